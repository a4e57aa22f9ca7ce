/- Walks of the reference's layer 5: one step of an expression. (Printed by wip/gen/ref6.py.) -/
import Derived.Test.YtngkedmndhmjcaaGreatDoorRef5
namespace Go.Proofs.YtngkedmndhmjcaaGreatDoor
open Go.RowKit

theorem rtakes2_spec (f : Int) : Spec Tryz.prog 71 [.int .u8 f, .bool true] [] [] (fun _ : Unit => .bool (takesB f)) (fun _ => []) (fun _ => []) := rtakes_spec f true
section
variable {x : Item} {l r : List Part} {p q : Part} {b : Bool} {mk : Bs} {k : Nat}
theorem how_cases (_ : ¬ (x.how = 1 ∨ x.how = 2)) : x.how = 3 ∨ x.how = 4 ∨ x.how = 5 ∨ x.how = 6 ∨ x.how = 7 ∨ (x.how < 3 ∨ 7 < x.how) := by omega
theorem st_op (h : x.how = 1 ∨ x.how = 2) : stepR l x = if 0 < (operandR x).tokens then some (operandR x :: l) else none := by unfold stepR; rw [if_pos h]
theorem st_op_v (h : x.how = 1 ∨ x.how = 2) : decide ((0 : Int) < (((operandR x).tokens : Nat) : Int)) = (stepR l x).isSome := by
  rw [st_op h]
  by_cases h0 : 0 < (operandR x).tokens
  · rw [if_pos h0, decide_eq_true (by omega)]; rfl
  · rw [if_neg h0, decide_eq_false (by omega)]; rfl
theorem st_op_r (h : x.how = 1 ∨ x.how = 2) (hr : stepR l x = some r) : l.reverse ++ [operandR x] = r.reverse := by
  rw [st_op h] at hr
  split at hr
  · cases hr; simp
  · cases hr
theorem st_bad (ho : ¬ (x.how = 1 ∨ x.how = 2)) (hb : x.how < 3 ∨ 7 < x.how ∨ x.nums ≠ [] ∨ x.name ≠ []) : stepR l x = none := by unfold stepR; rw [if_neg ho, if_pos hb]
theorem st_verb (ho : ¬ (x.how = 1 ∨ x.how = 2)) (hv : (verbR x).1 = []) : stepR l x = none := by
  unfold stepR
  rw [if_neg ho]
  split
  · rfl
  · first | rfl | rw [if_pos hv]
theorem st_short1 (ho : ¬ (x.how = 1 ∨ x.how = 2)) (hl : l.length < 1) : stepR l x = none := by
  match l, hl with
  | [], _ =>
    unfold stepR
    rw [if_neg ho]
    split
    · rfl
    · split
      · rfl
      · split <;> rfl
theorem st_short2 (ho : ¬ (x.how = 1 ∨ x.how = 2)) (ht : twoH x.how = true) (hl : l.length < 2) : stepR l x = none := by
  unfold stepR
  rw [if_neg ho, ht]
  match l, hl with
  | [], _ =>
    split
    · rfl
    · split <;> rfl
  | [_], _ =>
    split
    · rfl
    · split <;> rfl
  | _ :: _ :: _, hl => simp at hl; omega
theorem vr_bad (hb : (x.how != 3) = b) (h : textF b x.fn = [] ∨ x.how ≠ 3 ∧ x.how ≠ 4 ∧ takesB x.fn = false) : (verbR x).1 = [] := by
  subst hb
  unfold verbR
  rw [first_text]
  dsimp only
  rw [if_pos h]
theorem vr_ok (hb : (x.how != 3) = b) (h1 : textF b x.fn ≠ []) (h2 : x.how = 3 ∨ x.how = 4 ∨ takesB x.fn = true) (hm : markS x.how = mk) (hk : (if 5 ≤ x.how then 2 else 1) = k) : verbR x = (textF b x.fn ++ mk, k) := by
  subst hb hm hk
  unfold verbR
  rw [first_text]
  dsimp only
  rw [if_neg]
  rintro (h | ⟨h3, h4, h5⟩)
  · exact h1 h
  · rcases h2 with h | h | h
    · exact h3 h
    · exact h4 h
    · rw [h] at h5; cases h5
theorem vr_ok0 (hb : (x.how != 3) = b) (h1 : textF b x.fn ≠ []) (h2 : x.how = 3 ∨ x.how = 4) : verbR x = (textF b x.fn, 1) := by
  rw [vr_ok (mk := []) (k := 1) hb h1 (by rcases h2 with h | h <;> simp [h]) (by rcases h2 with h | h <;> simp [markS, h]) (by rcases h2 with h | h <;> simp [h]), List.append_nil]
variable {w : Bs}
theorem st_one (h3 : 3 ≤ x.how) (h7 : x.how ≤ 7) (hn : x.nums = []) (hm : x.name = []) (hv : verbR x = (w, k)) (hw : w ≠ []) (ht : twoH x.how = false) : stepR (p :: r) x = some (⟨(w ++ [32]) ++ p.s, false, k + p.tokens, p.nest⟩ :: r) := by
  unfold stepR
  rw [if_neg (by omega), if_neg, hv, if_neg hw, ht]
  · rfl
  · rintro (h | h | h | h)
    · omega
    · omega
    · exact h hn
    · exact h hm
theorem st_two (h3 : 3 ≤ x.how) (h7 : x.how ≤ 7) (hn : x.nums = []) (hm : x.name = []) (hv : verbR x = (w, k)) (hw : w ≠ []) (ht : twoH x.how = true) : stepR (p :: q :: r) x = some (⟨(((brkR q).s ++ [32]) ++ w ++ [32]) ++ p.s, false, (brkR q).tokens + k + p.tokens, max (brkR q).nest p.nest⟩ :: r) := by
  unfold stepR
  rw [if_neg (by omega), if_neg, hv, if_neg hw, ht]
  · rfl
  · rintro (h | h | h | h)
    · omega
    · omega
    · exact h hn
    · exact h hm
end
section
variable {α : Type} {x y : α} {r : List α}
theorem cons1G {l : List α} (h : 1 ≤ l.length) : ∃ p r, l = p :: r := by
  match l, h with
  | p :: r, _ => exact ⟨p, r, rfl⟩
theorem cons2G {l : List α} (h : 2 ≤ l.length) : ∃ p q r, l = p :: q :: r := by
  match l, h with
  | p :: q :: r, _ => exact ⟨p, q, r, rfl⟩
theorem rev1G : (x :: r).reverse[(r.length + 1) - 1]? = some x := by simp
theorem rev2G : (x :: y :: r).reverse[(r.length + 2) - 1]? = some x ∧ (x :: y :: r).reverse[(r.length + 2) - 2]? = some y := by
  constructor
  · simp
  · simp
end
theorem rcut1 {F : List Fact} {B : Option Addr} {e : Nat} {p : Part} {r : List Part} (h : Has F (partE.sl (.slice B (p :: r).reverse.length e) (p :: r).reverse)) : Has F (partE.sl (.slice B r.reverse.length e) r.reverse) := by
  have := has_take h (k := r.length) (by simp)
  rw [show r.reverse.length = r.length from List.length_reverse]
  rwa [show (p :: r).reverse.take r.length = r.reverse by simp] at this
theorem rcut2 {F : List Fact} {B : Option Addr} {e : Nat} {p q : Part} {r : List Part} (h : Has F (partE.sl (.slice B (p :: q :: r).reverse.length e) (p :: q :: r).reverse)) : Has F (partE.sl (.slice B r.reverse.length e) r.reverse) := by
  have := has_take h (k := r.length) (by simp)
  rw [show r.reverse.length = r.length from List.length_reverse]
  rwa [show (p :: q :: r).reverse.take r.length = r.reverse by simp] at this
theorem brk_len (p : Part) : (brkR p).s.length ≤ p.s.length + 2 ∧ (brkR p).tokens ≤ p.tokens + 2 ∧ (brkR p).nest ≤ p.nest + 1 := by
  unfold brkR
  split
  · exact ⟨by omega, by omega, by omega⟩
  · exact ⟨by simp, by simp, by simp⟩
theorem qrstep_zero_windrowref05_Part : (Tryz.prog.info? 99).bind (·.zero) = some (.agg #[.string (bs []), .bool false, .int .i64 0, .int .i64 0]) := by kernel_rfl
theorem qrstep_built_windrowref05_Part_023 (s0 : ByteArray) (z2 : Int) (z3 : Int) : Tryz.prog.built 99 [(0, .string s0), (2, .int .i64 z2), (3, .int .i64 z3)] = some #[.string s0, .bool false, .int .i64 z2, .int .i64 z3] := by kernel_rfl

set_option maxRecDepth 100000 in
theorem rstep_spec (B : Option Addr) (e : Nat) (st : List Part) (it : ItemV) (hz : ∀ z ∈ it.nums.list, -9223372036854775808 ≤ z ∧ z ≤ 9223372036854775807) (hl : st.length ≤ 1000000) (hok : ∀ p ∈ st, p.s.length ≤ 1000000000 ∧ p.tokens ≤ 1000000000 ∧ p.nest ≤ 1000000000) : Spec Tryz.prog 48 [.slice B st.reverse.length e, .agg #[.int .i64 it.how, .int .i64 it.at_, .int .u8 it.fn, .string (bs it.name), .slice it.nums.addr it.nums.list.length it.nums.cap]] [partE.row (.slice B st.reverse.length e) 99 st.reverse] [numF it] (fun (x : Option Addr × Nat × List Part) => .tuple #[.slice x.1 x.2.2.length x.2.1, .bool (stepR st it.it).isSome]) (fun (x : Option Addr × Nat × List Part) => [partE.row (.slice x.1 x.2.2.length x.2.1) 99 x.2.2]) (fun (x : Option Addr × Nat × List Part) => [Fact.pure (∀ r, stepR st it.it = some r → x.2.2 = r.reverse)]) := by
  have hT := refT_ok
  refine spec_of Tryz.func48 rfl Tryz.ntmps48 rfl ?_
  intro β hM
  refine sr ?_
  refine at_box rfl rfl rfl rfl rfl rfl fun b1 => ?_
  refine sp2 hT ?_
  refine nn ?_
  refine at_seq ?_
  refine sr ?_
  refine sp hT ?_
  refine ss (ldO hT (knows_own (off := 0) .head)) ?_
  refine sp2 hT ?_
  refine at_case (fun hg17 => ?_) (fun hg17 => ?_)
  · have hg17 := eq_of_beq hg17
    refine sk3 ?_
    refine sp hT ?_
    refine nn ?_
    refine at_true rfl rfl ?_
    refine at_seq ?_
    have hop : it.it.how = 1 ∨ it.it.how = 2 := by first | exact .inl (by assumption) | exact .inr (by assumption)
    refine at_region ?_
    refine ss (ldN hT (knows_own (off := 0) .head)) ?_
    refine at_call (callFunc_enter Tryz.func69 rfl rfl) (roperand_spec it hz) rfl rfl rfl rfl rfl .nil ⟨(Has.of mT0), trivial⟩ fun _ => ?_
    refine at_alloc rfl rfl rfl rfl qrstep_zero_windrowref05_Part rfl fun b2 => ?_
    refine sto hT .head ?_
    refine nn ?_
    refine at_seq ?_
    refine at_mix _ _ [(true, 0), (true, 1), (true, 4), (true, 5), (true, 6), (false, 2), (false, 3), (true, 7), (true, 8)] mixes (by decide +kernel) (.cons .head (.cons .head .nil)) HasAll.self ?_
    refine atm_sti rfl rfl rfl rfl (sti_pure hT rfl) ?_
    refine atm_sti rfl rfl rfl rfl (ldN hT (knows_own (off := 0) .head)) ?_
    refine atm_sti rfl rfl rfl rfl (sti_pure hT rfl) ?_
    refine atm_sti rfl rfl rfl rfl (ldO hT (knows_own (off := 2) .head)) ?_
    refine atm_sti rfl rfl rfl rfl (sti_pure hT rfl) ?_
    refine atm_op (o := _) rfl ?_
    refine at_one_part (m := (operandR it.it)) rfl rfl rfl rfl rfl fun b3 => ?_
    refine atm_go (.cons kT1 (.cons kT1 .nil)) (HasAll.drop 0) ?_
    refine atm_op (o := _) rfl ?_
    refine at_app_part kT3 (reads_obj .head rfl) rfl rfl rfl rfl rfl rfl rfl (by first | (simp only [List.length_singleton]; omega) | (simp; omega)) fun A4 c5 => ?_
    refine atm_go (.cons kT2 (.cons kT2 .nil)) (HasAll.drop 0) ?_
    refine atm_sti rfl rfl rfl rfl (sti_pure hT rfl) ?_
    refine atm_sti rfl rfl rfl rfl (sti_pure hT rfl) ?_
    refine atm_nil ?_
    refine n_then ?_
    refine at_ret ?_
    refine r_then ?_
    exact at_res2 (_, _, (st.reverse ++ [(operandR it.it)])) rfl (rv_tmp rfl) (rv_tmp rfl) (.cons .head .nil) ⟨Has.pure (fun r hr => st_op_r hop hr), trivial⟩ (congrArg (fun b : Bool => Value.tuple #[_, .bool b]) (st_op_v hop))
  have hg17 := beq_eq_false_iff_ne.1 hg17
  refine sp hT ?_
  refine ss (ldO hT (knows_own (off := 0) .head)) ?_
  refine sp2 hT ?_
  refine nn ?_
  refine at_cond rfl (fun hc21 => ?_) (fun hc21 => ?_)
  · have hc21_r := hc21
    have hc21 := eq_of_beq hc21
    refine at_seq ?_
    have hop : it.it.how = 1 ∨ it.it.how = 2 := by first | exact .inl (by assumption) | exact .inr (by assumption)
    refine at_region ?_
    refine ss (ldN hT (knows_own (off := 0) .head)) ?_
    refine at_call (callFunc_enter Tryz.func69 rfl rfl) (roperand_spec it hz) rfl rfl rfl rfl rfl .nil ⟨(Has.of mT0), trivial⟩ fun _ => ?_
    refine at_alloc rfl rfl rfl rfl qrstep_zero_windrowref05_Part rfl fun b6 => ?_
    refine sto hT .head ?_
    refine nn ?_
    refine at_seq ?_
    refine at_mix _ _ [(true, 0), (true, 1), (true, 4), (true, 5), (true, 6), (false, 2), (false, 3), (true, 7), (true, 8)] mixes (by decide +kernel) (.cons .head (.cons .head .nil)) HasAll.self ?_
    refine atm_sti rfl rfl rfl rfl (sti_pure hT rfl) ?_
    refine atm_sti rfl rfl rfl rfl (ldN hT (knows_own (off := 0) .head)) ?_
    refine atm_sti rfl rfl rfl rfl (sti_pure hT rfl) ?_
    refine atm_sti rfl rfl rfl rfl (ldO hT (knows_own (off := 2) .head)) ?_
    refine atm_sti rfl rfl rfl rfl (sti_pure hT rfl) ?_
    refine atm_op (o := _) rfl ?_
    refine at_one_part (m := (operandR it.it)) rfl rfl rfl rfl rfl fun b7 => ?_
    refine atm_go (.cons kT1 (.cons kT1 .nil)) (HasAll.drop 0) ?_
    refine atm_op (o := _) rfl ?_
    refine at_app_part kT3 (reads_obj .head rfl) rfl rfl rfl rfl rfl rfl rfl (by first | (simp only [List.length_singleton]; omega) | (simp; omega)) fun A8 c9 => ?_
    refine atm_go (.cons kT2 (.cons kT2 .nil)) (HasAll.drop 0) ?_
    refine atm_sti rfl rfl rfl rfl (sti_pure hT rfl) ?_
    refine atm_sti rfl rfl rfl rfl (sti_pure hT rfl) ?_
    refine atm_nil ?_
    refine n_then ?_
    refine at_ret ?_
    refine r_then ?_
    exact at_res2 (_, _, (st.reverse ++ [(operandR it.it)])) rfl (rv_tmp rfl) (rv_tmp rfl) (.cons .head .nil) ⟨Has.pure (fun r hr => st_op_r hop hr), trivial⟩ (congrArg (fun b : Bool => Value.tuple #[_, .bool b]) (st_op_v hop))
  have hc21_r := hc21
  have hc21 := beq_eq_false_iff_ne.1 hc21
  refine at_skip ?_
  refine n_then ?_
  refine at_seq ?_
  have hno : ¬ (it.it.how = 1 ∨ it.it.how = 2) := by (have h1 : it.how ≠ 1 := by assumption); (have h2 : it.how ≠ 2 := by assumption); exact not_or.2 ⟨h1, h2⟩
  refine at_cap kT1 fun hcap => ?_
  refine at_freeze kT1 ?_
  rcases how_cases hno with hh | hh | hh | hh | hh | hh
  · refine at_region ?_
    refine sp hT ?_
    refine ss (ldO hT (knows_own (off := 0) .head)) ?_
    refine at_int (z' := ((3 : Nat) : Int)) hh ?_
    refine sp hT ?_
    refine at_bool (t' := false) (by decide) ?_
    refine sp2 hT ?_
    refine ss (ldO hT (knows_own (off := 0) .head)) ?_
    refine at_int (z' := ((3 : Nat) : Int)) hh ?_
    refine sp hT ?_
    refine at_bool (t' := false) (by decide) ?_
    refine sp2 hT ?_
    refine nn ?_
    refine at_seq ?_
    refine sr ?_
    refine sp hT ?_
    refine ss (ldO hT (knows_own (off := 0) .head)) ?_
    refine at_int (z' := ((3 : Nat) : Int)) hh ?_
    refine sp hT ?_
    refine at_bool (t' := false) (by decide) ?_
    refine sp2 hT ?_
    refine ss (ldO hT (knows_own (off := 0) .head)) ?_
    refine at_int (z' := ((3 : Nat) : Int)) hh ?_
    refine sp hT ?_
    refine at_bool (t' := false) (by decide) ?_
    refine sp3 hT ?_
    refine ss (ldO hT (knows_own (off := 4) .head)) ?_
    refine sp4 hT ?_
    refine at_case (fun hg53 => ?_) (fun hg53 => ?_)
    · have hg53 := of_decide_eq_true hg53
      refine sk3 ?_
      refine sp2 hT ?_
      refine sk3 ?_
      refine sp2 hT ?_
      refine sk4 ?_
      refine sk2 ?_
      refine sp hT ?_
      refine nn ?_
      refine at_true rfl rfl ?_
      refine sr ?_
      refine sp2 hT ?_
      refine nn ?_
      refine at_ret ?_
      refine r_then ?_
      refine at_nilrow' (t := 99) partE ?_
      have hs : stepR st it.it = none := by first | exact st_bad hno (by first | exact .inl (show it.how < 3 by omega) | exact .inr (.inl (show 7 < it.how by omega)) | exact .inr (.inr (.inl (nums_ne (by omega)))) | exact .inr (.inr (.inr (by assumption)))) | exact st_short2 hno (by rw [show it.it.how = _ from hh]; rfl) (by omega) | exact st_short1 hno (by omega)
      exact at_res2 (none, 0, []) rfl (rv_tmp rfl) (rv_tmp rfl) (.cons .head .nil) ⟨Has.pure (fun r hr => by rw [hs] at hr; cases hr), trivial⟩ (by rw [hs]; rfl)
    have hg53 := Int.not_lt.1 (of_decide_eq_false hg53)
    refine sp hT ?_
    refine ss (ldO hT (knows_own (off := 3) .head)) ?_
    refine sp3 hT ?_
    refine at_case (fun hg58 => ?_) (fun hg58 => ?_)
    · have hg58 : it.name ≠ ([] : Bs) := fun h => by rw [h] at hg58; first | (simp at hg58; done) | exact absurd hg58 (by decide)
      refine sk3 ?_
      refine sp2 hT ?_
      refine sk4 ?_
      refine sk2 ?_
      refine sp hT ?_
      refine nn ?_
      refine at_true rfl rfl ?_
      refine sr ?_
      refine sp2 hT ?_
      refine nn ?_
      refine at_ret ?_
      refine r_then ?_
      refine at_nilrow' (t := 99) partE ?_
      have hs : stepR st it.it = none := by first | exact st_bad hno (by first | exact .inl (show it.how < 3 by omega) | exact .inr (.inl (show 7 < it.how by omega)) | exact .inr (.inr (.inl (nums_ne (by omega)))) | exact .inr (.inr (.inr (by assumption)))) | exact st_short2 hno (by rw [show it.it.how = _ from hh]; rfl) (by omega) | exact st_short1 hno (by omega)
      exact at_res2 (none, 0, []) rfl (rv_tmp rfl) (rv_tmp rfl) (.cons .head .nil) ⟨Has.pure (fun r hr => by rw [hs] at hr; cases hr), trivial⟩ (by rw [hs]; rfl)
    have hg58 : it.name = ([] : Bs) := eq_of_beq (not_f hg58)
    refine sp2 hT ?_
    refine at_int (z' := ((st.length : Nat) : Int)) (congrArg Nat.cast List.length_reverse) ?_
    refine sp3 hT ?_
    refine at_case (fun hg63 => ?_) (fun hg63 => ?_)
    · have hg63 := of_decide_eq_true hg63
      refine sk4 ?_
      refine sk2 ?_
      refine sp hT ?_
      refine nn ?_
      refine at_true rfl rfl ?_
      refine sr ?_
      refine sp2 hT ?_
      refine nn ?_
      refine at_ret ?_
      refine r_then ?_
      refine at_nilrow' (t := 99) partE ?_
      have hs : stepR st it.it = none := by first | exact st_bad hno (by first | exact .inl (show it.how < 3 by omega) | exact .inr (.inl (show 7 < it.how by omega)) | exact .inr (.inr (.inl (nums_ne (by omega)))) | exact .inr (.inr (.inr (by assumption)))) | exact st_short2 hno (by rw [show it.it.how = _ from hh]; rfl) (by omega) | exact st_short1 hno (by omega)
      exact at_res2 (none, 0, []) rfl (rv_tmp rfl) (rv_tmp rfl) (.cons .head .nil) ⟨Has.pure (fun r hr => by rw [hs] at hr; cases hr), trivial⟩ (by rw [hs]; rfl)
    have hg63 := Int.not_lt.1 (of_decide_eq_false hg63)
    refine sp2 hT ?_
    refine sk3 ?_
    refine sp2 hT ?_
    refine nn ?_
    refine at_false rfl rfl ?_
    refine at_skip ?_
    refine n_then ?_
    refine at_seq ?_
    obtain ⟨p1, st, rfl⟩ := cons1G (l := st) (by omega)
    have hk1 := hok p1 (by simp)
    simp only [List.length_cons] at hl
    simp only [List.length_reverse, List.length_cons] at hcap
    refine at_region ?_
    refine sp3 hT ?_
    refine at_int (z' := (((st.length + 1) : Nat) : Int)) (by simp) ?_
    refine sp hT ?_
    refine at_int (z' := ((((st.length + 1) - 1) : Nat) : Int)) (wrapN (by omega) (by omega)) ?_
    refine ss (sti_index hT (k := ((st.length + 1) - 1)) (reads_fact (Has.of mT0)) rfl rfl rfl rfl rfl rfl rfl (by first | omega | (simp; done) | (simp; omega))) ?_
    refine ss (sti_loadN hT (Reads.knows (reads_fact (Has.of mT0)) (k := ((st.length + 1) - 1)) (x := p1) rev1G 0) rfl rfl rfl rfl rfl) ?_
    refine at_alloc rfl rfl rfl rfl qrstep_zero_windrowref05_Part rfl fun b10 => ?_
    refine sto hT .head ?_
    refine nn ?_
    refine sr ?_
    refine sp hT ?_
    refine ss (ldO hT (knows_own (off := 2) kT1)) ?_
    refine sp hT ?_
    refine ss (ldO hT (knows_own (off := 0) kT1)) ?_
    refine at_int (z' := ((3 : Nat) : Int)) hh ?_
    refine sp hT ?_
    refine at_bool (t' := false) (by decide) ?_
    refine at_call (callFunc_enter Tryz.func70 rfl rfl) (rverb5_spec it.fn false) rfl rfl rfl rfl rfl .nil trivial fun _ => ?_
    have hb3 : (it.it.how != 3) = false := by rw [show it.it.how = 3 from hh]; rfl
    have htl := textF_len false it.fn
    refine sp hT ?_
    refine nn ?_
    refine at_seq ?_
    refine sr ?_
    refine sp3 hT ?_
    refine at_case (fun hg85 => ?_) (fun hg85 => ?_)
    · have hg85 : (textF false it.fn) = ([] : Bs) := eq_of_beq hg85
      refine sk4 ?_
      refine sk4 ?_
      refine sk4 ?_
      refine sk2 ?_
      refine sp hT ?_
      refine nn ?_
      refine at_true rfl rfl ?_
      refine sr ?_
      refine sp2 hT ?_
      refine nn ?_
      refine at_ret ?_
      refine r_then ?_
      refine at_nilrow' (t := 99) partE ?_
      have hs : stepR (p1 :: st) it.it = none := st_verb hno (vr_bad hb3 (by first | exact .inl (by assumption) | exact .inr ⟨by rw [show it.it.how = _ from hh]; decide, by rw [show it.it.how = _ from hh]; decide, by assumption⟩))
      exact at_res2 (none, 0, []) rfl (rv_tmp rfl) (rv_tmp rfl) (.cons .head .nil) ⟨Has.pure (fun r hr => by rw [hs] at hr; cases hr), trivial⟩ (by rw [hs]; rfl)
    have hg85 : (textF false it.fn) ≠ ([] : Bs) := fun h => absurd (beq_iff_eq.2 h) (by rw [show ((textF false it.fn) == ([] : Bs)) = false from hg85]; simp)
    refine sp hT ?_
    refine ss (ldO hT (knows_own (off := 0) kT1)) ?_
    refine at_int (z' := ((3 : Nat) : Int)) hh ?_
    refine sp hT ?_
    refine at_bool (t' := false) (by decide) ?_
    refine sp hT ?_
    refine sk3 ?_
    refine sp2 hT ?_
    refine sk4 ?_
    refine sp2 hT ?_
    refine nn ?_
    refine at_false rfl rfl ?_
    refine at_skip ?_
    refine n_then ?_
    refine sr ?_
    refine sp hT ?_
    refine nn ?_
    refine at_seq ?_
    refine sr ?_
    refine sp hT ?_
    refine ss (ldO hT (knows_own (off := 0) kT1)) ?_
    refine at_int (z' := ((3 : Nat) : Int)) hh ?_
    refine nn ?_
    refine at_block ?_
    refine sr ?_
    refine sp hT ?_
    refine at_bool (t' := false) (by decide) ?_
    refine sp hT ?_
    refine nn ?_
    refine at_false rfl rfl ?_
    refine sr ?_
    refine sp hT ?_
    refine at_bool (t' := false) (by decide) ?_
    refine sp hT ?_
    refine nn ?_
    refine at_false rfl rfl ?_
    refine sr ?_
    refine sp hT ?_
    refine at_bool (t' := false) (by decide) ?_
    refine sp hT ?_
    refine nn ?_
    refine at_false rfl rfl ?_
    refine at_skip ?_
    refine n_block ?_
    refine n_then ?_
    refine at_seq ?_
    refine at_seq ?_
    have hmk := vr_ok0 hb3 (by assumption) (by first | exact .inl hh | exact .inr hh)
    have hwn : (textF false it.fn) ≠ [] := by first | assumption | simp
    refine at_region ?_
    refine sp2 hT ?_
    refine nn ?_
    refine at_true rfl rfl ?_
    refine sr ?_
    refine sp hT ?_
    refine ss (sti_cat rfl rfl rfl (by first | omega | (simp; omega))) ?_
    refine sp hT ?_
    refine ss (ldO hT (knows_own (off := 0) .head)) ?_
    refine ss (sti_cat rfl rfl rfl (by first | omega | (simp; omega))) ?_
    refine sp2 hT ?_
    refine ss (ldO hT (knows_own (off := 2) .head)) ?_
    refine sp hT ?_
    refine at_int (z' := (((1 + p1.tokens) : Nat) : Int)) (wrapN (by omega) (by omega)) ?_
    refine sp hT ?_
    refine ss (ldO hT (knows_own (off := 3) .head)) ?_
    refine ss (sti_build rfl rfl (qrstep_built_windrowref05_Part_023 _ _ _)) ?_
    refine at_alloc rfl rfl rfl rfl qrstep_zero_windrowref05_Part rfl fun b11 => ?_
    refine sto hT .head ?_
    refine nn ?_
    refine at_seq ?_
    refine at_fact (partE.sl (.slice B st.reverse.length e) st.reverse) (rcut1 (Has.of mT0)) ?_
    refine at_mixT _ _ (.fl 1 (.fl 2 (.fl 3 (.fl 4 (.fl 5 (.fl 7 (.two 0 8 (.two 6 8 (.op 8 (.op 9 (.fl 10 (.fl 11 .nil)))) (.op 6 (.op 9 (.fl 10 (.fl 11 .nil))))) (.op 0 (.op 6 (.op 9 (.fl 10 (.fl 11 .nil)))))))))))) mixes (by decide +kernel) (.cons .head (.cons .head (.cons .head .nil))) HasAll.self ?_
    refine att_sti rfl rfl rfl rfl (sti_pure hT rfl) ?_
    refine att_sti rfl rfl rfl rfl (sti_pure hT rfl) ?_
    refine att_sti rfl rfl rfl rfl (sti_pure hT rfl) ?_
    refine at_int (z' := (((st.length + 1) : Nat) : Int)) (by simp) ?_
    refine att_sti rfl rfl rfl rfl (sti_pure hT rfl) ?_
    refine at_int (z' := ((((st.length + 1) - 1) : Nat) : Int)) (wrapN (by omega) (by omega)) ?_
    refine att_sti rfl rfl rfl rfl (sti_cutTo hT (k := st.reverse.length) rfl rfl rfl rfl rfl (by simp) (by simp; omega)) ?_
    refine att_sti rfl rfl rfl rfl (ldN hT (knows_own (off := 0) .head)) ?_
    refine att_two (o := _) (o' := _) rfl rfl ?_ ?_
    · refine at_none_part rfl rfl rfl rfl fun b12 => ?_
      refine att_go (.cons kT1 (.cons kT1 (.cons kT1 .nil))) (HasAll.drop 0) ?_
      refine att_two (o := _) (o' := _) rfl rfl ?_ ?_
      · refine at_app_part .head (reads_fact (Has.of mT0)) rfl rfl rfl rfl rfl rfl rfl (by first | (simp only [List.length_singleton]; omega) | (simp; omega)) fun A13 c14 => ?_
        refine att_go (.cons kT1 (.cons kT1 (.cons kT1 .nil))) (HasAll.drop 0) ?_
        refine att_op (o := _) rfl ?_
        refine at_one_part (m := (⟨(((textF false it.fn) ++ ([32] : Bs)) ++ p1.s), false, (1 + p1.tokens), p1.nest⟩ : Part)) rfl rfl rfl rfl rfl fun b15 => ?_
        refine att_go (.cons kT2 (.cons kT2 (.cons kT2 .nil))) (HasAll.drop 0) ?_
        refine att_op (o := _) rfl ?_
        refine at_app_part kT1 (reads_obj .head rfl) rfl rfl rfl rfl rfl rfl rfl (by first | (simp only [List.length_singleton]; omega) | (simp; omega)) fun A16 c17 => ?_
        refine att_go (.cons kT2 (.cons kT2 (.cons kT2 .nil))) (HasAll.drop 0) ?_
        refine att_sti rfl rfl rfl rfl (sti_pure hT rfl) ?_
        refine att_sti rfl rfl rfl rfl (sti_pure hT rfl) ?_
        refine att_nil ?_
        refine n_then ?_
        refine at_ret ?_
        refine r_then ?_
        have hs := st_one (p := p1) (r := st) (x := it.it) (by rw [show it.it.how = _ from hh]; decide) (by rw [show it.it.how = _ from hh]; decide) (nums_nil (by omega)) (by assumption) hmk hwn (by rw [show it.it.how = _ from hh]; rfl)
        exact at_res2 (_, _, (([] ++ st.reverse) ++ [(⟨(((textF false it.fn) ++ ([32] : Bs)) ++ p1.s), false, (1 + p1.tokens), p1.nest⟩ : Part)])) rfl (rv_tmp rfl) (rv_tmp rfl) (.cons .head .nil) ⟨Has.pure (fun r hr => by rw [hs] at hr; cases hr; first | (simp; done) | (simp; rfl)), trivial⟩ (by rw [hs]; rfl)
      refine at_one_part (m := (⟨(((textF false it.fn) ++ ([32] : Bs)) ++ p1.s), false, (1 + p1.tokens), p1.nest⟩ : Part)) rfl rfl rfl rfl rfl fun b18 => ?_
      refine att_go (.cons kT2 (.cons kT2 (.cons kT2 .nil))) (HasAll.drop 0) ?_
      refine att_op (o := _) rfl ?_
      refine at_app_part kT1 (reads_fact (Has.of mT0)) rfl rfl rfl rfl rfl rfl rfl (by first | (simp only [List.length_singleton]; omega) | (simp; omega)) fun A19 c20 => ?_
      refine att_go (.cons kT2 (.cons kT2 (.cons kT2 .nil))) (HasAll.drop 0) ?_
      refine att_op (o := _) rfl ?_
      refine at_app_part .head (reads_obj kT1 rfl) rfl rfl rfl rfl rfl rfl rfl (by first | (simp only [List.length_singleton]; omega) | (simp; omega)) fun A21 c22 => ?_
      refine att_go (.cons kT2 (.cons kT2 (.cons kT2 .nil))) (HasAll.drop 0) ?_
      refine att_sti rfl rfl rfl rfl (sti_pure hT rfl) ?_
      refine att_sti rfl rfl rfl rfl (sti_pure hT rfl) ?_
      refine att_nil ?_
      refine n_then ?_
      refine at_ret ?_
      refine r_then ?_
      have hs := st_one (p := p1) (r := st) (x := it.it) (by rw [show it.it.how = _ from hh]; decide) (by rw [show it.it.how = _ from hh]; decide) (nums_nil (by omega)) (by assumption) hmk hwn (by rw [show it.it.how = _ from hh]; rfl)
      exact at_res2 (_, _, (([] ++ st.reverse) ++ [(⟨(((textF false it.fn) ++ ([32] : Bs)) ++ p1.s), false, (1 + p1.tokens), p1.nest⟩ : Part)])) rfl (rv_tmp rfl) (rv_tmp rfl) (.cons .head .nil) ⟨Has.pure (fun r hr => by rw [hs] at hr; cases hr; first | (simp; done) | (simp; rfl)), trivial⟩ (by rw [hs]; rfl)
    refine at_one_part (m := (⟨(((textF false it.fn) ++ ([32] : Bs)) ++ p1.s), false, (1 + p1.tokens), p1.nest⟩ : Part)) rfl rfl rfl rfl rfl fun b23 => ?_
    refine att_go (.cons kT1 (.cons kT1 (.cons kT1 .nil))) (HasAll.drop 0) ?_
    refine att_op (o := _) rfl ?_
    refine at_none_part rfl rfl rfl rfl fun b24 => ?_
    refine att_go (.cons kT2 (.cons kT2 (.cons kT2 .nil))) (HasAll.drop 0) ?_
    refine att_op (o := _) rfl ?_
    refine at_app_part .head (reads_fact (Has.of mT0)) rfl rfl rfl rfl rfl rfl rfl (by first | (simp only [List.length_singleton]; omega) | (simp; omega)) fun A25 c26 => ?_
    refine att_go (.cons kT2 (.cons kT2 (.cons kT2 .nil))) (HasAll.drop 0) ?_
    refine att_op (o := _) rfl ?_
    refine at_app_part .head (reads_obj kT1 rfl) rfl rfl rfl rfl rfl rfl rfl (by first | (simp only [List.length_singleton]; omega) | (simp; omega)) fun A27 c28 => ?_
    refine att_go (.cons kT2 (.cons kT2 (.cons kT2 .nil))) (HasAll.drop 0) ?_
    refine att_sti rfl rfl rfl rfl (sti_pure hT rfl) ?_
    refine att_sti rfl rfl rfl rfl (sti_pure hT rfl) ?_
    refine att_nil ?_
    refine n_then ?_
    refine at_ret ?_
    refine r_then ?_
    have hs := st_one (p := p1) (r := st) (x := it.it) (by rw [show it.it.how = _ from hh]; decide) (by rw [show it.it.how = _ from hh]; decide) (nums_nil (by omega)) (by assumption) hmk hwn (by rw [show it.it.how = _ from hh]; rfl)
    exact at_res2 (_, _, (([] ++ st.reverse) ++ [(⟨(((textF false it.fn) ++ ([32] : Bs)) ++ p1.s), false, (1 + p1.tokens), p1.nest⟩ : Part)])) rfl (rv_tmp rfl) (rv_tmp rfl) (.cons .head .nil) ⟨Has.pure (fun r hr => by rw [hs] at hr; cases hr; first | (simp; done) | (simp; rfl)), trivial⟩ (by rw [hs]; rfl)
  · refine at_region ?_
    refine sp hT ?_
    refine ss (ldO hT (knows_own (off := 0) .head)) ?_
    refine at_int (z' := ((4 : Nat) : Int)) hh ?_
    refine sp hT ?_
    refine at_bool (t' := true) (by decide) ?_
    refine sp hT ?_
    refine sk3 ?_
    refine sp2 hT ?_
    refine nn ?_
    refine at_seq ?_
    refine sr ?_
    refine sp hT ?_
    refine ss (ldO hT (knows_own (off := 0) .head)) ?_
    refine at_int (z' := ((4 : Nat) : Int)) hh ?_
    refine sp hT ?_
    refine at_bool (t' := false) (by decide) ?_
    refine sp2 hT ?_
    refine ss (ldO hT (knows_own (off := 0) .head)) ?_
    refine at_int (z' := ((4 : Nat) : Int)) hh ?_
    refine sp hT ?_
    refine at_bool (t' := false) (by decide) ?_
    refine sp3 hT ?_
    refine ss (ldO hT (knows_own (off := 4) .head)) ?_
    refine sp4 hT ?_
    refine at_case (fun hg53 => ?_) (fun hg53 => ?_)
    · have hg53 := of_decide_eq_true hg53
      refine sk3 ?_
      refine sp2 hT ?_
      refine sk3 ?_
      refine sp2 hT ?_
      refine sk4 ?_
      refine sk2 ?_
      refine sp hT ?_
      refine nn ?_
      refine at_true rfl rfl ?_
      refine sr ?_
      refine sp2 hT ?_
      refine nn ?_
      refine at_ret ?_
      refine r_then ?_
      refine at_nilrow' (t := 99) partE ?_
      have hs : stepR st it.it = none := by first | exact st_bad hno (by first | exact .inl (show it.how < 3 by omega) | exact .inr (.inl (show 7 < it.how by omega)) | exact .inr (.inr (.inl (nums_ne (by omega)))) | exact .inr (.inr (.inr (by assumption)))) | exact st_short2 hno (by rw [show it.it.how = _ from hh]; rfl) (by omega) | exact st_short1 hno (by omega)
      exact at_res2 (none, 0, []) rfl (rv_tmp rfl) (rv_tmp rfl) (.cons .head .nil) ⟨Has.pure (fun r hr => by rw [hs] at hr; cases hr), trivial⟩ (by rw [hs]; rfl)
    have hg53 := Int.not_lt.1 (of_decide_eq_false hg53)
    refine sp hT ?_
    refine ss (ldO hT (knows_own (off := 3) .head)) ?_
    refine sp3 hT ?_
    refine at_case (fun hg58 => ?_) (fun hg58 => ?_)
    · have hg58 : it.name ≠ ([] : Bs) := fun h => by rw [h] at hg58; first | (simp at hg58; done) | exact absurd hg58 (by decide)
      refine sk3 ?_
      refine sp2 hT ?_
      refine sk4 ?_
      refine sk2 ?_
      refine sp hT ?_
      refine nn ?_
      refine at_true rfl rfl ?_
      refine sr ?_
      refine sp2 hT ?_
      refine nn ?_
      refine at_ret ?_
      refine r_then ?_
      refine at_nilrow' (t := 99) partE ?_
      have hs : stepR st it.it = none := by first | exact st_bad hno (by first | exact .inl (show it.how < 3 by omega) | exact .inr (.inl (show 7 < it.how by omega)) | exact .inr (.inr (.inl (nums_ne (by omega)))) | exact .inr (.inr (.inr (by assumption)))) | exact st_short2 hno (by rw [show it.it.how = _ from hh]; rfl) (by omega) | exact st_short1 hno (by omega)
      exact at_res2 (none, 0, []) rfl (rv_tmp rfl) (rv_tmp rfl) (.cons .head .nil) ⟨Has.pure (fun r hr => by rw [hs] at hr; cases hr), trivial⟩ (by rw [hs]; rfl)
    have hg58 : it.name = ([] : Bs) := eq_of_beq (not_f hg58)
    refine sp2 hT ?_
    refine at_int (z' := ((st.length : Nat) : Int)) (congrArg Nat.cast List.length_reverse) ?_
    refine sp3 hT ?_
    refine at_case (fun hg63 => ?_) (fun hg63 => ?_)
    · have hg63 := of_decide_eq_true hg63
      refine sk4 ?_
      refine sk2 ?_
      refine sp hT ?_
      refine nn ?_
      refine at_true rfl rfl ?_
      refine sr ?_
      refine sp2 hT ?_
      refine nn ?_
      refine at_ret ?_
      refine r_then ?_
      refine at_nilrow' (t := 99) partE ?_
      have hs : stepR st it.it = none := by first | exact st_bad hno (by first | exact .inl (show it.how < 3 by omega) | exact .inr (.inl (show 7 < it.how by omega)) | exact .inr (.inr (.inl (nums_ne (by omega)))) | exact .inr (.inr (.inr (by assumption)))) | exact st_short2 hno (by rw [show it.it.how = _ from hh]; rfl) (by omega) | exact st_short1 hno (by omega)
      exact at_res2 (none, 0, []) rfl (rv_tmp rfl) (rv_tmp rfl) (.cons .head .nil) ⟨Has.pure (fun r hr => by rw [hs] at hr; cases hr), trivial⟩ (by rw [hs]; rfl)
    have hg63 := Int.not_lt.1 (of_decide_eq_false hg63)
    refine sp4 hT ?_
    refine at_int (z' := ((st.length : Nat) : Int)) (congrArg Nat.cast List.length_reverse) ?_
    refine sp3 hT ?_
    refine nn ?_
    refine at_cond rfl (fun hc70 => ?_) (fun hc70 => ?_)
    · have hc70_r := hc70
      have hc70 := of_decide_eq_true hc70
      refine sr ?_
      refine sp2 hT ?_
      refine nn ?_
      refine at_ret ?_
      refine r_then ?_
      refine at_nilrow' (t := 99) partE ?_
      have hs : stepR st it.it = none := by first | exact st_bad hno (by first | exact .inl (show it.how < 3 by omega) | exact .inr (.inl (show 7 < it.how by omega)) | exact .inr (.inr (.inl (nums_ne (by omega)))) | exact .inr (.inr (.inr (by assumption)))) | exact st_short2 hno (by rw [show it.it.how = _ from hh]; rfl) (by omega) | exact st_short1 hno (by omega)
      exact at_res2 (none, 0, []) rfl (rv_tmp rfl) (rv_tmp rfl) (.cons .head .nil) ⟨Has.pure (fun r hr => by rw [hs] at hr; cases hr), trivial⟩ (by rw [hs]; rfl)
    have hc70_r := hc70
    have hc70 := Int.not_lt.1 (of_decide_eq_false hc70)
    refine at_skip ?_
    refine n_then ?_
    refine at_seq ?_
    obtain ⟨p1, q1, st, rfl⟩ := cons2G (l := st) (by omega)
    have hk2 := hok q1 (by simp)
    have hk1 := hok p1 (by simp)
    simp only [List.length_cons] at hl
    simp only [List.length_reverse, List.length_cons] at hcap
    refine at_region ?_
    refine sp3 hT ?_
    refine at_int (z' := (((st.length + 2) : Nat) : Int)) (by simp) ?_
    refine sp hT ?_
    refine at_int (z' := ((((st.length + 2) - 1) : Nat) : Int)) (wrapN (by omega) (by omega)) ?_
    refine ss (sti_index hT (k := ((st.length + 2) - 1)) (reads_fact (Has.of mT0)) rfl rfl rfl rfl rfl rfl rfl (by first | omega | (simp; done) | (simp; omega))) ?_
    refine ss (sti_loadN hT (Reads.knows (reads_fact (Has.of mT0)) (k := ((st.length + 2) - 1)) (x := p1) rev2G.1 0) rfl rfl rfl rfl rfl) ?_
    refine at_alloc rfl rfl rfl rfl qrstep_zero_windrowref05_Part rfl fun b29 => ?_
    refine sto hT .head ?_
    refine nn ?_
    refine sr ?_
    refine sp hT ?_
    refine ss (ldO hT (knows_own (off := 2) kT1)) ?_
    refine sp hT ?_
    refine ss (ldO hT (knows_own (off := 0) kT1)) ?_
    refine at_int (z' := ((4 : Nat) : Int)) hh ?_
    refine sp hT ?_
    refine at_bool (t' := true) (by decide) ?_
    refine at_call (callFunc_enter Tryz.func70 rfl rfl) (rverb5_spec it.fn true) rfl rfl rfl rfl rfl .nil trivial fun _ => ?_
    have hb3 : (it.it.how != 3) = true := by rw [show it.it.how = 4 from hh]; rfl
    have htl := textF_len true it.fn
    refine sp hT ?_
    refine nn ?_
    refine at_seq ?_
    refine sr ?_
    refine sp3 hT ?_
    refine at_case (fun hg85 => ?_) (fun hg85 => ?_)
    · have hg85 : (textF true it.fn) = ([] : Bs) := eq_of_beq hg85
      refine sk4 ?_
      refine sk4 ?_
      refine sk4 ?_
      refine sk2 ?_
      refine sp hT ?_
      refine nn ?_
      refine at_true rfl rfl ?_
      refine sr ?_
      refine sp2 hT ?_
      refine nn ?_
      refine at_ret ?_
      refine r_then ?_
      refine at_nilrow' (t := 99) partE ?_
      have hs : stepR (p1 :: q1 :: st) it.it = none := st_verb hno (vr_bad hb3 (by first | exact .inl (by assumption) | exact .inr ⟨by rw [show it.it.how = _ from hh]; decide, by rw [show it.it.how = _ from hh]; decide, by assumption⟩))
      exact at_res2 (none, 0, []) rfl (rv_tmp rfl) (rv_tmp rfl) (.cons .head .nil) ⟨Has.pure (fun r hr => by rw [hs] at hr; cases hr), trivial⟩ (by rw [hs]; rfl)
    have hg85 : (textF true it.fn) ≠ ([] : Bs) := fun h => absurd (beq_iff_eq.2 h) (by rw [show ((textF true it.fn) == ([] : Bs)) = false from hg85]; simp)
    refine sp hT ?_
    refine ss (ldO hT (knows_own (off := 0) kT1)) ?_
    refine at_int (z' := ((4 : Nat) : Int)) hh ?_
    refine sp hT ?_
    refine at_bool (t' := true) (by decide) ?_
    refine sp2 hT ?_
    refine ss (ldO hT (knows_own (off := 0) kT1)) ?_
    refine at_int (z' := ((4 : Nat) : Int)) hh ?_
    refine sp hT ?_
    refine at_bool (t' := false) (by decide) ?_
    refine sp2 hT ?_
    refine sk4 ?_
    refine sp2 hT ?_
    refine nn ?_
    refine at_false rfl rfl ?_
    refine at_skip ?_
    refine n_then ?_
    refine sr ?_
    refine sp hT ?_
    refine nn ?_
    refine at_seq ?_
    refine sr ?_
    refine sp hT ?_
    refine ss (ldO hT (knows_own (off := 0) kT1)) ?_
    refine at_int (z' := ((4 : Nat) : Int)) hh ?_
    refine nn ?_
    refine at_block ?_
    refine sr ?_
    refine sp hT ?_
    refine at_bool (t' := false) (by decide) ?_
    refine sp hT ?_
    refine nn ?_
    refine at_false rfl rfl ?_
    refine sr ?_
    refine sp hT ?_
    refine at_bool (t' := false) (by decide) ?_
    refine sp hT ?_
    refine nn ?_
    refine at_false rfl rfl ?_
    refine sr ?_
    refine sp hT ?_
    refine at_bool (t' := false) (by decide) ?_
    refine sp hT ?_
    refine nn ?_
    refine at_false rfl rfl ?_
    refine at_skip ?_
    refine n_block ?_
    refine n_then ?_
    refine at_seq ?_
    refine at_seq ?_
    have hmk := vr_ok0 hb3 (by assumption) (by first | exact .inl hh | exact .inr hh)
    have hwn : (textF true it.fn) ≠ [] := by first | assumption | simp
    refine at_region ?_
    refine sp2 hT ?_
    refine nn ?_
    refine at_false rfl rfl ?_
    refine at_skip ?_
    refine n_then ?_
    refine sr ?_
    refine sp3 hT ?_
    refine at_int (z' := (((st.length + 2) : Nat) : Int)) (by simp) ?_
    refine sp hT ?_
    refine at_int (z' := ((((st.length + 2) - 2) : Nat) : Int)) (wrapN (by omega) (by omega)) ?_
    refine ss (sti_index hT (k := ((st.length + 2) - 2)) (reads_fact (Has.of mT0)) rfl rfl rfl rfl rfl rfl rfl (by first | omega | (simp; done) | (simp; omega))) ?_
    refine ss (sti_loadN hT (Reads.knows (reads_fact (Has.of mT0)) (k := ((st.length + 2) - 2)) (x := q1) rev2G.2 0) rfl rfl rfl rfl rfl) ?_
    refine at_call (callFunc_enter Tryz.func72 rfl rfl) (rbrk_spec q1 (by omega) (by omega) (by omega)) rfl rfl rfl rfl rfl .nil trivial fun _ => ?_
    have hbl := brk_len q1
    refine at_alloc rfl rfl rfl rfl qrstep_zero_windrowref05_Part rfl fun b30 => ?_
    refine sto hT .head ?_
    refine nn ?_
    refine sr ?_
    refine sp hT ?_
    refine ss (ldO hT (knows_own (off := 0) .head)) ?_
    refine ss (sti_cat rfl rfl rfl (by first | omega | (simp; omega))) ?_
    refine sp hT ?_
    refine ss (sti_cat rfl rfl rfl (by first | omega | (simp; omega))) ?_
    refine ss (sti_cat rfl rfl rfl (by first | omega | (simp; omega))) ?_
    refine sp hT ?_
    refine ss (ldO hT (knows_own (off := 0) kT1)) ?_
    refine ss (sti_cat rfl rfl rfl (by first | omega | (simp; omega))) ?_
    refine sp hT ?_
    refine ss (ldO hT (knows_own (off := 2) .head)) ?_
    refine sp2 hT ?_
    refine at_int (z' := ((((brkR q1).tokens + 1) : Nat) : Int)) (wrapN (by omega) (by omega)) ?_
    refine sp hT ?_
    refine ss (ldO hT (knows_own (off := 2) kT1)) ?_
    refine sp hT ?_
    refine at_int (z' := (((((brkR q1).tokens + 1) + p1.tokens) : Nat) : Int)) (wrapN (by omega) (by omega)) ?_
    refine sp hT ?_
    refine ss (ldO hT (knows_own (off := 3) .head)) ?_
    refine sp hT ?_
    refine ss (ldO hT (knows_own (off := 3) kT1)) ?_
    refine sp hT ?_
    refine at_int (z' := (((max (brkR q1).nest p1.nest) : Nat) : Int)) (maxN _ _) ?_
    refine ss (sti_build rfl rfl (qrstep_built_windrowref05_Part_023 _ _ _)) ?_
    refine at_alloc rfl rfl rfl rfl qrstep_zero_windrowref05_Part rfl fun b31 => ?_
    refine sto hT .head ?_
    refine nn ?_
    refine at_seq ?_
    refine at_fact (partE.sl (.slice B st.reverse.length e) st.reverse) (rcut2 (Has.of mT0)) ?_
    refine at_mixT _ _ (.fl 1 (.fl 2 (.fl 3 (.fl 4 (.fl 5 (.fl 7 (.two 0 8 (.two 6 8 (.op 8 (.op 9 (.fl 10 (.fl 11 .nil)))) (.op 6 (.op 9 (.fl 10 (.fl 11 .nil))))) (.op 0 (.op 6 (.op 9 (.fl 10 (.fl 11 .nil)))))))))))) mixes (by decide +kernel) (.cons .head (.cons .head (.cons .head (.cons .head .nil)))) HasAll.self ?_
    refine att_sti rfl rfl rfl rfl (sti_pure hT rfl) ?_
    refine att_sti rfl rfl rfl rfl (sti_pure hT rfl) ?_
    refine att_sti rfl rfl rfl rfl (sti_pure hT rfl) ?_
    refine at_int (z' := (((st.length + 2) : Nat) : Int)) (by simp) ?_
    refine att_sti rfl rfl rfl rfl (sti_pure hT rfl) ?_
    refine at_int (z' := ((((st.length + 2) - 2) : Nat) : Int)) (wrapN (by omega) (by omega)) ?_
    refine att_sti rfl rfl rfl rfl (sti_cutTo hT (k := st.reverse.length) rfl rfl rfl rfl rfl (by simp) (by simp; omega)) ?_
    refine att_sti rfl rfl rfl rfl (ldN hT (knows_own (off := 0) .head)) ?_
    refine att_two (o := _) (o' := _) rfl rfl ?_ ?_
    · refine at_none_part rfl rfl rfl rfl fun b32 => ?_
      refine att_go (.cons kT1 (.cons kT1 (.cons kT1 (.cons kT1 .nil)))) (HasAll.drop 0) ?_
      refine att_two (o := _) (o' := _) rfl rfl ?_ ?_
      · refine at_app_part .head (reads_fact (Has.of mT0)) rfl rfl rfl rfl rfl rfl rfl (by first | (simp only [List.length_singleton]; omega) | (simp; omega)) fun A33 c34 => ?_
        refine att_go (.cons kT1 (.cons kT1 (.cons kT1 (.cons kT1 .nil)))) (HasAll.drop 0) ?_
        refine att_op (o := _) rfl ?_
        refine at_one_part (m := (⟨(((((brkR q1).s ++ ([32] : Bs)) ++ (textF true it.fn)) ++ ([32] : Bs)) ++ p1.s), false, (((brkR q1).tokens + 1) + p1.tokens), (max (brkR q1).nest p1.nest)⟩ : Part)) rfl rfl rfl rfl rfl fun b35 => ?_
        refine att_go (.cons kT2 (.cons kT2 (.cons kT2 (.cons kT2 .nil)))) (HasAll.drop 0) ?_
        refine att_op (o := _) rfl ?_
        refine at_app_part kT1 (reads_obj .head rfl) rfl rfl rfl rfl rfl rfl rfl (by first | (simp only [List.length_singleton]; omega) | (simp; omega)) fun A36 c37 => ?_
        refine att_go (.cons kT2 (.cons kT2 (.cons kT2 (.cons kT2 .nil)))) (HasAll.drop 0) ?_
        refine att_sti rfl rfl rfl rfl (sti_pure hT rfl) ?_
        refine att_sti rfl rfl rfl rfl (sti_pure hT rfl) ?_
        refine att_nil ?_
        refine n_then ?_
        refine at_ret ?_
        have hs := st_two (p := p1) (q := q1) (r := st) (x := it.it) (by rw [show it.it.how = _ from hh]; decide) (by rw [show it.it.how = _ from hh]; decide) (nums_nil (by omega)) (by assumption) hmk hwn (by rw [show it.it.how = _ from hh]; rfl)
        exact at_res2 (_, _, (([] ++ st.reverse) ++ [(⟨(((((brkR q1).s ++ ([32] : Bs)) ++ (textF true it.fn)) ++ ([32] : Bs)) ++ p1.s), false, (((brkR q1).tokens + 1) + p1.tokens), (max (brkR q1).nest p1.nest)⟩ : Part)])) rfl (rv_tmp rfl) (rv_tmp rfl) (.cons .head .nil) ⟨Has.pure (fun r hr => by rw [hs] at hr; cases hr; first | (simp; done) | (simp; rfl)), trivial⟩ (by rw [hs]; rfl)
      refine at_one_part (m := (⟨(((((brkR q1).s ++ ([32] : Bs)) ++ (textF true it.fn)) ++ ([32] : Bs)) ++ p1.s), false, (((brkR q1).tokens + 1) + p1.tokens), (max (brkR q1).nest p1.nest)⟩ : Part)) rfl rfl rfl rfl rfl fun b38 => ?_
      refine att_go (.cons kT2 (.cons kT2 (.cons kT2 (.cons kT2 .nil)))) (HasAll.drop 0) ?_
      refine att_op (o := _) rfl ?_
      refine at_app_part kT1 (reads_fact (Has.of mT0)) rfl rfl rfl rfl rfl rfl rfl (by first | (simp only [List.length_singleton]; omega) | (simp; omega)) fun A39 c40 => ?_
      refine att_go (.cons kT2 (.cons kT2 (.cons kT2 (.cons kT2 .nil)))) (HasAll.drop 0) ?_
      refine att_op (o := _) rfl ?_
      refine at_app_part .head (reads_obj kT1 rfl) rfl rfl rfl rfl rfl rfl rfl (by first | (simp only [List.length_singleton]; omega) | (simp; omega)) fun A41 c42 => ?_
      refine att_go (.cons kT2 (.cons kT2 (.cons kT2 (.cons kT2 .nil)))) (HasAll.drop 0) ?_
      refine att_sti rfl rfl rfl rfl (sti_pure hT rfl) ?_
      refine att_sti rfl rfl rfl rfl (sti_pure hT rfl) ?_
      refine att_nil ?_
      refine n_then ?_
      refine at_ret ?_
      have hs := st_two (p := p1) (q := q1) (r := st) (x := it.it) (by rw [show it.it.how = _ from hh]; decide) (by rw [show it.it.how = _ from hh]; decide) (nums_nil (by omega)) (by assumption) hmk hwn (by rw [show it.it.how = _ from hh]; rfl)
      exact at_res2 (_, _, (([] ++ st.reverse) ++ [(⟨(((((brkR q1).s ++ ([32] : Bs)) ++ (textF true it.fn)) ++ ([32] : Bs)) ++ p1.s), false, (((brkR q1).tokens + 1) + p1.tokens), (max (brkR q1).nest p1.nest)⟩ : Part)])) rfl (rv_tmp rfl) (rv_tmp rfl) (.cons .head .nil) ⟨Has.pure (fun r hr => by rw [hs] at hr; cases hr; first | (simp; done) | (simp; rfl)), trivial⟩ (by rw [hs]; rfl)
    refine at_one_part (m := (⟨(((((brkR q1).s ++ ([32] : Bs)) ++ (textF true it.fn)) ++ ([32] : Bs)) ++ p1.s), false, (((brkR q1).tokens + 1) + p1.tokens), (max (brkR q1).nest p1.nest)⟩ : Part)) rfl rfl rfl rfl rfl fun b43 => ?_
    refine att_go (.cons kT1 (.cons kT1 (.cons kT1 (.cons kT1 .nil)))) (HasAll.drop 0) ?_
    refine att_op (o := _) rfl ?_
    refine at_none_part rfl rfl rfl rfl fun b44 => ?_
    refine att_go (.cons kT2 (.cons kT2 (.cons kT2 (.cons kT2 .nil)))) (HasAll.drop 0) ?_
    refine att_op (o := _) rfl ?_
    refine at_app_part .head (reads_fact (Has.of mT0)) rfl rfl rfl rfl rfl rfl rfl (by first | (simp only [List.length_singleton]; omega) | (simp; omega)) fun A45 c46 => ?_
    refine att_go (.cons kT2 (.cons kT2 (.cons kT2 (.cons kT2 .nil)))) (HasAll.drop 0) ?_
    refine att_op (o := _) rfl ?_
    refine at_app_part .head (reads_obj kT1 rfl) rfl rfl rfl rfl rfl rfl rfl (by first | (simp only [List.length_singleton]; omega) | (simp; omega)) fun A47 c48 => ?_
    refine att_go (.cons kT2 (.cons kT2 (.cons kT2 (.cons kT2 .nil)))) (HasAll.drop 0) ?_
    refine att_sti rfl rfl rfl rfl (sti_pure hT rfl) ?_
    refine att_sti rfl rfl rfl rfl (sti_pure hT rfl) ?_
    refine att_nil ?_
    refine n_then ?_
    refine at_ret ?_
    have hs := st_two (p := p1) (q := q1) (r := st) (x := it.it) (by rw [show it.it.how = _ from hh]; decide) (by rw [show it.it.how = _ from hh]; decide) (nums_nil (by omega)) (by assumption) hmk hwn (by rw [show it.it.how = _ from hh]; rfl)
    exact at_res2 (_, _, (([] ++ st.reverse) ++ [(⟨(((((brkR q1).s ++ ([32] : Bs)) ++ (textF true it.fn)) ++ ([32] : Bs)) ++ p1.s), false, (((brkR q1).tokens + 1) + p1.tokens), (max (brkR q1).nest p1.nest)⟩ : Part)])) rfl (rv_tmp rfl) (rv_tmp rfl) (.cons .head .nil) ⟨Has.pure (fun r hr => by rw [hs] at hr; cases hr; first | (simp; done) | (simp; rfl)), trivial⟩ (by rw [hs]; rfl)
  · refine at_region ?_
    refine sp hT ?_
    refine ss (ldO hT (knows_own (off := 0) .head)) ?_
    refine at_int (z' := ((5 : Nat) : Int)) hh ?_
    refine sp hT ?_
    refine at_bool (t' := false) (by decide) ?_
    refine sp2 hT ?_
    refine ss (ldO hT (knows_own (off := 0) .head)) ?_
    refine at_int (z' := ((5 : Nat) : Int)) hh ?_
    refine sp hT ?_
    refine at_bool (t' := false) (by decide) ?_
    refine sp2 hT ?_
    refine nn ?_
    refine at_seq ?_
    refine sr ?_
    refine sp hT ?_
    refine ss (ldO hT (knows_own (off := 0) .head)) ?_
    refine at_int (z' := ((5 : Nat) : Int)) hh ?_
    refine sp hT ?_
    refine at_bool (t' := false) (by decide) ?_
    refine sp2 hT ?_
    refine ss (ldO hT (knows_own (off := 0) .head)) ?_
    refine at_int (z' := ((5 : Nat) : Int)) hh ?_
    refine sp hT ?_
    refine at_bool (t' := false) (by decide) ?_
    refine sp3 hT ?_
    refine ss (ldO hT (knows_own (off := 4) .head)) ?_
    refine sp4 hT ?_
    refine at_case (fun hg53 => ?_) (fun hg53 => ?_)
    · have hg53 := of_decide_eq_true hg53
      refine sk3 ?_
      refine sp2 hT ?_
      refine sk3 ?_
      refine sp2 hT ?_
      refine sk4 ?_
      refine sk2 ?_
      refine sp hT ?_
      refine nn ?_
      refine at_true rfl rfl ?_
      refine sr ?_
      refine sp2 hT ?_
      refine nn ?_
      refine at_ret ?_
      refine r_then ?_
      refine at_nilrow' (t := 99) partE ?_
      have hs : stepR st it.it = none := by first | exact st_bad hno (by first | exact .inl (show it.how < 3 by omega) | exact .inr (.inl (show 7 < it.how by omega)) | exact .inr (.inr (.inl (nums_ne (by omega)))) | exact .inr (.inr (.inr (by assumption)))) | exact st_short2 hno (by rw [show it.it.how = _ from hh]; rfl) (by omega) | exact st_short1 hno (by omega)
      exact at_res2 (none, 0, []) rfl (rv_tmp rfl) (rv_tmp rfl) (.cons .head .nil) ⟨Has.pure (fun r hr => by rw [hs] at hr; cases hr), trivial⟩ (by rw [hs]; rfl)
    have hg53 := Int.not_lt.1 (of_decide_eq_false hg53)
    refine sp hT ?_
    refine ss (ldO hT (knows_own (off := 3) .head)) ?_
    refine sp3 hT ?_
    refine at_case (fun hg58 => ?_) (fun hg58 => ?_)
    · have hg58 : it.name ≠ ([] : Bs) := fun h => by rw [h] at hg58; first | (simp at hg58; done) | exact absurd hg58 (by decide)
      refine sk3 ?_
      refine sp2 hT ?_
      refine sk4 ?_
      refine sk2 ?_
      refine sp hT ?_
      refine nn ?_
      refine at_true rfl rfl ?_
      refine sr ?_
      refine sp2 hT ?_
      refine nn ?_
      refine at_ret ?_
      refine r_then ?_
      refine at_nilrow' (t := 99) partE ?_
      have hs : stepR st it.it = none := by first | exact st_bad hno (by first | exact .inl (show it.how < 3 by omega) | exact .inr (.inl (show 7 < it.how by omega)) | exact .inr (.inr (.inl (nums_ne (by omega)))) | exact .inr (.inr (.inr (by assumption)))) | exact st_short2 hno (by rw [show it.it.how = _ from hh]; rfl) (by omega) | exact st_short1 hno (by omega)
      exact at_res2 (none, 0, []) rfl (rv_tmp rfl) (rv_tmp rfl) (.cons .head .nil) ⟨Has.pure (fun r hr => by rw [hs] at hr; cases hr), trivial⟩ (by rw [hs]; rfl)
    have hg58 : it.name = ([] : Bs) := eq_of_beq (not_f hg58)
    refine sp2 hT ?_
    refine at_int (z' := ((st.length : Nat) : Int)) (congrArg Nat.cast List.length_reverse) ?_
    refine sp3 hT ?_
    refine at_case (fun hg63 => ?_) (fun hg63 => ?_)
    · have hg63 := of_decide_eq_true hg63
      refine sk4 ?_
      refine sk2 ?_
      refine sp hT ?_
      refine nn ?_
      refine at_true rfl rfl ?_
      refine sr ?_
      refine sp2 hT ?_
      refine nn ?_
      refine at_ret ?_
      refine r_then ?_
      refine at_nilrow' (t := 99) partE ?_
      have hs : stepR st it.it = none := by first | exact st_bad hno (by first | exact .inl (show it.how < 3 by omega) | exact .inr (.inl (show 7 < it.how by omega)) | exact .inr (.inr (.inl (nums_ne (by omega)))) | exact .inr (.inr (.inr (by assumption)))) | exact st_short2 hno (by rw [show it.it.how = _ from hh]; rfl) (by omega) | exact st_short1 hno (by omega)
      exact at_res2 (none, 0, []) rfl (rv_tmp rfl) (rv_tmp rfl) (.cons .head .nil) ⟨Has.pure (fun r hr => by rw [hs] at hr; cases hr), trivial⟩ (by rw [hs]; rfl)
    have hg63 := Int.not_lt.1 (of_decide_eq_false hg63)
    refine sp2 hT ?_
    refine sk3 ?_
    refine sp2 hT ?_
    refine nn ?_
    refine at_false rfl rfl ?_
    refine at_skip ?_
    refine n_then ?_
    refine at_seq ?_
    obtain ⟨p1, st, rfl⟩ := cons1G (l := st) (by omega)
    have hk1 := hok p1 (by simp)
    simp only [List.length_cons] at hl
    simp only [List.length_reverse, List.length_cons] at hcap
    refine at_region ?_
    refine sp3 hT ?_
    refine at_int (z' := (((st.length + 1) : Nat) : Int)) (by simp) ?_
    refine sp hT ?_
    refine at_int (z' := ((((st.length + 1) - 1) : Nat) : Int)) (wrapN (by omega) (by omega)) ?_
    refine ss (sti_index hT (k := ((st.length + 1) - 1)) (reads_fact (Has.of mT0)) rfl rfl rfl rfl rfl rfl rfl (by first | omega | (simp; done) | (simp; omega))) ?_
    refine ss (sti_loadN hT (Reads.knows (reads_fact (Has.of mT0)) (k := ((st.length + 1) - 1)) (x := p1) rev1G 0) rfl rfl rfl rfl rfl) ?_
    refine at_alloc rfl rfl rfl rfl qrstep_zero_windrowref05_Part rfl fun b49 => ?_
    refine sto hT .head ?_
    refine nn ?_
    refine sr ?_
    refine sp hT ?_
    refine ss (ldO hT (knows_own (off := 2) kT1)) ?_
    refine sp hT ?_
    refine ss (ldO hT (knows_own (off := 0) kT1)) ?_
    refine at_int (z' := ((5 : Nat) : Int)) hh ?_
    refine sp hT ?_
    refine at_bool (t' := true) (by decide) ?_
    refine at_call (callFunc_enter Tryz.func70 rfl rfl) (rverb5_spec it.fn true) rfl rfl rfl rfl rfl .nil trivial fun _ => ?_
    have hb3 : (it.it.how != 3) = true := by rw [show it.it.how = 5 from hh]; rfl
    have htl := textF_len true it.fn
    refine sp hT ?_
    refine nn ?_
    refine at_seq ?_
    refine sr ?_
    refine sp3 hT ?_
    refine at_case (fun hg85 => ?_) (fun hg85 => ?_)
    · have hg85 : (textF true it.fn) = ([] : Bs) := eq_of_beq hg85
      refine sk4 ?_
      refine sk4 ?_
      refine sk4 ?_
      refine sk2 ?_
      refine sp hT ?_
      refine nn ?_
      refine at_true rfl rfl ?_
      refine sr ?_
      refine sp2 hT ?_
      refine nn ?_
      refine at_ret ?_
      refine r_then ?_
      refine at_nilrow' (t := 99) partE ?_
      have hs : stepR (p1 :: st) it.it = none := st_verb hno (vr_bad hb3 (by first | exact .inl (by assumption) | exact .inr ⟨by rw [show it.it.how = _ from hh]; decide, by rw [show it.it.how = _ from hh]; decide, by assumption⟩))
      exact at_res2 (none, 0, []) rfl (rv_tmp rfl) (rv_tmp rfl) (.cons .head .nil) ⟨Has.pure (fun r hr => by rw [hs] at hr; cases hr), trivial⟩ (by rw [hs]; rfl)
    have hg85 : (textF true it.fn) ≠ ([] : Bs) := fun h => absurd (beq_iff_eq.2 h) (by rw [show ((textF true it.fn) == ([] : Bs)) = false from hg85]; simp)
    refine sp hT ?_
    refine ss (ldO hT (knows_own (off := 0) kT1)) ?_
    refine at_int (z' := ((5 : Nat) : Int)) hh ?_
    refine sp hT ?_
    refine at_bool (t' := true) (by decide) ?_
    refine sp2 hT ?_
    refine ss (ldO hT (knows_own (off := 0) kT1)) ?_
    refine at_int (z' := ((5 : Nat) : Int)) hh ?_
    refine sp hT ?_
    refine at_bool (t' := true) (by decide) ?_
    refine sp3 hT ?_
    refine ss (ldO hT (knows_own (off := 2) kT1)) ?_
    refine at_call (callFunc_enter Tryz.func71 rfl rfl) (rtakes2_spec _) rfl rfl rfl rfl rfl .nil trivial fun _ => ?_
    refine sp3 hT ?_
    refine nn ?_
    refine at_cond rfl (fun hc100 => ?_) (fun hc100 => ?_)
    · have hc100_r := hc100
      have hc100 := not_t hc100
      refine sr ?_
      refine sp2 hT ?_
      refine nn ?_
      refine at_ret ?_
      refine r_then ?_
      refine at_nilrow' (t := 99) partE ?_
      have hs : stepR (p1 :: st) it.it = none := st_verb hno (vr_bad hb3 (by first | exact .inl (by assumption) | exact .inr ⟨by rw [show it.it.how = _ from hh]; decide, by rw [show it.it.how = _ from hh]; decide, by assumption⟩))
      exact at_res2 (none, 0, []) rfl (rv_tmp rfl) (rv_tmp rfl) (.cons .head .nil) ⟨Has.pure (fun r hr => by rw [hs] at hr; cases hr), trivial⟩ (by rw [hs]; rfl)
    have hc100_r := hc100
    have hc100 := not_f hc100
    refine at_skip ?_
    refine n_then ?_
    refine sr ?_
    refine sp hT ?_
    refine nn ?_
    refine at_seq ?_
    refine sr ?_
    refine sp hT ?_
    refine ss (ldO hT (knows_own (off := 0) kT1)) ?_
    refine at_int (z' := ((5 : Nat) : Int)) hh ?_
    refine nn ?_
    refine at_block ?_
    refine sr ?_
    refine sp hT ?_
    refine at_bool (t' := true) (by decide) ?_
    refine sp hT ?_
    refine nn ?_
    refine at_true rfl rfl ?_
    refine sr ?_
    refine sp hT ?_
    refine ss (sti_cat rfl rfl rfl (by first | omega | (simp; omega))) ?_
    refine sp hT ?_
    refine nn ?_
    refine at_region ?_
    refine sp hT ?_
    refine at_nil ?_
    refine n_block ?_
    refine n_then ?_
    refine at_seq ?_
    refine at_seq ?_
    have hmk := vr_ok (mk := [47]) (k := 2) hb3 (by assumption) (.inr (.inr (by assumption))) (by rw [show it.it.how = 5 from hh]; rfl) (by rw [show it.it.how = 5 from hh]; rfl)
    have hwn : ((textF true it.fn) ++ ([47] : Bs)) ≠ [] := by first | assumption | simp
    refine at_region ?_
    refine sp2 hT ?_
    refine nn ?_
    refine at_true rfl rfl ?_
    refine sr ?_
    refine sp hT ?_
    refine ss (sti_cat rfl rfl rfl (by first | omega | (simp; omega))) ?_
    refine sp hT ?_
    refine ss (ldO hT (knows_own (off := 0) .head)) ?_
    refine ss (sti_cat rfl rfl rfl (by first | omega | (simp; omega))) ?_
    refine sp2 hT ?_
    refine ss (ldO hT (knows_own (off := 2) .head)) ?_
    refine sp hT ?_
    refine at_int (z' := (((2 + p1.tokens) : Nat) : Int)) (wrapN (by omega) (by omega)) ?_
    refine sp hT ?_
    refine ss (ldO hT (knows_own (off := 3) .head)) ?_
    refine ss (sti_build rfl rfl (qrstep_built_windrowref05_Part_023 _ _ _)) ?_
    refine at_alloc rfl rfl rfl rfl qrstep_zero_windrowref05_Part rfl fun b50 => ?_
    refine sto hT .head ?_
    refine nn ?_
    refine at_seq ?_
    refine at_fact (partE.sl (.slice B st.reverse.length e) st.reverse) (rcut1 (Has.of mT0)) ?_
    refine at_mixT _ _ (.fl 1 (.fl 2 (.fl 3 (.fl 4 (.fl 5 (.fl 7 (.two 0 8 (.two 6 8 (.op 8 (.op 9 (.fl 10 (.fl 11 .nil)))) (.op 6 (.op 9 (.fl 10 (.fl 11 .nil))))) (.op 0 (.op 6 (.op 9 (.fl 10 (.fl 11 .nil)))))))))))) mixes (by decide +kernel) (.cons .head (.cons .head (.cons .head .nil))) HasAll.self ?_
    refine att_sti rfl rfl rfl rfl (sti_pure hT rfl) ?_
    refine att_sti rfl rfl rfl rfl (sti_pure hT rfl) ?_
    refine att_sti rfl rfl rfl rfl (sti_pure hT rfl) ?_
    refine at_int (z' := (((st.length + 1) : Nat) : Int)) (by simp) ?_
    refine att_sti rfl rfl rfl rfl (sti_pure hT rfl) ?_
    refine at_int (z' := ((((st.length + 1) - 1) : Nat) : Int)) (wrapN (by omega) (by omega)) ?_
    refine att_sti rfl rfl rfl rfl (sti_cutTo hT (k := st.reverse.length) rfl rfl rfl rfl rfl (by simp) (by simp; omega)) ?_
    refine att_sti rfl rfl rfl rfl (ldN hT (knows_own (off := 0) .head)) ?_
    refine att_two (o := _) (o' := _) rfl rfl ?_ ?_
    · refine at_none_part rfl rfl rfl rfl fun b51 => ?_
      refine att_go (.cons kT1 (.cons kT1 (.cons kT1 .nil))) (HasAll.drop 0) ?_
      refine att_two (o := _) (o' := _) rfl rfl ?_ ?_
      · refine at_app_part .head (reads_fact (Has.of mT0)) rfl rfl rfl rfl rfl rfl rfl (by first | (simp only [List.length_singleton]; omega) | (simp; omega)) fun A52 c53 => ?_
        refine att_go (.cons kT1 (.cons kT1 (.cons kT1 .nil))) (HasAll.drop 0) ?_
        refine att_op (o := _) rfl ?_
        refine at_one_part (m := (⟨((((textF true it.fn) ++ ([47] : Bs)) ++ ([32] : Bs)) ++ p1.s), false, (2 + p1.tokens), p1.nest⟩ : Part)) rfl rfl rfl rfl rfl fun b54 => ?_
        refine att_go (.cons kT2 (.cons kT2 (.cons kT2 .nil))) (HasAll.drop 0) ?_
        refine att_op (o := _) rfl ?_
        refine at_app_part kT1 (reads_obj .head rfl) rfl rfl rfl rfl rfl rfl rfl (by first | (simp only [List.length_singleton]; omega) | (simp; omega)) fun A55 c56 => ?_
        refine att_go (.cons kT2 (.cons kT2 (.cons kT2 .nil))) (HasAll.drop 0) ?_
        refine att_sti rfl rfl rfl rfl (sti_pure hT rfl) ?_
        refine att_sti rfl rfl rfl rfl (sti_pure hT rfl) ?_
        refine att_nil ?_
        refine n_then ?_
        refine at_ret ?_
        refine r_then ?_
        have hs := st_one (p := p1) (r := st) (x := it.it) (by rw [show it.it.how = _ from hh]; decide) (by rw [show it.it.how = _ from hh]; decide) (nums_nil (by omega)) (by assumption) hmk hwn (by rw [show it.it.how = _ from hh]; rfl)
        exact at_res2 (_, _, (([] ++ st.reverse) ++ [(⟨((((textF true it.fn) ++ ([47] : Bs)) ++ ([32] : Bs)) ++ p1.s), false, (2 + p1.tokens), p1.nest⟩ : Part)])) rfl (rv_tmp rfl) (rv_tmp rfl) (.cons .head .nil) ⟨Has.pure (fun r hr => by rw [hs] at hr; cases hr; first | (simp; done) | (simp; rfl)), trivial⟩ (by rw [hs]; rfl)
      refine at_one_part (m := (⟨((((textF true it.fn) ++ ([47] : Bs)) ++ ([32] : Bs)) ++ p1.s), false, (2 + p1.tokens), p1.nest⟩ : Part)) rfl rfl rfl rfl rfl fun b57 => ?_
      refine att_go (.cons kT2 (.cons kT2 (.cons kT2 .nil))) (HasAll.drop 0) ?_
      refine att_op (o := _) rfl ?_
      refine at_app_part kT1 (reads_fact (Has.of mT0)) rfl rfl rfl rfl rfl rfl rfl (by first | (simp only [List.length_singleton]; omega) | (simp; omega)) fun A58 c59 => ?_
      refine att_go (.cons kT2 (.cons kT2 (.cons kT2 .nil))) (HasAll.drop 0) ?_
      refine att_op (o := _) rfl ?_
      refine at_app_part .head (reads_obj kT1 rfl) rfl rfl rfl rfl rfl rfl rfl (by first | (simp only [List.length_singleton]; omega) | (simp; omega)) fun A60 c61 => ?_
      refine att_go (.cons kT2 (.cons kT2 (.cons kT2 .nil))) (HasAll.drop 0) ?_
      refine att_sti rfl rfl rfl rfl (sti_pure hT rfl) ?_
      refine att_sti rfl rfl rfl rfl (sti_pure hT rfl) ?_
      refine att_nil ?_
      refine n_then ?_
      refine at_ret ?_
      refine r_then ?_
      have hs := st_one (p := p1) (r := st) (x := it.it) (by rw [show it.it.how = _ from hh]; decide) (by rw [show it.it.how = _ from hh]; decide) (nums_nil (by omega)) (by assumption) hmk hwn (by rw [show it.it.how = _ from hh]; rfl)
      exact at_res2 (_, _, (([] ++ st.reverse) ++ [(⟨((((textF true it.fn) ++ ([47] : Bs)) ++ ([32] : Bs)) ++ p1.s), false, (2 + p1.tokens), p1.nest⟩ : Part)])) rfl (rv_tmp rfl) (rv_tmp rfl) (.cons .head .nil) ⟨Has.pure (fun r hr => by rw [hs] at hr; cases hr; first | (simp; done) | (simp; rfl)), trivial⟩ (by rw [hs]; rfl)
    refine at_one_part (m := (⟨((((textF true it.fn) ++ ([47] : Bs)) ++ ([32] : Bs)) ++ p1.s), false, (2 + p1.tokens), p1.nest⟩ : Part)) rfl rfl rfl rfl rfl fun b62 => ?_
    refine att_go (.cons kT1 (.cons kT1 (.cons kT1 .nil))) (HasAll.drop 0) ?_
    refine att_op (o := _) rfl ?_
    refine at_none_part rfl rfl rfl rfl fun b63 => ?_
    refine att_go (.cons kT2 (.cons kT2 (.cons kT2 .nil))) (HasAll.drop 0) ?_
    refine att_op (o := _) rfl ?_
    refine at_app_part .head (reads_fact (Has.of mT0)) rfl rfl rfl rfl rfl rfl rfl (by first | (simp only [List.length_singleton]; omega) | (simp; omega)) fun A64 c65 => ?_
    refine att_go (.cons kT2 (.cons kT2 (.cons kT2 .nil))) (HasAll.drop 0) ?_
    refine att_op (o := _) rfl ?_
    refine at_app_part .head (reads_obj kT1 rfl) rfl rfl rfl rfl rfl rfl rfl (by first | (simp only [List.length_singleton]; omega) | (simp; omega)) fun A66 c67 => ?_
    refine att_go (.cons kT2 (.cons kT2 (.cons kT2 .nil))) (HasAll.drop 0) ?_
    refine att_sti rfl rfl rfl rfl (sti_pure hT rfl) ?_
    refine att_sti rfl rfl rfl rfl (sti_pure hT rfl) ?_
    refine att_nil ?_
    refine n_then ?_
    refine at_ret ?_
    refine r_then ?_
    have hs := st_one (p := p1) (r := st) (x := it.it) (by rw [show it.it.how = _ from hh]; decide) (by rw [show it.it.how = _ from hh]; decide) (nums_nil (by omega)) (by assumption) hmk hwn (by rw [show it.it.how = _ from hh]; rfl)
    exact at_res2 (_, _, (([] ++ st.reverse) ++ [(⟨((((textF true it.fn) ++ ([47] : Bs)) ++ ([32] : Bs)) ++ p1.s), false, (2 + p1.tokens), p1.nest⟩ : Part)])) rfl (rv_tmp rfl) (rv_tmp rfl) (.cons .head .nil) ⟨Has.pure (fun r hr => by rw [hs] at hr; cases hr; first | (simp; done) | (simp; rfl)), trivial⟩ (by rw [hs]; rfl)
  · refine at_region ?_
    refine sp hT ?_
    refine ss (ldO hT (knows_own (off := 0) .head)) ?_
    refine at_int (z' := ((6 : Nat) : Int)) hh ?_
    refine sp hT ?_
    refine at_bool (t' := false) (by decide) ?_
    refine sp2 hT ?_
    refine ss (ldO hT (knows_own (off := 0) .head)) ?_
    refine at_int (z' := ((6 : Nat) : Int)) hh ?_
    refine sp hT ?_
    refine at_bool (t' := false) (by decide) ?_
    refine sp2 hT ?_
    refine nn ?_
    refine at_seq ?_
    refine sr ?_
    refine sp hT ?_
    refine ss (ldO hT (knows_own (off := 0) .head)) ?_
    refine at_int (z' := ((6 : Nat) : Int)) hh ?_
    refine sp hT ?_
    refine at_bool (t' := false) (by decide) ?_
    refine sp2 hT ?_
    refine ss (ldO hT (knows_own (off := 0) .head)) ?_
    refine at_int (z' := ((6 : Nat) : Int)) hh ?_
    refine sp hT ?_
    refine at_bool (t' := false) (by decide) ?_
    refine sp3 hT ?_
    refine ss (ldO hT (knows_own (off := 4) .head)) ?_
    refine sp4 hT ?_
    refine at_case (fun hg53 => ?_) (fun hg53 => ?_)
    · have hg53 := of_decide_eq_true hg53
      refine sk3 ?_
      refine sp2 hT ?_
      refine sk3 ?_
      refine sp2 hT ?_
      refine sk4 ?_
      refine sk2 ?_
      refine sp hT ?_
      refine nn ?_
      refine at_true rfl rfl ?_
      refine sr ?_
      refine sp2 hT ?_
      refine nn ?_
      refine at_ret ?_
      refine r_then ?_
      refine at_nilrow' (t := 99) partE ?_
      have hs : stepR st it.it = none := by first | exact st_bad hno (by first | exact .inl (show it.how < 3 by omega) | exact .inr (.inl (show 7 < it.how by omega)) | exact .inr (.inr (.inl (nums_ne (by omega)))) | exact .inr (.inr (.inr (by assumption)))) | exact st_short2 hno (by rw [show it.it.how = _ from hh]; rfl) (by omega) | exact st_short1 hno (by omega)
      exact at_res2 (none, 0, []) rfl (rv_tmp rfl) (rv_tmp rfl) (.cons .head .nil) ⟨Has.pure (fun r hr => by rw [hs] at hr; cases hr), trivial⟩ (by rw [hs]; rfl)
    have hg53 := Int.not_lt.1 (of_decide_eq_false hg53)
    refine sp hT ?_
    refine ss (ldO hT (knows_own (off := 3) .head)) ?_
    refine sp3 hT ?_
    refine at_case (fun hg58 => ?_) (fun hg58 => ?_)
    · have hg58 : it.name ≠ ([] : Bs) := fun h => by rw [h] at hg58; first | (simp at hg58; done) | exact absurd hg58 (by decide)
      refine sk3 ?_
      refine sp2 hT ?_
      refine sk4 ?_
      refine sk2 ?_
      refine sp hT ?_
      refine nn ?_
      refine at_true rfl rfl ?_
      refine sr ?_
      refine sp2 hT ?_
      refine nn ?_
      refine at_ret ?_
      refine r_then ?_
      refine at_nilrow' (t := 99) partE ?_
      have hs : stepR st it.it = none := by first | exact st_bad hno (by first | exact .inl (show it.how < 3 by omega) | exact .inr (.inl (show 7 < it.how by omega)) | exact .inr (.inr (.inl (nums_ne (by omega)))) | exact .inr (.inr (.inr (by assumption)))) | exact st_short2 hno (by rw [show it.it.how = _ from hh]; rfl) (by omega) | exact st_short1 hno (by omega)
      exact at_res2 (none, 0, []) rfl (rv_tmp rfl) (rv_tmp rfl) (.cons .head .nil) ⟨Has.pure (fun r hr => by rw [hs] at hr; cases hr), trivial⟩ (by rw [hs]; rfl)
    have hg58 : it.name = ([] : Bs) := eq_of_beq (not_f hg58)
    refine sp2 hT ?_
    refine at_int (z' := ((st.length : Nat) : Int)) (congrArg Nat.cast List.length_reverse) ?_
    refine sp3 hT ?_
    refine at_case (fun hg63 => ?_) (fun hg63 => ?_)
    · have hg63 := of_decide_eq_true hg63
      refine sk4 ?_
      refine sk2 ?_
      refine sp hT ?_
      refine nn ?_
      refine at_true rfl rfl ?_
      refine sr ?_
      refine sp2 hT ?_
      refine nn ?_
      refine at_ret ?_
      refine r_then ?_
      refine at_nilrow' (t := 99) partE ?_
      have hs : stepR st it.it = none := by first | exact st_bad hno (by first | exact .inl (show it.how < 3 by omega) | exact .inr (.inl (show 7 < it.how by omega)) | exact .inr (.inr (.inl (nums_ne (by omega)))) | exact .inr (.inr (.inr (by assumption)))) | exact st_short2 hno (by rw [show it.it.how = _ from hh]; rfl) (by omega) | exact st_short1 hno (by omega)
      exact at_res2 (none, 0, []) rfl (rv_tmp rfl) (rv_tmp rfl) (.cons .head .nil) ⟨Has.pure (fun r hr => by rw [hs] at hr; cases hr), trivial⟩ (by rw [hs]; rfl)
    have hg63 := Int.not_lt.1 (of_decide_eq_false hg63)
    refine sp2 hT ?_
    refine sk3 ?_
    refine sp2 hT ?_
    refine nn ?_
    refine at_false rfl rfl ?_
    refine at_skip ?_
    refine n_then ?_
    refine at_seq ?_
    obtain ⟨p1, st, rfl⟩ := cons1G (l := st) (by omega)
    have hk1 := hok p1 (by simp)
    simp only [List.length_cons] at hl
    simp only [List.length_reverse, List.length_cons] at hcap
    refine at_region ?_
    refine sp3 hT ?_
    refine at_int (z' := (((st.length + 1) : Nat) : Int)) (by simp) ?_
    refine sp hT ?_
    refine at_int (z' := ((((st.length + 1) - 1) : Nat) : Int)) (wrapN (by omega) (by omega)) ?_
    refine ss (sti_index hT (k := ((st.length + 1) - 1)) (reads_fact (Has.of mT0)) rfl rfl rfl rfl rfl rfl rfl (by first | omega | (simp; done) | (simp; omega))) ?_
    refine ss (sti_loadN hT (Reads.knows (reads_fact (Has.of mT0)) (k := ((st.length + 1) - 1)) (x := p1) rev1G 0) rfl rfl rfl rfl rfl) ?_
    refine at_alloc rfl rfl rfl rfl qrstep_zero_windrowref05_Part rfl fun b68 => ?_
    refine sto hT .head ?_
    refine nn ?_
    refine sr ?_
    refine sp hT ?_
    refine ss (ldO hT (knows_own (off := 2) kT1)) ?_
    refine sp hT ?_
    refine ss (ldO hT (knows_own (off := 0) kT1)) ?_
    refine at_int (z' := ((6 : Nat) : Int)) hh ?_
    refine sp hT ?_
    refine at_bool (t' := true) (by decide) ?_
    refine at_call (callFunc_enter Tryz.func70 rfl rfl) (rverb5_spec it.fn true) rfl rfl rfl rfl rfl .nil trivial fun _ => ?_
    have hb3 : (it.it.how != 3) = true := by rw [show it.it.how = 6 from hh]; rfl
    have htl := textF_len true it.fn
    refine sp hT ?_
    refine nn ?_
    refine at_seq ?_
    refine sr ?_
    refine sp3 hT ?_
    refine at_case (fun hg85 => ?_) (fun hg85 => ?_)
    · have hg85 : (textF true it.fn) = ([] : Bs) := eq_of_beq hg85
      refine sk4 ?_
      refine sk4 ?_
      refine sk4 ?_
      refine sk2 ?_
      refine sp hT ?_
      refine nn ?_
      refine at_true rfl rfl ?_
      refine sr ?_
      refine sp2 hT ?_
      refine nn ?_
      refine at_ret ?_
      refine r_then ?_
      refine at_nilrow' (t := 99) partE ?_
      have hs : stepR (p1 :: st) it.it = none := st_verb hno (vr_bad hb3 (by first | exact .inl (by assumption) | exact .inr ⟨by rw [show it.it.how = _ from hh]; decide, by rw [show it.it.how = _ from hh]; decide, by assumption⟩))
      exact at_res2 (none, 0, []) rfl (rv_tmp rfl) (rv_tmp rfl) (.cons .head .nil) ⟨Has.pure (fun r hr => by rw [hs] at hr; cases hr), trivial⟩ (by rw [hs]; rfl)
    have hg85 : (textF true it.fn) ≠ ([] : Bs) := fun h => absurd (beq_iff_eq.2 h) (by rw [show ((textF true it.fn) == ([] : Bs)) = false from hg85]; simp)
    refine sp hT ?_
    refine ss (ldO hT (knows_own (off := 0) kT1)) ?_
    refine at_int (z' := ((6 : Nat) : Int)) hh ?_
    refine sp hT ?_
    refine at_bool (t' := true) (by decide) ?_
    refine sp2 hT ?_
    refine ss (ldO hT (knows_own (off := 0) kT1)) ?_
    refine at_int (z' := ((6 : Nat) : Int)) hh ?_
    refine sp hT ?_
    refine at_bool (t' := true) (by decide) ?_
    refine sp3 hT ?_
    refine ss (ldO hT (knows_own (off := 2) kT1)) ?_
    refine at_call (callFunc_enter Tryz.func71 rfl rfl) (rtakes2_spec _) rfl rfl rfl rfl rfl .nil trivial fun _ => ?_
    refine sp3 hT ?_
    refine nn ?_
    refine at_cond rfl (fun hc100 => ?_) (fun hc100 => ?_)
    · have hc100_r := hc100
      have hc100 := not_t hc100
      refine sr ?_
      refine sp2 hT ?_
      refine nn ?_
      refine at_ret ?_
      refine r_then ?_
      refine at_nilrow' (t := 99) partE ?_
      have hs : stepR (p1 :: st) it.it = none := st_verb hno (vr_bad hb3 (by first | exact .inl (by assumption) | exact .inr ⟨by rw [show it.it.how = _ from hh]; decide, by rw [show it.it.how = _ from hh]; decide, by assumption⟩))
      exact at_res2 (none, 0, []) rfl (rv_tmp rfl) (rv_tmp rfl) (.cons .head .nil) ⟨Has.pure (fun r hr => by rw [hs] at hr; cases hr), trivial⟩ (by rw [hs]; rfl)
    have hc100_r := hc100
    have hc100 := not_f hc100
    refine at_skip ?_
    refine n_then ?_
    refine sr ?_
    refine sp hT ?_
    refine nn ?_
    refine at_seq ?_
    refine sr ?_
    refine sp hT ?_
    refine ss (ldO hT (knows_own (off := 0) kT1)) ?_
    refine at_int (z' := ((6 : Nat) : Int)) hh ?_
    refine nn ?_
    refine at_block ?_
    refine sr ?_
    refine sp hT ?_
    refine at_bool (t' := false) (by decide) ?_
    refine sp hT ?_
    refine nn ?_
    refine at_false rfl rfl ?_
    refine sr ?_
    refine sp hT ?_
    refine at_bool (t' := true) (by decide) ?_
    refine sp hT ?_
    refine nn ?_
    refine at_true rfl rfl ?_
    refine sr ?_
    refine sp hT ?_
    refine ss (sti_cat rfl rfl rfl (by first | omega | (simp; omega))) ?_
    refine sp hT ?_
    refine nn ?_
    refine at_region ?_
    refine sp hT ?_
    refine at_nil ?_
    refine n_block ?_
    refine n_then ?_
    refine at_seq ?_
    refine at_seq ?_
    have hmk := vr_ok (mk := [92]) (k := 2) hb3 (by assumption) (.inr (.inr (by assumption))) (by rw [show it.it.how = 6 from hh]; rfl) (by rw [show it.it.how = 6 from hh]; rfl)
    have hwn : ((textF true it.fn) ++ ([92] : Bs)) ≠ [] := by first | assumption | simp
    refine at_region ?_
    refine sp2 hT ?_
    refine nn ?_
    refine at_true rfl rfl ?_
    refine sr ?_
    refine sp hT ?_
    refine ss (sti_cat rfl rfl rfl (by first | omega | (simp; omega))) ?_
    refine sp hT ?_
    refine ss (ldO hT (knows_own (off := 0) .head)) ?_
    refine ss (sti_cat rfl rfl rfl (by first | omega | (simp; omega))) ?_
    refine sp2 hT ?_
    refine ss (ldO hT (knows_own (off := 2) .head)) ?_
    refine sp hT ?_
    refine at_int (z' := (((2 + p1.tokens) : Nat) : Int)) (wrapN (by omega) (by omega)) ?_
    refine sp hT ?_
    refine ss (ldO hT (knows_own (off := 3) .head)) ?_
    refine ss (sti_build rfl rfl (qrstep_built_windrowref05_Part_023 _ _ _)) ?_
    refine at_alloc rfl rfl rfl rfl qrstep_zero_windrowref05_Part rfl fun b69 => ?_
    refine sto hT .head ?_
    refine nn ?_
    refine at_seq ?_
    refine at_fact (partE.sl (.slice B st.reverse.length e) st.reverse) (rcut1 (Has.of mT0)) ?_
    refine at_mixT _ _ (.fl 1 (.fl 2 (.fl 3 (.fl 4 (.fl 5 (.fl 7 (.two 0 8 (.two 6 8 (.op 8 (.op 9 (.fl 10 (.fl 11 .nil)))) (.op 6 (.op 9 (.fl 10 (.fl 11 .nil))))) (.op 0 (.op 6 (.op 9 (.fl 10 (.fl 11 .nil)))))))))))) mixes (by decide +kernel) (.cons .head (.cons .head (.cons .head .nil))) HasAll.self ?_
    refine att_sti rfl rfl rfl rfl (sti_pure hT rfl) ?_
    refine att_sti rfl rfl rfl rfl (sti_pure hT rfl) ?_
    refine att_sti rfl rfl rfl rfl (sti_pure hT rfl) ?_
    refine at_int (z' := (((st.length + 1) : Nat) : Int)) (by simp) ?_
    refine att_sti rfl rfl rfl rfl (sti_pure hT rfl) ?_
    refine at_int (z' := ((((st.length + 1) - 1) : Nat) : Int)) (wrapN (by omega) (by omega)) ?_
    refine att_sti rfl rfl rfl rfl (sti_cutTo hT (k := st.reverse.length) rfl rfl rfl rfl rfl (by simp) (by simp; omega)) ?_
    refine att_sti rfl rfl rfl rfl (ldN hT (knows_own (off := 0) .head)) ?_
    refine att_two (o := _) (o' := _) rfl rfl ?_ ?_
    · refine at_none_part rfl rfl rfl rfl fun b70 => ?_
      refine att_go (.cons kT1 (.cons kT1 (.cons kT1 .nil))) (HasAll.drop 0) ?_
      refine att_two (o := _) (o' := _) rfl rfl ?_ ?_
      · refine at_app_part .head (reads_fact (Has.of mT0)) rfl rfl rfl rfl rfl rfl rfl (by first | (simp only [List.length_singleton]; omega) | (simp; omega)) fun A71 c72 => ?_
        refine att_go (.cons kT1 (.cons kT1 (.cons kT1 .nil))) (HasAll.drop 0) ?_
        refine att_op (o := _) rfl ?_
        refine at_one_part (m := (⟨((((textF true it.fn) ++ ([92] : Bs)) ++ ([32] : Bs)) ++ p1.s), false, (2 + p1.tokens), p1.nest⟩ : Part)) rfl rfl rfl rfl rfl fun b73 => ?_
        refine att_go (.cons kT2 (.cons kT2 (.cons kT2 .nil))) (HasAll.drop 0) ?_
        refine att_op (o := _) rfl ?_
        refine at_app_part kT1 (reads_obj .head rfl) rfl rfl rfl rfl rfl rfl rfl (by first | (simp only [List.length_singleton]; omega) | (simp; omega)) fun A74 c75 => ?_
        refine att_go (.cons kT2 (.cons kT2 (.cons kT2 .nil))) (HasAll.drop 0) ?_
        refine att_sti rfl rfl rfl rfl (sti_pure hT rfl) ?_
        refine att_sti rfl rfl rfl rfl (sti_pure hT rfl) ?_
        refine att_nil ?_
        refine n_then ?_
        refine at_ret ?_
        refine r_then ?_
        have hs := st_one (p := p1) (r := st) (x := it.it) (by rw [show it.it.how = _ from hh]; decide) (by rw [show it.it.how = _ from hh]; decide) (nums_nil (by omega)) (by assumption) hmk hwn (by rw [show it.it.how = _ from hh]; rfl)
        exact at_res2 (_, _, (([] ++ st.reverse) ++ [(⟨((((textF true it.fn) ++ ([92] : Bs)) ++ ([32] : Bs)) ++ p1.s), false, (2 + p1.tokens), p1.nest⟩ : Part)])) rfl (rv_tmp rfl) (rv_tmp rfl) (.cons .head .nil) ⟨Has.pure (fun r hr => by rw [hs] at hr; cases hr; first | (simp; done) | (simp; rfl)), trivial⟩ (by rw [hs]; rfl)
      refine at_one_part (m := (⟨((((textF true it.fn) ++ ([92] : Bs)) ++ ([32] : Bs)) ++ p1.s), false, (2 + p1.tokens), p1.nest⟩ : Part)) rfl rfl rfl rfl rfl fun b76 => ?_
      refine att_go (.cons kT2 (.cons kT2 (.cons kT2 .nil))) (HasAll.drop 0) ?_
      refine att_op (o := _) rfl ?_
      refine at_app_part kT1 (reads_fact (Has.of mT0)) rfl rfl rfl rfl rfl rfl rfl (by first | (simp only [List.length_singleton]; omega) | (simp; omega)) fun A77 c78 => ?_
      refine att_go (.cons kT2 (.cons kT2 (.cons kT2 .nil))) (HasAll.drop 0) ?_
      refine att_op (o := _) rfl ?_
      refine at_app_part .head (reads_obj kT1 rfl) rfl rfl rfl rfl rfl rfl rfl (by first | (simp only [List.length_singleton]; omega) | (simp; omega)) fun A79 c80 => ?_
      refine att_go (.cons kT2 (.cons kT2 (.cons kT2 .nil))) (HasAll.drop 0) ?_
      refine att_sti rfl rfl rfl rfl (sti_pure hT rfl) ?_
      refine att_sti rfl rfl rfl rfl (sti_pure hT rfl) ?_
      refine att_nil ?_
      refine n_then ?_
      refine at_ret ?_
      refine r_then ?_
      have hs := st_one (p := p1) (r := st) (x := it.it) (by rw [show it.it.how = _ from hh]; decide) (by rw [show it.it.how = _ from hh]; decide) (nums_nil (by omega)) (by assumption) hmk hwn (by rw [show it.it.how = _ from hh]; rfl)
      exact at_res2 (_, _, (([] ++ st.reverse) ++ [(⟨((((textF true it.fn) ++ ([92] : Bs)) ++ ([32] : Bs)) ++ p1.s), false, (2 + p1.tokens), p1.nest⟩ : Part)])) rfl (rv_tmp rfl) (rv_tmp rfl) (.cons .head .nil) ⟨Has.pure (fun r hr => by rw [hs] at hr; cases hr; first | (simp; done) | (simp; rfl)), trivial⟩ (by rw [hs]; rfl)
    refine at_one_part (m := (⟨((((textF true it.fn) ++ ([92] : Bs)) ++ ([32] : Bs)) ++ p1.s), false, (2 + p1.tokens), p1.nest⟩ : Part)) rfl rfl rfl rfl rfl fun b81 => ?_
    refine att_go (.cons kT1 (.cons kT1 (.cons kT1 .nil))) (HasAll.drop 0) ?_
    refine att_op (o := _) rfl ?_
    refine at_none_part rfl rfl rfl rfl fun b82 => ?_
    refine att_go (.cons kT2 (.cons kT2 (.cons kT2 .nil))) (HasAll.drop 0) ?_
    refine att_op (o := _) rfl ?_
    refine at_app_part .head (reads_fact (Has.of mT0)) rfl rfl rfl rfl rfl rfl rfl (by first | (simp only [List.length_singleton]; omega) | (simp; omega)) fun A83 c84 => ?_
    refine att_go (.cons kT2 (.cons kT2 (.cons kT2 .nil))) (HasAll.drop 0) ?_
    refine att_op (o := _) rfl ?_
    refine at_app_part .head (reads_obj kT1 rfl) rfl rfl rfl rfl rfl rfl rfl (by first | (simp only [List.length_singleton]; omega) | (simp; omega)) fun A85 c86 => ?_
    refine att_go (.cons kT2 (.cons kT2 (.cons kT2 .nil))) (HasAll.drop 0) ?_
    refine att_sti rfl rfl rfl rfl (sti_pure hT rfl) ?_
    refine att_sti rfl rfl rfl rfl (sti_pure hT rfl) ?_
    refine att_nil ?_
    refine n_then ?_
    refine at_ret ?_
    refine r_then ?_
    have hs := st_one (p := p1) (r := st) (x := it.it) (by rw [show it.it.how = _ from hh]; decide) (by rw [show it.it.how = _ from hh]; decide) (nums_nil (by omega)) (by assumption) hmk hwn (by rw [show it.it.how = _ from hh]; rfl)
    exact at_res2 (_, _, (([] ++ st.reverse) ++ [(⟨((((textF true it.fn) ++ ([92] : Bs)) ++ ([32] : Bs)) ++ p1.s), false, (2 + p1.tokens), p1.nest⟩ : Part)])) rfl (rv_tmp rfl) (rv_tmp rfl) (.cons .head .nil) ⟨Has.pure (fun r hr => by rw [hs] at hr; cases hr; first | (simp; done) | (simp; rfl)), trivial⟩ (by rw [hs]; rfl)
  · refine at_region ?_
    refine sp hT ?_
    refine ss (ldO hT (knows_own (off := 0) .head)) ?_
    refine at_int (z' := ((7 : Nat) : Int)) hh ?_
    refine sp hT ?_
    refine at_bool (t' := false) (by decide) ?_
    refine sp2 hT ?_
    refine ss (ldO hT (knows_own (off := 0) .head)) ?_
    refine at_int (z' := ((7 : Nat) : Int)) hh ?_
    refine sp hT ?_
    refine at_bool (t' := true) (by decide) ?_
    refine sp2 hT ?_
    refine nn ?_
    refine at_seq ?_
    refine sr ?_
    refine sp hT ?_
    refine ss (ldO hT (knows_own (off := 0) .head)) ?_
    refine at_int (z' := ((7 : Nat) : Int)) hh ?_
    refine sp hT ?_
    refine at_bool (t' := false) (by decide) ?_
    refine sp2 hT ?_
    refine ss (ldO hT (knows_own (off := 0) .head)) ?_
    refine at_int (z' := ((7 : Nat) : Int)) hh ?_
    refine sp hT ?_
    refine at_bool (t' := false) (by decide) ?_
    refine sp3 hT ?_
    refine ss (ldO hT (knows_own (off := 4) .head)) ?_
    refine sp4 hT ?_
    refine at_case (fun hg53 => ?_) (fun hg53 => ?_)
    · have hg53 := of_decide_eq_true hg53
      refine sk3 ?_
      refine sp2 hT ?_
      refine sk3 ?_
      refine sp2 hT ?_
      refine sk4 ?_
      refine sk2 ?_
      refine sp hT ?_
      refine nn ?_
      refine at_true rfl rfl ?_
      refine sr ?_
      refine sp2 hT ?_
      refine nn ?_
      refine at_ret ?_
      refine r_then ?_
      refine at_nilrow' (t := 99) partE ?_
      have hs : stepR st it.it = none := by first | exact st_bad hno (by first | exact .inl (show it.how < 3 by omega) | exact .inr (.inl (show 7 < it.how by omega)) | exact .inr (.inr (.inl (nums_ne (by omega)))) | exact .inr (.inr (.inr (by assumption)))) | exact st_short2 hno (by rw [show it.it.how = _ from hh]; rfl) (by omega) | exact st_short1 hno (by omega)
      exact at_res2 (none, 0, []) rfl (rv_tmp rfl) (rv_tmp rfl) (.cons .head .nil) ⟨Has.pure (fun r hr => by rw [hs] at hr; cases hr), trivial⟩ (by rw [hs]; rfl)
    have hg53 := Int.not_lt.1 (of_decide_eq_false hg53)
    refine sp hT ?_
    refine ss (ldO hT (knows_own (off := 3) .head)) ?_
    refine sp3 hT ?_
    refine at_case (fun hg58 => ?_) (fun hg58 => ?_)
    · have hg58 : it.name ≠ ([] : Bs) := fun h => by rw [h] at hg58; first | (simp at hg58; done) | exact absurd hg58 (by decide)
      refine sk3 ?_
      refine sp2 hT ?_
      refine sk4 ?_
      refine sk2 ?_
      refine sp hT ?_
      refine nn ?_
      refine at_true rfl rfl ?_
      refine sr ?_
      refine sp2 hT ?_
      refine nn ?_
      refine at_ret ?_
      refine r_then ?_
      refine at_nilrow' (t := 99) partE ?_
      have hs : stepR st it.it = none := by first | exact st_bad hno (by first | exact .inl (show it.how < 3 by omega) | exact .inr (.inl (show 7 < it.how by omega)) | exact .inr (.inr (.inl (nums_ne (by omega)))) | exact .inr (.inr (.inr (by assumption)))) | exact st_short2 hno (by rw [show it.it.how = _ from hh]; rfl) (by omega) | exact st_short1 hno (by omega)
      exact at_res2 (none, 0, []) rfl (rv_tmp rfl) (rv_tmp rfl) (.cons .head .nil) ⟨Has.pure (fun r hr => by rw [hs] at hr; cases hr), trivial⟩ (by rw [hs]; rfl)
    have hg58 : it.name = ([] : Bs) := eq_of_beq (not_f hg58)
    refine sp2 hT ?_
    refine at_int (z' := ((st.length : Nat) : Int)) (congrArg Nat.cast List.length_reverse) ?_
    refine sp3 hT ?_
    refine at_case (fun hg63 => ?_) (fun hg63 => ?_)
    · have hg63 := of_decide_eq_true hg63
      refine sk4 ?_
      refine sk2 ?_
      refine sp hT ?_
      refine nn ?_
      refine at_true rfl rfl ?_
      refine sr ?_
      refine sp2 hT ?_
      refine nn ?_
      refine at_ret ?_
      refine r_then ?_
      refine at_nilrow' (t := 99) partE ?_
      have hs : stepR st it.it = none := by first | exact st_bad hno (by first | exact .inl (show it.how < 3 by omega) | exact .inr (.inl (show 7 < it.how by omega)) | exact .inr (.inr (.inl (nums_ne (by omega)))) | exact .inr (.inr (.inr (by assumption)))) | exact st_short2 hno (by rw [show it.it.how = _ from hh]; rfl) (by omega) | exact st_short1 hno (by omega)
      exact at_res2 (none, 0, []) rfl (rv_tmp rfl) (rv_tmp rfl) (.cons .head .nil) ⟨Has.pure (fun r hr => by rw [hs] at hr; cases hr), trivial⟩ (by rw [hs]; rfl)
    have hg63 := Int.not_lt.1 (of_decide_eq_false hg63)
    refine sp4 hT ?_
    refine at_int (z' := ((st.length : Nat) : Int)) (congrArg Nat.cast List.length_reverse) ?_
    refine sp3 hT ?_
    refine nn ?_
    refine at_cond rfl (fun hc70 => ?_) (fun hc70 => ?_)
    · have hc70_r := hc70
      have hc70 := of_decide_eq_true hc70
      refine sr ?_
      refine sp2 hT ?_
      refine nn ?_
      refine at_ret ?_
      refine r_then ?_
      refine at_nilrow' (t := 99) partE ?_
      have hs : stepR st it.it = none := by first | exact st_bad hno (by first | exact .inl (show it.how < 3 by omega) | exact .inr (.inl (show 7 < it.how by omega)) | exact .inr (.inr (.inl (nums_ne (by omega)))) | exact .inr (.inr (.inr (by assumption)))) | exact st_short2 hno (by rw [show it.it.how = _ from hh]; rfl) (by omega) | exact st_short1 hno (by omega)
      exact at_res2 (none, 0, []) rfl (rv_tmp rfl) (rv_tmp rfl) (.cons .head .nil) ⟨Has.pure (fun r hr => by rw [hs] at hr; cases hr), trivial⟩ (by rw [hs]; rfl)
    have hc70_r := hc70
    have hc70 := Int.not_lt.1 (of_decide_eq_false hc70)
    refine at_skip ?_
    refine n_then ?_
    refine at_seq ?_
    obtain ⟨p1, q1, st, rfl⟩ := cons2G (l := st) (by omega)
    have hk2 := hok q1 (by simp)
    have hk1 := hok p1 (by simp)
    simp only [List.length_cons] at hl
    simp only [List.length_reverse, List.length_cons] at hcap
    refine at_region ?_
    refine sp3 hT ?_
    refine at_int (z' := (((st.length + 2) : Nat) : Int)) (by simp) ?_
    refine sp hT ?_
    refine at_int (z' := ((((st.length + 2) - 1) : Nat) : Int)) (wrapN (by omega) (by omega)) ?_
    refine ss (sti_index hT (k := ((st.length + 2) - 1)) (reads_fact (Has.of mT0)) rfl rfl rfl rfl rfl rfl rfl (by first | omega | (simp; done) | (simp; omega))) ?_
    refine ss (sti_loadN hT (Reads.knows (reads_fact (Has.of mT0)) (k := ((st.length + 2) - 1)) (x := p1) rev2G.1 0) rfl rfl rfl rfl rfl) ?_
    refine at_alloc rfl rfl rfl rfl qrstep_zero_windrowref05_Part rfl fun b87 => ?_
    refine sto hT .head ?_
    refine nn ?_
    refine sr ?_
    refine sp hT ?_
    refine ss (ldO hT (knows_own (off := 2) kT1)) ?_
    refine sp hT ?_
    refine ss (ldO hT (knows_own (off := 0) kT1)) ?_
    refine at_int (z' := ((7 : Nat) : Int)) hh ?_
    refine sp hT ?_
    refine at_bool (t' := true) (by decide) ?_
    refine at_call (callFunc_enter Tryz.func70 rfl rfl) (rverb5_spec it.fn true) rfl rfl rfl rfl rfl .nil trivial fun _ => ?_
    have hb3 : (it.it.how != 3) = true := by rw [show it.it.how = 7 from hh]; rfl
    have htl := textF_len true it.fn
    refine sp hT ?_
    refine nn ?_
    refine at_seq ?_
    refine sr ?_
    refine sp3 hT ?_
    refine at_case (fun hg85 => ?_) (fun hg85 => ?_)
    · have hg85 : (textF true it.fn) = ([] : Bs) := eq_of_beq hg85
      refine sk4 ?_
      refine sk4 ?_
      refine sk4 ?_
      refine sk2 ?_
      refine sp hT ?_
      refine nn ?_
      refine at_true rfl rfl ?_
      refine sr ?_
      refine sp2 hT ?_
      refine nn ?_
      refine at_ret ?_
      refine r_then ?_
      refine at_nilrow' (t := 99) partE ?_
      have hs : stepR (p1 :: q1 :: st) it.it = none := st_verb hno (vr_bad hb3 (by first | exact .inl (by assumption) | exact .inr ⟨by rw [show it.it.how = _ from hh]; decide, by rw [show it.it.how = _ from hh]; decide, by assumption⟩))
      exact at_res2 (none, 0, []) rfl (rv_tmp rfl) (rv_tmp rfl) (.cons .head .nil) ⟨Has.pure (fun r hr => by rw [hs] at hr; cases hr), trivial⟩ (by rw [hs]; rfl)
    have hg85 : (textF true it.fn) ≠ ([] : Bs) := fun h => absurd (beq_iff_eq.2 h) (by rw [show ((textF true it.fn) == ([] : Bs)) = false from hg85]; simp)
    refine sp hT ?_
    refine ss (ldO hT (knows_own (off := 0) kT1)) ?_
    refine at_int (z' := ((7 : Nat) : Int)) hh ?_
    refine sp hT ?_
    refine at_bool (t' := true) (by decide) ?_
    refine sp2 hT ?_
    refine ss (ldO hT (knows_own (off := 0) kT1)) ?_
    refine at_int (z' := ((7 : Nat) : Int)) hh ?_
    refine sp hT ?_
    refine at_bool (t' := true) (by decide) ?_
    refine sp3 hT ?_
    refine ss (ldO hT (knows_own (off := 2) kT1)) ?_
    refine at_call (callFunc_enter Tryz.func71 rfl rfl) (rtakes2_spec _) rfl rfl rfl rfl rfl .nil trivial fun _ => ?_
    refine sp3 hT ?_
    refine nn ?_
    refine at_cond rfl (fun hc100 => ?_) (fun hc100 => ?_)
    · have hc100_r := hc100
      have hc100 := not_t hc100
      refine sr ?_
      refine sp2 hT ?_
      refine nn ?_
      refine at_ret ?_
      refine r_then ?_
      refine at_nilrow' (t := 99) partE ?_
      have hs : stepR (p1 :: q1 :: st) it.it = none := st_verb hno (vr_bad hb3 (by first | exact .inl (by assumption) | exact .inr ⟨by rw [show it.it.how = _ from hh]; decide, by rw [show it.it.how = _ from hh]; decide, by assumption⟩))
      exact at_res2 (none, 0, []) rfl (rv_tmp rfl) (rv_tmp rfl) (.cons .head .nil) ⟨Has.pure (fun r hr => by rw [hs] at hr; cases hr), trivial⟩ (by rw [hs]; rfl)
    have hc100_r := hc100
    have hc100 := not_f hc100
    refine at_skip ?_
    refine n_then ?_
    refine sr ?_
    refine sp hT ?_
    refine nn ?_
    refine at_seq ?_
    refine sr ?_
    refine sp hT ?_
    refine ss (ldO hT (knows_own (off := 0) kT1)) ?_
    refine at_int (z' := ((7 : Nat) : Int)) hh ?_
    refine nn ?_
    refine at_block ?_
    refine sr ?_
    refine sp hT ?_
    refine at_bool (t' := false) (by decide) ?_
    refine sp hT ?_
    refine nn ?_
    refine at_false rfl rfl ?_
    refine sr ?_
    refine sp hT ?_
    refine at_bool (t' := false) (by decide) ?_
    refine sp hT ?_
    refine nn ?_
    refine at_false rfl rfl ?_
    refine sr ?_
    refine sp hT ?_
    refine at_bool (t' := true) (by decide) ?_
    refine sp hT ?_
    refine nn ?_
    refine at_true rfl rfl ?_
    refine sr ?_
    refine sp hT ?_
    refine ss (sti_cat rfl rfl rfl (by first | omega | (simp; omega))) ?_
    refine sp hT ?_
    refine nn ?_
    refine at_region ?_
    refine sp hT ?_
    refine at_nil ?_
    refine n_block ?_
    refine n_then ?_
    refine at_seq ?_
    refine at_seq ?_
    have hmk := vr_ok (mk := [46]) (k := 2) hb3 (by assumption) (.inr (.inr (by assumption))) (by rw [show it.it.how = 7 from hh]; rfl) (by rw [show it.it.how = 7 from hh]; rfl)
    have hwn : ((textF true it.fn) ++ ([46] : Bs)) ≠ [] := by first | assumption | simp
    refine at_region ?_
    refine sp2 hT ?_
    refine nn ?_
    refine at_false rfl rfl ?_
    refine at_skip ?_
    refine n_then ?_
    refine sr ?_
    refine sp3 hT ?_
    refine at_int (z' := (((st.length + 2) : Nat) : Int)) (by simp) ?_
    refine sp hT ?_
    refine at_int (z' := ((((st.length + 2) - 2) : Nat) : Int)) (wrapN (by omega) (by omega)) ?_
    refine ss (sti_index hT (k := ((st.length + 2) - 2)) (reads_fact (Has.of mT0)) rfl rfl rfl rfl rfl rfl rfl (by first | omega | (simp; done) | (simp; omega))) ?_
    refine ss (sti_loadN hT (Reads.knows (reads_fact (Has.of mT0)) (k := ((st.length + 2) - 2)) (x := q1) rev2G.2 0) rfl rfl rfl rfl rfl) ?_
    refine at_call (callFunc_enter Tryz.func72 rfl rfl) (rbrk_spec q1 (by omega) (by omega) (by omega)) rfl rfl rfl rfl rfl .nil trivial fun _ => ?_
    have hbl := brk_len q1
    refine at_alloc rfl rfl rfl rfl qrstep_zero_windrowref05_Part rfl fun b88 => ?_
    refine sto hT .head ?_
    refine nn ?_
    refine sr ?_
    refine sp hT ?_
    refine ss (ldO hT (knows_own (off := 0) .head)) ?_
    refine ss (sti_cat rfl rfl rfl (by first | omega | (simp; omega))) ?_
    refine sp hT ?_
    refine ss (sti_cat rfl rfl rfl (by first | omega | (simp; omega))) ?_
    refine ss (sti_cat rfl rfl rfl (by first | omega | (simp; omega))) ?_
    refine sp hT ?_
    refine ss (ldO hT (knows_own (off := 0) kT1)) ?_
    refine ss (sti_cat rfl rfl rfl (by first | omega | (simp; omega))) ?_
    refine sp hT ?_
    refine ss (ldO hT (knows_own (off := 2) .head)) ?_
    refine sp2 hT ?_
    refine at_int (z' := ((((brkR q1).tokens + 2) : Nat) : Int)) (wrapN (by omega) (by omega)) ?_
    refine sp hT ?_
    refine ss (ldO hT (knows_own (off := 2) kT1)) ?_
    refine sp hT ?_
    refine at_int (z' := (((((brkR q1).tokens + 2) + p1.tokens) : Nat) : Int)) (wrapN (by omega) (by omega)) ?_
    refine sp hT ?_
    refine ss (ldO hT (knows_own (off := 3) .head)) ?_
    refine sp hT ?_
    refine ss (ldO hT (knows_own (off := 3) kT1)) ?_
    refine sp hT ?_
    refine at_int (z' := (((max (brkR q1).nest p1.nest) : Nat) : Int)) (maxN _ _) ?_
    refine ss (sti_build rfl rfl (qrstep_built_windrowref05_Part_023 _ _ _)) ?_
    refine at_alloc rfl rfl rfl rfl qrstep_zero_windrowref05_Part rfl fun b89 => ?_
    refine sto hT .head ?_
    refine nn ?_
    refine at_seq ?_
    refine at_fact (partE.sl (.slice B st.reverse.length e) st.reverse) (rcut2 (Has.of mT0)) ?_
    refine at_mixT _ _ (.fl 1 (.fl 2 (.fl 3 (.fl 4 (.fl 5 (.fl 7 (.two 0 8 (.two 6 8 (.op 8 (.op 9 (.fl 10 (.fl 11 .nil)))) (.op 6 (.op 9 (.fl 10 (.fl 11 .nil))))) (.op 0 (.op 6 (.op 9 (.fl 10 (.fl 11 .nil)))))))))))) mixes (by decide +kernel) (.cons .head (.cons .head (.cons .head (.cons .head .nil)))) HasAll.self ?_
    refine att_sti rfl rfl rfl rfl (sti_pure hT rfl) ?_
    refine att_sti rfl rfl rfl rfl (sti_pure hT rfl) ?_
    refine att_sti rfl rfl rfl rfl (sti_pure hT rfl) ?_
    refine at_int (z' := (((st.length + 2) : Nat) : Int)) (by simp) ?_
    refine att_sti rfl rfl rfl rfl (sti_pure hT rfl) ?_
    refine at_int (z' := ((((st.length + 2) - 2) : Nat) : Int)) (wrapN (by omega) (by omega)) ?_
    refine att_sti rfl rfl rfl rfl (sti_cutTo hT (k := st.reverse.length) rfl rfl rfl rfl rfl (by simp) (by simp; omega)) ?_
    refine att_sti rfl rfl rfl rfl (ldN hT (knows_own (off := 0) .head)) ?_
    refine att_two (o := _) (o' := _) rfl rfl ?_ ?_
    · refine at_none_part rfl rfl rfl rfl fun b90 => ?_
      refine att_go (.cons kT1 (.cons kT1 (.cons kT1 (.cons kT1 .nil)))) (HasAll.drop 0) ?_
      refine att_two (o := _) (o' := _) rfl rfl ?_ ?_
      · refine at_app_part .head (reads_fact (Has.of mT0)) rfl rfl rfl rfl rfl rfl rfl (by first | (simp only [List.length_singleton]; omega) | (simp; omega)) fun A91 c92 => ?_
        refine att_go (.cons kT1 (.cons kT1 (.cons kT1 (.cons kT1 .nil)))) (HasAll.drop 0) ?_
        refine att_op (o := _) rfl ?_
        refine at_one_part (m := (⟨(((((brkR q1).s ++ ([32] : Bs)) ++ ((textF true it.fn) ++ ([46] : Bs))) ++ ([32] : Bs)) ++ p1.s), false, (((brkR q1).tokens + 2) + p1.tokens), (max (brkR q1).nest p1.nest)⟩ : Part)) rfl rfl rfl rfl rfl fun b93 => ?_
        refine att_go (.cons kT2 (.cons kT2 (.cons kT2 (.cons kT2 .nil)))) (HasAll.drop 0) ?_
        refine att_op (o := _) rfl ?_
        refine at_app_part kT1 (reads_obj .head rfl) rfl rfl rfl rfl rfl rfl rfl (by first | (simp only [List.length_singleton]; omega) | (simp; omega)) fun A94 c95 => ?_
        refine att_go (.cons kT2 (.cons kT2 (.cons kT2 (.cons kT2 .nil)))) (HasAll.drop 0) ?_
        refine att_sti rfl rfl rfl rfl (sti_pure hT rfl) ?_
        refine att_sti rfl rfl rfl rfl (sti_pure hT rfl) ?_
        refine att_nil ?_
        refine n_then ?_
        refine at_ret ?_
        have hs := st_two (p := p1) (q := q1) (r := st) (x := it.it) (by rw [show it.it.how = _ from hh]; decide) (by rw [show it.it.how = _ from hh]; decide) (nums_nil (by omega)) (by assumption) hmk hwn (by rw [show it.it.how = _ from hh]; rfl)
        exact at_res2 (_, _, (([] ++ st.reverse) ++ [(⟨(((((brkR q1).s ++ ([32] : Bs)) ++ ((textF true it.fn) ++ ([46] : Bs))) ++ ([32] : Bs)) ++ p1.s), false, (((brkR q1).tokens + 2) + p1.tokens), (max (brkR q1).nest p1.nest)⟩ : Part)])) rfl (rv_tmp rfl) (rv_tmp rfl) (.cons .head .nil) ⟨Has.pure (fun r hr => by rw [hs] at hr; cases hr; first | (simp; done) | (simp; rfl)), trivial⟩ (by rw [hs]; rfl)
      refine at_one_part (m := (⟨(((((brkR q1).s ++ ([32] : Bs)) ++ ((textF true it.fn) ++ ([46] : Bs))) ++ ([32] : Bs)) ++ p1.s), false, (((brkR q1).tokens + 2) + p1.tokens), (max (brkR q1).nest p1.nest)⟩ : Part)) rfl rfl rfl rfl rfl fun b96 => ?_
      refine att_go (.cons kT2 (.cons kT2 (.cons kT2 (.cons kT2 .nil)))) (HasAll.drop 0) ?_
      refine att_op (o := _) rfl ?_
      refine at_app_part kT1 (reads_fact (Has.of mT0)) rfl rfl rfl rfl rfl rfl rfl (by first | (simp only [List.length_singleton]; omega) | (simp; omega)) fun A97 c98 => ?_
      refine att_go (.cons kT2 (.cons kT2 (.cons kT2 (.cons kT2 .nil)))) (HasAll.drop 0) ?_
      refine att_op (o := _) rfl ?_
      refine at_app_part .head (reads_obj kT1 rfl) rfl rfl rfl rfl rfl rfl rfl (by first | (simp only [List.length_singleton]; omega) | (simp; omega)) fun A99 c100 => ?_
      refine att_go (.cons kT2 (.cons kT2 (.cons kT2 (.cons kT2 .nil)))) (HasAll.drop 0) ?_
      refine att_sti rfl rfl rfl rfl (sti_pure hT rfl) ?_
      refine att_sti rfl rfl rfl rfl (sti_pure hT rfl) ?_
      refine att_nil ?_
      refine n_then ?_
      refine at_ret ?_
      have hs := st_two (p := p1) (q := q1) (r := st) (x := it.it) (by rw [show it.it.how = _ from hh]; decide) (by rw [show it.it.how = _ from hh]; decide) (nums_nil (by omega)) (by assumption) hmk hwn (by rw [show it.it.how = _ from hh]; rfl)
      exact at_res2 (_, _, (([] ++ st.reverse) ++ [(⟨(((((brkR q1).s ++ ([32] : Bs)) ++ ((textF true it.fn) ++ ([46] : Bs))) ++ ([32] : Bs)) ++ p1.s), false, (((brkR q1).tokens + 2) + p1.tokens), (max (brkR q1).nest p1.nest)⟩ : Part)])) rfl (rv_tmp rfl) (rv_tmp rfl) (.cons .head .nil) ⟨Has.pure (fun r hr => by rw [hs] at hr; cases hr; first | (simp; done) | (simp; rfl)), trivial⟩ (by rw [hs]; rfl)
    refine at_one_part (m := (⟨(((((brkR q1).s ++ ([32] : Bs)) ++ ((textF true it.fn) ++ ([46] : Bs))) ++ ([32] : Bs)) ++ p1.s), false, (((brkR q1).tokens + 2) + p1.tokens), (max (brkR q1).nest p1.nest)⟩ : Part)) rfl rfl rfl rfl rfl fun b101 => ?_
    refine att_go (.cons kT1 (.cons kT1 (.cons kT1 (.cons kT1 .nil)))) (HasAll.drop 0) ?_
    refine att_op (o := _) rfl ?_
    refine at_none_part rfl rfl rfl rfl fun b102 => ?_
    refine att_go (.cons kT2 (.cons kT2 (.cons kT2 (.cons kT2 .nil)))) (HasAll.drop 0) ?_
    refine att_op (o := _) rfl ?_
    refine at_app_part .head (reads_fact (Has.of mT0)) rfl rfl rfl rfl rfl rfl rfl (by first | (simp only [List.length_singleton]; omega) | (simp; omega)) fun A103 c104 => ?_
    refine att_go (.cons kT2 (.cons kT2 (.cons kT2 (.cons kT2 .nil)))) (HasAll.drop 0) ?_
    refine att_op (o := _) rfl ?_
    refine at_app_part .head (reads_obj kT1 rfl) rfl rfl rfl rfl rfl rfl rfl (by first | (simp only [List.length_singleton]; omega) | (simp; omega)) fun A105 c106 => ?_
    refine att_go (.cons kT2 (.cons kT2 (.cons kT2 (.cons kT2 .nil)))) (HasAll.drop 0) ?_
    refine att_sti rfl rfl rfl rfl (sti_pure hT rfl) ?_
    refine att_sti rfl rfl rfl rfl (sti_pure hT rfl) ?_
    refine att_nil ?_
    refine n_then ?_
    refine at_ret ?_
    have hs := st_two (p := p1) (q := q1) (r := st) (x := it.it) (by rw [show it.it.how = _ from hh]; decide) (by rw [show it.it.how = _ from hh]; decide) (nums_nil (by omega)) (by assumption) hmk hwn (by rw [show it.it.how = _ from hh]; rfl)
    exact at_res2 (_, _, (([] ++ st.reverse) ++ [(⟨(((((brkR q1).s ++ ([32] : Bs)) ++ ((textF true it.fn) ++ ([46] : Bs))) ++ ([32] : Bs)) ++ p1.s), false, (((brkR q1).tokens + 2) + p1.tokens), (max (brkR q1).nest p1.nest)⟩ : Part)])) rfl (rv_tmp rfl) (rv_tmp rfl) (.cons .head .nil) ⟨Has.pure (fun r hr => by rw [hs] at hr; cases hr; first | (simp; done) | (simp; rfl)), trivial⟩ (by rw [hs]; rfl)
  have hh0 : it.how < 3 ∨ 7 < it.how := hh
  refine at_region ?_
  refine sp hT ?_
  refine ss (ldO hT (knows_own (off := 0) .head)) ?_
  refine sp2 hT ?_
  refine at_case (fun hg34 => ?_) (fun hg34 => ?_)
  · have hg34 := eq_of_beq hg34
    refine sk3 ?_
    refine sp2 hT ?_
    refine nn ?_
    refine at_seq ?_
    refine sr ?_
    refine sp hT ?_
    refine ss (ldO hT (knows_own (off := 0) .head)) ?_
    refine sp2 hT ?_
    refine at_case (fun hg42 => ?_) (fun hg42 => ?_)
    · have hg42 := of_decide_eq_true hg42
      refine sk3 ?_
      refine sp2 hT ?_
      refine sk4 ?_
      refine sp2 hT ?_
      refine sk3 ?_
      refine sp2 hT ?_
      refine sk3 ?_
      refine sp2 hT ?_
      refine sk4 ?_
      refine sk2 ?_
      refine sp hT ?_
      refine nn ?_
      refine at_true rfl rfl ?_
      refine sr ?_
      refine sp2 hT ?_
      refine nn ?_
      refine at_ret ?_
      refine r_then ?_
      refine at_nilrow' (t := 99) partE ?_
      have hs : stepR st it.it = none := by first | exact st_bad hno (by first | exact .inl (show it.how < 3 by omega) | exact .inr (.inl (show 7 < it.how by omega)) | exact .inr (.inr (.inl (nums_ne (by omega)))) | exact .inr (.inr (.inr (by assumption)))) | exact st_short2 hno (by rw [show it.it.how = _ from hh]; rfl) (by omega) | exact st_short1 hno (by omega)
      exact at_res2 (none, 0, []) rfl (rv_tmp rfl) (rv_tmp rfl) (.cons .head .nil) ⟨Has.pure (fun r hr => by rw [hs] at hr; cases hr), trivial⟩ (by rw [hs]; rfl)
    have hg42 := Int.not_lt.1 (of_decide_eq_false hg42)
    refine sp hT ?_
    refine ss (ldO hT (knows_own (off := 0) .head)) ?_
    refine sp3 hT ?_
    refine at_case (fun hg47 => ?_) (fun hg47 => ?_)
    · have hg47 := of_decide_eq_true hg47
      refine sk4 ?_
      refine sp2 hT ?_
      refine sk3 ?_
      refine sp2 hT ?_
      refine sk3 ?_
      refine sp2 hT ?_
      refine sk4 ?_
      refine sk2 ?_
      refine sp hT ?_
      refine nn ?_
      refine at_true rfl rfl ?_
      refine sr ?_
      refine sp2 hT ?_
      refine nn ?_
      refine at_ret ?_
      refine r_then ?_
      refine at_nilrow' (t := 99) partE ?_
      have hs : stepR st it.it = none := by first | exact st_bad hno (by first | exact .inl (show it.how < 3 by omega) | exact .inr (.inl (show 7 < it.how by omega)) | exact .inr (.inr (.inl (nums_ne (by omega)))) | exact .inr (.inr (.inr (by assumption)))) | exact st_short2 hno (by rw [show it.it.how = _ from hh]; rfl) (by omega) | exact st_short1 hno (by omega)
      exact at_res2 (none, 0, []) rfl (rv_tmp rfl) (rv_tmp rfl) (.cons .head .nil) ⟨Has.pure (fun r hr => by rw [hs] at hr; cases hr), trivial⟩ (by rw [hs]; rfl)
    have hg47 := Int.not_lt.1 (of_decide_eq_false hg47)
    omega
  have hg34 := beq_eq_false_iff_ne.1 hg34
  refine sp hT ?_
  refine ss (ldO hT (knows_own (off := 0) .head)) ?_
  refine sp3 hT ?_
  refine nn ?_
  refine at_seq ?_
  refine sr ?_
  refine sp hT ?_
  refine ss (ldO hT (knows_own (off := 0) .head)) ?_
  refine sp2 hT ?_
  refine at_case (fun hg42 => ?_) (fun hg42 => ?_)
  · have hg42 := of_decide_eq_true hg42
    refine sk3 ?_
    refine sp2 hT ?_
    refine sk4 ?_
    refine sp2 hT ?_
    refine sk3 ?_
    refine sp2 hT ?_
    refine sk3 ?_
    refine sp2 hT ?_
    refine sk4 ?_
    refine sk2 ?_
    refine sp hT ?_
    refine nn ?_
    refine at_true rfl rfl ?_
    refine sr ?_
    refine sp2 hT ?_
    refine nn ?_
    refine at_ret ?_
    refine r_then ?_
    refine at_nilrow' (t := 99) partE ?_
    have hs : stepR st it.it = none := by first | exact st_bad hno (by first | exact .inl (show it.how < 3 by omega) | exact .inr (.inl (show 7 < it.how by omega)) | exact .inr (.inr (.inl (nums_ne (by omega)))) | exact .inr (.inr (.inr (by assumption)))) | exact st_short2 hno (by rw [show it.it.how = _ from hh]; rfl) (by omega) | exact st_short1 hno (by omega)
    exact at_res2 (none, 0, []) rfl (rv_tmp rfl) (rv_tmp rfl) (.cons .head .nil) ⟨Has.pure (fun r hr => by rw [hs] at hr; cases hr), trivial⟩ (by rw [hs]; rfl)
  have hg42 := Int.not_lt.1 (of_decide_eq_false hg42)
  refine sp hT ?_
  refine ss (ldO hT (knows_own (off := 0) .head)) ?_
  refine sp3 hT ?_
  refine at_case (fun hg47 => ?_) (fun hg47 => ?_)
  · have hg47 := of_decide_eq_true hg47
    refine sk4 ?_
    refine sp2 hT ?_
    refine sk3 ?_
    refine sp2 hT ?_
    refine sk3 ?_
    refine sp2 hT ?_
    refine sk4 ?_
    refine sk2 ?_
    refine sp hT ?_
    refine nn ?_
    refine at_true rfl rfl ?_
    refine sr ?_
    refine sp2 hT ?_
    refine nn ?_
    refine at_ret ?_
    refine r_then ?_
    refine at_nilrow' (t := 99) partE ?_
    have hs : stepR st it.it = none := by first | exact st_bad hno (by first | exact .inl (show it.how < 3 by omega) | exact .inr (.inl (show 7 < it.how by omega)) | exact .inr (.inr (.inl (nums_ne (by omega)))) | exact .inr (.inr (.inr (by assumption)))) | exact st_short2 hno (by rw [show it.it.how = _ from hh]; rfl) (by omega) | exact st_short1 hno (by omega)
    exact at_res2 (none, 0, []) rfl (rv_tmp rfl) (rv_tmp rfl) (.cons .head .nil) ⟨Has.pure (fun r hr => by rw [hs] at hr; cases hr), trivial⟩ (by rw [hs]; rfl)
  have hg47 := Int.not_lt.1 (of_decide_eq_false hg47)
  omega

end Go.Proofs.YtngkedmndhmjcaaGreatDoor
