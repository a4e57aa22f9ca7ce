/- Walks of the reference's layer 5: an expression, an input. (Printed by wip/gen/ref7.py.) -/
import Derived.Test.YtngkedmndhmjcaaGreatDoorRef6
import Derived.Test.YtngkedmndhmjcaaGreatDoorDocS
namespace Go.Proofs.YtngkedmndhmjcaaGreatDoor
open Go.RowKit

/-- how far the walk has come: st: what stands on the stack, behind i items -/
structure RInv (l : List Item) (st : List Part) (i : Nat) : Prop where
  steps : stepsR (l.drop i) st = stepsR l []
  le : i ≤ l.length
  len : st.length ≤ i
  sum : (st.map (·.tokens)).sum ≤ 300 * i
  nest : ∀ p ∈ st, p.nest ≤ i
  ok : ∀ p ∈ st, p.s.length ≤ 40 * p.tokens
section
variable {l : List Item} {st r : List Part} {i k : Nat} {x : Item} {p q : Part}
theorem RInv.start (l : List Item) : RInv l [] 0 := ⟨rfl, by omega, by simp, by simp, fun p hp => by simp at hp, fun p hp => by simp at hp⟩
theorem RInv.fail (h : RInv l st i) (hx : l[i]? = some x) (hs : stepR st x = none) : exprR l k = none := by
  have := h.steps
  rw [drop_some hx, stepsR, hs] at this
  unfold exprR
  rw [← this]
  split <;> rfl
def finR (k : Nat) : List Part → Option Bs
  | [p] => if 256 < p.tokens + k ∨ 32 < p.nest then none else some p.s
  | _ => none
theorem RInv.done (h : RInv l st i) (hi : l.length ≤ i) (hm : ¬ 256 < l.length) : exprR l k = finR k st := by
  have := h.steps
  rw [List.drop_of_length_le hi, stepsR] at this
  unfold exprR
  rw [if_neg hm, ← this]
  match st with
  | [] => rfl
  | [_] => rfl
  | _ :: _ :: _ => rfl
theorem xr_long (h : 256 < l.length) : exprR l k = none := by rw [exprR, if_pos h]
theorem not_oneR (h : st.length ≠ 1) : finR k st = none := by
  match st, h with
  | [], _ => rfl
  | [_], h => exact absurd rfl h
  | _ :: _ :: _, _ => rfl
theorem finR_one (h : ¬ (256 < p.tokens + k ∨ 32 < p.nest)) : finR k [p] = some p.s := if_neg h
theorem finR_bad (h : 256 < p.tokens + k ∨ 32 < p.nest) : finR k [p] = none := if_pos h
theorem operandR_ok (hz : ∀ z ∈ x.nums, -9223372036854775808 ≤ z ∧ z ≤ 9223372036854775807) : (operandR x).s.length ≤ 40 * (operandR x).tokens ∧ (operandR x).tokens ≤ 256 ∧ (operandR x).nest = 0 := by
  unfold operandR
  split
  · exact ⟨by simp [noPart], by simp [noPart], rfl⟩
  · split
    · split
      · exact ⟨by simp [noPart], by simp [noPart], rfl⟩
      · rename_i h
        have hn : nameB x.name = true := by
          cases hn : nameB x.name with
          | true => rfl
          | false => exact absurd (.inr hn) h
        have := nameB_len hn
        exact ⟨by simp; omega, by simp, rfl⟩
    · split
      · exact ⟨by simp [noPart], by simp [noPart], rfl⟩
      · rename_i h
        have h1 : ¬ 256 < x.nums.length := fun e => h (.inr e)
        have h2 := join_len (x.nums.map spellN)
        have h3 := sum_spell hz
        refine ⟨?_, by simp; omega, rfl⟩
        rw [numsR0_join]
        simp only
        omega
theorem verbR_ok (h : (verbR x).1 ≠ []) : (verbR x).1.length ≤ 6 ∧ 1 ≤ (verbR x).2 ∧ (verbR x).2 ≤ 2 := by
  unfold verbR at h ⊢
  rw [first_text] at h ⊢
  have h1 := textF_len (x.how != 3) x.fn
  have h3 := markS_len x.how
  dsimp only at h ⊢
  split
  · rename_i hb
    rw [if_pos hb] at h
    exact absurd rfl h
  · refine ⟨by simp; omega, ?_, ?_⟩
    · simp only
      split <;> omega
    · simp only
      split <;> omega
theorem brk_ok (h : p.s.length ≤ 40 * p.tokens) : (brkR p).s.length ≤ 40 * (brkR p).tokens := by
  unfold brkR
  split
  · exact h
  · simp; omega
theorem RInv.next (h : RInv l st i) (hx : l[i]? = some x) (hz : ∀ z ∈ x.nums, -9223372036854775808 ≤ z ∧ z ≤ 9223372036854775807) (hs : stepR st x = some r) : RInv l r (i + 1) := by
  have hl := (List.getElem?_eq_some_iff.1 hx).1
  have hst : stepsR (l.drop (i + 1)) r = stepsR l [] := by
    have := h.steps
    rw [drop_some hx, stepsR, hs] at this
    exact this
  obtain ⟨_, _, hlen, hsum, hnest, hok⟩ := h
  suffices hh : r.length ≤ st.length + 1 ∧ (r.map (·.tokens)).sum ≤ (st.map (·.tokens)).sum + 300 ∧ (∀ p ∈ r, p.nest ≤ i + 1) ∧ ∀ p ∈ r, p.s.length ≤ 40 * p.tokens from
    ⟨hst, hl, by omega, by omega, hh.2.2.1, hh.2.2.2⟩
  unfold stepR at hs
  split at hs
  · split at hs
    · cases hs
      obtain ⟨h1, h2, h3⟩ := operandR_ok hz
      refine ⟨by simp, by simp only [List.map_cons, List.sum_cons]; omega, fun p hp => ?_, fun p hp => ?_⟩
      · rcases List.mem_cons.1 hp with rfl | hp
        · omega
        · have := hnest p hp; omega
      · rcases List.mem_cons.1 hp with rfl | hp
        · exact h1
        · exact hok p hp
    · cases hs
  · split at hs
    · cases hs
    · split at hs
      · cases hs
      · rename_i hv
        obtain ⟨v1, v2, v3⟩ := verbR_ok hv
        split at hs
        · rcases st with _ | ⟨p, _ | ⟨q, st⟩⟩
          · cases hs
          · cases hs
          · cases hs
            obtain ⟨b1, b2, b3⟩ := brk_len q
            have b4 := brk_ok (hok q (by simp))
            have b5 := hok p (by simp)
            have n1 := hnest p (by simp)
            have n2 := hnest q (by simp)
            refine ⟨by simp, by simp only [List.map_cons, List.sum_cons]; omega, fun y hy => ?_, fun y hy => ?_⟩
            · rcases List.mem_cons.1 hy with rfl | hy
              · dsimp only; omega
              · have := hnest y (by simp [hy]); omega
            · rcases List.mem_cons.1 hy with rfl | hy
              · simp only [List.length_append, List.length_cons, List.length_nil]; omega
              · exact hok y (by simp [hy])
        · rcases st with _ | ⟨p, st⟩
          · cases hs
          · cases hs
            have b5 := hok p (by simp)
            have n1 := hnest p (by simp)
            refine ⟨by simp, by simp only [List.map_cons, List.sum_cons]; omega, fun y hy => ?_, fun y hy => ?_⟩
            · rcases List.mem_cons.1 hy with rfl | hy
              · dsimp only; omega
              · have := hnest y (by simp [hy]); omega
            · rcases List.mem_cons.1 hy with rfl | hy
              · simp only [List.length_append, List.length_cons, List.length_nil]; omega
              · exact hok y (by simp [hy])
theorem RInv.bound (h : RInv l st i) (hi : i ≤ 256) : ∀ p ∈ st, p.s.length ≤ 1000000000 ∧ p.tokens ≤ 1000000000 ∧ p.nest ≤ 1000000000 := fun p hp => by
  have key : ∀ st : List Part, p ∈ st → p.tokens ≤ (st.map (·.tokens)).sum := by
    intro st
    induction st with
    | nil => intro h; simp at h
    | cons q r ih =>
      intro h
      simp only [List.map_cons, List.sum_cons]
      rcases List.mem_cons.1 h with rfl | h
      · omega
      · have := ih h; omega
  have h1 := key st hp
  have h2 := h.sum
  have h3 := h.ok p hp
  have h4 := h.nest p hp
  exact ⟨by omega, by omega, by omega⟩
theorem oneG {α : Type} {l : List α} (h : l.length = 1) : ∃ p, l = [p] := by
  match l, h with
  | [p], _ => exact ⟨p, rfl⟩
end

def inpT : Option Bs → Bs
  | some t => [105, 110, 32] ++ t
  | none => []
theorem sidesS_len : ∀ {l : List Side} {t r : Bs}, (∀ d ∈ l, -9223372036854775808 ≤ d.n ∧ d.n ≤ 9223372036854775807) → sidesS l t = some r → r.length ≤ t.length + 30 * l.length
  | [], t, r, _, h => by cases h; simp
  | d :: l, t, r, hd, h => by
    have h1 := hd d (by simp)
    have h2 := spell_len h1.1 h1.2
    rw [sidesS] at h
    split at h
    · have := sidesS_len (fun y hy => hd y (by simp [hy])) h
      simp at this ⊢
      omega
    · split at h
      · rename_i hn
        have h3 := nameB_len hn.2
        have := sidesS_len (fun y hy => hd y (by simp [hy])) h
        simp at this ⊢
        omega
      · cases h
theorem inp_len {x : InputV} (hd : ∀ d ∈ x.sides.list, d.name.length ≤ 140737488355328 ∧ -9223372036854775808 ≤ d.n ∧ d.n ≤ 9223372036854775807) : (inpT (inputS x.inp)).length ≤ 200 := by
  unfold inpT
  split
  · rename_i t h
    unfold inputS at h
    split at h
    · cases h
    · rename_i hb
      have h1 : ¬ 4 < x.inp.sides.length := fun e => hb (.inr e)
      have h2 : nameB x.inp.name = true := by
        cases hn : nameB x.inp.name with
        | true => rfl
        | false => exact absurd (.inl hn) hb
      have h3 := nameB_len h2
      have := sidesS_len (fun d hd' => by
        obtain ⟨y, hy, rfl⟩ := List.mem_map.1 hd'
        exact (hd y hy).2) h
      simp
      omega
  · simp
theorem exprS_lenD {l : List Item} {most : Nat} (hz : ∀ x ∈ l, ∀ z ∈ x.nums, -9223372036854775808 ≤ z ∧ z ≤ 9223372036854775807) : ((exprS l most).getD []).length ≤ 40 * most := by
  cases h : exprS l most with
  | none => simp
  | some t => exact exprS_len hz h
theorem show_a {p : Prog} (h : (programS p).2 = false) : showP p = ([], 50) := by rw [showP, if_pos h]
theorem show_b {p : Prog} (h : (programS p).2 = true) (h' : 65536 < (programS p).1.length) : showP p = ([], 30) := by rw [showP, if_neg (by rw [h]; simp), if_pos h']
theorem show_c {p : Prog} (h : (programS p).2 = true) (h' : ¬ 65536 < (programS p).1.length) : showP p = ((programS p).1, 0) := by rw [showP, if_neg (by rw [h]; simp), if_neg h']
theorem qrexpr_zero_api_Side : (Tryz.prog.info? 61).bind (·.zero) = some (.agg #[.string (bs []), .int .i64 0]) := by kernel_rfl
theorem qrexpr_zero_api_Line : (Tryz.prog.info? 42).bind (·.zero) = some (.agg #[.string (bs []), .int .i64 0, .slice none 0 0]) := by kernel_rfl

set_option maxRecDepth 100000 in
theorem rexpr_spec (A : Option Addr) (ci : Nat) (items : List ItemV) (k : Nat) (hk : k ≤ 256) (hit : ∀ it ∈ items, it.name.length ≤ 140737488355328 ∧ ∀ z ∈ it.nums.list, -9223372036854775808 ≤ z ∧ z ≤ 9223372036854775807) : Spec Tryz.prog 30 [.slice A items.length ci, .int .i64 (k : Nat)] [] [itemE.sl (.slice A items.length ci) items, numsF items] (fun (_ : Unit) => .tuple #[.string (bs ((exprS (items.map ItemV.it) (256 - k)).getD [])), .bool (exprS (items.map ItemV.it) (256 - k)).isSome]) (fun _ => []) (fun _ => []) := by
  have hT := refT_ok
  rw [← expr_like _ _ hk]
  generalize hR : exprR (items.map ItemV.it) k = r
  refine spec_of Tryz.func30 rfl Tryz.ntmps30 rfl ?_
  intro β hM
  refine sr ?_
  refine sp2 hT ?_
  refine nn ?_
  refine at_seq ?_
  refine sr ?_
  refine sp3 hT ?_
  refine nn ?_
  refine at_cond rfl (fun hc12 => ?_) (fun hc12 => ?_)
  · have hc12 := of_decide_eq_true hc12
    refine sr ?_
    refine sp2 hT ?_
    refine nn ?_
    refine at_ret ?_
    refine r_then ?_
    have hr := hR.symm.trans (xr_long (by rw [List.length_map]; omega))
    subst hr
    exact at_res2 () rfl (rv_tmp rfl) (rv_tmp rfl) .nil trivial rfl
  have hc12 := Int.not_lt.1 (of_decide_eq_false hc12)
  refine at_skip ?_
  refine n_then ?_
  refine sr ?_
  refine sp hT ?_
  refine nn ?_
  refine at_seq ?_
  refine sr ?_
  refine sp hT ?_
  refine nn ?_
  refine at_block ?_
  refine at_nilrow' (t := 99) partE ?_
  refine at_loop2 (ι := Nat × List Part × Option Addr × Nat) [(0, _), (1, _)] ⟨rfl, rfl, trivial⟩ (fun ⟨i, st, B, e⟩ => [(6, .slice B st.reverse.length e), (7, .int .i64 (i : Nat))]) (fun ⟨i, st, B, e⟩ => [partE.row (.slice B st.reverse.length e) 99 st.reverse]) (fun ⟨i, st, B, e⟩ => [Fact.pure (RInv (items.map ItemV.it) st i)]) (fun ⟨i, st, B, e⟩ => items.length - i) (0, [], none, 0) ⟨rfl, rfl, trivial⟩ (.cons .head .nil) ⟨Has.pure (RInv.start _), trivial⟩ ?_
  rintro ⟨i, st, B, e⟩
  dsimp only
  refine at_know (Has.of mT0) fun hinv5 => ?_
  have hil := hinv5.le
  simp only [List.length_map] at hil
  have hlen := hinv5.len
  have hbd := hinv5.bound (by omega)
  refine at_seq ?_
  refine sr ?_
  refine sp4 hT ?_
  refine nn ?_
  refine at_cond rfl (fun hc16 => ?_) (fun hc16 => ?_)
  · have hc16 := of_decide_eq_true hc16
    refine at_skip ?_
    refine n_then ?_
    refine at_seq ?_
    refine at_block ?_
    refine sr ?_
    refine sp3 hT ?_
    obtain ⟨x1, hx2⟩ : ∃ x', items[i]? = some x' := ⟨_, List.getElem?_eq_getElem (by omega)⟩
    refine ss (sti_index hT (k := i) (reads_fact (Has.of mT1)) rfl rfl rfl rfl rfl rfl rfl (by omega)) ?_
    refine ss (sti_loadN hT (Reads.knows (reads_fact (Has.of mT1)) (k := i) (x := x1) hx2 0) rfl rfl rfl rfl rfl) ?_
    have hx0 : (items.map ItemV.it)[i]? = some x1.it := by rw [List.getElem?_map, hx2]; rfl
    have hxi := hit x1 (List.mem_of_getElem? hx2)
    refine at_fact (numF x1) (Has.each (Has.of mT2) (List.mem_of_getElem? hx2)) ?_
    refine at_call (callFunc_enter Tryz.func48 rfl rfl) (rstep_spec B e st x1 hxi.2 (by omega) hbd) rfl rfl rfl rfl rfl (.cons .head .nil) ⟨(Has.of mT0), trivial⟩ fun ⟨A3, c4, L5⟩ => ?_
    refine at_know (Has.of mT0) fun hpu => ?_
    dsimp only at hpu
    refine sp4 hT ?_
    refine sp hT ?_
    refine nn ?_
    refine at_seq ?_
    refine sr ?_
    refine sp2 hT ?_
    refine nn ?_
    refine at_cond rfl (fun hc29 => ?_) (fun hc29 => ?_)
    · have hc29 := not_t hc29
      refine sr ?_
      refine sp2 hT ?_
      refine nn ?_
      refine at_ret ?_
      refine r_then ?_
      refine r_block ?_
      refine r_then ?_
      refine r_then ?_
      refine r_block ?_
      refine r_then ?_
      have hr := hR.symm.trans (hinv5.fail hx0 (opt_none (by assumption)))
      subst hr
      exact at_res2 () rfl (rv_tmp rfl) (rv_tmp rfl) .nil trivial rfl
    have hc29 := not_f hc29
    refine at_skip ?_
    refine n_then ?_
    obtain ⟨r, hr⟩ : ∃ r, stepR st x1.it = some r := Option.isSome_iff_exists.1 (by assumption)
    have hL := hpu r hr
    subst hL
    refine at_region ?_
    refine sp2 hT ?_
    refine at_nil ?_
    refine n_block ?_
    refine n_then ?_
    refine at_region ?_
    refine sp2 hT ?_
    refine at_int (z' := (((i + 1) : Nat) : Int)) (wrapN (by omega) (by omega)) ?_
    refine sp hT ?_
    refine nn ?_
    exact at_back2 (i + 1, r, _, _) (by dsimp only; omega) ⟨rfl, rfl, trivial⟩ ⟨rfl, rfl, trivial⟩ (.cons .head .nil) ⟨Has.pure (hinv5.next hx0 hxi.2 hr), trivial⟩ (HasAll.drop 3)
  have hc16 := Int.not_lt.1 (of_decide_eq_false hc16)
  refine at_exit ?_
  refine x_then ?_
  refine x_then ?_
  refine x_block ?_
  refine n_then ?_
  refine at_seq ?_
  refine sr ?_
  refine sp2 hT ?_
  refine at_int (z' := ((st.length : Nat) : Int)) (congrArg Nat.cast List.length_reverse) ?_
  refine sp2 hT ?_
  refine at_case (fun hg34 => ?_) (fun hg34 => ?_)
  · have hg34 := bne_iff_ne.1 hg34
    refine sk4 ?_
    refine sk3 ?_
    refine sp2 hT ?_
    refine sk4 ?_
    refine sk ?_
    refine sp hT ?_
    refine nn ?_
    refine at_true rfl rfl ?_
    refine sr ?_
    refine sp2 hT ?_
    refine nn ?_
    refine at_ret ?_
    refine r_then ?_
    have hr := hR.symm.trans ((hinv5.done (by rw [List.length_map]; omega) (by rw [List.length_map]; omega)).trans (not_oneR (by omega)))
    subst hr
    exact at_res2 () rfl (rv_tmp rfl) (rv_tmp rfl) .nil trivial rfl
  have hg34 := bne_eq_false_iff_eq.1 hg34
  obtain ⟨p, rfl⟩ := oneG (l := st) (by omega)
  have hp1 := hbd p (by simp)
  refine sp hT ?_
  refine ss (sti_index hT (k := 0) (reads_row .head) rfl rfl rfl rfl rfl rfl rfl (by simp)) ?_
  refine sp hT ?_
  refine ss (sti_load1 hT (Reads.knows (reads_row .head) (k := 0) (x := p) rfl 2) rfl rfl rfl rfl rfl) ?_
  refine sp2 hT ?_
  refine at_int (z' := (((p.tokens + k) : Nat) : Int)) (wrapN (by omega) (by omega)) ?_
  refine sp3 hT ?_
  refine at_case (fun hg43 => ?_) (fun hg43 => ?_)
  · have hg43 := of_decide_eq_true hg43
    refine sk4 ?_
    refine sk ?_
    refine sp hT ?_
    refine nn ?_
    refine at_true rfl rfl ?_
    refine sr ?_
    refine sp2 hT ?_
    refine nn ?_
    refine at_ret ?_
    refine r_then ?_
    have hr := hR.symm.trans ((hinv5.done (by rw [List.length_map]; omega) (by rw [List.length_map]; omega)).trans (finR_bad (by omega)))
    subst hr
    exact at_res2 () rfl (rv_tmp rfl) (rv_tmp rfl) .nil trivial rfl
  have hg43 := Int.not_lt.1 (of_decide_eq_false hg43)
  refine sp hT ?_
  refine ss (sti_index hT (k := 0) (reads_row .head) rfl rfl rfl rfl rfl rfl rfl (by simp)) ?_
  refine sp hT ?_
  refine ss (sti_load1 hT (Reads.knows (reads_row .head) (k := 0) (x := p) rfl 3) rfl rfl rfl rfl rfl) ?_
  refine sp2 hT ?_
  refine nn ?_
  refine at_cond rfl (fun hc49 => ?_) (fun hc49 => ?_)
  · have hc49 := of_decide_eq_true hc49
    refine sr ?_
    refine sp2 hT ?_
    refine nn ?_
    refine at_ret ?_
    refine r_then ?_
    have hr := hR.symm.trans ((hinv5.done (by rw [List.length_map]; omega) (by rw [List.length_map]; omega)).trans (finR_bad (by omega)))
    subst hr
    exact at_res2 () rfl (rv_tmp rfl) (rv_tmp rfl) .nil trivial rfl
  have hc49 := Int.not_lt.1 (of_decide_eq_false hc49)
  refine at_skip ?_
  refine n_then ?_
  refine sr ?_
  refine sp hT ?_
  refine ss (sti_index hT (k := 0) (reads_row .head) rfl rfl rfl rfl rfl rfl rfl (by simp)) ?_
  refine sp hT ?_
  refine ss (sti_load1 hT (Reads.knows (reads_row .head) (k := 0) (x := p) rfl 0) rfl rfl rfl rfl rfl) ?_
  refine sp2 hT ?_
  refine nn ?_
  refine at_ret ?_
  have hr := hR.symm.trans ((hinv5.done (by rw [List.length_map]; omega) (by rw [List.length_map]; omega)).trans (finR_one (by omega)))
  subst hr
  exact at_res2 () rfl (rv_tmp rfl) (rv_tmp rfl) .nil trivial rfl

set_option maxRecDepth 100000 in
theorem rinput_spec (y : InputV) (hn : y.name.length ≤ 140737488355328) (hd : ∀ d ∈ y.sides.list, d.name.length ≤ 140737488355328 ∧ -9223372036854775808 ≤ d.n ∧ d.n ≤ 9223372036854775807) : Spec Tryz.prog 29 [.agg #[.string (bs y.name), .int .i64 y.at_, .slice y.sides.addr y.sides.list.length y.sides.cap]] [] [sidesFct y] (fun (_ : Unit) => .tuple #[.string (bs (inpT (inputS y.inp))), .bool (inputS y.inp).isSome]) (fun _ => []) (fun _ => []) := by
  have hT := refT_ok
  generalize hR : inputS y.inp = r
  refine spec_of Tryz.func29 rfl Tryz.ntmps29 rfl ?_
  intro β hM
  refine sr ?_
  refine at_box rfl rfl rfl rfl rfl rfl fun b1 => ?_
  refine sp2 hT ?_
  refine nn ?_
  refine at_seq ?_
  refine sr ?_
  refine sp hT ?_
  refine ss (ldO hT (knows_own (off := 0) .head)) ?_
  refine at_call (callFunc_enter Tryz.func31 rfl rfl) (rName_spec _) rfl rfl rfl rfl rfl .nil trivial fun _ => ?_
  refine sp2 hT ?_
  refine at_case (fun hg11 => ?_) (fun hg11 => ?_)
  · have hg11 := not_t hg11
    refine sk4 ?_
    refine sp hT ?_
    refine nn ?_
    refine at_true rfl rfl ?_
    refine sr ?_
    refine sp2 hT ?_
    refine nn ?_
    refine at_ret ?_
    refine r_then ?_
    have hr := hR.symm.trans (input_bad (by first | exact .inl (by assumption) | exact .inr (by omega)))
    subst hr
    exact at_res2 () rfl (rv_tmp rfl) (rv_tmp rfl) .nil trivial rfl
  have hg11 := not_f hg11
  refine sp hT ?_
  refine ss (ldO hT (knows_own (off := 2) .head)) ?_
  refine sp3 hT ?_
  refine nn ?_
  refine at_cond rfl (fun hc16 => ?_) (fun hc16 => ?_)
  · have hc16 := of_decide_eq_true hc16
    refine sr ?_
    refine sp2 hT ?_
    refine nn ?_
    refine at_ret ?_
    refine r_then ?_
    have hr := hR.symm.trans (input_bad (by first | exact .inl (by assumption) | exact .inr (by omega)))
    subst hr
    exact at_res2 () rfl (rv_tmp rfl) (rv_tmp rfl) .nil trivial rfl
  have hc16 := Int.not_lt.1 (of_decide_eq_false hc16)
  refine at_skip ?_
  refine n_then ?_
  refine sr ?_
  refine sp hT ?_
  refine ss (ldO hT (knows_own (off := 0) .head)) ?_
  refine ss (sti_cat rfl rfl rfl (by first | omega | (simp; omega))) ?_
  refine sp hT ?_
  refine nn ?_
  refine at_seq ?_
  refine sr ?_
  refine sp hT ?_
  refine nn ?_
  refine at_block ?_
  refine at_loop2 (ι := Nat × Bs) [(1, _)] ⟨rfl, trivial⟩ (fun ⟨j, text⟩ => [(4, .string (bs ([105, 110, 32] ++ text))), (5, .int .i64 (j : Nat))]) (fun _ => []) (fun ⟨j, text⟩ => [Fact.pure (j ≤ y.sides.list.length ∧ sidesS ((y.sides.list.map SideV.sd).drop j) text = r ∧ text.length ≤ 16 + 30 * j)]) (fun ⟨j, text⟩ => y.sides.list.length - j) (0, y.name) ⟨rfl, rfl, trivial⟩ .nil ⟨Has.pure (⟨by omega, hR ▸ (input_start (by assumption) (by omega)).symm, by have := nameB_len ‹nameB y.name = true›; omega⟩), trivial⟩ ?_
  rintro ⟨j, text⟩
  dsimp only
  refine at_know (Has.of mT0) fun hinv5 => ?_
  refine at_seq ?_
  refine sr ?_
  refine sp2 hT ?_
  refine ss (ldO hT (knows_own (off := 2) .head)) ?_
  refine sp2 hT ?_
  refine nn ?_
  refine at_cond rfl (fun hc24 => ?_) (fun hc24 => ?_)
  · have hc24 := of_decide_eq_true hc24
    refine at_skip ?_
    refine n_then ?_
    refine at_seq ?_
    refine at_block ?_
    refine sr ?_
    refine sp hT ?_
    refine ss (ldO hT (knows_own (off := 2) .head)) ?_
    refine sp hT ?_
    obtain ⟨x2, hx3⟩ : ∃ x', y.sides.list[j]? = some x' := ⟨_, List.getElem?_eq_getElem (by omega)⟩
    refine ss (sti_index hT (k := j) (reads_fact (Has.of mT1)) rfl rfl rfl rfl rfl rfl rfl (by omega)) ?_
    refine ss (sti_loadN hT (Reads.knows (reads_fact (Has.of mT1)) (k := j) (x := x2) hx3 0) rfl rfl rfl rfl rfl) ?_
    refine at_alloc rfl rfl rfl rfl qrexpr_zero_api_Side rfl fun b4 => ?_
    refine sto hT .head ?_
    refine nn ?_
    refine at_seq ?_
    have hdn := hd x2 (List.mem_of_getElem? hx3)
    refine at_region ?_
    refine sp hT ?_
    refine ss (ldO hT (knows_own (off := 0) .head)) ?_
    refine sp hT ?_
    refine nn ?_
    refine at_cond rfl (fun hc34 => ?_) (fun hc34 => ?_)
    · have hc34 : x2.name = ([] : Bs) := eq_of_beq hc34
      refine at_region ?_
      refine sp hT ?_
      refine ss (sti_cat rfl rfl rfl (by first | omega | (simp; omega))) ?_
      refine sp hT ?_
      refine ss (ldO hT (knows_own (off := 1) .head)) ?_
      have hsp := spell_len hdn.2.1 hdn.2.2
      refine at_call (callFunc_enter Tryz.func47 rfl rfl) (rnum5_spec _ hdn.2.1 hdn.2.2) rfl rfl rfl rfl rfl .nil trivial fun _ => ?_
      refine ss (sti_cat rfl rfl rfl (by first | omega | (simp; omega))) ?_
      refine at_val (v' := .string (bs ([105, 110, 32] ++ (text ++ ([32] ++ spellN x2.n))))) (congrArg (fun s : Bs => Value.string (bs s)) (by simp)) ?_
      refine sp hT ?_
      refine at_nil ?_
      refine n_block ?_
      refine n_then ?_
      refine at_region ?_
      refine sp2 hT ?_
      refine at_int (z' := (((j + 1) : Nat) : Int)) (wrapN (by omega) (by omega)) ?_
      refine sp hT ?_
      refine nn ?_
      exact at_back2 (j + 1, _) (by dsimp only; omega) ⟨rfl, rfl, trivial⟩ ⟨rfl, trivial⟩ (.cons kT1 .nil) ⟨Has.pure (⟨by dsimp only; omega, hinv5.2.1 ▸ (side_num hx3 (by assumption)).symm, by simp; omega⟩), trivial⟩ (HasAll.drop 1)
    have hc34 : x2.name ≠ ([] : Bs) := fun h => absurd (beq_iff_eq.2 h) (by rw [show (x2.name == ([] : Bs)) = false from hc34]; simp)
    refine sr ?_
    refine sp hT ?_
    refine ss (ldO hT (knows_own (off := 1) .head)) ?_
    refine sp2 hT ?_
    refine at_case (fun hg44 => ?_) (fun hg44 => ?_)
    · have hg44 := eq_of_beq hg44
      refine sp hT ?_
      refine ss (ldO hT (knows_own (off := 0) .head)) ?_
      refine at_call (callFunc_enter Tryz.func31 rfl rfl) (rName_spec _) rfl rfl rfl rfl rfl .nil trivial fun _ => ?_
      refine sp hT ?_
      refine nn ?_
      refine at_cond rfl (fun hc48 => ?_) (fun hc48 => ?_)
      · refine at_region ?_
        refine sp hT ?_
        refine ss (sti_cat rfl rfl rfl (by first | omega | (simp; omega))) ?_
        refine sp hT ?_
        refine ss (ldO hT (knows_own (off := 0) .head)) ?_
        refine ss (sti_cat rfl rfl rfl (by first | omega | (simp; omega))) ?_
        refine at_val (v' := .string (bs ([105, 110, 32] ++ (text ++ ([32] ++ x2.name))))) (congrArg (fun s : Bs => Value.string (bs s)) (by simp)) ?_
        refine sp hT ?_
        refine at_nil ?_
        refine n_block ?_
        refine n_then ?_
        refine at_region ?_
        refine sp2 hT ?_
        refine at_int (z' := (((j + 1) : Nat) : Int)) (wrapN (by omega) (by omega)) ?_
        refine sp hT ?_
        refine nn ?_
        exact at_back2 (j + 1, _) (by dsimp only; omega) ⟨rfl, rfl, trivial⟩ ⟨rfl, trivial⟩ (.cons kT1 .nil) ⟨Has.pure (⟨by dsimp only; omega, hinv5.2.1 ▸ (side_name hx3 (by assumption) (by assumption) (by assumption)).symm, by have := nameB_len ‹nameB x2.name = true›; simp; omega⟩), trivial⟩ (HasAll.drop 1)
      refine sr ?_
      refine sp2 hT ?_
      refine nn ?_
      refine at_ret ?_
      refine r_block ?_
      refine r_then ?_
      refine r_then ?_
      refine r_block ?_
      refine r_then ?_
      have hr := hinv5.2.1.symm.trans (side_bad hx3 (by assumption) (by first | exact .inl (by assumption) | exact .inr (by assumption)))
      subst hr
      exact at_res2 () rfl (rv_tmp rfl) (rv_tmp rfl) .nil trivial rfl
    have hg44 := beq_eq_false_iff_ne.1 hg44
    refine sk3 ?_
    refine sp hT ?_
    refine nn ?_
    refine at_false rfl rfl ?_
    refine sr ?_
    refine sp2 hT ?_
    refine nn ?_
    refine at_ret ?_
    refine r_block ?_
    refine r_then ?_
    refine r_then ?_
    refine r_block ?_
    refine r_then ?_
    have hr := hinv5.2.1.symm.trans (side_bad hx3 (by assumption) (by first | exact .inl (by assumption) | exact .inr (by assumption)))
    subst hr
    exact at_res2 () rfl (rv_tmp rfl) (rv_tmp rfl) .nil trivial rfl
  have hc24 := Int.not_lt.1 (of_decide_eq_false hc24)
  refine at_exit ?_
  refine x_then ?_
  refine x_then ?_
  refine x_block ?_
  refine n_then ?_
  refine sr ?_
  refine sp3 hT ?_
  refine nn ?_
  refine at_ret ?_
  have hr := hinv5.2.1.symm.trans (sides_done (by omega))
  subst hr
  exact at_res2 () rfl (rv_tmp rfl) (rv_tmp rfl) .nil trivial rfl

set_option maxRecDepth 100000 in
theorem rText_spec (P : ProgV) (hP : ProgOk P) (hl1 : P.inputs.list.length ≤ 140737488355328) (hl2 : P.lines.list.length ≤ 140737488355328) : Spec Tryz.prog 20 [.agg #[.slice P.inputs.addr P.inputs.list.length P.inputs.cap, .slice P.lines.addr P.lines.list.length P.lines.cap]] [] [inputE.sl (.slice P.inputs.addr P.inputs.list.length P.inputs.cap) P.inputs.list, inputsF P.inputs.list, lineE.sl (.slice P.lines.addr P.lines.list.length P.lines.cap) P.lines.list, linesF P.lines.list] (fun (x : Bs) => .tuple #[.string (bs x), .bool (programS P.pr).2]) (fun _ => []) (fun (x : Bs) => [Fact.pure ((programS P.pr).2 = true → x = (programS P.pr).1)]) := by
  have hT := refT_ok
  have hpl : P.pr.lines.length = P.lines.list.length := List.length_map _
  have hpi : P.pr.inputs.length = P.inputs.list.length := List.length_map _
  refine spec_of Tryz.func20 rfl Tryz.ntmps20 rfl ?_
  intro β hM
  refine sr ?_
  refine at_box rfl rfl rfl rfl rfl rfl fun b1 => ?_
  refine sp2 hT ?_
  refine nn ?_
  refine at_seq ?_
  refine sr ?_
  refine sp hT ?_
  refine ss (ldO hT (knows_own (off := 0) .head)) ?_
  refine sp3 hT ?_
  refine at_case (fun hg18 => ?_) (fun hg18 => ?_)
  · have hg18 := of_decide_eq_true hg18
    refine sk4 ?_
    refine sp2 hT ?_
    refine sk4 ?_
    refine sk4 ?_
    refine sp2 hT ?_
    refine sk4 ?_
    refine sp hT ?_
    refine nn ?_
    refine at_true rfl rfl ?_
    refine sr ?_
    refine sp2 hT ?_
    refine nn ?_
    refine at_ret ?_
    refine r_then ?_
    have hr := prog_small (p := P.pr) (by first | exact .inl (List.map_eq_nil_iff.2 (List.eq_nil_of_length_eq_zero (by omega))) | exact .inr (by omega))
    exact at_res2 ([] : Bs) rfl (rv_tmp rfl) (rv_tmp rfl) .nil ⟨Has.pure (fun h => by rw [hr] at h; cases h), trivial⟩ (by rw [hr]; rfl)
  have hg18 := Int.not_lt.1 (of_decide_eq_false hg18)
  refine sp hT ?_
  refine ss (ldO hT (knows_own (off := 1) .head)) ?_
  refine sp4 hT ?_
  refine at_case (fun hg24 => ?_) (fun hg24 => ?_)
  · have hg24 := of_decide_eq_true hg24
    refine sk4 ?_
    refine sk4 ?_
    refine sp2 hT ?_
    refine sk4 ?_
    refine sp hT ?_
    refine nn ?_
    refine at_true rfl rfl ?_
    refine sr ?_
    refine sp2 hT ?_
    refine nn ?_
    refine at_ret ?_
    refine r_then ?_
    have hr := prog_small (p := P.pr) (by first | exact .inl (List.map_eq_nil_iff.2 (List.eq_nil_of_length_eq_zero (by omega))) | exact .inr (by omega))
    exact at_res2 ([] : Bs) rfl (rv_tmp rfl) (rv_tmp rfl) .nil ⟨Has.pure (fun h => by rw [hr] at h; cases h), trivial⟩ (by rw [hr]; rfl)
  have hg24 := Int.not_lt.1 (of_decide_eq_false hg24)
  refine sp hT ?_
  refine ss (ldO hT (knows_own (off := 0) .head)) ?_
  refine sp2 hT ?_
  refine ss (ldO hT (knows_own (off := 1) .head)) ?_
  refine sp2 hT ?_
  refine at_int (z' := (((P.inputs.list.length + P.lines.list.length) : Nat) : Int)) (wrapN (by omega) (by omega)) ?_
  refine sp3 hT ?_
  refine at_case (fun hg34 => ?_) (fun hg34 => ?_)
  · have hg34 := of_decide_eq_true hg34
    refine sk4 ?_
    refine sp hT ?_
    refine nn ?_
    refine at_true rfl rfl ?_
    refine sr ?_
    refine sp2 hT ?_
    refine nn ?_
    refine at_ret ?_
    refine r_then ?_
    have hr := prog_small (p := P.pr) (by first | exact .inl (List.map_eq_nil_iff.2 (List.eq_nil_of_length_eq_zero (by omega))) | exact .inr (by omega))
    exact at_res2 ([] : Bs) rfl (rv_tmp rfl) (rv_tmp rfl) .nil ⟨Has.pure (fun h => by rw [hr] at h; cases h), trivial⟩ (by rw [hr]; rfl)
  have hg34 := Int.not_lt.1 (of_decide_eq_false hg34)
  refine sp hT ?_
  refine ss (ldO hT (knows_own (off := 1) .head)) ?_
  refine sp3 hT ?_
  refine nn ?_
  refine at_cond rfl (fun hc39 => ?_) (fun hc39 => ?_)
  · have hc39 := eq_of_beq hc39
    refine sr ?_
    refine sp2 hT ?_
    refine nn ?_
    refine at_ret ?_
    refine r_then ?_
    have hr := prog_small (p := P.pr) (by first | exact .inl (List.map_eq_nil_iff.2 (List.eq_nil_of_length_eq_zero (by omega))) | exact .inr (by omega))
    exact at_res2 ([] : Bs) rfl (rv_tmp rfl) (rv_tmp rfl) .nil ⟨Has.pure (fun h => by rw [hr] at h; cases h), trivial⟩ (by rw [hr]; rfl)
  have hc39 := beq_eq_false_iff_ne.1 hc39
  refine at_skip ?_
  refine n_then ?_
  refine sr ?_
  refine sp hT ?_
  refine nn ?_
  refine at_seq ?_
  refine sr ?_
  refine sp hT ?_
  refine nn ?_
  refine at_block ?_
  refine at_loop2 (ι := Nat × Bs) [(1, _)] ⟨rfl, trivial⟩ (fun ⟨i, out⟩ => [(4, .string (bs out)), (5, .int .i64 (i : Nat))]) (fun _ => []) (fun ⟨i, out⟩ => [Fact.pure (i ≤ P.inputs.list.length ∧ programS P.pr = progFrom P.pr i out ∧ out.length ≤ 1000 * i)]) (fun ⟨i, out⟩ => P.inputs.list.length - i) (0, []) ⟨rfl, rfl, trivial⟩ .nil ⟨Has.pure (⟨by omega, prog_start (by rintro (h | h); (have h := congrArg List.length h; rw [hpl, List.length_nil] at h; omega); omega), by simp⟩), trivial⟩ ?_
  rintro ⟨i, out⟩
  dsimp only
  refine at_know (Has.of mT0) fun hinv5 => ?_
  refine at_seq ?_
  refine sr ?_
  refine sp2 hT ?_
  refine ss (ldO hT (knows_own (off := 0) .head)) ?_
  refine sp2 hT ?_
  refine nn ?_
  refine at_cond rfl (fun hc44 => ?_) (fun hc44 => ?_)
  · have hc44 := of_decide_eq_true hc44
    refine at_skip ?_
    refine n_then ?_
    refine at_seq ?_
    refine at_block ?_
    refine sr ?_
    refine sp hT ?_
    refine ss (ldO hT (knows_own (off := 0) .head)) ?_
    refine sp hT ?_
    obtain ⟨x2, hx3⟩ : ∃ x', P.inputs.list[i]? = some x' := ⟨_, List.getElem?_eq_getElem (by omega)⟩
    refine ss (sti_index hT (k := i) (reads_fact (Has.of mT1)) rfl rfl rfl rfl rfl rfl rfl (by omega)) ?_
    refine ss (sti_loadN hT (Reads.knows (reads_fact (Has.of mT1)) (k := i) (x := x2) hx3 0) rfl rfl rfl rfl rfl) ?_
    have hxi := hP.input x2 (List.mem_of_getElem? hx3)
    have hx0 : P.pr.inputs[i]? = some x2.inp := map_at hx3
    refine at_fact (sidesFct x2) (Has.each (Has.of mT2) (List.mem_of_getElem? hx3)) ?_
    refine at_call (callFunc_enter Tryz.func29 rfl rfl) (rinput_spec x2 hxi.1 hxi.2) rfl rfl rfl rfl rfl .nil ⟨(Has.of mT0), trivial⟩ fun _ => ?_
    have hil := inp_len hxi.2
    refine sp4 hT ?_
    refine sp hT ?_
    refine nn ?_
    refine at_seq ?_
    refine sr ?_
    refine sp2 hT ?_
    refine nn ?_
    refine at_cond rfl (fun hc57 => ?_) (fun hc57 => ?_)
    · have hc57 := not_t hc57
      refine sr ?_
      refine sp2 hT ?_
      refine nn ?_
      refine at_ret ?_
      refine r_then ?_
      refine r_block ?_
      refine r_then ?_
      refine r_then ?_
      refine r_block ?_
      refine r_then ?_
      have hr := hinv5.2.1.trans (prog_fail hx0 (opt_none (by assumption)))
      exact at_res2 ([] : Bs) rfl (rv_tmp rfl) (rv_tmp rfl) .nil ⟨Has.pure (fun h => by rw [hr] at h; cases h), trivial⟩ (by rw [hr]; rfl)
    have hc57 := not_f hc57
    refine at_skip ?_
    refine n_then ?_
    obtain ⟨t, hin⟩ : ∃ t, inputS x2.inp = some t := Option.isSome_iff_exists.1 (by assumption)
    have hie : inpT (inputS x2.inp) = [105, 110, 32] ++ t := by rw [hin]; rfl
    have hil2 := congrArg List.length hie
    rw [List.length_append, show List.length ([105, 110, 32] : Bs) = 3 from rfl] at hil2
    refine at_region ?_
    refine sp2 hT ?_
    refine ss (sti_cat rfl rfl rfl (by first | omega | (simp; omega))) ?_
    refine ss (sti_cat rfl rfl rfl (by first | omega | (simp; omega))) ?_
    refine at_val (v' := .string (bs (out ++ (([105, 110, 32] ++ t) ++ [10])))) (congrArg (fun s : Bs => Value.string (bs s)) (by rw [hie]; simp)) ?_
    refine sp hT ?_
    refine at_nil ?_
    refine n_block ?_
    refine n_then ?_
    refine at_region ?_
    refine sp2 hT ?_
    refine at_int (z' := (((i + 1) : Nat) : Int)) (wrapN (by omega) (by omega)) ?_
    refine sp hT ?_
    refine nn ?_
    exact at_back2 (i + 1, _) (by dsimp only; omega) ⟨rfl, rfl, trivial⟩ ⟨rfl, trivial⟩ (.cons .head .nil) ⟨Has.pure (⟨by dsimp only; omega, hinv5.2.1.trans (prog_step hx0 hin), by simp; omega⟩), trivial⟩ (HasAll.drop 2)
  have hc44 := Int.not_lt.1 (of_decide_eq_false hc44)
  refine at_exit ?_
  refine x_then ?_
  refine x_then ?_
  refine x_block ?_
  refine n_then ?_
  refine at_seq ?_
  refine sr ?_
  refine sp hT ?_
  refine nn ?_
  refine at_block ?_
  refine at_loop2 (ι := Nat × Bs) [(1, _)] ⟨rfl, trivial⟩ (fun ⟨i, out⟩ => [(4, .string (bs out)), (8, .int .i64 (i : Nat))]) (fun _ => []) (fun ⟨i, out⟩ => [Fact.pure (i < P.lines.list.length ∧ programS P.pr = linesS (P.pr.lines.drop i) out ∧ out.length ≤ 1000 * 64 + 20000 * i)]) (fun ⟨i, out⟩ => P.lines.list.length - i) (0, out) ⟨rfl, rfl, trivial⟩ .nil ⟨Has.pure (⟨by omega, hinv5.2.1.trans (prog_lines (by omega)), by omega⟩), trivial⟩ ?_
  rintro ⟨i, out⟩
  dsimp only
  refine at_know (Has.of mT0) fun hinv12 => ?_
  refine at_seq ?_
  refine sr ?_
  refine sp2 hT ?_
  refine ss (ldO hT (knows_own (off := 1) .head)) ?_
  refine sp2 hT ?_
  refine nn ?_
  refine at_cond rfl (fun hc66 => ?_) (fun hc66 => ?_)
  · have hc66 := of_decide_eq_true hc66
    refine at_skip ?_
    refine n_then ?_
    refine at_seq ?_
    refine at_block ?_
    refine sr ?_
    refine sp hT ?_
    refine ss (ldO hT (knows_own (off := 1) .head)) ?_
    refine sp hT ?_
    obtain ⟨x4, hx5⟩ : ∃ x', P.lines.list[i]? = some x' := ⟨_, List.getElem?_eq_getElem (by omega)⟩
    refine ss (sti_index hT (k := i) (reads_fact (Has.of mT4)) rfl rfl rfl rfl rfl rfl rfl (by omega)) ?_
    refine ss (sti_loadN hT (Reads.knows (reads_fact (Has.of mT4)) (k := i) (x := x4) hx5 0) rfl rfl rfl rfl rfl) ?_
    refine at_alloc rfl rfl rfl rfl qrexpr_zero_api_Line rfl fun b6 => ?_
    refine sto hT .head ?_
    refine nn ?_
    refine at_seq ?_
    refine at_seq ?_
    have hli := hP.line x4 (List.mem_of_getElem? hx5)
    have hx0 : P.pr.lines[i]? = some x4.ln := map_at hx5
    refine at_fact (itemsFct x4) (Has.each (Has.of mT5) (List.mem_of_getElem? hx5)) ?_
    refine at_fact (itemE.sl (.slice x4.items.addr x4.items.list.length x4.items.cap) x4.items.list) (Has.left (Has.of mT0)) ?_
    refine at_fact (numsF x4.items.list) (Has.right (Has.of mT1)) ?_
    have hz : ∀ y ∈ (x4.items.list.map ItemV.it), ∀ z ∈ y.nums, -9223372036854775808 ≤ z ∧ z ≤ 9223372036854775807 := fun y hy z hzz => by obtain ⟨it, h1, rfl⟩ := List.mem_map.1 hy; exact (hli.2 it h1).2 z hzz
    refine at_region ?_
    refine sp2 hT ?_
    refine ss (ldO hT (knows_own (off := 1) kT1)) ?_
    refine sp2 hT ?_
    refine at_int (z' := (((P.lines.list.length : Nat) : Int) - 1)) (wrapZ (by omega) (by omega)) ?_
    refine sp hT ?_
    refine nn ?_
    refine at_cond rfl (fun hc79 => ?_) (fun hc79 => ?_)
    · have hc79 := eq_of_beq hc79
      refine sr ?_
      refine sp hT ?_
      refine ss (ldO hT (knows_own (off := 2) .head)) ?_
      refine at_call (callFunc_enter Tryz.func30 rfl rfl) (rexpr_spec _ _ x4.items.list 1 (by omega) hli.2) rfl rfl rfl rfl rfl .nil ⟨(Has.of mT1), (Has.of mT0), trivial⟩ fun _ => ?_
      have hexl := exprS_lenD (l := (x4.items.list.map ItemV.it)) (most := 255) hz
      refine sp4 hT ?_
      refine sp hT ?_
      refine nn ?_
      refine at_seq ?_
      refine at_mix _ _ [(true, 0), (true, 1), (true, 2), (true, 3), (true, 4), (true, 5), (true, 6), (true, 7), (true, 8), (true, 9), (true, 10), (true, 11), (true, 12)] mixes (by decide +kernel) (.cons .head (.cons .head .nil)) HasAll.self ?_
      refine atm_sti rfl rfl rfl rfl (sti_pure hT rfl) ?_
      refine atm_sti rfl rfl rfl rfl (sti_cat rfl rfl rfl (by first | omega | (simp; omega))) ?_
      refine atm_sti rfl rfl rfl rfl (sti_pure hT rfl) ?_
      refine atm_sti rfl rfl rfl rfl (sti_cat rfl rfl rfl (by first | omega | (simp; omega))) ?_
      refine atm_sti rfl rfl rfl rfl (sti_cat rfl rfl rfl (by first | omega | (simp; omega))) ?_
      refine atm_sti rfl rfl rfl rfl (sti_pure hT rfl) ?_
      refine atm_sti rfl rfl rfl rfl (sti_pure hT rfl) ?_
      refine at_case (fun hg92 => ?_) (fun hg92 => ?_)
      · have hex := some_getD (by assumption : (exprS (x4.items.list.map ItemV.it) 255).isSome = true)
        refine atm_sti rfl rfl rfl rfl (sti_pure hT rfl) ?_
        refine atm_sti rfl rfl rfl rfl (ldO hT (knows_own (off := 0) .head)) ?_
        refine atm_sti rfl rfl rfl rfl (sti_pure hT rfl) ?_
        refine at_case (fun hg95 => ?_) (fun hg95 => ?_)
        · have hg95 : x4.name = ([] : Bs) := eq_of_beq hg95
          refine atm_sti rfl rfl rfl rfl (sti_pure hT rfl) ?_
          refine atm_sti rfl rfl rfl rfl (sti_pure hT rfl) ?_
          refine atm_sti rfl rfl rfl rfl (sti_pure hT rfl) ?_
          refine atm_nil ?_
          refine n_then ?_
          refine at_ret ?_
          refine r_then ?_
          refine r_block ?_
          refine r_then ?_
          refine r_then ?_
          refine r_block ?_
          refine r_then ?_
          have hr := (hinv12.2.1.trans (lines_out hx0 (by omega) (by assumption) hex)).trans (lines_end (by omega))
          exact at_res2 ((((out ++ ([111, 117, 116, 32] : Bs)) ++ ((exprS (x4.items.list.map ItemV.it) 255).getD [])) ++ ([10] : Bs)) : Bs) rfl (rv_tmp rfl) (rv_tmp rfl) .nil ⟨Has.pure (fun _ => by rw [hr]; simp), trivial⟩ (by rw [hr]; first | done | rfl)
        have hg95 : x4.name ≠ ([] : Bs) := fun h => absurd (beq_iff_eq.2 h) (by rw [show (x4.name == ([] : Bs)) = false from hg95]; simp)
        refine atm_sti rfl rfl rfl rfl (sti_pure hT rfl) ?_
        refine atm_sti rfl rfl rfl rfl (sti_pure hT rfl) ?_
        refine atm_sti rfl rfl rfl rfl (sti_pure hT rfl) ?_
        refine atm_nil ?_
        refine n_then ?_
        refine at_ret ?_
        refine r_then ?_
        refine r_block ?_
        refine r_then ?_
        refine r_then ?_
        refine r_block ?_
        refine r_then ?_
        have hr := hinv12.2.1.trans (lines_named hx0 (by omega) (by assumption) hex)
        exact at_res2 ((((out ++ ([111, 117, 116, 32] : Bs)) ++ ((exprS (x4.items.list.map ItemV.it) 255).getD [])) ++ ([10] : Bs)) : Bs) rfl (rv_tmp rfl) (rv_tmp rfl) .nil ⟨Has.pure (fun h => by rw [hr] at h; cases h), trivial⟩ (by rw [hr]; first | done | rfl)
      refine atm_skipped rfl rfl rfl rfl ?_
      refine atm_skipped rfl rfl rfl rfl ?_
      refine atm_skipped rfl rfl rfl rfl ?_
      refine atm_sti rfl rfl rfl rfl (sti_pure hT rfl) ?_
      refine atm_sti rfl rfl rfl rfl (sti_pure hT rfl) ?_
      refine atm_sti rfl rfl rfl rfl (sti_pure hT rfl) ?_
      refine atm_nil ?_
      refine n_then ?_
      refine at_ret ?_
      refine r_then ?_
      refine r_block ?_
      refine r_then ?_
      refine r_then ?_
      refine r_block ?_
      refine r_then ?_
      have hr := hinv12.2.1.trans (lines_expr hx0 (by rw [if_pos (by omega)]; exact opt_none (by assumption)))
      exact at_res2 ((((out ++ ([111, 117, 116, 32] : Bs)) ++ ((exprS (x4.items.list.map ItemV.it) 255).getD [])) ++ ([10] : Bs)) : Bs) rfl (rv_tmp rfl) (rv_tmp rfl) .nil ⟨Has.pure (fun h => by rw [hr] at h; cases h), trivial⟩ (by rw [hr]; first | done | rfl)
    have hc79 := beq_eq_false_iff_ne.1 hc79
    refine at_skip ?_
    refine n_then ?_
    refine sr ?_
    refine sp hT ?_
    refine ss (ldO hT (knows_own (off := 2) .head)) ?_
    refine at_call (callFunc_enter Tryz.func30 rfl rfl) (rexpr_spec _ _ x4.items.list 2 (by omega) hli.2) rfl rfl rfl rfl rfl .nil ⟨(Has.of mT1), (Has.of mT0), trivial⟩ fun _ => ?_
    have hexl := exprS_lenD (l := (x4.items.list.map ItemV.it)) (most := 254) hz
    refine sp4 hT ?_
    refine sp hT ?_
    refine nn ?_
    refine at_seq ?_
    refine sr ?_
    refine sp3 hT ?_
    refine at_case (fun hg105 => ?_) (fun hg105 => ?_)
    · have hg105 := not_t hg105
      refine sk4 ?_
      refine sp hT ?_
      refine nn ?_
      refine at_true rfl rfl ?_
      refine sr ?_
      refine sp2 hT ?_
      refine nn ?_
      refine at_ret ?_
      refine r_then ?_
      refine r_block ?_
      refine r_then ?_
      refine r_then ?_
      refine r_block ?_
      refine r_then ?_
      have hr := hinv12.2.1.trans (by first | exact lines_expr hx0 (by rw [if_neg (by omega)]; exact opt_none (by assumption)) | exact lines_nameless hx0 (by omega) (by assumption) hex)
      exact at_res2 ([] : Bs) rfl (rv_tmp rfl) (rv_tmp rfl) .nil ⟨Has.pure (fun h => by rw [hr] at h; cases h), trivial⟩ (by rw [hr]; rfl)
    have hg105 := not_f hg105
    have hex := some_getD (by assumption : (exprS (x4.items.list.map ItemV.it) 254).isSome = true)
    refine sp hT ?_
    refine ss (ldO hT (knows_own (off := 0) .head)) ?_
    refine at_call (callFunc_enter Tryz.func31 rfl rfl) (rName_spec _) rfl rfl rfl rfl rfl .nil trivial fun _ => ?_
    refine sp2 hT ?_
    refine nn ?_
    refine at_cond rfl (fun hc110 => ?_) (fun hc110 => ?_)
    · have hc110 := not_t hc110
      refine sr ?_
      refine sp2 hT ?_
      refine nn ?_
      refine at_ret ?_
      refine r_then ?_
      refine r_block ?_
      refine r_then ?_
      refine r_then ?_
      refine r_block ?_
      refine r_then ?_
      have hr := hinv12.2.1.trans (by first | exact lines_expr hx0 (by rw [if_neg (by omega)]; exact opt_none (by assumption)) | exact lines_nameless hx0 (by omega) (by assumption) hex)
      exact at_res2 ([] : Bs) rfl (rv_tmp rfl) (rv_tmp rfl) .nil ⟨Has.pure (fun h => by rw [hr] at h; cases h), trivial⟩ (by rw [hr]; rfl)
    have hc110 := not_f hc110
    refine at_skip ?_
    refine n_then ?_
    have hnl := nameB_len (by assumption : nameB x4.name = true)
    refine at_region ?_
    refine sp2 hT ?_
    refine ss (ldO hT (knows_own (off := 0) .head)) ?_
    refine ss (sti_cat rfl rfl rfl (by first | omega | (simp; omega))) ?_
    refine ss (sti_cat rfl rfl rfl (by first | omega | (simp; omega))) ?_
    refine sp hT ?_
    refine ss (sti_cat rfl rfl rfl (by first | omega | (simp; omega))) ?_
    refine ss (sti_cat rfl rfl rfl (by first | omega | (simp; omega))) ?_
    refine at_val (v' := .string (bs (out ++ (((x4.name ++ [58, 32]) ++ (exprS (x4.items.list.map ItemV.it) 254).getD []) ++ [10])))) (congrArg (fun s : Bs => Value.string (bs s)) (by simp)) ?_
    refine sp hT ?_
    refine at_nil ?_
    refine n_block ?_
    refine n_then ?_
    refine at_region ?_
    refine sp2 hT ?_
    refine at_int (z' := (((i + 1) : Nat) : Int)) (wrapN (by omega) (by omega)) ?_
    refine sp hT ?_
    refine nn ?_
    exact at_back2 (i + 1, _) (by dsimp only; omega) ⟨rfl, rfl, trivial⟩ ⟨rfl, trivial⟩ (.cons kT1 .nil) ⟨Has.pure (⟨by dsimp only; omega, hinv12.2.1.trans (lines_step hx0 (by omega) (by assumption) hex), by simp; omega⟩), trivial⟩ (HasAll.drop 4)
  have hc66 := Int.not_lt.1 (of_decide_eq_false hc66)
  refine at_exit ?_
  refine x_then ?_
  refine x_then ?_
  refine x_block ?_
  refine n_then ?_
  refine sr ?_
  refine sp2 hT ?_
  refine nn ?_
  refine at_ret ?_
  omega

set_option maxRecDepth 100000 in
theorem rRight_spec (P : ProgV) (hP : ProgOk P) (hl1 : P.inputs.list.length ≤ 140737488355328) (hl2 : P.lines.list.length ≤ 140737488355328) : Spec Tryz.prog 12 [.agg #[.slice P.inputs.addr P.inputs.list.length P.inputs.cap, .slice P.lines.addr P.lines.list.length P.lines.cap]] [] [inputE.sl (.slice P.inputs.addr P.inputs.list.length P.inputs.cap) P.inputs.list, inputsF P.inputs.list, lineE.sl (.slice P.lines.addr P.lines.list.length P.lines.cap) P.lines.list, linesF P.lines.list] (fun (_ : Unit) => .bool (programS P.pr).2) (fun _ => []) (fun _ => []) := by
  have hT := refT_ok
  refine spec_of Tryz.func12 rfl Tryz.ntmps12 rfl ?_
  intro β hM
  refine sr ?_
  refine at_box rfl rfl rfl rfl rfl rfl fun b1 => ?_
  refine sp hT ?_
  refine nn ?_
  refine sr ?_
  refine ss (ldN hT (knows_own (off := 0) .head)) ?_
  refine at_call (callFunc_enter Tryz.func20 rfl rfl) (rText_spec P hP hl1 hl2) rfl rfl rfl rfl rfl .nil ⟨(Has.of mT0), (Has.of mT1), (Has.of mT2), (Has.of mT3), trivial⟩ fun x2 => ?_
  refine at_know (Has.of mT0) fun hxp => ?_
  refine sp4 hT ?_
  refine sp hT ?_
  refine nn ?_
  refine sr ?_
  refine sp2 hT ?_
  refine nn ?_
  refine at_ret ?_
  exact at_res1 () rfl (rv_tmp rfl) .nil trivial (rfl)

set_option maxRecDepth 100000 in
theorem rShow_spec (P : ProgV) (hP : ProgOk P) (hl1 : P.inputs.list.length ≤ 140737488355328) (hl2 : P.lines.list.length ≤ 140737488355328) : Spec Tryz.prog 14 [.agg #[.slice P.inputs.addr P.inputs.list.length P.inputs.cap, .slice P.lines.addr P.lines.list.length P.lines.cap]] [] [inputE.sl (.slice P.inputs.addr P.inputs.list.length P.inputs.cap) P.inputs.list, inputsF P.inputs.list, lineE.sl (.slice P.lines.addr P.lines.list.length P.lines.cap) P.lines.list, linesF P.lines.list] (fun (_ : Unit) => .tuple #[.string (bs (showP P.pr).1), .int .i64 (showP P.pr).2]) (fun _ => []) (fun _ => []) := by
  have hT := refT_ok
  refine spec_of Tryz.func14 rfl Tryz.ntmps14 rfl ?_
  intro β hM
  refine sr ?_
  refine at_box rfl rfl rfl rfl rfl rfl fun b1 => ?_
  refine sp2 hT ?_
  refine nn ?_
  refine sr ?_
  refine ss (ldN hT (knows_own (off := 0) .head)) ?_
  refine at_call (callFunc_enter Tryz.func20 rfl rfl) (rText_spec P hP hl1 hl2) rfl rfl rfl rfl rfl .nil ⟨(Has.of mT0), (Has.of mT1), (Has.of mT2), (Has.of mT3), trivial⟩ fun x2 => ?_
  refine at_know (Has.of mT0) fun hxp => ?_
  refine sp4 hT ?_
  refine sp hT ?_
  refine nn ?_
  refine at_seq ?_
  refine sr ?_
  refine sp2 hT ?_
  refine nn ?_
  refine at_cond rfl (fun hc12 => ?_) (fun hc12 => ?_)
  · have hc12 := not_t hc12
    refine sr ?_
    refine sp2 hT ?_
    refine nn ?_
    refine at_ret ?_
    refine r_then ?_
    exact at_res2 () rfl (rv_tmp rfl) (rv_tmp rfl) .nil trivial (by first | (rw [show_a (by assumption)]; rfl) | (rw [show_b (by assumption) (by rw [← hxe]; omega)]; rfl) | (rw [show_c (by assumption) (by rw [← hxe]; omega), hxe]))
  have hc12 := not_f hc12
  refine at_skip ?_
  refine n_then ?_
  refine at_seq ?_
  refine at_seq ?_
  have hxe := hxp (by assumption)
  refine at_region ?_
  refine sp2 hT ?_
  refine at_int (z' := ((x2.length : Nat) : Int)) rfl ?_
  refine sp hT ?_
  refine nn ?_
  refine at_cond rfl (fun hc15 => ?_) (fun hc15 => ?_)
  · have hc15 := of_decide_eq_true hc15
    refine sr ?_
    refine sp2 hT ?_
    refine nn ?_
    refine at_ret ?_
    refine r_then ?_
    exact at_res2 () rfl (rv_tmp rfl) (rv_tmp rfl) .nil trivial (by first | (rw [show_a (by assumption)]; rfl) | (rw [show_b (by assumption) (by rw [← hxe]; omega)]; rfl) | (rw [show_c (by assumption) (by rw [← hxe]; omega), hxe]))
  have hc15 := Int.not_lt.1 (of_decide_eq_false hc15)
  refine at_skip ?_
  refine n_then ?_
  refine sr ?_
  refine sp3 hT ?_
  refine nn ?_
  refine at_ret ?_
  exact at_res2 () rfl (rv_tmp rfl) (rv_tmp rfl) .nil trivial (by first | (rw [show_a (by assumption)]; rfl) | (rw [show_b (by assumption) (by rw [← hxe]; omega)]; rfl) | (rw [show_c (by assumption) (by rw [← hxe]; omega), hxe]))

end Go.Proofs.YtngkedmndhmjcaaGreatDoor
