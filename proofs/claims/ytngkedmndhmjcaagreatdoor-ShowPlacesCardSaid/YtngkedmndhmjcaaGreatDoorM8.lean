/- Texts of one proof, one behind the other: DocS, Laid, Shown5, LawG, BackL, BackP, BackE, BackC, BackD. -/
import Derived.Test.YtngkedmndhmjcaaGreatDoorM7
import Derived.Test.YtngkedmndhmjcaaGreatDoorRows
import Derived.Test.YtngkedmndhmjcaaGreatDoorM2
import Derived.Deep.DeepWitnessRowRef
import Derived.Lib.LaidU8
import Derived.LaidLaws
import Derived.Lib.LaidIn
import Derived.Shelf.Vars
import Derived.Test.YtngkedmndhmjcaaGreatDoorM6
import Derived.Test.YtngkedmndhmjcaaGreatDoorM1
import Derived.ProofKit
import Derived.OpenShut
import Derived.Carry
import Derived.SizedLaws
import Derived.Test.YtngkedmndhmjcaaGreatDoorM5
/- Walks of show.shower.program, strings.Builder.String, show.write, show.Right, show.Show. (Printed by wip/gen/show3.py.) -/
namespace Go.Proofs.YtngkedmndhmjcaaGreatDoor
open Go.RowKit

theorem nameB_nil : nameB [] = false := by decide +kernel
/-- texts and numbers as Go has them -/
structure ProgOk (p : ProgV) : Prop where
  input : ∀ x ∈ p.inputs.list, x.name.length ≤ 140737488355328 ∧ ∀ d ∈ x.sides.list, d.name.length ≤ 140737488355328 ∧ -9223372036854775808 ≤ d.n ∧ d.n ≤ 9223372036854775807
  line : ∀ x ∈ p.lines.list, x.name.length ≤ 140737488355328 ∧ ∀ it ∈ x.items.list, it.name.length ≤ 140737488355328 ∧ ∀ z ∈ it.nums.list, -9223372036854775808 ≤ z ∧ z ≤ 9223372036854775807
def progFrom (p : Prog) (i : Nat) (out : Bs) : Bs × Bool := match inputsS (p.inputs.drop i) out with
  | (o, false) => (o, false)
  | (o, true) => linesS p.lines o
section
variable {p : Prog} {i : Nat} {out : Bs} {x : Input} {t : Bs}
theorem prog_small (h : p.lines = [] ∨ 64 < p.inputs.length + p.lines.length) : programS p = ([], false) := by rw [programS, if_pos h]
theorem prog_start (h : ¬ (p.lines = [] ∨ 64 < p.inputs.length + p.lines.length)) : programS p = progFrom p 0 [] := by rw [programS, if_neg h]; rfl
theorem prog_fail (hx : p.inputs[i]? = some x) (hn : inputS x = none) : progFrom p i out = (out, false) := by rw [progFrom, drop_some hx, inputsS, hn]
theorem prog_step (hx : p.inputs[i]? = some x) (hn : inputS x = some t) : progFrom p i out = progFrom p (i + 1) (out ++ (([105, 110, 32] ++ t) ++ [10])) := by rw [progFrom, drop_some hx, inputsS, hn]; rfl
theorem prog_lines (hi : p.inputs.length ≤ i) : progFrom p i out = linesS (p.lines.drop 0) out := by rw [progFrom, List.drop_of_length_le hi]; rfl
end
section
variable {l : List Line} {i : Nat} {out : Bs} {x : Line} {t : Bs}
theorem lines_end (hi : l.length ≤ i) : linesS (l.drop i) out = (out, true) := by rw [List.drop_of_length_le hi]; rfl
theorem lines_last (hx : l[i]? = some x) (hi : i + 1 = l.length) : l.drop i = [x] := by rw [drop_some hx, List.drop_of_length_le (by omega)]
theorem lines_more (hx : l[i]? = some x) (hi : i + 1 < l.length) : ∃ y r, l.drop (i + 1) = y :: r ∧ l.drop i = x :: y :: r := by
  have : l[i + 1]? = some l[i + 1] := List.getElem?_eq_getElem hi
  exact ⟨_, _, drop_some this, by rw [drop_some hx, drop_some this]⟩
theorem lines_expr (hx : l[i]? = some x) (he : exprS x.items (if i + 1 = l.length then 255 else 254) = none) : linesS (l.drop i) out = (out, false) := by
  have hl := (List.getElem?_eq_some_iff.1 hx).1
  by_cases hi : i + 1 = l.length
  · rw [if_pos hi] at he
    rw [lines_last hx hi, linesS, he]
  · rw [if_neg hi] at he
    obtain ⟨y, r, _, h2⟩ := lines_more hx (by omega)
    rw [h2, linesS, he]
    exact fun h => by cases h
theorem lines_named (hx : l[i]? = some x) (hi : i + 1 = l.length) (hn : x.name ≠ []) {t : Bs} (he : exprS x.items 255 = some t) : linesS (l.drop i) out = (out, false) := by
  rw [lines_last hx hi, linesS, he]
  simp [hn]
theorem lines_nameless (hx : l[i]? = some x) (hi : i + 1 < l.length) (hn : nameB x.name = false) {t : Bs} (he : exprS x.items 254 = some t) : linesS (l.drop i) out = (out, false) := by
  obtain ⟨y, r, _, h2⟩ := lines_more hx hi
  rw [h2, linesS, he]
  · simp [hn]
  · exact fun h => by cases h
theorem lines_out (hx : l[i]? = some x) (hi : i + 1 = l.length) (hn : x.name = []) {t : Bs} (he : exprS x.items 255 = some t) : linesS (l.drop i) out = linesS (l.drop (i + 1)) (out ++ (([111, 117, 116, 32] ++ t) ++ [10])) := by
  rw [lines_last hx hi, linesS, he, lines_end (by omega)]
  simp [hn]
theorem lines_step (hx : l[i]? = some x) (hi : i + 1 < l.length) (hn : nameB x.name = true) {t : Bs} (he : exprS x.items 254 = some t) : linesS (l.drop i) out = linesS (l.drop (i + 1)) (out ++ (((x.name ++ [58, 32]) ++ t) ++ [10])) := by
  obtain ⟨y, r, h1, h2⟩ := lines_more hx hi
  rw [h2, h1, linesS, he]
  · simp [hn]
  · exact fun h => by cases h
end
theorem step_okp {st st' : List Piece} {x : Item} (hz : ∀ z ∈ x.nums, -9223372036854775808 ≤ z ∧ z ≤ 9223372036854775807) (ho : ∀ p ∈ st, p.words ≠ [] ∧ wsz p.words ≤ 40 * p.tokens) (h : stepS st x = some st') : ∀ p ∈ st', p.words ≠ [] ∧ wsz p.words ≤ 40 * p.tokens := by
  unfold stepS at h
  split at h
  · cases hq : operandS x with
    | none => rw [hq] at h; cases h
    | some q =>
      rw [hq] at h
      injection h with h
      subst h
      intro p hp
      rcases List.mem_cons.1 hp with rfl | hp
      · exact ⟨(operand_ok hz hq).1, (operand_ok hz hq).2.1⟩
      · exact ho p hp
  · split at h
    · cases h
    · rename_i hn
      have hv : (verbS x).1 ≠ [] := fun e => hn (.inr (.inr (.inr (.inr e))))
      obtain ⟨v1, _, v3⟩ := verb_len x
      have v3 := v3 hv
      unfold applyS at h
      split at h
      · split at h
        · rename_i p q r
          injection h with h
          subst h
          have hq := ho q (by simp)
          obtain ⟨k1, k2, _, _⟩ := left_ok (q := ⟨⟨none, 0, q.words⟩, q.nest, q.tokens, q.plain⟩) hq
          have k1 : (leftS q).words ≠ [] := k1
          have k2 : wsz (leftS q).words ≤ 40 * (leftS q).tokens := k2
          have hp := ho p (by simp)
          intro y hy
          rcases List.mem_cons.1 hy with rfl | hy
          · refine ⟨by simp, ?_⟩
            simp only [wsz_append, wsz_cons]
            omega
          · exact ho y (by simp [hy])
        · cases h
      · split at h
        · rename_i p r
          injection h with h
          subst h
          have hp := ho p (by simp)
          intro y hy
          rcases List.mem_cons.1 hy with rfl | hy
          · refine ⟨by simp, ?_⟩
            simp only [wsz_cons]
            omega
          · exact ho y (by simp [hy])
        · cases h
theorem steps_okp : ∀ {l : List Item} {st st' : List Piece}, (∀ x ∈ l, ∀ z ∈ x.nums, -9223372036854775808 ≤ z ∧ z ≤ 9223372036854775807) → (∀ p ∈ st, p.words ≠ [] ∧ wsz p.words ≤ 40 * p.tokens) → stepsS l st = some st' → ∀ p ∈ st', p.words ≠ [] ∧ wsz p.words ≤ 40 * p.tokens
  | [], st, st', _, ho, h => by
    simp [stepsS] at h
    subst h
    exact ho
  | x :: r, st, st', hz, ho, h => by
    rw [stepsS] at h
    cases h1 : stepS st x with
    | none => rw [h1] at h; cases h
    | some s1 =>
      rw [h1] at h
      exact steps_okp (fun y hy => hz y (by simp [hy])) (step_okp (hz x (by simp)) ho h1) h
theorem exprS_len {l : List Item} {most : Nat} {t : Bs} (hz : ∀ x ∈ l, ∀ z ∈ x.nums, -9223372036854775808 ≤ z ∧ z ≤ 9223372036854775807) (h : exprS l most = some t) : t.length ≤ 40 * most := by
  unfold exprS at h
  split at h
  · cases h
  · split at h
    · rename_i p hp
      split at h
      · cases h
      · injection h with h
        subst h
        have h1 := (steps_okp hz (fun p hp => by simp at hp) hp p (by simp)).2
        have := join_len p.words
        omega
    · cases h
section
variable {x : InputV} {j : Nat} {d : SideV} {t : Bs}
theorem input_bad (h : nameB x.name = false ∨ 4 < x.sides.list.length) : inputS x.inp = none := by
  rw [inputS, if_pos (show nameB x.inp.name = false ∨ 4 < x.inp.sides.length from h.imp id fun h => by show 4 < (x.sides.list.map SideV.sd).length; rw [List.length_map]; exact h)]
theorem input_start (h : nameB x.name = true) (h4 : ¬ 4 < x.sides.list.length) : inputS x.inp = sidesS ((x.sides.list.map SideV.sd).drop 0) x.name := by
  rw [inputS, if_neg]
  · rfl
  · rintro (h' | h')
    · rw [show x.inp.name = x.name from rfl, h] at h'
      cases h'
    · rw [show x.inp.sides = x.sides.list.map SideV.sd from rfl, List.length_map] at h'
      exact h4 h'
theorem sd_at (hd : x.sides.list[j]? = some d) : (x.sides.list.map SideV.sd)[j]? = some d.sd := by rw [List.getElem?_map, hd]; rfl
theorem side_num (hd : x.sides.list[j]? = some d) (hn : d.name = []) : sidesS ((x.sides.list.map SideV.sd).drop j) t = sidesS ((x.sides.list.map SideV.sd).drop (j + 1)) (t ++ ([32] ++ spellN d.n)) := by
  rw [drop_some (sd_at hd), sidesS, if_pos (show d.sd.name = [] from hn)]
  rfl
theorem side_name (hd : x.sides.list[j]? = some d) (hn : d.name ≠ []) (h0 : d.n = 0) (hb : nameB d.name = true) : sidesS ((x.sides.list.map SideV.sd).drop j) t = sidesS ((x.sides.list.map SideV.sd).drop (j + 1)) (t ++ ([32] ++ d.name)) := by
  rw [drop_some (sd_at hd), sidesS, if_neg (show ¬ d.sd.name = [] from hn), if_pos (show d.sd.n = 0 ∧ nameB d.sd.name = true from ⟨h0, hb⟩)]
  rfl
theorem side_bad (hd : x.sides.list[j]? = some d) (hn : d.name ≠ []) (h : d.n ≠ 0 ∨ nameB d.name = false) : sidesS ((x.sides.list.map SideV.sd).drop j) t = none := by
  rw [drop_some (sd_at hd), sidesS, if_neg (show ¬ d.sd.name = [] from hn), if_neg]
  rintro ⟨h1, h2⟩
  rcases h with h | h
  · exact h h1
  · rw [show d.sd.name = d.name from rfl, h] at h2; cases h2
theorem sides_done (hj : x.sides.list.length ≤ j) : sidesS ((x.sides.list.map SideV.sd).drop j) t = some t := by
  rw [List.drop_of_length_le (by rw [List.length_map]; exact hj)]
  rfl
end
theorem map_at {α β : Type} {f : α → β} {l : List α} {i : Nat} {x : α} (h : l[i]? = some x) : (l.map f)[i]? = some (f x) := by rw [List.getElem?_map, h]; rfl
theorem some_getD {o : Option Bs} (h : o.isSome = true) : o = some (o.getD []) := by
  cases o with
  | none => cases h
  | some x => rfl
theorem shower_built (r1 r2 : Nat) : Tryz.prog.built 75 [(0, .map (some r1)), (1, .map (some r2))] = some #[.map (some r1), .map (some r2), .pointer none, .slice none 0 0] := by kernel_rfl
theorem sprogram_zero_api_Input : (Tryz.prog.info? 59).bind (·.zero) = some (.agg #[.string (bs []), .int .i64 0, .slice none 0 0]) := by kernel_rfl
theorem sprogram_zero_api_Side : (Tryz.prog.info? 61).bind (·.zero) = some (.agg #[.string (bs []), .int .i64 0]) := by kernel_rfl
theorem sprogram_zero_api_Line : (Tryz.prog.info? 42).bind (·.zero) = some (.agg #[.string (bs []), .int .i64 0, .slice none 0 0]) := by kernel_rfl

set_option maxRecDepth 100000 in
theorem sprogram_spec (b r1 r2 : Nat) (P : ProgV) (hP : ProgOk P) (hl1 : P.inputs.list.length ≤ 140737488355328) (hl2 : P.lines.list.length ≤ 140737488355328) : Spec Tryz.prog 27 [.pointer (some ⟨b, 0, none⟩), .agg #[.slice P.inputs.addr P.inputs.list.length P.inputs.cap, .slice P.lines.addr P.lines.list.length P.lines.cap]] [.obj b (.cells [.map (some r1), .map (some r2), .pointer none, .slice none 0 0].toArray 75), byteE.row (.slice none 0 0) 5 []] [mapF r1 .u8 (textsM false), mapF r2 .u8 (textsM true), globF, inputE.sl (.slice P.inputs.addr P.inputs.list.length P.inputs.cap) P.inputs.list, inputsF P.inputs.list, lineE.sl (.slice P.lines.addr P.lines.list.length P.lines.cap) P.lines.list, linesF P.lines.list] (fun (_ : (Option Addr × Nat) × Bool) => .bool (programS P.pr).2) (fun (x : (Option Addr × Nat) × Bool) => [.obj b (.cells [.map (some r1), .map (some r2), ptrV x.2 b, .slice x.1.1 (programS P.pr).1.length x.1.2].toArray 75), byteE.row (.slice x.1.1 (programS P.pr).1.length x.1.2) 5 (programS P.pr).1]) (fun (x : (Option Addr × Nat) × Bool) => [Fact.pure ((programS P.pr).1 = [] → x.1.1 = none)]) := by
  have hT := show2T_ok
  have hpl : P.pr.lines.length = P.lines.list.length := List.length_map _
  have hpi : P.pr.inputs.length = P.inputs.list.length := List.length_map _
  generalize hR : programS P.pr = r
  refine spec_of Tryz.func27 rfl Tryz.ntmps27 rfl ?_
  intro β hM
  refine sr ?_
  refine at_box rfl rfl rfl rfl rfl rfl fun b1 => ?_
  refine sp hT ?_
  refine nn ?_
  refine sr ?_
  refine sp hT ?_
  refine ss (ldO hT (knows_own (off := 1) .head)) ?_
  refine sp2 hT ?_
  refine at_int (z' := (((P.lines.list.length : Nat) : Int) - 1)) (wrapZ (by omega) (by omega)) ?_
  refine sp hT ?_
  refine nn ?_
  refine at_seq ?_
  refine sr ?_
  refine sp3 hT ?_
  refine at_case (fun hg23 => ?_) (fun hg23 => ?_)
  · have hg23 := of_decide_eq_true hg23
    refine sk4 ?_
    refine sp2 hT ?_
    refine sk4 ?_
    refine sk4 ?_
    refine sp hT ?_
    refine nn ?_
    refine at_true rfl rfl ?_
    refine sr ?_
    refine sp hT ?_
    refine nn ?_
    refine at_ret ?_
    refine r_then ?_
    have hr := hR.symm.trans (prog_small (by first | exact .inl (List.map_eq_nil_iff.2 (List.eq_nil_of_length_eq_zero (by omega))) | exact .inr (by omega)))
    subst hr
    exact at_res1 ((_, _), false) rfl (rv_tmp rfl) (.cons kT1 (.cons kT1 .nil)) ⟨Has.pure (fun _ => rfl), trivial⟩ rfl
  have hg23 := Int.not_lt.1 (of_decide_eq_false hg23)
  refine sp hT ?_
  refine ss (ldO hT (knows_own (off := 0) .head)) ?_
  refine sp4 hT ?_
  refine at_case (fun hg29 => ?_) (fun hg29 => ?_)
  · have hg29 := of_decide_eq_true hg29
    refine sk4 ?_
    refine sk4 ?_
    refine sp hT ?_
    refine nn ?_
    refine at_true rfl rfl ?_
    refine sr ?_
    refine sp hT ?_
    refine nn ?_
    refine at_ret ?_
    refine r_then ?_
    have hr := hR.symm.trans (prog_small (by first | exact .inl (List.map_eq_nil_iff.2 (List.eq_nil_of_length_eq_zero (by omega))) | exact .inr (by omega)))
    subst hr
    exact at_res1 ((_, _), false) rfl (rv_tmp rfl) (.cons kT1 (.cons kT1 .nil)) ⟨Has.pure (fun _ => rfl), trivial⟩ rfl
  have hg29 := Int.not_lt.1 (of_decide_eq_false hg29)
  refine sp hT ?_
  refine ss (ldO hT (knows_own (off := 1) .head)) ?_
  refine sp2 hT ?_
  refine ss (ldO hT (knows_own (off := 0) .head)) ?_
  refine sp2 hT ?_
  refine at_int (z' := (((64 - P.inputs.list.length) : Nat) : Int)) (wrapN (by omega) (by omega)) ?_
  refine sp2 hT ?_
  refine nn ?_
  refine at_cond rfl (fun hc38 => ?_) (fun hc38 => ?_)
  · have hc38 := of_decide_eq_true hc38
    refine sr ?_
    refine sp hT ?_
    refine nn ?_
    refine at_ret ?_
    refine r_then ?_
    have hr := hR.symm.trans (prog_small (by first | exact .inl (List.map_eq_nil_iff.2 (List.eq_nil_of_length_eq_zero (by omega))) | exact .inr (by omega)))
    subst hr
    exact at_res1 ((_, _), false) rfl (rv_tmp rfl) (.cons kT1 (.cons kT1 .nil)) ⟨Has.pure (fun _ => rfl), trivial⟩ rfl
  have hc38 := Int.not_lt.1 (of_decide_eq_false hc38)
  refine at_skip ?_
  refine n_then ?_
  refine at_seq ?_
  refine sr ?_
  refine sp hT ?_
  refine ss (ldO hT (knows_own (off := 0) .head)) ?_
  refine sp2 hT ?_
  refine nn ?_
  refine at_block ?_
  refine at_loop2 (ι := Nat × Bs × Bool × Option Addr × Nat) [(0, _), (3, _), (5, _), (40, _), (41, _)] ⟨rfl, rfl, rfl, rfl, rfl, trivial⟩ (fun ⟨i, out, u, G, c⟩ => [(42, .int .i64 (i : Nat))]) (fun ⟨i, out, u, G, c⟩ => [.obj b (.cells [.map (some r1), .map (some r2), ptrV u b, .slice G out.length c].toArray 75), byteE.row (.slice G out.length c) 5 out]) (fun ⟨i, out, u, G, c⟩ => [Fact.pure (i ≤ P.inputs.list.length ∧ programS P.pr = progFrom P.pr i out ∧ (out = [] → G = none) ∧ out.length ≤ 1000 * i)]) (fun ⟨i, out, u, G, c⟩ => P.inputs.list.length - i) (0, [], false, none, 0) ⟨rfl, trivial⟩ (.cons kT1 (.cons kT1 .nil)) ⟨Has.pure (⟨by omega, prog_start (by rintro (h | h); (have h := congrArg List.length h; rw [hpl, List.length_nil] at h; omega); omega), fun _ => rfl, by simp⟩), trivial⟩ ?_
  rintro ⟨i, out, u, G, c⟩
  dsimp only
  refine at_know (Has.of mT0) fun hinv5 => ?_
  refine sr ?_
  refine sp hT ?_
  refine nn ?_
  refine at_seq ?_
  refine at_cond rfl (fun hc43 => ?_) (fun hc43 => ?_)
  · have hc43 := of_decide_eq_true hc43
    refine at_skip ?_
    refine n_then ?_
    refine at_seq ?_
    refine at_block ?_
    refine sr ?_
    obtain ⟨x2, hx3⟩ : ∃ x, P.inputs.list[i]? = some x := ⟨_, List.getElem?_eq_getElem (by omega)⟩
    refine ss (sti_index hT (k := i) (reads_fact (Has.of mT4)) rfl rfl rfl rfl rfl rfl rfl (by omega)) ?_
    refine ss (sti_loadN hT (Reads.knows (reads_fact (Has.of mT4)) (k := i) (x := x2) hx3 0) rfl rfl rfl rfl rfl) ?_
    refine at_alloc rfl rfl rfl rfl sprogram_zero_api_Input rfl fun b4 => ?_
    refine sto hT .head ?_
    refine nn ?_
    refine at_seq ?_
    refine at_seq ?_
    have hxi := hP.input x2 (List.mem_of_getElem? hx3)
    have hx0 : P.pr.inputs[i]? = some x2.inp := map_at hx3
    refine at_fact (sidesFct x2) (Has.each (Has.of mT5) (List.mem_of_getElem? hx3)) ?_
    refine at_region ?_
    refine sp hT ?_
    refine ss (ldO hT (knows_own (off := 0) .head)) ?_
    refine at_call (callFunc_enter Tryz.func35 rfl rfl) (Name_spec _ hxi.1) rfl rfl rfl rfl rfl .nil ⟨Has.of mT4, trivial⟩ fun _ => ?_
    refine sp2 hT ?_
    refine at_case (fun hg50 => ?_) (fun hg50 => ?_)
    · have hg50 := not_t hg50
      refine sk4 ?_
      refine sp hT ?_
      refine nn ?_
      refine at_true rfl rfl ?_
      refine sr ?_
      refine sp hT ?_
      refine nn ?_
      refine at_ret ?_
      refine r_then ?_
      refine r_block ?_
      refine r_then ?_
      refine r_then ?_
      refine r_block ?_
      refine r_then ?_
      have hr := hR.symm.trans (hinv5.2.1.trans (prog_fail hx0 (input_bad (by first | exact .inl (by assumption) | exact .inr (by omega)))))
      subst hr
      exact at_res1 ((_, _), u) rfl (rv_tmp rfl) (.cons kT1 (.cons kT1 .nil)) ⟨Has.pure (hinv5.2.2.1), trivial⟩ rfl
    have hg50 := not_f hg50
    refine sp hT ?_
    refine ss (ldO hT (knows_own (off := 2) .head)) ?_
    refine sp3 hT ?_
    refine nn ?_
    refine at_cond rfl (fun hc55 => ?_) (fun hc55 => ?_)
    · have hc55 := of_decide_eq_true hc55
      refine sr ?_
      refine sp hT ?_
      refine nn ?_
      refine at_ret ?_
      refine r_then ?_
      refine r_block ?_
      refine r_then ?_
      refine r_then ?_
      refine r_block ?_
      refine r_then ?_
      have hr := hR.symm.trans (hinv5.2.1.trans (prog_fail hx0 (input_bad (by first | exact .inl (by assumption) | exact .inr (by omega)))))
      subst hr
      exact at_res1 ((_, _), u) rfl (rv_tmp rfl) (.cons kT1 (.cons kT1 .nil)) ⟨Has.pure (hinv5.2.2.1), trivial⟩ rfl
    have hc55 := Int.not_lt.1 (of_decide_eq_false hc55)
    refine at_skip ?_
    refine n_then ?_
    refine sr ?_
    refine sp hT ?_
    refine ss (ldO hT (knows_own (off := 0) .head)) ?_
    refine sp hT ?_
    refine nn ?_
    refine at_seq ?_
    refine sr ?_
    refine sp hT ?_
    refine ss (ldO hT (knows_own (off := 2) .head)) ?_
    refine sp2 hT ?_
    refine nn ?_
    refine at_block ?_
    refine at_loop2 (ι := Nat × Bs) [(0, _), (3, _), (5, _), (40, _), (41, _), (42, _), (51, _), (52, _), (53, _), (54, _), (59, _), (60, _)] ⟨rfl, rfl, rfl, rfl, rfl, rfl, rfl, rfl, rfl, rfl, rfl, rfl, trivial⟩ (fun ⟨j, text⟩ => [(8, .string (bs text)), (61, .int .i64 (j : Nat))]) (fun _ => []) (fun ⟨j, text⟩ => [Fact.pure (j ≤ x2.sides.list.length ∧ sidesS ((x2.sides.list.map SideV.sd).drop j) text = inputS x2.inp ∧ text.length ≤ 16 + 30 * j)]) (fun ⟨j, text⟩ => x2.sides.list.length - j) (0, x2.name) ⟨rfl, rfl, trivial⟩ .nil ⟨Has.pure (⟨by omega, (input_start (by assumption) (by omega)).symm, by have := nameB_len ‹nameB x2.name = true›; omega⟩), trivial⟩ ?_
    rintro ⟨j, text⟩
    dsimp only
    refine at_know (Has.of mT0) fun hinv11 => ?_
    refine sr ?_
    refine sp hT ?_
    refine nn ?_
    refine at_seq ?_
    refine at_cond rfl (fun hc62 => ?_) (fun hc62 => ?_)
    · have hc62 := of_decide_eq_true hc62
      refine at_skip ?_
      refine n_then ?_
      refine at_seq ?_
      refine at_block ?_
      refine sr ?_
      obtain ⟨x5, hx6⟩ : ∃ x, x2.sides.list[j]? = some x := ⟨_, List.getElem?_eq_getElem (by omega)⟩
      refine ss (sti_index hT (k := j) (reads_fact (Has.of mT1)) rfl rfl rfl rfl rfl rfl rfl (by omega)) ?_
      refine ss (sti_loadN hT (Reads.knows (reads_fact (Has.of mT1)) (k := j) (x := x5) hx6 0) rfl rfl rfl rfl rfl) ?_
      refine at_alloc rfl rfl rfl rfl sprogram_zero_api_Side rfl fun b7 => ?_
      refine sto hT .head ?_
      refine nn ?_
      refine at_block ?_
      refine at_seq ?_
      have hdn := hxi.2 x5 (List.mem_of_getElem? hx6)
      refine at_region ?_
      refine sp hT ?_
      refine ss (ldO hT (knows_own (off := 0) .head)) ?_
      refine sp2 hT ?_
      refine nn ?_
      refine at_cond rfl (fun hc65 => ?_) (fun hc65 => ?_)
      · have hc65 : x5.name = ([] : Bs) := eq_of_beq hc65
        refine at_region ?_
        refine sp2 hT ?_
        refine ss (ldO hT (knows_own (off := 1) .head)) ?_
        have hsp := spell_len hdn.2.1 hdn.2.2
        refine at_call (callFunc_enter Tryz.func44 rfl rfl) (snumber_spec _ hdn.2.1 hdn.2.2) rfl rfl rfl rfl rfl .nil ⟨Has.of mT5, trivial⟩ fun _ => ?_
        refine ss (sti_cat rfl rfl rfl (by first | omega | (simp; omega))) ?_
        refine ss (sti_cat rfl rfl rfl (by first | omega | (simp; omega))) ?_
        refine sp hT ?_
        refine at_nil ?_
        refine n_block ?_
        refine n_block ?_
        refine n_then ?_
        refine at_region ?_
        refine sp hT ?_
        refine at_int (z' := (((j + 1) : Nat) : Int)) (wrapN (by omega) (by omega)) ?_
        refine sp hT ?_
        refine nn ?_
        exact at_back2 (j + 1, _) (by dsimp only; omega) ⟨rfl, rfl, trivial⟩ ⟨rfl, rfl, rfl, rfl, rfl, rfl, rfl, rfl, rfl, rfl, rfl, rfl, trivial⟩ (.cons kT1 (.cons kT1 (.cons kT1 (.cons kT1 .nil)))) ⟨Has.pure (⟨by dsimp only; omega, hinv11.2.1 ▸ (side_num hx6 (by assumption)).symm, by have := spell_len hdn.2.1 hdn.2.2; simp; omega⟩), trivial⟩ (HasAll.drop 1)
      have hc65 : x5.name ≠ ([] : Bs) := fun h => absurd (beq_iff_eq.2 h) (by rw [show (x5.name == ([] : Bs)) = false from hc65]; simp)
      refine sr ?_
      refine sp hT ?_
      refine ss (ldO hT (knows_own (off := 1) .head)) ?_
      refine sp2 hT ?_
      refine at_case (fun hg79 => ?_) (fun hg79 => ?_)
      · have hg79 := eq_of_beq hg79
        refine sp hT ?_
        refine ss (ldO hT (knows_own (off := 0) .head)) ?_
        refine at_call (callFunc_enter Tryz.func35 rfl rfl) (Name_spec _ hdn.1) rfl rfl rfl rfl rfl .nil ⟨Has.of mT5, trivial⟩ fun _ => ?_
        refine sp2 hT ?_
        refine nn ?_
        refine at_cond rfl (fun hc75 => ?_) (fun hc75 => ?_)
        · refine at_region ?_
          refine sp2 hT ?_
          refine ss (ldO hT (knows_own (off := 0) .head)) ?_
          refine ss (sti_cat rfl rfl rfl (by first | omega | (simp; omega))) ?_
          refine ss (sti_cat rfl rfl rfl (by first | omega | (simp; omega))) ?_
          refine sp hT ?_
          refine at_nil ?_
          refine n_block ?_
          refine n_block ?_
          refine n_then ?_
          refine at_region ?_
          refine sp hT ?_
          refine at_int (z' := (((j + 1) : Nat) : Int)) (wrapN (by omega) (by omega)) ?_
          refine sp hT ?_
          refine nn ?_
          exact at_back2 (j + 1, _) (by dsimp only; omega) ⟨rfl, rfl, trivial⟩ ⟨rfl, rfl, rfl, rfl, rfl, rfl, rfl, rfl, rfl, rfl, rfl, rfl, trivial⟩ (.cons kT1 (.cons kT1 (.cons kT1 (.cons kT1 .nil)))) ⟨Has.pure (⟨by dsimp only; omega, hinv11.2.1 ▸ (side_name hx6 (by assumption) (by assumption) (by assumption)).symm, by have := nameB_len ‹nameB x5.name = true›; simp; omega⟩), trivial⟩ (HasAll.drop 1)
        refine sr ?_
        refine sp hT ?_
        refine nn ?_
        refine at_ret ?_
        refine r_block ?_
        refine r_block ?_
        refine r_then ?_
        refine r_then ?_
        refine r_block ?_
        refine r_then ?_
        refine r_block ?_
        refine r_then ?_
        refine r_then ?_
        refine r_block ?_
        refine r_then ?_
        have hr := hR.symm.trans (hinv5.2.1.trans (prog_fail hx0 (hinv11.2.1.symm.trans (side_bad hx6 (by assumption) (by first | exact .inl (by assumption) | exact .inr (by assumption))))))
        subst hr
        exact at_res1 ((_, _), u) rfl (rv_tmp rfl) (.cons kT2 (.cons kT2 .nil)) ⟨Has.pure (hinv5.2.2.1), trivial⟩ rfl
      have hg79 := beq_eq_false_iff_ne.1 hg79
      refine sk3 ?_
      refine sp2 hT ?_
      refine nn ?_
      refine at_false rfl rfl ?_
      refine sr ?_
      refine sp hT ?_
      refine nn ?_
      refine at_ret ?_
      refine r_block ?_
      refine r_block ?_
      refine r_then ?_
      refine r_then ?_
      refine r_block ?_
      refine r_then ?_
      refine r_block ?_
      refine r_then ?_
      refine r_then ?_
      refine r_block ?_
      refine r_then ?_
      have hr := hR.symm.trans (hinv5.2.1.trans (prog_fail hx0 (hinv11.2.1.symm.trans (side_bad hx6 (by assumption) (by first | exact .inl (by assumption) | exact .inr (by assumption))))))
      subst hr
      exact at_res1 ((_, _), u) rfl (rv_tmp rfl) (.cons kT2 (.cons kT2 .nil)) ⟨Has.pure (hinv5.2.2.1), trivial⟩ rfl
    have hc62 := Int.not_lt.1 (of_decide_eq_false hc62)
    refine at_exit ?_
    refine x_then ?_
    refine x_then ?_
    refine x_block ?_
    refine n_then ?_
    have hin := hinv11.2.1.symm.trans (sides_done (by omega))
    refine at_region ?_
    refine sp2 hT ?_
    refine at_call (callFunc_enter Tryz.func45 rfl rfl) (sline_spec b r1 r2 u G c out ([105, 110, 32] : Bs) text (by simp; omega)) rfl rfl rfl rfl rfl (.cons kT1 (.cons kT1 .nil)) trivial fun ⟨G8, c9⟩ => ?_
    refine at_nil ?_
    refine n_block ?_
    refine n_then ?_
    refine at_region ?_
    refine sp hT ?_
    refine at_int (z' := (((i + 1) : Nat) : Int)) (wrapN (by omega) (by omega)) ?_
    refine sp hT ?_
    refine nn ?_
    exact at_back2 (i + 1, (out ++ ((([105, 110, 32] : Bs) ++ text) ++ [10])), true, _, _) (by dsimp only; omega) ⟨rfl, trivial⟩ ⟨rfl, rfl, rfl, rfl, rfl, trivial⟩ (.cons .head (.cons .head (.cons kT1 .nil))) ⟨Has.pure (⟨by dsimp only; omega, hinv5.2.1.trans (prog_step hx0 hin), fun h => by simp at h, by simp; omega⟩), trivial⟩ (HasAll.drop 3)
  have hc43 := Int.not_lt.1 (of_decide_eq_false hc43)
  refine at_exit ?_
  refine x_then ?_
  refine x_then ?_
  refine x_block ?_
  refine n_then ?_
  refine at_seq ?_
  refine sr ?_
  refine sp hT ?_
  refine ss (ldO hT (knows_own (off := 1) kT2)) ?_
  refine sp2 hT ?_
  refine nn ?_
  refine at_block ?_
  have hlin := hinv5.2.1.trans (prog_lines (by omega))
  refine at_loop2 (ι := Nat × Bs × Bool × Option Addr × Nat) [(0, _), (5, _), (95, _), (96, _)] ⟨rfl, rfl, rfl, rfl, trivial⟩ (fun ⟨i, out, u, G, c⟩ => [(97, .int .i64 (i : Nat))]) (fun ⟨i, out, u, G, c⟩ => [.obj b (.cells [.map (some r1), .map (some r2), ptrV u b, .slice G out.length c].toArray 75), byteE.row (.slice G out.length c) 5 out]) (fun ⟨i, out, u, G, c⟩ => [Fact.pure (i ≤ P.lines.list.length ∧ programS P.pr = linesS (P.pr.lines.drop i) out ∧ (out = [] → G = none) ∧ out.length ≤ 1000 * 64 + 20000 * i)]) (fun ⟨i, out, u, G, c⟩ => P.lines.list.length - i) (0, out, u, G, c) ⟨rfl, trivial⟩ (.cons .head (.cons .head .nil)) ⟨Has.pure (⟨by omega, hlin, hinv5.2.2.1, by omega⟩), trivial⟩ ?_
  rintro ⟨i, out, u, G, c⟩
  dsimp only
  refine at_know (Has.of mT0) fun hinv22 => ?_
  refine sr ?_
  refine sp hT ?_
  refine nn ?_
  refine at_seq ?_
  refine at_cond rfl (fun hc98 => ?_) (fun hc98 => ?_)
  · have hc98 := of_decide_eq_true hc98
    refine at_skip ?_
    refine n_then ?_
    refine at_seq ?_
    refine at_block ?_
    refine sr ?_
    refine sp hT ?_
    obtain ⟨x10, hx11⟩ : ∃ x, P.lines.list[i]? = some x := ⟨_, List.getElem?_eq_getElem (by omega)⟩
    refine ss (sti_index hT (k := i) (reads_fact (Has.of mT7)) rfl rfl rfl rfl rfl rfl rfl (by omega)) ?_
    refine ss (sti_loadN hT (Reads.knows (reads_fact (Has.of mT7)) (k := i) (x := x10) hx11 0) rfl rfl rfl rfl rfl) ?_
    refine at_alloc rfl rfl rfl rfl sprogram_zero_api_Line rfl fun b12 => ?_
    refine sp hT ?_
    refine sto hT .head ?_
    refine nn ?_
    refine at_seq ?_
    have hli := hP.line x10 (List.mem_of_getElem? hx11)
    have hx0 : P.pr.lines[i]? = some x10.ln := map_at hx11
    refine at_fact (itemsFct x10) (Has.each (Has.of mT8) (List.mem_of_getElem? hx11)) ?_
    refine at_fact (itemE.sl (.slice x10.items.addr x10.items.list.length x10.items.cap) x10.items.list) (Has.left (Has.of mT0)) ?_
    refine at_fact (numsF x10.items.list) (Has.right (Has.of mT1)) ?_
    have hz : ∀ y ∈ (x10.items.list.map ItemV.it), ∀ z ∈ y.nums, -9223372036854775808 ≤ z ∧ z ≤ 9223372036854775807 := fun y hy z hzz => by obtain ⟨it, h1, rfl⟩ := List.mem_map.1 hy; exact (hli.2 it h1).2 z hzz
    refine at_region ?_
    refine sp hT ?_
    refine ss (ldO hT (knows_own (off := 0) .head)) ?_
    refine ss (sti_cat rfl rfl rfl (by first | omega | (simp; omega))) ?_
    refine sp2 hT ?_
    refine nn ?_
    refine at_seq ?_
    refine sr ?_
    refine sp3 hT ?_
    refine nn ?_
    refine at_cond rfl (fun hc107 => ?_) (fun hc107 => ?_)
    · have hc107 := eq_of_beq hc107
      refine at_region ?_
      refine sp2 hT ?_
      refine nn ?_
      refine sr ?_
      refine sp2 hT ?_
      refine ss (ldO hT (knows_own (off := 2) .head)) ?_
      refine sp hT ?_
      refine at_call (callFunc_enter Tryz.func46 rfl rfl) (sexpr_spec b r1 r2 (ptrV u b) G out.length c _ _ x10.items.list 255 (by omega) hli.2) rfl rfl rfl rfl rfl (.cons kT1 .nil) ⟨(Has.of mT5), (Has.of mT6), (Has.of mT7), (Has.of mT1), (Has.of mT0), trivial⟩ fun _ => ?_
      refine sp4 hT ?_
      refine sp hT ?_
      refine nn ?_
      refine at_seq ?_
      refine sr ?_
      refine sp3 hT ?_
      refine at_case (fun hg118 => ?_) (fun hg118 => ?_)
      · have hg118 := not_t hg118
        refine sk4 ?_
        refine sk3 ?_
        refine sp2 hT ?_
        refine sk4 ?_
        refine sk4 ?_
        refine sk ?_
        refine sp hT ?_
        refine nn ?_
        refine at_true rfl rfl ?_
        refine sr ?_
        refine sp hT ?_
        refine nn ?_
        refine at_ret ?_
        refine r_then ?_
        refine r_block ?_
        refine r_then ?_
        refine r_then ?_
        refine r_block ?_
        refine r_then ?_
        have hr := hR.symm.trans (hinv22.2.1.trans (show linesS (P.pr.lines.drop i) out = (out, false) from (by first | exact lines_expr hx0 (by rw [if_pos (by omega)]; exact opt_none (by assumption)) | exact lines_named hx0 (by omega) (by assumption) hex | exact lines_nameless hx0 (by omega) (by first | assumption | (rw [show x10.ln.name = [] from by assumption]; exact nameB_nil)) hex | exact False.elim (by omega))))
        subst hr
        exact at_res1 ((_, _), u) rfl (rv_tmp rfl) (.cons .head (.cons kT1 .nil)) ⟨Has.pure (hinv22.2.2.1), trivial⟩ rfl
      have hg118 := not_f hg118
      have hex := some_getD (by assumption : (exprS (x10.items.list.map ItemV.it) 255).isSome = true)
      have hexl := exprS_len hz hex
      refine sp3 hT ?_
      refine at_case (fun hg121 => ?_) (fun hg121 => ?_)
      · have hg121 := eq_of_beq hg121
        refine sp hT ?_
        refine ss (ldO hT (knows_own (off := 0) kT1)) ?_
        refine sp hT ?_
        refine at_case (fun hg124 => ?_) (fun hg124 => ?_)
        · have hg124 : x10.name = ([] : Bs) := eq_of_beq hg124
          refine sp hT ?_
          refine at_bool (t' := false) (by decide) ?_
          refine sp4 hT ?_
          refine sp2 hT ?_
          refine at_case (fun hg131 => ?_) (fun hg131 => ?_)
          · have hg131 := of_decide_eq_true hg131
            omega
          have hg131 := Int.not_lt.1 (of_decide_eq_false hg131)
          refine sk4 ?_
          refine sp2 hT ?_
          refine nn ?_
          refine at_false rfl rfl ?_
          refine at_skip ?_
          refine n_then ?_
          refine at_region ?_
          refine sp3 hT ?_
          refine at_call (callFunc_enter Tryz.func45 rfl rfl) (sline_spec b r1 r2 u G c out ([111, 117, 116, 32] : Bs) ((exprS (x10.items.list.map ItemV.it) 255).getD []) (by simp; omega)) rfl rfl rfl rfl rfl (.cons .head (.cons kT1 .nil)) trivial fun ⟨G13, c14⟩ => ?_
          refine at_nil ?_
          refine n_block ?_
          refine n_then ?_
          refine at_region ?_
          refine sp hT ?_
          refine at_int (z' := (((i + 1) : Nat) : Int)) (wrapN (by omega) (by omega)) ?_
          refine sp hT ?_
          refine nn ?_
          exact at_back2 (i + 1, (out ++ ((([111, 117, 116, 32] : Bs) ++ ((exprS (x10.items.list.map ItemV.it) 255).getD [])) ++ [10])), true, _, _) (by dsimp only; omega) ⟨rfl, trivial⟩ ⟨rfl, rfl, rfl, rfl, trivial⟩ (.cons .head (.cons .head (.cons kT1 .nil))) ⟨Has.pure (⟨by dsimp only; omega, hinv22.2.1.trans (lines_out hx0 (by omega) (by assumption) hex), fun h => by simp at h, by simp; omega⟩), trivial⟩ (HasAll.drop 4)
        have hg124 : x10.name ≠ ([] : Bs) := fun h => absurd (beq_iff_eq.2 h) (by rw [show (x10.name == ([] : Bs)) = false from hg124]; simp)
        refine sp hT ?_
        refine at_bool (t' := true) (by decide) ?_
        refine sp2 hT ?_
        refine sk4 ?_
        refine sk4 ?_
        refine sk ?_
        refine sp hT ?_
        refine nn ?_
        refine at_true rfl rfl ?_
        refine sr ?_
        refine sp hT ?_
        refine nn ?_
        refine at_ret ?_
        refine r_then ?_
        refine r_block ?_
        refine r_then ?_
        refine r_then ?_
        refine r_block ?_
        refine r_then ?_
        have hr := hR.symm.trans (hinv22.2.1.trans (show linesS (P.pr.lines.drop i) out = (out, false) from (by first | exact lines_expr hx0 (by rw [if_pos (by omega)]; exact opt_none (by assumption)) | exact lines_named hx0 (by omega) (by assumption) hex | exact lines_nameless hx0 (by omega) (by first | assumption | (rw [show x10.ln.name = [] from by assumption]; exact nameB_nil)) hex | exact False.elim (by omega))))
        subst hr
        exact at_res1 ((_, _), u) rfl (rv_tmp rfl) (.cons .head (.cons kT1 .nil)) ⟨Has.pure (hinv22.2.2.1), trivial⟩ rfl
      have hg121 := beq_eq_false_iff_ne.1 hg121
      omega
    have hc107 := beq_eq_false_iff_ne.1 hc107
    refine at_skip ?_
    refine n_then ?_
    refine sr ?_
    refine sp2 hT ?_
    refine ss (ldO hT (knows_own (off := 2) .head)) ?_
    refine sp hT ?_
    refine at_call (callFunc_enter Tryz.func46 rfl rfl) (sexpr_spec b r1 r2 (ptrV u b) G out.length c _ _ x10.items.list 254 (by omega) hli.2) rfl rfl rfl rfl rfl (.cons kT1 .nil) ⟨(Has.of mT5), (Has.of mT6), (Has.of mT7), (Has.of mT1), (Has.of mT0), trivial⟩ fun _ => ?_
    refine sp4 hT ?_
    refine sp hT ?_
    refine nn ?_
    refine at_seq ?_
    refine sr ?_
    refine sp3 hT ?_
    refine at_case (fun hg118 => ?_) (fun hg118 => ?_)
    · have hg118 := not_t hg118
      refine sk4 ?_
      refine sk3 ?_
      refine sp2 hT ?_
      refine sk4 ?_
      refine sk4 ?_
      refine sk ?_
      refine sp hT ?_
      refine nn ?_
      refine at_true rfl rfl ?_
      refine sr ?_
      refine sp hT ?_
      refine nn ?_
      refine at_ret ?_
      refine r_then ?_
      refine r_block ?_
      refine r_then ?_
      refine r_then ?_
      refine r_block ?_
      refine r_then ?_
      have hr := hR.symm.trans (hinv22.2.1.trans (show linesS (P.pr.lines.drop i) out = (out, false) from (by first | exact lines_expr hx0 (by rw [if_neg (by omega)]; exact opt_none (by assumption)) | exact lines_named hx0 (by omega) (by assumption) hex | exact lines_nameless hx0 (by omega) (by first | assumption | (rw [show x10.ln.name = [] from by assumption]; exact nameB_nil)) hex | exact False.elim (by omega))))
      subst hr
      exact at_res1 ((_, _), u) rfl (rv_tmp rfl) (.cons .head (.cons kT1 .nil)) ⟨Has.pure (hinv22.2.2.1), trivial⟩ rfl
    have hg118 := not_f hg118
    have hex := some_getD (by assumption : (exprS (x10.items.list.map ItemV.it) 254).isSome = true)
    have hexl := exprS_len hz hex
    refine sp3 hT ?_
    refine at_case (fun hg121 => ?_) (fun hg121 => ?_)
    · have hg121 := eq_of_beq hg121
      omega
    have hg121 := beq_eq_false_iff_ne.1 hg121
    refine sp hT ?_
    refine ss (ldO hT (knows_own (off := 0) kT1)) ?_
    refine sp hT ?_
    refine at_case (fun hg124 => ?_) (fun hg124 => ?_)
    · have hg124 : x10.name = ([] : Bs) := eq_of_beq hg124
      refine sp hT ?_
      refine at_bool (t' := true) (by decide) ?_
      refine sp2 hT ?_
      refine sk4 ?_
      refine sk4 ?_
      refine sk ?_
      refine sp hT ?_
      refine nn ?_
      refine at_true rfl rfl ?_
      refine sr ?_
      refine sp hT ?_
      refine nn ?_
      refine at_ret ?_
      refine r_then ?_
      refine r_block ?_
      refine r_then ?_
      refine r_then ?_
      refine r_block ?_
      refine r_then ?_
      have hr := hR.symm.trans (hinv22.2.1.trans (show linesS (P.pr.lines.drop i) out = (out, false) from (by first | exact lines_expr hx0 (by rw [if_neg (by omega)]; exact opt_none (by assumption)) | exact lines_named hx0 (by omega) (by assumption) hex | exact lines_nameless hx0 (by omega) (by first | assumption | (rw [show x10.ln.name = [] from by assumption]; exact nameB_nil)) hex | exact False.elim (by omega))))
      subst hr
      exact at_res1 ((_, _), u) rfl (rv_tmp rfl) (.cons .head (.cons kT1 .nil)) ⟨Has.pure (hinv22.2.2.1), trivial⟩ rfl
    have hg124 : x10.name ≠ ([] : Bs) := fun h => absurd (beq_iff_eq.2 h) (by rw [show (x10.name == ([] : Bs)) = false from hg124]; simp)
    refine sp hT ?_
    refine at_bool (t' := false) (by decide) ?_
    refine sp4 hT ?_
    refine sp2 hT ?_
    refine at_case (fun hg131 => ?_) (fun hg131 => ?_)
    · have hg131 := of_decide_eq_true hg131
      refine sp hT ?_
      refine ss (ldO hT (knows_own (off := 0) kT1)) ?_
      refine at_call (callFunc_enter Tryz.func35 rfl rfl) (Name_spec _ hli.1) rfl rfl rfl rfl rfl .nil ⟨Has.of mT7, trivial⟩ fun _ => ?_
      refine sp3 hT ?_
      refine nn ?_
      refine at_cond rfl (fun hc137 => ?_) (fun hc137 => ?_)
      · have hc137 := not_t hc137
        refine sr ?_
        refine sp hT ?_
        refine nn ?_
        refine at_ret ?_
        refine r_then ?_
        refine r_block ?_
        refine r_then ?_
        refine r_then ?_
        refine r_block ?_
        refine r_then ?_
        have hr := hR.symm.trans (hinv22.2.1.trans (show linesS (P.pr.lines.drop i) out = (out, false) from (by first | exact lines_expr hx0 (by rw [if_neg (by omega)]; exact opt_none (by assumption)) | exact lines_named hx0 (by omega) (by assumption) hex | exact lines_nameless hx0 (by omega) (by first | assumption | (rw [show x10.ln.name = [] from by assumption]; exact nameB_nil)) hex | exact False.elim (by omega))))
        subst hr
        exact at_res1 ((_, _), u) rfl (rv_tmp rfl) (.cons .head (.cons kT1 .nil)) ⟨Has.pure (hinv22.2.2.1), trivial⟩ rfl
      have hc137 := not_f hc137
      refine at_skip ?_
      refine n_then ?_
      have hnl := nameB_len (by assumption : nameB x10.name = true)
      refine at_region ?_
      refine sp3 hT ?_
      refine at_call (callFunc_enter Tryz.func45 rfl rfl) (sline_spec b r1 r2 u G c out (x10.name ++ ([58, 32] : Bs)) ((exprS (x10.items.list.map ItemV.it) 254).getD []) (by simp; omega)) rfl rfl rfl rfl rfl (.cons .head (.cons kT1 .nil)) trivial fun ⟨G15, c16⟩ => ?_
      refine at_nil ?_
      refine n_block ?_
      refine n_then ?_
      refine at_region ?_
      refine sp hT ?_
      refine at_int (z' := (((i + 1) : Nat) : Int)) (wrapN (by omega) (by omega)) ?_
      refine sp hT ?_
      refine nn ?_
      exact at_back2 (i + 1, (out ++ (((x10.name ++ ([58, 32] : Bs)) ++ ((exprS (x10.items.list.map ItemV.it) 254).getD [])) ++ [10])), true, _, _) (by dsimp only; omega) ⟨rfl, trivial⟩ ⟨rfl, rfl, rfl, rfl, trivial⟩ (.cons .head (.cons .head (.cons kT1 .nil))) ⟨Has.pure (⟨by dsimp only; omega, hinv22.2.1.trans (lines_step hx0 (by omega) (by assumption) hex), fun h => by simp at h, by have := nameB_len ‹nameB x10.name = true›; simp; omega⟩), trivial⟩ (HasAll.drop 4)
    have hg131 := Int.not_lt.1 (of_decide_eq_false hg131)
    omega
  have hc98 := Int.not_lt.1 (of_decide_eq_false hc98)
  refine at_exit ?_
  refine x_then ?_
  refine x_then ?_
  refine x_block ?_
  refine n_then ?_
  refine sr ?_
  refine sp hT ?_
  refine nn ?_
  refine at_ret ?_
  have hr := hR.symm.trans (hinv22.2.1.trans (lines_end (by omega)))
  subst hr
  exact at_res1 ((_, _), u) rfl (rv_tmp rfl) (.cons .head (.cons .head .nil)) ⟨Has.pure (hinv22.2.2.1), trivial⟩ rfl

set_option maxRecDepth 100000 in
theorem bstrN_spec (b r1 r2 : Nat) (p : Value) (g c : Nat) (out : Bs) (h0 : out ≠ []) (hc : out.length ≤ c) : Spec Tryz.prog 28 [.pointer (some ⟨b, 2, none⟩)] [.obj b (.cells [.map (some r1), .map (some r2), p, .slice (some ⟨g, 0, none⟩) out.length c].toArray 75), byteE.row (.slice (some ⟨g, 0, none⟩) out.length c) 5 out] [] (fun (_ : Unit) => .string (bs out)) (fun _ => []) (fun _ => []) := by
  have hT := show2T_ok
  refine spec_of Tryz.func28 rfl Tryz.ntmps28 rfl ?_
  intro β hM
  refine sr ?_
  refine sp hT ?_
  refine nn ?_
  refine at_seq ?_
  refine at_mix _ _ [(true, 0), (true, 1), (true, 2), (true, 3), (true, 4), (true, 5), (true, 6), (true, 7), (true, 8), (true, 9), (false, 10), (true, 11)] mixes (by decide +kernel) (.cons .head .nil) HasAll.self ?_
  refine atm_sti rfl rfl rfl rfl (sti_pure hT rfl) ?_
  refine atm_sti rfl rfl rfl rfl (sti_pure hT rfl) ?_
  refine atm_sti rfl rfl rfl rfl (sti_pure hT rfl) ?_
  refine atm_sti rfl rfl rfl rfl (ldO hT (knows_own (off := 3) .head)) ?_
  refine atm_sti rfl rfl rfl rfl (sti_sliceData rfl rfl (.inr (by have := List.length_pos_iff.2 h0; omega))) ?_
  refine atm_sti rfl rfl rfl rfl (sti_pure hT rfl) ?_
  refine atm_sti rfl rfl rfl rfl (sti_pure hT rfl) ?_
  refine atm_sti rfl rfl rfl rfl (sti_pure hT rfl) ?_
  refine atm_sti rfl rfl rfl rfl (ldO hT (knows_own (off := 3) .head)) ?_
  refine atm_sti rfl rfl rfl rfl (sti_pure hT rfl) ?_
  refine atm_op (o := _) rfl ?_
  refine at_unsafeString kT1 rfl rfl rfl rfl u8Ptr (by kernel_rfl) rfl rfl rfl h0 ?_
  refine atm_go (.cons .head .nil) trivial ?_
  refine atm_sti rfl rfl rfl rfl (sti_pure hT rfl) ?_
  refine atm_nil ?_
  refine n_then ?_
  refine at_ret ?_
  exact at_res1 () rfl (rv_tmp rfl) .nil trivial (rfl)

set_option maxRecDepth 100000 in
theorem bstrE_spec (b r1 r2 : Nat) (p : Value) (c : Nat) : Spec Tryz.prog 28 [.pointer (some ⟨b, 2, none⟩)] [.obj b (.cells [.map (some r1), .map (some r2), p, .slice none 0 c].toArray 75)] [] (fun (_ : Unit) => .string (bs [])) (fun _ => []) (fun _ => []) := by
  have hT := show2T_ok
  refine spec_of Tryz.func28 rfl Tryz.ntmps28 rfl ?_
  intro β hM
  refine sr ?_
  refine sp hT ?_
  refine nn ?_
  refine at_seq ?_
  refine at_mix _ _ [(true, 0), (true, 1), (true, 2), (true, 3), (true, 4), (true, 5), (true, 6), (true, 7), (true, 8), (true, 9), (true, 10), (true, 11)] mixes (by decide +kernel) (.cons .head .nil) HasAll.self ?_
  refine atm_sti rfl rfl rfl rfl (sti_pure hT rfl) ?_
  refine atm_sti rfl rfl rfl rfl (sti_pure hT rfl) ?_
  refine atm_sti rfl rfl rfl rfl (sti_pure hT rfl) ?_
  refine atm_sti rfl rfl rfl rfl (ldO hT (knows_own (off := 3) .head)) ?_
  refine atm_sti rfl rfl rfl rfl (sti_sliceData rfl rfl (.inl rfl)) ?_
  refine atm_sti rfl rfl rfl rfl (sti_pure hT rfl) ?_
  refine atm_sti rfl rfl rfl rfl (sti_pure hT rfl) ?_
  refine atm_sti rfl rfl rfl rfl (sti_pure hT rfl) ?_
  refine atm_sti rfl rfl rfl rfl (ldO hT (knows_own (off := 3) .head)) ?_
  refine atm_sti rfl rfl rfl rfl (sti_pure hT rfl) ?_
  refine atm_sti rfl rfl rfl rfl (sti_noString rfl rfl rfl) ?_
  refine atm_sti rfl rfl rfl rfl (sti_pure hT rfl) ?_
  refine atm_nil ?_
  refine n_then ?_
  refine at_ret ?_
  exact at_res1 () rfl (rv_tmp rfl) .nil trivial (rfl)

set_option maxRecDepth 100000 in
theorem swrite_spec (P : ProgV) (hP : ProgOk P) (hl1 : P.inputs.list.length ≤ 140737488355328) (hl2 : P.lines.list.length ≤ 140737488355328) : Spec Tryz.prog 19 [.agg #[.slice P.inputs.addr P.inputs.list.length P.inputs.cap, .slice P.lines.addr P.lines.list.length P.lines.cap]] [] [globF, inputE.sl (.slice P.inputs.addr P.inputs.list.length P.inputs.cap) P.inputs.list, inputsF P.inputs.list, lineE.sl (.slice P.lines.addr P.lines.list.length P.lines.cap) P.lines.list, linesF P.lines.list] (fun (_ : Unit) => .tuple #[.string (bs (programS P.pr).1), .bool (programS P.pr).2]) (fun _ => []) (fun _ => []) := by
  have hT := show2T_ok
  refine spec_of Tryz.func19 rfl Tryz.ntmps19 rfl ?_
  intro β hM
  refine sr ?_
  refine at_box rfl rfl rfl rfl rfl rfl fun b1 => ?_
  refine sp2 hT ?_
  refine nn ?_
  refine sr ?_
  refine at_call (callFunc_enter Tryz.func26 rfl rfl) (texts_spec false) rfl rfl rfl rfl rfl .nil ⟨(Has.of mT0), trivial⟩ fun r2 => ?_
  refine at_call (callFunc_enter Tryz.func26 rfl rfl) (texts_spec true) rfl rfl rfl rfl rfl .nil ⟨(Has.of mT1), trivial⟩ fun r3 => ?_
  refine ss (sti_build rfl rfl (shower_built _ _)) ?_
  refine at_box rfl rfl rfl rfl rfl rfl fun b4 => ?_
  refine sp hT ?_
  refine nn ?_
  refine sr ?_
  refine sp hT ?_
  refine ss (ldN hT (knows_own (off := 0) kT1)) ?_
  refine at_nilrow' (t := 5) byteE ?_
  refine at_call (callFunc_enter Tryz.func27 rfl rfl) (sprogram_spec b4 r2 r3 P hP hl1 hl2) rfl rfl rfl rfl rfl (.cons kT1 (.cons .head .nil)) ⟨(Has.of mT1), (Has.of mT0), (Has.of mT2), (Has.of mT3), (Has.of mT4), (Has.of mT5), (Has.of mT6), trivial⟩ fun ⟨⟨G5, c6⟩, u7⟩ => ?_
  refine at_know (Has.of mT0) fun hemp => ?_
  dsimp only at hemp
  refine sp hT ?_
  refine nn ?_
  refine at_seq ?_
  rcases Decidable.em ((programS P.pr).1 = []) with h0 | h0
  · skip
    refine at_region ?_
    refine sp3 hT ?_
    have hg := hemp h0
    subst hg
    rw [h0]
    refine at_call (callFunc_enter Tryz.func28 rfl rfl) (bstrE_spec b4 r2 r3 (ptrV u7 b4) c6) rfl rfl rfl rfl rfl (.cons .head .nil) trivial fun _ => ?_
    refine sp3 hT ?_
    refine nn ?_
    refine at_ret ?_
    exact at_res2 () rfl (rv_tmp rfl) (rv_tmp rfl) .nil trivial (by first | rfl | rw [h0])
  skip
  refine at_region ?_
  refine sp3 hT ?_
  refine at_cap kT1 fun hcap => ?_
  refine at_rowg kT1 (List.length_pos_iff.2 h0) fun g hg => ?_
  subst hg
  refine at_call (callFunc_enter Tryz.func28 rfl rfl) (bstrN_spec b4 r2 r3 (ptrV u7 b4) g c6 (programS P.pr).1 h0 hcap) rfl rfl rfl rfl rfl (.cons .head (.cons .head .nil)) trivial fun _ => ?_
  refine sp3 hT ?_
  refine nn ?_
  refine at_ret ?_
  exact at_res2 () rfl (rv_tmp rfl) (rv_tmp rfl) .nil trivial (by first | rfl | rw [h0])

set_option maxRecDepth 100000 in
theorem sRight_spec (P : ProgV) (hP : ProgOk P) (hl1 : P.inputs.list.length ≤ 140737488355328) (hl2 : P.lines.list.length ≤ 140737488355328) : Spec Tryz.prog 11 [.agg #[.slice P.inputs.addr P.inputs.list.length P.inputs.cap, .slice P.lines.addr P.lines.list.length P.lines.cap]] [] [globF, inputE.sl (.slice P.inputs.addr P.inputs.list.length P.inputs.cap) P.inputs.list, inputsF P.inputs.list, lineE.sl (.slice P.lines.addr P.lines.list.length P.lines.cap) P.lines.list, linesF P.lines.list] (fun (_ : Unit) => .bool (programS P.pr).2) (fun _ => []) (fun _ => []) := by
  have hT := show2T_ok
  refine spec_of Tryz.func11 rfl Tryz.ntmps11 rfl ?_
  intro β hM
  refine sr ?_
  refine at_box rfl rfl rfl rfl rfl rfl fun b1 => ?_
  refine sp hT ?_
  refine nn ?_
  refine sr ?_
  refine ss (ldN hT (knows_own (off := 0) .head)) ?_
  refine at_call (callFunc_enter Tryz.func19 rfl rfl) (swrite_spec P hP hl1 hl2) rfl rfl rfl rfl rfl .nil ⟨Has.of mT0, Has.of mT1, Has.of mT2, Has.of mT3, Has.of mT4, trivial⟩ fun _ => ?_
  refine sp4 hT ?_
  refine sp hT ?_
  refine nn ?_
  refine sr ?_
  refine sp2 hT ?_
  refine nn ?_
  refine at_ret ?_
  exact at_res1 () rfl (rv_tmp rfl) .nil trivial (rfl)

set_option maxRecDepth 100000 in
theorem sShow_spec (P : ProgV) (hP : ProgOk P) (hl1 : P.inputs.list.length ≤ 140737488355328) (hl2 : P.lines.list.length ≤ 140737488355328) : Spec Tryz.prog 13 [.agg #[.slice P.inputs.addr P.inputs.list.length P.inputs.cap, .slice P.lines.addr P.lines.list.length P.lines.cap]] [] [globF, inputE.sl (.slice P.inputs.addr P.inputs.list.length P.inputs.cap) P.inputs.list, inputsF P.inputs.list, lineE.sl (.slice P.lines.addr P.lines.list.length P.lines.cap) P.lines.list, linesF P.lines.list] (fun (_ : Unit) => .tuple #[.string (bs (showP P.pr).1), .int .i64 (showP P.pr).2]) (fun _ => []) (fun _ => []) := by
  have hT := show2T_ok
  refine spec_of Tryz.func13 rfl Tryz.ntmps13 rfl ?_
  intro β hM
  refine sr ?_
  refine at_box rfl rfl rfl rfl rfl rfl fun b1 => ?_
  refine sp2 hT ?_
  refine nn ?_
  refine sr ?_
  refine ss (ldN hT (knows_own (off := 0) .head)) ?_
  refine at_call (callFunc_enter Tryz.func19 rfl rfl) (swrite_spec P hP hl1 hl2) rfl rfl rfl rfl rfl .nil ⟨Has.of mT0, Has.of mT1, Has.of mT2, Has.of mT3, Has.of mT4, trivial⟩ fun _ => ?_
  refine sp4 hT ?_
  refine sp hT ?_
  refine nn ?_
  refine at_seq ?_
  refine at_block ?_
  refine sr ?_
  refine sp3 hT ?_
  refine nn ?_
  refine at_cond rfl (fun hc11 => ?_) (fun hc11 => ?_)
  · have hc11 := not_t hc11
    refine sr ?_
    refine sp2 hT ?_
    refine nn ?_
    refine at_ret ?_
    refine r_block ?_
    refine r_then ?_
    exact at_res2 () rfl (rv_tmp rfl) (rv_tmp rfl) .nil trivial (by first | (rw [show showP P.pr = ([], 50) from if_pos (by assumption)]; first | done | rfl) | (rw [show showP P.pr = ([], 30) from (if_neg (by simp [*])).trans (if_pos (by omega))]; first | done | rfl) | (rw [show showP P.pr = ((programS P.pr).1, 0) from (if_neg (by simp [*])).trans (if_neg (by omega))]; first | done | rfl))
  have hc11 := not_f hc11
  refine sr ?_
  refine sp2 hT ?_
  refine at_int (z' := (((programS P.pr).1.length : Nat) : Int)) rfl ?_
  refine sp2 hT ?_
  refine nn ?_
  refine at_cond rfl (fun hc14 => ?_) (fun hc14 => ?_)
  · have hc14 := of_decide_eq_true hc14
    refine sr ?_
    refine sp2 hT ?_
    refine nn ?_
    refine at_ret ?_
    refine r_block ?_
    refine r_then ?_
    exact at_res2 () rfl (rv_tmp rfl) (rv_tmp rfl) .nil trivial (by first | (rw [show showP P.pr = ([], 50) from if_pos (by assumption)]; first | done | rfl) | (rw [show showP P.pr = ([], 30) from (if_neg (by simp [*])).trans (if_pos (by omega))]; first | done | rfl) | (rw [show showP P.pr = ((programS P.pr).1, 0) from (if_neg (by simp [*])).trans (if_neg (by omega))]; first | done | rfl))
  have hc14 := Int.not_lt.1 (of_decide_eq_false hc14)
  refine at_skip ?_
  refine n_block ?_
  refine n_then ?_
  refine sr ?_
  refine sp3 hT ?_
  refine nn ?_
  refine at_ret ?_
  exact at_res2 () rfl (rv_tmp rfl) (rv_tmp rfl) .nil trivial (by first | (rw [show showP P.pr = ([], 50) from if_pos (by assumption)]; first | done | rfl) | (rw [show showP P.pr = ([], 30) from (if_neg (by simp [*])).trans (if_pos (by omega))]; first | done | rfl) | (rw [show showP P.pr = ((programS P.pr).1, 0) from (if_neg (by simp [*])).trans (if_neg (by omega))]; first | done | rfl))

end Go.Proofs.YtngkedmndhmjcaaGreatDoor
/- What a row's list of variables gives: start-up's tables, in the engine's form; a world that holds them all (the witness). The argument of type Program. -/
namespace Go.Proofs.YtngkedmndhmjcaaGreatDoor
open Go.RowKit

abbrev laidList : List (String × DataW Unit) := Rows.showRightsRow.laid

/-! ### the tables -/
theorem tabIs_of_reads {P : Program} {W : World} {name : String} {k : IntKind} {zs : List Int} {g : Nat} {t e : TypeId} {n : Nat}
    (hg : P.globalNamed name = some g) (hty : (P.globals[g]?).map (·.type) = some t) (ht : P.underlying t = some (.array n e)) (he : P.underlying e = some (.int k)) (hce : P.cellsOf e = 1) (hct : P.cellsOf t = n)
    (h : Lib.VarReads P W name (Lib.tabData k zs)) : Lib.TabIs P W name k zs := by
  obtain ⟨g', t', cs, fuel, p, hg', ht', hvar, hd⟩ := h
  obtain rfl := Option.some.inj (hg.symm.trans hg')
  obtain rfl := Option.some.inj (hty.symm.trans ht')
  unfold Lib.TabIs
  rw [hvar, ← Lib.cells_of_tab ht he hce hct hd]
theorem var_lt {P : Program} {W : World} {name : String} {g : Nat} {cs : Array Value} (hg : P.globalNamed name = some g) (h : W.var? P name = some cs) : g < W.heap.size := by
  unfold World.var? at h
  rw [hg] at h
  simp only [Option.bind_some] at h
  cases hh : W.heap[g]? with
  | none => rw [hh] at h; cases h
  | some o => exact (Array.getElem?_eq_some_iff.1 hh).1
theorem cell_lt' {W : World} {g i : Nat} {v : Value} (h : W.cell? ⟨g, i, none⟩ = some v) : g < W.heap.size := by
  unfold World.cell? at h
  cases hh : W.heap[g]? with
  | none => rw [hh] at h; cases h
  | some o => exact (Array.getElem?_eq_some_iff.1 hh).1
set_option maxRecDepth 1000000 in
theorem globF_of {W : World} (hL : laidMetH Tryz.prog laidList W) (hsh : W.ShapedOpen Tryz.prog) : globF.p (fun b => b < W.heap.size) W := by
  have hL' : laidMet Tryz.prog laidList W := hL
  have h0 : Lib.TabIs Tryz.prog W "strings.asciiSpace" .u8 Lib.asciiSpaceTab := tabIs_of_reads (t := 112) (e := 5) (n := 256) named0 (by kernel_rfl) Tryz.underlying112 Tryz.underlying5 (by kernel_rfl) (by kernel_rfl)
    (Lib.laidMet.reads hL' (.tail _ (.tail _ (.tail _ (.tail _ (.tail _ (.tail _ (.tail _ (.head _)))))))))
  have h7 : Lib.TabIs Tryz.prog W "internal/strconv.uint64pow10" .u64 Lib.pow10Tab := tabIs_of_reads (t := 196) (e := 144) (n := 20) named7 (by kernel_rfl) Tryz.underlying196 Tryz.underlying144 (by kernel_rfl) (by kernel_rfl)
    (Lib.laidMet.reads hL' (.tail _ (.tail _ (.head _))))
  obtain ⟨m, h4⟩ := cell_of_shapedOpen_int (P := Tryz.prog) (g := 4) (t := 3) (zero := #[.int .i64 0]) hsh (of_decide_eq_true (by kernel_rfl)) (by kernel_rfl) rfl (by kernel_rfl) (by kernel_rfl) Tryz.underlying3
  obtain ⟨g', t', cs, fuel, p, hg', ht', hvar, hd⟩ := Lib.laidMet.reads hL' (n := "strconv.ErrRange") (.tail _ (.tail _ (.tail _ (.tail _ (.head _)))))
  have hnE : Tryz.prog.globalNamed "strconv.ErrRange" = some 3 := by kernel_rfl
  obtain rfl := Option.some.inj (hnE.symm.trans hg')
  obtain rfl : 107 = t' := Option.some.inj ((show (Tryz.prog.globals[3]?).map (·.type) = some 107 by kernel_rfl).symm.trans ht')
  obtain ⟨f', u, v, hcs, _, _⟩ := iface_of_trod Tryz.underlying107 hd
  have hcs' : cs = #[.iface u v] := by
    cases cs
    simp only at hcs
    rw [hcs]
  subst hcs'
  have h3 : W.cell? ⟨3, 0, none⟩ = some (.iface u v) := by simpa using World.var?_cell hnE hvar 0
  exact ⟨⟨var_lt named0 h0, var_lt named7 h7, cell_lt' h4, cell_lt' h3⟩, h0, h7, ⟨m, h4⟩, _, h3, .inr ⟨u, v, rfl⟩⟩

/-! ### the witness -/
def flat1 : DataW Unit → List Value
  | .lit (.int k n) => [.int k n]
  | _ => []
def flat2 : DataW Unit → List Value
  | .agg l => l.flatMap flat1
  | d => flat1 d
def flat3 : DataW Unit → Array Value
  | .agg l => (l.flatMap flat2).toArray
  | _ => #[]
def whiteNums : List Int := [9, 13, 1, 32, 133, 101, 160, 5760, 5600, 8192, 8202, 1, 8232, 8233, 1, 8239, 8287, 48, 12288, 12288, 1]
noncomputable def laidWorld (os : Os) : World :=
  let N := (World.settled Tryz.prog os).heap.size
  let w0 := World.holding Tryz.prog os ⟨#[.cells (whiteNums.map fun z => Value.int .u16 z).toArray 163, .cells #[.slice (some ⟨N, 0, none⟩) 7 7, .slice none 0 0, .int .i64 2] 160,
    .cells #[.string ⟨#[118, 97, 108, 117, 101, 32, 111, 117, 116, 32, 111, 102, 32, 114, 97, 110, 103, 101]⟩] 190, .cells #[.string ⟨#[105, 110, 118, 97, 108, 105, 100, 32, 115, 121, 110, 116, 97, 120]⟩] 190], #[], []⟩
  let put (h : Array Obj) (g : Nat) (cs : Array Value) : Array Obj := h.modify g fun
    | .cells _ t frozen => .cells cs t frozen
    | o => o
  let h1 := put w0.heap 8 (flat3 Rows.laid_math_bits_deBruijn32tab)
  let h2 := put h1 9 (flat3 Rows.laid_math_bits_deBruijn64tab)
  let h3 := put h2 7 (flat3 Rows.laid_internal_strconv_uint64pow10)
  let h4 := put h3 6 (flat3 Rows.laid_unicode_utf8_acceptRanges)
  let h5 := put h4 3 #[.iface 188 (.pointer (some ⟨N + 2, 0, none⟩))]
  let h6 := put h5 2 #[.iface 188 (.pointer (some ⟨N + 3, 0, none⟩))]
  let h7 := put h6 1 #[.pointer (some ⟨N + 1, 0, none⟩)]
  let h8 := put h7 0 (flat3 Rows.laid_strings_asciiSpace)
  let h9 := put h8 5 (flat3 Rows.laid_unicode_utf8_first)
  { w0 with heap := h9 }
noncomputable abbrev N0 : Nat := (World.settled Tryz.prog default).heap.size
set_option maxRecDepth 1000000 in
theorem piece0 (os : Os) (args : Array Value) : LaidIn Tryz.prog ((laidWorld os).forCall (fun _ _ => 0) ⟨#[], args, []⟩).memory [("math/bits.deBruijn32tab", Rows.laid_math_bits_deBruijn32tab)] [8] :=
  LaidIn.of_run [8] 10 (by kernel_rfl) (by kernel_rfl) (by kernel_rfl) (by kernel_rfl)
set_option maxRecDepth 1000000 in
theorem piece1 (os : Os) (args : Array Value) : LaidIn Tryz.prog ((laidWorld os).forCall (fun _ _ => 0) ⟨#[], args, []⟩).memory [("math/bits.deBruijn64tab", Rows.laid_math_bits_deBruijn64tab)] [9] :=
  LaidIn.of_run [9] 10 (by kernel_rfl) (by kernel_rfl) (by kernel_rfl) (by kernel_rfl)
set_option maxRecDepth 1000000 in
theorem piece2 (os : Os) (args : Array Value) : LaidIn Tryz.prog ((laidWorld os).forCall (fun _ _ => 0) ⟨#[], args, []⟩).memory [("internal/strconv.uint64pow10", Rows.laid_internal_strconv_uint64pow10)] [7] :=
  LaidIn.of_run [7] 10 (by kernel_rfl) (by kernel_rfl) (by kernel_rfl) (by kernel_rfl)
set_option maxRecDepth 1000000 in
theorem piece3 (os : Os) (args : Array Value) : LaidIn Tryz.prog ((laidWorld os).forCall (fun _ _ => 0) ⟨#[], args, []⟩).memory [("unicode/utf8.acceptRanges", Rows.laid_unicode_utf8_acceptRanges)] [6] :=
  LaidIn.of_run [6] 10 (by kernel_rfl) (by kernel_rfl) (by kernel_rfl) (by kernel_rfl)
set_option maxRecDepth 1000000 in
theorem piece4 (os : Os) (args : Array Value) : LaidIn Tryz.prog ((laidWorld os).forCall (fun _ _ => 0) ⟨#[], args, []⟩).memory [("strconv.ErrRange", Rows.laid_strconv_ErrRange)] [3, N0 + 2] :=
  LaidIn.of_run [3, N0 + 2] 10 (by kernel_rfl) (by kernel_rfl) (by kernel_rfl) (by kernel_rfl)
set_option maxRecDepth 1000000 in
theorem piece5 (os : Os) (args : Array Value) : LaidIn Tryz.prog ((laidWorld os).forCall (fun _ _ => 0) ⟨#[], args, []⟩).memory [("strconv.ErrSyntax", Rows.laid_strconv_ErrSyntax)] [2, N0 + 3] :=
  LaidIn.of_run [2, N0 + 3] 10 (by kernel_rfl) (by kernel_rfl) (by kernel_rfl) (by kernel_rfl)
set_option maxRecDepth 1000000 in
theorem piece6 (os : Os) (args : Array Value) : LaidIn Tryz.prog ((laidWorld os).forCall (fun _ _ => 0) ⟨#[], args, []⟩).memory [("unicode.White_Space", Rows.laid_unicode_White_Space)] [1, N0, N0 + 1] :=
  LaidIn.of_run [1, N0, N0 + 1] 10 (by kernel_rfl) (by kernel_rfl) (by kernel_rfl) (by kernel_rfl)
set_option maxRecDepth 1000000 in
theorem piece7 (os : Os) (args : Array Value) : LaidIn Tryz.prog ((laidWorld os).forCall (fun _ _ => 0) ⟨#[], args, []⟩).memory [("strings.asciiSpace", Rows.laid_strings_asciiSpace)] [0] :=
  LaidIn.of_run [0] 10 (by kernel_rfl) (by kernel_rfl) (by kernel_rfl) (by kernel_rfl)
set_option maxRecDepth 1000000 in
theorem piece8 (os : Os) (args : Array Value) : LaidIn Tryz.prog ((laidWorld os).forCall (fun _ _ => 0) ⟨#[], args, []⟩).memory [("unicode/utf8.first", Rows.laid_unicode_utf8_first)] [5] :=
  LaidIn.of_run [5] 10 (by kernel_rfl) (by kernel_rfl) (by kernel_rfl) (by kernel_rfl)
set_option maxRecDepth 1000000 in
theorem laid_met (os : Os) (args : Array Value) : laidMet Tryz.prog laidList ((laidWorld os).forCall (fun _ _ => 0) ⟨#[], args, []⟩).memory :=
  (((((((((piece0 os args).append (piece1 os args) (by kernel_rfl)).append (piece2 os args) (by kernel_rfl)).append (piece3 os args) (by kernel_rfl)).append (piece4 os args) (by kernel_rfl)).append (piece5 os args) (by kernel_rfl)).append (piece6 os args) (by kernel_rfl)).append (piece7 os args) (by kernel_rfl)).append (piece8 os args) (by kernel_rfl)).met

/-! ### the argument -/
theorem wf_i64 {z : Int} (h : (Lit.int .i64 z).wf = true) : -9223372036854775808 ≤ z ∧ z ≤ 9223372036854775807 := by
  simp [Lit.wf, IntKind.min, IntKind.max, IntKind.bits, IntKind.signed] at h
  omega
theorem prog_of {a : ProgV} {S : Nat → Prop} {w : World} (h : (progTy.deep a).p S w) :
    ((inputE.sl (.slice a.inputs.addr a.inputs.list.length a.inputs.cap) a.inputs.list).p S w ∧ (inputsF a.inputs.list).p S w ∧ (lineE.sl (.slice a.lines.addr a.lines.list.length a.lines.cap) a.lines.list).p S w ∧ (linesF a.lines.list).p S w) ∧
      ProgOk a ∧ a.inputs.list.length ≤ 140737488355328 ∧ a.lines.list.length ≤ 140737488355328 := by
  obtain ⟨⟨⟨i1, i2⟩, i3⟩, ⟨⟨l1, l2⟩, l3⟩, _⟩ := h
  have i2 : ∀ x ∈ a.inputs.list, (inputTy.deep x).p S w := i2
  have l2 : ∀ x ∈ a.lines.list, (lineTy.deep x).p S w := l2
  have i3 : a.inputs.list.length * 48 ≤ 140737488355328 := i3
  have l3 : a.lines.list.length * 48 ≤ 140737488355328 := l3
  refine ⟨⟨i1, fun x hx => ?_, l1, fun x hx => ?_⟩, ⟨fun x hx => ?_, fun x hx => ?_⟩, by omega, by omega⟩
  · exact (i2 x hx).2.2.1.1.1
  · exact ⟨(l2 x hx).2.2.1.1.1, fun y hy => by
      have := (l2 x hx).2.2.1.1.2 y hy
      exact this.2.2.2.2.1.1.1⟩
  · refine ⟨(i2 x hx).1, fun d hd => ?_⟩
    have := (i2 x hx).2.2.1.1.2 d hd
    exact ⟨this.1, wf_i64 this.2.1⟩
  · refine ⟨(l2 x hx).1, fun it hit => ?_⟩
    have := (l2 x hx).2.2.1.1.2 it hit
    refine ⟨this.2.2.2.1, fun z hz => ?_⟩
    exact wf_i64 (this.2.2.2.2.1.1.2 z hz)
end Go.Proofs.YtngkedmndhmjcaaGreatDoor
/- The laws' own check at constants: what is shown of a document that is given. (Printed by wip/gen/ref8.py.) -/
namespace Go.Proofs.YtngkedmndhmjcaaGreatDoor
open Go.RowKit

def text5 : Bs := [111, 117, 116, 32, 40, 40, 49, 41, 43, 40, 120, 42, 50, 41, 41, 109, 105, 110, 46, 40, 51, 41]
def back5 : Bs := [111, 117, 116, 32, 40, 49, 32, 43, 32, 120, 32, 42, 32, 50, 41, 32, 109, 105, 110, 46, 32, 51, 10]
def prog5 : Prog := (parseP text5).1
theorem parse5 : (parseP text5).2 = (0, 0) := by decide +kernel
theorem show5 : showP prog5 = (back5, 0) := by decide +kernel
theorem right5 : (programS prog5).2 = true := by decide +kernel
theorem show0 : showP ⟨[], []⟩ = ([], 50) := by decide +kernel
def okB (p : Prog) : Bool :=
  (p.inputs.all fun x => decide (x.name.length ≤ 140737488355328) && x.sides.all fun d => decide (d.name.length ≤ 140737488355328 ∧ -9223372036854775808 ≤ d.n ∧ d.n ≤ 9223372036854775807)) &&
  (p.lines.all fun x => decide (x.name.length ≤ 140737488355328) && x.items.all fun it => decide (it.name.length ≤ 140737488355328) && it.nums.all fun z => decide (-9223372036854775808 ≤ z ∧ z ≤ 9223372036854775807)) &&
  decide (p.inputs.length ≤ 140737488355328 ∧ p.lines.length ≤ 140737488355328)
theorem ok5 : okB prog5 = true := by decide +kernel
theorem ok_of {x : ProgV} (h : okB x.pr = true) : ProgOk x ∧ x.inputs.list.length ≤ 140737488355328 ∧ x.lines.list.length ≤ 140737488355328 := by
  unfold okB at h
  simp only [Bool.and_eq_true, List.all_eq_true, decide_eq_true_eq] at h
  obtain ⟨⟨h1, h2⟩, h3, h4⟩ := h
  refine ⟨⟨fun y hy => ?_, fun y hy => ?_⟩, by have : x.pr.inputs.length = x.inputs.list.length := List.length_map _; omega, by have : x.pr.lines.length = x.lines.list.length := List.length_map _; omega⟩
  · obtain ⟨a, b⟩ := h1 y.inp (List.mem_map.2 ⟨y, hy, rfl⟩)
    exact ⟨a, fun d hd => b d.sd (List.mem_map.2 ⟨d, hd, rfl⟩)⟩
  · obtain ⟨a, b⟩ := h2 y.ln (List.mem_map.2 ⟨y, hy, rfl⟩)
    exact ⟨a, fun d hd => b d.it (List.mem_map.2 ⟨d, hd, rfl⟩)⟩
theorem parse5_spec : Spec Tryz.prog 15 [.string (bs text5)] [] [globF] (fun (x : ProgV) => .tuple #[.agg #[.slice x.inputs.addr x.inputs.list.length x.inputs.cap, .slice x.lines.addr x.lines.list.length x.lines.cap], .agg #[.int .i64 0, .int .i64 0]]) (fun _ => []) (fun (x : ProgV) => [progFct x, Fact.pure (x.pr = prog5)]) := by
  have h := Parse_spec text5 (by decide)
  rw [parse5] at h
  exact h
def emptyV : ProgV := ⟨⟨none, 0, []⟩, ⟨none, 0, []⟩⟩
theorem empty_ok : ProgOk emptyV := ⟨fun x hx => by simp [emptyV] at hx, fun x hx => by simp [emptyV] at hx⟩
theorem empty_spec : Spec Tryz.prog 13 [.agg #[.slice none 0 0, .slice none 0 0]] [] [globF] (fun _ : Unit => .tuple #[.string (bs []), .int .i64 50]) (fun _ => []) (fun _ => []) := by
  have h := sShow_spec emptyV empty_ok (by decide) (by decide)
  rw [show emptyV.pr = ⟨[], []⟩ from rfl, show0] at h
  refine fun S w s k => h S w s (All.cons (k _ mT0) (All.cons ?_ (All.cons ?_ (All.cons ?_ (All.cons ?_ fun g hg => by simp at hg)))))
  · exact ⟨none, 0, rfl, fun k x hk => by simp [emptyV] at hk⟩
  · exact fun x hx => by simp [emptyV] at hx
  · exact ⟨none, 0, rfl, fun k x hk => by simp [emptyV] at hk⟩
  exact fun x hx => by simp [emptyV] at hx
theorem qshown5_zero_api_Program : (Tryz.prog.info? 25).bind (·.zero) = some (.agg #[.slice none 0 0, .slice none 0 0]) := by kernel_rfl
theorem qshown5_zero_api_Fault : (Tryz.prog.info? 32).bind (·.zero) = some (.agg #[.int .i64 0, .int .i64 0]) := by kernel_rfl
theorem qshown5_built_api_Program_  : Tryz.prog.built 25 [] = some #[.slice none 0 0, .slice none 0 0] := by kernel_rfl
theorem qshown5_built_api_Fault_  : Tryz.prog.built 32 [] = some #[.int .i64 0, .int .i64 0] := by kernel_rfl

set_option maxRecDepth 100000 in
theorem shown5_spec  : Spec Tryz.prog 10 [] [] [globF] (fun (_ : Unit) => .bool true) (fun _ => []) (fun _ => []) := by
  have hT := show2T_ok
  refine spec_of Tryz.func10 rfl Tryz.ntmps10 rfl ?_
  intro β hM
  refine sr ?_
  refine sp hT ?_
  refine nn ?_
  refine sr ?_
  refine at_call (callFunc_enter Tryz.func15 rfl rfl) parse5_spec rfl rfl rfl rfl rfl .nil ⟨(Has.of mT0), trivial⟩ fun X1 => ?_
  refine at_know (Has.of mT1) fun hpr => ?_
  obtain ⟨hok, hl1, hl2⟩ := ok_of (x := X1) (by rw [hpr]; exact ok5)
  refine at_fact (inputE.sl (.slice X1.inputs.addr X1.inputs.list.length X1.inputs.cap) X1.inputs.list) (Has.left (Has.left (Has.of mT0))) ?_
  refine at_fact (inputsF X1.inputs.list) (Has.right (Has.left (Has.of mT1))) ?_
  refine at_fact (lineE.sl (.slice X1.lines.addr X1.lines.list.length X1.lines.cap) X1.lines.list) (Has.left (Has.right (Has.of mT2))) ?_
  refine at_fact (linesF X1.lines.list) (Has.right (Has.right (Has.of mT3))) ?_
  refine sp3 hT ?_
  refine at_alloc rfl rfl rfl rfl qshown5_zero_api_Program rfl fun b2 => ?_
  refine at_alloc rfl rfl rfl rfl qshown5_zero_api_Fault rfl fun b3 => ?_
  refine sto hT kT1 ?_
  refine sto hT kT1 ?_
  refine nn ?_
  refine sr ?_
  refine ss (ldN hT (knows_own (off := 0) kT1)) ?_
  refine at_call (callFunc_enter Tryz.func13 rfl rfl) (sShow_spec X1 hok hl1 hl2) rfl rfl rfl rfl rfl .nil ⟨(Has.of mT6), (Has.of mT3), (Has.of mT2), (Has.of mT1), (Has.of mT0), trivial⟩ fun _ => ?_
  refine at_val (v' := .tuple #[.string (bs back5), .int .i64 0]) (by rw [hpr, show5]) ?_
  refine sp4 hT ?_
  refine sp hT ?_
  refine nn ?_
  refine sr ?_
  refine ss (sti_build rfl rfl (qshown5_built_api_Program_)) ?_
  refine at_call (callFunc_enter Tryz.func13 rfl rfl) empty_spec rfl rfl rfl rfl rfl .nil ⟨(Has.of mT6), trivial⟩ fun _ => ?_
  refine sp4 hT ?_
  refine sp hT ?_
  refine nn ?_
  refine sr ?_
  refine ss (ldN hT (knows_own (off := 0) .head)) ?_
  refine ss (sti_build rfl rfl (qshown5_built_api_Fault_)) ?_
  refine ss (sti_eql_flt ⟨0, 0⟩ ⟨0, 0⟩ rfl rfl rfl) ?_
  refine at_bool (t' := true) (by rfl) ?_
  refine sp3 hT ?_
  refine at_bool (t' := true) (by decide) ?_
  refine sp4 hT ?_
  refine at_bool (t' := true) (by decide) ?_
  refine sp4 hT ?_
  refine at_bool (t' := true) (by decide) ?_
  refine sp2 hT ?_
  refine ss (ldN hT (knows_own (off := 0) kT1)) ?_
  refine at_call (callFunc_enter Tryz.func11 rfl rfl) (sRight_spec X1 hok hl1 hl2) rfl rfl rfl rfl rfl .nil ⟨(Has.of mT6), (Has.of mT3), (Has.of mT2), (Has.of mT1), (Has.of mT0), trivial⟩ fun _ => ?_
  refine at_bool (t' := true) (by rw [hpr, right5]) ?_
  refine sp2 hT ?_
  refine nn ?_
  refine at_ret ?_
  exact at_res1 () rfl (rv_tmp rfl) .nil trivial (rfl)

end Go.Proofs.YtngkedmndhmjcaaGreatDoor
/- From a walk to a statement, for any law that returns true and only makes memory (no function of the program named). -/
namespace Go.Proofs.YtngkedmndhmjcaaGreatDoor
open Go.RowKit Go.ChangeShapes Go.WideShapes

section
variable {H : Type} {enc : TypeId × Value → H} {P : Program}

/-- what was read of the arguments is read of them behind a call that only makes memory -/
theorem trodAll_later (hl : laidOutB P = true) {W W' : World} (hb : Below W.heap.size W W') : ∀ {ts : List TypeId} {vs : List Value} {ds : List (DataW H)} {ps : List MemPlace},
    (∀ t ∈ ts, P.readableRec t = true ∧ t < P.types.size) → (∀ x ∈ ps, x.block < W.heap.size) → DataW.TrodAll enc P W 0 (fun _ => true) true ts vs ds ps →
    DataW.TrodAll enc P W' 0 (fun b => decide (b < W.heap.size)) true ts vs ds ps
  | [], _, _, _, _, _, h => by
    obtain ⟨rfl, rfl, rfl⟩ := trodAll_nil h
    exact trodAll_mk0
  | t :: ts, _, _, _, ht, hlt, h => by
    obtain ⟨v, vs, d, ds, p, q, rfl, rfl, rfl, h1, h2⟩ := trodAll_cons h
    have hr := ht t (by simp)
    exact trodAll_cons_mk (Below.trod hl hr.1 hr.2 h1 hb (fun x hx => hlt x (by simp [hx]))) (trodAll_later hl hb (fun t h => ht t (by simp [h])) (fun x hx => hlt x (by simp [hx])) h2)

theorem law_post {f : Func} {s : ChangeSpec} {W W' : World} {args : Array Value} {ds : List (DataW H)} {before : List MemPlace} {tb : TypeId}
    (hW : DataW.Whole enc P f.params.toList s.vars false W args.toList ds [] before) (hv : s.vars = []) (hfn : s.fn H (ds ++ []) = { results := [.lit (.bool true)], args := ds })
    (hr : f.resultTypes = #[tb]) (hb : P.underlying tb = some .bool) (hl : laidOutB P = true) (hread : ∀ t ∈ f.params.toList, P.readableRec t = true ∧ t < P.types.size) (h : Below W.heap.size W W') :
    s.post enc P f false true false false W args (.bool true) W' := by
  have hlt : ∀ p ∈ before, p.block < W.heap.size := fun p hp => hW.lt p hp
  have hW' := hW
  obtain ⟨p, q, hA, hV, rfl, _, _⟩ := hW
  rw [hv] at hV
  have hq : q = [] := hV
  subst hq
  refine ⟨ds, [], _, [], p, [], hW', ?_, ?_, ?_, ?_, fun h => by cases h⟩
  · rw [hfn, hr]
    exact trodAll_mk1 (shut_bool hb true)
  · rw [hfn]
    exact trodAll_later hl h hread (fun x hx => hlt x (by simp [hx])) hA
  · rw [hfn, hv]
    rfl
  · exact h.frame _
end

/-- from the engine to a walk -/
theorem calls_of_spec {ι : Type} {f : FuncId} {args : List Value} {Pre : List Fact} {v : Value} (h : Spec Tryz.prog f args [] Pre (fun _ : ι => v) (fun _ => []) (fun _ => [])) {w : World} (hp : All Pre (fun b => b < w.heap.size) w) :
    Calls Tryz.prog f args.toArray w fun e w' => e = .returned v ∧ Below w.heap.size w w' := by
  refine (h (fun b => b < w.heap.size) w ⟨Kept.refl _ _, fun c hc => by simp at hc, fun c hc => by simp at hc, List.Pairwise.nil, fun b hb => ⟨hb, .inl hb⟩⟩ hp).mono ?_
  rintro e w' ⟨_, _, rfl, s, _⟩
  refine ⟨rfl, s.kept.os, s.kept.tape, s.kept.output, s.kept.size, fun k hk => s.kept.block k hk fun ⟨c, hc, _⟩ => by simp at hc⟩

theorem own : ownKnob Tryz.prog.godebug = none := by kernel_rfl
theorem laid : laidOutB Tryz.prog = true := by kernel_rfl
end Go.Proofs.YtngkedmndhmjcaaGreatDoor
/- Plain: how what show writes is lexed (no program in sight). -/
namespace Go.Proofs.YtngkedmndhmjcaaGreatDoor
open Go.RowKit

/-- a token, its place apart -/
structure Tk where
  kind : Int
  word : Bs
  n : Int
  deriving Inhabited, DecidableEq
def TokV.tk (t : TokV) : Tk := ⟨t.kind, t.word, t.n⟩
/-- s, ahead of rest, is lexed as T -/
def Lx (s : Bs) (T : List Tk) (rest : Bs) : Prop := ∀ i out, ∃ L : List Tok, L.map TokV.tk = T ∧ lexGo (s ++ rest).length i (s ++ rest) out = lexGo rest.length (i + s.length) rest (out ++ L)
section
variable {a b s rest : Bs} {A B : List Tk}
theorem Lx.nil : Lx [] [] rest := fun i out => ⟨[], rfl, by simp⟩
theorem Lx.append (h : Lx a A (b ++ rest)) (k : Lx b B rest) : Lx (a ++ b) (A ++ B) rest := fun i out => by
  obtain ⟨L, hL, e⟩ := h i out
  obtain ⟨M, hM, e'⟩ := k (i + a.length) (out ++ L)
  exact ⟨L ++ M, by simp [hL, hM], by rw [List.append_assoc, e, e', List.length_append, Nat.add_assoc, List.append_assoc]⟩
theorem Lx.blank : Lx [32] [] rest := fun i out => ⟨[], rfl, by
  show lexGo (32 :: rest).length i (32 :: rest) out = _
  rw [lexGo_step, if_pos (by decide), List.append_nil]
  rfl⟩
theorem Lx.tok {k v : Int} {wd : Bs} {b : UInt8} (h : tokenP ((b :: s) ++ rest) = .ok (k, wd, v, (b :: s).length)) (hb : blankB b = false) (h35 : (b == 35) = false) : Lx (b :: s) [⟨k, wd, v⟩] rest := fun i out =>
  ⟨[⟨k, i, wd, v⟩], rfl, by
    rw [List.cons_append, lexGo_step, hb, if_neg (by simp), h35, if_neg (by simp)]
    rw [List.cons_append] at h
    rw [h]
    simp only
    have e : (b :: (s ++ rest)).drop (b :: s).length = rest := by rw [← List.cons_append, List.drop_left]
    rw [e]⟩
end
theorem runB_app {p : UInt8 → Bool} {c : UInt8} {r : Bs} (hc : p c = false) : ∀ s : Bs, (∀ b ∈ s, p b = true) → runB p (s ++ c :: r) = s.length
  | [], _ => by simp [runB, hc]
  | b :: s, h => by
    rw [List.cons_append, runB, if_pos (h b (by simp)), runB_app hc s fun x hx => h x (by simp [hx])]
    rfl
theorem runB_every {p : UInt8 → Bool} : ∀ {s : Bs}, runB p s = s.length → ∀ b ∈ s, p b = true
  | [], _, b, hb => by simp at hb
  | c :: s, h, b, hb => by
    rw [runB] at h
    split at h
    · rename_i hc
      rcases List.mem_cons.1 hb with rfl | hb
      · exact hc
      · exact runB_every (by simpa using h) b hb
    · simp at h
/-- a word -/
structure WordB (s : Bs) : Prop where
  head : ∃ b r, s = b :: r ∧ letterB b = true
  all : ∀ b ∈ s, wordB b = true
  len : s.length ≤ 16
theorem letter_facts {b : UInt8} (h : letterB b = true) : blankB b = false ∧ (b == 35) = false ∧ (b == 10) = false := by
  have key : ∀ k : Fin 256, letterB (UInt8.ofNat k.val) = true → blankB (UInt8.ofNat k.val) = false ∧ (UInt8.ofNat k.val == 35) = false ∧ (UInt8.ofNat k.val == 10) = false := by decide +kernel
  have hb : UInt8.ofNat b.toNat = b := by simp
  have := key ⟨b.toNat, b.toNat_lt⟩
  rw [hb] at this
  exact this h
theorem word_lx {s r : Bs} {c : UInt8} (h : WordB s) (hc : wordB c = false) : Lx s [⟨1, s, 0⟩] (c :: r) := by
  obtain ⟨b, t, rfl, hl⟩ := h.head
  obtain ⟨h1, h2, h3⟩ := letter_facts hl
  refine Lx.tok ?_ h1 h2
  have hr : runB wordB (b :: (t ++ c :: r)) = (b :: t).length := runB_app hc (b :: t) h.all
  have := h.len
  simp only [List.cons_append, tokenP, h3, Bool.false_eq_true, if_false, hl, if_true, hr]
  rw [if_neg (by omega), ← List.cons_append, List.take_left]
theorem spell_lx {n : Int} {r : Bs} {c : UInt8} (h0 : -9223372036854775808 ≤ n) (h1 : n ≤ 9223372036854775807) (hc : digitB c = false) : Lx (spellN n) [⟨2, [], n⟩] (c :: r) := by
  have hd := decDigits_all n.natAbs
  have hv := decV_digits n.natAbs
  have hne := decDigits_ne n.natAbs
  have hr : runB digitB (Lib.decDigits n.natAbs ++ c :: r) = (Lib.decDigits n.natAbs).length := runB_app hc _ hd
  have hk : ¬ (Lib.decDigits n.natAbs).length = 0 := fun e => hne (List.eq_nil_of_length_eq_zero e)
  unfold spellN
  split
  · rename_i hn
    refine Lx.tok (b := 95) (s := Lib.decDigits n.natAbs) ?_ (by decide) (by decide)
    have hp : numP true (Lib.decDigits n.natAbs) = some n := by
      unfold numP
      rw [hv, if_pos rfl, if_pos (by omega)]
      congr 1
      omega
    have e1 : ((95 : UInt8) == 10) = false := by decide
    have e2 : letterB 95 = false := by decide
    have e3 : ((95 : UInt8) == 95) = true := by decide
    simp only [List.cons_append, tokenP, e1, e2, Bool.false_eq_true, if_false, numTok, e3, if_true, hr, hk, List.take_left, hp]
    rfl
  · rename_i hn
    rw [List.nil_append]
    obtain ⟨b, t, ht⟩ : ∃ b t, Lib.decDigits n.natAbs = b :: t := by
      cases h : Lib.decDigits n.natAbs with
      | nil => exact absurd h hne
      | cons b t => exact ⟨b, t, rfl⟩
    rw [ht] at hd hr hv hk ⊢
    have hb := digit_facts (hd b (by simp))
    have e3 : (b == 95) = false := by simp [hb.2.2.1]
    have e1 : (b == 10) = false := by simp [hb.1]
    have hp : numP false (b :: t) = some n := by
      unfold numP
      rw [hv]
      simp only [Bool.false_eq_true, if_false]
      rw [if_pos (by omega)]
      congr 1
      omega
    refine Lx.tok ?_ hb.2.2.2.2.2.1 (by simp [hb.2.2.2.2.1])
    rw [List.cons_append] at hr
    simp only [List.cons_append, tokenP, e1, Bool.false_eq_true, if_false, hb.2.1, numTok, e3, hr, hk]
    rw [← List.cons_append, List.take_left, hp]
    simp
/-- the token of a verb -/
def kindW : Bs → Int
  | [] => 3
  | b :: _ => if letterB b then 1 else 3
theorem verb_tok : ∀ w ∈ verbWords, ∀ c ∈ ([32, 47, 92, 46] : Bs), ∀ r : Bs, tokenP (w ++ c :: r) = .ok (kindW w, w, 0, w.length) := by
  intro w hw c hc r
  simp only [verbWords, List.mem_cons, List.not_mem_nil, or_false] at hw hc
  rcases hw with rfl | rfl | rfl | rfl | rfl | rfl | rfl | rfl | rfl | rfl | rfl | rfl | rfl | rfl | rfl | rfl | rfl | rfl | rfl | rfl | rfl | rfl | rfl | rfl | rfl <;> rcases hc with rfl | rfl | rfl | rfl <;> rfl
theorem verb_head : ∀ w ∈ verbWords, ∃ b r, w = b :: r ∧ blankB b = false ∧ (b == 35) = false := by
  intro w hw
  simp only [verbWords, List.mem_cons, List.not_mem_nil, or_false] at hw
  rcases hw with rfl | rfl | rfl | rfl | rfl | rfl | rfl | rfl | rfl | rfl | rfl | rfl | rfl | rfl | rfl | rfl | rfl | rfl | rfl | rfl | rfl | rfl | rfl | rfl | rfl <;> exact ⟨_, _, rfl, by decide, by decide⟩
theorem verb_lx {w : Bs} (hw : w ∈ verbWords) {c : UInt8} (hc : c ∈ ([32, 47, 92, 46] : Bs)) {r : Bs} : Lx w [⟨kindW w, w, 0⟩] (c :: r) := by
  obtain ⟨b, t, rfl, h1, h2⟩ := verb_head w hw
  exact Lx.tok (verb_tok _ hw c hc r) h1 h2
theorem sign_lx {c : UInt8} (hc : c ∈ ([47, 92, 46, 40, 41, 58] : Bs)) {r : Bs} : Lx [c] [⟨3, [c], 0⟩] r := by
  simp only [List.mem_cons, List.not_mem_nil, or_false] at hc
  rcases hc with rfl | rfl | rfl | rfl | rfl | rfl <;> exact Lx.tok rfl (by decide) (by decide)
theorem nl_lx {r : Bs} : Lx [10] [⟨4, [], 0⟩] r := Lx.tok rfl (by decide) (by decide)

/-! ### names are words -/
theorem numTok_kind {b : UInt8} {r : Bs} {t : TokR} (h : numTok b r = .ok (some t)) : t.1 = 2 ∧ t.2.1 = [] := by
  unfold numTok at h
  dsimp only at h
  by_cases hb : (b == 95) = true
  · simp only [hb, if_true] at h
    split at h
    · cases h
    · split at h
      · cases h
      · simp only [Except.ok.injEq, Option.some.injEq] at h
        subst h
        exact ⟨rfl, rfl⟩
  · simp only [hb, Bool.false_eq_true, if_false] at h
    split at h
    · cases h
    · split at h
      · cases h
      · simp only [Except.ok.injEq, Option.some.injEq] at h
        subst h
        exact ⟨rfl, rfl⟩
/-- what a token is -/
structure TokIs (k : Int) (wd : Bs) (v : Int) (s : Bs) : Prop where
  len : wd.length ≤ s.length
  num : k = 2 → wd = []
  word : k = 1 → v = 0
  spell : k = 1 → wd = s → WordB s
theorem take_len (n : Nat) (s : Bs) : (s.take n).length ≤ s.length := by simp; omega
theorem tokenP_is {s : Bs} {k v : Int} {wd : Bs} {m : Nat} (h : tokenP s = .ok (k, wd, v, m)) : TokIs k wd v s := by
  cases s with
  | nil => cases h
  | cons b r =>
    simp only [tokenP] at h
    split at h
    · cases h
      exact ⟨by simp, fun h => absurd h (by decide), fun h => absurd h (by decide), fun h => absurd h (by decide)⟩
    · split at h
      · rename_i hl
        split at h
        · cases h
        · cases h
          rename_i h16
          refine ⟨take_len _ _, fun h => absurd h (by decide), fun _ => rfl, fun _ e => ?_⟩
          have hr := runB_le wordB (b :: r)
          have he : runB wordB (b :: r) = (b :: r).length := by
            have := congrArg List.length e
            rw [List.length_take] at this
            omega
          exact ⟨⟨b, r, rfl, hl⟩, runB_every he, by omega⟩
      · split at h
        · cases h
        · rename_i t' ht
          simp only [Except.ok.injEq] at h
          subst h
          obtain ⟨h1, h2⟩ := numTok_kind ht
          simp only at h1 h2
          subst h1
          subst h2
          exact ⟨by simp, fun _ => rfl, fun h => absurd h (by decide), fun h => absurd h (by decide)⟩
        · split at h
          · cases h
          · cases h
            exact ⟨take_len _ _, fun h => absurd h (by decide), fun h => absurd h (by decide), fun h => absurd h (by decide)⟩
theorem lexGo_grows : ∀ (f i : Nat) (s : Bs) (out : List Tok), isOk (lexGo f i s out).2 = true → ∃ L, (lexGo f i s out).1 = out ++ L ∧ ∀ t ∈ L, t.word.length ≤ s.length
  | 0, _, _, out, _ => ⟨[], by simp [lexGo], by simp⟩
  | _ + 1, _, [], out, _ => ⟨[], by simp [lexGo], by simp⟩
  | f + 1, i, b :: r, out, h => by
    unfold lexGo at h ⊢
    split at h
    · rename_i hb
      rw [if_pos hb]
      obtain ⟨L, h1, h2⟩ := lexGo_grows f _ _ _ h
      exact ⟨L, h1, fun t ht => by have := h2 t ht; simp; omega⟩
    · rename_i hb
      rw [if_neg hb]
      split at h
      · rename_i h35
        rw [if_pos h35]
        obtain ⟨L, h1, h2⟩ := lexGo_grows f _ _ _ h
        exact ⟨L, h1, fun t ht => by have := h2 t ht; rw [List.length_drop] at this; omega⟩
      · rename_i h35
        rw [if_neg h35]
        split at h
        · rename_i e he
          exact absurd h (by
            have := tok_code he
            simp [isOk, fltEq, this])
        · rename_i k wd v m ht
          obtain ⟨L, h1, h2⟩ := lexGo_grows f _ _ _ h
          refine ⟨⟨k, i, wd, v⟩ :: L, by rw [h1]; simp, fun t hm => ?_⟩
          rcases List.mem_cons.1 hm with rfl | hm
          · exact (tokenP_is ht).len
          · have := h2 t hm
            rw [List.length_drop] at this
            omega
theorem name_word {s : Bs} (h : nameB s = true) : WordB s := by
  simp only [nameB, lexOne, Bool.and_eq_true] at h
  obtain ⟨_, _, _, hf, hm⟩ := h
  have hok : isOk (lexP s).2 = true := hf
  unfold lexP at hok hm
  by_cases hlen : 65536 < s.length
  · rw [if_pos hlen] at hok
    exact absurd hok (by decide)
  · rw [if_neg hlen] at hok hm
    cases s with
    | nil => simp [lexGo] at hm
    | cons b r =>
      rw [lexGo_step] at hok hm
      by_cases hb : blankB b = true
      · rw [if_pos hb] at hok hm
        obtain ⟨L, h1, h2⟩ := lexGo_grows _ _ _ _ hok
        rw [h1] at hm
        match L, hm, h2 with
        | [t], hm, h2 =>
          simp only [List.nil_append, Bool.and_eq_true, beq_iff_eq] at hm
          have := h2 t (by simp)
          rw [hm.2] at this
          simp at this
          omega
      · rw [if_neg hb] at hok hm
        by_cases h35 : (b == 35) = true
        · rw [if_pos h35] at hok hm
          have hp : 1 ≤ runB (· != 10) (b :: r) := runB_pos (note_pos h35)
          obtain ⟨L, h1, h2⟩ := lexGo_grows _ _ _ _ hok
          rw [h1] at hm
          match L, hm, h2 with
          | [t], hm, h2 =>
            simp only [List.nil_append, Bool.and_eq_true, beq_iff_eq] at hm
            have := h2 t (by simp)
            rw [hm.2, List.length_drop] at this
            simp at this
            omega
        · rw [if_neg h35] at hok hm
          cases ht : tokenP (b :: r) with
          | error e =>
            rw [ht] at hm
            simp at hm
          | ok q =>
            obtain ⟨k, wd, v, m⟩ := q
            rw [ht] at hok hm
            simp only at hok hm
            obtain ⟨L, h1, h2⟩ := lexGo_grows _ _ _ _ hok
            rw [h1] at hm
            have hw : k = 1 ∧ wd = b :: r := by
              cases L with
              | nil => simpa using hm
              | cons t L => simp at hm
            obtain ⟨rfl, rfl⟩ := hw
            exact (tokenP_is ht).spell rfl rfl
end Go.Proofs.YtngkedmndhmjcaaGreatDoor
/- Plain: what show writes of an expression is read as it (no program in sight). -/
namespace Go.Proofs.YtngkedmndhmjcaaGreatDoor
open Go.RowKit

def Item.un (x : Item) : Item := ⟨x.how, 0, x.fn, x.name, x.nums⟩
def unAll (l : List Item) : List Item := l.map Item.un
theorem unAll_append (a b : List Item) : unAll (a ++ b) = unAll a ++ unAll b := List.map_append
def OpenT : Tk := ⟨3, [40], 0⟩
def CloseT : Tk := ⟨3, [41], 0⟩
/-- tokens from place k on -/
def From (toks : List TokV) (k : Nat) (T : List Tk) : Prop := k ≤ toks.length ∧ (toks.drop k).map TokV.tk = T
section
variable {toks : List TokV} {k : Nat} {t : Tk} {T R : List Tk}
theorem From.lt (h : From toks k (t :: T)) : k < toks.length := by
  rcases Nat.lt_or_ge k toks.length with h' | h'
  · exact h'
  · rw [From, List.drop_of_length_le h'] at h
    simp at h
theorem From.peek (h : From toks k (t :: T)) : (peekP toks k).tk = t := by
  have hk := h.lt
  rw [peekP_some (List.getElem?_eq_getElem hk)]
  have := h.2
  rw [List.drop_eq_getElem_cons hk] at this
  exact (List.cons.inj this).1
theorem From.next (h : From toks k (t :: T)) : From toks (k + 1) T := by
  have hk := h.lt
  have := h.2
  rw [List.drop_eq_getElem_cons hk] at this
  exact ⟨hk, (List.cons.inj this).2⟩
theorem From.kind (h : From toks k (t :: T)) : (peekP toks k).kind = t.kind := by rw [← h.peek]; rfl
theorem From.word (h : From toks k (t :: T)) : (peekP toks k).word = t.word := by rw [← h.peek]; rfl
theorem From.num (h : From toks k (t :: T)) : (peekP toks k).n = t.n := by rw [← h.peek]; rfl
theorem From.nil (h : From toks k []) : peekP toks k = ⟨4, 0, [], 0⟩ ∧ k = toks.length := by
  have e : (toks.drop k).length = 0 := by
    have := congrArg List.length h.2
    simpa using this
  rw [List.length_drop] at e
  have := h.1
  exact ⟨peekP_none (by omega), by omega⟩
theorem From.skip : ∀ (T : List Tk) {k : Nat}, From toks k (T ++ R) → From toks (k + T.length) R
  | [], _, h => h
  | t :: T, k, h => by
    have := From.skip T (From.next (t := t) (T := T ++ R) h)
    rw [List.length_cons, show k + (T.length + 1) = k + 1 + T.length from by omega]
    exact this
theorem From.kindR (h : From toks k R) {c : Int} (hc : c ≠ 4) (hR : ∀ t ∈ R.head?, t.kind ≠ c) : (peekP toks k).kind ≠ c := by
  cases R with
  | nil => rw [h.nil.1]; exact hc.symm
  | cons t R => rw [h.kind]; exact hR t rfl
end
/-- no sign that makes another verb of a verb -/
def Mark (t : Tk) : Prop := t.kind = 3 ∧ (t.word = [47] ∨ t.word = [92] ∨ t.word = [46])
/-- an operand's tokens are read as items -/
def Ps (T : List Tk) (I : List Item) (nest : Nat) (plain : Bool) : Prop :=
  ∀ {toks : List TokV} {e : Int} {r : ExprR} {k : Nat} {out : List Item} {st : Stk} {o : Nat} {R : List Tk}, From toks k (T ++ R) → (∀ t ∈ R.head?, t.kind ≠ 2) → o + nest ≤ 32 → EInv toks e r k out st o →
    ∃ out' S, (plain = true → S = []) ∧ unAll (out' ++ S) = unAll I ∧ BInv toks e r (k + T.length) (out ++ out') (S.map some ++ st) o
/-- a verb's tokens -/
structure Vb (T : List Tk) (it : Item) (two : Bool) : Prop where
  head : ∃ t T', T = t :: T' ∧ t.kind ≠ 2 ∧ t.kind ≠ 4 ∧ verbB t.word = true ∧ ¬ Mark t
  phrase : ∀ {toks : List TokV} {k : Nat} {e : Int} {R : List Tk}, From toks k (T ++ R) → (∀ t ∈ R.head?, ¬ Mark t) → isOk (phraseP toks k e two).flt = true ∧ (phraseP toks k e two).next = k + T.length ∧ (phraseP toks k e two).it.un = it.un
def Hd (T : List Tk) : Prop := ∃ t T', T = t :: T' ∧ ¬ Mark t
theorem fin_somes (S : List Item) (st : Stk) : finI (S.map some ++ st) = (S ++ (finI st).1, (finI st).2) := by
  induction S with
  | nil => rfl
  | cons x S ih => rw [List.map_cons, List.cons_append, finI, ih]; rfl
theorem nums_from {toks : List TokV} {R : List Tk} (hR : ∀ t ∈ R.head?, t.kind ≠ 2) : ∀ (ns : List Int) {k : Nat}, From toks k (ns.map (fun n => (⟨2, [], n⟩ : Tk)) ++ R) → numsFrom toks k = ns
  | [], k, h => nums_end (From.kindR (R := R) h (by decide) hR)
  | n :: ns, k, h => by
    have h' : From toks k (⟨2, [], n⟩ :: (ns.map (fun n => (⟨2, [], n⟩ : Tk)) ++ R)) := h
    rw [nums_more h'.kind, nums_from hR ns h'.next, h'.num]
theorem Ps.nums {ns : List Int} {a : Int} (h : ns ≠ []) : Ps (ns.map fun n => ⟨2, [], n⟩) [⟨1, a, 0, [], ns⟩] 0 true := by
  intro toks e r k out st o R hF hR _ hE
  have hn := nums_from hR ns hF
  obtain ⟨n, ns', rfl⟩ : ∃ n ns', ns = n :: ns' := by
    cases ns with
    | nil => exact absurd rfl h
    | cons n ns' => exact ⟨n, ns', rfl⟩
  have hk : (peekP toks k).kind = 2 := From.kind (t := ⟨2, [], n⟩) (T := _) hF
  have := e_num hE hk
  rw [hn] at this
  refine ⟨[numItem toks k], [], fun _ => rfl, ?_, ?_⟩
  · simp [unAll, numItem, Item.un, hn]
  · rw [List.length_map]
    exact this
theorem Ps.name {s : Bs} {a : Int} (h : nameB s = true) : Ps [⟨1, s, 0⟩] [⟨2, a, 0, s, []⟩] 0 true := by
  intro toks e r k out st o R hF hR _ hE
  have hF' : From toks k (⟨1, s, 0⟩ :: R) := hF
  have := e_name hE hF'.kind (by rw [hF'.word]; exact h)
  refine ⟨[nameItem toks k], [], fun _ => rfl, ?_, this⟩
  simp [unAll, nameItem, Item.un, hF'.word]
theorem Ps.brk {T : List Tk} {I : List Item} {n : Nat} {p : Bool} (h : Ps T I n p) : Ps (OpenT :: (T ++ [CloseT])) I (n + 1) true := by
  intro toks e r k out st o R hF hR ho hE
  have hF' : From toks k (OpenT :: (T ++ (CloseT :: R))) := by simpa using hF
  have h1 := (e_open hE hF'.kind hF'.word).1 (by omega)
  obtain ⟨out', S, _, hu, hB⟩ := h hF'.next (by simp [CloseT]) (by omega) h1
  have hc := From.skip T hF'.next
  have := b_close hB (by omega) hc.kind hc.word
  rw [fin_somes] at this
  refine ⟨out' ++ S, [], fun _ => rfl, by rw [List.append_nil]; exact hu, ?_⟩
  have e1 : k + 1 + T.length + 1 = k + (OpenT :: (T ++ [CloseT])).length := by simp; omega
  rw [e1] at this
  simp only [finI, List.append_nil, List.tail_cons, Nat.add_sub_cancel, List.append_assoc] at this
  exact this
theorem Ps.mono {V T : List Tk} {I : List Item} {it : Item} {n : Nat} {p : Bool} (hv : Vb V it false) (hd : Hd T) (h : Ps T I n p) : Ps (V ++ T) (I ++ [it]) n false := by
  intro toks e r k out st o R hF hR ho hE
  rw [List.append_assoc] at hF
  obtain ⟨t, V', hV, h2, h4, hvb, _⟩ := hv.head
  obtain ⟨u, T', hT, hm⟩ := hd
  have hF' : From toks k (t :: (V' ++ (T ++ R))) := by rw [hV] at hF; exact hF
  obtain ⟨p1, p2, p3⟩ := hv.phrase (e := e) hF (by rw [hT]; simpa using hm)
  have h1 := (e_verb hE (by rw [hF'.kind]; exact h2) (by rw [hF'.kind]; exact h4) (by rw [hF'.word]; exact hvb)).1 p1
  rw [p2] at h1
  obtain ⟨out', S, _, hu, hB⟩ := h (From.skip V hF) hR ho h1
  refine ⟨out', S ++ [(phraseP toks k e false).it], by simp, ?_, ?_⟩
  · rw [← List.append_assoc, unAll_append, hu, unAll_append]
    show unAll I ++ [_] = _
    rw [p3]
    rfl
  · rw [List.length_append, ← Nat.add_assoc, List.map_append, List.append_assoc]
    exact hB
theorem close_verb : verbB [41] = false := by decide
theorem Ps.dyad {Q V T : List Tk} {J I : List Item} {it : Item} {m n : Nat} {p : Bool} (hq : Ps Q J m true) (hv : Vb V it true) (hd : Hd T) (h : Ps T I n p) : Ps (Q ++ (V ++ T)) (J ++ I ++ [it]) (max m n) false := by
  intro toks e r k out st o R hF hR ho hE
  rw [List.append_assoc, List.append_assoc] at hF
  obtain ⟨t, V', hV, h2, h4, hvb, _⟩ := hv.head
  obtain ⟨u, T', hT, hm⟩ := hd
  obtain ⟨out1, S1, hS, hu1, hB1⟩ := hq hF (by rw [hV]; simpa using h2) (by omega) hE
  rw [hS rfl] at hB1 hu1
  rw [List.append_nil] at hu1
  have hF2 := From.skip Q hF
  have hF' : From toks (k + Q.length) (t :: (V' ++ (T ++ R))) := by rw [hV] at hF2; exact hF2
  obtain ⟨p1, p2, p3⟩ := hv.phrase (e := e) hF2 (by rw [hT]; simpa using hm)
  have h1 := (r_verb hB1 (.inr (.inr (by rw [hF'.word]; intro hw; rw [hw, close_verb] at hvb; cases hvb))) (by rw [hF'.kind]; exact h4) (by rw [hF'.kind]; exact h2) (by rw [hF'.word]; exact hvb)).1 p1
  rw [p2] at h1
  obtain ⟨out2, S, _, hu, hB⟩ := h (From.skip V hF2) hR (by omega) h1
  refine ⟨out1 ++ out2, S ++ [(phraseP toks (k + Q.length) e true).it], by simp, ?_, ?_⟩
  · rw [← List.append_assoc, unAll_append, List.append_assoc, unAll_append, hu, hu1, unAll_append, unAll_append]
    show _ ++ [_] = _
    rw [p3]
    rfl
  · rw [List.length_append, List.length_append, ← Nat.add_assoc, ← Nat.add_assoc, List.map_append, List.append_assoc, ← List.append_assoc out]
    exact hB
/-- an expression that goes to the line's end -/
theorem Ps.whole {T : List Tk} {I : List Item} {n : Nat} {p : Bool} (h : Ps T I n p) (hn : n ≤ 32) {toks : List TokV} {e : Int} {k : Nat} (hF : From toks k T) : unAll (exprP toks e k).1 = unAll I ∧ (exprP toks e k).2 = (0, 0) := by
  have hF' : From toks k (T ++ []) := by rw [List.append_nil]; exact hF
  obtain ⟨out', S, _, hu, hB⟩ := h hF' (by simp) (by omega) (e_start (e := e) hF.1)
  have := r_end hB (by rw [(From.skip T hF').nil.1]) (by omega)
  rw [fin_somes] at this
  rw [this]
  simp only [finI, List.append_nil, List.nil_append]
  exact ⟨hu, trivial⟩
end Go.Proofs.YtngkedmndhmjcaaGreatDoor
/- Plain: what show writes of an expression, lexed and read (no program in sight). -/
namespace Go.Proofs.YtngkedmndhmjcaaGreatDoor
open Go.RowKit

def Sep (c : UInt8) : Prop := c = 32 ∨ c = 41 ∨ c = 10
theorem Sep.word {c : UInt8} (h : Sep c) : wordB c = false := by rcases h with rfl | rfl | rfl <;> decide
theorem Sep.digit {c : UInt8} (h : Sep c) : digitB c = false := by rcases h with rfl | rfl | rfl <;> decide
theorem verb_mark : ∀ w ∈ verbWords, w ≠ [47] ∧ w ≠ [92] ∧ w ≠ [46] := by decide
theorem kindW_is (w : Bs) : kindW w = 1 ∨ kindW w = 3 := by
  cases w with
  | nil => exact .inr rfl
  | cons b r =>
    simp only [kindW]
    split
    · exact .inl rfl
    · exact .inr rfl
theorem kindW_2 (w : Bs) : kindW w ≠ 2 := by rcases kindW_is w with h | h <;> rw [h] <;> decide
theorem kindW_4 (w : Bs) : kindW w ≠ 4 := by rcases kindW_is w with h | h <;> rw [h] <;> decide
theorem verbB_two {w : Bs} {two : Bool} {f : Int} (h : verbF w two = f) (hf : f ≠ 0) : verbB w = true := by
  unfold verbB
  cases two with
  | false =>
    have : oneF w ≠ 0 := by rw [show oneF w = f from h]; exact hf
    simp [this]
  | true =>
    have : twoF w ≠ 0 := by rw [show twoF w = f from h]; exact hf
    simp [this]
theorem isOk_00 : isOk (0, 0) = true := rfl
section
variable {x : Item} {w : Bs}
/-- a verb with no mark behind it -/
theorem vb_one {two : Bool} (hw : w ∈ verbWords) (hf : verbF w two = x.fn) (h0 : x.fn ≠ 0) (hh : x.how = if two then 4 else 3) (hn : x.nums = []) (hm : x.name = []) : Vb [⟨kindW w, w, 0⟩] x two where
  head := ⟨_, [], rfl, kindW_2 w, kindW_4 w, verbB_two hf h0, fun h => by
    obtain ⟨h1, h2, h3⟩ := verb_mark w hw
    rcases h.2 with h | h | h
    · exact h1 h
    · exact h2 h
    · exact h3 h⟩
  phrase := fun {toks k e R} hF hR => by
    have hF' : From toks k (⟨kindW w, w, 0⟩ :: R) := hF
    have hneg : ¬ ((peekP toks (k + 1)).kind = 3 ∧ ((peekP toks (k + 1)).word = [47] ∨ (peekP toks (k + 1)).word = [92] ∨ (peekP toks (k + 1)).word = [46])) := by
      have := hF'.next
      cases R with
      | nil => rw [this.nil.1]; simp
      | cons t R =>
        rw [this.kind, this.word]
        exact hR t rfl
    have e0 : verbF (peekP toks k).word two = x.fn := by rw [hF'.word]; exact hf
    unfold phraseP
    rw [if_neg hneg]
    simp only [e0, h0, if_false]
    refine ⟨isOk_00, rfl, ?_⟩
    simp only [Phr.it, Item.un, hn, hm, hh]
/-- a verb with a mark -/
theorem vb_two {c : UInt8} (hc : x.how = 5 ∧ c = 47 ∨ x.how = 6 ∧ c = 92 ∨ x.how = 7 ∧ c = 46) (hw : w ∈ verbWords) (hf : verbF w true = x.fn) (h0 : x.fn ≠ 0) (h17 : x.fn ≤ 17) (hn : x.nums = []) (hm : x.name = []) : Vb [⟨kindW w, w, 0⟩, ⟨3, [c], 0⟩] x (twoH x.how) where
  head := ⟨_, _, rfl, kindW_2 w, kindW_4 w, verbB_two hf h0, fun h => by
    obtain ⟨h1, h2, h3⟩ := verb_mark w hw
    rcases h.2 with h | h | h
    · exact h1 h
    · exact h2 h
    · exact h3 h⟩
  phrase := fun {toks k e R} hF hR => by
    have hF' : From toks k (⟨kindW w, w, 0⟩ :: (⟨3, [c], 0⟩ :: R)) := hF
    have hk := hF'.next.kind
    have hwd := hF'.next.word
    have e0 : twoF (peekP toks k).word = x.fn := by rw [hF'.word]; exact hf
    have h17' : ¬ 17 < x.fn := by omega
    unfold phraseP
    rw [if_pos ⟨hk, by rw [hwd]; rcases hc with ⟨_, rfl⟩ | ⟨_, rfl⟩ | ⟨_, rfl⟩ <;> simp⟩]
    simp only [e0, hwd]
    rcases hc with ⟨hh, rfl⟩ | ⟨hh, rfl⟩ | ⟨hh, rfl⟩ <;>
      (rw [hh, if_neg (by simp [h17', twoH])]
       simp only [h0, if_false]
       exact ⟨isOk_00, rfl, by simp [Phr.it, Item.un, hn, hm, hh]⟩)
end
def NoNl (T : List Tk) : Prop := ∀ t ∈ T, t.kind ≠ 4
theorem NoNl.append {A B : List Tk} (h : NoNl A) (k : NoNl B) : NoNl (A ++ B) := fun t ht => (List.mem_append.1 ht).elim (h t) (k t)
theorem NoNl.one {t : Tk} (h : t.kind ≠ 4) : NoNl [t] := fun u hu => by rw [List.mem_singleton.1 hu]; exact h
theorem verb_vb {x : Item} (h3 : 3 ≤ x.how) (h7 : x.how ≤ 7) (hn : x.nums = []) (hm : x.name = []) (hv : (verbR x).1 ≠ []) : ∃ V, Vb V x (twoH x.how) ∧ V.length = (verbR x).2 ∧ NoNl V ∧ ∀ r, Lx (verbR x).1 V (32 :: r) := by
  unfold verbR at hv ⊢
  rw [first_text] at hv ⊢
  by_cases hbad : textF (x.how != 3) x.fn = [] ∨ x.how ≠ 3 ∧ x.how ≠ 4 ∧ takesB x.fn = false
  · simp only [hbad, if_true] at hv
    simp at hv
  · simp only [hbad, if_false]
    rw [not_or] at hbad
    obtain ⟨hne, ht⟩ := hbad
    obtain ⟨hw, hf, h0⟩ := textF_hit hne
    by_cases h5 : 5 ≤ x.how
    · have e3 : (x.how != 3) = true := by simp; omega
      rw [e3] at hw hf hne ⊢
      have h17 : x.fn ≤ 17 := by
        have := two_takes hne
        rw [this] at ht
        have ht' : ¬ decide (x.fn ≤ 17) = false := fun h => ht ⟨by omega, by omega, h⟩
        simpa using ht'
      obtain ⟨c, hc, hmk⟩ : ∃ c : UInt8, (x.how = 5 ∧ c = 47 ∨ x.how = 6 ∧ c = 92 ∨ x.how = 7 ∧ c = 46) ∧ markS x.how = [c] := by
        have : x.how = 5 ∨ x.how = 6 ∨ x.how = 7 := by omega
        rcases this with h | h | h
        · exact ⟨47, .inl ⟨h, rfl⟩, by rw [h]; rfl⟩
        · exact ⟨92, .inr (.inl ⟨h, rfl⟩), by rw [h]; rfl⟩
        · exact ⟨46, .inr (.inr ⟨h, rfl⟩), by rw [h]; rfl⟩
      refine ⟨_, vb_two hc hw hf h0 h17 hn hm, by simp [h5], NoNl.append (A := [_]) (B := [_]) (.one (kindW_4 _)) (.one (show (3 : Int) ≠ 4 by decide)), fun r => ?_⟩
      rw [hmk]
      exact Lx.append (A := [_]) (B := [_]) (verb_lx hw (by rcases hc with ⟨_, rfl⟩ | ⟨_, rfl⟩ | ⟨_, rfl⟩ <;> decide)) (sign_lx (by rcases hc with ⟨_, rfl⟩ | ⟨_, rfl⟩ | ⟨_, rfl⟩ <;> decide))
    · have hcase : x.how = 3 ∨ x.how = 4 := by omega
      rcases hcase with h | h
      · have e3 : (x.how != 3) = false := by simp [h]
        rw [e3] at hw hf hne ⊢
        refine ⟨[⟨kindW (textF false x.fn), textF false x.fn, 0⟩], ?_, by simp [h5], .one (kindW_4 _), fun r => ?_⟩
        · rw [show twoH x.how = false from by rw [h]; rfl]
          exact vb_one hw hf h0 (by simp [h]) hn hm
        · rw [show markS x.how = [] from by rw [h]; rfl, List.append_nil]
          exact verb_lx hw (by decide)
      · have e3 : (x.how != 3) = true := by simp [h]
        rw [e3] at hw hf hne ⊢
        refine ⟨[⟨kindW (textF true x.fn), textF true x.fn, 0⟩], ?_, by simp [h5], .one (kindW_4 _), fun r => ?_⟩
        · rw [show twoH x.how = true from by rw [h]; rfl]
          exact vb_one hw hf h0 (by simp [h]) hn hm
        · rw [show markS x.how = [] from by rw [h]; rfl, List.append_nil]
          exact verb_lx hw (by decide)

def Rng (n : Int) : Prop := -9223372036854775808 ≤ n ∧ n ≤ 9223372036854775807
/-- a text is lexed and read as items -/
def Rd (s : Bs) (I : List Item) (tokens nest : Nat) (plain : Bool) : Prop := ∃ T, (∀ c r, Sep c → Lx s T (c :: r)) ∧ T.length = tokens ∧ Hd T ∧ NoNl T ∧ Ps T I nest plain
inductive Rds : List Part → List Item → Prop
  | nil : Rds [] []
  | cons {p l I J} : Rd p.s I p.tokens p.nest p.plain → Rds l J → Rds (p :: l) (J ++ I)
theorem Lx.gap {s rest : Bs} {T : List Tk} (h : Lx s T (32 :: rest)) : Lx (s ++ [32]) T rest := by
  have := Lx.append (a := s) (b := [32]) (A := T) (B := []) h Lx.blank
  rw [List.append_nil] at this
  exact this
theorem nums_lx : ∀ (ns : List Int), ns ≠ [] → (∀ n ∈ ns, Rng n) → ∀ c r, Sep c → Lx (joinSp (ns.map spellN)) (ns.map fun n => ⟨2, [], n⟩) (c :: r)
  | [], h, _, _, _, _ => absurd rfl h
  | [n], _, h, c, r, hc => spell_lx (h n (by simp)).1 (h n (by simp)).2 hc.digit
  | n :: m :: ns, _, h, c, r, hc => by
    have h1 := nums_lx (m :: ns) (by simp) (fun x hx => h x (by simp [hx])) c r hc
    have h2 : Lx (spellN n) [⟨2, [], n⟩] (32 :: (joinSp ((m :: ns).map spellN) ++ c :: r)) := spell_lx (h n (by simp)).1 (h n (by simp)).2 (by decide)
    have h3 := Lx.append h2.gap h1
    rw [List.map_cons, joinSp_cons _ (by simp)]
    simpa using h3
theorem operand_rd {x : Item} (hx : ∀ n ∈ x.nums, Rng n) (ho : x.how = 1 ∨ x.how = 2) (ht : 0 < (operandR x).tokens) : Rd (operandR x).s [x] (operandR x).tokens (operandR x).nest (operandR x).plain := by
  unfold operandR at ht ⊢
  by_cases hf : x.fn = 0
  · rw [if_neg (by simp [hf])] at ht ⊢
    by_cases h2 : x.how = 2
    · rw [if_pos h2] at ht ⊢
      by_cases hb : x.nums ≠ [] ∨ nameB x.name = false
      · rw [if_pos hb] at ht
        simp [noPart] at ht
      · rw [if_neg hb] at ht ⊢
        simp only [not_or, ne_eq, Bool.not_eq_false, Classical.not_not] at hb
        refine ⟨[⟨1, x.name, 0⟩], fun c r hc => word_lx (name_word hb.2) hc.word, rfl, ⟨_, [], rfl, fun h => absurd (show (1 : Int) = 3 from h.1) (by decide)⟩, .one (show (1 : Int) ≠ 4 by decide), ?_⟩
        have : Ps [⟨1, x.name, 0⟩] [⟨2, x.at_, 0, x.name, []⟩] 0 true := Ps.name hb.2
        have e1 : x = ⟨2, x.at_, 0, x.name, []⟩ := by
          cases x
          simp_all
        rw [← e1] at this
        exact @this
    · rw [if_neg h2] at ht ⊢
      by_cases hb : x.name ≠ [] ∨ 256 < x.nums.length
      · rw [if_pos hb] at ht
        simp [noPart] at ht
      · rw [if_neg hb] at ht ⊢
        simp only [not_or, ne_eq, Classical.not_not] at hb
        have hne : x.nums ≠ [] := List.length_pos_iff.1 ht
        refine ⟨x.nums.map fun n => ⟨2, [], n⟩, fun c r hc => ?_, by simp, ?_, fun t ht => by obtain ⟨n, _, rfl⟩ := List.mem_map.1 ht; exact (by decide : (2 : Int) ≠ 4), ?_⟩
        · rw [numsR0_join]
          exact nums_lx _ hne hx c r hc
        · cases hn : x.nums with
          | nil => exact absurd hn hne
          | cons n ns => exact ⟨_, _, rfl, fun h => absurd h.1 (by simp)⟩
        · have : Ps (x.nums.map fun n => ⟨2, [], n⟩) [⟨1, x.at_, 0, [], x.nums⟩] 0 true := Ps.nums hne
          have e1 : x = ⟨1, x.at_, 0, [], x.nums⟩ := by
            have : x.how = 1 := by omega
            cases x
            simp_all
          rw [← e1] at this
          exact @this
  · rw [if_pos hf] at ht
    simp [noPart] at ht
theorem brk_rd {p : Part} {I : List Item} (h : Rd p.s I p.tokens p.nest p.plain) : Rd (brkR p).s I (brkR p).tokens (brkR p).nest true := by
  unfold brkR
  cases hp : p.plain with
  | true =>
    rw [hp] at h
    exact h
  | false =>
    obtain ⟨T, h1, h2, h3, h5, h4⟩ := h
    refine ⟨OpenT :: (T ++ [CloseT]), fun c r hc => ?_, by simp [h2], ⟨OpenT, _, rfl, fun h => by simp [Mark, OpenT] at h⟩, NoNl.append (A := [OpenT]) (.one (show (3 : Int) ≠ 4 by decide)) (h5.append (.one (show (3 : Int) ≠ 4 by decide))), Ps.brk h4⟩
    have ha : Lx [41] [CloseT] (c :: r) := sign_lx (by decide)
    have hb := h1 41 (c :: r) (.inr (.inl rfl))
    have hc : Lx [40] [OpenT] (p.s ++ 41 :: c :: r) := sign_lx (by decide)
    have hd := Lx.append (Lx.append (rest := 41 :: c :: r) hc hb) (rest := c :: r) ha
    simpa using hd
theorem step_rd {l l' : List Part} {x : Item} {I : List Item} (h : Rds l I) (hx : ∀ n ∈ x.nums, Rng n) (hs : stepR l x = some l') : Rds l' (I ++ [x]) := by
  unfold stepR at hs
  by_cases ho : x.how = 1 ∨ x.how = 2
  · rw [if_pos ho] at hs
    split at hs
    · rename_i ht
      cases hs
      exact .cons (operand_rd hx ho ht) h
    · cases hs
  · rw [if_neg ho] at hs
    by_cases hbad : x.how < 3 ∨ 7 < x.how ∨ x.nums ≠ [] ∨ x.name ≠ []
    · rw [if_pos hbad] at hs
      cases hs
    · rw [if_neg hbad] at hs
      simp only [not_or, ne_eq, Classical.not_not] at hbad
      obtain ⟨h3, h7, hn, hm⟩ := hbad
      by_cases hv : (verbR x).1 = []
      · rw [if_pos hv] at hs
        cases hs
      · rw [if_neg hv] at hs
        obtain ⟨V, v1, v2, v4, v3⟩ := verb_vb (by omega) (by omega) hn hm hv
        obtain ⟨t, V', hV, _, _, _, hmk⟩ := v1.head
        cases ht : twoH x.how with
        | false =>
          rw [ht] at hs v1
          simp only [Bool.false_eq_true, if_false] at hs
          cases h with
          | nil => cases hs
          | cons hp hl =>
            rename_i p l I J
            cases hs
            obtain ⟨T, h1, h2, h3, h5, h4⟩ := hp
            rw [show J ++ I ++ [x] = J ++ (I ++ [x]) from List.append_assoc ..]
            refine .cons ⟨V ++ T, fun c r hc => ?_, by simp [v2, h2], ⟨t, V' ++ T, by rw [hV]; rfl, hmk⟩, v4.append h5, Ps.mono v1 h3 h4⟩ hl
            exact Lx.append (v3 _).gap (h1 c r hc)
        | true =>
          rw [ht] at hs v1
          simp only [if_true] at hs
          cases h with
          | nil => cases hs
          | cons hp hl =>
            cases hl with
            | nil => cases hs
            | cons hq hl =>
              rename_i p I q l J' J
              cases hs
              obtain ⟨T, h1, h2, h3, h5, h4⟩ := hp
              obtain ⟨Q, q1, q2, q3, q5, q4⟩ := brk_rd hq
              obtain ⟨u, Q', hQ, hu⟩ := q3
              rw [show J ++ J' ++ I ++ [x] = J ++ (J' ++ I ++ [x]) from by simp]
              refine .cons ⟨Q ++ (V ++ T), fun c r hc => ?_, by simp [v2, h2, q2]; omega, ⟨u, Q' ++ (V ++ T), by rw [hQ]; rfl, hu⟩, q5.append (v4.append h5), Ps.dyad q4 v1 h3 h4⟩ hl
              have a1 := Lx.append (v3 _).gap (h1 c r hc)
              have a2 := Lx.append (q1 32 _ (.inl rfl)).gap a1
              simp only [List.append_assoc, List.cons_append, List.nil_append] at a2 ⊢
              exact a2
theorem steps_rd : ∀ {xs : List Item} {l l' : List Part} {I : List Item}, Rds l I → (∀ x ∈ xs, ∀ n ∈ x.nums, Rng n) → stepsR xs l = some l' → Rds l' (I ++ xs)
  | [], l, l', I, h, _, hs => by
    cases hs
    rw [List.append_nil]
    exact h
  | x :: xs, l, l', I, h, hx, hs => by
    rw [stepsR] at hs
    cases h1 : stepR l x with
    | none => rw [h1] at hs; cases hs
    | some l1 =>
      rw [h1] at hs
      have := steps_rd (step_rd h (hx x (by simp)) h1) (fun y hy => hx y (by simp [hy])) hs
      rw [List.append_assoc] at this
      exact this
/-- how many tokens an expression's text has -/
def tokS (l : List Item) : Nat := match stepsS l [] with
  | some [p] => p.tokens
  | _ => 0
theorem expr_rd {l : List Item} {k : Nat} {t : Bs} (hk : k ≤ 256) (hl : ∀ x ∈ l, ∀ n ∈ x.nums, Rng n) (h : exprS l (256 - k) = some t) : ∃ T, (∀ c r, Sep c → Lx t T (c :: r)) ∧ T.length = tokS l ∧ tokS l + k ≤ 256 ∧ NoNl T ∧ ∀ {toks : List TokV} {e : Int} {j : Nat}, From toks j T → unAll (exprP toks e j).1 = unAll l ∧ (exprP toks e j).2 = (0, 0) := by
  have hlike := steps_like l .nil
  have hS : ∃ q, stepsS l [] = some [q] ∧ q.tokens + k ≤ 256 ∧ q.nest ≤ 32 ∧ joinSp q.words = t := by
    unfold exprS at h
    split at h
    · cases h
    · split at h
      · rename_i q hq
        split at h
        · cases h
        · cases h
          exact ⟨q, hq, by omega, by omega, rfl⟩
      · cases h
  obtain ⟨q, hq, h1, h2, h3⟩ := hS
  rw [hq] at hlike
  cases hR : stepsR l [] with
  | none => rw [hR] at hlike; exact hlike.elim
  | some a =>
    rw [hR] at hlike
    cases hlike with
    | cons hp hr =>
      cases hr
      have := steps_rd .nil hl hR
      rw [List.nil_append] at this
      generalize hJ : l = J at this
      cases this with
      | cons hp' hl' =>
        cases hl'
        obtain ⟨T, a1, a2, a3, a5, a4⟩ := hp'
        have ht : tokS l = q.tokens := by unfold tokS; rw [hq]
        rw [hJ, List.nil_append] at ht
        refine ⟨T, ?_, by rw [List.nil_append, ht, a2, hp.tokens], by rw [List.nil_append, ht]; exact h1, a5, fun {toks e j} hF => ?_⟩
        · rw [← h3, ← hp.s]
          exact a1
        · rw [List.nil_append]
          exact Ps.whole a4 (by rw [hp.nest]; exact h2) hF
end Go.Proofs.YtngkedmndhmjcaaGreatDoor
/- Plain: what show writes of a program is read as it, places apart (no program in sight). -/
namespace Go.Proofs.YtngkedmndhmjcaaGreatDoor
open Go.RowKit

def Line.un (l : Line) : Line := ⟨l.name, 0, unAll l.items⟩
def Input.un (x : Input) : Input := ⟨x.name, 0, x.sides⟩
def Prog.un (p : Prog) : Prog := ⟨p.inputs.map Input.un, p.lines.map Line.un⟩
/-- the tokens of a line's text, and its end -/
def costI (x : Input) : Nat := x.sides.length + 3
def costL (l : Line) : Nat := tokS l.items + if l.name = [] then 2 else 3
def costP (p : Prog) : Nat := (p.inputs.map costI).sum + (p.lines.map costL).sum
def NL : Tk := ⟨4, [], 0⟩
def WT (w : Bs) : Tk := ⟨1, w, 0⟩
theorem from_zero {toks : List TokV} {T : List Tk} (h : toks.map TokV.tk = T) : From toks 0 T := ⟨Nat.zero_le _, h⟩
theorem own_of : ∀ {T : List Tk} {R : List Tk} {toks : List TokV}, toks.map TokV.tk = T ++ NL :: R → NoNl T → (ownP toks).map TokV.tk = T ∧ (ownP toks).length = T.length ∧ (toks.drop (T.length + 1)).map TokV.tk = R
  | [], R, [], h, _ => by simp at h
  | [], R, t :: toks, h, _ => by
    simp only [List.map_cons, List.nil_append, List.cons.injEq] at h
    have h4 : (t.kind != 4) = false := by
      have : t.tk.kind = 4 := by rw [h.1]; rfl
      simpa [TokV.tk] using this
    unfold ownP
    rw [List.takeWhile_cons_of_neg (by rw [h4]; simp)]
    exact ⟨rfl, rfl, h.2⟩
  | u :: T, R, [], h, _ => by simp at h
  | u :: T, R, t :: toks, h, hn => by
    simp only [List.map_cons, List.cons_append, List.cons.injEq] at h
    have h4 : (t.kind != 4) = true := by
      have : t.tk.kind ≠ 4 := by rw [h.1]; exact hn u (by simp)
      simpa [TokV.tk] using this
    obtain ⟨a, b, c⟩ := own_of h.2 fun x hx => hn x (by simp [hx])
    unfold ownP at a b ⊢
    rw [List.takeWhile_cons_of_pos (p := fun t : TokV => t.kind != 4) h4]
    exact ⟨by rw [List.map_cons, a, h.1], by simp [b], c⟩
theorem line_step {r : Prog × Flt} {len : Int} {toks : List TokV} {p : Prog} {n : Nat} {over : Bool} {T R : List Tk} {Good : Prog → Prop} (h : PInv r len toks p n over) (ht : toks.map TokV.tk = T ++ NL :: R) (hT : NoNl T) (hne : T ≠ [])
    (hq : ∀ own e, own.map TokV.tk = T → ∃ q, intoP own e p n over = (q, (0, 0)) ∧ Good q) : ∃ q toks', Good q ∧ toks'.map TokV.tk = R ∧ PInv r len toks' q (n + 1) (overP q) := by
  obtain ⟨a, b, c⟩ := own_of ht hT
  obtain ⟨q, h1, h2⟩ := hq (ownP toks) (endP toks len) a
  have h0 : toks ≠ [] := by
    rintro rfl
    simp at ht
  have hon : ownP toks ≠ [] := by
    intro e
    rw [e] at a
    exact hne a.symm
  exact ⟨q, _, h2, by rw [b]; exact c, (p_line h h0 hon h1).1 rfl⟩

/-! ### inputs -/
structure SideOk (d : Side) : Prop where
  ok : d.name = [] ∨ d.n = 0 ∧ nameB d.name = true
def sideT (d : Side) : Tk := if d.name = [] then ⟨2, [], d.n⟩ else ⟨1, d.name, 0⟩
theorem name_ne {s : Bs} (h : nameB s = true) : s ≠ [] ∧ s ≠ [105, 110] ∧ s ≠ [111, 117, 116] := by
  refine ⟨?_, ?_, ?_⟩
  · rintro rfl
    obtain ⟨b, r, e, _⟩ := (name_word h).head
    cases e
  · rintro rfl
    simp [nameB] at h
  · rintro rfl
    simp [nameB] at h
theorem sides_read : ∀ (ds : List Side) {toks : List TokV} {acc : List Side}, (∀ d ∈ ds, SideOk d) → toks.map TokV.tk = ds.map sideT → acc.length + ds.length ≤ 4 → sidesP toks acc = (acc ++ ds, (0, 0))
  | [], [], acc, _, _, _ => by simp [sidesP]
  | [], t :: toks, acc, _, h, _ => by simp at h
  | d :: ds, [], acc, _, h, _ => by simp at h
  | d :: ds, t :: toks, acc, hd, h, hl => by
    simp only [List.map_cons, List.cons.injEq] at h
    simp only [List.length_cons] at hl
    have ht : t.kind = (sideT d).kind ∧ t.word = (sideT d).word ∧ t.n = (sideT d).n := by rw [← h.1]; exact ⟨rfl, rfl, rfl⟩
    have hs : (t.kind = 2 ∨ t.kind = 1 ∧ nameB t.word = true) ∧ (⟨t.word, t.n⟩ : Side) = d := by
      obtain ⟨h1, h2, h3⟩ := ht
      unfold sideT at h1 h2 h3
      rcases (hd d (by simp)).ok with he | ⟨hn, hb⟩
      · rw [if_pos he] at h1 h2 h3
        refine ⟨.inl h1, ?_⟩
        cases d
        simp_all
      · have := (name_ne hb).1
        rw [if_neg this] at h1 h2 h3
        refine ⟨.inr ⟨h1, by rw [h2]; exact hb⟩, ?_⟩
        cases d
        simp_all
    rw [sidesP, if_neg, if_neg (by omega), hs.2, sides_read ds (fun x hx => hd x (by simp [hx])) h.2 (by simp; omega)]
    · simp
    · rintro ⟨a, b⟩
      rcases hs.1 with c | ⟨c, d⟩
      · exact a c
      · rcases b with b | b
        · exact b c
        · rw [d] at b; cases b
theorem sides_lx : ∀ (ds : List Side) {acc t : Bs} {A : List Tk}, (∀ d ∈ ds, Rng d.n) → (∀ c r, Sep c → Lx acc A (c :: r)) → sidesS ds acc = some t → (∀ d ∈ ds, SideOk d) ∧ ∀ c r, Sep c → Lx t (A ++ ds.map sideT) (c :: r)
  | [], acc, t, A, _, h, hs => by
    cases hs
    exact ⟨by simp, by simpa using h⟩
  | d :: ds, acc, t, A, hr, h, hs => by
    rw [sidesS] at hs
    split at hs
    · rename_i he
      have hst : sideT d = ⟨2, [], d.n⟩ := by unfold sideT; rw [if_pos he]
      obtain ⟨a, b⟩ := sides_lx ds (acc := acc ++ ([32] ++ spellN d.n)) (A := A ++ [sideT d]) (fun x hx => hr x (by simp [hx])) (fun c r hc => by
        rw [← List.append_assoc, hst]
        exact Lx.append (h 32 _ (.inl rfl)).gap (spell_lx (hr d (by simp)).1 (hr d (by simp)).2 hc.digit)) hs
      exact ⟨fun x hx => (List.mem_cons.1 hx).elim (fun e => e ▸ ⟨.inl he⟩) (a x), fun c r hc => by simpa using b c r hc⟩
    · split at hs
      · rename_i he hb
        have hst : sideT d = ⟨1, d.name, 0⟩ := by unfold sideT; rw [if_neg he]
        obtain ⟨a, b⟩ := sides_lx ds (acc := acc ++ ([32] ++ d.name)) (A := A ++ [sideT d]) (fun x hx => hr x (by simp [hx])) (fun c r hc => by
          rw [← List.append_assoc, hst]
          exact Lx.append (h 32 _ (.inl rfl)).gap (word_lx (name_word hb.2) hc.word)) hs
        exact ⟨fun x hx => (List.mem_cons.1 hx).elim (fun e => e ▸ ⟨.inr hb⟩) (a x), fun c r hc => by simpa using b c r hc⟩
      · cases hs
theorem in_word : WordB [105, 110] := ⟨⟨105, [110], rfl, by decide⟩, by decide, by decide⟩
theorem out_word : WordB [111, 117, 116] := ⟨⟨111, [117, 116], rfl, by decide⟩, by decide, by decide⟩
theorem side_nl (d : Side) : (sideT d).kind ≠ 4 := by
  unfold sideT
  split <;> simp
theorem isW_of {toks : List TokV} {k : Nat} {t : Tk} {T : List Tk} (h : From toks k (t :: T)) (w : Bs) : isW (peekP toks k) w = (t.kind == 1 && t.word == w) := by unfold isW; rw [h.kind, h.word]
theorem input_into {x : Input} (hb : nameB x.name = true) (hl : x.sides.length ≤ 4) (hd : ∀ d ∈ x.sides, SideOk d) {own : List TokV} {e : Int} {ins : List Input} {n : Nat} (hn : n < 64) (ho : own.map TokV.tk = WT [105, 110] :: WT x.name :: x.sides.map sideT) :
    ∃ q, intoP own e ⟨ins, []⟩ n false = (q, (0, 0)) ∧ ∃ y, q = ⟨ins ++ [y], []⟩ ∧ y.un = x.un := by
  have hlen : own.length = x.sides.length + 2 := by
    have := congrArg List.length ho
    simpa using this
  have f0 : From own 0 _ := from_zero ho
  have f1 := f0.next
  have f2 := f1.next
  have i0 : isW (peekP own 0) [105, 110] = true := by rw [isW_of f0]; rfl
  have hk1 := f1.kind
  have hw1 := f1.word
  have hin : inputP own e = (⟨x.name, atP own 1 e, x.sides⟩, (0, 0)) := by
    unfold inputP
    rw [if_neg (by omega), if_neg, hw1, sides_read x.sides hd f2.2 (by simpa using hl)]
    · rfl
    · rw [hk1, hw1]
      rintro (h | h)
      · exact h rfl
      · rw [show (WT x.name).word = x.name from rfl, hb] at h; cases h
  refine ⟨_, ?_, ⟨x.name, atP own 1 e, x.sides⟩, rfl, rfl⟩
  unfold intoP
  rw [if_neg (by omega), if_neg (by omega), if_neg (by simp), if_pos i0, hin]
theorem inputs_rd : ∀ (xs : List Input) {o o' : Bs}, (∀ x ∈ xs, ∀ d ∈ x.sides, Rng d.n) → inputsS xs o = (o', true) → ∃ t T, o' = o ++ t ∧ (∀ rest, Lx t T rest) ∧ T.length = (xs.map costI).sum ∧
    ∀ {r : Prog × Flt} {len : Int} {toks : List TokV} {R : List Tk} {ins : List Input} {n : Nat}, PInv r len toks ⟨ins, []⟩ n false → toks.map TokV.tk = T ++ R → n + xs.length ≤ 64 →
      ∃ toks' ins', toks'.map TokV.tk = R ∧ ins'.map Input.un = xs.map Input.un ∧ PInv r len toks' ⟨ins ++ ins', []⟩ (n + xs.length) false
  | [], o, o', _, h => by
    simp only [inputsS, Prod.mk.injEq, and_true] at h
    subst h
    exact ⟨[], [], by simp, fun _ => Lx.nil, rfl, fun {r len toks R ins n} hP ht _ => ⟨toks, [], by simpa using ht, rfl, by simpa using hP⟩⟩
  | x :: xs, o, o', hr, h => by
    rw [inputsS] at h
    cases hi : inputS x with
    | none => rw [hi] at h; simp at h
    | some t =>
      rw [hi] at h
      simp only at h
      obtain ⟨u, U, h1, h2, h3, h4⟩ := inputs_rd xs (fun y hy => hr y (by simp [hy])) h
      unfold inputS at hi
      split at hi
      · cases hi
      · rename_i hbad
        simp only [not_or, Bool.not_eq_false, Nat.not_lt] at hbad
        obtain ⟨s1, s2⟩ := sides_lx x.sides (acc := x.name) (A := [WT x.name]) (hr x (by simp)) (fun c r hc => word_lx (name_word hbad.1) hc.word) hi
        have hlx : ∀ rest, Lx (([105, 110, 32] ++ t) ++ [10]) ((WT [105, 110] :: WT x.name :: x.sides.map sideT) ++ [NL]) rest := fun rest => by
          have a1 : Lx ([105, 110] ++ [32]) [WT [105, 110]] (t ++ 10 :: rest) := Lx.gap (word_lx in_word (by decide))
          have a2 := s2 10 rest (.inr (.inr rfl))
          have a3 := Lx.append (rest := rest) (Lx.append (rest := 10 :: rest) a1 a2) nl_lx
          exact a3
        refine ⟨(([105, 110, 32] ++ t) ++ [10]) ++ u, (WT [105, 110] :: WT x.name :: x.sides.map sideT) ++ [NL] ++ U, by rw [h1]; simp, fun rest => Lx.append (hlx _) (h2 rest), ?_, fun {r len toks R ins n} hP ht hn => ?_⟩
        · simp [h3, costI]; omega
        · simp only [List.length_cons] at hn
          have ht' : toks.map TokV.tk = (WT [105, 110] :: WT x.name :: x.sides.map sideT) ++ NL :: (U ++ R) := by rw [ht]; simp
          obtain ⟨q, toks', ⟨y, rfl, hy⟩, k1, k2⟩ := line_step hP ht' (by
            intro t ht
            simp only [List.mem_cons, List.mem_map] at ht
            rcases ht with rfl | rfl | ⟨d, _, rfl⟩
            · decide
            · exact (by decide : (1 : Int) ≠ 4)
            · exact side_nl d) (by simp) fun own e ho => input_into (ins := ins) hbad.1 hbad.2 s1 (by omega) ho
          obtain ⟨toks'', ins', e1, e2, e3⟩ := h4 k2 k1 (by omega)
          refine ⟨toks'', y :: ins', e1, by rw [List.map_cons, List.map_cons, hy, e2], ?_⟩
          rw [List.append_assoc] at e3
          rw [List.length_cons, show n + (xs.length + 1) = n + 1 + xs.length from by omega]
          exact e3

/-! ### lines -/
theorem over_snoc (ins : List Input) (lns : List Line) (l : Line) : overP ⟨ins, lns ++ [l]⟩ = (l.name == []) := by simp [overP]
theorem out_into {its : List Item} {T : List Tk} (hl : T.length + 1 ≤ 256) (hx : ∀ {toks : List TokV} {e : Int} {j : Nat}, From toks j T → unAll (exprP toks e j).1 = unAll its ∧ (exprP toks e j).2 = (0, 0)) {own : List TokV} {e : Int} {ins : List Input} {lns : List Line} {n : Nat} (hn : n < 64) (ho : own.map TokV.tk = WT [111, 117, 116] :: T) :
    ∃ q, intoP own e ⟨ins, lns⟩ n false = (q, (0, 0)) ∧ ∃ y, q = ⟨ins, lns ++ [y]⟩ ∧ y.un = ⟨[], 0, unAll its⟩ := by
  have hlen : own.length = T.length + 1 := by
    have := congrArg List.length ho
    simpa using this
  have f0 : From own 0 _ := from_zero ho
  have i0 : isW (peekP own 0) [105, 110] = false := by rw [isW_of f0]; rfl
  have i1 : isW (peekP own 0) [111, 117, 116] = true := by rw [isW_of f0]; rfl
  obtain ⟨h1, h2⟩ := hx (e := e) f0.next
  refine ⟨_, ?_, ⟨[], (peekP own 0).at_, (exprP own e 1).1⟩, rfl, by rw [Line.un, h1]⟩
  unfold intoP
  rw [if_neg (by omega), if_neg (by omega), if_neg (by rw [i0]; simp), i0, if_neg (by simp), if_pos i1]
  simp only [lineP]
  rw [h2]
theorem line_into {its : List Item} {T : List Tk} {nm : Bs} (hb : nameB nm = true) (hl : T.length + 2 ≤ 256) (hx : ∀ {toks : List TokV} {e : Int} {j : Nat}, From toks j T → unAll (exprP toks e j).1 = unAll its ∧ (exprP toks e j).2 = (0, 0)) {own : List TokV} {e : Int} {ins : List Input} {lns : List Line} {n : Nat} (hn : n < 64) (ho : own.map TokV.tk = WT nm :: ⟨3, [58], 0⟩ :: T) :
    ∃ q, intoP own e ⟨ins, lns⟩ n false = (q, (0, 0)) ∧ ∃ y, q = ⟨ins, lns ++ [y]⟩ ∧ y.un = ⟨nm, 0, unAll its⟩ := by
  have hlen : own.length = T.length + 2 := by
    have := congrArg List.length ho
    simpa using this
  obtain ⟨n1, n2, n3⟩ := name_ne hb
  have f0 : From own 0 _ := from_zero ho
  have i0 : isW (peekP own 0) [105, 110] = false := by rw [isW_of f0]; simp [WT, n2]
  have i1 : isW (peekP own 0) [111, 117, 116] = false := by rw [isW_of f0]; simp [WT, n3]
  have f1 := f0.next
  obtain ⟨h1, h2⟩ := hx (e := e) f1.next
  have hw0 : (peekP own 0).word = nm := f0.word
  refine ⟨_, ?_, ⟨nm, (peekP own 0).at_, (exprP own e 2).1⟩, rfl, by rw [Line.un, h1]⟩
  unfold intoP
  rw [if_neg (by omega), if_neg (by omega), if_neg (by rw [i0]; simp), i0, if_neg (by simp), i1, if_neg (by simp), if_neg, if_neg, hw0]
  · simp only [lineP]
    rw [h2]
  · rw [f1.kind, f1.word]
    simp
  · rw [f0.kind, hw0, hb]
    simp [WT]
theorem lines_rd : ∀ (ls : List Line) {o o' : Bs}, ls ≠ [] → (∀ l ∈ ls, ∀ x ∈ l.items, ∀ n ∈ x.nums, Rng n) → linesS ls o = (o', true) → ∃ t T, o' = o ++ t ∧ (∀ rest, Lx t T rest) ∧ T.length = (ls.map costL).sum ∧
    ∀ {r : Prog × Flt} {len : Int} {toks : List TokV} {ins : List Input} {lns : List Line} {n : Nat}, PInv r len toks ⟨ins, lns⟩ n false → toks.map TokV.tk = T → n + ls.length ≤ 64 →
      ∃ lns', lns'.map Line.un = ls.map Line.un ∧ r = (⟨ins, lns ++ lns'⟩, (0, 0))
  | [], _, _, h, _, _ => absurd rfl h
  | [l], o, o', _, hr, h => by
    simp only [linesS] at h
    cases hx : exprS l.items 255 with
    | none => rw [hx] at h; simp at h
    | some t =>
      rw [hx] at h
      simp only at h
      split at h
      · simp at h
      · rename_i hnm
        simp only [ne_eq, Classical.not_not] at hnm
        simp only [Prod.mk.injEq, and_true] at h
        obtain ⟨T, a1, a2, a3, a4, a5⟩ := expr_rd (k := 1) (by omega) (hr l (by simp)) hx
        refine ⟨([111, 117, 116, 32] ++ t) ++ [10], (WT [111, 117, 116] :: T) ++ [NL], h.symm, fun rest => ?_, by simp [costL, hnm, a2], fun {r len toks ins lns n} hP ht hn => ?_⟩
        · have b1 : Lx ([111, 117, 116] ++ [32]) [WT [111, 117, 116]] (t ++ 10 :: rest) := Lx.gap (word_lx out_word (by decide))
          exact Lx.append (rest := rest) (Lx.append (rest := 10 :: rest) b1 (a1 10 rest (.inr (.inr rfl)))) nl_lx
        · obtain ⟨q, toks', ⟨y, rfl, hy⟩, k1, k2⟩ := line_step (R := []) hP ht (NoNl.append (A := [_]) (.one (show (1 : Int) ≠ 4 by decide)) a4) (by simp) fun own e ho => out_into (ins := ins) (lns := lns) (by omega) (fun hF => a5 hF) (by simp only [List.length_singleton] at hn; omega) ho
          have hy' : y.un = l.un := by rw [hy, Line.un, hnm]
          have hov : y.name = [] := by
            have := congrArg Line.name hy
            exact this
          refine ⟨[y], by simp [hy'], ?_⟩
          have := p_end k2 (List.map_eq_nil_iff.1 k1)
          rw [over_snoc, hov, if_pos (by decide)] at this
          exact this
  | l :: m :: ls, o, o', _, hr, h => by
    have h' : (match exprS l.items 254 with
        | none => (o, false)
        | some t => if nameB l.name = false then (o, false) else linesS (m :: ls) (o ++ (((l.name ++ [58, 32]) ++ t) ++ [10]))) = (o', true) := h
    cases hx : exprS l.items 254 with
    | none => rw [hx] at h'; simp at h'
    | some t =>
      rw [hx] at h'
      simp only at h'
      split at h'
      · simp at h'
      · rename_i hb
        simp only [Bool.not_eq_false] at hb
        obtain ⟨u, U, h1, h2, h3, h4⟩ := lines_rd (m :: ls) (by simp) (fun y hy => hr y (List.mem_cons_of_mem _ hy)) h'
        obtain ⟨T, a1, a2, a3, a4, a5⟩ := expr_rd (k := 2) (by omega) (hr l (by simp)) hx
        refine ⟨(((l.name ++ [58, 32]) ++ t) ++ [10]) ++ u, ((WT l.name :: ⟨3, [58], 0⟩ :: T) ++ [NL]) ++ U, by rw [h1]; simp, fun rest => Lx.append ?_ (h2 rest), ?_, fun {r len toks ins lns n} hP ht hn => ?_⟩
        · have b0 : Lx l.name [WT l.name] (58 :: 32 :: (t ++ 10 :: (u ++ rest))) := word_lx (name_word hb) (by decide)
          have b1 : Lx ([58] ++ [32]) [⟨3, [58], 0⟩] (t ++ 10 :: (u ++ rest)) := Lx.gap (sign_lx (by decide))
          exact Lx.append (rest := u ++ rest) (Lx.append (rest := 10 :: (u ++ rest)) (Lx.append (rest := t ++ 10 :: (u ++ rest)) b0 b1) (a1 10 _ (.inr (.inr rfl)))) nl_lx
        · have := (name_ne hb).1
          simp [costL, this, a2, h3]
          omega
        · have ht' : toks.map TokV.tk = (WT l.name :: ⟨3, [58], 0⟩ :: T) ++ NL :: U := by rw [ht]; simp
          obtain ⟨q, toks', ⟨y, rfl, hy⟩, k1, k2⟩ := line_step hP ht' (NoNl.append (A := [_, _]) (NoNl.append (A := [_]) (B := [_]) (.one (show (1 : Int) ≠ 4 by decide)) (.one (show (3 : Int) ≠ 4 by decide))) a4) (by simp) fun own e ho => line_into (ins := ins) (lns := lns) hb (by omega) (fun hF => a5 hF) (by simp only [List.length_cons] at hn; omega) ho
          have hov : overP ⟨ins, lns ++ [y]⟩ = false := by
            have : y.un.name = l.name := by rw [hy]
            have : y.name = l.name := this
            rw [over_snoc, this]
            simpa using (name_ne hb).1
          rw [hov] at k2
          obtain ⟨lns', e1, e2⟩ := h4 k2 k1 (by simp only [List.length_cons] at hn ⊢; omega)
          refine ⟨y :: lns', by rw [List.map_cons, e1, hy]; rfl, ?_⟩
          rw [e2]
          simp

/-! ### programs -/
structure RngP (p : Prog) : Prop where
  ins : ∀ x ∈ p.inputs, ∀ d ∈ x.sides, Rng d.n
  lns : ∀ l ∈ p.lines, ∀ x ∈ l.items, ∀ n ∈ x.nums, Rng n
theorem lex_whole {t : Bs} {T : List Tk} (h : Lx t T []) (hl : t.length ≤ 65536) : ∃ toks, lexP t = (toks, (0, 0)) ∧ toks.map TokV.tk = T := by
  obtain ⟨L, h1, h2⟩ := h 0 []
  refine ⟨L, ?_, h1⟩
  unfold lexP
  rw [if_neg (by omega)]
  rw [List.append_nil] at h2
  rw [h2]
  rfl
theorem shown_read {p : Prog} {t : Bs} (hr : RngP p) (h : programS p = (t, true)) (hl : t.length ≤ 65536) : (∃ q, parseP t = (q, (0, 0)) ∧ q.un = p.un) ∧ (lexP t).2 = (0, 0) ∧ (lexP t).1.length = costP p := by
  unfold programS at h
  split at h
  · cases h
  · rename_i hbad
    simp only [not_or, Nat.not_lt] at hbad
    cases hi : inputsS p.inputs [] with
    | mk o b =>
      rw [hi] at h
      cases b with
      | false => cases h
      | true =>
        simp only at h
        obtain ⟨a, A, a1, a2, a3, a4⟩ := inputs_rd p.inputs hr.ins hi
        obtain ⟨b, B, b1, b2, b3, b4⟩ := lines_rd p.lines hbad.1 hr.lns h
        rw [a1] at b1
        rw [List.nil_append] at b1
        have hlx : Lx t (A ++ B) [] := by
          rw [b1]
          exact Lx.append (a2 _) (b2 _)
        obtain ⟨toks, t1, t2⟩ := lex_whole hlx hl
        have hlen : toks.length = costP p := by
          have := congrArg List.length t2
          rw [List.length_map, List.length_append, a3, b3] at this
          exact this
        refine ⟨?_, by rw [t1], by rw [t1]; exact hlen⟩
        have hP : PInv (parseP t) t.length toks ⟨[], []⟩ 0 false := ⟨toks.length + 1, by omega, by unfold parseP; rw [t1]; rfl⟩
        obtain ⟨toks', ins', c1, c2, c3⟩ := a4 hP t2 (by omega)
        obtain ⟨lns', d1, d2⟩ := b4 c3 c1 (by omega)
        exact ⟨_, d2, by simp only [Prog.un, List.nil_append]; rw [c2, d1]⟩
end Go.Proofs.YtngkedmndhmjcaaGreatDoor
/- Plain: what parse reads may be shown, in no more tokens (no program in sight). -/
namespace Go.Proofs.YtngkedmndhmjcaaGreatDoor
open Go.RowKit

/-! ### expressions -/
def opensI : Stk → Nat
  | [] => 0
  | none :: r => opensI r + 1
  | some _ :: r => opensI r
def VbOk (it : Item) : Prop := ¬ (it.how < 3 ∨ 7 < it.how ∨ it.nums ≠ [] ∨ it.name ≠ [] ∨ (verbS it).1 = [])
inductive Pend : Stk → List Piece → Nat → Prop
  | nil : Pend [] [] 0
  | brk {st P c} : Pend st P c → Pend (none :: st) P (c + 1)
  | one {it st P c} : VbOk it → twoH it.how = false → Pend st P c → Pend (some it :: st) P (c + (verbS it).2)
  | two {it st q P c} : VbOk it → twoH it.how = true → (leftS q).nest + opensI st ≤ 32 → Pend st P c → Pend (some it :: st) (q :: P) (c + (verbS it).2 + (leftS q).tokens)
theorem steps_append : ∀ (a b : List Item) (st : List Piece), stepsS (a ++ b) st = (stepsS a st).bind (stepsS b)
  | [], b, st => rfl
  | x :: a, b, st => by
    rw [List.cons_append, stepsS, stepsS]
    cases stepS st x with
    | none => rfl
    | some s => exact steps_append a b s
theorem steps_snoc {a : List Item} {x : Item} {st P P' : List Piece} (h : stepsS a st = some P) (hx : stepS P x = some P') : stepsS (a ++ [x]) st = some P' := by
  rw [steps_append, h]
  show stepsS [x] P = _
  rw [stepsS, hx]
  rfl
theorem step_verb {it : Item} (h : VbOk it) (st : List Piece) : stepS st it = applyS it st := by
  have h3 : ¬ (it.how = 1 ∨ it.how = 2) := fun e => h (.inl (by omega))
  unfold stepS
  rw [if_neg h3, if_neg h]
theorem fin_pend {st : Stk} {P : List Piece} {c : Nat} (h : Pend st P c) : ∀ {p : Piece}, p.nest + opensI st ≤ 32 → ∃ p' P' c', stepsS (finI st).1 (p :: P) = some (p' :: P') ∧ Pend (finI st).2 P' c' ∧ p'.tokens + c' = p.tokens + c ∧ p'.nest + opensI st ≤ 32 := by
  induction h with
  | nil => exact fun {p} hp => ⟨p, [], 0, rfl, .nil, rfl, hp⟩
  | brk h _ => exact fun {p} hp => ⟨p, _, _, rfl, .brk h, rfl, hp⟩
  | one hv ht h ih =>
    rename_i it st P c
    intro p hp
    obtain ⟨p', P', c', h1, h2, h3, h4⟩ := ih (p := ⟨(verbS it).1 :: p.words, p.nest, p.tokens + (verbS it).2, false⟩) hp
    refine ⟨p', P', c', ?_, h2, by rw [h3]; simp only; omega, h4⟩
    rw [finI]
    simp only [stepsS]
    rw [step_verb hv]
    unfold applyS
    rw [ht]
    exact h1
  | two hv ht hn h ih =>
    rename_i it st q P c
    intro p hp
    obtain ⟨p', P', c', h1, h2, h3, h4⟩ := ih (p := ⟨(leftS q).words ++ (verbS it).1 :: p.words, max p.nest (leftS q).nest, p.tokens + (verbS it).2 + (leftS q).tokens, false⟩) (by
      have : p.nest + opensI st ≤ 32 := hp
      simp only
      omega)
    refine ⟨p', P', c', ?_, h2, by rw [h3]; simp only; omega, h4⟩
    rw [finI]
    simp only [stepsS]
    rw [step_verb hv]
    unfold applyS
    rw [ht]
    exact h1
theorem fin_stop : ∀ st : Stk, ((finI st).2 = [] ∧ opensI st = 0) ∨ ∃ r, (finI st).2 = none :: r ∧ opensI st = opensI r + 1
  | [] => .inl ⟨rfl, rfl⟩
  | none :: r => .inr ⟨r, rfl, rfl⟩
  | some _ :: r => fin_stop r
theorem isOk_43 {a : Int} : isOk (a, 43) = false := by simp [isOk, fltEq]
theorem isOk_code {a c : Int} (hc : c ≠ 0) : isOk (a, c) = false := by
  have : (c == 0) = false := by simpa using hc
  simp [isOk, fltEq, this]
theorem two_mem {w : Bs} (h : twoF w ≠ 0) : w ∈ verbWords := by
  refine Classical.byContradiction fun hn => h ?_
  simp only [verbWords, List.mem_cons, not_or] at hn
  unfold twoF
  simp only [hn, if_false]
theorem one_mem {w : Bs} (h : oneF w ≠ 0) : w ∈ verbWords := by
  refine Classical.byContradiction fun hn => h ?_
  simp only [verbWords, List.mem_cons, not_or] at hn
  unfold oneF
  simp only [hn, or_self, if_false]
theorem verb_mem {w : Bs} {two : Bool} (h : verbF w two ≠ 0) : w ∈ verbWords := by
  cases two with
  | false => exact one_mem h
  | true => exact two_mem h
theorem first_some {two : Bool} {f : Int} {w : Bs} (hf : verbF w two = f) (h0 : f ≠ 0) : ∀ l : List Bs, w ∈ l → (∀ s ∈ l, s ≠ []) → firstOf two f l ≠ []
  | [], h, _ => by simp at h
  | s :: r, h, hne => by
    rw [firstOf]
    by_cases hs : (verbF s two != 0 && verbF s two == f) = true
    · rw [if_pos hs]
      exact hne s (by simp)
    · rw [if_neg hs]
      refine first_some hf h0 r ?_ fun x hx => hne x (by simp [hx])
      rcases List.mem_cons.1 h with rfl | h
      · exact absurd (by simp [hf, h0]) hs
      · exact h
theorem text_some {two : Bool} {w : Bs} {f : Int} (hf : verbF w two = f) (h0 : f ≠ 0) : textF two f ≠ [] := by
  rw [← first_text]
  exact first_some hf h0 _ (verb_mem (by rw [hf]; exact h0)) (by decide)
theorem phrase_vb {toks : List TokV} {k : Nat} {e : Int} {two : Bool} (h : isOk (phraseP toks k e two).flt = true) : VbOk (phraseP toks k e two).it ∧ twoH (phraseP toks k e two).it.how = two ∧ (verbS (phraseP toks k e two).it).2 + k ≤ (phraseP toks k e two).next := by
  unfold phraseP at h ⊢
  split at h
  · rename_i hm
    rw [if_pos hm]
    split at h
    · simp only [isOk_43] at h
      cases h
    · rename_i hb
      rw [if_neg hb]
      rw [not_or] at hb
      obtain ⟨h17, hl⟩ := hb
      by_cases h0 : twoF (peekP toks k).word = 0
      · simp only [h0, if_true, isOk_43] at h
        cases h
      · have ht := text_some (two := true) (w := (peekP toks k).word) rfl h0
        have ht' : textF true (twoF (peekP toks k).word) ≠ [] := ht
        simp only [ne_eq, Classical.not_not] at hl
        obtain ⟨hm1, hm2⟩ := hm
        rcases hm2 with hw | hw | hw
        all_goals
          rw [hw] at hl
          simp only [hw] at *
          subst hl
          refine ⟨?_, rfl, ?_⟩
          · simp [VbOk, Phr.it, verbS, ht', h17]
          · simp [Phr.it, verbS, ht', h17]
            omega
  · rename_i hm
    rw [if_neg hm]
    by_cases h0 : verbF (peekP toks k).word two = 0
    · simp only [h0, if_true, isOk_43] at h
      cases h
    · have ht := text_some (two := two) (w := (peekP toks k).word) rfl h0
      cases two with
      | false =>
        refine ⟨?_, rfl, ?_⟩
        · simp [VbOk, Phr.it, verbS, ht]
        · simp [Phr.it, verbS]
          omega
      | true =>
        refine ⟨?_, rfl, ?_⟩
        · simp [VbOk, Phr.it, verbS, ht]
        · simp [Phr.it, verbS]
          omega
/-- what a token is, its place apart -/
structure TkOk (t : TokV) : Prop where
  num : t.kind = 2 → t.word = []
  word : t.kind = 1 → t.n = 0
  rng : Rng t.n
def RngI (l : List Item) : Prop := ∀ x ∈ l, ∀ n ∈ x.nums, Rng n
theorem RngI.append {a b : List Item} (h : RngI a) (k : RngI b) : RngI (a ++ b) := fun x hx => (List.mem_append.1 hx).elim (h x) (k x)
/-- an expression that may be, of so many tokens at most -/
def ExOk (l : List Item) (m : Nat) : Prop := (∃ p, stepsS l [] = some [p] ∧ p.tokens ≤ m ∧ p.nest ≤ 32) ∧ RngI l
def RngS (st : Stk) : Prop := ∀ x, some x ∈ st → x.nums = []
theorem fin_rng : ∀ {st : Stk}, RngS st → RngI (finI st).1 ∧ RngS (finI st).2
  | [], _ => ⟨fun x hx => by simp [finI] at hx, fun x hx => by simp [finI] at hx⟩
  | none :: r, h => ⟨fun x hx => by simp [finI] at hx, h⟩
  | some y :: r, h => by
    obtain ⟨a, b⟩ := fin_rng (st := r) fun x hx => h x (List.mem_cons_of_mem _ hx)
    refine ⟨fun x hx => ?_, b⟩
    rw [finI] at hx
    rcases List.mem_cons.1 hx with rfl | hx
    · rw [h x (List.mem_cons_self ..)]
      simp
    · exact a x hx
theorem left_tokens (p : Piece) : p.tokens ≤ (leftS p).tokens ∧ (leftS p).tokens ≤ p.tokens + 2 ∧ p.nest ≤ (leftS p).nest ∧ (leftS p).nest ≤ p.nest + 1 := by
  unfold leftS
  split <;> simp
theorem pend_none {P : List Piece} {c : Nat} (h : Pend [] P c) : P = [] ∧ c = 0 := by
  cases h
  exact ⟨rfl, rfl⟩
theorem pend_brk {st : Stk} {P : List Piece} {c : Nat} (h : Pend (none :: st) P c) : ∃ d, c = d + 1 ∧ Pend st P d := by
  cases h with
  | brk h => exact ⟨_, rfl, h⟩
theorem nums_mem {toks : List TokV} (ht : ∀ t ∈ toks, TkOk t) {k : Nat} {n : Int} (h : n ∈ numsFrom toks k) : Rng n := by
  unfold numsFrom at h
  obtain ⟨t, h1, rfl⟩ := List.mem_map.1 h
  exact (ht t (List.mem_of_mem_drop (List.takeWhile_sublist _ |>.subset h1))).rng
section
variable {toks : List TokV} {e : Int} {l : List Item} {flt : Flt} {k0 : Nat}
/-- behind an operand -/
structure StB (toks : List TokV) (k0 k : Nat) (out : List Item) (st : Stk) (o : Nat) (p : Piece) (P : List Piece) (c : Nat) : Prop where
  steps : stepsS out [] = some (p :: P)
  pend : Pend st P c
  cost : c + (leftS p).tokens + k0 ≤ k
  nest : opensI st + (leftS p).nest ≤ 32
  opens : opensI st = o
  rng : RngI out
  rngS : RngS st
  le : k ≤ toks.length
structure StA (toks : List TokV) (k0 k : Nat) (out : List Item) (st : Stk) (o : Nat) (P : List Piece) (c : Nat) : Prop where
  steps : stepsS out [] = some P
  pend : Pend st P c
  cost : c + k0 ≤ k
  opens : opensI st = o
  rng : RngI out
  rngS : RngS st
  le : k ≤ toks.length
theorem phrase_nums (toks : List TokV) (k : Nat) (e : Int) (b : Bool) : (phraseP toks k e b).it.nums = [] := rfl
theorem StB.verb {k : Nat} {out : List Item} {st : Stk} {o : Nat} {p : Piece} {P : List Piece} {c : Nat} (h : StB toks k0 k out st o p P c) (hok : isOk (phraseP toks k e true).flt = true) (hk : k < toks.length) :
    StA toks k0 (phraseP toks k e true).next out (some (phraseP toks k e true).it :: st) o (p :: P) (c + (verbS (phraseP toks k e true).it).2 + (leftS p).tokens) := by
  obtain ⟨v1, v2, v3⟩ := phrase_vb hok
  refine ⟨h.steps, .two v1 v2 (by have := h.nest; omega) h.pend, by have := h.cost; omega, h.opens, h.rng, fun x hx => ?_, phrase_in hk⟩
  rcases List.mem_cons.1 hx with e1 | hx
  · cases e1
    exact phrase_nums ..
  · exact h.rngS x hx
theorem StA.verb {k : Nat} {out : List Item} {st : Stk} {o : Nat} {P : List Piece} {c : Nat} (h : StA toks k0 k out st o P c) (hok : isOk (phraseP toks k e false).flt = true) (hk : k < toks.length) :
    StA toks k0 (phraseP toks k e false).next out (some (phraseP toks k e false).it :: st) o P (c + (verbS (phraseP toks k e false).it).2) := by
  obtain ⟨v1, v2, v3⟩ := phrase_vb hok
  refine ⟨h.steps, .one v1 v2 h.pend, by have := h.cost; omega, h.opens, h.rng, fun x hx => ?_, phrase_in hk⟩
  rcases List.mem_cons.1 hx with e1 | hx
  · cases e1
    exact phrase_nums ..
  · exact h.rngS x hx
theorem StA.operand {k m : Nat} {out : List Item} {st : Stk} {o : Nat} {P : List Piece} {c : Nat} {x : Item} {p : Piece} (h : StA toks k0 k out st o P c) (hx : stepS P x = some (p :: P)) (hp : p.plain = true) (hn : p.nest = 0) (ht : p.tokens ≤ m) (ho : o ≤ 32) (hr : ∀ n ∈ x.nums, Rng n) (hl : k + m ≤ toks.length) :
    StB toks k0 (k + m) (out ++ [x]) st o p P c := by
  have e1 : leftS p = p := by unfold leftS; rw [if_pos hp]
  exact ⟨steps_snoc h.steps hx, h.pend, by rw [e1]; have := h.cost; omega, by rw [e1, hn, h.opens]; exact ho, h.opens, h.rng.append fun y hy => by rw [List.mem_singleton.1 hy]; exact hr, h.rngS, hl⟩
theorem StB.close {k : Nat} {out : List Item} {st : Stk} {o : Nat} {p : Piece} {P : List Piece} {c : Nat} (h : StB toks k0 k out st (o + 1) p P c) (hk : k < toks.length) :
    ∃ p' P' c', StB toks k0 (k + 1) (out ++ (finI st).1) (finI st).2.tail o p' P' c' := by
  have hn := h.nest
  have hc := h.cost
  have ho := h.opens
  obtain ⟨l1, l2, l3, l4⟩ := left_tokens p
  obtain ⟨p', P', c', h1, h2, h3, h4⟩ := fin_pend h.pend (p := p) (by omega)
  rcases fin_stop st with ⟨_, h0⟩ | ⟨r, e1, e2⟩
  · omega
  · rw [e1] at h2
    obtain ⟨d, rfl, h5⟩ := pend_brk h2
    obtain ⟨m1, m2, m3, m4⟩ := left_tokens p'
    obtain ⟨r1, r2⟩ := fin_rng h.rngS
    refine ⟨p', P', d, by rw [steps_append, h.steps]; exact h1, by rw [e1]; exact h5, by omega, by rw [e1]; simp only [List.tail_cons]; omega, by rw [e1]; simp only [List.tail_cons]; omega, h.rng.append r1, ?_, by omega⟩
    intro x hx
    rw [e1] at r2 hx
    exact r2 x (List.mem_cons_of_mem _ hx)
theorem StB.done {k : Nat} {out : List Item} {st : Stk} {p : Piece} {P : List Piece} {c : Nat} (h : StB toks k0 k out st 0 p P c) : ExOk (out ++ (finI st).1) (toks.length - k0) := by
  have hn := h.nest
  have hc := h.cost
  have ho := h.opens
  have hle := h.le
  obtain ⟨l1, l2, l3, l4⟩ := left_tokens p
  obtain ⟨p', P', c', h1, h2, h3, h4⟩ := fin_pend h.pend (p := p) (by omega)
  rcases fin_stop st with ⟨e1, _⟩ | ⟨r, _, e2⟩
  · rw [e1] at h2
    obtain ⟨rfl, rfl⟩ := pend_none h2
    exact ⟨⟨p', by rw [steps_append, h.steps]; exact h1, by omega, by omega⟩, h.rng.append (fin_rng h.rngS).1⟩
  · omega
theorem behind_ok {rec : Nat → List Item → Stk → Nat → ExprR} {kk : Nat} (hrec : ∀ {k out st o P c}, kk < k → StA toks k0 k out st o P c → o ≤ 32 → rec k out st o = (l, flt) → ExOk l (toks.length - k0)) (hok : isOk flt = true) :
    ∀ (o : Nat) {k : Nat} {out : List Item} {st : Stk} {p : Piece} {P : List Piece} {c : Nat}, kk ≤ k → StB toks k0 k out st o p P c → behindP toks e rec o k out st = (l, flt) → ExOk l (toks.length - k0) := by
  have rest : ∀ (o : Nat) {k : Nat} {out : List Item} {st : Stk} {p : Piece} {P : List Piece} {c : Nat}, kk ≤ k → StB toks k0 k out st o p P c → restP toks e rec o k out st = (l, flt) → ExOk l (toks.length - k0) := by
    intro o k out st p P c hkk h hr
    unfold restP at hr
    split at hr
    · split at hr
      · cases hr
        rw [isOk_code (by decide)] at hok
        cases hok
      · rename_i h0
        cases hr
        obtain rfl : o = 0 := by omega
        exact h.done
    · rename_i h4
      split at hr
      · cases hr
        rw [isOk_code (by decide)] at hok
        cases hok
      · split at hr
        · rename_i hp
          have := phrase_next toks k e true
          exact hrec (by omega) (h.verb hp (kind_lt h4)) (by have := h.nest; have := h.opens; omega) hr
        · rename_i hp
          cases hr
          exact absurd hok hp
  intro o
  induction o with
  | zero => exact fun hkk h hr => rest 0 hkk h hr
  | succ o ih =>
    intro k out st p P c hkk h hr
    rw [behindP] at hr
    split at hr
    · rename_i hc
      obtain ⟨p', P', c', h'⟩ := h.close (kind_lt (by rw [hc.1]; decide))
      exact ih (by omega) h' hr
    · exact rest _ hkk h hr
theorem go_ok (ht : ∀ t ∈ toks, TkOk t) (h256 : toks.length ≤ 256) (hok : isOk flt = true) : ∀ (f : Nat) {k : Nat} {out : List Item} {st : Stk} {o : Nat} {P : List Piece} {c : Nat}, toks.length + 1 ≤ f + k → StA toks k0 k out st o P c → o ≤ 32 → exprGo toks e f k out st o = (l, flt) → ExOk l (toks.length - k0)
  | 0, k, out, st, o, P, c, hf, h, _, _ => by have := h.le; omega
  | f + 1, k, out, st, o, P, c, hf, h, ho, hg => by
    have hrec : ∀ (k' : Nat), k < k' → ∀ {out st o P c}, StA toks k0 k' out st o P c → o ≤ 32 → exprGo toks e f k' out st o = (l, flt) → ExOk l (toks.length - k0) := fun k' hk' => go_ok ht h256 hok f (by omega)
    rw [exprGo] at hg
    split at hg
    · rename_i hv
      split at hg
      · rename_i hp
        have := phrase_next toks k e false
        exact hrec _ (by omega) (h.verb hp (kind_lt hv.2.1)) ho hg
      · rename_i hp
        cases hg
        exact absurd hok hp
    · split at hg
      · rename_i hb
        split at hg
        · cases hg
          rw [isOk_code (by decide)] at hok
          cases hok
        · rename_i h32
          have hk := kind_lt (toks := toks) (k := k) (by rw [hb.1]; decide)
          refine hrec (k + 1) (by omega) (P := P) (c := c + 1) ⟨h.steps, .brk h.pend, by have := h.cost; omega, by rw [opensI, h.opens], h.rng, fun x hx => h.rngS x (by simpa using hx), hk⟩ (by omega) hg
      · split at hg
        · rename_i h2
          have hn := nums_more h2
          have hl := nums_le toks k
          have hk := kind_lt (toks := toks) (k := k) (by rw [h2]; decide)
          have hst : stepS P (numItem toks k) = some (⟨(numsFrom toks k).map spellN, 0, (numsFrom toks k).length, true⟩ :: P) := by
            have hne : numsFrom toks k ≠ [] := by rw [hn]; simp
            have h3 : ¬ 256 < (numsFrom toks k).length := by omega
            simp [stepS, numItem, operandS, hne, h3]
          have hB := h.operand (m := (numsFrom toks k).length) hst rfl rfl (Nat.le_refl _) ho (fun n hn => nums_mem ht hn) (by omega)
          exact behind_ok (kk := k) (fun hk' => hrec _ hk') hok o (by omega) hB hg
        · split at hg
          · rename_i hnm
            have hk := kind_lt (toks := toks) (k := k) (by rw [hnm.1]; decide)
            have hst : stepS P (nameItem toks k) = some (⟨[(peekP toks k).word], 0, 1, true⟩ :: P) := by simp [stepS, nameItem, operandS, hnm.2]
            have hB := h.operand (m := 1) hst rfl rfl (Nat.le_refl _) ho (fun n hn => by simp [nameItem] at hn) (by omega)
            exact behind_ok (kk := k) (fun hk' => hrec _ hk') hok o (by omega) hB hg
          · split at hg
            · cases hg
              rw [isOk_code (by decide)] at hok
              cases hok
            · cases hg
              rw [isOk_code (by decide)] at hok
              cases hok
end
end Go.Proofs.YtngkedmndhmjcaaGreatDoor
