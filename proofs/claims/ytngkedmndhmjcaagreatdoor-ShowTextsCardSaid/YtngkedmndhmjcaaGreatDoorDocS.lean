/- Walks of show.shower.program, strings.Builder.String, show.write, show.Right, show.Show. (Printed by wip/gen/show3.py.) -/
import Derived.Test.YtngkedmndhmjcaaGreatDoorExprS
namespace Go.Proofs.YtngkedmndhmjcaaGreatDoor
open Go.RowKit

theorem nameB_nil : nameB [] = false := by decide +kernel
/-- texts and numbers as Go has them -/
structure ProgOk (p : ProgV) : Prop where
  input : ∀ x ∈ p.inputs.list, x.name.length ≤ 140737488355328 ∧ ∀ d ∈ x.sides.list, d.name.length ≤ 140737488355328 ∧ -9223372036854775808 ≤ d.n ∧ d.n ≤ 9223372036854775807
  line : ∀ x ∈ p.lines.list, x.name.length ≤ 140737488355328 ∧ ∀ it ∈ x.items.list, it.name.length ≤ 140737488355328 ∧ ∀ z ∈ it.nums.list, -9223372036854775808 ≤ z ∧ z ≤ 9223372036854775807
def progFrom (p : Prog) (i : Nat) (out : Bs) : Bs × Bool := match inputsS (p.inputs.drop i) out with
  | (o, false) => (o, false)
  | (o, true) => linesS p.lines o
section
variable {p : Prog} {i : Nat} {out : Bs} {x : Input} {t : Bs}
theorem prog_small (h : p.lines = [] ∨ 64 < p.inputs.length + p.lines.length) : programS p = ([], false) := by rw [programS, if_pos h]
theorem prog_start (h : ¬ (p.lines = [] ∨ 64 < p.inputs.length + p.lines.length)) : programS p = progFrom p 0 [] := by rw [programS, if_neg h]; rfl
theorem prog_fail (hx : p.inputs[i]? = some x) (hn : inputS x = none) : progFrom p i out = (out, false) := by rw [progFrom, drop_some hx, inputsS, hn]
theorem prog_step (hx : p.inputs[i]? = some x) (hn : inputS x = some t) : progFrom p i out = progFrom p (i + 1) (out ++ (([105, 110, 32] ++ t) ++ [10])) := by rw [progFrom, drop_some hx, inputsS, hn]; rfl
theorem prog_lines (hi : p.inputs.length ≤ i) : progFrom p i out = linesS (p.lines.drop 0) out := by rw [progFrom, List.drop_of_length_le hi]; rfl
end
section
variable {l : List Line} {i : Nat} {out : Bs} {x : Line} {t : Bs}
theorem lines_end (hi : l.length ≤ i) : linesS (l.drop i) out = (out, true) := by rw [List.drop_of_length_le hi]; rfl
theorem lines_last (hx : l[i]? = some x) (hi : i + 1 = l.length) : l.drop i = [x] := by rw [drop_some hx, List.drop_of_length_le (by omega)]
theorem lines_more (hx : l[i]? = some x) (hi : i + 1 < l.length) : ∃ y r, l.drop (i + 1) = y :: r ∧ l.drop i = x :: y :: r := by
  have : l[i + 1]? = some l[i + 1] := List.getElem?_eq_getElem hi
  exact ⟨_, _, drop_some this, by rw [drop_some hx, drop_some this]⟩
theorem lines_expr (hx : l[i]? = some x) (he : exprS x.items (if i + 1 = l.length then 255 else 254) = none) : linesS (l.drop i) out = (out, false) := by
  have hl := (List.getElem?_eq_some_iff.1 hx).1
  by_cases hi : i + 1 = l.length
  · rw [if_pos hi] at he
    rw [lines_last hx hi, linesS, he]
  · rw [if_neg hi] at he
    obtain ⟨y, r, _, h2⟩ := lines_more hx (by omega)
    rw [h2, linesS, he]
    exact fun h => by cases h
theorem lines_named (hx : l[i]? = some x) (hi : i + 1 = l.length) (hn : x.name ≠ []) {t : Bs} (he : exprS x.items 255 = some t) : linesS (l.drop i) out = (out, false) := by
  rw [lines_last hx hi, linesS, he]
  simp [hn]
theorem lines_nameless (hx : l[i]? = some x) (hi : i + 1 < l.length) (hn : nameB x.name = false) {t : Bs} (he : exprS x.items 254 = some t) : linesS (l.drop i) out = (out, false) := by
  obtain ⟨y, r, _, h2⟩ := lines_more hx hi
  rw [h2, linesS, he]
  · simp [hn]
  · exact fun h => by cases h
theorem lines_out (hx : l[i]? = some x) (hi : i + 1 = l.length) (hn : x.name = []) {t : Bs} (he : exprS x.items 255 = some t) : linesS (l.drop i) out = linesS (l.drop (i + 1)) (out ++ (([111, 117, 116, 32] ++ t) ++ [10])) := by
  rw [lines_last hx hi, linesS, he, lines_end (by omega)]
  simp [hn]
theorem lines_step (hx : l[i]? = some x) (hi : i + 1 < l.length) (hn : nameB x.name = true) {t : Bs} (he : exprS x.items 254 = some t) : linesS (l.drop i) out = linesS (l.drop (i + 1)) (out ++ (((x.name ++ [58, 32]) ++ t) ++ [10])) := by
  obtain ⟨y, r, h1, h2⟩ := lines_more hx hi
  rw [h2, h1, linesS, he]
  · simp [hn]
  · exact fun h => by cases h
end
theorem step_okp {st st' : List Piece} {x : Item} (hz : ∀ z ∈ x.nums, -9223372036854775808 ≤ z ∧ z ≤ 9223372036854775807) (ho : ∀ p ∈ st, p.words ≠ [] ∧ wsz p.words ≤ 40 * p.tokens) (h : stepS st x = some st') : ∀ p ∈ st', p.words ≠ [] ∧ wsz p.words ≤ 40 * p.tokens := by
  unfold stepS at h
  split at h
  · cases hq : operandS x with
    | none => rw [hq] at h; cases h
    | some q =>
      rw [hq] at h
      injection h with h
      subst h
      intro p hp
      rcases List.mem_cons.1 hp with rfl | hp
      · exact ⟨(operand_ok hz hq).1, (operand_ok hz hq).2.1⟩
      · exact ho p hp
  · split at h
    · cases h
    · rename_i hn
      have hv : (verbS x).1 ≠ [] := fun e => hn (.inr (.inr (.inr (.inr e))))
      obtain ⟨v1, _, v3⟩ := verb_len x
      have v3 := v3 hv
      unfold applyS at h
      split at h
      · split at h
        · rename_i p q r
          injection h with h
          subst h
          have hq := ho q (by simp)
          obtain ⟨k1, k2, _, _⟩ := left_ok (q := ⟨⟨none, 0, q.words⟩, q.nest, q.tokens, q.plain⟩) hq
          have k1 : (leftS q).words ≠ [] := k1
          have k2 : wsz (leftS q).words ≤ 40 * (leftS q).tokens := k2
          have hp := ho p (by simp)
          intro y hy
          rcases List.mem_cons.1 hy with rfl | hy
          · refine ⟨by simp, ?_⟩
            simp only [wsz_append, wsz_cons]
            omega
          · exact ho y (by simp [hy])
        · cases h
      · split at h
        · rename_i p r
          injection h with h
          subst h
          have hp := ho p (by simp)
          intro y hy
          rcases List.mem_cons.1 hy with rfl | hy
          · refine ⟨by simp, ?_⟩
            simp only [wsz_cons]
            omega
          · exact ho y (by simp [hy])
        · cases h
theorem steps_okp : ∀ {l : List Item} {st st' : List Piece}, (∀ x ∈ l, ∀ z ∈ x.nums, -9223372036854775808 ≤ z ∧ z ≤ 9223372036854775807) → (∀ p ∈ st, p.words ≠ [] ∧ wsz p.words ≤ 40 * p.tokens) → stepsS l st = some st' → ∀ p ∈ st', p.words ≠ [] ∧ wsz p.words ≤ 40 * p.tokens
  | [], st, st', _, ho, h => by
    simp [stepsS] at h
    subst h
    exact ho
  | x :: r, st, st', hz, ho, h => by
    rw [stepsS] at h
    cases h1 : stepS st x with
    | none => rw [h1] at h; cases h
    | some s1 =>
      rw [h1] at h
      exact steps_okp (fun y hy => hz y (by simp [hy])) (step_okp (hz x (by simp)) ho h1) h
theorem exprS_len {l : List Item} {most : Nat} {t : Bs} (hz : ∀ x ∈ l, ∀ z ∈ x.nums, -9223372036854775808 ≤ z ∧ z ≤ 9223372036854775807) (h : exprS l most = some t) : t.length ≤ 40 * most := by
  unfold exprS at h
  split at h
  · cases h
  · split at h
    · rename_i p hp
      split at h
      · cases h
      · injection h with h
        subst h
        have h1 := (steps_okp hz (fun p hp => by simp at hp) hp p (by simp)).2
        have := join_len p.words
        omega
    · cases h
section
variable {x : InputV} {j : Nat} {d : SideV} {t : Bs}
theorem input_bad (h : nameB x.name = false ∨ 4 < x.sides.list.length) : inputS x.inp = none := by
  rw [inputS, if_pos (show nameB x.inp.name = false ∨ 4 < x.inp.sides.length from h.imp id fun h => by show 4 < (x.sides.list.map SideV.sd).length; rw [List.length_map]; exact h)]
theorem input_start (h : nameB x.name = true) (h4 : ¬ 4 < x.sides.list.length) : inputS x.inp = sidesS ((x.sides.list.map SideV.sd).drop 0) x.name := by
  rw [inputS, if_neg]
  · rfl
  · rintro (h' | h')
    · rw [show x.inp.name = x.name from rfl, h] at h'
      cases h'
    · rw [show x.inp.sides = x.sides.list.map SideV.sd from rfl, List.length_map] at h'
      exact h4 h'
theorem sd_at (hd : x.sides.list[j]? = some d) : (x.sides.list.map SideV.sd)[j]? = some d.sd := by rw [List.getElem?_map, hd]; rfl
theorem side_num (hd : x.sides.list[j]? = some d) (hn : d.name = []) : sidesS ((x.sides.list.map SideV.sd).drop j) t = sidesS ((x.sides.list.map SideV.sd).drop (j + 1)) (t ++ ([32] ++ spellN d.n)) := by
  rw [drop_some (sd_at hd), sidesS, if_pos (show d.sd.name = [] from hn)]
  rfl
theorem side_name (hd : x.sides.list[j]? = some d) (hn : d.name ≠ []) (h0 : d.n = 0) (hb : nameB d.name = true) : sidesS ((x.sides.list.map SideV.sd).drop j) t = sidesS ((x.sides.list.map SideV.sd).drop (j + 1)) (t ++ ([32] ++ d.name)) := by
  rw [drop_some (sd_at hd), sidesS, if_neg (show ¬ d.sd.name = [] from hn), if_pos (show d.sd.n = 0 ∧ nameB d.sd.name = true from ⟨h0, hb⟩)]
  rfl
theorem side_bad (hd : x.sides.list[j]? = some d) (hn : d.name ≠ []) (h : d.n ≠ 0 ∨ nameB d.name = false) : sidesS ((x.sides.list.map SideV.sd).drop j) t = none := by
  rw [drop_some (sd_at hd), sidesS, if_neg (show ¬ d.sd.name = [] from hn), if_neg]
  rintro ⟨h1, h2⟩
  rcases h with h | h
  · exact h h1
  · rw [show d.sd.name = d.name from rfl, h] at h2; cases h2
theorem sides_done (hj : x.sides.list.length ≤ j) : sidesS ((x.sides.list.map SideV.sd).drop j) t = some t := by
  rw [List.drop_of_length_le (by rw [List.length_map]; exact hj)]
  rfl
end
theorem map_at {α β : Type} {f : α → β} {l : List α} {i : Nat} {x : α} (h : l[i]? = some x) : (l.map f)[i]? = some (f x) := by rw [List.getElem?_map, h]; rfl
theorem some_getD {o : Option Bs} (h : o.isSome = true) : o = some (o.getD []) := by
  cases o with
  | none => cases h
  | some x => rfl
theorem shower_built (r1 r2 : Nat) : Tryz.prog.built 75 [(0, .map (some r1)), (1, .map (some r2))] = some #[.map (some r1), .map (some r2), .pointer none, .slice none 0 0] := by kernel_rfl
theorem sprogram_zero_api_Input : (Tryz.prog.info? 59).bind (·.zero) = some (.agg #[.string (bs []), .int .i64 0, .slice none 0 0]) := by kernel_rfl
theorem sprogram_zero_api_Side : (Tryz.prog.info? 61).bind (·.zero) = some (.agg #[.string (bs []), .int .i64 0]) := by kernel_rfl
theorem sprogram_zero_api_Line : (Tryz.prog.info? 42).bind (·.zero) = some (.agg #[.string (bs []), .int .i64 0, .slice none 0 0]) := by kernel_rfl

set_option maxRecDepth 100000 in
theorem sprogram_spec (b r1 r2 : Nat) (P : ProgV) (hP : ProgOk P) (hl1 : P.inputs.list.length ≤ 140737488355328) (hl2 : P.lines.list.length ≤ 140737488355328) : Spec Tryz.prog 27 [.pointer (some ⟨b, 0, none⟩), .agg #[.slice P.inputs.addr P.inputs.list.length P.inputs.cap, .slice P.lines.addr P.lines.list.length P.lines.cap]] [.obj b (.cells [.map (some r1), .map (some r2), .pointer none, .slice none 0 0].toArray 75), byteE.row (.slice none 0 0) 5 []] [mapF r1 .u8 (textsM false), mapF r2 .u8 (textsM true), globF, inputE.sl (.slice P.inputs.addr P.inputs.list.length P.inputs.cap) P.inputs.list, inputsF P.inputs.list, lineE.sl (.slice P.lines.addr P.lines.list.length P.lines.cap) P.lines.list, linesF P.lines.list] (fun (_ : (Option Addr × Nat) × Bool) => .bool (programS P.pr).2) (fun (x : (Option Addr × Nat) × Bool) => [.obj b (.cells [.map (some r1), .map (some r2), ptrV x.2 b, .slice x.1.1 (programS P.pr).1.length x.1.2].toArray 75), byteE.row (.slice x.1.1 (programS P.pr).1.length x.1.2) 5 (programS P.pr).1]) (fun (x : (Option Addr × Nat) × Bool) => [Fact.pure ((programS P.pr).1 = [] → x.1.1 = none)]) := by
  have hT := show2T_ok
  have hpl : P.pr.lines.length = P.lines.list.length := List.length_map _
  have hpi : P.pr.inputs.length = P.inputs.list.length := List.length_map _
  generalize hR : programS P.pr = r
  refine spec_of Tryz.func27 rfl Tryz.ntmps27 rfl ?_
  intro β hM
  refine sr ?_
  refine at_box rfl rfl rfl rfl rfl rfl fun b1 => ?_
  refine sp hT ?_
  refine nn ?_
  refine sr ?_
  refine sp hT ?_
  refine ss (ldO hT (knows_own (off := 1) .head)) ?_
  refine sp2 hT ?_
  refine at_int (z' := (((P.lines.list.length : Nat) : Int) - 1)) (wrapZ (by omega) (by omega)) ?_
  refine sp hT ?_
  refine nn ?_
  refine at_seq ?_
  refine sr ?_
  refine sp3 hT ?_
  refine at_case (fun hg23 => ?_) (fun hg23 => ?_)
  · have hg23 := of_decide_eq_true hg23
    refine sk4 ?_
    refine sp2 hT ?_
    refine sk4 ?_
    refine sk4 ?_
    refine sp hT ?_
    refine nn ?_
    refine at_true rfl rfl ?_
    refine sr ?_
    refine sp hT ?_
    refine nn ?_
    refine at_ret ?_
    refine r_then ?_
    have hr := hR.symm.trans (prog_small (by first | exact .inl (List.map_eq_nil_iff.2 (List.eq_nil_of_length_eq_zero (by omega))) | exact .inr (by omega)))
    subst hr
    exact at_res1 ((_, _), false) rfl (rv_tmp rfl) (.cons kT1 (.cons kT1 .nil)) ⟨Has.pure (fun _ => rfl), trivial⟩ rfl
  have hg23 := Int.not_lt.1 (of_decide_eq_false hg23)
  refine sp hT ?_
  refine ss (ldO hT (knows_own (off := 0) .head)) ?_
  refine sp4 hT ?_
  refine at_case (fun hg29 => ?_) (fun hg29 => ?_)
  · have hg29 := of_decide_eq_true hg29
    refine sk4 ?_
    refine sk4 ?_
    refine sp hT ?_
    refine nn ?_
    refine at_true rfl rfl ?_
    refine sr ?_
    refine sp hT ?_
    refine nn ?_
    refine at_ret ?_
    refine r_then ?_
    have hr := hR.symm.trans (prog_small (by first | exact .inl (List.map_eq_nil_iff.2 (List.eq_nil_of_length_eq_zero (by omega))) | exact .inr (by omega)))
    subst hr
    exact at_res1 ((_, _), false) rfl (rv_tmp rfl) (.cons kT1 (.cons kT1 .nil)) ⟨Has.pure (fun _ => rfl), trivial⟩ rfl
  have hg29 := Int.not_lt.1 (of_decide_eq_false hg29)
  refine sp hT ?_
  refine ss (ldO hT (knows_own (off := 1) .head)) ?_
  refine sp2 hT ?_
  refine ss (ldO hT (knows_own (off := 0) .head)) ?_
  refine sp2 hT ?_
  refine at_int (z' := (((64 - P.inputs.list.length) : Nat) : Int)) (wrapN (by omega) (by omega)) ?_
  refine sp2 hT ?_
  refine nn ?_
  refine at_cond rfl (fun hc38 => ?_) (fun hc38 => ?_)
  · have hc38 := of_decide_eq_true hc38
    refine sr ?_
    refine sp hT ?_
    refine nn ?_
    refine at_ret ?_
    refine r_then ?_
    have hr := hR.symm.trans (prog_small (by first | exact .inl (List.map_eq_nil_iff.2 (List.eq_nil_of_length_eq_zero (by omega))) | exact .inr (by omega)))
    subst hr
    exact at_res1 ((_, _), false) rfl (rv_tmp rfl) (.cons kT1 (.cons kT1 .nil)) ⟨Has.pure (fun _ => rfl), trivial⟩ rfl
  have hc38 := Int.not_lt.1 (of_decide_eq_false hc38)
  refine at_skip ?_
  refine n_then ?_
  refine at_seq ?_
  refine sr ?_
  refine sp hT ?_
  refine ss (ldO hT (knows_own (off := 0) .head)) ?_
  refine sp2 hT ?_
  refine nn ?_
  refine at_block ?_
  refine at_loop2 (ι := Nat × Bs × Bool × Option Addr × Nat) [(0, _), (3, _), (5, _), (40, _), (41, _)] ⟨rfl, rfl, rfl, rfl, rfl, trivial⟩ (fun ⟨i, out, u, G, c⟩ => [(42, .int .i64 (i : Nat))]) (fun ⟨i, out, u, G, c⟩ => [.obj b (.cells [.map (some r1), .map (some r2), ptrV u b, .slice G out.length c].toArray 75), byteE.row (.slice G out.length c) 5 out]) (fun ⟨i, out, u, G, c⟩ => [Fact.pure (i ≤ P.inputs.list.length ∧ programS P.pr = progFrom P.pr i out ∧ (out = [] → G = none) ∧ out.length ≤ 1000 * i)]) (fun ⟨i, out, u, G, c⟩ => P.inputs.list.length - i) (0, [], false, none, 0) ⟨rfl, trivial⟩ (.cons kT1 (.cons kT1 .nil)) ⟨Has.pure (⟨by omega, prog_start (by rintro (h | h); (have h := congrArg List.length h; rw [hpl, List.length_nil] at h; omega); omega), fun _ => rfl, by simp⟩), trivial⟩ ?_
  rintro ⟨i, out, u, G, c⟩
  dsimp only
  refine at_know (Has.of mT0) fun hinv5 => ?_
  refine sr ?_
  refine sp hT ?_
  refine nn ?_
  refine at_seq ?_
  refine at_cond rfl (fun hc43 => ?_) (fun hc43 => ?_)
  · have hc43 := of_decide_eq_true hc43
    refine at_skip ?_
    refine n_then ?_
    refine at_seq ?_
    refine at_block ?_
    refine sr ?_
    obtain ⟨x2, hx3⟩ : ∃ x, P.inputs.list[i]? = some x := ⟨_, List.getElem?_eq_getElem (by omega)⟩
    refine ss (sti_index hT (k := i) (reads_fact (Has.of mT4)) rfl rfl rfl rfl rfl rfl rfl (by omega)) ?_
    refine ss (sti_loadN hT (Reads.knows (reads_fact (Has.of mT4)) (k := i) (x := x2) hx3 0) rfl rfl rfl rfl rfl) ?_
    refine at_alloc rfl rfl rfl rfl sprogram_zero_api_Input rfl fun b4 => ?_
    refine sto hT .head ?_
    refine nn ?_
    refine at_seq ?_
    refine at_seq ?_
    have hxi := hP.input x2 (List.mem_of_getElem? hx3)
    have hx0 : P.pr.inputs[i]? = some x2.inp := map_at hx3
    refine at_fact (sidesFct x2) (Has.each (Has.of mT5) (List.mem_of_getElem? hx3)) ?_
    refine at_region ?_
    refine sp hT ?_
    refine ss (ldO hT (knows_own (off := 0) .head)) ?_
    refine at_call (callFunc_enter Tryz.func35 rfl rfl) (Name_spec _ hxi.1) rfl rfl rfl rfl rfl .nil ⟨Has.of mT4, trivial⟩ fun _ => ?_
    refine sp2 hT ?_
    refine at_case (fun hg50 => ?_) (fun hg50 => ?_)
    · have hg50 := not_t hg50
      refine sk4 ?_
      refine sp hT ?_
      refine nn ?_
      refine at_true rfl rfl ?_
      refine sr ?_
      refine sp hT ?_
      refine nn ?_
      refine at_ret ?_
      refine r_then ?_
      refine r_block ?_
      refine r_then ?_
      refine r_then ?_
      refine r_block ?_
      refine r_then ?_
      have hr := hR.symm.trans (hinv5.2.1.trans (prog_fail hx0 (input_bad (by first | exact .inl (by assumption) | exact .inr (by omega)))))
      subst hr
      exact at_res1 ((_, _), u) rfl (rv_tmp rfl) (.cons kT1 (.cons kT1 .nil)) ⟨Has.pure (hinv5.2.2.1), trivial⟩ rfl
    have hg50 := not_f hg50
    refine sp hT ?_
    refine ss (ldO hT (knows_own (off := 2) .head)) ?_
    refine sp3 hT ?_
    refine nn ?_
    refine at_cond rfl (fun hc55 => ?_) (fun hc55 => ?_)
    · have hc55 := of_decide_eq_true hc55
      refine sr ?_
      refine sp hT ?_
      refine nn ?_
      refine at_ret ?_
      refine r_then ?_
      refine r_block ?_
      refine r_then ?_
      refine r_then ?_
      refine r_block ?_
      refine r_then ?_
      have hr := hR.symm.trans (hinv5.2.1.trans (prog_fail hx0 (input_bad (by first | exact .inl (by assumption) | exact .inr (by omega)))))
      subst hr
      exact at_res1 ((_, _), u) rfl (rv_tmp rfl) (.cons kT1 (.cons kT1 .nil)) ⟨Has.pure (hinv5.2.2.1), trivial⟩ rfl
    have hc55 := Int.not_lt.1 (of_decide_eq_false hc55)
    refine at_skip ?_
    refine n_then ?_
    refine sr ?_
    refine sp hT ?_
    refine ss (ldO hT (knows_own (off := 0) .head)) ?_
    refine sp hT ?_
    refine nn ?_
    refine at_seq ?_
    refine sr ?_
    refine sp hT ?_
    refine ss (ldO hT (knows_own (off := 2) .head)) ?_
    refine sp2 hT ?_
    refine nn ?_
    refine at_block ?_
    refine at_loop2 (ι := Nat × Bs) [(0, _), (3, _), (5, _), (40, _), (41, _), (42, _), (51, _), (52, _), (53, _), (54, _), (59, _), (60, _)] ⟨rfl, rfl, rfl, rfl, rfl, rfl, rfl, rfl, rfl, rfl, rfl, rfl, trivial⟩ (fun ⟨j, text⟩ => [(8, .string (bs text)), (61, .int .i64 (j : Nat))]) (fun _ => []) (fun ⟨j, text⟩ => [Fact.pure (j ≤ x2.sides.list.length ∧ sidesS ((x2.sides.list.map SideV.sd).drop j) text = inputS x2.inp ∧ text.length ≤ 16 + 30 * j)]) (fun ⟨j, text⟩ => x2.sides.list.length - j) (0, x2.name) ⟨rfl, rfl, trivial⟩ .nil ⟨Has.pure (⟨by omega, (input_start (by assumption) (by omega)).symm, by have := nameB_len ‹nameB x2.name = true›; omega⟩), trivial⟩ ?_
    rintro ⟨j, text⟩
    dsimp only
    refine at_know (Has.of mT0) fun hinv11 => ?_
    refine sr ?_
    refine sp hT ?_
    refine nn ?_
    refine at_seq ?_
    refine at_cond rfl (fun hc62 => ?_) (fun hc62 => ?_)
    · have hc62 := of_decide_eq_true hc62
      refine at_skip ?_
      refine n_then ?_
      refine at_seq ?_
      refine at_block ?_
      refine sr ?_
      obtain ⟨x5, hx6⟩ : ∃ x, x2.sides.list[j]? = some x := ⟨_, List.getElem?_eq_getElem (by omega)⟩
      refine ss (sti_index hT (k := j) (reads_fact (Has.of mT1)) rfl rfl rfl rfl rfl rfl rfl (by omega)) ?_
      refine ss (sti_loadN hT (Reads.knows (reads_fact (Has.of mT1)) (k := j) (x := x5) hx6 0) rfl rfl rfl rfl rfl) ?_
      refine at_alloc rfl rfl rfl rfl sprogram_zero_api_Side rfl fun b7 => ?_
      refine sto hT .head ?_
      refine nn ?_
      refine at_block ?_
      refine at_seq ?_
      have hdn := hxi.2 x5 (List.mem_of_getElem? hx6)
      refine at_region ?_
      refine sp hT ?_
      refine ss (ldO hT (knows_own (off := 0) .head)) ?_
      refine sp2 hT ?_
      refine nn ?_
      refine at_cond rfl (fun hc65 => ?_) (fun hc65 => ?_)
      · have hc65 : x5.name = ([] : Bs) := eq_of_beq hc65
        refine at_region ?_
        refine sp2 hT ?_
        refine ss (ldO hT (knows_own (off := 1) .head)) ?_
        have hsp := spell_len hdn.2.1 hdn.2.2
        refine at_call (callFunc_enter Tryz.func44 rfl rfl) (snumber_spec _ hdn.2.1 hdn.2.2) rfl rfl rfl rfl rfl .nil ⟨Has.of mT5, trivial⟩ fun _ => ?_
        refine ss (sti_cat rfl rfl rfl (by first | omega | (simp; omega))) ?_
        refine ss (sti_cat rfl rfl rfl (by first | omega | (simp; omega))) ?_
        refine sp hT ?_
        refine at_nil ?_
        refine n_block ?_
        refine n_block ?_
        refine n_then ?_
        refine at_region ?_
        refine sp hT ?_
        refine at_int (z' := (((j + 1) : Nat) : Int)) (wrapN (by omega) (by omega)) ?_
        refine sp hT ?_
        refine nn ?_
        exact at_back2 (j + 1, _) (by dsimp only; omega) ⟨rfl, rfl, trivial⟩ ⟨rfl, rfl, rfl, rfl, rfl, rfl, rfl, rfl, rfl, rfl, rfl, rfl, trivial⟩ (.cons kT1 (.cons kT1 (.cons kT1 (.cons kT1 .nil)))) ⟨Has.pure (⟨by dsimp only; omega, hinv11.2.1 ▸ (side_num hx6 (by assumption)).symm, by have := spell_len hdn.2.1 hdn.2.2; simp; omega⟩), trivial⟩ (HasAll.drop 1)
      have hc65 : x5.name ≠ ([] : Bs) := fun h => absurd (beq_iff_eq.2 h) (by rw [show (x5.name == ([] : Bs)) = false from hc65]; simp)
      refine sr ?_
      refine sp hT ?_
      refine ss (ldO hT (knows_own (off := 1) .head)) ?_
      refine sp2 hT ?_
      refine at_case (fun hg79 => ?_) (fun hg79 => ?_)
      · have hg79 := eq_of_beq hg79
        refine sp hT ?_
        refine ss (ldO hT (knows_own (off := 0) .head)) ?_
        refine at_call (callFunc_enter Tryz.func35 rfl rfl) (Name_spec _ hdn.1) rfl rfl rfl rfl rfl .nil ⟨Has.of mT5, trivial⟩ fun _ => ?_
        refine sp2 hT ?_
        refine nn ?_
        refine at_cond rfl (fun hc75 => ?_) (fun hc75 => ?_)
        · refine at_region ?_
          refine sp2 hT ?_
          refine ss (ldO hT (knows_own (off := 0) .head)) ?_
          refine ss (sti_cat rfl rfl rfl (by first | omega | (simp; omega))) ?_
          refine ss (sti_cat rfl rfl rfl (by first | omega | (simp; omega))) ?_
          refine sp hT ?_
          refine at_nil ?_
          refine n_block ?_
          refine n_block ?_
          refine n_then ?_
          refine at_region ?_
          refine sp hT ?_
          refine at_int (z' := (((j + 1) : Nat) : Int)) (wrapN (by omega) (by omega)) ?_
          refine sp hT ?_
          refine nn ?_
          exact at_back2 (j + 1, _) (by dsimp only; omega) ⟨rfl, rfl, trivial⟩ ⟨rfl, rfl, rfl, rfl, rfl, rfl, rfl, rfl, rfl, rfl, rfl, rfl, trivial⟩ (.cons kT1 (.cons kT1 (.cons kT1 (.cons kT1 .nil)))) ⟨Has.pure (⟨by dsimp only; omega, hinv11.2.1 ▸ (side_name hx6 (by assumption) (by assumption) (by assumption)).symm, by have := nameB_len ‹nameB x5.name = true›; simp; omega⟩), trivial⟩ (HasAll.drop 1)
        refine sr ?_
        refine sp hT ?_
        refine nn ?_
        refine at_ret ?_
        refine r_block ?_
        refine r_block ?_
        refine r_then ?_
        refine r_then ?_
        refine r_block ?_
        refine r_then ?_
        refine r_block ?_
        refine r_then ?_
        refine r_then ?_
        refine r_block ?_
        refine r_then ?_
        have hr := hR.symm.trans (hinv5.2.1.trans (prog_fail hx0 (hinv11.2.1.symm.trans (side_bad hx6 (by assumption) (by first | exact .inl (by assumption) | exact .inr (by assumption))))))
        subst hr
        exact at_res1 ((_, _), u) rfl (rv_tmp rfl) (.cons kT2 (.cons kT2 .nil)) ⟨Has.pure (hinv5.2.2.1), trivial⟩ rfl
      have hg79 := beq_eq_false_iff_ne.1 hg79
      refine sk3 ?_
      refine sp2 hT ?_
      refine nn ?_
      refine at_false rfl rfl ?_
      refine sr ?_
      refine sp hT ?_
      refine nn ?_
      refine at_ret ?_
      refine r_block ?_
      refine r_block ?_
      refine r_then ?_
      refine r_then ?_
      refine r_block ?_
      refine r_then ?_
      refine r_block ?_
      refine r_then ?_
      refine r_then ?_
      refine r_block ?_
      refine r_then ?_
      have hr := hR.symm.trans (hinv5.2.1.trans (prog_fail hx0 (hinv11.2.1.symm.trans (side_bad hx6 (by assumption) (by first | exact .inl (by assumption) | exact .inr (by assumption))))))
      subst hr
      exact at_res1 ((_, _), u) rfl (rv_tmp rfl) (.cons kT2 (.cons kT2 .nil)) ⟨Has.pure (hinv5.2.2.1), trivial⟩ rfl
    have hc62 := Int.not_lt.1 (of_decide_eq_false hc62)
    refine at_exit ?_
    refine x_then ?_
    refine x_then ?_
    refine x_block ?_
    refine n_then ?_
    have hin := hinv11.2.1.symm.trans (sides_done (by omega))
    refine at_region ?_
    refine sp2 hT ?_
    refine at_call (callFunc_enter Tryz.func45 rfl rfl) (sline_spec b r1 r2 u G c out ([105, 110, 32] : Bs) text (by simp; omega)) rfl rfl rfl rfl rfl (.cons kT1 (.cons kT1 .nil)) trivial fun ⟨G8, c9⟩ => ?_
    refine at_nil ?_
    refine n_block ?_
    refine n_then ?_
    refine at_region ?_
    refine sp hT ?_
    refine at_int (z' := (((i + 1) : Nat) : Int)) (wrapN (by omega) (by omega)) ?_
    refine sp hT ?_
    refine nn ?_
    exact at_back2 (i + 1, (out ++ ((([105, 110, 32] : Bs) ++ text) ++ [10])), true, _, _) (by dsimp only; omega) ⟨rfl, trivial⟩ ⟨rfl, rfl, rfl, rfl, rfl, trivial⟩ (.cons .head (.cons .head (.cons kT1 .nil))) ⟨Has.pure (⟨by dsimp only; omega, hinv5.2.1.trans (prog_step hx0 hin), fun h => by simp at h, by simp; omega⟩), trivial⟩ (HasAll.drop 3)
  have hc43 := Int.not_lt.1 (of_decide_eq_false hc43)
  refine at_exit ?_
  refine x_then ?_
  refine x_then ?_
  refine x_block ?_
  refine n_then ?_
  refine at_seq ?_
  refine sr ?_
  refine sp hT ?_
  refine ss (ldO hT (knows_own (off := 1) kT2)) ?_
  refine sp2 hT ?_
  refine nn ?_
  refine at_block ?_
  have hlin := hinv5.2.1.trans (prog_lines (by omega))
  refine at_loop2 (ι := Nat × Bs × Bool × Option Addr × Nat) [(0, _), (5, _), (95, _), (96, _)] ⟨rfl, rfl, rfl, rfl, trivial⟩ (fun ⟨i, out, u, G, c⟩ => [(97, .int .i64 (i : Nat))]) (fun ⟨i, out, u, G, c⟩ => [.obj b (.cells [.map (some r1), .map (some r2), ptrV u b, .slice G out.length c].toArray 75), byteE.row (.slice G out.length c) 5 out]) (fun ⟨i, out, u, G, c⟩ => [Fact.pure (i ≤ P.lines.list.length ∧ programS P.pr = linesS (P.pr.lines.drop i) out ∧ (out = [] → G = none) ∧ out.length ≤ 1000 * 64 + 20000 * i)]) (fun ⟨i, out, u, G, c⟩ => P.lines.list.length - i) (0, out, u, G, c) ⟨rfl, trivial⟩ (.cons .head (.cons .head .nil)) ⟨Has.pure (⟨by omega, hlin, hinv5.2.2.1, by omega⟩), trivial⟩ ?_
  rintro ⟨i, out, u, G, c⟩
  dsimp only
  refine at_know (Has.of mT0) fun hinv22 => ?_
  refine sr ?_
  refine sp hT ?_
  refine nn ?_
  refine at_seq ?_
  refine at_cond rfl (fun hc98 => ?_) (fun hc98 => ?_)
  · have hc98 := of_decide_eq_true hc98
    refine at_skip ?_
    refine n_then ?_
    refine at_seq ?_
    refine at_block ?_
    refine sr ?_
    refine sp hT ?_
    obtain ⟨x10, hx11⟩ : ∃ x, P.lines.list[i]? = some x := ⟨_, List.getElem?_eq_getElem (by omega)⟩
    refine ss (sti_index hT (k := i) (reads_fact (Has.of mT7)) rfl rfl rfl rfl rfl rfl rfl (by omega)) ?_
    refine ss (sti_loadN hT (Reads.knows (reads_fact (Has.of mT7)) (k := i) (x := x10) hx11 0) rfl rfl rfl rfl rfl) ?_
    refine at_alloc rfl rfl rfl rfl sprogram_zero_api_Line rfl fun b12 => ?_
    refine sp hT ?_
    refine sto hT .head ?_
    refine nn ?_
    refine at_seq ?_
    have hli := hP.line x10 (List.mem_of_getElem? hx11)
    have hx0 : P.pr.lines[i]? = some x10.ln := map_at hx11
    refine at_fact (itemsFct x10) (Has.each (Has.of mT8) (List.mem_of_getElem? hx11)) ?_
    refine at_fact (itemE.sl (.slice x10.items.addr x10.items.list.length x10.items.cap) x10.items.list) (Has.left (Has.of mT0)) ?_
    refine at_fact (numsF x10.items.list) (Has.right (Has.of mT1)) ?_
    have hz : ∀ y ∈ (x10.items.list.map ItemV.it), ∀ z ∈ y.nums, -9223372036854775808 ≤ z ∧ z ≤ 9223372036854775807 := fun y hy z hzz => by obtain ⟨it, h1, rfl⟩ := List.mem_map.1 hy; exact (hli.2 it h1).2 z hzz
    refine at_region ?_
    refine sp hT ?_
    refine ss (ldO hT (knows_own (off := 0) .head)) ?_
    refine ss (sti_cat rfl rfl rfl (by first | omega | (simp; omega))) ?_
    refine sp2 hT ?_
    refine nn ?_
    refine at_seq ?_
    refine sr ?_
    refine sp3 hT ?_
    refine nn ?_
    refine at_cond rfl (fun hc107 => ?_) (fun hc107 => ?_)
    · have hc107 := eq_of_beq hc107
      refine at_region ?_
      refine sp2 hT ?_
      refine nn ?_
      refine sr ?_
      refine sp2 hT ?_
      refine ss (ldO hT (knows_own (off := 2) .head)) ?_
      refine sp hT ?_
      refine at_call (callFunc_enter Tryz.func46 rfl rfl) (sexpr_spec b r1 r2 (ptrV u b) G out.length c _ _ x10.items.list 255 (by omega) hli.2) rfl rfl rfl rfl rfl (.cons kT1 .nil) ⟨(Has.of mT5), (Has.of mT6), (Has.of mT7), (Has.of mT1), (Has.of mT0), trivial⟩ fun _ => ?_
      refine sp4 hT ?_
      refine sp hT ?_
      refine nn ?_
      refine at_seq ?_
      refine sr ?_
      refine sp3 hT ?_
      refine at_case (fun hg118 => ?_) (fun hg118 => ?_)
      · have hg118 := not_t hg118
        refine sk4 ?_
        refine sk3 ?_
        refine sp2 hT ?_
        refine sk4 ?_
        refine sk4 ?_
        refine sk ?_
        refine sp hT ?_
        refine nn ?_
        refine at_true rfl rfl ?_
        refine sr ?_
        refine sp hT ?_
        refine nn ?_
        refine at_ret ?_
        refine r_then ?_
        refine r_block ?_
        refine r_then ?_
        refine r_then ?_
        refine r_block ?_
        refine r_then ?_
        have hr := hR.symm.trans (hinv22.2.1.trans (show linesS (P.pr.lines.drop i) out = (out, false) from (by first | exact lines_expr hx0 (by rw [if_pos (by omega)]; exact opt_none (by assumption)) | exact lines_named hx0 (by omega) (by assumption) hex | exact lines_nameless hx0 (by omega) (by first | assumption | (rw [show x10.ln.name = [] from by assumption]; exact nameB_nil)) hex | exact False.elim (by omega))))
        subst hr
        exact at_res1 ((_, _), u) rfl (rv_tmp rfl) (.cons .head (.cons kT1 .nil)) ⟨Has.pure (hinv22.2.2.1), trivial⟩ rfl
      have hg118 := not_f hg118
      have hex := some_getD (by assumption : (exprS (x10.items.list.map ItemV.it) 255).isSome = true)
      have hexl := exprS_len hz hex
      refine sp3 hT ?_
      refine at_case (fun hg121 => ?_) (fun hg121 => ?_)
      · have hg121 := eq_of_beq hg121
        refine sp hT ?_
        refine ss (ldO hT (knows_own (off := 0) kT1)) ?_
        refine sp hT ?_
        refine at_case (fun hg124 => ?_) (fun hg124 => ?_)
        · have hg124 : x10.name = ([] : Bs) := eq_of_beq hg124
          refine sp hT ?_
          refine at_bool (t' := false) (by decide) ?_
          refine sp4 hT ?_
          refine sp2 hT ?_
          refine at_case (fun hg131 => ?_) (fun hg131 => ?_)
          · have hg131 := of_decide_eq_true hg131
            omega
          have hg131 := Int.not_lt.1 (of_decide_eq_false hg131)
          refine sk4 ?_
          refine sp2 hT ?_
          refine nn ?_
          refine at_false rfl rfl ?_
          refine at_skip ?_
          refine n_then ?_
          refine at_region ?_
          refine sp3 hT ?_
          refine at_call (callFunc_enter Tryz.func45 rfl rfl) (sline_spec b r1 r2 u G c out ([111, 117, 116, 32] : Bs) ((exprS (x10.items.list.map ItemV.it) 255).getD []) (by simp; omega)) rfl rfl rfl rfl rfl (.cons .head (.cons kT1 .nil)) trivial fun ⟨G13, c14⟩ => ?_
          refine at_nil ?_
          refine n_block ?_
          refine n_then ?_
          refine at_region ?_
          refine sp hT ?_
          refine at_int (z' := (((i + 1) : Nat) : Int)) (wrapN (by omega) (by omega)) ?_
          refine sp hT ?_
          refine nn ?_
          exact at_back2 (i + 1, (out ++ ((([111, 117, 116, 32] : Bs) ++ ((exprS (x10.items.list.map ItemV.it) 255).getD [])) ++ [10])), true, _, _) (by dsimp only; omega) ⟨rfl, trivial⟩ ⟨rfl, rfl, rfl, rfl, trivial⟩ (.cons .head (.cons .head (.cons kT1 .nil))) ⟨Has.pure (⟨by dsimp only; omega, hinv22.2.1.trans (lines_out hx0 (by omega) (by assumption) hex), fun h => by simp at h, by simp; omega⟩), trivial⟩ (HasAll.drop 4)
        have hg124 : x10.name ≠ ([] : Bs) := fun h => absurd (beq_iff_eq.2 h) (by rw [show (x10.name == ([] : Bs)) = false from hg124]; simp)
        refine sp hT ?_
        refine at_bool (t' := true) (by decide) ?_
        refine sp2 hT ?_
        refine sk4 ?_
        refine sk4 ?_
        refine sk ?_
        refine sp hT ?_
        refine nn ?_
        refine at_true rfl rfl ?_
        refine sr ?_
        refine sp hT ?_
        refine nn ?_
        refine at_ret ?_
        refine r_then ?_
        refine r_block ?_
        refine r_then ?_
        refine r_then ?_
        refine r_block ?_
        refine r_then ?_
        have hr := hR.symm.trans (hinv22.2.1.trans (show linesS (P.pr.lines.drop i) out = (out, false) from (by first | exact lines_expr hx0 (by rw [if_pos (by omega)]; exact opt_none (by assumption)) | exact lines_named hx0 (by omega) (by assumption) hex | exact lines_nameless hx0 (by omega) (by first | assumption | (rw [show x10.ln.name = [] from by assumption]; exact nameB_nil)) hex | exact False.elim (by omega))))
        subst hr
        exact at_res1 ((_, _), u) rfl (rv_tmp rfl) (.cons .head (.cons kT1 .nil)) ⟨Has.pure (hinv22.2.2.1), trivial⟩ rfl
      have hg121 := beq_eq_false_iff_ne.1 hg121
      omega
    have hc107 := beq_eq_false_iff_ne.1 hc107
    refine at_skip ?_
    refine n_then ?_
    refine sr ?_
    refine sp2 hT ?_
    refine ss (ldO hT (knows_own (off := 2) .head)) ?_
    refine sp hT ?_
    refine at_call (callFunc_enter Tryz.func46 rfl rfl) (sexpr_spec b r1 r2 (ptrV u b) G out.length c _ _ x10.items.list 254 (by omega) hli.2) rfl rfl rfl rfl rfl (.cons kT1 .nil) ⟨(Has.of mT5), (Has.of mT6), (Has.of mT7), (Has.of mT1), (Has.of mT0), trivial⟩ fun _ => ?_
    refine sp4 hT ?_
    refine sp hT ?_
    refine nn ?_
    refine at_seq ?_
    refine sr ?_
    refine sp3 hT ?_
    refine at_case (fun hg118 => ?_) (fun hg118 => ?_)
    · have hg118 := not_t hg118
      refine sk4 ?_
      refine sk3 ?_
      refine sp2 hT ?_
      refine sk4 ?_
      refine sk4 ?_
      refine sk ?_
      refine sp hT ?_
      refine nn ?_
      refine at_true rfl rfl ?_
      refine sr ?_
      refine sp hT ?_
      refine nn ?_
      refine at_ret ?_
      refine r_then ?_
      refine r_block ?_
      refine r_then ?_
      refine r_then ?_
      refine r_block ?_
      refine r_then ?_
      have hr := hR.symm.trans (hinv22.2.1.trans (show linesS (P.pr.lines.drop i) out = (out, false) from (by first | exact lines_expr hx0 (by rw [if_neg (by omega)]; exact opt_none (by assumption)) | exact lines_named hx0 (by omega) (by assumption) hex | exact lines_nameless hx0 (by omega) (by first | assumption | (rw [show x10.ln.name = [] from by assumption]; exact nameB_nil)) hex | exact False.elim (by omega))))
      subst hr
      exact at_res1 ((_, _), u) rfl (rv_tmp rfl) (.cons .head (.cons kT1 .nil)) ⟨Has.pure (hinv22.2.2.1), trivial⟩ rfl
    have hg118 := not_f hg118
    have hex := some_getD (by assumption : (exprS (x10.items.list.map ItemV.it) 254).isSome = true)
    have hexl := exprS_len hz hex
    refine sp3 hT ?_
    refine at_case (fun hg121 => ?_) (fun hg121 => ?_)
    · have hg121 := eq_of_beq hg121
      omega
    have hg121 := beq_eq_false_iff_ne.1 hg121
    refine sp hT ?_
    refine ss (ldO hT (knows_own (off := 0) kT1)) ?_
    refine sp hT ?_
    refine at_case (fun hg124 => ?_) (fun hg124 => ?_)
    · have hg124 : x10.name = ([] : Bs) := eq_of_beq hg124
      refine sp hT ?_
      refine at_bool (t' := true) (by decide) ?_
      refine sp2 hT ?_
      refine sk4 ?_
      refine sk4 ?_
      refine sk ?_
      refine sp hT ?_
      refine nn ?_
      refine at_true rfl rfl ?_
      refine sr ?_
      refine sp hT ?_
      refine nn ?_
      refine at_ret ?_
      refine r_then ?_
      refine r_block ?_
      refine r_then ?_
      refine r_then ?_
      refine r_block ?_
      refine r_then ?_
      have hr := hR.symm.trans (hinv22.2.1.trans (show linesS (P.pr.lines.drop i) out = (out, false) from (by first | exact lines_expr hx0 (by rw [if_neg (by omega)]; exact opt_none (by assumption)) | exact lines_named hx0 (by omega) (by assumption) hex | exact lines_nameless hx0 (by omega) (by first | assumption | (rw [show x10.ln.name = [] from by assumption]; exact nameB_nil)) hex | exact False.elim (by omega))))
      subst hr
      exact at_res1 ((_, _), u) rfl (rv_tmp rfl) (.cons .head (.cons kT1 .nil)) ⟨Has.pure (hinv22.2.2.1), trivial⟩ rfl
    have hg124 : x10.name ≠ ([] : Bs) := fun h => absurd (beq_iff_eq.2 h) (by rw [show (x10.name == ([] : Bs)) = false from hg124]; simp)
    refine sp hT ?_
    refine at_bool (t' := false) (by decide) ?_
    refine sp4 hT ?_
    refine sp2 hT ?_
    refine at_case (fun hg131 => ?_) (fun hg131 => ?_)
    · have hg131 := of_decide_eq_true hg131
      refine sp hT ?_
      refine ss (ldO hT (knows_own (off := 0) kT1)) ?_
      refine at_call (callFunc_enter Tryz.func35 rfl rfl) (Name_spec _ hli.1) rfl rfl rfl rfl rfl .nil ⟨Has.of mT7, trivial⟩ fun _ => ?_
      refine sp3 hT ?_
      refine nn ?_
      refine at_cond rfl (fun hc137 => ?_) (fun hc137 => ?_)
      · have hc137 := not_t hc137
        refine sr ?_
        refine sp hT ?_
        refine nn ?_
        refine at_ret ?_
        refine r_then ?_
        refine r_block ?_
        refine r_then ?_
        refine r_then ?_
        refine r_block ?_
        refine r_then ?_
        have hr := hR.symm.trans (hinv22.2.1.trans (show linesS (P.pr.lines.drop i) out = (out, false) from (by first | exact lines_expr hx0 (by rw [if_neg (by omega)]; exact opt_none (by assumption)) | exact lines_named hx0 (by omega) (by assumption) hex | exact lines_nameless hx0 (by omega) (by first | assumption | (rw [show x10.ln.name = [] from by assumption]; exact nameB_nil)) hex | exact False.elim (by omega))))
        subst hr
        exact at_res1 ((_, _), u) rfl (rv_tmp rfl) (.cons .head (.cons kT1 .nil)) ⟨Has.pure (hinv22.2.2.1), trivial⟩ rfl
      have hc137 := not_f hc137
      refine at_skip ?_
      refine n_then ?_
      have hnl := nameB_len (by assumption : nameB x10.name = true)
      refine at_region ?_
      refine sp3 hT ?_
      refine at_call (callFunc_enter Tryz.func45 rfl rfl) (sline_spec b r1 r2 u G c out (x10.name ++ ([58, 32] : Bs)) ((exprS (x10.items.list.map ItemV.it) 254).getD []) (by simp; omega)) rfl rfl rfl rfl rfl (.cons .head (.cons kT1 .nil)) trivial fun ⟨G15, c16⟩ => ?_
      refine at_nil ?_
      refine n_block ?_
      refine n_then ?_
      refine at_region ?_
      refine sp hT ?_
      refine at_int (z' := (((i + 1) : Nat) : Int)) (wrapN (by omega) (by omega)) ?_
      refine sp hT ?_
      refine nn ?_
      exact at_back2 (i + 1, (out ++ (((x10.name ++ ([58, 32] : Bs)) ++ ((exprS (x10.items.list.map ItemV.it) 254).getD [])) ++ [10])), true, _, _) (by dsimp only; omega) ⟨rfl, trivial⟩ ⟨rfl, rfl, rfl, rfl, trivial⟩ (.cons .head (.cons .head (.cons kT1 .nil))) ⟨Has.pure (⟨by dsimp only; omega, hinv22.2.1.trans (lines_step hx0 (by omega) (by assumption) hex), fun h => by simp at h, by have := nameB_len ‹nameB x10.name = true›; simp; omega⟩), trivial⟩ (HasAll.drop 4)
    have hg131 := Int.not_lt.1 (of_decide_eq_false hg131)
    omega
  have hc98 := Int.not_lt.1 (of_decide_eq_false hc98)
  refine at_exit ?_
  refine x_then ?_
  refine x_then ?_
  refine x_block ?_
  refine n_then ?_
  refine sr ?_
  refine sp hT ?_
  refine nn ?_
  refine at_ret ?_
  have hr := hR.symm.trans (hinv22.2.1.trans (lines_end (by omega)))
  subst hr
  exact at_res1 ((_, _), u) rfl (rv_tmp rfl) (.cons .head (.cons .head .nil)) ⟨Has.pure (hinv22.2.2.1), trivial⟩ rfl

set_option maxRecDepth 100000 in
theorem bstrN_spec (b r1 r2 : Nat) (p : Value) (g c : Nat) (out : Bs) (h0 : out ≠ []) (hc : out.length ≤ c) : Spec Tryz.prog 28 [.pointer (some ⟨b, 2, none⟩)] [.obj b (.cells [.map (some r1), .map (some r2), p, .slice (some ⟨g, 0, none⟩) out.length c].toArray 75), byteE.row (.slice (some ⟨g, 0, none⟩) out.length c) 5 out] [] (fun (_ : Unit) => .string (bs out)) (fun _ => []) (fun _ => []) := by
  have hT := show2T_ok
  refine spec_of Tryz.func28 rfl Tryz.ntmps28 rfl ?_
  intro β hM
  refine sr ?_
  refine sp hT ?_
  refine nn ?_
  refine at_seq ?_
  refine at_mix _ _ [(true, 0), (true, 1), (true, 2), (true, 3), (true, 4), (true, 5), (true, 6), (true, 7), (true, 8), (true, 9), (false, 10), (true, 11)] mixes (by decide +kernel) (.cons .head .nil) HasAll.self ?_
  refine atm_sti rfl rfl rfl rfl (sti_pure hT rfl) ?_
  refine atm_sti rfl rfl rfl rfl (sti_pure hT rfl) ?_
  refine atm_sti rfl rfl rfl rfl (sti_pure hT rfl) ?_
  refine atm_sti rfl rfl rfl rfl (ldO hT (knows_own (off := 3) .head)) ?_
  refine atm_sti rfl rfl rfl rfl (sti_sliceData rfl rfl (.inr (by have := List.length_pos_iff.2 h0; omega))) ?_
  refine atm_sti rfl rfl rfl rfl (sti_pure hT rfl) ?_
  refine atm_sti rfl rfl rfl rfl (sti_pure hT rfl) ?_
  refine atm_sti rfl rfl rfl rfl (sti_pure hT rfl) ?_
  refine atm_sti rfl rfl rfl rfl (ldO hT (knows_own (off := 3) .head)) ?_
  refine atm_sti rfl rfl rfl rfl (sti_pure hT rfl) ?_
  refine atm_op (o := _) rfl ?_
  refine at_unsafeString kT1 rfl rfl rfl rfl u8Ptr (by kernel_rfl) rfl rfl rfl h0 ?_
  refine atm_go (.cons .head .nil) trivial ?_
  refine atm_sti rfl rfl rfl rfl (sti_pure hT rfl) ?_
  refine atm_nil ?_
  refine n_then ?_
  refine at_ret ?_
  exact at_res1 () rfl (rv_tmp rfl) .nil trivial (rfl)

set_option maxRecDepth 100000 in
theorem bstrE_spec (b r1 r2 : Nat) (p : Value) (c : Nat) : Spec Tryz.prog 28 [.pointer (some ⟨b, 2, none⟩)] [.obj b (.cells [.map (some r1), .map (some r2), p, .slice none 0 c].toArray 75)] [] (fun (_ : Unit) => .string (bs [])) (fun _ => []) (fun _ => []) := by
  have hT := show2T_ok
  refine spec_of Tryz.func28 rfl Tryz.ntmps28 rfl ?_
  intro β hM
  refine sr ?_
  refine sp hT ?_
  refine nn ?_
  refine at_seq ?_
  refine at_mix _ _ [(true, 0), (true, 1), (true, 2), (true, 3), (true, 4), (true, 5), (true, 6), (true, 7), (true, 8), (true, 9), (true, 10), (true, 11)] mixes (by decide +kernel) (.cons .head .nil) HasAll.self ?_
  refine atm_sti rfl rfl rfl rfl (sti_pure hT rfl) ?_
  refine atm_sti rfl rfl rfl rfl (sti_pure hT rfl) ?_
  refine atm_sti rfl rfl rfl rfl (sti_pure hT rfl) ?_
  refine atm_sti rfl rfl rfl rfl (ldO hT (knows_own (off := 3) .head)) ?_
  refine atm_sti rfl rfl rfl rfl (sti_sliceData rfl rfl (.inl rfl)) ?_
  refine atm_sti rfl rfl rfl rfl (sti_pure hT rfl) ?_
  refine atm_sti rfl rfl rfl rfl (sti_pure hT rfl) ?_
  refine atm_sti rfl rfl rfl rfl (sti_pure hT rfl) ?_
  refine atm_sti rfl rfl rfl rfl (ldO hT (knows_own (off := 3) .head)) ?_
  refine atm_sti rfl rfl rfl rfl (sti_pure hT rfl) ?_
  refine atm_sti rfl rfl rfl rfl (sti_noString rfl rfl rfl) ?_
  refine atm_sti rfl rfl rfl rfl (sti_pure hT rfl) ?_
  refine atm_nil ?_
  refine n_then ?_
  refine at_ret ?_
  exact at_res1 () rfl (rv_tmp rfl) .nil trivial (rfl)

set_option maxRecDepth 100000 in
theorem swrite_spec (P : ProgV) (hP : ProgOk P) (hl1 : P.inputs.list.length ≤ 140737488355328) (hl2 : P.lines.list.length ≤ 140737488355328) : Spec Tryz.prog 19 [.agg #[.slice P.inputs.addr P.inputs.list.length P.inputs.cap, .slice P.lines.addr P.lines.list.length P.lines.cap]] [] [globF, inputE.sl (.slice P.inputs.addr P.inputs.list.length P.inputs.cap) P.inputs.list, inputsF P.inputs.list, lineE.sl (.slice P.lines.addr P.lines.list.length P.lines.cap) P.lines.list, linesF P.lines.list] (fun (_ : Unit) => .tuple #[.string (bs (programS P.pr).1), .bool (programS P.pr).2]) (fun _ => []) (fun _ => []) := by
  have hT := show2T_ok
  refine spec_of Tryz.func19 rfl Tryz.ntmps19 rfl ?_
  intro β hM
  refine sr ?_
  refine at_box rfl rfl rfl rfl rfl rfl fun b1 => ?_
  refine sp2 hT ?_
  refine nn ?_
  refine sr ?_
  refine at_call (callFunc_enter Tryz.func26 rfl rfl) (texts_spec false) rfl rfl rfl rfl rfl .nil ⟨(Has.of mT0), trivial⟩ fun r2 => ?_
  refine at_call (callFunc_enter Tryz.func26 rfl rfl) (texts_spec true) rfl rfl rfl rfl rfl .nil ⟨(Has.of mT1), trivial⟩ fun r3 => ?_
  refine ss (sti_build rfl rfl (shower_built _ _)) ?_
  refine at_box rfl rfl rfl rfl rfl rfl fun b4 => ?_
  refine sp hT ?_
  refine nn ?_
  refine sr ?_
  refine sp hT ?_
  refine ss (ldN hT (knows_own (off := 0) kT1)) ?_
  refine at_nilrow' (t := 5) byteE ?_
  refine at_call (callFunc_enter Tryz.func27 rfl rfl) (sprogram_spec b4 r2 r3 P hP hl1 hl2) rfl rfl rfl rfl rfl (.cons kT1 (.cons .head .nil)) ⟨(Has.of mT1), (Has.of mT0), (Has.of mT2), (Has.of mT3), (Has.of mT4), (Has.of mT5), (Has.of mT6), trivial⟩ fun ⟨⟨G5, c6⟩, u7⟩ => ?_
  refine at_know (Has.of mT0) fun hemp => ?_
  dsimp only at hemp
  refine sp hT ?_
  refine nn ?_
  refine at_seq ?_
  rcases Decidable.em ((programS P.pr).1 = []) with h0 | h0
  · skip
    refine at_region ?_
    refine sp3 hT ?_
    have hg := hemp h0
    subst hg
    rw [h0]
    refine at_call (callFunc_enter Tryz.func28 rfl rfl) (bstrE_spec b4 r2 r3 (ptrV u7 b4) c6) rfl rfl rfl rfl rfl (.cons .head .nil) trivial fun _ => ?_
    refine sp3 hT ?_
    refine nn ?_
    refine at_ret ?_
    exact at_res2 () rfl (rv_tmp rfl) (rv_tmp rfl) .nil trivial (by first | rfl | rw [h0])
  skip
  refine at_region ?_
  refine sp3 hT ?_
  refine at_cap kT1 fun hcap => ?_
  refine at_rowg kT1 (List.length_pos_iff.2 h0) fun g hg => ?_
  subst hg
  refine at_call (callFunc_enter Tryz.func28 rfl rfl) (bstrN_spec b4 r2 r3 (ptrV u7 b4) g c6 (programS P.pr).1 h0 hcap) rfl rfl rfl rfl rfl (.cons .head (.cons .head .nil)) trivial fun _ => ?_
  refine sp3 hT ?_
  refine nn ?_
  refine at_ret ?_
  exact at_res2 () rfl (rv_tmp rfl) (rv_tmp rfl) .nil trivial (by first | rfl | rw [h0])

set_option maxRecDepth 100000 in
theorem sRight_spec (P : ProgV) (hP : ProgOk P) (hl1 : P.inputs.list.length ≤ 140737488355328) (hl2 : P.lines.list.length ≤ 140737488355328) : Spec Tryz.prog 11 [.agg #[.slice P.inputs.addr P.inputs.list.length P.inputs.cap, .slice P.lines.addr P.lines.list.length P.lines.cap]] [] [globF, inputE.sl (.slice P.inputs.addr P.inputs.list.length P.inputs.cap) P.inputs.list, inputsF P.inputs.list, lineE.sl (.slice P.lines.addr P.lines.list.length P.lines.cap) P.lines.list, linesF P.lines.list] (fun (_ : Unit) => .bool (programS P.pr).2) (fun _ => []) (fun _ => []) := by
  have hT := show2T_ok
  refine spec_of Tryz.func11 rfl Tryz.ntmps11 rfl ?_
  intro β hM
  refine sr ?_
  refine at_box rfl rfl rfl rfl rfl rfl fun b1 => ?_
  refine sp hT ?_
  refine nn ?_
  refine sr ?_
  refine ss (ldN hT (knows_own (off := 0) .head)) ?_
  refine at_call (callFunc_enter Tryz.func19 rfl rfl) (swrite_spec P hP hl1 hl2) rfl rfl rfl rfl rfl .nil ⟨Has.of mT0, Has.of mT1, Has.of mT2, Has.of mT3, Has.of mT4, trivial⟩ fun _ => ?_
  refine sp4 hT ?_
  refine sp hT ?_
  refine nn ?_
  refine sr ?_
  refine sp2 hT ?_
  refine nn ?_
  refine at_ret ?_
  exact at_res1 () rfl (rv_tmp rfl) .nil trivial (rfl)

set_option maxRecDepth 100000 in
theorem sShow_spec (P : ProgV) (hP : ProgOk P) (hl1 : P.inputs.list.length ≤ 140737488355328) (hl2 : P.lines.list.length ≤ 140737488355328) : Spec Tryz.prog 13 [.agg #[.slice P.inputs.addr P.inputs.list.length P.inputs.cap, .slice P.lines.addr P.lines.list.length P.lines.cap]] [] [globF, inputE.sl (.slice P.inputs.addr P.inputs.list.length P.inputs.cap) P.inputs.list, inputsF P.inputs.list, lineE.sl (.slice P.lines.addr P.lines.list.length P.lines.cap) P.lines.list, linesF P.lines.list] (fun (_ : Unit) => .tuple #[.string (bs (showP P.pr).1), .int .i64 (showP P.pr).2]) (fun _ => []) (fun _ => []) := by
  have hT := show2T_ok
  refine spec_of Tryz.func13 rfl Tryz.ntmps13 rfl ?_
  intro β hM
  refine sr ?_
  refine at_box rfl rfl rfl rfl rfl rfl fun b1 => ?_
  refine sp2 hT ?_
  refine nn ?_
  refine sr ?_
  refine ss (ldN hT (knows_own (off := 0) .head)) ?_
  refine at_call (callFunc_enter Tryz.func19 rfl rfl) (swrite_spec P hP hl1 hl2) rfl rfl rfl rfl rfl .nil ⟨Has.of mT0, Has.of mT1, Has.of mT2, Has.of mT3, Has.of mT4, trivial⟩ fun _ => ?_
  refine sp4 hT ?_
  refine sp hT ?_
  refine nn ?_
  refine at_seq ?_
  refine at_block ?_
  refine sr ?_
  refine sp3 hT ?_
  refine nn ?_
  refine at_cond rfl (fun hc11 => ?_) (fun hc11 => ?_)
  · have hc11 := not_t hc11
    refine sr ?_
    refine sp2 hT ?_
    refine nn ?_
    refine at_ret ?_
    refine r_block ?_
    refine r_then ?_
    exact at_res2 () rfl (rv_tmp rfl) (rv_tmp rfl) .nil trivial (by first | (rw [show showP P.pr = ([], 50) from if_pos (by assumption)]; first | done | rfl) | (rw [show showP P.pr = ([], 30) from (if_neg (by simp [*])).trans (if_pos (by omega))]; first | done | rfl) | (rw [show showP P.pr = ((programS P.pr).1, 0) from (if_neg (by simp [*])).trans (if_neg (by omega))]; first | done | rfl))
  have hc11 := not_f hc11
  refine sr ?_
  refine sp2 hT ?_
  refine at_int (z' := (((programS P.pr).1.length : Nat) : Int)) rfl ?_
  refine sp2 hT ?_
  refine nn ?_
  refine at_cond rfl (fun hc14 => ?_) (fun hc14 => ?_)
  · have hc14 := of_decide_eq_true hc14
    refine sr ?_
    refine sp2 hT ?_
    refine nn ?_
    refine at_ret ?_
    refine r_block ?_
    refine r_then ?_
    exact at_res2 () rfl (rv_tmp rfl) (rv_tmp rfl) .nil trivial (by first | (rw [show showP P.pr = ([], 50) from if_pos (by assumption)]; first | done | rfl) | (rw [show showP P.pr = ([], 30) from (if_neg (by simp [*])).trans (if_pos (by omega))]; first | done | rfl) | (rw [show showP P.pr = ((programS P.pr).1, 0) from (if_neg (by simp [*])).trans (if_neg (by omega))]; first | done | rfl))
  have hc14 := Int.not_lt.1 (of_decide_eq_false hc14)
  refine at_skip ?_
  refine n_block ?_
  refine n_then ?_
  refine sr ?_
  refine sp3 hT ?_
  refine nn ?_
  refine at_ret ?_
  exact at_res2 () rfl (rv_tmp rfl) (rv_tmp rfl) .nil trivial (by first | (rw [show showP P.pr = ([], 50) from if_pos (by assumption)]; first | done | rfl) | (rw [show showP P.pr = ([], 30) from (if_neg (by simp [*])).trans (if_pos (by omega))]; first | done | rfl) | (rw [show showP P.pr = ((programS P.pr).1, 0) from (if_neg (by simp [*])).trans (if_neg (by omega))]; first | done | rfl))

end Go.Proofs.YtngkedmndhmjcaaGreatDoor
