/- Proved: for every input windrow/windrowlaw05.ShowBack returns true, and each argument reads afterwards as it read before. No condition beside the form's own. -/
import Derived.Test.YtngkedmndhmjcaaGreatDoorM8
import Derived.Test.YtngkedmndhmjcaaGreatDoorM9
import Derived.Test.YtngkedmndhmjcaaGreatDoorCards
import Derived.Test.YtngkedmndhmjcaaGreatDoorTie
import Derived.JoinedTies
namespace Go.Proofs.YtngkedmndhmjcaaGreatDoor.showBack
open Go.ChangeShapes Go.WideShapes Go.ChangeAt Go.RowKit

theorem lShowBack_zero_api_Program : (Tryz.prog.info? 25).bind (·.zero) = some (.agg #[.slice none 0 0, .slice none 0 0]) := by kernel_rfl
theorem lShowBack_zero_api_Fault : (Tryz.prog.info? 32).bind (·.zero) = some (.agg #[.int .i64 0, .int .i64 0]) := by kernel_rfl
theorem lShowBack_built_api_Fault_  : Tryz.prog.built 32 [] = some #[.int .i64 0, .int .i64 0] := by kernel_rfl

set_option maxRecDepth 100000 in
theorem law_spec (P : ProgV) (hP : ProgOk P) (hl1 : P.inputs.list.length ≤ 140737488355328) (hl2 : P.lines.list.length ≤ 140737488355328) (hA : AlikeOk P) : Spec Tryz.prog 5 [.agg #[.slice P.inputs.addr P.inputs.list.length P.inputs.cap, .slice P.lines.addr P.lines.list.length P.lines.cap]] [] [globF, inputE.sl (.slice P.inputs.addr P.inputs.list.length P.inputs.cap) P.inputs.list, inputsF P.inputs.list, lineE.sl (.slice P.lines.addr P.lines.list.length P.lines.cap) P.lines.list, linesF P.lines.list] (fun (_ : Unit) => .bool true) (fun _ => []) (fun _ => []) := by
  have hT := show2T_ok
  refine spec_of Tryz.func5 rfl Tryz.ntmps5 rfl ?_
  intro β hM
  refine sr ?_
  refine at_box rfl rfl rfl rfl rfl rfl fun b1 => ?_
  refine sp hT ?_
  refine nn ?_
  refine sr ?_
  refine at_call (callFunc_enter Tryz.func10 rfl rfl) (shown5_spec ) rfl rfl rfl rfl rfl .nil ⟨Has.of mT0, trivial⟩ fun _ => ?_
  refine sp hT ?_
  refine nn ?_
  refine sr ?_
  refine ss (ldN hT (knows_own (off := 0) .head)) ?_
  refine at_call (callFunc_enter Tryz.func13 rfl rfl) (sShow_spec P hP hl1 hl2) rfl rfl rfl rfl rfl .nil ⟨(Has.of mT0), (Has.of mT1), (Has.of mT2), (Has.of mT3), (Has.of mT4), trivial⟩ fun _ => ?_
  refine sp4 hT ?_
  refine sp hT ?_
  refine nn ?_
  refine sr ?_
  refine ss (ldN hT (knows_own (off := 0) .head)) ?_
  refine at_call (callFunc_enter Tryz.func11 rfl rfl) (sRight_spec P hP hl1 hl2) rfl rfl rfl rfl rfl .nil ⟨(Has.of mT0), (Has.of mT1), (Has.of mT2), (Has.of mT3), (Has.of mT4), trivial⟩ fun _ => ?_
  refine sp hT ?_
  refine nn ?_
  refine at_seq ?_
  refine sr ?_
  refine sp2 hT ?_
  refine nn ?_
  refine at_cond rfl (fun hc18 => ?_) (fun hc18 => ?_)
  · have hc18 := bne_iff_ne.1 hc18
    refine sr ?_
    refine sp4 hT ?_
    refine at_bool (t' := true) (show_empty hc18) ?_
    refine sp4 hT ?_
    refine sp2 hT ?_
    refine at_bool (t' := true) (show_code hc18) ?_
    refine sp2 hT ?_
    refine nn ?_
    refine at_ret ?_
    refine r_then ?_
    exact at_res1 () rfl (rv_tmp rfl) .nil trivial (rfl)
  have hc18 := bne_eq_false_iff_eq.1 hc18
  refine at_skip ?_
  refine n_then ?_
  refine sr ?_
  refine sp hT ?_
  refine at_call (callFunc_enter Tryz.func15 rfl rfl) (Parse_spec (showP P.pr).1 (Nat.le_trans (show_len hc18) (by decide))) rfl rfl rfl rfl rfl .nil ⟨(Has.of mT0), trivial⟩ fun X2 => ?_
  refine at_know (Has.of mT1) fun hprq => ?_
  refine at_fact (inputE.sl (.slice X2.inputs.addr X2.inputs.list.length X2.inputs.cap) X2.inputs.list) (Has.left (Has.left (Has.of mT0))) ?_
  refine at_fact (inputsF X2.inputs.list) (Has.right (Has.left (Has.of mT1))) ?_
  refine at_fact (lineE.sl (.slice X2.lines.addr X2.lines.list.length X2.lines.cap) X2.lines.list) (Has.left (Has.right (Has.of mT2))) ?_
  refine at_fact (linesF X2.lines.list) (Has.right (Has.right (Has.of mT3))) ?_
  have hback := back_law (rng_of hP) hc18
  rw [← hprq] at hback
  refine sp3 hT ?_
  refine at_alloc rfl rfl rfl rfl lShowBack_zero_api_Program rfl fun b3 => ?_
  refine at_alloc rfl rfl rfl rfl lShowBack_zero_api_Fault rfl fun b4 => ?_
  refine sto hT kT1 ?_
  refine sto hT kT1 ?_
  refine nn ?_
  refine sr ?_
  refine sp3 hT ?_
  refine at_bool (t' := true) (hback.1) ?_
  refine sp2 hT ?_
  refine ss (ldN hT (knows_own (off := 0) .head)) ?_
  refine ss (sti_build rfl rfl (lShowBack_built_api_Fault_)) ?_
  refine ss (sti_eql_flt ⟨(parseP (showP P.pr).1).2.1, (parseP (showP P.pr).1).2.2⟩ ⟨0, 0⟩ rfl rfl rfl) ?_
  refine at_bool (t' := true) (flt_t hback.2.1) ?_
  refine sp2 hT ?_
  refine ss (ldN hT (knows_own (off := 0) kT2)) ?_
  refine ss (ldN hT (knows_own (off := 0) kT1)) ?_
  refine at_call (callFunc_enter Tryz.func16 rfl rfl) (rAlike_spec P X2 hA) rfl rfl rfl rfl rfl .nil ⟨(Has.of mT7), (Has.of mT8), (Has.of mT9), (Has.of mT10), (Has.of mT3), (Has.of mT2), (Has.of mT1), (Has.of mT0), trivial⟩ fun _ => ?_
  refine at_bool (t' := true) (alike_t hback.2.2.symm) ?_
  refine sp2 hT ?_
  refine nn ?_
  refine at_ret ?_
  exact at_res1 () rfl (rv_tmp rfl) .nil trivial (rfl)

theorem reads (os : Os) {H : Type} (enc : TypeId × Value → H) : ∃ places, DataW.whole enc Tryz.prog ((laidWorld os).forCall (fun _ _ => 0) ⟨#[], #[.agg #[.slice none 0 0, .slice none 0 0]], []⟩).memory Tryz.f5.params.toList Rows.showBackSpec.vars false (#[.agg #[.slice none 0 0, .slice none 0 0]] : Array Value).toList 8 = some ([.agg [.nil, .nil]], [], places) :=
  ⟨[], by kernel_rfl⟩

set_option maxRecDepth 100000 in
theorem lifted (os : Os) (started : os.Started) (H : Type) (enc : TypeId × Value → H) (F : Stop.Interp) :
    ReturnsInHanded {} Tryz.checked os 5 .any ((OpenSpec.ofChange Rows.showBackSpec).preRow enc Tryz.prog Tryz.f5 Rows.showBackRow.domain false Rows.showBackRow.laid) (((OpenSpec.ofChange Rows.showBackSpec).at F).post enc Tryz.prog Tryz.f5 false true false false) := by
  obtain ⟨places, hx⟩ := reads os enc
  refine returnsInHanded_of_row (C := Tryz.checked) (s := (OpenSpec.ofChange Rows.showBackSpec)) own started (by kernel_rfl) Tryz.func5
    (witness_row_atRef (enc := enc) (C := Tryz.checked) false (laidWorld os) #[.agg #[.slice none 0 0, .slice none 0 0]] rfl (by kernel_rfl) (by kernel_rfl) (by kernel_rfl)
      (OpenSpec.preRow_of_cond 8 hx (by kernel_rfl) (fun k hk => by cases hk) (by kernel_rfl) (laid_met os _))) ?_
  intro W base args ds gs before hval0 hW _ _ hsz hL hsh _
  have hval : ∀ (j : Nat) t v, Tryz.f5.params[j]? = some t → args[j]? = some v → Value.okWide Tryz.prog W .any base t v := hval0
  have hW' := hW
  obtain ⟨p, q, hA0, hV, rfl, hfz, hnd⟩ := hW
  have hA : DataW.TrodAll enc Tryz.prog W 0 (fun _ => true) true Tryz.f5.params.toList args.toList ds p := hA0
  rw [Tryz.params5] at hA hval
  obtain ⟨v0, vs0, d0, ds0, p0, q0, hargs, rfl, rfl, h0, r0⟩ := trodAll_cons hA
  obtain ⟨rfl, rfl, rfl⟩ := trodAll_nil r0
  obtain rfl : args = #[v0] := by cases args; simp_all
  obtain ⟨rfl, rfl⟩ := trodVars_none hV
  obtain ⟨a0, e0, f0⟩ := Opens.arg opens_prog h0 hsz (j := 0) rfl rfl
  obtain ⟨cs0, rfl, _⟩ := okWide_struct Tryz.underlying25 (hval 0 25 v0 rfl rfl)
  obtain rfl : cs0 = #[.slice a0.inputs.addr a0.inputs.list.length a0.inputs.cap, .slice a0.lines.addr a0.lines.list.length a0.lines.cap] := by
    apply Array.ext'
    exact e0
  clear hA0 hval0
  simp only [List.append_nil] at hW'
  have hg := globF_of hL hsh
  obtain ⟨⟨k1, k2, k3, k4⟩, hok, hl1, hl2⟩ := prog_of f0
  refine (calls_of_spec (law_spec a0 hok hl1 hl2 (alike_of f0)) (All.cons hg (All.cons k1 (All.cons k2 (All.cons k3 (All.cons k4 fun g hg => by simp at hg)))))).mono fun e W' ⟨he, hb⟩ => ?_
  subst he
  exact ⟨_, rfl, law_post (tb := 4) hW' rfl rfl rfl Tryz.underlying4 laid (by rw [Tryz.params5]; exact fun t ht => by simp at ht; rcases ht with rfl <;> exact ⟨by kernel_rfl, by decide +kernel⟩) hb⟩

theorem proved : Rows.ShowBackSaid :=
  OpenClaim.holds_of_cond 5 Tryz.f5 rfl rfl rfl rfl rfl rfl rfl ⟨rfl, rfl, rfl, rfl, rfl⟩ rfl rfl rfl rfl rfl (by kernel_rfl) Tryz.func5 (by kernel_rfl)
    (of_decide_eq_true (by kernel_rfl)) (by unfold Func.isWrapper; first | (rw [if_pos (by decide +kernel)]; kernel_rfl) | (rw [if_neg (by decide +kernel)]; exact ⟨rfl, rfl⟩))
    (fun os started H enc _ F => by rw [OpenClaim.pre_eq_preRow]; exact lifted os started H enc F)
theorem plain (f : FuncId) (fn : Func) (hf : Tryz.pinned.checked.prog.funcNamed "windrow/windrowlaw05.ShowBack" = some f) (hfn : Tryz.pinned.checked.prog.funcs[f]? = some fn) :
    true = Tryz.pinned.checked.prog.looks [] ∧ ∀ (j : Nat) t, fn.params[j]? = some t → Tryz.pinned.checked.prog.wantsStandIn t = false := by
  obtain rfl : f = 5 := Option.some.inj ((show Tryz.prog.funcNamed "windrow/windrowlaw05.ShowBack" = some 5 by kernel_rfl).symm.trans hf) |>.symm
  obtain rfl : fn = Tryz.f5 := (Option.some.inj (Tryz.func5.symm.trans hfn)).symm
  refine ⟨by kernel_rfl, fun j t ht => ?_⟩
  rw [Tryz.params5] at ht
  obtain rfl : t = 25 := by simpa using Array.mem_of_getElem? ht
  exact (show Tryz.prog.wantsStandIn 25 = false by kernel_rfl)
theorem card : Rows.ShowBackCardSaid :=
  Claim7.holds_tied_plain_at .later [] _ _ _ _ proved (fun _ h => by cases h) (by kernel_rfl) (fun _ h => by cases h) showBack_row_tie rfl ⟨rfl, rfl⟩ (by kernel_rfl) rfl plain (by kernel_rfl)
#print axioms card
end Go.Proofs.YtngkedmndhmjcaaGreatDoor.showBack
