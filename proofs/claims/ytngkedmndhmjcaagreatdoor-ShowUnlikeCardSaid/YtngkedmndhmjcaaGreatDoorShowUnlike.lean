/- Proved: for every input windrow/windrowlaw05.ShowUnlike returns true, and each argument reads afterwards as it read before. No condition beside the form's own. -/
import Derived.Test.YtngkedmndhmjcaaGreatDoorM8
import Derived.Test.YtngkedmndhmjcaaGreatDoorM9
import Derived.Test.YtngkedmndhmjcaaGreatDoorCards
import Derived.Test.YtngkedmndhmjcaaGreatDoorTie
import Derived.JoinedTies
namespace Go.Proofs.YtngkedmndhmjcaaGreatDoor.showUnlike
open Go.ChangeShapes Go.WideShapes Go.ChangeAt Go.RowKit



set_option maxRecDepth 100000 in
theorem law_spec (P : ProgV) (hP : ProgOk P) (hl1 : P.inputs.list.length ≤ 140737488355328) (hl2 : P.lines.list.length ≤ 140737488355328) (hA : AlikeOk P) (Q : ProgV) (hQ : ProgOk Q) (hm1 : Q.inputs.list.length ≤ 140737488355328) (hm2 : Q.lines.list.length ≤ 140737488355328) : Spec Tryz.prog 8 [.agg #[.slice P.inputs.addr P.inputs.list.length P.inputs.cap, .slice P.lines.addr P.lines.list.length P.lines.cap], .agg #[.slice Q.inputs.addr Q.inputs.list.length Q.inputs.cap, .slice Q.lines.addr Q.lines.list.length Q.lines.cap]] [] [globF, inputE.sl (.slice P.inputs.addr P.inputs.list.length P.inputs.cap) P.inputs.list, inputsF P.inputs.list, lineE.sl (.slice P.lines.addr P.lines.list.length P.lines.cap) P.lines.list, linesF P.lines.list, inputE.sl (.slice Q.inputs.addr Q.inputs.list.length Q.inputs.cap) Q.inputs.list, inputsF Q.inputs.list, lineE.sl (.slice Q.lines.addr Q.lines.list.length Q.lines.cap) Q.lines.list, linesF Q.lines.list] (fun (_ : Unit) => .bool true) (fun _ => []) (fun _ => []) := by
  have hT := show2T_ok
  refine spec_of Tryz.func8 rfl Tryz.ntmps8 rfl ?_
  intro β hM
  refine sr ?_
  refine at_box rfl rfl rfl rfl rfl rfl fun b1 => ?_
  refine at_box rfl rfl rfl rfl rfl rfl fun b2 => ?_
  refine sp hT ?_
  refine nn ?_
  refine sr ?_
  refine at_call (callFunc_enter Tryz.func10 rfl rfl) (shown5_spec ) rfl rfl rfl rfl rfl .nil ⟨Has.of mT0, trivial⟩ fun _ => ?_
  refine sp hT ?_
  refine nn ?_
  refine sr ?_
  refine ss (ldN hT (knows_own (off := 0) kT1)) ?_
  refine at_call (callFunc_enter Tryz.func13 rfl rfl) (sShow_spec P hP hl1 hl2) rfl rfl rfl rfl rfl .nil ⟨(Has.of mT0), (Has.of mT1), (Has.of mT2), (Has.of mT3), (Has.of mT4), trivial⟩ fun _ => ?_
  refine sp4 hT ?_
  refine sp hT ?_
  refine nn ?_
  refine sr ?_
  refine ss (ldN hT (knows_own (off := 0) .head)) ?_
  refine at_call (callFunc_enter Tryz.func13 rfl rfl) (sShow_spec Q hQ hm1 hm2) rfl rfl rfl rfl rfl .nil ⟨(Has.of mT0), (Has.of mT5), (Has.of mT6), (Has.of mT7), (Has.of mT8), trivial⟩ fun _ => ?_
  refine sp4 hT ?_
  refine sp hT ?_
  refine nn ?_
  refine at_seq ?_
  refine sr ?_
  refine sp3 hT ?_
  refine at_case (fun hg23 => ?_) (fun hg23 => ?_)
  · have hg23 := bne_iff_ne.1 hg23
    refine sk2 ?_
    refine sp hT ?_
    refine nn ?_
    refine at_true rfl rfl ?_
    refine sr ?_
    refine sp4 hT ?_
    refine at_bool (t' := false) (beq_eq_false_iff_ne.2 hg23) ?_
    refine sp3 hT ?_
    refine at_bool (t' := true) (show_empty (by assumption)) ?_
    refine sp4 hT ?_
    refine sp2 hT ?_
    refine at_case (fun hg39 => ?_) (fun hg39 => ?_)
    · have hg39 := eq_of_beq hg39
      refine sk2 ?_
      refine sp3 hT ?_
      refine nn ?_
      refine at_ret ?_
      refine r_then ?_
      exact at_res1 () rfl (rv_tmp rfl) .nil trivial (rfl)
    have hg39 := beq_eq_false_iff_ne.1 hg39
    refine sp2 hT ?_
    refine at_bool (t' := true) (show_empty (by assumption)) ?_
    refine sp3 hT ?_
    refine nn ?_
    refine at_ret ?_
    refine r_then ?_
    exact at_res1 () rfl (rv_tmp rfl) .nil trivial (rfl)
  have hg23 := bne_eq_false_iff_eq.1 hg23
  refine sp3 hT ?_
  refine nn ?_
  refine at_cond rfl (fun hc26 => ?_) (fun hc26 => ?_)
  · have hc26 := bne_iff_ne.1 hc26
    refine sr ?_
    refine sp4 hT ?_
    refine at_bool (t' := true) (by rw [hg23]; rfl) ?_
    refine sp hT ?_
    refine sk2 ?_
    refine sp4 hT ?_
    refine sp hT ?_
    refine at_bool (t' := false) (beq_eq_false_iff_ne.2 hc26) ?_
    refine sp3 hT ?_
    refine at_bool (t' := true) (show_empty (by assumption)) ?_
    refine sp3 hT ?_
    refine nn ?_
    refine at_ret ?_
    refine r_then ?_
    exact at_res1 () rfl (rv_tmp rfl) .nil trivial (rfl)
  have hc26 := bne_eq_false_iff_eq.1 hc26
  refine at_skip ?_
  refine n_then ?_
  refine sr ?_
  refine sp4 hT ?_
  refine sp hT ?_
  refine ss (ldN hT (knows_own (off := 0) kT1)) ?_
  refine ss (ldN hT (knows_own (off := 0) .head)) ?_
  refine at_call (callFunc_enter Tryz.func16 rfl rfl) (rAlike_spec P Q hA) rfl rfl rfl rfl rfl .nil ⟨(Has.of mT1), (Has.of mT2), (Has.of mT3), (Has.of mT4), (Has.of mT5), (Has.of mT6), (Has.of mT7), (Has.of mT8), trivial⟩ fun _ => ?_
  refine sp hT ?_
  refine at_bool (t' := true) (unlike_eq (rng_of hP) (rng_of hQ) (by assumption) (by assumption)) ?_
  refine sp2 hT ?_
  refine nn ?_
  refine at_ret ?_
  exact at_res1 () rfl (rv_tmp rfl) .nil trivial (rfl)

theorem reads (os : Os) {H : Type} (enc : TypeId × Value → H) : ∃ places, DataW.whole enc Tryz.prog ((laidWorld os).forCall (fun _ _ => 0) ⟨#[], #[.agg #[.slice none 0 0, .slice none 0 0], .agg #[.slice none 0 0, .slice none 0 0]], []⟩).memory Tryz.f8.params.toList Rows.showUnlikeSpec.vars false (#[.agg #[.slice none 0 0, .slice none 0 0], .agg #[.slice none 0 0, .slice none 0 0]] : Array Value).toList 8 = some ([.agg [.nil, .nil], .agg [.nil, .nil]], [], places) :=
  ⟨[], by kernel_rfl⟩

set_option maxRecDepth 100000 in
theorem lifted (os : Os) (started : os.Started) (H : Type) (enc : TypeId × Value → H) (F : Stop.Interp) :
    ReturnsInHanded {} Tryz.checked os 8 .any ((OpenSpec.ofChange Rows.showUnlikeSpec).preRow enc Tryz.prog Tryz.f8 Rows.showUnlikeRow.domain false Rows.showUnlikeRow.laid) (((OpenSpec.ofChange Rows.showUnlikeSpec).at F).post enc Tryz.prog Tryz.f8 false true false false) := by
  obtain ⟨places, hx⟩ := reads os enc
  refine returnsInHanded_of_row (C := Tryz.checked) (s := (OpenSpec.ofChange Rows.showUnlikeSpec)) own started (by kernel_rfl) Tryz.func8
    (witness_row_atRef (enc := enc) (C := Tryz.checked) false (laidWorld os) #[.agg #[.slice none 0 0, .slice none 0 0], .agg #[.slice none 0 0, .slice none 0 0]] rfl (by kernel_rfl) (by kernel_rfl) (by kernel_rfl)
      (OpenSpec.preRow_of_cond 8 hx (by kernel_rfl) (fun k hk => by cases hk) (by kernel_rfl) (laid_met os _))) ?_
  intro W base args ds gs before hval0 hW _ _ hsz hL hsh _
  have hval : ∀ (j : Nat) t v, Tryz.f8.params[j]? = some t → args[j]? = some v → Value.okWide Tryz.prog W .any base t v := hval0
  have hW' := hW
  obtain ⟨p, q, hA0, hV, rfl, hfz, hnd⟩ := hW
  have hA : DataW.TrodAll enc Tryz.prog W 0 (fun _ => true) true Tryz.f8.params.toList args.toList ds p := hA0
  rw [Tryz.params8] at hA hval
  obtain ⟨v0, vs0, d0, ds0, p0, q0, hargs, rfl, rfl, h0, r0⟩ := trodAll_cons hA
  obtain ⟨v1, vs1, d1, ds1, p1, q1, rfl, rfl, rfl, h1, r1⟩ := trodAll_cons r0
  obtain ⟨rfl, rfl, rfl⟩ := trodAll_nil r1
  obtain rfl : args = #[v0, v1] := by cases args; simp_all
  obtain ⟨rfl, rfl⟩ := trodVars_none hV
  obtain ⟨a0, e0, f0⟩ := Opens.arg opens_prog h0 hsz (j := 0) rfl rfl
  obtain ⟨cs0, rfl, _⟩ := okWide_struct Tryz.underlying25 (hval 0 25 v0 rfl rfl)
  obtain rfl : cs0 = #[.slice a0.inputs.addr a0.inputs.list.length a0.inputs.cap, .slice a0.lines.addr a0.lines.list.length a0.lines.cap] := by
    apply Array.ext'
    exact e0
  obtain ⟨a1, e1, f1⟩ := Opens.arg opens_prog h1 hsz (j := 1) rfl rfl
  obtain ⟨cs1, rfl, _⟩ := okWide_struct Tryz.underlying25 (hval 1 25 v1 rfl rfl)
  obtain rfl : cs1 = #[.slice a1.inputs.addr a1.inputs.list.length a1.inputs.cap, .slice a1.lines.addr a1.lines.list.length a1.lines.cap] := by
    apply Array.ext'
    exact e1
  clear hA0 hval0
  simp only [List.append_nil] at hW'
  have hg := globF_of hL hsh
  obtain ⟨⟨k1, k2, k3, k4⟩, hok, hl1, hl2⟩ := prog_of f0
  obtain ⟨⟨j1, j2, j3, j4⟩, gok, gl1, gl2⟩ := prog_of f1
  refine (calls_of_spec (law_spec a0 hok hl1 hl2 (alike_of f0) a1 gok gl1 gl2) (All.cons hg (All.cons k1 (All.cons k2 (All.cons k3 (All.cons k4 (All.cons j1 (All.cons j2 (All.cons j3 (All.cons j4 fun g hg => by simp at hg)))))))))).mono fun e W' ⟨he, hb⟩ => ?_
  subst he
  exact ⟨_, rfl, law_post (tb := 4) hW' rfl rfl rfl Tryz.underlying4 laid (by rw [Tryz.params8]; exact fun t ht => by simp at ht; rcases ht with rfl <;> exact ⟨by kernel_rfl, by decide +kernel⟩) hb⟩

theorem proved : Rows.ShowUnlikeSaid :=
  OpenClaim.holds_of_cond 8 Tryz.f8 rfl rfl rfl rfl rfl rfl rfl ⟨rfl, rfl, rfl, rfl, rfl⟩ rfl rfl rfl rfl rfl (by kernel_rfl) Tryz.func8 (by kernel_rfl)
    (of_decide_eq_true (by kernel_rfl)) (by unfold Func.isWrapper; first | (rw [if_pos (by decide +kernel)]; kernel_rfl) | (rw [if_neg (by decide +kernel)]; exact ⟨rfl, rfl⟩))
    (fun os started H enc _ F => by rw [OpenClaim.pre_eq_preRow]; exact lifted os started H enc F)
theorem plain (f : FuncId) (fn : Func) (hf : Tryz.pinned.checked.prog.funcNamed "windrow/windrowlaw05.ShowUnlike" = some f) (hfn : Tryz.pinned.checked.prog.funcs[f]? = some fn) :
    true = Tryz.pinned.checked.prog.looks [] ∧ ∀ (j : Nat) t, fn.params[j]? = some t → Tryz.pinned.checked.prog.wantsStandIn t = false := by
  obtain rfl : f = 8 := Option.some.inj ((show Tryz.prog.funcNamed "windrow/windrowlaw05.ShowUnlike" = some 8 by kernel_rfl).symm.trans hf) |>.symm
  obtain rfl : fn = Tryz.f8 := (Option.some.inj (Tryz.func8.symm.trans hfn)).symm
  refine ⟨by kernel_rfl, fun j t ht => ?_⟩
  rw [Tryz.params8] at ht
  obtain rfl : t = 25 := by simpa using Array.mem_of_getElem? ht
  exact (show Tryz.prog.wantsStandIn 25 = false by kernel_rfl)
theorem card : Rows.ShowUnlikeCardSaid :=
  Claim7.holds_tied_plain_at .later [] _ _ _ _ proved (fun _ h => by cases h) (by kernel_rfl) (fun _ h => by cases h) showUnlike_row_tie rfl ⟨rfl, rfl⟩ (by kernel_rfl) rfl plain (by kernel_rfl)
#print axioms card
end Go.Proofs.YtngkedmndhmjcaaGreatDoor.showUnlike
