/- Proved: for every input windrow/windrowlaw05.ShowShort returns true, and each argument reads afterwards as it read before. No condition beside the form's own. -/
import Derived.Test.YtngkedmndhmjcaaGreatDoorM8
import Derived.Test.YtngkedmndhmjcaaGreatDoorM9
import Derived.Test.YtngkedmndhmjcaaGreatDoorCards
import Derived.Test.YtngkedmndhmjcaaGreatDoorTie
import Derived.JoinedTies
namespace Go.Proofs.YtngkedmndhmjcaaGreatDoor.showShort
open Go.ChangeShapes Go.WideShapes Go.ChangeAt Go.RowKit

theorem lShowShort_zero_api_Program : (Tryz.prog.info? 25).bind (·.zero) = some (.agg #[.slice none 0 0, .slice none 0 0]) := by kernel_rfl
theorem lShowShort_zero_api_Fault : (Tryz.prog.info? 32).bind (·.zero) = some (.agg #[.int .i64 0, .int .i64 0]) := by kernel_rfl
theorem lShowShort_built_api_Fault_  : Tryz.prog.built 32 [] = some #[.int .i64 0, .int .i64 0] := by kernel_rfl

set_option maxRecDepth 100000 in
theorem law_spec (text : Bs) (hs : text.length ≤ 140737488355328) : Spec Tryz.prog 7 [.string (bs text)] [] [globF] (fun (_ : Unit) => .bool true) (fun _ => []) (fun _ => []) := by
  have hT := show2T_ok
  refine spec_of Tryz.func7 rfl Tryz.ntmps7 rfl ?_
  intro β hM
  refine sr ?_
  refine sp hT ?_
  refine nn ?_
  refine sr ?_
  refine at_call (callFunc_enter Tryz.func10 rfl rfl) (shown5_spec ) rfl rfl rfl rfl rfl .nil ⟨Has.of mT0, trivial⟩ fun _ => ?_
  refine sp hT ?_
  refine nn ?_
  refine sr ?_
  refine sp hT ?_
  refine at_call (callFunc_enter Tryz.func15 rfl rfl) (Parse_spec text (hs)) rfl rfl rfl rfl rfl .nil ⟨(Has.of mT0), trivial⟩ fun X1 => ?_
  refine at_know (Has.of mT1) fun hpr => ?_
  refine at_fact (inputE.sl (.slice X1.inputs.addr X1.inputs.list.length X1.inputs.cap) X1.inputs.list) (Has.left (Has.left (Has.of mT0))) ?_
  refine at_fact (inputsF X1.inputs.list) (Has.right (Has.left (Has.of mT1))) ?_
  refine at_fact (lineE.sl (.slice X1.lines.addr X1.lines.list.length X1.lines.cap) X1.lines.list) (Has.left (Has.right (Has.of mT2))) ?_
  refine at_fact (linesF X1.lines.list) (Has.right (Has.right (Has.of mT3))) ?_
  refine sp3 hT ?_
  refine at_alloc rfl rfl rfl rfl lShowShort_zero_api_Program rfl fun b2 => ?_
  refine at_alloc rfl rfl rfl rfl lShowShort_zero_api_Fault rfl fun b3 => ?_
  refine sto hT kT1 ?_
  refine sto hT kT1 ?_
  refine nn ?_
  refine at_seq ?_
  refine sr ?_
  refine ss (ldN hT (knows_own (off := 0) .head)) ?_
  refine ss (sti_build rfl rfl (lShowShort_built_api_Fault_)) ?_
  refine ss (sti_neq_flt ⟨(parseP text).2.1, (parseP text).2.2⟩ ⟨0, 0⟩ rfl rfl rfl) ?_
  refine nn ?_
  refine at_cond rfl (fun hc20 => ?_) (fun hc20 => ?_)
  · have hc20 := not_t hc20
    refine sr ?_
    refine sp2 hT ?_
    refine nn ?_
    refine at_ret ?_
    refine r_then ?_
    exact at_res1 () rfl (rv_tmp rfl) .nil trivial (rfl)
  have hc20 := not_f hc20
  have hf := flt_of hc20
  have hrd := reads_law hf
  have hlx := (lexed hf).2
  rw [← hpr] at hrd
  have hfine := fine_of hrd.1
  have hok := hfine.ok hrd.2
  have hal := hfine.alike
  refine at_skip ?_
  refine n_then ?_
  refine sr ?_
  refine ss (ldN hT (knows_own (off := 0) kT1)) ?_
  refine at_call (callFunc_enter Tryz.func13 rfl rfl) (sShow_spec X1 hok.1 hok.2.1 hok.2.2) rfl rfl rfl rfl rfl .nil ⟨(Has.of mT6), (Has.of mT3), (Has.of mT2), (Has.of mT1), (Has.of mT0), trivial⟩ fun _ => ?_
  refine sp4 hT ?_
  refine sp hT ?_
  refine nn ?_
  refine at_seq ?_
  refine sr ?_
  refine sp2 hT ?_
  refine nn ?_
  refine at_cond rfl (fun hc28 => ?_) (fun hc28 => ?_)
  · have hc28 := bne_iff_ne.1 hc28
    refine sr ?_
    refine sp4 hT ?_
    refine at_bool (t' := true) (show_long hc28 hrd.1) ?_
    refine sp2 hT ?_
    refine nn ?_
    refine at_ret ?_
    refine r_then ?_
    exact at_res1 () rfl (rv_tmp rfl) .nil trivial (rfl)
  have hc28 := bne_eq_false_iff_eq.1 hc28
  refine at_skip ?_
  refine n_then ?_
  refine sr ?_
  refine sp hT ?_
  refine ss (sti_cat rfl rfl rfl (by simp; omega)) ?_
  refine at_call (callFunc_enter Tryz.func17 rfl rfl) (Lex_spec (text ++ ([10] : Bs)) (by simp; omega)) rfl rfl rfl rfl rfl .nil ⟨(Has.of mT6), trivial⟩ fun ⟨A4, c5⟩ => ?_
  refine sp3 hT ?_
  refine at_alloc rfl rfl rfl rfl lShowShort_zero_api_Fault rfl fun b6 => ?_
  refine sp hT ?_
  refine sto hT .head ?_
  refine nn ?_
  refine sr ?_
  refine sp hT ?_
  refine at_call (callFunc_enter Tryz.func17 rfl rfl) (Lex_spec (showP X1.pr).1 (Nat.le_trans (show_len hc28) (by decide))) rfl rfl rfl rfl rfl .nil ⟨(Has.of mT8), trivial⟩ fun ⟨A7, c8⟩ => ?_
  refine sp3 hT ?_
  refine at_alloc rfl rfl rfl rfl lShowShort_zero_api_Fault rfl fun b9 => ?_
  refine sp hT ?_
  refine sto hT .head ?_
  refine nn ?_
  refine at_seq ?_
  refine sr ?_
  refine sp2 hT ?_
  refine at_int (z' := ((text.length : Nat) : Int)) rfl ?_
  refine sp hT ?_
  refine nn ?_
  refine at_cond rfl (fun hc47 => ?_) (fun hc47 => ?_)
  · have hc47 := eq_of_beq hc47
    refine sr ?_
    refine sp2 hT ?_
    refine nn ?_
    refine at_ret ?_
    refine r_then ?_
    exact at_res1 () rfl (rv_tmp rfl) .nil trivial (rfl)
  have hc47 := beq_eq_false_iff_ne.1 hc47
  have hsh := short_law hf (by rw [← hpr]; exact hc28) (by omega)
  rw [← hpr] at hsh
  refine at_skip ?_
  refine n_then ?_
  refine sr ?_
  refine sp2 hT ?_
  refine ss (ldN hT (knows_own (off := 0) kT1)) ?_
  refine ss (sti_build rfl rfl (lShowShort_built_api_Fault_)) ?_
  refine ss (sti_eql_flt ⟨(lexP (text ++ ([10] : Bs))).2.1, (lexP (text ++ ([10] : Bs))).2.2⟩ ⟨0, 0⟩ rfl rfl rfl) ?_
  refine at_bool (t' := true) (flt_t hsh.1) ?_
  refine sp2 hT ?_
  refine ss (ldN hT (knows_own (off := 0) .head)) ?_
  refine ss (sti_build rfl rfl (lShowShort_built_api_Fault_)) ?_
  refine ss (sti_eql_flt ⟨(lexP (showP X1.pr).1).2.1, (lexP (showP X1.pr).1).2.2⟩ ⟨0, 0⟩ rfl rfl rfl) ?_
  refine at_bool (t' := true) (flt_t hsh.2.1) ?_
  refine sp4 hT ?_
  refine sp3 hT ?_
  refine at_bool (t' := true) (decide_eq_true (by have := hsh.2.2; omega)) ?_
  refine sp2 hT ?_
  refine nn ?_
  refine at_ret ?_
  exact at_res1 () rfl (rv_tmp rfl) .nil trivial (rfl)

theorem reads (os : Os) {H : Type} (enc : TypeId × Value → H) : ∃ places, DataW.whole enc Tryz.prog ((laidWorld os).forCall (fun _ _ => 0) ⟨#[], #[.string (ByteArray.mk #[])], []⟩).memory Tryz.f7.params.toList Rows.showShortSpec.vars false (#[.string (ByteArray.mk #[])] : Array Value).toList 8 = some ([(.lit (.string []))], [], places) :=
  ⟨[], by kernel_rfl⟩

set_option maxRecDepth 100000 in
theorem lifted (os : Os) (started : os.Started) (H : Type) (enc : TypeId × Value → H) (F : Stop.Interp) :
    ReturnsInHanded {} Tryz.checked os 7 .any ((OpenSpec.ofChange Rows.showShortSpec).preRow enc Tryz.prog Tryz.f7 Rows.showShortRow.domain false Rows.showShortRow.laid) (((OpenSpec.ofChange Rows.showShortSpec).at F).post enc Tryz.prog Tryz.f7 false true false false) := by
  obtain ⟨places, hx⟩ := reads os enc
  refine returnsInHanded_of_row (C := Tryz.checked) (s := (OpenSpec.ofChange Rows.showShortSpec)) own started (by kernel_rfl) Tryz.func7
    (witness_row_atRef (enc := enc) (C := Tryz.checked) false (laidWorld os) #[.string (ByteArray.mk #[])] rfl (by kernel_rfl) (by kernel_rfl) (by kernel_rfl)
      (OpenSpec.preRow_of_cond 8 hx (by kernel_rfl) (fun k hk => by cases hk) (by kernel_rfl) (laid_met os _))) ?_
  intro W base args ds gs before hval0 hW _ _ hsz hL hsh _
  have hval : ∀ (j : Nat) t v, Tryz.f7.params[j]? = some t → args[j]? = some v → Value.okWide Tryz.prog W .any base t v := hval0
  have hW' := hW
  obtain ⟨p, q, hA0, hV, rfl, hfz, hnd⟩ := hW
  have hA : DataW.TrodAll enc Tryz.prog W 0 (fun _ => true) true Tryz.f7.params.toList args.toList ds p := hA0
  rw [Tryz.params7] at hA hval
  obtain ⟨v0, vs0, d0, ds0, p0, q0, hargs, rfl, rfl, h0, r0⟩ := trodAll_cons hA
  obtain ⟨rfl, rfl, rfl⟩ := trodAll_nil r0
  obtain rfl : args = #[v0] := by cases args; simp_all
  obtain ⟨rfl, rfl⟩ := trodVars_none hV
  obtain ⟨a0, e0, f0⟩ := Opens.arg (opens_str Tryz.underlying9) h0 hsz (j := 0) rfl rfl
  obtain ⟨n0, rfl⟩ := okWide_string Tryz.underlying9 (hval 0 9 v0 rfl rfl)
  obtain rfl : bs a0 = n0 := by simpa [Value.cells, strE, eq_comm] using e0
  clear hA0 hval0
  simp only [List.append_nil] at hW'
  have hg := globF_of hL hsh
  refine (calls_of_spec (law_spec a0 f0) (All.cons hg fun g hg => by simp at hg)).mono fun e W' ⟨he, hb⟩ => ?_
  subst he
  exact ⟨_, rfl, law_post (tb := 4) hW' rfl rfl rfl Tryz.underlying4 laid (by rw [Tryz.params7]; exact fun t ht => by simp at ht; rcases ht with rfl <;> exact ⟨by kernel_rfl, by decide +kernel⟩) hb⟩

theorem proved : Rows.ShowShortSaid :=
  OpenClaim.holds_of_cond 7 Tryz.f7 rfl rfl rfl rfl rfl rfl rfl ⟨rfl, rfl, rfl, rfl, rfl⟩ rfl rfl rfl rfl rfl (by kernel_rfl) Tryz.func7 (by kernel_rfl)
    (of_decide_eq_true (by kernel_rfl)) (by unfold Func.isWrapper; first | (rw [if_pos (by decide +kernel)]; kernel_rfl) | (rw [if_neg (by decide +kernel)]; exact ⟨rfl, rfl⟩))
    (fun os started H enc _ F => by rw [OpenClaim.pre_eq_preRow]; exact lifted os started H enc F)
theorem plain (f : FuncId) (fn : Func) (hf : Tryz.pinned.checked.prog.funcNamed "windrow/windrowlaw05.ShowShort" = some f) (hfn : Tryz.pinned.checked.prog.funcs[f]? = some fn) :
    true = Tryz.pinned.checked.prog.looks [] ∧ ∀ (j : Nat) t, fn.params[j]? = some t → Tryz.pinned.checked.prog.wantsStandIn t = false := by
  obtain rfl : f = 7 := Option.some.inj ((show Tryz.prog.funcNamed "windrow/windrowlaw05.ShowShort" = some 7 by kernel_rfl).symm.trans hf) |>.symm
  obtain rfl : fn = Tryz.f7 := (Option.some.inj (Tryz.func7.symm.trans hfn)).symm
  refine ⟨by kernel_rfl, fun j t ht => ?_⟩
  rw [Tryz.params7] at ht
  obtain rfl : t = 9 := by simpa using Array.mem_of_getElem? ht
  exact (show Tryz.prog.wantsStandIn 9 = false by kernel_rfl)
theorem card : Rows.ShowShortCardSaid :=
  Claim7.holds_tied_plain_at .later [] _ _ _ _ proved (fun _ h => by cases h) (by kernel_rfl) (fun _ h => by cases h) showShort_row_tie rfl ⟨rfl, rfl⟩ (by kernel_rfl) rfl plain (by kernel_rfl)
#print axioms card
end Go.Proofs.YtngkedmndhmjcaaGreatDoor.showShort
