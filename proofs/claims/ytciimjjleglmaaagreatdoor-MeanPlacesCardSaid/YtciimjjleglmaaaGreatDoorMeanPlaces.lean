/- Proved: for every input windrow/windrowlaw08.MeanPlaces returns true, and each argument reads afterwards as it read before. No condition beside the form's own. -/
import Derived.Test.YtciimjjleglmaaaGreatDoorM16
import Derived.Test.YtciimjjleglmaaaGreatDoorCards
import Derived.Test.YtciimjjleglmaaaGreatDoorTie
import Derived.JoinedTies
namespace Go.Proofs.YtciimjjleglmaaaGreatDoor.meanPlaces
open Go.ChangeShapes Go.WideShapes Go.ChangeAt Go.RowKit

theorem lMeanPlaces_zero_api_Program : (Tryz.prog.info? 25).bind (·.zero) = some (.agg #[.slice none 0 0, .slice none 0 0]) := by kernel_rfl
theorem lMeanPlaces_zero_api_Fault : (Tryz.prog.info? 36).bind (·.zero) = some (.agg #[.int .i64 0, .int .i64 0]) := by kernel_rfl
theorem lMeanPlaces_built_api_Fault_  : Tryz.prog.built 36 [] = some #[.int .i64 0, .int .i64 0] := by kernel_rfl

set_option maxRecDepth 100000 in
theorem law_spec (x : bCo) (hx : wB x) : dH Tryz.prog 9 [.agg #[.slice x.p.inputs.addr x.p.inputs.list.length x.p.inputs.cap, .slice x.p.lines.addr x.p.lines.list.length x.p.lines.cap, .slice x.dims.addr x.dims.list.length x.dims.cap, .slice x.ins.addr x.ins.list.length x.ins.cap]] [] [gZ, iJ.sl (.slice x.p.inputs.addr x.p.inputs.list.length x.p.inputs.cap) x.p.inputs.list, gX x.p.inputs.list, lJ.sl (.slice x.p.lines.addr x.p.lines.list.length x.p.lines.cap) x.p.lines.list, jB x.p.lines.list, cS.sl (.slice x.dims.addr x.dims.list.length x.dims.cap) x.dims.list, jP.sl (.slice x.ins.addr x.ins.list.length x.ins.cap) x.ins.list, Fact.each x.ins.list gK] (fun (_ : Unit) => .bool true) (fun _ => []) (fun _ => []) := by
  have hT := caseT_ok
  refine cQ Tryz.func9 rfl Tryz.ntmps9 rfl ?_
  intro β hM
  refine sr ?_
  refine fJ rfl rfl rfl rfl rfl rfl fun b1 => ?_
  refine sp hT ?_
  refine nn ?_
  refine sr ?_
  refine uR (cP Tryz.func10 rfl rfl) (shown8_spec ) rfl rfl rfl rfl rfl .nil ⟨Has.of mT0, trivial⟩ fun _ => ?_
  refine sp hT ?_
  refine nn ?_
  refine sr ?_
  refine sp hT ?_
  refine ss (ldN hT (iG (off := 0) .head)) ?_
  refine uR (cP Tryz.func21 rfl rfl) (sShow_spec x.p hx.ok hx.l1 hx.l2') rfl rfl rfl rfl rfl .nil ⟨(Has.of mT0), (Has.of mT1), (Has.of mT2), (Has.of mT3), (Has.of mT4), trivial⟩ fun _ => ?_
  refine sp4 hT ?_
  refine sp hT ?_
  refine nn ?_
  refine bA ?_
  refine sr ?_
  refine sp2 hT ?_
  refine nn ?_
  refine bH rfl (fun hc20 => ?_) (fun hc20 => ?_)
  · have hc20 := bne_iff_ne.1 hc20
    refine sr ?_
    refine sp2 hT ?_
    refine nn ?_
    refine bG ?_
    refine bC ?_
    exact bR () rfl (bD rfl) .nil trivial (rfl)
  have hc20 := bne_eq_false_iff_eq.1 hc20
  refine bK ?_
  refine bB ?_
  refine sr ?_
  refine sp hT ?_
  refine uR (cP Tryz.func18 rfl rfl) (bIb (lT x.p.pr).1 (Nat.le_trans (show_len hc20) (by decide))) rfl rfl rfl rfl rfl .nil ⟨(Has.of mT0), trivial⟩ fun X2 => ?_
  refine cD (Has.of mT1) fun hprq => ?_
  refine bW (iJ.sl (.slice X2.inputs.addr X2.inputs.list.length X2.inputs.cap) X2.inputs.list) (Has.left (Has.left (Has.of mT0))) ?_
  refine bW (gX X2.inputs.list) (Has.right (Has.left (Has.of mT1))) ?_
  refine bW (lJ.sl (.slice X2.lines.addr X2.lines.list.length X2.lines.cap) X2.lines.list) (Has.left (Has.right (Has.of mT2))) ?_
  refine bW (jB X2.lines.list) (Has.right (Has.right (Has.of mT3))) ?_
  have hback := back_law (rng_of hx.ok) hc20
  have hrd := reads_law hback.2.1
  rw [← hprq] at hback hrd
  have hfine := bAh hrd.1
  have hokq := hfine.ok hrd.2
  have hms := mean_same hback.2.2.symm x.dims.list (x.ins.list.map ArrV.arr)
  refine sp3 hT ?_
  refine cE rfl rfl rfl rfl lMeanPlaces_zero_api_Program rfl fun b3 => ?_
  refine cE rfl rfl rfl rfl lMeanPlaces_zero_api_Fault rfl fun b4 => ?_
  refine sto hT kT1 ?_
  refine sto hT kT1 ?_
  refine nn ?_
  refine sr ?_
  refine sp hT ?_
  refine ss (ldN hT (iG (off := 0) kT2)) ?_
  refine sp hT ?_
  refine ss (ldO hT (iG (off := 2) kT2)) ?_
  refine sp hT ?_
  refine ss (ldO hT (iG (off := 3) kT2)) ?_
  refine uR (cP Tryz.func13 rfl rfl) (wW x.p hx.ok hx.l1 hx.l2' x.dims.addr x.ins.addr x.dims.cap x.ins.cap x.dims.list x.ins.list (hx.hdl) (hx.hI)) rfl rfl rfl rfl rfl .nil ⟨(Has.of mT6), (Has.of mT7), (Has.of mT8), (Has.of mT9), (Has.of mT10), (Has.of bJc), (Has.of xJ), (Has.of mT13), trivial⟩ fun ⟨A5, c6, xs7⟩ => ?_
  refine cD (Has.of mT0) fun hxra => ?_
  refine sp3 hT ?_
  refine cE rfl rfl rfl rfl lMeanPlaces_zero_api_Fault rfl fun b8 => ?_
  refine sp hT ?_
  refine sto hT .head ?_
  refine nn ?_
  refine sr ?_
  refine ss (ldN hT (iG (off := 0) kT2)) ?_
  refine sp hT ?_
  refine ss (ldO hT (iG (off := 2) kT3)) ?_
  refine sp hT ?_
  refine ss (ldO hT (iG (off := 3) kT3)) ?_
  refine uR (cP Tryz.func13 rfl rfl) (wW X2 hokq.1 hokq.2.1 hokq.2.2 x.dims.addr x.ins.addr x.dims.cap x.ins.cap x.dims.list x.ins.list (hx.hdl) (hx.hI)) rfl rfl rfl rfl rfl .nil ⟨(Has.of mT9), (Has.of mT6), (Has.of mT5), (Has.of mT4), (Has.of mT3), (Has.of bEq), (Has.of (.tail _ (.tail _ (.tail _ (.tail _ (.tail _ (.tail _ (.tail _ (.tail _ (.tail _ (.tail _ (.tail _ (.tail _ (.tail _ (.tail _ (.tail _ mT0)))))))))))))))), (Has.of (.tail _ (.tail _ (.tail _ (.tail _ (.tail _ (.tail _ (.tail _ (.tail _ (.tail _ (.tail _ (.tail _ (.tail _ (.tail _ (.tail _ (.tail _ (.tail _ mT0))))))))))))))))), trivial⟩ fun ⟨A9, c10, xs11⟩ => ?_
  refine cD (Has.of mT0) fun hxrb => ?_
  refine sp3 hT ?_
  refine cE rfl rfl rfl rfl lMeanPlaces_zero_api_Fault rfl fun b12 => ?_
  refine sp hT ?_
  refine sto hT .head ?_
  refine nn ?_
  refine sr ?_
  refine sp2 hT ?_
  refine ss (ldN hT (iG (off := 0) kT2)) ?_
  refine ss (cB rfl rfl (lMeanPlaces_built_api_Fault_)) ?_
  refine ss (vQ ⟨(iT (lT x.p.pr).1).2.1, (iT (lT x.p.pr).1).2.2⟩ ⟨0, 0⟩ rfl rfl rfl) ?_
  refine cI (t' := true) (flt_t hback.2.1) ?_
  refine sp3 hT ?_
  refine ss (ldO hT (iG (off := 1) kT1)) ?_
  refine sp hT ?_
  refine ss (ldO hT (iG (off := 1) .head)) ?_
  refine sp hT ?_
  refine cI (t' := true) (by rw [beq_iff_eq]; exact hms.2) ?_
  refine sp4 hT ?_
  refine uR (cP Tryz.func15 rfl rfl) (same8_spec A5 A9 c6 c10 xs7 xs11 (mean_few hxra) (mean_big hxra)) rfl rfl rfl rfl rfl .nil ⟨(Has.of mT4), (Has.of mT5), (Has.of mT1), (Has.of mT2), trivial⟩ fun _ => ?_
  refine cI (t' := true) (decide_eq_true (by rw [hxra, hxrb]; exact hms.1)) ?_
  refine sp2 hT ?_
  refine nn ?_
  refine bG ?_
  exact bR () rfl (bD rfl) .nil trivial (rfl)

theorem reads (os : Os) {H : Type} (enc : TypeId × Value → H) : ∃ places, DataW.whole enc Tryz.prog ((laidWorld os).forCall (fun _ _ => 0) ⟨#[], #[.agg #[.slice none 0 0, .slice none 0 0, .slice none 0 0, .slice none 0 0]], []⟩).memory Tryz.f9.params.toList Rows.meanPlacesSpec.vars false (#[.agg #[.slice none 0 0, .slice none 0 0, .slice none 0 0, .slice none 0 0]] : Array Value).toList 8 = some ([.agg [.agg [.nil, .nil], .nil, .nil]], [], places) :=
  ⟨[], by kernel_rfl⟩

set_option maxRecDepth 100000 in
theorem lifted (os : Os) (started : os.Started) (H : Type) (enc : TypeId × Value → H) (F : Stop.Interp) :
    ReturnsInHanded {} Tryz.checked os 9 .any ((OpenSpec.ofChange Rows.meanPlacesSpec).preRow enc Tryz.prog Tryz.f9 Rows.meanPlacesRow.domain false Rows.meanPlacesRow.laid) (((OpenSpec.ofChange Rows.meanPlacesSpec).at F).post enc Tryz.prog Tryz.f9 false true false false) := by
  obtain ⟨places, hx⟩ := reads os enc
  refine returnsInHanded_of_row (C := Tryz.checked) (s := (OpenSpec.ofChange Rows.meanPlacesSpec)) own started (by kernel_rfl) Tryz.func9
    (witness_row_atRef (enc := enc) (C := Tryz.checked) false (laidWorld os) #[.agg #[.slice none 0 0, .slice none 0 0, .slice none 0 0, .slice none 0 0]] rfl (by kernel_rfl) (by kernel_rfl) (by kernel_rfl)
      (OpenSpec.preRow_of_cond 8 hx (by kernel_rfl) (fun k hk => by cases hk) (by kernel_rfl) (laid_met os _))) ?_
  intro W base args ds gs before hval0 hW _ _ hsz hL hsh _
  have hval : ∀ (j : Nat) t v, Tryz.f9.params[j]? = some t → args[j]? = some v → Value.okWide Tryz.prog W .any base t v := hval0
  have hW' := hW
  obtain ⟨p, q, hA0, hV, rfl, hfz, hnd⟩ := hW
  have hA : DataW.TrodAll enc Tryz.prog W 0 (fun _ => true) true Tryz.f9.params.toList args.toList ds p := hA0
  rw [Tryz.params9] at hA hval
  obtain ⟨v0, vs0, d0, ds0, p0, q0, hargs, rfl, rfl, h0, r0⟩ := trodAll_cons hA
  obtain ⟨rfl, rfl, rfl⟩ := trodAll_nil r0
  obtain rfl : args = #[v0] := by cases args; simp_all
  obtain ⟨rfl, rfl⟩ := trodVars_none hV
  obtain ⟨a0, e0, f0⟩ := oP.arg opens_case h0 hsz (j := 0) rfl rfl
  obtain ⟨cs0, rfl, _⟩ := okWide_struct Tryz.underlying33 (hval 0 33 v0 rfl rfl)
  obtain rfl : cs0 = #[.slice a0.p.inputs.addr a0.p.inputs.list.length a0.p.inputs.cap, .slice a0.p.lines.addr a0.p.lines.list.length a0.p.lines.cap, .slice a0.dims.addr a0.dims.list.length a0.dims.cap, .slice a0.ins.addr a0.ins.list.length a0.ins.cap] := by
    apply Array.ext'
    exact e0
  clear hA0 hval0
  simp only [List.append_nil] at hW'
  have hg := globF_of hL hsh
  obtain ⟨hx, ⟨k1, k2, k3, k4⟩, k5, k6, k7⟩ := case_of f0
  refine (bKc (law_spec a0 hx) (All.cons hg (All.cons k1 (All.cons k2 (All.cons k3 (All.cons k4 (All.cons k5 (All.cons k6 (All.cons k7 fun g hg => by simp at hg))))))))).mono fun e W' ⟨he, hb⟩ => ?_
  subst he
  exact ⟨_, rfl, law_post (tb := 4) hW' rfl rfl rfl Tryz.underlying4 laid (by rw [Tryz.params9]; exact fun t ht => by simp at ht; rcases ht with rfl <;> exact ⟨by kernel_rfl, by decide +kernel⟩) hb⟩

theorem proved : Rows.MeanPlacesSaid :=
  OpenClaim.holds_of_cond 9 Tryz.f9 rfl rfl rfl rfl rfl rfl rfl ⟨rfl, rfl, rfl, rfl, rfl⟩ rfl rfl rfl rfl rfl (by kernel_rfl) Tryz.func9 (by kernel_rfl)
    (of_decide_eq_true (by kernel_rfl)) (by unfold Func.isWrapper; first | (rw [if_pos (by decide +kernel)]; kernel_rfl) | (rw [if_neg (by decide +kernel)]; exact ⟨rfl, rfl⟩))
    (fun os started H enc _ F => by rw [OpenClaim.pre_eq_preRow]; exact lifted os started H enc F)
theorem plain (f : FuncId) (fn : Func) (hf : Tryz.pinned.checked.prog.funcNamed "windrow/windrowlaw08.MeanPlaces" = some f) (hfn : Tryz.pinned.checked.prog.funcs[f]? = some fn) :
    true = Tryz.pinned.checked.prog.looks [] ∧ ∀ (j : Nat) t, fn.params[j]? = some t → Tryz.pinned.checked.prog.wantsStandIn t = false := by
  obtain rfl : f = 9 := Option.some.inj ((show Tryz.prog.funcNamed "windrow/windrowlaw08.MeanPlaces" = some 9 by kernel_rfl).symm.trans hf) |>.symm
  obtain rfl : fn = Tryz.f9 := (Option.some.inj (Tryz.func9.symm.trans hfn)).symm
  refine ⟨by kernel_rfl, fun j t ht => ?_⟩
  rw [Tryz.params9] at ht
  obtain rfl : t = 33 := by simpa using Array.mem_of_getElem? ht
  exact (show Tryz.prog.wantsStandIn 33 = false by kernel_rfl)
theorem card : Rows.MeanPlacesCardSaid :=
  Claim7.holds_tied_plain_at .later [] _ _ _ _ proved (fun _ h => by cases h) (by kernel_rfl) (fun _ h => by cases h) meanPlaces_row_tie rfl ⟨rfl, rfl⟩ (by kernel_rfl) rfl plain (by kernel_rfl)
#print axioms card
end Go.Proofs.YtciimjjleglmaaaGreatDoor.meanPlaces
