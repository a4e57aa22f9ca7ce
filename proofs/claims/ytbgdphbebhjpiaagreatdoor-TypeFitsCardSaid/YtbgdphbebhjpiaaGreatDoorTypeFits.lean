/- Proved: for every input windrow/windrowlaw09.TypeFits returns true, and each argument reads afterwards as it read before. No condition beside the form's own. -/
import Derived.Test.YtbgdphbebhjpiaaGreatDoorM23
import Derived.Test.YtbgdphbebhjpiaaGreatDoorCards
import Derived.Test.YtbgdphbebhjpiaaGreatDoorTie
import Derived.JoinedTies
namespace Go.Proofs.YtbgdphbebhjpiaaGreatDoor.typeFits
open Go.ChangeShapes Go.WideShapes Go.ChangeAt Go.RowKit
theorem reads (os : Os) {H : Type} (enc : TypeId × Value → H) : ∃ places, DataW.whole enc Tryz.prog ((laidWorld os).forCall (fun _ _ => 0) ⟨#[], #[.agg #[.slice none 0 0, .bool false, .slice none 0 0], .slice none 0 0, .agg #[.slice none 0 0, .slice none 0 0]], []⟩).memory Tryz.f10.params.toList Rows.typeFitsSpec.vars false (#[.agg #[.slice none 0 0, .bool false, .slice none 0 0], .slice none 0 0, .agg #[.slice none 0 0, .slice none 0 0]] : Array Value).toList 8 = some ([.agg [.nil, (.lit (.bool false)), .nil], .nil, .agg [.nil, .nil]], [], places) :=
  ⟨[], by kernel_rfl⟩

set_option maxRecDepth 100000 in
theorem lifted (os : Os) (started : os.Started) (H : Type) (enc : TypeId × Value → H) (F : Stop.Interp) :
    ReturnsInHanded {} Tryz.checked os 10 .any ((OpenSpec.ofChange Rows.typeFitsSpec).preRow enc Tryz.prog Tryz.f10 Rows.typeFitsRow.domain false Rows.typeFitsRow.laid) (((OpenSpec.ofChange Rows.typeFitsSpec).at F).post enc Tryz.prog Tryz.f10 false true false false) := by
  obtain ⟨places, hx⟩ := reads os enc
  refine returnsInHanded_of_row (C := Tryz.checked) (s := (OpenSpec.ofChange Rows.typeFitsSpec)) own started (by kernel_rfl) Tryz.func10
    (witness_row_atRef (enc := enc) (C := Tryz.checked) false (laidWorld os) #[.agg #[.slice none 0 0, .bool false, .slice none 0 0], .slice none 0 0, .agg #[.slice none 0 0, .slice none 0 0]] rfl (by kernel_rfl) (by kernel_rfl) (by kernel_rfl)
      (OpenSpec.preRow_of_cond 8 hx (by kernel_rfl) (fun k hk => by cases hk) (by kernel_rfl) (laid_met os _))) ?_
  intro W base args ds gs before hval0 hW _ _ hsz hL hsh _
  have hval : ∀ (j : Nat) t v, Tryz.f10.params[j]? = some t → args[j]? = some v → Value.okWide Tryz.prog W .any base t v := hval0
  have hW' := hW
  obtain ⟨p, q, hA0, hV, rfl, hfz, hnd⟩ := hW
  have hA : DataW.TrodAll enc Tryz.prog W 0 (fun _ => true) true Tryz.f10.params.toList args.toList ds p := hA0
  rw [Tryz.params10] at hA hval
  obtain ⟨v0, vs0, d0, ds0, p0, q0, hargs, rfl, rfl, h0, r0⟩ := trodAll_cons hA
  obtain ⟨v1, vs1, d1, ds1, p1, q1, rfl, rfl, rfl, h1, r1⟩ := trodAll_cons r0
  obtain ⟨v2, vs2, d2, ds2, p2, q2, rfl, rfl, rfl, h2, r2⟩ := trodAll_cons r1
  obtain ⟨rfl, rfl, rfl⟩ := trodAll_nil r2
  obtain rfl : args = #[v0, v1, v2] := by cases args; simp_all
  obtain ⟨rfl, rfl⟩ := trodVars_none hV
  obtain ⟨a0, e0, f0⟩ := qD.arg opens_ty h0 hsz (j := 0) rfl rfl
  obtain ⟨cs0, rfl, _⟩ := okWide_struct Tryz.underlying67 (hval 0 67 v0 rfl rfl)
  obtain rfl : cs0 = #[.slice a0.sides.addr a0.sides.list.length a0.sides.cap, .bool a0.known, .slice a0.values.addr a0.values.list.length a0.values.cap] := by
    apply Array.ext'
    exact e0
  obtain ⟨a1, e1, f1⟩ := qD.arg (kJ (T := bMr) (b := 8) Tryz.underlying30 (by kernel_rfl) (by kernel_rfl) (bCl Tryz.underlying2)) h1 hsz (j := 1) rfl rfl
  obtain ⟨A1, L1, C1, rfl⟩ := okWide_slice Tryz.underlying30 (hval 1 30 v1 rfl rfl)
  have e1 : [Value.slice A1 L1 C1] = [Value.slice a1.addr a1.list.length a1.cap] := e1
  simp only [List.cons.injEq, and_true, Value.slice.injEq] at e1
  obtain ⟨rfl, rfl, rfl⟩ := e1
  obtain ⟨a2, e2, f2⟩ := qD.arg opens_arr h2 hsz (j := 2) rfl rfl
  obtain ⟨cs2, rfl, _⟩ := okWide_struct Tryz.underlying42 (hval 2 42 v2 rfl rfl)
  obtain rfl : cs2 = #[.slice a2.sides.addr a2.sides.list.length a2.sides.cap, .slice a2.data.addr a2.data.list.length a2.data.cap] := by
    apply Array.ext'
    exact e2
  clear hA0 hval0
  simp only [List.append_nil] at hW'
  have hg := globF_of hL hsh
  obtain ⟨k1, hs1, hv1⟩ := ty_of f0
  obtain ⟨⟨k2, _⟩, hds⟩ := f1
  have hds : a1.list.length * 8 ≤ 140737488355328 := hds
  obtain ⟨k3, k4, hs2⟩ := arr_of9 f2
  refine (bJr (law_spec a0 a1.addr a1.cap a1.list a2 hs1 hv1 hs2 (by omega)) (All.cons hg (All.cons k1 (All.cons k2 (All.cons k3 (All.cons k4 fun g hg => by simp at hg)))))).mono fun e W' ⟨he, hb⟩ => ?_
  subst he
  exact ⟨_, rfl, law_post (tb := 4) hW' rfl rfl rfl Tryz.underlying4 laid (by rw [Tryz.params10]; exact fun t ht => by simp at ht; rcases ht with rfl | rfl | rfl <;> exact ⟨by kernel_rfl, by decide +kernel⟩) hb⟩

theorem cl0 : (Rows.typeFitsRow.wf (OpenSpec.ofChange (OpenSpec.ofChange Rows.typeFitsSpec).bare) && laidOutB Tryz.pinned.checked.prog && mapsRowed Tryz.pinned.checked.prog && Tryz.f10.params.all (Tryz.pinned.checked.prog.readableRec ·) && namedTie Tryz.pinned.checked.prog Rows.typeFitsRow.named (OpenSpec.ofChange Rows.typeFitsSpec).bare.vars && (Rows.typeFitsRow.stops == []) && (Tryz.pinned.checked.prog.stops == []) && (Rows.typeFitsRow.knobs == []) && (Tryz.pinned.checked.prog.stopKnobs == [])) = true := by kernel_rfl
theorem cl1 : ((Rows.typeFitsRow.inPlace == Tryz.pinned.checked.prog.inPlace 10)) = true := by kernel_rfl
theorem cl2 : ((Rows.typeFitsRow.unfollowed == Tryz.pinned.checked.prog.unfollowed 10)) = true := by kernel_rfl
theorem cl3 : ((Rows.typeFitsRow.recurses == Tryz.pinned.checked.prog.recurses 10)) = true := by kernel_rfl
theorem cl4 : ((Rows.typeFitsRow.named == Tryz.pinned.checked.prog.varsNamed 10)) = true := by kernel_rfl
theorem cl5 : ((Rows.typeFitsRow.maps == (Tryz.f10.params.toList ++ (OpenSpec.ofChange Rows.typeFitsSpec).bare.plain.varTypes Tryz.pinned.checked.prog).any (Tryz.pinned.checked.prog.mapsRec ·))) = true := by kernel_rfl
theorem cl6 : ((Rows.typeFitsRow.ifaces == (Tryz.f10.params.toList ++ (OpenSpec.ofChange Rows.typeFitsSpec).bare.plain.varTypes Tryz.pinned.checked.prog).any (Tryz.pinned.checked.prog.ifacesRec ·))) = true := by kernel_rfl
theorem cl7 : ((Rows.typeFitsRow.mapsOut == Tryz.pinned.checked.prog.mapsAmong Tryz.f10.resultTypes.toList)) = true := by kernel_rfl
theorem cl8 : ((Rows.typeFitsRow.loops == (Tryz.f10.params.toList ++ (OpenSpec.ofChange Rows.typeFitsSpec).bare.plain.varTypes Tryz.pinned.checked.prog).any (Tryz.pinned.checked.prog.loopsFrom ·))) = true := by kernel_rfl
theorem cl9 : ((Rows.typeFitsRow.wideKeys == (Tryz.f10.params.toList ++ (OpenSpec.ofChange Rows.typeFitsSpec).bare.plain.varTypes Tryz.pinned.checked.prog ++ Tryz.f10.resultTypes.toList).any (Tryz.pinned.checked.prog.wideKeysFrom ·))) = true := by kernel_rfl
theorem cl10 : ((OpenSpec.ofChange Rows.typeFitsSpec).bare.vars.all (Tryz.pinned.checked.prog.varReadable ·)) = true := by kernel_rfl
theorem cl11 : (Tryz.f10.resultTypes.all (fun t => Tryz.pinned.checked.prog.readableRec t && decide (t < Tryz.pinned.checked.prog.types.size))) = true := by kernel_rfl
theorem cl12 : ((Rows.typeFitsRow.ifacesOut == Tryz.f10.resultTypes.toList.any (Tryz.pinned.checked.prog.ifacesRec ·))) = true := by kernel_rfl
theorem cl13 : ((Rows.typeFitsRow.loopsOut == Tryz.f10.resultTypes.toList.any (Tryz.pinned.checked.prog.loopsFrom ·))) = true := by kernel_rfl
theorem cl14 : ((Rows.typeFitsRow.plainKeys == Tryz.pinned.checked.prog.plainKeys)) = true := by kernel_rfl
theorem cl15 : (Rows.typeFitsRow.shortTexts.isNone) = true := by kernel_rfl
theorem cl16 : (Tryz.pinned.checked.prog.stopsHeard) = true := by kernel_rfl
theorem cl17 : (Tryz.pinned.checked.prog.mayEnter) = true := by kernel_rfl
theorem cl18 : ((Rows.typeFitsRow.lifted == Tryz.pinned.checked.prog.liftsFinal)) = true := by kernel_rfl
theorem cl19 : ((Tryz.pinned.checked.prog.make == some Rows.typeFitsRow.make)) = true := by kernel_rfl
theorem closed : joinedFacts Tryz.pinned.checked.prog 10 Tryz.f10 (OpenSpec.ofChange Rows.typeFitsSpec).bare Rows.typeFitsRow = true := by
  unfold joinedFacts
  rw [cl0, Bool.true_and, cl1, Bool.true_and, cl2, Bool.true_and, cl3, Bool.true_and, cl4, Bool.true_and, cl5, Bool.true_and, cl6, Bool.true_and, cl7, Bool.true_and, cl8, Bool.true_and, cl9, Bool.true_and, cl10, Bool.true_and, cl11, Bool.true_and, cl12, Bool.true_and, cl13, Bool.true_and, cl14, Bool.true_and, cl15, Bool.true_and, cl16, Bool.true_and, cl17, Bool.true_and, cl18, Bool.true_and, cl19, Bool.true_and]
  kernel_rfl

theorem proved : Rows.TypeFitsSaid :=
  OpenClaim.holds_of_cond 10 Tryz.f10 rfl rfl rfl rfl rfl rfl rfl ⟨rfl, rfl, rfl, rfl, rfl⟩ rfl rfl rfl rfl rfl (by kernel_rfl) Tryz.func10 closed
    (of_decide_eq_true (by kernel_rfl)) (by unfold Func.isWrapper; first | (rw [if_pos (by decide +kernel)]; kernel_rfl) | (rw [if_neg (by decide +kernel)]; exact ⟨rfl, rfl⟩))
    (fun os started H enc _ F => by rw [OpenClaim.pre_eq_preRow]; exact lifted os started H enc F)
theorem plain (f : FuncId) (fn : Func) (hf : Tryz.pinned.checked.prog.funcNamed "windrow/windrowlaw09.TypeFits" = some f) (hfn : Tryz.pinned.checked.prog.funcs[f]? = some fn) :
    true = Tryz.pinned.checked.prog.looks [] ∧ ∀ (j : Nat) t, fn.params[j]? = some t → Tryz.pinned.checked.prog.wantsStandIn t = false := by
  obtain rfl : f = 10 := Option.some.inj ((show Tryz.prog.funcNamed "windrow/windrowlaw09.TypeFits" = some 10 by kernel_rfl).symm.trans hf) |>.symm
  obtain rfl : fn = Tryz.f10 := (Option.some.inj (Tryz.func10.symm.trans hfn)).symm
  refine ⟨by kernel_rfl, fun j t ht => ?_⟩
  rw [Tryz.params10] at ht
  have ht := Array.mem_of_getElem? ht
  simp at ht
  rcases ht with rfl | rfl | rfl <;> exact (show Tryz.prog.wantsStandIn _ = false by kernel_rfl)
theorem cardW : Rows.typeFitsRow.wfByText (OpenSpec.ofChange Rows.typeFitsSpec) = true := by kernel_rfl
theorem cardG : false = Rows.typeFitsRow.goesBy Tryz.pinned.checked.prog := by kernel_rfl
theorem card : Rows.TypeFitsCardSaid :=
  Claim7.holds_tied_plain_at .later [] _ _ _ _ proved (fun _ h => by cases h) cardW (fun _ h => by cases h) typeFits_row_tie rfl ⟨rfl, rfl⟩ (by kernel_rfl) rfl plain cardG
#print axioms card
end Go.Proofs.YtbgdphbebhjpiaaGreatDoor.typeFits
