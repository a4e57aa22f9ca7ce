/- Proved: for every input windrow/windrowlaw12.RunFolds returns true, and each argument reads afterwards as it read before. No condition beside the form's own. -/
import Derived.Test.YtnmhcaahkaocgaaGreatDoorM13
import Derived.Test.YtnmhcaahkaocgaaGreatDoorM14
import Derived.Test.YtnmhcaahkaocgaaGreatDoorCards
import Derived.Test.YtnmhcaahkaocgaaGreatDoorTie
import Derived.JoinedTies
namespace Go.Proofs.YtnmhcaahkaocgaaGreatDoor.runFolds
open Go.ChangeShapes Go.WideShapes Go.ChangeAt Go.RowKit



theorem reads (os : Os) {H : Type} (enc : TypeId × Value → H) : ∃ places, DataW.whole enc Tryz.prog ((laidWorld os).forCall (fun _ _ => 0) ⟨#[], #[.int .u8 0, .slice none 0 0], []⟩).memory Tryz.f8.params.toList Rows.runFoldsSpec.vars false (#[.int .u8 0, .slice none 0 0] : Array Value).toList 8 = some ([.lit (.int .u8 0), .nil], [], places) :=
  ⟨[], by kernel_rfl⟩

set_option maxRecDepth 100000 in
theorem lifted (os : Os) (started : os.Started) (H : Type) (enc : TypeId × Value → H) (F : Stop.Interp) :
    ReturnsInHanded {} Tryz.checked os 8 .any ((OpenSpec.ofChange Rows.runFoldsSpec).preRow enc Tryz.prog Tryz.f8 Rows.runFoldsRow.domain false Rows.runFoldsRow.laid) (((OpenSpec.ofChange Rows.runFoldsSpec).at F).post enc Tryz.prog Tryz.f8 false true false false) := by
  obtain ⟨places, hx⟩ := reads os enc
  refine returnsInHanded_of_row (C := Tryz.checked) (s := (OpenSpec.ofChange Rows.runFoldsSpec)) own started (by kernel_rfl) Tryz.func8
    (witness_row_atRef (enc := enc) (C := Tryz.checked) false (laidWorld os) #[.int .u8 0, .slice none 0 0] rfl (by kernel_rfl) (by kernel_rfl) (by kernel_rfl)
      (OpenSpec.preRow_of_cond 8 hx (by kernel_rfl) (fun k hk => by cases hk) (by kernel_rfl) (laid_met os _))) ?_
  intro W base args ds gs before hval0 hW _ _ hsz hL hsh _
  have hval : ∀ (j : Nat) t v, Tryz.f8.params[j]? = some t → args[j]? = some v → Value.okWide Tryz.prog W .any base t v := hval0
  have hW' := hW
  obtain ⟨p, q, hA0, hV, rfl, hfz, hnd⟩ := hW
  have hA : DataW.TrodAll enc Tryz.prog W 0 (fun _ => true) true Tryz.f8.params.toList args.toList ds p := hA0
  rw [Tryz.params8] at hA hval
  obtain ⟨v0, vs0, d0, ds0, p0, q0, hargs, rfl, rfl, h0, r0⟩ := trodAll_cons hA
  obtain ⟨v1, vs1, d1, ds1, p1, q1, rfl, rfl, rfl, h1, r1⟩ := trodAll_cons r0
  obtain ⟨rfl, rfl, rfl⟩ := trodAll_nil r1
  obtain rfl : args = #[v0, v1] := by cases args; simp_all
  obtain ⟨rfl, rfl⟩ := trodVars_none hV
  obtain ⟨a0, e0, f0⟩ := qY.arg (bDl Tryz.underlying5) h0 hsz (j := 0) rfl rfl
  obtain ⟨n0, rfl⟩ := okWide_int Tryz.underlying5 (hval 0 5 v0 rfl rfl)
  obtain rfl : a0 = n0 := by simpa [Value.cells, eq_comm] using e0
  obtain ⟨a1, e1, f1⟩ := qY.arg (opens_cap Tryz.underlying63 (opens_slice' (T := intTy) (b := 8) Tryz.underlying63 (by kernel_rfl) (by kernel_rfl) (bDl Tryz.underlying2))) h1 hsz (j := 1) rfl rfl
  obtain ⟨A1, L1, C1, rfl⟩ := okWide_slice Tryz.underlying63 (hval 1 63 v1 rfl rfl)
  have e1 : [Value.slice A1 L1 C1] = [Value.slice a1.addr a1.list.length a1.cap] := e1
  simp only [List.cons.injEq, and_true, Value.slice.injEq] at e1
  obtain ⟨rfl, rfl, rfl⟩ := e1
  clear hA0 hval0
  simp only [List.append_nil] at hW'
  have hg := globF_of hL hsh
  have hq := outs_of f1
  refine (bAs (lawF12_spec a0 a1) (All.cons hg (All.cons hq fun g hg => by simp at hg))).mono fun e W' ⟨he, hb⟩ => ?_
  subst he
  exact ⟨_, rfl, law_post (tb := 4) hW' rfl rfl rfl Tryz.underlying4 laid (by rw [Tryz.params8]; exact fun t ht => by simp at ht; rcases ht with rfl | rfl <;> exact ⟨by kernel_rfl, by decide +kernel⟩) hb⟩

theorem cl0 : (Rows.runFoldsRow.wf (OpenSpec.ofChange (OpenSpec.ofChange Rows.runFoldsSpec).bare) && laidOutB Tryz.pinned.checked.prog && mapsRowed Tryz.pinned.checked.prog && Tryz.f8.params.all (Tryz.pinned.checked.prog.readableRec ·) && namedTie Tryz.pinned.checked.prog Rows.runFoldsRow.named (OpenSpec.ofChange Rows.runFoldsSpec).bare.vars && (Rows.runFoldsRow.stops == []) && (Tryz.pinned.checked.prog.stops == []) && (Rows.runFoldsRow.knobs == []) && (Tryz.pinned.checked.prog.stopKnobs == [])) = true := by kernel_rfl
theorem cl1 : ((Rows.runFoldsRow.inPlace == Tryz.pinned.checked.prog.inPlace 8)) = true := by kernel_rfl
theorem cl2 : ((Rows.runFoldsRow.unfollowed == Tryz.pinned.checked.prog.unfollowed 8)) = true := by kernel_rfl
theorem cl3 : ((Rows.runFoldsRow.recurses == Tryz.pinned.checked.prog.recurses 8)) = true := by kernel_rfl
theorem cl4 : ((Rows.runFoldsRow.named == Tryz.pinned.checked.prog.varsNamed 8)) = true := by kernel_rfl
theorem cl5 : ((Rows.runFoldsRow.maps == (Tryz.f8.params.toList ++ (OpenSpec.ofChange Rows.runFoldsSpec).bare.plain.varTypes Tryz.pinned.checked.prog).any (Tryz.pinned.checked.prog.mapsRec ·))) = true := by kernel_rfl
theorem cl6 : ((Rows.runFoldsRow.ifaces == (Tryz.f8.params.toList ++ (OpenSpec.ofChange Rows.runFoldsSpec).bare.plain.varTypes Tryz.pinned.checked.prog).any (Tryz.pinned.checked.prog.ifacesRec ·))) = true := by kernel_rfl
theorem cl7 : ((Rows.runFoldsRow.mapsOut == Tryz.pinned.checked.prog.mapsAmong Tryz.f8.resultTypes.toList)) = true := by kernel_rfl
theorem cl8 : ((Rows.runFoldsRow.loops == (Tryz.f8.params.toList ++ (OpenSpec.ofChange Rows.runFoldsSpec).bare.plain.varTypes Tryz.pinned.checked.prog).any (Tryz.pinned.checked.prog.loopsFrom ·))) = true := by kernel_rfl
theorem cl9 : ((Rows.runFoldsRow.wideKeys == (Tryz.f8.params.toList ++ (OpenSpec.ofChange Rows.runFoldsSpec).bare.plain.varTypes Tryz.pinned.checked.prog ++ Tryz.f8.resultTypes.toList).any (Tryz.pinned.checked.prog.wideKeysFrom ·))) = true := by kernel_rfl
theorem cl10 : ((OpenSpec.ofChange Rows.runFoldsSpec).bare.vars.all (Tryz.pinned.checked.prog.varReadable ·)) = true := by kernel_rfl
theorem cl11 : (Tryz.f8.resultTypes.all (fun t => Tryz.pinned.checked.prog.readableRec t && decide (t < Tryz.pinned.checked.prog.types.size))) = true := by kernel_rfl
theorem cl12 : ((Rows.runFoldsRow.ifacesOut == Tryz.f8.resultTypes.toList.any (Tryz.pinned.checked.prog.ifacesRec ·))) = true := by kernel_rfl
theorem cl13 : ((Rows.runFoldsRow.loopsOut == Tryz.f8.resultTypes.toList.any (Tryz.pinned.checked.prog.loopsFrom ·))) = true := by kernel_rfl
theorem cl14 : ((Rows.runFoldsRow.plainKeys == Tryz.pinned.checked.prog.plainKeys)) = true := by kernel_rfl
theorem cl15 : (Rows.runFoldsRow.shortTexts.isNone) = true := by kernel_rfl
theorem cl16 : (Tryz.pinned.checked.prog.stopsHeard) = true := by kernel_rfl
theorem cl17 : (Tryz.pinned.checked.prog.mayEnter) = true := by kernel_rfl
theorem cl18 : ((Rows.runFoldsRow.lifted == Tryz.pinned.checked.prog.liftsFinal)) = true := by kernel_rfl
theorem cl19 : ((Tryz.pinned.checked.prog.make == some Rows.runFoldsRow.make)) = true := by kernel_rfl
theorem closed : joinedFacts Tryz.pinned.checked.prog 8 Tryz.f8 (OpenSpec.ofChange Rows.runFoldsSpec).bare Rows.runFoldsRow = true := by
  unfold joinedFacts
  rw [cl0, Bool.true_and, cl1, Bool.true_and, cl2, Bool.true_and, cl3, Bool.true_and, cl4, Bool.true_and, cl5, Bool.true_and, cl6, Bool.true_and, cl7, Bool.true_and, cl8, Bool.true_and, cl9, Bool.true_and, cl10, Bool.true_and, cl11, Bool.true_and, cl12, Bool.true_and, cl13, Bool.true_and, cl14, Bool.true_and, cl15, Bool.true_and, cl16, Bool.true_and, cl17, Bool.true_and, cl18, Bool.true_and, cl19, Bool.true_and]
  kernel_rfl

theorem proved : Rows.RunFoldsSaid :=
  OpenClaim.holds_of_cond 8 Tryz.f8 rfl rfl rfl rfl rfl rfl rfl ⟨rfl, rfl, rfl, rfl, rfl⟩ rfl rfl rfl rfl rfl (by kernel_rfl) Tryz.func8 closed
    (of_decide_eq_true (by kernel_rfl)) (by unfold Func.isWrapper; first | (rw [if_pos (by decide +kernel)]; kernel_rfl) | (rw [if_neg (by decide +kernel)]; exact ⟨rfl, rfl⟩))
    (fun os started H enc _ F => by rw [OpenClaim.pre_eq_preRow]; exact lifted os started H enc F)
theorem plain (f : FuncId) (fn : Func) (hf : Tryz.pinned.checked.prog.funcNamed "windrow/windrowlaw12.RunFolds" = some f) (hfn : Tryz.pinned.checked.prog.funcs[f]? = some fn) :
    true = Tryz.pinned.checked.prog.looks [] ∧ ∀ (j : Nat) t, fn.params[j]? = some t → Tryz.pinned.checked.prog.wantsStandIn t = false := by
  obtain rfl : f = 8 := Option.some.inj ((show Tryz.prog.funcNamed "windrow/windrowlaw12.RunFolds" = some 8 by kernel_rfl).symm.trans hf) |>.symm
  obtain rfl : fn = Tryz.f8 := (Option.some.inj (Tryz.func8.symm.trans hfn)).symm
  refine ⟨by kernel_rfl, fun j t ht => ?_⟩
  rw [Tryz.params8] at ht
  have ht := Array.mem_of_getElem? ht
  simp at ht
  rcases ht with rfl | rfl <;> exact (show Tryz.prog.wantsStandIn _ = false by kernel_rfl)
theorem cardW : Rows.runFoldsRow.wfByText (OpenSpec.ofChange Rows.runFoldsSpec) = true := by kernel_rfl
theorem cardG : false = Rows.runFoldsRow.goesBy Tryz.pinned.checked.prog := by kernel_rfl
theorem card : Rows.RunFoldsCardSaid :=
  Claim7.holds_tied_plain_at .later [] _ _ _ _ proved (fun _ h => by cases h) cardW (fun _ h => by cases h) runFolds_row_tie rfl ⟨rfl, rfl⟩ (by kernel_rfl) rfl plain cardG
#print axioms card
end Go.Proofs.YtnmhcaahkaocgaaGreatDoor.runFolds
