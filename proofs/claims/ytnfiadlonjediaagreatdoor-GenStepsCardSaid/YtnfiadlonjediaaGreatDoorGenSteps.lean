/- Proved: for every input windrow/windrowlaw19.GenSteps returns true, and each argument reads afterwards as it read before. No condition beside the form's own. -/
import Derived.Test.YtnfiadlonjediaaGreatDoorM18
import Derived.Test.YtnfiadlonjediaaGreatDoorM21
import Derived.Test.YtnfiadlonjediaaGreatDoorCards
import Derived.Test.YtnfiadlonjediaaGreatDoorTie
import Derived.JoinedTies
namespace Go.Proofs.YtnfiadlonjediaaGreatDoor.genSteps
open Go.ChangeShapes Go.WideShapes Go.ChangeAt Go.RowKit



theorem reads (os : Os) {H : Type} (enc : TypeId × Value -> H) : ∃ places, DataW.whole enc Tryz.prog ((laidWorld os).forCall (λ_ _ => 0) ⟨#[], #[.agg #[.int .i64 0, .slice none 0 0, .slice none 0 0, .slice none 0 0, .slice none 0 0, .slice none 0 0]], []⟩).memory Tryz.f6.params.toList Rows.genStepsSpec.vars false (#[.agg #[.int .i64 0, .slice none 0 0, .slice none 0 0, .slice none 0 0, .slice none 0 0, .slice none 0 0]] : Array Value).toList 8 = some ([.agg [.agg [.lit (.int .i64 0), .nil, .nil, .nil], .nil, .nil]], [], places) :=
  ⟨[], by kernel_rfl⟩

set_option maxRecDepth 100000 in
theorem lifted (os : Os) (started : os.Started) (H : Type) (enc : TypeId × Value -> H) (F : Stop.Interp) :
    ReturnsInHanded {} Tryz.checked os 6 .any ((OpenSpec.ofChange Rows.genStepsSpec).preRow enc Tryz.prog Tryz.f6 Rows.genStepsRow.domain false Rows.genStepsRow.laid) (((OpenSpec.ofChange Rows.genStepsSpec).at F).post enc Tryz.prog Tryz.f6 false true false false) := by
  obtain ⟨places, hx⟩ := reads os enc
  refine returnsInHanded_of_row (C := Tryz.checked) (s := (OpenSpec.ofChange Rows.genStepsSpec)) own started (by kernel_rfl) Tryz.func6
    (witness_row_atRef (enc := enc) (C := Tryz.checked) false (laidWorld os) #[.agg #[.int .i64 0, .slice none 0 0, .slice none 0 0, .slice none 0 0, .slice none 0 0, .slice none 0 0]] rfl (by kernel_rfl) (by kernel_rfl) (by kernel_rfl)
      (OpenSpec.preRow_of_cond 8 hx (by kernel_rfl) (λk hk => by cases hk) (by kernel_rfl) (laid_met os _))) ?_
  intro W base args ds gs before hval0 hW _ _ hsz hL hsh _
  have hval : ∀ (j : Nat) t v, Tryz.f6.params[j]? = some t -> args[j]? = some v -> Value.okWide Tryz.prog W .any base t v := hval0
  have hW' := hW
  obtain ⟨p, q, hA0, hV, rfl, hfz, hnd⟩ := hW
  have hA : DataW.TrodAll enc Tryz.prog W 0 (λ_ => true) true Tryz.f6.params.toList args.toList ds p := hA0
  rw[Tryz.params6]at hA hval
  obtain ⟨v0, vs0, d0, ds0, p0, q0, hargs, rfl, rfl, h0, r0⟩ := trodAll_cons hA
  obtain ⟨rfl, rfl, rfl⟩ := trodAll_nil r0
  obtain rfl : args = #[v0] := by cases args; simp_all
  obtain ⟨rfl, rfl⟩ := trodVars_none hV
  obtain ⟨a0, e0, f0⟩ := qW.arg opens_cas h0 hsz (j := 0) rfl rfl
  obtain ⟨cs0, rfl, _⟩ := okWide_struct Tryz.underlying54 (hval 0 54 v0 rfl rfl)
  obtain rfl : cs0 = #[.int .i64 a0.c.vars, .slice a0.c.bufs.addr a0.c.bufs.list.length a0.c.bufs.cap, .slice a0.c.steps.addr a0.c.steps.list.length a0.c.steps.cap, .slice a0.c.outs.addr a0.c.outs.list.length a0.c.outs.cap, .slice a0.dims.addr a0.dims.list.length a0.dims.cap, .slice a0.ins.addr a0.ins.list.length a0.ins.cap] := by
    apply Array.ext'
    exact e0
  clear hA0 hval0
  simp only[List.append_nil]at hW'
  have hg := globF_of hL hsh
  obtain ⟨hc, hds, i1, i2, hil⟩ := cas_of f0
  have hdl : a0.dims.list.length * 8 <= 140737488355328 := hds.2.2
  refine (bRm (lawSt_spec a0 (by omega)) (All.cons hg (All.cons hc (All.cons hds.1 (All.cons i1 (All.cons i2 λg hg => by simp at hg)))))).mono λe W' ⟨he, hb⟩ => ?_
  subst he
  exact ⟨_, rfl, law_post (tb := 4) hW' rfl rfl rfl Tryz.underlying4 laid (by rw[Tryz.params6]; exact λt ht => by simp at ht; rcases ht with rfl <;> exact ⟨by kernel_rfl, by decide +kernel⟩) hb⟩

theorem cl0 : (Rows.genStepsRow.wf (OpenSpec.ofChange (OpenSpec.ofChange Rows.genStepsSpec).bare) && laidOutB Tryz.pinned.checked.prog && mapsRowed Tryz.pinned.checked.prog && Tryz.f6.params.all (Tryz.pinned.checked.prog.readableRec ·) && namedTie Tryz.pinned.checked.prog Rows.genStepsRow.named (OpenSpec.ofChange Rows.genStepsSpec).bare.vars && (Rows.genStepsRow.stops == []) && (Tryz.pinned.checked.prog.stops == []) && (Rows.genStepsRow.knobs == []) && (Tryz.pinned.checked.prog.stopKnobs == [])) = true := by kernel_rfl
theorem cl1 : ((Rows.genStepsRow.inPlace == Tryz.pinned.checked.prog.inPlace 6)) = true := by kernel_rfl
theorem cl2 : ((Rows.genStepsRow.unfollowed == Tryz.pinned.checked.prog.unfollowed 6)) = true := by kernel_rfl
theorem cl3 : ((Rows.genStepsRow.recurses == Tryz.pinned.checked.prog.recurses 6)) = true := by kernel_rfl
theorem cl4 : ((Rows.genStepsRow.named == Tryz.pinned.checked.prog.varsNamed 6)) = true := by kernel_rfl
theorem cl5 : ((Rows.genStepsRow.maps == (Tryz.f6.params.toList ++ (OpenSpec.ofChange Rows.genStepsSpec).bare.plain.varTypes Tryz.pinned.checked.prog).any (Tryz.pinned.checked.prog.mapsRec ·))) = true := by kernel_rfl
theorem cl6 : ((Rows.genStepsRow.ifaces == (Tryz.f6.params.toList ++ (OpenSpec.ofChange Rows.genStepsSpec).bare.plain.varTypes Tryz.pinned.checked.prog).any (Tryz.pinned.checked.prog.ifacesRec ·))) = true := by kernel_rfl
theorem cl7 : ((Rows.genStepsRow.mapsOut == Tryz.pinned.checked.prog.mapsAmong Tryz.f6.resultTypes.toList)) = true := by kernel_rfl
theorem cl8 : ((Rows.genStepsRow.loops == (Tryz.f6.params.toList ++ (OpenSpec.ofChange Rows.genStepsSpec).bare.plain.varTypes Tryz.pinned.checked.prog).any (Tryz.pinned.checked.prog.loopsFrom ·))) = true := by kernel_rfl
theorem cl9 : ((Rows.genStepsRow.wideKeys == (Tryz.f6.params.toList ++ (OpenSpec.ofChange Rows.genStepsSpec).bare.plain.varTypes Tryz.pinned.checked.prog ++ Tryz.f6.resultTypes.toList).any (Tryz.pinned.checked.prog.wideKeysFrom ·))) = true := by kernel_rfl
theorem cl10 : ((OpenSpec.ofChange Rows.genStepsSpec).bare.vars.all (Tryz.pinned.checked.prog.varReadable ·)) = true := by kernel_rfl
theorem cl11 : (Tryz.f6.resultTypes.all (λt => Tryz.pinned.checked.prog.readableRec t && decide (t < Tryz.pinned.checked.prog.types.size))) = true := by kernel_rfl
theorem cl12 : ((Rows.genStepsRow.ifacesOut == Tryz.f6.resultTypes.toList.any (Tryz.pinned.checked.prog.ifacesRec ·))) = true := by kernel_rfl
theorem cl13 : ((Rows.genStepsRow.loopsOut == Tryz.f6.resultTypes.toList.any (Tryz.pinned.checked.prog.loopsFrom ·))) = true := by kernel_rfl
theorem cl14 : ((Rows.genStepsRow.plainKeys == Tryz.pinned.checked.prog.plainKeys)) = true := by kernel_rfl
theorem cl15 : (Rows.genStepsRow.shortTexts.isNone) = true := by kernel_rfl
theorem cl16 : (Tryz.pinned.checked.prog.stopsHeard) = true := by kernel_rfl
theorem cl17 : (Tryz.pinned.checked.prog.mayEnter) = true := by kernel_rfl
theorem cl18 : ((Rows.genStepsRow.lifted == Tryz.pinned.checked.prog.liftsFinal)) = true := by kernel_rfl
theorem cl19 : ((Tryz.pinned.checked.prog.make == some Rows.genStepsRow.make)) = true := by kernel_rfl
theorem closed : joinedFacts Tryz.pinned.checked.prog 6 Tryz.f6 (OpenSpec.ofChange Rows.genStepsSpec).bare Rows.genStepsRow = true := by
  unfold joinedFacts
  rw[cl0, Bool.true_and, cl1, Bool.true_and, cl2, Bool.true_and, cl3, Bool.true_and, cl4, Bool.true_and, cl5, Bool.true_and, cl6, Bool.true_and, cl7, Bool.true_and, cl8, Bool.true_and, cl9, Bool.true_and, cl10, Bool.true_and, cl11, Bool.true_and, cl12, Bool.true_and, cl13, Bool.true_and, cl14, Bool.true_and, cl15, Bool.true_and, cl16, Bool.true_and, cl17, Bool.true_and, cl18, Bool.true_and, cl19, Bool.true_and]
  kernel_rfl

theorem proved : Rows.GenStepsSaid :=
  OpenClaim.holds_of_cond 6 Tryz.f6 rfl rfl rfl rfl rfl rfl rfl ⟨rfl, rfl, rfl, rfl, rfl⟩ rfl rfl rfl rfl rfl (by kernel_rfl) Tryz.func6 closed
    (of_decide_eq_true (by kernel_rfl)) (by unfold Func.isWrapper; first|(rw[if_pos (by decide +kernel)]; kernel_rfl)|(rw[if_neg (by decide +kernel)]; exact ⟨rfl, rfl⟩))
    (λos started H enc _ F => by rw[OpenClaim.pre_eq_preRow]; exact lifted os started H enc F)
theorem plain (f : FuncId) (fn : Func) (hf : Tryz.pinned.checked.prog.funcNamed "windrow/windrowlaw19.GenSteps" = some f) (hfn : Tryz.pinned.checked.prog.funcs[f]? = some fn) :
    true = Tryz.pinned.checked.prog.looks [] /\ ∀ (j : Nat) t, fn.params[j]? = some t -> Tryz.pinned.checked.prog.wantsStandIn t = false := by
  obtain rfl : f = 6 := Option.some.inj ((show Tryz.prog.funcNamed "windrow/windrowlaw19.GenSteps" = some 6 by kernel_rfl).symm.trans hf) |>.symm
  obtain rfl : fn = Tryz.f6 := (Option.some.inj (Tryz.func6.symm.trans hfn)).symm
  refine ⟨by kernel_rfl, λj t ht => ?_⟩
  rw[Tryz.params6]at ht
  obtain rfl : t = 54 := by simpa using Array.mem_of_getElem? ht
  exact (show Tryz.prog.wantsStandIn 54 = false by kernel_rfl)
theorem cardW : Rows.genStepsRow.wfByText (OpenSpec.ofChange Rows.genStepsSpec) = true := by kernel_rfl
theorem cardG : false = Rows.genStepsRow.goesBy Tryz.pinned.checked.prog := by kernel_rfl
theorem card : Rows.GenStepsCardSaid :=
  Claim7.holds_tied_plain_at .later [] _ _ _ _ proved (λ_ h => by cases h) cardW (λ_ h => by cases h) genSteps_row_tie rfl ⟨rfl, rfl⟩ (by kernel_rfl) rfl plain cardG
#print axioms card
end Go.Proofs.YtnfiadlonjediaaGreatDoor.genSteps
