/- Proved: for every input windrow/windrowlaw19.GenRight returns true, and each argument reads afterwards as it read before. No condition beside the form's own. -/
import Derived.Test.YtnfiadlonjediaaGreatDoorM18
import Derived.Test.YtnfiadlonjediaaGreatDoorM19
import Derived.Test.YtnfiadlonjediaaGreatDoorCards
import Derived.Test.YtnfiadlonjediaaGreatDoorTie
import Derived.JoinedTies
namespace Go.Proofs.YtnfiadlonjediaaGreatDoor.genRight
open Go.ChangeShapes Go.WideShapes Go.ChangeAt Go.RowKit



theorem reads (os : Os) {H : Type} (enc : TypeId × Value → H) : ∃ places, DataW.whole enc Tryz.prog ((laidWorld os).forCall (fun _ _ => 0) ⟨#[], #[.agg #[.int .i64 0, .slice none 0 0, .slice none 0 0, .slice none 0 0], .slice none 0 0], []⟩).memory Tryz.f5.params.toList Rows.genRightSpec.vars false (#[.agg #[.int .i64 0, .slice none 0 0, .slice none 0 0, .slice none 0 0], .slice none 0 0] : Array Value).toList 8 = some ([.agg [.lit (.int .i64 0), .nil, .nil, .nil], .nil], [], places) :=
  ⟨[], by kernel_rfl⟩

set_option maxRecDepth 100000 in
theorem lifted (os : Os) (started : os.Started) (H : Type) (enc : TypeId × Value → H) (F : Stop.Interp) :
    ReturnsInHanded {} Tryz.checked os 5 .any ((OpenSpec.ofChange Rows.genRightSpec).preRow enc Tryz.prog Tryz.f5 Rows.genRightRow.domain false Rows.genRightRow.laid) (((OpenSpec.ofChange Rows.genRightSpec).at F).post enc Tryz.prog Tryz.f5 false true false false) := by
  obtain ⟨places, hx⟩ := reads os enc
  refine returnsInHanded_of_row (C := Tryz.checked) (s := (OpenSpec.ofChange Rows.genRightSpec)) own started (by kernel_rfl) Tryz.func5
    (witness_row_atRef (enc := enc) (C := Tryz.checked) false (laidWorld os) #[.agg #[.int .i64 0, .slice none 0 0, .slice none 0 0, .slice none 0 0], .slice none 0 0] rfl (by kernel_rfl) (by kernel_rfl) (by kernel_rfl)
      (OpenSpec.preRow_of_cond 8 hx (by kernel_rfl) (fun k hk => by cases hk) (by kernel_rfl) (laid_met os _))) ?_
  intro W base args ds gs before hval0 hW _ _ hsz hL hsh _
  have hval : ∀ (j : Nat) t v, Tryz.f5.params[j]? = some t → args[j]? = some v → Value.okWide Tryz.prog W .any base t v := hval0
  have hW' := hW
  obtain ⟨p, q, hA0, hV, rfl, hfz, hnd⟩ := hW
  have hA : DataW.TrodAll enc Tryz.prog W 0 (fun _ => true) true Tryz.f5.params.toList args.toList ds p := hA0
  rw [Tryz.params5] at hA hval
  obtain ⟨v0, vs0, d0, ds0, p0, q0, hargs, rfl, rfl, h0, r0⟩ := trodAll_cons hA
  obtain ⟨v1, vs1, d1, ds1, p1, q1, rfl, rfl, rfl, h1, r1⟩ := trodAll_cons r0
  obtain ⟨rfl, rfl, rfl⟩ := trodAll_nil r1
  obtain rfl : args = #[v0, v1] := by cases args; simp_all
  obtain ⟨rfl, rfl⟩ := trodVars_none hV
  obtain ⟨a0, e0, f0⟩ := pL.arg opens_core h0 hsz (j := 0) rfl rfl
  obtain ⟨cs0, rfl, _⟩ := okWide_struct Tryz.underlying26 (hval 0 26 v0 rfl rfl)
  obtain rfl : cs0 = #[.int .i64 a0.vars, .slice a0.bufs.addr a0.bufs.list.length a0.bufs.cap, .slice a0.steps.addr a0.steps.list.length a0.steps.cap, .slice a0.outs.addr a0.outs.list.length a0.outs.cap] := by
    apply Array.ext'
    exact e0
  obtain ⟨a1, e1, f1⟩ := pL.arg (fQ (T := intTy) (b := 8) Tryz.underlying27 (by kernel_rfl) (by kernel_rfl) (jG Tryz.underlying2)) h1 hsz (j := 1) rfl rfl
  obtain ⟨A1, L1, C1, rfl⟩ := okWide_slice Tryz.underlying27 (hval 1 27 v1 rfl rfl)
  have e1 : [Value.slice A1 L1 C1] = [Value.slice a1.addr a1.list.length a1.cap] := e1
  simp only [List.cons.injEq, and_true, Value.slice.injEq] at e1
  obtain ⟨rfl, rfl, rfl⟩ := e1
  clear hA0 hval0
  simp only [List.append_nil] at hW'
  have hg := globF_of hL hsh
  have hc := core_of f0
  obtain ⟨⟨k2, _⟩, hds⟩ := f1
  have hds : a1.list.length * 8 ≤ 140737488355328 := hds
  refine (bLh (lawRt_spec a0 a1.addr a1.cap a1.list (by omega)) (All.cons hg (All.cons hc (All.cons k2 fun g hg => by simp at hg)))).mono fun e W' ⟨he, hb⟩ => ?_
  subst he
  exact ⟨_, rfl, law_post (tb := 4) hW' rfl rfl rfl Tryz.underlying4 laid (by rw [Tryz.params5]; exact fun t ht => by simp at ht; rcases ht with rfl | rfl <;> exact ⟨by kernel_rfl, by decide +kernel⟩) hb⟩

theorem cl0 : (Rows.genRightRow.wf (OpenSpec.ofChange (OpenSpec.ofChange Rows.genRightSpec).bare) && laidOutB Tryz.pinned.checked.prog && mapsRowed Tryz.pinned.checked.prog && Tryz.f5.params.all (Tryz.pinned.checked.prog.readableRec ·) && namedTie Tryz.pinned.checked.prog Rows.genRightRow.named (OpenSpec.ofChange Rows.genRightSpec).bare.vars && (Rows.genRightRow.stops == []) && (Tryz.pinned.checked.prog.stops == []) && (Rows.genRightRow.knobs == []) && (Tryz.pinned.checked.prog.stopKnobs == [])) = true := by kernel_rfl
theorem cl1 : ((Rows.genRightRow.inPlace == Tryz.pinned.checked.prog.inPlace 5)) = true := by kernel_rfl
theorem cl2 : ((Rows.genRightRow.unfollowed == Tryz.pinned.checked.prog.unfollowed 5)) = true := by kernel_rfl
theorem cl3 : ((Rows.genRightRow.recurses == Tryz.pinned.checked.prog.recurses 5)) = true := by kernel_rfl
theorem cl4 : ((Rows.genRightRow.named == Tryz.pinned.checked.prog.varsNamed 5)) = true := by kernel_rfl
theorem cl5 : ((Rows.genRightRow.maps == (Tryz.f5.params.toList ++ (OpenSpec.ofChange Rows.genRightSpec).bare.plain.varTypes Tryz.pinned.checked.prog).any (Tryz.pinned.checked.prog.mapsRec ·))) = true := by kernel_rfl
theorem cl6 : ((Rows.genRightRow.ifaces == (Tryz.f5.params.toList ++ (OpenSpec.ofChange Rows.genRightSpec).bare.plain.varTypes Tryz.pinned.checked.prog).any (Tryz.pinned.checked.prog.ifacesRec ·))) = true := by kernel_rfl
theorem cl7 : ((Rows.genRightRow.mapsOut == Tryz.pinned.checked.prog.mapsAmong Tryz.f5.resultTypes.toList)) = true := by kernel_rfl
theorem cl8 : ((Rows.genRightRow.loops == (Tryz.f5.params.toList ++ (OpenSpec.ofChange Rows.genRightSpec).bare.plain.varTypes Tryz.pinned.checked.prog).any (Tryz.pinned.checked.prog.loopsFrom ·))) = true := by kernel_rfl
theorem cl9 : ((Rows.genRightRow.wideKeys == (Tryz.f5.params.toList ++ (OpenSpec.ofChange Rows.genRightSpec).bare.plain.varTypes Tryz.pinned.checked.prog ++ Tryz.f5.resultTypes.toList).any (Tryz.pinned.checked.prog.wideKeysFrom ·))) = true := by kernel_rfl
theorem cl10 : ((OpenSpec.ofChange Rows.genRightSpec).bare.vars.all (Tryz.pinned.checked.prog.varReadable ·)) = true := by kernel_rfl
theorem cl11 : (Tryz.f5.resultTypes.all (fun t => Tryz.pinned.checked.prog.readableRec t && decide (t < Tryz.pinned.checked.prog.types.size))) = true := by kernel_rfl
theorem cl12 : ((Rows.genRightRow.ifacesOut == Tryz.f5.resultTypes.toList.any (Tryz.pinned.checked.prog.ifacesRec ·))) = true := by kernel_rfl
theorem cl13 : ((Rows.genRightRow.loopsOut == Tryz.f5.resultTypes.toList.any (Tryz.pinned.checked.prog.loopsFrom ·))) = true := by kernel_rfl
theorem cl14 : ((Rows.genRightRow.plainKeys == Tryz.pinned.checked.prog.plainKeys)) = true := by kernel_rfl
theorem cl15 : (Rows.genRightRow.shortTexts.isNone) = true := by kernel_rfl
theorem cl16 : (Tryz.pinned.checked.prog.stopsHeard) = true := by kernel_rfl
theorem cl17 : (Tryz.pinned.checked.prog.mayEnter) = true := by kernel_rfl
theorem cl18 : ((Rows.genRightRow.lifted == Tryz.pinned.checked.prog.liftsFinal)) = true := by kernel_rfl
theorem cl19 : ((Tryz.pinned.checked.prog.make == some Rows.genRightRow.make)) = true := by kernel_rfl
theorem closed : joinedFacts Tryz.pinned.checked.prog 5 Tryz.f5 (OpenSpec.ofChange Rows.genRightSpec).bare Rows.genRightRow = true := by
  unfold joinedFacts
  rw [cl0, Bool.true_and, cl1, Bool.true_and, cl2, Bool.true_and, cl3, Bool.true_and, cl4, Bool.true_and, cl5, Bool.true_and, cl6, Bool.true_and, cl7, Bool.true_and, cl8, Bool.true_and, cl9, Bool.true_and, cl10, Bool.true_and, cl11, Bool.true_and, cl12, Bool.true_and, cl13, Bool.true_and, cl14, Bool.true_and, cl15, Bool.true_and, cl16, Bool.true_and, cl17, Bool.true_and, cl18, Bool.true_and, cl19, Bool.true_and]
  kernel_rfl

theorem proved : Rows.GenRightSaid :=
  OpenClaim.holds_of_cond 5 Tryz.f5 rfl rfl rfl rfl rfl rfl rfl ⟨rfl, rfl, rfl, rfl, rfl⟩ rfl rfl rfl rfl rfl (by kernel_rfl) Tryz.func5 closed
    (of_decide_eq_true (by kernel_rfl)) (by unfold Func.isWrapper; first | (rw [if_pos (by decide +kernel)]; kernel_rfl) | (rw [if_neg (by decide +kernel)]; exact ⟨rfl, rfl⟩))
    (fun os started H enc _ F => by rw [OpenClaim.pre_eq_preRow]; exact lifted os started H enc F)
theorem plain (f : FuncId) (fn : Func) (hf : Tryz.pinned.checked.prog.funcNamed "windrow/windrowlaw19.GenRight" = some f) (hfn : Tryz.pinned.checked.prog.funcs[f]? = some fn) :
    true = Tryz.pinned.checked.prog.looks [] ∧ ∀ (j : Nat) t, fn.params[j]? = some t → Tryz.pinned.checked.prog.wantsStandIn t = false := by
  obtain rfl : f = 5 := Option.some.inj ((show Tryz.prog.funcNamed "windrow/windrowlaw19.GenRight" = some 5 by kernel_rfl).symm.trans hf) |>.symm
  obtain rfl : fn = Tryz.f5 := (Option.some.inj (Tryz.func5.symm.trans hfn)).symm
  refine ⟨by kernel_rfl, fun j t ht => ?_⟩
  rw [Tryz.params5] at ht
  have ht := Array.mem_of_getElem? ht
  simp at ht
  rcases ht with rfl | rfl <;> exact (show Tryz.prog.wantsStandIn _ = false by kernel_rfl)
theorem cardW : Rows.genRightRow.wfByText (OpenSpec.ofChange Rows.genRightSpec) = true := by kernel_rfl
theorem cardG : false = Rows.genRightRow.goesBy Tryz.pinned.checked.prog := by kernel_rfl
theorem card : Rows.GenRightCardSaid :=
  Claim7.holds_tied_plain_at .later [] _ _ _ _ proved (fun _ h => by cases h) cardW (fun _ h => by cases h) genRight_row_tie rfl ⟨rfl, rfl⟩ (by kernel_rfl) rfl plain cardG
#print axioms card
end Go.Proofs.YtnfiadlonjediaaGreatDoor.genRight
