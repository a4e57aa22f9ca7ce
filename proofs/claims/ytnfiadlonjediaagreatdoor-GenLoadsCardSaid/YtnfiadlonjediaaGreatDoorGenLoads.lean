/- Proved: for every input windrow/windrowlaw19.GenLoads returns true, and each argument reads afterwards as it read before. No condition beside the form's own. -/
import Derived.Test.YtnfiadlonjediaaGreatDoorM18
import Derived.Test.YtnfiadlonjediaaGreatDoorM19
import Derived.Test.YtnfiadlonjediaaGreatDoorCards
import Derived.Test.YtnfiadlonjediaaGreatDoorTie
import Derived.JoinedTies
namespace Go.Proofs.YtnfiadlonjediaaGreatDoor.genLoads
open Go.ChangeShapes Go.WideShapes Go.ChangeAt Go.RowKit



theorem reads (os : Os) {H : Type} (enc : TypeId × Value -> H) : ∃ places, DataW.whole enc Tryz.prog ((laidWorld os).forCall (λ_ _ => 0) ⟨#[], #[.agg #[.int .i64 0, .slice none 0 0, .slice none 0 0, .slice none 0 0], .agg #[.slice none 0 0, .int .i64 0, .slice none 0 0], .slice none 0 0], []⟩).memory Tryz.f4.params.toList Rows.genLoadsSpec.vars false (#[.agg #[.int .i64 0, .slice none 0 0, .slice none 0 0, .slice none 0 0], .agg #[.slice none 0 0, .int .i64 0, .slice none 0 0], .slice none 0 0] : Array Value).toList 8 = some ([.agg [.lit (.int .i64 0), .nil, .nil, .nil], .agg [.nil, .lit (.int .i64 0), .nil], .nil], [], places) :=
  ⟨[], by kernel_rfl⟩

set_option maxRecDepth 100000 in
theorem lifted (os : Os) (started : os.Started) (H : Type) (enc : TypeId × Value -> H) (F : Stop.Interp) :
    ReturnsInHanded {} Tryz.checked os 4 .any ((OpenSpec.ofChange Rows.genLoadsSpec).preRow enc Tryz.prog Tryz.f4 Rows.genLoadsRow.domain false Rows.genLoadsRow.laid) (((OpenSpec.ofChange Rows.genLoadsSpec).at F).post enc Tryz.prog Tryz.f4 false true false false) := by
  obtain ⟨places, hx⟩ := reads os enc
  refine returnsInHanded_of_row (C := Tryz.checked) (s := (OpenSpec.ofChange Rows.genLoadsSpec)) own started (by kernel_rfl) Tryz.func4
    (witness_row_atRef (enc := enc) (C := Tryz.checked) false (laidWorld os) #[.agg #[.int .i64 0, .slice none 0 0, .slice none 0 0, .slice none 0 0], .agg #[.slice none 0 0, .int .i64 0, .slice none 0 0], .slice none 0 0] rfl (by kernel_rfl) (by kernel_rfl) (by kernel_rfl)
      (OpenSpec.preRow_of_cond 8 hx (by kernel_rfl) (λk hk => by cases hk) (by kernel_rfl) (laid_met os _))) ?_
  intro W base args ds gs before hval0 hW _ _ hsz hL hsh _
  have hval : ∀ (j : Nat) t v, Tryz.f4.params[j]? = some t -> args[j]? = some v -> Value.okWide Tryz.prog W .any base t v := hval0
  have hW' := hW
  obtain ⟨p, q, hA0, hV, rfl, hfz, hnd⟩ := hW
  have hA : DataW.TrodAll enc Tryz.prog W 0 (λ_ => true) true Tryz.f4.params.toList args.toList ds p := hA0
  rw[Tryz.params4]at hA hval
  obtain ⟨v0, vs0, d0, ds0, p0, q0, hargs, rfl, rfl, h0, r0⟩ := trodAll_cons hA
  obtain ⟨v1, vs1, d1, ds1, p1, q1, rfl, rfl, rfl, h1, r1⟩ := trodAll_cons r0
  obtain ⟨v2, vs2, d2, ds2, p2, q2, rfl, rfl, rfl, h2, r2⟩ := trodAll_cons r1
  obtain ⟨rfl, rfl, rfl⟩ := trodAll_nil r2
  obtain rfl : args = #[v0, v1, v2] := by cases args; simp_all
  obtain ⟨rfl, rfl⟩ := trodVars_none hV
  obtain ⟨a0, e0, f0⟩ := nK.arg opens_core h0 hsz (j := 0) rfl rfl
  obtain ⟨cs0, rfl, _⟩ := okWide_struct Tryz.underlying26 (hval 0 26 v0 rfl rfl)
  obtain rfl : cs0 = #[.int .i64 a0.vars, .slice a0.bufs.addr a0.bufs.list.length a0.bufs.cap, .slice a0.steps.addr a0.steps.list.length a0.steps.cap, .slice a0.outs.addr a0.outs.list.length a0.outs.cap] := by
    apply Array.ext'
    exact e0
  obtain ⟨a1, e1, f1⟩ := nK.arg opens_made h1 hsz (j := 1) rfl rfl
  obtain ⟨cs1, rfl, _⟩ := okWide_struct Tryz.underlying31 (hval 1 31 v1 rfl rfl)
  obtain rfl : cs1 = #[.slice a1.code.addr a1.code.list.length a1.code.cap, .int .i64 a1.mem, .slice a1.at_.addr a1.at_.list.length a1.at_.cap] := by
    apply Array.ext'
    exact e1
  obtain ⟨a2, e2, f2⟩ := nK.arg (jS Tryz.underlying37 (fD (T := arrTy) (b := 48) Tryz.underlying37 (by kernel_rfl) (by kernel_rfl) opens_arr)) h2 hsz (j := 2) rfl rfl
  obtain ⟨A2, L2, C2, rfl⟩ := okWide_slice Tryz.underlying37 (hval 2 37 v2 rfl rfl)
  have e2 : [Value.slice A2 L2 C2] = [Value.slice a2.addr a2.list.length a2.cap] := e2
  simp only[List.cons.injEq, and_true, Value.slice.injEq]at e2
  obtain ⟨rfl, rfl, rfl⟩ := e2
  clear hA0 hval0
  simp only[List.append_nil]at hW'
  have hg := globF_of hL hsh
  have hc := core_of f0
  have hm := made_of f1
  obtain ⟨i1, i2, _⟩ := arrs_of f2
  have hml : a1.at_.list.length * 8 <= 140737488355328 := hm.2.2
  refine (bNx (lawLd_spec a0 a1 a2.addr a2.cap a2.list (by omega)) (All.cons hg (All.cons hc (All.cons hm.1 (All.cons i1 (All.cons i2 λg hg => by simp at hg)))))).mono λe W' ⟨he, hb⟩ => ?_
  subst he
  exact ⟨_, rfl, law_post (tb := 4) hW' rfl rfl rfl Tryz.underlying4 laid (by rw[Tryz.params4]; exact λt ht => by simp at ht; rcases ht with rfl|rfl|rfl <;> exact ⟨by kernel_rfl, by decide +kernel⟩) hb⟩

theorem cl0 : (Rows.genLoadsRow.wf (OpenSpec.ofChange (OpenSpec.ofChange Rows.genLoadsSpec).bare) && laidOutB Tryz.pinned.checked.prog && mapsRowed Tryz.pinned.checked.prog && Tryz.f4.params.all (Tryz.pinned.checked.prog.readableRec ·) && namedTie Tryz.pinned.checked.prog Rows.genLoadsRow.named (OpenSpec.ofChange Rows.genLoadsSpec).bare.vars && (Rows.genLoadsRow.stops == []) && (Tryz.pinned.checked.prog.stops == []) && (Rows.genLoadsRow.knobs == []) && (Tryz.pinned.checked.prog.stopKnobs == [])) = true := by kernel_rfl
theorem cl1 : ((Rows.genLoadsRow.inPlace == Tryz.pinned.checked.prog.inPlace 4)) = true := by kernel_rfl
theorem cl2 : ((Rows.genLoadsRow.unfollowed == Tryz.pinned.checked.prog.unfollowed 4)) = true := by kernel_rfl
theorem cl3 : ((Rows.genLoadsRow.recurses == Tryz.pinned.checked.prog.recurses 4)) = true := by kernel_rfl
theorem cl4 : ((Rows.genLoadsRow.named == Tryz.pinned.checked.prog.varsNamed 4)) = true := by kernel_rfl
theorem cl5 : ((Rows.genLoadsRow.maps == (Tryz.f4.params.toList ++ (OpenSpec.ofChange Rows.genLoadsSpec).bare.plain.varTypes Tryz.pinned.checked.prog).any (Tryz.pinned.checked.prog.mapsRec ·))) = true := by kernel_rfl
theorem cl6 : ((Rows.genLoadsRow.ifaces == (Tryz.f4.params.toList ++ (OpenSpec.ofChange Rows.genLoadsSpec).bare.plain.varTypes Tryz.pinned.checked.prog).any (Tryz.pinned.checked.prog.ifacesRec ·))) = true := by kernel_rfl
theorem cl7 : ((Rows.genLoadsRow.mapsOut == Tryz.pinned.checked.prog.mapsAmong Tryz.f4.resultTypes.toList)) = true := by kernel_rfl
theorem cl8 : ((Rows.genLoadsRow.loops == (Tryz.f4.params.toList ++ (OpenSpec.ofChange Rows.genLoadsSpec).bare.plain.varTypes Tryz.pinned.checked.prog).any (Tryz.pinned.checked.prog.loopsFrom ·))) = true := by kernel_rfl
theorem cl9 : ((Rows.genLoadsRow.wideKeys == (Tryz.f4.params.toList ++ (OpenSpec.ofChange Rows.genLoadsSpec).bare.plain.varTypes Tryz.pinned.checked.prog ++ Tryz.f4.resultTypes.toList).any (Tryz.pinned.checked.prog.wideKeysFrom ·))) = true := by kernel_rfl
theorem cl10 : ((OpenSpec.ofChange Rows.genLoadsSpec).bare.vars.all (Tryz.pinned.checked.prog.varReadable ·)) = true := by kernel_rfl
theorem cl11 : (Tryz.f4.resultTypes.all (λt => Tryz.pinned.checked.prog.readableRec t && decide (t < Tryz.pinned.checked.prog.types.size))) = true := by kernel_rfl
theorem cl12 : ((Rows.genLoadsRow.ifacesOut == Tryz.f4.resultTypes.toList.any (Tryz.pinned.checked.prog.ifacesRec ·))) = true := by kernel_rfl
theorem cl13 : ((Rows.genLoadsRow.loopsOut == Tryz.f4.resultTypes.toList.any (Tryz.pinned.checked.prog.loopsFrom ·))) = true := by kernel_rfl
theorem cl14 : ((Rows.genLoadsRow.plainKeys == Tryz.pinned.checked.prog.plainKeys)) = true := by kernel_rfl
theorem cl15 : (Rows.genLoadsRow.shortTexts.isNone) = true := by kernel_rfl
theorem cl16 : (Tryz.pinned.checked.prog.stopsHeard) = true := by kernel_rfl
theorem cl17 : (Tryz.pinned.checked.prog.mayEnter) = true := by kernel_rfl
theorem cl18 : ((Rows.genLoadsRow.lifted == Tryz.pinned.checked.prog.liftsFinal)) = true := by kernel_rfl
theorem cl19 : ((Tryz.pinned.checked.prog.make == some Rows.genLoadsRow.make)) = true := by kernel_rfl
theorem closed : joinedFacts Tryz.pinned.checked.prog 4 Tryz.f4 (OpenSpec.ofChange Rows.genLoadsSpec).bare Rows.genLoadsRow = true := by
  unfold joinedFacts
  rw[cl0, Bool.true_and, cl1, Bool.true_and, cl2, Bool.true_and, cl3, Bool.true_and, cl4, Bool.true_and, cl5, Bool.true_and, cl6, Bool.true_and, cl7, Bool.true_and, cl8, Bool.true_and, cl9, Bool.true_and, cl10, Bool.true_and, cl11, Bool.true_and, cl12, Bool.true_and, cl13, Bool.true_and, cl14, Bool.true_and, cl15, Bool.true_and, cl16, Bool.true_and, cl17, Bool.true_and, cl18, Bool.true_and, cl19, Bool.true_and]
  kernel_rfl

theorem proved : Rows.GenLoadsSaid :=
  OpenClaim.holds_of_cond 4 Tryz.f4 rfl rfl rfl rfl rfl rfl rfl ⟨rfl, rfl, rfl, rfl, rfl⟩ rfl rfl rfl rfl rfl (by kernel_rfl) Tryz.func4 closed
    (of_decide_eq_true (by kernel_rfl)) (by unfold Func.isWrapper; first|(rw[if_pos (by decide +kernel)]; kernel_rfl)|(rw[if_neg (by decide +kernel)]; exact ⟨rfl, rfl⟩))
    (λos started H enc _ F => by rw[OpenClaim.pre_eq_preRow]; exact lifted os started H enc F)
theorem plain (f : FuncId) (fn : Func) (hf : Tryz.pinned.checked.prog.funcNamed "windrow/windrowlaw19.GenLoads" = some f) (hfn : Tryz.pinned.checked.prog.funcs[f]? = some fn) :
    true = Tryz.pinned.checked.prog.looks [] /\ ∀ (j : Nat) t, fn.params[j]? = some t -> Tryz.pinned.checked.prog.wantsStandIn t = false := by
  obtain rfl : f = 4 := Option.some.inj ((show Tryz.prog.funcNamed "windrow/windrowlaw19.GenLoads" = some 4 by kernel_rfl).symm.trans hf) |>.symm
  obtain rfl : fn = Tryz.f4 := (Option.some.inj (Tryz.func4.symm.trans hfn)).symm
  refine ⟨by kernel_rfl, λj t ht => ?_⟩
  rw[Tryz.params4]at ht
  have ht := Array.mem_of_getElem? ht
  simp at ht
  rcases ht with rfl|rfl|rfl <;> exact (show Tryz.prog.wantsStandIn _ = false by kernel_rfl)
theorem cardW : Rows.genLoadsRow.wfByText (OpenSpec.ofChange Rows.genLoadsSpec) = true := by kernel_rfl
theorem cardG : false = Rows.genLoadsRow.goesBy Tryz.pinned.checked.prog := by kernel_rfl
theorem card : Rows.GenLoadsCardSaid :=
  Claim7.holds_tied_plain_at .later [] _ _ _ _ proved (λ_ h => by cases h) cardW (λ_ h => by cases h) genLoads_row_tie rfl ⟨rfl, rfl⟩ (by kernel_rfl) rfl plain cardG
#print axioms card
end Go.Proofs.YtnfiadlonjediaaGreatDoor.genLoads
