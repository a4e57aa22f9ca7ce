/- Proved: for every input windrowlaw PolyMakes returns true, and each argument reads afterwards as it read before. No condition beside the form's own. -/
import Derived.Test.YtndjaogjkchpaaaShown
import Derived.Test.YtndjaogjkchpaaaLaw
import Derived.JoinedTies
namespace Go.Proofs.Ytndjaogjkchpaaa.polyMakes
open Go.ChangeShapes Go.WideShapes Go.ChangeAt Go.RowKit Go.Sort

set_option maxRecDepth 100000 in
set_option maxHeartbeats 1000000 in
theorem walk (n : Int) (_ : (Lit.int .i64 n).wf = true) (k : Int) (_ : (Lit.int .i64 k).wf = true) (w : World) :
    Calls Try.prog 11 #[.int .i64 n, .int .i64 k] w fun e w' => e = .returned (.bool true) ∧ Below w.heap.size w w' := by
  have hl1 : (constP n).1.length ≤ 140737488355328 := by unfold constP; split; simp; split <;> simp
  have hl2 : (varP k).1.length ≤ 140737488355328 := by unfold varP; split <;> simp
  go_enter Try.func11, Try.ntmps11
  go_wp2_with fail
  refine (shown_any _).mono ?_
  rintro e w1 ⟨rfl, hb⟩
  have H1 := Lib.hid hb
  clear hb
  go_wp2_with fail
  refine (const_any n _).mono fun e w' h => ?_
  obtain ⟨A1, c1, rfl, hb, hm⟩ := h.list
  have H2 := Lib.hid (H1.out.trans (hb.mono H1.out.size))
  have M1 := Lib.hid hm
  clear hb hm h
  go_wp2_with fail
  refine (refConst_any n _).mono fun e w2 h => ?_
  obtain ⟨A2, c2, rfl, hb, hm⟩ := h.list
  have H3 := Lib.hid (H2.out.trans (hb.mono H2.out.size))
  have M1' := Lib.hid (M1.out.below hb)
  have M2 := Lib.hid hm
  clear hb hm h M1
  go_wp2_with fail
  refine (var_any k _).mono fun e w3 h => ?_
  obtain ⟨A3, c3, rfl, hb, hm⟩ := h.list
  have H4 := Lib.hid (H3.out.trans (hb.mono H3.out.size))
  have M1 := Lib.hid (M1'.out.below hb)
  have M2' := Lib.hid (M2.out.below hb)
  have M3 := Lib.hid hm
  clear hb hm h M1' M2
  go_wp2_with fail
  refine (refVar_any k _).mono fun e w4 h => ?_
  obtain ⟨A4, c4, rfl, hb, hm⟩ := h.list
  have H5 := Lib.hid (H4.out.trans (hb.mono H4.out.size))
  have M1' := Lib.hid (M1.out.below hb)
  have M2 := Lib.hid (M2'.out.below hb)
  have M3' := Lib.hid (M3.out.below hb)
  have M4 := Lib.hid hm
  clear hb hm h M1 M2' M3
  go_wp2_with fail
  refine (same_any A1 A2 c1 c2 _ _ _ M1'.out M2.out hl1).mono ?_
  rw [show sameB (constP n).1 (constP n).1 = true from (sameB_iff _ _).2 rfl]
  rintro e w5 ⟨rfl, hb⟩
  have H6 := Lib.hid (H5.out.trans (hb.mono H5.out.size))
  have M3 := Lib.hid (M3'.out.below hb)
  have M4' := Lib.hid (M4.out.below hb)
  clear hb M3' M4 M1' M2
  go_wp2_with fail
  refine (same_any A3 A4 c3 c4 _ _ _ M3.out M4'.out hl2).mono ?_
  rw [show sameB (varP k).1 (varP k).1 = true from (sameB_iff _ _).2 rfl]
  rintro e w6 ⟨rfl, hb⟩
  have H7 := Lib.hid (H6.out.trans (hb.mono H6.out.size))
  clear hb
  go_wp2
  go_ret
  exact ⟨rfl, H7.out⟩

theorem own : ownKnob Try.prog.godebug = none := by kernel_rfl
theorem laid : laidOutB Try.prog = true := by kernel_rfl

set_option maxRecDepth 100000 in
theorem lifted (os : Os) (started : os.Started) (H : Type) (enc : TypeId × Value → H) :
    ReturnsInHanded {} Try.checked os 11 .any (Rows.polyMakesSpec.pre6 enc Try.prog Try.f11 Rows.polyMakesRow.domain false) (Rows.polyMakesSpec.post enc Try.prog Try.f11 false true false false) := by
  refine returnsInHanded_of_change_sized (C := Try.checked) own started (by kernel_rfl) Try.func11
    (ChangeSpec.witness6 (enc := enc) (C := Try.checked) false ⟨#[], #[.int .i64 0, .int .i64 0], []⟩ 8 (by kernel_rfl) (by kernel_rfl) (by kernel_rfl) (by kernel_rfl)) ?_
  intro W base args ds gs before hval0 hW _ hsz _
  have hval : ∀ (j : Nat) t v, Try.f11.params[j]? = some t → args[j]? = some v → Value.okWide Try.prog W .any base t v := hval0
  have hW' := hW
  obtain ⟨p, q, hA0, hV, rfl, hfz, hnd⟩ := hW
  have hA : DataW.TrodAll enc Try.prog W 0 (fun _ => true) true Try.f11.params.toList args.toList ds p := hA0
  rw [Try.params11] at hA hval
  obtain ⟨v0, vs0, d0, ds0, p0, q0, hargs, rfl, rfl, h0, r0⟩ := trodAll_cons hA
  obtain ⟨v1, vs1, d1, ds1, p1, q1, rfl, rfl, rfl, h1, r1⟩ := trodAll_cons r0
  obtain ⟨rfl, rfl, rfl⟩ := trodAll_nil r1
  obtain rfl : args = #[v0, v1] := by cases args; simp_all
  obtain ⟨rfl, rfl⟩ := trodVars_none hV
  obtain ⟨a0, rfl, rfl, rfl, w0⟩ := open_int Try.underlying2 (hval 0 2 v0 rfl rfl) h0
  obtain ⟨a1, rfl, rfl, rfl, w1⟩ := open_int Try.underlying3 (hval 1 3 v1 rfl rfl) h1
  clear hA0 hval0
  simp only [List.append_nil] at hW'
  refine (walk a0 w0 a1 w1 W).mono fun e W' ⟨he, hb⟩ => ?_
  subst he
  exact ⟨_, rfl, law_post (tb := 4) hW' rfl rfl rfl Try.underlying4 laid (by rw [Try.params11]; exact fun t ht => by simp at ht; rcases ht with rfl | rfl <;> exact ⟨by kernel_rfl, by decide +kernel⟩) hb⟩

theorem over : Rows.polyMakesRow.holds Try.pinned (OpenSpec.ofChange Rows.polyMakesSpec) :=
  OpenClaim.holds_of_wide 11 Try.f11 rfl rfl rfl rfl rfl rfl rfl ⟨rfl, rfl, rfl, rfl, rfl⟩ rfl rfl rfl rfl rfl (by kernel_rfl) Try.func11 (by kernel_rfl)
    (of_decide_eq_true (by kernel_rfl)) (by unfold Func.isWrapper; first | (rw [if_pos (by decide +kernel)]; kernel_rfl) | (rw [if_neg (by decide +kernel)]; exact ⟨rfl, rfl⟩))
    (fun os started H enc _ => lifted os started H enc)

theorem proved : Rows.PolyMakesSaid :=
  over
#print axioms proved
end Go.Proofs.Ytndjaogjkchpaaa.polyMakes
