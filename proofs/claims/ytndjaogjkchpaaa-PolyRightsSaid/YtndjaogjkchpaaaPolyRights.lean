/- Proved: for every input windrowlaw PolyRights returns true, and each argument reads afterwards as it read before. No condition beside the form's own. -/
import Derived.Test.YtndjaogjkchpaaaShown
import Derived.Test.YtndjaogjkchpaaaRefGrows
import Derived.Test.YtndjaogjkchpaaaLaw
import Derived.JoinedTies
namespace Go.Proofs.Ytndjaogjkchpaaa.polyRights
open Go.ChangeShapes Go.WideShapes Go.ChangeAt Go.RowKit Go.Sort

set_option maxRecDepth 100000 in
set_option maxHeartbeats 1000000 in
theorem walk (A : Option Addr) (c : Nat) (p : List Mono) (w0 : World) (ha : Monos w0 A p) (_ : ∀ m ∈ p, (Lit.int .i64 m.n).wf = true) (hp : p.length ≤ 140737488355328) (n : Int) (_ : (Lit.int .i64 n).wf = true) :
    Calls Try.prog 5 #[.slice A p.length c, .int .i64 n] w0 fun e w' => e = .returned (.bool true) ∧ Below w0.heap.size w0 w' := by
  have Ha := Lib.hid ha
  clear ha
  go_enter Try.func5, Try.ntmps5
  go_wp2_with fail
  refine (shown_any _).mono ?_
  rintro e w1 ⟨rfl, hb⟩
  have H1 := Lib.hid hb
  clear hb
  go_wp2_with fail
  refine (right_any A c p _ (Ha.out.below H1.out) hp).mono ?_
  rintro e w2 ⟨rfl, hb⟩
  have H2 := Lib.hid (H1.out.trans (hb.mono H1.out.size))
  clear hb
  go_wp2_with fail
  refine (grows_any A c p _ (Ha.out.below H2.out) hp).mono ?_
  rintro e w3 ⟨rfl, hb⟩
  have H3 := Lib.hid (H2.out.trans (hb.mono H2.out.size))
  clear hb
  go_wp2_with fail
  refine (covers_any A c p n _ (Ha.out.below H3.out) hp).mono ?_
  rintro e w4 ⟨rfl, hb⟩
  have H4 := Lib.hid (H3.out.trans (hb.mono H3.out.size))
  clear hb
  go_wp2_with fail
  refine (refRight_any A c p _ (Ha.out.below H4.out) hp).mono ?_
  rintro e w5 ⟨rfl, hb⟩
  have H5 := Lib.hid (H4.out.trans (hb.mono H4.out.size))
  clear hb
  go_wp2_with fail
  refine (refGrows_any A c p _ (Ha.out.below H5.out) hp).mono ?_
  rintro e w6 ⟨rfl, hb⟩
  have H6 := Lib.hid (H5.out.trans (hb.mono H5.out.size))
  clear hb
  go_wp2_with fail
  refine (refCovers_any A c p n _ (Ha.out.below H6.out) hp).mono ?_
  rintro e w7 ⟨rfl, hb⟩
  have H7 := Lib.hid (H6.out.trans (hb.mono H6.out.size))
  clear hb
  go_wp2
  go_ret
  exact ⟨rfl, H7.out⟩

theorem own : ownKnob Try.prog.godebug = none := by kernel_rfl
theorem laid : laidOutB Try.prog = true := by kernel_rfl

set_option maxRecDepth 100000 in
theorem lifted (os : Os) (started : os.Started) (H : Type) (enc : TypeId × Value → H) :
    ReturnsInHanded {} Try.checked os 5 .any (Rows.polyRightsSpec.pre6 enc Try.prog Try.f5 Rows.polyRightsRow.domain false) (Rows.polyRightsSpec.post enc Try.prog Try.f5 false true false false) := by
  refine returnsInHanded_of_change_sized (C := Try.checked) own started (by kernel_rfl) Try.func5
    (ChangeSpec.witness6 (enc := enc) (C := Try.checked) false ⟨#[], #[.slice none 0 0, .int .i64 0], []⟩ 8 (by kernel_rfl) (by kernel_rfl) (by kernel_rfl) (by kernel_rfl)) ?_
  intro W base args ds gs before hval0 hW _ hsz _
  have hval : ∀ (j : Nat) t v, Try.f5.params[j]? = some t → args[j]? = some v → Value.okWide Try.prog W .any base t v := hval0
  have hW' := hW
  obtain ⟨p, q, hA0, hV, rfl, hfz, hnd⟩ := hW
  have hA : DataW.TrodAll enc Try.prog W 0 (fun _ => true) true Try.f5.params.toList args.toList ds p := hA0
  rw [Try.params5] at hA hval
  obtain ⟨v0, vs0, d0, ds0, p0, q0, hargs, rfl, rfl, h0, r0⟩ := trodAll_cons hA
  obtain ⟨v1, vs1, d1, ds1, p1, q1, rfl, rfl, rfl, h1, r1⟩ := trodAll_cons r0
  obtain ⟨rfl, rfl, rfl⟩ := trodAll_nil r1
  obtain rfl : args = #[v0, v1] := by cases args; simp_all
  obtain ⟨rfl, rfl⟩ := trodVars_none hV
  obtain ⟨A0, c0, l0, rfl, m0, f0, z0⟩ := open_monos (hval 0 22 v0 rfl rfl) h0
  have s0 : l0.length ≤ 140737488355328 := by
    rcases z0 with rfl | ⟨es, sp, rfl, he⟩
    · simp
    · have := sized_slice hsz (j := 0) (t := 22) (e := 39) rfl rfl Try.underlying22
      rw [show Try.checked.prog.bytesOf 39 = 16 by kernel_rfl] at this
      unfold reachBytes at this
      omega
  obtain ⟨a1, rfl, rfl, rfl, w1⟩ := open_int Try.underlying2 (hval 1 2 v1 rfl rfl) h1
  clear hA0 hval0
  simp only [List.append_nil] at hW'
  refine (walk A0 c0 l0 W m0 f0 s0 a1 w1).mono fun e W' ⟨he, hb⟩ => ?_
  subst he
  exact ⟨_, rfl, law_post (tb := 4) hW' rfl rfl rfl Try.underlying4 laid (by rw [Try.params5]; exact fun t ht => by simp at ht; rcases ht with rfl | rfl <;> exact ⟨by kernel_rfl, by decide +kernel⟩) hb⟩

theorem over : Rows.polyRightsRow.holds Try.pinned (OpenSpec.ofChange Rows.polyRightsSpec) :=
  OpenClaim.holds_of_wide 5 Try.f5 rfl rfl rfl rfl rfl rfl rfl ⟨rfl, rfl, rfl, rfl, rfl⟩ rfl rfl rfl rfl rfl (by kernel_rfl) Try.func5 (by kernel_rfl)
    (of_decide_eq_true (by kernel_rfl)) (by unfold Func.isWrapper; first | (rw [if_pos (by decide +kernel)]; kernel_rfl) | (rw [if_neg (by decide +kernel)]; exact ⟨rfl, rfl⟩))
    (fun os started H enc _ => lifted os started H enc)

theorem proved : Rows.PolyRightsSaid :=
  over
#print axioms proved
end Go.Proofs.Ytndjaogjkchpaaa.polyRights
