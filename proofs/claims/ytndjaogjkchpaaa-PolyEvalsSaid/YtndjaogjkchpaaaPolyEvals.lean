/- Proved: for every input windrowlaw PolyEvals returns true, and each argument reads afterwards as it read before. No condition beside the form's own. -/
import Derived.Test.YtndjaogjkchpaaaShown
import Derived.Test.YtndjaogjkchpaaaRefEval
import Derived.Test.YtndjaogjkchpaaaLaw
import Derived.JoinedTies
namespace Go.Proofs.Ytndjaogjkchpaaa.polyEvals
open Go.ChangeShapes Go.WideShapes Go.ChangeAt Go.RowKit Go.Sort

set_option maxRecDepth 100000 in
set_option maxHeartbeats 1000000 in
theorem walk (A : Option Addr) (c : Nat) (p : List Mono) (w0 : World) (ha : Monos w0 A p) (_ : ∀ m ∈ p, (Lit.int .i64 m.n).wf = true) (hp : p.length ≤ 140737488355328)
    (B : Option Addr) (d : Nat) (ds : List Int) (hb : Ints w0 B ds) (_ : ∀ m ∈ ds, (Lit.int .i64 m).wf = true) (hq : ds.length ≤ 140737488355328) :
    Calls Try.prog 4 #[.slice A p.length c, .slice B ds.length d] w0 fun e w' => e = .returned (.bool true) ∧ Below w0.heap.size w0 w' := by
  have Ha := Lib.hid ha
  have Hb := Lib.hid hb
  clear ha hb
  go_enter Try.func4, Try.ntmps4
  go_wp2_with fail
  refine (shown_any _).mono ?_
  rintro e w1 ⟨rfl, hb⟩
  have H1 := Lib.hid hb
  clear hb
  go_wp2_with fail
  refine (eval_any A B c d p ds _ (Ha.out.below H1.out) (Hb.out.below H1.out) hp hq).mono ?_
  rintro e w2 ⟨rfl, hb⟩
  have H2 := Lib.hid (H1.out.trans (hb.mono H1.out.size))
  clear hb
  go_wp2_with fail
  refine (refEval_any A B c d p ds _ (Ha.out.below H2.out) (Hb.out.below H2.out) hp hq).mono ?_
  rintro e w3 ⟨rfl, hb⟩
  have H3 := Lib.hid (H2.out.trans (hb.mono H2.out.size))
  clear hb
  go_wp2
  go_ret
  exact ⟨rfl, H3.out⟩

theorem own : ownKnob Try.prog.godebug = none := by kernel_rfl
theorem laid : laidOutB Try.prog = true := by kernel_rfl

set_option maxRecDepth 100000 in
theorem lifted (os : Os) (started : os.Started) (H : Type) (enc : TypeId × Value → H) :
    ReturnsInHanded {} Try.checked os 4 .any (Rows.polyEvalsSpec.pre6 enc Try.prog Try.f4 Rows.polyEvalsRow.domain false) (Rows.polyEvalsSpec.post enc Try.prog Try.f4 false true false false) := by
  refine returnsInHanded_of_change_sized (C := Try.checked) own started (by kernel_rfl) Try.func4
    (ChangeSpec.witness6 (enc := enc) (C := Try.checked) false ⟨#[], #[.slice none 0 0, .slice none 0 0], []⟩ 8 (by kernel_rfl) (by kernel_rfl) (by kernel_rfl) (by kernel_rfl)) ?_
  intro W base args ds gs before hval0 hW _ hsz _
  have hval : ∀ (j : Nat) t v, Try.f4.params[j]? = some t → args[j]? = some v → Value.okWide Try.prog W .any base t v := hval0
  have hW' := hW
  obtain ⟨p, q, hA0, hV, rfl, hfz, hnd⟩ := hW
  have hA : DataW.TrodAll enc Try.prog W 0 (fun _ => true) true Try.f4.params.toList args.toList ds p := hA0
  rw [Try.params4] at hA hval
  obtain ⟨v0, vs0, d0, ds0, p0, q0, hargs, rfl, rfl, h0, r0⟩ := trodAll_cons hA
  obtain ⟨v1, vs1, d1, ds1, p1, q1, rfl, rfl, rfl, h1, r1⟩ := trodAll_cons r0
  obtain ⟨rfl, rfl, rfl⟩ := trodAll_nil r1
  obtain rfl : args = #[v0, v1] := by cases args; simp_all
  obtain ⟨rfl, rfl⟩ := trodVars_none hV
  obtain ⟨A0, c0, l0, rfl, m0, f0, z0⟩ := open_monos (hval 0 22 v0 rfl rfl) h0
  have s0 : l0.length ≤ 140737488355328 := by
    rcases z0 with rfl | ⟨es, sp, rfl, he⟩
    · simp
    · have := sized_slice hsz (j := 0) (t := 22) (e := 39) rfl rfl Try.underlying22
      rw [show Try.checked.prog.bytesOf 39 = 16 by kernel_rfl] at this
      unfold reachBytes at this
      omega
  obtain ⟨A1, c1, l1, rfl, m1, f1, z1⟩ := open_nums (hval 1 28 v1 rfl rfl) h1
  have s1 : l1.length ≤ 140737488355328 := by
    rcases z1 with rfl | ⟨es, sp, rfl, he⟩
    · simp
    · have := sized_slice hsz (j := 1) (t := 28) (e := 2) rfl rfl Try.underlying28
      rw [show Try.checked.prog.bytesOf 2 = 8 by kernel_rfl] at this
      unfold reachBytes at this
      omega
  clear hA0 hval0
  simp only [List.append_nil] at hW'
  refine (walk A0 c0 l0 W m0 f0 s0 A1 c1 l1 m1 f1 s1).mono fun e W' ⟨he, hb⟩ => ?_
  subst he
  exact ⟨_, rfl, law_post (tb := 4) hW' rfl rfl rfl Try.underlying4 laid (by rw [Try.params4]; exact fun t ht => by simp at ht; rcases ht with rfl | rfl <;> exact ⟨by kernel_rfl, by decide +kernel⟩) hb⟩

theorem over : Rows.polyEvalsRow.holds Try.pinned (OpenSpec.ofChange Rows.polyEvalsSpec) :=
  OpenClaim.holds_of_wide 4 Try.f4 rfl rfl rfl rfl rfl rfl rfl ⟨rfl, rfl, rfl, rfl, rfl⟩ rfl rfl rfl rfl rfl (by kernel_rfl) Try.func4 (by kernel_rfl)
    (of_decide_eq_true (by kernel_rfl)) (by unfold Func.isWrapper; first | (rw [if_pos (by decide +kernel)]; kernel_rfl) | (rw [if_neg (by decide +kernel)]; exact ⟨rfl, rfl⟩))
    (fun os started H enc _ => lifted os started H enc)

theorem proved : Rows.PolyEvalsSaid :=
  over
#print axioms proved
end Go.Proofs.Ytndjaogjkchpaaa.polyEvals
