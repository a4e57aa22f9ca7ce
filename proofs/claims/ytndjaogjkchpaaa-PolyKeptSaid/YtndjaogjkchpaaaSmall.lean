/- Contracts of poly.small, windrowref02.degree: what each returns; nothing that was there is changed. -/
import Derived.Test.YtndjaogjkchpaaaMono
import Derived.Test.YtndjaogjkchpaaaRows
import Derived.WalkKit
import Derived.WalkSpells
import Derived.WalkLawsBesides
import Derived.Handy
import Derived.Deep.QuietTactic
import Derived.Deep.Light
import Derived.BigQuiet
namespace Go.Proofs.Ytndjaogjkchpaaa
open Go.RowKit

set_option maxHeartbeats 400000 in
theorem degree_any (m : Mono) (w : World) :
    Calls Try.prog 42 #[.agg #[.int .i64 m.n, .int .u8 m.e0.toNat, .int .u8 m.e1.toNat, .int .u8 m.e2.toNat, .int .u8 m.e3.toNat, .int .u8 m.e4.toNat, .int .u8 m.e5.toNat]] w fun e w' => e = .returned (.int .i64 m.deg) ∧ Below w.heap.size w w' := by
  have h0 := u8_lt m.e0
  have h1 := u8_lt m.e1
  have h2 := u8_lt m.e2
  have h3 := u8_lt m.e3
  have h4 := u8_lt m.e4
  have h5 := u8_lt m.e5
  go_enter Try.func42, Try.ntmps42
  go_wp2
  go_rounds 7
  go_ret
  refine ⟨?_, by go_grown⟩
  simp [Mono.deg]

set_option maxRecDepth 100000 in
set_option maxHeartbeats 400000 in
theorem small_any (m : Mono) (w : World) :
    Calls Try.prog 38 #[.agg #[.int .i64 m.n, .int .u8 m.e0.toNat, .int .u8 m.e1.toNat, .int .u8 m.e2.toNat, .int .u8 m.e3.toNat, .int .u8 m.e4.toNat, .int .u8 m.e5.toNat]] w fun e w' => e = .returned (.bool (smallB m)) ∧ Below w.heap.size w w' := by
  have h0 := u8_lt m.e0
  have h1 := u8_lt m.e1
  have h2 := u8_lt m.e2
  have h3 := u8_lt m.e3
  have h4 := u8_lt m.e4
  have h5 := u8_lt m.e5
  have i0 : ∀ w, (Instr.index 37 (.agg #[.int .u8 m.e0.toNat, .int .u8 m.e1.toNat, .int .u8 m.e2.toNat, .int .u8 m.e3.toNat, .int .u8 m.e4.toNat, .int .u8 m.e5.toNat]) (.int .i64 0)).run Try.prog w = .ok (.int .u8 m.e0.toNat) w := fun _ => by kernel_rfl
  have i1 : ∀ w, (Instr.index 37 (.agg #[.int .u8 m.e0.toNat, .int .u8 m.e1.toNat, .int .u8 m.e2.toNat, .int .u8 m.e3.toNat, .int .u8 m.e4.toNat, .int .u8 m.e5.toNat]) (.int .i64 1)).run Try.prog w = .ok (.int .u8 m.e1.toNat) w := fun _ => by kernel_rfl
  have i2 : ∀ w, (Instr.index 37 (.agg #[.int .u8 m.e0.toNat, .int .u8 m.e1.toNat, .int .u8 m.e2.toNat, .int .u8 m.e3.toNat, .int .u8 m.e4.toNat, .int .u8 m.e5.toNat]) (.int .i64 2)).run Try.prog w = .ok (.int .u8 m.e2.toNat) w := fun _ => by kernel_rfl
  have i3 : ∀ w, (Instr.index 37 (.agg #[.int .u8 m.e0.toNat, .int .u8 m.e1.toNat, .int .u8 m.e2.toNat, .int .u8 m.e3.toNat, .int .u8 m.e4.toNat, .int .u8 m.e5.toNat]) (.int .i64 3)).run Try.prog w = .ok (.int .u8 m.e3.toNat) w := fun _ => by kernel_rfl
  have i4 : ∀ w, (Instr.index 37 (.agg #[.int .u8 m.e0.toNat, .int .u8 m.e1.toNat, .int .u8 m.e2.toNat, .int .u8 m.e3.toNat, .int .u8 m.e4.toNat, .int .u8 m.e5.toNat]) (.int .i64 4)).run Try.prog w = .ok (.int .u8 m.e4.toNat) w := fun _ => by kernel_rfl
  have i5 : ∀ w, (Instr.index 37 (.agg #[.int .u8 m.e0.toNat, .int .u8 m.e1.toNat, .int .u8 m.e2.toNat, .int .u8 m.e3.toNat, .int .u8 m.e4.toNat, .int .u8 m.e5.toNat]) (.int .i64 5)).run Try.prog w = .ok (.int .u8 m.e5.toNat) w := fun _ => by kernel_rfl
  go_enter Try.func38, Try.ntmps38
  go_wp2
  go_rounds 7
  all_goals go_ret
  all_goals refine ⟨ret_bool ?_, by go_grown⟩
  all_goals clear i0 i1 i2 i3 i4 i5
  all_goals go_light
  all_goals unfold smallB Mono.deg
  all_goals try exact (decide_eq_false (by omega)).symm
  have hn : (m.n != 0) = true := by simpa using ‹¬m.n = 0›
  rw [hn, Bool.true_and]
  exact decide_eq_decide.2 (by omega)

end Go.Proofs.Ytndjaogjkchpaaa
