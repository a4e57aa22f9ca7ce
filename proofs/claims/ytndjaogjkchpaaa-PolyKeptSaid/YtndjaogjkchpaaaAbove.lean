/- Contract of windrowref02.above: what each returns; nothing that was there is changed. -/
import Derived.Test.YtndjaogjkchpaaaMono
import Derived.Test.YtndjaogjkchpaaaRows
import Derived.WalkKit
import Derived.WalkSpells
import Derived.WalkLawsBesides
import Derived.Handy
import Derived.Deep.QuietTactic
import Derived.Deep.Light
import Derived.BigQuiet
namespace Go.Proofs.Ytndjaogjkchpaaa
open Go.RowKit

set_option maxHeartbeats 1000000 in
theorem above_any (a b : Mono) (w : World) :
    Calls Try.prog 43 #[.agg #[.int .i64 a.n, .int .u8 a.e0.toNat, .int .u8 a.e1.toNat, .int .u8 a.e2.toNat, .int .u8 a.e3.toNat, .int .u8 a.e4.toNat, .int .u8 a.e5.toNat], .agg #[.int .i64 b.n, .int .u8 b.e0.toNat, .int .u8 b.e1.toNat, .int .u8 b.e2.toNat, .int .u8 b.e3.toNat, .int .u8 b.e4.toNat, .int .u8 b.e5.toNat]] w fun e w' => e = .returned (.int .i64 (above a b)) ∧ Below w.heap.size w w' := by
  go_enter Try.func43, Try.ntmps43
  go_wp2
  refine wp_loop_rounds 7 ?_
  repeat any_goals (first | (rw [rounds_succ]; go_wp2) | (go_quiet (fail); go_wp2))
  all_goals go_ret
  all_goals refine ⟨ret_int ?_, ?_⟩
  all_goals first | ((repeat refine below_drewN ?_ _); go_grown; done) | (go_light; simp [above, Mono.E, cmp_cons, *]; done) | (go_light; simp [above, Mono.E, cmp_cons, *]; rfl)

end Go.Proofs.Ytndjaogjkchpaaa
