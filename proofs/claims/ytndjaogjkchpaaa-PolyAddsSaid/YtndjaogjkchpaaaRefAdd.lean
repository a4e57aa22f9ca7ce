/- Contracts of windrowref02.Add, Sub (the walks are printed by wip/gen). -/
import Derived.Test.YtndjaogjkchpaaaPLaw
namespace Go.Proofs.Ytndjaogjkchpaaa
open Go.RowKit
set_option maxRecDepth 100000 in
theorem refAdd_spec (A B : Option Addr) (c d : Nat) (p q : List Mono) (hpl : p.length ≤ 140737488355328) (hql : q.length ≤ 140737488355328) : Spec Try.prog 25 [.slice A p.length c, .slice B q.length d] [] [monoE.sl (.slice A p.length c) p, monoE.sl (.slice B q.length d) q] (fun (x : Option Addr × Nat) => .tuple #[.slice x.1 (togetherP p q 1).1.length x.2, .int .i64 (togetherP p q 1).2]) (fun (x : Option Addr × Nat) => [monoE.row (.slice x.1 (togetherP p q 1).1.length x.2) 39 (togetherP p q 1).1]) (fun _ => []) := by
  have hT := polyT_ok
  refine spec_of Try.func25 rfl Try.ntmps25 rfl ?_
  intro β hM
  refine at_seq ?_
  refine at_region ?_
  refine at_sti rfl rfl rfl (sti_pure hT rfl) ?_
  refine at_sti rfl rfl rfl (sti_pure hT rfl) ?_
  refine at_nil ?_
  refine n_then ?_
  refine at_seq ?_
  refine at_region ?_
  refine at_sti rfl rfl rfl (sti_pure hT rfl) ?_
  refine at_sti rfl rfl rfl (sti_pure hT rfl) ?_
  refine at_call (callFunc_enter Try.func45 rfl rfl) (together_spec _ _ _ _ p q 1 (by omega) (by omega)) rfl rfl rfl rfl rfl .nil ⟨Has.of (.head _), Has.of (.tail _ (.head _)), trivial⟩ fun ⟨A1, c2⟩ => ?_
  refine at_sti rfl rfl rfl (sti_pure hT rfl) ?_
  refine at_sti rfl rfl rfl (sti_pure hT rfl) ?_
  refine at_sti rfl rfl rfl (sti_pure hT rfl) ?_
  refine at_sti rfl rfl rfl (sti_pure hT rfl) ?_
  refine at_nil ?_
  refine n_then ?_
  refine at_ret ?_
  exact at_done2 (A1, c2) rfl rfl rfl rfl (.cons .head .nil) trivial

set_option maxRecDepth 100000 in
theorem refSub_spec (A B : Option Addr) (c d : Nat) (p q : List Mono) (hpl : p.length ≤ 140737488355328) (hql : q.length ≤ 140737488355328) : Spec Try.prog 27 [.slice A p.length c, .slice B q.length d] [] [monoE.sl (.slice A p.length c) p, monoE.sl (.slice B q.length d) q] (fun (x : Option Addr × Nat) => .tuple #[.slice x.1 (togetherP p q (-1)).1.length x.2, .int .i64 (togetherP p q (-1)).2]) (fun (x : Option Addr × Nat) => [monoE.row (.slice x.1 (togetherP p q (-1)).1.length x.2) 39 (togetherP p q (-1)).1]) (fun _ => []) := by
  have hT := polyT_ok
  refine spec_of Try.func27 rfl Try.ntmps27 rfl ?_
  intro β hM
  refine at_seq ?_
  refine at_region ?_
  refine at_sti rfl rfl rfl (sti_pure hT rfl) ?_
  refine at_sti rfl rfl rfl (sti_pure hT rfl) ?_
  refine at_nil ?_
  refine n_then ?_
  refine at_seq ?_
  refine at_region ?_
  refine at_sti rfl rfl rfl (sti_pure hT rfl) ?_
  refine at_sti rfl rfl rfl (sti_pure hT rfl) ?_
  refine at_call (callFunc_enter Try.func45 rfl rfl) (together_spec _ _ _ _ p q (-1) (by omega) (by omega)) rfl rfl rfl rfl rfl .nil ⟨Has.of (.head _), Has.of (.tail _ (.head _)), trivial⟩ fun ⟨A1, c2⟩ => ?_
  refine at_sti rfl rfl rfl (sti_pure hT rfl) ?_
  refine at_sti rfl rfl rfl (sti_pure hT rfl) ?_
  refine at_sti rfl rfl rfl (sti_pure hT rfl) ?_
  refine at_sti rfl rfl rfl (sti_pure hT rfl) ?_
  refine at_nil ?_
  refine n_then ?_
  refine at_ret ?_
  exact at_done2 (A1, c2) rfl rfl rfl rfl (.cons .head .nil) trivial

end Go.Proofs.Ytndjaogjkchpaaa
