/- The contracts of the poly layer in the engine's form, and the way back from the engine to a law's walk. -/
import Derived.Test.YtndjaogjkchpaaaPlus
import Derived.Test.YtndjaogjkchpaaaMakes
import Derived.Test.YtndjaogjkchpaaaShown
import Derived.Test.YtndjaogjkchpaaaSame
namespace Go.Proofs.Ytndjaogjkchpaaa
open Go.RowKit

theorem spec_gives {f : FuncId} {args : List Value} {Pre : List Fact} {r : List Mono × Int} (h : ∀ S w, (∀ b, S b → b < w.heap.size) → All Pre S w → Calls Try.prog f args.toArray w (Gives w r)) :
    Spec Try.prog f args [] Pre (fun x : Option Addr × Nat => .tuple #[.slice x.1 r.1.length x.2, .int .i64 r.2]) (fun _ => []) (fun x => [monoE.sl (.slice x.1 r.1.length x.2) r.1]) := fun S w s k => by
  refine (h S w (fun b hb => (s.zone b hb).1) k).mono ?_
  intro e w' hg
  obtain ⟨v, rfl, hb, A, c, rfl, hr⟩ := hg
  refine ⟨(A, c), fun b => S b ∨ (w.heap.size ≤ b ∧ b < w'.heap.size), rfl, ⟨Kept.of_below _ hb, fun c hc => by simp at hc, fun c hc => by simp at hc, List.Pairwise.nil, fun b hb' => ?_⟩, All.cons ?_ (fun g hg => by simp at hg)⟩
  · rcases hb' with h | h
    · exact ⟨Nat.lt_of_lt_of_le (s.zone b h).1 hb.size, .inl h⟩
    · exact ⟨h.2, .inr (.inr h.1)⟩
  · rcases hr with hr | ⟨g, rfl, hg, hr⟩
    · exact ⟨A, c, rfl, fun k m hk => by rw [hr] at hk; simp at hk⟩
    · have hm := hr.monos
      obtain ⟨A', c', e, h⟩ := sl_of (c := c) hm
      injection e with e1 e2 e3
      subst e1
      refine ⟨_, c, rfl, fun k m hk => ?_⟩
      obtain ⟨b, o, cs, e1, e2, e3, e4⟩ := h k m hk
      injection e1 with e1
      injection e1 with e1 e5
      subst e1
      exact ⟨_, o, cs, by rw [e5], .inr ⟨hg, e2⟩, e3, e4⟩
/-- from the engine to a walk -/
theorem calls_of_spec {ι : Type} {f : FuncId} {args : List Value} {Pre : List Fact} {v : Value} (h : Spec Try.prog f args [] Pre (fun _ : ι => v) (fun _ => []) (fun _ => [])) {w : World} (hp : All Pre (fun b => b < w.heap.size) w) :
    Calls Try.prog f args.toArray w fun e w' => e = .returned v ∧ Below w.heap.size w w' := by
  refine (h (fun b => b < w.heap.size) w ⟨Kept.refl _ _, fun c hc => by simp at hc, fun c hc => by simp at hc, List.Pairwise.nil, fun b hb => ⟨hb, .inl hb⟩⟩ hp).mono ?_
  rintro e w' ⟨_, _, rfl, s, _⟩
  refine ⟨rfl, s.kept.os, s.kept.tape, s.kept.output, s.kept.size, fun k hk => s.kept.block k hk fun ⟨c, hc, _⟩ => by simp at hc⟩

section
variable (A B : Option Addr) (c d : Nat) (p q : List Mono)
theorem add_spec (hp : p.length ≤ 140737488355328) (hq : q.length ≤ 140737488355328) : Spec Try.prog 24 [.slice A p.length c, .slice B q.length d] [] [monoE.sl (.slice A p.length c) p, monoE.sl (.slice B q.length d) q] (fun x : Option Addr × Nat => .tuple #[.slice x.1 (bothP p q 1).1.length x.2, .int .i64 (bothP p q 1).2]) (fun _ => []) (fun x => [monoE.sl (.slice x.1 (bothP p q 1).1.length x.2) (bothP p q 1).1]) :=
  spec_gives fun _ w hS h => add_any A B c d p q w (monos_of hS (h _ (.head _))).1 (monos_of hS (h _ (.tail _ (.head _)))).1 hp hq
theorem sub_spec (hp : p.length ≤ 140737488355328) (hq : q.length ≤ 140737488355328) : Spec Try.prog 26 [.slice A p.length c, .slice B q.length d] [] [monoE.sl (.slice A p.length c) p, monoE.sl (.slice B q.length d) q] (fun x : Option Addr × Nat => .tuple #[.slice x.1 (bothP p q (-1)).1.length x.2, .int .i64 (bothP p q (-1)).2]) (fun _ => []) (fun x => [monoE.sl (.slice x.1 (bothP p q (-1)).1.length x.2) (bothP p q (-1)).1]) :=
  spec_gives fun _ w hS h => sub_any A B c d p q w (monos_of hS (h _ (.head _))).1 (monos_of hS (h _ (.tail _ (.head _)))).1 hp hq
theorem mul_spec (hp : p.length ≤ 140737488355328) (hq : q.length ≤ 140737488355328) : Spec Try.prog 13 [.slice A p.length c, .slice B q.length d] [] [monoE.sl (.slice A p.length c) p, monoE.sl (.slice B q.length d) q] (fun x : Option Addr × Nat => .tuple #[.slice x.1 (mulP p q).1.length x.2, .int .i64 (mulP p q).2]) (fun _ => []) (fun x => [monoE.sl (.slice x.1 (mulP p q).1.length x.2) (mulP p q).1]) :=
  spec_gives fun _ w hS h => mul_any A B c d p q w (monos_of hS (h _ (.head _))).1 (monos_of hS (h _ (.tail _ (.head _)))).1 hp hq
theorem same_spec (hp : p.length ≤ 140737488355328) : Spec Try.prog 15 [.slice A p.length c, .slice B q.length d] [] [monoE.sl (.slice A p.length c) p, monoE.sl (.slice B q.length d) q] (fun _ : Unit => .bool (sameB p q)) (fun _ => []) (fun _ => []) :=
  spec_below fun _ w hS h => same_any A B c d p q w (monos_of hS (h _ (.head _))).1 (monos_of hS (h _ (.tail _ (.head _)))).1 hp
end
theorem shown_spec : Spec Try.prog 12 [] [] [] (fun _ : Unit => .bool true) (fun _ => []) (fun _ => []) := spec_below fun _ w _ _ => shown_any w
theorem same_self (l : List Mono) : sameB l l = true := by
  rw [sameB_iff]
end Go.Proofs.Ytndjaogjkchpaaa
