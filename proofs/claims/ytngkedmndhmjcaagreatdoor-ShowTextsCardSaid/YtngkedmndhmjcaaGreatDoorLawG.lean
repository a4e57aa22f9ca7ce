/- From a walk to a statement, for any law that returns true and only makes memory (no function of the program named). -/
import Derived.Test.YtngkedmndhmjcaaGreatDoorKit
import Derived.Test.YtngkedmndhmjcaaGreatDoorMore
import Derived.Test.YtngkedmndhmjcaaGreatDoorLaid
import Derived.ProofKit
import Derived.OpenShut
import Derived.Carry
import Derived.SizedLaws
namespace Go.Proofs.YtngkedmndhmjcaaGreatDoor
open Go.RowKit Go.ChangeShapes Go.WideShapes

section
variable {H : Type} {enc : TypeId × Value → H} {P : Program}

/-- what was read of the arguments is read of them behind a call that only makes memory -/
theorem trodAll_later (hl : laidOutB P = true) {W W' : World} (hb : Below W.heap.size W W') : ∀ {ts : List TypeId} {vs : List Value} {ds : List (DataW H)} {ps : List MemPlace},
    (∀ t ∈ ts, P.readableRec t = true ∧ t < P.types.size) → (∀ x ∈ ps, x.block < W.heap.size) → DataW.TrodAll enc P W 0 (fun _ => true) true ts vs ds ps →
    DataW.TrodAll enc P W' 0 (fun b => decide (b < W.heap.size)) true ts vs ds ps
  | [], _, _, _, _, _, h => by
    obtain ⟨rfl, rfl, rfl⟩ := trodAll_nil h
    exact trodAll_mk0
  | t :: ts, _, _, _, ht, hlt, h => by
    obtain ⟨v, vs, d, ds, p, q, rfl, rfl, rfl, h1, h2⟩ := trodAll_cons h
    have hr := ht t (by simp)
    exact trodAll_cons_mk (Below.trod hl hr.1 hr.2 h1 hb (fun x hx => hlt x (by simp [hx]))) (trodAll_later hl hb (fun t h => ht t (by simp [h])) (fun x hx => hlt x (by simp [hx])) h2)

theorem law_post {f : Func} {s : ChangeSpec} {W W' : World} {args : Array Value} {ds : List (DataW H)} {before : List MemPlace} {tb : TypeId}
    (hW : DataW.Whole enc P f.params.toList s.vars false W args.toList ds [] before) (hv : s.vars = []) (hfn : s.fn H (ds ++ []) = { results := [.lit (.bool true)], args := ds })
    (hr : f.resultTypes = #[tb]) (hb : P.underlying tb = some .bool) (hl : laidOutB P = true) (hread : ∀ t ∈ f.params.toList, P.readableRec t = true ∧ t < P.types.size) (h : Below W.heap.size W W') :
    s.post enc P f false true false false W args (.bool true) W' := by
  have hlt : ∀ p ∈ before, p.block < W.heap.size := fun p hp => hW.lt p hp
  have hW' := hW
  obtain ⟨p, q, hA, hV, rfl, _, _⟩ := hW
  rw [hv] at hV
  have hq : q = [] := hV
  subst hq
  refine ⟨ds, [], _, [], p, [], hW', ?_, ?_, ?_, ?_, fun h => by cases h⟩
  · rw [hfn, hr]
    exact trodAll_mk1 (shut_bool hb true)
  · rw [hfn]
    exact trodAll_later hl h hread (fun x hx => hlt x (by simp [hx])) hA
  · rw [hfn, hv]
    rfl
  · exact h.frame _
end

/-- from the engine to a walk -/
theorem calls_of_spec {ι : Type} {f : FuncId} {args : List Value} {Pre : List Fact} {v : Value} (h : Spec Tryz.prog f args [] Pre (fun _ : ι => v) (fun _ => []) (fun _ => [])) {w : World} (hp : All Pre (fun b => b < w.heap.size) w) :
    Calls Tryz.prog f args.toArray w fun e w' => e = .returned v ∧ Below w.heap.size w w' := by
  refine (h (fun b => b < w.heap.size) w ⟨Kept.refl _ _, fun c hc => by simp at hc, fun c hc => by simp at hc, List.Pairwise.nil, fun b hb => ⟨hb, .inl hb⟩⟩ hp).mono ?_
  rintro e w' ⟨_, _, rfl, s, _⟩
  refine ⟨rfl, s.kept.os, s.kept.tape, s.kept.output, s.kept.size, fun k hk => s.kept.block k hk fun ⟨c, hc, _⟩ => by simp at hc⟩

theorem own : ownKnob Tryz.prog.godebug = none := by kernel_rfl
theorem laid : laidOutB Tryz.prog = true := by kernel_rfl
end Go.Proofs.YtngkedmndhmjcaaGreatDoor
