/- General lemmas for walks (no program): what is kept in worlds that lie further on; a region that draws its order and whose operations read, or call what only makes memory. -/
import Derived.WalkKit
import Derived.Lib.Bytealg
import Derived.WalkSpells
import Derived.WalkLawsBesides
import Derived.Handy
import Derived.Deep.QuietTactic
import Derived.Deep.Light
import Derived.BigQuiet
import Derived.Deep.Draws
import Derived.Lib.Hide
import Derived.Deep.RegionHeld3
import Derived.Deep.DeepFit
import Derived.Deep.DeepMust
namespace Go.Proofs.YtngkedmndhmjcaaGreatDoor
open Go.RowKit

theorem ret_int {k : IntKind} {a b : Int} (h : a = b) : Ending.returned (.int k a) = .returned (.int k b) := by rw [h]
theorem ret_bool {a b : Bool} (h : a = b) : Ending.returned (.bool a) = .returned (.bool b) := by rw [h]
theorem below_drewN {B : Nat} {a w : World} (h : Below B a w) (n : Nat) : Below B a (w.drewN n) := ⟨h.os, h.tape, h.output, h.size, h.block⟩

/-- a contract of a function that only makes memory, told of a world further back -/
theorem calls_rel {P : Program} {f : FuncId} {args : Array Value} {v : Value} (h : ∀ W, Calls P f args W fun e w' => e = .returned v ∧ Below W.heap.size W w') (W0 : World) :
    ∀ W, Below W0.heap.size W0 W → Calls P f args W fun e w' => e = .returned v ∧ Below W0.heap.size W0 w' :=
  fun W hb => (h W).mono fun _ _ ⟨he, hb'⟩ => ⟨he, hb.trans (hb'.mono hb.size)⟩


/-- a world further on: all that was there is as it was -/
structure Later (W : World) where
  w : World
  h : Below W.heap.size W w

instance (W : World) : Nonempty (Later W) := ⟨⟨W, Below.refl _ _⟩⟩

theorem Later.of {W w : World} (h : Below W.heap.size W w) : ∃ x : Later W, w = x.w := ⟨⟨w, h⟩, rfl⟩

theorem Later.cell {W : World} {b o : Nat} {v : Value} (h : W.cell? ⟨b, o, none⟩ = some v) : ∀ x : Later W, x.w.cell? ⟨b, o, none⟩ = some v := fun x => by
  have hb : b < W.heap.size := by
    rcases Nat.lt_or_ge b W.heap.size with hlt | hge
    · exact hlt
    · simp [World.cell?, Array.getElem?_eq_none hge] at h
  exact (x.h.cell (p := ⟨b, o, none⟩) hb).trans h

/-- a contract of a function that only makes memory, in a world further on -/
theorem Later.calls {P : Program} {f : FuncId} {args : Array Value} {v : Value} {W0 : World} (h : ∀ W, Below W0.heap.size W0 W → Calls P f args W fun e w' => e = .returned v ∧ Below W.heap.size W w') :
    ∀ x : Later W0, Calls P f args x.w fun e w' => e = .returned v ∧ ∃ y : Later W0, w' = y.w :=
  fun x => (h x.w x.h).mono fun _ _ ⟨he, hb⟩ => ⟨he, Later.of (x.h.trans (hb.mono x.h.size))⟩

theorem wp_region_later {P : Program} {id : Nat} {Q : Exit → Act → World → Prop} {a : Act} {w : World} {l : List Oper} (hm : P.follows .mixedOrders = true) (hB : Region.lexB .any l.toArray = true)
    (h : wpQuiet P l.toArray (fun w' => ∃ x : Later w, w' = x.w) (fun a' => ∀ w', (∃ x : Later w, w' = x.w) → Q .normal a' w') l a) : (Code.region id l.toArray true).wp P Q a w :=
  wp_region_quiet (C := fun w' => ∃ x : Later w, w' = x.w) hm hB (Later.of (Below.refl _ _).drew) (by simpa using h)

end Go.Proofs.YtngkedmndhmjcaaGreatDoor
