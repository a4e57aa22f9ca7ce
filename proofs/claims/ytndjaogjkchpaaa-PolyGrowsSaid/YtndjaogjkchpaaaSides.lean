/- The struct Sides of windrowlaw02. (Printed by wip/gen/ty_sides.py.) -/
import Derived.Test.YtndjaogjkchpaaaOpen
import Derived.Test.YtndjaogjkchpaaaRows
namespace Go.Proofs.Ytndjaogjkchpaaa
open Go.RowKit Go.ChangeShapes Go.WideShapes

structure SidesV where
  dims : (Sl Int)
  more : (Sl Int)
  deriving Inhabited
def sidesE : Flat SidesV where
  size := 2
  cells := fun x => [.slice x.dims.addr x.dims.list.length x.dims.cap, .slice x.more.addr x.more.list.length x.more.cap]
  len := fun _ => rfl
  one := fun x u hu => by
    simp at hu
    rcases hu with rfl | rfl <;> rfl
  pos := by decide
def sidesTy : Ty SidesV := ⟨sidesE, fun x => (((intTy.slice 8)).deep x.dims).and ((((intTy.slice 8)).deep x.more).and (Fact.true))⟩
theorem Has.sides_dims {F : List Fact} {x : SidesV} (h : Has F (sidesTy.deep x)) : Has F (((intTy.slice 8)).deep x.dims) := h.left
theorem Has.sides_more {F : List Fact} {x : SidesV} (h : Has F (sidesTy.deep x)) : Has F (((intTy.slice 8)).deep x.more) := h.right.left
theorem opens_sides {H : Type} {enc : TypeId × Value → H} {w : World} : Opens enc Try.prog w 35 sidesE.cells sidesTy.deep := fun fuel cs x h hw => by
  obtain ⟨xs, n, _, rfl, hlen, hxl, hf⟩ := DataW.trod_struct Try.underlying35 h
  have hc : Try.prog.cellsOf 35 = 2 := by kernel_rfl
  rw [hc] at hlen
  have hxl' : xs.length = 2 := hxl
  match cs, hlen with
  | [c0, c1], _ =>
    have h0 : DataW.trod enc Try.prog w 0 (fun _ => true) true n 28 (([c0, c1].drop 0).take (Try.prog.cellsOf 28)) = xs[0]? := hf 0 _ rfl
    have h1 : DataW.trod enc Try.prog w 0 (fun _ => true) true n 28 (([c0, c1].drop 1).take (Try.prog.cellsOf 28)) = xs[1]? := hf 1 _ rfl
    rw [List.getElem?_eq_getElem (by omega)] at h0
    obtain ⟨a0, e0, d0⟩ := (opens_slice' (T := intTy) (b := 8) Try.underlying28 (by kernel_rfl) (by kernel_rfl) (opens_int Try.underlying2)) _ _ _ h0 (struct_weights Try.underlying35 hw (j := 0) rfl (by rw [List.getElem?_map, List.getElem?_eq_getElem (by omega)]; rfl))
    have q0 : [c0] = [.slice a0.addr a0.list.length a0.cap] := by
      have hk : Try.prog.cellsOf 28 = 1 := by kernel_rfl
      rw [hk] at e0
      exact e0
    clear e0
    simp only [List.cons.injEq, and_true] at q0
    rw [List.getElem?_eq_getElem (by omega)] at h1
    obtain ⟨a1, e1, d1⟩ := (opens_slice' (T := intTy) (b := 8) Try.underlying28 (by kernel_rfl) (by kernel_rfl) (opens_int Try.underlying2)) _ _ _ h1 (struct_weights Try.underlying35 hw (j := 1) rfl (by rw [List.getElem?_map, List.getElem?_eq_getElem (by omega)]; rfl))
    have q1 : [c1] = [.slice a1.addr a1.list.length a1.cap] := by
      have hk : Try.prog.cellsOf 28 = 1 := by kernel_rfl
      rw [hk] at e1
      exact e1
    clear e1
    simp only [List.cons.injEq, and_true] at q1
    obtain rfl := q0
    obtain rfl := q1
    exact ⟨⟨a0, a1⟩, rfl, d0, d1, trivial⟩
end Go.Proofs.Ytndjaogjkchpaaa
