/- The types of the layers lex, parse, show. (Printed by wip/gen/ty_show.py.) -/
import Derived.Test.YtngkedmndhmjcaaGreatDoorFun
import Derived.Test.YtngkedmndhmjcaaGreatDoorRows
namespace Go.Proofs.YtngkedmndhmjcaaGreatDoor
open Go.RowKit Go.ChangeShapes Go.WideShapes

def strE : Flat Bs where
  size := 1
  cells := fun x => [.string (bs x)]
  len := fun _ => rfl
  one := fun x u hu => by simp at hu; subst hu; rfl
  pos := by decide
def strTy : Ty Bs := ⟨strE, fun x => Fact.pure (x.length ≤ 140737488355328)⟩
structure TokV where
  kind : Int
  at_ : Int
  word : Bs
  n : Int
  deriving Inhabited
def tokE : Flat TokV where
  size := 4
  cells := fun x => [.int .i64 x.kind, .int .i64 x.at_, .string (bs x.word), .int .i64 x.n]
  len := fun _ => rfl
  one := fun x u hu => by
    simp at hu
    rcases hu with rfl | rfl | rfl | rfl <;> rfl
  pos := by decide
def tokTy : Ty TokV := ⟨tokE, fun x => (Fact.pure ((Lit.int .i64 x.kind).wf = true)).and ((Fact.pure ((Lit.int .i64 x.at_).wf = true)).and ((Fact.pure (x.word.length ≤ 140737488355328)).and ((Fact.pure ((Lit.int .i64 x.n).wf = true)).and (Fact.true))))⟩
theorem has_tok_kind {F : List Fact} {x : TokV} (h : Has F (tokTy.deep x)) : Has F (Fact.pure ((Lit.int .i64 x.kind).wf = true)) := h.left
theorem has_tok_at_ {F : List Fact} {x : TokV} (h : Has F (tokTy.deep x)) : Has F (Fact.pure ((Lit.int .i64 x.at_).wf = true)) := h.right.left
theorem has_tok_word {F : List Fact} {x : TokV} (h : Has F (tokTy.deep x)) : Has F (Fact.pure (x.word.length ≤ 140737488355328)) := h.right.right.left
theorem has_tok_n {F : List Fact} {x : TokV} (h : Has F (tokTy.deep x)) : Has F (Fact.pure ((Lit.int .i64 x.n).wf = true)) := h.right.right.right.left
set_option maxRecDepth 100000 in
theorem opens_tok {H : Type} {enc : TypeId × Value → H} {w : World} : Opens enc Tryz.prog w 54 tokE.cells tokTy.deep := fun fuel cs x h hw => by
  obtain ⟨xs, n, _, rfl, hlen, hxl, hf⟩ := DataW.trod_struct Tryz.underlying54 h
  have hc : Tryz.prog.cellsOf 54 = 4 := by kernel_rfl
  rw [hc] at hlen
  have hxl' : xs.length = 4 := hxl
  match cs, hlen with
  | [c0, c1, c2, c3], _ =>
    have h0 : DataW.trod enc Tryz.prog w 0 (fun _ => true) true n 3 (([c0, c1, c2, c3].drop 0).take (Tryz.prog.cellsOf 3)) = xs[0]? := hf 0 _ rfl
    have h1 : DataW.trod enc Tryz.prog w 0 (fun _ => true) true n 3 (([c0, c1, c2, c3].drop 1).take (Tryz.prog.cellsOf 3)) = xs[1]? := hf 1 _ rfl
    have h2 : DataW.trod enc Tryz.prog w 0 (fun _ => true) true n 9 (([c0, c1, c2, c3].drop 2).take (Tryz.prog.cellsOf 9)) = xs[2]? := hf 2 _ rfl
    have h3 : DataW.trod enc Tryz.prog w 0 (fun _ => true) true n 2 (([c0, c1, c2, c3].drop 3).take (Tryz.prog.cellsOf 2)) = xs[3]? := hf 3 _ rfl
    rw [List.getElem?_eq_getElem (by omega)] at h0
    obtain ⟨a0, e0, d0⟩ := (opens_int Tryz.underlying3) _ _ _ h0 (struct_weights Tryz.underlying54 hw (j := 0) rfl (by rw [List.getElem?_map, List.getElem?_eq_getElem (by omega)]; rfl))
    have q0 : [c0] = [.int .i64 a0] := by
      have hk : Tryz.prog.cellsOf 3 = 1 := by kernel_rfl
      rw [hk] at e0
      exact e0
    clear e0
    simp only [List.cons.injEq, and_true] at q0
    rw [List.getElem?_eq_getElem (by omega)] at h1
    obtain ⟨a1, e1, d1⟩ := (opens_int Tryz.underlying3) _ _ _ h1 (struct_weights Tryz.underlying54 hw (j := 1) rfl (by rw [List.getElem?_map, List.getElem?_eq_getElem (by omega)]; rfl))
    have q1 : [c1] = [.int .i64 a1] := by
      have hk : Tryz.prog.cellsOf 3 = 1 := by kernel_rfl
      rw [hk] at e1
      exact e1
    clear e1
    simp only [List.cons.injEq, and_true] at q1
    rw [List.getElem?_eq_getElem (by omega)] at h2
    obtain ⟨a2, e2, d2⟩ := (opens_str Tryz.underlying9) _ _ _ h2 (struct_weights Tryz.underlying54 hw (j := 2) rfl (by rw [List.getElem?_map, List.getElem?_eq_getElem (by omega)]; rfl))
    have q2 : [c2] = [.string (bs a2)] := by
      have hk : Tryz.prog.cellsOf 9 = 1 := by kernel_rfl
      rw [hk] at e2
      exact e2
    clear e2
    simp only [List.cons.injEq, and_true] at q2
    rw [List.getElem?_eq_getElem (by omega)] at h3
    obtain ⟨a3, e3, d3⟩ := (opens_int Tryz.underlying2) _ _ _ h3 (struct_weights Tryz.underlying54 hw (j := 3) rfl (by rw [List.getElem?_map, List.getElem?_eq_getElem (by omega)]; rfl))
    have q3 : [c3] = [.int .i64 a3] := by
      have hk : Tryz.prog.cellsOf 2 = 1 := by kernel_rfl
      rw [hk] at e3
      exact e3
    clear e3
    simp only [List.cons.injEq, and_true] at q3
    obtain rfl := q0
    obtain rfl := q1
    obtain rfl := q2
    obtain rfl := q3
    exact ⟨⟨a0, a1, a2, a3⟩, rfl, d0, d1, d2, d3, trivial⟩
structure FltV where
  at_ : Int
  code : Int
  deriving Inhabited
def fltE : Flat FltV where
  size := 2
  cells := fun x => [.int .i64 x.at_, .int .i64 x.code]
  len := fun _ => rfl
  one := fun x u hu => by
    simp at hu
    rcases hu with rfl | rfl <;> rfl
  pos := by decide
def fltTy : Ty FltV := ⟨fltE, fun x => (Fact.pure ((Lit.int .i64 x.at_).wf = true)).and ((Fact.pure ((Lit.int .i64 x.code).wf = true)).and (Fact.true))⟩
theorem has_flt_at_ {F : List Fact} {x : FltV} (h : Has F (fltTy.deep x)) : Has F (Fact.pure ((Lit.int .i64 x.at_).wf = true)) := h.left
theorem has_flt_code {F : List Fact} {x : FltV} (h : Has F (fltTy.deep x)) : Has F (Fact.pure ((Lit.int .i64 x.code).wf = true)) := h.right.left
set_option maxRecDepth 100000 in
theorem opens_flt {H : Type} {enc : TypeId × Value → H} {w : World} : Opens enc Tryz.prog w 32 fltE.cells fltTy.deep := fun fuel cs x h hw => by
  obtain ⟨xs, n, _, rfl, hlen, hxl, hf⟩ := DataW.trod_struct Tryz.underlying32 h
  have hc : Tryz.prog.cellsOf 32 = 2 := by kernel_rfl
  rw [hc] at hlen
  have hxl' : xs.length = 2 := hxl
  match cs, hlen with
  | [c0, c1], _ =>
    have h0 : DataW.trod enc Tryz.prog w 0 (fun _ => true) true n 3 (([c0, c1].drop 0).take (Tryz.prog.cellsOf 3)) = xs[0]? := hf 0 _ rfl
    have h1 : DataW.trod enc Tryz.prog w 0 (fun _ => true) true n 28 (([c0, c1].drop 1).take (Tryz.prog.cellsOf 28)) = xs[1]? := hf 1 _ rfl
    rw [List.getElem?_eq_getElem (by omega)] at h0
    obtain ⟨a0, e0, d0⟩ := (opens_int Tryz.underlying3) _ _ _ h0 (struct_weights Tryz.underlying32 hw (j := 0) rfl (by rw [List.getElem?_map, List.getElem?_eq_getElem (by omega)]; rfl))
    have q0 : [c0] = [.int .i64 a0] := by
      have hk : Tryz.prog.cellsOf 3 = 1 := by kernel_rfl
      rw [hk] at e0
      exact e0
    clear e0
    simp only [List.cons.injEq, and_true] at q0
    rw [List.getElem?_eq_getElem (by omega)] at h1
    obtain ⟨a1, e1, d1⟩ := (opens_int Tryz.underlying28) _ _ _ h1 (struct_weights Tryz.underlying32 hw (j := 1) rfl (by rw [List.getElem?_map, List.getElem?_eq_getElem (by omega)]; rfl))
    have q1 : [c1] = [.int .i64 a1] := by
      have hk : Tryz.prog.cellsOf 28 = 1 := by kernel_rfl
      rw [hk] at e1
      exact e1
    clear e1
    simp only [List.cons.injEq, and_true] at q1
    obtain rfl := q0
    obtain rfl := q1
    exact ⟨⟨a0, a1⟩, rfl, d0, d1, trivial⟩
structure SideV where
  name : Bs
  n : Int
  deriving Inhabited
def sideE : Flat SideV where
  size := 2
  cells := fun x => [.string (bs x.name), .int .i64 x.n]
  len := fun _ => rfl
  one := fun x u hu => by
    simp at hu
    rcases hu with rfl | rfl <;> rfl
  pos := by decide
def sideTy : Ty SideV := ⟨sideE, fun x => (Fact.pure (x.name.length ≤ 140737488355328)).and ((Fact.pure ((Lit.int .i64 x.n).wf = true)).and (Fact.true))⟩
theorem has_side_name {F : List Fact} {x : SideV} (h : Has F (sideTy.deep x)) : Has F (Fact.pure (x.name.length ≤ 140737488355328)) := h.left
theorem has_side_n {F : List Fact} {x : SideV} (h : Has F (sideTy.deep x)) : Has F (Fact.pure ((Lit.int .i64 x.n).wf = true)) := h.right.left
set_option maxRecDepth 100000 in
theorem opens_side {H : Type} {enc : TypeId × Value → H} {w : World} : Opens enc Tryz.prog w 61 sideE.cells sideTy.deep := fun fuel cs x h hw => by
  obtain ⟨xs, n, _, rfl, hlen, hxl, hf⟩ := DataW.trod_struct Tryz.underlying61 h
  have hc : Tryz.prog.cellsOf 61 = 2 := by kernel_rfl
  rw [hc] at hlen
  have hxl' : xs.length = 2 := hxl
  match cs, hlen with
  | [c0, c1], _ =>
    have h0 : DataW.trod enc Tryz.prog w 0 (fun _ => true) true n 9 (([c0, c1].drop 0).take (Tryz.prog.cellsOf 9)) = xs[0]? := hf 0 _ rfl
    have h1 : DataW.trod enc Tryz.prog w 0 (fun _ => true) true n 2 (([c0, c1].drop 1).take (Tryz.prog.cellsOf 2)) = xs[1]? := hf 1 _ rfl
    rw [List.getElem?_eq_getElem (by omega)] at h0
    obtain ⟨a0, e0, d0⟩ := (opens_str Tryz.underlying9) _ _ _ h0 (struct_weights Tryz.underlying61 hw (j := 0) rfl (by rw [List.getElem?_map, List.getElem?_eq_getElem (by omega)]; rfl))
    have q0 : [c0] = [.string (bs a0)] := by
      have hk : Tryz.prog.cellsOf 9 = 1 := by kernel_rfl
      rw [hk] at e0
      exact e0
    clear e0
    simp only [List.cons.injEq, and_true] at q0
    rw [List.getElem?_eq_getElem (by omega)] at h1
    obtain ⟨a1, e1, d1⟩ := (opens_int Tryz.underlying2) _ _ _ h1 (struct_weights Tryz.underlying61 hw (j := 1) rfl (by rw [List.getElem?_map, List.getElem?_eq_getElem (by omega)]; rfl))
    have q1 : [c1] = [.int .i64 a1] := by
      have hk : Tryz.prog.cellsOf 2 = 1 := by kernel_rfl
      rw [hk] at e1
      exact e1
    clear e1
    simp only [List.cons.injEq, and_true] at q1
    obtain rfl := q0
    obtain rfl := q1
    exact ⟨⟨a0, a1⟩, rfl, d0, d1, trivial⟩
structure InputV where
  name : Bs
  at_ : Int
  sides : (Sl SideV)
  deriving Inhabited
def inputE : Flat InputV where
  size := 3
  cells := fun x => [.string (bs x.name), .int .i64 x.at_, .slice x.sides.addr x.sides.list.length x.sides.cap]
  len := fun _ => rfl
  one := fun x u hu => by
    simp at hu
    rcases hu with rfl | rfl | rfl <;> rfl
  pos := by decide
def inputTy : Ty InputV := ⟨inputE, fun x => (Fact.pure (x.name.length ≤ 140737488355328)).and ((Fact.pure ((Lit.int .i64 x.at_).wf = true)).and ((((sideTy.slice 24)).deep x.sides).and (Fact.true)))⟩
theorem has_input_name {F : List Fact} {x : InputV} (h : Has F (inputTy.deep x)) : Has F (Fact.pure (x.name.length ≤ 140737488355328)) := h.left
theorem has_input_at_ {F : List Fact} {x : InputV} (h : Has F (inputTy.deep x)) : Has F (Fact.pure ((Lit.int .i64 x.at_).wf = true)) := h.right.left
theorem has_input_sides {F : List Fact} {x : InputV} (h : Has F (inputTy.deep x)) : Has F (((sideTy.slice 24)).deep x.sides) := h.right.right.left
set_option maxRecDepth 100000 in
theorem opens_input {H : Type} {enc : TypeId × Value → H} {w : World} : Opens enc Tryz.prog w 59 inputE.cells inputTy.deep := fun fuel cs x h hw => by
  obtain ⟨xs, n, _, rfl, hlen, hxl, hf⟩ := DataW.trod_struct Tryz.underlying59 h
  have hc : Tryz.prog.cellsOf 59 = 3 := by kernel_rfl
  rw [hc] at hlen
  have hxl' : xs.length = 3 := hxl
  match cs, hlen with
  | [c0, c1, c2], _ =>
    have h0 : DataW.trod enc Tryz.prog w 0 (fun _ => true) true n 9 (([c0, c1, c2].drop 0).take (Tryz.prog.cellsOf 9)) = xs[0]? := hf 0 _ rfl
    have h1 : DataW.trod enc Tryz.prog w 0 (fun _ => true) true n 3 (([c0, c1, c2].drop 1).take (Tryz.prog.cellsOf 3)) = xs[1]? := hf 1 _ rfl
    have h2 : DataW.trod enc Tryz.prog w 0 (fun _ => true) true n 57 (([c0, c1, c2].drop 2).take (Tryz.prog.cellsOf 57)) = xs[2]? := hf 2 _ rfl
    rw [List.getElem?_eq_getElem (by omega)] at h0
    obtain ⟨a0, e0, d0⟩ := (opens_str Tryz.underlying9) _ _ _ h0 (struct_weights Tryz.underlying59 hw (j := 0) rfl (by rw [List.getElem?_map, List.getElem?_eq_getElem (by omega)]; rfl))
    have q0 : [c0] = [.string (bs a0)] := by
      have hk : Tryz.prog.cellsOf 9 = 1 := by kernel_rfl
      rw [hk] at e0
      exact e0
    clear e0
    simp only [List.cons.injEq, and_true] at q0
    rw [List.getElem?_eq_getElem (by omega)] at h1
    obtain ⟨a1, e1, d1⟩ := (opens_int Tryz.underlying3) _ _ _ h1 (struct_weights Tryz.underlying59 hw (j := 1) rfl (by rw [List.getElem?_map, List.getElem?_eq_getElem (by omega)]; rfl))
    have q1 : [c1] = [.int .i64 a1] := by
      have hk : Tryz.prog.cellsOf 3 = 1 := by kernel_rfl
      rw [hk] at e1
      exact e1
    clear e1
    simp only [List.cons.injEq, and_true] at q1
    rw [List.getElem?_eq_getElem (by omega)] at h2
    obtain ⟨a2, e2, d2⟩ := (opens_slice' (T := sideTy) (b := 24) Tryz.underlying57 (by kernel_rfl) (by kernel_rfl) opens_side) _ _ _ h2 (struct_weights Tryz.underlying59 hw (j := 2) rfl (by rw [List.getElem?_map, List.getElem?_eq_getElem (by omega)]; rfl))
    have q2 : [c2] = [.slice a2.addr a2.list.length a2.cap] := by
      have hk : Tryz.prog.cellsOf 57 = 1 := by kernel_rfl
      rw [hk] at e2
      exact e2
    clear e2
    simp only [List.cons.injEq, and_true] at q2
    obtain rfl := q0
    obtain rfl := q1
    obtain rfl := q2
    exact ⟨⟨a0, a1, a2⟩, rfl, d0, d1, d2, trivial⟩
structure ItemV where
  how : Int
  at_ : Int
  fn : Int
  name : Bs
  nums : (Sl Int)
  deriving Inhabited
def itemE : Flat ItemV where
  size := 5
  cells := fun x => [.int .i64 x.how, .int .i64 x.at_, .int .u8 x.fn, .string (bs x.name), .slice x.nums.addr x.nums.list.length x.nums.cap]
  len := fun _ => rfl
  one := fun x u hu => by
    simp at hu
    rcases hu with rfl | rfl | rfl | rfl | rfl <;> rfl
  pos := by decide
def itemTy : Ty ItemV := ⟨itemE, fun x => (Fact.pure ((Lit.int .i64 x.how).wf = true)).and ((Fact.pure ((Lit.int .i64 x.at_).wf = true)).and ((Fact.pure ((Lit.int .u8 x.fn).wf = true)).and ((Fact.pure (x.name.length ≤ 140737488355328)).and ((((intTy.slice 8)).deep x.nums).and (Fact.true)))))⟩
theorem has_item_how {F : List Fact} {x : ItemV} (h : Has F (itemTy.deep x)) : Has F (Fact.pure ((Lit.int .i64 x.how).wf = true)) := h.left
theorem has_item_at_ {F : List Fact} {x : ItemV} (h : Has F (itemTy.deep x)) : Has F (Fact.pure ((Lit.int .i64 x.at_).wf = true)) := h.right.left
theorem has_item_fn {F : List Fact} {x : ItemV} (h : Has F (itemTy.deep x)) : Has F (Fact.pure ((Lit.int .u8 x.fn).wf = true)) := h.right.right.left
theorem has_item_name {F : List Fact} {x : ItemV} (h : Has F (itemTy.deep x)) : Has F (Fact.pure (x.name.length ≤ 140737488355328)) := h.right.right.right.left
theorem has_item_nums {F : List Fact} {x : ItemV} (h : Has F (itemTy.deep x)) : Has F (((intTy.slice 8)).deep x.nums) := h.right.right.right.right.left
set_option maxRecDepth 100000 in
theorem opens_item {H : Type} {enc : TypeId × Value → H} {w : World} : Opens enc Tryz.prog w 46 itemE.cells itemTy.deep := fun fuel cs x h hw => by
  obtain ⟨xs, n, _, rfl, hlen, hxl, hf⟩ := DataW.trod_struct Tryz.underlying46 h
  have hc : Tryz.prog.cellsOf 46 = 5 := by kernel_rfl
  rw [hc] at hlen
  have hxl' : xs.length = 5 := hxl
  match cs, hlen with
  | [c0, c1, c2, c3, c4], _ =>
    have h0 : DataW.trod enc Tryz.prog w 0 (fun _ => true) true n 3 (([c0, c1, c2, c3, c4].drop 0).take (Tryz.prog.cellsOf 3)) = xs[0]? := hf 0 _ rfl
    have h1 : DataW.trod enc Tryz.prog w 0 (fun _ => true) true n 3 (([c0, c1, c2, c3, c4].drop 1).take (Tryz.prog.cellsOf 3)) = xs[1]? := hf 1 _ rfl
    have h2 : DataW.trod enc Tryz.prog w 0 (fun _ => true) true n 43 (([c0, c1, c2, c3, c4].drop 2).take (Tryz.prog.cellsOf 43)) = xs[2]? := hf 2 _ rfl
    have h3 : DataW.trod enc Tryz.prog w 0 (fun _ => true) true n 9 (([c0, c1, c2, c3, c4].drop 3).take (Tryz.prog.cellsOf 9)) = xs[3]? := hf 3 _ rfl
    have h4 : DataW.trod enc Tryz.prog w 0 (fun _ => true) true n 44 (([c0, c1, c2, c3, c4].drop 4).take (Tryz.prog.cellsOf 44)) = xs[4]? := hf 4 _ rfl
    rw [List.getElem?_eq_getElem (by omega)] at h0
    obtain ⟨a0, e0, d0⟩ := (opens_int Tryz.underlying3) _ _ _ h0 (struct_weights Tryz.underlying46 hw (j := 0) rfl (by rw [List.getElem?_map, List.getElem?_eq_getElem (by omega)]; rfl))
    have q0 : [c0] = [.int .i64 a0] := by
      have hk : Tryz.prog.cellsOf 3 = 1 := by kernel_rfl
      rw [hk] at e0
      exact e0
    clear e0
    simp only [List.cons.injEq, and_true] at q0
    rw [List.getElem?_eq_getElem (by omega)] at h1
    obtain ⟨a1, e1, d1⟩ := (opens_int Tryz.underlying3) _ _ _ h1 (struct_weights Tryz.underlying46 hw (j := 1) rfl (by rw [List.getElem?_map, List.getElem?_eq_getElem (by omega)]; rfl))
    have q1 : [c1] = [.int .i64 a1] := by
      have hk : Tryz.prog.cellsOf 3 = 1 := by kernel_rfl
      rw [hk] at e1
      exact e1
    clear e1
    simp only [List.cons.injEq, and_true] at q1
    rw [List.getElem?_eq_getElem (by omega)] at h2
    obtain ⟨a2, e2, d2⟩ := (opens_int Tryz.underlying43) _ _ _ h2 (struct_weights Tryz.underlying46 hw (j := 2) rfl (by rw [List.getElem?_map, List.getElem?_eq_getElem (by omega)]; rfl))
    have q2 : [c2] = [.int .u8 a2] := by
      have hk : Tryz.prog.cellsOf 43 = 1 := by kernel_rfl
      rw [hk] at e2
      exact e2
    clear e2
    simp only [List.cons.injEq, and_true] at q2
    rw [List.getElem?_eq_getElem (by omega)] at h3
    obtain ⟨a3, e3, d3⟩ := (opens_str Tryz.underlying9) _ _ _ h3 (struct_weights Tryz.underlying46 hw (j := 3) rfl (by rw [List.getElem?_map, List.getElem?_eq_getElem (by omega)]; rfl))
    have q3 : [c3] = [.string (bs a3)] := by
      have hk : Tryz.prog.cellsOf 9 = 1 := by kernel_rfl
      rw [hk] at e3
      exact e3
    clear e3
    simp only [List.cons.injEq, and_true] at q3
    rw [List.getElem?_eq_getElem (by omega)] at h4
    obtain ⟨a4, e4, d4⟩ := (opens_slice' (T := intTy) (b := 8) Tryz.underlying44 (by kernel_rfl) (by kernel_rfl) (opens_int Tryz.underlying2)) _ _ _ h4 (struct_weights Tryz.underlying46 hw (j := 4) rfl (by rw [List.getElem?_map, List.getElem?_eq_getElem (by omega)]; rfl))
    have q4 : [c4] = [.slice a4.addr a4.list.length a4.cap] := by
      have hk : Tryz.prog.cellsOf 44 = 1 := by kernel_rfl
      rw [hk] at e4
      exact e4
    clear e4
    simp only [List.cons.injEq, and_true] at q4
    obtain rfl := q0
    obtain rfl := q1
    obtain rfl := q2
    obtain rfl := q3
    obtain rfl := q4
    exact ⟨⟨a0, a1, a2, a3, a4⟩, rfl, d0, d1, d2, d3, d4, trivial⟩
structure LineV where
  name : Bs
  at_ : Int
  items : (Sl ItemV)
  deriving Inhabited
def lineE : Flat LineV where
  size := 3
  cells := fun x => [.string (bs x.name), .int .i64 x.at_, .slice x.items.addr x.items.list.length x.items.cap]
  len := fun _ => rfl
  one := fun x u hu => by
    simp at hu
    rcases hu with rfl | rfl | rfl <;> rfl
  pos := by decide
def lineTy : Ty LineV := ⟨lineE, fun x => (Fact.pure (x.name.length ≤ 140737488355328)).and ((Fact.pure ((Lit.int .i64 x.at_).wf = true)).and ((((itemTy.slice 64)).deep x.items).and (Fact.true)))⟩
theorem has_line_name {F : List Fact} {x : LineV} (h : Has F (lineTy.deep x)) : Has F (Fact.pure (x.name.length ≤ 140737488355328)) := h.left
theorem has_line_at_ {F : List Fact} {x : LineV} (h : Has F (lineTy.deep x)) : Has F (Fact.pure ((Lit.int .i64 x.at_).wf = true)) := h.right.left
theorem has_line_items {F : List Fact} {x : LineV} (h : Has F (lineTy.deep x)) : Has F (((itemTy.slice 64)).deep x.items) := h.right.right.left
set_option maxRecDepth 100000 in
theorem opens_line {H : Type} {enc : TypeId × Value → H} {w : World} : Opens enc Tryz.prog w 42 lineE.cells lineTy.deep := fun fuel cs x h hw => by
  obtain ⟨xs, n, _, rfl, hlen, hxl, hf⟩ := DataW.trod_struct Tryz.underlying42 h
  have hc : Tryz.prog.cellsOf 42 = 3 := by kernel_rfl
  rw [hc] at hlen
  have hxl' : xs.length = 3 := hxl
  match cs, hlen with
  | [c0, c1, c2], _ =>
    have h0 : DataW.trod enc Tryz.prog w 0 (fun _ => true) true n 9 (([c0, c1, c2].drop 0).take (Tryz.prog.cellsOf 9)) = xs[0]? := hf 0 _ rfl
    have h1 : DataW.trod enc Tryz.prog w 0 (fun _ => true) true n 3 (([c0, c1, c2].drop 1).take (Tryz.prog.cellsOf 3)) = xs[1]? := hf 1 _ rfl
    have h2 : DataW.trod enc Tryz.prog w 0 (fun _ => true) true n 40 (([c0, c1, c2].drop 2).take (Tryz.prog.cellsOf 40)) = xs[2]? := hf 2 _ rfl
    rw [List.getElem?_eq_getElem (by omega)] at h0
    obtain ⟨a0, e0, d0⟩ := (opens_str Tryz.underlying9) _ _ _ h0 (struct_weights Tryz.underlying42 hw (j := 0) rfl (by rw [List.getElem?_map, List.getElem?_eq_getElem (by omega)]; rfl))
    have q0 : [c0] = [.string (bs a0)] := by
      have hk : Tryz.prog.cellsOf 9 = 1 := by kernel_rfl
      rw [hk] at e0
      exact e0
    clear e0
    simp only [List.cons.injEq, and_true] at q0
    rw [List.getElem?_eq_getElem (by omega)] at h1
    obtain ⟨a1, e1, d1⟩ := (opens_int Tryz.underlying3) _ _ _ h1 (struct_weights Tryz.underlying42 hw (j := 1) rfl (by rw [List.getElem?_map, List.getElem?_eq_getElem (by omega)]; rfl))
    have q1 : [c1] = [.int .i64 a1] := by
      have hk : Tryz.prog.cellsOf 3 = 1 := by kernel_rfl
      rw [hk] at e1
      exact e1
    clear e1
    simp only [List.cons.injEq, and_true] at q1
    rw [List.getElem?_eq_getElem (by omega)] at h2
    obtain ⟨a2, e2, d2⟩ := (opens_slice' (T := itemTy) (b := 64) Tryz.underlying40 (by kernel_rfl) (by kernel_rfl) opens_item) _ _ _ h2 (struct_weights Tryz.underlying42 hw (j := 2) rfl (by rw [List.getElem?_map, List.getElem?_eq_getElem (by omega)]; rfl))
    have q2 : [c2] = [.slice a2.addr a2.list.length a2.cap] := by
      have hk : Tryz.prog.cellsOf 40 = 1 := by kernel_rfl
      rw [hk] at e2
      exact e2
    clear e2
    simp only [List.cons.injEq, and_true] at q2
    obtain rfl := q0
    obtain rfl := q1
    obtain rfl := q2
    exact ⟨⟨a0, a1, a2⟩, rfl, d0, d1, d2, trivial⟩
structure ProgV where
  inputs : (Sl InputV)
  lines : (Sl LineV)
  deriving Inhabited
def progE : Flat ProgV where
  size := 2
  cells := fun x => [.slice x.inputs.addr x.inputs.list.length x.inputs.cap, .slice x.lines.addr x.lines.list.length x.lines.cap]
  len := fun _ => rfl
  one := fun x u hu => by
    simp at hu
    rcases hu with rfl | rfl <;> rfl
  pos := by decide
def progTy : Ty ProgV := ⟨progE, fun x => (((inputTy.slice 48)).deep x.inputs).and ((((lineTy.slice 48)).deep x.lines).and (Fact.true))⟩
theorem has_prog_inputs {F : List Fact} {x : ProgV} (h : Has F (progTy.deep x)) : Has F (((inputTy.slice 48)).deep x.inputs) := h.left
theorem has_prog_lines {F : List Fact} {x : ProgV} (h : Has F (progTy.deep x)) : Has F (((lineTy.slice 48)).deep x.lines) := h.right.left
set_option maxRecDepth 100000 in
theorem opens_prog {H : Type} {enc : TypeId × Value → H} {w : World} : Opens enc Tryz.prog w 25 progE.cells progTy.deep := fun fuel cs x h hw => by
  obtain ⟨xs, n, _, rfl, hlen, hxl, hf⟩ := DataW.trod_struct Tryz.underlying25 h
  have hc : Tryz.prog.cellsOf 25 = 2 := by kernel_rfl
  rw [hc] at hlen
  have hxl' : xs.length = 2 := hxl
  match cs, hlen with
  | [c0, c1], _ =>
    have h0 : DataW.trod enc Tryz.prog w 0 (fun _ => true) true n 22 (([c0, c1].drop 0).take (Tryz.prog.cellsOf 22)) = xs[0]? := hf 0 _ rfl
    have h1 : DataW.trod enc Tryz.prog w 0 (fun _ => true) true n 23 (([c0, c1].drop 1).take (Tryz.prog.cellsOf 23)) = xs[1]? := hf 1 _ rfl
    rw [List.getElem?_eq_getElem (by omega)] at h0
    obtain ⟨a0, e0, d0⟩ := (opens_slice' (T := inputTy) (b := 48) Tryz.underlying22 (by kernel_rfl) (by kernel_rfl) opens_input) _ _ _ h0 (struct_weights Tryz.underlying25 hw (j := 0) rfl (by rw [List.getElem?_map, List.getElem?_eq_getElem (by omega)]; rfl))
    have q0 : [c0] = [.slice a0.addr a0.list.length a0.cap] := by
      have hk : Tryz.prog.cellsOf 22 = 1 := by kernel_rfl
      rw [hk] at e0
      exact e0
    clear e0
    simp only [List.cons.injEq, and_true] at q0
    rw [List.getElem?_eq_getElem (by omega)] at h1
    obtain ⟨a1, e1, d1⟩ := (opens_slice' (T := lineTy) (b := 48) Tryz.underlying23 (by kernel_rfl) (by kernel_rfl) opens_line) _ _ _ h1 (struct_weights Tryz.underlying25 hw (j := 1) rfl (by rw [List.getElem?_map, List.getElem?_eq_getElem (by omega)]; rfl))
    have q1 : [c1] = [.slice a1.addr a1.list.length a1.cap] := by
      have hk : Tryz.prog.cellsOf 23 = 1 := by kernel_rfl
      rw [hk] at e1
      exact e1
    clear e1
    simp only [List.cons.injEq, and_true] at q1
    obtain rfl := q0
    obtain rfl := q1
    exact ⟨⟨a0, a1⟩, rfl, d0, d1, trivial⟩
structure PLineV where
  toks : (Sl TokV)
  next : Int
  end_ : Int
  deriving Inhabited
def plineE : Flat PLineV where
  size := 3
  cells := fun x => [.slice x.toks.addr x.toks.list.length x.toks.cap, .int .i64 x.next, .int .i64 x.end_]
  len := fun _ => rfl
  one := fun x u hu => by
    simp at hu
    rcases hu with rfl | rfl | rfl <;> rfl
  pos := by decide
def plineTy : Ty PLineV := ⟨plineE, fun x => (((tokTy.slice 40)).deep x.toks).and ((Fact.pure ((Lit.int .i64 x.next).wf = true)).and ((Fact.pure ((Lit.int .i64 x.end_).wf = true)).and (Fact.true)))⟩
theorem has_pline_toks {F : List Fact} {x : PLineV} (h : Has F (plineTy.deep x)) : Has F (((tokTy.slice 40)).deep x.toks) := h.left
theorem has_pline_next {F : List Fact} {x : PLineV} (h : Has F (plineTy.deep x)) : Has F (Fact.pure ((Lit.int .i64 x.next).wf = true)) := h.right.left
theorem has_pline_end_ {F : List Fact} {x : PLineV} (h : Has F (plineTy.deep x)) : Has F (Fact.pure ((Lit.int .i64 x.end_).wf = true)) := h.right.right.left
set_option maxRecDepth 100000 in
theorem opens_pline {H : Type} {enc : TypeId × Value → H} {w : World} : Opens enc Tryz.prog w 52 plineE.cells plineTy.deep := fun fuel cs x h hw => by
  obtain ⟨xs, n, _, rfl, hlen, hxl, hf⟩ := DataW.trod_struct Tryz.underlying52 h
  have hc : Tryz.prog.cellsOf 52 = 3 := by kernel_rfl
  rw [hc] at hlen
  have hxl' : xs.length = 3 := hxl
  match cs, hlen with
  | [c0, c1, c2], _ =>
    have h0 : DataW.trod enc Tryz.prog w 0 (fun _ => true) true n 37 (([c0, c1, c2].drop 0).take (Tryz.prog.cellsOf 37)) = xs[0]? := hf 0 _ rfl
    have h1 : DataW.trod enc Tryz.prog w 0 (fun _ => true) true n 3 (([c0, c1, c2].drop 1).take (Tryz.prog.cellsOf 3)) = xs[1]? := hf 1 _ rfl
    have h2 : DataW.trod enc Tryz.prog w 0 (fun _ => true) true n 3 (([c0, c1, c2].drop 2).take (Tryz.prog.cellsOf 3)) = xs[2]? := hf 2 _ rfl
    rw [List.getElem?_eq_getElem (by omega)] at h0
    obtain ⟨a0, e0, d0⟩ := (opens_slice' (T := tokTy) (b := 40) Tryz.underlying37 (by kernel_rfl) (by kernel_rfl) opens_tok) _ _ _ h0 (struct_weights Tryz.underlying52 hw (j := 0) rfl (by rw [List.getElem?_map, List.getElem?_eq_getElem (by omega)]; rfl))
    have q0 : [c0] = [.slice a0.addr a0.list.length a0.cap] := by
      have hk : Tryz.prog.cellsOf 37 = 1 := by kernel_rfl
      rw [hk] at e0
      exact e0
    clear e0
    simp only [List.cons.injEq, and_true] at q0
    rw [List.getElem?_eq_getElem (by omega)] at h1
    obtain ⟨a1, e1, d1⟩ := (opens_int Tryz.underlying3) _ _ _ h1 (struct_weights Tryz.underlying52 hw (j := 1) rfl (by rw [List.getElem?_map, List.getElem?_eq_getElem (by omega)]; rfl))
    have q1 : [c1] = [.int .i64 a1] := by
      have hk : Tryz.prog.cellsOf 3 = 1 := by kernel_rfl
      rw [hk] at e1
      exact e1
    clear e1
    simp only [List.cons.injEq, and_true] at q1
    rw [List.getElem?_eq_getElem (by omega)] at h2
    obtain ⟨a2, e2, d2⟩ := (opens_int Tryz.underlying3) _ _ _ h2 (struct_weights Tryz.underlying52 hw (j := 2) rfl (by rw [List.getElem?_map, List.getElem?_eq_getElem (by omega)]; rfl))
    have q2 : [c2] = [.int .i64 a2] := by
      have hk : Tryz.prog.cellsOf 3 = 1 := by kernel_rfl
      rw [hk] at e2
      exact e2
    clear e2
    simp only [List.cons.injEq, and_true] at q2
    obtain rfl := q0
    obtain rfl := q1
    obtain rfl := q2
    exact ⟨⟨a0, a1, a2⟩, rfl, d0, d1, d2, trivial⟩
def showT : Tab := [(3, ⟨.int .i64, 1⟩), (2, ⟨.int .i64, 1⟩), (5, ⟨.int .u8, 1⟩), (9, ⟨.string, 1⟩), (4, ⟨.bool, 1⟩), (43, ⟨.int .u8, 1⟩), (28, ⟨.int .i64, 1⟩), (44, ⟨.slice 2, 1⟩), (88, ⟨.slice 9, 1⟩), (54, ⟨.struct [(3, 0), (3, 1), (9, 2), (2, 3)], 4⟩), (37, ⟨.slice 54, 1⟩), (32, ⟨.struct [(3, 0), (28, 1)], 2⟩), (61, ⟨.struct [(9, 0), (2, 1)], 2⟩), (57, ⟨.slice 61, 1⟩), (59, ⟨.struct [(9, 0), (3, 1), (57, 2)], 3⟩), (22, ⟨.slice 59, 1⟩), (46, ⟨.struct [(3, 0), (3, 1), (43, 2), (9, 3), (44, 4)], 5⟩), (40, ⟨.slice 46, 1⟩), (42, ⟨.struct [(9, 0), (3, 1), (40, 2)], 3⟩), (23, ⟨.slice 42, 1⟩), (25, ⟨.struct [(22, 0), (23, 1)], 2⟩), (52, ⟨.struct [(37, 0), (3, 1), (3, 2)], 3⟩), (50, ⟨.other, 1⟩), (102, ⟨.slice 1, 1⟩), (1, ⟨.other, 1⟩)]
theorem showT_ok : TabOk Tryz.prog showT := TabAll.ok
  ⟨⟨by rw [Tryz.underlying3]; rfl, by kernel_rfl⟩,
    ⟨by rw [Tryz.underlying2]; rfl, by kernel_rfl⟩,
    ⟨by rw [Tryz.underlying5]; rfl, by kernel_rfl⟩,
    ⟨by rw [Tryz.underlying9]; rfl, by kernel_rfl⟩,
    ⟨by rw [Tryz.underlying4]; rfl, by kernel_rfl⟩,
    ⟨by rw [Tryz.underlying43]; rfl, by kernel_rfl⟩,
    ⟨by rw [Tryz.underlying28]; rfl, by kernel_rfl⟩,
    ⟨by rw [Tryz.underlying44]; rfl, by kernel_rfl⟩,
    ⟨by rw [Tryz.underlying88]; rfl, by kernel_rfl⟩,
    ⟨by rw [Tryz.underlying54]; rfl, by kernel_rfl⟩,
    ⟨by rw [Tryz.underlying37]; rfl, by kernel_rfl⟩,
    ⟨by rw [Tryz.underlying32]; rfl, by kernel_rfl⟩,
    ⟨by rw [Tryz.underlying61]; rfl, by kernel_rfl⟩,
    ⟨by rw [Tryz.underlying57]; rfl, by kernel_rfl⟩,
    ⟨by rw [Tryz.underlying59]; rfl, by kernel_rfl⟩,
    ⟨by rw [Tryz.underlying22]; rfl, by kernel_rfl⟩,
    ⟨by rw [Tryz.underlying46]; rfl, by kernel_rfl⟩,
    ⟨by rw [Tryz.underlying40]; rfl, by kernel_rfl⟩,
    ⟨by rw [Tryz.underlying42]; rfl, by kernel_rfl⟩,
    ⟨by rw [Tryz.underlying23]; rfl, by kernel_rfl⟩,
    ⟨by rw [Tryz.underlying25]; rfl, by kernel_rfl⟩,
    ⟨by rw [Tryz.underlying52]; rfl, by kernel_rfl⟩,
    ⟨by rw [Tryz.underlying50]; rfl, by kernel_rfl⟩,
    ⟨by rw [Tryz.underlying102]; rfl, by kernel_rfl⟩,
    ⟨by rw [Tryz.underlying1]; rfl, by kernel_rfl⟩, trivial⟩
theorem tokInfo : ∃ i : TypeInfo, Tryz.prog.info? 54 = some i ∧ i.zero = some (.agg #[.int .i64 0, .int .i64 0, .string (bs []), .int .i64 0]) ∧ i.size = 4 ∧ i.bytes = 40 := by
  have h : (Tryz.prog.info? 54).map (fun i => (i.zero, i.size, i.bytes)) = some (some (.agg #[.int .i64 0, .int .i64 0, .string (bs []), .int .i64 0]), 4, 40) := by kernel_rfl
  cases hi : Tryz.prog.info? 54 with
  | none => simp [hi] at h
  | some i => simp [hi] at h; exact ⟨i, rfl, h.1, h.2.1, h.2.2⟩
theorem at_one_tok {β : Base} {n : Nat} {Γ : Env} {H : List Chunk} {F : List Fact} {Q : Exit → Act → World → Prop} {ops : Array Oper} {rest : List Oper} {o : Oper} {d : Nat} {x : Operand} {m : TokV} (hw : want ops Γ o = some true) (ho : o.op = .buildSlice 37 1 #[(0, x)]) (hd : o.dst = some d) (hn : Nat.blt d n = true)
    (hx : Γ.ev x = some (.agg #[.int .i64 m.kind, .int .i64 m.at_, .string (bs m.word), .int .i64 m.n])) (k : ∀ b, At β n ((d, .slice (some ⟨b, 0, none⟩) 1 1) :: Γ) (.obj b (.cells (tokE.all [m]).toArray 54) :: H) F (wpList Tryz.prog ops Q rest)) : At β n Γ H F (wpList Tryz.prog ops Q (o :: rest)) := by
  obtain ⟨i, hi, hz, hs, _⟩ := tokInfo
  refine at_build1 hw ho hd hn hx Tryz.underlying37 hi hz (by omega) (by omega) ?_ k
  rw [hs]
  kernel_rfl
theorem at_none_tok {β : Base} {n : Nat} {Γ : Env} {H : List Chunk} {F : List Fact} {Q : Exit → Act → World → Prop} {ops : Array Oper} {rest : List Oper} {o : Oper} {d : Nat} (hw : want ops Γ o = some true) (ho : o.op = .buildSlice 37 0 #[]) (hd : o.dst = some d) (hn : Nat.blt d n = true)
    (k : ∀ b, At β n ((d, .slice (some ⟨b, 0, none⟩) 0 0) :: Γ) (tokE.row (.slice (some ⟨b, 0, none⟩) 0 0) 54 [] :: H) F (wpList Tryz.prog ops Q rest)) : At β n Γ H F (wpList Tryz.prog ops Q (o :: rest)) := by
  obtain ⟨i, hi, _⟩ := tokInfo
  exact at_build0 tokE hw ho hd hn Tryz.underlying37 hi k
theorem at_app_tok {β : Base} {n : Nat} {Γ : Env} {H : List Chunk} {F : List Fact} {Q : Exit → Act → World → Prop} {ops : Array Oper} {rest : List Oper} {o : Oper} {d : Nat} {x y : Operand} {c q : Nat} {v : Value} {A : Option Addr} {xs ys : List TokV} {H' : List Chunk} (hH : Take H (tokE.row v 54 xs) H') (hr : Reads β H F tokE A ys) (hg : o.guard = none)
    (ho : o.op = .call { callee := .builtin .append, args := #[x, y], argTypes := #[37, 37] }) (hd : o.dst = some d) (hn : Nat.blt d n = true)
    (hx : Γ.ev x = some v) (hy : Γ.ev y = some (.slice A q c)) (hq : q = ys.length) (hl : xs.length + ys.length ≤ 3518437208883)
    (k : ∀ A' cap', At β n ((d, .slice A' (xs ++ ys).length cap') :: Γ) (tokE.row (.slice A' (xs ++ ys).length cap') 54 (xs ++ ys) :: H') F (wpList Tryz.prog ops Q rest)) : At β n Γ H F (wpList Tryz.prog ops Q (o :: rest)) := by
  obtain ⟨i, hi, hz, hs, hb⟩ := tokInfo
  exact at_append_all hH hr hg ho hd hn Tryz.underlying37 hi hz hs hb rfl hx hy hq (by omega) (by decide) k
theorem intInfo : ∃ i : TypeInfo, Tryz.prog.info? 2 = some i ∧ i.zero = some (.int .i64 0) ∧ i.size = 1 ∧ i.bytes = 8 := by
  have h : (Tryz.prog.info? 2).map (fun i => (i.zero, i.size, i.bytes)) = some (some (.int .i64 0), 1, 8) := by kernel_rfl
  cases hi : Tryz.prog.info? 2 with
  | none => simp [hi] at h
  | some i => simp [hi] at h; exact ⟨i, rfl, h.1, h.2.1, h.2.2⟩
theorem at_one_int {β : Base} {n : Nat} {Γ : Env} {H : List Chunk} {F : List Fact} {Q : Exit → Act → World → Prop} {ops : Array Oper} {rest : List Oper} {o : Oper} {d : Nat} {x : Operand} {m : Int} (hw : want ops Γ o = some true) (ho : o.op = .buildSlice 44 1 #[(0, x)]) (hd : o.dst = some d) (hn : Nat.blt d n = true)
    (hx : Γ.ev x = some (.int .i64 m)) (k : ∀ b, At β n ((d, .slice (some ⟨b, 0, none⟩) 1 1) :: Γ) (.obj b (.cells (intE.all [m]).toArray 2) :: H) F (wpList Tryz.prog ops Q rest)) : At β n Γ H F (wpList Tryz.prog ops Q (o :: rest)) := by
  obtain ⟨i, hi, hz, hs, _⟩ := intInfo
  refine at_build1 hw ho hd hn hx Tryz.underlying44 hi hz (by omega) (by omega) ?_ k
  rw [hs]
  kernel_rfl
theorem at_none_int {β : Base} {n : Nat} {Γ : Env} {H : List Chunk} {F : List Fact} {Q : Exit → Act → World → Prop} {ops : Array Oper} {rest : List Oper} {o : Oper} {d : Nat} (hw : want ops Γ o = some true) (ho : o.op = .buildSlice 44 0 #[]) (hd : o.dst = some d) (hn : Nat.blt d n = true)
    (k : ∀ b, At β n ((d, .slice (some ⟨b, 0, none⟩) 0 0) :: Γ) (intE.row (.slice (some ⟨b, 0, none⟩) 0 0) 2 [] :: H) F (wpList Tryz.prog ops Q rest)) : At β n Γ H F (wpList Tryz.prog ops Q (o :: rest)) := by
  obtain ⟨i, hi, _⟩ := intInfo
  exact at_build0 intE hw ho hd hn Tryz.underlying44 hi k
theorem at_app_int {β : Base} {n : Nat} {Γ : Env} {H : List Chunk} {F : List Fact} {Q : Exit → Act → World → Prop} {ops : Array Oper} {rest : List Oper} {o : Oper} {d : Nat} {x y : Operand} {c q : Nat} {v : Value} {A : Option Addr} {xs ys : List Int} {H' : List Chunk} (hH : Take H (intE.row v 2 xs) H') (hr : Reads β H F intE A ys) (hg : o.guard = none)
    (ho : o.op = .call { callee := .builtin .append, args := #[x, y], argTypes := #[44, 44] }) (hd : o.dst = some d) (hn : Nat.blt d n = true)
    (hx : Γ.ev x = some v) (hy : Γ.ev y = some (.slice A q c)) (hq : q = ys.length) (hl : xs.length + ys.length ≤ 17592186044416)
    (k : ∀ A' cap', At β n ((d, .slice A' (xs ++ ys).length cap') :: Γ) (intE.row (.slice A' (xs ++ ys).length cap') 2 (xs ++ ys) :: H') F (wpList Tryz.prog ops Q rest)) : At β n Γ H F (wpList Tryz.prog ops Q (o :: rest)) := by
  obtain ⟨i, hi, hz, hs, hb⟩ := intInfo
  exact at_append_all hH hr hg ho hd hn Tryz.underlying44 hi hz hs hb rfl hx hy hq (by omega) (by decide) k
theorem strInfo : ∃ i : TypeInfo, Tryz.prog.info? 9 = some i ∧ i.zero = some (.string (bs [])) ∧ i.size = 1 ∧ i.bytes = 16 := by
  have h : (Tryz.prog.info? 9).map (fun i => (i.zero, i.size, i.bytes)) = some (some (.string (bs [])), 1, 16) := by kernel_rfl
  cases hi : Tryz.prog.info? 9 with
  | none => simp [hi] at h
  | some i => simp [hi] at h; exact ⟨i, rfl, h.1, h.2.1, h.2.2⟩
theorem at_one_str {β : Base} {n : Nat} {Γ : Env} {H : List Chunk} {F : List Fact} {Q : Exit → Act → World → Prop} {ops : Array Oper} {rest : List Oper} {o : Oper} {d : Nat} {x : Operand} {m : Bs} (hw : want ops Γ o = some true) (ho : o.op = .buildSlice 88 1 #[(0, x)]) (hd : o.dst = some d) (hn : Nat.blt d n = true)
    (hx : Γ.ev x = some (.string (bs m))) (k : ∀ b, At β n ((d, .slice (some ⟨b, 0, none⟩) 1 1) :: Γ) (.obj b (.cells (strE.all [m]).toArray 9) :: H) F (wpList Tryz.prog ops Q rest)) : At β n Γ H F (wpList Tryz.prog ops Q (o :: rest)) := by
  obtain ⟨i, hi, hz, hs, _⟩ := strInfo
  refine at_build1 hw ho hd hn hx Tryz.underlying88 hi hz (by omega) (by omega) ?_ k
  rw [hs]
  kernel_rfl
theorem at_none_str {β : Base} {n : Nat} {Γ : Env} {H : List Chunk} {F : List Fact} {Q : Exit → Act → World → Prop} {ops : Array Oper} {rest : List Oper} {o : Oper} {d : Nat} (hw : want ops Γ o = some true) (ho : o.op = .buildSlice 88 0 #[]) (hd : o.dst = some d) (hn : Nat.blt d n = true)
    (k : ∀ b, At β n ((d, .slice (some ⟨b, 0, none⟩) 0 0) :: Γ) (strE.row (.slice (some ⟨b, 0, none⟩) 0 0) 9 [] :: H) F (wpList Tryz.prog ops Q rest)) : At β n Γ H F (wpList Tryz.prog ops Q (o :: rest)) := by
  obtain ⟨i, hi, _⟩ := strInfo
  exact at_build0 strE hw ho hd hn Tryz.underlying88 hi k
theorem at_app_str {β : Base} {n : Nat} {Γ : Env} {H : List Chunk} {F : List Fact} {Q : Exit → Act → World → Prop} {ops : Array Oper} {rest : List Oper} {o : Oper} {d : Nat} {x y : Operand} {c q : Nat} {v : Value} {A : Option Addr} {xs ys : List Bs} {H' : List Chunk} (hH : Take H (strE.row v 9 xs) H') (hr : Reads β H F strE A ys) (hg : o.guard = none)
    (ho : o.op = .call { callee := .builtin .append, args := #[x, y], argTypes := #[88, 88] }) (hd : o.dst = some d) (hn : Nat.blt d n = true)
    (hx : Γ.ev x = some v) (hy : Γ.ev y = some (.slice A q c)) (hq : q = ys.length) (hl : xs.length + ys.length ≤ 8796093022208)
    (k : ∀ A' cap', At β n ((d, .slice A' (xs ++ ys).length cap') :: Γ) (strE.row (.slice A' (xs ++ ys).length cap') 9 (xs ++ ys) :: H') F (wpList Tryz.prog ops Q rest)) : At β n Γ H F (wpList Tryz.prog ops Q (o :: rest)) := by
  obtain ⟨i, hi, hz, hs, hb⟩ := strInfo
  exact at_append_all hH hr hg ho hd hn Tryz.underlying88 hi hz hs hb rfl hx hy hq (by omega) (by decide) k
theorem sideInfo : ∃ i : TypeInfo, Tryz.prog.info? 61 = some i ∧ i.zero = some (.agg #[.string (bs []), .int .i64 0]) ∧ i.size = 2 ∧ i.bytes = 24 := by
  have h : (Tryz.prog.info? 61).map (fun i => (i.zero, i.size, i.bytes)) = some (some (.agg #[.string (bs []), .int .i64 0]), 2, 24) := by kernel_rfl
  cases hi : Tryz.prog.info? 61 with
  | none => simp [hi] at h
  | some i => simp [hi] at h; exact ⟨i, rfl, h.1, h.2.1, h.2.2⟩
theorem at_one_side {β : Base} {n : Nat} {Γ : Env} {H : List Chunk} {F : List Fact} {Q : Exit → Act → World → Prop} {ops : Array Oper} {rest : List Oper} {o : Oper} {d : Nat} {x : Operand} {m : SideV} (hw : want ops Γ o = some true) (ho : o.op = .buildSlice 57 1 #[(0, x)]) (hd : o.dst = some d) (hn : Nat.blt d n = true)
    (hx : Γ.ev x = some (.agg #[.string (bs m.name), .int .i64 m.n])) (k : ∀ b, At β n ((d, .slice (some ⟨b, 0, none⟩) 1 1) :: Γ) (.obj b (.cells (sideE.all [m]).toArray 61) :: H) F (wpList Tryz.prog ops Q rest)) : At β n Γ H F (wpList Tryz.prog ops Q (o :: rest)) := by
  obtain ⟨i, hi, hz, hs, _⟩ := sideInfo
  refine at_build1 hw ho hd hn hx Tryz.underlying57 hi hz (by omega) (by omega) ?_ k
  rw [hs]
  kernel_rfl
theorem at_none_side {β : Base} {n : Nat} {Γ : Env} {H : List Chunk} {F : List Fact} {Q : Exit → Act → World → Prop} {ops : Array Oper} {rest : List Oper} {o : Oper} {d : Nat} (hw : want ops Γ o = some true) (ho : o.op = .buildSlice 57 0 #[]) (hd : o.dst = some d) (hn : Nat.blt d n = true)
    (k : ∀ b, At β n ((d, .slice (some ⟨b, 0, none⟩) 0 0) :: Γ) (sideE.row (.slice (some ⟨b, 0, none⟩) 0 0) 61 [] :: H) F (wpList Tryz.prog ops Q rest)) : At β n Γ H F (wpList Tryz.prog ops Q (o :: rest)) := by
  obtain ⟨i, hi, _⟩ := sideInfo
  exact at_build0 sideE hw ho hd hn Tryz.underlying57 hi k
theorem at_app_side {β : Base} {n : Nat} {Γ : Env} {H : List Chunk} {F : List Fact} {Q : Exit → Act → World → Prop} {ops : Array Oper} {rest : List Oper} {o : Oper} {d : Nat} {x y : Operand} {c q : Nat} {v : Value} {A : Option Addr} {xs ys : List SideV} {H' : List Chunk} (hH : Take H (sideE.row v 61 xs) H') (hr : Reads β H F sideE A ys) (hg : o.guard = none)
    (ho : o.op = .call { callee := .builtin .append, args := #[x, y], argTypes := #[57, 57] }) (hd : o.dst = some d) (hn : Nat.blt d n = true)
    (hx : Γ.ev x = some v) (hy : Γ.ev y = some (.slice A q c)) (hq : q = ys.length) (hl : xs.length + ys.length ≤ 5864062014805)
    (k : ∀ A' cap', At β n ((d, .slice A' (xs ++ ys).length cap') :: Γ) (sideE.row (.slice A' (xs ++ ys).length cap') 61 (xs ++ ys) :: H') F (wpList Tryz.prog ops Q rest)) : At β n Γ H F (wpList Tryz.prog ops Q (o :: rest)) := by
  obtain ⟨i, hi, hz, hs, hb⟩ := sideInfo
  exact at_append_all hH hr hg ho hd hn Tryz.underlying57 hi hz hs hb rfl hx hy hq (by omega) (by decide) k
theorem inputInfo : ∃ i : TypeInfo, Tryz.prog.info? 59 = some i ∧ i.zero = some (.agg #[.string (bs []), .int .i64 0, .slice none 0 0]) ∧ i.size = 3 ∧ i.bytes = 48 := by
  have h : (Tryz.prog.info? 59).map (fun i => (i.zero, i.size, i.bytes)) = some (some (.agg #[.string (bs []), .int .i64 0, .slice none 0 0]), 3, 48) := by kernel_rfl
  cases hi : Tryz.prog.info? 59 with
  | none => simp [hi] at h
  | some i => simp [hi] at h; exact ⟨i, rfl, h.1, h.2.1, h.2.2⟩
theorem at_one_input {β : Base} {n : Nat} {Γ : Env} {H : List Chunk} {F : List Fact} {Q : Exit → Act → World → Prop} {ops : Array Oper} {rest : List Oper} {o : Oper} {d : Nat} {x : Operand} {m : InputV} (hw : want ops Γ o = some true) (ho : o.op = .buildSlice 22 1 #[(0, x)]) (hd : o.dst = some d) (hn : Nat.blt d n = true)
    (hx : Γ.ev x = some (.agg #[.string (bs m.name), .int .i64 m.at_, .slice m.sides.addr m.sides.list.length m.sides.cap])) (k : ∀ b, At β n ((d, .slice (some ⟨b, 0, none⟩) 1 1) :: Γ) (.obj b (.cells (inputE.all [m]).toArray 59) :: H) F (wpList Tryz.prog ops Q rest)) : At β n Γ H F (wpList Tryz.prog ops Q (o :: rest)) := by
  obtain ⟨i, hi, hz, hs, _⟩ := inputInfo
  refine at_build1 hw ho hd hn hx Tryz.underlying22 hi hz (by omega) (by omega) ?_ k
  rw [hs]
  kernel_rfl
theorem at_none_input {β : Base} {n : Nat} {Γ : Env} {H : List Chunk} {F : List Fact} {Q : Exit → Act → World → Prop} {ops : Array Oper} {rest : List Oper} {o : Oper} {d : Nat} (hw : want ops Γ o = some true) (ho : o.op = .buildSlice 22 0 #[]) (hd : o.dst = some d) (hn : Nat.blt d n = true)
    (k : ∀ b, At β n ((d, .slice (some ⟨b, 0, none⟩) 0 0) :: Γ) (inputE.row (.slice (some ⟨b, 0, none⟩) 0 0) 59 [] :: H) F (wpList Tryz.prog ops Q rest)) : At β n Γ H F (wpList Tryz.prog ops Q (o :: rest)) := by
  obtain ⟨i, hi, _⟩ := inputInfo
  exact at_build0 inputE hw ho hd hn Tryz.underlying22 hi k
theorem at_app_input {β : Base} {n : Nat} {Γ : Env} {H : List Chunk} {F : List Fact} {Q : Exit → Act → World → Prop} {ops : Array Oper} {rest : List Oper} {o : Oper} {d : Nat} {x y : Operand} {c q : Nat} {v : Value} {A : Option Addr} {xs ys : List InputV} {H' : List Chunk} (hH : Take H (inputE.row v 59 xs) H') (hr : Reads β H F inputE A ys) (hg : o.guard = none)
    (ho : o.op = .call { callee := .builtin .append, args := #[x, y], argTypes := #[22, 22] }) (hd : o.dst = some d) (hn : Nat.blt d n = true)
    (hx : Γ.ev x = some v) (hy : Γ.ev y = some (.slice A q c)) (hq : q = ys.length) (hl : xs.length + ys.length ≤ 2932031007402)
    (k : ∀ A' cap', At β n ((d, .slice A' (xs ++ ys).length cap') :: Γ) (inputE.row (.slice A' (xs ++ ys).length cap') 59 (xs ++ ys) :: H') F (wpList Tryz.prog ops Q rest)) : At β n Γ H F (wpList Tryz.prog ops Q (o :: rest)) := by
  obtain ⟨i, hi, hz, hs, hb⟩ := inputInfo
  exact at_append_all hH hr hg ho hd hn Tryz.underlying22 hi hz hs hb rfl hx hy hq (by omega) (by decide) k
theorem itemInfo : ∃ i : TypeInfo, Tryz.prog.info? 46 = some i ∧ i.zero = some (.agg #[.int .i64 0, .int .i64 0, .int .u8 0, .string (bs []), .slice none 0 0]) ∧ i.size = 5 ∧ i.bytes = 64 := by
  have h : (Tryz.prog.info? 46).map (fun i => (i.zero, i.size, i.bytes)) = some (some (.agg #[.int .i64 0, .int .i64 0, .int .u8 0, .string (bs []), .slice none 0 0]), 5, 64) := by kernel_rfl
  cases hi : Tryz.prog.info? 46 with
  | none => simp [hi] at h
  | some i => simp [hi] at h; exact ⟨i, rfl, h.1, h.2.1, h.2.2⟩
theorem at_one_item {β : Base} {n : Nat} {Γ : Env} {H : List Chunk} {F : List Fact} {Q : Exit → Act → World → Prop} {ops : Array Oper} {rest : List Oper} {o : Oper} {d : Nat} {x : Operand} {m : ItemV} (hw : want ops Γ o = some true) (ho : o.op = .buildSlice 40 1 #[(0, x)]) (hd : o.dst = some d) (hn : Nat.blt d n = true)
    (hx : Γ.ev x = some (.agg #[.int .i64 m.how, .int .i64 m.at_, .int .u8 m.fn, .string (bs m.name), .slice m.nums.addr m.nums.list.length m.nums.cap])) (k : ∀ b, At β n ((d, .slice (some ⟨b, 0, none⟩) 1 1) :: Γ) (.obj b (.cells (itemE.all [m]).toArray 46) :: H) F (wpList Tryz.prog ops Q rest)) : At β n Γ H F (wpList Tryz.prog ops Q (o :: rest)) := by
  obtain ⟨i, hi, hz, hs, _⟩ := itemInfo
  refine at_build1 hw ho hd hn hx Tryz.underlying40 hi hz (by omega) (by omega) ?_ k
  rw [hs]
  kernel_rfl
theorem at_none_item {β : Base} {n : Nat} {Γ : Env} {H : List Chunk} {F : List Fact} {Q : Exit → Act → World → Prop} {ops : Array Oper} {rest : List Oper} {o : Oper} {d : Nat} (hw : want ops Γ o = some true) (ho : o.op = .buildSlice 40 0 #[]) (hd : o.dst = some d) (hn : Nat.blt d n = true)
    (k : ∀ b, At β n ((d, .slice (some ⟨b, 0, none⟩) 0 0) :: Γ) (itemE.row (.slice (some ⟨b, 0, none⟩) 0 0) 46 [] :: H) F (wpList Tryz.prog ops Q rest)) : At β n Γ H F (wpList Tryz.prog ops Q (o :: rest)) := by
  obtain ⟨i, hi, _⟩ := itemInfo
  exact at_build0 itemE hw ho hd hn Tryz.underlying40 hi k
theorem at_app_item {β : Base} {n : Nat} {Γ : Env} {H : List Chunk} {F : List Fact} {Q : Exit → Act → World → Prop} {ops : Array Oper} {rest : List Oper} {o : Oper} {d : Nat} {x y : Operand} {c q : Nat} {v : Value} {A : Option Addr} {xs ys : List ItemV} {H' : List Chunk} (hH : Take H (itemE.row v 46 xs) H') (hr : Reads β H F itemE A ys) (hg : o.guard = none)
    (ho : o.op = .call { callee := .builtin .append, args := #[x, y], argTypes := #[40, 40] }) (hd : o.dst = some d) (hn : Nat.blt d n = true)
    (hx : Γ.ev x = some v) (hy : Γ.ev y = some (.slice A q c)) (hq : q = ys.length) (hl : xs.length + ys.length ≤ 2199023255552)
    (k : ∀ A' cap', At β n ((d, .slice A' (xs ++ ys).length cap') :: Γ) (itemE.row (.slice A' (xs ++ ys).length cap') 46 (xs ++ ys) :: H') F (wpList Tryz.prog ops Q rest)) : At β n Γ H F (wpList Tryz.prog ops Q (o :: rest)) := by
  obtain ⟨i, hi, hz, hs, hb⟩ := itemInfo
  exact at_append_all hH hr hg ho hd hn Tryz.underlying40 hi hz hs hb rfl hx hy hq (by omega) (by decide) k
theorem lineInfo : ∃ i : TypeInfo, Tryz.prog.info? 42 = some i ∧ i.zero = some (.agg #[.string (bs []), .int .i64 0, .slice none 0 0]) ∧ i.size = 3 ∧ i.bytes = 48 := by
  have h : (Tryz.prog.info? 42).map (fun i => (i.zero, i.size, i.bytes)) = some (some (.agg #[.string (bs []), .int .i64 0, .slice none 0 0]), 3, 48) := by kernel_rfl
  cases hi : Tryz.prog.info? 42 with
  | none => simp [hi] at h
  | some i => simp [hi] at h; exact ⟨i, rfl, h.1, h.2.1, h.2.2⟩
theorem at_one_line {β : Base} {n : Nat} {Γ : Env} {H : List Chunk} {F : List Fact} {Q : Exit → Act → World → Prop} {ops : Array Oper} {rest : List Oper} {o : Oper} {d : Nat} {x : Operand} {m : LineV} (hw : want ops Γ o = some true) (ho : o.op = .buildSlice 23 1 #[(0, x)]) (hd : o.dst = some d) (hn : Nat.blt d n = true)
    (hx : Γ.ev x = some (.agg #[.string (bs m.name), .int .i64 m.at_, .slice m.items.addr m.items.list.length m.items.cap])) (k : ∀ b, At β n ((d, .slice (some ⟨b, 0, none⟩) 1 1) :: Γ) (.obj b (.cells (lineE.all [m]).toArray 42) :: H) F (wpList Tryz.prog ops Q rest)) : At β n Γ H F (wpList Tryz.prog ops Q (o :: rest)) := by
  obtain ⟨i, hi, hz, hs, _⟩ := lineInfo
  refine at_build1 hw ho hd hn hx Tryz.underlying23 hi hz (by omega) (by omega) ?_ k
  rw [hs]
  kernel_rfl
theorem at_none_line {β : Base} {n : Nat} {Γ : Env} {H : List Chunk} {F : List Fact} {Q : Exit → Act → World → Prop} {ops : Array Oper} {rest : List Oper} {o : Oper} {d : Nat} (hw : want ops Γ o = some true) (ho : o.op = .buildSlice 23 0 #[]) (hd : o.dst = some d) (hn : Nat.blt d n = true)
    (k : ∀ b, At β n ((d, .slice (some ⟨b, 0, none⟩) 0 0) :: Γ) (lineE.row (.slice (some ⟨b, 0, none⟩) 0 0) 42 [] :: H) F (wpList Tryz.prog ops Q rest)) : At β n Γ H F (wpList Tryz.prog ops Q (o :: rest)) := by
  obtain ⟨i, hi, _⟩ := lineInfo
  exact at_build0 lineE hw ho hd hn Tryz.underlying23 hi k
theorem at_app_line {β : Base} {n : Nat} {Γ : Env} {H : List Chunk} {F : List Fact} {Q : Exit → Act → World → Prop} {ops : Array Oper} {rest : List Oper} {o : Oper} {d : Nat} {x y : Operand} {c q : Nat} {v : Value} {A : Option Addr} {xs ys : List LineV} {H' : List Chunk} (hH : Take H (lineE.row v 42 xs) H') (hr : Reads β H F lineE A ys) (hg : o.guard = none)
    (ho : o.op = .call { callee := .builtin .append, args := #[x, y], argTypes := #[23, 23] }) (hd : o.dst = some d) (hn : Nat.blt d n = true)
    (hx : Γ.ev x = some v) (hy : Γ.ev y = some (.slice A q c)) (hq : q = ys.length) (hl : xs.length + ys.length ≤ 2932031007402)
    (k : ∀ A' cap', At β n ((d, .slice A' (xs ++ ys).length cap') :: Γ) (lineE.row (.slice A' (xs ++ ys).length cap') 42 (xs ++ ys) :: H') F (wpList Tryz.prog ops Q rest)) : At β n Γ H F (wpList Tryz.prog ops Q (o :: rest)) := by
  obtain ⟨i, hi, hz, hs, hb⟩ := lineInfo
  exact at_append_all hH hr hg ho hd hn Tryz.underlying23 hi hz hs hb rfl hx hy hq (by omega) (by decide) k
theorem mixes : Tryz.prog.follows .mixedOrders = true := by kernel_rfl
end Go.Proofs.YtngkedmndhmjcaaGreatDoor
