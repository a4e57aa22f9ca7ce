/- The types of the layer show. (Printed by wip/gen/ty_show2.py.) -/
import Derived.Test.YtngkedmndhmjcaaGreatDoorParseC
import Derived.Test.YtngkedmndhmjcaaGreatDoorMapI
namespace Go.Proofs.YtngkedmndhmjcaaGreatDoor
open Go.RowKit Go.ChangeShapes Go.WideShapes

structure PieceV where
  words : (Sl Bs)
  nest : Nat
  tokens : Nat
  plain : Bool
  deriving Inhabited
def pieceE : Flat PieceV where
  size := 4
  cells := fun x => [.slice x.words.addr x.words.list.length x.words.cap, .int .i64 (x.nest : Nat), .int .i64 (x.tokens : Nat), .bool x.plain]
  len := fun _ => rfl
  one := fun x u hu => by
    simp at hu
    rcases hu with rfl | rfl | rfl | rfl <;> rfl
  pos := by decide
def partE : Flat Part where
  size := 4
  cells := fun x => [.string (bs x.s), .bool x.plain, .int .i64 (x.tokens : Nat), .int .i64 (x.nest : Nat)]
  len := fun _ => rfl
  one := fun x u hu => by
    simp at hu
    rcases hu with rfl | rfl | rfl | rfl <;> rfl
  pos := by decide
def show2T : Tab := [(3, ⟨.int .i64, 1⟩), (2, ⟨.int .i64, 1⟩), (5, ⟨.int .u8, 1⟩), (9, ⟨.string, 1⟩), (4, ⟨.bool, 1⟩), (43, ⟨.int .u8, 1⟩), (28, ⟨.int .i64, 1⟩), (44, ⟨.slice 2, 1⟩), (88, ⟨.slice 9, 1⟩), (54, ⟨.struct [(3, 0), (3, 1), (9, 2), (2, 3)], 4⟩), (37, ⟨.slice 54, 1⟩), (32, ⟨.struct [(3, 0), (28, 1)], 2⟩), (61, ⟨.struct [(9, 0), (2, 1)], 2⟩), (57, ⟨.slice 61, 1⟩), (59, ⟨.struct [(9, 0), (3, 1), (57, 2)], 3⟩), (22, ⟨.slice 59, 1⟩), (46, ⟨.struct [(3, 0), (3, 1), (43, 2), (9, 3), (44, 4)], 5⟩), (40, ⟨.slice 46, 1⟩), (42, ⟨.struct [(9, 0), (3, 1), (40, 2)], 3⟩), (23, ⟨.slice 42, 1⟩), (25, ⟨.struct [(22, 0), (23, 1)], 2⟩), (52, ⟨.struct [(37, 0), (3, 1), (3, 2)], 3⟩), (120, ⟨.struct [(88, 0), (3, 1), (3, 2), (4, 3)], 4⟩), (118, ⟨.slice 120, 1⟩), (99, ⟨.struct [(9, 0), (4, 1), (3, 2), (3, 3)], 4⟩), (95, ⟨.slice 99, 1⟩), (50, ⟨.other, 1⟩), (102, ⟨.slice 1, 1⟩), (1, ⟨.other, 1⟩), (70, ⟨.other, 1⟩), (71, ⟨.slice 5, 1⟩), (68, ⟨.map 43 9, 1⟩), (141, ⟨.map 3 9, 1⟩), (73, ⟨.struct [(70, 0), (71, 1)], 2⟩), (75, ⟨.struct [(68, 0), (68, 1), (73, 2)], 4⟩)]
theorem show2T_ok : TabOk Tryz.prog show2T := TabAll.ok
  ⟨⟨by rw [Tryz.underlying3]; rfl, by kernel_rfl⟩,
    ⟨by rw [Tryz.underlying2]; rfl, by kernel_rfl⟩,
    ⟨by rw [Tryz.underlying5]; rfl, by kernel_rfl⟩,
    ⟨by rw [Tryz.underlying9]; rfl, by kernel_rfl⟩,
    ⟨by rw [Tryz.underlying4]; rfl, by kernel_rfl⟩,
    ⟨by rw [Tryz.underlying43]; rfl, by kernel_rfl⟩,
    ⟨by rw [Tryz.underlying28]; rfl, by kernel_rfl⟩,
    ⟨by rw [Tryz.underlying44]; rfl, by kernel_rfl⟩,
    ⟨by rw [Tryz.underlying88]; rfl, by kernel_rfl⟩,
    ⟨by rw [Tryz.underlying54]; rfl, by kernel_rfl⟩,
    ⟨by rw [Tryz.underlying37]; rfl, by kernel_rfl⟩,
    ⟨by rw [Tryz.underlying32]; rfl, by kernel_rfl⟩,
    ⟨by rw [Tryz.underlying61]; rfl, by kernel_rfl⟩,
    ⟨by rw [Tryz.underlying57]; rfl, by kernel_rfl⟩,
    ⟨by rw [Tryz.underlying59]; rfl, by kernel_rfl⟩,
    ⟨by rw [Tryz.underlying22]; rfl, by kernel_rfl⟩,
    ⟨by rw [Tryz.underlying46]; rfl, by kernel_rfl⟩,
    ⟨by rw [Tryz.underlying40]; rfl, by kernel_rfl⟩,
    ⟨by rw [Tryz.underlying42]; rfl, by kernel_rfl⟩,
    ⟨by rw [Tryz.underlying23]; rfl, by kernel_rfl⟩,
    ⟨by rw [Tryz.underlying25]; rfl, by kernel_rfl⟩,
    ⟨by rw [Tryz.underlying52]; rfl, by kernel_rfl⟩,
    ⟨by rw [Tryz.underlying120]; rfl, by kernel_rfl⟩,
    ⟨by rw [Tryz.underlying118]; rfl, by kernel_rfl⟩,
    ⟨by rw [Tryz.underlying99]; rfl, by kernel_rfl⟩,
    ⟨by rw [Tryz.underlying95]; rfl, by kernel_rfl⟩,
    ⟨by rw [Tryz.underlying50]; rfl, by kernel_rfl⟩,
    ⟨by rw [Tryz.underlying102]; rfl, by kernel_rfl⟩,
    ⟨by rw [Tryz.underlying1]; rfl, by kernel_rfl⟩,
    ⟨by rw [Tryz.underlying70]; rfl, by kernel_rfl⟩,
    ⟨by rw [Tryz.underlying71]; rfl, by kernel_rfl⟩,
    ⟨by rw [Tryz.underlying68]; rfl, by kernel_rfl⟩,
    ⟨by rw [Tryz.underlying141]; rfl, by kernel_rfl⟩,
    ⟨by rw [Tryz.underlying73]; rfl, by kernel_rfl⟩,
    ⟨by rw [Tryz.underlying75]; rfl, by kernel_rfl⟩, trivial⟩
theorem pieceInfo : ∃ i : TypeInfo, Tryz.prog.info? 120 = some i ∧ i.zero = some (.agg #[.slice none 0 0, .int .i64 0, .int .i64 0, .bool false]) ∧ i.size = 4 ∧ i.bytes = 48 := by
  have h : (Tryz.prog.info? 120).map (fun i => (i.zero, i.size, i.bytes)) = some (some (.agg #[.slice none 0 0, .int .i64 0, .int .i64 0, .bool false]), 4, 48) := by kernel_rfl
  cases hi : Tryz.prog.info? 120 with
  | none => simp [hi] at h
  | some i => simp [hi] at h; exact ⟨i, rfl, h.1, h.2.1, h.2.2⟩
theorem at_one_piece {β : Base} {n : Nat} {Γ : Env} {H : List Chunk} {F : List Fact} {Q : Exit → Act → World → Prop} {ops : Array Oper} {rest : List Oper} {o : Oper} {d : Nat} {x : Operand} {m : PieceV} (hw : want ops Γ o = some true) (ho : o.op = .buildSlice 118 1 #[(0, x)]) (hd : o.dst = some d) (hn : Nat.blt d n = true)
    (hx : Γ.ev x = some (.agg #[.slice m.words.addr m.words.list.length m.words.cap, .int .i64 (m.nest : Nat), .int .i64 (m.tokens : Nat), .bool m.plain])) (k : ∀ b, At β n ((d, .slice (some ⟨b, 0, none⟩) 1 1) :: Γ) (.obj b (.cells (pieceE.all [m]).toArray 120) :: H) F (wpList Tryz.prog ops Q rest)) : At β n Γ H F (wpList Tryz.prog ops Q (o :: rest)) := by
  obtain ⟨i, hi, hz, hs, _⟩ := pieceInfo
  refine at_build1 hw ho hd hn hx Tryz.underlying118 hi hz (by omega) (by omega) ?_ k
  rw [hs]
  kernel_rfl
theorem at_none_piece {β : Base} {n : Nat} {Γ : Env} {H : List Chunk} {F : List Fact} {Q : Exit → Act → World → Prop} {ops : Array Oper} {rest : List Oper} {o : Oper} {d : Nat} (hw : want ops Γ o = some true) (ho : o.op = .buildSlice 118 0 #[]) (hd : o.dst = some d) (hn : Nat.blt d n = true)
    (k : ∀ b, At β n ((d, .slice (some ⟨b, 0, none⟩) 0 0) :: Γ) (pieceE.row (.slice (some ⟨b, 0, none⟩) 0 0) 120 [] :: H) F (wpList Tryz.prog ops Q rest)) : At β n Γ H F (wpList Tryz.prog ops Q (o :: rest)) := by
  obtain ⟨i, hi, _⟩ := pieceInfo
  exact at_build0 pieceE hw ho hd hn Tryz.underlying118 hi k
theorem at_app_piece {β : Base} {n : Nat} {Γ : Env} {H : List Chunk} {F : List Fact} {Q : Exit → Act → World → Prop} {ops : Array Oper} {rest : List Oper} {o : Oper} {d : Nat} {x y : Operand} {c q : Nat} {v : Value} {A : Option Addr} {xs ys : List PieceV} {H' : List Chunk} (hH : Take H (pieceE.row v 120 xs) H') (hr : Reads β H F pieceE A ys) (hg : o.guard = none)
    (ho : o.op = .call { callee := .builtin .append, args := #[x, y], argTypes := #[118, 118] }) (hd : o.dst = some d) (hn : Nat.blt d n = true)
    (hx : Γ.ev x = some v) (hy : Γ.ev y = some (.slice A q c)) (hq : q = ys.length) (hl : xs.length + ys.length ≤ 2932031007402)
    (k : ∀ A' cap', At β n ((d, .slice A' (xs ++ ys).length cap') :: Γ) (pieceE.row (.slice A' (xs ++ ys).length cap') 120 (xs ++ ys) :: H') F (wpList Tryz.prog ops Q rest)) : At β n Γ H F (wpList Tryz.prog ops Q (o :: rest)) := by
  obtain ⟨i, hi, hz, hs, hb⟩ := pieceInfo
  exact at_append_all hH hr hg ho hd hn Tryz.underlying118 hi hz hs hb rfl hx hy hq (by omega) (by decide) k
theorem partInfo : ∃ i : TypeInfo, Tryz.prog.info? 99 = some i ∧ i.zero = some (.agg #[.string (bs []), .bool false, .int .i64 0, .int .i64 0]) ∧ i.size = 4 ∧ i.bytes = 40 := by
  have h : (Tryz.prog.info? 99).map (fun i => (i.zero, i.size, i.bytes)) = some (some (.agg #[.string (bs []), .bool false, .int .i64 0, .int .i64 0]), 4, 40) := by kernel_rfl
  cases hi : Tryz.prog.info? 99 with
  | none => simp [hi] at h
  | some i => simp [hi] at h; exact ⟨i, rfl, h.1, h.2.1, h.2.2⟩
theorem at_one_part {β : Base} {n : Nat} {Γ : Env} {H : List Chunk} {F : List Fact} {Q : Exit → Act → World → Prop} {ops : Array Oper} {rest : List Oper} {o : Oper} {d : Nat} {x : Operand} {m : Part} (hw : want ops Γ o = some true) (ho : o.op = .buildSlice 95 1 #[(0, x)]) (hd : o.dst = some d) (hn : Nat.blt d n = true)
    (hx : Γ.ev x = some (.agg #[.string (bs m.s), .bool m.plain, .int .i64 (m.tokens : Nat), .int .i64 (m.nest : Nat)])) (k : ∀ b, At β n ((d, .slice (some ⟨b, 0, none⟩) 1 1) :: Γ) (.obj b (.cells (partE.all [m]).toArray 99) :: H) F (wpList Tryz.prog ops Q rest)) : At β n Γ H F (wpList Tryz.prog ops Q (o :: rest)) := by
  obtain ⟨i, hi, hz, hs, _⟩ := partInfo
  refine at_build1 hw ho hd hn hx Tryz.underlying95 hi hz (by omega) (by omega) ?_ k
  rw [hs]
  kernel_rfl
theorem at_none_part {β : Base} {n : Nat} {Γ : Env} {H : List Chunk} {F : List Fact} {Q : Exit → Act → World → Prop} {ops : Array Oper} {rest : List Oper} {o : Oper} {d : Nat} (hw : want ops Γ o = some true) (ho : o.op = .buildSlice 95 0 #[]) (hd : o.dst = some d) (hn : Nat.blt d n = true)
    (k : ∀ b, At β n ((d, .slice (some ⟨b, 0, none⟩) 0 0) :: Γ) (partE.row (.slice (some ⟨b, 0, none⟩) 0 0) 99 [] :: H) F (wpList Tryz.prog ops Q rest)) : At β n Γ H F (wpList Tryz.prog ops Q (o :: rest)) := by
  obtain ⟨i, hi, _⟩ := partInfo
  exact at_build0 partE hw ho hd hn Tryz.underlying95 hi k
theorem at_app_part {β : Base} {n : Nat} {Γ : Env} {H : List Chunk} {F : List Fact} {Q : Exit → Act → World → Prop} {ops : Array Oper} {rest : List Oper} {o : Oper} {d : Nat} {x y : Operand} {c q : Nat} {v : Value} {A : Option Addr} {xs ys : List Part} {H' : List Chunk} (hH : Take H (partE.row v 99 xs) H') (hr : Reads β H F partE A ys) (hg : o.guard = none)
    (ho : o.op = .call { callee := .builtin .append, args := #[x, y], argTypes := #[95, 95] }) (hd : o.dst = some d) (hn : Nat.blt d n = true)
    (hx : Γ.ev x = some v) (hy : Γ.ev y = some (.slice A q c)) (hq : q = ys.length) (hl : xs.length + ys.length ≤ 3518437208883)
    (k : ∀ A' cap', At β n ((d, .slice A' (xs ++ ys).length cap') :: Γ) (partE.row (.slice A' (xs ++ ys).length cap') 99 (xs ++ ys) :: H') F (wpList Tryz.prog ops Q rest)) : At β n Γ H F (wpList Tryz.prog ops Q (o :: rest)) := by
  obtain ⟨i, hi, hz, hs, hb⟩ := partInfo
  exact at_append_all hH hr hg ho hd hn Tryz.underlying95 hi hz hs hb rfl hx hy hq (by omega) (by decide) k
end Go.Proofs.YtngkedmndhmjcaaGreatDoor
