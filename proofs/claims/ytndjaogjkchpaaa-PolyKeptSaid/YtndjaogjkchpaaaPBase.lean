/- Monomials for the engine: how they lie, the types, the contracts of above and Right in the engine's form. -/
import Derived.Test.YtndjaogjkchpaaaMore
import Derived.Test.YtndjaogjkchpaaaListed
import Derived.Test.YtndjaogjkchpaaaRefRight
namespace Go.Proofs.Ytndjaogjkchpaaa
open Go.RowKit

theorem wrap_eq (z : Int) : IntKind.i64.wrap z = wrap64 z := by
  unfold wrap64
  simp only [IntKind.wrap, IntKind.signed, IntKind.bits]
  simp
  omega
theorem wrap_u8 (a b : UInt8) : IntKind.u8.wrap ((a.toNat : Int) + (b.toNat : Int)) = ((a + b).toNat : Int) := by
  rw [UInt8.toNat_add]
  simp only [IntKind.wrap, IntKind.signed, IntKind.bits]
  simp

def monoE : Flat Mono where
  size := 7
  cells := Mono.cells
  len := fun _ => rfl
  one := fun x u hu => by
    simp [Mono.cells] at hu
    rcases hu with rfl | rfl | rfl | rfl | rfl | rfl | rfl <;> rfl
  pos := by decide

def polyT : Tab := [(2, ⟨.int .i64, 1⟩), (3, ⟨.int .i64, 1⟩), (5, ⟨.int .u8, 1⟩), (4, ⟨.bool, 1⟩), (39, ⟨.struct [(2, 0), (37, 1)], 7⟩), (22, ⟨.slice 39, 1⟩),
  (37, ⟨.array 6 5, 6⟩), (28, ⟨.slice 2, 1⟩)]
theorem polyT_ok : TabOk Try.prog polyT := TabAll.ok
  ⟨⟨by rw [Try.underlying2]; rfl, by kernel_rfl⟩, ⟨by rw [Try.underlying3]; rfl, by kernel_rfl⟩, ⟨by rw [Try.underlying5]; rfl, by kernel_rfl⟩, ⟨by rw [Try.underlying4]; rfl, by kernel_rfl⟩, ⟨by rw [Try.underlying39]; rfl, by kernel_rfl⟩,
    ⟨by rw [Try.underlying22]; rfl, by kernel_rfl⟩, ⟨by rw [Try.underlying37]; rfl, by kernel_rfl⟩, ⟨by rw [Try.underlying28]; rfl, by kernel_rfl⟩, trivial⟩
theorem mixes : Try.prog.follows .mixedOrders = true := by kernel_rfl

theorem monoInfo : ∃ i : TypeInfo, Try.prog.info? 39 = some i ∧ i.zero = some (.agg #[.int .i64 0, .int .u8 0, .int .u8 0, .int .u8 0, .int .u8 0, .int .u8 0, .int .u8 0]) ∧ i.size = 7 ∧ i.bytes = 16 := by
  cases h : Try.prog.info? 39 with
  | none => have := info_mono; rw [h] at this; simp at this
  | some i => have := info_mono; rw [h] at this; simp at this; exact ⟨i, rfl, this.1, this.2.1, this.2.2⟩
theorem monoZero : (Try.prog.info? 39).bind (·.zero) = some (.agg #[.int .i64 0, .int .u8 0, .int .u8 0, .int .u8 0, .int .u8 0, .int .u8 0, .int .u8 0]) := by
  obtain ⟨i, h, hz, _⟩ := monoInfo
  rw [h]
  exact hz
theorem built_n (z : Int) : Try.prog.built 39 [(0, .int .i64 z)] = some #[.int .i64 z, .int .u8 0, .int .u8 0, .int .u8 0, .int .u8 0, .int .u8 0, .int .u8 0] := by kernel_rfl
theorem built_ne (z : Int) (a b c d e f : Value) : Try.prog.built 39 [(0, .int .i64 z), (1, .agg #[a, b, c, d, e, f])] = some #[.int .i64 z, a, b, c, d, e, f] := by kernel_rfl

section
variable {β : Base} {n : Nat} {Γ : Env} {H : List Chunk} {F : List Fact} {Q : Exit → Act → World → Prop}
/-- []api.Mono with one element -/
theorem at_one {ops : Array Oper} {rest : List Oper} {o : Oper} {d : Nat} {x : Operand} {m : Mono} (hw : want ops Γ o = some true) (ho : o.op = .buildSlice 22 1 #[(0, x)]) (hd : o.dst = some d) (hn : Nat.blt d n = true)
    (hx : Γ.ev x = some (.agg #[.int .i64 m.n, .int .u8 m.e0.toNat, .int .u8 m.e1.toNat, .int .u8 m.e2.toNat, .int .u8 m.e3.toNat, .int .u8 m.e4.toNat, .int .u8 m.e5.toNat])) (k : ∀ b, At β n ((d, .slice (some ⟨b, 0, none⟩) 1 1) :: Γ) (.obj b (.cells (monoE.all [m]).toArray 39) :: H) F (wpList Try.prog ops Q rest)) : At β n Γ H F (wpList Try.prog ops Q (o :: rest)) := by
  obtain ⟨i, hi, hz, hs, _⟩ := monoInfo
  refine at_build1 hw ho hd hn hx Try.underlying22 hi hz (by omega) (by omega) ?_ k
  rw [hs]
  kernel_rfl
/-- append(v, m) where v is the call's own -/
theorem at_app {ops : Array Oper} {rest : List Oper} {o : Oper} {d : Nat} {x y : Operand} {c q : Nat} {v : Value} {A : Option Addr} {xs ys : List Mono} {H' : List Chunk} (hH : Take H (monoE.row v 39 xs) H') (hr : Reads β H F monoE A ys) (hg : o.guard = none)
    (ho : o.op = .call { callee := .builtin .append, args := #[x, y], argTypes := #[22, 22] }) (hd : o.dst = some d) (hn : Nat.blt d n = true)
    (hx : Γ.ev x = some v) (hy : Γ.ev y = some (.slice A q c)) (hq : q = ys.length) (hne : 0 < ys.length) (hl : xs.length + ys.length ≤ 8796093022208)
    (k : ∀ A' cap', At β n ((d, .slice A' (xs ++ ys).length cap') :: Γ) (monoE.row (.slice A' (xs ++ ys).length cap') 39 (xs ++ ys) :: H') F (wpList Try.prog ops Q rest)) : At β n Γ H F (wpList Try.prog ops Q (o :: rest)) := by
  obtain ⟨i, hi, hz, hs, hb⟩ := monoInfo
  exact at_append_elems hH hr hg ho hd hn Try.underlying22 hi hz hs hb rfl hx hy hq hne (by omega) (by decide) k
end

theorem monos_of {S : Zone} {w : World} {A : Option Addr} {k c : Nat} {l : List Mono} (hS : ∀ b, S b → b < w.heap.size) (h : (monoE.sl (.slice A k c) l).p S w) : Monos w A l ∧ k = l.length := by
  obtain ⟨A', cap, e, h⟩ := h
  injection e with e1 e2 e3
  subst e1 e2
  refine ⟨fun k m hk => ?_, rfl⟩
  obtain ⟨b, o, cs, e1, e2, e3, e4⟩ := h k m hk
  have e4 : cs = m.cells := e4
  subst e4
  exact ⟨b, o, e1, hS b e2, e3 0 _ rfl, e3 1 _ rfl, e3 2 _ rfl, e3 3 _ rfl, e3 4 _ rfl, e3 5 _ rfl, e3 6 _ rfl⟩
theorem sl_of {w : World} {A : Option Addr} {c : Nat} {l : List Mono} (h : Monos w A l) : (monoE.sl (.slice A l.length c) l).p (fun b => b < w.heap.size) w := by
  refine ⟨A, c, rfl, fun k m hk => ?_⟩
  obtain ⟨b, o, e, hb, h0, h1, h2, h3, h4, h5, h6⟩ := h k m hk
  refine ⟨b, o, m.cells, e, hb, fun j u hj => ?_, rfl⟩
  have hlt := (List.getElem?_eq_some_iff.1 hj).1
  rw [Mono.cells_length] at hlt
  match j, hlt with
  | 0, _ => simp [Mono.cells] at hj; subst hj; exact h0
  | 1, _ => simp [Mono.cells] at hj; subst hj; exact h1
  | 2, _ => simp [Mono.cells] at hj; subst hj; exact h2
  | 3, _ => simp [Mono.cells] at hj; subst hj; exact h3
  | 4, _ => simp [Mono.cells] at hj; subst hj; exact h4
  | 5, _ => simp [Mono.cells] at hj; subst hj; exact h5
  | 6, _ => simp [Mono.cells] at hj; subst hj; exact h6

theorem above_spec (a b : Mono) : Spec Try.prog 43 [.agg #[.int .i64 a.n, .int .u8 a.e0.toNat, .int .u8 a.e1.toNat, .int .u8 a.e2.toNat, .int .u8 a.e3.toNat, .int .u8 a.e4.toNat, .int .u8 a.e5.toNat], .agg #[.int .i64 b.n, .int .u8 b.e0.toNat, .int .u8 b.e1.toNat, .int .u8 b.e2.toNat, .int .u8 b.e3.toNat, .int .u8 b.e4.toNat, .int .u8 b.e5.toNat]] [] [] (fun _ : Unit => .int .i64 (above a b)) (fun _ => []) (fun _ => []) := spec_below fun _ w _ _ => above_any a b w
theorem refRight_spec (A : Option Addr) (c : Nat) (l : List Mono) (hl : l.length ≤ 140737488355328) : Spec Try.prog 21 [.slice A l.length c] [] [monoE.sl (.slice A l.length c) l] (fun _ : Unit => .bool (rightB l)) (fun _ => []) (fun _ => []) :=
  spec_below fun _ w hS h => refRight_any A c l w (monos_of hS (h _ (List.mem_cons_self ..))).1 hl
end Go.Proofs.Ytndjaogjkchpaaa
