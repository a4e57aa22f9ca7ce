/- Plain definitions on monomials (no program): the cells of a monomial, and what the two texts compute of lists of monomials. -/
import Derived.Test.YtndjaogjkchpaaaKit
namespace Go.Proofs.Ytndjaogjkchpaaa
open Go.RowKit

structure Mono where
  n : Int
  e0 : UInt8
  e1 : UInt8
  e2 : UInt8
  e3 : UInt8
  e4 : UInt8
  e5 : UInt8

instance : Inhabited Mono := ⟨⟨0, 0, 0, 0, 0, 0, 0⟩⟩

/-- the exponents -/
def Mono.E (m : Mono) : List UInt8 := [m.e0, m.e1, m.e2, m.e3, m.e4, m.e5]

/-- the cells of a monomial -/
def Mono.cells (m : Mono) : List Value :=
  [.int .i64 m.n, .int .u8 m.e0.toNat, .int .u8 m.e1.toNat, .int .u8 m.e2.toNat, .int .u8 m.e3.toNat, .int .u8 m.e4.toNat, .int .u8 m.e5.toNat]

/-- a monomial as a value -/
def Mono.val (m : Mono) : Value :=
  .agg #[.int .i64 m.n, .int .u8 m.e0.toNat, .int .u8 m.e1.toNat, .int .u8 m.e2.toNat, .int .u8 m.e3.toNat, .int .u8 m.e4.toNat, .int .u8 m.e5.toNat]

theorem Mono.cells_length (m : Mono) : m.cells.length = 7 := rfl

/-- the sum of the exponents -/
def Mono.deg (m : Mono) : Nat := m.e0.toNat + m.e1.toNat + m.e2.toNat + m.e3.toNat + m.e4.toNat + m.e5.toNat

/-- order(a, b) of the program: bytes.Compare(b.E, a.E) -/
def ord (a b : Mono) : Int := Lib.compareBytes b.E a.E

/-- may a monomial be? -/
def smallB (m : Mono) : Bool := decide (m.n ≠ 0 ∧ m.n ≤ 16777216 ∧ -16777216 ≤ m.n ∧ m.deg ≤ 8)

theorem u8_lt (e : UInt8) : (e.toNat : Int) < 256 := by have := e.toNat_lt; omega

def above (a b : Mono) : Int := Lib.compareBytes a.E b.E

theorem cmp_cons (a b : UInt8) (l m : List UInt8) : Lib.compareBytes (a :: l) (b :: m) = if b.toNat < a.toNat then 1 else if a.toNat < b.toNat then -1 else Lib.compareBytes l m := by
  rw [Lib.compareBytes]
  simp only [UInt8.lt_iff_toNat_lt]
  by_cases h : a.toNat < b.toNat
  · rw [if_pos h, if_neg (by omega), if_pos h]
  · rw [if_neg h]
    by_cases h' : b.toNat < a.toNat
    · rw [if_pos h', if_pos h']
    · rw [if_neg h', if_neg h', if_neg h]


/-- a monomial's cells lie at an address -/
def MonoAt (w : World) (b o : Nat) (m : Mono) : Prop :=
  w.cell? ⟨b, o, none⟩ = some (.int .i64 m.n) ∧ w.cell? ⟨b, o + 1, none⟩ = some (.int .u8 m.e0.toNat) ∧ w.cell? ⟨b, o + 2, none⟩ = some (.int .u8 m.e1.toNat) ∧
  w.cell? ⟨b, o + 3, none⟩ = some (.int .u8 m.e2.toNat) ∧ w.cell? ⟨b, o + 4, none⟩ = some (.int .u8 m.e3.toNat) ∧ w.cell? ⟨b, o + 5, none⟩ = some (.int .u8 m.e4.toNat) ∧
  w.cell? ⟨b, o + 6, none⟩ = some (.int .u8 m.e5.toNat)

/-- a slice's address leads to a list of monomials (nil or whatever where there is none) -/
def Monos (w : World) (A : Option Addr) (l : List Mono) : Prop :=
  ∀ k m, l[k]? = some m → ∃ b o, A = some ⟨b, o, none⟩ ∧ b < w.heap.size ∧ MonoAt w b (o + k * 7) m

theorem MonoAt.below {w w' : World} {B b o : Nat} {m : Mono} (h : MonoAt w b o m) (hb : Below B w w') (hB : b < B) : MonoAt w' b o m := by
  obtain ⟨h0, h1, h2, h3, h4, h5, h6⟩ := h
  exact ⟨(hb.cell (p := ⟨b, o, none⟩) hB).trans h0, (hb.cell (p := ⟨b, o + 1, none⟩) hB).trans h1, (hb.cell (p := ⟨b, o + 2, none⟩) hB).trans h2, (hb.cell (p := ⟨b, o + 3, none⟩) hB).trans h3,
    (hb.cell (p := ⟨b, o + 4, none⟩) hB).trans h4, (hb.cell (p := ⟨b, o + 5, none⟩) hB).trans h5, (hb.cell (p := ⟨b, o + 6, none⟩) hB).trans h6⟩

theorem Monos.below {w w' : World} {A : Option Addr} {l : List Mono} (h : Monos w A l) (hb : Below w.heap.size w w') : Monos w' A l := fun k m hk => by
  obtain ⟨b, o, e, hB, hm⟩ := h k m hk
  exact ⟨b, o, e, Nat.lt_of_lt_of_le hB hb.size, hm.below hb hB⟩

theorem Monos.nil {w : World} {A : Option Addr} : Monos w A [] := fun k m h => by simp at h

def Mono.eqB (a b : Mono) : Bool := a.n == b.n && (a.e0 == b.e0 && (a.e1 == b.e1 && (a.e2 == b.e2 && (a.e3 == b.e3 && (a.e4 == b.e4 && a.e5 == b.e5)))))

theorem Mono.eqB_iff (a b : Mono) : a.eqB b = true ↔ a = b := by
  obtain ⟨n, a0, a1, a2, a3, a4, a5⟩ := a
  obtain ⟨n', b0, b1, b2, b3, b4, b5⟩ := b
  simp [Mono.eqB]

def sameB : List Mono → List Mono → Bool
  | [], [] => true
  | a :: l, b :: m => a.eqB b && sameB l m
  | _, _ => false

theorem sameB_iff : ∀ l m : List Mono, sameB l m = true ↔ l = m
  | [], [] => by simp [sameB]
  | [], b :: m => by simp [sameB]
  | a :: l, [] => by simp [sameB]
  | a :: l, b :: m => by simp [sameB, Mono.eqB_iff, sameB_iff l m]


/-- is what comes in order behind (none: at the head), each monomial one that may be? -/
def rightFrom : Option Mono → List Mono → Bool
  | _, [] => true
  | none, m :: l => smallB m && rightFrom (some m) l
  | some a, m :: l => smallB m && (decide (ord a m < 0) && rightFrom (some m) l)

/-- P2.1: is a list of monomials a polynomial? -/
def rightB (p : List Mono) : Bool := decide (p.length ≤ 48) && rightFrom none p

theorem drop_cons {l : List Mono} {k : Nat} (h : k < l.length) : ∃ m, l[k]? = some m ∧ l.drop k = m :: l.drop (k + 1) :=
  ⟨l[k], List.getElem?_eq_getElem h, List.drop_eq_getElem_cons h⟩



theorem MonoAt.later {W : World} {b o : Nat} {m : Mono} (h : MonoAt W b o m) : (∀ x : Later W, x.w.cell? ⟨b, o, none⟩ = some (.int .i64 m.n)) ∧ (∀ x : Later W, x.w.cell? ⟨b, o + 1, none⟩ = some (.int .u8 m.e0.toNat)) ∧ (∀ x : Later W, x.w.cell? ⟨b, o + 2, none⟩ = some (.int .u8 m.e1.toNat)) ∧ (∀ x : Later W, x.w.cell? ⟨b, o + 3, none⟩ = some (.int .u8 m.e2.toNat)) ∧ (∀ x : Later W, x.w.cell? ⟨b, o + 4, none⟩ = some (.int .u8 m.e3.toNat)) ∧ (∀ x : Later W, x.w.cell? ⟨b, o + 5, none⟩ = some (.int .u8 m.e4.toNat)) ∧ (∀ x : Later W, x.w.cell? ⟨b, o + 6, none⟩ = some (.int .u8 m.e5.toNat)) := by
  obtain ⟨h0, h1, h2, h3, h4, h5, h6⟩ := h
  exact ⟨Later.cell h0, Later.cell h1, Later.cell h2, Later.cell h3, Later.cell h4, Later.cell h5, Later.cell h6⟩

theorem MonoAt.zero {W : World} {b : Nat} {m : Mono} (h : MonoAt W b 0 m) : W.cell? ⟨b, 0, none⟩ = some (.int .i64 m.n) ∧ W.cell? ⟨b, 1, none⟩ = some (.int .u8 m.e0.toNat) ∧ W.cell? ⟨b, 2, none⟩ = some (.int .u8 m.e1.toNat) ∧ W.cell? ⟨b, 3, none⟩ = some (.int .u8 m.e2.toNat) ∧ W.cell? ⟨b, 4, none⟩ = some (.int .u8 m.e3.toNat) ∧ W.cell? ⟨b, 5, none⟩ = some (.int .u8 m.e4.toNat) ∧ W.cell? ⟨b, 6, none⟩ = some (.int .u8 m.e5.toNat) := by simpa [MonoAt] using h

theorem MonoAt.later0 {W : World} {b : Nat} {m : Mono} (h : MonoAt W b 0 m) : (∀ x : Later W, x.w.cell? ⟨b, 0, none⟩ = some (.int .i64 m.n)) ∧ (∀ x : Later W, x.w.cell? ⟨b, 1, none⟩ = some (.int .u8 m.e0.toNat)) ∧ (∀ x : Later W, x.w.cell? ⟨b, 2, none⟩ = some (.int .u8 m.e1.toNat)) ∧ (∀ x : Later W, x.w.cell? ⟨b, 3, none⟩ = some (.int .u8 m.e2.toNat)) ∧ (∀ x : Later W, x.w.cell? ⟨b, 4, none⟩ = some (.int .u8 m.e3.toNat)) ∧ (∀ x : Later W, x.w.cell? ⟨b, 5, none⟩ = some (.int .u8 m.e4.toNat)) ∧ (∀ x : Later W, x.w.cell? ⟨b, 6, none⟩ = some (.int .u8 m.e5.toNat)) := by
  obtain ⟨h0, h1, h2, h3, h4, h5, h6⟩ := h.zero
  exact ⟨Later.cell h0, Later.cell h1, Later.cell h2, Later.cell h3, Later.cell h4, Later.cell h5, Later.cell h6⟩

end Go.Proofs.Ytndjaogjkchpaaa
