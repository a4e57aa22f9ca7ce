/- Rows of monomials that a call itself has made: what the append law leaves, as lists of monomials. -/
import Derived.Test.YtndjaogjkchpaaaSort
import Derived.Test.YtndjaogjkchpaaaMap
import Derived.Maps.AppendAt
import Derived.Maps.Range
import Derived.Laws.OwnMore
namespace Go.Proofs.Ytndjaogjkchpaaa
open Go.RowKit Go.Sort

/-- the cells of a list of monomials -/
def flat (l : List Mono) : List Value := l.flatMap Mono.cells

theorem flat_length : ∀ l : List Mono, (flat l).length = l.length * 7
  | [] => rfl
  | m :: l => by
    have ih := flat_length l
    unfold flat at ih
    simp only [flat, List.flatMap_cons, List.length_append, ih, Mono.cells_length, List.length_cons]
    omega

theorem flat_snoc (l : List Mono) (m : Mono) : flat (l ++ [m]) = flat l ++ m.cells := by simp [flat]

theorem flat_get : ∀ (l : List Mono) (k j : Nat) (m : Mono), l[k]? = some m → j < 7 → (flat l)[k * 7 + j]? = m.cells[j]?
  | [], k, j, m, h, _ => by simp at h
  | a :: l, 0, j, m, h, hj => by
    simp at h
    subst h
    simp only [flat, List.flatMap_cons, Nat.zero_mul, Nat.zero_add]
    exact List.getElem?_append_left (by rw [Mono.cells_length]; exact hj)
  | a :: l, k + 1, j, m, h, hj => by
    have ih := flat_get l k j m (by simpa using h) hj
    have e : flat (a :: l) = a.cells ++ flat l := by simp [flat]
    rw [e, List.getElem?_append_right (by rw [Mono.cells_length]; omega), Mono.cells_length]
    rw [← ih]
    congr 1
    omega

/-- a slice value that owns these monomials, in a block from B on -/
def Owns (w : World) (B : Nat) (v : Value) (l : List Mono) : Prop := w.ownsRow B 39 7 v l.length (flat l)

theorem Owns.row {w : World} {B g cap : Nat} {l : List Mono} (h : Owns w B (.slice (some ⟨g, 0, none⟩) l.length cap) l) : Row w g l := fun t ht => by
  have ht' : t < l.length * 7 := by simpa using ht
  have hc := World.ownsRow.cellAt h t ht'
  refine ⟨?_, by simpa using World.ownsRow.frozenAt h t⟩
  rw [get_flatK _ _ _ _ (by simpa using ht')]
  have hk : t / 7 < l.length := by omega
  have hg := flat_get l (t / 7) (t % 7) l[t / 7] (List.getElem?_eq_getElem hk) (Nat.mod_lt _ (by omega))
  have e : t / 7 * 7 + t % 7 = t := by omega
  rw [e] at hg
  rw [Nat.zero_add, hc, hg]
  have e2 : l.toArray[t / 7]! = l[t / 7] := by simp [hk]
  rw [e2]
  have hj : t % 7 < (l[t / 7]).cells.length := by rw [Mono.cells_length]; exact Nat.mod_lt _ (by omega)
  rw [List.getElem?_eq_getElem hj, getElem!_pos (l[t / 7]).cells (t % 7) hj]
  rfl

theorem Row.monos {w : World} {g : Nat} {l : List Mono} (h : Row w g l) : Monos w (some ⟨g, 0, none⟩) l := fun k m hk => by
  have hkl : k < l.toArray.size := by simpa using (List.getElem?_eq_some_iff.1 hk).1
  have hm : l.toArray[k]! = m := by
    rw [getElem!_pos l.toArray k hkl]
    have := (List.getElem?_eq_some_iff.1 hk).2
    simpa using this
  have c := fun j (hj : j < 7) => (HoldsK.cell h hkl hj).1
  rw [hm] at c
  have hlt : g < w.heap.size := by
    rcases Nat.lt_or_ge g w.heap.size with h' | h'
    · exact h'
    · have := c 0 (by omega)
      simp [World.cell?, Array.getElem?_eq_none h'] at this
  refine ⟨g, 0, rfl, hlt, ?_⟩
  exact ⟨c 0 (by omega), c 1 (by omega), c 2 (by omega), c 3 (by omega), c 4 (by omega), c 5 (by omega), c 6 (by omega)⟩

theorem Row.below {w w' : World} {B g : Nat} {l : List Mono} (h : Row w g l) (hb : Below B w w') (hg : g < B) : Row w' g l := fun t ht => by
  obtain ⟨h1, h2⟩ := h t ht
  exact ⟨(hb.cell (p := ⟨g, 0 + t, none⟩) hg).trans h1, (hb.frozen (p := ⟨g, 0 + t, none⟩) hg).trans h2⟩

theorem Row.lt {w : World} {g : Nat} {l : List Mono} (h : Row w g l) (hl : l ≠ []) : g < w.heap.size := by
  cases l with
  | nil => exact absurd rfl hl
  | cons m l =>
    obtain ⟨b, o, e, hb, _⟩ := h.monos 0 m rfl
    injection e with e
    injection e with e
    omega

/-- what a call that answers a list of monomials hands back: a slice in memory of its own, from block B on -/
def Res (B : Nat) (w : World) (v : Value) (l : List Mono) : Prop :=
  ∃ A c, v = .slice A l.length c ∧ (l = [] ∨ ∃ g, A = some ⟨g, 0, none⟩ ∧ B ≤ g ∧ Row w g l)

theorem Res.monos {B : Nat} {w : World} {A : Option Addr} {n c : Nat} {l : List Mono} (h : Res B w (.slice A n c) l) : Monos w A l ∧ n = l.length := by
  obtain ⟨A', c', e, h⟩ := h
  injection e with e1 e2 e3
  subst e1 e2
  rcases h with rfl | ⟨g, rfl, _, hr⟩
  · exact ⟨Monos.nil, rfl⟩
  · exact ⟨hr.monos, rfl⟩

theorem Res.below {B : Nat} {w w' : World} {v : Value} {l : List Mono} (h : Res B w v l) (hb : Below w.heap.size w w') : Res B w' v l := by
  obtain ⟨A, c, e, h⟩ := h
  refine ⟨A, c, e, ?_⟩
  by_cases hl : l = []
  · exact .inl hl
  · rcases h with h | ⟨g, e1, e2, hr⟩
    · exact .inl h
    · exact .inr ⟨g, e1, e2, hr.below hb (hr.lt hl)⟩

theorem Res.mono {B B' : Nat} {w : World} {v : Value} {l : List Mono} (h : Res B w v l) (hB : B' ≤ B) : Res B' w v l := by
  obtain ⟨A, c, e, h⟩ := h
  refine ⟨A, c, e, ?_⟩
  rcases h with h | ⟨g, e1, e2, hr⟩
  · exact .inl h
  · exact .inr ⟨g, e1, Nat.le_trans hB e2, hr⟩

theorem Res.nil (B : Nat) (w : World) (c : Nat) (A : Option Addr) : Res B w (.slice A 0 c) [] := ⟨A, c, rfl, .inl rfl⟩

end Go.Proofs.Ytndjaogjkchpaaa
