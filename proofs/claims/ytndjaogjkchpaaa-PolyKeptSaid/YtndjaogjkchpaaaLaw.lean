/- From a walk to a statement: a law that returns true and only makes memory meets its row's post; slices of monomials and of numbers, as they are read, lead to lists. -/
import Derived.Test.YtndjaogjkchpaaaEval
import Derived.Test.YtndjaogjkchpaaaOwn
import Derived.ProofKit
import Derived.OpenShut
import Derived.Carry
import Derived.SizedLaws
import Derived.Deep.Slices
namespace Go.Proofs.Ytndjaogjkchpaaa
open Go.RowKit Go.ChangeShapes Go.WideShapes

section
variable {H : Type} {enc : TypeId × Value → H} {P : Program}

/-- what was read of the arguments is read of them behind a call that only makes memory -/
theorem trodAll_later (hl : laidOutB P = true) {W W' : World} (hb : Below W.heap.size W W') : ∀ {ts : List TypeId} {vs : List Value} {ds : List (DataW H)} {ps : List MemPlace},
    (∀ t ∈ ts, P.readableRec t = true ∧ t < P.types.size) → (∀ x ∈ ps, x.block < W.heap.size) → DataW.TrodAll enc P W 0 (fun _ => true) true ts vs ds ps →
    DataW.TrodAll enc P W' 0 (fun b => decide (b < W.heap.size)) true ts vs ds ps
  | [], _, _, _, _, _, h => by
    obtain ⟨rfl, rfl, rfl⟩ := trodAll_nil h
    exact trodAll_mk0
  | t :: ts, _, _, _, ht, hlt, h => by
    obtain ⟨v, vs, d, ds, p, q, rfl, rfl, rfl, h1, h2⟩ := trodAll_cons h
    have hr := ht t (by simp)
    exact trodAll_cons_mk (Below.trod hl hr.1 hr.2 h1 hb (fun x hx => hlt x (by simp [hx]))) (trodAll_later hl hb (fun t h => ht t (by simp [h])) (fun x hx => hlt x (by simp [hx])) h2)

theorem law_post {f : Func} {s : ChangeSpec} {W W' : World} {args : Array Value} {ds : List (DataW H)} {before : List MemPlace} {tb : TypeId}
    (hW : DataW.Whole enc P f.params.toList s.vars false W args.toList ds [] before) (hv : s.vars = []) (hfn : s.fn H (ds ++ []) = { results := [.lit (.bool true)], args := ds })
    (hr : f.resultTypes = #[tb]) (hb : P.underlying tb = some .bool) (hl : laidOutB P = true) (hread : ∀ t ∈ f.params.toList, P.readableRec t = true ∧ t < P.types.size) (h : Below W.heap.size W W') :
    s.post enc P f false true false false W args (.bool true) W' := by
  have hlt : ∀ p ∈ before, p.block < W.heap.size := fun p hp => hW.lt p hp
  have hW' := hW
  obtain ⟨p, q, hA, hV, rfl, _, _⟩ := hW
  rw [hv] at hV
  have hq : q = [] := hV
  subst hq
  refine ⟨ds, [], _, [], p, [], hW', ?_, ?_, ?_, ?_, fun h => by cases h⟩
  · rw [hfn, hr]
    exact trodAll_mk1 (shut_bool hb true)
  · rw [hfn]
    exact trodAll_later hl h hread (fun x hx => hlt x (by simp [hx])) hA
  · rw [hfn, hv]
    rfl
  · exact h.frame _
end

section
variable {H : Type} {enc : TypeId × Value → H} {w : World}

theorem u8_of {n : Int} (h : (Lit.int .u8 n).wf = true) : ∃ e : UInt8, n = (e.toNat : Int) := by
  have h' : 0 ≤ n ∧ n ≤ 255 := bounds_u8 h
  refine ⟨UInt8.ofNat n.toNat, ?_⟩
  rw [UInt8.toNat_ofNat']
  omega

/-- the cells of a monomial, as they are read -/
theorem read_mono {fuel : Nat} {cs : List Value} {x : DataW H × List MemPlace} (h : DataW.trod enc Try.prog w 0 (fun _ => true) true fuel 39 cs = some x) : ∃ m : Mono, cs = m.cells ∧ (Lit.int .i64 m.n).wf = true := by
  obtain ⟨xs, n, _, _, hlen, hxl, hf⟩ := DataW.trod_struct Try.underlying39 h
  have hc39 : Try.prog.cellsOf 39 = 7 := by kernel_rfl
  have hc2 : Try.prog.cellsOf 2 = 1 := by kernel_rfl
  have hc37 : Try.prog.cellsOf 37 = 6 := by kernel_rfl
  have hc5 : Try.prog.cellsOf 5 = 1 := by kernel_rfl
  rw [hc39] at hlen
  have hxl' : xs.length = 2 := hxl
  match cs, hlen with
  | [a, b0, b1, b2, b3, b4, b5], _ =>
    have h0 : DataW.trod enc Try.prog w 0 (fun _ => true) true n 2 (([a, b0, b1, b2, b3, b4, b5].drop 0).take (Try.prog.cellsOf 2)) = xs[0]? := hf 0 _ rfl
    have h1 : DataW.trod enc Try.prog w 0 (fun _ => true) true n 37 (([a, b0, b1, b2, b3, b4, b5].drop 1).take (Try.prog.cellsOf 37)) = xs[1]? := hf 1 _ rfl
    rw [hc2, List.getElem?_eq_getElem (by omega)] at h0
    rw [hc37, List.getElem?_eq_getElem (by omega)] at h1
    obtain ⟨nn, e0, _, hw⟩ := DataW.trod_int Try.underlying2 h0
    obtain ⟨ys, n', _, _, _, hyl, hg⟩ := DataW.trod_array Try.underlying37 h1
    have g : ∀ i, i < 6 → ∃ e : UInt8, (([b0, b1, b2, b3, b4, b5] : List Value).drop i).take 1 = [.int .u8 (e.toNat : Int)] := fun i hi => by
      have h2 := hg i hi
      rw [hc5, Nat.mul_one, List.getElem?_eq_getElem (by omega)] at h2
      obtain ⟨k, e1, _, hw1⟩ := DataW.trod_int Try.underlying5 h2
      obtain ⟨e, rfl⟩ := u8_of hw1
      exact ⟨e, e1⟩
    obtain ⟨e0', g0⟩ := g 0 (by omega)
    obtain ⟨e1', g1⟩ := g 1 (by omega)
    obtain ⟨e2', g2⟩ := g 2 (by omega)
    obtain ⟨e3', g3⟩ := g 3 (by omega)
    obtain ⟨e4', g4⟩ := g 4 (by omega)
    obtain ⟨e5', g5⟩ := g 5 (by omega)
    simp at e0 g0 g1 g2 g3 g4 g5
    subst e0 g0 g1 g2 g3 g4 g5
    exact ⟨⟨nn, e0', e1', e2', e3', e4', e5'⟩, rfl, hw⟩

theorem spot_of {a : Addr} {v : Value} (h : w.cell? a = some v) : a.spot = none := by
  unfold World.cell? at h
  split at h
  · cases hs : a.spot with
    | none => rfl
    | some x => rw [hs] at h; simp at h
  · cases h

theorem monoAt_of {a : Addr} {m : Mono} {b o : Nat} (ha : a = ⟨b, o, none⟩) (h : ∀ i, i < 7 → w.cell? (a.add i) = m.cells[i]?) : MonoAt w b o m := by
  subst ha
  have e : ∀ i, (⟨b, o, none⟩ : Addr).add i = ⟨b, o + i, none⟩ := fun i => by
    unfold Addr.add
    split <;> simp_all
  exact ⟨by have := h 0 (by omega); rw [e] at this; exact this, by have := h 1 (by omega); rw [e] at this; exact this, by have := h 2 (by omega); rw [e] at this; exact this,
    by have := h 3 (by omega); rw [e] at this; exact this, by have := h 4 (by omega); rw [e] at this; exact this, by have := h 5 (by omega); rw [e] at this; exact this,
    by have := h 6 (by omega); rw [e] at this; exact this⟩

/-- a slice of monomials, as it is read -/
theorem open_monos {v : Value} {d : DataW H} {p : List MemPlace} {r : Reach} {b0 : Nat} (hv : Value.okWide Try.prog w r b0 22 v) (h : DataW.Trod enc Try.prog w 0 (fun _ => true) true 22 v d p) :
    ∃ (A : Option Addr) (cap : Nat) (l : List Mono), v = .slice A l.length cap ∧ Monos w A l ∧ (∀ m ∈ l, (Lit.int .i64 m.n).wf = true) ∧ (l = [] ∨ ∃ es sp, d = .slice es sp ∧ es.length = l.length) := by
  obtain ⟨a0, len, cap, rfl⟩ := okWide_slice Try.underlying22 hv
  obtain ⟨fuel, hf⟩ := h
  have hc39 : Try.prog.cellsOf 39 = 7 := by kernel_rfl
  rcases Deep.open_slice Try.underlying22 hf with ⟨hcs, _⟩ | ⟨a, len', cap', m, n, D, Pl, hcs, _, hl, _, hm, hx, hi⟩
  · simp [Value.cells] at hcs
    obtain ⟨rfl, rfl, rfl⟩ := hcs
    exact ⟨none, 0, [], rfl, Monos.nil, by simp, .inl rfl⟩
  · simp [Value.cells] at hcs
    obtain ⟨rfl, rfl, rfl⟩ := hcs
    have hlm : len ≤ m := by rw [hm]; simp; exact hl
    have hel : ∀ i, i < len → ∃ q : Mono, (∀ j, j < 7 → w.cell? ((a.add (i * 7)).add j) = q.cells[j]?) ∧ (Lit.int .i64 q.n).wf = true := fun i hil => by
      obtain ⟨cs', hc, ht⟩ := hi i (by omega)
      rw [hc39] at hc
      obtain ⟨_, hcl, hat⟩ := World.cells?_some hc
      obtain ⟨q, hq, hw⟩ := read_mono ht
      exact ⟨q, fun j hj => by rw [hat j hj, hq], hw⟩
    obtain ⟨f, hf1⟩ : ∃ f : Nat → Mono, ∀ i, i < len → (∀ j, j < 7 → w.cell? ((a.add (i * 7)).add j) = (f i).cells[j]?) ∧ (Lit.int .i64 (f i).n).wf = true :=
      ⟨fun i => if h : i < len then (hel i h).choose else default, fun i hil => by simp only [dif_pos hil]; exact (hel i hil).choose_spec⟩
    refine ⟨some a, cap, (List.range len).map f, by simp, fun k q hk => ?_, fun q hq => ?_, .inr ⟨(List.range len).map D, (List.range (m - len)).map fun j => D (len + j), ?_, by simp⟩⟩
    · have hkl : k < len := by simpa using (List.getElem?_eq_some_iff.1 hk).1
      have hq : q = f k := by
        have := (List.getElem?_eq_some_iff.1 hk).2
        simpa using this.symm
      subst hq
      have hc := (hf1 k hkl).1
      obtain ⟨ab, ao, asp⟩ := a
      have hsp : asp = none := by
        have h0 := (hf1 0 (by omega)).1 0 (by omega)
        have h1 : w.cell? ⟨ab, ao, asp⟩ = some (.int .i64 (f 0).n) := by simpa [Addr.add, Mono.cells] using h0
        exact spot_of h1
      subst hsp
      have e : ∀ i, (⟨ab, ao, none⟩ : Addr).add i = ⟨ab, ao + i, none⟩ := fun i => by
        unfold Addr.add
        split <;> simp_all
      have hma : MonoAt w ab (ao + k * 7) (f k) := monoAt_of (e _) hc
      refine ⟨ab, ao, rfl, ?_, hma⟩
      rcases Nat.lt_or_ge ab w.heap.size with hlt | hge
      · exact hlt
      · have := hma.1
        simp [World.cell?, Array.getElem?_eq_none hge] at this
    · obtain ⟨i, hil, rfl⟩ := List.mem_map.1 hq
      exact (hf1 i (by simpa using hil)).2
    · simp only [Prod.mk.injEq] at hx
      exact hx.1

/-- a slice of numbers, as it is read -/
theorem open_nums {v : Value} {d : DataW H} {p : List MemPlace} {r : Reach} {b0 : Nat} (hv : Value.okWide Try.prog w r b0 28 v) (h : DataW.Trod enc Try.prog w 0 (fun _ => true) true 28 v d p) :
    ∃ (A : Option Addr) (cap : Nat) (l : List Int), v = .slice A l.length cap ∧ Ints w A l ∧ (∀ m ∈ l, (Lit.int .i64 m).wf = true) ∧ (l = [] ∨ ∃ es sp, d = .slice es sp ∧ es.length = l.length) := by
  obtain ⟨a0, len, cap, rfl⟩ := okWide_slice Try.underlying28 hv
  obtain ⟨fuel, hf⟩ := h
  have hc2 : Try.prog.cellsOf 2 = 1 := by kernel_rfl
  rcases Deep.open_slice Try.underlying28 hf with ⟨hcs, _⟩ | ⟨a, len', cap', m, n, D, Pl, hcs, _, hl, _, hm, hx, hi⟩
  · simp [Value.cells] at hcs
    obtain ⟨rfl, rfl, rfl⟩ := hcs
    exact ⟨none, 0, [], rfl, fun k d hk => by simp at hk, by simp, .inl rfl⟩
  · simp [Value.cells] at hcs
    obtain ⟨rfl, rfl, rfl⟩ := hcs
    have hlm : len ≤ m := by rw [hm]; simp; exact hl
    have hel : ∀ i, i < len → ∃ q : Int, w.cell? (a.add (i * 1)) = some (.int .i64 q) ∧ (Lit.int .i64 q).wf = true := fun i hil => by
      obtain ⟨cs', hc, ht⟩ := hi i (by omega)
      rw [hc2] at hc
      obtain ⟨_, hcl, hat⟩ := World.cells?_some hc
      obtain ⟨q, hq, _, hw⟩ := DataW.trod_int Try.underlying2 ht
      subst hq
      have := hat 0 (by omega)
      exact ⟨q, by simpa [Addr.add] using this, hw⟩
    obtain ⟨f, hf1⟩ : ∃ f : Nat → Int, ∀ i, i < len → w.cell? (a.add (i * 1)) = some (.int .i64 (f i)) ∧ (Lit.int .i64 (f i)).wf = true :=
      ⟨fun i => if h : i < len then (hel i h).choose else 0, fun i hil => by simp only [dif_pos hil]; exact (hel i hil).choose_spec⟩
    refine ⟨some a, cap, (List.range len).map f, by simp, fun k q hk => ?_, fun q hq => ?_, .inr ⟨(List.range len).map D, (List.range (m - len)).map fun j => D (len + j), ?_, by simp⟩⟩
    · have hkl : k < len := by simpa using (List.getElem?_eq_some_iff.1 hk).1
      have hq : q = f k := by
        have := (List.getElem?_eq_some_iff.1 hk).2
        simpa using this.symm
      subst hq
      have hc := (hf1 k hkl).1
      obtain ⟨ab, ao, asp⟩ := a
      have hsp : asp = none := by
        have h0 := (hf1 0 (by omega)).1
        have h1 : w.cell? ⟨ab, ao, asp⟩ = some (.int .i64 (f 0)) := by simpa [Addr.add] using h0
        exact spot_of h1
      subst hsp
      have e : ∀ i, (⟨ab, ao, none⟩ : Addr).add i = ⟨ab, ao + i, none⟩ := fun i => by
        unfold Addr.add
        split <;> simp_all
      rw [e, Nat.mul_one] at hc
      refine ⟨ab, ao, rfl, ?_, hc⟩
      rcases Nat.lt_or_ge ab w.heap.size with hlt | hge
      · exact hlt
      · simp [World.cell?, Array.getElem?_eq_none hge] at hc
    · obtain ⟨i, hil, rfl⟩ := List.mem_map.1 hq
      exact (hf1 i (by simpa using hil)).2
    · simp only [Prod.mk.injEq] at hx
      exact hx.1

end

end Go.Proofs.Ytndjaogjkchpaaa
