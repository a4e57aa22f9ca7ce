/- Contract of slices.SortFunc(out, order) at []api.Mono, out of the kit's shelf: the row holds the same monomials, sorted; nothing else that was there is changed. -/
import Derived.Test.YtndjaogjkchpaaaShelf
import Derived.Test.YtndjaogjkchpaaaOrder
import Derived.Test.YtndjaogjkchpaaaPlain
import Derived.Shelf.SlSortCmp.NoneTotal
namespace Go.Proofs.Ytndjaogjkchpaaa
open Go.RowKit Go.Sort

theorem ltOf_ord (a b : Mono) : ltOf ord a b = decide (b.key < a.key) := by
  unfold ltOf
  rw [decide_eq_decide]
  exact ord_lt a b

theorem swo_ord : SWO (ltOf ord) where
  irrefl x := by rw [ltOf_ord]; simp
  trans x y z h1 h2 := by rw [ltOf_ord] at *; simp at *; omega
  ntrans x y z h1 h2 := by rw [ltOf_ord] at *; simp at *; omega

theorem cmpLays_order (blk off size : Nat) (w : World) : CmpLays Try.prog 39 #[] Mono.cells 7 ord blk off size w :=
  fun m os dk _ x y => by
    show Calls Try.prog 39 #[.agg #[.int .i64 x.n, .int .u8 x.e0.toNat, .int .u8 x.e1.toNat, .int .u8 x.e2.toNat, .int .u8 x.e3.toNat, .int .u8 x.e4.toNat, .int .u8 x.e5.toNat], .agg #[.int .i64 y.n, .int .u8 y.e0.toNat, .int .u8 y.e1.toNat, .int .u8 y.e2.toNat, .int .u8 y.e3.toNat, .int .u8 y.e4.toNat, .int .u8 y.e5.toNat]] _ _
    exact (order_any x y _).mono fun _ _ ⟨he, q, o1, o2, hw⟩ => ⟨he, q, #[o1, o2], by rw [hw, alloc_eq_grow, alloc_eq_grow, grow_grow]; rfl⟩

theorem cells_one (x : Mono) : ∀ v ∈ x.cells, v.oneCell' = true := fun v hv => by
  simp only [Mono.cells, List.mem_cons, List.not_mem_nil, or_false] at hv
  rcases hv with rfl | rfl | rfl | rfl | rfl | rfl | rfl <;> rfl

/-- block g holds these monomials from its head on; none of the cells is frozen -/
def Row (w : World) (g : Nat) (l : List Mono) : Prop := HoldsK Mono.cells 7 w g 0 l.toArray

theorem sort_any (g cap : Nat) (l : List Mono) (w : World) (hH : Row w g l) (hg : g < w.heap.size) (hl : l.length < 4611686018427387904) :
    Calls Try.prog 46 #[.slice (some ⟨g, 0, none⟩) l.length cap, .func (.func 39) #[] #[]] w fun e w' =>
      e = .returned (.tuple #[]) ∧ ∃ l' : List Mono, l'.Perm l ∧ l'.Pairwise (fun a b => b.key ≤ a.key) ∧ Row w' g l' ∧ w.heap.size ≤ w'.heap.size ∧ w'.os = w.os ∧ w'.tape = w.tape ∧ w'.output = w.output ∧ (∀ k, k < w.heap.size → k ≠ g → w'.heap[k]? = w.heap[k]?) := by
  have eg : ∀ args w, (callFunc 39 args).run Try.prog w = .ok (.enter 39 args) w := enters_of Try.func39 (by kernel_rfl) rfl
  have hcon := AnyQ.slices_SortFunc Try.sortL 7 Try.isAgg39 Try.sizeOf39 Mono.cells (fun _ => rfl) cells_one ord swo_ord 39 #[] g 0 cap l.toArray w eg (cmpLays_order _ _ _ _) hH hg (by simpa using hl)
  change Calls Try.prog 46 #[.slice (some ⟨g, 0, none⟩) l.length cap, .func (.func 39) #[] #[]] w _ at hcon
  refine hcon.mono ?_
  rintro e w' ⟨he, d', n, os, hp, hs, rfl⟩
  obtain ⟨hsz, _, hpm⟩ := hp
  have hsz' : d'.size = l.length := by simpa using hsz
  refine ⟨he, d'.toList, ?_, ?_, ?_, ?_, rfl, rfl, rfl, ?_⟩
  · have e1 : d'.extract 0 l.toArray.size = d' := by
      apply Array.extract_eq_self_of_le
      rw [hsz]
      exact Nat.le_refl _
    have e2 : l.toArray.extract 0 l.toArray.size = l.toArray := Array.extract_eq_self_of_le (Nat.le_refl _)
    rw [e1, e2] at hpm
    exact hpm
  · rw [List.pairwise_iff_getElem]
    intro i j hi hj hij
    have hj' : j < d'.size := by simpa using hj
    have hi' : i < d'.size := by simpa using hi
    have h := hs i j (Nat.zero_le _) hij (by rw [← hsz]; exact hj')
    rw [getElem!_pos d' j hj', getElem!_pos d' i hi', ltOf_ord] at h
    simpa using h
  · show HoldsK Mono.cells 7 _ g 0 d'
    refine holdsK_grow Mono.cells 7 _ os g 0 d' (by simp [putRowK, Sort.ahead]; exact hg) ?_
    exact holdsK_putRowK Mono.cells 7 _ g 0 l.toArray d' hH hsz
  · simp [sortWorldK, grow, putRowK, Sort.ahead]
  · intro k hk hne
    have hk' : k < (putRowK Mono.cells 7 (Sort.ahead w n) g 0 d').heap.size := by simp [putRowK, Sort.ahead]; exact hk
    simp only [sortWorldK, grow]
    rw [Array.getElem?_append_left hk']
    simp only [putRowK, putRow, mapBlock, Sort.ahead]
    rw [Array.getElem?_modify, if_neg (Ne.symm hne)]

/-- .. at no monomial -/
theorem sort_none (A : Option Addr) (cap : Nat) (w : World) :
    Calls Try.prog 46 #[.slice A 0 cap, .func (.func 39) #[] #[]] w fun e w' => e = .returned (.tuple #[]) ∧ Below w.heap.size w w' := by
  have h := AnyF.slices_SortFunc_none Try.sortL A cap (.func (.func 39) #[] #[]) w
  change Calls Try.prog 46 _ w _ at h
  exact h.mono fun _ _ ⟨he, hw⟩ => ⟨he, by rw [hw]; exact Below.refl _ _⟩

end Go.Proofs.Ytndjaogjkchpaaa
