/- Data in memory that stays, with its addresses: slices, what lies in them; how a law's arguments, as they are read, lead to such data. (No seat's own types here.) -/
import Derived.Test.YtngkedmndhmjcaaGreatDoorTwo
import Derived.ProofKit
import Derived.OpenShut
import Derived.Carry
import Derived.SizedLaws
import Derived.Deep.Slices
namespace Go.Proofs.YtngkedmndhmjcaaGreatDoor
open Go.RowKit Go.ChangeShapes Go.WideShapes

/-- a slice with its place -/
structure Sl (α : Type) where
  addr : Option Addr
  cap : Nat
  list : List α
instance {α : Type} : Inhabited (Sl α) := ⟨none, 0, []⟩
def Sl.v {α : Type} (s : Sl α) : Value := .slice s.addr s.list.length s.cap

def Fact.and (f g : Fact) : Fact := ⟨fun S w => f.p S w ∧ g.p S w, fun hs ha h => ⟨f.mono hs ha h.1, g.mono hs ha h.2⟩⟩
def Fact.each {α : Type} (xs : List α) (g : α → Fact) : Fact := ⟨fun S w => ∀ x ∈ xs, (g x).p S w, fun hs ha h x hx => (g x).mono hs ha (h x hx)⟩
def Fact.true : Fact := ⟨fun _ _ => True, fun _ _ h => h⟩
section
variable {F : List Fact} {f g : Fact} {α : Type}
theorem Has.left (h : Has F (f.and g)) : Has F f := fun S w k => (h S w k).1
theorem Has.right (h : Has F (f.and g)) : Has F g := fun S w k => (h S w k).2
theorem Has.and (h : Has F f) (k : Has F g) : Has F (f.and g) := fun S w q => ⟨h S w q, k S w q⟩
theorem Has.each {xs : List α} {g : α → Fact} (h : Has F (Fact.each xs g)) {x : α} (hx : x ∈ xs) : Has F (g x) := fun S w k => h S w k x hx
theorem Has.true : Has F Fact.true := fun _ _ _ => trivial
end

/-- how an element lies in cells, and what is known of what it leads to -/
structure Ty (α : Type) where
  E : Flat α
  deep : α → Fact
/-- a slice in memory that stays, and all that it leads to -/
def Ty.sl {α : Type} (T : Ty α) (s : Sl α) : Fact := (T.E.sl s.v s.list).and (Fact.each s.list T.deep)
section
variable {F : List Fact} {α : Type} {T : Ty α}
theorem Has.cells {s : Sl α} (h : Has F (T.sl s)) : Has F (T.E.sl (.slice s.addr s.list.length s.cap) s.list) := h.left
theorem Has.at {s : Sl α} (h : Has F (T.sl s)) {k : Nat} {x : α} (hx : s.list[k]? = some x) : Has F (T.deep x) := h.right.each (List.mem_of_getElem? hx)
end

/-- what is read at a type leads to data -/
def Opens {α H : Type} (enc : TypeId × Value → H) (P : Program) (w : World) (t : TypeId) (cells : α → List Value) (deep : α → Fact) : Prop :=
  ∀ fuel cs x, DataW.trod enc P w 0 (fun _ => true) true fuel t cs = some x → (∀ n ∈ x.1.weights P t, n ≤ reachBytes) → ∃ a, cs = cells a ∧ (deep a).p (fun b => b < w.heap.size) w

section
variable {H : Type} {enc : TypeId × Value → H} {P : Program} {w : World} {t e : TypeId}

theorem spotOf {a : Addr} {v : Value} (h : w.cell? a = some v) : a.spot = none := by
  unfold World.cell? at h
  split at h
  · cases hs : a.spot with
    | none => rfl
    | some x => rw [hs] at h; simp at h
  · cases h

theorem opens_int {k : IntKind} (hu : P.underlying t = some (.int k)) : Opens enc P w t (fun z : Int => [.int k z]) (fun z => Fact.pure ((Lit.int k z).wf = true)) := fun fuel cs x h _ => by
  obtain ⟨n, e, _, hw⟩ := DataW.trod_int hu h
  exact ⟨n, e, hw⟩
theorem opens_bool (hu : P.underlying t = some .bool) : Opens enc P w t (fun z : Bool => [.bool z]) (fun _ => Fact.true) := fun fuel cs x h _ => by
  obtain ⟨n, e, _⟩ := DataW.trod_bool hu h
  exact ⟨n, e, trivial⟩
theorem opens_string (hu : P.underlying t = some .string) : Opens enc P w t (fun s : ByteArray => [.string s]) (fun s => Fact.pure (s.size ≤ 140737488355328)) := fun fuel cs x h hw => by
  obtain ⟨s, e, hx, _⟩ := DataW.trod_string hu h
  refine ⟨s, e, ?_⟩
  have := hw s.data.toList.length (by rw [hx]; simp only [DataW.weights, List.mem_singleton])
  have e2 : s.data.toList.length = s.size := by rw [Array.length_toList]; rfl
  rw [e2] at this
  show s.size ≤ _
  exact Nat.le_trans this (by decide)
theorem weights_all {d : DataW H} : ∀ {ds : List (DataW H)}, d ∈ ds → ∀ n ∈ d.weights P e, n ∈ DataW.weightsAll P e ds
  | [], h, _, _ => by simp at h
  | d0 :: ds, h, n, hn => by
    rw [DataW.weightsAll, List.mem_append]
    rcases List.mem_cons.1 h with rfl | h
    · exact .inl hn
    · exact .inr (weights_all h n hn)
theorem opens_slice {α : Type} [Inhabited α] {T : Ty α} (hu : P.underlying t = some (.slice e)) (hc : P.cellsOf e = T.E.size) (he : Opens enc P w e T.E.cells T.deep) :
    Opens enc P w t (fun s : Sl α => [s.v]) (fun s => (T.sl s).and (Fact.pure (s.list.length * P.bytesOf e ≤ 140737488355328))) := fun fuel cs x h hw => by
  rcases Deep.open_slice hu h with ⟨rfl, _⟩ | ⟨a, len, cap, m, n, D, Pl, rfl, _, hl, _, hm, rfl, hi⟩
  · exact ⟨⟨none, 0, []⟩, rfl, ⟨⟨none, 0, rfl, fun k x hk => by simp at hk⟩, fun x hx => by simp at hx⟩, by show 0 * _ ≤ _; omega⟩
  · have hlm : len ≤ m := by rw [hm]; simp; exact hl
    have hwl : len * P.bytesOf e ≤ 140737488355328 := by
      have := hw ((((List.range len).map D).length + ((List.range (m - len)).map fun j => D (len + j)).length) * P.bytesOf e) (by simp [DataW.weights, hu])
      have h2 : len * P.bytesOf e ≤ (len + (m - len)) * P.bytesOf e := Nat.mul_le_mul_right _ (by omega)
      simp only [List.length_map, List.length_range] at this
      unfold reachBytes at this
      omega
    have hel : ∀ i, i < len → ∃ q : α, (∀ j, j < T.E.size → w.cell? ((a.add (i * T.E.size)).add j) = (T.E.cells q)[j]?) ∧ (T.deep q).p (fun b => b < w.heap.size) w := fun i hil => by
      obtain ⟨cs', hc', ht⟩ := hi i (by omega)
      rw [hc] at hc'
      obtain ⟨_, hcl, hat⟩ := World.cells?_some hc'
      obtain ⟨q, hq, hd⟩ := he _ _ _ ht (fun n hn => hw n (by
        simp only [DataW.weights, hu, List.mem_cons, List.mem_append]
        exact .inr (.inl (weights_all (List.mem_map.2 ⟨i, by simpa using hil, rfl⟩) n hn))))
      exact ⟨q, fun j hj => by rw [hat j hj, hq], hd⟩
    obtain ⟨f, hf⟩ : ∃ f : Nat → α, ∀ i, i < len → (∀ j, j < T.E.size → w.cell? ((a.add (i * T.E.size)).add j) = (T.E.cells (f i))[j]?) ∧ (T.deep (f i)).p (fun b => b < w.heap.size) w :=
      ⟨fun i => if h : i < len then (hel i h).choose else default, fun i hil => by simp only [dif_pos hil]; exact (hel i hil).choose_spec⟩
    refine ⟨⟨some a, cap, (List.range len).map f⟩, by simp [Sl.v], ⟨⟨some a, cap, rfl, fun k q hk => ?_⟩, fun q hq => ?_⟩, by show ((List.range len).map f).length * _ ≤ _; simpa using hwl⟩
    · have hkl : k < len := by simpa using (List.getElem?_eq_some_iff.1 hk).1
      have hq : q = f k := by
        have := (List.getElem?_eq_some_iff.1 hk).2
        simpa using this.symm
      subst hq
      have hc := (hf k hkl).1
      obtain ⟨ab, ao, asp⟩ := a
      have hsp : asp = none := by
        have h0 := (hf 0 (by omega)).1 0 T.E.pos
        have hlt : 0 < (T.E.cells (f 0)).length := by rw [T.E.len]; exact T.E.pos
        rw [List.getElem?_eq_getElem hlt, Nat.zero_mul] at h0
        have h1 : w.cell? ⟨ab, ao, asp⟩ = some ((T.E.cells (f 0))[0]) := by simpa [Addr.add] using h0
        exact spotOf h1
      subst hsp
      have ea : ∀ o i, (⟨ab, o, none⟩ : Addr).add i = ⟨ab, o + i, none⟩ := fun o i => by
        unfold Addr.add
        split <;> simp_all
      refine ⟨ab, ao, T.E.cells (f k), rfl, ?_, fun j u hj => ?_, rfl⟩
      · have hlt : 0 < (T.E.cells (f k)).length := by rw [T.E.len]; exact T.E.pos
        have h0 := hc 0 T.E.pos
        rw [List.getElem?_eq_getElem hlt, ea, ea] at h0
        rcases Nat.lt_or_ge ab w.heap.size with hlt | hge
        · exact hlt
        · simp [World.cell?, Array.getElem?_eq_none hge] at h0
      · have hjl : j < T.E.size := by
          have := (List.getElem?_eq_some_iff.1 hj).1
          rwa [T.E.len] at this
        have := hc j hjl
        rw [ea, ea] at this
        exact this.trans hj
    · obtain ⟨i, hil, rfl⟩ := List.mem_map.1 hq
      exact (hf i (by simpa using hil)).2
/-- slices as elements; b: the bytes of one of their elements -/
def slE (α : Type) : Flat (Sl α) where
  size := 1
  cells := fun s => [.slice s.addr s.list.length s.cap]
  len := fun _ => rfl
  one := fun x u hu => by simp at hu; subst hu; rfl
  pos := by decide
def Ty.slice {α : Type} (T : Ty α) (b : Nat) : Ty (Sl α) := ⟨slE α, fun s => (T.sl s).and (Fact.pure (s.list.length * b ≤ 140737488355328))⟩
theorem opens_slice' {α : Type} [Inhabited α] {T : Ty α} {b : Nat} (hu : P.underlying t = some (.slice e)) (hc : P.cellsOf e = T.E.size) (hb : P.bytesOf e = b) (he : Opens enc P w e T.E.cells T.deep) : Opens enc P w t (T.slice b).E.cells (T.slice b).deep := by
  subst hb
  exact opens_slice hu hc he
theorem struct_weights {fs : Array Field} {ds : List (DataW H)} {R : Nat} (hu : P.underlying t = some (.struct fs)) (hw : ∀ n ∈ (DataW.agg ds).weights P t, n ≤ R) {j : Nat} {f : Field} (hf : fs[j]? = some f) {d : DataW H} (hd : ds[j]? = some d) : ∀ n ∈ d.weights P f.type, n ≤ R := fun n hn => by
  refine hw n ?_
  simp only [DataW.weights, hu]
  refine DataW.weights_mem_each (j := j) (t := f.type) (d := d) ?_ hd n hn
  have : fs.toList[j]? = some f := by simpa using hf
  simp [this]
/-- an argument of a law -/
theorem Opens.arg {α : Type} {cells : α → List Value} {deep : α → Fact} (h : Opens enc P w t cells deep) {v : Value} {d : DataW H} {p : List MemPlace} (ht : DataW.Trod enc P w 0 (fun _ => true) true t v d p) {ts : List TypeId} {ds : List (DataW H)} {j : Nat}
    (hsz : (DataW.weightsEach P ts ds).all (· ≤ reachBytes) = true) (hj : ts[j]? = some t) (hd : ds[j]? = some d) : ∃ a, v.cells.toList = cells a ∧ (deep a).p (fun b => b < w.heap.size) w := by
  obtain ⟨fuel, hf⟩ := ht
  exact h fuel _ _ hf fun n hn => by
    have := List.all_eq_true.1 hsz _ (DataW.weights_mem_each hj hd n hn)
    simpa using this
end
def intTy : Ty Int := ⟨intE, fun z => Fact.pure ((Lit.int .i64 z).wf = true)⟩
end Go.Proofs.YtngkedmndhmjcaaGreatDoor
