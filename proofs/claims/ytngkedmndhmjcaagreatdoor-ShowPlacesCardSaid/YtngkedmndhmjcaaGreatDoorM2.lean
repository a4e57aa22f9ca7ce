/- Texts of one proof, one behind the other: Open, Held, Str, Fun, Tys, Txt, LexA, Eq, LexS, LexB. -/
import Derived.Test.YtngkedmndhmjcaaGreatDoorM1
import Derived.ProofKit
import Derived.OpenShut
import Derived.Carry
import Derived.SizedLaws
import Derived.Deep.Slices
import Derived.Scope
import Derived.Test.YtngkedmndhmjcaaGreatDoorRows
import Derived.ChangeKeysEq
import Derived.Test.YtngkedmndhmjcaaGreatDoorShelf
import Derived.Lib.SmallJoins
/- Data in memory that stays, with its addresses: slices, what lies in them; how a law's arguments, as they are read, lead to such data. (No seat's own types here.) -/
namespace Go.Proofs.YtngkedmndhmjcaaGreatDoor
open Go.RowKit Go.ChangeShapes Go.WideShapes

/-- a slice with its place -/
structure Sl (α : Type) where
  addr : Option Addr
  cap : Nat
  list : List α
instance {α : Type} : Inhabited (Sl α) := ⟨none, 0, []⟩
def Sl.v {α : Type} (s : Sl α) : Value := .slice s.addr s.list.length s.cap

def Fact.and (f g : Fact) : Fact := ⟨fun S w => f.p S w ∧ g.p S w, fun hs ha h => ⟨f.mono hs ha h.1, g.mono hs ha h.2⟩⟩
def Fact.each {α : Type} (xs : List α) (g : α → Fact) : Fact := ⟨fun S w => ∀ x ∈ xs, (g x).p S w, fun hs ha h x hx => (g x).mono hs ha (h x hx)⟩
def Fact.true : Fact := ⟨fun _ _ => True, fun _ _ h => h⟩
section
variable {F : List Fact} {f g : Fact} {α : Type}
theorem Has.left (h : Has F (f.and g)) : Has F f := fun S w k => (h S w k).1
theorem Has.right (h : Has F (f.and g)) : Has F g := fun S w k => (h S w k).2
theorem Has.and (h : Has F f) (k : Has F g) : Has F (f.and g) := fun S w q => ⟨h S w q, k S w q⟩
theorem Has.each {xs : List α} {g : α → Fact} (h : Has F (Fact.each xs g)) {x : α} (hx : x ∈ xs) : Has F (g x) := fun S w k => h S w k x hx
theorem Has.true : Has F Fact.true := fun _ _ _ => trivial
end

/-- how an element lies in cells, and what is known of what it leads to -/
structure Ty (α : Type) where
  E : Flat α
  deep : α → Fact
/-- a slice in memory that stays, and all that it leads to -/
def Ty.sl {α : Type} (T : Ty α) (s : Sl α) : Fact := (T.E.sl s.v s.list).and (Fact.each s.list T.deep)
section
variable {F : List Fact} {α : Type} {T : Ty α}
theorem Has.cells {s : Sl α} (h : Has F (T.sl s)) : Has F (T.E.sl (.slice s.addr s.list.length s.cap) s.list) := h.left
theorem Has.at {s : Sl α} (h : Has F (T.sl s)) {k : Nat} {x : α} (hx : s.list[k]? = some x) : Has F (T.deep x) := h.right.each (List.mem_of_getElem? hx)
end

/-- what is read at a type leads to data -/
def Opens {α H : Type} (enc : TypeId × Value → H) (P : Program) (w : World) (t : TypeId) (cells : α → List Value) (deep : α → Fact) : Prop :=
  ∀ fuel cs x, DataW.trod enc P w 0 (fun _ => true) true fuel t cs = some x → (∀ n ∈ x.1.weights P t, n ≤ reachBytes) → ∃ a, cs = cells a ∧ (deep a).p (fun b => b < w.heap.size) w

section
variable {H : Type} {enc : TypeId × Value → H} {P : Program} {w : World} {t e : TypeId}

theorem spotOf {a : Addr} {v : Value} (h : w.cell? a = some v) : a.spot = none := by
  unfold World.cell? at h
  split at h
  · cases hs : a.spot with
    | none => rfl
    | some x => rw [hs] at h; simp at h
  · cases h

theorem opens_int {k : IntKind} (hu : P.underlying t = some (.int k)) : Opens enc P w t (fun z : Int => [.int k z]) (fun z => Fact.pure ((Lit.int k z).wf = true)) := fun fuel cs x h _ => by
  obtain ⟨n, e, _, hw⟩ := DataW.trod_int hu h
  exact ⟨n, e, hw⟩
theorem opens_bool (hu : P.underlying t = some .bool) : Opens enc P w t (fun z : Bool => [.bool z]) (fun _ => Fact.true) := fun fuel cs x h _ => by
  obtain ⟨n, e, _⟩ := DataW.trod_bool hu h
  exact ⟨n, e, trivial⟩
theorem opens_string (hu : P.underlying t = some .string) : Opens enc P w t (fun s : ByteArray => [.string s]) (fun s => Fact.pure (s.size ≤ 140737488355328)) := fun fuel cs x h hw => by
  obtain ⟨s, e, hx, _⟩ := DataW.trod_string hu h
  refine ⟨s, e, ?_⟩
  have := hw s.data.toList.length (by rw [hx]; simp only [DataW.weights, List.mem_singleton])
  have e2 : s.data.toList.length = s.size := by rw [Array.length_toList]; rfl
  rw [e2] at this
  show s.size ≤ _
  exact Nat.le_trans this (by decide)
theorem weights_all {d : DataW H} : ∀ {ds : List (DataW H)}, d ∈ ds → ∀ n ∈ d.weights P e, n ∈ DataW.weightsAll P e ds
  | [], h, _, _ => by simp at h
  | d0 :: ds, h, n, hn => by
    rw [DataW.weightsAll, List.mem_append]
    rcases List.mem_cons.1 h with rfl | h
    · exact .inl hn
    · exact .inr (weights_all h n hn)
theorem opens_slice {α : Type} [Inhabited α] {T : Ty α} (hu : P.underlying t = some (.slice e)) (hc : P.cellsOf e = T.E.size) (he : Opens enc P w e T.E.cells T.deep) :
    Opens enc P w t (fun s : Sl α => [s.v]) (fun s => (T.sl s).and (Fact.pure (s.list.length * P.bytesOf e ≤ 140737488355328))) := fun fuel cs x h hw => by
  rcases Deep.open_slice hu h with ⟨rfl, _⟩ | ⟨a, len, cap, m, n, D, Pl, rfl, _, hl, _, hm, rfl, hi⟩
  · exact ⟨⟨none, 0, []⟩, rfl, ⟨⟨none, 0, rfl, fun k x hk => by simp at hk⟩, fun x hx => by simp at hx⟩, by show 0 * _ ≤ _; omega⟩
  · have hlm : len ≤ m := by rw [hm]; simp; exact hl
    have hwl : len * P.bytesOf e ≤ 140737488355328 := by
      have := hw ((((List.range len).map D).length + ((List.range (m - len)).map fun j => D (len + j)).length) * P.bytesOf e) (by simp [DataW.weights, hu])
      have h2 : len * P.bytesOf e ≤ (len + (m - len)) * P.bytesOf e := Nat.mul_le_mul_right _ (by omega)
      simp only [List.length_map, List.length_range] at this
      unfold reachBytes at this
      omega
    have hel : ∀ i, i < len → ∃ q : α, (∀ j, j < T.E.size → w.cell? ((a.add (i * T.E.size)).add j) = (T.E.cells q)[j]?) ∧ (T.deep q).p (fun b => b < w.heap.size) w := fun i hil => by
      obtain ⟨cs', hc', ht⟩ := hi i (by omega)
      rw [hc] at hc'
      obtain ⟨_, hcl, hat⟩ := World.cells?_some hc'
      obtain ⟨q, hq, hd⟩ := he _ _ _ ht (fun n hn => hw n (by
        simp only [DataW.weights, hu, List.mem_cons, List.mem_append]
        exact .inr (.inl (weights_all (List.mem_map.2 ⟨i, by simpa using hil, rfl⟩) n hn))))
      exact ⟨q, fun j hj => by rw [hat j hj, hq], hd⟩
    obtain ⟨f, hf⟩ : ∃ f : Nat → α, ∀ i, i < len → (∀ j, j < T.E.size → w.cell? ((a.add (i * T.E.size)).add j) = (T.E.cells (f i))[j]?) ∧ (T.deep (f i)).p (fun b => b < w.heap.size) w :=
      ⟨fun i => if h : i < len then (hel i h).choose else default, fun i hil => by simp only [dif_pos hil]; exact (hel i hil).choose_spec⟩
    refine ⟨⟨some a, cap, (List.range len).map f⟩, by simp [Sl.v], ⟨⟨some a, cap, rfl, fun k q hk => ?_⟩, fun q hq => ?_⟩, by show ((List.range len).map f).length * _ ≤ _; simpa using hwl⟩
    · have hkl : k < len := by simpa using (List.getElem?_eq_some_iff.1 hk).1
      have hq : q = f k := by
        have := (List.getElem?_eq_some_iff.1 hk).2
        simpa using this.symm
      subst hq
      have hc := (hf k hkl).1
      obtain ⟨ab, ao, asp⟩ := a
      have hsp : asp = none := by
        have h0 := (hf 0 (by omega)).1 0 T.E.pos
        have hlt : 0 < (T.E.cells (f 0)).length := by rw [T.E.len]; exact T.E.pos
        rw [List.getElem?_eq_getElem hlt, Nat.zero_mul] at h0
        have h1 : w.cell? ⟨ab, ao, asp⟩ = some ((T.E.cells (f 0))[0]) := by simpa [Addr.add] using h0
        exact spotOf h1
      subst hsp
      have ea : ∀ o i, (⟨ab, o, none⟩ : Addr).add i = ⟨ab, o + i, none⟩ := fun o i => by
        unfold Addr.add
        split <;> simp_all
      refine ⟨ab, ao, T.E.cells (f k), rfl, ?_, fun j u hj => ?_, rfl⟩
      · have hlt : 0 < (T.E.cells (f k)).length := by rw [T.E.len]; exact T.E.pos
        have h0 := hc 0 T.E.pos
        rw [List.getElem?_eq_getElem hlt, ea, ea] at h0
        rcases Nat.lt_or_ge ab w.heap.size with hlt | hge
        · exact hlt
        · simp [World.cell?, Array.getElem?_eq_none hge] at h0
      · have hjl : j < T.E.size := by
          have := (List.getElem?_eq_some_iff.1 hj).1
          rwa [T.E.len] at this
        have := hc j hjl
        rw [ea, ea] at this
        exact this.trans hj
    · obtain ⟨i, hil, rfl⟩ := List.mem_map.1 hq
      exact (hf i (by simpa using hil)).2
/-- slices as elements; b: the bytes of one of their elements -/
def slE (α : Type) : Flat (Sl α) where
  size := 1
  cells := fun s => [.slice s.addr s.list.length s.cap]
  len := fun _ => rfl
  one := fun x u hu => by simp at hu; subst hu; rfl
  pos := by decide
def Ty.slice {α : Type} (T : Ty α) (b : Nat) : Ty (Sl α) := ⟨slE α, fun s => (T.sl s).and (Fact.pure (s.list.length * b ≤ 140737488355328))⟩
theorem opens_slice' {α : Type} [Inhabited α] {T : Ty α} {b : Nat} (hu : P.underlying t = some (.slice e)) (hc : P.cellsOf e = T.E.size) (hb : P.bytesOf e = b) (he : Opens enc P w e T.E.cells T.deep) : Opens enc P w t (T.slice b).E.cells (T.slice b).deep := by
  subst hb
  exact opens_slice hu hc he
theorem struct_weights {fs : Array Field} {ds : List (DataW H)} {R : Nat} (hu : P.underlying t = some (.struct fs)) (hw : ∀ n ∈ (DataW.agg ds).weights P t, n ≤ R) {j : Nat} {f : Field} (hf : fs[j]? = some f) {d : DataW H} (hd : ds[j]? = some d) : ∀ n ∈ d.weights P f.type, n ≤ R := fun n hn => by
  refine hw n ?_
  simp only [DataW.weights, hu]
  refine DataW.weights_mem_each (j := j) (t := f.type) (d := d) ?_ hd n hn
  have : fs.toList[j]? = some f := by simpa using hf
  simp [this]
/-- an argument of a law -/
theorem Opens.arg {α : Type} {cells : α → List Value} {deep : α → Fact} (h : Opens enc P w t cells deep) {v : Value} {d : DataW H} {p : List MemPlace} (ht : DataW.Trod enc P w 0 (fun _ => true) true t v d p) {ts : List TypeId} {ds : List (DataW H)} {j : Nat}
    (hsz : (DataW.weightsEach P ts ds).all (· ≤ reachBytes) = true) (hj : ts[j]? = some t) (hd : ds[j]? = some d) : ∃ a, v.cells.toList = cells a ∧ (deep a).p (fun b => b < w.heap.size) w := by
  obtain ⟨fuel, hf⟩ := ht
  exact h fuel _ _ hf fun n hn => by
    have := List.all_eq_true.1 hsz _ (DataW.weights_mem_each hj hd n hn)
    simpa using this
end
def intTy : Ty Int := ⟨intE, fun z => Fact.pure ((Lit.int .i64 z).wf = true)⟩
end Go.Proofs.YtngkedmndhmjcaaGreatDoor
/- The engine: rows in a block of the call's own of which no more is known (held); append of what may be empty; a slice literal without elements. -/
namespace Go.Proofs.YtngkedmndhmjcaaGreatDoor
open Go.RowKit

def setArr : Array Value → Nat → List Value → Array Value
  | cs, _, [] => cs
  | cs, o, v :: r => setArr (cs.setIfInBounds o v) (o + 1) r
theorem setArr_list : ∀ (vs : List Value) (cs : Array Value) (o : Nat), (setArr cs o vs).toList = setAllV cs.toList o vs
  | [], _, _ => rfl
  | v :: r, cs, o => by rw [setArr, setAllV, setArr_list r]; simp
theorem setAllV_len : ∀ (vs xs : List Value) (j : Nat), (setAllV xs j vs).length = xs.length
  | [], _, _ => rfl
  | v :: r, xs, j => by rw [setAllV, setAllV_len r]; simp
theorem heap_setCells {g : Nat} {t : TypeId} {fz : Nat × Nat} : ∀ (vs : List Value) (o : Nat) (w : World) (cs : Array Value), w.heap[g]? = some (.cells cs t fz) → (w.setCells g o vs).heap[g]? = some (.cells (setArr cs o vs) t fz)
  | [], _, _, _, h => h
  | v :: r, o, w, cs, h => by
    rw [World.setCells, setArr]
    refine heap_setCells r (o + 1) _ _ ?_
    simp [World.setCell, Array.getElem?_modify, h]
theorem set_keeps {off : Nat} : ∀ (vs bs cs : List Value) (p : Nat), (∀ j u, bs[j]? = some u → cs[off + j]? = some u) → ∀ j u, (setAllV bs p vs)[j]? = some u → (setAllV cs (off + p) vs)[off + j]? = some u
  | [], _, _, _, h => h
  | v :: r, bs, cs, p, h => by
    rw [setAllV, setAllV]
    refine set_keeps r (bs.set p v) (cs.set (off + p) v) (p + 1) fun j u hj => ?_
    by_cases e : p = j
    · subst e
      have hlt := (List.getElem?_eq_some_iff.1 hj).1
      rw [List.length_set] at hlt
      rw [List.getElem?_set_self hlt] at hj
      have := h p _ (List.getElem?_eq_getElem hlt)
      rw [List.getElem?_set_self (List.getElem?_eq_some_iff.1 this).1]
      exact hj
    · rw [List.getElem?_set_ne e] at hj
      rw [List.getElem?_set_ne (by omega)]
      exact h j u hj

section
variable {P : Program} {β : Base} {n : Nat} {Γ : Env} {H : List Chunk} {F : List Fact} {Q : Exit → Act → World → Prop} {K : Act → World → Prop} {T : Tab} {α : Type} {E : Flat α}

def heldBlk (v : Value) : List α → Option Nat
  | [] => none
  | _ :: _ => v.ownBlock
/-- a row in a block of the call's own: of the block no more is known -/
def Flat.held (E : Flat α) (v : Value) (xs : List α) : Chunk := .gen (heldBlk v xs) fun o => ∃ A cap, v = .slice A xs.length cap ∧ (xs = [] ∨ ∃ g off cs t fz, A = some ⟨g, off, none⟩ ∧ o = some (.cells cs t fz) ∧ ∀ j u, (E.all xs)[j]? = some u → cs.toList[off + j]? = some u ∧ (fz.1 ≤ off + j && off + j < fz.2) = false)

theorem held_open {w : World} {v : Value} {xs : List α} (h : (E.held v xs).ok w) {k : Nat} (hk : k < xs.length) : ∃ g off cap cs t fz, v = .slice (some ⟨g, off, none⟩) xs.length cap ∧ (E.held v xs).blk = some g ∧ w.heap[g]? = some (.cells cs t fz) ∧
    ∀ j u, (E.all xs)[j]? = some u → cs.toList[off + j]? = some u ∧ (fz.1 ≤ off + j && off + j < fz.2) = false := by
  obtain ⟨A, cap, e, h⟩ := h
  rcases h with h | ⟨g, off, cs, t, fz, e1, e2, h⟩
  · subst h
    simp at hk
  · subst e
    subst e1
    cases xs with
    | nil => simp at hk
    | cons x r => exact ⟨g, off, cap, cs, t, fz, rfl, rfl, e2, h⟩
theorem held_reads {w : World} {v : Value} {xs : List α} (h : (E.held v xs).ok w) {S : Zone} (hS : ∀ b, (E.held v xs).blk = some b → S b) : (E.sl v xs).p S w := by
  have h0 := h
  obtain ⟨A, cap, e, _⟩ := h
  refine ⟨A, cap, e, fun k x hk => ?_⟩
  obtain ⟨g, off, cap', cs, t, fz, e1, hb, hh, hc⟩ := held_open h0 (List.getElem?_eq_some_iff.1 hk).1
  rw [e] at e1
  injection e1 with e1
  subst e1
  refine ⟨g, off, E.cells x, rfl, hS g hb, fun j u hj => ?_, rfl⟩
  have := (hc _ _ (E.all_get hk hj)).1
  show w.cell? ⟨g, off + k * E.size + j, none⟩ = some u
  unfold World.cell?
  rw [hh]
  rw [Nat.add_assoc]
  simpa using this
theorem reads_held {A : Option Addr} {m cap : Nat} {xs : List α} {H' : List Chunk} (hH : Take H (E.held (.slice A m cap) xs) H') : Reads β H F E A xs := fun w S s _ i x hi => by
  have h := held_reads (S := fun _ => True) (s.ok _ hH.mem) (fun _ _ => trivial)
  obtain ⟨A', c', e, h⟩ := h
  obtain ⟨b, o, cs, e1, e2, e3, e4⟩ := h i x hi
  injection e with e
  subst e
  subst e1
  have e4 : cs = E.cells x := e4
  subst e4
  exact ⟨⟨b, o, rfl⟩, e3⟩
theorem lends_held {v : Value} {xs : List α} {L : List Chunk} {G : List Fact} (h : Lends L G) : Lends (E.held v xs :: L) (E.sl v xs :: G) := fun S w hok hS =>
  All.cons (held_reads (hok _ (List.mem_cons_self ..)) fun b hb => hS _ (List.mem_cons_self ..) b hb) (h S w (fun c hc => hok c (List.mem_cons_of_mem _ hc)) fun c hc => hS c (List.mem_cons_of_mem _ hc))
theorem at_store_held {ops : Array Oper} {rest : List Oper} {o : Oper} (hT : TabOk P T) {t k fo m cap : Nat} {p x : Operand} {v : Value} {vs : List Value} {i : TI} {A : Option Addr} {xs : List α} {y y' : α} {H' : List Chunk} (hH : Take H (E.held (.slice A m cap) xs) H') (hw : want ops Γ o = some true) (ho : o.op = .store t p x) (hd : o.dst = none)
    (hp : Γ.ev p = some (.pointer (some ⟨ablk A, aoff A + k * E.size + fo, none⟩))) (hx : Γ.ev x = some v) (ht : T.get t = some i) (hc : v.cells = vs.toArray) (hs : Nat.beq vs.length i.size = true)
    (h1 : vs.all (·.oneCell') = true) (hk : xs[k]? = some y) (hput : paste (E.cells y) fo vs = some (E.cells y')) (K : At β n Γ (E.held (.slice A m cap) (xs.set k y') :: H') F (wpList P ops Q rest)) : At β n Γ H F (wpList P ops Q (o :: rest)) :=
  at_step hw fun a w S f s hF => by
    have hlt : k < xs.length := (List.getElem?_eq_some_iff.1 hk).1
    have hok := s.ok _ hH.mem
    obtain ⟨g, off, cap', cs, t', fz, e, hblk, hh, hcs⟩ := held_open hok hlt
    injection e with e1 e2 e3
    subst e1 e2 e3
    have hb := (paste_spec hput).1
    rw [E.len] at hb
    have hmul : (k + 1) * E.size ≤ xs.length * E.size := Nat.mul_le_mul_right _ hlt
    rw [Nat.add_mul, Nat.one_mul] at hmul
    have hal : ∀ j, j < vs.length → ∃ u, (E.all xs)[k * E.size + fo + j]? = some u := fun j hj => ⟨_, List.getElem?_eq_getElem (by rw [E.all_length]; omega)⟩
    have hth : w.there g (off + k * E.size + fo) vs.length := fun j hj => by
      obtain ⟨u, hu⟩ := hal j hj
      obtain ⟨q1, q2⟩ := hcs _ _ hu
      have e : off + k * E.size + fo + j = off + (k * E.size + fo + j) := by omega
      refine ⟨?_, ?_⟩
      · rw [e]
        unfold World.cell?
        rw [hh]
        have : cs[off + (k * E.size + fo + j)]? = some u := by simpa using q1
        simp [this]
      · rw [e]
        unfold World.frozen?
        rw [hh]
        exact q2
    have hst := run_storeCells_cells (P := P) g (off + k * E.size + fo) vs 0 w (fun j hj => by simpa using (hth j hj).1) (fun j hj => by simpa using (hth j hj).2) (fun u hu => by simpa using (List.all_eq_true.1 h1) u hu)
    rw [Nat.add_zero] at hst
    have hsz : v.cells.size = i.size := by rw [hc]; simpa using Nat.eq_of_beq_eq_true hs
    have hr : (execOp a.eval o).run P w = .ok .skip (w.setCells g (off + k * E.size + fo) vs) := by
      unfold execOp
      simp only [ho, f.ev hp, f.ev hx, Instr.storeAt, Instr.sureAddr, storeVar, Sem.run_bind, Sem.run_pure, Result.andThen_ok, hT.size ht, hsz, ablk, aoff]
      simp [hc, hst]
    unfold Oper.wp
    rw [hr, Oper.upon_skip, hd]
    have s2 := s.perm hH.perm
    have hblk' : (E.held (.slice (some ⟨g, off, none⟩) xs.length cap) (xs.set k y')).blk = some g := by
      cases xs with
      | nil => simp at hlt
      | cons x0 r => cases k <;> rfl
    refine K _ _ S (f.put_none _) (s2.swap (kept_setCells g vs _ w) hblk hblk' ?_) (All.mono (fun _ h => h) (s.agree (kept_setCells g vs _ w) (fun c hc e => by subst e; exact (s2.own _ (List.mem_cons_self ..) _ hblk).2.2 hc)) hF)
    refine ⟨_, cap, by rw [List.length_set], .inr ⟨g, off, setArr cs (off + k * E.size + fo) vs, t', fz, rfl, ?_, fun j u hj => ?_⟩⟩
    · have : heldBlk (Value.slice (some ⟨g, off, none⟩) xs.length cap) (xs.set k y') = some g := hblk'
      rw [this]
      exact heap_setCells vs _ w cs hh
    · rw [← E.all_set hk hput] at hj
      rw [setArr_list]
      have e : off + k * E.size + fo = off + (k * E.size + fo) := by omega
      rw [e]
      refine ⟨set_keeps vs (E.all xs) cs.toList _ (fun j u hj => (hcs j u hj).1) j u hj, ?_⟩
      have hjl : j < (E.all xs).length := by
        have := (List.getElem?_eq_some_iff.1 hj).1
        rw [setAllV_len] at this
        exact this
      exact (hcs _ _ (List.getElem?_eq_getElem hjl)).2

/-- append to a row of the call's own of elements that lie in memory; there may be none -/
theorem at_append_all {ops : Array Oper} {rest : List Oper} {o : Oper} {d : Nat} {x y : Operand} {t e : TypeId} {i : TypeInfo} {z : Value} {by_ c q : Nat} {v : Value} {A : Option Addr} {xs ys : List α} {H' : List Chunk} (hH : Take H (E.row v e xs) H') (hr : Reads β H F E A ys) (hg : o.guard = none)
    (ho : o.op = .call { callee := .builtin .append, args := #[x, y], argTypes := #[t, t] }) (hd : o.dst = some d) (hn : Nat.blt d n = true) (hu : P.underlying t = some (.slice e)) (hi : P.info? e = some i) (hz : i.zero = some z) (hsize : i.size = E.size) (hby : i.bytes = by_) (hzs : z.cells.size = E.size)
    (hx : Γ.ev x = some v) (hy : Γ.ev y = some (.slice A q c)) (hq : q = ys.length) (hbytes : (xs.length + ys.length) * by_ ≤ 140737488355328) (hpos : 0 < by_)
    (k : ∀ A' cap', At β n ((d, .slice A' (xs ++ ys).length cap') :: Γ) (E.row (.slice A' (xs ++ ys).length cap') e (xs ++ ys) :: H') F (wpList P ops Q rest)) : At β n Γ H F (wpList P ops Q (o :: rest)) := by
  by_cases hne : 0 < ys.length
  · exact at_append_elems hH hr hg ho hd hn hu hi hz hsize hby hzs hx hy hq hne hbytes hpos k
  · have h0 : ys = [] := List.eq_nil_of_length_eq_zero (by omega)
    subst h0
    subst hq
    simp only [List.append_nil] at k
    refine at_rowv hH fun A' cap' e => ?_
    subst e
    cases A with
    | none =>
      have hw : want ops Γ o = some true := by unfold want; rw [hg]
      refine at_step hw fun a w S f s hF => ?_
      have hown : w.ownsRow 0 e E.size (.slice A' xs.length cap') xs.length (E.all xs) := s.ok _ hH.mem
      have hr' : (Builtin.append_ #[t, t] o.type #[.slice A' xs.length cap', .slice none 0 c]).run P w = .ok (.slice A' xs.length cap') w := by
        rcases hown.2 with ⟨e, e0⟩ | ⟨g, cap, cur, e, _, _, hnc, _⟩
        · injection e with e1 e2 e3
          subst e1 e3
          rw [e2]
          simp [Builtin.append_, run_underlying hu, sizeOf, typeInfo, hi, Builtin.lenOf, Builtin.firstCells]
        · injection e with e1 e2 e3
          subst e1 e3
          simp [Builtin.append_, run_underlying hu, sizeOf, typeInfo, hi, Builtin.lenOf, Builtin.firstCells, hnc, storeCells]
      have hx2 : (execOp a.eval o).run P w = .ok (.value (.slice A' xs.length cap')) w := by
        unfold execOp
        simp only [ho, resolve, invoke, builtin, Sem.run_bind, Sem.run_pure, Result.andThen_ok, List.map_toArray, List.map_cons, List.map_nil, f.ev hx, f.ev hy, List.length_nil, hr']
      unfold Oper.wp
      rw [hx2, Oper.upon_value, hd]
      exact k A' cap' _ _ S (f.put (by simpa [Nat.blt_eq] using hn) _) (s.perm hH.perm) hF
    | some ad =>
      intro a w S f s hF
      have hown : w.ownsRow 0 e E.size (.slice A' xs.length cap') xs.length (E.all xs) := s.ok _ hH.mem
      have hb' : xs.length * by_ ≤ 140737488355328 := by simpa using hbytes
      have h63 : xs.length ≤ maxLen := by
        have : xs.length ≤ xs.length * by_ := Nat.le_mul_of_pos_right _ hpos
        simp [maxLen]
        omega
      refine wpList_append_own_at w hg x y t ho 0 e i z E.size by_ hu hi hz hsize hby hzs E.pos _ xs.length (E.all xs) (f.ev hx) hown ad 0 c [] (f.ev hy) (by simp) (fun j u hj => by simp at hj) (by simp) h63 hb' (Nat.zero_le _) ?_
      intro v' w' hown' hgrow _ hat
      rw [List.append_nil] at hown'
      have s2 := s.perm hH.perm
      rw [hd]
      have s3 := s2.swap_row (kept_grown hgrow) hat hown'
      refine at_row (β := β) (n := n) (Γ := (d, v') :: Γ) (H := .row v' e E.size (xs.length + 0) (E.all xs) :: H') (F := F) (K := wpList P ops Q rest) .head (fun _ ⟨A2, cap2, e2, _⟩ => ?_) _ _ S (f.put (by simpa [Nat.blt_eq] using hn) _) s3 (All.mono (fun _ h => h) (s.agree (kept_grown hgrow) (fun b hb e => (s2.own _ (List.mem_cons_self ..) b e.symm).2.2 hb)) hF)
      subst e2
      exact k A2 cap2
/-- a slice literal without elements -/
theorem at_build0 {ops : Array Oper} {rest : List Oper} {o : Oper} {d : Nat} {t e : TypeId} {ie : TypeInfo} (E : Flat α) (hw : want ops Γ o = some true) (ho : o.op = .buildSlice t 0 #[]) (hd : o.dst = some d) (hn : Nat.blt d n = true)
    (hu : P.underlying t = some (.slice e)) (hie : P.info? e = some ie)
    (k : ∀ b, At β n ((d, .slice (some ⟨b, 0, none⟩) 0 0) :: Γ) (E.row (.slice (some ⟨b, 0, none⟩) 0 0) e [] :: H) F (wpList P ops Q rest)) : At β n Γ H F (wpList P ops Q (o :: rest)) := by
  refine at_build (m := 0) (parts := #[]) (e := e) (cs := []) hw ho hd hn (fun a w f => ?_) fun b => ?_
  · simp [Instr.buildSlice, run_underlying hu, sizeOf, typeInfo, hie, newRow, Instr.fill, Array.range_zero']
  · intro a w S f s hF
    have hok : w.heap[b]? = some (.cells #[] e (0, 0)) := s.ok _ (List.mem_cons_self ..)
    refine k b a w S f ⟨s.kept, fun c hc => ?_, fun c hc b' hb => ?_, ?_, s.zone⟩ hF
    · rcases List.mem_cons.1 hc with rfl | hc
      · exact ⟨by simp [Flat.all], .inr ⟨b, 0, #[], rfl, Nat.zero_le _, hok, Nat.le_refl _, by simp [maxLen], by simp, by simp [Flat.all]⟩⟩
      · exact s.ok c (List.mem_cons_of_mem _ hc)
    · rcases List.mem_cons.1 hc with rfl | hc
      · exact s.own (.obj b (.cells #[] e)) (List.mem_cons_self ..) b' hb
      · exact s.own c (List.mem_cons_of_mem _ hc) b' hb
    · have hp := List.pairwise_cons.1 s.sep
      exact List.pairwise_cons.2 ⟨fun d hd b hb => hp.1 d hd b hb, hp.2⟩
end
end Go.Proofs.YtngkedmndhmjcaaGreatDoor
/- The engine: strings as lists of bytes: joining, bytes by their place, parts; values of functions called; variables of functions. -/
namespace Go.Proofs.YtngkedmndhmjcaaGreatDoor
open Go.RowKit

abbrev Bs := List UInt8
/-- a text as a value's bytes -/
def bs (l : Bs) : ByteArray := ⟨l.toArray⟩
theorem bs_size (l : Bs) : (bs l).size = l.length := rfl
theorem bs_data (l : Bs) : (bs l).data.toList = l := rfl
theorem bs_eq (s : ByteArray) : bs s.data.toList = s := rfl
theorem bs_inj {a b : Bs} (h : bs a = bs b) : a = b := congrArg (fun s : ByteArray => s.data.toList) h

section
variable {P : Program} {β : Base} {n : Nat} {Γ : Env} {H : List Chunk} {F : List Fact} {Q : Exit → Act → World → Prop} {K : Act → World → Prop} {T : Tab} {α : Type} {E : Flat α}

theorem sti_cat {o : Oper} {t tt : TypeId} {x y : Operand} {a b : Bs} (ho : o.op = .binOp .add t x y tt) (hx : Γ.ev x = some (.string (bs a))) (hy : Γ.ev y = some (.string (bs b))) (hl : a.length + b.length ≤ 9223372036854775807) : Sti P β n Γ H F o (.string (bs (a ++ b))) := fun c w S f s k => by
  have hl' : ¬ (((bs a).size + (bs b).size : Nat) : Int) > IntKind.i64.max := by
    rw [bs_size, bs_size]
    simp [IntKind.max, IntKind.signed, IntKind.bits]
    omega
  have e : bs a ++ bs b = bs (a ++ b) := by
    apply ByteArray.ext
    simp [bs]
  unfold execOp
  simp only [ho, f.ev hx, f.ev hy, eqGuard, binOp, Op.stringOp, if_neg hl', e]
  rfl
theorem sti_sindex (hT : TabOk P T) {o : Oper} {t k sz : Nat} {x i : Operand} {kk : IntKind} {z : Int} {a : Bs} {b : UInt8} (ho : o.op = .index t x i) (hx : Γ.ev x = some (.string (bs a))) (hi : Γ.ev i = some (.int kk z)) (ht : T.get t = some ⟨.string, sz⟩) (hz : z = (k : Nat)) (hb : a[k]? = some b) :
    Sti P β n Γ H F o (.int .u8 b.toNat) := fun c w S f s _ => by
  subst hz
  obtain ⟨hk, hb⟩ := List.getElem?_eq_some_iff.1 hb
  have hr := run_index_string (P := P) w t (bs a) kk (k : Int) (by
    have := hT.string ht w
    obtain ⟨d, hu, hd⟩ := hT.any ht
    cases d <;> simp [TD.of] at hd
    exact hu)
  rw [dif_pos ⟨by omega, by rw [bs_size]; omega⟩] at hr
  have e : (bs a)[(k : Int).toNat]'(by rw [bs_size]; simpa using hk) = b := by
    rw [← hb]
    simp [bs, ByteArray.getElem_eq_getElem_data]
  unfold execOp
  simp only [ho, f.ev hx, f.ev hi]
  rw [Sem.run_bind, hr, e]
  rfl
theorem TabOk.str (hT : TabOk P T) {t sz : Nat} (ht : T.get t = some ⟨.string, sz⟩) : P.underlying t = some .string := by
  obtain ⟨d, hu, hd⟩ := hT.any ht
  cases d <;> simp [TD.of] at hd
  exact hu
theorem run_slice_s (hT : TabOk P T) {t sz : Nat} (ht : T.get t = some ⟨.string, sz⟩) (a : Bs) (lo hi mx : Option Value) (w : World) : (Instr.sliceAt t (.string (bs a)) lo hi mx).run P w = (Instr.slice t (.string (bs a)) lo hi mx).run P w := by
  have hu := hT.str ht
  simp [Instr.sliceAt, run_underlying hu]
theorem sti_sfrom (hT : TabOk P T) {o : Oper} {t k sz : Nat} {x i : Operand} {kk : IntKind} {z : Int} {a : Bs} (ho : o.op = .slice t x (some i) none none) (hx : Γ.ev x = some (.string (bs a))) (hi : Γ.ev i = some (.int kk z)) (ht : T.get t = some ⟨.string, sz⟩) (hz : z = (k : Nat)) (hk : k ≤ a.length) :
    Sti P β n Γ H F o (.string (bs (a.drop k))) := fun c w S f s _ => by
  subst hz
  have hr := run_slice_string_l (P := P) w t (bs a) (hT.str ht) kk (k : Int) (by omega) (by rw [bs_size]; omega)
  have e : (bs a).extract (k : Int).toNat (bs a).size = bs (a.drop k) := by
    rw [bs_size]
    show (ByteArray.mk a.toArray).extract _ _ = _
    rw [ByteArray.extract_mk, List.take_of_length_le (by simp)]
    rfl
  unfold execOp
  simp only [ho, f.ev hx, Option.map_some, Option.map_none, f.ev hi]
  rw [Sem.run_bind, run_slice_s hT ht, hr, e]
  rfl
theorem sti_sto (hT : TabOk P T) {o : Oper} {t k sz : Nat} {x i : Operand} {kk : IntKind} {z : Int} {a : Bs} (ho : o.op = .slice t x none (some i) none) (hx : Γ.ev x = some (.string (bs a))) (hi : Γ.ev i = some (.int kk z)) (ht : T.get t = some ⟨.string, sz⟩) (hz : z = (k : Nat)) (hk : k ≤ a.length) :
    Sti P β n Γ H F o (.string (bs (a.take k))) := fun c w S f s _ => by
  subst hz
  have hr := run_slice_string_h (P := P) w t (bs a) (hT.str ht) kk (k : Int) (by omega) (by rw [bs_size]; omega)
  have e : (bs a).extract 0 (k : Int).toNat = bs (a.take k) := by
    show (ByteArray.mk a.toArray).extract _ _ = _
    rw [ByteArray.extract_mk]
    rfl
  unfold execOp
  simp only [ho, f.ev hx, Option.map_some, Option.map_none, f.ev hi]
  rw [Sem.run_bind, run_slice_s hT ht, hr, e]
  rfl
theorem sti_scut (hT : TabOk P T) {o : Oper} {t j k sz : Nat} {x i i' : Operand} {kk kk' : IntKind} {z z' : Int} {a : Bs} (ho : o.op = .slice t x (some i) (some i') none) (hx : Γ.ev x = some (.string (bs a))) (hi : Γ.ev i = some (.int kk z)) (hi' : Γ.ev i' = some (.int kk' z')) (ht : T.get t = some ⟨.string, sz⟩) (hz : z = (j : Nat)) (hz' : z' = (k : Nat)) (hj : j ≤ k) (hk : k ≤ a.length) :
    Sti P β n Γ H F o (.string (bs ((a.drop j).take (k - j)))) := fun c w S f s _ => by
  subst hz hz'
  have hr := run_slice_string (P := P) w t (bs a) kk kk' (j : Int) (k : Int) (hT.str ht) (by omega) (by omega) (by rw [bs_size]; omega)
  have e : (bs a).extract (j : Int).toNat (k : Int).toNat = bs ((a.drop j).take (k - j)) := by
    show (ByteArray.mk a.toArray).extract _ _ = _
    rw [ByteArray.extract_mk]
    rfl
  unfold execOp
  simp only [ho, f.ev hx, Option.map_some, f.ev hi, f.ev hi', Option.map_none]
  rw [Sem.run_bind, run_slice_s hT ht, hr, e]
  rfl

/-! ### parts of slices in memory that stays -/
def cutA (A : Option Addr) (l size c : Nat) : Option Addr := if c = l then A else A.map (·.add (l * size))
end
end Go.Proofs.YtngkedmndhmjcaaGreatDoor
/- The engine: scopes, values of functions called, results that lie in memory. -/
namespace Go.Proofs.YtngkedmndhmjcaaGreatDoor
open Go.RowKit

section
variable {P : Program} {β : Base} {n : Nat} {Γ : Env} {H : List Chunk} {F : List Fact} {Q : Exit → Act → World → Prop} {K : Act → World → Prop} {T : Tab} {α : Type} {E : Flat α}

theorem at_scope {c : Code} (h : At β n Γ H F (c.wp P (Exit.noGoto Q))) : At β n Γ H F ((Code.scope c).wp P Q) := fun a w S f s k => wp_scope_straight (h a w S f s k)
theorem at_label {l : Nat} (h : At β n Γ H F (Q .normal)) : At β n Γ H F ((Code.label l).wp P Q) := fun a w S f s k => wp_label (h a w S f s k)
theorem n_scope (h : At β n Γ H F (Q .normal)) : At β n Γ H F (Exit.noGoto Q .normal) := h
theorem r_scope (h : At β n Γ H F (Q .ret)) : At β n Γ H F (Exit.noGoto Q .ret) := h
theorem x_scope {i : Nat} (h : At β n Γ H F (Q (.exit i))) : At β n Γ H F (Exit.noGoto Q (.exit i)) := h

theorem run_callv {o : Oper} {f : FuncId} {x : Operand} {first cap : Array Value} {ars : Array Operand} {ts : Array TypeId} {vs : List Value} {a : Act} (hcf : ∀ (args : Array Value) (w : World), (callFunc f args).run P w = .ok (.enter f args) w) (ho : o.op = .call ⟨.value x, ars, ts⟩) (fi : Fits n Γ a)
    (hx : Γ.ev x = some (.func (.func f) first cap)) (hv : Γ.evs ars.toList = some vs) (w : World) : (execOp a.eval o).run P w = .ok (.enter f (first ++ vs.toArray ++ cap)) w := by
  have hm : ars.map a.eval = vs.toArray := by
    apply Array.ext'
    simpa using fi.evs hv
  unfold execOp
  simp only [ho, resolve, fi.ev hx, Deferred.ofValue, Sem.run_bind, Sem.run_pure, Result.andThen_ok, invoke]
  simp [hm, hcf]
/-- a call of a function's value -/
theorem at_callv {ι : Type} {ops : Array Oper} {rest : List Oper} {o : Oper} {d : Nat} {f : FuncId} {x : Operand} {first cap : Array Value} {ars : Array Operand} {ts : Array TypeId} {vs all : List Value} {Hin H2 : List Chunk} {Pre : List Fact} {val : ι → Value} {Hout : ι → List Chunk} {post : ι → List Fact}
    (hcf : ∀ (args : Array Value) (w : World), (callFunc f args).run P w = .ok (.enter f args) w) (hs : Spec P f all Hin Pre val Hout post) (hw : want ops Γ o = some true) (ho : o.op = .call ⟨.value x, ars, ts⟩) (hx : Γ.ev x = some (.func (.func f) first cap)) (hd : o.dst = some d) (hn : Nat.blt d n = true)
    (hv : Γ.evs ars.toList = some vs) (hall : first.toList ++ vs ++ cap.toList = all) (hH : Split H Hin H2) (hF : HasAll F Pre) (k : ∀ x, At β n ((d, val x) :: Γ) (Hout x ++ H2) (post x ++ F) (wpList P ops Q rest)) : At β n Γ H F (wpList P ops Q (o :: rest)) :=
  at_step hw fun a w S f s hk => by
    unfold Oper.wp
    rw [run_callv hcf ho f hx hv w, Oper.upon_enter]
    have e : first ++ vs.toArray ++ cap = all.toArray := by
      rw [← hall]
      apply Array.ext'
      simp
    rw [e]
    have s1 := s.perm hH.perm
    refine (hs S w s1.enter (hF.all S w hk)).mono ?_
    rintro e w' ⟨x, S', rfl, s', k'⟩
    show wpList P ops Q rest (a.put o.dst (val x)) w'
    rw [hd]
    exact k x _ _ _ (f.put (by simpa [Nat.blt_eq] using hn) _) (s1.leave s') ((All.mono (fun _ h => .inr h) (fun _ _ => rfl) k').append (All.leave s1 s' hk))

/-! ### results -/
def resVal (a : Act) : ResultVar → Sem Value
  | .tmp t => pure (a.tmps.getD t undef)
  | .cell ad t => do loadVar t (← asAddr (a.tmps.getD ad undef))
/-- what a result reads as -/
def RV (P : Program) (β : Base) (n : Nat) (Γ : Env) (H : List Chunk) (F : List Fact) (r : ResultVar) (v : Value) : Prop := ∀ a w S, Fits n Γ a → St β H S w → All F S w → (resVal a r).run P w = .ok v w
theorem rv_tmp {t : Nat} {v : Value} (h : Γ.get t = some v) : RV P β n Γ H F (.tmp t) v := fun a w S f _ _ => by
  have := f.get t v h
  simp [resVal, Array.getD_eq_getD_getElem?, this]
theorem rv_cell (hT : TabOk P T) {t ty b q : Nat} {i : TI} {cs l : List Value} (hk : Knows β H F b q cs) (h : Γ.get t = some (.pointer (some ⟨b, q, none⟩))) (ht : T.get ty = some i) (ha : aggD i.desc = true) (hv : cut cs 0 i.size = some l) : RV P β n Γ H F (.cell t ty) (.agg l.toArray) := fun a w S f s k => by
  have := f.get t _ h
  obtain ⟨h1, h2, h3⟩ := cut_spec hv
  have hl := run_loadCells_list (P := P) w ⟨b, q, none⟩ l (fun j u hj => by rw [Addr.add_mid]; exact hk w S s k j u (by simpa using h3 j u hj))
  rw [h2] at hl
  unfold resVal
  simp only [Array.getD_eq_getD_getElem?, this, Option.getD_some, asAddr, Sem.run_bind, Sem.run_pure, Result.andThen_ok, loadVar, hT.agg ht, ha, if_true, hT.size ht, hl]
theorem rv_cell1 (hT : TabOk P T) {t ty b q : Nat} {i : TI} {cs : List Value} {v : Value} (hk : Knows β H F b q cs) (h : Γ.get t = some (.pointer (some ⟨b, q, none⟩))) (ht : T.get ty = some i) (ha : aggD i.desc = false) (hv : cs[0]? = some v) : RV P β n Γ H F (.cell t ty) v := fun a w S f s k => by
  have := f.get t _ h
  have hc := hk w S s k 0 v hv
  rw [Nat.add_zero] at hc
  unfold resVal
  simp only [Array.getD_eq_getD_getElem?, this, Option.getD_some, asAddr, Sem.run_bind, Sem.run_pure, Result.andThen_ok, loadVar, hT.agg ht, ha, Bool.false_eq_true, if_false, run_load, hc]
theorem results_eq (fn : Func) (a : Act) : results fn a.tmps = (do let vs ← fn.results.mapM (resVal a); pure (if h : vs.size = 1 then vs[0] else .tuple vs)) := by
  have e : (fun x : ResultVar => (match x with | .tmp t => pure (a.tmps.getD t undef) | .cell ad t => do loadVar t (← asAddr (a.tmps.getD ad undef)) : Sem Value)) = resVal a := by
    funext x
    cases x <;> rfl
  unfold results
  rw [← e]
  rfl
section
variable {ι : Type} {fn : Func} {val : ι → Value} {Hout : ι → List Chunk} {post : ι → List Fact} {r1 r2 r3 : ResultVar} {v1 v2 v3 : Value}
theorem at_res0 (x : ι) (hr : fn.results = #[]) (hH : Sel H (Hout x)) (hF : HasAll F (post x)) (he : .tuple #[] = val x) : At β n Γ H F (bodyPost P fn (Done β val Hout post) .ret) := fun a w S f s k => by
  refine ⟨f.defers, .tuple #[], ?_, x, S, by rw [he], s.sel hH, hF.all S w k⟩
  rw [results_eq, hr]
  simp
theorem at_off0 (x : ι) (hr : fn.results = #[]) (hH : Sel H (Hout x)) (hF : HasAll F (post x)) (he : .tuple #[] = val x) : At β n Γ H F (bodyPost P fn (Done β val Hout post) .normal) := fun a w S f s k => by
  refine ⟨f.defers, .tuple #[], ?_, x, S, by rw [he], s.sel hH, hF.all S w k⟩
  rw [results_eq, hr]
  simp
theorem at_res1 (x : ι) (hr : fn.results = #[r1]) (h1 : RV P β n Γ H F r1 v1) (hH : Sel H (Hout x)) (hF : HasAll F (post x)) (he : v1 = val x) : At β n Γ H F (bodyPost P fn (Done β val Hout post) .ret) := fun a w S f s k => by
  refine ⟨f.defers, v1, ?_, x, S, by rw [he], s.sel hH, hF.all S w k⟩
  rw [results_eq, hr]
  simp [h1 a w S f s k]
theorem at_res2 (x : ι) (hr : fn.results = #[r1, r2]) (h1 : RV P β n Γ H F r1 v1) (h2 : RV P β n Γ H F r2 v2) (hH : Sel H (Hout x)) (hF : HasAll F (post x)) (he : .tuple #[v1, v2] = val x) : At β n Γ H F (bodyPost P fn (Done β val Hout post) .ret) := fun a w S f s k => by
  refine ⟨f.defers, .tuple #[v1, v2], ?_, x, S, by rw [he], s.sel hH, hF.all S w k⟩
  rw [results_eq, hr]
  simp [h1 a w S f s k, h2 a w S f s k]
theorem at_res3 (x : ι) (hr : fn.results = #[r1, r2, r3]) (h1 : RV P β n Γ H F r1 v1) (h2 : RV P β n Γ H F r2 v2) (h3 : RV P β n Γ H F r3 v3) (hH : Sel H (Hout x)) (hF : HasAll F (post x)) (he : .tuple #[v1, v2, v3] = val x) : At β n Γ H F (bodyPost P fn (Done β val Hout post) .ret) := fun a w S f s k => by
  refine ⟨f.defers, .tuple #[v1, v2, v3], ?_, x, S, by rw [he], s.sel hH, hF.all S w k⟩
  rw [results_eq, hr]
  simp [h1 a w S f s k, h2 a w S f s k, h3 a w S f s k]
end
end
theorem or_u8 (a b : UInt8) : IntKind.u8.wrap (((BitVec.ofInt IntKind.u8.bits (a.toNat : Int) ||| BitVec.ofInt IntKind.u8.bits (b.toNat : Int)).toNat : Nat) : Int) = (((a ||| b).toNat : Nat) : Int) := by
  show IntKind.u8.wrap (((BitVec.ofInt 8 (a.toNat : Int) ||| BitVec.ofInt 8 (b.toNat : Int)).toNat : Nat) : Int) = _
  have h1 : ∀ c : UInt8, BitVec.ofInt 8 (c.toNat : Int) = c.toBitVec := fun c => by
    apply BitVec.eq_of_toNat_eq
    simp
  rw [h1, h1]
  have h2 : (a.toBitVec ||| b.toBitVec).toNat = (a ||| b).toNat := rfl
  have h3 := (a ||| b).toNat_lt
  rw [h2]
  generalize (a ||| b).toNat = c at *
  simp only [IntKind.wrap, IntKind.signed, IntKind.bits]
  simp
  omega
theorem opens_str {H : Type} {enc : TypeId × Value → H} {P : Program} {w : World} {t : TypeId} (hu : P.underlying t = some .string) : Opens enc P w t (fun s : Bs => [.string (bs s)]) (fun s => Fact.pure (s.length ≤ 140737488355328)) := fun fuel cs x h hw => by
  obtain ⟨s, e, hs⟩ := opens_string hu fuel cs x h hw
  exact ⟨s.data.toList, e, hs⟩
end Go.Proofs.YtngkedmndhmjcaaGreatDoor
/- The types of the layers lex, parse, show. (Printed by wip/gen/ty_show.py.) -/
namespace Go.Proofs.YtngkedmndhmjcaaGreatDoor
open Go.RowKit Go.ChangeShapes Go.WideShapes

def strE : Flat Bs where
  size := 1
  cells := fun x => [.string (bs x)]
  len := fun _ => rfl
  one := fun x u hu => by simp at hu; subst hu; rfl
  pos := by decide
def strTy : Ty Bs := ⟨strE, fun x => Fact.pure (x.length ≤ 140737488355328)⟩
structure TokV where
  kind : Int
  at_ : Int
  word : Bs
  n : Int
  deriving Inhabited
def tokE : Flat TokV where
  size := 4
  cells := fun x => [.int .i64 x.kind, .int .i64 x.at_, .string (bs x.word), .int .i64 x.n]
  len := fun _ => rfl
  one := fun x u hu => by
    simp at hu
    rcases hu with rfl | rfl | rfl | rfl <;> rfl
  pos := by decide
def tokTy : Ty TokV := ⟨tokE, fun x => (Fact.pure ((Lit.int .i64 x.kind).wf = true)).and ((Fact.pure ((Lit.int .i64 x.at_).wf = true)).and ((Fact.pure (x.word.length ≤ 140737488355328)).and ((Fact.pure ((Lit.int .i64 x.n).wf = true)).and (Fact.true))))⟩
theorem has_tok_kind {F : List Fact} {x : TokV} (h : Has F (tokTy.deep x)) : Has F (Fact.pure ((Lit.int .i64 x.kind).wf = true)) := h.left
theorem has_tok_at_ {F : List Fact} {x : TokV} (h : Has F (tokTy.deep x)) : Has F (Fact.pure ((Lit.int .i64 x.at_).wf = true)) := h.right.left
theorem has_tok_word {F : List Fact} {x : TokV} (h : Has F (tokTy.deep x)) : Has F (Fact.pure (x.word.length ≤ 140737488355328)) := h.right.right.left
theorem has_tok_n {F : List Fact} {x : TokV} (h : Has F (tokTy.deep x)) : Has F (Fact.pure ((Lit.int .i64 x.n).wf = true)) := h.right.right.right.left
set_option maxRecDepth 100000 in
theorem opens_tok {H : Type} {enc : TypeId × Value → H} {w : World} : Opens enc Tryz.prog w 54 tokE.cells tokTy.deep := fun fuel cs x h hw => by
  obtain ⟨xs, n, _, rfl, hlen, hxl, hf⟩ := DataW.trod_struct Tryz.underlying54 h
  have hc : Tryz.prog.cellsOf 54 = 4 := by kernel_rfl
  rw [hc] at hlen
  have hxl' : xs.length = 4 := hxl
  match cs, hlen with
  | [c0, c1, c2, c3], _ =>
    have h0 : DataW.trod enc Tryz.prog w 0 (fun _ => true) true n 3 (([c0, c1, c2, c3].drop 0).take (Tryz.prog.cellsOf 3)) = xs[0]? := hf 0 _ rfl
    have h1 : DataW.trod enc Tryz.prog w 0 (fun _ => true) true n 3 (([c0, c1, c2, c3].drop 1).take (Tryz.prog.cellsOf 3)) = xs[1]? := hf 1 _ rfl
    have h2 : DataW.trod enc Tryz.prog w 0 (fun _ => true) true n 9 (([c0, c1, c2, c3].drop 2).take (Tryz.prog.cellsOf 9)) = xs[2]? := hf 2 _ rfl
    have h3 : DataW.trod enc Tryz.prog w 0 (fun _ => true) true n 2 (([c0, c1, c2, c3].drop 3).take (Tryz.prog.cellsOf 2)) = xs[3]? := hf 3 _ rfl
    rw [List.getElem?_eq_getElem (by omega)] at h0
    obtain ⟨a0, e0, d0⟩ := (opens_int Tryz.underlying3) _ _ _ h0 (struct_weights Tryz.underlying54 hw (j := 0) rfl (by rw [List.getElem?_map, List.getElem?_eq_getElem (by omega)]; rfl))
    have q0 : [c0] = [.int .i64 a0] := by
      have hk : Tryz.prog.cellsOf 3 = 1 := by kernel_rfl
      rw [hk] at e0
      exact e0
    clear e0
    simp only [List.cons.injEq, and_true] at q0
    rw [List.getElem?_eq_getElem (by omega)] at h1
    obtain ⟨a1, e1, d1⟩ := (opens_int Tryz.underlying3) _ _ _ h1 (struct_weights Tryz.underlying54 hw (j := 1) rfl (by rw [List.getElem?_map, List.getElem?_eq_getElem (by omega)]; rfl))
    have q1 : [c1] = [.int .i64 a1] := by
      have hk : Tryz.prog.cellsOf 3 = 1 := by kernel_rfl
      rw [hk] at e1
      exact e1
    clear e1
    simp only [List.cons.injEq, and_true] at q1
    rw [List.getElem?_eq_getElem (by omega)] at h2
    obtain ⟨a2, e2, d2⟩ := (opens_str Tryz.underlying9) _ _ _ h2 (struct_weights Tryz.underlying54 hw (j := 2) rfl (by rw [List.getElem?_map, List.getElem?_eq_getElem (by omega)]; rfl))
    have q2 : [c2] = [.string (bs a2)] := by
      have hk : Tryz.prog.cellsOf 9 = 1 := by kernel_rfl
      rw [hk] at e2
      exact e2
    clear e2
    simp only [List.cons.injEq, and_true] at q2
    rw [List.getElem?_eq_getElem (by omega)] at h3
    obtain ⟨a3, e3, d3⟩ := (opens_int Tryz.underlying2) _ _ _ h3 (struct_weights Tryz.underlying54 hw (j := 3) rfl (by rw [List.getElem?_map, List.getElem?_eq_getElem (by omega)]; rfl))
    have q3 : [c3] = [.int .i64 a3] := by
      have hk : Tryz.prog.cellsOf 2 = 1 := by kernel_rfl
      rw [hk] at e3
      exact e3
    clear e3
    simp only [List.cons.injEq, and_true] at q3
    obtain rfl := q0
    obtain rfl := q1
    obtain rfl := q2
    obtain rfl := q3
    exact ⟨⟨a0, a1, a2, a3⟩, rfl, d0, d1, d2, d3, trivial⟩
structure FltV where
  at_ : Int
  code : Int
  deriving Inhabited
def fltE : Flat FltV where
  size := 2
  cells := fun x => [.int .i64 x.at_, .int .i64 x.code]
  len := fun _ => rfl
  one := fun x u hu => by
    simp at hu
    rcases hu with rfl | rfl <;> rfl
  pos := by decide
def fltTy : Ty FltV := ⟨fltE, fun x => (Fact.pure ((Lit.int .i64 x.at_).wf = true)).and ((Fact.pure ((Lit.int .i64 x.code).wf = true)).and (Fact.true))⟩
theorem has_flt_at_ {F : List Fact} {x : FltV} (h : Has F (fltTy.deep x)) : Has F (Fact.pure ((Lit.int .i64 x.at_).wf = true)) := h.left
theorem has_flt_code {F : List Fact} {x : FltV} (h : Has F (fltTy.deep x)) : Has F (Fact.pure ((Lit.int .i64 x.code).wf = true)) := h.right.left
set_option maxRecDepth 100000 in
theorem opens_flt {H : Type} {enc : TypeId × Value → H} {w : World} : Opens enc Tryz.prog w 32 fltE.cells fltTy.deep := fun fuel cs x h hw => by
  obtain ⟨xs, n, _, rfl, hlen, hxl, hf⟩ := DataW.trod_struct Tryz.underlying32 h
  have hc : Tryz.prog.cellsOf 32 = 2 := by kernel_rfl
  rw [hc] at hlen
  have hxl' : xs.length = 2 := hxl
  match cs, hlen with
  | [c0, c1], _ =>
    have h0 : DataW.trod enc Tryz.prog w 0 (fun _ => true) true n 3 (([c0, c1].drop 0).take (Tryz.prog.cellsOf 3)) = xs[0]? := hf 0 _ rfl
    have h1 : DataW.trod enc Tryz.prog w 0 (fun _ => true) true n 28 (([c0, c1].drop 1).take (Tryz.prog.cellsOf 28)) = xs[1]? := hf 1 _ rfl
    rw [List.getElem?_eq_getElem (by omega)] at h0
    obtain ⟨a0, e0, d0⟩ := (opens_int Tryz.underlying3) _ _ _ h0 (struct_weights Tryz.underlying32 hw (j := 0) rfl (by rw [List.getElem?_map, List.getElem?_eq_getElem (by omega)]; rfl))
    have q0 : [c0] = [.int .i64 a0] := by
      have hk : Tryz.prog.cellsOf 3 = 1 := by kernel_rfl
      rw [hk] at e0
      exact e0
    clear e0
    simp only [List.cons.injEq, and_true] at q0
    rw [List.getElem?_eq_getElem (by omega)] at h1
    obtain ⟨a1, e1, d1⟩ := (opens_int Tryz.underlying28) _ _ _ h1 (struct_weights Tryz.underlying32 hw (j := 1) rfl (by rw [List.getElem?_map, List.getElem?_eq_getElem (by omega)]; rfl))
    have q1 : [c1] = [.int .i64 a1] := by
      have hk : Tryz.prog.cellsOf 28 = 1 := by kernel_rfl
      rw [hk] at e1
      exact e1
    clear e1
    simp only [List.cons.injEq, and_true] at q1
    obtain rfl := q0
    obtain rfl := q1
    exact ⟨⟨a0, a1⟩, rfl, d0, d1, trivial⟩
structure SideV where
  name : Bs
  n : Int
  deriving Inhabited
def sideE : Flat SideV where
  size := 2
  cells := fun x => [.string (bs x.name), .int .i64 x.n]
  len := fun _ => rfl
  one := fun x u hu => by
    simp at hu
    rcases hu with rfl | rfl <;> rfl
  pos := by decide
def sideTy : Ty SideV := ⟨sideE, fun x => (Fact.pure (x.name.length ≤ 140737488355328)).and ((Fact.pure ((Lit.int .i64 x.n).wf = true)).and (Fact.true))⟩
theorem has_side_name {F : List Fact} {x : SideV} (h : Has F (sideTy.deep x)) : Has F (Fact.pure (x.name.length ≤ 140737488355328)) := h.left
theorem has_side_n {F : List Fact} {x : SideV} (h : Has F (sideTy.deep x)) : Has F (Fact.pure ((Lit.int .i64 x.n).wf = true)) := h.right.left
set_option maxRecDepth 100000 in
theorem opens_side {H : Type} {enc : TypeId × Value → H} {w : World} : Opens enc Tryz.prog w 61 sideE.cells sideTy.deep := fun fuel cs x h hw => by
  obtain ⟨xs, n, _, rfl, hlen, hxl, hf⟩ := DataW.trod_struct Tryz.underlying61 h
  have hc : Tryz.prog.cellsOf 61 = 2 := by kernel_rfl
  rw [hc] at hlen
  have hxl' : xs.length = 2 := hxl
  match cs, hlen with
  | [c0, c1], _ =>
    have h0 : DataW.trod enc Tryz.prog w 0 (fun _ => true) true n 9 (([c0, c1].drop 0).take (Tryz.prog.cellsOf 9)) = xs[0]? := hf 0 _ rfl
    have h1 : DataW.trod enc Tryz.prog w 0 (fun _ => true) true n 2 (([c0, c1].drop 1).take (Tryz.prog.cellsOf 2)) = xs[1]? := hf 1 _ rfl
    rw [List.getElem?_eq_getElem (by omega)] at h0
    obtain ⟨a0, e0, d0⟩ := (opens_str Tryz.underlying9) _ _ _ h0 (struct_weights Tryz.underlying61 hw (j := 0) rfl (by rw [List.getElem?_map, List.getElem?_eq_getElem (by omega)]; rfl))
    have q0 : [c0] = [.string (bs a0)] := by
      have hk : Tryz.prog.cellsOf 9 = 1 := by kernel_rfl
      rw [hk] at e0
      exact e0
    clear e0
    simp only [List.cons.injEq, and_true] at q0
    rw [List.getElem?_eq_getElem (by omega)] at h1
    obtain ⟨a1, e1, d1⟩ := (opens_int Tryz.underlying2) _ _ _ h1 (struct_weights Tryz.underlying61 hw (j := 1) rfl (by rw [List.getElem?_map, List.getElem?_eq_getElem (by omega)]; rfl))
    have q1 : [c1] = [.int .i64 a1] := by
      have hk : Tryz.prog.cellsOf 2 = 1 := by kernel_rfl
      rw [hk] at e1
      exact e1
    clear e1
    simp only [List.cons.injEq, and_true] at q1
    obtain rfl := q0
    obtain rfl := q1
    exact ⟨⟨a0, a1⟩, rfl, d0, d1, trivial⟩
structure InputV where
  name : Bs
  at_ : Int
  sides : (Sl SideV)
  deriving Inhabited
def inputE : Flat InputV where
  size := 3
  cells := fun x => [.string (bs x.name), .int .i64 x.at_, .slice x.sides.addr x.sides.list.length x.sides.cap]
  len := fun _ => rfl
  one := fun x u hu => by
    simp at hu
    rcases hu with rfl | rfl | rfl <;> rfl
  pos := by decide
def inputTy : Ty InputV := ⟨inputE, fun x => (Fact.pure (x.name.length ≤ 140737488355328)).and ((Fact.pure ((Lit.int .i64 x.at_).wf = true)).and ((((sideTy.slice 24)).deep x.sides).and (Fact.true)))⟩
theorem has_input_name {F : List Fact} {x : InputV} (h : Has F (inputTy.deep x)) : Has F (Fact.pure (x.name.length ≤ 140737488355328)) := h.left
theorem has_input_at_ {F : List Fact} {x : InputV} (h : Has F (inputTy.deep x)) : Has F (Fact.pure ((Lit.int .i64 x.at_).wf = true)) := h.right.left
theorem has_input_sides {F : List Fact} {x : InputV} (h : Has F (inputTy.deep x)) : Has F (((sideTy.slice 24)).deep x.sides) := h.right.right.left
set_option maxRecDepth 100000 in
theorem opens_input {H : Type} {enc : TypeId × Value → H} {w : World} : Opens enc Tryz.prog w 59 inputE.cells inputTy.deep := fun fuel cs x h hw => by
  obtain ⟨xs, n, _, rfl, hlen, hxl, hf⟩ := DataW.trod_struct Tryz.underlying59 h
  have hc : Tryz.prog.cellsOf 59 = 3 := by kernel_rfl
  rw [hc] at hlen
  have hxl' : xs.length = 3 := hxl
  match cs, hlen with
  | [c0, c1, c2], _ =>
    have h0 : DataW.trod enc Tryz.prog w 0 (fun _ => true) true n 9 (([c0, c1, c2].drop 0).take (Tryz.prog.cellsOf 9)) = xs[0]? := hf 0 _ rfl
    have h1 : DataW.trod enc Tryz.prog w 0 (fun _ => true) true n 3 (([c0, c1, c2].drop 1).take (Tryz.prog.cellsOf 3)) = xs[1]? := hf 1 _ rfl
    have h2 : DataW.trod enc Tryz.prog w 0 (fun _ => true) true n 57 (([c0, c1, c2].drop 2).take (Tryz.prog.cellsOf 57)) = xs[2]? := hf 2 _ rfl
    rw [List.getElem?_eq_getElem (by omega)] at h0
    obtain ⟨a0, e0, d0⟩ := (opens_str Tryz.underlying9) _ _ _ h0 (struct_weights Tryz.underlying59 hw (j := 0) rfl (by rw [List.getElem?_map, List.getElem?_eq_getElem (by omega)]; rfl))
    have q0 : [c0] = [.string (bs a0)] := by
      have hk : Tryz.prog.cellsOf 9 = 1 := by kernel_rfl
      rw [hk] at e0
      exact e0
    clear e0
    simp only [List.cons.injEq, and_true] at q0
    rw [List.getElem?_eq_getElem (by omega)] at h1
    obtain ⟨a1, e1, d1⟩ := (opens_int Tryz.underlying3) _ _ _ h1 (struct_weights Tryz.underlying59 hw (j := 1) rfl (by rw [List.getElem?_map, List.getElem?_eq_getElem (by omega)]; rfl))
    have q1 : [c1] = [.int .i64 a1] := by
      have hk : Tryz.prog.cellsOf 3 = 1 := by kernel_rfl
      rw [hk] at e1
      exact e1
    clear e1
    simp only [List.cons.injEq, and_true] at q1
    rw [List.getElem?_eq_getElem (by omega)] at h2
    obtain ⟨a2, e2, d2⟩ := (opens_slice' (T := sideTy) (b := 24) Tryz.underlying57 (by kernel_rfl) (by kernel_rfl) opens_side) _ _ _ h2 (struct_weights Tryz.underlying59 hw (j := 2) rfl (by rw [List.getElem?_map, List.getElem?_eq_getElem (by omega)]; rfl))
    have q2 : [c2] = [.slice a2.addr a2.list.length a2.cap] := by
      have hk : Tryz.prog.cellsOf 57 = 1 := by kernel_rfl
      rw [hk] at e2
      exact e2
    clear e2
    simp only [List.cons.injEq, and_true] at q2
    obtain rfl := q0
    obtain rfl := q1
    obtain rfl := q2
    exact ⟨⟨a0, a1, a2⟩, rfl, d0, d1, d2, trivial⟩
structure ItemV where
  how : Int
  at_ : Int
  fn : Int
  name : Bs
  nums : (Sl Int)
  deriving Inhabited
def itemE : Flat ItemV where
  size := 5
  cells := fun x => [.int .i64 x.how, .int .i64 x.at_, .int .u8 x.fn, .string (bs x.name), .slice x.nums.addr x.nums.list.length x.nums.cap]
  len := fun _ => rfl
  one := fun x u hu => by
    simp at hu
    rcases hu with rfl | rfl | rfl | rfl | rfl <;> rfl
  pos := by decide
def itemTy : Ty ItemV := ⟨itemE, fun x => (Fact.pure ((Lit.int .i64 x.how).wf = true)).and ((Fact.pure ((Lit.int .i64 x.at_).wf = true)).and ((Fact.pure ((Lit.int .u8 x.fn).wf = true)).and ((Fact.pure (x.name.length ≤ 140737488355328)).and ((((intTy.slice 8)).deep x.nums).and (Fact.true)))))⟩
theorem has_item_how {F : List Fact} {x : ItemV} (h : Has F (itemTy.deep x)) : Has F (Fact.pure ((Lit.int .i64 x.how).wf = true)) := h.left
theorem has_item_at_ {F : List Fact} {x : ItemV} (h : Has F (itemTy.deep x)) : Has F (Fact.pure ((Lit.int .i64 x.at_).wf = true)) := h.right.left
theorem has_item_fn {F : List Fact} {x : ItemV} (h : Has F (itemTy.deep x)) : Has F (Fact.pure ((Lit.int .u8 x.fn).wf = true)) := h.right.right.left
theorem has_item_name {F : List Fact} {x : ItemV} (h : Has F (itemTy.deep x)) : Has F (Fact.pure (x.name.length ≤ 140737488355328)) := h.right.right.right.left
theorem has_item_nums {F : List Fact} {x : ItemV} (h : Has F (itemTy.deep x)) : Has F (((intTy.slice 8)).deep x.nums) := h.right.right.right.right.left
set_option maxRecDepth 100000 in
theorem opens_item {H : Type} {enc : TypeId × Value → H} {w : World} : Opens enc Tryz.prog w 46 itemE.cells itemTy.deep := fun fuel cs x h hw => by
  obtain ⟨xs, n, _, rfl, hlen, hxl, hf⟩ := DataW.trod_struct Tryz.underlying46 h
  have hc : Tryz.prog.cellsOf 46 = 5 := by kernel_rfl
  rw [hc] at hlen
  have hxl' : xs.length = 5 := hxl
  match cs, hlen with
  | [c0, c1, c2, c3, c4], _ =>
    have h0 : DataW.trod enc Tryz.prog w 0 (fun _ => true) true n 3 (([c0, c1, c2, c3, c4].drop 0).take (Tryz.prog.cellsOf 3)) = xs[0]? := hf 0 _ rfl
    have h1 : DataW.trod enc Tryz.prog w 0 (fun _ => true) true n 3 (([c0, c1, c2, c3, c4].drop 1).take (Tryz.prog.cellsOf 3)) = xs[1]? := hf 1 _ rfl
    have h2 : DataW.trod enc Tryz.prog w 0 (fun _ => true) true n 43 (([c0, c1, c2, c3, c4].drop 2).take (Tryz.prog.cellsOf 43)) = xs[2]? := hf 2 _ rfl
    have h3 : DataW.trod enc Tryz.prog w 0 (fun _ => true) true n 9 (([c0, c1, c2, c3, c4].drop 3).take (Tryz.prog.cellsOf 9)) = xs[3]? := hf 3 _ rfl
    have h4 : DataW.trod enc Tryz.prog w 0 (fun _ => true) true n 44 (([c0, c1, c2, c3, c4].drop 4).take (Tryz.prog.cellsOf 44)) = xs[4]? := hf 4 _ rfl
    rw [List.getElem?_eq_getElem (by omega)] at h0
    obtain ⟨a0, e0, d0⟩ := (opens_int Tryz.underlying3) _ _ _ h0 (struct_weights Tryz.underlying46 hw (j := 0) rfl (by rw [List.getElem?_map, List.getElem?_eq_getElem (by omega)]; rfl))
    have q0 : [c0] = [.int .i64 a0] := by
      have hk : Tryz.prog.cellsOf 3 = 1 := by kernel_rfl
      rw [hk] at e0
      exact e0
    clear e0
    simp only [List.cons.injEq, and_true] at q0
    rw [List.getElem?_eq_getElem (by omega)] at h1
    obtain ⟨a1, e1, d1⟩ := (opens_int Tryz.underlying3) _ _ _ h1 (struct_weights Tryz.underlying46 hw (j := 1) rfl (by rw [List.getElem?_map, List.getElem?_eq_getElem (by omega)]; rfl))
    have q1 : [c1] = [.int .i64 a1] := by
      have hk : Tryz.prog.cellsOf 3 = 1 := by kernel_rfl
      rw [hk] at e1
      exact e1
    clear e1
    simp only [List.cons.injEq, and_true] at q1
    rw [List.getElem?_eq_getElem (by omega)] at h2
    obtain ⟨a2, e2, d2⟩ := (opens_int Tryz.underlying43) _ _ _ h2 (struct_weights Tryz.underlying46 hw (j := 2) rfl (by rw [List.getElem?_map, List.getElem?_eq_getElem (by omega)]; rfl))
    have q2 : [c2] = [.int .u8 a2] := by
      have hk : Tryz.prog.cellsOf 43 = 1 := by kernel_rfl
      rw [hk] at e2
      exact e2
    clear e2
    simp only [List.cons.injEq, and_true] at q2
    rw [List.getElem?_eq_getElem (by omega)] at h3
    obtain ⟨a3, e3, d3⟩ := (opens_str Tryz.underlying9) _ _ _ h3 (struct_weights Tryz.underlying46 hw (j := 3) rfl (by rw [List.getElem?_map, List.getElem?_eq_getElem (by omega)]; rfl))
    have q3 : [c3] = [.string (bs a3)] := by
      have hk : Tryz.prog.cellsOf 9 = 1 := by kernel_rfl
      rw [hk] at e3
      exact e3
    clear e3
    simp only [List.cons.injEq, and_true] at q3
    rw [List.getElem?_eq_getElem (by omega)] at h4
    obtain ⟨a4, e4, d4⟩ := (opens_slice' (T := intTy) (b := 8) Tryz.underlying44 (by kernel_rfl) (by kernel_rfl) (opens_int Tryz.underlying2)) _ _ _ h4 (struct_weights Tryz.underlying46 hw (j := 4) rfl (by rw [List.getElem?_map, List.getElem?_eq_getElem (by omega)]; rfl))
    have q4 : [c4] = [.slice a4.addr a4.list.length a4.cap] := by
      have hk : Tryz.prog.cellsOf 44 = 1 := by kernel_rfl
      rw [hk] at e4
      exact e4
    clear e4
    simp only [List.cons.injEq, and_true] at q4
    obtain rfl := q0
    obtain rfl := q1
    obtain rfl := q2
    obtain rfl := q3
    obtain rfl := q4
    exact ⟨⟨a0, a1, a2, a3, a4⟩, rfl, d0, d1, d2, d3, d4, trivial⟩
structure LineV where
  name : Bs
  at_ : Int
  items : (Sl ItemV)
  deriving Inhabited
def lineE : Flat LineV where
  size := 3
  cells := fun x => [.string (bs x.name), .int .i64 x.at_, .slice x.items.addr x.items.list.length x.items.cap]
  len := fun _ => rfl
  one := fun x u hu => by
    simp at hu
    rcases hu with rfl | rfl | rfl <;> rfl
  pos := by decide
def lineTy : Ty LineV := ⟨lineE, fun x => (Fact.pure (x.name.length ≤ 140737488355328)).and ((Fact.pure ((Lit.int .i64 x.at_).wf = true)).and ((((itemTy.slice 64)).deep x.items).and (Fact.true)))⟩
theorem has_line_name {F : List Fact} {x : LineV} (h : Has F (lineTy.deep x)) : Has F (Fact.pure (x.name.length ≤ 140737488355328)) := h.left
theorem has_line_at_ {F : List Fact} {x : LineV} (h : Has F (lineTy.deep x)) : Has F (Fact.pure ((Lit.int .i64 x.at_).wf = true)) := h.right.left
theorem has_line_items {F : List Fact} {x : LineV} (h : Has F (lineTy.deep x)) : Has F (((itemTy.slice 64)).deep x.items) := h.right.right.left
set_option maxRecDepth 100000 in
theorem opens_line {H : Type} {enc : TypeId × Value → H} {w : World} : Opens enc Tryz.prog w 42 lineE.cells lineTy.deep := fun fuel cs x h hw => by
  obtain ⟨xs, n, _, rfl, hlen, hxl, hf⟩ := DataW.trod_struct Tryz.underlying42 h
  have hc : Tryz.prog.cellsOf 42 = 3 := by kernel_rfl
  rw [hc] at hlen
  have hxl' : xs.length = 3 := hxl
  match cs, hlen with
  | [c0, c1, c2], _ =>
    have h0 : DataW.trod enc Tryz.prog w 0 (fun _ => true) true n 9 (([c0, c1, c2].drop 0).take (Tryz.prog.cellsOf 9)) = xs[0]? := hf 0 _ rfl
    have h1 : DataW.trod enc Tryz.prog w 0 (fun _ => true) true n 3 (([c0, c1, c2].drop 1).take (Tryz.prog.cellsOf 3)) = xs[1]? := hf 1 _ rfl
    have h2 : DataW.trod enc Tryz.prog w 0 (fun _ => true) true n 40 (([c0, c1, c2].drop 2).take (Tryz.prog.cellsOf 40)) = xs[2]? := hf 2 _ rfl
    rw [List.getElem?_eq_getElem (by omega)] at h0
    obtain ⟨a0, e0, d0⟩ := (opens_str Tryz.underlying9) _ _ _ h0 (struct_weights Tryz.underlying42 hw (j := 0) rfl (by rw [List.getElem?_map, List.getElem?_eq_getElem (by omega)]; rfl))
    have q0 : [c0] = [.string (bs a0)] := by
      have hk : Tryz.prog.cellsOf 9 = 1 := by kernel_rfl
      rw [hk] at e0
      exact e0
    clear e0
    simp only [List.cons.injEq, and_true] at q0
    rw [List.getElem?_eq_getElem (by omega)] at h1
    obtain ⟨a1, e1, d1⟩ := (opens_int Tryz.underlying3) _ _ _ h1 (struct_weights Tryz.underlying42 hw (j := 1) rfl (by rw [List.getElem?_map, List.getElem?_eq_getElem (by omega)]; rfl))
    have q1 : [c1] = [.int .i64 a1] := by
      have hk : Tryz.prog.cellsOf 3 = 1 := by kernel_rfl
      rw [hk] at e1
      exact e1
    clear e1
    simp only [List.cons.injEq, and_true] at q1
    rw [List.getElem?_eq_getElem (by omega)] at h2
    obtain ⟨a2, e2, d2⟩ := (opens_slice' (T := itemTy) (b := 64) Tryz.underlying40 (by kernel_rfl) (by kernel_rfl) opens_item) _ _ _ h2 (struct_weights Tryz.underlying42 hw (j := 2) rfl (by rw [List.getElem?_map, List.getElem?_eq_getElem (by omega)]; rfl))
    have q2 : [c2] = [.slice a2.addr a2.list.length a2.cap] := by
      have hk : Tryz.prog.cellsOf 40 = 1 := by kernel_rfl
      rw [hk] at e2
      exact e2
    clear e2
    simp only [List.cons.injEq, and_true] at q2
    obtain rfl := q0
    obtain rfl := q1
    obtain rfl := q2
    exact ⟨⟨a0, a1, a2⟩, rfl, d0, d1, d2, trivial⟩
structure ProgV where
  inputs : (Sl InputV)
  lines : (Sl LineV)
  deriving Inhabited
def progE : Flat ProgV where
  size := 2
  cells := fun x => [.slice x.inputs.addr x.inputs.list.length x.inputs.cap, .slice x.lines.addr x.lines.list.length x.lines.cap]
  len := fun _ => rfl
  one := fun x u hu => by
    simp at hu
    rcases hu with rfl | rfl <;> rfl
  pos := by decide
def progTy : Ty ProgV := ⟨progE, fun x => (((inputTy.slice 48)).deep x.inputs).and ((((lineTy.slice 48)).deep x.lines).and (Fact.true))⟩
theorem has_prog_inputs {F : List Fact} {x : ProgV} (h : Has F (progTy.deep x)) : Has F (((inputTy.slice 48)).deep x.inputs) := h.left
theorem has_prog_lines {F : List Fact} {x : ProgV} (h : Has F (progTy.deep x)) : Has F (((lineTy.slice 48)).deep x.lines) := h.right.left
set_option maxRecDepth 100000 in
theorem opens_prog {H : Type} {enc : TypeId × Value → H} {w : World} : Opens enc Tryz.prog w 25 progE.cells progTy.deep := fun fuel cs x h hw => by
  obtain ⟨xs, n, _, rfl, hlen, hxl, hf⟩ := DataW.trod_struct Tryz.underlying25 h
  have hc : Tryz.prog.cellsOf 25 = 2 := by kernel_rfl
  rw [hc] at hlen
  have hxl' : xs.length = 2 := hxl
  match cs, hlen with
  | [c0, c1], _ =>
    have h0 : DataW.trod enc Tryz.prog w 0 (fun _ => true) true n 22 (([c0, c1].drop 0).take (Tryz.prog.cellsOf 22)) = xs[0]? := hf 0 _ rfl
    have h1 : DataW.trod enc Tryz.prog w 0 (fun _ => true) true n 23 (([c0, c1].drop 1).take (Tryz.prog.cellsOf 23)) = xs[1]? := hf 1 _ rfl
    rw [List.getElem?_eq_getElem (by omega)] at h0
    obtain ⟨a0, e0, d0⟩ := (opens_slice' (T := inputTy) (b := 48) Tryz.underlying22 (by kernel_rfl) (by kernel_rfl) opens_input) _ _ _ h0 (struct_weights Tryz.underlying25 hw (j := 0) rfl (by rw [List.getElem?_map, List.getElem?_eq_getElem (by omega)]; rfl))
    have q0 : [c0] = [.slice a0.addr a0.list.length a0.cap] := by
      have hk : Tryz.prog.cellsOf 22 = 1 := by kernel_rfl
      rw [hk] at e0
      exact e0
    clear e0
    simp only [List.cons.injEq, and_true] at q0
    rw [List.getElem?_eq_getElem (by omega)] at h1
    obtain ⟨a1, e1, d1⟩ := (opens_slice' (T := lineTy) (b := 48) Tryz.underlying23 (by kernel_rfl) (by kernel_rfl) opens_line) _ _ _ h1 (struct_weights Tryz.underlying25 hw (j := 1) rfl (by rw [List.getElem?_map, List.getElem?_eq_getElem (by omega)]; rfl))
    have q1 : [c1] = [.slice a1.addr a1.list.length a1.cap] := by
      have hk : Tryz.prog.cellsOf 23 = 1 := by kernel_rfl
      rw [hk] at e1
      exact e1
    clear e1
    simp only [List.cons.injEq, and_true] at q1
    obtain rfl := q0
    obtain rfl := q1
    exact ⟨⟨a0, a1⟩, rfl, d0, d1, trivial⟩
structure PLineV where
  toks : (Sl TokV)
  next : Int
  end_ : Int
  deriving Inhabited
def plineE : Flat PLineV where
  size := 3
  cells := fun x => [.slice x.toks.addr x.toks.list.length x.toks.cap, .int .i64 x.next, .int .i64 x.end_]
  len := fun _ => rfl
  one := fun x u hu => by
    simp at hu
    rcases hu with rfl | rfl | rfl <;> rfl
  pos := by decide
def plineTy : Ty PLineV := ⟨plineE, fun x => (((tokTy.slice 40)).deep x.toks).and ((Fact.pure ((Lit.int .i64 x.next).wf = true)).and ((Fact.pure ((Lit.int .i64 x.end_).wf = true)).and (Fact.true)))⟩
theorem has_pline_toks {F : List Fact} {x : PLineV} (h : Has F (plineTy.deep x)) : Has F (((tokTy.slice 40)).deep x.toks) := h.left
theorem has_pline_next {F : List Fact} {x : PLineV} (h : Has F (plineTy.deep x)) : Has F (Fact.pure ((Lit.int .i64 x.next).wf = true)) := h.right.left
theorem has_pline_end_ {F : List Fact} {x : PLineV} (h : Has F (plineTy.deep x)) : Has F (Fact.pure ((Lit.int .i64 x.end_).wf = true)) := h.right.right.left
set_option maxRecDepth 100000 in
theorem opens_pline {H : Type} {enc : TypeId × Value → H} {w : World} : Opens enc Tryz.prog w 52 plineE.cells plineTy.deep := fun fuel cs x h hw => by
  obtain ⟨xs, n, _, rfl, hlen, hxl, hf⟩ := DataW.trod_struct Tryz.underlying52 h
  have hc : Tryz.prog.cellsOf 52 = 3 := by kernel_rfl
  rw [hc] at hlen
  have hxl' : xs.length = 3 := hxl
  match cs, hlen with
  | [c0, c1, c2], _ =>
    have h0 : DataW.trod enc Tryz.prog w 0 (fun _ => true) true n 37 (([c0, c1, c2].drop 0).take (Tryz.prog.cellsOf 37)) = xs[0]? := hf 0 _ rfl
    have h1 : DataW.trod enc Tryz.prog w 0 (fun _ => true) true n 3 (([c0, c1, c2].drop 1).take (Tryz.prog.cellsOf 3)) = xs[1]? := hf 1 _ rfl
    have h2 : DataW.trod enc Tryz.prog w 0 (fun _ => true) true n 3 (([c0, c1, c2].drop 2).take (Tryz.prog.cellsOf 3)) = xs[2]? := hf 2 _ rfl
    rw [List.getElem?_eq_getElem (by omega)] at h0
    obtain ⟨a0, e0, d0⟩ := (opens_slice' (T := tokTy) (b := 40) Tryz.underlying37 (by kernel_rfl) (by kernel_rfl) opens_tok) _ _ _ h0 (struct_weights Tryz.underlying52 hw (j := 0) rfl (by rw [List.getElem?_map, List.getElem?_eq_getElem (by omega)]; rfl))
    have q0 : [c0] = [.slice a0.addr a0.list.length a0.cap] := by
      have hk : Tryz.prog.cellsOf 37 = 1 := by kernel_rfl
      rw [hk] at e0
      exact e0
    clear e0
    simp only [List.cons.injEq, and_true] at q0
    rw [List.getElem?_eq_getElem (by omega)] at h1
    obtain ⟨a1, e1, d1⟩ := (opens_int Tryz.underlying3) _ _ _ h1 (struct_weights Tryz.underlying52 hw (j := 1) rfl (by rw [List.getElem?_map, List.getElem?_eq_getElem (by omega)]; rfl))
    have q1 : [c1] = [.int .i64 a1] := by
      have hk : Tryz.prog.cellsOf 3 = 1 := by kernel_rfl
      rw [hk] at e1
      exact e1
    clear e1
    simp only [List.cons.injEq, and_true] at q1
    rw [List.getElem?_eq_getElem (by omega)] at h2
    obtain ⟨a2, e2, d2⟩ := (opens_int Tryz.underlying3) _ _ _ h2 (struct_weights Tryz.underlying52 hw (j := 2) rfl (by rw [List.getElem?_map, List.getElem?_eq_getElem (by omega)]; rfl))
    have q2 : [c2] = [.int .i64 a2] := by
      have hk : Tryz.prog.cellsOf 3 = 1 := by kernel_rfl
      rw [hk] at e2
      exact e2
    clear e2
    simp only [List.cons.injEq, and_true] at q2
    obtain rfl := q0
    obtain rfl := q1
    obtain rfl := q2
    exact ⟨⟨a0, a1, a2⟩, rfl, d0, d1, d2, trivial⟩
def showT : Tab := [(3, ⟨.int .i64, 1⟩), (2, ⟨.int .i64, 1⟩), (5, ⟨.int .u8, 1⟩), (9, ⟨.string, 1⟩), (4, ⟨.bool, 1⟩), (43, ⟨.int .u8, 1⟩), (28, ⟨.int .i64, 1⟩), (44, ⟨.slice 2, 1⟩), (88, ⟨.slice 9, 1⟩), (54, ⟨.struct [(3, 0), (3, 1), (9, 2), (2, 3)], 4⟩), (37, ⟨.slice 54, 1⟩), (32, ⟨.struct [(3, 0), (28, 1)], 2⟩), (61, ⟨.struct [(9, 0), (2, 1)], 2⟩), (57, ⟨.slice 61, 1⟩), (59, ⟨.struct [(9, 0), (3, 1), (57, 2)], 3⟩), (22, ⟨.slice 59, 1⟩), (46, ⟨.struct [(3, 0), (3, 1), (43, 2), (9, 3), (44, 4)], 5⟩), (40, ⟨.slice 46, 1⟩), (42, ⟨.struct [(9, 0), (3, 1), (40, 2)], 3⟩), (23, ⟨.slice 42, 1⟩), (25, ⟨.struct [(22, 0), (23, 1)], 2⟩), (52, ⟨.struct [(37, 0), (3, 1), (3, 2)], 3⟩), (50, ⟨.other, 1⟩), (102, ⟨.slice 1, 1⟩), (1, ⟨.other, 1⟩)]
theorem showT_ok : TabOk Tryz.prog showT := TabAll.ok
  ⟨⟨by rw [Tryz.underlying3]; rfl, by kernel_rfl⟩,
    ⟨by rw [Tryz.underlying2]; rfl, by kernel_rfl⟩,
    ⟨by rw [Tryz.underlying5]; rfl, by kernel_rfl⟩,
    ⟨by rw [Tryz.underlying9]; rfl, by kernel_rfl⟩,
    ⟨by rw [Tryz.underlying4]; rfl, by kernel_rfl⟩,
    ⟨by rw [Tryz.underlying43]; rfl, by kernel_rfl⟩,
    ⟨by rw [Tryz.underlying28]; rfl, by kernel_rfl⟩,
    ⟨by rw [Tryz.underlying44]; rfl, by kernel_rfl⟩,
    ⟨by rw [Tryz.underlying88]; rfl, by kernel_rfl⟩,
    ⟨by rw [Tryz.underlying54]; rfl, by kernel_rfl⟩,
    ⟨by rw [Tryz.underlying37]; rfl, by kernel_rfl⟩,
    ⟨by rw [Tryz.underlying32]; rfl, by kernel_rfl⟩,
    ⟨by rw [Tryz.underlying61]; rfl, by kernel_rfl⟩,
    ⟨by rw [Tryz.underlying57]; rfl, by kernel_rfl⟩,
    ⟨by rw [Tryz.underlying59]; rfl, by kernel_rfl⟩,
    ⟨by rw [Tryz.underlying22]; rfl, by kernel_rfl⟩,
    ⟨by rw [Tryz.underlying46]; rfl, by kernel_rfl⟩,
    ⟨by rw [Tryz.underlying40]; rfl, by kernel_rfl⟩,
    ⟨by rw [Tryz.underlying42]; rfl, by kernel_rfl⟩,
    ⟨by rw [Tryz.underlying23]; rfl, by kernel_rfl⟩,
    ⟨by rw [Tryz.underlying25]; rfl, by kernel_rfl⟩,
    ⟨by rw [Tryz.underlying52]; rfl, by kernel_rfl⟩,
    ⟨by rw [Tryz.underlying50]; rfl, by kernel_rfl⟩,
    ⟨by rw [Tryz.underlying102]; rfl, by kernel_rfl⟩,
    ⟨by rw [Tryz.underlying1]; rfl, by kernel_rfl⟩, trivial⟩
theorem tokInfo : ∃ i : TypeInfo, Tryz.prog.info? 54 = some i ∧ i.zero = some (.agg #[.int .i64 0, .int .i64 0, .string (bs []), .int .i64 0]) ∧ i.size = 4 ∧ i.bytes = 40 := by
  have h : (Tryz.prog.info? 54).map (fun i => (i.zero, i.size, i.bytes)) = some (some (.agg #[.int .i64 0, .int .i64 0, .string (bs []), .int .i64 0]), 4, 40) := by kernel_rfl
  cases hi : Tryz.prog.info? 54 with
  | none => simp [hi] at h
  | some i => simp [hi] at h; exact ⟨i, rfl, h.1, h.2.1, h.2.2⟩
theorem at_one_tok {β : Base} {n : Nat} {Γ : Env} {H : List Chunk} {F : List Fact} {Q : Exit → Act → World → Prop} {ops : Array Oper} {rest : List Oper} {o : Oper} {d : Nat} {x : Operand} {m : TokV} (hw : want ops Γ o = some true) (ho : o.op = .buildSlice 37 1 #[(0, x)]) (hd : o.dst = some d) (hn : Nat.blt d n = true)
    (hx : Γ.ev x = some (.agg #[.int .i64 m.kind, .int .i64 m.at_, .string (bs m.word), .int .i64 m.n])) (k : ∀ b, At β n ((d, .slice (some ⟨b, 0, none⟩) 1 1) :: Γ) (.obj b (.cells (tokE.all [m]).toArray 54) :: H) F (wpList Tryz.prog ops Q rest)) : At β n Γ H F (wpList Tryz.prog ops Q (o :: rest)) := by
  obtain ⟨i, hi, hz, hs, _⟩ := tokInfo
  refine at_build1 hw ho hd hn hx Tryz.underlying37 hi hz (by omega) (by omega) ?_ k
  rw [hs]
  kernel_rfl
theorem at_none_tok {β : Base} {n : Nat} {Γ : Env} {H : List Chunk} {F : List Fact} {Q : Exit → Act → World → Prop} {ops : Array Oper} {rest : List Oper} {o : Oper} {d : Nat} (hw : want ops Γ o = some true) (ho : o.op = .buildSlice 37 0 #[]) (hd : o.dst = some d) (hn : Nat.blt d n = true)
    (k : ∀ b, At β n ((d, .slice (some ⟨b, 0, none⟩) 0 0) :: Γ) (tokE.row (.slice (some ⟨b, 0, none⟩) 0 0) 54 [] :: H) F (wpList Tryz.prog ops Q rest)) : At β n Γ H F (wpList Tryz.prog ops Q (o :: rest)) := by
  obtain ⟨i, hi, _⟩ := tokInfo
  exact at_build0 tokE hw ho hd hn Tryz.underlying37 hi k
theorem at_app_tok {β : Base} {n : Nat} {Γ : Env} {H : List Chunk} {F : List Fact} {Q : Exit → Act → World → Prop} {ops : Array Oper} {rest : List Oper} {o : Oper} {d : Nat} {x y : Operand} {c q : Nat} {v : Value} {A : Option Addr} {xs ys : List TokV} {H' : List Chunk} (hH : Take H (tokE.row v 54 xs) H') (hr : Reads β H F tokE A ys) (hg : o.guard = none)
    (ho : o.op = .call { callee := .builtin .append, args := #[x, y], argTypes := #[37, 37] }) (hd : o.dst = some d) (hn : Nat.blt d n = true)
    (hx : Γ.ev x = some v) (hy : Γ.ev y = some (.slice A q c)) (hq : q = ys.length) (hl : xs.length + ys.length ≤ 3518437208883)
    (k : ∀ A' cap', At β n ((d, .slice A' (xs ++ ys).length cap') :: Γ) (tokE.row (.slice A' (xs ++ ys).length cap') 54 (xs ++ ys) :: H') F (wpList Tryz.prog ops Q rest)) : At β n Γ H F (wpList Tryz.prog ops Q (o :: rest)) := by
  obtain ⟨i, hi, hz, hs, hb⟩ := tokInfo
  exact at_append_all hH hr hg ho hd hn Tryz.underlying37 hi hz hs hb rfl hx hy hq (by omega) (by decide) k
theorem intInfo : ∃ i : TypeInfo, Tryz.prog.info? 2 = some i ∧ i.zero = some (.int .i64 0) ∧ i.size = 1 ∧ i.bytes = 8 := by
  have h : (Tryz.prog.info? 2).map (fun i => (i.zero, i.size, i.bytes)) = some (some (.int .i64 0), 1, 8) := by kernel_rfl
  cases hi : Tryz.prog.info? 2 with
  | none => simp [hi] at h
  | some i => simp [hi] at h; exact ⟨i, rfl, h.1, h.2.1, h.2.2⟩
theorem at_one_int {β : Base} {n : Nat} {Γ : Env} {H : List Chunk} {F : List Fact} {Q : Exit → Act → World → Prop} {ops : Array Oper} {rest : List Oper} {o : Oper} {d : Nat} {x : Operand} {m : Int} (hw : want ops Γ o = some true) (ho : o.op = .buildSlice 44 1 #[(0, x)]) (hd : o.dst = some d) (hn : Nat.blt d n = true)
    (hx : Γ.ev x = some (.int .i64 m)) (k : ∀ b, At β n ((d, .slice (some ⟨b, 0, none⟩) 1 1) :: Γ) (.obj b (.cells (intE.all [m]).toArray 2) :: H) F (wpList Tryz.prog ops Q rest)) : At β n Γ H F (wpList Tryz.prog ops Q (o :: rest)) := by
  obtain ⟨i, hi, hz, hs, _⟩ := intInfo
  refine at_build1 hw ho hd hn hx Tryz.underlying44 hi hz (by omega) (by omega) ?_ k
  rw [hs]
  kernel_rfl
theorem at_none_int {β : Base} {n : Nat} {Γ : Env} {H : List Chunk} {F : List Fact} {Q : Exit → Act → World → Prop} {ops : Array Oper} {rest : List Oper} {o : Oper} {d : Nat} (hw : want ops Γ o = some true) (ho : o.op = .buildSlice 44 0 #[]) (hd : o.dst = some d) (hn : Nat.blt d n = true)
    (k : ∀ b, At β n ((d, .slice (some ⟨b, 0, none⟩) 0 0) :: Γ) (intE.row (.slice (some ⟨b, 0, none⟩) 0 0) 2 [] :: H) F (wpList Tryz.prog ops Q rest)) : At β n Γ H F (wpList Tryz.prog ops Q (o :: rest)) := by
  obtain ⟨i, hi, _⟩ := intInfo
  exact at_build0 intE hw ho hd hn Tryz.underlying44 hi k
theorem at_app_int {β : Base} {n : Nat} {Γ : Env} {H : List Chunk} {F : List Fact} {Q : Exit → Act → World → Prop} {ops : Array Oper} {rest : List Oper} {o : Oper} {d : Nat} {x y : Operand} {c q : Nat} {v : Value} {A : Option Addr} {xs ys : List Int} {H' : List Chunk} (hH : Take H (intE.row v 2 xs) H') (hr : Reads β H F intE A ys) (hg : o.guard = none)
    (ho : o.op = .call { callee := .builtin .append, args := #[x, y], argTypes := #[44, 44] }) (hd : o.dst = some d) (hn : Nat.blt d n = true)
    (hx : Γ.ev x = some v) (hy : Γ.ev y = some (.slice A q c)) (hq : q = ys.length) (hl : xs.length + ys.length ≤ 17592186044416)
    (k : ∀ A' cap', At β n ((d, .slice A' (xs ++ ys).length cap') :: Γ) (intE.row (.slice A' (xs ++ ys).length cap') 2 (xs ++ ys) :: H') F (wpList Tryz.prog ops Q rest)) : At β n Γ H F (wpList Tryz.prog ops Q (o :: rest)) := by
  obtain ⟨i, hi, hz, hs, hb⟩ := intInfo
  exact at_append_all hH hr hg ho hd hn Tryz.underlying44 hi hz hs hb rfl hx hy hq (by omega) (by decide) k
theorem strInfo : ∃ i : TypeInfo, Tryz.prog.info? 9 = some i ∧ i.zero = some (.string (bs [])) ∧ i.size = 1 ∧ i.bytes = 16 := by
  have h : (Tryz.prog.info? 9).map (fun i => (i.zero, i.size, i.bytes)) = some (some (.string (bs [])), 1, 16) := by kernel_rfl
  cases hi : Tryz.prog.info? 9 with
  | none => simp [hi] at h
  | some i => simp [hi] at h; exact ⟨i, rfl, h.1, h.2.1, h.2.2⟩
theorem at_one_str {β : Base} {n : Nat} {Γ : Env} {H : List Chunk} {F : List Fact} {Q : Exit → Act → World → Prop} {ops : Array Oper} {rest : List Oper} {o : Oper} {d : Nat} {x : Operand} {m : Bs} (hw : want ops Γ o = some true) (ho : o.op = .buildSlice 88 1 #[(0, x)]) (hd : o.dst = some d) (hn : Nat.blt d n = true)
    (hx : Γ.ev x = some (.string (bs m))) (k : ∀ b, At β n ((d, .slice (some ⟨b, 0, none⟩) 1 1) :: Γ) (.obj b (.cells (strE.all [m]).toArray 9) :: H) F (wpList Tryz.prog ops Q rest)) : At β n Γ H F (wpList Tryz.prog ops Q (o :: rest)) := by
  obtain ⟨i, hi, hz, hs, _⟩ := strInfo
  refine at_build1 hw ho hd hn hx Tryz.underlying88 hi hz (by omega) (by omega) ?_ k
  rw [hs]
  kernel_rfl
theorem at_none_str {β : Base} {n : Nat} {Γ : Env} {H : List Chunk} {F : List Fact} {Q : Exit → Act → World → Prop} {ops : Array Oper} {rest : List Oper} {o : Oper} {d : Nat} (hw : want ops Γ o = some true) (ho : o.op = .buildSlice 88 0 #[]) (hd : o.dst = some d) (hn : Nat.blt d n = true)
    (k : ∀ b, At β n ((d, .slice (some ⟨b, 0, none⟩) 0 0) :: Γ) (strE.row (.slice (some ⟨b, 0, none⟩) 0 0) 9 [] :: H) F (wpList Tryz.prog ops Q rest)) : At β n Γ H F (wpList Tryz.prog ops Q (o :: rest)) := by
  obtain ⟨i, hi, _⟩ := strInfo
  exact at_build0 strE hw ho hd hn Tryz.underlying88 hi k
theorem at_app_str {β : Base} {n : Nat} {Γ : Env} {H : List Chunk} {F : List Fact} {Q : Exit → Act → World → Prop} {ops : Array Oper} {rest : List Oper} {o : Oper} {d : Nat} {x y : Operand} {c q : Nat} {v : Value} {A : Option Addr} {xs ys : List Bs} {H' : List Chunk} (hH : Take H (strE.row v 9 xs) H') (hr : Reads β H F strE A ys) (hg : o.guard = none)
    (ho : o.op = .call { callee := .builtin .append, args := #[x, y], argTypes := #[88, 88] }) (hd : o.dst = some d) (hn : Nat.blt d n = true)
    (hx : Γ.ev x = some v) (hy : Γ.ev y = some (.slice A q c)) (hq : q = ys.length) (hl : xs.length + ys.length ≤ 8796093022208)
    (k : ∀ A' cap', At β n ((d, .slice A' (xs ++ ys).length cap') :: Γ) (strE.row (.slice A' (xs ++ ys).length cap') 9 (xs ++ ys) :: H') F (wpList Tryz.prog ops Q rest)) : At β n Γ H F (wpList Tryz.prog ops Q (o :: rest)) := by
  obtain ⟨i, hi, hz, hs, hb⟩ := strInfo
  exact at_append_all hH hr hg ho hd hn Tryz.underlying88 hi hz hs hb rfl hx hy hq (by omega) (by decide) k
theorem sideInfo : ∃ i : TypeInfo, Tryz.prog.info? 61 = some i ∧ i.zero = some (.agg #[.string (bs []), .int .i64 0]) ∧ i.size = 2 ∧ i.bytes = 24 := by
  have h : (Tryz.prog.info? 61).map (fun i => (i.zero, i.size, i.bytes)) = some (some (.agg #[.string (bs []), .int .i64 0]), 2, 24) := by kernel_rfl
  cases hi : Tryz.prog.info? 61 with
  | none => simp [hi] at h
  | some i => simp [hi] at h; exact ⟨i, rfl, h.1, h.2.1, h.2.2⟩
theorem at_one_side {β : Base} {n : Nat} {Γ : Env} {H : List Chunk} {F : List Fact} {Q : Exit → Act → World → Prop} {ops : Array Oper} {rest : List Oper} {o : Oper} {d : Nat} {x : Operand} {m : SideV} (hw : want ops Γ o = some true) (ho : o.op = .buildSlice 57 1 #[(0, x)]) (hd : o.dst = some d) (hn : Nat.blt d n = true)
    (hx : Γ.ev x = some (.agg #[.string (bs m.name), .int .i64 m.n])) (k : ∀ b, At β n ((d, .slice (some ⟨b, 0, none⟩) 1 1) :: Γ) (.obj b (.cells (sideE.all [m]).toArray 61) :: H) F (wpList Tryz.prog ops Q rest)) : At β n Γ H F (wpList Tryz.prog ops Q (o :: rest)) := by
  obtain ⟨i, hi, hz, hs, _⟩ := sideInfo
  refine at_build1 hw ho hd hn hx Tryz.underlying57 hi hz (by omega) (by omega) ?_ k
  rw [hs]
  kernel_rfl
theorem at_none_side {β : Base} {n : Nat} {Γ : Env} {H : List Chunk} {F : List Fact} {Q : Exit → Act → World → Prop} {ops : Array Oper} {rest : List Oper} {o : Oper} {d : Nat} (hw : want ops Γ o = some true) (ho : o.op = .buildSlice 57 0 #[]) (hd : o.dst = some d) (hn : Nat.blt d n = true)
    (k : ∀ b, At β n ((d, .slice (some ⟨b, 0, none⟩) 0 0) :: Γ) (sideE.row (.slice (some ⟨b, 0, none⟩) 0 0) 61 [] :: H) F (wpList Tryz.prog ops Q rest)) : At β n Γ H F (wpList Tryz.prog ops Q (o :: rest)) := by
  obtain ⟨i, hi, _⟩ := sideInfo
  exact at_build0 sideE hw ho hd hn Tryz.underlying57 hi k
theorem at_app_side {β : Base} {n : Nat} {Γ : Env} {H : List Chunk} {F : List Fact} {Q : Exit → Act → World → Prop} {ops : Array Oper} {rest : List Oper} {o : Oper} {d : Nat} {x y : Operand} {c q : Nat} {v : Value} {A : Option Addr} {xs ys : List SideV} {H' : List Chunk} (hH : Take H (sideE.row v 61 xs) H') (hr : Reads β H F sideE A ys) (hg : o.guard = none)
    (ho : o.op = .call { callee := .builtin .append, args := #[x, y], argTypes := #[57, 57] }) (hd : o.dst = some d) (hn : Nat.blt d n = true)
    (hx : Γ.ev x = some v) (hy : Γ.ev y = some (.slice A q c)) (hq : q = ys.length) (hl : xs.length + ys.length ≤ 5864062014805)
    (k : ∀ A' cap', At β n ((d, .slice A' (xs ++ ys).length cap') :: Γ) (sideE.row (.slice A' (xs ++ ys).length cap') 61 (xs ++ ys) :: H') F (wpList Tryz.prog ops Q rest)) : At β n Γ H F (wpList Tryz.prog ops Q (o :: rest)) := by
  obtain ⟨i, hi, hz, hs, hb⟩ := sideInfo
  exact at_append_all hH hr hg ho hd hn Tryz.underlying57 hi hz hs hb rfl hx hy hq (by omega) (by decide) k
theorem inputInfo : ∃ i : TypeInfo, Tryz.prog.info? 59 = some i ∧ i.zero = some (.agg #[.string (bs []), .int .i64 0, .slice none 0 0]) ∧ i.size = 3 ∧ i.bytes = 48 := by
  have h : (Tryz.prog.info? 59).map (fun i => (i.zero, i.size, i.bytes)) = some (some (.agg #[.string (bs []), .int .i64 0, .slice none 0 0]), 3, 48) := by kernel_rfl
  cases hi : Tryz.prog.info? 59 with
  | none => simp [hi] at h
  | some i => simp [hi] at h; exact ⟨i, rfl, h.1, h.2.1, h.2.2⟩
theorem at_one_input {β : Base} {n : Nat} {Γ : Env} {H : List Chunk} {F : List Fact} {Q : Exit → Act → World → Prop} {ops : Array Oper} {rest : List Oper} {o : Oper} {d : Nat} {x : Operand} {m : InputV} (hw : want ops Γ o = some true) (ho : o.op = .buildSlice 22 1 #[(0, x)]) (hd : o.dst = some d) (hn : Nat.blt d n = true)
    (hx : Γ.ev x = some (.agg #[.string (bs m.name), .int .i64 m.at_, .slice m.sides.addr m.sides.list.length m.sides.cap])) (k : ∀ b, At β n ((d, .slice (some ⟨b, 0, none⟩) 1 1) :: Γ) (.obj b (.cells (inputE.all [m]).toArray 59) :: H) F (wpList Tryz.prog ops Q rest)) : At β n Γ H F (wpList Tryz.prog ops Q (o :: rest)) := by
  obtain ⟨i, hi, hz, hs, _⟩ := inputInfo
  refine at_build1 hw ho hd hn hx Tryz.underlying22 hi hz (by omega) (by omega) ?_ k
  rw [hs]
  kernel_rfl
theorem at_none_input {β : Base} {n : Nat} {Γ : Env} {H : List Chunk} {F : List Fact} {Q : Exit → Act → World → Prop} {ops : Array Oper} {rest : List Oper} {o : Oper} {d : Nat} (hw : want ops Γ o = some true) (ho : o.op = .buildSlice 22 0 #[]) (hd : o.dst = some d) (hn : Nat.blt d n = true)
    (k : ∀ b, At β n ((d, .slice (some ⟨b, 0, none⟩) 0 0) :: Γ) (inputE.row (.slice (some ⟨b, 0, none⟩) 0 0) 59 [] :: H) F (wpList Tryz.prog ops Q rest)) : At β n Γ H F (wpList Tryz.prog ops Q (o :: rest)) := by
  obtain ⟨i, hi, _⟩ := inputInfo
  exact at_build0 inputE hw ho hd hn Tryz.underlying22 hi k
theorem at_app_input {β : Base} {n : Nat} {Γ : Env} {H : List Chunk} {F : List Fact} {Q : Exit → Act → World → Prop} {ops : Array Oper} {rest : List Oper} {o : Oper} {d : Nat} {x y : Operand} {c q : Nat} {v : Value} {A : Option Addr} {xs ys : List InputV} {H' : List Chunk} (hH : Take H (inputE.row v 59 xs) H') (hr : Reads β H F inputE A ys) (hg : o.guard = none)
    (ho : o.op = .call { callee := .builtin .append, args := #[x, y], argTypes := #[22, 22] }) (hd : o.dst = some d) (hn : Nat.blt d n = true)
    (hx : Γ.ev x = some v) (hy : Γ.ev y = some (.slice A q c)) (hq : q = ys.length) (hl : xs.length + ys.length ≤ 2932031007402)
    (k : ∀ A' cap', At β n ((d, .slice A' (xs ++ ys).length cap') :: Γ) (inputE.row (.slice A' (xs ++ ys).length cap') 59 (xs ++ ys) :: H') F (wpList Tryz.prog ops Q rest)) : At β n Γ H F (wpList Tryz.prog ops Q (o :: rest)) := by
  obtain ⟨i, hi, hz, hs, hb⟩ := inputInfo
  exact at_append_all hH hr hg ho hd hn Tryz.underlying22 hi hz hs hb rfl hx hy hq (by omega) (by decide) k
theorem itemInfo : ∃ i : TypeInfo, Tryz.prog.info? 46 = some i ∧ i.zero = some (.agg #[.int .i64 0, .int .i64 0, .int .u8 0, .string (bs []), .slice none 0 0]) ∧ i.size = 5 ∧ i.bytes = 64 := by
  have h : (Tryz.prog.info? 46).map (fun i => (i.zero, i.size, i.bytes)) = some (some (.agg #[.int .i64 0, .int .i64 0, .int .u8 0, .string (bs []), .slice none 0 0]), 5, 64) := by kernel_rfl
  cases hi : Tryz.prog.info? 46 with
  | none => simp [hi] at h
  | some i => simp [hi] at h; exact ⟨i, rfl, h.1, h.2.1, h.2.2⟩
theorem at_one_item {β : Base} {n : Nat} {Γ : Env} {H : List Chunk} {F : List Fact} {Q : Exit → Act → World → Prop} {ops : Array Oper} {rest : List Oper} {o : Oper} {d : Nat} {x : Operand} {m : ItemV} (hw : want ops Γ o = some true) (ho : o.op = .buildSlice 40 1 #[(0, x)]) (hd : o.dst = some d) (hn : Nat.blt d n = true)
    (hx : Γ.ev x = some (.agg #[.int .i64 m.how, .int .i64 m.at_, .int .u8 m.fn, .string (bs m.name), .slice m.nums.addr m.nums.list.length m.nums.cap])) (k : ∀ b, At β n ((d, .slice (some ⟨b, 0, none⟩) 1 1) :: Γ) (.obj b (.cells (itemE.all [m]).toArray 46) :: H) F (wpList Tryz.prog ops Q rest)) : At β n Γ H F (wpList Tryz.prog ops Q (o :: rest)) := by
  obtain ⟨i, hi, hz, hs, _⟩ := itemInfo
  refine at_build1 hw ho hd hn hx Tryz.underlying40 hi hz (by omega) (by omega) ?_ k
  rw [hs]
  kernel_rfl
theorem at_none_item {β : Base} {n : Nat} {Γ : Env} {H : List Chunk} {F : List Fact} {Q : Exit → Act → World → Prop} {ops : Array Oper} {rest : List Oper} {o : Oper} {d : Nat} (hw : want ops Γ o = some true) (ho : o.op = .buildSlice 40 0 #[]) (hd : o.dst = some d) (hn : Nat.blt d n = true)
    (k : ∀ b, At β n ((d, .slice (some ⟨b, 0, none⟩) 0 0) :: Γ) (itemE.row (.slice (some ⟨b, 0, none⟩) 0 0) 46 [] :: H) F (wpList Tryz.prog ops Q rest)) : At β n Γ H F (wpList Tryz.prog ops Q (o :: rest)) := by
  obtain ⟨i, hi, _⟩ := itemInfo
  exact at_build0 itemE hw ho hd hn Tryz.underlying40 hi k
theorem at_app_item {β : Base} {n : Nat} {Γ : Env} {H : List Chunk} {F : List Fact} {Q : Exit → Act → World → Prop} {ops : Array Oper} {rest : List Oper} {o : Oper} {d : Nat} {x y : Operand} {c q : Nat} {v : Value} {A : Option Addr} {xs ys : List ItemV} {H' : List Chunk} (hH : Take H (itemE.row v 46 xs) H') (hr : Reads β H F itemE A ys) (hg : o.guard = none)
    (ho : o.op = .call { callee := .builtin .append, args := #[x, y], argTypes := #[40, 40] }) (hd : o.dst = some d) (hn : Nat.blt d n = true)
    (hx : Γ.ev x = some v) (hy : Γ.ev y = some (.slice A q c)) (hq : q = ys.length) (hl : xs.length + ys.length ≤ 2199023255552)
    (k : ∀ A' cap', At β n ((d, .slice A' (xs ++ ys).length cap') :: Γ) (itemE.row (.slice A' (xs ++ ys).length cap') 46 (xs ++ ys) :: H') F (wpList Tryz.prog ops Q rest)) : At β n Γ H F (wpList Tryz.prog ops Q (o :: rest)) := by
  obtain ⟨i, hi, hz, hs, hb⟩ := itemInfo
  exact at_append_all hH hr hg ho hd hn Tryz.underlying40 hi hz hs hb rfl hx hy hq (by omega) (by decide) k
theorem lineInfo : ∃ i : TypeInfo, Tryz.prog.info? 42 = some i ∧ i.zero = some (.agg #[.string (bs []), .int .i64 0, .slice none 0 0]) ∧ i.size = 3 ∧ i.bytes = 48 := by
  have h : (Tryz.prog.info? 42).map (fun i => (i.zero, i.size, i.bytes)) = some (some (.agg #[.string (bs []), .int .i64 0, .slice none 0 0]), 3, 48) := by kernel_rfl
  cases hi : Tryz.prog.info? 42 with
  | none => simp [hi] at h
  | some i => simp [hi] at h; exact ⟨i, rfl, h.1, h.2.1, h.2.2⟩
theorem at_one_line {β : Base} {n : Nat} {Γ : Env} {H : List Chunk} {F : List Fact} {Q : Exit → Act → World → Prop} {ops : Array Oper} {rest : List Oper} {o : Oper} {d : Nat} {x : Operand} {m : LineV} (hw : want ops Γ o = some true) (ho : o.op = .buildSlice 23 1 #[(0, x)]) (hd : o.dst = some d) (hn : Nat.blt d n = true)
    (hx : Γ.ev x = some (.agg #[.string (bs m.name), .int .i64 m.at_, .slice m.items.addr m.items.list.length m.items.cap])) (k : ∀ b, At β n ((d, .slice (some ⟨b, 0, none⟩) 1 1) :: Γ) (.obj b (.cells (lineE.all [m]).toArray 42) :: H) F (wpList Tryz.prog ops Q rest)) : At β n Γ H F (wpList Tryz.prog ops Q (o :: rest)) := by
  obtain ⟨i, hi, hz, hs, _⟩ := lineInfo
  refine at_build1 hw ho hd hn hx Tryz.underlying23 hi hz (by omega) (by omega) ?_ k
  rw [hs]
  kernel_rfl
theorem at_none_line {β : Base} {n : Nat} {Γ : Env} {H : List Chunk} {F : List Fact} {Q : Exit → Act → World → Prop} {ops : Array Oper} {rest : List Oper} {o : Oper} {d : Nat} (hw : want ops Γ o = some true) (ho : o.op = .buildSlice 23 0 #[]) (hd : o.dst = some d) (hn : Nat.blt d n = true)
    (k : ∀ b, At β n ((d, .slice (some ⟨b, 0, none⟩) 0 0) :: Γ) (lineE.row (.slice (some ⟨b, 0, none⟩) 0 0) 42 [] :: H) F (wpList Tryz.prog ops Q rest)) : At β n Γ H F (wpList Tryz.prog ops Q (o :: rest)) := by
  obtain ⟨i, hi, _⟩ := lineInfo
  exact at_build0 lineE hw ho hd hn Tryz.underlying23 hi k
theorem at_app_line {β : Base} {n : Nat} {Γ : Env} {H : List Chunk} {F : List Fact} {Q : Exit → Act → World → Prop} {ops : Array Oper} {rest : List Oper} {o : Oper} {d : Nat} {x y : Operand} {c q : Nat} {v : Value} {A : Option Addr} {xs ys : List LineV} {H' : List Chunk} (hH : Take H (lineE.row v 42 xs) H') (hr : Reads β H F lineE A ys) (hg : o.guard = none)
    (ho : o.op = .call { callee := .builtin .append, args := #[x, y], argTypes := #[23, 23] }) (hd : o.dst = some d) (hn : Nat.blt d n = true)
    (hx : Γ.ev x = some v) (hy : Γ.ev y = some (.slice A q c)) (hq : q = ys.length) (hl : xs.length + ys.length ≤ 2932031007402)
    (k : ∀ A' cap', At β n ((d, .slice A' (xs ++ ys).length cap') :: Γ) (lineE.row (.slice A' (xs ++ ys).length cap') 42 (xs ++ ys) :: H') F (wpList Tryz.prog ops Q rest)) : At β n Γ H F (wpList Tryz.prog ops Q (o :: rest)) := by
  obtain ⟨i, hi, hz, hs, hb⟩ := lineInfo
  exact at_append_all hH hr hg ho hd hn Tryz.underlying23 hi hz hs hb rfl hx hy hq (by omega) (by decide) k
theorem mixes : Tryz.prog.follows .mixedOrders = true := by kernel_rfl
end Go.Proofs.YtngkedmndhmjcaaGreatDoor
/- Plain: bytes, tokens, lexing (no program). -/
namespace Go.Proofs.YtngkedmndhmjcaaGreatDoor

def letterB (b : UInt8) : Bool := decide (97 ≤ (b ||| 32).toNat) && decide ((b ||| 32).toNat ≤ 122)
def digitB (b : UInt8) : Bool := decide (48 ≤ b.toNat) && decide (b.toNat ≤ 57)
def wordB (b : UInt8) : Bool := letterB b || digitB b
abbrev Tok := TokV
/-- a fault: its place, its code -/
abbrev Flt := Int × Int
def runB (p : UInt8 → Bool) : Bs → Nat
  | [] => 0
  | b :: r => if p b then runB p r + 1 else 0
theorem runB_le (p : UInt8 → Bool) : ∀ s : Bs, runB p s ≤ s.length
  | [] => Nat.le_refl _
  | b :: r => by
    unfold runB
    split
    · have := runB_le p r
      simp; omega
    · simp
def decV : Bs → Nat → Nat
  | [], v => v
  | b :: r, v => decV r (10 * v + (b.toNat - 48))
def numP (neg : Bool) (ds : Bs) : Option Int :=
  if neg then (if decV ds 0 ≤ 9223372036854775808 then some (-(decV ds 0 : Int)) else none)
  else (if decV ds 0 ≤ 9223372036854775807 then some (decV ds 0 : Int) else none)
def signs : Bs := [43, 45, 42, 37, 124, 61, 126, 60, 62, 47, 92, 46, 58, 40, 41]
def signP : Bs → Nat
  | [] => 0
  | b :: r => if (b == 60 || b == 62) && r.head? == some 61 then 2 else if signs.contains b then 1 else 0
/-- kind, word, number, length -/
abbrev TokR := Int × Bs × Int × Nat
def numTok (b : UInt8) (r : Bs) : Except Int (Option TokR) :=
  let ds := if b == 95 then r else b :: r
  let k := runB digitB ds
  if k = 0 then .ok none else match numP (b == 95) (ds.take k) with
    | none => .error 32
    | some v => .ok (some (2, [], v, k + if b == 95 then 1 else 0))
def tokenP : Bs → Except Int TokR
  | [] => .error 31
  | b :: r =>
    if b == 10 then .ok (4, [], 0, 1)
    else if letterB b then (if 16 < runB wordB (b :: r) then .error 33 else .ok (1, (b :: r).take (runB wordB (b :: r)), 0, runB wordB (b :: r)))
    else match numTok b r with
      | .error e => .error e
      | .ok (some t) => .ok t
      | .ok none => if signP (b :: r) = 0 then .error 31 else .ok (3, (b :: r).take (signP (b :: r)), 0, signP (b :: r))
def blankB (b : UInt8) : Bool := b == 32 || b == 9
def lexGo : Nat → Nat → Bs → List Tok → List Tok × Flt
  | 0, _, _, out => (out, (0, 0))
  | _ + 1, _, [], out => (out, (0, 0))
  | f + 1, i, b :: r, out =>
    if blankB b then lexGo f (i + 1) r out
    else if b == 35 then lexGo f (i + runB (· != 10) (b :: r)) ((b :: r).drop (runB (· != 10) (b :: r))) out
    else match tokenP (b :: r) with
      | .error e => ([], (i, e))
      | .ok (k, wd, v, m) => lexGo f (i + m) ((b :: r).drop m) (out ++ [⟨k, i, wd, v⟩])
def lexP (s : Bs) : List Tok × Flt := if 65536 < s.length then ([], (0, 30)) else lexGo s.length 0 s []

theorem numTok_len {b : UInt8} {r : Bs} {t : TokR} (h : numTok b r = .ok (some t)) : 1 ≤ t.2.2.2 ∧ t.2.2.2 ≤ r.length + 1 := by
  unfold numTok at h
  by_cases hb : (b == 95) = true
  · simp only [hb, if_true] at h
    have hl := runB_le digitB r
    split at h
    · cases h
    · split at h
      · cases h
      · simp only [Except.ok.injEq, Option.some.injEq] at h
        subst h
        simp; omega
  · simp only [hb, Bool.false_eq_true, if_false] at h
    have hl := runB_le digitB (b :: r)
    simp only [List.length_cons] at hl
    split at h
    · cases h
    · split at h
      · cases h
      · simp only [Except.ok.injEq, Option.some.injEq] at h
        subst h
        simp only
        omega
theorem signP_le : ∀ s : Bs, signP s ≤ s.length
  | [] => Nat.le_refl _
  | [b] => by
    have e : (none == some (61 : UInt8)) = false := rfl
    simp only [signP, List.head?_nil, e, Bool.and_false, Bool.false_eq_true, if_false]
    split <;> simp
  | b :: c :: r => by
    simp only [signP]
    split
    · simp
    · split
      · simp only [List.length_cons]; omega
      · omega
theorem tokenP_len {s : Bs} {t : TokR} (h : tokenP s = .ok t) : 1 ≤ t.2.2.2 ∧ t.2.2.2 ≤ s.length := by
  cases s with
  | nil => cases h
  | cons b r =>
    simp only [tokenP] at h
    split at h
    · cases h
      simp
    · split at h
      · rename_i hlt
        split at h
        · cases h
        · cases h
          have := runB_le wordB (b :: r)
          refine ⟨?_, this⟩
          simp only [runB, wordB, hlt, Bool.true_or, if_true]
          omega
      · split at h
        · cases h
        · rename_i t' ht
          cases h
          exact numTok_len ht
        · split at h
          · cases h
          · cases h
            have := signP_le (b :: r)
            simp only
            omega
theorem runB_pos {p : UInt8 → Bool} {b : UInt8} {r : Bs} (h : p b = true) : 1 ≤ runB p (b :: r) := by
  simp only [runB, h, if_true]
  omega
theorem note_pos {b : UInt8} (h : (b == 35) = true) : (b != 10) = true := by
  have : b = 35 := by simpa using h
  subst this
  decide
/-- more fuel than bytes changes nothing -/
theorem lexGo_fuel : ∀ (f g i : Nat) (s : Bs) (out : List Tok), s.length ≤ f → s.length ≤ g → lexGo f i s out = lexGo g i s out
  | 0, 0, _, _, _, _, _ => rfl
  | 0, g + 1, _, [], _, _, _ => rfl
  | f + 1, 0, _, [], _, _, _ => rfl
  | 0, _, _, b :: r, _, h, _ => by simp at h
  | _, 0, _, b :: r, _, _, h => by simp at h
  | f + 1, g + 1, _, [], _, _, _ => rfl
  | f + 1, g + 1, i, b :: r, out, h, k => by
    simp only [List.length_cons] at h k
    unfold lexGo
    split
    · exact lexGo_fuel f g _ _ _ (by omega) (by omega)
    · split
      · rename_i h35
        have : 1 ≤ runB (· != 10) (b :: r) := runB_pos (note_pos h35)
        exact lexGo_fuel f g _ _ _ (by simp; omega) (by simp; omega)
      · split
        · rfl
        · rename_i ht
          have := (tokenP_len ht).1
          exact lexGo_fuel f g _ _ _ (by simp at this ⊢; omega) (by simp at this ⊢; omega)
/-- one turn of the loop -/
theorem lexGo_step {i : Nat} {b : UInt8} {r : Bs} {out : List Tok} : lexGo (b :: r).length i (b :: r) out =
    if blankB b then lexGo r.length (i + 1) r out
    else if b == 35 then lexGo ((b :: r).drop (runB (· != 10) (b :: r))).length (i + runB (· != 10) (b :: r)) ((b :: r).drop (runB (· != 10) (b :: r))) out
    else match tokenP (b :: r) with
      | .error e => ([], (i, e))
      | .ok (k, wd, v, m) => lexGo ((b :: r).drop m).length (i + m) ((b :: r).drop m) (out ++ [⟨k, i, wd, v⟩]) := by
  rw [List.length_cons, lexGo]
  split
  · rfl
  · split
    · rename_i h35
      have : 1 ≤ runB (· != 10) (b :: r) := runB_pos (note_pos h35)
      exact lexGo_fuel _ _ _ _ _ (by simp; omega) (by simp)
    · split
      · rfl
      · rename_i ht
        have := (tokenP_len ht).1
        exact lexGo_fuel _ _ _ _ _ (by simp at this ⊢; omega) (by simp)
end Go.Proofs.YtngkedmndhmjcaaGreatDoor
/- Walks of the layer lex: bytes, runs. (Printed by wip/gen/lex.py.) -/
namespace Go.Proofs.YtngkedmndhmjcaaGreatDoor
open Go.RowKit

theorem run_more {p : UInt8 → Bool} {s : Bs} {i : Nat} {b : UInt8} (hb : s[i]? = some b) (hp : p b = true) (h : runB p s = i + runB p (s.drop i)) : runB p s = (i + 1) + runB p (s.drop (i + 1)) := by
  obtain ⟨hi, hb⟩ := List.getElem?_eq_some_iff.1 hb
  rw [List.drop_eq_getElem_cons hi, hb, runB, if_pos hp] at h
  omega
theorem run_end {p : UInt8 → Bool} {s : Bs} {i : Nat} (hc : s.length ≤ i ∨ ∃ b, s[i]? = some b ∧ p b = false) (h : runB p s = i + runB p (s.drop i)) : runB p s = i := by
  rcases hc with hc | ⟨b, hb, hp⟩
  · rw [List.drop_of_length_le hc] at h
    simpa [runB] using h
  · obtain ⟨hi, hb⟩ := List.getElem?_eq_some_iff.1 hb
    rw [List.drop_eq_getElem_cons hi, hb, runB, hp] at h
    simpa using h
theorem or32 (a : UInt8) : IntKind.u8.wrap (((BitVec.ofInt IntKind.u8.bits (a.toNat : Int) ||| BitVec.ofInt IntKind.u8.bits 32).toNat : Nat) : Int) = (((a ||| 32).toNat : Nat) : Int) := or_u8 a 32


set_option maxRecDepth 100000 in
theorem letter_spec (b : UInt8) : Spec Tryz.prog 37 [.int .u8 b.toNat] [] [] (fun (_ : Unit) => .bool (letterB b)) (fun _ => []) (fun _ => []) := by
  have hT := showT_ok
  refine spec_of Tryz.func37 rfl Tryz.ntmps37 rfl ?_
  intro β hM
  refine sr ?_
  refine sp hT ?_
  refine nn ?_
  refine sr ?_
  refine sp2 hT ?_
  refine at_int (z' := ((((b ||| 32) : UInt8).toNat : Nat) : Int)) (or32 _) ?_
  refine sp2 hT ?_
  refine at_case (fun hg6 => ?_) (fun hg6 => ?_)
  · have hg6 := of_decide_eq_true hg6
    refine sp2 hT ?_
    refine at_int (z' := ((((b ||| 32) : UInt8).toNat : Nat) : Int)) (or32 _) ?_
    refine sp3 hT ?_
    refine nn ?_
    refine at_ret ?_
    exact at_res1 () rfl (rv_tmp rfl) .nil trivial (by congr 1; unfold letterB; generalize (b ||| 32).toNat = c at *; rw [Bool.eq_iff_iff]; simp; omega)
  have hg6 := Int.not_le.1 (of_decide_eq_false hg6)
  refine sk3 ?_
  refine sp2 hT ?_
  refine nn ?_
  refine at_ret ?_
  exact at_res1 () rfl (rv_tmp rfl) .nil trivial (by congr 1; unfold letterB; generalize (b ||| 32).toNat = c at *; rw [Bool.eq_iff_iff]; simp; omega)

set_option maxRecDepth 100000 in
theorem digit_spec (b : UInt8) : Spec Tryz.prog 39 [.int .u8 b.toNat] [] [] (fun (_ : Unit) => .bool (digitB b)) (fun _ => []) (fun _ => []) := by
  have hT := showT_ok
  refine spec_of Tryz.func39 rfl Tryz.ntmps39 rfl ?_
  intro β hM
  refine sr ?_
  refine sp hT ?_
  refine nn ?_
  refine sr ?_
  refine sp3 hT ?_
  refine at_case (fun hg5 => ?_) (fun hg5 => ?_)
  · have hg5 := of_decide_eq_true hg5
    refine sp4 hT ?_
    refine nn ?_
    refine at_ret ?_
    exact at_res1 () rfl (rv_tmp rfl) .nil trivial (by congr 1; unfold digitB; rw [Bool.eq_iff_iff]; simp; omega)
  have hg5 := Int.not_le.1 (of_decide_eq_false hg5)
  refine sk2 ?_
  refine sp2 hT ?_
  refine nn ?_
  refine at_ret ?_
  exact at_res1 () rfl (rv_tmp rfl) .nil trivial (by congr 1; unfold digitB; rw [Bool.eq_iff_iff]; simp; omega)

set_option maxRecDepth 100000 in
theorem word_spec (b : UInt8) : Spec Tryz.prog 38 [.int .u8 b.toNat] [] [] (fun (_ : Unit) => .bool (wordB b)) (fun _ => []) (fun _ => []) := by
  have hT := showT_ok
  refine spec_of Tryz.func38 rfl Tryz.ntmps38 rfl ?_
  intro β hM
  refine sr ?_
  refine sp hT ?_
  refine nn ?_
  refine sr ?_
  refine sp hT ?_
  refine at_call (callFunc_enter Tryz.func37 rfl rfl) (letter_spec _) rfl rfl rfl rfl rfl .nil trivial fun _ => ?_
  refine sp hT ?_
  refine at_case (fun hg5 => ?_) (fun hg5 => ?_)
  · refine sk2 ?_
    refine sp2 hT ?_
    refine nn ?_
    refine at_ret ?_
    exact at_res1 () rfl (rv_tmp rfl) .nil trivial (by simp [wordB, *])
  refine sp hT ?_
  refine at_call (callFunc_enter Tryz.func39 rfl rfl) (digit_spec _) rfl rfl rfl rfl rfl .nil trivial fun _ => ?_
  refine sp2 hT ?_
  refine nn ?_
  refine at_ret ?_
  exact at_res1 () rfl (rv_tmp rfl) .nil trivial (by simp [wordB, *])

set_option maxRecDepth 100000 in
theorem line_spec (b : UInt8) : Spec Tryz.prog 24 [.int .u8 b.toNat] [] [] (fun (_ : Unit) => .bool (b != 10)) (fun _ => []) (fun _ => []) := by
  have hT := showT_ok
  refine spec_of Tryz.func24 rfl Tryz.ntmps24 rfl ?_
  intro β hM
  refine sr ?_
  refine sp hT ?_
  refine nn ?_
  refine sr ?_
  refine sp3 hT ?_
  refine nn ?_
  refine at_ret ?_
  exact at_res1 () rfl (rv_tmp rfl) .nil trivial (by congr 1; rw [Bool.eq_iff_iff]; simp [bne_iff_ne, ← UInt8.toNat_inj]; omega)

set_option maxRecDepth 100000 in
theorem run_spec (s : Bs) (hs : s.length ≤ 140737488355328) (f : FuncId) (p : UInt8 → Bool) (hcf : ∀ (args : Array Value) (w : World), (callFunc f args).run Tryz.prog w = .ok (.enter f args) w) (hf : ∀ b : UInt8, Spec Tryz.prog f [.int .u8 b.toNat] [] [] (fun _ : Unit => .bool (p b)) (fun _ => []) (fun _ => [])) : Spec Tryz.prog 23 [.string (bs s), .func (.func f) #[] #[]] [] [] (fun (_ : Unit) => .int .i64 (runB p s : Nat)) (fun _ => []) (fun _ => []) := by
  have hT := showT_ok
  refine spec_of Tryz.func23 rfl Tryz.ntmps23 rfl ?_
  intro β hM
  refine sr ?_
  refine sp hT ?_
  refine nn ?_
  refine sr ?_
  refine sp hT ?_
  refine nn ?_
  refine at_seq ?_
  refine at_block ?_
  refine at_loop2 (ι := Nat) [(0, _), (1, _)] ⟨rfl, rfl, trivial⟩ (fun i => [(5, .int .i64 (i : Nat))]) (fun i => []) (fun i => [Fact.pure (i ≤ s.length ∧ runB p s = i + runB p (s.drop i))]) (fun i => s.length - i) 0 ⟨rfl, trivial⟩ .nil ⟨Has.pure (⟨by omega, by simp⟩), trivial⟩ ?_
  rintro i
  refine at_know (Has.of mT0) fun hinv2 => ?_
  refine at_seq ?_
  refine sr ?_
  refine sp3 hT ?_
  refine at_int (z' := ((s.length : Nat) : Int)) rfl ?_
  refine sp2 hT ?_
  refine at_case (fun hg10 => ?_) (fun hg10 => ?_)
  · have hg10 := of_decide_eq_true hg10
    refine sp3 hT ?_
    obtain ⟨b1, hb2⟩ : ∃ b, s[i]? = some b := ⟨_, List.getElem?_eq_getElem (by omega)⟩
    refine ss (sti_sindex hT (k := i) rfl rfl rfl rfl rfl hb2) ?_
    refine at_callv hcf (hf b1) rfl rfl rfl rfl rfl rfl rfl .nil trivial fun _ => ?_
    refine sp hT ?_
    refine nn ?_
    refine at_cond rfl (fun hc16 => ?_) (fun hc16 => ?_)
    · refine at_skip ?_
      refine n_then ?_
      refine at_block ?_
      refine at_region ?_
      refine sp2 hT ?_
      refine at_int (z' := (((i + 1) : Nat) : Int)) (wrapN (by omega) (by omega)) ?_
      refine sp hT ?_
      refine at_nil ?_
      refine n_block ?_
      refine n_then ?_
      exact at_back2 (i + 1) (by omega) ⟨rfl, trivial⟩ ⟨rfl, rfl, trivial⟩ .nil ⟨Has.pure (⟨by omega, run_more hb2 hc16 hinv2.2⟩), trivial⟩ (HasAll.drop 1)
    refine at_exit ?_
    refine x_then ?_
    refine x_then ?_
    refine x_block ?_
    refine n_then ?_
    refine sr ?_
    refine sp2 hT ?_
    refine nn ?_
    refine at_ret ?_
    exact at_res1 () rfl (rv_tmp rfl) .nil trivial (congrArg (fun n : Nat => Value.int .i64 (n : Int)) (run_end (.inr ⟨_, hb2, hc16⟩) hinv2.2).symm)
  have hg10 := Int.not_lt.1 (of_decide_eq_false hg10)
  refine sk4 ?_
  refine sk ?_
  refine sp hT ?_
  refine nn ?_
  refine at_false rfl rfl ?_
  refine at_exit ?_
  refine x_then ?_
  refine x_then ?_
  refine x_block ?_
  refine n_then ?_
  refine sr ?_
  refine sp2 hT ?_
  refine nn ?_
  refine at_ret ?_
  exact at_res1 () rfl (rv_tmp rfl) .nil trivial (congrArg (fun n : Nat => Value.int .i64 (n : Int)) (run_end (.inl (by omega)) hinv2.2).symm)

end Go.Proofs.YtngkedmndhmjcaaGreatDoor
/- Equality of structs of numbers and texts; an interface against nil. (Printed by wip/gen/ty_eq.py.) -/
namespace Go.Proofs.YtngkedmndhmjcaaGreatDoor
open Go.RowKit

theorem run_equalIn_bs {P : Program} (w : World) (d : Nat) (t : TypeId) (a b : Bs) (ht : P.underlying t = some .string) : (Op.equalIn (d + 1) t (.string (bs a)) (.string (bs b))).run P w = .ok (a == b) w := by
  rw [run_equalIn_string w d t _ _ ht]
  simp [bs]
section
variable {P : Program} {β : Base} {n : Nat} {Γ : Env} {H : List Chunk} {F : List Fact} {o : Oper} {x : Operand} {t tt : TypeId}
theorem run_eqIf {ms : Array (String × TypeId)} (ht : P.underlying t = some (.interface ms)) (w : World) (u : TypeId) (v : Value) : (Op.equal t (.iface u v) .nilIface).run P w = .ok false w ∧ (Op.equal t .nilIface .nilIface).run P w = .ok true w := by
  have h1 : ∀ d, (Op.equalIn (d + 1) t (.iface u v) .nilIface).run P w = .ok false w := fun d => by simp [Op.equalIn, run_underlying ht]
  have h2 : ∀ d, (Op.equalIn (d + 1) t .nilIface .nilIface).run P w = .ok true w := fun d => by simp [Op.equalIn, run_underlying ht]
  exact ⟨h1 9999, h2 9999⟩
/-- err != nil -/
theorem sti_err {ms : Array (String × TypeId)} (ht : P.underlying t = some (.interface ms)) {u : TypeId} {v : Value} (ho : o.op = .binOp .neq t x (.const .nilIface) tt) (hx : Γ.ev x = some (.iface u v)) : Sti P β n Γ H F o (.bool true) := fun c w S f s k => by
  unfold execOp
  have e : c.eval (.const .nilIface) = .nilIface := rfl
  simp only [ho, f.ev hx, e]
  have hb : (binOp .neq t (.iface u v) .nilIface).run P w = .ok (.bool true) w := by
    simp only [binOp]
    rw [Sem.run_bind, (run_eqIf ht w u v).1]
    rfl
  rw [Sem.run_bind, Sem.run_bind]
  have hg : (eqGuard .neq t x (.const .nilIface) (.iface u v) .nilIface).run P w = .ok () w := rfl
  rw [hg, Result.andThen_ok, hb]
  rfl
theorem sti_noerr {ms : Array (String × TypeId)} (ht : P.underlying t = some (.interface ms)) (ho : o.op = .binOp .neq t x (.const .nilIface) tt) (hx : Γ.ev x = some .nilIface) : Sti P β n Γ H F o (.bool false) := fun c w S f s k => by
  unfold execOp
  have e : c.eval (.const .nilIface) = .nilIface := rfl
  simp only [ho, f.ev hx, e]
  have hb : (binOp .neq t .nilIface .nilIface).run P w = .ok (.bool false) w := by
    simp only [binOp]
    rw [Sem.run_bind, (run_eqIf ht w 0 .nilIface).2]
    rfl
  rw [Sem.run_bind, Sem.run_bind]
  have hg : (eqGuard .neq t x (.const .nilIface) .nilIface .nilIface).run P w = .ok () w := by
    unfold eqGuard
    simp
  rw [hg, Result.andThen_ok, hb]
  rfl
end

def fltEq (x y : FltV) : Bool := ((x.at_ == y.at_) && (x.code == y.code))
theorem run_equalIn_flt (d : Nat) (x y : FltV) (w : World) : (Op.equalIn (d + 2) 32 (.agg #[.int .i64 x.at_, .int .i64 x.code]) (.agg #[.int .i64 y.at_, .int .i64 y.code])).run Tryz.prog w = .ok (fltEq x y) w := by
  have hp : Tryz.prog.stoodInHeld 32 = false := by kernel_rfl
  have p0 : ∀ x : FltV, (part 3 #[.int .i64 x.at_, .int .i64 x.code] 0).run Tryz.prog w = .ok (.int .i64 x.at_) w := fun x => by kernel_rfl
  have p1 : ∀ x : FltV, (part 28 #[.int .i64 x.at_, .int .i64 x.code] 1).run Tryz.prog w = .ok (.int .i64 x.code) w := fun x => by kernel_rfl
  have hS : Tryz.prog.underlying 32 = some (.struct (Tryz.prog.fieldsOf 32)) := by kernel_rfl
  rw [run_equalIn_agg w (d + 1) 32 _ _ hS hp]
  unfold Program.fieldsOf
  rw [Tryz.underlying32]
  simp only [Op.eqFields, Sem.run_bind, Sem.run_ite, Sem.run_pure, p0, p1, Result.andThen_ok, run_equalIn_int w d 3 .i64 .i64 _ _ Tryz.underlying3, run_equalIn_int w d 28 .i64 .i64 _ _ Tryz.underlying28]
  unfold fltEq
  cases x.at_ == y.at_ <;> cases x.code == y.code <;> rfl
theorem sti_neq_flt {β : Base} {n : Nat} {Γ : Env} {H : List Chunk} {F : List Fact} {o : Oper} {a b : Operand} {tt : TypeId} (x y : FltV) (ho : o.op = .binOp .neq 32 a b tt) (hx : Γ.ev a = some (.agg #[.int .i64 x.at_, .int .i64 x.code])) (hy : Γ.ev b = some (.agg #[.int .i64 y.at_, .int .i64 y.code])) : Sti Tryz.prog β n Γ H F o (.bool (!fltEq x y)) := fun c w S f s k => by
  have hq : Tryz.prog.eqGuardType Tryz.prog.depth 32 = false := by kernel_rfl
  have hg : (eqGuard .neq 32 a b (.agg #[.int .i64 x.at_, .int .i64 x.code]) (.agg #[.int .i64 y.at_, .int .i64 y.code])).run Tryz.prog w = .ok () w := by
    unfold eqGuard
    have hp : (program : Sem Program).run Tryz.prog w = .ok Tryz.prog w := rfl
    simp [hp, hq]
  have hb : (binOp .neq 32 (.agg #[.int .i64 x.at_, .int .i64 x.code]) (.agg #[.int .i64 y.at_, .int .i64 y.code])).run Tryz.prog w = .ok (.bool (!fltEq x y)) w := by
    rw [run_neq_struct, run_equalIn_flt 9998 x y w]
    rfl
  unfold execOp
  simp only [ho, f.ev hx, f.ev hy]
  rw [Sem.run_bind, Sem.run_bind, hg, Result.andThen_ok, hb]
  rfl
theorem sti_eql_flt {β : Base} {n : Nat} {Γ : Env} {H : List Chunk} {F : List Fact} {o : Oper} {a b : Operand} {tt : TypeId} (x y : FltV) (ho : o.op = .binOp .eql 32 a b tt) (hx : Γ.ev a = some (.agg #[.int .i64 x.at_, .int .i64 x.code])) (hy : Γ.ev b = some (.agg #[.int .i64 y.at_, .int .i64 y.code])) : Sti Tryz.prog β n Γ H F o (.bool (fltEq x y)) := fun c w S f s k => by
  have hq : Tryz.prog.eqGuardType Tryz.prog.depth 32 = false := by kernel_rfl
  have hg : (eqGuard .eql 32 a b (.agg #[.int .i64 x.at_, .int .i64 x.code]) (.agg #[.int .i64 y.at_, .int .i64 y.code])).run Tryz.prog w = .ok () w := by
    unfold eqGuard
    have hp : (program : Sem Program).run Tryz.prog w = .ok Tryz.prog w := rfl
    simp [hp, hq]
  have hb : (binOp .eql 32 (.agg #[.int .i64 x.at_, .int .i64 x.code]) (.agg #[.int .i64 y.at_, .int .i64 y.code])).run Tryz.prog w = .ok (.bool (fltEq x y)) w := by
    rw [run_eql_struct, run_equalIn_flt 9998 x y w]
    rfl
  unfold execOp
  simp only [ho, f.ev hx, f.ev hy]
  rw [Sem.run_bind, Sem.run_bind, hg, Result.andThen_ok, hb]
  rfl
def tokEq (x y : TokV) : Bool := ((x.kind == y.kind) && ((x.at_ == y.at_) && ((x.word == y.word) && (x.n == y.n))))
theorem run_equalIn_tok (d : Nat) (x y : TokV) (w : World) : (Op.equalIn (d + 2) 54 (.agg #[.int .i64 x.kind, .int .i64 x.at_, .string (bs x.word), .int .i64 x.n]) (.agg #[.int .i64 y.kind, .int .i64 y.at_, .string (bs y.word), .int .i64 y.n])).run Tryz.prog w = .ok (tokEq x y) w := by
  have hp : Tryz.prog.stoodInHeld 54 = false := by kernel_rfl
  have p0 : ∀ x : TokV, (part 3 #[.int .i64 x.kind, .int .i64 x.at_, .string (bs x.word), .int .i64 x.n] 0).run Tryz.prog w = .ok (.int .i64 x.kind) w := fun x => by kernel_rfl
  have p1 : ∀ x : TokV, (part 3 #[.int .i64 x.kind, .int .i64 x.at_, .string (bs x.word), .int .i64 x.n] 1).run Tryz.prog w = .ok (.int .i64 x.at_) w := fun x => by kernel_rfl
  have p2 : ∀ x : TokV, (part 9 #[.int .i64 x.kind, .int .i64 x.at_, .string (bs x.word), .int .i64 x.n] 2).run Tryz.prog w = .ok (.string (bs x.word)) w := fun x => by kernel_rfl
  have p3 : ∀ x : TokV, (part 2 #[.int .i64 x.kind, .int .i64 x.at_, .string (bs x.word), .int .i64 x.n] 3).run Tryz.prog w = .ok (.int .i64 x.n) w := fun x => by kernel_rfl
  have hS : Tryz.prog.underlying 54 = some (.struct (Tryz.prog.fieldsOf 54)) := by kernel_rfl
  rw [run_equalIn_agg w (d + 1) 54 _ _ hS hp]
  unfold Program.fieldsOf
  rw [Tryz.underlying54]
  simp only [Op.eqFields, Sem.run_bind, Sem.run_ite, Sem.run_pure, p0, p1, p2, p3, Result.andThen_ok, run_equalIn_int w d 3 .i64 .i64 _ _ Tryz.underlying3, run_equalIn_bs w d 9 _ _ Tryz.underlying9, run_equalIn_int w d 2 .i64 .i64 _ _ Tryz.underlying2]
  unfold tokEq
  cases x.kind == y.kind <;> cases x.at_ == y.at_ <;> cases x.word == y.word <;> cases x.n == y.n <;> rfl
theorem sti_neq_tok {β : Base} {n : Nat} {Γ : Env} {H : List Chunk} {F : List Fact} {o : Oper} {a b : Operand} {tt : TypeId} (x y : TokV) (ho : o.op = .binOp .neq 54 a b tt) (hx : Γ.ev a = some (.agg #[.int .i64 x.kind, .int .i64 x.at_, .string (bs x.word), .int .i64 x.n])) (hy : Γ.ev b = some (.agg #[.int .i64 y.kind, .int .i64 y.at_, .string (bs y.word), .int .i64 y.n])) : Sti Tryz.prog β n Γ H F o (.bool (!tokEq x y)) := fun c w S f s k => by
  have hq : Tryz.prog.eqGuardType Tryz.prog.depth 54 = false := by kernel_rfl
  have hg : (eqGuard .neq 54 a b (.agg #[.int .i64 x.kind, .int .i64 x.at_, .string (bs x.word), .int .i64 x.n]) (.agg #[.int .i64 y.kind, .int .i64 y.at_, .string (bs y.word), .int .i64 y.n])).run Tryz.prog w = .ok () w := by
    unfold eqGuard
    have hp : (program : Sem Program).run Tryz.prog w = .ok Tryz.prog w := rfl
    simp [hp, hq]
  have hb : (binOp .neq 54 (.agg #[.int .i64 x.kind, .int .i64 x.at_, .string (bs x.word), .int .i64 x.n]) (.agg #[.int .i64 y.kind, .int .i64 y.at_, .string (bs y.word), .int .i64 y.n])).run Tryz.prog w = .ok (.bool (!tokEq x y)) w := by
    rw [run_neq_struct, run_equalIn_tok 9998 x y w]
    rfl
  unfold execOp
  simp only [ho, f.ev hx, f.ev hy]
  rw [Sem.run_bind, Sem.run_bind, hg, Result.andThen_ok, hb]
  rfl
theorem sti_eql_tok {β : Base} {n : Nat} {Γ : Env} {H : List Chunk} {F : List Fact} {o : Oper} {a b : Operand} {tt : TypeId} (x y : TokV) (ho : o.op = .binOp .eql 54 a b tt) (hx : Γ.ev a = some (.agg #[.int .i64 x.kind, .int .i64 x.at_, .string (bs x.word), .int .i64 x.n])) (hy : Γ.ev b = some (.agg #[.int .i64 y.kind, .int .i64 y.at_, .string (bs y.word), .int .i64 y.n])) : Sti Tryz.prog β n Γ H F o (.bool (tokEq x y)) := fun c w S f s k => by
  have hq : Tryz.prog.eqGuardType Tryz.prog.depth 54 = false := by kernel_rfl
  have hg : (eqGuard .eql 54 a b (.agg #[.int .i64 x.kind, .int .i64 x.at_, .string (bs x.word), .int .i64 x.n]) (.agg #[.int .i64 y.kind, .int .i64 y.at_, .string (bs y.word), .int .i64 y.n])).run Tryz.prog w = .ok () w := by
    unfold eqGuard
    have hp : (program : Sem Program).run Tryz.prog w = .ok Tryz.prog w := rfl
    simp [hp, hq]
  have hb : (binOp .eql 54 (.agg #[.int .i64 x.kind, .int .i64 x.at_, .string (bs x.word), .int .i64 x.n]) (.agg #[.int .i64 y.kind, .int .i64 y.at_, .string (bs y.word), .int .i64 y.n])).run Tryz.prog w = .ok (.bool (tokEq x y)) w := by
    rw [run_eql_struct, run_equalIn_tok 9998 x y w]
    rfl
  unfold execOp
  simp only [ho, f.ev hx, f.ev hy]
  rw [Sem.run_bind, Sem.run_bind, hg, Result.andThen_ok, hb]
  rfl
def sideEq (x y : SideV) : Bool := ((x.name == y.name) && (x.n == y.n))
theorem run_equalIn_side (d : Nat) (x y : SideV) (w : World) : (Op.equalIn (d + 2) 61 (.agg #[.string (bs x.name), .int .i64 x.n]) (.agg #[.string (bs y.name), .int .i64 y.n])).run Tryz.prog w = .ok (sideEq x y) w := by
  have hp : Tryz.prog.stoodInHeld 61 = false := by kernel_rfl
  have p0 : ∀ x : SideV, (part 9 #[.string (bs x.name), .int .i64 x.n] 0).run Tryz.prog w = .ok (.string (bs x.name)) w := fun x => by kernel_rfl
  have p1 : ∀ x : SideV, (part 2 #[.string (bs x.name), .int .i64 x.n] 1).run Tryz.prog w = .ok (.int .i64 x.n) w := fun x => by kernel_rfl
  have hS : Tryz.prog.underlying 61 = some (.struct (Tryz.prog.fieldsOf 61)) := by kernel_rfl
  rw [run_equalIn_agg w (d + 1) 61 _ _ hS hp]
  unfold Program.fieldsOf
  rw [Tryz.underlying61]
  simp only [Op.eqFields, Sem.run_bind, Sem.run_ite, Sem.run_pure, p0, p1, Result.andThen_ok, run_equalIn_bs w d 9 _ _ Tryz.underlying9, run_equalIn_int w d 2 .i64 .i64 _ _ Tryz.underlying2]
  unfold sideEq
  cases x.name == y.name <;> cases x.n == y.n <;> rfl
theorem sti_neq_side {β : Base} {n : Nat} {Γ : Env} {H : List Chunk} {F : List Fact} {o : Oper} {a b : Operand} {tt : TypeId} (x y : SideV) (ho : o.op = .binOp .neq 61 a b tt) (hx : Γ.ev a = some (.agg #[.string (bs x.name), .int .i64 x.n])) (hy : Γ.ev b = some (.agg #[.string (bs y.name), .int .i64 y.n])) : Sti Tryz.prog β n Γ H F o (.bool (!sideEq x y)) := fun c w S f s k => by
  have hq : Tryz.prog.eqGuardType Tryz.prog.depth 61 = false := by kernel_rfl
  have hg : (eqGuard .neq 61 a b (.agg #[.string (bs x.name), .int .i64 x.n]) (.agg #[.string (bs y.name), .int .i64 y.n])).run Tryz.prog w = .ok () w := by
    unfold eqGuard
    have hp : (program : Sem Program).run Tryz.prog w = .ok Tryz.prog w := rfl
    simp [hp, hq]
  have hb : (binOp .neq 61 (.agg #[.string (bs x.name), .int .i64 x.n]) (.agg #[.string (bs y.name), .int .i64 y.n])).run Tryz.prog w = .ok (.bool (!sideEq x y)) w := by
    rw [run_neq_struct, run_equalIn_side 9998 x y w]
    rfl
  unfold execOp
  simp only [ho, f.ev hx, f.ev hy]
  rw [Sem.run_bind, Sem.run_bind, hg, Result.andThen_ok, hb]
  rfl
theorem sti_eql_side {β : Base} {n : Nat} {Γ : Env} {H : List Chunk} {F : List Fact} {o : Oper} {a b : Operand} {tt : TypeId} (x y : SideV) (ho : o.op = .binOp .eql 61 a b tt) (hx : Γ.ev a = some (.agg #[.string (bs x.name), .int .i64 x.n])) (hy : Γ.ev b = some (.agg #[.string (bs y.name), .int .i64 y.n])) : Sti Tryz.prog β n Γ H F o (.bool (sideEq x y)) := fun c w S f s k => by
  have hq : Tryz.prog.eqGuardType Tryz.prog.depth 61 = false := by kernel_rfl
  have hg : (eqGuard .eql 61 a b (.agg #[.string (bs x.name), .int .i64 x.n]) (.agg #[.string (bs y.name), .int .i64 y.n])).run Tryz.prog w = .ok () w := by
    unfold eqGuard
    have hp : (program : Sem Program).run Tryz.prog w = .ok Tryz.prog w := rfl
    simp [hp, hq]
  have hb : (binOp .eql 61 (.agg #[.string (bs x.name), .int .i64 x.n]) (.agg #[.string (bs y.name), .int .i64 y.n])).run Tryz.prog w = .ok (.bool (sideEq x y)) w := by
    rw [run_eql_struct, run_equalIn_side 9998 x y w]
    rfl
  unfold execOp
  simp only [ho, f.ev hx, f.ev hy]
  rw [Sem.run_bind, Sem.run_bind, hg, Result.andThen_ok, hb]
  rfl
end Go.Proofs.YtngkedmndhmjcaaGreatDoor
/- Go's library at this program, in the engine's form: the tables that start-up lays; prefixes, bytes, numbers read. -/
namespace Go.Proofs.YtngkedmndhmjcaaGreatDoor
open Go.RowKit

theorem named0 : Tryz.prog.globalNamed "strings.asciiSpace" = some 0 := by kernel_rfl
theorem named7 : Tryz.prog.globalNamed "internal/strconv.uint64pow10" = some 7 := by kernel_rfl
/-- what start-up has laid, and stays -/
def globF : Fact where
  p S w := (S 0 ∧ S 7 ∧ S 4 ∧ S 3) ∧ Lib.TabIs Tryz.prog w "strings.asciiSpace" .u8 Lib.asciiSpaceTab ∧ Lib.TabIs Tryz.prog w "internal/strconv.uint64pow10" .u64 Lib.pow10Tab ∧
    (∃ m, w.cell? ⟨4, 0, none⟩ = some (.int .i64 m)) ∧ ∃ ev, w.cell? ⟨3, 0, none⟩ = some ev ∧ (ev = .nilIface ∨ ∃ te pe, ev = .iface te pe)
  mono := fun {S S' w w'} hs ha h => by
    obtain ⟨⟨s0, s7, s4, s3⟩, h0, h7, ⟨m, h4⟩, ev, h3, he⟩ := h
    refine ⟨⟨hs _ s0, hs _ s7, hs _ s4, hs _ s3⟩, ?_, ?_, ⟨m, ?_⟩, ev, ?_, he⟩
    · unfold Lib.TabIs World.var? at *
      rw [named0] at *
      simp only [Option.bind_some, ha _ s0] at *
      exact h0
    · unfold Lib.TabIs World.var? at *
      rw [named7] at *
      simp only [Option.bind_some, ha _ s7] at *
      exact h7
    · unfold World.cell? at *
      rw [ha _ s4]
      exact h4
    · unfold World.cell? at *
      rw [ha _ s3]
      exact h3

theorem spec_same {P : Program} {f : FuncId} {args : List Value} {Pre : List Fact} {v : Value} (h : ∀ S w, All Pre S w → Calls P f args.toArray w fun e w' => e = .returned v ∧ w' = w) :
    Spec P f args [] Pre (fun _ : Unit => v) (fun _ => []) (fun _ => []) := spec_below fun S w _ k => (h S w k).mono fun e w' ⟨he, hw⟩ => ⟨he, by rw [hw]; exact Below.refl _ _⟩
theorem hasPrefix_spec (s p : Bs) : Spec Tryz.prog 58 [.string (bs s), .string (bs p)] [] [] (fun _ : Unit => .bool (p.isPrefixOf s)) (fun _ => []) (fun _ => []) :=
  spec_same fun _ w _ => Tryz.strings_HasPrefix (bs s) (bs p) w
theorem indexByte_spec (s : Bs) (b : UInt8) : Spec Tryz.prog 59 [.string (bs s), .int .u8 b.toNat] [] [] (fun _ : Unit => .int .i64 (Lib.indexByte s b)) (fun _ => []) (fun _ => []) :=
  spec_same fun _ w _ => by
    have h := Tryz.strings_IndexByte (bs s) (b.toNat : Int) w
    have e : ((b.toNat : Int).toNat).toUInt8 = b := by simp
    rw [e] at h
    exact h
theorem indexByte_in (b : UInt8) : ∀ l : Bs, (decide ((0 : Int) ≤ Lib.indexByte l b)) = l.contains b ∧ (Lib.indexByte l b = -1 ∨ 0 ≤ Lib.indexByte l b)
  | [] => by simp [Lib.indexByte]
  | c :: l => by
    obtain ⟨h1, h2⟩ := indexByte_in b l
    unfold Lib.indexByte
    by_cases h : (c == b) = true
    · have : b = c := (by simpa using h : c = b).symm
      simp [this]
    · have hne : ¬ b = c := fun e => h (by simp [e])
      simp only [h, Bool.false_eq_true, if_false]
      rcases h2 with h2 | h2
      · rw [h2] at h1 ⊢
        simp only [beq_self_eq_true, if_true]
        simp at h1
        refine ⟨?_, .inl trivial⟩
        simp [hne, h1]
      · have : ¬ Lib.indexByte l b = -1 := by omega
        have hb : (Lib.indexByte l b == -1) = false := by simp [this]
        rw [hb]
        simp only [Bool.false_eq_true, if_false]
        refine ⟨?_, .inr (by omega)⟩
        have h1' : l.contains b = true := by rw [← h1]; simp [h2]
        have hm : b ∈ l := by simpa using h1'
        simp [hm]
        omega

theorem decV_ge : ∀ (ds : Bs) (acc : Nat), acc ≤ decV ds acc
  | [], _ => Nat.le_refl _
  | b :: r, acc => by
    have := decV_ge r (10 * acc + (b.toNat - 48))
    simp only [decV]
    omega
theorem uintM_digits : ∀ (ds : Bs) (acc : Nat), (∀ b ∈ ds, digitB b = true) → acc ≤ 18446744073709551615 → Lib.parseUintM 18446744073709551615 acc ds = if decV ds acc ≤ 18446744073709551615 then .ok (decV ds acc) else .range
  | [], acc, _, h => by simp [Lib.parseUintM, decV, h]
  | b :: r, acc, hd, h => by
    have hb := hd b (by simp)
    simp only [digitB, Bool.and_eq_true, decide_eq_true_eq] at hb
    have hge := decV_ge r (10 * acc + (b.toNat - 48))
    unfold Lib.parseUintM decV
    rw [if_pos hb]
    split
    · rw [if_neg (by omega)]
    · split
      · rw [if_neg (by omega)]
      · rw [uintM_digits r _ (fun x hx => hd x (by simp [hx])) (by omega), show acc * 10 + (b.toNat - 48) = 10 * acc + (b.toNat - 48) from by omega]
theorem parse_digits {neg : Bool} {ds : Bs} (hne : ds ≠ []) (hd : ∀ b ∈ ds, digitB b = true) : Lib.parseIntB 64 ((if neg then [45] else []) ++ ds) = match numP neg ds with
    | some v => .ok v
    | none => .range := by
  have hu : Lib.parseUintB 64 ds = if decV ds 0 ≤ 18446744073709551615 then .ok (decV ds 0) else .range := by
    unfold Lib.parseUintB
    rw [if_neg hne]
    exact uintM_digits ds 0 hd (by omega)
  cases neg with
  | true =>
    simp only [if_true, List.singleton_append, Lib.parseIntB]
    have e : ((45 : UInt8).toNat = 43 ∨ (45 : UInt8).toNat = 45) := by decide
    have e2 : (45 : UInt8).toNat = 45 := by decide
    rw [if_pos e, hu]
    unfold numP
    simp only [if_true]
    by_cases h1 : decV ds 0 ≤ 18446744073709551615
    · rw [if_pos h1]
      by_cases h2 : decV ds 0 ≤ 9223372036854775808
      · simp [h2, e2]
      · have h3 : 9223372036854775808 < decV ds 0 := by omega
        simp [e2, h2, h3]
    · rw [if_neg h1, if_neg (by omega)]
  | false =>
    cases ds with
    | nil => exact absurd rfl hne
    | cons b r =>
      have hb := hd b (by simp)
      simp only [digitB, Bool.and_eq_true, decide_eq_true_eq] at hb
      simp only [Bool.false_eq_true, if_false, List.nil_append, Lib.parseIntB]
      have e : ¬ (b.toNat = 43 ∨ b.toNat = 45) := by omega
      have e2 : ¬ b.toNat = 45 := by omega
      rw [if_neg e, hu]
      unfold numP
      simp only [Bool.false_eq_true, if_false]
      by_cases h1 : decV (b :: r) 0 ≤ 18446744073709551615
      · rw [if_pos h1]
        by_cases h2 : decV (b :: r) 0 ≤ 9223372036854775807
        · simp [h2, e2]
          omega
        · simp [e2, h2]
          omega
      · rw [if_neg h1, if_neg (by omega)]
def minusS (neg : Bool) : Bs := if neg then [45] else []
theorem parseInt_ok (neg : Bool) (ds : Bs) (hne : ds ≠ []) (hd : ∀ b ∈ ds, digitB b = true) (hl : ds.length ≤ 140737488355328) {v : Int} (hv : numP neg ds = some v) :
    Spec Tryz.prog 57 [.string (bs (minusS neg ++ ds)), .int .i64 10, .int .i64 64] [] [] (fun _ : Unit => .tuple #[.int .i64 v, .nilIface]) (fun _ => []) (fun _ => []) :=
  spec_below fun _ w _ _ => by
    have hp := parse_digits (neg := neg) hne hd
    rw [hv] at hp
    refine (Tryz.strconv_ParseInt_10_at64_ok (bs (minusS neg ++ ds)) (by rw [bs_size]; unfold minusS; cases neg <;> simp <;> omega) v hp w).mono ?_
    rintro e w' ⟨rfl, h⟩
    refine ⟨rfl, ?_⟩
    rcases h with rfl | ⟨t, rfl⟩
    · exact Below.refl _ _
    · exact Joins.below_bytesWorld _ _ _ _ (Nat.le_refl _)
theorem parseInt_range (neg : Bool) (ds : Bs) (hne : ds ≠ []) (hd : ∀ b ∈ ds, digitB b = true) (hl : ds.length ≤ 140737488355328) (hv : numP neg ds = none) :
    Spec Tryz.prog 57 [.string (bs (minusS neg ++ ds)), .int .i64 10, .int .i64 64] [] [globF] (fun x : Int × Nat => .tuple #[.int .i64 x.1, .iface 154 (.pointer (some ⟨x.2, 0, none⟩))]) (fun _ => []) (fun _ => []) := fun S w s k => by
  obtain ⟨_, _, _, _, ev, h3, he⟩ := k _ (.head _)
  have hp := parse_digits (neg := neg) hne hd
  rw [hv] at hp
  refine (Tryz.strconv_ParseInt_10_at64_range (bs (minusS neg ++ ds)) (by rw [bs_size]; unfold minusS; cases neg <;> simp <;> omega) hp ev w h3 he).mono ?_
  rintro e w' ⟨N, rfl, _, _, hb⟩
  exact ⟨(_, N), S, rfl, ⟨Kept.of_below _ hb, fun c hc => by simp at hc, fun c hc => by simp at hc, List.Pairwise.nil, fun b hb' => ⟨Nat.lt_of_lt_of_le (s.zone b hb').1 hb.size, .inl hb'⟩⟩, fun g hg => by simp at hg⟩
end Go.Proofs.YtngkedmndhmjcaaGreatDoor
/- Walks of the layer lex: signs, numbers, tokens. (Printed by wip/gen/lex.py.) -/
namespace Go.Proofs.YtngkedmndhmjcaaGreatDoor
open Go.RowKit

theorem u8_eqn {b k : UInt8} (h : (b.toNat : Int) = (k.toNat : Int)) : b = k := UInt8.toNat_inj.1 (by omega)
theorem u8_nen {b k : UInt8} (h : (b.toNat : Int) ≠ (k.toNat : Int)) : b ≠ k := fun e => h (by rw [e])
theorem pre2 (k b : UInt8) (r : Bs) : [k, 61].isPrefixOf (b :: r) = (b == k && r.head? == some 61) := by
  cases r with
  | nil => simp [List.isPrefixOf]
  | cons c r =>
    show ((k == b) && (((61 : UInt8) == c) && true)) = (b == k && (c == 61))
    rw [show (k == b) = (b == k) from BEq.comm, show ((61 : UInt8) == c) = (c == 61) from BEq.comm, Bool.and_true]
section
variable {b : UInt8} {r : Bs}
theorem sign_a (h : ([60, 61] : Bs).isPrefixOf (b :: r) = true) : Value.int .i64 2 = Value.int .i64 ((signP (b :: r) : Nat) : Int) := by
  rw [pre2] at h
  simp only [Bool.and_eq_true, beq_iff_eq] at h
  simp [signP, h.1, h.2]
theorem sign_b (_ : ([60, 61] : Bs).isPrefixOf (b :: r) = false) (h : ([62, 61] : Bs).isPrefixOf (b :: r) = true) : Value.int .i64 2 = Value.int .i64 ((signP (b :: r) : Nat) : Int) := by
  rw [pre2] at h
  simp only [Bool.and_eq_true, beq_iff_eq] at h
  simp [signP, h.1, h.2]
theorem sign_no (h1 : ([60, 61] : Bs).isPrefixOf (b :: r) = false) (h2 : ([62, 61] : Bs).isPrefixOf (b :: r) = false) : ((b == 60 || b == 62) && r.head? == some 61) = false := by
  rw [pre2] at h1 h2
  generalize (b == 60) = x at *
  generalize (b == 62) = y at *
  generalize (r.head? == some 61) = z at *
  cases x <;> cases y <;> cases z <;> simp_all
theorem sign_c (h1 : ([60, 61] : Bs).isPrefixOf (b :: r) = false) (h2 : ([62, 61] : Bs).isPrefixOf (b :: r) = false) (h3 : (0 : Int) ≤ Lib.indexByte ([43, 45, 42, 37, 124, 61, 126, 60, 62, 47, 92, 46, 58, 40, 41] : Bs) b) : Value.int .i64 1 = Value.int .i64 ((signP (b :: r) : Nat) : Int) := by
  have h4 := (indexByte_in b ([43, 45, 42, 37, 124, 61, 126, 60, 62, 47, 92, 46, 58, 40, 41] : Bs)).1
  rw [decide_eq_true h3] at h4
  have h5 : signs.contains b = true := h4.symm
  simp only [signP, sign_no h1 h2, Bool.false_eq_true, if_false, h5, if_true]
  rfl
theorem sign_d (h1 : ([60, 61] : Bs).isPrefixOf (b :: r) = false) (h2 : ([62, 61] : Bs).isPrefixOf (b :: r) = false) (h3 : Lib.indexByte ([43, 45, 42, 37, 124, 61, 126, 60, 62, 47, 92, 46, 58, 40, 41] : Bs) b < 0) : Value.int .i64 0 = Value.int .i64 ((signP (b :: r) : Nat) : Int) := by
  have h4 := (indexByte_in b ([43, 45, 42, 37, 124, 61, 126, 60, 62, 47, 92, 46, 58, 40, 41] : Bs)).1
  rw [decide_eq_false (by omega)] at h4
  have h5 : signs.contains b = false := h4.symm
  simp only [signP, sign_no h1 h2, Bool.false_eq_true, if_false, h5]
  rfl
theorem run_all (p : UInt8 → Bool) : ∀ s : Bs, ∀ b ∈ s.take (runB p s), p b = true
  | [], _, h => by simp at h
  | c :: s, b, h => by
    unfold runB at h
    split at h
    · rename_i hc
      rw [List.take_succ_cons, List.mem_cons] at h
      rcases h with rfl | h
      · exact hc
      · exact run_all p s b h
    · simp at h
theorem take_ne {s : Bs} {k : Nat} (h : ((k : Nat) : Int) ≠ 0) (hk : k ≤ s.length) : s.take k ≠ [] := fun e => by
  have : (s.take k).length = 0 := by rw [e]; rfl
  rw [List.length_take] at this
  omega
/-- number's answer -/
def numV : Except Int (Option TokR) → Value
  | .error e => .tuple #[.int .i64 0, .int .i64 0, .int .i64 e]
  | .ok none => .tuple #[.int .i64 0, .int .i64 0, .int .i64 0]
  | .ok (some t) => .tuple #[.int .i64 t.2.2.1, .int .i64 (t.2.2.2 : Nat), .int .i64 0]
theorem num_m0 (hb : b = 95) : numTok b r = if runB digitB r = 0 then .ok none else match numP true (r.take (runB digitB r)) with
    | none => .error 32
    | some v => .ok (some (2, [], v, runB digitB r + 1)) := by
  subst hb
  rfl
theorem num_p0 (hb : b ≠ 95) : numTok b r = if runB digitB (b :: r) = 0 then .ok none else match numP false ((b :: r).take (runB digitB (b :: r))) with
    | none => .error 32
    | some v => .ok (some (2, [], v, runB digitB (b :: r) + 0)) := by
  have : (b == 95) = false := by simp [hb]
  unfold numTok
  rw [this]
  rfl
theorem cast0 {n : Nat} (h : ((n : Nat) : Int) = 0) : n = 0 := by omega
theorem castn {n : Nat} (h : ((n : Nat) : Int) ≠ 0) : n ≠ 0 := by omega
theorem num_mz (hb : b = 95) (hk : ((runB digitB ((b :: r).drop 1) : Nat) : Int) = 0) : Value.tuple #[.int .i64 0, .int .i64 0, .int .i64 0] = numV (numTok b r) := by
  have hk : runB digitB r = 0 := cast0 hk
  rw [num_m0 hb, if_pos hk]
  rfl
theorem num_me (hb : b = 95) (hk : ((runB digitB ((b :: r).drop 1) : Nat) : Int) ≠ 0) (hv : numP true (((b :: r).drop 1).take (runB digitB ((b :: r).drop 1))) = none) : Value.tuple #[.int .i64 0, .int .i64 0, .int .i64 32] = numV (numTok b r) := by
  have hk : ¬ runB digitB r = 0 := castn hk
  have hv : numP true (r.take (runB digitB r)) = none := hv
  rw [num_m0 hb, if_neg hk, hv]
  rfl
theorem num_mo {v : Int} (hb : b = 95) (hk : ((runB digitB ((b :: r).drop 1) : Nat) : Int) ≠ 0) (hv : numP true (((b :: r).drop 1).take (runB digitB ((b :: r).drop 1))) = some v) :
    Value.tuple #[.int .i64 v, .int .i64 (((runB digitB ((b :: r).drop 1)) + ([45] : Bs).length : Nat) : Int), .int .i64 0] = numV (numTok b r) := by
  have hk : ¬ runB digitB r = 0 := castn hk
  have hv : numP true (r.take (runB digitB r)) = some v := hv
  rw [num_m0 hb, if_neg hk, hv]
  rfl
theorem num_pz (hb : b ≠ 95) (hk : ((runB digitB (b :: r) : Nat) : Int) = 0) : Value.tuple #[.int .i64 0, .int .i64 0, .int .i64 0] = numV (numTok b r) := by
  rw [num_p0 hb, if_pos (cast0 hk)]
  rfl
theorem num_pe (hb : b ≠ 95) (hk : ((runB digitB (b :: r) : Nat) : Int) ≠ 0) (hv : numP false ((b :: r).take (runB digitB (b :: r))) = none) : Value.tuple #[.int .i64 0, .int .i64 0, .int .i64 32] = numV (numTok b r) := by
  rw [num_p0 hb, if_neg (castn hk), hv]
  rfl
theorem num_po {v : Int} (hb : b ≠ 95) (hk : ((runB digitB (b :: r) : Nat) : Int) ≠ 0) (hv : numP false ((b :: r).take (runB digitB (b :: r))) = some v) :
    Value.tuple #[.int .i64 v, .int .i64 (((runB digitB (b :: r)) + ([] : Bs).length : Nat) : Int), .int .i64 0] = numV (numTok b r) := by
  rw [num_p0 hb, if_neg (castn hk), hv]
  rfl
theorem numTok_err {e : Int} (h : numTok b r = .error e) : e = 32 := by
  unfold numTok at h
  by_cases hb : (b == 95) = true
  · simp only [hb, if_true] at h
    split at h
    · cases h
    · split at h
      · cases h; rfl
      · cases h
  · simp only [hb, Bool.false_eq_true, if_false] at h
    split at h
    · cases h
    · split at h
      · cases h; rfl
      · cases h
/-- token's answer -/
def tokVal : Except Int TokR → Value
  | .error e => .tuple #[.agg #[.int .i64 (if e = 32 then 2 else 0), .int .i64 0, .string (bs []), .int .i64 0], .int .i64 0, .int .i64 e]
  | .ok t => .tuple #[.agg #[.int .i64 t.1, .int .i64 0, .string (bs t.2.1), .int .i64 t.2.2.1], .int .i64 (t.2.2.2 : Nat), .int .i64 0]
section
variable (h1 : b ≠ 10) (h2 : letterB b = false)
theorem tk_line (h : b = 10) : Value.tuple #[.agg #[.int .i64 4, .int .i64 0, .string (bs []), .int .i64 0], .int .i64 1, .int .i64 0] = tokVal (tokenP (b :: r)) := by
  subst h
  rfl
include h1
theorem tk_word (h2 : letterB b = true) (h3 : ((runB wordB (b :: r) : Nat) : Int) ≤ 16) : Value.tuple #[.agg #[.int .i64 1, .int .i64 0, .string (bs ((b :: r).take (runB wordB (b :: r)))), .int .i64 0], .int .i64 (runB wordB (b :: r) : Nat), .int .i64 0] = tokVal (tokenP (b :: r)) := by
  have e : tokenP (b :: r) = .ok (1, (b :: r).take (runB wordB (b :: r)), 0, runB wordB (b :: r)) := by
    simp only [tokenP, beq_iff_eq, h1, if_false, h2, if_true]
    rw [if_neg (by omega)]
  rw [e]
  rfl
theorem tk_long (h2 : letterB b = true) (h3 : (16 : Int) < ((runB wordB (b :: r) : Nat) : Int)) : Value.tuple #[.agg #[.int .i64 0, .int .i64 0, .string (bs []), .int .i64 0], .int .i64 0, .int .i64 33] = tokVal (tokenP (b :: r)) := by
  have e : tokenP (b :: r) = .error 33 := by
    simp only [tokenP, beq_iff_eq, h1, if_false, h2, if_true]
    rw [if_pos (by omega)]
  rw [e]
  rfl
include h2
theorem tk_num1 {e : Int} (h : numTok b r = .error e) (he : e = 32) : Value.tuple #[.agg #[.int .i64 2, .int .i64 0, .string (bs []), .int .i64 0], .int .i64 0, .int .i64 e] = tokVal (tokenP (b :: r)) := by
  have q : tokenP (b :: r) = .error e := by
    simp only [tokenP, beq_iff_eq, h1, if_false, h2, Bool.false_eq_true, h]
  rw [q, he]
  rfl
theorem tk_num2 {kk v : Int} {ww : Bs} {m : Nat} (h : numTok b r = .ok (some (kk, ww, v, m))) : Value.tuple #[.agg #[.int .i64 2, .int .i64 0, .string (bs []), .int .i64 v], .int .i64 (m : Nat), .int .i64 0] = tokVal (tokenP (b :: r)) := by
  have q : tokenP (b :: r) = .ok (kk, ww, v, m) := by
    simp only [tokenP, beq_iff_eq, h1, if_false, h2, Bool.false_eq_true, h]
  have hk : kk = 2 ∧ ww = [] := by
    unfold numTok at h
    by_cases hb : (b == 95) = true
    · simp only [hb, if_true] at h
      split at h
      · cases h
      · split at h
        · cases h
        · cases h; exact ⟨rfl, rfl⟩
    · simp only [hb, Bool.false_eq_true, if_false] at h
      split at h
      · cases h
      · split at h
        · cases h
        · cases h; exact ⟨rfl, rfl⟩
  rw [q, hk.1, hk.2]
  rfl
theorem tk_byte (h : numTok b r = .ok none) (h3 : ((signP (b :: r) : Nat) : Int) = 0) : Value.tuple #[.agg #[.int .i64 0, .int .i64 0, .string (bs []), .int .i64 0], .int .i64 0, .int .i64 31] = tokVal (tokenP (b :: r)) := by
  have e : tokenP (b :: r) = .error 31 := by
    simp only [tokenP, beq_iff_eq, h1, if_false, h2, Bool.false_eq_true, h]
    rw [if_pos (cast0 h3)]
  rw [e]
  rfl
theorem tk_sign (h : numTok b r = .ok none) (h3 : ((signP (b :: r) : Nat) : Int) ≠ 0) : Value.tuple #[.agg #[.int .i64 3, .int .i64 0, .string (bs ((b :: r).take (signP (b :: r)))), .int .i64 0], .int .i64 (signP (b :: r) : Nat), .int .i64 0] = tokVal (tokenP (b :: r)) := by
  have e : tokenP (b :: r) = .ok (3, (b :: r).take (signP (b :: r)), 0, signP (b :: r)) := by
    simp only [tokenP, beq_iff_eq, h1, if_false, h2, Bool.false_eq_true, h]
    rw [if_neg (castn h3)]
  rw [e]
  rfl
end
end


set_option maxRecDepth 100000 in
theorem sign_spec (b : UInt8) (r : Bs) : Spec Tryz.prog 41 [.string (bs (b :: r))] [] [] (fun (_ : Unit) => .int .i64 (signP (b :: r) : Nat)) (fun _ => []) (fun _ => []) := by
  have hT := showT_ok
  refine spec_of Tryz.func41 rfl Tryz.ntmps41 rfl ?_
  intro β hM
  refine sr ?_
  refine sp hT ?_
  refine nn ?_
  refine at_seq ?_
  refine at_block ?_
  refine sr ?_
  refine sp hT ?_
  refine at_call (callFunc_enter Tryz.func58 rfl rfl) (hasPrefix_spec _ ([60, 61] : Bs)) rfl rfl rfl rfl rfl .nil trivial fun _ => ?_
  refine sp hT ?_
  refine at_case (fun hg6 => ?_) (fun hg6 => ?_)
  · refine sk2 ?_
    refine sp2 hT ?_
    refine nn ?_
    refine at_true rfl rfl ?_
    refine sr ?_
    refine sp hT ?_
    refine nn ?_
    refine at_ret ?_
    refine r_block ?_
    refine r_then ?_
    exact at_res1 () rfl (rv_tmp rfl) .nil trivial (by first | exact sign_a hg6 | exact sign_b hg6 hc3 | exact sign_c hg6 hc3 hc10 | exact sign_d hg6 hc3 hc10)
  refine sp hT ?_
  refine at_call (callFunc_enter Tryz.func58 rfl rfl) (hasPrefix_spec _ ([62, 61] : Bs)) rfl rfl rfl rfl rfl .nil trivial fun _ => ?_
  refine sp2 hT ?_
  refine nn ?_
  refine at_cond rfl (fun hc3 => ?_) (fun hc3 => ?_)
  · refine sr ?_
    refine sp hT ?_
    refine nn ?_
    refine at_ret ?_
    refine r_block ?_
    refine r_then ?_
    exact at_res1 () rfl (rv_tmp rfl) .nil trivial (by first | exact sign_a hg6 | exact sign_b hg6 hc3 | exact sign_c hg6 hc3 hc10 | exact sign_d hg6 hc3 hc10)
  refine sr ?_
  refine sp hT ?_
  refine ss (sti_sindex hT (k := 0) rfl rfl rfl rfl rfl rfl) ?_
  refine at_call (callFunc_enter Tryz.func59 rfl rfl) (indexByte_spec ([43, 45, 42, 37, 124, 61, 126, 60, 62, 47, 92, 46, 58, 40, 41] : Bs) b) rfl rfl rfl rfl rfl .nil trivial fun _ => ?_
  refine sp2 hT ?_
  refine nn ?_
  refine at_cond rfl (fun hc10 => ?_) (fun hc10 => ?_)
  · have hc10 := of_decide_eq_true hc10
    refine sr ?_
    refine sp hT ?_
    refine nn ?_
    refine at_ret ?_
    refine r_block ?_
    refine r_then ?_
    exact at_res1 () rfl (rv_tmp rfl) .nil trivial (by first | exact sign_a hg6 | exact sign_b hg6 hc3 | exact sign_c hg6 hc3 hc10 | exact sign_d hg6 hc3 hc10)
  have hc10 := Int.not_le.1 (of_decide_eq_false hc10)
  refine at_skip ?_
  refine n_block ?_
  refine n_then ?_
  refine sr ?_
  refine sp hT ?_
  refine nn ?_
  refine at_ret ?_
  exact at_res1 () rfl (rv_tmp rfl) .nil trivial (by first | exact sign_a hg6 | exact sign_b hg6 hc3 | exact sign_c hg6 hc3 hc10 | exact sign_d hg6 hc3 hc10)

set_option maxRecDepth 100000 in
theorem number_spec (b : UInt8) (r : Bs) (hl : (b :: r).length ≤ 65536) : Spec Tryz.prog 40 [.string (bs (b :: r))] [] [globF] (fun (_ : Unit) => numV (numTok b r)) (fun _ => []) (fun _ => []) := by
  have hT := showT_ok
  refine spec_of Tryz.func40 rfl Tryz.ntmps40 rfl ?_
  intro β hM
  refine sr ?_
  refine sp3 hT ?_
  refine nn ?_
  refine sr ?_
  refine sp3 hT ?_
  refine nn ?_
  refine at_seq ?_
  refine sr ?_
  refine sp hT ?_
  refine ss (sti_sindex hT (k := 0) rfl rfl rfl rfl rfl rfl) ?_
  refine sp hT ?_
  refine nn ?_
  refine at_cond rfl (fun hc13 => ?_) (fun hc13 => ?_)
  · have hc13 : b = 95 := u8_eqn (k := 95) (eq_of_beq hc13)
    refine at_region ?_
    refine sp hT ?_
    refine ss (sti_sfrom hT (k := 1) rfl rfl rfl rfl rfl (by simp)) ?_
    refine sp2 hT ?_
    refine nn ?_
    refine sr ?_
    refine sp hT ?_
    refine at_call (callFunc_enter Tryz.func23 rfl rfl) (run_spec ((b :: r).drop 1) (by simp at *; omega) _ digitB (callFunc_enter Tryz.func39 rfl rfl) digit_spec) rfl rfl rfl rfl rfl .nil trivial fun _ => ?_
    refine sp hT ?_
    refine nn ?_
    refine at_seq ?_
    refine at_seq ?_
    have hrl : runB digitB ((b :: r).drop 1) ≤ 65536 := Nat.le_trans (runB_le _ _) (by simp at *; omega)
    refine at_region ?_
    refine sp2 hT ?_
    refine nn ?_
    refine at_cond rfl (fun hc19 => ?_) (fun hc19 => ?_)
    · have hc19 := eq_of_beq hc19
      refine sr ?_
      refine sp3 hT ?_
      refine nn ?_
      refine at_ret ?_
      refine r_then ?_
      exact at_res3 () rfl (rv_tmp rfl) (rv_tmp rfl) (rv_tmp rfl) .nil trivial (num_mz hc13 hc19)
    have hc19 := beq_eq_false_iff_ne.1 hc19
    have hrl' := runB_le digitB ((b :: r).drop 1)
    refine at_skip ?_
    refine n_then ?_
    refine at_seq ?_
    rcases hv : numP true (((b :: r).drop 1).take (runB digitB ((b :: r).drop 1))) with _ | v
    · have num_ne : (((b :: r).drop 1).take (runB digitB ((b :: r).drop 1))) ≠ [] := take_ne hc19 hrl'
      refine at_region ?_
      refine sp3 hT ?_
      refine ss (sti_sto hT (k := (runB digitB ((b :: r).drop 1))) rfl rfl rfl rfl rfl (runB_le _ _)) ?_
      refine ss (sti_cat rfl rfl rfl (by simp at *; omega)) ?_
      refine at_call (callFunc_enter Tryz.func57 rfl rfl) (parseInt_range true (((b :: r).drop 1).take (runB digitB ((b :: r).drop 1))) num_ne (run_all _ _) (by simp at *; omega) hv) rfl rfl rfl rfl rfl .nil ⟨Has.of mT0, trivial⟩ fun ⟨z1, N2⟩ => ?_
      refine sp4 hT ?_
      refine sp hT ?_
      refine nn ?_
      refine at_seq ?_
      refine sr ?_
      refine sp hT ?_
      refine ss (sti_err Tryz.underlying107 rfl rfl) ?_
      refine nn ?_
      refine at_true rfl rfl ?_
      refine sr ?_
      refine sp3 hT ?_
      refine nn ?_
      refine at_ret ?_
      refine r_then ?_
      exact at_res3 () rfl (rv_tmp rfl) (rv_tmp rfl) (rv_tmp rfl) .nil trivial (num_me hc13 hc19 hv)
    have num_ne : (((b :: r).drop 1).take (runB digitB ((b :: r).drop 1))) ≠ [] := take_ne hc19 hrl'
    refine at_region ?_
    refine sp3 hT ?_
    refine ss (sti_sto hT (k := (runB digitB ((b :: r).drop 1))) rfl rfl rfl rfl rfl (runB_le _ _)) ?_
    refine ss (sti_cat rfl rfl rfl (by simp at *; omega)) ?_
    refine at_call (callFunc_enter Tryz.func57 rfl rfl) (parseInt_ok true (((b :: r).drop 1).take (runB digitB ((b :: r).drop 1))) num_ne (run_all _ _) (by simp at *; omega) hv) rfl rfl rfl rfl rfl .nil trivial fun _ => ?_
    refine sp4 hT ?_
    refine sp hT ?_
    refine nn ?_
    refine at_seq ?_
    refine sr ?_
    refine sp hT ?_
    refine ss (sti_noerr Tryz.underlying107 rfl rfl) ?_
    refine nn ?_
    refine at_false rfl rfl ?_
    refine at_skip ?_
    refine n_then ?_
    refine at_seq ?_
    have hq1 : ([45] : Bs).length = 1 := rfl
    have hq0 : ([] : Bs).length = 0 := rfl
    refine at_region ?_
    refine sp4 hT ?_
    refine at_int (z' := ((([45] : Bs).length : Nat) : Int)) rfl ?_
    refine sp hT ?_
    refine at_int (z' := ((((runB digitB ((b :: r).drop 1)) + ([45] : Bs).length) : Nat) : Int)) (wrapN (by omega) (by omega)) ?_
    refine sp3 hT ?_
    refine nn ?_
    refine at_ret ?_
    exact at_res3 () rfl (rv_tmp rfl) (rv_tmp rfl) (rv_tmp rfl) .nil trivial (num_mo hc13 hc19 hv)
  have hc13 : b ≠ 95 := u8_nen (k := 95) (beq_eq_false_iff_ne.1 hc13)
  refine at_skip ?_
  refine n_then ?_
  refine sr ?_
  refine sp hT ?_
  refine at_call (callFunc_enter Tryz.func23 rfl rfl) (run_spec (b :: r) (by simp at *; omega) _ digitB (callFunc_enter Tryz.func39 rfl rfl) digit_spec) rfl rfl rfl rfl rfl .nil trivial fun _ => ?_
  refine sp hT ?_
  refine nn ?_
  refine at_seq ?_
  refine at_seq ?_
  have hrl : runB digitB (b :: r) ≤ 65536 := Nat.le_trans (runB_le _ _) (by simp at *; omega)
  refine at_region ?_
  refine sp2 hT ?_
  refine nn ?_
  refine at_cond rfl (fun hc19 => ?_) (fun hc19 => ?_)
  · have hc19 := eq_of_beq hc19
    refine sr ?_
    refine sp3 hT ?_
    refine nn ?_
    refine at_ret ?_
    refine r_then ?_
    exact at_res3 () rfl (rv_tmp rfl) (rv_tmp rfl) (rv_tmp rfl) .nil trivial (num_pz hc13 hc19)
  have hc19 := beq_eq_false_iff_ne.1 hc19
  have hrl' := runB_le digitB (b :: r)
  refine at_skip ?_
  refine n_then ?_
  refine at_seq ?_
  rcases hv : numP false ((b :: r).take (runB digitB (b :: r))) with _ | v
  · have num_ne : ((b :: r).take (runB digitB (b :: r))) ≠ [] := take_ne hc19 hrl'
    refine at_region ?_
    refine sp3 hT ?_
    refine ss (sti_sto hT (k := (runB digitB (b :: r))) rfl rfl rfl rfl rfl (runB_le _ _)) ?_
    refine ss (sti_cat rfl rfl rfl (by simp at *; omega)) ?_
    refine at_call (callFunc_enter Tryz.func57 rfl rfl) (parseInt_range false ((b :: r).take (runB digitB (b :: r))) num_ne (run_all _ _) (by simp at *; omega) hv) rfl rfl rfl rfl rfl .nil ⟨Has.of mT0, trivial⟩ fun ⟨z3, N4⟩ => ?_
    refine sp4 hT ?_
    refine sp hT ?_
    refine nn ?_
    refine at_seq ?_
    refine sr ?_
    refine sp hT ?_
    refine ss (sti_err Tryz.underlying107 rfl rfl) ?_
    refine nn ?_
    refine at_true rfl rfl ?_
    refine sr ?_
    refine sp3 hT ?_
    refine nn ?_
    refine at_ret ?_
    refine r_then ?_
    exact at_res3 () rfl (rv_tmp rfl) (rv_tmp rfl) (rv_tmp rfl) .nil trivial (num_pe hc13 hc19 hv)
  have num_ne : ((b :: r).take (runB digitB (b :: r))) ≠ [] := take_ne hc19 hrl'
  refine at_region ?_
  refine sp3 hT ?_
  refine ss (sti_sto hT (k := (runB digitB (b :: r))) rfl rfl rfl rfl rfl (runB_le _ _)) ?_
  refine ss (sti_cat rfl rfl rfl (by simp at *; omega)) ?_
  refine at_call (callFunc_enter Tryz.func57 rfl rfl) (parseInt_ok false ((b :: r).take (runB digitB (b :: r))) num_ne (run_all _ _) (by simp at *; omega) hv) rfl rfl rfl rfl rfl .nil trivial fun _ => ?_
  refine sp4 hT ?_
  refine sp hT ?_
  refine nn ?_
  refine at_seq ?_
  refine sr ?_
  refine sp hT ?_
  refine ss (sti_noerr Tryz.underlying107 rfl rfl) ?_
  refine nn ?_
  refine at_false rfl rfl ?_
  refine at_skip ?_
  refine n_then ?_
  refine at_seq ?_
  have hq1 : ([45] : Bs).length = 1 := rfl
  have hq0 : ([] : Bs).length = 0 := rfl
  refine at_region ?_
  refine sp4 hT ?_
  refine at_int (z' := ((([] : Bs).length : Nat) : Int)) rfl ?_
  refine sp hT ?_
  refine at_int (z' := ((((runB digitB (b :: r)) + ([] : Bs).length) : Nat) : Int)) (wrapN (by omega) (by omega)) ?_
  refine sp3 hT ?_
  refine nn ?_
  refine at_ret ?_
  exact at_res3 () rfl (rv_tmp rfl) (rv_tmp rfl) (rv_tmp rfl) .nil trivial (num_po hc13 hc19 hv)

end Go.Proofs.YtngkedmndhmjcaaGreatDoor
