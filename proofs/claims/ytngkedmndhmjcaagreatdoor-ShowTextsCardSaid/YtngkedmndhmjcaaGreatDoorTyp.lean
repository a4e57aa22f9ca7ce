/- The engine: elements of one kind in slices: reading them out of memory that stays and out of rows of the call's own; storing into such rows, appending; handing a row over as memory that stays. -/
import Derived.Test.YtngkedmndhmjcaaGreatDoorMix
namespace Go.Proofs.YtngkedmndhmjcaaGreatDoor
open Go.RowKit

/-- how an element lies in cells -/
structure Flat (α : Type) where
  size : Nat
  cells : α → List Value
  len : ∀ x, (cells x).length = size
  one : ∀ x, ∀ u ∈ cells x, u.oneCell' = true
  pos : 0 < size
section
variable {α : Type} (E : Flat α)
def Flat.all (xs : List α) : List Value := xs.flatMap E.cells
theorem Flat.all_length (xs : List α) : (E.all xs).length = xs.length * E.size := by
  induction xs with
  | nil => simp [Flat.all]
  | cons x r ih =>
    have : E.all (x :: r) = E.cells x ++ E.all r := rfl
    rw [this, List.length_append, ih, E.len, List.length_cons, Nat.add_mul, Nat.one_mul, Nat.add_comm]
theorem Flat.all_append (xs ys : List α) : E.all (xs ++ ys) = E.all xs ++ E.all ys := by simp [Flat.all]
theorem Flat.all_one {xs : List α} : ∀ u ∈ E.all xs, u.oneCell' = true := fun u hu => by
  obtain ⟨x, _, h⟩ := List.mem_flatMap.1 hu
  exact E.one x u h
theorem Flat.all_get {xs : List α} {k : Nat} {x : α} (h : xs[k]? = some x) {j : Nat} {u : Value} (hj : (E.cells x)[j]? = some u) : (E.all xs)[k * E.size + j]? = some u := by
  induction xs generalizing k with
  | nil => simp at h
  | cons y r ih =>
    have e : E.all (y :: r) = E.cells y ++ E.all r := rfl
    cases k with
    | zero =>
      simp at h
      subst h
      have hlt := (List.getElem?_eq_some_iff.1 hj).1
      rw [e, Nat.zero_mul, Nat.zero_add, List.getElem?_append_left hlt]
      exact hj
    | succ k =>
      rw [e, List.getElem?_append_right (by rw [E.len, Nat.add_mul, Nat.one_mul]; omega), E.len]
      rw [show (k + 1) * E.size + j - E.size = k * E.size + j from by rw [Nat.add_mul, Nat.one_mul]; omega]
      exact ih (by simpa using h)
theorem setAllV_eq : ∀ (vs xs : List Value) (j : Nat), j + vs.length ≤ xs.length → setAllV xs j vs = xs.take j ++ vs ++ xs.drop (j + vs.length)
  | [], xs, j, _ => by simp [setAllV]
  | v :: r, xs, j, h => by
    simp only [List.length_cons] at h
    rw [setAllV, setAllV_eq r (xs.set j v) (j + 1) (by simp; omega)]
    have h1 : (xs.set j v).take (j + 1) = xs.take j ++ [v] := by
      rw [List.take_add_one, List.getElem?_set_self (by omega), List.take_set_of_le (Nat.le_refl _)]
      rfl
    have h2 : (xs.set j v).drop (j + 1 + r.length) = xs.drop (j + (r.length + 1)) := by
      rw [List.drop_set_of_lt (by omega)]
      congr 1
      omega
    rw [h1, h2]
    simp
/-- cells put over a part of an element -/
theorem Flat.all_set {xs : List α} {k fo : Nat} {x x' : α} {vs : List Value} (h : xs[k]? = some x) (hp : paste (E.cells x) fo vs = some (E.cells x')) : setAllV (E.all xs) (k * E.size + fo) vs = E.all (xs.set k x') := by
  obtain ⟨h1, h2⟩ := paste_spec hp
  rw [E.len] at h1
  have hk : k < xs.length := (List.getElem?_eq_some_iff.1 h).1
  have hxs : xs = xs.take k ++ x :: xs.drop (k + 1) := by
    have : x = xs[k] := (List.getElem?_eq_some_iff.1 h).2.symm
    rw [this]
    simp
  have hset : xs.set k x' = xs.take k ++ x' :: xs.drop (k + 1) := by rw [List.set_eq_take_append_cons_drop, if_pos hk]
  have htl : (xs.take k).length = k := by simp; omega
  have ea : E.all xs = E.all (xs.take k) ++ (E.cells x ++ E.all (xs.drop (k + 1))) := (congrArg E.all hxs).trans (E.all_append _ _)
  have la : (E.all (xs.take k)).length = k * E.size := by rw [E.all_length, htl]
  rw [setAllV_eq _ _ _ (by rw [E.all_length]; have : (k + 1) * E.size ≤ xs.length * E.size := Nat.mul_le_mul_right _ hk; rw [Nat.add_mul, Nat.one_mul] at this; omega)]
  rw [hset, E.all_append]
  show _ = E.all (xs.take k) ++ (E.cells x' ++ E.all (xs.drop (k + 1)))
  rw [h2, ea]
  generalize E.all (xs.take k) = A at *
  generalize E.all (xs.drop (k + 1)) = B at *
  have t1 : (A ++ (E.cells x ++ B)).take (k * E.size + fo) = A ++ (E.cells x).take fo := by
    rw [← la, List.take_append, List.take_of_length_le (by omega), show A.length + fo - A.length = fo from by omega, List.take_append_of_le_length (by rw [E.len]; omega)]
  have t2 : (A ++ (E.cells x ++ B)).drop (k * E.size + fo + vs.length) = (E.cells x).drop (fo + vs.length) ++ B := by
    rw [← la, Nat.add_assoc, List.drop_append, List.drop_of_length_le (by omega), show A.length + (fo + vs.length) - A.length = fo + vs.length from by omega, List.drop_append_of_le_length (by rw [E.len]; omega)]
    simp
  rw [t1, t2]
  simp
end

def ablk : Option Addr → Nat
  | some a => a.block
  | none => 0
def aoff : Option Addr → Nat
  | some a => a.off
  | none => 0

section
variable {P : Program} {β : Base} {n : Nat} {Γ : Env} {H : List Chunk} {F : List Fact} {Q : Exit → Act → World → Prop} {K : Act → World → Prop} {T : Tab} {α : Type} {E : Flat α}

/-- a row of the call's own -/
def Flat.row (E : Flat α) (v : Value) (t : TypeId) (xs : List α) : Chunk := .row v t E.size xs.length (E.all xs)
/-- a slice in memory that stays -/
def Flat.sl (E : Flat α) (v : Value) (xs : List α) : Fact := Fact.sl (Enc.flat E.size E.cells) v xs

/-- the slice at A reads as xs -/
def Reads (β : Base) (H : List Chunk) (F : List Fact) (E : Flat α) (A : Option Addr) (xs : List α) : Prop := ∀ w S, St β H S w → All F S w → ∀ k x, xs[k]? = some x → (∃ b o, A = some ⟨b, o, none⟩) ∧
  ∀ j u, (E.cells x)[j]? = some u → w.cell? ⟨ablk A, aoff A + k * E.size + j, none⟩ = some u
theorem reads_fact {A : Option Addr} {l c : Nat} {xs : List α} (h : Has F (E.sl (.slice A l c) xs)) : Reads β H F E A xs := fun w S _ k i x hi => by
  obtain ⟨A', cap, e, h⟩ := h S w k
  obtain ⟨b, o, cs, e1, e2, e3, e4⟩ := h i x hi
  injection e with e
  subst e
  subst e1
  have e4 : cs = E.cells x := e4
  subst e4
  exact ⟨⟨b, o, rfl⟩, e3⟩
theorem reads_row {A : Option Addr} {t : TypeId} {m cap : Nat} {xs : List α} {H' : List Chunk} (hH : Take H (E.row (.slice A m cap) t xs) H') : Reads β H F E A xs := fun w S s _ i x hi => by
  have ho : w.ownsRow 0 t E.size (.slice A m cap) xs.length (E.all xs) := s.ok _ hH.mem
  have hlt : i < xs.length := (List.getElem?_eq_some_iff.1 hi).1
  rcases ho.2 with ⟨e, e0⟩ | ⟨g, cap', cur, e, _⟩
  · omega
  · injection e with e1 e2 e3
    subst e1 e2
    refine ⟨⟨g, 0, rfl⟩, fun j u hj => ?_⟩
    have hj' := (List.getElem?_eq_some_iff.1 hj).1
    rw [E.len] at hj'
    show w.cell? ⟨g, 0 + i * E.size + j, none⟩ = some u
    rw [Nat.zero_add, World.ownsRow.cellAt ho _ (by have : (i + 1) * E.size ≤ xs.length * E.size := Nat.mul_le_mul_right _ hlt; rw [Nat.add_mul, Nat.one_mul] at this; omega)]
    exact E.all_get hi hj

theorem sti_pure (hT : TabOk P T) {o : Oper} {v : Value} (h : pureOp T Γ o.op = some v) : Sti P β n Γ H F o v := fun _ w _ f _ _ => pureOp_run hT f h w
theorem sti_index (hT : TabOk P T) {o : Oper} {t e l c k : Nat} {x i : Operand} {kk : IntKind} {z : Int} {sz : Nat} {de : TD} {A : Option Addr} {xs : List α} (hr : Reads β H F E A xs) (ho : o.op = .indexAddr t x i) (hx : Γ.ev x = some (.slice A l c)) (hi : Γ.ev i = some (.int kk z))
    (ht : T.get t = some ⟨.slice e, sz⟩) (he : T.get e = some ⟨de, E.size⟩) (hl : l = xs.length) (hz : z = (k : Nat)) (hk : k < xs.length) : Sti P β n Γ H F o (.pointer (some ⟨ablk A, aoff A + k * E.size, none⟩)) := fun a w S f s hF => by
  obtain ⟨⟨b, off, rfl⟩, _⟩ := hr w S s hF k _ (List.getElem?_eq_getElem hk)
  subst hz
  subst hl
  have ha : (⟨b, off, none⟩ : Addr).add (k * E.size) = ⟨b, off + k * E.size, none⟩ := Addr.add_mid _ _ _
  have h0 : (0 : Int) ≤ (k : Int) ∧ (k : Int) < (xs.length : Int) := ⟨by omega, by omega⟩
  unfold execOp
  simp only [ho, f.ev hx, f.ev hi, Instr.indexAt, asIntOf, Sem.run_bind, Sem.run_pure, Result.andThen_ok, hT.slice ht w, h0, and_self, if_true, hT.size he, Int.toNat_natCast, ha]
  rfl
theorem Reads.knows {A : Option Addr} {xs : List α} (hr : Reads β H F E A xs) {k : Nat} {x : α} (hk : xs[k]? = some x) (fo : Nat) : Knows β H F (ablk A) (aoff A + k * E.size + fo) ((E.cells x).drop fo) := fun w S s hF j u hj => by
  have := (hr w S s hF k x hk).2 (fo + j) u (by simpa using hj)
  rwa [← Nat.add_assoc] at this
theorem sti_load1 (hT : TabOk P T) {o : Oper} {t b q : Nat} {p : Operand} {cs : List Value} {i : TI} {v : Value} (hk : Knows β H F b q cs) (ho : o.op = .load t p) (hp : Γ.ev p = some (.pointer (some ⟨b, q, none⟩))) (ht : T.get t = some i) (ha : aggD i.desc = false)
    (hv : cs[0]? = some v) : Sti P β n Γ H F o v := fun a w S f s k => by
  have hc := hk w S s k 0 v hv
  rw [Nat.add_zero] at hc
  unfold execOp
  simp only [ho, f.ev hp, Instr.loadAt, Instr.sureAddr, loadVar, Sem.run_bind, Sem.run_pure, Result.andThen_ok, hT.agg ht, ha, Bool.false_eq_true, if_false, run_load, hc]
theorem sti_loadN (hT : TabOk P T) {o : Oper} {t b q : Nat} {p : Operand} {cs l : List Value} {i : TI} (hk : Knows β H F b q cs) (ho : o.op = .load t p) (hp : Γ.ev p = some (.pointer (some ⟨b, q, none⟩))) (ht : T.get t = some i) (ha : aggD i.desc = true)
    (hv : cut cs 0 i.size = some l) : Sti P β n Γ H F o (.agg l.toArray) := fun a w S f s k => by
  obtain ⟨h1, h2, h3⟩ := cut_spec hv
  have hl := run_loadCells_list (P := P) w ⟨b, q, none⟩ l (fun j u hj => by rw [Addr.add_mid]; exact hk w S s k j u (by simpa using h3 j u hj))
  rw [h2] at hl
  unfold execOp
  simp only [ho, f.ev hp, Instr.loadAt, Instr.sureAddr, loadVar, Sem.run_bind, Sem.run_pure, Result.andThen_ok, hT.agg ht, ha, if_true, hT.size ht, hl]

/-! ### rows of the call's own -/
theorem at_nilrow' {t : TypeId} (E : Flat α) (h : At β n Γ (E.row (.slice none 0 0) t [] :: H) F K) : At β n Γ H F K := at_nilrow (t := t) (sz := E.size) h
/-- what is known of a row's value -/
theorem at_rowv {v : Value} {t : TypeId} {xs : List α} {H' : List Chunk} (hH : Take H (E.row v t xs) H') (h : ∀ A cap, v = .slice A xs.length cap → At β n Γ H F K) : At β n Γ H F K := at_row hH fun _ ⟨A, cap, e, _⟩ => h A cap e
theorem at_store_elem {ops : Array Oper} {rest : List Oper} {o : Oper} (hT : TabOk P T) {t t' k fo m cap : Nat} {p x : Operand} {v : Value} {vs : List Value} {i : TI} {A : Option Addr} {xs : List α} {y y' : α} {H' : List Chunk} (hH : Take H (E.row (.slice A m cap) t' xs) H') (hw : want ops Γ o = some true) (ho : o.op = .store t p x) (hd : o.dst = none)
    (hp : Γ.ev p = some (.pointer (some ⟨ablk A, aoff A + k * E.size + fo, none⟩))) (hx : Γ.ev x = some v) (ht : T.get t = some i) (hc : v.cells = vs.toArray) (hs : Nat.beq vs.length i.size = true)
    (h1 : vs.all (·.oneCell') = true) (hk : xs[k]? = some y) (hput : paste (E.cells y) fo vs = some (E.cells y')) (K : At β n Γ (E.row (.slice A m cap) t' (xs.set k y') :: H') F (wpList P ops Q rest)) : At β n Γ H F (wpList P ops Q (o :: rest)) := by
  have hlt : k < xs.length := (List.getElem?_eq_some_iff.1 hk).1
  refine at_row hH fun _ ⟨A', cap', e, hA⟩ => ?_
  injection e with e1 e2 e3
  subst e1 e2 e3
  obtain ⟨g, rfl⟩ := hA (by omega)
  have hb := (paste_spec hput).1
  rw [E.len] at hb
  have hmul : (k + 1) * E.size ≤ xs.length * E.size := Nat.mul_le_mul_right _ hlt
  rw [Nat.add_mul, Nat.one_mul] at hmul
  refine at_store_row hT (off := k * E.size + fo) hw ho hd (by rw [hp]; show _ = some (Value.pointer (some ⟨g, _, none⟩)); simp [ablk, aoff]) hx (t' := t') (m := xs.length) (cap := cap) (sz := E.size) hH ht hc hs h1 (by omega) (E.all_set hk hput) ?_
  have K' := K
  unfold Flat.row at K'
  rw [List.length_set] at K'
  exact K'
/-- append to a row of the call's own of elements that lie in memory -/
theorem at_append_elems {ops : Array Oper} {rest : List Oper} {o : Oper} {d : Nat} {x y : Operand} {t e : TypeId} {i : TypeInfo} {z : Value} {by_ c q : Nat} {v : Value} {A : Option Addr} {xs ys : List α} {H' : List Chunk} (hH : Take H (E.row v e xs) H') (hr : Reads β H F E A ys) (hg : o.guard = none)
    (ho : o.op = .call { callee := .builtin .append, args := #[x, y], argTypes := #[t, t] }) (hd : o.dst = some d) (hn : Nat.blt d n = true) (hu : P.underlying t = some (.slice e)) (hi : P.info? e = some i) (hz : i.zero = some z) (hsize : i.size = E.size) (hby : i.bytes = by_) (hzs : z.cells.size = E.size)
    (hx : Γ.ev x = some v) (hy : Γ.ev y = some (.slice A q c)) (hq : q = ys.length) (hne : 0 < ys.length) (hbytes : (xs.length + ys.length) * by_ ≤ 140737488355328) (hpos : 0 < by_)
    (k : ∀ A' cap', At β n ((d, .slice A' (xs ++ ys).length cap') :: Γ) (E.row (.slice A' (xs ++ ys).length cap') e (xs ++ ys) :: H') F (wpList P ops Q rest)) : At β n Γ H F (wpList P ops Q (o :: rest)) := fun a w S f s hF => by
  obtain ⟨⟨b, off, rfl⟩, _⟩ := hr w S s hF 0 _ (List.getElem?_eq_getElem hne)
  subst hq
  have h63 : xs.length + ys.length ≤ maxLen := by
    have : xs.length + ys.length ≤ (xs.length + ys.length) * by_ := Nat.le_mul_of_pos_right _ hpos
    simp [maxLen]
    omega
  refine at_append hg ho hd hn hu hi hz hsize hby hzs E.pos hx hH hy (news := E.all ys) (E.all_length ys) (fun w S s hF j u hj => ?_) E.all_one h63 hbytes (fun v' => ?_) a w S f s hF
  · have hlt := (List.getElem?_eq_some_iff.1 hj).1
    rw [E.all_length] at hlt
    have hk : j / E.size < ys.length := Nat.div_lt_of_lt_mul (by rwa [Nat.mul_comm] at hlt)
    have hm : j % E.size < E.size := Nat.mod_lt _ E.pos
    have hx' := List.getElem?_eq_getElem hk
    have hu' := List.getElem?_eq_getElem (l := E.cells ys[j / E.size]) (i := j % E.size) (by rw [E.len]; exact hm)
    have e : j / E.size * E.size + j % E.size = j := by rw [Nat.mul_comm]; exact Nat.div_add_mod j E.size
    have h1 := (hr w S s hF _ _ hx').2 _ _ hu'
    have h2 := E.all_get hx' hu'
    rw [e, hj] at h2
    injection h2 with h2
    have h3 := h1.trans (congrArg some h2.symm)
    rw [Nat.add_assoc, e] at h3
    exact h3
  · have K' := k
    refine at_row (H := _ :: H') .head fun _ ⟨A', cap', e, _⟩ => ?_
    subst e
    have := k A' cap'
    unfold Flat.row at this
    rw [E.all_append, List.length_append] at this
    exact this
end

end Go.Proofs.YtngkedmndhmjcaaGreatDoor
