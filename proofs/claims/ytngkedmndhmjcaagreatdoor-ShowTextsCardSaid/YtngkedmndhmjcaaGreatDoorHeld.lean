/- The engine: rows in a block of the call's own of which no more is known (held); append of what may be empty; a slice literal without elements. -/
import Derived.Test.YtngkedmndhmjcaaGreatDoorTwo
namespace Go.Proofs.YtngkedmndhmjcaaGreatDoor
open Go.RowKit

def setArr : Array Value → Nat → List Value → Array Value
  | cs, _, [] => cs
  | cs, o, v :: r => setArr (cs.setIfInBounds o v) (o + 1) r
theorem setArr_list : ∀ (vs : List Value) (cs : Array Value) (o : Nat), (setArr cs o vs).toList = setAllV cs.toList o vs
  | [], _, _ => rfl
  | v :: r, cs, o => by rw [setArr, setAllV, setArr_list r]; simp
theorem setAllV_len : ∀ (vs xs : List Value) (j : Nat), (setAllV xs j vs).length = xs.length
  | [], _, _ => rfl
  | v :: r, xs, j => by rw [setAllV, setAllV_len r]; simp
theorem heap_setCells {g : Nat} {t : TypeId} {fz : Nat × Nat} : ∀ (vs : List Value) (o : Nat) (w : World) (cs : Array Value), w.heap[g]? = some (.cells cs t fz) → (w.setCells g o vs).heap[g]? = some (.cells (setArr cs o vs) t fz)
  | [], _, _, _, h => h
  | v :: r, o, w, cs, h => by
    rw [World.setCells, setArr]
    refine heap_setCells r (o + 1) _ _ ?_
    simp [World.setCell, Array.getElem?_modify, h]
theorem set_keeps {off : Nat} : ∀ (vs bs cs : List Value) (p : Nat), (∀ j u, bs[j]? = some u → cs[off + j]? = some u) → ∀ j u, (setAllV bs p vs)[j]? = some u → (setAllV cs (off + p) vs)[off + j]? = some u
  | [], _, _, _, h => h
  | v :: r, bs, cs, p, h => by
    rw [setAllV, setAllV]
    refine set_keeps r (bs.set p v) (cs.set (off + p) v) (p + 1) fun j u hj => ?_
    by_cases e : p = j
    · subst e
      have hlt := (List.getElem?_eq_some_iff.1 hj).1
      rw [List.length_set] at hlt
      rw [List.getElem?_set_self hlt] at hj
      have := h p _ (List.getElem?_eq_getElem hlt)
      rw [List.getElem?_set_self (List.getElem?_eq_some_iff.1 this).1]
      exact hj
    · rw [List.getElem?_set_ne e] at hj
      rw [List.getElem?_set_ne (by omega)]
      exact h j u hj

section
variable {P : Program} {β : Base} {n : Nat} {Γ : Env} {H : List Chunk} {F : List Fact} {Q : Exit → Act → World → Prop} {K : Act → World → Prop} {T : Tab} {α : Type} {E : Flat α}

def heldBlk (v : Value) : List α → Option Nat
  | [] => none
  | _ :: _ => v.ownBlock
/-- a row in a block of the call's own: of the block no more is known -/
def Flat.held (E : Flat α) (v : Value) (xs : List α) : Chunk := .gen (heldBlk v xs) fun o => ∃ A cap, v = .slice A xs.length cap ∧ (xs = [] ∨ ∃ g off cs t fz, A = some ⟨g, off, none⟩ ∧ o = some (.cells cs t fz) ∧ ∀ j u, (E.all xs)[j]? = some u → cs.toList[off + j]? = some u ∧ (fz.1 ≤ off + j && off + j < fz.2) = false)

theorem held_open {w : World} {v : Value} {xs : List α} (h : (E.held v xs).ok w) {k : Nat} (hk : k < xs.length) : ∃ g off cap cs t fz, v = .slice (some ⟨g, off, none⟩) xs.length cap ∧ (E.held v xs).blk = some g ∧ w.heap[g]? = some (.cells cs t fz) ∧
    ∀ j u, (E.all xs)[j]? = some u → cs.toList[off + j]? = some u ∧ (fz.1 ≤ off + j && off + j < fz.2) = false := by
  obtain ⟨A, cap, e, h⟩ := h
  rcases h with h | ⟨g, off, cs, t, fz, e1, e2, h⟩
  · subst h
    simp at hk
  · subst e
    subst e1
    cases xs with
    | nil => simp at hk
    | cons x r => exact ⟨g, off, cap, cs, t, fz, rfl, rfl, e2, h⟩
theorem held_reads {w : World} {v : Value} {xs : List α} (h : (E.held v xs).ok w) {S : Zone} (hS : ∀ b, (E.held v xs).blk = some b → S b) : (E.sl v xs).p S w := by
  have h0 := h
  obtain ⟨A, cap, e, _⟩ := h
  refine ⟨A, cap, e, fun k x hk => ?_⟩
  obtain ⟨g, off, cap', cs, t, fz, e1, hb, hh, hc⟩ := held_open h0 (List.getElem?_eq_some_iff.1 hk).1
  rw [e] at e1
  injection e1 with e1
  subst e1
  refine ⟨g, off, E.cells x, rfl, hS g hb, fun j u hj => ?_, rfl⟩
  have := (hc _ _ (E.all_get hk hj)).1
  show w.cell? ⟨g, off + k * E.size + j, none⟩ = some u
  unfold World.cell?
  rw [hh]
  rw [Nat.add_assoc]
  simpa using this
theorem reads_held {A : Option Addr} {m cap : Nat} {xs : List α} {H' : List Chunk} (hH : Take H (E.held (.slice A m cap) xs) H') : Reads β H F E A xs := fun w S s _ i x hi => by
  have h := held_reads (S := fun _ => True) (s.ok _ hH.mem) (fun _ _ => trivial)
  obtain ⟨A', c', e, h⟩ := h
  obtain ⟨b, o, cs, e1, e2, e3, e4⟩ := h i x hi
  injection e with e
  subst e
  subst e1
  have e4 : cs = E.cells x := e4
  subst e4
  exact ⟨⟨b, o, rfl⟩, e3⟩
theorem lends_held {v : Value} {xs : List α} {L : List Chunk} {G : List Fact} (h : Lends L G) : Lends (E.held v xs :: L) (E.sl v xs :: G) := fun S w hok hS =>
  All.cons (held_reads (hok _ (List.mem_cons_self ..)) fun b hb => hS _ (List.mem_cons_self ..) b hb) (h S w (fun c hc => hok c (List.mem_cons_of_mem _ hc)) fun c hc => hS c (List.mem_cons_of_mem _ hc))
theorem at_store_held {ops : Array Oper} {rest : List Oper} {o : Oper} (hT : TabOk P T) {t k fo m cap : Nat} {p x : Operand} {v : Value} {vs : List Value} {i : TI} {A : Option Addr} {xs : List α} {y y' : α} {H' : List Chunk} (hH : Take H (E.held (.slice A m cap) xs) H') (hw : want ops Γ o = some true) (ho : o.op = .store t p x) (hd : o.dst = none)
    (hp : Γ.ev p = some (.pointer (some ⟨ablk A, aoff A + k * E.size + fo, none⟩))) (hx : Γ.ev x = some v) (ht : T.get t = some i) (hc : v.cells = vs.toArray) (hs : Nat.beq vs.length i.size = true)
    (h1 : vs.all (·.oneCell') = true) (hk : xs[k]? = some y) (hput : paste (E.cells y) fo vs = some (E.cells y')) (K : At β n Γ (E.held (.slice A m cap) (xs.set k y') :: H') F (wpList P ops Q rest)) : At β n Γ H F (wpList P ops Q (o :: rest)) :=
  at_step hw fun a w S f s hF => by
    have hlt : k < xs.length := (List.getElem?_eq_some_iff.1 hk).1
    have hok := s.ok _ hH.mem
    obtain ⟨g, off, cap', cs, t', fz, e, hblk, hh, hcs⟩ := held_open hok hlt
    injection e with e1 e2 e3
    subst e1 e2 e3
    have hb := (paste_spec hput).1
    rw [E.len] at hb
    have hmul : (k + 1) * E.size ≤ xs.length * E.size := Nat.mul_le_mul_right _ hlt
    rw [Nat.add_mul, Nat.one_mul] at hmul
    have hal : ∀ j, j < vs.length → ∃ u, (E.all xs)[k * E.size + fo + j]? = some u := fun j hj => ⟨_, List.getElem?_eq_getElem (by rw [E.all_length]; omega)⟩
    have hth : w.there g (off + k * E.size + fo) vs.length := fun j hj => by
      obtain ⟨u, hu⟩ := hal j hj
      obtain ⟨q1, q2⟩ := hcs _ _ hu
      have e : off + k * E.size + fo + j = off + (k * E.size + fo + j) := by omega
      refine ⟨?_, ?_⟩
      · rw [e]
        unfold World.cell?
        rw [hh]
        have : cs[off + (k * E.size + fo + j)]? = some u := by simpa using q1
        simp [this]
      · rw [e]
        unfold World.frozen?
        rw [hh]
        exact q2
    have hst := run_storeCells_cells (P := P) g (off + k * E.size + fo) vs 0 w (fun j hj => by simpa using (hth j hj).1) (fun j hj => by simpa using (hth j hj).2) (fun u hu => by simpa using (List.all_eq_true.1 h1) u hu)
    rw [Nat.add_zero] at hst
    have hsz : v.cells.size = i.size := by rw [hc]; simpa using Nat.eq_of_beq_eq_true hs
    have hr : (execOp a.eval o).run P w = .ok .skip (w.setCells g (off + k * E.size + fo) vs) := by
      unfold execOp
      simp only [ho, f.ev hp, f.ev hx, Instr.storeAt, Instr.sureAddr, storeVar, Sem.run_bind, Sem.run_pure, Result.andThen_ok, hT.size ht, hsz, ablk, aoff]
      simp [hc, hst]
    unfold Oper.wp
    rw [hr, Oper.upon_skip, hd]
    have s2 := s.perm hH.perm
    have hblk' : (E.held (.slice (some ⟨g, off, none⟩) xs.length cap) (xs.set k y')).blk = some g := by
      cases xs with
      | nil => simp at hlt
      | cons x0 r => cases k <;> rfl
    refine K _ _ S (f.put_none _) (s2.swap (kept_setCells g vs _ w) hblk hblk' ?_) (All.mono (fun _ h => h) (s.agree (kept_setCells g vs _ w) (fun c hc e => by subst e; exact (s2.own _ (List.mem_cons_self ..) _ hblk).2.2 hc)) hF)
    refine ⟨_, cap, by rw [List.length_set], .inr ⟨g, off, setArr cs (off + k * E.size + fo) vs, t', fz, rfl, ?_, fun j u hj => ?_⟩⟩
    · have : heldBlk (Value.slice (some ⟨g, off, none⟩) xs.length cap) (xs.set k y') = some g := hblk'
      rw [this]
      exact heap_setCells vs _ w cs hh
    · rw [← E.all_set hk hput] at hj
      rw [setArr_list]
      have e : off + k * E.size + fo = off + (k * E.size + fo) := by omega
      rw [e]
      refine ⟨set_keeps vs (E.all xs) cs.toList _ (fun j u hj => (hcs j u hj).1) j u hj, ?_⟩
      have hjl : j < (E.all xs).length := by
        have := (List.getElem?_eq_some_iff.1 hj).1
        rw [setAllV_len] at this
        exact this
      exact (hcs _ _ (List.getElem?_eq_getElem hjl)).2

/-- append to a row of the call's own of elements that lie in memory; there may be none -/
theorem at_append_all {ops : Array Oper} {rest : List Oper} {o : Oper} {d : Nat} {x y : Operand} {t e : TypeId} {i : TypeInfo} {z : Value} {by_ c q : Nat} {v : Value} {A : Option Addr} {xs ys : List α} {H' : List Chunk} (hH : Take H (E.row v e xs) H') (hr : Reads β H F E A ys) (hg : o.guard = none)
    (ho : o.op = .call { callee := .builtin .append, args := #[x, y], argTypes := #[t, t] }) (hd : o.dst = some d) (hn : Nat.blt d n = true) (hu : P.underlying t = some (.slice e)) (hi : P.info? e = some i) (hz : i.zero = some z) (hsize : i.size = E.size) (hby : i.bytes = by_) (hzs : z.cells.size = E.size)
    (hx : Γ.ev x = some v) (hy : Γ.ev y = some (.slice A q c)) (hq : q = ys.length) (hbytes : (xs.length + ys.length) * by_ ≤ 140737488355328) (hpos : 0 < by_)
    (k : ∀ A' cap', At β n ((d, .slice A' (xs ++ ys).length cap') :: Γ) (E.row (.slice A' (xs ++ ys).length cap') e (xs ++ ys) :: H') F (wpList P ops Q rest)) : At β n Γ H F (wpList P ops Q (o :: rest)) := by
  by_cases hne : 0 < ys.length
  · exact at_append_elems hH hr hg ho hd hn hu hi hz hsize hby hzs hx hy hq hne hbytes hpos k
  · have h0 : ys = [] := List.eq_nil_of_length_eq_zero (by omega)
    subst h0
    subst hq
    simp only [List.append_nil] at k
    refine at_rowv hH fun A' cap' e => ?_
    subst e
    cases A with
    | none =>
      have hw : want ops Γ o = some true := by unfold want; rw [hg]
      refine at_step hw fun a w S f s hF => ?_
      have hown : w.ownsRow 0 e E.size (.slice A' xs.length cap') xs.length (E.all xs) := s.ok _ hH.mem
      have hr' : (Builtin.append_ #[t, t] o.type #[.slice A' xs.length cap', .slice none 0 c]).run P w = .ok (.slice A' xs.length cap') w := by
        rcases hown.2 with ⟨e, e0⟩ | ⟨g, cap, cur, e, _, _, hnc, _⟩
        · injection e with e1 e2 e3
          subst e1 e3
          rw [e2]
          simp [Builtin.append_, run_underlying hu, sizeOf, typeInfo, hi, Builtin.lenOf, Builtin.firstCells]
        · injection e with e1 e2 e3
          subst e1 e3
          simp [Builtin.append_, run_underlying hu, sizeOf, typeInfo, hi, Builtin.lenOf, Builtin.firstCells, hnc, storeCells]
      have hx2 : (execOp a.eval o).run P w = .ok (.value (.slice A' xs.length cap')) w := by
        unfold execOp
        simp only [ho, resolve, invoke, builtin, Sem.run_bind, Sem.run_pure, Result.andThen_ok, List.map_toArray, List.map_cons, List.map_nil, f.ev hx, f.ev hy, List.length_nil, hr']
      unfold Oper.wp
      rw [hx2, Oper.upon_value, hd]
      exact k A' cap' _ _ S (f.put (by simpa [Nat.blt_eq] using hn) _) (s.perm hH.perm) hF
    | some ad =>
      intro a w S f s hF
      have hown : w.ownsRow 0 e E.size (.slice A' xs.length cap') xs.length (E.all xs) := s.ok _ hH.mem
      have hb' : xs.length * by_ ≤ 140737488355328 := by simpa using hbytes
      have h63 : xs.length ≤ maxLen := by
        have : xs.length ≤ xs.length * by_ := Nat.le_mul_of_pos_right _ hpos
        simp [maxLen]
        omega
      refine wpList_append_own_at w hg x y t ho 0 e i z E.size by_ hu hi hz hsize hby hzs E.pos _ xs.length (E.all xs) (f.ev hx) hown ad 0 c [] (f.ev hy) (by simp) (fun j u hj => by simp at hj) (by simp) h63 hb' (Nat.zero_le _) ?_
      intro v' w' hown' hgrow _ hat
      rw [List.append_nil] at hown'
      have s2 := s.perm hH.perm
      rw [hd]
      have s3 := s2.swap_row (kept_grown hgrow) hat hown'
      refine at_row (β := β) (n := n) (Γ := (d, v') :: Γ) (H := .row v' e E.size (xs.length + 0) (E.all xs) :: H') (F := F) (K := wpList P ops Q rest) .head (fun _ ⟨A2, cap2, e2, _⟩ => ?_) _ _ S (f.put (by simpa [Nat.blt_eq] using hn) _) s3 (All.mono (fun _ h => h) (s.agree (kept_grown hgrow) (fun b hb e => (s2.own _ (List.mem_cons_self ..) b e.symm).2.2 hb)) hF)
      subst e2
      exact k A2 cap2
/-- a slice literal without elements -/
theorem at_build0 {ops : Array Oper} {rest : List Oper} {o : Oper} {d : Nat} {t e : TypeId} {ie : TypeInfo} (E : Flat α) (hw : want ops Γ o = some true) (ho : o.op = .buildSlice t 0 #[]) (hd : o.dst = some d) (hn : Nat.blt d n = true)
    (hu : P.underlying t = some (.slice e)) (hie : P.info? e = some ie)
    (k : ∀ b, At β n ((d, .slice (some ⟨b, 0, none⟩) 0 0) :: Γ) (E.row (.slice (some ⟨b, 0, none⟩) 0 0) e [] :: H) F (wpList P ops Q rest)) : At β n Γ H F (wpList P ops Q (o :: rest)) := by
  refine at_build (m := 0) (parts := #[]) (e := e) (cs := []) hw ho hd hn (fun a w f => ?_) fun b => ?_
  · simp [Instr.buildSlice, run_underlying hu, sizeOf, typeInfo, hie, newRow, Instr.fill, Array.range_zero']
  · intro a w S f s hF
    have hok : w.heap[b]? = some (.cells #[] e (0, 0)) := s.ok _ (List.mem_cons_self ..)
    refine k b a w S f ⟨s.kept, fun c hc => ?_, fun c hc b' hb => ?_, ?_, s.zone⟩ hF
    · rcases List.mem_cons.1 hc with rfl | hc
      · exact ⟨by simp [Flat.all], .inr ⟨b, 0, #[], rfl, Nat.zero_le _, hok, Nat.le_refl _, by simp [maxLen], by simp, by simp [Flat.all]⟩⟩
      · exact s.ok c (List.mem_cons_of_mem _ hc)
    · rcases List.mem_cons.1 hc with rfl | hc
      · exact s.own (.obj b (.cells #[] e)) (List.mem_cons_self ..) b' hb
      · exact s.own c (List.mem_cons_of_mem _ hc) b' hb
    · have hp := List.pairwise_cons.1 s.sep
      exact List.pairwise_cons.2 ⟨fun d hd b hb => hp.1 d hd b hb, hp.2⟩
end
end Go.Proofs.YtngkedmndhmjcaaGreatDoor
