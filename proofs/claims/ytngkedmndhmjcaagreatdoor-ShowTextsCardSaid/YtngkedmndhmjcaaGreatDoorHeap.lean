/- The engine's rules for blocks of the call's own, memory that stays, slices, calls and results. -/
import Derived.Test.YtngkedmndhmjcaaGreatDoorMem
namespace Go.Proofs.YtngkedmndhmjcaaGreatDoor
open Go.RowKit

section
variable {P : Program} {β : Base} {n : Nat} {Γ : Env} {H : List Chunk} {F : List Fact} {Q : Exit → Act → World → Prop} {K : Act → World → Prop} {T : Tab}

theorem St.agree {S : Zone} {w w' : World} {M' : Zone} (s : St β H S w) (k : Kept M' w w') (hS : ∀ b, S b → ¬ M' b) : Agree S w w' := fun b hb => k.block b (s.zone b hb).1 (hS b hb)
theorem kept_alloc (w : World) (o : Obj) : Kept (fun _ => False) w (w.alloc o) :=
  ⟨rfl, rfl, rfl, by simp, fun b hb _ => Below.heap_alloc _ _ _ hb⟩
theorem St.alloc {S : Zone} {w : World} (s : St β H S w) (o : Obj) : St β (.obj w.heap.size o :: H) S (w.alloc o) := by
  have s' := s.grow (kept_alloc w o) (fun _ h => h.elim) (fun _ _ _ _ h => h)
  refine ⟨s'.kept, fun c hc => ?_, fun c hc b hb => ?_, List.pairwise_cons.2 ⟨fun d hd b hb hdb => ?_, s'.sep⟩, s'.zone⟩
  · rcases List.mem_cons.1 hc with rfl | hc
    · exact heap_alloc_new _ _
    · exact s'.ok c hc
  · rcases List.mem_cons.1 hc with rfl | hc
    · injection hb with hb
      subst hb
      exact ⟨by simp, .inr s.kept.size, fun h => absurd (s.zone _ h).1 (Nat.lt_irrefl _)⟩
    · exact s'.own c hc b hb
  · injection hb with hb
    subst hb
    exact absurd (s.own d hd _ hdb).1 (Nat.lt_irrefl _)
theorem All.alloc {S : Zone} {w : World} (s : St β H S w) (k : All F S w) (o : Obj) : All F S (w.alloc o) := All.mono (fun _ h => h) (s.agree (kept_alloc w o) (fun _ _ h => h)) k

theorem at_step {ops : Array Oper} {rest : List Oper} {o : Oper} (hw : want ops Γ o = some true) (h : ∀ a w S, Fits n Γ a → St β H S w → All F S w → o.wp P a w (wpList P ops Q rest) Q) : At β n Γ H F (wpList P ops Q (o :: rest)) := fun a w S f s k => by
  unfold wpList
  rw [f.want hw, if_pos rfl]
  exact .inl (h a w S f s k)

/-- a variable in memory of its own -/
theorem at_box {ops : Array Oper} {rest : List Oper} {o : Oper} {d : Nat} {t : TypeId} {x : Operand} {v : Value} {cs : List Value} (hw : want ops Γ o = some true) (ho : o.op = .box t x) (hd : o.dst = some d) (hn : Nat.blt d n = true)
    (hx : Γ.ev x = some v) (hc : v.cells = cs.toArray) (k : ∀ b, At β n ((d, .pointer (some ⟨b, 0, none⟩)) :: Γ) (.obj b (.cells cs.toArray t) :: H) F (wpList P ops Q rest)) : At β n Γ H F (wpList P ops Q (o :: rest)) :=
  at_step hw fun a w S f s hk => by
    have hr : (execOp a.eval o).run P w = .ok (.value (.pointer (some ⟨w.heap.size, 0, none⟩))) (w.alloc (.cells cs.toArray t)) := by
      unfold execOp
      simp only [ho, f.ev hx, Instr.box, newVar, newRow, hc]
      rfl
    unfold Oper.wp
    rw [hr, Oper.upon_value, hd]
    exact k _ _ _ S (f.put (by simpa [Nat.blt_eq] using hn) _) (s.alloc _) (All.alloc s hk _)

/-! ### what is known of cells -/
def Knows (β : Base) (H : List Chunk) (F : List Fact) (b q : Nat) (cs : List Value) : Prop := ∀ w S, St β H S w → All F S w → ∀ j u, cs[j]? = some u → w.cell? ⟨b, q + j, none⟩ = some u
theorem Take.mem {H H' : List Chunk} {c : Chunk} (h : Take H c H') : c ∈ H := h.perm.mem_iff.2 (List.mem_cons_self ..)
theorem knows_own {b off : Nat} {cs : List Value} {t : TypeId} {fz : Nat × Nat} {H' : List Chunk} (hH : Take H (.obj b (.cells cs.toArray t fz)) H') : Knows β H F b off (cs.drop off) := fun w S s _ j u hj => by
  have h : w.heap[b]? = some (.cells cs.toArray t fz) := s.ok _ hH.mem
  unfold World.cell?
  rw [h]
  simpa using hj
def Fact.cells (b o : Nat) (cs : List Value) : Fact where
  p S w := S b ∧ ∀ j u, cs[j]? = some u → w.cell? ⟨b, o + j, none⟩ = some u
  mono := fun hs ha h => ⟨hs _ h.1, fun j u hj => by
    have := h.2 j u hj
    unfold World.cell? at *
    rw [ha b h.1]
    exact this⟩
theorem knows_fact {b o : Nat} {cs : List Value} (h : Has F (Fact.cells b o cs)) : Knows β H F b o cs := fun w S _ k j u hj => (h S w k).2 j u hj
theorem Knows.drop {b q : Nat} {cs : List Value} (h : Knows β H F b q cs) (j : Nat) : Knows β H F b (q + j) (cs.drop j) := fun w S s k i u hi => by
  have := h w S s k (j + i) u (by simpa using hi)
  rwa [← Nat.add_assoc] at this
theorem det_load1 (hT : TabOk P T) {o : Oper} {t b q : Nat} {p : Operand} {cs : List Value} {i : TI} {v : Value} (ho : o.op = .load t p) (hp : Γ.ev p = some (.pointer (some ⟨b, q, none⟩))) (ht : T.get t = some i) (ha : aggD i.desc = false)
    (hk : Knows β H F b q cs) (hv : cs[0]? = some v) : Det P β n Γ H F o v := det_of fun a w S f s k => by
  have hc := hk w S s k 0 v hv
  rw [Nat.add_zero] at hc
  unfold execOp
  simp only [ho, f.ev hp, Instr.loadAt, Instr.sureAddr, loadVar, Sem.run_bind, Sem.run_pure, Result.andThen_ok, hT.agg ht, ha, Bool.false_eq_true, if_false, run_load, hc]
theorem det_loadN (hT : TabOk P T) {o : Oper} {t b q : Nat} {p : Operand} {cs l : List Value} {i : TI} (ho : o.op = .load t p) (hp : Γ.ev p = some (.pointer (some ⟨b, q, none⟩))) (ht : T.get t = some i) (ha : aggD i.desc = true)
    (hk : Knows β H F b q cs) (hv : cut cs 0 i.size = some l) : Det P β n Γ H F o (.agg l.toArray) := det_of fun a w S f s k => by
  obtain ⟨h1, h2, h3⟩ := cut_spec hv
  have hl := run_loadCells_list (P := P) w ⟨b, q, none⟩ l (fun j u hj => by rw [Addr.add_mid]; exact hk w S s k j u (by simpa using h3 j u hj))
  rw [h2] at hl
  unfold execOp
  simp only [ho, f.ev hp, Instr.loadAt, Instr.sureAddr, loadVar, Sem.run_bind, Sem.run_pure, Result.andThen_ok, hT.agg ht, ha, if_true, hT.size ht, hl]

/-! ### stores into blocks of the call's own -/
theorem kept_setRow {w : World} {g : Nat} {cs : Array Value} : Kept (fun b => b = g) w (w.setRow g cs) := by
  refine ⟨rfl, rfl, rfl, by simp [World.setRow], fun b hb hne => ?_⟩
  simp [World.setRow, Array.getElem?_modify, Ne.symm hne]
theorem setRow_at {w : World} {g : Nat} {cur cs : Array Value} {t : TypeId} {fz : Nat × Nat} (h : w.heap[g]? = some (.cells cur t fz)) : (w.setRow g cs).heap[g]? = some (.cells cs t fz) := by
  simp [World.setRow, Array.getElem?_modify, h]
/-- a chunk gives way to another one in the same block -/
theorem St.swap {c c' : Chunk} {S : Zone} {w w' : World} {g : Nat} (s : St β (c :: H) S w) (k : Kept (fun b => b = g) w w') (hc : c.blk = some g) (hc' : c'.blk = some g) (ok : c'.ok w') : St β (c' :: H) S w' := by
  have hg := s.own c (List.mem_cons_self ..) g hc
  have hsep := List.pairwise_cons.1 s.sep
  have s' : St β H S w' := s.tail.grow k (fun b hb => by subst hb; exact hg.2.1) (fun d hd b hb e => by subst e; exact hsep.1 d hd _ hc hb)
  refine ⟨s'.kept, fun d hd => ?_, fun d hd b hb => ?_, List.pairwise_cons.2 ⟨fun d hd b hb => ?_, s'.sep⟩, s'.zone⟩
  · rcases List.mem_cons.1 hd with rfl | hd
    · exact ok
    · exact s'.ok d hd
  · rcases List.mem_cons.1 hd with rfl | hd
    · rw [hc'] at hb
      injection hb with hb
      subst hb
      exact ⟨Nat.lt_of_lt_of_le hg.1 k.size, hg.2⟩
    · exact s'.own d hd b hb
  · rw [hc'] at hb
    injection hb with hb
    subst hb
    exact hsep.1 d hd _ hc
theorem at_store {ops : Array Oper} {rest : List Oper} {o : Oper} (hT : TabOk P T) {t t' b off : Nat} {p x : Operand} {v : Value} {vs cs cs' : List Value} {i : TI} {H' : List Chunk} (hw : want ops Γ o = some true) (ho : o.op = .store t p x) (hd : o.dst = none)
    (hp : Γ.ev p = some (.pointer (some ⟨b, off, none⟩))) (hx : Γ.ev x = some v) (hH : Take H (.obj b (.cells cs.toArray t')) H') (ht : T.get t = some i) (hc : v.cells = vs.toArray) (hs : Nat.beq vs.length i.size = true)
    (h1 : vs.all (·.oneCell') = true) (hput : paste cs off vs = some cs') (k : At β n Γ (.obj b (.cells cs'.toArray t') :: H') F (wpList P ops Q rest)) : At β n Γ H F (wpList P ops Q (o :: rest)) :=
  at_step hw fun a w S f s hk => by
    have hb : w.heap[b]? = some (.cells cs.toArray t' (0, 0)) := s.ok _ hH.mem
    obtain ⟨hl, e⟩ := paste_spec hput
    have hst := run_storeCells_at (P := P) b off t' vs 0 cs.toArray w hb (by simpa using hl) (fun u hu => by simpa using (List.all_eq_true.1 h1) u hu)
    simp only [Nat.add_zero] at hst
    rw [← e] at hst
    have hsz : v.cells.size = i.size := by rw [hc]; simpa using Nat.eq_of_beq_eq_true hs
    have hr : (execOp a.eval o).run P w = .ok .skip (w.setRow b cs'.toArray) := by
      unfold execOp
      simp only [ho, f.ev hp, f.ev hx, Instr.storeAt, Instr.sureAddr, storeVar, Sem.run_bind, Sem.run_pure, Result.andThen_ok, hT.size ht, hsz]
      simp [hc, hst]
    unfold Oper.wp
    rw [hr, Oper.upon_skip, hd]
    have s2 := s.perm hH.perm
    exact k _ _ S (f.put_none _) (s2.swap kept_setRow rfl rfl (setRow_at hb)) (All.mono (fun _ h => h) (s.agree kept_setRow (fun c hc e => by subst e; exact (s2.own _ (List.mem_cons_self ..) _ rfl).2.2 hc)) hk)

/-! ### slices in memory that stays -/
structure Enc (α : Type) where
  size : Nat
  rep : List Value → α → Fact
def Enc.flat {α : Type} (size : Nat) (cells : α → List Value) : Enc α := ⟨size, fun cs x => Fact.pure (cs = cells x)⟩
def Fact.sl {α : Type} (E : Enc α) (v : Value) (xs : List α) : Fact where
  p S w := ∃ A cap, v = .slice A xs.length cap ∧ ∀ k x, xs[k]? = some x → ∃ b o cs, A = some ⟨b, o, none⟩ ∧ S b ∧ (∀ j u, cs[j]? = some u → w.cell? ⟨b, o + k * E.size + j, none⟩ = some u) ∧ (E.rep cs x).p S w
  mono := fun hs ha ⟨A, cap, e, h⟩ => ⟨A, cap, e, fun k x hk => by
    obtain ⟨b, o, cs, e1, e2, e3, e4⟩ := h k x hk
    refine ⟨b, o, cs, e1, hs _ e2, fun j u hj => ?_, (E.rep cs x).mono hs ha e4⟩
    have := e3 j u hj
    unfold World.cell? at *
    rw [ha b e2]
    exact this⟩
theorem Has.slice {α : Type} {E : Enc α} {v : Value} {xs : List α} (h : Has F (Fact.sl E v xs)) : Has F (Fact.pure (∃ A cap, v = .slice A xs.length cap)) := fun S w k => by
  obtain ⟨A, cap, e, _⟩ := h S w k
  exact ⟨A, cap, e⟩
theorem Has.addr {α : Type} {E : Enc α} {A : Option Addr} {l c : Nat} {xs : List α} (h : Has F (Fact.sl E (.slice A l c) xs)) {k : Nat} (hk : k < xs.length) : Has F (Fact.pure (∃ b o, A = some ⟨b, o, none⟩)) := fun S w hF => by
  obtain ⟨A', cap, e, h⟩ := h S w hF
  obtain ⟨b, o, cs, e1, _⟩ := h k _ (List.getElem?_eq_getElem hk)
  injection e with e
  exact ⟨b, o, e.trans e1⟩
theorem Has.elem {α : Type} {sz : Nat} {cells : α → List Value} {b o l c : Nat} {xs : List α} (h : Has F (Fact.sl (Enc.flat sz cells) (.slice (some ⟨b, o, none⟩) l c) xs)) {k : Nat} {x : α} (hk : xs[k]? = some x) : Has F (Fact.cells b (o + k * sz) (cells x)) := fun S w hF => by
  obtain ⟨A', cap, e, h⟩ := h S w hF
  obtain ⟨b', o', cs, e1, e2, e3, e4⟩ := h k x hk
  injection e with e
  rw [e1] at e
  injection e with e
  injection e with e e'
  subst e e'
  have e4 : cs = cells x := e4
  subst e4
  exact ⟨e2, e3⟩
theorem det_index (hT : TabOk P T) {o : Oper} {t e b off l c k : Nat} {x i : Operand} {kk : IntKind} {z : Int} {sz : Nat} {ei : TI} (ho : o.op = .indexAddr t x i) (hx : Γ.ev x = some (.slice (some ⟨b, off, none⟩) l c)) (hi : Γ.ev i = some (.int kk z))
    (ht : T.get t = some ⟨.slice e, sz⟩) (he : T.get e = some ei) (hz : z = (k : Nat)) (hk : k < l) : Det P β n Γ H F o (.pointer (some ⟨b, off + k * ei.size, none⟩)) := det_of fun a w S f s _ => by
  subst hz
  have ha : (⟨b, off, none⟩ : Addr).add (k * ei.size) = ⟨b, off + k * ei.size, none⟩ := Addr.add_mid _ _ _
  have h0 : (0 : Int) ≤ (k : Int) ∧ (k : Int) < (l : Int) := ⟨by omega, by omega⟩
  unfold execOp
  simp only [ho, f.ev hx, f.ev hi, Instr.indexAt, asIntOf, Sem.run_bind, Sem.run_pure, Result.andThen_ok, hT.slice ht w, h0, and_self, if_true, hT.size he, Int.toNat_natCast, ha]

/-! ### calls -/
def blks (H : List Chunk) : Zone := fun b => ∃ c ∈ H, c.blk = some b
/-- what a function does: the blocks that it may write, what must be known; its value, what it leaves of those blocks, and what is known then -/
def Spec {ι : Type} (P : Program) (f : FuncId) (args : List Value) (Hin : List Chunk) (Pre : List Fact) (val : ι → Value) (Hout : ι → List Chunk) (post : ι → List Fact) : Prop :=
  ∀ S w, St ⟨w, blks Hin, S⟩ Hin S w → All Pre S w → Calls P f args.toArray w fun e w' => ∃ x S', e = .returned (val x) ∧ St ⟨w, blks Hin, S⟩ (Hout x) S' w' ∧ All (post x) S' w'

inductive Split : List Chunk → List Chunk → List Chunk → Prop
  | nil {H : List Chunk} : Split H [] H
  | cons {H H' R H2 : List Chunk} {c : Chunk} (h : Take H c H') (k : Split H' R H2) : Split H (c :: R) H2
theorem Split.perm {H R H2 : List Chunk} (h : Split H R H2) : H.Perm (R ++ H2) := by
  induction h with
  | nil => exact List.Perm.refl _
  | cons h _ ih => exact h.perm.trans (ih.cons _)

theorem St.enter {Hin H2 : List Chunk} {S : Zone} {w : World} (s : St β (Hin ++ H2) S w) : St ⟨w, blks Hin, S⟩ Hin S w where
  kept := Kept.refl _ _
  ok := fun c hc => s.ok c (List.mem_append_left _ hc)
  own := fun c hc b hb => ⟨(s.own c (List.mem_append_left _ hc) b hb).1, .inl ⟨c, hc, hb⟩, (s.own c (List.mem_append_left _ hc) b hb).2.2⟩
  sep := (List.pairwise_append.1 s.sep).1
  zone := fun b hb => ⟨(s.zone b hb).1, .inl hb⟩

theorem St.leave {Hin Hout H2 : List Chunk} {S S' : Zone} {w w' : World} (s : St β (Hin ++ H2) S w) (s' : St ⟨w, blks Hin, S⟩ Hout S' w') : St β (Hout ++ H2) (fun b => S b ∨ S' b) w' := by
  have sp := List.pairwise_append.1 s.sep
  have hin : ∀ b, blks Hin b → b < w.heap.size ∧ (β.M b ∨ β.w.heap.size ≤ b) ∧ ¬ S b := fun b ⟨c, hc, hb⟩ => s.own c (List.mem_append_left _ hc) b hb
  have h2 : ∀ c ∈ H2, ∀ b, c.blk = some b → b < w.heap.size ∧ (β.M b ∨ β.w.heap.size ≤ b) ∧ ¬ S b ∧ ¬ blks Hin b := fun c hc b hb => by
    obtain ⟨h1, h2, h3⟩ := s.own c (List.mem_append_right _ hc) b hb
    exact ⟨h1, h2, h3, fun ⟨d, hd, hdb⟩ => sp.2.2 d hd c hc b hdb hb⟩
  refine ⟨s.kept.trans s'.kept (fun i hi => (hin i hi).2.1), fun c hc => ?_, fun c hc b hb => ?_, List.pairwise_append.2 ⟨s'.sep, sp.2.1, fun c hc d hd b hb hdb => ?_⟩, fun b hb => ?_⟩
  · rcases List.mem_append.1 hc with hc | hc
    · exact s'.ok c hc
    · exact Chunk.ok_of (s.ok c (List.mem_append_right _ hc)) fun b hb => s'.kept.block b (h2 c hc b hb).1 (h2 c hc b hb).2.2.2
  · rcases List.mem_append.1 hc with hc | hc
    · obtain ⟨a1, a2, a3⟩ := s'.own c hc b hb
      refine ⟨a1, ?_, fun h => ?_⟩
      · rcases a2 with a2 | a2
        · exact (hin b a2).2.1
        · exact .inr (Nat.le_trans s.kept.size a2)
      · rcases h with h | h
        · rcases a2 with a2 | a2
          · exact (hin b a2).2.2 h
          · exact absurd (s.zone b h).1 (Nat.not_lt.2 a2)
        · exact a3 h
    · obtain ⟨a1, a2, a3, a4⟩ := h2 c hc b hb
      refine ⟨Nat.lt_of_lt_of_le a1 s'.kept.size, a2, fun h => ?_⟩
      rcases h with h | h
      · exact a3 h
      · rcases (s'.zone b h).2 with h' | h' | h'
        · exact a3 h'
        · exact a4 h'
        · exact absurd a1 (Nat.not_lt.2 h')
  · obtain ⟨a1, _, _, a4⟩ := h2 d hd b hdb
    rcases (s'.own c hc b hb).2.1 with a2 | a2
    · exact a4 a2
    · exact absurd a1 (Nat.not_lt.2 a2)
  · rcases hb with hb | hb
    · exact ⟨Nat.lt_of_lt_of_le (s.zone b hb).1 s'.kept.size, (s.zone b hb).2⟩
    · refine ⟨(s'.zone b hb).1, ?_⟩
      rcases (s'.zone b hb).2 with h | h | h
      · exact (s.zone b h).2
      · exact .inr (hin b h).2.1
      · exact .inr (.inr (Nat.le_trans s.kept.size h))
theorem All.leave {Hin Hout H2 : List Chunk} {S S' : Zone} {w w' : World} (s : St β (Hin ++ H2) S w) (s' : St ⟨w, blks Hin, S⟩ Hout S' w') (k : All F S w) : All F (fun b => S b ∨ S' b) w' :=
  All.mono (fun _ h => .inl h) (fun b hb => s'.kept.block b (s.zone b hb).1 (fun ⟨c, hc, h⟩ => (s.own c (List.mem_append_left _ hc) b h).2.2 hb)) k

theorem run_call {o : Oper} {f : FuncId} {ars : Array Operand} {ts : Array TypeId} {vs : List Value} {a : Act} (hcf : ∀ (args : Array Value) (w : World), (callFunc f args).run P w = .ok (.enter f args) w) (ho : o.op = .call ⟨.value (.func f), ars, ts⟩) (fi : Fits n Γ a)
    (hv : Γ.evs ars.toList = some vs) (w : World) : (execOp a.eval o).run P w = .ok (.enter f vs.toArray) w := by
  have hm : ars.map a.eval = vs.toArray := by
    apply Array.ext'
    simpa using fi.evs hv
  unfold execOp
  simp only [ho, resolve, Act.eval, Deferred.ofValue, Sem.run_bind, Sem.run_pure, Result.andThen_ok, invoke]
  simp [hm, hcf]

theorem at_call {ι : Type} {ops : Array Oper} {rest : List Oper} {o : Oper} {d : Nat} {f : FuncId} {ars : Array Operand} {ts : Array TypeId} {vs : List Value} {Hin H2 : List Chunk} {Pre : List Fact} {val : ι → Value} {Hout : ι → List Chunk} {post : ι → List Fact}
    (hcf : ∀ (args : Array Value) (w : World), (callFunc f args).run P w = .ok (.enter f args) w) (hs : Spec P f vs Hin Pre val Hout post) (hw : want ops Γ o = some true) (ho : o.op = .call ⟨.value (.func f), ars, ts⟩) (hd : o.dst = some d) (hn : Nat.blt d n = true)
    (hv : Γ.evs ars.toList = some vs) (hH : Split H Hin H2) (hF : HasAll F Pre) (k : ∀ x, At β n ((d, val x) :: Γ) (Hout x ++ H2) (post x ++ F) (wpList P ops Q rest)) : At β n Γ H F (wpList P ops Q (o :: rest)) :=
  at_step hw fun a w S f s hk => by
    unfold Oper.wp
    rw [run_call hcf ho f hv w, Oper.upon_enter]
    have s1 := s.perm hH.perm
    refine (hs S w s1.enter (hF.all S w hk)).mono ?_
    rintro e w' ⟨x, S', rfl, s', k'⟩
    show wpList P ops Q rest (a.put o.dst (val x)) w'
    rw [hd]
    exact k x _ _ _ (f.put (by simpa [Nat.blt_eq] using hn) _) (s1.leave s') ((All.mono (fun _ h => .inr h) (fun _ _ => rfl) k').append (All.leave s1 s' hk))

/-- a call that writes nothing, and yields one value -/
theorem det_call {ι : Type} {o : Oper} {f : FuncId} {ars : Array Operand} {ts : Array TypeId} {vs : List Value} {Pre : List Fact} {v : Value} {val : ι → Value} {Hout : ι → List Chunk} {post : ι → List Fact}
    (hcf : ∀ (args : Array Value) (w : World), (callFunc f args).run P w = .ok (.enter f args) w) (hs : Spec P f vs [] Pre val Hout post) (hval : ∀ x, val x = v) (ho : o.op = .call ⟨.value (.func f), ars, ts⟩)
    (hv : Γ.evs ars.toList = some vs) (hF : HasAll F Pre) : Det P β n Γ H F o v := fun a f w ⟨S, s, hk⟩ => by
  unfold Oper.quietAt
  rw [run_call hcf ho f hv w]
  have s1 : St β ([] ++ H) S w := s
  refine ⟨rfl, (hs S w s1.enter (hF.all S w hk)).mono ?_⟩
  rintro e w' ⟨x, S', rfl, s', k'⟩
  refine ⟨by rw [hval], fun b => S b ∨ S' b, ?_, All.leave s1 s' hk⟩
  have s2 := s1.leave s'
  exact ⟨s2.kept, fun c hc => s2.ok c (List.mem_append_right _ hc), fun c hc => s2.own c (List.mem_append_right _ hc), (List.pairwise_append.1 s2.sep).2.1, s2.zone⟩

/-! ### the body -/
def args0 : Nat → List Value → Env
  | _, [] => []
  | i, v :: r => (i, v) :: args0 (i + 1) r
theorem args0_get : ∀ (i : Nat) (l : List Value) (j : Nat) (v : Value), (args0 i l).get j = some v → i ≤ j ∧ l[j - i]? = some v
  | i, [], j, v, h => by simp [args0, Env.get] at h
  | i, u :: r, j, v, h => by
    unfold args0 Env.get at h
    cases hb : Nat.beq i j with
    | true =>
      have := Nat.eq_of_beq_eq_true hb
      subst this
      simp at h
      simp [h]
    | false =>
      simp [hb] at h
      obtain ⟨h1, h2⟩ := args0_get (i + 1) r j v h
      refine ⟨by omega, ?_⟩
      rw [show j - i = (j - (i + 1)) + 1 from by omega]
      simpa using h2
def Done {ι : Type} (β : Base) (val : ι → Value) (Hout : ι → List Chunk) (post : ι → List Fact) (e : Ending) (w' : World) : Prop := ∃ x S', e = .returned (val x) ∧ St β (Hout x) S' w' ∧ All (post x) S' w'
theorem spec_of {ι : Type} {f : FuncId} {fn : Func} {c : Code} {args : List Value} {Hin : List Chunk} {Pre : List Fact} {val : ι → Value} {Hout : ι → List Chunk} {post : ι → List Fact} (hf : P.funcs[f]? = some fn) (hb : fn.body = some c) (hn : fn.ntmps = n)
    (hl : Nat.ble args.length n = true) (h : ∀ β, β.M = blks Hin → At β n (args0 0 args) Hin Pre (c.wp P (bodyPost P fn (Done β val Hout post)))) : Spec P f args Hin Pre val Hout post := fun S w s k => by
  refine calls_of_wp hf hb (h ⟨w, blks Hin, S⟩ rfl _ w S ⟨rfl, ?_, fun i v hi => ?_⟩ s k)
  · have := Nat.le_of_ble_eq_true hl
    simp; omega
  · obtain ⟨_, h2⟩ := args0_get 0 args i v hi
    simp only [Nat.sub_zero] at h2
    have hlt : i < args.length := (List.getElem?_eq_some_iff.1 h2).1
    simp only [Array.getElem?_append]
    rw [if_pos (by simpa using hlt)]
    simpa using h2
theorem at_done1 {ι : Type} {fn : Func} {val : ι → Value} {Hout : ι → List Chunk} {post : ι → List Fact} {t : Nat} {v : Value} (x : ι) (hr : fn.results = #[.tmp t]) (hv : Γ.get t = some v) (he : v = val x) (hH : Sel H (Hout x)) (hF : HasAll F (post x)) :
    At β n Γ H F (bodyPost P fn (Done β val Hout post) .ret) := fun a w S f s k => by
  refine ⟨f.defers, v, ?_, x, S, by rw [he], s.sel hH, hF.all S w k⟩
  have := f.get t v hv
  simp [results, hr, Array.getD_eq_getD_getElem?, this]
theorem at_done2 {ι : Type} {fn : Func} {val : ι → Value} {Hout : ι → List Chunk} {post : ι → List Fact} {t1 t2 : Nat} {v1 v2 : Value} (x : ι) (hr : fn.results = #[.tmp t1, .tmp t2]) (h1 : Γ.get t1 = some v1) (h2 : Γ.get t2 = some v2) (he : .tuple #[v1, v2] = val x) (hH : Sel H (Hout x)) (hF : HasAll F (post x)) :
    At β n Γ H F (bodyPost P fn (Done β val Hout post) .ret) := fun a w S f s k => by
  refine ⟨f.defers, .tuple #[v1, v2], ?_, x, S, by rw [he], s.sel hH, hF.all S w k⟩
  have g1 := f.get t1 v1 h1
  have g2 := f.get t2 v2 h2
  simp [results, hr, Array.getD_eq_getD_getElem?, g1, g2]
theorem at_done3 {ι : Type} {fn : Func} {val : ι → Value} {Hout : ι → List Chunk} {post : ι → List Fact} {t1 t2 t3 : Nat} {v1 v2 v3 : Value} (x : ι) (hr : fn.results = #[.tmp t1, .tmp t2, .tmp t3]) (h1 : Γ.get t1 = some v1) (h2 : Γ.get t2 = some v2) (h3 : Γ.get t3 = some v3) (he : .tuple #[v1, v2, v3] = val x) (hH : Sel H (Hout x)) (hF : HasAll F (post x)) :
    At β n Γ H F (bodyPost P fn (Done β val Hout post) .ret) := fun a w S f s k => by
  refine ⟨f.defers, .tuple #[v1, v2, v3], ?_, x, S, by rw [he], s.sel hH, hF.all S w k⟩
  have g1 := f.get t1 v1 h1
  have g2 := f.get t2 v2 h2
  have g3 := f.get t3 v3 h3
  simp [results, hr, Array.getD_eq_getD_getElem?, g1, g2, g3]
end

end Go.Proofs.YtngkedmndhmjcaaGreatDoor
