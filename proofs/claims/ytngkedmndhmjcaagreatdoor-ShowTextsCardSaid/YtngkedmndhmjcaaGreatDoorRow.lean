/- The engine: rows of the call's own (slices under construction): reading, storing, appending, handing over; regions that draw their order and end in a store. -/
import Derived.Test.YtngkedmndhmjcaaGreatDoorHeap
import Derived.StillTail
namespace Go.Proofs.YtngkedmndhmjcaaGreatDoor
open Go.RowKit

section
variable {P : Program} {β : Base} {n : Nat} {Γ : Env} {H : List Chunk} {F : List Fact} {Q : Exit → Act → World → Prop} {K : Act → World → Prop} {T : Tab}

/-- what is known of a row's value -/
theorem at_row {v : Value} {t : TypeId} {sz m : Nat} {cs : List Value} {H' : List Chunk} (hH : Take H (.row v t sz m cs) H') (h : cs.length = m * sz → (∃ A cap, v = .slice A m cap ∧ (0 < m → ∃ g, A = some ⟨g, 0, none⟩)) → At β n Γ H F K) : At β n Γ H F K := fun a w S f s k => by
  have ho : w.ownsRow 0 t sz v m cs := s.ok _ hH.mem
  refine h ho.1 ?_ a w S f s k
  rcases ho.2 with ⟨e, e0⟩ | ⟨g, cap, cur, e, _⟩
  · exact ⟨none, 0, by rw [e, e0], fun h => by omega⟩
  · exact ⟨_, cap, e, fun _ => ⟨g, rfl⟩⟩
theorem knows_row {g m cap sz : Nat} {t : TypeId} {cs : List Value} {H' : List Chunk} (hH : Take H (.row (.slice (some ⟨g, 0, none⟩) m cap) t sz m cs) H') : Knows β H F g 0 cs := fun w S s _ j u hj => by
  have ho : w.ownsRow 0 t sz (.slice (some ⟨g, 0, none⟩) m cap) m cs := s.ok _ hH.mem
  have hlt : j < m * sz := by have := (List.getElem?_eq_some_iff.1 hj).1; rw [ho.1] at this; exact this
  rw [Nat.zero_add, World.ownsRow.cellAt ho j hlt]
  exact hj
theorem Knows.part {b q o : Nat} {cs ds : List Value} (h : Knows β H F b q cs) (hd : ∀ j u, ds[j]? = some u → cs[o + j]? = some u) : Knows β H F b (q + o) ds := fun w S s k j u hj => by
  have := h w S s k (o + j) u (hd j u hj)
  rwa [← Nat.add_assoc] at this

/-- a nil slice is a row of the call's own -/
theorem at_nilrow {t : TypeId} {sz : Nat} (h : At β n Γ (.row (.slice none 0 0) t sz 0 [] :: H) F K) : At β n Γ H F K := fun a w S f s k => by
  refine h a w S f ⟨s.kept, fun c hc => ?_, fun c hc b hb => ?_, List.pairwise_cons.2 ⟨fun d _ b hb => ?_, s.sep⟩, s.zone⟩ k
  · rcases List.mem_cons.1 hc with rfl | hc
    · exact World.ownsRow_nil _ _ _ _
    · exact s.ok c hc
  · rcases List.mem_cons.1 hc with rfl | hc
    · simp [Chunk.blk, Value.ownBlock] at hb
    · exact s.own c hc b hb
  · simp [Chunk.blk, Value.ownBlock] at hb

/-! ### stores into a row -/
theorem kept_setCells (g : Nat) : ∀ (vs : List Value) (o : Nat) (w : World), Kept (fun b => b = g) w (w.setCells g o vs)
  | [], _, w => Kept.refl _ _
  | v :: r, o, w => by
    have h1 : Kept (fun b => b = g) w (w.setCell ⟨g, o, none⟩ v) := by
      refine ⟨rfl, rfl, rfl, by simp, fun b hb hne => ?_⟩
      simp [World.setCell, Array.getElem?_modify, Ne.symm hne]
    exact h1.trans (kept_setCells g r (o + 1) _) (fun i hi => .inl hi)
def setAllV : List Value → Nat → List Value → List Value
  | xs, _, [] => xs
  | xs, j, v :: r => setAllV (xs.set j v) (j + 1) r
theorem owns_setCellsV {base : Nat} {e : TypeId} {size g m cap : Nat} : ∀ (vs : List Value) (j : Nat) (w : World) (xs : List Value), w.ownsRow base e size (.slice (some ⟨g, 0, none⟩) m cap) m xs →
    (w.setCells g j vs).ownsRow base e size (.slice (some ⟨g, 0, none⟩) m cap) m (setAllV xs j vs)
  | [], _, _, _, h => h
  | v :: r, j, _, _, h => owns_setCellsV r (j + 1) _ _ (World.ownsRow.stored h j v).1
theorem at_store_row {ops : Array Oper} {rest : List Oper} {o : Oper} (hT : TabOk P T) {t t' g off m cap sz : Nat} {p x : Operand} {v : Value} {vs cs cs' : List Value} {i : TI} {H' : List Chunk} (hw : want ops Γ o = some true) (ho : o.op = .store t p x) (hd : o.dst = none)
    (hp : Γ.ev p = some (.pointer (some ⟨g, off, none⟩))) (hx : Γ.ev x = some v) (hH : Take H (.row (.slice (some ⟨g, 0, none⟩) m cap) t' sz m cs) H') (ht : T.get t = some i) (hc : v.cells = vs.toArray) (hs : Nat.beq vs.length i.size = true)
    (h1 : vs.all (·.oneCell') = true) (hoff : off + vs.length ≤ m * sz) (hput : setAllV cs off vs = cs') (k : At β n Γ (.row (.slice (some ⟨g, 0, none⟩) m cap) t' sz m cs' :: H') F (wpList P ops Q rest)) : At β n Γ H F (wpList P ops Q (o :: rest)) :=
  at_step hw fun a w S f s hk => by
    have hown : w.ownsRow 0 t' sz (.slice (some ⟨g, 0, none⟩) m cap) m cs := s.ok _ hH.mem
    have hth : w.there g off vs.length := fun j hj => by
      refine ⟨?_, World.ownsRow.frozenAt hown _⟩
      rw [World.ownsRow.cellAt hown _ (by omega), List.getElem?_eq_getElem (by rw [hown.1]; omega)]
      rfl
    have hst := run_storeCells_cells (P := P) g off vs 0 w (fun j hj => by simpa using (hth j hj).1) (fun j hj => by simpa using (hth j hj).2) (fun u hu => by simpa using (List.all_eq_true.1 h1) u hu)
    rw [Nat.add_zero] at hst
    have hsz : v.cells.size = i.size := by rw [hc]; simpa using Nat.eq_of_beq_eq_true hs
    have hr : (execOp a.eval o).run P w = .ok .skip (w.setCells g off vs) := by
      unfold execOp
      simp only [ho, f.ev hp, f.ev hx, Instr.storeAt, Instr.sureAddr, storeVar, Sem.run_bind, Sem.run_pure, Result.andThen_ok, hT.size ht, hsz]
      simp [hc, hst]
    unfold Oper.wp
    rw [hr, Oper.upon_skip, hd]
    have s2 := s.perm hH.perm
    refine k _ _ S (f.put_none _) (s2.swap (kept_setCells g vs off w) rfl rfl ?_) (All.mono (fun _ h => h) (s.agree (kept_setCells g vs off w) (fun c hc e => by subst e; exact (s2.own _ (List.mem_cons_self ..) _ rfl).2.2 hc)) hk)
    rw [← hput]
    exact owns_setCellsV vs off w cs hown

/-! ### append -/
theorem kept_grown {w w' : World} {row : Option Nat} (h : w.grownBy w' row) : Kept (fun b => some b = row) w w' := ⟨h.os, h.tape, h.output, h.size, fun b hb hne => h.block b hb hne⟩
/-- one chunk gives way to another one, in its block or in a new one -/
theorem St.swap_row {v v' : Value} {t : TypeId} {sz m m' : Nat} {cs cs' : List Value} {S : Zone} {w w' : World} (s : St β (.row v t sz m cs :: H) S w) (k : Kept (fun b => some b = v.ownBlock) w w') (hv : v'.ownBlock = v.ownBlock ∨ v'.ownBlock = some w.heap.size) (ok : w'.ownsRow 0 t sz v' m' cs') :
    St β (.row v' t sz m' cs' :: H) S w' := by
  have hsep := List.pairwise_cons.1 s.sep
  have hown := s.own _ (List.mem_cons_self ..)
  have s' : St β H S w' := s.tail.grow k (fun b hb => (hown b hb.symm).2.1) (fun d hd b hb e => hsep.1 d hd b e.symm hb)
  have hnew : ∀ b, v'.ownBlock = some b → b < w'.heap.size ∧ (β.M b ∨ β.w.heap.size ≤ b) ∧ ¬ S b := fun b hb => by
    refine ⟨(World.ownsRow.lt ok b hb).2, ?_⟩
    rcases hv with hv | hv
    · exact (hown b (hv.symm.trans hb)).2
    · rw [hv] at hb
      injection hb with hb
      subst hb
      exact ⟨.inr s.kept.size, fun h => absurd (s.zone _ h).1 (Nat.lt_irrefl _)⟩
  refine ⟨s'.kept, fun d hd => ?_, fun d hd b hb => ?_, List.pairwise_cons.2 ⟨fun d hd b hb hdb => ?_, s'.sep⟩, s'.zone⟩
  · rcases List.mem_cons.1 hd with rfl | hd
    · exact ok
    · exact s'.ok d hd
  · rcases List.mem_cons.1 hd with rfl | hd
    · exact hnew b hb
    · exact s'.own d hd b hb
  · rcases hv with hv | hv
    · exact hsep.1 d hd b (hv.symm.trans hb) hdb
    · have hb : v'.ownBlock = some b := hb
      rw [hv] at hb
      injection hb with hb
      subst hb
      exact absurd (s.own d (List.mem_cons_of_mem _ hd) _ hdb).1 (Nat.lt_irrefl _)

/-- append to a row of the call's own: what is appended lies at an address that is known -/
theorem at_append {ops : Array Oper} {rest : List Oper} {o : Oper} {d : Nat} {x y : Operand} {t e : TypeId} {i : TypeInfo} {z : Value} {sz by_ m q c b off : Nat} {v : Value} {cs news : List Value} {H' : List Chunk} (hg : o.guard = none)
    (ho : o.op = .call { callee := .builtin .append, args := #[x, y], argTypes := #[t, t] }) (hd : o.dst = some d) (hn : Nat.blt d n = true) (hu : P.underlying t = some (.slice e)) (hi : P.info? e = some i) (hz : i.zero = some z) (hsize : i.size = sz) (hby : i.bytes = by_) (hzs : z.cells.size = sz) (hsz : 0 < sz)
    (hx : Γ.ev x = some v) (hH : Take H (.row v e sz m cs) H') (hy : Γ.ev y = some (.slice (some ⟨b, off, none⟩) q c)) (hl : news.length = q * sz) (hk : Knows β H F b off news) (h1 : ∀ u ∈ news, u.oneCell' = true) (h63 : m + q ≤ maxLen) (hbytes : (m + q) * by_ ≤ 140737488355328)
    (k : ∀ v', At β n ((d, v') :: Γ) (.row v' e sz (m + q) (cs ++ news) :: H') F (wpList P ops Q rest)) : At β n Γ H F (wpList P ops Q (o :: rest)) := fun a w S f s hF => by
  have hown : w.ownsRow 0 e sz v m cs := s.ok _ hH.mem
  refine wpList_append_own_at w hg x y t ho 0 e i z sz by_ hu hi hz hsize hby hzs hsz v m cs (f.ev hx) hown ⟨b, off, none⟩ q c news (f.ev hy) hl (fun j u hj => by rw [Addr.add_mid]; exact hk w S s hF j u hj) h1 h63 hbytes (Nat.zero_le _) ?_
  intro v' w' hown' hgrow _ hat
  have s2 := s.perm hH.perm
  rw [hd]
  exact k v' _ _ S (f.put (by simpa [Nat.blt_eq] using hn) _) (s2.swap_row (kept_grown hgrow) hat hown') (All.mono (fun _ h => h) (s.agree (kept_grown hgrow) (fun b hb e => (s2.own _ (List.mem_cons_self ..) b e.symm).2.2 hb)) hF)

/-- a slice of given elements, in memory of its own -/
theorem at_build {ops : Array Oper} {rest : List Oper} {o : Oper} {d m : Nat} {t e : TypeId} {parts : Array (Nat × Operand)} {cs : List Value} (hw : want ops Γ o = some true) (ho : o.op = .buildSlice t m parts) (hd : o.dst = some d) (hn : Nat.blt d n = true)
    (hr : ∀ a w, Fits n Γ a → (Instr.buildSlice t m (parts.map fun (i, x) => (i, a.eval x))).run P w = .ok (.slice (some ⟨w.heap.size, 0, none⟩) m m) (w.alloc (.cells cs.toArray e)))
    (k : ∀ b, At β n ((d, .slice (some ⟨b, 0, none⟩) m m) :: Γ) (.obj b (.cells cs.toArray e) :: H) F (wpList P ops Q rest)) : At β n Γ H F (wpList P ops Q (o :: rest)) :=
  at_step hw fun a w S f s hk => by
    have hr' : (execOp a.eval o).run P w = .ok (.value (.slice (some ⟨w.heap.size, 0, none⟩) m m)) (w.alloc (.cells cs.toArray e)) := by
      unfold execOp
      simp only [ho]
      rw [Sem.run_bind, hr a w f]
      rfl
    unfold Oper.wp
    rw [hr', Oper.upon_value, hd]
    exact k _ _ _ S (f.put (by simpa [Nat.blt_eq] using hn) _) (s.alloc _) (All.alloc s hk _)
end

end Go.Proofs.YtngkedmndhmjcaaGreatDoor
