/- The engine: calls of functions with a body; a row handed over as memory that stays; chunks lent to a call that only reads them; cuts, numbers, Bools; values built of parts; variables in memory; arrays in memory. -/
import Derived.Test.YtngkedmndhmjcaaGreatDoorTyp
import Derived.Laws.Tables
namespace Go.Proofs.YtngkedmndhmjcaaGreatDoor
open Go.RowKit

section
variable {P : Program} {β : Base} {n : Nat} {Γ : Env} {H : List Chunk} {F : List Fact} {Q : Exit → Act → World → Prop} {K : Act → World → Prop} {T : Tab} {α : Type} {E : Flat α}

theorem callFunc_enter {f : FuncId} {fn : Func} (hf : P.funcs[f]? = some fn) (hn : (fn.name == "runtime.NumGoroutine") = false) (hb : fn.body.isNone = false) (args : Array Value) (w : World) : (callFunc f args).run P w = .ok (.enter f args) w := by
  have hp : (program : Sem Program).run P w = .ok P w := rfl
  unfold callFunc
  rw [Sem.run_bind, hp, Result.andThen_ok, hf]
  simp only [hn, hb, Bool.false_eq_true, if_false, Sem.run_pure]

/-! ### a row handed over -/
theorem at_freeze {v : Value} {t : TypeId} {xs : List α} {H' : List Chunk} (hH : Take H (E.row v t xs) H') (h : At β n Γ H' (E.sl v xs :: F) K) : At β n Γ H F K := fun a w S f s k => by
  have s2 := s.perm hH.perm
  have hok : w.ownsRow 0 t E.size v xs.length (E.all xs) := s2.ok _ (List.mem_cons_self ..)
  have hsep := List.pairwise_cons.1 s2.sep
  have hown := s2.own _ (List.mem_cons_self ..)
  have hmono : All F (fun b => S b ∨ v.ownBlock = some b) w := All.mono (fun _ h => .inl h) (fun _ _ => rfl) k
  refine h a w (fun b => S b ∨ v.ownBlock = some b) f ⟨s2.kept, fun c hc => s2.ok c (List.mem_cons_of_mem _ hc), fun c hc b hb => ?_, hsep.2, fun b hb => ?_⟩ (All.cons ?_ hmono)
  · obtain ⟨h1, h2, h3⟩ := s2.own c (List.mem_cons_of_mem _ hc) b hb
    refine ⟨h1, h2, fun h => ?_⟩
    rcases h with h | h
    · exact h3 h
    · exact hsep.1 c hc b h hb
  · rcases hb with hb | hb
    · exact s2.zone b hb
    · obtain ⟨h1, h2, _⟩ := hown b hb
      exact ⟨h1, .inr h2⟩
  · exact row_slice hok fun b hb => .inr hb
where
  row_slice {v : Value} {t : TypeId} {xs : List α} {S : Zone} {w : World} (hok : w.ownsRow 0 t E.size v xs.length (E.all xs)) (hS : ∀ b, v.ownBlock = some b → S b) : (E.sl v xs).p S w := by
    rcases hok.2 with ⟨e, e0⟩ | ⟨g, cap, cur, e, _⟩
    · have : xs = [] := List.eq_nil_of_length_eq_zero e0
      subst this
      exact ⟨none, 0, e, fun k x hk => by simp at hk⟩
    · subst e
      refine ⟨_, cap, rfl, fun k x hk => ⟨g, 0, E.cells x, rfl, hS g rfl, fun j u hj => ?_, rfl⟩⟩
      have hlt : k < xs.length := (List.getElem?_eq_some_iff.1 hk).1
      have hj' := (List.getElem?_eq_some_iff.1 hj).1
      rw [E.len] at hj'
      show w.cell? ⟨g, 0 + k * E.size + j, none⟩ = some u
      rw [Nat.zero_add, World.ownsRow.cellAt hok _ (by have : (k + 1) * E.size ≤ xs.length * E.size := Nat.mul_le_mul_right _ hlt; rw [Nat.add_mul, Nat.one_mul] at this; omega)]
      exact E.all_get hk hj

/-! ### chunks lent to a call -/
def Lends (L : List Chunk) (G : List Fact) : Prop := ∀ S w, (∀ c ∈ L, c.ok w) → (∀ c ∈ L, ∀ b, c.blk = some b → S b) → All G S w
theorem lends_nil : Lends [] [] := fun _ _ _ _ g hg => by simp at hg
theorem lends_row {v : Value} {t : TypeId} {xs : List α} {L : List Chunk} {G : List Fact} (h : Lends L G) : Lends (E.row v t xs :: L) (E.sl v xs :: G) := fun S w hok hS =>
  All.cons (at_freeze.row_slice (hok _ (List.mem_cons_self ..)) fun b hb => hS _ (List.mem_cons_self ..) b hb) (h S w (fun c hc => hok c (List.mem_cons_of_mem _ hc)) fun c hc => hS c (List.mem_cons_of_mem _ hc))
theorem St.lend {Hin L H2 : List Chunk} {S : Zone} {w : World} (s : St β (Hin ++ (L ++ H2)) S w) : St ⟨w, blks Hin, fun b => S b ∨ blks L b⟩ Hin (fun b => S b ∨ blks L b) w where
  kept := Kept.refl _ _
  ok := fun c hc => s.ok c (List.mem_append_left _ hc)
  own := fun c hc b hb => ⟨(s.own c (List.mem_append_left _ hc) b hb).1, .inl ⟨c, hc, hb⟩, fun h => by
    rcases h with h | ⟨d, hd, hdb⟩
    · exact (s.own c (List.mem_append_left _ hc) b hb).2.2 h
    · exact (List.pairwise_append.1 s.sep).2.2 c hc d (List.mem_append_left _ hd) b hb hdb⟩
  sep := (List.pairwise_append.1 s.sep).1
  zone := fun b hb => ⟨by
    rcases hb with hb | ⟨d, hd, hdb⟩
    · exact (s.zone b hb).1
    · exact (s.own d (List.mem_append_right _ (List.mem_append_left _ hd)) b hdb).1, .inl hb⟩
theorem St.leave' {Hin Hout H1 : List Chunk} {S S' Z : Zone} {w w' : World} (s : St β (Hin ++ H1) S w) (s' : St ⟨w, blks Hin, Z⟩ Hout S' w') : St β (Hout ++ H1) S w' := by
  have sp := List.pairwise_append.1 s.sep
  have hin : ∀ b, blks Hin b → b < w.heap.size ∧ (β.M b ∨ β.w.heap.size ≤ b) ∧ ¬ S b := fun b ⟨c, hc, hb⟩ => s.own c (List.mem_append_left _ hc) b hb
  have h2 : ∀ c ∈ H1, ∀ b, c.blk = some b → b < w.heap.size ∧ (β.M b ∨ β.w.heap.size ≤ b) ∧ ¬ S b ∧ ¬ blks Hin b := fun c hc b hb => by
    obtain ⟨h1, h2, h3⟩ := s.own c (List.mem_append_right _ hc) b hb
    exact ⟨h1, h2, h3, fun ⟨d, hd, hdb⟩ => sp.2.2 d hd c hc b hdb hb⟩
  refine ⟨s.kept.trans s'.kept (fun i hi => (hin i hi).2.1), fun c hc => ?_, fun c hc b hb => ?_, List.pairwise_append.2 ⟨s'.sep, sp.2.1, fun c hc d hd b hb hdb => ?_⟩, fun b hb => ⟨Nat.lt_of_lt_of_le (s.zone b hb).1 s'.kept.size, (s.zone b hb).2⟩⟩
  · rcases List.mem_append.1 hc with hc | hc
    · exact s'.ok c hc
    · exact Chunk.ok_of (s.ok c (List.mem_append_right _ hc)) fun b hb => s'.kept.block b (h2 c hc b hb).1 (h2 c hc b hb).2.2.2
  · rcases List.mem_append.1 hc with hc | hc
    · obtain ⟨a1, a2, a3⟩ := s'.own c hc b hb
      refine ⟨a1, ?_, fun h => ?_⟩
      · rcases a2 with a2 | a2
        · exact (hin b a2).2.1
        · exact .inr (Nat.le_trans s.kept.size a2)
      · rcases a2 with a2 | a2
        · exact (hin b a2).2.2 h
        · exact absurd (s.zone b h).1 (Nat.not_lt.2 a2)
    · obtain ⟨a1, a2, a3, a4⟩ := h2 c hc b hb
      exact ⟨Nat.lt_of_lt_of_le a1 s'.kept.size, a2, a3⟩
  · obtain ⟨a1, _, _, a4⟩ := h2 d hd b hdb
    rcases (s'.own c hc b hb).2.1 with a2 | a2
    · exact a4 a2
    · exact absurd a1 (Nat.not_lt.2 a2)
/-- a call that reads what the facts and the chunks L say; of what is known behind it only what needs no memory is kept -/
theorem at_call_lend {ι : Type} {ops : Array Oper} {rest : List Oper} {o : Oper} {d : Nat} {f : FuncId} {ars : Array Operand} {ts : Array TypeId} {vs : List Value} {Hin H1 L H2 : List Chunk} {G Pre : List Fact} {val : ι → Value} {Hout : ι → List Chunk} {post : ι → List Fact}
    (hcf : ∀ (args : Array Value) (w : World), (callFunc f args).run P w = .ok (.enter f args) w) (hs : Spec P f vs Hin Pre val Hout post) (hw : want ops Γ o = some true) (ho : o.op = .call ⟨.value (.func f), ars, ts⟩) (hd : o.dst = some d) (hn : Nat.blt d n = true)
    (hv : Γ.evs ars.toList = some vs) (hH : Split H Hin H1) (hL : Split H1 L H2) (hG : Lends L G) (hF : HasAll (G ++ F) Pre) (ps : ι → Prop) (hp : ∀ x S w, All (post x) S w → ps x)
    (k : ∀ x, ps x → At β n ((d, val x) :: Γ) (Hout x ++ H1) F (wpList P ops Q rest)) : At β n Γ H F (wpList P ops Q (o :: rest)) :=
  at_step hw fun a w S f s hk => by
    unfold Oper.wp
    rw [run_call hcf ho f hv w, Oper.upon_enter]
    have s1 := s.perm hH.perm
    have s2 := s1.perm (hL.perm.append_left Hin)
    have hall : All (G ++ F) (fun b => S b ∨ blks L b) w := (hG _ w (fun c hc => s2.ok c (List.mem_append_right _ (List.mem_append_left _ hc))) (fun c hc b hb => .inr ⟨c, hc, hb⟩)).append (All.mono (fun _ h => .inl h) (fun _ _ => rfl) hk)
    refine (hs _ w s2.lend (hF.all _ w hall)).mono ?_
    rintro e w' ⟨x, S', rfl, s', k'⟩
    show wpList P ops Q rest (a.put o.dst (val x)) w'
    rw [hd]
    refine k x (hp x _ _ k') _ _ S (f.put (by simpa [Nat.blt_eq] using hn) _) (s1.leave' s') (All.mono (fun _ h => h) (fun b hb => s'.kept.block b (s.zone b hb).1 (fun ⟨c, hc, h⟩ => (s1.own c (List.mem_append_left _ hc) b h).2.2 hb)) hk)
/-- a contract of the older form -/
theorem spec_below {f : FuncId} {args : List Value} {Pre : List Fact} {v : Value} (h : ∀ S w, (∀ b, S b → b < w.heap.size) → All Pre S w → Calls P f args.toArray w fun e w' => e = .returned v ∧ Below w.heap.size w w') :
    Spec P f args [] Pre (fun _ : Unit => v) (fun _ => []) (fun _ => []) := fun S w s k => by
  refine (h S w (fun b hb => (s.zone b hb).1) k).mono ?_
  rintro e w' ⟨rfl, hb⟩
  exact ⟨(), S, rfl, ⟨Kept.of_below _ hb, fun c hc => by simp at hc, fun c hc => by simp at hc, List.Pairwise.nil, fun b hb' => ⟨Nat.lt_of_lt_of_le (s.zone b hb').1 hb.size, .inl hb'⟩⟩, fun g hg => by simp at hg⟩

/-! ### cuts -/
def Jn (β : Base) (n : Nat) (Δ : Env) (H : List Chunk) (F : List Fact) : Exit → Act → World → Prop := fun e a w => e = .normal ∧ ∃ S, Fits n Δ a ∧ St β H S w ∧ All F S w
theorem at_cut {c : Code} (Δ : Env) (H' : List Chunk) (F' : List Fact) (h1 : At β n Γ H F (c.wp P (Jn β n Δ H' F'))) (h2 : At β n Δ H' F' (Q .normal)) : At β n Γ H F (c.wp P Q) := fun a w S f s k =>
  Code.wp_mono (fun e a' w' ⟨he, S', f', s', k'⟩ => by subst he; exact h2 a' w' S' f' s' k') (h1 a w S f s k)
theorem at_joined {Δ : Env} {H' : List Chunk} {F' : List Fact} (hG : Γ.Sub Δ) (hH : Sel H H') (hF : HasAll F F') : At β n Γ H F (Jn β n Δ H' F' .normal) := fun _ w S f s k => ⟨rfl, S, f.sub hG, s.sel hH, hF.all S w k⟩
theorem at_int {d : Nat} {k : IntKind} {z z' : Int} (hz : z = z') (h : At β n ((d, .int k z') :: Γ) H F K) : At β n ((d, .int k z) :: Γ) H F K := by rw [hz]; exact h
theorem at_val {d : Nat} {v v' : Value} (hz : v = v') (h : At β n ((d, v') :: Γ) H F K) : At β n ((d, v) :: Γ) H F K := by rw [hz]; exact h
theorem at_case {d : Nat} {t : Bool} (ht : t = true → At β n ((d, .bool true) :: Γ) H F K) (hf : t = false → At β n ((d, .bool false) :: Γ) H F K) : At β n ((d, .bool t) :: Γ) H F K := by
  cases t
  · exact hf rfl
  · exact ht rfl
theorem wrapN {z : Int} {k : Nat} (h : z = k) (hk : k < 9223372036854775808) : IntKind.i64.wrap z = k := by
  subst h
  simp only [IntKind.wrap, IntKind.signed, IntKind.bits]
  simp
  omega
theorem wrapZ {z : Int} (h1 : -9223372036854775808 ≤ z) (h2 : z < 9223372036854775808) : IntKind.i64.wrap z = z := by
  simp only [IntKind.wrap, IntKind.signed, IntKind.bits]
  simp
  omega

/-! ### values built of parts, variables in memory -/
def Env.parts (Γ : Env) : List (Nat × Operand) → Option (List (Nat × Value))
  | [] => some []
  | (i, x) :: r => match Γ.ev x, Γ.parts r with
    | some v, some vs => some ((i, v) :: vs)
    | _, _ => none
theorem Fits.parts {a : Act} (h : Fits n Γ a) : ∀ {ps : List (Nat × Operand)} {vs : List (Nat × Value)}, Γ.parts ps = some vs → ps.map (fun p => (p.1, a.eval p.2)) = vs
  | [], vs, hx => by simp [Env.parts] at hx; simp [hx]
  | (i, x) :: r, vs, hx => by
    unfold Env.parts at hx
    cases hv : Γ.ev x with
    | none => simp [hv] at hx
    | some v =>
      cases hr : Γ.parts r with
      | none => simp [hv, hr] at hx
      | some us =>
        simp [hv, hr] at hx
        subst hx
        simp [h.ev hv, h.parts hr]
theorem sti_build {o : Oper} {t : TypeId} {ps : Array (Nat × Operand)} {vs : List (Nat × Value)} {cs : Array Value} (ho : o.op = .build t ps) (hv : Γ.parts ps.toList = some vs) (hb : P.built t vs = some cs) : Sti P β n Γ H F o (.agg cs) := fun a w S f s k => by
  have hm := f.parts hv
  have : (ps.map fun (i, x) => (i, a.eval x)).toList = vs := by rw [Array.toList_map]; exact hm
  unfold execOp
  simp only [ho]
  rw [Sem.run_bind, run_build w t _ cs (by rw [this]; exact hb)]
  rfl
theorem at_alloc {ops : Array Oper} {rest : List Oper} {o : Oper} {d : Nat} {t : TypeId} {z : Value} {cs : List Value} (hw : want ops Γ o = some true) (ho : o.op = .alloc t) (hd : o.dst = some d) (hn : Nat.blt d n = true)
    (hz : (P.info? t).bind (·.zero) = some z) (hc : z.cells = cs.toArray) (k : ∀ b, At β n ((d, .pointer (some ⟨b, 0, none⟩)) :: Γ) (.obj b (.cells cs.toArray t) :: H) F (wpList P ops Q rest)) : At β n Γ H F (wpList P ops Q (o :: rest)) :=
  at_step hw fun a w S f s hk => by
    have hr : (execOp a.eval o).run P w = .ok (.value (.pointer (some ⟨w.heap.size, 0, none⟩))) (w.alloc (.cells cs.toArray t)) := by
      cases hi : P.info? t with
      | none => simp [hi] at hz
      | some i =>
        simp [hi] at hz
        have hzv : (zeroValue t).run P w = .ok z w := by simp [zeroValue, typeInfo, hi, hz]
        unfold execOp
        simp only [ho, Instr.alloc, Sem.run_bind, hzv, Result.andThen_ok, newVar, newRow, hc]
        rfl
    unfold Oper.wp
    rw [hr, Oper.upon_value, hd]
    exact k _ _ _ S (f.put (by simpa [Nat.blt_eq] using hn) _) (s.alloc _) (All.alloc s hk _)
theorem reads_obj {b : Nat} {t : TypeId} {xs : List α} {H' : List Chunk} {cs : List Value} (hH : Take H (.obj b (.cells cs.toArray t)) H') (hcs : cs = E.all xs) : Reads β H F E (some ⟨b, 0, none⟩) xs := fun w S s _ i x hi => by
  have h : w.heap[b]? = some (.cells cs.toArray t) := s.ok _ hH.mem
  refine ⟨⟨b, 0, rfl⟩, fun j u hj => ?_⟩
  show w.cell? ⟨b, 0 + i * E.size + j, none⟩ = some u
  unfold World.cell?
  rw [h, hcs]
  have := E.all_get hi hj
  simpa using this
/-- a place in an array that lies in memory -/
theorem sti_index_arr (hT : TabOk P T) {o : Oper} {t e b off m k : Nat} {x i : Operand} {kk : IntKind} {z : Int} {sz : Nat} {ei : TI} (ho : o.op = .indexAddr t x i) (hx : Γ.ev x = some (.pointer (some ⟨b, off, none⟩))) (hi : Γ.ev i = some (.int kk z))
    (ht : T.get t = some ⟨.array m e, sz⟩) (he : T.get e = some ei) (hz : z = (k : Nat)) (hk : k < m) : Sti P β n Γ H F o (.pointer (some ⟨b, off + k * ei.size, none⟩)) := fun a w S f s _ => by
  subst hz
  have ha : (⟨b, off, none⟩ : Addr).add (k * ei.size) = ⟨b, off + k * ei.size, none⟩ := Addr.add_mid _ _ _
  have h0 : (0 : Int) ≤ (k : Int) ∧ (k : Int) < (m : Int) := ⟨by omega, by omega⟩
  unfold execOp
  simp only [ho, f.ev hx, f.ev hi, Instr.indexAt, Instr.sureAddr, asIntOf, Sem.run_bind, Sem.run_pure, Result.andThen_ok, hT.array ht, h0, and_self, if_true, hT.size he, Int.toNat_natCast, ha]
end

end Go.Proofs.YtngkedmndhmjcaaGreatDoor
