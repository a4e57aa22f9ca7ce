/- The engine: parts of slices: in memory that stays, and rows of the call's own cut short; boxes handed over as memory that stays; values of functions against nil. -/
import Derived.Test.YtngkedmndhmjcaaGreatDoorFun
import Derived.Laws.Slices
namespace Go.Proofs.YtngkedmndhmjcaaGreatDoor
open Go.RowKit

section
variable {P : Program} {β : Base} {n : Nat} {Γ : Env} {H : List Chunk} {F : List Fact} {Q : Exit → Act → World → Prop} {K : Act → World → Prop} {T : Tab} {α : Type} {E : Flat α}

theorem elem_of {t e : Nat} (hu : P.underlying t = some (.slice e)) : P.elem t = e := by simp [Program.elem, hu]
theorem run_cutTo (hT : TabOk P T) {t e sz : Nat} {ei : TI} (ht : T.get t = some ⟨.slice e, sz⟩) (he : T.get e = some ei) {A : Option Addr} {l c k : Nat} (hk : k ≤ c) (kk : IntKind) (w : World) : (Instr.sliceAt t (.slice A l c) none (some (.int kk (k : Nat))) none).run P w = .ok (.slice A k c) w := by
  obtain ⟨d, hu, hd⟩ := hT.any ht
  cases d <;> simp [TD.of] at hd
  subst hd
  have hel := elem_of hu
  rw [run_sliceAt_slice w t _ _ _ _ (by rw [hel]; exact hu), run_slice_h w t A l c (by rw [hel]; exact hu) kk (k : Int) (by omega) (by omega), hel, hT.size he]
  simp only [Result.andThen_ok, sliced, Int.toNat_natCast, Nat.zero_mul, Nat.sub_zero]
  congr 2
  split
  · rfl
  · cases A <;> simp [Addr.add]
theorem run_cutFrom (hT : TabOk P T) {t e sz : Nat} {ei : TI} (ht : T.get t = some ⟨.slice e, sz⟩) (he : T.get e = some ei) {A : Option Addr} {l c k : Nat} (hk : k ≤ l) (kk : IntKind) (w : World) : (Instr.sliceAt t (.slice A l c) (some (.int kk (k : Nat))) none none).run P w = .ok (.slice (cutA A k ei.size c) (l - k) (c - k)) w := by
  obtain ⟨d, hu, hd⟩ := hT.any ht
  cases d <;> simp [TD.of] at hd
  subst hd
  have hel := elem_of hu
  rw [run_sliceAt_slice w t _ _ _ _ (by rw [hel]; exact hu), run_slice_l w t A l c (by rw [hel]; exact hu) kk (k : Int) (by omega) (by omega), hel, hT.size he]
  simp only [Result.andThen_ok, sliced, Int.toNat_natCast, cutA]
/-- x[:k] of a row of the call's own: the row is cut short -/
theorem at_trunc {ops : Array Oper} {rest : List Oper} {o : Oper} (hT : TabOk P T) {d t e sz k m cap : Nat} {ei : TI} {x i : Operand} {kk : IntKind} {z : Int} {A : Option Addr} {xs : List α} {H' : List Chunk} (hH : Take H (E.row (.slice A m cap) e xs) H') (hw : want ops Γ o = some true) (ho : o.op = .slice t x none (some i) none) (hd : o.dst = some d) (hn : Nat.blt d n = true)
    (hx : Γ.ev x = some (.slice A m cap)) (hi : Γ.ev i = some (.int kk z)) (ht : T.get t = some ⟨.slice e, sz⟩) (he : T.get e = some ei) (hz : z = (k : Nat)) (hk : k ≤ xs.length)
    (K : At β n ((d, .slice A (xs.take k).length cap) :: Γ) (E.row (.slice A (xs.take k).length cap) e (xs.take k) :: H') F (wpList P ops Q rest)) : At β n Γ H F (wpList P ops Q (o :: rest)) :=
  at_step hw fun a w S f s hF => by
    subst hz
    have hown : w.ownsRow 0 e E.size (.slice A m cap) xs.length (E.all xs) := s.ok _ hH.mem
    have hkc : k ≤ cap ∧ (xs.take k).length = k ∧ w.ownsRow 0 e E.size (.slice A (xs.take k).length cap) (xs.take k).length (E.all (xs.take k)) := by
      have hl : (xs.take k).length = k := by simp; omega
      have hall : E.all (xs.take k) = (E.all xs).take (k * E.size) := by
        have := E.all_append (xs.take k) (xs.drop k)
        rw [List.take_append_drop] at this
        rw [this, List.take_left' (by rw [E.all_length, hl])]
      rcases hown.2 with ⟨e1, e0⟩ | ⟨g, cap', cur, e1, h1, h2, h3, h4, h5, h6⟩
      · injection e1 with e1 e2 e3
        subst e1 e3
        have : xs = [] := List.eq_nil_of_length_eq_zero e0
        subst this
        have hk0 : k = 0 := by simpa using hk
        subst hk0
        exact ⟨Nat.le_refl _, hl, ⟨by simp [Flat.all], .inl ⟨rfl, rfl⟩⟩⟩
      · injection e1 with e1 e2 e3
        subst e1 e3
        refine ⟨by omega, hl, ⟨by rw [E.all_length], .inr ⟨g, cap, cur, rfl, h1, h2, by omega, h4, h5, ?_⟩⟩⟩
        rw [hall, hl, ← h6, List.take_take]
        congr 1
        exact (Nat.min_eq_left (Nat.mul_le_mul_right _ hk)).symm
    have hr : (execOp a.eval o).run P w = .ok (.value (.slice A (xs.take k).length cap)) w := by
      unfold execOp
      simp only [ho, f.ev hx, Option.map_some, Option.map_none, f.ev hi]
      rw [Sem.run_bind, run_cutTo hT ht he hkc.1, hkc.2.1]
      rfl
    unfold Oper.wp
    rw [hr, Oper.upon_value, hd]
    have s2 := s.perm hH.perm
    have s3 := s2.swap_row (v' := .slice A (xs.take k).length cap) (w' := w) (Kept.refl _ _) (.inl (by cases A <;> rfl)) hkc.2.2
    exact K _ _ S (f.put (by simpa [Nat.blt_eq] using hn) _) s3 hF
/-- a box is left as it is from now on -/
theorem at_freeze_obj {b : Nat} {cs : List Value} {t : TypeId} {H' : List Chunk} (hH : Take H (.obj b (.cells cs.toArray t)) H') (h : At β n Γ H' (Fact.cells b 0 cs :: F) K) : At β n Γ H F K := fun a w S f s k => by
  have s2 := s.perm hH.perm
  have hok : w.heap[b]? = some (.cells cs.toArray t) := s2.ok _ (List.mem_cons_self ..)
  have hsep := List.pairwise_cons.1 s2.sep
  have hown := s2.own _ (List.mem_cons_self ..)
  have hmono : All F (fun x => S x ∨ x = b) w := All.mono (fun _ h => .inl h) (fun _ _ => rfl) k
  refine h a w (fun x => S x ∨ x = b) f ⟨s2.kept, fun c hc => s2.ok c (List.mem_cons_of_mem _ hc), fun c hc x hx => ?_, hsep.2, fun x hx => ?_⟩ (All.cons ?_ hmono)
  · obtain ⟨h1, h2, h3⟩ := s2.own c (List.mem_cons_of_mem _ hc) x hx
    refine ⟨h1, h2, fun h => ?_⟩
    rcases h with h | h
    · exact h3 h
    · subst h
      exact hsep.1 c hc _ rfl hx
  · rcases hx with hx | hx
    · exact s2.zone x hx
    · subst hx
      obtain ⟨h1, h2, _⟩ := hown _ rfl
      exact ⟨h1, .inr h2⟩
  · refine ⟨.inr rfl, fun j u hj => ?_⟩
    unfold World.cell?
    rw [hok]
    simpa using hj
/-- f != nil -/
theorem sti_fn {o : Oper} {x : Operand} {t tt : TypeId} {ps rs : Array TypeId} {vr : Bool} (hu : P.underlying t = some (.func ps rs vr)) {fn : Fn} {a b : Array Value} (ho : o.op = .binOp .neq t x (.const .nilFunc) tt) (hx : Γ.ev x = some (.func fn a b)) : Sti P β n Γ H F o (.bool true) := fun c w S f s k => by
  unfold execOp
  have e : c.eval (.const .nilFunc) = .nilFunc := rfl
  have he : ∀ d, (Op.equalIn (d + 1) t (.func fn a b) .nilFunc).run P w = .ok false w := fun d => by simp [Op.equalIn, run_underlying hu]
  have hb : (binOp .neq t (.func fn a b) .nilFunc).run P w = .ok (.bool true) w := by
    simp only [binOp]
    rw [Sem.run_bind, show Op.equal t (.func fn a b) .nilFunc = Op.equalIn 10000 t (.func fn a b) .nilFunc from rfl, he 9999]
    rfl
  have hg : (eqGuard .neq t x (.const .nilFunc) (.func fn a b) .nilFunc).run P w = .ok () w := rfl
  simp only [ho, f.ev hx, e]
  rw [Sem.run_bind, Sem.run_bind, hg, Result.andThen_ok, hb]
  rfl
theorem sti_nofn {o : Oper} {x : Operand} {t tt : TypeId} {ps rs : Array TypeId} {vr : Bool} (hu : P.underlying t = some (.func ps rs vr)) (ho : o.op = .binOp .neq t x (.const .nilFunc) tt) (hx : Γ.ev x = some .nilFunc) : Sti P β n Γ H F o (.bool false) := fun c w S f s k => by
  unfold execOp
  have e : c.eval (.const .nilFunc) = .nilFunc := rfl
  have he : ∀ d, (Op.equalIn (d + 1) t .nilFunc .nilFunc).run P w = .ok true w := fun d => by simp [Op.equalIn, run_underlying hu]
  have hb : (binOp .neq t .nilFunc .nilFunc).run P w = .ok (.bool false) w := by
    simp only [binOp]
    rw [Sem.run_bind, show Op.equal t .nilFunc .nilFunc = Op.equalIn 10000 t .nilFunc .nilFunc from rfl, he 9999]
    rfl
  have hg : (eqGuard .neq t x (.const .nilFunc) .nilFunc .nilFunc).run P w = .ok () w := rfl
  simp only [ho, f.ev hx, e]
  rw [Sem.run_bind, Sem.run_bind, hg, Result.andThen_ok, hb]
  rfl
theorem Has.cons {f g : Fact} {F : List Fact} (h : Has F g) : Has (f :: F) g := fun S w k => h S w fun x hx => k x (List.mem_cons_of_mem _ hx)
theorem Has.each_nil {α : Type} {g : α → Fact} {F : List Fact} : Has F (Fact.each [] g) := fun _ _ _ x hx => by simp at hx
theorem Has.each_cons {α : Type} {g : α → Fact} {F : List Fact} {x : α} {l : List α} (hx : Has F (g x)) (hl : Has F (Fact.each l g)) : Has F (Fact.each (x :: l) g) := fun S w k y hy => by
  rcases List.mem_cons.1 hy with rfl | hy
  · exact hx S w k
  · exact hl S w k y hy
theorem Has.each_tail {α : Type} {g : α → Fact} {F : List Fact} {x : α} {l : List α} (h : Has F (Fact.each (x :: l) g)) : Has F (Fact.each l g) := fun S w k y hy => h S w k y (List.mem_cons_of_mem _ hy)
theorem Has.each_head {α : Type} {g : α → Fact} {F : List Fact} {x : α} {l : List α} (h : Has F (Fact.each (x :: l) g)) : Has F (g x) := fun S w k => h S w k x (List.mem_cons_self ..)
theorem Has.each_snoc {α : Type} {g : α → Fact} {F : List Fact} {x : α} {l : List α} (hl : Has F (Fact.each l g)) (hx : Has F (g x)) : Has F (Fact.each (l ++ [x]) g) := fun S w k y hy => by
  rcases List.mem_append.1 hy with hy | hy
  · exact hl S w k y hy
  · rw [List.mem_singleton.1 hy]
    exact hx S w k
/-- x[:k] of a slice in memory that stays -/
theorem sti_cutTo (hT : TabOk P T) {o : Oper} {t e sz k l cap : Nat} {ei : TI} {x i : Operand} {kk : IntKind} {z : Int} {A : Option Addr} (ho : o.op = .slice t x none (some i) none) (hx : Γ.ev x = some (.slice A l cap)) (hi : Γ.ev i = some (.int kk z))
    (ht : T.get t = some ⟨.slice e, sz⟩) (he : T.get e = some ei) (hz : z = (k : Nat)) (hk : k ≤ cap) : Sti P β n Γ H F o (.slice A k cap) := fun a w S f s hF => by
  subst hz
  unfold execOp
  simp only [ho, f.ev hx, Option.map_some, Option.map_none, f.ev hi]
  rw [Sem.run_bind, run_cutTo hT ht he hk]
  rfl
/-- x[k:] of a slice in memory that stays -/
theorem sti_cutFrom (hT : TabOk P T) {o : Oper} {t e sz k l cap : Nat} {ei : TI} {x i : Operand} {kk : IntKind} {z : Int} {A : Option Addr} (ho : o.op = .slice t x (some i) none none) (hx : Γ.ev x = some (.slice A l cap)) (hi : Γ.ev i = some (.int kk z))
    (ht : T.get t = some ⟨.slice e, sz⟩) (he : T.get e = some ei) (hz : z = (k : Nat)) (hk : k ≤ l) : Sti P β n Γ H F o (.slice (cutA A k ei.size cap) (l - k) (cap - k)) := fun a w S f s hF => by
  subst hz
  unfold execOp
  simp only [ho, f.ev hx, Option.map_some, Option.map_none, f.ev hi]
  rw [Sem.run_bind, run_cutFrom hT ht he hk]
  rfl
theorem has_take {A : Option Addr} {l c k : Nat} {xs : List α} (h : Has F (E.sl (.slice A l c) xs)) (hk : k ≤ xs.length) : Has F (E.sl (.slice A k c) (xs.take k)) := fun S w q => by
  obtain ⟨A', c', e, h⟩ := h S w q
  injection e with e1 e2 e3
  subst e1 e3
  refine ⟨A, c, by rw [List.length_take, Nat.min_eq_left hk], fun j x hj => ?_⟩
  rw [List.getElem?_take] at hj
  split at hj
  · exact h j x hj
  · cases hj
theorem has_drop {A : Option Addr} {l c k : Nat} {xs : List α} (h : Has F (E.sl (.slice A l c) xs)) (hc : l ≤ c) (hk : k ≤ xs.length) : Has F (E.sl (.slice (cutA A k E.size c) (l - k) (c - k)) (xs.drop k)) := fun S w q => by
  obtain ⟨A', c', e, h⟩ := h S w q
  injection e with e1 e2 e3
  subst e1 e3
  refine ⟨cutA A k E.size c, c - k, by rw [List.length_drop, e2], fun j x hj => ?_⟩
  rw [List.getElem?_drop] at hj
  obtain ⟨b, o, cs, q1, q2, q3, q4⟩ := h _ x hj
  have hlt := (List.getElem?_eq_some_iff.1 hj).1
  refine ⟨b, o + k * E.size, cs, ?_, q2, fun i u hi => ?_, q4⟩
  · unfold cutA
    rw [if_neg (by omega), q1]
    show some ((⟨b, o, none⟩ : Addr).add (k * E.size)) = _
    rw [Addr.add_mid]
  · have := q3 i u hi
    have e : o + k * E.size + j * (Enc.flat E.size E.cells).size + i = o + (k + j) * (Enc.flat E.size E.cells).size + i := by
      show o + k * E.size + j * E.size + i = o + (k + j) * E.size + i
      rw [Nat.add_mul]
      omega
    rw [e]
    exact this
/-- a row's capacity -/
theorem at_cap {A : Option Addr} {t : TypeId} {m cap : Nat} {xs : List α} {H' : List Chunk} (hH : Take H (E.row (.slice A m cap) t xs) H') (h : xs.length ≤ cap → At β n Γ H F K) : At β n Γ H F K := fun a w S f s k => by
  have hown : w.ownsRow 0 t E.size (.slice A m cap) xs.length (E.all xs) := s.ok _ hH.mem
  refine h ?_ a w S f s k
  rcases hown.2 with ⟨_, e0⟩ | ⟨g, cap', cur, e1, h1, h2, h3, _⟩
  · omega
  · injection e1 with e1 e2 e3
    subst e3
    omega
end
end Go.Proofs.YtngkedmndhmjcaaGreatDoor
