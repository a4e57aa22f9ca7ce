/- The engine: regions that draw their order, of any kind: what looks at memory alone goes first, what changes it comes in its own order. -/
import Derived.Test.YtngkedmndhmjcaaGreatDoorRow
namespace Go.Proofs.YtngkedmndhmjcaaGreatDoor
open Go.RowKit

section
variable {P : Program} {ops : Array Oper} {md : Region.Mode} {C : World → Prop} {Q : Exit → Act → World → Prop}

/-- nothing but the normal way on -/
def Nm (K : Act → World → Prop) : Exit → Act → World → Prop := fun e a w => e = .normal ∧ K a w
theorem Nm.out {K : Act → World → Prop} (h : LetsOut (Nm K)) : False := by
  obtain ⟨_, _, h, _⟩ := h
  cases h

/-- operation i comes up -/
def fOp (P : Program) (ops : Array Oper) (i : Nat) (K : Act → World → Prop) (a : Act) (w : World) : Prop := ∀ o, ops[i]? = some o → wpList P ops (Nm K) [o] a w
theorem wpNm {o : Oper} {K : Act → World → Prop} {a : Act} {w : World} (h : wpList P ops (Nm K) [o] a w) : if Region.wanted o (yielded ops a.tmps) then o.wp P a w K (Nm K) else K (a.put o.dst undef) w := by
  unfold wpList at h
  split
  · rename_i hw
    simp only [hw, if_true] at h
    rcases h with h | ⟨_, h⟩
    · exact Oper.wp_mono (fun a w h => h.2) h
    · exact (Nm.out h).elim
  · rename_i hw
    simp only [hw] at h
    exact h.2
theorem wpNm_of {o : Oper} {K : Act → World → Prop} {a : Act} {w : World} (h : if Region.wanted o (yielded ops a.tmps) then o.wp P a w K (Nm K) else K (a.put o.dst undef) w) : wpList P ops (Nm K) [o] a w := by
  unfold wpList
  split
  · rename_i hw
    simp only [hw, if_true] at h
    exact .inl (Oper.wp_mono (fun a w h => ⟨rfl, h⟩) h)
  · rename_i hw
    simp only [hw] at h
    exact ⟨rfl, h⟩
/-- from one state to another one, in which the operation sees the same -/
theorem wp_frame {o : Oper} {a a' : Act} {w : World} {K K' : Act → World → Prop} {Q' : Exit → Act → World → Prop} (he : execOp a'.eval o = execOp a.eval o) (hK : ∀ u w', K (a.put o.dst u) w' → K' (a'.put o.dst u) w')
    (hD : ∀ d w', K ({ a with defers := d :: a.defers }.put o.dst undef) w' → K' ({ a' with defers := d :: a'.defers }.put o.dst undef) w') (h : o.wp P a w K (Nm K)) : o.wp P a' w K' Q' := by
  unfold Oper.wp at *
  rw [he]
  generalize (execOp a.eval o).run P w = r at *
  cases r with
  | ok n w' =>
    cases n <;> simp only [Oper.upon] at h ⊢
    case value u => exact hK _ _ h
    case skip => exact hK _ _ h
    case defer d => exact hD _ _ h
    case enter f args =>
      refine h.mono fun e w'' he => ?_
      cases e with
      | returned v => exact hK _ _ he
      | panicked c => exact absurd he.1 (by simp)
      | outgrown => exact (Nm.out he).elim
    case row row args => exact h.mono fun _ _ he => hK _ _ he
  | halt x w' =>
    cases x <;> simp only [Oper.upon] at h
    exact absurd h.1 (by simp)

/-- whatever order is picked; the world stays in the class -/
def wpAnyC (P : Program) (md : Region.Mode) (ops : Array Oper) (C : World → Prop) (Q : Exit → Act → World → Prop) : Nat → Array Bool → Act → World → Prop
  | 0, listed, a, w => C w ∧ Region.ready md ops listed = [] ∧ Q .normal a w
  | fuel + 1, listed, a, w => C w ∧ (Region.ready md ops listed = [] → Q .normal a w) ∧ ∀ i ∈ Region.ready md ops listed, fOp P ops i (wpAnyC P md ops C Q fuel (listed.setIfInBounds i true)) a w
theorem wpAnyC.cls : ∀ {fuel : Nat} {listed : Array Bool} {a : Act} {w : World}, wpAnyC P md ops C Q fuel listed a w → C w
  | 0, _, _, _, h => h.1
  | _ + 1, _, _, _, h => h.1
theorem wpAny_of_C : ∀ (fuel : Nat) (listed : Array Bool) (a : Act) (w : World), wpAnyC P md ops C Q fuel listed a w → wpAny P md ops Q fuel listed a w
  | 0, _, _, _, h => h.2
  | fuel + 1, listed, a, w, h => by
    refine ⟨h.2.1, fun i hi => ?_⟩
    have hf := h.2.2 i hi
    unfold wpOp
    split
    · rename_i ho
      obtain ⟨_, oi, hoi, _⟩ := mem_ready.1 hi
      rw [ho] at hoi
      cases hoi
    · rename_i o ho
      have h1 := wpNm (hf o ho)
      split
      · rename_i hw
        simp only [hw, if_true] at h1
        exact .inl (wp_frame rfl (fun u w' h' => wpAny_of_C fuel _ _ _ h') (fun d w' h' => wpAny_of_C fuel _ _ _ h') h1)
      · rename_i hw
        simp only [hw] at h1
        exact wpAny_of_C fuel _ _ _ h1

/-- in every world of the class the operation yields v and leaves that world -/
def Fl (P : Program) (ops : Array Oper) (C : World → Prop) (o : Oper) (v : Value) (a : Act) : Prop :=
  (Region.wanted o (yielded ops a.tmps) = true ∧ ∀ w, C w → (execOp a.eval o).run P w = .ok (.value v) w) ∨ (Region.wanted o (yielded ops a.tmps) = false ∧ v = undef)
theorem Fl.of_same {o : Oper} {v : Value} {a a' : Act} (hy : Fl P ops C o v a) (he : execOp a'.eval o = execOp a.eval o)
    (hw : Region.wanted o (yielded ops a'.tmps) = Region.wanted o (yielded ops a.tmps)) : Fl P ops C o v a' := by
  unfold Fl at *
  rw [he, hw]
  exact hy
theorem Fl.fOp {i : Nat} {o : Oper} {v : Value} {a : Act} {w : World} (hi : ops[i]? = some o) (hy : Fl P ops C o v a) (hC : C w) {K : Act → World → Prop} (h : K (a.put o.dst v) w) : fOp P ops i K a w := fun o' ho' => by
  have : o' = o := Option.some.inj (ho'.symm.trans hi)
  subst this
  apply wpNm_of
  rcases hy with ⟨hw, hv⟩ | ⟨hw, rfl⟩
  · simp only [hw, if_true, Oper.wp, hv w hC, Oper.upon]; exact h
  · simp only [hw, Bool.false_eq_true, if_false]; exact h
theorem fOp_put {j : Nat} {oi oj : Oper} {v : Value} (hj : ops[j]? = some oj) (hap : oi.apart ops oj = true)
    (hsi : ∀ cs b, oi.op ≠ .select cs b) (hsj : ∀ cs b, oj.op ≠ .select cs b) {K : Act → World → Prop} {a : Act} {w : World}
    (hy : Fl P ops C oi v a) (h : fOp P ops j K (a.put oi.dst v) w) : fOp P ops j (fun a' w' => Fl P ops C oi v a' ∧ K (a'.put oi.dst v) w') a w := fun o ho => by
  have : o = oj := Option.some.inj (ho.symm.trans hj)
  subst this
  obtain ⟨h1, h2, h3⟩ := Oper.apart_spec hap
  have keep : ∀ (a : Act), Fl P ops C oi v a → ∀ u, Fl P ops C oi v (a.put o.dst u) := fun a hy u =>
    hy.of_same (execOp_put oi hsi a o.dst u h3) (wanted_put oi a o.dst u h3)
  have h := wpNm (h o ho)
  rw [wanted_put o a oi.dst v h1] at h
  apply wpNm_of
  split
  · rename_i hw
    simp only [hw, if_true] at h
    refine wp_frame (execOp_put o hsj a oi.dst v h1).symm (fun u w' h' => ⟨keep a hy u, by rw [← Act.put_comm a v u h2]; exact h'⟩) (fun d w' h' => ?_) h
    refine ⟨keep { a with defers := d :: a.defers } hy undef, ?_⟩
    rw [← Act.put_comm { a with defers := d :: a.defers } v undef h2]
    have : ({ a.put oi.dst v with defers := d :: (a.put oi.dst v).defers } : Act) = ({ a with defers := d :: a.defers } : Act).put oi.dst v := by
      cases oi.dst <;> rfl
    rw [← this]
    exact h'
  · rename_i hw
    simp only [hw] at h
    exact ⟨keep a hy _, by rw [← Act.put_comm a v undef h2]; exact h⟩
theorem fOp_mono {i : Nat} {K K' : Act → World → Prop} {a : Act} {w : World} (hk : ∀ a w, K a w → K' a w) (h : fOp P ops i K a w) : fOp P ops i K' a w := fun o ho => by
  have h := wpNm (h o ho)
  apply wpNm_of
  split
  · rename_i hw
    simp only [hw, if_true] at h
    exact wp_frame rfl (fun u w' h' => hk _ _ h') (fun d w' h' => hk _ _ h') h
  · rename_i hw
    simp only [hw] at h
    exact hk _ _ h

theorem wpAnyC_first {i : Nat} {oi : Oper} {v : Value} (hi : ops[i]? = some oi) (hsel : ∀ (j : Nat) (o : Oper) cs b, ops[j]? = some o → o.op ≠ .select cs b) :
    ∀ (fuel : Nat) (listed : Array Bool) (a : Act) (w : World),
      (∀ j oj, ops[j]? = some oj → j ≠ i → listed.getD j true = false → (∀ e ∈ oj.after, Region.binds md e = true → e.on ≠ i) → oi.apart ops oj = true) →
      i ∈ Region.ready md ops listed → Fl P ops C oi v a →
      wpAnyC P md ops C Q fuel (listed.setIfInBounds i true) (a.put oi.dst v) w → wpAnyC P md ops C Q (fuel + 1) listed a w := by
  intro fuel
  induction fuel with
  | zero =>
    intro listed a w _ hr hy H
    refine ⟨H.1, fun h => (by rw [h] at hr; cases hr), fun j hj => ?_⟩
    by_cases hji : j = i
    · subst hji; exact hy.fOp hi H.1 H
    · have := ready_mono hj hji
      rw [H.2.1] at this
      cases this
  | succ fuel ih =>
    intro listed a w hfree hr hy H
    refine ⟨H.1, fun h => (by rw [h] at hr; cases hr), fun j hj => ?_⟩
    by_cases hji : j = i
    · subst hji; exact hy.fOp hi H.1 H
    · have h1 := H.2.2 j (ready_mono hj hji)
      obtain ⟨hjun, oj, hoj, hall⟩ := mem_ready.1 hj
      have hnot : ∀ e ∈ oj.after, Region.binds md e = true → e.on ≠ i := fun e he hb heq => by
        have h1 := hall e he hb
        have h0 := (mem_ready.1 hr).1
        rw [heq] at h1
        rcases Nat.lt_or_ge i listed.size with h' | h'
        · simp [h'] at h0 h1; rw [h0] at h1; cases h1
        · simp [Array.getElem?_eq_none h'] at h1
      have h2 := fOp_put hoj (hfree j oj hoj hji hjun hnot) (fun cs b => hsel i oi cs b hi) (fun cs b => hsel j oj cs b hoj) hy h1
      have hfree' : ∀ k ok, ops[k]? = some ok → k ≠ i → (listed.setIfInBounds j true).getD k true = false →
          (∀ e ∈ ok.after, Region.binds md e = true → e.on ≠ i) → oi.apart ops ok = true := fun k ok hk hki hun hno => by
        refine hfree k ok hk hki ?_ hno
        by_cases hjk : j = k
        · subst hjk; exact hjun
        · rw [getD_set_ne true hjk] at hun; exact hun
      refine fOp_mono (fun a' w' h3 => ih (listed.setIfInBounds j true) a' w' hfree' (ready_mono hr (Ne.symm hji)) h3.1 ?_) h2
      rw [Array.setIfInBounds_comm _ _ hji]
      exact h3.2

/-- an order of one's own: (true, k): operation k looks alone; (false, k): it is the only one that may come -/
def wpMix (P : Program) (ops : Array Oper) (C : World → Prop) (Q : Exit → Act → World → Prop) : List (Bool × Nat) → Act → World → Prop
  | [], a, w => Q .normal a w
  | (true, k) :: r, a, w => ∃ o v, ops[k]? = some o ∧ Fl P ops C o v a ∧ wpMix P ops C Q r (a.put o.dst v) w
  | (false, k) :: r, a, w => fOp P ops k (fun a w => C w ∧ wpMix P ops C Q r a w) a w
def mixB (md : Region.Mode) (ops : Array Oper) : List (Bool × Nat) → Array Bool → Bool
  | [], listed => (Region.ready md ops listed).isEmpty
  | (true, k) :: r, listed => (Region.ready md ops listed).contains k && Region.free md ops listed k && mixB md ops r (listed.setIfInBounds k true)
  | (false, k) :: r, listed => (Region.ready md ops listed == [k]) && mixB md ops r (listed.setIfInBounds k true)
theorem wpAnyC_mix (hs : Region.noSelect ops = true) : ∀ (l : List (Bool × Nat)) (listed : Array Bool) (a : Act) (w : World), mixB md ops l listed = true → C w → wpMix P ops C Q l a w → wpAnyC P md ops C Q l.length listed a w
  | [], listed, a, w, hB, hC, h => ⟨hC, by simpa [mixB] using hB, h⟩
  | (true, k) :: r, listed, a, w, hB, hC, h => by
    simp only [mixB, Bool.and_eq_true] at hB
    obtain ⟨o, v, ho, hy, hK⟩ := h
    exact wpAnyC_first ho (Region.noSelect_spec hs) r.length listed a w (Region.free_spec ho hB.1.2) (by simpa using hB.1.1) hy (wpAnyC_mix hs r _ _ _ hB.2 hC hK)
  | (false, k) :: r, listed, a, w, hB, hC, h => by
    simp only [mixB, Bool.and_eq_true, beq_iff_eq] at hB
    refine ⟨hC, fun h0 => (by rw [hB.1] at h0; cases h0), fun i hi => ?_⟩
    rw [hB.1] at hi
    have : i = k := by simpa using hi
    subst this
    exact fOp_mono (fun a' w' h' => wpAnyC_mix hs r _ _ _ hB.2 h'.1 h'.2) h
def mixOk (l : List (Bool × Nat)) (ops : Array Oper) : Bool := Region.noSelect ops && Nat.beq l.length ops.size && mixB .any ops l (Array.replicate ops.size false)
end

section
variable {P : Program} {β : Base} {n : Nat} {Γ : Env} {H : List Chunk} {F : List Fact} {Q : Exit → Act → World → Prop} {K : Act → World → Prop} {Hk : List Chunk} {F0 : List Fact} {ops : Array Oper}

theorem StF.sel (hH : Sel H Hk) (hF : HasAll F F0) {w : World} (h : StF β H F w) : StF β Hk F0 w := by
  obtain ⟨S, s, k⟩ := h
  exact ⟨S, s.sel hH, hF.all S w k⟩
/-- a region that draws its order, walked in an order of one's own -/
theorem at_mix {id : Nat} {l : List Oper} (Hk : List Chunk) (F0 : List Fact) (od : List (Bool × Nat)) (hm : P.follows .mixedOrders = true) (hB : mixOk od l.toArray = true) (hH : Sel H Hk) (hF : HasAll F F0)
    (h : At β n Γ H F (wpMix P l.toArray (StF β Hk F0) Q od)) : At β n Γ H F ((Code.region id l.toArray true).wp P Q) := fun a w S f s k => by
  simp only [mixOk, Bool.and_eq_true] at hB
  have hw := StF.drew ⟨S, s, k⟩
  obtain ⟨S', s', k'⟩ := hw
  refine wp_region_any hm (wpAny_of_C (C := StF β Hk F0) _ _ _ _ ?_)
  have := wpAnyC_mix (P := P) (md := .any) (C := StF β Hk F0) (Q := Q) hB.1.1 od (Array.replicate l.toArray.size false) a _ hB.2 (StF.sel hH hF ⟨S', s', k'⟩) (h a _ S' f s' k')
  rwa [Nat.eq_of_beq_eq_true hB.1.2] at this

/-- the operation looks alone -/
def Sti (P : Program) (β : Base) (n : Nat) (Γ : Env) (H : List Chunk) (F : List Fact) (o : Oper) (v : Value) : Prop := ∀ a w S, Fits n Γ a → St β H S w → All F S w → (execOp a.eval o).run P w = .ok (.value v) w
theorem Sti.det {o : Oper} {v : Value} (h : Sti P β n Γ H F o v) : Det P β n Γ H F o v := det_of h
theorem at_sti {rest : List Oper} {o : Oper} {d : Nat} {v : Value} (hw : want ops Γ o = some true) (hd : o.dst = some d) (hn : Nat.blt d n = true) (h : Sti P β n Γ H F o v)
    (k : At β n ((d, v) :: Γ) H F (wpList P ops Q rest)) : At β n Γ H F (wpList P ops Q (o :: rest)) := at_det hw hd hn h.det k
theorem atm_nil {C : World → Prop} (h : At β n Γ H F (Q .normal)) : At β n Γ H F (wpMix P ops C Q []) := h
theorem atm_sti {r : List (Bool × Nat)} {o : Oper} {k d : Nat} {v : Value} (hk : ops[k]? = some o) (hw : want ops Γ o = some true) (hd : o.dst = some d) (hn : Nat.blt d n = true) (h : Sti P β n Γ Hk F0 o v)
    (K : At β n ((d, v) :: Γ) H F (wpMix P ops (StF β Hk F0) Q r)) : At β n Γ H F (wpMix P ops (StF β Hk F0) Q ((true, k) :: r)) := fun a w S f s hF => by
  refine ⟨o, v, hk, .inl ⟨f.want hw, fun w' ⟨S', s', k'⟩ => h a w' S' f s' k'⟩, ?_⟩
  rw [hd]
  exact K _ _ S (f.put (by simpa [Nat.blt_eq] using hn) v) s hF
theorem atm_skipped {r : List (Bool × Nat)} {o : Oper} {k d : Nat} {C : World → Prop} (hk : ops[k]? = some o) (hw : want ops Γ o = some false) (hd : o.dst = some d) (hn : Nat.blt d n = true)
    (K : At β n ((d, undef) :: Γ) H F (wpMix P ops C Q r)) : At β n Γ H F (wpMix P ops C Q ((true, k) :: r)) := fun a w S f s hF => by
  refine ⟨o, undef, hk, .inr ⟨f.want hw, rfl⟩, ?_⟩
  rw [hd]
  exact K _ _ S (f.put (by simpa [Nat.blt_eq] using hn) undef) s hF
theorem atm_op {r : List (Bool × Nat)} {o : Oper} {k : Nat} {C : World → Prop} (hk : ops[k]? = some o) (h : At β n Γ H F (wpList P ops (Nm fun a w => C w ∧ wpMix P ops C Q r a w) [o])) : At β n Γ H F (wpMix P ops C Q ((false, k) :: r)) := fun a w S f s hF o' ho' => by
  have : o' = o := Option.some.inj (ho'.symm.trans hk)
  subst this
  exact h a w S f s hF
theorem atm_go {r : List (Bool × Nat)} (hH : Sel H Hk) (hF : HasAll F F0) (h : At β n Γ H F (wpMix P ops (StF β Hk F0) Q r)) : At β n Γ H F (wpList P ops (Nm fun a w => StF β Hk F0 w ∧ wpMix P ops (StF β Hk F0) Q r a w) []) := fun a w S f s k =>
  ⟨rfl, StF.sel hH hF ⟨S, s, k⟩, h a w S f s k⟩
end

end Go.Proofs.YtngkedmndhmjcaaGreatDoor
