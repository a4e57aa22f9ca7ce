/- The engine: regions that draw their order, in which two operations that change something may come in either order. -/
import Derived.Test.YtngkedmndhmjcaaGreatDoorMixL
namespace Go.Proofs.YtngkedmndhmjcaaGreatDoor
open Go.RowKit

/-- an order of one's own: (fl k) looks alone; (op k) is the only one that may come; (two k l) either may come -/
inductive Tr where
  | nil
  | fl (k : Nat) (r : Tr)
  | op (k : Nat) (r : Tr)
  | two (k l : Nat) (r s : Tr)
def Tr.len : Tr → Nat
  | .nil => 0
  | .fl _ r => r.len + 1
  | .op _ r => r.len + 1
  | .two _ _ r _ => r.len + 1
section
variable {P : Program} {ops : Array Oper} {md : Region.Mode} {C : World → Prop} {Q : Exit → Act → World → Prop}
def wpMixT (P : Program) (ops : Array Oper) (C : World → Prop) (Q : Exit → Act → World → Prop) : Tr → Act → World → Prop
  | .nil, a, w => Q .normal a w
  | .fl k r, a, w => ∃ o v, ops[k]? = some o ∧ Fl P ops C o v a ∧ wpMixT P ops C Q r (a.put o.dst v) w
  | .op k r, a, w => fOp P ops k (fun a w => C w ∧ wpMixT P ops C Q r a w) a w
  | .two k l r s, a, w => fOp P ops k (fun a w => C w ∧ wpMixT P ops C Q r a w) a w ∧ fOp P ops l (fun a w => C w ∧ wpMixT P ops C Q s a w) a w
def mixTB (md : Region.Mode) (ops : Array Oper) : Tr → Array Bool → Bool
  | .nil, listed => (Region.ready md ops listed).isEmpty
  | .fl k r, listed => (Region.ready md ops listed).contains k && Region.free md ops listed k && mixTB md ops r (listed.setIfInBounds k true)
  | .op k r, listed => (Region.ready md ops listed == [k]) && mixTB md ops r (listed.setIfInBounds k true)
  | .two k l r s, listed => (Region.ready md ops listed == [k, l]) && Nat.beq r.len s.len && mixTB md ops r (listed.setIfInBounds k true) && mixTB md ops s (listed.setIfInBounds l true)
theorem wpAnyC_mixT (hs : Region.noSelect ops = true) : ∀ (l : Tr) (listed : Array Bool) (a : Act) (w : World), mixTB md ops l listed = true → C w → wpMixT P ops C Q l a w → wpAnyC P md ops C Q l.len listed a w
  | .nil, listed, a, w, hB, hC, h => ⟨hC, by simpa [mixTB] using hB, h⟩
  | .fl k r, listed, a, w, hB, hC, h => by
    simp only [mixTB, Bool.and_eq_true] at hB
    obtain ⟨o, v, ho, hy, hK⟩ := h
    exact wpAnyC_first ho (Region.noSelect_spec hs) r.len listed a w (Region.free_spec ho hB.1.2) (by simpa using hB.1.1) hy (wpAnyC_mixT hs r _ _ _ hB.2 hC hK)
  | .op k r, listed, a, w, hB, hC, h => by
    simp only [mixTB, Bool.and_eq_true, beq_iff_eq] at hB
    refine ⟨hC, fun h0 => (by rw [hB.1] at h0; cases h0), fun i hi => ?_⟩
    rw [hB.1] at hi
    have : i = k := by simpa using hi
    subst this
    exact fOp_mono (fun a' w' h' => wpAnyC_mixT hs r _ _ _ hB.2 h'.1 h'.2) h
  | .two k l r s, listed, a, w, hB, hC, h => by
    simp only [mixTB, Bool.and_eq_true, beq_iff_eq] at hB
    obtain ⟨⟨⟨h1, h2⟩, h3⟩, h4⟩ := hB
    refine ⟨hC, fun h0 => (by rw [h1] at h0; cases h0), fun i hi => ?_⟩
    rw [h1] at hi
    have hi : i = k ∨ i = l := by simpa using hi
    rcases hi with rfl | rfl
    · exact fOp_mono (fun a' w' h' => wpAnyC_mixT hs r _ _ _ h3 h'.1 h'.2) h.1
    · have e : Tr.len (.two k i r s) = s.len + 1 := by simp only [Tr.len, Nat.eq_of_beq_eq_true h2]
      have e' : r.len = s.len := Nat.eq_of_beq_eq_true h2
      rw [e']
      exact fOp_mono (fun a' w' h' => wpAnyC_mixT hs s _ _ _ h4 h'.1 h'.2) h.2
def mixTOk (l : Tr) (ops : Array Oper) : Bool := Region.noSelect ops && Nat.beq l.len ops.size && mixTB .any ops l (Array.replicate ops.size false)
end
section
variable {P : Program} {β : Base} {n : Nat} {Γ : Env} {H : List Chunk} {F : List Fact} {Q : Exit → Act → World → Prop} {Hk : List Chunk} {F0 : List Fact} {ops : Array Oper}
theorem at_mixT {id : Nat} {l : List Oper} (Hk : List Chunk) (F0 : List Fact) (od : Tr) (hm : P.follows .mixedOrders = true) (hB : mixTOk od l.toArray = true) (hH : Sel H Hk) (hF : HasAll F F0)
    (h : At β n Γ H F (wpMixT P l.toArray (StF β Hk F0) Q od)) : At β n Γ H F ((Code.region id l.toArray true).wp P Q) := fun a w S f s k => by
  simp only [mixTOk, Bool.and_eq_true] at hB
  have hw := StF.drew ⟨S, s, k⟩
  obtain ⟨S', s', k'⟩ := hw
  refine wp_region_any hm (wpAny_of_C (C := StF β Hk F0) _ _ _ _ ?_)
  have := wpAnyC_mixT (P := P) (md := .any) (C := StF β Hk F0) (Q := Q) hB.1.1 od (Array.replicate l.toArray.size false) a _ hB.2 (StF.sel hH hF ⟨S', s', k'⟩) (h a _ S' f s' k')
  rwa [Nat.eq_of_beq_eq_true hB.1.2] at this
theorem att_nil {C : World → Prop} (h : At β n Γ H F (Q .normal)) : At β n Γ H F (wpMixT P ops C Q .nil) := h
theorem att_sti {r : Tr} {o : Oper} {k d : Nat} {v : Value} (hk : ops[k]? = some o) (hw : want ops Γ o = some true) (hd : o.dst = some d) (hn : Nat.blt d n = true) (h : Sti P β n Γ Hk F0 o v)
    (K : At β n ((d, v) :: Γ) H F (wpMixT P ops (StF β Hk F0) Q r)) : At β n Γ H F (wpMixT P ops (StF β Hk F0) Q (.fl k r)) := fun a w S f s hF => by
  refine ⟨o, v, hk, .inl ⟨f.want hw, fun w' ⟨S', s', k'⟩ => h a w' S' f s' k'⟩, ?_⟩
  rw [hd]
  exact K _ _ S (f.put (by simpa [Nat.blt_eq] using hn) v) s hF
theorem att_skipped {r : Tr} {o : Oper} {k d : Nat} {C : World → Prop} (hk : ops[k]? = some o) (hw : want ops Γ o = some false) (hd : o.dst = some d) (hn : Nat.blt d n = true)
    (K : At β n ((d, undef) :: Γ) H F (wpMixT P ops C Q r)) : At β n Γ H F (wpMixT P ops C Q (.fl k r)) := fun a w S f s hF => by
  refine ⟨o, undef, hk, .inr ⟨f.want hw, rfl⟩, ?_⟩
  rw [hd]
  exact K _ _ S (f.put (by simpa [Nat.blt_eq] using hn) undef) s hF
theorem fOp_of {o : Oper} {k : Nat} {K : Act → World → Prop} (hk : ops[k]? = some o) (h : At β n Γ H F (wpList P ops (Nm K) [o])) : At β n Γ H F (fOp P ops k K) := fun a w S f s hF o' ho' => by
  have : o' = o := Option.some.inj (ho'.symm.trans hk)
  subst this
  exact h a w S f s hF
theorem att_op {r : Tr} {o : Oper} {k : Nat} {C : World → Prop} (hk : ops[k]? = some o) (h : At β n Γ H F (wpList P ops (Nm fun a w => C w ∧ wpMixT P ops C Q r a w) [o])) : At β n Γ H F (wpMixT P ops C Q (.op k r)) := fOp_of hk h
theorem att_two {r s : Tr} {o o' : Oper} {k l : Nat} {C : World → Prop} (hk : ops[k]? = some o) (hl : ops[l]? = some o') (h : At β n Γ H F (wpList P ops (Nm fun a w => C w ∧ wpMixT P ops C Q r a w) [o])) (h' : At β n Γ H F (wpList P ops (Nm fun a w => C w ∧ wpMixT P ops C Q s a w) [o'])) :
    At β n Γ H F (wpMixT P ops C Q (.two k l r s)) := fun a w S f st hF => ⟨fOp_of hk h a w S f st hF, fOp_of hl h' a w S f st hF⟩
theorem att_go {r : Tr} (hH : Sel H Hk) (hF : HasAll F F0) (h : At β n Γ H F (wpMixT P ops (StF β Hk F0) Q r)) : At β n Γ H F (wpList P ops (Nm fun a w => StF β Hk F0 w ∧ wpMixT P ops (StF β Hk F0) Q r a w) []) := fun a w S f s k =>
  ⟨rfl, StF.sel hH hF ⟨S, s, k⟩, h a w S f s k⟩
end
end Go.Proofs.YtngkedmndhmjcaaGreatDoor
