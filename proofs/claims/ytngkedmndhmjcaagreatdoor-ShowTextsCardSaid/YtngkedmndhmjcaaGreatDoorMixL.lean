/- The engine: regions that draw their order and end in an operation that waits for all others: it may change what the others look at. -/
import Derived.Test.YtngkedmndhmjcaaGreatDoorTwo
namespace Go.Proofs.YtngkedmndhmjcaaGreatDoor
open Go.RowKit

section
variable {P : Program} {ops : Array Oper} {md : Region.Mode} {C : World → Prop} {R : Array Bool → Act → World → Prop}

/-- whatever order is picked, up to the last operation -/
def wpAnyR (P : Program) (md : Region.Mode) (ops : Array Oper) (C : World → Prop) (R : Array Bool → Act → World → Prop) : Nat → Array Bool → Act → World → Prop
  | 0, listed, a, w => C w ∧ R listed a w
  | fuel + 1, listed, a, w => C w ∧ Region.ready md ops listed ≠ [] ∧ ∀ i ∈ Region.ready md ops listed, fOp P ops i (wpAnyR P md ops C R fuel (listed.setIfInBounds i true)) a w
theorem wpAnyR.cls : ∀ {fuel : Nat} {listed : Array Bool} {a : Act} {w : World}, wpAnyR P md ops C R fuel listed a w → C w
  | 0, _, _, _, h => h.1
  | _ + 1, _, _, _, h => h.1
theorem wpAny_of_R {Q : Exit → Act → World → Prop} (hR : ∀ listed a w, R listed a w → wpAny P md ops Q 1 listed a w) : ∀ (fuel : Nat) (listed : Array Bool) (a : Act) (w : World), wpAnyR P md ops C R fuel listed a w → wpAny P md ops Q (fuel + 1) listed a w
  | 0, _, _, _, h => hR _ _ _ h.2
  | fuel + 1, listed, a, w, h => by
    refine ⟨fun e => absurd e h.2.1, fun i hi => ?_⟩
    have hf := h.2.2 i hi
    unfold wpOp
    split
    · rename_i ho
      obtain ⟨_, oi, hoi, _⟩ := mem_ready.1 hi
      rw [ho] at hoi
      cases hoi
    · rename_i o ho
      have h1 := wpNm (hf o ho)
      split
      · rename_i hw
        simp only [hw, if_true] at h1
        exact .inl (wp_frame rfl (fun u w' h' => wpAny_of_R hR fuel _ _ _ h') (fun d w' h' => wpAny_of_R hR fuel _ _ _ h') h1)
      · rename_i hw
        simp only [hw] at h1
        exact wpAny_of_R hR fuel _ _ _ h1

/-- what an operation waits for is listed -/
def depsIn (md : Region.Mode) (ops : Array Oper) (listed : Array Bool) (l : Nat) : Prop := ∀ o, ops[l]? = some o → ∀ e ∈ o.after, Region.binds md e = true → listed.getD e.on false = true
/-- what is listed has what it waits for in the list -/
def Closed (md : Region.Mode) (ops : Array Oper) (listed : Array Bool) : Prop := ∀ j, listed.getD j false = true → depsIn md ops listed j
/-- l waits for i, directly or through others -/
def waitsN (md : Region.Mode) (ops : Array Oper) : Nat → Nat → Nat → Bool
  | 0, _, _ => false
  | n + 1, l, i => match ops[l]? with
    | some o => o.after.any fun e => Region.binds md e && (e.on == i || waitsN md ops n e.on i)
    | none => false
def waits (md : Region.Mode) (ops : Array Oper) (l i : Nat) : Bool := waitsN md ops 4 l i
theorem waitsN_in {listed : Array Bool} (hc : Closed md ops listed) : ∀ (n l i : Nat), waitsN md ops n l i = true → depsIn md ops listed l → listed.getD i false = true
  | 0, _, _, h, _ => by cases h
  | n + 1, l, i, h, hd => by
    unfold waitsN at h
    cases ho : ops[l]? with
    | none => rw [ho] at h; cases h
    | some o =>
      rw [ho] at h
      obtain ⟨e, he, hb⟩ := Array.any_eq_true'.1 h
      rw [Bool.and_eq_true, Bool.or_eq_true] at hb
      have h1 := hd o ho e he hb.1
      rcases hb.2 with h2 | h2
      · have h2 : e.on = i := by simpa using h2
        rw [← h2]
        exact h1
      · exact waitsN_in hc n e.on i h2 (hc _ h1)
theorem ready_deps {listed : Array Bool} {l : Nat} (h : l ∈ Region.ready md ops listed) : depsIn md ops listed l := fun o ho e he hb => by
  obtain ⟨_, o', ho', hall⟩ := mem_ready.1 h
  have : o = o' := Option.some.inj (ho.symm.trans ho')
  subst this
  exact hall e he hb
theorem waits_not {l i : Nat} {listed : Array Bool} (hc : Closed md ops listed) (h : waits md ops l i = true) (hi : listed.getD i false ≠ true) : l ∉ Region.ready md ops listed := fun hl => hi (waitsN_in hc 4 l i h (ready_deps hl))
theorem getD_set {listed : Array Bool} {j k : Nat} (h : listed.getD k false = true) : (listed.setIfInBounds j true).getD k false = true := by
  by_cases e : j = k
  · subst e
    rcases Nat.lt_or_ge j listed.size with h' | h'
    · simp [h']
    · simp [Array.getElem?_eq_none h'] at h
  · rw [getD_set_ne false e]
    exact h
theorem Closed.set {listed : Array Bool} (hc : Closed md ops listed) {j : Nat} (hj : j ∈ Region.ready md ops listed) : Closed md ops (listed.setIfInBounds j true) := fun k hk o ho e he hb => by
  by_cases e' : j = k
  · subst e'
    exact getD_set (ready_deps hj o ho e he hb)
  · rw [getD_set_ne false e'] at hk
    exact getD_set (hc k hk o ho e he hb)
theorem Closed.none {n : Nat} : Closed md ops (Array.replicate n false) := fun j hj => by
  simp at hj
  rcases Nat.lt_or_ge j n with h | h <;> simp [h] at hj

theorem wpAnyR_first {i l : Nat} {oi : Oper} {v : Value} (hi : ops[i]? = some oi) (hw : waits md ops l i = true) (hsel : ∀ (j : Nat) (o : Oper) cs b, ops[j]? = some o → o.op ≠ .select cs b) (hR : ∀ listed a w, R listed a w → Region.ready md ops listed = [l]) :
    ∀ (fuel : Nat) (listed : Array Bool) (a : Act) (w : World), Closed md ops listed →
      (∀ j oj, ops[j]? = some oj → j ≠ i → listed.getD j true = false → (∀ e ∈ oj.after, Region.binds md e = true → e.on ≠ i) → oi.apart ops oj = true) →
      i ∈ Region.ready md ops listed → Fl P ops C oi v a →
      wpAnyR P md ops C R fuel (listed.setIfInBounds i true) (a.put oi.dst v) w → wpAnyR P md ops C R (fuel + 1) listed a w := by
  have hun : ∀ {listed : Array Bool}, i ∈ Region.ready md ops listed → listed.getD i false ≠ true := fun {listed} hr e => by
    have h0 := (mem_ready.1 hr).1
    rcases Nat.lt_or_ge i listed.size with h' | h'
    · simp [h'] at h0 e; rw [h0] at e; cases e
    · simp [Array.getElem?_eq_none h'] at e
  intro fuel
  induction fuel with
  | zero =>
    intro listed a w hc _ hr hy H
    refine ⟨H.1, fun h => (by rw [h] at hr; cases hr), fun j hj => ?_⟩
    by_cases hji : j = i
    · subst hji; exact hy.fOp hi H.1 H
    · have h1 := ready_mono hj hji
      rw [hR _ _ _ H.2] at h1
      have h2 : j = l := by simpa using h1
      subst h2
      exact absurd hj (waits_not hc hw (hun hr))
  | succ fuel ih =>
    intro listed a w hc hfree hr hy H
    refine ⟨H.1, fun h => (by rw [h] at hr; cases hr), fun j hj => ?_⟩
    by_cases hji : j = i
    · subst hji; exact hy.fOp hi H.1 H
    · have h1 := H.2.2 j (ready_mono hj hji)
      obtain ⟨hjun, oj, hoj, hall⟩ := mem_ready.1 hj
      have hnot : ∀ e ∈ oj.after, Region.binds md e = true → e.on ≠ i := fun e he hb heq => by
        have h1 := hall e he hb
        rw [heq] at h1
        exact hun hr h1
      have h2 := fOp_put hoj (hfree j oj hoj hji hjun hnot) (fun cs b => hsel i oi cs b hi) (fun cs b => hsel j oj cs b hoj) hy h1
      have hfree' : ∀ k ok, ops[k]? = some ok → k ≠ i → (listed.setIfInBounds j true).getD k true = false →
          (∀ e ∈ ok.after, Region.binds md e = true → e.on ≠ i) → oi.apart ops ok = true := fun k ok hk hki hun hno => by
        refine hfree k ok hk hki ?_ hno
        by_cases hjk : j = k
        · subst hjk; exact hjun
        · rw [getD_set_ne true hjk] at hun; exact hun
      refine fOp_mono (fun a' w' h3 => ih (listed.setIfInBounds j true) a' w' (hc.set hj) hfree' (ready_mono hr (Ne.symm hji)) h3.1 ?_) h2
      rw [Array.setIfInBounds_comm _ _ hji]
      exact h3.2

/-- an order of one's own, ahead of the last operation l -/
def wpMixL (P : Program) (ops : Array Oper) (C : World → Prop) (Q : Exit → Act → World → Prop) (l : Nat) : List (Bool × Nat) → Act → World → Prop
  | [], a, w => fOp P ops l (Q .normal) a w
  | (true, k) :: r, a, w => ∃ o v, ops[k]? = some o ∧ Fl P ops C o v a ∧ wpMixL P ops C Q l r (a.put o.dst v) w
  | (false, k) :: r, a, w => fOp P ops k (fun a w => C w ∧ wpMixL P ops C Q l r a w) a w
def mixLB (md : Region.Mode) (ops : Array Oper) (l : Nat) : List (Bool × Nat) → Array Bool → Bool
  | [], listed => (Region.ready md ops listed == [l]) && (Region.ready md ops (listed.setIfInBounds l true)).isEmpty
  | (true, k) :: r, listed => (Region.ready md ops listed).contains k && Region.free md ops listed k && waits md ops l k && mixLB md ops l r (listed.setIfInBounds k true)
  | (false, k) :: r, listed => (Region.ready md ops listed == [k]) && mixLB md ops l r (listed.setIfInBounds k true)
def EndL (P : Program) (md : Region.Mode) (ops : Array Oper) (Q : Exit → Act → World → Prop) (l : Nat) (listed : Array Bool) (a : Act) (w : World) : Prop :=
  Region.ready md ops listed = [l] ∧ Region.ready md ops (listed.setIfInBounds l true) = [] ∧ fOp P ops l (Q .normal) a w
theorem wpAnyR_mix {Q : Exit → Act → World → Prop} {l : Nat} (hs : Region.noSelect ops = true) : ∀ (od : List (Bool × Nat)) (listed : Array Bool) (a : Act) (w : World), Closed md ops listed → mixLB md ops l od listed = true → C w → wpMixL P ops C Q l od a w → wpAnyR P md ops C (EndL P md ops Q l) od.length listed a w
  | [], listed, a, w, _, hB, hC, h => by
    simp only [mixLB, Bool.and_eq_true, beq_iff_eq] at hB
    exact ⟨hC, hB.1, by simpa using hB.2, h⟩
  | (true, k) :: r, listed, a, w, hc, hB, hC, h => by
    simp only [mixLB, Bool.and_eq_true] at hB
    obtain ⟨o, v, ho, hy, hK⟩ := h
    exact wpAnyR_first ho hB.1.2 (Region.noSelect_spec hs) (fun _ _ _ h => h.1) r.length listed a w hc (Region.free_spec ho hB.1.1.2) (by simpa using hB.1.1.1) hy (wpAnyR_mix hs r _ _ _ (hc.set (by simpa using hB.1.1.1)) hB.2 hC hK)
  | (false, k) :: r, listed, a, w, hc, hB, hC, h => by
    simp only [mixLB, Bool.and_eq_true, beq_iff_eq] at hB
    refine ⟨hC, fun h0 => (by rw [hB.1] at h0; cases h0), fun i hi => ?_⟩
    rw [hB.1] at hi
    have : i = k := by simpa using hi
    subst this
    exact fOp_mono (fun a' w' h' => wpAnyR_mix hs r _ _ _ (hc.set (by rw [hB.1]; simp)) hB.2 h'.1 h'.2) h
theorem end_any {Q : Exit → Act → World → Prop} {l : Nat} (listed : Array Bool) (a : Act) (w : World) (h : EndL P md ops Q l listed a w) : wpAny P md ops Q 1 listed a w := by
  refine ⟨fun e => (by rw [h.1] at e; cases e), fun i hi => ?_⟩
  rw [h.1] at hi
  have : i = l := by simpa using hi
  subst this
  have hf := h.2.2
  unfold wpOp
  split
  · rename_i ho
    have hl : i ∈ Region.ready md ops listed := by rw [h.1]; simp
    obtain ⟨_, oi, hoi, _⟩ := mem_ready.1 hl
    rw [ho] at hoi
    cases hoi
  · rename_i o ho
    have h1 := wpNm (hf o ho)
    split
    · rename_i hw
      simp only [hw, if_true] at h1
      exact .inl (wp_frame rfl (fun u w' h' => ⟨h.2.1, h'⟩) (fun d w' h' => ⟨h.2.1, h'⟩) h1)
    · rename_i hw
      simp only [hw] at h1
      exact ⟨h.2.1, h1⟩
def mixLOk (l : Nat) (od : List (Bool × Nat)) (ops : Array Oper) : Bool := Region.noSelect ops && Nat.beq (od.length + 1) ops.size && mixLB .any ops l od (Array.replicate ops.size false)
end

section
variable {P : Program} {β : Base} {n : Nat} {Γ : Env} {H : List Chunk} {F : List Fact} {Q : Exit → Act → World → Prop} {Hk : List Chunk} {F0 : List Fact} {ops : Array Oper}
/-- a region that draws its order, walked in an order of one's own; the last operation waits for all others -/
theorem at_mixL {id : Nat} {l : List Oper} (last : Nat) (Hk : List Chunk) (F0 : List Fact) (od : List (Bool × Nat)) (hm : P.follows .mixedOrders = true) (hB : mixLOk last od l.toArray = true) (hH : Sel H Hk) (hF : HasAll F F0)
    (h : At β n Γ H F (wpMixL P l.toArray (StF β Hk F0) Q last od)) : At β n Γ H F ((Code.region id l.toArray true).wp P Q) := fun a w S f s k => by
  simp only [mixLOk, Bool.and_eq_true] at hB
  have hw := StF.drew ⟨S, s, k⟩
  obtain ⟨S', s', k'⟩ := hw
  refine wp_region_any hm ?_
  have h1 := wpAnyR_mix (P := P) (md := .any) (C := StF β Hk F0) (Q := Q) hB.1.1 od (Array.replicate l.toArray.size false) a _ Closed.none hB.2 (StF.sel hH hF ⟨S', s', k'⟩) (h a _ S' f s' k')
  have h2 := wpAny_of_R (Q := Q) end_any _ _ _ _ h1
  rwa [Nat.eq_of_beq_eq_true hB.1.2] at h2
theorem atl_sti {r : List (Bool × Nat)} {o : Oper} {l k d : Nat} {v : Value} (hk : ops[k]? = some o) (hw : want ops Γ o = some true) (hd : o.dst = some d) (hn : Nat.blt d n = true) (h : Sti P β n Γ Hk F0 o v)
    (K : At β n ((d, v) :: Γ) H F (wpMixL P ops (StF β Hk F0) Q l r)) : At β n Γ H F (wpMixL P ops (StF β Hk F0) Q l ((true, k) :: r)) := fun a w S f s hF => by
  refine ⟨o, v, hk, .inl ⟨f.want hw, fun w' ⟨S', s', k'⟩ => h a w' S' f s' k'⟩, ?_⟩
  rw [hd]
  exact K _ _ S (f.put (by simpa [Nat.blt_eq] using hn) v) s hF
theorem atl_op {r : List (Bool × Nat)} {o : Oper} {l k : Nat} {C : World → Prop} (hk : ops[k]? = some o) (h : At β n Γ H F (wpList P ops (Nm fun a w => C w ∧ wpMixL P ops C Q l r a w) [o])) : At β n Γ H F (wpMixL P ops C Q l ((false, k) :: r)) := fun a w S f s hF o' ho' => by
  have : o' = o := Option.some.inj (ho'.symm.trans hk)
  subst this
  exact h a w S f s hF
theorem atl_go {r : List (Bool × Nat)} {l : Nat} (hH : Sel H Hk) (hF : HasAll F F0) (h : At β n Γ H F (wpMixL P ops (StF β Hk F0) Q l r)) : At β n Γ H F (wpList P ops (Nm fun a w => StF β Hk F0 w ∧ wpMixL P ops (StF β Hk F0) Q l r a w) []) := fun a w S f s k =>
  ⟨rfl, StF.sel hH hF ⟨S, s, k⟩, h a w S f s k⟩
theorem atl_last {o : Oper} {l : Nat} {C : World → Prop} (hk : ops[l]? = some o) (h : At β n Γ H F (wpList P ops (Nm (Q .normal)) [o])) : At β n Γ H F (wpMixL P ops C Q l []) := fun a w S f s hF o' ho' => by
  have : o' = o := Option.some.inj (ho'.symm.trans hk)
  subst this
  exact h a w S f s hF
theorem atl_end {K : Act → World → Prop} (h : At β n Γ H F K) : At β n Γ H F (wpList P ops (Nm K) []) := fun a w S f s k => ⟨rfl, h a w S f s k⟩
end
end Go.Proofs.YtngkedmndhmjcaaGreatDoor
