/- The engine's rules: control, loops, regions in order and regions that draw their order; operations that yield one value and touch no memory. -/
import Derived.Test.YtngkedmndhmjcaaGreatDoorEng
import Derived.LoopN
namespace Go.Proofs.YtngkedmndhmjcaaGreatDoor
open Go.RowKit

section
variable {P : Program} {β : Base} {n : Nat} {Γ : Env} {H : List Chunk} {F : List Fact} {Q : Exit → Act → World → Prop} {K : Act → World → Prop}

theorem At.mono {K' : Act → World → Prop} (h : At β n Γ H F K) (hk : ∀ a w, K a w → K' a w) : At β n Γ H F K' := fun a w S f s k => hk a w (h a w S f s k)
theorem at_seq {x y : Code} (h : At β n Γ H F (x.wp P (Exit.then (y.wp P Q) Q))) : At β n Γ H F ((Code.seq x y).wp P Q) := fun a w S f s k => wp_seq (h a w S f s k)
theorem at_block {id : Nat} {c : Code} (h : At β n Γ H F (c.wp P (Exit.inBlock id Q))) : At β n Γ H F ((Code.block id c).wp P Q) := fun a w S f s k => wp_block (h a w S f s k)
theorem at_skip (h : At β n Γ H F (Q .normal)) : At β n Γ H F (Code.skip.wp P Q) := fun a w S f s k => wp_skip (h a w S f s k)
theorem at_exit {id : Nat} (h : At β n Γ H F (Q (.exit id))) : At β n Γ H F ((Code.exit id).wp P Q) := fun a w S f s k => wp_exit (h a w S f s k)
theorem at_ret (h : At β n Γ H F (Q .ret)) : At β n Γ H F (Code.ret.wp P Q) := fun a w S f s k => wp_ret (h a w S f s k)
theorem at_region {id : Nat} {l : List Oper} (h : At β n Γ H F (wpList P l.toArray Q l)) : At β n Γ H F ((Code.region id l.toArray false).wp P Q) := fun a w S f s k => wp_region_lit (h a w S f s k)
theorem at_nil {ops : Array Oper} (h : At β n Γ H F (Q .normal)) : At β n Γ H F (wpList P ops Q []) := h
theorem n_then (h : At β n Γ H F K) : At β n Γ H F (Exit.then K Q .normal) := h
theorem x_then {i : Nat} (h : At β n Γ H F (Q (.exit i))) : At β n Γ H F (Exit.then K Q (.exit i)) := h
theorem r_then (h : At β n Γ H F (Q .ret)) : At β n Γ H F (Exit.then K Q .ret) := h
theorem n_block {i : Nat} (h : At β n Γ H F (Q .normal)) : At β n Γ H F (Exit.inBlock i Q .normal) := h
theorem r_block {i : Nat} (h : At β n Γ H F (Q .ret)) : At β n Γ H F (Exit.inBlock i Q .ret) := h
theorem x_block {i : Nat} (h : At β n Γ H F (Q .normal)) : At β n Γ H F (Exit.inBlock i Q (.exit i)) := fun a w S f s k => by
  simp only [Exit.inBlock, if_true]; exact h a w S f s k
theorem x_pass {i j : Nat} (hne : Nat.beq j i = false) (h : At β n Γ H F (Q (.exit j))) : At β n Γ H F (Exit.inBlock i Q (.exit j)) := fun a w S f s k => by
  have : j ≠ i := fun e => by rw [e, Nat.beq_refl] at hne; cases hne
  simp only [Exit.inBlock, if_neg this]; exact h a w S f s k
theorem at_cond {c : Operand} {x y : Code} {t : Bool} (hc : Γ.ev c = some (.bool t)) (ht : t = true → At β n Γ H F (x.wp P Q)) (hf : t = false → At β n Γ H F (y.wp P Q)) : At β n Γ H F ((Code.cond c x y).wp P Q) :=
  fun a w S f s k => wp_cond_split (f.ev hc) (fun e => ht e a w S f s k) (fun e => hf e a w S f s k)
theorem at_true {c : Operand} {x y : Code} {t : Bool} (hc : Γ.ev c = some (.bool t)) (ht : t = true) (h : At β n Γ H F (x.wp P Q)) : At β n Γ H F ((Code.cond c x y).wp P Q) :=
  at_cond hc (fun _ => h) (fun e => by rw [ht] at e; cases e)
theorem at_false {c : Operand} {x y : Code} {t : Bool} (hc : Γ.ev c = some (.bool t)) (ht : t = false) (h : At β n Γ H F (y.wp P Q)) : At β n Γ H F ((Code.cond c x y).wp P Q) :=
  at_cond hc (fun e => by rw [ht] at e; cases e) (fun _ => h)

/-- something that the facts say, laid among the hypotheses -/
theorem at_know {c : Prop} (hc : Has F (Fact.pure c)) (h : c → At β n Γ H F K) : At β n Γ H F K := fun a w S f s k => h (hc S w k) a w S f s k
theorem at_fact (g : Fact) (hg : Has F g) (h : At β n Γ H (g :: F) K) : At β n Γ H F K := fun a w S f s k => h a w S f s (All.cons (hg S w k) k)
theorem at_ex {ι : Type} (g : ι → List Fact) (hg : ∀ S w, All F S w → ∃ x, All (g x) S w) (h : ∀ x, At β n Γ H (g x ++ F) K) : At β n Γ H F K := fun a w S f s k =>
  let ⟨x, hx⟩ := hg S w k
  h x a w S f s (hx.append k)
theorem at_drop {G : List Fact} (hG : HasAll F G) (h : At β n Γ H G K) : At β n Γ H F K := fun a w S f s k => h a w S f s (hG.all S w k)
theorem at_env {Δ : Env} (hs : Γ.Sub Δ) (h : At β n Δ H F K) : At β n Γ H F K := fun a w S f s k => h a w S (f.sub hs) s k

/-! ### chunks in another order -/
inductive Take : List Chunk → Chunk → List Chunk → Prop
  | head {c : Chunk} {H : List Chunk} : Take (c :: H) c H
  | tail {c d : Chunk} {H H' : List Chunk} (h : Take H c H') : Take (d :: H) c (d :: H')
theorem Take.perm {H H' : List Chunk} {c : Chunk} (h : Take H c H') : H.Perm (c :: H') := by
  induction h with
  | head => exact List.Perm.refl _
  | tail _ ih => exact (ih.cons _).trans (List.Perm.swap _ _ _)
inductive Sel : List Chunk → List Chunk → Prop
  | nil {H : List Chunk} : Sel H []
  | cons {H H' R : List Chunk} {c : Chunk} (h : Take H c H') (k : Sel H' R) : Sel H (c :: R)
theorem St.perm {H H' : List Chunk} {S : Zone} {w : World} (h : St β H S w) (p : H.Perm H') : St β H' S w where
  kept := h.kept
  ok := fun c hc => h.ok c (p.mem_iff.2 hc)
  own := fun c hc => h.own c (p.mem_iff.2 hc)
  sep := h.sep.perm p (fun hcd b hb hc => hcd b hc hb)
  zone := h.zone
theorem St.tail {H : List Chunk} {c : Chunk} {S : Zone} {w : World} (h : St β (c :: H) S w) : St β H S w where
  kept := h.kept
  ok := fun d hd => h.ok d (List.mem_cons_of_mem _ hd)
  own := fun d hd => h.own d (List.mem_cons_of_mem _ hd)
  sep := (List.pairwise_cons.1 h.sep).2
  zone := h.zone
theorem Sel.sub {H R : List Chunk} (h : Sel H R) : ∃ H', H.Perm (R ++ H') := by
  induction h with
  | nil => exact ⟨_, List.Perm.refl _⟩
  | cons h _ ih =>
    obtain ⟨H', p⟩ := ih
    exact ⟨H', h.perm.trans (p.cons _)⟩
theorem St.sel {H R : List Chunk} {S : Zone} {w : World} (h : St β H S w) (hs : Sel H R) : St β R S w := by
  obtain ⟨H', p⟩ := hs.sub
  have h := h.perm p
  exact ⟨h.kept, fun c hc => h.ok c (List.mem_append_left _ hc), fun c hc => h.own c (List.mem_append_left _ hc), (List.pairwise_append.1 h.sep).1, h.zone⟩
theorem at_sel {R : List Chunk} (hs : Sel H R) (h : At β n Γ R F K) : At β n Γ H F K := fun a w S f s k => h a w S f (s.sel hs) k

/-! ### loops -/
/-- the loop's head is met again, at x', which is less -/
def Back {ι : Type} (β : Base) (n : Nat) (G : ι → Env) (HH : ι → List Chunk) (FF : ι → List Fact) (μ : ι → Nat) (m : Nat) (a : Act) (w : World) : Prop :=
  ∃ x S, μ x < m ∧ Fits n (G x) a ∧ St β (HH x) S w ∧ All (FF x) S w
theorem at_loop {ι : Type} {c : Code} (G : ι → Env) (HH : ι → List Chunk) (FF : ι → List Fact) (μ : ι → Nat) (x0 : ι) (hG : Γ.Sub (G x0)) (hH : Sel H (HH x0)) (hF : HasAll F (FF x0))
    (round : ∀ x, At β n (G x) (HH x) (FF x) (c.wp P (Exit.then (Back β n G HH FF μ (μ x)) Q))) : At β n Γ H F ((Code.loop c).wp P Q) := by
  have key : ∀ m x, μ x ≤ m → ∀ a w S, Fits n (G x) a → St β (HH x) S w → All (FF x) S w → Code.rounds P c Q (m + 1) a w := by
    intro m
    induction m with
    | zero =>
      intro x hx a w S f s k
      rw [rounds_succ]
      refine Code.wp_mono (fun e a' w' q => ?_) (round x a w S f s k)
      cases e with
      | normal => obtain ⟨x', S', hlt, _⟩ := q; omega
      | _ => exact q
    | succ m ih =>
      intro x hx a w S f s k
      rw [rounds_succ]
      refine Code.wp_mono (fun e a' w' q => ?_) (round x a w S f s k)
      cases e with
      | normal => obtain ⟨x', S', hlt, f', s', k'⟩ := q; exact ih x' (by omega) a' w' S' f' s' k'
      | _ => exact q
  intro a w S f s k
  exact wp_loop_rounds (μ x0 + 1) (key (μ x0) x0 (Nat.le_refl _) a w S (f.sub hG) (s.sel hH) (hF.all S w k))
theorem at_back {ι : Type} {G : ι → Env} {HH : ι → List Chunk} {FF : ι → List Fact} {μ : ι → Nat} {m : Nat} (x : ι) (hμ : μ x < m) (hG : Γ.Sub (G x)) (hH : Sel H (HH x)) (hF : HasAll F (FF x)) :
    At β n Γ H F (Back β n G HH FF μ m) := fun _ w S f s k => ⟨x, S, hμ, f.sub hG, s.sel hH, hF.all S w k⟩

/-! ### operations that yield one value -/
/-- is an operation wanted? -/
def want (ops : Array Oper) (Γ : Env) (o : Oper) : Option Bool :=
  match o.guard with
  | none => some true
  | some (j, b) => match (ops[j]?).bind (·.dst) with
    | some d => match Γ.get d with
      | some (.bool c) => some (c == b)
      | some (.tuple _) => some false
      | _ => none
    | none => none
theorem Fits.want {ops : Array Oper} {o : Oper} {t : Bool} {a : Act} (h : Fits n Γ a) (hw : want ops Γ o = some t) : Region.wanted o (yielded ops a.tmps) = t := by
  unfold Proofs.YtngkedmndhmjcaaGreatDoor.want at hw
  unfold Region.wanted
  split at hw
  · rename_i hg; simp at hw; simp [hg, hw]
  · rename_i j b hg
    rw [hg]
    simp only
    split at hw
    · rename_i d hd
      split at hw
      · rename_i c hc
        have := h.get d _ hc
        simp at hw
        simp [yielded, hd, this, ← hw]
      · rename_i c hc
        have := h.get d _ hc
        simp at hw
        simp [yielded, hd, this, ← hw]
      · cases hw
    · cases hw

def StF (β : Base) (H : List Chunk) (F : List Fact) (w : World) : Prop := ∃ S, St β H S w ∧ All F S w

/-- the operation yields v, and leaves a world of the same state -/
def Det (P : Program) (β : Base) (n : Nat) (Γ : Env) (H : List Chunk) (F : List Fact) (o : Oper) (v : Value) : Prop :=
  ∀ a, Fits n Γ a → ∀ w, StF β H F w → o.quietAt P a (StF β H F) w v

theorem det_of {o : Oper} {v : Value} (h : ∀ a w S, Fits n Γ a → St β H S w → All F S w → (execOp a.eval o).run P w = .ok (.value v) w) : Det P β n Γ H F o v := fun a f w ⟨S, s, k⟩ => by
  unfold Oper.quietAt
  rw [h a w S f s k]
  exact ⟨rfl, rfl⟩

theorem at_det {ops : Array Oper} {rest : List Oper} {o : Oper} {d : Nat} {v : Value} (hw : want ops Γ o = some true) (hd : o.dst = some d) (hn : Nat.blt d n = true) (h : Det P β n Γ H F o v)
    (k : At β n ((d, v) :: Γ) H F (wpList P ops Q rest)) : At β n Γ H F (wpList P ops Q (o :: rest)) := by
  intro a w S f s hk
  unfold wpList
  rw [f.want hw, if_pos rfl]
  refine .inl (Oper.wp_of_quiet (C := StF β H F) (K := fun a' => a' = a.put o.dst v) ⟨S, s, hk⟩ ?_ ⟨v, fun w' hw' => h a f w' hw', rfl⟩)
  rintro a' w' ⟨S', s', k'⟩ rfl
  rw [hd]
  exact k _ _ S' (f.put (by simpa [Nat.blt_eq] using hn) v) s' k'
theorem at_skipped {ops : Array Oper} {rest : List Oper} {o : Oper} {d : Nat} (hw : want ops Γ o = some false) (hd : o.dst = some d) (hn : Nat.blt d n = true)
    (k : At β n ((d, undef) :: Γ) H F (wpList P ops Q rest)) : At β n Γ H F (wpList P ops Q (o :: rest)) := by
  intro a w S f s hk
  unfold wpList
  rw [f.want hw, if_neg (by simp), hd]
  exact k _ _ S (f.put (by simpa [Nat.blt_eq] using hn) undef) s hk

/-- the same in a region that draws its order -/
def AtQ (P : Program) (ops : Array Oper) (β : Base) (n : Nat) (Γ : Env) (H : List Chunk) (F : List Fact) (K : Act → World → Prop) (l : List Oper) : Prop :=
  ∀ a, Fits n Γ a → wpQuiet P ops (StF β H F) (fun a' => ∀ w', StF β H F w' → K a' w') l a
theorem StF.drew {w : World} (h : StF β H F w) : StF β H F { w with drawn := w.drawn + 1 } := by
  obtain ⟨S, s, k⟩ := h
  exact ⟨S, ⟨⟨s.kept.os, s.kept.tape, s.kept.output, s.kept.size, s.kept.block⟩, fun c hc => Chunk.ok_of (s.ok c hc) (fun _ _ => rfl), s.own, s.sep, s.zone⟩, All.mono (w := w) (S := S) (fun _ h => h) (fun _ _ => rfl) k⟩
theorem at_draw {id : Nat} {l : List Oper} (hm : P.follows .mixedOrders = true) (hB : Region.lexB .any l.toArray = true) (h : AtQ P l.toArray β n Γ H F (Q .normal) l) :
    At β n Γ H F ((Code.region id l.toArray true).wp P Q) := fun a w S f s k =>
  wp_region_quiet (C := StF β H F) hm hB (StF.drew ⟨S, s, k⟩) (by simpa using h a f)
theorem atq_nil {ops : Array Oper} (h : At β n Γ H F K) : AtQ P ops β n Γ H F K [] := fun a f w ⟨S, s, k⟩ => h a w S f s k
theorem atq_det {ops : Array Oper} {rest : List Oper} {o : Oper} {d : Nat} {v : Value} (hw : want ops Γ o = some true) (hd : o.dst = some d) (hn : Nat.blt d n = true) (h : Det P β n Γ H F o v)
    (k : AtQ P ops β n ((d, v) :: Γ) H F K rest) : AtQ P ops β n Γ H F K (o :: rest) := by
  intro a f
  unfold wpQuiet
  rw [f.want hw, if_pos rfl]
  refine ⟨v, fun w' hw' => h a f w' hw', ?_⟩
  rw [hd]
  exact k _ (f.put (by simpa [Nat.blt_eq] using hn) v)
theorem atq_skipped {ops : Array Oper} {rest : List Oper} {o : Oper} {d : Nat} (hw : want ops Γ o = some false) (hd : o.dst = some d) (hn : Nat.blt d n = true)
    (k : AtQ P ops β n ((d, undef) :: Γ) H F K rest) : AtQ P ops β n Γ H F K (o :: rest) := by
  intro a f
  unfold wpQuiet
  rw [f.want hw, if_neg (by simp), hd]
  exact k _ (f.put (by simpa [Nat.blt_eq] using hn) undef)
/-- a Bool in a slot, decided -/
theorem atq_bool {ops : Array Oper} {l : List Oper} {d : Nat} {t t' : Bool} (ht : t = t') (k : AtQ P ops β n ((d, .bool t') :: Γ) H F K l) : AtQ P ops β n ((d, .bool t) :: Γ) H F K l := by rw [ht]; exact k
theorem at_bool {d : Nat} {t t' : Bool} (ht : t = t') (k : At β n ((d, .bool t') :: Γ) H F K) : At β n ((d, .bool t) :: Γ) H F K := by rw [ht]; exact k
end

end Go.Proofs.YtngkedmndhmjcaaGreatDoor
