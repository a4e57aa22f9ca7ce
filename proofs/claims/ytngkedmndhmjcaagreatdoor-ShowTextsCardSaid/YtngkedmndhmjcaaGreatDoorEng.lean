/- An engine for walks: what is known of a frame's slots (an environment), of the blocks that the call owns (chunks), of memory that stays (facts); the rules for code and for operations that yield one value. -/
import Derived.Test.YtngkedmndhmjcaaGreatDoorKit
import Derived.Laws.OwnMore
import Derived.Maps.AppendAt
import Derived.Laws.CopyRow
namespace Go.Proofs.YtngkedmndhmjcaaGreatDoor
open Go.RowKit

/-! ### Environments -/
abbrev Env := List (Nat × Value)
def Env.get : Env → Nat → Option Value
  | [], _ => none
  | (i, v) :: r, j => cond (Nat.beq i j) (some v) (Env.get r j)
def Env.ev (Γ : Env) : Operand → Option Value
  | .tmp t => Γ.get t
  | .const v => some v
  | .global g => some (.pointer (some ⟨g, 0, none⟩))
  | .func f => some (.func (.func f) #[] #[])
def Env.evs (Γ : Env) : List Operand → Option (List Value)
  | [] => some []
  | x :: r => match Γ.ev x with
    | some v => match Γ.evs r with
      | some vs => some (v :: vs)
      | none => none
    | none => none

structure Fits (n : Nat) (Γ : Env) (a : Act) : Prop where
  defers : a.defers = []
  size : n ≤ a.tmps.size
  get : ∀ i v, Γ.get i = some v → a.tmps[i]? = some v

section
variable {n : Nat} {Γ : Env} {a : Act}
theorem Fits.ev (h : Fits n Γ a) {x : Operand} {v : Value} (hx : Γ.ev x = some v) : a.eval x = v := by
  cases x with
  | tmp t => have := h.get t v hx; simp [Act.eval, Array.getD_eq_getD_getElem?, this]
  | const u => simp [Env.ev] at hx; exact hx
  | global g => simp [Env.ev] at hx; exact hx
  | func f => simp [Env.ev] at hx; exact hx
theorem Fits.evs (h : Fits n Γ a) : ∀ {xs : List Operand} {vs : List Value}, Γ.evs xs = some vs → xs.map a.eval = vs
  | [], vs, hx => by simp [Env.evs] at hx; simp [hx]
  | x :: r, vs, hx => by
    unfold Env.evs at hx
    cases hv : Γ.ev x with
    | none => simp [hv] at hx
    | some v =>
      cases hr : Γ.evs r with
      | none => simp [hv, hr] at hx
      | some us =>
        simp [hv, hr] at hx
        subst hx
        simp [h.ev hv, h.evs hr]
theorem Fits.put (h : Fits n Γ a) {d : Nat} (hd : d < n) (v : Value) : Fits n ((d, v) :: Γ) (a.put (some d) v) := by
  refine ⟨h.defers, by simpa [Act.put] using h.size, fun i u hu => ?_⟩
  have hlt : d < a.tmps.size := Nat.lt_of_lt_of_le hd h.size
  unfold Env.get at hu
  by_cases e : d = i
  · subst e
    simp at hu
    subst hu
    simp [Act.put, hlt]
  · have : Nat.beq d i = false := by
      cases hb : Nat.beq d i with
      | false => rfl
      | true => exact absurd (Nat.eq_of_beq_eq_true hb) e
    simp [this] at hu
    simp [Act.put, e, h.get i u hu]
theorem Fits.put_none (h : Fits n Γ a) (v : Value) : Fits n Γ (a.put none v) := h
/-- what is asked of a smaller environment -/
def Env.Sub (Γ : Env) : Env → Prop
  | [] => True
  | (i, v) :: r => Γ.get i = some v ∧ Env.Sub Γ r
theorem Env.Sub.get {Γ : Env} : ∀ {Δ : Env}, Γ.Sub Δ → ∀ i v, Δ.get i = some v → Γ.get i = some v
  | [], _, i, v, h => by simp [Env.get] at h
  | (j, u) :: r, hs, i, v, h => by
    unfold Env.get at h
    cases hb : Nat.beq j i with
    | true =>
      have := Nat.eq_of_beq_eq_true hb
      subst this
      simp at h
      rw [← h]
      exact hs.1
    | false =>
      simp [hb] at h
      exact Env.Sub.get hs.2 i v h
theorem Fits.sub (h : Fits n Γ a) {Δ : Env} (hs : Γ.Sub Δ) : Fits n Δ a := ⟨h.defers, h.size, fun i v hv => h.get i v (hs.get i v hv)⟩
end

/-! ### Facts: what is known of memory that stays -/
abbrev Zone := Nat → Prop
def Agree (S : Zone) (w w' : World) : Prop := ∀ b, S b → w'.heap[b]? = w.heap[b]?
structure Fact where
  p : Zone → World → Prop
  mono : ∀ {S S' : Zone} {w w' : World}, (∀ b, S b → S' b) → Agree S w w' → p S w → p S' w'
def All (F : List Fact) (S : Zone) (w : World) : Prop := ∀ f ∈ F, f.p S w
theorem All.mono {F : List Fact} {S S' : Zone} {w w' : World} (hs : ∀ b, S b → S' b) (ha : Agree S w w') (h : All F S w) : All F S' w' := fun f hf => f.mono hs ha (h f hf)
theorem All.cons {f : Fact} {F : List Fact} {S : Zone} {w : World} (h : f.p S w) (k : All F S w) : All (f :: F) S w := fun g hg => by
  rcases List.mem_cons.1 hg with rfl | hg
  · exact h
  · exact k g hg
theorem All.append {F G : List Fact} {S : Zone} {w : World} (h : All F S w) (k : All G S w) : All (F ++ G) S w := fun g hg => by
  rcases List.mem_append.1 hg with hg | hg
  · exact h g hg
  · exact k g hg
def Fact.pure (c : Prop) : Fact := ⟨fun _ _ => c, fun _ _ h => h⟩
/-- what F says of every world -/
def Has (F : List Fact) (g : Fact) : Prop := ∀ S w, All F S w → g.p S w
theorem Has.of {F : List Fact} {g : Fact} (h : g ∈ F) : Has F g := fun _ _ k => k g h
theorem Has.pure {F : List Fact} {c : Prop} (h : c) : Has F (Fact.pure c) := fun _ _ _ => h
def HasAll (F : List Fact) : List Fact → Prop
  | [] => True
  | g :: G => Has F g ∧ HasAll F G
theorem HasAll.all {F : List Fact} : ∀ {G : List Fact}, HasAll F G → ∀ S w, All F S w → All G S w
  | [], _, _, _, _ => fun g hg => by simp at hg
  | g :: G, h, S, w, k => All.cons (h.1 S w k) (HasAll.all h.2 S w k)

/-! ### Chunks: blocks of the call's own -/
inductive Chunk where
  | obj (b : Nat) (o : Obj)
  | row (v : Value) (t : TypeId) (size n : Nat) (cs : List Value)
  | gen (b : Option Nat) (p : Option Obj → Prop)
def Chunk.blk : Chunk → Option Nat
  | .obj b _ => some b
  | .row v _ _ _ _ => v.ownBlock
  | .gen b _ => b
def Chunk.ok (w : World) : Chunk → Prop
  | .obj b o => w.heap[b]? = some o
  | .row v t size n cs => w.ownsRow 0 t size v n cs
  | .gen b p => p (b.bind fun i => w.heap[i]?)

/-- what was there is as it was, but for the blocks M -/
structure Kept (M : Zone) (w0 w : World) : Prop where
  os : w.os = w0.os
  tape : w.tape = w0.tape
  output : w.output = w0.output
  size : w0.heap.size ≤ w.heap.size
  block : ∀ b, b < w0.heap.size → ¬ M b → w.heap[b]? = w0.heap[b]?
theorem Kept.refl (M : Zone) (w : World) : Kept M w w := ⟨rfl, rfl, rfl, Nat.le_refl _, fun _ _ _ => rfl⟩
theorem Kept.trans {M M' : Zone} {a b c : World} (h : Kept M a b) (k : Kept M' b c) (hm : ∀ i, M' i → M i ∨ a.heap.size ≤ i) : Kept M a c :=
  ⟨k.os.trans h.os, k.tape.trans h.tape, k.output.trans h.output, Nat.le_trans h.size k.size, fun i hi hn => (k.block i (Nat.lt_of_lt_of_le hi h.size) (fun hm' => by rcases hm i hm' with h' | h'; exact hn h'; omega)).trans (h.block i hi hn)⟩
theorem Kept.below {w0 w : World} (h : Kept (fun _ => False) w0 w) : Below w0.heap.size w0 w := ⟨h.os, h.tape, h.output, h.size, fun k hk => h.block k hk (fun e => e)⟩
theorem Kept.of_below {w0 w : World} (M : Zone) (h : Below w0.heap.size w0 w) : Kept M w0 w := ⟨h.os, h.tape, h.output, h.size, fun k hk _ => h.block k hk⟩

/-- where a call began: its world, the blocks that it may write, what it may read -/
structure Base where
  w : World
  M : Zone
  S : Zone

structure St (β : Base) (H : List Chunk) (S : Zone) (w : World) : Prop where
  kept : Kept β.M β.w w
  ok : ∀ c ∈ H, c.ok w
  own : ∀ c ∈ H, ∀ b, c.blk = some b → b < w.heap.size ∧ (β.M b ∨ β.w.heap.size ≤ b) ∧ ¬ S b
  sep : H.Pairwise fun c d => ∀ b, c.blk = some b → d.blk ≠ some b
  zone : ∀ b, S b → b < w.heap.size ∧ (β.S b ∨ β.M b ∨ β.w.heap.size ≤ b)

def At (β : Base) (n : Nat) (Γ : Env) (H : List Chunk) (F : List Fact) (K : Act → World → Prop) : Prop :=
  ∀ a w S, Fits n Γ a → St β H S w → All F S w → K a w

/-! ### A world further on -/
theorem Chunk.ok_of {w w' : World} {c : Chunk} (h : c.ok w) (hs : ∀ b, c.blk = some b → w'.heap[b]? = w.heap[b]?) : c.ok w' := by
  cases c with
  | obj b o => exact (hs b rfl).trans h
  | row v t size n cs =>
    refine ⟨h.1, ?_⟩
    rcases h.2 with h | ⟨g, cap, cur, e, h1, h2, h3⟩
    · exact .inl h
    · subst e
      exact .inr ⟨g, cap, cur, rfl, h1, (hs g rfl).trans h2, h3⟩
  | gen b p =>
    cases b with
    | none => exact h
    | some i =>
      show p (w'.heap[i]?)
      rw [hs i rfl]
      exact h

/-- the world has grown; of what was there only blocks M' have changed, and none of them is owned or read -/
theorem St.grow {β : Base} {H : List Chunk} {S : Zone} {w w' : World} {M' : Zone} (h : St β H S w) (k : Kept M' w w') (hM : ∀ b, M' b → (β.M b ∨ β.w.heap.size ≤ b)) (hH : ∀ c ∈ H, ∀ b, c.blk = some b → ¬ M' b) : St β H S w' where
  kept := h.kept.trans k hM
  ok := fun c hc => Chunk.ok_of (h.ok c hc) fun b hb => k.block b (h.own c hc b hb).1 (hH c hc b hb)
  own := fun c hc b hb => ⟨Nat.lt_of_lt_of_le (h.own c hc b hb).1 k.size, (h.own c hc b hb).2⟩
  sep := h.sep
  zone := fun b hb => ⟨Nat.lt_of_lt_of_le (h.zone b hb).1 k.size, (h.zone b hb).2⟩

end Go.Proofs.YtngkedmndhmjcaaGreatDoor
