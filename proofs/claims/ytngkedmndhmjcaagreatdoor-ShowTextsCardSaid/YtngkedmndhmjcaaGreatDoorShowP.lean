/- Plain: how show writes a program (no program in sight): pieces of text on a stack; and how the reference writes one; that both are the same. -/
import Derived.Test.YtngkedmndhmjcaaGreatDoorExprP
namespace Go.Proofs.YtngkedmndhmjcaaGreatDoor
open Go.RowKit

structure Side where
  name : Bs
  n : Int
  deriving Inhabited, DecidableEq
structure Input where
  name : Bs
  at_ : Int
  sides : List Side
  deriving Inhabited, DecidableEq
structure Line where
  name : Bs
  at_ : Int
  items : List Item
  deriving Inhabited, DecidableEq
structure Prog where
  inputs : List Input
  lines : List Line
  deriving Inhabited, DecidableEq

/-! ### the program's way -/
def verbWords : List Bs := [[43], [45], [42], [37], [124], [109, 105, 110], [109, 97, 120], [61], [126], [60], [60, 61], [62, 61], [62], [97, 110, 100], [111, 114], [112, 111, 119], [114, 104, 111], [116, 97, 107, 101], [100, 114, 111, 112], [99, 97, 116], [105, 111, 116, 97], [115, 104, 97, 112, 101], [114, 97, 118, 101, 108], [114, 101, 118], [116, 117, 114, 110]]
/-- the last of the words that is the function's -/
def lastOf (two : Bool) (f : Int) : List Bs → Bs → Bs
  | [], acc => acc
  | s :: r, acc => lastOf two f r (if verbF s two != 0 && verbF s two == f then s else acc)
def textF (two : Bool) (f : Int) : Bs := lastOf two f verbWords []
structure Piece where
  words : List Bs
  nest : Nat
  tokens : Nat
  plain : Bool
  deriving Inhabited, DecidableEq
def operandS (it : Item) : Option Piece :=
  if it.how = 2 then (if it.fn = 0 ∧ it.nums = [] ∧ nameB it.name = true then some ⟨[it.name], 0, 1, true⟩ else none)
  else if it.fn ≠ 0 ∨ it.name ≠ [] ∨ it.nums = [] ∨ 256 < it.nums.length then none
  else some ⟨it.nums.map spellN, 0, it.nums.length, true⟩
def markS (how : Int) : Bs := if how = 5 then [47] else if how = 6 then [92] else if how = 7 then [46] else []
def verbS (it : Item) : Bs × Nat :=
  if it.how = 3 then (textF false it.fn, 1)
  else if textF true it.fn = [] ∨ it.how = 4 then (textF true it.fn, 1)
  else if 17 < it.fn then ([], 0)
  else (textF true it.fn ++ markS it.how, 2)
def brkEnd : List Bs → List Bs
  | [] => []
  | [w] => [w ++ [41]]
  | w :: r => w :: brkEnd r
def brk : List Bs → List Bs
  | [] => []
  | w :: r => brkEnd (([40] ++ w) :: r)
def leftS (p : Piece) : Piece := if p.plain then p else ⟨brk p.words, p.nest + 1, p.tokens + 2, p.plain⟩
def twoH (how : Int) : Bool := how == 4 || how == 7
def applyS (it : Item) (st : List Piece) : Option (List Piece) :=
  if twoH it.how then match st with
    | p :: q :: r => some (⟨(leftS q).words ++ (verbS it).1 :: p.words, max p.nest (leftS q).nest, p.tokens + (verbS it).2 + (leftS q).tokens, false⟩ :: r)
    | _ => none
  else match st with
    | p :: r => some (⟨(verbS it).1 :: p.words, p.nest, p.tokens + (verbS it).2, false⟩ :: r)
    | [] => none
def stepS (st : List Piece) (it : Item) : Option (List Piece) :=
  if it.how = 1 ∨ it.how = 2 then (operandS it).map (· :: st)
  else if it.how < 3 ∨ 7 < it.how ∨ it.nums ≠ [] ∨ it.name ≠ [] ∨ (verbS it).1 = [] then none
  else applyS it st
def stepsS : List Item → List Piece → Option (List Piece)
  | [], st => some st
  | it :: r, st => match stepS st it with
    | none => none
    | some st' => stepsS r st'
def joinSp : List Bs → Bs
  | [] => []
  | [w] => w
  | w :: r => w ++ 32 :: joinSp r
def exprS (l : List Item) (most : Nat) : Option Bs :=
  if most < l.length then none else match stepsS l [] with
    | some [p] => if most < p.tokens ∨ 32 < p.nest then none else some (joinSp p.words)
    | _ => none
def sidesS : List Side → Bs → Option Bs
  | [], t => some t
  | d :: r, t => if d.name = [] then sidesS r (t ++ ([32] ++ spellN d.n)) else if d.n = 0 ∧ nameB d.name = true then sidesS r (t ++ ([32] ++ d.name)) else none
def inputS (x : Input) : Option Bs := if nameB x.name = false ∨ 4 < x.sides.length then none else sidesS x.sides x.name
def inputsS : List Input → Bs → Bs × Bool
  | [], o => (o, true)
  | x :: r, o => match inputS x with
    | none => (o, false)
    | some t => inputsS r (o ++ (([105, 110, 32] ++ t) ++ [10]))
def linesS : List Line → Bs → Bs × Bool
  | [], o => (o, true)
  | [l], o => match exprS l.items 255 with
    | none => (o, false)
    | some t => if l.name ≠ [] then (o, false) else (o ++ (([111, 117, 116, 32] ++ t) ++ [10]), true)
  | l :: r, o => match exprS l.items 254 with
    | none => (o, false)
    | some t => if nameB l.name = false then (o, false) else linesS r (o ++ (((l.name ++ [58, 32]) ++ t) ++ [10]))
def programS (p : Prog) : Bs × Bool :=
  if p.lines = [] ∨ 64 < p.inputs.length + p.lines.length then ([], false) else match inputsS p.inputs [] with
    | (o, false) => (o, false)
    | (o, true) => linesS p.lines o
def showP (p : Prog) : Bs × Int := if (programS p).2 = false then ([], 50) else if 65536 < (programS p).1.length then ([], 30) else ((programS p).1, 0)

/-! ### the reference's way -/
/-- the first of the words that is the function's -/
def firstOf (two : Bool) (f : Int) : List Bs → Bs
  | [] => []
  | s :: r => if verbF s two != 0 && verbF s two == f then s else firstOf two f r
structure Part where
  s : Bs
  plain : Bool
  tokens : Nat
  nest : Nat
  deriving Inhabited, DecidableEq
def numsR : List Int → Bs → Bs
  | [], s => s
  | n :: r, s => numsR r ((s ++ [32]) ++ spellN n)
def numsR0 : List Int → Bs
  | [] => []
  | n :: r => numsR r (spellN n)
def noPart : Part := ⟨[], false, 0, 0⟩
def operandR (x : Item) : Part :=
  if x.fn ≠ 0 then noPart
  else if x.how = 2 then (if x.nums ≠ [] ∨ nameB x.name = false then noPart else ⟨x.name, true, 1, 0⟩)
  else if x.name ≠ [] ∨ 256 < x.nums.length then noPart
  else ⟨numsR0 x.nums, true, x.nums.length, 0⟩
def brkR (p : Part) : Part := if p.plain then p else ⟨([40] ++ p.s) ++ [41], false, p.tokens + 2, p.nest + 1⟩
def takesB (f : Int) : Bool := decide (1 ≤ f ∧ f ≤ 17 ∧ f ≠ 16)
def verbR (x : Item) : Bs × Nat :=
  let w := firstOf (x.how != 3) x.fn verbWords
  if w = [] ∨ x.how ≠ 3 ∧ x.how ≠ 4 ∧ takesB x.fn = false then ([], 1) else (w ++ markS x.how, if 5 ≤ x.how then 2 else 1)
/-- the texts, the first one ahead -/
def stepR (l : List Part) (x : Item) : Option (List Part) :=
  if x.how = 1 ∨ x.how = 2 then (if 0 < (operandR x).tokens then some (operandR x :: l) else none)
  else if x.how < 3 ∨ 7 < x.how ∨ x.nums ≠ [] ∨ x.name ≠ [] then none
  else if (verbR x).1 = [] then none
  else if twoH x.how then match l with
    | p :: q :: r => some (⟨(((brkR q).s ++ [32]) ++ (verbR x).1 ++ [32]) ++ p.s, false, (brkR q).tokens + (verbR x).2 + p.tokens, max (brkR q).nest p.nest⟩ :: r)
    | _ => none
  else match l with
    | p :: r => some (⟨((verbR x).1 ++ [32]) ++ p.s, false, (verbR x).2 + p.tokens, p.nest⟩ :: r)
    | [] => none
def stepsR : List Item → List Part → Option (List Part)
  | [], st => some st
  | it :: r, st => match stepR st it with
    | none => none
    | some st' => stepsR r st'
def exprR (l : List Item) (ahead : Nat) : Option Bs :=
  if 256 < l.length then none else match stepsR l [] with
    | some [p] => if 256 < p.tokens + ahead ∨ 32 < p.nest then none else some p.s
    | _ => none

/-! ### both are the same -/
def hitB (two : Bool) (f : Int) (s : Bs) : Bool := verbF s two != 0 && verbF s two == f
theorem last_first (two : Bool) (f : Int) : ∀ l : List Bs, l.Pairwise (fun s t => verbF s two = 0 ∨ verbF s two ≠ verbF t two) → ∀ acc, lastOf two f l acc = if l.any (hitB two f) then firstOf two f l else acc
  | [], _, acc => rfl
  | s :: r, h, acc => by
    obtain ⟨h1, h2⟩ := List.pairwise_cons.1 h
    rw [lastOf, firstOf, last_first two f r h2]
    by_cases hs : (verbF s two != 0 && verbF s two == f) = true
    · have hn : r.any (hitB two f) = false := by
        rw [List.any_eq_false]
        intro t ht hb
        simp only [hitB, Bool.and_eq_true, bne_iff_ne, beq_iff_eq] at hb hs
        rcases h1 t ht with h | h
        · exact hs.1 h
        · exact h (hs.2.trans hb.2.symm)
      simp [hs, hn, hitB]
    · simp only [Bool.not_eq_true] at hs
      simp [hs, hitB]
theorem first_none (two : Bool) (f : Int) : ∀ l : List Bs, l.any (hitB two f) = false → firstOf two f l = []
  | [], _ => rfl
  | s :: r, h => by
    rw [List.any_cons, Bool.or_eq_false_iff] at h
    rw [firstOf]
    have : (verbF s two != 0 && verbF s two == f) = false := h.1
    rw [this, first_none two f r h.2]
    rfl
theorem first_text (two : Bool) (f : Int) : firstOf two f verbWords = textF two f := by
  unfold textF
  rw [last_first two f verbWords (by cases two <;> decide)]
  cases h : verbWords.any (hitB two f)
  · rw [first_none two f _ h]; rfl
  · rfl
theorem first_hit (two : Bool) (f : Int) : ∀ l : List Bs, firstOf two f l ≠ [] → firstOf two f l ∈ l ∧ hitB two f (firstOf two f l) = true
  | [], h => absurd rfl h
  | s :: r, h => by
    rw [firstOf] at h ⊢
    by_cases hs : (verbF s two != 0 && verbF s two == f) = true
    · rw [if_pos hs]
      exact ⟨List.mem_cons_self .., hs⟩
    · rw [if_neg hs] at h ⊢
      obtain ⟨h1, h2⟩ := first_hit two f r h
      exact ⟨List.mem_cons_of_mem _ h1, h2⟩
theorem textF_hit {two : Bool} {f : Int} (h : textF two f ≠ []) : textF two f ∈ verbWords ∧ verbF (textF two f) two = f ∧ f ≠ 0 := by
  rw [← first_text] at h ⊢
  obtain ⟨h1, h2⟩ := first_hit two f _ h
  simp only [hitB, Bool.and_eq_true, bne_iff_ne, beq_iff_eq] at h2
  exact ⟨h1, h2.2, fun e => h2.1 (h2.2.trans e)⟩
/-- a word's function of two numbers -/
theorem two_takes {f : Int} (h : textF true f ≠ []) : takesB f = decide (f ≤ 17) := by
  obtain ⟨h1, h2, h3⟩ := textF_hit h
  have key : ∀ s ∈ verbWords, verbF s true ≠ 0 → takesB (verbF s true) = decide (verbF s true ≤ 17) := by decide
  rw [← h2] at h3 ⊢
  have := key _ h1 (by rw [h2] at h3 ⊢; exact h3)
  rw [h2] at this ⊢
  exact this

theorem joinSp_cons (w : Bs) {r : List Bs} (h : r ≠ []) : joinSp (w :: r) = w ++ 32 :: joinSp r := by
  cases r with
  | nil => exact absurd rfl h
  | cons x r => rfl
theorem joinSp_append : ∀ (a b : List Bs), a ≠ [] → b ≠ [] → joinSp (a ++ b) = joinSp a ++ 32 :: joinSp b
  | [], _, h, _ => absurd rfl h
  | [w], b, _, h => joinSp_cons w h
  | w :: x :: a, b, _, h => by
    have := joinSp_append (x :: a) b (by simp) h
    rw [List.cons_append, joinSp_cons w (by simp), this, joinSp_cons w (by simp)]
    simp
theorem brkEnd_ne {l : List Bs} (h : l ≠ []) : brkEnd l ≠ [] := by
  match l, h with
  | [w], _ => simp [brkEnd]
  | w :: x :: r, _ => simp [brkEnd]
theorem join_brkEnd : ∀ l : List Bs, l ≠ [] → joinSp (brkEnd l) = joinSp l ++ [41]
  | [], h => absurd rfl h
  | [w], _ => rfl
  | w :: x :: r, _ => by
    show joinSp (w :: brkEnd (x :: r)) = _
    rw [joinSp_cons w (brkEnd_ne (by simp)), join_brkEnd (x :: r) (by simp), joinSp_cons w (by simp)]
    simp
theorem join_brk {l : List Bs} (h : l ≠ []) : joinSp (brk l) = ([40] ++ joinSp l) ++ [41] := by
  cases l with
  | nil => exact absurd rfl h
  | cons w r =>
    show joinSp (brkEnd _) = _
    rw [join_brkEnd _ (by simp)]
    cases r with
    | nil => simp [joinSp]
    | cons x r => simp [joinSp]
theorem brk_ne {l : List Bs} (h : l ≠ []) : brk l ≠ [] := by
  cases l with
  | nil => exact absurd rfl h
  | cons w r => exact brkEnd_ne (by simp)
theorem numsR_join : ∀ (l : List Int) (s : Bs), numsR l s = match l with
    | [] => s
    | _ => s ++ 32 :: joinSp (l.map spellN)
  | [], s => rfl
  | n :: r, s => by
    rw [numsR, numsR_join r]
    cases r with
    | nil => simp [joinSp]
    | cons m r => simp [joinSp]
theorem numsR0_join (l : List Int) : numsR0 l = joinSp (l.map spellN) := by
  cases l with
  | nil => rfl
  | cons n r =>
    rw [numsR0, numsR_join]
    cases r with
    | nil => rfl
    | cons m r => rfl

/-- a part of the reference's and a piece of the program's -/
structure Like (p : Part) (q : Piece) : Prop where
  s : p.s = joinSp q.words
  plain : p.plain = q.plain
  tokens : p.tokens = q.tokens
  nest : p.nest = q.nest
  ne : q.words ≠ []
theorem Like.brk {p : Part} {q : Piece} (h : Like p q) : Like (brkR p) (leftS q) := by
  unfold brkR leftS
  rw [h.plain]
  cases hq : q.plain
  · simp only [Bool.false_eq_true, if_false]
    exact ⟨by rw [h.s, join_brk h.ne], by simp, by simp [h.tokens], by simp [h.nest], brk_ne h.ne⟩
  · simp only [if_true]
    exact h
theorem operand_like (x : Item) (hx : x.how = 1 ∨ x.how = 2) : match operandS x with
    | none => ¬ 0 < (operandR x).tokens
    | some q => 0 < (operandR x).tokens ∧ Like (operandR x) q := by
  unfold operandS operandR
  rcases hx with hx | hx
  · have h2 : x.how ≠ 2 := by omega
    simp only [h2, if_false]
    by_cases hf : x.fn = 0
    · by_cases hn : x.name = []
      · by_cases h0 : x.nums = []
        · simp [hf, hn, h0]
        · by_cases h256 : 256 < x.nums.length
          · simp [hf, hn, h0, h256, noPart]
          · have hl : 0 < x.nums.length := List.length_pos_iff.2 h0
            simp only [hf, hn, h0, h256, ne_eq, not_true_eq_false, or_self, if_false]
            exact ⟨hl, numsR0_join _, rfl, rfl, rfl, by simpa using h0⟩
      · simp [hf, hn, noPart]
    · simp [hf, noPart]
  · simp only [hx, if_true]
    by_cases hf : x.fn = 0
    · by_cases h0 : x.nums = []
      · cases hn : nameB x.name
        · simp [hf, h0, noPart]
        · simp only [hf, h0, ne_eq, not_true_eq_false, and_self, or_self, Bool.true_eq_false, if_true, if_false]
          exact ⟨by decide, rfl, rfl, rfl, rfl, by simp⟩
      · simp [hf, h0, noPart]
    · simp [hf, noPart]
theorem verb_like {x : Item} (h3 : 3 ≤ x.how) (h7 : x.how ≤ 7) : (verbS x).1 = (verbR x).1 ∧ ((verbS x).1 ≠ [] → (verbS x).2 = (verbR x).2) := by
  unfold verbS verbR
  rw [first_text]
  by_cases e3 : x.how = 3
  · have hb : (x.how != 3) = false := by simp [e3]
    simp only [e3, if_true, ne_eq, not_true_eq_false, false_and, or_false]
    rw [show ((3 : Int) != 3) = false from rfl]
    by_cases ht : textF false x.fn = []
    · simp [ht]
    · simp [ht, markS]
  · have hb : (x.how != 3) = true := by simp [e3]
    simp only [hb, e3, if_false, ne_eq, not_false_eq_true, true_and]
    by_cases ht : textF true x.fn = []
    · simp [ht]
    · rw [two_takes ht]
      by_cases e4 : x.how = 4
      · simp [ht, e4, markS]
      · have h5 : 5 ≤ x.how := by omega
        by_cases h17 : 17 < x.fn
        · have : ¬ x.fn ≤ 17 := by omega
          simp [ht, e4, h17, this]
        · have : x.fn ≤ 17 := by omega
          simp [ht, e4, h17, this, h5]

inductive LikeAll : List Part → List Piece → Prop
  | nil : LikeAll [] []
  | cons {p q a b} : Like p q → LikeAll a b → LikeAll (p :: a) (q :: b)
theorem LikeAll.len {a : List Part} {b : List Piece} (h : LikeAll a b) : a.length = b.length := by induction h <;> simp_all
def OptLike : Option (List Part) → Option (List Piece) → Prop
  | none, none => True
  | some a, some b => LikeAll a b
  | _, _ => False
theorem step_like {a : List Part} {b : List Piece} (h : LikeAll a b) (x : Item) : OptLike (stepR a x) (stepS b x) := by
  unfold stepR stepS
  by_cases ho : x.how = 1 ∨ x.how = 2
  · have := operand_like x ho
    simp only [ho, if_true]
    cases hs : operandS x with
    | none => rw [hs] at this; simp only [Option.map_none]; rw [if_neg this]; trivial
    | some q => rw [hs] at this; simp only [Option.map_some]; rw [if_pos this.1]; exact .cons this.2 h
  · simp only [ho, if_false]
    by_cases hbad : x.how < 3 ∨ 7 < x.how ∨ x.nums ≠ [] ∨ x.name ≠ []
    · rw [if_pos hbad, if_pos (by rcases hbad with h | h | h | h <;> simp [h])]
      trivial
    · rw [if_neg hbad]
      have hb' := hbad
      simp only [not_or] at hb'
      obtain ⟨v1, v2⟩ := verb_like (x := x) (by omega) (by omega)
      by_cases hv : (verbS x).1 = []
      · rw [if_pos (show (verbR x).1 = [] by rw [← v1]; exact hv), if_pos (.inr (.inr (.inr (.inr hv))))]
        trivial
      · have hv' : ¬ (verbR x).1 = [] := by rw [← v1]; exact hv
        have hneg : ¬ (x.how < 3 ∨ 7 < x.how ∨ x.nums ≠ [] ∨ x.name ≠ [] ∨ (verbS x).1 = []) := by
          rintro (h | h | h | h | h)
          · exact hbad (.inl h)
          · exact hbad (.inr (.inl h))
          · exact hbad (.inr (.inr (.inl h)))
          · exact hbad (.inr (.inr (.inr h)))
          · exact hv h
        rw [if_neg hneg, if_neg hv']
        unfold applyS
        cases ht : twoH x.how
        · simp only [Bool.false_eq_true, if_false]
          cases h with
          | nil => trivial
          | cons hp hr =>
            refine .cons ⟨?_, rfl, ?_, hp.nest, by simp⟩ hr
            · simp only
              rw [joinSp_cons _ hp.ne, hp.s, v1]
              simp
            · simp only
              rw [hp.tokens, v2 hv]
              omega
        · simp only [if_true]
          cases h with
          | nil => trivial
          | cons hp hr =>
            cases hr with
            | nil => trivial
            | cons hq hr =>
              have hb := hq.brk
              refine .cons ⟨?_, rfl, ?_, ?_, by simp⟩ hr
              · simp only
                rw [joinSp_append _ _ hb.ne (by simp), joinSp_cons _ hp.ne, hp.s, hb.s, v1]
                simp
              · simp only
                rw [hp.tokens, hb.tokens, v2 hv]
                omega
              · simp only
                rw [hp.nest, hb.nest, Nat.max_comm]
theorem steps_like : ∀ (l : List Item) {a : List Part} {b : List Piece}, LikeAll a b → OptLike (stepsR l a) (stepsS l b)
  | [], _, _, h => h
  | x :: r, a, b, h => by
    have := step_like h x
    rw [stepsR, stepsS]
    cases h1 : stepR a x <;> cases h2 : stepS b x <;> rw [h1, h2] at this
    · trivial
    · exact this.elim
    · exact this.elim
    · exact steps_like r this
/-- each item makes a token at least -/
theorem step_tokens {st st' : List Piece} {x : Item} (h : stepS st x = some st') : (st.map (·.tokens)).sum + 1 ≤ (st'.map (·.tokens)).sum := by
  unfold stepS at h
  split at h
  · unfold operandS at h
    split at h
    · split at h
      · simp at h; subst h; simp; omega
      · simp at h
    · split at h
      · simp at h
      · rename_i hn
        simp at h; subst h
        have : 0 < x.nums.length := List.length_pos_iff.2 fun e => hn (by simp [e])
        simp; omega
  · split at h
    · cases h
    · have hv : 1 ≤ (verbS x).2 ∨ (verbS x).1 = [] := by
        unfold verbS
        split
        · exact .inl (by simp)
        · split
          · exact .inl (by simp)
          · split
            · exact .inr rfl
            · exact .inl (by simp)
      rename_i hn
      have hv : 1 ≤ (verbS x).2 := hv.resolve_right fun e => hn (by simp [e])
      unfold applyS at h
      split at h
      · split at h
        · rename_i p q r
          simp at h; subst h
          have : q.tokens ≤ (leftS q).tokens := by unfold leftS; split <;> simp
          simp only [List.map_cons, List.sum_cons]
          omega
        · cases h
      · split at h
        · simp at h; subst h; simp; omega
        · cases h
theorem steps_tokens : ∀ {l : List Item} {st st' : List Piece}, stepsS l st = some st' → (st.map (·.tokens)).sum + l.length ≤ (st'.map (·.tokens)).sum
  | [], st, st', h => by simp [stepsS] at h; subst h; simp
  | x :: r, st, st', h => by
    rw [stepsS] at h
    cases h1 : stepS st x with
    | none => rw [h1] at h; cases h
    | some s1 =>
      rw [h1] at h
      have := steps_tokens h
      have := step_tokens h1
      simp only [List.length_cons]
      omega
theorem expr_like (l : List Item) (k : Nat) (hk : k ≤ 256) : exprR l k = exprS l (256 - k) := by
  unfold exprR exprS
  have h := steps_like l .nil
  by_cases h0 : 256 - k < l.length
  · rw [if_pos h0]
    split
    · rfl
    · cases hR : stepsR l [] with
      | none => rfl
      | some a =>
        cases hS : stepsS l [] with
        | none => rw [hR, hS] at h; exact h.elim
        | some b =>
          rw [hR, hS] at h
          have ht := steps_tokens hS
          cases h with
          | nil => rfl
          | cons hp hr =>
            cases hr with
            | nil =>
              simp only
              rw [if_pos]
              rw [hp.tokens]
              simp at ht
              omega
            | cons _ _ => rfl
  · rw [if_neg h0, if_neg (by omega)]
    cases hR : stepsR l [] with
    | none =>
      cases hS : stepsS l [] with
      | none => rfl
      | some b => rw [hR, hS] at h; exact h.elim
    | some a =>
      cases hS : stepsS l [] with
      | none => rw [hR, hS] at h; exact h.elim
      | some b =>
        rw [hR, hS] at h
        cases h with
        | nil => rfl
        | cons hp hr =>
          cases hr with
          | cons _ _ => rfl
          | nil =>
            rename_i q
            simp only
            rw [hp.tokens, hp.nest, hp.s]
            have e : (256 < q.tokens + k) ↔ (256 - k < q.tokens) := by omega
            simp only [e]
end Go.Proofs.YtngkedmndhmjcaaGreatDoor
