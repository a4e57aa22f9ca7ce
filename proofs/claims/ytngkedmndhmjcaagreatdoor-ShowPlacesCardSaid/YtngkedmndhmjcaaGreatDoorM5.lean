/- Texts of one proof, one behind the other: ShowP, ParseP, ParseB. -/
import Derived.Test.YtngkedmndhmjcaaGreatDoorM4
/- Plain: how show writes a program (no program in sight): pieces of text on a stack; and how the reference writes one; that both are the same. -/
namespace Go.Proofs.YtngkedmndhmjcaaGreatDoor
open Go.RowKit

structure Side where
  name : Bs
  n : Int
  deriving Inhabited, DecidableEq
structure Input where
  name : Bs
  at_ : Int
  sides : List Side
  deriving Inhabited, DecidableEq
structure Line where
  name : Bs
  at_ : Int
  items : List Item
  deriving Inhabited, DecidableEq
structure Prog where
  inputs : List Input
  lines : List Line
  deriving Inhabited, DecidableEq

/-! ### the program's way -/
def verbWords : List Bs := [[43], [45], [42], [37], [124], [109, 105, 110], [109, 97, 120], [61], [126], [60], [60, 61], [62, 61], [62], [97, 110, 100], [111, 114], [112, 111, 119], [114, 104, 111], [116, 97, 107, 101], [100, 114, 111, 112], [99, 97, 116], [105, 111, 116, 97], [115, 104, 97, 112, 101], [114, 97, 118, 101, 108], [114, 101, 118], [116, 117, 114, 110]]
/-- the last of the words that is the function's -/
def lastOf (two : Bool) (f : Int) : List Bs → Bs → Bs
  | [], acc => acc
  | s :: r, acc => lastOf two f r (if verbF s two != 0 && verbF s two == f then s else acc)
def textF (two : Bool) (f : Int) : Bs := lastOf two f verbWords []
structure Piece where
  words : List Bs
  nest : Nat
  tokens : Nat
  plain : Bool
  deriving Inhabited, DecidableEq
def operandS (it : Item) : Option Piece :=
  if it.how = 2 then (if it.fn = 0 ∧ it.nums = [] ∧ nameB it.name = true then some ⟨[it.name], 0, 1, true⟩ else none)
  else if it.fn ≠ 0 ∨ it.name ≠ [] ∨ it.nums = [] ∨ 256 < it.nums.length then none
  else some ⟨it.nums.map spellN, 0, it.nums.length, true⟩
def markS (how : Int) : Bs := if how = 5 then [47] else if how = 6 then [92] else if how = 7 then [46] else []
def verbS (it : Item) : Bs × Nat :=
  if it.how = 3 then (textF false it.fn, 1)
  else if textF true it.fn = [] ∨ it.how = 4 then (textF true it.fn, 1)
  else if 17 < it.fn then ([], 0)
  else (textF true it.fn ++ markS it.how, 2)
def brkEnd : List Bs → List Bs
  | [] => []
  | [w] => [w ++ [41]]
  | w :: r => w :: brkEnd r
def brk : List Bs → List Bs
  | [] => []
  | w :: r => brkEnd (([40] ++ w) :: r)
def leftS (p : Piece) : Piece := if p.plain then p else ⟨brk p.words, p.nest + 1, p.tokens + 2, p.plain⟩
def twoH (how : Int) : Bool := how == 4 || how == 7
def applyS (it : Item) (st : List Piece) : Option (List Piece) :=
  if twoH it.how then match st with
    | p :: q :: r => some (⟨(leftS q).words ++ (verbS it).1 :: p.words, max p.nest (leftS q).nest, p.tokens + (verbS it).2 + (leftS q).tokens, false⟩ :: r)
    | _ => none
  else match st with
    | p :: r => some (⟨(verbS it).1 :: p.words, p.nest, p.tokens + (verbS it).2, false⟩ :: r)
    | [] => none
def stepS (st : List Piece) (it : Item) : Option (List Piece) :=
  if it.how = 1 ∨ it.how = 2 then (operandS it).map (· :: st)
  else if it.how < 3 ∨ 7 < it.how ∨ it.nums ≠ [] ∨ it.name ≠ [] ∨ (verbS it).1 = [] then none
  else applyS it st
def stepsS : List Item → List Piece → Option (List Piece)
  | [], st => some st
  | it :: r, st => match stepS st it with
    | none => none
    | some st' => stepsS r st'
def joinSp : List Bs → Bs
  | [] => []
  | [w] => w
  | w :: r => w ++ 32 :: joinSp r
def exprS (l : List Item) (most : Nat) : Option Bs :=
  if most < l.length then none else match stepsS l [] with
    | some [p] => if most < p.tokens ∨ 32 < p.nest then none else some (joinSp p.words)
    | _ => none
def sidesS : List Side → Bs → Option Bs
  | [], t => some t
  | d :: r, t => if d.name = [] then sidesS r (t ++ ([32] ++ spellN d.n)) else if d.n = 0 ∧ nameB d.name = true then sidesS r (t ++ ([32] ++ d.name)) else none
def inputS (x : Input) : Option Bs := if nameB x.name = false ∨ 4 < x.sides.length then none else sidesS x.sides x.name
def inputsS : List Input → Bs → Bs × Bool
  | [], o => (o, true)
  | x :: r, o => match inputS x with
    | none => (o, false)
    | some t => inputsS r (o ++ (([105, 110, 32] ++ t) ++ [10]))
def linesS : List Line → Bs → Bs × Bool
  | [], o => (o, true)
  | [l], o => match exprS l.items 255 with
    | none => (o, false)
    | some t => if l.name ≠ [] then (o, false) else (o ++ (([111, 117, 116, 32] ++ t) ++ [10]), true)
  | l :: r, o => match exprS l.items 254 with
    | none => (o, false)
    | some t => if nameB l.name = false then (o, false) else linesS r (o ++ (((l.name ++ [58, 32]) ++ t) ++ [10]))
def programS (p : Prog) : Bs × Bool :=
  if p.lines = [] ∨ 64 < p.inputs.length + p.lines.length then ([], false) else match inputsS p.inputs [] with
    | (o, false) => (o, false)
    | (o, true) => linesS p.lines o
def showP (p : Prog) : Bs × Int := if (programS p).2 = false then ([], 50) else if 65536 < (programS p).1.length then ([], 30) else ((programS p).1, 0)

/-! ### the reference's way -/
/-- the first of the words that is the function's -/
def firstOf (two : Bool) (f : Int) : List Bs → Bs
  | [] => []
  | s :: r => if verbF s two != 0 && verbF s two == f then s else firstOf two f r
structure Part where
  s : Bs
  plain : Bool
  tokens : Nat
  nest : Nat
  deriving Inhabited, DecidableEq
def numsR : List Int → Bs → Bs
  | [], s => s
  | n :: r, s => numsR r ((s ++ [32]) ++ spellN n)
def numsR0 : List Int → Bs
  | [] => []
  | n :: r => numsR r (spellN n)
def noPart : Part := ⟨[], false, 0, 0⟩
def operandR (x : Item) : Part :=
  if x.fn ≠ 0 then noPart
  else if x.how = 2 then (if x.nums ≠ [] ∨ nameB x.name = false then noPart else ⟨x.name, true, 1, 0⟩)
  else if x.name ≠ [] ∨ 256 < x.nums.length then noPart
  else ⟨numsR0 x.nums, true, x.nums.length, 0⟩
def brkR (p : Part) : Part := if p.plain then p else ⟨([40] ++ p.s) ++ [41], false, p.tokens + 2, p.nest + 1⟩
def takesB (f : Int) : Bool := decide (1 ≤ f ∧ f ≤ 17 ∧ f ≠ 16)
def verbR (x : Item) : Bs × Nat :=
  let w := firstOf (x.how != 3) x.fn verbWords
  if w = [] ∨ x.how ≠ 3 ∧ x.how ≠ 4 ∧ takesB x.fn = false then ([], 1) else (w ++ markS x.how, if 5 ≤ x.how then 2 else 1)
/-- the texts, the first one ahead -/
def stepR (l : List Part) (x : Item) : Option (List Part) :=
  if x.how = 1 ∨ x.how = 2 then (if 0 < (operandR x).tokens then some (operandR x :: l) else none)
  else if x.how < 3 ∨ 7 < x.how ∨ x.nums ≠ [] ∨ x.name ≠ [] then none
  else if (verbR x).1 = [] then none
  else if twoH x.how then match l with
    | p :: q :: r => some (⟨(((brkR q).s ++ [32]) ++ (verbR x).1 ++ [32]) ++ p.s, false, (brkR q).tokens + (verbR x).2 + p.tokens, max (brkR q).nest p.nest⟩ :: r)
    | _ => none
  else match l with
    | p :: r => some (⟨((verbR x).1 ++ [32]) ++ p.s, false, (verbR x).2 + p.tokens, p.nest⟩ :: r)
    | [] => none
def stepsR : List Item → List Part → Option (List Part)
  | [], st => some st
  | it :: r, st => match stepR st it with
    | none => none
    | some st' => stepsR r st'
def exprR (l : List Item) (ahead : Nat) : Option Bs :=
  if 256 < l.length then none else match stepsR l [] with
    | some [p] => if 256 < p.tokens + ahead ∨ 32 < p.nest then none else some p.s
    | _ => none

/-! ### both are the same -/
def hitB (two : Bool) (f : Int) (s : Bs) : Bool := verbF s two != 0 && verbF s two == f
theorem last_first (two : Bool) (f : Int) : ∀ l : List Bs, l.Pairwise (fun s t => verbF s two = 0 ∨ verbF s two ≠ verbF t two) → ∀ acc, lastOf two f l acc = if l.any (hitB two f) then firstOf two f l else acc
  | [], _, acc => rfl
  | s :: r, h, acc => by
    obtain ⟨h1, h2⟩ := List.pairwise_cons.1 h
    rw [lastOf, firstOf, last_first two f r h2]
    by_cases hs : (verbF s two != 0 && verbF s two == f) = true
    · have hn : r.any (hitB two f) = false := by
        rw [List.any_eq_false]
        intro t ht hb
        simp only [hitB, Bool.and_eq_true, bne_iff_ne, beq_iff_eq] at hb hs
        rcases h1 t ht with h | h
        · exact hs.1 h
        · exact h (hs.2.trans hb.2.symm)
      simp [hs, hn, hitB]
    · simp only [Bool.not_eq_true] at hs
      simp [hs, hitB]
theorem first_none (two : Bool) (f : Int) : ∀ l : List Bs, l.any (hitB two f) = false → firstOf two f l = []
  | [], _ => rfl
  | s :: r, h => by
    rw [List.any_cons, Bool.or_eq_false_iff] at h
    rw [firstOf]
    have : (verbF s two != 0 && verbF s two == f) = false := h.1
    rw [this, first_none two f r h.2]
    rfl
theorem first_text (two : Bool) (f : Int) : firstOf two f verbWords = textF two f := by
  unfold textF
  rw [last_first two f verbWords (by cases two <;> decide)]
  cases h : verbWords.any (hitB two f)
  · rw [first_none two f _ h]; rfl
  · rfl
theorem first_hit (two : Bool) (f : Int) : ∀ l : List Bs, firstOf two f l ≠ [] → firstOf two f l ∈ l ∧ hitB two f (firstOf two f l) = true
  | [], h => absurd rfl h
  | s :: r, h => by
    rw [firstOf] at h ⊢
    by_cases hs : (verbF s two != 0 && verbF s two == f) = true
    · rw [if_pos hs]
      exact ⟨List.mem_cons_self .., hs⟩
    · rw [if_neg hs] at h ⊢
      obtain ⟨h1, h2⟩ := first_hit two f r h
      exact ⟨List.mem_cons_of_mem _ h1, h2⟩
theorem textF_hit {two : Bool} {f : Int} (h : textF two f ≠ []) : textF two f ∈ verbWords ∧ verbF (textF two f) two = f ∧ f ≠ 0 := by
  rw [← first_text] at h ⊢
  obtain ⟨h1, h2⟩ := first_hit two f _ h
  simp only [hitB, Bool.and_eq_true, bne_iff_ne, beq_iff_eq] at h2
  exact ⟨h1, h2.2, fun e => h2.1 (h2.2.trans e)⟩
/-- a word's function of two numbers -/
theorem two_takes {f : Int} (h : textF true f ≠ []) : takesB f = decide (f ≤ 17) := by
  obtain ⟨h1, h2, h3⟩ := textF_hit h
  have key : ∀ s ∈ verbWords, verbF s true ≠ 0 → takesB (verbF s true) = decide (verbF s true ≤ 17) := by decide
  rw [← h2] at h3 ⊢
  have := key _ h1 (by rw [h2] at h3 ⊢; exact h3)
  rw [h2] at this ⊢
  exact this

theorem joinSp_cons (w : Bs) {r : List Bs} (h : r ≠ []) : joinSp (w :: r) = w ++ 32 :: joinSp r := by
  cases r with
  | nil => exact absurd rfl h
  | cons x r => rfl
theorem joinSp_append : ∀ (a b : List Bs), a ≠ [] → b ≠ [] → joinSp (a ++ b) = joinSp a ++ 32 :: joinSp b
  | [], _, h, _ => absurd rfl h
  | [w], b, _, h => joinSp_cons w h
  | w :: x :: a, b, _, h => by
    have := joinSp_append (x :: a) b (by simp) h
    rw [List.cons_append, joinSp_cons w (by simp), this, joinSp_cons w (by simp)]
    simp
theorem brkEnd_ne {l : List Bs} (h : l ≠ []) : brkEnd l ≠ [] := by
  match l, h with
  | [w], _ => simp [brkEnd]
  | w :: x :: r, _ => simp [brkEnd]
theorem join_brkEnd : ∀ l : List Bs, l ≠ [] → joinSp (brkEnd l) = joinSp l ++ [41]
  | [], h => absurd rfl h
  | [w], _ => rfl
  | w :: x :: r, _ => by
    show joinSp (w :: brkEnd (x :: r)) = _
    rw [joinSp_cons w (brkEnd_ne (by simp)), join_brkEnd (x :: r) (by simp), joinSp_cons w (by simp)]
    simp
theorem join_brk {l : List Bs} (h : l ≠ []) : joinSp (brk l) = ([40] ++ joinSp l) ++ [41] := by
  cases l with
  | nil => exact absurd rfl h
  | cons w r =>
    show joinSp (brkEnd _) = _
    rw [join_brkEnd _ (by simp)]
    cases r with
    | nil => simp [joinSp]
    | cons x r => simp [joinSp]
theorem brk_ne {l : List Bs} (h : l ≠ []) : brk l ≠ [] := by
  cases l with
  | nil => exact absurd rfl h
  | cons w r => exact brkEnd_ne (by simp)
theorem numsR_join : ∀ (l : List Int) (s : Bs), numsR l s = match l with
    | [] => s
    | _ => s ++ 32 :: joinSp (l.map spellN)
  | [], s => rfl
  | n :: r, s => by
    rw [numsR, numsR_join r]
    cases r with
    | nil => simp [joinSp]
    | cons m r => simp [joinSp]
theorem numsR0_join (l : List Int) : numsR0 l = joinSp (l.map spellN) := by
  cases l with
  | nil => rfl
  | cons n r =>
    rw [numsR0, numsR_join]
    cases r with
    | nil => rfl
    | cons m r => rfl

/-- a part of the reference's and a piece of the program's -/
structure Like (p : Part) (q : Piece) : Prop where
  s : p.s = joinSp q.words
  plain : p.plain = q.plain
  tokens : p.tokens = q.tokens
  nest : p.nest = q.nest
  ne : q.words ≠ []
theorem Like.brk {p : Part} {q : Piece} (h : Like p q) : Like (brkR p) (leftS q) := by
  unfold brkR leftS
  rw [h.plain]
  cases hq : q.plain
  · simp only [Bool.false_eq_true, if_false]
    exact ⟨by rw [h.s, join_brk h.ne], by simp, by simp [h.tokens], by simp [h.nest], brk_ne h.ne⟩
  · simp only [if_true]
    exact h
theorem operand_like (x : Item) (hx : x.how = 1 ∨ x.how = 2) : match operandS x with
    | none => ¬ 0 < (operandR x).tokens
    | some q => 0 < (operandR x).tokens ∧ Like (operandR x) q := by
  unfold operandS operandR
  rcases hx with hx | hx
  · have h2 : x.how ≠ 2 := by omega
    simp only [h2, if_false]
    by_cases hf : x.fn = 0
    · by_cases hn : x.name = []
      · by_cases h0 : x.nums = []
        · simp [hf, hn, h0]
        · by_cases h256 : 256 < x.nums.length
          · simp [hf, hn, h0, h256, noPart]
          · have hl : 0 < x.nums.length := List.length_pos_iff.2 h0
            simp only [hf, hn, h0, h256, ne_eq, not_true_eq_false, or_self, if_false]
            exact ⟨hl, numsR0_join _, rfl, rfl, rfl, by simpa using h0⟩
      · simp [hf, hn, noPart]
    · simp [hf, noPart]
  · simp only [hx, if_true]
    by_cases hf : x.fn = 0
    · by_cases h0 : x.nums = []
      · cases hn : nameB x.name
        · simp [hf, h0, noPart]
        · simp only [hf, h0, ne_eq, not_true_eq_false, and_self, or_self, Bool.true_eq_false, if_true, if_false]
          exact ⟨by decide, rfl, rfl, rfl, rfl, by simp⟩
      · simp [hf, h0, noPart]
    · simp [hf, noPart]
theorem verb_like {x : Item} (h3 : 3 ≤ x.how) (h7 : x.how ≤ 7) : (verbS x).1 = (verbR x).1 ∧ ((verbS x).1 ≠ [] → (verbS x).2 = (verbR x).2) := by
  unfold verbS verbR
  rw [first_text]
  by_cases e3 : x.how = 3
  · have hb : (x.how != 3) = false := by simp [e3]
    simp only [e3, if_true, ne_eq, not_true_eq_false, false_and, or_false]
    rw [show ((3 : Int) != 3) = false from rfl]
    by_cases ht : textF false x.fn = []
    · simp [ht]
    · simp [ht, markS]
  · have hb : (x.how != 3) = true := by simp [e3]
    simp only [hb, e3, if_false, ne_eq, not_false_eq_true, true_and]
    by_cases ht : textF true x.fn = []
    · simp [ht]
    · rw [two_takes ht]
      by_cases e4 : x.how = 4
      · simp [ht, e4, markS]
      · have h5 : 5 ≤ x.how := by omega
        by_cases h17 : 17 < x.fn
        · have : ¬ x.fn ≤ 17 := by omega
          simp [ht, e4, h17, this]
        · have : x.fn ≤ 17 := by omega
          simp [ht, e4, h17, this, h5]

inductive LikeAll : List Part → List Piece → Prop
  | nil : LikeAll [] []
  | cons {p q a b} : Like p q → LikeAll a b → LikeAll (p :: a) (q :: b)
theorem LikeAll.len {a : List Part} {b : List Piece} (h : LikeAll a b) : a.length = b.length := by induction h <;> simp_all
def OptLike : Option (List Part) → Option (List Piece) → Prop
  | none, none => True
  | some a, some b => LikeAll a b
  | _, _ => False
theorem step_like {a : List Part} {b : List Piece} (h : LikeAll a b) (x : Item) : OptLike (stepR a x) (stepS b x) := by
  unfold stepR stepS
  by_cases ho : x.how = 1 ∨ x.how = 2
  · have := operand_like x ho
    simp only [ho, if_true]
    cases hs : operandS x with
    | none => rw [hs] at this; simp only [Option.map_none]; rw [if_neg this]; trivial
    | some q => rw [hs] at this; simp only [Option.map_some]; rw [if_pos this.1]; exact .cons this.2 h
  · simp only [ho, if_false]
    by_cases hbad : x.how < 3 ∨ 7 < x.how ∨ x.nums ≠ [] ∨ x.name ≠ []
    · rw [if_pos hbad, if_pos (by rcases hbad with h | h | h | h <;> simp [h])]
      trivial
    · rw [if_neg hbad]
      have hb' := hbad
      simp only [not_or] at hb'
      obtain ⟨v1, v2⟩ := verb_like (x := x) (by omega) (by omega)
      by_cases hv : (verbS x).1 = []
      · rw [if_pos (show (verbR x).1 = [] by rw [← v1]; exact hv), if_pos (.inr (.inr (.inr (.inr hv))))]
        trivial
      · have hv' : ¬ (verbR x).1 = [] := by rw [← v1]; exact hv
        have hneg : ¬ (x.how < 3 ∨ 7 < x.how ∨ x.nums ≠ [] ∨ x.name ≠ [] ∨ (verbS x).1 = []) := by
          rintro (h | h | h | h | h)
          · exact hbad (.inl h)
          · exact hbad (.inr (.inl h))
          · exact hbad (.inr (.inr (.inl h)))
          · exact hbad (.inr (.inr (.inr h)))
          · exact hv h
        rw [if_neg hneg, if_neg hv']
        unfold applyS
        cases ht : twoH x.how
        · simp only [Bool.false_eq_true, if_false]
          cases h with
          | nil => trivial
          | cons hp hr =>
            refine .cons ⟨?_, rfl, ?_, hp.nest, by simp⟩ hr
            · simp only
              rw [joinSp_cons _ hp.ne, hp.s, v1]
              simp
            · simp only
              rw [hp.tokens, v2 hv]
              omega
        · simp only [if_true]
          cases h with
          | nil => trivial
          | cons hp hr =>
            cases hr with
            | nil => trivial
            | cons hq hr =>
              have hb := hq.brk
              refine .cons ⟨?_, rfl, ?_, ?_, by simp⟩ hr
              · simp only
                rw [joinSp_append _ _ hb.ne (by simp), joinSp_cons _ hp.ne, hp.s, hb.s, v1]
                simp
              · simp only
                rw [hp.tokens, hb.tokens, v2 hv]
                omega
              · simp only
                rw [hp.nest, hb.nest, Nat.max_comm]
theorem steps_like : ∀ (l : List Item) {a : List Part} {b : List Piece}, LikeAll a b → OptLike (stepsR l a) (stepsS l b)
  | [], _, _, h => h
  | x :: r, a, b, h => by
    have := step_like h x
    rw [stepsR, stepsS]
    cases h1 : stepR a x <;> cases h2 : stepS b x <;> rw [h1, h2] at this
    · trivial
    · exact this.elim
    · exact this.elim
    · exact steps_like r this
/-- each item makes a token at least -/
theorem step_tokens {st st' : List Piece} {x : Item} (h : stepS st x = some st') : (st.map (·.tokens)).sum + 1 ≤ (st'.map (·.tokens)).sum := by
  unfold stepS at h
  split at h
  · unfold operandS at h
    split at h
    · split at h
      · simp at h; subst h; simp; omega
      · simp at h
    · split at h
      · simp at h
      · rename_i hn
        simp at h; subst h
        have : 0 < x.nums.length := List.length_pos_iff.2 fun e => hn (by simp [e])
        simp; omega
  · split at h
    · cases h
    · have hv : 1 ≤ (verbS x).2 ∨ (verbS x).1 = [] := by
        unfold verbS
        split
        · exact .inl (by simp)
        · split
          · exact .inl (by simp)
          · split
            · exact .inr rfl
            · exact .inl (by simp)
      rename_i hn
      have hv : 1 ≤ (verbS x).2 := hv.resolve_right fun e => hn (by simp [e])
      unfold applyS at h
      split at h
      · split at h
        · rename_i p q r
          simp at h; subst h
          have : q.tokens ≤ (leftS q).tokens := by unfold leftS; split <;> simp
          simp only [List.map_cons, List.sum_cons]
          omega
        · cases h
      · split at h
        · simp at h; subst h; simp; omega
        · cases h
theorem steps_tokens : ∀ {l : List Item} {st st' : List Piece}, stepsS l st = some st' → (st.map (·.tokens)).sum + l.length ≤ (st'.map (·.tokens)).sum
  | [], st, st', h => by simp [stepsS] at h; subst h; simp
  | x :: r, st, st', h => by
    rw [stepsS] at h
    cases h1 : stepS st x with
    | none => rw [h1] at h; cases h
    | some s1 =>
      rw [h1] at h
      have := steps_tokens h
      have := step_tokens h1
      simp only [List.length_cons]
      omega
theorem expr_like (l : List Item) (k : Nat) (hk : k ≤ 256) : exprR l k = exprS l (256 - k) := by
  unfold exprR exprS
  have h := steps_like l .nil
  by_cases h0 : 256 - k < l.length
  · rw [if_pos h0]
    split
    · rfl
    · cases hR : stepsR l [] with
      | none => rfl
      | some a =>
        cases hS : stepsS l [] with
        | none => rw [hR, hS] at h; exact h.elim
        | some b =>
          rw [hR, hS] at h
          have ht := steps_tokens hS
          cases h with
          | nil => rfl
          | cons hp hr =>
            cases hr with
            | nil =>
              simp only
              rw [if_pos]
              rw [hp.tokens]
              simp at ht
              omega
            | cons _ _ => rfl
  · rw [if_neg h0, if_neg (by omega)]
    cases hR : stepsR l [] with
    | none =>
      cases hS : stepsS l [] with
      | none => rfl
      | some b => rw [hR, hS] at h; exact h.elim
    | some a =>
      cases hS : stepsS l [] with
      | none => rw [hR, hS] at h; exact h.elim
      | some b =>
        rw [hR, hS] at h
        cases h with
        | nil => rfl
        | cons hp hr =>
          cases hr with
          | cons _ _ => rfl
          | nil =>
            rename_i q
            simp only
            rw [hp.tokens, hp.nest, hp.s]
            have e : (256 < q.tokens + k) ↔ (256 - k < q.tokens) := by omega
            simp only [e]
end Go.Proofs.YtngkedmndhmjcaaGreatDoor
/- Plain: how parse reads lines and programs (no program in sight); what tokens are. -/
namespace Go.Proofs.YtngkedmndhmjcaaGreatDoor
open Go.RowKit

def SideV.sd (x : SideV) : Side := ⟨x.name, x.n⟩
def InputV.inp (x : InputV) : Input := ⟨x.name, x.at_, x.sides.list.map SideV.sd⟩
def LineV.ln (x : LineV) : Line := ⟨x.name, x.at_, x.items.list.map ItemV.it⟩
def ProgV.pr (x : ProgV) : Prog := ⟨x.inputs.list.map InputV.inp, x.lines.list.map LineV.ln⟩

/-- the sides of an input -/
def sidesP : List TokV → List Side → List Side × Flt
  | [], acc => (acc, (0, 0))
  | t :: r, acc =>
    if t.kind ≠ 2 ∧ (t.kind ≠ 1 ∨ nameB t.word = false) then (acc, (t.at_, 41))
    else if acc.length = 4 then (acc, (t.at_, 45)) else sidesP r (acc ++ [⟨t.word, t.n⟩])
section
variable (toks : List TokV) (e : Int)
def inputP : Input × Flt :=
  if toks.length = 1 then (⟨(peekP toks 1).word, atP toks 1 e, []⟩, (atP toks 1 e, 42))
  else if (peekP toks 1).kind ≠ 1 ∨ nameB (peekP toks 1).word = false then (⟨(peekP toks 1).word, atP toks 1 e, []⟩, (atP toks 1 e, 41))
  else (⟨(peekP toks 1).word, atP toks 1 e, (sidesP (toks.drop 2) []).1⟩, (sidesP (toks.drop 2) []).2)
def isW (t : TokV) (w : Bs) : Bool := t.kind == 1 && t.word == w
def lineP (name : Bs) (k : Nat) : Line × Flt := (⟨name, (peekP toks 0).at_, (exprP toks e k).1⟩, (exprP toks e k).2)
def intoP (p : Prog) (n : Nat) (over : Bool) : Prog × Flt :=
  if n = 64 then (p, (atP toks 0 e, 45))
  else if 256 < toks.length then (p, (atP toks 256 e, 45))
  else if over = true ∨ isW (peekP toks 0) [105, 110] = true ∧ p.lines ≠ [] then (p, (atP toks 0 e, 40))
  else if isW (peekP toks 0) [105, 110] = true then (⟨p.inputs ++ [(inputP toks e).1], p.lines⟩, (inputP toks e).2)
  else if isW (peekP toks 0) [111, 117, 116] = true then (⟨p.inputs, p.lines ++ [(lineP toks e [] 1).1]⟩, (lineP toks e [] 1).2)
  else if (peekP toks 0).kind ≠ 1 ∨ nameB (peekP toks 0).word = false then (p, (atP toks 0 e, 40))
  else if (peekP toks 1).kind ≠ 3 ∨ (peekP toks 1).word ≠ [58] then (p, (atP toks 1 e, 42))
  else (⟨p.inputs, p.lines ++ [(lineP toks e (peekP toks 0).word 2).1]⟩, (lineP toks e (peekP toks 0).word 2).2)
end
/-- tokens ahead of the next line's end -/
def ownP (toks : List TokV) : List TokV := toks.takeWhile fun t => t.kind != 4
/-- what is behind them -/
def behP (toks : List TokV) : List TokV := toks.drop ((ownP toks).length)
def endP (toks : List TokV) (len : Int) : Int := atP toks (ownP toks).length len
def overP (p : Prog) : Bool := match p.lines.getLast? with
  | none => false
  | some l => l.name == []
def parseGo (len : Int) : Nat → List TokV → Prog → Nat → Bool → Prog × Flt
  | 0, _, _, _, _ => (⟨[], []⟩, (0, 0))
  | f + 1, toks, p, n, over =>
    if toks = [] then (if over = true then (p, (0, 0)) else (⟨[], []⟩, (len, 42)))
    else if ownP toks = [] then parseGo len f (toks.drop 1) p n over
    else if isOk (intoP (ownP toks) (endP toks len) p n over).2 then
      parseGo len f (toks.drop ((ownP toks).length + 1)) (intoP (ownP toks) (endP toks len) p n over).1 (n + 1) (overP (intoP (ownP toks) (endP toks len) p n over).1)
    else (⟨[], []⟩, (intoP (ownP toks) (endP toks len) p n over).2)
def parseP (text : Bs) : Prog × Flt :=
  if isOk (lexP text).2 then parseGo text.length ((lexP text).1.length + 1) (lexP text).1 ⟨[], []⟩ 0 false else (⟨[], []⟩, (lexP text).2)
/-- what is still to be done leads to r -/
def PInv (r : Prog × Flt) (len : Int) (toks : List TokV) (p : Prog) (n : Nat) (over : Bool) : Prop := ∃ f, toks.length + 1 ≤ f ∧ parseGo len f toks p n over = r
section
variable {r : Prog × Flt} {len : Int} {toks : List TokV} {p : Prog} {n : Nat} {over : Bool}
theorem p_end (h : PInv r len toks p n over) (h0 : toks = []) : r = if over = true then (p, (0, 0)) else (⟨[], []⟩, (len, 42)) := by
  obtain ⟨f, hf, h⟩ := h
  obtain ⟨f, rfl⟩ : ∃ g, f = g + 1 := ⟨f - 1, by omega⟩
  rw [parseGo, if_pos h0] at h
  exact h.symm
theorem p_skip (h : PInv r len toks p n over) (h0 : toks ≠ []) (h1 : ownP toks = []) : PInv r len (toks.drop 1) p n over := by
  obtain ⟨f, hf, h⟩ := h
  have : 0 < toks.length := List.length_pos_iff.2 h0
  obtain ⟨f, rfl⟩ : ∃ g, f = g + 1 := ⟨f - 1, by omega⟩
  rw [parseGo, if_neg h0, if_pos h1] at h
  exact ⟨f, by rw [List.length_drop]; omega, h⟩
theorem p_line (h : PInv r len toks p n over) (h0 : toks ≠ []) (h1 : ownP toks ≠ []) {q : Prog} {f : Flt} (hq : intoP (ownP toks) (endP toks len) p n over = (q, f)) :
    (isOk f = true → PInv r len (toks.drop ((ownP toks).length + 1)) q (n + 1) (overP q)) ∧ (isOk f = false → r = (⟨[], []⟩, f)) := by
  obtain ⟨g, hg, h⟩ := h
  have : 0 < toks.length := List.length_pos_iff.2 h0
  obtain ⟨g, rfl⟩ : ∃ k, g = k + 1 := ⟨g - 1, by omega⟩
  rw [parseGo, if_neg h0, if_neg h1, hq] at h
  refine ⟨fun hi => ?_, fun hi => ?_⟩
  · rw [if_pos hi] at h
    exact ⟨g, by rw [List.length_drop]; omega, h⟩
  · rw [if_neg (by rw [hi]; simp)] at h
    exact h.symm
end

/-! ### what tokens are -/
structure TokOk (t : TokV) : Prop where
  word : t.word.length ≤ 16
  lo : -9223372036854775808 ≤ t.n
  hi : t.n ≤ 9223372036854775807
theorem numP_range {neg : Bool} {ds : Bs} {v : Int} (h : numP neg ds = some v) : -9223372036854775808 ≤ v ∧ v ≤ 9223372036854775807 := by
  unfold numP at h
  split at h
  · split at h
    · injection h with h
      omega
    · cases h
  · split at h
    · injection h with h
      omega
    · cases h
theorem numTok_ok {b : UInt8} {r : Bs} {t : TokR} (h : numTok b r = .ok (some t)) : t.2.1 = [] ∧ -9223372036854775808 ≤ t.2.2.1 ∧ t.2.2.1 ≤ 9223372036854775807 := by
  unfold numTok at h
  dsimp only at h
  by_cases hb : (b == 95) = true
  · simp only [hb, if_true] at h
    split at h
    · cases h
    · split at h
      · cases h
      · rename_i hv
        simp only [Except.ok.injEq, Option.some.injEq] at h
        subst h
        exact ⟨rfl, numP_range hv⟩
  · simp only [hb, Bool.false_eq_true, if_false] at h
    split at h
    · cases h
    · split at h
      · cases h
      · rename_i hv
        simp only [Except.ok.injEq, Option.some.injEq] at h
        subst h
        exact ⟨rfl, numP_range hv⟩
theorem tokenP_ok {s : Bs} {k v : Int} {wd : Bs} {m : Nat} (h : tokenP s = .ok (k, wd, v, m)) : wd.length ≤ 16 ∧ -9223372036854775808 ≤ v ∧ v ≤ 9223372036854775807 := by
  cases s with
  | nil => cases h
  | cons b r =>
    simp only [tokenP] at h
    split at h
    · cases h
      decide
    · split at h
      · split at h
        · cases h
        · cases h
          rename_i h16
          have := (List.length_take_le (runB wordB (b :: r)) (b :: r))
          exact ⟨by omega, by decide, by decide⟩
      · split at h
        · cases h
        · rename_i t' ht
          simp only [Except.ok.injEq] at h
          subst h
          obtain ⟨h1, h2, h3⟩ := numTok_ok ht
          simp only at h1 h2 h3
          exact ⟨by rw [h1]; decide, h2, h3⟩
        · split at h
          · cases h
          · cases h
            have h2 : signP (b :: r) ≤ 2 := by
              simp only [signP]
              split
              · omega
              · split <;> omega
            have := (List.length_take_le (signP (b :: r)) (b :: r))
            exact ⟨by omega, by decide, by decide⟩
theorem lexGo_ok : ∀ (f i : Nat) (s : Bs) (out : List Tok), (∀ t ∈ out, TokOk t) → ∀ t ∈ (lexGo f i s out).1, TokOk t
  | 0, _, _, out, h => h
  | _ + 1, _, [], out, h => h
  | f + 1, i, b :: r, out, h => by
    unfold lexGo
    split
    · exact lexGo_ok f _ _ _ h
    · split
      · exact lexGo_ok f _ _ _ h
      · split
        · exact fun t ht => by simp at ht
        · rename_i ht
          refine lexGo_ok f _ _ _ fun t hm => ?_
          rcases List.mem_append.1 hm with hm | hm
          · exact h t hm
          · rw [List.mem_singleton.1 hm]
            obtain ⟨h1, h2, h3⟩ := tokenP_ok ht
            exact ⟨h1, h2, h3⟩
theorem lex_ok (s : Bs) : ∀ t ∈ (lexP s).1, TokOk t := by
  unfold lexP
  split
  · exact fun t ht => by simp at ht
  · exact lexGo_ok _ _ _ _ fun t ht => by simp at ht
theorem peek_ok {toks : List TokV} (h : ∀ t ∈ toks, TokOk t) (k : Nat) : TokOk (peekP toks k) := by
  unfold peekP
  split
  · rename_i ht
    exact h _ (List.mem_of_getElem? ht)
  · exact ⟨by decide, by decide, by decide⟩
theorem peek_word {toks : List TokV} (h : ∀ t ∈ toks, TokOk t) (k : Nat) : (peekP toks k).word.length ≤ 65536 := Nat.le_trans (peek_ok h k).word (by decide)
theorem own_le (toks : List TokV) : (ownP toks).length ≤ toks.length := (List.takeWhile_sublist _).length_le
theorem own_take (toks : List TokV) : toks.take (ownP toks).length = ownP toks := by
  unfold ownP
  induction toks with
  | nil => rfl
  | cons t r ih =>
    rw [List.takeWhile_cons]
    split
    · rw [List.length_cons, List.take_succ_cons, ih]
    · rfl
/-- ahead of place n there is no line's end -/
theorem own_more {toks : List TokV} {n : Nat} {x : TokV} (hn : n ≤ (ownP toks).length) (hx : toks[n]? = some x) (h4 : x.kind ≠ 4) : n + 1 ≤ (ownP toks).length := by
  unfold ownP at *
  induction toks generalizing n with
  | nil => simp at hx
  | cons t r ih =>
    rw [List.takeWhile_cons] at hn ⊢
    split at hn
    · rename_i ht
      rw [if_pos ht]
      cases n with
      | zero => simp
      | succ n =>
        have := ih (n := n) (by simpa using hn) (by simpa using hx)
        simp; omega
    · rename_i ht
      have : n = 0 := by simpa using hn
      subst this
      simp at hx
      subst hx
      simp [h4] at ht
theorem own_stop {toks : List TokV} {n : Nat} (hn : n ≤ (ownP toks).length) (h : toks.length ≤ n ∨ ∃ x : TokV, toks[n]? = some x ∧ x.kind = 4) : n = (ownP toks).length := by
  have hl := own_le toks
  rcases h with h | ⟨x, hx, h4⟩
  · omega
  · rcases Nat.lt_or_ge n (ownP toks).length with hlt | hge
    · exfalso
      have hm : (ownP toks)[n]? = some x := by
        rw [← own_take toks, List.getElem?_take, if_pos hlt]
        exact hx
      have := List.all_takeWhile (p := fun t : TokV => t.kind != 4) (l := toks)
      have := List.all_eq_true.1 this x (List.mem_of_getElem? hm)
      simp [h4] at this
    · omega
end Go.Proofs.YtngkedmndhmjcaaGreatDoor
/- Walks of parse.line.input, parse.line.into, parse.Parse. (Printed by wip/gen/parse3.py.) -/
namespace Go.Proofs.YtngkedmndhmjcaaGreatDoor
open Go.RowKit

def sidesFct (x : InputV) : Fact := sideE.sl (.slice x.sides.addr x.sides.list.length x.sides.cap) x.sides.list
def inputsF (l : List InputV) : Fact := Fact.each l sidesFct
def itemsFct (x : LineV) : Fact := (itemE.sl (.slice x.items.addr x.items.list.length x.items.cap) x.items.list).and (numsF x.items.list)
def linesF (l : List LineV) : Fact := Fact.each l itemsFct
theorem inputs_add {F : List Fact} {l : List InputV} {x : InputV} (h : Has F (inputsF l)) (hx : Has F (sidesFct x)) : Has F (inputsF (l ++ [x])) := Has.each_snoc h hx
theorem lines_add {F : List Fact} {l : List LineV} {x : LineV} (h : Has F (linesF l)) (hx : Has F (itemsFct x)) : Has F (linesF (l ++ [x])) := Has.each_snoc h hx
section
variable {toks : List TokV} {e : Int} {k : Nat} {acc : List SideV}
theorem drop_peek (hk : k < toks.length) : toks.drop k = peekP toks k :: toks.drop (k + 1) ∧ (peekP toks k).at_ = atP toks k e := by
  have h : toks[k]? = some toks[k] := List.getElem?_eq_getElem hk
  rw [peekP_some h, atP_some h]
  exact ⟨List.drop_eq_getElem_cons hk, rfl⟩
theorem sides_bad (hk : k < toks.length) (h2 : (peekP toks k).kind ≠ 2) (hn : (peekP toks k).kind ≠ 1 ∨ nameB (peekP toks k).word = false) {a : List Side} : sidesP (toks.drop k) a = (a, (atP toks k e, 41)) := by
  rw [(drop_peek (e := e) hk).1, sidesP, if_pos ⟨h2, hn⟩, (drop_peek (e := e) hk).2]
theorem sides_ok (hn : (peekP toks k).kind = 2 ∨ (peekP toks k).kind = 1 ∧ nameB (peekP toks k).word = true) : ¬ ((peekP toks k).kind ≠ 2 ∧ ((peekP toks k).kind ≠ 1 ∨ nameB (peekP toks k).word = false)) := by
  rintro ⟨h1, h2⟩
  rcases hn with hn | ⟨a, b⟩
  · exact h1 hn
  · rcases h2 with h2 | h2
    · exact h2 a
    · rw [b] at h2; cases h2
theorem sides_many (hk : k < toks.length) (hn : (peekP toks k).kind = 2 ∨ (peekP toks k).kind = 1 ∧ nameB (peekP toks k).word = true) {a : List Side} (h4 : a.length = 4) : sidesP (toks.drop k) a = (a, (atP toks k e, 45)) := by
  rw [(drop_peek (e := e) hk).1, sidesP, if_neg (sides_ok hn), if_pos h4, (drop_peek (e := e) hk).2]
theorem sides_more (hk : k < toks.length) (hn : (peekP toks k).kind = 2 ∨ (peekP toks k).kind = 1 ∧ nameB (peekP toks k).word = true) {a : List Side} (h4 : a.length ≠ 4) : sidesP (toks.drop k) a = sidesP (toks.drop (k + 1)) (a ++ [⟨(peekP toks k).word, (peekP toks k).n⟩]) := by
  rw [(drop_peek (e := 0) hk).1, sidesP, if_neg (sides_ok hn), if_neg h4]
theorem sides_end (hk : toks.length ≤ k) {a : List Side} : sidesP (toks.drop k) a = (a, (0, 0)) := by
  rw [List.drop_of_length_le hk]
  rfl
variable {p : Prog} {n : Nat} {over : Bool}
theorem i_many (hn : n = 64) : intoP toks e p n over = (p, (atP toks 0 e, 45)) := by rw [intoP, if_pos hn]
variable (hn : n ≠ 64)
include hn
theorem i_long (hl : 256 < toks.length) : intoP toks e p n over = (p, (atP toks 256 e, 45)) := by rw [intoP, if_neg hn, if_pos hl]
variable (hl : ¬ 256 < toks.length)
include hl
theorem i_place (h : over = true ∨ isW (peekP toks 0) [105, 110] = true ∧ p.lines ≠ []) : intoP toks e p n over = (p, (atP toks 0 e, 40)) := by rw [intoP, if_neg hn, if_neg hl, if_pos h]
variable (ho : over = false)
include ho
theorem i_in (hi : isW (peekP toks 0) [105, 110] = true) (h0 : p.lines = []) : intoP toks e p n over = (⟨p.inputs ++ [(inputP toks e).1], p.lines⟩, (inputP toks e).2) := by
  rw [intoP, if_neg hn, if_neg hl, if_neg (by rw [ho, h0]; simp), if_pos hi]
variable (hi : isW (peekP toks 0) [105, 110] = false)
include hi
theorem i_out (hu : isW (peekP toks 0) [111, 117, 116] = true) : intoP toks e p n over = (⟨p.inputs, p.lines ++ [(lineP toks e [] 1).1]⟩, (lineP toks e [] 1).2) := by
  rw [intoP, if_neg hn, if_neg hl, if_neg (by rw [ho, hi]; simp), if_neg (by rw [hi]; simp), if_pos hu]
variable (hu : isW (peekP toks 0) [111, 117, 116] = false)
include hu
theorem i_none (h : (peekP toks 0).kind ≠ 1 ∨ nameB (peekP toks 0).word = false) : intoP toks e p n over = (p, (atP toks 0 e, 40)) := by
  rw [intoP, if_neg hn, if_neg hl, if_neg (by rw [ho, hi]; simp), if_neg (by rw [hi]; simp), if_neg (by rw [hu]; simp), if_pos h]
variable (h1 : (peekP toks 0).kind = 1) (hm : nameB (peekP toks 0).word = true)
include h1 hm
theorem i_want (h : (peekP toks 1).kind ≠ 3 ∨ (peekP toks 1).word ≠ [58]) : intoP toks e p n over = (p, (atP toks 1 e, 42)) := by
  rw [intoP, if_neg hn, if_neg hl, if_neg (by rw [ho, hi]; simp), if_neg (by rw [hi]; simp), if_neg (by rw [hu]; simp), if_neg (by rw [h1, hm]; simp), if_pos h]
theorem i_line (h3 : (peekP toks 1).kind = 3) (hw : (peekP toks 1).word = [58]) : intoP toks e p n over = (⟨p.inputs, p.lines ++ [(lineP toks e (peekP toks 0).word 2).1]⟩, (lineP toks e (peekP toks 0).word 2).2) := by
  rw [intoP, if_neg hn, if_neg hl, if_neg (by rw [ho, hi]; simp), if_neg (by rw [hi]; simp), if_neg (by rw [hu]; simp), if_neg (by rw [h1, hm]; simp), if_neg (by rw [h3, hw]; simp)]
end
theorem into_ok {toks : List TokV} {e : Int} {p : Prog} {n : Nat} {over : Bool} (h : isOk (intoP toks e p n over).2 = true) : n ≠ 64 ∧ (intoP toks e p n over).1.inputs.length + (intoP toks e p n over).1.lines.length ≤ p.inputs.length + p.lines.length + 1 := by
  refine ⟨fun hn => ?_, ?_⟩
  · rw [i_many hn] at h
    simp [isOk, fltEq] at h
  · unfold intoP
    repeat' split
    all_goals (first | (simp; done) | (simp; omega))
theorem isW_ne {t : TokV} {w : Bs} (h : t.kind ≠ 1) : isW t w = false := by simp [isW, h]
theorem isW_is {t : TokV} {w : Bs} (h : t.kind = 1) (hw : t.word = w) : isW t w = true := by simp [isW, h, hw]
theorem isW_no {t : TokV} {w : Bs} (hw : t.word ≠ w) : isW t w = false := by simp [isW, hw]
theorem over_none {i : List Input} {l : List LineV} (h : ¬ 0 < l.length) : false = overP ⟨i, l.map LineV.ln⟩ := by
  have : l = [] := List.eq_nil_of_length_eq_zero (by omega)
  subst this
  rfl
theorem over_last {i : List Input} {l : List LineV} {x : LineV} (h : l[l.length - 1]? = some x) : (x.name == []) = overP ⟨i, l.map LineV.ln⟩ := by
  unfold overP
  dsimp only
  rw [List.getLast?_map, List.getLast?_eq_getElem?, h]
  rfl
theorem own_end {toks : List TokV} {n : Nat} (hn : n = (ownP toks).length) (h : toks.length ≤ n) : toks.drop n = toks.drop ((ownP toks).length + 1) := by
  rw [List.drop_of_length_le h, List.drop_of_length_le (by omega)]
theorem map_ne {α β : Type} {f : α → β} {l : List α} (h : 0 < l.length) : l.map f ≠ [] := fun e => by
  have : l = [] := List.map_eq_nil_iff.1 e
  subst this
  simp at h
theorem map_nil {α β : Type} {f : α → β} {l : List α} (h : ¬ 0 < l.length) : l.map f = [] := by
  have : l = [] := List.eq_nil_of_length_eq_zero (by omega)
  subst this
  rfl
/-- all that a program leads to -/
def progFct (x : ProgV) : Fact := ((inputE.sl (.slice x.inputs.addr x.inputs.list.length x.inputs.cap) x.inputs.list).and (inputsF x.inputs.list)).and ((lineE.sl (.slice x.lines.addr x.lines.list.length x.lines.cap) x.lines.list).and (linesF x.lines.list))
theorem lexGo_len : ∀ (f i : Nat) (s : Bs) (out : List Tok), (lexGo f i s out).1.length ≤ out.length + s.length
  | 0, _, _, out => by simp [lexGo]
  | _ + 1, _, [], out => by simp [lexGo]
  | f + 1, i, b :: r, out => by
    unfold lexGo
    split
    · have := lexGo_len f (i + 1) r out
      simp only [List.length_cons]
      omega
    · split
      · have := lexGo_len f (i + runB (· != 10) (b :: r)) ((b :: r).drop (runB (· != 10) (b :: r))) out
        rw [List.length_drop] at this
        omega
      · split
        · simp
        · rename_i k wd v m ht
          have h1 := lexGo_len f (i + m) ((b :: r).drop m) (out ++ [⟨k, i, wd, v⟩])
          have h2 := tokenP_len ht
          simp only [List.length_append, List.length_drop, List.length_cons, List.length_nil] at h1 h2 ⊢
          omega
theorem lex_count (s : Bs) : (lexP s).1.length ≤ 65536 := by
  unfold lexP
  split
  · simp
  · have := lexGo_len s.length 0 s []
    simp only [List.length_nil] at this
    omega
theorem own_tok {toks : List TokV} (h : ∀ t ∈ toks, TokOk t) : ∀ t ∈ ownP toks, TokOk t := fun t ht => h t (List.mem_of_mem_take (by rw [own_take]; exact ht))
theorem p_start {text : Bs} {r : Prog × Flt} (hR : parseP text = r) (h : isOk (lexP text).2 = true) : PInv r text.length (lexP text).1 ⟨[], []⟩ 0 false := ⟨_, Nat.le_refl _, by rw [← hR, parseP, if_pos h]⟩
theorem p_lexed {text : Bs} {r : Prog × Flt} (hR : parseP text = r) (h : isOk (lexP text).2 = false) : r = (⟨[], []⟩, (lexP text).2) := by rw [← hR, parseP, if_neg (by rw [h]; simp)]
theorem len_ne {α : Type} {l : List α} (h : 0 < l.length) : l ≠ [] := List.length_pos_iff.1 h
theorem len_nil {α : Type} {l : List α} (h : ((l.length : Nat) : Int) = 0) : l = [] := List.eq_nil_of_length_eq_zero (by omega)
theorem input_zero_api_Input : (Tryz.prog.info? 59).bind (·.zero) = some (.agg #[.string (bs []), .int .i64 0, .slice none 0 0]) := by kernel_rfl
theorem input_zero_api_Fault : (Tryz.prog.info? 32).bind (·.zero) = some (.agg #[.int .i64 0, .int .i64 0]) := by kernel_rfl
theorem input_built_api_Input_10 (s0 : ByteArray) (z1 : Int) : Tryz.prog.built 59 [(1, .int .i64 z1), (0, .string s0)] = some #[.string s0, .int .i64 z1, .slice none 0 0] := by kernel_rfl
theorem input_zero_api_Token : (Tryz.prog.info? 54).bind (·.zero) = some (.agg #[.int .i64 0, .int .i64 0, .string (bs []), .int .i64 0]) := by kernel_rfl
theorem input_built_api_Side_01 (s0 : ByteArray) (z1 : Int) : Tryz.prog.built 61 [(0, .string s0), (1, .int .i64 z1)] = some #[.string s0, .int .i64 z1] := by kernel_rfl
theorem input_built_api_Fault_  : Tryz.prog.built 32 [] = some #[.int .i64 0, .int .i64 0] := by kernel_rfl
theorem input_built_api_Line_1 (z1 : Int) : Tryz.prog.built 42 [(1, .int .i64 z1)] = some #[.string (bs []), .int .i64 z1, .slice none 0 0] := by kernel_rfl
theorem input_zero_api_Line : (Tryz.prog.info? 42).bind (·.zero) = some (.agg #[.string (bs []), .int .i64 0, .slice none 0 0]) := by kernel_rfl

set_option maxRecDepth 100000 in
theorem input_spec (bl : Nat) (A : Option Addr) (c : Nat) (toks : List TokV) (k0 : Nat) (e : Int) (h0 : 0 < toks.length) (hl : toks.length ≤ 1000) (hw : ∀ k, (peekP toks k).word.length ≤ 65536) : Spec Tryz.prog 34 [.pointer (some ⟨bl, 0, none⟩)] [.obj bl (.cells [.slice A toks.length c, .int .i64 (k0 : Nat), .int .i64 e].toArray 52)] [tokE.sl (.slice A toks.length c) toks, globF] (fun (x : InputV × Nat) => .tuple #[.agg #[.string (bs x.1.name), .int .i64 x.1.at_, .slice x.1.sides.addr x.1.sides.list.length x.1.sides.cap], .agg #[.int .i64 (inputP toks e).2.1, .int .i64 (inputP toks e).2.2]]) (fun (x : InputV × Nat) => [.obj bl (.cells [.slice A toks.length c, .int .i64 (x.2 : Nat), .int .i64 e].toArray 52)]) (fun (x : InputV × Nat) => [sidesFct x.1, Fact.pure (x.1.inp = (inputP toks e).1)]) := by
  have hT := showT_ok
  generalize hR : inputP toks e = r
  refine spec_of Tryz.func34 rfl Tryz.ntmps34 rfl ?_
  intro β hM
  refine sr ?_
  refine at_alloc rfl rfl rfl rfl input_zero_api_Input rfl fun b1 => ?_
  refine at_alloc rfl rfl rfl rfl input_zero_api_Fault rfl fun b2 => ?_
  refine nn ?_
  refine sr ?_
  refine sp3 hT ?_
  refine sto hT kT2 ?_
  refine nn ?_
  refine sr ?_
  refine sp hT ?_
  refine at_call (callFunc_enter Tryz.func51 rfl rfl) (at_spec bl A c toks (1) e) rfl rfl rfl rfl rfl (.cons .head .nil) ⟨Has.of mT0, trivial⟩ fun _ => ?_
  refine sp hT ?_
  refine at_call (callFunc_enter Tryz.func32 rfl rfl) (peek_spec bl A c toks (1) e) rfl rfl rfl rfl rfl (.cons .head .nil) ⟨Has.of mT0, trivial⟩ fun _ => ?_
  refine sp hT ?_
  refine ss (sti_build rfl rfl (input_built_api_Input_10 _ _)) ?_
  refine at_alloc rfl rfl rfl rfl input_zero_api_Input rfl fun b3 => ?_
  refine sto hT .head ?_
  refine nn ?_
  refine at_seq ?_
  refine at_seq ?_
  refine at_mix _ _ [(true, 0), (true, 1), (true, 2), (true, 3), (true, 4), (true, 5), (true, 6), (true, 7), (true, 8), (true, 9)] mixes (by decide +kernel) (.cons .head (.cons .head (.cons .head (.cons .head .nil)))) HasAll.self ?_
  refine atm_sti rfl rfl rfl rfl (sti_pure hT rfl) ?_
  refine atm_sti rfl rfl rfl rfl (sti_pure hT rfl) ?_
  refine atm_sti rfl rfl rfl rfl (sti_pure hT rfl) ?_
  refine atm_sti rfl rfl rfl rfl (ldO hT (knows_own (off := 1) kT1)) ?_
  refine atm_sti rfl rfl rfl rfl (sti_pure hT rfl) ?_
  refine atm_sti rfl rfl rfl rfl (sti_pure hT rfl) ?_
  refine atm_sti rfl rfl rfl rfl (sti_pure hT rfl) ?_
  refine atm_sti rfl rfl rfl rfl (ldO hT (knows_own (off := 0) kT1)) ?_
  refine atm_sti rfl rfl rfl rfl (sti_pure hT rfl) ?_
  refine atm_sti rfl rfl rfl rfl (sti_pure hT rfl) ?_
  refine atm_nil ?_
  refine n_then ?_
  refine at_cond rfl (fun hc24 => ?_) (fun hc24 => ?_)
  · have hc24 := eq_of_beq hc24
    refine at_seq ?_
    refine at_mix _ _ [(true, 0), (true, 1), (false, 2), (false, 3), (false, 4)] mixes (by decide +kernel) (.cons .head (.cons .head .nil)) HasAll.self ?_
    refine atm_sti rfl rfl rfl rfl (ldN hT (knows_own (off := 0) .head)) ?_
    refine atm_sti rfl rfl rfl rfl (sti_pure hT rfl) ?_
    refine atm_op (o := _) rfl ?_
    refine at_call (callFunc_enter Tryz.func33 rfl rfl) (fault_spec bl A c toks (1) e _) rfl rfl rfl rfl rfl (.cons kT1 .nil) ⟨Has.of mT0, trivial⟩ fun _ => ?_
    refine atm_go (.cons kT1 (.cons .head .nil)) (HasAll.drop 0) ?_
    refine atm_op (o := _) rfl ?_
    refine sto hT kT3 ?_
    refine atm_go (.cons kT2 (.cons kT1 .nil)) (HasAll.drop 0) ?_
    refine atm_op (o := _) rfl ?_
    refine sto hT kT3 ?_
    refine atm_go (.cons kT3 (.cons kT2 .nil)) (HasAll.drop 0) ?_
    refine atm_nil ?_
    refine n_then ?_
    refine at_ret ?_
    refine r_then ?_
    have hr := hR.symm.trans (by rw [inputP, if_pos (by omega)])
    subst hr
    exact at_res2 (⟨(peekP toks 1).word, atP toks 1 e, ⟨none, 0, []⟩⟩, _) rfl (rv_cell hT (knows_own (off := 0) kT1) rfl rfl rfl rfl) (rv_cell hT (knows_own (off := 0) .head) rfl rfl rfl rfl) (.cons kT2 .nil) ⟨has_nil, Has.pure rfl, trivial⟩ rfl
  have hc24 := beq_eq_false_iff_ne.1 hc24
  refine at_skip ?_
  refine n_then ?_
  refine at_seq ?_
  refine sr ?_
  refine sp hT ?_
  refine at_call (callFunc_enter Tryz.func32 rfl rfl) (peek_spec bl A c toks (1) e) rfl rfl rfl rfl rfl (.cons kT1 .nil) ⟨Has.of mT0, trivial⟩ fun _ => ?_
  refine sp3 hT ?_
  refine at_case (fun hg32 => ?_) (fun hg32 => ?_)
  · have hg32 := bne_iff_ne.1 hg32
    refine sk4 ?_
    refine sp hT ?_
    refine nn ?_
    refine at_true rfl rfl ?_
    refine at_seq ?_
    refine at_mix _ _ [(true, 0), (true, 1), (false, 2), (false, 3), (false, 4)] mixes (by decide +kernel) (.cons .head (.cons .head .nil)) HasAll.self ?_
    refine atm_sti rfl rfl rfl rfl (ldN hT (knows_own (off := 0) kT1)) ?_
    refine atm_sti rfl rfl rfl rfl (sti_pure hT rfl) ?_
    refine atm_op (o := _) rfl ?_
    refine at_call (callFunc_enter Tryz.func33 rfl rfl) (fault_spec bl A c toks (1) e _) rfl rfl rfl rfl rfl (.cons .head .nil) ⟨Has.of mT0, trivial⟩ fun _ => ?_
    refine atm_go (.cons .head (.cons .head .nil)) (HasAll.drop 0) ?_
    refine atm_op (o := _) rfl ?_
    refine sto hT kT3 ?_
    refine atm_go (.cons kT1 (.cons kT1 .nil)) (HasAll.drop 0) ?_
    refine atm_op (o := _) rfl ?_
    refine sto hT kT3 ?_
    refine atm_go (.cons kT2 (.cons kT2 .nil)) (HasAll.drop 0) ?_
    refine atm_nil ?_
    refine n_then ?_
    refine at_ret ?_
    refine r_then ?_
    have hr := hR.symm.trans (by rw [inputP, if_neg (by omega), if_pos (by first | exact .inl (by assumption) | exact .inr (by assumption))])
    subst hr
    exact at_res2 (⟨(peekP toks 1).word, atP toks 1 e, ⟨none, 0, []⟩⟩, _) rfl (rv_cell hT (knows_own (off := 0) kT1) rfl rfl rfl rfl) (rv_cell hT (knows_own (off := 0) .head) rfl rfl rfl rfl) (.cons kT2 .nil) ⟨has_nil, Has.pure rfl, trivial⟩ rfl
  have hg32 := bne_eq_false_iff_eq.1 hg32
  refine sp hT ?_
  refine ss (ldO hT (knows_own (off := 0) kT1)) ?_
  refine at_call (callFunc_enter Tryz.func35 rfl rfl) (Name_spec _ (Nat.le_trans (hw _) (by decide))) rfl rfl rfl rfl rfl .nil ⟨Has.of mT1, trivial⟩ fun _ => ?_
  refine sp2 hT ?_
  refine nn ?_
  refine at_cond rfl (fun hc37 => ?_) (fun hc37 => ?_)
  · have hc37 := not_t hc37
    refine at_seq ?_
    refine at_mix _ _ [(true, 0), (true, 1), (false, 2), (false, 3), (false, 4)] mixes (by decide +kernel) (.cons .head (.cons .head .nil)) HasAll.self ?_
    refine atm_sti rfl rfl rfl rfl (ldN hT (knows_own (off := 0) kT1)) ?_
    refine atm_sti rfl rfl rfl rfl (sti_pure hT rfl) ?_
    refine atm_op (o := _) rfl ?_
    refine at_call (callFunc_enter Tryz.func33 rfl rfl) (fault_spec bl A c toks (1) e _) rfl rfl rfl rfl rfl (.cons .head .nil) ⟨Has.of mT0, trivial⟩ fun _ => ?_
    refine atm_go (.cons .head (.cons .head .nil)) (HasAll.drop 0) ?_
    refine atm_op (o := _) rfl ?_
    refine sto hT kT3 ?_
    refine atm_go (.cons kT1 (.cons kT1 .nil)) (HasAll.drop 0) ?_
    refine atm_op (o := _) rfl ?_
    refine sto hT kT3 ?_
    refine atm_go (.cons kT2 (.cons kT2 .nil)) (HasAll.drop 0) ?_
    refine atm_nil ?_
    refine n_then ?_
    refine at_ret ?_
    refine r_then ?_
    have hr := hR.symm.trans (by rw [inputP, if_neg (by omega), if_pos (by first | exact .inl (by assumption) | exact .inr (by assumption))])
    subst hr
    exact at_res2 (⟨(peekP toks 1).word, atP toks 1 e, ⟨none, 0, []⟩⟩, _) rfl (rv_cell hT (knows_own (off := 0) kT1) rfl rfl rfl rfl) (rv_cell hT (knows_own (off := 0) .head) rfl rfl rfl rfl) (.cons kT2 .nil) ⟨has_nil, Has.pure rfl, trivial⟩ rfl
  have hc37 := not_f hc37
  refine at_skip ?_
  refine n_then ?_
  refine at_seq ?_
  refine sr ?_
  refine sp3 hT ?_
  refine sto hT .head ?_
  refine nn ?_
  refine at_block ?_
  refine at_nilrow' (t := 61) sideE ?_
  refine at_loop2 (ι := Nat × List SideV × Option Addr × Nat) [(0, _), (2, _), (3, _), (4, _)] ⟨rfl, rfl, rfl, rfl, trivial⟩ (fun _ => []) (fun ⟨k, sides, S, c2⟩ => [.obj bl (.cells [.slice A toks.length c, .int .i64 (k : Nat), .int .i64 e].toArray 52), .obj b3 (.cells [.string (bs (peekP toks 1).word), .int .i64 (atP toks 1 e), .slice S sides.length c2].toArray 59), sideE.row (.slice S sides.length c2) 61 sides]) (fun ⟨k, sides, S, c2⟩ => [Fact.pure (sidesP (toks.drop k) (sides.map SideV.sd) = sidesP (toks.drop 2) [] ∧ k ≤ toks.length ∧ sides.length ≤ 4)]) (fun ⟨k, sides, S, c2⟩ => toks.length - k) (2, [], none, 0) trivial (.cons kT1 (.cons kT1 (.cons .head .nil))) ⟨Has.pure (⟨rfl, kind_lt (toks := toks) (k := 1) (by omega), by simp⟩), trivial⟩ ?_
  rintro ⟨k, sides, S, c2⟩
  dsimp only
  refine at_know (Has.of mT0) fun hinv8 => ?_
  refine at_seq ?_
  refine at_seq ?_
  refine at_mix _ _ [(true, 0), (true, 1), (true, 2), (true, 3), (true, 4), (true, 5), (true, 6), (true, 7), (true, 8), (true, 9)] mixes (by decide +kernel) (.cons .head (.cons .head (.cons .head (.cons .head (.cons .head .nil))))) HasAll.self ?_
  refine atm_sti rfl rfl rfl rfl (sti_pure hT rfl) ?_
  refine atm_sti rfl rfl rfl rfl (sti_pure hT rfl) ?_
  refine atm_sti rfl rfl rfl rfl (sti_pure hT rfl) ?_
  refine atm_sti rfl rfl rfl rfl (ldO hT (knows_own (off := 1) .head)) ?_
  refine atm_sti rfl rfl rfl rfl (sti_pure hT rfl) ?_
  refine atm_sti rfl rfl rfl rfl (sti_pure hT rfl) ?_
  refine atm_sti rfl rfl rfl rfl (sti_pure hT rfl) ?_
  refine atm_sti rfl rfl rfl rfl (ldO hT (knows_own (off := 0) .head)) ?_
  refine atm_sti rfl rfl rfl rfl (sti_pure hT rfl) ?_
  refine atm_sti rfl rfl rfl rfl (sti_pure hT rfl) ?_
  refine atm_nil ?_
  refine n_then ?_
  refine at_cond rfl (fun hc53 => ?_) (fun hc53 => ?_)
  · have hc53 := of_decide_eq_true hc53
    refine at_skip ?_
    refine n_then ?_
    refine at_seq ?_
    refine at_block ?_
    refine sr ?_
    refine sp hT ?_
    refine at_call (callFunc_enter Tryz.func32 rfl rfl) (peek_spec bl A c toks (k) e) rfl rfl rfl rfl rfl (.cons .head .nil) ⟨Has.of mT1, trivial⟩ fun _ => ?_
    refine at_alloc rfl rfl rfl rfl input_zero_api_Token rfl fun b4 => ?_
    refine sto hT .head ?_
    refine nn ?_
    refine at_seq ?_
    refine sr ?_
    refine sp hT ?_
    refine ss (ldO hT (knows_own (off := 0) .head)) ?_
    refine sp2 hT ?_
    refine at_case (fun hg66 => ?_) (fun hg66 => ?_)
    · have hg66 := bne_iff_ne.1 hg66
      refine sp hT ?_
      refine ss (ldO hT (knows_own (off := 0) .head)) ?_
      refine sp2 hT ?_
      refine at_case (fun hg70 => ?_) (fun hg70 => ?_)
      · have hg70 := bne_iff_ne.1 hg70
        refine sk4 ?_
        refine sp2 hT ?_
        refine nn ?_
        refine at_true rfl rfl ?_
        refine at_seq ?_
        refine at_mix _ _ [(true, 0), (true, 1), (false, 2), (false, 3), (false, 4)] mixes (by decide +kernel) (.cons .head (.cons .head (.cons .head (.cons .head .nil)))) HasAll.self ?_
        refine atm_sti rfl rfl rfl rfl (ldN hT (knows_own (off := 0) kT2)) ?_
        refine atm_sti rfl rfl rfl rfl (sti_pure hT rfl) ?_
        refine atm_op (o := _) rfl ?_
        refine at_call (callFunc_enter Tryz.func33 rfl rfl) (fault_spec bl A c toks (k) e _) rfl rfl rfl rfl rfl (.cons kT1 .nil) ⟨Has.of mT1, trivial⟩ fun _ => ?_
        refine atm_go (.cons kT1 (.cons .head (.cons .head (.cons .head .nil)))) (HasAll.drop 0) ?_
        refine atm_op (o := _) rfl ?_
        refine sto hT kT5 ?_
        refine atm_go (.cons kT2 (.cons kT1 (.cons kT1 (.cons kT1 .nil)))) (HasAll.drop 0) ?_
        refine atm_op (o := _) rfl ?_
        refine sto hT kT5 ?_
        refine atm_go (.cons kT3 (.cons kT2 (.cons kT2 (.cons kT2 .nil)))) (HasAll.drop 0) ?_
        refine atm_nil ?_
        refine n_then ?_
        refine at_ret ?_
        refine r_then ?_
        refine r_block ?_
        refine r_then ?_
        refine r_then ?_
        refine r_block ?_
        refine r_then ?_
        have hr := hR.symm.trans (by rw [inputP, if_neg (by omega), if_neg (by rintro (h | h) <;> simp_all), ← hinv8.1, sides_bad (e := e) (by omega) (by assumption) (by first | exact .inl (by assumption) | exact .inr (by assumption))])
        subst hr
        refine at_freeze kT5 ?_
        exact at_res2 (⟨(peekP toks 1).word, atP toks 1 e, ⟨_, _, sides⟩⟩, _) rfl (rv_cell hT (knows_own (off := 0) kT1) rfl rfl rfl rfl) (rv_cell hT (knows_own (off := 0) .head) rfl rfl rfl rfl) (.cons kT2 .nil) ⟨Has.of mT0, Has.pure rfl, trivial⟩ rfl
      have hg70 := bne_eq_false_iff_eq.1 hg70
      refine sp hT ?_
      refine ss (ldO hT (knows_own (off := 2) .head)) ?_
      refine at_call (callFunc_enter Tryz.func35 rfl rfl) (Name_spec _ (Nat.le_trans (hw _) (by decide))) rfl rfl rfl rfl rfl .nil ⟨Has.of mT2, trivial⟩ fun _ => ?_
      refine sp3 hT ?_
      refine nn ?_
      refine at_cond rfl (fun hc76 => ?_) (fun hc76 => ?_)
      · have hc76 := not_t hc76
        refine at_seq ?_
        refine at_mix _ _ [(true, 0), (true, 1), (false, 2), (false, 3), (false, 4)] mixes (by decide +kernel) (.cons .head (.cons .head (.cons .head (.cons .head .nil)))) HasAll.self ?_
        refine atm_sti rfl rfl rfl rfl (ldN hT (knows_own (off := 0) kT2)) ?_
        refine atm_sti rfl rfl rfl rfl (sti_pure hT rfl) ?_
        refine atm_op (o := _) rfl ?_
        refine at_call (callFunc_enter Tryz.func33 rfl rfl) (fault_spec bl A c toks (k) e _) rfl rfl rfl rfl rfl (.cons kT1 .nil) ⟨Has.of mT1, trivial⟩ fun _ => ?_
        refine atm_go (.cons kT1 (.cons .head (.cons .head (.cons .head .nil)))) (HasAll.drop 0) ?_
        refine atm_op (o := _) rfl ?_
        refine sto hT kT5 ?_
        refine atm_go (.cons kT2 (.cons kT1 (.cons kT1 (.cons kT1 .nil)))) (HasAll.drop 0) ?_
        refine atm_op (o := _) rfl ?_
        refine sto hT kT5 ?_
        refine atm_go (.cons kT3 (.cons kT2 (.cons kT2 (.cons kT2 .nil)))) (HasAll.drop 0) ?_
        refine atm_nil ?_
        refine n_then ?_
        refine at_ret ?_
        refine r_then ?_
        refine r_block ?_
        refine r_then ?_
        refine r_then ?_
        refine r_block ?_
        refine r_then ?_
        have hr := hR.symm.trans (by rw [inputP, if_neg (by omega), if_neg (by rintro (h | h) <;> simp_all), ← hinv8.1, sides_bad (e := e) (by omega) (by assumption) (by first | exact .inl (by assumption) | exact .inr (by assumption))])
        subst hr
        refine at_freeze kT5 ?_
        exact at_res2 (⟨(peekP toks 1).word, atP toks 1 e, ⟨_, _, sides⟩⟩, _) rfl (rv_cell hT (knows_own (off := 0) kT1) rfl rfl rfl rfl) (rv_cell hT (knows_own (off := 0) .head) rfl rfl rfl rfl) (.cons kT2 .nil) ⟨Has.of mT0, Has.pure rfl, trivial⟩ rfl
      have hc76 := not_f hc76
      refine at_skip ?_
      refine n_then ?_
      refine at_seq ?_
      refine sr ?_
      refine sp hT ?_
      refine ss (ldO hT (knows_own (off := 2) kT2)) ?_
      refine sp2 hT ?_
      refine nn ?_
      refine at_cond rfl (fun hc83 => ?_) (fun hc83 => ?_)
      · have hc83 := eq_of_beq hc83
        refine at_seq ?_
        refine at_mix _ _ [(true, 0), (true, 1), (false, 2), (false, 3), (false, 4)] mixes (by decide +kernel) (.cons .head (.cons .head (.cons .head (.cons .head .nil)))) HasAll.self ?_
        refine atm_sti rfl rfl rfl rfl (ldN hT (knows_own (off := 0) kT2)) ?_
        refine atm_sti rfl rfl rfl rfl (sti_pure hT rfl) ?_
        refine atm_op (o := _) rfl ?_
        refine at_call (callFunc_enter Tryz.func33 rfl rfl) (fault_spec bl A c toks (k) e _) rfl rfl rfl rfl rfl (.cons kT1 .nil) ⟨Has.of mT1, trivial⟩ fun _ => ?_
        refine atm_go (.cons kT1 (.cons .head (.cons .head (.cons .head .nil)))) (HasAll.drop 0) ?_
        refine atm_op (o := _) rfl ?_
        refine sto hT kT5 ?_
        refine atm_go (.cons kT2 (.cons kT1 (.cons kT1 (.cons kT1 .nil)))) (HasAll.drop 0) ?_
        refine atm_op (o := _) rfl ?_
        refine sto hT kT5 ?_
        refine atm_go (.cons kT3 (.cons kT2 (.cons kT2 (.cons kT2 .nil)))) (HasAll.drop 0) ?_
        refine atm_nil ?_
        refine n_then ?_
        refine at_ret ?_
        refine r_then ?_
        refine r_block ?_
        refine r_then ?_
        refine r_then ?_
        refine r_block ?_
        refine r_then ?_
        have hr := hR.symm.trans (by rw [inputP, if_neg (by omega), if_neg (by rintro (h | h) <;> simp_all), ← hinv8.1, sides_many (e := e) (by omega) (by first | exact .inl (by assumption) | exact .inr ⟨by assumption, by assumption⟩) (by simp; omega)])
        subst hr
        refine at_freeze kT5 ?_
        exact at_res2 (⟨(peekP toks 1).word, atP toks 1 e, ⟨_, _, sides⟩⟩, _) rfl (rv_cell hT (knows_own (off := 0) kT1) rfl rfl rfl rfl) (rv_cell hT (knows_own (off := 0) .head) rfl rfl rfl rfl) (.cons kT2 .nil) ⟨Has.of mT0, Has.pure rfl, trivial⟩ rfl
      have hc83 := beq_eq_false_iff_ne.1 hc83
      refine at_skip ?_
      refine n_then ?_
      refine at_region ?_
      refine sp hT ?_
      refine ss (ldO hT (knows_own (off := 2) kT2)) ?_
      refine sp hT ?_
      refine ss (ldO hT (knows_own (off := 2) .head)) ?_
      refine sp hT ?_
      refine ss (ldO hT (knows_own (off := 3) .head)) ?_
      refine ss (sti_build rfl rfl (input_built_api_Side_01 _ _)) ?_
      refine at_one_side (m := ⟨_, _⟩) rfl rfl rfl rfl rfl fun b5 => ?_
      refine at_app_side kT4 (reads_obj .head rfl) rfl rfl rfl rfl rfl rfl rfl (by simp only [List.length_singleton]; omega) fun A6 c7 => ?_
      refine sp hT ?_
      refine sto hT kT4 ?_
      refine at_nil ?_
      refine n_block ?_
      refine n_then ?_
      refine at_region ?_
      refine sp3 hT ?_
      refine ss (ldO hT (knows_own (off := 1) kT4)) ?_
      refine sp hT ?_
      refine at_int (z' := (((k + 1) : Nat) : Int)) (wrapN (by omega) (by omega)) ?_
      refine sp2 hT ?_
      refine sto hT kT4 ?_
      refine nn ?_
      exact at_back2 (k + 1, sides ++ [⟨(peekP toks k).word, (peekP toks k).n⟩], _, _) (by dsimp only; omega) trivial ⟨rfl, rfl, rfl, rfl, trivial⟩ (.cons .head (.cons .head (.cons .head (.cons kT2 (.cons kT2 .nil))))) ⟨Has.pure (⟨by rw [← hinv8.1, List.map_append]; exact (sides_more (by omega) (by first | exact .inl (by assumption) | exact .inr ⟨by assumption, by assumption⟩) (by simp; omega)).symm, by dsimp only; omega, by simp; omega⟩), trivial⟩ (HasAll.drop 1)
    have hg66 := bne_eq_false_iff_eq.1 hg66
    refine sk4 ?_
    refine sk4 ?_
    refine sk ?_
    refine sp hT ?_
    refine nn ?_
    refine at_false rfl rfl ?_
    refine at_skip ?_
    refine n_then ?_
    refine at_seq ?_
    refine sr ?_
    refine sp hT ?_
    refine ss (ldO hT (knows_own (off := 2) kT2)) ?_
    refine sp2 hT ?_
    refine nn ?_
    refine at_cond rfl (fun hc83 => ?_) (fun hc83 => ?_)
    · have hc83 := eq_of_beq hc83
      refine at_seq ?_
      refine at_mix _ _ [(true, 0), (true, 1), (false, 2), (false, 3), (false, 4)] mixes (by decide +kernel) (.cons .head (.cons .head (.cons .head (.cons .head .nil)))) HasAll.self ?_
      refine atm_sti rfl rfl rfl rfl (ldN hT (knows_own (off := 0) kT2)) ?_
      refine atm_sti rfl rfl rfl rfl (sti_pure hT rfl) ?_
      refine atm_op (o := _) rfl ?_
      refine at_call (callFunc_enter Tryz.func33 rfl rfl) (fault_spec bl A c toks (k) e _) rfl rfl rfl rfl rfl (.cons kT1 .nil) ⟨Has.of mT1, trivial⟩ fun _ => ?_
      refine atm_go (.cons kT1 (.cons .head (.cons .head (.cons .head .nil)))) (HasAll.drop 0) ?_
      refine atm_op (o := _) rfl ?_
      refine sto hT kT5 ?_
      refine atm_go (.cons kT2 (.cons kT1 (.cons kT1 (.cons kT1 .nil)))) (HasAll.drop 0) ?_
      refine atm_op (o := _) rfl ?_
      refine sto hT kT5 ?_
      refine atm_go (.cons kT3 (.cons kT2 (.cons kT2 (.cons kT2 .nil)))) (HasAll.drop 0) ?_
      refine atm_nil ?_
      refine n_then ?_
      refine at_ret ?_
      refine r_then ?_
      refine r_block ?_
      refine r_then ?_
      refine r_then ?_
      refine r_block ?_
      refine r_then ?_
      have hr := hR.symm.trans (by rw [inputP, if_neg (by omega), if_neg (by rintro (h | h) <;> simp_all), ← hinv8.1, sides_many (e := e) (by omega) (by first | exact .inl (by assumption) | exact .inr ⟨by assumption, by assumption⟩) (by simp; omega)])
      subst hr
      refine at_freeze kT5 ?_
      exact at_res2 (⟨(peekP toks 1).word, atP toks 1 e, ⟨_, _, sides⟩⟩, _) rfl (rv_cell hT (knows_own (off := 0) kT1) rfl rfl rfl rfl) (rv_cell hT (knows_own (off := 0) .head) rfl rfl rfl rfl) (.cons kT2 .nil) ⟨Has.of mT0, Has.pure rfl, trivial⟩ rfl
    have hc83 := beq_eq_false_iff_ne.1 hc83
    refine at_skip ?_
    refine n_then ?_
    refine at_region ?_
    refine sp hT ?_
    refine ss (ldO hT (knows_own (off := 2) kT2)) ?_
    refine sp hT ?_
    refine ss (ldO hT (knows_own (off := 2) .head)) ?_
    refine sp hT ?_
    refine ss (ldO hT (knows_own (off := 3) .head)) ?_
    refine ss (sti_build rfl rfl (input_built_api_Side_01 _ _)) ?_
    refine at_one_side (m := ⟨_, _⟩) rfl rfl rfl rfl rfl fun b8 => ?_
    refine at_app_side kT4 (reads_obj .head rfl) rfl rfl rfl rfl rfl rfl rfl (by simp only [List.length_singleton]; omega) fun A9 c10 => ?_
    refine sp hT ?_
    refine sto hT kT4 ?_
    refine at_nil ?_
    refine n_block ?_
    refine n_then ?_
    refine at_region ?_
    refine sp3 hT ?_
    refine ss (ldO hT (knows_own (off := 1) kT4)) ?_
    refine sp hT ?_
    refine at_int (z' := (((k + 1) : Nat) : Int)) (wrapN (by omega) (by omega)) ?_
    refine sp2 hT ?_
    refine sto hT kT4 ?_
    refine nn ?_
    exact at_back2 (k + 1, sides ++ [⟨(peekP toks k).word, (peekP toks k).n⟩], _, _) (by dsimp only; omega) trivial ⟨rfl, rfl, rfl, rfl, trivial⟩ (.cons .head (.cons .head (.cons .head (.cons kT2 (.cons kT2 .nil))))) ⟨Has.pure (⟨by rw [← hinv8.1, List.map_append]; exact (sides_more (by omega) (by first | exact .inl (by assumption) | exact .inr ⟨by assumption, by assumption⟩) (by simp; omega)).symm, by dsimp only; omega, by simp; omega⟩), trivial⟩ (HasAll.drop 1)
  have hc53 := Int.not_lt.1 (of_decide_eq_false hc53)
  refine at_exit ?_
  refine x_then ?_
  refine x_then ?_
  refine x_block ?_
  refine n_then ?_
  refine sr ?_
  refine ss (ldN hT (knows_own (off := 0) kT1)) ?_
  refine ss (sti_build rfl rfl (input_built_api_Fault_)) ?_
  refine sto hT kT4 ?_
  refine sto hT kT4 ?_
  refine nn ?_
  refine at_ret ?_
  have hr := hR.symm.trans (by rw [inputP, if_neg (by omega), if_neg (by rintro (h | h) <;> simp_all), ← hinv8.1, sides_end (by omega)])
  subst hr
  refine at_freeze kT4 ?_
  exact at_res2 (⟨(peekP toks 1).word, atP toks 1 e, ⟨_, _, sides⟩⟩, _) rfl (rv_cell hT (knows_own (off := 0) kT1) rfl rfl rfl rfl) (rv_cell hT (knows_own (off := 0) .head) rfl rfl rfl rfl) (.cons kT2 .nil) ⟨Has.of mT0, Has.pure rfl, trivial⟩ rfl

set_option maxRecDepth 100000 in
theorem into_spec (bl : Nat) (A : Option Addr) (c : Nat) (toks : List TokV) (e : Int) (bp : Nat) (I : Option Addr) (ci : Nat) (ins : List InputV) (J : Option Addr) (cj : Nat) (lns : List LineV) (n : Nat) (over : Bool) (h0 : 0 < toks.length) (hn : n ≤ 64) (hil : ins.length + lns.length ≤ n) (hw : ∀ k, (peekP toks k).word.length ≤ 65536) : Spec Tryz.prog 21 [.pointer (some ⟨bl, 0, none⟩), .pointer (some ⟨bp, 0, none⟩), .int .i64 (n : Nat), .bool over] [.obj bl (.cells [.slice A toks.length c, .int .i64 (0 : Nat), .int .i64 e].toArray 52), .obj bp (.cells [.slice I ins.length ci, .slice J lns.length cj].toArray 25), inputE.row (.slice I ins.length ci) 59 ins, lineE.row (.slice J lns.length cj) 42 lns] [tokE.sl (.slice A toks.length c) toks, globF, inputsF ins, linesF lns] (fun (_ : List InputV × List LineV × (Option Addr × Nat) × (Option Addr × Nat) × Nat) => .agg #[.int .i64 (intoP toks e ⟨ins.map InputV.inp, lns.map LineV.ln⟩ n over).2.1, .int .i64 (intoP toks e ⟨ins.map InputV.inp, lns.map LineV.ln⟩ n over).2.2]) (fun (x : List InputV × List LineV × (Option Addr × Nat) × (Option Addr × Nat) × Nat) => [.obj bl (.cells [.slice A toks.length c, .int .i64 (x.2.2.2.2 : Nat), .int .i64 e].toArray 52), .obj bp (.cells [.slice x.2.2.1.1 x.1.length x.2.2.1.2, .slice x.2.2.2.1.1 x.2.1.length x.2.2.2.1.2].toArray 25), inputE.row (.slice x.2.2.1.1 x.1.length x.2.2.1.2) 59 x.1, lineE.row (.slice x.2.2.2.1.1 x.2.1.length x.2.2.2.1.2) 42 x.2.1]) (fun (x : List InputV × List LineV × (Option Addr × Nat) × (Option Addr × Nat) × Nat) => [inputsF x.1, linesF x.2.1, Fact.pure ((⟨x.1.map InputV.inp, x.2.1.map LineV.ln⟩ : Prog) = (intoP toks e ⟨ins.map InputV.inp, lns.map LineV.ln⟩ n over).1)]) := by
  have hT := showT_ok
  generalize hR : intoP toks e ⟨ins.map InputV.inp, lns.map LineV.ln⟩ n over = r
  refine spec_of Tryz.func21 rfl Tryz.ntmps21 rfl ?_
  intro β hM
  refine sr ?_
  refine at_alloc rfl rfl rfl rfl input_zero_api_Fault rfl fun b1 => ?_
  refine nn ?_
  refine sr ?_
  refine sp hT ?_
  refine at_call (callFunc_enter Tryz.func32 rfl rfl) (peek_spec bl A c toks (0) e) rfl rfl rfl rfl rfl (.cons kT1 .nil) ⟨Has.of mT0, trivial⟩ fun _ => ?_
  refine at_alloc rfl rfl rfl rfl input_zero_api_Token rfl fun b2 => ?_
  refine sto hT .head ?_
  refine nn ?_
  refine at_seq ?_
  refine at_mix _ _ [(true, 0), (true, 1), (true, 2), (true, 3), (true, 4), (true, 5), (true, 6), (true, 7), (true, 8), (true, 9), (true, 10), (true, 11), (true, 12), (true, 13), (true, 14), (true, 15), (true, 16), (true, 17)] mixes (by decide +kernel) (.cons .head (.cons .head (.cons .head (.cons .head (.cons .head (.cons .head .nil)))))) HasAll.self ?_
  refine atm_sti rfl rfl rfl rfl (sti_pure hT rfl) ?_
  refine atm_sti rfl rfl rfl rfl (ldO hT (knows_own (off := 0) .head)) ?_
  refine atm_sti rfl rfl rfl rfl (sti_pure hT rfl) ?_
  refine atm_sti rfl rfl rfl rfl (sti_pure hT rfl) ?_
  refine at_case (fun hg20 => ?_) (fun hg20 => ?_)
  · have hg20 := eq_of_beq hg20
    refine atm_sti rfl rfl rfl rfl (sti_pure hT rfl) ?_
    refine atm_sti rfl rfl rfl rfl (ldO hT (knows_own (off := 2) .head)) ?_
    refine atm_sti rfl rfl rfl rfl (sti_pure hT rfl) ?_
    refine atm_sti rfl rfl rfl rfl (sti_pure hT rfl) ?_
    refine atm_sti rfl rfl rfl rfl (sti_pure hT rfl) ?_
    refine atm_sti rfl rfl rfl rfl (ldO hT (knows_own (off := 0) .head)) ?_
    refine atm_sti rfl rfl rfl rfl (sti_pure hT rfl) ?_
    refine at_bool (t' := true) (by rw [hg20]; rfl) ?_
    refine atm_sti rfl rfl rfl rfl (sti_pure hT rfl) ?_
    refine atm_sti rfl rfl rfl rfl (sti_pure hT rfl) ?_
    refine atm_sti rfl rfl rfl rfl (ldO hT (knows_own (off := 2) .head)) ?_
    refine atm_sti rfl rfl rfl rfl (sti_pure hT rfl) ?_
    refine atm_sti rfl rfl rfl rfl (sti_pure hT rfl) ?_
    refine atm_sti rfl rfl rfl rfl (sti_pure hT rfl) ?_
    refine at_case (fun hg10 => ?_) (fun hg10 => ?_)
    · have hg10 : (peekP toks (0)).word = ([105, 110] : Bs) := eq_of_beq hg10
      have hin := isW_is (t := peekP toks 0) (w := [105, 110]) (by assumption) (by assumption)
      refine atm_sti rfl rfl rfl rfl (sti_pure hT rfl) ?_
      refine at_case (fun hg11 => ?_) (fun hg11 => ?_)
      · have hg11 : (peekP toks (0)).word = ([111, 117, 116] : Bs) := eq_of_beq hg11
        have hout := isW_is (t := peekP toks 0) (w := [111, 117, 116]) (by assumption) (by assumption)
        refine atm_nil ?_
        refine n_then ?_
        refine at_seq ?_
        refine at_block ?_
        refine sr ?_
        refine sp3 hT ?_
        refine nn ?_
        refine at_cond rfl (fun hc33 => ?_) (fun hc33 => ?_)
        · have hc33 := eq_of_beq hc33
          refine sr ?_
          refine sp hT ?_
          refine at_call (callFunc_enter Tryz.func33 rfl rfl) (fault_spec bl A c toks (0) e _) rfl rfl rfl rfl rfl (.cons kT1 .nil) ⟨Has.of mT0, trivial⟩ fun _ => ?_
          refine sto hT kT2 ?_
          refine nn ?_
          refine at_ret ?_
          refine r_block ?_
          refine r_then ?_
          have hr := hR.symm.trans (i_many (by omega))
          subst hr
          exact at_res1 (ins, lns, (_, _), (_, _), _) rfl (rv_cell hT (knows_own (off := 0) .head) rfl rfl rfl rfl) (.cons kT1 (.cons kT2 (.cons kT2 (.cons kT2 .nil)))) ⟨(Has.of mT2), (Has.of mT3), Has.pure (rfl), trivial⟩ rfl
        have hc33 := beq_eq_false_iff_ne.1 hc33
        refine sr ?_
        refine sp3 hT ?_
        refine ss (ldO hT (knows_own (off := 0) kT1)) ?_
        refine sp3 hT ?_
        refine nn ?_
        refine at_cond rfl (fun hc38 => ?_) (fun hc38 => ?_)
        · have hc38 := of_decide_eq_true hc38
          refine sr ?_
          refine sp3 hT ?_
          refine sto hT kT1 ?_
          refine nn ?_
          refine sr ?_
          refine sp hT ?_
          refine at_call (callFunc_enter Tryz.func33 rfl rfl) (fault_spec bl A c toks (256) e _) rfl rfl rfl rfl rfl (.cons .head .nil) ⟨Has.of mT0, trivial⟩ fun _ => ?_
          refine sto hT kT2 ?_
          refine nn ?_
          refine at_ret ?_
          refine r_block ?_
          refine r_then ?_
          have hr := hR.symm.trans (i_long (by omega) (by omega))
          subst hr
          exact at_res1 (ins, lns, (_, _), (_, _), _) rfl (rv_cell hT (knows_own (off := 0) .head) rfl rfl rfl rfl) (.cons kT1 (.cons kT2 (.cons kT2 (.cons kT2 .nil)))) ⟨(Has.of mT2), (Has.of mT3), Has.pure (rfl), trivial⟩ rfl
        have hc38 := Int.not_lt.1 (of_decide_eq_false hc38)
        refine sr ?_
        refine sp2 hT ?_
        refine at_case (fun hg52 => ?_) (fun hg52 => ?_)
        · refine sk4 ?_
          refine sk4 ?_
          refine sk ?_
          refine sp2 hT ?_
          refine nn ?_
          refine at_true rfl rfl ?_
          refine sr ?_
          refine sp hT ?_
          refine at_call (callFunc_enter Tryz.func33 rfl rfl) (fault_spec bl A c toks (0) e _) rfl rfl rfl rfl rfl (.cons kT1 .nil) ⟨Has.of mT0, trivial⟩ fun _ => ?_
          refine sto hT kT2 ?_
          refine nn ?_
          refine at_ret ?_
          refine r_block ?_
          refine r_then ?_
          have hr := hR.symm.trans (i_place (by omega) (by omega) (by first | exact .inl (by assumption) | exact .inr ⟨hin, map_ne (by omega)⟩))
          subst hr
          exact at_res1 (ins, lns, (_, _), (_, _), _) rfl (rv_cell hT (knows_own (off := 0) .head) rfl rfl rfl rfl) (.cons kT1 (.cons kT2 (.cons kT2 (.cons kT2 .nil)))) ⟨(Has.of mT2), (Has.of mT3), Has.pure (rfl), trivial⟩ rfl
        refine sp4 hT ?_
        refine sp hT ?_
        refine ss (ldO hT (knows_own (off := 1) kT3)) ?_
        refine sp4 hT ?_
        refine sp hT ?_
        refine nn ?_
        refine at_cond rfl (fun hc50 => ?_) (fun hc50 => ?_)
        · have hc50 := of_decide_eq_true hc50
          refine sr ?_
          refine sp hT ?_
          refine at_call (callFunc_enter Tryz.func33 rfl rfl) (fault_spec bl A c toks (0) e _) rfl rfl rfl rfl rfl (.cons kT1 .nil) ⟨Has.of mT0, trivial⟩ fun _ => ?_
          refine sto hT kT2 ?_
          refine nn ?_
          refine at_ret ?_
          refine r_block ?_
          refine r_then ?_
          have hr := hR.symm.trans (i_place (by omega) (by omega) (by first | exact .inl (by assumption) | exact .inr ⟨hin, map_ne (by omega)⟩))
          subst hr
          exact at_res1 (ins, lns, (_, _), (_, _), _) rfl (rv_cell hT (knows_own (off := 0) .head) rfl rfl rfl rfl) (.cons kT1 (.cons kT2 (.cons kT2 (.cons kT2 .nil)))) ⟨(Has.of mT2), (Has.of mT3), Has.pure (rfl), trivial⟩ rfl
        have hc50 := Int.not_lt.1 (of_decide_eq_false hc50)
        refine sr ?_
        refine sp2 hT ?_
        refine nn ?_
        refine at_true rfl rfl ?_
        refine sr ?_
        refine at_alloc rfl rfl rfl rfl input_zero_api_Input rfl fun b3 => ?_
        refine nn ?_
        refine sr ?_
        refine sp hT ?_
        refine at_call (callFunc_enter Tryz.func34 rfl rfl) (input_spec bl A c toks 0 e h0 (by omega) hw) rfl rfl rfl rfl rfl (.cons kT2 .nil) ⟨(Has.of mT0), (Has.of mT1), trivial⟩ fun ⟨x4, k5⟩ => ?_
        refine at_know (Has.of mT1) fun hx => ?_
        dsimp only at hx
        refine at_fact (inputsF (ins ++ [x4])) (inputs_add (Has.of mT4) (Has.of mT0)) ?_
        refine sp3 hT ?_
        refine sto hT kT1 ?_
        refine sto hT kT3 ?_
        refine nn ?_
        refine at_seq ?_
        refine at_mixL 10 _ _ [(true, 0), (true, 1), (true, 2), (true, 3), (true, 4), (true, 5), (false, 6), (false, 7), (true, 8), (true, 9)] mixes (by decide +kernel) (.cons .head (.cons .head (.cons .head (.cons .head (.cons .head (.cons kT1 .nil)))))) HasAll.self ?_
        refine atl_sti rfl rfl rfl rfl (sti_pure hT rfl) ?_
        refine atl_sti rfl rfl rfl rfl (sti_pure hT rfl) ?_
        refine atl_sti rfl rfl rfl rfl (sti_pure hT rfl) ?_
        refine atl_sti rfl rfl rfl rfl (sti_pure hT rfl) ?_
        refine atl_sti rfl rfl rfl rfl (ldO hT (knows_own (off := 0) kT4)) ?_
        refine atl_sti rfl rfl rfl rfl (ldN hT (knows_own (off := 0) kT1)) ?_
        refine atl_op (o := _) rfl ?_
        refine at_one_input (m := x4) rfl rfl rfl rfl rfl fun b6 => ?_
        refine atl_go (.cons kT1 (.cons kT1 (.cons kT1 (.cons kT1 (.cons kT1 (.cons kT2 .nil)))))) (HasAll.drop 0) ?_
        refine atl_op (o := _) rfl ?_
        refine at_app_input kT6 (reads_obj .head rfl) rfl rfl rfl rfl rfl rfl rfl (by simp only [List.length_singleton]; omega) fun A7 c8 => ?_
        refine atl_go (.cons kT2 (.cons kT2 (.cons kT2 (.cons kT2 (.cons kT2 (.cons kT2 .nil)))))) (HasAll.drop 0) ?_
        refine atl_sti rfl rfl rfl rfl (sti_pure hT rfl) ?_
        refine atl_sti rfl rfl rfl rfl (sti_pure hT rfl) ?_
        refine atl_last (o := _) rfl ?_
        refine sto hT kT6 ?_
        refine atl_end ?_
        refine n_then ?_
        refine sr ?_
        refine ss (ldN hT (knows_own (off := 0) kT3)) ?_
        refine sto hT kT3 ?_
        refine nn ?_
        refine at_ret ?_
        refine r_block ?_
        refine r_then ?_
        have hr := hR.symm.trans (i_in (by omega) (by omega) (by assumption) hin (map_nil (by omega)))
        subst hr
        exact at_res1 ((ins ++ [x4]), lns, (_, _), (_, _), _) rfl (rv_cell hT (knows_own (off := 0) .head) rfl rfl rfl rfl) (.cons kT5 (.cons kT1 (.cons kT1 (.cons kT4 .nil)))) ⟨(Has.of mT0), (Has.of mT6), Has.pure (by rw [List.map_append, ← hx]; rfl), trivial⟩ rfl
      have hg11 : (peekP toks (0)).word ≠ ([111, 117, 116] : Bs) := fun h => absurd (beq_iff_eq.2 h) (by rw [show ((peekP toks (0)).word == ([111, 117, 116] : Bs)) = false from hg11]; simp)
      have hout := isW_no (t := peekP toks 0) (w := [111, 117, 116]) (by assumption)
      refine atm_nil ?_
      refine n_then ?_
      refine at_seq ?_
      refine at_block ?_
      refine sr ?_
      refine sp3 hT ?_
      refine nn ?_
      refine at_cond rfl (fun hc33 => ?_) (fun hc33 => ?_)
      · have hc33 := eq_of_beq hc33
        refine sr ?_
        refine sp hT ?_
        refine at_call (callFunc_enter Tryz.func33 rfl rfl) (fault_spec bl A c toks (0) e _) rfl rfl rfl rfl rfl (.cons kT1 .nil) ⟨Has.of mT0, trivial⟩ fun _ => ?_
        refine sto hT kT2 ?_
        refine nn ?_
        refine at_ret ?_
        refine r_block ?_
        refine r_then ?_
        have hr := hR.symm.trans (i_many (by omega))
        subst hr
        exact at_res1 (ins, lns, (_, _), (_, _), _) rfl (rv_cell hT (knows_own (off := 0) .head) rfl rfl rfl rfl) (.cons kT1 (.cons kT2 (.cons kT2 (.cons kT2 .nil)))) ⟨(Has.of mT2), (Has.of mT3), Has.pure (rfl), trivial⟩ rfl
      have hc33 := beq_eq_false_iff_ne.1 hc33
      refine sr ?_
      refine sp3 hT ?_
      refine ss (ldO hT (knows_own (off := 0) kT1)) ?_
      refine sp3 hT ?_
      refine nn ?_
      refine at_cond rfl (fun hc38 => ?_) (fun hc38 => ?_)
      · have hc38 := of_decide_eq_true hc38
        refine sr ?_
        refine sp3 hT ?_
        refine sto hT kT1 ?_
        refine nn ?_
        refine sr ?_
        refine sp hT ?_
        refine at_call (callFunc_enter Tryz.func33 rfl rfl) (fault_spec bl A c toks (256) e _) rfl rfl rfl rfl rfl (.cons .head .nil) ⟨Has.of mT0, trivial⟩ fun _ => ?_
        refine sto hT kT2 ?_
        refine nn ?_
        refine at_ret ?_
        refine r_block ?_
        refine r_then ?_
        have hr := hR.symm.trans (i_long (by omega) (by omega))
        subst hr
        exact at_res1 (ins, lns, (_, _), (_, _), _) rfl (rv_cell hT (knows_own (off := 0) .head) rfl rfl rfl rfl) (.cons kT1 (.cons kT2 (.cons kT2 (.cons kT2 .nil)))) ⟨(Has.of mT2), (Has.of mT3), Has.pure (rfl), trivial⟩ rfl
      have hc38 := Int.not_lt.1 (of_decide_eq_false hc38)
      refine sr ?_
      refine sp2 hT ?_
      refine at_case (fun hg52 => ?_) (fun hg52 => ?_)
      · refine sk4 ?_
        refine sk4 ?_
        refine sk ?_
        refine sp2 hT ?_
        refine nn ?_
        refine at_true rfl rfl ?_
        refine sr ?_
        refine sp hT ?_
        refine at_call (callFunc_enter Tryz.func33 rfl rfl) (fault_spec bl A c toks (0) e _) rfl rfl rfl rfl rfl (.cons kT1 .nil) ⟨Has.of mT0, trivial⟩ fun _ => ?_
        refine sto hT kT2 ?_
        refine nn ?_
        refine at_ret ?_
        refine r_block ?_
        refine r_then ?_
        have hr := hR.symm.trans (i_place (by omega) (by omega) (by first | exact .inl (by assumption) | exact .inr ⟨hin, map_ne (by omega)⟩))
        subst hr
        exact at_res1 (ins, lns, (_, _), (_, _), _) rfl (rv_cell hT (knows_own (off := 0) .head) rfl rfl rfl rfl) (.cons kT1 (.cons kT2 (.cons kT2 (.cons kT2 .nil)))) ⟨(Has.of mT2), (Has.of mT3), Has.pure (rfl), trivial⟩ rfl
      refine sp4 hT ?_
      refine sp hT ?_
      refine ss (ldO hT (knows_own (off := 1) kT3)) ?_
      refine sp4 hT ?_
      refine sp hT ?_
      refine nn ?_
      refine at_cond rfl (fun hc50 => ?_) (fun hc50 => ?_)
      · have hc50 := of_decide_eq_true hc50
        refine sr ?_
        refine sp hT ?_
        refine at_call (callFunc_enter Tryz.func33 rfl rfl) (fault_spec bl A c toks (0) e _) rfl rfl rfl rfl rfl (.cons kT1 .nil) ⟨Has.of mT0, trivial⟩ fun _ => ?_
        refine sto hT kT2 ?_
        refine nn ?_
        refine at_ret ?_
        refine r_block ?_
        refine r_then ?_
        have hr := hR.symm.trans (i_place (by omega) (by omega) (by first | exact .inl (by assumption) | exact .inr ⟨hin, map_ne (by omega)⟩))
        subst hr
        exact at_res1 (ins, lns, (_, _), (_, _), _) rfl (rv_cell hT (knows_own (off := 0) .head) rfl rfl rfl rfl) (.cons kT1 (.cons kT2 (.cons kT2 (.cons kT2 .nil)))) ⟨(Has.of mT2), (Has.of mT3), Has.pure (rfl), trivial⟩ rfl
      have hc50 := Int.not_lt.1 (of_decide_eq_false hc50)
      refine sr ?_
      refine sp2 hT ?_
      refine nn ?_
      refine at_true rfl rfl ?_
      refine sr ?_
      refine at_alloc rfl rfl rfl rfl input_zero_api_Input rfl fun b9 => ?_
      refine nn ?_
      refine sr ?_
      refine sp hT ?_
      refine at_call (callFunc_enter Tryz.func34 rfl rfl) (input_spec bl A c toks 0 e h0 (by omega) hw) rfl rfl rfl rfl rfl (.cons kT2 .nil) ⟨(Has.of mT0), (Has.of mT1), trivial⟩ fun ⟨x10, k11⟩ => ?_
      refine at_know (Has.of mT1) fun hx => ?_
      dsimp only at hx
      refine at_fact (inputsF (ins ++ [x10])) (inputs_add (Has.of mT4) (Has.of mT0)) ?_
      refine sp3 hT ?_
      refine sto hT kT1 ?_
      refine sto hT kT3 ?_
      refine nn ?_
      refine at_seq ?_
      refine at_mixL 10 _ _ [(true, 0), (true, 1), (true, 2), (true, 3), (true, 4), (true, 5), (false, 6), (false, 7), (true, 8), (true, 9)] mixes (by decide +kernel) (.cons .head (.cons .head (.cons .head (.cons .head (.cons .head (.cons kT1 .nil)))))) HasAll.self ?_
      refine atl_sti rfl rfl rfl rfl (sti_pure hT rfl) ?_
      refine atl_sti rfl rfl rfl rfl (sti_pure hT rfl) ?_
      refine atl_sti rfl rfl rfl rfl (sti_pure hT rfl) ?_
      refine atl_sti rfl rfl rfl rfl (sti_pure hT rfl) ?_
      refine atl_sti rfl rfl rfl rfl (ldO hT (knows_own (off := 0) kT4)) ?_
      refine atl_sti rfl rfl rfl rfl (ldN hT (knows_own (off := 0) kT1)) ?_
      refine atl_op (o := _) rfl ?_
      refine at_one_input (m := x10) rfl rfl rfl rfl rfl fun b12 => ?_
      refine atl_go (.cons kT1 (.cons kT1 (.cons kT1 (.cons kT1 (.cons kT1 (.cons kT2 .nil)))))) (HasAll.drop 0) ?_
      refine atl_op (o := _) rfl ?_
      refine at_app_input kT6 (reads_obj .head rfl) rfl rfl rfl rfl rfl rfl rfl (by simp only [List.length_singleton]; omega) fun A13 c14 => ?_
      refine atl_go (.cons kT2 (.cons kT2 (.cons kT2 (.cons kT2 (.cons kT2 (.cons kT2 .nil)))))) (HasAll.drop 0) ?_
      refine atl_sti rfl rfl rfl rfl (sti_pure hT rfl) ?_
      refine atl_sti rfl rfl rfl rfl (sti_pure hT rfl) ?_
      refine atl_last (o := _) rfl ?_
      refine sto hT kT6 ?_
      refine atl_end ?_
      refine n_then ?_
      refine sr ?_
      refine ss (ldN hT (knows_own (off := 0) kT3)) ?_
      refine sto hT kT3 ?_
      refine nn ?_
      refine at_ret ?_
      refine r_block ?_
      refine r_then ?_
      have hr := hR.symm.trans (i_in (by omega) (by omega) (by assumption) hin (map_nil (by omega)))
      subst hr
      exact at_res1 ((ins ++ [x10]), lns, (_, _), (_, _), _) rfl (rv_cell hT (knows_own (off := 0) .head) rfl rfl rfl rfl) (.cons kT5 (.cons kT1 (.cons kT1 (.cons kT4 .nil)))) ⟨(Has.of mT0), (Has.of mT6), Has.pure (by rw [List.map_append, ← hx]; rfl), trivial⟩ rfl
    have hg10 : (peekP toks (0)).word ≠ ([105, 110] : Bs) := fun h => absurd (beq_iff_eq.2 h) (by rw [show ((peekP toks (0)).word == ([105, 110] : Bs)) = false from hg10]; simp)
    have hin := isW_no (t := peekP toks 0) (w := [105, 110]) (by assumption)
    refine atm_sti rfl rfl rfl rfl (sti_pure hT rfl) ?_
    refine at_case (fun hg11 => ?_) (fun hg11 => ?_)
    · have hg11 : (peekP toks (0)).word = ([111, 117, 116] : Bs) := eq_of_beq hg11
      have hout := isW_is (t := peekP toks 0) (w := [111, 117, 116]) (by assumption) (by assumption)
      refine atm_nil ?_
      refine n_then ?_
      refine at_seq ?_
      refine at_block ?_
      refine sr ?_
      refine sp3 hT ?_
      refine nn ?_
      refine at_cond rfl (fun hc33 => ?_) (fun hc33 => ?_)
      · have hc33 := eq_of_beq hc33
        refine sr ?_
        refine sp hT ?_
        refine at_call (callFunc_enter Tryz.func33 rfl rfl) (fault_spec bl A c toks (0) e _) rfl rfl rfl rfl rfl (.cons kT1 .nil) ⟨Has.of mT0, trivial⟩ fun _ => ?_
        refine sto hT kT2 ?_
        refine nn ?_
        refine at_ret ?_
        refine r_block ?_
        refine r_then ?_
        have hr := hR.symm.trans (i_many (by omega))
        subst hr
        exact at_res1 (ins, lns, (_, _), (_, _), _) rfl (rv_cell hT (knows_own (off := 0) .head) rfl rfl rfl rfl) (.cons kT1 (.cons kT2 (.cons kT2 (.cons kT2 .nil)))) ⟨(Has.of mT2), (Has.of mT3), Has.pure (rfl), trivial⟩ rfl
      have hc33 := beq_eq_false_iff_ne.1 hc33
      refine sr ?_
      refine sp3 hT ?_
      refine ss (ldO hT (knows_own (off := 0) kT1)) ?_
      refine sp3 hT ?_
      refine nn ?_
      refine at_cond rfl (fun hc38 => ?_) (fun hc38 => ?_)
      · have hc38 := of_decide_eq_true hc38
        refine sr ?_
        refine sp3 hT ?_
        refine sto hT kT1 ?_
        refine nn ?_
        refine sr ?_
        refine sp hT ?_
        refine at_call (callFunc_enter Tryz.func33 rfl rfl) (fault_spec bl A c toks (256) e _) rfl rfl rfl rfl rfl (.cons .head .nil) ⟨Has.of mT0, trivial⟩ fun _ => ?_
        refine sto hT kT2 ?_
        refine nn ?_
        refine at_ret ?_
        refine r_block ?_
        refine r_then ?_
        have hr := hR.symm.trans (i_long (by omega) (by omega))
        subst hr
        exact at_res1 (ins, lns, (_, _), (_, _), _) rfl (rv_cell hT (knows_own (off := 0) .head) rfl rfl rfl rfl) (.cons kT1 (.cons kT2 (.cons kT2 (.cons kT2 .nil)))) ⟨(Has.of mT2), (Has.of mT3), Has.pure (rfl), trivial⟩ rfl
      have hc38 := Int.not_lt.1 (of_decide_eq_false hc38)
      refine sr ?_
      refine sp2 hT ?_
      refine at_case (fun hg52 => ?_) (fun hg52 => ?_)
      · refine sk4 ?_
        refine sk4 ?_
        refine sk ?_
        refine sp2 hT ?_
        refine nn ?_
        refine at_true rfl rfl ?_
        refine sr ?_
        refine sp hT ?_
        refine at_call (callFunc_enter Tryz.func33 rfl rfl) (fault_spec bl A c toks (0) e _) rfl rfl rfl rfl rfl (.cons kT1 .nil) ⟨Has.of mT0, trivial⟩ fun _ => ?_
        refine sto hT kT2 ?_
        refine nn ?_
        refine at_ret ?_
        refine r_block ?_
        refine r_then ?_
        have hr := hR.symm.trans (i_place (by omega) (by omega) (by first | exact .inl (by assumption) | exact .inr ⟨hin, map_ne (by omega)⟩))
        subst hr
        exact at_res1 (ins, lns, (_, _), (_, _), _) rfl (rv_cell hT (knows_own (off := 0) .head) rfl rfl rfl rfl) (.cons kT1 (.cons kT2 (.cons kT2 (.cons kT2 .nil)))) ⟨(Has.of mT2), (Has.of mT3), Has.pure (rfl), trivial⟩ rfl
      refine sp2 hT ?_
      refine sk4 ?_
      refine sk2 ?_
      refine sp3 hT ?_
      refine nn ?_
      refine at_false rfl rfl ?_
      refine sr ?_
      refine sp2 hT ?_
      refine nn ?_
      refine at_false rfl rfl ?_
      refine sr ?_
      refine sp3 hT ?_
      refine sk4 ?_
      refine sk4 ?_
      refine sk ?_
      refine sp2 hT ?_
      refine nn ?_
      refine at_false rfl rfl ?_
      refine at_skip ?_
      refine n_block ?_
      refine n_then ?_
      refine sr ?_
      refine sp hT ?_
      refine ss (ldO hT (knows_own (off := 1) .head)) ?_
      refine ss (sti_build rfl rfl (input_built_api_Line_1 _)) ?_
      refine at_alloc rfl rfl rfl rfl input_zero_api_Line rfl fun b15 => ?_
      refine sto hT .head ?_
      refine nn ?_
      refine sr ?_
      refine sp3 hT ?_
      refine sto hT kT2 ?_
      refine nn ?_
      refine at_seq ?_
      refine sr ?_
      refine sp2 hT ?_
      refine nn ?_
      refine at_false rfl rfl ?_
      refine at_skip ?_
      refine n_then ?_
      refine sr ?_
      refine sp hT ?_
      refine at_call (callFunc_enter Tryz.func36 rfl rfl) (expr_spec bl A c toks (1) e (by omega) (by omega) hw) rfl rfl rfl rfl rfl (.cons .head .nil) ⟨(Has.of mT0), (Has.of mT1), trivial⟩ fun ⟨C16, e17, its18, k19⟩ => ?_
      refine at_know (Has.of mT2) fun hits => ?_
      dsimp only at hits
      refine at_fact (linesF (lns ++ [(⟨[], (peekP toks 0).at_, ⟨C16, e17, its18⟩⟩ : LineV)])) (lines_add (Has.of mT6) (Has.and (Has.of mT0) (Has.of mT1))) ?_
      refine sp4 hT ?_
      refine sto hT kT1 ?_
      refine sto hT kT3 ?_
      refine nn ?_
      refine at_seq ?_
      refine at_mixL 10 _ _ [(true, 0), (true, 1), (true, 2), (true, 3), (true, 4), (true, 5), (false, 6), (false, 7), (true, 8), (true, 9)] mixes (by decide +kernel) (.cons .head (.cons .head (.cons .head (.cons .head (.cons .head (.cons .head .nil)))))) HasAll.self ?_
      refine atl_sti rfl rfl rfl rfl (sti_pure hT rfl) ?_
      refine atl_sti rfl rfl rfl rfl (sti_pure hT rfl) ?_
      refine atl_sti rfl rfl rfl rfl (sti_pure hT rfl) ?_
      refine atl_sti rfl rfl rfl rfl (sti_pure hT rfl) ?_
      refine atl_sti rfl rfl rfl rfl (ldO hT (knows_own (off := 1) kT4)) ?_
      refine atl_sti rfl rfl rfl rfl (ldN hT (knows_own (off := 0) kT1)) ?_
      refine atl_op (o := _) rfl ?_
      refine at_one_line (m := (⟨[], (peekP toks 0).at_, ⟨C16, e17, its18⟩⟩ : LineV)) rfl rfl rfl rfl rfl fun b20 => ?_
      refine atl_go (.cons kT1 (.cons kT1 (.cons kT1 (.cons kT1 (.cons kT1 (.cons kT1 .nil)))))) (HasAll.drop 0) ?_
      refine atl_op (o := _) rfl ?_
      refine at_app_line kT7 (reads_obj .head rfl) rfl rfl rfl rfl rfl rfl rfl (by simp only [List.length_singleton]; omega) fun A21 c22 => ?_
      refine atl_go (.cons kT2 (.cons kT2 (.cons kT2 (.cons kT2 (.cons kT2 (.cons kT2 .nil)))))) (HasAll.drop 0) ?_
      refine atl_sti rfl rfl rfl rfl (sti_pure hT rfl) ?_
      refine atl_sti rfl rfl rfl rfl (sti_pure hT rfl) ?_
      refine atl_last (o := _) rfl ?_
      refine sto hT kT6 ?_
      refine atl_end ?_
      refine n_then ?_
      refine sr ?_
      refine ss (ldN hT (knows_own (off := 0) kT3)) ?_
      refine sto hT kT3 ?_
      refine nn ?_
      refine at_ret ?_
      have hr := hR.symm.trans (i_out (by omega) (by omega) (by assumption) hin hout)
      subst hr
      exact at_res1 (ins, (lns ++ [(⟨[], (peekP toks 0).at_, ⟨C16, e17, its18⟩⟩ : LineV)]), (_, _), (_, _), _) rfl (rv_cell hT (knows_own (off := 0) .head) rfl rfl rfl rfl) (.cons kT5 (.cons kT1 (.cons kT5 (.cons kT1 .nil)))) ⟨(Has.of mT6), (Has.of mT0), Has.pure (by rw [List.map_append, lineP, ← hits]; rfl), trivial⟩ rfl
    have hg11 : (peekP toks (0)).word ≠ ([111, 117, 116] : Bs) := fun h => absurd (beq_iff_eq.2 h) (by rw [show ((peekP toks (0)).word == ([111, 117, 116] : Bs)) = false from hg11]; simp)
    have hout := isW_no (t := peekP toks 0) (w := [111, 117, 116]) (by assumption)
    refine atm_nil ?_
    refine n_then ?_
    refine at_seq ?_
    refine at_block ?_
    refine sr ?_
    refine sp3 hT ?_
    refine nn ?_
    refine at_cond rfl (fun hc33 => ?_) (fun hc33 => ?_)
    · have hc33 := eq_of_beq hc33
      refine sr ?_
      refine sp hT ?_
      refine at_call (callFunc_enter Tryz.func33 rfl rfl) (fault_spec bl A c toks (0) e _) rfl rfl rfl rfl rfl (.cons kT1 .nil) ⟨Has.of mT0, trivial⟩ fun _ => ?_
      refine sto hT kT2 ?_
      refine nn ?_
      refine at_ret ?_
      refine r_block ?_
      refine r_then ?_
      have hr := hR.symm.trans (i_many (by omega))
      subst hr
      exact at_res1 (ins, lns, (_, _), (_, _), _) rfl (rv_cell hT (knows_own (off := 0) .head) rfl rfl rfl rfl) (.cons kT1 (.cons kT2 (.cons kT2 (.cons kT2 .nil)))) ⟨(Has.of mT2), (Has.of mT3), Has.pure (rfl), trivial⟩ rfl
    have hc33 := beq_eq_false_iff_ne.1 hc33
    refine sr ?_
    refine sp3 hT ?_
    refine ss (ldO hT (knows_own (off := 0) kT1)) ?_
    refine sp3 hT ?_
    refine nn ?_
    refine at_cond rfl (fun hc38 => ?_) (fun hc38 => ?_)
    · have hc38 := of_decide_eq_true hc38
      refine sr ?_
      refine sp3 hT ?_
      refine sto hT kT1 ?_
      refine nn ?_
      refine sr ?_
      refine sp hT ?_
      refine at_call (callFunc_enter Tryz.func33 rfl rfl) (fault_spec bl A c toks (256) e _) rfl rfl rfl rfl rfl (.cons .head .nil) ⟨Has.of mT0, trivial⟩ fun _ => ?_
      refine sto hT kT2 ?_
      refine nn ?_
      refine at_ret ?_
      refine r_block ?_
      refine r_then ?_
      have hr := hR.symm.trans (i_long (by omega) (by omega))
      subst hr
      exact at_res1 (ins, lns, (_, _), (_, _), _) rfl (rv_cell hT (knows_own (off := 0) .head) rfl rfl rfl rfl) (.cons kT1 (.cons kT2 (.cons kT2 (.cons kT2 .nil)))) ⟨(Has.of mT2), (Has.of mT3), Has.pure (rfl), trivial⟩ rfl
    have hc38 := Int.not_lt.1 (of_decide_eq_false hc38)
    refine sr ?_
    refine sp2 hT ?_
    refine at_case (fun hg52 => ?_) (fun hg52 => ?_)
    · refine sk4 ?_
      refine sk4 ?_
      refine sk ?_
      refine sp2 hT ?_
      refine nn ?_
      refine at_true rfl rfl ?_
      refine sr ?_
      refine sp hT ?_
      refine at_call (callFunc_enter Tryz.func33 rfl rfl) (fault_spec bl A c toks (0) e _) rfl rfl rfl rfl rfl (.cons kT1 .nil) ⟨Has.of mT0, trivial⟩ fun _ => ?_
      refine sto hT kT2 ?_
      refine nn ?_
      refine at_ret ?_
      refine r_block ?_
      refine r_then ?_
      have hr := hR.symm.trans (i_place (by omega) (by omega) (by first | exact .inl (by assumption) | exact .inr ⟨hin, map_ne (by omega)⟩))
      subst hr
      exact at_res1 (ins, lns, (_, _), (_, _), _) rfl (rv_cell hT (knows_own (off := 0) .head) rfl rfl rfl rfl) (.cons kT1 (.cons kT2 (.cons kT2 (.cons kT2 .nil)))) ⟨(Has.of mT2), (Has.of mT3), Has.pure (rfl), trivial⟩ rfl
    refine sp2 hT ?_
    refine sk4 ?_
    refine sk2 ?_
    refine sp3 hT ?_
    refine nn ?_
    refine at_false rfl rfl ?_
    refine sr ?_
    refine sp2 hT ?_
    refine nn ?_
    refine at_false rfl rfl ?_
    refine sr ?_
    refine sp4 hT ?_
    refine ss (ldO hT (knows_own (off := 0) .head)) ?_
    refine sp hT ?_
    refine at_bool (t' := false) ((congrArg not (show ((peekP toks (0)).kind == 1) = true from (by rw [hg20]; rfl)) : (!_) = _)) ?_
    refine sp2 hT ?_
    refine ss (ldO hT (knows_own (off := 2) .head)) ?_
    refine at_call (callFunc_enter Tryz.func35 rfl rfl) (Name_spec _ (Nat.le_trans (hw _) (by decide))) rfl rfl rfl rfl rfl .nil ⟨Has.of mT1, trivial⟩ fun _ => ?_
    refine sp4 hT ?_
    refine nn ?_
    refine at_cond rfl (fun hc83 => ?_) (fun hc83 => ?_)
    · have hc83 := not_t hc83
      refine sr ?_
      refine sp hT ?_
      refine at_call (callFunc_enter Tryz.func33 rfl rfl) (fault_spec bl A c toks (0) e _) rfl rfl rfl rfl rfl (.cons kT1 .nil) ⟨Has.of mT0, trivial⟩ fun _ => ?_
      refine sto hT kT2 ?_
      refine nn ?_
      refine at_ret ?_
      refine r_block ?_
      refine r_then ?_
      have hr := hR.symm.trans (i_none (by omega) (by omega) (by assumption) hin hout (by first | exact .inl (by assumption) | exact .inr (by assumption)))
      subst hr
      exact at_res1 (ins, lns, (_, _), (_, _), _) rfl (rv_cell hT (knows_own (off := 0) .head) rfl rfl rfl rfl) (.cons kT1 (.cons kT2 (.cons kT2 (.cons kT2 .nil)))) ⟨(Has.of mT2), (Has.of mT3), Has.pure (rfl), trivial⟩ rfl
    have hc83 := not_f hc83
    refine at_skip ?_
    refine n_block ?_
    refine n_then ?_
    refine sr ?_
    refine sp hT ?_
    refine ss (ldO hT (knows_own (off := 1) .head)) ?_
    refine ss (sti_build rfl rfl (input_built_api_Line_1 _)) ?_
    refine at_alloc rfl rfl rfl rfl input_zero_api_Line rfl fun b23 => ?_
    refine sto hT .head ?_
    refine nn ?_
    refine sr ?_
    refine sp3 hT ?_
    refine sto hT kT2 ?_
    refine nn ?_
    refine at_seq ?_
    refine sr ?_
    refine sp2 hT ?_
    refine nn ?_
    refine at_true rfl rfl ?_
    refine sr ?_
    refine sp hT ?_
    refine ss (ldO hT (knows_own (off := 2) kT2)) ?_
    refine sp hT ?_
    refine sto hT kT1 ?_
    refine nn ?_
    refine at_seq ?_
    refine sr ?_
    refine sp hT ?_
    refine at_call (callFunc_enter Tryz.func32 rfl rfl) (peek_spec bl A c toks (1) e) rfl rfl rfl rfl rfl (.cons kT1 .nil) ⟨Has.of mT0, trivial⟩ fun _ => ?_
    refine at_alloc rfl rfl rfl rfl input_zero_api_Token rfl fun b24 => ?_
    refine sto hT .head ?_
    refine nn ?_
    refine sr ?_
    refine sp hT ?_
    refine ss (ldO hT (knows_own (off := 0) .head)) ?_
    refine sp2 hT ?_
    refine at_case (fun hg115 => ?_) (fun hg115 => ?_)
    · have hg115 := bne_iff_ne.1 hg115
      refine sk3 ?_
      refine sp hT ?_
      refine nn ?_
      refine at_true rfl rfl ?_
      refine sr ?_
      refine sp hT ?_
      refine at_call (callFunc_enter Tryz.func33 rfl rfl) (fault_spec bl A c toks (1) e _) rfl rfl rfl rfl rfl (.cons kT1 .nil) ⟨Has.of mT0, trivial⟩ fun _ => ?_
      refine sto hT kT4 ?_
      refine nn ?_
      refine at_ret ?_
      refine r_then ?_
      refine r_then ?_
      have hr := hR.symm.trans (i_want (by omega) (by omega) (by assumption) hin hout (by assumption) (by assumption) (by first | exact .inl (by assumption) | exact .inr (by assumption)))
      subst hr
      exact at_res1 (ins, lns, (_, _), (_, _), _) rfl (rv_cell hT (knows_own (off := 0) .head) rfl rfl rfl rfl) (.cons kT1 (.cons kT4 (.cons kT4 (.cons kT4 .nil)))) ⟨(Has.of mT2), (Has.of mT3), Has.pure (rfl), trivial⟩ rfl
    have hg115 := bne_eq_false_iff_eq.1 hg115
    refine sp hT ?_
    refine ss (ldO hT (knows_own (off := 2) .head)) ?_
    refine sp2 hT ?_
    refine nn ?_
    refine at_cond rfl (fun hc119 => ?_) (fun hc119 => ?_)
    · have hc119 : (peekP toks (1)).word ≠ ([58] : Bs) := fun h => by rw [h] at hc119; first | (simp at hc119; done) | exact absurd hc119 (by decide)
      refine sr ?_
      refine sp hT ?_
      refine at_call (callFunc_enter Tryz.func33 rfl rfl) (fault_spec bl A c toks (1) e _) rfl rfl rfl rfl rfl (.cons kT1 .nil) ⟨Has.of mT0, trivial⟩ fun _ => ?_
      refine sto hT kT4 ?_
      refine nn ?_
      refine at_ret ?_
      refine r_then ?_
      refine r_then ?_
      have hr := hR.symm.trans (i_want (by omega) (by omega) (by assumption) hin hout (by assumption) (by assumption) (by first | exact .inl (by assumption) | exact .inr (by assumption)))
      subst hr
      exact at_res1 (ins, lns, (_, _), (_, _), _) rfl (rv_cell hT (knows_own (off := 0) .head) rfl rfl rfl rfl) (.cons kT1 (.cons kT4 (.cons kT4 (.cons kT4 .nil)))) ⟨(Has.of mT2), (Has.of mT3), Has.pure (rfl), trivial⟩ rfl
    have hc119 : (peekP toks (1)).word = ([58] : Bs) := eq_of_beq (not_f hc119)
    refine at_skip ?_
    refine n_then ?_
    refine at_region ?_
    refine sp3 hT ?_
    refine sto hT kT1 ?_
    refine nn ?_
    refine sr ?_
    refine sp hT ?_
    refine at_call (callFunc_enter Tryz.func36 rfl rfl) (expr_spec bl A c toks (2) e (by have := kind_lt (toks := toks) (k := 1) (by omega); omega) (by omega) hw) rfl rfl rfl rfl rfl (.cons .head .nil) ⟨(Has.of mT0), (Has.of mT1), trivial⟩ fun ⟨C25, e26, its27, k28⟩ => ?_
    refine at_know (Has.of mT2) fun hits => ?_
    dsimp only at hits
    refine at_fact (linesF (lns ++ [(⟨(peekP toks 0).word, (peekP toks 0).at_, ⟨C25, e26, its27⟩⟩ : LineV)])) (lines_add (Has.of mT6) (Has.and (Has.of mT0) (Has.of mT1))) ?_
    refine sp4 hT ?_
    refine sto hT kT2 ?_
    refine sto hT kT4 ?_
    refine nn ?_
    refine at_seq ?_
    refine at_mixL 10 _ _ [(true, 0), (true, 1), (true, 2), (true, 3), (true, 4), (true, 5), (false, 6), (false, 7), (true, 8), (true, 9)] mixes (by decide +kernel) (.cons .head (.cons .head (.cons .head (.cons .head (.cons .head (.cons .head (.cons .head .nil))))))) HasAll.self ?_
    refine atl_sti rfl rfl rfl rfl (sti_pure hT rfl) ?_
    refine atl_sti rfl rfl rfl rfl (sti_pure hT rfl) ?_
    refine atl_sti rfl rfl rfl rfl (sti_pure hT rfl) ?_
    refine atl_sti rfl rfl rfl rfl (sti_pure hT rfl) ?_
    refine atl_sti rfl rfl rfl rfl (ldO hT (knows_own (off := 1) kT5)) ?_
    refine atl_sti rfl rfl rfl rfl (ldN hT (knows_own (off := 0) kT1)) ?_
    refine atl_op (o := _) rfl ?_
    refine at_one_line (m := (⟨(peekP toks 0).word, (peekP toks 0).at_, ⟨C25, e26, its27⟩⟩ : LineV)) rfl rfl rfl rfl rfl fun b29 => ?_
    refine atl_go (.cons kT1 (.cons kT1 (.cons kT1 (.cons kT1 (.cons kT1 (.cons kT1 (.cons kT1 .nil))))))) (HasAll.drop 0) ?_
    refine atl_op (o := _) rfl ?_
    refine at_app_line kT8 (reads_obj .head rfl) rfl rfl rfl rfl rfl rfl rfl (by simp only [List.length_singleton]; omega) fun A30 c31 => ?_
    refine atl_go (.cons kT2 (.cons kT2 (.cons kT2 (.cons kT2 (.cons kT2 (.cons kT2 (.cons kT2 .nil))))))) (HasAll.drop 0) ?_
    refine atl_sti rfl rfl rfl rfl (sti_pure hT rfl) ?_
    refine atl_sti rfl rfl rfl rfl (sti_pure hT rfl) ?_
    refine atl_last (o := _) rfl ?_
    refine sto hT kT7 ?_
    refine atl_end ?_
    refine n_then ?_
    refine sr ?_
    refine ss (ldN hT (knows_own (off := 0) kT3)) ?_
    refine sto hT kT3 ?_
    refine nn ?_
    refine at_ret ?_
    have hr := hR.symm.trans (i_line (by omega) (by omega) (by assumption) hin hout (by assumption) (by assumption) (by assumption) (by assumption))
    subst hr
    exact at_res1 (ins, (lns ++ [(⟨(peekP toks 0).word, (peekP toks 0).at_, ⟨C25, e26, its27⟩⟩ : LineV)]), (_, _), (_, _), _) rfl (rv_cell hT (knows_own (off := 0) .head) rfl rfl rfl rfl) (.cons kT5 (.cons kT1 (.cons kT6 (.cons kT1 .nil)))) ⟨(Has.of mT6), (Has.of mT0), Has.pure (by rw [List.map_append, lineP, ← hits]; rfl), trivial⟩ rfl
  have hg20 := beq_eq_false_iff_ne.1 hg20
  refine atm_skipped rfl rfl rfl rfl ?_
  refine atm_skipped rfl rfl rfl rfl ?_
  refine atm_skipped rfl rfl rfl rfl ?_
  refine atm_sti rfl rfl rfl rfl (sti_pure hT rfl) ?_
  refine atm_sti rfl rfl rfl rfl (sti_pure hT rfl) ?_
  refine atm_sti rfl rfl rfl rfl (ldO hT (knows_own (off := 0) .head)) ?_
  refine atm_sti rfl rfl rfl rfl (sti_pure hT rfl) ?_
  refine at_bool (t' := false) (beq_eq_false_iff_ne.2 hg20) ?_
  refine atm_sti rfl rfl rfl rfl (sti_pure hT rfl) ?_
  refine atm_skipped rfl rfl rfl rfl ?_
  refine atm_skipped rfl rfl rfl rfl ?_
  refine atm_skipped rfl rfl rfl rfl ?_
  refine atm_sti rfl rfl rfl rfl (sti_pure hT rfl) ?_
  refine atm_sti rfl rfl rfl rfl (sti_pure hT rfl) ?_
  refine atm_sti rfl rfl rfl rfl (sti_pure hT rfl) ?_
  refine atm_nil ?_
  refine n_then ?_
  refine at_seq ?_
  refine at_block ?_
  refine at_seq ?_
  have hin := isW_ne (t := peekP toks 0) (w := [105, 110]) (by assumption)
  have hout := isW_ne (t := peekP toks 0) (w := [111, 117, 116]) (by assumption)
  refine at_region ?_
  refine sp3 hT ?_
  refine nn ?_
  refine at_cond rfl (fun hc33 => ?_) (fun hc33 => ?_)
  · have hc33 := eq_of_beq hc33
    refine sr ?_
    refine sp hT ?_
    refine at_call (callFunc_enter Tryz.func33 rfl rfl) (fault_spec bl A c toks (0) e _) rfl rfl rfl rfl rfl (.cons kT1 .nil) ⟨Has.of mT0, trivial⟩ fun _ => ?_
    refine sto hT kT2 ?_
    refine nn ?_
    refine at_ret ?_
    refine r_block ?_
    refine r_then ?_
    have hr := hR.symm.trans (i_many (by omega))
    subst hr
    exact at_res1 (ins, lns, (_, _), (_, _), _) rfl (rv_cell hT (knows_own (off := 0) .head) rfl rfl rfl rfl) (.cons kT1 (.cons kT2 (.cons kT2 (.cons kT2 .nil)))) ⟨(Has.of mT2), (Has.of mT3), Has.pure (rfl), trivial⟩ rfl
  have hc33 := beq_eq_false_iff_ne.1 hc33
  refine sr ?_
  refine sp3 hT ?_
  refine ss (ldO hT (knows_own (off := 0) kT1)) ?_
  refine sp3 hT ?_
  refine nn ?_
  refine at_cond rfl (fun hc38 => ?_) (fun hc38 => ?_)
  · have hc38 := of_decide_eq_true hc38
    refine sr ?_
    refine sp3 hT ?_
    refine sto hT kT1 ?_
    refine nn ?_
    refine sr ?_
    refine sp hT ?_
    refine at_call (callFunc_enter Tryz.func33 rfl rfl) (fault_spec bl A c toks (256) e _) rfl rfl rfl rfl rfl (.cons .head .nil) ⟨Has.of mT0, trivial⟩ fun _ => ?_
    refine sto hT kT2 ?_
    refine nn ?_
    refine at_ret ?_
    refine r_block ?_
    refine r_then ?_
    have hr := hR.symm.trans (i_long (by omega) (by omega))
    subst hr
    exact at_res1 (ins, lns, (_, _), (_, _), _) rfl (rv_cell hT (knows_own (off := 0) .head) rfl rfl rfl rfl) (.cons kT1 (.cons kT2 (.cons kT2 (.cons kT2 .nil)))) ⟨(Has.of mT2), (Has.of mT3), Has.pure (rfl), trivial⟩ rfl
  have hc38 := Int.not_lt.1 (of_decide_eq_false hc38)
  refine sr ?_
  refine sp2 hT ?_
  refine at_case (fun hg52 => ?_) (fun hg52 => ?_)
  · refine sk4 ?_
    refine sk4 ?_
    refine sk ?_
    refine sp2 hT ?_
    refine nn ?_
    refine at_true rfl rfl ?_
    refine sr ?_
    refine sp hT ?_
    refine at_call (callFunc_enter Tryz.func33 rfl rfl) (fault_spec bl A c toks (0) e _) rfl rfl rfl rfl rfl (.cons kT1 .nil) ⟨Has.of mT0, trivial⟩ fun _ => ?_
    refine sto hT kT2 ?_
    refine nn ?_
    refine at_ret ?_
    refine r_block ?_
    refine r_then ?_
    have hr := hR.symm.trans (i_place (by omega) (by omega) (by first | exact .inl (by assumption) | exact .inr ⟨hin, map_ne (by omega)⟩))
    subst hr
    exact at_res1 (ins, lns, (_, _), (_, _), _) rfl (rv_cell hT (knows_own (off := 0) .head) rfl rfl rfl rfl) (.cons kT1 (.cons kT2 (.cons kT2 (.cons kT2 .nil)))) ⟨(Has.of mT2), (Has.of mT3), Has.pure (rfl), trivial⟩ rfl
  refine sp2 hT ?_
  refine sk4 ?_
  refine sk2 ?_
  refine sp3 hT ?_
  refine nn ?_
  refine at_false rfl rfl ?_
  refine sr ?_
  refine sp2 hT ?_
  refine nn ?_
  refine at_false rfl rfl ?_
  refine sr ?_
  refine sp4 hT ?_
  refine ss (ldO hT (knows_own (off := 0) .head)) ?_
  refine sp hT ?_
  refine at_bool (t' := true) ((congrArg not (show ((peekP toks (0)).kind == 1) = false from (beq_eq_false_iff_ne.2 hg20)) : (!_) = _)) ?_
  refine sp hT ?_
  refine sk4 ?_
  refine sp3 hT ?_
  refine nn ?_
  refine at_true rfl rfl ?_
  refine sr ?_
  refine sp hT ?_
  refine at_call (callFunc_enter Tryz.func33 rfl rfl) (fault_spec bl A c toks (0) e _) rfl rfl rfl rfl rfl (.cons kT1 .nil) ⟨Has.of mT0, trivial⟩ fun _ => ?_
  refine sto hT kT2 ?_
  refine nn ?_
  refine at_ret ?_
  refine r_block ?_
  refine r_then ?_
  have hr := hR.symm.trans (i_none (by omega) (by omega) (by assumption) hin hout (by first | exact .inl (by assumption) | exact .inr (by assumption)))
  subst hr
  exact at_res1 (ins, lns, (_, _), (_, _), _) rfl (rv_cell hT (knows_own (off := 0) .head) rfl rfl rfl rfl) (.cons kT1 (.cons kT2 (.cons kT2 (.cons kT2 .nil)))) ⟨(Has.of mT2), (Has.of mT3), Has.pure (rfl), trivial⟩ rfl

end Go.Proofs.YtngkedmndhmjcaaGreatDoor
