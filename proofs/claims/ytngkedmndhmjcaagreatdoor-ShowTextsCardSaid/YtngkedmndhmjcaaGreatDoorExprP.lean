/- Plain: how parse.line.expr reads an expression (no program): a stack of what is still to be done. -/
import Derived.Test.YtngkedmndhmjcaaGreatDoorExprA
namespace Go.Proofs.YtngkedmndhmjcaaGreatDoor
open Go.RowKit

/-- an item, without addresses -/
structure Item where
  how : Int
  at_ : Int
  fn : Int
  name : Bs
  nums : List Int
  deriving Inhabited, DecidableEq
def ItemV.it (x : ItemV) : Item := ⟨x.how, x.at_, x.fn, x.name, x.nums.list⟩
def Phr.it (p : Phr) : Item := ⟨p.how, p.at_, p.fn, [], []⟩
theorem phrI_it (p : Phr) : (phrI p).it = p.it := rfl
abbrev Stk := List (Option Item)
def erase (st : List Todo) : Stk := st.map fun o => o.map fun x => x.2.it
def finI : Stk → List Item × Stk
  | some x :: r => (x :: (finI r).1, (finI r).2)
  | none :: r => ([], none :: r)
  | [] => ([], [])
theorem fin_erase : ∀ st : List Todo, (finP st).1.map ItemV.it = (finI (erase st)).1 ∧ erase (finP st).2 = (finI (erase st)).2
  | [] => ⟨rfl, rfl⟩
  | none :: r => ⟨rfl, rfl⟩
  | some x :: r => by
    obtain ⟨h1, h2⟩ := fin_erase r
    exact ⟨by simp [finP, finI, erase] at *; exact h1, h2⟩
/-- how many brackets are open -/
def opens : List Todo → Nat
  | [] => 0
  | none :: r => opens r + 1
  | some _ :: r => opens r
theorem fin_opens : ∀ st : List Todo, opens (finP st).2 = opens st
  | [] => rfl
  | none :: _ => rfl
  | some _ :: r => fin_opens r
theorem fin_len : ∀ st : List Todo, (finP st).1.length + (finP st).2.length = st.length
  | [] => rfl
  | none :: r => by simp [finP]
  | some x :: r => by have := fin_len r; simp [finP]; omega
theorem fin_open {st : List Todo} (h : 0 < opens st) : ∃ r, (finP st).2 = none :: r ∧ opens r + 1 = opens st := by
  induction st with
  | nil => simp [opens] at h
  | cons o st ih =>
    cases o with
    | none => exact ⟨st, rfl, rfl⟩
    | some x => exact ih h

section
variable (toks : List TokV) (e : Int)
/-- the numbers from a token on -/
def numsFrom (k : Nat) : List Int := ((toks.drop k).takeWhile fun t => t.kind == 2).map (·.n)
def isOk (f : Flt) : Bool := fltEq ⟨f.1, f.2⟩ ⟨0, 0⟩
abbrev ExprR := List Item × Flt
/-- behind an operand and the brackets that end there -/
def restP (rec : Nat → List Item → Stk → Nat → ExprR) (o k : Nat) (out : List Item) (st : Stk) : ExprR :=
  if (peekP toks k).kind = 4 then (if 0 < o then ([], (atP toks k e, 42)) else (out ++ (finI st).1, (0, 0)))
  else if (peekP toks k).kind = 2 ∨ verbB (peekP toks k).word = false then ([], (atP toks k e, 46))
  else if isOk (phraseP toks k e true).flt then rec (phraseP toks k e true).next out (some (phraseP toks k e true).it :: st) o else ([], (phraseP toks k e true).flt)
/-- behind an operand -/
def behindP (rec : Nat → List Item → Stk → Nat → ExprR) : Nat → Nat → List Item → Stk → ExprR
  | 0, k, out, st => restP toks e rec 0 k out st
  | o + 1, k, out, st => if (peekP toks k).kind = 3 ∧ (peekP toks k).word = [41] then behindP rec o (k + 1) (out ++ (finI st).1) (finI st).2.tail else restP toks e rec (o + 1) k out st
def numItem (k : Nat) : Item := ⟨1, (peekP toks k).at_, 0, [], numsFrom toks k⟩
def nameItem (k : Nat) : Item := ⟨2, (peekP toks k).at_, 0, (peekP toks k).word, []⟩
def exprGo : Nat → Nat → List Item → Stk → Nat → ExprR
  | 0, _, _, _, _ => ([], (0, 0))
  | f + 1, k, out, st, o =>
    if (peekP toks k).kind ≠ 2 ∧ (peekP toks k).kind ≠ 4 ∧ verbB (peekP toks k).word = true then
      if isOk (phraseP toks k e false).flt then exprGo f (phraseP toks k e false).next out (some (phraseP toks k e false).it :: st) o else ([], (phraseP toks k e false).flt)
    else if (peekP toks k).kind = 3 ∧ (peekP toks k).word = [40] then
      if o = 32 then ([], (atP toks k e, 44)) else exprGo f (k + 1) out (none :: st) (o + 1)
    else if (peekP toks k).kind = 2 then behindP toks e (exprGo f) o (k + (numsFrom toks k).length) (out ++ [numItem toks k]) st
    else if (peekP toks k).kind = 1 ∧ nameB (peekP toks k).word = true then behindP toks e (exprGo f) o (k + 1) (out ++ [nameItem toks k]) st
    else if (peekP toks k).kind = 1 then ([], (atP toks k e, 41)) else ([], (atP toks k e, 42))
def exprP (k : Nat) : ExprR := exprGo toks e (toks.length + 1) k [] [] 0
/-- what is still to be done leads to r: ahead of an operand, behind one -/
def EInv (r : ExprR) (k : Nat) (out : List Item) (st : Stk) (o : Nat) : Prop := k ≤ toks.length ∧ ∃ f, toks.length + 1 ≤ f + k ∧ exprGo toks e f k out st o = r
def BInv (r : ExprR) (k : Nat) (out : List Item) (st : Stk) (o : Nat) : Prop := k ≤ toks.length ∧ ∃ f, toks.length + 1 ≤ f + k ∧ behindP toks e (exprGo toks e f) o k out st = r
end
theorem kind_lt {toks : List TokV} {k : Nat} (h : (peekP toks k).kind ≠ 4) : k < toks.length := by
  rcases Nat.lt_or_ge k toks.length with h' | h'
  · exact h'
  · rw [peekP_none h'] at h
    exact absurd rfl h
theorem nums_more {toks : List TokV} {k : Nat} (h : (peekP toks k).kind = 2) : numsFrom toks k = (peekP toks k).n :: numsFrom toks (k + 1) := by
  have hk := kind_lt (toks := toks) (k := k) (by rw [h]; decide)
  have e : toks[k]? = some toks[k] := List.getElem?_eq_getElem hk
  rw [peekP_some e] at h ⊢
  unfold numsFrom
  rw [List.drop_eq_getElem_cons hk, List.takeWhile_cons_of_pos (by simpa using h)]
  rfl
theorem nums_end {toks : List TokV} {k : Nat} (h : (peekP toks k).kind ≠ 2) : numsFrom toks k = [] := by
  unfold numsFrom
  rcases Nat.lt_or_ge k toks.length with hk | hk
  · have e : toks[k]? = some toks[k] := List.getElem?_eq_getElem hk
    rw [peekP_some e] at h
    rw [List.drop_eq_getElem_cons hk, List.takeWhile_cons_of_neg (by simpa using h)]
    rfl
  · rw [List.drop_of_length_le hk]
    rfl
theorem nums_le (toks : List TokV) (k : Nat) : (numsFrom toks k).length ≤ toks.length - k := by
  unfold numsFrom
  rw [List.length_map]
  have := (List.takeWhile_sublist (fun t : TokV => t.kind == 2) (l := toks.drop k)).length_le
  simpa using this
theorem phrase_next (toks : List TokV) (k : Nat) (e : Int) (b : Bool) : k + 1 ≤ (phraseP toks k e b).next ∧ (phraseP toks k e b).next ≤ k + 2 := by
  unfold phraseP
  split
  · split
    · exact ⟨by simp, by simp⟩
    · exact ⟨by simp, by simp⟩
  · exact ⟨by simp, by simp⟩
theorem phrase_in {toks : List TokV} {k : Nat} {e : Int} {b : Bool} (h : k < toks.length) : (phraseP toks k e b).next ≤ toks.length := by
  unfold phraseP
  split
  · rename_i h3
    have := kind_lt (toks := toks) (k := k + 1) (by rw [h3.1]; decide)
    split <;> (simp only; omega)
  · simp only; omega
theorem bracket_verb : verbB [40] = false := by decide
theorem name_verb {s : Bs} (h : nameB s = true) : verbB s = false := by
  unfold nameB at h
  simp only [Bool.and_eq_true, Bool.not_eq_true'] at h
  exact h.1
section
variable {toks : List TokV} {e : Int} {r : ExprR} {k o : Nat} {out : List Item} {st : Stk}
theorem e_start (h : k ≤ toks.length) : EInv toks e (exprP toks e k) k [] [] 0 := ⟨h, toks.length + 1, by omega, rfl⟩
theorem e_verb (h : EInv toks e r k out st o) (h2 : (peekP toks k).kind ≠ 2) (h4 : (peekP toks k).kind ≠ 4) (hv : verbB (peekP toks k).word = true) :
    (isOk (phraseP toks k e false).flt = true → EInv toks e r (phraseP toks k e false).next out (some (phraseP toks k e false).it :: st) o) ∧ (isOk (phraseP toks k e false).flt = false → r = ([], (phraseP toks k e false).flt)) := by
  obtain ⟨hk, f, hf, h⟩ := h
  have hlt := kind_lt h4
  obtain ⟨f, rfl⟩ : ∃ g, f = g + 1 := ⟨f - 1, by omega⟩
  rw [exprGo, if_pos ⟨h2, h4, hv⟩] at h
  have := phrase_next toks k e false
  refine ⟨fun hi => ?_, fun hi => ?_⟩
  · rw [if_pos hi] at h
    exact ⟨phrase_in hlt, f, by omega, h⟩
  · rw [if_neg (by rw [hi]; simp)] at h
    exact h.symm
theorem e_open (h : EInv toks e r k out st o) (h3 : (peekP toks k).kind = 3) (hw : (peekP toks k).word = [40]) :
    (o ≠ 32 → EInv toks e r (k + 1) out (none :: st) (o + 1)) ∧ (o = 32 → r = ([], (atP toks k e, 44))) := by
  obtain ⟨hk, f, hf, h⟩ := h
  have hlt := kind_lt (toks := toks) (k := k) (by rw [h3]; decide)
  obtain ⟨f, rfl⟩ : ∃ g, f = g + 1 := ⟨f - 1, by omega⟩
  rw [exprGo, if_neg (by rw [hw, bracket_verb]; simp), if_pos ⟨h3, hw⟩] at h
  refine ⟨fun hi => ?_, fun hi => ?_⟩
  · rw [if_neg hi] at h
    exact ⟨hlt, f, by omega, h⟩
  · rw [if_pos hi] at h
    exact h.symm
theorem e_num (h : EInv toks e r k out st o) (h2 : (peekP toks k).kind = 2) : BInv toks e r (k + (numsFrom toks k).length) (out ++ [numItem toks k]) st o := by
  obtain ⟨hk, f, hf, h⟩ := h
  have hlt := kind_lt (toks := toks) (k := k) (by rw [h2]; decide)
  obtain ⟨f, rfl⟩ : ∃ g, f = g + 1 := ⟨f - 1, by omega⟩
  rw [exprGo, if_neg (by rw [h2]; simp), if_neg (by rw [h2]; simp), if_pos h2] at h
  have h1 := nums_le toks k
  have h3 := nums_more h2
  have h4 : 1 ≤ (numsFrom toks k).length := by rw [h3]; simp
  exact ⟨by omega, f, by omega, h⟩
theorem e_name (h : EInv toks e r k out st o) (h1 : (peekP toks k).kind = 1) (hn : nameB (peekP toks k).word = true) : BInv toks e r (k + 1) (out ++ [nameItem toks k]) st o := by
  obtain ⟨hk, f, hf, h⟩ := h
  have hlt := kind_lt (toks := toks) (k := k) (by rw [h1]; decide)
  obtain ⟨f, rfl⟩ : ∃ g, f = g + 1 := ⟨f - 1, by omega⟩
  rw [exprGo, if_neg (by rw [name_verb hn]; simp), if_neg (by rw [h1]; simp), if_neg (by rw [h1]; simp), if_pos ⟨h1, hn⟩] at h
  exact ⟨by omega, f, by omega, h⟩
theorem e_word (h : EInv toks e r k out st o) (h1 : (peekP toks k).kind = 1) (hv : verbB (peekP toks k).word = false) (hn : nameB (peekP toks k).word = false) : r = ([], (atP toks k e, 41)) := by
  obtain ⟨hk, f, hf, h⟩ := h
  have hlt := kind_lt (toks := toks) (k := k) (by rw [h1]; decide)
  obtain ⟨f, rfl⟩ : ∃ g, f = g + 1 := ⟨f - 1, by omega⟩
  rw [exprGo, if_neg (by rw [hv]; simp), if_neg (by rw [h1]; simp), if_neg (by rw [h1]; simp), if_neg (by rw [hn]; simp), if_pos h1] at h
  exact h.symm
theorem e_want (h : EInv toks e r k out st o) (h1 : (peekP toks k).kind ≠ 1) (h2 : (peekP toks k).kind ≠ 2) (hv : (peekP toks k).kind = 4 ∨ verbB (peekP toks k).word = false) (hw : (peekP toks k).kind ≠ 3 ∨ (peekP toks k).word ≠ [40]) : r = ([], (atP toks k e, 42)) := by
  obtain ⟨hk, f, hf, h⟩ := h
  obtain ⟨f, rfl⟩ : ∃ g, f = g + 1 := ⟨f - 1, by omega⟩
  rw [exprGo, if_neg (by rcases hv with hv | hv <;> simp [hv]), if_neg (by rcases hw with hw | hw <;> simp [hw]), if_neg h2, if_neg (by simp [h1]), if_neg h1] at h
  exact h.symm
theorem b_close (h : BInv toks e r k out st o) (ho : 0 < o) (h3 : (peekP toks k).kind = 3) (hw : (peekP toks k).word = [41]) : BInv toks e r (k + 1) (out ++ (finI st).1) (finI st).2.tail (o - 1) := by
  obtain ⟨hk, f, hf, h⟩ := h
  have hlt := kind_lt (toks := toks) (k := k) (by rw [h3]; decide)
  obtain ⟨o, rfl⟩ : ∃ g, o = g + 1 := ⟨o - 1, by omega⟩
  rw [behindP, if_pos ⟨h3, hw⟩] at h
  exact ⟨hlt, f, by omega, h⟩
theorem b_rest (h : BInv toks e r k out st o) (hn : o = 0 ∨ (peekP toks k).kind ≠ 3 ∨ (peekP toks k).word ≠ [41]) : k ≤ toks.length ∧ ∃ f, toks.length + 1 ≤ f + k ∧ restP toks e (exprGo toks e f) o k out st = r := by
  obtain ⟨hk, f, hf, h⟩ := h
  refine ⟨hk, f, hf, ?_⟩
  cases o with
  | zero => exact h
  | succ o =>
    rw [behindP, if_neg (by
      rintro ⟨a, b⟩
      rcases hn with hn | hn | hn
      · omega
      · exact hn a
      · exact hn b)] at h
    exact h
theorem r_open (h : BInv toks e r k out st o) (h4 : (peekP toks k).kind = 4) (ho : 0 < o) : r = ([], (atP toks k e, 42)) := by
  obtain ⟨_, f, _, h⟩ := b_rest h (.inr (.inl (by rw [h4]; decide)))
  rw [restP, if_pos h4, if_pos ho] at h
  exact h.symm
theorem r_end (h : BInv toks e r k out st o) (h4 : (peekP toks k).kind = 4) (ho : ¬ 0 < o) : r = (out ++ (finI st).1, (0, 0)) := by
  obtain ⟨_, f, _, h⟩ := b_rest h (.inr (.inl (by rw [h4]; decide)))
  rw [restP, if_pos h4, if_neg ho] at h
  exact h.symm
theorem r_more (h : BInv toks e r k out st o) (hn : o = 0 ∨ (peekP toks k).kind ≠ 3 ∨ (peekP toks k).word ≠ [41]) (h4 : (peekP toks k).kind ≠ 4) (hm : (peekP toks k).kind = 2 ∨ verbB (peekP toks k).word = false) : r = ([], (atP toks k e, 46)) := by
  obtain ⟨_, f, _, h⟩ := b_rest h hn
  rw [restP, if_neg h4, if_pos hm] at h
  exact h.symm
theorem r_verb (h : BInv toks e r k out st o) (hn : o = 0 ∨ (peekP toks k).kind ≠ 3 ∨ (peekP toks k).word ≠ [41]) (h4 : (peekP toks k).kind ≠ 4) (h2 : (peekP toks k).kind ≠ 2) (hv : verbB (peekP toks k).word = true) :
    (isOk (phraseP toks k e true).flt = true → EInv toks e r (phraseP toks k e true).next out (some (phraseP toks k e true).it :: st) o) ∧ (isOk (phraseP toks k e true).flt = false → r = ([], (phraseP toks k e true).flt)) := by
  obtain ⟨_, f, hf, h⟩ := b_rest h hn
  have hlt := kind_lt h4
  rw [restP, if_neg h4, if_neg (by rw [hv]; simp [h2])] at h
  have := phrase_next toks k e true
  refine ⟨fun hi => ?_, fun hi => ?_⟩
  · rw [if_pos hi] at h
    exact ⟨phrase_in hlt, f, by omega, h⟩
  · rw [if_neg (by rw [hi]; simp)] at h
    exact h.symm
end
end Go.Proofs.YtngkedmndhmjcaaGreatDoor
