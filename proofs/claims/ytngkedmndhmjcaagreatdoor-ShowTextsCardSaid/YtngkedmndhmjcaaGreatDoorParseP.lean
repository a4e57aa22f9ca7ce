/- Plain: how parse reads lines and programs (no program in sight); what tokens are. -/
import Derived.Test.YtngkedmndhmjcaaGreatDoorExprB
import Derived.Test.YtngkedmndhmjcaaGreatDoorShowP
namespace Go.Proofs.YtngkedmndhmjcaaGreatDoor
open Go.RowKit

def SideV.sd (x : SideV) : Side := ⟨x.name, x.n⟩
def InputV.inp (x : InputV) : Input := ⟨x.name, x.at_, x.sides.list.map SideV.sd⟩
def LineV.ln (x : LineV) : Line := ⟨x.name, x.at_, x.items.list.map ItemV.it⟩
def ProgV.pr (x : ProgV) : Prog := ⟨x.inputs.list.map InputV.inp, x.lines.list.map LineV.ln⟩

/-- the sides of an input -/
def sidesP : List TokV → List Side → List Side × Flt
  | [], acc => (acc, (0, 0))
  | t :: r, acc =>
    if t.kind ≠ 2 ∧ (t.kind ≠ 1 ∨ nameB t.word = false) then (acc, (t.at_, 41))
    else if acc.length = 4 then (acc, (t.at_, 45)) else sidesP r (acc ++ [⟨t.word, t.n⟩])
section
variable (toks : List TokV) (e : Int)
def inputP : Input × Flt :=
  if toks.length = 1 then (⟨(peekP toks 1).word, atP toks 1 e, []⟩, (atP toks 1 e, 42))
  else if (peekP toks 1).kind ≠ 1 ∨ nameB (peekP toks 1).word = false then (⟨(peekP toks 1).word, atP toks 1 e, []⟩, (atP toks 1 e, 41))
  else (⟨(peekP toks 1).word, atP toks 1 e, (sidesP (toks.drop 2) []).1⟩, (sidesP (toks.drop 2) []).2)
def isW (t : TokV) (w : Bs) : Bool := t.kind == 1 && t.word == w
def lineP (name : Bs) (k : Nat) : Line × Flt := (⟨name, (peekP toks 0).at_, (exprP toks e k).1⟩, (exprP toks e k).2)
def intoP (p : Prog) (n : Nat) (over : Bool) : Prog × Flt :=
  if n = 64 then (p, (atP toks 0 e, 45))
  else if 256 < toks.length then (p, (atP toks 256 e, 45))
  else if over = true ∨ isW (peekP toks 0) [105, 110] = true ∧ p.lines ≠ [] then (p, (atP toks 0 e, 40))
  else if isW (peekP toks 0) [105, 110] = true then (⟨p.inputs ++ [(inputP toks e).1], p.lines⟩, (inputP toks e).2)
  else if isW (peekP toks 0) [111, 117, 116] = true then (⟨p.inputs, p.lines ++ [(lineP toks e [] 1).1]⟩, (lineP toks e [] 1).2)
  else if (peekP toks 0).kind ≠ 1 ∨ nameB (peekP toks 0).word = false then (p, (atP toks 0 e, 40))
  else if (peekP toks 1).kind ≠ 3 ∨ (peekP toks 1).word ≠ [58] then (p, (atP toks 1 e, 42))
  else (⟨p.inputs, p.lines ++ [(lineP toks e (peekP toks 0).word 2).1]⟩, (lineP toks e (peekP toks 0).word 2).2)
end
/-- tokens ahead of the next line's end -/
def ownP (toks : List TokV) : List TokV := toks.takeWhile fun t => t.kind != 4
/-- what is behind them -/
def behP (toks : List TokV) : List TokV := toks.drop ((ownP toks).length)
def endP (toks : List TokV) (len : Int) : Int := atP toks (ownP toks).length len
def overP (p : Prog) : Bool := match p.lines.getLast? with
  | none => false
  | some l => l.name == []
def parseGo (len : Int) : Nat → List TokV → Prog → Nat → Bool → Prog × Flt
  | 0, _, _, _, _ => (⟨[], []⟩, (0, 0))
  | f + 1, toks, p, n, over =>
    if toks = [] then (if over = true then (p, (0, 0)) else (⟨[], []⟩, (len, 42)))
    else if ownP toks = [] then parseGo len f (toks.drop 1) p n over
    else if isOk (intoP (ownP toks) (endP toks len) p n over).2 then
      parseGo len f (toks.drop ((ownP toks).length + 1)) (intoP (ownP toks) (endP toks len) p n over).1 (n + 1) (overP (intoP (ownP toks) (endP toks len) p n over).1)
    else (⟨[], []⟩, (intoP (ownP toks) (endP toks len) p n over).2)
def parseP (text : Bs) : Prog × Flt :=
  if isOk (lexP text).2 then parseGo text.length ((lexP text).1.length + 1) (lexP text).1 ⟨[], []⟩ 0 false else (⟨[], []⟩, (lexP text).2)
/-- what is still to be done leads to r -/
def PInv (r : Prog × Flt) (len : Int) (toks : List TokV) (p : Prog) (n : Nat) (over : Bool) : Prop := ∃ f, toks.length + 1 ≤ f ∧ parseGo len f toks p n over = r
section
variable {r : Prog × Flt} {len : Int} {toks : List TokV} {p : Prog} {n : Nat} {over : Bool}
theorem p_end (h : PInv r len toks p n over) (h0 : toks = []) : r = if over = true then (p, (0, 0)) else (⟨[], []⟩, (len, 42)) := by
  obtain ⟨f, hf, h⟩ := h
  obtain ⟨f, rfl⟩ : ∃ g, f = g + 1 := ⟨f - 1, by omega⟩
  rw [parseGo, if_pos h0] at h
  exact h.symm
theorem p_skip (h : PInv r len toks p n over) (h0 : toks ≠ []) (h1 : ownP toks = []) : PInv r len (toks.drop 1) p n over := by
  obtain ⟨f, hf, h⟩ := h
  have : 0 < toks.length := List.length_pos_iff.2 h0
  obtain ⟨f, rfl⟩ : ∃ g, f = g + 1 := ⟨f - 1, by omega⟩
  rw [parseGo, if_neg h0, if_pos h1] at h
  exact ⟨f, by rw [List.length_drop]; omega, h⟩
theorem p_line (h : PInv r len toks p n over) (h0 : toks ≠ []) (h1 : ownP toks ≠ []) {q : Prog} {f : Flt} (hq : intoP (ownP toks) (endP toks len) p n over = (q, f)) :
    (isOk f = true → PInv r len (toks.drop ((ownP toks).length + 1)) q (n + 1) (overP q)) ∧ (isOk f = false → r = (⟨[], []⟩, f)) := by
  obtain ⟨g, hg, h⟩ := h
  have : 0 < toks.length := List.length_pos_iff.2 h0
  obtain ⟨g, rfl⟩ : ∃ k, g = k + 1 := ⟨g - 1, by omega⟩
  rw [parseGo, if_neg h0, if_neg h1, hq] at h
  refine ⟨fun hi => ?_, fun hi => ?_⟩
  · rw [if_pos hi] at h
    exact ⟨g, by rw [List.length_drop]; omega, h⟩
  · rw [if_neg (by rw [hi]; simp)] at h
    exact h.symm
end

/-! ### what tokens are -/
structure TokOk (t : TokV) : Prop where
  word : t.word.length ≤ 16
  lo : -9223372036854775808 ≤ t.n
  hi : t.n ≤ 9223372036854775807
theorem numP_range {neg : Bool} {ds : Bs} {v : Int} (h : numP neg ds = some v) : -9223372036854775808 ≤ v ∧ v ≤ 9223372036854775807 := by
  unfold numP at h
  split at h
  · split at h
    · injection h with h
      omega
    · cases h
  · split at h
    · injection h with h
      omega
    · cases h
theorem numTok_ok {b : UInt8} {r : Bs} {t : TokR} (h : numTok b r = .ok (some t)) : t.2.1 = [] ∧ -9223372036854775808 ≤ t.2.2.1 ∧ t.2.2.1 ≤ 9223372036854775807 := by
  unfold numTok at h
  dsimp only at h
  by_cases hb : (b == 95) = true
  · simp only [hb, if_true] at h
    split at h
    · cases h
    · split at h
      · cases h
      · rename_i hv
        simp only [Except.ok.injEq, Option.some.injEq] at h
        subst h
        exact ⟨rfl, numP_range hv⟩
  · simp only [hb, Bool.false_eq_true, if_false] at h
    split at h
    · cases h
    · split at h
      · cases h
      · rename_i hv
        simp only [Except.ok.injEq, Option.some.injEq] at h
        subst h
        exact ⟨rfl, numP_range hv⟩
theorem tokenP_ok {s : Bs} {k v : Int} {wd : Bs} {m : Nat} (h : tokenP s = .ok (k, wd, v, m)) : wd.length ≤ 16 ∧ -9223372036854775808 ≤ v ∧ v ≤ 9223372036854775807 := by
  cases s with
  | nil => cases h
  | cons b r =>
    simp only [tokenP] at h
    split at h
    · cases h
      decide
    · split at h
      · split at h
        · cases h
        · cases h
          rename_i h16
          have := (List.length_take_le (runB wordB (b :: r)) (b :: r))
          exact ⟨by omega, by decide, by decide⟩
      · split at h
        · cases h
        · rename_i t' ht
          simp only [Except.ok.injEq] at h
          subst h
          obtain ⟨h1, h2, h3⟩ := numTok_ok ht
          simp only at h1 h2 h3
          exact ⟨by rw [h1]; decide, h2, h3⟩
        · split at h
          · cases h
          · cases h
            have h2 : signP (b :: r) ≤ 2 := by
              simp only [signP]
              split
              · omega
              · split <;> omega
            have := (List.length_take_le (signP (b :: r)) (b :: r))
            exact ⟨by omega, by decide, by decide⟩
theorem lexGo_ok : ∀ (f i : Nat) (s : Bs) (out : List Tok), (∀ t ∈ out, TokOk t) → ∀ t ∈ (lexGo f i s out).1, TokOk t
  | 0, _, _, out, h => h
  | _ + 1, _, [], out, h => h
  | f + 1, i, b :: r, out, h => by
    unfold lexGo
    split
    · exact lexGo_ok f _ _ _ h
    · split
      · exact lexGo_ok f _ _ _ h
      · split
        · exact fun t ht => by simp at ht
        · rename_i ht
          refine lexGo_ok f _ _ _ fun t hm => ?_
          rcases List.mem_append.1 hm with hm | hm
          · exact h t hm
          · rw [List.mem_singleton.1 hm]
            obtain ⟨h1, h2, h3⟩ := tokenP_ok ht
            exact ⟨h1, h2, h3⟩
theorem lex_ok (s : Bs) : ∀ t ∈ (lexP s).1, TokOk t := by
  unfold lexP
  split
  · exact fun t ht => by simp at ht
  · exact lexGo_ok _ _ _ _ fun t ht => by simp at ht
theorem peek_ok {toks : List TokV} (h : ∀ t ∈ toks, TokOk t) (k : Nat) : TokOk (peekP toks k) := by
  unfold peekP
  split
  · rename_i ht
    exact h _ (List.mem_of_getElem? ht)
  · exact ⟨by decide, by decide, by decide⟩
theorem peek_word {toks : List TokV} (h : ∀ t ∈ toks, TokOk t) (k : Nat) : (peekP toks k).word.length ≤ 65536 := Nat.le_trans (peek_ok h k).word (by decide)
theorem own_le (toks : List TokV) : (ownP toks).length ≤ toks.length := (List.takeWhile_sublist _).length_le
theorem own_take (toks : List TokV) : toks.take (ownP toks).length = ownP toks := by
  unfold ownP
  induction toks with
  | nil => rfl
  | cons t r ih =>
    rw [List.takeWhile_cons]
    split
    · rw [List.length_cons, List.take_succ_cons, ih]
    · rfl
/-- ahead of place n there is no line's end -/
theorem own_more {toks : List TokV} {n : Nat} {x : TokV} (hn : n ≤ (ownP toks).length) (hx : toks[n]? = some x) (h4 : x.kind ≠ 4) : n + 1 ≤ (ownP toks).length := by
  unfold ownP at *
  induction toks generalizing n with
  | nil => simp at hx
  | cons t r ih =>
    rw [List.takeWhile_cons] at hn ⊢
    split at hn
    · rename_i ht
      rw [if_pos ht]
      cases n with
      | zero => simp
      | succ n =>
        have := ih (n := n) (by simpa using hn) (by simpa using hx)
        simp; omega
    · rename_i ht
      have : n = 0 := by simpa using hn
      subst this
      simp at hx
      subst hx
      simp [h4] at ht
theorem own_stop {toks : List TokV} {n : Nat} (hn : n ≤ (ownP toks).length) (h : toks.length ≤ n ∨ ∃ x : TokV, toks[n]? = some x ∧ x.kind = 4) : n = (ownP toks).length := by
  have hl := own_le toks
  rcases h with h | ⟨x, hx, h4⟩
  · omega
  · rcases Nat.lt_or_ge n (ownP toks).length with hlt | hge
    · exfalso
      have hm : (ownP toks)[n]? = some x := by
        rw [← own_take toks, List.getElem?_take, if_pos hlt]
        exact hx
      have := List.all_takeWhile (p := fun t : TokV => t.kind != 4) (l := toks)
      have := List.all_eq_true.1 this x (List.mem_of_getElem? hm)
      simp [h4] at this
    · omega
end Go.Proofs.YtngkedmndhmjcaaGreatDoor
