/- Plain: bytes, tokens, lexing (no program). -/
import Derived.Test.YtngkedmndhmjcaaGreatDoorTys
namespace Go.Proofs.YtngkedmndhmjcaaGreatDoor

def letterB (b : UInt8) : Bool := decide (97 ≤ (b ||| 32).toNat) && decide ((b ||| 32).toNat ≤ 122)
def digitB (b : UInt8) : Bool := decide (48 ≤ b.toNat) && decide (b.toNat ≤ 57)
def wordB (b : UInt8) : Bool := letterB b || digitB b
abbrev Tok := TokV
/-- a fault: its place, its code -/
abbrev Flt := Int × Int
def runB (p : UInt8 → Bool) : Bs → Nat
  | [] => 0
  | b :: r => if p b then runB p r + 1 else 0
theorem runB_le (p : UInt8 → Bool) : ∀ s : Bs, runB p s ≤ s.length
  | [] => Nat.le_refl _
  | b :: r => by
    unfold runB
    split
    · have := runB_le p r
      simp; omega
    · simp
def decV : Bs → Nat → Nat
  | [], v => v
  | b :: r, v => decV r (10 * v + (b.toNat - 48))
def numP (neg : Bool) (ds : Bs) : Option Int :=
  if neg then (if decV ds 0 ≤ 9223372036854775808 then some (-(decV ds 0 : Int)) else none)
  else (if decV ds 0 ≤ 9223372036854775807 then some (decV ds 0 : Int) else none)
def signs : Bs := [43, 45, 42, 37, 124, 61, 126, 60, 62, 47, 92, 46, 58, 40, 41]
def signP : Bs → Nat
  | [] => 0
  | b :: r => if (b == 60 || b == 62) && r.head? == some 61 then 2 else if signs.contains b then 1 else 0
/-- kind, word, number, length -/
abbrev TokR := Int × Bs × Int × Nat
def numTok (b : UInt8) (r : Bs) : Except Int (Option TokR) :=
  let ds := if b == 95 then r else b :: r
  let k := runB digitB ds
  if k = 0 then .ok none else match numP (b == 95) (ds.take k) with
    | none => .error 32
    | some v => .ok (some (2, [], v, k + if b == 95 then 1 else 0))
def tokenP : Bs → Except Int TokR
  | [] => .error 31
  | b :: r =>
    if b == 10 then .ok (4, [], 0, 1)
    else if letterB b then (if 16 < runB wordB (b :: r) then .error 33 else .ok (1, (b :: r).take (runB wordB (b :: r)), 0, runB wordB (b :: r)))
    else match numTok b r with
      | .error e => .error e
      | .ok (some t) => .ok t
      | .ok none => if signP (b :: r) = 0 then .error 31 else .ok (3, (b :: r).take (signP (b :: r)), 0, signP (b :: r))
def blankB (b : UInt8) : Bool := b == 32 || b == 9
def lexGo : Nat → Nat → Bs → List Tok → List Tok × Flt
  | 0, _, _, out => (out, (0, 0))
  | _ + 1, _, [], out => (out, (0, 0))
  | f + 1, i, b :: r, out =>
    if blankB b then lexGo f (i + 1) r out
    else if b == 35 then lexGo f (i + runB (· != 10) (b :: r)) ((b :: r).drop (runB (· != 10) (b :: r))) out
    else match tokenP (b :: r) with
      | .error e => ([], (i, e))
      | .ok (k, wd, v, m) => lexGo f (i + m) ((b :: r).drop m) (out ++ [⟨k, i, wd, v⟩])
def lexP (s : Bs) : List Tok × Flt := if 65536 < s.length then ([], (0, 30)) else lexGo s.length 0 s []

theorem numTok_len {b : UInt8} {r : Bs} {t : TokR} (h : numTok b r = .ok (some t)) : 1 ≤ t.2.2.2 ∧ t.2.2.2 ≤ r.length + 1 := by
  unfold numTok at h
  by_cases hb : (b == 95) = true
  · simp only [hb, if_true] at h
    have hl := runB_le digitB r
    split at h
    · cases h
    · split at h
      · cases h
      · simp only [Except.ok.injEq, Option.some.injEq] at h
        subst h
        simp; omega
  · simp only [hb, Bool.false_eq_true, if_false] at h
    have hl := runB_le digitB (b :: r)
    simp only [List.length_cons] at hl
    split at h
    · cases h
    · split at h
      · cases h
      · simp only [Except.ok.injEq, Option.some.injEq] at h
        subst h
        simp only
        omega
theorem signP_le : ∀ s : Bs, signP s ≤ s.length
  | [] => Nat.le_refl _
  | [b] => by
    have e : (none == some (61 : UInt8)) = false := rfl
    simp only [signP, List.head?_nil, e, Bool.and_false, Bool.false_eq_true, if_false]
    split <;> simp
  | b :: c :: r => by
    simp only [signP]
    split
    · simp
    · split
      · simp only [List.length_cons]; omega
      · omega
theorem tokenP_len {s : Bs} {t : TokR} (h : tokenP s = .ok t) : 1 ≤ t.2.2.2 ∧ t.2.2.2 ≤ s.length := by
  cases s with
  | nil => cases h
  | cons b r =>
    simp only [tokenP] at h
    split at h
    · cases h
      simp
    · split at h
      · rename_i hlt
        split at h
        · cases h
        · cases h
          have := runB_le wordB (b :: r)
          refine ⟨?_, this⟩
          simp only [runB, wordB, hlt, Bool.true_or, if_true]
          omega
      · split at h
        · cases h
        · rename_i t' ht
          cases h
          exact numTok_len ht
        · split at h
          · cases h
          · cases h
            have := signP_le (b :: r)
            simp only
            omega
theorem runB_pos {p : UInt8 → Bool} {b : UInt8} {r : Bs} (h : p b = true) : 1 ≤ runB p (b :: r) := by
  simp only [runB, h, if_true]
  omega
theorem note_pos {b : UInt8} (h : (b == 35) = true) : (b != 10) = true := by
  have : b = 35 := by simpa using h
  subst this
  decide
/-- more fuel than bytes changes nothing -/
theorem lexGo_fuel : ∀ (f g i : Nat) (s : Bs) (out : List Tok), s.length ≤ f → s.length ≤ g → lexGo f i s out = lexGo g i s out
  | 0, 0, _, _, _, _, _ => rfl
  | 0, g + 1, _, [], _, _, _ => rfl
  | f + 1, 0, _, [], _, _, _ => rfl
  | 0, _, _, b :: r, _, h, _ => by simp at h
  | _, 0, _, b :: r, _, _, h => by simp at h
  | f + 1, g + 1, _, [], _, _, _ => rfl
  | f + 1, g + 1, i, b :: r, out, h, k => by
    simp only [List.length_cons] at h k
    unfold lexGo
    split
    · exact lexGo_fuel f g _ _ _ (by omega) (by omega)
    · split
      · rename_i h35
        have : 1 ≤ runB (· != 10) (b :: r) := runB_pos (note_pos h35)
        exact lexGo_fuel f g _ _ _ (by simp; omega) (by simp; omega)
      · split
        · rfl
        · rename_i ht
          have := (tokenP_len ht).1
          exact lexGo_fuel f g _ _ _ (by simp at this ⊢; omega) (by simp at this ⊢; omega)
/-- one turn of the loop -/
theorem lexGo_step {i : Nat} {b : UInt8} {r : Bs} {out : List Tok} : lexGo (b :: r).length i (b :: r) out =
    if blankB b then lexGo r.length (i + 1) r out
    else if b == 35 then lexGo ((b :: r).drop (runB (· != 10) (b :: r))).length (i + runB (· != 10) (b :: r)) ((b :: r).drop (runB (· != 10) (b :: r))) out
    else match tokenP (b :: r) with
      | .error e => ([], (i, e))
      | .ok (k, wd, v, m) => lexGo ((b :: r).drop m).length (i + m) ((b :: r).drop m) (out ++ [⟨k, i, wd, v⟩]) := by
  rw [List.length_cons, lexGo]
  split
  · rfl
  · split
    · rename_i h35
      have : 1 ≤ runB (· != 10) (b :: r) := runB_pos (note_pos h35)
      exact lexGo_fuel _ _ _ _ _ (by simp; omega) (by simp)
    · split
      · rfl
      · rename_i ht
        have := (tokenP_len ht).1
        exact lexGo_fuel _ _ _ _ _ (by simp at this ⊢; omega) (by simp)
end Go.Proofs.YtngkedmndhmjcaaGreatDoor
