/- Plain facts on monomials (no program): the order of exponents as one number; the sorted list of what is left. -/
import Derived.Test.YtndjaogjkchpaaaMono
namespace Go.Proofs.Ytndjaogjkchpaaa

/-- bytes as one number -/
def num : List UInt8 → Nat
  | [] => 0
  | a :: l => a.toNat * 256 ^ l.length + num l

theorem num_lt : ∀ l : List UInt8, num l < 256 ^ l.length
  | [] => by simp [num]
  | a :: l => by
    have ih := num_lt l
    have ha := a.toNat_lt
    have h : (a.toNat + 1) * 256 ^ l.length ≤ 256 * 256 ^ l.length := Nat.mul_le_mul_right _ (by omega)
    rw [Nat.add_mul, Nat.one_mul] at h
    rw [num, List.length_cons, Nat.pow_succ, Nat.mul_comm (256 ^ l.length) 256]
    omega

theorem cmp_num : ∀ l m : List UInt8, l.length = m.length → Lib.compareBytes l m = if num m < num l then 1 else if num l < num m then -1 else 0
  | [], [], _ => by simp [num, Lib.compareBytes]
  | [], _ :: _, h => by simp at h
  | _ :: _, [], h => by simp at h
  | a :: l, b :: m, h => by
    have hl : l.length = m.length := by simpa using h
    have ih := cmp_num l m hl
    have nl := num_lt l
    have nm := num_lt m
    rw [cmp_cons, num, num, ← hl]
    rw [← hl] at nm
    generalize 256 ^ l.length = p at *
    by_cases h1 : b.toNat < a.toNat
    · have : (b.toNat + 1) * p ≤ a.toNat * p := Nat.mul_le_mul_right _ h1
      rw [Nat.add_mul, Nat.one_mul] at this
      rw [if_pos h1, if_pos (by omega)]
    · rw [if_neg h1]
      by_cases h2 : a.toNat < b.toNat
      · have : (a.toNat + 1) * p ≤ b.toNat * p := Nat.mul_le_mul_right _ h2
        rw [Nat.add_mul, Nat.one_mul] at this
        rw [if_pos h2, if_neg (by omega), if_pos (by omega)]
      · have e : a.toNat = b.toNat := by omega
        rw [if_neg h2, ih, e]
        simp only [Nat.add_lt_add_iff_left]

/-- the exponents as one number -/
def Mono.key (m : Mono) : Nat := num m.E

theorem ord_key (a b : Mono) : ord a b = if a.key < b.key then 1 else if b.key < a.key then -1 else 0 := cmp_num b.E a.E rfl
theorem above_key (a b : Mono) : above a b = if b.key < a.key then 1 else if a.key < b.key then -1 else 0 := cmp_num a.E b.E rfl
theorem ord_lt (a b : Mono) : ord a b < 0 ↔ b.key < a.key := by
  rw [ord_key]; split
  · constructor <;> intro h <;> omega
  · split <;> simp_all

theorem num_inj : ∀ l m : List UInt8, l.length = m.length → num l = num m → l = m
  | [], [], _, _ => rfl
  | [], _ :: _, h, _ => by simp at h
  | _ :: _, [], h, _ => by simp at h
  | a :: l, b :: m, h, hn => by
    have hl : l.length = m.length := by simpa using h
    have nl := num_lt l
    have nm := num_lt m
    rw [num, num, ← hl] at hn
    rw [← hl] at nm
    have e : a.toNat = b.toNat := by
      rcases Nat.lt_trichotomy a.toNat b.toNat with h1 | h1 | h1
      · have : (a.toNat + 1) * 256 ^ l.length ≤ b.toNat * 256 ^ l.length := Nat.mul_le_mul_right _ h1
        rw [Nat.add_mul, Nat.one_mul] at this
        omega
      · exact h1
      · have : (b.toNat + 1) * 256 ^ l.length ≤ a.toNat * 256 ^ l.length := Nat.mul_le_mul_right _ h1
        rw [Nat.add_mul, Nat.one_mul] at this
        omega
    rw [e] at hn
    rw [UInt8.toNat_inj.1 e, num_inj l m hl (by omega)]

theorem key_E {a b : Mono} : a.key = b.key ↔ a.E = b.E := ⟨fun h => num_inj _ _ rfl h, fun h => by unfold Mono.key; rw [h]⟩

theorem eq_of_key {a b : Mono} (h : a.key = b.key) (hn : a.n = b.n) : a = b := by
  have := key_E.1 h
  obtain ⟨n, a0, a1, a2, a3, a4, a5⟩ := a
  obtain ⟨n', b0, b1, b2, b3, b4, b5⟩ := b
  simp only [Mono.E, List.cons.injEq, and_true] at this
  obtain ⟨rfl, rfl, rfl, rfl, rfl, rfl⟩ := this
  simp at hn
  rw [hn]

/-- falling by their exponents, no exponents twice -/
def Falls (l : List Mono) : Prop := l.Pairwise (fun a b => b.key < a.key)
/-- no exponents twice -/
def Apart (l : List Mono) : Prop := l.Pairwise (fun a b => a.key ≠ b.key)

theorem Falls.apart {l : List Mono} (h : Falls l) : Apart l := List.Pairwise.imp (fun h => by omega) h

/-- two falling lists of the same are one -/
theorem Falls.ext : ∀ {l m : List Mono}, Falls l → Falls m → (∀ x, x ∈ l ↔ x ∈ m) → l = m
  | [], [], _, _, _ => rfl
  | [], b :: m, _, _, h => absurd ((h b).2 (by simp)) (by simp)
  | a :: l, [], _, _, h => absurd ((h a).1 (by simp)) (by simp)
  | a :: l, b :: m, h1, h2, h => by
    obtain ⟨ha, hl⟩ := List.pairwise_cons.1 h1
    obtain ⟨hb, hm⟩ := List.pairwise_cons.1 h2
    have e : a = b := by
      have i1 : a ∈ b :: m := (h a).1 (by simp)
      have i2 : b ∈ a :: l := (h b).2 (by simp)
      rcases List.mem_cons.1 i1 with e | i1
      · exact e
      · rcases List.mem_cons.1 i2 with e | i2
        · exact e.symm
        · have := hb a i1
          have := ha b i2
          omega
    subst e
    rw [Falls.ext hl hm fun x => ?_]
    constructor
    · intro hx
      have := (h x).1 (by simp [hx])
      rcases List.mem_cons.1 this with rfl | h'
      · have := ha x hx; omega
      · exact h'
    · intro hx
      have := (h x).2 (by simp [hx])
      rcases List.mem_cons.1 this with rfl | h'
      · have := hb x hx; omega
      · exact h'

/-- what is left of a list, without those of the factor 0, in order -/
def canon (L : List Mono) : List Mono := (L.filter (fun m => m.n != 0)).mergeSort (fun a b => decide (b.key ≤ a.key))

theorem mem_canon {L : List Mono} {x : Mono} : x ∈ canon L ↔ x ∈ L ∧ x.n ≠ 0 := by
  unfold canon
  rw [(List.mergeSort_perm _ _).mem_iff]
  simp

theorem falls_of {l : List Mono} (h1 : l.Pairwise (fun a b => b.key ≤ a.key)) (h2 : Apart l) : Falls l :=
  List.Pairwise.imp (fun ⟨a, b⟩ => by omega) (List.Pairwise.and h1 h2)

theorem Apart.perm {l m : List Mono} (h : Apart l) (hp : l.Perm m) : Apart m := hp.pairwise h (fun h => Ne.symm h)
theorem Apart.filter {l : List Mono} (p : Mono → Bool) (h : Apart l) : Apart (l.filter p) := List.Pairwise.filter _ h

theorem falls_canon {L : List Mono} (h : Apart L) : Falls (canon L) := by
  refine falls_of ?_ ((h.filter _).perm (List.mergeSort_perm _ _).symm)
  have := List.pairwise_mergeSort (le := fun a b : Mono => decide (b.key ≤ a.key)) (by simp; omega) (by simp; omega) (L.filter (fun m => m.n != 0))
  exact List.Pairwise.imp (fun h => by simpa using h) this

/-- what is sorted is 'canon' -/
theorem canon_of {L S : List Mono} (h : Apart L) (hp : S.Perm (L.filter (fun m => m.n != 0))) (hs : S.Pairwise (fun a b => b.key ≤ a.key)) : S = canon L :=
  Falls.ext (falls_of hs ((h.filter _).perm hp.symm)) (falls_canon h) fun x => by rw [hp.mem_iff, mem_canon]; simp

end Go.Proofs.Ytndjaogjkchpaaa
