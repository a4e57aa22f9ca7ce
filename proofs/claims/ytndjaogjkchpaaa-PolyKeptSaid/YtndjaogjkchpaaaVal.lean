/- Plain law of values (no program): a value is the linear form of the powers; that of a product is the product. -/
import Derived.Test.YtndjaogjkchpaaaAlg
import Derived.Test.YtndjaogjkchpaaaEval
namespace Go.Proofs.Ytndjaogjkchpaaa
open Go.RowKit Go.Sort

def prodD : List (UInt8 × Int) → Int
  | [] => 1
  | x :: l => x.2 ^ x.1.toNat * prodD l
/-- the powers' product -/
def val (D : Nat → Int) (m : Mono) : Int := prodD (pairs m D)

theorem ext_val (D : Nat → Int) : Ext (val D) := fun a b h => by
  have := key_E.1 h
  simp only [Mono.E, List.cons.injEq, and_true] at this
  obtain ⟨h0, h1, h2, h3, h4, h5⟩ := this
  simp only [val, pairs, h0, h1, h2, h3, h4, h5]

theorem powD_some {d : Int} : ∀ {e : Nat} {n r : Int}, powD d e n = some r → r = n * d ^ e
  | 0, n, r, h => by simp only [powD, Option.some.injEq] at h; simp [h]
  | e + 1, n, r, h => by
    unfold powD at h
    split at h
    · simp at h
    · rw [powD_some h, Int.pow_succ, Int.mul_assoc, Int.mul_comm d]
theorem mulD_some : ∀ {l : List (UInt8 × Int)} {n r : Int}, mulD l n = some r → r = n * prodD l
  | [], n, r, h => by simp only [mulD, Option.some.injEq] at h; simp [h, prodD]
  | x :: l, n, r, h => by
    simp only [mulD, Option.bind_eq_some_iff] at h
    obtain ⟨k, h1, h2⟩ := h
    rw [mulD_some h2, powD_some h1, prodD, Int.mul_assoc]

theorem prodD_zero : ∀ {l : List (UInt8 × Int)}, zeroB l = true → prodD l = 0
  | [], h => by simp [zeroB] at h
  | x :: l, h => by
    simp only [zeroB, List.any_cons, Bool.or_eq_true, Bool.and_eq_true, decide_eq_true_eq, beq_iff_eq] at h
    rcases h with ⟨h1, h2⟩ | h
    · rw [prodD, h2, Int.zero_pow (by omega), Int.zero_mul]
    · rw [prodD, prodD_zero (l := l) (by simpa [zeroB] using h), Int.mul_zero]

theorem value_val {m : Mono} {D : Nat → Int} (h : (valueP m D).2 = true) : (valueP m D).1 = max m.n (-m.n) * val D m := by
  unfold valueP at *
  split
  · rename_i hz
    rw [val, prodD_zero hz]
    simp
  · split
    · rename_i n hn
      exact mulD_some hn
    · rename_i hz _ hn
      rw [if_neg hz, hn] at h
      simp at h

theorem evalL_some {D : Nat → Int} (hD : ∀ k, 0 ≤ D k) : ∀ {l : List Mono} {size sum r : Int}, -size ≤ sum → sum ≤ size → size ≤ maxV → evalL D l size sum = some r → r = sum + lin (val D) l ∧ -maxV ≤ r ∧ r ≤ maxV
  | [], size, sum, r, h1, h2, h3, h => by
    simp only [evalL, Option.some.injEq] at h
    subst h
    exact ⟨by simp [lin, sumOf], by omega, by omega⟩
  | m :: l, size, sum, r, h1, h2, h3, h => by
    unfold evalL at h
    split at h
    · simp at h
    · rename_i hc
      rw [not_or] at hc
      have hv := value_val (m := m) (D := D) (by simpa using hc.1)
      have h0 := value_nonneg m D hD
      have hs : (if m.n < 0 then sum - (valueP m D).1 else sum + (valueP m D).1) = sum + m.n * val D m := by
        rw [hv]
        split
        · rw [show max m.n (-m.n) = -m.n by omega, Int.neg_mul]
          omega
        · rw [show max m.n (-m.n) = m.n by omega]
      have hs1 : -(size + (valueP m D).1) ≤ sum + m.n * val D m ∧ sum + m.n * val D m ≤ size + (valueP m D).1 := by
        rw [← hs]
        split <;> omega
      rw [hs] at h
      obtain ⟨e1, e2, e3⟩ := evalL_some hD hs1.1 hs1.2 (by omega) h
      exact ⟨by rw [e1, lin_cons]; omega, e2, e3⟩

/-- a value is the linear form of the powers -/
theorem eval_ok {p : List Mono} {ds : List Int} {v : Int} (h : evalP p ds = (v, 0)) : rightB p = true ∧ v = lin (val (dimAt ds)) p ∧ -maxV ≤ v ∧ v ≤ maxV := by
  unfold evalP at h
  split at h
  · rename_i h1
    split at h
    · rename_i h2
      simp only [dimsB, Bool.and_eq_true] at h2
      have hD : ∀ k, 0 ≤ dimAt ds k := fun k => (dimAt_ok h2.2 k).1
      split at h
      · rename_i n hn
        injection h with h _
        subst h
        obtain ⟨e1, e2, e3⟩ := evalL_some hD (by omega) (by omega) (by decide) hn
        exact ⟨h1, by rw [e1]; omega, e2, e3⟩
      · simp at h
    · simp at h
  · simp at h
theorem eval_len (p : List Mono) (ds : List Int) : (evalP p ds).2 = 0 ∨ (evalP p ds).1 = 0 ∧ ((evalP p ds).2 = 20 ∨ (evalP p ds).2 = 22 ∨ (evalP p ds).2 = 23) := by
  unfold evalP
  split
  · split
    · split
      · exact .inl rfl
      · exact .inr ⟨rfl, .inr (.inl rfl)⟩
    · exact .inr ⟨rfl, .inr (.inr rfl)⟩
  · exact .inr ⟨rfl, .inl rfl⟩

theorem value_both {p q s : List Mono} {ds : List Int} {a b x k : Int} (hk : k = 1 ∨ k = -1) (ha : evalP p ds = (a, 0)) (hb : evalP q ds = (b, 0)) (hs : bothP p q k = (s, 0)) (hx : evalP s ds = (x, 0)) : x = a + k * b := by
  obtain ⟨_, a1, a2, a3⟩ := eval_ok ha
  obtain ⟨_, b1, b2, b3⟩ := eval_ok hb
  obtain ⟨_, x1, x2, x3⟩ := eval_ok hx
  obtain ⟨_, _, s1, _⟩ := both_ok hs
  have := lin_bothL (ext_val (dimAt ds)) p q k
  rw [← lin_canon, ← s1, ← x1, ← a1, ← b1] at this
  unfold Like maxV at *
  rcases hk with rfl | rfl <;> omega

/-! ### products exactly -/
def Bnd (N : Int) (L : List Mono) : Prop := ∀ m ∈ L, -N ≤ m.n ∧ m.n ≤ N
theorem coef_bnd {N : Int} (hN : 0 ≤ N) (k : Mono) : ∀ {L : List Mono}, Bnd N L → -N ≤ coef k L ∧ coef k L ≤ N
  | [], _ => by simp only [coef]; omega
  | m :: L, h => by
    unfold coef
    split
    · exact h m (by simp)
    · exact coef_bnd hN k fun x hx => h x (by simp [hx])
theorem addTo_exact {F : Mono → Int} (hF : Ext F) {N V : Int} (hN : 0 ≤ N) (hV : 0 ≤ V) (hNV : N + V < 9223372036854775808) (m : Mono) {v : Int} (hv : -V ≤ v ∧ v ≤ V) {L : List Mono} (h : Bnd N L) :
    lin F (addTo m v L) = lin F L + v * F m ∧ Bnd (N + V) (addTo m v L) := by
  have hc := coef_bnd hN m h
  have hw : wrap64 (coef m L + v) = coef m L + v := by unfold wrap64; omega
  unfold addTo
  rw [hw]
  constructor
  · rw [lin_setTo hF, show coef m L + v - coef m L = v by omega]
  · intro y hy
    rcases mem_setTo hy with rfl | hy
    · show _ ≤ coef m L + v ∧ coef m L + v ≤ _
      omega
    · have := h y hy
      omega

theorem prod_bnd {x y : Int} (hx : -16777216 ≤ x ∧ x ≤ 16777216) (hy : -16777216 ≤ y ∧ y ≤ 16777216) : -281474976710656 ≤ x * y ∧ x * y ≤ 281474976710656 := by
  have h : (x * y).natAbs ≤ 16777216 * 16777216 := by
    rw [Int.natAbs_mul]
    exact Nat.mul_le_mul (by omega) (by omega)
  omega
theorem small_n {m : Mono} (h : smallB m = true) : -16777216 ≤ m.n ∧ m.n ≤ 16777216 := by
  simp only [smallB, decide_eq_true_eq] at h
  omega

theorem mulRow_exact {F : Mono → Int} (hF : Ext F) (a : Mono) (ha : smallB a = true) : ∀ {q L : List Mono} {N : Int}, 0 ≤ N → N + 281474976710656 * q.length < 9223372036854775808 → (∀ b ∈ q, smallB b = true) → Bnd N L →
    lin F (mulRow a L q) = lin F L + sumOf (fun b => a.n * b.n * F (mulM a b)) q ∧ Bnd (N + 281474976710656 * q.length) (mulRow a L q)
  | [], L, N, _, _, _, h => by
    refine ⟨by simp [mulRow, sumOf], ?_⟩
    simpa [mulRow] using h
  | b :: q, L, N, hN, hl, hq, h => by
    rw [List.length_cons] at hl ⊢
    have hp := prod_bnd (small_n ha) (small_n (hq b (by simp)))
    have hw : wrap64 (a.n * b.n) = a.n * b.n := by unfold wrap64; omega
    obtain ⟨e1, e2⟩ := addTo_exact hF (V := 281474976710656) hN (by omega) (by omega) (mulM a b) hp h
    obtain ⟨f1, f2⟩ := mulRow_exact hF a ha (q := q) (by omega) (by omega) (fun x hx => hq x (by simp [hx])) e2
    rw [mulRow, hw]
    refine ⟨?_, ?_⟩
    · rw [f1, e1]
      simp only [sumOf]
      omega
    · rw [show N + 281474976710656 * ((q.length + 1 : Nat) : Int) = N + 281474976710656 + 281474976710656 * q.length by omega]
      exact f2

theorem mulAll_exact {F : Mono → Int} (hF : Ext F) {q : List Mono} (hq : ∀ b ∈ q, smallB b = true) (hl : q.length ≤ 48) : ∀ {p L : List Mono} {N : Int}, 0 ≤ N → N + 13510798882111488 * p.length < 9223372036854775808 → (∀ b ∈ p, smallB b = true) → Bnd N L →
    lin F (mulAll q L p) = lin F L + sumOf (fun a => sumOf (fun b => a.n * b.n * F (mulM a b)) q) p
  | [], L, N, _, _, _, h => by simp [mulAll, sumOf]
  | a :: p, L, N, hN, hp, hs, h => by
    rw [List.length_cons] at hp
    obtain ⟨e1, e2⟩ := mulRow_exact hF a (hs a (by simp)) (q := q) hN (by omega) hq h
    have e3 : Bnd (N + 13510798882111488) (mulRow a L q) := fun x hx => by have := e2 x hx; omega
    have f1 := mulAll_exact hF hq hl (p := p) (by omega) (by omega) (fun x hx => hs x (by simp [hx])) e3
    rw [mulAll, f1, e1]
    simp only [sumOf]
    omega

theorem prodD_pow (x y : UInt8) (d : Int) (h : x.toNat + y.toNat < 256) : d ^ (x + y).toNat = d ^ x.toNat * d ^ y.toNat := by
  rw [UInt8.toNat_add, Nat.mod_eq_of_lt h, Int.pow_add]
theorem small_deg {m : Mono} (h : smallB m = true) : m.e0.toNat ≤ 8 ∧ m.e1.toNat ≤ 8 ∧ m.e2.toNat ≤ 8 ∧ m.e3.toNat ≤ 8 ∧ m.e4.toNat ≤ 8 ∧ m.e5.toNat ≤ 8 := by
  simp only [smallB, decide_eq_true_eq] at h
  have h := h.2.2.2
  unfold Mono.deg at h
  omega
theorem val_mul (D : Nat → Int) {a b : Mono} (ha : smallB a = true) (hb : smallB b = true) : val D (mulM a b) = val D a * val D b := by
  obtain ⟨a0, a1, a2, a3, a4, a5⟩ := small_deg ha
  obtain ⟨b0, b1, b2, b3, b4, b5⟩ := small_deg hb
  simp only [val, pairs, mulM, prodD]
  rw [prodD_pow _ _ _ (by omega), prodD_pow _ _ _ (by omega), prodD_pow _ _ _ (by omega), prodD_pow _ _ _ (by omega), prodD_pow _ _ _ (by omega), prodD_pow _ _ _ (by omega)]
  simp only [Int.mul_one]
  ac_rfl

theorem value_mul {p q s : List Mono} {ds : List Int} {a b x : Int} (ha : evalP p ds = (a, 0)) (hb : evalP q ds = (b, 0)) (hs : mulP p q = (s, 0)) (hx : evalP s ds = (x, 0)) : x = a * b := by
  obtain ⟨_, a1, a2, a3⟩ := eval_ok ha
  obtain ⟨_, b1, b2, b3⟩ := eval_ok hb
  obtain ⟨_, x1, x2, x3⟩ := eval_ok hx
  obtain ⟨hp, hq, s1, _⟩ := mul_ok hs
  obtain ⟨_, p2, p3⟩ := right_all hp
  obtain ⟨_, q2, q3⟩ := right_all hq
  rw [x1, s1, lin_canon, mulAll_exact (ext_val (dimAt ds)) q2 q3 (N := 0) (by omega) (by omega) p2 (fun _ h => by simp at h), a1, b1]
  simp only [lin, sumOf, Int.zero_add]
  rw [← sumOf_mul]
  refine sumOf_congr fun m hm => ?_
  rw [Int.mul_comm, ← sumOf_mul]
  refine sumOf_congr fun n hn => ?_
  rw [val_mul _ (p2 m hm) (q2 n hn)]
  ac_rfl

theorem eval_dims {p : List Mono} {ds : List Int} {v : Int} (h : evalP p ds = (v, 0)) : dimsB ds = true := by
  unfold evalP at h
  split at h
  · split at h
    · assumption
    · simp at h
  · simp at h
theorem eval_code {s : List Mono} {ds : List Int} (hs : rightB s = true) (hd : dimsB ds = true) : ∃ x eh, evalP s ds = (x, eh) ∧ (eh = 0 ∨ eh = 22 ∧ x = 0) := by
  unfold evalP
  rw [hs, hd]
  simp only [if_true]
  split
  · exact ⟨_, _, rfl, .inl rfl⟩
  · exact ⟨_, _, rfl, .inr ⟨rfl, rfl⟩⟩
theorem eval_nil {ds : List Int} (hd : dimsB ds = true) : evalP [] ds = (0, 0) := by
  unfold evalP
  rw [hd]
  rfl

theorem phase_both {p q : List Mono} {ds : List Int} {a b k : Int} (hk : k = 1 ∨ k = -1) (ha : evalP p ds = (a, 0)) (hb : evalP q ds = (b, 0)) :
    ∃ s x eg eh, bothP p q k = (s, eg) ∧ evalP s ds = (x, eh) ∧ s.length ≤ 140737488355328 ∧ (eg = 21 ∧ eh = 0 ∨ eg = 0 ∧ eh = 22 ∨ eg = 0 ∧ eh = 0 ∧ x = a + k * b) := by
  obtain ⟨h1, _, _, _⟩ := eval_ok ha
  obtain ⟨h2, _, _, _⟩ := eval_ok hb
  have hd := eval_dims ha
  by_cases h : rightB (canon (bothL p q k)) = true
  · have hs := both_of (s := k) h1 h2 rfl h
    obtain ⟨x, eh, hx, hh⟩ := eval_code h hd
    refine ⟨_, x, 0, eh, hs, hx, by have := (right_all h).2.2; omega, ?_⟩
    rcases hh with rfl | ⟨rfl, rfl⟩
    · exact .inr (.inr ⟨rfl, rfl, value_both hk ha hb hs hx⟩)
    · exact .inr (.inl ⟨rfl, rfl⟩)
  · refine ⟨[], 0, 21, 0, ?_, eval_nil hd, by simp, .inl ⟨rfl, rfl⟩⟩
    rw [bothP_L, h1, h2]
    unfold listedP
    rw [if_neg h]
    rfl
theorem phase_mul {p q : List Mono} {ds : List Int} {a b : Int} (ha : evalP p ds = (a, 0)) (hb : evalP q ds = (b, 0)) :
    ∃ s x eg eh, mulP p q = (s, eg) ∧ evalP s ds = (x, eh) ∧ s.length ≤ 140737488355328 ∧ (eg = 21 ∧ eh = 0 ∨ eg = 0 ∧ eh = 22 ∨ eg = 0 ∧ eh = 0 ∧ x = a * b ∧ -maxV ≤ x ∧ x ≤ maxV) := by
  obtain ⟨h1, _, _, _⟩ := eval_ok ha
  obtain ⟨h2, _, _, _⟩ := eval_ok hb
  have hd := eval_dims ha
  by_cases h : rightB (canon (mulAll q [] p)) = true
  · have hs : mulP p q = (canon (mulAll q [] p), 0) := by
      unfold mulP listedP
      rw [h1, h2, h]
      rfl
    obtain ⟨x, eh, hx, hh⟩ := eval_code h hd
    refine ⟨_, x, 0, eh, hs, hx, by have := (right_all h).2.2; omega, ?_⟩
    rcases hh with rfl | ⟨rfl, rfl⟩
    · exact .inr (.inr ⟨rfl, rfl, value_mul ha hb hs hx, (eval_ok hx).2.2⟩)
    · exact .inr (.inl ⟨rfl, rfl⟩)
  · refine ⟨[], 0, 21, 0, ?_, eval_nil hd, by simp, .inl ⟨rfl, rfl⟩⟩
    unfold mulP listedP
    rw [h1, h2, if_neg h]
    rfl

end Go.Proofs.Ytndjaogjkchpaaa
