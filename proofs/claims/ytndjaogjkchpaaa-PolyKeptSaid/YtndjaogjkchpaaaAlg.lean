/- Plain law of sums and products of polynomials (no program): a list of monomials as a linear form, up to 2^64. -/
import Derived.Test.YtndjaogjkchpaaaMul
namespace Go.Proofs.Ytndjaogjkchpaaa
open Go.RowKit Go.Sort

/-- alike up to 2^64 -/
def Like (a b : Int) : Prop := (18446744073709551616 : Int) ∣ a - b
theorem Like.refl (a : Int) : Like a a := by unfold Like; omega
theorem Like.of_eq {a b : Int} (h : a = b) : Like a b := by unfold Like; omega
theorem Like.symm {a b : Int} (h : Like a b) : Like b a := by unfold Like at *; omega
theorem Like.trans {a b c : Int} (h : Like a b) (h2 : Like b c) : Like a c := by unfold Like at *; omega
theorem Like.add {a b c d : Int} (h : Like a b) (h2 : Like c d) : Like (a + c) (b + d) := by unfold Like at *; omega
theorem Like.sub {a b c d : Int} (h : Like a b) (h2 : Like c d) : Like (a - c) (b - d) := by unfold Like at *; omega
theorem Like.mul {a b : Int} (h : Like a b) (c : Int) : Like (a * c) (b * c) := by
  unfold Like at *
  rw [← Int.sub_mul]
  exact Int.dvd_trans h (Int.dvd_mul_right _ _)
theorem like_wrap (a : Int) : Like (wrap64 a) a := by unfold Like wrap64; omega
theorem wrap_range (a : Int) : -9223372036854775808 ≤ wrap64 a ∧ wrap64 a < 9223372036854775808 := by unfold wrap64; omega
theorem Like.eq {a b : Int} (h : Like a b) (h1 : -9223372036854775808 ≤ a ∧ a < 9223372036854775808) (h2 : -9223372036854775808 ≤ b ∧ b < 9223372036854775808) : a = b := by
  unfold Like at h; omega

/-- hangs on the exponents alone -/
def Ext (F : Mono → Int) : Prop := ∀ a b : Mono, a.key = b.key → F a = F b

def sumOf (f : Mono → Int) : List Mono → Int
  | [] => 0
  | m :: l => f m + sumOf f l
def lin (F : Mono → Int) (L : List Mono) : Int := sumOf (fun m => m.n * F m) L

theorem sumOf_perm (f : Mono → Int) {l m : List Mono} (h : l.Perm m) : sumOf f l = sumOf f m := by
  induction h with
  | nil => rfl
  | cons x _ ih => simp only [sumOf, ih]
  | swap x y l => simp only [sumOf]; omega
  | trans _ _ ih1 ih2 => rw [ih1, ih2]

theorem sumOf_add (f g : Mono → Int) : ∀ l, sumOf (fun m => f m + g m) l = sumOf f l + sumOf g l
  | [] => rfl
  | m :: l => by simp only [sumOf, sumOf_add f g l]; omega
theorem sumOf_zero : ∀ l, sumOf (fun _ => 0) l = 0
  | [] => rfl
  | m :: l => by simp only [sumOf, sumOf_zero l]; omega
theorem sumOf_mul (f : Mono → Int) (c : Int) : ∀ l, sumOf (fun m => f m * c) l = sumOf f l * c
  | [] => by simp [sumOf]
  | m :: l => by simp only [sumOf, sumOf_mul f c l, Int.add_mul]
theorem sumOf_comm (f : Mono → Mono → Int) (q : List Mono) : ∀ p, sumOf (fun a => sumOf (fun b => f a b) q) p = sumOf (fun b => sumOf (fun a => f a b) p) q
  | [] => by simp only [sumOf, sumOf_zero]
  | a :: p => by simp only [sumOf, sumOf_comm f q p, sumOf_add]
theorem sumOf_congr {f g : Mono → Int} : ∀ {l : List Mono}, (∀ m ∈ l, f m = g m) → sumOf f l = sumOf g l
  | [], _ => rfl
  | m :: l, h => by simp only [sumOf]; rw [h m (by simp), sumOf_congr fun x hx => h x (by simp [hx])]
theorem sumOf_like {f g : Mono → Int} : ∀ {l : List Mono}, (∀ m ∈ l, Like (f m) (g m)) → Like (sumOf f l) (sumOf g l)
  | [], _ => Like.refl _
  | m :: l, h => (h m (by simp)).add (sumOf_like fun x hx => h x (by simp [hx]))

theorem lin_canon (F : Mono → Int) (L : List Mono) : lin F (canon L) = lin F L := by
  unfold lin canon
  rw [sumOf_perm _ (List.mergeSort_perm _ _)]
  induction L with
  | nil => rfl
  | cons m l ih =>
    by_cases h : m.n = 0
    · rw [List.filter_cons_of_neg (by simp [h]), ih]
      simp [sumOf, h]
    · rw [List.filter_cons_of_pos (by simp [h])]
      simp only [sumOf, ih]

theorem lin_setTo {F : Mono → Int} (hF : Ext F) (k : Mono) (x : Int) : ∀ L, lin F (setTo k x L) = lin F L + (x - coef k L) * F k
  | [] => by
    have : F { k with n := x } = F k := hF _ _ rfl
    simp only [lin, setTo, coef, sumOf, this]
    simp
  | m :: L => by
    have hk : F { k with n := x } = F k := hF _ _ rfl
    have ih := lin_setTo hF k x L
    unfold lin at ih
    unfold setTo coef lin
    by_cases h : k.sameE m = true
    · have h2 : F m = F k := hF _ _ (sameE_E.1 h).symm
      simp only [if_pos h, sumOf, hk, h2, Int.sub_mul]
      omega
    · simp only [if_neg h, sumOf, ih]
      omega

theorem lin_addTo {F : Mono → Int} (hF : Ext F) (m : Mono) (v : Int) (L : List Mono) : Like (lin F (addTo m v L)) (lin F L + v * F m) := by
  unfold addTo
  rw [lin_setTo hF]
  refine (Like.refl _).add (Like.mul ?_ _)
  have := like_wrap (coef m L + v)
  unfold Like at *
  omega

theorem lin_addAll {F : Mono → Int} (hF : Ext F) (g : Mono → Int) : ∀ (p L : List Mono), Like (lin F (addAll g L p)) (lin F L + sumOf (fun m => g m * F m) p)
  | [], L => by simp only [addAll, sumOf, Int.add_zero]; exact Like.refl _
  | m :: p, L => by
    refine (lin_addAll hF g p (addTo m (g m) L)).trans ?_
    refine ((lin_addTo hF m (g m) L).add (Like.refl _)).trans (Like.of_eq ?_)
    simp only [sumOf]
    omega

theorem lin_mulRow {F : Mono → Int} (hF : Ext F) (a : Mono) : ∀ (q L : List Mono), Like (lin F (mulRow a L q)) (lin F L + sumOf (fun b => a.n * b.n * F (mulM a b)) q)
  | [], L => by simp only [mulRow, sumOf, Int.add_zero]; exact Like.refl _
  | b :: q, L => by
    refine (lin_mulRow hF a q _).trans ?_
    refine (((lin_addTo hF (mulM a b) _ L).trans ((Like.refl _).add ((like_wrap _).mul _))).add (Like.refl _)).trans (Like.of_eq ?_)
    simp only [sumOf]
    omega

theorem lin_mulAll {F : Mono → Int} (hF : Ext F) (q : List Mono) : ∀ (p L : List Mono), Like (lin F (mulAll q L p)) (lin F L + sumOf (fun a => sumOf (fun b => a.n * b.n * F (mulM a b)) q) p)
  | [], L => by simp only [mulAll, sumOf, Int.add_zero]; exact Like.refl _
  | a :: p, L => by
    refine (lin_mulAll hF q p _).trans ?_
    refine ((lin_mulRow hF a q L).add (Like.refl _)).trans (Like.of_eq ?_)
    simp only [sumOf]
    omega

/-- all factors are 64-bit numbers -/
def Fit (L : List Mono) : Prop := ∀ m ∈ L, -9223372036854775808 ≤ m.n ∧ m.n < 9223372036854775808

theorem fit_addTo (m : Mono) (v : Int) {L : List Mono} (h : Fit L) : Fit (addTo m v L) := fun y hy => by
  rcases mem_setTo hy with rfl | hy
  · exact wrap_range _
  · exact h y hy
theorem fit_addAll (g : Mono → Int) : ∀ (p : List Mono) {L : List Mono}, Fit L → Fit (addAll g L p)
  | [], _, h => h
  | _ :: p, _, h => fit_addAll g p (fit_addTo _ _ h)
theorem fit_mulRow (a : Mono) : ∀ (q : List Mono) {L : List Mono}, Fit L → Fit (mulRow a L q)
  | [], _, h => h
  | _ :: q, _, h => fit_mulRow a q (fit_addTo _ _ h)
theorem fit_mulAll (q : List Mono) : ∀ (p : List Mono) {L : List Mono}, Fit L → Fit (mulAll q L p)
  | [], _, h => h
  | a :: p, _, h => fit_mulAll q p (fit_mulRow a q h)
theorem fit_nil : Fit [] := fun _ h => by simp at h

def ind (k : Nat) (m : Mono) : Int := if m.key = k then 1 else 0
theorem ext_ind (k : Nat) : Ext (ind k) := fun a b h => by unfold ind; rw [h]

theorem lin_cons (F : Mono → Int) (m : Mono) (L : List Mono) : lin F (m :: L) = m.n * F m + lin F L := rfl
theorem ind_ne {k : Nat} {m : Mono} (h : m.key ≠ k) : ind k m = 0 := if_neg h
theorem ind_self (m : Mono) : ind m.key m = 1 := if_pos rfl
theorem lin_ind_none {k : Nat} : ∀ {L : List Mono}, (∀ y ∈ L, y.key ≠ k) → lin (ind k) L = 0
  | [], _ => rfl
  | m :: L, h => by
    rw [lin_cons, lin_ind_none (L := L) (k := k) fun y hy => h y (by simp [hy]), ind_ne (h m (by simp))]
    simp

theorem lin_ind {x : Mono} : ∀ {L : List Mono}, Apart L → x ∈ L → lin (ind x.key) L = x.n
  | [], _, h => by simp at h
  | m :: L, hA, h => by
    obtain ⟨h1, h2⟩ := List.pairwise_cons.1 hA
    rw [lin_cons]
    rcases List.mem_cons.1 h with rfl | h
    · rw [lin_ind_none (L := L) (k := x.key) fun y hy => Ne.symm (h1 y hy), ind_self]
      simp
    · rw [lin_ind h2 h, ind_ne (h1 x h)]
      simp

theorem canon_sub {L L' : List Mono} (hA : Apart L) (hf : Fit L) (hA' : Apart L') (hf' : Fit L') (h : ∀ F, Ext F → Like (lin F L) (lin F L')) {x : Mono} (hx : x ∈ canon L) : x ∈ canon L' := by
  obtain ⟨hx, h0⟩ := mem_canon.1 hx
  have e := h _ (ext_ind x.key)
  rw [lin_ind hA hx] at e
  have hfx := hf x hx
  by_cases hy : ∃ y ∈ L', y.key = x.key
  · obtain ⟨y, hy, hk⟩ := hy
    rw [← hk, lin_ind hA' hy] at e
    have hn := e.eq hfx (hf' y hy)
    rw [eq_of_key hk.symm hn] at h0 ⊢
    exact mem_canon.2 ⟨hy, h0⟩
  · rw [lin_ind_none fun y h1 h2 => hy ⟨y, h1, h2⟩] at e
    exact absurd (e.eq hfx (by omega)) h0

/-- what is the same linear form is the same list -/
theorem canon_like {L L' : List Mono} (hA : Apart L) (hf : Fit L) (hA' : Apart L') (hf' : Fit L') (h : ∀ F, Ext F → Like (lin F L) (lin F L')) : canon L = canon L' :=
  Falls.ext (falls_canon hA) (falls_canon hA') fun _ => ⟨canon_sub hA hf hA' hf' h, canon_sub hA' hf' hA hf fun F hF => (h F hF).symm⟩

theorem right_falls : ∀ {l : List Mono} {o : Option Mono}, rightFrom o l = true → Falls l ∧ (∀ a, o = some a → ∀ m ∈ l, m.key < a.key) ∧ (∀ m ∈ l, smallB m = true)
  | [], _, _ => ⟨by simp [Falls], by simp, by simp⟩
  | m :: l, none, h => by
    rw [rightFrom, Bool.and_eq_true] at h
    obtain ⟨h1, h2, h3⟩ := right_falls h.2
    refine ⟨List.pairwise_cons.2 ⟨fun b hb => h2 m rfl b hb, h1⟩, by simp, ?_⟩
    intro x hx
    rcases List.mem_cons.1 hx with rfl | hx
    · exact h.1
    · exact h3 x hx
  | m :: l, some a, h => by
    rw [rightFrom, Bool.and_eq_true, Bool.and_eq_true, decide_eq_true_eq] at h
    obtain ⟨h1, h2, h3⟩ := right_falls h.2.2
    have hk := (ord_lt _ _).1 h.2.1
    refine ⟨List.pairwise_cons.2 ⟨fun b hb => h2 m rfl b hb, h1⟩, ?_, ?_⟩
    · intro a' ha x hx
      obtain rfl : a = a' := Option.some.inj ha
      rcases List.mem_cons.1 hx with rfl | hx
      · exact hk
      · exact Nat.lt_trans (h2 m rfl x hx) hk
    · intro x hx
      rcases List.mem_cons.1 hx with rfl | hx
      · exact h.1
      · exact h3 x hx

theorem right_all {p : List Mono} (h : rightB p = true) : Falls p ∧ (∀ m ∈ p, smallB m = true) ∧ p.length ≤ 48 := by
  simp only [rightB, Bool.and_eq_true, decide_eq_true_eq] at h
  exact ⟨(right_falls h.2).1, (right_falls h.2).2.2, h.1⟩
theorem right_fit {p : List Mono} (h : rightB p = true) : Fit p := fun m hm => by
  have := (right_all h).2.1 m hm
  simp only [smallB, decide_eq_true_eq] at this
  omega
theorem right_apart {p : List Mono} (h : rightB p = true) : Apart p := (right_all h).1.apart
theorem right_canon {p : List Mono} (h : rightB p = true) : canon p = p :=
  Falls.ext (falls_canon (right_apart h)) (right_all h).1 fun x => by
    rw [mem_canon]
    refine ⟨fun h => h.1, fun hx => ⟨hx, ?_⟩⟩
    have := (right_all h).2.1 x hx
    simp only [smallB, decide_eq_true_eq] at this
    exact this.1

/-- the list that a sum with a factor comes from -/
def bothL (p q : List Mono) (s : Int) : List Mono := addAll (fun m => wrap64 (s * m.n)) (addAll Mono.n [] p) q
theorem apart_nil : Apart [] := by simp [Apart]
theorem apart_bothL (p q : List Mono) (s : Int) : Apart (bothL p q s) := apart_addAll _ _ (apart_addAll _ _ apart_nil)
theorem fit_bothL (p q : List Mono) (s : Int) : Fit (bothL p q s) := fit_addAll _ _ (fit_addAll _ _ fit_nil)
theorem lin_bothL {F : Mono → Int} (hF : Ext F) (p q : List Mono) (s : Int) : Like (lin F (bothL p q s)) (lin F p + s * lin F q) := by
  refine (lin_addAll hF _ q _).trans ?_
  refine Like.add ((lin_addAll hF _ p _).trans (Like.of_eq ?_)) ?_
  · simp only [lin, sumOf, Int.zero_add]
  · unfold lin
    rw [Int.mul_comm, ← sumOf_mul]
    refine sumOf_like fun m _ => ((like_wrap _).mul _).trans (Like.of_eq ?_)
    rw [Int.mul_comm s, Int.mul_assoc, Int.mul_comm s, Int.mul_assoc]
theorem lin_mulL {F : Mono → Int} (hF : Ext F) (p q : List Mono) : Like (lin F (mulAll q [] p)) (sumOf (fun a => sumOf (fun b => a.n * b.n * F (mulM a b)) q) p) := by
  refine (lin_mulAll hF q p []).trans (Like.of_eq ?_)
  simp only [lin, sumOf, Int.zero_add]
theorem apart_mulL (p q : List Mono) : Apart (mulAll q [] p) := apart_mulAll _ _ apart_nil
theorem fit_mulL (p q : List Mono) : Fit (mulAll q [] p) := fit_mulAll _ _ fit_nil

theorem mulM_comm (a b : Mono) : mulM a b = mulM b a := by
  simp only [mulM, Int.mul_comm a.n, UInt8.add_comm a.e0, UInt8.add_comm a.e1, UInt8.add_comm a.e2, UInt8.add_comm a.e3, UInt8.add_comm a.e4, UInt8.add_comm a.e5]

theorem bothP_L (p q : List Mono) (s : Int) : bothP p q s = if rightB p && rightB q then listedP (bothL p q s) else ([], 20) := rfl
theorem add_comm (p q : List Mono) : bothP p q 1 = bothP q p 1 := by
  have h : canon (bothL p q 1) = canon (bothL q p 1) := canon_like (apart_bothL _ _ _) (fit_bothL _ _ _) (apart_bothL _ _ _) (fit_bothL _ _ _) fun F hF =>
    (lin_bothL hF p q 1).trans ((Like.of_eq (by omega)).trans (lin_bothL hF q p 1).symm)
  rw [bothP_L, bothP_L, Bool.and_comm]
  unfold listedP
  rw [h]

theorem mul_comm (p q : List Mono) : mulP p q = mulP q p := by
  have h : canon (mulAll q [] p) = canon (mulAll p [] q) := canon_like (apart_mulL _ _) (fit_mulL _ _) (apart_mulL _ _) (fit_mulL _ _) fun F hF =>
    (lin_mulL hF p q).trans ((Like.of_eq (by
      rw [sumOf_comm]
      refine sumOf_congr fun b _ => sumOf_congr fun a _ => ?_
      rw [mulM_comm, Int.mul_comm a.n])).trans (lin_mulL hF q p).symm)
  unfold mulP
  rw [Bool.and_comm]
  unfold listedP
  rw [h]

theorem both_ok {p q a : List Mono} {s : Int} (h : bothP p q s = (a, 0)) : rightB p = true ∧ rightB q = true ∧ a = canon (bothL p q s) ∧ rightB a = true := by
  unfold bothP listedP at h
  split at h
  · rename_i h1
    simp only [Bool.and_eq_true] at h1
    split at h
    · rename_i h2
      injection h with h _
      refine ⟨h1.1, h1.2, h.symm, ?_⟩
      rw [← h]
      exact h2
    · simp at h
  · simp at h
theorem mul_ok {p q a : List Mono} (h : mulP p q = (a, 0)) : rightB p = true ∧ rightB q = true ∧ a = canon (mulAll q [] p) ∧ rightB a = true := by
  unfold mulP listedP at h
  split at h
  · rename_i h1
    simp only [Bool.and_eq_true] at h1
    split at h
    · rename_i h2
      injection h with h _
      refine ⟨h1.1, h1.2, h.symm, ?_⟩
      rw [← h]
      exact h2
    · simp at h
  · simp at h
theorem both_of {p q a : List Mono} {s : Int} (h1 : rightB p = true) (h2 : rightB q = true) (h3 : canon (bothL p q s) = a) (h4 : rightB a = true) : bothP p q s = (a, 0) := by
  rw [bothP_L]
  unfold listedP
  rw [h1, h2, h3, h4]
  rfl

/-- a sum less one part is the other one -/
theorem back_sub {p q a : List Mono} (h : bothP p q 1 = (a, 0)) : bothP a q (-1) = (p, 0) := by
  obtain ⟨h1, h2, h3, h4⟩ := both_ok h
  refine both_of h4 h2 ?_ h1
  rw [← right_canon h1]
  refine (canon_like (apart_bothL _ _ _) (fit_bothL _ _ _) (right_apart h1) (right_fit h1) fun F hF => ?_).trans (by rw [right_canon h1])
  refine (lin_bothL hF a q (-1)).trans ?_
  rw [h3, lin_canon]
  refine ((lin_bothL hF p q 1).add (Like.refl _)).trans (Like.of_eq (by omega))

theorem none_sub {a : List Mono} (h : rightB a = true) : bothP a a (-1) = ([], 0) := by
  refine both_of h h ?_ rfl
  refine (canon_like (apart_bothL _ _ _) (fit_bothL _ _ _) apart_nil fit_nil fun F hF => ?_).trans (right_canon rfl)
  exact (lin_bothL hF a a (-1)).trans (Like.of_eq (by simp only [lin, sumOf]; omega))

theorem ext_mulM {F : Mono → Int} (hF : Ext F) (b : Mono) : Ext fun a => F (mulM a b) := fun a a' h => hF _ _ (key_E.2 (by
  have := key_E.1 h
  simp only [Mono.E, List.cons.injEq, and_true] at this
  obtain ⟨h0, h1, h2, h3, h4, h5⟩ := this
  simp only [Mono.E, mulM, h0, h1, h2, h3, h4, h5]))

/-- the product as a linear form of its first side -/
theorem lin_mul_first {F : Mono → Int} (p r : List Mono) : sumOf (fun a => sumOf (fun b => a.n * b.n * F (mulM a b)) r) p = lin (fun a => sumOf (fun b => b.n * F (mulM a b)) r) p := by
  unfold lin
  refine sumOf_congr fun a _ => ?_
  rw [Int.mul_comm, ← sumOf_mul]
  refine sumOf_congr fun b _ => ?_
  rw [Int.mul_assoc, Int.mul_comm]
theorem ext_sum {F : Mono → Int} (hF : Ext F) (r : List Mono) : Ext fun a => sumOf (fun b => b.n * F (mulM a b)) r := fun a a' h => sumOf_congr fun b _ => by
  rw [show F (mulM a b) = F (mulM a' b) from ext_mulM hF b a a' h]

/-- a product with a sum is the sum of products -/
theorem mul_sum {p q r a l x y : List Mono} (h : bothP p q 1 = (a, 0)) (hl : mulP a r = (l, 0)) (hx : mulP p r = (x, 0)) (hy : mulP q r = (y, 0)) : bothP x y 1 = (l, 0) := by
  obtain ⟨h1, h2, h3, h4⟩ := both_ok h
  obtain ⟨_, hr, l3, l4⟩ := mul_ok hl
  obtain ⟨_, _, x3, x4⟩ := mul_ok hx
  obtain ⟨_, _, y3, y4⟩ := mul_ok hy
  refine both_of x4 y4 ?_ l4
  rw [l3]
  refine canon_like (apart_bothL _ _ _) (fit_bothL _ _ _) (apart_mulL _ _) (fit_mulL _ _) fun F hF => ?_
  refine (lin_bothL hF x y 1).trans ?_
  rw [x3, y3, lin_canon, lin_canon]
  have ex := lin_mulL hF p r
  have ey := lin_mulL hF q r
  have el := lin_mulL hF a r
  rw [lin_mul_first] at ex ey el
  rw [h3, lin_canon] at el
  have ea := lin_bothL (ext_sum hF r) p q 1
  rw [h3]
  generalize lin F (mulAll r [] p) = a1 at *
  generalize lin F (mulAll r [] q) = a2 at *
  generalize lin F (mulAll r [] (canon (bothL p q 1))) = a3 at *
  unfold Like at *
  omega

theorem listed_len (L : List Mono) : (listedP L).1.length ≤ 48 ∧ ((listedP L).2 = 0 ∨ (listedP L).1 = [] ∧ (listedP L).2 = 21) := by
  unfold listedP
  split
  · rename_i h
    exact ⟨(right_all h).2.2, .inl rfl⟩
  · exact ⟨by simp, .inr ⟨rfl, rfl⟩⟩
theorem both_len (p q : List Mono) (s : Int) : (bothP p q s).1.length ≤ 48 ∧ ((bothP p q s).2 = 0 ∨ (bothP p q s).1 = [] ∧ ((bothP p q s).2 = 20 ∨ (bothP p q s).2 = 21)) := by
  unfold bothP
  split
  · obtain ⟨h1, h2 | h2⟩ := listed_len (addAll (fun m => wrap64 (s * m.n)) (addAll Mono.n [] p) q)
    · exact ⟨h1, .inl h2⟩
    · exact ⟨h1, .inr ⟨h2.1, .inr h2.2⟩⟩
  · exact ⟨by simp, .inr ⟨rfl, .inl rfl⟩⟩
theorem mul_len (p q : List Mono) : (mulP p q).1.length ≤ 48 ∧ ((mulP p q).2 = 0 ∨ (mulP p q).1 = [] ∧ ((mulP p q).2 = 20 ∨ (mulP p q).2 = 21)) := by
  unfold mulP
  split
  · obtain ⟨h1, h2 | h2⟩ := listed_len (mulAll q [] p)
    · exact ⟨h1, .inl h2⟩
    · exact ⟨h1, .inr ⟨h2.1, .inr h2.2⟩⟩
  · exact ⟨by simp, .inr ⟨rfl, .inl rfl⟩⟩

theorem gives_at {w w' : World} {R : List Mono × Int} {l : List Mono} {z : Int} {e : Ending} (hR : R = (l, z)) (h : Gives w R e w') :
    ∃ A c, e = .returned (.tuple #[.slice A l.length c, .int .i64 z]) ∧ Below w.heap.size w w' ∧ Monos w' A l := by
  subst hR
  exact h.list

end Go.Proofs.Ytndjaogjkchpaaa
