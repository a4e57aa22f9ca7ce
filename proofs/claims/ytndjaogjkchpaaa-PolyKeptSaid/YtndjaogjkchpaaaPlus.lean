/- Plain: what the reference puts together is what the program lists. -/
import Derived.Test.YtndjaogjkchpaaaTogether
import Derived.Test.YtndjaogjkchpaaaAlg
namespace Go.Proofs.Ytndjaogjkchpaaa
open Go.RowKit

theorem lin_put {F : Mono → Int} (hF : Ext F) (m : Mono) : ∀ l : List Mono, Like (lin F (putP m l)) (lin F l + m.n * F m)
  | [] => Like.of_eq (by rw [putP, lin_cons]; show _ = (0 : Int) + _; have : lin F [] = 0 := rfl; omega)
  | a :: l => by
    have ih := lin_put hF m l
    rw [putP]
    split
    · rw [lin_cons, lin_cons]
      exact ((Like.refl (a.n * F a)).add ih).trans (Like.of_eq (by omega))
    · split
      · rename_i hk
        have e1 : F ⟨wrap64 (a.n + m.n), a.e0, a.e1, a.e2, a.e3, a.e4, a.e5⟩ = F a := hF _ _ rfl
        rw [lin_cons, lin_cons, e1, ← hF a m hk]
        have h := ((like_wrap (a.n + m.n)).mul (F a)).add (Like.refl (lin F l))
        have e : (a.n + m.n) * F a + lin F l = a.n * F a + lin F l + m.n * F a := by rw [Int.add_mul]; omega
        exact e ▸ h
      · rw [lin_cons]
        exact Like.of_eq (by omega)
theorem lin_putAll {F : Mono → Int} (hF : Ext F) : ∀ (l acc : List Mono), Like (lin F (putAll acc l)) (lin F acc + lin F l)
  | [], acc => Like.of_eq (by show lin F acc = _; have : lin F [] = 0 := rfl; omega)
  | m :: l, acc => by
    have h := lin_putAll hF l (putP m acc)
    have h2 := (lin_put hF m acc).add (Like.refl (lin F l))
    rw [lin_cons]
    exact h.trans (h2.trans (Like.of_eq (by omega)))
theorem falls_put (m : Mono) : ∀ {l : List Mono}, Falls l → Falls (putP m l) ∧ ∀ k, m.key < k → (∀ y ∈ l, y.key < k) → ∀ y ∈ putP m l, y.key < k
  | [], _ => by simp [putP, Falls]
  | a :: l, h => by
    obtain ⟨h1, h2⟩ := List.pairwise_cons.1 h
    obtain ⟨i1, i2⟩ := falls_put m h2
    have key : ∀ y ∈ putP m (a :: l), y.key ≤ m.key ∨ y.key ≤ a.key := fun y hy => by
      rw [putP] at hy
      split at hy
      · rename_i hk
        rcases List.mem_cons.1 hy with rfl | hy
        · exact .inr (Nat.le_refl _)
        · exact .inr (Nat.le_of_lt (i2 a.key hk h1 y hy))
      · split at hy
        · rcases List.mem_cons.1 hy with rfl | hy
          · exact .inr (Nat.le_refl _)
          · exact .inr (Nat.le_of_lt (h1 y hy))
        · rcases List.mem_cons.1 hy with rfl | hy
          · exact .inl (Nat.le_refl _)
          · rcases List.mem_cons.1 hy with rfl | hy
            · exact .inr (Nat.le_refl _)
            · exact .inr (Nat.le_of_lt (h1 y hy))
    refine ⟨?_, fun k hk hl y hy => ?_⟩
    · rw [putP]
      split
      · rename_i hk
        exact List.pairwise_cons.2 ⟨fun y hy => i2 a.key hk h1 y hy, i1⟩
      · split
        · exact List.pairwise_cons.2 ⟨fun y hy => h1 y hy, h2⟩
        · refine List.pairwise_cons.2 ⟨fun y hy => ?_, h⟩
          rcases List.mem_cons.1 hy with rfl | hy
          · omega
          · have := h1 y hy; omega
    · have ha := hl a (List.mem_cons_self ..)
      rcases key y hy with h | h <;> omega
theorem falls_putAll : ∀ (l : List Mono) {acc : List Mono}, Falls acc → Falls (putAll acc l)
  | [], _, h => h
  | m :: l, _, h => falls_putAll l (falls_put m h).1
theorem fit_put {m : Mono} (hm : -9223372036854775808 ≤ m.n ∧ m.n < 9223372036854775808) : ∀ {l : List Mono}, Fit l → Fit (putP m l)
  | [], _ => fun y hy => by
    rw [putP] at hy
    rw [List.mem_singleton.1 hy]
    exact hm
  | a :: l, h => fun y hy => by
    have hl : Fit l := fun x hx => h x (List.mem_cons_of_mem _ hx)
    rw [putP] at hy
    split at hy
    · rcases List.mem_cons.1 hy with rfl | hy
      · exact h _ (List.mem_cons_self ..)
      · exact fit_put hm hl y hy
    · split at hy
      · rcases List.mem_cons.1 hy with rfl | hy
        · exact wrap_range _
        · exact hl y hy
      · rcases List.mem_cons.1 hy with rfl | hy
        · exact hm
        · exact h y hy
theorem fit_putAll : ∀ (l : List Mono) {acc : List Mono}, Fit l → Fit acc → Fit (putAll acc l)
  | [], _, _, h => h
  | m :: l, _, hl, h => fit_putAll l (fun x hx => hl x (List.mem_cons_of_mem _ hx)) (fit_put (hl m (List.mem_cons_self ..)) h)
theorem canon_of_falls {l : List Mono} (h : Falls l) : canon l = l.filter nz := by
  unfold canon
  have e : (l.filter fun m => m.n != 0) = l.filter nz := rfl
  rw [e]
  refine List.mergeSort_of_pairwise ?_
  refine List.Pairwise.imp (fun {a b} hab => ?_) (h.filter nz)
  exact decide_eq_true (Nat.le_of_lt hab)
theorem whole_listed {l L : List Mono} (hf : Falls l) (hfit : Fit l) (hA : Apart L) (hL : Fit L) (h : ∀ F, Ext F → Like (lin F l) (lin F L)) : wholeP l = listedP L := by
  have e : l.filter nz = canon L := by rw [← canon_of_falls hf]; exact canon_like hf.apart hfit hA hL h
  unfold wholeP listedP
  rw [e]
theorem lin_scale {F : Mono → Int} (hF : Ext F) (s : Int) : ∀ q : List Mono, Like (lin F (q.map (scaleM s))) (s * lin F q)
  | [] => Like.of_eq (by show (0 : Int) = s * 0; simp)
  | m :: q => by
    have ih := lin_scale hF s q
    rw [List.map_cons, lin_cons, lin_cons, Int.mul_add, hF (scaleM s m) m rfl]
    have h := (like_wrap (s * m.n)).mul (F m)
    rw [Int.mul_assoc] at h
    exact h.add ih
theorem together_both (p q : List Mono) (s : Int) : togetherP p q s = bothP p q s := by
  rw [bothP_L]
  unfold togetherP
  cases hp : rightB p with
  | false => rfl
  | true =>
    cases hq : rightB q with
    | false => rfl
    | true =>
      refine whole_listed (falls_putAll _ (falls_putAll _ List.Pairwise.nil)) (fit_putAll _ (fun y hy => ?_) (fit_putAll _ (right_fit hp) fit_nil)) (apart_bothL p q s) (fit_bothL p q s) fun F hF => ?_
      · obtain ⟨x, _, rfl⟩ := List.mem_map.1 hy
        exact wrap_range _
      · have h1 := lin_putAll hF (q.map (scaleM s)) (putAll [] p)
        have h2 := lin_putAll hF p []
        have h3 := lin_bothL hF p q s
        have h0 : lin F [] = 0 := rfl
        exact h1.trans (((h2.trans (Like.of_eq (by omega))).add (lin_scale hF s q)).trans h3.symm)
theorem lin_row {F : Mono → Int} (a : Mono) : ∀ q : List Mono, Like (lin F (q.map (mulM a))) (sumOf (fun b => a.n * b.n * F (mulM a b)) q)
  | [] => Like.refl _
  | b :: q => (((like_wrap (a.n * b.n)).mul (F (mulM a b))).add (lin_row a q))
theorem lin_app (F : Mono → Int) : ∀ l k : List Mono, lin F (l ++ k) = lin F l + lin F k
  | [], k => by show lin F k = (0 : Int) + _; omega
  | m :: l, k => by rw [List.cons_append, lin_cons, lin_cons, lin_app F l k]; omega
theorem lin_flat {F : Mono → Int} (q : List Mono) : ∀ p : List Mono, Like (lin F (p.flatMap fun a => q.map (mulM a))) (sumOf (fun a => sumOf (fun b => a.n * b.n * F (mulM a b)) q) p)
  | [] => Like.refl _
  | a :: p => by
    rw [List.flatMap_cons, lin_app]
    exact (lin_row a q).add (lin_flat q p)
theorem refMul_mul (p q : List Mono) : refMulP p q = mulP p q := by
  unfold refMulP mulP
  cases hp : rightB p with
  | false => rfl
  | true =>
    cases hq : rightB q with
    | false => rfl
    | true =>
      refine whole_listed (falls_putAll _ List.Pairwise.nil) (fit_putAll _ (fun y hy => ?_) fit_nil) (apart_mulL p q) (fit_mulL p q) fun F hF => ?_
      · obtain ⟨a, _, hy⟩ := List.mem_flatMap.1 hy
        obtain ⟨x, _, rfl⟩ := List.mem_map.1 hy
        exact wrap_range _
      · have h1 := lin_putAll hF (p.flatMap fun a => q.map (mulM a)) []
        have h0 : lin F [] = 0 := rfl
        exact h1.trans (((Like.of_eq (by omega)).trans (lin_flat q p)).trans (lin_mulL hF p q).symm)
end Go.Proofs.Ytndjaogjkchpaaa
