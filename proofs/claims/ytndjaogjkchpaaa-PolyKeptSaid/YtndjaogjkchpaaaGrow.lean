/- Plain law of growing polynomials (no program): no lesser value where no variable is less; what covers a number is not below it. -/
import Derived.Test.YtndjaogjkchpaaaVal
import Derived.Test.YtndjaogjkchpaaaGrows
namespace Go.Proofs.Ytndjaogjkchpaaa

theorem pow_le {a b : Int} (ha : 0 ≤ a) (h : a ≤ b) : ∀ e : Nat, 0 ≤ a ^ e ∧ a ^ e ≤ b ^ e
  | 0 => by simp
  | e + 1 => by
    obtain ⟨h1, h2⟩ := pow_le ha h e
    rw [Int.pow_succ, Int.pow_succ]
    exact ⟨Int.mul_nonneg h1 ha, Int.mul_le_mul h2 h ha (Int.le_trans h1 h2)⟩
theorem prod_le {D D' : Nat → Int} (hD : ∀ k, 0 ≤ D k) (h : ∀ k, D k ≤ D' k) : ∀ l : List (UInt8 × Nat), 0 ≤ prodD (l.map fun x => (x.1, D x.2)) ∧ prodD (l.map fun x => (x.1, D x.2)) ≤ prodD (l.map fun x => (x.1, D' x.2))
  | [] => by simp [prodD]
  | x :: l => by
    obtain ⟨h1, h2⟩ := prod_le hD h l
    obtain ⟨h3, h4⟩ := pow_le (hD x.2) (h x.2) x.1.toNat
    simp only [List.map_cons, prodD]
    exact ⟨Int.mul_nonneg h3 h1, Int.mul_le_mul h4 h2 h1 (Int.le_trans h3 h4)⟩
theorem val_le {D D' : Nat → Int} (hD : ∀ k, 0 ≤ D k) (h : ∀ k, D k ≤ D' k) (m : Mono) : 0 ≤ val D m ∧ val D m ≤ val D' m :=
  prod_le hD h [(m.e0, 0), (m.e1, 1), (m.e2, 2), (m.e3, 3), (m.e4, 4), (m.e5, 5)]
theorem lin_le {D D' : Nat → Int} (hD : ∀ k, 0 ≤ D k) (h : ∀ k, D k ≤ D' k) : ∀ p : List Mono, (∀ m ∈ p, 0 ≤ m.n) → 0 ≤ lin (val D) p ∧ lin (val D) p ≤ lin (val D') p
  | [], _ => by simp [lin, sumOf]
  | m :: p, hp => by
    obtain ⟨h1, h2⟩ := lin_le hD h p fun x hx => hp x (by simp [hx])
    obtain ⟨h3, h4⟩ := val_le hD h m
    have h0 := hp m (by simp)
    have h5 := Int.mul_nonneg h0 h3
    have h6 := Int.mul_le_mul_of_nonneg_left h4 h0
    rw [lin_cons, lin_cons]
    exact ⟨by omega, by omega⟩
theorem lin_mem {D : Nat → Int} (hD : ∀ k, 0 ≤ D k) {x : Mono} : ∀ p : List Mono, (∀ m ∈ p, 0 ≤ m.n) → x ∈ p → x.n * val D x ≤ lin (val D) p
  | [], _, h => by simp at h
  | m :: p, hp, h => by
    have h1 := (lin_le hD (fun k => Int.le_refl _) p fun x hx => hp x (by simp [hx])).1
    rw [lin_cons]
    rcases List.mem_cons.1 h with rfl | h
    · omega
    · have h2 := lin_mem hD p (fun x hx => hp x (by simp [hx])) h
      have h3 := Int.mul_nonneg (hp m (by simp)) (val_le hD (fun k => Int.le_refl _) m).1
      omega
theorem grows_n {p : List Mono} (h : growsB p = true) : ∀ m ∈ p, 0 ≤ m.n := fun m hm => by
  simp only [growsB, Bool.and_eq_true, Bool.not_eq_true', List.any_eq_false, negB, decide_eq_true_eq] at h
  have := h.2 m hm
  omega
theorem eval_pos {p : List Mono} {ds : List Int} {v : Int} (h : evalP p ds = (v, 0)) : ∀ k, 0 ≤ dimAt ds k := fun k => by
  have := eval_dims h
  simp only [dimsB, Bool.and_eq_true] at this
  exact (dimAt_ok this.2 k).1
theorem grows_le {p : List Mono} {ds up : List Int} {a b : Int} (hg : growsB p = true) (ha : evalP p ds = (a, 0)) (hb : evalP p up = (b, 0)) (h : ∀ k, dimAt ds k ≤ dimAt up k) : a ≤ b := by
  obtain ⟨_, a1, _⟩ := eval_ok ha
  obtain ⟨_, b1, _⟩ := eval_ok hb
  rw [a1, b1]
  exact (lin_le (eval_pos ha) h p (grows_n hg)).2
theorem grows_pos {p : List Mono} {ds : List Int} {a : Int} (hg : growsB p = true) (ha : evalP p ds = (a, 0)) : 0 ≤ a := by
  obtain ⟨_, a1, _⟩ := eval_ok ha
  rw [a1]
  exact (lin_le (eval_pos ha) (fun k => Int.le_refl _) p (grows_n hg)).1
theorem flat_val {D : Nat → Int} {m : Mono} (h : flatE m = true) : val D m = 1 := by
  simp only [flatE, Mono.sameE, Bool.and_eq_true, beq_iff_eq] at h
  obtain ⟨h0, h1, h2, h3, h4, h5⟩ := h
  simp [val, pairs, prodD, h0, h1, h2, h3, h4, h5]
theorem covers_le {p : List Mono} {ds : List Int} {a n : Int} (hc : coversB p n = true) (ha : evalP p ds = (a, 0)) : n ≤ a := by
  simp only [coversB, Bool.and_eq_true, Bool.or_eq_true, decide_eq_true_eq] at hc
  obtain ⟨hg, h | h⟩ := hc
  · have := grows_pos hg ha
    omega
  · cases hl : p.getLast? with
    | none => simp [hl] at h
    | some m =>
      simp only [hl, Bool.and_eq_true, decide_eq_true_eq] at h
      have hm : m ∈ p := List.mem_of_getLast? hl
      obtain ⟨_, a1, _⟩ := eval_ok ha
      have := lin_mem (eval_pos ha) p (grows_n hg) hm
      rw [flat_val h.1] at this
      omega
theorem covers_grows {p : List Mono} {n : Int} (h : growsB p = false) : coversB p n = false := by simp [coversB, h]

def upAt (more : List Int) (k : Nat) (d : Int) : Int := if d < more.getD k d then more.getD k d else d
def upP (ds more : List Int) : List Int := ds.mapIdx (upAt more)
theorem upP_len (ds more : List Int) : (upP ds more).length = ds.length := by simp [upP]
theorem upP_at {ds more : List Int} {k : Nat} {d : Int} (h : ds[k]? = some d) : (upP ds more)[k]? = some (upAt more k d) := by simp [upP, h]
theorem dimAt_up (ds more : List Int) (k : Nat) : dimAt ds k ≤ dimAt (upP ds more) k := by
  unfold dimAt
  simp only [List.getD_eq_getElem?_getD]
  cases h : ds[k]? with
  | none =>
    have hk : ds.length ≤ k := List.getElem?_eq_none_iff.1 h
    rw [List.getElem?_eq_none (by rw [upP_len]; exact hk)]
    exact Int.le_refl _
  | some d =>
    rw [upP_at h]
    simp only [Option.getD_some, upAt]
    split <;> omega
theorem up_start (ds more : List Int) : List.replicate ds.length (0 : Int) = (upP ds more).take 0 ++ List.replicate (ds.length - 0) 0 := by simp
theorem up_step {ds more cur : List Int} {k : Nat} {u : Int} (hc : cur = (upP ds more).take k ++ List.replicate (ds.length - k) 0) (hu : (upP ds more)[k]? = some u) : cur.set k u = (upP ds more).take (k + 1) ++ List.replicate (ds.length - (k + 1)) 0 := by
  have hk : k < (upP ds more).length := (List.getElem?_eq_some_iff.1 hu).1
  have hk' : k < ds.length := by rw [upP_len] at hk; exact hk
  have hl : ((upP ds more).take k).length = k := by simp; omega
  rw [hc, List.set_append_right _ _ (by omega), hl, Nat.sub_self, List.take_add_one, hu, show ds.length - k = (ds.length - (k + 1)) + 1 from by omega, List.replicate_succ]
  simp
theorem up_end {ds more cur : List Int} {k : Nat} (hk : ds.length ≤ k) (hc : cur = (upP ds more).take k ++ List.replicate (ds.length - k) 0) : cur = upP ds more := by
  rw [hc, List.take_of_length_le (by rw [upP_len]; exact hk), show ds.length - k = 0 from by omega]
  simp
theorem up_more {more : List Int} {k : Nat} {d x : Int} (hx : more[k]? = some x) (h : d < x) : upAt more k d = x := by simp [upAt, hx, h]
theorem up_less {more : List Int} {k : Nat} {d x : Int} (hx : more[k]? = some x) (h : x ≤ d) : upAt more k d = d := by
  have : ¬ d < x := by omega
  simp [upAt, hx, this]
theorem up_none {more : List Int} {k : Nat} {d : Int} (h : more.length ≤ k) : upAt more k d = d := by simp [upAt, List.getElem?_eq_none h]
end Go.Proofs.Ytndjaogjkchpaaa
