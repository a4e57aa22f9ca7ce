/- Contracts of poly.Const, poly.Var, windrowref02.Const, windrowref02.Var, windrowlaw02.at, poly.Add, poly.Sub: what each returns; nothing that was there is changed. -/
import Derived.Test.YtndjaogjkchpaaaMul
namespace Go.Proofs.Ytndjaogjkchpaaa
open Go.RowKit Go.Sort

/-- a monomial of no exponents -/
def num0 (n : Int) : Mono := ⟨n, 0, 0, 0, 0, 0, 0⟩
def constP (n : Int) : List Mono × Int := if n = 0 then ([], 0) else if 16777216 < n ∨ n < -16777216 then ([], 21) else ([num0 n], 0)
/-- the variable k -/
def varM (k : Nat) : Mono := ⟨1, if k = 0 then 1 else 0, if k = 1 then 1 else 0, if k = 2 then 1 else 0, if k = 3 then 1 else 0, if k = 4 then 1 else 0, if k = 5 then 1 else 0⟩
def varP (k : Int) : List Mono × Int := if k < 0 ∨ 6 ≤ k then ([], 23) else ([varM k.toNat], 0)

theorem run_build_num (n : Int) (w : World) : (Instr.build 39 #[(0, .int .i64 n)]).run Try.prog w = .ok (.agg #[.int .i64 n, .int .u8 0, .int .u8 0, .int .u8 0, .int .u8 0, .int .u8 0, .int .u8 0]) w := run_build w _ _ _ (by kernel_rfl)

/-- a slice of one monomial, just made -/
theorem res_one (w : World) (m : Mono) : Res w.heap.size (w.alloc (.cells #[.int .i64 m.n, .int .u8 m.e0.toNat, .int .u8 m.e1.toNat, .int .u8 m.e2.toNat, .int .u8 m.e3.toNat, .int .u8 m.e4.toNat, .int .u8 m.e5.toNat] 39)) (.slice (some ⟨w.heap.size, 0, none⟩) 1 1) [m] := by
  refine ⟨_, 1, rfl, .inr ⟨w.heap.size, rfl, Nat.le_refl _, ?_⟩⟩
  have h : Owns (w.alloc (.cells #[.int .i64 m.n, .int .u8 m.e0.toNat, .int .u8 m.e1.toNat, .int .u8 m.e2.toNat, .int .u8 m.e3.toNat, .int .u8 m.e4.toNat, .int .u8 m.e5.toNat] 39)) w.heap.size (.slice (some ⟨w.heap.size, 0, none⟩) [m].length 1) [m] :=
    ⟨rfl, .inr ⟨w.heap.size, 1, #[.int .i64 m.n, .int .u8 m.e0.toNat, .int .u8 m.e1.toNat, .int .u8 m.e2.toNat, .int .u8 m.e3.toNat, .int .u8 m.e4.toNat, .int .u8 m.e5.toNat], rfl, Nat.le_refl _, heap_alloc_new _ _, Nat.le_refl _, by simp [maxLen], rfl, rfl⟩⟩
  exact h.row

theorem res_at {W : World} {B g : Nat} {m : Mono} (hg : W.heap[g]? = some (.cells #[.int .i64 m.n, .int .u8 m.e0.toNat, .int .u8 m.e1.toNat, .int .u8 m.e2.toNat, .int .u8 m.e3.toNat, .int .u8 m.e4.toNat, .int .u8 m.e5.toNat] 39)) (hB : B ≤ g) : Res B W (.slice (some ⟨g, 0, none⟩) 1 1) [m] := by
  refine ⟨_, 1, rfl, .inr ⟨g, rfl, hB, ?_⟩⟩
  have h : Owns W B (.slice (some ⟨g, 0, none⟩) [m].length 1) [m] := ⟨rfl, .inr ⟨g, 1, #[.int .i64 m.n, .int .u8 m.e0.toNat, .int .u8 m.e1.toNat, .int .u8 m.e2.toNat, .int .u8 m.e3.toNat, .int .u8 m.e4.toNat, .int .u8 m.e5.toNat], rfl, hB, hg, Nat.le_refl _, by simp [maxLen], rfl, rfl⟩⟩
  exact h.row

set_option maxHeartbeats 400000 in
theorem const_any (n : Int) (w : World) : Calls Try.prog 28 #[.int .i64 n] w (Gives w (constP n)) := by
  have hbn := run_build_num
  by_cases h0 : n = 0
  · have e : constP n = ([], 0) := by unfold constP; rw [if_pos h0]
    rw [e]
    subst h0
    go_enter Try.func28, Try.ntmps28
    go_wp2
    go_ret2
    exact ⟨_, rfl, Below.refl _ _, Res.nil _ _ _ _⟩
  · have h01 : (n == 0) = false := by simpa using h0
    by_cases h1 : 16777216 < n
    · have e : constP n = ([], 21) := by unfold constP; rw [if_neg h0, if_pos (.inl h1)]
      rw [e]
      have h11 : decide (16777216 < n) = true := by simpa using h1
      go_enter Try.func28, Try.ntmps28
      go_wp2
      go_ret2
      exact ⟨_, rfl, Below.refl _ _, Res.nil _ _ _ _⟩
    · have h11 : decide (16777216 < n) = false := by simpa using h1
      by_cases h2 : n < -16777216
      · have e : constP n = ([], 21) := by unfold constP; rw [if_neg h0, if_pos (.inr h2)]
        rw [e]
        have h21 : decide (n < -16777216) = true := by simpa using h2
        go_enter Try.func28, Try.ntmps28
        go_wp2
        go_ret2
        exact ⟨_, rfl, Below.refl _ _, Res.nil _ _ _ _⟩
      · have e : constP n = ([num0 n], 0) := by unfold constP; rw [if_neg h0, if_neg (by omega)]
        rw [e]
        have h21 : decide (n < -16777216) = false := by simpa using h2
        go_enter Try.func28, Try.ntmps28
        go_wp2
        go_ret2
        exact ⟨_, rfl, by go_grown, res_one w (num0 n)⟩

set_option maxHeartbeats 400000 in
theorem refConst_any (n : Int) (w : World) : Calls Try.prog 29 #[.int .i64 n] w (Gives w (constP n)) := by
  have hbn := run_build_num
  by_cases h0 : n = 0
  · have e : constP n = ([], 0) := by unfold constP; rw [if_pos h0]
    rw [e]
    subst h0
    go_enter Try.func29, Try.ntmps29
    go_wp2
    go_ret2
    exact ⟨_, rfl, Below.refl _ _, Res.nil _ _ _ _⟩
  · have h01 : (n == 0) = false := by simpa using h0
    by_cases h1 : 16777216 < n
    · have e : constP n = ([], 21) := by unfold constP; rw [if_neg h0, if_pos (.inl h1)]
      rw [e]
      have h11 : decide (16777216 < n) = true := by simpa using h1
      go_enter Try.func29, Try.ntmps29
      go_wp2
      go_ret2
      exact ⟨_, rfl, Below.refl _ _, Res.nil _ _ _ _⟩
    · have h11 : decide (16777216 < n) = false := by simpa using h1
      by_cases h2 : n < -16777216
      · have e : constP n = ([], 21) := by unfold constP; rw [if_neg h0, if_pos (.inr h2)]
        rw [e]
        have h21 : decide (n < -16777216) = true := by simpa using h2
        go_enter Try.func29, Try.ntmps29
        go_wp2
        go_ret2
        exact ⟨_, rfl, Below.refl _ _, Res.nil _ _ _ _⟩
      · have e : constP n = ([num0 n], 0) := by unfold constP; rw [if_neg h0, if_neg (by omega)]
        rw [e]
        have h21 : decide (n < -16777216) = false := by simpa using h2
        go_enter Try.func29, Try.ntmps29
        go_wp2
        go_ret2
        exact ⟨_, rfl, by go_grown, res_one w (num0 n)⟩

set_option maxHeartbeats 1000000 in
theorem var_any (k : Int) (w : World) : Calls Try.prog 30 #[.int .i64 k] w (Gives w (varP k)) := by
  have hbn := run_build_num
  by_cases h0 : k < 0
  · have e : varP k = ([], 23) := by unfold varP; rw [if_pos (.inl h0)]
    rw [e]
    have h01 : decide (k < 0) = true := by simpa using h0
    go_enter Try.func30, Try.ntmps30
    go_wp2
    go_ret2
    exact ⟨_, rfl, Below.refl _ _, Res.nil _ _ _ _⟩
  · by_cases h6 : 6 ≤ k
    · have e : varP k = ([], 23) := by unfold varP; rw [if_pos (.inr h6)]
      rw [e]
      have h01 : decide (k < 0) = false := by simpa using h0
      have h61 : decide (6 ≤ k) = true := by simpa using h6
      go_enter Try.func30, Try.ntmps30
      go_wp2
      go_ret2
      exact ⟨_, rfl, Below.refl _ _, Res.nil _ _ _ _⟩
    · have hk : k = 0 ∨ k = 1 ∨ k = 2 ∨ k = 3 ∨ k = 4 ∨ k = 5 := by omega
      clear h0 h6
      rcases hk with rfl | rfl | rfl | rfl | rfl | rfl
      · go_enter Try.func30, Try.ntmps30
        go_wp2
        go_ret2
        have hg : ((w.alloc (.cells #[.int .i64 1, .int .u8 1, .int .u8 0, .int .u8 0, .int .u8 0, .int .u8 0, .int .u8 0] 39)).alloc (.cells #[.int .i64 1, .int .u8 1, .int .u8 0, .int .u8 0, .int .u8 0, .int .u8 0, .int .u8 0] 39)).heap[w.heap.size + 1]? = some (.cells #[.int .i64 1, .int .u8 1, .int .u8 0, .int .u8 0, .int .u8 0, .int .u8 0, .int .u8 0] 39) := by rw [← World.size_alloc]; exact heap_alloc_new _ _
        exact ⟨_, rfl, by go_grown, res_at (m := ⟨1, 1, 0, 0, 0, 0, 0⟩) hg (by omega)⟩
      · go_enter Try.func30, Try.ntmps30
        go_wp2
        go_ret2
        have hg : ((w.alloc (.cells #[.int .i64 1, .int .u8 0, .int .u8 1, .int .u8 0, .int .u8 0, .int .u8 0, .int .u8 0] 39)).alloc (.cells #[.int .i64 1, .int .u8 0, .int .u8 1, .int .u8 0, .int .u8 0, .int .u8 0, .int .u8 0] 39)).heap[w.heap.size + 1]? = some (.cells #[.int .i64 1, .int .u8 0, .int .u8 1, .int .u8 0, .int .u8 0, .int .u8 0, .int .u8 0] 39) := by rw [← World.size_alloc]; exact heap_alloc_new _ _
        exact ⟨_, rfl, by go_grown, res_at (m := ⟨1, 0, 1, 0, 0, 0, 0⟩) hg (by omega)⟩
      · go_enter Try.func30, Try.ntmps30
        go_wp2
        go_ret2
        have hg : ((w.alloc (.cells #[.int .i64 1, .int .u8 0, .int .u8 0, .int .u8 1, .int .u8 0, .int .u8 0, .int .u8 0] 39)).alloc (.cells #[.int .i64 1, .int .u8 0, .int .u8 0, .int .u8 1, .int .u8 0, .int .u8 0, .int .u8 0] 39)).heap[w.heap.size + 1]? = some (.cells #[.int .i64 1, .int .u8 0, .int .u8 0, .int .u8 1, .int .u8 0, .int .u8 0, .int .u8 0] 39) := by rw [← World.size_alloc]; exact heap_alloc_new _ _
        exact ⟨_, rfl, by go_grown, res_at (m := ⟨1, 0, 0, 1, 0, 0, 0⟩) hg (by omega)⟩
      · go_enter Try.func30, Try.ntmps30
        go_wp2
        go_ret2
        have hg : ((w.alloc (.cells #[.int .i64 1, .int .u8 0, .int .u8 0, .int .u8 0, .int .u8 1, .int .u8 0, .int .u8 0] 39)).alloc (.cells #[.int .i64 1, .int .u8 0, .int .u8 0, .int .u8 0, .int .u8 1, .int .u8 0, .int .u8 0] 39)).heap[w.heap.size + 1]? = some (.cells #[.int .i64 1, .int .u8 0, .int .u8 0, .int .u8 0, .int .u8 1, .int .u8 0, .int .u8 0] 39) := by rw [← World.size_alloc]; exact heap_alloc_new _ _
        exact ⟨_, rfl, by go_grown, res_at (m := ⟨1, 0, 0, 0, 1, 0, 0⟩) hg (by omega)⟩
      · go_enter Try.func30, Try.ntmps30
        go_wp2
        go_ret2
        have hg : ((w.alloc (.cells #[.int .i64 1, .int .u8 0, .int .u8 0, .int .u8 0, .int .u8 0, .int .u8 1, .int .u8 0] 39)).alloc (.cells #[.int .i64 1, .int .u8 0, .int .u8 0, .int .u8 0, .int .u8 0, .int .u8 1, .int .u8 0] 39)).heap[w.heap.size + 1]? = some (.cells #[.int .i64 1, .int .u8 0, .int .u8 0, .int .u8 0, .int .u8 0, .int .u8 1, .int .u8 0] 39) := by rw [← World.size_alloc]; exact heap_alloc_new _ _
        exact ⟨_, rfl, by go_grown, res_at (m := ⟨1, 0, 0, 0, 0, 1, 0⟩) hg (by omega)⟩
      · go_enter Try.func30, Try.ntmps30
        go_wp2
        go_ret2
        have hg : ((w.alloc (.cells #[.int .i64 1, .int .u8 0, .int .u8 0, .int .u8 0, .int .u8 0, .int .u8 0, .int .u8 1] 39)).alloc (.cells #[.int .i64 1, .int .u8 0, .int .u8 0, .int .u8 0, .int .u8 0, .int .u8 0, .int .u8 1] 39)).heap[w.heap.size + 1]? = some (.cells #[.int .i64 1, .int .u8 0, .int .u8 0, .int .u8 0, .int .u8 0, .int .u8 0, .int .u8 1] 39) := by rw [← World.size_alloc]; exact heap_alloc_new _ _
        exact ⟨_, rfl, by go_grown, res_at (m := ⟨1, 0, 0, 0, 0, 0, 1⟩) hg (by omega)⟩

set_option maxHeartbeats 1000000 in
theorem refVar_any (k : Int) (w : World) : Calls Try.prog 31 #[.int .i64 k] w (Gives w (varP k)) := by
  have hbn := run_build_num
  by_cases h0 : k < 0
  · have e : varP k = ([], 23) := by unfold varP; rw [if_pos (.inl h0)]
    rw [e]
    have h01 : decide (k < 0) = true := by simpa using h0
    go_enter Try.func31, Try.ntmps31
    go_wp2
    go_ret2
    exact ⟨_, rfl, Below.refl _ _, Res.nil _ _ _ _⟩
  · by_cases h6 : 6 ≤ k
    · have e : varP k = ([], 23) := by unfold varP; rw [if_pos (.inr h6)]
      rw [e]
      have h01 : decide (k < 0) = false := by simpa using h0
      have h61 : decide (6 ≤ k) = true := by simpa using h6
      go_enter Try.func31, Try.ntmps31
      go_wp2
      go_ret2
      exact ⟨_, rfl, Below.refl _ _, Res.nil _ _ _ _⟩
    · have hk : k = 0 ∨ k = 1 ∨ k = 2 ∨ k = 3 ∨ k = 4 ∨ k = 5 := by omega
      clear h0 h6
      rcases hk with rfl | rfl | rfl | rfl | rfl | rfl
      · go_enter Try.func31, Try.ntmps31
        go_wp2
        go_ret2
        have hg : ((w.alloc (.cells #[.int .i64 1, .int .u8 1, .int .u8 0, .int .u8 0, .int .u8 0, .int .u8 0, .int .u8 0] 39)).alloc (.cells #[.int .i64 1, .int .u8 1, .int .u8 0, .int .u8 0, .int .u8 0, .int .u8 0, .int .u8 0] 39)).heap[w.heap.size + 1]? = some (.cells #[.int .i64 1, .int .u8 1, .int .u8 0, .int .u8 0, .int .u8 0, .int .u8 0, .int .u8 0] 39) := by rw [← World.size_alloc]; exact heap_alloc_new _ _
        exact ⟨_, rfl, by go_grown, res_at (m := ⟨1, 1, 0, 0, 0, 0, 0⟩) hg (by omega)⟩
      · go_enter Try.func31, Try.ntmps31
        go_wp2
        go_ret2
        have hg : ((w.alloc (.cells #[.int .i64 1, .int .u8 0, .int .u8 1, .int .u8 0, .int .u8 0, .int .u8 0, .int .u8 0] 39)).alloc (.cells #[.int .i64 1, .int .u8 0, .int .u8 1, .int .u8 0, .int .u8 0, .int .u8 0, .int .u8 0] 39)).heap[w.heap.size + 1]? = some (.cells #[.int .i64 1, .int .u8 0, .int .u8 1, .int .u8 0, .int .u8 0, .int .u8 0, .int .u8 0] 39) := by rw [← World.size_alloc]; exact heap_alloc_new _ _
        exact ⟨_, rfl, by go_grown, res_at (m := ⟨1, 0, 1, 0, 0, 0, 0⟩) hg (by omega)⟩
      · go_enter Try.func31, Try.ntmps31
        go_wp2
        go_ret2
        have hg : ((w.alloc (.cells #[.int .i64 1, .int .u8 0, .int .u8 0, .int .u8 1, .int .u8 0, .int .u8 0, .int .u8 0] 39)).alloc (.cells #[.int .i64 1, .int .u8 0, .int .u8 0, .int .u8 1, .int .u8 0, .int .u8 0, .int .u8 0] 39)).heap[w.heap.size + 1]? = some (.cells #[.int .i64 1, .int .u8 0, .int .u8 0, .int .u8 1, .int .u8 0, .int .u8 0, .int .u8 0] 39) := by rw [← World.size_alloc]; exact heap_alloc_new _ _
        exact ⟨_, rfl, by go_grown, res_at (m := ⟨1, 0, 0, 1, 0, 0, 0⟩) hg (by omega)⟩
      · go_enter Try.func31, Try.ntmps31
        go_wp2
        go_ret2
        have hg : ((w.alloc (.cells #[.int .i64 1, .int .u8 0, .int .u8 0, .int .u8 0, .int .u8 1, .int .u8 0, .int .u8 0] 39)).alloc (.cells #[.int .i64 1, .int .u8 0, .int .u8 0, .int .u8 0, .int .u8 1, .int .u8 0, .int .u8 0] 39)).heap[w.heap.size + 1]? = some (.cells #[.int .i64 1, .int .u8 0, .int .u8 0, .int .u8 0, .int .u8 1, .int .u8 0, .int .u8 0] 39) := by rw [← World.size_alloc]; exact heap_alloc_new _ _
        exact ⟨_, rfl, by go_grown, res_at (m := ⟨1, 0, 0, 0, 1, 0, 0⟩) hg (by omega)⟩
      · go_enter Try.func31, Try.ntmps31
        go_wp2
        go_ret2
        have hg : ((w.alloc (.cells #[.int .i64 1, .int .u8 0, .int .u8 0, .int .u8 0, .int .u8 0, .int .u8 1, .int .u8 0] 39)).alloc (.cells #[.int .i64 1, .int .u8 0, .int .u8 0, .int .u8 0, .int .u8 0, .int .u8 1, .int .u8 0] 39)).heap[w.heap.size + 1]? = some (.cells #[.int .i64 1, .int .u8 0, .int .u8 0, .int .u8 0, .int .u8 0, .int .u8 1, .int .u8 0] 39) := by rw [← World.size_alloc]; exact heap_alloc_new _ _
        exact ⟨_, rfl, by go_grown, res_at (m := ⟨1, 0, 0, 0, 0, 1, 0⟩) hg (by omega)⟩
      · go_enter Try.func31, Try.ntmps31
        go_wp2
        go_ret2
        have hg : ((w.alloc (.cells #[.int .i64 1, .int .u8 0, .int .u8 0, .int .u8 0, .int .u8 0, .int .u8 0, .int .u8 1] 39)).alloc (.cells #[.int .i64 1, .int .u8 0, .int .u8 0, .int .u8 0, .int .u8 0, .int .u8 0, .int .u8 1] 39)).heap[w.heap.size + 1]? = some (.cells #[.int .i64 1, .int .u8 0, .int .u8 0, .int .u8 0, .int .u8 0, .int .u8 0, .int .u8 1] 39) := by rw [← World.size_alloc]; exact heap_alloc_new _ _
        exact ⟨_, rfl, by go_grown, res_at (m := ⟨1, 0, 0, 0, 0, 0, 1⟩) hg (by omega)⟩

set_option maxHeartbeats 400000 in
theorem at_any (n x y : Int) (w : World) : Calls Try.prog 32 #[.int .i64 n, .int .u8 x, .int .u8 y] w fun e w' => e = .returned (.agg #[.int .i64 n, .int .u8 x, .int .u8 y, .int .u8 0, .int .u8 0, .int .u8 0, .int .u8 0]) ∧ Below w.heap.size w w' := by
  have hbn := run_build_num
  go_enter Try.func32, Try.ntmps32
  go_wp2
  go_returns
  exact ⟨rfl, by go_grown⟩

set_option maxHeartbeats 400000 in
theorem add_any (A B : Option Addr) (c d : Nat) (p q : List Mono) (w : World) (ha : Monos w A p) (hb : Monos w B q) (hp : p.length ≤ 140737488355328) (hq : q.length ≤ 140737488355328) :
    Calls Try.prog 24 #[.slice A p.length c, .slice B q.length d] w (Gives w (bothP p q 1)) := by
  have H := Lib.hid (both_any A B c d p q 1 w ha hb hp hq)
  clear ha hb
  go_enter Try.func24, Try.ntmps24
  go_wp2_with fail
  refine H.out.mono ?_
  rintro e w1 ⟨v, rfl, hb1, hv⟩
  have HB := Lib.hid hb1
  have HV := Lib.hid hv
  clear hb1 hv
  go_wp2
  go_ret2
  exact ⟨_, rfl, HB.out, HV.out⟩

set_option maxHeartbeats 400000 in
theorem sub_any (A B : Option Addr) (c d : Nat) (p q : List Mono) (w : World) (ha : Monos w A p) (hb : Monos w B q) (hp : p.length ≤ 140737488355328) (hq : q.length ≤ 140737488355328) :
    Calls Try.prog 26 #[.slice A p.length c, .slice B q.length d] w (Gives w (bothP p q (-1))) := by
  have H := Lib.hid (both_any A B c d p q (-1) w ha hb hp hq)
  clear ha hb
  go_enter Try.func26, Try.ntmps26
  go_wp2_with fail
  refine H.out.mono ?_
  rintro e w1 ⟨v, rfl, hb1, hv⟩
  have HB := Lib.hid hb1
  have HV := Lib.hid hv
  clear hb1 hv
  go_wp2
  go_ret2
  exact ⟨_, rfl, HB.out, HV.out⟩

end Go.Proofs.Ytndjaogjkchpaaa
