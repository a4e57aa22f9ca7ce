/- Contract of poly.value: a monomial's size where the variables are these, or that it is too great; nothing that was there is changed. -/
import Derived.Test.YtndjaogjkchpaaaPlain
import Derived.Test.YtndjaogjkchpaaaRows
namespace Go.Proofs.Ytndjaogjkchpaaa
open Go.RowKit

def Mono.ex (m : Mono) (k : Nat) : UInt8 := m.E.getD k 0

/-- exponents and variables side by side -/
def pairs (m : Mono) (D : Nat → Int) : List (UInt8 × Int) := [(m.e0, D 0), (m.e1, D 1), (m.e2, D 2), (m.e3, D 3), (m.e4, D 4), (m.e5, D 5)]

theorem pairs_at (m : Mono) (D : Nat → Int) : ∀ k, k < 6 → (pairs m D).drop k = (m.ex k, D k) :: (pairs m D).drop (k + 1)
  | 0, _ => rfl
  | 1, _ => rfl
  | 2, _ => rfl
  | 3, _ => rfl
  | 4, _ => rfl
  | 5, _ => rfl
  | k + 6, h => absurd h (by omega)

/-- does a variable of no extent stand to a power? -/
def zeroB (l : List (UInt8 × Int)) : Bool := l.any fun x => decide (0 < x.1.toNat) && x.2 == 0

/-- the largest value -/
def maxV : Int := 4611686018427387904

def powD (d : Int) : Nat → Int → Option Int
  | 0, n => some n
  | e + 1, n => if maxV / d < n then none else powD d e (n * d)

def mulD : List (UInt8 × Int) → Int → Option Int
  | [], n => some n
  | x :: l, n => (powD x.2 x.1.toNat n).bind (mulD l)

/-- a monomial's size: a number, and whether it is not too great -/
def valueP (m : Mono) (D : Nat → Int) : Int × Bool :=
  if zeroB (pairs m D) then (0, true) else match mulD (pairs m D) (max m.n (-m.n)) with
  | some n => (n, true)
  | none => (0, false)

theorem index_E (m : Mono) (k : Nat) (hk : k < 6) (w : World) : (Instr.index 37 (.agg #[.int .u8 m.e0.toNat, .int .u8 m.e1.toNat, .int .u8 m.e2.toNat, .int .u8 m.e3.toNat, .int .u8 m.e4.toNat, .int .u8 m.e5.toNat]) (.int .i64 (k : Int))).run Try.prog w = .ok (.int .u8 ((m.ex k).toNat : Int)) w := by
  rcases k with _ | _ | _ | _ | _ | _ | k
  · kernel_rfl
  · kernel_rfl
  · kernel_rfl
  · kernel_rfl
  · kernel_rfl
  · kernel_rfl
  · omega

theorem zero_not {m : Mono} {D : Nat → Int} (h : zeroB (pairs m D) = false) : ∀ k, k < 6 → 0 < (m.ex k).toNat → D k ≠ 0 := by
  intro k hk he hd
  have h1 : (m.ex k, D k) ∈ pairs m D := by
    have := pairs_at m D k hk
    exact List.mem_of_mem_drop (i := k) (by rw [this]; simp)
  have h2 : zeroB (pairs m D) = true := List.any_eq_true.2 ⟨_, h1, by simp [he, hd]⟩
  rw [h2] at h
  cases h

/-- a number that a value may come to -/
def InV (x : Int) : Prop := 0 ≤ x ∧ x ≤ maxV

theorem inV_mul {x d : Int} (hx : InV x) (hd : 1 ≤ d) (h : ¬ maxV / d < x) : InV (x * d) := by
  obtain ⟨h0, _⟩ := hx
  refine ⟨Int.mul_nonneg h0 (by omega), ?_⟩
  have h1 : x ≤ maxV / d := by omega
  exact Int.le_trans (Int.mul_le_mul_of_nonneg_right h1 (by omega)) (Int.ediv_mul_le maxV (by omega))

theorem wrap_inV {x : Int} (h : InV x) : wrap64 x = x := by
  obtain ⟨h0, h1⟩ := h
  unfold maxV at h1
  exact IntWalk.wrap64_in x ⟨by omega, by omega⟩

/-- six numbers lie at a block's head -/
def SixAt (w : World) (b : Nat) (D : Nat → Int) : Prop := ∀ k, k < 6 → w.cell? ⟨b, k, none⟩ = some (.int .i64 (D k))

set_option maxRecDepth 100000 in
set_option maxHeartbeats 1000000 in
theorem value_any (m : Mono) (D : Nat → Int) (w : World) (hD : ∀ k, 0 ≤ D k ∧ D k ≤ 2147483648) (hn : -16777216 ≤ m.n ∧ m.n ≤ 16777216) :
    Calls Try.prog 36 #[.agg #[.int .i64 m.n, .int .u8 m.e0.toNat, .int .u8 m.e1.toNat, .int .u8 m.e2.toNat, .int .u8 m.e3.toNat, .int .u8 m.e4.toNat, .int .u8 m.e5.toNat], .agg #[.int .i64 (D 0), .int .i64 (D 1), .int .i64 (D 2), .int .i64 (D 3), .int .i64 (D 4), .int .i64 (D 5)]] w fun e w' => e = .returned (.tuple #[.int .i64 (valueP m D).1, .bool (valueP m D).2]) ∧ Below w.heap.size w w' := by
  have HD := Lib.hid hD
  obtain ⟨hn1, hn2⟩ := hn
  clear hD
  go_enter Try.func36, Try.ntmps36
  go_wp2
  all_goals
    have q0 : MonoAt ((w.alloc (.cells #[.int .i64 m.n, .int .u8 m.e0.toNat, .int .u8 m.e1.toNat, .int .u8 m.e2.toNat, .int .u8 m.e3.toNat, .int .u8 m.e4.toNat, .int .u8 m.e5.toNat] 39)).alloc (.cells #[.int .i64 (D 0), .int .i64 (D 1), .int .i64 (D 2), .int .i64 (D 3), .int .i64 (D 4), .int .i64 (D 5)] 50)) w.heap.size 0 m := by simp [MonoAt, go_sem]
    have q1 : SixAt ((w.alloc (.cells #[.int .i64 m.n, .int .u8 m.e0.toNat, .int .u8 m.e1.toNat, .int .u8 m.e2.toNat, .int .u8 m.e3.toNat, .int .u8 m.e4.toNat, .int .u8 m.e5.toNat] 39)).alloc (.cells #[.int .i64 (D 0), .int .i64 (D 1), .int .i64 (D 2), .int .i64 (D 3), .int .i64 (D 4), .int .i64 (D 5)] 50)) (w.heap.size + 1) D := by
      intro k hk
      rcases k with _ | _ | _ | _ | _ | _ | k
      all_goals first | omega | simp [go_sem]
    have q2 : Below w.heap.size w ((w.alloc (.cells #[.int .i64 m.n, .int .u8 m.e0.toNat, .int .u8 m.e1.toNat, .int .u8 m.e2.toNat, .int .u8 m.e3.toNat, .int .u8 m.e4.toNat, .int .u8 m.e5.toNat] 39)).alloc (.cells #[.int .i64 (D 0), .int .i64 (D 1), .int .i64 (D 2), .int .i64 (D 3), .int .i64 (D 4), .int .i64 (D 5)] 50)) := by go_grown
    have Q0 := Lib.hid q0
    have Q1 := Lib.hid q1
    have Q2 := Lib.hid q2
    clear q0 q1 q2
    generalize ((w.alloc (.cells #[.int .i64 m.n, .int .u8 m.e0.toNat, .int .u8 m.e1.toNat, .int .u8 m.e2.toNat, .int .u8 m.e3.toNat, .int .u8 m.e4.toNat, .int .u8 m.e5.toNat] 39)).alloc (.cells #[.int .i64 (D 0), .int .i64 (D 1), .int .i64 (D 2), .int .i64 (D 3), .int .i64 (D 4), .int .i64 (D 5)] 50)) = W0 at Q0 Q1 Q2 ⊢
    generalize w.heap.size = X at Q0 Q1 ⊢
    go_loop [19] (fun i => ∃ k : Nat, k ≤ 6 ∧ i = .int .i64 k ∧ Hid (zeroB (pairs m D) = zeroB ((pairs m D).drop k))) (fun i => 6 - (intOf i).toNat)
    case atStart => exact ⟨0, Nat.zero_le _, rfl, rfl⟩
    case round =>
      obtain ⟨k, hk, rfl, hz⟩ := hrel
      by_cases hlt : k < 6
      · have hidx := index_E m k hlt
        have hc : W0.cell? ⟨X + 1, k, none⟩ = some (.int .i64 (D k)) := Q1.out k hlt
        have hp := pairs_at m D k hlt
        have HZ := Lib.hid (show zeroB (pairs m D) = ((decide (0 < (m.ex k).toNat) && D k == 0) || zeroB ((pairs m D).drop (k + 1))) by rw [hz.out, hp]; rfl)
        clear hp hz
        by_cases he : 0 < (m.ex k).toNat
        · have he1 : decide (0 < (m.ex k).toNat) = true := by simpa using he
          by_cases hd : D k = 0
          · have hd1 : (D k == 0) = true := by simpa using hd
            have Hd := Lib.hid hd
            have HZ' := Lib.hid (show zeroB (pairs m D) = true by rw [HZ.out, he1, hd1]; rfl)
            clear hd HZ
            go_wp2
            go_ret2
            have e : valueP m D = (0, true) := by unfold valueP; rw [HZ'.out]; rfl
            rw [e]
            exact ⟨rfl, Q2.out⟩
          · have hd1 : (D k == 0) = false := by simpa using hd
            have HZ' := Lib.hid (show zeroB (pairs m D) = zeroB ((pairs m D).drop (k + 1)) by rw [HZ.out, hd1, Bool.and_false, Bool.false_or])
            clear hd HZ
            go_wp2
            go_round
            case rel => exact ⟨k + 1, by omega, by go_num, HZ'⟩
            case measure => simp [intOf]; omega
        · have he1 : decide (0 < (m.ex k).toNat) = false := by simpa using he
          have HZ' := Lib.hid (show zeroB (pairs m D) = zeroB ((pairs m D).drop (k + 1)) by rw [HZ.out, he1, Bool.false_and, Bool.false_or])
          clear HZ
          go_wp2
          go_round
          case rel => exact ⟨k + 1, by omega, by go_num, HZ'⟩
          case measure => simp [intOf]; omega
      · have HZ := Lib.hid (show zeroB (pairs m D) = false by rw [hz.out, List.drop_of_length_le (by simp [pairs]; omega)]; rfl)
        obtain ⟨q0, q1, q2, q3, q4, q5, q6⟩ := Q0.out.zero
        clear hz
        go_wp2
        clear q0 q1 q2 q3 q4 q5 q6
        go_loop [34, 6] (fun i n => ∃ (k : Nat) (x : Int), k ≤ 6 ∧ i = .int .i64 k ∧ n = .int .i64 x ∧ InV x ∧ Hid (mulD (pairs m D) (max m.n (-m.n)) = mulD ((pairs m D).drop k) x)) (fun i _ => 6 - (intOf i).toNat)
        case atStart => exact ⟨0, _, Nat.zero_le _, rfl, rfl, ⟨by omega, by unfold maxV; omega⟩, by show _ = _; rw [List.drop_zero]; congr 1; omega⟩
        case round =>
          obtain ⟨k2, x, hk2, rfl, rfl, hx, hmul⟩ := hrel
          have HX := Lib.hid hx
          clear hx
          by_cases hlt2 : k2 < 6
          · have hidx := index_E m k2 hlt2
            have hc : W0.cell? ⟨X + 1, k2, none⟩ = some (.int .i64 (D k2)) := Q1.out k2 hlt2
            have HM := Lib.hid (show mulD (pairs m D) (max m.n (-m.n)) = (powD (D k2) (m.ex k2).toNat x).bind (mulD ((pairs m D).drop (k2 + 1))) by rw [hmul.out, pairs_at m D k2 hlt2]; rfl)
            have hd := HD.out k2
            obtain ⟨hd0, hd1⟩ := hd
            have hu := (m.ex k2).toNat_lt
            have HNZ := Lib.hid (zero_not HZ.out k2 hlt2)
            clear hmul
            generalize m.ex k2 = ee at hidx HM hu HNZ ⊢
            go_wp2
            go_loop [39, 6] (fun c n => ∃ (j : Nat) (y : Int), j ≤ ee.toNat ∧ c = .int .u8 j ∧ n = .int .i64 y ∧ InV y ∧ Hid (mulD (pairs m D) (max m.n (-m.n)) = (powD (D k2) (ee.toNat - j) y).bind (mulD ((pairs m D).drop (k2 + 1))))) (fun c _ => ee.toNat - (intOf c).toNat)
            case atStart => exact ⟨0, x, Nat.zero_le _, rfl, rfl, HX.out, HM⟩
            case round =>
              obtain ⟨j, y, hj, rfl, rfl, hy, hpow⟩ := hrel
              have HY := Lib.hid hy
              clear hy
              by_cases hlt3 : j < ee.toNat
              · have hd2 : 1 ≤ D k2 := by have := HNZ.out (by omega); omega
                have HP := Lib.hid (show (powD (D k2) (ee.toNat - j) y) = if maxV / D k2 < y then none else powD (D k2) (ee.toNat - (j + 1)) (y * D k2) by rw [show ee.toNat - j = (ee.toNat - (j + 1)) + 1 by omega, powD])
                by_cases hq : maxV / D k2 < y
                · have hq1 : decide (4611686018427387904 / D k2 < y) = true := by simpa [maxV] using hq
                  go_wp2
                  go_ret2
                  have e : valueP m D = (0, false) := by
                    unfold valueP
                    rw [HZ.out, hpow.out, HP.out, if_pos hq]
                    rfl
                  rw [e]
                  exact ⟨rfl, Q2.out⟩
                · have hq1 : decide (4611686018427387904 / D k2 < y) = false := by simpa [maxV] using hq
                  have HY2 := Lib.hid (inV_mul HY.out hd2 hq)
                  have hw := wrap_inV HY2.out
                  have HP2 := Lib.hid (show mulD (pairs m D) (max m.n (-m.n)) = (powD (D k2) (ee.toNat - (j + 1)) (y * D k2)).bind (mulD ((pairs m D).drop (k2 + 1))) by rw [hpow.out, HP.out, if_neg hq])
                  clear HP hpow
                  go_wp2
                  go_round
                  case rel => exact ⟨j + 1, y * D k2, by omega, by go_num, by rw [hw], HY2.out, HP2⟩
                  case measure => simp [intOf]; omega
              · have HP := Lib.hid (show mulD (pairs m D) (max m.n (-m.n)) = mulD ((pairs m D).drop (k2 + 1)) y by rw [hpow.out, show ee.toNat - j = 0 by omega]; rfl)
                clear hpow
                go_wp2
                go_round
                case rel => exact ⟨k2 + 1, y, by omega, by go_num, rfl, HY.out, HP⟩
                case measure => simp [intOf]; omega
          · have e : valueP m D = (x, true) := by
              unfold valueP
              rw [HZ.out, hmul.out, List.drop_of_length_le (by simp [pairs]; omega)]
              rfl
            have He := Lib.hid e
            clear e hmul
            go_wp2
            go_ret2
            rw [He.out]
            exact ⟨rfl, Q2.out⟩

end Go.Proofs.Ytndjaogjkchpaaa
