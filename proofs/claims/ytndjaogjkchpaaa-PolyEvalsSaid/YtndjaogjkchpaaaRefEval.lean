/- Contracts of windrowref02.side, windrowref02.size, windrowref02.Eval: what each returns; nothing that was there is changed. -/
import Derived.Test.YtndjaogjkchpaaaEval
import Derived.Test.YtndjaogjkchpaaaRefRight
namespace Go.Proofs.Ytndjaogjkchpaaa
open Go.RowKit

set_option maxHeartbeats 400000 in
theorem side_any (B : Option Addr) (d : Nat) (ds : List Int) (k : Nat) (w : World) (hb : Ints w B ds) :
    Calls Try.prog 47 #[.slice B ds.length d, .int .i64 k] w fun e w' => e = .returned (.int .i64 (dimAt ds k)) ∧ w = w' := by
  by_cases hlt : k < ds.length
  · obtain ⟨x, hx⟩ : ∃ x, ds[k]? = some x := ⟨ds[k], List.getElem?_eq_getElem hlt⟩
    obtain ⟨b, o, rfl, _, hc⟩ := hb k x hx
    have HX := Lib.hid (show dimAt ds k = x by unfold dimAt; rw [List.getD_eq_getElem?_getD, hx]; rfl)
    clear hb hx
    go_enter Try.func47, Try.ntmps47
    go_wp2
    go_ret
    exact ⟨ret_int HX.out.symm, rfl⟩
  · have HX := Lib.hid (show dimAt ds k = 0 by unfold dimAt; rw [List.getD_eq_getElem?_getD, List.getElem?_eq_none (by omega)]; rfl)
    clear hb
    go_enter Try.func47, Try.ntmps47
    go_wp2
    go_ret
    exact ⟨ret_int HX.out.symm, rfl⟩

/-- a monomial's size; what is too great is one more than the largest value -/
def sizeP (m : Mono) (D : Nat → Int) : Int := if (valueP m D).2 then (valueP m D).1 else maxV + 1

theorem ex_cell {w : World} {b : Nat} {m : Mono} (h : MonoAt w b 0 m) (k : Nat) (hk : k < 6) : w.cell? ⟨b, 1 + k, none⟩ = some (.int .u8 ((m.ex k).toNat : Int)) := by
  obtain ⟨_, h1, h2, h3, h4, h5, h6⟩ := h.zero
  rcases k with _ | _ | _ | _ | _ | _ | k
  · exact h1
  · exact h2
  · exact h3
  · exact h4
  · exact h5
  · exact h6
  · omega

set_option maxRecDepth 100000 in
set_option maxHeartbeats 1000000 in
theorem size_any (B : Option Addr) (d : Nat) (ds : List Int) (m : Mono) (w : World) (hb : Ints w B ds) (hD : ∀ k, 0 ≤ dimAt ds k ∧ dimAt ds k ≤ 2147483648) (hn : -16777216 ≤ m.n ∧ m.n ≤ 16777216) :
    Calls Try.prog 37 #[.agg #[.int .i64 m.n, .int .u8 m.e0.toNat, .int .u8 m.e1.toNat, .int .u8 m.e2.toNat, .int .u8 m.e3.toNat, .int .u8 m.e4.toNat, .int .u8 m.e5.toNat], .slice B ds.length d] w fun e w' => e = .returned (.int .i64 (sizeP m (dimAt ds))) ∧ Below w.heap.size w w' := by
  have HD := Lib.hid hD
  obtain ⟨hn1, hn2⟩ := hn
  have Hb := Lib.hid hb
  clear hD hb
  go_enter Try.func37, Try.ntmps37
  go_wp2
  all_goals
    have q0 : MonoAt (w.alloc (.cells #[.int .i64 m.n, .int .u8 m.e0.toNat, .int .u8 m.e1.toNat, .int .u8 m.e2.toNat, .int .u8 m.e3.toNat, .int .u8 m.e4.toNat, .int .u8 m.e5.toNat] 39)) w.heap.size 0 m := by simp [MonoAt, go_sem]
    have q2 : Below w.heap.size w (w.alloc (.cells #[.int .i64 m.n, .int .u8 m.e0.toNat, .int .u8 m.e1.toNat, .int .u8 m.e2.toNat, .int .u8 m.e3.toNat, .int .u8 m.e4.toNat, .int .u8 m.e5.toNat] 39)) := by go_grown
    have Q0 := Lib.hid q0
    have Q2 := Lib.hid q2
    have Q3 := Lib.hid (Hb.out.below q2)
    clear q0 q2
    generalize (w.alloc (.cells #[.int .i64 m.n, .int .u8 m.e0.toNat, .int .u8 m.e1.toNat, .int .u8 m.e2.toNat, .int .u8 m.e3.toNat, .int .u8 m.e4.toNat, .int .u8 m.e5.toNat] 39)) = W0 at Q0 Q2 Q3 ⊢
    generalize w.heap.size = X at Q0 ⊢
    go_loop [6] (fun i => ∃ k : Nat, k ≤ 6 ∧ i = .int .i64 k ∧ Hid (zeroB (pairs m (dimAt ds)) = zeroB ((pairs m (dimAt ds)).drop k))) (fun i => 6 - (intOf i).toNat)
    case atStart => exact ⟨0, Nat.zero_le _, rfl, rfl⟩
    case round =>
      obtain ⟨k, hk, rfl, hz⟩ := hrel
      by_cases hlt : k < 6
      · have hc := ex_cell Q0.out k hlt
        have hp := pairs_at m (dimAt ds) k hlt
        have HZ := Lib.hid (show zeroB (pairs m (dimAt ds)) = ((decide (0 < (m.ex k).toNat) && dimAt ds k == 0) || zeroB ((pairs m (dimAt ds)).drop (k + 1))) by rw [hz.out, hp]; rfl)
        clear hp hz
        by_cases he : 0 < (m.ex k).toNat
        · have he1 : decide (0 < (m.ex k).toNat) = true := by simpa using he
          by_cases hd : dimAt ds k = 0
          · have hd1 : (dimAt ds k == 0) = true := by simpa using hd
            have HZ' := Lib.hid (show zeroB (pairs m (dimAt ds)) = true by rw [HZ.out, he1, hd1]; rfl)
            clear hd HZ
            go_wp2_with (go_at_call 47; refine (side_any B d ds k _ Q3.out).mono ?_; rintro e w' ⟨rfl, rfl⟩)
            go_ret
            exact ⟨ret_int (by unfold sizeP valueP; rw [HZ'.out]; rfl), Q2.out⟩
          · have hd1 : (dimAt ds k == 0) = false := by simpa using hd
            have HZ' := Lib.hid (show zeroB (pairs m (dimAt ds)) = zeroB ((pairs m (dimAt ds)).drop (k + 1)) by rw [HZ.out, hd1, Bool.and_false, Bool.false_or])
            clear hd HZ
            go_wp2_with (go_at_call 47; refine (side_any B d ds k _ Q3.out).mono ?_; rintro e w' ⟨rfl, rfl⟩)
            go_round
            case rel => exact ⟨k + 1, by omega, by go_num, HZ'⟩
            case measure => simp [intOf]; omega
        · have he1 : decide (0 < (m.ex k).toNat) = false := by simpa using he
          have HZ' := Lib.hid (show zeroB (pairs m (dimAt ds)) = zeroB ((pairs m (dimAt ds)).drop (k + 1)) by rw [HZ.out, he1, Bool.false_and, Bool.false_or])
          clear HZ
          go_wp2
          go_round
          case rel => exact ⟨k + 1, by omega, by go_num, HZ'⟩
          case measure => simp [intOf]; omega
      · have HZ := Lib.hid (show zeroB (pairs m (dimAt ds)) = false by rw [hz.out, List.drop_of_length_le (by simp [pairs]; omega)]; rfl)
        clear hz
        go_wp2
        go_loop [7, 5] (fun i n => ∃ (k : Nat) (x : Int), k ≤ 6 ∧ i = .int .i64 k ∧ n = .int .i64 x ∧ InV x ∧ Hid (mulD (pairs m (dimAt ds)) (max m.n (-m.n)) = mulD ((pairs m (dimAt ds)).drop k) x)) (fun i _ => 6 - (intOf i).toNat)
        case atStart => exact ⟨0, _, Nat.zero_le _, rfl, rfl, ⟨by omega, by unfold maxV; omega⟩, by show _ = _; rw [List.drop_zero]; congr 1; omega⟩
        case round =>
          obtain ⟨k2, x, hk2, rfl, rfl, hx, hmul⟩ := hrel
          have HX := Lib.hid hx
          clear hx
          by_cases hlt2 : k2 < 6
          · have hc := ex_cell Q0.out k2 hlt2
            have HM := Lib.hid (show mulD (pairs m (dimAt ds)) (max m.n (-m.n)) = (powD (dimAt ds k2) (m.ex k2).toNat x).bind (mulD ((pairs m (dimAt ds)).drop (k2 + 1))) by rw [hmul.out, pairs_at m (dimAt ds) k2 hlt2]; rfl)
            have hd := HD.out k2
            obtain ⟨hd0, hd1⟩ := hd
            have hu := (m.ex k2).toNat_lt
            have HNZ := Lib.hid (zero_not HZ.out k2 hlt2)
            have Hside := Lib.hid (fun W h => side_any B d ds k2 W h)
            clear hmul
            generalize m.ex k2 = ee at hc HM hu HNZ ⊢
            go_wp2
            go_loop [8, 5] (fun c n => ∃ (j : Nat) (y : Int), j ≤ ee.toNat ∧ c = .int .i64 j ∧ n = .int .i64 y ∧ InV y ∧ Hid (mulD (pairs m (dimAt ds)) (max m.n (-m.n)) = (powD (dimAt ds k2) (ee.toNat - j) y).bind (mulD ((pairs m (dimAt ds)).drop (k2 + 1))))) (fun c _ => ee.toNat - (intOf c).toNat)
            case atStart => exact ⟨0, x, Nat.zero_le _, rfl, rfl, HX.out, HM⟩
            case round =>
              obtain ⟨j, y, hj, rfl, rfl, hy, hpow⟩ := hrel
              have HY := Lib.hid hy
              clear hy
              by_cases hlt3 : j < ee.toNat
              · have hd2 : 1 ≤ dimAt ds k2 := by have := HNZ.out (by omega); omega
                have HP := Lib.hid (show (powD (dimAt ds k2) (ee.toNat - j) y) = if maxV / dimAt ds k2 < y then none else powD (dimAt ds k2) (ee.toNat - (j + 1)) (y * dimAt ds k2) by rw [show ee.toNat - j = (ee.toNat - (j + 1)) + 1 by omega, powD])
                by_cases hq : maxV / dimAt ds k2 < y
                · have hq1 : decide (4611686018427387904 / dimAt ds k2 < y) = true := by simpa [maxV] using hq
                  go_wp2_with (go_at_call 47; refine (Hside.out _ Q3.out).mono ?_; rintro e w' ⟨rfl, rfl⟩)
                  go_ret
                  have e : valueP m (dimAt ds) = (0, false) := by
                    unfold valueP
                    rw [HZ.out, hpow.out, HP.out, if_pos hq]
                    rfl
                  exact ⟨ret_int (by unfold sizeP; rw [e]; rfl), Q2.out⟩
                · have hq1 : decide (4611686018427387904 / dimAt ds k2 < y) = false := by simpa [maxV] using hq
                  have HY2 := Lib.hid (inV_mul HY.out hd2 hq)
                  have hw := wrap_inV HY2.out
                  have HP2 := Lib.hid (show mulD (pairs m (dimAt ds)) (max m.n (-m.n)) = (powD (dimAt ds k2) (ee.toNat - (j + 1)) (y * dimAt ds k2)).bind (mulD ((pairs m (dimAt ds)).drop (k2 + 1))) by rw [hpow.out, HP.out, if_neg hq])
                  clear HP hpow
                  go_wp2_with (go_at_call 47; refine (Hside.out _ Q3.out).mono ?_; rintro e w' ⟨rfl, rfl⟩)
                  go_round
                  case rel => exact ⟨j + 1, y * dimAt ds k2, by omega, by go_num, by first | rfl | rw [hw], HY2.out, HP2⟩
                  case measure => simp [intOf]; omega
              · have HP := Lib.hid (show mulD (pairs m (dimAt ds)) (max m.n (-m.n)) = mulD ((pairs m (dimAt ds)).drop (k2 + 1)) y by rw [hpow.out, show ee.toNat - j = 0 by omega]; rfl)
                clear hpow
                go_wp2
                go_round
                case rel => exact ⟨k2 + 1, y, by omega, by go_num, rfl, HY.out, HP⟩
                case measure => simp [intOf]; omega
          · have e : valueP m (dimAt ds) = (x, true) := by
              unfold valueP
              rw [HZ.out, hmul.out, List.drop_of_length_le (by simp [pairs]; omega)]
              rfl
            have He := Lib.hid e
            clear e hmul
            go_wp2
            go_ret
            exact ⟨ret_int (by unfold sizeP; rw [He.out]; rfl), Q2.out⟩

theorem size_bd (m : Mono) (D : Nat → Int) (hD : ∀ k, 0 ≤ D k) : 0 ≤ sizeP m D := by
  unfold sizeP
  split
  · exact value_nonneg m D hD
  · unfold maxV; omega

theorem size_cond {m : Mono} {D : Nat → Int} {size : Int} (h0 : 0 ≤ size) : ((valueP m D).2 = false ∨ maxV - size < (valueP m D).1) ↔ maxV - size < sizeP m D := by
  unfold sizeP
  cases (valueP m D).2
  · simp; omega
  · simp

theorem size_ok {m : Mono} {D : Nat → Int} {size : Int} (h0 : 0 ≤ size) (h : ¬ maxV - size < sizeP m D) : (valueP m D).1 = sizeP m D := by
  unfold sizeP at *
  cases hv : (valueP m D).2
  · rw [hv] at h; simp at h; omega
  · simp

set_option maxRecDepth 100000 in
set_option maxHeartbeats 1000000 in
theorem refEval_any (A B : Option Addr) (c d : Nat) (p : List Mono) (ds : List Int) (w : World) (ha : Monos w A p) (hb : Ints w B ds) (hp : p.length ≤ 140737488355328) (hq : ds.length ≤ 140737488355328) :
    Calls Try.prog 17 #[.slice A p.length c, .slice B ds.length d] w fun e w' => e = .returned (.tuple #[.int .i64 (evalP p ds).1, .int .i64 (evalP p ds).2]) ∧ Below w.heap.size w w' := by
  have Ha := Lib.hid ha
  have Hb := Lib.hid hb
  clear ha hb
  cases hrp : rightB p
  · have e : evalP p ds = (0, 20) := by unfold evalP; rw [hrp]; rfl
    rw [e]
    go_enter Try.func17, Try.ntmps17
    go_wp2_with fail
    refine (refRight_any A c p _ Ha.out hp).mono ?_
    rintro e w1 ⟨rfl, hb1⟩
    go_wp2
    go_ret2
    exact ⟨rfl, hb1⟩
  · by_cases h6 : ds.length ≤ 6
    · have h61 : decide ((6 : Int) < (ds.length : Int)) = false := by simp; omega
      go_enter Try.func17, Try.ntmps17
      go_wp2_with fail
      refine (refRight_any A c p _ Ha.out hp).mono ?_
      rintro e w1 ⟨rfl, hb1⟩
      have H1 := Lib.hid hb1
      clear hb1
      go_wp2
      go_loop [6] (fun i => ∃ k : Nat, k ≤ ds.length ∧ i = .int .i64 k ∧ Hid (ds.all sideOk = (ds.drop k).all sideOk)) (fun i => ds.length - (intOf i).toNat)
      case atStart => exact ⟨0, Nat.zero_le _, rfl, rfl⟩
      case round =>
        obtain ⟨k, hk, rfl, hall⟩ := hrel
        by_cases hlt : k < ds.length
        · obtain ⟨x, hx⟩ : ∃ x, ds[k]? = some x := ⟨ds[k], List.getElem?_eq_getElem hlt⟩
          have dm : ds.drop k = x :: ds.drop (k + 1) := by
            rw [List.drop_eq_getElem_cons hlt]
            have := (List.getElem?_eq_some_iff.1 hx).2
            rw [this]
          obtain ⟨b, o, rfl, hB, c0⟩ := Hb.out.below H1.out k x hx
          have HAll := Lib.hid (show ds.all sideOk = (sideOk x && (ds.drop (k + 1)).all sideOk) by rw [hall.out, dm, List.all_cons])
          clear dm hx hall hB
          cases hs : sideOk x
          · have e : evalP p ds = (0, 23) := by
              unfold evalP
              rw [hrp, show dimsB ds = false by unfold dimsB; rw [HAll.out, hs]; simp]
              rfl
            have He := Lib.hid e
            clear e
            have hs' : x < 0 ∨ 2147483648 < x := by
              have := of_decide_eq_false hs
              omega
            rcases Int.lt_or_le x 0 with hx0 | hx0
            · have t1 : decide (x < 0) = true := by simpa using hx0
              go_wp2
              go_ret2
              rw [He.out]
              exact ⟨rfl, H1.out⟩
            · have t1 : decide (x < 0) = false := by simpa using hx0
              have t2 : decide (2147483648 < x) = true := by simp; omega
              go_wp2
              go_ret2
              rw [He.out]
              exact ⟨rfl, H1.out⟩
          · have hs' : 0 ≤ x ∧ x ≤ 2147483648 := of_decide_eq_true hs
            have t1 : decide (x < 0) = false := by simp; omega
            have t2 : decide (2147483648 < x) = false := by simp; omega
            have HA2 := Lib.hid (show ds.all sideOk = (ds.drop (k + 1)).all sideOk by rw [HAll.out, hs, Bool.true_and])
            clear HAll hs'
            go_wp2
            go_round
            case rel => exact ⟨k + 1, by omega, by go_num, HA2⟩
            case measure => simp [intOf]; omega
        · have hall1 : ds.all sideOk = true := by rw [hall.out, List.drop_of_length_le (by omega)]; rfl
          have HD := Lib.hid (dimAt_ok hall1)
          have He := Lib.hid (show evalP p ds = match evalL (dimAt ds) p 0 0 with | some n => (n, 0) | none => (0, 22) by
            unfold evalP
            rw [hrp, show dimsB ds = true by unfold dimsB; rw [hall1, decide_eq_true (by omega)]; rfl]
            rfl)
          have HRP := Lib.hid (show ∀ m ∈ p, smallB m = true by
            unfold rightB at hrp
            simp only [Bool.and_eq_true] at hrp
            exact right_small hrp.2)
          clear hall hall1
          go_wp2
          go_loopw [9, 7, 8] (fun i lf sm wi => ∃ (j : Nat) (size sum : Int), j ≤ p.length ∧ i = .int .i64 j ∧ lf = .int .i64 (4611686018427387904 - size) ∧ sm = .int .i64 sum ∧ Hid (0 ≤ size ∧ size ≤ maxV ∧ -size ≤ sum ∧ sum ≤ size) ∧ Hid (evalL (dimAt ds) p 0 0 = evalL (dimAt ds) (p.drop j) size sum) ∧ Below w.heap.size w wi) (fun i _ _ _ => p.length - (intOf i).toNat)
          case atStart => exact ⟨0, 0, 0, Nat.zero_le _, rfl, rfl, rfl, ⟨by omega, by unfold maxV; omega, by omega, by omega⟩, rfl, H1.out⟩
          case round =>
            obtain ⟨j, size, sum, hj, rfl, rfl, rfl, hbd, hev, hbl⟩ := hrel
            have HB2 := Lib.hid hbl
            clear hbl
            by_cases hlt2 : j < p.length
            · obtain ⟨m, hm, dm⟩ := drop_cons hlt2
              obtain ⟨b, o, rfl, hB, c0, c1, c2, c3, c4, c5, c6⟩ := Ha.out.below HB2.out j m hm
              have hsm : smallB m = true := HRP.out m (List.mem_of_getElem? hm)
              have hsm' : m.n ≠ 0 ∧ m.n ≤ 16777216 ∧ -16777216 ≤ m.n ∧ m.deg ≤ 8 := of_decide_eq_true hsm
              have HV := Lib.hid (size_bd m (dimAt ds) (fun k => (HD.out k).1))
              obtain ⟨g0, g1, g2, g3⟩ := hbd.out
              have HE := Lib.hid (show evalL (dimAt ds) p 0 0 = if maxV - size < sizeP m (dimAt ds) then none
                  else evalL (dimAt ds) (p.drop (j + 1)) (size + sizeP m (dimAt ds)) (if m.n < 0 then sum - sizeP m (dimAt ds) else sum + sizeP m (dimAt ds)) by
                rw [hev.out, dm, evalL]
                by_cases hq : maxV - size < sizeP m (dimAt ds)
                · rw [if_pos hq, if_pos ((size_cond g0).2 hq)]
                · rw [if_neg hq, if_neg (fun h => hq ((size_cond g0).1 h)), size_ok g0 hq])
              have Hval := Lib.hid (fun W (h : Ints W B ds) => size_any B d ds m W h HD.out ⟨hsm'.2.2.1, hsm'.2.1⟩)
              have HM := Lib.hid hm
              clear hm dm hB hsm hsm' hev
              go_wp2_with fail
              refine (Hval.out _ (Hb.out.below HB2.out)).mono ?_
              rintro e w5 ⟨rfl, hb5⟩
              have HB5 := Lib.hid (HB2.out.trans (hb5.mono HB2.out.size))
              obtain ⟨b2, o2, hA2, hB2, k0, _⟩ := Ha.out.below HB5.out j m HM.out
              injection hA2 with hA2
              injection hA2 with hA2 hA3
              subst hA2 hA3
              clear hb5 c0 c1 c2 c3 c4 c5 c6 Hval HB2 hB2 HM
              generalize sizeP m (dimAt ds) = n at HV HE ⊢
              have gn : 0 ≤ n := HV.out
              unfold maxV at g1
              by_cases hq : maxV - size < n
              · have hq1 : decide (4611686018427387904 - size < n) = true := by simpa [maxV] using hq
                have e : evalP p ds = (0, 22) := by rw [He.out, HE.out, if_pos hq]
                have He2 := Lib.hid e
                clear e HE hq
                go_wp2
                go_ret2
                rw [He2.out]
                exact ⟨rfl, HB5.out⟩
              · have hq1 : decide (4611686018427387904 - size < n) = false := by simpa [maxV] using hq
                have hq2 : size + n ≤ 4611686018427387904 := by unfold maxV at hq; omega
                by_cases hneg : m.n < 0
                · have HE2 := Lib.hid (show evalL (dimAt ds) p 0 0 = evalL (dimAt ds) (p.drop (j + 1)) (size + n) (sum - n) by rw [HE.out, if_neg hq, if_pos hneg])
                  have hneg1 : decide (m.n < 0) = true := by simpa using hneg
                  clear HE hq
                  go_wp2
                  go_roundw
                  case rel => exact ⟨j + 1, size + n, sum - n, by omega, by go_num, by go_num, by go_num, ⟨by omega, by unfold maxV; omega, by omega, by omega⟩, HE2, HB5.out⟩
                  case measure => simp [intOf]; omega
                · have HE2 := Lib.hid (show evalL (dimAt ds) p 0 0 = evalL (dimAt ds) (p.drop (j + 1)) (size + n) (sum + n) by rw [HE.out, if_neg hq, if_neg hneg])
                  have hneg1 : decide (m.n < 0) = false := by simpa using hneg
                  clear HE hq
                  go_wp2
                  go_roundw
                  case rel => exact ⟨j + 1, size + n, sum + n, by omega, by go_num, by go_num, by go_num, ⟨by omega, by unfold maxV; omega, by omega, by omega⟩, HE2, HB5.out⟩
                  case measure => simp [intOf]; omega
            · have e : evalP p ds = (sum, 0) := by rw [He.out, hev.out, List.drop_of_length_le (by omega), evalL]
              have He2 := Lib.hid e
              clear e hev
              go_wp2
              go_ret2
              rw [He2.out]
              exact ⟨rfl, HB2.out⟩
    · have h61 : decide ((6 : Int) < (ds.length : Int)) = true := by simp; omega
      have e : evalP p ds = (0, 23) := by
        unfold evalP
        rw [hrp, show dimsB ds = false by unfold dimsB; rw [decide_eq_false h6]; rfl]
        rfl
      rw [e]
      go_enter Try.func17, Try.ntmps17
      go_wp2_with fail
      refine (refRight_any A c p _ Ha.out hp).mono ?_
      rintro e w1 ⟨rfl, hb1⟩
      go_wp2
      go_ret2
      exact ⟨rfl, hb1⟩

end Go.Proofs.Ytndjaogjkchpaaa
