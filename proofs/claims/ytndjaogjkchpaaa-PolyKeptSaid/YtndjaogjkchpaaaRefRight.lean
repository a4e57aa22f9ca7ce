/- Contract of windrowref02.Right: it tells whether monomials are a polynomial; nothing that was there is changed. -/
import Derived.Test.YtndjaogjkchpaaaAbove
import Derived.Test.YtndjaogjkchpaaaSmall
namespace Go.Proofs.Ytndjaogjkchpaaa
open Go.RowKit

theorem cmp_flip : ∀ (l m : List UInt8), (Lib.compareBytes l m = 1 ↔ Lib.compareBytes m l < 0) ∧ (Lib.compareBytes l m = 0 ↔ Lib.compareBytes m l = 0)
  | [], [] => by simp [Lib.compareBytes]
  | [], _ :: _ => by simp [Lib.compareBytes]
  | _ :: _, [] => by simp [Lib.compareBytes]
  | a :: l, b :: m => by
    have ih := cmp_flip l m
    rw [cmp_cons, cmp_cons]
    by_cases h1 : b.toNat < a.toNat
    · rw [if_pos h1, if_neg (by omega), if_pos h1]; simp
    · rw [if_neg h1]
      by_cases h2 : a.toNat < b.toNat
      · rw [if_pos h2, if_pos h2]; simp
      · rw [if_neg h2, if_neg h2, if_neg h1]; exact ih

theorem above_ord (a b : Mono) : above a b = 1 ↔ ord a b < 0 := (cmp_flip _ _).1

theorem small_not {m : Mono} (h : smallB m = false) : (m.n == 0) = true ∨ ((m.n == 0) = false ∧ decide (16777216 < m.n) = true) ∨ ((m.n == 0) = false ∧ decide (16777216 < m.n) = false ∧ decide (m.n < -16777216) = true) ∨
    ((m.n == 0) = false ∧ decide (16777216 < m.n) = false ∧ decide (m.n < -16777216) = false ∧ decide (8 < (m.deg : Int)) = true) := by
  have h' : ¬ (m.n ≠ 0 ∧ m.n ≤ 16777216 ∧ -16777216 ≤ m.n ∧ m.deg ≤ 8) := of_decide_eq_false h
  simp only [beq_iff_eq, beq_eq_false_iff_ne, decide_eq_true_eq, decide_eq_false_iff_not]
  omega
theorem small_all {m : Mono} (h : smallB m = true) : (m.n == 0) = false ∧ decide (16777216 < m.n) = false ∧ decide (m.n < -16777216) = false ∧ decide (8 < (m.deg : Int)) = false := by
  have h' : m.n ≠ 0 ∧ m.n ≤ 16777216 ∧ -16777216 ≤ m.n ∧ m.deg ≤ 8 := of_decide_eq_true h
  simp only [beq_eq_false_iff_ne, decide_eq_false_iff_not]
  omega
set_option maxRecDepth 100000 in
set_option maxHeartbeats 1000000 in
theorem refRight_any (A : Option Addr) (c : Nat) (xs : List Mono) (w : World) (ha : Monos w A xs) (hx : xs.length ≤ 140737488355328) :
    Calls Try.prog 21 #[.slice A xs.length c] w fun e w' => e = .returned (.bool (rightB xs)) ∧ Below w.heap.size w w' := by
  by_cases hl : xs.length ≤ 48
  · have hl1 : decide ((48 : Int) < (xs.length : Int)) = false := by simp; omega
    have Ha := Lib.hid ha
    clear ha
    go_enter Try.func21, Try.ntmps21
    go_wp2
    go_loopw [3] (fun i wr => ∃ k : Nat, k ≤ xs.length ∧ i = .int .i64 k ∧ Hid (rightB xs = rightFrom (if k = 0 then none else xs[k-1]?) (xs.drop k)) ∧ Below w.heap.size w wr) (fun i _ => xs.length - (intOf i).toNat)
    case atStart => exact ⟨0, Nat.zero_le _, rfl, by show _ = _; simp [rightB, hl], Below.refl _ _⟩
    case round =>
      obtain ⟨k, hk, rfl, hs, hbl⟩ := hrel
      by_cases hlt : k < xs.length
      · obtain ⟨m, hm, dm⟩ := drop_cons hlt
        obtain ⟨b, o, rfl, hB, c0, c1, c2, c3, c4, c5, c6⟩ := Ha.out.below hbl k m hm
        have HN := Lib.hid (show smallB m = false → rightB xs = false by intro hsb; rw [hs.out, dm]; split <;> (try cases xs[k-1]?) <;> simp [rightFrom, hsb])
        have HM := Lib.hid hm
        have HD := Lib.hid dm
        cases hsb : smallB m
        · have HN' := Lib.hid (HN.out hsb)
          have HBL := Lib.hid hbl
          clear dm hm hbl hB HN hs HM HD
          rcases small_not hsb with t0 | ⟨t0, t1⟩ | ⟨t0, t1, t2⟩ | ⟨t0, t1, t2, t3⟩
          all_goals go_wp2_with (go_at_call 42; refine (degree_any m _).mono ?_; rintro e w1 ⟨rfl, hb1⟩)
          all_goals go_ret
          all_goals refine ⟨ret_bool HN'.out.symm, ?_⟩
          all_goals first | exact HBL.out | exact HBL.out.trans (hb1.mono HBL.out.size)
        · obtain ⟨t0, t1, t2, t3⟩ := small_all hsb
          have HC := Lib.hid (Ha.out.below hbl k m hm)
          have HBL := Lib.hid hbl
          clear dm hm hbl hB HN
          go_wp2_with (go_at_call 42; refine (degree_any m _).mono ?_; rintro e w1 ⟨rfl, hb1⟩)
          clear c0 c1 c2 c3 c4 c5 c6 t0 t1 t2 t3
          have HB1 := Lib.hid (show Below w.heap.size w w1 from HBL.out.trans (hb1.mono HBL.out.size))
          clear hb1 HBL HC
          rcases Nat.eq_zero_or_pos k with hk0 | hk0
          · have hk1 : decide (0 < k) = false := by simp; omega
            have HS := Lib.hid (show rightB xs = rightFrom (if k + 1 = 0 then none else xs[k + 1 - 1]?) (xs.drop (k + 1)) by rw [hs.out, HD.out, if_pos hk0, if_neg (by omega), show k + 1 - 1 = k from rfl, HM.out]; simp [rightFrom, hsb])
            clear hs hk0 HM HD
            refine wp_region_later (by kernel_rfl) (by kernel_rfl) ?_
            repeat (go_big_quiet_step (fail))
            refine wpQuiet_nil ?_
            rintro _ ⟨x, rfl⟩
            go_wp2
            go_roundw
            case rel => exact ⟨k + 1, by omega, by go_num, HS, HB1.out.trans (x.h.mono HB1.out.size)⟩
            case measure => simp [intOf]; omega
          · have hk1 : decide (0 < k) = true := by simp; omega
            obtain ⟨j, rfl⟩ : ∃ j, k = j + 1 := ⟨k - 1, by omega⟩
            obtain ⟨q, hq⟩ : ∃ q, xs[j]? = some q := ⟨xs[j]'(by omega), List.getElem?_eq_getElem _⟩
            have HS := Lib.hid (show rightB xs = (decide (ord q m < 0) && rightFrom (some m) (xs.drop (j + 1 + 1))) by rw [hs.out, HD.out, if_neg (by omega), show j + 1 - 1 = j from rfl, hq]; simp [rightFrom, hsb])
            have p0 : MonoAt w1 b (o + j * 7) q ∧ MonoAt w1 b (o + (j + 1) * 7) m := by
              obtain ⟨b1, o1, e1, hB1, hm1⟩ := Ha.out.below HB1.out j q hq
              obtain ⟨b2, o2, e2, hB2, hm2⟩ := Ha.out.below HB1.out (j + 1) m HM.out
              injection e1 with e1
              injection e1 with e1 e1'
              injection e2 with e2
              injection e2 with e2 e2'
              subst e1 e1' e2 e2'
              exact ⟨hm1, hm2⟩
            obtain ⟨r0, r1, r2, r3, r4, r5, r6⟩ := p0.2.later
            obtain ⟨s0, s1, s2, s3, s4, s5, s6⟩ := p0.1.later
            clear hs hk0 hq p0
            have Hor := Lib.hid (Later.calls (W0 := w1) fun W _ => above_any q m W)
            refine wp_region_later (by kernel_rfl) (by kernel_rfl) ?_
            repeat (go_big_quiet_step ((go_at_call 43; exact Hor.out _)))
            refine wpQuiet_nil ?_
            rintro _ ⟨x, rfl⟩
            clear r0 r1 r2 r3 r4 r5 r6 s0 s1 s2 s3 s4 s5 s6 Hor
            have HBX := Lib.hid (show Below w.heap.size w x.w from HB1.out.trans (x.h.mono HB1.out.size))
            clear HB1
            by_cases ho : ord q m < 0
            · have ho1 : (above q m != 1) = false := by simp [(above_ord q m).2 ho]
              go_wp2
              go_roundw
              case rel => exact ⟨j + 1 + 1, by omega, by go_num, (by show _ = _; rw [HS.out, if_neg (by omega), show j + 1 + 1 - 1 = j + 1 from rfl, HM.out]; simp [ho]), HBX.out⟩
              case measure => simp [intOf]; omega
            · have ho1 : (above q m != 1) = true := by rw [bne_iff_ne]; intro h; exact ho ((above_ord q m).1 h)
              go_wp2
              go_ret
              exact ⟨ret_bool (by rw [HS.out, decide_eq_false (by omega), Bool.false_and]), HBX.out⟩
      · have hk' : k = xs.length := by omega
        go_wp2
        go_ret
        refine ⟨ret_bool ?_, hbl⟩
        rw [hs.out, List.drop_of_length_le (by omega)]
        split <;> (try cases xs[k-1]?) <;> simp [rightFrom]
  · have hl1 : decide ((48 : Int) < (xs.length : Int)) = true := by simp; omega
    go_enter Try.func21, Try.ntmps21
    go_wp2
    go_ret
    exact ⟨ret_bool (by simp [rightB, hl]), Below.refl _ _⟩

end Go.Proofs.Ytndjaogjkchpaaa
