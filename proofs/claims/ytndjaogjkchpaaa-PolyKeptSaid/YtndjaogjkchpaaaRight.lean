/- Contract of poly.Right: it tells whether monomials are a polynomial; nothing that was there is changed. -/
import Derived.Test.YtndjaogjkchpaaaOrder
import Derived.Test.YtndjaogjkchpaaaSmall
namespace Go.Proofs.Ytndjaogjkchpaaa
open Go.RowKit

theorem order_below (a b : Mono) (w : World) :
    Calls Try.prog 39 #[.agg #[.int .i64 a.n, .int .u8 a.e0.toNat, .int .u8 a.e1.toNat, .int .u8 a.e2.toNat, .int .u8 a.e3.toNat, .int .u8 a.e4.toNat, .int .u8 a.e5.toNat], .agg #[.int .i64 b.n, .int .u8 b.e0.toNat, .int .u8 b.e1.toNat, .int .u8 b.e2.toNat, .int .u8 b.e3.toNat, .int .u8 b.e4.toNat, .int .u8 b.e5.toNat]] w fun e w' => e = .returned (.int .i64 (ord a b)) ∧ Below w.heap.size w w' :=
  (order_any a b w).mono fun e w' ⟨he, q, o1, o2, hw⟩ => ⟨he, by rw [hw]; exact below_drewN (((Below.refl _ _).alloc (Nat.le_refl _) _).alloc (by simp) _) _⟩

set_option maxRecDepth 100000 in
set_option maxHeartbeats 1000000 in
theorem right_any (A : Option Addr) (c : Nat) (xs : List Mono) (w : World) (ha : Monos w A xs) (hx : xs.length ≤ 140737488355328) :
    Calls Try.prog 18 #[.slice A xs.length c] w fun e w' => e = .returned (.bool (rightB xs)) ∧ Below w.heap.size w w' := by
  by_cases hl : xs.length ≤ 48
  · have hl1 : decide ((48 : Int) < (xs.length : Int)) = false := by simp; omega
    have Ha := Lib.hid ha
    clear ha
    go_enter Try.func18, Try.ntmps18
    go_wp2
    go_loopw [10] (fun i wr => ∃ k : Nat, k ≤ xs.length ∧ i = .int .i64 k ∧ Hid (rightB xs = rightFrom (if k = 0 then none else xs[k-1]?) (xs.drop k)) ∧ Below w.heap.size w wr) (fun i _ => xs.length - (intOf i).toNat)
    case atStart => exact ⟨0, Nat.zero_le _, rfl, by show _ = _; simp [rightB, hl], Below.refl _ _⟩
    case round =>
      obtain ⟨k, hk, rfl, hs, hbl⟩ := hrel
      by_cases hlt : k < xs.length
      · obtain ⟨m, hm, dm⟩ := drop_cons hlt
        obtain ⟨b, o, rfl, hB, c0, c1, c2, c3, c4, c5, c6⟩ := Ha.out.below hbl k m hm
        have q0 : MonoAt (wr.alloc (.cells #[.int .i64 m.n, .int .u8 m.e0.toNat, .int .u8 m.e1.toNat, .int .u8 m.e2.toNat, .int .u8 m.e3.toNat, .int .u8 m.e4.toNat, .int .u8 m.e5.toNat] 39)) wr.heap.size 0 m := by simp [MonoAt, go_sem]
        have hb0 : Below w.heap.size w (wr.alloc (.cells #[.int .i64 m.n, .int .u8 m.e0.toNat, .int .u8 m.e1.toNat, .int .u8 m.e2.toNat, .int .u8 m.e3.toNat, .int .u8 m.e4.toNat, .int .u8 m.e5.toNat] 39)) := hbl.alloc hbl.size _
        have hz : wr.heap.size < (wr.alloc (.cells #[.int .i64 m.n, .int .u8 m.e0.toNat, .int .u8 m.e1.toNat, .int .u8 m.e2.toNat, .int .u8 m.e3.toNat, .int .u8 m.e4.toNat, .int .u8 m.e5.toNat] 39)).heap.size := by simp
        have HB0 := Lib.hid hb0
        have Q0 := Lib.hid q0
        have Hz := Lib.hid hz
        have hm' := hm
        clear q0 hb0 hz hm hB
        cases hsb : smallB m
        · have HS := Lib.hid (show rightB xs = false by rw [hs.out, dm]; split <;> (try cases xs[k-1]?) <;> simp [rightFrom, hsb])
          clear dm hs
          go_wp2
          clear c0 c1 c2 c3 c4 c5 c6
          generalize hb : wr.heap.size = B at Q0 Hz ⊢
          generalize wr.alloc (.cells #[.int .i64 m.n, .int .u8 m.e0.toNat, .int .u8 m.e1.toNat, .int .u8 m.e2.toNat, .int .u8 m.e3.toNat, .int .u8 m.e4.toNat, .int .u8 m.e5.toNat] 39) = W0 at Q0 HB0 Hz ⊢
          clear hb hbl
          have Hsm := Lib.hid (Later.calls (W0 := W0) fun W _ => small_any m W)
          rw [hsb] at Hsm
          obtain ⟨r0, r1, r2, r3, r4, r5, r6⟩ := Q0.out.later0
          clear Q0 Hz
          refine wp_region_later (by kernel_rfl) (by kernel_rfl) ?_
          repeat (go_big_quiet_step ((go_at_call 38; exact Hsm.out _)))
          refine wpQuiet_nil ?_
          rintro _ ⟨x, rfl⟩
          go_wp2
          go_ret
          exact ⟨ret_bool HS.out.symm, HB0.out.trans (x.h.mono HB0.out.size)⟩
        · rcases Nat.eq_zero_or_pos k with hk0 | hk0
          · have hk1 : decide (0 < k) = false := by simp; omega
            have HS := Lib.hid (show rightB xs = rightFrom (if k + 1 = 0 then none else xs[k + 1 - 1]?) (xs.drop (k + 1)) by rw [hs.out, dm, if_pos hk0, if_neg (by omega), show k + 1 - 1 = k from rfl, hm']; simp [rightFrom, hsb])
            clear dm hs hk0 hm'
            go_wp2
            clear c0 c1 c2 c3 c4 c5 c6
            generalize hb : wr.heap.size = B at Q0 Hz ⊢
            generalize wr.alloc (.cells #[.int .i64 m.n, .int .u8 m.e0.toNat, .int .u8 m.e1.toNat, .int .u8 m.e2.toNat, .int .u8 m.e3.toNat, .int .u8 m.e4.toNat, .int .u8 m.e5.toNat] 39) = W0 at Q0 HB0 Hz ⊢
            clear hb hbl
            have Hsm := Lib.hid (Later.calls (W0 := W0) fun W _ => small_any m W)
            rw [hsb] at Hsm
            obtain ⟨r0, r1, r2, r3, r4, r5, r6⟩ := Q0.out.later0
            clear Q0 Hz
            refine wp_region_later (by kernel_rfl) (by kernel_rfl) ?_
            repeat (go_big_quiet_step ((go_at_call 38; exact Hsm.out _)))
            refine wpQuiet_nil ?_
            rintro _ ⟨x, rfl⟩
            go_wp2
            go_roundw
            case rel => exact ⟨k + 1, by omega, by go_num, HS, HB0.out.trans (x.h.mono HB0.out.size)⟩
            case measure => simp [intOf]; omega
          · have hk1 : decide (0 < k) = true := by simp; omega
            obtain ⟨j, rfl⟩ : ∃ j, k = j + 1 := ⟨k - 1, by omega⟩
            obtain ⟨q, hq⟩ : ∃ q, xs[j]? = some q := ⟨xs[j]'(by omega), List.getElem?_eq_getElem _⟩
            have HS := Lib.hid (show rightB xs = (decide (ord q m < 0) && rightFrom (some m) (xs.drop (j + 1 + 1))) by rw [hs.out, dm, if_neg (by omega), show j + 1 - 1 = j from rfl, hq]; simp [rightFrom, hsb])
            have HM := Lib.hid hm'
            have p0 : MonoAt (wr.alloc (.cells #[.int .i64 m.n, .int .u8 m.e0.toNat, .int .u8 m.e1.toNat, .int .u8 m.e2.toNat, .int .u8 m.e3.toNat, .int .u8 m.e4.toNat, .int .u8 m.e5.toNat] 39)) b (o + j * 7) q := by
              obtain ⟨b1, o1, e1, hB1, hm1⟩ := Ha.out.below hbl j q hq
              injection e1 with e1
              injection e1 with e1 e2
              subst e1 e2
              exact hm1.below ((Below.refl _ _).alloc (Nat.le_refl _) _) hB1
            have P0 := Lib.hid p0
            clear dm hs hk0 hm' hq p0
            go_wp2
            clear c0 c1 c2 c3 c4 c5 c6
            generalize hb : wr.heap.size = B at Q0 Hz ⊢
            generalize wr.alloc (.cells #[.int .i64 m.n, .int .u8 m.e0.toNat, .int .u8 m.e1.toNat, .int .u8 m.e2.toNat, .int .u8 m.e3.toNat, .int .u8 m.e4.toNat, .int .u8 m.e5.toNat] 39) = W0 at Q0 HB0 Hz P0 ⊢
            clear hb hbl
            have Hsm := Lib.hid (Later.calls (W0 := W0) fun W _ => small_any m W)
            rw [hsb] at Hsm
            have Hor := Lib.hid (Later.calls (W0 := W0) fun W _ => order_below q m W)
            obtain ⟨r0, r1, r2, r3, r4, r5, r6⟩ := Q0.out.later0
            obtain ⟨s0, s1, s2, s3, s4, s5, s6⟩ := P0.out.later
            clear Q0 Hz P0
            refine wp_region_later (by kernel_rfl) (by kernel_rfl) ?_
            repeat (go_big_quiet_step ((first | (go_at_call 38; exact Hsm.out _) | (go_at_call 39; exact Hor.out _))))
            refine wpQuiet_nil ?_
            rintro _ ⟨x, rfl⟩
            clear r0 r1 r2 r3 r4 r5 r6 s0 s1 s2 s3 s4 s5 s6 Hsm Hor
            have HBX := Lib.hid (show Below w.heap.size w x.w from HB0.out.trans (x.h.mono HB0.out.size))
            clear HB0
            by_cases ho : ord q m < 0
            · have ho1 : decide ((0 : Int) ≤ ord q m) = false := by simp; omega
              go_wp2
              go_roundw
              case rel => exact ⟨j + 1 + 1, by omega, by go_num, (by show _ = _; rw [HS.out, if_neg (by omega), show j + 1 + 1 - 1 = j + 1 from rfl, HM.out]; simp [ho]), HBX.out⟩
              case measure => simp [intOf]; omega
            · have ho1 : decide ((0 : Int) ≤ ord q m) = true := by simp; omega
              go_wp2
              go_ret
              exact ⟨ret_bool (by rw [HS.out, decide_eq_false (by omega), Bool.false_and]), HBX.out⟩
      · have hk' : k = xs.length := by omega
        go_wp2
        go_ret
        refine ⟨ret_bool ?_, hbl⟩
        rw [hs.out, List.drop_of_length_le (by omega)]
        split <;> (try cases xs[k-1]?) <;> simp [rightFrom]
  · have hl1 : decide ((48 : Int) < (xs.length : Int)) = true := by simp; omega
    go_enter Try.func18, Try.ntmps18
    go_wp2
    go_ret
    exact ⟨ret_bool (by simp [rightB, hl]), Below.refl _ _⟩

end Go.Proofs.Ytndjaogjkchpaaa
