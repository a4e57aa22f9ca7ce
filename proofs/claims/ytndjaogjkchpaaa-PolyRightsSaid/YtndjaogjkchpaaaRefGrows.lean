/- Contracts of windrowref02.Grows, windrowref02.Covers: what each returns; nothing that was there is changed. -/
import Derived.Test.YtndjaogjkchpaaaRefRight
import Derived.Test.YtndjaogjkchpaaaGrows
namespace Go.Proofs.Ytndjaogjkchpaaa
open Go.RowKit

set_option maxRecDepth 100000 in
set_option maxHeartbeats 1000000 in
theorem refGrows_any (A : Option Addr) (c : Nat) (xs : List Mono) (w : World) (ha : Monos w A xs) (hx : xs.length ≤ 140737488355328) :
    Calls Try.prog 22 #[.slice A xs.length c] w fun e w' => e = .returned (.bool (growsB xs)) ∧ Below w.heap.size w w' := by
  have Ha := Lib.hid ha
  clear ha
  go_enter Try.func22, Try.ntmps22
  go_wp2
  go_loop [3] (fun i => ∃ k : Nat, k ≤ xs.length ∧ i = .int .i64 k ∧ Hid (xs.any negB = (xs.drop k).any negB)) (fun i => xs.length - (intOf i).toNat)
  case atStart => exact ⟨0, Nat.zero_le _, rfl, rfl⟩
  case round =>
    obtain ⟨k, hk, rfl, hs⟩ := hrel
    by_cases hlt : k < xs.length
    · obtain ⟨m, hm, dm⟩ := drop_cons hlt
      obtain ⟨b, o, rfl, hB, c0, c1, c2, c3, c4, c5, c6⟩ := Ha.out k m hm
      have HS := Lib.hid (show xs.any negB = (negB m || (xs.drop (k + 1)).any negB) by rw [hs.out, dm, List.any_cons])
      clear hs hm dm hB c1 c2 c3 c4 c5 c6
      by_cases hn : m.n < 0
      · have hn1 : decide (m.n < 0) = true := by simpa using hn
        go_wp2
        go_ret
        exact ⟨ret_bool (by unfold growsB; rw [HS.out, show negB m = true from hn1, Bool.true_or]; simp), Below.refl _ _⟩
      · have hn1 : decide (m.n < 0) = false := by simpa using hn
        go_wp2
        go_round
        case rel => exact ⟨k + 1, by omega, by go_num, (by show _ = _; rw [HS.out, show negB m = false from hn1, Bool.false_or])⟩
        case measure => simp [intOf]; omega
    · have HS := Lib.hid (show xs.any negB = false by rw [hs.out, List.drop_of_length_le (by omega)]; rfl)
      clear hs
      go_wp2_with fail
      refine (refRight_any A c xs _ Ha.out hx).mono ?_
      rintro e w1 ⟨rfl, hb1⟩
      go_wp2
      go_ret
      exact ⟨ret_bool (by unfold growsB; rw [HS.out]; simp), hb1⟩

theorem flatE_deg (m : Mono) : (((m.deg : Nat) : Int) == 0) = flatE m := by
  rw [Bool.eq_iff_iff, beq_iff_eq]
  simp only [flatE, Mono.sameE, Bool.and_eq_true, beq_iff_eq, Mono.deg]
  have h : ∀ e : UInt8, e = 0 ↔ e.toNat = 0 := fun e => ⟨fun h => by rw [h]; rfl, fun h => UInt8.toNat_inj.1 (by rw [h]; rfl)⟩
  rw [h, h, h, h, h, h]
  omega

set_option maxRecDepth 100000 in
set_option maxHeartbeats 1000000 in
theorem refCovers_any (A : Option Addr) (c : Nat) (xs : List Mono) (n : Int) (w : World) (ha : Monos w A xs) (hx : xs.length ≤ 140737488355328) :
    Calls Try.prog 23 #[.slice A xs.length c, .int .i64 n] w fun e w' => e = .returned (.bool (coversB xs n)) ∧ Below w.heap.size w w' := by
  have Ha := Lib.hid ha
  clear ha
  cases hg : growsB xs
  · go_enter Try.func23, Try.ntmps23
    go_wp2_with fail
    refine (refGrows_any A c xs _ Ha.out hx).mono ?_
    rintro e w1 ⟨rfl, hb1⟩
    go_wp2
    go_ret
    exact ⟨ret_bool (by unfold coversB; rw [hg]; rfl), hb1⟩
  · by_cases hn : n ≤ 0
    · have hn1 : decide (n ≤ 0) = true := by simpa using hn
      go_enter Try.func23, Try.ntmps23
      go_wp2_with fail
      refine (refGrows_any A c xs _ Ha.out hx).mono ?_
      rintro e w1 ⟨rfl, hb1⟩
      go_wp2
      go_ret
      exact ⟨ret_bool (by unfold coversB; rw [hg, hn1]; rfl), hb1⟩
    · have hn1 : decide (n ≤ 0) = false := by simpa using hn
      rcases Nat.eq_zero_or_pos xs.length with h0 | h0
      · have h01 : decide (0 < xs.length) = false := by simp [h0]
        have H0 := Lib.hid h0
        clear h0
        go_enter Try.func23, Try.ntmps23
        go_wp2_with fail
        refine (refGrows_any A c xs _ Ha.out hx).mono ?_
        rintro e w1 ⟨rfl, hb1⟩
        go_wp2
        go_ret
        have e : xs = [] := List.eq_nil_of_length_eq_zero H0.out
        subst e
        exact ⟨ret_bool (by unfold coversB; rw [hg, hn1]; rfl), hb1⟩
      · have h01 : decide (0 < xs.length) = true := by simpa using h0
        obtain ⟨m, hm⟩ : ∃ m, xs[xs.length - 1]? = some m := ⟨xs[xs.length - 1]'(by omega), List.getElem?_eq_getElem _⟩
        have HL := Lib.hid (show xs.getLast? = some m by rw [List.getLast?_eq_getElem?]; exact hm)
        have HM := Lib.hid hm
        clear hm
        go_enter Try.func23, Try.ntmps23
        go_wp2_with fail
        refine (refGrows_any A c xs _ Ha.out hx).mono ?_
        rintro e w1 ⟨rfl, hb1⟩
        obtain ⟨b, o, hA, hB, c0, c1, c2, c3, c4, c5, c6⟩ := Ha.out.below hb1 _ m HM.out
        subst hA
        have hi : ((xs.length : Int) - 1).toNat = xs.length - 1 := by omega
        have H1 := Lib.hid hb1
        clear hb1 hB
        go_wp2_with fail
        refine (degree_any m _).mono ?_
        rintro e w2 ⟨rfl, hb2⟩
        have HF := flatE_deg m
        obtain ⟨b2, o2, hA2, hB2, k0, _⟩ := Ha.out.below (H1.out.trans (hb2.mono H1.out.size)) _ m HM.out
        injection hA2 with hA2
        injection hA2 with hA2 hA3
        subst hA2 hA3
        have H2 := Lib.hid (H1.out.trans (hb2.mono H1.out.size))
        clear hb2 hB2 HM c0 c1 c2 c3 c4 c5 c6
        cases hf : flatE m
        · rw [hf] at HF
          go_wp2
          go_ret
          exact ⟨ret_bool (by unfold coversB; rw [hg, hn1, HL.out]; simp [hf]), H2.out⟩
        · rw [hf] at HF
          go_wp2
          go_ret
          exact ⟨ret_bool (by unfold coversB; rw [hg, hn1, HL.out]; simp [hf]), H2.out⟩

end Go.Proofs.Ytndjaogjkchpaaa
