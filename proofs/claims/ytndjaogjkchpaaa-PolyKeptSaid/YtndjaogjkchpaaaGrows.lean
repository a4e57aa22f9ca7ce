/- Contracts of poly.Grows, poly.Covers: what each returns; nothing that was there is changed. -/
import Derived.Test.YtndjaogjkchpaaaRight
import Derived.Test.YtndjaogjkchpaaaSame
namespace Go.Proofs.Ytndjaogjkchpaaa
open Go.RowKit

def negB (m : Mono) : Bool := decide (m.n < 0)
def growsB (p : List Mono) : Bool := rightB p && !(p.any negB)
def flatE (m : Mono) : Bool := m.sameE ⟨0, 0, 0, 0, 0, 0, 0⟩
def coversB (p : List Mono) (n : Int) : Bool := growsB p && (decide (n ≤ 0) || match p.getLast? with
  | none => false
  | some m => flatE m && decide (n ≤ m.n))

set_option maxHeartbeats 400000 in
theorem neg_any (m : Mono) (w : World) : Calls Try.prog 41 #[.agg #[.int .i64 m.n, .int .u8 m.e0.toNat, .int .u8 m.e1.toNat, .int .u8 m.e2.toNat, .int .u8 m.e3.toNat, .int .u8 m.e4.toNat, .int .u8 m.e5.toNat]] w fun e w' => e = .returned (.bool (negB m)) ∧ Below w.heap.size w w' := by
  go_enter Try.func41, Try.ntmps41
  go_wp2
  go_ret
  exact ⟨rfl, by go_grown⟩

def IdxPost (w : World) (b : Bool) (e : Ending) (w' : World) : Prop := ∃ i : Int, e = .returned (.int .i64 i) ∧ decide (0 ≤ i) = b ∧ Below w.heap.size w w'

set_option maxRecDepth 100000 in
set_option maxHeartbeats 1000000 in
theorem index_any (A : Option Addr) (c : Nat) (xs : List Mono) (w : World) (ha : Monos w A xs) (hx : xs.length ≤ 140737488355328) :
    Calls Try.prog 49 #[.slice A xs.length c, .func (.func 41) #[] #[]] w (IdxPost w (xs.any negB)) := by
  have Ha := Lib.hid ha
  clear ha
  go_enter Try.func49, Try.ntmps49
  go_wp2
  go_loopw [8] (fun i wr => ∃ k : Nat, k ≤ xs.length ∧ i = .int .i64 k ∧ Hid (xs.any negB = (xs.drop k).any negB) ∧ Below w.heap.size w wr) (fun i _ => xs.length - (intOf i).toNat)
  case atStart => exact ⟨0, Nat.zero_le _, rfl, rfl, Below.refl _ _⟩
  case round =>
    obtain ⟨k, hk, rfl, hs, hbl⟩ := hrel
    by_cases hlt : k < xs.length
    · obtain ⟨m, hm, dm⟩ := drop_cons hlt
      obtain ⟨b, o, rfl, hB, c0, c1, c2, c3, c4, c5, c6⟩ := Ha.out.below hbl k m hm
      have HS := Lib.hid (show xs.any negB = (negB m || (xs.drop (k + 1)).any negB) by rw [hs.out, dm, List.any_cons])
      have HBL := Lib.hid hbl
      clear hs hm dm hB hbl
      go_wp2_with (go_at_call 41; refine (neg_any m _).mono ?_; rintro e w1 ⟨rfl, hb1⟩)
      · have hng : negB m = true := by assumption
        go_ret
        exact ⟨k, rfl, by rw [HS.out, hng, Bool.true_or]; simp, HBL.out.trans (hb1.mono HBL.out.size)⟩
      · have hng : negB m = false := by assumption
        go_roundw
        case rel => exact ⟨k + 1, by omega, by go_num, (by show _ = _; rw [HS.out, hng, Bool.false_or]), HBL.out.trans (hb1.mono HBL.out.size)⟩
        case measure => simp [intOf]; omega
    · have HS := Lib.hid (show xs.any negB = false by rw [hs.out, List.drop_of_length_le (by omega)]; rfl)
      clear hs
      go_wp2
      go_ret
      exact ⟨-1, rfl, by rw [HS.out]; rfl, hbl⟩

set_option maxHeartbeats 400000 in
theorem contains_any (A : Option Addr) (c : Nat) (xs : List Mono) (w : World) (ha : Monos w A xs) (hx : xs.length ≤ 140737488355328) :
    Calls Try.prog 40 #[.slice A xs.length c, .func (.func 41) #[] #[]] w fun e w' => e = .returned (.bool (xs.any negB)) ∧ Below w.heap.size w w' := by
  have Ha := Lib.hid ha
  clear ha
  go_enter Try.func40, Try.ntmps40
  go_wp2_with fail
  refine (index_any A c xs _ Ha.out hx).mono ?_
  rintro e w1 ⟨i, rfl, hi, hb1⟩
  have Hi := Lib.hid hi
  clear hi
  go_wp2
  go_ret
  exact ⟨ret_bool Hi.out, hb1⟩

set_option maxHeartbeats 400000 in
theorem grows_any (A : Option Addr) (c : Nat) (xs : List Mono) (w : World) (ha : Monos w A xs) (hx : xs.length ≤ 140737488355328) :
    Calls Try.prog 19 #[.slice A xs.length c] w fun e w' => e = .returned (.bool (growsB xs)) ∧ Below w.heap.size w w' := by
  have Ha := Lib.hid ha
  clear ha
  cases hr : rightB xs
  · go_enter Try.func19, Try.ntmps19
    go_wp2_with fail
    refine (right_any A c xs _ Ha.out hx).mono ?_
    rintro e w1 ⟨rfl, hb1⟩
    go_wp2
    go_ret
    exact ⟨ret_bool (by unfold growsB; rw [hr]; rfl), hb1⟩
  · go_enter Try.func19, Try.ntmps19
    go_wp2_with fail
    refine (right_any A c xs _ Ha.out hx).mono ?_
    rintro e w1 ⟨rfl, hb1⟩
    have H1 := Lib.hid hb1
    clear hb1
    go_wp2_with fail
    refine (contains_any A c xs _ (Ha.out.below H1.out) hx).mono ?_
    rintro e w2 ⟨rfl, hb2⟩
    have H2 := Lib.hid (H1.out.trans (hb2.mono H1.out.size))
    clear hb2
    go_wp2
    go_ret
    exact ⟨ret_bool (by unfold growsB; rw [hr, Bool.true_and]), H2.out⟩

theorem run_zero_E (w : World) : (Instr.build 37 #[]).run Try.prog w = .ok (.agg #[.int .u8 0, .int .u8 0, .int .u8 0, .int .u8 0, .int .u8 0, .int .u8 0]) w := by kernel_rfl
theorem run_eql_E (m : Mono) (w : World) : (binOp .eql 37 (.agg #[.int .u8 m.e0.toNat, .int .u8 m.e1.toNat, .int .u8 m.e2.toNat, .int .u8 m.e3.toNat, .int .u8 m.e4.toNat, .int .u8 m.e5.toNat]) (.agg #[.int .u8 0, .int .u8 0, .int .u8 0, .int .u8 0, .int .u8 0, .int .u8 0])).run Try.prog w = .ok (.bool (flatE m)) w := by
  rw [run_eql_struct]
  have h := run_equalIn_E 9998 m ⟨0, 0, 0, 0, 0, 0, 0⟩ w
  have e : (Value.agg #[.int .u8 (((0 : UInt8).toNat : Nat) : Int), .int .u8 (((0 : UInt8).toNat : Nat) : Int), .int .u8 (((0 : UInt8).toNat : Nat) : Int), .int .u8 (((0 : UInt8).toNat : Nat) : Int), .int .u8 (((0 : UInt8).toNat : Nat) : Int), .int .u8 (((0 : UInt8).toNat : Nat) : Int)]) = .agg #[.int .u8 0, .int .u8 0, .int .u8 0, .int .u8 0, .int .u8 0, .int .u8 0] := rfl
  rw [e] at h
  rw [h]
  rfl

set_option maxRecDepth 100000 in
set_option maxHeartbeats 1000000 in
theorem covers_any (A : Option Addr) (c : Nat) (xs : List Mono) (n : Int) (w : World) (ha : Monos w A xs) (hx : xs.length ≤ 140737488355328) :
    Calls Try.prog 20 #[.slice A xs.length c, .int .i64 n] w fun e w' => e = .returned (.bool (coversB xs n)) ∧ Below w.heap.size w w' := by
  have Ha := Lib.hid ha
  clear ha
  have hz := run_zero_E
  have heq := run_eql_E
  cases hg : growsB xs
  · go_enter Try.func20, Try.ntmps20
    go_wp2_with fail
    refine (grows_any A c xs _ Ha.out hx).mono ?_
    rintro e w1 ⟨rfl, hb1⟩
    go_wp2
    go_ret
    exact ⟨ret_bool (by unfold coversB; rw [hg]; rfl), hb1⟩
  · by_cases hn : n ≤ 0
    · have hn1 : decide (n ≤ 0) = true := by simpa using hn
      go_enter Try.func20, Try.ntmps20
      go_wp2_with fail
      refine (grows_any A c xs _ Ha.out hx).mono ?_
      rintro e w1 ⟨rfl, hb1⟩
      go_wp2
      go_ret
      exact ⟨ret_bool (by unfold coversB; rw [hg, hn1]; rfl), hb1⟩
    · have hn1 : decide (n ≤ 0) = false := by simpa using hn
      rcases Nat.eq_zero_or_pos xs.length with h0 | h0
      · have h01 : ((xs.length : Int) == 0) = true := by simp [h0]
        have H0 := Lib.hid h0
        clear h0
        go_enter Try.func20, Try.ntmps20
        go_wp2_with fail
        refine (grows_any A c xs _ Ha.out hx).mono ?_
        rintro e w1 ⟨rfl, hb1⟩
        go_wp2
        go_ret
        have e : xs = [] := List.eq_nil_of_length_eq_zero H0.out
        subst e
        exact ⟨ret_bool (by unfold coversB; rw [hg, hn1]; rfl), hb1⟩
      · have h01 : ((xs.length : Int) == 0) = false := beq_eq_false_iff_ne.2 (by omega)
        obtain ⟨m, hm⟩ : ∃ m, xs[xs.length - 1]? = some m := ⟨xs[xs.length - 1]'(by omega), List.getElem?_eq_getElem _⟩
        have HL := Lib.hid (show xs.getLast? = some m by rw [List.getLast?_eq_getElem?]; exact hm)
        have HM := Lib.hid hm
        clear hm
        go_enter Try.func20, Try.ntmps20
        go_wp2_with fail
        refine (grows_any A c xs _ Ha.out hx).mono ?_
        rintro e w1 ⟨rfl, hb1⟩
        obtain ⟨b, o, hA, hB, c0, c1, c2, c3, c4, c5, c6⟩ := Ha.out.below hb1 _ m HM.out
        subst hA
        have hi : ((xs.length : Int) - 1).toNat = xs.length - 1 := by omega
        have H1 := Lib.hid hb1
        clear hb1 HM hB
        cases hf : flatE m
        · go_wp2
          go_ret
          exact ⟨ret_bool (by unfold coversB; rw [hg, hn1, HL.out]; simp [hf]), H1.out.alloc H1.out.size _⟩
        · go_wp2
          go_ret
          exact ⟨ret_bool (by unfold coversB; rw [hg, hn1, HL.out]; simp [hf]), H1.out.alloc H1.out.size _⟩

end Go.Proofs.Ytndjaogjkchpaaa
