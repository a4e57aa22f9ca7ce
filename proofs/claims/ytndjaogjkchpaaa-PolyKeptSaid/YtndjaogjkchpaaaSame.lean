/- Contract of windrowref02.Same: the same monomials? It reads; nothing is changed. -/
import Derived.Test.YtndjaogjkchpaaaMono
import Derived.Test.YtndjaogjkchpaaaRows
import Derived.ChangeKeysEq
namespace Go.Proofs.Ytndjaogjkchpaaa
open Go.RowKit

theorem u8_eq (a b : UInt8) : ((a.toNat : Int) == (b.toNat : Int)) = (a == b) := by
  rw [Bool.eq_iff_iff]
  simp only [beq_iff_eq]
  constructor
  · intro h; exact UInt8.toNat_inj.1 (by omega)
  · rintro rfl; rfl

/-- are the exponents the same? -/
def Mono.sameE (a b : Mono) : Bool := a.e0 == b.e0 && (a.e1 == b.e1 && (a.e2 == b.e2 && (a.e3 == b.e3 && (a.e4 == b.e4 && a.e5 == b.e5))))

theorem run_part37 (a : Mono) (w : World) : (part 5 #[.int .u8 a.e0.toNat, .int .u8 a.e1.toNat, .int .u8 a.e2.toNat, .int .u8 a.e3.toNat, .int .u8 a.e4.toNat, .int .u8 a.e5.toNat] (0 * 1)).run Try.prog w = .ok (.int .u8 a.e0.toNat) w ∧ (part 5 #[.int .u8 a.e0.toNat, .int .u8 a.e1.toNat, .int .u8 a.e2.toNat, .int .u8 a.e3.toNat, .int .u8 a.e4.toNat, .int .u8 a.e5.toNat] (1 * 1)).run Try.prog w = .ok (.int .u8 a.e1.toNat) w ∧
    (part 5 #[.int .u8 a.e0.toNat, .int .u8 a.e1.toNat, .int .u8 a.e2.toNat, .int .u8 a.e3.toNat, .int .u8 a.e4.toNat, .int .u8 a.e5.toNat] (2 * 1)).run Try.prog w = .ok (.int .u8 a.e2.toNat) w ∧ (part 5 #[.int .u8 a.e0.toNat, .int .u8 a.e1.toNat, .int .u8 a.e2.toNat, .int .u8 a.e3.toNat, .int .u8 a.e4.toNat, .int .u8 a.e5.toNat] (3 * 1)).run Try.prog w = .ok (.int .u8 a.e3.toNat) w ∧
    (part 5 #[.int .u8 a.e0.toNat, .int .u8 a.e1.toNat, .int .u8 a.e2.toNat, .int .u8 a.e3.toNat, .int .u8 a.e4.toNat, .int .u8 a.e5.toNat] (4 * 1)).run Try.prog w = .ok (.int .u8 a.e4.toNat) w ∧ (part 5 #[.int .u8 a.e0.toNat, .int .u8 a.e1.toNat, .int .u8 a.e2.toNat, .int .u8 a.e3.toNat, .int .u8 a.e4.toNat, .int .u8 a.e5.toNat] (5 * 1)).run Try.prog w = .ok (.int .u8 a.e5.toNat) w :=
  ⟨by kernel_rfl, by kernel_rfl, by kernel_rfl, by kernel_rfl, by kernel_rfl, by kernel_rfl⟩

theorem run_equalIn_E (d : Nat) (a b : Mono) (w : World) : (Op.equalIn (d + 2) 37 (.agg #[.int .u8 a.e0.toNat, .int .u8 a.e1.toNat, .int .u8 a.e2.toNat, .int .u8 a.e3.toNat, .int .u8 a.e4.toNat, .int .u8 a.e5.toNat]) (.agg #[.int .u8 b.e0.toNat, .int .u8 b.e1.toNat, .int .u8 b.e2.toNat, .int .u8 b.e3.toNat, .int .u8 b.e4.toNat, .int .u8 b.e5.toNat])).run Try.prog w = .ok (a.sameE b) w := by
  obtain ⟨i5, hi5⟩ : ∃ i, Try.prog.info? 5 = some i := ⟨_, rfl⟩
  have hc : Try.prog.cellsOf 5 = 1 := by kernel_rfl
  obtain ⟨p0, p1, p2, p3, p4, p5⟩ := run_part37 a w
  obtain ⟨q0, q1, q2, q3, q4, q5⟩ := run_part37 b w
  rw [run_equalIn_array w (d + 1) _ _ Try.underlying37 hi5, hc]
  have hr : List.range 6 = [0, 1, 2, 3, 4, 5] := rfl
  rw [hr]
  simp only [Op.eqItems, Sem.run_bind, Sem.run_ite, Sem.run_pure, p0, p1, p2, p3, p4, p5, q0, q1, q2, q3, q4, q5, Result.andThen_ok, run_equalIn_int w d 5 .u8 .u8 _ _ Try.underlying5, u8_eq]
  unfold Mono.sameE
  cases a.e0 == b.e0 <;> cases a.e1 == b.e1 <;> cases a.e2 == b.e2 <;> cases a.e3 == b.e3 <;> cases a.e4 == b.e4 <;> cases a.e5 == b.e5 <;> rfl

theorem run_equalIn_mono (d : Nat) (a b : Mono) (w : World) : (Op.equalIn (d + 3) 39 (.agg #[.int .i64 a.n, .int .u8 a.e0.toNat, .int .u8 a.e1.toNat, .int .u8 a.e2.toNat, .int .u8 a.e3.toNat, .int .u8 a.e4.toNat, .int .u8 a.e5.toNat]) (.agg #[.int .i64 b.n, .int .u8 b.e0.toNat, .int .u8 b.e1.toNat, .int .u8 b.e2.toNat, .int .u8 b.e3.toNat, .int .u8 b.e4.toNat, .int .u8 b.e5.toNat])).run Try.prog w = .ok (a.eqB b) w := by
  have hS : Try.prog.underlying 39 = some (.struct (Try.prog.fieldsOf 39)) := by kernel_rfl
  have hp : Try.prog.stoodInHeld 39 = false := by kernel_rfl
  have hF : (Try.prog.fieldsOf 39).toList = [⟨ "N", 2, 0, false, "", "", 0⟩, ⟨ "E", 37, 1, false, "", "", 8⟩] := by kernel_rfl
  have p0 : ∀ m : Mono, (part 2 #[.int .i64 m.n, .int .u8 m.e0.toNat, .int .u8 m.e1.toNat, .int .u8 m.e2.toNat, .int .u8 m.e3.toNat, .int .u8 m.e4.toNat, .int .u8 m.e5.toNat] 0).run Try.prog w = .ok (.int .i64 m.n) w := fun m => by kernel_rfl
  have p1 : ∀ m : Mono, (part 37 #[.int .i64 m.n, .int .u8 m.e0.toNat, .int .u8 m.e1.toNat, .int .u8 m.e2.toNat, .int .u8 m.e3.toNat, .int .u8 m.e4.toNat, .int .u8 m.e5.toNat] 1).run Try.prog w = .ok (.agg #[.int .u8 m.e0.toNat, .int .u8 m.e1.toNat, .int .u8 m.e2.toNat, .int .u8 m.e3.toNat, .int .u8 m.e4.toNat, .int .u8 m.e5.toNat]) w := fun m => by kernel_rfl
  rw [run_equalIn_agg w (d + 2) 39 _ _ hS hp, hF]
  simp only [Op.eqFields, Sem.run_bind, Sem.run_ite, Sem.run_pure, p0, p1, Result.andThen_ok, run_equalIn_int w (d + 1) 2 .i64 .i64 _ _ Try.underlying2, run_equalIn_E d a b w]
  have e : a.eqB b = (a.n == b.n && a.sameE b) := rfl
  rw [e]
  cases a.n == b.n <;> cases a.sameE b <;> simp

theorem run_neq_mono (a b : Mono) (w : World) : (binOp .neq 39 (.agg #[.int .i64 a.n, .int .u8 a.e0.toNat, .int .u8 a.e1.toNat, .int .u8 a.e2.toNat, .int .u8 a.e3.toNat, .int .u8 a.e4.toNat, .int .u8 a.e5.toNat]) (.agg #[.int .i64 b.n, .int .u8 b.e0.toNat, .int .u8 b.e1.toNat, .int .u8 b.e2.toNat, .int .u8 b.e3.toNat, .int .u8 b.e4.toNat, .int .u8 b.e5.toNat])).run Try.prog w = .ok (.bool (!a.eqB b)) w := by
  rw [run_neq_struct, run_equalIn_mono 9997 a b w]
  rfl

theorem sameB_len : ∀ (l m : List Mono), l.length ≠ m.length → sameB l m = false
  | [], [], h => absurd rfl h
  | [], _ :: _, _ => rfl
  | _ :: _, [], _ => rfl
  | a :: l, b :: m, h => by
    rw [sameB, sameB_len l m (by simpa using h), Bool.and_false]

set_option maxRecDepth 100000 in
set_option maxHeartbeats 1000000 in
theorem same_any (A B : Option Addr) (c d : Nat) (xs ys : List Mono) (w : World) (ha : Monos w A xs) (hb : Monos w B ys) (hx : xs.length ≤ 140737488355328) :
    Calls Try.prog 15 #[.slice A xs.length c, .slice B ys.length d] w fun e w' => e = .returned (.bool (sameB xs ys)) ∧ Below w.heap.size w w' := by
  by_cases hl : xs.length = ys.length
  · have hneq := run_neq_mono
    have Hl := Lib.hid hl
    have Ha := Lib.hid ha
    have Hb := Lib.hid hb
    have hl1 : ((xs.length : Int) != (ys.length : Int)) = false := by simp [hl]
    clear hl ha hb
    go_enter Try.func15, Try.ntmps15
    go_wp2
    go_loopw [5] (fun i wr => ∃ k : Nat, k ≤ xs.length ∧ i = .int .i64 k ∧ Hid (sameB xs ys = sameB (xs.drop k) (ys.drop k)) ∧ Below w.heap.size w wr) (fun i _ => xs.length - (intOf i).toNat)
    case atStart => exact ⟨0, Nat.zero_le _, rfl, rfl, Below.refl _ _⟩
    case round =>
      obtain ⟨k, hk, rfl, hs, hbl⟩ := hrel
      by_cases hlt : k < xs.length
      · obtain ⟨m, hm, dm⟩ := drop_cons hlt
        obtain ⟨m', hm', dm'⟩ := drop_cons (show k < ys.length by rw [← Hl.out]; exact hlt)
        obtain ⟨b, o, rfl, hB, c0, c1, c2, c3, c4, c5, c6⟩ := Ha.out.below hbl k m hm
        obtain ⟨b', o', rfl, hB', d0, d1, d2, d3, d4, d5, d6⟩ := Hb.out.below hbl k m' hm'
        have hlt' : k < ys.length := by rw [← Hl.out]; exact hlt
        have HS := Lib.hid (show sameB xs ys = (m.eqB m' && sameB (xs.drop (k + 1)) (ys.drop (k + 1))) by rw [hs.out, dm, dm', sameB])
        clear dm dm' hm hm' hB hB' hs
        cases hf : m.eqB m'
        · go_wp2
          go_quiet (fail)
          go_wp2
          go_ret
          refine ⟨ret_bool ?_, below_drewN hbl _⟩
          rw [HS.out, hf, Bool.false_and]
        · go_wp2
          go_quiet (fail)
          go_wp2
          go_roundw
          case rel => exact ⟨k + 1, by omega, by go_num, (by show _ = _; rw [HS.out, hf, Bool.true_and]), below_drewN hbl _⟩
          case measure => simp [intOf]; omega
      · have hk' : k = xs.length := by omega
        go_wp2
        go_ret
        refine ⟨ret_bool ?_, hbl⟩
        rw [hs.out, List.drop_of_length_le (by omega), List.drop_of_length_le (by rw [← Hl.out]; omega)]
        rfl
  · have hl1 : ((xs.length : Int) != (ys.length : Int)) = true := by rw [bne_iff_ne]; omega
    go_enter Try.func15, Try.ntmps15
    go_wp2
    go_ret
    exact ⟨ret_bool (sameB_len _ _ hl).symm, Below.refl _ _⟩

end Go.Proofs.Ytndjaogjkchpaaa
