/- Walks of the reference's layer 3: digits, spelling. (Printed by wip/gen/ref3.py.) -/
import Derived.Test.YtngkedmndhmjcaaGreatDoorRef3
import Derived.Test.YtngkedmndhmjcaaGreatDoorNum
namespace Go.Proofs.YtngkedmndhmjcaaGreatDoor
open Go.RowKit

theorem digits_more {u : Nat} {s : Bs} (h : 9 < u) : Lib.decDigits u ++ s = Lib.decDigits (u / 10) ++ ([UInt8.ofNat (48 + u % 10)] ++ s) := by
  rw [Lib.decDigits, dif_neg (by omega), List.append_assoc]
theorem digits_last {u : Nat} (h : u ≤ 9) : Lib.decDigits u = [UInt8.ofNat (48 + u)] := by
  rw [Lib.decDigits, dif_pos (by omega)]
theorem ndig_more {u : Nat} (h : 9 < u) : Lib.nDigits u = Lib.nDigits (u / 10) + 1 := Lib.nDigits_big (by omega)
section
variable {b : UInt8} {r : Bs}
theorem next_err (b : UInt8) (r : Bs) (hl : (b :: r).length ≤ 65536) {e : Int} (ht : tokenP (b :: r) = .error e) : Spec Tryz.prog 74 [.string (bs (b :: r)), .int .i64 0] [] [] (fun _ : Unit => .tuple #[.agg #[.int .i64 0, .int .i64 0, .string (bs []), .int .i64 0], .int .i64 0, .int .i64 e]) (fun _ => []) (fun _ => []) := by
  have := rnext_spec b r hl
  rw [ht] at this
  exact this
theorem next_ok (b : UInt8) (r : Bs) (hl : (b :: r).length ≤ 65536) {k v : Int} {wd : Bs} {m : Nat} (ht : tokenP (b :: r) = .ok (k, wd, v, m)) : Spec Tryz.prog 74 [.string (bs (b :: r)), .int .i64 0] [] [] (fun _ : Unit => .tuple #[.agg #[.int .i64 k, .int .i64 0, .string (bs wd), .int .i64 v], .int .i64 (m : Nat), .int .i64 0]) (fun _ => []) (fun _ => []) := by
  have := rnext_spec b r hl
  rw [ht] at this
  exact this
theorem wordR_yes (hl : (b :: r).length ≤ 100) (h1 : b ≠ 32) (h2 : b ≠ 9) (h3 : b ≠ 35) {k v : Int} {wd : Bs} {m : Nat} (ht : tokenP (b :: r) = .ok (k, wd, v, m)) (hk : k = 1) (hw : wd = b :: r) (hv : v = 0) (hm : m = (b :: r).length) : wordR (b :: r) = true := by
  simp only [wordR, ht, hk, hw, hv, hm]
  simp [h1, h2, h3]
  simpa using hl
theorem wordR_no (h : 100 < (b :: r).length ∨ b = 32 ∨ b = 9 ∨ b = 35 ∨ (∃ e, tokenP (b :: r) = .error e) ∨ ∃ k v wd m, tokenP (b :: r) = .ok (k, wd, v, m) ∧ (k ≠ 1 ∨ wd ≠ b :: r ∨ v ≠ 0 ∨ m ≠ (b :: r).length)) : wordR (b :: r) = false := by
  rcases h with h | h | h | h | ⟨e, h⟩ | ⟨k, v, wd, m, ht, h⟩
  · have : ¬ (b :: r).length ≤ 100 := by omega
    simp only [wordR, decide_eq_false this, Bool.false_and]
  · simp [wordR, h]
  · simp [wordR, h]
  · simp [wordR, h]
  · simp only [wordR, h, Bool.and_false]
  · simp only [wordR, ht]
    rcases h with h | h | h | h <;> simp [h]
    all_goals (intros; simp_all)
end
theorem spell_cons (n : Int) : ∃ b r, spellN n = b :: r := by
  cases h : spellN n with
  | nil =>
    unfold spellN at h
    exact absurd (List.append_eq_nil_iff.1 h).2 (decDigits_ne _)
  | cons b r => exact ⟨b, r, rfl⟩
theorem spell_b {n : Int} {b : UInt8} {r : Bs} (h : spellN n = b :: r) : ((b.toNat : Int) == 32) = false ∧ ((b.toNat : Int) == 9) = false ∧ ((b.toNat : Int) == 35) = false := by
  have key : ∀ b : UInt8, b = 95 ∨ digitB b = true → b.toNat = 95 ∨ (48 ≤ b.toNat ∧ b.toNat ≤ 57) := fun b hb => by
    rcases hb with rfl | hb
    · exact .inl rfl
    · right
      simpa [digitB] using hb
  have := key b (spell_head h)
  refine ⟨?_, ?_, ?_⟩ <;> (rw [beq_eq_false_iff_ne]; omega)
theorem rrdigits_zero_api_Token : (Tryz.prog.info? 54).bind (·.zero) = some (.agg #[.int .i64 0, .int .i64 0, .string (bs []), .int .i64 0]) := by kernel_rfl

set_option maxRecDepth 100000 in
theorem rdigits_spec (n : Int) (h0 : -9223372036854775808 ≤ n) (h1 : n ≤ 9223372036854775807) : Spec Tryz.prog 73 [.int .i64 n] [] [] (fun (_ : Unit) => .string (bs (spellN n))) (fun _ => []) (fun _ => []) := by
  have hT := refT_ok
  refine spec_of Tryz.func73 rfl Tryz.ntmps73 rfl ?_
  intro β hM
  refine sr ?_
  refine sp hT ?_
  refine nn ?_
  refine at_seq ?_
  rcases Int.lt_or_le n 0 with hn | hn
  · skip
    refine at_region ?_
    refine sp2 hT ?_
    refine at_int (z' := n + 18446744073709551616) (wrapNeg (by omega) (by omega)) ?_
    refine sp hT ?_
    refine nn ?_
    refine sr ?_
    refine sp hT ?_
    refine nn ?_
    refine at_seq ?_
    refine sr ?_
    refine sp2 hT ?_
    refine nn ?_
    refine at_cond rfl (fun hc8 => ?_) (fun hc8 => ?_)
    · have hc8 := of_decide_eq_true hc8
      refine at_region ?_
      refine sp2 hT ?_
      refine at_int (z' := ((n.natAbs : Nat) : Int)) (by rw [wrapNeg (by omega) (by omega)]; omega) ?_
      refine sp hT ?_
      refine nn ?_
      refine at_seq ?_
      refine at_block ?_
      refine at_loop2 (ι := Nat × Bs) [(0, _)] ⟨rfl, trivial⟩ (fun ⟨u, s⟩ => [(3, .int .u64 (u : Nat)), (4, .string (bs s))]) (fun _ => []) (fun ⟨u, s⟩ => [Fact.pure (Lib.decDigits n.natAbs = Lib.decDigits u ++ s ∧ u ≤ 9223372036854775808 ∧ s.length + Lib.nDigits u ≤ 20)]) (fun ⟨u, s⟩ => u) (n.natAbs, []) ⟨rfl, rfl, trivial⟩ .nil ⟨Has.pure (⟨by simp, by omega, by have := Lib.nDigits_le20 n.natAbs (by omega); simp; omega⟩), trivial⟩ ?_
      rintro ⟨u, s⟩
      dsimp only
      refine at_know (Has.of mT0) fun hinv5 => ?_
      refine at_seq ?_
      refine sr ?_
      refine sp2 hT ?_
      refine nn ?_
      refine at_cond rfl (fun hc12 => ?_) (fun hc12 => ?_)
      · have hc12 := of_decide_eq_true hc12
        refine at_skip ?_
        refine n_then ?_
        refine at_block ?_
        refine sr ?_
        refine sp hT ?_
        refine ss (sti_rem rfl rfl rfl (by decide)) ?_
        refine at_int (z' := ((u % 10 : Nat) : Int)) (by rw [Int.tmod_eq_emod_of_nonneg (by omega)]; omega) ?_
        refine sp hT ?_
        refine at_int (z' := ((48 + u % 10 : Nat) : Int)) (by rw [wrapU (by omega) (by omega)]; omega) ?_
        refine sp hT ?_
        refine at_int (z' := (((UInt8.ofNat (48 + u % 10)).toNat : Nat) : Int)) (by rw [wrapU8 (by omega) (by omega), UInt8.toNat_ofNat']; omega) ?_
        refine at_one_byte (m := (UInt8.ofNat (48 + u % 10))) rfl rfl rfl rfl rfl fun b1 => ?_
        refine ss (sti_bytesStr (reads_obj .head rfl) Tryz.underlying71 Tryz.underlying5 Tryz.underlying9 rfl rfl rfl (by simp)) ?_
        refine sp hT ?_
        refine ss (sti_cat rfl rfl rfl (by simp; omega)) ?_
        refine sp hT ?_
        refine nn ?_
        refine at_region ?_
        refine sp hT ?_
        refine ss (sti_quo rfl rfl rfl (by decide)) ?_
        refine at_int (z' := ((u / 10 : Nat) : Int)) (by rw [Int.tdiv_eq_ediv_of_nonneg (by omega), wrapU (by omega) (by omega)]; omega) ?_
        refine sp hT ?_
        refine at_nil ?_
        refine n_block ?_
        refine n_then ?_
        exact at_back2 (u / 10, [UInt8.ofNat (48 + u % 10)] ++ s) (by dsimp only; omega) ⟨rfl, rfl, trivial⟩ ⟨rfl, trivial⟩ .nil ⟨Has.pure (⟨by rw [hinv5.1]; exact digits_more (by omega), by dsimp only; omega, by have := ndig_more (u := u) (by omega); simp; omega⟩), trivial⟩ (HasAll.drop 1)
      have hc12 := Int.not_lt.1 (of_decide_eq_false hc12)
      refine at_exit ?_
      refine x_then ?_
      refine x_then ?_
      refine x_block ?_
      refine n_then ?_
      refine sr ?_
      refine sp2 hT ?_
      refine at_int (z' := ((48 + u : Nat) : Int)) (by rw [wrapU (by omega) (by omega)]; omega) ?_
      refine sp hT ?_
      refine at_int (z' := (((UInt8.ofNat (48 + u)).toNat : Nat) : Int)) (by rw [wrapU8 (by omega) (by omega), UInt8.toNat_ofNat']; omega) ?_
      refine at_one_byte (m := (UInt8.ofNat (48 + u))) rfl rfl rfl rfl rfl fun b2 => ?_
      refine ss (sti_bytesStr (reads_obj .head rfl) Tryz.underlying71 Tryz.underlying5 Tryz.underlying9 rfl rfl rfl (by simp)) ?_
      refine sp hT ?_
      refine ss (sti_cat rfl rfl rfl (by simp; omega)) ?_
      refine sp hT ?_
      refine nn ?_
      refine at_seq ?_
      refine sr ?_
      refine sp2 hT ?_
      refine nn ?_
      refine at_cond rfl (fun hc31 => ?_) (fun hc31 => ?_)
      · have hc31 := of_decide_eq_true hc31
        refine sr ?_
        refine sp hT ?_
        refine ss (sti_cat rfl rfl rfl (by simp; omega)) ?_
        refine sp hT ?_
        refine nn ?_
        refine at_ret ?_
        refine r_then ?_
        exact at_res1 () rfl (rv_tmp rfl) .nil trivial (by rw [spellN, hinv5.1, digits_last (u := u) (by omega)]; simp [hn])
      have hc31 := Int.not_lt.1 (of_decide_eq_false hc31)
      omega
    have hc8 := Int.not_lt.1 (of_decide_eq_false hc8)
    omega
  skip
  refine at_region ?_
  refine sp2 hT ?_
  refine at_int (z' := ((n.natAbs : Nat) : Int)) (by rw [wrapU (by omega) (by omega)]; omega) ?_
  refine sp hT ?_
  refine nn ?_
  refine sr ?_
  refine sp hT ?_
  refine nn ?_
  refine at_seq ?_
  refine sr ?_
  refine sp2 hT ?_
  refine nn ?_
  refine at_cond rfl (fun hc8 => ?_) (fun hc8 => ?_)
  · have hc8 := of_decide_eq_true hc8
    omega
  have hc8 := Int.not_lt.1 (of_decide_eq_false hc8)
  refine at_skip ?_
  refine n_then ?_
  refine at_seq ?_
  refine at_block ?_
  refine at_loop2 (ι := Nat × Bs) [(0, _)] ⟨rfl, trivial⟩ (fun ⟨u, s⟩ => [(3, .int .u64 (u : Nat)), (4, .string (bs s))]) (fun _ => []) (fun ⟨u, s⟩ => [Fact.pure (Lib.decDigits n.natAbs = Lib.decDigits u ++ s ∧ u ≤ 9223372036854775808 ∧ s.length + Lib.nDigits u ≤ 20)]) (fun ⟨u, s⟩ => u) (n.natAbs, []) ⟨rfl, rfl, trivial⟩ .nil ⟨Has.pure (⟨by simp, by omega, by have := Lib.nDigits_le20 n.natAbs (by omega); simp; omega⟩), trivial⟩ ?_
  rintro ⟨u, s⟩
  dsimp only
  refine at_know (Has.of mT0) fun hinv5 => ?_
  refine at_seq ?_
  refine sr ?_
  refine sp2 hT ?_
  refine nn ?_
  refine at_cond rfl (fun hc12 => ?_) (fun hc12 => ?_)
  · have hc12 := of_decide_eq_true hc12
    refine at_skip ?_
    refine n_then ?_
    refine at_block ?_
    refine sr ?_
    refine sp hT ?_
    refine ss (sti_rem rfl rfl rfl (by decide)) ?_
    refine at_int (z' := ((u % 10 : Nat) : Int)) (by rw [Int.tmod_eq_emod_of_nonneg (by omega)]; omega) ?_
    refine sp hT ?_
    refine at_int (z' := ((48 + u % 10 : Nat) : Int)) (by rw [wrapU (by omega) (by omega)]; omega) ?_
    refine sp hT ?_
    refine at_int (z' := (((UInt8.ofNat (48 + u % 10)).toNat : Nat) : Int)) (by rw [wrapU8 (by omega) (by omega), UInt8.toNat_ofNat']; omega) ?_
    refine at_one_byte (m := (UInt8.ofNat (48 + u % 10))) rfl rfl rfl rfl rfl fun b3 => ?_
    refine ss (sti_bytesStr (reads_obj .head rfl) Tryz.underlying71 Tryz.underlying5 Tryz.underlying9 rfl rfl rfl (by simp)) ?_
    refine sp hT ?_
    refine ss (sti_cat rfl rfl rfl (by simp; omega)) ?_
    refine sp hT ?_
    refine nn ?_
    refine at_region ?_
    refine sp hT ?_
    refine ss (sti_quo rfl rfl rfl (by decide)) ?_
    refine at_int (z' := ((u / 10 : Nat) : Int)) (by rw [Int.tdiv_eq_ediv_of_nonneg (by omega), wrapU (by omega) (by omega)]; omega) ?_
    refine sp hT ?_
    refine at_nil ?_
    refine n_block ?_
    refine n_then ?_
    exact at_back2 (u / 10, [UInt8.ofNat (48 + u % 10)] ++ s) (by dsimp only; omega) ⟨rfl, rfl, trivial⟩ ⟨rfl, trivial⟩ .nil ⟨Has.pure (⟨by rw [hinv5.1]; exact digits_more (by omega), by dsimp only; omega, by have := ndig_more (u := u) (by omega); simp; omega⟩), trivial⟩ (HasAll.drop 1)
  have hc12 := Int.not_lt.1 (of_decide_eq_false hc12)
  refine at_exit ?_
  refine x_then ?_
  refine x_then ?_
  refine x_block ?_
  refine n_then ?_
  refine sr ?_
  refine sp2 hT ?_
  refine at_int (z' := ((48 + u : Nat) : Int)) (by rw [wrapU (by omega) (by omega)]; omega) ?_
  refine sp hT ?_
  refine at_int (z' := (((UInt8.ofNat (48 + u)).toNat : Nat) : Int)) (by rw [wrapU8 (by omega) (by omega), UInt8.toNat_ofNat']; omega) ?_
  refine at_one_byte (m := (UInt8.ofNat (48 + u))) rfl rfl rfl rfl rfl fun b4 => ?_
  refine ss (sti_bytesStr (reads_obj .head rfl) Tryz.underlying71 Tryz.underlying5 Tryz.underlying9 rfl rfl rfl (by simp)) ?_
  refine sp hT ?_
  refine ss (sti_cat rfl rfl rfl (by simp; omega)) ?_
  refine sp hT ?_
  refine nn ?_
  refine at_seq ?_
  refine sr ?_
  refine sp2 hT ?_
  refine nn ?_
  refine at_cond rfl (fun hc31 => ?_) (fun hc31 => ?_)
  · have hc31 := of_decide_eq_true hc31
    omega
  have hc31 := Int.not_lt.1 (of_decide_eq_false hc31)
  refine at_skip ?_
  refine n_then ?_
  refine sr ?_
  refine sp2 hT ?_
  refine nn ?_
  refine at_ret ?_
  exact at_res1 () rfl (rv_tmp rfl) .nil trivial (by rw [spellN, hinv5.1, digits_last (u := u) (by omega), if_neg (by omega)]; simp)

set_option maxRecDepth 100000 in
theorem rspellW_spec (b : UInt8) (r : Bs) : Spec Tryz.prog 49 [.agg #[.int .i64 1, .int .i64 0, .string (bs (b :: r)), .int .i64 0]] [] [] (fun (_ : Unit) => .tuple #[.string (bs (if wordR (b :: r) then b :: r else [])), .bool (wordR (b :: r))]) (fun _ => []) (fun _ => []) := by
  have hT := refT_ok
  refine spec_of Tryz.func49 rfl Tryz.ntmps49 rfl ?_
  intro β hM
  refine sr ?_
  refine at_box rfl rfl rfl rfl rfl rfl fun b1 => ?_
  refine sp2 hT ?_
  refine nn ?_
  refine sr ?_
  refine sp hT ?_
  refine ss (ldO hT (knows_own (off := 2) .head)) ?_
  refine sp hT ?_
  refine nn ?_
  refine at_seq ?_
  refine sr ?_
  refine sp hT ?_
  refine ss (ldO hT (knows_own (off := 0) .head)) ?_
  refine nn ?_
  refine at_block ?_
  refine sr ?_
  refine sp hT ?_
  refine at_bool (t' := false) (by decide) ?_
  refine sp hT ?_
  refine nn ?_
  refine at_false rfl rfl ?_
  refine sr ?_
  refine sp hT ?_
  refine at_bool (t' := false) (by decide) ?_
  refine sp hT ?_
  refine nn ?_
  refine at_false rfl rfl ?_
  refine at_skip ?_
  refine n_block ?_
  refine n_then ?_
  refine at_seq ?_
  refine sr ?_
  refine sp2 hT ?_
  refine at_int (z' := (((b :: r).length : Nat) : Int)) rfl ?_
  refine sp2 hT ?_
  refine at_case (fun hg24 => ?_) (fun hg24 => ?_)
  · have hg24 := eq_of_beq hg24
    have : (b :: r).length = r.length + 1 := rfl
    omega
  have hg24 := beq_eq_false_iff_ne.1 hg24
  refine sp2 hT ?_
  refine at_int (z' := (((b :: r).length : Nat) : Int)) rfl ?_
  refine sp3 hT ?_
  refine at_case (fun hg29 => ?_) (fun hg29 => ?_)
  · have hg29 := of_decide_eq_true hg29
    refine sk3 ?_
    refine sp2 hT ?_
    refine sk3 ?_
    refine sp2 hT ?_
    refine sk3 ?_
    refine sp hT ?_
    refine nn ?_
    refine at_true rfl rfl ?_
    refine sr ?_
    refine sp2 hT ?_
    refine nn ?_
    refine at_ret ?_
    refine r_then ?_
    exact at_res2 () rfl (rv_tmp rfl) (rv_tmp rfl) .nil trivial (by first | (rw [wordR_yes (by omega) (by assumption) (by assumption) (by assumption) ht (by assumption) (by assumption) (by assumption) (by omega)]; rfl) | (rw [wordR_no (by first | exact .inl (by omega) | exact .inr (.inl (by assumption)) | exact .inr (.inr (.inl (by assumption))) | exact .inr (.inr (.inr (.inl (by assumption)))) | exact .inr (.inr (.inr (.inr (.inl ⟨_, ht⟩)))) | exact .inr (.inr (.inr (.inr (.inr ⟨_, _, _, _, ht, by first | exact .inl (by assumption) | exact .inr (.inl (by assumption)) | exact .inr (.inr (.inl (by assumption))) | exact .inr (.inr (.inr (by omega)))⟩)))))]; rfl))
  have hg29 := Int.not_lt.1 (of_decide_eq_false hg29)
  refine sp hT ?_
  refine ss (sti_sindex hT (k := 0) rfl rfl rfl rfl rfl rfl) ?_
  refine sp3 hT ?_
  refine at_case (fun hg34 => ?_) (fun hg34 => ?_)
  · have hg34 : b = 32 := u8_eqn (k := 32) (eq_of_beq hg34)
    refine sk3 ?_
    refine sp2 hT ?_
    refine sk3 ?_
    refine sp hT ?_
    refine nn ?_
    refine at_true rfl rfl ?_
    refine sr ?_
    refine sp2 hT ?_
    refine nn ?_
    refine at_ret ?_
    refine r_then ?_
    exact at_res2 () rfl (rv_tmp rfl) (rv_tmp rfl) .nil trivial (by first | (rw [wordR_yes (by omega) (by assumption) (by assumption) (by assumption) ht (by assumption) (by assumption) (by assumption) (by omega)]; rfl) | (rw [wordR_no (by first | exact .inl (by omega) | exact .inr (.inl (by assumption)) | exact .inr (.inr (.inl (by assumption))) | exact .inr (.inr (.inr (.inl (by assumption)))) | exact .inr (.inr (.inr (.inr (.inl ⟨_, ht⟩)))) | exact .inr (.inr (.inr (.inr (.inr ⟨_, _, _, _, ht, by first | exact .inl (by assumption) | exact .inr (.inl (by assumption)) | exact .inr (.inr (.inl (by assumption))) | exact .inr (.inr (.inr (by omega)))⟩)))))]; rfl))
  have hg34 : b ≠ 32 := u8_nen (k := 32) (beq_eq_false_iff_ne.1 hg34)
  refine sp hT ?_
  refine ss (sti_sindex hT (k := 0) rfl rfl rfl rfl rfl rfl) ?_
  refine sp3 hT ?_
  refine at_case (fun hg39 => ?_) (fun hg39 => ?_)
  · have hg39 : b = 9 := u8_eqn (k := 9) (eq_of_beq hg39)
    refine sk3 ?_
    refine sp hT ?_
    refine nn ?_
    refine at_true rfl rfl ?_
    refine sr ?_
    refine sp2 hT ?_
    refine nn ?_
    refine at_ret ?_
    refine r_then ?_
    exact at_res2 () rfl (rv_tmp rfl) (rv_tmp rfl) .nil trivial (by first | (rw [wordR_yes (by omega) (by assumption) (by assumption) (by assumption) ht (by assumption) (by assumption) (by assumption) (by omega)]; rfl) | (rw [wordR_no (by first | exact .inl (by omega) | exact .inr (.inl (by assumption)) | exact .inr (.inr (.inl (by assumption))) | exact .inr (.inr (.inr (.inl (by assumption)))) | exact .inr (.inr (.inr (.inr (.inl ⟨_, ht⟩)))) | exact .inr (.inr (.inr (.inr (.inr ⟨_, _, _, _, ht, by first | exact .inl (by assumption) | exact .inr (.inl (by assumption)) | exact .inr (.inr (.inl (by assumption))) | exact .inr (.inr (.inr (by omega)))⟩)))))]; rfl))
  have hg39 : b ≠ 9 := u8_nen (k := 9) (beq_eq_false_iff_ne.1 hg39)
  refine sp hT ?_
  refine ss (sti_sindex hT (k := 0) rfl rfl rfl rfl rfl rfl) ?_
  refine sp2 hT ?_
  refine nn ?_
  refine at_cond rfl (fun hc43 => ?_) (fun hc43 => ?_)
  · have hc43 : b = 35 := u8_eqn (k := 35) (eq_of_beq hc43)
    refine sr ?_
    refine sp2 hT ?_
    refine nn ?_
    refine at_ret ?_
    refine r_then ?_
    exact at_res2 () rfl (rv_tmp rfl) (rv_tmp rfl) .nil trivial (by first | (rw [wordR_yes (by omega) (by assumption) (by assumption) (by assumption) ht (by assumption) (by assumption) (by assumption) (by omega)]; rfl) | (rw [wordR_no (by first | exact .inl (by omega) | exact .inr (.inl (by assumption)) | exact .inr (.inr (.inl (by assumption))) | exact .inr (.inr (.inr (.inl (by assumption)))) | exact .inr (.inr (.inr (.inr (.inl ⟨_, ht⟩)))) | exact .inr (.inr (.inr (.inr (.inr ⟨_, _, _, _, ht, by first | exact .inl (by assumption) | exact .inr (.inl (by assumption)) | exact .inr (.inr (.inl (by assumption))) | exact .inr (.inr (.inr (by omega)))⟩)))))]; rfl))
  have hc43 : b ≠ 35 := u8_nen (k := 35) (beq_eq_false_iff_ne.1 hc43)
  refine at_skip ?_
  refine n_then ?_
  refine at_seq ?_
  rcases ht : tokenP (b :: r) with e | ⟨k, wd, v, m⟩
  · skip
    refine at_region ?_
    refine sp hT ?_
    refine at_call (callFunc_enter Tryz.func74 rfl rfl) (next_err b r (by omega) ht) rfl rfl rfl rfl rfl .nil trivial fun _ => ?_
    refine sp4 hT ?_
    refine at_alloc rfl rfl rfl rfl rrdigits_zero_api_Token rfl fun b2 => ?_
    refine sto hT .head ?_
    refine sp2 hT ?_
    refine nn ?_
    refine at_seq ?_
    refine sr ?_
    refine sp3 hT ?_
    refine at_case (fun hg52 => ?_) (fun hg52 => ?_)
    · have hg52 := bne_iff_ne.1 hg52
      refine sk4 ?_
      refine sp2 hT ?_
      refine sk4 ?_
      refine sk ?_
      refine sp2 hT ?_
      refine sk4 ?_
      refine sk ?_
      refine sp2 hT ?_
      refine sk4 ?_
      refine sk ?_
      refine sp hT ?_
      refine nn ?_
      refine at_true rfl rfl ?_
      refine sr ?_
      refine sp2 hT ?_
      refine nn ?_
      refine at_ret ?_
      refine r_then ?_
      exact at_res2 () rfl (rv_tmp rfl) (rv_tmp rfl) .nil trivial (by first | (rw [wordR_yes (by omega) (by assumption) (by assumption) (by assumption) ht (by assumption) (by assumption) (by assumption) (by omega)]; rfl) | (rw [wordR_no (by first | exact .inl (by omega) | exact .inr (.inl (by assumption)) | exact .inr (.inr (.inl (by assumption))) | exact .inr (.inr (.inr (.inl (by assumption)))) | exact .inr (.inr (.inr (.inr (.inl ⟨_, ht⟩)))) | exact .inr (.inr (.inr (.inr (.inr ⟨_, _, _, _, ht, by first | exact .inl (by assumption) | exact .inr (.inl (by assumption)) | exact .inr (.inr (.inl (by assumption))) | exact .inr (.inr (.inr (by omega)))⟩)))))]; rfl))
    have hg52 := bne_eq_false_iff_eq.1 hg52
    exact absurd (by assumption) (tok_code ht)
  have hm := tokenP_len ht
  dsimp only at hm
  refine at_region ?_
  refine sp hT ?_
  refine at_call (callFunc_enter Tryz.func74 rfl rfl) (next_ok b r (by omega) ht) rfl rfl rfl rfl rfl .nil trivial fun _ => ?_
  refine sp4 hT ?_
  refine at_alloc rfl rfl rfl rfl rrdigits_zero_api_Token rfl fun b3 => ?_
  refine sto hT .head ?_
  refine sp2 hT ?_
  refine nn ?_
  refine at_seq ?_
  refine sr ?_
  refine sp2 hT ?_
  refine at_bool (t' := false) (by decide) ?_
  refine sp4 hT ?_
  refine at_int (z' := (((b :: r).length : Nat) : Int)) rfl ?_
  refine sp3 hT ?_
  refine at_case (fun hg58 => ?_) (fun hg58 => ?_)
  · have hg58 := bne_iff_ne.1 hg58
    refine sk4 ?_
    refine sk ?_
    refine sp2 hT ?_
    refine sk4 ?_
    refine sk ?_
    refine sp2 hT ?_
    refine sk4 ?_
    refine sk ?_
    refine sp hT ?_
    refine nn ?_
    refine at_true rfl rfl ?_
    refine sr ?_
    refine sp2 hT ?_
    refine nn ?_
    refine at_ret ?_
    refine r_then ?_
    exact at_res2 () rfl (rv_tmp rfl) (rv_tmp rfl) .nil trivial (by first | (rw [wordR_yes (by omega) (by assumption) (by assumption) (by assumption) ht (by assumption) (by assumption) (by assumption) (by omega)]; rfl) | (rw [wordR_no (by first | exact .inl (by omega) | exact .inr (.inl (by assumption)) | exact .inr (.inr (.inl (by assumption))) | exact .inr (.inr (.inr (.inl (by assumption)))) | exact .inr (.inr (.inr (.inr (.inl ⟨_, ht⟩)))) | exact .inr (.inr (.inr (.inr (.inr ⟨_, _, _, _, ht, by first | exact .inl (by assumption) | exact .inr (.inl (by assumption)) | exact .inr (.inr (.inl (by assumption))) | exact .inr (.inr (.inr (by omega)))⟩)))))]; rfl))
  have hg58 := bne_eq_false_iff_eq.1 hg58
  refine sp hT ?_
  refine ss (ldO hT (knows_own (off := 0) .head)) ?_
  refine sp hT ?_
  refine ss (ldO hT (knows_own (off := 0) kT1)) ?_
  refine sp3 hT ?_
  refine at_case (fun hg65 => ?_) (fun hg65 => ?_)
  · have hg65 := bne_iff_ne.1 hg65
    refine sk4 ?_
    refine sk ?_
    refine sp2 hT ?_
    refine sk4 ?_
    refine sk ?_
    refine sp hT ?_
    refine nn ?_
    refine at_true rfl rfl ?_
    refine sr ?_
    refine sp2 hT ?_
    refine nn ?_
    refine at_ret ?_
    refine r_then ?_
    exact at_res2 () rfl (rv_tmp rfl) (rv_tmp rfl) .nil trivial (by first | (rw [wordR_yes (by omega) (by assumption) (by assumption) (by assumption) ht (by assumption) (by assumption) (by assumption) (by omega)]; rfl) | (rw [wordR_no (by first | exact .inl (by omega) | exact .inr (.inl (by assumption)) | exact .inr (.inr (.inl (by assumption))) | exact .inr (.inr (.inr (.inl (by assumption)))) | exact .inr (.inr (.inr (.inr (.inl ⟨_, ht⟩)))) | exact .inr (.inr (.inr (.inr (.inr ⟨_, _, _, _, ht, by first | exact .inl (by assumption) | exact .inr (.inl (by assumption)) | exact .inr (.inr (.inl (by assumption))) | exact .inr (.inr (.inr (by omega)))⟩)))))]; rfl))
  have hg65 := bne_eq_false_iff_eq.1 hg65
  refine sp hT ?_
  refine ss (ldO hT (knows_own (off := 2) .head)) ?_
  refine sp hT ?_
  refine ss (ldO hT (knows_own (off := 2) kT1)) ?_
  refine sp3 hT ?_
  refine at_case (fun hg72 => ?_) (fun hg72 => ?_)
  · have hg72 : wd ≠ (b :: r) := fun h => by rw [h] at hg72; first | (simp at hg72; done) | exact absurd hg72 (by decide)
    refine sk4 ?_
    refine sk ?_
    refine sp hT ?_
    refine nn ?_
    refine at_true rfl rfl ?_
    refine sr ?_
    refine sp2 hT ?_
    refine nn ?_
    refine at_ret ?_
    refine r_then ?_
    exact at_res2 () rfl (rv_tmp rfl) (rv_tmp rfl) .nil trivial (by first | (rw [wordR_yes (by omega) (by assumption) (by assumption) (by assumption) ht (by assumption) (by assumption) (by assumption) (by omega)]; rfl) | (rw [wordR_no (by first | exact .inl (by omega) | exact .inr (.inl (by assumption)) | exact .inr (.inr (.inl (by assumption))) | exact .inr (.inr (.inr (.inl (by assumption)))) | exact .inr (.inr (.inr (.inr (.inl ⟨_, ht⟩)))) | exact .inr (.inr (.inr (.inr (.inr ⟨_, _, _, _, ht, by first | exact .inl (by assumption) | exact .inr (.inl (by assumption)) | exact .inr (.inr (.inl (by assumption))) | exact .inr (.inr (.inr (by omega)))⟩)))))]; rfl))
  have hg72 : wd = (b :: r) := eq_of_beq (not_f hg72)
  refine sp hT ?_
  refine ss (ldO hT (knows_own (off := 3) .head)) ?_
  refine sp hT ?_
  refine ss (ldO hT (knows_own (off := 3) kT1)) ?_
  refine sp2 hT ?_
  refine nn ?_
  refine at_cond rfl (fun hc78 => ?_) (fun hc78 => ?_)
  · have hc78 := bne_iff_ne.1 hc78
    refine sr ?_
    refine sp2 hT ?_
    refine nn ?_
    refine at_ret ?_
    refine r_then ?_
    exact at_res2 () rfl (rv_tmp rfl) (rv_tmp rfl) .nil trivial (by first | (rw [wordR_yes (by omega) (by assumption) (by assumption) (by assumption) ht (by assumption) (by assumption) (by assumption) (by omega)]; rfl) | (rw [wordR_no (by first | exact .inl (by omega) | exact .inr (.inl (by assumption)) | exact .inr (.inr (.inl (by assumption))) | exact .inr (.inr (.inr (.inl (by assumption)))) | exact .inr (.inr (.inr (.inr (.inl ⟨_, ht⟩)))) | exact .inr (.inr (.inr (.inr (.inr ⟨_, _, _, _, ht, by first | exact .inl (by assumption) | exact .inr (.inl (by assumption)) | exact .inr (.inr (.inl (by assumption))) | exact .inr (.inr (.inr (by omega)))⟩)))))]; rfl))
  have hc78 := bne_eq_false_iff_eq.1 hc78
  refine at_skip ?_
  refine n_then ?_
  refine sr ?_
  refine sp3 hT ?_
  refine nn ?_
  refine at_ret ?_
  exact at_res2 () rfl (rv_tmp rfl) (rv_tmp rfl) .nil trivial (by first | (rw [wordR_yes (by omega) (by assumption) (by assumption) (by assumption) ht (by assumption) (by assumption) (by assumption) (by omega)]; rfl) | (rw [wordR_no (by first | exact .inl (by omega) | exact .inr (.inl (by assumption)) | exact .inr (.inr (.inl (by assumption))) | exact .inr (.inr (.inr (.inl (by assumption)))) | exact .inr (.inr (.inr (.inr (.inl ⟨_, ht⟩)))) | exact .inr (.inr (.inr (.inr (.inr ⟨_, _, _, _, ht, by first | exact .inl (by assumption) | exact .inr (.inl (by assumption)) | exact .inr (.inr (.inl (by assumption))) | exact .inr (.inr (.inr (by omega)))⟩)))))]; rfl))

set_option maxRecDepth 100000 in
theorem rspellN_spec (n : Int) (h0 : -9223372036854775808 ≤ n) (h1 : n ≤ 9223372036854775807) : Spec Tryz.prog 49 [.agg #[.int .i64 2, .int .i64 0, .string (bs []), .int .i64 n]] [] [] (fun (_ : Unit) => .tuple #[.string (bs (spellN n)), .bool true]) (fun _ => []) (fun _ => []) := by
  have hT := refT_ok
  refine spec_of Tryz.func49 rfl Tryz.ntmps49 rfl ?_
  intro β hM
  refine sr ?_
  refine at_box rfl rfl rfl rfl rfl rfl fun b1 => ?_
  refine sp2 hT ?_
  refine nn ?_
  refine sr ?_
  refine sp hT ?_
  refine ss (ldO hT (knows_own (off := 2) .head)) ?_
  refine sp hT ?_
  refine nn ?_
  refine at_seq ?_
  refine sr ?_
  refine sp hT ?_
  refine ss (ldO hT (knows_own (off := 0) .head)) ?_
  refine nn ?_
  refine at_block ?_
  refine sr ?_
  refine sp hT ?_
  refine at_bool (t' := true) (by decide) ?_
  refine sp hT ?_
  refine nn ?_
  refine at_true rfl rfl ?_
  refine at_region ?_
  refine sp hT ?_
  refine ss (ldO hT (knows_own (off := 3) .head)) ?_
  refine at_call (callFunc_enter Tryz.func73 rfl rfl) (rdigits_spec n h0 h1) rfl rfl rfl rfl rfl .nil trivial fun _ => ?_
  obtain ⟨b, r, hsp⟩ := spell_cons n
  have hb3 := spell_b hsp
  have hl := spell_len h0 h1
  have ht := tokenP_spell h0 h1
  rw [hsp] at hl ht
  refine at_val (congrArg (fun l : Bs => Value.string (bs l)) hsp) ?_
  refine sp hT ?_
  refine at_nil ?_
  refine n_block ?_
  refine n_then ?_
  refine at_seq ?_
  refine sr ?_
  refine sp2 hT ?_
  refine at_int (z' := (((b :: r).length : Nat) : Int)) rfl ?_
  refine sp hT ?_
  refine at_bool (t' := false) (by rw [beq_eq_false_iff_ne]; have : (b :: r).length = r.length + 1 := rfl; omega) ?_
  refine sp3 hT ?_
  refine at_int (z' := (((b :: r).length : Nat) : Int)) rfl ?_
  refine sp hT ?_
  refine at_bool (t' := false) (decide_eq_false (by omega)) ?_
  refine sp3 hT ?_
  refine ss (sti_sindex hT (k := 0) rfl rfl rfl rfl rfl rfl) ?_
  refine sp hT ?_
  refine at_bool (t' := false) (hb3.1) ?_
  refine sp3 hT ?_
  refine ss (sti_sindex hT (k := 0) rfl rfl rfl rfl rfl rfl) ?_
  refine sp hT ?_
  refine at_bool (t' := false) (hb3.2.1) ?_
  refine sp3 hT ?_
  refine ss (sti_sindex hT (k := 0) rfl rfl rfl rfl rfl rfl) ?_
  refine sp hT ?_
  refine at_bool (t' := false) (hb3.2.2) ?_
  refine sp hT ?_
  refine nn ?_
  refine at_false rfl rfl ?_
  refine at_skip ?_
  refine n_then ?_
  refine sr ?_
  refine sp hT ?_
  refine at_call (callFunc_enter Tryz.func74 rfl rfl) (next_ok b r (by omega) ht) rfl rfl rfl rfl rfl .nil trivial fun _ => ?_
  refine sp4 hT ?_
  refine at_alloc rfl rfl rfl rfl rrdigits_zero_api_Token rfl fun b2 => ?_
  refine sto hT .head ?_
  refine sp2 hT ?_
  refine nn ?_
  refine at_seq ?_
  refine sr ?_
  refine sp2 hT ?_
  refine at_bool (t' := false) (by decide) ?_
  refine sp4 hT ?_
  refine at_int (z' := (((b :: r).length : Nat) : Int)) rfl ?_
  refine sp hT ?_
  refine at_bool (t' := false) (by simp) ?_
  refine sp3 hT ?_
  refine ss (ldO hT (knows_own (off := 0) .head)) ?_
  refine sp hT ?_
  refine ss (ldO hT (knows_own (off := 0) kT1)) ?_
  refine sp hT ?_
  refine at_bool (t' := false) (by decide) ?_
  refine sp3 hT ?_
  refine ss (ldO hT (knows_own (off := 2) .head)) ?_
  refine sp hT ?_
  refine ss (ldO hT (knows_own (off := 2) kT1)) ?_
  refine sp hT ?_
  refine at_bool (t' := false) (by rfl) ?_
  refine sp3 hT ?_
  refine ss (ldO hT (knows_own (off := 3) .head)) ?_
  refine sp hT ?_
  refine ss (ldO hT (knows_own (off := 3) kT1)) ?_
  refine sp hT ?_
  refine at_bool (t' := false) (by simp) ?_
  refine sp hT ?_
  refine nn ?_
  refine at_false rfl rfl ?_
  refine at_skip ?_
  refine n_then ?_
  refine sr ?_
  refine sp3 hT ?_
  refine nn ?_
  refine at_ret ?_
  exact at_res2 () rfl (rv_tmp rfl) (rv_tmp rfl) .nil trivial (by rw [hsp])

end Go.Proofs.YtngkedmndhmjcaaGreatDoor
