/- Walks of the layer lex: signs, numbers, tokens. (Printed by wip/gen/lex.py.) -/
import Derived.Test.YtngkedmndhmjcaaGreatDoorLexS
namespace Go.Proofs.YtngkedmndhmjcaaGreatDoor
open Go.RowKit

theorem u8_eqn {b k : UInt8} (h : (b.toNat : Int) = (k.toNat : Int)) : b = k := UInt8.toNat_inj.1 (by omega)
theorem u8_nen {b k : UInt8} (h : (b.toNat : Int) ≠ (k.toNat : Int)) : b ≠ k := fun e => h (by rw [e])
theorem pre2 (k b : UInt8) (r : Bs) : [k, 61].isPrefixOf (b :: r) = (b == k && r.head? == some 61) := by
  cases r with
  | nil => simp [List.isPrefixOf]
  | cons c r =>
    show ((k == b) && (((61 : UInt8) == c) && true)) = (b == k && (c == 61))
    rw [show (k == b) = (b == k) from BEq.comm, show ((61 : UInt8) == c) = (c == 61) from BEq.comm, Bool.and_true]
section
variable {b : UInt8} {r : Bs}
theorem sign_a (h : ([60, 61] : Bs).isPrefixOf (b :: r) = true) : Value.int .i64 2 = Value.int .i64 ((signP (b :: r) : Nat) : Int) := by
  rw [pre2] at h
  simp only [Bool.and_eq_true, beq_iff_eq] at h
  simp [signP, h.1, h.2]
theorem sign_b (_ : ([60, 61] : Bs).isPrefixOf (b :: r) = false) (h : ([62, 61] : Bs).isPrefixOf (b :: r) = true) : Value.int .i64 2 = Value.int .i64 ((signP (b :: r) : Nat) : Int) := by
  rw [pre2] at h
  simp only [Bool.and_eq_true, beq_iff_eq] at h
  simp [signP, h.1, h.2]
theorem sign_no (h1 : ([60, 61] : Bs).isPrefixOf (b :: r) = false) (h2 : ([62, 61] : Bs).isPrefixOf (b :: r) = false) : ((b == 60 || b == 62) && r.head? == some 61) = false := by
  rw [pre2] at h1 h2
  generalize (b == 60) = x at *
  generalize (b == 62) = y at *
  generalize (r.head? == some 61) = z at *
  cases x <;> cases y <;> cases z <;> simp_all
theorem sign_c (h1 : ([60, 61] : Bs).isPrefixOf (b :: r) = false) (h2 : ([62, 61] : Bs).isPrefixOf (b :: r) = false) (h3 : (0 : Int) ≤ Lib.indexByte ([43, 45, 42, 37, 124, 61, 126, 60, 62, 47, 92, 46, 58, 40, 41] : Bs) b) : Value.int .i64 1 = Value.int .i64 ((signP (b :: r) : Nat) : Int) := by
  have h4 := (indexByte_in b ([43, 45, 42, 37, 124, 61, 126, 60, 62, 47, 92, 46, 58, 40, 41] : Bs)).1
  rw [decide_eq_true h3] at h4
  have h5 : signs.contains b = true := h4.symm
  simp only [signP, sign_no h1 h2, Bool.false_eq_true, if_false, h5, if_true]
  rfl
theorem sign_d (h1 : ([60, 61] : Bs).isPrefixOf (b :: r) = false) (h2 : ([62, 61] : Bs).isPrefixOf (b :: r) = false) (h3 : Lib.indexByte ([43, 45, 42, 37, 124, 61, 126, 60, 62, 47, 92, 46, 58, 40, 41] : Bs) b < 0) : Value.int .i64 0 = Value.int .i64 ((signP (b :: r) : Nat) : Int) := by
  have h4 := (indexByte_in b ([43, 45, 42, 37, 124, 61, 126, 60, 62, 47, 92, 46, 58, 40, 41] : Bs)).1
  rw [decide_eq_false (by omega)] at h4
  have h5 : signs.contains b = false := h4.symm
  simp only [signP, sign_no h1 h2, Bool.false_eq_true, if_false, h5]
  rfl
theorem run_all (p : UInt8 → Bool) : ∀ s : Bs, ∀ b ∈ s.take (runB p s), p b = true
  | [], _, h => by simp at h
  | c :: s, b, h => by
    unfold runB at h
    split at h
    · rename_i hc
      rw [List.take_succ_cons, List.mem_cons] at h
      rcases h with rfl | h
      · exact hc
      · exact run_all p s b h
    · simp at h
theorem take_ne {s : Bs} {k : Nat} (h : ((k : Nat) : Int) ≠ 0) (hk : k ≤ s.length) : s.take k ≠ [] := fun e => by
  have : (s.take k).length = 0 := by rw [e]; rfl
  rw [List.length_take] at this
  omega
/-- number's answer -/
def numV : Except Int (Option TokR) → Value
  | .error e => .tuple #[.int .i64 0, .int .i64 0, .int .i64 e]
  | .ok none => .tuple #[.int .i64 0, .int .i64 0, .int .i64 0]
  | .ok (some t) => .tuple #[.int .i64 t.2.2.1, .int .i64 (t.2.2.2 : Nat), .int .i64 0]
theorem num_m0 (hb : b = 95) : numTok b r = if runB digitB r = 0 then .ok none else match numP true (r.take (runB digitB r)) with
    | none => .error 32
    | some v => .ok (some (2, [], v, runB digitB r + 1)) := by
  subst hb
  rfl
theorem num_p0 (hb : b ≠ 95) : numTok b r = if runB digitB (b :: r) = 0 then .ok none else match numP false ((b :: r).take (runB digitB (b :: r))) with
    | none => .error 32
    | some v => .ok (some (2, [], v, runB digitB (b :: r) + 0)) := by
  have : (b == 95) = false := by simp [hb]
  unfold numTok
  rw [this]
  rfl
theorem cast0 {n : Nat} (h : ((n : Nat) : Int) = 0) : n = 0 := by omega
theorem castn {n : Nat} (h : ((n : Nat) : Int) ≠ 0) : n ≠ 0 := by omega
theorem num_mz (hb : b = 95) (hk : ((runB digitB ((b :: r).drop 1) : Nat) : Int) = 0) : Value.tuple #[.int .i64 0, .int .i64 0, .int .i64 0] = numV (numTok b r) := by
  have hk : runB digitB r = 0 := cast0 hk
  rw [num_m0 hb, if_pos hk]
  rfl
theorem num_me (hb : b = 95) (hk : ((runB digitB ((b :: r).drop 1) : Nat) : Int) ≠ 0) (hv : numP true (((b :: r).drop 1).take (runB digitB ((b :: r).drop 1))) = none) : Value.tuple #[.int .i64 0, .int .i64 0, .int .i64 32] = numV (numTok b r) := by
  have hk : ¬ runB digitB r = 0 := castn hk
  have hv : numP true (r.take (runB digitB r)) = none := hv
  rw [num_m0 hb, if_neg hk, hv]
  rfl
theorem num_mo {v : Int} (hb : b = 95) (hk : ((runB digitB ((b :: r).drop 1) : Nat) : Int) ≠ 0) (hv : numP true (((b :: r).drop 1).take (runB digitB ((b :: r).drop 1))) = some v) :
    Value.tuple #[.int .i64 v, .int .i64 (((runB digitB ((b :: r).drop 1)) + ([45] : Bs).length : Nat) : Int), .int .i64 0] = numV (numTok b r) := by
  have hk : ¬ runB digitB r = 0 := castn hk
  have hv : numP true (r.take (runB digitB r)) = some v := hv
  rw [num_m0 hb, if_neg hk, hv]
  rfl
theorem num_pz (hb : b ≠ 95) (hk : ((runB digitB (b :: r) : Nat) : Int) = 0) : Value.tuple #[.int .i64 0, .int .i64 0, .int .i64 0] = numV (numTok b r) := by
  rw [num_p0 hb, if_pos (cast0 hk)]
  rfl
theorem num_pe (hb : b ≠ 95) (hk : ((runB digitB (b :: r) : Nat) : Int) ≠ 0) (hv : numP false ((b :: r).take (runB digitB (b :: r))) = none) : Value.tuple #[.int .i64 0, .int .i64 0, .int .i64 32] = numV (numTok b r) := by
  rw [num_p0 hb, if_neg (castn hk), hv]
  rfl
theorem num_po {v : Int} (hb : b ≠ 95) (hk : ((runB digitB (b :: r) : Nat) : Int) ≠ 0) (hv : numP false ((b :: r).take (runB digitB (b :: r))) = some v) :
    Value.tuple #[.int .i64 v, .int .i64 (((runB digitB (b :: r)) + ([] : Bs).length : Nat) : Int), .int .i64 0] = numV (numTok b r) := by
  rw [num_p0 hb, if_neg (castn hk), hv]
  rfl
theorem numTok_err {e : Int} (h : numTok b r = .error e) : e = 32 := by
  unfold numTok at h
  by_cases hb : (b == 95) = true
  · simp only [hb, if_true] at h
    split at h
    · cases h
    · split at h
      · cases h; rfl
      · cases h
  · simp only [hb, Bool.false_eq_true, if_false] at h
    split at h
    · cases h
    · split at h
      · cases h; rfl
      · cases h
/-- token's answer -/
def tokVal : Except Int TokR → Value
  | .error e => .tuple #[.agg #[.int .i64 (if e = 32 then 2 else 0), .int .i64 0, .string (bs []), .int .i64 0], .int .i64 0, .int .i64 e]
  | .ok t => .tuple #[.agg #[.int .i64 t.1, .int .i64 0, .string (bs t.2.1), .int .i64 t.2.2.1], .int .i64 (t.2.2.2 : Nat), .int .i64 0]
section
variable (h1 : b ≠ 10) (h2 : letterB b = false)
theorem tk_line (h : b = 10) : Value.tuple #[.agg #[.int .i64 4, .int .i64 0, .string (bs []), .int .i64 0], .int .i64 1, .int .i64 0] = tokVal (tokenP (b :: r)) := by
  subst h
  rfl
include h1
theorem tk_word (h2 : letterB b = true) (h3 : ((runB wordB (b :: r) : Nat) : Int) ≤ 16) : Value.tuple #[.agg #[.int .i64 1, .int .i64 0, .string (bs ((b :: r).take (runB wordB (b :: r)))), .int .i64 0], .int .i64 (runB wordB (b :: r) : Nat), .int .i64 0] = tokVal (tokenP (b :: r)) := by
  have e : tokenP (b :: r) = .ok (1, (b :: r).take (runB wordB (b :: r)), 0, runB wordB (b :: r)) := by
    simp only [tokenP, beq_iff_eq, h1, if_false, h2, if_true]
    rw [if_neg (by omega)]
  rw [e]
  rfl
theorem tk_long (h2 : letterB b = true) (h3 : (16 : Int) < ((runB wordB (b :: r) : Nat) : Int)) : Value.tuple #[.agg #[.int .i64 0, .int .i64 0, .string (bs []), .int .i64 0], .int .i64 0, .int .i64 33] = tokVal (tokenP (b :: r)) := by
  have e : tokenP (b :: r) = .error 33 := by
    simp only [tokenP, beq_iff_eq, h1, if_false, h2, if_true]
    rw [if_pos (by omega)]
  rw [e]
  rfl
include h2
theorem tk_num1 {e : Int} (h : numTok b r = .error e) (he : e = 32) : Value.tuple #[.agg #[.int .i64 2, .int .i64 0, .string (bs []), .int .i64 0], .int .i64 0, .int .i64 e] = tokVal (tokenP (b :: r)) := by
  have q : tokenP (b :: r) = .error e := by
    simp only [tokenP, beq_iff_eq, h1, if_false, h2, Bool.false_eq_true, h]
  rw [q, he]
  rfl
theorem tk_num2 {kk v : Int} {ww : Bs} {m : Nat} (h : numTok b r = .ok (some (kk, ww, v, m))) : Value.tuple #[.agg #[.int .i64 2, .int .i64 0, .string (bs []), .int .i64 v], .int .i64 (m : Nat), .int .i64 0] = tokVal (tokenP (b :: r)) := by
  have q : tokenP (b :: r) = .ok (kk, ww, v, m) := by
    simp only [tokenP, beq_iff_eq, h1, if_false, h2, Bool.false_eq_true, h]
  have hk : kk = 2 ∧ ww = [] := by
    unfold numTok at h
    by_cases hb : (b == 95) = true
    · simp only [hb, if_true] at h
      split at h
      · cases h
      · split at h
        · cases h
        · cases h; exact ⟨rfl, rfl⟩
    · simp only [hb, Bool.false_eq_true, if_false] at h
      split at h
      · cases h
      · split at h
        · cases h
        · cases h; exact ⟨rfl, rfl⟩
  rw [q, hk.1, hk.2]
  rfl
theorem tk_byte (h : numTok b r = .ok none) (h3 : ((signP (b :: r) : Nat) : Int) = 0) : Value.tuple #[.agg #[.int .i64 0, .int .i64 0, .string (bs []), .int .i64 0], .int .i64 0, .int .i64 31] = tokVal (tokenP (b :: r)) := by
  have e : tokenP (b :: r) = .error 31 := by
    simp only [tokenP, beq_iff_eq, h1, if_false, h2, Bool.false_eq_true, h]
    rw [if_pos (cast0 h3)]
  rw [e]
  rfl
theorem tk_sign (h : numTok b r = .ok none) (h3 : ((signP (b :: r) : Nat) : Int) ≠ 0) : Value.tuple #[.agg #[.int .i64 3, .int .i64 0, .string (bs ((b :: r).take (signP (b :: r)))), .int .i64 0], .int .i64 (signP (b :: r) : Nat), .int .i64 0] = tokVal (tokenP (b :: r)) := by
  have e : tokenP (b :: r) = .ok (3, (b :: r).take (signP (b :: r)), 0, signP (b :: r)) := by
    simp only [tokenP, beq_iff_eq, h1, if_false, h2, Bool.false_eq_true, h]
    rw [if_neg (castn h3)]
  rw [e]
  rfl
end
end


set_option maxRecDepth 100000 in
theorem sign_spec (b : UInt8) (r : Bs) : Spec Tryz.prog 41 [.string (bs (b :: r))] [] [] (fun (_ : Unit) => .int .i64 (signP (b :: r) : Nat)) (fun _ => []) (fun _ => []) := by
  have hT := showT_ok
  refine spec_of Tryz.func41 rfl Tryz.ntmps41 rfl ?_
  intro β hM
  refine sr ?_
  refine sp hT ?_
  refine nn ?_
  refine at_seq ?_
  refine at_block ?_
  refine sr ?_
  refine sp hT ?_
  refine at_call (callFunc_enter Tryz.func58 rfl rfl) (hasPrefix_spec _ ([60, 61] : Bs)) rfl rfl rfl rfl rfl .nil trivial fun _ => ?_
  refine sp hT ?_
  refine at_case (fun hg6 => ?_) (fun hg6 => ?_)
  · refine sk2 ?_
    refine sp2 hT ?_
    refine nn ?_
    refine at_true rfl rfl ?_
    refine sr ?_
    refine sp hT ?_
    refine nn ?_
    refine at_ret ?_
    refine r_block ?_
    refine r_then ?_
    exact at_res1 () rfl (rv_tmp rfl) .nil trivial (by first | exact sign_a hg6 | exact sign_b hg6 hc3 | exact sign_c hg6 hc3 hc10 | exact sign_d hg6 hc3 hc10)
  refine sp hT ?_
  refine at_call (callFunc_enter Tryz.func58 rfl rfl) (hasPrefix_spec _ ([62, 61] : Bs)) rfl rfl rfl rfl rfl .nil trivial fun _ => ?_
  refine sp2 hT ?_
  refine nn ?_
  refine at_cond rfl (fun hc3 => ?_) (fun hc3 => ?_)
  · refine sr ?_
    refine sp hT ?_
    refine nn ?_
    refine at_ret ?_
    refine r_block ?_
    refine r_then ?_
    exact at_res1 () rfl (rv_tmp rfl) .nil trivial (by first | exact sign_a hg6 | exact sign_b hg6 hc3 | exact sign_c hg6 hc3 hc10 | exact sign_d hg6 hc3 hc10)
  refine sr ?_
  refine sp hT ?_
  refine ss (sti_sindex hT (k := 0) rfl rfl rfl rfl rfl rfl) ?_
  refine at_call (callFunc_enter Tryz.func59 rfl rfl) (indexByte_spec ([43, 45, 42, 37, 124, 61, 126, 60, 62, 47, 92, 46, 58, 40, 41] : Bs) b) rfl rfl rfl rfl rfl .nil trivial fun _ => ?_
  refine sp2 hT ?_
  refine nn ?_
  refine at_cond rfl (fun hc10 => ?_) (fun hc10 => ?_)
  · have hc10 := of_decide_eq_true hc10
    refine sr ?_
    refine sp hT ?_
    refine nn ?_
    refine at_ret ?_
    refine r_block ?_
    refine r_then ?_
    exact at_res1 () rfl (rv_tmp rfl) .nil trivial (by first | exact sign_a hg6 | exact sign_b hg6 hc3 | exact sign_c hg6 hc3 hc10 | exact sign_d hg6 hc3 hc10)
  have hc10 := Int.not_le.1 (of_decide_eq_false hc10)
  refine at_skip ?_
  refine n_block ?_
  refine n_then ?_
  refine sr ?_
  refine sp hT ?_
  refine nn ?_
  refine at_ret ?_
  exact at_res1 () rfl (rv_tmp rfl) .nil trivial (by first | exact sign_a hg6 | exact sign_b hg6 hc3 | exact sign_c hg6 hc3 hc10 | exact sign_d hg6 hc3 hc10)

set_option maxRecDepth 100000 in
theorem number_spec (b : UInt8) (r : Bs) (hl : (b :: r).length ≤ 65536) : Spec Tryz.prog 40 [.string (bs (b :: r))] [] [globF] (fun (_ : Unit) => numV (numTok b r)) (fun _ => []) (fun _ => []) := by
  have hT := showT_ok
  refine spec_of Tryz.func40 rfl Tryz.ntmps40 rfl ?_
  intro β hM
  refine sr ?_
  refine sp3 hT ?_
  refine nn ?_
  refine sr ?_
  refine sp3 hT ?_
  refine nn ?_
  refine at_seq ?_
  refine sr ?_
  refine sp hT ?_
  refine ss (sti_sindex hT (k := 0) rfl rfl rfl rfl rfl rfl) ?_
  refine sp hT ?_
  refine nn ?_
  refine at_cond rfl (fun hc13 => ?_) (fun hc13 => ?_)
  · have hc13 : b = 95 := u8_eqn (k := 95) (eq_of_beq hc13)
    refine at_region ?_
    refine sp hT ?_
    refine ss (sti_sfrom hT (k := 1) rfl rfl rfl rfl rfl (by simp)) ?_
    refine sp2 hT ?_
    refine nn ?_
    refine sr ?_
    refine sp hT ?_
    refine at_call (callFunc_enter Tryz.func23 rfl rfl) (run_spec ((b :: r).drop 1) (by simp at *; omega) _ digitB (callFunc_enter Tryz.func39 rfl rfl) digit_spec) rfl rfl rfl rfl rfl .nil trivial fun _ => ?_
    refine sp hT ?_
    refine nn ?_
    refine at_seq ?_
    refine at_seq ?_
    have hrl : runB digitB ((b :: r).drop 1) ≤ 65536 := Nat.le_trans (runB_le _ _) (by simp at *; omega)
    refine at_region ?_
    refine sp2 hT ?_
    refine nn ?_
    refine at_cond rfl (fun hc19 => ?_) (fun hc19 => ?_)
    · have hc19 := eq_of_beq hc19
      refine sr ?_
      refine sp3 hT ?_
      refine nn ?_
      refine at_ret ?_
      refine r_then ?_
      exact at_res3 () rfl (rv_tmp rfl) (rv_tmp rfl) (rv_tmp rfl) .nil trivial (num_mz hc13 hc19)
    have hc19 := beq_eq_false_iff_ne.1 hc19
    have hrl' := runB_le digitB ((b :: r).drop 1)
    refine at_skip ?_
    refine n_then ?_
    refine at_seq ?_
    rcases hv : numP true (((b :: r).drop 1).take (runB digitB ((b :: r).drop 1))) with _ | v
    · have num_ne : (((b :: r).drop 1).take (runB digitB ((b :: r).drop 1))) ≠ [] := take_ne hc19 hrl'
      refine at_region ?_
      refine sp3 hT ?_
      refine ss (sti_sto hT (k := (runB digitB ((b :: r).drop 1))) rfl rfl rfl rfl rfl (runB_le _ _)) ?_
      refine ss (sti_cat rfl rfl rfl (by simp at *; omega)) ?_
      refine at_call (callFunc_enter Tryz.func57 rfl rfl) (parseInt_range true (((b :: r).drop 1).take (runB digitB ((b :: r).drop 1))) num_ne (run_all _ _) (by simp at *; omega) hv) rfl rfl rfl rfl rfl .nil ⟨Has.of mT0, trivial⟩ fun ⟨z1, N2⟩ => ?_
      refine sp4 hT ?_
      refine sp hT ?_
      refine nn ?_
      refine at_seq ?_
      refine sr ?_
      refine sp hT ?_
      refine ss (sti_err Tryz.underlying107 rfl rfl) ?_
      refine nn ?_
      refine at_true rfl rfl ?_
      refine sr ?_
      refine sp3 hT ?_
      refine nn ?_
      refine at_ret ?_
      refine r_then ?_
      exact at_res3 () rfl (rv_tmp rfl) (rv_tmp rfl) (rv_tmp rfl) .nil trivial (num_me hc13 hc19 hv)
    have num_ne : (((b :: r).drop 1).take (runB digitB ((b :: r).drop 1))) ≠ [] := take_ne hc19 hrl'
    refine at_region ?_
    refine sp3 hT ?_
    refine ss (sti_sto hT (k := (runB digitB ((b :: r).drop 1))) rfl rfl rfl rfl rfl (runB_le _ _)) ?_
    refine ss (sti_cat rfl rfl rfl (by simp at *; omega)) ?_
    refine at_call (callFunc_enter Tryz.func57 rfl rfl) (parseInt_ok true (((b :: r).drop 1).take (runB digitB ((b :: r).drop 1))) num_ne (run_all _ _) (by simp at *; omega) hv) rfl rfl rfl rfl rfl .nil trivial fun _ => ?_
    refine sp4 hT ?_
    refine sp hT ?_
    refine nn ?_
    refine at_seq ?_
    refine sr ?_
    refine sp hT ?_
    refine ss (sti_noerr Tryz.underlying107 rfl rfl) ?_
    refine nn ?_
    refine at_false rfl rfl ?_
    refine at_skip ?_
    refine n_then ?_
    refine at_seq ?_
    have hq1 : ([45] : Bs).length = 1 := rfl
    have hq0 : ([] : Bs).length = 0 := rfl
    refine at_region ?_
    refine sp4 hT ?_
    refine at_int (z' := ((([45] : Bs).length : Nat) : Int)) rfl ?_
    refine sp hT ?_
    refine at_int (z' := ((((runB digitB ((b :: r).drop 1)) + ([45] : Bs).length) : Nat) : Int)) (wrapN (by omega) (by omega)) ?_
    refine sp3 hT ?_
    refine nn ?_
    refine at_ret ?_
    exact at_res3 () rfl (rv_tmp rfl) (rv_tmp rfl) (rv_tmp rfl) .nil trivial (num_mo hc13 hc19 hv)
  have hc13 : b ≠ 95 := u8_nen (k := 95) (beq_eq_false_iff_ne.1 hc13)
  refine at_skip ?_
  refine n_then ?_
  refine sr ?_
  refine sp hT ?_
  refine at_call (callFunc_enter Tryz.func23 rfl rfl) (run_spec (b :: r) (by simp at *; omega) _ digitB (callFunc_enter Tryz.func39 rfl rfl) digit_spec) rfl rfl rfl rfl rfl .nil trivial fun _ => ?_
  refine sp hT ?_
  refine nn ?_
  refine at_seq ?_
  refine at_seq ?_
  have hrl : runB digitB (b :: r) ≤ 65536 := Nat.le_trans (runB_le _ _) (by simp at *; omega)
  refine at_region ?_
  refine sp2 hT ?_
  refine nn ?_
  refine at_cond rfl (fun hc19 => ?_) (fun hc19 => ?_)
  · have hc19 := eq_of_beq hc19
    refine sr ?_
    refine sp3 hT ?_
    refine nn ?_
    refine at_ret ?_
    refine r_then ?_
    exact at_res3 () rfl (rv_tmp rfl) (rv_tmp rfl) (rv_tmp rfl) .nil trivial (num_pz hc13 hc19)
  have hc19 := beq_eq_false_iff_ne.1 hc19
  have hrl' := runB_le digitB (b :: r)
  refine at_skip ?_
  refine n_then ?_
  refine at_seq ?_
  rcases hv : numP false ((b :: r).take (runB digitB (b :: r))) with _ | v
  · have num_ne : ((b :: r).take (runB digitB (b :: r))) ≠ [] := take_ne hc19 hrl'
    refine at_region ?_
    refine sp3 hT ?_
    refine ss (sti_sto hT (k := (runB digitB (b :: r))) rfl rfl rfl rfl rfl (runB_le _ _)) ?_
    refine ss (sti_cat rfl rfl rfl (by simp at *; omega)) ?_
    refine at_call (callFunc_enter Tryz.func57 rfl rfl) (parseInt_range false ((b :: r).take (runB digitB (b :: r))) num_ne (run_all _ _) (by simp at *; omega) hv) rfl rfl rfl rfl rfl .nil ⟨Has.of mT0, trivial⟩ fun ⟨z3, N4⟩ => ?_
    refine sp4 hT ?_
    refine sp hT ?_
    refine nn ?_
    refine at_seq ?_
    refine sr ?_
    refine sp hT ?_
    refine ss (sti_err Tryz.underlying107 rfl rfl) ?_
    refine nn ?_
    refine at_true rfl rfl ?_
    refine sr ?_
    refine sp3 hT ?_
    refine nn ?_
    refine at_ret ?_
    refine r_then ?_
    exact at_res3 () rfl (rv_tmp rfl) (rv_tmp rfl) (rv_tmp rfl) .nil trivial (num_pe hc13 hc19 hv)
  have num_ne : ((b :: r).take (runB digitB (b :: r))) ≠ [] := take_ne hc19 hrl'
  refine at_region ?_
  refine sp3 hT ?_
  refine ss (sti_sto hT (k := (runB digitB (b :: r))) rfl rfl rfl rfl rfl (runB_le _ _)) ?_
  refine ss (sti_cat rfl rfl rfl (by simp at *; omega)) ?_
  refine at_call (callFunc_enter Tryz.func57 rfl rfl) (parseInt_ok false ((b :: r).take (runB digitB (b :: r))) num_ne (run_all _ _) (by simp at *; omega) hv) rfl rfl rfl rfl rfl .nil trivial fun _ => ?_
  refine sp4 hT ?_
  refine sp hT ?_
  refine nn ?_
  refine at_seq ?_
  refine sr ?_
  refine sp hT ?_
  refine ss (sti_noerr Tryz.underlying107 rfl rfl) ?_
  refine nn ?_
  refine at_false rfl rfl ?_
  refine at_skip ?_
  refine n_then ?_
  refine at_seq ?_
  have hq1 : ([45] : Bs).length = 1 := rfl
  have hq0 : ([] : Bs).length = 0 := rfl
  refine at_region ?_
  refine sp4 hT ?_
  refine at_int (z' := ((([] : Bs).length : Nat) : Int)) rfl ?_
  refine sp hT ?_
  refine at_int (z' := ((((runB digitB (b :: r)) + ([] : Bs).length) : Nat) : Int)) (wrapN (by omega) (by omega)) ?_
  refine sp3 hT ?_
  refine nn ?_
  refine at_ret ?_
  exact at_res3 () rfl (rv_tmp rfl) (rv_tmp rfl) (rv_tmp rfl) .nil trivial (num_po hc13 hc19 hv)

end Go.Proofs.YtngkedmndhmjcaaGreatDoor
