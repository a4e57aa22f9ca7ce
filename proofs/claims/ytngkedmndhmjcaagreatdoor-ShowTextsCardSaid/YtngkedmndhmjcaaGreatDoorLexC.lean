/- Walks of the layer lex: tokens. (Printed by wip/gen/lex.py.) -/
import Derived.Test.YtngkedmndhmjcaaGreatDoorLexB
namespace Go.Proofs.YtngkedmndhmjcaaGreatDoor
open Go.RowKit

theorem number_err {e : Int} (b : UInt8) (r : Bs) (hl : (b :: r).length ≤ 65536) (h : numTok b r = .error e) : Spec Tryz.prog 40 [.string (bs (b :: r))] [] [globF] (fun _ : Unit => .tuple #[.int .i64 0, .int .i64 0, .int .i64 e]) (fun _ => []) (fun _ => []) := by
  have := number_spec b r hl
  rw [h] at this
  exact this
theorem number_none (b : UInt8) (r : Bs) (hl : (b :: r).length ≤ 65536) (h : numTok b r = .ok none) : Spec Tryz.prog 40 [.string (bs (b :: r))] [] [globF] (fun _ : Unit => .tuple #[.int .i64 0, .int .i64 0, .int .i64 0]) (fun _ => []) (fun _ => []) := by
  have := number_spec b r hl
  rw [h] at this
  exact this
theorem number_some {kk v : Int} {ww : Bs} {m : Nat} (b : UInt8) (r : Bs) (hl : (b :: r).length ≤ 65536) (h : numTok b r = .ok (some (kk, ww, v, m))) : Spec Tryz.prog 40 [.string (bs (b :: r))] [] [globF] (fun _ : Unit => .tuple #[.int .i64 v, .int .i64 (m : Nat), .int .i64 0]) (fun _ => []) (fun _ => []) := by
  have := number_spec b r hl
  rw [h] at this
  exact this
theorem token_zero_api_Token : (Tryz.prog.info? 54).bind (·.zero) = some (.agg #[.int .i64 0, .int .i64 0, .string (bs []), .int .i64 0]) := by kernel_rfl
theorem token_built_api_Token_0 (z0 : Int) : Tryz.prog.built 54 [(0, .int .i64 z0)] = some #[.int .i64 z0, .int .i64 0, .string (bs []), .int .i64 0] := by kernel_rfl
theorem token_built_api_Token_  : Tryz.prog.built 54 [] = some #[.int .i64 0, .int .i64 0, .string (bs []), .int .i64 0] := by kernel_rfl
theorem token_built_api_Token_02 (z0 : Int) (s2 : ByteArray) : Tryz.prog.built 54 [(0, .int .i64 z0), (2, .string s2)] = some #[.int .i64 z0, .int .i64 0, .string s2, .int .i64 0] := by kernel_rfl
theorem token_built_api_Token_03 (z0 : Int) (z3 : Int) : Tryz.prog.built 54 [(0, .int .i64 z0), (3, .int .i64 z3)] = some #[.int .i64 z0, .int .i64 0, .string (bs []), .int .i64 z3] := by kernel_rfl

set_option maxRecDepth 100000 in
theorem token_spec (b : UInt8) (r : Bs) (hl : (b :: r).length ≤ 65536) : Spec Tryz.prog 25 [.string (bs (b :: r))] [] [globF] (fun (_ : Unit) => tokVal (tokenP (b :: r))) (fun _ => []) (fun _ => []) := by
  have hT := showT_ok
  refine spec_of Tryz.func25 rfl Tryz.ntmps25 rfl ?_
  intro β hM
  refine sr ?_
  refine at_alloc rfl rfl rfl rfl token_zero_api_Token rfl fun b1 => ?_
  refine sp2 hT ?_
  refine nn ?_
  refine at_seq ?_
  refine sr ?_
  refine sp hT ?_
  refine ss (sti_sindex hT (k := 0) rfl rfl rfl rfl rfl rfl) ?_
  refine sp hT ?_
  refine nn ?_
  refine at_cond rfl (fun hc11 => ?_) (fun hc11 => ?_)
  · have hc11 : b = 10 := u8_eqn (k := 10) (eq_of_beq hc11)
    refine sr ?_
    refine ss (sti_build rfl rfl (token_built_api_Token_0 _)) ?_
    refine sto hT .head ?_
    refine sp2 hT ?_
    refine nn ?_
    refine at_ret ?_
    refine r_then ?_
    exact at_res3 () rfl (rv_cell hT (knows_own (off := 0) .head) rfl rfl rfl rfl) (rv_tmp rfl) (rv_tmp rfl) .nil trivial (by first | exact tk_line hc11 | exact tk_long hc11 hc15 hc19 | exact tk_word hc11 hc15 hc19 | exact tk_num1 hc11 hc15 hnt he | exact tk_num2 hc11 hc15 hnt | exact tk_byte hc11 hc15 hnt hc45 | exact tk_sign hc11 hc15 hnt hc45)
  have hc11 : b ≠ 10 := u8_nen (k := 10) (beq_eq_false_iff_ne.1 hc11)
  refine at_skip ?_
  refine n_then ?_
  refine at_seq ?_
  refine sr ?_
  refine sp hT ?_
  refine ss (sti_sindex hT (k := 0) rfl rfl rfl rfl rfl rfl) ?_
  refine at_call (callFunc_enter Tryz.func37 rfl rfl) (letter_spec _) rfl rfl rfl rfl rfl .nil trivial fun _ => ?_
  refine nn ?_
  refine at_cond rfl (fun hc15 => ?_) (fun hc15 => ?_)
  · refine sr ?_
    refine sp hT ?_
    refine at_call (callFunc_enter Tryz.func23 rfl rfl) (run_spec (b :: r) (by omega) _ wordB (callFunc_enter Tryz.func38 rfl rfl) word_spec) rfl rfl rfl rfl rfl .nil trivial fun _ => ?_
    refine sp hT ?_
    refine nn ?_
    refine at_seq ?_
    refine sr ?_
    refine sp2 hT ?_
    refine nn ?_
    refine at_cond rfl (fun hc19 => ?_) (fun hc19 => ?_)
    · have hc19 := of_decide_eq_true hc19
      refine sr ?_
      refine ss (sti_build rfl rfl (token_built_api_Token_)) ?_
      refine sto hT .head ?_
      refine sp2 hT ?_
      refine nn ?_
      refine at_ret ?_
      refine r_then ?_
      refine r_then ?_
      exact at_res3 () rfl (rv_cell hT (knows_own (off := 0) .head) rfl rfl rfl rfl) (rv_tmp rfl) (rv_tmp rfl) .nil trivial (by first | exact tk_line hc11 | exact tk_long hc11 hc15 hc19 | exact tk_word hc11 hc15 hc19 | exact tk_num1 hc11 hc15 hnt he | exact tk_num2 hc11 hc15 hnt | exact tk_byte hc11 hc15 hnt hc45 | exact tk_sign hc11 hc15 hnt hc45)
    have hc19 := Int.not_lt.1 (of_decide_eq_false hc19)
    refine at_skip ?_
    refine n_then ?_
    refine sr ?_
    refine sp2 hT ?_
    refine ss (sti_sto hT (k := (runB wordB (b :: r))) rfl rfl rfl rfl rfl (runB_le _ _)) ?_
    refine ss (sti_build rfl rfl (token_built_api_Token_02 _ _)) ?_
    refine sp hT ?_
    refine sto hT .head ?_
    refine sp2 hT ?_
    refine nn ?_
    refine at_ret ?_
    refine r_then ?_
    exact at_res3 () rfl (rv_cell hT (knows_own (off := 0) .head) rfl rfl rfl rfl) (rv_tmp rfl) (rv_tmp rfl) .nil trivial (by first | exact tk_line hc11 | exact tk_long hc11 hc15 hc19 | exact tk_word hc11 hc15 hc19 | exact tk_num1 hc11 hc15 hnt he | exact tk_num2 hc11 hc15 hnt | exact tk_byte hc11 hc15 hnt hc45 | exact tk_sign hc11 hc15 hnt hc45)
  refine at_skip ?_
  refine n_then ?_
  refine at_seq ?_
  rcases hnt : numTok b r with e | _ | ⟨kk, ww, v, m⟩
  · have he := numTok_err hnt
    refine at_region ?_
    refine sp hT ?_
    refine at_call (callFunc_enter Tryz.func40 rfl rfl) (number_err b r hl hnt) rfl rfl rfl rfl rfl .nil ⟨Has.of mT0, trivial⟩ fun _ => ?_
    refine sp4 hT ?_
    refine sp3 hT ?_
    refine nn ?_
    refine at_seq ?_
    refine sr ?_
    refine sp2 hT ?_
    refine at_bool (t' := false) (by decide) ?_
    refine sp4 hT ?_
    refine nn ?_
    refine at_cond rfl (fun hc37 => ?_) (fun hc37 => ?_)
    · have hc37 := bne_iff_ne.1 hc37
      refine sr ?_
      refine sp hT ?_
      refine ss (sti_build rfl rfl (token_built_api_Token_03 _ _)) ?_
      refine sp2 hT ?_
      refine sto hT .head ?_
      refine sp2 hT ?_
      refine nn ?_
      refine at_ret ?_
      refine r_then ?_
      exact at_res3 () rfl (rv_cell hT (knows_own (off := 0) .head) rfl rfl rfl rfl) (rv_tmp rfl) (rv_tmp rfl) .nil trivial (by first | exact tk_line hc11 | exact tk_long hc11 hc15 hc19 | exact tk_word hc11 hc15 hc19 | exact tk_num1 hc11 hc15 hnt he | exact tk_num2 hc11 hc15 hnt | exact tk_byte hc11 hc15 hnt hc45 | exact tk_sign hc11 hc15 hnt hc45)
    have hc37 := bne_eq_false_iff_eq.1 hc37
    omega
  · skip
    refine at_region ?_
    refine sp hT ?_
    refine at_call (callFunc_enter Tryz.func40 rfl rfl) (number_none b r hl hnt) rfl rfl rfl rfl rfl .nil ⟨Has.of mT0, trivial⟩ fun _ => ?_
    refine sp4 hT ?_
    refine sp3 hT ?_
    refine nn ?_
    refine at_seq ?_
    refine sr ?_
    refine sp2 hT ?_
    refine at_bool (t' := false) (by decide) ?_
    refine sp3 hT ?_
    refine at_bool (t' := false) (by decide) ?_
    refine sp hT ?_
    refine nn ?_
    refine at_false rfl rfl ?_
    refine at_skip ?_
    refine n_then ?_
    refine at_seq ?_
    refine sr ?_
    refine sp hT ?_
    refine at_call (callFunc_enter Tryz.func41 rfl rfl) (sign_spec b r) rfl rfl rfl rfl rfl .nil trivial fun _ => ?_
    refine sp hT ?_
    refine nn ?_
    refine sr ?_
    refine sp2 hT ?_
    refine nn ?_
    refine at_cond rfl (fun hc45 => ?_) (fun hc45 => ?_)
    · have hc45 := eq_of_beq hc45
      refine sr ?_
      refine ss (sti_build rfl rfl (token_built_api_Token_)) ?_
      refine sto hT .head ?_
      refine sp2 hT ?_
      refine nn ?_
      refine at_ret ?_
      refine r_then ?_
      exact at_res3 () rfl (rv_cell hT (knows_own (off := 0) .head) rfl rfl rfl rfl) (rv_tmp rfl) (rv_tmp rfl) .nil trivial (by first | exact tk_line hc11 | exact tk_long hc11 hc15 hc19 | exact tk_word hc11 hc15 hc19 | exact tk_num1 hc11 hc15 hnt he | exact tk_num2 hc11 hc15 hnt | exact tk_byte hc11 hc15 hnt hc45 | exact tk_sign hc11 hc15 hnt hc45)
    have hc45 := beq_eq_false_iff_ne.1 hc45
    refine at_skip ?_
    refine n_then ?_
    refine sr ?_
    refine sp2 hT ?_
    refine ss (sti_sto hT (k := (signP (b :: r))) rfl rfl rfl rfl rfl (signP_le _)) ?_
    refine ss (sti_build rfl rfl (token_built_api_Token_02 _ _)) ?_
    refine sp hT ?_
    refine sto hT .head ?_
    refine sp2 hT ?_
    refine nn ?_
    refine at_ret ?_
    exact at_res3 () rfl (rv_cell hT (knows_own (off := 0) .head) rfl rfl rfl rfl) (rv_tmp rfl) (rv_tmp rfl) .nil trivial (by first | exact tk_line hc11 | exact tk_long hc11 hc15 hc19 | exact tk_word hc11 hc15 hc19 | exact tk_num1 hc11 hc15 hnt he | exact tk_num2 hc11 hc15 hnt | exact tk_byte hc11 hc15 hnt hc45 | exact tk_sign hc11 hc15 hnt hc45)
  have hm := numTok_len hnt
  dsimp only at hm
  refine at_region ?_
  refine sp hT ?_
  refine at_call (callFunc_enter Tryz.func40 rfl rfl) (number_some b r hl hnt) rfl rfl rfl rfl rfl .nil ⟨Has.of mT0, trivial⟩ fun _ => ?_
  refine sp4 hT ?_
  refine sp3 hT ?_
  refine nn ?_
  refine at_seq ?_
  refine sr ?_
  refine sp3 hT ?_
  refine at_case (fun hg34 => ?_) (fun hg34 => ?_)
  · have hg34 := of_decide_eq_true hg34
    refine sk2 ?_
    refine sp hT ?_
    refine nn ?_
    refine at_true rfl rfl ?_
    refine sr ?_
    refine sp hT ?_
    refine ss (sti_build rfl rfl (token_built_api_Token_03 _ _)) ?_
    refine sp2 hT ?_
    refine sto hT .head ?_
    refine sp2 hT ?_
    refine nn ?_
    refine at_ret ?_
    refine r_then ?_
    exact at_res3 () rfl (rv_cell hT (knows_own (off := 0) .head) rfl rfl rfl rfl) (rv_tmp rfl) (rv_tmp rfl) .nil trivial (by first | exact tk_line hc11 | exact tk_long hc11 hc15 hc19 | exact tk_word hc11 hc15 hc19 | exact tk_num1 hc11 hc15 hnt he | exact tk_num2 hc11 hc15 hnt | exact tk_byte hc11 hc15 hnt hc45 | exact tk_sign hc11 hc15 hnt hc45)
  have hg34 := Int.not_lt.1 (of_decide_eq_false hg34)
  omega

theorem token_err {e : Int} (b : UInt8) (r : Bs) (hl : (b :: r).length ≤ 65536) (h : tokenP (b :: r) = .error e) : Spec Tryz.prog 25 [.string (bs (b :: r))] [] [globF] (fun _ : Unit => .tuple #[.agg #[.int .i64 (if e = 32 then 2 else 0), .int .i64 0, .string (bs []), .int .i64 0], .int .i64 0, .int .i64 e]) (fun _ => []) (fun _ => []) := by
  have := token_spec b r hl
  rw [h] at this
  exact this
theorem token_ok {k v : Int} {wd : Bs} {m : Nat} (b : UInt8) (r : Bs) (hl : (b :: r).length ≤ 65536) (h : tokenP (b :: r) = .ok (k, wd, v, m)) : Spec Tryz.prog 25 [.string (bs (b :: r))] [] [globF] (fun _ : Unit => .tuple #[.agg #[.int .i64 k, .int .i64 0, .string (bs wd), .int .i64 v], .int .i64 (m : Nat), .int .i64 0]) (fun _ => []) (fun _ => []) := by
  have := token_spec b r hl
  rw [h] at this
  exact this
end Go.Proofs.YtngkedmndhmjcaaGreatDoor
