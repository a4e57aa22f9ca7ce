/- Walk of lex.Lex. (Printed by wip/gen/lex.py.) -/
import Derived.Test.YtngkedmndhmjcaaGreatDoorLexC
import Derived.Test.YtngkedmndhmjcaaGreatDoorCut
namespace Go.Proofs.YtngkedmndhmjcaaGreatDoor
open Go.RowKit

section
variable {text : Bs} {i : Nat} {b : UInt8} {r : Bs} {out : List TokV}
theorem lex_start (h : text.length ≤ 65536) : lexGo (text.drop 0).length 0 (text.drop 0) [] = lexP text := by
  unfold lexP
  rw [if_neg (by omega)]
  rfl
theorem lex_long (h : (65536 : Int) < ((text.length : Nat) : Int)) : lexP text = ([], (0, 30)) := by
  unfold lexP
  rw [if_pos (by omega)]
theorem lex_end (h : text.length ≤ i) (hi : lexGo (text.drop i).length i (text.drop i) out = lexP text) : lexP text = (out, (0, 0)) := by
  rw [List.drop_of_length_le h] at hi
  rw [← hi]
  rfl
variable (hbr : text.drop i = b :: r) (hi : lexGo (text.drop i).length i (text.drop i) out = lexP text)
include hbr hi
theorem lex_blank (hb : blankB b = true) : lexGo (text.drop (i + 1)).length (i + 1) (text.drop (i + 1)) out = lexP text := by
  have e : text.drop (i + 1) = r := by rw [← List.drop_drop, hbr]; rfl
  rw [hbr, lexGo_step, if_pos hb] at hi
  rw [e]
  exact hi
theorem lex_note (hb : blankB b = false) (hn : (b == 35) = true) : lexGo (text.drop (i + runB (· != 10) (b :: r))).length (i + runB (· != 10) (b :: r)) (text.drop (i + runB (· != 10) (b :: r))) out = lexP text := by
  have e : text.drop (i + runB (· != 10) (b :: r)) = (b :: r).drop (runB (· != 10) (b :: r)) := by rw [← List.drop_drop, hbr]
  rw [hbr, lexGo_step, hb, if_neg (by simp), if_pos hn] at hi
  rw [e]
  exact hi
theorem lex_tok {k v : Int} {wd : Bs} {m : Nat} (hb : blankB b = false) (hn : (b == 35) = false) (ht : tokenP (b :: r) = .ok (k, wd, v, m)) : lexGo (text.drop (i + m)).length (i + m) (text.drop (i + m)) (out ++ [⟨k, i, wd, v⟩]) = lexP text := by
  have e : text.drop (i + m) = (b :: r).drop m := by rw [← List.drop_drop, hbr]
  rw [hbr, lexGo_step, hb, if_neg (by simp), hn, if_neg (by simp), ht] at hi
  rw [e]
  exact hi
theorem lex_err {e : Int} (hb : blankB b = false) (hn : (b == 35) = false) (ht : tokenP (b :: r) = .error e) : lexP text = ([], ((i : Int), e)) := by
  rw [hbr, lexGo_step, hb, if_neg (by simp), hn, if_neg (by simp), ht] at hi
  exact hi.symm
end
theorem tok_code {s : Bs} {e : Int} (h : tokenP s = .error e) : e ≠ 0 := by
  cases s with
  | nil => cases h; decide
  | cons b r =>
    simp only [tokenP] at h
    split at h
    · cases h
    · split at h
      · split at h
        · cases h; decide
        · cases h
      · split at h
        · rename_i e' he
          cases h
          rw [numTok_err he]
          decide
        · cases h
        · split at h
          · cases h; decide
          · cases h
theorem has_nil {α : Type} {E : Flat α} {F : List Fact} : Has F (E.sl (.slice none 0 0) []) := fun _ _ _ => ⟨none, 0, rfl, fun k x hk => by simp at hk⟩
theorem Lex_zero_api_Fault : (Tryz.prog.info? 32).bind (·.zero) = some (.agg #[.int .i64 0, .int .i64 0]) := by kernel_rfl
theorem Lex_built_api_Fault_1 (z1 : Int) : Tryz.prog.built 32 [(1, .int .i64 z1)] = some #[.int .i64 0, .int .i64 z1] := by kernel_rfl
theorem Lex_zero_api_Token : (Tryz.prog.info? 54).bind (·.zero) = some (.agg #[.int .i64 0, .int .i64 0, .string (bs []), .int .i64 0]) := by kernel_rfl
theorem Lex_built_api_Fault_01 (z0 : Int) (z1 : Int) : Tryz.prog.built 32 [(0, .int .i64 z0), (1, .int .i64 z1)] = some #[.int .i64 z0, .int .i64 z1] := by kernel_rfl
theorem Lex_built_api_Fault_  : Tryz.prog.built 32 [] = some #[.int .i64 0, .int .i64 0] := by kernel_rfl

set_option maxRecDepth 100000 in
theorem Lex_spec (text : Bs) (hs : text.length ≤ 140737488355328) : Spec Tryz.prog 17 [.string (bs text)] [] [globF] (fun (x : Option Addr × Nat) => .tuple #[.slice x.1 (lexP text).1.length x.2, .agg #[.int .i64 (lexP text).2.1, .int .i64 (lexP text).2.2]]) (fun _ => []) (fun (x : Option Addr × Nat) => [tokE.sl (.slice x.1 (lexP text).1.length x.2) (lexP text).1, Fact.pure ((lexP text).1.length ≤ x.2)]) := by
  have hT := showT_ok
  refine spec_of Tryz.func17 rfl Tryz.ntmps17 rfl ?_
  intro β hM
  refine sr ?_
  refine sp hT ?_
  refine at_alloc rfl rfl rfl rfl Lex_zero_api_Fault rfl fun b1 => ?_
  refine nn ?_
  refine at_scope ?_
  refine at_seq ?_
  refine sr ?_
  refine sp2 hT ?_
  refine at_int (z' := ((text.length : Nat) : Int)) rfl ?_
  refine sp hT ?_
  refine nn ?_
  refine at_cond rfl (fun hc13 => ?_) (fun hc13 => ?_)
  · have hc13 := of_decide_eq_true hc13
    refine sr ?_
    refine ss (sti_build rfl rfl (Lex_built_api_Fault_1 _)) ?_
    refine sp hT ?_
    refine sto hT .head ?_
    refine nn ?_
    refine at_ret ?_
    refine r_then ?_
    refine r_scope ?_
    have he := lex_long hc13
    rw [he]
    exact at_res2 (none, 0) rfl (rv_tmp rfl) (rv_cell hT (knows_own (off := 0) .head) rfl rfl rfl rfl) .nil ⟨has_nil, Has.pure (Nat.le_refl 0), trivial⟩ rfl
  have hc13 := Int.not_lt.1 (of_decide_eq_false hc13)
  refine at_skip ?_
  refine n_then ?_
  refine sr ?_
  refine sp hT ?_
  refine nn ?_
  refine at_seq ?_
  refine at_nilrow' (t := 54) tokE ?_
  refine at_region ?_
  refine sp hT ?_
  refine nn ?_
  refine at_seq ?_
  refine at_label ?_
  refine n_then ?_
  refine at_seq ?_
  refine at_block ?_
  refine at_loop2 (ι := Nat × List TokV × Option Addr × Nat) [(0, _), (3, _)] ⟨rfl, rfl, trivial⟩ (fun ⟨i, out, C, e⟩ => [(4, .slice C out.length e), (5, .int .i64 (i : Nat))]) (fun ⟨i, out, C, e⟩ => [tokE.row (.slice C out.length e) 54 out]) (fun ⟨i, out, C, e⟩ => [Fact.pure (i ≤ text.length ∧ lexGo (text.drop i).length i (text.drop i) out = lexP text ∧ out.length ≤ i)]) (fun ⟨i, out, C, e⟩ => text.length - i) (0, [], none, 0) ⟨rfl, rfl, trivial⟩ (.cons .head .nil) ⟨Has.pure (⟨by omega, lex_start (by omega), by simp⟩), trivial⟩ ?_
  rintro ⟨i, out, C, e⟩
  dsimp only
  refine at_know (Has.of mT0) fun hinv5 => ?_
  refine at_seq ?_
  refine sr ?_
  refine sp3 hT ?_
  refine at_int (z' := ((text.length : Nat) : Int)) rfl ?_
  refine sp hT ?_
  refine nn ?_
  refine at_cond rfl (fun hc18 => ?_) (fun hc18 => ?_)
  · have hc18 := of_decide_eq_true hc18
    refine at_skip ?_
    refine n_then ?_
    refine at_block ?_
    refine sr ?_
    refine sp2 hT ?_
    refine ss (sti_sfrom hT (k := i) rfl rfl rfl rfl rfl (by omega)) ?_
    obtain ⟨b, r, hbr⟩ : ∃ b r, text.drop i = b :: r := ⟨_, _, List.drop_eq_getElem_cons (by omega)⟩
    have hbl : (b :: r).length ≤ 65536 := by rw [← hbr]; simp; omega
    have hbi : i + (b :: r).length = text.length := by rw [← hbr]; simp; omega
    refine at_val (congrArg (fun l : Bs => Value.string (bs l)) hbr) ?_
    refine sp hT ?_
    refine nn ?_
    refine at_seq ?_
    refine sr ?_
    refine sp hT ?_
    refine ss (sti_sindex hT (k := 0) rfl rfl rfl rfl rfl rfl) ?_
    refine sp hT ?_
    refine nn ?_
    refine at_block ?_
    refine sr ?_
    refine sp3 hT ?_
    refine at_case (fun hg27 => ?_) (fun hg27 => ?_)
    · have hg27 : b = 32 := u8_eqn (k := 32) (eq_of_beq hg27)
      refine sk2 ?_
      refine sp2 hT ?_
      refine nn ?_
      refine at_true rfl rfl ?_
      refine sr ?_
      refine sp2 hT ?_
      refine at_int (z' := (((i + 1) : Nat) : Int)) (wrapN (by omega) (by omega)) ?_
      refine sp hT ?_
      refine nn ?_
      refine at_exit ?_
      refine x_pass rfl ?_
      refine x_then ?_
      refine x_block ?_
      refine n_then ?_
      exact at_back2 (i + 1, _, _, _) (by dsimp only; omega) ⟨rfl, rfl, trivial⟩ ⟨rfl, rfl, trivial⟩ (.cons .head (.cons .head .nil)) ⟨Has.pure (⟨by omega, lex_blank hbr hinv5.2.1 (by simp [blankB, *]), by dsimp only; omega⟩), trivial⟩ (HasAll.drop 1)
    have hg27 : b ≠ 32 := u8_nen (k := 32) (beq_eq_false_iff_ne.1 hg27)
    refine sp4 hT ?_
    refine nn ?_
    refine at_cond rfl (fun hc24 => ?_) (fun hc24 => ?_)
    · have hc24 : b = 9 := u8_eqn (k := 9) (eq_of_beq hc24)
      refine sr ?_
      refine sp2 hT ?_
      refine at_int (z' := (((i + 1) : Nat) : Int)) (wrapN (by omega) (by omega)) ?_
      refine sp hT ?_
      refine nn ?_
      refine at_exit ?_
      refine x_pass rfl ?_
      refine x_then ?_
      refine x_block ?_
      refine n_then ?_
      exact at_back2 (i + 1, _, _, _) (by dsimp only; omega) ⟨rfl, rfl, trivial⟩ ⟨rfl, rfl, trivial⟩ (.cons .head (.cons .head .nil)) ⟨Has.pure (⟨by omega, lex_blank hbr hinv5.2.1 (by simp [blankB, *]), by dsimp only; omega⟩), trivial⟩ (HasAll.drop 1)
    have hc24 : b ≠ 9 := u8_nen (k := 9) (beq_eq_false_iff_ne.1 hc24)
    refine sr ?_
    refine sp3 hT ?_
    refine nn ?_
    refine at_cond rfl (fun hc33 => ?_) (fun hc33 => ?_)
    · have hc33 : b = 35 := u8_eqn (k := 35) (eq_of_beq hc33)
      refine at_seq ?_
      have hnl := runB_le (· != 10) (b :: r)
      refine at_region ?_
      refine sp2 hT ?_
      refine at_call (callFunc_enter Tryz.func23 rfl rfl) (run_spec (b :: r) (by omega) _ (· != 10) (callFunc_enter Tryz.func24 rfl rfl) line_spec) rfl rfl rfl rfl rfl .nil trivial fun _ => ?_
      refine sp hT ?_
      refine at_int (z' := (((i + (runB (· != 10) (b :: r))) : Nat) : Int)) (wrapN (by omega) (by omega)) ?_
      refine sp hT ?_
      refine nn ?_
      refine at_exit ?_
      refine x_pass rfl ?_
      refine x_then ?_
      refine x_block ?_
      refine n_then ?_
      exact at_back2 (i + runB (· != 10) (b :: r), _, _, _) (by dsimp only; have := runB_pos (p := (· != 10)) (b := b) (r := r) (by simp [*]); omega) ⟨rfl, rfl, trivial⟩ ⟨rfl, rfl, trivial⟩ (.cons .head (.cons .head .nil)) ⟨Has.pure (⟨by have := runB_le (· != 10) (b :: r); omega, lex_note hbr hinv5.2.1 (by simp [blankB, *]) (by simp [*]), by dsimp only; omega⟩), trivial⟩ (HasAll.drop 1)
    have hc33 : b ≠ 35 := u8_nen (k := 35) (beq_eq_false_iff_ne.1 hc33)
    refine at_skip ?_
    refine n_block ?_
    refine n_then ?_
    refine at_seq ?_
    rcases ht : tokenP (b :: r) with e | ⟨k, wd, v, m⟩
    · skip
      refine at_region ?_
      refine sp hT ?_
      refine at_call (callFunc_enter Tryz.func25 rfl rfl) (token_err b r hbl ht) rfl rfl rfl rfl rfl .nil ⟨Has.of mT1, trivial⟩ fun _ => ?_
      refine sp4 hT ?_
      refine at_alloc rfl rfl rfl rfl Lex_zero_api_Token rfl fun b2 => ?_
      refine sto hT .head ?_
      refine sp2 hT ?_
      refine nn ?_
      refine at_seq ?_
      refine sr ?_
      refine sp2 hT ?_
      refine nn ?_
      refine at_cond rfl (fun hc47 => ?_) (fun hc47 => ?_)
      · have hc47 := bne_iff_ne.1 hc47
        refine sr ?_
        refine sp2 hT ?_
        refine ss (sti_build rfl rfl (Lex_built_api_Fault_01 _ _)) ?_
        refine sp hT ?_
        refine sto hT kT2 ?_
        refine nn ?_
        refine at_ret ?_
        refine r_then ?_
        refine r_block ?_
        refine r_then ?_
        refine r_block ?_
        refine r_then ?_
        refine r_scope ?_
        have he := lex_err hbr hinv5.2.1 (by simp [blankB, *]) (by simp [*]) ht
        rw [he]
        exact at_res2 (none, 0) rfl (rv_tmp rfl) (rv_cell hT (knows_own (off := 0) .head) rfl rfl rfl rfl) .nil ⟨has_nil, Has.pure (Nat.le_refl 0), trivial⟩ rfl
      have hc47 := bne_eq_false_iff_eq.1 hc47
      exact absurd hc47 (tok_code ht)
    have hm := tokenP_len ht
    dsimp only at hm
    refine at_region ?_
    refine sp hT ?_
    refine at_call (callFunc_enter Tryz.func25 rfl rfl) (token_ok b r hbl ht) rfl rfl rfl rfl rfl .nil ⟨Has.of mT1, trivial⟩ fun _ => ?_
    refine sp4 hT ?_
    refine at_alloc rfl rfl rfl rfl Lex_zero_api_Token rfl fun b3 => ?_
    refine sto hT .head ?_
    refine sp2 hT ?_
    refine nn ?_
    refine at_seq ?_
    refine sr ?_
    refine sp2 hT ?_
    refine at_bool (t' := false) (by decide) ?_
    refine nn ?_
    refine at_false rfl rfl ?_
    refine at_skip ?_
    refine n_then ?_
    refine sr ?_
    refine sp2 hT ?_
    refine sto hT .head ?_
    refine nn ?_
    refine sr ?_
    refine sp hT ?_
    refine ss (ldN hT (knows_own (off := 0) .head)) ?_
    refine at_one_tok (m := ⟨_, _, _, _⟩) rfl rfl rfl rfl rfl fun b4 => ?_
    refine at_app_tok kT2 (reads_obj .head rfl) rfl rfl rfl rfl rfl rfl rfl (by simp only [List.length_singleton]; omega) fun A5 c6 => ?_
    refine sp hT ?_
    refine nn ?_
    refine at_region ?_
    refine sp3 hT ?_
    refine at_int (z' := (((i + m) : Nat) : Int)) (wrapN (by omega) (by omega)) ?_
    refine sp hT ?_
    refine at_nil ?_
    refine n_block ?_
    refine n_then ?_
    exact at_back2 (i + m, _, _, _) (by dsimp only; omega) ⟨rfl, rfl, trivial⟩ ⟨rfl, rfl, trivial⟩ (.cons .head (.cons kT2 .nil)) ⟨Has.pure (⟨by omega, lex_tok hbr hinv5.2.1 (by simp [blankB, *]) (by simp [*]) ht, by simp; omega⟩), trivial⟩ (HasAll.drop 1)
  have hc18 := Int.not_lt.1 (of_decide_eq_false hc18)
  refine at_exit ?_
  refine x_then ?_
  refine x_then ?_
  refine x_block ?_
  refine n_then ?_
  refine sr ?_
  refine sp hT ?_
  refine ss (sti_build rfl rfl (Lex_built_api_Fault_)) ?_
  refine sp hT ?_
  refine sto hT kT1 ?_
  refine nn ?_
  refine at_ret ?_
  refine r_scope ?_
  have he : lexP text = (out, (0, 0)) := lex_end (by omega) hinv5.2.1
  rw [he]
  refine at_cap kT1 fun hcap => ?_
  refine at_freeze kT1 ?_
  exact at_res2 (C, e) rfl (rv_tmp rfl) (rv_cell hT (knows_own (off := 0) .head) rfl rfl rfl rfl) .nil ⟨Has.of mT0, Has.pure hcap, trivial⟩ rfl

end Go.Proofs.YtngkedmndhmjcaaGreatDoor
