/- Walk of parse.Parse. (Printed by wip/gen/parse3.py.) -/
import Derived.Test.YtngkedmndhmjcaaGreatDoorParseB
namespace Go.Proofs.YtngkedmndhmjcaaGreatDoor
open Go.RowKit

section
variable {F : List Fact} {A : Option Addr} {c k : Nat} {toks : List TokV}
theorem own_fact (h : Has F (tokE.sl (.slice A toks.length c) toks)) : Has F (tokE.sl (.slice A (ownP toks).length c) (ownP toks)) := by
  have := has_take h (own_le toks)
  rwa [own_take] at this
theorem rest_fact (h : Has F (tokE.sl (.slice A toks.length c) toks)) (hc : toks.length ≤ c) (hk : k ≤ toks.length) : Has F (tokE.sl (.slice (cutA A k tokE.size c) (toks.drop k).length (c - k)) (toks.drop k)) := by
  have := has_drop h hc hk
  rwa [← List.length_drop] at this
end
theorem Parse_zero_api_Program : (Tryz.prog.info? 25).bind (·.zero) = some (.agg #[.slice none 0 0, .slice none 0 0]) := by kernel_rfl
theorem Parse_zero_api_Fault : (Tryz.prog.info? 32).bind (·.zero) = some (.agg #[.int .i64 0, .int .i64 0]) := by kernel_rfl
theorem Parse_built_api_Fault_  : Tryz.prog.built 32 [] = some #[.int .i64 0, .int .i64 0] := by kernel_rfl
theorem Parse_built_api_Program_  : Tryz.prog.built 25 [] = some #[.slice none 0 0, .slice none 0 0] := by kernel_rfl
theorem Parse_built_parse_line_2 (z2 : Int) : Tryz.prog.built 52 [(2, .int .i64 z2)] = some #[.slice none 0 0, .int .i64 0, .int .i64 z2] := by kernel_rfl
theorem Parse_built_api_Fault_01 (z0 : Int) (z1 : Int) : Tryz.prog.built 32 [(0, .int .i64 z0), (1, .int .i64 z1)] = some #[.int .i64 z0, .int .i64 z1] := by kernel_rfl

set_option maxRecDepth 100000 in
theorem Parse_spec (text : Bs) (hs : text.length ≤ 140737488355328) : Spec Tryz.prog 15 [.string (bs text)] [] [globF] (fun (x : ProgV) => .tuple #[.agg #[.slice x.inputs.addr x.inputs.list.length x.inputs.cap, .slice x.lines.addr x.lines.list.length x.lines.cap], .agg #[.int .i64 (parseP text).2.1, .int .i64 (parseP text).2.2]]) (fun _ => []) (fun (x : ProgV) => [progFct x, Fact.pure (x.pr = (parseP text).1)]) := by
  have hT := showT_ok
  generalize hR : parseP text = r
  refine spec_of Tryz.func15 rfl Tryz.ntmps15 rfl ?_
  intro β hM
  refine sr ?_
  refine at_alloc rfl rfl rfl rfl Parse_zero_api_Program rfl fun b1 => ?_
  refine at_alloc rfl rfl rfl rfl Parse_zero_api_Fault rfl fun b2 => ?_
  refine nn ?_
  refine sr ?_
  refine sp hT ?_
  refine at_call (callFunc_enter Tryz.func17 rfl rfl) (Lex_spec text (by omega)) rfl rfl rfl rfl rfl .nil ⟨Has.of mT0, trivial⟩ fun ⟨A3, c4⟩ => ?_
  refine sp3 hT ?_
  refine at_alloc rfl rfl rfl rfl Parse_zero_api_Fault rfl fun b5 => ?_
  refine sp hT ?_
  refine sto hT .head ?_
  refine nn ?_
  refine at_seq ?_
  refine sr ?_
  refine ss (ldN hT (knows_own (off := 0) .head)) ?_
  refine ss (sti_build rfl rfl (Parse_built_api_Fault_)) ?_
  refine ss (sti_neq_flt ⟨(lexP text).2.1, (lexP text).2.2⟩ ⟨0, 0⟩ rfl rfl rfl) ?_
  refine nn ?_
  refine at_cond rfl (fun hc18 => ?_) (fun hc18 => ?_)
  · have hc18 := not_t hc18
    refine at_seq ?_
    refine at_mix _ _ [(true, 0), (true, 1), (false, 2), (false, 3)] mixes (by decide +kernel) (.cons .head .nil) HasAll.self ?_
    refine atm_sti rfl rfl rfl rfl (sti_build rfl rfl (Parse_built_api_Program_)) ?_
    refine atm_sti rfl rfl rfl rfl (ldN hT (knows_own (off := 0) .head)) ?_
    refine atm_op (o := _) rfl ?_
    refine sto hT kT2 ?_
    refine atm_go (.cons kT1 .nil) (HasAll.drop 0) ?_
    refine atm_op (o := _) rfl ?_
    refine sto hT kT2 ?_
    refine atm_go (.cons kT2 .nil) (HasAll.drop 0) ?_
    refine atm_nil ?_
    refine n_then ?_
    refine at_ret ?_
    refine r_then ?_
    have hr := p_lexed hR hc18
    subst hr
    exact at_res2 (⟨⟨none, 0, []⟩, ⟨none, 0, []⟩⟩ : ProgV) rfl (rv_cell hT (knows_own (off := 0) kT1) rfl rfl rfl rfl) (rv_cell hT (knows_own (off := 0) .head) rfl rfl rfl rfl) .nil ⟨Has.and (Has.and has_nil Has.each_nil) (Has.and has_nil Has.each_nil), Has.pure rfl, trivial⟩ rfl
  have hc18 := not_f hc18
  refine at_skip ?_
  refine n_then ?_
  refine at_seq ?_
  have hp := p_start hR hc18
  refine at_region ?_
  refine at_alloc rfl rfl rfl rfl Parse_zero_api_Program rfl fun b6 => ?_
  refine nn ?_
  refine sr ?_
  refine sp2 hT ?_
  refine nn ?_
  refine at_seq ?_
  refine at_block ?_
  have hlc := lex_count text
  refine at_know (Has.of mT1) fun hcap => ?_
  refine at_nilrow' (t := 59) inputE ?_
  refine at_nilrow' (t := 42) lineE ?_
  refine at_fact (inputsF []) (Has.each_nil) ?_
  refine at_fact (linesF []) (Has.each_nil) ?_
  refine at_loop2 (ι := List TokV × Option Addr × Nat × List InputV × List LineV × Option Addr × Nat × Option Addr × Nat × Nat × Bool × Int × Int) [(0, _), (2, _), (3, _), (5, _), (6, _)] ⟨rfl, rfl, rfl, rfl, rfl, trivial⟩ (fun ⟨toks, A, c, ins, lns, I, ci, J, cj, n, ov, f1, f2⟩ => [(4, .slice A toks.length c), (7, .int .i64 (n : Nat)), (8, .bool ov)]) (fun ⟨toks, A, c, ins, lns, I, ci, J, cj, n, ov, f1, f2⟩ => [.obj b6 (.cells [.slice I ins.length ci, .slice J lns.length cj].toArray 25), inputE.row (.slice I ins.length ci) 59 ins, lineE.row (.slice J lns.length cj) 42 lns, .obj b5 (.cells [.int .i64 f1, .int .i64 f2].toArray 32)]) (fun ⟨toks, A, c, ins, lns, I, ci, J, cj, n, ov, f1, f2⟩ => [Fact.pure (PInv r text.length toks ⟨ins.map InputV.inp, lns.map LineV.ln⟩ n ov ∧ (∀ t ∈ toks, TokOk t) ∧ toks.length ≤ c ∧ toks.length ≤ 65536 ∧ n ≤ 64 ∧ ins.length + lns.length ≤ n), tokE.sl (.slice A toks.length c) toks, inputsF ins, linesF lns]) (fun ⟨toks, A, c, ins, lns, I, ci, J, cj, n, ov, f1, f2⟩ => toks.length) ((lexP text).1, A3, c4, [], [], none, 0, none, 0, 0, false, (lexP text).2.1, (lexP text).2.2) ⟨rfl, rfl, rfl, trivial⟩ (.cons kT2 (.cons kT1 (.cons .head (.cons .head .nil)))) ⟨Has.pure (⟨hp, lex_ok text, hcap, hlc, by omega, by simp⟩), Has.of mT2, Has.of mT1, Has.of mT0, trivial⟩ ?_
  rintro ⟨toks, A, c, ins, lns, I, ci, J, cj, n, ov, f1, f2⟩
  dsimp only
  refine at_know (Has.of mT0) fun hinv6 => ?_
  refine at_seq ?_
  refine sr ?_
  refine sp3 hT ?_
  refine nn ?_
  refine at_cond rfl (fun hc23 => ?_) (fun hc23 => ?_)
  · have hc23 := of_decide_eq_true hc23
    refine at_skip ?_
    refine n_then ?_
    refine at_block ?_
    refine sr ?_
    refine sp2 hT ?_
    refine at_int (z' := ((text.length : Nat) : Int)) rfl ?_
    refine ss (sti_build rfl rfl (Parse_built_parse_line_2 _)) ?_
    refine at_box rfl rfl rfl rfl rfl rfl fun b7 => ?_
    refine sp hT ?_
    refine nn ?_
    refine sr ?_
    refine sp hT ?_
    refine nn ?_
    refine at_seq ?_
    refine at_block ?_
    refine at_loop2 (ι := Nat) [(0, _), (2, _), (3, _), (4, _), (5, _), (6, _), (7, _), (8, _), (9, _)] ⟨rfl, rfl, rfl, rfl, rfl, rfl, rfl, rfl, rfl, trivial⟩ (fun j => [(10, .int .i64 (j : Nat))]) (fun _ => []) (fun j => [Fact.pure (j ≤ (ownP toks).length)]) (fun j => toks.length - j) 0 ⟨rfl, trivial⟩ .nil ⟨Has.pure (by omega), trivial⟩ ?_
    rintro j
    refine at_know (Has.of mT0) fun hinv9 => ?_
    refine at_seq ?_
    refine sr ?_
    refine sp4 hT ?_
    refine sp hT ?_
    refine at_case (fun hg32 => ?_) (fun hg32 => ?_)
    · have hg32 := of_decide_eq_true hg32
      refine sp2 hT ?_
      obtain ⟨x8, hx9⟩ : ∃ x, toks[j]? = some x := ⟨_, List.getElem?_eq_getElem (by omega)⟩
      refine ss (sti_index hT (k := j) (reads_fact (Has.of mT2)) rfl rfl rfl rfl rfl rfl rfl (by omega)) ?_
      refine sp hT ?_
      refine ss (sti_load1 hT (Reads.knows (reads_fact (Has.of mT2)) (k := j) (x := x8) hx9 0) rfl rfl rfl rfl rfl) ?_
      refine sp2 hT ?_
      refine nn ?_
      refine at_cond rfl (fun hc39 => ?_) (fun hc39 => ?_)
      · have hc39 := bne_iff_ne.1 hc39
        refine at_skip ?_
        refine n_then ?_
        refine at_block ?_
        refine at_region ?_
        refine sp2 hT ?_
        refine at_int (z' := (((j + 1) : Nat) : Int)) (wrapN (by omega) (by omega)) ?_
        refine sp hT ?_
        refine at_nil ?_
        refine n_block ?_
        refine n_then ?_
        exact at_back2 (j + 1) (by omega) ⟨rfl, trivial⟩ ⟨rfl, rfl, rfl, rfl, rfl, rfl, rfl, rfl, rfl, trivial⟩ (.cons .head (.cons .head (.cons .head (.cons .head (.cons .head (.cons .head (.cons .head .nil))))))) ⟨Has.pure (own_more hinv9 (by assumption) (by assumption)), trivial⟩ (HasAll.drop 1)
      have hc39 := bne_eq_false_iff_eq.1 hc39
      refine at_exit ?_
      refine x_then ?_
      refine x_then ?_
      refine x_block ?_
      refine n_then ?_
      refine at_seq ?_
      have hj := own_stop hinv9 (by first | exact .inl (by omega) | exact .inr ⟨_, by assumption, by assumption⟩)
      subst hj
      have hol := own_le toks
      refine at_region ?_
      refine sp3 hT ?_
      refine ss (sti_cutTo hT (k := (ownP toks).length) rfl rfl rfl rfl rfl rfl (by omega)) ?_
      refine sp2 hT ?_
      refine sto hT .head ?_
      refine nn ?_
      refine at_seq ?_
      refine at_seq ?_
      refine at_fact (tokE.sl (.slice A (ownP toks).length c) (ownP toks)) (own_fact (Has.of mT2)) ?_
      refine at_region ?_
      refine sp4 hT ?_
      refine nn ?_
      refine at_cond rfl (fun hc51 => ?_) (fun hc51 => ?_)
      · have hc51 := of_decide_eq_true hc51
        refine sr ?_
        refine sp3 hT ?_
        refine ss (sti_index hT (k := (ownP toks).length) (reads_fact (Has.of mT3)) rfl rfl rfl rfl rfl rfl rfl (by omega)) ?_
        refine sp hT ?_
        refine ss (sti_load1 hT (Reads.knows (reads_fact (Has.of mT3)) (k := (ownP toks).length) (x := x8) hx9 1) rfl rfl rfl rfl rfl) ?_
        refine sp2 hT ?_
        refine sto hT .head ?_
        refine nn ?_
        refine at_region ?_
        refine sp2 hT ?_
        refine at_int (z' := ((((ownP toks).length + 1) : Nat) : Int)) (wrapN (by omega) (by omega)) ?_
        refine sp hT ?_
        refine nn ?_
        refine sr ?_
        refine sp2 hT ?_
        refine ss (sti_cutFrom hT (k := ((ownP toks).length + 1)) rfl rfl rfl rfl rfl rfl (by omega)) ?_
        refine at_val (v' := .slice (cutA A ((ownP toks).length + 1) tokE.size c) (toks.drop ((ownP toks).length + 1)).length (c - ((ownP toks).length + 1))) (by rw [List.length_drop]; rfl) ?_
        refine sp hT ?_
        refine nn ?_
        refine at_seq ?_
        refine at_seq ?_
        refine at_fact (tokE.sl (.slice (cutA A ((ownP toks).length + 1) tokE.size c) (toks.drop ((ownP toks).length + 1)).length (c - ((ownP toks).length + 1))) (toks.drop ((ownP toks).length + 1))) (rest_fact (Has.of mT3) hinv6.2.2.1 (by omega)) ?_
        refine at_region ?_
        refine sp3 hT ?_
        refine ss (ldO hT (knows_own (off := 0) .head)) ?_
        refine sp2 hT ?_
        refine nn ?_
        refine at_cond rfl (fun hc70 => ?_) (fun hc70 => ?_)
        · have hc70 := eq_of_beq hc70
          have hon := len_nil hc70
          have hsk : PInv r text.length (toks.drop ((ownP toks).length + 1)) ⟨ins.map InputV.inp, lns.map LineV.ln⟩ n ov := by have := p_skip hinv6.1 (len_ne (by omega)) hon; rw [hon]; exact this
          refine at_exit ?_
          refine x_then ?_
          refine x_block ?_
          refine n_then ?_
          exact at_back2 (toks.drop ((ownP toks).length + 1), _, _, ins, lns, _, _, _, _, n, _, _, _) (by dsimp only; rw [List.length_drop]; omega) ⟨rfl, rfl, rfl, trivial⟩ ⟨rfl, rfl, rfl, rfl, rfl, trivial⟩ (.cons kT1 (.cons kT1 (.cons kT1 (.cons kT1 (.cons kT1 (.cons kT1 .nil)))))) ⟨Has.pure (⟨hsk, fun t ht => hinv6.2.1 t (List.mem_of_mem_drop ht), by dsimp only; rw [List.length_drop]; omega, by dsimp only; rw [List.length_drop]; omega, hinv6.2.2.2.2.1, hinv6.2.2.2.2.2⟩), Has.of mT0, Has.of mT5, Has.of mT6, trivial⟩ (HasAll.drop 7)
        have hc70 := beq_eq_false_iff_ne.1 hc70
        refine at_skip ?_
        refine n_then ?_
        refine at_seq ?_
        refine sr ?_
        refine sp3 hT ?_
        have hon : 0 < (ownP toks).length := by omega
        refine at_call (callFunc_enter Tryz.func21 rfl rfl) (into_spec _ A c (ownP toks) _ _ I ci ins J cj lns n ov hon hinv6.2.2.2.2.1 hinv6.2.2.2.2.2 (peek_word (own_tok hinv6.2.1))) rfl rfl rfl rfl rfl (.cons .head (.cons .head (.cons .head (.cons .head .nil)))) ⟨(Has.of mT1), (Has.of mT11), (Has.of mT5), (Has.of mT6), trivial⟩ fun ⟨ins10, lns11, ⟨I12, ci13⟩, ⟨J14, cj15⟩, k16⟩ => ?_
        refine at_know (Has.of mT2) fun hq => ?_
        dsimp only at hq
        have hE : x8.at_ = endP toks text.length := (atP_some hx9).symm
        have hpl := p_line (q := ⟨ins10.map InputV.inp, lns11.map LineV.ln⟩) (f := (intoP (ownP toks) x8.at_ ⟨ins.map InputV.inp, lns.map LineV.ln⟩ n ov).2) hinv6.1 (len_ne (by omega)) (len_ne hon) (by rw [← hE]; exact Prod.ext hq.symm rfl)
        refine sto hT kT4 ?_
        refine nn ?_
        refine sr ?_
        refine ss (ldN hT (knows_own (off := 0) .head)) ?_
        refine ss (sti_build rfl rfl (Parse_built_api_Fault_)) ?_
        refine ss (sti_neq_flt ⟨(intoP (ownP toks) x8.at_ ⟨ins.map InputV.inp, lns.map LineV.ln⟩ n ov).2.1, (intoP (ownP toks) x8.at_ ⟨ins.map InputV.inp, lns.map LineV.ln⟩ n ov).2.2⟩ ⟨0, 0⟩ rfl rfl rfl) ?_
        refine nn ?_
        refine at_cond rfl (fun hc77 => ?_) (fun hc77 => ?_)
        · have hc77 := not_t hc77
          refine at_seq ?_
          refine at_mix _ _ [(true, 0), (true, 1), (false, 2), (false, 3)] mixes (by decide +kernel) (.cons .head (.cons .head (.cons .head (.cons .head (.cons .head .nil))))) HasAll.self ?_
          refine atm_sti rfl rfl rfl rfl (sti_build rfl rfl (Parse_built_api_Program_)) ?_
          refine atm_sti rfl rfl rfl rfl (ldN hT (knows_own (off := 0) .head)) ?_
          refine atm_op (o := _) rfl ?_
          refine sto hT kT6 ?_
          refine atm_go (.cons kT1 (.cons kT1 (.cons kT1 (.cons kT1 (.cons kT1 .nil))))) (HasAll.drop 0) ?_
          refine atm_op (o := _) rfl ?_
          refine sto hT kT6 ?_
          refine atm_go (.cons kT2 (.cons kT2 (.cons kT2 (.cons kT2 (.cons kT2 .nil))))) (HasAll.drop 0) ?_
          refine atm_nil ?_
          refine n_then ?_
          refine at_ret ?_
          refine r_then ?_
          refine r_block ?_
          refine r_then ?_
          refine r_block ?_
          refine r_then ?_
          have hr := hpl.2 hc77
          subst hr
          exact at_res2 (⟨⟨none, 0, []⟩, ⟨none, 0, []⟩⟩ : ProgV) rfl (rv_cell hT (knows_own (off := 0) kT1) rfl rfl rfl rfl) (rv_cell hT (knows_own (off := 0) .head) rfl rfl rfl rfl) .nil ⟨Has.and (Has.and has_nil Has.each_nil) (Has.and has_nil Has.each_nil), Has.pure rfl, trivial⟩ rfl
        have hc77 := not_f hc77
        refine at_skip ?_
        refine n_then ?_
        refine at_seq ?_
        have hp2 := hpl.1 hc77
        have hio := into_ok hc77
        have hlen : ins10.length + lns11.length ≤ n + 1 := by have := hio.2; rw [← hq] at this; dsimp only at this; simp only [List.length_map] at this; omega
        refine at_region ?_
        refine sp2 hT ?_
        refine at_int (z' := (((n + 1) : Nat) : Int)) (wrapN (by omega) (by omega)) ?_
        refine sp hT ?_
        refine nn ?_
        refine at_region ?_
        refine sp hT ?_
        refine ss (ldO hT (knows_own (off := 1) kT2)) ?_
        refine sp hT ?_
        refine at_int (z' := ((lns11.length : Nat) : Int)) (rfl) ?_
        refine sp2 hT ?_
        refine at_case (fun hg86 => ?_) (fun hg86 => ?_)
        · have hg86 := of_decide_eq_true hg86
          refine sp hT ?_
          refine ss (ldO hT (knows_own (off := 1) kT2)) ?_
          refine sp hT ?_
          refine ss (ldO hT (knows_own (off := 1) kT2)) ?_
          refine sp hT ?_
          refine at_int (z' := ((lns11.length : Nat) : Int)) (rfl) ?_
          refine sp hT ?_
          refine at_int (z' := (((lns11.length - 1) : Nat) : Int)) (wrapN (by omega) (by omega)) ?_
          obtain ⟨x17, hx18⟩ : ∃ x, lns11[(lns11.length - 1)]? = some x := ⟨_, List.getElem?_eq_getElem (show lns11.length - 1 < lns11.length from by omega)⟩
          refine ss (sti_index hT (k := (lns11.length - 1)) (reads_row kT4) rfl rfl rfl rfl rfl rfl rfl (show lns11.length - 1 < lns11.length from by omega)) ?_
          refine sp hT ?_
          refine ss (sti_load1 hT (Reads.knows (reads_row kT4) (k := (lns11.length - 1)) (x := x17) hx18 0) rfl rfl rfl rfl rfl) ?_
          refine sp3 hT ?_
          refine at_bool (t' := overP ⟨ins10.map InputV.inp, lns11.map LineV.ln⟩) (over_last (by assumption)) ?_
          refine at_nil ?_
          refine n_block ?_
          refine n_then ?_
          exact at_back2 (toks.drop ((ownP toks).length + 1), _, _, ins10, lns11, _, _, _, _, (n + 1), _, _, _) (by dsimp only; rw [List.length_drop]; omega) ⟨rfl, rfl, rfl, trivial⟩ ⟨rfl, rfl, rfl, rfl, rfl, trivial⟩ (.cons kT2 (.cons kT2 (.cons kT2 (.cons .head (.cons kT1 (.cons kT1 .nil)))))) ⟨Has.pure (⟨hp2, fun t ht => hinv6.2.1 t (List.mem_of_mem_drop ht), by dsimp only; rw [List.length_drop]; omega, by dsimp only; rw [List.length_drop]; omega, by have := hio.1; dsimp only; omega, by dsimp only; omega⟩), Has.of mT3, Has.of mT0, Has.of mT1, trivial⟩ (HasAll.drop 10)
        have hg86 := Int.not_lt.1 (of_decide_eq_false hg86)
        refine sk4 ?_
        refine sk4 ?_
        refine sk2 ?_
        refine sp2 hT ?_
        refine at_bool (t' := overP ⟨ins10.map InputV.inp, lns11.map LineV.ln⟩) (over_none (by omega)) ?_
        refine at_nil ?_
        refine n_block ?_
        refine n_then ?_
        exact at_back2 (toks.drop ((ownP toks).length + 1), _, _, ins10, lns11, _, _, _, _, (n + 1), _, _, _) (by dsimp only; rw [List.length_drop]; omega) ⟨rfl, rfl, rfl, trivial⟩ ⟨rfl, rfl, rfl, rfl, rfl, trivial⟩ (.cons kT2 (.cons kT2 (.cons kT2 (.cons .head (.cons kT1 (.cons kT1 .nil)))))) ⟨Has.pure (⟨hp2, fun t ht => hinv6.2.1 t (List.mem_of_mem_drop ht), by dsimp only; rw [List.length_drop]; omega, by dsimp only; rw [List.length_drop]; omega, by have := hio.1; dsimp only; omega, by dsimp only; omega⟩), Has.of mT3, Has.of mT0, Has.of mT1, trivial⟩ (HasAll.drop 10)
      have hc51 := Int.not_lt.1 (of_decide_eq_false hc51)
      refine at_skip ?_
      refine n_then ?_
      refine sr ?_
      refine sp2 hT ?_
      refine ss (sti_cutFrom hT (k := (ownP toks).length) rfl rfl rfl rfl rfl rfl (by omega)) ?_
      refine at_val (v' := .slice (cutA A (ownP toks).length tokE.size c) (toks.drop (ownP toks).length).length (c - (ownP toks).length)) (by rw [List.length_drop]; rfl) ?_
      refine sp hT ?_
      refine nn ?_
      refine at_seq ?_
      refine at_seq ?_
      refine at_fact (tokE.sl (.slice (cutA A (ownP toks).length tokE.size c) (toks.drop (ownP toks).length).length (c - (ownP toks).length)) (toks.drop (ownP toks).length)) (rest_fact (Has.of mT3) hinv6.2.2.1 (by omega)) ?_
      refine at_region ?_
      refine sp3 hT ?_
      refine ss (ldO hT (knows_own (off := 0) .head)) ?_
      refine sp2 hT ?_
      refine nn ?_
      refine at_cond rfl (fun hc70 => ?_) (fun hc70 => ?_)
      · have hc70 := eq_of_beq hc70
        have hon := len_nil hc70
        exact absurd hc70 (by omega)
      have hc70 := beq_eq_false_iff_ne.1 hc70
      refine at_skip ?_
      refine n_then ?_
      refine at_seq ?_
      refine sr ?_
      refine sp3 hT ?_
      have hon : 0 < (ownP toks).length := by omega
      refine at_call (callFunc_enter Tryz.func21 rfl rfl) (into_spec _ A c (ownP toks) _ _ I ci ins J cj lns n ov hon hinv6.2.2.2.2.1 hinv6.2.2.2.2.2 (peek_word (own_tok hinv6.2.1))) rfl rfl rfl rfl rfl (.cons .head (.cons .head (.cons .head (.cons .head .nil)))) ⟨(Has.of mT1), (Has.of mT11), (Has.of mT5), (Has.of mT6), trivial⟩ fun ⟨ins19, lns20, ⟨I21, ci22⟩, ⟨J23, cj24⟩, k25⟩ => ?_
      refine at_know (Has.of mT2) fun hq => ?_
      dsimp only at hq
      have hE : ((text.length : Nat) : Int) = endP toks text.length := (atP_none (by omega)).symm
      have hpl := p_line (q := ⟨ins19.map InputV.inp, lns20.map LineV.ln⟩) (f := (intoP (ownP toks) ((text.length : Nat) : Int) ⟨ins.map InputV.inp, lns.map LineV.ln⟩ n ov).2) hinv6.1 (len_ne (by omega)) (len_ne hon) (by rw [← hE]; exact Prod.ext hq.symm rfl)
      refine sto hT kT4 ?_
      refine nn ?_
      refine sr ?_
      refine ss (ldN hT (knows_own (off := 0) .head)) ?_
      refine ss (sti_build rfl rfl (Parse_built_api_Fault_)) ?_
      refine ss (sti_neq_flt ⟨(intoP (ownP toks) ((text.length : Nat) : Int) ⟨ins.map InputV.inp, lns.map LineV.ln⟩ n ov).2.1, (intoP (ownP toks) ((text.length : Nat) : Int) ⟨ins.map InputV.inp, lns.map LineV.ln⟩ n ov).2.2⟩ ⟨0, 0⟩ rfl rfl rfl) ?_
      refine nn ?_
      refine at_cond rfl (fun hc77 => ?_) (fun hc77 => ?_)
      · have hc77 := not_t hc77
        refine at_seq ?_
        refine at_mix _ _ [(true, 0), (true, 1), (false, 2), (false, 3)] mixes (by decide +kernel) (.cons .head (.cons .head (.cons .head (.cons .head (.cons .head .nil))))) HasAll.self ?_
        refine atm_sti rfl rfl rfl rfl (sti_build rfl rfl (Parse_built_api_Program_)) ?_
        refine atm_sti rfl rfl rfl rfl (ldN hT (knows_own (off := 0) .head)) ?_
        refine atm_op (o := _) rfl ?_
        refine sto hT kT6 ?_
        refine atm_go (.cons kT1 (.cons kT1 (.cons kT1 (.cons kT1 (.cons kT1 .nil))))) (HasAll.drop 0) ?_
        refine atm_op (o := _) rfl ?_
        refine sto hT kT6 ?_
        refine atm_go (.cons kT2 (.cons kT2 (.cons kT2 (.cons kT2 (.cons kT2 .nil))))) (HasAll.drop 0) ?_
        refine atm_nil ?_
        refine n_then ?_
        refine at_ret ?_
        refine r_then ?_
        refine r_block ?_
        refine r_then ?_
        refine r_block ?_
        refine r_then ?_
        have hr := hpl.2 hc77
        subst hr
        exact at_res2 (⟨⟨none, 0, []⟩, ⟨none, 0, []⟩⟩ : ProgV) rfl (rv_cell hT (knows_own (off := 0) kT1) rfl rfl rfl rfl) (rv_cell hT (knows_own (off := 0) .head) rfl rfl rfl rfl) .nil ⟨Has.and (Has.and has_nil Has.each_nil) (Has.and has_nil Has.each_nil), Has.pure rfl, trivial⟩ rfl
      have hc77 := not_f hc77
      refine at_skip ?_
      refine n_then ?_
      refine at_seq ?_
      have hp2 := hpl.1 hc77
      have hio := into_ok hc77
      have hlen : ins19.length + lns20.length ≤ n + 1 := by have := hio.2; rw [← hq] at this; dsimp only at this; simp only [List.length_map] at this; omega
      refine at_region ?_
      refine sp2 hT ?_
      refine at_int (z' := (((n + 1) : Nat) : Int)) (wrapN (by omega) (by omega)) ?_
      refine sp hT ?_
      refine nn ?_
      refine at_region ?_
      refine sp hT ?_
      refine ss (ldO hT (knows_own (off := 1) kT2)) ?_
      refine sp hT ?_
      refine at_int (z' := ((lns20.length : Nat) : Int)) (rfl) ?_
      refine sp2 hT ?_
      refine at_case (fun hg86 => ?_) (fun hg86 => ?_)
      · have hg86 := of_decide_eq_true hg86
        refine sp hT ?_
        refine ss (ldO hT (knows_own (off := 1) kT2)) ?_
        refine sp hT ?_
        refine ss (ldO hT (knows_own (off := 1) kT2)) ?_
        refine sp hT ?_
        refine at_int (z' := ((lns20.length : Nat) : Int)) (rfl) ?_
        refine sp hT ?_
        refine at_int (z' := (((lns20.length - 1) : Nat) : Int)) (wrapN (by omega) (by omega)) ?_
        obtain ⟨x26, hx27⟩ : ∃ x, lns20[(lns20.length - 1)]? = some x := ⟨_, List.getElem?_eq_getElem (show lns20.length - 1 < lns20.length from by omega)⟩
        refine ss (sti_index hT (k := (lns20.length - 1)) (reads_row kT4) rfl rfl rfl rfl rfl rfl rfl (show lns20.length - 1 < lns20.length from by omega)) ?_
        refine sp hT ?_
        refine ss (sti_load1 hT (Reads.knows (reads_row kT4) (k := (lns20.length - 1)) (x := x26) hx27 0) rfl rfl rfl rfl rfl) ?_
        refine sp3 hT ?_
        refine at_bool (t' := overP ⟨ins19.map InputV.inp, lns20.map LineV.ln⟩) (over_last (by assumption)) ?_
        refine at_nil ?_
        refine n_block ?_
        refine n_then ?_
        exact at_back2 (toks.drop (ownP toks).length, _, _, ins19, lns20, _, _, _, _, (n + 1), _, _, _) (by dsimp only; rw [List.length_drop]; omega) ⟨rfl, rfl, rfl, trivial⟩ ⟨rfl, rfl, rfl, rfl, rfl, trivial⟩ (.cons kT2 (.cons kT2 (.cons kT2 (.cons .head (.cons kT1 (.cons kT1 .nil)))))) ⟨Has.pure (⟨by dsimp only; rw [own_end (toks := toks) rfl (by omega)]; exact hp2, fun t ht => hinv6.2.1 t (List.mem_of_mem_drop ht), by dsimp only; rw [List.length_drop]; omega, by dsimp only; rw [List.length_drop]; omega, by have := hio.1; dsimp only; omega, by dsimp only; omega⟩), Has.of mT3, Has.of mT0, Has.of mT1, trivial⟩ (HasAll.drop 10)
      have hg86 := Int.not_lt.1 (of_decide_eq_false hg86)
      refine sk4 ?_
      refine sk4 ?_
      refine sk2 ?_
      refine sp2 hT ?_
      refine at_bool (t' := overP ⟨ins19.map InputV.inp, lns20.map LineV.ln⟩) (over_none (by omega)) ?_
      refine at_nil ?_
      refine n_block ?_
      refine n_then ?_
      exact at_back2 (toks.drop (ownP toks).length, _, _, ins19, lns20, _, _, _, _, (n + 1), _, _, _) (by dsimp only; rw [List.length_drop]; omega) ⟨rfl, rfl, rfl, trivial⟩ ⟨rfl, rfl, rfl, rfl, rfl, trivial⟩ (.cons kT2 (.cons kT2 (.cons kT2 (.cons .head (.cons kT1 (.cons kT1 .nil)))))) ⟨Has.pure (⟨by dsimp only; rw [own_end (toks := toks) rfl (by omega)]; exact hp2, fun t ht => hinv6.2.1 t (List.mem_of_mem_drop ht), by dsimp only; rw [List.length_drop]; omega, by dsimp only; rw [List.length_drop]; omega, by have := hio.1; dsimp only; omega, by dsimp only; omega⟩), Has.of mT3, Has.of mT0, Has.of mT1, trivial⟩ (HasAll.drop 10)
    have hg32 := Int.not_lt.1 (of_decide_eq_false hg32)
    refine sk4 ?_
    refine sk2 ?_
    refine sp hT ?_
    refine nn ?_
    refine at_false rfl rfl ?_
    refine at_exit ?_
    refine x_then ?_
    refine x_then ?_
    refine x_block ?_
    refine n_then ?_
    refine at_seq ?_
    have hj := own_stop hinv9 (by first | exact .inl (by omega) | exact .inr ⟨_, by assumption, by assumption⟩)
    subst hj
    have hol := own_le toks
    refine at_region ?_
    refine sp3 hT ?_
    refine ss (sti_cutTo hT (k := (ownP toks).length) rfl rfl rfl rfl rfl rfl (by omega)) ?_
    refine sp2 hT ?_
    refine sto hT .head ?_
    refine nn ?_
    refine at_seq ?_
    refine at_seq ?_
    refine at_fact (tokE.sl (.slice A (ownP toks).length c) (ownP toks)) (own_fact (Has.of mT2)) ?_
    refine at_region ?_
    refine sp4 hT ?_
    refine nn ?_
    refine at_cond rfl (fun hc51 => ?_) (fun hc51 => ?_)
    · have hc51 := of_decide_eq_true hc51
      refine sr ?_
      refine sp3 hT ?_
      obtain ⟨x28, hx29⟩ : ∃ x, toks[(ownP toks).length]? = some x := ⟨_, List.getElem?_eq_getElem (by omega)⟩
      refine ss (sti_index hT (k := (ownP toks).length) (reads_fact (Has.of mT3)) rfl rfl rfl rfl rfl rfl rfl (by omega)) ?_
      refine sp hT ?_
      refine ss (sti_load1 hT (Reads.knows (reads_fact (Has.of mT3)) (k := (ownP toks).length) (x := x28) hx29 1) rfl rfl rfl rfl rfl) ?_
      refine sp2 hT ?_
      refine sto hT .head ?_
      refine nn ?_
      refine at_region ?_
      refine sp2 hT ?_
      refine at_int (z' := ((((ownP toks).length + 1) : Nat) : Int)) (wrapN (by omega) (by omega)) ?_
      refine sp hT ?_
      refine nn ?_
      refine sr ?_
      refine sp2 hT ?_
      refine ss (sti_cutFrom hT (k := ((ownP toks).length + 1)) rfl rfl rfl rfl rfl rfl (by omega)) ?_
      refine at_val (v' := .slice (cutA A ((ownP toks).length + 1) tokE.size c) (toks.drop ((ownP toks).length + 1)).length (c - ((ownP toks).length + 1))) (by rw [List.length_drop]; rfl) ?_
      refine sp hT ?_
      refine nn ?_
      refine at_seq ?_
      refine at_seq ?_
      refine at_fact (tokE.sl (.slice (cutA A ((ownP toks).length + 1) tokE.size c) (toks.drop ((ownP toks).length + 1)).length (c - ((ownP toks).length + 1))) (toks.drop ((ownP toks).length + 1))) (rest_fact (Has.of mT3) hinv6.2.2.1 (by omega)) ?_
      refine at_region ?_
      refine sp3 hT ?_
      refine ss (ldO hT (knows_own (off := 0) .head)) ?_
      refine sp2 hT ?_
      refine nn ?_
      refine at_cond rfl (fun hc70 => ?_) (fun hc70 => ?_)
      · have hc70 := eq_of_beq hc70
        have hon := len_nil hc70
        have hsk : PInv r text.length (toks.drop ((ownP toks).length + 1)) ⟨ins.map InputV.inp, lns.map LineV.ln⟩ n ov := by have := p_skip hinv6.1 (len_ne (by omega)) hon; rw [hon]; exact this
        refine at_exit ?_
        refine x_then ?_
        refine x_block ?_
        refine n_then ?_
        exact at_back2 (toks.drop ((ownP toks).length + 1), _, _, ins, lns, _, _, _, _, n, _, _, _) (by dsimp only; rw [List.length_drop]; omega) ⟨rfl, rfl, rfl, trivial⟩ ⟨rfl, rfl, rfl, rfl, rfl, trivial⟩ (.cons kT1 (.cons kT1 (.cons kT1 (.cons kT1 (.cons kT1 (.cons kT1 .nil)))))) ⟨Has.pure (⟨hsk, fun t ht => hinv6.2.1 t (List.mem_of_mem_drop ht), by dsimp only; rw [List.length_drop]; omega, by dsimp only; rw [List.length_drop]; omega, hinv6.2.2.2.2.1, hinv6.2.2.2.2.2⟩), Has.of mT0, Has.of mT5, Has.of mT6, trivial⟩ (HasAll.drop 7)
      have hc70 := beq_eq_false_iff_ne.1 hc70
      refine at_skip ?_
      refine n_then ?_
      refine at_seq ?_
      refine sr ?_
      refine sp3 hT ?_
      have hon : 0 < (ownP toks).length := by omega
      refine at_call (callFunc_enter Tryz.func21 rfl rfl) (into_spec _ A c (ownP toks) _ _ I ci ins J cj lns n ov hon hinv6.2.2.2.2.1 hinv6.2.2.2.2.2 (peek_word (own_tok hinv6.2.1))) rfl rfl rfl rfl rfl (.cons .head (.cons .head (.cons .head (.cons .head .nil)))) ⟨(Has.of mT1), (Has.of mT11), (Has.of mT5), (Has.of mT6), trivial⟩ fun ⟨ins30, lns31, ⟨I32, ci33⟩, ⟨J34, cj35⟩, k36⟩ => ?_
      refine at_know (Has.of mT2) fun hq => ?_
      dsimp only at hq
      have hE : x28.at_ = endP toks text.length := (atP_some hx29).symm
      have hpl := p_line (q := ⟨ins30.map InputV.inp, lns31.map LineV.ln⟩) (f := (intoP (ownP toks) x28.at_ ⟨ins.map InputV.inp, lns.map LineV.ln⟩ n ov).2) hinv6.1 (len_ne (by omega)) (len_ne hon) (by rw [← hE]; exact Prod.ext hq.symm rfl)
      refine sto hT kT4 ?_
      refine nn ?_
      refine sr ?_
      refine ss (ldN hT (knows_own (off := 0) .head)) ?_
      refine ss (sti_build rfl rfl (Parse_built_api_Fault_)) ?_
      refine ss (sti_neq_flt ⟨(intoP (ownP toks) x28.at_ ⟨ins.map InputV.inp, lns.map LineV.ln⟩ n ov).2.1, (intoP (ownP toks) x28.at_ ⟨ins.map InputV.inp, lns.map LineV.ln⟩ n ov).2.2⟩ ⟨0, 0⟩ rfl rfl rfl) ?_
      refine nn ?_
      refine at_cond rfl (fun hc77 => ?_) (fun hc77 => ?_)
      · have hc77 := not_t hc77
        refine at_seq ?_
        refine at_mix _ _ [(true, 0), (true, 1), (false, 2), (false, 3)] mixes (by decide +kernel) (.cons .head (.cons .head (.cons .head (.cons .head (.cons .head .nil))))) HasAll.self ?_
        refine atm_sti rfl rfl rfl rfl (sti_build rfl rfl (Parse_built_api_Program_)) ?_
        refine atm_sti rfl rfl rfl rfl (ldN hT (knows_own (off := 0) .head)) ?_
        refine atm_op (o := _) rfl ?_
        refine sto hT kT6 ?_
        refine atm_go (.cons kT1 (.cons kT1 (.cons kT1 (.cons kT1 (.cons kT1 .nil))))) (HasAll.drop 0) ?_
        refine atm_op (o := _) rfl ?_
        refine sto hT kT6 ?_
        refine atm_go (.cons kT2 (.cons kT2 (.cons kT2 (.cons kT2 (.cons kT2 .nil))))) (HasAll.drop 0) ?_
        refine atm_nil ?_
        refine n_then ?_
        refine at_ret ?_
        refine r_then ?_
        refine r_block ?_
        refine r_then ?_
        refine r_block ?_
        refine r_then ?_
        have hr := hpl.2 hc77
        subst hr
        exact at_res2 (⟨⟨none, 0, []⟩, ⟨none, 0, []⟩⟩ : ProgV) rfl (rv_cell hT (knows_own (off := 0) kT1) rfl rfl rfl rfl) (rv_cell hT (knows_own (off := 0) .head) rfl rfl rfl rfl) .nil ⟨Has.and (Has.and has_nil Has.each_nil) (Has.and has_nil Has.each_nil), Has.pure rfl, trivial⟩ rfl
      have hc77 := not_f hc77
      refine at_skip ?_
      refine n_then ?_
      refine at_seq ?_
      have hp2 := hpl.1 hc77
      have hio := into_ok hc77
      have hlen : ins30.length + lns31.length ≤ n + 1 := by have := hio.2; rw [← hq] at this; dsimp only at this; simp only [List.length_map] at this; omega
      refine at_region ?_
      refine sp2 hT ?_
      refine at_int (z' := (((n + 1) : Nat) : Int)) (wrapN (by omega) (by omega)) ?_
      refine sp hT ?_
      refine nn ?_
      refine at_region ?_
      refine sp hT ?_
      refine ss (ldO hT (knows_own (off := 1) kT2)) ?_
      refine sp hT ?_
      refine at_int (z' := ((lns31.length : Nat) : Int)) (rfl) ?_
      refine sp2 hT ?_
      refine at_case (fun hg86 => ?_) (fun hg86 => ?_)
      · have hg86 := of_decide_eq_true hg86
        refine sp hT ?_
        refine ss (ldO hT (knows_own (off := 1) kT2)) ?_
        refine sp hT ?_
        refine ss (ldO hT (knows_own (off := 1) kT2)) ?_
        refine sp hT ?_
        refine at_int (z' := ((lns31.length : Nat) : Int)) (rfl) ?_
        refine sp hT ?_
        refine at_int (z' := (((lns31.length - 1) : Nat) : Int)) (wrapN (by omega) (by omega)) ?_
        obtain ⟨x37, hx38⟩ : ∃ x, lns31[(lns31.length - 1)]? = some x := ⟨_, List.getElem?_eq_getElem (show lns31.length - 1 < lns31.length from by omega)⟩
        refine ss (sti_index hT (k := (lns31.length - 1)) (reads_row kT4) rfl rfl rfl rfl rfl rfl rfl (show lns31.length - 1 < lns31.length from by omega)) ?_
        refine sp hT ?_
        refine ss (sti_load1 hT (Reads.knows (reads_row kT4) (k := (lns31.length - 1)) (x := x37) hx38 0) rfl rfl rfl rfl rfl) ?_
        refine sp3 hT ?_
        refine at_bool (t' := overP ⟨ins30.map InputV.inp, lns31.map LineV.ln⟩) (over_last (by assumption)) ?_
        refine at_nil ?_
        refine n_block ?_
        refine n_then ?_
        exact at_back2 (toks.drop ((ownP toks).length + 1), _, _, ins30, lns31, _, _, _, _, (n + 1), _, _, _) (by dsimp only; rw [List.length_drop]; omega) ⟨rfl, rfl, rfl, trivial⟩ ⟨rfl, rfl, rfl, rfl, rfl, trivial⟩ (.cons kT2 (.cons kT2 (.cons kT2 (.cons .head (.cons kT1 (.cons kT1 .nil)))))) ⟨Has.pure (⟨hp2, fun t ht => hinv6.2.1 t (List.mem_of_mem_drop ht), by dsimp only; rw [List.length_drop]; omega, by dsimp only; rw [List.length_drop]; omega, by have := hio.1; dsimp only; omega, by dsimp only; omega⟩), Has.of mT3, Has.of mT0, Has.of mT1, trivial⟩ (HasAll.drop 10)
      have hg86 := Int.not_lt.1 (of_decide_eq_false hg86)
      refine sk4 ?_
      refine sk4 ?_
      refine sk2 ?_
      refine sp2 hT ?_
      refine at_bool (t' := overP ⟨ins30.map InputV.inp, lns31.map LineV.ln⟩) (over_none (by omega)) ?_
      refine at_nil ?_
      refine n_block ?_
      refine n_then ?_
      exact at_back2 (toks.drop ((ownP toks).length + 1), _, _, ins30, lns31, _, _, _, _, (n + 1), _, _, _) (by dsimp only; rw [List.length_drop]; omega) ⟨rfl, rfl, rfl, trivial⟩ ⟨rfl, rfl, rfl, rfl, rfl, trivial⟩ (.cons kT2 (.cons kT2 (.cons kT2 (.cons .head (.cons kT1 (.cons kT1 .nil)))))) ⟨Has.pure (⟨hp2, fun t ht => hinv6.2.1 t (List.mem_of_mem_drop ht), by dsimp only; rw [List.length_drop]; omega, by dsimp only; rw [List.length_drop]; omega, by have := hio.1; dsimp only; omega, by dsimp only; omega⟩), Has.of mT3, Has.of mT0, Has.of mT1, trivial⟩ (HasAll.drop 10)
    have hc51 := Int.not_lt.1 (of_decide_eq_false hc51)
    refine at_skip ?_
    refine n_then ?_
    refine sr ?_
    refine sp2 hT ?_
    refine ss (sti_cutFrom hT (k := (ownP toks).length) rfl rfl rfl rfl rfl rfl (by omega)) ?_
    refine at_val (v' := .slice (cutA A (ownP toks).length tokE.size c) (toks.drop (ownP toks).length).length (c - (ownP toks).length)) (by rw [List.length_drop]; rfl) ?_
    refine sp hT ?_
    refine nn ?_
    refine at_seq ?_
    refine at_seq ?_
    refine at_fact (tokE.sl (.slice (cutA A (ownP toks).length tokE.size c) (toks.drop (ownP toks).length).length (c - (ownP toks).length)) (toks.drop (ownP toks).length)) (rest_fact (Has.of mT3) hinv6.2.2.1 (by omega)) ?_
    refine at_region ?_
    refine sp3 hT ?_
    refine ss (ldO hT (knows_own (off := 0) .head)) ?_
    refine sp2 hT ?_
    refine nn ?_
    refine at_cond rfl (fun hc70 => ?_) (fun hc70 => ?_)
    · have hc70 := eq_of_beq hc70
      have hon := len_nil hc70
      exact absurd hc70 (by omega)
    have hc70 := beq_eq_false_iff_ne.1 hc70
    refine at_skip ?_
    refine n_then ?_
    refine at_seq ?_
    refine sr ?_
    refine sp3 hT ?_
    have hon : 0 < (ownP toks).length := by omega
    refine at_call (callFunc_enter Tryz.func21 rfl rfl) (into_spec _ A c (ownP toks) _ _ I ci ins J cj lns n ov hon hinv6.2.2.2.2.1 hinv6.2.2.2.2.2 (peek_word (own_tok hinv6.2.1))) rfl rfl rfl rfl rfl (.cons .head (.cons .head (.cons .head (.cons .head .nil)))) ⟨(Has.of mT1), (Has.of mT11), (Has.of mT5), (Has.of mT6), trivial⟩ fun ⟨ins39, lns40, ⟨I41, ci42⟩, ⟨J43, cj44⟩, k45⟩ => ?_
    refine at_know (Has.of mT2) fun hq => ?_
    dsimp only at hq
    have hE : ((text.length : Nat) : Int) = endP toks text.length := (atP_none (by omega)).symm
    have hpl := p_line (q := ⟨ins39.map InputV.inp, lns40.map LineV.ln⟩) (f := (intoP (ownP toks) ((text.length : Nat) : Int) ⟨ins.map InputV.inp, lns.map LineV.ln⟩ n ov).2) hinv6.1 (len_ne (by omega)) (len_ne hon) (by rw [← hE]; exact Prod.ext hq.symm rfl)
    refine sto hT kT4 ?_
    refine nn ?_
    refine sr ?_
    refine ss (ldN hT (knows_own (off := 0) .head)) ?_
    refine ss (sti_build rfl rfl (Parse_built_api_Fault_)) ?_
    refine ss (sti_neq_flt ⟨(intoP (ownP toks) ((text.length : Nat) : Int) ⟨ins.map InputV.inp, lns.map LineV.ln⟩ n ov).2.1, (intoP (ownP toks) ((text.length : Nat) : Int) ⟨ins.map InputV.inp, lns.map LineV.ln⟩ n ov).2.2⟩ ⟨0, 0⟩ rfl rfl rfl) ?_
    refine nn ?_
    refine at_cond rfl (fun hc77 => ?_) (fun hc77 => ?_)
    · have hc77 := not_t hc77
      refine at_seq ?_
      refine at_mix _ _ [(true, 0), (true, 1), (false, 2), (false, 3)] mixes (by decide +kernel) (.cons .head (.cons .head (.cons .head (.cons .head (.cons .head .nil))))) HasAll.self ?_
      refine atm_sti rfl rfl rfl rfl (sti_build rfl rfl (Parse_built_api_Program_)) ?_
      refine atm_sti rfl rfl rfl rfl (ldN hT (knows_own (off := 0) .head)) ?_
      refine atm_op (o := _) rfl ?_
      refine sto hT kT6 ?_
      refine atm_go (.cons kT1 (.cons kT1 (.cons kT1 (.cons kT1 (.cons kT1 .nil))))) (HasAll.drop 0) ?_
      refine atm_op (o := _) rfl ?_
      refine sto hT kT6 ?_
      refine atm_go (.cons kT2 (.cons kT2 (.cons kT2 (.cons kT2 (.cons kT2 .nil))))) (HasAll.drop 0) ?_
      refine atm_nil ?_
      refine n_then ?_
      refine at_ret ?_
      refine r_then ?_
      refine r_block ?_
      refine r_then ?_
      refine r_block ?_
      refine r_then ?_
      have hr := hpl.2 hc77
      subst hr
      exact at_res2 (⟨⟨none, 0, []⟩, ⟨none, 0, []⟩⟩ : ProgV) rfl (rv_cell hT (knows_own (off := 0) kT1) rfl rfl rfl rfl) (rv_cell hT (knows_own (off := 0) .head) rfl rfl rfl rfl) .nil ⟨Has.and (Has.and has_nil Has.each_nil) (Has.and has_nil Has.each_nil), Has.pure rfl, trivial⟩ rfl
    have hc77 := not_f hc77
    refine at_skip ?_
    refine n_then ?_
    refine at_seq ?_
    have hp2 := hpl.1 hc77
    have hio := into_ok hc77
    have hlen : ins39.length + lns40.length ≤ n + 1 := by have := hio.2; rw [← hq] at this; dsimp only at this; simp only [List.length_map] at this; omega
    refine at_region ?_
    refine sp2 hT ?_
    refine at_int (z' := (((n + 1) : Nat) : Int)) (wrapN (by omega) (by omega)) ?_
    refine sp hT ?_
    refine nn ?_
    refine at_region ?_
    refine sp hT ?_
    refine ss (ldO hT (knows_own (off := 1) kT2)) ?_
    refine sp hT ?_
    refine at_int (z' := ((lns40.length : Nat) : Int)) (rfl) ?_
    refine sp2 hT ?_
    refine at_case (fun hg86 => ?_) (fun hg86 => ?_)
    · have hg86 := of_decide_eq_true hg86
      refine sp hT ?_
      refine ss (ldO hT (knows_own (off := 1) kT2)) ?_
      refine sp hT ?_
      refine ss (ldO hT (knows_own (off := 1) kT2)) ?_
      refine sp hT ?_
      refine at_int (z' := ((lns40.length : Nat) : Int)) (rfl) ?_
      refine sp hT ?_
      refine at_int (z' := (((lns40.length - 1) : Nat) : Int)) (wrapN (by omega) (by omega)) ?_
      obtain ⟨x46, hx47⟩ : ∃ x, lns40[(lns40.length - 1)]? = some x := ⟨_, List.getElem?_eq_getElem (show lns40.length - 1 < lns40.length from by omega)⟩
      refine ss (sti_index hT (k := (lns40.length - 1)) (reads_row kT4) rfl rfl rfl rfl rfl rfl rfl (show lns40.length - 1 < lns40.length from by omega)) ?_
      refine sp hT ?_
      refine ss (sti_load1 hT (Reads.knows (reads_row kT4) (k := (lns40.length - 1)) (x := x46) hx47 0) rfl rfl rfl rfl rfl) ?_
      refine sp3 hT ?_
      refine at_bool (t' := overP ⟨ins39.map InputV.inp, lns40.map LineV.ln⟩) (over_last (by assumption)) ?_
      refine at_nil ?_
      refine n_block ?_
      refine n_then ?_
      exact at_back2 (toks.drop (ownP toks).length, _, _, ins39, lns40, _, _, _, _, (n + 1), _, _, _) (by dsimp only; rw [List.length_drop]; omega) ⟨rfl, rfl, rfl, trivial⟩ ⟨rfl, rfl, rfl, rfl, rfl, trivial⟩ (.cons kT2 (.cons kT2 (.cons kT2 (.cons .head (.cons kT1 (.cons kT1 .nil)))))) ⟨Has.pure (⟨by dsimp only; rw [own_end (toks := toks) rfl (by omega)]; exact hp2, fun t ht => hinv6.2.1 t (List.mem_of_mem_drop ht), by dsimp only; rw [List.length_drop]; omega, by dsimp only; rw [List.length_drop]; omega, by have := hio.1; dsimp only; omega, by dsimp only; omega⟩), Has.of mT3, Has.of mT0, Has.of mT1, trivial⟩ (HasAll.drop 10)
    have hg86 := Int.not_lt.1 (of_decide_eq_false hg86)
    refine sk4 ?_
    refine sk4 ?_
    refine sk2 ?_
    refine sp2 hT ?_
    refine at_bool (t' := overP ⟨ins39.map InputV.inp, lns40.map LineV.ln⟩) (over_none (by omega)) ?_
    refine at_nil ?_
    refine n_block ?_
    refine n_then ?_
    exact at_back2 (toks.drop (ownP toks).length, _, _, ins39, lns40, _, _, _, _, (n + 1), _, _, _) (by dsimp only; rw [List.length_drop]; omega) ⟨rfl, rfl, rfl, trivial⟩ ⟨rfl, rfl, rfl, rfl, rfl, trivial⟩ (.cons kT2 (.cons kT2 (.cons kT2 (.cons .head (.cons kT1 (.cons kT1 .nil)))))) ⟨Has.pure (⟨by dsimp only; rw [own_end (toks := toks) rfl (by omega)]; exact hp2, fun t ht => hinv6.2.1 t (List.mem_of_mem_drop ht), by dsimp only; rw [List.length_drop]; omega, by dsimp only; rw [List.length_drop]; omega, by have := hio.1; dsimp only; omega, by dsimp only; omega⟩), Has.of mT3, Has.of mT0, Has.of mT1, trivial⟩ (HasAll.drop 10)
  have hc23 := Int.not_lt.1 (of_decide_eq_false hc23)
  refine at_exit ?_
  refine x_then ?_
  refine x_then ?_
  refine x_block ?_
  refine n_then ?_
  refine at_seq ?_
  refine sr ?_
  refine sp2 hT ?_
  refine nn ?_
  refine at_cond rfl (fun hc99 => ?_) (fun hc99 => ?_)
  · have hc99 := not_t hc99
    refine sr ?_
    refine ss (sti_build rfl rfl (Parse_built_api_Program_)) ?_
    refine sp2 hT ?_
    refine at_int (z' := ((text.length : Nat) : Int)) rfl ?_
    refine ss (sti_build rfl rfl (Parse_built_api_Fault_01 _ _)) ?_
    refine sto hT kT5 ?_
    refine sto hT kT5 ?_
    refine nn ?_
    refine at_ret ?_
    refine r_then ?_
    have hr := by have := p_end hinv6.1 (List.eq_nil_of_length_eq_zero (by omega)); rw [if_neg (by simp [*])] at this; exact this
    subst hr
    exact at_res2 (⟨⟨none, 0, []⟩, ⟨none, 0, []⟩⟩ : ProgV) rfl (rv_cell hT (knows_own (off := 0) kT1) rfl rfl rfl rfl) (rv_cell hT (knows_own (off := 0) .head) rfl rfl rfl rfl) .nil ⟨Has.and (Has.and has_nil Has.each_nil) (Has.and has_nil Has.each_nil), Has.pure rfl, trivial⟩ rfl
  have hc99 := not_f hc99
  refine at_skip ?_
  refine n_then ?_
  refine sr ?_
  refine ss (ldN hT (knows_own (off := 0) .head)) ?_
  refine ss (sti_build rfl rfl (Parse_built_api_Fault_)) ?_
  refine sto hT kT5 ?_
  refine sto hT kT5 ?_
  refine nn ?_
  refine at_ret ?_
  have hr := p_end hinv6.1 (List.eq_nil_of_length_eq_zero (by omega))
  rw [if_pos (by assumption)] at hr
  subst hr
  refine at_freeze kT3 ?_
  refine at_freeze kT3 ?_
  exact at_res2 (⟨⟨_, _, ins⟩, ⟨_, _, lns⟩⟩ : ProgV) rfl (rv_cell hT (knows_own (off := 0) kT1) rfl rfl rfl rfl) (rv_cell hT (knows_own (off := 0) .head) rfl rfl rfl rfl) .nil ⟨Has.and (Has.and (Has.of mT1) (Has.of mT4)) (Has.and (Has.of mT0) (Has.of mT5)), Has.pure rfl, trivial⟩ rfl

end Go.Proofs.YtngkedmndhmjcaaGreatDoor
