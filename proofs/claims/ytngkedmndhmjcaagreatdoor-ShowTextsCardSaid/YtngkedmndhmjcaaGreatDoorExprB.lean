/- Walk of parse.line.expr. (Printed by wip/gen/parse2.py.) -/
import Derived.Test.YtngkedmndhmjcaaGreatDoorExprP
namespace Go.Proofs.YtngkedmndhmjcaaGreatDoor
open Go.RowKit

/-- an item's numbers lie in memory that stays -/
def numF (it : ItemV) : Fact := intE.sl (.slice it.nums.addr it.nums.list.length it.nums.cap) it.nums.list
def numsF (l : List ItemV) : Fact := Fact.each l numF
def tnF (st : List Todo) : Fact := Fact.each st fun o => match o with
  | none => Fact.true
  | some x => numF x.2
section
variable {F : List Fact} {b : Nat} {it : ItemV} {o : Todo} {l : List ItemV} {st : List Todo}
theorem tn_none (h : Has F (tnF st)) : Has F (tnF (none :: st)) := Has.each_cons Has.true h
theorem tn_some (h : Has F (tnF st)) (hx : Has F (numF it)) : Has F (tnF (some (b, it) :: st)) := Has.each_cons hx h
theorem tn_tail (h : Has F (tnF (o :: st))) : Has F (tnF st) := Has.each_tail h
theorem nums_add (h : Has F (numsF l)) (hx : Has F (numF it)) : Has F (numsF (l ++ [it])) := Has.each_snoc h hx
theorem nums_fin (hn : Has F (numsF l)) (h : Has F (tnF st)) : Has F (numsF (l ++ (finP st).1)) := by
  induction st generalizing l with
  | nil => rw [finP, List.append_nil]; exact hn
  | cons o st ih =>
    cases o with
    | none => rw [finP, List.append_nil]; exact hn
    | some x =>
      have := ih (nums_add hn (fun S w k => h S w k (some x) (List.mem_cons_self ..))) (tn_tail h)
      rw [List.append_assoc] at this
      exact this
theorem tn_fin (h : Has F (tnF st)) : Has F (tnF (finP st).2) := by
  induction st with
  | nil => exact h
  | cons o st ih =>
    cases o with
    | none => exact h
    | some x => exact ih (tn_tail h)
end
section
variable {toks : List TokV} {e : Int} {r : ExprR} {k o : Nat} {out : List ItemV} {st s2 : List Todo}
theorem b_num {s : Stk} (h : EInv toks e r k (out.map ItemV.it) s o) (h2 : (peekP toks k).kind = 2) {j : Nat} {cur : List Int} {C : Option Addr} {c : Nat} (hj : j = k + cur.length) (hc : numsFrom toks k = cur) :
    BInv toks e r j ((out ++ [(⟨1, (peekP toks k).at_, 0, [], ⟨C, c, cur⟩⟩ : ItemV)]).map ItemV.it) s o := by
  have := e_num h h2
  subst hc
  subst hj
  rw [List.map_append]
  exact this
theorem b_name {s : Stk} (h : EInv toks e r k (out.map ItemV.it) s o) (h1 : (peekP toks k).kind = 1) (hn : nameB (peekP toks k).word = true) :
    BInv toks e r (k + 1) ((out ++ [(⟨2, (peekP toks k).at_, 0, (peekP toks k).word, ⟨none, 0, []⟩⟩ : ItemV)]).map ItemV.it) s o := by
  rw [List.map_append]
  exact e_name h h1 hn
theorem b_closed (h : BInv toks e r k (out.map ItemV.it) (erase st) o) (ho : 0 < o) (h3 : (peekP toks k).kind = 3) (hw : (peekP toks k).word = [41]) (hs : (finP st).2 = none :: s2) :
    BInv toks e r (k + 1) ((out ++ (finP st).1).map ItemV.it) (erase s2) (o - 1) := by
  have h1 := b_close h ho h3 hw
  rw [← (fin_erase st).2, hs] at h1
  rw [List.map_append, (fin_erase st).1]
  exact h1
theorem r_ended (h : BInv toks e r k (out.map ItemV.it) (erase st) o) (h4 : (peekP toks k).kind = 4) (ho : ¬ 0 < o) : r = ((out ++ (finP st).1).map ItemV.it, (0, 0)) := by
  rw [List.map_append, (fin_erase st).1]
  exact r_end h h4 ho
theorem tok_word_len {s : Bs} (h : s.length ≤ 65536) : s.length ≤ 140737488355328 := by omega
end
theorem expr_zero_api_Fault : (Tryz.prog.info? 32).bind (·.zero) = some (.agg #[.int .i64 0, .int .i64 0]) := by kernel_rfl
theorem expr_zero_api_Token : (Tryz.prog.info? 54).bind (·.zero) = some (.agg #[.int .i64 0, .int .i64 0, .string (bs []), .int .i64 0]) := by kernel_rfl
theorem expr_built_api_Fault_  : Tryz.prog.built 32 [] = some #[.int .i64 0, .int .i64 0] := by kernel_rfl
theorem expr_built_api_Item_013 (z0 : Int) (z1 : Int) (s3 : ByteArray) : Tryz.prog.built 46 [(0, .int .i64 z0), (1, .int .i64 z1), (3, .string s3)] = some #[.int .i64 z0, .int .i64 z1, .int .u8 0, .string s3, .slice none 0 0] := by kernel_rfl
theorem expr_built_api_Item_01 (z0 : Int) (z1 : Int) : Tryz.prog.built 46 [(0, .int .i64 z0), (1, .int .i64 z1)] = some #[.int .i64 z0, .int .i64 z1, .int .u8 0, .string (bs []), .slice none 0 0] := by kernel_rfl
theorem expr_zero_api_Item : (Tryz.prog.info? 46).bind (·.zero) = some (.agg #[.int .i64 0, .int .i64 0, .int .u8 0, .string (bs []), .slice none 0 0]) := by kernel_rfl

set_option maxRecDepth 100000 in
theorem expr_spec (bl : Nat) (A : Option Addr) (c : Nat) (toks : List TokV) (k0 : Nat) (e : Int) (hk : k0 ≤ toks.length) (hl : toks.length ≤ 1000) (hw : ∀ k, (peekP toks k).word.length ≤ 65536) : Spec Tryz.prog 36 [.pointer (some ⟨bl, 0, none⟩)] [.obj bl (.cells [.slice A toks.length c, .int .i64 (k0 : Nat), .int .i64 e].toArray 52)] [tokE.sl (.slice A toks.length c) toks, globF] (fun (x : Option Addr × Nat × List ItemV × Nat) => .tuple #[.slice x.1 x.2.2.1.length x.2.1, .agg #[.int .i64 (exprP toks e k0).2.1, .int .i64 (exprP toks e k0).2.2]]) (fun (x : Option Addr × Nat × List ItemV × Nat) => [.obj bl (.cells [.slice A toks.length c, .int .i64 (x.2.2.2 : Nat), .int .i64 e].toArray 52)]) (fun (x : Option Addr × Nat × List ItemV × Nat) => [itemE.sl (.slice x.1 x.2.2.1.length x.2.1) x.2.2.1, numsF x.2.2.1, Fact.pure (x.2.2.1.map ItemV.it = (exprP toks e k0).1)]) := by
  have hT := showT_ok
  have he0 := e_start (e := e) hk
  generalize exprP toks e k0 = r at he0 ⊢
  refine spec_of Tryz.func36 rfl Tryz.ntmps36 rfl ?_
  intro β hM
  refine sr ?_
  refine at_box rfl rfl rfl rfl rfl rfl fun b1 => ?_
  refine sp hT ?_
  refine at_alloc rfl rfl rfl rfl expr_zero_api_Fault rfl fun b2 => ?_
  refine nn ?_
  refine sr ?_
  refine at_alloc rfl rfl rfl rfl itemZ rfl fun b4 => ?_
  refine nn ?_
  refine sr ?_
  refine at_alloc rfl rfl rfl rfl funcZ rfl fun b5 => ?_
  refine nn ?_
  refine sr ?_
  refine sp hT ?_
  refine nn ?_
  refine sr ?_
  refine sp2 hT ?_
  refine nn ?_
  refine sr ?_
  refine sp2 hT ?_
  refine nn ?_
  refine at_block ?_
  refine at_nilrow' (t := 46) itemE ?_
  refine at_nilrow' (t := 1) (fnE b4) ?_
  refine at_fact (numsF []) (Has.each_nil) ?_
  refine at_fact (tnF []) (Has.each_nil) ?_
  refine at_fact (todoF []) (todo_nil) ?_
  refine at_loop2 (ι := Nat × Nat × List ItemV × List Todo × Option Addr × Nat × Option Addr × Nat) [(1, _), (3, _), (4, _), (5, _), (7, _), (8, _)] ⟨rfl, rfl, rfl, rfl, rfl, rfl, trivial⟩ (fun ⟨k, o, out, st, C, e1, D, f⟩ => [(6, .int .i64 (o : Nat))]) (fun ⟨k, o, out, st, C, e1, D, f⟩ => [.obj bl (.cells [.slice A toks.length c, .int .i64 (k : Nat), .int .i64 e].toArray 52), .obj b4 (.cells [.slice C out.length e1].toArray 40), itemE.row (.slice C out.length e1) 46 out, .obj b5 (.cells [.slice D st.reverse.length f].toArray 102), (fnE b4).row (.slice D st.reverse.length f) 1 st.reverse]) (fun ⟨k, o, out, st, C, e1, D, f⟩ => [Fact.pure (EInv toks e r k (out.map ItemV.it) (erase st) o ∧ opens st = o ∧ o ≤ 32 ∧ out.length + st.length ≤ k ∧ k ≤ toks.length), todoF st, tnF st, numsF out]) (fun ⟨k, o, out, st, C, e1, D, f⟩ => toks.length - k) (k0, 0, [], [], none, 0, none, 0) ⟨rfl, trivial⟩ (.cons kT6 (.cons kT3 (.cons kT1 (.cons kT1 (.cons .head .nil))))) ⟨Has.pure (⟨he0, rfl, by omega, by simp, hk⟩), Has.of mT0, Has.of mT1, Has.of mT2, trivial⟩ ?_
  rintro ⟨k, o, out, st, C, e1, D, f⟩
  dsimp only
  refine at_know (Has.of mT0) fun hinv6 => ?_
  refine at_block ?_
  refine sr ?_
  refine ss (ldO hT (knows_own (off := 0) kT6)) ?_
  refine at_call (callFunc_enter Tryz.func32 rfl rfl) (peek_spec bl A c toks (k) e) rfl rfl rfl rfl rfl (.cons .head .nil) ⟨Has.of mT7, trivial⟩ fun _ => ?_
  refine at_alloc rfl rfl rfl rfl expr_zero_api_Token rfl fun b3 => ?_
  refine sto hT .head ?_
  refine nn ?_
  refine at_seq ?_
  refine at_block ?_
  refine sr ?_
  refine sp hT ?_
  refine ss (ldO hT (knows_own (off := 0) .head)) ?_
  refine sp2 hT ?_
  refine at_case (fun hg23 => ?_) (fun hg23 => ?_)
  · have hg23 := bne_iff_ne.1 hg23
    refine sp hT ?_
    refine ss (ldO hT (knows_own (off := 0) .head)) ?_
    refine sp3 hT ?_
    refine at_case (fun hg28 => ?_) (fun hg28 => ?_)
    · have hg28 := bne_iff_ne.1 hg28
      refine sp hT ?_
      refine ss (ldO hT (knows_own (off := 2) .head)) ?_
      refine at_call (callFunc_enter Tryz.func52 rfl rfl) (verb_spec _) rfl rfl rfl rfl rfl .nil trivial fun _ => ?_
      refine sp2 hT ?_
      refine nn ?_
      refine at_cond rfl (fun hc19 => ?_) (fun hc19 => ?_)
      · refine at_seq ?_
        refine sr ?_
        refine sp hT ?_
        refine at_callv (callFunc_enter Tryz.func54 rfl rfl) (laterF_spec bl A c toks (k) e b1 b5 b4 _ _ st (by omega) (by omega)) rfl rfl rfl rfl rfl rfl rfl (.cons kT1 (.cons kT6 (.cons kT3 (.cons kT3 .nil)))) ⟨(Has.of mT7), (Has.of mT1), trivial⟩ fun ⟨⟨A4, c5⟩, b6⟩ => ?_
        refine at_fact (tnF (some (b6, (phrI (phraseP toks (k) e false))) :: st)) (tn_some (Has.of mT3) has_nil) ?_
        refine at_alloc rfl rfl rfl rfl expr_zero_api_Fault rfl fun b7 => ?_
        refine sto hT .head ?_
        refine nn ?_
        refine sr ?_
        refine ss (ldN hT (knows_own (off := 0) .head)) ?_
        refine ss (sti_build rfl rfl (expr_built_api_Fault_)) ?_
        refine ss (sti_neq_flt ⟨(phraseP toks (k) e false).flt.1, (phraseP toks (k) e false).flt.2⟩ ⟨0, 0⟩ rfl rfl rfl) ?_
        refine nn ?_
        refine at_cond rfl (fun hc37 => ?_) (fun hc37 => ?_)
        · have hc37 := not_t hc37
          refine at_seq ?_
          refine at_mix _ _ [(true, 0), (true, 1), (false, 2)] mixes (by decide +kernel) (.cons .head (.cons .head (.cons .head (.cons .head (.cons .head (.cons .head (.cons .head (.cons .head .nil)))))))) HasAll.self ?_
          refine atm_sti rfl rfl rfl rfl (ldN hT (knows_own (off := 0) .head)) ?_
          refine atm_sti rfl rfl rfl rfl (sti_pure hT rfl) ?_
          refine atm_op (o := _) rfl ?_
          refine sto hT kT8 ?_
          refine atm_go (.cons kT1 (.cons kT1 (.cons kT1 (.cons kT1 (.cons kT1 (.cons kT1 (.cons kT1 (.cons kT1 .nil)))))))) (HasAll.drop 0) ?_
          refine atm_nil ?_
          refine n_then ?_
          refine at_ret ?_
          refine r_then ?_
          refine r_block ?_
          refine r_then ?_
          refine r_block ?_
          refine r_then ?_
          refine r_block ?_
          have hr := (e_verb hinv6.1 (by assumption) (by assumption) (by assumption)).2 hc37
          subst hr
          exact at_res2 (none, 0, [], _) rfl (rv_tmp rfl) (rv_cell hT (knows_own (off := 0) .head) rfl rfl rfl rfl) (.cons kT2 .nil) ⟨has_nil, Has.each_nil, Has.pure rfl, trivial⟩ rfl
        have hc37 := not_f hc37
        have he := (e_verb hinv6.1 (by assumption) (by assumption) (by assumption)).1 hc37
        refine at_skip ?_
        refine n_then ?_
        refine at_exit ?_
        refine x_pass rfl ?_
        refine x_then ?_
        refine x_block ?_
        refine n_then ?_
        exact at_back2 ((phraseP toks (k) e false).next, o, out, (some (b6, (phrI (phraseP toks (k) e false))) :: st), _, _, _, _) (by have := he.1; first | (have := phrase_next toks k e false; dsimp only; omega) | (have := phrase_next toks k e true; dsimp only; omega)) ⟨rfl, trivial⟩ ⟨rfl, rfl, rfl, rfl, rfl, rfl, trivial⟩ (.cons kT1 (.cons kT5 (.cons kT5 (.cons kT2 (.cons kT2 (.cons kT3 (.cons kT1 .nil))))))) ⟨Has.pure (⟨he, hinv6.2.1, hinv6.2.2.1, by have := phrase_next toks k e false; first | omega | (simp; omega), he.1⟩), Has.of mT1, Has.of mT0, Has.of mT5, trivial⟩ (HasAll.drop 6)
      refine sr ?_
      refine sp hT ?_
      refine ss (ldO hT (knows_own (off := 0) .head)) ?_
      refine sp2 hT ?_
      refine at_case (fun hg43 => ?_) (fun hg43 => ?_)
      · have hg43 := eq_of_beq hg43
        refine sp hT ?_
        refine ss (ldO hT (knows_own (off := 2) .head)) ?_
        refine sp3 hT ?_
        refine nn ?_
        refine at_cond rfl (fun hc39 => ?_) (fun hc39 => ?_)
        · have hc39 : (peekP toks (k)).word = ([40] : Bs) := eq_of_beq hc39
          refine at_seq ?_
          refine sr ?_
          refine sp2 hT ?_
          refine nn ?_
          refine at_cond rfl (fun hc49 => ?_) (fun hc49 => ?_)
          · have hc49 := eq_of_beq hc49
            refine sr ?_
            refine ss (ldO hT (knows_own (off := 0) kT7)) ?_
            refine at_call (callFunc_enter Tryz.func33 rfl rfl) (fault_spec bl A c toks (k) e _) rfl rfl rfl rfl rfl (.cons kT1 .nil) ⟨Has.of mT7, trivial⟩ fun _ => ?_
            refine sp hT ?_
            refine sto hT kT6 ?_
            refine nn ?_
            refine at_ret ?_
            refine r_then ?_
            refine r_block ?_
            refine r_then ?_
            refine r_block ?_
            refine r_then ?_
            refine r_block ?_
            have hr := (e_open hinv6.1 (by assumption) (by assumption)).2 (by omega)
            subst hr
            exact at_res2 (none, 0, [], _) rfl (rv_tmp rfl) (rv_cell hT (knows_own (off := 0) .head) rfl rfl rfl rfl) (.cons kT1 .nil) ⟨has_nil, Has.each_nil, Has.pure rfl, trivial⟩ rfl
          have hc49 := beq_eq_false_iff_ne.1 hc49
          have he := (e_open hinv6.1 (by assumption) (by assumption)).1 (by omega)
          refine at_skip ?_
          refine n_then ?_
          refine sr ?_
          refine sp2 hT ?_
          refine at_int (z' := (((o + 1) : Nat) : Int)) (wrapN (by omega) (by omega)) ?_
          refine sp hT ?_
          refine nn ?_
          refine sr ?_
          refine ss (ldO hT (knows_own (off := 0) kT7)) ?_
          refine sp2 hT ?_
          refine ss (ldO hT (knows_own (off := 1) kT1)) ?_
          refine sp hT ?_
          refine at_int (z' := (((k + 1) : Nat) : Int)) (wrapN (by omega) (by omega)) ?_
          refine sp2 hT ?_
          refine sto hT kT1 ?_
          refine nn ?_
          refine sr ?_
          refine ss (ldO hT (knows_own (off := 0) kT4)) ?_
          refine at_one_fn (b4 := b4) (m := (none : Todo)) rfl rfl rfl rfl rfl fun b8 => ?_
          refine at_app_fn kT6 (reads_obj .head rfl) rfl rfl rfl rfl rfl rfl rfl (by simp only [List.length_singleton, List.length_reverse]; omega) fun A9 c10 => ?_
          rw [← List.reverse_cons]
          refine at_fact (todoF (none :: st)) (todo_none (Has.of mT1)) ?_
          refine at_fact (tnF (none :: st)) (tn_none (Has.of mT3)) ?_
          refine sto hT kT6 ?_
          refine nn ?_
          refine at_exit ?_
          refine x_pass rfl ?_
          refine x_then ?_
          refine x_block ?_
          refine n_then ?_
          exact at_back2 ((k + 1), (o + 1), out, (none :: st), _, _, _, _) (by have := he.1; first | (have := phrase_next toks k e false; dsimp only; omega) | (have := phrase_next toks k e true; dsimp only; omega)) ⟨rfl, trivial⟩ ⟨rfl, rfl, rfl, rfl, rfl, rfl, trivial⟩ (.cons kT3 (.cons kT4 (.cons kT4 (.cons .head (.cons .head (.cons kT2 (.cons kT2 .nil))))))) ⟨Has.pure (⟨he, by show opens st + 1 = _; rw [hinv6.2.1], by dsimp only; omega, by first | omega | (simp; omega), he.1⟩), Has.of mT1, Has.of mT0, Has.of mT5, trivial⟩ (HasAll.drop 6)
        have hc39 : (peekP toks (k)).word ≠ ([40] : Bs) := fun h => absurd (beq_iff_eq.2 h) (by rw [show ((peekP toks (k)).word == ([40] : Bs)) = false from hc39]; simp)
        refine sr ?_
        refine sp hT ?_
        refine ss (ldO hT (knows_own (off := 0) .head)) ?_
        refine sp hT ?_
        refine at_bool (t' := false) (by rw [hg43]; rfl) ?_
        refine sp hT ?_
        refine nn ?_
        refine at_false rfl rfl ?_
        refine sr ?_
        refine sp hT ?_
        refine ss (ldO hT (knows_own (off := 0) .head)) ?_
        refine sp hT ?_
        refine at_bool (t' := false) (by rw [hg43]; rfl) ?_
        refine sp hT ?_
        refine sk3 ?_
        refine sp2 hT ?_
        refine nn ?_
        refine at_false rfl rfl ?_
        refine sr ?_
        refine sp hT ?_
        refine ss (ldO hT (knows_own (off := 0) .head)) ?_
        refine sp hT ?_
        refine at_bool (t' := false) (by rw [hg43]; rfl) ?_
        refine sp hT ?_
        refine nn ?_
        refine at_false rfl rfl ?_
        refine sr ?_
        refine ss (ldO hT (knows_own (off := 0) kT7)) ?_
        refine at_call (callFunc_enter Tryz.func33 rfl rfl) (fault_spec bl A c toks (k) e _) rfl rfl rfl rfl rfl (.cons kT1 .nil) ⟨Has.of mT7, trivial⟩ fun _ => ?_
        refine sp hT ?_
        refine sto hT kT6 ?_
        refine nn ?_
        refine at_ret ?_
        refine r_block ?_
        refine r_then ?_
        refine r_block ?_
        refine r_then ?_
        refine r_block ?_
        have hr := e_want hinv6.1 (by omega) (by omega) (by first | exact .inl (by assumption) | exact .inr (by assumption)) (by first | exact .inr (by assumption) | exact .inl (by omega))
        subst hr
        exact at_res2 (none, 0, [], _) rfl (rv_tmp rfl) (rv_cell hT (knows_own (off := 0) .head) rfl rfl rfl rfl) (.cons kT1 .nil) ⟨has_nil, Has.each_nil, Has.pure rfl, trivial⟩ rfl
      have hg43 := beq_eq_false_iff_ne.1 hg43
      refine sk3 ?_
      refine sp2 hT ?_
      refine nn ?_
      refine at_false rfl rfl ?_
      refine sr ?_
      refine sp hT ?_
      refine ss (ldO hT (knows_own (off := 0) .head)) ?_
      refine sp hT ?_
      refine at_bool (t' := false) (beq_eq_false_iff_ne.2 hg23) ?_
      refine sp hT ?_
      refine nn ?_
      refine at_false rfl rfl ?_
      refine sr ?_
      refine sp hT ?_
      refine ss (ldO hT (knows_own (off := 0) .head)) ?_
      refine sp2 hT ?_
      refine at_case (fun hg98 => ?_) (fun hg98 => ?_)
      · have hg98 := eq_of_beq hg98
        refine sp hT ?_
        refine ss (ldO hT (knows_own (off := 2) .head)) ?_
        refine at_call (callFunc_enter Tryz.func35 rfl rfl) (Name_spec _ (by have := hw k; omega)) rfl rfl rfl rfl rfl .nil ⟨Has.of mT8, trivial⟩ fun _ => ?_
        refine sp2 hT ?_
        refine nn ?_
        refine at_cond rfl (fun hc94 => ?_) (fun hc94 => ?_)
        · refine at_seq ?_
          have hbi := b_name hinv6.1 (by assumption) (by assumption)
          refine at_region ?_
          refine ss (ldO hT (knows_own (off := 0) kT2)) ?_
          refine sp hT ?_
          refine ss (ldO hT (knows_own (off := 1) .head)) ?_
          refine sp hT ?_
          refine ss (ldO hT (knows_own (off := 2) .head)) ?_
          refine ss (sti_build rfl rfl (expr_built_api_Item_013 _ _ _)) ?_
          refine at_one_item (m := (⟨2, (peekP toks k).at_, 0, (peekP toks k).word, ⟨none, 0, []⟩⟩ : ItemV)) rfl rfl rfl rfl rfl fun b11 => ?_
          refine at_app_item kT4 (reads_obj .head rfl) rfl rfl rfl rfl rfl rfl rfl (by simp only [List.length_singleton]; omega) fun A12 c13 => ?_
          refine at_fact (numsF (out ++ [(⟨2, (peekP toks k).at_, 0, (peekP toks k).word, ⟨none, 0, []⟩⟩ : ItemV)])) (nums_add (Has.of mT3) has_nil) ?_
          refine sto hT kT4 ?_
          refine nn ?_
          refine at_region ?_
          refine ss (ldO hT (knows_own (off := 0) kT8)) ?_
          refine sp2 hT ?_
          refine ss (ldO hT (knows_own (off := 1) kT4)) ?_
          refine sp hT ?_
          refine at_int (z' := (((k + 1) : Nat) : Int)) (wrapN (by omega) (by omega)) ?_
          refine sp2 hT ?_
          refine sto hT kT4 ?_
          refine at_nil ?_
          refine n_block ?_
          refine n_then ?_
          refine at_seq ?_
          refine sr ?_
          refine ss (ldO hT (knows_own (off := 0) kT8)) ?_
          refine at_call (callFunc_enter Tryz.func32 rfl rfl) (peek_spec bl A c toks ((k + 1)) e) rfl rfl rfl rfl rfl (.cons .head .nil) ⟨Has.of mT8, trivial⟩ fun _ => ?_
          refine sto hT kT4 ?_
          refine nn ?_
          refine at_block ?_
          obtain ⟨kk, hkk⟩ : ∃ kk, kk = k := ⟨_, rfl⟩
          refine at_loop2 (ι := Nat × Nat × List ItemV × List Todo × Option Addr × Nat × Option Addr × Nat) [(1, _), (3, _), (4, _), (5, _), (7, _), (8, _), (9, _), (24, _), (25, _), (26, _), (29, _), (30, _), (31, _), (44, _), (45, _), (46, _), (99, _), (100, _), (101, _)] ⟨rfl, rfl, rfl, rfl, rfl, rfl, rfl, rfl, rfl, rfl, rfl, rfl, rfl, rfl, rfl, rfl, rfl, rfl, rfl, trivial⟩ (fun ⟨k, o, out, st, C, e1, D, f⟩ => [(6, .int .i64 (o : Nat))]) (fun ⟨k, o, out, st, C, e1, D, f⟩ => [.obj bl (.cells [.slice A toks.length c, .int .i64 (k : Nat), .int .i64 e].toArray 52), .obj b4 (.cells [.slice C out.length e1].toArray 40), itemE.row (.slice C out.length e1) 46 out, .obj b5 (.cells [.slice D st.reverse.length f].toArray 102), (fnE b4).row (.slice D st.reverse.length f) 1 st.reverse, .obj b3 (.cells [.int .i64 (peekP toks k).kind, .int .i64 (peekP toks k).at_, .string (bs (peekP toks k).word), .int .i64 (peekP toks k).n].toArray 54)]) (fun ⟨k, o, out, st, C, e1, D, f⟩ => [Fact.pure (BInv toks e r k (out.map ItemV.it) (erase st) o ∧ opens st = o ∧ o ≤ 32 ∧ out.length + st.length ≤ k ∧ k ≤ toks.length ∧ kk < k), todoF st, tnF st, numsF out]) (fun ⟨k, o, out, st, C, e1, D, f⟩ => toks.length - k) ((k + 1), o, (out ++ [(⟨2, (peekP toks k).at_, 0, (peekP toks k).word, ⟨none, 0, []⟩⟩ : ItemV)]), st, _, _, _, _) ⟨rfl, trivial⟩ (.cons kT1 (.cons kT1 (.cons kT1 (.cons kT2 (.cons kT2 (.cons .head .nil)))))) ⟨Has.pure (⟨hbi, hinv6.2.1, hinv6.2.2.1, by first | omega | (simp; omega), hbi.1, by omega⟩), Has.of mT2, Has.of mT3, Has.of mT0, trivial⟩ ?_
          rintro ⟨k, o, out, st, C, e1, D, f⟩
          dsimp only
          refine at_know (Has.of mT0) fun hinv30 => ?_
          refine at_seq ?_
          refine sr ?_
          refine sp3 hT ?_
          refine at_case (fun hg128 => ?_) (fun hg128 => ?_)
          · have hg128 := of_decide_eq_true hg128
            refine sp hT ?_
            refine ss (ldO hT (knows_own (off := 0) kT5)) ?_
            refine sp3 hT ?_
            refine at_case (fun hg133 => ?_) (fun hg133 => ?_)
            · have hg133 := eq_of_beq hg133
              refine sp hT ?_
              refine ss (ldO hT (knows_own (off := 2) kT5)) ?_
              refine sp2 hT ?_
              refine nn ?_
              refine at_cond rfl (fun hc137 => ?_) (fun hc137 => ?_)
              · have hc137 : (peekP toks k).word = ([41] : Bs) := eq_of_beq hc137
                refine at_skip ?_
                refine n_then ?_
                refine at_seq ?_
                refine at_block ?_
                refine sr ?_
                refine sp hT ?_
                refine at_callv (callFunc_enter Tryz.func53 rfl rfl) (finish_spec b5 b4 _ _ st _ _ out (by omega)) rfl rfl rfl rfl rfl rfl rfl (.cons kT3 (.cons kT3 (.cons kT1 (.cons kT1 .nil)))) ⟨(Has.of mT1), trivial⟩ fun ⟨⟨D14, f15⟩, ⟨C16, e17⟩⟩ => ?_
                refine at_fact (numsF (out ++ (finP st).1)) (nums_fin (Has.of mT4) (Has.of mT3)) ?_
                refine at_fact (tnF (finP st).2) (tn_fin (Has.of mT4)) ?_
                have hfl := fin_len st
                obtain ⟨s2, hs2, ho2⟩ := fin_open (st := st) (by omega)
                have hb2 := b_closed hinv30.1 (by omega) (by assumption) (by assumption) hs2
                rw [hs2] at hfl ⊢
                simp only [List.length_cons] at hfl
                refine at_fact (todoF s2) (todo_tail (Has.of mT2)) ?_
                refine at_fact (tnF s2) (tn_tail (Has.of mT1)) ?_
                refine nn ?_
                refine sr ?_
                refine ss (ldO hT (knows_own (off := 0) .head)) ?_
                refine ss (ldO hT (knows_own (off := 0) .head)) ?_
                refine sp hT ?_
                refine at_int (z' := (((s2.length + 1) : Nat) : Int)) (congrArg Nat.cast (todo_len _ s2)) ?_
                refine sp hT ?_
                refine at_int (z' := ((((s2.length + 1) - 1) : Nat) : Int)) (wrapN (by omega) (by omega)) ?_
                refine at_trunc hT (k := ((s2.length + 1) - 1)) kT1 rfl rfl rfl rfl rfl rfl rfl rfl rfl (by rw [todo_len]; omega) ?_
                rw [todo_init]
                refine sto hT kT1 ?_
                refine nn ?_
                refine sr ?_
                refine sp2 hT ?_
                refine at_int (z' := (((o - 1) : Nat) : Int)) (wrapN (by omega) (by omega)) ?_
                refine sp hT ?_
                refine nn ?_
                refine at_region ?_
                refine ss (ldO hT (knows_own (off := 0) kT8)) ?_
                refine sp2 hT ?_
                refine ss (ldO hT (knows_own (off := 1) kT4)) ?_
                refine sp hT ?_
                refine at_int (z' := (((k + 1) : Nat) : Int)) (wrapN (by omega) (by omega)) ?_
                refine sp2 hT ?_
                refine sto hT kT4 ?_
                refine at_nil ?_
                refine n_block ?_
                refine n_then ?_
                refine at_region ?_
                refine ss (ldO hT (knows_own (off := 0) kT8)) ?_
                refine at_call (callFunc_enter Tryz.func32 rfl rfl) (peek_spec bl A c toks ((k + 1)) e) rfl rfl rfl rfl rfl (.cons .head .nil) ⟨Has.of (.tail _ (.tail _ (.tail _ (.tail _ (.tail _ (.tail _ (.tail _ (.tail _ (.tail _ (.tail _ (.tail _ (.tail _ (.tail _ (.tail _ (.tail _ (.tail _ (.tail _ mT0))))))))))))))))), trivial⟩ fun _ => ?_
                refine sto hT kT5 ?_
                refine nn ?_
                exact at_back2 ((k + 1), (o - 1), (out ++ (finP st).1), s2, _, _, _, _) (by have := hb2.1; dsimp only; omega) ⟨rfl, trivial⟩ ⟨rfl, rfl, rfl, rfl, rfl, rfl, rfl, rfl, rfl, rfl, rfl, rfl, rfl, rfl, rfl, rfl, rfl, rfl, rfl, trivial⟩ (.cons kT1 (.cons kT3 (.cons kT3 (.cons kT1 (.cons kT1 (.cons .head (.cons .head (.cons .head (.cons .head .nil))))))))) ⟨Has.pure (⟨hb2, by dsimp only; omega, by dsimp only; omega, by first | omega | (simp; omega), hb2.1, by dsimp only; omega⟩), Has.of mT1, Has.of mT0, Has.of mT3, trivial⟩ (HasAll.drop 9)
              have hc137 : (peekP toks k).word ≠ ([41] : Bs) := fun h => absurd (beq_iff_eq.2 h) (by rw [show ((peekP toks k).word == ([41] : Bs)) = false from hc137]; simp)
              refine at_exit ?_
              refine x_then ?_
              refine x_then ?_
              refine x_block ?_
              refine n_then ?_
              refine at_seq ?_
              refine at_block ?_
              refine sr ?_
              refine sp hT ?_
              refine ss (ldO hT (knows_own (off := 0) kT5)) ?_
              refine sp hT ?_
              refine at_bool (t' := false) (by rw [hg133]; rfl) ?_
              refine sp hT ?_
              refine sk2 ?_
              refine sp2 hT ?_
              refine nn ?_
              refine at_false rfl rfl ?_
              refine sr ?_
              refine sp hT ?_
              refine ss (ldO hT (knows_own (off := 0) kT5)) ?_
              refine sp hT ?_
              refine at_bool (t' := false) (by rw [hg133]; rfl) ?_
              refine sp hT ?_
              refine nn ?_
              refine at_false rfl rfl ?_
              refine sr ?_
              refine sp hT ?_
              refine ss (ldO hT (knows_own (off := 0) kT5)) ?_
              refine sp hT ?_
              refine at_bool (t' := false) (by rw [hg133]; rfl) ?_
              refine sp2 hT ?_
              refine ss (ldO hT (knows_own (off := 2) kT5)) ?_
              refine at_call (callFunc_enter Tryz.func52 rfl rfl) (verb_spec _) rfl rfl rfl rfl rfl .nil trivial fun _ => ?_
              refine sp3 hT ?_
              refine nn ?_
              refine at_cond rfl (fun hc174 => ?_) (fun hc174 => ?_)
              · have hc174 := not_t hc174
                refine sr ?_
                refine ss (ldO hT (knows_own (off := 0) kT8)) ?_
                refine at_call (callFunc_enter Tryz.func33 rfl rfl) (fault_spec bl A c toks (k) e _) rfl rfl rfl rfl rfl (.cons .head .nil) ⟨Has.of mT12, trivial⟩ fun _ => ?_
                refine sp hT ?_
                refine sto hT kT7 ?_
                refine nn ?_
                refine at_ret ?_
                refine r_block ?_
                refine r_then ?_
                refine r_block ?_
                refine r_then ?_
                refine r_block ?_
                have hr := r_more hinv30.1 (by first | exact .inl (by omega) | exact .inr (.inl (by assumption)) | exact .inr (.inr (by assumption))) (by omega) (by first | exact .inr (by assumption) | exact .inl (by omega))
                subst hr
                exact at_res2 (none, 0, [], _) rfl (rv_tmp rfl) (rv_cell hT (knows_own (off := 0) .head) rfl rfl rfl rfl) (.cons kT1 .nil) ⟨has_nil, Has.each_nil, Has.pure rfl, trivial⟩ rfl
              have hc174 := not_f hc174
              refine at_skip ?_
              refine n_block ?_
              refine n_then ?_
              refine sr ?_
              refine sp hT ?_
              refine at_callv (callFunc_enter Tryz.func54 rfl rfl) (laterT_spec bl A c toks (k) e b1 b5 b4 _ _ st (by omega) (by omega)) rfl rfl rfl rfl rfl rfl rfl (.cons .head (.cons kT7 (.cons kT2 (.cons kT2 .nil)))) ⟨(Has.of mT12), (Has.of mT1), trivial⟩ fun ⟨⟨A18, c19⟩, b20⟩ => ?_
              refine at_fact (tnF (some (b20, (phrI (phraseP toks (k) e true))) :: st)) (tn_some (Has.of mT3) has_nil) ?_
              refine at_alloc rfl rfl rfl rfl expr_zero_api_Fault rfl fun b21 => ?_
              refine sto hT .head ?_
              refine nn ?_
              refine sr ?_
              refine ss (ldN hT (knows_own (off := 0) .head)) ?_
              refine ss (sti_build rfl rfl (expr_built_api_Fault_)) ?_
              refine ss (sti_neq_flt ⟨(phraseP toks (k) e true).flt.1, (phraseP toks (k) e true).flt.2⟩ ⟨0, 0⟩ rfl rfl rfl) ?_
              refine nn ?_
              refine at_cond rfl (fun hc190 => ?_) (fun hc190 => ?_)
              · have hc190 := not_t hc190
                refine at_seq ?_
                refine at_mix _ _ [(true, 0), (true, 1), (false, 2)] mixes (by decide +kernel) (.cons .head (.cons .head (.cons .head (.cons .head (.cons .head (.cons .head (.cons .head (.cons .head (.cons .head .nil))))))))) HasAll.self ?_
                refine atm_sti rfl rfl rfl rfl (ldN hT (knows_own (off := 0) .head)) ?_
                refine atm_sti rfl rfl rfl rfl (sti_pure hT rfl) ?_
                refine atm_op (o := _) rfl ?_
                refine sto hT kT9 ?_
                refine atm_go (.cons kT1 (.cons kT1 (.cons kT1 (.cons kT1 (.cons kT1 (.cons kT1 (.cons kT1 (.cons kT1 (.cons kT1 .nil))))))))) (HasAll.drop 0) ?_
                refine atm_nil ?_
                refine n_then ?_
                refine at_ret ?_
                refine r_block ?_
                refine r_then ?_
                refine r_block ?_
                have hr := (r_verb hinv30.1 (by first | exact .inl (by omega) | exact .inr (.inl (by assumption)) | exact .inr (.inr (by assumption))) (by omega) (by omega) (by assumption)).2 hc190
                subst hr
                exact at_res2 (none, 0, [], _) rfl (rv_tmp rfl) (rv_cell hT (knows_own (off := 0) .head) rfl rfl rfl rfl) (.cons kT2 .nil) ⟨has_nil, Has.each_nil, Has.pure rfl, trivial⟩ rfl
              have hc190 := not_f hc190
              have he := (r_verb hinv30.1 (by first | exact .inl (by omega) | exact .inr (.inl (by assumption)) | exact .inr (.inr (by assumption))) (by omega) (by omega) (by assumption)).1 hc190
              refine at_skip ?_
              refine n_block ?_
              refine n_then ?_
              exact at_back2 ((phraseP toks (k) e true).next, o, out, (some (b20, (phrI (phraseP toks (k) e true))) :: st), _, _, _, _) (by have := he.1; first | (have := phrase_next toks k e false; dsimp only; omega) | (have := phrase_next toks k e true; dsimp only; omega)) ⟨rfl, trivial⟩ ⟨rfl, rfl, rfl, rfl, rfl, rfl, trivial⟩ (.cons kT1 (.cons kT4 (.cons kT4 (.cons kT2 (.cons kT2 (.cons kT4 (.cons kT1 .nil))))))) ⟨Has.pure (⟨he, hinv30.2.1, hinv30.2.2.1, by have := phrase_next toks k e true; first | omega | (simp; omega), he.1⟩), Has.of mT1, Has.of mT0, Has.of mT5, trivial⟩ (HasAll.drop 11)
            have hg133 := beq_eq_false_iff_ne.1 hg133
            refine sk3 ?_
            refine sp hT ?_
            refine nn ?_
            refine at_false rfl rfl ?_
            refine at_exit ?_
            refine x_then ?_
            refine x_then ?_
            refine x_block ?_
            refine n_then ?_
            refine at_seq ?_
            refine at_block ?_
            refine sr ?_
            refine sp hT ?_
            refine ss (ldO hT (knows_own (off := 0) kT5)) ?_
            refine sp2 hT ?_
            refine at_case (fun hg160 => ?_) (fun hg160 => ?_)
            · have hg160 := eq_of_beq hg160
              refine sp4 hT ?_
              refine nn ?_
              refine at_cond rfl (fun hc156 => ?_) (fun hc156 => ?_)
              · have hc156 := of_decide_eq_true hc156
                refine sr ?_
                refine ss (ldO hT (knows_own (off := 0) kT8)) ?_
                refine at_call (callFunc_enter Tryz.func33 rfl rfl) (fault_spec bl A c toks (k) e _) rfl rfl rfl rfl rfl (.cons .head .nil) ⟨Has.of mT12, trivial⟩ fun _ => ?_
                refine sp hT ?_
                refine sto hT kT7 ?_
                refine nn ?_
                refine at_ret ?_
                refine r_block ?_
                refine r_then ?_
                refine r_block ?_
                refine r_then ?_
                refine r_block ?_
                have hr := r_open hinv30.1 (by assumption) (by omega)
                subst hr
                exact at_res2 (none, 0, [], _) rfl (rv_tmp rfl) (rv_cell hT (knows_own (off := 0) .head) rfl rfl rfl rfl) (.cons kT1 .nil) ⟨has_nil, Has.each_nil, Has.pure rfl, trivial⟩ rfl
              have hc156 := Int.not_lt.1 (of_decide_eq_false hc156)
              refine sr ?_
              refine sp hT ?_
              refine ss (ldO hT (knows_own (off := 0) kT5)) ?_
              refine sp hT ?_
              refine at_bool (t' := true) (by rw [hg160]; rfl) ?_
              refine sp hT ?_
              refine nn ?_
              refine at_true rfl rfl ?_
              refine sr ?_
              refine sp hT ?_
              refine at_callv (callFunc_enter Tryz.func53 rfl rfl) (finish_spec b5 b4 _ _ st _ _ out (by omega)) rfl rfl rfl rfl rfl rfl rfl (.cons kT3 (.cons kT3 (.cons kT1 (.cons kT1 .nil)))) ⟨(Has.of mT1), trivial⟩ fun ⟨⟨D22, f23⟩, ⟨C24, e25⟩⟩ => ?_
              refine at_fact (numsF (out ++ (finP st).1)) (nums_fin (Has.of mT4) (Has.of mT3)) ?_
              refine at_fact (tnF (finP st).2) (tn_fin (Has.of mT4)) ?_
              have hfl := fin_len st
              refine nn ?_
              refine sr ?_
              refine ss (ldO hT (knows_own (off := 0) kT2)) ?_
              refine ss (sti_build rfl rfl (expr_built_api_Fault_)) ?_
              refine sp hT ?_
              refine sto hT kT7 ?_
              refine nn ?_
              refine at_ret ?_
              refine r_block ?_
              refine r_then ?_
              refine r_block ?_
              refine r_then ?_
              refine r_block ?_
              have hr := r_ended hinv30.1 (by assumption) (by omega)
              subst hr
              refine at_freeze kT4 ?_
              exact at_res2 (_, _, (out ++ (finP st).1), _) rfl (rv_tmp rfl) (rv_cell hT (knows_own (off := 0) .head) rfl rfl rfl rfl) (.cons kT4 .nil) ⟨Has.of mT0, (Has.of mT2), Has.pure rfl, trivial⟩ rfl
            have hg160 := beq_eq_false_iff_ne.1 hg160
            refine sk2 ?_
            refine sp2 hT ?_
            refine nn ?_
            refine at_false rfl rfl ?_
            refine sr ?_
            refine sp hT ?_
            refine ss (ldO hT (knows_own (off := 0) kT5)) ?_
            refine sp hT ?_
            refine at_bool (t' := false) (beq_eq_false_iff_ne.2 hg160) ?_
            refine sp hT ?_
            refine nn ?_
            refine at_false rfl rfl ?_
            refine sr ?_
            refine sp hT ?_
            refine ss (ldO hT (knows_own (off := 0) kT5)) ?_
            refine sp2 hT ?_
            refine at_case (fun hg178 => ?_) (fun hg178 => ?_)
            · have hg178 := eq_of_beq hg178
              refine sk4 ?_
              refine sp2 hT ?_
              refine nn ?_
              refine at_true rfl rfl ?_
              refine sr ?_
              refine ss (ldO hT (knows_own (off := 0) kT8)) ?_
              refine at_call (callFunc_enter Tryz.func33 rfl rfl) (fault_spec bl A c toks (k) e _) rfl rfl rfl rfl rfl (.cons .head .nil) ⟨Has.of mT12, trivial⟩ fun _ => ?_
              refine sp hT ?_
              refine sto hT kT7 ?_
              refine nn ?_
              refine at_ret ?_
              refine r_block ?_
              refine r_then ?_
              refine r_block ?_
              refine r_then ?_
              refine r_block ?_
              have hr := r_more hinv30.1 (by first | exact .inl (by omega) | exact .inr (.inl (by assumption)) | exact .inr (.inr (by assumption))) (by omega) (by first | exact .inr (by assumption) | exact .inl (by omega))
              subst hr
              exact at_res2 (none, 0, [], _) rfl (rv_tmp rfl) (rv_cell hT (knows_own (off := 0) .head) rfl rfl rfl rfl) (.cons kT1 .nil) ⟨has_nil, Has.each_nil, Has.pure rfl, trivial⟩ rfl
            have hg178 := beq_eq_false_iff_ne.1 hg178
            refine sp hT ?_
            refine ss (ldO hT (knows_own (off := 2) kT5)) ?_
            refine at_call (callFunc_enter Tryz.func52 rfl rfl) (verb_spec _) rfl rfl rfl rfl rfl .nil trivial fun _ => ?_
            refine sp3 hT ?_
            refine nn ?_
            refine at_cond rfl (fun hc174 => ?_) (fun hc174 => ?_)
            · have hc174 := not_t hc174
              refine sr ?_
              refine ss (ldO hT (knows_own (off := 0) kT8)) ?_
              refine at_call (callFunc_enter Tryz.func33 rfl rfl) (fault_spec bl A c toks (k) e _) rfl rfl rfl rfl rfl (.cons .head .nil) ⟨Has.of mT12, trivial⟩ fun _ => ?_
              refine sp hT ?_
              refine sto hT kT7 ?_
              refine nn ?_
              refine at_ret ?_
              refine r_block ?_
              refine r_then ?_
              refine r_block ?_
              refine r_then ?_
              refine r_block ?_
              have hr := r_more hinv30.1 (by first | exact .inl (by omega) | exact .inr (.inl (by assumption)) | exact .inr (.inr (by assumption))) (by omega) (by first | exact .inr (by assumption) | exact .inl (by omega))
              subst hr
              exact at_res2 (none, 0, [], _) rfl (rv_tmp rfl) (rv_cell hT (knows_own (off := 0) .head) rfl rfl rfl rfl) (.cons kT1 .nil) ⟨has_nil, Has.each_nil, Has.pure rfl, trivial⟩ rfl
            have hc174 := not_f hc174
            refine at_skip ?_
            refine n_block ?_
            refine n_then ?_
            refine sr ?_
            refine sp hT ?_
            refine at_callv (callFunc_enter Tryz.func54 rfl rfl) (laterT_spec bl A c toks (k) e b1 b5 b4 _ _ st (by omega) (by omega)) rfl rfl rfl rfl rfl rfl rfl (.cons .head (.cons kT7 (.cons kT2 (.cons kT2 .nil)))) ⟨(Has.of mT12), (Has.of mT1), trivial⟩ fun ⟨⟨A26, c27⟩, b28⟩ => ?_
            refine at_fact (tnF (some (b28, (phrI (phraseP toks (k) e true))) :: st)) (tn_some (Has.of mT3) has_nil) ?_
            refine at_alloc rfl rfl rfl rfl expr_zero_api_Fault rfl fun b29 => ?_
            refine sto hT .head ?_
            refine nn ?_
            refine sr ?_
            refine ss (ldN hT (knows_own (off := 0) .head)) ?_
            refine ss (sti_build rfl rfl (expr_built_api_Fault_)) ?_
            refine ss (sti_neq_flt ⟨(phraseP toks (k) e true).flt.1, (phraseP toks (k) e true).flt.2⟩ ⟨0, 0⟩ rfl rfl rfl) ?_
            refine nn ?_
            refine at_cond rfl (fun hc190 => ?_) (fun hc190 => ?_)
            · have hc190 := not_t hc190
              refine at_seq ?_
              refine at_mix _ _ [(true, 0), (true, 1), (false, 2)] mixes (by decide +kernel) (.cons .head (.cons .head (.cons .head (.cons .head (.cons .head (.cons .head (.cons .head (.cons .head (.cons .head .nil))))))))) HasAll.self ?_
              refine atm_sti rfl rfl rfl rfl (ldN hT (knows_own (off := 0) .head)) ?_
              refine atm_sti rfl rfl rfl rfl (sti_pure hT rfl) ?_
              refine atm_op (o := _) rfl ?_
              refine sto hT kT9 ?_
              refine atm_go (.cons kT1 (.cons kT1 (.cons kT1 (.cons kT1 (.cons kT1 (.cons kT1 (.cons kT1 (.cons kT1 (.cons kT1 .nil))))))))) (HasAll.drop 0) ?_
              refine atm_nil ?_
              refine n_then ?_
              refine at_ret ?_
              refine r_block ?_
              refine r_then ?_
              refine r_block ?_
              have hr := (r_verb hinv30.1 (by first | exact .inl (by omega) | exact .inr (.inl (by assumption)) | exact .inr (.inr (by assumption))) (by omega) (by omega) (by assumption)).2 hc190
              subst hr
              exact at_res2 (none, 0, [], _) rfl (rv_tmp rfl) (rv_cell hT (knows_own (off := 0) .head) rfl rfl rfl rfl) (.cons kT2 .nil) ⟨has_nil, Has.each_nil, Has.pure rfl, trivial⟩ rfl
            have hc190 := not_f hc190
            have he := (r_verb hinv30.1 (by first | exact .inl (by omega) | exact .inr (.inl (by assumption)) | exact .inr (.inr (by assumption))) (by omega) (by omega) (by assumption)).1 hc190
            refine at_skip ?_
            refine n_block ?_
            refine n_then ?_
            exact at_back2 ((phraseP toks (k) e true).next, o, out, (some (b28, (phrI (phraseP toks (k) e true))) :: st), _, _, _, _) (by have := he.1; first | (have := phrase_next toks k e false; dsimp only; omega) | (have := phrase_next toks k e true; dsimp only; omega)) ⟨rfl, trivial⟩ ⟨rfl, rfl, rfl, rfl, rfl, rfl, trivial⟩ (.cons kT1 (.cons kT4 (.cons kT4 (.cons kT2 (.cons kT2 (.cons kT4 (.cons kT1 .nil))))))) ⟨Has.pure (⟨he, hinv30.2.1, hinv30.2.2.1, by have := phrase_next toks k e true; first | omega | (simp; omega), he.1⟩), Has.of mT1, Has.of mT0, Has.of mT5, trivial⟩ (HasAll.drop 11)
          have hg128 := Int.not_lt.1 (of_decide_eq_false hg128)
          refine sk3 ?_
          refine sp2 hT ?_
          refine sk3 ?_
          refine sp hT ?_
          refine nn ?_
          refine at_false rfl rfl ?_
          refine at_exit ?_
          refine x_then ?_
          refine x_then ?_
          refine x_block ?_
          refine n_then ?_
          refine at_seq ?_
          refine at_block ?_
          refine sr ?_
          refine sp hT ?_
          refine ss (ldO hT (knows_own (off := 0) kT5)) ?_
          refine sp2 hT ?_
          refine at_case (fun hg160 => ?_) (fun hg160 => ?_)
          · have hg160 := eq_of_beq hg160
            refine sp4 hT ?_
            refine nn ?_
            refine at_cond rfl (fun hc156 => ?_) (fun hc156 => ?_)
            · have hc156 := of_decide_eq_true hc156
              refine sr ?_
              refine ss (ldO hT (knows_own (off := 0) kT8)) ?_
              refine at_call (callFunc_enter Tryz.func33 rfl rfl) (fault_spec bl A c toks (k) e _) rfl rfl rfl rfl rfl (.cons .head .nil) ⟨Has.of mT12, trivial⟩ fun _ => ?_
              refine sp hT ?_
              refine sto hT kT7 ?_
              refine nn ?_
              refine at_ret ?_
              refine r_block ?_
              refine r_then ?_
              refine r_block ?_
              refine r_then ?_
              refine r_block ?_
              have hr := r_open hinv30.1 (by assumption) (by omega)
              subst hr
              exact at_res2 (none, 0, [], _) rfl (rv_tmp rfl) (rv_cell hT (knows_own (off := 0) .head) rfl rfl rfl rfl) (.cons kT1 .nil) ⟨has_nil, Has.each_nil, Has.pure rfl, trivial⟩ rfl
            have hc156 := Int.not_lt.1 (of_decide_eq_false hc156)
            refine sr ?_
            refine sp hT ?_
            refine ss (ldO hT (knows_own (off := 0) kT5)) ?_
            refine sp hT ?_
            refine at_bool (t' := true) (by rw [hg160]; rfl) ?_
            refine sp hT ?_
            refine nn ?_
            refine at_true rfl rfl ?_
            refine sr ?_
            refine sp hT ?_
            refine at_callv (callFunc_enter Tryz.func53 rfl rfl) (finish_spec b5 b4 _ _ st _ _ out (by omega)) rfl rfl rfl rfl rfl rfl rfl (.cons kT3 (.cons kT3 (.cons kT1 (.cons kT1 .nil)))) ⟨(Has.of mT1), trivial⟩ fun ⟨⟨D30, f31⟩, ⟨C32, e33⟩⟩ => ?_
            refine at_fact (numsF (out ++ (finP st).1)) (nums_fin (Has.of mT4) (Has.of mT3)) ?_
            refine at_fact (tnF (finP st).2) (tn_fin (Has.of mT4)) ?_
            have hfl := fin_len st
            refine nn ?_
            refine sr ?_
            refine ss (ldO hT (knows_own (off := 0) kT2)) ?_
            refine ss (sti_build rfl rfl (expr_built_api_Fault_)) ?_
            refine sp hT ?_
            refine sto hT kT7 ?_
            refine nn ?_
            refine at_ret ?_
            refine r_block ?_
            refine r_then ?_
            refine r_block ?_
            refine r_then ?_
            refine r_block ?_
            have hr := r_ended hinv30.1 (by assumption) (by omega)
            subst hr
            refine at_freeze kT4 ?_
            exact at_res2 (_, _, (out ++ (finP st).1), _) rfl (rv_tmp rfl) (rv_cell hT (knows_own (off := 0) .head) rfl rfl rfl rfl) (.cons kT4 .nil) ⟨Has.of mT0, (Has.of mT2), Has.pure rfl, trivial⟩ rfl
          have hg160 := beq_eq_false_iff_ne.1 hg160
          refine sk2 ?_
          refine sp2 hT ?_
          refine nn ?_
          refine at_false rfl rfl ?_
          refine sr ?_
          refine sp hT ?_
          refine ss (ldO hT (knows_own (off := 0) kT5)) ?_
          refine sp hT ?_
          refine at_bool (t' := false) (beq_eq_false_iff_ne.2 hg160) ?_
          refine sp hT ?_
          refine nn ?_
          refine at_false rfl rfl ?_
          refine sr ?_
          refine sp hT ?_
          refine ss (ldO hT (knows_own (off := 0) kT5)) ?_
          refine sp2 hT ?_
          refine at_case (fun hg178 => ?_) (fun hg178 => ?_)
          · have hg178 := eq_of_beq hg178
            refine sk4 ?_
            refine sp2 hT ?_
            refine nn ?_
            refine at_true rfl rfl ?_
            refine sr ?_
            refine ss (ldO hT (knows_own (off := 0) kT8)) ?_
            refine at_call (callFunc_enter Tryz.func33 rfl rfl) (fault_spec bl A c toks (k) e _) rfl rfl rfl rfl rfl (.cons .head .nil) ⟨Has.of mT12, trivial⟩ fun _ => ?_
            refine sp hT ?_
            refine sto hT kT7 ?_
            refine nn ?_
            refine at_ret ?_
            refine r_block ?_
            refine r_then ?_
            refine r_block ?_
            refine r_then ?_
            refine r_block ?_
            have hr := r_more hinv30.1 (by first | exact .inl (by omega) | exact .inr (.inl (by assumption)) | exact .inr (.inr (by assumption))) (by omega) (by first | exact .inr (by assumption) | exact .inl (by omega))
            subst hr
            exact at_res2 (none, 0, [], _) rfl (rv_tmp rfl) (rv_cell hT (knows_own (off := 0) .head) rfl rfl rfl rfl) (.cons kT1 .nil) ⟨has_nil, Has.each_nil, Has.pure rfl, trivial⟩ rfl
          have hg178 := beq_eq_false_iff_ne.1 hg178
          refine sp hT ?_
          refine ss (ldO hT (knows_own (off := 2) kT5)) ?_
          refine at_call (callFunc_enter Tryz.func52 rfl rfl) (verb_spec _) rfl rfl rfl rfl rfl .nil trivial fun _ => ?_
          refine sp3 hT ?_
          refine nn ?_
          refine at_cond rfl (fun hc174 => ?_) (fun hc174 => ?_)
          · have hc174 := not_t hc174
            refine sr ?_
            refine ss (ldO hT (knows_own (off := 0) kT8)) ?_
            refine at_call (callFunc_enter Tryz.func33 rfl rfl) (fault_spec bl A c toks (k) e _) rfl rfl rfl rfl rfl (.cons .head .nil) ⟨Has.of mT12, trivial⟩ fun _ => ?_
            refine sp hT ?_
            refine sto hT kT7 ?_
            refine nn ?_
            refine at_ret ?_
            refine r_block ?_
            refine r_then ?_
            refine r_block ?_
            refine r_then ?_
            refine r_block ?_
            have hr := r_more hinv30.1 (by first | exact .inl (by omega) | exact .inr (.inl (by assumption)) | exact .inr (.inr (by assumption))) (by omega) (by first | exact .inr (by assumption) | exact .inl (by omega))
            subst hr
            exact at_res2 (none, 0, [], _) rfl (rv_tmp rfl) (rv_cell hT (knows_own (off := 0) .head) rfl rfl rfl rfl) (.cons kT1 .nil) ⟨has_nil, Has.each_nil, Has.pure rfl, trivial⟩ rfl
          have hc174 := not_f hc174
          refine at_skip ?_
          refine n_block ?_
          refine n_then ?_
          refine sr ?_
          refine sp hT ?_
          refine at_callv (callFunc_enter Tryz.func54 rfl rfl) (laterT_spec bl A c toks (k) e b1 b5 b4 _ _ st (by omega) (by omega)) rfl rfl rfl rfl rfl rfl rfl (.cons .head (.cons kT7 (.cons kT2 (.cons kT2 .nil)))) ⟨(Has.of mT12), (Has.of mT1), trivial⟩ fun ⟨⟨A34, c35⟩, b36⟩ => ?_
          refine at_fact (tnF (some (b36, (phrI (phraseP toks (k) e true))) :: st)) (tn_some (Has.of mT3) has_nil) ?_
          refine at_alloc rfl rfl rfl rfl expr_zero_api_Fault rfl fun b37 => ?_
          refine sto hT .head ?_
          refine nn ?_
          refine sr ?_
          refine ss (ldN hT (knows_own (off := 0) .head)) ?_
          refine ss (sti_build rfl rfl (expr_built_api_Fault_)) ?_
          refine ss (sti_neq_flt ⟨(phraseP toks (k) e true).flt.1, (phraseP toks (k) e true).flt.2⟩ ⟨0, 0⟩ rfl rfl rfl) ?_
          refine nn ?_
          refine at_cond rfl (fun hc190 => ?_) (fun hc190 => ?_)
          · have hc190 := not_t hc190
            refine at_seq ?_
            refine at_mix _ _ [(true, 0), (true, 1), (false, 2)] mixes (by decide +kernel) (.cons .head (.cons .head (.cons .head (.cons .head (.cons .head (.cons .head (.cons .head (.cons .head (.cons .head .nil))))))))) HasAll.self ?_
            refine atm_sti rfl rfl rfl rfl (ldN hT (knows_own (off := 0) .head)) ?_
            refine atm_sti rfl rfl rfl rfl (sti_pure hT rfl) ?_
            refine atm_op (o := _) rfl ?_
            refine sto hT kT9 ?_
            refine atm_go (.cons kT1 (.cons kT1 (.cons kT1 (.cons kT1 (.cons kT1 (.cons kT1 (.cons kT1 (.cons kT1 (.cons kT1 .nil))))))))) (HasAll.drop 0) ?_
            refine atm_nil ?_
            refine n_then ?_
            refine at_ret ?_
            refine r_block ?_
            refine r_then ?_
            refine r_block ?_
            have hr := (r_verb hinv30.1 (by first | exact .inl (by omega) | exact .inr (.inl (by assumption)) | exact .inr (.inr (by assumption))) (by omega) (by omega) (by assumption)).2 hc190
            subst hr
            exact at_res2 (none, 0, [], _) rfl (rv_tmp rfl) (rv_cell hT (knows_own (off := 0) .head) rfl rfl rfl rfl) (.cons kT2 .nil) ⟨has_nil, Has.each_nil, Has.pure rfl, trivial⟩ rfl
          have hc190 := not_f hc190
          have he := (r_verb hinv30.1 (by first | exact .inl (by omega) | exact .inr (.inl (by assumption)) | exact .inr (.inr (by assumption))) (by omega) (by omega) (by assumption)).1 hc190
          refine at_skip ?_
          refine n_block ?_
          refine n_then ?_
          exact at_back2 ((phraseP toks (k) e true).next, o, out, (some (b36, (phrI (phraseP toks (k) e true))) :: st), _, _, _, _) (by have := he.1; first | (have := phrase_next toks k e false; dsimp only; omega) | (have := phrase_next toks k e true; dsimp only; omega)) ⟨rfl, trivial⟩ ⟨rfl, rfl, rfl, rfl, rfl, rfl, trivial⟩ (.cons kT1 (.cons kT4 (.cons kT4 (.cons kT2 (.cons kT2 (.cons kT4 (.cons kT1 .nil))))))) ⟨Has.pure (⟨he, hinv30.2.1, hinv30.2.2.1, by have := phrase_next toks k e true; first | omega | (simp; omega), he.1⟩), Has.of mT1, Has.of mT0, Has.of mT5, trivial⟩ (HasAll.drop 11)
        refine sr ?_
        refine sp hT ?_
        refine ss (ldO hT (knows_own (off := 0) .head)) ?_
        refine sp hT ?_
        refine at_bool (t' := true) (by rw [hg98]; rfl) ?_
        refine sp hT ?_
        refine nn ?_
        refine at_true rfl rfl ?_
        refine sr ?_
        refine ss (ldO hT (knows_own (off := 0) kT7)) ?_
        refine at_call (callFunc_enter Tryz.func33 rfl rfl) (fault_spec bl A c toks (k) e _) rfl rfl rfl rfl rfl (.cons kT1 .nil) ⟨Has.of mT7, trivial⟩ fun _ => ?_
        refine sp hT ?_
        refine sto hT kT6 ?_
        refine nn ?_
        refine at_ret ?_
        refine r_block ?_
        refine r_then ?_
        refine r_block ?_
        refine r_then ?_
        refine r_block ?_
        have hr := e_word hinv6.1 (by assumption) (by assumption) (by assumption)
        subst hr
        exact at_res2 (none, 0, [], _) rfl (rv_tmp rfl) (rv_cell hT (knows_own (off := 0) .head) rfl rfl rfl rfl) (.cons kT1 .nil) ⟨has_nil, Has.each_nil, Has.pure rfl, trivial⟩ rfl
      have hg98 := beq_eq_false_iff_ne.1 hg98
      refine sk3 ?_
      refine sp2 hT ?_
      refine nn ?_
      refine at_false rfl rfl ?_
      refine sr ?_
      refine sp hT ?_
      refine ss (ldO hT (knows_own (off := 0) .head)) ?_
      refine sp hT ?_
      refine at_bool (t' := false) (beq_eq_false_iff_ne.2 hg98) ?_
      refine sp hT ?_
      refine nn ?_
      refine at_false rfl rfl ?_
      refine sr ?_
      refine ss (ldO hT (knows_own (off := 0) kT7)) ?_
      refine at_call (callFunc_enter Tryz.func33 rfl rfl) (fault_spec bl A c toks (k) e _) rfl rfl rfl rfl rfl (.cons kT1 .nil) ⟨Has.of mT7, trivial⟩ fun _ => ?_
      refine sp hT ?_
      refine sto hT kT6 ?_
      refine nn ?_
      refine at_ret ?_
      refine r_block ?_
      refine r_then ?_
      refine r_block ?_
      refine r_then ?_
      refine r_block ?_
      have hr := e_want hinv6.1 (by omega) (by omega) (by first | exact .inl (by assumption) | exact .inr (by assumption)) (by first | exact .inr (by assumption) | exact .inl (by omega))
      subst hr
      exact at_res2 (none, 0, [], _) rfl (rv_tmp rfl) (rv_cell hT (knows_own (off := 0) .head) rfl rfl rfl rfl) (.cons kT1 .nil) ⟨has_nil, Has.each_nil, Has.pure rfl, trivial⟩ rfl
    have hg28 := bne_eq_false_iff_eq.1 hg28
    refine sk3 ?_
    refine sp2 hT ?_
    refine nn ?_
    refine at_false rfl rfl ?_
    refine sr ?_
    refine sp hT ?_
    refine ss (ldO hT (knows_own (off := 0) .head)) ?_
    refine sp hT ?_
    refine at_bool (t' := false) (by rw [hg28]; rfl) ?_
    refine sp hT ?_
    refine sk3 ?_
    refine sp2 hT ?_
    refine nn ?_
    refine at_false rfl rfl ?_
    refine sr ?_
    refine sp hT ?_
    refine ss (ldO hT (knows_own (off := 0) .head)) ?_
    refine sp hT ?_
    refine at_bool (t' := false) (by rw [hg28]; rfl) ?_
    refine sp hT ?_
    refine nn ?_
    refine at_false rfl rfl ?_
    refine sr ?_
    refine sp hT ?_
    refine ss (ldO hT (knows_own (off := 0) .head)) ?_
    refine sp hT ?_
    refine at_bool (t' := false) (by rw [hg28]; rfl) ?_
    refine sp hT ?_
    refine sk3 ?_
    refine sp2 hT ?_
    refine nn ?_
    refine at_false rfl rfl ?_
    refine sr ?_
    refine sp hT ?_
    refine ss (ldO hT (knows_own (off := 0) .head)) ?_
    refine sp hT ?_
    refine at_bool (t' := false) (by rw [hg28]; rfl) ?_
    refine sp hT ?_
    refine nn ?_
    refine at_false rfl rfl ?_
    refine sr ?_
    refine ss (ldO hT (knows_own (off := 0) kT7)) ?_
    refine at_call (callFunc_enter Tryz.func33 rfl rfl) (fault_spec bl A c toks (k) e _) rfl rfl rfl rfl rfl (.cons kT1 .nil) ⟨Has.of mT7, trivial⟩ fun _ => ?_
    refine sp hT ?_
    refine sto hT kT6 ?_
    refine nn ?_
    refine at_ret ?_
    refine r_block ?_
    refine r_then ?_
    refine r_block ?_
    refine r_then ?_
    refine r_block ?_
    have hr := e_want hinv6.1 (by omega) (by omega) (by first | exact .inl (by assumption) | exact .inr (by assumption)) (by first | exact .inr (by assumption) | exact .inl (by omega))
    subst hr
    exact at_res2 (none, 0, [], _) rfl (rv_tmp rfl) (rv_cell hT (knows_own (off := 0) .head) rfl rfl rfl rfl) (.cons kT1 .nil) ⟨has_nil, Has.each_nil, Has.pure rfl, trivial⟩ rfl
  have hg23 := bne_eq_false_iff_eq.1 hg23
  refine sk3 ?_
  refine sp2 hT ?_
  refine sk3 ?_
  refine sp2 hT ?_
  refine nn ?_
  refine at_false rfl rfl ?_
  refine sr ?_
  refine sp hT ?_
  refine ss (ldO hT (knows_own (off := 0) .head)) ?_
  refine sp hT ?_
  refine at_bool (t' := false) (by rw [hg23]; rfl) ?_
  refine sp hT ?_
  refine sk3 ?_
  refine sp2 hT ?_
  refine nn ?_
  refine at_false rfl rfl ?_
  refine sr ?_
  refine sp hT ?_
  refine ss (ldO hT (knows_own (off := 0) .head)) ?_
  refine sp hT ?_
  refine at_bool (t' := true) (by rw [hg23]; rfl) ?_
  refine sp hT ?_
  refine nn ?_
  refine at_true rfl rfl ?_
  refine sr ?_
  refine sp hT ?_
  refine ss (ldO hT (knows_own (off := 1) .head)) ?_
  refine ss (sti_build rfl rfl (expr_built_api_Item_01 _ _)) ?_
  refine at_alloc rfl rfl rfl rfl expr_zero_api_Item rfl fun b38 => ?_
  refine sto hT .head ?_
  refine nn ?_
  refine at_seq ?_
  refine at_block ?_
  refine at_nilrow' (t := 2) intE ?_
  refine at_loop2 (ι := Nat × List Int × Option Addr × Nat) [(1, _), (3, _), (4, _), (5, _), (6, _), (7, _), (8, _), (9, _), (11, _), (24, _), (25, _), (26, _), (29, _), (30, _), (31, _), (44, _), (45, _), (46, _)] ⟨rfl, rfl, rfl, rfl, rfl, rfl, rfl, rfl, rfl, rfl, rfl, rfl, rfl, rfl, rfl, rfl, rfl, rfl, trivial⟩ (fun _ => []) (fun ⟨j, cur, C2, e2⟩ => [.obj bl (.cells [.slice A toks.length c, .int .i64 (j : Nat), .int .i64 e].toArray 52), .obj b38 (.cells [.int .i64 1, .int .i64 (peekP toks k).at_, .int .u8 0, .string (bs []), .slice C2 cur.length e2].toArray 46), intE.row (.slice C2 cur.length e2) 2 cur]) (fun ⟨j, cur, C2, e2⟩ => [Fact.pure (numsFrom toks k = cur ++ numsFrom toks j ∧ j = k + cur.length ∧ j ≤ toks.length)]) (fun ⟨j, cur, C2, e2⟩ => toks.length - j) (k, [], none, 0) trivial (.cons kT3 (.cons kT1 (.cons .head .nil))) ⟨Has.pure (⟨rfl, rfl, hinv6.2.2.2.2⟩), trivial⟩ ?_
  rintro ⟨j, cur, C2, e2⟩
  dsimp only
  refine at_know (Has.of mT0) fun hinv20 => ?_
  refine at_seq ?_
  refine sr ?_
  refine ss (ldO hT (knows_own (off := 0) kT9)) ?_
  refine at_call (callFunc_enter Tryz.func32 rfl rfl) (peek_spec bl A c toks (j) e) rfl rfl rfl rfl rfl (.cons .head .nil) ⟨Has.of mT8, trivial⟩ fun _ => ?_
  refine sp2 hT ?_
  refine nn ?_
  refine at_cond rfl (fun hc74 => ?_) (fun hc74 => ?_)
  · have hc74 := eq_of_beq hc74
    refine at_skip ?_
    refine n_then ?_
    refine at_seq ?_
    refine at_block ?_
    refine at_mixL 8 _ _ [(true, 0), (true, 1), (true, 2), (false, 3), (true, 4), (false, 5), (false, 6), (true, 7)] mixes (by decide +kernel) (.cons .head (.cons .head (.cons kT1 (.cons kT1 (.cons kT1 (.cons kT1 (.cons kT1 (.cons kT1 (.cons kT1 .nil))))))))) HasAll.self ?_
    refine atl_sti rfl rfl rfl rfl (sti_pure hT rfl) ?_
    refine atl_sti rfl rfl rfl rfl (ldO hT (knows_own (off := 4) kT1)) ?_
    refine atl_sti rfl rfl rfl rfl (ldO hT (knows_own (off := 0) kT8)) ?_
    refine atl_op (o := _) rfl ?_
    refine at_call (callFunc_enter Tryz.func32 rfl rfl) (peek_spec bl A c toks (j) e) rfl rfl rfl rfl rfl (.cons .head .nil) ⟨Has.of mT8, trivial⟩ fun _ => ?_
    refine atl_go (.cons .head (.cons .head (.cons kT1 (.cons kT1 (.cons kT1 (.cons kT1 (.cons kT1 (.cons kT1 (.cons kT1 .nil))))))))) (HasAll.drop 0) ?_
    refine atl_sti rfl rfl rfl rfl (sti_pure hT rfl) ?_
    refine atl_op (o := _) rfl ?_
    refine at_one_int (m := (peekP toks (j)).n) rfl rfl rfl rfl rfl fun b39 => ?_
    refine atl_go (.cons kT1 (.cons kT1 (.cons kT2 (.cons kT2 (.cons kT2 (.cons kT2 (.cons kT2 (.cons kT2 (.cons kT2 .nil))))))))) (HasAll.drop 0) ?_
    refine atl_op (o := _) rfl ?_
    refine at_app_int kT3 (reads_obj .head rfl) rfl rfl rfl rfl rfl rfl rfl (by simp only [List.length_singleton]; omega) fun A40 c41 => ?_
    refine atl_go (.cons kT2 (.cons kT2 (.cons kT2 (.cons kT2 (.cons kT2 (.cons kT2 (.cons kT2 (.cons kT2 (.cons kT2 .nil))))))))) (HasAll.drop 0) ?_
    refine atl_sti rfl rfl rfl rfl (sti_pure hT rfl) ?_
    refine atl_last (o := _) rfl ?_
    refine sto hT kT3 ?_
    refine atl_end ?_
    refine n_block ?_
    refine n_then ?_
    refine at_region ?_
    refine ss (ldO hT (knows_own (off := 0) kT10)) ?_
    refine sp2 hT ?_
    refine ss (ldO hT (knows_own (off := 1) kT3)) ?_
    refine sp hT ?_
    refine at_int (z' := (((j + 1) : Nat) : Int)) (wrapN (by omega) (by omega)) ?_
    refine sp2 hT ?_
    refine sto hT kT3 ?_
    refine nn ?_
    exact at_back2 (j + 1, _, _, _) (by have := kind_lt (toks := toks) (k := j) (by rw [hc74]; decide); dsimp only; omega) trivial ⟨rfl, rfl, rfl, rfl, rfl, rfl, rfl, rfl, rfl, rfl, rfl, rfl, rfl, rfl, rfl, rfl, rfl, rfl, trivial⟩ (.cons .head (.cons .head (.cons .head (.cons kT1 (.cons kT1 (.cons kT1 (.cons kT1 (.cons kT1 (.cons kT1 (.cons kT1 .nil)))))))))) ⟨Has.pure (⟨by rw [hinv20.1, nums_more hc74]; simp, by simp; omega, kind_lt (by rw [hc74]; decide)⟩), trivial⟩ (HasAll.drop 1)
  have hc74 := beq_eq_false_iff_ne.1 hc74
  refine at_exit ?_
  refine x_then ?_
  refine x_then ?_
  refine x_block ?_
  refine n_then ?_
  have hcur : numsFrom toks k = cur := by rw [hinv20.1, nums_end hc74, List.append_nil]
  have hbi := b_num (C := C2) (c := e2) hinv6.1 (by assumption) hinv20.2.1 hcur
  have hcl : 1 ≤ cur.length := by rw [← hcur, nums_more (by assumption)]; simp
  refine at_freeze kT2 ?_
  refine at_region ?_
  refine ss (ldO hT (knows_own (off := 0) kT3)) ?_
  refine ss (ldN hT (knows_own (off := 0) kT1)) ?_
  refine at_one_item (m := (⟨1, (peekP toks k).at_, 0, [], ⟨C2, e2, cur⟩⟩ : ItemV)) rfl rfl rfl rfl rfl fun b42 => ?_
  refine at_app_item kT5 (reads_obj .head rfl) rfl rfl rfl rfl rfl rfl rfl (by simp only [List.length_singleton]; omega) fun A43 c44 => ?_
  refine at_fact (numsF (out ++ [(⟨1, (peekP toks k).at_, 0, [], ⟨C2, e2, cur⟩⟩ : ItemV)])) (nums_add (Has.of mT5) (Has.of mT0)) ?_
  refine sto hT kT5 ?_
  refine at_nil ?_
  refine n_block ?_
  refine n_then ?_
  refine at_seq ?_
  refine sr ?_
  refine ss (ldO hT (knows_own (off := 0) kT9)) ?_
  refine at_call (callFunc_enter Tryz.func32 rfl rfl) (peek_spec bl A c toks (j) e) rfl rfl rfl rfl rfl (.cons kT3 .nil) ⟨Has.of mT10, trivial⟩ fun _ => ?_
  refine sto hT kT5 ?_
  refine nn ?_
  refine at_block ?_
  obtain ⟨kk, hkk⟩ : ∃ kk, kk = k := ⟨_, rfl⟩
  refine at_loop2 (ι := Nat × Nat × List ItemV × List Todo × Option Addr × Nat × Option Addr × Nat) [(1, _), (3, _), (4, _), (5, _), (7, _), (8, _), (9, _), (24, _), (25, _), (26, _), (29, _), (30, _), (31, _), (44, _), (45, _), (46, _)] ⟨rfl, rfl, rfl, rfl, rfl, rfl, rfl, rfl, rfl, rfl, rfl, rfl, rfl, rfl, rfl, rfl, trivial⟩ (fun ⟨k, o, out, st, C, e1, D, f⟩ => [(6, .int .i64 (o : Nat))]) (fun ⟨k, o, out, st, C, e1, D, f⟩ => [.obj bl (.cells [.slice A toks.length c, .int .i64 (k : Nat), .int .i64 e].toArray 52), .obj b4 (.cells [.slice C out.length e1].toArray 40), itemE.row (.slice C out.length e1) 46 out, .obj b5 (.cells [.slice D st.reverse.length f].toArray 102), (fnE b4).row (.slice D st.reverse.length f) 1 st.reverse, .obj b3 (.cells [.int .i64 (peekP toks k).kind, .int .i64 (peekP toks k).at_, .string (bs (peekP toks k).word), .int .i64 (peekP toks k).n].toArray 54)]) (fun ⟨k, o, out, st, C, e1, D, f⟩ => [Fact.pure (BInv toks e r k (out.map ItemV.it) (erase st) o ∧ opens st = o ∧ o ≤ 32 ∧ out.length + st.length ≤ k ∧ k ≤ toks.length ∧ kk < k), todoF st, tnF st, numsF out]) (fun ⟨k, o, out, st, C, e1, D, f⟩ => toks.length - k) (j, o, (out ++ [(⟨1, (peekP toks k).at_, 0, [], ⟨C2, e2, cur⟩⟩ : ItemV)]), st, _, _, _, _) ⟨rfl, trivial⟩ (.cons kT1 (.cons kT1 (.cons kT1 (.cons kT3 (.cons kT3 (.cons .head .nil)))))) ⟨Has.pure (⟨hbi, hinv6.2.1, hinv6.2.2.1, by first | omega | (simp; omega), hbi.1, by omega⟩), Has.of mT4, Has.of mT5, Has.of mT0, trivial⟩ ?_
  rintro ⟨k, o, out, st, C, e1, D, f⟩
  dsimp only
  refine at_know (Has.of mT0) fun hinv30 => ?_
  refine at_seq ?_
  refine sr ?_
  refine sp3 hT ?_
  refine at_case (fun hg128 => ?_) (fun hg128 => ?_)
  · have hg128 := of_decide_eq_true hg128
    refine sp hT ?_
    refine ss (ldO hT (knows_own (off := 0) kT5)) ?_
    refine sp3 hT ?_
    refine at_case (fun hg133 => ?_) (fun hg133 => ?_)
    · have hg133 := eq_of_beq hg133
      refine sp hT ?_
      refine ss (ldO hT (knows_own (off := 2) kT5)) ?_
      refine sp2 hT ?_
      refine nn ?_
      refine at_cond rfl (fun hc137 => ?_) (fun hc137 => ?_)
      · have hc137 : (peekP toks k).word = ([41] : Bs) := eq_of_beq hc137
        refine at_skip ?_
        refine n_then ?_
        refine at_seq ?_
        refine at_block ?_
        refine sr ?_
        refine sp hT ?_
        refine at_callv (callFunc_enter Tryz.func53 rfl rfl) (finish_spec b5 b4 _ _ st _ _ out (by omega)) rfl rfl rfl rfl rfl rfl rfl (.cons kT3 (.cons kT3 (.cons kT1 (.cons kT1 .nil)))) ⟨(Has.of mT1), trivial⟩ fun ⟨⟨D45, f46⟩, ⟨C47, e48⟩⟩ => ?_
        refine at_fact (numsF (out ++ (finP st).1)) (nums_fin (Has.of mT4) (Has.of mT3)) ?_
        refine at_fact (tnF (finP st).2) (tn_fin (Has.of mT4)) ?_
        have hfl := fin_len st
        obtain ⟨s2, hs2, ho2⟩ := fin_open (st := st) (by omega)
        have hb2 := b_closed hinv30.1 (by omega) (by assumption) (by assumption) hs2
        rw [hs2] at hfl ⊢
        simp only [List.length_cons] at hfl
        refine at_fact (todoF s2) (todo_tail (Has.of mT2)) ?_
        refine at_fact (tnF s2) (tn_tail (Has.of mT1)) ?_
        refine nn ?_
        refine sr ?_
        refine ss (ldO hT (knows_own (off := 0) .head)) ?_
        refine ss (ldO hT (knows_own (off := 0) .head)) ?_
        refine sp hT ?_
        refine at_int (z' := (((s2.length + 1) : Nat) : Int)) (congrArg Nat.cast (todo_len _ s2)) ?_
        refine sp hT ?_
        refine at_int (z' := ((((s2.length + 1) - 1) : Nat) : Int)) (wrapN (by omega) (by omega)) ?_
        refine at_trunc hT (k := ((s2.length + 1) - 1)) kT1 rfl rfl rfl rfl rfl rfl rfl rfl rfl (by rw [todo_len]; omega) ?_
        rw [todo_init]
        refine sto hT kT1 ?_
        refine nn ?_
        refine sr ?_
        refine sp2 hT ?_
        refine at_int (z' := (((o - 1) : Nat) : Int)) (wrapN (by omega) (by omega)) ?_
        refine sp hT ?_
        refine nn ?_
        refine at_region ?_
        refine ss (ldO hT (knows_own (off := 0) kT9)) ?_
        refine sp2 hT ?_
        refine ss (ldO hT (knows_own (off := 1) kT4)) ?_
        refine sp hT ?_
        refine at_int (z' := (((k + 1) : Nat) : Int)) (wrapN (by omega) (by omega)) ?_
        refine sp2 hT ?_
        refine sto hT kT4 ?_
        refine at_nil ?_
        refine n_block ?_
        refine n_then ?_
        refine at_region ?_
        refine ss (ldO hT (knows_own (off := 0) kT9)) ?_
        refine at_call (callFunc_enter Tryz.func32 rfl rfl) (peek_spec bl A c toks ((k + 1)) e) rfl rfl rfl rfl rfl (.cons .head .nil) ⟨Has.of (.tail _ (.tail _ (.tail _ (.tail _ (.tail _ (.tail _ (.tail _ (.tail _ (.tail _ (.tail _ (.tail _ (.tail _ (.tail _ (.tail _ (.tail _ (.tail _ (.tail _ (.tail _ (.tail _ mT0))))))))))))))))))), trivial⟩ fun _ => ?_
        refine sto hT kT5 ?_
        refine nn ?_
        exact at_back2 ((k + 1), (o - 1), (out ++ (finP st).1), s2, _, _, _, _) (by have := hb2.1; dsimp only; omega) ⟨rfl, trivial⟩ ⟨rfl, rfl, rfl, rfl, rfl, rfl, rfl, rfl, rfl, rfl, rfl, rfl, rfl, rfl, rfl, rfl, trivial⟩ (.cons kT1 (.cons kT3 (.cons kT3 (.cons kT1 (.cons kT1 (.cons .head (.cons .head (.cons .head (.cons .head (.cons .head .nil)))))))))) ⟨Has.pure (⟨hb2, by dsimp only; omega, by dsimp only; omega, by first | omega | (simp; omega), hb2.1, by dsimp only; omega⟩), Has.of mT1, Has.of mT0, Has.of mT3, trivial⟩ (HasAll.drop 9)
      have hc137 : (peekP toks k).word ≠ ([41] : Bs) := fun h => absurd (beq_iff_eq.2 h) (by rw [show ((peekP toks k).word == ([41] : Bs)) = false from hc137]; simp)
      refine at_exit ?_
      refine x_then ?_
      refine x_then ?_
      refine x_block ?_
      refine n_then ?_
      refine at_seq ?_
      refine at_block ?_
      refine sr ?_
      refine sp hT ?_
      refine ss (ldO hT (knows_own (off := 0) kT5)) ?_
      refine sp hT ?_
      refine at_bool (t' := false) (by rw [hg133]; rfl) ?_
      refine sp hT ?_
      refine sk2 ?_
      refine sp2 hT ?_
      refine nn ?_
      refine at_false rfl rfl ?_
      refine sr ?_
      refine sp hT ?_
      refine ss (ldO hT (knows_own (off := 0) kT5)) ?_
      refine sp hT ?_
      refine at_bool (t' := false) (by rw [hg133]; rfl) ?_
      refine sp hT ?_
      refine nn ?_
      refine at_false rfl rfl ?_
      refine sr ?_
      refine sp hT ?_
      refine ss (ldO hT (knows_own (off := 0) kT5)) ?_
      refine sp hT ?_
      refine at_bool (t' := false) (by rw [hg133]; rfl) ?_
      refine sp2 hT ?_
      refine ss (ldO hT (knows_own (off := 2) kT5)) ?_
      refine at_call (callFunc_enter Tryz.func52 rfl rfl) (verb_spec _) rfl rfl rfl rfl rfl .nil trivial fun _ => ?_
      refine sp3 hT ?_
      refine nn ?_
      refine at_cond rfl (fun hc174 => ?_) (fun hc174 => ?_)
      · have hc174 := not_t hc174
        refine sr ?_
        refine ss (ldO hT (knows_own (off := 0) kT9)) ?_
        refine at_call (callFunc_enter Tryz.func33 rfl rfl) (fault_spec bl A c toks (k) e _) rfl rfl rfl rfl rfl (.cons .head .nil) ⟨Has.of mT14, trivial⟩ fun _ => ?_
        refine sp hT ?_
        refine sto hT kT8 ?_
        refine nn ?_
        refine at_ret ?_
        refine r_block ?_
        refine r_then ?_
        refine r_block ?_
        refine r_then ?_
        refine r_block ?_
        have hr := r_more hinv30.1 (by first | exact .inl (by omega) | exact .inr (.inl (by assumption)) | exact .inr (.inr (by assumption))) (by omega) (by first | exact .inr (by assumption) | exact .inl (by omega))
        subst hr
        exact at_res2 (none, 0, [], _) rfl (rv_tmp rfl) (rv_cell hT (knows_own (off := 0) .head) rfl rfl rfl rfl) (.cons kT1 .nil) ⟨has_nil, Has.each_nil, Has.pure rfl, trivial⟩ rfl
      have hc174 := not_f hc174
      refine at_skip ?_
      refine n_block ?_
      refine n_then ?_
      refine sr ?_
      refine sp hT ?_
      refine at_callv (callFunc_enter Tryz.func54 rfl rfl) (laterT_spec bl A c toks (k) e b1 b5 b4 _ _ st (by omega) (by omega)) rfl rfl rfl rfl rfl rfl rfl (.cons .head (.cons kT8 (.cons kT2 (.cons kT2 .nil)))) ⟨(Has.of mT14), (Has.of mT1), trivial⟩ fun ⟨⟨A49, c50⟩, b51⟩ => ?_
      refine at_fact (tnF (some (b51, (phrI (phraseP toks (k) e true))) :: st)) (tn_some (Has.of mT3) has_nil) ?_
      refine at_alloc rfl rfl rfl rfl expr_zero_api_Fault rfl fun b52 => ?_
      refine sto hT .head ?_
      refine nn ?_
      refine sr ?_
      refine ss (ldN hT (knows_own (off := 0) .head)) ?_
      refine ss (sti_build rfl rfl (expr_built_api_Fault_)) ?_
      refine ss (sti_neq_flt ⟨(phraseP toks (k) e true).flt.1, (phraseP toks (k) e true).flt.2⟩ ⟨0, 0⟩ rfl rfl rfl) ?_
      refine nn ?_
      refine at_cond rfl (fun hc190 => ?_) (fun hc190 => ?_)
      · have hc190 := not_t hc190
        refine at_seq ?_
        refine at_mix _ _ [(true, 0), (true, 1), (false, 2)] mixes (by decide +kernel) (.cons .head (.cons .head (.cons .head (.cons .head (.cons .head (.cons .head (.cons .head (.cons .head (.cons .head (.cons .head .nil)))))))))) HasAll.self ?_
        refine atm_sti rfl rfl rfl rfl (ldN hT (knows_own (off := 0) .head)) ?_
        refine atm_sti rfl rfl rfl rfl (sti_pure hT rfl) ?_
        refine atm_op (o := _) rfl ?_
        refine sto hT kT10 ?_
        refine atm_go (.cons kT1 (.cons kT1 (.cons kT1 (.cons kT1 (.cons kT1 (.cons kT1 (.cons kT1 (.cons kT1 (.cons kT1 (.cons kT1 .nil)))))))))) (HasAll.drop 0) ?_
        refine atm_nil ?_
        refine n_then ?_
        refine at_ret ?_
        refine r_block ?_
        refine r_then ?_
        refine r_block ?_
        have hr := (r_verb hinv30.1 (by first | exact .inl (by omega) | exact .inr (.inl (by assumption)) | exact .inr (.inr (by assumption))) (by omega) (by omega) (by assumption)).2 hc190
        subst hr
        exact at_res2 (none, 0, [], _) rfl (rv_tmp rfl) (rv_cell hT (knows_own (off := 0) .head) rfl rfl rfl rfl) (.cons kT2 .nil) ⟨has_nil, Has.each_nil, Has.pure rfl, trivial⟩ rfl
      have hc190 := not_f hc190
      have he := (r_verb hinv30.1 (by first | exact .inl (by omega) | exact .inr (.inl (by assumption)) | exact .inr (.inr (by assumption))) (by omega) (by omega) (by assumption)).1 hc190
      refine at_skip ?_
      refine n_block ?_
      refine n_then ?_
      exact at_back2 ((phraseP toks (k) e true).next, o, out, (some (b51, (phrI (phraseP toks (k) e true))) :: st), _, _, _, _) (by have := he.1; first | (have := phrase_next toks k e false; dsimp only; omega) | (have := phrase_next toks k e true; dsimp only; omega)) ⟨rfl, trivial⟩ ⟨rfl, rfl, rfl, rfl, rfl, rfl, trivial⟩ (.cons kT1 (.cons kT4 (.cons kT4 (.cons kT2 (.cons kT2 (.cons kT5 (.cons kT1 .nil))))))) ⟨Has.pure (⟨he, hinv30.2.1, hinv30.2.2.1, by have := phrase_next toks k e true; first | omega | (simp; omega), he.1⟩), Has.of mT1, Has.of mT0, Has.of mT5, trivial⟩ (HasAll.drop 13)
    have hg133 := beq_eq_false_iff_ne.1 hg133
    refine sk3 ?_
    refine sp hT ?_
    refine nn ?_
    refine at_false rfl rfl ?_
    refine at_exit ?_
    refine x_then ?_
    refine x_then ?_
    refine x_block ?_
    refine n_then ?_
    refine at_seq ?_
    refine at_block ?_
    refine sr ?_
    refine sp hT ?_
    refine ss (ldO hT (knows_own (off := 0) kT5)) ?_
    refine sp2 hT ?_
    refine at_case (fun hg160 => ?_) (fun hg160 => ?_)
    · have hg160 := eq_of_beq hg160
      refine sp4 hT ?_
      refine nn ?_
      refine at_cond rfl (fun hc156 => ?_) (fun hc156 => ?_)
      · have hc156 := of_decide_eq_true hc156
        refine sr ?_
        refine ss (ldO hT (knows_own (off := 0) kT9)) ?_
        refine at_call (callFunc_enter Tryz.func33 rfl rfl) (fault_spec bl A c toks (k) e _) rfl rfl rfl rfl rfl (.cons .head .nil) ⟨Has.of mT14, trivial⟩ fun _ => ?_
        refine sp hT ?_
        refine sto hT kT8 ?_
        refine nn ?_
        refine at_ret ?_
        refine r_block ?_
        refine r_then ?_
        refine r_block ?_
        refine r_then ?_
        refine r_block ?_
        have hr := r_open hinv30.1 (by assumption) (by omega)
        subst hr
        exact at_res2 (none, 0, [], _) rfl (rv_tmp rfl) (rv_cell hT (knows_own (off := 0) .head) rfl rfl rfl rfl) (.cons kT1 .nil) ⟨has_nil, Has.each_nil, Has.pure rfl, trivial⟩ rfl
      have hc156 := Int.not_lt.1 (of_decide_eq_false hc156)
      refine sr ?_
      refine sp hT ?_
      refine ss (ldO hT (knows_own (off := 0) kT5)) ?_
      refine sp hT ?_
      refine at_bool (t' := true) (by rw [hg160]; rfl) ?_
      refine sp hT ?_
      refine nn ?_
      refine at_true rfl rfl ?_
      refine sr ?_
      refine sp hT ?_
      refine at_callv (callFunc_enter Tryz.func53 rfl rfl) (finish_spec b5 b4 _ _ st _ _ out (by omega)) rfl rfl rfl rfl rfl rfl rfl (.cons kT3 (.cons kT3 (.cons kT1 (.cons kT1 .nil)))) ⟨(Has.of mT1), trivial⟩ fun ⟨⟨D53, f54⟩, ⟨C55, e56⟩⟩ => ?_
      refine at_fact (numsF (out ++ (finP st).1)) (nums_fin (Has.of mT4) (Has.of mT3)) ?_
      refine at_fact (tnF (finP st).2) (tn_fin (Has.of mT4)) ?_
      have hfl := fin_len st
      refine nn ?_
      refine sr ?_
      refine ss (ldO hT (knows_own (off := 0) kT2)) ?_
      refine ss (sti_build rfl rfl (expr_built_api_Fault_)) ?_
      refine sp hT ?_
      refine sto hT kT8 ?_
      refine nn ?_
      refine at_ret ?_
      refine r_block ?_
      refine r_then ?_
      refine r_block ?_
      refine r_then ?_
      refine r_block ?_
      have hr := r_ended hinv30.1 (by assumption) (by omega)
      subst hr
      refine at_freeze kT4 ?_
      exact at_res2 (_, _, (out ++ (finP st).1), _) rfl (rv_tmp rfl) (rv_cell hT (knows_own (off := 0) .head) rfl rfl rfl rfl) (.cons kT4 .nil) ⟨Has.of mT0, (Has.of mT2), Has.pure rfl, trivial⟩ rfl
    have hg160 := beq_eq_false_iff_ne.1 hg160
    refine sk2 ?_
    refine sp2 hT ?_
    refine nn ?_
    refine at_false rfl rfl ?_
    refine sr ?_
    refine sp hT ?_
    refine ss (ldO hT (knows_own (off := 0) kT5)) ?_
    refine sp hT ?_
    refine at_bool (t' := false) (beq_eq_false_iff_ne.2 hg160) ?_
    refine sp hT ?_
    refine nn ?_
    refine at_false rfl rfl ?_
    refine sr ?_
    refine sp hT ?_
    refine ss (ldO hT (knows_own (off := 0) kT5)) ?_
    refine sp2 hT ?_
    refine at_case (fun hg178 => ?_) (fun hg178 => ?_)
    · have hg178 := eq_of_beq hg178
      refine sk4 ?_
      refine sp2 hT ?_
      refine nn ?_
      refine at_true rfl rfl ?_
      refine sr ?_
      refine ss (ldO hT (knows_own (off := 0) kT9)) ?_
      refine at_call (callFunc_enter Tryz.func33 rfl rfl) (fault_spec bl A c toks (k) e _) rfl rfl rfl rfl rfl (.cons .head .nil) ⟨Has.of mT14, trivial⟩ fun _ => ?_
      refine sp hT ?_
      refine sto hT kT8 ?_
      refine nn ?_
      refine at_ret ?_
      refine r_block ?_
      refine r_then ?_
      refine r_block ?_
      refine r_then ?_
      refine r_block ?_
      have hr := r_more hinv30.1 (by first | exact .inl (by omega) | exact .inr (.inl (by assumption)) | exact .inr (.inr (by assumption))) (by omega) (by first | exact .inr (by assumption) | exact .inl (by omega))
      subst hr
      exact at_res2 (none, 0, [], _) rfl (rv_tmp rfl) (rv_cell hT (knows_own (off := 0) .head) rfl rfl rfl rfl) (.cons kT1 .nil) ⟨has_nil, Has.each_nil, Has.pure rfl, trivial⟩ rfl
    have hg178 := beq_eq_false_iff_ne.1 hg178
    refine sp hT ?_
    refine ss (ldO hT (knows_own (off := 2) kT5)) ?_
    refine at_call (callFunc_enter Tryz.func52 rfl rfl) (verb_spec _) rfl rfl rfl rfl rfl .nil trivial fun _ => ?_
    refine sp3 hT ?_
    refine nn ?_
    refine at_cond rfl (fun hc174 => ?_) (fun hc174 => ?_)
    · have hc174 := not_t hc174
      refine sr ?_
      refine ss (ldO hT (knows_own (off := 0) kT9)) ?_
      refine at_call (callFunc_enter Tryz.func33 rfl rfl) (fault_spec bl A c toks (k) e _) rfl rfl rfl rfl rfl (.cons .head .nil) ⟨Has.of mT14, trivial⟩ fun _ => ?_
      refine sp hT ?_
      refine sto hT kT8 ?_
      refine nn ?_
      refine at_ret ?_
      refine r_block ?_
      refine r_then ?_
      refine r_block ?_
      refine r_then ?_
      refine r_block ?_
      have hr := r_more hinv30.1 (by first | exact .inl (by omega) | exact .inr (.inl (by assumption)) | exact .inr (.inr (by assumption))) (by omega) (by first | exact .inr (by assumption) | exact .inl (by omega))
      subst hr
      exact at_res2 (none, 0, [], _) rfl (rv_tmp rfl) (rv_cell hT (knows_own (off := 0) .head) rfl rfl rfl rfl) (.cons kT1 .nil) ⟨has_nil, Has.each_nil, Has.pure rfl, trivial⟩ rfl
    have hc174 := not_f hc174
    refine at_skip ?_
    refine n_block ?_
    refine n_then ?_
    refine sr ?_
    refine sp hT ?_
    refine at_callv (callFunc_enter Tryz.func54 rfl rfl) (laterT_spec bl A c toks (k) e b1 b5 b4 _ _ st (by omega) (by omega)) rfl rfl rfl rfl rfl rfl rfl (.cons .head (.cons kT8 (.cons kT2 (.cons kT2 .nil)))) ⟨(Has.of mT14), (Has.of mT1), trivial⟩ fun ⟨⟨A57, c58⟩, b59⟩ => ?_
    refine at_fact (tnF (some (b59, (phrI (phraseP toks (k) e true))) :: st)) (tn_some (Has.of mT3) has_nil) ?_
    refine at_alloc rfl rfl rfl rfl expr_zero_api_Fault rfl fun b60 => ?_
    refine sto hT .head ?_
    refine nn ?_
    refine sr ?_
    refine ss (ldN hT (knows_own (off := 0) .head)) ?_
    refine ss (sti_build rfl rfl (expr_built_api_Fault_)) ?_
    refine ss (sti_neq_flt ⟨(phraseP toks (k) e true).flt.1, (phraseP toks (k) e true).flt.2⟩ ⟨0, 0⟩ rfl rfl rfl) ?_
    refine nn ?_
    refine at_cond rfl (fun hc190 => ?_) (fun hc190 => ?_)
    · have hc190 := not_t hc190
      refine at_seq ?_
      refine at_mix _ _ [(true, 0), (true, 1), (false, 2)] mixes (by decide +kernel) (.cons .head (.cons .head (.cons .head (.cons .head (.cons .head (.cons .head (.cons .head (.cons .head (.cons .head (.cons .head .nil)))))))))) HasAll.self ?_
      refine atm_sti rfl rfl rfl rfl (ldN hT (knows_own (off := 0) .head)) ?_
      refine atm_sti rfl rfl rfl rfl (sti_pure hT rfl) ?_
      refine atm_op (o := _) rfl ?_
      refine sto hT kT10 ?_
      refine atm_go (.cons kT1 (.cons kT1 (.cons kT1 (.cons kT1 (.cons kT1 (.cons kT1 (.cons kT1 (.cons kT1 (.cons kT1 (.cons kT1 .nil)))))))))) (HasAll.drop 0) ?_
      refine atm_nil ?_
      refine n_then ?_
      refine at_ret ?_
      refine r_block ?_
      refine r_then ?_
      refine r_block ?_
      have hr := (r_verb hinv30.1 (by first | exact .inl (by omega) | exact .inr (.inl (by assumption)) | exact .inr (.inr (by assumption))) (by omega) (by omega) (by assumption)).2 hc190
      subst hr
      exact at_res2 (none, 0, [], _) rfl (rv_tmp rfl) (rv_cell hT (knows_own (off := 0) .head) rfl rfl rfl rfl) (.cons kT2 .nil) ⟨has_nil, Has.each_nil, Has.pure rfl, trivial⟩ rfl
    have hc190 := not_f hc190
    have he := (r_verb hinv30.1 (by first | exact .inl (by omega) | exact .inr (.inl (by assumption)) | exact .inr (.inr (by assumption))) (by omega) (by omega) (by assumption)).1 hc190
    refine at_skip ?_
    refine n_block ?_
    refine n_then ?_
    exact at_back2 ((phraseP toks (k) e true).next, o, out, (some (b59, (phrI (phraseP toks (k) e true))) :: st), _, _, _, _) (by have := he.1; first | (have := phrase_next toks k e false; dsimp only; omega) | (have := phrase_next toks k e true; dsimp only; omega)) ⟨rfl, trivial⟩ ⟨rfl, rfl, rfl, rfl, rfl, rfl, trivial⟩ (.cons kT1 (.cons kT4 (.cons kT4 (.cons kT2 (.cons kT2 (.cons kT5 (.cons kT1 .nil))))))) ⟨Has.pure (⟨he, hinv30.2.1, hinv30.2.2.1, by have := phrase_next toks k e true; first | omega | (simp; omega), he.1⟩), Has.of mT1, Has.of mT0, Has.of mT5, trivial⟩ (HasAll.drop 13)
  have hg128 := Int.not_lt.1 (of_decide_eq_false hg128)
  refine sk3 ?_
  refine sp2 hT ?_
  refine sk3 ?_
  refine sp hT ?_
  refine nn ?_
  refine at_false rfl rfl ?_
  refine at_exit ?_
  refine x_then ?_
  refine x_then ?_
  refine x_block ?_
  refine n_then ?_
  refine at_seq ?_
  refine at_block ?_
  refine sr ?_
  refine sp hT ?_
  refine ss (ldO hT (knows_own (off := 0) kT5)) ?_
  refine sp2 hT ?_
  refine at_case (fun hg160 => ?_) (fun hg160 => ?_)
  · have hg160 := eq_of_beq hg160
    refine sp4 hT ?_
    refine nn ?_
    refine at_cond rfl (fun hc156 => ?_) (fun hc156 => ?_)
    · have hc156 := of_decide_eq_true hc156
      refine sr ?_
      refine ss (ldO hT (knows_own (off := 0) kT9)) ?_
      refine at_call (callFunc_enter Tryz.func33 rfl rfl) (fault_spec bl A c toks (k) e _) rfl rfl rfl rfl rfl (.cons .head .nil) ⟨Has.of mT14, trivial⟩ fun _ => ?_
      refine sp hT ?_
      refine sto hT kT8 ?_
      refine nn ?_
      refine at_ret ?_
      refine r_block ?_
      refine r_then ?_
      refine r_block ?_
      refine r_then ?_
      refine r_block ?_
      have hr := r_open hinv30.1 (by assumption) (by omega)
      subst hr
      exact at_res2 (none, 0, [], _) rfl (rv_tmp rfl) (rv_cell hT (knows_own (off := 0) .head) rfl rfl rfl rfl) (.cons kT1 .nil) ⟨has_nil, Has.each_nil, Has.pure rfl, trivial⟩ rfl
    have hc156 := Int.not_lt.1 (of_decide_eq_false hc156)
    refine sr ?_
    refine sp hT ?_
    refine ss (ldO hT (knows_own (off := 0) kT5)) ?_
    refine sp hT ?_
    refine at_bool (t' := true) (by rw [hg160]; rfl) ?_
    refine sp hT ?_
    refine nn ?_
    refine at_true rfl rfl ?_
    refine sr ?_
    refine sp hT ?_
    refine at_callv (callFunc_enter Tryz.func53 rfl rfl) (finish_spec b5 b4 _ _ st _ _ out (by omega)) rfl rfl rfl rfl rfl rfl rfl (.cons kT3 (.cons kT3 (.cons kT1 (.cons kT1 .nil)))) ⟨(Has.of mT1), trivial⟩ fun ⟨⟨D61, f62⟩, ⟨C63, e64⟩⟩ => ?_
    refine at_fact (numsF (out ++ (finP st).1)) (nums_fin (Has.of mT4) (Has.of mT3)) ?_
    refine at_fact (tnF (finP st).2) (tn_fin (Has.of mT4)) ?_
    have hfl := fin_len st
    refine nn ?_
    refine sr ?_
    refine ss (ldO hT (knows_own (off := 0) kT2)) ?_
    refine ss (sti_build rfl rfl (expr_built_api_Fault_)) ?_
    refine sp hT ?_
    refine sto hT kT8 ?_
    refine nn ?_
    refine at_ret ?_
    refine r_block ?_
    refine r_then ?_
    refine r_block ?_
    refine r_then ?_
    refine r_block ?_
    have hr := r_ended hinv30.1 (by assumption) (by omega)
    subst hr
    refine at_freeze kT4 ?_
    exact at_res2 (_, _, (out ++ (finP st).1), _) rfl (rv_tmp rfl) (rv_cell hT (knows_own (off := 0) .head) rfl rfl rfl rfl) (.cons kT4 .nil) ⟨Has.of mT0, (Has.of mT2), Has.pure rfl, trivial⟩ rfl
  have hg160 := beq_eq_false_iff_ne.1 hg160
  refine sk2 ?_
  refine sp2 hT ?_
  refine nn ?_
  refine at_false rfl rfl ?_
  refine sr ?_
  refine sp hT ?_
  refine ss (ldO hT (knows_own (off := 0) kT5)) ?_
  refine sp hT ?_
  refine at_bool (t' := false) (beq_eq_false_iff_ne.2 hg160) ?_
  refine sp hT ?_
  refine nn ?_
  refine at_false rfl rfl ?_
  refine sr ?_
  refine sp hT ?_
  refine ss (ldO hT (knows_own (off := 0) kT5)) ?_
  refine sp2 hT ?_
  refine at_case (fun hg178 => ?_) (fun hg178 => ?_)
  · have hg178 := eq_of_beq hg178
    refine sk4 ?_
    refine sp2 hT ?_
    refine nn ?_
    refine at_true rfl rfl ?_
    refine sr ?_
    refine ss (ldO hT (knows_own (off := 0) kT9)) ?_
    refine at_call (callFunc_enter Tryz.func33 rfl rfl) (fault_spec bl A c toks (k) e _) rfl rfl rfl rfl rfl (.cons .head .nil) ⟨Has.of mT14, trivial⟩ fun _ => ?_
    refine sp hT ?_
    refine sto hT kT8 ?_
    refine nn ?_
    refine at_ret ?_
    refine r_block ?_
    refine r_then ?_
    refine r_block ?_
    refine r_then ?_
    refine r_block ?_
    have hr := r_more hinv30.1 (by first | exact .inl (by omega) | exact .inr (.inl (by assumption)) | exact .inr (.inr (by assumption))) (by omega) (by first | exact .inr (by assumption) | exact .inl (by omega))
    subst hr
    exact at_res2 (none, 0, [], _) rfl (rv_tmp rfl) (rv_cell hT (knows_own (off := 0) .head) rfl rfl rfl rfl) (.cons kT1 .nil) ⟨has_nil, Has.each_nil, Has.pure rfl, trivial⟩ rfl
  have hg178 := beq_eq_false_iff_ne.1 hg178
  refine sp hT ?_
  refine ss (ldO hT (knows_own (off := 2) kT5)) ?_
  refine at_call (callFunc_enter Tryz.func52 rfl rfl) (verb_spec _) rfl rfl rfl rfl rfl .nil trivial fun _ => ?_
  refine sp3 hT ?_
  refine nn ?_
  refine at_cond rfl (fun hc174 => ?_) (fun hc174 => ?_)
  · have hc174 := not_t hc174
    refine sr ?_
    refine ss (ldO hT (knows_own (off := 0) kT9)) ?_
    refine at_call (callFunc_enter Tryz.func33 rfl rfl) (fault_spec bl A c toks (k) e _) rfl rfl rfl rfl rfl (.cons .head .nil) ⟨Has.of mT14, trivial⟩ fun _ => ?_
    refine sp hT ?_
    refine sto hT kT8 ?_
    refine nn ?_
    refine at_ret ?_
    refine r_block ?_
    refine r_then ?_
    refine r_block ?_
    refine r_then ?_
    refine r_block ?_
    have hr := r_more hinv30.1 (by first | exact .inl (by omega) | exact .inr (.inl (by assumption)) | exact .inr (.inr (by assumption))) (by omega) (by first | exact .inr (by assumption) | exact .inl (by omega))
    subst hr
    exact at_res2 (none, 0, [], _) rfl (rv_tmp rfl) (rv_cell hT (knows_own (off := 0) .head) rfl rfl rfl rfl) (.cons kT1 .nil) ⟨has_nil, Has.each_nil, Has.pure rfl, trivial⟩ rfl
  have hc174 := not_f hc174
  refine at_skip ?_
  refine n_block ?_
  refine n_then ?_
  refine sr ?_
  refine sp hT ?_
  refine at_callv (callFunc_enter Tryz.func54 rfl rfl) (laterT_spec bl A c toks (k) e b1 b5 b4 _ _ st (by omega) (by omega)) rfl rfl rfl rfl rfl rfl rfl (.cons .head (.cons kT8 (.cons kT2 (.cons kT2 .nil)))) ⟨(Has.of mT14), (Has.of mT1), trivial⟩ fun ⟨⟨A65, c66⟩, b67⟩ => ?_
  refine at_fact (tnF (some (b67, (phrI (phraseP toks (k) e true))) :: st)) (tn_some (Has.of mT3) has_nil) ?_
  refine at_alloc rfl rfl rfl rfl expr_zero_api_Fault rfl fun b68 => ?_
  refine sto hT .head ?_
  refine nn ?_
  refine sr ?_
  refine ss (ldN hT (knows_own (off := 0) .head)) ?_
  refine ss (sti_build rfl rfl (expr_built_api_Fault_)) ?_
  refine ss (sti_neq_flt ⟨(phraseP toks (k) e true).flt.1, (phraseP toks (k) e true).flt.2⟩ ⟨0, 0⟩ rfl rfl rfl) ?_
  refine nn ?_
  refine at_cond rfl (fun hc190 => ?_) (fun hc190 => ?_)
  · have hc190 := not_t hc190
    refine at_seq ?_
    refine at_mix _ _ [(true, 0), (true, 1), (false, 2)] mixes (by decide +kernel) (.cons .head (.cons .head (.cons .head (.cons .head (.cons .head (.cons .head (.cons .head (.cons .head (.cons .head (.cons .head .nil)))))))))) HasAll.self ?_
    refine atm_sti rfl rfl rfl rfl (ldN hT (knows_own (off := 0) .head)) ?_
    refine atm_sti rfl rfl rfl rfl (sti_pure hT rfl) ?_
    refine atm_op (o := _) rfl ?_
    refine sto hT kT10 ?_
    refine atm_go (.cons kT1 (.cons kT1 (.cons kT1 (.cons kT1 (.cons kT1 (.cons kT1 (.cons kT1 (.cons kT1 (.cons kT1 (.cons kT1 .nil)))))))))) (HasAll.drop 0) ?_
    refine atm_nil ?_
    refine n_then ?_
    refine at_ret ?_
    refine r_block ?_
    refine r_then ?_
    refine r_block ?_
    have hr := (r_verb hinv30.1 (by first | exact .inl (by omega) | exact .inr (.inl (by assumption)) | exact .inr (.inr (by assumption))) (by omega) (by omega) (by assumption)).2 hc190
    subst hr
    exact at_res2 (none, 0, [], _) rfl (rv_tmp rfl) (rv_cell hT (knows_own (off := 0) .head) rfl rfl rfl rfl) (.cons kT2 .nil) ⟨has_nil, Has.each_nil, Has.pure rfl, trivial⟩ rfl
  have hc190 := not_f hc190
  have he := (r_verb hinv30.1 (by first | exact .inl (by omega) | exact .inr (.inl (by assumption)) | exact .inr (.inr (by assumption))) (by omega) (by omega) (by assumption)).1 hc190
  refine at_skip ?_
  refine n_block ?_
  refine n_then ?_
  exact at_back2 ((phraseP toks (k) e true).next, o, out, (some (b67, (phrI (phraseP toks (k) e true))) :: st), _, _, _, _) (by have := he.1; first | (have := phrase_next toks k e false; dsimp only; omega) | (have := phrase_next toks k e true; dsimp only; omega)) ⟨rfl, trivial⟩ ⟨rfl, rfl, rfl, rfl, rfl, rfl, trivial⟩ (.cons kT1 (.cons kT4 (.cons kT4 (.cons kT2 (.cons kT2 (.cons kT5 (.cons kT1 .nil))))))) ⟨Has.pure (⟨he, hinv30.2.1, hinv30.2.2.1, by have := phrase_next toks k e true; first | omega | (simp; omega), he.1⟩), Has.of mT1, Has.of mT0, Has.of mT5, trivial⟩ (HasAll.drop 13)

end Go.Proofs.YtngkedmndhmjcaaGreatDoor
