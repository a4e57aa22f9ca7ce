/- Proved: for every input windrow/windrowlaw02.PolyKept returns true, and each argument reads afterwards as it read before. No condition beside the form's own. -/
import Derived.Test.YtndjaogjkchpaaaGSpec
import Derived.Test.YtndjaogjkchpaaaKSpec
import Derived.Test.YtndjaogjkchpaaaLaw
import Derived.JoinedTies
namespace Go.Proofs.Ytndjaogjkchpaaa.polyKept
open Go.ChangeShapes Go.WideShapes Go.ChangeAt Go.RowKit Go.Sort

set_option maxRecDepth 100000 in
theorem law_spec (A B : Option Addr) (c d : Nat) (p q : List Mono) (hp : p.length ≤ 140737488355328) (hq : q.length ≤ 140737488355328) : Spec Try.prog 7 [.slice A p.length c, .slice B q.length d] [] [monoE.sl (.slice A p.length c) p, monoE.sl (.slice B q.length d) q] (fun (_ : Unit) => .bool true) (fun _ => []) (fun _ => []) := by
  have hT := polyT_ok
  have hb1 := (both_len ([] ++ p) ([] ++ q) 1).1
  have hb2 := (mul_len ([] ++ p) ([] ++ q)).1
  refine spec_of Try.func7 rfl Try.ntmps7 rfl ?_
  intro β hM
  refine at_seq ?_
  refine at_region ?_
  refine at_sti rfl rfl rfl (sti_pure hT rfl) ?_
  refine at_nil ?_
  refine n_then ?_
  refine at_seq ?_
  refine at_region ?_
  refine at_call (callFunc_enter Try.func12 rfl rfl) (shown_spec ) rfl rfl rfl rfl rfl .nil trivial fun _ => ?_
  refine at_sti rfl rfl rfl (sti_pure hT rfl) ?_
  refine at_nil ?_
  refine n_then ?_
  refine at_seq ?_
  refine at_seq ?_
  refine at_region ?_
  refine at_sti rfl rfl rfl (sti_pure hT rfl) ?_
  refine at_sti rfl rfl rfl (sti_pure hT rfl) ?_
  refine at_sti rfl rfl rfl (sti_pure hT rfl) ?_
  refine at_sti rfl rfl rfl (sti_pure hT rfl) ?_
  refine at_case (fun hg21 => ?_) (fun hg21 => ?_)
  · have hg21 := of_decide_eq_true hg21
    refine at_skipped rfl rfl rfl ?_
    refine at_skipped rfl rfl rfl ?_
    refine at_skipped rfl rfl rfl ?_
    refine at_sti rfl rfl rfl (sti_pure hT rfl) ?_
    refine at_nil ?_
    refine n_then ?_
    refine at_true rfl rfl ?_
    refine at_seq ?_
    refine at_region ?_
    refine at_sti rfl rfl rfl (sti_pure hT rfl) ?_
    refine at_sti rfl rfl rfl (sti_pure hT rfl) ?_
    refine at_nil ?_
    refine n_then ?_
    refine at_ret ?_
    refine r_then ?_
    exact at_done1 () rfl rfl rfl .nil trivial
  · have hg21 := Int.not_lt.1 (of_decide_eq_false hg21)
    refine at_sti rfl rfl rfl (sti_pure hT rfl) ?_
    refine at_sti rfl rfl rfl (sti_pure hT rfl) ?_
    refine at_sti rfl rfl rfl (sti_pure hT rfl) ?_
    refine at_sti rfl rfl rfl (sti_pure hT rfl) ?_
    refine at_nil ?_
    refine n_then ?_
    refine at_cond rfl (fun hc25 => ?_) (fun hc25 => ?_)
    · have hc25 := of_decide_eq_true hc25
      refine at_seq ?_
      refine at_region ?_
      refine at_sti rfl rfl rfl (sti_pure hT rfl) ?_
      refine at_sti rfl rfl rfl (sti_pure hT rfl) ?_
      refine at_nil ?_
      refine n_then ?_
      refine at_ret ?_
      refine r_then ?_
      exact at_done1 () rfl rfl rfl .nil trivial
    · have hc25 := Int.not_lt.1 (of_decide_eq_false hc25)
      refine at_skip ?_
      refine n_then ?_
      refine at_seq ?_
      refine at_region ?_
      refine at_none rfl rfl rfl rfl fun b1 => ?_
      refine at_sti rfl rfl rfl (sti_pure hT rfl) ?_
      refine at_appAll .head (reads_fact (Has.of (.head _))) rfl rfl rfl rfl rfl rfl rfl (by simp only [List.length_nil]; omega) fun A2 c3 => ?_
      refine at_sti rfl rfl rfl (sti_pure hT rfl) ?_
      refine at_nil ?_
      refine n_then ?_
      refine at_seq ?_
      refine at_region ?_
      refine at_none rfl rfl rfl rfl fun b4 => ?_
      refine at_sti rfl rfl rfl (sti_pure hT rfl) ?_
      refine at_appAll .head (reads_fact (Has.of (.tail _ (.head _)))) rfl rfl rfl rfl rfl rfl rfl (by simp only [List.length_nil]; omega) fun A5 c6 => ?_
      refine at_sti rfl rfl rfl (sti_pure hT rfl) ?_
      refine at_nil ?_
      refine n_then ?_
      refine at_seq ?_
      refine at_region ?_
      refine at_sti rfl rfl rfl (sti_pure hT rfl) ?_
      refine at_sti rfl rfl rfl (sti_pure hT rfl) ?_
      refine at_call_lend (callFunc_enter Try.func24 rfl rfl) (addH_spec _ _ _ _ _ _ ([] ++ p) ([] ++ q) (by simp only [List.nil_append]; omega) (by simp only [List.nil_append]; omega)) rfl rfl rfl rfl rfl .nil (.cons (.tail .head) (.cons .head .nil)) (lends_row (lends_row lends_nil)) ⟨Has.of (.head _), Has.of (.tail _ (.head _)), trivial⟩ (fun _ => True) (fun _ _ _ _ => trivial) fun ⟨A7, c8⟩ _ => ?_
      refine at_sti rfl rfl rfl (sti_pure hT rfl) ?_
      refine at_sti rfl rfl rfl (sti_pure hT rfl) ?_
      refine at_sti rfl rfl rfl (sti_pure hT rfl) ?_
      refine at_sti rfl rfl rfl (sti_pure hT rfl) ?_
      refine at_sti rfl rfl rfl (sti_pure hT rfl) ?_
      refine at_nil ?_
      refine n_then ?_
      refine at_seq ?_
      refine at_seq ?_
      refine at_region ?_
      refine at_sti rfl rfl rfl (sti_pure hT rfl) ?_
      refine at_sti rfl rfl rfl (sti_pure hT rfl) ?_
      refine at_sti rfl rfl rfl (sti_pure hT rfl) ?_
      refine at_nil ?_
      refine n_then ?_
      refine at_block ?_
      refine at_loop2 (ι := Nat × List Mono) [(0, _), (1, _), (5, _), (6, _), (7, _), (8, _), (9, _), (40, _)] ⟨rfl, rfl, rfl, rfl, rfl, rfl, rfl, rfl, trivial⟩ (fun ⟨k, cur⟩ => [(41, .int .i64 (k : Nat))]) (fun ⟨k, cur⟩ => [monoE.held (.slice A7 (bothP ([] ++ p) ([] ++ q) 1).1.length c8) cur]) (fun ⟨k, cur⟩ => [Fact.pure (k ≤ (bothP ([] ++ p) ([] ++ q) 1).1.length ∧ cur = ((bothP ([] ++ p) ([] ++ q) 1).1.take k).map (Mono.withN 77) ++ (bothP ([] ++ p) ([] ++ q) 1).1.drop k)]) (fun ⟨k, cur⟩ => (bothP ([] ++ p) ([] ++ q) 1).1.length - k) (0, (bothP ([] ++ p) ([] ++ q) 1).1) ⟨rfl, trivial⟩ (.cons .head .nil) ⟨Has.pure (⟨by omega, put_start 77 _⟩), trivial⟩ ?_
      rintro ⟨k, cur⟩
      dsimp only
      refine at_know (Has.of (.head _)) fun hinv8 => ?_
      have hcl : cur.length = (bothP ([] ++ p) ([] ++ q) 1).1.length := by rw [hinv8.2]; simp; omega
      refine at_seq ?_
      refine at_region ?_
      refine at_sti rfl rfl rfl (sti_pure hT rfl) ?_
      refine at_nil ?_
      refine n_then ?_
      refine at_seq ?_
      refine at_cond rfl (fun hc42 => ?_) (fun hc42 => ?_)
      · have hc42 := of_decide_eq_true hc42
        refine at_skip ?_
        refine n_then ?_
        refine at_seq ?_
        refine at_block ?_
        refine at_seq ?_
        refine at_region ?_
        refine at_sti rfl rfl rfl (sti_pure hT rfl) ?_
        refine at_sti rfl rfl rfl (sti_pure hT rfl) ?_
        refine at_nil ?_
        refine n_then ?_
        refine at_region ?_
        refine at_sti rfl rfl rfl (sti_pure hT rfl) ?_
        refine at_sti rfl rfl rfl (sti_pure hT rfl) ?_
        obtain ⟨x9, hx10⟩ : ∃ x, cur[k]? = some x := ⟨_, List.getElem?_eq_getElem (by omega)⟩
        refine at_sti rfl rfl rfl (sti_index hT (k := k) (reads_held .head) rfl rfl rfl rfl rfl hcl.symm rfl (by omega)) ?_
        refine at_sti rfl rfl rfl (sti_pure hT rfl) ?_
        refine at_store_held hT (k := k) (fo := 0) (y' := (Mono.withN 77 x9)) .head rfl rfl rfl rfl rfl rfl rfl rfl rfl hx10 rfl ?_
        refine at_nil ?_
        refine n_block ?_
        refine n_then ?_
        refine at_region ?_
        refine at_sti rfl rfl rfl (sti_pure hT rfl) ?_
        refine at_int (z' := (((k + 1) : Nat) : Int)) (wrapN (by omega) (by omega)) ?_
        refine at_sti rfl rfl rfl (sti_pure hT rfl) ?_
        refine at_nil ?_
        refine n_then ?_
        exact at_back2 (k + 1, _) (by dsimp only; omega) ⟨rfl, trivial⟩ ⟨rfl, rfl, rfl, rfl, rfl, rfl, rfl, rfl, trivial⟩ (.cons .head (.cons .head (.cons .head .nil))) ⟨Has.pure (⟨by omega, put_step hinv8.2 ‹cur[k]? = some _› (by omega) rfl⟩), trivial⟩ (HasAll.drop 1)
      · have hc42 := Int.not_lt.1 (of_decide_eq_false hc42)
        refine at_exit ?_
        refine x_then ?_
        refine x_then ?_
        refine x_block ?_
        refine n_then ?_
        refine at_seq ?_
        have he1 := put_end hinv8.2 (by omega)
        subst he1
        refine at_region ?_
        refine at_sti rfl rfl rfl (sti_pure hT rfl) ?_
        refine at_sti rfl rfl rfl (sti_pure hT rfl) ?_
        refine at_call_lend (callFunc_enter Try.func13 rfl rfl) (mulH_spec _ _ _ _ _ _ ([] ++ p) ([] ++ q) (by simp only [List.nil_append]; omega) (by simp only [List.nil_append]; omega)) rfl rfl rfl rfl rfl .nil (.cons (.tail (.tail .head)) (.cons (.tail .head) .nil)) (lends_row (lends_row lends_nil)) ⟨Has.of (.head _), Has.of (.tail _ (.head _)), trivial⟩ (fun _ => True) (fun _ _ _ _ => trivial) fun ⟨A11, c12⟩ _ => ?_
        refine at_sti rfl rfl rfl (sti_pure hT rfl) ?_
        refine at_sti rfl rfl rfl (sti_pure hT rfl) ?_
        refine at_sti rfl rfl rfl (sti_pure hT rfl) ?_
        refine at_sti rfl rfl rfl (sti_pure hT rfl) ?_
        refine at_sti rfl rfl rfl (sti_pure hT rfl) ?_
        refine at_nil ?_
        refine n_then ?_
        refine at_seq ?_
        refine at_seq ?_
        refine at_region ?_
        refine at_sti rfl rfl rfl (sti_pure hT rfl) ?_
        refine at_sti rfl rfl rfl (sti_pure hT rfl) ?_
        refine at_sti rfl rfl rfl (sti_pure hT rfl) ?_
        refine at_nil ?_
        refine n_then ?_
        refine at_block ?_
        refine at_loop2 (ι := Nat × List Mono) [(0, _), (1, _), (5, _), (6, _), (7, _), (8, _), (9, _), (11, _), (12, _), (56, _)] ⟨rfl, rfl, rfl, rfl, rfl, rfl, rfl, rfl, rfl, rfl, trivial⟩ (fun ⟨k, cur⟩ => [(57, .int .i64 (k : Nat))]) (fun ⟨k, cur⟩ => [monoE.held (.slice A11 (mulP ([] ++ p) ([] ++ q)).1.length c12) cur]) (fun ⟨k, cur⟩ => [Fact.pure (k ≤ (mulP ([] ++ p) ([] ++ q)).1.length ∧ cur = ((mulP ([] ++ p) ([] ++ q)).1.take k).map (Mono.withN 78) ++ (mulP ([] ++ p) ([] ++ q)).1.drop k)]) (fun ⟨k, cur⟩ => (mulP ([] ++ p) ([] ++ q)).1.length - k) (0, (mulP ([] ++ p) ([] ++ q)).1) ⟨rfl, trivial⟩ (.cons .head .nil) ⟨Has.pure (⟨by omega, put_start 78 _⟩), trivial⟩ ?_
        rintro ⟨k, cur⟩
        dsimp only
        refine at_know (Has.of (.head _)) fun hinv14 => ?_
        have hcl : cur.length = (mulP ([] ++ p) ([] ++ q)).1.length := by rw [hinv14.2]; simp; omega
        refine at_seq ?_
        refine at_region ?_
        refine at_sti rfl rfl rfl (sti_pure hT rfl) ?_
        refine at_nil ?_
        refine n_then ?_
        refine at_seq ?_
        refine at_cond rfl (fun hc58 => ?_) (fun hc58 => ?_)
        · have hc58 := of_decide_eq_true hc58
          refine at_skip ?_
          refine n_then ?_
          refine at_seq ?_
          refine at_block ?_
          refine at_seq ?_
          refine at_region ?_
          refine at_sti rfl rfl rfl (sti_pure hT rfl) ?_
          refine at_sti rfl rfl rfl (sti_pure hT rfl) ?_
          refine at_nil ?_
          refine n_then ?_
          refine at_region ?_
          refine at_sti rfl rfl rfl (sti_pure hT rfl) ?_
          refine at_sti rfl rfl rfl (sti_pure hT rfl) ?_
          obtain ⟨x13, hx14⟩ : ∃ x, cur[k]? = some x := ⟨_, List.getElem?_eq_getElem (by omega)⟩
          refine at_sti rfl rfl rfl (sti_index hT (k := k) (reads_held .head) rfl rfl rfl rfl rfl hcl.symm rfl (by omega)) ?_
          refine at_sti rfl rfl rfl (sti_pure hT rfl) ?_
          refine at_store_held hT (k := k) (fo := 0) (y' := (Mono.withN 78 x13)) .head rfl rfl rfl rfl rfl rfl rfl rfl rfl hx14 rfl ?_
          refine at_nil ?_
          refine n_block ?_
          refine n_then ?_
          refine at_region ?_
          refine at_sti rfl rfl rfl (sti_pure hT rfl) ?_
          refine at_int (z' := (((k + 1) : Nat) : Int)) (wrapN (by omega) (by omega)) ?_
          refine at_sti rfl rfl rfl (sti_pure hT rfl) ?_
          refine at_nil ?_
          refine n_then ?_
          exact at_back2 (k + 1, _) (by dsimp only; omega) ⟨rfl, trivial⟩ ⟨rfl, rfl, rfl, rfl, rfl, rfl, rfl, rfl, rfl, rfl, trivial⟩ (.cons .head (.cons .head (.cons .head (.cons .head .nil)))) ⟨Has.pure (⟨by omega, put_step hinv14.2 ‹cur[k]? = some _› (by omega) rfl⟩), trivial⟩ (HasAll.drop 1)
        · have hc58 := Int.not_lt.1 (of_decide_eq_false hc58)
          refine at_exit ?_
          refine x_then ?_
          refine x_then ?_
          refine x_block ?_
          refine n_then ?_
          refine at_seq ?_
          have he2 := put_end hinv14.2 (by omega)
          subst he2
          refine at_region ?_
          refine at_sti rfl rfl rfl (sti_pure hT rfl) ?_
          refine at_sti rfl rfl rfl (sti_pure hT rfl) ?_
          refine at_call_lend (callFunc_enter Try.func24 rfl rfl) (addH_spec _ _ _ _ _ _ ([] ++ p) ([] ++ q) (by simp only [List.nil_append]; omega) (by simp only [List.nil_append]; omega)) rfl rfl rfl rfl rfl .nil (.cons (.tail (.tail (.tail .head))) (.cons (.tail (.tail .head)) .nil)) (lends_row (lends_row lends_nil)) ⟨Has.of (.head _), Has.of (.tail _ (.head _)), trivial⟩ (fun _ => True) (fun _ _ _ _ => trivial) fun ⟨A15, c16⟩ _ => ?_
          refine at_sti rfl rfl rfl (sti_pure hT rfl) ?_
          refine at_sti rfl rfl rfl (sti_pure hT rfl) ?_
          refine at_sti rfl rfl rfl (sti_pure hT rfl) ?_
          refine at_sti rfl rfl rfl (sti_pure hT rfl) ?_
          refine at_sti rfl rfl rfl (sti_pure hT rfl) ?_
          refine at_nil ?_
          refine n_then ?_
          refine at_seq ?_
          refine at_seq ?_
          refine at_region ?_
          refine at_sti rfl rfl rfl (sti_pure hT rfl) ?_
          refine at_sti rfl rfl rfl (sti_pure hT rfl) ?_
          refine at_sti rfl rfl rfl (sti_pure hT rfl) ?_
          refine at_bool (t' := false) (by simp) ?_
          refine at_sti rfl rfl rfl (sti_pure hT rfl) ?_
          refine at_sti rfl rfl rfl (sti_pure hT rfl) ?_
          refine at_sti rfl rfl rfl (sti_pure hT rfl) ?_
          refine at_sti rfl rfl rfl (sti_pure hT rfl) ?_
          refine at_sti rfl rfl rfl (sti_pure hT rfl) ?_
          refine at_sti rfl rfl rfl (sti_pure hT rfl) ?_
          refine at_bool (t' := false) (by simp) ?_
          refine at_sti rfl rfl rfl (sti_pure hT rfl) ?_
          refine at_sti rfl rfl rfl (sti_pure hT rfl) ?_
          refine at_sti rfl rfl rfl (sti_pure hT rfl) ?_
          refine at_sti rfl rfl rfl (sti_pure hT rfl) ?_
          refine at_sti rfl rfl rfl (sti_pure hT rfl) ?_
          refine at_case (fun hg84 => ?_) (fun hg84 => ?_)
          · have hg84 := bne_iff_ne.1 hg84
            refine at_sti rfl rfl rfl (sti_pure hT rfl) ?_
            refine at_sti rfl rfl rfl (sti_pure hT rfl) ?_
            refine at_sti rfl rfl rfl (sti_pure hT rfl) ?_
            refine at_bool (t' := false) (by rw [mul_fail hg84]; rfl) ?_
            refine at_sti rfl rfl rfl (sti_pure hT rfl) ?_
            refine at_sti rfl rfl rfl (sti_pure hT rfl) ?_
            refine at_nil ?_
            refine n_then ?_
            refine at_false rfl rfl ?_
            refine at_skip ?_
            refine n_then ?_
            refine at_seq ?_
            refine at_seq ?_
            refine at_region ?_
            refine at_sti rfl rfl rfl (sti_pure hT rfl) ?_
            refine at_sti rfl rfl rfl (sti_pure hT rfl) ?_
            refine at_sti rfl rfl rfl (sti_pure hT rfl) ?_
            refine at_nil ?_
            refine n_then ?_
            refine at_block ?_
            refine at_loop2 (ι := Nat) [(0, _), (1, _), (5, _), (6, _), (7, _), (8, _), (14, _), (91, _)] ⟨rfl, rfl, rfl, rfl, rfl, rfl, rfl, rfl, trivial⟩ (fun i => [(92, .int .i64 (i : Nat))]) (fun i => []) (fun i => [Fact.pure (i ≤ (bothP ([] ++ p) ([] ++ q) 1).1.length)]) (fun i => (bothP ([] ++ p) ([] ++ q) 1).1.length - i) 0 ⟨rfl, trivial⟩ .nil ⟨Has.pure (by omega), trivial⟩ ?_
            rintro i
            refine at_know (Has.of (.head _)) fun hinv22 => ?_
            refine at_seq ?_
            refine at_region ?_
            refine at_sti rfl rfl rfl (sti_pure hT rfl) ?_
            refine at_nil ?_
            refine n_then ?_
            refine at_seq ?_
            refine at_cond rfl (fun hc93 => ?_) (fun hc93 => ?_)
            · have hc93 := of_decide_eq_true hc93
              refine at_skip ?_
              refine n_then ?_
              refine at_seq ?_
              refine at_block ?_
              refine at_seq ?_
              refine at_region ?_
              refine at_sti rfl rfl rfl (sti_pure hT rfl) ?_
              refine at_sti rfl rfl rfl (sti_pure hT rfl) ?_
              refine at_nil ?_
              refine n_then ?_
              refine at_seq ?_
              refine at_mix _ _ [(true, 0), (true, 1), (true, 2), (true, 3), (true, 4), (true, 5), (true, 6), (true, 7), (true, 8), (true, 9), (true, 10), (true, 11), (true, 12), (true, 13), (true, 14), (true, 15), (true, 16), (true, 17), (true, 18)] mixes (by decide +kernel) (.cons .head (.cons .head (.cons .head (.cons .head (.cons .head .nil))))) HasAll.self ?_
              refine atm_sti rfl rfl rfl rfl (sti_pure hT rfl) ?_
              refine atm_sti rfl rfl rfl rfl (sti_pure hT rfl) ?_
              obtain ⟨x17, hx18⟩ : ∃ x, ((bothP ([] ++ p) ([] ++ q) 1).1.map (Mono.withN 77))[i]? = some x := ⟨_, List.getElem?_eq_getElem (by rw [List.length_map]; omega)⟩
              refine atm_sti rfl rfl rfl rfl (sti_index hT (k := i) (reads_held (.tail (.tail .head))) rfl rfl rfl rfl rfl (List.length_map _).symm rfl (by rw [List.length_map]; omega)) ?_
              refine atm_sti rfl rfl rfl rfl (sti_pure hT rfl) ?_
              refine atm_sti rfl rfl rfl rfl (sti_load1 hT (Reads.knows (reads_held (.tail (.tail .head))) hx18 0) rfl rfl rfl rfl rfl) ?_
              refine atm_sti rfl rfl rfl rfl (sti_pure hT rfl) ?_
              refine at_bool (t' := false) (by rw [withN_n ‹(List.map (Mono.withN 77) (bothP ([] ++ p) ([] ++ q) 1).1)[i]? = some _›]; rfl) ?_
              refine atm_sti rfl rfl rfl rfl (sti_pure hT rfl) ?_
              refine atm_sti rfl rfl rfl rfl (sti_pure hT rfl) ?_
              refine atm_sti rfl rfl rfl rfl (sti_pure hT rfl) ?_
              refine atm_sti rfl rfl rfl rfl (sti_index hT (k := i) (reads_held (.tail (.tail .head))) rfl rfl rfl rfl rfl (List.length_map _).symm rfl (by rw [List.length_map]; omega)) ?_
              refine atm_sti rfl rfl rfl rfl (sti_pure hT rfl) ?_
              refine atm_sti rfl rfl rfl rfl (sti_loadN hT (Reads.knows (reads_held (.tail (.tail .head))) hx18 1) rfl rfl rfl rfl rfl) ?_
              refine atm_sti rfl rfl rfl rfl (sti_pure hT rfl) ?_
              refine atm_sti rfl rfl rfl rfl (sti_pure hT rfl) ?_
              obtain ⟨x19, hx20⟩ : ∃ x, (bothP ([] ++ p) ([] ++ q) 1).1[i]? = some x := ⟨_, List.getElem?_eq_getElem (by omega)⟩
              refine atm_sti rfl rfl rfl rfl (sti_index hT (k := i) (reads_held .head) rfl rfl rfl rfl rfl rfl rfl (by omega)) ?_
              refine atm_sti rfl rfl rfl rfl (sti_pure hT rfl) ?_
              refine atm_sti rfl rfl rfl rfl (sti_loadN hT (Reads.knows (reads_held .head) hx20 1) rfl rfl rfl rfl rfl) ?_
              refine atm_sti rfl rfl rfl rfl (sti_neqE rfl rfl rfl) ?_
              refine at_bool (t' := false) (withN_E ‹(List.map (Mono.withN 77) (bothP ([] ++ p) ([] ++ q) 1).1)[i]? = some _› ‹(bothP ([] ++ p) ([] ++ q) 1).1[i]? = some _›) ?_
              refine atm_sti rfl rfl rfl rfl (sti_pure hT rfl) ?_
              refine atm_nil ?_
              refine n_then ?_
              refine at_false rfl rfl ?_
              refine at_skip ?_
              refine n_block ?_
              refine n_then ?_
              refine at_region ?_
              refine at_sti rfl rfl rfl (sti_pure hT rfl) ?_
              refine at_int (z' := (((i + 1) : Nat) : Int)) (wrapN (by omega) (by omega)) ?_
              refine at_sti rfl rfl rfl (sti_pure hT rfl) ?_
              refine at_nil ?_
              refine n_then ?_
              exact at_back2 (i + 1) (by omega) ⟨rfl, trivial⟩ ⟨rfl, rfl, rfl, rfl, rfl, rfl, rfl, rfl, trivial⟩ (.cons .head (.cons .head (.cons .head (.cons .head (.cons .head .nil))))) ⟨Has.pure (by omega), trivial⟩ (HasAll.drop 1)
            · have hc93 := Int.not_lt.1 (of_decide_eq_false hc93)
              refine at_exit ?_
              refine x_then ?_
              refine x_then ?_
              refine x_block ?_
              refine n_then ?_
              refine at_seq ?_
              refine at_region ?_
              refine at_sti rfl rfl rfl (sti_pure hT rfl) ?_
              refine at_sti rfl rfl rfl (sti_pure hT rfl) ?_
              refine at_sti rfl rfl rfl (sti_pure hT rfl) ?_
              refine at_sti rfl rfl rfl (sti_pure hT rfl) ?_
              refine at_call_lend (callFunc_enter Try.func15 rfl rfl) (same_spec _ _ _ _ ([] ++ p) p (by simp only [List.nil_append]; omega)) rfl rfl rfl rfl rfl .nil (.cons (.tail (.tail (.tail (.tail .head)))) .nil) (lends_row lends_nil) ⟨Has.of (.head _), Has.of (.tail _ (.tail _ (.tail _ (.tail _ (.head _))))), trivial⟩ (fun _ => True) (fun _ _ _ _ => trivial) fun _ _ => ?_
              refine at_bool (t' := true) (same_self _) ?_
              refine at_sti rfl rfl rfl (sti_pure hT rfl) ?_
              refine at_sti rfl rfl rfl (sti_pure hT rfl) ?_
              refine at_sti rfl rfl rfl (sti_pure hT rfl) ?_
              refine at_sti rfl rfl rfl (sti_pure hT rfl) ?_
              refine at_call_lend (callFunc_enter Try.func15 rfl rfl) (same_spec _ _ _ _ ([] ++ q) q (by simp only [List.nil_append]; omega)) rfl rfl rfl rfl rfl .nil (.cons (.tail (.tail (.tail .head))) .nil) (lends_row lends_nil) ⟨Has.of (.head _), Has.of (.tail _ (.tail _ (.tail _ (.tail _ (.tail _ (.head _)))))), trivial⟩ (fun _ => True) (fun _ _ _ _ => trivial) fun _ _ => ?_
              refine at_bool (t' := true) (same_self _) ?_
              refine at_sti rfl rfl rfl (sti_pure hT rfl) ?_
              refine at_sti rfl rfl rfl (sti_pure hT rfl) ?_
              refine at_nil ?_
              refine n_then ?_
              refine at_ret ?_
              exact at_done1 () rfl rfl rfl .nil trivial
          · have hg84 := bne_eq_false_iff_eq.1 hg84
            refine at_skipped rfl rfl rfl ?_
            refine at_skipped rfl rfl rfl ?_
            refine at_skipped rfl rfl rfl ?_
            refine at_sti rfl rfl rfl (sti_pure hT rfl) ?_
            refine at_sti rfl rfl rfl (sti_pure hT rfl) ?_
            refine at_nil ?_
            refine n_then ?_
            refine at_false rfl rfl ?_
            refine at_skip ?_
            refine n_then ?_
            refine at_seq ?_
            refine at_seq ?_
            refine at_region ?_
            refine at_sti rfl rfl rfl (sti_pure hT rfl) ?_
            refine at_sti rfl rfl rfl (sti_pure hT rfl) ?_
            refine at_sti rfl rfl rfl (sti_pure hT rfl) ?_
            refine at_nil ?_
            refine n_then ?_
            refine at_block ?_
            refine at_loop2 (ι := Nat) [(0, _), (1, _), (5, _), (6, _), (7, _), (8, _), (14, _), (91, _)] ⟨rfl, rfl, rfl, rfl, rfl, rfl, rfl, rfl, trivial⟩ (fun i => [(92, .int .i64 (i : Nat))]) (fun i => []) (fun i => [Fact.pure (i ≤ (bothP ([] ++ p) ([] ++ q) 1).1.length)]) (fun i => (bothP ([] ++ p) ([] ++ q) 1).1.length - i) 0 ⟨rfl, trivial⟩ .nil ⟨Has.pure (by omega), trivial⟩ ?_
            rintro i
            refine at_know (Has.of (.head _)) fun hinv22 => ?_
            refine at_seq ?_
            refine at_region ?_
            refine at_sti rfl rfl rfl (sti_pure hT rfl) ?_
            refine at_nil ?_
            refine n_then ?_
            refine at_seq ?_
            refine at_cond rfl (fun hc93 => ?_) (fun hc93 => ?_)
            · have hc93 := of_decide_eq_true hc93
              refine at_skip ?_
              refine n_then ?_
              refine at_seq ?_
              refine at_block ?_
              refine at_seq ?_
              refine at_region ?_
              refine at_sti rfl rfl rfl (sti_pure hT rfl) ?_
              refine at_sti rfl rfl rfl (sti_pure hT rfl) ?_
              refine at_nil ?_
              refine n_then ?_
              refine at_seq ?_
              refine at_mix _ _ [(true, 0), (true, 1), (true, 2), (true, 3), (true, 4), (true, 5), (true, 6), (true, 7), (true, 8), (true, 9), (true, 10), (true, 11), (true, 12), (true, 13), (true, 14), (true, 15), (true, 16), (true, 17), (true, 18)] mixes (by decide +kernel) (.cons .head (.cons .head (.cons .head (.cons .head (.cons .head .nil))))) HasAll.self ?_
              refine atm_sti rfl rfl rfl rfl (sti_pure hT rfl) ?_
              refine atm_sti rfl rfl rfl rfl (sti_pure hT rfl) ?_
              obtain ⟨x21, hx22⟩ : ∃ x, ((bothP ([] ++ p) ([] ++ q) 1).1.map (Mono.withN 77))[i]? = some x := ⟨_, List.getElem?_eq_getElem (by rw [List.length_map]; omega)⟩
              refine atm_sti rfl rfl rfl rfl (sti_index hT (k := i) (reads_held (.tail (.tail .head))) rfl rfl rfl rfl rfl (List.length_map _).symm rfl (by rw [List.length_map]; omega)) ?_
              refine atm_sti rfl rfl rfl rfl (sti_pure hT rfl) ?_
              refine atm_sti rfl rfl rfl rfl (sti_load1 hT (Reads.knows (reads_held (.tail (.tail .head))) hx22 0) rfl rfl rfl rfl rfl) ?_
              refine atm_sti rfl rfl rfl rfl (sti_pure hT rfl) ?_
              refine at_bool (t' := false) (by rw [withN_n ‹(List.map (Mono.withN 77) (bothP ([] ++ p) ([] ++ q) 1).1)[i]? = some _›]; rfl) ?_
              refine atm_sti rfl rfl rfl rfl (sti_pure hT rfl) ?_
              refine atm_sti rfl rfl rfl rfl (sti_pure hT rfl) ?_
              refine atm_sti rfl rfl rfl rfl (sti_pure hT rfl) ?_
              refine atm_sti rfl rfl rfl rfl (sti_index hT (k := i) (reads_held (.tail (.tail .head))) rfl rfl rfl rfl rfl (List.length_map _).symm rfl (by rw [List.length_map]; omega)) ?_
              refine atm_sti rfl rfl rfl rfl (sti_pure hT rfl) ?_
              refine atm_sti rfl rfl rfl rfl (sti_loadN hT (Reads.knows (reads_held (.tail (.tail .head))) hx22 1) rfl rfl rfl rfl rfl) ?_
              refine atm_sti rfl rfl rfl rfl (sti_pure hT rfl) ?_
              refine atm_sti rfl rfl rfl rfl (sti_pure hT rfl) ?_
              obtain ⟨x23, hx24⟩ : ∃ x, (bothP ([] ++ p) ([] ++ q) 1).1[i]? = some x := ⟨_, List.getElem?_eq_getElem (by omega)⟩
              refine atm_sti rfl rfl rfl rfl (sti_index hT (k := i) (reads_held .head) rfl rfl rfl rfl rfl rfl rfl (by omega)) ?_
              refine atm_sti rfl rfl rfl rfl (sti_pure hT rfl) ?_
              refine atm_sti rfl rfl rfl rfl (sti_loadN hT (Reads.knows (reads_held .head) hx24 1) rfl rfl rfl rfl rfl) ?_
              refine atm_sti rfl rfl rfl rfl (sti_neqE rfl rfl rfl) ?_
              refine at_bool (t' := false) (withN_E ‹(List.map (Mono.withN 77) (bothP ([] ++ p) ([] ++ q) 1).1)[i]? = some _› ‹(bothP ([] ++ p) ([] ++ q) 1).1[i]? = some _›) ?_
              refine atm_sti rfl rfl rfl rfl (sti_pure hT rfl) ?_
              refine atm_nil ?_
              refine n_then ?_
              refine at_false rfl rfl ?_
              refine at_skip ?_
              refine n_block ?_
              refine n_then ?_
              refine at_region ?_
              refine at_sti rfl rfl rfl (sti_pure hT rfl) ?_
              refine at_int (z' := (((i + 1) : Nat) : Int)) (wrapN (by omega) (by omega)) ?_
              refine at_sti rfl rfl rfl (sti_pure hT rfl) ?_
              refine at_nil ?_
              refine n_then ?_
              exact at_back2 (i + 1) (by omega) ⟨rfl, trivial⟩ ⟨rfl, rfl, rfl, rfl, rfl, rfl, rfl, rfl, trivial⟩ (.cons .head (.cons .head (.cons .head (.cons .head (.cons .head .nil))))) ⟨Has.pure (by omega), trivial⟩ (HasAll.drop 1)
            · have hc93 := Int.not_lt.1 (of_decide_eq_false hc93)
              refine at_exit ?_
              refine x_then ?_
              refine x_then ?_
              refine x_block ?_
              refine n_then ?_
              refine at_seq ?_
              refine at_region ?_
              refine at_sti rfl rfl rfl (sti_pure hT rfl) ?_
              refine at_sti rfl rfl rfl (sti_pure hT rfl) ?_
              refine at_sti rfl rfl rfl (sti_pure hT rfl) ?_
              refine at_sti rfl rfl rfl (sti_pure hT rfl) ?_
              refine at_call_lend (callFunc_enter Try.func15 rfl rfl) (same_spec _ _ _ _ ([] ++ p) p (by simp only [List.nil_append]; omega)) rfl rfl rfl rfl rfl .nil (.cons (.tail (.tail (.tail (.tail .head)))) .nil) (lends_row lends_nil) ⟨Has.of (.head _), Has.of (.tail _ (.tail _ (.tail _ (.tail _ (.head _))))), trivial⟩ (fun _ => True) (fun _ _ _ _ => trivial) fun _ _ => ?_
              refine at_bool (t' := true) (same_self _) ?_
              refine at_sti rfl rfl rfl (sti_pure hT rfl) ?_
              refine at_sti rfl rfl rfl (sti_pure hT rfl) ?_
              refine at_sti rfl rfl rfl (sti_pure hT rfl) ?_
              refine at_sti rfl rfl rfl (sti_pure hT rfl) ?_
              refine at_call_lend (callFunc_enter Try.func15 rfl rfl) (same_spec _ _ _ _ ([] ++ q) q (by simp only [List.nil_append]; omega)) rfl rfl rfl rfl rfl .nil (.cons (.tail (.tail (.tail .head))) .nil) (lends_row lends_nil) ⟨Has.of (.head _), Has.of (.tail _ (.tail _ (.tail _ (.tail _ (.tail _ (.head _)))))), trivial⟩ (fun _ => True) (fun _ _ _ _ => trivial) fun _ _ => ?_
              refine at_bool (t' := true) (same_self _) ?_
              refine at_sti rfl rfl rfl (sti_pure hT rfl) ?_
              refine at_sti rfl rfl rfl (sti_pure hT rfl) ?_
              refine at_nil ?_
              refine n_then ?_
              refine at_ret ?_
              exact at_done1 () rfl rfl rfl .nil trivial

theorem own : ownKnob Try.prog.godebug = none := by kernel_rfl
theorem laid : laidOutB Try.prog = true := by kernel_rfl

set_option maxRecDepth 100000 in
theorem lifted (os : Os) (started : os.Started) (H : Type) (enc : TypeId × Value → H) :
    ReturnsInHanded {} Try.checked os 7 .any (Rows.polyKeptSpec.pre6 enc Try.prog Try.f7 Rows.polyKeptRow.domain false) (Rows.polyKeptSpec.post enc Try.prog Try.f7 false true false false) := by
  refine returnsInHanded_of_change_sized (C := Try.checked) own started (by kernel_rfl) Try.func7
    (ChangeSpec.witness6 (enc := enc) (C := Try.checked) false ⟨#[], #[.slice none 0 0, .slice none 0 0], []⟩ 8 (by kernel_rfl) (by kernel_rfl) (by kernel_rfl) (by kernel_rfl)) ?_
  intro W base args ds gs before hval0 hW _ hsz _
  have hval : ∀ (j : Nat) t v, Try.f7.params[j]? = some t → args[j]? = some v → Value.okWide Try.prog W .any base t v := hval0
  have hW' := hW
  obtain ⟨p, q, hA0, hV, rfl, hfz, hnd⟩ := hW
  have hA : DataW.TrodAll enc Try.prog W 0 (fun _ => true) true Try.f7.params.toList args.toList ds p := hA0
  rw [Try.params7] at hA hval
  obtain ⟨v0, vs0, d0, ds0, p0, q0, hargs, rfl, rfl, h0, r0⟩ := trodAll_cons hA
  obtain ⟨v1, vs1, d1, ds1, p1, q1, rfl, rfl, rfl, h1, r1⟩ := trodAll_cons r0
  obtain ⟨rfl, rfl, rfl⟩ := trodAll_nil r1
  obtain rfl : args = #[v0, v1] := by cases args; simp_all
  obtain ⟨rfl, rfl⟩ := trodVars_none hV
  obtain ⟨a0, e0, f0⟩ := Opens.arg (opens_slice' (T := monoTy) (b := 16) Try.underlying22 (by kernel_rfl) (by kernel_rfl) opens_mono) h0 hsz (j := 0) rfl rfl
  obtain ⟨A0, L0, C0, rfl⟩ := okWide_slice Try.underlying22 (hval 0 22 v0 rfl rfl)
  have e0 : [Value.slice A0 L0 C0] = [Value.slice a0.addr a0.list.length a0.cap] := e0
  simp only [List.cons.injEq, and_true, Value.slice.injEq] at e0
  obtain ⟨rfl, rfl, rfl⟩ := e0
  obtain ⟨a1, e1, f1⟩ := Opens.arg (opens_slice' (T := monoTy) (b := 16) Try.underlying22 (by kernel_rfl) (by kernel_rfl) opens_mono) h1 hsz (j := 1) rfl rfl
  obtain ⟨A1, L1, C1, rfl⟩ := okWide_slice Try.underlying22 (hval 1 22 v1 rfl rfl)
  have e1 : [Value.slice A1 L1 C1] = [Value.slice a1.addr a1.list.length a1.cap] := e1
  simp only [List.cons.injEq, and_true, Value.slice.injEq] at e1
  obtain ⟨rfl, rfl, rfl⟩ := e1
  clear hA0 hval0
  simp only [List.append_nil] at hW'
  refine (calls_of_spec (law_spec a0.addr a1.addr a0.cap a1.cap a0.list a1.list (by have := f0.2; dsimp only [Fact.pure] at this; omega) (by have := f1.2; dsimp only [Fact.pure] at this; omega)) (All.cons f0.1.1 (All.cons f1.1.1 fun g hg => by simp at hg))).mono fun e W' ⟨he, hb⟩ => ?_
  subst he
  exact ⟨_, rfl, law_post (tb := 4) hW' rfl rfl rfl Try.underlying4 laid (by rw [Try.params7]; exact fun t ht => by simp at ht; rcases ht with rfl <;> exact ⟨by kernel_rfl, by decide +kernel⟩) hb⟩

theorem over : Rows.polyKeptRow.holds Try.pinned (OpenSpec.ofChange Rows.polyKeptSpec) :=
  OpenClaim.holds_of_wide 7 Try.f7 rfl rfl rfl rfl rfl rfl rfl ⟨rfl, rfl, rfl, rfl, rfl⟩ rfl rfl rfl rfl rfl (by kernel_rfl) Try.func7 (by kernel_rfl)
    (of_decide_eq_true (by kernel_rfl)) (by unfold Func.isWrapper; first | (rw [if_pos (by decide +kernel)]; kernel_rfl) | (rw [if_neg (by decide +kernel)]; exact ⟨rfl, rfl⟩))
    (fun os started H enc _ => lifted os started H enc)

theorem proved : Rows.PolyKeptSaid :=
  over
#print axioms proved
end Go.Proofs.Ytndjaogjkchpaaa.polyKept
