/- Proved: for every input windrow/windrowlaw02.PolyGrows returns true, and each argument reads afterwards as it read before. No condition beside the form's own. -/
import Derived.Test.YtndjaogjkchpaaaGSpec
import Derived.Test.YtndjaogjkchpaaaSides
import Derived.Test.YtndjaogjkchpaaaLaw
import Derived.JoinedTies
namespace Go.Proofs.Ytndjaogjkchpaaa.polyGrows
open Go.ChangeShapes Go.WideShapes Go.ChangeAt Go.RowKit Go.Sort

set_option maxRecDepth 100000 in
theorem law_spec (A : Option Addr) (c : Nat) (p : List Mono) (hp : p.length ≤ 140737488355328) (B : Option Addr) (d : Nat) (ds : List Int) (hd : ds.length ≤ 140737488355328) (B' : Option Addr) (d' : Nat) (more : List Int) (hm : more.length ≤ 140737488355328) (n : Int) : Spec Try.prog 6 [.slice A p.length c, .agg #[.slice B ds.length d, .slice B' more.length d'], .int .i64 n] [] [monoE.sl (.slice A p.length c) p, intE.sl (.slice B ds.length d) ds, intE.sl (.slice B' more.length d') more] (fun (_ : Unit) => .bool true) (fun _ => []) (fun _ => []) := by
  have hT := sidesT_ok
  refine spec_of Try.func6 rfl Try.ntmps6 rfl ?_
  intro β hM
  refine at_seq ?_
  refine at_region ?_
  refine at_box rfl rfl rfl rfl rfl rfl fun b1 => ?_
  refine at_sti rfl rfl rfl (sti_pure hT rfl) ?_
  refine at_nil ?_
  refine n_then ?_
  refine at_seq ?_
  refine at_region ?_
  refine at_call (callFunc_enter Try.func12 rfl rfl) (shown_spec ) rfl rfl rfl rfl rfl .nil trivial fun _ => ?_
  refine at_sti rfl rfl rfl (sti_pure hT rfl) ?_
  refine at_nil ?_
  refine n_then ?_
  refine at_seq ?_
  refine at_mix _ _ [(true, 0), (true, 1), (true, 2), (true, 3), (true, 4), (true, 5)] mixes (by decide +kernel) (.cons .head .nil) HasAll.self ?_
  refine atm_sti rfl rfl rfl rfl (sti_pure hT rfl) ?_
  refine atm_sti rfl rfl rfl rfl (sti_load1 hT (knows_own (off := 0) .head) rfl rfl rfl rfl rfl) ?_
  refine atm_sti rfl rfl rfl rfl (sti_pure hT rfl) ?_
  refine atm_sti rfl rfl rfl rfl (sti_load1 hT (knows_own (off := 1) .head) rfl rfl rfl rfl rfl) ?_
  refine atm_sti rfl rfl rfl rfl (sti_pure hT rfl) ?_
  refine atm_sti rfl rfl rfl rfl (sti_pure hT rfl) ?_
  refine atm_nil ?_
  refine n_then ?_
  refine at_seq ?_
  refine at_seq ?_
  refine at_region ?_
  refine at_sti rfl rfl rfl (sti_pure hT rfl) ?_
  refine at_call (callFunc_enter Try.func19 rfl rfl) (grows_spec _ _ _ (by omega)) rfl rfl rfl rfl rfl .nil ⟨Has.of (.head _), trivial⟩ fun _ => ?_
  refine at_sti rfl rfl rfl (sti_pure hT rfl) ?_
  refine at_nil ?_
  refine n_then ?_
  refine at_cond rfl (fun hc23 => ?_) (fun hc23 => ?_)
  · have hc23 := not_t hc23
    refine at_seq ?_
    refine at_region ?_
    refine at_sti rfl rfl rfl (sti_pure hT rfl) ?_
    refine at_sti rfl rfl rfl (sti_pure hT rfl) ?_
    refine at_sti rfl rfl rfl (sti_pure hT rfl) ?_
    refine at_sti rfl rfl rfl (sti_pure hT rfl) ?_
    refine at_call (callFunc_enter Try.func20 rfl rfl) (covers_spec _ _ _ _ (by omega)) rfl rfl rfl rfl rfl .nil ⟨Has.of (.head _), trivial⟩ fun _ => ?_
    refine at_sti rfl rfl rfl (sti_pure hT rfl) ?_
    refine at_bool (t' := true) (by rw [covers_grows hc23]; rfl) ?_
    refine at_sti rfl rfl rfl (sti_pure hT rfl) ?_
    refine at_sti rfl rfl rfl (sti_pure hT rfl) ?_
    refine at_nil ?_
    refine n_then ?_
    refine at_ret ?_
    refine r_then ?_
    exact at_done1 () rfl rfl rfl .nil trivial
  · have hc23 := not_f hc23
    have hgr : growsB p = true := hc23
    refine at_skip ?_
    refine n_then ?_
    refine at_seq ?_
    refine at_seq ?_
    refine at_region ?_
    refine at_sti rfl rfl rfl (sti_pure hT rfl) ?_
    refine at_sti rfl rfl rfl (sti_pure hT rfl) ?_
    refine at_sti rfl rfl rfl (sti_pure hT rfl) ?_
    refine at_nil ?_
    refine n_then ?_
    refine at_cond rfl (fun hc33 => ?_) (fun hc33 => ?_)
    · have hc33 := of_decide_eq_true hc33
      refine at_seq ?_
      refine at_region ?_
      refine at_sti rfl rfl rfl (sti_pure hT rfl) ?_
      refine at_sti rfl rfl rfl (sti_pure hT rfl) ?_
      refine at_nil ?_
      refine n_then ?_
      refine at_ret ?_
      refine r_then ?_
      exact at_done1 () rfl rfl rfl .nil trivial
    · have hc33 := Int.not_lt.1 (of_decide_eq_false hc33)
      refine at_skip ?_
      refine n_then ?_
      refine at_seq ?_
      refine at_region ?_
      refine at_sti rfl rfl rfl (sti_pure hT rfl) ?_
      refine at_sti rfl rfl rfl (sti_pure hT rfl) ?_
      refine at_makeInts rfl rfl rfl rfl rfl rfl (by omega) fun b2 => ?_
      refine at_sti rfl rfl rfl (sti_pure hT rfl) ?_
      refine at_nil ?_
      refine n_then ?_
      refine at_seq ?_
      refine at_seq ?_
      refine at_region ?_
      refine at_sti rfl rfl rfl (sti_pure hT rfl) ?_
      refine at_sti rfl rfl rfl (sti_pure hT rfl) ?_
      refine at_sti rfl rfl rfl (sti_pure hT rfl) ?_
      refine at_nil ?_
      refine n_then ?_
      refine at_block ?_
      refine at_loop2 (ι := Nat × List Int) [(0, _), (2, _), (7, _), (8, _), (9, _), (10, _), (39, _)] ⟨rfl, rfl, rfl, rfl, rfl, rfl, rfl, trivial⟩ (fun ⟨k, cur⟩ => [(40, .int .i64 (k : Nat))]) (fun ⟨k, cur⟩ => [intE.row (.slice (some ⟨b2, 0, none⟩) ds.length ds.length) 2 cur]) (fun ⟨k, cur⟩ => [Fact.pure (k ≤ ds.length ∧ cur = (upP ds more).take k ++ List.replicate (ds.length - k) 0)]) (fun ⟨k, cur⟩ => ds.length - k) (0, List.replicate ds.length 0) ⟨rfl, trivial⟩ (.cons .head .nil) ⟨Has.pure (⟨by omega, up_start ds more⟩), trivial⟩ ?_
      rintro ⟨k, cur⟩
      dsimp only
      refine at_know (Has.of (.head _)) fun hinv9 => ?_
      have hcl : cur.length = ds.length := by rw [hinv9.2]; simp [upP_len]; omega
      refine at_seq ?_
      refine at_region ?_
      refine at_sti rfl rfl rfl (sti_pure hT rfl) ?_
      refine at_nil ?_
      refine n_then ?_
      refine at_seq ?_
      refine at_cond rfl (fun hc41 => ?_) (fun hc41 => ?_)
      · have hc41 := of_decide_eq_true hc41
        refine at_skip ?_
        refine n_then ?_
        refine at_seq ?_
        refine at_block ?_
        refine at_seq ?_
        refine at_region ?_
        refine at_sti rfl rfl rfl (sti_pure hT rfl) ?_
        refine at_sti rfl rfl rfl (sti_pure hT rfl) ?_
        refine at_nil ?_
        refine n_then ?_
        refine at_seq ?_
        refine at_region ?_
        refine at_sti rfl rfl rfl (sti_pure hT rfl) ?_
        refine at_sti rfl rfl rfl (sti_pure hT rfl) ?_
        refine at_sti rfl rfl rfl (sti_pure hT rfl) ?_
        refine at_sti rfl rfl rfl (sti_pure hT rfl) ?_
        obtain ⟨x3, hx4⟩ : ∃ x, ds[k]? = some x := ⟨_, List.getElem?_eq_getElem (by omega)⟩
        refine at_sti rfl rfl rfl (sti_index hT (k := k) (reads_fact (Has.of (.tail _ (.tail _ (.head _))))) rfl rfl rfl rfl rfl rfl rfl (by omega)) ?_
        refine at_sti rfl rfl rfl (sti_load1 hT (Reads.knows (reads_fact (Has.of (.tail _ (.tail _ (.head _))))) hx4 0) rfl rfl rfl rfl rfl) ?_
        obtain ⟨x5, hx6⟩ : ∃ x, cur[k]? = some x := ⟨_, List.getElem?_eq_getElem (by omega)⟩
        refine at_sti rfl rfl rfl (sti_index_at hT (k := k) rfl rfl rfl rfl rfl rfl (by omega)) ?_
        refine at_store_elem hT (k := k) (fo := 0) (y' := x3) .head rfl rfl rfl rfl rfl rfl rfl rfl rfl hx6 rfl ?_
        refine at_nil ?_
        refine n_then ?_
        refine at_seq ?_
        refine at_mix _ _ [(true, 0), (true, 1), (true, 2), (true, 3), (true, 4), (true, 5), (true, 6), (true, 7), (true, 8), (true, 9), (true, 10), (true, 11), (true, 12), (true, 13), (true, 14)] mixes (by decide +kernel) (.cons .head (.cons .head .nil)) HasAll.self ?_
        refine atm_sti rfl rfl rfl rfl (sti_pure hT rfl) ?_
        refine atm_sti rfl rfl rfl rfl (sti_pure hT rfl) ?_
        refine atm_sti rfl rfl rfl rfl (sti_pure hT rfl) ?_
        refine atm_sti rfl rfl rfl rfl (sti_pure hT rfl) ?_
        refine atm_sti rfl rfl rfl rfl (sti_pure hT rfl) ?_
        refine at_case (fun hg54 => ?_) (fun hg54 => ?_)
        · have hg54 := of_decide_eq_true hg54
          refine atm_sti rfl rfl rfl rfl (sti_pure hT rfl) ?_
          refine atm_sti rfl rfl rfl rfl (sti_pure hT rfl) ?_
          obtain ⟨x7, hx8⟩ : ∃ x, more[k]? = some x := ⟨_, List.getElem?_eq_getElem (by omega)⟩
          refine atm_sti rfl rfl rfl rfl (sti_index hT (k := k) (reads_fact (Has.of (.tail _ (.tail _ (.tail _ (.head _)))))) rfl rfl rfl rfl rfl rfl rfl (by omega)) ?_
          refine atm_sti rfl rfl rfl rfl (sti_load1 hT (Reads.knows (reads_fact (Has.of (.tail _ (.tail _ (.tail _ (.head _)))))) hx8 0) rfl rfl rfl rfl rfl) ?_
          refine atm_sti rfl rfl rfl rfl (sti_pure hT rfl) ?_
          refine atm_sti rfl rfl rfl rfl (sti_pure hT rfl) ?_
          refine atm_sti rfl rfl rfl rfl (sti_index_at hT (k := k) rfl rfl rfl rfl rfl rfl (by omega)) ?_
          refine atm_sti rfl rfl rfl rfl (sti_load1 hT (Reads.knows (reads_row .head) (List.getElem?_set_self (by first | omega | (simp only [List.length_set]; omega))) 0) rfl rfl rfl rfl rfl) ?_
          refine atm_sti rfl rfl rfl rfl (sti_pure hT rfl) ?_
          refine atm_sti rfl rfl rfl rfl (sti_pure hT rfl) ?_
          refine atm_nil ?_
          refine n_then ?_
          refine at_cond rfl (fun hc64 => ?_) (fun hc64 => ?_)
          · have hc64 := of_decide_eq_true hc64
            refine at_region ?_
            refine at_sti rfl rfl rfl (sti_pure hT rfl) ?_
            refine at_sti rfl rfl rfl (sti_pure hT rfl) ?_
            refine at_sti rfl rfl rfl (sti_pure hT rfl) ?_
            refine at_sti rfl rfl rfl (sti_pure hT rfl) ?_
            refine at_sti rfl rfl rfl (sti_index hT (k := k) (reads_fact (Has.of (.tail _ (.tail _ (.tail _ (.head _)))))) rfl rfl rfl rfl rfl rfl rfl (by omega)) ?_
            refine at_sti rfl rfl rfl (sti_load1 hT (Reads.knows (reads_fact (Has.of (.tail _ (.tail _ (.tail _ (.head _)))))) hx8 0) rfl rfl rfl rfl rfl) ?_
            refine at_sti rfl rfl rfl (sti_index_at hT (k := k) rfl rfl rfl rfl rfl rfl (by omega)) ?_
            refine at_store_elem hT (k := k) (fo := 0) (y' := x7) .head rfl rfl rfl rfl rfl rfl rfl rfl rfl (List.getElem?_set_self (by first | omega | (simp only [List.length_set]; omega))) rfl ?_
            refine at_nil ?_
            refine n_block ?_
            refine n_then ?_
            refine at_region ?_
            refine at_sti rfl rfl rfl (sti_pure hT rfl) ?_
            refine at_int (z' := (((k + 1) : Nat) : Int)) (wrapN (by omega) (by omega)) ?_
            refine at_sti rfl rfl rfl (sti_pure hT rfl) ?_
            refine at_nil ?_
            refine n_then ?_
            exact at_back2 (k + 1, _) (by dsimp only; omega) ⟨rfl, trivial⟩ ⟨rfl, rfl, rfl, rfl, rfl, rfl, rfl, trivial⟩ (.cons .head (.cons .head .nil)) ⟨Has.pure (⟨by omega, by (try rw [List.set_set]); refine up_step hinv9.2 ((upP_at ‹ds[k]? = some _›).trans (congrArg some ?_)); exact up_more ‹more[k]? = some _› hc64⟩), trivial⟩ (HasAll.drop 1)
          · have hc64 := Int.not_lt.1 (of_decide_eq_false hc64)
            refine at_skip ?_
            refine n_block ?_
            refine n_then ?_
            refine at_region ?_
            refine at_sti rfl rfl rfl (sti_pure hT rfl) ?_
            refine at_int (z' := (((k + 1) : Nat) : Int)) (wrapN (by omega) (by omega)) ?_
            refine at_sti rfl rfl rfl (sti_pure hT rfl) ?_
            refine at_nil ?_
            refine n_then ?_
            exact at_back2 (k + 1, _) (by dsimp only; omega) ⟨rfl, trivial⟩ ⟨rfl, rfl, rfl, rfl, rfl, rfl, rfl, trivial⟩ (.cons .head (.cons .head .nil)) ⟨Has.pure (⟨by omega, by (try rw [List.set_set]); refine up_step hinv9.2 ((upP_at ‹ds[k]? = some _›).trans (congrArg some ?_)); exact up_less ‹more[k]? = some _› hc64⟩), trivial⟩ (HasAll.drop 1)
        · have hg54 := Int.not_lt.1 (of_decide_eq_false hg54)
          refine atm_skipped rfl rfl rfl rfl ?_
          refine atm_skipped rfl rfl rfl rfl ?_
          refine atm_skipped rfl rfl rfl rfl ?_
          refine atm_skipped rfl rfl rfl rfl ?_
          refine atm_skipped rfl rfl rfl rfl ?_
          refine atm_skipped rfl rfl rfl rfl ?_
          refine atm_skipped rfl rfl rfl rfl ?_
          refine atm_skipped rfl rfl rfl rfl ?_
          refine atm_skipped rfl rfl rfl rfl ?_
          refine atm_sti rfl rfl rfl rfl (sti_pure hT rfl) ?_
          refine atm_nil ?_
          refine n_then ?_
          refine at_false rfl rfl ?_
          refine at_skip ?_
          refine n_block ?_
          refine n_then ?_
          refine at_region ?_
          refine at_sti rfl rfl rfl (sti_pure hT rfl) ?_
          refine at_int (z' := (((k + 1) : Nat) : Int)) (wrapN (by omega) (by omega)) ?_
          refine at_sti rfl rfl rfl (sti_pure hT rfl) ?_
          refine at_nil ?_
          refine n_then ?_
          exact at_back2 (k + 1, _) (by dsimp only; omega) ⟨rfl, trivial⟩ ⟨rfl, rfl, rfl, rfl, rfl, rfl, rfl, trivial⟩ (.cons .head (.cons .head .nil)) ⟨Has.pure (⟨by omega, by (try rw [List.set_set]); refine up_step hinv9.2 ((upP_at ‹ds[k]? = some _›).trans (congrArg some ?_)); exact up_none (by omega)⟩), trivial⟩ (HasAll.drop 1)
      · have hc41 := Int.not_lt.1 (of_decide_eq_false hc41)
        refine at_exit ?_
        refine x_then ?_
        refine x_then ?_
        refine x_block ?_
        refine n_then ?_
        refine at_seq ?_
        refine at_region ?_
        refine at_sti rfl rfl rfl (sti_pure hT rfl) ?_
        refine at_sti rfl rfl rfl (sti_pure hT rfl) ?_
        refine at_call (callFunc_enter Try.func16 rfl rfl) (eval_spec _ _ _ _ _ ds _ (by omega) (by omega)) rfl rfl rfl rfl rfl .nil ⟨Has.of (.tail _ (.head _)), Has.of (.tail _ (.tail _ (.head _))), trivial⟩ fun _ => ?_
        refine at_sti rfl rfl rfl (sti_pure hT rfl) ?_
        refine at_sti rfl rfl rfl (sti_pure hT rfl) ?_
        refine at_sti rfl rfl rfl (sti_pure hT rfl) ?_
        refine at_sti rfl rfl rfl (sti_pure hT rfl) ?_
        refine at_sti rfl rfl rfl (sti_pure hT rfl) ?_
        refine at_nil ?_
        refine n_then ?_
        refine at_seq ?_
        refine at_region ?_
        refine at_sti rfl rfl rfl (sti_pure hT rfl) ?_
        refine at_sti rfl rfl rfl (sti_pure hT rfl) ?_
        refine at_call_lend (callFunc_enter Try.func16 rfl rfl) (eval_spec _ _ _ _ _ cur _ (by omega) (by omega)) rfl rfl rfl rfl rfl .nil (.cons .head .nil) (lends_row lends_nil) ⟨Has.of (.tail _ (.tail _ (.head _))), Has.of (.head _), trivial⟩ (fun _ => True) (fun _ _ _ _ => trivial) fun _ _ => ?_
        refine at_sti rfl rfl rfl (sti_pure hT rfl) ?_
        refine at_sti rfl rfl rfl (sti_pure hT rfl) ?_
        refine at_sti rfl rfl rfl (sti_pure hT rfl) ?_
        refine at_sti rfl rfl rfl (sti_pure hT rfl) ?_
        refine at_sti rfl rfl rfl (sti_pure hT rfl) ?_
        refine at_nil ?_
        refine n_then ?_
        refine at_seq ?_
        refine at_seq ?_
        refine at_region ?_
        refine at_sti rfl rfl rfl (sti_pure hT rfl) ?_
        refine at_sti rfl rfl rfl (sti_pure hT rfl) ?_
        refine at_sti rfl rfl rfl (sti_pure hT rfl) ?_
        refine at_case (fun hg87 => ?_) (fun hg87 => ?_)
        · have hg87 := eq_of_beq hg87
          refine at_sti rfl rfl rfl (sti_pure hT rfl) ?_
          refine at_sti rfl rfl rfl (sti_pure hT rfl) ?_
          refine at_sti rfl rfl rfl (sti_pure hT rfl) ?_
          refine at_sti rfl rfl rfl (sti_pure hT rfl) ?_
          refine at_case (fun hg91 => ?_) (fun hg91 => ?_)
          · have hg91 := eq_of_beq hg91
            refine at_sti rfl rfl rfl (sti_pure hT rfl) ?_
            refine at_sti rfl rfl rfl (sti_pure hT rfl) ?_
            refine at_sti rfl rfl rfl (sti_pure hT rfl) ?_
            refine at_sti rfl rfl rfl (sti_pure hT rfl) ?_
            refine at_nil ?_
            refine n_then ?_
            refine at_cond rfl (fun hc95 => ?_) (fun hc95 => ?_)
            · have hc95 := of_decide_eq_true hc95
              exact absurd (grows_le hgr (Prod.ext rfl hg87 : evalP p ds = ((evalP p ds).1, 0)) (Prod.ext rfl hg91 : evalP p cur = ((evalP p cur).1, 0)) (fun k => by rw [up_end (by omega) hinv9.2]; exact dimAt_up ds more k)) (by omega)
            · have hc95 := Int.not_lt.1 (of_decide_eq_false hc95)
              refine at_skip ?_
              refine n_then ?_
              refine at_seq ?_
              refine at_region ?_
              refine at_sti rfl rfl rfl (sti_pure hT rfl) ?_
              refine at_sti rfl rfl rfl (sti_pure hT rfl) ?_
              refine at_sti rfl rfl rfl (sti_pure hT rfl) ?_
              refine at_sti rfl rfl rfl (sti_pure hT rfl) ?_
              refine at_sti rfl rfl rfl (sti_pure hT rfl) ?_
              refine at_case (fun hg100 => ?_) (fun hg100 => ?_)
              · have hg100 := bne_iff_ne.1 hg100
                refine at_skipped rfl rfl rfl ?_
                refine at_skipped rfl rfl rfl ?_
                refine at_skipped rfl rfl rfl ?_
                refine at_skipped rfl rfl rfl ?_
                refine at_skipped rfl rfl rfl ?_
                refine at_skipped rfl rfl rfl ?_
                refine at_skipped rfl rfl rfl ?_
                refine at_skipped rfl rfl rfl ?_
                refine at_skipped rfl rfl rfl ?_
                refine at_skipped rfl rfl rfl ?_
                refine at_skipped rfl rfl rfl ?_
                refine at_skipped rfl rfl rfl ?_
                refine at_skipped rfl rfl rfl ?_
                refine at_sti rfl rfl rfl (sti_pure hT rfl) ?_
                refine at_sti rfl rfl rfl (sti_pure hT rfl) ?_
                refine at_sti rfl rfl rfl (sti_pure hT rfl) ?_
                refine at_nil ?_
                refine n_then ?_
                refine at_ret ?_
                exact at_done1 () rfl rfl rfl .nil trivial
              · have hg100 := bne_eq_false_iff_eq.1 hg100
                refine at_sti rfl rfl rfl (sti_pure hT rfl) ?_
                refine at_sti rfl rfl rfl (sti_pure hT rfl) ?_
                refine at_bool (t' := true) (decide_eq_true (grows_pos hgr (Prod.ext rfl hg100 : evalP p ds = ((evalP p ds).1, 0)))) ?_
                refine at_sti rfl rfl rfl (sti_pure hT rfl) ?_
                refine at_sti rfl rfl rfl (sti_pure hT rfl) ?_
                refine at_sti rfl rfl rfl (sti_pure hT rfl) ?_
                refine at_call (callFunc_enter Try.func20 rfl rfl) (covers_spec _ _ _ _ (by omega)) rfl rfl rfl rfl rfl .nil ⟨Has.of (.tail _ (.head _)), trivial⟩ fun _ => ?_
                refine at_sti rfl rfl rfl (sti_pure hT rfl) ?_
                refine at_sti rfl rfl rfl (sti_pure hT rfl) ?_
                refine at_case (fun hg108 => ?_) (fun hg108 => ?_)
                · have hg108 := not_t hg108
                  refine at_skipped rfl rfl rfl ?_
                  refine at_skipped rfl rfl rfl ?_
                  refine at_skipped rfl rfl rfl ?_
                  refine at_sti rfl rfl rfl (sti_pure hT rfl) ?_
                  refine at_sti rfl rfl rfl (sti_pure hT rfl) ?_
                  refine at_sti rfl rfl rfl (sti_pure hT rfl) ?_
                  refine at_sti rfl rfl rfl (sti_pure hT rfl) ?_
                  refine at_sti rfl rfl rfl (sti_pure hT rfl) ?_
                  refine at_nil ?_
                  refine n_then ?_
                  refine at_ret ?_
                  exact at_done1 () rfl rfl rfl .nil trivial
                · have hg108 := not_f hg108
                  refine at_sti rfl rfl rfl (sti_pure hT rfl) ?_
                  refine at_sti rfl rfl rfl (sti_pure hT rfl) ?_
                  refine at_sti rfl rfl rfl (sti_pure hT rfl) ?_
                  refine at_bool (t' := true) (decide_eq_true (covers_le hg108 (Prod.ext rfl hg100 : evalP p ds = ((evalP p ds).1, 0)))) ?_
                  refine at_sti rfl rfl rfl (sti_pure hT rfl) ?_
                  refine at_sti rfl rfl rfl (sti_pure hT rfl) ?_
                  refine at_sti rfl rfl rfl (sti_pure hT rfl) ?_
                  refine at_sti rfl rfl rfl (sti_pure hT rfl) ?_
                  refine at_sti rfl rfl rfl (sti_pure hT rfl) ?_
                  refine at_nil ?_
                  refine n_then ?_
                  refine at_ret ?_
                  exact at_done1 () rfl rfl rfl .nil trivial
          · have hg91 := beq_eq_false_iff_ne.1 hg91
            refine at_skipped rfl rfl rfl ?_
            refine at_skipped rfl rfl rfl ?_
            refine at_skipped rfl rfl rfl ?_
            refine at_sti rfl rfl rfl (sti_pure hT rfl) ?_
            refine at_nil ?_
            refine n_then ?_
            refine at_false rfl rfl ?_
            refine at_skip ?_
            refine n_then ?_
            refine at_seq ?_
            refine at_region ?_
            refine at_sti rfl rfl rfl (sti_pure hT rfl) ?_
            refine at_sti rfl rfl rfl (sti_pure hT rfl) ?_
            refine at_sti rfl rfl rfl (sti_pure hT rfl) ?_
            refine at_sti rfl rfl rfl (sti_pure hT rfl) ?_
            refine at_sti rfl rfl rfl (sti_pure hT rfl) ?_
            refine at_case (fun hg100 => ?_) (fun hg100 => ?_)
            · have hg100 := bne_iff_ne.1 hg100
              refine at_skipped rfl rfl rfl ?_
              refine at_skipped rfl rfl rfl ?_
              refine at_skipped rfl rfl rfl ?_
              refine at_skipped rfl rfl rfl ?_
              refine at_skipped rfl rfl rfl ?_
              refine at_skipped rfl rfl rfl ?_
              refine at_skipped rfl rfl rfl ?_
              refine at_skipped rfl rfl rfl ?_
              refine at_skipped rfl rfl rfl ?_
              refine at_skipped rfl rfl rfl ?_
              refine at_skipped rfl rfl rfl ?_
              refine at_skipped rfl rfl rfl ?_
              refine at_skipped rfl rfl rfl ?_
              refine at_sti rfl rfl rfl (sti_pure hT rfl) ?_
              refine at_sti rfl rfl rfl (sti_pure hT rfl) ?_
              refine at_sti rfl rfl rfl (sti_pure hT rfl) ?_
              refine at_nil ?_
              refine n_then ?_
              refine at_ret ?_
              exact at_done1 () rfl rfl rfl .nil trivial
            · have hg100 := bne_eq_false_iff_eq.1 hg100
              refine at_sti rfl rfl rfl (sti_pure hT rfl) ?_
              refine at_sti rfl rfl rfl (sti_pure hT rfl) ?_
              refine at_bool (t' := true) (decide_eq_true (grows_pos hgr (Prod.ext rfl hg100 : evalP p ds = ((evalP p ds).1, 0)))) ?_
              refine at_sti rfl rfl rfl (sti_pure hT rfl) ?_
              refine at_sti rfl rfl rfl (sti_pure hT rfl) ?_
              refine at_sti rfl rfl rfl (sti_pure hT rfl) ?_
              refine at_call (callFunc_enter Try.func20 rfl rfl) (covers_spec _ _ _ _ (by omega)) rfl rfl rfl rfl rfl .nil ⟨Has.of (.tail _ (.head _)), trivial⟩ fun _ => ?_
              refine at_sti rfl rfl rfl (sti_pure hT rfl) ?_
              refine at_sti rfl rfl rfl (sti_pure hT rfl) ?_
              refine at_case (fun hg108 => ?_) (fun hg108 => ?_)
              · have hg108 := not_t hg108
                refine at_skipped rfl rfl rfl ?_
                refine at_skipped rfl rfl rfl ?_
                refine at_skipped rfl rfl rfl ?_
                refine at_sti rfl rfl rfl (sti_pure hT rfl) ?_
                refine at_sti rfl rfl rfl (sti_pure hT rfl) ?_
                refine at_sti rfl rfl rfl (sti_pure hT rfl) ?_
                refine at_sti rfl rfl rfl (sti_pure hT rfl) ?_
                refine at_sti rfl rfl rfl (sti_pure hT rfl) ?_
                refine at_nil ?_
                refine n_then ?_
                refine at_ret ?_
                exact at_done1 () rfl rfl rfl .nil trivial
              · have hg108 := not_f hg108
                refine at_sti rfl rfl rfl (sti_pure hT rfl) ?_
                refine at_sti rfl rfl rfl (sti_pure hT rfl) ?_
                refine at_sti rfl rfl rfl (sti_pure hT rfl) ?_
                refine at_bool (t' := true) (decide_eq_true (covers_le hg108 (Prod.ext rfl hg100 : evalP p ds = ((evalP p ds).1, 0)))) ?_
                refine at_sti rfl rfl rfl (sti_pure hT rfl) ?_
                refine at_sti rfl rfl rfl (sti_pure hT rfl) ?_
                refine at_sti rfl rfl rfl (sti_pure hT rfl) ?_
                refine at_sti rfl rfl rfl (sti_pure hT rfl) ?_
                refine at_sti rfl rfl rfl (sti_pure hT rfl) ?_
                refine at_nil ?_
                refine n_then ?_
                refine at_ret ?_
                exact at_done1 () rfl rfl rfl .nil trivial
        · have hg87 := beq_eq_false_iff_ne.1 hg87
          refine at_skipped rfl rfl rfl ?_
          refine at_skipped rfl rfl rfl ?_
          refine at_sti rfl rfl rfl (sti_pure hT rfl) ?_
          refine at_sti rfl rfl rfl (sti_pure hT rfl) ?_
          refine at_skipped rfl rfl rfl ?_
          refine at_skipped rfl rfl rfl ?_
          refine at_skipped rfl rfl rfl ?_
          refine at_sti rfl rfl rfl (sti_pure hT rfl) ?_
          refine at_nil ?_
          refine n_then ?_
          refine at_false rfl rfl ?_
          refine at_skip ?_
          refine n_then ?_
          refine at_seq ?_
          refine at_region ?_
          refine at_sti rfl rfl rfl (sti_pure hT rfl) ?_
          refine at_sti rfl rfl rfl (sti_pure hT rfl) ?_
          refine at_sti rfl rfl rfl (sti_pure hT rfl) ?_
          refine at_sti rfl rfl rfl (sti_pure hT rfl) ?_
          refine at_sti rfl rfl rfl (sti_pure hT rfl) ?_
          refine at_case (fun hg100 => ?_) (fun hg100 => ?_)
          · have hg100 := bne_iff_ne.1 hg100
            refine at_skipped rfl rfl rfl ?_
            refine at_skipped rfl rfl rfl ?_
            refine at_skipped rfl rfl rfl ?_
            refine at_skipped rfl rfl rfl ?_
            refine at_skipped rfl rfl rfl ?_
            refine at_skipped rfl rfl rfl ?_
            refine at_skipped rfl rfl rfl ?_
            refine at_skipped rfl rfl rfl ?_
            refine at_skipped rfl rfl rfl ?_
            refine at_skipped rfl rfl rfl ?_
            refine at_skipped rfl rfl rfl ?_
            refine at_skipped rfl rfl rfl ?_
            refine at_skipped rfl rfl rfl ?_
            refine at_sti rfl rfl rfl (sti_pure hT rfl) ?_
            refine at_sti rfl rfl rfl (sti_pure hT rfl) ?_
            refine at_sti rfl rfl rfl (sti_pure hT rfl) ?_
            refine at_nil ?_
            refine n_then ?_
            refine at_ret ?_
            exact at_done1 () rfl rfl rfl .nil trivial
          · have hg100 := bne_eq_false_iff_eq.1 hg100
            refine at_sti rfl rfl rfl (sti_pure hT rfl) ?_
            refine at_sti rfl rfl rfl (sti_pure hT rfl) ?_
            refine at_bool (t' := true) (decide_eq_true (grows_pos hgr (Prod.ext rfl hg100 : evalP p ds = ((evalP p ds).1, 0)))) ?_
            refine at_sti rfl rfl rfl (sti_pure hT rfl) ?_
            refine at_sti rfl rfl rfl (sti_pure hT rfl) ?_
            refine at_sti rfl rfl rfl (sti_pure hT rfl) ?_
            refine at_call (callFunc_enter Try.func20 rfl rfl) (covers_spec _ _ _ _ (by omega)) rfl rfl rfl rfl rfl .nil ⟨Has.of (.tail _ (.head _)), trivial⟩ fun _ => ?_
            refine at_sti rfl rfl rfl (sti_pure hT rfl) ?_
            refine at_sti rfl rfl rfl (sti_pure hT rfl) ?_
            refine at_case (fun hg108 => ?_) (fun hg108 => ?_)
            · have hg108 := not_t hg108
              refine at_skipped rfl rfl rfl ?_
              refine at_skipped rfl rfl rfl ?_
              refine at_skipped rfl rfl rfl ?_
              refine at_sti rfl rfl rfl (sti_pure hT rfl) ?_
              refine at_sti rfl rfl rfl (sti_pure hT rfl) ?_
              refine at_sti rfl rfl rfl (sti_pure hT rfl) ?_
              refine at_sti rfl rfl rfl (sti_pure hT rfl) ?_
              refine at_sti rfl rfl rfl (sti_pure hT rfl) ?_
              refine at_nil ?_
              refine n_then ?_
              refine at_ret ?_
              exact at_done1 () rfl rfl rfl .nil trivial
            · have hg108 := not_f hg108
              refine at_sti rfl rfl rfl (sti_pure hT rfl) ?_
              refine at_sti rfl rfl rfl (sti_pure hT rfl) ?_
              refine at_sti rfl rfl rfl (sti_pure hT rfl) ?_
              refine at_bool (t' := true) (decide_eq_true (covers_le hg108 (Prod.ext rfl hg100 : evalP p ds = ((evalP p ds).1, 0)))) ?_
              refine at_sti rfl rfl rfl (sti_pure hT rfl) ?_
              refine at_sti rfl rfl rfl (sti_pure hT rfl) ?_
              refine at_sti rfl rfl rfl (sti_pure hT rfl) ?_
              refine at_sti rfl rfl rfl (sti_pure hT rfl) ?_
              refine at_sti rfl rfl rfl (sti_pure hT rfl) ?_
              refine at_nil ?_
              refine n_then ?_
              refine at_ret ?_
              exact at_done1 () rfl rfl rfl .nil trivial

theorem own : ownKnob Try.prog.godebug = none := by kernel_rfl
theorem laid : laidOutB Try.prog = true := by kernel_rfl

set_option maxRecDepth 100000 in
theorem lifted (os : Os) (started : os.Started) (H : Type) (enc : TypeId × Value → H) :
    ReturnsInHanded {} Try.checked os 6 .any (Rows.polyGrowsSpec.pre6 enc Try.prog Try.f6 Rows.polyGrowsRow.domain false) (Rows.polyGrowsSpec.post enc Try.prog Try.f6 false true false false) := by
  refine returnsInHanded_of_change_sized (C := Try.checked) own started (by kernel_rfl) Try.func6
    (ChangeSpec.witness6 (enc := enc) (C := Try.checked) false ⟨#[], #[.slice none 0 0, .agg #[.slice none 0 0, .slice none 0 0], .int .i64 0], []⟩ 8 (by kernel_rfl) (by kernel_rfl) (by kernel_rfl) (by kernel_rfl)) ?_
  intro W base args ds gs before hval0 hW _ hsz _
  have hval : ∀ (j : Nat) t v, Try.f6.params[j]? = some t → args[j]? = some v → Value.okWide Try.prog W .any base t v := hval0
  have hW' := hW
  obtain ⟨p, q, hA0, hV, rfl, hfz, hnd⟩ := hW
  have hA : DataW.TrodAll enc Try.prog W 0 (fun _ => true) true Try.f6.params.toList args.toList ds p := hA0
  rw [Try.params6] at hA hval
  obtain ⟨v0, vs0, d0, ds0, p0, q0, hargs, rfl, rfl, h0, r0⟩ := trodAll_cons hA
  obtain ⟨v1, vs1, d1, ds1, p1, q1, rfl, rfl, rfl, h1, r1⟩ := trodAll_cons r0
  obtain ⟨v2, vs2, d2, ds2, p2, q2, rfl, rfl, rfl, h2, r2⟩ := trodAll_cons r1
  obtain ⟨rfl, rfl, rfl⟩ := trodAll_nil r2
  obtain rfl : args = #[v0, v1, v2] := by cases args; simp_all
  obtain ⟨rfl, rfl⟩ := trodVars_none hV
  obtain ⟨a0, e0, f0⟩ := Opens.arg (opens_slice' (T := monoTy) (b := 16) Try.underlying22 (by kernel_rfl) (by kernel_rfl) opens_mono) h0 hsz (j := 0) rfl rfl
  obtain ⟨A0, L0, C0, rfl⟩ := okWide_slice Try.underlying22 (hval 0 22 v0 rfl rfl)
  have e0 : [Value.slice A0 L0 C0] = [Value.slice a0.addr a0.list.length a0.cap] := e0
  simp only [List.cons.injEq, and_true, Value.slice.injEq] at e0
  obtain ⟨rfl, rfl, rfl⟩ := e0
  obtain ⟨a1, e1, f1⟩ := Opens.arg opens_sides h1 hsz (j := 1) rfl rfl
  obtain ⟨cs1, rfl, _⟩ := okWide_struct Try.underlying35 (hval 1 35 v1 rfl rfl)
  obtain rfl : cs1 = #[.slice a1.dims.addr a1.dims.list.length a1.dims.cap, .slice a1.more.addr a1.more.list.length a1.more.cap] := by
    apply Array.ext'
    exact e1
  obtain ⟨a2, e2, f2⟩ := Opens.arg (opens_int Try.underlying2) h2 hsz (j := 2) rfl rfl
  obtain ⟨n2, rfl⟩ := okWide_int Try.underlying2 (hval 2 2 v2 rfl rfl)
  obtain rfl : a2 = n2 := by simpa [Value.cells, eq_comm] using e2
  clear hA0 hval0
  simp only [List.append_nil] at hW'
  refine (calls_of_spec (law_spec a0.addr a0.cap a0.list (by have := f0.2; dsimp only [Fact.pure] at this; omega) a1.dims.addr a1.dims.cap a1.dims.list (by have := f1.1.2; dsimp only [Fact.pure] at this; omega) a1.more.addr a1.more.cap a1.more.list (by have := f1.2.1.2; dsimp only [Fact.pure] at this; omega) a2) (All.cons f0.1.1 (All.cons f1.1.1.1 (All.cons f1.2.1.1.1 fun g hg => by simp at hg)))).mono fun e W' ⟨he, hb⟩ => ?_
  subst he
  exact ⟨_, rfl, law_post (tb := 4) hW' rfl rfl rfl Try.underlying4 laid (by rw [Try.params6]; exact fun t ht => by simp at ht; rcases ht with rfl | rfl | rfl <;> exact ⟨by kernel_rfl, by decide +kernel⟩) hb⟩

theorem over : Rows.polyGrowsRow.holds Try.pinned (OpenSpec.ofChange Rows.polyGrowsSpec) :=
  OpenClaim.holds_of_wide 6 Try.f6 rfl rfl rfl rfl rfl rfl rfl ⟨rfl, rfl, rfl, rfl, rfl⟩ rfl rfl rfl rfl rfl (by kernel_rfl) Try.func6 (by kernel_rfl)
    (of_decide_eq_true (by kernel_rfl)) (by unfold Func.isWrapper; first | (rw [if_pos (by decide +kernel)]; kernel_rfl) | (rw [if_neg (by decide +kernel)]; exact ⟨rfl, rfl⟩))
    (fun os started H enc _ => lifted os started H enc)

theorem proved : Rows.PolyGrowsSaid :=
  over
#print axioms proved
end Go.Proofs.Ytndjaogjkchpaaa.polyGrows
