/- Contract of windrowref02.whole (the walk is printed by wip/gen). -/
import Derived.Test.YtndjaogjkchpaaaPBase
namespace Go.Proofs.Ytndjaogjkchpaaa
open Go.RowKit
def wholeP (l : List Mono) : List Mono × Int := if rightB (l.filter nz) then (l.filter nz, 0) else ([], 21)
theorem filter_one (x : Mono) : [x].filter nz = if x.n = 0 then [] else [x] := by
  by_cases h : x.n = 0 <;> simp [List.filter_cons, nz, h]
set_option maxRecDepth 100000 in
theorem whole_spec (A : Option Addr) (c : Nat) (l : List Mono) (hl : l.length ≤ 1000000) : Spec Try.prog 35 [.slice A l.length c] [] [monoE.sl (.slice A l.length c) l] (fun (x : Option Addr × Nat) => .tuple #[.slice x.1 (wholeP l).1.length x.2, .int .i64 (wholeP l).2]) (fun (x : Option Addr × Nat) => [monoE.row (.slice x.1 (wholeP l).1.length x.2) 39 (wholeP l).1]) (fun _ => []) := by
  have hT := polyT_ok
  refine spec_of Try.func35 rfl Try.ntmps35 rfl ?_
  intro β hM
  refine at_seq ?_
  refine at_region ?_
  refine at_sti rfl rfl rfl (sti_pure hT rfl) ?_
  refine at_sti rfl rfl rfl (sti_pure hT rfl) ?_
  refine at_nil ?_
  refine n_then ?_
  refine at_seq ?_
  refine at_region ?_
  refine at_sti rfl rfl rfl (sti_pure hT rfl) ?_
  refine at_nil ?_
  refine n_then ?_
  refine at_seq ?_
  refine at_seq ?_
  refine at_nilrow' (t := 39) monoE ?_
  refine at_region ?_
  refine at_sti rfl rfl rfl (sti_pure hT rfl) ?_
  refine at_nil ?_
  refine n_then ?_
  refine at_block ?_
  refine at_loop (ι := Nat × List Mono × Option Addr × Nat) (fun ⟨i, out, B, cb⟩ => [(0, .slice A l.length c), (4, .slice B out.length cb), (5, .int .i64 (i : Nat))]) (fun ⟨i, out, B, cb⟩ => [monoE.row (.slice B out.length cb) 39 out]) (fun ⟨i, out, B, cb⟩ => [Fact.pure (i ≤ l.length ∧ out = (l.take i).filter nz), monoE.sl (.slice A l.length c) l]) (fun ⟨i, out, B, cb⟩ => l.length - i) (0, [], none, 0) ⟨rfl, rfl, rfl, trivial⟩ (.cons .head .nil) ⟨Has.pure (by simp), Has.of (.head _), trivial⟩ ?_
  rintro ⟨i, out, B, cb⟩
  dsimp only
  refine at_know (Has.of (.head _)) fun hinv3 => ?_
  have hol : out.length ≤ l.length := by rw [hinv3.2]; exact Nat.le_trans (List.length_filter_le _ _) (by simp; omega)
  refine at_seq ?_
  refine at_seq ?_
  refine at_region ?_
  refine at_sti rfl rfl rfl (sti_pure hT rfl) ?_
  refine at_sti rfl rfl rfl (sti_pure hT rfl) ?_
  refine at_sti rfl rfl rfl (sti_pure hT rfl) ?_
  refine at_sti rfl rfl rfl (sti_pure hT rfl) ?_
  refine at_nil ?_
  refine n_then ?_
  refine at_cond rfl (fun hc9 => ?_) (fun hc9 => ?_)
  · have hc9 := of_decide_eq_true hc9
    refine at_skip ?_
    refine n_then ?_
    refine at_seq ?_
    refine at_block ?_
    refine at_seq ?_
    refine at_region ?_
    refine at_sti rfl rfl rfl (sti_pure hT rfl) ?_
    refine at_sti rfl rfl rfl (sti_pure hT rfl) ?_
    obtain ⟨x1, hx2⟩ : ∃ x, l[i]? = some x := ⟨_, List.getElem?_eq_getElem (by omega)⟩
    refine at_sti rfl rfl rfl (sti_index hT (k := i) (reads_fact (Has.of (.tail _ (.head _)))) rfl rfl rfl rfl rfl rfl rfl (by omega)) ?_
    refine at_sti rfl rfl rfl (sti_pure hT rfl) ?_
    refine at_sti rfl rfl rfl (sti_load1 hT (Reads.knows (reads_fact (Has.of (.tail _ (.head _)))) hx2 0) rfl rfl rfl rfl rfl) ?_
    refine at_sti rfl rfl rfl (sti_pure hT rfl) ?_
    refine at_nil ?_
    refine n_then ?_
    refine at_cond rfl (fun hc17 => ?_) (fun hc17 => ?_)
    · have hc17 := bne_iff_ne.1 hc17
      refine at_region ?_
      refine at_sti rfl rfl rfl (sti_pure hT rfl) ?_
      refine at_sti rfl rfl rfl (sti_pure hT rfl) ?_
      refine at_sti rfl rfl rfl (sti_pure hT rfl) ?_
      refine at_sti rfl rfl rfl (sti_index hT (k := i) (reads_fact (Has.of (.tail _ (.head _)))) rfl rfl rfl rfl rfl rfl rfl (by omega)) ?_
      refine at_sti rfl rfl rfl (sti_loadN hT (Reads.knows (reads_fact (Has.of (.tail _ (.head _)))) hx2 0) rfl rfl rfl rfl rfl) ?_
      refine at_one (m := x1) rfl rfl rfl rfl rfl fun b3 => ?_
      refine at_app (.tail .head) (reads_obj .head rfl) rfl rfl rfl rfl rfl rfl rfl (by simp) (by simp only [List.length_singleton]; omega) fun A4 c5 => ?_
      refine at_sti rfl rfl rfl (sti_pure hT rfl) ?_
      refine at_nil ?_
      refine n_block ?_
      refine n_then ?_
      refine at_region ?_
      refine at_sti rfl rfl rfl (sti_pure hT rfl) ?_
      refine at_sti rfl rfl rfl (sti_pure hT rfl) ?_
      refine at_int (z' := (((i + 1) : Nat) : Int)) (wrapN (by omega) (by omega)) ?_
      refine at_sti rfl rfl rfl (sti_pure hT rfl) ?_
      refine at_nil ?_
      refine n_then ?_
      exact at_back (i + 1, _, _, _) (by dsimp only; omega) ⟨rfl, rfl, rfl, trivial⟩ (.cons .head .nil) ⟨Has.pure (by refine ⟨by omega, ?_⟩; rw [List.take_add_one, hx2, List.filter_append, ← hinv3.2, Option.toList_some, filter_one]; simp [hc17]), Has.of (.tail _ (.head _)), trivial⟩
    · have hc17 := bne_eq_false_iff_eq.1 hc17
      refine at_skip ?_
      refine n_block ?_
      refine n_then ?_
      refine at_region ?_
      refine at_sti rfl rfl rfl (sti_pure hT rfl) ?_
      refine at_sti rfl rfl rfl (sti_pure hT rfl) ?_
      refine at_int (z' := (((i + 1) : Nat) : Int)) (wrapN (by omega) (by omega)) ?_
      refine at_sti rfl rfl rfl (sti_pure hT rfl) ?_
      refine at_nil ?_
      refine n_then ?_
      exact at_back (i + 1, _, _, _) (by dsimp only; omega) ⟨rfl, rfl, rfl, trivial⟩ (.cons .head .nil) ⟨Has.pure (by refine ⟨by omega, ?_⟩; rw [List.take_add_one, hx2, List.filter_append, ← hinv3.2, Option.toList_some, filter_one]; simp [hc17]), Has.of (.tail _ (.head _)), trivial⟩
  · have hc9 := Int.not_lt.1 (of_decide_eq_false hc9)
    refine at_exit ?_
    refine x_then ?_
    refine x_then ?_
    refine x_block ?_
    refine n_then ?_
    refine at_seq ?_
    refine at_seq ?_
    refine at_region ?_
    refine at_sti rfl rfl rfl (sti_pure hT rfl) ?_
    refine at_call_lend (callFunc_enter Try.func21 rfl rfl) (refRight_spec _ _ out (by omega)) rfl rfl rfl rfl rfl .nil (.cons .head .nil) (lends_row lends_nil) ⟨Has.of (.head _), trivial⟩ (fun _ => True) (fun _ _ _ _ => trivial) fun _ _ => ?_
    refine at_sti rfl rfl rfl (sti_pure hT rfl) ?_
    refine at_nil ?_
    refine n_then ?_
    refine at_cond rfl (fun hc27 => ?_) (fun hc27 => ?_)
    · have hc27 := not_t hc27
      refine at_seq ?_
      refine at_region ?_
      refine at_sti rfl rfl rfl (sti_pure hT rfl) ?_
      refine at_sti rfl rfl rfl (sti_pure hT rfl) ?_
      refine at_nil ?_
      refine n_then ?_
      refine at_ret ?_
      refine r_then ?_
      have hw : wholeP l = ([], 21) := by
        have e : out = l.filter nz := by rw [hinv3.2, List.take_of_length_le (by omega)]
        unfold wholeP; rw [← e, hc27]; rfl
      rw [hw]
      refine at_nilrow' (t := 39) monoE ?_
      exact at_done2 (none, 0) rfl rfl rfl rfl (.cons .head .nil) trivial
    · have hc27 := not_f hc27
      refine at_skip ?_
      refine n_then ?_
      refine at_seq ?_
      refine at_region ?_
      refine at_sti rfl rfl rfl (sti_pure hT rfl) ?_
      refine at_sti rfl rfl rfl (sti_pure hT rfl) ?_
      refine at_sti rfl rfl rfl (sti_pure hT rfl) ?_
      refine at_nil ?_
      refine n_then ?_
      refine at_ret ?_
      have hw : wholeP l = (out, 0) := by
        have e : out = l.filter nz := by rw [hinv3.2, List.take_of_length_le (by omega)]
        unfold wholeP; rw [← e, hc27]; rfl
      rw [hw]
      exact at_done2 (B, cb) rfl rfl rfl rfl (.cons .head .nil) trivial

end Go.Proofs.Ytndjaogjkchpaaa
