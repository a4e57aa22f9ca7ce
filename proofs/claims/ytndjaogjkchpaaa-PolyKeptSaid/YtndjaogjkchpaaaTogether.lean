/- Contracts of windrowref02.together, Mul (the walks are printed by wip/gen). -/
import Derived.Test.YtndjaogjkchpaaaPut
import Derived.Test.YtndjaogjkchpaaaWhole
import Derived.Test.YtndjaogjkchpaaaMul
namespace Go.Proofs.Ytndjaogjkchpaaa
open Go.RowKit

def putAll (acc : List Mono) (l : List Mono) : List Mono := l.foldl (fun a m => putP m a) acc
def scaleM (s : Int) (m : Mono) : Mono := ⟨wrap64 (s * m.n), m.e0, m.e1, m.e2, m.e3, m.e4, m.e5⟩
theorem putP_len (m : Mono) : ∀ l : List Mono, (putP m l).length ≤ l.length + 1
  | [] => by simp [putP]
  | a :: l => by
    have := putP_len m l
    rw [putP]
    split
    · simp; omega
    · split <;> simp
theorem putAll_len : ∀ (l acc : List Mono), (putAll acc l).length ≤ acc.length + l.length
  | [], acc => by simp [putAll]
  | m :: l, acc => by
    have h1 := putAll_len l (putP m acc)
    have h2 := putP_len m acc
    have e : putAll acc (m :: l) = putAll (putP m acc) l := rfl
    rw [e, List.length_cons]
    omega
theorem putAll_append (acc l k : List Mono) : putAll acc (l ++ k) = putAll (putAll acc l) k := List.foldl_append
theorem putAll_snoc (acc l : List Mono) (m : Mono) : putAll acc (l ++ [m]) = putP m (putAll acc l) := by rw [putAll_append]; rfl
def togetherP (p q : List Mono) (s : Int) : List Mono × Int := if rightB p && rightB q then wholeP (putAll (putAll [] p) (q.map (scaleM s))) else ([], 20)
def refMulP (p q : List Mono) : List Mono × Int := if rightB p && rightB q then wholeP (putAll [] (p.flatMap fun a => q.map (mulM a))) else ([], 20)
theorem flat_len (q : List Mono) : ∀ l : List Mono, (l.flatMap fun a => q.map (mulM a)).length = l.length * q.length
  | [] => by simp
  | a :: l => by
    rw [List.flatMap_cons, List.length_append, flat_len q l, List.length_map, List.length_cons, Nat.add_mul, Nat.one_mul, Nat.add_comm]
theorem refMul_len {p q : List Mono} {i : Nat} (hi : i ≤ p.length) : (putAll [] ((p.take i).flatMap fun a => q.map (mulM a))).length ≤ i * q.length := by
  refine Nat.le_trans (putAll_len _ _) ?_
  rw [flat_len, List.length_take, Nat.min_eq_left hi]
  simp
theorem right_len {p : List Mono} (h : rightB p = true) : p.length ≤ 48 := by
  unfold rightB at h
  simp at h
  exact h.1
set_option maxRecDepth 100000 in
theorem together_spec (A B : Option Addr) (c d : Nat) (p q : List Mono) (s : Int) (hpl : p.length ≤ 140737488355328) (hql : q.length ≤ 140737488355328) : Spec Try.prog 45 [.slice A p.length c, .slice B q.length d, .int .i64 s] [] [monoE.sl (.slice A p.length c) p, monoE.sl (.slice B q.length d) q] (fun (x : Option Addr × Nat) => .tuple #[.slice x.1 (togetherP p q s).1.length x.2, .int .i64 (togetherP p q s).2]) (fun (x : Option Addr × Nat) => [monoE.row (.slice x.1 (togetherP p q s).1.length x.2) 39 (togetherP p q s).1]) (fun _ => []) := by
  have hT := polyT_ok
  refine spec_of Try.func45 rfl Try.ntmps45 rfl ?_
  intro β hM
  refine at_seq ?_
  refine at_region ?_
  refine at_sti rfl rfl rfl (sti_pure hT rfl) ?_
  refine at_sti rfl rfl rfl (sti_pure hT rfl) ?_
  refine at_nil ?_
  refine n_then ?_
  refine at_seq ?_
  refine at_seq ?_
  refine at_region ?_
  refine at_sti rfl rfl rfl (sti_pure hT rfl) ?_
  refine at_call_lend (callFunc_enter Try.func21 rfl rfl) (refRight_spec _ _ p (by omega)) rfl rfl rfl rfl rfl .nil .nil lends_nil ⟨Has.of (.head _), trivial⟩ (fun _ => True) (fun _ _ _ _ => trivial) fun _ _ => ?_
  refine at_sti rfl rfl rfl (sti_pure hT rfl) ?_
  refine at_sti rfl rfl rfl (sti_pure hT rfl) ?_
  refine at_case (fun hg14 => ?_) (fun hg14 => ?_)
  · have hg14 := not_t hg14
    have hrp := hg14
    refine at_skipped rfl rfl rfl ?_
    refine at_skipped rfl rfl rfl ?_
    refine at_skipped rfl rfl rfl ?_
    refine at_sti rfl rfl rfl (sti_pure hT rfl) ?_
    refine at_nil ?_
    refine n_then ?_
    refine at_true rfl rfl ?_
    refine at_seq ?_
    refine at_region ?_
    refine at_sti rfl rfl rfl (sti_pure hT rfl) ?_
    refine at_sti rfl rfl rfl (sti_pure hT rfl) ?_
    refine at_nil ?_
    refine n_then ?_
    refine at_ret ?_
    refine r_then ?_
    have hw : togetherP p q s = ([], 20) := by unfold togetherP; simp [hrp]
    rw [hw]
    refine at_nilrow' (t := 39) monoE ?_
    exact at_done2 (none, 0) rfl rfl rfl rfl (.cons .head .nil) trivial
  · have hg14 := not_f hg14
    have hrp := hg14
    refine at_sti rfl rfl rfl (sti_pure hT rfl) ?_
    refine at_call_lend (callFunc_enter Try.func21 rfl rfl) (refRight_spec _ _ q (by omega)) rfl rfl rfl rfl rfl .nil .nil lends_nil ⟨Has.of (.tail _ (.head _)), trivial⟩ (fun _ => True) (fun _ _ _ _ => trivial) fun _ _ => ?_
    refine at_sti rfl rfl rfl (sti_pure hT rfl) ?_
    refine at_sti rfl rfl rfl (sti_pure hT rfl) ?_
    refine at_nil ?_
    refine n_then ?_
    refine at_cond rfl (fun hc18 => ?_) (fun hc18 => ?_)
    · have hc18 := not_t hc18
      have hrq := hc18
      refine at_seq ?_
      refine at_region ?_
      refine at_sti rfl rfl rfl (sti_pure hT rfl) ?_
      refine at_sti rfl rfl rfl (sti_pure hT rfl) ?_
      refine at_nil ?_
      refine n_then ?_
      refine at_ret ?_
      refine r_then ?_
      have hw : togetherP p q s = ([], 20) := by unfold togetherP; simp [hrp, hrq]
      rw [hw]
      refine at_nilrow' (t := 39) monoE ?_
      exact at_done2 (none, 0) rfl rfl rfl rfl (.cons .head .nil) trivial
    · have hc18 := not_f hc18
      have hrq := hc18
      have hp := right_len hrp
      have hq := right_len hrq
      refine at_skip ?_
      refine n_then ?_
      refine at_seq ?_
      refine at_region ?_
      refine at_sti rfl rfl rfl (sti_pure hT rfl) ?_
      refine at_nil ?_
      refine n_then ?_
      refine at_seq ?_
      refine at_seq ?_
      refine at_nilrow' (t := 39) monoE ?_
      refine at_region ?_
      refine at_sti rfl rfl rfl (sti_pure hT rfl) ?_
      refine at_nil ?_
      refine n_then ?_
      refine at_block ?_
      refine at_loop (ι := Nat × List Mono × Option Addr × Nat) (fun ⟨i, cur, C, e⟩ => [(0, .slice A p.length c), (1, .slice B q.length d), (2, .int .i64 s), (8, .slice C cur.length e), (9, .int .i64 (i : Nat))]) (fun ⟨i, cur, C, e⟩ => [monoE.row (.slice C cur.length e) 39 cur]) (fun ⟨i, cur, C, e⟩ => [Fact.pure (i ≤ p.length ∧ cur = putAll [] (p.take i)), monoE.sl (.slice A p.length c) p, monoE.sl (.slice B q.length d) q]) (fun ⟨i, cur, C, e⟩ => p.length - i) (0, [], none, 0) ⟨rfl, rfl, rfl, rfl, rfl, trivial⟩ (.cons .head .nil) ⟨Has.pure (⟨by omega, by rfl⟩), Has.of (.head _), Has.of (.tail _ (.head _)), trivial⟩ ?_
      rintro ⟨i, cur, C, e⟩
      dsimp only
      refine at_know (Has.of (.head _)) fun hinv5 => ?_
      have hcl : cur.length ≤ i := by rw [hinv5.2]; exact Nat.le_trans (putAll_len _ _) (by simp; omega)
      refine at_seq ?_
      refine at_seq ?_
      refine at_region ?_
      refine at_sti rfl rfl rfl (sti_pure hT rfl) ?_
      refine at_sti rfl rfl rfl (sti_pure hT rfl) ?_
      refine at_sti rfl rfl rfl (sti_pure hT rfl) ?_
      refine at_sti rfl rfl rfl (sti_pure hT rfl) ?_
      refine at_nil ?_
      refine n_then ?_
      refine at_cond rfl (fun hc22 => ?_) (fun hc22 => ?_)
      · have hc22 := of_decide_eq_true hc22
        refine at_skip ?_
        refine n_then ?_
        refine at_seq ?_
        refine at_block ?_
        refine at_region ?_
        refine at_sti rfl rfl rfl (sti_pure hT rfl) ?_
        refine at_sti rfl rfl rfl (sti_pure hT rfl) ?_
        refine at_sti rfl rfl rfl (sti_pure hT rfl) ?_
        obtain ⟨x1, hx2⟩ : ∃ x, p[i]? = some x := ⟨_, List.getElem?_eq_getElem (by omega)⟩
        refine at_sti rfl rfl rfl (sti_index hT (k := i) (reads_fact (Has.of (.tail _ (.head _)))) rfl rfl rfl rfl rfl rfl rfl (by omega)) ?_
        refine at_sti rfl rfl rfl (sti_loadN hT (Reads.knows (reads_fact (Has.of (.tail _ (.head _)))) hx2 0) rfl rfl rfl rfl rfl) ?_
        refine at_call (callFunc_enter Try.func34 rfl rfl) (put_spec _ _ cur x1 (by omega)) rfl rfl rfl rfl rfl (.cons .head .nil) trivial fun ⟨B3, c4⟩ => ?_
        refine at_sti rfl rfl rfl (sti_pure hT rfl) ?_
        refine at_nil ?_
        refine n_block ?_
        refine n_then ?_
        refine at_region ?_
        refine at_sti rfl rfl rfl (sti_pure hT rfl) ?_
        refine at_sti rfl rfl rfl (sti_pure hT rfl) ?_
        refine at_int (z' := (((i + 1) : Nat) : Int)) (wrapN (by omega) (by omega)) ?_
        refine at_sti rfl rfl rfl (sti_pure hT rfl) ?_
        refine at_nil ?_
        refine n_then ?_
        exact at_back (i + 1, _, _, _) (by dsimp only; omega) ⟨rfl, rfl, rfl, rfl, rfl, trivial⟩ (.cons .head .nil) ⟨Has.pure (by refine ⟨by omega, ?_⟩; rw [List.take_add_one, ‹p[i]? = some _›, Option.toList_some, putAll_snoc, ← hinv5.2]), Has.of (.tail _ (.head _)), Has.of (.tail _ (.tail _ (.head _))), trivial⟩
      · have hc22 := Int.not_lt.1 (of_decide_eq_false hc22)
        refine at_exit ?_
        refine x_then ?_
        refine x_then ?_
        refine x_block ?_
        refine n_then ?_
        refine at_seq ?_
        refine at_seq ?_
        refine at_region ?_
        refine at_sti rfl rfl rfl (sti_pure hT rfl) ?_
        refine at_nil ?_
        refine n_then ?_
        refine at_block ?_
        refine at_loop (ι := Nat × List Mono × Option Addr × Nat) (fun ⟨k, cur, C, e⟩ => [(1, .slice B q.length d), (2, .int .i64 s), (8, .slice C cur.length e), (10, .int .i64 (k : Nat))]) (fun ⟨k, cur, C, e⟩ => [monoE.row (.slice C cur.length e) 39 cur]) (fun ⟨k, cur, C, e⟩ => [Fact.pure (k ≤ q.length ∧ cur = putAll (putAll [] p) ((q.take k).map (scaleM s))), monoE.sl (.slice B q.length d) q]) (fun ⟨k, cur, C, e⟩ => q.length - k) (0, cur, C, e) ⟨rfl, rfl, rfl, rfl, trivial⟩ (.cons .head .nil) ⟨Has.pure (⟨by omega, by rw [hinv5.2, List.take_of_length_le (by omega)]; rfl⟩), Has.of (.tail _ (.tail _ (.head _))), trivial⟩ ?_
        rintro ⟨k, cur, C, e⟩
        dsimp only
        refine at_know (Has.of (.head _)) fun hinv9 => ?_
        have hcl : cur.length ≤ p.length + k := by rw [hinv9.2]; refine Nat.le_trans (putAll_len _ _) ?_; have := putAll_len p []; simp at this ⊢; omega
        refine at_seq ?_
        refine at_seq ?_
        refine at_region ?_
        refine at_sti rfl rfl rfl (sti_pure hT rfl) ?_
        refine at_sti rfl rfl rfl (sti_pure hT rfl) ?_
        refine at_sti rfl rfl rfl (sti_pure hT rfl) ?_
        refine at_sti rfl rfl rfl (sti_pure hT rfl) ?_
        refine at_nil ?_
        refine n_then ?_
        refine at_cond rfl (fun hc34 => ?_) (fun hc34 => ?_)
        · have hc34 := of_decide_eq_true hc34
          refine at_skip ?_
          refine n_then ?_
          refine at_seq ?_
          refine at_block ?_
          refine at_mix _ _ [(true, 0), (true, 1), (true, 2), (true, 3), (true, 4), (true, 5), (true, 6), (true, 7), (true, 8), (true, 9), (true, 10), (true, 11), (true, 12), (true, 13), (false, 14), (true, 15)] mixes (by decide +kernel) .nil HasAll.self ?_
          refine atm_sti rfl rfl rfl rfl (sti_pure hT rfl) ?_
          refine atm_sti rfl rfl rfl rfl (sti_pure hT rfl) ?_
          refine atm_sti rfl rfl rfl rfl (sti_pure hT rfl) ?_
          refine atm_sti rfl rfl rfl rfl (sti_pure hT rfl) ?_
          obtain ⟨x5, hx6⟩ : ∃ x, q[k]? = some x := ⟨_, List.getElem?_eq_getElem (by omega)⟩
          refine atm_sti rfl rfl rfl rfl (sti_index hT (k := k) (reads_fact (Has.of (.tail _ (.head _)))) rfl rfl rfl rfl rfl rfl rfl (by omega)) ?_
          refine atm_sti rfl rfl rfl rfl (sti_pure hT rfl) ?_
          refine atm_sti rfl rfl rfl rfl (sti_load1 hT (Reads.knows (reads_fact (Has.of (.tail _ (.head _)))) hx6 0) rfl rfl rfl rfl rfl) ?_
          refine atm_sti rfl rfl rfl rfl (sti_pure hT rfl) ?_
          refine atm_sti rfl rfl rfl rfl (sti_pure hT rfl) ?_
          refine atm_sti rfl rfl rfl rfl (sti_pure hT rfl) ?_
          refine atm_sti rfl rfl rfl rfl (sti_index hT (k := k) (reads_fact (Has.of (.tail _ (.head _)))) rfl rfl rfl rfl rfl rfl rfl (by omega)) ?_
          refine atm_sti rfl rfl rfl rfl (sti_pure hT rfl) ?_
          refine atm_sti rfl rfl rfl rfl (sti_loadN hT (Reads.knows (reads_fact (Has.of (.tail _ (.head _)))) hx6 1) rfl rfl rfl rfl rfl) ?_
          refine atm_sti rfl rfl rfl rfl (sti_build rfl rfl (built_ne _ _ _ _ _ _ _)) ?_
          refine atm_op (o := _) rfl ?_
          refine at_call (callFunc_enter Try.func34 rfl rfl) (put_spec _ _ cur ⟨_, _, _, _, _, _, _⟩ (by omega)) rfl rfl rfl rfl rfl (.cons .head .nil) trivial fun ⟨B7, c8⟩ => ?_
          refine atm_go .nil ⟨Has.of (.head _), Has.of (.tail _ (.head _)), trivial⟩ ?_
          refine atm_sti rfl rfl rfl rfl (sti_pure hT rfl) ?_
          refine atm_nil ?_
          refine n_block ?_
          refine n_then ?_
          refine at_region ?_
          refine at_sti rfl rfl rfl (sti_pure hT rfl) ?_
          refine at_sti rfl rfl rfl (sti_pure hT rfl) ?_
          refine at_int (z' := (((k + 1) : Nat) : Int)) (wrapN (by omega) (by omega)) ?_
          refine at_sti rfl rfl rfl (sti_pure hT rfl) ?_
          refine at_nil ?_
          refine n_then ?_
          exact at_back (k + 1, _, _, _) (by dsimp only; omega) ⟨rfl, rfl, rfl, rfl, trivial⟩ (.cons .head .nil) ⟨Has.pure (by refine ⟨by omega, ?_⟩; rw [List.take_add_one, ‹q[k]? = some _›, Option.toList_some, List.map_append, List.map_singleton, putAll_snoc, ← hinv9.2, scaleM, ← wrap_eq]; rfl), Has.of (.tail _ (.head _)), trivial⟩
        · have hc34 := Int.not_lt.1 (of_decide_eq_false hc34)
          refine at_exit ?_
          refine x_then ?_
          refine x_then ?_
          refine x_block ?_
          refine n_then ?_
          refine at_seq ?_
          refine at_region ?_
          refine at_sti rfl rfl rfl (sti_pure hT rfl) ?_
          refine at_call_lend (callFunc_enter Try.func35 rfl rfl) (whole_spec _ _ cur (by omega)) rfl rfl rfl rfl rfl .nil (.cons .head .nil) (lends_row lends_nil) ⟨Has.of (.head _), trivial⟩ (fun _ => True) (fun _ _ _ _ => trivial) fun ⟨B9, c10⟩ _ => ?_
          refine at_sti rfl rfl rfl (sti_pure hT rfl) ?_
          refine at_sti rfl rfl rfl (sti_pure hT rfl) ?_
          refine at_sti rfl rfl rfl (sti_pure hT rfl) ?_
          refine at_sti rfl rfl rfl (sti_pure hT rfl) ?_
          refine at_nil ?_
          refine n_then ?_
          refine at_ret ?_
          have hw : togetherP p q s = wholeP cur := by unfold togetherP; rw [hrp, hrq, hinv9.2, List.take_of_length_le (by omega)]; rfl
          rw [hw]
          exact at_done2 (B9, c10) rfl rfl rfl rfl (.cons .head .nil) trivial

set_option maxRecDepth 100000 in
theorem refMul_spec (A B : Option Addr) (c d : Nat) (p q : List Mono) (hpl : p.length ≤ 140737488355328) (hql : q.length ≤ 140737488355328) : Spec Try.prog 14 [.slice A p.length c, .slice B q.length d] [] [monoE.sl (.slice A p.length c) p, monoE.sl (.slice B q.length d) q] (fun (x : Option Addr × Nat) => .tuple #[.slice x.1 (refMulP p q).1.length x.2, .int .i64 (refMulP p q).2]) (fun (x : Option Addr × Nat) => [monoE.row (.slice x.1 (refMulP p q).1.length x.2) 39 (refMulP p q).1]) (fun _ => []) := by
  have hT := polyT_ok
  refine spec_of Try.func14 rfl Try.ntmps14 rfl ?_
  intro β hM
  refine at_seq ?_
  refine at_region ?_
  refine at_sti rfl rfl rfl (sti_pure hT rfl) ?_
  refine at_sti rfl rfl rfl (sti_pure hT rfl) ?_
  refine at_nil ?_
  refine n_then ?_
  refine at_seq ?_
  refine at_seq ?_
  refine at_region ?_
  refine at_sti rfl rfl rfl (sti_pure hT rfl) ?_
  refine at_call_lend (callFunc_enter Try.func21 rfl rfl) (refRight_spec _ _ p (by omega)) rfl rfl rfl rfl rfl .nil .nil lends_nil ⟨Has.of (.head _), trivial⟩ (fun _ => True) (fun _ _ _ _ => trivial) fun _ _ => ?_
  refine at_sti rfl rfl rfl (sti_pure hT rfl) ?_
  refine at_sti rfl rfl rfl (sti_pure hT rfl) ?_
  refine at_case (fun hg14 => ?_) (fun hg14 => ?_)
  · have hg14 := not_t hg14
    have hrp := hg14
    refine at_skipped rfl rfl rfl ?_
    refine at_skipped rfl rfl rfl ?_
    refine at_skipped rfl rfl rfl ?_
    refine at_sti rfl rfl rfl (sti_pure hT rfl) ?_
    refine at_nil ?_
    refine n_then ?_
    refine at_true rfl rfl ?_
    refine at_seq ?_
    refine at_region ?_
    refine at_sti rfl rfl rfl (sti_pure hT rfl) ?_
    refine at_sti rfl rfl rfl (sti_pure hT rfl) ?_
    refine at_nil ?_
    refine n_then ?_
    refine at_ret ?_
    refine r_then ?_
    have hw : refMulP p q = ([], 20) := by unfold refMulP; simp [hrp]
    rw [hw]
    refine at_nilrow' (t := 39) monoE ?_
    exact at_done2 (none, 0) rfl rfl rfl rfl (.cons .head .nil) trivial
  · have hg14 := not_f hg14
    have hrp := hg14
    refine at_sti rfl rfl rfl (sti_pure hT rfl) ?_
    refine at_call_lend (callFunc_enter Try.func21 rfl rfl) (refRight_spec _ _ q (by omega)) rfl rfl rfl rfl rfl .nil .nil lends_nil ⟨Has.of (.tail _ (.head _)), trivial⟩ (fun _ => True) (fun _ _ _ _ => trivial) fun _ _ => ?_
    refine at_sti rfl rfl rfl (sti_pure hT rfl) ?_
    refine at_sti rfl rfl rfl (sti_pure hT rfl) ?_
    refine at_nil ?_
    refine n_then ?_
    refine at_cond rfl (fun hc18 => ?_) (fun hc18 => ?_)
    · have hc18 := not_t hc18
      have hrq := hc18
      refine at_seq ?_
      refine at_region ?_
      refine at_sti rfl rfl rfl (sti_pure hT rfl) ?_
      refine at_sti rfl rfl rfl (sti_pure hT rfl) ?_
      refine at_nil ?_
      refine n_then ?_
      refine at_ret ?_
      refine r_then ?_
      have hw : refMulP p q = ([], 20) := by unfold refMulP; simp [hrp, hrq]
      rw [hw]
      refine at_nilrow' (t := 39) monoE ?_
      exact at_done2 (none, 0) rfl rfl rfl rfl (.cons .head .nil) trivial
    · have hc18 := not_f hc18
      have hrq := hc18
      have hp := right_len hrp
      have hq := right_len hrq
      refine at_skip ?_
      refine n_then ?_
      refine at_seq ?_
      refine at_region ?_
      refine at_sti rfl rfl rfl (sti_pure hT rfl) ?_
      refine at_nil ?_
      refine n_then ?_
      refine at_seq ?_
      refine at_seq ?_
      refine at_nilrow' (t := 39) monoE ?_
      refine at_region ?_
      refine at_sti rfl rfl rfl (sti_pure hT rfl) ?_
      refine at_nil ?_
      refine n_then ?_
      refine at_block ?_
      refine at_loop (ι := Nat × List Mono × Option Addr × Nat) (fun ⟨i, cur, C, e⟩ => [(0, .slice A p.length c), (1, .slice B q.length d), (6, .slice C cur.length e), (7, .int .i64 (i : Nat))]) (fun ⟨i, cur, C, e⟩ => [monoE.row (.slice C cur.length e) 39 cur]) (fun ⟨i, cur, C, e⟩ => [Fact.pure (i ≤ p.length ∧ cur = putAll [] ((p.take i).flatMap fun a => q.map (mulM a))), monoE.sl (.slice A p.length c) p, monoE.sl (.slice B q.length d) q]) (fun ⟨i, cur, C, e⟩ => p.length - i) (0, [], none, 0) ⟨rfl, rfl, rfl, rfl, trivial⟩ (.cons .head .nil) ⟨Has.pure (⟨by omega, by rfl⟩), Has.of (.head _), Has.of (.tail _ (.head _)), trivial⟩ ?_
      rintro ⟨i, cur, C, e⟩
      dsimp only
      refine at_know (Has.of (.head _)) fun hinv5 => ?_
      have hcl : cur.length ≤ i * q.length := by rw [hinv5.2]; exact refMul_len (by omega)
      have hiq : i * q.length ≤ 48 * 48 := Nat.mul_le_mul (by omega) hq
      refine at_seq ?_
      refine at_seq ?_
      refine at_region ?_
      refine at_sti rfl rfl rfl (sti_pure hT rfl) ?_
      refine at_sti rfl rfl rfl (sti_pure hT rfl) ?_
      refine at_sti rfl rfl rfl (sti_pure hT rfl) ?_
      refine at_sti rfl rfl rfl (sti_pure hT rfl) ?_
      refine at_nil ?_
      refine n_then ?_
      refine at_cond rfl (fun hc22 => ?_) (fun hc22 => ?_)
      · have hc22 := of_decide_eq_true hc22
        refine at_skip ?_
        refine n_then ?_
        refine at_seq ?_
        refine at_block ?_
        refine at_seq ?_
        obtain ⟨y, hy⟩ : ∃ x, p[i]? = some x := ⟨_, List.getElem?_eq_getElem (by omega)⟩
        refine at_region ?_
        refine at_sti rfl rfl rfl (sti_pure hT rfl) ?_
        refine at_nil ?_
        refine n_then ?_
        refine at_block ?_
        refine at_loop (ι := Nat × List Mono × Option Addr × Nat) (fun ⟨k, cur', C', e'⟩ => [(0, .slice A p.length c), (1, .slice B q.length d), (6, .slice C' cur'.length e'), (7, .int .i64 (i : Nat)), (8, .int .i64 (k : Nat))]) (fun ⟨k, cur', C', e'⟩ => [monoE.row (.slice C' cur'.length e') 39 cur']) (fun ⟨k, cur', C', e'⟩ => [Fact.pure (k ≤ q.length ∧ cur' = putAll cur ((q.take k).map (mulM y))), monoE.sl (.slice A p.length c) p, monoE.sl (.slice B q.length d) q]) (fun ⟨k, cur', C', e'⟩ => q.length - k) (0, cur, C, e) ⟨rfl, rfl, rfl, rfl, rfl, trivial⟩ (.cons .head .nil) ⟨Has.pure (⟨by omega, by rfl⟩), Has.of (.tail _ (.head _)), Has.of (.tail _ (.tail _ (.head _))), trivial⟩ ?_
        rintro ⟨k, cur', C', e'⟩
        dsimp only
        refine at_know (Has.of (.head _)) fun hinv8 => ?_
        have hcl' : cur'.length ≤ cur.length + k := by rw [hinv8.2]; refine Nat.le_trans (putAll_len _ _) (by simp; omega)
        refine at_seq ?_
        refine at_seq ?_
        refine at_region ?_
        refine at_sti rfl rfl rfl (sti_pure hT rfl) ?_
        refine at_sti rfl rfl rfl (sti_pure hT rfl) ?_
        refine at_sti rfl rfl rfl (sti_pure hT rfl) ?_
        refine at_sti rfl rfl rfl (sti_pure hT rfl) ?_
        refine at_nil ?_
        refine n_then ?_
        refine at_cond rfl (fun hc28 => ?_) (fun hc28 => ?_)
        · have hc28 := of_decide_eq_true hc28
          refine at_skip ?_
          refine n_then ?_
          refine at_seq ?_
          refine at_block ?_
          refine at_seq ?_
          refine at_mix _ _ [(true, 0), (true, 1), (true, 2), (true, 3), (true, 4), (true, 5), (true, 6), (true, 7), (true, 8), (true, 9), (true, 10), (true, 11), (false, 12), (false, 13)] mixes (by decide +kernel) (.cons .head .nil) HasAll.self ?_
          refine atm_sti rfl rfl rfl rfl (sti_pure hT rfl) ?_
          refine atm_sti rfl rfl rfl rfl (sti_pure hT rfl) ?_
          refine atm_sti rfl rfl rfl rfl (sti_index hT (k := i) (reads_fact (Has.of (.tail _ (.head _)))) rfl rfl rfl rfl rfl rfl rfl (by omega)) ?_
          refine atm_sti rfl rfl rfl rfl (sti_pure hT rfl) ?_
          refine atm_sti rfl rfl rfl rfl (sti_load1 hT (Reads.knows (reads_fact (Has.of (.tail _ (.head _)))) hy 0) rfl rfl rfl rfl rfl) ?_
          refine atm_sti rfl rfl rfl rfl (sti_pure hT rfl) ?_
          refine atm_sti rfl rfl rfl rfl (sti_pure hT rfl) ?_
          obtain ⟨x1, hx2⟩ : ∃ x, q[k]? = some x := ⟨_, List.getElem?_eq_getElem (by omega)⟩
          refine atm_sti rfl rfl rfl rfl (sti_index hT (k := k) (reads_fact (Has.of (.tail _ (.tail _ (.head _))))) rfl rfl rfl rfl rfl rfl rfl (by omega)) ?_
          refine atm_sti rfl rfl rfl rfl (sti_pure hT rfl) ?_
          refine atm_sti rfl rfl rfl rfl (sti_load1 hT (Reads.knows (reads_fact (Has.of (.tail _ (.tail _ (.head _))))) hx2 0) rfl rfl rfl rfl rfl) ?_
          refine atm_sti rfl rfl rfl rfl (sti_pure hT rfl) ?_
          refine atm_sti rfl rfl rfl rfl (sti_build rfl rfl (built_n _)) ?_
          refine atm_op (o := _) rfl ?_
          refine at_alloc rfl rfl rfl rfl monoZero rfl fun b3 => ?_
          refine atm_go (.cons (.tail .head) .nil) ⟨Has.of (.head _), Has.of (.tail _ (.head _)), Has.of (.tail _ (.tail _ (.head _))), trivial⟩ ?_
          refine atm_op (o := _) rfl ?_
          refine at_store hT rfl rfl rfl rfl rfl .head rfl rfl rfl rfl rfl ?_
          refine atm_go (.cons (.tail .head) .nil) ⟨Has.of (.head _), Has.of (.tail _ (.head _)), Has.of (.tail _ (.tail _ (.head _))), trivial⟩ ?_
          refine atm_nil ?_
          refine n_then ?_
          refine at_seq ?_
          refine at_seq ?_
          refine at_region ?_
          refine at_sti rfl rfl rfl (sti_pure hT rfl) ?_
          refine at_nil ?_
          refine n_then ?_
          refine at_block ?_
          refine at_rounds 7 ?_
          refine at_round ?_
          refine at_seq ?_
          refine at_seq ?_
          refine at_region ?_
          refine at_sti rfl rfl rfl (sti_pure hT rfl) ?_
          refine at_sti rfl rfl rfl (sti_pure hT rfl) ?_
          refine at_nil ?_
          refine n_then ?_
          refine at_true rfl (by decide) ?_
          refine at_skip ?_
          refine n_then ?_
          refine at_seq ?_
          refine at_block ?_
          refine at_mix _ _ [(true, 0), (true, 1), (true, 2), (true, 3), (true, 4), (true, 5), (true, 6), (true, 7), (true, 8), (true, 9), (true, 10), (true, 11), (true, 12), (true, 13), (true, 14), (true, 15), (true, 16), (true, 17), (false, 18)] mixes (by decide +kernel) (.cons (.tail .head) .nil) HasAll.self ?_
          refine atm_sti rfl rfl rfl rfl (sti_pure hT rfl) ?_
          refine atm_sti rfl rfl rfl rfl (sti_pure hT rfl) ?_
          refine atm_sti rfl rfl rfl rfl (sti_pure hT rfl) ?_
          refine atm_sti rfl rfl rfl rfl (sti_pure hT rfl) ?_
          refine atm_sti rfl rfl rfl rfl (sti_index hT (k := i) (reads_fact (Has.of (.tail _ (.head _)))) rfl rfl rfl rfl rfl rfl rfl (by omega)) ?_
          refine atm_sti rfl rfl rfl rfl (sti_pure hT rfl) ?_
          refine atm_sti rfl rfl rfl rfl (sti_index_arr hT (k := 0) rfl rfl rfl rfl rfl rfl (by omega)) ?_
          refine atm_sti rfl rfl rfl rfl (sti_load1 hT (Reads.knows (reads_fact (Has.of (.tail _ (.head _)))) hy 1) rfl rfl rfl rfl rfl) ?_
          refine atm_sti rfl rfl rfl rfl (sti_pure hT rfl) ?_
          refine atm_sti rfl rfl rfl rfl (sti_pure hT rfl) ?_
          refine atm_sti rfl rfl rfl rfl (sti_pure hT rfl) ?_
          refine atm_sti rfl rfl rfl rfl (sti_index hT (k := k) (reads_fact (Has.of (.tail _ (.tail _ (.head _))))) rfl rfl rfl rfl rfl rfl rfl (by omega)) ?_
          refine atm_sti rfl rfl rfl rfl (sti_pure hT rfl) ?_
          refine atm_sti rfl rfl rfl rfl (sti_index_arr hT (k := 0) rfl rfl rfl rfl rfl rfl (by omega)) ?_
          refine atm_sti rfl rfl rfl rfl (sti_load1 hT (Reads.knows (reads_fact (Has.of (.tail _ (.tail _ (.head _))))) hx2 1) rfl rfl rfl rfl rfl) ?_
          refine atm_sti rfl rfl rfl rfl (sti_pure hT rfl) ?_
          refine at_int (wrap_u8 _ _) ?_
          refine atm_sti rfl rfl rfl rfl (sti_pure hT rfl) ?_
          refine atm_sti rfl rfl rfl rfl (sti_index_arr hT (k := 0) rfl rfl rfl rfl rfl rfl (by omega)) ?_
          refine atm_op (o := _) rfl ?_
          refine at_store hT rfl rfl rfl rfl rfl .head rfl rfl rfl rfl rfl ?_
          refine atm_go (.cons (.tail .head) .nil) ⟨Has.of (.head _), Has.of (.tail _ (.head _)), Has.of (.tail _ (.tail _ (.head _))), trivial⟩ ?_
          refine atm_nil ?_
          refine n_block ?_
          refine n_then ?_
          refine at_region ?_
          refine at_sti rfl rfl rfl (sti_pure hT rfl) ?_
          refine at_sti rfl rfl rfl (sti_pure hT rfl) ?_
          refine at_int (z' := ((1 : Nat) : Int)) (wrapN (by omega) (by omega)) ?_
          refine at_sti rfl rfl rfl (sti_pure hT rfl) ?_
          refine at_nil ?_
          refine n_then ?_
          refine at_round ?_
          refine at_seq ?_
          refine at_seq ?_
          refine at_region ?_
          refine at_sti rfl rfl rfl (sti_pure hT rfl) ?_
          refine at_sti rfl rfl rfl (sti_pure hT rfl) ?_
          refine at_nil ?_
          refine n_then ?_
          refine at_true rfl (by decide) ?_
          refine at_skip ?_
          refine n_then ?_
          refine at_seq ?_
          refine at_block ?_
          refine at_mix _ _ [(true, 0), (true, 1), (true, 2), (true, 3), (true, 4), (true, 5), (true, 6), (true, 7), (true, 8), (true, 9), (true, 10), (true, 11), (true, 12), (true, 13), (true, 14), (true, 15), (true, 16), (true, 17), (false, 18)] mixes (by decide +kernel) (.cons (.tail .head) .nil) HasAll.self ?_
          refine atm_sti rfl rfl rfl rfl (sti_pure hT rfl) ?_
          refine atm_sti rfl rfl rfl rfl (sti_pure hT rfl) ?_
          refine atm_sti rfl rfl rfl rfl (sti_pure hT rfl) ?_
          refine atm_sti rfl rfl rfl rfl (sti_pure hT rfl) ?_
          refine atm_sti rfl rfl rfl rfl (sti_index hT (k := i) (reads_fact (Has.of (.tail _ (.head _)))) rfl rfl rfl rfl rfl rfl rfl (by omega)) ?_
          refine atm_sti rfl rfl rfl rfl (sti_pure hT rfl) ?_
          refine atm_sti rfl rfl rfl rfl (sti_index_arr hT (k := 1) rfl rfl rfl rfl rfl rfl (by omega)) ?_
          refine atm_sti rfl rfl rfl rfl (sti_load1 hT (Reads.knows (reads_fact (Has.of (.tail _ (.head _)))) hy 2) rfl rfl rfl rfl rfl) ?_
          refine atm_sti rfl rfl rfl rfl (sti_pure hT rfl) ?_
          refine atm_sti rfl rfl rfl rfl (sti_pure hT rfl) ?_
          refine atm_sti rfl rfl rfl rfl (sti_pure hT rfl) ?_
          refine atm_sti rfl rfl rfl rfl (sti_index hT (k := k) (reads_fact (Has.of (.tail _ (.tail _ (.head _))))) rfl rfl rfl rfl rfl rfl rfl (by omega)) ?_
          refine atm_sti rfl rfl rfl rfl (sti_pure hT rfl) ?_
          refine atm_sti rfl rfl rfl rfl (sti_index_arr hT (k := 1) rfl rfl rfl rfl rfl rfl (by omega)) ?_
          refine atm_sti rfl rfl rfl rfl (sti_load1 hT (Reads.knows (reads_fact (Has.of (.tail _ (.tail _ (.head _))))) hx2 2) rfl rfl rfl rfl rfl) ?_
          refine atm_sti rfl rfl rfl rfl (sti_pure hT rfl) ?_
          refine at_int (wrap_u8 _ _) ?_
          refine atm_sti rfl rfl rfl rfl (sti_pure hT rfl) ?_
          refine atm_sti rfl rfl rfl rfl (sti_index_arr hT (k := 1) rfl rfl rfl rfl rfl rfl (by omega)) ?_
          refine atm_op (o := _) rfl ?_
          refine at_store hT rfl rfl rfl rfl rfl .head rfl rfl rfl rfl rfl ?_
          refine atm_go (.cons (.tail .head) .nil) ⟨Has.of (.head _), Has.of (.tail _ (.head _)), Has.of (.tail _ (.tail _ (.head _))), trivial⟩ ?_
          refine atm_nil ?_
          refine n_block ?_
          refine n_then ?_
          refine at_region ?_
          refine at_sti rfl rfl rfl (sti_pure hT rfl) ?_
          refine at_sti rfl rfl rfl (sti_pure hT rfl) ?_
          refine at_int (z' := ((2 : Nat) : Int)) (wrapN (by omega) (by omega)) ?_
          refine at_sti rfl rfl rfl (sti_pure hT rfl) ?_
          refine at_nil ?_
          refine n_then ?_
          refine at_round ?_
          refine at_seq ?_
          refine at_seq ?_
          refine at_region ?_
          refine at_sti rfl rfl rfl (sti_pure hT rfl) ?_
          refine at_sti rfl rfl rfl (sti_pure hT rfl) ?_
          refine at_nil ?_
          refine n_then ?_
          refine at_true rfl (by decide) ?_
          refine at_skip ?_
          refine n_then ?_
          refine at_seq ?_
          refine at_block ?_
          refine at_mix _ _ [(true, 0), (true, 1), (true, 2), (true, 3), (true, 4), (true, 5), (true, 6), (true, 7), (true, 8), (true, 9), (true, 10), (true, 11), (true, 12), (true, 13), (true, 14), (true, 15), (true, 16), (true, 17), (false, 18)] mixes (by decide +kernel) (.cons (.tail .head) .nil) HasAll.self ?_
          refine atm_sti rfl rfl rfl rfl (sti_pure hT rfl) ?_
          refine atm_sti rfl rfl rfl rfl (sti_pure hT rfl) ?_
          refine atm_sti rfl rfl rfl rfl (sti_pure hT rfl) ?_
          refine atm_sti rfl rfl rfl rfl (sti_pure hT rfl) ?_
          refine atm_sti rfl rfl rfl rfl (sti_index hT (k := i) (reads_fact (Has.of (.tail _ (.head _)))) rfl rfl rfl rfl rfl rfl rfl (by omega)) ?_
          refine atm_sti rfl rfl rfl rfl (sti_pure hT rfl) ?_
          refine atm_sti rfl rfl rfl rfl (sti_index_arr hT (k := 2) rfl rfl rfl rfl rfl rfl (by omega)) ?_
          refine atm_sti rfl rfl rfl rfl (sti_load1 hT (Reads.knows (reads_fact (Has.of (.tail _ (.head _)))) hy 3) rfl rfl rfl rfl rfl) ?_
          refine atm_sti rfl rfl rfl rfl (sti_pure hT rfl) ?_
          refine atm_sti rfl rfl rfl rfl (sti_pure hT rfl) ?_
          refine atm_sti rfl rfl rfl rfl (sti_pure hT rfl) ?_
          refine atm_sti rfl rfl rfl rfl (sti_index hT (k := k) (reads_fact (Has.of (.tail _ (.tail _ (.head _))))) rfl rfl rfl rfl rfl rfl rfl (by omega)) ?_
          refine atm_sti rfl rfl rfl rfl (sti_pure hT rfl) ?_
          refine atm_sti rfl rfl rfl rfl (sti_index_arr hT (k := 2) rfl rfl rfl rfl rfl rfl (by omega)) ?_
          refine atm_sti rfl rfl rfl rfl (sti_load1 hT (Reads.knows (reads_fact (Has.of (.tail _ (.tail _ (.head _))))) hx2 3) rfl rfl rfl rfl rfl) ?_
          refine atm_sti rfl rfl rfl rfl (sti_pure hT rfl) ?_
          refine at_int (wrap_u8 _ _) ?_
          refine atm_sti rfl rfl rfl rfl (sti_pure hT rfl) ?_
          refine atm_sti rfl rfl rfl rfl (sti_index_arr hT (k := 2) rfl rfl rfl rfl rfl rfl (by omega)) ?_
          refine atm_op (o := _) rfl ?_
          refine at_store hT rfl rfl rfl rfl rfl .head rfl rfl rfl rfl rfl ?_
          refine atm_go (.cons (.tail .head) .nil) ⟨Has.of (.head _), Has.of (.tail _ (.head _)), Has.of (.tail _ (.tail _ (.head _))), trivial⟩ ?_
          refine atm_nil ?_
          refine n_block ?_
          refine n_then ?_
          refine at_region ?_
          refine at_sti rfl rfl rfl (sti_pure hT rfl) ?_
          refine at_sti rfl rfl rfl (sti_pure hT rfl) ?_
          refine at_int (z' := ((3 : Nat) : Int)) (wrapN (by omega) (by omega)) ?_
          refine at_sti rfl rfl rfl (sti_pure hT rfl) ?_
          refine at_nil ?_
          refine n_then ?_
          refine at_round ?_
          refine at_seq ?_
          refine at_seq ?_
          refine at_region ?_
          refine at_sti rfl rfl rfl (sti_pure hT rfl) ?_
          refine at_sti rfl rfl rfl (sti_pure hT rfl) ?_
          refine at_nil ?_
          refine n_then ?_
          refine at_true rfl (by decide) ?_
          refine at_skip ?_
          refine n_then ?_
          refine at_seq ?_
          refine at_block ?_
          refine at_mix _ _ [(true, 0), (true, 1), (true, 2), (true, 3), (true, 4), (true, 5), (true, 6), (true, 7), (true, 8), (true, 9), (true, 10), (true, 11), (true, 12), (true, 13), (true, 14), (true, 15), (true, 16), (true, 17), (false, 18)] mixes (by decide +kernel) (.cons (.tail .head) .nil) HasAll.self ?_
          refine atm_sti rfl rfl rfl rfl (sti_pure hT rfl) ?_
          refine atm_sti rfl rfl rfl rfl (sti_pure hT rfl) ?_
          refine atm_sti rfl rfl rfl rfl (sti_pure hT rfl) ?_
          refine atm_sti rfl rfl rfl rfl (sti_pure hT rfl) ?_
          refine atm_sti rfl rfl rfl rfl (sti_index hT (k := i) (reads_fact (Has.of (.tail _ (.head _)))) rfl rfl rfl rfl rfl rfl rfl (by omega)) ?_
          refine atm_sti rfl rfl rfl rfl (sti_pure hT rfl) ?_
          refine atm_sti rfl rfl rfl rfl (sti_index_arr hT (k := 3) rfl rfl rfl rfl rfl rfl (by omega)) ?_
          refine atm_sti rfl rfl rfl rfl (sti_load1 hT (Reads.knows (reads_fact (Has.of (.tail _ (.head _)))) hy 4) rfl rfl rfl rfl rfl) ?_
          refine atm_sti rfl rfl rfl rfl (sti_pure hT rfl) ?_
          refine atm_sti rfl rfl rfl rfl (sti_pure hT rfl) ?_
          refine atm_sti rfl rfl rfl rfl (sti_pure hT rfl) ?_
          refine atm_sti rfl rfl rfl rfl (sti_index hT (k := k) (reads_fact (Has.of (.tail _ (.tail _ (.head _))))) rfl rfl rfl rfl rfl rfl rfl (by omega)) ?_
          refine atm_sti rfl rfl rfl rfl (sti_pure hT rfl) ?_
          refine atm_sti rfl rfl rfl rfl (sti_index_arr hT (k := 3) rfl rfl rfl rfl rfl rfl (by omega)) ?_
          refine atm_sti rfl rfl rfl rfl (sti_load1 hT (Reads.knows (reads_fact (Has.of (.tail _ (.tail _ (.head _))))) hx2 4) rfl rfl rfl rfl rfl) ?_
          refine atm_sti rfl rfl rfl rfl (sti_pure hT rfl) ?_
          refine at_int (wrap_u8 _ _) ?_
          refine atm_sti rfl rfl rfl rfl (sti_pure hT rfl) ?_
          refine atm_sti rfl rfl rfl rfl (sti_index_arr hT (k := 3) rfl rfl rfl rfl rfl rfl (by omega)) ?_
          refine atm_op (o := _) rfl ?_
          refine at_store hT rfl rfl rfl rfl rfl .head rfl rfl rfl rfl rfl ?_
          refine atm_go (.cons (.tail .head) .nil) ⟨Has.of (.head _), Has.of (.tail _ (.head _)), Has.of (.tail _ (.tail _ (.head _))), trivial⟩ ?_
          refine atm_nil ?_
          refine n_block ?_
          refine n_then ?_
          refine at_region ?_
          refine at_sti rfl rfl rfl (sti_pure hT rfl) ?_
          refine at_sti rfl rfl rfl (sti_pure hT rfl) ?_
          refine at_int (z' := ((4 : Nat) : Int)) (wrapN (by omega) (by omega)) ?_
          refine at_sti rfl rfl rfl (sti_pure hT rfl) ?_
          refine at_nil ?_
          refine n_then ?_
          refine at_round ?_
          refine at_seq ?_
          refine at_seq ?_
          refine at_region ?_
          refine at_sti rfl rfl rfl (sti_pure hT rfl) ?_
          refine at_sti rfl rfl rfl (sti_pure hT rfl) ?_
          refine at_nil ?_
          refine n_then ?_
          refine at_true rfl (by decide) ?_
          refine at_skip ?_
          refine n_then ?_
          refine at_seq ?_
          refine at_block ?_
          refine at_mix _ _ [(true, 0), (true, 1), (true, 2), (true, 3), (true, 4), (true, 5), (true, 6), (true, 7), (true, 8), (true, 9), (true, 10), (true, 11), (true, 12), (true, 13), (true, 14), (true, 15), (true, 16), (true, 17), (false, 18)] mixes (by decide +kernel) (.cons (.tail .head) .nil) HasAll.self ?_
          refine atm_sti rfl rfl rfl rfl (sti_pure hT rfl) ?_
          refine atm_sti rfl rfl rfl rfl (sti_pure hT rfl) ?_
          refine atm_sti rfl rfl rfl rfl (sti_pure hT rfl) ?_
          refine atm_sti rfl rfl rfl rfl (sti_pure hT rfl) ?_
          refine atm_sti rfl rfl rfl rfl (sti_index hT (k := i) (reads_fact (Has.of (.tail _ (.head _)))) rfl rfl rfl rfl rfl rfl rfl (by omega)) ?_
          refine atm_sti rfl rfl rfl rfl (sti_pure hT rfl) ?_
          refine atm_sti rfl rfl rfl rfl (sti_index_arr hT (k := 4) rfl rfl rfl rfl rfl rfl (by omega)) ?_
          refine atm_sti rfl rfl rfl rfl (sti_load1 hT (Reads.knows (reads_fact (Has.of (.tail _ (.head _)))) hy 5) rfl rfl rfl rfl rfl) ?_
          refine atm_sti rfl rfl rfl rfl (sti_pure hT rfl) ?_
          refine atm_sti rfl rfl rfl rfl (sti_pure hT rfl) ?_
          refine atm_sti rfl rfl rfl rfl (sti_pure hT rfl) ?_
          refine atm_sti rfl rfl rfl rfl (sti_index hT (k := k) (reads_fact (Has.of (.tail _ (.tail _ (.head _))))) rfl rfl rfl rfl rfl rfl rfl (by omega)) ?_
          refine atm_sti rfl rfl rfl rfl (sti_pure hT rfl) ?_
          refine atm_sti rfl rfl rfl rfl (sti_index_arr hT (k := 4) rfl rfl rfl rfl rfl rfl (by omega)) ?_
          refine atm_sti rfl rfl rfl rfl (sti_load1 hT (Reads.knows (reads_fact (Has.of (.tail _ (.tail _ (.head _))))) hx2 5) rfl rfl rfl rfl rfl) ?_
          refine atm_sti rfl rfl rfl rfl (sti_pure hT rfl) ?_
          refine at_int (wrap_u8 _ _) ?_
          refine atm_sti rfl rfl rfl rfl (sti_pure hT rfl) ?_
          refine atm_sti rfl rfl rfl rfl (sti_index_arr hT (k := 4) rfl rfl rfl rfl rfl rfl (by omega)) ?_
          refine atm_op (o := _) rfl ?_
          refine at_store hT rfl rfl rfl rfl rfl .head rfl rfl rfl rfl rfl ?_
          refine atm_go (.cons (.tail .head) .nil) ⟨Has.of (.head _), Has.of (.tail _ (.head _)), Has.of (.tail _ (.tail _ (.head _))), trivial⟩ ?_
          refine atm_nil ?_
          refine n_block ?_
          refine n_then ?_
          refine at_region ?_
          refine at_sti rfl rfl rfl (sti_pure hT rfl) ?_
          refine at_sti rfl rfl rfl (sti_pure hT rfl) ?_
          refine at_int (z' := ((5 : Nat) : Int)) (wrapN (by omega) (by omega)) ?_
          refine at_sti rfl rfl rfl (sti_pure hT rfl) ?_
          refine at_nil ?_
          refine n_then ?_
          refine at_round ?_
          refine at_seq ?_
          refine at_seq ?_
          refine at_region ?_
          refine at_sti rfl rfl rfl (sti_pure hT rfl) ?_
          refine at_sti rfl rfl rfl (sti_pure hT rfl) ?_
          refine at_nil ?_
          refine n_then ?_
          refine at_true rfl (by decide) ?_
          refine at_skip ?_
          refine n_then ?_
          refine at_seq ?_
          refine at_block ?_
          refine at_mix _ _ [(true, 0), (true, 1), (true, 2), (true, 3), (true, 4), (true, 5), (true, 6), (true, 7), (true, 8), (true, 9), (true, 10), (true, 11), (true, 12), (true, 13), (true, 14), (true, 15), (true, 16), (true, 17), (false, 18)] mixes (by decide +kernel) (.cons (.tail .head) .nil) HasAll.self ?_
          refine atm_sti rfl rfl rfl rfl (sti_pure hT rfl) ?_
          refine atm_sti rfl rfl rfl rfl (sti_pure hT rfl) ?_
          refine atm_sti rfl rfl rfl rfl (sti_pure hT rfl) ?_
          refine atm_sti rfl rfl rfl rfl (sti_pure hT rfl) ?_
          refine atm_sti rfl rfl rfl rfl (sti_index hT (k := i) (reads_fact (Has.of (.tail _ (.head _)))) rfl rfl rfl rfl rfl rfl rfl (by omega)) ?_
          refine atm_sti rfl rfl rfl rfl (sti_pure hT rfl) ?_
          refine atm_sti rfl rfl rfl rfl (sti_index_arr hT (k := 5) rfl rfl rfl rfl rfl rfl (by omega)) ?_
          refine atm_sti rfl rfl rfl rfl (sti_load1 hT (Reads.knows (reads_fact (Has.of (.tail _ (.head _)))) hy 6) rfl rfl rfl rfl rfl) ?_
          refine atm_sti rfl rfl rfl rfl (sti_pure hT rfl) ?_
          refine atm_sti rfl rfl rfl rfl (sti_pure hT rfl) ?_
          refine atm_sti rfl rfl rfl rfl (sti_pure hT rfl) ?_
          refine atm_sti rfl rfl rfl rfl (sti_index hT (k := k) (reads_fact (Has.of (.tail _ (.tail _ (.head _))))) rfl rfl rfl rfl rfl rfl rfl (by omega)) ?_
          refine atm_sti rfl rfl rfl rfl (sti_pure hT rfl) ?_
          refine atm_sti rfl rfl rfl rfl (sti_index_arr hT (k := 5) rfl rfl rfl rfl rfl rfl (by omega)) ?_
          refine atm_sti rfl rfl rfl rfl (sti_load1 hT (Reads.knows (reads_fact (Has.of (.tail _ (.tail _ (.head _))))) hx2 6) rfl rfl rfl rfl rfl) ?_
          refine atm_sti rfl rfl rfl rfl (sti_pure hT rfl) ?_
          refine at_int (wrap_u8 _ _) ?_
          refine atm_sti rfl rfl rfl rfl (sti_pure hT rfl) ?_
          refine atm_sti rfl rfl rfl rfl (sti_index_arr hT (k := 5) rfl rfl rfl rfl rfl rfl (by omega)) ?_
          refine atm_op (o := _) rfl ?_
          refine at_store hT rfl rfl rfl rfl rfl .head rfl rfl rfl rfl rfl ?_
          refine atm_go (.cons (.tail .head) .nil) ⟨Has.of (.head _), Has.of (.tail _ (.head _)), Has.of (.tail _ (.tail _ (.head _))), trivial⟩ ?_
          refine atm_nil ?_
          refine n_block ?_
          refine n_then ?_
          refine at_region ?_
          refine at_sti rfl rfl rfl (sti_pure hT rfl) ?_
          refine at_sti rfl rfl rfl (sti_pure hT rfl) ?_
          refine at_int (z' := ((6 : Nat) : Int)) (wrapN (by omega) (by omega)) ?_
          refine at_sti rfl rfl rfl (sti_pure hT rfl) ?_
          refine at_nil ?_
          refine n_then ?_
          refine at_round ?_
          refine at_seq ?_
          refine at_seq ?_
          refine at_region ?_
          refine at_sti rfl rfl rfl (sti_pure hT rfl) ?_
          refine at_sti rfl rfl rfl (sti_pure hT rfl) ?_
          refine at_nil ?_
          refine n_then ?_
          refine at_false rfl (by decide) ?_
          refine at_exit ?_
          refine x_then ?_
          refine x_then ?_
          refine x_block ?_
          refine n_then ?_
          refine at_region ?_
          refine at_sti rfl rfl rfl (sti_pure hT rfl) ?_
          refine at_sti rfl rfl rfl (sti_loadN hT (knows_own (off := 0) .head) rfl rfl rfl rfl rfl) ?_
          refine at_call (callFunc_enter Try.func34 rfl rfl) (put_spec _ _ cur' ⟨_, _, _, _, _, _, _⟩ (by omega)) rfl rfl rfl rfl rfl (.cons (.tail .head) .nil) trivial fun ⟨B4, c5⟩ => ?_
          refine at_sti rfl rfl rfl (sti_pure hT rfl) ?_
          refine at_nil ?_
          refine n_block ?_
          refine n_then ?_
          refine at_region ?_
          refine at_sti rfl rfl rfl (sti_pure hT rfl) ?_
          refine at_sti rfl rfl rfl (sti_pure hT rfl) ?_
          refine at_int (z' := (((k + 1) : Nat) : Int)) (wrapN (by omega) (by omega)) ?_
          refine at_sti rfl rfl rfl (sti_pure hT rfl) ?_
          refine at_nil ?_
          refine n_then ?_
          exact at_back (k + 1, _, _, _) (by dsimp only; omega) ⟨rfl, rfl, rfl, rfl, rfl, trivial⟩ (.cons .head .nil) ⟨Has.pure (by refine ⟨by omega, ?_⟩; rw [List.take_add_one, ‹q[k]? = some _›, Option.toList_some, List.map_append, List.map_singleton, putAll_snoc, ← hinv8.2, mulM, ← wrap_eq]; rfl), Has.of (.tail _ (.head _)), Has.of (.tail _ (.tail _ (.head _))), trivial⟩
        · have hc28 := Int.not_lt.1 (of_decide_eq_false hc28)
          refine at_exit ?_
          refine x_then ?_
          refine x_then ?_
          refine x_block ?_
          refine n_block ?_
          refine n_then ?_
          refine at_region ?_
          refine at_sti rfl rfl rfl (sti_pure hT rfl) ?_
          refine at_sti rfl rfl rfl (sti_pure hT rfl) ?_
          refine at_int (z' := (((i + 1) : Nat) : Int)) (wrapN (by omega) (by omega)) ?_
          refine at_sti rfl rfl rfl (sti_pure hT rfl) ?_
          refine at_nil ?_
          refine n_then ?_
          exact at_back (i + 1, _, _, _) (by dsimp only; omega) ⟨rfl, rfl, rfl, rfl, trivial⟩ (.cons .head .nil) ⟨Has.pure (by refine ⟨by omega, ?_⟩; rw [List.take_add_one, hy, Option.toList_some, List.flatMap_append, List.flatMap_singleton, putAll_append, ← hinv5.2, hinv8.2, List.take_of_length_le (by omega)]), Has.of (.tail _ (.head _)), Has.of (.tail _ (.tail _ (.head _))), trivial⟩
      · have hc22 := Int.not_lt.1 (of_decide_eq_false hc22)
        refine at_exit ?_
        refine x_then ?_
        refine x_then ?_
        refine x_block ?_
        refine n_then ?_
        refine at_seq ?_
        refine at_region ?_
        refine at_sti rfl rfl rfl (sti_pure hT rfl) ?_
        refine at_call_lend (callFunc_enter Try.func35 rfl rfl) (whole_spec _ _ cur (by omega)) rfl rfl rfl rfl rfl .nil (.cons .head .nil) (lends_row lends_nil) ⟨Has.of (.head _), trivial⟩ (fun _ => True) (fun _ _ _ _ => trivial) fun ⟨B6, c7⟩ _ => ?_
        refine at_sti rfl rfl rfl (sti_pure hT rfl) ?_
        refine at_sti rfl rfl rfl (sti_pure hT rfl) ?_
        refine at_sti rfl rfl rfl (sti_pure hT rfl) ?_
        refine at_sti rfl rfl rfl (sti_pure hT rfl) ?_
        refine at_nil ?_
        refine n_then ?_
        refine at_ret ?_
        have hw : refMulP p q = wholeP cur := by unfold refMulP; rw [hrp, hrq, hinv5.2, List.take_of_length_le (by omega)]; rfl
        rw [hw]
        exact at_done2 (B6, c7) rfl rfl rfl rfl (.cons .head .nil) trivial

end Go.Proofs.Ytndjaogjkchpaaa
