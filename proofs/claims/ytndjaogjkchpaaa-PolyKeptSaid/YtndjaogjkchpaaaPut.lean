/- Contract of windrowref02.put: a list in order with a monomial more, in the call's own row (the walk is printed by wip/gen). -/
import Derived.Test.YtndjaogjkchpaaaPBase
namespace Go.Proofs.Ytndjaogjkchpaaa
open Go.RowKit

def putP (m : Mono) : List Mono → List Mono
  | [] => [m]
  | a :: l => if m.key < a.key then a :: putP m l else if a.key = m.key then ⟨wrap64 (a.n + m.n), a.e0, a.e1, a.e2, a.e3, a.e4, a.e5⟩ :: l else m :: a :: l
theorem above_is1 {a b : Mono} : above a b = 1 ↔ b.key < a.key := by
  rw [above_key]
  by_cases h : b.key < a.key
  · simp [h]
  · by_cases h2 : a.key < b.key <;> simp [h, h2]
theorem above_is0 {a b : Mono} : above a b = 0 ↔ a.key = b.key := by
  rw [above_key]
  by_cases h : b.key < a.key
  · simp [h]; omega
  · by_cases h2 : a.key < b.key
    · simp [h, h2]; omega
    · simp [h, h2]; omega
theorem take_more {l : List Mono} {m x : Mono} {i : Nat} (hx : l[i]? = some x) (h : ∀ y ∈ l.take i, m.key < y.key) (hk : m.key < x.key) : ∀ y ∈ l.take (i + 1), m.key < y.key := fun y hy => by
  rw [List.take_add_one, hx, Option.toList_some] at hy
  rcases List.mem_append.1 hy with hy | hy
  · exact h y hy
  · rw [List.mem_singleton.1 hy]; exact hk
theorem put_eq {m x : Mono} : ∀ {l : List Mono} {i : Nat}, l[i]? = some x → (∀ y ∈ l.take i, m.key < y.key) → x.key = m.key → putP m l = l.set i ⟨IntKind.i64.wrap (x.n + m.n), x.e0, x.e1, x.e2, x.e3, x.e4, x.e5⟩
  | [], i, h, _, _ => by simp at h
  | a :: l, 0, h, _, hk => by
    simp at h
    subst h
    rw [putP, if_neg (by omega), if_pos hk, wrap_eq]
    rfl
  | a :: l, i + 1, h, ht, hk => by
    rw [putP, if_pos (ht a (by simp)), put_eq (l := l) (i := i) (by simpa using h) (fun y hy => ht y (by simp [hy])) hk]
    rfl
theorem put_ins {m : Mono} : ∀ {l : List Mono} {i : Nat}, (∀ y ∈ l.take i, m.key < y.key) → i ≤ l.length → (∀ x, l[i]? = some x → x.key < m.key) → putP m l = l.take i ++ m :: l.drop i
  | [], i, _, hi, _ => by
    have : i = 0 := by simpa using hi
    subst this
    rfl
  | a :: l, 0, _, _, hx => by
    have := hx a rfl
    rw [putP, if_neg (by omega), if_neg (by omega)]
    rfl
  | a :: l, i + 1, ht, hi, hx => by
    rw [putP, if_pos (ht a (by simp)), put_ins (l := l) (i := i) (fun y hy => ht y (by simp [hy])) (by simpa using hi) (fun x h => hx x (by simpa using h))]
    rfl
theorem set_hole {l cur : List Mono} {i : Nat} (hi : i ≤ l.length) (h : ∃ z, cur = l.take i ++ z :: l.drop i) (m : Mono) : cur.set i m = l.take i ++ m :: l.drop i := by
  obtain ⟨z, rfl⟩ := h
  rw [List.set_append_right _ _ (by simp; omega), show i - (l.take i).length = 0 from by simp; omega]
  rfl
theorem shift_one {l cur : List Mono} {k : Nat} {x : Mono} (hk : k ≤ l.length) (h0 : 0 < k) (h : ∃ z, cur = l.take k ++ z :: l.drop k) (hx : cur[k - 1]? = some x) : ∃ z, cur.set k x = l.take (k - 1) ++ z :: l.drop (k - 1) := by
  obtain ⟨z, hz⟩ := h
  refine ⟨x, ?_⟩
  rw [set_hole hk ⟨z, hz⟩ x]
  obtain ⟨j, rfl⟩ : ∃ j, k = j + 1 := ⟨k - 1, by omega⟩
  rw [Nat.add_sub_cancel] at hx ⊢
  have hj : l[j]? = some x := by
    rw [hz, List.getElem?_append_left (by simp; omega), List.getElem?_take_of_lt (by omega)] at hx
    exact hx
  have hd : l.drop j = x :: l.drop (j + 1) := by
    have hlt : j < l.length := by omega
    rw [List.drop_eq_getElem_cons hlt]
    congr 1
    exact (List.getElem?_eq_some_iff.1 hj).2
  rw [List.take_add_one, hj, hd]
  simp

set_option maxRecDepth 100000 in
theorem put_spec (A : Option Addr) (cap : Nat) (l : List Mono) (m : Mono) (hl : l.length ≤ 1000000) : Spec Try.prog 34 [.slice A l.length cap, .agg #[.int .i64 m.n, .int .u8 m.e0.toNat, .int .u8 m.e1.toNat, .int .u8 m.e2.toNat, .int .u8 m.e3.toNat, .int .u8 m.e4.toNat, .int .u8 m.e5.toNat]] [monoE.row (.slice A l.length cap) 39 l] [] (fun (x : Option Addr × Nat) => .slice x.1 (putP m l).length x.2) (fun (x : Option Addr × Nat) => [monoE.row (.slice x.1 (putP m l).length x.2) 39 (putP m l)]) (fun _ => []) := by
  have hT := polyT_ok
  refine spec_of Try.func34 rfl Try.ntmps34 rfl ?_
  intro β hM
  refine at_seq ?_
  refine at_region ?_
  refine at_box rfl rfl rfl rfl rfl rfl fun b1 => ?_
  refine at_sti rfl rfl rfl (sti_pure hT rfl) ?_
  refine at_nil ?_
  refine n_then ?_
  refine at_seq ?_
  refine at_region ?_
  refine at_sti rfl rfl rfl (sti_pure hT rfl) ?_
  refine at_nil ?_
  refine n_then ?_
  refine at_seq ?_
  refine at_block ?_
  refine at_loop (ι := Nat) (fun i => [(0, .slice A l.length cap), (3, .pointer (some ⟨b1, 0, none⟩)), (5, .int .i64 (i : Nat))]) (fun i => [.obj b1 (.cells m.cells.toArray 39), monoE.row (.slice A l.length cap) 39 l]) (fun i => [Fact.pure (i ≤ l.length ∧ ∀ x ∈ l.take i, m.key < x.key)]) (fun i => l.length - i) 0 ⟨rfl, rfl, rfl, trivial⟩ (.cons .head (.cons .head .nil)) ⟨Has.pure (by simp), trivial⟩ ?_
  rintro i
  refine at_know (Has.of (.head _)) fun hinv2 => ?_
  refine at_seq ?_
  refine at_seq ?_
  refine at_mix _ _ [(true, 0), (true, 1), (true, 2), (true, 3), (true, 4), (true, 5), (true, 6), (true, 7), (true, 8), (true, 9), (false, 10), (true, 11), (true, 12)] mixes (by decide +kernel) (.cons .head (.cons .head .nil)) HasAll.self ?_
  refine atm_sti rfl rfl rfl rfl (sti_pure hT rfl) ?_
  refine atm_sti rfl rfl rfl rfl (sti_pure hT rfl) ?_
  refine atm_sti rfl rfl rfl rfl (sti_pure hT rfl) ?_
  refine atm_sti rfl rfl rfl rfl (sti_pure hT rfl) ?_
  refine atm_sti rfl rfl rfl rfl (sti_pure hT rfl) ?_
  refine at_case (fun hg11 => ?_) (fun hg11 => ?_)
  · have hg11 := of_decide_eq_true hg11
    refine atm_sti rfl rfl rfl rfl (sti_pure hT rfl) ?_
    refine atm_sti rfl rfl rfl rfl (sti_pure hT rfl) ?_
    obtain ⟨x2, hx3⟩ : ∃ x, l[i]? = some x := ⟨_, List.getElem?_eq_getElem (by omega)⟩
    refine atm_sti rfl rfl rfl rfl (sti_index hT (k := i) (reads_row (.tail .head)) rfl rfl rfl rfl rfl rfl rfl (by omega)) ?_
    refine atm_sti rfl rfl rfl rfl (sti_loadN hT (Reads.knows (reads_row (.tail .head)) hx3 0) rfl rfl rfl rfl rfl) ?_
    refine atm_sti rfl rfl rfl rfl (sti_loadN hT (knows_own (off := 0) .head) rfl rfl rfl rfl rfl) ?_
    refine atm_op (o := _) rfl ?_
    refine at_call_lend (callFunc_enter Try.func43 rfl rfl) (above_spec _ _) rfl rfl rfl rfl rfl .nil .nil lends_nil trivial (fun _ => True) (fun _ _ _ _ => trivial) fun _ _ => ?_
    refine atm_go (.cons .head (.cons .head .nil)) ⟨Has.of (.head _), trivial⟩ ?_
    refine atm_sti rfl rfl rfl rfl (sti_pure hT rfl) ?_
    refine atm_sti rfl rfl rfl rfl (sti_pure hT rfl) ?_
    refine atm_nil ?_
    refine n_then ?_
    refine at_cond rfl (fun hc19 => ?_) (fun hc19 => ?_)
    · have hc19 := eq_of_beq hc19
      have hc19 := above_is1.1 hc19
      refine at_skip ?_
      refine n_then ?_
      refine at_block ?_
      refine at_region ?_
      refine at_sti rfl rfl rfl (sti_pure hT rfl) ?_
      refine at_sti rfl rfl rfl (sti_pure hT rfl) ?_
      refine at_int (z' := (((i + 1) : Nat) : Int)) (wrapN (by omega) (by omega)) ?_
      refine at_sti rfl rfl rfl (sti_pure hT rfl) ?_
      refine at_nil ?_
      refine n_block ?_
      refine n_then ?_
      exact at_back (i + 1) (by omega) ⟨rfl, rfl, rfl, trivial⟩ (.cons .head (.cons .head .nil)) ⟨Has.pure (⟨by omega, take_more ‹l[i]? = some _› hinv2.2 hc19⟩), trivial⟩
    · have hc19 := beq_eq_false_iff_ne.1 hc19
      have hc19 := mt above_is1.2 hc19
      refine at_exit ?_
      refine x_then ?_
      refine x_then ?_
      refine x_block ?_
      refine n_then ?_
      refine at_seq ?_
      refine at_seq ?_
      refine at_mix _ _ [(true, 0), (true, 1), (true, 2), (true, 3), (true, 4), (true, 5), (true, 6), (true, 7), (true, 8), (true, 9), (false, 10), (true, 11), (true, 12)] mixes (by decide +kernel) (.cons .head (.cons .head .nil)) HasAll.self ?_
      refine atm_sti rfl rfl rfl rfl (sti_pure hT rfl) ?_
      refine atm_sti rfl rfl rfl rfl (sti_pure hT rfl) ?_
      refine atm_sti rfl rfl rfl rfl (sti_pure hT rfl) ?_
      refine atm_sti rfl rfl rfl rfl (sti_pure hT rfl) ?_
      refine atm_sti rfl rfl rfl rfl (sti_pure hT rfl) ?_
      refine at_case (fun hg26 => ?_) (fun hg26 => ?_)
      · have hg26 := of_decide_eq_true hg26
        refine atm_sti rfl rfl rfl rfl (sti_pure hT rfl) ?_
        refine atm_sti rfl rfl rfl rfl (sti_pure hT rfl) ?_
        refine atm_sti rfl rfl rfl rfl (sti_index hT (k := i) (reads_row (.tail .head)) rfl rfl rfl rfl rfl rfl rfl (by omega)) ?_
        refine atm_sti rfl rfl rfl rfl (sti_loadN hT (Reads.knows (reads_row (.tail .head)) hx3 0) rfl rfl rfl rfl rfl) ?_
        refine atm_sti rfl rfl rfl rfl (sti_loadN hT (knows_own (off := 0) .head) rfl rfl rfl rfl rfl) ?_
        refine atm_op (o := _) rfl ?_
        refine at_call_lend (callFunc_enter Try.func43 rfl rfl) (above_spec _ _) rfl rfl rfl rfl rfl .nil .nil lends_nil trivial (fun _ => True) (fun _ _ _ _ => trivial) fun _ _ => ?_
        refine atm_go (.cons .head (.cons .head .nil)) ⟨Has.of (.head _), trivial⟩ ?_
        refine atm_sti rfl rfl rfl rfl (sti_pure hT rfl) ?_
        refine atm_sti rfl rfl rfl rfl (sti_pure hT rfl) ?_
        refine atm_nil ?_
        refine n_then ?_
        refine at_cond rfl (fun hc34 => ?_) (fun hc34 => ?_)
        · have hc34 := eq_of_beq hc34
          have hc34 := above_is0.1 hc34
          refine at_seq ?_
          refine at_rowg (.tail .head) (by omega) fun g hg => ?_
          subst hg
          refine at_mix _ _ [(true, 0), (true, 1), (true, 2), (true, 3), (true, 4), (true, 5), (true, 7), (true, 8), (false, 6), (true, 9), (true, 10), (true, 11), (false, 12)] mixes (by decide +kernel) (.cons .head .nil) HasAll.self ?_
          refine atm_sti rfl rfl rfl rfl (sti_pure hT rfl) ?_
          refine atm_sti rfl rfl rfl rfl (sti_pure hT rfl) ?_
          refine atm_sti rfl rfl rfl rfl (sti_pure hT rfl) ?_
          refine atm_sti rfl rfl rfl rfl (sti_pure hT rfl) ?_
          refine atm_sti rfl rfl rfl rfl (sti_index_at hT (k := i) rfl rfl rfl rfl rfl rfl (by omega)) ?_
          refine atm_sti rfl rfl rfl rfl (sti_pure hT rfl) ?_
          refine atm_sti rfl rfl rfl rfl (sti_pure hT rfl) ?_
          refine atm_sti rfl rfl rfl rfl (sti_load1 hT (knows_own (off := 0) .head) rfl rfl rfl rfl rfl) ?_
          refine atm_op (o := _) rfl ?_
          refine at_sti rfl rfl rfl (sti_load1 hT (Reads.knows (reads_row (.tail .head)) hx3 0) rfl rfl rfl rfl rfl) ?_
          refine atm_go (.cons .head .nil) ⟨Has.of (.head _), trivial⟩ ?_
          refine atm_sti rfl rfl rfl rfl (sti_pure hT rfl) ?_
          refine atm_sti rfl rfl rfl rfl (sti_index_at hT (k := i) rfl rfl rfl rfl rfl rfl (by omega)) ?_
          refine atm_sti rfl rfl rfl rfl (sti_pure hT rfl) ?_
          refine atm_op (o := _) rfl ?_
          refine at_store_elem hT (k := i) (fo := 0) (y' := ⟨_, _, _, _, _, _, _⟩) (.tail .head) rfl rfl rfl rfl rfl rfl rfl rfl rfl hx3 rfl ?_
          refine atm_go (.cons (.tail .head) .nil) ⟨Has.of (.head _), trivial⟩ ?_
          refine atm_nil ?_
          refine n_then ?_
          refine at_seq ?_
          refine at_region ?_
          refine at_sti rfl rfl rfl (sti_pure hT rfl) ?_
          refine at_sti rfl rfl rfl (sti_pure hT rfl) ?_
          refine at_nil ?_
          refine n_then ?_
          refine at_ret ?_
          refine r_then ?_
          rw [put_eq hx3 hinv2.2 hc34, List.length_set]
          exact at_done1 (some ⟨g, 0, none⟩, cap) rfl rfl rfl (.cons .head .nil) trivial
        · have hc34 := beq_eq_false_iff_ne.1 hc34
          have hc34 := mt above_is0.2 hc34
          refine at_skip ?_
          refine n_then ?_
          refine at_seq ?_
          have hlast : ∀ x, l[i]? = some x → x.key < m.key := fun x hx => by rw [hx3] at hx; cases hx; omega
          refine at_region ?_
          refine at_sti rfl rfl rfl (sti_pure hT rfl) ?_
          refine at_sti rfl rfl rfl (sti_loadN hT (knows_own (off := 0) .head) rfl rfl rfl rfl rfl) ?_
          refine at_one (m := m) rfl rfl rfl rfl rfl fun b4 => ?_
          refine at_app (.tail (.tail .head)) (reads_obj .head rfl) rfl rfl rfl rfl rfl rfl rfl (by simp) (by simp only [List.length_singleton]; omega) fun A5 c6 => ?_
          refine at_sti rfl rfl rfl (sti_pure hT rfl) ?_
          refine at_nil ?_
          refine n_then ?_
          refine at_seq ?_
          refine at_seq ?_
          refine at_rowg .head (by simp) fun g7 hg => ?_
          subst hg
          have hN : (l ++ [m]).length = l.length + 1 := by simp
          refine at_region ?_
          refine at_sti rfl rfl rfl (sti_pure hT rfl) ?_
          refine at_sti rfl rfl rfl (sti_pure hT rfl) ?_
          refine at_sti rfl rfl rfl (sti_pure hT rfl) ?_
          refine at_int (z' := ((((l ++ [m]).length - 1) : Nat) : Int)) (wrapN (by omega) (by omega)) ?_
          refine at_sti rfl rfl rfl (sti_pure hT rfl) ?_
          refine at_nil ?_
          refine n_then ?_
          refine at_block ?_
          refine at_loop (ι := Nat × List Mono) (fun ⟨k, cur⟩ => [(0, .slice (some ⟨g7, 0, none⟩) (l ++ [m]).length c6), (3, .pointer (some ⟨b1, 0, none⟩)), (5, .int .i64 (i : Nat)), (6, .int .i64 (k : Nat))]) (fun ⟨k, cur⟩ => [monoE.row (.slice (some ⟨g7, 0, none⟩) (l ++ [m]).length c6) 39 cur, .obj b1 (.cells m.cells.toArray 39)]) (fun ⟨k, cur⟩ => [Fact.pure (i ≤ k ∧ k ≤ l.length ∧ ∃ z, cur = l.take k ++ z :: l.drop k)]) (fun ⟨k, cur⟩ => k) ((l ++ [m]).length - 1, l ++ [m]) ⟨rfl, rfl, rfl, rfl, trivial⟩ (.cons .head (.cons (.tail .head) .nil)) ⟨Has.pure (⟨by omega, by omega, m, by simp⟩), trivial⟩ ?_
          rintro ⟨k, cur⟩
          dsimp only
          refine at_know (Has.of (.head _)) fun hinv9 => ?_
          have hcl : cur.length = l.length + 1 := by obtain ⟨z, hz⟩ := hinv9.2.2; rw [hz]; simp; omega
          refine at_seq ?_
          refine at_seq ?_
          refine at_region ?_
          refine at_sti rfl rfl rfl (sti_pure hT rfl) ?_
          refine at_sti rfl rfl rfl (sti_pure hT rfl) ?_
          refine at_sti rfl rfl rfl (sti_pure hT rfl) ?_
          refine at_nil ?_
          refine n_then ?_
          refine at_cond rfl (fun hc57 => ?_) (fun hc57 => ?_)
          · have hc57 := of_decide_eq_true hc57
            refine at_skip ?_
            refine n_then ?_
            refine at_seq ?_
            refine at_block ?_
            refine at_region ?_
            refine at_sti rfl rfl rfl (sti_pure hT rfl) ?_
            refine at_sti rfl rfl rfl (sti_pure hT rfl) ?_
            refine at_sti rfl rfl rfl (sti_pure hT rfl) ?_
            refine at_sti rfl rfl rfl (sti_pure hT rfl) ?_
            refine at_sti rfl rfl rfl (sti_pure hT rfl) ?_
            refine at_int (z' := (((k - 1) : Nat) : Int)) (wrapN (by omega) (by omega)) ?_
            obtain ⟨x8, hx9⟩ : ∃ x, cur[(k - 1)]? = some x := ⟨_, List.getElem?_eq_getElem (by omega)⟩
            refine at_sti rfl rfl rfl (sti_index_at hT (k := (k - 1)) rfl rfl rfl rfl rfl rfl (by omega)) ?_
            refine at_sti rfl rfl rfl (sti_loadN hT (Reads.knows (reads_row .head) hx9 0) rfl rfl rfl rfl rfl) ?_
            obtain ⟨x10, hx11⟩ : ∃ x, cur[k]? = some x := ⟨_, List.getElem?_eq_getElem (by omega)⟩
            refine at_sti rfl rfl rfl (sti_index_at hT (k := k) rfl rfl rfl rfl rfl rfl (by omega)) ?_
            refine at_store_elem hT (k := k) (fo := 0) (y' := x8) .head rfl rfl rfl rfl rfl rfl rfl rfl rfl hx11 rfl ?_
            refine at_nil ?_
            refine n_block ?_
            refine n_then ?_
            refine at_region ?_
            refine at_sti rfl rfl rfl (sti_pure hT rfl) ?_
            refine at_sti rfl rfl rfl (sti_pure hT rfl) ?_
            refine at_int (z' := (((k - 1) : Nat) : Int)) (wrapN (by omega) (by omega)) ?_
            refine at_sti rfl rfl rfl (sti_pure hT rfl) ?_
            refine at_nil ?_
            refine n_then ?_
            exact at_back (k - 1, _) (by dsimp only; omega) ⟨rfl, rfl, rfl, rfl, trivial⟩ (.cons .head (.cons .head .nil)) ⟨Has.pure (by refine ⟨by omega, by omega, ?_⟩; exact shift_one hinv9.2.1 (by omega) hinv9.2.2 ‹cur[k - 1]? = some _›), trivial⟩
          · have hc57 := Int.not_lt.1 (of_decide_eq_false hc57)
            refine at_exit ?_
            refine x_then ?_
            refine x_then ?_
            refine x_block ?_
            refine n_then ?_
            refine at_seq ?_
            refine at_region ?_
            refine at_sti rfl rfl rfl (sti_pure hT rfl) ?_
            refine at_sti rfl rfl rfl (sti_pure hT rfl) ?_
            refine at_sti rfl rfl rfl (sti_loadN hT (knows_own (off := 0) (.tail .head)) rfl rfl rfl rfl rfl) ?_
            obtain ⟨x12, hx13⟩ : ∃ x, cur[i]? = some x := ⟨_, List.getElem?_eq_getElem (by omega)⟩
            refine at_sti rfl rfl rfl (sti_index_at hT (k := i) rfl rfl rfl rfl rfl rfl (by omega)) ?_
            refine at_store_elem hT (k := i) (fo := 0) (y' := m) .head rfl rfl rfl rfl rfl rfl rfl rfl rfl hx13 rfl ?_
            refine at_nil ?_
            refine n_then ?_
            refine at_seq ?_
            refine at_region ?_
            refine at_sti rfl rfl rfl (sti_pure hT rfl) ?_
            refine at_sti rfl rfl rfl (sti_pure hT rfl) ?_
            refine at_nil ?_
            refine n_then ?_
            refine at_ret ?_
            have hk : k = i := by omega
            subst hk
            have e : putP m l = cur.set k m := (put_ins hinv2.2 hinv2.1 hlast).trans (set_hole hinv2.1 hinv9.2.2 m).symm
            have e2 : (cur.set k m).length = (l ++ [m]).length := by rw [List.length_set]; omega
            rw [e, e2]
            exact at_done1 (some ⟨g7, 0, none⟩, c6) rfl rfl rfl (.cons .head .nil) trivial
      · have hg26 := Int.not_lt.1 (of_decide_eq_false hg26)
        omega
  · have hg11 := Int.not_lt.1 (of_decide_eq_false hg11)
    refine atm_skipped rfl rfl rfl rfl ?_
    refine atm_skipped rfl rfl rfl rfl ?_
    refine atm_skipped rfl rfl rfl rfl ?_
    refine atm_skipped rfl rfl rfl rfl ?_
    refine atm_skipped rfl rfl rfl rfl ?_
    refine atm_op (o := _) rfl ?_
    refine at_skipped rfl rfl rfl ?_
    refine atm_go (.cons .head (.cons .head .nil)) ⟨Has.of (.head _), trivial⟩ ?_
    refine atm_skipped rfl rfl rfl rfl ?_
    refine atm_sti rfl rfl rfl rfl (sti_pure hT rfl) ?_
    refine atm_nil ?_
    refine n_then ?_
    refine at_false rfl rfl ?_
    refine at_exit ?_
    refine x_then ?_
    refine x_then ?_
    refine x_block ?_
    refine n_then ?_
    refine at_seq ?_
    refine at_seq ?_
    refine at_mix _ _ [(true, 0), (true, 1), (true, 2), (true, 3), (true, 4), (true, 5), (true, 6), (true, 7), (true, 8), (true, 9), (false, 10), (true, 11), (true, 12)] mixes (by decide +kernel) (.cons .head (.cons .head .nil)) HasAll.self ?_
    refine atm_sti rfl rfl rfl rfl (sti_pure hT rfl) ?_
    refine atm_sti rfl rfl rfl rfl (sti_pure hT rfl) ?_
    refine atm_sti rfl rfl rfl rfl (sti_pure hT rfl) ?_
    refine atm_sti rfl rfl rfl rfl (sti_pure hT rfl) ?_
    refine atm_sti rfl rfl rfl rfl (sti_pure hT rfl) ?_
    refine at_case (fun hg26 => ?_) (fun hg26 => ?_)
    · have hg26 := of_decide_eq_true hg26
      omega
    · have hg26 := Int.not_lt.1 (of_decide_eq_false hg26)
      refine atm_skipped rfl rfl rfl rfl ?_
      refine atm_skipped rfl rfl rfl rfl ?_
      refine atm_skipped rfl rfl rfl rfl ?_
      refine atm_skipped rfl rfl rfl rfl ?_
      refine atm_skipped rfl rfl rfl rfl ?_
      refine atm_op (o := _) rfl ?_
      refine at_skipped rfl rfl rfl ?_
      refine atm_go (.cons .head (.cons .head .nil)) ⟨Has.of (.head _), trivial⟩ ?_
      refine atm_skipped rfl rfl rfl rfl ?_
      refine atm_sti rfl rfl rfl rfl (sti_pure hT rfl) ?_
      refine atm_nil ?_
      refine n_then ?_
      refine at_false rfl rfl ?_
      refine at_skip ?_
      refine n_then ?_
      refine at_seq ?_
      have hlast : ∀ x, l[i]? = some x → x.key < m.key := fun x hx => by rw [List.getElem?_eq_none (by omega)] at hx; cases hx
      refine at_region ?_
      refine at_sti rfl rfl rfl (sti_pure hT rfl) ?_
      refine at_sti rfl rfl rfl (sti_loadN hT (knows_own (off := 0) .head) rfl rfl rfl rfl rfl) ?_
      refine at_one (m := m) rfl rfl rfl rfl rfl fun b14 => ?_
      refine at_app (.tail (.tail .head)) (reads_obj .head rfl) rfl rfl rfl rfl rfl rfl rfl (by simp) (by simp only [List.length_singleton]; omega) fun A15 c16 => ?_
      refine at_sti rfl rfl rfl (sti_pure hT rfl) ?_
      refine at_nil ?_
      refine n_then ?_
      refine at_seq ?_
      refine at_seq ?_
      refine at_rowg .head (by simp) fun g17 hg => ?_
      subst hg
      have hN : (l ++ [m]).length = l.length + 1 := by simp
      refine at_region ?_
      refine at_sti rfl rfl rfl (sti_pure hT rfl) ?_
      refine at_sti rfl rfl rfl (sti_pure hT rfl) ?_
      refine at_sti rfl rfl rfl (sti_pure hT rfl) ?_
      refine at_int (z' := ((((l ++ [m]).length - 1) : Nat) : Int)) (wrapN (by omega) (by omega)) ?_
      refine at_sti rfl rfl rfl (sti_pure hT rfl) ?_
      refine at_nil ?_
      refine n_then ?_
      refine at_block ?_
      refine at_loop (ι := Nat × List Mono) (fun ⟨k, cur⟩ => [(0, .slice (some ⟨g17, 0, none⟩) (l ++ [m]).length c16), (3, .pointer (some ⟨b1, 0, none⟩)), (5, .int .i64 (i : Nat)), (6, .int .i64 (k : Nat))]) (fun ⟨k, cur⟩ => [monoE.row (.slice (some ⟨g17, 0, none⟩) (l ++ [m]).length c16) 39 cur, .obj b1 (.cells m.cells.toArray 39)]) (fun ⟨k, cur⟩ => [Fact.pure (i ≤ k ∧ k ≤ l.length ∧ ∃ z, cur = l.take k ++ z :: l.drop k)]) (fun ⟨k, cur⟩ => k) ((l ++ [m]).length - 1, l ++ [m]) ⟨rfl, rfl, rfl, rfl, trivial⟩ (.cons .head (.cons (.tail .head) .nil)) ⟨Has.pure (⟨by omega, by omega, m, by simp⟩), trivial⟩ ?_
      rintro ⟨k, cur⟩
      dsimp only
      refine at_know (Has.of (.head _)) fun hinv9 => ?_
      have hcl : cur.length = l.length + 1 := by obtain ⟨z, hz⟩ := hinv9.2.2; rw [hz]; simp; omega
      refine at_seq ?_
      refine at_seq ?_
      refine at_region ?_
      refine at_sti rfl rfl rfl (sti_pure hT rfl) ?_
      refine at_sti rfl rfl rfl (sti_pure hT rfl) ?_
      refine at_sti rfl rfl rfl (sti_pure hT rfl) ?_
      refine at_nil ?_
      refine n_then ?_
      refine at_cond rfl (fun hc57 => ?_) (fun hc57 => ?_)
      · have hc57 := of_decide_eq_true hc57
        refine at_skip ?_
        refine n_then ?_
        refine at_seq ?_
        refine at_block ?_
        refine at_region ?_
        refine at_sti rfl rfl rfl (sti_pure hT rfl) ?_
        refine at_sti rfl rfl rfl (sti_pure hT rfl) ?_
        refine at_sti rfl rfl rfl (sti_pure hT rfl) ?_
        refine at_sti rfl rfl rfl (sti_pure hT rfl) ?_
        refine at_sti rfl rfl rfl (sti_pure hT rfl) ?_
        refine at_int (z' := (((k - 1) : Nat) : Int)) (wrapN (by omega) (by omega)) ?_
        obtain ⟨x18, hx19⟩ : ∃ x, cur[(k - 1)]? = some x := ⟨_, List.getElem?_eq_getElem (by omega)⟩
        refine at_sti rfl rfl rfl (sti_index_at hT (k := (k - 1)) rfl rfl rfl rfl rfl rfl (by omega)) ?_
        refine at_sti rfl rfl rfl (sti_loadN hT (Reads.knows (reads_row .head) hx19 0) rfl rfl rfl rfl rfl) ?_
        obtain ⟨x20, hx21⟩ : ∃ x, cur[k]? = some x := ⟨_, List.getElem?_eq_getElem (by omega)⟩
        refine at_sti rfl rfl rfl (sti_index_at hT (k := k) rfl rfl rfl rfl rfl rfl (by omega)) ?_
        refine at_store_elem hT (k := k) (fo := 0) (y' := x18) .head rfl rfl rfl rfl rfl rfl rfl rfl rfl hx21 rfl ?_
        refine at_nil ?_
        refine n_block ?_
        refine n_then ?_
        refine at_region ?_
        refine at_sti rfl rfl rfl (sti_pure hT rfl) ?_
        refine at_sti rfl rfl rfl (sti_pure hT rfl) ?_
        refine at_int (z' := (((k - 1) : Nat) : Int)) (wrapN (by omega) (by omega)) ?_
        refine at_sti rfl rfl rfl (sti_pure hT rfl) ?_
        refine at_nil ?_
        refine n_then ?_
        exact at_back (k - 1, _) (by dsimp only; omega) ⟨rfl, rfl, rfl, rfl, trivial⟩ (.cons .head (.cons .head .nil)) ⟨Has.pure (by refine ⟨by omega, by omega, ?_⟩; exact shift_one hinv9.2.1 (by omega) hinv9.2.2 ‹cur[k - 1]? = some _›), trivial⟩
      · have hc57 := Int.not_lt.1 (of_decide_eq_false hc57)
        refine at_exit ?_
        refine x_then ?_
        refine x_then ?_
        refine x_block ?_
        refine n_then ?_
        refine at_seq ?_
        refine at_region ?_
        refine at_sti rfl rfl rfl (sti_pure hT rfl) ?_
        refine at_sti rfl rfl rfl (sti_pure hT rfl) ?_
        refine at_sti rfl rfl rfl (sti_loadN hT (knows_own (off := 0) (.tail .head)) rfl rfl rfl rfl rfl) ?_
        obtain ⟨x22, hx23⟩ : ∃ x, cur[i]? = some x := ⟨_, List.getElem?_eq_getElem (by omega)⟩
        refine at_sti rfl rfl rfl (sti_index_at hT (k := i) rfl rfl rfl rfl rfl rfl (by omega)) ?_
        refine at_store_elem hT (k := i) (fo := 0) (y' := m) .head rfl rfl rfl rfl rfl rfl rfl rfl rfl hx23 rfl ?_
        refine at_nil ?_
        refine n_then ?_
        refine at_seq ?_
        refine at_region ?_
        refine at_sti rfl rfl rfl (sti_pure hT rfl) ?_
        refine at_sti rfl rfl rfl (sti_pure hT rfl) ?_
        refine at_nil ?_
        refine n_then ?_
        refine at_ret ?_
        have hk : k = i := by omega
        subst hk
        have e : putP m l = cur.set k m := (put_ins hinv2.2 hinv2.1 hlast).trans (set_hole hinv2.1 hinv9.2.2 m).symm
        have e2 : (cur.set k m).length = (l ++ [m]).length := by rw [List.length_set]; omega
        rw [e, e2]
        exact at_done1 (some ⟨g17, 0, none⟩, c16) rfl rfl rfl (.cons .head .nil) trivial

end Go.Proofs.Ytndjaogjkchpaaa
