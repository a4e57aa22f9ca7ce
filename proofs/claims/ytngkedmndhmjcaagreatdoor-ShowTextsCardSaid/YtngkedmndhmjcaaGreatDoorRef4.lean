/- Walks of the reference's layers 1, 4: which functions there are, verbs, names. (Printed by wip/gen/ref3.py.) -/
import Derived.Test.YtngkedmndhmjcaaGreatDoorRef3S
import Derived.Test.YtngkedmndhmjcaaGreatDoorExprS
namespace Go.Proofs.YtngkedmndhmjcaaGreatDoor
open Go.RowKit

def oneB (f : Int) : Bool := decide (1 ≤ f ∧ f ≤ 7 ∨ f = 16)
def numberF (s : Bs) (t : Bool) : Int :=
  if s = [43] then 1 else if s = [45] then 2 else if s = [42] then 3 else if s = [37] then 4 else if s = [124] then 5 else if s = [109, 105, 110] then 6 else if s = [109, 97, 120] then 7 else if s = [61] then 8
  else if s = [60] then 10 else if s = [60, 61] then 11 else if s = [62, 61] then 12 else if s = [62] then 13 else if s = [97, 110, 100] then 14 else if s = [111, 114] then 15 else if s = [112, 111, 119] then 17
  else if s = [126] then (if t then 9 else 16) else 0
section
variable {f : Int} {two : Bool}
theorem takes_t (ht : two = true) (h : 1 ≤ f ∧ f ≤ 17 ∧ f ≠ 16) : true = (if two then takesB f else oneB f) := by rw [ht, if_pos rfl, takesB, decide_eq_true h]
theorem takes_f (ht : two = true) (h : ¬ (1 ≤ f ∧ f ≤ 17)) : false = (if two then takesB f else oneB f) := by rw [ht, if_pos rfl, takesB, decide_eq_false (by omega)]
theorem takes_m (ht : two = true) (h : 1 ≤ f) (h' : f ≤ 17) : (f != 16) = (if two then takesB f else oneB f) := by
  rw [ht, if_pos rfl, takesB]
  by_cases e : f = 16
  · rw [e]; rfl
  · rw [decide_eq_true ⟨h, h', e⟩]; simpa using e
theorem one_t (ht : two = false) (h : 1 ≤ f ∧ f ≤ 7) : true = (if two then takesB f else oneB f) := by rw [ht, if_neg (by simp), oneB, decide_eq_true (.inl h)]
theorem one_m (ht : two = false) (h : ¬ (1 ≤ f ∧ f ≤ 7)) : (f == 16) = (if two then takesB f else oneB f) := by
  rw [ht, if_neg (by simp), oneB]
  by_cases e : f = 16
  · rw [e]; rfl
  · rw [decide_eq_false (by omega)]; simpa using e
end
def refVerbF (s : Bs) (t : Bool) : Int :=
  if numberF s t ≠ 0 then (if (if t then takesB (numberF s t) else oneB (numberF s t)) = true then numberF s t else 0)
  else if s = [114, 104, 111] then (if t then 37 else 0) else if s = [116, 97, 107, 101] then (if t then 38 else 0) else if s = [100, 114, 111, 112] then (if t then 39 else 0) else if s = [99, 97, 116] then (if t then 40 else 0)
  else if s = [105, 111, 116, 97] then (if t then 0 else 32) else if s = [115, 104, 97, 112, 101] then (if t then 0 else 33) else if s = [114, 97, 118, 101, 108] then (if t then 0 else 34) else if s = [114, 101, 118] then (if t then 0 else 35) else if s = [116, 117, 114, 110] then (if t then 0 else 36) else 0
theorem refVerb_eq (s : Bs) (t : Bool) : refVerbF s t = verbF s t := by
  by_cases hm : s ∈ verbWords
  · have key : ∀ s ∈ verbWords, ∀ t : Bool, refVerbF s t = verbF s t := by decide
    exact key s hm t
  · simp only [verbWords, List.mem_cons, List.not_mem_nil, or_false, not_or] at hm
    obtain ⟨h1, h2, h3, h4, h5, h6, h7, h8, h9, h10, h11, h12, h13, h14, h15, h16, h17, h18, h19, h20, h21, h22, h23, h24, h25⟩ := hm
    have hn : numberF s t = 0 := by simp only [numberF, h1, h2, h3, h4, h5, h6, h7, h8, h9, h10, h11, h12, h13, h14, h15, h16, if_false]
    have h2' : twoF s = 0 := by simp only [twoF, h1, h2, h3, h4, h5, h6, h7, h8, h9, h10, h11, h12, h13, h14, h15, h16, h17, h18, h19, h20, if_false]
    have h1' : oneF s = 0 := by simp only [oneF, h1, h2, h3, h4, h5, h6, h7, h9, h21, h22, h23, h24, h25, or_self, if_false]
    have hr : refVerbF s t = 0 := by simp only [refVerbF, hn, h17, h18, h19, h20, h21, h22, h23, h24, h25, ne_eq, not_true_eq_false, if_false]
    rw [hr, verbF, h1', h2']
    cases t <;> rfl
def nameR (s : Bs) : Bool := wordR s && (!(verbB s) && (!(s == [105, 110]) && !(s == [111, 117, 116])))
theorem lexGo_mem : ∀ (f i : Nat) (s : Bs) (out : List Tok) (t : Tok), t ∈ (lexGo f i s out).1 → t ∈ out ∨ ∃ j b r, s.drop j = b :: r ∧ blankB b = false ∧ (b == 35) = false ∧ ∃ m, tokenP (b :: r) = .ok (t.kind, t.word, t.n, m)
  | 0, _, _, _, _, h => .inl h
  | _ + 1, _, [], _, _, h => .inl h
  | f + 1, i, b :: r, out, t, h => by
    unfold lexGo at h
    split at h
    · rcases lexGo_mem f _ _ _ t h with h | ⟨j, c, q, h1, h2⟩
      · exact .inl h
      · exact .inr ⟨j + 1, c, q, h1, h2⟩
    · rename_i hb
      split at h
      · rcases lexGo_mem f _ _ _ t h with h | ⟨j, c, q, h1, h2⟩
        · exact .inl h
        · exact .inr ⟨_, c, q, by rw [← h1, List.drop_drop], h2⟩
      · rename_i hn
        split at h
        · simp at h
        · rename_i k wd v m ht
          rcases lexGo_mem f _ _ _ t h with h | ⟨j, c, q, h1, h2⟩
          · rcases List.mem_append.1 h with h | h
            · exact .inl h
            · rw [List.mem_singleton.1 h]
              exact .inr ⟨0, b, r, rfl, by simpa using hb, by simpa using hn, m, ht⟩
          · exact .inr ⟨_, c, q, by rw [← h1, List.drop_drop], h2⟩
theorem word_tok {s : Bs} {k v : Int} {wd : Bs} {m : Nat} (h : tokenP s = .ok (k, wd, v, m)) (hk : k = 1) : v = 0 ∧ wd = s.take m ∧ m ≤ s.length := by
  cases s with
  | nil => cases h
  | cons b r =>
    subst hk
    simp only [tokenP] at h
    split at h
    · simp at h
    · split at h
      · split at h
        · cases h
        · simp only [Except.ok.injEq, Prod.mk.injEq] at h
          obtain ⟨_, rfl, rfl, rfl⟩ := h
          exact ⟨rfl, rfl, runB_le _ _⟩
      · split at h
        · cases h
        · rename_i t ht
          simp only [Except.ok.injEq] at h
          subst h
          unfold numTok at ht
          dsimp only at ht
          by_cases hb : (b == 95) = true
          · simp only [hb, if_true] at ht
            split at ht
            · cases ht
            · split at ht
              · cases ht
              · simp at ht
          · simp only [hb, Bool.false_eq_true, if_false] at ht
            split at ht
            · cases ht
            · split at ht
              · cases ht
              · simp at ht
        · split at h
          · cases h
          · simp at h
theorem lex_single {b : UInt8} {r : Bs} {k v : Int} {wd : Bs} (hl : (b :: r).length ≤ 65536) (hb : blankB b = false) (hn : (b == 35) = false) (ht : tokenP (b :: r) = .ok (k, wd, v, (b :: r).length)) : lexP (b :: r) = ([⟨k, 0, wd, v⟩], (0, 0)) := by
  unfold lexP
  rw [if_neg (by omega), lexGo_step, hb, if_neg (by simp), hn, if_neg (by simp), ht]
  simp only [List.drop_length, List.length_nil]
  rfl
theorem wordR_lex (s : Bs) : wordR s = lexOne s := by
  rw [Bool.eq_iff_iff]
  constructor
  · intro h
    cases s with
    | nil => cases h
    | cons b r =>
      unfold wordR at h
      simp only [Bool.and_eq_true, decide_eq_true_eq, bne_iff_ne] at h
      obtain ⟨hl, h32, h9, h35, h⟩ := h
      cases ht : tokenP (b :: r) with
      | error e => rw [ht] at h; cases h
      | ok t =>
        obtain ⟨k, x, v, m⟩ := t
        rw [ht] at h
        simp only [Bool.and_eq_true, beq_iff_eq] at h
        obtain ⟨⟨⟨rfl, rfl⟩, rfl⟩, rfl⟩ := h
        unfold lexOne
        rw [lex_single (by omega) (by simp [blankB, h32, h9]) (by simpa using h35) ht]
        simp [fltEq]
  · intro h
    unfold lexOne at h
    rw [Bool.and_eq_true] at h
    obtain ⟨_, h⟩ := h
    cases hl : (lexP s).1 with
    | nil => rw [hl] at h; cases h
    | cons t q =>
      cases q with
      | cons _ _ => rw [hl] at h; cases h
      | nil =>
        rw [hl] at h
        simp only [Bool.and_eq_true, beq_iff_eq] at h
        obtain ⟨hk, hw⟩ := h
        have h16 := (lex_ok s t (by rw [hl]; simp)).word
        have hm : t ∈ (lexP s).1 := by rw [hl]; simp
        unfold lexP at hm
        split at hm
        · simp at hm
        · rcases lexGo_mem _ _ _ _ t hm with h | ⟨j, b, r, hd, hb, hn, m, ht⟩
          · simp at h
          · obtain ⟨hv, hwd, hmm⟩ := word_tok ht hk
            have hlen := congrArg List.length hd
            rw [List.length_drop] at hlen
            rw [hw] at hwd h16
            have hlen2 := congrArg List.length hwd
            rw [List.length_take, Nat.min_eq_left hmm] at hlen2
            have hj : j = 0 := by
              simp only [List.length_cons] at hlen hmm
              omega
            subst hj
            rw [List.drop_zero] at hd
            subst hd
            simp only [blankB, Bool.or_eq_false_iff] at hb
            have hmm' : m = (b :: r).length := by omega
            rw [hk, hw, hv, hmm'] at ht
            refine wordR_yes (by omega) ?_ ?_ ?_ ht rfl rfl rfl rfl
            · simpa using hb.1
            · simpa using hb.2
            · simpa using hn
theorem nameR_eq (s : Bs) : nameR s = nameB s := by
  unfold nameR nameB
  rw [wordR_lex]
  cases lexOne s <;> cases verbB s <;> cases s == [105, 110] <;> cases s == [111, 117, 116] <;> rfl
section
variable {s : Bs}
theorem any_a (h : (verbF s false != 0) = true) : true = verbB s := by rw [verbB, show (oneF s != 0) = true from h]; rfl
theorem any_b (h : (verbF s false != 0) = false) : (verbF s true != 0) = verbB s := by rw [verbB, show (oneF s != 0) = false from h]; rfl
theorem nm_0 : false = nameR [] := rfl
theorem nm_a (h : wordR s = false) : false = nameR s := by rw [nameR, h]; rfl
theorem nm_b (h : verbB s = true) : false = nameR s := by rw [nameR, h]; simp
theorem nm_c (h : s = [105, 110]) : false = nameR s := by rw [nameR, h]; simp
theorem nm_d (h : wordR s = true) (h1 : verbB s = false) (h2 : s ≠ [105, 110]) : (!(s == [111, 117, 116])) = nameR s := by rw [nameR, h, h1, beq_eq_false_iff_ne.2 h2]; simp
end
theorem rrtakes_built_api_Token_02 (z0 : Int) (s2 : ByteArray) : Tryz.prog.built 54 [(0, .int .i64 z0), (2, .string s2)] = some #[.int .i64 z0, .int .i64 0, .string s2, .int .i64 0] := by kernel_rfl

set_option maxRecDepth 100000 in
theorem rtakes_spec (f : Int) (two : Bool) : Spec Tryz.prog 71 [.int .u8 f, .bool two] [] [] (fun (_ : Unit) => .bool (if two then takesB f else oneB f)) (fun _ => []) (fun _ => []) := by
  have hT := refT_ok
  refine spec_of Tryz.func71 rfl Tryz.ntmps71 rfl ?_
  intro β hM
  refine sr ?_
  refine sp hT ?_
  refine nn ?_
  refine at_seq ?_
  refine sr ?_
  refine sp hT ?_
  refine nn ?_
  refine at_cond rfl (fun hc5 => ?_) (fun hc5 => ?_)
  · refine sr ?_
    refine sp3 hT ?_
    refine at_case (fun hg8 => ?_) (fun hg8 => ?_)
    · have hg8 := of_decide_eq_true hg8
      refine sp4 hT ?_
      refine at_case (fun hg12 => ?_) (fun hg12 => ?_)
      · have hg12 := of_decide_eq_true hg12
        refine sp4 hT ?_
        refine nn ?_
        refine at_ret ?_
        refine r_then ?_
        exact at_res1 () rfl (rv_tmp rfl) .nil trivial (by first | exact congrArg Value.bool (takes_t (by assumption) (by omega)) | exact congrArg Value.bool (takes_f (by assumption) (by omega)) | exact congrArg Value.bool (takes_m (by assumption) (by omega) (by omega)) | exact congrArg Value.bool (one_t (by assumption) (by omega)) | exact congrArg Value.bool (one_m (by assumption) (by omega)))
      have hg12 := Int.not_le.1 (of_decide_eq_false hg12)
      refine sk2 ?_
      refine sp2 hT ?_
      refine nn ?_
      refine at_ret ?_
      refine r_then ?_
      exact at_res1 () rfl (rv_tmp rfl) .nil trivial (by first | exact congrArg Value.bool (takes_t (by assumption) (by omega)) | exact congrArg Value.bool (takes_f (by assumption) (by omega)) | exact congrArg Value.bool (takes_m (by assumption) (by omega) (by omega)) | exact congrArg Value.bool (one_t (by assumption) (by omega)) | exact congrArg Value.bool (one_m (by assumption) (by omega)))
    have hg8 := Int.not_le.1 (of_decide_eq_false hg8)
    refine sk2 ?_
    refine sp2 hT ?_
    refine sk2 ?_
    refine sp2 hT ?_
    refine nn ?_
    refine at_ret ?_
    refine r_then ?_
    exact at_res1 () rfl (rv_tmp rfl) .nil trivial (by first | exact congrArg Value.bool (takes_t (by assumption) (by omega)) | exact congrArg Value.bool (takes_f (by assumption) (by omega)) | exact congrArg Value.bool (takes_m (by assumption) (by omega) (by omega)) | exact congrArg Value.bool (one_t (by assumption) (by omega)) | exact congrArg Value.bool (one_m (by assumption) (by omega)))
  refine at_skip ?_
  refine n_then ?_
  refine sr ?_
  refine sp3 hT ?_
  refine at_case (fun hg18 => ?_) (fun hg18 => ?_)
  · have hg18 := of_decide_eq_true hg18
    refine sp4 hT ?_
    refine at_case (fun hg22 => ?_) (fun hg22 => ?_)
    · have hg22 := of_decide_eq_true hg22
      refine sk2 ?_
      refine sp2 hT ?_
      refine nn ?_
      refine at_ret ?_
      exact at_res1 () rfl (rv_tmp rfl) .nil trivial (by first | exact congrArg Value.bool (takes_t (by assumption) (by omega)) | exact congrArg Value.bool (takes_f (by assumption) (by omega)) | exact congrArg Value.bool (takes_m (by assumption) (by omega) (by omega)) | exact congrArg Value.bool (one_t (by assumption) (by omega)) | exact congrArg Value.bool (one_m (by assumption) (by omega)))
    have hg22 := Int.not_le.1 (of_decide_eq_false hg22)
    refine sp4 hT ?_
    refine nn ?_
    refine at_ret ?_
    exact at_res1 () rfl (rv_tmp rfl) .nil trivial (by first | exact congrArg Value.bool (takes_t (by assumption) (by omega)) | exact congrArg Value.bool (takes_f (by assumption) (by omega)) | exact congrArg Value.bool (takes_m (by assumption) (by omega) (by omega)) | exact congrArg Value.bool (one_t (by assumption) (by omega)) | exact congrArg Value.bool (one_m (by assumption) (by omega)))
  have hg18 := Int.not_le.1 (of_decide_eq_false hg18)
  refine sk2 ?_
  refine sp4 hT ?_
  refine sp2 hT ?_
  refine nn ?_
  refine at_ret ?_
  exact at_res1 () rfl (rv_tmp rfl) .nil trivial (by first | exact congrArg Value.bool (takes_t (by assumption) (by omega)) | exact congrArg Value.bool (takes_f (by assumption) (by omega)) | exact congrArg Value.bool (takes_m (by assumption) (by omega) (by omega)) | exact congrArg Value.bool (one_t (by assumption) (by omega)) | exact congrArg Value.bool (one_m (by assumption) (by omega)))

set_option maxRecDepth 100000 in
theorem rnumber_spec (s : Bs) (t : Bool) : Spec Tryz.prog 92 [.string (bs s), .bool t] [] [] (fun (_ : Unit) => .int .u8 (numberF s t)) (fun _ => []) (fun _ => []) := by
  have hT := refT_ok
  refine spec_of Tryz.func92 rfl Tryz.ntmps92 rfl ?_
  intro β hM
  refine sr ?_
  refine sp hT ?_
  refine nn ?_
  refine at_seq ?_
  refine sr ?_
  refine sp hT ?_
  refine nn ?_
  refine at_block ?_
  refine sr ?_
  refine sp2 hT ?_
  refine nn ?_
  refine at_cond rfl (fun hc6 => ?_) (fun hc6 => ?_)
  · have hc6 : s = ([43] : Bs) := eq_of_beq hc6
    refine sr ?_
    refine sp hT ?_
    refine nn ?_
    refine at_ret ?_
    refine r_block ?_
    refine r_then ?_
    exact at_res1 () rfl (rv_tmp rfl) .nil trivial (by simp [numberF, *])
  have hc6 : s ≠ ([43] : Bs) := fun h => absurd (beq_iff_eq.2 h) (by rw [show (s == ([43] : Bs)) = false from hc6]; simp)
  refine sr ?_
  refine sp2 hT ?_
  refine nn ?_
  refine at_cond rfl (fun hc8 => ?_) (fun hc8 => ?_)
  · have hc8 : s = ([45] : Bs) := eq_of_beq hc8
    refine sr ?_
    refine sp hT ?_
    refine nn ?_
    refine at_ret ?_
    refine r_block ?_
    refine r_then ?_
    exact at_res1 () rfl (rv_tmp rfl) .nil trivial (by simp [numberF, *])
  have hc8 : s ≠ ([45] : Bs) := fun h => absurd (beq_iff_eq.2 h) (by rw [show (s == ([45] : Bs)) = false from hc8]; simp)
  refine sr ?_
  refine sp2 hT ?_
  refine nn ?_
  refine at_cond rfl (fun hc10 => ?_) (fun hc10 => ?_)
  · have hc10 : s = ([42] : Bs) := eq_of_beq hc10
    refine sr ?_
    refine sp hT ?_
    refine nn ?_
    refine at_ret ?_
    refine r_block ?_
    refine r_then ?_
    exact at_res1 () rfl (rv_tmp rfl) .nil trivial (by simp [numberF, *])
  have hc10 : s ≠ ([42] : Bs) := fun h => absurd (beq_iff_eq.2 h) (by rw [show (s == ([42] : Bs)) = false from hc10]; simp)
  refine sr ?_
  refine sp2 hT ?_
  refine nn ?_
  refine at_cond rfl (fun hc12 => ?_) (fun hc12 => ?_)
  · have hc12 : s = ([37] : Bs) := eq_of_beq hc12
    refine sr ?_
    refine sp hT ?_
    refine nn ?_
    refine at_ret ?_
    refine r_block ?_
    refine r_then ?_
    exact at_res1 () rfl (rv_tmp rfl) .nil trivial (by simp [numberF, *])
  have hc12 : s ≠ ([37] : Bs) := fun h => absurd (beq_iff_eq.2 h) (by rw [show (s == ([37] : Bs)) = false from hc12]; simp)
  refine sr ?_
  refine sp2 hT ?_
  refine nn ?_
  refine at_cond rfl (fun hc14 => ?_) (fun hc14 => ?_)
  · have hc14 : s = ([124] : Bs) := eq_of_beq hc14
    refine sr ?_
    refine sp hT ?_
    refine nn ?_
    refine at_ret ?_
    refine r_block ?_
    refine r_then ?_
    exact at_res1 () rfl (rv_tmp rfl) .nil trivial (by simp [numberF, *])
  have hc14 : s ≠ ([124] : Bs) := fun h => absurd (beq_iff_eq.2 h) (by rw [show (s == ([124] : Bs)) = false from hc14]; simp)
  refine sr ?_
  refine sp2 hT ?_
  refine nn ?_
  refine at_cond rfl (fun hc16 => ?_) (fun hc16 => ?_)
  · have hc16 : s = ([109, 105, 110] : Bs) := eq_of_beq hc16
    refine sr ?_
    refine sp hT ?_
    refine nn ?_
    refine at_ret ?_
    refine r_block ?_
    refine r_then ?_
    exact at_res1 () rfl (rv_tmp rfl) .nil trivial (by simp [numberF, *])
  have hc16 : s ≠ ([109, 105, 110] : Bs) := fun h => absurd (beq_iff_eq.2 h) (by rw [show (s == ([109, 105, 110] : Bs)) = false from hc16]; simp)
  refine sr ?_
  refine sp2 hT ?_
  refine nn ?_
  refine at_cond rfl (fun hc18 => ?_) (fun hc18 => ?_)
  · have hc18 : s = ([109, 97, 120] : Bs) := eq_of_beq hc18
    refine sr ?_
    refine sp hT ?_
    refine nn ?_
    refine at_ret ?_
    refine r_block ?_
    refine r_then ?_
    exact at_res1 () rfl (rv_tmp rfl) .nil trivial (by simp [numberF, *])
  have hc18 : s ≠ ([109, 97, 120] : Bs) := fun h => absurd (beq_iff_eq.2 h) (by rw [show (s == ([109, 97, 120] : Bs)) = false from hc18]; simp)
  refine sr ?_
  refine sp2 hT ?_
  refine nn ?_
  refine at_cond rfl (fun hc20 => ?_) (fun hc20 => ?_)
  · have hc20 : s = ([61] : Bs) := eq_of_beq hc20
    refine sr ?_
    refine sp hT ?_
    refine nn ?_
    refine at_ret ?_
    refine r_block ?_
    refine r_then ?_
    exact at_res1 () rfl (rv_tmp rfl) .nil trivial (by simp [numberF, *])
  have hc20 : s ≠ ([61] : Bs) := fun h => absurd (beq_iff_eq.2 h) (by rw [show (s == ([61] : Bs)) = false from hc20]; simp)
  refine sr ?_
  refine sp2 hT ?_
  refine nn ?_
  refine at_cond rfl (fun hc22 => ?_) (fun hc22 => ?_)
  · have hc22 : s = ([60] : Bs) := eq_of_beq hc22
    refine sr ?_
    refine sp hT ?_
    refine nn ?_
    refine at_ret ?_
    refine r_block ?_
    refine r_then ?_
    exact at_res1 () rfl (rv_tmp rfl) .nil trivial (by simp [numberF, *])
  have hc22 : s ≠ ([60] : Bs) := fun h => absurd (beq_iff_eq.2 h) (by rw [show (s == ([60] : Bs)) = false from hc22]; simp)
  refine sr ?_
  refine sp2 hT ?_
  refine nn ?_
  refine at_cond rfl (fun hc24 => ?_) (fun hc24 => ?_)
  · have hc24 : s = ([60, 61] : Bs) := eq_of_beq hc24
    refine sr ?_
    refine sp hT ?_
    refine nn ?_
    refine at_ret ?_
    refine r_block ?_
    refine r_then ?_
    exact at_res1 () rfl (rv_tmp rfl) .nil trivial (by simp [numberF, *])
  have hc24 : s ≠ ([60, 61] : Bs) := fun h => absurd (beq_iff_eq.2 h) (by rw [show (s == ([60, 61] : Bs)) = false from hc24]; simp)
  refine sr ?_
  refine sp2 hT ?_
  refine nn ?_
  refine at_cond rfl (fun hc26 => ?_) (fun hc26 => ?_)
  · have hc26 : s = ([62, 61] : Bs) := eq_of_beq hc26
    refine sr ?_
    refine sp hT ?_
    refine nn ?_
    refine at_ret ?_
    refine r_block ?_
    refine r_then ?_
    exact at_res1 () rfl (rv_tmp rfl) .nil trivial (by simp [numberF, *])
  have hc26 : s ≠ ([62, 61] : Bs) := fun h => absurd (beq_iff_eq.2 h) (by rw [show (s == ([62, 61] : Bs)) = false from hc26]; simp)
  refine sr ?_
  refine sp2 hT ?_
  refine nn ?_
  refine at_cond rfl (fun hc28 => ?_) (fun hc28 => ?_)
  · have hc28 : s = ([62] : Bs) := eq_of_beq hc28
    refine sr ?_
    refine sp hT ?_
    refine nn ?_
    refine at_ret ?_
    refine r_block ?_
    refine r_then ?_
    exact at_res1 () rfl (rv_tmp rfl) .nil trivial (by simp [numberF, *])
  have hc28 : s ≠ ([62] : Bs) := fun h => absurd (beq_iff_eq.2 h) (by rw [show (s == ([62] : Bs)) = false from hc28]; simp)
  refine sr ?_
  refine sp2 hT ?_
  refine nn ?_
  refine at_cond rfl (fun hc30 => ?_) (fun hc30 => ?_)
  · have hc30 : s = ([97, 110, 100] : Bs) := eq_of_beq hc30
    refine sr ?_
    refine sp hT ?_
    refine nn ?_
    refine at_ret ?_
    refine r_block ?_
    refine r_then ?_
    exact at_res1 () rfl (rv_tmp rfl) .nil trivial (by simp [numberF, *])
  have hc30 : s ≠ ([97, 110, 100] : Bs) := fun h => absurd (beq_iff_eq.2 h) (by rw [show (s == ([97, 110, 100] : Bs)) = false from hc30]; simp)
  refine sr ?_
  refine sp2 hT ?_
  refine nn ?_
  refine at_cond rfl (fun hc32 => ?_) (fun hc32 => ?_)
  · have hc32 : s = ([111, 114] : Bs) := eq_of_beq hc32
    refine sr ?_
    refine sp hT ?_
    refine nn ?_
    refine at_ret ?_
    refine r_block ?_
    refine r_then ?_
    exact at_res1 () rfl (rv_tmp rfl) .nil trivial (by simp [numberF, *])
  have hc32 : s ≠ ([111, 114] : Bs) := fun h => absurd (beq_iff_eq.2 h) (by rw [show (s == ([111, 114] : Bs)) = false from hc32]; simp)
  refine sr ?_
  refine sp2 hT ?_
  refine nn ?_
  refine at_cond rfl (fun hc34 => ?_) (fun hc34 => ?_)
  · have hc34 : s = ([112, 111, 119] : Bs) := eq_of_beq hc34
    refine sr ?_
    refine sp hT ?_
    refine nn ?_
    refine at_ret ?_
    refine r_block ?_
    refine r_then ?_
    exact at_res1 () rfl (rv_tmp rfl) .nil trivial (by simp [numberF, *])
  have hc34 : s ≠ ([112, 111, 119] : Bs) := fun h => absurd (beq_iff_eq.2 h) (by rw [show (s == ([112, 111, 119] : Bs)) = false from hc34]; simp)
  refine sr ?_
  refine sp2 hT ?_
  refine nn ?_
  refine at_cond rfl (fun hc36 => ?_) (fun hc36 => ?_)
  · have hc36 : s = ([126] : Bs) := eq_of_beq hc36
    refine at_seq ?_
    refine sr ?_
    refine sp hT ?_
    refine nn ?_
    refine at_cond rfl (fun hc38 => ?_) (fun hc38 => ?_)
    · refine sr ?_
      refine sp hT ?_
      refine nn ?_
      refine at_ret ?_
      refine r_then ?_
      refine r_block ?_
      refine r_then ?_
      exact at_res1 () rfl (rv_tmp rfl) .nil trivial (by simp [numberF, *])
    refine at_skip ?_
    refine n_then ?_
    refine sr ?_
    refine sp hT ?_
    refine nn ?_
    refine at_ret ?_
    refine r_block ?_
    refine r_then ?_
    exact at_res1 () rfl (rv_tmp rfl) .nil trivial (by simp [numberF, *])
  have hc36 : s ≠ ([126] : Bs) := fun h => absurd (beq_iff_eq.2 h) (by rw [show (s == ([126] : Bs)) = false from hc36]; simp)
  refine at_skip ?_
  refine n_block ?_
  refine n_then ?_
  refine sr ?_
  refine sp hT ?_
  refine nn ?_
  refine at_ret ?_
  exact at_res1 () rfl (rv_tmp rfl) .nil trivial (by simp [numberF, *])

set_option maxRecDepth 100000 in
theorem rVerb_spec (s : Bs) (t : Bool) : Spec Tryz.prog 75 [.string (bs s), .bool t] [] [] (fun (_ : Unit) => .tuple #[.int .u8 (verbF s t), .bool (verbF s t != 0)]) (fun _ => []) (fun _ => []) := by
  have hT := refT_ok
  rw [← refVerb_eq]
  refine spec_of Tryz.func75 rfl Tryz.ntmps75 rfl ?_
  intro β hM
  refine sr ?_
  refine sp2 hT ?_
  refine nn ?_
  refine sr ?_
  refine sp2 hT ?_
  refine at_call (callFunc_enter Tryz.func92 rfl rfl) (rnumber_spec s t) rfl rfl rfl rfl rfl .nil trivial fun _ => ?_
  refine sp hT ?_
  refine nn ?_
  refine at_seq ?_
  refine sr ?_
  refine sp2 hT ?_
  refine nn ?_
  refine at_cond rfl (fun hc11 => ?_) (fun hc11 => ?_)
  · have hc11 := bne_iff_ne.1 hc11
    refine at_seq ?_
    refine sr ?_
    refine sp2 hT ?_
    refine at_call (callFunc_enter Tryz.func71 rfl rfl) (rtakes_spec _ t) rfl rfl rfl rfl rfl .nil trivial fun _ => ?_
    refine nn ?_
    refine at_cond rfl (fun hc14 => ?_) (fun hc14 => ?_)
    · refine sr ?_
      refine sp3 hT ?_
      refine nn ?_
      refine at_ret ?_
      refine r_then ?_
      refine r_then ?_
      exact at_res2 () rfl (rv_tmp rfl) (rv_tmp rfl) .nil trivial (by first | (simp [refVerbF, *]; done) | (subst_vars; rfl))
    refine at_skip ?_
    refine n_then ?_
    refine sr ?_
    refine sp2 hT ?_
    refine nn ?_
    refine at_ret ?_
    refine r_then ?_
    exact at_res2 () rfl (rv_tmp rfl) (rv_tmp rfl) .nil trivial (by first | (simp [refVerbF, *]; done) | (subst_vars; rfl))
  have hc11 := bne_eq_false_iff_eq.1 hc11
  refine at_skip ?_
  refine n_then ?_
  refine at_seq ?_
  refine sr ?_
  refine sp hT ?_
  refine nn ?_
  refine at_block ?_
  refine sr ?_
  refine sp2 hT ?_
  refine nn ?_
  refine at_cond rfl (fun hc17 => ?_) (fun hc17 => ?_)
  · have hc17 : s = ([114, 104, 111] : Bs) := eq_of_beq hc17
    refine at_region ?_
    refine sp hT ?_
    refine at_nil ?_
    refine n_block ?_
    refine n_then ?_
    refine at_seq ?_
    refine sr ?_
    refine sp2 hT ?_
    refine at_bool (t' := true) (by decide) ?_
    refine nn ?_
    refine at_true rfl rfl ?_
    refine at_seq ?_
    refine sr ?_
    refine sp hT ?_
    refine nn ?_
    refine at_cond rfl (fun hc27 => ?_) (fun hc27 => ?_)
    · refine sr ?_
      refine sp3 hT ?_
      refine nn ?_
      refine at_ret ?_
      refine r_then ?_
      refine r_then ?_
      exact at_res2 () rfl (rv_tmp rfl) (rv_tmp rfl) .nil trivial (by first | (simp [refVerbF, *]; done) | (subst_vars; rfl))
    refine at_skip ?_
    refine n_then ?_
    refine sr ?_
    refine sp2 hT ?_
    refine nn ?_
    refine at_ret ?_
    refine r_then ?_
    exact at_res2 () rfl (rv_tmp rfl) (rv_tmp rfl) .nil trivial (by first | (simp [refVerbF, *]; done) | (subst_vars; rfl))
  have hc17 : s ≠ ([114, 104, 111] : Bs) := fun h => absurd (beq_iff_eq.2 h) (by rw [show (s == ([114, 104, 111] : Bs)) = false from hc17]; simp)
  refine sr ?_
  refine sp2 hT ?_
  refine nn ?_
  refine at_cond rfl (fun hc19 => ?_) (fun hc19 => ?_)
  · have hc19 : s = ([116, 97, 107, 101] : Bs) := eq_of_beq hc19
    refine at_region ?_
    refine sp hT ?_
    refine at_nil ?_
    refine n_block ?_
    refine n_then ?_
    refine at_seq ?_
    refine sr ?_
    refine sp2 hT ?_
    refine at_bool (t' := true) (by decide) ?_
    refine nn ?_
    refine at_true rfl rfl ?_
    refine at_seq ?_
    refine sr ?_
    refine sp hT ?_
    refine nn ?_
    refine at_cond rfl (fun hc27 => ?_) (fun hc27 => ?_)
    · refine sr ?_
      refine sp3 hT ?_
      refine nn ?_
      refine at_ret ?_
      refine r_then ?_
      refine r_then ?_
      exact at_res2 () rfl (rv_tmp rfl) (rv_tmp rfl) .nil trivial (by first | (simp [refVerbF, *]; done) | (subst_vars; rfl))
    refine at_skip ?_
    refine n_then ?_
    refine sr ?_
    refine sp2 hT ?_
    refine nn ?_
    refine at_ret ?_
    refine r_then ?_
    exact at_res2 () rfl (rv_tmp rfl) (rv_tmp rfl) .nil trivial (by first | (simp [refVerbF, *]; done) | (subst_vars; rfl))
  have hc19 : s ≠ ([116, 97, 107, 101] : Bs) := fun h => absurd (beq_iff_eq.2 h) (by rw [show (s == ([116, 97, 107, 101] : Bs)) = false from hc19]; simp)
  refine sr ?_
  refine sp2 hT ?_
  refine nn ?_
  refine at_cond rfl (fun hc21 => ?_) (fun hc21 => ?_)
  · have hc21 : s = ([100, 114, 111, 112] : Bs) := eq_of_beq hc21
    refine at_region ?_
    refine sp hT ?_
    refine at_nil ?_
    refine n_block ?_
    refine n_then ?_
    refine at_seq ?_
    refine sr ?_
    refine sp2 hT ?_
    refine at_bool (t' := true) (by decide) ?_
    refine nn ?_
    refine at_true rfl rfl ?_
    refine at_seq ?_
    refine sr ?_
    refine sp hT ?_
    refine nn ?_
    refine at_cond rfl (fun hc27 => ?_) (fun hc27 => ?_)
    · refine sr ?_
      refine sp3 hT ?_
      refine nn ?_
      refine at_ret ?_
      refine r_then ?_
      refine r_then ?_
      exact at_res2 () rfl (rv_tmp rfl) (rv_tmp rfl) .nil trivial (by first | (simp [refVerbF, *]; done) | (subst_vars; rfl))
    refine at_skip ?_
    refine n_then ?_
    refine sr ?_
    refine sp2 hT ?_
    refine nn ?_
    refine at_ret ?_
    refine r_then ?_
    exact at_res2 () rfl (rv_tmp rfl) (rv_tmp rfl) .nil trivial (by first | (simp [refVerbF, *]; done) | (subst_vars; rfl))
  have hc21 : s ≠ ([100, 114, 111, 112] : Bs) := fun h => absurd (beq_iff_eq.2 h) (by rw [show (s == ([100, 114, 111, 112] : Bs)) = false from hc21]; simp)
  refine sr ?_
  refine sp2 hT ?_
  refine nn ?_
  refine at_cond rfl (fun hc23 => ?_) (fun hc23 => ?_)
  · have hc23 : s = ([99, 97, 116] : Bs) := eq_of_beq hc23
    refine at_region ?_
    refine sp hT ?_
    refine at_nil ?_
    refine n_block ?_
    refine n_then ?_
    refine at_seq ?_
    refine sr ?_
    refine sp2 hT ?_
    refine at_bool (t' := true) (by decide) ?_
    refine nn ?_
    refine at_true rfl rfl ?_
    refine at_seq ?_
    refine sr ?_
    refine sp hT ?_
    refine nn ?_
    refine at_cond rfl (fun hc27 => ?_) (fun hc27 => ?_)
    · refine sr ?_
      refine sp3 hT ?_
      refine nn ?_
      refine at_ret ?_
      refine r_then ?_
      refine r_then ?_
      exact at_res2 () rfl (rv_tmp rfl) (rv_tmp rfl) .nil trivial (by first | (simp [refVerbF, *]; done) | (subst_vars; rfl))
    refine at_skip ?_
    refine n_then ?_
    refine sr ?_
    refine sp2 hT ?_
    refine nn ?_
    refine at_ret ?_
    refine r_then ?_
    exact at_res2 () rfl (rv_tmp rfl) (rv_tmp rfl) .nil trivial (by first | (simp [refVerbF, *]; done) | (subst_vars; rfl))
  have hc23 : s ≠ ([99, 97, 116] : Bs) := fun h => absurd (beq_iff_eq.2 h) (by rw [show (s == ([99, 97, 116] : Bs)) = false from hc23]; simp)
  refine at_skip ?_
  refine n_block ?_
  refine n_then ?_
  refine at_seq ?_
  refine sr ?_
  refine sp2 hT ?_
  refine at_bool (t' := false) ((congrArg not (show ((numberF s t) == 0) = true from (by rw [hc11]; rfl)) : (!_) = _)) ?_
  refine nn ?_
  refine at_false rfl rfl ?_
  refine at_skip ?_
  refine n_then ?_
  refine at_seq ?_
  refine sr ?_
  refine sp hT ?_
  refine nn ?_
  refine at_block ?_
  refine sr ?_
  refine sp2 hT ?_
  refine nn ?_
  refine at_cond rfl (fun hc30 => ?_) (fun hc30 => ?_)
  · have hc30 : s = ([105, 111, 116, 97] : Bs) := eq_of_beq hc30
    refine at_region ?_
    refine sp hT ?_
    refine at_nil ?_
    refine n_block ?_
    refine n_then ?_
    refine at_seq ?_
    refine sr ?_
    refine sp2 hT ?_
    refine at_bool (t' := false) (by decide) ?_
    refine sp3 hT ?_
    refine nn ?_
    refine at_cond rfl (fun hc44 => ?_) (fun hc44 => ?_)
    · refine sr ?_
      refine sp2 hT ?_
      refine nn ?_
      refine at_ret ?_
      refine r_then ?_
      exact at_res2 () rfl (rv_tmp rfl) (rv_tmp rfl) .nil trivial (by first | (simp [refVerbF, *]; done) | (subst_vars; rfl))
    refine at_skip ?_
    refine n_then ?_
    refine sr ?_
    refine sp3 hT ?_
    refine nn ?_
    refine at_ret ?_
    exact at_res2 () rfl (rv_tmp rfl) (rv_tmp rfl) .nil trivial (by first | (simp [refVerbF, *]; done) | (subst_vars; rfl))
  have hc30 : s ≠ ([105, 111, 116, 97] : Bs) := fun h => absurd (beq_iff_eq.2 h) (by rw [show (s == ([105, 111, 116, 97] : Bs)) = false from hc30]; simp)
  refine sr ?_
  refine sp2 hT ?_
  refine nn ?_
  refine at_cond rfl (fun hc32 => ?_) (fun hc32 => ?_)
  · have hc32 : s = ([115, 104, 97, 112, 101] : Bs) := eq_of_beq hc32
    refine at_region ?_
    refine sp hT ?_
    refine at_nil ?_
    refine n_block ?_
    refine n_then ?_
    refine at_seq ?_
    refine sr ?_
    refine sp2 hT ?_
    refine at_bool (t' := false) (by decide) ?_
    refine sp3 hT ?_
    refine nn ?_
    refine at_cond rfl (fun hc44 => ?_) (fun hc44 => ?_)
    · refine sr ?_
      refine sp2 hT ?_
      refine nn ?_
      refine at_ret ?_
      refine r_then ?_
      exact at_res2 () rfl (rv_tmp rfl) (rv_tmp rfl) .nil trivial (by first | (simp [refVerbF, *]; done) | (subst_vars; rfl))
    refine at_skip ?_
    refine n_then ?_
    refine sr ?_
    refine sp3 hT ?_
    refine nn ?_
    refine at_ret ?_
    exact at_res2 () rfl (rv_tmp rfl) (rv_tmp rfl) .nil trivial (by first | (simp [refVerbF, *]; done) | (subst_vars; rfl))
  have hc32 : s ≠ ([115, 104, 97, 112, 101] : Bs) := fun h => absurd (beq_iff_eq.2 h) (by rw [show (s == ([115, 104, 97, 112, 101] : Bs)) = false from hc32]; simp)
  refine sr ?_
  refine sp2 hT ?_
  refine nn ?_
  refine at_cond rfl (fun hc34 => ?_) (fun hc34 => ?_)
  · have hc34 : s = ([114, 97, 118, 101, 108] : Bs) := eq_of_beq hc34
    refine at_region ?_
    refine sp hT ?_
    refine at_nil ?_
    refine n_block ?_
    refine n_then ?_
    refine at_seq ?_
    refine sr ?_
    refine sp2 hT ?_
    refine at_bool (t' := false) (by decide) ?_
    refine sp3 hT ?_
    refine nn ?_
    refine at_cond rfl (fun hc44 => ?_) (fun hc44 => ?_)
    · refine sr ?_
      refine sp2 hT ?_
      refine nn ?_
      refine at_ret ?_
      refine r_then ?_
      exact at_res2 () rfl (rv_tmp rfl) (rv_tmp rfl) .nil trivial (by first | (simp [refVerbF, *]; done) | (subst_vars; rfl))
    refine at_skip ?_
    refine n_then ?_
    refine sr ?_
    refine sp3 hT ?_
    refine nn ?_
    refine at_ret ?_
    exact at_res2 () rfl (rv_tmp rfl) (rv_tmp rfl) .nil trivial (by first | (simp [refVerbF, *]; done) | (subst_vars; rfl))
  have hc34 : s ≠ ([114, 97, 118, 101, 108] : Bs) := fun h => absurd (beq_iff_eq.2 h) (by rw [show (s == ([114, 97, 118, 101, 108] : Bs)) = false from hc34]; simp)
  refine sr ?_
  refine sp2 hT ?_
  refine nn ?_
  refine at_cond rfl (fun hc36 => ?_) (fun hc36 => ?_)
  · have hc36 : s = ([114, 101, 118] : Bs) := eq_of_beq hc36
    refine at_region ?_
    refine sp hT ?_
    refine at_nil ?_
    refine n_block ?_
    refine n_then ?_
    refine at_seq ?_
    refine sr ?_
    refine sp2 hT ?_
    refine at_bool (t' := false) (by decide) ?_
    refine sp3 hT ?_
    refine nn ?_
    refine at_cond rfl (fun hc44 => ?_) (fun hc44 => ?_)
    · refine sr ?_
      refine sp2 hT ?_
      refine nn ?_
      refine at_ret ?_
      refine r_then ?_
      exact at_res2 () rfl (rv_tmp rfl) (rv_tmp rfl) .nil trivial (by first | (simp [refVerbF, *]; done) | (subst_vars; rfl))
    refine at_skip ?_
    refine n_then ?_
    refine sr ?_
    refine sp3 hT ?_
    refine nn ?_
    refine at_ret ?_
    exact at_res2 () rfl (rv_tmp rfl) (rv_tmp rfl) .nil trivial (by first | (simp [refVerbF, *]; done) | (subst_vars; rfl))
  have hc36 : s ≠ ([114, 101, 118] : Bs) := fun h => absurd (beq_iff_eq.2 h) (by rw [show (s == ([114, 101, 118] : Bs)) = false from hc36]; simp)
  refine sr ?_
  refine sp2 hT ?_
  refine nn ?_
  refine at_cond rfl (fun hc38 => ?_) (fun hc38 => ?_)
  · have hc38 : s = ([116, 117, 114, 110] : Bs) := eq_of_beq hc38
    refine at_region ?_
    refine sp hT ?_
    refine at_nil ?_
    refine n_block ?_
    refine n_then ?_
    refine at_seq ?_
    refine sr ?_
    refine sp2 hT ?_
    refine at_bool (t' := false) (by decide) ?_
    refine sp3 hT ?_
    refine nn ?_
    refine at_cond rfl (fun hc44 => ?_) (fun hc44 => ?_)
    · refine sr ?_
      refine sp2 hT ?_
      refine nn ?_
      refine at_ret ?_
      refine r_then ?_
      exact at_res2 () rfl (rv_tmp rfl) (rv_tmp rfl) .nil trivial (by first | (simp [refVerbF, *]; done) | (subst_vars; rfl))
    refine at_skip ?_
    refine n_then ?_
    refine sr ?_
    refine sp3 hT ?_
    refine nn ?_
    refine at_ret ?_
    exact at_res2 () rfl (rv_tmp rfl) (rv_tmp rfl) .nil trivial (by first | (simp [refVerbF, *]; done) | (subst_vars; rfl))
  have hc38 : s ≠ ([116, 117, 114, 110] : Bs) := fun h => absurd (beq_iff_eq.2 h) (by rw [show (s == ([116, 117, 114, 110] : Bs)) = false from hc38]; simp)
  refine at_skip ?_
  refine n_block ?_
  refine n_then ?_
  refine at_seq ?_
  refine sr ?_
  refine sp2 hT ?_
  refine at_bool (t' := true) (by rw [hc11]; rfl) ?_
  refine sp hT ?_
  refine sk ?_
  refine sp hT ?_
  refine nn ?_
  refine at_true rfl rfl ?_
  refine sr ?_
  refine sp2 hT ?_
  refine nn ?_
  refine at_ret ?_
  refine r_then ?_
  exact at_res2 () rfl (rv_tmp rfl) (rv_tmp rfl) .nil trivial (by first | (simp [refVerbF, *]; done) | (subst_vars; rfl))

set_option maxRecDepth 100000 in
theorem rAny_spec (s : Bs) : Spec Tryz.prog 50 [.string (bs s)] [] [] (fun (_ : Unit) => .bool (verbB s)) (fun _ => []) (fun _ => []) := by
  have hT := refT_ok
  refine spec_of Tryz.func50 rfl Tryz.ntmps50 rfl ?_
  intro β hM
  refine sr ?_
  refine sp hT ?_
  refine nn ?_
  refine sr ?_
  refine sp hT ?_
  refine at_call (callFunc_enter Tryz.func75 rfl rfl) (rVerb_spec s false) rfl rfl rfl rfl rfl .nil trivial fun _ => ?_
  refine sp4 hT ?_
  refine sp hT ?_
  refine nn ?_
  refine sr ?_
  refine sp hT ?_
  refine at_call (callFunc_enter Tryz.func75 rfl rfl) (rVerb_spec s true) rfl rfl rfl rfl rfl .nil trivial fun _ => ?_
  refine sp4 hT ?_
  refine sp hT ?_
  refine nn ?_
  refine sr ?_
  refine sp2 hT ?_
  refine at_case (fun hg18 => ?_) (fun hg18 => ?_)
  · refine sk ?_
    refine sp2 hT ?_
    refine nn ?_
    refine at_ret ?_
    exact at_res1 () rfl (rv_tmp rfl) .nil trivial (by first | exact congrArg Value.bool (any_a (by assumption)) | exact congrArg Value.bool (any_b (by assumption)))
  refine sp3 hT ?_
  refine nn ?_
  refine at_ret ?_
  exact at_res1 () rfl (rv_tmp rfl) .nil trivial (by first | exact congrArg Value.bool (any_a (by assumption)) | exact congrArg Value.bool (any_b (by assumption)))

set_option maxRecDepth 100000 in
theorem rspell0_spec  : Spec Tryz.prog 49 [.agg #[.int .i64 1, .int .i64 0, .string (bs []), .int .i64 0]] [] [] (fun (_ : Unit) => .tuple #[.string (bs []), .bool false]) (fun _ => []) (fun _ => []) := by
  have hT := refT_ok
  refine spec_of Tryz.func49 rfl Tryz.ntmps49 rfl ?_
  intro β hM
  refine sr ?_
  refine at_box rfl rfl rfl rfl rfl rfl fun b1 => ?_
  refine sp2 hT ?_
  refine nn ?_
  refine sr ?_
  refine sp hT ?_
  refine ss (ldO hT (knows_own (off := 2) .head)) ?_
  refine sp hT ?_
  refine nn ?_
  refine at_seq ?_
  refine sr ?_
  refine sp hT ?_
  refine ss (ldO hT (knows_own (off := 0) .head)) ?_
  refine nn ?_
  refine at_block ?_
  refine sr ?_
  refine sp hT ?_
  refine at_bool (t' := false) (by decide) ?_
  refine sp hT ?_
  refine nn ?_
  refine at_false rfl rfl ?_
  refine sr ?_
  refine sp hT ?_
  refine at_bool (t' := false) (by decide) ?_
  refine sp hT ?_
  refine nn ?_
  refine at_false rfl rfl ?_
  refine at_skip ?_
  refine n_block ?_
  refine n_then ?_
  refine at_seq ?_
  refine sr ?_
  refine sp2 hT ?_
  refine at_int (z' := ((([] : Bs).length : Nat) : Int)) rfl ?_
  refine sp hT ?_
  refine at_bool (t' := true) (by rfl) ?_
  refine sp hT ?_
  refine sk3 ?_
  refine sp2 hT ?_
  refine sk3 ?_
  refine sp2 hT ?_
  refine sk3 ?_
  refine sp2 hT ?_
  refine sk3 ?_
  refine sp hT ?_
  refine nn ?_
  refine at_true rfl rfl ?_
  refine sr ?_
  refine sp2 hT ?_
  refine nn ?_
  refine at_ret ?_
  refine r_then ?_
  exact at_res2 () rfl (rv_tmp rfl) (rv_tmp rfl) .nil trivial (rfl)

set_option maxRecDepth 100000 in
theorem rName_spec (s : Bs) : Spec Tryz.prog 31 [.string (bs s)] [] [] (fun (_ : Unit) => .bool (nameB s)) (fun _ => []) (fun _ => []) := by
  have hT := refT_ok
  rw [← nameR_eq]
  refine spec_of Tryz.func31 rfl Tryz.ntmps31 rfl ?_
  intro β hM
  refine sr ?_
  refine sp hT ?_
  refine nn ?_
  refine at_seq ?_
  rcases s with _ | ⟨b, r⟩
  · refine at_region ?_
    refine sp hT ?_
    refine ss (sti_build rfl rfl (rrtakes_built_api_Token_02 _ _)) ?_
    refine at_call (callFunc_enter Tryz.func49 rfl rfl) (rspell0_spec) rfl rfl rfl rfl rfl .nil trivial fun _ => ?_
    refine sp4 hT ?_
    refine sp hT ?_
    refine nn ?_
    refine sr ?_
    refine sp2 hT ?_
    refine sk3 ?_
    refine sp2 hT ?_
    refine sk3 ?_
    refine sp2 hT ?_
    refine sk2 ?_
    refine sp2 hT ?_
    refine sk2 ?_
    refine sp2 hT ?_
    refine nn ?_
    refine at_ret ?_
    exact at_res1 () rfl (rv_tmp rfl) .nil trivial (by first | exact congrArg Value.bool nm_0 | exact congrArg Value.bool (nm_a (by assumption)) | exact congrArg Value.bool (nm_b (by assumption)) | exact congrArg Value.bool (nm_c (by assumption)) | exact congrArg Value.bool (nm_d (by assumption) (by assumption) (by assumption)))
  refine at_region ?_
  refine sp hT ?_
  refine ss (sti_build rfl rfl (rrtakes_built_api_Token_02 _ _)) ?_
  refine at_call (callFunc_enter Tryz.func49 rfl rfl) (rspellW_spec b r) rfl rfl rfl rfl rfl .nil trivial fun _ => ?_
  refine sp4 hT ?_
  refine sp hT ?_
  refine nn ?_
  refine sr ?_
  refine sp2 hT ?_
  refine at_case (fun hg12 => ?_) (fun hg12 => ?_)
  · refine sp3 hT ?_
    refine at_bool (t' := true) (by simp [*]) ?_
    refine sp3 hT ?_
    refine at_call (callFunc_enter Tryz.func50 rfl rfl) (rAny_spec (b :: r)) rfl rfl rfl rfl rfl .nil trivial fun _ => ?_
    refine sp3 hT ?_
    refine at_case (fun hg22 => ?_) (fun hg22 => ?_)
    · have hg22 := not_t hg22
      refine sp4 hT ?_
      refine at_case (fun hg26 => ?_) (fun hg26 => ?_)
      · have hg26 : (b :: r) ≠ ([105, 110] : Bs) := fun h => by rw [h] at hg26; first | (simp at hg26; done) | exact absurd hg26 (by decide)
        refine sp4 hT ?_
        refine nn ?_
        refine at_ret ?_
        exact at_res1 () rfl (rv_tmp rfl) .nil trivial (by first | exact congrArg Value.bool nm_0 | exact congrArg Value.bool (nm_a (by assumption)) | exact congrArg Value.bool (nm_b (by assumption)) | exact congrArg Value.bool (nm_c (by assumption)) | exact congrArg Value.bool (nm_d (by assumption) (by assumption) (by assumption)))
      have hg26 : (b :: r) = ([105, 110] : Bs) := eq_of_beq (not_f hg26)
      refine sk2 ?_
      refine sp2 hT ?_
      refine nn ?_
      refine at_ret ?_
      exact at_res1 () rfl (rv_tmp rfl) .nil trivial (by first | exact congrArg Value.bool nm_0 | exact congrArg Value.bool (nm_a (by assumption)) | exact congrArg Value.bool (nm_b (by assumption)) | exact congrArg Value.bool (nm_c (by assumption)) | exact congrArg Value.bool (nm_d (by assumption) (by assumption) (by assumption)))
    have hg22 := not_f hg22
    refine sk2 ?_
    refine sp2 hT ?_
    refine sk2 ?_
    refine sp2 hT ?_
    refine nn ?_
    refine at_ret ?_
    exact at_res1 () rfl (rv_tmp rfl) .nil trivial (by first | exact congrArg Value.bool nm_0 | exact congrArg Value.bool (nm_a (by assumption)) | exact congrArg Value.bool (nm_b (by assumption)) | exact congrArg Value.bool (nm_c (by assumption)) | exact congrArg Value.bool (nm_d (by assumption) (by assumption) (by assumption)))
  refine sk3 ?_
  refine sp2 hT ?_
  refine sk3 ?_
  refine sp2 hT ?_
  refine sk2 ?_
  refine sp2 hT ?_
  refine sk2 ?_
  refine sp2 hT ?_
  refine nn ?_
  refine at_ret ?_
  exact at_res1 () rfl (rv_tmp rfl) .nil trivial (by first | exact congrArg Value.bool nm_0 | exact congrArg Value.bool (nm_a (by assumption)) | exact congrArg Value.bool (nm_b (by assumption)) | exact congrArg Value.bool (nm_c (by assumption)) | exact congrArg Value.bool (nm_d (by assumption) (by assumption) (by assumption)))

end Go.Proofs.YtngkedmndhmjcaaGreatDoor
