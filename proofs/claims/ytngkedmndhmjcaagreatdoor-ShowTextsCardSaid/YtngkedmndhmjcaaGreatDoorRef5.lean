/- Walks of the reference's layer 5: the words, a verb's text, operands, brackets. (Printed by wip/gen/ref5.py.) -/
import Derived.Test.YtngkedmndhmjcaaGreatDoorRef4
namespace Go.Proofs.YtngkedmndhmjcaaGreatDoor
open Go.RowKit

def wordParts : List (Nat × Value) := verbWords.zipIdx.map fun p => (p.2, .string (bs p.1))
theorem at_words {β : Base} {n : Nat} {Γ : Env} {H : List Chunk} {F : List Fact} {Q : Exit → Act → World → Prop} {ops : Array Oper} {rest : List Oper} {o : Oper} {d : Nat} {parts : List (Nat × Operand)} (hw : want ops Γ o = some true) (ho : o.op = .buildSlice 88 25 parts.toArray) (hd : o.dst = some d) (hn : Nat.blt d n = true)
    (hp : ∀ a : Act, (parts.map fun (i, x) => (i, a.eval x)) = wordParts) (k : ∀ b, At β n ((d, .slice (some ⟨b, 0, none⟩) verbWords.length verbWords.length) :: Γ) (strE.row (.slice (some ⟨b, 0, none⟩) verbWords.length verbWords.length) 9 verbWords :: H) F (wpList Tryz.prog ops Q rest)) : At β n Γ H F (wpList Tryz.prog ops Q (o :: rest)) := by
  obtain ⟨i, hi, hz, hs, _⟩ := strInfo
  refine at_build (e := 9) (cs := strE.all verbWords) hw ho hd hn (fun a w f => ?_) fun b => at_objrow (E := strE) (xs := verbWords) .head (by decide) (k b)
  rw [show (parts.toArray.map fun (i, x) => (i, a.eval x)) = wordParts.toArray by rw [← hp a]; simp]
  refine run_buildSlice w _ _ 25 wordParts.toArray _ i _ Tryz.underlying88 hi hz (by omega) (by omega) ?_
  rw [hs]
  kernel_rfl
section
variable {f : Int} {two : Bool} {i : Nat} {s : Bs}
theorem first_here (h : firstOf two f (verbWords.drop i) = textF two f) (hs : verbWords[i]? = some s) (hh : (verbF s two != 0) = true) (he : verbF s two = f) : s = textF two f := by
  rw [← h, drop_some hs, firstOf, hh, he]
  simp
theorem first_next (h : firstOf two f (verbWords.drop i) = textF two f) (hs : verbWords[i]? = some s) (hh : (verbF s two != 0) = false ∨ verbF s two ≠ f) : firstOf two f (verbWords.drop (i + 1)) = textF two f := by
  rw [← h, drop_some hs, firstOf, if_neg]
  rcases hh with hh | hh
  · simp [hh]
  · simp [hh]
theorem first_end (h : firstOf two f (verbWords.drop i) = textF two f) (hi : 25 ≤ i) : [] = textF two f := by
  rw [← h, List.drop_of_length_le (by have : verbWords.length = 25 := rfl; omega)]
  rfl
end

section
variable {it : ItemV}
theorem op_fn (h : it.fn ≠ 0) : operandR it.it = noPart := by rw [operandR, if_pos (show it.it.fn ≠ 0 from h)]
theorem op_two (h : it.fn = 0) (h2 : it.how = 2) (hb : (0 : Int) < ((it.nums.list.length : Nat) : Int) ∨ nameB it.name = false) : operandR it.it = noPart := by
  rw [operandR, if_neg (show ¬ it.it.fn ≠ 0 from fun k => k h), if_pos (show it.it.how = 2 from h2), if_pos]
  rcases hb with hb | hb
  · exact .inl (nums_ne hb)
  · exact .inr hb
theorem op_name (h : it.fn = 0) (h2 : it.how = 2) (hb : it.nums.list.length = 0) (hn : nameB it.name = true) : operandR it.it = ⟨it.name, true, 1, 0⟩ := by
  rw [operandR, if_neg (show ¬ it.it.fn ≠ 0 from fun k => k h), if_pos (show it.it.how = 2 from h2), if_neg]
  · rfl
  · rintro (k | k)
    · exact k (List.eq_nil_of_length_eq_zero hb)
    · have : nameB it.name = false := k
      rw [hn] at this; cases this
theorem op_bad (h : it.fn = 0) (h2 : it.how ≠ 2) (hb : it.name ≠ [] ∨ 256 < it.nums.list.length) : operandR it.it = noPart := by
  rw [operandR, if_neg (show ¬ it.it.fn ≠ 0 from fun k => k h), if_neg (show ¬ it.it.how = 2 from h2), if_pos (show it.it.name ≠ [] ∨ 256 < it.it.nums.length from hb)]
theorem op_nums (h : it.fn = 0) (h2 : it.how ≠ 2) (hn : it.name = []) (hl : it.nums.list.length ≤ 256) : operandR it.it = ⟨joinSp (it.nums.list.map spellN), true, it.nums.list.length, 0⟩ := by
  rw [operandR, if_neg (show ¬ it.it.fn ≠ 0 from fun k => k h), if_neg (show ¬ it.it.how = 2 from h2), if_neg, numsR0_join]
  · rfl
  · rintro (k | k)
    · exact k hn
    · have : 256 < it.nums.list.length := k
      omega
end
theorem join_first {l : List Int} {z : Int} (h : l[0]? = some z) : spellN z = joinSp ((l.take (0 + 1)).map spellN) := by
  cases l with
  | nil => simp at h
  | cons x r => simp at h; subst h; rfl
theorem join_more {l : List Int} {i : Nat} {z : Int} (h : l[i]? = some z) (hi : 0 < i) : (joinSp ((l.take i).map spellN) ++ [32]) ++ spellN z = joinSp ((l.take (i + 1)).map spellN) := by
  have hl := (List.getElem?_eq_some_iff.1 h).1
  have h0 : (l.take i).map spellN ≠ [] := by
    intro k
    have := congrArg List.length k
    rw [List.length_map, List.length_take, List.length_nil] at this
    omega
  rw [show l.take (i + 1) = l.take i ++ [z] by rw [List.take_add_one, h]; rfl, List.map_append, joinSp_append _ _ h0 (by simp)]
  simp [joinSp]
theorem qrwords_built_api_Token_03 (z0 : Int) (z3 : Int) : Tryz.prog.built 54 [(0, .int .i64 z0), (3, .int .i64 z3)] = some #[.int .i64 z0, .int .i64 0, .string (bs []), .int .i64 z3] := by kernel_rfl
theorem qrwords_zero_windrowref05_Part : (Tryz.prog.info? 99).bind (·.zero) = some (.agg #[.string (bs []), .bool false, .int .i64 0, .int .i64 0]) := by kernel_rfl
theorem qrwords_built_windrowref05_Part_  : Tryz.prog.built 99 [] = some #[.string (bs []), .bool false, .int .i64 0, .int .i64 0] := by kernel_rfl
theorem qrwords_built_windrowref05_Part_012 (s0 : ByteArray) (b1 : Bool) (z2 : Int) : Tryz.prog.built 99 [(0, .string s0), (1, .bool b1), (2, .int .i64 z2)] = some #[.string s0, .bool b1, .int .i64 z2, .int .i64 0] := by kernel_rfl
theorem qrwords_built_windrowref05_Part_023 (s0 : ByteArray) (z2 : Int) (z3 : Int) : Tryz.prog.built 99 [(0, .string s0), (2, .int .i64 z2), (3, .int .i64 z3)] = some #[.string s0, .bool false, .int .i64 z2, .int .i64 z3] := by kernel_rfl

set_option maxRecDepth 100000 in
theorem rwords_spec  : Spec Tryz.prog 87 [] [] [] (fun (x : Nat) => .slice (some ⟨x, 0, none⟩) verbWords.length verbWords.length) (fun _ => []) (fun (x : Nat) => [strE.sl (.slice (some ⟨x, 0, none⟩) verbWords.length verbWords.length) verbWords]) := by
  have hT := refT_ok
  refine spec_of Tryz.func87 rfl Tryz.ntmps87 rfl ?_
  intro β hM
  refine sr ?_
  refine sp hT ?_
  refine nn ?_
  refine sr ?_
  refine at_words rfl rfl rfl rfl (fun _ => rfl) fun b1 => ?_
  refine sp hT ?_
  refine nn ?_
  refine at_ret ?_
  refine at_freeze .head ?_
  exact at_res1 b1 rfl (rv_tmp rfl) .nil ⟨Has.of mT0, trivial⟩ rfl

set_option maxRecDepth 100000 in
theorem rverb5_spec (f : Int) (two : Bool) : Spec Tryz.prog 70 [.int .u8 f, .bool two] [] [] (fun (_ : Unit) => .string (bs (textF two f))) (fun _ => []) (fun _ => []) := by
  have hT := refT_ok
  refine spec_of Tryz.func70 rfl Tryz.ntmps70 rfl ?_
  intro β hM
  refine sr ?_
  refine sp hT ?_
  refine nn ?_
  refine sr ?_
  refine at_call (callFunc_enter Tryz.func87 rfl rfl) rwords_spec rfl rfl rfl rfl rfl .nil trivial fun x1 => ?_
  refine sp hT ?_
  refine nn ?_
  refine at_seq ?_
  refine sr ?_
  refine sp hT ?_
  refine nn ?_
  refine at_block ?_
  refine at_loop2 (ι := Nat) [(0, _), (1, _), (5, _)] ⟨rfl, rfl, rfl, trivial⟩ (fun i => [(6, .int .i64 (i : Nat))]) (fun _ => []) (fun i => [Fact.pure (i ≤ 25 ∧ firstOf two f (verbWords.drop i) = textF two f)]) (fun i => 25 - i) 0 ⟨rfl, trivial⟩ .nil ⟨Has.pure (⟨by omega, first_text two f⟩), trivial⟩ ?_
  rintro i
  refine at_know (Has.of mT0) fun hinv3 => ?_
  refine at_seq ?_
  refine sr ?_
  refine sp3 hT ?_
  refine at_int (z' := ((25 : Nat) : Int)) (rfl) ?_
  refine sp hT ?_
  refine nn ?_
  refine at_cond rfl (fun hc13 => ?_) (fun hc13 => ?_)
  · have hc13 := of_decide_eq_true hc13
    refine at_skip ?_
    refine n_then ?_
    refine at_seq ?_
    refine at_block ?_
    refine sr ?_
    refine sp2 hT ?_
    obtain ⟨x2, hx3⟩ : ∃ x', verbWords[i]? = some x' := ⟨_, List.getElem?_eq_getElem (by have : verbWords.length = 25 := rfl; omega)⟩
    refine ss (sti_index hT (k := i) (reads_fact (Has.of mT1)) rfl rfl rfl rfl rfl rfl rfl (by have : verbWords.length = 25 := rfl; omega)) ?_
    refine ss (sti_load1 hT (Reads.knows (reads_fact (Has.of mT1)) (k := i) (x := x2) hx3 0) rfl rfl rfl rfl rfl) ?_
    refine sp hT ?_
    refine at_call (callFunc_enter Tryz.func75 rfl rfl) (rVerb_spec x2 two) rfl rfl rfl rfl rfl .nil trivial fun _ => ?_
    refine sp4 hT ?_
    refine sp hT ?_
    refine nn ?_
    refine sr ?_
    refine sp2 hT ?_
    refine at_case (fun hg26 => ?_) (fun hg26 => ?_)
    · refine sp4 hT ?_
      refine nn ?_
      refine at_cond rfl (fun hc30 => ?_) (fun hc30 => ?_)
      · have hc30 := eq_of_beq hc30
        refine sr ?_
        refine sp2 hT ?_
        refine ss (sti_index hT (k := i) (reads_fact (Has.of mT1)) rfl rfl rfl rfl rfl rfl rfl (by have : verbWords.length = 25 := rfl; omega)) ?_
        refine ss (sti_load1 hT (Reads.knows (reads_fact (Has.of mT1)) (k := i) (x := x2) hx3 0) rfl rfl rfl rfl rfl) ?_
        refine sp hT ?_
        refine nn ?_
        refine at_ret ?_
        refine r_block ?_
        refine r_then ?_
        refine r_then ?_
        refine r_block ?_
        refine r_then ?_
        exact at_res1 () rfl (rv_tmp rfl) .nil trivial (congrArg (fun s : Bs => Value.string (bs s)) (first_here hinv3.2 hx3 (by assumption) (by assumption)))
      have hc30 := beq_eq_false_iff_ne.1 hc30
      refine at_skip ?_
      refine n_block ?_
      refine n_then ?_
      refine at_region ?_
      refine sp2 hT ?_
      refine at_int (z' := (((i + 1) : Nat) : Int)) (wrapN (by omega) (by omega)) ?_
      refine sp hT ?_
      refine nn ?_
      exact at_back2 (i + 1) (by omega) ⟨rfl, trivial⟩ ⟨rfl, rfl, rfl, trivial⟩ .nil ⟨Has.pure (⟨by omega, first_next hinv3.2 hx3 (by first | exact .inl (by assumption) | exact .inr (by assumption))⟩), trivial⟩ (HasAll.drop 1)
    refine sk3 ?_
    refine sp hT ?_
    refine nn ?_
    refine at_false rfl rfl ?_
    refine at_skip ?_
    refine n_block ?_
    refine n_then ?_
    refine at_region ?_
    refine sp2 hT ?_
    refine at_int (z' := (((i + 1) : Nat) : Int)) (wrapN (by omega) (by omega)) ?_
    refine sp hT ?_
    refine nn ?_
    exact at_back2 (i + 1) (by omega) ⟨rfl, trivial⟩ ⟨rfl, rfl, rfl, trivial⟩ .nil ⟨Has.pure (⟨by omega, first_next hinv3.2 hx3 (by first | exact .inl (by assumption) | exact .inr (by assumption))⟩), trivial⟩ (HasAll.drop 1)
  have hc13 := Int.not_lt.1 (of_decide_eq_false hc13)
  refine at_exit ?_
  refine x_then ?_
  refine x_then ?_
  refine x_block ?_
  refine n_then ?_
  refine sr ?_
  refine sp hT ?_
  refine nn ?_
  refine at_ret ?_
  exact at_res1 () rfl (rv_tmp rfl) .nil trivial (congrArg (fun s : Bs => Value.string (bs s)) (first_end hinv3.2 (by omega)))

set_option maxRecDepth 100000 in
theorem rnum5_spec (n : Int) (h0 : -9223372036854775808 ≤ n) (h1 : n ≤ 9223372036854775807) : Spec Tryz.prog 47 [.int .i64 n] [] [] (fun (_ : Unit) => .string (bs (spellN n))) (fun _ => []) (fun _ => []) := by
  have hT := refT_ok
  refine spec_of Tryz.func47 rfl Tryz.ntmps47 rfl ?_
  intro β hM
  refine sr ?_
  refine sp hT ?_
  refine nn ?_
  refine sr ?_
  refine sp hT ?_
  refine ss (sti_build rfl rfl (qrwords_built_api_Token_03 _ _)) ?_
  refine at_call (callFunc_enter Tryz.func49 rfl rfl) (rspellN_spec n h0 h1) rfl rfl rfl rfl rfl .nil trivial fun _ => ?_
  refine sp4 hT ?_
  refine sp hT ?_
  refine nn ?_
  refine sr ?_
  refine sp2 hT ?_
  refine nn ?_
  refine at_ret ?_
  exact at_res1 () rfl (rv_tmp rfl) .nil trivial (rfl)

set_option maxRecDepth 100000 in
theorem roperand_spec (it : ItemV) (hz : ∀ z ∈ it.nums.list, -9223372036854775808 ≤ z ∧ z ≤ 9223372036854775807) : Spec Tryz.prog 69 [.agg #[.int .i64 it.how, .int .i64 it.at_, .int .u8 it.fn, .string (bs it.name), .slice it.nums.addr it.nums.list.length it.nums.cap]] [] [numF it] (fun (_ : Unit) => .agg #[.string (bs (operandR it.it).s), .bool (operandR it.it).plain, .int .i64 ((operandR it.it).tokens : Nat), .int .i64 ((operandR it.it).nest : Nat)]) (fun _ => []) (fun _ => []) := by
  have hT := refT_ok
  refine spec_of Tryz.func69 rfl Tryz.ntmps69 rfl ?_
  intro β hM
  refine sr ?_
  refine at_box rfl rfl rfl rfl rfl rfl fun b1 => ?_
  refine at_alloc rfl rfl rfl rfl qrwords_zero_windrowref05_Part rfl fun b2 => ?_
  refine nn ?_
  refine at_seq ?_
  refine sr ?_
  refine sp hT ?_
  refine ss (ldO hT (knows_own (off := 2) kT1)) ?_
  refine sp hT ?_
  refine nn ?_
  refine at_cond rfl (fun hc7 => ?_) (fun hc7 => ?_)
  · have hc7 := bne_iff_ne.1 hc7
    refine sr ?_
    refine ss (sti_build rfl rfl (qrwords_built_windrowref05_Part_)) ?_
    refine sto hT .head ?_
    refine nn ?_
    refine at_ret ?_
    refine r_then ?_
    exact at_res1 () rfl (rv_cell hT (knows_own (off := 0) .head) rfl rfl rfl rfl) .nil trivial (by first | (rw [op_fn (by assumption)]; rfl) | (rw [op_two (by assumption) (by assumption) (by first | exact .inl (by assumption) | exact .inr (by assumption))]; rfl) | (rw [op_name (by assumption) (by assumption) (by omega) (by assumption)]; rfl) | (rw [op_bad (by assumption) (by assumption) (by first | exact .inl (by assumption) | exact .inr (by omega))]; rfl) | (rw [op_nums (by assumption) (by assumption) (by assumption) (by omega), hinv11.2.1, List.take_of_length_le (by omega)]; rfl))
  have hc7 := bne_eq_false_iff_eq.1 hc7
  refine at_skip ?_
  refine n_then ?_
  refine at_seq ?_
  refine sr ?_
  refine sp hT ?_
  refine ss (ldO hT (knows_own (off := 0) kT1)) ?_
  refine sp hT ?_
  refine nn ?_
  refine at_cond rfl (fun hc11 => ?_) (fun hc11 => ?_)
  · have hc11 := eq_of_beq hc11
    refine at_seq ?_
    refine sr ?_
    refine sp hT ?_
    refine ss (ldO hT (knows_own (off := 4) kT1)) ?_
    refine sp3 hT ?_
    refine at_case (fun hg16 => ?_) (fun hg16 => ?_)
    · have hg16 := of_decide_eq_true hg16
      refine sk4 ?_
      refine sp hT ?_
      refine nn ?_
      refine at_true rfl rfl ?_
      refine sr ?_
      refine ss (sti_build rfl rfl (qrwords_built_windrowref05_Part_)) ?_
      refine sto hT .head ?_
      refine nn ?_
      refine at_ret ?_
      refine r_then ?_
      refine r_then ?_
      exact at_res1 () rfl (rv_cell hT (knows_own (off := 0) .head) rfl rfl rfl rfl) .nil trivial (by first | (rw [op_fn (by assumption)]; rfl) | (rw [op_two (by assumption) (by assumption) (by first | exact .inl (by assumption) | exact .inr (by assumption))]; rfl) | (rw [op_name (by assumption) (by assumption) (by omega) (by assumption)]; rfl) | (rw [op_bad (by assumption) (by assumption) (by first | exact .inl (by assumption) | exact .inr (by omega))]; rfl) | (rw [op_nums (by assumption) (by assumption) (by assumption) (by omega), hinv11.2.1, List.take_of_length_le (by omega)]; rfl))
    have hg16 := Int.not_lt.1 (of_decide_eq_false hg16)
    refine sp hT ?_
    refine ss (ldO hT (knows_own (off := 3) kT1)) ?_
    refine at_call (callFunc_enter Tryz.func31 rfl rfl) (rName_spec _) rfl rfl rfl rfl rfl .nil trivial fun _ => ?_
    refine sp2 hT ?_
    refine nn ?_
    refine at_cond rfl (fun hc21 => ?_) (fun hc21 => ?_)
    · have hc21 := not_t hc21
      refine sr ?_
      refine ss (sti_build rfl rfl (qrwords_built_windrowref05_Part_)) ?_
      refine sto hT .head ?_
      refine nn ?_
      refine at_ret ?_
      refine r_then ?_
      refine r_then ?_
      exact at_res1 () rfl (rv_cell hT (knows_own (off := 0) .head) rfl rfl rfl rfl) .nil trivial (by first | (rw [op_fn (by assumption)]; rfl) | (rw [op_two (by assumption) (by assumption) (by first | exact .inl (by assumption) | exact .inr (by assumption))]; rfl) | (rw [op_name (by assumption) (by assumption) (by omega) (by assumption)]; rfl) | (rw [op_bad (by assumption) (by assumption) (by first | exact .inl (by assumption) | exact .inr (by omega))]; rfl) | (rw [op_nums (by assumption) (by assumption) (by assumption) (by omega), hinv11.2.1, List.take_of_length_le (by omega)]; rfl))
    have hc21 := not_f hc21
    refine at_skip ?_
    refine n_then ?_
    refine sr ?_
    refine sp hT ?_
    refine ss (ldO hT (knows_own (off := 3) kT1)) ?_
    refine ss (sti_build rfl rfl (qrwords_built_windrowref05_Part_012 _ _ _)) ?_
    refine sto hT .head ?_
    refine nn ?_
    refine at_ret ?_
    refine r_then ?_
    exact at_res1 () rfl (rv_cell hT (knows_own (off := 0) .head) rfl rfl rfl rfl) .nil trivial (by first | (rw [op_fn (by assumption)]; rfl) | (rw [op_two (by assumption) (by assumption) (by first | exact .inl (by assumption) | exact .inr (by assumption))]; rfl) | (rw [op_name (by assumption) (by assumption) (by omega) (by assumption)]; rfl) | (rw [op_bad (by assumption) (by assumption) (by first | exact .inl (by assumption) | exact .inr (by omega))]; rfl) | (rw [op_nums (by assumption) (by assumption) (by assumption) (by omega), hinv11.2.1, List.take_of_length_le (by omega)]; rfl))
  have hc11 := beq_eq_false_iff_ne.1 hc11
  refine at_skip ?_
  refine n_then ?_
  refine at_seq ?_
  refine sr ?_
  refine sp hT ?_
  refine ss (ldO hT (knows_own (off := 3) kT1)) ?_
  refine sp2 hT ?_
  refine at_case (fun hg29 => ?_) (fun hg29 => ?_)
  · have hg29 : it.name ≠ ([] : Bs) := fun h => by rw [h] at hg29; first | (simp at hg29; done) | exact absurd hg29 (by decide)
    refine sk4 ?_
    refine sp hT ?_
    refine nn ?_
    refine at_true rfl rfl ?_
    refine sr ?_
    refine ss (sti_build rfl rfl (qrwords_built_windrowref05_Part_)) ?_
    refine sto hT .head ?_
    refine nn ?_
    refine at_ret ?_
    refine r_then ?_
    exact at_res1 () rfl (rv_cell hT (knows_own (off := 0) .head) rfl rfl rfl rfl) .nil trivial (by first | (rw [op_fn (by assumption)]; rfl) | (rw [op_two (by assumption) (by assumption) (by first | exact .inl (by assumption) | exact .inr (by assumption))]; rfl) | (rw [op_name (by assumption) (by assumption) (by omega) (by assumption)]; rfl) | (rw [op_bad (by assumption) (by assumption) (by first | exact .inl (by assumption) | exact .inr (by omega))]; rfl) | (rw [op_nums (by assumption) (by assumption) (by assumption) (by omega), hinv11.2.1, List.take_of_length_le (by omega)]; rfl))
  have hg29 : it.name = ([] : Bs) := eq_of_beq (not_f hg29)
  refine sp hT ?_
  refine ss (ldO hT (knows_own (off := 4) kT1)) ?_
  refine sp3 hT ?_
  refine nn ?_
  refine at_cond rfl (fun hc34 => ?_) (fun hc34 => ?_)
  · have hc34 := of_decide_eq_true hc34
    refine sr ?_
    refine ss (sti_build rfl rfl (qrwords_built_windrowref05_Part_)) ?_
    refine sto hT .head ?_
    refine nn ?_
    refine at_ret ?_
    refine r_then ?_
    exact at_res1 () rfl (rv_cell hT (knows_own (off := 0) .head) rfl rfl rfl rfl) .nil trivial (by first | (rw [op_fn (by assumption)]; rfl) | (rw [op_two (by assumption) (by assumption) (by first | exact .inl (by assumption) | exact .inr (by assumption))]; rfl) | (rw [op_name (by assumption) (by assumption) (by omega) (by assumption)]; rfl) | (rw [op_bad (by assumption) (by assumption) (by first | exact .inl (by assumption) | exact .inr (by omega))]; rfl) | (rw [op_nums (by assumption) (by assumption) (by assumption) (by omega), hinv11.2.1, List.take_of_length_le (by omega)]; rfl))
  have hc34 := Int.not_lt.1 (of_decide_eq_false hc34)
  refine at_skip ?_
  refine n_then ?_
  refine sr ?_
  refine sp hT ?_
  refine nn ?_
  refine at_seq ?_
  refine sr ?_
  refine sp hT ?_
  refine nn ?_
  refine at_block ?_
  refine at_loop2 (ι := Nat × Bs) [(1, _), (2, _)] ⟨rfl, rfl, trivial⟩ (fun ⟨i, t⟩ => [(3, .string (bs t)), (4, .int .i64 (i : Nat))]) (fun _ => []) (fun ⟨i, t⟩ => [Fact.pure (i ≤ it.nums.list.length ∧ t = joinSp ((it.nums.list.take i).map spellN) ∧ t.length ≤ 22 * i)]) (fun ⟨i, t⟩ => it.nums.list.length - i) (0, []) ⟨rfl, rfl, trivial⟩ .nil ⟨Has.pure (⟨by omega, rfl, by simp⟩), trivial⟩ ?_
  rintro ⟨i, t⟩
  dsimp only
  refine at_know (Has.of mT0) fun hinv11 => ?_
  refine at_seq ?_
  refine sr ?_
  refine sp2 hT ?_
  refine ss (ldO hT (knows_own (off := 4) kT1)) ?_
  refine sp2 hT ?_
  refine nn ?_
  refine at_cond rfl (fun hc40 => ?_) (fun hc40 => ?_)
  · have hc40 := of_decide_eq_true hc40
    refine at_skip ?_
    refine n_then ?_
    refine at_seq ?_
    refine at_block ?_
    refine at_seq ?_
    refine sr ?_
    refine sp2 hT ?_
    refine nn ?_
    refine at_cond rfl (fun hc44 => ?_) (fun hc44 => ?_)
    · have hc44 := of_decide_eq_true hc44
      refine at_region ?_
      refine sp hT ?_
      refine ss (sti_cat rfl rfl rfl (by first | omega | (simp; omega))) ?_
      refine sp hT ?_
      refine nn ?_
      refine at_region ?_
      refine sp2 hT ?_
      refine ss (ldO hT (knows_own (off := 4) kT1)) ?_
      refine sp hT ?_
      obtain ⟨x3, hx4⟩ : ∃ x', it.nums.list[i]? = some x' := ⟨_, List.getElem?_eq_getElem (by omega)⟩
      refine ss (sti_index hT (k := i) (reads_fact (Has.of mT1)) rfl rfl rfl rfl rfl rfl rfl (by omega)) ?_
      refine ss (sti_load1 hT (Reads.knows (reads_fact (Has.of mT1)) (k := i) (x := x3) hx4 0) rfl rfl rfl rfl rfl) ?_
      have hr := hz x3 (List.mem_of_getElem? hx4)
      have hsp := spell_len hr.1 hr.2
      refine at_call (callFunc_enter Tryz.func47 rfl rfl) (rnum5_spec _ hr.1 hr.2) rfl rfl rfl rfl rfl .nil trivial fun _ => ?_
      refine ss (sti_cat rfl rfl rfl (by first | omega | (simp; omega))) ?_
      refine sp hT ?_
      refine at_nil ?_
      refine n_block ?_
      refine n_then ?_
      refine at_region ?_
      refine sp2 hT ?_
      refine at_int (z' := (((i + 1) : Nat) : Int)) (wrapN (by omega) (by omega)) ?_
      refine sp hT ?_
      refine nn ?_
      exact at_back2 (i + 1, _) (by dsimp only; omega) ⟨rfl, rfl, trivial⟩ ⟨rfl, rfl, trivial⟩ (.cons .head (.cons .head .nil)) ⟨Has.pure (⟨by dsimp only; omega, by rw [hinv11.2.1]; first | exact join_more hx4 (by omega) | (have h0 : i = 0 := by omega); subst h0; exact join_first hx4, by simp; omega⟩), trivial⟩ (HasAll.drop 1)
    have hc44 := Int.not_lt.1 (of_decide_eq_false hc44)
    refine at_skip ?_
    refine n_then ?_
    refine at_region ?_
    refine sp2 hT ?_
    refine ss (ldO hT (knows_own (off := 4) kT1)) ?_
    refine sp hT ?_
    obtain ⟨x5, hx6⟩ : ∃ x', it.nums.list[i]? = some x' := ⟨_, List.getElem?_eq_getElem (by omega)⟩
    refine ss (sti_index hT (k := i) (reads_fact (Has.of mT1)) rfl rfl rfl rfl rfl rfl rfl (by omega)) ?_
    refine ss (sti_load1 hT (Reads.knows (reads_fact (Has.of mT1)) (k := i) (x := x5) hx6 0) rfl rfl rfl rfl rfl) ?_
    have hr := hz x5 (List.mem_of_getElem? hx6)
    have hsp := spell_len hr.1 hr.2
    refine at_call (callFunc_enter Tryz.func47 rfl rfl) (rnum5_spec _ hr.1 hr.2) rfl rfl rfl rfl rfl .nil trivial fun _ => ?_
    refine ss (sti_cat rfl rfl rfl (by first | omega | (simp; omega))) ?_
    refine sp hT ?_
    refine at_nil ?_
    refine n_block ?_
    refine n_then ?_
    refine at_region ?_
    refine sp2 hT ?_
    refine at_int (z' := (((i + 1) : Nat) : Int)) (wrapN (by omega) (by omega)) ?_
    refine sp hT ?_
    refine nn ?_
    exact at_back2 (i + 1, _) (by dsimp only; omega) ⟨rfl, rfl, trivial⟩ ⟨rfl, rfl, trivial⟩ (.cons .head (.cons .head .nil)) ⟨Has.pure (⟨by dsimp only; omega, by rw [hinv11.2.1]; first | exact join_more hx6 (by omega) | (have h0 : i = 0 := by omega); subst h0; exact join_first hx6, by simp; omega⟩), trivial⟩ (HasAll.drop 1)
  have hc40 := Int.not_lt.1 (of_decide_eq_false hc40)
  refine at_exit ?_
  refine x_then ?_
  refine x_then ?_
  refine x_block ?_
  refine n_then ?_
  refine sr ?_
  refine sp2 hT ?_
  refine ss (ldO hT (knows_own (off := 4) kT1)) ?_
  refine sp hT ?_
  refine ss (sti_build rfl rfl (qrwords_built_windrowref05_Part_012 _ _ _)) ?_
  refine sto hT .head ?_
  refine nn ?_
  refine at_ret ?_
  exact at_res1 () rfl (rv_cell hT (knows_own (off := 0) .head) rfl rfl rfl rfl) .nil trivial (by first | (rw [op_fn (by assumption)]; rfl) | (rw [op_two (by assumption) (by assumption) (by first | exact .inl (by assumption) | exact .inr (by assumption))]; rfl) | (rw [op_name (by assumption) (by assumption) (by omega) (by assumption)]; rfl) | (rw [op_bad (by assumption) (by assumption) (by first | exact .inl (by assumption) | exact .inr (by omega))]; rfl) | (rw [op_nums (by assumption) (by assumption) (by assumption) (by omega), hinv11.2.1, List.take_of_length_le (by omega)]; rfl))

set_option maxRecDepth 100000 in
theorem rbrk_spec (p : Part) (hs : p.s.length ≤ 140737488355000) (ht : p.tokens ≤ 140737488355000) (hn : p.nest ≤ 140737488355000) : Spec Tryz.prog 72 [.agg #[.string (bs p.s), .bool p.plain, .int .i64 (p.tokens : Nat), .int .i64 (p.nest : Nat)]] [] [] (fun (_ : Unit) => .agg #[.string (bs (brkR p).s), .bool (brkR p).plain, .int .i64 ((brkR p).tokens : Nat), .int .i64 ((brkR p).nest : Nat)]) (fun _ => []) (fun _ => []) := by
  have hT := refT_ok
  refine spec_of Tryz.func72 rfl Tryz.ntmps72 rfl ?_
  intro β hM
  refine sr ?_
  refine at_box rfl rfl rfl rfl rfl rfl fun b1 => ?_
  refine at_alloc rfl rfl rfl rfl qrwords_zero_windrowref05_Part rfl fun b2 => ?_
  refine nn ?_
  refine at_seq ?_
  refine sr ?_
  refine sp hT ?_
  refine ss (ldO hT (knows_own (off := 1) kT1)) ?_
  refine nn ?_
  refine at_cond rfl (fun hc4 => ?_) (fun hc4 => ?_)
  · refine sr ?_
    refine ss (ldN hT (knows_own (off := 0) kT1)) ?_
    refine sto hT .head ?_
    refine nn ?_
    refine at_ret ?_
    refine r_then ?_
    exact at_res1 () rfl (rv_cell hT (knows_own (off := 0) .head) rfl rfl rfl rfl) .nil trivial (by first | (rw [brkR, if_pos (by assumption)]) | (rw [brkR, if_neg (by simp [*])]))
  refine at_skip ?_
  refine n_then ?_
  refine sr ?_
  refine sp hT ?_
  refine ss (ldO hT (knows_own (off := 0) kT1)) ?_
  refine ss (sti_cat rfl rfl rfl (by first | omega | (simp; omega))) ?_
  refine ss (sti_cat rfl rfl rfl (by first | omega | (simp; omega))) ?_
  refine sp hT ?_
  refine ss (ldO hT (knows_own (off := 2) kT1)) ?_
  refine sp hT ?_
  refine at_int (z' := (((p.tokens + 2) : Nat) : Int)) (wrapN (by omega) (by omega)) ?_
  refine sp hT ?_
  refine ss (ldO hT (knows_own (off := 3) kT1)) ?_
  refine sp hT ?_
  refine at_int (z' := (((p.nest + 1) : Nat) : Int)) (wrapN (by omega) (by omega)) ?_
  refine ss (sti_build rfl rfl (qrwords_built_windrowref05_Part_023 _ _ _)) ?_
  refine sto hT .head ?_
  refine nn ?_
  refine at_ret ?_
  exact at_res1 () rfl (rv_cell hT (knows_own (off := 0) .head) rfl rfl rfl rfl) .nil trivial (by first | (rw [brkR, if_pos (by assumption)]) | (rw [brkR, if_neg (by simp [*])]))

end Go.Proofs.YtngkedmndhmjcaaGreatDoor
