/- Walks: a number's spelling; verbs. (Printed by wip/gen/lex.py.) -/
import Derived.Test.YtngkedmndhmjcaaGreatDoorNum
namespace Go.Proofs.YtngkedmndhmjcaaGreatDoor
open Go.RowKit

theorem lex_spell_spec (n : Int) (h0 : -9223372036854775808 ≤ n) (h1 : n ≤ 9223372036854775807) : Spec Tryz.prog 17 [.string (bs (spellN n))] [] [globF] (fun x : Option Addr × Nat => .tuple #[.slice x.1 1 x.2, .agg #[.int .i64 0, .int .i64 0]]) (fun _ => []) (fun x => [tokE.sl (.slice x.1 1 x.2) [⟨2, 0, [], n⟩], Fact.pure (1 ≤ x.2)]) := by
  have := Lex_spec (spellN n) (by have := spell_len h0 h1; omega)
  rw [lexP_spell h0 h1] at this
  exact this
theorem replace_itoa_spec (n : Int) (h0 : -9223372036854775808 ≤ n) (h1 : n ≤ 9223372036854775807) : Spec Tryz.prog 81 [.string (bs (Lib.itoa n)), .string (bs [45]), .string (bs [95]), .int .i64 1] [] [globF] (fun _ : Unit => .string (bs (spellN n))) (fun _ => []) (fun _ => []) := by
  have := replace_spec (Lib.itoa n) (by have := itoa_len h0 h1; omega)
  rw [replace_itoa] at this
  exact this
def twoF (s : Bs) : Int :=
  if s = [43] then 1 else if s = [45] then 2 else if s = [42] then 3 else if s = [37] then 4 else if s = [124] then 5 else if s = [109, 105, 110] then 6 else if s = [109, 97, 120] then 7 else if s = [61] then 8 else if s = [126] then 9
  else if s = [60] then 10 else if s = [60, 61] then 11 else if s = [62, 61] then 12 else if s = [62] then 13 else if s = [97, 110, 100] then 14 else if s = [111, 114] then 15 else if s = [112, 111, 119] then 17 else if s = [114, 104, 111] then 37
  else if s = [116, 97, 107, 101] then 38 else if s = [100, 114, 111, 112] then 39 else if s = [99, 97, 116] then 40 else 0
def oneF (s : Bs) : Int :=
  if s = [43] ∨ s = [45] ∨ s = [42] ∨ s = [37] ∨ s = [124] ∨ s = [109, 105, 110] ∨ s = [109, 97, 120] then twoF s else if s = [126] then 16 else if s = [105, 111, 116, 97] then 32 else if s = [115, 104, 97, 112, 101] then 33 else if s = [114, 97, 118, 101, 108] then 34
  else if s = [114, 101, 118] then 35 else if s = [116, 117, 114, 110] then 36 else 0
def verbB (s : Bs) : Bool := oneF s != 0 || twoF s != 0
def verbF (s : Bs) (t : Bool) : Int := if t then twoF s else oneF s
theorem spell_zero_api_Fault : (Tryz.prog.info? 32).bind (·.zero) = some (.agg #[.int .i64 0, .int .i64 0]) := by kernel_rfl
theorem spell_built_api_Fault_  : Tryz.prog.built 32 [] = some #[.int .i64 0, .int .i64 0] := by kernel_rfl
theorem spell_built_api_Token_03 (z0 : Int) (z3 : Int) : Tryz.prog.built 54 [(0, .int .i64 z0), (3, .int .i64 z3)] = some #[.int .i64 z0, .int .i64 0, .string (bs []), .int .i64 z3] := by kernel_rfl

set_option maxRecDepth 100000 in
theorem spell_spec (n : Int) (h0 : -9223372036854775808 ≤ n) (h1 : n ≤ 9223372036854775807) : Spec Tryz.prog 64 [.agg #[.int .i64 2, .int .i64 0, .string (bs []), .int .i64 n]] [] [globF] (fun (_ : Unit) => .tuple #[.string (bs (spellN n)), .bool true]) (fun _ => []) (fun _ => []) := by
  have hT := showT_ok
  refine spec_of Tryz.func64 rfl Tryz.ntmps64 rfl ?_
  intro β hM
  refine sr ?_
  refine at_box rfl rfl rfl rfl rfl rfl fun b1 => ?_
  refine sp2 hT ?_
  refine nn ?_
  refine sr ?_
  refine sp hT ?_
  refine ss (ldO hT (knows_own (off := 2) .head)) ?_
  refine sp hT ?_
  refine nn ?_
  refine at_seq ?_
  refine sr ?_
  refine sp hT ?_
  refine ss (ldO hT (knows_own (off := 0) .head)) ?_
  refine nn ?_
  refine at_block ?_
  refine sr ?_
  refine sp hT ?_
  refine at_bool (t' := true) (by decide) ?_
  refine sp hT ?_
  refine nn ?_
  refine at_true rfl rfl ?_
  refine at_region ?_
  refine sp hT ?_
  refine ss (ldO hT (knows_own (off := 3) .head)) ?_
  refine at_call (callFunc_enter Tryz.func82 rfl rfl) (formatInt_spec n h0 h1) rfl rfl rfl rfl rfl .nil ⟨Has.of mT0, trivial⟩ fun _ => ?_
  refine at_call (callFunc_enter Tryz.func81 rfl rfl) (replace_itoa_spec n h0 h1) rfl rfl rfl rfl rfl .nil ⟨Has.of mT0, trivial⟩ fun _ => ?_
  refine sp hT ?_
  refine at_nil ?_
  refine n_block ?_
  refine n_then ?_
  refine sr ?_
  refine sp hT ?_
  refine at_call (callFunc_enter Tryz.func17 rfl rfl) (lex_spell_spec n h0 h1) rfl rfl rfl rfl rfl .nil ⟨Has.of mT0, trivial⟩ fun ⟨A2, c3⟩ => ?_
  refine sp3 hT ?_
  refine at_alloc rfl rfl rfl rfl spell_zero_api_Fault rfl fun b4 => ?_
  refine sp hT ?_
  refine sto hT .head ?_
  refine nn ?_
  refine at_seq ?_
  refine sr ?_
  refine ss (ldN hT (knows_own (off := 0) .head)) ?_
  refine ss (sti_build rfl rfl (spell_built_api_Fault_)) ?_
  refine ss (sti_neq_flt ⟨0, 0⟩ ⟨0, 0⟩ rfl rfl rfl) ?_
  refine at_bool (t' := false) (rfl) ?_
  refine sp4 hT ?_
  refine at_bool (t' := false) (by decide) ?_
  refine sp4 hT ?_
  refine at_int (z' := (((spellN n).length : Nat) : Int)) rfl ?_
  refine sp hT ?_
  refine at_bool (t' := false) (by have := spell_len h0 h1; simp; omega) ?_
  refine sp hT ?_
  refine nn ?_
  refine at_false rfl rfl ?_
  refine at_skip ?_
  refine n_then ?_
  refine sr ?_
  refine sp hT ?_
  refine sto hT kT1 ?_
  refine nn ?_
  refine at_seq ?_
  refine at_seq ?_
  refine at_mix _ _ [(true, 0), (true, 1), (true, 2), (true, 3), (true, 4), (true, 5), (true, 6), (true, 8), (false, 7), (true, 9), (true, 10), (true, 11), (true, 12), (true, 13), (true, 14), (true, 15), (true, 16), (true, 17), (false, 18), (true, 19)] mixes (by decide +kernel) (.cons .head (.cons .head .nil)) HasAll.self ?_
  refine atm_sti rfl rfl rfl rfl (sti_pure hT rfl) ?_
  refine atm_sti rfl rfl rfl rfl (sti_index hT (k := 0) (reads_fact (Has.of mT0)) rfl rfl rfl rfl rfl rfl rfl (by simp)) ?_
  refine atm_sti rfl rfl rfl rfl (sti_loadN hT (Reads.knows (reads_fact (Has.of mT0)) (k := 0) (x := (⟨2, 0, [], n⟩ : TokV)) rfl 0) rfl rfl rfl rfl rfl) ?_
  refine atm_sti rfl rfl rfl rfl (ldN hT (knows_own (off := 0) .head)) ?_
  refine atm_sti rfl rfl rfl rfl (sti_neq_tok (⟨2, 0, [], n⟩ : TokV) ⟨2, 0, ([] : Bs), n⟩ rfl rfl rfl) ?_
  refine at_bool (t' := false) (by simp [tokEq]) ?_
  refine atm_sti rfl rfl rfl rfl (sti_pure hT rfl) ?_
  refine atm_sti rfl rfl rfl rfl (sti_pure hT rfl) ?_
  refine atm_sti rfl rfl rfl rfl (sti_pure hT rfl) ?_
  refine atm_op (o := _) rfl ?_
  refine at_call (callFunc_enter Tryz.func83 rfl rfl) (trimSpace_spec (spellN n) (by have := spell_len h0 h1; omega) (fun b hb => (spell_bytes n b hb).1)) rfl rfl rfl rfl rfl .nil ⟨Has.of mT2, trivial⟩ fun _ => ?_
  refine atm_go (.cons .head (.cons .head .nil)) (HasAll.drop 0) ?_
  refine atm_sti rfl rfl rfl rfl (sti_pure hT rfl) ?_
  refine at_bool (t' := false) (by rw [trim_spell]; simp) ?_
  refine atm_sti rfl rfl rfl rfl (sti_pure hT rfl) ?_
  refine atm_skipped rfl rfl rfl rfl ?_
  refine atm_skipped rfl rfl rfl rfl ?_
  refine atm_skipped rfl rfl rfl rfl ?_
  refine atm_sti rfl rfl rfl rfl (sti_pure hT rfl) ?_
  refine atm_sti rfl rfl rfl rfl (sti_pure hT rfl) ?_
  refine atm_sti rfl rfl rfl rfl (sti_pure hT rfl) ?_
  refine atm_sti rfl rfl rfl rfl (sti_pure hT rfl) ?_
  refine atm_op (o := _) rfl ?_
  refine at_call (callFunc_enter Tryz.func84 rfl rfl) (contains_spec _ 35) rfl rfl rfl rfl rfl .nil trivial fun _ => ?_
  refine atm_go (.cons .head (.cons .head .nil)) (HasAll.drop 0) ?_
  refine at_bool (t' := false) (hash_spell n) ?_
  refine atm_sti rfl rfl rfl rfl (sti_pure hT rfl) ?_
  refine atm_nil ?_
  refine n_then ?_
  refine at_false rfl rfl ?_
  refine at_skip ?_
  refine n_then ?_
  refine sr ?_
  refine sp3 hT ?_
  refine nn ?_
  refine at_ret ?_
  exact at_res2 () rfl (rv_tmp rfl) (rv_tmp rfl) .nil trivial (rfl)

set_option maxRecDepth 100000 in
theorem snumber_spec (n : Int) (h0 : -9223372036854775808 ≤ n) (h1 : n ≤ 9223372036854775807) : Spec Tryz.prog 44 [.int .i64 n] [] [globF] (fun (_ : Unit) => .string (bs (spellN n))) (fun _ => []) (fun _ => []) := by
  have hT := showT_ok
  refine spec_of Tryz.func44 rfl Tryz.ntmps44 rfl ?_
  intro β hM
  refine sr ?_
  refine sp hT ?_
  refine nn ?_
  refine sr ?_
  refine sp hT ?_
  refine ss (sti_build rfl rfl (spell_built_api_Token_03 _ _)) ?_
  refine at_call (callFunc_enter Tryz.func64 rfl rfl) (spell_spec n h0 h1) rfl rfl rfl rfl rfl .nil ⟨Has.of mT0, trivial⟩ fun _ => ?_
  refine sp4 hT ?_
  refine sp hT ?_
  refine nn ?_
  refine sr ?_
  refine sp2 hT ?_
  refine nn ?_
  refine at_ret ?_
  exact at_res1 () rfl (rv_tmp rfl) .nil trivial (rfl)

set_option maxRecDepth 100000 in
theorem two_spec (s : Bs) : Spec Tryz.prog 63 [.string (bs s)] [] [] (fun (_ : Unit) => .int .u8 (twoF s)) (fun _ => []) (fun _ => []) := by
  have hT := showT_ok
  refine spec_of Tryz.func63 rfl Tryz.ntmps63 rfl ?_
  intro β hM
  refine sr ?_
  refine sp hT ?_
  refine nn ?_
  refine at_seq ?_
  refine sr ?_
  refine sp hT ?_
  refine nn ?_
  refine at_block ?_
  refine sr ?_
  refine sp2 hT ?_
  refine nn ?_
  refine at_cond rfl (fun hc4 => ?_) (fun hc4 => ?_)
  · have hc4 : s = ([43] : Bs) := eq_of_beq hc4
    refine sr ?_
    refine sp hT ?_
    refine nn ?_
    refine at_ret ?_
    refine r_block ?_
    refine r_then ?_
    exact at_res1 () rfl (rv_tmp rfl) .nil trivial (by simp [twoF, *])
  have hc4 : s ≠ ([43] : Bs) := fun h => absurd (beq_iff_eq.2 h) (by rw [show (s == ([43] : Bs)) = false from hc4]; simp)
  refine sr ?_
  refine sp2 hT ?_
  refine nn ?_
  refine at_cond rfl (fun hc6 => ?_) (fun hc6 => ?_)
  · have hc6 : s = ([45] : Bs) := eq_of_beq hc6
    refine sr ?_
    refine sp hT ?_
    refine nn ?_
    refine at_ret ?_
    refine r_block ?_
    refine r_then ?_
    exact at_res1 () rfl (rv_tmp rfl) .nil trivial (by simp [twoF, *])
  have hc6 : s ≠ ([45] : Bs) := fun h => absurd (beq_iff_eq.2 h) (by rw [show (s == ([45] : Bs)) = false from hc6]; simp)
  refine sr ?_
  refine sp2 hT ?_
  refine nn ?_
  refine at_cond rfl (fun hc8 => ?_) (fun hc8 => ?_)
  · have hc8 : s = ([42] : Bs) := eq_of_beq hc8
    refine sr ?_
    refine sp hT ?_
    refine nn ?_
    refine at_ret ?_
    refine r_block ?_
    refine r_then ?_
    exact at_res1 () rfl (rv_tmp rfl) .nil trivial (by simp [twoF, *])
  have hc8 : s ≠ ([42] : Bs) := fun h => absurd (beq_iff_eq.2 h) (by rw [show (s == ([42] : Bs)) = false from hc8]; simp)
  refine sr ?_
  refine sp2 hT ?_
  refine nn ?_
  refine at_cond rfl (fun hc10 => ?_) (fun hc10 => ?_)
  · have hc10 : s = ([37] : Bs) := eq_of_beq hc10
    refine sr ?_
    refine sp hT ?_
    refine nn ?_
    refine at_ret ?_
    refine r_block ?_
    refine r_then ?_
    exact at_res1 () rfl (rv_tmp rfl) .nil trivial (by simp [twoF, *])
  have hc10 : s ≠ ([37] : Bs) := fun h => absurd (beq_iff_eq.2 h) (by rw [show (s == ([37] : Bs)) = false from hc10]; simp)
  refine sr ?_
  refine sp2 hT ?_
  refine nn ?_
  refine at_cond rfl (fun hc12 => ?_) (fun hc12 => ?_)
  · have hc12 : s = ([124] : Bs) := eq_of_beq hc12
    refine sr ?_
    refine sp hT ?_
    refine nn ?_
    refine at_ret ?_
    refine r_block ?_
    refine r_then ?_
    exact at_res1 () rfl (rv_tmp rfl) .nil trivial (by simp [twoF, *])
  have hc12 : s ≠ ([124] : Bs) := fun h => absurd (beq_iff_eq.2 h) (by rw [show (s == ([124] : Bs)) = false from hc12]; simp)
  refine sr ?_
  refine sp2 hT ?_
  refine nn ?_
  refine at_cond rfl (fun hc14 => ?_) (fun hc14 => ?_)
  · have hc14 : s = ([109, 105, 110] : Bs) := eq_of_beq hc14
    refine sr ?_
    refine sp hT ?_
    refine nn ?_
    refine at_ret ?_
    refine r_block ?_
    refine r_then ?_
    exact at_res1 () rfl (rv_tmp rfl) .nil trivial (by simp [twoF, *])
  have hc14 : s ≠ ([109, 105, 110] : Bs) := fun h => absurd (beq_iff_eq.2 h) (by rw [show (s == ([109, 105, 110] : Bs)) = false from hc14]; simp)
  refine sr ?_
  refine sp2 hT ?_
  refine nn ?_
  refine at_cond rfl (fun hc16 => ?_) (fun hc16 => ?_)
  · have hc16 : s = ([109, 97, 120] : Bs) := eq_of_beq hc16
    refine sr ?_
    refine sp hT ?_
    refine nn ?_
    refine at_ret ?_
    refine r_block ?_
    refine r_then ?_
    exact at_res1 () rfl (rv_tmp rfl) .nil trivial (by simp [twoF, *])
  have hc16 : s ≠ ([109, 97, 120] : Bs) := fun h => absurd (beq_iff_eq.2 h) (by rw [show (s == ([109, 97, 120] : Bs)) = false from hc16]; simp)
  refine sr ?_
  refine sp2 hT ?_
  refine nn ?_
  refine at_cond rfl (fun hc18 => ?_) (fun hc18 => ?_)
  · have hc18 : s = ([61] : Bs) := eq_of_beq hc18
    refine sr ?_
    refine sp hT ?_
    refine nn ?_
    refine at_ret ?_
    refine r_block ?_
    refine r_then ?_
    exact at_res1 () rfl (rv_tmp rfl) .nil trivial (by simp [twoF, *])
  have hc18 : s ≠ ([61] : Bs) := fun h => absurd (beq_iff_eq.2 h) (by rw [show (s == ([61] : Bs)) = false from hc18]; simp)
  refine sr ?_
  refine sp2 hT ?_
  refine nn ?_
  refine at_cond rfl (fun hc20 => ?_) (fun hc20 => ?_)
  · have hc20 : s = ([126] : Bs) := eq_of_beq hc20
    refine sr ?_
    refine sp hT ?_
    refine nn ?_
    refine at_ret ?_
    refine r_block ?_
    refine r_then ?_
    exact at_res1 () rfl (rv_tmp rfl) .nil trivial (by simp [twoF, *])
  have hc20 : s ≠ ([126] : Bs) := fun h => absurd (beq_iff_eq.2 h) (by rw [show (s == ([126] : Bs)) = false from hc20]; simp)
  refine sr ?_
  refine sp2 hT ?_
  refine nn ?_
  refine at_cond rfl (fun hc22 => ?_) (fun hc22 => ?_)
  · have hc22 : s = ([60] : Bs) := eq_of_beq hc22
    refine sr ?_
    refine sp hT ?_
    refine nn ?_
    refine at_ret ?_
    refine r_block ?_
    refine r_then ?_
    exact at_res1 () rfl (rv_tmp rfl) .nil trivial (by simp [twoF, *])
  have hc22 : s ≠ ([60] : Bs) := fun h => absurd (beq_iff_eq.2 h) (by rw [show (s == ([60] : Bs)) = false from hc22]; simp)
  refine sr ?_
  refine sp2 hT ?_
  refine nn ?_
  refine at_cond rfl (fun hc24 => ?_) (fun hc24 => ?_)
  · have hc24 : s = ([60, 61] : Bs) := eq_of_beq hc24
    refine sr ?_
    refine sp hT ?_
    refine nn ?_
    refine at_ret ?_
    refine r_block ?_
    refine r_then ?_
    exact at_res1 () rfl (rv_tmp rfl) .nil trivial (by simp [twoF, *])
  have hc24 : s ≠ ([60, 61] : Bs) := fun h => absurd (beq_iff_eq.2 h) (by rw [show (s == ([60, 61] : Bs)) = false from hc24]; simp)
  refine sr ?_
  refine sp2 hT ?_
  refine nn ?_
  refine at_cond rfl (fun hc26 => ?_) (fun hc26 => ?_)
  · have hc26 : s = ([62, 61] : Bs) := eq_of_beq hc26
    refine sr ?_
    refine sp hT ?_
    refine nn ?_
    refine at_ret ?_
    refine r_block ?_
    refine r_then ?_
    exact at_res1 () rfl (rv_tmp rfl) .nil trivial (by simp [twoF, *])
  have hc26 : s ≠ ([62, 61] : Bs) := fun h => absurd (beq_iff_eq.2 h) (by rw [show (s == ([62, 61] : Bs)) = false from hc26]; simp)
  refine sr ?_
  refine sp2 hT ?_
  refine nn ?_
  refine at_cond rfl (fun hc28 => ?_) (fun hc28 => ?_)
  · have hc28 : s = ([62] : Bs) := eq_of_beq hc28
    refine sr ?_
    refine sp hT ?_
    refine nn ?_
    refine at_ret ?_
    refine r_block ?_
    refine r_then ?_
    exact at_res1 () rfl (rv_tmp rfl) .nil trivial (by simp [twoF, *])
  have hc28 : s ≠ ([62] : Bs) := fun h => absurd (beq_iff_eq.2 h) (by rw [show (s == ([62] : Bs)) = false from hc28]; simp)
  refine sr ?_
  refine sp2 hT ?_
  refine nn ?_
  refine at_cond rfl (fun hc30 => ?_) (fun hc30 => ?_)
  · have hc30 : s = ([97, 110, 100] : Bs) := eq_of_beq hc30
    refine sr ?_
    refine sp hT ?_
    refine nn ?_
    refine at_ret ?_
    refine r_block ?_
    refine r_then ?_
    exact at_res1 () rfl (rv_tmp rfl) .nil trivial (by simp [twoF, *])
  have hc30 : s ≠ ([97, 110, 100] : Bs) := fun h => absurd (beq_iff_eq.2 h) (by rw [show (s == ([97, 110, 100] : Bs)) = false from hc30]; simp)
  refine sr ?_
  refine sp2 hT ?_
  refine nn ?_
  refine at_cond rfl (fun hc32 => ?_) (fun hc32 => ?_)
  · have hc32 : s = ([111, 114] : Bs) := eq_of_beq hc32
    refine sr ?_
    refine sp hT ?_
    refine nn ?_
    refine at_ret ?_
    refine r_block ?_
    refine r_then ?_
    exact at_res1 () rfl (rv_tmp rfl) .nil trivial (by simp [twoF, *])
  have hc32 : s ≠ ([111, 114] : Bs) := fun h => absurd (beq_iff_eq.2 h) (by rw [show (s == ([111, 114] : Bs)) = false from hc32]; simp)
  refine sr ?_
  refine sp2 hT ?_
  refine nn ?_
  refine at_cond rfl (fun hc34 => ?_) (fun hc34 => ?_)
  · have hc34 : s = ([112, 111, 119] : Bs) := eq_of_beq hc34
    refine sr ?_
    refine sp hT ?_
    refine nn ?_
    refine at_ret ?_
    refine r_block ?_
    refine r_then ?_
    exact at_res1 () rfl (rv_tmp rfl) .nil trivial (by simp [twoF, *])
  have hc34 : s ≠ ([112, 111, 119] : Bs) := fun h => absurd (beq_iff_eq.2 h) (by rw [show (s == ([112, 111, 119] : Bs)) = false from hc34]; simp)
  refine sr ?_
  refine sp2 hT ?_
  refine nn ?_
  refine at_cond rfl (fun hc36 => ?_) (fun hc36 => ?_)
  · have hc36 : s = ([114, 104, 111] : Bs) := eq_of_beq hc36
    refine sr ?_
    refine sp hT ?_
    refine nn ?_
    refine at_ret ?_
    refine r_block ?_
    refine r_then ?_
    exact at_res1 () rfl (rv_tmp rfl) .nil trivial (by simp [twoF, *])
  have hc36 : s ≠ ([114, 104, 111] : Bs) := fun h => absurd (beq_iff_eq.2 h) (by rw [show (s == ([114, 104, 111] : Bs)) = false from hc36]; simp)
  refine sr ?_
  refine sp2 hT ?_
  refine nn ?_
  refine at_cond rfl (fun hc38 => ?_) (fun hc38 => ?_)
  · have hc38 : s = ([116, 97, 107, 101] : Bs) := eq_of_beq hc38
    refine sr ?_
    refine sp hT ?_
    refine nn ?_
    refine at_ret ?_
    refine r_block ?_
    refine r_then ?_
    exact at_res1 () rfl (rv_tmp rfl) .nil trivial (by simp [twoF, *])
  have hc38 : s ≠ ([116, 97, 107, 101] : Bs) := fun h => absurd (beq_iff_eq.2 h) (by rw [show (s == ([116, 97, 107, 101] : Bs)) = false from hc38]; simp)
  refine sr ?_
  refine sp2 hT ?_
  refine nn ?_
  refine at_cond rfl (fun hc40 => ?_) (fun hc40 => ?_)
  · have hc40 : s = ([100, 114, 111, 112] : Bs) := eq_of_beq hc40
    refine sr ?_
    refine sp hT ?_
    refine nn ?_
    refine at_ret ?_
    refine r_block ?_
    refine r_then ?_
    exact at_res1 () rfl (rv_tmp rfl) .nil trivial (by simp [twoF, *])
  have hc40 : s ≠ ([100, 114, 111, 112] : Bs) := fun h => absurd (beq_iff_eq.2 h) (by rw [show (s == ([100, 114, 111, 112] : Bs)) = false from hc40]; simp)
  refine sr ?_
  refine sp2 hT ?_
  refine nn ?_
  refine at_cond rfl (fun hc42 => ?_) (fun hc42 => ?_)
  · have hc42 : s = ([99, 97, 116] : Bs) := eq_of_beq hc42
    refine sr ?_
    refine sp hT ?_
    refine nn ?_
    refine at_ret ?_
    refine r_block ?_
    refine r_then ?_
    exact at_res1 () rfl (rv_tmp rfl) .nil trivial (by simp [twoF, *])
  have hc42 : s ≠ ([99, 97, 116] : Bs) := fun h => absurd (beq_iff_eq.2 h) (by rw [show (s == ([99, 97, 116] : Bs)) = false from hc42]; simp)
  refine at_skip ?_
  refine n_block ?_
  refine n_then ?_
  refine sr ?_
  refine sp hT ?_
  refine nn ?_
  refine at_ret ?_
  exact at_res1 () rfl (rv_tmp rfl) .nil trivial (by simp [twoF, *])

set_option maxRecDepth 100000 in
theorem one_spec (s : Bs) : Spec Tryz.prog 62 [.string (bs s)] [] [] (fun (_ : Unit) => .int .u8 (oneF s)) (fun _ => []) (fun _ => []) := by
  have hT := showT_ok
  refine spec_of Tryz.func62 rfl Tryz.ntmps62 rfl ?_
  intro β hM
  refine sr ?_
  refine sp hT ?_
  refine nn ?_
  refine at_seq ?_
  refine sr ?_
  refine sp hT ?_
  refine nn ?_
  refine at_block ?_
  refine at_seq ?_
  refine sr ?_
  refine sp2 hT ?_
  refine nn ?_
  refine at_cond rfl (fun hc4 => ?_) (fun hc4 => ?_)
  · have hc4_r := hc4
    have hc4 : s = ([43] : Bs) := eq_of_beq hc4
    refine at_skip ?_
    refine n_then ?_
    refine at_true rfl hc4_r ?_
    refine sr ?_
    refine sp hT ?_
    refine at_call (callFunc_enter Tryz.func63 rfl rfl) (two_spec s) rfl rfl rfl rfl rfl .nil trivial fun _ => ?_
    refine sp hT ?_
    refine nn ?_
    refine at_ret ?_
    refine r_block ?_
    refine r_then ?_
    exact at_res1 () rfl (rv_tmp rfl) .nil trivial (by first | (simp [oneF, *]; done) | simp [oneF, twoF, *])
  have hc4_r := hc4
  have hc4 : s ≠ ([43] : Bs) := fun h => absurd (beq_iff_eq.2 h) (by rw [show (s == ([43] : Bs)) = false from hc4]; simp)
  refine sr ?_
  refine sp2 hT ?_
  refine nn ?_
  refine at_cond rfl (fun hc4_1 => ?_) (fun hc4_1 => ?_)
  · have hc4_1_r := hc4_1
    have hc4_1 : s = ([45] : Bs) := eq_of_beq hc4_1
    refine at_skip ?_
    refine n_then ?_
    refine at_true rfl hc4_1_r ?_
    refine sr ?_
    refine sp hT ?_
    refine at_call (callFunc_enter Tryz.func63 rfl rfl) (two_spec s) rfl rfl rfl rfl rfl .nil trivial fun _ => ?_
    refine sp hT ?_
    refine nn ?_
    refine at_ret ?_
    refine r_block ?_
    refine r_then ?_
    exact at_res1 () rfl (rv_tmp rfl) .nil trivial (by first | (simp [oneF, *]; done) | simp [oneF, twoF, *])
  have hc4_1_r := hc4_1
  have hc4_1 : s ≠ ([45] : Bs) := fun h => absurd (beq_iff_eq.2 h) (by rw [show (s == ([45] : Bs)) = false from hc4_1]; simp)
  refine sr ?_
  refine sp2 hT ?_
  refine nn ?_
  refine at_cond rfl (fun hc4_2 => ?_) (fun hc4_2 => ?_)
  · have hc4_2_r := hc4_2
    have hc4_2 : s = ([42] : Bs) := eq_of_beq hc4_2
    refine at_skip ?_
    refine n_then ?_
    refine at_true rfl hc4_2_r ?_
    refine sr ?_
    refine sp hT ?_
    refine at_call (callFunc_enter Tryz.func63 rfl rfl) (two_spec s) rfl rfl rfl rfl rfl .nil trivial fun _ => ?_
    refine sp hT ?_
    refine nn ?_
    refine at_ret ?_
    refine r_block ?_
    refine r_then ?_
    exact at_res1 () rfl (rv_tmp rfl) .nil trivial (by first | (simp [oneF, *]; done) | simp [oneF, twoF, *])
  have hc4_2_r := hc4_2
  have hc4_2 : s ≠ ([42] : Bs) := fun h => absurd (beq_iff_eq.2 h) (by rw [show (s == ([42] : Bs)) = false from hc4_2]; simp)
  refine sr ?_
  refine sp2 hT ?_
  refine nn ?_
  refine at_cond rfl (fun hc4_3 => ?_) (fun hc4_3 => ?_)
  · have hc4_3_r := hc4_3
    have hc4_3 : s = ([37] : Bs) := eq_of_beq hc4_3
    refine at_skip ?_
    refine n_then ?_
    refine at_true rfl hc4_3_r ?_
    refine sr ?_
    refine sp hT ?_
    refine at_call (callFunc_enter Tryz.func63 rfl rfl) (two_spec s) rfl rfl rfl rfl rfl .nil trivial fun _ => ?_
    refine sp hT ?_
    refine nn ?_
    refine at_ret ?_
    refine r_block ?_
    refine r_then ?_
    exact at_res1 () rfl (rv_tmp rfl) .nil trivial (by first | (simp [oneF, *]; done) | simp [oneF, twoF, *])
  have hc4_3_r := hc4_3
  have hc4_3 : s ≠ ([37] : Bs) := fun h => absurd (beq_iff_eq.2 h) (by rw [show (s == ([37] : Bs)) = false from hc4_3]; simp)
  refine sr ?_
  refine sp2 hT ?_
  refine nn ?_
  refine at_cond rfl (fun hc4_4 => ?_) (fun hc4_4 => ?_)
  · have hc4_4_r := hc4_4
    have hc4_4 : s = ([124] : Bs) := eq_of_beq hc4_4
    refine at_skip ?_
    refine n_then ?_
    refine at_true rfl hc4_4_r ?_
    refine sr ?_
    refine sp hT ?_
    refine at_call (callFunc_enter Tryz.func63 rfl rfl) (two_spec s) rfl rfl rfl rfl rfl .nil trivial fun _ => ?_
    refine sp hT ?_
    refine nn ?_
    refine at_ret ?_
    refine r_block ?_
    refine r_then ?_
    exact at_res1 () rfl (rv_tmp rfl) .nil trivial (by first | (simp [oneF, *]; done) | simp [oneF, twoF, *])
  have hc4_4_r := hc4_4
  have hc4_4 : s ≠ ([124] : Bs) := fun h => absurd (beq_iff_eq.2 h) (by rw [show (s == ([124] : Bs)) = false from hc4_4]; simp)
  refine sr ?_
  refine sp2 hT ?_
  refine nn ?_
  refine at_cond rfl (fun hc4_5 => ?_) (fun hc4_5 => ?_)
  · have hc4_5_r := hc4_5
    have hc4_5 : s = ([109, 105, 110] : Bs) := eq_of_beq hc4_5
    refine at_skip ?_
    refine n_then ?_
    refine at_true rfl hc4_5_r ?_
    refine sr ?_
    refine sp hT ?_
    refine at_call (callFunc_enter Tryz.func63 rfl rfl) (two_spec s) rfl rfl rfl rfl rfl .nil trivial fun _ => ?_
    refine sp hT ?_
    refine nn ?_
    refine at_ret ?_
    refine r_block ?_
    refine r_then ?_
    exact at_res1 () rfl (rv_tmp rfl) .nil trivial (by first | (simp [oneF, *]; done) | simp [oneF, twoF, *])
  have hc4_5_r := hc4_5
  have hc4_5 : s ≠ ([109, 105, 110] : Bs) := fun h => absurd (beq_iff_eq.2 h) (by rw [show (s == ([109, 105, 110] : Bs)) = false from hc4_5]; simp)
  refine at_region ?_
  refine sp2 hT ?_
  refine nn ?_
  refine at_cond rfl (fun hc4_6 => ?_) (fun hc4_6 => ?_)
  · have hc4_6_r := hc4_6
    have hc4_6 : s = ([109, 97, 120] : Bs) := eq_of_beq hc4_6
    refine sr ?_
    refine sp hT ?_
    refine at_call (callFunc_enter Tryz.func63 rfl rfl) (two_spec s) rfl rfl rfl rfl rfl .nil trivial fun _ => ?_
    refine sp hT ?_
    refine nn ?_
    refine at_ret ?_
    refine r_block ?_
    refine r_then ?_
    exact at_res1 () rfl (rv_tmp rfl) .nil trivial (by first | (simp [oneF, *]; done) | simp [oneF, twoF, *])
  have hc4_6_r := hc4_6
  have hc4_6 : s ≠ ([109, 97, 120] : Bs) := fun h => absurd (beq_iff_eq.2 h) (by rw [show (s == ([109, 97, 120] : Bs)) = false from hc4_6]; simp)
  refine sr ?_
  refine sp2 hT ?_
  refine nn ?_
  refine at_cond rfl (fun hc14 => ?_) (fun hc14 => ?_)
  · have hc14_r := hc14
    have hc14 : s = ([126] : Bs) := eq_of_beq hc14
    refine sr ?_
    refine sp hT ?_
    refine nn ?_
    refine at_ret ?_
    refine r_block ?_
    refine r_then ?_
    exact at_res1 () rfl (rv_tmp rfl) .nil trivial (by first | (simp [oneF, *]; done) | simp [oneF, twoF, *])
  have hc14_r := hc14
  have hc14 : s ≠ ([126] : Bs) := fun h => absurd (beq_iff_eq.2 h) (by rw [show (s == ([126] : Bs)) = false from hc14]; simp)
  refine sr ?_
  refine sp2 hT ?_
  refine nn ?_
  refine at_cond rfl (fun hc16 => ?_) (fun hc16 => ?_)
  · have hc16_r := hc16
    have hc16 : s = ([105, 111, 116, 97] : Bs) := eq_of_beq hc16
    refine sr ?_
    refine sp hT ?_
    refine nn ?_
    refine at_ret ?_
    refine r_block ?_
    refine r_then ?_
    exact at_res1 () rfl (rv_tmp rfl) .nil trivial (by first | (simp [oneF, *]; done) | simp [oneF, twoF, *])
  have hc16_r := hc16
  have hc16 : s ≠ ([105, 111, 116, 97] : Bs) := fun h => absurd (beq_iff_eq.2 h) (by rw [show (s == ([105, 111, 116, 97] : Bs)) = false from hc16]; simp)
  refine sr ?_
  refine sp2 hT ?_
  refine nn ?_
  refine at_cond rfl (fun hc18 => ?_) (fun hc18 => ?_)
  · have hc18_r := hc18
    have hc18 : s = ([115, 104, 97, 112, 101] : Bs) := eq_of_beq hc18
    refine sr ?_
    refine sp hT ?_
    refine nn ?_
    refine at_ret ?_
    refine r_block ?_
    refine r_then ?_
    exact at_res1 () rfl (rv_tmp rfl) .nil trivial (by first | (simp [oneF, *]; done) | simp [oneF, twoF, *])
  have hc18_r := hc18
  have hc18 : s ≠ ([115, 104, 97, 112, 101] : Bs) := fun h => absurd (beq_iff_eq.2 h) (by rw [show (s == ([115, 104, 97, 112, 101] : Bs)) = false from hc18]; simp)
  refine sr ?_
  refine sp2 hT ?_
  refine nn ?_
  refine at_cond rfl (fun hc20 => ?_) (fun hc20 => ?_)
  · have hc20_r := hc20
    have hc20 : s = ([114, 97, 118, 101, 108] : Bs) := eq_of_beq hc20
    refine sr ?_
    refine sp hT ?_
    refine nn ?_
    refine at_ret ?_
    refine r_block ?_
    refine r_then ?_
    exact at_res1 () rfl (rv_tmp rfl) .nil trivial (by first | (simp [oneF, *]; done) | simp [oneF, twoF, *])
  have hc20_r := hc20
  have hc20 : s ≠ ([114, 97, 118, 101, 108] : Bs) := fun h => absurd (beq_iff_eq.2 h) (by rw [show (s == ([114, 97, 118, 101, 108] : Bs)) = false from hc20]; simp)
  refine sr ?_
  refine sp2 hT ?_
  refine nn ?_
  refine at_cond rfl (fun hc22 => ?_) (fun hc22 => ?_)
  · have hc22_r := hc22
    have hc22 : s = ([114, 101, 118] : Bs) := eq_of_beq hc22
    refine sr ?_
    refine sp hT ?_
    refine nn ?_
    refine at_ret ?_
    refine r_block ?_
    refine r_then ?_
    exact at_res1 () rfl (rv_tmp rfl) .nil trivial (by first | (simp [oneF, *]; done) | simp [oneF, twoF, *])
  have hc22_r := hc22
  have hc22 : s ≠ ([114, 101, 118] : Bs) := fun h => absurd (beq_iff_eq.2 h) (by rw [show (s == ([114, 101, 118] : Bs)) = false from hc22]; simp)
  refine sr ?_
  refine sp2 hT ?_
  refine nn ?_
  refine at_cond rfl (fun hc24 => ?_) (fun hc24 => ?_)
  · have hc24_r := hc24
    have hc24 : s = ([116, 117, 114, 110] : Bs) := eq_of_beq hc24
    refine sr ?_
    refine sp hT ?_
    refine nn ?_
    refine at_ret ?_
    refine r_block ?_
    refine r_then ?_
    exact at_res1 () rfl (rv_tmp rfl) .nil trivial (by first | (simp [oneF, *]; done) | simp [oneF, twoF, *])
  have hc24_r := hc24
  have hc24 : s ≠ ([116, 117, 114, 110] : Bs) := fun h => absurd (beq_iff_eq.2 h) (by rw [show (s == ([116, 117, 114, 110] : Bs)) = false from hc24]; simp)
  refine at_skip ?_
  refine n_block ?_
  refine n_then ?_
  refine sr ?_
  refine sp hT ?_
  refine nn ?_
  refine at_ret ?_
  exact at_res1 () rfl (rv_tmp rfl) .nil trivial (by first | (simp [oneF, *]; done) | simp [oneF, twoF, *])

set_option maxRecDepth 100000 in
theorem verb_spec (s : Bs) : Spec Tryz.prog 52 [.string (bs s)] [] [] (fun (_ : Unit) => .bool (verbB s)) (fun _ => []) (fun _ => []) := by
  have hT := showT_ok
  refine spec_of Tryz.func52 rfl Tryz.ntmps52 rfl ?_
  intro β hM
  refine sr ?_
  refine sp hT ?_
  refine nn ?_
  refine sr ?_
  refine sp hT ?_
  refine at_call (callFunc_enter Tryz.func62 rfl rfl) (one_spec s) rfl rfl rfl rfl rfl .nil trivial fun _ => ?_
  refine sp2 hT ?_
  refine at_case (fun hg6 => ?_) (fun hg6 => ?_)
  · have hg6 := bne_iff_ne.1 hg6
    refine sk3 ?_
    refine sp2 hT ?_
    refine nn ?_
    refine at_ret ?_
    exact at_res1 () rfl (rv_tmp rfl) .nil trivial (by simp [verbB, *])
  have hg6 := bne_eq_false_iff_eq.1 hg6
  refine sp hT ?_
  refine at_call (callFunc_enter Tryz.func63 rfl rfl) (two_spec s) rfl rfl rfl rfl rfl .nil trivial fun _ => ?_
  refine sp3 hT ?_
  refine nn ?_
  refine at_ret ?_
  exact at_res1 () rfl (rv_tmp rfl) .nil trivial (by simp [verbB, *])

set_option maxRecDepth 100000 in
theorem Verb_spec (s : Bs) (t : Bool) : Spec Tryz.prog 43 [.string (bs s), .bool t] [] [] (fun (_ : Unit) => .tuple #[.int .u8 (verbF s t), .bool (verbF s t != 0)]) (fun _ => []) (fun _ => []) := by
  have hT := showT_ok
  refine spec_of Tryz.func43 rfl Tryz.ntmps43 rfl ?_
  intro β hM
  refine sr ?_
  refine sp2 hT ?_
  refine nn ?_
  refine sr ?_
  refine sp hT ?_
  refine at_call (callFunc_enter Tryz.func62 rfl rfl) (one_spec s) rfl rfl rfl rfl rfl .nil trivial fun _ => ?_
  refine sp hT ?_
  refine nn ?_
  refine at_seq ?_
  refine sr ?_
  refine sp hT ?_
  refine nn ?_
  refine at_cond rfl (fun hc9 => ?_) (fun hc9 => ?_)
  · refine at_region ?_
    refine sp hT ?_
    refine at_call (callFunc_enter Tryz.func63 rfl rfl) (two_spec s) rfl rfl rfl rfl rfl .nil trivial fun _ => ?_
    refine sp hT ?_
    refine nn ?_
    refine sr ?_
    refine sp4 hT ?_
    refine sp hT ?_
    refine nn ?_
    refine at_ret ?_
    exact at_res2 () rfl (rv_tmp rfl) (rv_tmp rfl) .nil trivial (by simp [verbF, *])
  refine at_skip ?_
  refine n_then ?_
  refine sr ?_
  refine sp4 hT ?_
  refine sp hT ?_
  refine nn ?_
  refine at_ret ?_
  exact at_res2 () rfl (rv_tmp rfl) (rv_tmp rfl) .nil trivial (by simp [verbF, *])

end Go.Proofs.YtngkedmndhmjcaaGreatDoor
