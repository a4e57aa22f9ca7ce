/- Walk of parse.Name. (Printed by wip/gen/lex.py.) -/
import Derived.Test.YtngkedmndhmjcaaGreatDoorSpell
namespace Go.Proofs.YtngkedmndhmjcaaGreatDoor
open Go.RowKit

def lexOne (s : Bs) : Bool := fltEq ⟨(lexP s).2.1, (lexP s).2.2⟩ ⟨0, 0⟩ && match (lexP s).1 with
  | [t] => t.kind == 1 && t.word == s
  | _ => false
def nameB (s : Bs) : Bool := !(verbB s) && (!(s == [105, 110]) && (!(s == [111, 117, 116]) && lexOne s))
section
variable {s : Bs}
theorem name_a (h : verbB s = true) : Value.bool false = .bool (nameB s) := by simp [nameB, h]
theorem name_b (h : s = [105, 110]) : Value.bool false = .bool (nameB s) := by simp [nameB, h]
theorem name_c (h : s = [111, 117, 116]) : Value.bool false = .bool (nameB s) := by simp [nameB, h]
theorem name_d (h : fltEq ⟨(lexP s).2.1, (lexP s).2.2⟩ ⟨0, 0⟩ = false) : Value.bool false = .bool (nameB s) := by simp [nameB, lexOne, h]
theorem name_e (h : (((lexP s).1.length : Nat) : Int) ≠ 1) : Value.bool false = .bool (nameB s) := by
  unfold nameB lexOne
  split
  · rename_i t ht
    rw [ht] at h
    simp at h
  · simp
theorem list_one {α : Type} {l : List α} {x : α} (h : ((l.length : Nat) : Int) = 1) (hx : l[0]? = some x) : l = [x] := by
  match l, h with
  | [a], _ => simp at hx; rw [hx]
  | [], h => simp at h
  | _ :: _ :: _, h => simp at h; omega
variable (h0 : verbB s = false) (h1 : s ≠ [105, 110]) (h2 : s ≠ [111, 117, 116]) (hf : fltEq ⟨(lexP s).2.1, (lexP s).2.2⟩ ⟨0, 0⟩ = true) (hl : (((lexP s).1.length : Nat) : Int) = 1) {x : TokV} (hx : (lexP s).1[0]? = some x)
include h0 h1 h2 hf hl hx
theorem name_at : nameB s = (x.kind == 1 && x.word == s) := by
  unfold nameB lexOne
  rw [list_one hl hx, h0, hf, beq_eq_false_iff_ne.2 h1, beq_eq_false_iff_ne.2 h2]
  simp
theorem name_f (hk : x.kind ≠ 1) : Value.bool false = .bool (nameB s) := by
  rw [name_at h0 h1 h2 hf hl hx]
  simp [hk]
theorem name_g (hk : x.kind = 1) : Value.bool (x.word == s) = .bool (nameB s) := by
  rw [name_at h0 h1 h2 hf hl hx]
  simp [hk]
end
theorem Name_zero_api_Fault : (Tryz.prog.info? 32).bind (·.zero) = some (.agg #[.int .i64 0, .int .i64 0]) := by kernel_rfl
theorem Name_built_api_Fault_  : Tryz.prog.built 32 [] = some #[.int .i64 0, .int .i64 0] := by kernel_rfl

set_option maxRecDepth 100000 in
theorem Name_spec (s : Bs) (hs : s.length ≤ 140737488355328) : Spec Tryz.prog 35 [.string (bs s)] [] [globF] (fun (_ : Unit) => .bool (nameB s)) (fun _ => []) (fun _ => []) := by
  have hT := showT_ok
  refine spec_of Tryz.func35 rfl Tryz.ntmps35 rfl ?_
  intro β hM
  refine sr ?_
  refine sp hT ?_
  refine nn ?_
  refine at_seq ?_
  refine sr ?_
  refine sp hT ?_
  refine at_call (callFunc_enter Tryz.func52 rfl rfl) (verb_spec s) rfl rfl rfl rfl rfl .nil trivial fun _ => ?_
  refine sp hT ?_
  refine at_case (fun hg7 => ?_) (fun hg7 => ?_)
  · refine sk2 ?_
    refine sp2 hT ?_
    refine sk2 ?_
    refine sp hT ?_
    refine nn ?_
    refine at_true rfl rfl ?_
    refine sr ?_
    refine sp hT ?_
    refine nn ?_
    refine at_ret ?_
    refine r_then ?_
    exact at_res1 () rfl (rv_tmp rfl) .nil trivial (by first | exact name_a hg7 | exact name_b hg11 | exact name_c hc14 | exact name_d hg23 | exact name_e hg28 | exact name_f hg7 hg11 hc14 hg23 hg28 ‹(lexP s).1[0]? = some _› hg35 | exact name_g hg7 hg11 hc14 hg23 hg28 ‹(lexP s).1[0]? = some _› hg35)
  refine sp4 hT ?_
  refine at_case (fun hg11 => ?_) (fun hg11 => ?_)
  · have hg11 : s = ([105, 110] : Bs) := eq_of_beq hg11
    refine sk2 ?_
    refine sp hT ?_
    refine nn ?_
    refine at_true rfl rfl ?_
    refine sr ?_
    refine sp hT ?_
    refine nn ?_
    refine at_ret ?_
    refine r_then ?_
    exact at_res1 () rfl (rv_tmp rfl) .nil trivial (by first | exact name_a hg7 | exact name_b hg11 | exact name_c hc14 | exact name_d hg23 | exact name_e hg28 | exact name_f hg7 hg11 hc14 hg23 hg28 ‹(lexP s).1[0]? = some _› hg35 | exact name_g hg7 hg11 hc14 hg23 hg28 ‹(lexP s).1[0]? = some _› hg35)
  have hg11 : s ≠ ([105, 110] : Bs) := fun h => absurd (beq_iff_eq.2 h) (by rw [show (s == ([105, 110] : Bs)) = false from hg11]; simp)
  refine sp3 hT ?_
  refine nn ?_
  refine at_cond rfl (fun hc14 => ?_) (fun hc14 => ?_)
  · have hc14 : s = ([111, 117, 116] : Bs) := eq_of_beq hc14
    refine sr ?_
    refine sp hT ?_
    refine nn ?_
    refine at_ret ?_
    refine r_then ?_
    exact at_res1 () rfl (rv_tmp rfl) .nil trivial (by first | exact name_a hg7 | exact name_b hg11 | exact name_c hc14 | exact name_d hg23 | exact name_e hg28 | exact name_f hg7 hg11 hc14 hg23 hg28 ‹(lexP s).1[0]? = some _› hg35 | exact name_g hg7 hg11 hc14 hg23 hg28 ‹(lexP s).1[0]? = some _› hg35)
  have hc14 : s ≠ ([111, 117, 116] : Bs) := fun h => absurd (beq_iff_eq.2 h) (by rw [show (s == ([111, 117, 116] : Bs)) = false from hc14]; simp)
  refine at_skip ?_
  refine n_then ?_
  refine sr ?_
  refine sp hT ?_
  refine at_call (callFunc_enter Tryz.func17 rfl rfl) (Lex_spec s (by omega)) rfl rfl rfl rfl rfl .nil ⟨Has.of mT0, trivial⟩ fun ⟨A1, c2⟩ => ?_
  refine sp3 hT ?_
  refine at_alloc rfl rfl rfl rfl Name_zero_api_Fault rfl fun b3 => ?_
  refine sp hT ?_
  refine sto hT .head ?_
  refine nn ?_
  refine sr ?_
  refine ss (ldN hT (knows_own (off := 0) .head)) ?_
  refine ss (sti_build rfl rfl (Name_built_api_Fault_)) ?_
  refine ss (sti_eql_flt ⟨(lexP s).2.1, (lexP s).2.2⟩ ⟨0, 0⟩ rfl rfl rfl) ?_
  refine sp hT ?_
  refine at_case (fun hg23 => ?_) (fun hg23 => ?_)
  · refine sp4 hT ?_
    refine sp hT ?_
    refine at_case (fun hg28 => ?_) (fun hg28 => ?_)
    · have hg28 := eq_of_beq hg28
      refine sp hT ?_
      obtain ⟨x4, hx5⟩ : ∃ x, (lexP s).1[0]? = some x := ⟨_, List.getElem?_eq_getElem (by omega)⟩
      refine ss (sti_index hT (k := 0) (reads_fact (Has.of mT0)) rfl rfl rfl rfl rfl rfl rfl (by omega)) ?_
      refine sp hT ?_
      refine ss (sti_load1 hT (Reads.knows (reads_fact (Has.of mT0)) (k := 0) (x := x4) hx5 0) rfl rfl rfl rfl rfl) ?_
      refine sp3 hT ?_
      refine at_case (fun hg35 => ?_) (fun hg35 => ?_)
      · have hg35 := eq_of_beq hg35
        refine sp hT ?_
        refine ss (sti_index hT (k := 0) (reads_fact (Has.of mT0)) rfl rfl rfl rfl rfl rfl rfl (by omega)) ?_
        refine sp hT ?_
        refine ss (sti_load1 hT (Reads.knows (reads_fact (Has.of mT0)) (k := 0) (x := x4) hx5 2) rfl rfl rfl rfl rfl) ?_
        refine sp4 hT ?_
        refine nn ?_
        refine at_ret ?_
        exact at_res1 () rfl (rv_tmp rfl) .nil trivial (by first | exact name_a hg7 | exact name_b hg11 | exact name_c hc14 | exact name_d hg23 | exact name_e hg28 | exact name_f hg7 hg11 hc14 hg23 hg28 ‹(lexP s).1[0]? = some _› hg35 | exact name_g hg7 hg11 hc14 hg23 hg28 ‹(lexP s).1[0]? = some _› hg35)
      have hg35 := beq_eq_false_iff_ne.1 hg35
      refine sk4 ?_
      refine sk2 ?_
      refine sp2 hT ?_
      refine nn ?_
      refine at_ret ?_
      exact at_res1 () rfl (rv_tmp rfl) .nil trivial (by first | exact name_a hg7 | exact name_b hg11 | exact name_c hc14 | exact name_d hg23 | exact name_e hg28 | exact name_f hg7 hg11 hc14 hg23 hg28 ‹(lexP s).1[0]? = some _› hg35 | exact name_g hg7 hg11 hc14 hg23 hg28 ‹(lexP s).1[0]? = some _› hg35)
    have hg28 := beq_eq_false_iff_ne.1 hg28
    refine sk4 ?_
    refine sk ?_
    refine sp2 hT ?_
    refine sk4 ?_
    refine sk2 ?_
    refine sp2 hT ?_
    refine nn ?_
    refine at_ret ?_
    exact at_res1 () rfl (rv_tmp rfl) .nil trivial (by first | exact name_a hg7 | exact name_b hg11 | exact name_c hc14 | exact name_d hg23 | exact name_e hg28 | exact name_f hg7 hg11 hc14 hg23 hg28 ‹(lexP s).1[0]? = some _› hg35 | exact name_g hg7 hg11 hc14 hg23 hg28 ‹(lexP s).1[0]? = some _› hg35)
  refine sk3 ?_
  refine sp2 hT ?_
  refine sk4 ?_
  refine sk ?_
  refine sp2 hT ?_
  refine sk4 ?_
  refine sk2 ?_
  refine sp2 hT ?_
  refine nn ?_
  refine at_ret ?_
  exact at_res1 () rfl (rv_tmp rfl) .nil trivial (by first | exact name_a hg7 | exact name_b hg11 | exact name_c hc14 | exact name_d hg23 | exact name_e hg28 | exact name_f hg7 hg11 hc14 hg23 hg28 ‹(lexP s).1[0]? = some _› hg35 | exact name_g hg7 hg11 hc14 hg23 hg28 ‹(lexP s).1[0]? = some _› hg35)

end Go.Proofs.YtngkedmndhmjcaaGreatDoor
