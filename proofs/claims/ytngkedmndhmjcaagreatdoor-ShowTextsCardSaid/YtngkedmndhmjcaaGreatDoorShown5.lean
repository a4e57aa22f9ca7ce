/- The laws' own check at constants: what is shown of a document that is given. (Printed by wip/gen/ref8.py.) -/
import Derived.Test.YtngkedmndhmjcaaGreatDoorLaid
import Derived.Test.YtngkedmndhmjcaaGreatDoorRef7
namespace Go.Proofs.YtngkedmndhmjcaaGreatDoor
open Go.RowKit

def text5 : Bs := [111, 117, 116, 32, 40, 40, 49, 41, 43, 40, 120, 42, 50, 41, 41, 109, 105, 110, 46, 40, 51, 41]
def back5 : Bs := [111, 117, 116, 32, 40, 49, 32, 43, 32, 120, 32, 42, 32, 50, 41, 32, 109, 105, 110, 46, 32, 51, 10]
def prog5 : Prog := (parseP text5).1
theorem parse5 : (parseP text5).2 = (0, 0) := by decide +kernel
theorem show5 : showP prog5 = (back5, 0) := by decide +kernel
theorem right5 : (programS prog5).2 = true := by decide +kernel
theorem show0 : showP ⟨[], []⟩ = ([], 50) := by decide +kernel
def okB (p : Prog) : Bool :=
  (p.inputs.all fun x => decide (x.name.length ≤ 140737488355328) && x.sides.all fun d => decide (d.name.length ≤ 140737488355328 ∧ -9223372036854775808 ≤ d.n ∧ d.n ≤ 9223372036854775807)) &&
  (p.lines.all fun x => decide (x.name.length ≤ 140737488355328) && x.items.all fun it => decide (it.name.length ≤ 140737488355328) && it.nums.all fun z => decide (-9223372036854775808 ≤ z ∧ z ≤ 9223372036854775807)) &&
  decide (p.inputs.length ≤ 140737488355328 ∧ p.lines.length ≤ 140737488355328)
theorem ok5 : okB prog5 = true := by decide +kernel
theorem ok_of {x : ProgV} (h : okB x.pr = true) : ProgOk x ∧ x.inputs.list.length ≤ 140737488355328 ∧ x.lines.list.length ≤ 140737488355328 := by
  unfold okB at h
  simp only [Bool.and_eq_true, List.all_eq_true, decide_eq_true_eq] at h
  obtain ⟨⟨h1, h2⟩, h3, h4⟩ := h
  refine ⟨⟨fun y hy => ?_, fun y hy => ?_⟩, by have : x.pr.inputs.length = x.inputs.list.length := List.length_map _; omega, by have : x.pr.lines.length = x.lines.list.length := List.length_map _; omega⟩
  · obtain ⟨a, b⟩ := h1 y.inp (List.mem_map.2 ⟨y, hy, rfl⟩)
    exact ⟨a, fun d hd => b d.sd (List.mem_map.2 ⟨d, hd, rfl⟩)⟩
  · obtain ⟨a, b⟩ := h2 y.ln (List.mem_map.2 ⟨y, hy, rfl⟩)
    exact ⟨a, fun d hd => b d.it (List.mem_map.2 ⟨d, hd, rfl⟩)⟩
theorem parse5_spec : Spec Tryz.prog 15 [.string (bs text5)] [] [globF] (fun (x : ProgV) => .tuple #[.agg #[.slice x.inputs.addr x.inputs.list.length x.inputs.cap, .slice x.lines.addr x.lines.list.length x.lines.cap], .agg #[.int .i64 0, .int .i64 0]]) (fun _ => []) (fun (x : ProgV) => [progFct x, Fact.pure (x.pr = prog5)]) := by
  have h := Parse_spec text5 (by decide)
  rw [parse5] at h
  exact h
def emptyV : ProgV := ⟨⟨none, 0, []⟩, ⟨none, 0, []⟩⟩
theorem empty_ok : ProgOk emptyV := ⟨fun x hx => by simp [emptyV] at hx, fun x hx => by simp [emptyV] at hx⟩
theorem empty_spec : Spec Tryz.prog 13 [.agg #[.slice none 0 0, .slice none 0 0]] [] [globF] (fun _ : Unit => .tuple #[.string (bs []), .int .i64 50]) (fun _ => []) (fun _ => []) := by
  have h := sShow_spec emptyV empty_ok (by decide) (by decide)
  rw [show emptyV.pr = ⟨[], []⟩ from rfl, show0] at h
  refine fun S w s k => h S w s (All.cons (k _ mT0) (All.cons ?_ (All.cons ?_ (All.cons ?_ (All.cons ?_ fun g hg => by simp at hg)))))
  · exact ⟨none, 0, rfl, fun k x hk => by simp [emptyV] at hk⟩
  · exact fun x hx => by simp [emptyV] at hx
  · exact ⟨none, 0, rfl, fun k x hk => by simp [emptyV] at hk⟩
  exact fun x hx => by simp [emptyV] at hx
theorem qshown5_zero_api_Program : (Tryz.prog.info? 25).bind (·.zero) = some (.agg #[.slice none 0 0, .slice none 0 0]) := by kernel_rfl
theorem qshown5_zero_api_Fault : (Tryz.prog.info? 32).bind (·.zero) = some (.agg #[.int .i64 0, .int .i64 0]) := by kernel_rfl
theorem qshown5_built_api_Program_  : Tryz.prog.built 25 [] = some #[.slice none 0 0, .slice none 0 0] := by kernel_rfl
theorem qshown5_built_api_Fault_  : Tryz.prog.built 32 [] = some #[.int .i64 0, .int .i64 0] := by kernel_rfl

set_option maxRecDepth 100000 in
theorem shown5_spec  : Spec Tryz.prog 10 [] [] [globF] (fun (_ : Unit) => .bool true) (fun _ => []) (fun _ => []) := by
  have hT := refT_ok
  refine spec_of Tryz.func10 rfl Tryz.ntmps10 rfl ?_
  intro β hM
  refine sr ?_
  refine sp hT ?_
  refine nn ?_
  refine sr ?_
  refine at_call (callFunc_enter Tryz.func15 rfl rfl) parse5_spec rfl rfl rfl rfl rfl .nil ⟨(Has.of mT0), trivial⟩ fun X1 => ?_
  refine at_know (Has.of mT1) fun hpr => ?_
  obtain ⟨hok, hl1, hl2⟩ := ok_of (x := X1) (by rw [hpr]; exact ok5)
  refine at_fact (inputE.sl (.slice X1.inputs.addr X1.inputs.list.length X1.inputs.cap) X1.inputs.list) (Has.left (Has.left (Has.of mT0))) ?_
  refine at_fact (inputsF X1.inputs.list) (Has.right (Has.left (Has.of mT1))) ?_
  refine at_fact (lineE.sl (.slice X1.lines.addr X1.lines.list.length X1.lines.cap) X1.lines.list) (Has.left (Has.right (Has.of mT2))) ?_
  refine at_fact (linesF X1.lines.list) (Has.right (Has.right (Has.of mT3))) ?_
  refine sp3 hT ?_
  refine at_alloc rfl rfl rfl rfl qshown5_zero_api_Program rfl fun b2 => ?_
  refine at_alloc rfl rfl rfl rfl qshown5_zero_api_Fault rfl fun b3 => ?_
  refine sto hT kT1 ?_
  refine sto hT kT1 ?_
  refine nn ?_
  refine sr ?_
  refine ss (ldN hT (knows_own (off := 0) kT1)) ?_
  refine at_call (callFunc_enter Tryz.func13 rfl rfl) (sShow_spec X1 hok hl1 hl2) rfl rfl rfl rfl rfl .nil ⟨(Has.of mT6), (Has.of mT3), (Has.of mT2), (Has.of mT1), (Has.of mT0), trivial⟩ fun _ => ?_
  refine at_val (v' := .tuple #[.string (bs back5), .int .i64 0]) (by rw [hpr, show5]) ?_
  refine sp4 hT ?_
  refine sp hT ?_
  refine nn ?_
  refine sr ?_
  refine ss (sti_build rfl rfl (qshown5_built_api_Program_)) ?_
  refine at_call (callFunc_enter Tryz.func13 rfl rfl) empty_spec rfl rfl rfl rfl rfl .nil ⟨(Has.of mT6), trivial⟩ fun _ => ?_
  refine sp4 hT ?_
  refine sp hT ?_
  refine nn ?_
  refine sr ?_
  refine ss (ldN hT (knows_own (off := 0) .head)) ?_
  refine ss (sti_build rfl rfl (qshown5_built_api_Fault_)) ?_
  refine ss (sti_eql_flt ⟨0, 0⟩ ⟨0, 0⟩ rfl rfl rfl) ?_
  refine at_bool (t' := true) (by rfl) ?_
  refine sp3 hT ?_
  refine at_bool (t' := true) (by decide) ?_
  refine sp4 hT ?_
  refine at_bool (t' := true) (by decide) ?_
  refine sp4 hT ?_
  refine at_bool (t' := true) (by decide) ?_
  refine sp2 hT ?_
  refine ss (ldN hT (knows_own (off := 0) kT1)) ?_
  refine at_call (callFunc_enter Tryz.func11 rfl rfl) (sRight_spec X1 hok hl1 hl2) rfl rfl rfl rfl rfl .nil ⟨(Has.of mT6), (Has.of mT3), (Has.of mT2), (Has.of mT1), (Has.of mT0), trivial⟩ fun _ => ?_
  refine at_bool (t' := true) (by rw [hpr, right5]) ?_
  refine sp2 hT ?_
  refine nn ?_
  refine at_ret ?_
  exact at_res1 () rfl (rv_tmp rfl) .nil trivial (rfl)

end Go.Proofs.YtngkedmndhmjcaaGreatDoor
