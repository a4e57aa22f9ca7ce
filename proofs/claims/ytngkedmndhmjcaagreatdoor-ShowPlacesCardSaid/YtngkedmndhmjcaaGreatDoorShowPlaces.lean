/- Proved: for every input windrow/windrowlaw05.ShowPlaces returns true, and each argument reads afterwards as it read before. No condition beside the form's own. -/
import Derived.Test.YtngkedmndhmjcaaGreatDoorM8
import Derived.Test.YtngkedmndhmjcaaGreatDoorM9
import Derived.Test.YtngkedmndhmjcaaGreatDoorCards
import Derived.Test.YtngkedmndhmjcaaGreatDoorTie
import Derived.JoinedTies
namespace Go.Proofs.YtngkedmndhmjcaaGreatDoor.showPlaces
open Go.ChangeShapes Go.WideShapes Go.ChangeAt Go.RowKit

theorem lShowPlaces_zero_api_Program : (Tryz.prog.info? 25).bind (·.zero) = some (.agg #[.slice none 0 0, .slice none 0 0]) := by kernel_rfl

set_option maxRecDepth 100000 in
theorem law_spec (P : ProgV) (hP : ProgOk P) (hl1 : P.inputs.list.length ≤ 140737488355328) (hl2 : P.lines.list.length ≤ 140737488355328) (hA : AlikeOk P) (hS : ∀ x ∈ P.inputs.list, x.sides.list.length ≤ 5864062014805) : Spec Tryz.prog 9 [.agg #[.slice P.inputs.addr P.inputs.list.length P.inputs.cap, .slice P.lines.addr P.lines.list.length P.lines.cap]] [] [globF, inputE.sl (.slice P.inputs.addr P.inputs.list.length P.inputs.cap) P.inputs.list, inputsF P.inputs.list, lineE.sl (.slice P.lines.addr P.lines.list.length P.lines.cap) P.lines.list, linesF P.lines.list] (fun (_ : Unit) => .bool true) (fun _ => []) (fun _ => []) := by
  have hT := show2T_ok
  refine spec_of Tryz.func9 rfl Tryz.ntmps9 rfl ?_
  intro β hM
  refine sr ?_
  refine at_box rfl rfl rfl rfl rfl rfl fun b1 => ?_
  refine sp hT ?_
  refine nn ?_
  refine sr ?_
  refine at_call (callFunc_enter Tryz.func10 rfl rfl) (shown5_spec ) rfl rfl rfl rfl rfl .nil ⟨Has.of mT0, trivial⟩ fun _ => ?_
  refine sp hT ?_
  refine nn ?_
  refine at_seq ?_
  refine sr ?_
  refine sp hT ?_
  refine ss (ldO hT (knows_own (off := 0) .head)) ?_
  refine sp3 hT ?_
  refine at_case (fun hg17 => ?_) (fun hg17 => ?_)
  · have hg17 := of_decide_eq_true hg17
    refine sk4 ?_
    refine sp hT ?_
    refine nn ?_
    refine at_true rfl rfl ?_
    refine sr ?_
    refine sp2 hT ?_
    refine nn ?_
    refine at_ret ?_
    refine r_then ?_
    exact at_res1 () rfl (rv_tmp rfl) .nil trivial (rfl)
  have hg17 := Int.not_lt.1 (of_decide_eq_false hg17)
  refine sp hT ?_
  refine ss (ldO hT (knows_own (off := 1) .head)) ?_
  refine sp3 hT ?_
  refine nn ?_
  refine at_cond rfl (fun hc22 => ?_) (fun hc22 => ?_)
  · have hc22 := of_decide_eq_true hc22
    refine sr ?_
    refine sp2 hT ?_
    refine nn ?_
    refine at_ret ?_
    refine r_then ?_
    exact at_res1 () rfl (rv_tmp rfl) .nil trivial (rfl)
  have hc22 := Int.not_lt.1 (of_decide_eq_false hc22)
  refine at_skip ?_
  refine n_then ?_
  refine sr ?_
  refine sp hT ?_
  refine nn ?_
  refine at_seq ?_
  refine sr ?_
  refine sp hT ?_
  refine ss (ldO hT (knows_own (off := 1) .head)) ?_
  refine sp2 hT ?_
  refine nn ?_
  refine at_block ?_
  refine at_loop2 (ι := Nat × Nat) [(1, _), (3, _), (26, _)] ⟨rfl, rfl, rfl, trivial⟩ (fun ⟨j, m⟩ => [(4, .int .i64 (m : Nat)), (27, .int .i64 (j : Nat))]) (fun _ => []) (fun ⟨j, m⟩ => [Fact.pure (j ≤ P.lines.list.length ∧ m ≤ 1000 ∧ LinesFine (P.lines.list.take j))]) (fun ⟨j, m⟩ => P.lines.list.length - j) (0, 1000) ⟨rfl, rfl, trivial⟩ .nil ⟨Has.pure (⟨by omega, by omega, fun x hx => by simp at hx⟩), trivial⟩ ?_
  rintro ⟨j, m⟩
  dsimp only
  refine at_know (Has.of mT0) fun hinv6 => ?_
  refine sr ?_
  refine sp hT ?_
  refine nn ?_
  refine at_seq ?_
  refine at_cond rfl (fun hc28 => ?_) (fun hc28 => ?_)
  · have hc28 := of_decide_eq_true hc28
    refine at_skip ?_
    refine n_then ?_
    refine at_seq ?_
    refine at_block ?_
    refine sr ?_
    refine sp2 hT ?_
    refine nn ?_
    refine at_seq ?_
    refine sr ?_
    refine sp hT ?_
    refine ss (ldO hT (knows_own (off := 1) .head)) ?_
    refine sp hT ?_
    obtain ⟨x2, hx3⟩ : ∃ x', P.lines.list[j]? = some x' := ⟨_, List.getElem?_eq_getElem (by omega)⟩
    refine ss (sti_index hT (k := j) (reads_fact (Has.of mT4)) rfl rfl rfl rfl rfl rfl rfl (by omega)) ?_
    refine sp hT ?_
    refine ss (sti_load1 hT (Reads.knows (reads_fact (Has.of mT4)) (k := j) (x := x2) hx3 2) rfl rfl rfl rfl rfl) ?_
    refine sp3 hT ?_
    refine nn ?_
    refine at_cond rfl (fun hc38 => ?_) (fun hc38 => ?_)
    · have hc38 := of_decide_eq_true hc38
      refine sr ?_
      refine sp2 hT ?_
      refine nn ?_
      refine at_ret ?_
      refine r_then ?_
      refine r_block ?_
      refine r_then ?_
      refine r_then ?_
      refine r_block ?_
      refine r_then ?_
      exact at_res1 () rfl (rv_tmp rfl) .nil trivial (rfl)
    have hc38 := Int.not_lt.1 (of_decide_eq_false hc38)
    refine at_skip ?_
    refine n_then ?_
    refine sr ?_
    refine sp2 hT ?_
    refine ss (ldO hT (knows_own (off := 1) .head)) ?_
    refine sp hT ?_
    refine ss (sti_index hT (k := j) (reads_fact (Has.of mT4)) rfl rfl rfl rfl rfl rfl rfl (by omega)) ?_
    refine sp hT ?_
    refine ss (sti_load1 hT (Reads.knows (reads_fact (Has.of mT4)) (k := j) (x := x2) hx3 2) rfl rfl rfl rfl rfl) ?_
    refine sp2 hT ?_
    refine at_int (z' := (((m - x2.items.list.length) : Nat) : Int)) (wrapN (by omega) (by omega)) ?_
    refine sp hT ?_
    refine nn ?_
    refine at_seq ?_
    refine at_fact (itemE.sl (.slice x2.items.addr x2.items.list.length x2.items.cap) x2.items.list) (Has.left (Has.each (Has.of mT5) (List.mem_of_getElem? hx3))) ?_
    have hxl := (hA.items x2 (List.mem_of_getElem? hx3)).1
    refine at_region ?_
    refine sp hT ?_
    refine ss (ldO hT (knows_own (off := 1) .head)) ?_
    refine sp hT ?_
    refine ss (sti_index hT (k := j) (reads_fact (Has.of mT5)) rfl rfl rfl rfl rfl rfl rfl (by omega)) ?_
    refine sp hT ?_
    refine ss (sti_load1 hT (Reads.knows (reads_fact (Has.of mT5)) (k := j) (x := x2) hx3 2) rfl rfl rfl rfl rfl) ?_
    refine sp2 hT ?_
    refine nn ?_
    refine at_block ?_
    refine at_loop2 (ι := Nat) [(1, _), (3, _), (4, _), (5, _), (26, _), (27, _), (55, _)] ⟨rfl, rfl, rfl, rfl, rfl, rfl, rfl, trivial⟩ (fun k => [(56, .int .i64 (k : Nat))]) (fun _ => []) (fun k => [Fact.pure (k ≤ x2.items.list.length ∧ NumsOk (x2.items.list.take k))]) (fun k => x2.items.list.length - k) 0 ⟨rfl, trivial⟩ .nil ⟨Has.pure (⟨by omega, fun x hx => by simp at hx⟩), trivial⟩ ?_
    rintro k
    refine at_know (Has.of mT0) fun hinv12 => ?_
    refine sr ?_
    refine sp hT ?_
    refine nn ?_
    refine at_seq ?_
    refine at_cond rfl (fun hc57 => ?_) (fun hc57 => ?_)
    · have hc57 := of_decide_eq_true hc57
      refine at_skip ?_
      refine n_then ?_
      refine at_seq ?_
      refine at_block ?_
      refine sr ?_
      refine sp2 hT ?_
      refine nn ?_
      refine sr ?_
      refine sp hT ?_
      refine ss (ldO hT (knows_own (off := 1) .head)) ?_
      refine sp hT ?_
      refine ss (sti_index hT (k := j) (reads_fact (Has.of mT6)) rfl rfl rfl rfl rfl rfl rfl (by omega)) ?_
      refine sp hT ?_
      refine ss (sti_load1 hT (Reads.knows (reads_fact (Has.of mT6)) (k := j) (x := x2) hx3 2) rfl rfl rfl rfl rfl) ?_
      refine sp hT ?_
      obtain ⟨x4, hx5⟩ : ∃ x', x2.items.list[k]? = some x' := ⟨_, List.getElem?_eq_getElem (by omega)⟩
      refine ss (sti_index hT (k := k) (reads_fact (Has.of mT1)) rfl rfl rfl rfl rfl rfl rfl (by omega)) ?_
      refine sp hT ?_
      refine ss (sti_load1 hT (Reads.knows (reads_fact (Has.of mT1)) (k := k) (x := x4) hx5 4) rfl rfl rfl rfl rfl) ?_
      refine sp2 hT ?_
      refine nn ?_
      refine at_cond rfl (fun hc70 => ?_) (fun hc70 => ?_)
      · have hc70 := of_decide_eq_true hc70
        refine sr ?_
        refine sp2 hT ?_
        refine nn ?_
        refine at_ret ?_
        refine r_block ?_
        refine r_then ?_
        refine r_then ?_
        refine r_block ?_
        refine r_block ?_
        refine r_then ?_
        refine r_then ?_
        refine r_block ?_
        refine r_then ?_
        exact at_res1 () rfl (rv_tmp rfl) .nil trivial (rfl)
      have hc70 := Int.not_lt.1 (of_decide_eq_false hc70)
      refine at_skip ?_
      refine n_block ?_
      refine n_then ?_
      refine at_region ?_
      refine sp hT ?_
      refine at_int (z' := (((k + 1) : Nat) : Int)) (wrapN (by omega) (by omega)) ?_
      refine sp hT ?_
      refine nn ?_
      exact at_back2 (k + 1) (by omega) ⟨rfl, trivial⟩ ⟨rfl, rfl, rfl, rfl, rfl, rfl, rfl, trivial⟩ (.cons .head .nil) ⟨Has.pure (⟨by omega, all_step hinv12.2 hx5 (by omega)⟩), trivial⟩ (HasAll.drop 1)
    have hc57 := Int.not_lt.1 (of_decide_eq_false hc57)
    refine at_exit ?_
    refine x_then ?_
    refine x_then ?_
    refine x_block ?_
    refine n_block ?_
    refine n_then ?_
    refine at_region ?_
    refine sp hT ?_
    refine at_int (z' := (((j + 1) : Nat) : Int)) (wrapN (by omega) (by omega)) ?_
    refine sp hT ?_
    refine nn ?_
    exact at_back2 (j + 1, m - x2.items.list.length) (by dsimp only; omega) ⟨rfl, rfl, trivial⟩ ⟨rfl, rfl, rfl, trivial⟩ (.cons .head .nil) ⟨Has.pure (⟨by dsimp only; omega, by dsimp only; omega, all_step hinv6.2.2 hx3 ⟨by omega, all_end hinv12.2 (by omega)⟩⟩), trivial⟩ (HasAll.drop 3)
  have hc28 := Int.not_lt.1 (of_decide_eq_false hc28)
  refine at_exit ?_
  refine x_then ?_
  refine x_then ?_
  refine x_block ?_
  refine n_then ?_
  refine sr ?_
  refine ss (ldN hT (knows_own (off := 0) .head)) ?_
  have hC : CopyOk P := ⟨by omega, by omega, hS, all_end hinv6.2.2 (by omega)⟩
  refine at_call (callFunc_enter Tryz.func18 rfl rfl) (copied_spec P hC) rfl rfl rfl rfl rfl .nil ⟨(Has.of mT2), (Has.of mT3), (Has.of mT4), (Has.of mT5), trivial⟩ fun X6 => ?_
  refine at_know (Has.of mT1) fun hun => ?_
  refine at_fact (inputE.sl (.slice X6.inputs.addr X6.inputs.list.length X6.inputs.cap) X6.inputs.list) (Has.left (Has.left (Has.of mT0))) ?_
  refine at_fact (inputsF X6.inputs.list) (Has.right (Has.left (Has.of mT1))) ?_
  refine at_fact (lineE.sl (.slice X6.lines.addr X6.lines.list.length X6.lines.cap) X6.lines.list) (Has.left (Has.right (Has.of mT2))) ?_
  refine at_fact (linesF X6.lines.list) (Has.right (Has.right (Has.of mT3))) ?_
  have hokq := ok_un hun hP hl1 hl2
  refine at_alloc rfl rfl rfl rfl lShowPlaces_zero_api_Program rfl fun b7 => ?_
  refine sto hT .head ?_
  refine nn ?_
  refine sr ?_
  refine ss (ldN hT (knows_own (off := 0) kT1)) ?_
  refine at_call (callFunc_enter Tryz.func13 rfl rfl) (sShow_spec P hP hl1 hl2) rfl rfl rfl rfl rfl .nil ⟨(Has.of mT7), (Has.of mT8), (Has.of mT9), (Has.of mT10), (Has.of mT11), trivial⟩ fun _ => ?_
  refine sp4 hT ?_
  refine sp hT ?_
  refine nn ?_
  refine sr ?_
  refine ss (ldN hT (knows_own (off := 0) .head)) ?_
  refine at_call (callFunc_enter Tryz.func13 rfl rfl) (sShow_spec X6 hokq.1 hokq.2.1 hokq.2.2) rfl rfl rfl rfl rfl .nil ⟨(Has.of mT7), (Has.of mT3), (Has.of mT2), (Has.of mT1), (Has.of mT0), trivial⟩ fun _ => ?_
  refine sp4 hT ?_
  refine sp hT ?_
  refine nn ?_
  refine sr ?_
  refine sp4 hT ?_
  refine sp hT ?_
  refine at_bool (t' := true) (by rw [show_un hun]; simp) ?_
  refine sp4 hT ?_
  refine sp hT ?_
  refine at_bool (t' := true) (by rw [show_un hun]; simp) ?_
  refine sp2 hT ?_
  refine ss (ldN hT (knows_own (off := 0) kT1)) ?_
  refine ss (ldN hT (knows_own (off := 0) .head)) ?_
  refine at_call (callFunc_enter Tryz.func16 rfl rfl) (rAlike_spec P X6 hA) rfl rfl rfl rfl rfl .nil ⟨(Has.of mT8), (Has.of mT9), (Has.of mT10), (Has.of mT11), (Has.of mT3), (Has.of mT2), (Has.of mT1), (Has.of mT0), trivial⟩ fun _ => ?_
  refine at_bool (t' := true) (alike_t hun.symm) ?_
  refine sp2 hT ?_
  refine nn ?_
  refine at_ret ?_
  exact at_res1 () rfl (rv_tmp rfl) .nil trivial (rfl)

theorem reads (os : Os) {H : Type} (enc : TypeId × Value → H) : ∃ places, DataW.whole enc Tryz.prog ((laidWorld os).forCall (fun _ _ => 0) ⟨#[], #[.agg #[.slice none 0 0, .slice none 0 0]], []⟩).memory Tryz.f9.params.toList Rows.showPlacesSpec.vars false (#[.agg #[.slice none 0 0, .slice none 0 0]] : Array Value).toList 8 = some ([.agg [.nil, .nil]], [], places) :=
  ⟨[], by kernel_rfl⟩

set_option maxRecDepth 100000 in
theorem lifted (os : Os) (started : os.Started) (H : Type) (enc : TypeId × Value → H) (F : Stop.Interp) :
    ReturnsInHanded {} Tryz.checked os 9 .any ((OpenSpec.ofChange Rows.showPlacesSpec).preRow enc Tryz.prog Tryz.f9 Rows.showPlacesRow.domain false Rows.showPlacesRow.laid) (((OpenSpec.ofChange Rows.showPlacesSpec).at F).post enc Tryz.prog Tryz.f9 false true false false) := by
  obtain ⟨places, hx⟩ := reads os enc
  refine returnsInHanded_of_row (C := Tryz.checked) (s := (OpenSpec.ofChange Rows.showPlacesSpec)) own started (by kernel_rfl) Tryz.func9
    (witness_row_atRef (enc := enc) (C := Tryz.checked) false (laidWorld os) #[.agg #[.slice none 0 0, .slice none 0 0]] rfl (by kernel_rfl) (by kernel_rfl) (by kernel_rfl)
      (OpenSpec.preRow_of_cond 8 hx (by kernel_rfl) (fun k hk => by cases hk) (by kernel_rfl) (laid_met os _))) ?_
  intro W base args ds gs before hval0 hW _ _ hsz hL hsh _
  have hval : ∀ (j : Nat) t v, Tryz.f9.params[j]? = some t → args[j]? = some v → Value.okWide Tryz.prog W .any base t v := hval0
  have hW' := hW
  obtain ⟨p, q, hA0, hV, rfl, hfz, hnd⟩ := hW
  have hA : DataW.TrodAll enc Tryz.prog W 0 (fun _ => true) true Tryz.f9.params.toList args.toList ds p := hA0
  rw [Tryz.params9] at hA hval
  obtain ⟨v0, vs0, d0, ds0, p0, q0, hargs, rfl, rfl, h0, r0⟩ := trodAll_cons hA
  obtain ⟨rfl, rfl, rfl⟩ := trodAll_nil r0
  obtain rfl : args = #[v0] := by cases args; simp_all
  obtain ⟨rfl, rfl⟩ := trodVars_none hV
  obtain ⟨a0, e0, f0⟩ := Opens.arg opens_prog h0 hsz (j := 0) rfl rfl
  obtain ⟨cs0, rfl, _⟩ := okWide_struct Tryz.underlying25 (hval 0 25 v0 rfl rfl)
  obtain rfl : cs0 = #[.slice a0.inputs.addr a0.inputs.list.length a0.inputs.cap, .slice a0.lines.addr a0.lines.list.length a0.lines.cap] := by
    apply Array.ext'
    exact e0
  clear hA0 hval0
  simp only [List.append_nil] at hW'
  have hg := globF_of hL hsh
  obtain ⟨⟨k1, k2, k3, k4⟩, hok, hl1, hl2⟩ := prog_of f0
  refine (calls_of_spec (law_spec a0 hok hl1 hl2 (alike_of f0) (sides_of f0)) (All.cons hg (All.cons k1 (All.cons k2 (All.cons k3 (All.cons k4 fun g hg => by simp at hg)))))).mono fun e W' ⟨he, hb⟩ => ?_
  subst he
  exact ⟨_, rfl, law_post (tb := 4) hW' rfl rfl rfl Tryz.underlying4 laid (by rw [Tryz.params9]; exact fun t ht => by simp at ht; rcases ht with rfl <;> exact ⟨by kernel_rfl, by decide +kernel⟩) hb⟩

theorem proved : Rows.ShowPlacesSaid :=
  OpenClaim.holds_of_cond 9 Tryz.f9 rfl rfl rfl rfl rfl rfl rfl ⟨rfl, rfl, rfl, rfl, rfl⟩ rfl rfl rfl rfl rfl (by kernel_rfl) Tryz.func9 (by kernel_rfl)
    (of_decide_eq_true (by kernel_rfl)) (by unfold Func.isWrapper; first | (rw [if_pos (by decide +kernel)]; kernel_rfl) | (rw [if_neg (by decide +kernel)]; exact ⟨rfl, rfl⟩))
    (fun os started H enc _ F => by rw [OpenClaim.pre_eq_preRow]; exact lifted os started H enc F)
theorem plain (f : FuncId) (fn : Func) (hf : Tryz.pinned.checked.prog.funcNamed "windrow/windrowlaw05.ShowPlaces" = some f) (hfn : Tryz.pinned.checked.prog.funcs[f]? = some fn) :
    true = Tryz.pinned.checked.prog.looks [] ∧ ∀ (j : Nat) t, fn.params[j]? = some t → Tryz.pinned.checked.prog.wantsStandIn t = false := by
  obtain rfl : f = 9 := Option.some.inj ((show Tryz.prog.funcNamed "windrow/windrowlaw05.ShowPlaces" = some 9 by kernel_rfl).symm.trans hf) |>.symm
  obtain rfl : fn = Tryz.f9 := (Option.some.inj (Tryz.func9.symm.trans hfn)).symm
  refine ⟨by kernel_rfl, fun j t ht => ?_⟩
  rw [Tryz.params9] at ht
  obtain rfl : t = 25 := by simpa using Array.mem_of_getElem? ht
  exact (show Tryz.prog.wantsStandIn 25 = false by kernel_rfl)
theorem card : Rows.ShowPlacesCardSaid :=
  Claim7.holds_tied_plain_at .later [] _ _ _ _ proved (fun _ h => by cases h) (by kernel_rfl) (fun _ h => by cases h) showPlaces_row_tie rfl ⟨rfl, rfl⟩ (by kernel_rfl) rfl plain (by kernel_rfl)
#print axioms card
end Go.Proofs.YtngkedmndhmjcaaGreatDoor.showPlaces
