/- Walks of the layer lex: bytes, runs. (Printed by wip/gen/lex.py.) -/
import Derived.Test.YtngkedmndhmjcaaGreatDoorTys
import Derived.Test.YtngkedmndhmjcaaGreatDoorTxt
namespace Go.Proofs.YtngkedmndhmjcaaGreatDoor
open Go.RowKit

theorem run_more {p : UInt8 → Bool} {s : Bs} {i : Nat} {b : UInt8} (hb : s[i]? = some b) (hp : p b = true) (h : runB p s = i + runB p (s.drop i)) : runB p s = (i + 1) + runB p (s.drop (i + 1)) := by
  obtain ⟨hi, hb⟩ := List.getElem?_eq_some_iff.1 hb
  rw [List.drop_eq_getElem_cons hi, hb, runB, if_pos hp] at h
  omega
theorem run_end {p : UInt8 → Bool} {s : Bs} {i : Nat} (hc : s.length ≤ i ∨ ∃ b, s[i]? = some b ∧ p b = false) (h : runB p s = i + runB p (s.drop i)) : runB p s = i := by
  rcases hc with hc | ⟨b, hb, hp⟩
  · rw [List.drop_of_length_le hc] at h
    simpa [runB] using h
  · obtain ⟨hi, hb⟩ := List.getElem?_eq_some_iff.1 hb
    rw [List.drop_eq_getElem_cons hi, hb, runB, hp] at h
    simpa using h
theorem or32 (a : UInt8) : IntKind.u8.wrap (((BitVec.ofInt IntKind.u8.bits (a.toNat : Int) ||| BitVec.ofInt IntKind.u8.bits 32).toNat : Nat) : Int) = (((a ||| 32).toNat : Nat) : Int) := or_u8 a 32


set_option maxRecDepth 100000 in
theorem letter_spec (b : UInt8) : Spec Tryz.prog 37 [.int .u8 b.toNat] [] [] (fun (_ : Unit) => .bool (letterB b)) (fun _ => []) (fun _ => []) := by
  have hT := showT_ok
  refine spec_of Tryz.func37 rfl Tryz.ntmps37 rfl ?_
  intro β hM
  refine sr ?_
  refine sp hT ?_
  refine nn ?_
  refine sr ?_
  refine sp2 hT ?_
  refine at_int (z' := ((((b ||| 32) : UInt8).toNat : Nat) : Int)) (or32 _) ?_
  refine sp2 hT ?_
  refine at_case (fun hg6 => ?_) (fun hg6 => ?_)
  · have hg6 := of_decide_eq_true hg6
    refine sp2 hT ?_
    refine at_int (z' := ((((b ||| 32) : UInt8).toNat : Nat) : Int)) (or32 _) ?_
    refine sp3 hT ?_
    refine nn ?_
    refine at_ret ?_
    exact at_res1 () rfl (rv_tmp rfl) .nil trivial (by congr 1; unfold letterB; generalize (b ||| 32).toNat = c at *; rw [Bool.eq_iff_iff]; simp; omega)
  have hg6 := Int.not_le.1 (of_decide_eq_false hg6)
  refine sk3 ?_
  refine sp2 hT ?_
  refine nn ?_
  refine at_ret ?_
  exact at_res1 () rfl (rv_tmp rfl) .nil trivial (by congr 1; unfold letterB; generalize (b ||| 32).toNat = c at *; rw [Bool.eq_iff_iff]; simp; omega)

set_option maxRecDepth 100000 in
theorem digit_spec (b : UInt8) : Spec Tryz.prog 39 [.int .u8 b.toNat] [] [] (fun (_ : Unit) => .bool (digitB b)) (fun _ => []) (fun _ => []) := by
  have hT := showT_ok
  refine spec_of Tryz.func39 rfl Tryz.ntmps39 rfl ?_
  intro β hM
  refine sr ?_
  refine sp hT ?_
  refine nn ?_
  refine sr ?_
  refine sp3 hT ?_
  refine at_case (fun hg5 => ?_) (fun hg5 => ?_)
  · have hg5 := of_decide_eq_true hg5
    refine sp4 hT ?_
    refine nn ?_
    refine at_ret ?_
    exact at_res1 () rfl (rv_tmp rfl) .nil trivial (by congr 1; unfold digitB; rw [Bool.eq_iff_iff]; simp; omega)
  have hg5 := Int.not_le.1 (of_decide_eq_false hg5)
  refine sk2 ?_
  refine sp2 hT ?_
  refine nn ?_
  refine at_ret ?_
  exact at_res1 () rfl (rv_tmp rfl) .nil trivial (by congr 1; unfold digitB; rw [Bool.eq_iff_iff]; simp; omega)

set_option maxRecDepth 100000 in
theorem word_spec (b : UInt8) : Spec Tryz.prog 38 [.int .u8 b.toNat] [] [] (fun (_ : Unit) => .bool (wordB b)) (fun _ => []) (fun _ => []) := by
  have hT := showT_ok
  refine spec_of Tryz.func38 rfl Tryz.ntmps38 rfl ?_
  intro β hM
  refine sr ?_
  refine sp hT ?_
  refine nn ?_
  refine sr ?_
  refine sp hT ?_
  refine at_call (callFunc_enter Tryz.func37 rfl rfl) (letter_spec _) rfl rfl rfl rfl rfl .nil trivial fun _ => ?_
  refine sp hT ?_
  refine at_case (fun hg5 => ?_) (fun hg5 => ?_)
  · refine sk2 ?_
    refine sp2 hT ?_
    refine nn ?_
    refine at_ret ?_
    exact at_res1 () rfl (rv_tmp rfl) .nil trivial (by simp [wordB, *])
  refine sp hT ?_
  refine at_call (callFunc_enter Tryz.func39 rfl rfl) (digit_spec _) rfl rfl rfl rfl rfl .nil trivial fun _ => ?_
  refine sp2 hT ?_
  refine nn ?_
  refine at_ret ?_
  exact at_res1 () rfl (rv_tmp rfl) .nil trivial (by simp [wordB, *])

set_option maxRecDepth 100000 in
theorem line_spec (b : UInt8) : Spec Tryz.prog 24 [.int .u8 b.toNat] [] [] (fun (_ : Unit) => .bool (b != 10)) (fun _ => []) (fun _ => []) := by
  have hT := showT_ok
  refine spec_of Tryz.func24 rfl Tryz.ntmps24 rfl ?_
  intro β hM
  refine sr ?_
  refine sp hT ?_
  refine nn ?_
  refine sr ?_
  refine sp3 hT ?_
  refine nn ?_
  refine at_ret ?_
  exact at_res1 () rfl (rv_tmp rfl) .nil trivial (by congr 1; rw [Bool.eq_iff_iff]; simp [bne_iff_ne, ← UInt8.toNat_inj]; omega)

set_option maxRecDepth 100000 in
theorem run_spec (s : Bs) (hs : s.length ≤ 140737488355328) (f : FuncId) (p : UInt8 → Bool) (hcf : ∀ (args : Array Value) (w : World), (callFunc f args).run Tryz.prog w = .ok (.enter f args) w) (hf : ∀ b : UInt8, Spec Tryz.prog f [.int .u8 b.toNat] [] [] (fun _ : Unit => .bool (p b)) (fun _ => []) (fun _ => [])) : Spec Tryz.prog 23 [.string (bs s), .func (.func f) #[] #[]] [] [] (fun (_ : Unit) => .int .i64 (runB p s : Nat)) (fun _ => []) (fun _ => []) := by
  have hT := showT_ok
  refine spec_of Tryz.func23 rfl Tryz.ntmps23 rfl ?_
  intro β hM
  refine sr ?_
  refine sp hT ?_
  refine nn ?_
  refine sr ?_
  refine sp hT ?_
  refine nn ?_
  refine at_seq ?_
  refine at_block ?_
  refine at_loop2 (ι := Nat) [(0, _), (1, _)] ⟨rfl, rfl, trivial⟩ (fun i => [(5, .int .i64 (i : Nat))]) (fun i => []) (fun i => [Fact.pure (i ≤ s.length ∧ runB p s = i + runB p (s.drop i))]) (fun i => s.length - i) 0 ⟨rfl, trivial⟩ .nil ⟨Has.pure (⟨by omega, by simp⟩), trivial⟩ ?_
  rintro i
  refine at_know (Has.of mT0) fun hinv2 => ?_
  refine at_seq ?_
  refine sr ?_
  refine sp3 hT ?_
  refine at_int (z' := ((s.length : Nat) : Int)) rfl ?_
  refine sp2 hT ?_
  refine at_case (fun hg10 => ?_) (fun hg10 => ?_)
  · have hg10 := of_decide_eq_true hg10
    refine sp3 hT ?_
    obtain ⟨b1, hb2⟩ : ∃ b, s[i]? = some b := ⟨_, List.getElem?_eq_getElem (by omega)⟩
    refine ss (sti_sindex hT (k := i) rfl rfl rfl rfl rfl hb2) ?_
    refine at_callv hcf (hf b1) rfl rfl rfl rfl rfl rfl rfl .nil trivial fun _ => ?_
    refine sp hT ?_
    refine nn ?_
    refine at_cond rfl (fun hc16 => ?_) (fun hc16 => ?_)
    · refine at_skip ?_
      refine n_then ?_
      refine at_block ?_
      refine at_region ?_
      refine sp2 hT ?_
      refine at_int (z' := (((i + 1) : Nat) : Int)) (wrapN (by omega) (by omega)) ?_
      refine sp hT ?_
      refine at_nil ?_
      refine n_block ?_
      refine n_then ?_
      exact at_back2 (i + 1) (by omega) ⟨rfl, trivial⟩ ⟨rfl, rfl, trivial⟩ .nil ⟨Has.pure (⟨by omega, run_more hb2 hc16 hinv2.2⟩), trivial⟩ (HasAll.drop 1)
    refine at_exit ?_
    refine x_then ?_
    refine x_then ?_
    refine x_block ?_
    refine n_then ?_
    refine sr ?_
    refine sp2 hT ?_
    refine nn ?_
    refine at_ret ?_
    exact at_res1 () rfl (rv_tmp rfl) .nil trivial (congrArg (fun n : Nat => Value.int .i64 (n : Int)) (run_end (.inr ⟨_, hb2, hc16⟩) hinv2.2).symm)
  have hg10 := Int.not_lt.1 (of_decide_eq_false hg10)
  refine sk4 ?_
  refine sk ?_
  refine sp hT ?_
  refine nn ?_
  refine at_false rfl rfl ?_
  refine at_exit ?_
  refine x_then ?_
  refine x_then ?_
  refine x_block ?_
  refine n_then ?_
  refine sr ?_
  refine sp2 hT ?_
  refine nn ?_
  refine at_ret ?_
  exact at_res1 () rfl (rv_tmp rfl) .nil trivial (congrArg (fun n : Nat => Value.int .i64 (n : Int)) (run_end (.inl (by omega)) hinv2.2).symm)

end Go.Proofs.YtngkedmndhmjcaaGreatDoor
