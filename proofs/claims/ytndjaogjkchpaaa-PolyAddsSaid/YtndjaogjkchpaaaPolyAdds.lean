/- Proved: for every input windrowlaw PolyAdds returns true, and each argument reads afterwards as it read before. No condition beside the form's own. -/
import Derived.Test.YtndjaogjkchpaaaRefAdd
import Derived.Test.YtndjaogjkchpaaaLaw
import Derived.JoinedTies
namespace Go.Proofs.Ytndjaogjkchpaaa.polyAdds
open Go.ChangeShapes Go.WideShapes Go.ChangeAt Go.RowKit Go.Sort

set_option maxRecDepth 100000 in
theorem law_spec (A B : Option Addr) (c d : Nat) (p q : List Mono) (hpl : p.length ≤ 140737488355328) (hql : q.length ≤ 140737488355328) : Spec Try.prog 8 [.slice A p.length c, .slice B q.length d] [] [monoE.sl (.slice A p.length c) p, monoE.sl (.slice B q.length d) q] (fun (_ : Unit) => .bool true) (fun _ => []) (fun _ => []) := by
  have hT := polyT_ok
  refine spec_of Try.func8 rfl Try.ntmps8 rfl ?_
  intro β hM
  refine at_seq ?_
  refine at_region ?_
  refine at_sti rfl rfl rfl (sti_pure hT rfl) ?_
  refine at_nil ?_
  refine n_then ?_
  refine at_seq ?_
  refine at_region ?_
  refine at_call (callFunc_enter Try.func12 rfl rfl) shown_spec rfl rfl rfl rfl rfl .nil trivial fun _ => ?_
  refine at_sti rfl rfl rfl (sti_pure hT rfl) ?_
  refine at_nil ?_
  refine n_then ?_
  refine at_seq ?_
  refine at_region ?_
  refine at_sti rfl rfl rfl (sti_pure hT rfl) ?_
  refine at_sti rfl rfl rfl (sti_pure hT rfl) ?_
  refine at_call (callFunc_enter Try.func24 rfl rfl) (add_spec _ _ _ _ p q (by omega) (by omega)) rfl rfl rfl rfl rfl .nil ⟨Has.of (.head _), Has.of (.tail _ (.head _)), trivial⟩ fun ⟨A1, c2⟩ => ?_
  refine at_sti rfl rfl rfl (sti_pure hT rfl) ?_
  refine at_sti rfl rfl rfl (sti_pure hT rfl) ?_
  refine at_sti rfl rfl rfl (sti_pure hT rfl) ?_
  refine at_sti rfl rfl rfl (sti_pure hT rfl) ?_
  refine at_sti rfl rfl rfl (sti_pure hT rfl) ?_
  refine at_nil ?_
  refine n_then ?_
  refine at_seq ?_
  refine at_region ?_
  refine at_sti rfl rfl rfl (sti_pure hT rfl) ?_
  refine at_sti rfl rfl rfl (sti_pure hT rfl) ?_
  refine at_call (callFunc_enter Try.func25 rfl rfl) (refAdd_spec _ _ _ _ p q (by omega) (by omega)) rfl rfl rfl rfl rfl .nil ⟨Has.of (.tail _ (.head _)), Has.of (.tail _ (.tail _ (.head _))), trivial⟩ fun ⟨A3, c4⟩ => ?_
  refine at_freeze .head ?_
  refine at_sti rfl rfl rfl (sti_pure hT rfl) ?_
  refine at_sti rfl rfl rfl (sti_pure hT rfl) ?_
  refine at_sti rfl rfl rfl (sti_pure hT rfl) ?_
  refine at_sti rfl rfl rfl (sti_pure hT rfl) ?_
  refine at_sti rfl rfl rfl (sti_pure hT rfl) ?_
  refine at_nil ?_
  refine n_then ?_
  refine at_seq ?_
  refine at_region ?_
  refine at_sti rfl rfl rfl (sti_pure hT rfl) ?_
  refine at_sti rfl rfl rfl (sti_pure hT rfl) ?_
  refine at_call (callFunc_enter Try.func26 rfl rfl) (sub_spec _ _ _ _ p q (by omega) (by omega)) rfl rfl rfl rfl rfl .nil ⟨Has.of (.tail _ (.tail _ (.head _))), Has.of (.tail _ (.tail _ (.tail _ (.head _)))), trivial⟩ fun ⟨A5, c6⟩ => ?_
  refine at_sti rfl rfl rfl (sti_pure hT rfl) ?_
  refine at_sti rfl rfl rfl (sti_pure hT rfl) ?_
  refine at_sti rfl rfl rfl (sti_pure hT rfl) ?_
  refine at_sti rfl rfl rfl (sti_pure hT rfl) ?_
  refine at_sti rfl rfl rfl (sti_pure hT rfl) ?_
  refine at_nil ?_
  refine n_then ?_
  refine at_seq ?_
  refine at_region ?_
  refine at_sti rfl rfl rfl (sti_pure hT rfl) ?_
  refine at_sti rfl rfl rfl (sti_pure hT rfl) ?_
  refine at_call (callFunc_enter Try.func27 rfl rfl) (refSub_spec _ _ _ _ p q (by omega) (by omega)) rfl rfl rfl rfl rfl .nil ⟨Has.of (.tail _ (.tail _ (.tail _ (.head _)))), Has.of (.tail _ (.tail _ (.tail _ (.tail _ (.head _))))), trivial⟩ fun ⟨A7, c8⟩ => ?_
  refine at_freeze .head ?_
  refine at_sti rfl rfl rfl (sti_pure hT rfl) ?_
  refine at_sti rfl rfl rfl (sti_pure hT rfl) ?_
  refine at_sti rfl rfl rfl (sti_pure hT rfl) ?_
  refine at_sti rfl rfl rfl (sti_pure hT rfl) ?_
  refine at_sti rfl rfl rfl (sti_pure hT rfl) ?_
  refine at_nil ?_
  refine n_then ?_
  refine at_seq ?_
  refine at_region ?_
  refine at_sti rfl rfl rfl (sti_pure hT rfl) ?_
  refine at_sti rfl rfl rfl (sti_pure hT rfl) ?_
  refine at_sti rfl rfl rfl (sti_pure hT rfl) ?_
  refine at_sti rfl rfl rfl (sti_pure hT rfl) ?_
  refine at_sti rfl rfl rfl (sti_pure hT rfl) ?_
  refine at_bool (t' := true) (by rw [together_both]; exact beq_self_eq_true _) ?_
  refine at_sti rfl rfl rfl (sti_pure hT rfl) ?_
  refine at_sti rfl rfl rfl (sti_pure hT rfl) ?_
  refine at_sti rfl rfl rfl (sti_pure hT rfl) ?_
  refine at_sti rfl rfl rfl (sti_pure hT rfl) ?_
  refine at_call (callFunc_enter Try.func15 rfl rfl) (same_spec _ _ _ _ (bothP p q 1).1 (togetherP p q 1).1 (by have := (both_len p q 1).1; have := (both_len p q (-1)).1; omega)) rfl rfl rfl rfl rfl .nil ⟨Has.of (.tail _ (.tail _ (.tail _ (.head _)))), Has.of (.tail _ (.tail _ (.head _))), trivial⟩ fun _ => ?_
  refine at_bool (t' := true) (by rw [together_both]; exact same_self _) ?_
  refine at_sti rfl rfl rfl (sti_pure hT rfl) ?_
  refine at_sti rfl rfl rfl (sti_pure hT rfl) ?_
  refine at_sti rfl rfl rfl (sti_pure hT rfl) ?_
  refine at_sti rfl rfl rfl (sti_pure hT rfl) ?_
  refine at_sti rfl rfl rfl (sti_pure hT rfl) ?_
  refine at_bool (t' := true) (by rw [together_both]; exact beq_self_eq_true _) ?_
  refine at_sti rfl rfl rfl (sti_pure hT rfl) ?_
  refine at_sti rfl rfl rfl (sti_pure hT rfl) ?_
  refine at_sti rfl rfl rfl (sti_pure hT rfl) ?_
  refine at_sti rfl rfl rfl (sti_pure hT rfl) ?_
  refine at_call (callFunc_enter Try.func15 rfl rfl) (same_spec _ _ _ _ (bothP p q (-1)).1 (togetherP p q (-1)).1 (by have := (both_len p q 1).1; have := (both_len p q (-1)).1; omega)) rfl rfl rfl rfl rfl .nil ⟨Has.of (.tail _ (.head _)), Has.of (.head _), trivial⟩ fun _ => ?_
  refine at_bool (t' := true) (by rw [together_both]; exact same_self _) ?_
  refine at_sti rfl rfl rfl (sti_pure hT rfl) ?_
  refine at_sti rfl rfl rfl (sti_pure hT rfl) ?_
  refine at_nil ?_
  refine n_then ?_
  refine at_ret ?_
  exact at_done1 () rfl rfl rfl .nil trivial

theorem walk (A : Option Addr) (c : Nat) (p : List Mono) (w0 : World) (ha : Monos w0 A p) (_ : ∀ m ∈ p, (Lit.int .i64 m.n).wf = true) (hp : p.length ≤ 140737488355328) (B : Option Addr) (d : Nat) (q : List Mono) (hb : Monos w0 B q) (_ : ∀ m ∈ q, (Lit.int .i64 m.n).wf = true) (hq : q.length ≤ 140737488355328) :
    Calls Try.prog 8 #[.slice A p.length c, .slice B q.length d] w0 fun e w' => e = .returned (.bool true) ∧ Below w0.heap.size w0 w' :=
  calls_of_spec (law_spec A B c d p q hp hq) (All.cons (sl_of ha) (All.cons (sl_of hb) fun g hg => by simp at hg))

theorem own : ownKnob Try.prog.godebug = none := by kernel_rfl
theorem laid : laidOutB Try.prog = true := by kernel_rfl

set_option maxRecDepth 100000 in
theorem lifted (os : Os) (started : os.Started) (H : Type) (enc : TypeId × Value → H) :
    ReturnsInHanded {} Try.checked os 8 .any (Rows.polyAddsSpec.pre6 enc Try.prog Try.f8 Rows.polyAddsRow.domain false) (Rows.polyAddsSpec.post enc Try.prog Try.f8 false true false false) := by
  refine returnsInHanded_of_change_sized (C := Try.checked) own started (by kernel_rfl) Try.func8
    (ChangeSpec.witness6 (enc := enc) (C := Try.checked) false ⟨#[], #[.slice none 0 0, .slice none 0 0], []⟩ 8 (by kernel_rfl) (by kernel_rfl) (by kernel_rfl) (by kernel_rfl)) ?_
  intro W base args ds gs before hval0 hW _ hsz _
  have hval : ∀ (j : Nat) t v, Try.f8.params[j]? = some t → args[j]? = some v → Value.okWide Try.prog W .any base t v := hval0
  have hW' := hW
  obtain ⟨p, q, hA0, hV, rfl, hfz, hnd⟩ := hW
  have hA : DataW.TrodAll enc Try.prog W 0 (fun _ => true) true Try.f8.params.toList args.toList ds p := hA0
  rw [Try.params8] at hA hval
  obtain ⟨v0, vs0, d0, ds0, p0, q0, hargs, rfl, rfl, h0, r0⟩ := trodAll_cons hA
  obtain ⟨v1, vs1, d1, ds1, p1, q1, rfl, rfl, rfl, h1, r1⟩ := trodAll_cons r0
  obtain ⟨rfl, rfl, rfl⟩ := trodAll_nil r1
  obtain rfl : args = #[v0, v1] := by cases args; simp_all
  obtain ⟨rfl, rfl⟩ := trodVars_none hV
  obtain ⟨A0, c0, l0, rfl, m0, f0, z0⟩ := open_monos (hval 0 22 v0 rfl rfl) h0
  have s0 : l0.length ≤ 140737488355328 := by
    rcases z0 with rfl | ⟨es, sp, rfl, he⟩
    · simp
    · have := sized_slice hsz (j := 0) (t := 22) (e := 39) rfl rfl Try.underlying22
      rw [show Try.checked.prog.bytesOf 39 = 16 by kernel_rfl] at this
      unfold reachBytes at this
      omega
  obtain ⟨A1, c1, l1, rfl, m1, f1, z1⟩ := open_monos (hval 1 22 v1 rfl rfl) h1
  have s1 : l1.length ≤ 140737488355328 := by
    rcases z1 with rfl | ⟨es, sp, rfl, he⟩
    · simp
    · have := sized_slice hsz (j := 1) (t := 22) (e := 39) rfl rfl Try.underlying22
      rw [show Try.checked.prog.bytesOf 39 = 16 by kernel_rfl] at this
      unfold reachBytes at this
      omega
  clear hA0 hval0
  simp only [List.append_nil] at hW'
  refine (walk A0 c0 l0 W m0 f0 s0 A1 c1 l1 m1 f1 s1).mono fun e W' ⟨he, hb⟩ => ?_
  subst he
  exact ⟨_, rfl, law_post (tb := 4) hW' rfl rfl rfl Try.underlying4 laid (by rw [Try.params8]; exact fun t ht => by simp at ht; rcases ht with rfl <;> exact ⟨by kernel_rfl, by decide +kernel⟩) hb⟩

theorem over : Rows.polyAddsRow.holds Try.pinned (OpenSpec.ofChange Rows.polyAddsSpec) :=
  OpenClaim.holds_of_wide 8 Try.f8 rfl rfl rfl rfl rfl rfl rfl ⟨rfl, rfl, rfl, rfl, rfl⟩ rfl rfl rfl rfl rfl (by kernel_rfl) Try.func8 (by kernel_rfl)
    (of_decide_eq_true (by kernel_rfl)) (by unfold Func.isWrapper; first | (rw [if_pos (by decide +kernel)]; kernel_rfl) | (rw [if_neg (by decide +kernel)]; exact ⟨rfl, rfl⟩))
    (fun os started H enc _ => lifted os started H enc)

theorem proved : Rows.PolyAddsSaid :=
  over
#print axioms proved
end Go.Proofs.Ytndjaogjkchpaaa.polyAdds
