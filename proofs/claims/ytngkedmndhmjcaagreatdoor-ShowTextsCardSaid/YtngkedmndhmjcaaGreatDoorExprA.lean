/- Walks of the closures in parse.line.expr. (Printed by wip/gen/parse.py.) -/
import Derived.Test.YtngkedmndhmjcaaGreatDoorLineA
import Derived.Test.YtngkedmndhmjcaaGreatDoorCut
import Derived.Test.YtngkedmndhmjcaaGreatDoorMixL
namespace Go.Proofs.YtngkedmndhmjcaaGreatDoor
open Go.RowKit

/-- what is still to be done: a bracket, or an item (in the box b) -/
abbrev Todo := Option (Nat × ItemV)
def fnV (b4 : Nat) : Todo → Value
  | none => .nilFunc
  | some x => .func (.func 56) #[] #[.pointer (some ⟨b4, 0, none⟩), .pointer (some ⟨x.1, 0, none⟩)]
def fnE (b4 : Nat) : Flat Todo where
  size := 1
  cells := fun x => [fnV b4 x]
  len := fun _ => rfl
  one := fun x u hu => by
    simp at hu
    subst hu
    cases x <;> rfl
  pos := by decide
theorem fnInfo : ∃ i : TypeInfo, Tryz.prog.info? 1 = some i ∧ i.zero = some .nilFunc ∧ i.size = 1 ∧ i.bytes = 8 := by
  have h : (Tryz.prog.info? 1).map (fun i => (i.zero, i.size, i.bytes)) = some (some .nilFunc, 1, 8) := by kernel_rfl
  cases hi : Tryz.prog.info? 1 with
  | none => simp [hi] at h
  | some i => simp [hi] at h; exact ⟨i, rfl, h.1, h.2.1, h.2.2⟩
section
variable {β : Base} {n : Nat} {Γ : Env} {H : List Chunk} {F : List Fact} {Q : Exit → Act → World → Prop} {ops : Array Oper} {rest : List Oper} {o : Oper} {d : Nat}
theorem at_one_fn {b4 : Nat} {x : Operand} {m : Todo} (hw : want ops Γ o = some true) (ho : o.op = .buildSlice 102 1 #[(0, x)]) (hd : o.dst = some d) (hn : Nat.blt d n = true)
    (hx : Γ.ev x = some (fnV b4 m)) (k : ∀ b, At β n ((d, .slice (some ⟨b, 0, none⟩) 1 1) :: Γ) (.obj b (.cells ((fnE b4).all [m]).toArray 1) :: H) F (wpList Tryz.prog ops Q rest)) : At β n Γ H F (wpList Tryz.prog ops Q (o :: rest)) := by
  obtain ⟨i, hi, hz, hs, _⟩ := fnInfo
  refine at_build1 hw ho hd hn hx Tryz.underlying102 hi hz (by omega) (by omega) ?_ k
  rw [hs]
  cases m <;> kernel_rfl
theorem at_app_fn {b4 : Nat} {x y : Operand} {c q : Nat} {v : Value} {A : Option Addr} {xs ys : List Todo} {H' : List Chunk} (hH : Take H ((fnE b4).row v 1 xs) H') (hr : Reads β H F (fnE b4) A ys) (hg : o.guard = none)
    (ho : o.op = .call { callee := .builtin .append, args := #[x, y], argTypes := #[102, 102] }) (hd : o.dst = some d) (hn : Nat.blt d n = true)
    (hx : Γ.ev x = some v) (hy : Γ.ev y = some (.slice A q c)) (hq : q = ys.length) (hl : xs.length + ys.length ≤ 10000000)
    (k : ∀ A' cap', At β n ((d, .slice A' (xs ++ ys).length cap') :: Γ) ((fnE b4).row (.slice A' (xs ++ ys).length cap') 1 (xs ++ ys) :: H') F (wpList Tryz.prog ops Q rest)) : At β n Γ H F (wpList Tryz.prog ops Q (o :: rest)) := by
  obtain ⟨i, hi, hz, hs, hb⟩ := fnInfo
  exact at_append_all hH hr hg ho hd hn Tryz.underlying102 hi hz hs hb rfl hx hy hq (by omega) (by decide) k
end
/-- the boxes of what is still to be done -/
def todoF (st : List Todo) : Fact := Fact.each st fun o => match o with
  | none => Fact.true
  | some x => Fact.cells x.1 0 (itemE.cells x.2)
/-- what is done at a bracket's end: the items in their order, and what is left (the last one ahead) -/
def finP : List Todo → List ItemV × List Todo
  | some x :: r => (x.2 :: (finP r).1, (finP r).2)
  | none :: r => ([], none :: r)
  | [] => ([], [])
theorem itemZ : (Tryz.prog.info? 40).bind (·.zero) = some (.slice none 0 0) := by kernel_rfl
theorem funcZ : (Tryz.prog.info? 102).bind (·.zero) = some (.slice none 0 0) := by kernel_rfl
theorem todo_last {x : Todo} {r : List Todo} : (x :: r).reverse[(r.length + 1) - 1]? = some x := by
  simp
theorem todo_init {x : Todo} {r : List Todo} : (x :: r).reverse.take ((r.length + 1) - 1) = r.reverse := by
  simp
theorem todo_len (x : Todo) (r : List Todo) : (x :: r).reverse.length = r.length + 1 := by simp
section
variable {F : List Fact} {x : Nat × ItemV} {o : Todo} {r : List Todo}
theorem todo_head (h : Has F (todoF (some x :: r))) : Has F (Fact.cells x.1 0 (itemE.cells x.2)) := fun S w k => h S w k (some x) (List.mem_cons_self ..)
theorem todo_tail (h : Has F (todoF (o :: r))) : Has F (todoF r) := fun S w k y hy => h S w k y (List.mem_cons_of_mem _ hy)
theorem todo_nil : Has F (todoF []) := fun _ _ _ y hy => by simp at hy
theorem todo_none (h : Has F (todoF r)) : Has F (todoF (none :: r)) := fun S w k y hy => by
  rcases List.mem_cons.1 hy with rfl | hy
  · trivial
  · exact h S w k y hy
theorem todo_some (hx : Has F (Fact.cells x.1 0 (itemE.cells x.2))) (h : Has F (todoF r)) : Has F (todoF (some x :: r)) := fun S w k y hy => by
  rcases List.mem_cons.1 hy with rfl | hy
  · exact hx S w k
  · exact h S w k y hy
end
def phrI (p : Phr) : ItemV := ⟨p.how, p.at_, p.fn, [], ⟨none, 0, []⟩⟩
theorem push_zero_api_Fault : (Tryz.prog.info? 32).bind (·.zero) = some (.agg #[.int .i64 0, .int .i64 0]) := by kernel_rfl
theorem push_zero_api_Item : (Tryz.prog.info? 46).bind (·.zero) = some (.agg #[.int .i64 0, .int .i64 0, .int .u8 0, .string (bs []), .slice none 0 0]) := by kernel_rfl

set_option maxRecDepth 100000 in
theorem push_spec (b4 bi : Nat) (C : Option Addr) (e : Nat) (out : List ItemV) (it : ItemV) (ho : out.length ≤ 1000000) : Spec Tryz.prog 56 [.pointer (some ⟨b4, 0, none⟩), .pointer (some ⟨bi, 0, none⟩)] [.obj b4 (.cells [.slice C out.length e].toArray 40), itemE.row (.slice C out.length e) 46 out] [Fact.cells bi 0 (itemE.cells it)] (fun (_ : Option Addr × Nat) => .tuple #[]) (fun (x : Option Addr × Nat) => [.obj b4 (.cells [.slice x.1 (out ++ [it]).length x.2].toArray 40), itemE.row (.slice x.1 (out ++ [it]).length x.2) 46 (out ++ [it])]) (fun _ => []) := by
  have hT := showT_ok
  refine spec_of Tryz.func56 rfl Tryz.ntmps56 rfl ?_
  intro β hM
  refine at_region ?_
  refine ss (ldO hT (knows_own (off := 0) .head)) ?_
  refine ss (sti_loadN hT (knows_fact (Has.of mT0)) rfl rfl rfl rfl rfl) ?_
  refine at_one_item (m := it) rfl rfl rfl rfl rfl fun b1 => ?_
  refine at_app_item kT2 (reads_obj .head rfl) rfl rfl rfl rfl rfl rfl rfl (by simp only [List.length_singleton]; omega) fun A2 c3 => ?_
  refine sto hT kT2 ?_
  refine at_nil ?_
  exact at_off0 (A2, c3) rfl  (.cons .head (.cons .head .nil)) trivial (rfl)

set_option maxRecDepth 100000 in
theorem finish_spec (b5 b4 : Nat) (D : Option Addr) (f : Nat) (st0 : List Todo) (C : Option Addr) (e : Nat) (out0 : List ItemV) (hs : out0.length + st0.length ≤ 100000) : Spec Tryz.prog 53 [.pointer (some ⟨b5, 0, none⟩)] [.obj b5 (.cells [.slice D st0.reverse.length f].toArray 102), (fnE b4).row (.slice D st0.reverse.length f) 1 st0.reverse, .obj b4 (.cells [.slice C out0.length e].toArray 40), itemE.row (.slice C out0.length e) 46 out0] [todoF st0] (fun (_ : (Option Addr × Nat) × (Option Addr × Nat)) => .tuple #[]) (fun (x : (Option Addr × Nat) × (Option Addr × Nat)) => [.obj b5 (.cells [.slice x.1.1 (finP st0).2.reverse.length x.1.2].toArray 102), (fnE b4).row (.slice x.1.1 (finP st0).2.reverse.length x.1.2) 1 (finP st0).2.reverse, .obj b4 (.cells [.slice x.2.1 (out0 ++ (finP st0).1).length x.2.2].toArray 40), itemE.row (.slice x.2.1 (out0 ++ (finP st0).1).length x.2.2) 46 (out0 ++ (finP st0).1)]) (fun _ => [todoF (finP st0).2]) := by
  have hT := showT_ok
  refine spec_of Tryz.func53 rfl Tryz.ntmps53 rfl ?_
  intro β hM
  refine at_block ?_
  refine at_loop2 (ι := List Todo × List ItemV × Option Addr × Nat × Option Addr × Nat) [(0, _)] ⟨rfl, trivial⟩ (fun _ => []) (fun ⟨st, out, D, f, C, e⟩ => [.obj b5 (.cells [.slice D st.reverse.length f].toArray 102), (fnE b4).row (.slice D st.reverse.length f) 1 st.reverse, .obj b4 (.cells [.slice C out.length e].toArray 40), itemE.row (.slice C out.length e) 46 out]) (fun ⟨st, out, D, f, C, e⟩ => [Fact.pure (out0 ++ (finP st0).1 = out ++ (finP st).1 ∧ (finP st0).2 = (finP st).2 ∧ out.length + st.length ≤ 100000), todoF st]) (fun ⟨st, out, D, f, C, e⟩ => st.length) (st0, out0, D, f, C, e) trivial (.cons .head (.cons .head (.cons .head (.cons .head .nil)))) ⟨Has.pure (⟨rfl, rfl, hs⟩), Has.of mT0, trivial⟩ ?_
  rintro ⟨st, out, D, f, C, e⟩
  dsimp only
  refine at_know (Has.of mT0) fun hinv0 => ?_
  refine at_seq ?_
  refine at_seq ?_
  rcases st with _ | ⟨_ | ⟨b, it⟩, r⟩
  · skip
    refine at_region ?_
    refine ss (ldO hT (knows_own (off := 0) .head)) ?_
    refine sp3 hT ?_
    refine at_case (fun hg4 => ?_) (fun hg4 => ?_)
    · have hg4 := of_decide_eq_true hg4
      simp at hg4
    have hg4 := Int.not_lt.1 (of_decide_eq_false hg4)
    refine sk4 ?_
    refine sk3 ?_
    refine sp hT ?_
    refine nn ?_
    refine at_false rfl rfl ?_
    refine at_exit ?_
    refine x_then ?_
    refine x_then ?_
    refine x_block ?_
    have e1 : (finP st0).2 = [] := hinv0.2.1
    have e2 : out0 ++ (finP st0).1 = out := by rw [hinv0.1]; simp [finP]
    rw [e1, e2]
    exact at_off0 ((D, f), (C, e)) rfl  (.cons .head (.cons .head (.cons .head (.cons .head .nil)))) ⟨Has.of mT1, trivial⟩ (rfl)
  · have hsl : r.length ≤ 100000 := by have := hinv0.2.2; simp at this; omega
    refine at_region ?_
    refine ss (ldO hT (knows_own (off := 0) .head)) ?_
    refine sp hT ?_
    refine at_int (z' := (((r.length + 1) : Nat) : Int)) (congrArg Nat.cast (todo_len _ r)) ?_
    refine sp2 hT ?_
    refine at_case (fun hg4 => ?_) (fun hg4 => ?_)
    · have hg4 := of_decide_eq_true hg4
      refine ss (ldO hT (knows_own (off := 0) .head)) ?_
      refine ss (ldO hT (knows_own (off := 0) .head)) ?_
      refine sp hT ?_
      refine at_int (z' := (((r.length + 1) : Nat) : Int)) (congrArg Nat.cast (todo_len _ r)) ?_
      refine sp hT ?_
      refine at_int (z' := ((((r.length + 1) - 1) : Nat) : Int)) (wrapN (by omega) (by omega)) ?_
      refine ss (sti_index hT (k := ((r.length + 1) - 1)) (reads_row kT1) rfl rfl rfl rfl rfl rfl rfl (by rw [todo_len]; omega)) ?_
      refine ss (sti_load1 hT (Reads.knows (reads_row kT1) (k := ((r.length + 1) - 1)) (x := (none : Todo)) todo_last 0) rfl rfl rfl rfl rfl) ?_
      refine ss (sti_nofn Tryz.underlying1 rfl rfl) ?_
      refine sp hT ?_
      refine nn ?_
      refine at_false rfl rfl ?_
      refine at_exit ?_
      refine x_then ?_
      refine x_then ?_
      refine x_block ?_
      have e1 : (finP st0).2 = (none : Todo) :: r := hinv0.2.1
      have e2 : out0 ++ (finP st0).1 = out := by rw [hinv0.1]; simp [finP]
      rw [e1, e2]
      exact at_off0 ((D, f), (C, e)) rfl  (.cons .head (.cons .head (.cons .head (.cons .head .nil)))) ⟨Has.of mT1, trivial⟩ (rfl)
    have hg4 := Int.not_lt.1 (of_decide_eq_false hg4)
    omega
  have hsl : r.length ≤ 100000 := by have := hinv0.2.2; simp at this; omega
  have hol : out.length ≤ 100000 := by have := hinv0.2.2; omega
  refine at_region ?_
  refine ss (ldO hT (knows_own (off := 0) .head)) ?_
  refine sp hT ?_
  refine at_int (z' := (((r.length + 1) : Nat) : Int)) (congrArg Nat.cast (todo_len _ r)) ?_
  refine sp2 hT ?_
  refine at_case (fun hg4 => ?_) (fun hg4 => ?_)
  · have hg4 := of_decide_eq_true hg4
    refine ss (ldO hT (knows_own (off := 0) .head)) ?_
    refine ss (ldO hT (knows_own (off := 0) .head)) ?_
    refine sp hT ?_
    refine at_int (z' := (((r.length + 1) : Nat) : Int)) (congrArg Nat.cast (todo_len _ r)) ?_
    refine sp hT ?_
    refine at_int (z' := ((((r.length + 1) - 1) : Nat) : Int)) (wrapN (by omega) (by omega)) ?_
    refine ss (sti_index hT (k := ((r.length + 1) - 1)) (reads_row kT1) rfl rfl rfl rfl rfl rfl rfl (by rw [todo_len]; omega)) ?_
    refine ss (sti_load1 hT (Reads.knows (reads_row kT1) (k := ((r.length + 1) - 1)) (x := (some (b, it) : Todo)) todo_last 0) rfl rfl rfl rfl rfl) ?_
    refine ss (sti_fn Tryz.underlying1 rfl rfl) ?_
    refine sp hT ?_
    refine nn ?_
    refine at_true rfl rfl ?_
    refine at_skip ?_
    refine n_then ?_
    refine at_block ?_
    refine sr ?_
    refine ss (ldO hT (knows_own (off := 0) .head)) ?_
    refine ss (ldO hT (knows_own (off := 0) .head)) ?_
    refine sp hT ?_
    refine at_int (z' := (((r.length + 1) : Nat) : Int)) (congrArg Nat.cast (todo_len _ r)) ?_
    refine sp hT ?_
    refine at_int (z' := ((((r.length + 1) - 1) : Nat) : Int)) (wrapN (by omega) (by omega)) ?_
    refine ss (sti_index hT (k := ((r.length + 1) - 1)) (reads_row kT1) rfl rfl rfl rfl rfl rfl rfl (by rw [todo_len]; omega)) ?_
    refine ss (sti_load1 hT (Reads.knows (reads_row kT1) (k := ((r.length + 1) - 1)) (x := (some (b, it) : Todo)) todo_last 0) rfl rfl rfl rfl rfl) ?_
    refine at_callv (callFunc_enter Tryz.func56 rfl rfl) (push_spec b4 b _ _ out it (by omega)) rfl rfl rfl rfl rfl rfl rfl (.cons kT2 (.cons kT2 .nil)) ⟨todo_head (Has.of mT1), trivial⟩ fun ⟨C1, e2⟩ => ?_
    refine nn ?_
    refine at_region ?_
    refine ss (ldO hT (knows_own (off := 0) kT2)) ?_
    refine ss (ldO hT (knows_own (off := 0) kT2)) ?_
    refine sp hT ?_
    refine at_int (z' := (((r.length + 1) : Nat) : Int)) (congrArg Nat.cast (todo_len _ r)) ?_
    refine sp hT ?_
    refine at_int (z' := ((((r.length + 1) - 1) : Nat) : Int)) (wrapN (by omega) (by omega)) ?_
    refine at_trunc hT (k := ((r.length + 1) - 1)) kT3 rfl rfl rfl rfl rfl rfl rfl rfl rfl (by rw [todo_len]; omega) ?_
    rw [todo_init]
    refine sto hT kT3 ?_
    refine at_nil ?_
    refine n_block ?_
    refine n_then ?_
    refine at_fact (todoF r) (todo_tail (Has.of mT1)) ?_
    exact at_back2 (r, _, _, _, _, _) (by dsimp only; simp) trivial ⟨rfl, trivial⟩ (.cons .head (.cons .head (.cons .head (.cons .head .nil)))) ⟨Has.pure (⟨by rw [hinv0.1]; simp [finP], by rw [hinv0.2.1]; rfl, by have := hinv0.2.2; simp at *; omega⟩), Has.of mT0, trivial⟩ (HasAll.drop 3)
  have hg4 := Int.not_lt.1 (of_decide_eq_false hg4)
  omega

set_option maxRecDepth 100000 in
theorem laterT_spec (bl : Nat) (A : Option Addr) (c : Nat) (toks : List TokV) (k : Nat) (e : Int) (b1 b5 b4 : Nat) (D : Option Addr) (f : Nat) (st : List Todo) (hk : k ≤ 1000000) (hs : st.length ≤ 100000) : Spec Tryz.prog 54 [.bool true, .pointer (some ⟨b1, 0, none⟩), .pointer (some ⟨b5, 0, none⟩), .pointer (some ⟨b4, 0, none⟩)] [.obj bl (.cells [.slice A toks.length c, .int .i64 (k : Nat), .int .i64 e].toArray 52), .obj b1 (.cells [.pointer (some ⟨bl, 0, none⟩)].toArray 50), .obj b5 (.cells [.slice D st.reverse.length f].toArray 102), (fnE b4).row (.slice D st.reverse.length f) 1 st.reverse] [tokE.sl (.slice A toks.length c) toks, todoF st] (fun (_ : (Option Addr × Nat) × Nat) => .agg #[.int .i64 (phraseP toks (k) e true).flt.1, .int .i64 (phraseP toks (k) e true).flt.2]) (fun (x : (Option Addr × Nat) × Nat) => [.obj bl (.cells [.slice A toks.length c, .int .i64 ((phraseP toks (k) e true).next : Nat), .int .i64 e].toArray 52), .obj b1 (.cells [.pointer (some ⟨bl, 0, none⟩)].toArray 50), .obj b5 (.cells [.slice x.1.1 (some (x.2, (phrI (phraseP toks (k) e true))) :: st).reverse.length x.1.2].toArray 102), (fnE b4).row (.slice x.1.1 (some (x.2, (phrI (phraseP toks (k) e true))) :: st).reverse.length x.1.2) 1 (some (x.2, (phrI (phraseP toks (k) e true))) :: st).reverse]) (fun (x : (Option Addr × Nat) × Nat) => [todoF (some (x.2, (phrI (phraseP toks (k) e true))) :: st)]) := by
  have hT := showT_ok
  refine spec_of Tryz.func54 rfl Tryz.ntmps54 rfl ?_
  intro β hM
  refine sr ?_
  refine at_alloc rfl rfl rfl rfl push_zero_api_Fault rfl fun b1 => ?_
  refine nn ?_
  refine sr ?_
  refine ss (ldO hT (knows_own (off := 0) kT2)) ?_
  refine sp hT ?_
  refine at_call (callFunc_enter Tryz.func55 rfl rfl) (phraseT_spec bl A c toks (k) e (by omega)) rfl rfl rfl rfl rfl (.cons kT1 .nil) ⟨Has.of mT0, trivial⟩ fun _ => ?_
  refine sp3 hT ?_
  refine at_alloc rfl rfl rfl rfl push_zero_api_Item rfl fun b2 => ?_
  refine at_alloc rfl rfl rfl rfl push_zero_api_Fault rfl fun b3 => ?_
  refine sto hT kT1 ?_
  refine sto hT kT1 ?_
  refine nn ?_
  refine sr ?_
  refine ss (ldO hT (knows_own (off := 0) kT5)) ?_
  refine sp hT ?_
  refine at_one_fn (b4 := b4) (m := (some (b2, (phrI (phraseP toks (k) e true))) : Todo)) rfl rfl rfl rfl rfl fun b4 => ?_
  refine at_app_fn kT7 (reads_obj .head rfl) rfl rfl rfl rfl rfl rfl rfl (by simp only [List.length_singleton, List.length_reverse]; omega) fun A5 c6 => ?_
  rw [← List.reverse_cons]
  refine sto hT kT7 ?_
  refine nn ?_
  refine sr ?_
  refine ss (ldN hT (knows_own (off := 0) kT3)) ?_
  refine sto hT kT6 ?_
  refine nn ?_
  refine at_ret ?_
  refine at_freeze_obj kT5 ?_
  exact at_res1 ((A5, c6), b2) rfl (rv_cell hT (knows_own (off := 0) .head) rfl rfl rfl rfl) (.cons kT5 (.cons kT5 (.cons kT1 (.cons kT1 .nil)))) ⟨todo_some (Has.of mT0) (Has.of mT2), trivial⟩ (rfl)

set_option maxRecDepth 100000 in
theorem laterF_spec (bl : Nat) (A : Option Addr) (c : Nat) (toks : List TokV) (k : Nat) (e : Int) (b1 b5 b4 : Nat) (D : Option Addr) (f : Nat) (st : List Todo) (hk : k ≤ 1000000) (hs : st.length ≤ 100000) : Spec Tryz.prog 54 [.bool false, .pointer (some ⟨b1, 0, none⟩), .pointer (some ⟨b5, 0, none⟩), .pointer (some ⟨b4, 0, none⟩)] [.obj bl (.cells [.slice A toks.length c, .int .i64 (k : Nat), .int .i64 e].toArray 52), .obj b1 (.cells [.pointer (some ⟨bl, 0, none⟩)].toArray 50), .obj b5 (.cells [.slice D st.reverse.length f].toArray 102), (fnE b4).row (.slice D st.reverse.length f) 1 st.reverse] [tokE.sl (.slice A toks.length c) toks, todoF st] (fun (_ : (Option Addr × Nat) × Nat) => .agg #[.int .i64 (phraseP toks (k) e false).flt.1, .int .i64 (phraseP toks (k) e false).flt.2]) (fun (x : (Option Addr × Nat) × Nat) => [.obj bl (.cells [.slice A toks.length c, .int .i64 ((phraseP toks (k) e false).next : Nat), .int .i64 e].toArray 52), .obj b1 (.cells [.pointer (some ⟨bl, 0, none⟩)].toArray 50), .obj b5 (.cells [.slice x.1.1 (some (x.2, (phrI (phraseP toks (k) e false))) :: st).reverse.length x.1.2].toArray 102), (fnE b4).row (.slice x.1.1 (some (x.2, (phrI (phraseP toks (k) e false))) :: st).reverse.length x.1.2) 1 (some (x.2, (phrI (phraseP toks (k) e false))) :: st).reverse]) (fun (x : (Option Addr × Nat) × Nat) => [todoF (some (x.2, (phrI (phraseP toks (k) e false))) :: st)]) := by
  have hT := showT_ok
  refine spec_of Tryz.func54 rfl Tryz.ntmps54 rfl ?_
  intro β hM
  refine sr ?_
  refine at_alloc rfl rfl rfl rfl push_zero_api_Fault rfl fun b1 => ?_
  refine nn ?_
  refine sr ?_
  refine ss (ldO hT (knows_own (off := 0) kT2)) ?_
  refine sp hT ?_
  refine at_call (callFunc_enter Tryz.func55 rfl rfl) (phraseF_spec bl A c toks (k) e (by omega)) rfl rfl rfl rfl rfl (.cons kT1 .nil) ⟨Has.of mT0, trivial⟩ fun _ => ?_
  refine sp3 hT ?_
  refine at_alloc rfl rfl rfl rfl push_zero_api_Item rfl fun b2 => ?_
  refine at_alloc rfl rfl rfl rfl push_zero_api_Fault rfl fun b3 => ?_
  refine sto hT kT1 ?_
  refine sto hT kT1 ?_
  refine nn ?_
  refine sr ?_
  refine ss (ldO hT (knows_own (off := 0) kT5)) ?_
  refine sp hT ?_
  refine at_one_fn (b4 := b4) (m := (some (b2, (phrI (phraseP toks (k) e false))) : Todo)) rfl rfl rfl rfl rfl fun b4 => ?_
  refine at_app_fn kT7 (reads_obj .head rfl) rfl rfl rfl rfl rfl rfl rfl (by simp only [List.length_singleton, List.length_reverse]; omega) fun A5 c6 => ?_
  rw [← List.reverse_cons]
  refine sto hT kT7 ?_
  refine nn ?_
  refine sr ?_
  refine ss (ldN hT (knows_own (off := 0) kT3)) ?_
  refine sto hT kT6 ?_
  refine nn ?_
  refine at_ret ?_
  refine at_freeze_obj kT5 ?_
  exact at_res1 ((A5, c6), b2) rfl (rv_cell hT (knows_own (off := 0) .head) rfl rfl rfl rfl) (.cons kT5 (.cons kT5 (.cons kT1 (.cons kT1 .nil)))) ⟨todo_some (Has.of mT0) (Has.of mT2), trivial⟩ (rfl)

end Go.Proofs.YtngkedmndhmjcaaGreatDoor
