/- Walk of show.shower.expr. (Printed by wip/gen/show2.py.) -/
import Derived.Test.YtngkedmndhmjcaaGreatDoorM6
namespace Go.Proofs.YtngkedmndhmjcaaGreatDoor
open Go.RowKit

def wrowC (p : PieceV) : Chunk := strE.row (.slice p.words.addr p.words.list.length p.words.cap) 9 p.words.list
def rowsC (st : List PieceV) : List Chunk := st.map wrowC
theorem maxN (a b : Nat) : (if (b : Int) > (a : Int) then (b : Int) else (a : Int)) = ((max a b : Nat) : Int) := by
  split <;> omega
def wsz (l : List Bs) : Nat := (l.map fun w => w.length + 1).sum
theorem wsz_append (a b : List Bs) : wsz (a ++ b) = wsz a + wsz b := by simp [wsz]
theorem wsz_cons (w : Bs) (r : List Bs) : wsz (w :: r) = w.length + 1 + wsz r := by simp [wsz]
theorem wsz_mem {l : List Bs} {w : Bs} {i : Nat} (h : l[i]? = some w) : w.length + 1 ≤ wsz l := by
  induction l generalizing i with
  | nil => simp at h
  | cons x r ih =>
    rw [wsz_cons]
    cases i with
    | zero => simp at h; subst h; omega
    | succ i => have := ih (i := i) (by simpa using h); omega
theorem wsz_set {l : List Bs} {w v : Bs} {i : Nat} (h : l[i]? = some w) : wsz (l.set i v) + w.length = wsz l + v.length := by
  induction l generalizing i with
  | nil => simp at h
  | cons x r ih =>
    cases i with
    | zero => simp at h; subst h; simp only [List.set_cons_zero, wsz_cons]; omega
    | succ i => have := ih (i := i) (by simpa using h); simp only [List.set_cons_succ, wsz_cons]; omega
theorem join_len : ∀ l : List Bs, (joinSp l).length ≤ wsz l
  | [] => by simp [joinSp]
  | [w] => by simp [joinSp, wsz]
  | w :: x :: r => by
    have := join_len (x :: r)
    rw [joinSp_cons w (by simp), wsz_cons]
    simp; omega
/-- a piece's texts are not too long -/
def OkP (p : PieceV) : Prop := p.words.list ≠ [] ∧ wsz p.words.list ≤ 40 * p.tokens
theorem brk_set {l : List Bs} {w0 x : Bs} (h0 : l[0]? = some w0) (hx : (l.set 0 ([40] ++ w0))[l.length - 1]? = some x) : (l.set 0 ([40] ++ w0)).set (l.length - 1) (x ++ [41]) = brk l := by
  cases l with
  | nil => simp at h0
  | cons w r =>
    simp at h0
    subst h0
    have key : ∀ (a : Bs) (r : List Bs) (x : Bs), (a :: r)[r.length]? = some x → (a :: r).set r.length (x ++ [41]) = brkEnd (a :: r) := by
      intro a r
      induction r generalizing a with
      | nil => intro x h; simp at h; subst h; rfl
      | cons b r ih =>
        intro x h
        have := ih b x (by simpa using h)
        show a :: ((b :: r).set r.length (x ++ [41])) = a :: brkEnd (b :: r)
        rw [this]
    simp only [List.set_cons_zero, List.length_cons, Nat.add_sub_cancel] at hx ⊢
    exact key _ _ _ hx
/-- how far the walk has come: st: what stands on the stack, behind i items -/
structure SInv (l : List Item) (st : List PieceV) (i : Nat) : Prop where
  steps : stepsS (l.drop i) (st.map PieceV.pc) = stepsS l []
  le : i ≤ l.length
  sum : (st.map (·.tokens)).sum ≤ 300 * i
  nest : ∀ p ∈ st, p.nest ≤ i
  ok : ∀ p ∈ st, OkP p
theorem SInv.start (l : List Item) : SInv l [] 0 := ⟨rfl, by omega, by simp, fun p hp => by simp at hp, fun p hp => by simp at hp⟩
section
variable {l : List Item} {st st' : List PieceV} {i : Nat} {x : Item} {r : Option Bs} {most : Nat}
theorem x_long {l : List Item} (h : most < l.length) : exprS l most = none := by rw [exprS, if_pos h]
theorem SInv.next (h : SInv l st i) (hx : l[i]? = some x) {c : List Piece} (hs : stepS (st.map PieceV.pc) x = some c) : stepsS (l.drop (i + 1)) c = stepsS l [] := by
  have := h.steps
  rw [drop_some hx, stepsS, hs] at this
  exact this
theorem SInv.fail (h : SInv l st i) (hx : l[i]? = some x) (hs : stepS (st.map PieceV.pc) x = none) : exprS l most = none := by
  have := h.steps
  rw [drop_some hx, stepsS, hs] at this
  unfold exprS
  rw [← this]
  split <;> rfl
theorem SInv.done (h : SInv l st i) (hi : l.length ≤ i) (hm : ¬ most < l.length) : exprS l most = match st.map PieceV.pc with
    | [p] => if most < p.tokens ∨ 32 < p.nest then none else some (joinSp p.words)
    | _ => none := by
  have := h.steps
  rw [List.drop_of_length_le hi, stepsS] at this
  unfold exprS
  rw [if_neg hm, ← this]
  split <;> rename_i h1
  · injection h1 with h1
    rw [h1]
  · split
    · rename_i p hp
      exact absurd (congrArg some hp) (h1 p)
    · rfl
end
theorem nameB_len {s : Bs} (h : nameB s = true) : s.length ≤ 16 := by
  unfold nameB lexOne at h
  simp only [Bool.and_eq_true] at h
  obtain ⟨_, _, _, _, h⟩ := h
  cases hl : (lexP s).1 with
  | nil => rw [hl] at h; cases h
  | cons t r =>
    cases r with
    | nil =>
      rw [hl] at h
      simp only [Bool.and_eq_true, beq_iff_eq] at h
      rw [← h.2]
      exact (lex_ok s t (by rw [hl]; simp)).word
    | cons _ _ => rw [hl] at h; cases h
theorem sum_spell {l : List Int} (hz : ∀ z ∈ l, -9223372036854775808 ≤ z ∧ z ≤ 9223372036854775807) : wsz (l.map spellN) ≤ 22 * l.length := by
  induction l with
  | nil => simp [wsz]
  | cons z r ih =>
    have h1 := hz z (by simp)
    have := spell_len h1.1 h1.2
    have := ih fun y hy => hz y (by simp [hy])
    rw [List.map_cons, wsz_cons]
    simp only [List.length_cons]
    omega
theorem operand_ok {x : Item} {q : Piece} (hz : ∀ z ∈ x.nums, -9223372036854775808 ≤ z ∧ z ≤ 9223372036854775807) (h : operandS x = some q) : q.words ≠ [] ∧ wsz q.words ≤ 40 * q.tokens ∧ q.tokens ≤ 256 ∧ q.nest = 0 := by
  unfold operandS at h
  split at h
  · split at h
    · rename_i hn
      injection h with h
      subst h
      have := nameB_len hn.2.2
      refine ⟨by simp, ?_, by simp, rfl⟩
      simp [wsz]; omega
    · cases h
  · split at h
    · cases h
    · rename_i hn
      injection h with h
      subst h
      have h0 : x.nums ≠ [] := fun e => hn (.inr (.inr (.inl e)))
      have h1 : ¬ 256 < x.nums.length := fun e => hn (.inr (.inr (.inr e)))
      have := sum_spell hz
      refine ⟨by simpa using h0, ?_, by simp; omega, rfl⟩
      simp only
      omega
section
variable {l : List Item} {st : List PieceV} {i : Nat} {x : Item} {p : PieceV}
theorem step_operand (ho : x.how = 1 ∨ x.how = 2) {c : List Piece} : stepS c x = (operandS x).map (· :: c) := by rw [stepS, if_pos ho]
theorem SInv.operand (h : SInv l st i) (hx : l[i]? = some x) (ho : x.how = 1 ∨ x.how = 2) (hz : ∀ z ∈ x.nums, -9223372036854775808 ≤ z ∧ z ≤ 9223372036854775807) (hq : operandS x = some p.pc) : SInv l (p :: st) (i + 1) := by
  obtain ⟨h1, h2, h3, h4⟩ := operand_ok hz hq
  have hl := (List.getElem?_eq_some_iff.1 hx).1
  refine ⟨h.next hx (by rw [step_operand ho, hq]; rfl), hl, ?_, fun y hy => ?_, fun y hy => ?_⟩
  · have := h.sum
    have h3 : p.tokens ≤ 256 := h3
    simp only [List.map_cons, List.sum_cons]
    omega
  · rcases List.mem_cons.1 hy with rfl | hy
    · have h4 : y.nest = 0 := h4
      omega
    · have := h.nest y hy; omega
  · rcases List.mem_cons.1 hy with rfl | hy
    · exact ⟨h1, h2⟩
    · exact h.ok y hy
theorem step_bad {c : List Piece} (ho : ¬ (x.how = 1 ∨ x.how = 2)) (hb : x.how < 3 ∨ 7 < x.how ∨ x.nums ≠ [] ∨ x.name ≠ [] ∨ (verbS x).1 = []) : stepS c x = none := by rw [stepS, if_neg ho, if_pos hb]
theorem step_short {c : List Piece} (ho : ¬ (x.how = 1 ∨ x.how = 2)) (hs : c.length < if twoH x.how then 2 else 1) : stepS c x = none := by
  rw [stepS, if_neg ho]
  split
  · rfl
  · unfold applyS
    split
    · rename_i ht
      rw [ht] at hs
      match c, hs with
      | [], _ => rfl
      | [_], _ => rfl
      | _ :: _ :: _, hs => simp at hs; omega
    · rename_i ht
      rw [if_neg ht] at hs
      match c, hs with
      | [], _ => rfl
      | _ :: _, hs => simp at hs
theorem step_apply {c : List Piece} (h3 : 3 ≤ x.how) (h7 : x.how ≤ 7) (hn : x.nums = []) (hm : x.name = []) (hv : (verbS x).1 ≠ []) : stepS c x = applyS x c := by
  rw [stepS, if_neg (by omega), if_neg]
  rintro (h | h | h | h | h)
  · omega
  · omega
  · exact h hn
  · exact h hm
  · exact hv h
theorem verb_len (x : Item) : (verbS x).1.length ≤ 6 ∧ (verbS x).2 ≤ 2 ∧ ((verbS x).1 ≠ [] → 1 ≤ (verbS x).2) := by
  have h1 := textF_len false x.fn
  have h2 := textF_len true x.fn
  have h3 := markS_len x.how
  unfold verbS
  split
  · exact ⟨by simp; omega, by simp, fun _ => by simp⟩
  · split
    · exact ⟨by simp; omega, by simp, fun _ => by simp⟩
    · split
      · exact ⟨by simp, by simp, fun h => absurd rfl h⟩
      · exact ⟨by simp; omega, by simp, fun _ => by simp⟩
theorem SInv.one (h : SInv l (p :: st) i) (hx : l[i]? = some x) (hs : stepS ((p :: st).map PieceV.pc) x = applyS x ((p :: st).map PieceV.pc)) (ht : twoH x.how = false) (hv : (verbS x).1 ≠ []) {A : Option Addr} {c : Nat} :
    SInv l (⟨⟨A, c, [(verbS x).1] ++ p.words.list⟩, p.nest, p.tokens + (verbS x).2, false⟩ :: st) (i + 1) := by
  have hl := (List.getElem?_eq_some_iff.1 hx).1
  obtain ⟨h1, h2, h3⟩ := verb_len x
  refine ⟨h.next hx (by rw [hs]; unfold applyS; rw [ht]; rfl), hl, ?_, fun y hy => ?_, fun y hy => ?_⟩
  · have := h.sum
    simp only [List.map_cons, List.sum_cons] at this ⊢
    omega
  · rcases List.mem_cons.1 hy with rfl | hy
    · have := h.nest p (by simp)
      dsimp only
      omega
    · have := h.nest y (by simp [hy]); omega
  · rcases List.mem_cons.1 hy with rfl | hy
    · have := (h.ok p (by simp)).2
      have h3 := h3 hv
      refine ⟨by simp, ?_⟩
      simp only [List.singleton_append, wsz_cons]
      omega
    · exact h.ok y (by simp [hy])
theorem left_ok {q : PieceV} (h : OkP q) : (leftS q.pc).words ≠ [] ∧ wsz (leftS q.pc).words ≤ 40 * (leftS q.pc).tokens ∧ (leftS q.pc).tokens ≤ q.tokens + 2 ∧ (leftS q.pc).nest ≤ q.nest + 1 := by
  obtain ⟨h1, h2⟩ := h
  unfold leftS
  split
  · exact ⟨h1, h2, by show q.tokens ≤ _; omega, by show q.nest ≤ _; omega⟩
  · refine ⟨brk_ne h1, ?_, Nat.le_refl _, Nat.le_refl _⟩
    have key : ∀ l : List Bs, l ≠ [] → wsz (brkEnd l) = wsz l + 1 := by
      intro l
      induction l with
      | nil => intro h; exact absurd rfl h
      | cons w r ih =>
        intro _
        cases r with
        | nil => simp [brkEnd, wsz]
        | cons x r =>
          show wsz (w :: brkEnd (x :: r)) = _
          rw [wsz_cons, ih (by simp)]
          simp only [wsz_cons]
          omega
    have hb : wsz (brk q.words.list) = wsz q.words.list + 2 := by
      cases hq : q.words.list with
      | nil => exact absurd hq h1
      | cons w r =>
        show wsz (brkEnd _) = _
        rw [key _ (by simp), wsz_cons, wsz_cons]
        simp; omega
    show wsz (brk q.words.list) ≤ 40 * (q.tokens + 2)
    omega
theorem SInv.two {q : PieceV} (h : SInv l (p :: q :: st) i) (hx : l[i]? = some x) (hs : stepS ((p :: q :: st).map PieceV.pc) x = applyS x ((p :: q :: st).map PieceV.pc)) (ht : twoH x.how = true) (hv : (verbS x).1 ≠ []) {A : Option Addr} {c : Nat} {ws : List Bs} {n t : Nat}
    (hw : ws = (leftS q.pc).words) (hn : n = (leftS q.pc).nest) (hk : t = (leftS q.pc).tokens) :
    SInv l (⟨⟨A, c, ws ++ ([(verbS x).1] ++ p.words.list)⟩, max p.nest n, p.tokens + (verbS x).2 + t, false⟩ :: st) (i + 1) := by
  subst hw hn hk
  have hl := (List.getElem?_eq_some_iff.1 hx).1
  obtain ⟨h1, h2, h3⟩ := verb_len x
  obtain ⟨k1, k2, k3, k4⟩ := left_ok (h.ok q (by simp))
  refine ⟨h.next hx (by rw [hs]; unfold applyS; rw [ht]; rfl), hl, ?_, fun y hy => ?_, fun y hy => ?_⟩
  · have := h.sum
    simp only [List.map_cons, List.sum_cons] at this ⊢
    omega
  · rcases List.mem_cons.1 hy with rfl | hy
    · have := h.nest p (by simp)
      have := h.nest q (by simp)
      dsimp only
      omega
    · have := h.nest y (by simp [hy]); omega
  · rcases List.mem_cons.1 hy with rfl | hy
    · have := (h.ok p (by simp)).2
      have h3 := h3 hv
      refine ⟨by simp, ?_⟩
      simp only [List.singleton_append, wsz_append, wsz_cons]
      omega
    · exact h.ok y (by simp [hy])
end
theorem rev_one {x : PieceV} {r : List PieceV} : (x :: r).reverse[(r.length + 1) - 1]? = some x := by simp
theorem rev_two {x y : PieceV} {r : List PieceV} : (x :: y :: r).reverse[(r.length + 2) - 1]? = some x ∧ (x :: y :: r).reverse[(r.length + 2) - 2]? = some y := by
  constructor
  · simp
  · simp
theorem rev_cut1 {x : PieceV} {r : List PieceV} : (x :: r).reverse.take ((r.length + 1) - 1) = r.reverse := by simp
theorem rev_cut2 {x y : PieceV} {r : List PieceV} : (x :: y :: r).reverse.take ((r.length + 2) - 2) = r.reverse := by simp
theorem one_of {l : List PieceV} (h : l.length = 1) : ∃ p, l = [p] := by
  match l, h with
  | [p], _ => exact ⟨p, rfl⟩
theorem cons_of {l : List PieceV} (h : 1 ≤ l.length) : ∃ p r, l = p :: r := by
  match l, h with
  | p :: r, _ => exact ⟨p, r, rfl⟩
theorem cons2_of {l : List PieceV} (h : 2 ≤ l.length) : ∃ p q r, l = p :: q :: r := by
  match l, h with
  | p :: q :: r, _ => exact ⟨p, q, r, rfl⟩
theorem join_eq : ∀ l : List Bs, Lib.join l [32] = joinSp l
  | [] => rfl
  | [w] => by simp [Lib.join, joinSp]
  | w :: x :: r => by
    rw [joinSp_cons w (by simp), ← join_eq (x :: r)]
    simp [Lib.join]
theorem join_spec (A : Option Addr) (c : Nat) (l : List Bs) (hc : l.length ≤ c) (hl : (joinSp l).length ≤ 140737488355328) (hn : l.length ≤ 140737488355328) :
    Spec Tryz.prog 68 [.slice A l.length c, .string (bs [32])] [] [strE.sl (.slice A l.length c) l] (fun _ : Unit => .string (bs (joinSp l))) (fun _ => []) (fun _ => []) :=
  spec_below fun S w hS k => by
    obtain ⟨A', c', e, h⟩ := k _ (.head _)
    injection e with e1 e2 e3
    subst e1 e3
    cases l with
    | nil =>
      refine (Tryz.strings_Join_none A c (bs [32]) w).mono ?_
      rintro e w' ⟨rfl, rfl⟩
      exact ⟨rfl, Below.refl _ _⟩
    | cons x r =>
      obtain ⟨b, o, cs, e1, hb, _, _⟩ := h 0 x rfl
      subst e1
      have e0 : ((x :: r).map bs).length = (x :: r).length := List.length_map _
      have e4 : ((x :: r).map bs).map (·.data.toList) = x :: r := by
        rw [List.map_map]
        exact List.map_id _
      have hj := Tryz.strings_Join b o c ((x :: r).map bs) (bs [32]) w (fun j y hy => ?_) (hS b hb) (by rw [e0]; exact hn) (by rw [e0]; exact hc) (by rw [e4, bs_data, join_eq]; exact hl)
      · rw [e0, e4, bs_data, join_eq] at hj
        exact hj
      · rw [List.getElem?_map] at hy
        cases hz : (x :: r)[j]? with
        | none => rw [hz] at hy; cases hy
        | some z =>
          rw [hz] at hy
          simp at hy
          subst hy
          obtain ⟨b', o', cs, e1, _, h3, h4⟩ := h j z hz
          injection e1 with e1
          injection e1 with e1 e2
          subst e1 e2
          have h4 : cs = strE.cells z := h4
          subst h4
          have := h3 0 (.string (bs z)) rfl
          have e : o + j * (Enc.flat strE.size strE.cells).size + 0 = o + j := by
            show o + j * 1 + 0 = o + j
            omega
          rwa [e] at this
theorem wsz_count (l : List Bs) : l.length ≤ wsz l := by
  induction l with
  | nil => simp
  | cons w r ih => rw [wsz_cons, List.length_cons]; omega
theorem nums_ne {x : ItemV} (h : (0 : Int) < ((x.nums.list.length : Nat) : Int)) : x.it.nums ≠ [] := fun e => by
  have : x.nums.list = [] := e
  rw [this] at h
  simp at h
theorem nums_nil {x : ItemV} (h : ¬ (0 : Int) < ((x.nums.list.length : Nat) : Int)) : x.it.nums = [] := List.eq_nil_of_length_eq_zero (show x.nums.list.length = 0 by omega)
theorem twoT {k : Int} (h : k = 4 ∨ k = 7) : twoH k = true := by
  rcases h with rfl | rfl <;> rfl
theorem twoN {k : Int} (h : k ≠ 4) (h' : k ≠ 7) : twoH k = false := by simp [twoH, h, h']
theorem not_one {st : List PieceV} {most : Nat} (h : st.length ≠ 1) : (match st.map PieceV.pc with
    | [p] => if most < p.tokens ∨ 32 < p.nest then none else some (joinSp p.words)
    | _ => none) = none := by
  match st, h with
  | [], _ => rfl
  | [_], h => exact absurd rfl h
  | _ :: _ :: _, _ => rfl
theorem opt_none {α : Type} {o : Option α} (h : o.isSome = false) : o = none := by
  cases o with
  | none => rfl
  | some x => cases h
theorem SInv.len {l : List Item} {st : List PieceV} {i : Nat} (h : SInv l st i) : st.length ≤ 300 * i := by
  refine Nat.le_trans ?_ h.sum
  have ho := h.ok
  clear h
  induction st with
  | nil => simp
  | cons p r ih =>
    have := ih fun y hy => ho y (by simp [hy])
    obtain ⟨h1, h2⟩ := ho p (by simp)
    have h3 : 1 ≤ wsz p.words.list := by
      cases hp : p.words.list with
      | nil => exact absurd hp h1
      | cons w t => rw [wsz_cons]; omega
    simp only [List.length_cons, List.map_cons, List.sum_cons]
    omega
theorem short2 {x : ItemV} {st : List PieceV} (h : x.how = 4 ∨ x.how = 7) (hs : st.length < 2) : (st.map PieceV.pc).length < if twoH x.it.how then 2 else 1 := by
  rw [show twoH x.it.how = true from twoT h, List.length_map]
  exact hs
theorem short1 {x : ItemV} {st : List PieceV} (h : x.how ≠ 4) (h' : x.how ≠ 7) (hs : st.length < 1) : (st.map PieceV.pc).length < if twoH x.it.how then 2 else 1 := by
  rw [show twoH x.it.how = false from twoN h h', List.length_map]
  exact hs
theorem sexpr_zero_api_Item : (Tryz.prog.info? 46).bind (·.zero) = some (.agg #[.int .i64 0, .int .i64 0, .int .u8 0, .string (bs []), .slice none 0 0]) := by kernel_rfl
theorem sexpr_zero_show_piece : (Tryz.prog.info? 120).bind (·.zero) = some (.agg #[.slice none 0 0, .int .i64 0, .int .i64 0, .bool false]) := by kernel_rfl

set_option maxRecDepth 100000 in
theorem sexpr_spec (b r1 r2 : Nat) (p : Value) (G : Option Addr) (m c : Nat) (A : Option Addr) (ci : Nat) (items : List ItemV) (most : Nat) (hm : most ≤ 256) (hit : ∀ it ∈ items, it.name.length ≤ 140737488355328 ∧ ∀ z ∈ it.nums.list, -9223372036854775808 ≤ z ∧ z ≤ 9223372036854775807) : Spec Tryz.prog 46 [.pointer (some ⟨b, 0, none⟩), .slice A items.length ci, .int .i64 (most : Nat)] [.obj b (.cells [.map (some r1), .map (some r2), p, .slice G m c].toArray 75)] [mapF r1 .u8 (textsM false), mapF r2 .u8 (textsM true), globF, itemE.sl (.slice A items.length ci) items, numsF items] (fun (_ : Unit) => .tuple #[.string (bs ((exprS (items.map ItemV.it) most).getD [])), .bool (exprS (items.map ItemV.it) most).isSome]) (fun (_ : Unit) => [.obj b (.cells [.map (some r1), .map (some r2), p, .slice G m c].toArray 75)]) (fun _ => []) := by
  have hT := show2T_ok
  generalize hR : exprS (items.map ItemV.it) most = r
  refine spec_of Tryz.func46 rfl Tryz.ntmps46 rfl ?_
  intro β hM
  refine sr ?_
  refine sp2 hT ?_
  refine nn ?_
  refine at_seq ?_
  refine sr ?_
  refine sp4 hT ?_
  refine nn ?_
  refine at_cond rfl (fun hc21 => ?_) (fun hc21 => ?_)
  · have hc21 := of_decide_eq_true hc21
    refine sr ?_
    refine sp2 hT ?_
    refine nn ?_
    refine at_ret ?_
    refine r_then ?_
    have hr := hR.symm.trans (x_long (by rw [List.length_map]; omega))
    subst hr
    exact at_res2 () rfl (rv_tmp rfl) (rv_tmp rfl) (.cons .head .nil) trivial rfl
  have hc21 := Int.not_lt.1 (of_decide_eq_false hc21)
  refine at_skip ?_
  refine n_then ?_
  refine sr ?_
  refine sp hT ?_
  refine nn ?_
  refine at_seq ?_
  refine sr ?_
  refine sp3 hT ?_
  refine nn ?_
  refine at_block ?_
  refine at_nilrow' (t := 120) pieceE ?_
  refine at_loop (ι := Nat × List PieceV × Option Addr × Nat) (fun ⟨i, st, B, e⟩ => [(0, .pointer (some ⟨b, 0, none⟩)), (2, .int .i64 (most : Nat)), (8, .slice B st.reverse.length e), (22, .slice A items.length ci), (23, .int .i64 (items.length : Nat)), (24, .int .i64 (i : Nat))]) (fun ⟨i, st, B, e⟩ => .obj b (.cells [.map (some r1), .map (some r2), p, .slice G m c].toArray 75) :: pieceE.row (.slice B st.reverse.length e) 120 st.reverse :: rowsC st) (fun ⟨i, st, B, e⟩ => [Fact.pure (SInv (items.map ItemV.it) st i), mapF r1 .u8 (textsM false), mapF r2 .u8 (textsM true), globF, itemE.sl (.slice A items.length ci) items, numsF items]) (fun ⟨i, st, B, e⟩ => items.length - i) (0, [], none, 0) ⟨rfl, rfl, rfl, rfl, rfl, rfl, trivial⟩ (.cons kT1 (.cons .head Sel.self)) ⟨Has.pure (SInv.start _), Has.of mT0, Has.of mT1, Has.of mT2, Has.of mT3, Has.of mT4, trivial⟩ ?_
  rintro ⟨i, st, B, e⟩
  dsimp only
  refine at_know (Has.of mT0) fun hinv5 => ?_
  have hil := hinv5.le
  simp only [List.length_map] at hil
  have hsum := hinv5.sum
  have hstl := hinv5.len
  refine sr ?_
  refine sp hT ?_
  refine nn ?_
  refine at_seq ?_
  refine at_cond rfl (fun hc25 => ?_) (fun hc25 => ?_)
  · have hc25 := of_decide_eq_true hc25
    refine at_skip ?_
    refine n_then ?_
    refine at_seq ?_
    refine at_block ?_
    refine sr ?_
    obtain ⟨x1, hx2⟩ : ∃ x, items[i]? = some x := ⟨_, List.getElem?_eq_getElem (by omega)⟩
    refine ss (sti_index hT (k := i) (reads_fact (Has.of mT4)) rfl rfl rfl rfl rfl rfl rfl (by omega)) ?_
    refine ss (sti_loadN hT (Reads.knows (reads_fact (Has.of mT4)) (k := i) (x := x1) hx2 0) rfl rfl rfl rfl rfl) ?_
    refine at_alloc rfl rfl rfl rfl sexpr_zero_api_Item rfl fun b3 => ?_
    refine sto hT .head ?_
    refine nn ?_
    refine at_seq ?_
    refine at_seq ?_
    have hx0 : (items.map ItemV.it)[i]? = some x1.it := by rw [List.getElem?_map, hx2]; rfl
    have hxi := hit x1 (List.mem_of_getElem? hx2)
    have hvl := verb_len x1.it
    refine at_region ?_
    refine sp hT ?_
    refine ss (ldO hT (knows_own (off := 0) .head)) ?_
    refine sp2 hT ?_
    refine at_case (fun hg31 => ?_) (fun hg31 => ?_)
    · have hg31 := eq_of_beq hg31
      refine sk3 ?_
      refine sp hT ?_
      refine nn ?_
      refine at_true rfl rfl ?_
      refine sr ?_
      refine ss (ldN hT (knows_own (off := 0) .head)) ?_
      refine at_fact (numF x1) (Has.each (Has.of mT5) (List.mem_of_getElem? hx2)) ?_
      refine at_call (callFunc_enter Tryz.func66 rfl rfl) (operand_spec x1 hxi.1 hxi.2) rfl rfl rfl rfl rfl .nil ⟨(Has.of mT0), (Has.of mT4), trivial⟩ fun p4 => ?_
      refine at_know (Has.of mT0) fun hpu => ?_
      refine sp3 hT ?_
      refine at_alloc rfl rfl rfl rfl sexpr_zero_show_piece rfl fun b5 => ?_
      refine sto hT .head ?_
      refine sp hT ?_
      refine nn ?_
      refine at_seq ?_
      refine sr ?_
      refine sp2 hT ?_
      refine nn ?_
      refine at_cond rfl (fun hc42 => ?_) (fun hc42 => ?_)
      · have hc42 := not_t hc42
        refine sr ?_
        refine sp2 hT ?_
        refine nn ?_
        refine at_ret ?_
        refine r_then ?_
        refine r_then ?_
        refine r_block ?_
        refine r_then ?_
        refine r_then ?_
        refine r_block ?_
        refine r_then ?_
        have hr := hR.symm.trans (hinv5.fail hx0 (by rw [step_operand (by first | exact .inl (by assumption) | exact .inr (by assumption)), opt_none hc42]; rfl))
        subst hr
        exact at_res2 () rfl (rv_tmp rfl) (rv_tmp rfl) (.cons kT3 .nil) trivial rfl
      have hc42 := not_f hc42
      refine at_skip ?_
      refine n_then ?_
      refine at_seq ?_
      obtain ⟨q, hq⟩ : ∃ q, operandS x1.it = some q := Option.isSome_iff_exists.1 (by simpa using hc42)
      have hpc := hpu q hq
      rw [← hpc] at hq
      refine at_region ?_
      refine sp hT ?_
      refine ss (ldN hT (knows_own (off := 0) .head)) ?_
      refine at_one_piece (m := p4) rfl rfl rfl rfl rfl fun b6 => ?_
      refine at_app_piece kT5 (reads_obj .head rfl) rfl rfl rfl rfl rfl rfl rfl (by first | (simp only [List.length_singleton]; omega) | (simp; omega)) fun A7 c8 => ?_
      rw [← List.reverse_cons]
      refine sp hT ?_
      refine nn ?_
      refine at_exit ?_
      refine x_then ?_
      refine x_block ?_
      refine n_then ?_
      refine at_region ?_
      refine sp hT ?_
      refine at_int (z' := (((i + 1) : Nat) : Int)) (wrapN (by omega) (by omega)) ?_
      refine sp hT ?_
      refine nn ?_
      exact at_back (i + 1, p4 :: st, _, _) (by dsimp only; omega) ⟨rfl, rfl, rfl, rfl, rfl, rfl, trivial⟩ (.cons kT5 (.cons .head (.cons kT2 (Sel.skip (Sel.skip (Sel.skip Sel.self)))))) ⟨Has.pure (hinv5.operand hx0 (by first | exact .inl (by assumption) | exact .inr (by assumption)) hxi.2 hq), Has.of mT3, Has.of mT4, Has.of mT5, Has.of mT6, Has.of mT7, trivial⟩
    have hg31 := beq_eq_false_iff_ne.1 hg31
    refine sp hT ?_
    refine ss (ldO hT (knows_own (off := 0) .head)) ?_
    refine sp2 hT ?_
    refine nn ?_
    refine at_cond rfl (fun hc35 => ?_) (fun hc35 => ?_)
    · have hc35 := eq_of_beq hc35
      refine sr ?_
      refine ss (ldN hT (knows_own (off := 0) .head)) ?_
      refine at_fact (numF x1) (Has.each (Has.of mT5) (List.mem_of_getElem? hx2)) ?_
      refine at_call (callFunc_enter Tryz.func66 rfl rfl) (operand_spec x1 hxi.1 hxi.2) rfl rfl rfl rfl rfl .nil ⟨(Has.of mT0), (Has.of mT4), trivial⟩ fun p9 => ?_
      refine at_know (Has.of mT0) fun hpu => ?_
      refine sp3 hT ?_
      refine at_alloc rfl rfl rfl rfl sexpr_zero_show_piece rfl fun b10 => ?_
      refine sto hT .head ?_
      refine sp hT ?_
      refine nn ?_
      refine at_seq ?_
      refine sr ?_
      refine sp2 hT ?_
      refine nn ?_
      refine at_cond rfl (fun hc42 => ?_) (fun hc42 => ?_)
      · have hc42 := not_t hc42
        refine sr ?_
        refine sp2 hT ?_
        refine nn ?_
        refine at_ret ?_
        refine r_then ?_
        refine r_then ?_
        refine r_block ?_
        refine r_then ?_
        refine r_then ?_
        refine r_block ?_
        refine r_then ?_
        have hr := hR.symm.trans (hinv5.fail hx0 (by rw [step_operand (by first | exact .inl (by assumption) | exact .inr (by assumption)), opt_none hc42]; rfl))
        subst hr
        exact at_res2 () rfl (rv_tmp rfl) (rv_tmp rfl) (.cons kT3 .nil) trivial rfl
      have hc42 := not_f hc42
      refine at_skip ?_
      refine n_then ?_
      refine at_seq ?_
      obtain ⟨q, hq⟩ : ∃ q, operandS x1.it = some q := Option.isSome_iff_exists.1 (by simpa using hc42)
      have hpc := hpu q hq
      rw [← hpc] at hq
      refine at_region ?_
      refine sp hT ?_
      refine ss (ldN hT (knows_own (off := 0) .head)) ?_
      refine at_one_piece (m := p9) rfl rfl rfl rfl rfl fun b11 => ?_
      refine at_app_piece kT5 (reads_obj .head rfl) rfl rfl rfl rfl rfl rfl rfl (by first | (simp only [List.length_singleton]; omega) | (simp; omega)) fun A12 c13 => ?_
      rw [← List.reverse_cons]
      refine sp hT ?_
      refine nn ?_
      refine at_exit ?_
      refine x_then ?_
      refine x_block ?_
      refine n_then ?_
      refine at_region ?_
      refine sp hT ?_
      refine at_int (z' := (((i + 1) : Nat) : Int)) (wrapN (by omega) (by omega)) ?_
      refine sp hT ?_
      refine nn ?_
      exact at_back (i + 1, p9 :: st, _, _) (by dsimp only; omega) ⟨rfl, rfl, rfl, rfl, rfl, rfl, trivial⟩ (.cons kT5 (.cons .head (.cons kT2 (Sel.skip (Sel.skip (Sel.skip Sel.self)))))) ⟨Has.pure (hinv5.operand hx0 (by first | exact .inl (by assumption) | exact .inr (by assumption)) hxi.2 hq), Has.of mT3, Has.of mT4, Has.of mT5, Has.of mT6, Has.of mT7, trivial⟩
    have hc35 := beq_eq_false_iff_ne.1 hc35
    refine at_skip ?_
    refine n_then ?_
    refine sr ?_
    refine sp hT ?_
    refine nn ?_
    refine at_seq ?_
    refine sr ?_
    refine sp hT ?_
    refine ss (ldO hT (knows_own (off := 0) .head)) ?_
    refine sp2 hT ?_
    refine at_case (fun hg50 => ?_) (fun hg50 => ?_)
    · have hg50 := eq_of_beq hg50
      refine sk3 ?_
      refine sp hT ?_
      refine nn ?_
      refine at_true rfl rfl ?_
      refine at_region ?_
      refine sp hT ?_
      refine nn ?_
      refine at_seq ?_
      refine sr ?_
      refine sp hT ?_
      refine ss (ldO hT (knows_own (off := 0) .head)) ?_
      refine sp2 hT ?_
      refine at_case (fun hg58 => ?_) (fun hg58 => ?_)
      · have hg58 := of_decide_eq_true hg58
        refine sk3 ?_
        refine sp2 hT ?_
        refine sk4 ?_
        refine sp2 hT ?_
        refine sk3 ?_
        refine sp2 hT ?_
        refine sk4 ?_
        refine sp hT ?_
        refine nn ?_
        refine at_true rfl rfl ?_
        refine sr ?_
        refine sp2 hT ?_
        refine nn ?_
        refine at_ret ?_
        refine r_then ?_
        refine r_block ?_
        refine r_then ?_
        refine r_then ?_
        refine r_block ?_
        refine r_then ?_
        have hr := hR.symm.trans (hinv5.fail hx0 (by first | exact step_bad (by show ¬ (x1.how = 1 ∨ x1.how = 2); omega) (by first | exact .inl (show x1.how < 3 by omega) | exact .inr (.inl (show 7 < x1.how by omega)) | exact .inr (.inr (.inl (nums_ne (by omega)))) | exact .inr (.inr (.inr (.inl (by assumption))))) | exact step_short (by show ¬ (x1.how = 1 ∨ x1.how = 2); omega) (by first | exact short2 (by first | exact .inl (by assumption) | exact .inr (by assumption)) (by omega) | exact short1 (by assumption) (by assumption) (by omega))))
        subst hr
        exact at_res2 () rfl (rv_tmp rfl) (rv_tmp rfl) (.cons kT1 .nil) trivial rfl
      have hg58 := Int.not_lt.1 (of_decide_eq_false hg58)
      refine sp hT ?_
      refine ss (ldO hT (knows_own (off := 0) .head)) ?_
      refine sp3 hT ?_
      refine at_case (fun hg63 => ?_) (fun hg63 => ?_)
      · have hg63 := of_decide_eq_true hg63
        refine sk4 ?_
        refine sp2 hT ?_
        refine sk3 ?_
        refine sp2 hT ?_
        refine sk4 ?_
        refine sp hT ?_
        refine nn ?_
        refine at_true rfl rfl ?_
        refine sr ?_
        refine sp2 hT ?_
        refine nn ?_
        refine at_ret ?_
        refine r_then ?_
        refine r_block ?_
        refine r_then ?_
        refine r_then ?_
        refine r_block ?_
        refine r_then ?_
        have hr := hR.symm.trans (hinv5.fail hx0 (by first | exact step_bad (by show ¬ (x1.how = 1 ∨ x1.how = 2); omega) (by first | exact .inl (show x1.how < 3 by omega) | exact .inr (.inl (show 7 < x1.how by omega)) | exact .inr (.inr (.inl (nums_ne (by omega)))) | exact .inr (.inr (.inr (.inl (by assumption))))) | exact step_short (by show ¬ (x1.how = 1 ∨ x1.how = 2); omega) (by first | exact short2 (by first | exact .inl (by assumption) | exact .inr (by assumption)) (by omega) | exact short1 (by assumption) (by assumption) (by omega))))
        subst hr
        exact at_res2 () rfl (rv_tmp rfl) (rv_tmp rfl) (.cons kT1 .nil) trivial rfl
      have hg63 := Int.not_lt.1 (of_decide_eq_false hg63)
      refine sp hT ?_
      refine ss (ldO hT (knows_own (off := 4) .head)) ?_
      refine sp4 hT ?_
      refine at_case (fun hg69 => ?_) (fun hg69 => ?_)
      · have hg69 := of_decide_eq_true hg69
        refine sk3 ?_
        refine sp2 hT ?_
        refine sk4 ?_
        refine sp hT ?_
        refine nn ?_
        refine at_true rfl rfl ?_
        refine sr ?_
        refine sp2 hT ?_
        refine nn ?_
        refine at_ret ?_
        refine r_then ?_
        refine r_block ?_
        refine r_then ?_
        refine r_then ?_
        refine r_block ?_
        refine r_then ?_
        have hr := hR.symm.trans (hinv5.fail hx0 (by first | exact step_bad (by show ¬ (x1.how = 1 ∨ x1.how = 2); omega) (by first | exact .inl (show x1.how < 3 by omega) | exact .inr (.inl (show 7 < x1.how by omega)) | exact .inr (.inr (.inl (nums_ne (by omega)))) | exact .inr (.inr (.inr (.inl (by assumption))))) | exact step_short (by show ¬ (x1.how = 1 ∨ x1.how = 2); omega) (by first | exact short2 (by first | exact .inl (by assumption) | exact .inr (by assumption)) (by omega) | exact short1 (by assumption) (by assumption) (by omega))))
        subst hr
        exact at_res2 () rfl (rv_tmp rfl) (rv_tmp rfl) (.cons kT1 .nil) trivial rfl
      have hg69 := Int.not_lt.1 (of_decide_eq_false hg69)
      refine sp hT ?_
      refine ss (ldO hT (knows_own (off := 3) .head)) ?_
      refine sp3 hT ?_
      refine at_case (fun hg74 => ?_) (fun hg74 => ?_)
      · have hg74 : x1.name ≠ ([] : Bs) := fun h => by rw [h] at hg74; first | (simp at hg74; done) | exact absurd hg74 (by decide)
        refine sk4 ?_
        refine sp hT ?_
        refine nn ?_
        refine at_true rfl rfl ?_
        refine sr ?_
        refine sp2 hT ?_
        refine nn ?_
        refine at_ret ?_
        refine r_then ?_
        refine r_block ?_
        refine r_then ?_
        refine r_then ?_
        refine r_block ?_
        refine r_then ?_
        have hr := hR.symm.trans (hinv5.fail hx0 (by first | exact step_bad (by show ¬ (x1.how = 1 ∨ x1.how = 2); omega) (by first | exact .inl (show x1.how < 3 by omega) | exact .inr (.inl (show 7 < x1.how by omega)) | exact .inr (.inr (.inl (nums_ne (by omega)))) | exact .inr (.inr (.inr (.inl (by assumption))))) | exact step_short (by show ¬ (x1.how = 1 ∨ x1.how = 2); omega) (by first | exact short2 (by first | exact .inl (by assumption) | exact .inr (by assumption)) (by omega) | exact short1 (by assumption) (by assumption) (by omega))))
        subst hr
        exact at_res2 () rfl (rv_tmp rfl) (rv_tmp rfl) (.cons kT1 .nil) trivial rfl
      have hg74 : x1.name = ([] : Bs) := eq_of_beq (not_f hg74)
      refine sp2 hT ?_
      refine at_int (z' := ((st.length : Nat) : Int)) (congrArg Nat.cast List.length_reverse) ?_
      refine sp3 hT ?_
      refine nn ?_
      refine at_cond rfl (fun hc79 => ?_) (fun hc79 => ?_)
      · have hc79 := of_decide_eq_true hc79
        refine sr ?_
        refine sp2 hT ?_
        refine nn ?_
        refine at_ret ?_
        refine r_then ?_
        refine r_block ?_
        refine r_then ?_
        refine r_then ?_
        refine r_block ?_
        refine r_then ?_
        have hr := hR.symm.trans (hinv5.fail hx0 (by first | exact step_bad (by show ¬ (x1.how = 1 ∨ x1.how = 2); omega) (by first | exact .inl (show x1.how < 3 by omega) | exact .inr (.inl (show 7 < x1.how by omega)) | exact .inr (.inr (.inl (nums_ne (by omega)))) | exact .inr (.inr (.inr (.inl (by assumption))))) | exact step_short (by show ¬ (x1.how = 1 ∨ x1.how = 2); omega) (by first | exact short2 (by first | exact .inl (by assumption) | exact .inr (by assumption)) (by omega) | exact short1 (by assumption) (by assumption) (by omega))))
        subst hr
        exact at_res2 () rfl (rv_tmp rfl) (rv_tmp rfl) (.cons kT1 .nil) trivial rfl
      have hc79 := Int.not_lt.1 (of_decide_eq_false hc79)
      refine at_skip ?_
      refine n_then ?_
      refine sr ?_
      refine sp hT ?_
      refine ss (ldN hT (knows_own (off := 0) .head)) ?_
      refine at_call (callFunc_enter Tryz.func67 rfl rfl) (sverb_spec b r1 r2 p G m c x1) rfl rfl rfl rfl rfl (.cons kT1 .nil) ⟨(Has.of mT1), (Has.of mT2), trivial⟩ fun _ => ?_
      refine sp4 hT ?_
      refine sp hT ?_
      refine nn ?_
      refine at_seq ?_
      refine sr ?_
      refine sp2 hT ?_
      refine nn ?_
      refine at_cond rfl (fun hc87 => ?_) (fun hc87 => ?_)
      · have hc87 : (verbS x1.it).1 = ([] : Bs) := eq_of_beq hc87
        refine sr ?_
        refine sp2 hT ?_
        refine nn ?_
        refine at_ret ?_
        refine r_then ?_
        refine r_block ?_
        refine r_then ?_
        refine r_then ?_
        refine r_block ?_
        refine r_then ?_
        have hr := hR.symm.trans (hinv5.fail hx0 (step_bad (by show ¬ (x1.how = 1 ∨ x1.how = 2); omega) (.inr (.inr (.inr (.inr (by assumption)))))))
        subst hr
        exact at_res2 () rfl (rv_tmp rfl) (rv_tmp rfl) (.cons .head .nil) trivial rfl
      have hc87 : (verbS x1.it).1 ≠ ([] : Bs) := fun h => absurd (beq_iff_eq.2 h) (by rw [show ((verbS x1.it).1 == ([] : Bs)) = false from hc87]; simp)
      refine at_skip ?_
      refine n_then ?_
      refine at_seq ?_
      obtain ⟨p1, q1, st, rfl⟩ := cons2_of (l := st) (by omega)
      have hk2 := hinv5.ok q1 (by simp)
      have hn2 := hinv5.nest q1 (by simp)
      have hk1 := hinv5.ok p1 (by simp)
      have hn1 := hinv5.nest p1 (by simp)
      simp only [List.map_cons, List.sum_cons] at hsum
      simp only [List.length_cons] at hstl
      have hw1 := wsz_count p1.words.list
      have hk1b := hk1.2
      have hw2 := wsz_count q1.words.list
      have hk2b := hk2.2
      rw [show rowsC (p1 :: q1 :: st) = wrowC p1 :: wrowC q1 :: rowsC st from rfl]
      refine at_region ?_
      refine sp3 hT ?_
      refine at_int (z' := (((st.length + 2) : Nat) : Int)) (by simp) ?_
      refine sp hT ?_
      refine at_int (z' := ((((st.length + 2) - 1) : Nat) : Int)) (wrapN (by omega) (by omega)) ?_
      refine ss (sti_index hT (k := ((st.length + 2) - 1)) (reads_row kT2) rfl rfl rfl rfl rfl rfl rfl (by first | omega | (simp; done) | (simp; omega))) ?_
      refine ss (sti_loadN hT (Reads.knows (reads_row kT2) (k := ((st.length + 2) - 1)) (x := p1) rev_two.1 0) rfl rfl rfl rfl rfl) ?_
      refine at_alloc rfl rfl rfl rfl sexpr_zero_show_piece rfl fun b14 => ?_
      refine sto hT .head ?_
      refine nn ?_
      refine sr ?_
      refine sp hT ?_
      refine ss (ldO hT (knows_own (off := 2) .head)) ?_
      refine sp2 hT ?_
      refine at_int (z' := (((p1.tokens + (verbS x1.it).2) : Nat) : Int)) (wrapN (by omega) (by omega)) ?_
      refine sp hT ?_
      refine sto hT .head ?_
      refine nn ?_
      refine sr ?_
      refine sp hT ?_
      refine sto hT .head ?_
      refine nn ?_
      refine sr ?_
      refine sp hT ?_
      refine at_one_str (m := (verbS x1.it).1) rfl rfl rfl rfl rfl fun b15 => ?_
      refine at_objrow (E := strE) (xs := [(verbS x1.it).1]) .head (by simp [maxLen]) ?_
      refine sp hT ?_
      refine ss (ldO hT (knows_own (off := 0) kT1)) ?_
      refine at_app_str .head (reads_row kT5) rfl rfl rfl rfl rfl rfl rfl (by simp; omega) fun A16 c17 => ?_
      refine sp hT ?_
      refine sto hT kT1 ?_
      refine nn ?_
      refine at_seq ?_
      refine sr ?_
      refine sp2 hT ?_
      refine at_bool (t' := true) (by decide) ?_
      refine nn ?_
      refine at_true rfl rfl ?_
      refine sr ?_
      refine sp3 hT ?_
      refine at_int (z' := (((st.length + 2) : Nat) : Int)) (by simp) ?_
      refine sp hT ?_
      refine at_int (z' := ((((st.length + 2) - 2) : Nat) : Int)) (wrapN (by omega) (by omega)) ?_
      refine ss (sti_index hT (k := ((st.length + 2) - 2)) (reads_row kT4) rfl rfl rfl rfl rfl rfl rfl (by first | omega | (simp; done) | (simp; omega))) ?_
      refine ss (sti_loadN hT (Reads.knows (reads_row kT4) (k := ((st.length + 2) - 2)) (x := q1) rev_two.2 0) rfl rfl rfl rfl rfl) ?_
      refine at_alloc rfl rfl rfl rfl sexpr_zero_show_piece rfl fun b18 => ?_
      refine sto hT .head ?_
      refine nn ?_
      refine at_seq ?_
      refine sr ?_
      refine sp hT ?_
      refine ss (ldO hT (knows_own (off := 3) .head)) ?_
      refine sp hT ?_
      refine nn ?_
      refine at_cond rfl (fun hc116 => ?_) (fun hc116 => ?_)
      · have hc116 := not_t hc116
        refine at_seq ?_
        have hq0 := List.length_pos_iff.2 hk2.1
        refine at_mixL 8 _ _ [(true, 0), (true, 1), (true, 2), (true, 3), (true, 4), (true, 5), (true, 6), (true, 7)] mixes (by decide +kernel) (.cons .head (.cons .head (.cons .head (.cons .head (.cons .head (.cons .head (.cons .head (.cons .head Sel.self)))))))) HasAll.self ?_
        refine atl_sti rfl rfl rfl rfl (sti_pure hT rfl) ?_
        refine atl_sti rfl rfl rfl rfl (ldO hT (knows_own (off := 0) .head)) ?_
        refine atl_sti rfl rfl rfl rfl (sti_pure hT rfl) ?_
        refine atl_sti rfl rfl rfl rfl (ldO hT (knows_own (off := 0) .head)) ?_
        obtain ⟨x19, hx20⟩ : ∃ x, q1.words.list[0]? = some x := ⟨_, List.getElem?_eq_getElem (by omega)⟩
        refine atl_sti rfl rfl rfl rfl (sti_index hT (k := 0) (reads_row kT7) rfl rfl rfl rfl rfl rfl rfl (by omega)) ?_
        refine atl_sti rfl rfl rfl rfl (sti_load1 hT (Reads.knows (reads_row kT7) (k := 0) (x := x19) hx20 0) rfl rfl rfl rfl rfl) ?_
        have hm0 := wsz_mem hx20
        refine atl_sti rfl rfl rfl rfl (sti_cat rfl rfl rfl (by first | omega | (simp; omega))) ?_
        refine atl_sti rfl rfl rfl rfl (sti_index hT (k := 0) (reads_row kT7) rfl rfl rfl rfl rfl rfl rfl (by omega)) ?_
        refine atl_last (o := _) rfl ?_
        refine at_store_elem hT (k := 0) (fo := 0) (y' := (([40] : Bs) ++ x19)) kT7 rfl rfl rfl rfl rfl rfl rfl rfl rfl hx20 rfl ?_
        refine atl_end ?_
        refine n_then ?_
        refine sr ?_
        refine sp hT ?_
        refine ss (ldO hT (knows_own (off := 0) kT1)) ?_
        refine sp hT ?_
        refine ss (ldO hT (knows_own (off := 0) kT1)) ?_
        refine sp hT ?_
        refine at_int (z' := ((q1.words.list.length : Nat) : Int)) (rfl) ?_
        refine sp hT ?_
        refine at_int (z' := (((q1.words.list.length - 1) : Nat) : Int)) (wrapN (by omega) (by omega)) ?_
        obtain ⟨x21, hx22⟩ : ∃ x, (q1.words.list.set 0 (([40] : Bs) ++ x19))[(q1.words.list.length - 1)]? = some x := ⟨_, List.getElem?_eq_getElem (by simp; omega)⟩
        refine ss (sti_index hT (k := (q1.words.list.length - 1)) (reads_row .head) rfl rfl rfl rfl rfl (by simp) rfl (by simp; omega)) ?_
        refine ss (sti_load1 hT (Reads.knows (reads_row .head) (k := (q1.words.list.length - 1)) (x := x21) hx22 0) rfl rfl rfl rfl rfl) ?_
        have hm1 := wsz_mem hx22
        have hm2 := wsz_set (v := [40] ++ x19) hx20
        simp only [List.length_append, List.length_cons, List.length_nil] at hm2
        refine ss (sti_cat rfl rfl rfl (by first | omega | (simp; omega))) ?_
        refine ss (sti_index hT (k := (q1.words.list.length - 1)) (reads_row .head) rfl rfl rfl rfl rfl (by simp) rfl (by simp; omega)) ?_
        refine at_store_elem hT (k := (q1.words.list.length - 1)) (fo := 0) (y' := (x21 ++ ([41] : Bs))) .head rfl rfl rfl rfl rfl rfl rfl rfl rfl hx22 rfl ?_
        refine nn ?_
        refine sr ?_
        refine sp hT ?_
        refine ss (ldO hT (knows_own (off := 1) kT1)) ?_
        refine sp hT ?_
        refine at_int (z' := (((q1.nest + 1) : Nat) : Int)) (wrapN (by omega) (by omega)) ?_
        refine sp hT ?_
        refine sto hT kT1 ?_
        refine nn ?_
        refine at_region ?_
        refine sp hT ?_
        refine ss (ldO hT (knows_own (off := 2) .head)) ?_
        refine sp hT ?_
        refine at_int (z' := (((q1.tokens + 2) : Nat) : Int)) (wrapN (by omega) (by omega)) ?_
        refine sp hT ?_
        refine sto hT .head ?_
        refine nn ?_
        refine at_seq ?_
        have hbr := brk_set hx20 hx22
        refine at_region ?_
        refine sp hT ?_
        refine ss (ldO hT (knows_own (off := 0) .head)) ?_
        refine sp hT ?_
        refine ss (ldO hT (knows_own (off := 0) kT2)) ?_
        refine at_app_str kT1 (reads_row kT3) rfl rfl rfl rfl rfl rfl rfl (by simp; omega) fun A23 c24 => ?_
        refine sp hT ?_
        refine sto hT kT2 ?_
        refine nn ?_
        refine sr ?_
        refine sp hT ?_
        refine ss (ldO hT (knows_own (off := 2) .head)) ?_
        refine sp hT ?_
        refine ss (ldO hT (knows_own (off := 2) kT2)) ?_
        refine sp hT ?_
        refine at_int (z' := ((((p1.tokens + (verbS x1.it).2) + (q1.tokens + 2)) : Nat) : Int)) (wrapN (by omega) (by omega)) ?_
        refine sp hT ?_
        refine sto hT .head ?_
        refine nn ?_
        refine at_region ?_
        refine sp hT ?_
        refine ss (ldO hT (knows_own (off := 1) .head)) ?_
        refine sp hT ?_
        refine ss (ldO hT (knows_own (off := 1) kT2)) ?_
        refine sp hT ?_
        refine at_int (z' := (((max p1.nest (q1.nest + 1)) : Nat) : Int)) (maxN _ _) ?_
        refine sp hT ?_
        refine sto hT .head ?_
        refine nn ?_
        refine at_mixT _ _ (.fl 0 (.fl 1 (.fl 2 (.fl 3 (.fl 4 (.fl 6 (.two 5 7 (.op 7 (.op 8 (.fl 9 .nil))) (.op 5 (.op 8 (.fl 9 .nil)))))))))) mixes (by decide +kernel) (.cons .head (.cons .head (.cons .head (.cons .head (.cons .head (.cons .head (.cons kT1 (Sel.skip Sel.self)))))))) HasAll.self ?_
        refine att_sti rfl rfl rfl rfl (sti_pure hT rfl) ?_
        refine att_sti rfl rfl rfl rfl (sti_pure hT rfl) ?_
        refine att_sti rfl rfl rfl rfl (sti_pure hT rfl) ?_
        refine at_int (z' := (((st.length + 2) : Nat) : Int)) (by simp) ?_
        refine att_sti rfl rfl rfl rfl (sti_pure hT rfl) ?_
        refine att_sti rfl rfl rfl rfl (sti_pure hT rfl) ?_
        refine at_int (z' := ((((st.length + 2) - 2) : Nat) : Int)) (wrapN (by omega) (by omega)) ?_
        refine att_sti rfl rfl rfl rfl (ldN hT (knows_own (off := 0) .head)) ?_
        refine att_two (o := _) (o' := _) rfl rfl ?_ ?_
        · refine at_trunc hT (k := ((st.length + 2) - 2)) kT6 rfl rfl rfl rfl rfl rfl rfl rfl rfl (by first | (simp; done) | (simp; omega)) ?_
          rw [rev_cut2]
          refine att_go (.cons kT1 (.cons kT1 (.cons kT1 (.cons kT1 (.cons kT1 (.cons kT1 (.cons kT1 (Sel.skip Sel.self)))))))) (HasAll.drop 0) ?_
          refine att_op (o := _) rfl ?_
          refine at_one_piece (m := (⟨⟨A23, c24, ((q1.words.list.set 0 (([40] : Bs) ++ x19)).set (q1.words.list.length - 1) (x21 ++ ([41] : Bs))) ++ ([(verbS x1.it).1] ++ p1.words.list)⟩, max p1.nest (q1.nest + 1), p1.tokens + (verbS x1.it).2 + (q1.tokens + 2), false⟩ : PieceV)) rfl rfl rfl rfl rfl fun b25 => ?_
          refine att_go (.cons kT2 (.cons kT2 (.cons kT2 (.cons kT2 (.cons kT2 (.cons kT2 (.cons kT2 (Sel.skip (Sel.skip Sel.self))))))))) (HasAll.drop 0) ?_
          refine att_op (o := _) rfl ?_
          refine at_app_piece kT1 (reads_obj .head rfl) rfl rfl rfl rfl rfl rfl rfl (by first | (simp only [List.length_singleton]; omega) | (simp; omega)) fun A26 c27 => ?_
          rw [← List.reverse_cons]
          refine att_go (.cons kT2 (.cons kT2 (.cons kT2 (.cons kT2 (.cons kT2 (.cons kT2 (.cons kT2 (Sel.skip (Sel.skip Sel.self))))))))) (HasAll.drop 0) ?_
          refine att_sti rfl rfl rfl rfl (sti_pure hT rfl) ?_
          refine att_nil ?_
          refine n_block ?_
          refine n_then ?_
          refine at_region ?_
          refine sp hT ?_
          refine at_int (z' := (((i + 1) : Nat) : Int)) (wrapN (by omega) (by omega)) ?_
          refine sp hT ?_
          refine nn ?_
          exact at_back (i + 1, (⟨⟨A23, c24, ((q1.words.list.set 0 (([40] : Bs) ++ x19)).set (q1.words.list.length - 1) (x21 ++ ([41] : Bs))) ++ ([(verbS x1.it).1] ++ p1.words.list)⟩, max p1.nest (q1.nest + 1), p1.tokens + (verbS x1.it).2 + (q1.tokens + 2), false⟩ : PieceV) :: st, _, _) (by dsimp only; omega) ⟨rfl, rfl, rfl, rfl, rfl, rfl, trivial⟩ (.cons kT6 (.cons .head (.cons kT2 (Sel.skip (Sel.skip (Sel.skip (Sel.skip (Sel.skip (Sel.skip Sel.self))))))))) ⟨Has.pure (hinv5.two hx0 (step_apply (by show 3 ≤ x1.how; omega) (by show x1.how ≤ 7; omega) (nums_nil (by omega)) (by assumption) (by assumption)) (twoT (by first | exact .inl (by assumption) | exact .inr (by assumption))) (by assumption) (by rw [leftS, if_neg (show ¬ q1.pc.plain = true by rw [show q1.pc.plain = false by assumption]; simp), hbr]; rfl) (by rw [leftS, if_neg (show ¬ q1.pc.plain = true by rw [show q1.pc.plain = false by assumption]; simp)]; rfl) (by rw [leftS, if_neg (show ¬ q1.pc.plain = true by rw [show q1.pc.plain = false by assumption]; simp)]; rfl)), Has.of mT1, Has.of mT2, Has.of mT3, Has.of mT4, Has.of mT5, trivial⟩
        refine at_one_piece (m := (⟨⟨A23, c24, ((q1.words.list.set 0 (([40] : Bs) ++ x19)).set (q1.words.list.length - 1) (x21 ++ ([41] : Bs))) ++ ([(verbS x1.it).1] ++ p1.words.list)⟩, max p1.nest (q1.nest + 1), p1.tokens + (verbS x1.it).2 + (q1.tokens + 2), false⟩ : PieceV)) rfl rfl rfl rfl rfl fun b28 => ?_
        refine att_go (.cons kT1 (.cons kT1 (.cons kT1 (.cons kT1 (.cons kT1 (.cons kT1 (.cons kT2 (Sel.skip (Sel.skip Sel.self))))))))) (HasAll.drop 0) ?_
        refine att_op (o := _) rfl ?_
        refine at_trunc hT (k := ((st.length + 2) - 2)) kT7 rfl rfl rfl rfl rfl rfl rfl rfl rfl (by first | (simp; done) | (simp; omega)) ?_
        rw [rev_cut2]
        refine att_go (.cons kT2 (.cons kT2 (.cons kT2 (.cons kT2 (.cons kT2 (.cons kT2 (.cons kT2 (Sel.skip (Sel.skip Sel.self))))))))) (HasAll.drop 0) ?_
        refine att_op (o := _) rfl ?_
        refine at_app_piece .head (reads_obj kT1 rfl) rfl rfl rfl rfl rfl rfl rfl (by first | (simp only [List.length_singleton]; omega) | (simp; omega)) fun A29 c30 => ?_
        rw [← List.reverse_cons]
        refine att_go (.cons kT2 (.cons kT2 (.cons kT2 (.cons kT2 (.cons kT2 (.cons kT2 (.cons kT2 (Sel.skip (Sel.skip Sel.self))))))))) (HasAll.drop 0) ?_
        refine att_sti rfl rfl rfl rfl (sti_pure hT rfl) ?_
        refine att_nil ?_
        refine n_block ?_
        refine n_then ?_
        refine at_region ?_
        refine sp hT ?_
        refine at_int (z' := (((i + 1) : Nat) : Int)) (wrapN (by omega) (by omega)) ?_
        refine sp hT ?_
        refine nn ?_
        exact at_back (i + 1, (⟨⟨A23, c24, ((q1.words.list.set 0 (([40] : Bs) ++ x19)).set (q1.words.list.length - 1) (x21 ++ ([41] : Bs))) ++ ([(verbS x1.it).1] ++ p1.words.list)⟩, max p1.nest (q1.nest + 1), p1.tokens + (verbS x1.it).2 + (q1.tokens + 2), false⟩ : PieceV) :: st, _, _) (by dsimp only; omega) ⟨rfl, rfl, rfl, rfl, rfl, rfl, trivial⟩ (.cons kT6 (.cons .head (.cons kT2 (Sel.skip (Sel.skip (Sel.skip (Sel.skip (Sel.skip (Sel.skip Sel.self))))))))) ⟨Has.pure (hinv5.two hx0 (step_apply (by show 3 ≤ x1.how; omega) (by show x1.how ≤ 7; omega) (nums_nil (by omega)) (by assumption) (by assumption)) (twoT (by first | exact .inl (by assumption) | exact .inr (by assumption))) (by assumption) (by rw [leftS, if_neg (show ¬ q1.pc.plain = true by rw [show q1.pc.plain = false by assumption]; simp), hbr]; rfl) (by rw [leftS, if_neg (show ¬ q1.pc.plain = true by rw [show q1.pc.plain = false by assumption]; simp)]; rfl) (by rw [leftS, if_neg (show ¬ q1.pc.plain = true by rw [show q1.pc.plain = false by assumption]; simp)]; rfl)), Has.of mT1, Has.of mT2, Has.of mT3, Has.of mT4, Has.of mT5, trivial⟩
      have hc116 := not_f hc116
      refine at_skip ?_
      refine n_then ?_
      refine sr ?_
      refine sp hT ?_
      refine ss (ldO hT (knows_own (off := 0) .head)) ?_
      refine sp hT ?_
      refine ss (ldO hT (knows_own (off := 0) kT1)) ?_
      refine at_app_str kT7 (reads_row kT2) rfl rfl rfl rfl rfl rfl rfl (by simp; omega) fun A31 c32 => ?_
      refine sp hT ?_
      refine sto hT kT2 ?_
      refine nn ?_
      refine sr ?_
      refine sp hT ?_
      refine ss (ldO hT (knows_own (off := 2) .head)) ?_
      refine sp hT ?_
      refine ss (ldO hT (knows_own (off := 2) kT2)) ?_
      refine sp hT ?_
      refine at_int (z' := ((((p1.tokens + (verbS x1.it).2) + q1.tokens) : Nat) : Int)) (wrapN (by omega) (by omega)) ?_
      refine sp hT ?_
      refine sto hT .head ?_
      refine nn ?_
      refine at_region ?_
      refine sp hT ?_
      refine ss (ldO hT (knows_own (off := 1) .head)) ?_
      refine sp hT ?_
      refine ss (ldO hT (knows_own (off := 1) kT2)) ?_
      refine sp hT ?_
      refine at_int (z' := (((max p1.nest q1.nest) : Nat) : Int)) (maxN _ _) ?_
      refine sp hT ?_
      refine sto hT .head ?_
      refine nn ?_
      refine at_mixT _ _ (.fl 0 (.fl 1 (.fl 2 (.fl 3 (.fl 4 (.fl 6 (.two 5 7 (.op 7 (.op 8 (.fl 9 .nil))) (.op 5 (.op 8 (.fl 9 .nil)))))))))) mixes (by decide +kernel) (.cons .head (.cons .head (.cons .head (.cons .head (.cons .head (.cons .head (.cons kT1 (Sel.skip Sel.self)))))))) HasAll.self ?_
      refine att_sti rfl rfl rfl rfl (sti_pure hT rfl) ?_
      refine att_sti rfl rfl rfl rfl (sti_pure hT rfl) ?_
      refine att_sti rfl rfl rfl rfl (sti_pure hT rfl) ?_
      refine at_int (z' := (((st.length + 2) : Nat) : Int)) (by simp) ?_
      refine att_sti rfl rfl rfl rfl (sti_pure hT rfl) ?_
      refine att_sti rfl rfl rfl rfl (sti_pure hT rfl) ?_
      refine at_int (z' := ((((st.length + 2) - 2) : Nat) : Int)) (wrapN (by omega) (by omega)) ?_
      refine att_sti rfl rfl rfl rfl (ldN hT (knows_own (off := 0) .head)) ?_
      refine att_two (o := _) (o' := _) rfl rfl ?_ ?_
      · refine at_trunc hT (k := ((st.length + 2) - 2)) kT6 rfl rfl rfl rfl rfl rfl rfl rfl rfl (by first | (simp; done) | (simp; omega)) ?_
        rw [rev_cut2]
        refine att_go (.cons kT1 (.cons kT1 (.cons kT1 (.cons kT1 (.cons kT1 (.cons kT1 (.cons kT1 (Sel.skip Sel.self)))))))) (HasAll.drop 0) ?_
        refine att_op (o := _) rfl ?_
        refine at_one_piece (m := (⟨⟨A31, c32, q1.words.list ++ ([(verbS x1.it).1] ++ p1.words.list)⟩, max p1.nest q1.nest, p1.tokens + (verbS x1.it).2 + q1.tokens, false⟩ : PieceV)) rfl rfl rfl rfl rfl fun b33 => ?_
        refine att_go (.cons kT2 (.cons kT2 (.cons kT2 (.cons kT2 (.cons kT2 (.cons kT2 (.cons kT2 (Sel.skip (Sel.skip Sel.self))))))))) (HasAll.drop 0) ?_
        refine att_op (o := _) rfl ?_
        refine at_app_piece kT1 (reads_obj .head rfl) rfl rfl rfl rfl rfl rfl rfl (by first | (simp only [List.length_singleton]; omega) | (simp; omega)) fun A34 c35 => ?_
        rw [← List.reverse_cons]
        refine att_go (.cons kT2 (.cons kT2 (.cons kT2 (.cons kT2 (.cons kT2 (.cons kT2 (.cons kT2 (Sel.skip (Sel.skip Sel.self))))))))) (HasAll.drop 0) ?_
        refine att_sti rfl rfl rfl rfl (sti_pure hT rfl) ?_
        refine att_nil ?_
        refine n_block ?_
        refine n_then ?_
        refine at_region ?_
        refine sp hT ?_
        refine at_int (z' := (((i + 1) : Nat) : Int)) (wrapN (by omega) (by omega)) ?_
        refine sp hT ?_
        refine nn ?_
        exact at_back (i + 1, (⟨⟨A31, c32, q1.words.list ++ ([(verbS x1.it).1] ++ p1.words.list)⟩, max p1.nest q1.nest, p1.tokens + (verbS x1.it).2 + q1.tokens, false⟩ : PieceV) :: st, _, _) (by dsimp only; omega) ⟨rfl, rfl, rfl, rfl, rfl, rfl, trivial⟩ (.cons kT6 (.cons .head (.cons kT2 (Sel.skip (Sel.skip (Sel.skip (Sel.skip (Sel.skip (Sel.skip Sel.self))))))))) ⟨Has.pure (hinv5.two hx0 (step_apply (by show 3 ≤ x1.how; omega) (by show x1.how ≤ 7; omega) (nums_nil (by omega)) (by assumption) (by assumption)) (twoT (by first | exact .inl (by assumption) | exact .inr (by assumption))) (by assumption) (by rw [leftS, if_pos (show q1.pc.plain = true by assumption)]; rfl) (by rw [leftS, if_pos (show q1.pc.plain = true by assumption)]; rfl) (by rw [leftS, if_pos (show q1.pc.plain = true by assumption)]; rfl)), Has.of mT1, Has.of mT2, Has.of mT3, Has.of mT4, Has.of mT5, trivial⟩
      refine at_one_piece (m := (⟨⟨A31, c32, q1.words.list ++ ([(verbS x1.it).1] ++ p1.words.list)⟩, max p1.nest q1.nest, p1.tokens + (verbS x1.it).2 + q1.tokens, false⟩ : PieceV)) rfl rfl rfl rfl rfl fun b36 => ?_
      refine att_go (.cons kT1 (.cons kT1 (.cons kT1 (.cons kT1 (.cons kT1 (.cons kT1 (.cons kT2 (Sel.skip (Sel.skip Sel.self))))))))) (HasAll.drop 0) ?_
      refine att_op (o := _) rfl ?_
      refine at_trunc hT (k := ((st.length + 2) - 2)) kT7 rfl rfl rfl rfl rfl rfl rfl rfl rfl (by first | (simp; done) | (simp; omega)) ?_
      rw [rev_cut2]
      refine att_go (.cons kT2 (.cons kT2 (.cons kT2 (.cons kT2 (.cons kT2 (.cons kT2 (.cons kT2 (Sel.skip (Sel.skip Sel.self))))))))) (HasAll.drop 0) ?_
      refine att_op (o := _) rfl ?_
      refine at_app_piece .head (reads_obj kT1 rfl) rfl rfl rfl rfl rfl rfl rfl (by first | (simp only [List.length_singleton]; omega) | (simp; omega)) fun A37 c38 => ?_
      rw [← List.reverse_cons]
      refine att_go (.cons kT2 (.cons kT2 (.cons kT2 (.cons kT2 (.cons kT2 (.cons kT2 (.cons kT2 (Sel.skip (Sel.skip Sel.self))))))))) (HasAll.drop 0) ?_
      refine att_sti rfl rfl rfl rfl (sti_pure hT rfl) ?_
      refine att_nil ?_
      refine n_block ?_
      refine n_then ?_
      refine at_region ?_
      refine sp hT ?_
      refine at_int (z' := (((i + 1) : Nat) : Int)) (wrapN (by omega) (by omega)) ?_
      refine sp hT ?_
      refine nn ?_
      exact at_back (i + 1, (⟨⟨A31, c32, q1.words.list ++ ([(verbS x1.it).1] ++ p1.words.list)⟩, max p1.nest q1.nest, p1.tokens + (verbS x1.it).2 + q1.tokens, false⟩ : PieceV) :: st, _, _) (by dsimp only; omega) ⟨rfl, rfl, rfl, rfl, rfl, rfl, trivial⟩ (.cons kT6 (.cons .head (.cons kT2 (Sel.skip (Sel.skip (Sel.skip (Sel.skip (Sel.skip (Sel.skip Sel.self))))))))) ⟨Has.pure (hinv5.two hx0 (step_apply (by show 3 ≤ x1.how; omega) (by show x1.how ≤ 7; omega) (nums_nil (by omega)) (by assumption) (by assumption)) (twoT (by first | exact .inl (by assumption) | exact .inr (by assumption))) (by assumption) (by rw [leftS, if_pos (show q1.pc.plain = true by assumption)]; rfl) (by rw [leftS, if_pos (show q1.pc.plain = true by assumption)]; rfl) (by rw [leftS, if_pos (show q1.pc.plain = true by assumption)]; rfl)), Has.of mT1, Has.of mT2, Has.of mT3, Has.of mT4, Has.of mT5, trivial⟩
    have hg50 := beq_eq_false_iff_ne.1 hg50
    refine sp hT ?_
    refine ss (ldO hT (knows_own (off := 0) .head)) ?_
    refine sp2 hT ?_
    refine nn ?_
    refine at_cond rfl (fun hc54 => ?_) (fun hc54 => ?_)
    · have hc54 := eq_of_beq hc54
      refine at_region ?_
      refine sp hT ?_
      refine nn ?_
      refine at_seq ?_
      refine sr ?_
      refine sp hT ?_
      refine ss (ldO hT (knows_own (off := 0) .head)) ?_
      refine sp2 hT ?_
      refine at_case (fun hg58 => ?_) (fun hg58 => ?_)
      · have hg58 := of_decide_eq_true hg58
        refine sk3 ?_
        refine sp2 hT ?_
        refine sk4 ?_
        refine sp2 hT ?_
        refine sk3 ?_
        refine sp2 hT ?_
        refine sk4 ?_
        refine sp hT ?_
        refine nn ?_
        refine at_true rfl rfl ?_
        refine sr ?_
        refine sp2 hT ?_
        refine nn ?_
        refine at_ret ?_
        refine r_then ?_
        refine r_block ?_
        refine r_then ?_
        refine r_then ?_
        refine r_block ?_
        refine r_then ?_
        have hr := hR.symm.trans (hinv5.fail hx0 (by first | exact step_bad (by show ¬ (x1.how = 1 ∨ x1.how = 2); omega) (by first | exact .inl (show x1.how < 3 by omega) | exact .inr (.inl (show 7 < x1.how by omega)) | exact .inr (.inr (.inl (nums_ne (by omega)))) | exact .inr (.inr (.inr (.inl (by assumption))))) | exact step_short (by show ¬ (x1.how = 1 ∨ x1.how = 2); omega) (by first | exact short2 (by first | exact .inl (by assumption) | exact .inr (by assumption)) (by omega) | exact short1 (by assumption) (by assumption) (by omega))))
        subst hr
        exact at_res2 () rfl (rv_tmp rfl) (rv_tmp rfl) (.cons kT1 .nil) trivial rfl
      have hg58 := Int.not_lt.1 (of_decide_eq_false hg58)
      refine sp hT ?_
      refine ss (ldO hT (knows_own (off := 0) .head)) ?_
      refine sp3 hT ?_
      refine at_case (fun hg63 => ?_) (fun hg63 => ?_)
      · have hg63 := of_decide_eq_true hg63
        refine sk4 ?_
        refine sp2 hT ?_
        refine sk3 ?_
        refine sp2 hT ?_
        refine sk4 ?_
        refine sp hT ?_
        refine nn ?_
        refine at_true rfl rfl ?_
        refine sr ?_
        refine sp2 hT ?_
        refine nn ?_
        refine at_ret ?_
        refine r_then ?_
        refine r_block ?_
        refine r_then ?_
        refine r_then ?_
        refine r_block ?_
        refine r_then ?_
        have hr := hR.symm.trans (hinv5.fail hx0 (by first | exact step_bad (by show ¬ (x1.how = 1 ∨ x1.how = 2); omega) (by first | exact .inl (show x1.how < 3 by omega) | exact .inr (.inl (show 7 < x1.how by omega)) | exact .inr (.inr (.inl (nums_ne (by omega)))) | exact .inr (.inr (.inr (.inl (by assumption))))) | exact step_short (by show ¬ (x1.how = 1 ∨ x1.how = 2); omega) (by first | exact short2 (by first | exact .inl (by assumption) | exact .inr (by assumption)) (by omega) | exact short1 (by assumption) (by assumption) (by omega))))
        subst hr
        exact at_res2 () rfl (rv_tmp rfl) (rv_tmp rfl) (.cons kT1 .nil) trivial rfl
      have hg63 := Int.not_lt.1 (of_decide_eq_false hg63)
      refine sp hT ?_
      refine ss (ldO hT (knows_own (off := 4) .head)) ?_
      refine sp4 hT ?_
      refine at_case (fun hg69 => ?_) (fun hg69 => ?_)
      · have hg69 := of_decide_eq_true hg69
        refine sk3 ?_
        refine sp2 hT ?_
        refine sk4 ?_
        refine sp hT ?_
        refine nn ?_
        refine at_true rfl rfl ?_
        refine sr ?_
        refine sp2 hT ?_
        refine nn ?_
        refine at_ret ?_
        refine r_then ?_
        refine r_block ?_
        refine r_then ?_
        refine r_then ?_
        refine r_block ?_
        refine r_then ?_
        have hr := hR.symm.trans (hinv5.fail hx0 (by first | exact step_bad (by show ¬ (x1.how = 1 ∨ x1.how = 2); omega) (by first | exact .inl (show x1.how < 3 by omega) | exact .inr (.inl (show 7 < x1.how by omega)) | exact .inr (.inr (.inl (nums_ne (by omega)))) | exact .inr (.inr (.inr (.inl (by assumption))))) | exact step_short (by show ¬ (x1.how = 1 ∨ x1.how = 2); omega) (by first | exact short2 (by first | exact .inl (by assumption) | exact .inr (by assumption)) (by omega) | exact short1 (by assumption) (by assumption) (by omega))))
        subst hr
        exact at_res2 () rfl (rv_tmp rfl) (rv_tmp rfl) (.cons kT1 .nil) trivial rfl
      have hg69 := Int.not_lt.1 (of_decide_eq_false hg69)
      refine sp hT ?_
      refine ss (ldO hT (knows_own (off := 3) .head)) ?_
      refine sp3 hT ?_
      refine at_case (fun hg74 => ?_) (fun hg74 => ?_)
      · have hg74 : x1.name ≠ ([] : Bs) := fun h => by rw [h] at hg74; first | (simp at hg74; done) | exact absurd hg74 (by decide)
        refine sk4 ?_
        refine sp hT ?_
        refine nn ?_
        refine at_true rfl rfl ?_
        refine sr ?_
        refine sp2 hT ?_
        refine nn ?_
        refine at_ret ?_
        refine r_then ?_
        refine r_block ?_
        refine r_then ?_
        refine r_then ?_
        refine r_block ?_
        refine r_then ?_
        have hr := hR.symm.trans (hinv5.fail hx0 (by first | exact step_bad (by show ¬ (x1.how = 1 ∨ x1.how = 2); omega) (by first | exact .inl (show x1.how < 3 by omega) | exact .inr (.inl (show 7 < x1.how by omega)) | exact .inr (.inr (.inl (nums_ne (by omega)))) | exact .inr (.inr (.inr (.inl (by assumption))))) | exact step_short (by show ¬ (x1.how = 1 ∨ x1.how = 2); omega) (by first | exact short2 (by first | exact .inl (by assumption) | exact .inr (by assumption)) (by omega) | exact short1 (by assumption) (by assumption) (by omega))))
        subst hr
        exact at_res2 () rfl (rv_tmp rfl) (rv_tmp rfl) (.cons kT1 .nil) trivial rfl
      have hg74 : x1.name = ([] : Bs) := eq_of_beq (not_f hg74)
      refine sp2 hT ?_
      refine at_int (z' := ((st.length : Nat) : Int)) (congrArg Nat.cast List.length_reverse) ?_
      refine sp3 hT ?_
      refine nn ?_
      refine at_cond rfl (fun hc79 => ?_) (fun hc79 => ?_)
      · have hc79 := of_decide_eq_true hc79
        refine sr ?_
        refine sp2 hT ?_
        refine nn ?_
        refine at_ret ?_
        refine r_then ?_
        refine r_block ?_
        refine r_then ?_
        refine r_then ?_
        refine r_block ?_
        refine r_then ?_
        have hr := hR.symm.trans (hinv5.fail hx0 (by first | exact step_bad (by show ¬ (x1.how = 1 ∨ x1.how = 2); omega) (by first | exact .inl (show x1.how < 3 by omega) | exact .inr (.inl (show 7 < x1.how by omega)) | exact .inr (.inr (.inl (nums_ne (by omega)))) | exact .inr (.inr (.inr (.inl (by assumption))))) | exact step_short (by show ¬ (x1.how = 1 ∨ x1.how = 2); omega) (by first | exact short2 (by first | exact .inl (by assumption) | exact .inr (by assumption)) (by omega) | exact short1 (by assumption) (by assumption) (by omega))))
        subst hr
        exact at_res2 () rfl (rv_tmp rfl) (rv_tmp rfl) (.cons kT1 .nil) trivial rfl
      have hc79 := Int.not_lt.1 (of_decide_eq_false hc79)
      refine at_skip ?_
      refine n_then ?_
      refine sr ?_
      refine sp hT ?_
      refine ss (ldN hT (knows_own (off := 0) .head)) ?_
      refine at_call (callFunc_enter Tryz.func67 rfl rfl) (sverb_spec b r1 r2 p G m c x1) rfl rfl rfl rfl rfl (.cons kT1 .nil) ⟨(Has.of mT1), (Has.of mT2), trivial⟩ fun _ => ?_
      refine sp4 hT ?_
      refine sp hT ?_
      refine nn ?_
      refine at_seq ?_
      refine sr ?_
      refine sp2 hT ?_
      refine nn ?_
      refine at_cond rfl (fun hc87 => ?_) (fun hc87 => ?_)
      · have hc87 : (verbS x1.it).1 = ([] : Bs) := eq_of_beq hc87
        refine sr ?_
        refine sp2 hT ?_
        refine nn ?_
        refine at_ret ?_
        refine r_then ?_
        refine r_block ?_
        refine r_then ?_
        refine r_then ?_
        refine r_block ?_
        refine r_then ?_
        have hr := hR.symm.trans (hinv5.fail hx0 (step_bad (by show ¬ (x1.how = 1 ∨ x1.how = 2); omega) (.inr (.inr (.inr (.inr (by assumption)))))))
        subst hr
        exact at_res2 () rfl (rv_tmp rfl) (rv_tmp rfl) (.cons .head .nil) trivial rfl
      have hc87 : (verbS x1.it).1 ≠ ([] : Bs) := fun h => absurd (beq_iff_eq.2 h) (by rw [show ((verbS x1.it).1 == ([] : Bs)) = false from hc87]; simp)
      refine at_skip ?_
      refine n_then ?_
      refine at_seq ?_
      obtain ⟨p1, q1, st, rfl⟩ := cons2_of (l := st) (by omega)
      have hk2 := hinv5.ok q1 (by simp)
      have hn2 := hinv5.nest q1 (by simp)
      have hk1 := hinv5.ok p1 (by simp)
      have hn1 := hinv5.nest p1 (by simp)
      simp only [List.map_cons, List.sum_cons] at hsum
      simp only [List.length_cons] at hstl
      have hw1 := wsz_count p1.words.list
      have hk1b := hk1.2
      have hw2 := wsz_count q1.words.list
      have hk2b := hk2.2
      rw [show rowsC (p1 :: q1 :: st) = wrowC p1 :: wrowC q1 :: rowsC st from rfl]
      refine at_region ?_
      refine sp3 hT ?_
      refine at_int (z' := (((st.length + 2) : Nat) : Int)) (by simp) ?_
      refine sp hT ?_
      refine at_int (z' := ((((st.length + 2) - 1) : Nat) : Int)) (wrapN (by omega) (by omega)) ?_
      refine ss (sti_index hT (k := ((st.length + 2) - 1)) (reads_row kT2) rfl rfl rfl rfl rfl rfl rfl (by first | omega | (simp; done) | (simp; omega))) ?_
      refine ss (sti_loadN hT (Reads.knows (reads_row kT2) (k := ((st.length + 2) - 1)) (x := p1) rev_two.1 0) rfl rfl rfl rfl rfl) ?_
      refine at_alloc rfl rfl rfl rfl sexpr_zero_show_piece rfl fun b39 => ?_
      refine sto hT .head ?_
      refine nn ?_
      refine sr ?_
      refine sp hT ?_
      refine ss (ldO hT (knows_own (off := 2) .head)) ?_
      refine sp2 hT ?_
      refine at_int (z' := (((p1.tokens + (verbS x1.it).2) : Nat) : Int)) (wrapN (by omega) (by omega)) ?_
      refine sp hT ?_
      refine sto hT .head ?_
      refine nn ?_
      refine sr ?_
      refine sp hT ?_
      refine sto hT .head ?_
      refine nn ?_
      refine sr ?_
      refine sp hT ?_
      refine at_one_str (m := (verbS x1.it).1) rfl rfl rfl rfl rfl fun b40 => ?_
      refine at_objrow (E := strE) (xs := [(verbS x1.it).1]) .head (by simp [maxLen]) ?_
      refine sp hT ?_
      refine ss (ldO hT (knows_own (off := 0) kT1)) ?_
      refine at_app_str .head (reads_row kT5) rfl rfl rfl rfl rfl rfl rfl (by simp; omega) fun A41 c42 => ?_
      refine sp hT ?_
      refine sto hT kT1 ?_
      refine nn ?_
      refine at_seq ?_
      refine sr ?_
      refine sp2 hT ?_
      refine at_bool (t' := true) (by decide) ?_
      refine nn ?_
      refine at_true rfl rfl ?_
      refine sr ?_
      refine sp3 hT ?_
      refine at_int (z' := (((st.length + 2) : Nat) : Int)) (by simp) ?_
      refine sp hT ?_
      refine at_int (z' := ((((st.length + 2) - 2) : Nat) : Int)) (wrapN (by omega) (by omega)) ?_
      refine ss (sti_index hT (k := ((st.length + 2) - 2)) (reads_row kT4) rfl rfl rfl rfl rfl rfl rfl (by first | omega | (simp; done) | (simp; omega))) ?_
      refine ss (sti_loadN hT (Reads.knows (reads_row kT4) (k := ((st.length + 2) - 2)) (x := q1) rev_two.2 0) rfl rfl rfl rfl rfl) ?_
      refine at_alloc rfl rfl rfl rfl sexpr_zero_show_piece rfl fun b43 => ?_
      refine sto hT .head ?_
      refine nn ?_
      refine at_seq ?_
      refine sr ?_
      refine sp hT ?_
      refine ss (ldO hT (knows_own (off := 3) .head)) ?_
      refine sp hT ?_
      refine nn ?_
      refine at_cond rfl (fun hc116 => ?_) (fun hc116 => ?_)
      · have hc116 := not_t hc116
        refine at_seq ?_
        have hq0 := List.length_pos_iff.2 hk2.1
        refine at_mixL 8 _ _ [(true, 0), (true, 1), (true, 2), (true, 3), (true, 4), (true, 5), (true, 6), (true, 7)] mixes (by decide +kernel) (.cons .head (.cons .head (.cons .head (.cons .head (.cons .head (.cons .head (.cons .head (.cons .head Sel.self)))))))) HasAll.self ?_
        refine atl_sti rfl rfl rfl rfl (sti_pure hT rfl) ?_
        refine atl_sti rfl rfl rfl rfl (ldO hT (knows_own (off := 0) .head)) ?_
        refine atl_sti rfl rfl rfl rfl (sti_pure hT rfl) ?_
        refine atl_sti rfl rfl rfl rfl (ldO hT (knows_own (off := 0) .head)) ?_
        obtain ⟨x44, hx45⟩ : ∃ x, q1.words.list[0]? = some x := ⟨_, List.getElem?_eq_getElem (by omega)⟩
        refine atl_sti rfl rfl rfl rfl (sti_index hT (k := 0) (reads_row kT7) rfl rfl rfl rfl rfl rfl rfl (by omega)) ?_
        refine atl_sti rfl rfl rfl rfl (sti_load1 hT (Reads.knows (reads_row kT7) (k := 0) (x := x44) hx45 0) rfl rfl rfl rfl rfl) ?_
        have hm0 := wsz_mem hx45
        refine atl_sti rfl rfl rfl rfl (sti_cat rfl rfl rfl (by first | omega | (simp; omega))) ?_
        refine atl_sti rfl rfl rfl rfl (sti_index hT (k := 0) (reads_row kT7) rfl rfl rfl rfl rfl rfl rfl (by omega)) ?_
        refine atl_last (o := _) rfl ?_
        refine at_store_elem hT (k := 0) (fo := 0) (y' := (([40] : Bs) ++ x44)) kT7 rfl rfl rfl rfl rfl rfl rfl rfl rfl hx45 rfl ?_
        refine atl_end ?_
        refine n_then ?_
        refine sr ?_
        refine sp hT ?_
        refine ss (ldO hT (knows_own (off := 0) kT1)) ?_
        refine sp hT ?_
        refine ss (ldO hT (knows_own (off := 0) kT1)) ?_
        refine sp hT ?_
        refine at_int (z' := ((q1.words.list.length : Nat) : Int)) (rfl) ?_
        refine sp hT ?_
        refine at_int (z' := (((q1.words.list.length - 1) : Nat) : Int)) (wrapN (by omega) (by omega)) ?_
        obtain ⟨x46, hx47⟩ : ∃ x, (q1.words.list.set 0 (([40] : Bs) ++ x44))[(q1.words.list.length - 1)]? = some x := ⟨_, List.getElem?_eq_getElem (by simp; omega)⟩
        refine ss (sti_index hT (k := (q1.words.list.length - 1)) (reads_row .head) rfl rfl rfl rfl rfl (by simp) rfl (by simp; omega)) ?_
        refine ss (sti_load1 hT (Reads.knows (reads_row .head) (k := (q1.words.list.length - 1)) (x := x46) hx47 0) rfl rfl rfl rfl rfl) ?_
        have hm1 := wsz_mem hx47
        have hm2 := wsz_set (v := [40] ++ x44) hx45
        simp only [List.length_append, List.length_cons, List.length_nil] at hm2
        refine ss (sti_cat rfl rfl rfl (by first | omega | (simp; omega))) ?_
        refine ss (sti_index hT (k := (q1.words.list.length - 1)) (reads_row .head) rfl rfl rfl rfl rfl (by simp) rfl (by simp; omega)) ?_
        refine at_store_elem hT (k := (q1.words.list.length - 1)) (fo := 0) (y' := (x46 ++ ([41] : Bs))) .head rfl rfl rfl rfl rfl rfl rfl rfl rfl hx47 rfl ?_
        refine nn ?_
        refine sr ?_
        refine sp hT ?_
        refine ss (ldO hT (knows_own (off := 1) kT1)) ?_
        refine sp hT ?_
        refine at_int (z' := (((q1.nest + 1) : Nat) : Int)) (wrapN (by omega) (by omega)) ?_
        refine sp hT ?_
        refine sto hT kT1 ?_
        refine nn ?_
        refine at_region ?_
        refine sp hT ?_
        refine ss (ldO hT (knows_own (off := 2) .head)) ?_
        refine sp hT ?_
        refine at_int (z' := (((q1.tokens + 2) : Nat) : Int)) (wrapN (by omega) (by omega)) ?_
        refine sp hT ?_
        refine sto hT .head ?_
        refine nn ?_
        refine at_seq ?_
        have hbr := brk_set hx45 hx47
        refine at_region ?_
        refine sp hT ?_
        refine ss (ldO hT (knows_own (off := 0) .head)) ?_
        refine sp hT ?_
        refine ss (ldO hT (knows_own (off := 0) kT2)) ?_
        refine at_app_str kT1 (reads_row kT3) rfl rfl rfl rfl rfl rfl rfl (by simp; omega) fun A48 c49 => ?_
        refine sp hT ?_
        refine sto hT kT2 ?_
        refine nn ?_
        refine sr ?_
        refine sp hT ?_
        refine ss (ldO hT (knows_own (off := 2) .head)) ?_
        refine sp hT ?_
        refine ss (ldO hT (knows_own (off := 2) kT2)) ?_
        refine sp hT ?_
        refine at_int (z' := ((((p1.tokens + (verbS x1.it).2) + (q1.tokens + 2)) : Nat) : Int)) (wrapN (by omega) (by omega)) ?_
        refine sp hT ?_
        refine sto hT .head ?_
        refine nn ?_
        refine at_region ?_
        refine sp hT ?_
        refine ss (ldO hT (knows_own (off := 1) .head)) ?_
        refine sp hT ?_
        refine ss (ldO hT (knows_own (off := 1) kT2)) ?_
        refine sp hT ?_
        refine at_int (z' := (((max p1.nest (q1.nest + 1)) : Nat) : Int)) (maxN _ _) ?_
        refine sp hT ?_
        refine sto hT .head ?_
        refine nn ?_
        refine at_mixT _ _ (.fl 0 (.fl 1 (.fl 2 (.fl 3 (.fl 4 (.fl 6 (.two 5 7 (.op 7 (.op 8 (.fl 9 .nil))) (.op 5 (.op 8 (.fl 9 .nil)))))))))) mixes (by decide +kernel) (.cons .head (.cons .head (.cons .head (.cons .head (.cons .head (.cons .head (.cons kT1 (Sel.skip Sel.self)))))))) HasAll.self ?_
        refine att_sti rfl rfl rfl rfl (sti_pure hT rfl) ?_
        refine att_sti rfl rfl rfl rfl (sti_pure hT rfl) ?_
        refine att_sti rfl rfl rfl rfl (sti_pure hT rfl) ?_
        refine at_int (z' := (((st.length + 2) : Nat) : Int)) (by simp) ?_
        refine att_sti rfl rfl rfl rfl (sti_pure hT rfl) ?_
        refine att_sti rfl rfl rfl rfl (sti_pure hT rfl) ?_
        refine at_int (z' := ((((st.length + 2) - 2) : Nat) : Int)) (wrapN (by omega) (by omega)) ?_
        refine att_sti rfl rfl rfl rfl (ldN hT (knows_own (off := 0) .head)) ?_
        refine att_two (o := _) (o' := _) rfl rfl ?_ ?_
        · refine at_trunc hT (k := ((st.length + 2) - 2)) kT6 rfl rfl rfl rfl rfl rfl rfl rfl rfl (by first | (simp; done) | (simp; omega)) ?_
          rw [rev_cut2]
          refine att_go (.cons kT1 (.cons kT1 (.cons kT1 (.cons kT1 (.cons kT1 (.cons kT1 (.cons kT1 (Sel.skip Sel.self)))))))) (HasAll.drop 0) ?_
          refine att_op (o := _) rfl ?_
          refine at_one_piece (m := (⟨⟨A48, c49, ((q1.words.list.set 0 (([40] : Bs) ++ x44)).set (q1.words.list.length - 1) (x46 ++ ([41] : Bs))) ++ ([(verbS x1.it).1] ++ p1.words.list)⟩, max p1.nest (q1.nest + 1), p1.tokens + (verbS x1.it).2 + (q1.tokens + 2), false⟩ : PieceV)) rfl rfl rfl rfl rfl fun b50 => ?_
          refine att_go (.cons kT2 (.cons kT2 (.cons kT2 (.cons kT2 (.cons kT2 (.cons kT2 (.cons kT2 (Sel.skip (Sel.skip Sel.self))))))))) (HasAll.drop 0) ?_
          refine att_op (o := _) rfl ?_
          refine at_app_piece kT1 (reads_obj .head rfl) rfl rfl rfl rfl rfl rfl rfl (by first | (simp only [List.length_singleton]; omega) | (simp; omega)) fun A51 c52 => ?_
          rw [← List.reverse_cons]
          refine att_go (.cons kT2 (.cons kT2 (.cons kT2 (.cons kT2 (.cons kT2 (.cons kT2 (.cons kT2 (Sel.skip (Sel.skip Sel.self))))))))) (HasAll.drop 0) ?_
          refine att_sti rfl rfl rfl rfl (sti_pure hT rfl) ?_
          refine att_nil ?_
          refine n_block ?_
          refine n_then ?_
          refine at_region ?_
          refine sp hT ?_
          refine at_int (z' := (((i + 1) : Nat) : Int)) (wrapN (by omega) (by omega)) ?_
          refine sp hT ?_
          refine nn ?_
          exact at_back (i + 1, (⟨⟨A48, c49, ((q1.words.list.set 0 (([40] : Bs) ++ x44)).set (q1.words.list.length - 1) (x46 ++ ([41] : Bs))) ++ ([(verbS x1.it).1] ++ p1.words.list)⟩, max p1.nest (q1.nest + 1), p1.tokens + (verbS x1.it).2 + (q1.tokens + 2), false⟩ : PieceV) :: st, _, _) (by dsimp only; omega) ⟨rfl, rfl, rfl, rfl, rfl, rfl, trivial⟩ (.cons kT6 (.cons .head (.cons kT2 (Sel.skip (Sel.skip (Sel.skip (Sel.skip (Sel.skip (Sel.skip Sel.self))))))))) ⟨Has.pure (hinv5.two hx0 (step_apply (by show 3 ≤ x1.how; omega) (by show x1.how ≤ 7; omega) (nums_nil (by omega)) (by assumption) (by assumption)) (twoT (by first | exact .inl (by assumption) | exact .inr (by assumption))) (by assumption) (by rw [leftS, if_neg (show ¬ q1.pc.plain = true by rw [show q1.pc.plain = false by assumption]; simp), hbr]; rfl) (by rw [leftS, if_neg (show ¬ q1.pc.plain = true by rw [show q1.pc.plain = false by assumption]; simp)]; rfl) (by rw [leftS, if_neg (show ¬ q1.pc.plain = true by rw [show q1.pc.plain = false by assumption]; simp)]; rfl)), Has.of mT1, Has.of mT2, Has.of mT3, Has.of mT4, Has.of mT5, trivial⟩
        refine at_one_piece (m := (⟨⟨A48, c49, ((q1.words.list.set 0 (([40] : Bs) ++ x44)).set (q1.words.list.length - 1) (x46 ++ ([41] : Bs))) ++ ([(verbS x1.it).1] ++ p1.words.list)⟩, max p1.nest (q1.nest + 1), p1.tokens + (verbS x1.it).2 + (q1.tokens + 2), false⟩ : PieceV)) rfl rfl rfl rfl rfl fun b53 => ?_
        refine att_go (.cons kT1 (.cons kT1 (.cons kT1 (.cons kT1 (.cons kT1 (.cons kT1 (.cons kT2 (Sel.skip (Sel.skip Sel.self))))))))) (HasAll.drop 0) ?_
        refine att_op (o := _) rfl ?_
        refine at_trunc hT (k := ((st.length + 2) - 2)) kT7 rfl rfl rfl rfl rfl rfl rfl rfl rfl (by first | (simp; done) | (simp; omega)) ?_
        rw [rev_cut2]
        refine att_go (.cons kT2 (.cons kT2 (.cons kT2 (.cons kT2 (.cons kT2 (.cons kT2 (.cons kT2 (Sel.skip (Sel.skip Sel.self))))))))) (HasAll.drop 0) ?_
        refine att_op (o := _) rfl ?_
        refine at_app_piece .head (reads_obj kT1 rfl) rfl rfl rfl rfl rfl rfl rfl (by first | (simp only [List.length_singleton]; omega) | (simp; omega)) fun A54 c55 => ?_
        rw [← List.reverse_cons]
        refine att_go (.cons kT2 (.cons kT2 (.cons kT2 (.cons kT2 (.cons kT2 (.cons kT2 (.cons kT2 (Sel.skip (Sel.skip Sel.self))))))))) (HasAll.drop 0) ?_
        refine att_sti rfl rfl rfl rfl (sti_pure hT rfl) ?_
        refine att_nil ?_
        refine n_block ?_
        refine n_then ?_
        refine at_region ?_
        refine sp hT ?_
        refine at_int (z' := (((i + 1) : Nat) : Int)) (wrapN (by omega) (by omega)) ?_
        refine sp hT ?_
        refine nn ?_
        exact at_back (i + 1, (⟨⟨A48, c49, ((q1.words.list.set 0 (([40] : Bs) ++ x44)).set (q1.words.list.length - 1) (x46 ++ ([41] : Bs))) ++ ([(verbS x1.it).1] ++ p1.words.list)⟩, max p1.nest (q1.nest + 1), p1.tokens + (verbS x1.it).2 + (q1.tokens + 2), false⟩ : PieceV) :: st, _, _) (by dsimp only; omega) ⟨rfl, rfl, rfl, rfl, rfl, rfl, trivial⟩ (.cons kT6 (.cons .head (.cons kT2 (Sel.skip (Sel.skip (Sel.skip (Sel.skip (Sel.skip (Sel.skip Sel.self))))))))) ⟨Has.pure (hinv5.two hx0 (step_apply (by show 3 ≤ x1.how; omega) (by show x1.how ≤ 7; omega) (nums_nil (by omega)) (by assumption) (by assumption)) (twoT (by first | exact .inl (by assumption) | exact .inr (by assumption))) (by assumption) (by rw [leftS, if_neg (show ¬ q1.pc.plain = true by rw [show q1.pc.plain = false by assumption]; simp), hbr]; rfl) (by rw [leftS, if_neg (show ¬ q1.pc.plain = true by rw [show q1.pc.plain = false by assumption]; simp)]; rfl) (by rw [leftS, if_neg (show ¬ q1.pc.plain = true by rw [show q1.pc.plain = false by assumption]; simp)]; rfl)), Has.of mT1, Has.of mT2, Has.of mT3, Has.of mT4, Has.of mT5, trivial⟩
      have hc116 := not_f hc116
      refine at_skip ?_
      refine n_then ?_
      refine sr ?_
      refine sp hT ?_
      refine ss (ldO hT (knows_own (off := 0) .head)) ?_
      refine sp hT ?_
      refine ss (ldO hT (knows_own (off := 0) kT1)) ?_
      refine at_app_str kT7 (reads_row kT2) rfl rfl rfl rfl rfl rfl rfl (by simp; omega) fun A56 c57 => ?_
      refine sp hT ?_
      refine sto hT kT2 ?_
      refine nn ?_
      refine sr ?_
      refine sp hT ?_
      refine ss (ldO hT (knows_own (off := 2) .head)) ?_
      refine sp hT ?_
      refine ss (ldO hT (knows_own (off := 2) kT2)) ?_
      refine sp hT ?_
      refine at_int (z' := ((((p1.tokens + (verbS x1.it).2) + q1.tokens) : Nat) : Int)) (wrapN (by omega) (by omega)) ?_
      refine sp hT ?_
      refine sto hT .head ?_
      refine nn ?_
      refine at_region ?_
      refine sp hT ?_
      refine ss (ldO hT (knows_own (off := 1) .head)) ?_
      refine sp hT ?_
      refine ss (ldO hT (knows_own (off := 1) kT2)) ?_
      refine sp hT ?_
      refine at_int (z' := (((max p1.nest q1.nest) : Nat) : Int)) (maxN _ _) ?_
      refine sp hT ?_
      refine sto hT .head ?_
      refine nn ?_
      refine at_mixT _ _ (.fl 0 (.fl 1 (.fl 2 (.fl 3 (.fl 4 (.fl 6 (.two 5 7 (.op 7 (.op 8 (.fl 9 .nil))) (.op 5 (.op 8 (.fl 9 .nil)))))))))) mixes (by decide +kernel) (.cons .head (.cons .head (.cons .head (.cons .head (.cons .head (.cons .head (.cons kT1 (Sel.skip Sel.self)))))))) HasAll.self ?_
      refine att_sti rfl rfl rfl rfl (sti_pure hT rfl) ?_
      refine att_sti rfl rfl rfl rfl (sti_pure hT rfl) ?_
      refine att_sti rfl rfl rfl rfl (sti_pure hT rfl) ?_
      refine at_int (z' := (((st.length + 2) : Nat) : Int)) (by simp) ?_
      refine att_sti rfl rfl rfl rfl (sti_pure hT rfl) ?_
      refine att_sti rfl rfl rfl rfl (sti_pure hT rfl) ?_
      refine at_int (z' := ((((st.length + 2) - 2) : Nat) : Int)) (wrapN (by omega) (by omega)) ?_
      refine att_sti rfl rfl rfl rfl (ldN hT (knows_own (off := 0) .head)) ?_
      refine att_two (o := _) (o' := _) rfl rfl ?_ ?_
      · refine at_trunc hT (k := ((st.length + 2) - 2)) kT6 rfl rfl rfl rfl rfl rfl rfl rfl rfl (by first | (simp; done) | (simp; omega)) ?_
        rw [rev_cut2]
        refine att_go (.cons kT1 (.cons kT1 (.cons kT1 (.cons kT1 (.cons kT1 (.cons kT1 (.cons kT1 (Sel.skip Sel.self)))))))) (HasAll.drop 0) ?_
        refine att_op (o := _) rfl ?_
        refine at_one_piece (m := (⟨⟨A56, c57, q1.words.list ++ ([(verbS x1.it).1] ++ p1.words.list)⟩, max p1.nest q1.nest, p1.tokens + (verbS x1.it).2 + q1.tokens, false⟩ : PieceV)) rfl rfl rfl rfl rfl fun b58 => ?_
        refine att_go (.cons kT2 (.cons kT2 (.cons kT2 (.cons kT2 (.cons kT2 (.cons kT2 (.cons kT2 (Sel.skip (Sel.skip Sel.self))))))))) (HasAll.drop 0) ?_
        refine att_op (o := _) rfl ?_
        refine at_app_piece kT1 (reads_obj .head rfl) rfl rfl rfl rfl rfl rfl rfl (by first | (simp only [List.length_singleton]; omega) | (simp; omega)) fun A59 c60 => ?_
        rw [← List.reverse_cons]
        refine att_go (.cons kT2 (.cons kT2 (.cons kT2 (.cons kT2 (.cons kT2 (.cons kT2 (.cons kT2 (Sel.skip (Sel.skip Sel.self))))))))) (HasAll.drop 0) ?_
        refine att_sti rfl rfl rfl rfl (sti_pure hT rfl) ?_
        refine att_nil ?_
        refine n_block ?_
        refine n_then ?_
        refine at_region ?_
        refine sp hT ?_
        refine at_int (z' := (((i + 1) : Nat) : Int)) (wrapN (by omega) (by omega)) ?_
        refine sp hT ?_
        refine nn ?_
        exact at_back (i + 1, (⟨⟨A56, c57, q1.words.list ++ ([(verbS x1.it).1] ++ p1.words.list)⟩, max p1.nest q1.nest, p1.tokens + (verbS x1.it).2 + q1.tokens, false⟩ : PieceV) :: st, _, _) (by dsimp only; omega) ⟨rfl, rfl, rfl, rfl, rfl, rfl, trivial⟩ (.cons kT6 (.cons .head (.cons kT2 (Sel.skip (Sel.skip (Sel.skip (Sel.skip (Sel.skip (Sel.skip Sel.self))))))))) ⟨Has.pure (hinv5.two hx0 (step_apply (by show 3 ≤ x1.how; omega) (by show x1.how ≤ 7; omega) (nums_nil (by omega)) (by assumption) (by assumption)) (twoT (by first | exact .inl (by assumption) | exact .inr (by assumption))) (by assumption) (by rw [leftS, if_pos (show q1.pc.plain = true by assumption)]; rfl) (by rw [leftS, if_pos (show q1.pc.plain = true by assumption)]; rfl) (by rw [leftS, if_pos (show q1.pc.plain = true by assumption)]; rfl)), Has.of mT1, Has.of mT2, Has.of mT3, Has.of mT4, Has.of mT5, trivial⟩
      refine at_one_piece (m := (⟨⟨A56, c57, q1.words.list ++ ([(verbS x1.it).1] ++ p1.words.list)⟩, max p1.nest q1.nest, p1.tokens + (verbS x1.it).2 + q1.tokens, false⟩ : PieceV)) rfl rfl rfl rfl rfl fun b61 => ?_
      refine att_go (.cons kT1 (.cons kT1 (.cons kT1 (.cons kT1 (.cons kT1 (.cons kT1 (.cons kT2 (Sel.skip (Sel.skip Sel.self))))))))) (HasAll.drop 0) ?_
      refine att_op (o := _) rfl ?_
      refine at_trunc hT (k := ((st.length + 2) - 2)) kT7 rfl rfl rfl rfl rfl rfl rfl rfl rfl (by first | (simp; done) | (simp; omega)) ?_
      rw [rev_cut2]
      refine att_go (.cons kT2 (.cons kT2 (.cons kT2 (.cons kT2 (.cons kT2 (.cons kT2 (.cons kT2 (Sel.skip (Sel.skip Sel.self))))))))) (HasAll.drop 0) ?_
      refine att_op (o := _) rfl ?_
      refine at_app_piece .head (reads_obj kT1 rfl) rfl rfl rfl rfl rfl rfl rfl (by first | (simp only [List.length_singleton]; omega) | (simp; omega)) fun A62 c63 => ?_
      rw [← List.reverse_cons]
      refine att_go (.cons kT2 (.cons kT2 (.cons kT2 (.cons kT2 (.cons kT2 (.cons kT2 (.cons kT2 (Sel.skip (Sel.skip Sel.self))))))))) (HasAll.drop 0) ?_
      refine att_sti rfl rfl rfl rfl (sti_pure hT rfl) ?_
      refine att_nil ?_
      refine n_block ?_
      refine n_then ?_
      refine at_region ?_
      refine sp hT ?_
      refine at_int (z' := (((i + 1) : Nat) : Int)) (wrapN (by omega) (by omega)) ?_
      refine sp hT ?_
      refine nn ?_
      exact at_back (i + 1, (⟨⟨A56, c57, q1.words.list ++ ([(verbS x1.it).1] ++ p1.words.list)⟩, max p1.nest q1.nest, p1.tokens + (verbS x1.it).2 + q1.tokens, false⟩ : PieceV) :: st, _, _) (by dsimp only; omega) ⟨rfl, rfl, rfl, rfl, rfl, rfl, trivial⟩ (.cons kT6 (.cons .head (.cons kT2 (Sel.skip (Sel.skip (Sel.skip (Sel.skip (Sel.skip (Sel.skip Sel.self))))))))) ⟨Has.pure (hinv5.two hx0 (step_apply (by show 3 ≤ x1.how; omega) (by show x1.how ≤ 7; omega) (nums_nil (by omega)) (by assumption) (by assumption)) (twoT (by first | exact .inl (by assumption) | exact .inr (by assumption))) (by assumption) (by rw [leftS, if_pos (show q1.pc.plain = true by assumption)]; rfl) (by rw [leftS, if_pos (show q1.pc.plain = true by assumption)]; rfl) (by rw [leftS, if_pos (show q1.pc.plain = true by assumption)]; rfl)), Has.of mT1, Has.of mT2, Has.of mT3, Has.of mT4, Has.of mT5, trivial⟩
    have hc54 := beq_eq_false_iff_ne.1 hc54
    refine at_skip ?_
    refine n_then ?_
    refine at_seq ?_
    refine sr ?_
    refine sp hT ?_
    refine ss (ldO hT (knows_own (off := 0) .head)) ?_
    refine sp2 hT ?_
    refine at_case (fun hg58 => ?_) (fun hg58 => ?_)
    · have hg58 := of_decide_eq_true hg58
      refine sk3 ?_
      refine sp2 hT ?_
      refine sk4 ?_
      refine sp2 hT ?_
      refine sk3 ?_
      refine sp2 hT ?_
      refine sk4 ?_
      refine sp hT ?_
      refine nn ?_
      refine at_true rfl rfl ?_
      refine sr ?_
      refine sp2 hT ?_
      refine nn ?_
      refine at_ret ?_
      refine r_then ?_
      refine r_block ?_
      refine r_then ?_
      refine r_then ?_
      refine r_block ?_
      refine r_then ?_
      have hr := hR.symm.trans (hinv5.fail hx0 (by first | exact step_bad (by show ¬ (x1.how = 1 ∨ x1.how = 2); omega) (by first | exact .inl (show x1.how < 3 by omega) | exact .inr (.inl (show 7 < x1.how by omega)) | exact .inr (.inr (.inl (nums_ne (by omega)))) | exact .inr (.inr (.inr (.inl (by assumption))))) | exact step_short (by show ¬ (x1.how = 1 ∨ x1.how = 2); omega) (by first | exact short2 (by first | exact .inl (by assumption) | exact .inr (by assumption)) (by omega) | exact short1 (by assumption) (by assumption) (by omega))))
      subst hr
      exact at_res2 () rfl (rv_tmp rfl) (rv_tmp rfl) (.cons kT1 .nil) trivial rfl
    have hg58 := Int.not_lt.1 (of_decide_eq_false hg58)
    refine sp hT ?_
    refine ss (ldO hT (knows_own (off := 0) .head)) ?_
    refine sp3 hT ?_
    refine at_case (fun hg63 => ?_) (fun hg63 => ?_)
    · have hg63 := of_decide_eq_true hg63
      refine sk4 ?_
      refine sp2 hT ?_
      refine sk3 ?_
      refine sp2 hT ?_
      refine sk4 ?_
      refine sp hT ?_
      refine nn ?_
      refine at_true rfl rfl ?_
      refine sr ?_
      refine sp2 hT ?_
      refine nn ?_
      refine at_ret ?_
      refine r_then ?_
      refine r_block ?_
      refine r_then ?_
      refine r_then ?_
      refine r_block ?_
      refine r_then ?_
      have hr := hR.symm.trans (hinv5.fail hx0 (by first | exact step_bad (by show ¬ (x1.how = 1 ∨ x1.how = 2); omega) (by first | exact .inl (show x1.how < 3 by omega) | exact .inr (.inl (show 7 < x1.how by omega)) | exact .inr (.inr (.inl (nums_ne (by omega)))) | exact .inr (.inr (.inr (.inl (by assumption))))) | exact step_short (by show ¬ (x1.how = 1 ∨ x1.how = 2); omega) (by first | exact short2 (by first | exact .inl (by assumption) | exact .inr (by assumption)) (by omega) | exact short1 (by assumption) (by assumption) (by omega))))
      subst hr
      exact at_res2 () rfl (rv_tmp rfl) (rv_tmp rfl) (.cons kT1 .nil) trivial rfl
    have hg63 := Int.not_lt.1 (of_decide_eq_false hg63)
    refine sp hT ?_
    refine ss (ldO hT (knows_own (off := 4) .head)) ?_
    refine sp4 hT ?_
    refine at_case (fun hg69 => ?_) (fun hg69 => ?_)
    · have hg69 := of_decide_eq_true hg69
      refine sk3 ?_
      refine sp2 hT ?_
      refine sk4 ?_
      refine sp hT ?_
      refine nn ?_
      refine at_true rfl rfl ?_
      refine sr ?_
      refine sp2 hT ?_
      refine nn ?_
      refine at_ret ?_
      refine r_then ?_
      refine r_block ?_
      refine r_then ?_
      refine r_then ?_
      refine r_block ?_
      refine r_then ?_
      have hr := hR.symm.trans (hinv5.fail hx0 (by first | exact step_bad (by show ¬ (x1.how = 1 ∨ x1.how = 2); omega) (by first | exact .inl (show x1.how < 3 by omega) | exact .inr (.inl (show 7 < x1.how by omega)) | exact .inr (.inr (.inl (nums_ne (by omega)))) | exact .inr (.inr (.inr (.inl (by assumption))))) | exact step_short (by show ¬ (x1.how = 1 ∨ x1.how = 2); omega) (by first | exact short2 (by first | exact .inl (by assumption) | exact .inr (by assumption)) (by omega) | exact short1 (by assumption) (by assumption) (by omega))))
      subst hr
      exact at_res2 () rfl (rv_tmp rfl) (rv_tmp rfl) (.cons kT1 .nil) trivial rfl
    have hg69 := Int.not_lt.1 (of_decide_eq_false hg69)
    refine sp hT ?_
    refine ss (ldO hT (knows_own (off := 3) .head)) ?_
    refine sp3 hT ?_
    refine at_case (fun hg74 => ?_) (fun hg74 => ?_)
    · have hg74 : x1.name ≠ ([] : Bs) := fun h => by rw [h] at hg74; first | (simp at hg74; done) | exact absurd hg74 (by decide)
      refine sk4 ?_
      refine sp hT ?_
      refine nn ?_
      refine at_true rfl rfl ?_
      refine sr ?_
      refine sp2 hT ?_
      refine nn ?_
      refine at_ret ?_
      refine r_then ?_
      refine r_block ?_
      refine r_then ?_
      refine r_then ?_
      refine r_block ?_
      refine r_then ?_
      have hr := hR.symm.trans (hinv5.fail hx0 (by first | exact step_bad (by show ¬ (x1.how = 1 ∨ x1.how = 2); omega) (by first | exact .inl (show x1.how < 3 by omega) | exact .inr (.inl (show 7 < x1.how by omega)) | exact .inr (.inr (.inl (nums_ne (by omega)))) | exact .inr (.inr (.inr (.inl (by assumption))))) | exact step_short (by show ¬ (x1.how = 1 ∨ x1.how = 2); omega) (by first | exact short2 (by first | exact .inl (by assumption) | exact .inr (by assumption)) (by omega) | exact short1 (by assumption) (by assumption) (by omega))))
      subst hr
      exact at_res2 () rfl (rv_tmp rfl) (rv_tmp rfl) (.cons kT1 .nil) trivial rfl
    have hg74 : x1.name = ([] : Bs) := eq_of_beq (not_f hg74)
    refine sp2 hT ?_
    refine at_int (z' := ((st.length : Nat) : Int)) (congrArg Nat.cast List.length_reverse) ?_
    refine sp3 hT ?_
    refine nn ?_
    refine at_cond rfl (fun hc79 => ?_) (fun hc79 => ?_)
    · have hc79 := of_decide_eq_true hc79
      refine sr ?_
      refine sp2 hT ?_
      refine nn ?_
      refine at_ret ?_
      refine r_then ?_
      refine r_block ?_
      refine r_then ?_
      refine r_then ?_
      refine r_block ?_
      refine r_then ?_
      have hr := hR.symm.trans (hinv5.fail hx0 (by first | exact step_bad (by show ¬ (x1.how = 1 ∨ x1.how = 2); omega) (by first | exact .inl (show x1.how < 3 by omega) | exact .inr (.inl (show 7 < x1.how by omega)) | exact .inr (.inr (.inl (nums_ne (by omega)))) | exact .inr (.inr (.inr (.inl (by assumption))))) | exact step_short (by show ¬ (x1.how = 1 ∨ x1.how = 2); omega) (by first | exact short2 (by first | exact .inl (by assumption) | exact .inr (by assumption)) (by omega) | exact short1 (by assumption) (by assumption) (by omega))))
      subst hr
      exact at_res2 () rfl (rv_tmp rfl) (rv_tmp rfl) (.cons kT1 .nil) trivial rfl
    have hc79 := Int.not_lt.1 (of_decide_eq_false hc79)
    refine at_skip ?_
    refine n_then ?_
    refine sr ?_
    refine sp hT ?_
    refine ss (ldN hT (knows_own (off := 0) .head)) ?_
    refine at_call (callFunc_enter Tryz.func67 rfl rfl) (sverb_spec b r1 r2 p G m c x1) rfl rfl rfl rfl rfl (.cons kT1 .nil) ⟨(Has.of mT1), (Has.of mT2), trivial⟩ fun _ => ?_
    refine sp4 hT ?_
    refine sp hT ?_
    refine nn ?_
    refine at_seq ?_
    refine sr ?_
    refine sp2 hT ?_
    refine nn ?_
    refine at_cond rfl (fun hc87 => ?_) (fun hc87 => ?_)
    · have hc87 : (verbS x1.it).1 = ([] : Bs) := eq_of_beq hc87
      refine sr ?_
      refine sp2 hT ?_
      refine nn ?_
      refine at_ret ?_
      refine r_then ?_
      refine r_block ?_
      refine r_then ?_
      refine r_then ?_
      refine r_block ?_
      refine r_then ?_
      have hr := hR.symm.trans (hinv5.fail hx0 (step_bad (by show ¬ (x1.how = 1 ∨ x1.how = 2); omega) (.inr (.inr (.inr (.inr (by assumption)))))))
      subst hr
      exact at_res2 () rfl (rv_tmp rfl) (rv_tmp rfl) (.cons .head .nil) trivial rfl
    have hc87 : (verbS x1.it).1 ≠ ([] : Bs) := fun h => absurd (beq_iff_eq.2 h) (by rw [show ((verbS x1.it).1 == ([] : Bs)) = false from hc87]; simp)
    refine at_skip ?_
    refine n_then ?_
    refine at_seq ?_
    obtain ⟨p1, st, rfl⟩ := cons_of (l := st) (by omega)
    have hk1 := hinv5.ok p1 (by simp)
    have hn1 := hinv5.nest p1 (by simp)
    simp only [List.map_cons, List.sum_cons] at hsum
    simp only [List.length_cons] at hstl
    have hw1 := wsz_count p1.words.list
    have hk1b := hk1.2
    rw [show rowsC (p1 :: st) = wrowC p1 :: rowsC st from rfl]
    refine at_region ?_
    refine sp3 hT ?_
    refine at_int (z' := (((st.length + 1) : Nat) : Int)) (by simp) ?_
    refine sp hT ?_
    refine at_int (z' := ((((st.length + 1) - 1) : Nat) : Int)) (wrapN (by omega) (by omega)) ?_
    refine ss (sti_index hT (k := ((st.length + 1) - 1)) (reads_row kT2) rfl rfl rfl rfl rfl rfl rfl (by first | omega | (simp; done) | (simp; omega))) ?_
    refine ss (sti_loadN hT (Reads.knows (reads_row kT2) (k := ((st.length + 1) - 1)) (x := p1) rev_one 0) rfl rfl rfl rfl rfl) ?_
    refine at_alloc rfl rfl rfl rfl sexpr_zero_show_piece rfl fun b64 => ?_
    refine sto hT .head ?_
    refine nn ?_
    refine sr ?_
    refine sp hT ?_
    refine ss (ldO hT (knows_own (off := 2) .head)) ?_
    refine sp2 hT ?_
    refine at_int (z' := (((p1.tokens + (verbS x1.it).2) : Nat) : Int)) (wrapN (by omega) (by omega)) ?_
    refine sp hT ?_
    refine sto hT .head ?_
    refine nn ?_
    refine sr ?_
    refine sp hT ?_
    refine sto hT .head ?_
    refine nn ?_
    refine sr ?_
    refine sp hT ?_
    refine at_one_str (m := (verbS x1.it).1) rfl rfl rfl rfl rfl fun b65 => ?_
    refine at_objrow (E := strE) (xs := [(verbS x1.it).1]) .head (by simp [maxLen]) ?_
    refine sp hT ?_
    refine ss (ldO hT (knows_own (off := 0) kT1)) ?_
    refine at_app_str .head (reads_row kT5) rfl rfl rfl rfl rfl rfl rfl (by simp; omega) fun A66 c67 => ?_
    refine sp hT ?_
    refine sto hT kT1 ?_
    refine nn ?_
    refine at_seq ?_
    refine sr ?_
    refine sp2 hT ?_
    refine at_bool (t' := false) (by decide) ?_
    refine nn ?_
    refine at_false rfl rfl ?_
    refine at_skip ?_
    refine n_then ?_
    refine at_mixT _ _ (.fl 0 (.fl 1 (.fl 2 (.fl 3 (.fl 4 (.fl 6 (.two 5 7 (.op 7 (.op 8 (.fl 9 .nil))) (.op 5 (.op 8 (.fl 9 .nil)))))))))) mixes (by decide +kernel) (.cons .head (.cons .head (.cons .head (.cons .head (.cons kT1 (Sel.skip Sel.self)))))) HasAll.self ?_
    refine att_sti rfl rfl rfl rfl (sti_pure hT rfl) ?_
    refine att_sti rfl rfl rfl rfl (sti_pure hT rfl) ?_
    refine att_sti rfl rfl rfl rfl (sti_pure hT rfl) ?_
    refine at_int (z' := (((st.length + 1) : Nat) : Int)) (by simp) ?_
    refine att_sti rfl rfl rfl rfl (sti_pure hT rfl) ?_
    refine att_sti rfl rfl rfl rfl (sti_pure hT rfl) ?_
    refine at_int (z' := ((((st.length + 1) - 1) : Nat) : Int)) (wrapN (by omega) (by omega)) ?_
    refine att_sti rfl rfl rfl rfl (ldN hT (knows_own (off := 0) .head)) ?_
    refine att_two (o := _) (o' := _) rfl rfl ?_ ?_
    · refine at_trunc hT (k := ((st.length + 1) - 1)) kT4 rfl rfl rfl rfl rfl rfl rfl rfl rfl (by first | (simp; done) | (simp; omega)) ?_
      rw [rev_cut1]
      refine att_go (.cons kT1 (.cons kT1 (.cons kT1 (.cons kT1 (.cons kT1 (Sel.skip Sel.self)))))) (HasAll.drop 0) ?_
      refine att_op (o := _) rfl ?_
      refine at_one_piece (m := (⟨⟨A66, c67, [(verbS x1.it).1] ++ p1.words.list⟩, p1.nest, p1.tokens + (verbS x1.it).2, false⟩ : PieceV)) rfl rfl rfl rfl rfl fun b68 => ?_
      refine att_go (.cons kT2 (.cons kT2 (.cons kT2 (.cons kT2 (.cons kT2 (Sel.skip (Sel.skip Sel.self))))))) (HasAll.drop 0) ?_
      refine att_op (o := _) rfl ?_
      refine at_app_piece kT1 (reads_obj .head rfl) rfl rfl rfl rfl rfl rfl rfl (by first | (simp only [List.length_singleton]; omega) | (simp; omega)) fun A69 c70 => ?_
      rw [← List.reverse_cons]
      refine att_go (.cons kT2 (.cons kT2 (.cons kT2 (.cons kT2 (.cons kT2 (Sel.skip (Sel.skip Sel.self))))))) (HasAll.drop 0) ?_
      refine att_sti rfl rfl rfl rfl (sti_pure hT rfl) ?_
      refine att_nil ?_
      refine n_block ?_
      refine n_then ?_
      refine at_region ?_
      refine sp hT ?_
      refine at_int (z' := (((i + 1) : Nat) : Int)) (wrapN (by omega) (by omega)) ?_
      refine sp hT ?_
      refine nn ?_
      exact at_back (i + 1, (⟨⟨A66, c67, [(verbS x1.it).1] ++ p1.words.list⟩, p1.nest, p1.tokens + (verbS x1.it).2, false⟩ : PieceV) :: st, _, _) (by dsimp only; omega) ⟨rfl, rfl, rfl, rfl, rfl, rfl, trivial⟩ (.cons kT4 (.cons .head (.cons kT2 (Sel.skip (Sel.skip (Sel.skip (Sel.skip Sel.self))))))) ⟨Has.pure (hinv5.one hx0 (step_apply (by show 3 ≤ x1.how; omega) (by show x1.how ≤ 7; omega) (nums_nil (by omega)) (by assumption) (by assumption)) (twoN (by assumption) (by assumption)) (by assumption)), Has.of mT1, Has.of mT2, Has.of mT3, Has.of mT4, Has.of mT5, trivial⟩
    refine at_one_piece (m := (⟨⟨A66, c67, [(verbS x1.it).1] ++ p1.words.list⟩, p1.nest, p1.tokens + (verbS x1.it).2, false⟩ : PieceV)) rfl rfl rfl rfl rfl fun b71 => ?_
    refine att_go (.cons kT1 (.cons kT1 (.cons kT1 (.cons kT1 (.cons kT2 (Sel.skip (Sel.skip Sel.self))))))) (HasAll.drop 0) ?_
    refine att_op (o := _) rfl ?_
    refine at_trunc hT (k := ((st.length + 1) - 1)) kT5 rfl rfl rfl rfl rfl rfl rfl rfl rfl (by first | (simp; done) | (simp; omega)) ?_
    rw [rev_cut1]
    refine att_go (.cons kT2 (.cons kT2 (.cons kT2 (.cons kT2 (.cons kT2 (Sel.skip (Sel.skip Sel.self))))))) (HasAll.drop 0) ?_
    refine att_op (o := _) rfl ?_
    refine at_app_piece .head (reads_obj kT1 rfl) rfl rfl rfl rfl rfl rfl rfl (by first | (simp only [List.length_singleton]; omega) | (simp; omega)) fun A72 c73 => ?_
    rw [← List.reverse_cons]
    refine att_go (.cons kT2 (.cons kT2 (.cons kT2 (.cons kT2 (.cons kT2 (Sel.skip (Sel.skip Sel.self))))))) (HasAll.drop 0) ?_
    refine att_sti rfl rfl rfl rfl (sti_pure hT rfl) ?_
    refine att_nil ?_
    refine n_block ?_
    refine n_then ?_
    refine at_region ?_
    refine sp hT ?_
    refine at_int (z' := (((i + 1) : Nat) : Int)) (wrapN (by omega) (by omega)) ?_
    refine sp hT ?_
    refine nn ?_
    exact at_back (i + 1, (⟨⟨A66, c67, [(verbS x1.it).1] ++ p1.words.list⟩, p1.nest, p1.tokens + (verbS x1.it).2, false⟩ : PieceV) :: st, _, _) (by dsimp only; omega) ⟨rfl, rfl, rfl, rfl, rfl, rfl, trivial⟩ (.cons kT4 (.cons .head (.cons kT2 (Sel.skip (Sel.skip (Sel.skip (Sel.skip Sel.self))))))) ⟨Has.pure (hinv5.one hx0 (step_apply (by show 3 ≤ x1.how; omega) (by show x1.how ≤ 7; omega) (nums_nil (by omega)) (by assumption) (by assumption)) (twoN (by assumption) (by assumption)) (by assumption)), Has.of mT1, Has.of mT2, Has.of mT3, Has.of mT4, Has.of mT5, trivial⟩
  have hc25 := Int.not_lt.1 (of_decide_eq_false hc25)
  refine at_exit ?_
  refine x_then ?_
  refine x_then ?_
  refine x_block ?_
  refine n_then ?_
  refine at_seq ?_
  refine sr ?_
  refine sp2 hT ?_
  refine at_int (z' := ((st.length : Nat) : Int)) (congrArg Nat.cast List.length_reverse) ?_
  refine sp2 hT ?_
  refine at_case (fun hg174 => ?_) (fun hg174 => ?_)
  · have hg174 := bne_iff_ne.1 hg174
    refine sk4 ?_
    refine sk2 ?_
    refine sp2 hT ?_
    refine sk4 ?_
    refine sk ?_
    refine sp hT ?_
    refine nn ?_
    refine at_true rfl rfl ?_
    refine sr ?_
    refine sp2 hT ?_
    refine nn ?_
    refine at_ret ?_
    refine r_then ?_
    have hr := hR.symm.trans ((hinv5.done (by rw [List.length_map]; omega) (by rw [List.length_map]; omega)).trans (not_one (by simp; omega)))
    subst hr
    exact at_res2 () rfl (rv_tmp rfl) (rv_tmp rfl) (.cons .head .nil) trivial rfl
  have hg174 := bne_eq_false_iff_eq.1 hg174
  obtain ⟨p, rfl⟩ := one_of (l := st) (by omega)
  simp only [List.map_cons, List.map_nil, List.sum_cons, List.sum_nil] at hsum
  rw [show rowsC [p] = [wrowC p] from rfl]
  refine sp hT ?_
  refine ss (sti_index hT (k := 0) (reads_row kT1) rfl rfl rfl rfl rfl rfl rfl (by simp)) ?_
  refine sp hT ?_
  refine ss (sti_load1 hT (Reads.knows (reads_row kT1) (k := 0) (x := p) rfl 2) rfl rfl rfl rfl rfl) ?_
  refine sp4 hT ?_
  refine at_case (fun hg182 => ?_) (fun hg182 => ?_)
  · have hg182 := of_decide_eq_true hg182
    refine sk4 ?_
    refine sk ?_
    refine sp hT ?_
    refine nn ?_
    refine at_true rfl rfl ?_
    refine sr ?_
    refine sp2 hT ?_
    refine nn ?_
    refine at_ret ?_
    refine r_then ?_
    have hr := hR.symm.trans ((hinv5.done (by rw [List.length_map]; omega) (by rw [List.length_map]; omega)).trans (if_pos (show most < p.tokens ∨ 32 < p.nest by omega)))
    subst hr
    exact at_res2 () rfl (rv_tmp rfl) (rv_tmp rfl) (.cons .head .nil) trivial rfl
  have hg182 := Int.not_lt.1 (of_decide_eq_false hg182)
  refine sp hT ?_
  refine ss (sti_index hT (k := 0) (reads_row kT1) rfl rfl rfl rfl rfl rfl rfl (by simp)) ?_
  refine sp hT ?_
  refine ss (sti_load1 hT (Reads.knows (reads_row kT1) (k := 0) (x := p) rfl 1) rfl rfl rfl rfl rfl) ?_
  refine sp2 hT ?_
  refine nn ?_
  refine at_cond rfl (fun hc188 => ?_) (fun hc188 => ?_)
  · have hc188 := of_decide_eq_true hc188
    refine sr ?_
    refine sp2 hT ?_
    refine nn ?_
    refine at_ret ?_
    refine r_then ?_
    have hr := hR.symm.trans ((hinv5.done (by rw [List.length_map]; omega) (by rw [List.length_map]; omega)).trans (if_pos (show most < p.tokens ∨ 32 < p.nest by omega)))
    subst hr
    exact at_res2 () rfl (rv_tmp rfl) (rv_tmp rfl) (.cons .head .nil) trivial rfl
  have hc188 := Int.not_lt.1 (of_decide_eq_false hc188)
  refine at_skip ?_
  refine n_then ?_
  refine sr ?_
  refine sp hT ?_
  refine ss (sti_index hT (k := 0) (reads_row kT1) rfl rfl rfl rfl rfl rfl rfl (by simp)) ?_
  refine sp hT ?_
  refine ss (sti_load1 hT (Reads.knows (reads_row kT1) (k := 0) (x := p) rfl 0) rfl rfl rfl rfl rfl) ?_
  refine at_cap kT2 fun hcap => ?_
  refine at_freeze kT2 ?_
  have hjl := join_len p.words.list
  have hok := hinv5.ok p (by simp)
  have hws := wsz_count p.words.list
  have hok2 := hok.2
  refine at_call (callFunc_enter Tryz.func68 rfl rfl) (join_spec _ _ _ hcap (by omega) (by omega)) rfl rfl rfl rfl rfl .nil ⟨(Has.of mT0), trivial⟩ fun _ => ?_
  refine sp2 hT ?_
  refine nn ?_
  refine at_ret ?_
  have hr := hR.symm.trans ((hinv5.done (by rw [List.length_map]; omega) (by rw [List.length_map]; omega)).trans (if_neg (show ¬ (most < p.tokens ∨ 32 < p.nest) by omega)))
  subst hr
  exact at_res2 () rfl (rv_tmp rfl) (rv_tmp rfl) (.cons .head .nil) trivial rfl

end Go.Proofs.YtngkedmndhmjcaaGreatDoor
