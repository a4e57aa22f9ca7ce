/- Texts of one proof, one behind the other: MixL, ExprA, ExprP, ExprB. -/
import Derived.Test.YtngkedmndhmjcaaGreatDoorM1
import Derived.Test.YtngkedmndhmjcaaGreatDoorM3
/- The engine: regions that draw their order and end in an operation that waits for all others: it may change what the others look at. -/
namespace Go.Proofs.YtngkedmndhmjcaaGreatDoor
open Go.RowKit

section
variable {P : Program} {ops : Array Oper} {md : Region.Mode} {C : World → Prop} {R : Array Bool → Act → World → Prop}

/-- whatever order is picked, up to the last operation -/
def wpAnyR (P : Program) (md : Region.Mode) (ops : Array Oper) (C : World → Prop) (R : Array Bool → Act → World → Prop) : Nat → Array Bool → Act → World → Prop
  | 0, listed, a, w => C w ∧ R listed a w
  | fuel + 1, listed, a, w => C w ∧ Region.ready md ops listed ≠ [] ∧ ∀ i ∈ Region.ready md ops listed, fOp P ops i (wpAnyR P md ops C R fuel (listed.setIfInBounds i true)) a w
theorem wpAnyR.cls : ∀ {fuel : Nat} {listed : Array Bool} {a : Act} {w : World}, wpAnyR P md ops C R fuel listed a w → C w
  | 0, _, _, _, h => h.1
  | _ + 1, _, _, _, h => h.1
theorem wpAny_of_R {Q : Exit → Act → World → Prop} (hR : ∀ listed a w, R listed a w → wpAny P md ops Q 1 listed a w) : ∀ (fuel : Nat) (listed : Array Bool) (a : Act) (w : World), wpAnyR P md ops C R fuel listed a w → wpAny P md ops Q (fuel + 1) listed a w
  | 0, _, _, _, h => hR _ _ _ h.2
  | fuel + 1, listed, a, w, h => by
    refine ⟨fun e => absurd e h.2.1, fun i hi => ?_⟩
    have hf := h.2.2 i hi
    unfold wpOp
    split
    · rename_i ho
      obtain ⟨_, oi, hoi, _⟩ := mem_ready.1 hi
      rw [ho] at hoi
      cases hoi
    · rename_i o ho
      have h1 := wpNm (hf o ho)
      split
      · rename_i hw
        simp only [hw, if_true] at h1
        exact .inl (wp_frame rfl (fun u w' h' => wpAny_of_R hR fuel _ _ _ h') (fun d w' h' => wpAny_of_R hR fuel _ _ _ h') h1)
      · rename_i hw
        simp only [hw] at h1
        exact wpAny_of_R hR fuel _ _ _ h1

/-- what an operation waits for is listed -/
def depsIn (md : Region.Mode) (ops : Array Oper) (listed : Array Bool) (l : Nat) : Prop := ∀ o, ops[l]? = some o → ∀ e ∈ o.after, Region.binds md e = true → listed.getD e.on false = true
/-- what is listed has what it waits for in the list -/
def Closed (md : Region.Mode) (ops : Array Oper) (listed : Array Bool) : Prop := ∀ j, listed.getD j false = true → depsIn md ops listed j
/-- l waits for i, directly or through others -/
def waitsN (md : Region.Mode) (ops : Array Oper) : Nat → Nat → Nat → Bool
  | 0, _, _ => false
  | n + 1, l, i => match ops[l]? with
    | some o => o.after.any fun e => Region.binds md e && (e.on == i || waitsN md ops n e.on i)
    | none => false
def waits (md : Region.Mode) (ops : Array Oper) (l i : Nat) : Bool := waitsN md ops 4 l i
theorem waitsN_in {listed : Array Bool} (hc : Closed md ops listed) : ∀ (n l i : Nat), waitsN md ops n l i = true → depsIn md ops listed l → listed.getD i false = true
  | 0, _, _, h, _ => by cases h
  | n + 1, l, i, h, hd => by
    unfold waitsN at h
    cases ho : ops[l]? with
    | none => rw [ho] at h; cases h
    | some o =>
      rw [ho] at h
      obtain ⟨e, he, hb⟩ := Array.any_eq_true'.1 h
      rw [Bool.and_eq_true, Bool.or_eq_true] at hb
      have h1 := hd o ho e he hb.1
      rcases hb.2 with h2 | h2
      · have h2 : e.on = i := by simpa using h2
        rw [← h2]
        exact h1
      · exact waitsN_in hc n e.on i h2 (hc _ h1)
theorem ready_deps {listed : Array Bool} {l : Nat} (h : l ∈ Region.ready md ops listed) : depsIn md ops listed l := fun o ho e he hb => by
  obtain ⟨_, o', ho', hall⟩ := mem_ready.1 h
  have : o = o' := Option.some.inj (ho.symm.trans ho')
  subst this
  exact hall e he hb
theorem waits_not {l i : Nat} {listed : Array Bool} (hc : Closed md ops listed) (h : waits md ops l i = true) (hi : listed.getD i false ≠ true) : l ∉ Region.ready md ops listed := fun hl => hi (waitsN_in hc 4 l i h (ready_deps hl))
theorem getD_set {listed : Array Bool} {j k : Nat} (h : listed.getD k false = true) : (listed.setIfInBounds j true).getD k false = true := by
  by_cases e : j = k
  · subst e
    rcases Nat.lt_or_ge j listed.size with h' | h'
    · simp [h']
    · simp [Array.getElem?_eq_none h'] at h
  · rw [getD_set_ne false e]
    exact h
theorem Closed.set {listed : Array Bool} (hc : Closed md ops listed) {j : Nat} (hj : j ∈ Region.ready md ops listed) : Closed md ops (listed.setIfInBounds j true) := fun k hk o ho e he hb => by
  by_cases e' : j = k
  · subst e'
    exact getD_set (ready_deps hj o ho e he hb)
  · rw [getD_set_ne false e'] at hk
    exact getD_set (hc k hk o ho e he hb)
theorem Closed.none {n : Nat} : Closed md ops (Array.replicate n false) := fun j hj => by
  simp at hj
  rcases Nat.lt_or_ge j n with h | h <;> simp [h] at hj

theorem wpAnyR_first {i l : Nat} {oi : Oper} {v : Value} (hi : ops[i]? = some oi) (hw : waits md ops l i = true) (hsel : ∀ (j : Nat) (o : Oper) cs b, ops[j]? = some o → o.op ≠ .select cs b) (hR : ∀ listed a w, R listed a w → Region.ready md ops listed = [l]) :
    ∀ (fuel : Nat) (listed : Array Bool) (a : Act) (w : World), Closed md ops listed →
      (∀ j oj, ops[j]? = some oj → j ≠ i → listed.getD j true = false → (∀ e ∈ oj.after, Region.binds md e = true → e.on ≠ i) → oi.apart ops oj = true) →
      i ∈ Region.ready md ops listed → Fl P ops C oi v a →
      wpAnyR P md ops C R fuel (listed.setIfInBounds i true) (a.put oi.dst v) w → wpAnyR P md ops C R (fuel + 1) listed a w := by
  have hun : ∀ {listed : Array Bool}, i ∈ Region.ready md ops listed → listed.getD i false ≠ true := fun {listed} hr e => by
    have h0 := (mem_ready.1 hr).1
    rcases Nat.lt_or_ge i listed.size with h' | h'
    · simp [h'] at h0 e; rw [h0] at e; cases e
    · simp [Array.getElem?_eq_none h'] at e
  intro fuel
  induction fuel with
  | zero =>
    intro listed a w hc _ hr hy H
    refine ⟨H.1, fun h => (by rw [h] at hr; cases hr), fun j hj => ?_⟩
    by_cases hji : j = i
    · subst hji; exact hy.fOp hi H.1 H
    · have h1 := ready_mono hj hji
      rw [hR _ _ _ H.2] at h1
      have h2 : j = l := by simpa using h1
      subst h2
      exact absurd hj (waits_not hc hw (hun hr))
  | succ fuel ih =>
    intro listed a w hc hfree hr hy H
    refine ⟨H.1, fun h => (by rw [h] at hr; cases hr), fun j hj => ?_⟩
    by_cases hji : j = i
    · subst hji; exact hy.fOp hi H.1 H
    · have h1 := H.2.2 j (ready_mono hj hji)
      obtain ⟨hjun, oj, hoj, hall⟩ := mem_ready.1 hj
      have hnot : ∀ e ∈ oj.after, Region.binds md e = true → e.on ≠ i := fun e he hb heq => by
        have h1 := hall e he hb
        rw [heq] at h1
        exact hun hr h1
      have h2 := fOp_put hoj (hfree j oj hoj hji hjun hnot) (fun cs b => hsel i oi cs b hi) (fun cs b => hsel j oj cs b hoj) hy h1
      have hfree' : ∀ k ok, ops[k]? = some ok → k ≠ i → (listed.setIfInBounds j true).getD k true = false →
          (∀ e ∈ ok.after, Region.binds md e = true → e.on ≠ i) → oi.apart ops ok = true := fun k ok hk hki hun hno => by
        refine hfree k ok hk hki ?_ hno
        by_cases hjk : j = k
        · subst hjk; exact hjun
        · rw [getD_set_ne true hjk] at hun; exact hun
      refine fOp_mono (fun a' w' h3 => ih (listed.setIfInBounds j true) a' w' (hc.set hj) hfree' (ready_mono hr (Ne.symm hji)) h3.1 ?_) h2
      rw [Array.setIfInBounds_comm _ _ hji]
      exact h3.2

/-- an order of one's own, ahead of the last operation l -/
def wpMixL (P : Program) (ops : Array Oper) (C : World → Prop) (Q : Exit → Act → World → Prop) (l : Nat) : List (Bool × Nat) → Act → World → Prop
  | [], a, w => fOp P ops l (Q .normal) a w
  | (true, k) :: r, a, w => ∃ o v, ops[k]? = some o ∧ Fl P ops C o v a ∧ wpMixL P ops C Q l r (a.put o.dst v) w
  | (false, k) :: r, a, w => fOp P ops k (fun a w => C w ∧ wpMixL P ops C Q l r a w) a w
def mixLB (md : Region.Mode) (ops : Array Oper) (l : Nat) : List (Bool × Nat) → Array Bool → Bool
  | [], listed => (Region.ready md ops listed == [l]) && (Region.ready md ops (listed.setIfInBounds l true)).isEmpty
  | (true, k) :: r, listed => (Region.ready md ops listed).contains k && Region.free md ops listed k && waits md ops l k && mixLB md ops l r (listed.setIfInBounds k true)
  | (false, k) :: r, listed => (Region.ready md ops listed == [k]) && mixLB md ops l r (listed.setIfInBounds k true)
def EndL (P : Program) (md : Region.Mode) (ops : Array Oper) (Q : Exit → Act → World → Prop) (l : Nat) (listed : Array Bool) (a : Act) (w : World) : Prop :=
  Region.ready md ops listed = [l] ∧ Region.ready md ops (listed.setIfInBounds l true) = [] ∧ fOp P ops l (Q .normal) a w
theorem wpAnyR_mix {Q : Exit → Act → World → Prop} {l : Nat} (hs : Region.noSelect ops = true) : ∀ (od : List (Bool × Nat)) (listed : Array Bool) (a : Act) (w : World), Closed md ops listed → mixLB md ops l od listed = true → C w → wpMixL P ops C Q l od a w → wpAnyR P md ops C (EndL P md ops Q l) od.length listed a w
  | [], listed, a, w, _, hB, hC, h => by
    simp only [mixLB, Bool.and_eq_true, beq_iff_eq] at hB
    exact ⟨hC, hB.1, by simpa using hB.2, h⟩
  | (true, k) :: r, listed, a, w, hc, hB, hC, h => by
    simp only [mixLB, Bool.and_eq_true] at hB
    obtain ⟨o, v, ho, hy, hK⟩ := h
    exact wpAnyR_first ho hB.1.2 (Region.noSelect_spec hs) (fun _ _ _ h => h.1) r.length listed a w hc (Region.free_spec ho hB.1.1.2) (by simpa using hB.1.1.1) hy (wpAnyR_mix hs r _ _ _ (hc.set (by simpa using hB.1.1.1)) hB.2 hC hK)
  | (false, k) :: r, listed, a, w, hc, hB, hC, h => by
    simp only [mixLB, Bool.and_eq_true, beq_iff_eq] at hB
    refine ⟨hC, fun h0 => (by rw [hB.1] at h0; cases h0), fun i hi => ?_⟩
    rw [hB.1] at hi
    have : i = k := by simpa using hi
    subst this
    exact fOp_mono (fun a' w' h' => wpAnyR_mix hs r _ _ _ (hc.set (by rw [hB.1]; simp)) hB.2 h'.1 h'.2) h
theorem end_any {Q : Exit → Act → World → Prop} {l : Nat} (listed : Array Bool) (a : Act) (w : World) (h : EndL P md ops Q l listed a w) : wpAny P md ops Q 1 listed a w := by
  refine ⟨fun e => (by rw [h.1] at e; cases e), fun i hi => ?_⟩
  rw [h.1] at hi
  have : i = l := by simpa using hi
  subst this
  have hf := h.2.2
  unfold wpOp
  split
  · rename_i ho
    have hl : i ∈ Region.ready md ops listed := by rw [h.1]; simp
    obtain ⟨_, oi, hoi, _⟩ := mem_ready.1 hl
    rw [ho] at hoi
    cases hoi
  · rename_i o ho
    have h1 := wpNm (hf o ho)
    split
    · rename_i hw
      simp only [hw, if_true] at h1
      exact .inl (wp_frame rfl (fun u w' h' => ⟨h.2.1, h'⟩) (fun d w' h' => ⟨h.2.1, h'⟩) h1)
    · rename_i hw
      simp only [hw] at h1
      exact ⟨h.2.1, h1⟩
def mixLOk (l : Nat) (od : List (Bool × Nat)) (ops : Array Oper) : Bool := Region.noSelect ops && Nat.beq (od.length + 1) ops.size && mixLB .any ops l od (Array.replicate ops.size false)
end

section
variable {P : Program} {β : Base} {n : Nat} {Γ : Env} {H : List Chunk} {F : List Fact} {Q : Exit → Act → World → Prop} {Hk : List Chunk} {F0 : List Fact} {ops : Array Oper}
/-- a region that draws its order, walked in an order of one's own; the last operation waits for all others -/
theorem at_mixL {id : Nat} {l : List Oper} (last : Nat) (Hk : List Chunk) (F0 : List Fact) (od : List (Bool × Nat)) (hm : P.follows .mixedOrders = true) (hB : mixLOk last od l.toArray = true) (hH : Sel H Hk) (hF : HasAll F F0)
    (h : At β n Γ H F (wpMixL P l.toArray (StF β Hk F0) Q last od)) : At β n Γ H F ((Code.region id l.toArray true).wp P Q) := fun a w S f s k => by
  simp only [mixLOk, Bool.and_eq_true] at hB
  have hw := StF.drew ⟨S, s, k⟩
  obtain ⟨S', s', k'⟩ := hw
  refine wp_region_any hm ?_
  have h1 := wpAnyR_mix (P := P) (md := .any) (C := StF β Hk F0) (Q := Q) hB.1.1 od (Array.replicate l.toArray.size false) a _ Closed.none hB.2 (StF.sel hH hF ⟨S', s', k'⟩) (h a _ S' f s' k')
  have h2 := wpAny_of_R (Q := Q) end_any _ _ _ _ h1
  rwa [Nat.eq_of_beq_eq_true hB.1.2] at h2
theorem atl_sti {r : List (Bool × Nat)} {o : Oper} {l k d : Nat} {v : Value} (hk : ops[k]? = some o) (hw : want ops Γ o = some true) (hd : o.dst = some d) (hn : Nat.blt d n = true) (h : Sti P β n Γ Hk F0 o v)
    (K : At β n ((d, v) :: Γ) H F (wpMixL P ops (StF β Hk F0) Q l r)) : At β n Γ H F (wpMixL P ops (StF β Hk F0) Q l ((true, k) :: r)) := fun a w S f s hF => by
  refine ⟨o, v, hk, .inl ⟨f.want hw, fun w' ⟨S', s', k'⟩ => h a w' S' f s' k'⟩, ?_⟩
  rw [hd]
  exact K _ _ S (f.put (by simpa [Nat.blt_eq] using hn) v) s hF
theorem atl_op {r : List (Bool × Nat)} {o : Oper} {l k : Nat} {C : World → Prop} (hk : ops[k]? = some o) (h : At β n Γ H F (wpList P ops (Nm fun a w => C w ∧ wpMixL P ops C Q l r a w) [o])) : At β n Γ H F (wpMixL P ops C Q l ((false, k) :: r)) := fun a w S f s hF o' ho' => by
  have : o' = o := Option.some.inj (ho'.symm.trans hk)
  subst this
  exact h a w S f s hF
theorem atl_go {r : List (Bool × Nat)} {l : Nat} (hH : Sel H Hk) (hF : HasAll F F0) (h : At β n Γ H F (wpMixL P ops (StF β Hk F0) Q l r)) : At β n Γ H F (wpList P ops (Nm fun a w => StF β Hk F0 w ∧ wpMixL P ops (StF β Hk F0) Q l r a w) []) := fun a w S f s k =>
  ⟨rfl, StF.sel hH hF ⟨S, s, k⟩, h a w S f s k⟩
theorem atl_last {o : Oper} {l : Nat} {C : World → Prop} (hk : ops[l]? = some o) (h : At β n Γ H F (wpList P ops (Nm (Q .normal)) [o])) : At β n Γ H F (wpMixL P ops C Q l []) := fun a w S f s hF o' ho' => by
  have : o' = o := Option.some.inj (ho'.symm.trans hk)
  subst this
  exact h a w S f s hF
theorem atl_end {K : Act → World → Prop} (h : At β n Γ H F K) : At β n Γ H F (wpList P ops (Nm K) []) := fun a w S f s k => ⟨rfl, h a w S f s k⟩
end
end Go.Proofs.YtngkedmndhmjcaaGreatDoor
/- Walks of the closures in parse.line.expr. (Printed by wip/gen/parse.py.) -/
namespace Go.Proofs.YtngkedmndhmjcaaGreatDoor
open Go.RowKit

/-- what is still to be done: a bracket, or an item (in the box b) -/
abbrev Todo := Option (Nat × ItemV)
def fnV (b4 : Nat) : Todo → Value
  | none => .nilFunc
  | some x => .func (.func 56) #[] #[.pointer (some ⟨b4, 0, none⟩), .pointer (some ⟨x.1, 0, none⟩)]
def fnE (b4 : Nat) : Flat Todo where
  size := 1
  cells := fun x => [fnV b4 x]
  len := fun _ => rfl
  one := fun x u hu => by
    simp at hu
    subst hu
    cases x <;> rfl
  pos := by decide
theorem fnInfo : ∃ i : TypeInfo, Tryz.prog.info? 1 = some i ∧ i.zero = some .nilFunc ∧ i.size = 1 ∧ i.bytes = 8 := by
  have h : (Tryz.prog.info? 1).map (fun i => (i.zero, i.size, i.bytes)) = some (some .nilFunc, 1, 8) := by kernel_rfl
  cases hi : Tryz.prog.info? 1 with
  | none => simp [hi] at h
  | some i => simp [hi] at h; exact ⟨i, rfl, h.1, h.2.1, h.2.2⟩
section
variable {β : Base} {n : Nat} {Γ : Env} {H : List Chunk} {F : List Fact} {Q : Exit → Act → World → Prop} {ops : Array Oper} {rest : List Oper} {o : Oper} {d : Nat}
theorem at_one_fn {b4 : Nat} {x : Operand} {m : Todo} (hw : want ops Γ o = some true) (ho : o.op = .buildSlice 102 1 #[(0, x)]) (hd : o.dst = some d) (hn : Nat.blt d n = true)
    (hx : Γ.ev x = some (fnV b4 m)) (k : ∀ b, At β n ((d, .slice (some ⟨b, 0, none⟩) 1 1) :: Γ) (.obj b (.cells ((fnE b4).all [m]).toArray 1) :: H) F (wpList Tryz.prog ops Q rest)) : At β n Γ H F (wpList Tryz.prog ops Q (o :: rest)) := by
  obtain ⟨i, hi, hz, hs, _⟩ := fnInfo
  refine at_build1 hw ho hd hn hx Tryz.underlying102 hi hz (by omega) (by omega) ?_ k
  rw [hs]
  cases m <;> kernel_rfl
theorem at_app_fn {b4 : Nat} {x y : Operand} {c q : Nat} {v : Value} {A : Option Addr} {xs ys : List Todo} {H' : List Chunk} (hH : Take H ((fnE b4).row v 1 xs) H') (hr : Reads β H F (fnE b4) A ys) (hg : o.guard = none)
    (ho : o.op = .call { callee := .builtin .append, args := #[x, y], argTypes := #[102, 102] }) (hd : o.dst = some d) (hn : Nat.blt d n = true)
    (hx : Γ.ev x = some v) (hy : Γ.ev y = some (.slice A q c)) (hq : q = ys.length) (hl : xs.length + ys.length ≤ 10000000)
    (k : ∀ A' cap', At β n ((d, .slice A' (xs ++ ys).length cap') :: Γ) ((fnE b4).row (.slice A' (xs ++ ys).length cap') 1 (xs ++ ys) :: H') F (wpList Tryz.prog ops Q rest)) : At β n Γ H F (wpList Tryz.prog ops Q (o :: rest)) := by
  obtain ⟨i, hi, hz, hs, hb⟩ := fnInfo
  exact at_append_all hH hr hg ho hd hn Tryz.underlying102 hi hz hs hb rfl hx hy hq (by omega) (by decide) k
end
/-- the boxes of what is still to be done -/
def todoF (st : List Todo) : Fact := Fact.each st fun o => match o with
  | none => Fact.true
  | some x => Fact.cells x.1 0 (itemE.cells x.2)
/-- what is done at a bracket's end: the items in their order, and what is left (the last one ahead) -/
def finP : List Todo → List ItemV × List Todo
  | some x :: r => (x.2 :: (finP r).1, (finP r).2)
  | none :: r => ([], none :: r)
  | [] => ([], [])
theorem itemZ : (Tryz.prog.info? 40).bind (·.zero) = some (.slice none 0 0) := by kernel_rfl
theorem funcZ : (Tryz.prog.info? 102).bind (·.zero) = some (.slice none 0 0) := by kernel_rfl
theorem todo_last {x : Todo} {r : List Todo} : (x :: r).reverse[(r.length + 1) - 1]? = some x := by
  simp
theorem todo_init {x : Todo} {r : List Todo} : (x :: r).reverse.take ((r.length + 1) - 1) = r.reverse := by
  simp
theorem todo_len (x : Todo) (r : List Todo) : (x :: r).reverse.length = r.length + 1 := by simp
section
variable {F : List Fact} {x : Nat × ItemV} {o : Todo} {r : List Todo}
theorem todo_head (h : Has F (todoF (some x :: r))) : Has F (Fact.cells x.1 0 (itemE.cells x.2)) := fun S w k => h S w k (some x) (List.mem_cons_self ..)
theorem todo_tail (h : Has F (todoF (o :: r))) : Has F (todoF r) := fun S w k y hy => h S w k y (List.mem_cons_of_mem _ hy)
theorem todo_nil : Has F (todoF []) := fun _ _ _ y hy => by simp at hy
theorem todo_none (h : Has F (todoF r)) : Has F (todoF (none :: r)) := fun S w k y hy => by
  rcases List.mem_cons.1 hy with rfl | hy
  · trivial
  · exact h S w k y hy
theorem todo_some (hx : Has F (Fact.cells x.1 0 (itemE.cells x.2))) (h : Has F (todoF r)) : Has F (todoF (some x :: r)) := fun S w k y hy => by
  rcases List.mem_cons.1 hy with rfl | hy
  · exact hx S w k
  · exact h S w k y hy
end
def phrI (p : Phr) : ItemV := ⟨p.how, p.at_, p.fn, [], ⟨none, 0, []⟩⟩
theorem push_zero_api_Fault : (Tryz.prog.info? 32).bind (·.zero) = some (.agg #[.int .i64 0, .int .i64 0]) := by kernel_rfl
theorem push_zero_api_Item : (Tryz.prog.info? 46).bind (·.zero) = some (.agg #[.int .i64 0, .int .i64 0, .int .u8 0, .string (bs []), .slice none 0 0]) := by kernel_rfl

set_option maxRecDepth 100000 in
theorem push_spec (b4 bi : Nat) (C : Option Addr) (e : Nat) (out : List ItemV) (it : ItemV) (ho : out.length ≤ 1000000) : Spec Tryz.prog 56 [.pointer (some ⟨b4, 0, none⟩), .pointer (some ⟨bi, 0, none⟩)] [.obj b4 (.cells [.slice C out.length e].toArray 40), itemE.row (.slice C out.length e) 46 out] [Fact.cells bi 0 (itemE.cells it)] (fun (_ : Option Addr × Nat) => .tuple #[]) (fun (x : Option Addr × Nat) => [.obj b4 (.cells [.slice x.1 (out ++ [it]).length x.2].toArray 40), itemE.row (.slice x.1 (out ++ [it]).length x.2) 46 (out ++ [it])]) (fun _ => []) := by
  have hT := showT_ok
  refine spec_of Tryz.func56 rfl Tryz.ntmps56 rfl ?_
  intro β hM
  refine at_region ?_
  refine ss (ldO hT (knows_own (off := 0) .head)) ?_
  refine ss (sti_loadN hT (knows_fact (Has.of mT0)) rfl rfl rfl rfl rfl) ?_
  refine at_one_item (m := it) rfl rfl rfl rfl rfl fun b1 => ?_
  refine at_app_item kT2 (reads_obj .head rfl) rfl rfl rfl rfl rfl rfl rfl (by simp only [List.length_singleton]; omega) fun A2 c3 => ?_
  refine sto hT kT2 ?_
  refine at_nil ?_
  exact at_off0 (A2, c3) rfl  (.cons .head (.cons .head .nil)) trivial (rfl)

set_option maxRecDepth 100000 in
theorem finish_spec (b5 b4 : Nat) (D : Option Addr) (f : Nat) (st0 : List Todo) (C : Option Addr) (e : Nat) (out0 : List ItemV) (hs : out0.length + st0.length ≤ 100000) : Spec Tryz.prog 53 [.pointer (some ⟨b5, 0, none⟩)] [.obj b5 (.cells [.slice D st0.reverse.length f].toArray 102), (fnE b4).row (.slice D st0.reverse.length f) 1 st0.reverse, .obj b4 (.cells [.slice C out0.length e].toArray 40), itemE.row (.slice C out0.length e) 46 out0] [todoF st0] (fun (_ : (Option Addr × Nat) × (Option Addr × Nat)) => .tuple #[]) (fun (x : (Option Addr × Nat) × (Option Addr × Nat)) => [.obj b5 (.cells [.slice x.1.1 (finP st0).2.reverse.length x.1.2].toArray 102), (fnE b4).row (.slice x.1.1 (finP st0).2.reverse.length x.1.2) 1 (finP st0).2.reverse, .obj b4 (.cells [.slice x.2.1 (out0 ++ (finP st0).1).length x.2.2].toArray 40), itemE.row (.slice x.2.1 (out0 ++ (finP st0).1).length x.2.2) 46 (out0 ++ (finP st0).1)]) (fun _ => [todoF (finP st0).2]) := by
  have hT := showT_ok
  refine spec_of Tryz.func53 rfl Tryz.ntmps53 rfl ?_
  intro β hM
  refine at_block ?_
  refine at_loop2 (ι := List Todo × List ItemV × Option Addr × Nat × Option Addr × Nat) [(0, _)] ⟨rfl, trivial⟩ (fun _ => []) (fun ⟨st, out, D, f, C, e⟩ => [.obj b5 (.cells [.slice D st.reverse.length f].toArray 102), (fnE b4).row (.slice D st.reverse.length f) 1 st.reverse, .obj b4 (.cells [.slice C out.length e].toArray 40), itemE.row (.slice C out.length e) 46 out]) (fun ⟨st, out, D, f, C, e⟩ => [Fact.pure (out0 ++ (finP st0).1 = out ++ (finP st).1 ∧ (finP st0).2 = (finP st).2 ∧ out.length + st.length ≤ 100000), todoF st]) (fun ⟨st, out, D, f, C, e⟩ => st.length) (st0, out0, D, f, C, e) trivial (.cons .head (.cons .head (.cons .head (.cons .head .nil)))) ⟨Has.pure (⟨rfl, rfl, hs⟩), Has.of mT0, trivial⟩ ?_
  rintro ⟨st, out, D, f, C, e⟩
  dsimp only
  refine at_know (Has.of mT0) fun hinv0 => ?_
  refine at_seq ?_
  refine at_seq ?_
  rcases st with _ | ⟨_ | ⟨b, it⟩, r⟩
  · skip
    refine at_region ?_
    refine ss (ldO hT (knows_own (off := 0) .head)) ?_
    refine sp3 hT ?_
    refine at_case (fun hg4 => ?_) (fun hg4 => ?_)
    · have hg4 := of_decide_eq_true hg4
      simp at hg4
    have hg4 := Int.not_lt.1 (of_decide_eq_false hg4)
    refine sk4 ?_
    refine sk3 ?_
    refine sp hT ?_
    refine nn ?_
    refine at_false rfl rfl ?_
    refine at_exit ?_
    refine x_then ?_
    refine x_then ?_
    refine x_block ?_
    have e1 : (finP st0).2 = [] := hinv0.2.1
    have e2 : out0 ++ (finP st0).1 = out := by rw [hinv0.1]; simp [finP]
    rw [e1, e2]
    exact at_off0 ((D, f), (C, e)) rfl  (.cons .head (.cons .head (.cons .head (.cons .head .nil)))) ⟨Has.of mT1, trivial⟩ (rfl)
  · have hsl : r.length ≤ 100000 := by have := hinv0.2.2; simp at this; omega
    refine at_region ?_
    refine ss (ldO hT (knows_own (off := 0) .head)) ?_
    refine sp hT ?_
    refine at_int (z' := (((r.length + 1) : Nat) : Int)) (congrArg Nat.cast (todo_len _ r)) ?_
    refine sp2 hT ?_
    refine at_case (fun hg4 => ?_) (fun hg4 => ?_)
    · have hg4 := of_decide_eq_true hg4
      refine ss (ldO hT (knows_own (off := 0) .head)) ?_
      refine ss (ldO hT (knows_own (off := 0) .head)) ?_
      refine sp hT ?_
      refine at_int (z' := (((r.length + 1) : Nat) : Int)) (congrArg Nat.cast (todo_len _ r)) ?_
      refine sp hT ?_
      refine at_int (z' := ((((r.length + 1) - 1) : Nat) : Int)) (wrapN (by omega) (by omega)) ?_
      refine ss (sti_index hT (k := ((r.length + 1) - 1)) (reads_row kT1) rfl rfl rfl rfl rfl rfl rfl (by rw [todo_len]; omega)) ?_
      refine ss (sti_load1 hT (Reads.knows (reads_row kT1) (k := ((r.length + 1) - 1)) (x := (none : Todo)) todo_last 0) rfl rfl rfl rfl rfl) ?_
      refine ss (sti_nofn Tryz.underlying1 rfl rfl) ?_
      refine sp hT ?_
      refine nn ?_
      refine at_false rfl rfl ?_
      refine at_exit ?_
      refine x_then ?_
      refine x_then ?_
      refine x_block ?_
      have e1 : (finP st0).2 = (none : Todo) :: r := hinv0.2.1
      have e2 : out0 ++ (finP st0).1 = out := by rw [hinv0.1]; simp [finP]
      rw [e1, e2]
      exact at_off0 ((D, f), (C, e)) rfl  (.cons .head (.cons .head (.cons .head (.cons .head .nil)))) ⟨Has.of mT1, trivial⟩ (rfl)
    have hg4 := Int.not_lt.1 (of_decide_eq_false hg4)
    omega
  have hsl : r.length ≤ 100000 := by have := hinv0.2.2; simp at this; omega
  have hol : out.length ≤ 100000 := by have := hinv0.2.2; omega
  refine at_region ?_
  refine ss (ldO hT (knows_own (off := 0) .head)) ?_
  refine sp hT ?_
  refine at_int (z' := (((r.length + 1) : Nat) : Int)) (congrArg Nat.cast (todo_len _ r)) ?_
  refine sp2 hT ?_
  refine at_case (fun hg4 => ?_) (fun hg4 => ?_)
  · have hg4 := of_decide_eq_true hg4
    refine ss (ldO hT (knows_own (off := 0) .head)) ?_
    refine ss (ldO hT (knows_own (off := 0) .head)) ?_
    refine sp hT ?_
    refine at_int (z' := (((r.length + 1) : Nat) : Int)) (congrArg Nat.cast (todo_len _ r)) ?_
    refine sp hT ?_
    refine at_int (z' := ((((r.length + 1) - 1) : Nat) : Int)) (wrapN (by omega) (by omega)) ?_
    refine ss (sti_index hT (k := ((r.length + 1) - 1)) (reads_row kT1) rfl rfl rfl rfl rfl rfl rfl (by rw [todo_len]; omega)) ?_
    refine ss (sti_load1 hT (Reads.knows (reads_row kT1) (k := ((r.length + 1) - 1)) (x := (some (b, it) : Todo)) todo_last 0) rfl rfl rfl rfl rfl) ?_
    refine ss (sti_fn Tryz.underlying1 rfl rfl) ?_
    refine sp hT ?_
    refine nn ?_
    refine at_true rfl rfl ?_
    refine at_skip ?_
    refine n_then ?_
    refine at_block ?_
    refine sr ?_
    refine ss (ldO hT (knows_own (off := 0) .head)) ?_
    refine ss (ldO hT (knows_own (off := 0) .head)) ?_
    refine sp hT ?_
    refine at_int (z' := (((r.length + 1) : Nat) : Int)) (congrArg Nat.cast (todo_len _ r)) ?_
    refine sp hT ?_
    refine at_int (z' := ((((r.length + 1) - 1) : Nat) : Int)) (wrapN (by omega) (by omega)) ?_
    refine ss (sti_index hT (k := ((r.length + 1) - 1)) (reads_row kT1) rfl rfl rfl rfl rfl rfl rfl (by rw [todo_len]; omega)) ?_
    refine ss (sti_load1 hT (Reads.knows (reads_row kT1) (k := ((r.length + 1) - 1)) (x := (some (b, it) : Todo)) todo_last 0) rfl rfl rfl rfl rfl) ?_
    refine at_callv (callFunc_enter Tryz.func56 rfl rfl) (push_spec b4 b _ _ out it (by omega)) rfl rfl rfl rfl rfl rfl rfl (.cons kT2 (.cons kT2 .nil)) ⟨todo_head (Has.of mT1), trivial⟩ fun ⟨C1, e2⟩ => ?_
    refine nn ?_
    refine at_region ?_
    refine ss (ldO hT (knows_own (off := 0) kT2)) ?_
    refine ss (ldO hT (knows_own (off := 0) kT2)) ?_
    refine sp hT ?_
    refine at_int (z' := (((r.length + 1) : Nat) : Int)) (congrArg Nat.cast (todo_len _ r)) ?_
    refine sp hT ?_
    refine at_int (z' := ((((r.length + 1) - 1) : Nat) : Int)) (wrapN (by omega) (by omega)) ?_
    refine at_trunc hT (k := ((r.length + 1) - 1)) kT3 rfl rfl rfl rfl rfl rfl rfl rfl rfl (by rw [todo_len]; omega) ?_
    rw [todo_init]
    refine sto hT kT3 ?_
    refine at_nil ?_
    refine n_block ?_
    refine n_then ?_
    refine at_fact (todoF r) (todo_tail (Has.of mT1)) ?_
    exact at_back2 (r, _, _, _, _, _) (by dsimp only; simp) trivial ⟨rfl, trivial⟩ (.cons .head (.cons .head (.cons .head (.cons .head .nil)))) ⟨Has.pure (⟨by rw [hinv0.1]; simp [finP], by rw [hinv0.2.1]; rfl, by have := hinv0.2.2; simp at *; omega⟩), Has.of mT0, trivial⟩ (HasAll.drop 3)
  have hg4 := Int.not_lt.1 (of_decide_eq_false hg4)
  omega

set_option maxRecDepth 100000 in
theorem laterT_spec (bl : Nat) (A : Option Addr) (c : Nat) (toks : List TokV) (k : Nat) (e : Int) (b1 b5 b4 : Nat) (D : Option Addr) (f : Nat) (st : List Todo) (hk : k ≤ 1000000) (hs : st.length ≤ 100000) : Spec Tryz.prog 54 [.bool true, .pointer (some ⟨b1, 0, none⟩), .pointer (some ⟨b5, 0, none⟩), .pointer (some ⟨b4, 0, none⟩)] [.obj bl (.cells [.slice A toks.length c, .int .i64 (k : Nat), .int .i64 e].toArray 52), .obj b1 (.cells [.pointer (some ⟨bl, 0, none⟩)].toArray 50), .obj b5 (.cells [.slice D st.reverse.length f].toArray 102), (fnE b4).row (.slice D st.reverse.length f) 1 st.reverse] [tokE.sl (.slice A toks.length c) toks, todoF st] (fun (_ : (Option Addr × Nat) × Nat) => .agg #[.int .i64 (phraseP toks (k) e true).flt.1, .int .i64 (phraseP toks (k) e true).flt.2]) (fun (x : (Option Addr × Nat) × Nat) => [.obj bl (.cells [.slice A toks.length c, .int .i64 ((phraseP toks (k) e true).next : Nat), .int .i64 e].toArray 52), .obj b1 (.cells [.pointer (some ⟨bl, 0, none⟩)].toArray 50), .obj b5 (.cells [.slice x.1.1 (some (x.2, (phrI (phraseP toks (k) e true))) :: st).reverse.length x.1.2].toArray 102), (fnE b4).row (.slice x.1.1 (some (x.2, (phrI (phraseP toks (k) e true))) :: st).reverse.length x.1.2) 1 (some (x.2, (phrI (phraseP toks (k) e true))) :: st).reverse]) (fun (x : (Option Addr × Nat) × Nat) => [todoF (some (x.2, (phrI (phraseP toks (k) e true))) :: st)]) := by
  have hT := showT_ok
  refine spec_of Tryz.func54 rfl Tryz.ntmps54 rfl ?_
  intro β hM
  refine sr ?_
  refine at_alloc rfl rfl rfl rfl push_zero_api_Fault rfl fun b1 => ?_
  refine nn ?_
  refine sr ?_
  refine ss (ldO hT (knows_own (off := 0) kT2)) ?_
  refine sp hT ?_
  refine at_call (callFunc_enter Tryz.func55 rfl rfl) (phraseT_spec bl A c toks (k) e (by omega)) rfl rfl rfl rfl rfl (.cons kT1 .nil) ⟨Has.of mT0, trivial⟩ fun _ => ?_
  refine sp3 hT ?_
  refine at_alloc rfl rfl rfl rfl push_zero_api_Item rfl fun b2 => ?_
  refine at_alloc rfl rfl rfl rfl push_zero_api_Fault rfl fun b3 => ?_
  refine sto hT kT1 ?_
  refine sto hT kT1 ?_
  refine nn ?_
  refine sr ?_
  refine ss (ldO hT (knows_own (off := 0) kT5)) ?_
  refine sp hT ?_
  refine at_one_fn (b4 := b4) (m := (some (b2, (phrI (phraseP toks (k) e true))) : Todo)) rfl rfl rfl rfl rfl fun b4 => ?_
  refine at_app_fn kT7 (reads_obj .head rfl) rfl rfl rfl rfl rfl rfl rfl (by simp only [List.length_singleton, List.length_reverse]; omega) fun A5 c6 => ?_
  rw [← List.reverse_cons]
  refine sto hT kT7 ?_
  refine nn ?_
  refine sr ?_
  refine ss (ldN hT (knows_own (off := 0) kT3)) ?_
  refine sto hT kT6 ?_
  refine nn ?_
  refine at_ret ?_
  refine at_freeze_obj kT5 ?_
  exact at_res1 ((A5, c6), b2) rfl (rv_cell hT (knows_own (off := 0) .head) rfl rfl rfl rfl) (.cons kT5 (.cons kT5 (.cons kT1 (.cons kT1 .nil)))) ⟨todo_some (Has.of mT0) (Has.of mT2), trivial⟩ (rfl)

set_option maxRecDepth 100000 in
theorem laterF_spec (bl : Nat) (A : Option Addr) (c : Nat) (toks : List TokV) (k : Nat) (e : Int) (b1 b5 b4 : Nat) (D : Option Addr) (f : Nat) (st : List Todo) (hk : k ≤ 1000000) (hs : st.length ≤ 100000) : Spec Tryz.prog 54 [.bool false, .pointer (some ⟨b1, 0, none⟩), .pointer (some ⟨b5, 0, none⟩), .pointer (some ⟨b4, 0, none⟩)] [.obj bl (.cells [.slice A toks.length c, .int .i64 (k : Nat), .int .i64 e].toArray 52), .obj b1 (.cells [.pointer (some ⟨bl, 0, none⟩)].toArray 50), .obj b5 (.cells [.slice D st.reverse.length f].toArray 102), (fnE b4).row (.slice D st.reverse.length f) 1 st.reverse] [tokE.sl (.slice A toks.length c) toks, todoF st] (fun (_ : (Option Addr × Nat) × Nat) => .agg #[.int .i64 (phraseP toks (k) e false).flt.1, .int .i64 (phraseP toks (k) e false).flt.2]) (fun (x : (Option Addr × Nat) × Nat) => [.obj bl (.cells [.slice A toks.length c, .int .i64 ((phraseP toks (k) e false).next : Nat), .int .i64 e].toArray 52), .obj b1 (.cells [.pointer (some ⟨bl, 0, none⟩)].toArray 50), .obj b5 (.cells [.slice x.1.1 (some (x.2, (phrI (phraseP toks (k) e false))) :: st).reverse.length x.1.2].toArray 102), (fnE b4).row (.slice x.1.1 (some (x.2, (phrI (phraseP toks (k) e false))) :: st).reverse.length x.1.2) 1 (some (x.2, (phrI (phraseP toks (k) e false))) :: st).reverse]) (fun (x : (Option Addr × Nat) × Nat) => [todoF (some (x.2, (phrI (phraseP toks (k) e false))) :: st)]) := by
  have hT := showT_ok
  refine spec_of Tryz.func54 rfl Tryz.ntmps54 rfl ?_
  intro β hM
  refine sr ?_
  refine at_alloc rfl rfl rfl rfl push_zero_api_Fault rfl fun b1 => ?_
  refine nn ?_
  refine sr ?_
  refine ss (ldO hT (knows_own (off := 0) kT2)) ?_
  refine sp hT ?_
  refine at_call (callFunc_enter Tryz.func55 rfl rfl) (phraseF_spec bl A c toks (k) e (by omega)) rfl rfl rfl rfl rfl (.cons kT1 .nil) ⟨Has.of mT0, trivial⟩ fun _ => ?_
  refine sp3 hT ?_
  refine at_alloc rfl rfl rfl rfl push_zero_api_Item rfl fun b2 => ?_
  refine at_alloc rfl rfl rfl rfl push_zero_api_Fault rfl fun b3 => ?_
  refine sto hT kT1 ?_
  refine sto hT kT1 ?_
  refine nn ?_
  refine sr ?_
  refine ss (ldO hT (knows_own (off := 0) kT5)) ?_
  refine sp hT ?_
  refine at_one_fn (b4 := b4) (m := (some (b2, (phrI (phraseP toks (k) e false))) : Todo)) rfl rfl rfl rfl rfl fun b4 => ?_
  refine at_app_fn kT7 (reads_obj .head rfl) rfl rfl rfl rfl rfl rfl rfl (by simp only [List.length_singleton, List.length_reverse]; omega) fun A5 c6 => ?_
  rw [← List.reverse_cons]
  refine sto hT kT7 ?_
  refine nn ?_
  refine sr ?_
  refine ss (ldN hT (knows_own (off := 0) kT3)) ?_
  refine sto hT kT6 ?_
  refine nn ?_
  refine at_ret ?_
  refine at_freeze_obj kT5 ?_
  exact at_res1 ((A5, c6), b2) rfl (rv_cell hT (knows_own (off := 0) .head) rfl rfl rfl rfl) (.cons kT5 (.cons kT5 (.cons kT1 (.cons kT1 .nil)))) ⟨todo_some (Has.of mT0) (Has.of mT2), trivial⟩ (rfl)

end Go.Proofs.YtngkedmndhmjcaaGreatDoor
/- Plain: how parse.line.expr reads an expression (no program): a stack of what is still to be done. -/
namespace Go.Proofs.YtngkedmndhmjcaaGreatDoor
open Go.RowKit

/-- an item, without addresses -/
structure Item where
  how : Int
  at_ : Int
  fn : Int
  name : Bs
  nums : List Int
  deriving Inhabited, DecidableEq
def ItemV.it (x : ItemV) : Item := ⟨x.how, x.at_, x.fn, x.name, x.nums.list⟩
def Phr.it (p : Phr) : Item := ⟨p.how, p.at_, p.fn, [], []⟩
theorem phrI_it (p : Phr) : (phrI p).it = p.it := rfl
abbrev Stk := List (Option Item)
def erase (st : List Todo) : Stk := st.map fun o => o.map fun x => x.2.it
def finI : Stk → List Item × Stk
  | some x :: r => (x :: (finI r).1, (finI r).2)
  | none :: r => ([], none :: r)
  | [] => ([], [])
theorem fin_erase : ∀ st : List Todo, (finP st).1.map ItemV.it = (finI (erase st)).1 ∧ erase (finP st).2 = (finI (erase st)).2
  | [] => ⟨rfl, rfl⟩
  | none :: r => ⟨rfl, rfl⟩
  | some x :: r => by
    obtain ⟨h1, h2⟩ := fin_erase r
    exact ⟨by simp [finP, finI, erase] at *; exact h1, h2⟩
/-- how many brackets are open -/
def opens : List Todo → Nat
  | [] => 0
  | none :: r => opens r + 1
  | some _ :: r => opens r
theorem fin_opens : ∀ st : List Todo, opens (finP st).2 = opens st
  | [] => rfl
  | none :: _ => rfl
  | some _ :: r => fin_opens r
theorem fin_len : ∀ st : List Todo, (finP st).1.length + (finP st).2.length = st.length
  | [] => rfl
  | none :: r => by simp [finP]
  | some x :: r => by have := fin_len r; simp [finP]; omega
theorem fin_open {st : List Todo} (h : 0 < opens st) : ∃ r, (finP st).2 = none :: r ∧ opens r + 1 = opens st := by
  induction st with
  | nil => simp [opens] at h
  | cons o st ih =>
    cases o with
    | none => exact ⟨st, rfl, rfl⟩
    | some x => exact ih h

section
variable (toks : List TokV) (e : Int)
/-- the numbers from a token on -/
def numsFrom (k : Nat) : List Int := ((toks.drop k).takeWhile fun t => t.kind == 2).map (·.n)
def isOk (f : Flt) : Bool := fltEq ⟨f.1, f.2⟩ ⟨0, 0⟩
abbrev ExprR := List Item × Flt
/-- behind an operand and the brackets that end there -/
def restP (rec : Nat → List Item → Stk → Nat → ExprR) (o k : Nat) (out : List Item) (st : Stk) : ExprR :=
  if (peekP toks k).kind = 4 then (if 0 < o then ([], (atP toks k e, 42)) else (out ++ (finI st).1, (0, 0)))
  else if (peekP toks k).kind = 2 ∨ verbB (peekP toks k).word = false then ([], (atP toks k e, 46))
  else if isOk (phraseP toks k e true).flt then rec (phraseP toks k e true).next out (some (phraseP toks k e true).it :: st) o else ([], (phraseP toks k e true).flt)
/-- behind an operand -/
def behindP (rec : Nat → List Item → Stk → Nat → ExprR) : Nat → Nat → List Item → Stk → ExprR
  | 0, k, out, st => restP toks e rec 0 k out st
  | o + 1, k, out, st => if (peekP toks k).kind = 3 ∧ (peekP toks k).word = [41] then behindP rec o (k + 1) (out ++ (finI st).1) (finI st).2.tail else restP toks e rec (o + 1) k out st
def numItem (k : Nat) : Item := ⟨1, (peekP toks k).at_, 0, [], numsFrom toks k⟩
def nameItem (k : Nat) : Item := ⟨2, (peekP toks k).at_, 0, (peekP toks k).word, []⟩
def exprGo : Nat → Nat → List Item → Stk → Nat → ExprR
  | 0, _, _, _, _ => ([], (0, 0))
  | f + 1, k, out, st, o =>
    if (peekP toks k).kind ≠ 2 ∧ (peekP toks k).kind ≠ 4 ∧ verbB (peekP toks k).word = true then
      if isOk (phraseP toks k e false).flt then exprGo f (phraseP toks k e false).next out (some (phraseP toks k e false).it :: st) o else ([], (phraseP toks k e false).flt)
    else if (peekP toks k).kind = 3 ∧ (peekP toks k).word = [40] then
      if o = 32 then ([], (atP toks k e, 44)) else exprGo f (k + 1) out (none :: st) (o + 1)
    else if (peekP toks k).kind = 2 then behindP toks e (exprGo f) o (k + (numsFrom toks k).length) (out ++ [numItem toks k]) st
    else if (peekP toks k).kind = 1 ∧ nameB (peekP toks k).word = true then behindP toks e (exprGo f) o (k + 1) (out ++ [nameItem toks k]) st
    else if (peekP toks k).kind = 1 then ([], (atP toks k e, 41)) else ([], (atP toks k e, 42))
def exprP (k : Nat) : ExprR := exprGo toks e (toks.length + 1) k [] [] 0
/-- what is still to be done leads to r: ahead of an operand, behind one -/
def EInv (r : ExprR) (k : Nat) (out : List Item) (st : Stk) (o : Nat) : Prop := k ≤ toks.length ∧ ∃ f, toks.length + 1 ≤ f + k ∧ exprGo toks e f k out st o = r
def BInv (r : ExprR) (k : Nat) (out : List Item) (st : Stk) (o : Nat) : Prop := k ≤ toks.length ∧ ∃ f, toks.length + 1 ≤ f + k ∧ behindP toks e (exprGo toks e f) o k out st = r
end
theorem kind_lt {toks : List TokV} {k : Nat} (h : (peekP toks k).kind ≠ 4) : k < toks.length := by
  rcases Nat.lt_or_ge k toks.length with h' | h'
  · exact h'
  · rw [peekP_none h'] at h
    exact absurd rfl h
theorem nums_more {toks : List TokV} {k : Nat} (h : (peekP toks k).kind = 2) : numsFrom toks k = (peekP toks k).n :: numsFrom toks (k + 1) := by
  have hk := kind_lt (toks := toks) (k := k) (by rw [h]; decide)
  have e : toks[k]? = some toks[k] := List.getElem?_eq_getElem hk
  rw [peekP_some e] at h ⊢
  unfold numsFrom
  rw [List.drop_eq_getElem_cons hk, List.takeWhile_cons_of_pos (by simpa using h)]
  rfl
theorem nums_end {toks : List TokV} {k : Nat} (h : (peekP toks k).kind ≠ 2) : numsFrom toks k = [] := by
  unfold numsFrom
  rcases Nat.lt_or_ge k toks.length with hk | hk
  · have e : toks[k]? = some toks[k] := List.getElem?_eq_getElem hk
    rw [peekP_some e] at h
    rw [List.drop_eq_getElem_cons hk, List.takeWhile_cons_of_neg (by simpa using h)]
    rfl
  · rw [List.drop_of_length_le hk]
    rfl
theorem nums_le (toks : List TokV) (k : Nat) : (numsFrom toks k).length ≤ toks.length - k := by
  unfold numsFrom
  rw [List.length_map]
  have := (List.takeWhile_sublist (fun t : TokV => t.kind == 2) (l := toks.drop k)).length_le
  simpa using this
theorem phrase_next (toks : List TokV) (k : Nat) (e : Int) (b : Bool) : k + 1 ≤ (phraseP toks k e b).next ∧ (phraseP toks k e b).next ≤ k + 2 := by
  unfold phraseP
  split
  · split
    · exact ⟨by simp, by simp⟩
    · exact ⟨by simp, by simp⟩
  · exact ⟨by simp, by simp⟩
theorem phrase_in {toks : List TokV} {k : Nat} {e : Int} {b : Bool} (h : k < toks.length) : (phraseP toks k e b).next ≤ toks.length := by
  unfold phraseP
  split
  · rename_i h3
    have := kind_lt (toks := toks) (k := k + 1) (by rw [h3.1]; decide)
    split <;> (simp only; omega)
  · simp only; omega
theorem bracket_verb : verbB [40] = false := by decide
theorem name_verb {s : Bs} (h : nameB s = true) : verbB s = false := by
  unfold nameB at h
  simp only [Bool.and_eq_true, Bool.not_eq_true'] at h
  exact h.1
section
variable {toks : List TokV} {e : Int} {r : ExprR} {k o : Nat} {out : List Item} {st : Stk}
theorem e_start (h : k ≤ toks.length) : EInv toks e (exprP toks e k) k [] [] 0 := ⟨h, toks.length + 1, by omega, rfl⟩
theorem e_verb (h : EInv toks e r k out st o) (h2 : (peekP toks k).kind ≠ 2) (h4 : (peekP toks k).kind ≠ 4) (hv : verbB (peekP toks k).word = true) :
    (isOk (phraseP toks k e false).flt = true → EInv toks e r (phraseP toks k e false).next out (some (phraseP toks k e false).it :: st) o) ∧ (isOk (phraseP toks k e false).flt = false → r = ([], (phraseP toks k e false).flt)) := by
  obtain ⟨hk, f, hf, h⟩ := h
  have hlt := kind_lt h4
  obtain ⟨f, rfl⟩ : ∃ g, f = g + 1 := ⟨f - 1, by omega⟩
  rw [exprGo, if_pos ⟨h2, h4, hv⟩] at h
  have := phrase_next toks k e false
  refine ⟨fun hi => ?_, fun hi => ?_⟩
  · rw [if_pos hi] at h
    exact ⟨phrase_in hlt, f, by omega, h⟩
  · rw [if_neg (by rw [hi]; simp)] at h
    exact h.symm
theorem e_open (h : EInv toks e r k out st o) (h3 : (peekP toks k).kind = 3) (hw : (peekP toks k).word = [40]) :
    (o ≠ 32 → EInv toks e r (k + 1) out (none :: st) (o + 1)) ∧ (o = 32 → r = ([], (atP toks k e, 44))) := by
  obtain ⟨hk, f, hf, h⟩ := h
  have hlt := kind_lt (toks := toks) (k := k) (by rw [h3]; decide)
  obtain ⟨f, rfl⟩ : ∃ g, f = g + 1 := ⟨f - 1, by omega⟩
  rw [exprGo, if_neg (by rw [hw, bracket_verb]; simp), if_pos ⟨h3, hw⟩] at h
  refine ⟨fun hi => ?_, fun hi => ?_⟩
  · rw [if_neg hi] at h
    exact ⟨hlt, f, by omega, h⟩
  · rw [if_pos hi] at h
    exact h.symm
theorem e_num (h : EInv toks e r k out st o) (h2 : (peekP toks k).kind = 2) : BInv toks e r (k + (numsFrom toks k).length) (out ++ [numItem toks k]) st o := by
  obtain ⟨hk, f, hf, h⟩ := h
  have hlt := kind_lt (toks := toks) (k := k) (by rw [h2]; decide)
  obtain ⟨f, rfl⟩ : ∃ g, f = g + 1 := ⟨f - 1, by omega⟩
  rw [exprGo, if_neg (by rw [h2]; simp), if_neg (by rw [h2]; simp), if_pos h2] at h
  have h1 := nums_le toks k
  have h3 := nums_more h2
  have h4 : 1 ≤ (numsFrom toks k).length := by rw [h3]; simp
  exact ⟨by omega, f, by omega, h⟩
theorem e_name (h : EInv toks e r k out st o) (h1 : (peekP toks k).kind = 1) (hn : nameB (peekP toks k).word = true) : BInv toks e r (k + 1) (out ++ [nameItem toks k]) st o := by
  obtain ⟨hk, f, hf, h⟩ := h
  have hlt := kind_lt (toks := toks) (k := k) (by rw [h1]; decide)
  obtain ⟨f, rfl⟩ : ∃ g, f = g + 1 := ⟨f - 1, by omega⟩
  rw [exprGo, if_neg (by rw [name_verb hn]; simp), if_neg (by rw [h1]; simp), if_neg (by rw [h1]; simp), if_pos ⟨h1, hn⟩] at h
  exact ⟨by omega, f, by omega, h⟩
theorem e_word (h : EInv toks e r k out st o) (h1 : (peekP toks k).kind = 1) (hv : verbB (peekP toks k).word = false) (hn : nameB (peekP toks k).word = false) : r = ([], (atP toks k e, 41)) := by
  obtain ⟨hk, f, hf, h⟩ := h
  have hlt := kind_lt (toks := toks) (k := k) (by rw [h1]; decide)
  obtain ⟨f, rfl⟩ : ∃ g, f = g + 1 := ⟨f - 1, by omega⟩
  rw [exprGo, if_neg (by rw [hv]; simp), if_neg (by rw [h1]; simp), if_neg (by rw [h1]; simp), if_neg (by rw [hn]; simp), if_pos h1] at h
  exact h.symm
theorem e_want (h : EInv toks e r k out st o) (h1 : (peekP toks k).kind ≠ 1) (h2 : (peekP toks k).kind ≠ 2) (hv : (peekP toks k).kind = 4 ∨ verbB (peekP toks k).word = false) (hw : (peekP toks k).kind ≠ 3 ∨ (peekP toks k).word ≠ [40]) : r = ([], (atP toks k e, 42)) := by
  obtain ⟨hk, f, hf, h⟩ := h
  obtain ⟨f, rfl⟩ : ∃ g, f = g + 1 := ⟨f - 1, by omega⟩
  rw [exprGo, if_neg (by rcases hv with hv | hv <;> simp [hv]), if_neg (by rcases hw with hw | hw <;> simp [hw]), if_neg h2, if_neg (by simp [h1]), if_neg h1] at h
  exact h.symm
theorem b_close (h : BInv toks e r k out st o) (ho : 0 < o) (h3 : (peekP toks k).kind = 3) (hw : (peekP toks k).word = [41]) : BInv toks e r (k + 1) (out ++ (finI st).1) (finI st).2.tail (o - 1) := by
  obtain ⟨hk, f, hf, h⟩ := h
  have hlt := kind_lt (toks := toks) (k := k) (by rw [h3]; decide)
  obtain ⟨o, rfl⟩ : ∃ g, o = g + 1 := ⟨o - 1, by omega⟩
  rw [behindP, if_pos ⟨h3, hw⟩] at h
  exact ⟨hlt, f, by omega, h⟩
theorem b_rest (h : BInv toks e r k out st o) (hn : o = 0 ∨ (peekP toks k).kind ≠ 3 ∨ (peekP toks k).word ≠ [41]) : k ≤ toks.length ∧ ∃ f, toks.length + 1 ≤ f + k ∧ restP toks e (exprGo toks e f) o k out st = r := by
  obtain ⟨hk, f, hf, h⟩ := h
  refine ⟨hk, f, hf, ?_⟩
  cases o with
  | zero => exact h
  | succ o =>
    rw [behindP, if_neg (by
      rintro ⟨a, b⟩
      rcases hn with hn | hn | hn
      · omega
      · exact hn a
      · exact hn b)] at h
    exact h
theorem r_open (h : BInv toks e r k out st o) (h4 : (peekP toks k).kind = 4) (ho : 0 < o) : r = ([], (atP toks k e, 42)) := by
  obtain ⟨_, f, _, h⟩ := b_rest h (.inr (.inl (by rw [h4]; decide)))
  rw [restP, if_pos h4, if_pos ho] at h
  exact h.symm
theorem r_end (h : BInv toks e r k out st o) (h4 : (peekP toks k).kind = 4) (ho : ¬ 0 < o) : r = (out ++ (finI st).1, (0, 0)) := by
  obtain ⟨_, f, _, h⟩ := b_rest h (.inr (.inl (by rw [h4]; decide)))
  rw [restP, if_pos h4, if_neg ho] at h
  exact h.symm
theorem r_more (h : BInv toks e r k out st o) (hn : o = 0 ∨ (peekP toks k).kind ≠ 3 ∨ (peekP toks k).word ≠ [41]) (h4 : (peekP toks k).kind ≠ 4) (hm : (peekP toks k).kind = 2 ∨ verbB (peekP toks k).word = false) : r = ([], (atP toks k e, 46)) := by
  obtain ⟨_, f, _, h⟩ := b_rest h hn
  rw [restP, if_neg h4, if_pos hm] at h
  exact h.symm
theorem r_verb (h : BInv toks e r k out st o) (hn : o = 0 ∨ (peekP toks k).kind ≠ 3 ∨ (peekP toks k).word ≠ [41]) (h4 : (peekP toks k).kind ≠ 4) (h2 : (peekP toks k).kind ≠ 2) (hv : verbB (peekP toks k).word = true) :
    (isOk (phraseP toks k e true).flt = true → EInv toks e r (phraseP toks k e true).next out (some (phraseP toks k e true).it :: st) o) ∧ (isOk (phraseP toks k e true).flt = false → r = ([], (phraseP toks k e true).flt)) := by
  obtain ⟨_, f, hf, h⟩ := b_rest h hn
  have hlt := kind_lt h4
  rw [restP, if_neg h4, if_neg (by rw [hv]; simp [h2])] at h
  have := phrase_next toks k e true
  refine ⟨fun hi => ?_, fun hi => ?_⟩
  · rw [if_pos hi] at h
    exact ⟨phrase_in hlt, f, by omega, h⟩
  · rw [if_neg (by rw [hi]; simp)] at h
    exact h.symm
end
end Go.Proofs.YtngkedmndhmjcaaGreatDoor
/- Walk of parse.line.expr. (Printed by wip/gen/parse2.py.) -/
namespace Go.Proofs.YtngkedmndhmjcaaGreatDoor
open Go.RowKit

/-- an item's numbers lie in memory that stays -/
def numF (it : ItemV) : Fact := intE.sl (.slice it.nums.addr it.nums.list.length it.nums.cap) it.nums.list
def numsF (l : List ItemV) : Fact := Fact.each l numF
def tnF (st : List Todo) : Fact := Fact.each st fun o => match o with
  | none => Fact.true
  | some x => numF x.2
section
variable {F : List Fact} {b : Nat} {it : ItemV} {o : Todo} {l : List ItemV} {st : List Todo}
theorem tn_none (h : Has F (tnF st)) : Has F (tnF (none :: st)) := Has.each_cons Has.true h
theorem tn_some (h : Has F (tnF st)) (hx : Has F (numF it)) : Has F (tnF (some (b, it) :: st)) := Has.each_cons hx h
theorem tn_tail (h : Has F (tnF (o :: st))) : Has F (tnF st) := Has.each_tail h
theorem nums_add (h : Has F (numsF l)) (hx : Has F (numF it)) : Has F (numsF (l ++ [it])) := Has.each_snoc h hx
theorem nums_fin (hn : Has F (numsF l)) (h : Has F (tnF st)) : Has F (numsF (l ++ (finP st).1)) := by
  induction st generalizing l with
  | nil => rw [finP, List.append_nil]; exact hn
  | cons o st ih =>
    cases o with
    | none => rw [finP, List.append_nil]; exact hn
    | some x =>
      have := ih (nums_add hn (fun S w k => h S w k (some x) (List.mem_cons_self ..))) (tn_tail h)
      rw [List.append_assoc] at this
      exact this
theorem tn_fin (h : Has F (tnF st)) : Has F (tnF (finP st).2) := by
  induction st with
  | nil => exact h
  | cons o st ih =>
    cases o with
    | none => exact h
    | some x => exact ih (tn_tail h)
end
section
variable {toks : List TokV} {e : Int} {r : ExprR} {k o : Nat} {out : List ItemV} {st s2 : List Todo}
theorem b_num {s : Stk} (h : EInv toks e r k (out.map ItemV.it) s o) (h2 : (peekP toks k).kind = 2) {j : Nat} {cur : List Int} {C : Option Addr} {c : Nat} (hj : j = k + cur.length) (hc : numsFrom toks k = cur) :
    BInv toks e r j ((out ++ [(⟨1, (peekP toks k).at_, 0, [], ⟨C, c, cur⟩⟩ : ItemV)]).map ItemV.it) s o := by
  have := e_num h h2
  subst hc
  subst hj
  rw [List.map_append]
  exact this
theorem b_name {s : Stk} (h : EInv toks e r k (out.map ItemV.it) s o) (h1 : (peekP toks k).kind = 1) (hn : nameB (peekP toks k).word = true) :
    BInv toks e r (k + 1) ((out ++ [(⟨2, (peekP toks k).at_, 0, (peekP toks k).word, ⟨none, 0, []⟩⟩ : ItemV)]).map ItemV.it) s o := by
  rw [List.map_append]
  exact e_name h h1 hn
theorem b_closed (h : BInv toks e r k (out.map ItemV.it) (erase st) o) (ho : 0 < o) (h3 : (peekP toks k).kind = 3) (hw : (peekP toks k).word = [41]) (hs : (finP st).2 = none :: s2) :
    BInv toks e r (k + 1) ((out ++ (finP st).1).map ItemV.it) (erase s2) (o - 1) := by
  have h1 := b_close h ho h3 hw
  rw [← (fin_erase st).2, hs] at h1
  rw [List.map_append, (fin_erase st).1]
  exact h1
theorem r_ended (h : BInv toks e r k (out.map ItemV.it) (erase st) o) (h4 : (peekP toks k).kind = 4) (ho : ¬ 0 < o) : r = ((out ++ (finP st).1).map ItemV.it, (0, 0)) := by
  rw [List.map_append, (fin_erase st).1]
  exact r_end h h4 ho
theorem tok_word_len {s : Bs} (h : s.length ≤ 65536) : s.length ≤ 140737488355328 := by omega
end
theorem expr_zero_api_Fault : (Tryz.prog.info? 32).bind (·.zero) = some (.agg #[.int .i64 0, .int .i64 0]) := by kernel_rfl
theorem expr_zero_api_Token : (Tryz.prog.info? 54).bind (·.zero) = some (.agg #[.int .i64 0, .int .i64 0, .string (bs []), .int .i64 0]) := by kernel_rfl
theorem expr_built_api_Fault_  : Tryz.prog.built 32 [] = some #[.int .i64 0, .int .i64 0] := by kernel_rfl
theorem expr_built_api_Item_013 (z0 : Int) (z1 : Int) (s3 : ByteArray) : Tryz.prog.built 46 [(0, .int .i64 z0), (1, .int .i64 z1), (3, .string s3)] = some #[.int .i64 z0, .int .i64 z1, .int .u8 0, .string s3, .slice none 0 0] := by kernel_rfl
theorem expr_built_api_Item_01 (z0 : Int) (z1 : Int) : Tryz.prog.built 46 [(0, .int .i64 z0), (1, .int .i64 z1)] = some #[.int .i64 z0, .int .i64 z1, .int .u8 0, .string (bs []), .slice none 0 0] := by kernel_rfl
theorem expr_zero_api_Item : (Tryz.prog.info? 46).bind (·.zero) = some (.agg #[.int .i64 0, .int .i64 0, .int .u8 0, .string (bs []), .slice none 0 0]) := by kernel_rfl

set_option maxRecDepth 100000 in
theorem expr_spec (bl : Nat) (A : Option Addr) (c : Nat) (toks : List TokV) (k0 : Nat) (e : Int) (hk : k0 ≤ toks.length) (hl : toks.length ≤ 1000) (hw : ∀ k, (peekP toks k).word.length ≤ 65536) : Spec Tryz.prog 36 [.pointer (some ⟨bl, 0, none⟩)] [.obj bl (.cells [.slice A toks.length c, .int .i64 (k0 : Nat), .int .i64 e].toArray 52)] [tokE.sl (.slice A toks.length c) toks, globF] (fun (x : Option Addr × Nat × List ItemV × Nat) => .tuple #[.slice x.1 x.2.2.1.length x.2.1, .agg #[.int .i64 (exprP toks e k0).2.1, .int .i64 (exprP toks e k0).2.2]]) (fun (x : Option Addr × Nat × List ItemV × Nat) => [.obj bl (.cells [.slice A toks.length c, .int .i64 (x.2.2.2 : Nat), .int .i64 e].toArray 52)]) (fun (x : Option Addr × Nat × List ItemV × Nat) => [itemE.sl (.slice x.1 x.2.2.1.length x.2.1) x.2.2.1, numsF x.2.2.1, Fact.pure (x.2.2.1.map ItemV.it = (exprP toks e k0).1)]) := by
  have hT := showT_ok
  have he0 := e_start (e := e) hk
  generalize exprP toks e k0 = r at he0 ⊢
  refine spec_of Tryz.func36 rfl Tryz.ntmps36 rfl ?_
  intro β hM
  refine sr ?_
  refine at_box rfl rfl rfl rfl rfl rfl fun b1 => ?_
  refine sp hT ?_
  refine at_alloc rfl rfl rfl rfl expr_zero_api_Fault rfl fun b2 => ?_
  refine nn ?_
  refine sr ?_
  refine at_alloc rfl rfl rfl rfl itemZ rfl fun b4 => ?_
  refine nn ?_
  refine sr ?_
  refine at_alloc rfl rfl rfl rfl funcZ rfl fun b5 => ?_
  refine nn ?_
  refine sr ?_
  refine sp hT ?_
  refine nn ?_
  refine sr ?_
  refine sp2 hT ?_
  refine nn ?_
  refine sr ?_
  refine sp2 hT ?_
  refine nn ?_
  refine at_block ?_
  refine at_nilrow' (t := 46) itemE ?_
  refine at_nilrow' (t := 1) (fnE b4) ?_
  refine at_fact (numsF []) (Has.each_nil) ?_
  refine at_fact (tnF []) (Has.each_nil) ?_
  refine at_fact (todoF []) (todo_nil) ?_
  refine at_loop2 (ι := Nat × Nat × List ItemV × List Todo × Option Addr × Nat × Option Addr × Nat) [(1, _), (3, _), (4, _), (5, _), (7, _), (8, _)] ⟨rfl, rfl, rfl, rfl, rfl, rfl, trivial⟩ (fun ⟨k, o, out, st, C, e1, D, f⟩ => [(6, .int .i64 (o : Nat))]) (fun ⟨k, o, out, st, C, e1, D, f⟩ => [.obj bl (.cells [.slice A toks.length c, .int .i64 (k : Nat), .int .i64 e].toArray 52), .obj b4 (.cells [.slice C out.length e1].toArray 40), itemE.row (.slice C out.length e1) 46 out, .obj b5 (.cells [.slice D st.reverse.length f].toArray 102), (fnE b4).row (.slice D st.reverse.length f) 1 st.reverse]) (fun ⟨k, o, out, st, C, e1, D, f⟩ => [Fact.pure (EInv toks e r k (out.map ItemV.it) (erase st) o ∧ opens st = o ∧ o ≤ 32 ∧ out.length + st.length ≤ k ∧ k ≤ toks.length), todoF st, tnF st, numsF out]) (fun ⟨k, o, out, st, C, e1, D, f⟩ => toks.length - k) (k0, 0, [], [], none, 0, none, 0) ⟨rfl, trivial⟩ (.cons kT6 (.cons kT3 (.cons kT1 (.cons kT1 (.cons .head .nil))))) ⟨Has.pure (⟨he0, rfl, by omega, by simp, hk⟩), Has.of mT0, Has.of mT1, Has.of mT2, trivial⟩ ?_
  rintro ⟨k, o, out, st, C, e1, D, f⟩
  dsimp only
  refine at_know (Has.of mT0) fun hinv6 => ?_
  refine at_block ?_
  refine sr ?_
  refine ss (ldO hT (knows_own (off := 0) kT6)) ?_
  refine at_call (callFunc_enter Tryz.func32 rfl rfl) (peek_spec bl A c toks (k) e) rfl rfl rfl rfl rfl (.cons .head .nil) ⟨Has.of mT7, trivial⟩ fun _ => ?_
  refine at_alloc rfl rfl rfl rfl expr_zero_api_Token rfl fun b3 => ?_
  refine sto hT .head ?_
  refine nn ?_
  refine at_seq ?_
  refine at_block ?_
  refine sr ?_
  refine sp hT ?_
  refine ss (ldO hT (knows_own (off := 0) .head)) ?_
  refine sp2 hT ?_
  refine at_case (fun hg23 => ?_) (fun hg23 => ?_)
  · have hg23 := bne_iff_ne.1 hg23
    refine sp hT ?_
    refine ss (ldO hT (knows_own (off := 0) .head)) ?_
    refine sp3 hT ?_
    refine at_case (fun hg28 => ?_) (fun hg28 => ?_)
    · have hg28 := bne_iff_ne.1 hg28
      refine sp hT ?_
      refine ss (ldO hT (knows_own (off := 2) .head)) ?_
      refine at_call (callFunc_enter Tryz.func52 rfl rfl) (verb_spec _) rfl rfl rfl rfl rfl .nil trivial fun _ => ?_
      refine sp2 hT ?_
      refine nn ?_
      refine at_cond rfl (fun hc19 => ?_) (fun hc19 => ?_)
      · refine at_seq ?_
        refine sr ?_
        refine sp hT ?_
        refine at_callv (callFunc_enter Tryz.func54 rfl rfl) (laterF_spec bl A c toks (k) e b1 b5 b4 _ _ st (by omega) (by omega)) rfl rfl rfl rfl rfl rfl rfl (.cons kT1 (.cons kT6 (.cons kT3 (.cons kT3 .nil)))) ⟨(Has.of mT7), (Has.of mT1), trivial⟩ fun ⟨⟨A4, c5⟩, b6⟩ => ?_
        refine at_fact (tnF (some (b6, (phrI (phraseP toks (k) e false))) :: st)) (tn_some (Has.of mT3) has_nil) ?_
        refine at_alloc rfl rfl rfl rfl expr_zero_api_Fault rfl fun b7 => ?_
        refine sto hT .head ?_
        refine nn ?_
        refine sr ?_
        refine ss (ldN hT (knows_own (off := 0) .head)) ?_
        refine ss (sti_build rfl rfl (expr_built_api_Fault_)) ?_
        refine ss (sti_neq_flt ⟨(phraseP toks (k) e false).flt.1, (phraseP toks (k) e false).flt.2⟩ ⟨0, 0⟩ rfl rfl rfl) ?_
        refine nn ?_
        refine at_cond rfl (fun hc37 => ?_) (fun hc37 => ?_)
        · have hc37 := not_t hc37
          refine at_seq ?_
          refine at_mix _ _ [(true, 0), (true, 1), (false, 2)] mixes (by decide +kernel) (.cons .head (.cons .head (.cons .head (.cons .head (.cons .head (.cons .head (.cons .head (.cons .head .nil)))))))) HasAll.self ?_
          refine atm_sti rfl rfl rfl rfl (ldN hT (knows_own (off := 0) .head)) ?_
          refine atm_sti rfl rfl rfl rfl (sti_pure hT rfl) ?_
          refine atm_op (o := _) rfl ?_
          refine sto hT kT8 ?_
          refine atm_go (.cons kT1 (.cons kT1 (.cons kT1 (.cons kT1 (.cons kT1 (.cons kT1 (.cons kT1 (.cons kT1 .nil)))))))) (HasAll.drop 0) ?_
          refine atm_nil ?_
          refine n_then ?_
          refine at_ret ?_
          refine r_then ?_
          refine r_block ?_
          refine r_then ?_
          refine r_block ?_
          refine r_then ?_
          refine r_block ?_
          have hr := (e_verb hinv6.1 (by assumption) (by assumption) (by assumption)).2 hc37
          subst hr
          exact at_res2 (none, 0, [], _) rfl (rv_tmp rfl) (rv_cell hT (knows_own (off := 0) .head) rfl rfl rfl rfl) (.cons kT2 .nil) ⟨has_nil, Has.each_nil, Has.pure rfl, trivial⟩ rfl
        have hc37 := not_f hc37
        have he := (e_verb hinv6.1 (by assumption) (by assumption) (by assumption)).1 hc37
        refine at_skip ?_
        refine n_then ?_
        refine at_exit ?_
        refine x_pass rfl ?_
        refine x_then ?_
        refine x_block ?_
        refine n_then ?_
        exact at_back2 ((phraseP toks (k) e false).next, o, out, (some (b6, (phrI (phraseP toks (k) e false))) :: st), _, _, _, _) (by have := he.1; first | (have := phrase_next toks k e false; dsimp only; omega) | (have := phrase_next toks k e true; dsimp only; omega)) ⟨rfl, trivial⟩ ⟨rfl, rfl, rfl, rfl, rfl, rfl, trivial⟩ (.cons kT1 (.cons kT5 (.cons kT5 (.cons kT2 (.cons kT2 (.cons kT3 (.cons kT1 .nil))))))) ⟨Has.pure (⟨he, hinv6.2.1, hinv6.2.2.1, by have := phrase_next toks k e false; first | omega | (simp; omega), he.1⟩), Has.of mT1, Has.of mT0, Has.of mT5, trivial⟩ (HasAll.drop 6)
      refine sr ?_
      refine sp hT ?_
      refine ss (ldO hT (knows_own (off := 0) .head)) ?_
      refine sp2 hT ?_
      refine at_case (fun hg43 => ?_) (fun hg43 => ?_)
      · have hg43 := eq_of_beq hg43
        refine sp hT ?_
        refine ss (ldO hT (knows_own (off := 2) .head)) ?_
        refine sp3 hT ?_
        refine nn ?_
        refine at_cond rfl (fun hc39 => ?_) (fun hc39 => ?_)
        · have hc39 : (peekP toks (k)).word = ([40] : Bs) := eq_of_beq hc39
          refine at_seq ?_
          refine sr ?_
          refine sp2 hT ?_
          refine nn ?_
          refine at_cond rfl (fun hc49 => ?_) (fun hc49 => ?_)
          · have hc49 := eq_of_beq hc49
            refine sr ?_
            refine ss (ldO hT (knows_own (off := 0) kT7)) ?_
            refine at_call (callFunc_enter Tryz.func33 rfl rfl) (fault_spec bl A c toks (k) e _) rfl rfl rfl rfl rfl (.cons kT1 .nil) ⟨Has.of mT7, trivial⟩ fun _ => ?_
            refine sp hT ?_
            refine sto hT kT6 ?_
            refine nn ?_
            refine at_ret ?_
            refine r_then ?_
            refine r_block ?_
            refine r_then ?_
            refine r_block ?_
            refine r_then ?_
            refine r_block ?_
            have hr := (e_open hinv6.1 (by assumption) (by assumption)).2 (by omega)
            subst hr
            exact at_res2 (none, 0, [], _) rfl (rv_tmp rfl) (rv_cell hT (knows_own (off := 0) .head) rfl rfl rfl rfl) (.cons kT1 .nil) ⟨has_nil, Has.each_nil, Has.pure rfl, trivial⟩ rfl
          have hc49 := beq_eq_false_iff_ne.1 hc49
          have he := (e_open hinv6.1 (by assumption) (by assumption)).1 (by omega)
          refine at_skip ?_
          refine n_then ?_
          refine sr ?_
          refine sp2 hT ?_
          refine at_int (z' := (((o + 1) : Nat) : Int)) (wrapN (by omega) (by omega)) ?_
          refine sp hT ?_
          refine nn ?_
          refine sr ?_
          refine ss (ldO hT (knows_own (off := 0) kT7)) ?_
          refine sp2 hT ?_
          refine ss (ldO hT (knows_own (off := 1) kT1)) ?_
          refine sp hT ?_
          refine at_int (z' := (((k + 1) : Nat) : Int)) (wrapN (by omega) (by omega)) ?_
          refine sp2 hT ?_
          refine sto hT kT1 ?_
          refine nn ?_
          refine sr ?_
          refine ss (ldO hT (knows_own (off := 0) kT4)) ?_
          refine at_one_fn (b4 := b4) (m := (none : Todo)) rfl rfl rfl rfl rfl fun b8 => ?_
          refine at_app_fn kT6 (reads_obj .head rfl) rfl rfl rfl rfl rfl rfl rfl (by simp only [List.length_singleton, List.length_reverse]; omega) fun A9 c10 => ?_
          rw [← List.reverse_cons]
          refine at_fact (todoF (none :: st)) (todo_none (Has.of mT1)) ?_
          refine at_fact (tnF (none :: st)) (tn_none (Has.of mT3)) ?_
          refine sto hT kT6 ?_
          refine nn ?_
          refine at_exit ?_
          refine x_pass rfl ?_
          refine x_then ?_
          refine x_block ?_
          refine n_then ?_
          exact at_back2 ((k + 1), (o + 1), out, (none :: st), _, _, _, _) (by have := he.1; first | (have := phrase_next toks k e false; dsimp only; omega) | (have := phrase_next toks k e true; dsimp only; omega)) ⟨rfl, trivial⟩ ⟨rfl, rfl, rfl, rfl, rfl, rfl, trivial⟩ (.cons kT3 (.cons kT4 (.cons kT4 (.cons .head (.cons .head (.cons kT2 (.cons kT2 .nil))))))) ⟨Has.pure (⟨he, by show opens st + 1 = _; rw [hinv6.2.1], by dsimp only; omega, by first | omega | (simp; omega), he.1⟩), Has.of mT1, Has.of mT0, Has.of mT5, trivial⟩ (HasAll.drop 6)
        have hc39 : (peekP toks (k)).word ≠ ([40] : Bs) := fun h => absurd (beq_iff_eq.2 h) (by rw [show ((peekP toks (k)).word == ([40] : Bs)) = false from hc39]; simp)
        refine sr ?_
        refine sp hT ?_
        refine ss (ldO hT (knows_own (off := 0) .head)) ?_
        refine sp hT ?_
        refine at_bool (t' := false) (by rw [hg43]; rfl) ?_
        refine sp hT ?_
        refine nn ?_
        refine at_false rfl rfl ?_
        refine sr ?_
        refine sp hT ?_
        refine ss (ldO hT (knows_own (off := 0) .head)) ?_
        refine sp hT ?_
        refine at_bool (t' := false) (by rw [hg43]; rfl) ?_
        refine sp hT ?_
        refine sk3 ?_
        refine sp2 hT ?_
        refine nn ?_
        refine at_false rfl rfl ?_
        refine sr ?_
        refine sp hT ?_
        refine ss (ldO hT (knows_own (off := 0) .head)) ?_
        refine sp hT ?_
        refine at_bool (t' := false) (by rw [hg43]; rfl) ?_
        refine sp hT ?_
        refine nn ?_
        refine at_false rfl rfl ?_
        refine sr ?_
        refine ss (ldO hT (knows_own (off := 0) kT7)) ?_
        refine at_call (callFunc_enter Tryz.func33 rfl rfl) (fault_spec bl A c toks (k) e _) rfl rfl rfl rfl rfl (.cons kT1 .nil) ⟨Has.of mT7, trivial⟩ fun _ => ?_
        refine sp hT ?_
        refine sto hT kT6 ?_
        refine nn ?_
        refine at_ret ?_
        refine r_block ?_
        refine r_then ?_
        refine r_block ?_
        refine r_then ?_
        refine r_block ?_
        have hr := e_want hinv6.1 (by omega) (by omega) (by first | exact .inl (by assumption) | exact .inr (by assumption)) (by first | exact .inr (by assumption) | exact .inl (by omega))
        subst hr
        exact at_res2 (none, 0, [], _) rfl (rv_tmp rfl) (rv_cell hT (knows_own (off := 0) .head) rfl rfl rfl rfl) (.cons kT1 .nil) ⟨has_nil, Has.each_nil, Has.pure rfl, trivial⟩ rfl
      have hg43 := beq_eq_false_iff_ne.1 hg43
      refine sk3 ?_
      refine sp2 hT ?_
      refine nn ?_
      refine at_false rfl rfl ?_
      refine sr ?_
      refine sp hT ?_
      refine ss (ldO hT (knows_own (off := 0) .head)) ?_
      refine sp hT ?_
      refine at_bool (t' := false) (beq_eq_false_iff_ne.2 hg23) ?_
      refine sp hT ?_
      refine nn ?_
      refine at_false rfl rfl ?_
      refine sr ?_
      refine sp hT ?_
      refine ss (ldO hT (knows_own (off := 0) .head)) ?_
      refine sp2 hT ?_
      refine at_case (fun hg98 => ?_) (fun hg98 => ?_)
      · have hg98 := eq_of_beq hg98
        refine sp hT ?_
        refine ss (ldO hT (knows_own (off := 2) .head)) ?_
        refine at_call (callFunc_enter Tryz.func35 rfl rfl) (Name_spec _ (by have := hw k; omega)) rfl rfl rfl rfl rfl .nil ⟨Has.of mT8, trivial⟩ fun _ => ?_
        refine sp2 hT ?_
        refine nn ?_
        refine at_cond rfl (fun hc94 => ?_) (fun hc94 => ?_)
        · refine at_seq ?_
          have hbi := b_name hinv6.1 (by assumption) (by assumption)
          refine at_region ?_
          refine ss (ldO hT (knows_own (off := 0) kT2)) ?_
          refine sp hT ?_
          refine ss (ldO hT (knows_own (off := 1) .head)) ?_
          refine sp hT ?_
          refine ss (ldO hT (knows_own (off := 2) .head)) ?_
          refine ss (sti_build rfl rfl (expr_built_api_Item_013 _ _ _)) ?_
          refine at_one_item (m := (⟨2, (peekP toks k).at_, 0, (peekP toks k).word, ⟨none, 0, []⟩⟩ : ItemV)) rfl rfl rfl rfl rfl fun b11 => ?_
          refine at_app_item kT4 (reads_obj .head rfl) rfl rfl rfl rfl rfl rfl rfl (by simp only [List.length_singleton]; omega) fun A12 c13 => ?_
          refine at_fact (numsF (out ++ [(⟨2, (peekP toks k).at_, 0, (peekP toks k).word, ⟨none, 0, []⟩⟩ : ItemV)])) (nums_add (Has.of mT3) has_nil) ?_
          refine sto hT kT4 ?_
          refine nn ?_
          refine at_region ?_
          refine ss (ldO hT (knows_own (off := 0) kT8)) ?_
          refine sp2 hT ?_
          refine ss (ldO hT (knows_own (off := 1) kT4)) ?_
          refine sp hT ?_
          refine at_int (z' := (((k + 1) : Nat) : Int)) (wrapN (by omega) (by omega)) ?_
          refine sp2 hT ?_
          refine sto hT kT4 ?_
          refine at_nil ?_
          refine n_block ?_
          refine n_then ?_
          refine at_seq ?_
          refine sr ?_
          refine ss (ldO hT (knows_own (off := 0) kT8)) ?_
          refine at_call (callFunc_enter Tryz.func32 rfl rfl) (peek_spec bl A c toks ((k + 1)) e) rfl rfl rfl rfl rfl (.cons .head .nil) ⟨Has.of mT8, trivial⟩ fun _ => ?_
          refine sto hT kT4 ?_
          refine nn ?_
          refine at_block ?_
          obtain ⟨kk, hkk⟩ : ∃ kk, kk = k := ⟨_, rfl⟩
          refine at_loop2 (ι := Nat × Nat × List ItemV × List Todo × Option Addr × Nat × Option Addr × Nat) [(1, _), (3, _), (4, _), (5, _), (7, _), (8, _), (9, _), (24, _), (25, _), (26, _), (29, _), (30, _), (31, _), (44, _), (45, _), (46, _), (99, _), (100, _), (101, _)] ⟨rfl, rfl, rfl, rfl, rfl, rfl, rfl, rfl, rfl, rfl, rfl, rfl, rfl, rfl, rfl, rfl, rfl, rfl, rfl, trivial⟩ (fun ⟨k, o, out, st, C, e1, D, f⟩ => [(6, .int .i64 (o : Nat))]) (fun ⟨k, o, out, st, C, e1, D, f⟩ => [.obj bl (.cells [.slice A toks.length c, .int .i64 (k : Nat), .int .i64 e].toArray 52), .obj b4 (.cells [.slice C out.length e1].toArray 40), itemE.row (.slice C out.length e1) 46 out, .obj b5 (.cells [.slice D st.reverse.length f].toArray 102), (fnE b4).row (.slice D st.reverse.length f) 1 st.reverse, .obj b3 (.cells [.int .i64 (peekP toks k).kind, .int .i64 (peekP toks k).at_, .string (bs (peekP toks k).word), .int .i64 (peekP toks k).n].toArray 54)]) (fun ⟨k, o, out, st, C, e1, D, f⟩ => [Fact.pure (BInv toks e r k (out.map ItemV.it) (erase st) o ∧ opens st = o ∧ o ≤ 32 ∧ out.length + st.length ≤ k ∧ k ≤ toks.length ∧ kk < k), todoF st, tnF st, numsF out]) (fun ⟨k, o, out, st, C, e1, D, f⟩ => toks.length - k) ((k + 1), o, (out ++ [(⟨2, (peekP toks k).at_, 0, (peekP toks k).word, ⟨none, 0, []⟩⟩ : ItemV)]), st, _, _, _, _) ⟨rfl, trivial⟩ (.cons kT1 (.cons kT1 (.cons kT1 (.cons kT2 (.cons kT2 (.cons .head .nil)))))) ⟨Has.pure (⟨hbi, hinv6.2.1, hinv6.2.2.1, by first | omega | (simp; omega), hbi.1, by omega⟩), Has.of mT2, Has.of mT3, Has.of mT0, trivial⟩ ?_
          rintro ⟨k, o, out, st, C, e1, D, f⟩
          dsimp only
          refine at_know (Has.of mT0) fun hinv30 => ?_
          refine at_seq ?_
          refine sr ?_
          refine sp3 hT ?_
          refine at_case (fun hg128 => ?_) (fun hg128 => ?_)
          · have hg128 := of_decide_eq_true hg128
            refine sp hT ?_
            refine ss (ldO hT (knows_own (off := 0) kT5)) ?_
            refine sp3 hT ?_
            refine at_case (fun hg133 => ?_) (fun hg133 => ?_)
            · have hg133 := eq_of_beq hg133
              refine sp hT ?_
              refine ss (ldO hT (knows_own (off := 2) kT5)) ?_
              refine sp2 hT ?_
              refine nn ?_
              refine at_cond rfl (fun hc137 => ?_) (fun hc137 => ?_)
              · have hc137 : (peekP toks k).word = ([41] : Bs) := eq_of_beq hc137
                refine at_skip ?_
                refine n_then ?_
                refine at_seq ?_
                refine at_block ?_
                refine sr ?_
                refine sp hT ?_
                refine at_callv (callFunc_enter Tryz.func53 rfl rfl) (finish_spec b5 b4 _ _ st _ _ out (by omega)) rfl rfl rfl rfl rfl rfl rfl (.cons kT3 (.cons kT3 (.cons kT1 (.cons kT1 .nil)))) ⟨(Has.of mT1), trivial⟩ fun ⟨⟨D14, f15⟩, ⟨C16, e17⟩⟩ => ?_
                refine at_fact (numsF (out ++ (finP st).1)) (nums_fin (Has.of mT4) (Has.of mT3)) ?_
                refine at_fact (tnF (finP st).2) (tn_fin (Has.of mT4)) ?_
                have hfl := fin_len st
                obtain ⟨s2, hs2, ho2⟩ := fin_open (st := st) (by omega)
                have hb2 := b_closed hinv30.1 (by omega) (by assumption) (by assumption) hs2
                rw [hs2] at hfl ⊢
                simp only [List.length_cons] at hfl
                refine at_fact (todoF s2) (todo_tail (Has.of mT2)) ?_
                refine at_fact (tnF s2) (tn_tail (Has.of mT1)) ?_
                refine nn ?_
                refine sr ?_
                refine ss (ldO hT (knows_own (off := 0) .head)) ?_
                refine ss (ldO hT (knows_own (off := 0) .head)) ?_
                refine sp hT ?_
                refine at_int (z' := (((s2.length + 1) : Nat) : Int)) (congrArg Nat.cast (todo_len _ s2)) ?_
                refine sp hT ?_
                refine at_int (z' := ((((s2.length + 1) - 1) : Nat) : Int)) (wrapN (by omega) (by omega)) ?_
                refine at_trunc hT (k := ((s2.length + 1) - 1)) kT1 rfl rfl rfl rfl rfl rfl rfl rfl rfl (by rw [todo_len]; omega) ?_
                rw [todo_init]
                refine sto hT kT1 ?_
                refine nn ?_
                refine sr ?_
                refine sp2 hT ?_
                refine at_int (z' := (((o - 1) : Nat) : Int)) (wrapN (by omega) (by omega)) ?_
                refine sp hT ?_
                refine nn ?_
                refine at_region ?_
                refine ss (ldO hT (knows_own (off := 0) kT8)) ?_
                refine sp2 hT ?_
                refine ss (ldO hT (knows_own (off := 1) kT4)) ?_
                refine sp hT ?_
                refine at_int (z' := (((k + 1) : Nat) : Int)) (wrapN (by omega) (by omega)) ?_
                refine sp2 hT ?_
                refine sto hT kT4 ?_
                refine at_nil ?_
                refine n_block ?_
                refine n_then ?_
                refine at_region ?_
                refine ss (ldO hT (knows_own (off := 0) kT8)) ?_
                refine at_call (callFunc_enter Tryz.func32 rfl rfl) (peek_spec bl A c toks ((k + 1)) e) rfl rfl rfl rfl rfl (.cons .head .nil) ⟨Has.of (.tail _ (.tail _ (.tail _ (.tail _ (.tail _ (.tail _ (.tail _ (.tail _ (.tail _ (.tail _ (.tail _ (.tail _ (.tail _ (.tail _ (.tail _ (.tail _ (.tail _ mT0))))))))))))))))), trivial⟩ fun _ => ?_
                refine sto hT kT5 ?_
                refine nn ?_
                exact at_back2 ((k + 1), (o - 1), (out ++ (finP st).1), s2, _, _, _, _) (by have := hb2.1; dsimp only; omega) ⟨rfl, trivial⟩ ⟨rfl, rfl, rfl, rfl, rfl, rfl, rfl, rfl, rfl, rfl, rfl, rfl, rfl, rfl, rfl, rfl, rfl, rfl, rfl, trivial⟩ (.cons kT1 (.cons kT3 (.cons kT3 (.cons kT1 (.cons kT1 (.cons .head (.cons .head (.cons .head (.cons .head .nil))))))))) ⟨Has.pure (⟨hb2, by dsimp only; omega, by dsimp only; omega, by first | omega | (simp; omega), hb2.1, by dsimp only; omega⟩), Has.of mT1, Has.of mT0, Has.of mT3, trivial⟩ (HasAll.drop 9)
              have hc137 : (peekP toks k).word ≠ ([41] : Bs) := fun h => absurd (beq_iff_eq.2 h) (by rw [show ((peekP toks k).word == ([41] : Bs)) = false from hc137]; simp)
              refine at_exit ?_
              refine x_then ?_
              refine x_then ?_
              refine x_block ?_
              refine n_then ?_
              refine at_seq ?_
              refine at_block ?_
              refine sr ?_
              refine sp hT ?_
              refine ss (ldO hT (knows_own (off := 0) kT5)) ?_
              refine sp hT ?_
              refine at_bool (t' := false) (by rw [hg133]; rfl) ?_
              refine sp hT ?_
              refine sk2 ?_
              refine sp2 hT ?_
              refine nn ?_
              refine at_false rfl rfl ?_
              refine sr ?_
              refine sp hT ?_
              refine ss (ldO hT (knows_own (off := 0) kT5)) ?_
              refine sp hT ?_
              refine at_bool (t' := false) (by rw [hg133]; rfl) ?_
              refine sp hT ?_
              refine nn ?_
              refine at_false rfl rfl ?_
              refine sr ?_
              refine sp hT ?_
              refine ss (ldO hT (knows_own (off := 0) kT5)) ?_
              refine sp hT ?_
              refine at_bool (t' := false) (by rw [hg133]; rfl) ?_
              refine sp2 hT ?_
              refine ss (ldO hT (knows_own (off := 2) kT5)) ?_
              refine at_call (callFunc_enter Tryz.func52 rfl rfl) (verb_spec _) rfl rfl rfl rfl rfl .nil trivial fun _ => ?_
              refine sp3 hT ?_
              refine nn ?_
              refine at_cond rfl (fun hc174 => ?_) (fun hc174 => ?_)
              · have hc174 := not_t hc174
                refine sr ?_
                refine ss (ldO hT (knows_own (off := 0) kT8)) ?_
                refine at_call (callFunc_enter Tryz.func33 rfl rfl) (fault_spec bl A c toks (k) e _) rfl rfl rfl rfl rfl (.cons .head .nil) ⟨Has.of mT12, trivial⟩ fun _ => ?_
                refine sp hT ?_
                refine sto hT kT7 ?_
                refine nn ?_
                refine at_ret ?_
                refine r_block ?_
                refine r_then ?_
                refine r_block ?_
                refine r_then ?_
                refine r_block ?_
                have hr := r_more hinv30.1 (by first | exact .inl (by omega) | exact .inr (.inl (by assumption)) | exact .inr (.inr (by assumption))) (by omega) (by first | exact .inr (by assumption) | exact .inl (by omega))
                subst hr
                exact at_res2 (none, 0, [], _) rfl (rv_tmp rfl) (rv_cell hT (knows_own (off := 0) .head) rfl rfl rfl rfl) (.cons kT1 .nil) ⟨has_nil, Has.each_nil, Has.pure rfl, trivial⟩ rfl
              have hc174 := not_f hc174
              refine at_skip ?_
              refine n_block ?_
              refine n_then ?_
              refine sr ?_
              refine sp hT ?_
              refine at_callv (callFunc_enter Tryz.func54 rfl rfl) (laterT_spec bl A c toks (k) e b1 b5 b4 _ _ st (by omega) (by omega)) rfl rfl rfl rfl rfl rfl rfl (.cons .head (.cons kT7 (.cons kT2 (.cons kT2 .nil)))) ⟨(Has.of mT12), (Has.of mT1), trivial⟩ fun ⟨⟨A18, c19⟩, b20⟩ => ?_
              refine at_fact (tnF (some (b20, (phrI (phraseP toks (k) e true))) :: st)) (tn_some (Has.of mT3) has_nil) ?_
              refine at_alloc rfl rfl rfl rfl expr_zero_api_Fault rfl fun b21 => ?_
              refine sto hT .head ?_
              refine nn ?_
              refine sr ?_
              refine ss (ldN hT (knows_own (off := 0) .head)) ?_
              refine ss (sti_build rfl rfl (expr_built_api_Fault_)) ?_
              refine ss (sti_neq_flt ⟨(phraseP toks (k) e true).flt.1, (phraseP toks (k) e true).flt.2⟩ ⟨0, 0⟩ rfl rfl rfl) ?_
              refine nn ?_
              refine at_cond rfl (fun hc190 => ?_) (fun hc190 => ?_)
              · have hc190 := not_t hc190
                refine at_seq ?_
                refine at_mix _ _ [(true, 0), (true, 1), (false, 2)] mixes (by decide +kernel) (.cons .head (.cons .head (.cons .head (.cons .head (.cons .head (.cons .head (.cons .head (.cons .head (.cons .head .nil))))))))) HasAll.self ?_
                refine atm_sti rfl rfl rfl rfl (ldN hT (knows_own (off := 0) .head)) ?_
                refine atm_sti rfl rfl rfl rfl (sti_pure hT rfl) ?_
                refine atm_op (o := _) rfl ?_
                refine sto hT kT9 ?_
                refine atm_go (.cons kT1 (.cons kT1 (.cons kT1 (.cons kT1 (.cons kT1 (.cons kT1 (.cons kT1 (.cons kT1 (.cons kT1 .nil))))))))) (HasAll.drop 0) ?_
                refine atm_nil ?_
                refine n_then ?_
                refine at_ret ?_
                refine r_block ?_
                refine r_then ?_
                refine r_block ?_
                have hr := (r_verb hinv30.1 (by first | exact .inl (by omega) | exact .inr (.inl (by assumption)) | exact .inr (.inr (by assumption))) (by omega) (by omega) (by assumption)).2 hc190
                subst hr
                exact at_res2 (none, 0, [], _) rfl (rv_tmp rfl) (rv_cell hT (knows_own (off := 0) .head) rfl rfl rfl rfl) (.cons kT2 .nil) ⟨has_nil, Has.each_nil, Has.pure rfl, trivial⟩ rfl
              have hc190 := not_f hc190
              have he := (r_verb hinv30.1 (by first | exact .inl (by omega) | exact .inr (.inl (by assumption)) | exact .inr (.inr (by assumption))) (by omega) (by omega) (by assumption)).1 hc190
              refine at_skip ?_
              refine n_block ?_
              refine n_then ?_
              exact at_back2 ((phraseP toks (k) e true).next, o, out, (some (b20, (phrI (phraseP toks (k) e true))) :: st), _, _, _, _) (by have := he.1; first | (have := phrase_next toks k e false; dsimp only; omega) | (have := phrase_next toks k e true; dsimp only; omega)) ⟨rfl, trivial⟩ ⟨rfl, rfl, rfl, rfl, rfl, rfl, trivial⟩ (.cons kT1 (.cons kT4 (.cons kT4 (.cons kT2 (.cons kT2 (.cons kT4 (.cons kT1 .nil))))))) ⟨Has.pure (⟨he, hinv30.2.1, hinv30.2.2.1, by have := phrase_next toks k e true; first | omega | (simp; omega), he.1⟩), Has.of mT1, Has.of mT0, Has.of mT5, trivial⟩ (HasAll.drop 11)
            have hg133 := beq_eq_false_iff_ne.1 hg133
            refine sk3 ?_
            refine sp hT ?_
            refine nn ?_
            refine at_false rfl rfl ?_
            refine at_exit ?_
            refine x_then ?_
            refine x_then ?_
            refine x_block ?_
            refine n_then ?_
            refine at_seq ?_
            refine at_block ?_
            refine sr ?_
            refine sp hT ?_
            refine ss (ldO hT (knows_own (off := 0) kT5)) ?_
            refine sp2 hT ?_
            refine at_case (fun hg160 => ?_) (fun hg160 => ?_)
            · have hg160 := eq_of_beq hg160
              refine sp4 hT ?_
              refine nn ?_
              refine at_cond rfl (fun hc156 => ?_) (fun hc156 => ?_)
              · have hc156 := of_decide_eq_true hc156
                refine sr ?_
                refine ss (ldO hT (knows_own (off := 0) kT8)) ?_
                refine at_call (callFunc_enter Tryz.func33 rfl rfl) (fault_spec bl A c toks (k) e _) rfl rfl rfl rfl rfl (.cons .head .nil) ⟨Has.of mT12, trivial⟩ fun _ => ?_
                refine sp hT ?_
                refine sto hT kT7 ?_
                refine nn ?_
                refine at_ret ?_
                refine r_block ?_
                refine r_then ?_
                refine r_block ?_
                refine r_then ?_
                refine r_block ?_
                have hr := r_open hinv30.1 (by assumption) (by omega)
                subst hr
                exact at_res2 (none, 0, [], _) rfl (rv_tmp rfl) (rv_cell hT (knows_own (off := 0) .head) rfl rfl rfl rfl) (.cons kT1 .nil) ⟨has_nil, Has.each_nil, Has.pure rfl, trivial⟩ rfl
              have hc156 := Int.not_lt.1 (of_decide_eq_false hc156)
              refine sr ?_
              refine sp hT ?_
              refine ss (ldO hT (knows_own (off := 0) kT5)) ?_
              refine sp hT ?_
              refine at_bool (t' := true) (by rw [hg160]; rfl) ?_
              refine sp hT ?_
              refine nn ?_
              refine at_true rfl rfl ?_
              refine sr ?_
              refine sp hT ?_
              refine at_callv (callFunc_enter Tryz.func53 rfl rfl) (finish_spec b5 b4 _ _ st _ _ out (by omega)) rfl rfl rfl rfl rfl rfl rfl (.cons kT3 (.cons kT3 (.cons kT1 (.cons kT1 .nil)))) ⟨(Has.of mT1), trivial⟩ fun ⟨⟨D22, f23⟩, ⟨C24, e25⟩⟩ => ?_
              refine at_fact (numsF (out ++ (finP st).1)) (nums_fin (Has.of mT4) (Has.of mT3)) ?_
              refine at_fact (tnF (finP st).2) (tn_fin (Has.of mT4)) ?_
              have hfl := fin_len st
              refine nn ?_
              refine sr ?_
              refine ss (ldO hT (knows_own (off := 0) kT2)) ?_
              refine ss (sti_build rfl rfl (expr_built_api_Fault_)) ?_
              refine sp hT ?_
              refine sto hT kT7 ?_
              refine nn ?_
              refine at_ret ?_
              refine r_block ?_
              refine r_then ?_
              refine r_block ?_
              refine r_then ?_
              refine r_block ?_
              have hr := r_ended hinv30.1 (by assumption) (by omega)
              subst hr
              refine at_freeze kT4 ?_
              exact at_res2 (_, _, (out ++ (finP st).1), _) rfl (rv_tmp rfl) (rv_cell hT (knows_own (off := 0) .head) rfl rfl rfl rfl) (.cons kT4 .nil) ⟨Has.of mT0, (Has.of mT2), Has.pure rfl, trivial⟩ rfl
            have hg160 := beq_eq_false_iff_ne.1 hg160
            refine sk2 ?_
            refine sp2 hT ?_
            refine nn ?_
            refine at_false rfl rfl ?_
            refine sr ?_
            refine sp hT ?_
            refine ss (ldO hT (knows_own (off := 0) kT5)) ?_
            refine sp hT ?_
            refine at_bool (t' := false) (beq_eq_false_iff_ne.2 hg160) ?_
            refine sp hT ?_
            refine nn ?_
            refine at_false rfl rfl ?_
            refine sr ?_
            refine sp hT ?_
            refine ss (ldO hT (knows_own (off := 0) kT5)) ?_
            refine sp2 hT ?_
            refine at_case (fun hg178 => ?_) (fun hg178 => ?_)
            · have hg178 := eq_of_beq hg178
              refine sk4 ?_
              refine sp2 hT ?_
              refine nn ?_
              refine at_true rfl rfl ?_
              refine sr ?_
              refine ss (ldO hT (knows_own (off := 0) kT8)) ?_
              refine at_call (callFunc_enter Tryz.func33 rfl rfl) (fault_spec bl A c toks (k) e _) rfl rfl rfl rfl rfl (.cons .head .nil) ⟨Has.of mT12, trivial⟩ fun _ => ?_
              refine sp hT ?_
              refine sto hT kT7 ?_
              refine nn ?_
              refine at_ret ?_
              refine r_block ?_
              refine r_then ?_
              refine r_block ?_
              refine r_then ?_
              refine r_block ?_
              have hr := r_more hinv30.1 (by first | exact .inl (by omega) | exact .inr (.inl (by assumption)) | exact .inr (.inr (by assumption))) (by omega) (by first | exact .inr (by assumption) | exact .inl (by omega))
              subst hr
              exact at_res2 (none, 0, [], _) rfl (rv_tmp rfl) (rv_cell hT (knows_own (off := 0) .head) rfl rfl rfl rfl) (.cons kT1 .nil) ⟨has_nil, Has.each_nil, Has.pure rfl, trivial⟩ rfl
            have hg178 := beq_eq_false_iff_ne.1 hg178
            refine sp hT ?_
            refine ss (ldO hT (knows_own (off := 2) kT5)) ?_
            refine at_call (callFunc_enter Tryz.func52 rfl rfl) (verb_spec _) rfl rfl rfl rfl rfl .nil trivial fun _ => ?_
            refine sp3 hT ?_
            refine nn ?_
            refine at_cond rfl (fun hc174 => ?_) (fun hc174 => ?_)
            · have hc174 := not_t hc174
              refine sr ?_
              refine ss (ldO hT (knows_own (off := 0) kT8)) ?_
              refine at_call (callFunc_enter Tryz.func33 rfl rfl) (fault_spec bl A c toks (k) e _) rfl rfl rfl rfl rfl (.cons .head .nil) ⟨Has.of mT12, trivial⟩ fun _ => ?_
              refine sp hT ?_
              refine sto hT kT7 ?_
              refine nn ?_
              refine at_ret ?_
              refine r_block ?_
              refine r_then ?_
              refine r_block ?_
              refine r_then ?_
              refine r_block ?_
              have hr := r_more hinv30.1 (by first | exact .inl (by omega) | exact .inr (.inl (by assumption)) | exact .inr (.inr (by assumption))) (by omega) (by first | exact .inr (by assumption) | exact .inl (by omega))
              subst hr
              exact at_res2 (none, 0, [], _) rfl (rv_tmp rfl) (rv_cell hT (knows_own (off := 0) .head) rfl rfl rfl rfl) (.cons kT1 .nil) ⟨has_nil, Has.each_nil, Has.pure rfl, trivial⟩ rfl
            have hc174 := not_f hc174
            refine at_skip ?_
            refine n_block ?_
            refine n_then ?_
            refine sr ?_
            refine sp hT ?_
            refine at_callv (callFunc_enter Tryz.func54 rfl rfl) (laterT_spec bl A c toks (k) e b1 b5 b4 _ _ st (by omega) (by omega)) rfl rfl rfl rfl rfl rfl rfl (.cons .head (.cons kT7 (.cons kT2 (.cons kT2 .nil)))) ⟨(Has.of mT12), (Has.of mT1), trivial⟩ fun ⟨⟨A26, c27⟩, b28⟩ => ?_
            refine at_fact (tnF (some (b28, (phrI (phraseP toks (k) e true))) :: st)) (tn_some (Has.of mT3) has_nil) ?_
            refine at_alloc rfl rfl rfl rfl expr_zero_api_Fault rfl fun b29 => ?_
            refine sto hT .head ?_
            refine nn ?_
            refine sr ?_
            refine ss (ldN hT (knows_own (off := 0) .head)) ?_
            refine ss (sti_build rfl rfl (expr_built_api_Fault_)) ?_
            refine ss (sti_neq_flt ⟨(phraseP toks (k) e true).flt.1, (phraseP toks (k) e true).flt.2⟩ ⟨0, 0⟩ rfl rfl rfl) ?_
            refine nn ?_
            refine at_cond rfl (fun hc190 => ?_) (fun hc190 => ?_)
            · have hc190 := not_t hc190
              refine at_seq ?_
              refine at_mix _ _ [(true, 0), (true, 1), (false, 2)] mixes (by decide +kernel) (.cons .head (.cons .head (.cons .head (.cons .head (.cons .head (.cons .head (.cons .head (.cons .head (.cons .head .nil))))))))) HasAll.self ?_
              refine atm_sti rfl rfl rfl rfl (ldN hT (knows_own (off := 0) .head)) ?_
              refine atm_sti rfl rfl rfl rfl (sti_pure hT rfl) ?_
              refine atm_op (o := _) rfl ?_
              refine sto hT kT9 ?_
              refine atm_go (.cons kT1 (.cons kT1 (.cons kT1 (.cons kT1 (.cons kT1 (.cons kT1 (.cons kT1 (.cons kT1 (.cons kT1 .nil))))))))) (HasAll.drop 0) ?_
              refine atm_nil ?_
              refine n_then ?_
              refine at_ret ?_
              refine r_block ?_
              refine r_then ?_
              refine r_block ?_
              have hr := (r_verb hinv30.1 (by first | exact .inl (by omega) | exact .inr (.inl (by assumption)) | exact .inr (.inr (by assumption))) (by omega) (by omega) (by assumption)).2 hc190
              subst hr
              exact at_res2 (none, 0, [], _) rfl (rv_tmp rfl) (rv_cell hT (knows_own (off := 0) .head) rfl rfl rfl rfl) (.cons kT2 .nil) ⟨has_nil, Has.each_nil, Has.pure rfl, trivial⟩ rfl
            have hc190 := not_f hc190
            have he := (r_verb hinv30.1 (by first | exact .inl (by omega) | exact .inr (.inl (by assumption)) | exact .inr (.inr (by assumption))) (by omega) (by omega) (by assumption)).1 hc190
            refine at_skip ?_
            refine n_block ?_
            refine n_then ?_
            exact at_back2 ((phraseP toks (k) e true).next, o, out, (some (b28, (phrI (phraseP toks (k) e true))) :: st), _, _, _, _) (by have := he.1; first | (have := phrase_next toks k e false; dsimp only; omega) | (have := phrase_next toks k e true; dsimp only; omega)) ⟨rfl, trivial⟩ ⟨rfl, rfl, rfl, rfl, rfl, rfl, trivial⟩ (.cons kT1 (.cons kT4 (.cons kT4 (.cons kT2 (.cons kT2 (.cons kT4 (.cons kT1 .nil))))))) ⟨Has.pure (⟨he, hinv30.2.1, hinv30.2.2.1, by have := phrase_next toks k e true; first | omega | (simp; omega), he.1⟩), Has.of mT1, Has.of mT0, Has.of mT5, trivial⟩ (HasAll.drop 11)
          have hg128 := Int.not_lt.1 (of_decide_eq_false hg128)
          refine sk3 ?_
          refine sp2 hT ?_
          refine sk3 ?_
          refine sp hT ?_
          refine nn ?_
          refine at_false rfl rfl ?_
          refine at_exit ?_
          refine x_then ?_
          refine x_then ?_
          refine x_block ?_
          refine n_then ?_
          refine at_seq ?_
          refine at_block ?_
          refine sr ?_
          refine sp hT ?_
          refine ss (ldO hT (knows_own (off := 0) kT5)) ?_
          refine sp2 hT ?_
          refine at_case (fun hg160 => ?_) (fun hg160 => ?_)
          · have hg160 := eq_of_beq hg160
            refine sp4 hT ?_
            refine nn ?_
            refine at_cond rfl (fun hc156 => ?_) (fun hc156 => ?_)
            · have hc156 := of_decide_eq_true hc156
              refine sr ?_
              refine ss (ldO hT (knows_own (off := 0) kT8)) ?_
              refine at_call (callFunc_enter Tryz.func33 rfl rfl) (fault_spec bl A c toks (k) e _) rfl rfl rfl rfl rfl (.cons .head .nil) ⟨Has.of mT12, trivial⟩ fun _ => ?_
              refine sp hT ?_
              refine sto hT kT7 ?_
              refine nn ?_
              refine at_ret ?_
              refine r_block ?_
              refine r_then ?_
              refine r_block ?_
              refine r_then ?_
              refine r_block ?_
              have hr := r_open hinv30.1 (by assumption) (by omega)
              subst hr
              exact at_res2 (none, 0, [], _) rfl (rv_tmp rfl) (rv_cell hT (knows_own (off := 0) .head) rfl rfl rfl rfl) (.cons kT1 .nil) ⟨has_nil, Has.each_nil, Has.pure rfl, trivial⟩ rfl
            have hc156 := Int.not_lt.1 (of_decide_eq_false hc156)
            refine sr ?_
            refine sp hT ?_
            refine ss (ldO hT (knows_own (off := 0) kT5)) ?_
            refine sp hT ?_
            refine at_bool (t' := true) (by rw [hg160]; rfl) ?_
            refine sp hT ?_
            refine nn ?_
            refine at_true rfl rfl ?_
            refine sr ?_
            refine sp hT ?_
            refine at_callv (callFunc_enter Tryz.func53 rfl rfl) (finish_spec b5 b4 _ _ st _ _ out (by omega)) rfl rfl rfl rfl rfl rfl rfl (.cons kT3 (.cons kT3 (.cons kT1 (.cons kT1 .nil)))) ⟨(Has.of mT1), trivial⟩ fun ⟨⟨D30, f31⟩, ⟨C32, e33⟩⟩ => ?_
            refine at_fact (numsF (out ++ (finP st).1)) (nums_fin (Has.of mT4) (Has.of mT3)) ?_
            refine at_fact (tnF (finP st).2) (tn_fin (Has.of mT4)) ?_
            have hfl := fin_len st
            refine nn ?_
            refine sr ?_
            refine ss (ldO hT (knows_own (off := 0) kT2)) ?_
            refine ss (sti_build rfl rfl (expr_built_api_Fault_)) ?_
            refine sp hT ?_
            refine sto hT kT7 ?_
            refine nn ?_
            refine at_ret ?_
            refine r_block ?_
            refine r_then ?_
            refine r_block ?_
            refine r_then ?_
            refine r_block ?_
            have hr := r_ended hinv30.1 (by assumption) (by omega)
            subst hr
            refine at_freeze kT4 ?_
            exact at_res2 (_, _, (out ++ (finP st).1), _) rfl (rv_tmp rfl) (rv_cell hT (knows_own (off := 0) .head) rfl rfl rfl rfl) (.cons kT4 .nil) ⟨Has.of mT0, (Has.of mT2), Has.pure rfl, trivial⟩ rfl
          have hg160 := beq_eq_false_iff_ne.1 hg160
          refine sk2 ?_
          refine sp2 hT ?_
          refine nn ?_
          refine at_false rfl rfl ?_
          refine sr ?_
          refine sp hT ?_
          refine ss (ldO hT (knows_own (off := 0) kT5)) ?_
          refine sp hT ?_
          refine at_bool (t' := false) (beq_eq_false_iff_ne.2 hg160) ?_
          refine sp hT ?_
          refine nn ?_
          refine at_false rfl rfl ?_
          refine sr ?_
          refine sp hT ?_
          refine ss (ldO hT (knows_own (off := 0) kT5)) ?_
          refine sp2 hT ?_
          refine at_case (fun hg178 => ?_) (fun hg178 => ?_)
          · have hg178 := eq_of_beq hg178
            refine sk4 ?_
            refine sp2 hT ?_
            refine nn ?_
            refine at_true rfl rfl ?_
            refine sr ?_
            refine ss (ldO hT (knows_own (off := 0) kT8)) ?_
            refine at_call (callFunc_enter Tryz.func33 rfl rfl) (fault_spec bl A c toks (k) e _) rfl rfl rfl rfl rfl (.cons .head .nil) ⟨Has.of mT12, trivial⟩ fun _ => ?_
            refine sp hT ?_
            refine sto hT kT7 ?_
            refine nn ?_
            refine at_ret ?_
            refine r_block ?_
            refine r_then ?_
            refine r_block ?_
            refine r_then ?_
            refine r_block ?_
            have hr := r_more hinv30.1 (by first | exact .inl (by omega) | exact .inr (.inl (by assumption)) | exact .inr (.inr (by assumption))) (by omega) (by first | exact .inr (by assumption) | exact .inl (by omega))
            subst hr
            exact at_res2 (none, 0, [], _) rfl (rv_tmp rfl) (rv_cell hT (knows_own (off := 0) .head) rfl rfl rfl rfl) (.cons kT1 .nil) ⟨has_nil, Has.each_nil, Has.pure rfl, trivial⟩ rfl
          have hg178 := beq_eq_false_iff_ne.1 hg178
          refine sp hT ?_
          refine ss (ldO hT (knows_own (off := 2) kT5)) ?_
          refine at_call (callFunc_enter Tryz.func52 rfl rfl) (verb_spec _) rfl rfl rfl rfl rfl .nil trivial fun _ => ?_
          refine sp3 hT ?_
          refine nn ?_
          refine at_cond rfl (fun hc174 => ?_) (fun hc174 => ?_)
          · have hc174 := not_t hc174
            refine sr ?_
            refine ss (ldO hT (knows_own (off := 0) kT8)) ?_
            refine at_call (callFunc_enter Tryz.func33 rfl rfl) (fault_spec bl A c toks (k) e _) rfl rfl rfl rfl rfl (.cons .head .nil) ⟨Has.of mT12, trivial⟩ fun _ => ?_
            refine sp hT ?_
            refine sto hT kT7 ?_
            refine nn ?_
            refine at_ret ?_
            refine r_block ?_
            refine r_then ?_
            refine r_block ?_
            refine r_then ?_
            refine r_block ?_
            have hr := r_more hinv30.1 (by first | exact .inl (by omega) | exact .inr (.inl (by assumption)) | exact .inr (.inr (by assumption))) (by omega) (by first | exact .inr (by assumption) | exact .inl (by omega))
            subst hr
            exact at_res2 (none, 0, [], _) rfl (rv_tmp rfl) (rv_cell hT (knows_own (off := 0) .head) rfl rfl rfl rfl) (.cons kT1 .nil) ⟨has_nil, Has.each_nil, Has.pure rfl, trivial⟩ rfl
          have hc174 := not_f hc174
          refine at_skip ?_
          refine n_block ?_
          refine n_then ?_
          refine sr ?_
          refine sp hT ?_
          refine at_callv (callFunc_enter Tryz.func54 rfl rfl) (laterT_spec bl A c toks (k) e b1 b5 b4 _ _ st (by omega) (by omega)) rfl rfl rfl rfl rfl rfl rfl (.cons .head (.cons kT7 (.cons kT2 (.cons kT2 .nil)))) ⟨(Has.of mT12), (Has.of mT1), trivial⟩ fun ⟨⟨A34, c35⟩, b36⟩ => ?_
          refine at_fact (tnF (some (b36, (phrI (phraseP toks (k) e true))) :: st)) (tn_some (Has.of mT3) has_nil) ?_
          refine at_alloc rfl rfl rfl rfl expr_zero_api_Fault rfl fun b37 => ?_
          refine sto hT .head ?_
          refine nn ?_
          refine sr ?_
          refine ss (ldN hT (knows_own (off := 0) .head)) ?_
          refine ss (sti_build rfl rfl (expr_built_api_Fault_)) ?_
          refine ss (sti_neq_flt ⟨(phraseP toks (k) e true).flt.1, (phraseP toks (k) e true).flt.2⟩ ⟨0, 0⟩ rfl rfl rfl) ?_
          refine nn ?_
          refine at_cond rfl (fun hc190 => ?_) (fun hc190 => ?_)
          · have hc190 := not_t hc190
            refine at_seq ?_
            refine at_mix _ _ [(true, 0), (true, 1), (false, 2)] mixes (by decide +kernel) (.cons .head (.cons .head (.cons .head (.cons .head (.cons .head (.cons .head (.cons .head (.cons .head (.cons .head .nil))))))))) HasAll.self ?_
            refine atm_sti rfl rfl rfl rfl (ldN hT (knows_own (off := 0) .head)) ?_
            refine atm_sti rfl rfl rfl rfl (sti_pure hT rfl) ?_
            refine atm_op (o := _) rfl ?_
            refine sto hT kT9 ?_
            refine atm_go (.cons kT1 (.cons kT1 (.cons kT1 (.cons kT1 (.cons kT1 (.cons kT1 (.cons kT1 (.cons kT1 (.cons kT1 .nil))))))))) (HasAll.drop 0) ?_
            refine atm_nil ?_
            refine n_then ?_
            refine at_ret ?_
            refine r_block ?_
            refine r_then ?_
            refine r_block ?_
            have hr := (r_verb hinv30.1 (by first | exact .inl (by omega) | exact .inr (.inl (by assumption)) | exact .inr (.inr (by assumption))) (by omega) (by omega) (by assumption)).2 hc190
            subst hr
            exact at_res2 (none, 0, [], _) rfl (rv_tmp rfl) (rv_cell hT (knows_own (off := 0) .head) rfl rfl rfl rfl) (.cons kT2 .nil) ⟨has_nil, Has.each_nil, Has.pure rfl, trivial⟩ rfl
          have hc190 := not_f hc190
          have he := (r_verb hinv30.1 (by first | exact .inl (by omega) | exact .inr (.inl (by assumption)) | exact .inr (.inr (by assumption))) (by omega) (by omega) (by assumption)).1 hc190
          refine at_skip ?_
          refine n_block ?_
          refine n_then ?_
          exact at_back2 ((phraseP toks (k) e true).next, o, out, (some (b36, (phrI (phraseP toks (k) e true))) :: st), _, _, _, _) (by have := he.1; first | (have := phrase_next toks k e false; dsimp only; omega) | (have := phrase_next toks k e true; dsimp only; omega)) ⟨rfl, trivial⟩ ⟨rfl, rfl, rfl, rfl, rfl, rfl, trivial⟩ (.cons kT1 (.cons kT4 (.cons kT4 (.cons kT2 (.cons kT2 (.cons kT4 (.cons kT1 .nil))))))) ⟨Has.pure (⟨he, hinv30.2.1, hinv30.2.2.1, by have := phrase_next toks k e true; first | omega | (simp; omega), he.1⟩), Has.of mT1, Has.of mT0, Has.of mT5, trivial⟩ (HasAll.drop 11)
        refine sr ?_
        refine sp hT ?_
        refine ss (ldO hT (knows_own (off := 0) .head)) ?_
        refine sp hT ?_
        refine at_bool (t' := true) (by rw [hg98]; rfl) ?_
        refine sp hT ?_
        refine nn ?_
        refine at_true rfl rfl ?_
        refine sr ?_
        refine ss (ldO hT (knows_own (off := 0) kT7)) ?_
        refine at_call (callFunc_enter Tryz.func33 rfl rfl) (fault_spec bl A c toks (k) e _) rfl rfl rfl rfl rfl (.cons kT1 .nil) ⟨Has.of mT7, trivial⟩ fun _ => ?_
        refine sp hT ?_
        refine sto hT kT6 ?_
        refine nn ?_
        refine at_ret ?_
        refine r_block ?_
        refine r_then ?_
        refine r_block ?_
        refine r_then ?_
        refine r_block ?_
        have hr := e_word hinv6.1 (by assumption) (by assumption) (by assumption)
        subst hr
        exact at_res2 (none, 0, [], _) rfl (rv_tmp rfl) (rv_cell hT (knows_own (off := 0) .head) rfl rfl rfl rfl) (.cons kT1 .nil) ⟨has_nil, Has.each_nil, Has.pure rfl, trivial⟩ rfl
      have hg98 := beq_eq_false_iff_ne.1 hg98
      refine sk3 ?_
      refine sp2 hT ?_
      refine nn ?_
      refine at_false rfl rfl ?_
      refine sr ?_
      refine sp hT ?_
      refine ss (ldO hT (knows_own (off := 0) .head)) ?_
      refine sp hT ?_
      refine at_bool (t' := false) (beq_eq_false_iff_ne.2 hg98) ?_
      refine sp hT ?_
      refine nn ?_
      refine at_false rfl rfl ?_
      refine sr ?_
      refine ss (ldO hT (knows_own (off := 0) kT7)) ?_
      refine at_call (callFunc_enter Tryz.func33 rfl rfl) (fault_spec bl A c toks (k) e _) rfl rfl rfl rfl rfl (.cons kT1 .nil) ⟨Has.of mT7, trivial⟩ fun _ => ?_
      refine sp hT ?_
      refine sto hT kT6 ?_
      refine nn ?_
      refine at_ret ?_
      refine r_block ?_
      refine r_then ?_
      refine r_block ?_
      refine r_then ?_
      refine r_block ?_
      have hr := e_want hinv6.1 (by omega) (by omega) (by first | exact .inl (by assumption) | exact .inr (by assumption)) (by first | exact .inr (by assumption) | exact .inl (by omega))
      subst hr
      exact at_res2 (none, 0, [], _) rfl (rv_tmp rfl) (rv_cell hT (knows_own (off := 0) .head) rfl rfl rfl rfl) (.cons kT1 .nil) ⟨has_nil, Has.each_nil, Has.pure rfl, trivial⟩ rfl
    have hg28 := bne_eq_false_iff_eq.1 hg28
    refine sk3 ?_
    refine sp2 hT ?_
    refine nn ?_
    refine at_false rfl rfl ?_
    refine sr ?_
    refine sp hT ?_
    refine ss (ldO hT (knows_own (off := 0) .head)) ?_
    refine sp hT ?_
    refine at_bool (t' := false) (by rw [hg28]; rfl) ?_
    refine sp hT ?_
    refine sk3 ?_
    refine sp2 hT ?_
    refine nn ?_
    refine at_false rfl rfl ?_
    refine sr ?_
    refine sp hT ?_
    refine ss (ldO hT (knows_own (off := 0) .head)) ?_
    refine sp hT ?_
    refine at_bool (t' := false) (by rw [hg28]; rfl) ?_
    refine sp hT ?_
    refine nn ?_
    refine at_false rfl rfl ?_
    refine sr ?_
    refine sp hT ?_
    refine ss (ldO hT (knows_own (off := 0) .head)) ?_
    refine sp hT ?_
    refine at_bool (t' := false) (by rw [hg28]; rfl) ?_
    refine sp hT ?_
    refine sk3 ?_
    refine sp2 hT ?_
    refine nn ?_
    refine at_false rfl rfl ?_
    refine sr ?_
    refine sp hT ?_
    refine ss (ldO hT (knows_own (off := 0) .head)) ?_
    refine sp hT ?_
    refine at_bool (t' := false) (by rw [hg28]; rfl) ?_
    refine sp hT ?_
    refine nn ?_
    refine at_false rfl rfl ?_
    refine sr ?_
    refine ss (ldO hT (knows_own (off := 0) kT7)) ?_
    refine at_call (callFunc_enter Tryz.func33 rfl rfl) (fault_spec bl A c toks (k) e _) rfl rfl rfl rfl rfl (.cons kT1 .nil) ⟨Has.of mT7, trivial⟩ fun _ => ?_
    refine sp hT ?_
    refine sto hT kT6 ?_
    refine nn ?_
    refine at_ret ?_
    refine r_block ?_
    refine r_then ?_
    refine r_block ?_
    refine r_then ?_
    refine r_block ?_
    have hr := e_want hinv6.1 (by omega) (by omega) (by first | exact .inl (by assumption) | exact .inr (by assumption)) (by first | exact .inr (by assumption) | exact .inl (by omega))
    subst hr
    exact at_res2 (none, 0, [], _) rfl (rv_tmp rfl) (rv_cell hT (knows_own (off := 0) .head) rfl rfl rfl rfl) (.cons kT1 .nil) ⟨has_nil, Has.each_nil, Has.pure rfl, trivial⟩ rfl
  have hg23 := bne_eq_false_iff_eq.1 hg23
  refine sk3 ?_
  refine sp2 hT ?_
  refine sk3 ?_
  refine sp2 hT ?_
  refine nn ?_
  refine at_false rfl rfl ?_
  refine sr ?_
  refine sp hT ?_
  refine ss (ldO hT (knows_own (off := 0) .head)) ?_
  refine sp hT ?_
  refine at_bool (t' := false) (by rw [hg23]; rfl) ?_
  refine sp hT ?_
  refine sk3 ?_
  refine sp2 hT ?_
  refine nn ?_
  refine at_false rfl rfl ?_
  refine sr ?_
  refine sp hT ?_
  refine ss (ldO hT (knows_own (off := 0) .head)) ?_
  refine sp hT ?_
  refine at_bool (t' := true) (by rw [hg23]; rfl) ?_
  refine sp hT ?_
  refine nn ?_
  refine at_true rfl rfl ?_
  refine sr ?_
  refine sp hT ?_
  refine ss (ldO hT (knows_own (off := 1) .head)) ?_
  refine ss (sti_build rfl rfl (expr_built_api_Item_01 _ _)) ?_
  refine at_alloc rfl rfl rfl rfl expr_zero_api_Item rfl fun b38 => ?_
  refine sto hT .head ?_
  refine nn ?_
  refine at_seq ?_
  refine at_block ?_
  refine at_nilrow' (t := 2) intE ?_
  refine at_loop2 (ι := Nat × List Int × Option Addr × Nat) [(1, _), (3, _), (4, _), (5, _), (6, _), (7, _), (8, _), (9, _), (11, _), (24, _), (25, _), (26, _), (29, _), (30, _), (31, _), (44, _), (45, _), (46, _)] ⟨rfl, rfl, rfl, rfl, rfl, rfl, rfl, rfl, rfl, rfl, rfl, rfl, rfl, rfl, rfl, rfl, rfl, rfl, trivial⟩ (fun _ => []) (fun ⟨j, cur, C2, e2⟩ => [.obj bl (.cells [.slice A toks.length c, .int .i64 (j : Nat), .int .i64 e].toArray 52), .obj b38 (.cells [.int .i64 1, .int .i64 (peekP toks k).at_, .int .u8 0, .string (bs []), .slice C2 cur.length e2].toArray 46), intE.row (.slice C2 cur.length e2) 2 cur]) (fun ⟨j, cur, C2, e2⟩ => [Fact.pure (numsFrom toks k = cur ++ numsFrom toks j ∧ j = k + cur.length ∧ j ≤ toks.length)]) (fun ⟨j, cur, C2, e2⟩ => toks.length - j) (k, [], none, 0) trivial (.cons kT3 (.cons kT1 (.cons .head .nil))) ⟨Has.pure (⟨rfl, rfl, hinv6.2.2.2.2⟩), trivial⟩ ?_
  rintro ⟨j, cur, C2, e2⟩
  dsimp only
  refine at_know (Has.of mT0) fun hinv20 => ?_
  refine at_seq ?_
  refine sr ?_
  refine ss (ldO hT (knows_own (off := 0) kT9)) ?_
  refine at_call (callFunc_enter Tryz.func32 rfl rfl) (peek_spec bl A c toks (j) e) rfl rfl rfl rfl rfl (.cons .head .nil) ⟨Has.of mT8, trivial⟩ fun _ => ?_
  refine sp2 hT ?_
  refine nn ?_
  refine at_cond rfl (fun hc74 => ?_) (fun hc74 => ?_)
  · have hc74 := eq_of_beq hc74
    refine at_skip ?_
    refine n_then ?_
    refine at_seq ?_
    refine at_block ?_
    refine at_mixL 8 _ _ [(true, 0), (true, 1), (true, 2), (false, 3), (true, 4), (false, 5), (false, 6), (true, 7)] mixes (by decide +kernel) (.cons .head (.cons .head (.cons kT1 (.cons kT1 (.cons kT1 (.cons kT1 (.cons kT1 (.cons kT1 (.cons kT1 .nil))))))))) HasAll.self ?_
    refine atl_sti rfl rfl rfl rfl (sti_pure hT rfl) ?_
    refine atl_sti rfl rfl rfl rfl (ldO hT (knows_own (off := 4) kT1)) ?_
    refine atl_sti rfl rfl rfl rfl (ldO hT (knows_own (off := 0) kT8)) ?_
    refine atl_op (o := _) rfl ?_
    refine at_call (callFunc_enter Tryz.func32 rfl rfl) (peek_spec bl A c toks (j) e) rfl rfl rfl rfl rfl (.cons .head .nil) ⟨Has.of mT8, trivial⟩ fun _ => ?_
    refine atl_go (.cons .head (.cons .head (.cons kT1 (.cons kT1 (.cons kT1 (.cons kT1 (.cons kT1 (.cons kT1 (.cons kT1 .nil))))))))) (HasAll.drop 0) ?_
    refine atl_sti rfl rfl rfl rfl (sti_pure hT rfl) ?_
    refine atl_op (o := _) rfl ?_
    refine at_one_int (m := (peekP toks (j)).n) rfl rfl rfl rfl rfl fun b39 => ?_
    refine atl_go (.cons kT1 (.cons kT1 (.cons kT2 (.cons kT2 (.cons kT2 (.cons kT2 (.cons kT2 (.cons kT2 (.cons kT2 .nil))))))))) (HasAll.drop 0) ?_
    refine atl_op (o := _) rfl ?_
    refine at_app_int kT3 (reads_obj .head rfl) rfl rfl rfl rfl rfl rfl rfl (by simp only [List.length_singleton]; omega) fun A40 c41 => ?_
    refine atl_go (.cons kT2 (.cons kT2 (.cons kT2 (.cons kT2 (.cons kT2 (.cons kT2 (.cons kT2 (.cons kT2 (.cons kT2 .nil))))))))) (HasAll.drop 0) ?_
    refine atl_sti rfl rfl rfl rfl (sti_pure hT rfl) ?_
    refine atl_last (o := _) rfl ?_
    refine sto hT kT3 ?_
    refine atl_end ?_
    refine n_block ?_
    refine n_then ?_
    refine at_region ?_
    refine ss (ldO hT (knows_own (off := 0) kT10)) ?_
    refine sp2 hT ?_
    refine ss (ldO hT (knows_own (off := 1) kT3)) ?_
    refine sp hT ?_
    refine at_int (z' := (((j + 1) : Nat) : Int)) (wrapN (by omega) (by omega)) ?_
    refine sp2 hT ?_
    refine sto hT kT3 ?_
    refine nn ?_
    exact at_back2 (j + 1, _, _, _) (by have := kind_lt (toks := toks) (k := j) (by rw [hc74]; decide); dsimp only; omega) trivial ⟨rfl, rfl, rfl, rfl, rfl, rfl, rfl, rfl, rfl, rfl, rfl, rfl, rfl, rfl, rfl, rfl, rfl, rfl, trivial⟩ (.cons .head (.cons .head (.cons .head (.cons kT1 (.cons kT1 (.cons kT1 (.cons kT1 (.cons kT1 (.cons kT1 (.cons kT1 .nil)))))))))) ⟨Has.pure (⟨by rw [hinv20.1, nums_more hc74]; simp, by simp; omega, kind_lt (by rw [hc74]; decide)⟩), trivial⟩ (HasAll.drop 1)
  have hc74 := beq_eq_false_iff_ne.1 hc74
  refine at_exit ?_
  refine x_then ?_
  refine x_then ?_
  refine x_block ?_
  refine n_then ?_
  have hcur : numsFrom toks k = cur := by rw [hinv20.1, nums_end hc74, List.append_nil]
  have hbi := b_num (C := C2) (c := e2) hinv6.1 (by assumption) hinv20.2.1 hcur
  have hcl : 1 ≤ cur.length := by rw [← hcur, nums_more (by assumption)]; simp
  refine at_freeze kT2 ?_
  refine at_region ?_
  refine ss (ldO hT (knows_own (off := 0) kT3)) ?_
  refine ss (ldN hT (knows_own (off := 0) kT1)) ?_
  refine at_one_item (m := (⟨1, (peekP toks k).at_, 0, [], ⟨C2, e2, cur⟩⟩ : ItemV)) rfl rfl rfl rfl rfl fun b42 => ?_
  refine at_app_item kT5 (reads_obj .head rfl) rfl rfl rfl rfl rfl rfl rfl (by simp only [List.length_singleton]; omega) fun A43 c44 => ?_
  refine at_fact (numsF (out ++ [(⟨1, (peekP toks k).at_, 0, [], ⟨C2, e2, cur⟩⟩ : ItemV)])) (nums_add (Has.of mT5) (Has.of mT0)) ?_
  refine sto hT kT5 ?_
  refine at_nil ?_
  refine n_block ?_
  refine n_then ?_
  refine at_seq ?_
  refine sr ?_
  refine ss (ldO hT (knows_own (off := 0) kT9)) ?_
  refine at_call (callFunc_enter Tryz.func32 rfl rfl) (peek_spec bl A c toks (j) e) rfl rfl rfl rfl rfl (.cons kT3 .nil) ⟨Has.of mT10, trivial⟩ fun _ => ?_
  refine sto hT kT5 ?_
  refine nn ?_
  refine at_block ?_
  obtain ⟨kk, hkk⟩ : ∃ kk, kk = k := ⟨_, rfl⟩
  refine at_loop2 (ι := Nat × Nat × List ItemV × List Todo × Option Addr × Nat × Option Addr × Nat) [(1, _), (3, _), (4, _), (5, _), (7, _), (8, _), (9, _), (24, _), (25, _), (26, _), (29, _), (30, _), (31, _), (44, _), (45, _), (46, _)] ⟨rfl, rfl, rfl, rfl, rfl, rfl, rfl, rfl, rfl, rfl, rfl, rfl, rfl, rfl, rfl, rfl, trivial⟩ (fun ⟨k, o, out, st, C, e1, D, f⟩ => [(6, .int .i64 (o : Nat))]) (fun ⟨k, o, out, st, C, e1, D, f⟩ => [.obj bl (.cells [.slice A toks.length c, .int .i64 (k : Nat), .int .i64 e].toArray 52), .obj b4 (.cells [.slice C out.length e1].toArray 40), itemE.row (.slice C out.length e1) 46 out, .obj b5 (.cells [.slice D st.reverse.length f].toArray 102), (fnE b4).row (.slice D st.reverse.length f) 1 st.reverse, .obj b3 (.cells [.int .i64 (peekP toks k).kind, .int .i64 (peekP toks k).at_, .string (bs (peekP toks k).word), .int .i64 (peekP toks k).n].toArray 54)]) (fun ⟨k, o, out, st, C, e1, D, f⟩ => [Fact.pure (BInv toks e r k (out.map ItemV.it) (erase st) o ∧ opens st = o ∧ o ≤ 32 ∧ out.length + st.length ≤ k ∧ k ≤ toks.length ∧ kk < k), todoF st, tnF st, numsF out]) (fun ⟨k, o, out, st, C, e1, D, f⟩ => toks.length - k) (j, o, (out ++ [(⟨1, (peekP toks k).at_, 0, [], ⟨C2, e2, cur⟩⟩ : ItemV)]), st, _, _, _, _) ⟨rfl, trivial⟩ (.cons kT1 (.cons kT1 (.cons kT1 (.cons kT3 (.cons kT3 (.cons .head .nil)))))) ⟨Has.pure (⟨hbi, hinv6.2.1, hinv6.2.2.1, by first | omega | (simp; omega), hbi.1, by omega⟩), Has.of mT4, Has.of mT5, Has.of mT0, trivial⟩ ?_
  rintro ⟨k, o, out, st, C, e1, D, f⟩
  dsimp only
  refine at_know (Has.of mT0) fun hinv30 => ?_
  refine at_seq ?_
  refine sr ?_
  refine sp3 hT ?_
  refine at_case (fun hg128 => ?_) (fun hg128 => ?_)
  · have hg128 := of_decide_eq_true hg128
    refine sp hT ?_
    refine ss (ldO hT (knows_own (off := 0) kT5)) ?_
    refine sp3 hT ?_
    refine at_case (fun hg133 => ?_) (fun hg133 => ?_)
    · have hg133 := eq_of_beq hg133
      refine sp hT ?_
      refine ss (ldO hT (knows_own (off := 2) kT5)) ?_
      refine sp2 hT ?_
      refine nn ?_
      refine at_cond rfl (fun hc137 => ?_) (fun hc137 => ?_)
      · have hc137 : (peekP toks k).word = ([41] : Bs) := eq_of_beq hc137
        refine at_skip ?_
        refine n_then ?_
        refine at_seq ?_
        refine at_block ?_
        refine sr ?_
        refine sp hT ?_
        refine at_callv (callFunc_enter Tryz.func53 rfl rfl) (finish_spec b5 b4 _ _ st _ _ out (by omega)) rfl rfl rfl rfl rfl rfl rfl (.cons kT3 (.cons kT3 (.cons kT1 (.cons kT1 .nil)))) ⟨(Has.of mT1), trivial⟩ fun ⟨⟨D45, f46⟩, ⟨C47, e48⟩⟩ => ?_
        refine at_fact (numsF (out ++ (finP st).1)) (nums_fin (Has.of mT4) (Has.of mT3)) ?_
        refine at_fact (tnF (finP st).2) (tn_fin (Has.of mT4)) ?_
        have hfl := fin_len st
        obtain ⟨s2, hs2, ho2⟩ := fin_open (st := st) (by omega)
        have hb2 := b_closed hinv30.1 (by omega) (by assumption) (by assumption) hs2
        rw [hs2] at hfl ⊢
        simp only [List.length_cons] at hfl
        refine at_fact (todoF s2) (todo_tail (Has.of mT2)) ?_
        refine at_fact (tnF s2) (tn_tail (Has.of mT1)) ?_
        refine nn ?_
        refine sr ?_
        refine ss (ldO hT (knows_own (off := 0) .head)) ?_
        refine ss (ldO hT (knows_own (off := 0) .head)) ?_
        refine sp hT ?_
        refine at_int (z' := (((s2.length + 1) : Nat) : Int)) (congrArg Nat.cast (todo_len _ s2)) ?_
        refine sp hT ?_
        refine at_int (z' := ((((s2.length + 1) - 1) : Nat) : Int)) (wrapN (by omega) (by omega)) ?_
        refine at_trunc hT (k := ((s2.length + 1) - 1)) kT1 rfl rfl rfl rfl rfl rfl rfl rfl rfl (by rw [todo_len]; omega) ?_
        rw [todo_init]
        refine sto hT kT1 ?_
        refine nn ?_
        refine sr ?_
        refine sp2 hT ?_
        refine at_int (z' := (((o - 1) : Nat) : Int)) (wrapN (by omega) (by omega)) ?_
        refine sp hT ?_
        refine nn ?_
        refine at_region ?_
        refine ss (ldO hT (knows_own (off := 0) kT9)) ?_
        refine sp2 hT ?_
        refine ss (ldO hT (knows_own (off := 1) kT4)) ?_
        refine sp hT ?_
        refine at_int (z' := (((k + 1) : Nat) : Int)) (wrapN (by omega) (by omega)) ?_
        refine sp2 hT ?_
        refine sto hT kT4 ?_
        refine at_nil ?_
        refine n_block ?_
        refine n_then ?_
        refine at_region ?_
        refine ss (ldO hT (knows_own (off := 0) kT9)) ?_
        refine at_call (callFunc_enter Tryz.func32 rfl rfl) (peek_spec bl A c toks ((k + 1)) e) rfl rfl rfl rfl rfl (.cons .head .nil) ⟨Has.of (.tail _ (.tail _ (.tail _ (.tail _ (.tail _ (.tail _ (.tail _ (.tail _ (.tail _ (.tail _ (.tail _ (.tail _ (.tail _ (.tail _ (.tail _ (.tail _ (.tail _ (.tail _ (.tail _ mT0))))))))))))))))))), trivial⟩ fun _ => ?_
        refine sto hT kT5 ?_
        refine nn ?_
        exact at_back2 ((k + 1), (o - 1), (out ++ (finP st).1), s2, _, _, _, _) (by have := hb2.1; dsimp only; omega) ⟨rfl, trivial⟩ ⟨rfl, rfl, rfl, rfl, rfl, rfl, rfl, rfl, rfl, rfl, rfl, rfl, rfl, rfl, rfl, rfl, trivial⟩ (.cons kT1 (.cons kT3 (.cons kT3 (.cons kT1 (.cons kT1 (.cons .head (.cons .head (.cons .head (.cons .head (.cons .head .nil)))))))))) ⟨Has.pure (⟨hb2, by dsimp only; omega, by dsimp only; omega, by first | omega | (simp; omega), hb2.1, by dsimp only; omega⟩), Has.of mT1, Has.of mT0, Has.of mT3, trivial⟩ (HasAll.drop 9)
      have hc137 : (peekP toks k).word ≠ ([41] : Bs) := fun h => absurd (beq_iff_eq.2 h) (by rw [show ((peekP toks k).word == ([41] : Bs)) = false from hc137]; simp)
      refine at_exit ?_
      refine x_then ?_
      refine x_then ?_
      refine x_block ?_
      refine n_then ?_
      refine at_seq ?_
      refine at_block ?_
      refine sr ?_
      refine sp hT ?_
      refine ss (ldO hT (knows_own (off := 0) kT5)) ?_
      refine sp hT ?_
      refine at_bool (t' := false) (by rw [hg133]; rfl) ?_
      refine sp hT ?_
      refine sk2 ?_
      refine sp2 hT ?_
      refine nn ?_
      refine at_false rfl rfl ?_
      refine sr ?_
      refine sp hT ?_
      refine ss (ldO hT (knows_own (off := 0) kT5)) ?_
      refine sp hT ?_
      refine at_bool (t' := false) (by rw [hg133]; rfl) ?_
      refine sp hT ?_
      refine nn ?_
      refine at_false rfl rfl ?_
      refine sr ?_
      refine sp hT ?_
      refine ss (ldO hT (knows_own (off := 0) kT5)) ?_
      refine sp hT ?_
      refine at_bool (t' := false) (by rw [hg133]; rfl) ?_
      refine sp2 hT ?_
      refine ss (ldO hT (knows_own (off := 2) kT5)) ?_
      refine at_call (callFunc_enter Tryz.func52 rfl rfl) (verb_spec _) rfl rfl rfl rfl rfl .nil trivial fun _ => ?_
      refine sp3 hT ?_
      refine nn ?_
      refine at_cond rfl (fun hc174 => ?_) (fun hc174 => ?_)
      · have hc174 := not_t hc174
        refine sr ?_
        refine ss (ldO hT (knows_own (off := 0) kT9)) ?_
        refine at_call (callFunc_enter Tryz.func33 rfl rfl) (fault_spec bl A c toks (k) e _) rfl rfl rfl rfl rfl (.cons .head .nil) ⟨Has.of mT14, trivial⟩ fun _ => ?_
        refine sp hT ?_
        refine sto hT kT8 ?_
        refine nn ?_
        refine at_ret ?_
        refine r_block ?_
        refine r_then ?_
        refine r_block ?_
        refine r_then ?_
        refine r_block ?_
        have hr := r_more hinv30.1 (by first | exact .inl (by omega) | exact .inr (.inl (by assumption)) | exact .inr (.inr (by assumption))) (by omega) (by first | exact .inr (by assumption) | exact .inl (by omega))
        subst hr
        exact at_res2 (none, 0, [], _) rfl (rv_tmp rfl) (rv_cell hT (knows_own (off := 0) .head) rfl rfl rfl rfl) (.cons kT1 .nil) ⟨has_nil, Has.each_nil, Has.pure rfl, trivial⟩ rfl
      have hc174 := not_f hc174
      refine at_skip ?_
      refine n_block ?_
      refine n_then ?_
      refine sr ?_
      refine sp hT ?_
      refine at_callv (callFunc_enter Tryz.func54 rfl rfl) (laterT_spec bl A c toks (k) e b1 b5 b4 _ _ st (by omega) (by omega)) rfl rfl rfl rfl rfl rfl rfl (.cons .head (.cons kT8 (.cons kT2 (.cons kT2 .nil)))) ⟨(Has.of mT14), (Has.of mT1), trivial⟩ fun ⟨⟨A49, c50⟩, b51⟩ => ?_
      refine at_fact (tnF (some (b51, (phrI (phraseP toks (k) e true))) :: st)) (tn_some (Has.of mT3) has_nil) ?_
      refine at_alloc rfl rfl rfl rfl expr_zero_api_Fault rfl fun b52 => ?_
      refine sto hT .head ?_
      refine nn ?_
      refine sr ?_
      refine ss (ldN hT (knows_own (off := 0) .head)) ?_
      refine ss (sti_build rfl rfl (expr_built_api_Fault_)) ?_
      refine ss (sti_neq_flt ⟨(phraseP toks (k) e true).flt.1, (phraseP toks (k) e true).flt.2⟩ ⟨0, 0⟩ rfl rfl rfl) ?_
      refine nn ?_
      refine at_cond rfl (fun hc190 => ?_) (fun hc190 => ?_)
      · have hc190 := not_t hc190
        refine at_seq ?_
        refine at_mix _ _ [(true, 0), (true, 1), (false, 2)] mixes (by decide +kernel) (.cons .head (.cons .head (.cons .head (.cons .head (.cons .head (.cons .head (.cons .head (.cons .head (.cons .head (.cons .head .nil)))))))))) HasAll.self ?_
        refine atm_sti rfl rfl rfl rfl (ldN hT (knows_own (off := 0) .head)) ?_
        refine atm_sti rfl rfl rfl rfl (sti_pure hT rfl) ?_
        refine atm_op (o := _) rfl ?_
        refine sto hT kT10 ?_
        refine atm_go (.cons kT1 (.cons kT1 (.cons kT1 (.cons kT1 (.cons kT1 (.cons kT1 (.cons kT1 (.cons kT1 (.cons kT1 (.cons kT1 .nil)))))))))) (HasAll.drop 0) ?_
        refine atm_nil ?_
        refine n_then ?_
        refine at_ret ?_
        refine r_block ?_
        refine r_then ?_
        refine r_block ?_
        have hr := (r_verb hinv30.1 (by first | exact .inl (by omega) | exact .inr (.inl (by assumption)) | exact .inr (.inr (by assumption))) (by omega) (by omega) (by assumption)).2 hc190
        subst hr
        exact at_res2 (none, 0, [], _) rfl (rv_tmp rfl) (rv_cell hT (knows_own (off := 0) .head) rfl rfl rfl rfl) (.cons kT2 .nil) ⟨has_nil, Has.each_nil, Has.pure rfl, trivial⟩ rfl
      have hc190 := not_f hc190
      have he := (r_verb hinv30.1 (by first | exact .inl (by omega) | exact .inr (.inl (by assumption)) | exact .inr (.inr (by assumption))) (by omega) (by omega) (by assumption)).1 hc190
      refine at_skip ?_
      refine n_block ?_
      refine n_then ?_
      exact at_back2 ((phraseP toks (k) e true).next, o, out, (some (b51, (phrI (phraseP toks (k) e true))) :: st), _, _, _, _) (by have := he.1; first | (have := phrase_next toks k e false; dsimp only; omega) | (have := phrase_next toks k e true; dsimp only; omega)) ⟨rfl, trivial⟩ ⟨rfl, rfl, rfl, rfl, rfl, rfl, trivial⟩ (.cons kT1 (.cons kT4 (.cons kT4 (.cons kT2 (.cons kT2 (.cons kT5 (.cons kT1 .nil))))))) ⟨Has.pure (⟨he, hinv30.2.1, hinv30.2.2.1, by have := phrase_next toks k e true; first | omega | (simp; omega), he.1⟩), Has.of mT1, Has.of mT0, Has.of mT5, trivial⟩ (HasAll.drop 13)
    have hg133 := beq_eq_false_iff_ne.1 hg133
    refine sk3 ?_
    refine sp hT ?_
    refine nn ?_
    refine at_false rfl rfl ?_
    refine at_exit ?_
    refine x_then ?_
    refine x_then ?_
    refine x_block ?_
    refine n_then ?_
    refine at_seq ?_
    refine at_block ?_
    refine sr ?_
    refine sp hT ?_
    refine ss (ldO hT (knows_own (off := 0) kT5)) ?_
    refine sp2 hT ?_
    refine at_case (fun hg160 => ?_) (fun hg160 => ?_)
    · have hg160 := eq_of_beq hg160
      refine sp4 hT ?_
      refine nn ?_
      refine at_cond rfl (fun hc156 => ?_) (fun hc156 => ?_)
      · have hc156 := of_decide_eq_true hc156
        refine sr ?_
        refine ss (ldO hT (knows_own (off := 0) kT9)) ?_
        refine at_call (callFunc_enter Tryz.func33 rfl rfl) (fault_spec bl A c toks (k) e _) rfl rfl rfl rfl rfl (.cons .head .nil) ⟨Has.of mT14, trivial⟩ fun _ => ?_
        refine sp hT ?_
        refine sto hT kT8 ?_
        refine nn ?_
        refine at_ret ?_
        refine r_block ?_
        refine r_then ?_
        refine r_block ?_
        refine r_then ?_
        refine r_block ?_
        have hr := r_open hinv30.1 (by assumption) (by omega)
        subst hr
        exact at_res2 (none, 0, [], _) rfl (rv_tmp rfl) (rv_cell hT (knows_own (off := 0) .head) rfl rfl rfl rfl) (.cons kT1 .nil) ⟨has_nil, Has.each_nil, Has.pure rfl, trivial⟩ rfl
      have hc156 := Int.not_lt.1 (of_decide_eq_false hc156)
      refine sr ?_
      refine sp hT ?_
      refine ss (ldO hT (knows_own (off := 0) kT5)) ?_
      refine sp hT ?_
      refine at_bool (t' := true) (by rw [hg160]; rfl) ?_
      refine sp hT ?_
      refine nn ?_
      refine at_true rfl rfl ?_
      refine sr ?_
      refine sp hT ?_
      refine at_callv (callFunc_enter Tryz.func53 rfl rfl) (finish_spec b5 b4 _ _ st _ _ out (by omega)) rfl rfl rfl rfl rfl rfl rfl (.cons kT3 (.cons kT3 (.cons kT1 (.cons kT1 .nil)))) ⟨(Has.of mT1), trivial⟩ fun ⟨⟨D53, f54⟩, ⟨C55, e56⟩⟩ => ?_
      refine at_fact (numsF (out ++ (finP st).1)) (nums_fin (Has.of mT4) (Has.of mT3)) ?_
      refine at_fact (tnF (finP st).2) (tn_fin (Has.of mT4)) ?_
      have hfl := fin_len st
      refine nn ?_
      refine sr ?_
      refine ss (ldO hT (knows_own (off := 0) kT2)) ?_
      refine ss (sti_build rfl rfl (expr_built_api_Fault_)) ?_
      refine sp hT ?_
      refine sto hT kT8 ?_
      refine nn ?_
      refine at_ret ?_
      refine r_block ?_
      refine r_then ?_
      refine r_block ?_
      refine r_then ?_
      refine r_block ?_
      have hr := r_ended hinv30.1 (by assumption) (by omega)
      subst hr
      refine at_freeze kT4 ?_
      exact at_res2 (_, _, (out ++ (finP st).1), _) rfl (rv_tmp rfl) (rv_cell hT (knows_own (off := 0) .head) rfl rfl rfl rfl) (.cons kT4 .nil) ⟨Has.of mT0, (Has.of mT2), Has.pure rfl, trivial⟩ rfl
    have hg160 := beq_eq_false_iff_ne.1 hg160
    refine sk2 ?_
    refine sp2 hT ?_
    refine nn ?_
    refine at_false rfl rfl ?_
    refine sr ?_
    refine sp hT ?_
    refine ss (ldO hT (knows_own (off := 0) kT5)) ?_
    refine sp hT ?_
    refine at_bool (t' := false) (beq_eq_false_iff_ne.2 hg160) ?_
    refine sp hT ?_
    refine nn ?_
    refine at_false rfl rfl ?_
    refine sr ?_
    refine sp hT ?_
    refine ss (ldO hT (knows_own (off := 0) kT5)) ?_
    refine sp2 hT ?_
    refine at_case (fun hg178 => ?_) (fun hg178 => ?_)
    · have hg178 := eq_of_beq hg178
      refine sk4 ?_
      refine sp2 hT ?_
      refine nn ?_
      refine at_true rfl rfl ?_
      refine sr ?_
      refine ss (ldO hT (knows_own (off := 0) kT9)) ?_
      refine at_call (callFunc_enter Tryz.func33 rfl rfl) (fault_spec bl A c toks (k) e _) rfl rfl rfl rfl rfl (.cons .head .nil) ⟨Has.of mT14, trivial⟩ fun _ => ?_
      refine sp hT ?_
      refine sto hT kT8 ?_
      refine nn ?_
      refine at_ret ?_
      refine r_block ?_
      refine r_then ?_
      refine r_block ?_
      refine r_then ?_
      refine r_block ?_
      have hr := r_more hinv30.1 (by first | exact .inl (by omega) | exact .inr (.inl (by assumption)) | exact .inr (.inr (by assumption))) (by omega) (by first | exact .inr (by assumption) | exact .inl (by omega))
      subst hr
      exact at_res2 (none, 0, [], _) rfl (rv_tmp rfl) (rv_cell hT (knows_own (off := 0) .head) rfl rfl rfl rfl) (.cons kT1 .nil) ⟨has_nil, Has.each_nil, Has.pure rfl, trivial⟩ rfl
    have hg178 := beq_eq_false_iff_ne.1 hg178
    refine sp hT ?_
    refine ss (ldO hT (knows_own (off := 2) kT5)) ?_
    refine at_call (callFunc_enter Tryz.func52 rfl rfl) (verb_spec _) rfl rfl rfl rfl rfl .nil trivial fun _ => ?_
    refine sp3 hT ?_
    refine nn ?_
    refine at_cond rfl (fun hc174 => ?_) (fun hc174 => ?_)
    · have hc174 := not_t hc174
      refine sr ?_
      refine ss (ldO hT (knows_own (off := 0) kT9)) ?_
      refine at_call (callFunc_enter Tryz.func33 rfl rfl) (fault_spec bl A c toks (k) e _) rfl rfl rfl rfl rfl (.cons .head .nil) ⟨Has.of mT14, trivial⟩ fun _ => ?_
      refine sp hT ?_
      refine sto hT kT8 ?_
      refine nn ?_
      refine at_ret ?_
      refine r_block ?_
      refine r_then ?_
      refine r_block ?_
      refine r_then ?_
      refine r_block ?_
      have hr := r_more hinv30.1 (by first | exact .inl (by omega) | exact .inr (.inl (by assumption)) | exact .inr (.inr (by assumption))) (by omega) (by first | exact .inr (by assumption) | exact .inl (by omega))
      subst hr
      exact at_res2 (none, 0, [], _) rfl (rv_tmp rfl) (rv_cell hT (knows_own (off := 0) .head) rfl rfl rfl rfl) (.cons kT1 .nil) ⟨has_nil, Has.each_nil, Has.pure rfl, trivial⟩ rfl
    have hc174 := not_f hc174
    refine at_skip ?_
    refine n_block ?_
    refine n_then ?_
    refine sr ?_
    refine sp hT ?_
    refine at_callv (callFunc_enter Tryz.func54 rfl rfl) (laterT_spec bl A c toks (k) e b1 b5 b4 _ _ st (by omega) (by omega)) rfl rfl rfl rfl rfl rfl rfl (.cons .head (.cons kT8 (.cons kT2 (.cons kT2 .nil)))) ⟨(Has.of mT14), (Has.of mT1), trivial⟩ fun ⟨⟨A57, c58⟩, b59⟩ => ?_
    refine at_fact (tnF (some (b59, (phrI (phraseP toks (k) e true))) :: st)) (tn_some (Has.of mT3) has_nil) ?_
    refine at_alloc rfl rfl rfl rfl expr_zero_api_Fault rfl fun b60 => ?_
    refine sto hT .head ?_
    refine nn ?_
    refine sr ?_
    refine ss (ldN hT (knows_own (off := 0) .head)) ?_
    refine ss (sti_build rfl rfl (expr_built_api_Fault_)) ?_
    refine ss (sti_neq_flt ⟨(phraseP toks (k) e true).flt.1, (phraseP toks (k) e true).flt.2⟩ ⟨0, 0⟩ rfl rfl rfl) ?_
    refine nn ?_
    refine at_cond rfl (fun hc190 => ?_) (fun hc190 => ?_)
    · have hc190 := not_t hc190
      refine at_seq ?_
      refine at_mix _ _ [(true, 0), (true, 1), (false, 2)] mixes (by decide +kernel) (.cons .head (.cons .head (.cons .head (.cons .head (.cons .head (.cons .head (.cons .head (.cons .head (.cons .head (.cons .head .nil)))))))))) HasAll.self ?_
      refine atm_sti rfl rfl rfl rfl (ldN hT (knows_own (off := 0) .head)) ?_
      refine atm_sti rfl rfl rfl rfl (sti_pure hT rfl) ?_
      refine atm_op (o := _) rfl ?_
      refine sto hT kT10 ?_
      refine atm_go (.cons kT1 (.cons kT1 (.cons kT1 (.cons kT1 (.cons kT1 (.cons kT1 (.cons kT1 (.cons kT1 (.cons kT1 (.cons kT1 .nil)))))))))) (HasAll.drop 0) ?_
      refine atm_nil ?_
      refine n_then ?_
      refine at_ret ?_
      refine r_block ?_
      refine r_then ?_
      refine r_block ?_
      have hr := (r_verb hinv30.1 (by first | exact .inl (by omega) | exact .inr (.inl (by assumption)) | exact .inr (.inr (by assumption))) (by omega) (by omega) (by assumption)).2 hc190
      subst hr
      exact at_res2 (none, 0, [], _) rfl (rv_tmp rfl) (rv_cell hT (knows_own (off := 0) .head) rfl rfl rfl rfl) (.cons kT2 .nil) ⟨has_nil, Has.each_nil, Has.pure rfl, trivial⟩ rfl
    have hc190 := not_f hc190
    have he := (r_verb hinv30.1 (by first | exact .inl (by omega) | exact .inr (.inl (by assumption)) | exact .inr (.inr (by assumption))) (by omega) (by omega) (by assumption)).1 hc190
    refine at_skip ?_
    refine n_block ?_
    refine n_then ?_
    exact at_back2 ((phraseP toks (k) e true).next, o, out, (some (b59, (phrI (phraseP toks (k) e true))) :: st), _, _, _, _) (by have := he.1; first | (have := phrase_next toks k e false; dsimp only; omega) | (have := phrase_next toks k e true; dsimp only; omega)) ⟨rfl, trivial⟩ ⟨rfl, rfl, rfl, rfl, rfl, rfl, trivial⟩ (.cons kT1 (.cons kT4 (.cons kT4 (.cons kT2 (.cons kT2 (.cons kT5 (.cons kT1 .nil))))))) ⟨Has.pure (⟨he, hinv30.2.1, hinv30.2.2.1, by have := phrase_next toks k e true; first | omega | (simp; omega), he.1⟩), Has.of mT1, Has.of mT0, Has.of mT5, trivial⟩ (HasAll.drop 13)
  have hg128 := Int.not_lt.1 (of_decide_eq_false hg128)
  refine sk3 ?_
  refine sp2 hT ?_
  refine sk3 ?_
  refine sp hT ?_
  refine nn ?_
  refine at_false rfl rfl ?_
  refine at_exit ?_
  refine x_then ?_
  refine x_then ?_
  refine x_block ?_
  refine n_then ?_
  refine at_seq ?_
  refine at_block ?_
  refine sr ?_
  refine sp hT ?_
  refine ss (ldO hT (knows_own (off := 0) kT5)) ?_
  refine sp2 hT ?_
  refine at_case (fun hg160 => ?_) (fun hg160 => ?_)
  · have hg160 := eq_of_beq hg160
    refine sp4 hT ?_
    refine nn ?_
    refine at_cond rfl (fun hc156 => ?_) (fun hc156 => ?_)
    · have hc156 := of_decide_eq_true hc156
      refine sr ?_
      refine ss (ldO hT (knows_own (off := 0) kT9)) ?_
      refine at_call (callFunc_enter Tryz.func33 rfl rfl) (fault_spec bl A c toks (k) e _) rfl rfl rfl rfl rfl (.cons .head .nil) ⟨Has.of mT14, trivial⟩ fun _ => ?_
      refine sp hT ?_
      refine sto hT kT8 ?_
      refine nn ?_
      refine at_ret ?_
      refine r_block ?_
      refine r_then ?_
      refine r_block ?_
      refine r_then ?_
      refine r_block ?_
      have hr := r_open hinv30.1 (by assumption) (by omega)
      subst hr
      exact at_res2 (none, 0, [], _) rfl (rv_tmp rfl) (rv_cell hT (knows_own (off := 0) .head) rfl rfl rfl rfl) (.cons kT1 .nil) ⟨has_nil, Has.each_nil, Has.pure rfl, trivial⟩ rfl
    have hc156 := Int.not_lt.1 (of_decide_eq_false hc156)
    refine sr ?_
    refine sp hT ?_
    refine ss (ldO hT (knows_own (off := 0) kT5)) ?_
    refine sp hT ?_
    refine at_bool (t' := true) (by rw [hg160]; rfl) ?_
    refine sp hT ?_
    refine nn ?_
    refine at_true rfl rfl ?_
    refine sr ?_
    refine sp hT ?_
    refine at_callv (callFunc_enter Tryz.func53 rfl rfl) (finish_spec b5 b4 _ _ st _ _ out (by omega)) rfl rfl rfl rfl rfl rfl rfl (.cons kT3 (.cons kT3 (.cons kT1 (.cons kT1 .nil)))) ⟨(Has.of mT1), trivial⟩ fun ⟨⟨D61, f62⟩, ⟨C63, e64⟩⟩ => ?_
    refine at_fact (numsF (out ++ (finP st).1)) (nums_fin (Has.of mT4) (Has.of mT3)) ?_
    refine at_fact (tnF (finP st).2) (tn_fin (Has.of mT4)) ?_
    have hfl := fin_len st
    refine nn ?_
    refine sr ?_
    refine ss (ldO hT (knows_own (off := 0) kT2)) ?_
    refine ss (sti_build rfl rfl (expr_built_api_Fault_)) ?_
    refine sp hT ?_
    refine sto hT kT8 ?_
    refine nn ?_
    refine at_ret ?_
    refine r_block ?_
    refine r_then ?_
    refine r_block ?_
    refine r_then ?_
    refine r_block ?_
    have hr := r_ended hinv30.1 (by assumption) (by omega)
    subst hr
    refine at_freeze kT4 ?_
    exact at_res2 (_, _, (out ++ (finP st).1), _) rfl (rv_tmp rfl) (rv_cell hT (knows_own (off := 0) .head) rfl rfl rfl rfl) (.cons kT4 .nil) ⟨Has.of mT0, (Has.of mT2), Has.pure rfl, trivial⟩ rfl
  have hg160 := beq_eq_false_iff_ne.1 hg160
  refine sk2 ?_
  refine sp2 hT ?_
  refine nn ?_
  refine at_false rfl rfl ?_
  refine sr ?_
  refine sp hT ?_
  refine ss (ldO hT (knows_own (off := 0) kT5)) ?_
  refine sp hT ?_
  refine at_bool (t' := false) (beq_eq_false_iff_ne.2 hg160) ?_
  refine sp hT ?_
  refine nn ?_
  refine at_false rfl rfl ?_
  refine sr ?_
  refine sp hT ?_
  refine ss (ldO hT (knows_own (off := 0) kT5)) ?_
  refine sp2 hT ?_
  refine at_case (fun hg178 => ?_) (fun hg178 => ?_)
  · have hg178 := eq_of_beq hg178
    refine sk4 ?_
    refine sp2 hT ?_
    refine nn ?_
    refine at_true rfl rfl ?_
    refine sr ?_
    refine ss (ldO hT (knows_own (off := 0) kT9)) ?_
    refine at_call (callFunc_enter Tryz.func33 rfl rfl) (fault_spec bl A c toks (k) e _) rfl rfl rfl rfl rfl (.cons .head .nil) ⟨Has.of mT14, trivial⟩ fun _ => ?_
    refine sp hT ?_
    refine sto hT kT8 ?_
    refine nn ?_
    refine at_ret ?_
    refine r_block ?_
    refine r_then ?_
    refine r_block ?_
    refine r_then ?_
    refine r_block ?_
    have hr := r_more hinv30.1 (by first | exact .inl (by omega) | exact .inr (.inl (by assumption)) | exact .inr (.inr (by assumption))) (by omega) (by first | exact .inr (by assumption) | exact .inl (by omega))
    subst hr
    exact at_res2 (none, 0, [], _) rfl (rv_tmp rfl) (rv_cell hT (knows_own (off := 0) .head) rfl rfl rfl rfl) (.cons kT1 .nil) ⟨has_nil, Has.each_nil, Has.pure rfl, trivial⟩ rfl
  have hg178 := beq_eq_false_iff_ne.1 hg178
  refine sp hT ?_
  refine ss (ldO hT (knows_own (off := 2) kT5)) ?_
  refine at_call (callFunc_enter Tryz.func52 rfl rfl) (verb_spec _) rfl rfl rfl rfl rfl .nil trivial fun _ => ?_
  refine sp3 hT ?_
  refine nn ?_
  refine at_cond rfl (fun hc174 => ?_) (fun hc174 => ?_)
  · have hc174 := not_t hc174
    refine sr ?_
    refine ss (ldO hT (knows_own (off := 0) kT9)) ?_
    refine at_call (callFunc_enter Tryz.func33 rfl rfl) (fault_spec bl A c toks (k) e _) rfl rfl rfl rfl rfl (.cons .head .nil) ⟨Has.of mT14, trivial⟩ fun _ => ?_
    refine sp hT ?_
    refine sto hT kT8 ?_
    refine nn ?_
    refine at_ret ?_
    refine r_block ?_
    refine r_then ?_
    refine r_block ?_
    refine r_then ?_
    refine r_block ?_
    have hr := r_more hinv30.1 (by first | exact .inl (by omega) | exact .inr (.inl (by assumption)) | exact .inr (.inr (by assumption))) (by omega) (by first | exact .inr (by assumption) | exact .inl (by omega))
    subst hr
    exact at_res2 (none, 0, [], _) rfl (rv_tmp rfl) (rv_cell hT (knows_own (off := 0) .head) rfl rfl rfl rfl) (.cons kT1 .nil) ⟨has_nil, Has.each_nil, Has.pure rfl, trivial⟩ rfl
  have hc174 := not_f hc174
  refine at_skip ?_
  refine n_block ?_
  refine n_then ?_
  refine sr ?_
  refine sp hT ?_
  refine at_callv (callFunc_enter Tryz.func54 rfl rfl) (laterT_spec bl A c toks (k) e b1 b5 b4 _ _ st (by omega) (by omega)) rfl rfl rfl rfl rfl rfl rfl (.cons .head (.cons kT8 (.cons kT2 (.cons kT2 .nil)))) ⟨(Has.of mT14), (Has.of mT1), trivial⟩ fun ⟨⟨A65, c66⟩, b67⟩ => ?_
  refine at_fact (tnF (some (b67, (phrI (phraseP toks (k) e true))) :: st)) (tn_some (Has.of mT3) has_nil) ?_
  refine at_alloc rfl rfl rfl rfl expr_zero_api_Fault rfl fun b68 => ?_
  refine sto hT .head ?_
  refine nn ?_
  refine sr ?_
  refine ss (ldN hT (knows_own (off := 0) .head)) ?_
  refine ss (sti_build rfl rfl (expr_built_api_Fault_)) ?_
  refine ss (sti_neq_flt ⟨(phraseP toks (k) e true).flt.1, (phraseP toks (k) e true).flt.2⟩ ⟨0, 0⟩ rfl rfl rfl) ?_
  refine nn ?_
  refine at_cond rfl (fun hc190 => ?_) (fun hc190 => ?_)
  · have hc190 := not_t hc190
    refine at_seq ?_
    refine at_mix _ _ [(true, 0), (true, 1), (false, 2)] mixes (by decide +kernel) (.cons .head (.cons .head (.cons .head (.cons .head (.cons .head (.cons .head (.cons .head (.cons .head (.cons .head (.cons .head .nil)))))))))) HasAll.self ?_
    refine atm_sti rfl rfl rfl rfl (ldN hT (knows_own (off := 0) .head)) ?_
    refine atm_sti rfl rfl rfl rfl (sti_pure hT rfl) ?_
    refine atm_op (o := _) rfl ?_
    refine sto hT kT10 ?_
    refine atm_go (.cons kT1 (.cons kT1 (.cons kT1 (.cons kT1 (.cons kT1 (.cons kT1 (.cons kT1 (.cons kT1 (.cons kT1 (.cons kT1 .nil)))))))))) (HasAll.drop 0) ?_
    refine atm_nil ?_
    refine n_then ?_
    refine at_ret ?_
    refine r_block ?_
    refine r_then ?_
    refine r_block ?_
    have hr := (r_verb hinv30.1 (by first | exact .inl (by omega) | exact .inr (.inl (by assumption)) | exact .inr (.inr (by assumption))) (by omega) (by omega) (by assumption)).2 hc190
    subst hr
    exact at_res2 (none, 0, [], _) rfl (rv_tmp rfl) (rv_cell hT (knows_own (off := 0) .head) rfl rfl rfl rfl) (.cons kT2 .nil) ⟨has_nil, Has.each_nil, Has.pure rfl, trivial⟩ rfl
  have hc190 := not_f hc190
  have he := (r_verb hinv30.1 (by first | exact .inl (by omega) | exact .inr (.inl (by assumption)) | exact .inr (.inr (by assumption))) (by omega) (by omega) (by assumption)).1 hc190
  refine at_skip ?_
  refine n_block ?_
  refine n_then ?_
  exact at_back2 ((phraseP toks (k) e true).next, o, out, (some (b67, (phrI (phraseP toks (k) e true))) :: st), _, _, _, _) (by have := he.1; first | (have := phrase_next toks k e false; dsimp only; omega) | (have := phrase_next toks k e true; dsimp only; omega)) ⟨rfl, trivial⟩ ⟨rfl, rfl, rfl, rfl, rfl, rfl, trivial⟩ (.cons kT1 (.cons kT4 (.cons kT4 (.cons kT2 (.cons kT2 (.cons kT5 (.cons kT1 .nil))))))) ⟨Has.pure (⟨he, hinv30.2.1, hinv30.2.2.1, by have := phrase_next toks k e true; first | omega | (simp; omega), he.1⟩), Has.of mT1, Has.of mT0, Has.of mT5, trivial⟩ (HasAll.drop 13)

end Go.Proofs.YtngkedmndhmjcaaGreatDoor
