/- Texts of one proof, one behind the other: BackR, BackN, Alike, BackO, LawH, Copied, Places. -/
import Derived.Test.YtngkedmndhmjcaaGreatDoorM8
import Derived.Test.YtngkedmndhmjcaaGreatDoorM6
/- Plain: programs that parse reads may be shown, in no more tokens; what show and parse make of each other (no program in sight). -/
namespace Go.Proofs.YtngkedmndhmjcaaGreatDoor
open Go.RowKit

theorem tkOk_go : ∀ (f i : Nat) (s : Bs) (out : List Tok), (∀ t ∈ out, TkOk t) → ∀ t ∈ (lexGo f i s out).1, TkOk t
  | 0, _, _, out, h => h
  | _ + 1, _, [], out, h => h
  | f + 1, i, b :: r, out, h => by
    unfold lexGo
    split
    · exact tkOk_go f _ _ _ h
    · split
      · exact tkOk_go f _ _ _ h
      · split
        · exact fun t ht => by simp at ht
        · rename_i ht
          refine tkOk_go f _ _ _ fun t hm => ?_
          rcases List.mem_append.1 hm with hm | hm
          · exact h t hm
          · rw [List.mem_singleton.1 hm]
            have h1 := tokenP_is ht
            obtain ⟨_, h2, h3⟩ := tokenP_ok ht
            exact ⟨h1.num, h1.word, h2, h3⟩
theorem tkOk (s : Bs) : ∀ t ∈ (lexP s).1, TkOk t := by
  unfold lexP
  split
  · exact fun t ht => by simp at ht
  · exact tkOk_go _ _ _ _ fun t ht => by simp at ht
theorem expr_ok {toks : List TokV} {e : Int} {k : Nat} (ht : ∀ t ∈ toks, TkOk t) (h256 : toks.length ≤ 256) (hk : k ≤ toks.length) (hok : isOk (exprP toks e k).2 = true) : ExOk (exprP toks e k).1 (toks.length - k) :=
  go_ok (k0 := k) (e := e) (l := (exprP toks e k).1) (flt := (exprP toks e k).2) ht h256 hok (toks.length + 1) (k := k) (o := 0) (P := []) (c := 0) (by omega) ⟨rfl, .nil, by omega, rfl, fun x hx => by simp at hx, fun x hx => by simp at hx, hk⟩ (by omega) rfl

/-! ### lines -/
def InOk (x : Input) : Prop := nameB x.name = true ∧ x.sides.length ≤ 4 ∧ ∀ d ∈ x.sides, SideOk d ∧ Rng d.n
def LnOk (l : Line) : Prop := nameB l.name = true ∧ ExOk l.items 254
def LastOk (l : Line) : Prop := l.name = [] ∧ ExOk l.items 255
theorem ExOk.mono {l : List Item} {a b : Nat} (h : ExOk l a) (hab : a ≤ b) : ExOk l b := by
  obtain ⟨⟨p, h1, h2, h3⟩, h4⟩ := h
  exact ⟨⟨p, h1, by omega, h3⟩, h4⟩
theorem ExOk.tok {l : List Item} {a : Nat} (h : ExOk l a) : tokS l ≤ a := by
  obtain ⟨⟨p, h1, h2, h3⟩, h4⟩ := h
  unfold tokS
  rw [h1]
  exact h2
theorem ExOk.expr {l : List Item} {a : Nat} (h : ExOk l a) : ∃ t, exprS l a = some t := by
  obtain ⟨⟨p, h1, h2, h3⟩, h4⟩ := h
  have := steps_tokens h1
  simp at this
  refine ⟨joinSp p.words, ?_⟩
  unfold exprS
  rw [if_neg (by omega), h1]
  simp only
  rw [if_neg (by omega)]
/-- a program's lines so far -/
def LinesOk (ls : List Line) (over : Bool) : Prop := (over = false ∧ ∀ l ∈ ls, LnOk l) ∨ (over = true ∧ ∃ L z, ls = L ++ [z] ∧ (∀ l ∈ L, LnOk l) ∧ LastOk z)
structure PSt (p : Prog) (n : Nat) (over : Bool) : Prop where
  ins : ∀ x ∈ p.inputs, InOk x
  lns : LinesOk p.lines over
  num : p.inputs.length + p.lines.length ≤ n
  le : n ≤ 64
theorem sides_conv : ∀ (toks : List TokV) (acc : List Side), (∀ t ∈ toks, TkOk t) → acc.length ≤ 4 → isOk (sidesP toks acc).2 = true → ∃ ds, (sidesP toks acc).1 = acc ++ ds ∧ ds.length = toks.length ∧ (acc ++ ds).length ≤ 4 ∧ ∀ d ∈ ds, SideOk d ∧ Rng d.n
  | [], acc, _, ha, _ => ⟨[], by simp [sidesP], rfl, by simpa using ha, by simp⟩
  | t :: r, acc, ht, ha, h => by
    rw [sidesP] at h ⊢
    split at h
    · rw [isOk_code (by decide)] at h
      cases h
    · rename_i hk
      rw [if_neg hk]
      split at h
      · rw [isOk_code (by decide)] at h
        cases h
      · rename_i h4
        rw [if_neg h4]
        obtain ⟨ds, h1, h2, h3, h5⟩ := sides_conv r (acc ++ [⟨t.word, t.n⟩]) (fun x hx => ht x (by simp [hx])) (by simp; omega) h
        refine ⟨⟨t.word, t.n⟩ :: ds, by rw [h1]; simp, by simp [h2], by simpa using h3, fun d hd => ?_⟩
        rcases List.mem_cons.1 hd with rfl | hd
        · have hto := ht t (by simp)
          refine ⟨⟨?_⟩, hto.rng⟩
          by_cases h2 : t.kind = 2
          · exact .inl (hto.num h2)
          · have : ¬ (t.kind ≠ 1 ∨ nameB t.word = false) := fun hh => hk ⟨h2, hh⟩
            simp only [not_or, ne_eq, Classical.not_not, Bool.not_eq_false] at this
            exact .inr ⟨hto.word this.1, this.2⟩
        · exact h5 d hd
theorem input_conv {own : List TokV} {e : Int} (h0 : own ≠ []) (ht : ∀ t ∈ own, TkOk t) (hok : isOk (inputP own e).2 = true) : InOk (inputP own e).1 ∧ (inputP own e).1.sides.length + 2 = own.length := by
  have hpos : 0 < own.length := List.length_pos_iff.2 h0
  unfold inputP at hok ⊢
  split at hok
  · rw [isOk_code (by decide)] at hok
    cases hok
  · rename_i h1
    rw [if_neg h1]
    split at hok
    · rw [isOk_code (by decide)] at hok
      cases hok
    · rename_i h2
      rw [if_neg h2]
      simp only [not_or, ne_eq, Classical.not_not, Bool.not_eq_false] at h2
      obtain ⟨ds, s1, s2, s3, s4⟩ := sides_conv (own.drop 2) [] (fun t hm => ht t (List.mem_of_mem_drop hm)) (by simp) hok
      rw [List.nil_append] at s1 s3
      refine ⟨⟨h2.2, by rw [s1]; exact s3, by rw [s1]; exact s4⟩, ?_⟩
      rw [s1, s2, List.length_drop]
      omega
theorem into_conv {own : List TokV} {e : Int} {p : Prog} {n : Nat} {over : Bool} (h0 : own ≠ []) (ht : ∀ t ∈ own, TkOk t) (h : PSt p n over) (hok : isOk (intoP own e p n over).2 = true) : PSt (intoP own e p n over).1 (n + 1) (overP (intoP own e p n over).1) ∧ costP (intoP own e p n over).1 ≤ costP p + own.length + 1 := by
  have hpos : 0 < own.length := List.length_pos_iff.2 h0
  obtain ⟨ins, lns⟩ := p
  obtain ⟨h1, h2, h3, h4⟩ := h
  unfold intoP at hok ⊢
  split at hok
  · rw [isOk_code (by decide)] at hok
    cases hok
  · rename_i c1
    rw [if_neg c1]
    split at hok
    · rw [isOk_code (by decide)] at hok
      cases hok
    · rename_i c2
      rw [if_neg c2]
      split at hok
      · rw [isOk_code (by decide)] at hok
        cases hok
      · rename_i c3
        rw [if_neg c3]
        simp only [not_or, Bool.not_eq_true, not_and, ne_eq, Classical.not_not] at c3
        obtain ⟨rfl, c3⟩ := c3
        have hL : ∀ l ∈ lns, LnOk l := by
          rcases h2 with ⟨_, h⟩ | ⟨h, _⟩
          · exact h
          · cases h
        split at hok
        · rename_i c4
          rw [if_pos c4]
          have hl : lns = [] := c3 c4
          subst hl
          obtain ⟨i1, i2⟩ := input_conv h0 ht hok
          refine ⟨⟨fun x hx => ?_, .inl ⟨rfl, fun l hl => by simp at hl⟩, by simp at h3 ⊢; omega, by omega⟩, ?_⟩
          · rcases List.mem_append.1 hx with hx | hx
            · exact h1 x hx
            · rw [List.mem_singleton.1 hx]
              exact i1
          · simp only [costP, List.map_append, List.sum_append, List.map_cons, List.map_nil, List.sum_cons, List.sum_nil, costI]
            omega
        · rename_i c4
          rw [if_neg c4]
          split at hok
          · rename_i c5
            rw [if_pos c5]
            have hx : ExOk (exprP own e 1).1 (own.length - 1) := expr_ok ht (by omega) hpos hok
            have htk := hx.tok
            refine ⟨⟨h1, .inr ⟨by rw [over_snoc]; rfl, lns, _, rfl, hL, rfl, hx.mono (by omega)⟩, by simp only [List.length_append, List.length_singleton] at h3 ⊢; omega, by omega⟩, ?_⟩
            simp only [costP, List.map_append, List.sum_append, List.map_cons, List.map_nil, List.sum_cons, List.sum_nil, costL, lineP, if_true]
            omega
          · rename_i c5
            rw [if_neg c5]
            split at hok
            · rw [isOk_code (by decide)] at hok
              cases hok
            · rename_i c6
              rw [if_neg c6]
              simp only [not_or, ne_eq, Classical.not_not, Bool.not_eq_false] at c6
              split at hok
              · rw [isOk_code (by decide)] at hok
                cases hok
              · rename_i c7
                rw [if_neg c7]
                simp only [not_or, ne_eq, Classical.not_not] at c7
                have hk := kind_lt (toks := own) (k := 1) (by rw [c7.1]; decide)
                have hx : ExOk (exprP own e 2).1 (own.length - 2) := expr_ok ht (by omega) (by omega) hok
                have htk := hx.tok
                have hne := (name_ne c6.2).1
                have hov : overP ⟨ins, lns ++ [(lineP own e (peekP own 0).word 2).1]⟩ = false := by
                  rw [over_snoc]
                  simpa [lineP] using hne
                refine ⟨⟨h1, .inl ⟨hov, fun l hl => ?_⟩, by simp only [List.length_append, List.length_singleton] at h3 ⊢; omega, by omega⟩, ?_⟩
                · rcases List.mem_append.1 hl with hl | hl
                  · exact hL l hl
                  · rw [List.mem_singleton.1 hl]
                    exact ⟨c6.2, hx.mono (by omega)⟩
                · simp only [costP, List.map_append, List.sum_append, List.map_cons, List.map_nil, List.sum_cons, List.sum_nil, costL, lineP, hne, if_false]
                  omega
theorem parse_go_conv {len : Int} {tot : Nat} : ∀ (f : Nat) {toks : List TokV} {p q : Prog} {n : Nat} {over : Bool} {flt : Flt}, toks.length + 1 ≤ f → (∀ t ∈ toks, TkOk t) → PSt p n over → costP p + toks.length ≤ tot + (if toks = [] then 1 else 0) → parseGo len f toks p n over = (q, flt) → isOk flt = true → PSt q 64 true ∧ costP q ≤ tot + 1
  | 0, toks, _, _, _, _, _, hf, _, _, _, _, _ => by omega
  | f + 1, toks, p, q, n, over, flt, hf, ht, hp, hc, h, hok => by
    rw [parseGo] at h
    by_cases h0 : toks = []
    · rw [if_pos h0] at h
      rw [if_pos h0] at hc
      split at h
      · rename_i ho
        cases h
        subst ho
        have : toks.length = 0 := by rw [h0]; rfl
        exact ⟨⟨hp.ins, hp.lns, by have := hp.num; have := hp.le; omega, by omega⟩, by omega⟩
      · cases h
        rw [isOk_code (by decide)] at hok
        cases hok
    · rw [if_neg h0] at h
      rw [if_neg h0] at hc
      have hpos : 0 < toks.length := List.length_pos_iff.2 h0
      split at h
      · refine parse_go_conv f (by rw [List.length_drop]; omega) (fun t hm => ht t (List.mem_of_mem_drop hm)) hp ?_ h hok
        rw [List.length_drop]
        split <;> omega
      · rename_i hon
        split at h
        · rename_i hi
          have hsub : ∀ t ∈ ownP toks, TkOk t := fun t hm => ht t (by rw [← own_take] at hm; exact List.mem_of_mem_take hm)
          obtain ⟨a, b⟩ := into_conv hon hsub hp hi
          have hle := own_le toks
          refine parse_go_conv f (by rw [List.length_drop]; omega) (fun t hm => ht t (List.mem_of_mem_drop hm)) a ?_ h hok
          rw [List.length_drop]
          split
          · omega
          · rename_i hd
            have : (toks.drop ((ownP toks).length + 1)).length ≠ 0 := fun e => hd (List.eq_nil_of_length_eq_zero e)
            rw [List.length_drop] at this
            omega
        · rename_i hi
          cases h
          exact absurd hok hi
theorem parse_conv {text : Bs} {p : Prog} {flt : Flt} (h : parseP text = (p, flt)) (hok : isOk flt = true) : PSt p 64 true ∧ costP p ≤ (lexP text).1.length + 1 := by
  unfold parseP at h
  split at h
  · refine parse_go_conv _ (Nat.le_refl _) (tkOk text) ⟨fun x hx => by simp at hx, .inl ⟨rfl, fun l hl => by simp at hl⟩, by simp, by omega⟩ ?_ h hok
    simp [costP]
  · rename_i hl
    cases h
    exact absurd hok hl
theorem parse_bad {text : Bs} (h : isOk (parseP text).2 = false) : (parseP text).1 = ⟨[], []⟩ := by
  have key : ∀ (len : Int) (f : Nat) (toks : List TokV) (p : Prog) (n : Nat) (over : Bool), isOk (parseGo len f toks p n over).2 = false → (parseGo len f toks p n over).1 = ⟨[], []⟩ := by
    intro len f
    induction f with
    | zero => exact fun _ _ _ _ _ => rfl
    | succ f ih =>
      intro toks p n over h
      rw [parseGo] at h ⊢
      split at h
      · rename_i h0
        rw [if_pos h0]
        split at h
        · cases h
        · rename_i ho
          rw [if_neg ho]
      · rename_i h0
        rw [if_neg h0]
        split at h
        · rename_i h1
          rw [if_pos h1]
          exact ih _ _ _ _ h
        · rename_i h1
          rw [if_neg h1]
          split at h
          · rename_i h2
            rw [if_pos h2]
            exact ih _ _ _ _ h
          · rename_i h2
            rw [if_neg h2]
  unfold parseP at h ⊢
  split at h
  · rename_i hl
    rw [if_pos hl]
    exact key _ _ _ _ _ _ h
  · rename_i hl
    rw [if_neg hl]

/-! ### what may be is shown -/
theorem sides_some : ∀ (ds : List Side) (acc : Bs), (∀ d ∈ ds, SideOk d) → ∃ t, sidesS ds acc = some t
  | [], acc, _ => ⟨acc, rfl⟩
  | d :: ds, acc, h => by
    rw [sidesS]
    split
    · exact sides_some ds _ fun x hx => h x (by simp [hx])
    · rename_i he
      rw [if_pos ((h d (by simp)).ok.resolve_left he)]
      exact sides_some ds _ fun x hx => h x (by simp [hx])
theorem inputs_some : ∀ (xs : List Input) (o : Bs), (∀ x ∈ xs, InOk x) → ∃ o', inputsS xs o = (o', true)
  | [], o, _ => ⟨o, rfl⟩
  | x :: xs, o, h => by
    obtain ⟨h1, h2, h3⟩ := h x (by simp)
    obtain ⟨t, ht⟩ := sides_some x.sides x.name fun d hd => (h3 d hd).1
    have hi : inputS x = some t := by
      unfold inputS
      rw [if_neg (by rw [h1]; simp; omega), ht]
    rw [inputsS, hi]
    exact inputs_some xs _ fun y hy => h y (by simp [hy])
theorem lines_some {z : Line} (hz : LastOk z) : ∀ (L : List Line) (o : Bs), (∀ l ∈ L, LnOk l) → ∃ o', linesS (L ++ [z]) o = (o', true)
  | [], o, _ => by
    obtain ⟨t, ht⟩ := hz.2.expr
    refine ⟨o ++ (([111, 117, 116, 32] ++ t) ++ [10]), ?_⟩
    show linesS [z] o = _
    simp only [linesS]
    rw [ht]
    simp only [hz.1, ne_eq, not_true_eq_false, if_false]
  | l :: L, o, h => by
    obtain ⟨h1, h2⟩ := h l (by simp)
    obtain ⟨t, ht⟩ := h2.expr
    obtain ⟨o', ho⟩ := lines_some hz L (o ++ (((l.name ++ [58, 32]) ++ t) ++ [10])) fun y hy => h y (by simp [hy])
    refine ⟨o', ?_⟩
    obtain ⟨m, M, hM⟩ : ∃ m M, L ++ [z] = m :: M := by
      cases L with
      | nil => exact ⟨z, [], rfl⟩
      | cons m M => exact ⟨m, M ++ [z], rfl⟩
    rw [List.cons_append]
    rw [hM] at ho ⊢
    have : linesS (l :: m :: M) o = match exprS l.items 254 with
        | none => (o, false)
        | some t => if nameB l.name = false then (o, false) else linesS (m :: M) (o ++ (((l.name ++ [58, 32]) ++ t) ++ [10])) := rfl
    rw [this, ht]
    simp only
    rw [if_neg (by rw [h1]; simp)]
    exact ho
theorem PSt.lines_ne {p : Prog} {n : Nat} (h : PSt p n true) : p.lines ≠ [] := by
  rcases h.lns with ⟨h, _⟩ | ⟨_, L, z, h, _⟩
  · cases h
  · rw [h]
    simp
theorem PSt.right {p : Prog} (h : PSt p 64 true) : (programS p).2 = true := by
  unfold programS
  rw [if_neg]
  · obtain ⟨o, ho⟩ := inputs_some p.inputs [] h.ins
    rw [ho]
    rcases h.lns with ⟨h, _⟩ | ⟨_, L, z, hl, hL, hz⟩
    · cases h
    · obtain ⟨o', ho'⟩ := lines_some hz L o hL
      simp only [hl, ho']
  · have := h.num
    rintro (h' | h')
    · exact h.lines_ne h'
    · omega
theorem PSt.rng {p : Prog} {n : Nat} (h : PSt p n true) : RngP p := by
  refine ⟨fun x hx d hd => ((h.ins x hx).2.2 d hd).2, fun l hl => ?_⟩
  rcases h.lns with ⟨h, _⟩ | ⟨_, L, z, e, hL, hz⟩
  · cases h
  · rw [e] at hl
    rcases List.mem_append.1 hl with hl | hl
    · exact (hL l hl).2.2
    · rw [List.mem_singleton.1 hl]
      exact hz.2.2

/-! ### places apart -/
theorem operand_un (x : Item) : operandS x.un = operandS x := rfl
theorem verbS_un (x : Item) : verbS x.un = verbS x := rfl
theorem step_un (st : List Piece) (x : Item) : stepS st x.un = stepS st x := rfl
theorem steps_un : ∀ (l : List Item) (st : List Piece), stepsS (unAll l) st = stepsS l st
  | [], _ => rfl
  | x :: l, st => by
    show (match stepS st x with
      | none => none
      | some st' => stepsS (unAll l) st') = _
    rw [stepsS]
    cases stepS st x with
    | none => rfl
    | some s => exact steps_un l s
theorem expr_un (l : List Item) (m : Nat) : exprS (unAll l) m = exprS l m := by
  unfold exprS
  rw [steps_un]
  simp [unAll]
theorem inputs_un : ∀ (xs : List Input) (o : Bs), inputsS (xs.map Input.un) o = inputsS xs o
  | [], _ => rfl
  | x :: xs, o => by
    rw [List.map_cons, inputsS, inputsS]
    show (match inputS x with
      | none => (o, false)
      | some t => inputsS (xs.map Input.un) (o ++ (([105, 110, 32] ++ t) ++ [10]))) = _
    cases inputS x with
    | none => rfl
    | some t => exact inputs_un xs _
theorem lines_un : ∀ (ls : List Line) (o : Bs), linesS (ls.map Line.un) o = linesS ls o
  | [], _ => rfl
  | [l], o => by
    show linesS [l.un] o = _
    simp only [linesS]
    show (match exprS (unAll l.items) 255 with
      | none => (o, false)
      | some t => _) = _
    rw [expr_un]
    rfl
  | l :: m :: ls, o => by
    show (match exprS (unAll l.items) 254 with
        | none => (o, false)
        | some t => if nameB l.name = false then (o, false) else linesS ((m :: ls).map Line.un) (o ++ (((l.name ++ [58, 32]) ++ t) ++ [10]))) = match exprS l.items 254 with
        | none => (o, false)
        | some t => if nameB l.name = false then (o, false) else linesS (m :: ls) (o ++ (((l.name ++ [58, 32]) ++ t) ++ [10]))
    rw [expr_un]
    cases exprS l.items 254 with
    | none => rfl
    | some t =>
      simp only
      split
      · rfl
      · exact lines_un (m :: ls) _
theorem program_un (p : Prog) : programS p.un = programS p := by
  unfold programS Prog.un
  simp only [List.map_eq_nil_iff, List.length_map, inputs_un, lines_un]
theorem show_un {p q : Prog} (h : p.un = q.un) : showP p = showP q := by
  unfold showP
  rw [← program_un p, ← program_un q, h]
theorem right_un {p q : Prog} (h : p.un = q.un) : (programS p).2 = (programS q).2 := by rw [← program_un p, ← program_un q, h]

/-! ### the laws, plainly -/
theorem show_ok {p : Prog} (h : (showP p).2 = 0) : programS p = ((showP p).1, true) ∧ (showP p).1.length ≤ 65536 := by
  unfold showP at h ⊢
  split at h
  · cases h
  · rename_i h1
    split at h
    · cases h
    · rename_i h2
      rw [if_neg h1, if_neg h2]
      simp only [Bool.not_eq_false] at h1
      exact ⟨Prod.ext rfl h1, by simp only; omega⟩
theorem show_bad {p : Prog} (h : (showP p).2 ≠ 0) : (showP p).1 = [] ∧ ((showP p).2 = 30 ↔ (programS p).2 = true) := by
  unfold showP at h ⊢
  split at h
  · rename_i h1
    rw [if_pos h1, h1]
    simp
  · rename_i h1
    split at h
    · rename_i h2
      rw [if_neg h1, if_pos h2]
      simpa using h1
    · exact absurd rfl h
theorem isOk_iff {f : Flt} : isOk f = true ↔ f = (0, 0) := by
  constructor
  · intro h
    simp only [isOk, fltEq, Bool.and_eq_true, beq_iff_eq] at h
    exact Prod.ext h.1 h.2
  · rintro rfl
    rfl
/-- a program that is shown is read as itself -/
theorem back_law {p : Prog} (hr : RngP p) (h : (showP p).2 = 0) : (programS p).2 = true ∧ (parseP (showP p).1).2 = (0, 0) ∧ (parseP (showP p).1).1.un = p.un := by
  obtain ⟨h1, h2⟩ := show_ok h
  obtain ⟨⟨q, h3, h4⟩, _⟩ := shown_read hr h1 h2
  exact ⟨by rw [h1], by rw [h3], by rw [h3]; exact h4⟩
theorem reads_law {text : Bs} (h : (parseP text).2 = (0, 0)) : (programS (parseP text).1).2 = true ∧ RngP (parseP text).1 := by
  have := parse_conv (text := text) (p := (parseP text).1) (flt := (parseP text).2) rfl (isOk_iff.2 h)
  exact ⟨this.1.right, this.1.rng⟩
theorem right_empty : (programS ⟨[], []⟩).2 = false := by
  unfold programS
  rw [if_pos (.inl rfl)]
theorem bad_law {text : Bs} (h : (parseP text).2 ≠ (0, 0)) : (programS (parseP text).1).2 = false := by
  rw [parse_bad (Bool.eq_false_iff.2 fun e => h (isOk_iff.1 e))]
  exact right_empty
theorem unlike_law {p q : Prog} (hp : RngP p) (hq : RngP q) (h : (showP p).2 = 0) (k : (showP q).2 = 0) : (showP p).1 = (showP q).1 ↔ p.un = q.un := by
  constructor
  · intro e
    have a := (back_law hp h).2.2
    have b := (back_law hq k).2.2
    rw [e] at a
    exact a.symm.trans b
  · intro e
    rw [show_un e]
end Go.Proofs.YtngkedmndhmjcaaGreatDoor
/- Plain: a line's end behind a text is one token more. -/
namespace Go.Proofs.YtngkedmndhmjcaaGreatDoor
open Go.RowKit

theorem runB_snoc {p : UInt8 → Bool} {c : UInt8} (hc : p c = false) : ∀ s : Bs, runB p (s ++ [c]) = runB p s
  | [] => by simp [runB, hc]
  | b :: s => by rw [List.cons_append, runB, runB, runB_snoc hc s]
theorem take_snoc {n : Nat} {s : Bs} {c : UInt8} (h : n ≤ s.length) : (s ++ [c]).take n = s.take n := by rw [List.take_append_of_le_length h]
theorem drop_snoc {n : Nat} {s : Bs} {c : UInt8} (h : n ≤ s.length) : (s ++ [c]).drop n = s.drop n ++ [c] := by rw [List.drop_append_of_le_length h]
theorem signP_snoc : ∀ s : Bs, s ≠ [] → signP (s ++ [10]) = signP s
  | [], h => absurd rfl h
  | [b], _ => by
    have e1 : (some (10 : UInt8) == some 61) = false := by decide
    have e2 : ((none : Option UInt8) == some 61) = false := rfl
    simp only [List.cons_append, List.nil_append, signP, List.head?_cons, List.head?_nil, e1, e2]
  | b :: c :: r, _ => rfl
theorem numTok_snoc (b : UInt8) (r : Bs) : numTok b (r ++ [10]) = numTok b r := by
  unfold numTok
  by_cases hb : (b == 95) = true
  · simp only [hb, if_true]
    rw [runB_snoc (by decide), take_snoc (runB_le _ _)]
  · simp only [hb, Bool.false_eq_true, if_false]
    rw [← List.cons_append, runB_snoc (by decide), take_snoc (runB_le _ _)]
theorem tokenP_snoc (b : UInt8) (r : Bs) : tokenP (b :: r ++ [10]) = tokenP (b :: r) := by
  have h1 : runB wordB (b :: (r ++ [10])) = runB wordB (b :: r) := runB_snoc (by decide) (b :: r)
  have h2 : signP (b :: (r ++ [10])) = signP (b :: r) := signP_snoc (b :: r) (by simp)
  have h3 : (b :: (r ++ [10])).take (runB wordB (b :: r)) = (b :: r).take (runB wordB (b :: r)) := take_snoc (s := b :: r) (runB_le _ _)
  have h4 : (b :: (r ++ [10])).take (signP (b :: r)) = (b :: r).take (signP (b :: r)) := take_snoc (s := b :: r) (signP_le _)
  rw [List.cons_append]
  simp only [tokenP, numTok_snoc, h1, h2, h3, h4]
theorem lex_nl : ∀ (n i : Nat) (s : Bs) (out : List Tok), s.length ≤ n → isOk (lexGo s.length i s out).2 = true → ∃ at_, lexGo (s ++ [10]).length i (s ++ [10]) out = ((lexGo s.length i s out).1 ++ [⟨4, at_, [], 0⟩], (0, 0))
  | _, i, [], out, _, _ => ⟨i, rfl⟩
  | 0, _, b :: r, _, hn, _ => by simp at hn
  | n + 1, i, b :: r, out, hn, h => by
    simp only [List.length_cons] at hn
    rw [List.cons_append]
    rw [lexGo_step] at h ⊢
    rw [lexGo_step]
    by_cases hb : blankB b = true
    · rw [if_pos hb] at h ⊢
      rw [if_pos hb]
      exact lex_nl n _ r out (by omega) h
    · rw [if_neg hb] at h ⊢
      rw [if_neg hb]
      by_cases h35 : (b == 35) = true
      · rw [if_pos h35] at h ⊢
        rw [if_pos h35]
        have hp : 1 ≤ runB (· != 10) (b :: r) := runB_pos (note_pos h35)
        have e1 : runB (· != 10) (b :: (r ++ [10])) = runB (· != 10) (b :: r) := runB_snoc (by decide) (b :: r)
        have e2 : (b :: (r ++ [10])).drop (runB (· != 10) (b :: r)) = (b :: r).drop (runB (· != 10) (b :: r)) ++ [10] := drop_snoc (s := b :: r) (runB_le _ _)
        rw [e1, e2]
        exact lex_nl n _ _ out (by rw [List.length_drop, List.length_cons]; omega) h
      · rw [if_neg h35] at h ⊢
        rw [if_neg h35]
        have et : tokenP (b :: (r ++ [10])) = tokenP (b :: r) := tokenP_snoc b r
        rw [et]
        cases ht : tokenP (b :: r) with
        | error e =>
          rw [ht] at h
          simp only at h
          rw [isOk_code (tok_code ht)] at h
          cases h
        | ok q =>
          obtain ⟨k, wd, v, m⟩ := q
          rw [ht] at h
          simp only at h ⊢
          have hl := tokenP_len ht
          simp only at hl
          have e2 : (b :: (r ++ [10])).drop m = (b :: r).drop m ++ [10] := drop_snoc (s := b :: r) hl.2
          rw [e2]
          exact lex_nl n _ _ _ (by rw [List.length_drop, List.length_cons]; omega) h
theorem lex_behind {text : Bs} (h : (lexP text).2 = (0, 0)) (hl : text.length < 65536) : (lexP (text ++ [10])).2 = (0, 0) ∧ (lexP (text ++ [10])).1.length = (lexP text).1.length + 1 := by
  unfold lexP at h ⊢
  rw [if_neg (by omega)] at h
  rw [if_neg (by simp; omega), if_neg (by omega)]
  obtain ⟨a, ha⟩ := lex_nl text.length 0 text [] (Nat.le_refl _) (isOk_iff.2 h)
  rw [ha]
  exact ⟨rfl, by simp⟩
theorem lexed {text : Bs} (h : (parseP text).2 = (0, 0)) : (lexP text).2 = (0, 0) ∧ text.length ≤ 65536 := by
  unfold parseP at h
  split at h
  · rename_i hl
    have hl' := isOk_iff.1 hl
    refine ⟨hl', ?_⟩
    unfold lexP at hl'
    split at hl'
    · cases hl'
    · omega
  · rename_i hl
    exact absurd (isOk_iff.2 h) hl
theorem short_law {text : Bs} (h : (parseP text).2 = (0, 0)) (hs : (showP (parseP text).1).2 = 0) (hl : text.length ≠ 65536) :
    (lexP (text ++ [10])).2 = (0, 0) ∧ (lexP (showP (parseP text).1).1).2 = (0, 0) ∧ (lexP (showP (parseP text).1).1).1.length ≤ (lexP (text ++ [10])).1.length := by
  obtain ⟨a, b⟩ := lexed h
  obtain ⟨c, d⟩ := lex_behind a (by omega)
  have hc := parse_conv (text := text) (p := (parseP text).1) (flt := (parseP text).2) rfl (isOk_iff.2 h)
  obtain ⟨e1, e2⟩ := show_ok hs
  obtain ⟨_, f1, f2⟩ := shown_read hc.1.rng e1 e2
  exact ⟨c, f1, by rw [f2, d]; exact hc.2⟩
end Go.Proofs.YtngkedmndhmjcaaGreatDoor
/- Programs that are alike, their places apart: plain, and the reference's walks (windrowref04.Items, Alike). (Printed by wip/gen/alike.py.) -/
namespace Go.Proofs.YtngkedmndhmjcaaGreatDoor
open Go.RowKit

def all2 {α : Type} (f : α → α → Bool) : List α → List α → Bool
  | [], [] => true
  | x :: a, y :: b => f x y && all2 f a b
  | _, _ => false
section
variable {α : Type} {f : α → α → Bool} {x y : α} {i : Nat}
theorem all2_len : ∀ {a b : List α}, all2 f a b = true → a.length = b.length
  | [], [], _ => rfl
  | [], _ :: _, h => by cases h
  | _ :: _, [], h => by cases h
  | x :: a, y :: b, h => by
    rw [all2, Bool.and_eq_true] at h
    simp [all2_len h.2]
theorem all2_ne {a b : List α} (h : a.length ≠ b.length) : all2 f a b = false := by
  cases hb : all2 f a b with
  | false => rfl
  | true => exact absurd (all2_len hb) h
theorem all2_step {a b : List α} (hx : a[i]? = some x) (hy : b[i]? = some y) : all2 f (a.drop i) (b.drop i) = (f x y && all2 f (a.drop (i + 1)) (b.drop (i + 1))) := by
  rw [drop_some hx, drop_some hy, all2]
theorem all2_end {a b : List α} (ha : a.length ≤ i) (hb : b.length ≤ i) : all2 f (a.drop i) (b.drop i) = true := by
  rw [List.drop_of_length_le ha, List.drop_of_length_le hb]
  rfl
theorem take_same {a b : List α} {k : Nat} (h : a.take k = b.take k) (hx : a[k]? = some x) (hy : b[k]? = some y) (e : x = y) : a.take (k + 1) = b.take (k + 1) := by
  subst e
  rw [List.take_add_one, List.take_add_one, h, hx, hy]
theorem take_all {a b : List α} {k : Nat} (h : a.take k = b.take k) (ha : a.length ≤ k) (hb : b.length ≤ k) : a = b := by
  rw [List.take_of_length_le ha, List.take_of_length_le hb] at h
  exact h
theorem not_take {a b : List α} {k : Nat} (hx : a[k]? = some x) (hy : b[k]? = some y) (e : x ≠ y) : a ≠ b := by
  rintro rfl
  rw [hx] at hy
  exact e (Option.some.inj hy)
end
def likeI (x y : Item) : Bool := x.how == y.how && (x.fn == y.fn && (x.name == y.name && x.nums == y.nums))
def likeIn (x y : Input) : Bool := x.name == y.name && x.sides == y.sides
def likeL (x y : Line) : Bool := x.name == y.name && all2 likeI x.items y.items
def alikeB (p q : Prog) : Bool := all2 likeIn p.inputs q.inputs && all2 likeL p.lines q.lines
section
variable {x y : ItemV}
theorem likeI_t (h1 : x.how = y.how) (h2 : x.fn = y.fn) (h3 : x.name = y.name) (h4 : x.nums.list = y.nums.list) : likeI x.it y.it = true := by simp [likeI, ItemV.it, h1, h2, h3, h4]
theorem likeI_f (h : x.how ≠ y.how ∨ x.fn ≠ y.fn ∨ x.name ≠ y.name ∨ x.nums.list ≠ y.nums.list) : likeI x.it y.it = false := by
  cases hb : likeI x.it y.it with
  | false => rfl
  | true =>
    simp [likeI, ItemV.it] at hb
    rcases h with h | h | h | h
    · exact absurd hb.1 h
    · exact absurd hb.2.1 h
    · exact absurd hb.2.2.1 h
    · exact absurd hb.2.2.2 h
theorem ne_len {α : Type} {a b : List α} (h : a.length ≠ b.length) : a ≠ b := fun e => h (congrArg List.length e)
end
structure AlikeOk (p : ProgV) : Prop where
  ins : p.inputs.list.length ≤ 140737488355328
  lns : p.lines.list.length ≤ 140737488355328
  sides : ∀ x ∈ p.inputs.list, x.sides.list.length ≤ 140737488355328
  items : ∀ x ∈ p.lines.list, x.items.list.length ≤ 140737488355328 ∧ ∀ it ∈ x.items.list, it.nums.list.length ≤ 140737488355328
theorem sd_inj {x y : SideV} (h : x.sd = y.sd) : x.name = y.name ∧ x.n = y.n := by
  simpa [SideV.sd] using h
theorem sds_inj : ∀ {a b : List SideV}, a.map SideV.sd = b.map SideV.sd → a = b
  | [], [], _ => rfl
  | [], _ :: _, h => by simp at h
  | _ :: _, [], h => by simp at h
  | x :: a, y :: b, h => by
    simp only [List.map_cons, List.cons.injEq] at h
    obtain ⟨h1, h2⟩ := sd_inj h.1
    rw [sds_inj h.2]
    cases x
    cases y
    simp_all
theorem side_is {x y : SideV} (h : sideEq x y = true) : x = y := by
  simp only [sideEq, Bool.and_eq_true, beq_iff_eq] at h
  cases x
  cases y
  simp_all
theorem side_not {x y : SideV} (h : sideEq x y = false) : x ≠ y := by
  rintro rfl
  simp [sideEq] at h
section
variable {a b : List InputV} {c d : List LineV} {i : Nat} {s : Bool}
theorem alike_len {p q : ProgV} (h : p.inputs.list.length ≠ q.inputs.list.length ∨ p.lines.list.length ≠ q.lines.list.length) : alikeB p.pr q.pr = false := by
  unfold alikeB
  rcases h with h | h
  · rw [all2_ne (by simpa [ProgV.pr] using h), Bool.false_and]
  · rw [all2_ne (f := likeL) (by simpa [ProgV.pr] using h), Bool.and_false]
theorem in_ne {x y : InputV} (hx : a[i]? = some x) (hy : b[i]? = some y) (h : x.name ≠ y.name ∨ x.sides.list.length ≠ y.sides.list.length ∨ x.sides.list ≠ y.sides.list) : (all2 likeIn ((a.map InputV.inp).drop i) ((b.map InputV.inp).drop i) && s) = false := by
  rw [all2_step (map_at hx) (map_at hy)]
  have : likeIn x.inp y.inp = false := by
    cases hb : likeIn x.inp y.inp with
    | false => rfl
    | true =>
      simp only [likeIn, InputV.inp, Bool.and_eq_true, beq_iff_eq] at hb
      have e : x.sides.list = y.sides.list := sds_inj hb.2
      rcases h with h | h | h
      · exact absurd hb.1 h
      · exact absurd (congrArg List.length e) h
      · exact absurd e h
  rw [this]
  rfl
theorem in_step {x y : InputV} (hx : a[i]? = some x) (hy : b[i]? = some y) (h1 : x.name = y.name) (h2 : x.sides.list = y.sides.list) : (all2 likeIn ((a.map InputV.inp).drop i) ((b.map InputV.inp).drop i) && s) = (all2 likeIn ((a.map InputV.inp).drop (i + 1)) ((b.map InputV.inp).drop (i + 1)) && s) := by
  rw [all2_step (map_at hx) (map_at hy)]
  have : likeIn x.inp y.inp = true := by simp [likeIn, InputV.inp, h1, h2]
  rw [this, Bool.true_and]
theorem in_end (ha : a.length ≤ i) (hb : b.length ≤ i) : (all2 likeIn ((a.map InputV.inp).drop i) ((b.map InputV.inp).drop i) && s) = s := by rw [all2_end (by simpa using ha) (by simpa using hb), Bool.true_and]
theorem ln_ne {x y : LineV} (hx : c[i]? = some x) (hy : d[i]? = some y) (h : x.name ≠ y.name ∨ all2 likeI (x.items.list.map ItemV.it) (y.items.list.map ItemV.it) = false) : all2 likeL ((c.map LineV.ln).drop i) ((d.map LineV.ln).drop i) = false := by
  rw [all2_step (map_at hx) (map_at hy)]
  have : likeL x.ln y.ln = false := by
    rcases h with h | h
    · simp [likeL, LineV.ln, h]
    · simp [likeL, LineV.ln, h]
  rw [this]
  rfl
theorem ln_step {x y : LineV} (hx : c[i]? = some x) (hy : d[i]? = some y) (h1 : x.name = y.name) (h2 : all2 likeI (x.items.list.map ItemV.it) (y.items.list.map ItemV.it) = true) : all2 likeL ((c.map LineV.ln).drop i) ((d.map LineV.ln).drop i) = all2 likeL ((c.map LineV.ln).drop (i + 1)) ((d.map LineV.ln).drop (i + 1)) := by
  rw [all2_step (map_at hx) (map_at hy)]
  have : likeL x.ln y.ln = true := by simp [likeL, LineV.ln, h1, h2]
  rw [this, Bool.true_and]
theorem ln_end (hc : c.length ≤ i) (hd : d.length ≤ i) : all2 likeL ((c.map LineV.ln).drop i) ((d.map LineV.ln).drop i) = true := all2_end (by simpa using hc) (by simpa using hd)
end


set_option maxRecDepth 100000 in
theorem rItems_spec (A B : Option Addr) (ca cb : Nat) (a b : List ItemV) (ha : a.length ≤ 140737488355328) (hna : ∀ it ∈ a, it.nums.list.length ≤ 140737488355328) : Spec Tryz.prog 22 [.slice A a.length ca, .slice B b.length cb] [] [itemE.sl (.slice A a.length ca) a, numsF a, itemE.sl (.slice B b.length cb) b, numsF b] (fun (_ : Unit) => .bool (all2 likeI (a.map ItemV.it) (b.map ItemV.it))) (fun _ => []) (fun _ => []) := by
  have hT := showT_ok
  generalize hR : all2 likeI (a.map ItemV.it) (b.map ItemV.it) = r
  refine spec_of Tryz.func22 rfl Tryz.ntmps22 rfl ?_
  intro β hM
  refine sr ?_
  refine sp hT ?_
  refine nn ?_
  refine at_seq ?_
  refine sr ?_
  refine sp4 hT ?_
  refine sp hT ?_
  refine nn ?_
  refine at_cond rfl (fun hc11 => ?_) (fun hc11 => ?_)
  · have hc11 := bne_iff_ne.1 hc11
    refine sr ?_
    refine sp hT ?_
    refine nn ?_
    refine at_ret ?_
    refine r_then ?_
    have hr := hR.symm.trans (all2_ne (by rw [List.length_map, List.length_map]; omega))
    subst hr
    exact at_res1 () rfl (rv_tmp rfl) .nil trivial rfl
  have hc11 := bne_eq_false_iff_eq.1 hc11
  refine at_skip ?_
  refine n_then ?_
  refine at_seq ?_
  refine sr ?_
  refine sp hT ?_
  refine nn ?_
  refine at_block ?_
  refine at_loop2 (ι := Nat) [(0, _), (1, _)] ⟨rfl, rfl, trivial⟩ (fun i => [(5, .int .i64 (i : Nat))]) (fun _ => []) (fun i => [Fact.pure (i ≤ a.length ∧ r = all2 likeI ((a.map ItemV.it).drop i) ((b.map ItemV.it).drop i))]) (fun i => a.length - i) 0 ⟨rfl, trivial⟩ .nil ⟨Has.pure (⟨by omega, hR.symm⟩), trivial⟩ ?_
  rintro i
  refine at_know (Has.of mT0) fun hinv4 => ?_
  refine at_seq ?_
  refine sr ?_
  refine sp4 hT ?_
  refine nn ?_
  refine at_cond rfl (fun hc15 => ?_) (fun hc15 => ?_)
  · have hc15 := of_decide_eq_true hc15
    refine at_skip ?_
    refine n_then ?_
    refine at_seq ?_
    refine at_block ?_
    refine at_seq ?_
    refine at_seq ?_
    refine at_mix _ _ [(true, 0), (true, 1), (true, 2), (true, 3), (true, 4), (true, 5), (true, 6), (true, 7), (true, 8), (true, 9), (true, 10), (true, 11), (true, 12), (true, 13), (true, 14), (true, 15), (true, 16), (true, 17), (true, 18), (true, 19), (true, 20), (true, 21), (true, 22), (true, 23), (true, 24), (true, 25), (true, 26), (true, 27), (true, 28), (true, 29), (true, 30), (true, 31), (true, 32), (true, 33), (true, 34), (true, 35), (true, 36), (true, 37), (true, 38), (true, 39), (true, 40), (true, 41), (true, 42), (true, 43), (true, 44), (true, 45), (true, 46), (true, 47), (true, 48), (true, 49), (true, 50), (true, 51)] mixes (by decide +kernel) .nil HasAll.self ?_
    refine atm_sti rfl rfl rfl rfl (sti_pure hT rfl) ?_
    refine atm_sti rfl rfl rfl rfl (sti_pure hT rfl) ?_
    obtain ⟨x1, hx2⟩ : ∃ x', a[i]? = some x' := ⟨_, List.getElem?_eq_getElem (by omega)⟩
    refine atm_sti rfl rfl rfl rfl (sti_index hT (k := i) (reads_fact (Has.of mT1)) rfl rfl rfl rfl rfl rfl rfl (by omega)) ?_
    refine atm_sti rfl rfl rfl rfl (sti_pure hT rfl) ?_
    refine atm_sti rfl rfl rfl rfl (sti_load1 hT (Reads.knows (reads_fact (Has.of mT1)) (k := i) (x := x1) hx2 0) rfl rfl rfl rfl rfl) ?_
    refine atm_sti rfl rfl rfl rfl (sti_pure hT rfl) ?_
    refine atm_sti rfl rfl rfl rfl (sti_pure hT rfl) ?_
    obtain ⟨x3, hx4⟩ : ∃ x', b[i]? = some x' := ⟨_, List.getElem?_eq_getElem (by omega)⟩
    refine atm_sti rfl rfl rfl rfl (sti_index hT (k := i) (reads_fact (Has.of mT3)) rfl rfl rfl rfl rfl rfl rfl (by omega)) ?_
    refine atm_sti rfl rfl rfl rfl (sti_pure hT rfl) ?_
    refine atm_sti rfl rfl rfl rfl (sti_load1 hT (Reads.knows (reads_fact (Has.of mT3)) (k := i) (x := x3) hx4 0) rfl rfl rfl rfl rfl) ?_
    refine atm_sti rfl rfl rfl rfl (sti_pure hT rfl) ?_
    refine atm_sti rfl rfl rfl rfl (sti_pure hT rfl) ?_
    refine at_case (fun hg29 => ?_) (fun hg29 => ?_)
    · have hg29 := bne_iff_ne.1 hg29
      refine atm_skipped rfl rfl rfl rfl ?_
      refine atm_skipped rfl rfl rfl rfl ?_
      refine atm_skipped rfl rfl rfl rfl ?_
      refine atm_skipped rfl rfl rfl rfl ?_
      refine atm_skipped rfl rfl rfl rfl ?_
      refine atm_skipped rfl rfl rfl rfl ?_
      refine atm_skipped rfl rfl rfl rfl ?_
      refine atm_skipped rfl rfl rfl rfl ?_
      refine atm_skipped rfl rfl rfl rfl ?_
      refine atm_skipped rfl rfl rfl rfl ?_
      refine atm_skipped rfl rfl rfl rfl ?_
      refine atm_sti rfl rfl rfl rfl (sti_pure hT rfl) ?_
      refine atm_sti rfl rfl rfl rfl (sti_pure hT rfl) ?_
      refine atm_skipped rfl rfl rfl rfl ?_
      refine atm_skipped rfl rfl rfl rfl ?_
      refine atm_skipped rfl rfl rfl rfl ?_
      refine atm_skipped rfl rfl rfl rfl ?_
      refine atm_skipped rfl rfl rfl rfl ?_
      refine atm_skipped rfl rfl rfl rfl ?_
      refine atm_skipped rfl rfl rfl rfl ?_
      refine atm_skipped rfl rfl rfl rfl ?_
      refine atm_skipped rfl rfl rfl rfl ?_
      refine atm_skipped rfl rfl rfl rfl ?_
      refine atm_skipped rfl rfl rfl rfl ?_
      refine atm_sti rfl rfl rfl rfl (sti_pure hT rfl) ?_
      refine atm_sti rfl rfl rfl rfl (sti_pure hT rfl) ?_
      refine atm_skipped rfl rfl rfl rfl ?_
      refine atm_skipped rfl rfl rfl rfl ?_
      refine atm_skipped rfl rfl rfl rfl ?_
      refine atm_skipped rfl rfl rfl rfl ?_
      refine atm_skipped rfl rfl rfl rfl ?_
      refine atm_skipped rfl rfl rfl rfl ?_
      refine atm_skipped rfl rfl rfl rfl ?_
      refine atm_skipped rfl rfl rfl rfl ?_
      refine atm_skipped rfl rfl rfl rfl ?_
      refine atm_skipped rfl rfl rfl rfl ?_
      refine atm_skipped rfl rfl rfl rfl ?_
      refine atm_skipped rfl rfl rfl rfl ?_
      refine atm_skipped rfl rfl rfl rfl ?_
      refine atm_sti rfl rfl rfl rfl (sti_pure hT rfl) ?_
      refine atm_nil ?_
      refine n_then ?_
      refine at_true rfl rfl ?_
      refine sr ?_
      refine sp hT ?_
      refine nn ?_
      refine at_ret ?_
      refine r_then ?_
      refine r_block ?_
      refine r_then ?_
      refine r_then ?_
      refine r_block ?_
      refine r_then ?_
      have hr := hinv4.2.trans ((all2_step (map_at hx2) (map_at hx4)).trans (by rw [likeI_f (by first | exact .inl (by assumption) | exact .inr (.inl (by assumption)) | exact .inr (.inr (.inl (by assumption))) | exact .inr (.inr (.inr (ne_len (by omega))))), Bool.false_and]))
      subst hr
      exact at_res1 () rfl (rv_tmp rfl) .nil trivial rfl
    have hg29 := bne_eq_false_iff_eq.1 hg29
    refine atm_sti rfl rfl rfl rfl (sti_pure hT rfl) ?_
    refine atm_sti rfl rfl rfl rfl (sti_pure hT rfl) ?_
    refine atm_sti rfl rfl rfl rfl (sti_index hT (k := i) (reads_fact (Has.of mT1)) rfl rfl rfl rfl rfl rfl rfl (by omega)) ?_
    refine atm_sti rfl rfl rfl rfl (sti_pure hT rfl) ?_
    refine atm_sti rfl rfl rfl rfl (sti_load1 hT (Reads.knows (reads_fact (Has.of mT1)) (k := i) (x := x1) hx2 2) rfl rfl rfl rfl rfl) ?_
    refine atm_sti rfl rfl rfl rfl (sti_pure hT rfl) ?_
    refine atm_sti rfl rfl rfl rfl (sti_pure hT rfl) ?_
    refine atm_sti rfl rfl rfl rfl (sti_index hT (k := i) (reads_fact (Has.of mT3)) rfl rfl rfl rfl rfl rfl rfl (by omega)) ?_
    refine atm_sti rfl rfl rfl rfl (sti_pure hT rfl) ?_
    refine atm_sti rfl rfl rfl rfl (sti_load1 hT (Reads.knows (reads_fact (Has.of mT3)) (k := i) (x := x3) hx4 2) rfl rfl rfl rfl rfl) ?_
    refine atm_sti rfl rfl rfl rfl (sti_pure hT rfl) ?_
    refine atm_sti rfl rfl rfl rfl (sti_pure hT rfl) ?_
    refine atm_sti rfl rfl rfl rfl (sti_pure hT rfl) ?_
    refine at_case (fun hg42 => ?_) (fun hg42 => ?_)
    · have hg42 := bne_iff_ne.1 hg42
      refine atm_skipped rfl rfl rfl rfl ?_
      refine atm_skipped rfl rfl rfl rfl ?_
      refine atm_skipped rfl rfl rfl rfl ?_
      refine atm_skipped rfl rfl rfl rfl ?_
      refine atm_skipped rfl rfl rfl rfl ?_
      refine atm_skipped rfl rfl rfl rfl ?_
      refine atm_skipped rfl rfl rfl rfl ?_
      refine atm_skipped rfl rfl rfl rfl ?_
      refine atm_skipped rfl rfl rfl rfl ?_
      refine atm_skipped rfl rfl rfl rfl ?_
      refine atm_skipped rfl rfl rfl rfl ?_
      refine atm_sti rfl rfl rfl rfl (sti_pure hT rfl) ?_
      refine atm_sti rfl rfl rfl rfl (sti_pure hT rfl) ?_
      refine atm_skipped rfl rfl rfl rfl ?_
      refine atm_skipped rfl rfl rfl rfl ?_
      refine atm_skipped rfl rfl rfl rfl ?_
      refine atm_skipped rfl rfl rfl rfl ?_
      refine atm_skipped rfl rfl rfl rfl ?_
      refine atm_skipped rfl rfl rfl rfl ?_
      refine atm_skipped rfl rfl rfl rfl ?_
      refine atm_skipped rfl rfl rfl rfl ?_
      refine atm_skipped rfl rfl rfl rfl ?_
      refine atm_skipped rfl rfl rfl rfl ?_
      refine atm_skipped rfl rfl rfl rfl ?_
      refine atm_skipped rfl rfl rfl rfl ?_
      refine atm_skipped rfl rfl rfl rfl ?_
      refine atm_sti rfl rfl rfl rfl (sti_pure hT rfl) ?_
      refine atm_nil ?_
      refine n_then ?_
      refine at_true rfl rfl ?_
      refine sr ?_
      refine sp hT ?_
      refine nn ?_
      refine at_ret ?_
      refine r_then ?_
      refine r_block ?_
      refine r_then ?_
      refine r_then ?_
      refine r_block ?_
      refine r_then ?_
      have hr := hinv4.2.trans ((all2_step (map_at hx2) (map_at hx4)).trans (by rw [likeI_f (by first | exact .inl (by assumption) | exact .inr (.inl (by assumption)) | exact .inr (.inr (.inl (by assumption))) | exact .inr (.inr (.inr (ne_len (by omega))))), Bool.false_and]))
      subst hr
      exact at_res1 () rfl (rv_tmp rfl) .nil trivial rfl
    have hg42 := bne_eq_false_iff_eq.1 hg42
    refine atm_sti rfl rfl rfl rfl (sti_pure hT rfl) ?_
    refine atm_sti rfl rfl rfl rfl (sti_pure hT rfl) ?_
    refine atm_sti rfl rfl rfl rfl (sti_index hT (k := i) (reads_fact (Has.of mT1)) rfl rfl rfl rfl rfl rfl rfl (by omega)) ?_
    refine atm_sti rfl rfl rfl rfl (sti_pure hT rfl) ?_
    refine atm_sti rfl rfl rfl rfl (sti_load1 hT (Reads.knows (reads_fact (Has.of mT1)) (k := i) (x := x1) hx2 3) rfl rfl rfl rfl rfl) ?_
    refine atm_sti rfl rfl rfl rfl (sti_pure hT rfl) ?_
    refine atm_sti rfl rfl rfl rfl (sti_pure hT rfl) ?_
    refine atm_sti rfl rfl rfl rfl (sti_index hT (k := i) (reads_fact (Has.of mT3)) rfl rfl rfl rfl rfl rfl rfl (by omega)) ?_
    refine atm_sti rfl rfl rfl rfl (sti_pure hT rfl) ?_
    refine atm_sti rfl rfl rfl rfl (sti_load1 hT (Reads.knows (reads_fact (Has.of mT3)) (k := i) (x := x3) hx4 3) rfl rfl rfl rfl rfl) ?_
    refine atm_sti rfl rfl rfl rfl (sti_pure hT rfl) ?_
    refine atm_sti rfl rfl rfl rfl (sti_pure hT rfl) ?_
    refine atm_sti rfl rfl rfl rfl (sti_pure hT rfl) ?_
    refine at_case (fun hg55 => ?_) (fun hg55 => ?_)
    · have hg55 : x1.name ≠ x3.name := fun h => by rw [h] at hg55; first | (simp at hg55; done) | exact absurd hg55 (by decide)
      refine atm_skipped rfl rfl rfl rfl ?_
      refine atm_skipped rfl rfl rfl rfl ?_
      refine atm_skipped rfl rfl rfl rfl ?_
      refine atm_skipped rfl rfl rfl rfl ?_
      refine atm_skipped rfl rfl rfl rfl ?_
      refine atm_skipped rfl rfl rfl rfl ?_
      refine atm_skipped rfl rfl rfl rfl ?_
      refine atm_skipped rfl rfl rfl rfl ?_
      refine atm_skipped rfl rfl rfl rfl ?_
      refine atm_skipped rfl rfl rfl rfl ?_
      refine atm_skipped rfl rfl rfl rfl ?_
      refine atm_skipped rfl rfl rfl rfl ?_
      refine atm_skipped rfl rfl rfl rfl ?_
      refine atm_sti rfl rfl rfl rfl (sti_pure hT rfl) ?_
      refine atm_nil ?_
      refine n_then ?_
      refine at_true rfl rfl ?_
      refine sr ?_
      refine sp hT ?_
      refine nn ?_
      refine at_ret ?_
      refine r_then ?_
      refine r_block ?_
      refine r_then ?_
      refine r_then ?_
      refine r_block ?_
      refine r_then ?_
      have hr := hinv4.2.trans ((all2_step (map_at hx2) (map_at hx4)).trans (by rw [likeI_f (by first | exact .inl (by assumption) | exact .inr (.inl (by assumption)) | exact .inr (.inr (.inl (by assumption))) | exact .inr (.inr (.inr (ne_len (by omega))))), Bool.false_and]))
      subst hr
      exact at_res1 () rfl (rv_tmp rfl) .nil trivial rfl
    have hg55 : x1.name = x3.name := eq_of_beq (not_f hg55)
    refine atm_sti rfl rfl rfl rfl (sti_pure hT rfl) ?_
    refine atm_sti rfl rfl rfl rfl (sti_pure hT rfl) ?_
    refine atm_sti rfl rfl rfl rfl (sti_index hT (k := i) (reads_fact (Has.of mT1)) rfl rfl rfl rfl rfl rfl rfl (by omega)) ?_
    refine atm_sti rfl rfl rfl rfl (sti_pure hT rfl) ?_
    refine atm_sti rfl rfl rfl rfl (sti_load1 hT (Reads.knows (reads_fact (Has.of mT1)) (k := i) (x := x1) hx2 4) rfl rfl rfl rfl rfl) ?_
    refine atm_sti rfl rfl rfl rfl (sti_pure hT rfl) ?_
    refine atm_sti rfl rfl rfl rfl (sti_pure hT rfl) ?_
    refine atm_sti rfl rfl rfl rfl (sti_pure hT rfl) ?_
    refine atm_sti rfl rfl rfl rfl (sti_index hT (k := i) (reads_fact (Has.of mT3)) rfl rfl rfl rfl rfl rfl rfl (by omega)) ?_
    refine atm_sti rfl rfl rfl rfl (sti_pure hT rfl) ?_
    refine atm_sti rfl rfl rfl rfl (sti_load1 hT (Reads.knows (reads_fact (Has.of mT3)) (k := i) (x := x3) hx4 4) rfl rfl rfl rfl rfl) ?_
    refine atm_sti rfl rfl rfl rfl (sti_pure hT rfl) ?_
    refine atm_sti rfl rfl rfl rfl (sti_pure hT rfl) ?_
    refine atm_sti rfl rfl rfl rfl (sti_pure hT rfl) ?_
    refine atm_nil ?_
    refine n_then ?_
    refine at_cond rfl (fun hc69 => ?_) (fun hc69 => ?_)
    · have hc69 := bne_iff_ne.1 hc69
      refine sr ?_
      refine sp hT ?_
      refine nn ?_
      refine at_ret ?_
      refine r_then ?_
      refine r_block ?_
      refine r_then ?_
      refine r_then ?_
      refine r_block ?_
      refine r_then ?_
      have hr := hinv4.2.trans ((all2_step (map_at hx2) (map_at hx4)).trans (by rw [likeI_f (by first | exact .inl (by assumption) | exact .inr (.inl (by assumption)) | exact .inr (.inr (.inl (by assumption))) | exact .inr (.inr (.inr (ne_len (by omega))))), Bool.false_and]))
      subst hr
      exact at_res1 () rfl (rv_tmp rfl) .nil trivial rfl
    have hc69 := bne_eq_false_iff_eq.1 hc69
    refine at_skip ?_
    refine n_then ?_
    refine at_seq ?_
    refine at_fact (numF x1) (Has.each (Has.of mT2) (List.mem_of_getElem? hx2)) ?_
    refine at_fact (numF x3) (Has.each (Has.of mT5) (List.mem_of_getElem? hx4)) ?_
    refine at_region ?_
    refine sp hT ?_
    refine nn ?_
    refine at_block ?_
    refine at_loop2 (ι := Nat) [(0, _), (1, _), (5, _), (30, _), (31, _), (32, _), (33, _), (34, _), (35, _), (36, _), (37, _), (38, _), (39, _), (40, _), (43, _), (44, _), (45, _), (46, _), (47, _), (48, _), (49, _), (50, _), (51, _), (52, _), (53, _), (56, _), (57, _), (58, _), (59, _), (60, _), (61, _), (62, _), (63, _), (64, _), (65, _), (66, _), (67, _), (68, _)] ⟨rfl, rfl, rfl, rfl, rfl, rfl, rfl, rfl, rfl, rfl, rfl, rfl, rfl, rfl, rfl, rfl, rfl, rfl, rfl, rfl, rfl, rfl, rfl, rfl, rfl, rfl, rfl, rfl, rfl, rfl, rfl, rfl, rfl, rfl, rfl, rfl, rfl, rfl, trivial⟩ (fun k => [(6, .int .i64 (k : Nat))]) (fun _ => []) (fun k => [Fact.pure (k ≤ x1.nums.list.length ∧ x1.nums.list.take k = x3.nums.list.take k)]) (fun k => x1.nums.list.length - k) 0 ⟨rfl, trivial⟩ .nil ⟨Has.pure (⟨by omega, rfl⟩), trivial⟩ ?_
    rintro k
    refine at_know (Has.of mT0) fun hinv9 => ?_
    have hnl := hna x1 (List.mem_of_getElem? hx2)
    refine at_seq ?_
    refine sr ?_
    refine sp3 hT ?_
    refine ss (sti_index hT (k := i) (reads_fact (Has.of mT4)) rfl rfl rfl rfl rfl rfl rfl (by omega)) ?_
    refine sp hT ?_
    refine ss (sti_load1 hT (Reads.knows (reads_fact (Has.of mT4)) (k := i) (x := x1) hx2 4) rfl rfl rfl rfl rfl) ?_
    refine sp2 hT ?_
    refine nn ?_
    refine at_cond rfl (fun hc77 => ?_) (fun hc77 => ?_)
    · have hc77 := of_decide_eq_true hc77
      refine at_skip ?_
      refine n_then ?_
      refine at_seq ?_
      refine at_block ?_
      refine at_seq ?_
      refine at_mix _ _ [(true, 0), (true, 1), (true, 2), (true, 3), (true, 4), (true, 5), (true, 6), (true, 7), (true, 8), (true, 9), (true, 10), (true, 11), (true, 12), (true, 13), (true, 14), (true, 15), (true, 16)] mixes (by decide +kernel) .nil HasAll.self ?_
      refine atm_sti rfl rfl rfl rfl (sti_pure hT rfl) ?_
      refine atm_sti rfl rfl rfl rfl (sti_pure hT rfl) ?_
      refine atm_sti rfl rfl rfl rfl (sti_index hT (k := i) (reads_fact (Has.of mT4)) rfl rfl rfl rfl rfl rfl rfl (by omega)) ?_
      refine atm_sti rfl rfl rfl rfl (sti_pure hT rfl) ?_
      refine atm_sti rfl rfl rfl rfl (sti_load1 hT (Reads.knows (reads_fact (Has.of mT4)) (k := i) (x := x1) hx2 4) rfl rfl rfl rfl rfl) ?_
      refine atm_sti rfl rfl rfl rfl (sti_pure hT rfl) ?_
      obtain ⟨x5, hx6⟩ : ∃ x', x1.nums.list[k]? = some x' := ⟨_, List.getElem?_eq_getElem (by omega)⟩
      refine atm_sti rfl rfl rfl rfl (sti_index hT (k := k) (reads_fact (Has.of mT2)) rfl rfl rfl rfl rfl rfl rfl (by omega)) ?_
      refine atm_sti rfl rfl rfl rfl (sti_load1 hT (Reads.knows (reads_fact (Has.of mT2)) (k := k) (x := x5) hx6 0) rfl rfl rfl rfl rfl) ?_
      refine atm_sti rfl rfl rfl rfl (sti_pure hT rfl) ?_
      refine atm_sti rfl rfl rfl rfl (sti_pure hT rfl) ?_
      refine atm_sti rfl rfl rfl rfl (sti_index hT (k := i) (reads_fact (Has.of mT6)) rfl rfl rfl rfl rfl rfl rfl (by omega)) ?_
      refine atm_sti rfl rfl rfl rfl (sti_pure hT rfl) ?_
      refine atm_sti rfl rfl rfl rfl (sti_load1 hT (Reads.knows (reads_fact (Has.of mT6)) (k := i) (x := x3) hx4 4) rfl rfl rfl rfl rfl) ?_
      refine atm_sti rfl rfl rfl rfl (sti_pure hT rfl) ?_
      obtain ⟨x7, hx8⟩ : ∃ x', x3.nums.list[k]? = some x' := ⟨_, List.getElem?_eq_getElem (by omega)⟩
      refine atm_sti rfl rfl rfl rfl (sti_index hT (k := k) (reads_fact (Has.of mT1)) rfl rfl rfl rfl rfl rfl rfl (by omega)) ?_
      refine atm_sti rfl rfl rfl rfl (sti_load1 hT (Reads.knows (reads_fact (Has.of mT1)) (k := k) (x := x7) hx8 0) rfl rfl rfl rfl rfl) ?_
      refine atm_sti rfl rfl rfl rfl (sti_pure hT rfl) ?_
      refine atm_nil ?_
      refine n_then ?_
      refine at_cond rfl (fun hc96 => ?_) (fun hc96 => ?_)
      · have hc96 := bne_iff_ne.1 hc96
        refine sr ?_
        refine sp hT ?_
        refine nn ?_
        refine at_ret ?_
        refine r_block ?_
        refine r_then ?_
        refine r_then ?_
        refine r_block ?_
        refine r_block ?_
        refine r_then ?_
        refine r_then ?_
        refine r_block ?_
        refine r_then ?_
        have hr := hinv4.2.trans ((all2_step (map_at hx2) (map_at hx4)).trans (by rw [likeI_f (.inr (.inr (.inr (not_take hx6 hx8 (by assumption))))), Bool.false_and]))
        subst hr
        exact at_res1 () rfl (rv_tmp rfl) .nil trivial rfl
      have hc96 := bne_eq_false_iff_eq.1 hc96
      refine at_skip ?_
      refine n_block ?_
      refine n_then ?_
      refine at_region ?_
      refine sp2 hT ?_
      refine at_int (z' := (((k + 1) : Nat) : Int)) (wrapN (by omega) (by omega)) ?_
      refine sp hT ?_
      refine nn ?_
      exact at_back2 (k + 1) (by omega) ⟨rfl, trivial⟩ ⟨rfl, rfl, rfl, rfl, rfl, rfl, rfl, rfl, rfl, rfl, rfl, rfl, rfl, rfl, rfl, rfl, rfl, rfl, rfl, rfl, rfl, rfl, rfl, rfl, rfl, rfl, rfl, rfl, rfl, rfl, rfl, rfl, rfl, rfl, rfl, rfl, rfl, rfl, trivial⟩ .nil ⟨Has.pure (⟨by omega, take_same hinv9.2 hx6 hx8 (by assumption)⟩), trivial⟩ (HasAll.drop 1)
    have hc77 := Int.not_lt.1 (of_decide_eq_false hc77)
    refine at_exit ?_
    refine x_then ?_
    refine x_then ?_
    refine x_block ?_
    refine n_block ?_
    refine n_then ?_
    refine at_region ?_
    refine sp2 hT ?_
    refine at_int (z' := (((i + 1) : Nat) : Int)) (wrapN (by omega) (by omega)) ?_
    refine sp hT ?_
    refine nn ?_
    exact at_back2 (i + 1) (by omega) ⟨rfl, trivial⟩ ⟨rfl, rfl, trivial⟩ .nil ⟨Has.pure (⟨by omega, hinv4.2.trans ((all2_step (map_at hx2) (map_at hx4)).trans (by rw [likeI_t (by assumption) (by assumption) (by assumption) (take_all hinv9.2 (by omega) (by omega)), Bool.true_and]))⟩), trivial⟩ (HasAll.drop 4)
  have hc15 := Int.not_lt.1 (of_decide_eq_false hc15)
  refine at_exit ?_
  refine x_then ?_
  refine x_then ?_
  refine x_block ?_
  refine n_then ?_
  refine sr ?_
  refine sp hT ?_
  refine nn ?_
  refine at_ret ?_
  have hr := hinv4.2.trans (all2_end (by rw [List.length_map]; omega) (by rw [List.length_map]; omega))
  subst hr
  exact at_res1 () rfl (rv_tmp rfl) .nil trivial rfl

set_option maxRecDepth 100000 in
theorem rAlike_spec (p q : ProgV) (hP : AlikeOk p) : Spec Tryz.prog 16 [.agg #[.slice p.inputs.addr p.inputs.list.length p.inputs.cap, .slice p.lines.addr p.lines.list.length p.lines.cap], .agg #[.slice q.inputs.addr q.inputs.list.length q.inputs.cap, .slice q.lines.addr q.lines.list.length q.lines.cap]] [] [inputE.sl (.slice p.inputs.addr p.inputs.list.length p.inputs.cap) p.inputs.list, inputsF p.inputs.list, lineE.sl (.slice p.lines.addr p.lines.list.length p.lines.cap) p.lines.list, linesF p.lines.list, inputE.sl (.slice q.inputs.addr q.inputs.list.length q.inputs.cap) q.inputs.list, inputsF q.inputs.list, lineE.sl (.slice q.lines.addr q.lines.list.length q.lines.cap) q.lines.list, linesF q.lines.list] (fun (_ : Unit) => .bool (alikeB p.pr q.pr)) (fun _ => []) (fun _ => []) := by
  have hT := showT_ok
  generalize hR : alikeB p.pr q.pr = r
  have hpi := hP.ins
  have hpl := hP.lns
  refine spec_of Tryz.func16 rfl Tryz.ntmps16 rfl ?_
  intro β hM
  refine sr ?_
  refine at_box rfl rfl rfl rfl rfl rfl fun b1 => ?_
  refine at_box rfl rfl rfl rfl rfl rfl fun b2 => ?_
  refine sp hT ?_
  refine nn ?_
  refine at_seq ?_
  refine sr ?_
  refine sp hT ?_
  refine ss (ldO hT (knows_own (off := 0) kT1)) ?_
  refine sp2 hT ?_
  refine ss (ldO hT (knows_own (off := 0) .head)) ?_
  refine sp3 hT ?_
  refine at_case (fun hg15 => ?_) (fun hg15 => ?_)
  · have hg15 := bne_iff_ne.1 hg15
    refine sk4 ?_
    refine sk3 ?_
    refine sp hT ?_
    refine nn ?_
    refine at_true rfl rfl ?_
    refine sr ?_
    refine sp hT ?_
    refine nn ?_
    refine at_ret ?_
    refine r_then ?_
    have hr := hR.symm.trans (alike_len (by first | exact .inl (by omega) | exact .inr (by omega)))
    subst hr
    exact at_res1 () rfl (rv_tmp rfl) .nil trivial rfl
  have hg15 := bne_eq_false_iff_eq.1 hg15
  refine sp hT ?_
  refine ss (ldO hT (knows_own (off := 1) kT1)) ?_
  refine sp2 hT ?_
  refine ss (ldO hT (knows_own (off := 1) .head)) ?_
  refine sp3 hT ?_
  refine nn ?_
  refine at_cond rfl (fun hc23 => ?_) (fun hc23 => ?_)
  · have hc23 := bne_iff_ne.1 hc23
    refine sr ?_
    refine sp hT ?_
    refine nn ?_
    refine at_ret ?_
    refine r_then ?_
    have hr := hR.symm.trans (alike_len (by first | exact .inl (by omega) | exact .inr (by omega)))
    subst hr
    exact at_res1 () rfl (rv_tmp rfl) .nil trivial rfl
  have hc23 := bne_eq_false_iff_eq.1 hc23
  refine at_skip ?_
  refine n_then ?_
  refine at_seq ?_
  refine sr ?_
  refine sp hT ?_
  refine nn ?_
  refine at_block ?_
  refine at_loop2 (ι := Nat) [(2, _), (3, _)] ⟨rfl, rfl, trivial⟩ (fun i => [(5, .int .i64 (i : Nat))]) (fun _ => []) (fun i => [Fact.pure (i ≤ p.inputs.list.length ∧ r = (all2 likeIn ((p.inputs.list.map InputV.inp).drop i) ((q.inputs.list.map InputV.inp).drop i) && all2 likeL (p.lines.list.map LineV.ln) (q.lines.list.map LineV.ln)))]) (fun i => p.inputs.list.length - i) 0 ⟨rfl, trivial⟩ .nil ⟨Has.pure (⟨by omega, hR.symm⟩), trivial⟩ ?_
  rintro i
  refine at_know (Has.of mT0) fun hinv4 => ?_
  refine at_seq ?_
  refine sr ?_
  refine sp2 hT ?_
  refine ss (ldO hT (knows_own (off := 0) kT1)) ?_
  refine sp2 hT ?_
  refine nn ?_
  refine at_cond rfl (fun hc28 => ?_) (fun hc28 => ?_)
  · have hc28 := of_decide_eq_true hc28
    refine at_skip ?_
    refine n_then ?_
    refine at_seq ?_
    refine at_block ?_
    refine at_seq ?_
    refine at_seq ?_
    refine at_mix _ _ [(true, 0), (true, 1), (true, 2), (true, 3), (true, 4), (true, 5), (true, 6), (true, 7), (true, 8), (true, 9), (true, 10), (true, 11), (true, 12), (true, 13), (true, 14), (true, 15), (true, 16), (true, 17), (true, 18), (true, 19), (true, 20), (true, 21), (true, 22), (true, 23), (true, 24), (true, 25), (true, 26), (true, 27), (true, 28), (true, 29)] mixes (by decide +kernel) (.cons .head (.cons .head .nil)) HasAll.self ?_
    refine atm_sti rfl rfl rfl rfl (sti_pure hT rfl) ?_
    refine atm_sti rfl rfl rfl rfl (ldO hT (knows_own (off := 0) kT1)) ?_
    refine atm_sti rfl rfl rfl rfl (sti_pure hT rfl) ?_
    obtain ⟨x3, hx4⟩ : ∃ x', p.inputs.list[i]? = some x' := ⟨_, List.getElem?_eq_getElem (by omega)⟩
    refine atm_sti rfl rfl rfl rfl (sti_index hT (k := i) (reads_fact (Has.of mT1)) rfl rfl rfl rfl rfl rfl rfl (by omega)) ?_
    refine atm_sti rfl rfl rfl rfl (sti_pure hT rfl) ?_
    refine atm_sti rfl rfl rfl rfl (sti_load1 hT (Reads.knows (reads_fact (Has.of mT1)) (k := i) (x := x3) hx4 0) rfl rfl rfl rfl rfl) ?_
    refine atm_sti rfl rfl rfl rfl (sti_pure hT rfl) ?_
    refine atm_sti rfl rfl rfl rfl (ldO hT (knows_own (off := 0) .head)) ?_
    refine atm_sti rfl rfl rfl rfl (sti_pure hT rfl) ?_
    obtain ⟨x5, hx6⟩ : ∃ x', q.inputs.list[i]? = some x' := ⟨_, List.getElem?_eq_getElem (by omega)⟩
    refine atm_sti rfl rfl rfl rfl (sti_index hT (k := i) (reads_fact (Has.of mT5)) rfl rfl rfl rfl rfl rfl rfl (by omega)) ?_
    refine atm_sti rfl rfl rfl rfl (sti_pure hT rfl) ?_
    refine atm_sti rfl rfl rfl rfl (sti_load1 hT (Reads.knows (reads_fact (Has.of mT5)) (k := i) (x := x5) hx6 0) rfl rfl rfl rfl rfl) ?_
    refine atm_sti rfl rfl rfl rfl (sti_pure hT rfl) ?_
    refine atm_sti rfl rfl rfl rfl (sti_pure hT rfl) ?_
    refine at_case (fun hg44 => ?_) (fun hg44 => ?_)
    · have hg44 : x3.name ≠ x5.name := fun h => by rw [h] at hg44; first | (simp at hg44; done) | exact absurd hg44 (by decide)
      refine atm_skipped rfl rfl rfl rfl ?_
      refine atm_skipped rfl rfl rfl rfl ?_
      refine atm_skipped rfl rfl rfl rfl ?_
      refine atm_skipped rfl rfl rfl rfl ?_
      refine atm_skipped rfl rfl rfl rfl ?_
      refine atm_skipped rfl rfl rfl rfl ?_
      refine atm_skipped rfl rfl rfl rfl ?_
      refine atm_skipped rfl rfl rfl rfl ?_
      refine atm_skipped rfl rfl rfl rfl ?_
      refine atm_skipped rfl rfl rfl rfl ?_
      refine atm_skipped rfl rfl rfl rfl ?_
      refine atm_skipped rfl rfl rfl rfl ?_
      refine atm_skipped rfl rfl rfl rfl ?_
      refine atm_skipped rfl rfl rfl rfl ?_
      refine atm_skipped rfl rfl rfl rfl ?_
      refine atm_sti rfl rfl rfl rfl (sti_pure hT rfl) ?_
      refine atm_nil ?_
      refine n_then ?_
      refine at_true rfl rfl ?_
      refine sr ?_
      refine sp hT ?_
      refine nn ?_
      refine at_ret ?_
      refine r_then ?_
      refine r_block ?_
      refine r_then ?_
      refine r_then ?_
      refine r_block ?_
      refine r_then ?_
      have hr := hinv4.2.trans (in_ne hx4 hx6 (by first | exact .inl (by assumption) | exact .inr (.inl (by omega))))
      subst hr
      exact at_res1 () rfl (rv_tmp rfl) .nil trivial rfl
    have hg44 : x3.name = x5.name := eq_of_beq (not_f hg44)
    refine atm_sti rfl rfl rfl rfl (sti_pure hT rfl) ?_
    refine atm_sti rfl rfl rfl rfl (ldO hT (knows_own (off := 0) kT1)) ?_
    refine atm_sti rfl rfl rfl rfl (sti_pure hT rfl) ?_
    refine atm_sti rfl rfl rfl rfl (sti_index hT (k := i) (reads_fact (Has.of mT1)) rfl rfl rfl rfl rfl rfl rfl (by omega)) ?_
    refine atm_sti rfl rfl rfl rfl (sti_pure hT rfl) ?_
    refine atm_sti rfl rfl rfl rfl (sti_load1 hT (Reads.knows (reads_fact (Has.of mT1)) (k := i) (x := x3) hx4 2) rfl rfl rfl rfl rfl) ?_
    refine atm_sti rfl rfl rfl rfl (sti_pure hT rfl) ?_
    refine atm_sti rfl rfl rfl rfl (sti_pure hT rfl) ?_
    refine atm_sti rfl rfl rfl rfl (ldO hT (knows_own (off := 0) .head)) ?_
    refine atm_sti rfl rfl rfl rfl (sti_pure hT rfl) ?_
    refine atm_sti rfl rfl rfl rfl (sti_index hT (k := i) (reads_fact (Has.of mT5)) rfl rfl rfl rfl rfl rfl rfl (by omega)) ?_
    refine atm_sti rfl rfl rfl rfl (sti_pure hT rfl) ?_
    refine atm_sti rfl rfl rfl rfl (sti_load1 hT (Reads.knows (reads_fact (Has.of mT5)) (k := i) (x := x5) hx6 2) rfl rfl rfl rfl rfl) ?_
    refine atm_sti rfl rfl rfl rfl (sti_pure hT rfl) ?_
    refine atm_sti rfl rfl rfl rfl (sti_pure hT rfl) ?_
    refine atm_sti rfl rfl rfl rfl (sti_pure hT rfl) ?_
    refine atm_nil ?_
    refine n_then ?_
    refine at_cond rfl (fun hc60 => ?_) (fun hc60 => ?_)
    · have hc60 := bne_iff_ne.1 hc60
      refine sr ?_
      refine sp hT ?_
      refine nn ?_
      refine at_ret ?_
      refine r_then ?_
      refine r_block ?_
      refine r_then ?_
      refine r_then ?_
      refine r_block ?_
      refine r_then ?_
      have hr := hinv4.2.trans (in_ne hx4 hx6 (by first | exact .inl (by assumption) | exact .inr (.inl (by omega))))
      subst hr
      exact at_res1 () rfl (rv_tmp rfl) .nil trivial rfl
    have hc60 := bne_eq_false_iff_eq.1 hc60
    refine at_skip ?_
    refine n_then ?_
    refine at_seq ?_
    refine at_fact (sidesFct x3) (Has.each (Has.of mT2) (List.mem_of_getElem? hx4)) ?_
    refine at_fact (sidesFct x5) (Has.each (Has.of mT7) (List.mem_of_getElem? hx6)) ?_
    have hsl := hP.sides x3 (List.mem_of_getElem? hx4)
    refine at_region ?_
    refine sp hT ?_
    refine nn ?_
    refine at_block ?_
    refine at_loop2 (ι := Nat) [(2, _), (3, _), (5, _), (45, _), (46, _), (47, _), (48, _), (49, _), (50, _), (51, _), (52, _), (53, _), (54, _), (55, _), (56, _), (57, _), (58, _), (59, _)] ⟨rfl, rfl, rfl, rfl, rfl, rfl, rfl, rfl, rfl, rfl, rfl, rfl, rfl, rfl, rfl, rfl, rfl, rfl, trivial⟩ (fun k => [(6, .int .i64 (k : Nat))]) (fun _ => []) (fun k => [Fact.pure (k ≤ x3.sides.list.length ∧ x3.sides.list.take k = x5.sides.list.take k)]) (fun k => x3.sides.list.length - k) 0 ⟨rfl, trivial⟩ .nil ⟨Has.pure (⟨by omega, rfl⟩), trivial⟩ ?_
    rintro k
    refine at_know (Has.of mT0) fun hinv9 => ?_
    refine at_seq ?_
    refine sr ?_
    refine sp2 hT ?_
    refine ss (ldO hT (knows_own (off := 0) kT1)) ?_
    refine sp hT ?_
    refine ss (sti_index hT (k := i) (reads_fact (Has.of mT4)) rfl rfl rfl rfl rfl rfl rfl (by omega)) ?_
    refine sp hT ?_
    refine ss (sti_load1 hT (Reads.knows (reads_fact (Has.of mT4)) (k := i) (x := x3) hx4 2) rfl rfl rfl rfl rfl) ?_
    refine sp2 hT ?_
    refine nn ?_
    refine at_cond rfl (fun hc69 => ?_) (fun hc69 => ?_)
    · have hc69 := of_decide_eq_true hc69
      refine at_skip ?_
      refine n_then ?_
      refine at_seq ?_
      refine at_block ?_
      refine at_seq ?_
      refine at_mix _ _ [(true, 0), (true, 1), (true, 2), (true, 3), (true, 4), (true, 5), (true, 6), (true, 7), (true, 8), (true, 9), (true, 10), (true, 11), (true, 12), (true, 13), (true, 14), (true, 15), (true, 16), (true, 17), (true, 18)] mixes (by decide +kernel) (.cons .head (.cons .head .nil)) HasAll.self ?_
      refine atm_sti rfl rfl rfl rfl (sti_pure hT rfl) ?_
      refine atm_sti rfl rfl rfl rfl (ldO hT (knows_own (off := 0) kT1)) ?_
      refine atm_sti rfl rfl rfl rfl (sti_pure hT rfl) ?_
      refine atm_sti rfl rfl rfl rfl (sti_index hT (k := i) (reads_fact (Has.of mT4)) rfl rfl rfl rfl rfl rfl rfl (by omega)) ?_
      refine atm_sti rfl rfl rfl rfl (sti_pure hT rfl) ?_
      refine atm_sti rfl rfl rfl rfl (sti_load1 hT (Reads.knows (reads_fact (Has.of mT4)) (k := i) (x := x3) hx4 2) rfl rfl rfl rfl rfl) ?_
      refine atm_sti rfl rfl rfl rfl (sti_pure hT rfl) ?_
      obtain ⟨x7, hx8⟩ : ∃ x', x3.sides.list[k]? = some x' := ⟨_, List.getElem?_eq_getElem (by omega)⟩
      refine atm_sti rfl rfl rfl rfl (sti_index hT (k := k) (reads_fact (Has.of mT2)) rfl rfl rfl rfl rfl rfl rfl (by omega)) ?_
      refine atm_sti rfl rfl rfl rfl (sti_loadN hT (Reads.knows (reads_fact (Has.of mT2)) (k := k) (x := x7) hx8 0) rfl rfl rfl rfl rfl) ?_
      refine atm_sti rfl rfl rfl rfl (sti_pure hT rfl) ?_
      refine atm_sti rfl rfl rfl rfl (ldO hT (knows_own (off := 0) .head)) ?_
      refine atm_sti rfl rfl rfl rfl (sti_pure hT rfl) ?_
      refine atm_sti rfl rfl rfl rfl (sti_index hT (k := i) (reads_fact (Has.of mT8)) rfl rfl rfl rfl rfl rfl rfl (by omega)) ?_
      refine atm_sti rfl rfl rfl rfl (sti_pure hT rfl) ?_
      refine atm_sti rfl rfl rfl rfl (sti_load1 hT (Reads.knows (reads_fact (Has.of mT8)) (k := i) (x := x5) hx6 2) rfl rfl rfl rfl rfl) ?_
      refine atm_sti rfl rfl rfl rfl (sti_pure hT rfl) ?_
      obtain ⟨x9, hx10⟩ : ∃ x', x5.sides.list[k]? = some x' := ⟨_, List.getElem?_eq_getElem (by omega)⟩
      refine atm_sti rfl rfl rfl rfl (sti_index hT (k := k) (reads_fact (Has.of mT1)) rfl rfl rfl rfl rfl rfl rfl (by omega)) ?_
      refine atm_sti rfl rfl rfl rfl (sti_loadN hT (Reads.knows (reads_fact (Has.of mT1)) (k := k) (x := x9) hx10 0) rfl rfl rfl rfl rfl) ?_
      refine atm_sti rfl rfl rfl rfl (sti_neq_side x7 x9 rfl rfl rfl) ?_
      refine atm_nil ?_
      refine n_then ?_
      refine at_cond rfl (fun hc90 => ?_) (fun hc90 => ?_)
      · have hc90 := not_t hc90
        refine sr ?_
        refine sp hT ?_
        refine nn ?_
        refine at_ret ?_
        refine r_block ?_
        refine r_then ?_
        refine r_then ?_
        refine r_block ?_
        refine r_block ?_
        refine r_then ?_
        refine r_then ?_
        refine r_block ?_
        refine r_then ?_
        have hr := hinv4.2.trans (in_ne hx4 hx6 (.inr (.inr (not_take hx8 hx10 (side_not (by assumption))))))
        subst hr
        exact at_res1 () rfl (rv_tmp rfl) .nil trivial rfl
      have hc90 := not_f hc90
      refine at_skip ?_
      refine n_block ?_
      refine n_then ?_
      refine at_region ?_
      refine sp2 hT ?_
      refine at_int (z' := (((k + 1) : Nat) : Int)) (wrapN (by omega) (by omega)) ?_
      refine sp hT ?_
      refine nn ?_
      exact at_back2 (k + 1) (by omega) ⟨rfl, trivial⟩ ⟨rfl, rfl, rfl, rfl, rfl, rfl, rfl, rfl, rfl, rfl, rfl, rfl, rfl, rfl, rfl, rfl, rfl, rfl, trivial⟩ (.cons .head (.cons .head .nil)) ⟨Has.pure (⟨by omega, take_same hinv9.2 hx8 hx10 (side_is (by assumption))⟩), trivial⟩ (HasAll.drop 1)
    have hc69 := Int.not_lt.1 (of_decide_eq_false hc69)
    refine at_exit ?_
    refine x_then ?_
    refine x_then ?_
    refine x_block ?_
    refine n_block ?_
    refine n_then ?_
    refine at_region ?_
    refine sp2 hT ?_
    refine at_int (z' := (((i + 1) : Nat) : Int)) (wrapN (by omega) (by omega)) ?_
    refine sp hT ?_
    refine nn ?_
    exact at_back2 (i + 1) (by omega) ⟨rfl, trivial⟩ ⟨rfl, rfl, trivial⟩ (.cons .head (.cons .head .nil)) ⟨Has.pure (⟨by omega, hinv4.2.trans (in_step hx4 hx6 (by assumption) (take_all hinv9.2 (by omega) (by omega)))⟩), trivial⟩ (HasAll.drop 4)
  have hc28 := Int.not_lt.1 (of_decide_eq_false hc28)
  refine at_exit ?_
  refine x_then ?_
  refine x_then ?_
  refine x_block ?_
  refine n_then ?_
  refine at_seq ?_
  refine sr ?_
  refine sp hT ?_
  refine nn ?_
  refine at_block ?_
  refine at_loop2 (ι := Nat) [(2, _), (3, _)] ⟨rfl, rfl, trivial⟩ (fun i => [(7, .int .i64 (i : Nat))]) (fun _ => []) (fun i => [Fact.pure (i ≤ p.lines.list.length ∧ r = all2 likeL ((p.lines.list.map LineV.ln).drop i) ((q.lines.list.map LineV.ln).drop i))]) (fun i => p.lines.list.length - i) 0 ⟨rfl, trivial⟩ .nil ⟨Has.pure (⟨by omega, hinv4.2.trans (in_end (by omega) (by omega))⟩), trivial⟩ ?_
  rintro i
  refine at_know (Has.of mT0) fun hinv14 => ?_
  refine at_seq ?_
  refine sr ?_
  refine sp2 hT ?_
  refine ss (ldO hT (knows_own (off := 1) kT1)) ?_
  refine sp2 hT ?_
  refine nn ?_
  refine at_cond rfl (fun hc95 => ?_) (fun hc95 => ?_)
  · have hc95 := of_decide_eq_true hc95
    refine at_skip ?_
    refine n_then ?_
    refine at_seq ?_
    refine at_block ?_
    refine at_seq ?_
    refine at_mix _ _ [(true, 0), (true, 1), (true, 2), (true, 3), (true, 4), (true, 5), (true, 6), (true, 7), (true, 8), (true, 9), (true, 10), (true, 11), (true, 12), (true, 13), (true, 14), (true, 15), (true, 16), (true, 17), (true, 18), (true, 19), (true, 20), (true, 21), (true, 22), (true, 23), (true, 24), (true, 25), (false, 26), (true, 27), (true, 28)] mixes (by decide +kernel) (.cons .head (.cons .head .nil)) HasAll.self ?_
    refine atm_sti rfl rfl rfl rfl (sti_pure hT rfl) ?_
    refine atm_sti rfl rfl rfl rfl (ldO hT (knows_own (off := 1) kT1)) ?_
    refine atm_sti rfl rfl rfl rfl (sti_pure hT rfl) ?_
    obtain ⟨x11, hx12⟩ : ∃ x', p.lines.list[i]? = some x' := ⟨_, List.getElem?_eq_getElem (by omega)⟩
    refine atm_sti rfl rfl rfl rfl (sti_index hT (k := i) (reads_fact (Has.of mT4)) rfl rfl rfl rfl rfl rfl rfl (by omega)) ?_
    refine atm_sti rfl rfl rfl rfl (sti_pure hT rfl) ?_
    refine atm_sti rfl rfl rfl rfl (sti_load1 hT (Reads.knows (reads_fact (Has.of mT4)) (k := i) (x := x11) hx12 0) rfl rfl rfl rfl rfl) ?_
    refine atm_sti rfl rfl rfl rfl (sti_pure hT rfl) ?_
    refine atm_sti rfl rfl rfl rfl (ldO hT (knows_own (off := 1) .head)) ?_
    refine atm_sti rfl rfl rfl rfl (sti_pure hT rfl) ?_
    obtain ⟨x13, hx14⟩ : ∃ x', q.lines.list[i]? = some x' := ⟨_, List.getElem?_eq_getElem (by omega)⟩
    refine atm_sti rfl rfl rfl rfl (sti_index hT (k := i) (reads_fact (Has.of mT8)) rfl rfl rfl rfl rfl rfl rfl (by omega)) ?_
    refine atm_sti rfl rfl rfl rfl (sti_pure hT rfl) ?_
    refine atm_sti rfl rfl rfl rfl (sti_load1 hT (Reads.knows (reads_fact (Has.of mT8)) (k := i) (x := x13) hx14 0) rfl rfl rfl rfl rfl) ?_
    refine atm_sti rfl rfl rfl rfl (sti_pure hT rfl) ?_
    refine atm_sti rfl rfl rfl rfl (sti_pure hT rfl) ?_
    refine at_case (fun hg111 => ?_) (fun hg111 => ?_)
    · have hg111 : x11.name ≠ x13.name := fun h => by rw [h] at hg111; first | (simp at hg111; done) | exact absurd hg111 (by decide)
      refine atm_skipped rfl rfl rfl rfl ?_
      refine atm_skipped rfl rfl rfl rfl ?_
      refine atm_skipped rfl rfl rfl rfl ?_
      refine atm_skipped rfl rfl rfl rfl ?_
      refine atm_skipped rfl rfl rfl rfl ?_
      refine atm_skipped rfl rfl rfl rfl ?_
      refine atm_skipped rfl rfl rfl rfl ?_
      refine atm_skipped rfl rfl rfl rfl ?_
      refine atm_skipped rfl rfl rfl rfl ?_
      refine atm_skipped rfl rfl rfl rfl ?_
      refine atm_skipped rfl rfl rfl rfl ?_
      refine atm_skipped rfl rfl rfl rfl ?_
      refine atm_op (o := _) rfl ?_
      refine sk ?_
      refine atm_go (.cons .head (.cons .head .nil)) (HasAll.drop 0) ?_
      refine atm_skipped rfl rfl rfl rfl ?_
      refine atm_sti rfl rfl rfl rfl (sti_pure hT rfl) ?_
      refine atm_nil ?_
      refine n_then ?_
      refine at_true rfl rfl ?_
      refine sr ?_
      refine sp hT ?_
      refine nn ?_
      refine at_ret ?_
      refine r_block ?_
      refine r_then ?_
      refine r_then ?_
      refine r_block ?_
      refine r_then ?_
      have hr := hinv14.2.trans (ln_ne hx12 hx14 (by first | exact .inl (by assumption) | exact .inr (by assumption)))
      subst hr
      exact at_res1 () rfl (rv_tmp rfl) .nil trivial rfl
    have hg111 : x11.name = x13.name := eq_of_beq (not_f hg111)
    refine atm_sti rfl rfl rfl rfl (sti_pure hT rfl) ?_
    refine atm_sti rfl rfl rfl rfl (ldO hT (knows_own (off := 1) kT1)) ?_
    refine atm_sti rfl rfl rfl rfl (sti_pure hT rfl) ?_
    refine atm_sti rfl rfl rfl rfl (sti_index hT (k := i) (reads_fact (Has.of mT4)) rfl rfl rfl rfl rfl rfl rfl (by omega)) ?_
    refine atm_sti rfl rfl rfl rfl (sti_pure hT rfl) ?_
    refine atm_sti rfl rfl rfl rfl (sti_load1 hT (Reads.knows (reads_fact (Has.of mT4)) (k := i) (x := x11) hx12 2) rfl rfl rfl rfl rfl) ?_
    refine atm_sti rfl rfl rfl rfl (sti_pure hT rfl) ?_
    refine atm_sti rfl rfl rfl rfl (ldO hT (knows_own (off := 1) .head)) ?_
    refine atm_sti rfl rfl rfl rfl (sti_pure hT rfl) ?_
    refine atm_sti rfl rfl rfl rfl (sti_index hT (k := i) (reads_fact (Has.of mT8)) rfl rfl rfl rfl rfl rfl rfl (by omega)) ?_
    refine atm_sti rfl rfl rfl rfl (sti_pure hT rfl) ?_
    refine atm_sti rfl rfl rfl rfl (sti_load1 hT (Reads.knows (reads_fact (Has.of mT8)) (k := i) (x := x13) hx14 2) rfl rfl rfl rfl rfl) ?_
    refine atm_op (o := _) rfl ?_
    refine at_fact (itemE.sl (.slice x11.items.addr x11.items.list.length x11.items.cap) x11.items.list) (Has.left (Has.each (Has.of mT5) (List.mem_of_getElem? hx12))) ?_
    refine at_fact (numsF x11.items.list) (Has.right (Has.each (Has.of mT6) (List.mem_of_getElem? hx12))) ?_
    refine at_fact (itemE.sl (.slice x13.items.addr x13.items.list.length x13.items.cap) x13.items.list) (Has.left (Has.each (Has.of mT11) (List.mem_of_getElem? hx14))) ?_
    refine at_fact (numsF x13.items.list) (Has.right (Has.each (Has.of mT12) (List.mem_of_getElem? hx14))) ?_
    have hxo := hP.items x11 (List.mem_of_getElem? hx12)
    refine at_call (callFunc_enter Tryz.func22 rfl rfl) (rItems_spec _ _ _ _ x11.items.list x13.items.list hxo.1 hxo.2) rfl rfl rfl rfl rfl .nil ⟨(Has.of mT3), (Has.of mT2), (Has.of mT1), (Has.of mT0), trivial⟩ fun _ => ?_
    refine atm_go (.cons .head (.cons .head .nil)) (HasAll.drop 4) ?_
    refine atm_sti rfl rfl rfl rfl (sti_pure hT rfl) ?_
    refine atm_sti rfl rfl rfl rfl (sti_pure hT rfl) ?_
    refine atm_nil ?_
    refine n_then ?_
    refine at_cond rfl (fun hc126 => ?_) (fun hc126 => ?_)
    · have hc126 := not_t hc126
      refine sr ?_
      refine sp hT ?_
      refine nn ?_
      refine at_ret ?_
      refine r_block ?_
      refine r_then ?_
      refine r_then ?_
      refine r_block ?_
      refine r_then ?_
      have hr := hinv14.2.trans (ln_ne hx12 hx14 (by first | exact .inl (by assumption) | exact .inr (by assumption)))
      subst hr
      exact at_res1 () rfl (rv_tmp rfl) .nil trivial rfl
    have hc126 := not_f hc126
    refine at_skip ?_
    refine n_block ?_
    refine n_then ?_
    refine at_region ?_
    refine sp2 hT ?_
    refine at_int (z' := (((i + 1) : Nat) : Int)) (wrapN (by omega) (by omega)) ?_
    refine sp hT ?_
    refine nn ?_
    exact at_back2 (i + 1) (by omega) ⟨rfl, trivial⟩ ⟨rfl, rfl, trivial⟩ (.cons .head (.cons .head .nil)) ⟨Has.pure (⟨by omega, hinv14.2.trans (ln_step hx12 hx14 (by assumption) (by assumption))⟩), trivial⟩ (HasAll.drop 5)
  have hc95 := Int.not_lt.1 (of_decide_eq_false hc95)
  refine at_exit ?_
  refine x_then ?_
  refine x_then ?_
  refine x_block ?_
  refine n_then ?_
  refine sr ?_
  refine sp hT ?_
  refine nn ?_
  refine at_ret ?_
  have hr := hinv14.2.trans (ln_end (by omega) (by omega))
  subst hr
  exact at_res1 () rfl (rv_tmp rfl) .nil trivial rfl

end Go.Proofs.YtngkedmndhmjcaaGreatDoor
/- Plain: sizes of what is shown; programs that are alike. -/
namespace Go.Proofs.YtngkedmndhmjcaaGreatDoor
open Go.RowKit

theorem step_bound {st st' : List Piece} {x : Item} (h : stepS st x = some st') : x.name.length ≤ 16 ∧ x.nums.length ≤ 256 := by
  unfold stepS at h
  split at h
  · unfold operandS at h
    split at h
    · split at h
      · rename_i hb
        rw [hb.2.1]
        exact ⟨(name_word hb.2.2).len, by simp⟩
      · simp at h
    · split at h
      · simp at h
      · rename_i hb
        simp only [not_or, ne_eq, Classical.not_not, Nat.not_lt] at hb
        rw [hb.2.1]
        exact ⟨by simp, hb.2.2.2⟩
  · split at h
    · cases h
    · rename_i hb
      simp only [not_or, ne_eq, Classical.not_not] at hb
      rw [hb.2.2.1, hb.2.2.2.1]
      exact ⟨by simp, by simp⟩
theorem steps_bound : ∀ {l : List Item} {st st' : List Piece}, stepsS l st = some st' → ∀ x ∈ l, x.name.length ≤ 16 ∧ x.nums.length ≤ 256
  | [], _, _, _, x, hx => by simp at hx
  | y :: l, st, st', h, x, hx => by
    rw [stepsS] at h
    cases h1 : stepS st y with
    | none => rw [h1] at h; cases h
    | some s1 =>
      rw [h1] at h
      rcases List.mem_cons.1 hx with rfl | hx
      · exact step_bound h1
      · exact steps_bound h x hx
theorem expr_bound {l : List Item} {m : Nat} {t : Bs} (h : exprS l m = some t) : l.length ≤ m ∧ ∀ x ∈ l, x.name.length ≤ 16 ∧ x.nums.length ≤ 256 := by
  unfold exprS at h
  split at h
  · cases h
  · rename_i hl
    split at h
    · rename_i hq
      exact ⟨by omega, steps_bound hq⟩
    · cases h
theorem sides_names : ∀ {ds : List Side} {acc t : Bs}, sidesS ds acc = some t → ∀ d ∈ ds, d.name.length ≤ 16
  | [], _, _, _, d, hd => by simp at hd
  | e :: ds, acc, t, h, d, hd => by
    rw [sidesS] at h
    split at h
    · rename_i he
      rcases List.mem_cons.1 hd with rfl | hd
      · rw [he]; simp
      · exact sides_names h d hd
    · split at h
      · rename_i hb
        rcases List.mem_cons.1 hd with rfl | hd
        · exact (name_word hb.2).len
        · exact sides_names h d hd
      · cases h
theorem inputs_bound : ∀ {xs : List Input} {o o' : Bs}, inputsS xs o = (o', true) → ∀ x ∈ xs, x.name.length ≤ 16 ∧ x.sides.length ≤ 4 ∧ ∀ d ∈ x.sides, d.name.length ≤ 16
  | [], _, _, _, x, hx => by simp at hx
  | y :: xs, o, o', h, x, hx => by
    rw [inputsS] at h
    cases hi : inputS y with
    | none => rw [hi] at h; simp at h
    | some t =>
      rw [hi] at h
      simp only at h
      rcases List.mem_cons.1 hx with rfl | hx
      · unfold inputS at hi
        split at hi
        · cases hi
        · rename_i hb
          simp only [not_or, Bool.not_eq_false, Nat.not_lt] at hb
          exact ⟨(name_word hb.1).len, hb.2, sides_names hi⟩
      · exact inputs_bound h x hx
theorem lines_bound : ∀ {ls : List Line} {o o' : Bs}, linesS ls o = (o', true) → ∀ l ∈ ls, l.name.length ≤ 16 ∧ l.items.length ≤ 255 ∧ ∀ x ∈ l.items, x.name.length ≤ 16 ∧ x.nums.length ≤ 256
  | [], _, _, _, l, hl => by simp at hl
  | [m], o, o', h, l, hl => by
    rw [List.mem_singleton.1 hl]
    simp only [linesS] at h
    cases hx : exprS m.items 255 with
    | none => rw [hx] at h; simp at h
    | some t =>
      rw [hx] at h
      simp only at h
      split at h
      · simp at h
      · rename_i hn
        simp only [ne_eq, Classical.not_not] at hn
        obtain ⟨a, b⟩ := expr_bound hx
        exact ⟨by rw [hn]; simp, a, b⟩
  | m :: n :: ls, o, o', h, l, hl => by
    have h' : (match exprS m.items 254 with
        | none => (o, false)
        | some t => if nameB m.name = false then (o, false) else linesS (n :: ls) (o ++ (((m.name ++ [58, 32]) ++ t) ++ [10]))) = (o', true) := h
    cases hx : exprS m.items 254 with
    | none => rw [hx] at h'; simp at h'
    | some t =>
      rw [hx] at h'
      simp only at h'
      split at h'
      · simp at h'
      · rename_i hb
        simp only [Bool.not_eq_false] at hb
        rcases List.mem_cons.1 hl with rfl | hl
        · obtain ⟨a, b⟩ := expr_bound hx
          exact ⟨(name_word hb).len, by omega, b⟩
        · exact lines_bound h' l hl
/-- sizes of a program that may be -/
structure Fine (p : Prog) : Prop where
  ins : p.inputs.length ≤ 64
  lns : p.lines.length ≤ 64
  input : ∀ x ∈ p.inputs, x.name.length ≤ 16 ∧ x.sides.length ≤ 4 ∧ ∀ d ∈ x.sides, d.name.length ≤ 16
  line : ∀ l ∈ p.lines, l.name.length ≤ 16 ∧ l.items.length ≤ 255 ∧ ∀ x ∈ l.items, x.name.length ≤ 16 ∧ x.nums.length ≤ 256
theorem fine_of {p : Prog} (h : (programS p).2 = true) : Fine p := by
  unfold programS at h
  split at h
  · cases h
  · rename_i hb
    simp only [not_or, Nat.not_lt] at hb
    cases hi : inputsS p.inputs [] with
    | mk o b =>
      rw [hi] at h
      cases b with
      | false => cases h
      | true =>
        simp only at h
        exact ⟨by omega, by omega, inputs_bound hi, lines_bound (o' := (linesS p.lines o).1) (Prod.ext rfl h)⟩
section
variable {x : ProgV}
theorem mem_inp {y : InputV} (h : y ∈ x.inputs.list) : y.inp ∈ x.pr.inputs := List.mem_map.2 ⟨y, h, rfl⟩
theorem mem_ln {y : LineV} (h : y ∈ x.lines.list) : y.ln ∈ x.pr.lines := List.mem_map.2 ⟨y, h, rfl⟩
theorem mem_sd {y : InputV} {d : SideV} (h : d ∈ y.sides.list) : d.sd ∈ y.inp.sides := List.mem_map.2 ⟨d, h, rfl⟩
theorem mem_it {y : LineV} {d : ItemV} (h : d ∈ y.items.list) : d.it ∈ y.ln.items := List.mem_map.2 ⟨d, h, rfl⟩
theorem Fine.ok (h : Fine x.pr) (hr : RngP x.pr) : ProgOk x ∧ x.inputs.list.length ≤ 140737488355328 ∧ x.lines.list.length ≤ 140737488355328 := by
  have e1 : x.pr.inputs.length = x.inputs.list.length := List.length_map _
  have e2 : x.pr.lines.length = x.lines.list.length := List.length_map _
  have h1 := h.ins
  have h2 := h.lns
  refine ⟨⟨fun y hy => ?_, fun y hy => ?_⟩, by omega, by omega⟩
  · obtain ⟨a, b, c⟩ := h.input _ (mem_inp hy)
    refine ⟨Nat.le_trans a (by decide), fun d hd => ⟨Nat.le_trans (c _ (mem_sd hd)) (by decide), ?_⟩⟩
    exact hr.ins _ (mem_inp hy) _ (mem_sd hd)
  · obtain ⟨a, b, c⟩ := h.line _ (mem_ln hy)
    refine ⟨Nat.le_trans a (by decide), fun d hd => ⟨Nat.le_trans (c _ (mem_it hd)).1 (by decide), ?_⟩⟩
    exact hr.lns _ (mem_ln hy) _ (mem_it hd)
theorem Fine.alike (h : Fine x.pr) : AlikeOk x := by
  have e1 : x.pr.inputs.length = x.inputs.list.length := List.length_map _
  have e2 : x.pr.lines.length = x.lines.list.length := List.length_map _
  have h1 := h.ins
  have h2 := h.lns
  refine ⟨by omega, by omega, fun y hy => ?_, fun y hy => ⟨?_, fun it hi => ?_⟩⟩
  · have := (h.input _ (mem_inp hy)).2.1
    have e : y.inp.sides.length = y.sides.list.length := List.length_map _
    omega
  · have := (h.line _ (mem_ln hy)).2.1
    have e : y.ln.items.length = y.items.list.length := List.length_map _
    omega
  · have := ((h.line _ (mem_ln hy)).2.2 _ (mem_it hi)).2
    have e : it.it.nums.length = it.nums.list.length := rfl
    omega
theorem rng_of (h : ProgOk x) : RngP x.pr := by
  refine ⟨fun y hy d hd => ?_, fun y hy d hd => ?_⟩
  · obtain ⟨z, hz, rfl⟩ := List.mem_map.1 hy
    obtain ⟨c, hc, rfl⟩ := List.mem_map.1 hd
    exact ((h.input z hz).2 c hc).2
  · obtain ⟨z, hz, rfl⟩ := List.mem_map.1 hy
    obtain ⟨c, hc, rfl⟩ := List.mem_map.1 hd
    exact ((h.line z hz).2 c hc).2
end
theorem all2_iff {α β : Type} {f : α → α → Bool} {g : α → β} (hf : ∀ x y, f x y = true ↔ g x = g y) : ∀ a b : List α, all2 f a b = true ↔ a.map g = b.map g
  | [], [] => by simp [all2]
  | [], _ :: _ => by simp [all2]
  | _ :: _, [] => by simp [all2]
  | x :: a, y :: b => by simp [all2, hf x y, all2_iff hf a b]
theorem alike_un {p q : Prog} : alikeB p q = true ↔ p.un = q.un := by
  unfold alikeB
  rw [Bool.and_eq_true, all2_iff (g := Input.un), all2_iff (g := Line.un)]
  · simp [Prog.un]
  · intro x y
    simp only [likeL, Bool.and_eq_true, beq_iff_eq]
    rw [all2_iff (g := Item.un)]
    · simp [Line.un, unAll]
    · intro x y
      simp [likeI, Item.un]
  · intro x y
    simp [likeIn, Input.un]

/-! ### as the laws ask -/
theorem show_code {p : Prog} (h : (showP p).2 ≠ 0) : (((showP p).2 == 30) == (programS p).2) = true := by
  have := (show_bad h).2
  cases hr : (programS p).2 with
  | true => rw [this.2 hr]; rfl
  | false =>
    have : (showP p).2 ≠ 30 := fun e => by rw [this.1 e] at hr; cases hr
    simp [this]
theorem show_empty {p : Prog} (h : (showP p).2 ≠ 0) : ((showP p).1 == []) = true := by rw [(show_bad h).1]; rfl
theorem show_len {p : Prog} (h : (showP p).2 = 0) : (showP p).1.length ≤ 65536 := (show_ok h).2
theorem show_long {p : Prog} (h : (showP p).2 ≠ 0) (hr : (programS p).2 = true) : ((showP p).2 == 30) = true := by rw [(show_bad h).2.2 hr]; rfl
theorem alike_t {p q : Prog} (h : p.un = q.un) : alikeB p q = true := alike_un.2 h
theorem flt_t {f : Flt} (h : f = (0, 0)) : fltEq ⟨f.1, f.2⟩ ⟨0, 0⟩ = true := by rw [h]; rfl
theorem flt_of {f : Flt} (h : fltEq ⟨f.1, f.2⟩ ⟨0, 0⟩ = true) : f = (0, 0) := isOk_iff.1 h
theorem flt_not {f : Flt} (h : fltEq ⟨f.1, f.2⟩ ⟨0, 0⟩ = false) : f ≠ (0, 0) := fun e => by rw [e] at h; cases h
theorem unlike_eq {p q : Prog} (hp : RngP p) (hq : RngP q) (h : (showP p).2 = 0) (k : (showP q).2 = 0) : (((showP p).1 == (showP q).1) == alikeB p q) = true := by
  have := unlike_law hp hq h k
  rw [← alike_un] at this
  cases ha : alikeB p q with
  | true => simp [this.2 ha]
  | false =>
    have : (showP p).1 ≠ (showP q).1 := fun e => by rw [this.1 e] at ha; cases ha
    simp [this]
end Go.Proofs.YtngkedmndhmjcaaGreatDoor
/- What the laws of show ask of their arguments. -/
namespace Go.Proofs.YtngkedmndhmjcaaGreatDoor
open Go.RowKit

theorem alike_of {a : ProgV} {S : Nat → Prop} {w : World} (h : (progTy.deep a).p S w) : AlikeOk a := by
  obtain ⟨⟨⟨i1, i2⟩, i3⟩, ⟨⟨l1, l2⟩, l3⟩, _⟩ := h
  have i2 : ∀ x ∈ a.inputs.list, (inputTy.deep x).p S w := i2
  have l2 : ∀ x ∈ a.lines.list, (lineTy.deep x).p S w := l2
  have i3 : a.inputs.list.length * 48 ≤ 140737488355328 := i3
  have l3 : a.lines.list.length * 48 ≤ 140737488355328 := l3
  refine ⟨by omega, by omega, fun x hx => ?_, fun x hx => ⟨?_, fun it hit => ?_⟩⟩
  · have h1 : x.sides.list.length * 24 ≤ 140737488355328 := (i2 x hx).2.2.1.2
    omega
  · have h1 : x.items.list.length * 64 ≤ 140737488355328 := (l2 x hx).2.2.1.2
    omega
  · have := (l2 x hx).2.2.1.1.2 it hit
    have h1 : it.nums.list.length * 8 ≤ 140737488355328 := this.2.2.2.2.1.2
    omega
theorem ok_empty {x : ProgV} (h : x.pr = ⟨[], []⟩) : ProgOk x ∧ x.inputs.list.length ≤ 140737488355328 ∧ x.lines.list.length ≤ 140737488355328 := by
  have h1 : x.inputs.list = [] := List.map_eq_nil_iff.1 (congrArg Prog.inputs h)
  have h2 : x.lines.list = [] := List.map_eq_nil_iff.1 (congrArg Prog.lines h)
  exact ⟨⟨fun y hy => by rw [h1] at hy; simp at hy, fun y hy => by rw [h2] at hy; simp at hy⟩, by rw [h1]; simp, by rw [h2]; simp⟩
end Go.Proofs.YtngkedmndhmjcaaGreatDoor
/- Walk of copied: a program in memory of its own, its places apart. (Printed by wip/gen/copied.py.) -/
namespace Go.Proofs.YtngkedmndhmjcaaGreatDoor
open Go.RowKit

structure CopyOk (P : ProgV) : Prop where
  ins : P.inputs.list.length ≤ 100
  lns : P.lines.list.length ≤ 100
  sides : ∀ x ∈ P.inputs.list, x.sides.list.length ≤ 5864062014805
  items : ∀ x ∈ P.lines.list, x.items.list.length ≤ 1000 ∧ ∀ it ∈ x.items.list, it.nums.list.length ≤ 1000
def unI (x : InputV) : Input := x.inp.un
def unL (x : LineV) : Line := x.ln.un
def unT (x : ItemV) : Item := x.it.un
section
variable {α β : Type} {f : α → β} {a l : List α} {x m : α} {i : Nat}
theorem un_step (h : a.map f = (l.take i).map f) (hx : l[i]? = some x) (e : f m = f x) : (a ++ [m]).map f = (l.take (i + 1)).map f := by
  rw [List.map_append, h, List.take_add_one, hx]
  simp [e]
theorem un_end (h : a.map f = (l.take i).map f) (hi : l.length ≤ i) : a.map f = l.map f := by
  rw [List.take_of_length_le hi] at h
  exact h
end
theorem unL_of {x : LineV} {its : List ItemV} {A : Option Addr} {c : Nat} (h : its.map unT = x.items.list.map unT) : unL ⟨x.name, 8, ⟨A, c, its⟩⟩ = unL x := by
  have e : ∀ l : List ItemV, unAll (l.map ItemV.it) = l.map unT := fun l => by simp [unAll, unT]
  simp only [unL, LineV.ln, Line.un, e, h]
theorem copy_un {P : ProgV} {ins : List InputV} {lns : List LineV} {I J : Option Addr} {ci cj : Nat} (h : ins.map unI = P.inputs.list.map unI) (k : lns.map unL = P.lines.list.map unL) : (⟨⟨I, ci, ins⟩, ⟨J, cj, lns⟩⟩ : ProgV).pr.un = P.pr.un := by
  have e1 : ∀ l : List InputV, (l.map InputV.inp).map Input.un = l.map unI := fun l => by simp [unI]
  have e2 : ∀ l : List LineV, (l.map LineV.ln).map Line.un = l.map unL := fun l => by simp [unL]
  simp only [ProgV.pr, Prog.un, e1, e2, h, k]
theorem ccopied_zero_api_Program : (Tryz.prog.info? 25).bind (·.zero) = some (.agg #[.slice none 0 0, .slice none 0 0]) := by kernel_rfl
theorem ccopied_zero_api_Input : (Tryz.prog.info? 59).bind (·.zero) = some (.agg #[.string (bs []), .int .i64 0, .slice none 0 0]) := by kernel_rfl
theorem ccopied_built_api_Input_012 (s0 : ByteArray) (z1 : Int) (a2 : Option Addr) (l2 c2 : Nat) : Tryz.prog.built 59 [(0, .string s0), (1, .int .i64 z1), (2, .slice a2 l2 c2)] = some #[.string s0, .int .i64 z1, .slice a2 l2 c2] := by kernel_rfl
theorem ccopied_zero_api_Line : (Tryz.prog.info? 42).bind (·.zero) = some (.agg #[.string (bs []), .int .i64 0, .slice none 0 0]) := by kernel_rfl
theorem ccopied_built_api_Line_01 (s0 : ByteArray) (z1 : Int) : Tryz.prog.built 42 [(0, .string s0), (1, .int .i64 z1)] = some #[.string s0, .int .i64 z1, .slice none 0 0] := by kernel_rfl
theorem ccopied_zero_api_Item : (Tryz.prog.info? 46).bind (·.zero) = some (.agg #[.int .i64 0, .int .i64 0, .int .u8 0, .string (bs []), .slice none 0 0]) := by kernel_rfl

set_option maxRecDepth 100000 in
theorem copied_spec (P : ProgV) (hC : CopyOk P) : Spec Tryz.prog 18 [.agg #[.slice P.inputs.addr P.inputs.list.length P.inputs.cap, .slice P.lines.addr P.lines.list.length P.lines.cap]] [] [inputE.sl (.slice P.inputs.addr P.inputs.list.length P.inputs.cap) P.inputs.list, inputsF P.inputs.list, lineE.sl (.slice P.lines.addr P.lines.list.length P.lines.cap) P.lines.list, linesF P.lines.list] (fun (x : ProgV) => .agg #[.slice x.inputs.addr x.inputs.list.length x.inputs.cap, .slice x.lines.addr x.lines.list.length x.lines.cap]) (fun _ => []) (fun (x : ProgV) => [progFct x, Fact.pure (x.pr.un = P.pr.un)]) := by
  have hT := show2T_ok
  have hc1 := hC.ins
  have hc2 := hC.lns
  refine spec_of Tryz.func18 rfl Tryz.ntmps18 rfl ?_
  intro β hM
  refine sr ?_
  refine at_box rfl rfl rfl rfl rfl rfl fun b1 => ?_
  refine at_alloc rfl rfl rfl rfl ccopied_zero_api_Program rfl fun b2 => ?_
  refine nn ?_
  refine sr ?_
  refine at_alloc rfl rfl rfl rfl ccopied_zero_api_Program rfl fun b3 => ?_
  refine nn ?_
  refine at_seq ?_
  refine sr ?_
  refine sp hT ?_
  refine ss (ldO hT (knows_own (off := 0) kT2)) ?_
  refine sp2 hT ?_
  refine nn ?_
  refine at_block ?_
  refine at_nilrow' (t := 59) inputE ?_
  refine at_fact (inputsF []) (Has.each_nil) ?_
  refine at_loop2 (ι := Nat × List InputV × Option Addr × Nat) [(1, _), (2, _), (3, _), (12, _), (13, _)] ⟨rfl, rfl, rfl, rfl, rfl, trivial⟩ (fun ⟨i, ins, I, ci⟩ => [(14, .int .i64 (i : Nat))]) (fun ⟨i, ins, I, ci⟩ => [.obj b3 (.cells [.slice I ins.length ci, .slice none ([] : List LineV).length 0].toArray 25), inputE.row (.slice I ins.length ci) 59 ins]) (fun ⟨i, ins, I, ci⟩ => [Fact.pure (i ≤ P.inputs.list.length ∧ ins.length = i ∧ ins.map unI = (P.inputs.list.take i).map unI), inputsF ins]) (fun ⟨i, ins, I, ci⟩ => P.inputs.list.length - i) (0, [], none, 0) ⟨rfl, trivial⟩ (.cons kT1 (.cons .head .nil)) ⟨Has.pure (⟨by omega, rfl, rfl⟩), Has.of mT0, trivial⟩ ?_
  rintro ⟨i, ins, I, ci⟩
  dsimp only
  refine at_know (Has.of mT0) fun hinv3 => ?_
  refine sr ?_
  refine sp hT ?_
  refine nn ?_
  refine at_seq ?_
  refine at_cond rfl (fun hc15 => ?_) (fun hc15 => ?_)
  · have hc15 := of_decide_eq_true hc15
    refine at_skip ?_
    refine n_then ?_
    refine at_seq ?_
    refine at_block ?_
    refine sr ?_
    obtain ⟨x4, hx5⟩ : ∃ x', P.inputs.list[i]? = some x' := ⟨_, List.getElem?_eq_getElem (by omega)⟩
    refine ss (sti_index hT (k := i) (reads_fact (Has.of mT3)) rfl rfl rfl rfl rfl rfl rfl (by omega)) ?_
    refine ss (sti_loadN hT (Reads.knows (reads_fact (Has.of mT3)) (k := i) (x := x4) hx5 0) rfl rfl rfl rfl rfl) ?_
    refine at_alloc rfl rfl rfl rfl ccopied_zero_api_Input rfl fun b6 => ?_
    refine sto hT .head ?_
    refine nn ?_
    refine at_fact (sidesFct x4) (Has.each (Has.of mT4) (List.mem_of_getElem? hx5)) ?_
    have hxs := hC.sides x4 (List.mem_of_getElem? hx5)
    refine at_mixL 12 _ _ [(true, 0), (true, 1), (true, 2), (true, 3), (true, 5), (true, 6), (false, 4), (false, 7), (true, 8), (false, 9), (false, 10), (true, 11)] mixes (by decide +kernel) (.cons .head (.cons .head (.cons kT1 (.cons kT1 .nil)))) HasAll.self ?_
    refine atl_sti rfl rfl rfl rfl (sti_pure hT rfl) ?_
    refine atl_sti rfl rfl rfl rfl (ldO hT (knows_own (off := 0) kT1)) ?_
    refine atl_sti rfl rfl rfl rfl (sti_pure hT rfl) ?_
    refine atl_sti rfl rfl rfl rfl (ldO hT (knows_own (off := 0) .head)) ?_
    refine atl_sti rfl rfl rfl rfl (sti_pure hT rfl) ?_
    refine atl_sti rfl rfl rfl rfl (ldO hT (knows_own (off := 2) .head)) ?_
    refine atl_op (o := _) rfl ?_
    refine at_none_side rfl rfl rfl rfl fun b7 => ?_
    refine atl_go (.cons kT1 (.cons kT1 (.cons kT2 (.cons kT2 .nil)))) (HasAll.drop 0) ?_
    refine atl_op (o := _) rfl ?_
    refine at_app_side .head (reads_fact (Has.of mT0)) rfl rfl rfl rfl rfl rfl rfl (by simp; omega) fun A8 c9 => ?_
    rw [List.nil_append]
    refine at_freeze .head ?_
    refine atl_go (.cons .head (.cons .head (.cons kT1 (.cons kT1 .nil)))) (HasAll.drop 1) ?_
    refine atl_sti rfl rfl rfl rfl (sti_build rfl rfl (ccopied_built_api_Input_012 _ _ _ _ _)) ?_
    refine atl_op (o := _) rfl ?_
    refine at_one_input (m := (⟨x4.name, 7, ⟨A8, c9, x4.sides.list⟩⟩ : InputV)) rfl rfl rfl rfl rfl fun b10 => ?_
    refine atl_go (.cons kT1 (.cons kT1 (.cons kT2 (.cons kT2 .nil)))) (HasAll.drop 1) ?_
    refine atl_op (o := _) rfl ?_
    refine at_app_input kT3 (reads_obj .head rfl) rfl rfl rfl rfl rfl rfl rfl (by first | (simp only [List.length_singleton]; omega) | (simp; omega)) fun A11 c12 => ?_
    refine at_fact (inputsF (ins ++ [(⟨x4.name, 7, ⟨A8, c9, x4.sides.list⟩⟩ : InputV)])) (inputs_add (Has.of mT3) (Has.of mT0)) ?_
    refine atl_go (.cons kT2 (.cons kT2 (.cons kT2 (.cons kT2 .nil)))) (HasAll.drop 2) ?_
    refine atl_sti rfl rfl rfl rfl (sti_pure hT rfl) ?_
    refine atl_last (o := _) rfl ?_
    refine sto hT kT3 ?_
    refine atl_end ?_
    refine n_block ?_
    refine n_then ?_
    refine at_region ?_
    refine sp hT ?_
    refine at_int (z' := (((i + 1) : Nat) : Int)) (wrapN (by omega) (by omega)) ?_
    refine sp hT ?_
    refine nn ?_
    exact at_back2 (i + 1, ins ++ [(⟨x4.name, 7, ⟨A8, c9, x4.sides.list⟩⟩ : InputV)], _, _) (by dsimp only; omega) ⟨rfl, trivial⟩ ⟨rfl, rfl, rfl, rfl, rfl, trivial⟩ (.cons .head (.cons .head (.cons kT2 (.cons kT2 .nil)))) ⟨Has.pure (⟨by dsimp only; omega, by simp; omega, un_step hinv3.2.2 hx5 rfl⟩), Has.of mT0, trivial⟩ (HasAll.drop 5)
  have hc15 := Int.not_lt.1 (of_decide_eq_false hc15)
  refine at_exit ?_
  refine x_then ?_
  refine x_then ?_
  refine x_block ?_
  refine n_then ?_
  refine at_seq ?_
  refine sr ?_
  refine sp hT ?_
  refine ss (ldO hT (knows_own (off := 1) kT3)) ?_
  refine sp2 hT ?_
  refine nn ?_
  refine at_block ?_
  refine at_nilrow' (t := 42) lineE ?_
  refine at_fact (linesF []) (Has.each_nil) ?_
  have hins := un_end hinv3.2.2 (by omega)
  refine at_loop2 (ι := Nat × List LineV × Option Addr × Nat) [(2, _), (3, _), (32, _), (33, _)] ⟨rfl, rfl, rfl, rfl, trivial⟩ (fun ⟨i, lns, J, cj⟩ => [(34, .int .i64 (i : Nat))]) (fun ⟨i, lns, J, cj⟩ => [.obj b3 (.cells [.slice I ins.length ci, .slice J lns.length cj].toArray 25), lineE.row (.slice J lns.length cj) 42 lns]) (fun ⟨i, lns, J, cj⟩ => [Fact.pure (i ≤ P.lines.list.length ∧ lns.length = i ∧ lns.map unL = (P.lines.list.take i).map unL), linesF lns]) (fun ⟨i, lns, J, cj⟩ => P.lines.list.length - i) (0, [], none, 0) ⟨rfl, trivial⟩ (.cons kT1 (.cons .head .nil)) ⟨Has.pure (⟨by omega, rfl, rfl⟩), Has.of mT0, trivial⟩ ?_
  rintro ⟨i, lns, J, cj⟩
  dsimp only
  refine at_know (Has.of mT0) fun hinv8 => ?_
  refine sr ?_
  refine sp hT ?_
  refine nn ?_
  refine at_seq ?_
  refine at_cond rfl (fun hc35 => ?_) (fun hc35 => ?_)
  · have hc35 := of_decide_eq_true hc35
    refine at_skip ?_
    refine n_then ?_
    refine at_seq ?_
    refine at_block ?_
    refine sr ?_
    obtain ⟨x13, hx14⟩ : ∃ x', P.lines.list[i]? = some x' := ⟨_, List.getElem?_eq_getElem (by omega)⟩
    refine ss (sti_index hT (k := i) (reads_fact (Has.of mT8)) rfl rfl rfl rfl rfl rfl rfl (by omega)) ?_
    refine ss (sti_loadN hT (Reads.knows (reads_fact (Has.of mT8)) (k := i) (x := x13) hx14 0) rfl rfl rfl rfl rfl) ?_
    refine at_alloc rfl rfl rfl rfl ccopied_zero_api_Line rfl fun b15 => ?_
    refine sto hT .head ?_
    refine nn ?_
    refine sr ?_
    refine sp hT ?_
    refine ss (ldO hT (knows_own (off := 0) .head)) ?_
    refine ss (sti_build rfl rfl (ccopied_built_api_Line_01 _ _)) ?_
    refine at_alloc rfl rfl rfl rfl ccopied_zero_api_Line rfl fun b16 => ?_
    refine sto hT .head ?_
    refine nn ?_
    refine at_seq ?_
    refine at_seq ?_
    refine at_fact (itemE.sl (.slice x13.items.addr x13.items.list.length x13.items.cap) x13.items.list) (Has.left (Has.each (Has.of mT9) (List.mem_of_getElem? hx14))) ?_
    refine at_fact (numsF x13.items.list) (Has.right (Has.each (Has.of mT10) (List.mem_of_getElem? hx14))) ?_
    have hxi := hC.items x13 (List.mem_of_getElem? hx14)
    refine at_region ?_
    refine sp hT ?_
    refine ss (ldO hT (knows_own (off := 2) kT1)) ?_
    refine sp2 hT ?_
    refine nn ?_
    refine at_block ?_
    refine at_nilrow' (t := 46) itemE ?_
    refine at_fact (numsF []) (Has.each_nil) ?_
    refine at_loop2 (ι := Nat × List ItemV × Option Addr × Nat) [(2, _), (3, _), (8, _), (32, _), (33, _), (34, _), (42, _), (43, _)] ⟨rfl, rfl, rfl, rfl, rfl, rfl, rfl, rfl, trivial⟩ (fun ⟨k, its, T, ct⟩ => [(44, .int .i64 (k : Nat))]) (fun ⟨k, its, T, ct⟩ => [.obj b16 (.cells [.string (bs x13.name), .int .i64 8, .slice T its.length ct].toArray 42), itemE.row (.slice T its.length ct) 46 its]) (fun ⟨k, its, T, ct⟩ => [Fact.pure (k ≤ x13.items.list.length ∧ its.length = k ∧ its.map unT = (x13.items.list.take k).map unT), numsF its]) (fun ⟨k, its, T, ct⟩ => x13.items.list.length - k) (0, [], none, 0) ⟨rfl, trivial⟩ (.cons kT1 (.cons .head .nil)) ⟨Has.pure (⟨by omega, rfl, rfl⟩), Has.of mT0, trivial⟩ ?_
    rintro ⟨k, its, T, ct⟩
    dsimp only
    refine at_know (Has.of mT0) fun hinv12 => ?_
    refine sr ?_
    refine sp hT ?_
    refine nn ?_
    refine at_seq ?_
    refine at_cond rfl (fun hc45 => ?_) (fun hc45 => ?_)
    · have hc45 := of_decide_eq_true hc45
      refine at_skip ?_
      refine n_then ?_
      refine at_seq ?_
      refine at_block ?_
      refine sr ?_
      obtain ⟨x17, hx18⟩ : ∃ x', x13.items.list[k]? = some x' := ⟨_, List.getElem?_eq_getElem (by omega)⟩
      refine ss (sti_index hT (k := k) (reads_fact (Has.of mT4)) rfl rfl rfl rfl rfl rfl rfl (by omega)) ?_
      refine ss (sti_loadN hT (Reads.knows (reads_fact (Has.of mT4)) (k := k) (x := x17) hx18 0) rfl rfl rfl rfl rfl) ?_
      refine at_alloc rfl rfl rfl rfl ccopied_zero_api_Item rfl fun b19 => ?_
      refine sto hT .head ?_
      refine nn ?_
      refine sr ?_
      refine sp hT ?_
      refine sto hT .head ?_
      refine nn ?_
      refine at_seq ?_
      refine at_fact (numF x17) (Has.each (Has.of mT3) (List.mem_of_getElem? hx18)) ?_
      have hxn := hxi.2 x17 (List.mem_of_getElem? hx18)
      refine at_region ?_
      refine at_none_int rfl rfl rfl rfl fun b20 => ?_
      refine sp hT ?_
      refine ss (ldO hT (knows_own (off := 4) kT1)) ?_
      refine at_app_int .head (reads_fact (Has.of mT0)) rfl rfl rfl rfl rfl rfl rfl (by simp; omega) fun A21 c22 => ?_
      rw [List.nil_append]
      refine at_freeze .head ?_
      refine sp hT ?_
      refine sto hT .head ?_
      refine nn ?_
      refine at_region ?_
      refine sp hT ?_
      refine ss (ldO hT (knows_own (off := 2) kT1)) ?_
      refine ss (ldN hT (knows_own (off := 0) .head)) ?_
      refine at_one_item (m := (⟨x17.how, 9, x17.fn, x17.name, ⟨A21, c22, x17.nums.list⟩⟩ : ItemV)) rfl rfl rfl rfl rfl fun b23 => ?_
      refine at_app_item kT3 (reads_obj .head rfl) rfl rfl rfl rfl rfl rfl rfl (by first | (simp only [List.length_singleton]; omega) | (simp; omega)) fun A24 c25 => ?_
      refine at_fact (numsF (its ++ [(⟨x17.how, 9, x17.fn, x17.name, ⟨A21, c22, x17.nums.list⟩⟩ : ItemV)])) (nums_add (Has.of mT3) (Has.of mT0)) ?_
      refine sp hT ?_
      refine sto hT kT3 ?_
      refine at_nil ?_
      refine n_block ?_
      refine n_then ?_
      refine at_region ?_
      refine sp hT ?_
      refine at_int (z' := (((k + 1) : Nat) : Int)) (wrapN (by omega) (by omega)) ?_
      refine sp hT ?_
      refine nn ?_
      exact at_back2 (k + 1, its ++ [(⟨x17.how, 9, x17.fn, x17.name, ⟨A21, c22, x17.nums.list⟩⟩ : ItemV)], _, _) (by dsimp only; omega) ⟨rfl, trivial⟩ ⟨rfl, rfl, rfl, rfl, rfl, rfl, rfl, rfl, trivial⟩ (.cons .head (.cons .head (.cons kT2 (.cons kT2 (.cons kT2 (.cons kT2 (.cons kT2 (.cons kT2 .nil)))))))) ⟨Has.pure (⟨by dsimp only; omega, by simp; omega, un_step hinv12.2.2 hx18 rfl⟩), Has.of mT0, trivial⟩ (HasAll.drop 5)
    have hc45 := Int.not_lt.1 (of_decide_eq_false hc45)
    refine at_exit ?_
    refine x_then ?_
    refine x_then ?_
    refine x_block ?_
    refine n_then ?_
    have hits := un_end hinv12.2.2 (by omega)
    refine at_freeze kT1 ?_
    refine at_region ?_
    refine sp hT ?_
    refine ss (ldO hT (knows_own (off := 1) kT2)) ?_
    refine ss (ldN hT (knows_own (off := 0) .head)) ?_
    refine at_one_line (m := (⟨x13.name, 8, ⟨T, ct, its⟩⟩ : LineV)) rfl rfl rfl rfl rfl fun b26 => ?_
    refine at_app_line kT4 (reads_obj .head rfl) rfl rfl rfl rfl rfl rfl rfl (by first | (simp only [List.length_singleton]; omega) | (simp; omega)) fun A27 c28 => ?_
    refine at_fact (linesF (lns ++ [(⟨x13.name, 8, ⟨T, ct, its⟩⟩ : LineV)])) (lines_add (Has.of mT7) (Has.and (Has.of mT0) (Has.of mT2))) ?_
    refine sp hT ?_
    refine sto hT kT4 ?_
    refine at_nil ?_
    refine n_block ?_
    refine n_then ?_
    refine at_region ?_
    refine sp hT ?_
    refine at_int (z' := (((i + 1) : Nat) : Int)) (wrapN (by omega) (by omega)) ?_
    refine sp hT ?_
    refine nn ?_
    exact at_back2 (i + 1, lns ++ [(⟨x13.name, 8, ⟨T, ct, its⟩⟩ : LineV)], _, _) (by dsimp only; omega) ⟨rfl, trivial⟩ ⟨rfl, rfl, rfl, rfl, trivial⟩ (.cons .head (.cons .head (.cons kT3 (.cons kT3 (.cons kT3 .nil))))) ⟨Has.pure (⟨by dsimp only; omega, by simp; omega, un_step hinv8.2.2 hx14 (unL_of hits)⟩), Has.of mT0, trivial⟩ (HasAll.drop 9)
  have hc35 := Int.not_lt.1 (of_decide_eq_false hc35)
  refine at_exit ?_
  refine x_then ?_
  refine x_then ?_
  refine x_block ?_
  refine n_then ?_
  refine sr ?_
  refine ss (ldN hT (knows_own (off := 0) .head)) ?_
  refine sto hT kT3 ?_
  refine nn ?_
  refine at_ret ?_
  have hlns := un_end hinv8.2.2 (by omega)
  refine at_freeze kT3 ?_
  refine at_freeze kT2 ?_
  exact at_res1 (⟨⟨_, _, ins⟩, ⟨_, _, lns⟩⟩ : ProgV) rfl (rv_cell hT (knows_own (off := 0) .head) rfl rfl rfl rfl) .nil ⟨Has.and (Has.and (Has.of mT1) (Has.of mT6)) (Has.and (Has.of mT0) (Has.of mT3)), Has.pure (copy_un hins hlns), trivial⟩ rfl

end Go.Proofs.YtngkedmndhmjcaaGreatDoor
/- What ShowPlaces asks: programs that are equal but for their places. -/
namespace Go.Proofs.YtngkedmndhmjcaaGreatDoor
open Go.RowKit

theorem sides_of {a : ProgV} {S : Nat → Prop} {w : World} (h : (progTy.deep a).p S w) : ∀ x ∈ a.inputs.list, x.sides.list.length ≤ 5864062014805 := by
  obtain ⟨⟨⟨i1, i2⟩, i3⟩, _⟩ := h
  have i2 : ∀ x ∈ a.inputs.list, (inputTy.deep x).p S w := i2
  intro x hx
  have h1 : x.sides.list.length * 24 ≤ 140737488355328 := (i2 x hx).2.2.1.2
  omega
theorem ok_un {x y : ProgV} (h : x.pr.un = y.pr.un) (hy : ProgOk y) (h1 : y.inputs.list.length ≤ 140737488355328) (h2 : y.lines.list.length ≤ 140737488355328) : ProgOk x ∧ x.inputs.list.length ≤ 140737488355328 ∧ x.lines.list.length ≤ 140737488355328 := by
  have hi : x.inputs.list.map unI = y.inputs.list.map unI := by
    have := congrArg Prog.inputs h
    simp only [Prog.un, ProgV.pr, List.map_map] at this
    exact this
  have hl : x.lines.list.map unL = y.lines.list.map unL := by
    have := congrArg Prog.lines h
    simp only [Prog.un, ProgV.pr, List.map_map] at this
    exact this
  have li := congrArg List.length hi
  have ll := congrArg List.length hl
  simp only [List.length_map] at li ll
  refine ⟨⟨fun z hz => ?_, fun z hz => ?_⟩, by omega, by omega⟩
  · obtain ⟨c, hc, e⟩ := List.mem_map.1 (show unI z ∈ y.inputs.list.map unI by rw [← hi]; exact List.mem_map.2 ⟨z, hz, rfl⟩)
    simp only [unI, InputV.inp, Input.un, Input.mk.injEq, true_and] at e
    obtain ⟨e1, e2⟩ := e
    obtain ⟨a, b⟩ := hy.input c hc
    refine ⟨by rw [← e1]; exact a, fun d hd => ?_⟩
    obtain ⟨f, hf, e3⟩ := List.mem_map.1 (show d.sd ∈ c.sides.list.map SideV.sd by rw [e2]; exact List.mem_map.2 ⟨d, hd, rfl⟩)
    obtain ⟨e4, e5⟩ := sd_inj e3
    have := b f hf
    rw [e4, e5] at this
    exact this
  · obtain ⟨c, hc, e⟩ := List.mem_map.1 (show unL z ∈ y.lines.list.map unL by rw [← hl]; exact List.mem_map.2 ⟨z, hz, rfl⟩)
    simp only [unL, LineV.ln, Line.un, Line.mk.injEq, true_and] at e
    obtain ⟨e1, e2⟩ := e
    obtain ⟨a, b⟩ := hy.line c hc
    refine ⟨by rw [← e1]; exact a, fun d hd => ?_⟩
    obtain ⟨g, hg, e3⟩ := List.mem_map.1 (show d.it.un ∈ unAll (c.items.list.map ItemV.it) by rw [e2]; exact List.mem_map.2 ⟨d.it, List.mem_map.2 ⟨d, hd, rfl⟩, rfl⟩)
    obtain ⟨f, hf, rfl⟩ := List.mem_map.1 hg
    simp only [Item.un, ItemV.it, Item.mk.injEq, true_and] at e3
    have := b f hf
    rw [e3.2.2.1, e3.2.2.2] at this
    exact this
section
variable {P : ProgV}
def NumsOk (its : List ItemV) : Prop := ∀ it ∈ its, it.nums.list.length ≤ 1000
def LinesFine (ls : List LineV) : Prop := ∀ x ∈ ls, x.items.list.length ≤ 1000 ∧ NumsOk x.items.list
theorem all_step {α : Type} {q : α → Prop} {l : List α} {i : Nat} {x : α} (h : ∀ y ∈ l.take i, q y) (hx : l[i]? = some x) (hq : q x) : ∀ y ∈ l.take (i + 1), q y := by
  intro y hy
  rw [List.take_add_one, hx] at hy
  rcases List.mem_append.1 hy with hy | hy
  · exact h y hy
  · simp at hy
    rw [hy]
    exact hq
theorem all_end {α : Type} {q : α → Prop} {l : List α} {i : Nat} (h : ∀ y ∈ l.take i, q y) (hi : l.length ≤ i) : ∀ y ∈ l, q y := by
  rw [List.take_of_length_le hi] at h
  exact h
end
end Go.Proofs.YtngkedmndhmjcaaGreatDoor
