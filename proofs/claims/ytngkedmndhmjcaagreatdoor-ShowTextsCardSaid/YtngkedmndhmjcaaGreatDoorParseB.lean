/- Walks of parse.line.input, parse.line.into, parse.Parse. (Printed by wip/gen/parse3.py.) -/
import Derived.Test.YtngkedmndhmjcaaGreatDoorParseP
namespace Go.Proofs.YtngkedmndhmjcaaGreatDoor
open Go.RowKit

def sidesFct (x : InputV) : Fact := sideE.sl (.slice x.sides.addr x.sides.list.length x.sides.cap) x.sides.list
def inputsF (l : List InputV) : Fact := Fact.each l sidesFct
def itemsFct (x : LineV) : Fact := (itemE.sl (.slice x.items.addr x.items.list.length x.items.cap) x.items.list).and (numsF x.items.list)
def linesF (l : List LineV) : Fact := Fact.each l itemsFct
theorem inputs_add {F : List Fact} {l : List InputV} {x : InputV} (h : Has F (inputsF l)) (hx : Has F (sidesFct x)) : Has F (inputsF (l ++ [x])) := Has.each_snoc h hx
theorem lines_add {F : List Fact} {l : List LineV} {x : LineV} (h : Has F (linesF l)) (hx : Has F (itemsFct x)) : Has F (linesF (l ++ [x])) := Has.each_snoc h hx
section
variable {toks : List TokV} {e : Int} {k : Nat} {acc : List SideV}
theorem drop_peek (hk : k < toks.length) : toks.drop k = peekP toks k :: toks.drop (k + 1) ∧ (peekP toks k).at_ = atP toks k e := by
  have h : toks[k]? = some toks[k] := List.getElem?_eq_getElem hk
  rw [peekP_some h, atP_some h]
  exact ⟨List.drop_eq_getElem_cons hk, rfl⟩
theorem sides_bad (hk : k < toks.length) (h2 : (peekP toks k).kind ≠ 2) (hn : (peekP toks k).kind ≠ 1 ∨ nameB (peekP toks k).word = false) {a : List Side} : sidesP (toks.drop k) a = (a, (atP toks k e, 41)) := by
  rw [(drop_peek (e := e) hk).1, sidesP, if_pos ⟨h2, hn⟩, (drop_peek (e := e) hk).2]
theorem sides_ok (hn : (peekP toks k).kind = 2 ∨ (peekP toks k).kind = 1 ∧ nameB (peekP toks k).word = true) : ¬ ((peekP toks k).kind ≠ 2 ∧ ((peekP toks k).kind ≠ 1 ∨ nameB (peekP toks k).word = false)) := by
  rintro ⟨h1, h2⟩
  rcases hn with hn | ⟨a, b⟩
  · exact h1 hn
  · rcases h2 with h2 | h2
    · exact h2 a
    · rw [b] at h2; cases h2
theorem sides_many (hk : k < toks.length) (hn : (peekP toks k).kind = 2 ∨ (peekP toks k).kind = 1 ∧ nameB (peekP toks k).word = true) {a : List Side} (h4 : a.length = 4) : sidesP (toks.drop k) a = (a, (atP toks k e, 45)) := by
  rw [(drop_peek (e := e) hk).1, sidesP, if_neg (sides_ok hn), if_pos h4, (drop_peek (e := e) hk).2]
theorem sides_more (hk : k < toks.length) (hn : (peekP toks k).kind = 2 ∨ (peekP toks k).kind = 1 ∧ nameB (peekP toks k).word = true) {a : List Side} (h4 : a.length ≠ 4) : sidesP (toks.drop k) a = sidesP (toks.drop (k + 1)) (a ++ [⟨(peekP toks k).word, (peekP toks k).n⟩]) := by
  rw [(drop_peek (e := 0) hk).1, sidesP, if_neg (sides_ok hn), if_neg h4]
theorem sides_end (hk : toks.length ≤ k) {a : List Side} : sidesP (toks.drop k) a = (a, (0, 0)) := by
  rw [List.drop_of_length_le hk]
  rfl
variable {p : Prog} {n : Nat} {over : Bool}
theorem i_many (hn : n = 64) : intoP toks e p n over = (p, (atP toks 0 e, 45)) := by rw [intoP, if_pos hn]
variable (hn : n ≠ 64)
include hn
theorem i_long (hl : 256 < toks.length) : intoP toks e p n over = (p, (atP toks 256 e, 45)) := by rw [intoP, if_neg hn, if_pos hl]
variable (hl : ¬ 256 < toks.length)
include hl
theorem i_place (h : over = true ∨ isW (peekP toks 0) [105, 110] = true ∧ p.lines ≠ []) : intoP toks e p n over = (p, (atP toks 0 e, 40)) := by rw [intoP, if_neg hn, if_neg hl, if_pos h]
variable (ho : over = false)
include ho
theorem i_in (hi : isW (peekP toks 0) [105, 110] = true) (h0 : p.lines = []) : intoP toks e p n over = (⟨p.inputs ++ [(inputP toks e).1], p.lines⟩, (inputP toks e).2) := by
  rw [intoP, if_neg hn, if_neg hl, if_neg (by rw [ho, h0]; simp), if_pos hi]
variable (hi : isW (peekP toks 0) [105, 110] = false)
include hi
theorem i_out (hu : isW (peekP toks 0) [111, 117, 116] = true) : intoP toks e p n over = (⟨p.inputs, p.lines ++ [(lineP toks e [] 1).1]⟩, (lineP toks e [] 1).2) := by
  rw [intoP, if_neg hn, if_neg hl, if_neg (by rw [ho, hi]; simp), if_neg (by rw [hi]; simp), if_pos hu]
variable (hu : isW (peekP toks 0) [111, 117, 116] = false)
include hu
theorem i_none (h : (peekP toks 0).kind ≠ 1 ∨ nameB (peekP toks 0).word = false) : intoP toks e p n over = (p, (atP toks 0 e, 40)) := by
  rw [intoP, if_neg hn, if_neg hl, if_neg (by rw [ho, hi]; simp), if_neg (by rw [hi]; simp), if_neg (by rw [hu]; simp), if_pos h]
variable (h1 : (peekP toks 0).kind = 1) (hm : nameB (peekP toks 0).word = true)
include h1 hm
theorem i_want (h : (peekP toks 1).kind ≠ 3 ∨ (peekP toks 1).word ≠ [58]) : intoP toks e p n over = (p, (atP toks 1 e, 42)) := by
  rw [intoP, if_neg hn, if_neg hl, if_neg (by rw [ho, hi]; simp), if_neg (by rw [hi]; simp), if_neg (by rw [hu]; simp), if_neg (by rw [h1, hm]; simp), if_pos h]
theorem i_line (h3 : (peekP toks 1).kind = 3) (hw : (peekP toks 1).word = [58]) : intoP toks e p n over = (⟨p.inputs, p.lines ++ [(lineP toks e (peekP toks 0).word 2).1]⟩, (lineP toks e (peekP toks 0).word 2).2) := by
  rw [intoP, if_neg hn, if_neg hl, if_neg (by rw [ho, hi]; simp), if_neg (by rw [hi]; simp), if_neg (by rw [hu]; simp), if_neg (by rw [h1, hm]; simp), if_neg (by rw [h3, hw]; simp)]
end
theorem into_ok {toks : List TokV} {e : Int} {p : Prog} {n : Nat} {over : Bool} (h : isOk (intoP toks e p n over).2 = true) : n ≠ 64 ∧ (intoP toks e p n over).1.inputs.length + (intoP toks e p n over).1.lines.length ≤ p.inputs.length + p.lines.length + 1 := by
  refine ⟨fun hn => ?_, ?_⟩
  · rw [i_many hn] at h
    simp [isOk, fltEq] at h
  · unfold intoP
    repeat' split
    all_goals (first | (simp; done) | (simp; omega))
theorem isW_ne {t : TokV} {w : Bs} (h : t.kind ≠ 1) : isW t w = false := by simp [isW, h]
theorem isW_is {t : TokV} {w : Bs} (h : t.kind = 1) (hw : t.word = w) : isW t w = true := by simp [isW, h, hw]
theorem isW_no {t : TokV} {w : Bs} (hw : t.word ≠ w) : isW t w = false := by simp [isW, hw]
theorem over_none {i : List Input} {l : List LineV} (h : ¬ 0 < l.length) : false = overP ⟨i, l.map LineV.ln⟩ := by
  have : l = [] := List.eq_nil_of_length_eq_zero (by omega)
  subst this
  rfl
theorem over_last {i : List Input} {l : List LineV} {x : LineV} (h : l[l.length - 1]? = some x) : (x.name == []) = overP ⟨i, l.map LineV.ln⟩ := by
  unfold overP
  dsimp only
  rw [List.getLast?_map, List.getLast?_eq_getElem?, h]
  rfl
theorem own_end {toks : List TokV} {n : Nat} (hn : n = (ownP toks).length) (h : toks.length ≤ n) : toks.drop n = toks.drop ((ownP toks).length + 1) := by
  rw [List.drop_of_length_le h, List.drop_of_length_le (by omega)]
theorem map_ne {α β : Type} {f : α → β} {l : List α} (h : 0 < l.length) : l.map f ≠ [] := fun e => by
  have : l = [] := List.map_eq_nil_iff.1 e
  subst this
  simp at h
theorem map_nil {α β : Type} {f : α → β} {l : List α} (h : ¬ 0 < l.length) : l.map f = [] := by
  have : l = [] := List.eq_nil_of_length_eq_zero (by omega)
  subst this
  rfl
/-- all that a program leads to -/
def progFct (x : ProgV) : Fact := ((inputE.sl (.slice x.inputs.addr x.inputs.list.length x.inputs.cap) x.inputs.list).and (inputsF x.inputs.list)).and ((lineE.sl (.slice x.lines.addr x.lines.list.length x.lines.cap) x.lines.list).and (linesF x.lines.list))
theorem lexGo_len : ∀ (f i : Nat) (s : Bs) (out : List Tok), (lexGo f i s out).1.length ≤ out.length + s.length
  | 0, _, _, out => by simp [lexGo]
  | _ + 1, _, [], out => by simp [lexGo]
  | f + 1, i, b :: r, out => by
    unfold lexGo
    split
    · have := lexGo_len f (i + 1) r out
      simp only [List.length_cons]
      omega
    · split
      · have := lexGo_len f (i + runB (· != 10) (b :: r)) ((b :: r).drop (runB (· != 10) (b :: r))) out
        rw [List.length_drop] at this
        omega
      · split
        · simp
        · rename_i k wd v m ht
          have h1 := lexGo_len f (i + m) ((b :: r).drop m) (out ++ [⟨k, i, wd, v⟩])
          have h2 := tokenP_len ht
          simp only [List.length_append, List.length_drop, List.length_cons, List.length_nil] at h1 h2 ⊢
          omega
theorem lex_count (s : Bs) : (lexP s).1.length ≤ 65536 := by
  unfold lexP
  split
  · simp
  · have := lexGo_len s.length 0 s []
    simp only [List.length_nil] at this
    omega
theorem own_tok {toks : List TokV} (h : ∀ t ∈ toks, TokOk t) : ∀ t ∈ ownP toks, TokOk t := fun t ht => h t (List.mem_of_mem_take (by rw [own_take]; exact ht))
theorem p_start {text : Bs} {r : Prog × Flt} (hR : parseP text = r) (h : isOk (lexP text).2 = true) : PInv r text.length (lexP text).1 ⟨[], []⟩ 0 false := ⟨_, Nat.le_refl _, by rw [← hR, parseP, if_pos h]⟩
theorem p_lexed {text : Bs} {r : Prog × Flt} (hR : parseP text = r) (h : isOk (lexP text).2 = false) : r = (⟨[], []⟩, (lexP text).2) := by rw [← hR, parseP, if_neg (by rw [h]; simp)]
theorem len_ne {α : Type} {l : List α} (h : 0 < l.length) : l ≠ [] := List.length_pos_iff.1 h
theorem len_nil {α : Type} {l : List α} (h : ((l.length : Nat) : Int) = 0) : l = [] := List.eq_nil_of_length_eq_zero (by omega)
theorem input_zero_api_Input : (Tryz.prog.info? 59).bind (·.zero) = some (.agg #[.string (bs []), .int .i64 0, .slice none 0 0]) := by kernel_rfl
theorem input_zero_api_Fault : (Tryz.prog.info? 32).bind (·.zero) = some (.agg #[.int .i64 0, .int .i64 0]) := by kernel_rfl
theorem input_built_api_Input_10 (s0 : ByteArray) (z1 : Int) : Tryz.prog.built 59 [(1, .int .i64 z1), (0, .string s0)] = some #[.string s0, .int .i64 z1, .slice none 0 0] := by kernel_rfl
theorem input_zero_api_Token : (Tryz.prog.info? 54).bind (·.zero) = some (.agg #[.int .i64 0, .int .i64 0, .string (bs []), .int .i64 0]) := by kernel_rfl
theorem input_built_api_Side_01 (s0 : ByteArray) (z1 : Int) : Tryz.prog.built 61 [(0, .string s0), (1, .int .i64 z1)] = some #[.string s0, .int .i64 z1] := by kernel_rfl
theorem input_built_api_Fault_  : Tryz.prog.built 32 [] = some #[.int .i64 0, .int .i64 0] := by kernel_rfl
theorem input_built_api_Line_1 (z1 : Int) : Tryz.prog.built 42 [(1, .int .i64 z1)] = some #[.string (bs []), .int .i64 z1, .slice none 0 0] := by kernel_rfl
theorem input_zero_api_Line : (Tryz.prog.info? 42).bind (·.zero) = some (.agg #[.string (bs []), .int .i64 0, .slice none 0 0]) := by kernel_rfl

set_option maxRecDepth 100000 in
theorem input_spec (bl : Nat) (A : Option Addr) (c : Nat) (toks : List TokV) (k0 : Nat) (e : Int) (h0 : 0 < toks.length) (hl : toks.length ≤ 1000) (hw : ∀ k, (peekP toks k).word.length ≤ 65536) : Spec Tryz.prog 34 [.pointer (some ⟨bl, 0, none⟩)] [.obj bl (.cells [.slice A toks.length c, .int .i64 (k0 : Nat), .int .i64 e].toArray 52)] [tokE.sl (.slice A toks.length c) toks, globF] (fun (x : InputV × Nat) => .tuple #[.agg #[.string (bs x.1.name), .int .i64 x.1.at_, .slice x.1.sides.addr x.1.sides.list.length x.1.sides.cap], .agg #[.int .i64 (inputP toks e).2.1, .int .i64 (inputP toks e).2.2]]) (fun (x : InputV × Nat) => [.obj bl (.cells [.slice A toks.length c, .int .i64 (x.2 : Nat), .int .i64 e].toArray 52)]) (fun (x : InputV × Nat) => [sidesFct x.1, Fact.pure (x.1.inp = (inputP toks e).1)]) := by
  have hT := showT_ok
  generalize hR : inputP toks e = r
  refine spec_of Tryz.func34 rfl Tryz.ntmps34 rfl ?_
  intro β hM
  refine sr ?_
  refine at_alloc rfl rfl rfl rfl input_zero_api_Input rfl fun b1 => ?_
  refine at_alloc rfl rfl rfl rfl input_zero_api_Fault rfl fun b2 => ?_
  refine nn ?_
  refine sr ?_
  refine sp3 hT ?_
  refine sto hT kT2 ?_
  refine nn ?_
  refine sr ?_
  refine sp hT ?_
  refine at_call (callFunc_enter Tryz.func51 rfl rfl) (at_spec bl A c toks (1) e) rfl rfl rfl rfl rfl (.cons .head .nil) ⟨Has.of mT0, trivial⟩ fun _ => ?_
  refine sp hT ?_
  refine at_call (callFunc_enter Tryz.func32 rfl rfl) (peek_spec bl A c toks (1) e) rfl rfl rfl rfl rfl (.cons .head .nil) ⟨Has.of mT0, trivial⟩ fun _ => ?_
  refine sp hT ?_
  refine ss (sti_build rfl rfl (input_built_api_Input_10 _ _)) ?_
  refine at_alloc rfl rfl rfl rfl input_zero_api_Input rfl fun b3 => ?_
  refine sto hT .head ?_
  refine nn ?_
  refine at_seq ?_
  refine at_seq ?_
  refine at_mix _ _ [(true, 0), (true, 1), (true, 2), (true, 3), (true, 4), (true, 5), (true, 6), (true, 7), (true, 8), (true, 9)] mixes (by decide +kernel) (.cons .head (.cons .head (.cons .head (.cons .head .nil)))) HasAll.self ?_
  refine atm_sti rfl rfl rfl rfl (sti_pure hT rfl) ?_
  refine atm_sti rfl rfl rfl rfl (sti_pure hT rfl) ?_
  refine atm_sti rfl rfl rfl rfl (sti_pure hT rfl) ?_
  refine atm_sti rfl rfl rfl rfl (ldO hT (knows_own (off := 1) kT1)) ?_
  refine atm_sti rfl rfl rfl rfl (sti_pure hT rfl) ?_
  refine atm_sti rfl rfl rfl rfl (sti_pure hT rfl) ?_
  refine atm_sti rfl rfl rfl rfl (sti_pure hT rfl) ?_
  refine atm_sti rfl rfl rfl rfl (ldO hT (knows_own (off := 0) kT1)) ?_
  refine atm_sti rfl rfl rfl rfl (sti_pure hT rfl) ?_
  refine atm_sti rfl rfl rfl rfl (sti_pure hT rfl) ?_
  refine atm_nil ?_
  refine n_then ?_
  refine at_cond rfl (fun hc24 => ?_) (fun hc24 => ?_)
  · have hc24 := eq_of_beq hc24
    refine at_seq ?_
    refine at_mix _ _ [(true, 0), (true, 1), (false, 2), (false, 3), (false, 4)] mixes (by decide +kernel) (.cons .head (.cons .head .nil)) HasAll.self ?_
    refine atm_sti rfl rfl rfl rfl (ldN hT (knows_own (off := 0) .head)) ?_
    refine atm_sti rfl rfl rfl rfl (sti_pure hT rfl) ?_
    refine atm_op (o := _) rfl ?_
    refine at_call (callFunc_enter Tryz.func33 rfl rfl) (fault_spec bl A c toks (1) e _) rfl rfl rfl rfl rfl (.cons kT1 .nil) ⟨Has.of mT0, trivial⟩ fun _ => ?_
    refine atm_go (.cons kT1 (.cons .head .nil)) (HasAll.drop 0) ?_
    refine atm_op (o := _) rfl ?_
    refine sto hT kT3 ?_
    refine atm_go (.cons kT2 (.cons kT1 .nil)) (HasAll.drop 0) ?_
    refine atm_op (o := _) rfl ?_
    refine sto hT kT3 ?_
    refine atm_go (.cons kT3 (.cons kT2 .nil)) (HasAll.drop 0) ?_
    refine atm_nil ?_
    refine n_then ?_
    refine at_ret ?_
    refine r_then ?_
    have hr := hR.symm.trans (by rw [inputP, if_pos (by omega)])
    subst hr
    exact at_res2 (⟨(peekP toks 1).word, atP toks 1 e, ⟨none, 0, []⟩⟩, _) rfl (rv_cell hT (knows_own (off := 0) kT1) rfl rfl rfl rfl) (rv_cell hT (knows_own (off := 0) .head) rfl rfl rfl rfl) (.cons kT2 .nil) ⟨has_nil, Has.pure rfl, trivial⟩ rfl
  have hc24 := beq_eq_false_iff_ne.1 hc24
  refine at_skip ?_
  refine n_then ?_
  refine at_seq ?_
  refine sr ?_
  refine sp hT ?_
  refine at_call (callFunc_enter Tryz.func32 rfl rfl) (peek_spec bl A c toks (1) e) rfl rfl rfl rfl rfl (.cons kT1 .nil) ⟨Has.of mT0, trivial⟩ fun _ => ?_
  refine sp3 hT ?_
  refine at_case (fun hg32 => ?_) (fun hg32 => ?_)
  · have hg32 := bne_iff_ne.1 hg32
    refine sk4 ?_
    refine sp hT ?_
    refine nn ?_
    refine at_true rfl rfl ?_
    refine at_seq ?_
    refine at_mix _ _ [(true, 0), (true, 1), (false, 2), (false, 3), (false, 4)] mixes (by decide +kernel) (.cons .head (.cons .head .nil)) HasAll.self ?_
    refine atm_sti rfl rfl rfl rfl (ldN hT (knows_own (off := 0) kT1)) ?_
    refine atm_sti rfl rfl rfl rfl (sti_pure hT rfl) ?_
    refine atm_op (o := _) rfl ?_
    refine at_call (callFunc_enter Tryz.func33 rfl rfl) (fault_spec bl A c toks (1) e _) rfl rfl rfl rfl rfl (.cons .head .nil) ⟨Has.of mT0, trivial⟩ fun _ => ?_
    refine atm_go (.cons .head (.cons .head .nil)) (HasAll.drop 0) ?_
    refine atm_op (o := _) rfl ?_
    refine sto hT kT3 ?_
    refine atm_go (.cons kT1 (.cons kT1 .nil)) (HasAll.drop 0) ?_
    refine atm_op (o := _) rfl ?_
    refine sto hT kT3 ?_
    refine atm_go (.cons kT2 (.cons kT2 .nil)) (HasAll.drop 0) ?_
    refine atm_nil ?_
    refine n_then ?_
    refine at_ret ?_
    refine r_then ?_
    have hr := hR.symm.trans (by rw [inputP, if_neg (by omega), if_pos (by first | exact .inl (by assumption) | exact .inr (by assumption))])
    subst hr
    exact at_res2 (⟨(peekP toks 1).word, atP toks 1 e, ⟨none, 0, []⟩⟩, _) rfl (rv_cell hT (knows_own (off := 0) kT1) rfl rfl rfl rfl) (rv_cell hT (knows_own (off := 0) .head) rfl rfl rfl rfl) (.cons kT2 .nil) ⟨has_nil, Has.pure rfl, trivial⟩ rfl
  have hg32 := bne_eq_false_iff_eq.1 hg32
  refine sp hT ?_
  refine ss (ldO hT (knows_own (off := 0) kT1)) ?_
  refine at_call (callFunc_enter Tryz.func35 rfl rfl) (Name_spec _ (Nat.le_trans (hw _) (by decide))) rfl rfl rfl rfl rfl .nil ⟨Has.of mT1, trivial⟩ fun _ => ?_
  refine sp2 hT ?_
  refine nn ?_
  refine at_cond rfl (fun hc37 => ?_) (fun hc37 => ?_)
  · have hc37 := not_t hc37
    refine at_seq ?_
    refine at_mix _ _ [(true, 0), (true, 1), (false, 2), (false, 3), (false, 4)] mixes (by decide +kernel) (.cons .head (.cons .head .nil)) HasAll.self ?_
    refine atm_sti rfl rfl rfl rfl (ldN hT (knows_own (off := 0) kT1)) ?_
    refine atm_sti rfl rfl rfl rfl (sti_pure hT rfl) ?_
    refine atm_op (o := _) rfl ?_
    refine at_call (callFunc_enter Tryz.func33 rfl rfl) (fault_spec bl A c toks (1) e _) rfl rfl rfl rfl rfl (.cons .head .nil) ⟨Has.of mT0, trivial⟩ fun _ => ?_
    refine atm_go (.cons .head (.cons .head .nil)) (HasAll.drop 0) ?_
    refine atm_op (o := _) rfl ?_
    refine sto hT kT3 ?_
    refine atm_go (.cons kT1 (.cons kT1 .nil)) (HasAll.drop 0) ?_
    refine atm_op (o := _) rfl ?_
    refine sto hT kT3 ?_
    refine atm_go (.cons kT2 (.cons kT2 .nil)) (HasAll.drop 0) ?_
    refine atm_nil ?_
    refine n_then ?_
    refine at_ret ?_
    refine r_then ?_
    have hr := hR.symm.trans (by rw [inputP, if_neg (by omega), if_pos (by first | exact .inl (by assumption) | exact .inr (by assumption))])
    subst hr
    exact at_res2 (⟨(peekP toks 1).word, atP toks 1 e, ⟨none, 0, []⟩⟩, _) rfl (rv_cell hT (knows_own (off := 0) kT1) rfl rfl rfl rfl) (rv_cell hT (knows_own (off := 0) .head) rfl rfl rfl rfl) (.cons kT2 .nil) ⟨has_nil, Has.pure rfl, trivial⟩ rfl
  have hc37 := not_f hc37
  refine at_skip ?_
  refine n_then ?_
  refine at_seq ?_
  refine sr ?_
  refine sp3 hT ?_
  refine sto hT .head ?_
  refine nn ?_
  refine at_block ?_
  refine at_nilrow' (t := 61) sideE ?_
  refine at_loop2 (ι := Nat × List SideV × Option Addr × Nat) [(0, _), (2, _), (3, _), (4, _)] ⟨rfl, rfl, rfl, rfl, trivial⟩ (fun _ => []) (fun ⟨k, sides, S, c2⟩ => [.obj bl (.cells [.slice A toks.length c, .int .i64 (k : Nat), .int .i64 e].toArray 52), .obj b3 (.cells [.string (bs (peekP toks 1).word), .int .i64 (atP toks 1 e), .slice S sides.length c2].toArray 59), sideE.row (.slice S sides.length c2) 61 sides]) (fun ⟨k, sides, S, c2⟩ => [Fact.pure (sidesP (toks.drop k) (sides.map SideV.sd) = sidesP (toks.drop 2) [] ∧ k ≤ toks.length ∧ sides.length ≤ 4)]) (fun ⟨k, sides, S, c2⟩ => toks.length - k) (2, [], none, 0) trivial (.cons kT1 (.cons kT1 (.cons .head .nil))) ⟨Has.pure (⟨rfl, kind_lt (toks := toks) (k := 1) (by omega), by simp⟩), trivial⟩ ?_
  rintro ⟨k, sides, S, c2⟩
  dsimp only
  refine at_know (Has.of mT0) fun hinv8 => ?_
  refine at_seq ?_
  refine at_seq ?_
  refine at_mix _ _ [(true, 0), (true, 1), (true, 2), (true, 3), (true, 4), (true, 5), (true, 6), (true, 7), (true, 8), (true, 9)] mixes (by decide +kernel) (.cons .head (.cons .head (.cons .head (.cons .head (.cons .head .nil))))) HasAll.self ?_
  refine atm_sti rfl rfl rfl rfl (sti_pure hT rfl) ?_
  refine atm_sti rfl rfl rfl rfl (sti_pure hT rfl) ?_
  refine atm_sti rfl rfl rfl rfl (sti_pure hT rfl) ?_
  refine atm_sti rfl rfl rfl rfl (ldO hT (knows_own (off := 1) .head)) ?_
  refine atm_sti rfl rfl rfl rfl (sti_pure hT rfl) ?_
  refine atm_sti rfl rfl rfl rfl (sti_pure hT rfl) ?_
  refine atm_sti rfl rfl rfl rfl (sti_pure hT rfl) ?_
  refine atm_sti rfl rfl rfl rfl (ldO hT (knows_own (off := 0) .head)) ?_
  refine atm_sti rfl rfl rfl rfl (sti_pure hT rfl) ?_
  refine atm_sti rfl rfl rfl rfl (sti_pure hT rfl) ?_
  refine atm_nil ?_
  refine n_then ?_
  refine at_cond rfl (fun hc53 => ?_) (fun hc53 => ?_)
  · have hc53 := of_decide_eq_true hc53
    refine at_skip ?_
    refine n_then ?_
    refine at_seq ?_
    refine at_block ?_
    refine sr ?_
    refine sp hT ?_
    refine at_call (callFunc_enter Tryz.func32 rfl rfl) (peek_spec bl A c toks (k) e) rfl rfl rfl rfl rfl (.cons .head .nil) ⟨Has.of mT1, trivial⟩ fun _ => ?_
    refine at_alloc rfl rfl rfl rfl input_zero_api_Token rfl fun b4 => ?_
    refine sto hT .head ?_
    refine nn ?_
    refine at_seq ?_
    refine sr ?_
    refine sp hT ?_
    refine ss (ldO hT (knows_own (off := 0) .head)) ?_
    refine sp2 hT ?_
    refine at_case (fun hg66 => ?_) (fun hg66 => ?_)
    · have hg66 := bne_iff_ne.1 hg66
      refine sp hT ?_
      refine ss (ldO hT (knows_own (off := 0) .head)) ?_
      refine sp2 hT ?_
      refine at_case (fun hg70 => ?_) (fun hg70 => ?_)
      · have hg70 := bne_iff_ne.1 hg70
        refine sk4 ?_
        refine sp2 hT ?_
        refine nn ?_
        refine at_true rfl rfl ?_
        refine at_seq ?_
        refine at_mix _ _ [(true, 0), (true, 1), (false, 2), (false, 3), (false, 4)] mixes (by decide +kernel) (.cons .head (.cons .head (.cons .head (.cons .head .nil)))) HasAll.self ?_
        refine atm_sti rfl rfl rfl rfl (ldN hT (knows_own (off := 0) kT2)) ?_
        refine atm_sti rfl rfl rfl rfl (sti_pure hT rfl) ?_
        refine atm_op (o := _) rfl ?_
        refine at_call (callFunc_enter Tryz.func33 rfl rfl) (fault_spec bl A c toks (k) e _) rfl rfl rfl rfl rfl (.cons kT1 .nil) ⟨Has.of mT1, trivial⟩ fun _ => ?_
        refine atm_go (.cons kT1 (.cons .head (.cons .head (.cons .head .nil)))) (HasAll.drop 0) ?_
        refine atm_op (o := _) rfl ?_
        refine sto hT kT5 ?_
        refine atm_go (.cons kT2 (.cons kT1 (.cons kT1 (.cons kT1 .nil)))) (HasAll.drop 0) ?_
        refine atm_op (o := _) rfl ?_
        refine sto hT kT5 ?_
        refine atm_go (.cons kT3 (.cons kT2 (.cons kT2 (.cons kT2 .nil)))) (HasAll.drop 0) ?_
        refine atm_nil ?_
        refine n_then ?_
        refine at_ret ?_
        refine r_then ?_
        refine r_block ?_
        refine r_then ?_
        refine r_then ?_
        refine r_block ?_
        refine r_then ?_
        have hr := hR.symm.trans (by rw [inputP, if_neg (by omega), if_neg (by rintro (h | h) <;> simp_all), ← hinv8.1, sides_bad (e := e) (by omega) (by assumption) (by first | exact .inl (by assumption) | exact .inr (by assumption))])
        subst hr
        refine at_freeze kT5 ?_
        exact at_res2 (⟨(peekP toks 1).word, atP toks 1 e, ⟨_, _, sides⟩⟩, _) rfl (rv_cell hT (knows_own (off := 0) kT1) rfl rfl rfl rfl) (rv_cell hT (knows_own (off := 0) .head) rfl rfl rfl rfl) (.cons kT2 .nil) ⟨Has.of mT0, Has.pure rfl, trivial⟩ rfl
      have hg70 := bne_eq_false_iff_eq.1 hg70
      refine sp hT ?_
      refine ss (ldO hT (knows_own (off := 2) .head)) ?_
      refine at_call (callFunc_enter Tryz.func35 rfl rfl) (Name_spec _ (Nat.le_trans (hw _) (by decide))) rfl rfl rfl rfl rfl .nil ⟨Has.of mT2, trivial⟩ fun _ => ?_
      refine sp3 hT ?_
      refine nn ?_
      refine at_cond rfl (fun hc76 => ?_) (fun hc76 => ?_)
      · have hc76 := not_t hc76
        refine at_seq ?_
        refine at_mix _ _ [(true, 0), (true, 1), (false, 2), (false, 3), (false, 4)] mixes (by decide +kernel) (.cons .head (.cons .head (.cons .head (.cons .head .nil)))) HasAll.self ?_
        refine atm_sti rfl rfl rfl rfl (ldN hT (knows_own (off := 0) kT2)) ?_
        refine atm_sti rfl rfl rfl rfl (sti_pure hT rfl) ?_
        refine atm_op (o := _) rfl ?_
        refine at_call (callFunc_enter Tryz.func33 rfl rfl) (fault_spec bl A c toks (k) e _) rfl rfl rfl rfl rfl (.cons kT1 .nil) ⟨Has.of mT1, trivial⟩ fun _ => ?_
        refine atm_go (.cons kT1 (.cons .head (.cons .head (.cons .head .nil)))) (HasAll.drop 0) ?_
        refine atm_op (o := _) rfl ?_
        refine sto hT kT5 ?_
        refine atm_go (.cons kT2 (.cons kT1 (.cons kT1 (.cons kT1 .nil)))) (HasAll.drop 0) ?_
        refine atm_op (o := _) rfl ?_
        refine sto hT kT5 ?_
        refine atm_go (.cons kT3 (.cons kT2 (.cons kT2 (.cons kT2 .nil)))) (HasAll.drop 0) ?_
        refine atm_nil ?_
        refine n_then ?_
        refine at_ret ?_
        refine r_then ?_
        refine r_block ?_
        refine r_then ?_
        refine r_then ?_
        refine r_block ?_
        refine r_then ?_
        have hr := hR.symm.trans (by rw [inputP, if_neg (by omega), if_neg (by rintro (h | h) <;> simp_all), ← hinv8.1, sides_bad (e := e) (by omega) (by assumption) (by first | exact .inl (by assumption) | exact .inr (by assumption))])
        subst hr
        refine at_freeze kT5 ?_
        exact at_res2 (⟨(peekP toks 1).word, atP toks 1 e, ⟨_, _, sides⟩⟩, _) rfl (rv_cell hT (knows_own (off := 0) kT1) rfl rfl rfl rfl) (rv_cell hT (knows_own (off := 0) .head) rfl rfl rfl rfl) (.cons kT2 .nil) ⟨Has.of mT0, Has.pure rfl, trivial⟩ rfl
      have hc76 := not_f hc76
      refine at_skip ?_
      refine n_then ?_
      refine at_seq ?_
      refine sr ?_
      refine sp hT ?_
      refine ss (ldO hT (knows_own (off := 2) kT2)) ?_
      refine sp2 hT ?_
      refine nn ?_
      refine at_cond rfl (fun hc83 => ?_) (fun hc83 => ?_)
      · have hc83 := eq_of_beq hc83
        refine at_seq ?_
        refine at_mix _ _ [(true, 0), (true, 1), (false, 2), (false, 3), (false, 4)] mixes (by decide +kernel) (.cons .head (.cons .head (.cons .head (.cons .head .nil)))) HasAll.self ?_
        refine atm_sti rfl rfl rfl rfl (ldN hT (knows_own (off := 0) kT2)) ?_
        refine atm_sti rfl rfl rfl rfl (sti_pure hT rfl) ?_
        refine atm_op (o := _) rfl ?_
        refine at_call (callFunc_enter Tryz.func33 rfl rfl) (fault_spec bl A c toks (k) e _) rfl rfl rfl rfl rfl (.cons kT1 .nil) ⟨Has.of mT1, trivial⟩ fun _ => ?_
        refine atm_go (.cons kT1 (.cons .head (.cons .head (.cons .head .nil)))) (HasAll.drop 0) ?_
        refine atm_op (o := _) rfl ?_
        refine sto hT kT5 ?_
        refine atm_go (.cons kT2 (.cons kT1 (.cons kT1 (.cons kT1 .nil)))) (HasAll.drop 0) ?_
        refine atm_op (o := _) rfl ?_
        refine sto hT kT5 ?_
        refine atm_go (.cons kT3 (.cons kT2 (.cons kT2 (.cons kT2 .nil)))) (HasAll.drop 0) ?_
        refine atm_nil ?_
        refine n_then ?_
        refine at_ret ?_
        refine r_then ?_
        refine r_block ?_
        refine r_then ?_
        refine r_then ?_
        refine r_block ?_
        refine r_then ?_
        have hr := hR.symm.trans (by rw [inputP, if_neg (by omega), if_neg (by rintro (h | h) <;> simp_all), ← hinv8.1, sides_many (e := e) (by omega) (by first | exact .inl (by assumption) | exact .inr ⟨by assumption, by assumption⟩) (by simp; omega)])
        subst hr
        refine at_freeze kT5 ?_
        exact at_res2 (⟨(peekP toks 1).word, atP toks 1 e, ⟨_, _, sides⟩⟩, _) rfl (rv_cell hT (knows_own (off := 0) kT1) rfl rfl rfl rfl) (rv_cell hT (knows_own (off := 0) .head) rfl rfl rfl rfl) (.cons kT2 .nil) ⟨Has.of mT0, Has.pure rfl, trivial⟩ rfl
      have hc83 := beq_eq_false_iff_ne.1 hc83
      refine at_skip ?_
      refine n_then ?_
      refine at_region ?_
      refine sp hT ?_
      refine ss (ldO hT (knows_own (off := 2) kT2)) ?_
      refine sp hT ?_
      refine ss (ldO hT (knows_own (off := 2) .head)) ?_
      refine sp hT ?_
      refine ss (ldO hT (knows_own (off := 3) .head)) ?_
      refine ss (sti_build rfl rfl (input_built_api_Side_01 _ _)) ?_
      refine at_one_side (m := ⟨_, _⟩) rfl rfl rfl rfl rfl fun b5 => ?_
      refine at_app_side kT4 (reads_obj .head rfl) rfl rfl rfl rfl rfl rfl rfl (by simp only [List.length_singleton]; omega) fun A6 c7 => ?_
      refine sp hT ?_
      refine sto hT kT4 ?_
      refine at_nil ?_
      refine n_block ?_
      refine n_then ?_
      refine at_region ?_
      refine sp3 hT ?_
      refine ss (ldO hT (knows_own (off := 1) kT4)) ?_
      refine sp hT ?_
      refine at_int (z' := (((k + 1) : Nat) : Int)) (wrapN (by omega) (by omega)) ?_
      refine sp2 hT ?_
      refine sto hT kT4 ?_
      refine nn ?_
      exact at_back2 (k + 1, sides ++ [⟨(peekP toks k).word, (peekP toks k).n⟩], _, _) (by dsimp only; omega) trivial ⟨rfl, rfl, rfl, rfl, trivial⟩ (.cons .head (.cons .head (.cons .head (.cons kT2 (.cons kT2 .nil))))) ⟨Has.pure (⟨by rw [← hinv8.1, List.map_append]; exact (sides_more (by omega) (by first | exact .inl (by assumption) | exact .inr ⟨by assumption, by assumption⟩) (by simp; omega)).symm, by dsimp only; omega, by simp; omega⟩), trivial⟩ (HasAll.drop 1)
    have hg66 := bne_eq_false_iff_eq.1 hg66
    refine sk4 ?_
    refine sk4 ?_
    refine sk ?_
    refine sp hT ?_
    refine nn ?_
    refine at_false rfl rfl ?_
    refine at_skip ?_
    refine n_then ?_
    refine at_seq ?_
    refine sr ?_
    refine sp hT ?_
    refine ss (ldO hT (knows_own (off := 2) kT2)) ?_
    refine sp2 hT ?_
    refine nn ?_
    refine at_cond rfl (fun hc83 => ?_) (fun hc83 => ?_)
    · have hc83 := eq_of_beq hc83
      refine at_seq ?_
      refine at_mix _ _ [(true, 0), (true, 1), (false, 2), (false, 3), (false, 4)] mixes (by decide +kernel) (.cons .head (.cons .head (.cons .head (.cons .head .nil)))) HasAll.self ?_
      refine atm_sti rfl rfl rfl rfl (ldN hT (knows_own (off := 0) kT2)) ?_
      refine atm_sti rfl rfl rfl rfl (sti_pure hT rfl) ?_
      refine atm_op (o := _) rfl ?_
      refine at_call (callFunc_enter Tryz.func33 rfl rfl) (fault_spec bl A c toks (k) e _) rfl rfl rfl rfl rfl (.cons kT1 .nil) ⟨Has.of mT1, trivial⟩ fun _ => ?_
      refine atm_go (.cons kT1 (.cons .head (.cons .head (.cons .head .nil)))) (HasAll.drop 0) ?_
      refine atm_op (o := _) rfl ?_
      refine sto hT kT5 ?_
      refine atm_go (.cons kT2 (.cons kT1 (.cons kT1 (.cons kT1 .nil)))) (HasAll.drop 0) ?_
      refine atm_op (o := _) rfl ?_
      refine sto hT kT5 ?_
      refine atm_go (.cons kT3 (.cons kT2 (.cons kT2 (.cons kT2 .nil)))) (HasAll.drop 0) ?_
      refine atm_nil ?_
      refine n_then ?_
      refine at_ret ?_
      refine r_then ?_
      refine r_block ?_
      refine r_then ?_
      refine r_then ?_
      refine r_block ?_
      refine r_then ?_
      have hr := hR.symm.trans (by rw [inputP, if_neg (by omega), if_neg (by rintro (h | h) <;> simp_all), ← hinv8.1, sides_many (e := e) (by omega) (by first | exact .inl (by assumption) | exact .inr ⟨by assumption, by assumption⟩) (by simp; omega)])
      subst hr
      refine at_freeze kT5 ?_
      exact at_res2 (⟨(peekP toks 1).word, atP toks 1 e, ⟨_, _, sides⟩⟩, _) rfl (rv_cell hT (knows_own (off := 0) kT1) rfl rfl rfl rfl) (rv_cell hT (knows_own (off := 0) .head) rfl rfl rfl rfl) (.cons kT2 .nil) ⟨Has.of mT0, Has.pure rfl, trivial⟩ rfl
    have hc83 := beq_eq_false_iff_ne.1 hc83
    refine at_skip ?_
    refine n_then ?_
    refine at_region ?_
    refine sp hT ?_
    refine ss (ldO hT (knows_own (off := 2) kT2)) ?_
    refine sp hT ?_
    refine ss (ldO hT (knows_own (off := 2) .head)) ?_
    refine sp hT ?_
    refine ss (ldO hT (knows_own (off := 3) .head)) ?_
    refine ss (sti_build rfl rfl (input_built_api_Side_01 _ _)) ?_
    refine at_one_side (m := ⟨_, _⟩) rfl rfl rfl rfl rfl fun b8 => ?_
    refine at_app_side kT4 (reads_obj .head rfl) rfl rfl rfl rfl rfl rfl rfl (by simp only [List.length_singleton]; omega) fun A9 c10 => ?_
    refine sp hT ?_
    refine sto hT kT4 ?_
    refine at_nil ?_
    refine n_block ?_
    refine n_then ?_
    refine at_region ?_
    refine sp3 hT ?_
    refine ss (ldO hT (knows_own (off := 1) kT4)) ?_
    refine sp hT ?_
    refine at_int (z' := (((k + 1) : Nat) : Int)) (wrapN (by omega) (by omega)) ?_
    refine sp2 hT ?_
    refine sto hT kT4 ?_
    refine nn ?_
    exact at_back2 (k + 1, sides ++ [⟨(peekP toks k).word, (peekP toks k).n⟩], _, _) (by dsimp only; omega) trivial ⟨rfl, rfl, rfl, rfl, trivial⟩ (.cons .head (.cons .head (.cons .head (.cons kT2 (.cons kT2 .nil))))) ⟨Has.pure (⟨by rw [← hinv8.1, List.map_append]; exact (sides_more (by omega) (by first | exact .inl (by assumption) | exact .inr ⟨by assumption, by assumption⟩) (by simp; omega)).symm, by dsimp only; omega, by simp; omega⟩), trivial⟩ (HasAll.drop 1)
  have hc53 := Int.not_lt.1 (of_decide_eq_false hc53)
  refine at_exit ?_
  refine x_then ?_
  refine x_then ?_
  refine x_block ?_
  refine n_then ?_
  refine sr ?_
  refine ss (ldN hT (knows_own (off := 0) kT1)) ?_
  refine ss (sti_build rfl rfl (input_built_api_Fault_)) ?_
  refine sto hT kT4 ?_
  refine sto hT kT4 ?_
  refine nn ?_
  refine at_ret ?_
  have hr := hR.symm.trans (by rw [inputP, if_neg (by omega), if_neg (by rintro (h | h) <;> simp_all), ← hinv8.1, sides_end (by omega)])
  subst hr
  refine at_freeze kT4 ?_
  exact at_res2 (⟨(peekP toks 1).word, atP toks 1 e, ⟨_, _, sides⟩⟩, _) rfl (rv_cell hT (knows_own (off := 0) kT1) rfl rfl rfl rfl) (rv_cell hT (knows_own (off := 0) .head) rfl rfl rfl rfl) (.cons kT2 .nil) ⟨Has.of mT0, Has.pure rfl, trivial⟩ rfl

set_option maxRecDepth 100000 in
theorem into_spec (bl : Nat) (A : Option Addr) (c : Nat) (toks : List TokV) (e : Int) (bp : Nat) (I : Option Addr) (ci : Nat) (ins : List InputV) (J : Option Addr) (cj : Nat) (lns : List LineV) (n : Nat) (over : Bool) (h0 : 0 < toks.length) (hn : n ≤ 64) (hil : ins.length + lns.length ≤ n) (hw : ∀ k, (peekP toks k).word.length ≤ 65536) : Spec Tryz.prog 21 [.pointer (some ⟨bl, 0, none⟩), .pointer (some ⟨bp, 0, none⟩), .int .i64 (n : Nat), .bool over] [.obj bl (.cells [.slice A toks.length c, .int .i64 (0 : Nat), .int .i64 e].toArray 52), .obj bp (.cells [.slice I ins.length ci, .slice J lns.length cj].toArray 25), inputE.row (.slice I ins.length ci) 59 ins, lineE.row (.slice J lns.length cj) 42 lns] [tokE.sl (.slice A toks.length c) toks, globF, inputsF ins, linesF lns] (fun (_ : List InputV × List LineV × (Option Addr × Nat) × (Option Addr × Nat) × Nat) => .agg #[.int .i64 (intoP toks e ⟨ins.map InputV.inp, lns.map LineV.ln⟩ n over).2.1, .int .i64 (intoP toks e ⟨ins.map InputV.inp, lns.map LineV.ln⟩ n over).2.2]) (fun (x : List InputV × List LineV × (Option Addr × Nat) × (Option Addr × Nat) × Nat) => [.obj bl (.cells [.slice A toks.length c, .int .i64 (x.2.2.2.2 : Nat), .int .i64 e].toArray 52), .obj bp (.cells [.slice x.2.2.1.1 x.1.length x.2.2.1.2, .slice x.2.2.2.1.1 x.2.1.length x.2.2.2.1.2].toArray 25), inputE.row (.slice x.2.2.1.1 x.1.length x.2.2.1.2) 59 x.1, lineE.row (.slice x.2.2.2.1.1 x.2.1.length x.2.2.2.1.2) 42 x.2.1]) (fun (x : List InputV × List LineV × (Option Addr × Nat) × (Option Addr × Nat) × Nat) => [inputsF x.1, linesF x.2.1, Fact.pure ((⟨x.1.map InputV.inp, x.2.1.map LineV.ln⟩ : Prog) = (intoP toks e ⟨ins.map InputV.inp, lns.map LineV.ln⟩ n over).1)]) := by
  have hT := showT_ok
  generalize hR : intoP toks e ⟨ins.map InputV.inp, lns.map LineV.ln⟩ n over = r
  refine spec_of Tryz.func21 rfl Tryz.ntmps21 rfl ?_
  intro β hM
  refine sr ?_
  refine at_alloc rfl rfl rfl rfl input_zero_api_Fault rfl fun b1 => ?_
  refine nn ?_
  refine sr ?_
  refine sp hT ?_
  refine at_call (callFunc_enter Tryz.func32 rfl rfl) (peek_spec bl A c toks (0) e) rfl rfl rfl rfl rfl (.cons kT1 .nil) ⟨Has.of mT0, trivial⟩ fun _ => ?_
  refine at_alloc rfl rfl rfl rfl input_zero_api_Token rfl fun b2 => ?_
  refine sto hT .head ?_
  refine nn ?_
  refine at_seq ?_
  refine at_mix _ _ [(true, 0), (true, 1), (true, 2), (true, 3), (true, 4), (true, 5), (true, 6), (true, 7), (true, 8), (true, 9), (true, 10), (true, 11), (true, 12), (true, 13), (true, 14), (true, 15), (true, 16), (true, 17)] mixes (by decide +kernel) (.cons .head (.cons .head (.cons .head (.cons .head (.cons .head (.cons .head .nil)))))) HasAll.self ?_
  refine atm_sti rfl rfl rfl rfl (sti_pure hT rfl) ?_
  refine atm_sti rfl rfl rfl rfl (ldO hT (knows_own (off := 0) .head)) ?_
  refine atm_sti rfl rfl rfl rfl (sti_pure hT rfl) ?_
  refine atm_sti rfl rfl rfl rfl (sti_pure hT rfl) ?_
  refine at_case (fun hg20 => ?_) (fun hg20 => ?_)
  · have hg20 := eq_of_beq hg20
    refine atm_sti rfl rfl rfl rfl (sti_pure hT rfl) ?_
    refine atm_sti rfl rfl rfl rfl (ldO hT (knows_own (off := 2) .head)) ?_
    refine atm_sti rfl rfl rfl rfl (sti_pure hT rfl) ?_
    refine atm_sti rfl rfl rfl rfl (sti_pure hT rfl) ?_
    refine atm_sti rfl rfl rfl rfl (sti_pure hT rfl) ?_
    refine atm_sti rfl rfl rfl rfl (ldO hT (knows_own (off := 0) .head)) ?_
    refine atm_sti rfl rfl rfl rfl (sti_pure hT rfl) ?_
    refine at_bool (t' := true) (by rw [hg20]; rfl) ?_
    refine atm_sti rfl rfl rfl rfl (sti_pure hT rfl) ?_
    refine atm_sti rfl rfl rfl rfl (sti_pure hT rfl) ?_
    refine atm_sti rfl rfl rfl rfl (ldO hT (knows_own (off := 2) .head)) ?_
    refine atm_sti rfl rfl rfl rfl (sti_pure hT rfl) ?_
    refine atm_sti rfl rfl rfl rfl (sti_pure hT rfl) ?_
    refine atm_sti rfl rfl rfl rfl (sti_pure hT rfl) ?_
    refine at_case (fun hg10 => ?_) (fun hg10 => ?_)
    · have hg10 : (peekP toks (0)).word = ([105, 110] : Bs) := eq_of_beq hg10
      have hin := isW_is (t := peekP toks 0) (w := [105, 110]) (by assumption) (by assumption)
      refine atm_sti rfl rfl rfl rfl (sti_pure hT rfl) ?_
      refine at_case (fun hg11 => ?_) (fun hg11 => ?_)
      · have hg11 : (peekP toks (0)).word = ([111, 117, 116] : Bs) := eq_of_beq hg11
        have hout := isW_is (t := peekP toks 0) (w := [111, 117, 116]) (by assumption) (by assumption)
        refine atm_nil ?_
        refine n_then ?_
        refine at_seq ?_
        refine at_block ?_
        refine sr ?_
        refine sp3 hT ?_
        refine nn ?_
        refine at_cond rfl (fun hc33 => ?_) (fun hc33 => ?_)
        · have hc33 := eq_of_beq hc33
          refine sr ?_
          refine sp hT ?_
          refine at_call (callFunc_enter Tryz.func33 rfl rfl) (fault_spec bl A c toks (0) e _) rfl rfl rfl rfl rfl (.cons kT1 .nil) ⟨Has.of mT0, trivial⟩ fun _ => ?_
          refine sto hT kT2 ?_
          refine nn ?_
          refine at_ret ?_
          refine r_block ?_
          refine r_then ?_
          have hr := hR.symm.trans (i_many (by omega))
          subst hr
          exact at_res1 (ins, lns, (_, _), (_, _), _) rfl (rv_cell hT (knows_own (off := 0) .head) rfl rfl rfl rfl) (.cons kT1 (.cons kT2 (.cons kT2 (.cons kT2 .nil)))) ⟨(Has.of mT2), (Has.of mT3), Has.pure (rfl), trivial⟩ rfl
        have hc33 := beq_eq_false_iff_ne.1 hc33
        refine sr ?_
        refine sp3 hT ?_
        refine ss (ldO hT (knows_own (off := 0) kT1)) ?_
        refine sp3 hT ?_
        refine nn ?_
        refine at_cond rfl (fun hc38 => ?_) (fun hc38 => ?_)
        · have hc38 := of_decide_eq_true hc38
          refine sr ?_
          refine sp3 hT ?_
          refine sto hT kT1 ?_
          refine nn ?_
          refine sr ?_
          refine sp hT ?_
          refine at_call (callFunc_enter Tryz.func33 rfl rfl) (fault_spec bl A c toks (256) e _) rfl rfl rfl rfl rfl (.cons .head .nil) ⟨Has.of mT0, trivial⟩ fun _ => ?_
          refine sto hT kT2 ?_
          refine nn ?_
          refine at_ret ?_
          refine r_block ?_
          refine r_then ?_
          have hr := hR.symm.trans (i_long (by omega) (by omega))
          subst hr
          exact at_res1 (ins, lns, (_, _), (_, _), _) rfl (rv_cell hT (knows_own (off := 0) .head) rfl rfl rfl rfl) (.cons kT1 (.cons kT2 (.cons kT2 (.cons kT2 .nil)))) ⟨(Has.of mT2), (Has.of mT3), Has.pure (rfl), trivial⟩ rfl
        have hc38 := Int.not_lt.1 (of_decide_eq_false hc38)
        refine sr ?_
        refine sp2 hT ?_
        refine at_case (fun hg52 => ?_) (fun hg52 => ?_)
        · refine sk4 ?_
          refine sk4 ?_
          refine sk ?_
          refine sp2 hT ?_
          refine nn ?_
          refine at_true rfl rfl ?_
          refine sr ?_
          refine sp hT ?_
          refine at_call (callFunc_enter Tryz.func33 rfl rfl) (fault_spec bl A c toks (0) e _) rfl rfl rfl rfl rfl (.cons kT1 .nil) ⟨Has.of mT0, trivial⟩ fun _ => ?_
          refine sto hT kT2 ?_
          refine nn ?_
          refine at_ret ?_
          refine r_block ?_
          refine r_then ?_
          have hr := hR.symm.trans (i_place (by omega) (by omega) (by first | exact .inl (by assumption) | exact .inr ⟨hin, map_ne (by omega)⟩))
          subst hr
          exact at_res1 (ins, lns, (_, _), (_, _), _) rfl (rv_cell hT (knows_own (off := 0) .head) rfl rfl rfl rfl) (.cons kT1 (.cons kT2 (.cons kT2 (.cons kT2 .nil)))) ⟨(Has.of mT2), (Has.of mT3), Has.pure (rfl), trivial⟩ rfl
        refine sp4 hT ?_
        refine sp hT ?_
        refine ss (ldO hT (knows_own (off := 1) kT3)) ?_
        refine sp4 hT ?_
        refine sp hT ?_
        refine nn ?_
        refine at_cond rfl (fun hc50 => ?_) (fun hc50 => ?_)
        · have hc50 := of_decide_eq_true hc50
          refine sr ?_
          refine sp hT ?_
          refine at_call (callFunc_enter Tryz.func33 rfl rfl) (fault_spec bl A c toks (0) e _) rfl rfl rfl rfl rfl (.cons kT1 .nil) ⟨Has.of mT0, trivial⟩ fun _ => ?_
          refine sto hT kT2 ?_
          refine nn ?_
          refine at_ret ?_
          refine r_block ?_
          refine r_then ?_
          have hr := hR.symm.trans (i_place (by omega) (by omega) (by first | exact .inl (by assumption) | exact .inr ⟨hin, map_ne (by omega)⟩))
          subst hr
          exact at_res1 (ins, lns, (_, _), (_, _), _) rfl (rv_cell hT (knows_own (off := 0) .head) rfl rfl rfl rfl) (.cons kT1 (.cons kT2 (.cons kT2 (.cons kT2 .nil)))) ⟨(Has.of mT2), (Has.of mT3), Has.pure (rfl), trivial⟩ rfl
        have hc50 := Int.not_lt.1 (of_decide_eq_false hc50)
        refine sr ?_
        refine sp2 hT ?_
        refine nn ?_
        refine at_true rfl rfl ?_
        refine sr ?_
        refine at_alloc rfl rfl rfl rfl input_zero_api_Input rfl fun b3 => ?_
        refine nn ?_
        refine sr ?_
        refine sp hT ?_
        refine at_call (callFunc_enter Tryz.func34 rfl rfl) (input_spec bl A c toks 0 e h0 (by omega) hw) rfl rfl rfl rfl rfl (.cons kT2 .nil) ⟨(Has.of mT0), (Has.of mT1), trivial⟩ fun ⟨x4, k5⟩ => ?_
        refine at_know (Has.of mT1) fun hx => ?_
        dsimp only at hx
        refine at_fact (inputsF (ins ++ [x4])) (inputs_add (Has.of mT4) (Has.of mT0)) ?_
        refine sp3 hT ?_
        refine sto hT kT1 ?_
        refine sto hT kT3 ?_
        refine nn ?_
        refine at_seq ?_
        refine at_mixL 10 _ _ [(true, 0), (true, 1), (true, 2), (true, 3), (true, 4), (true, 5), (false, 6), (false, 7), (true, 8), (true, 9)] mixes (by decide +kernel) (.cons .head (.cons .head (.cons .head (.cons .head (.cons .head (.cons kT1 .nil)))))) HasAll.self ?_
        refine atl_sti rfl rfl rfl rfl (sti_pure hT rfl) ?_
        refine atl_sti rfl rfl rfl rfl (sti_pure hT rfl) ?_
        refine atl_sti rfl rfl rfl rfl (sti_pure hT rfl) ?_
        refine atl_sti rfl rfl rfl rfl (sti_pure hT rfl) ?_
        refine atl_sti rfl rfl rfl rfl (ldO hT (knows_own (off := 0) kT4)) ?_
        refine atl_sti rfl rfl rfl rfl (ldN hT (knows_own (off := 0) kT1)) ?_
        refine atl_op (o := _) rfl ?_
        refine at_one_input (m := x4) rfl rfl rfl rfl rfl fun b6 => ?_
        refine atl_go (.cons kT1 (.cons kT1 (.cons kT1 (.cons kT1 (.cons kT1 (.cons kT2 .nil)))))) (HasAll.drop 0) ?_
        refine atl_op (o := _) rfl ?_
        refine at_app_input kT6 (reads_obj .head rfl) rfl rfl rfl rfl rfl rfl rfl (by simp only [List.length_singleton]; omega) fun A7 c8 => ?_
        refine atl_go (.cons kT2 (.cons kT2 (.cons kT2 (.cons kT2 (.cons kT2 (.cons kT2 .nil)))))) (HasAll.drop 0) ?_
        refine atl_sti rfl rfl rfl rfl (sti_pure hT rfl) ?_
        refine atl_sti rfl rfl rfl rfl (sti_pure hT rfl) ?_
        refine atl_last (o := _) rfl ?_
        refine sto hT kT6 ?_
        refine atl_end ?_
        refine n_then ?_
        refine sr ?_
        refine ss (ldN hT (knows_own (off := 0) kT3)) ?_
        refine sto hT kT3 ?_
        refine nn ?_
        refine at_ret ?_
        refine r_block ?_
        refine r_then ?_
        have hr := hR.symm.trans (i_in (by omega) (by omega) (by assumption) hin (map_nil (by omega)))
        subst hr
        exact at_res1 ((ins ++ [x4]), lns, (_, _), (_, _), _) rfl (rv_cell hT (knows_own (off := 0) .head) rfl rfl rfl rfl) (.cons kT5 (.cons kT1 (.cons kT1 (.cons kT4 .nil)))) ⟨(Has.of mT0), (Has.of mT6), Has.pure (by rw [List.map_append, ← hx]; rfl), trivial⟩ rfl
      have hg11 : (peekP toks (0)).word ≠ ([111, 117, 116] : Bs) := fun h => absurd (beq_iff_eq.2 h) (by rw [show ((peekP toks (0)).word == ([111, 117, 116] : Bs)) = false from hg11]; simp)
      have hout := isW_no (t := peekP toks 0) (w := [111, 117, 116]) (by assumption)
      refine atm_nil ?_
      refine n_then ?_
      refine at_seq ?_
      refine at_block ?_
      refine sr ?_
      refine sp3 hT ?_
      refine nn ?_
      refine at_cond rfl (fun hc33 => ?_) (fun hc33 => ?_)
      · have hc33 := eq_of_beq hc33
        refine sr ?_
        refine sp hT ?_
        refine at_call (callFunc_enter Tryz.func33 rfl rfl) (fault_spec bl A c toks (0) e _) rfl rfl rfl rfl rfl (.cons kT1 .nil) ⟨Has.of mT0, trivial⟩ fun _ => ?_
        refine sto hT kT2 ?_
        refine nn ?_
        refine at_ret ?_
        refine r_block ?_
        refine r_then ?_
        have hr := hR.symm.trans (i_many (by omega))
        subst hr
        exact at_res1 (ins, lns, (_, _), (_, _), _) rfl (rv_cell hT (knows_own (off := 0) .head) rfl rfl rfl rfl) (.cons kT1 (.cons kT2 (.cons kT2 (.cons kT2 .nil)))) ⟨(Has.of mT2), (Has.of mT3), Has.pure (rfl), trivial⟩ rfl
      have hc33 := beq_eq_false_iff_ne.1 hc33
      refine sr ?_
      refine sp3 hT ?_
      refine ss (ldO hT (knows_own (off := 0) kT1)) ?_
      refine sp3 hT ?_
      refine nn ?_
      refine at_cond rfl (fun hc38 => ?_) (fun hc38 => ?_)
      · have hc38 := of_decide_eq_true hc38
        refine sr ?_
        refine sp3 hT ?_
        refine sto hT kT1 ?_
        refine nn ?_
        refine sr ?_
        refine sp hT ?_
        refine at_call (callFunc_enter Tryz.func33 rfl rfl) (fault_spec bl A c toks (256) e _) rfl rfl rfl rfl rfl (.cons .head .nil) ⟨Has.of mT0, trivial⟩ fun _ => ?_
        refine sto hT kT2 ?_
        refine nn ?_
        refine at_ret ?_
        refine r_block ?_
        refine r_then ?_
        have hr := hR.symm.trans (i_long (by omega) (by omega))
        subst hr
        exact at_res1 (ins, lns, (_, _), (_, _), _) rfl (rv_cell hT (knows_own (off := 0) .head) rfl rfl rfl rfl) (.cons kT1 (.cons kT2 (.cons kT2 (.cons kT2 .nil)))) ⟨(Has.of mT2), (Has.of mT3), Has.pure (rfl), trivial⟩ rfl
      have hc38 := Int.not_lt.1 (of_decide_eq_false hc38)
      refine sr ?_
      refine sp2 hT ?_
      refine at_case (fun hg52 => ?_) (fun hg52 => ?_)
      · refine sk4 ?_
        refine sk4 ?_
        refine sk ?_
        refine sp2 hT ?_
        refine nn ?_
        refine at_true rfl rfl ?_
        refine sr ?_
        refine sp hT ?_
        refine at_call (callFunc_enter Tryz.func33 rfl rfl) (fault_spec bl A c toks (0) e _) rfl rfl rfl rfl rfl (.cons kT1 .nil) ⟨Has.of mT0, trivial⟩ fun _ => ?_
        refine sto hT kT2 ?_
        refine nn ?_
        refine at_ret ?_
        refine r_block ?_
        refine r_then ?_
        have hr := hR.symm.trans (i_place (by omega) (by omega) (by first | exact .inl (by assumption) | exact .inr ⟨hin, map_ne (by omega)⟩))
        subst hr
        exact at_res1 (ins, lns, (_, _), (_, _), _) rfl (rv_cell hT (knows_own (off := 0) .head) rfl rfl rfl rfl) (.cons kT1 (.cons kT2 (.cons kT2 (.cons kT2 .nil)))) ⟨(Has.of mT2), (Has.of mT3), Has.pure (rfl), trivial⟩ rfl
      refine sp4 hT ?_
      refine sp hT ?_
      refine ss (ldO hT (knows_own (off := 1) kT3)) ?_
      refine sp4 hT ?_
      refine sp hT ?_
      refine nn ?_
      refine at_cond rfl (fun hc50 => ?_) (fun hc50 => ?_)
      · have hc50 := of_decide_eq_true hc50
        refine sr ?_
        refine sp hT ?_
        refine at_call (callFunc_enter Tryz.func33 rfl rfl) (fault_spec bl A c toks (0) e _) rfl rfl rfl rfl rfl (.cons kT1 .nil) ⟨Has.of mT0, trivial⟩ fun _ => ?_
        refine sto hT kT2 ?_
        refine nn ?_
        refine at_ret ?_
        refine r_block ?_
        refine r_then ?_
        have hr := hR.symm.trans (i_place (by omega) (by omega) (by first | exact .inl (by assumption) | exact .inr ⟨hin, map_ne (by omega)⟩))
        subst hr
        exact at_res1 (ins, lns, (_, _), (_, _), _) rfl (rv_cell hT (knows_own (off := 0) .head) rfl rfl rfl rfl) (.cons kT1 (.cons kT2 (.cons kT2 (.cons kT2 .nil)))) ⟨(Has.of mT2), (Has.of mT3), Has.pure (rfl), trivial⟩ rfl
      have hc50 := Int.not_lt.1 (of_decide_eq_false hc50)
      refine sr ?_
      refine sp2 hT ?_
      refine nn ?_
      refine at_true rfl rfl ?_
      refine sr ?_
      refine at_alloc rfl rfl rfl rfl input_zero_api_Input rfl fun b9 => ?_
      refine nn ?_
      refine sr ?_
      refine sp hT ?_
      refine at_call (callFunc_enter Tryz.func34 rfl rfl) (input_spec bl A c toks 0 e h0 (by omega) hw) rfl rfl rfl rfl rfl (.cons kT2 .nil) ⟨(Has.of mT0), (Has.of mT1), trivial⟩ fun ⟨x10, k11⟩ => ?_
      refine at_know (Has.of mT1) fun hx => ?_
      dsimp only at hx
      refine at_fact (inputsF (ins ++ [x10])) (inputs_add (Has.of mT4) (Has.of mT0)) ?_
      refine sp3 hT ?_
      refine sto hT kT1 ?_
      refine sto hT kT3 ?_
      refine nn ?_
      refine at_seq ?_
      refine at_mixL 10 _ _ [(true, 0), (true, 1), (true, 2), (true, 3), (true, 4), (true, 5), (false, 6), (false, 7), (true, 8), (true, 9)] mixes (by decide +kernel) (.cons .head (.cons .head (.cons .head (.cons .head (.cons .head (.cons kT1 .nil)))))) HasAll.self ?_
      refine atl_sti rfl rfl rfl rfl (sti_pure hT rfl) ?_
      refine atl_sti rfl rfl rfl rfl (sti_pure hT rfl) ?_
      refine atl_sti rfl rfl rfl rfl (sti_pure hT rfl) ?_
      refine atl_sti rfl rfl rfl rfl (sti_pure hT rfl) ?_
      refine atl_sti rfl rfl rfl rfl (ldO hT (knows_own (off := 0) kT4)) ?_
      refine atl_sti rfl rfl rfl rfl (ldN hT (knows_own (off := 0) kT1)) ?_
      refine atl_op (o := _) rfl ?_
      refine at_one_input (m := x10) rfl rfl rfl rfl rfl fun b12 => ?_
      refine atl_go (.cons kT1 (.cons kT1 (.cons kT1 (.cons kT1 (.cons kT1 (.cons kT2 .nil)))))) (HasAll.drop 0) ?_
      refine atl_op (o := _) rfl ?_
      refine at_app_input kT6 (reads_obj .head rfl) rfl rfl rfl rfl rfl rfl rfl (by simp only [List.length_singleton]; omega) fun A13 c14 => ?_
      refine atl_go (.cons kT2 (.cons kT2 (.cons kT2 (.cons kT2 (.cons kT2 (.cons kT2 .nil)))))) (HasAll.drop 0) ?_
      refine atl_sti rfl rfl rfl rfl (sti_pure hT rfl) ?_
      refine atl_sti rfl rfl rfl rfl (sti_pure hT rfl) ?_
      refine atl_last (o := _) rfl ?_
      refine sto hT kT6 ?_
      refine atl_end ?_
      refine n_then ?_
      refine sr ?_
      refine ss (ldN hT (knows_own (off := 0) kT3)) ?_
      refine sto hT kT3 ?_
      refine nn ?_
      refine at_ret ?_
      refine r_block ?_
      refine r_then ?_
      have hr := hR.symm.trans (i_in (by omega) (by omega) (by assumption) hin (map_nil (by omega)))
      subst hr
      exact at_res1 ((ins ++ [x10]), lns, (_, _), (_, _), _) rfl (rv_cell hT (knows_own (off := 0) .head) rfl rfl rfl rfl) (.cons kT5 (.cons kT1 (.cons kT1 (.cons kT4 .nil)))) ⟨(Has.of mT0), (Has.of mT6), Has.pure (by rw [List.map_append, ← hx]; rfl), trivial⟩ rfl
    have hg10 : (peekP toks (0)).word ≠ ([105, 110] : Bs) := fun h => absurd (beq_iff_eq.2 h) (by rw [show ((peekP toks (0)).word == ([105, 110] : Bs)) = false from hg10]; simp)
    have hin := isW_no (t := peekP toks 0) (w := [105, 110]) (by assumption)
    refine atm_sti rfl rfl rfl rfl (sti_pure hT rfl) ?_
    refine at_case (fun hg11 => ?_) (fun hg11 => ?_)
    · have hg11 : (peekP toks (0)).word = ([111, 117, 116] : Bs) := eq_of_beq hg11
      have hout := isW_is (t := peekP toks 0) (w := [111, 117, 116]) (by assumption) (by assumption)
      refine atm_nil ?_
      refine n_then ?_
      refine at_seq ?_
      refine at_block ?_
      refine sr ?_
      refine sp3 hT ?_
      refine nn ?_
      refine at_cond rfl (fun hc33 => ?_) (fun hc33 => ?_)
      · have hc33 := eq_of_beq hc33
        refine sr ?_
        refine sp hT ?_
        refine at_call (callFunc_enter Tryz.func33 rfl rfl) (fault_spec bl A c toks (0) e _) rfl rfl rfl rfl rfl (.cons kT1 .nil) ⟨Has.of mT0, trivial⟩ fun _ => ?_
        refine sto hT kT2 ?_
        refine nn ?_
        refine at_ret ?_
        refine r_block ?_
        refine r_then ?_
        have hr := hR.symm.trans (i_many (by omega))
        subst hr
        exact at_res1 (ins, lns, (_, _), (_, _), _) rfl (rv_cell hT (knows_own (off := 0) .head) rfl rfl rfl rfl) (.cons kT1 (.cons kT2 (.cons kT2 (.cons kT2 .nil)))) ⟨(Has.of mT2), (Has.of mT3), Has.pure (rfl), trivial⟩ rfl
      have hc33 := beq_eq_false_iff_ne.1 hc33
      refine sr ?_
      refine sp3 hT ?_
      refine ss (ldO hT (knows_own (off := 0) kT1)) ?_
      refine sp3 hT ?_
      refine nn ?_
      refine at_cond rfl (fun hc38 => ?_) (fun hc38 => ?_)
      · have hc38 := of_decide_eq_true hc38
        refine sr ?_
        refine sp3 hT ?_
        refine sto hT kT1 ?_
        refine nn ?_
        refine sr ?_
        refine sp hT ?_
        refine at_call (callFunc_enter Tryz.func33 rfl rfl) (fault_spec bl A c toks (256) e _) rfl rfl rfl rfl rfl (.cons .head .nil) ⟨Has.of mT0, trivial⟩ fun _ => ?_
        refine sto hT kT2 ?_
        refine nn ?_
        refine at_ret ?_
        refine r_block ?_
        refine r_then ?_
        have hr := hR.symm.trans (i_long (by omega) (by omega))
        subst hr
        exact at_res1 (ins, lns, (_, _), (_, _), _) rfl (rv_cell hT (knows_own (off := 0) .head) rfl rfl rfl rfl) (.cons kT1 (.cons kT2 (.cons kT2 (.cons kT2 .nil)))) ⟨(Has.of mT2), (Has.of mT3), Has.pure (rfl), trivial⟩ rfl
      have hc38 := Int.not_lt.1 (of_decide_eq_false hc38)
      refine sr ?_
      refine sp2 hT ?_
      refine at_case (fun hg52 => ?_) (fun hg52 => ?_)
      · refine sk4 ?_
        refine sk4 ?_
        refine sk ?_
        refine sp2 hT ?_
        refine nn ?_
        refine at_true rfl rfl ?_
        refine sr ?_
        refine sp hT ?_
        refine at_call (callFunc_enter Tryz.func33 rfl rfl) (fault_spec bl A c toks (0) e _) rfl rfl rfl rfl rfl (.cons kT1 .nil) ⟨Has.of mT0, trivial⟩ fun _ => ?_
        refine sto hT kT2 ?_
        refine nn ?_
        refine at_ret ?_
        refine r_block ?_
        refine r_then ?_
        have hr := hR.symm.trans (i_place (by omega) (by omega) (by first | exact .inl (by assumption) | exact .inr ⟨hin, map_ne (by omega)⟩))
        subst hr
        exact at_res1 (ins, lns, (_, _), (_, _), _) rfl (rv_cell hT (knows_own (off := 0) .head) rfl rfl rfl rfl) (.cons kT1 (.cons kT2 (.cons kT2 (.cons kT2 .nil)))) ⟨(Has.of mT2), (Has.of mT3), Has.pure (rfl), trivial⟩ rfl
      refine sp2 hT ?_
      refine sk4 ?_
      refine sk2 ?_
      refine sp3 hT ?_
      refine nn ?_
      refine at_false rfl rfl ?_
      refine sr ?_
      refine sp2 hT ?_
      refine nn ?_
      refine at_false rfl rfl ?_
      refine sr ?_
      refine sp3 hT ?_
      refine sk4 ?_
      refine sk4 ?_
      refine sk ?_
      refine sp2 hT ?_
      refine nn ?_
      refine at_false rfl rfl ?_
      refine at_skip ?_
      refine n_block ?_
      refine n_then ?_
      refine sr ?_
      refine sp hT ?_
      refine ss (ldO hT (knows_own (off := 1) .head)) ?_
      refine ss (sti_build rfl rfl (input_built_api_Line_1 _)) ?_
      refine at_alloc rfl rfl rfl rfl input_zero_api_Line rfl fun b15 => ?_
      refine sto hT .head ?_
      refine nn ?_
      refine sr ?_
      refine sp3 hT ?_
      refine sto hT kT2 ?_
      refine nn ?_
      refine at_seq ?_
      refine sr ?_
      refine sp2 hT ?_
      refine nn ?_
      refine at_false rfl rfl ?_
      refine at_skip ?_
      refine n_then ?_
      refine sr ?_
      refine sp hT ?_
      refine at_call (callFunc_enter Tryz.func36 rfl rfl) (expr_spec bl A c toks (1) e (by omega) (by omega) hw) rfl rfl rfl rfl rfl (.cons .head .nil) ⟨(Has.of mT0), (Has.of mT1), trivial⟩ fun ⟨C16, e17, its18, k19⟩ => ?_
      refine at_know (Has.of mT2) fun hits => ?_
      dsimp only at hits
      refine at_fact (linesF (lns ++ [(⟨[], (peekP toks 0).at_, ⟨C16, e17, its18⟩⟩ : LineV)])) (lines_add (Has.of mT6) (Has.and (Has.of mT0) (Has.of mT1))) ?_
      refine sp4 hT ?_
      refine sto hT kT1 ?_
      refine sto hT kT3 ?_
      refine nn ?_
      refine at_seq ?_
      refine at_mixL 10 _ _ [(true, 0), (true, 1), (true, 2), (true, 3), (true, 4), (true, 5), (false, 6), (false, 7), (true, 8), (true, 9)] mixes (by decide +kernel) (.cons .head (.cons .head (.cons .head (.cons .head (.cons .head (.cons .head .nil)))))) HasAll.self ?_
      refine atl_sti rfl rfl rfl rfl (sti_pure hT rfl) ?_
      refine atl_sti rfl rfl rfl rfl (sti_pure hT rfl) ?_
      refine atl_sti rfl rfl rfl rfl (sti_pure hT rfl) ?_
      refine atl_sti rfl rfl rfl rfl (sti_pure hT rfl) ?_
      refine atl_sti rfl rfl rfl rfl (ldO hT (knows_own (off := 1) kT4)) ?_
      refine atl_sti rfl rfl rfl rfl (ldN hT (knows_own (off := 0) kT1)) ?_
      refine atl_op (o := _) rfl ?_
      refine at_one_line (m := (⟨[], (peekP toks 0).at_, ⟨C16, e17, its18⟩⟩ : LineV)) rfl rfl rfl rfl rfl fun b20 => ?_
      refine atl_go (.cons kT1 (.cons kT1 (.cons kT1 (.cons kT1 (.cons kT1 (.cons kT1 .nil)))))) (HasAll.drop 0) ?_
      refine atl_op (o := _) rfl ?_
      refine at_app_line kT7 (reads_obj .head rfl) rfl rfl rfl rfl rfl rfl rfl (by simp only [List.length_singleton]; omega) fun A21 c22 => ?_
      refine atl_go (.cons kT2 (.cons kT2 (.cons kT2 (.cons kT2 (.cons kT2 (.cons kT2 .nil)))))) (HasAll.drop 0) ?_
      refine atl_sti rfl rfl rfl rfl (sti_pure hT rfl) ?_
      refine atl_sti rfl rfl rfl rfl (sti_pure hT rfl) ?_
      refine atl_last (o := _) rfl ?_
      refine sto hT kT6 ?_
      refine atl_end ?_
      refine n_then ?_
      refine sr ?_
      refine ss (ldN hT (knows_own (off := 0) kT3)) ?_
      refine sto hT kT3 ?_
      refine nn ?_
      refine at_ret ?_
      have hr := hR.symm.trans (i_out (by omega) (by omega) (by assumption) hin hout)
      subst hr
      exact at_res1 (ins, (lns ++ [(⟨[], (peekP toks 0).at_, ⟨C16, e17, its18⟩⟩ : LineV)]), (_, _), (_, _), _) rfl (rv_cell hT (knows_own (off := 0) .head) rfl rfl rfl rfl) (.cons kT5 (.cons kT1 (.cons kT5 (.cons kT1 .nil)))) ⟨(Has.of mT6), (Has.of mT0), Has.pure (by rw [List.map_append, lineP, ← hits]; rfl), trivial⟩ rfl
    have hg11 : (peekP toks (0)).word ≠ ([111, 117, 116] : Bs) := fun h => absurd (beq_iff_eq.2 h) (by rw [show ((peekP toks (0)).word == ([111, 117, 116] : Bs)) = false from hg11]; simp)
    have hout := isW_no (t := peekP toks 0) (w := [111, 117, 116]) (by assumption)
    refine atm_nil ?_
    refine n_then ?_
    refine at_seq ?_
    refine at_block ?_
    refine sr ?_
    refine sp3 hT ?_
    refine nn ?_
    refine at_cond rfl (fun hc33 => ?_) (fun hc33 => ?_)
    · have hc33 := eq_of_beq hc33
      refine sr ?_
      refine sp hT ?_
      refine at_call (callFunc_enter Tryz.func33 rfl rfl) (fault_spec bl A c toks (0) e _) rfl rfl rfl rfl rfl (.cons kT1 .nil) ⟨Has.of mT0, trivial⟩ fun _ => ?_
      refine sto hT kT2 ?_
      refine nn ?_
      refine at_ret ?_
      refine r_block ?_
      refine r_then ?_
      have hr := hR.symm.trans (i_many (by omega))
      subst hr
      exact at_res1 (ins, lns, (_, _), (_, _), _) rfl (rv_cell hT (knows_own (off := 0) .head) rfl rfl rfl rfl) (.cons kT1 (.cons kT2 (.cons kT2 (.cons kT2 .nil)))) ⟨(Has.of mT2), (Has.of mT3), Has.pure (rfl), trivial⟩ rfl
    have hc33 := beq_eq_false_iff_ne.1 hc33
    refine sr ?_
    refine sp3 hT ?_
    refine ss (ldO hT (knows_own (off := 0) kT1)) ?_
    refine sp3 hT ?_
    refine nn ?_
    refine at_cond rfl (fun hc38 => ?_) (fun hc38 => ?_)
    · have hc38 := of_decide_eq_true hc38
      refine sr ?_
      refine sp3 hT ?_
      refine sto hT kT1 ?_
      refine nn ?_
      refine sr ?_
      refine sp hT ?_
      refine at_call (callFunc_enter Tryz.func33 rfl rfl) (fault_spec bl A c toks (256) e _) rfl rfl rfl rfl rfl (.cons .head .nil) ⟨Has.of mT0, trivial⟩ fun _ => ?_
      refine sto hT kT2 ?_
      refine nn ?_
      refine at_ret ?_
      refine r_block ?_
      refine r_then ?_
      have hr := hR.symm.trans (i_long (by omega) (by omega))
      subst hr
      exact at_res1 (ins, lns, (_, _), (_, _), _) rfl (rv_cell hT (knows_own (off := 0) .head) rfl rfl rfl rfl) (.cons kT1 (.cons kT2 (.cons kT2 (.cons kT2 .nil)))) ⟨(Has.of mT2), (Has.of mT3), Has.pure (rfl), trivial⟩ rfl
    have hc38 := Int.not_lt.1 (of_decide_eq_false hc38)
    refine sr ?_
    refine sp2 hT ?_
    refine at_case (fun hg52 => ?_) (fun hg52 => ?_)
    · refine sk4 ?_
      refine sk4 ?_
      refine sk ?_
      refine sp2 hT ?_
      refine nn ?_
      refine at_true rfl rfl ?_
      refine sr ?_
      refine sp hT ?_
      refine at_call (callFunc_enter Tryz.func33 rfl rfl) (fault_spec bl A c toks (0) e _) rfl rfl rfl rfl rfl (.cons kT1 .nil) ⟨Has.of mT0, trivial⟩ fun _ => ?_
      refine sto hT kT2 ?_
      refine nn ?_
      refine at_ret ?_
      refine r_block ?_
      refine r_then ?_
      have hr := hR.symm.trans (i_place (by omega) (by omega) (by first | exact .inl (by assumption) | exact .inr ⟨hin, map_ne (by omega)⟩))
      subst hr
      exact at_res1 (ins, lns, (_, _), (_, _), _) rfl (rv_cell hT (knows_own (off := 0) .head) rfl rfl rfl rfl) (.cons kT1 (.cons kT2 (.cons kT2 (.cons kT2 .nil)))) ⟨(Has.of mT2), (Has.of mT3), Has.pure (rfl), trivial⟩ rfl
    refine sp2 hT ?_
    refine sk4 ?_
    refine sk2 ?_
    refine sp3 hT ?_
    refine nn ?_
    refine at_false rfl rfl ?_
    refine sr ?_
    refine sp2 hT ?_
    refine nn ?_
    refine at_false rfl rfl ?_
    refine sr ?_
    refine sp4 hT ?_
    refine ss (ldO hT (knows_own (off := 0) .head)) ?_
    refine sp hT ?_
    refine at_bool (t' := false) ((congrArg not (show ((peekP toks (0)).kind == 1) = true from (by rw [hg20]; rfl)) : (!_) = _)) ?_
    refine sp2 hT ?_
    refine ss (ldO hT (knows_own (off := 2) .head)) ?_
    refine at_call (callFunc_enter Tryz.func35 rfl rfl) (Name_spec _ (Nat.le_trans (hw _) (by decide))) rfl rfl rfl rfl rfl .nil ⟨Has.of mT1, trivial⟩ fun _ => ?_
    refine sp4 hT ?_
    refine nn ?_
    refine at_cond rfl (fun hc83 => ?_) (fun hc83 => ?_)
    · have hc83 := not_t hc83
      refine sr ?_
      refine sp hT ?_
      refine at_call (callFunc_enter Tryz.func33 rfl rfl) (fault_spec bl A c toks (0) e _) rfl rfl rfl rfl rfl (.cons kT1 .nil) ⟨Has.of mT0, trivial⟩ fun _ => ?_
      refine sto hT kT2 ?_
      refine nn ?_
      refine at_ret ?_
      refine r_block ?_
      refine r_then ?_
      have hr := hR.symm.trans (i_none (by omega) (by omega) (by assumption) hin hout (by first | exact .inl (by assumption) | exact .inr (by assumption)))
      subst hr
      exact at_res1 (ins, lns, (_, _), (_, _), _) rfl (rv_cell hT (knows_own (off := 0) .head) rfl rfl rfl rfl) (.cons kT1 (.cons kT2 (.cons kT2 (.cons kT2 .nil)))) ⟨(Has.of mT2), (Has.of mT3), Has.pure (rfl), trivial⟩ rfl
    have hc83 := not_f hc83
    refine at_skip ?_
    refine n_block ?_
    refine n_then ?_
    refine sr ?_
    refine sp hT ?_
    refine ss (ldO hT (knows_own (off := 1) .head)) ?_
    refine ss (sti_build rfl rfl (input_built_api_Line_1 _)) ?_
    refine at_alloc rfl rfl rfl rfl input_zero_api_Line rfl fun b23 => ?_
    refine sto hT .head ?_
    refine nn ?_
    refine sr ?_
    refine sp3 hT ?_
    refine sto hT kT2 ?_
    refine nn ?_
    refine at_seq ?_
    refine sr ?_
    refine sp2 hT ?_
    refine nn ?_
    refine at_true rfl rfl ?_
    refine sr ?_
    refine sp hT ?_
    refine ss (ldO hT (knows_own (off := 2) kT2)) ?_
    refine sp hT ?_
    refine sto hT kT1 ?_
    refine nn ?_
    refine at_seq ?_
    refine sr ?_
    refine sp hT ?_
    refine at_call (callFunc_enter Tryz.func32 rfl rfl) (peek_spec bl A c toks (1) e) rfl rfl rfl rfl rfl (.cons kT1 .nil) ⟨Has.of mT0, trivial⟩ fun _ => ?_
    refine at_alloc rfl rfl rfl rfl input_zero_api_Token rfl fun b24 => ?_
    refine sto hT .head ?_
    refine nn ?_
    refine sr ?_
    refine sp hT ?_
    refine ss (ldO hT (knows_own (off := 0) .head)) ?_
    refine sp2 hT ?_
    refine at_case (fun hg115 => ?_) (fun hg115 => ?_)
    · have hg115 := bne_iff_ne.1 hg115
      refine sk3 ?_
      refine sp hT ?_
      refine nn ?_
      refine at_true rfl rfl ?_
      refine sr ?_
      refine sp hT ?_
      refine at_call (callFunc_enter Tryz.func33 rfl rfl) (fault_spec bl A c toks (1) e _) rfl rfl rfl rfl rfl (.cons kT1 .nil) ⟨Has.of mT0, trivial⟩ fun _ => ?_
      refine sto hT kT4 ?_
      refine nn ?_
      refine at_ret ?_
      refine r_then ?_
      refine r_then ?_
      have hr := hR.symm.trans (i_want (by omega) (by omega) (by assumption) hin hout (by assumption) (by assumption) (by first | exact .inl (by assumption) | exact .inr (by assumption)))
      subst hr
      exact at_res1 (ins, lns, (_, _), (_, _), _) rfl (rv_cell hT (knows_own (off := 0) .head) rfl rfl rfl rfl) (.cons kT1 (.cons kT4 (.cons kT4 (.cons kT4 .nil)))) ⟨(Has.of mT2), (Has.of mT3), Has.pure (rfl), trivial⟩ rfl
    have hg115 := bne_eq_false_iff_eq.1 hg115
    refine sp hT ?_
    refine ss (ldO hT (knows_own (off := 2) .head)) ?_
    refine sp2 hT ?_
    refine nn ?_
    refine at_cond rfl (fun hc119 => ?_) (fun hc119 => ?_)
    · have hc119 : (peekP toks (1)).word ≠ ([58] : Bs) := fun h => by rw [h] at hc119; first | (simp at hc119; done) | exact absurd hc119 (by decide)
      refine sr ?_
      refine sp hT ?_
      refine at_call (callFunc_enter Tryz.func33 rfl rfl) (fault_spec bl A c toks (1) e _) rfl rfl rfl rfl rfl (.cons kT1 .nil) ⟨Has.of mT0, trivial⟩ fun _ => ?_
      refine sto hT kT4 ?_
      refine nn ?_
      refine at_ret ?_
      refine r_then ?_
      refine r_then ?_
      have hr := hR.symm.trans (i_want (by omega) (by omega) (by assumption) hin hout (by assumption) (by assumption) (by first | exact .inl (by assumption) | exact .inr (by assumption)))
      subst hr
      exact at_res1 (ins, lns, (_, _), (_, _), _) rfl (rv_cell hT (knows_own (off := 0) .head) rfl rfl rfl rfl) (.cons kT1 (.cons kT4 (.cons kT4 (.cons kT4 .nil)))) ⟨(Has.of mT2), (Has.of mT3), Has.pure (rfl), trivial⟩ rfl
    have hc119 : (peekP toks (1)).word = ([58] : Bs) := eq_of_beq (not_f hc119)
    refine at_skip ?_
    refine n_then ?_
    refine at_region ?_
    refine sp3 hT ?_
    refine sto hT kT1 ?_
    refine nn ?_
    refine sr ?_
    refine sp hT ?_
    refine at_call (callFunc_enter Tryz.func36 rfl rfl) (expr_spec bl A c toks (2) e (by have := kind_lt (toks := toks) (k := 1) (by omega); omega) (by omega) hw) rfl rfl rfl rfl rfl (.cons .head .nil) ⟨(Has.of mT0), (Has.of mT1), trivial⟩ fun ⟨C25, e26, its27, k28⟩ => ?_
    refine at_know (Has.of mT2) fun hits => ?_
    dsimp only at hits
    refine at_fact (linesF (lns ++ [(⟨(peekP toks 0).word, (peekP toks 0).at_, ⟨C25, e26, its27⟩⟩ : LineV)])) (lines_add (Has.of mT6) (Has.and (Has.of mT0) (Has.of mT1))) ?_
    refine sp4 hT ?_
    refine sto hT kT2 ?_
    refine sto hT kT4 ?_
    refine nn ?_
    refine at_seq ?_
    refine at_mixL 10 _ _ [(true, 0), (true, 1), (true, 2), (true, 3), (true, 4), (true, 5), (false, 6), (false, 7), (true, 8), (true, 9)] mixes (by decide +kernel) (.cons .head (.cons .head (.cons .head (.cons .head (.cons .head (.cons .head (.cons .head .nil))))))) HasAll.self ?_
    refine atl_sti rfl rfl rfl rfl (sti_pure hT rfl) ?_
    refine atl_sti rfl rfl rfl rfl (sti_pure hT rfl) ?_
    refine atl_sti rfl rfl rfl rfl (sti_pure hT rfl) ?_
    refine atl_sti rfl rfl rfl rfl (sti_pure hT rfl) ?_
    refine atl_sti rfl rfl rfl rfl (ldO hT (knows_own (off := 1) kT5)) ?_
    refine atl_sti rfl rfl rfl rfl (ldN hT (knows_own (off := 0) kT1)) ?_
    refine atl_op (o := _) rfl ?_
    refine at_one_line (m := (⟨(peekP toks 0).word, (peekP toks 0).at_, ⟨C25, e26, its27⟩⟩ : LineV)) rfl rfl rfl rfl rfl fun b29 => ?_
    refine atl_go (.cons kT1 (.cons kT1 (.cons kT1 (.cons kT1 (.cons kT1 (.cons kT1 (.cons kT1 .nil))))))) (HasAll.drop 0) ?_
    refine atl_op (o := _) rfl ?_
    refine at_app_line kT8 (reads_obj .head rfl) rfl rfl rfl rfl rfl rfl rfl (by simp only [List.length_singleton]; omega) fun A30 c31 => ?_
    refine atl_go (.cons kT2 (.cons kT2 (.cons kT2 (.cons kT2 (.cons kT2 (.cons kT2 (.cons kT2 .nil))))))) (HasAll.drop 0) ?_
    refine atl_sti rfl rfl rfl rfl (sti_pure hT rfl) ?_
    refine atl_sti rfl rfl rfl rfl (sti_pure hT rfl) ?_
    refine atl_last (o := _) rfl ?_
    refine sto hT kT7 ?_
    refine atl_end ?_
    refine n_then ?_
    refine sr ?_
    refine ss (ldN hT (knows_own (off := 0) kT3)) ?_
    refine sto hT kT3 ?_
    refine nn ?_
    refine at_ret ?_
    have hr := hR.symm.trans (i_line (by omega) (by omega) (by assumption) hin hout (by assumption) (by assumption) (by assumption) (by assumption))
    subst hr
    exact at_res1 (ins, (lns ++ [(⟨(peekP toks 0).word, (peekP toks 0).at_, ⟨C25, e26, its27⟩⟩ : LineV)]), (_, _), (_, _), _) rfl (rv_cell hT (knows_own (off := 0) .head) rfl rfl rfl rfl) (.cons kT5 (.cons kT1 (.cons kT6 (.cons kT1 .nil)))) ⟨(Has.of mT6), (Has.of mT0), Has.pure (by rw [List.map_append, lineP, ← hits]; rfl), trivial⟩ rfl
  have hg20 := beq_eq_false_iff_ne.1 hg20
  refine atm_skipped rfl rfl rfl rfl ?_
  refine atm_skipped rfl rfl rfl rfl ?_
  refine atm_skipped rfl rfl rfl rfl ?_
  refine atm_sti rfl rfl rfl rfl (sti_pure hT rfl) ?_
  refine atm_sti rfl rfl rfl rfl (sti_pure hT rfl) ?_
  refine atm_sti rfl rfl rfl rfl (ldO hT (knows_own (off := 0) .head)) ?_
  refine atm_sti rfl rfl rfl rfl (sti_pure hT rfl) ?_
  refine at_bool (t' := false) (beq_eq_false_iff_ne.2 hg20) ?_
  refine atm_sti rfl rfl rfl rfl (sti_pure hT rfl) ?_
  refine atm_skipped rfl rfl rfl rfl ?_
  refine atm_skipped rfl rfl rfl rfl ?_
  refine atm_skipped rfl rfl rfl rfl ?_
  refine atm_sti rfl rfl rfl rfl (sti_pure hT rfl) ?_
  refine atm_sti rfl rfl rfl rfl (sti_pure hT rfl) ?_
  refine atm_sti rfl rfl rfl rfl (sti_pure hT rfl) ?_
  refine atm_nil ?_
  refine n_then ?_
  refine at_seq ?_
  refine at_block ?_
  refine at_seq ?_
  have hin := isW_ne (t := peekP toks 0) (w := [105, 110]) (by assumption)
  have hout := isW_ne (t := peekP toks 0) (w := [111, 117, 116]) (by assumption)
  refine at_region ?_
  refine sp3 hT ?_
  refine nn ?_
  refine at_cond rfl (fun hc33 => ?_) (fun hc33 => ?_)
  · have hc33 := eq_of_beq hc33
    refine sr ?_
    refine sp hT ?_
    refine at_call (callFunc_enter Tryz.func33 rfl rfl) (fault_spec bl A c toks (0) e _) rfl rfl rfl rfl rfl (.cons kT1 .nil) ⟨Has.of mT0, trivial⟩ fun _ => ?_
    refine sto hT kT2 ?_
    refine nn ?_
    refine at_ret ?_
    refine r_block ?_
    refine r_then ?_
    have hr := hR.symm.trans (i_many (by omega))
    subst hr
    exact at_res1 (ins, lns, (_, _), (_, _), _) rfl (rv_cell hT (knows_own (off := 0) .head) rfl rfl rfl rfl) (.cons kT1 (.cons kT2 (.cons kT2 (.cons kT2 .nil)))) ⟨(Has.of mT2), (Has.of mT3), Has.pure (rfl), trivial⟩ rfl
  have hc33 := beq_eq_false_iff_ne.1 hc33
  refine sr ?_
  refine sp3 hT ?_
  refine ss (ldO hT (knows_own (off := 0) kT1)) ?_
  refine sp3 hT ?_
  refine nn ?_
  refine at_cond rfl (fun hc38 => ?_) (fun hc38 => ?_)
  · have hc38 := of_decide_eq_true hc38
    refine sr ?_
    refine sp3 hT ?_
    refine sto hT kT1 ?_
    refine nn ?_
    refine sr ?_
    refine sp hT ?_
    refine at_call (callFunc_enter Tryz.func33 rfl rfl) (fault_spec bl A c toks (256) e _) rfl rfl rfl rfl rfl (.cons .head .nil) ⟨Has.of mT0, trivial⟩ fun _ => ?_
    refine sto hT kT2 ?_
    refine nn ?_
    refine at_ret ?_
    refine r_block ?_
    refine r_then ?_
    have hr := hR.symm.trans (i_long (by omega) (by omega))
    subst hr
    exact at_res1 (ins, lns, (_, _), (_, _), _) rfl (rv_cell hT (knows_own (off := 0) .head) rfl rfl rfl rfl) (.cons kT1 (.cons kT2 (.cons kT2 (.cons kT2 .nil)))) ⟨(Has.of mT2), (Has.of mT3), Has.pure (rfl), trivial⟩ rfl
  have hc38 := Int.not_lt.1 (of_decide_eq_false hc38)
  refine sr ?_
  refine sp2 hT ?_
  refine at_case (fun hg52 => ?_) (fun hg52 => ?_)
  · refine sk4 ?_
    refine sk4 ?_
    refine sk ?_
    refine sp2 hT ?_
    refine nn ?_
    refine at_true rfl rfl ?_
    refine sr ?_
    refine sp hT ?_
    refine at_call (callFunc_enter Tryz.func33 rfl rfl) (fault_spec bl A c toks (0) e _) rfl rfl rfl rfl rfl (.cons kT1 .nil) ⟨Has.of mT0, trivial⟩ fun _ => ?_
    refine sto hT kT2 ?_
    refine nn ?_
    refine at_ret ?_
    refine r_block ?_
    refine r_then ?_
    have hr := hR.symm.trans (i_place (by omega) (by omega) (by first | exact .inl (by assumption) | exact .inr ⟨hin, map_ne (by omega)⟩))
    subst hr
    exact at_res1 (ins, lns, (_, _), (_, _), _) rfl (rv_cell hT (knows_own (off := 0) .head) rfl rfl rfl rfl) (.cons kT1 (.cons kT2 (.cons kT2 (.cons kT2 .nil)))) ⟨(Has.of mT2), (Has.of mT3), Has.pure (rfl), trivial⟩ rfl
  refine sp2 hT ?_
  refine sk4 ?_
  refine sk2 ?_
  refine sp3 hT ?_
  refine nn ?_
  refine at_false rfl rfl ?_
  refine sr ?_
  refine sp2 hT ?_
  refine nn ?_
  refine at_false rfl rfl ?_
  refine sr ?_
  refine sp4 hT ?_
  refine ss (ldO hT (knows_own (off := 0) .head)) ?_
  refine sp hT ?_
  refine at_bool (t' := true) ((congrArg not (show ((peekP toks (0)).kind == 1) = false from (beq_eq_false_iff_ne.2 hg20)) : (!_) = _)) ?_
  refine sp hT ?_
  refine sk4 ?_
  refine sp3 hT ?_
  refine nn ?_
  refine at_true rfl rfl ?_
  refine sr ?_
  refine sp hT ?_
  refine at_call (callFunc_enter Tryz.func33 rfl rfl) (fault_spec bl A c toks (0) e _) rfl rfl rfl rfl rfl (.cons kT1 .nil) ⟨Has.of mT0, trivial⟩ fun _ => ?_
  refine sto hT kT2 ?_
  refine nn ?_
  refine at_ret ?_
  refine r_block ?_
  refine r_then ?_
  have hr := hR.symm.trans (i_none (by omega) (by omega) (by assumption) hin hout (by first | exact .inl (by assumption) | exact .inr (by assumption)))
  subst hr
  exact at_res1 (ins, lns, (_, _), (_, _), _) rfl (rv_cell hT (knows_own (off := 0) .head) rfl rfl rfl rfl) (.cons kT1 (.cons kT2 (.cons kT2 (.cons kT2 .nil)))) ⟨(Has.of mT2), (Has.of mT3), Has.pure (rfl), trivial⟩ rfl

end Go.Proofs.YtngkedmndhmjcaaGreatDoor
