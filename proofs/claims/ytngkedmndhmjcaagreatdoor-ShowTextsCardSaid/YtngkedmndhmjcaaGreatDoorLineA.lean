/- Walks of parse.line: places, tokens. (Printed by wip/gen/parse.py.) -/
import Derived.Test.YtngkedmndhmjcaaGreatDoorName
namespace Go.Proofs.YtngkedmndhmjcaaGreatDoor
open Go.RowKit

def atP (toks : List TokV) (k : Nat) (e : Int) : Int := match toks[k]? with
  | some t => t.at_
  | none => e
def peekP (toks : List TokV) (k : Nat) : TokV := match toks[k]? with
  | some t => t
  | none => ⟨4, 0, [], 0⟩
def tokV (t : TokV) : Value := .agg #[.int .i64 t.kind, .int .i64 t.at_, .string (bs t.word), .int .i64 t.n]
section
variable {toks : List TokV} {k : Nat} {e : Int}
theorem atP_some {t : TokV} (h : toks[k]? = some t) : atP toks k e = t.at_ := by unfold atP; rw [h]
theorem atP_none (h : toks.length ≤ k) : atP toks k e = e := by unfold atP; rw [List.getElem?_eq_none h]
theorem peekP_some {t : TokV} (h : toks[k]? = some t) : peekP toks k = t := by unfold peekP; rw [h]
theorem peekP_none (h : toks.length ≤ k) : peekP toks k = ⟨4, 0, [], 0⟩ := by unfold peekP; rw [List.getElem?_eq_none h]
end
/-- a phrase's item, its fault, the next token -/
structure Phr where
  how : Int
  at_ : Int
  fn : Int
  flt : Flt
  next : Nat
def phraseP (toks : List TokV) (k : Nat) (e : Int) (left : Bool) : Phr :=
  if (peekP toks (k + 1)).kind = 3 ∧ ((peekP toks (k + 1)).word = [47] ∨ (peekP toks (k + 1)).word = [92] ∨ (peekP toks (k + 1)).word = [46]) then
    if 17 < twoF (peekP toks k).word ∨ ((peekP toks (k + 1)).word == [46]) ≠ left then ⟨if left then 4 else 3, (peekP toks k).at_, twoF (peekP toks k).word, (atP toks k e, 43), k + 1 + 1⟩
    else ⟨if (peekP toks (k + 1)).word = [47] then 5 else if (peekP toks (k + 1)).word = [92] then 6 else 7, (peekP toks k).at_, twoF (peekP toks k).word, if twoF (peekP toks k).word = 0 then (atP toks k e, 43) else (0, 0), k + 1 + 1⟩
  else ⟨if left then 4 else 3, (peekP toks k).at_, verbF (peekP toks k).word left, if verbF (peekP toks k).word left = 0 then (atP toks k e, 43) else (0, 0), k + 1⟩
def phrV (p : Phr) : Value := .tuple #[.agg #[.int .i64 p.how, .int .i64 p.at_, .int .u8 p.fn, .string (bs []), .slice none 0 0], .agg #[.int .i64 p.flt.1, .int .i64 p.flt.2]]
theorem bne_true (b : Bool) : (b != true) = !b := by cases b <;> rfl
theorem bne_false (b : Bool) : (b != false) = b := by cases b <;> rfl
theorem at_zero_api_Token : (Tryz.prog.info? 54).bind (·.zero) = some (.agg #[.int .i64 0, .int .i64 0, .string (bs []), .int .i64 0]) := by kernel_rfl
theorem at_built_api_Token_0 (z0 : Int) : Tryz.prog.built 54 [(0, .int .i64 z0)] = some #[.int .i64 z0, .int .i64 0, .string (bs []), .int .i64 0] := by kernel_rfl
theorem at_zero_api_Fault : (Tryz.prog.info? 32).bind (·.zero) = some (.agg #[.int .i64 0, .int .i64 0]) := by kernel_rfl
theorem at_built_api_Fault_01 (z0 : Int) (z1 : Int) : Tryz.prog.built 32 [(0, .int .i64 z0), (1, .int .i64 z1)] = some #[.int .i64 z0, .int .i64 z1] := by kernel_rfl
theorem at_zero_api_Item : (Tryz.prog.info? 46).bind (·.zero) = some (.agg #[.int .i64 0, .int .i64 0, .int .u8 0, .string (bs []), .slice none 0 0]) := by kernel_rfl
theorem at_built_api_Item_01 (z0 : Int) (z1 : Int) : Tryz.prog.built 46 [(0, .int .i64 z0), (1, .int .i64 z1)] = some #[.int .i64 z0, .int .i64 z1, .int .u8 0, .string (bs []), .slice none 0 0] := by kernel_rfl
theorem at_built_api_Fault_  : Tryz.prog.built 32 [] = some #[.int .i64 0, .int .i64 0] := by kernel_rfl

set_option maxRecDepth 100000 in
theorem at_spec (bl : Nat) (A : Option Addr) (c : Nat) (toks : List TokV) (k : Nat) (e : Int) : Spec Tryz.prog 51 [.pointer (some ⟨bl, 0, none⟩)] [.obj bl (.cells [.slice A toks.length c, .int .i64 (k : Nat), .int .i64 e].toArray 52)] [tokE.sl (.slice A toks.length c) toks] (fun (_ : Unit) => .int .i64 (atP toks k e)) (fun (_ : Unit) => [.obj bl (.cells [.slice A toks.length c, .int .i64 (k : Nat), .int .i64 e].toArray 52)]) (fun _ => []) := by
  have hT := showT_ok
  refine spec_of Tryz.func51 rfl Tryz.ntmps51 rfl ?_
  intro β hM
  refine sr ?_
  refine sp hT ?_
  refine nn ?_
  refine at_seq ?_
  refine at_seq ?_
  refine at_mix _ _ [(true, 0), (true, 1), (true, 2), (true, 3), (true, 4), (true, 5), (true, 6), (true, 7), (true, 8), (true, 9)] mixes (by decide +kernel) (.cons .head .nil) HasAll.self ?_
  refine atm_sti rfl rfl rfl rfl (sti_pure hT rfl) ?_
  refine atm_sti rfl rfl rfl rfl (sti_pure hT rfl) ?_
  refine atm_sti rfl rfl rfl rfl (sti_pure hT rfl) ?_
  refine atm_sti rfl rfl rfl rfl (ldO hT (knows_own (off := 1) .head)) ?_
  refine atm_sti rfl rfl rfl rfl (sti_pure hT rfl) ?_
  refine atm_sti rfl rfl rfl rfl (sti_pure hT rfl) ?_
  refine atm_sti rfl rfl rfl rfl (sti_pure hT rfl) ?_
  refine atm_sti rfl rfl rfl rfl (ldO hT (knows_own (off := 0) .head)) ?_
  refine atm_sti rfl rfl rfl rfl (sti_pure hT rfl) ?_
  refine atm_sti rfl rfl rfl rfl (sti_pure hT rfl) ?_
  refine atm_nil ?_
  refine n_then ?_
  refine at_cond rfl (fun hc12 => ?_) (fun hc12 => ?_)
  · have hc12 := of_decide_eq_true hc12
    refine at_seq ?_
    refine at_mix _ _ [(true, 0), (true, 1), (true, 2), (true, 3), (true, 4), (true, 5), (true, 6), (true, 7), (true, 8), (true, 9), (true, 10), (true, 11)] mixes (by decide +kernel) (.cons .head .nil) HasAll.self ?_
    refine atm_sti rfl rfl rfl rfl (sti_pure hT rfl) ?_
    refine atm_sti rfl rfl rfl rfl (sti_pure hT rfl) ?_
    refine atm_sti rfl rfl rfl rfl (sti_pure hT rfl) ?_
    refine atm_sti rfl rfl rfl rfl (ldO hT (knows_own (off := 0) .head)) ?_
    refine atm_sti rfl rfl rfl rfl (sti_pure hT rfl) ?_
    refine atm_sti rfl rfl rfl rfl (sti_pure hT rfl) ?_
    refine atm_sti rfl rfl rfl rfl (sti_pure hT rfl) ?_
    refine atm_sti rfl rfl rfl rfl (ldO hT (knows_own (off := 1) .head)) ?_
    obtain ⟨x1, hx2⟩ : ∃ x, toks[k]? = some x := ⟨_, List.getElem?_eq_getElem (by omega)⟩
    refine atm_sti rfl rfl rfl rfl (sti_index hT (k := k) (reads_fact (Has.of mT0)) rfl rfl rfl rfl rfl rfl rfl (by omega)) ?_
    refine atm_sti rfl rfl rfl rfl (sti_pure hT rfl) ?_
    refine atm_sti rfl rfl rfl rfl (sti_load1 hT (Reads.knows (reads_fact (Has.of mT0)) (k := k) (x := x1) hx2 1) rfl rfl rfl rfl rfl) ?_
    refine atm_sti rfl rfl rfl rfl (sti_pure hT rfl) ?_
    refine atm_nil ?_
    refine n_then ?_
    refine at_ret ?_
    refine r_then ?_
    exact at_res1 () rfl (rv_tmp rfl) (.cons .head .nil) trivial (by rw [atP_some hx2])
  have hc12 := Int.not_lt.1 (of_decide_eq_false hc12)
  refine at_skip ?_
  refine n_then ?_
  refine sr ?_
  refine sp3 hT ?_
  refine ss (ldO hT (knows_own (off := 2) .head)) ?_
  refine sp hT ?_
  refine nn ?_
  refine at_ret ?_
  exact at_res1 () rfl (rv_tmp rfl) (.cons .head .nil) trivial (by rw [atP_none (by omega)])

set_option maxRecDepth 100000 in
theorem peek_spec (bl : Nat) (A : Option Addr) (c : Nat) (toks : List TokV) (k : Nat) (e : Int) : Spec Tryz.prog 32 [.pointer (some ⟨bl, 0, none⟩)] [.obj bl (.cells [.slice A toks.length c, .int .i64 (k : Nat), .int .i64 e].toArray 52)] [tokE.sl (.slice A toks.length c) toks] (fun (_ : Unit) => tokV (peekP toks k)) (fun (_ : Unit) => [.obj bl (.cells [.slice A toks.length c, .int .i64 (k : Nat), .int .i64 e].toArray 52)]) (fun _ => []) := by
  have hT := showT_ok
  refine spec_of Tryz.func32 rfl Tryz.ntmps32 rfl ?_
  intro β hM
  refine sr ?_
  refine at_alloc rfl rfl rfl rfl at_zero_api_Token rfl fun b1 => ?_
  refine nn ?_
  refine at_seq ?_
  refine at_seq ?_
  refine at_mix _ _ [(true, 0), (true, 1), (true, 2), (true, 3), (true, 4), (true, 5), (true, 6), (true, 7), (true, 8), (true, 9)] mixes (by decide +kernel) (.cons .head (.cons .head .nil)) HasAll.self ?_
  refine atm_sti rfl rfl rfl rfl (sti_pure hT rfl) ?_
  refine atm_sti rfl rfl rfl rfl (sti_pure hT rfl) ?_
  refine atm_sti rfl rfl rfl rfl (sti_pure hT rfl) ?_
  refine atm_sti rfl rfl rfl rfl (ldO hT (knows_own (off := 1) kT1)) ?_
  refine atm_sti rfl rfl rfl rfl (sti_pure hT rfl) ?_
  refine atm_sti rfl rfl rfl rfl (sti_pure hT rfl) ?_
  refine atm_sti rfl rfl rfl rfl (sti_pure hT rfl) ?_
  refine atm_sti rfl rfl rfl rfl (ldO hT (knows_own (off := 0) kT1)) ?_
  refine atm_sti rfl rfl rfl rfl (sti_pure hT rfl) ?_
  refine atm_sti rfl rfl rfl rfl (sti_pure hT rfl) ?_
  refine atm_nil ?_
  refine n_then ?_
  refine at_cond rfl (fun hc12 => ?_) (fun hc12 => ?_)
  · have hc12 := of_decide_eq_true hc12
    refine at_seq ?_
    refine at_mix _ _ [(true, 0), (true, 1), (true, 2), (true, 3), (true, 4), (true, 5), (true, 6), (true, 7), (true, 8), (true, 9), (false, 10)] mixes (by decide +kernel) (.cons kT1 .nil) HasAll.self ?_
    refine atm_sti rfl rfl rfl rfl (sti_pure hT rfl) ?_
    refine atm_sti rfl rfl rfl rfl (sti_pure hT rfl) ?_
    refine atm_sti rfl rfl rfl rfl (sti_pure hT rfl) ?_
    refine atm_sti rfl rfl rfl rfl (ldO hT (knows_own (off := 0) .head)) ?_
    refine atm_sti rfl rfl rfl rfl (sti_pure hT rfl) ?_
    refine atm_sti rfl rfl rfl rfl (sti_pure hT rfl) ?_
    refine atm_sti rfl rfl rfl rfl (sti_pure hT rfl) ?_
    refine atm_sti rfl rfl rfl rfl (ldO hT (knows_own (off := 1) .head)) ?_
    obtain ⟨x2, hx3⟩ : ∃ x, toks[k]? = some x := ⟨_, List.getElem?_eq_getElem (by omega)⟩
    refine atm_sti rfl rfl rfl rfl (sti_index hT (k := k) (reads_fact (Has.of mT0)) rfl rfl rfl rfl rfl rfl rfl (by omega)) ?_
    refine atm_sti rfl rfl rfl rfl (sti_loadN hT (Reads.knows (reads_fact (Has.of mT0)) (k := k) (x := x2) hx3 0) rfl rfl rfl rfl rfl) ?_
    refine atm_op (o := _) rfl ?_
    refine sto hT .head ?_
    refine atm_go (.cons kT1 .nil) ⟨Has.of mT0, trivial⟩ ?_
    refine atm_nil ?_
    refine n_then ?_
    refine at_ret ?_
    refine r_then ?_
    exact at_res1 () rfl (rv_cell hT (knows_own (off := 0) .head) rfl rfl rfl rfl) (.cons kT1 .nil) trivial (by rw [peekP_some hx3]; rfl)
  have hc12 := Int.not_lt.1 (of_decide_eq_false hc12)
  refine at_skip ?_
  refine n_then ?_
  refine sr ?_
  refine ss (sti_build rfl rfl (at_built_api_Token_0 _)) ?_
  refine sto hT .head ?_
  refine nn ?_
  refine at_ret ?_
  exact at_res1 () rfl (rv_cell hT (knows_own (off := 0) .head) rfl rfl rfl rfl) (.cons kT1 .nil) trivial (by rw [peekP_none (by omega)]; rfl)

set_option maxRecDepth 100000 in
theorem fault_spec (bl : Nat) (A : Option Addr) (c : Nat) (toks : List TokV) (k : Nat) (e : Int) (z : Int) : Spec Tryz.prog 33 [.pointer (some ⟨bl, 0, none⟩), .int .i64 z] [.obj bl (.cells [.slice A toks.length c, .int .i64 (k : Nat), .int .i64 e].toArray 52)] [tokE.sl (.slice A toks.length c) toks] (fun (_ : Unit) => .agg #[.int .i64 (atP toks k e), .int .i64 z]) (fun (_ : Unit) => [.obj bl (.cells [.slice A toks.length c, .int .i64 (k : Nat), .int .i64 e].toArray 52)]) (fun _ => []) := by
  have hT := showT_ok
  refine spec_of Tryz.func33 rfl Tryz.ntmps33 rfl ?_
  intro β hM
  refine sr ?_
  refine at_alloc rfl rfl rfl rfl at_zero_api_Fault rfl fun b1 => ?_
  refine nn ?_
  refine sr ?_
  refine sp hT ?_
  refine at_call (callFunc_enter Tryz.func51 rfl rfl) (at_spec bl A c toks (k) e) rfl rfl rfl rfl rfl (.cons kT1 .nil) ⟨Has.of mT0, trivial⟩ fun _ => ?_
  refine sp hT ?_
  refine ss (sti_build rfl rfl (at_built_api_Fault_01 _ _)) ?_
  refine sto hT kT1 ?_
  refine nn ?_
  refine at_ret ?_
  exact at_res1 () rfl (rv_cell hT (knows_own (off := 0) .head) rfl rfl rfl rfl) (.cons kT1 .nil) trivial (rfl)

set_option maxRecDepth 100000 in
theorem phraseT_spec (bl : Nat) (A : Option Addr) (c : Nat) (toks : List TokV) (k : Nat) (e : Int) (hk : k ≤ 1000000) : Spec Tryz.prog 55 [.pointer (some ⟨bl, 0, none⟩), .bool true] [.obj bl (.cells [.slice A toks.length c, .int .i64 (k : Nat), .int .i64 e].toArray 52)] [tokE.sl (.slice A toks.length c) toks] (fun (_ : Unit) => phrV (phraseP toks k e true)) (fun (_ : Unit) => [.obj bl (.cells [.slice A toks.length c, .int .i64 ((phraseP toks k e true).next : Nat), .int .i64 e].toArray 52)]) (fun _ => []) := by
  have hT := showT_ok
  refine spec_of Tryz.func55 rfl Tryz.ntmps55 rfl ?_
  intro β hM
  refine sr ?_
  refine at_alloc rfl rfl rfl rfl at_zero_api_Item rfl fun b1 => ?_
  refine at_alloc rfl rfl rfl rfl at_zero_api_Fault rfl fun b2 => ?_
  refine nn ?_
  refine sr ?_
  refine sp hT ?_
  refine at_call (callFunc_enter Tryz.func32 rfl rfl) (peek_spec bl A c toks (k) e) rfl rfl rfl rfl rfl (.cons kT2 .nil) ⟨Has.of mT0, trivial⟩ fun _ => ?_
  refine at_alloc rfl rfl rfl rfl at_zero_api_Token rfl fun b3 => ?_
  refine sto hT .head ?_
  refine nn ?_
  refine sr ?_
  refine sp hT ?_
  refine at_call (callFunc_enter Tryz.func33 rfl rfl) (fault_spec bl A c toks (k) e _) rfl rfl rfl rfl rfl (.cons kT1 .nil) ⟨Has.of mT0, trivial⟩ fun _ => ?_
  refine at_alloc rfl rfl rfl rfl at_zero_api_Fault rfl fun b4 => ?_
  refine sto hT .head ?_
  refine nn ?_
  refine sr ?_
  refine sp3 hT ?_
  refine ss (ldO hT (knows_own (off := 1) kT1)) ?_
  refine sp hT ?_
  refine at_int (z' := (((k + 1) : Nat) : Int)) (wrapN (by omega) (by omega)) ?_
  refine sp2 hT ?_
  refine sto hT kT1 ?_
  refine nn ?_
  refine sr ?_
  refine sp hT ?_
  refine ss (ldO hT (knows_own (off := 1) kT2)) ?_
  refine ss (sti_build rfl rfl (at_built_api_Item_01 _ _)) ?_
  refine at_alloc rfl rfl rfl rfl at_zero_api_Item rfl fun b5 => ?_
  refine sto hT .head ?_
  refine nn ?_
  refine at_seq ?_
  refine sr ?_
  refine sp hT ?_
  refine nn ?_
  refine at_true rfl rfl ?_
  refine at_region ?_
  refine sp hT ?_
  refine sto hT .head ?_
  refine nn ?_
  refine sr ?_
  refine sp hT ?_
  refine ss (ldO hT (knows_own (off := 2) kT3)) ?_
  refine sp hT ?_
  refine at_call (callFunc_enter Tryz.func43 rfl rfl) (Verb_spec _ true) rfl rfl rfl rfl rfl .nil trivial fun _ => ?_
  refine sp4 hT ?_
  refine sto hT .head ?_
  refine nn ?_
  refine at_seq ?_
  refine sr ?_
  refine sp hT ?_
  refine at_call (callFunc_enter Tryz.func32 rfl rfl) (peek_spec bl A c toks ((k + 1)) e) rfl rfl rfl rfl rfl (.cons kT1 .nil) ⟨Has.of mT0, trivial⟩ fun _ => ?_
  refine at_alloc rfl rfl rfl rfl at_zero_api_Token rfl fun b6 => ?_
  refine sto hT .head ?_
  refine nn ?_
  refine sr ?_
  refine sp hT ?_
  refine ss (ldO hT (knows_own (off := 0) .head)) ?_
  refine sp2 hT ?_
  refine at_case (fun hg39 => ?_) (fun hg39 => ?_)
  · have hg39 := eq_of_beq hg39
    refine sp hT ?_
    refine ss (ldO hT (knows_own (off := 2) .head)) ?_
    refine sp2 hT ?_
    refine at_case (fun hg43 => ?_) (fun hg43 => ?_)
    · have hg43 : (peekP toks ((k + 1))).word = ([47] : Bs) := eq_of_beq hg43
      refine sk3 ?_
      refine sp2 hT ?_
      refine sk3 ?_
      refine sp2 hT ?_
      refine nn ?_
      refine at_true rfl rfl ?_
      refine sr ?_
      refine sp3 hT ?_
      refine ss (ldO hT (knows_own (off := 1) kT1)) ?_
      refine sp hT ?_
      refine at_int (z' := ((((k + 1) + 1) : Nat) : Int)) (wrapN (by omega) (by omega)) ?_
      refine sp2 hT ?_
      refine sto hT kT1 ?_
      refine nn ?_
      refine sr ?_
      refine sp hT ?_
      refine ss (ldO hT (knows_own (off := 2) kT4)) ?_
      refine at_call (callFunc_enter Tryz.func63 rfl rfl) (two_spec _) rfl rfl rfl rfl rfl .nil trivial fun _ => ?_
      refine sp hT ?_
      refine sto hT kT2 ?_
      refine nn ?_
      refine at_seq ?_
      refine sr ?_
      refine sp hT ?_
      refine ss (ldO hT (knows_own (off := 2) .head)) ?_
      refine sp2 hT ?_
      refine at_case (fun hg68 => ?_) (fun hg68 => ?_)
      · have hg68 := of_decide_eq_true hg68
        refine sk4 ?_
        refine sk ?_
        refine sp hT ?_
        refine nn ?_
        refine at_true rfl rfl ?_
        refine at_seq ?_
        refine at_mix _ _ [(true, 0), (true, 1), (false, 2), (false, 3)] mixes (by decide +kernel) (.cons .head (.cons .head (.cons .head (.cons .head (.cons .head .nil))))) HasAll.self ?_
        refine atm_sti rfl rfl rfl rfl (ldN hT (knows_own (off := 0) .head)) ?_
        refine atm_sti rfl rfl rfl rfl (ldN hT (knows_own (off := 0) kT3)) ?_
        refine atm_op (o := _) rfl ?_
        refine sto hT kT6 ?_
        refine atm_go (.cons kT1 (.cons kT1 (.cons kT1 (.cons kT1 (.cons kT1 .nil))))) ⟨Has.of mT0, trivial⟩ ?_
        refine atm_op (o := _) rfl ?_
        refine sto hT kT6 ?_
        refine atm_go (.cons kT2 (.cons kT2 (.cons kT2 (.cons kT2 (.cons kT2 .nil))))) ⟨Has.of mT0, trivial⟩ ?_
        refine atm_nil ?_
        refine n_then ?_
        refine at_ret ?_
        refine r_then ?_
        refine r_then ?_
        have hph : phraseP toks k e true = ⟨4, (peekP toks (k)).at_, (twoF (peekP toks k).word), ((atP toks (k) e), 43), ((k + 1) + 1)⟩ := by first | (simp [phraseP, *]; done) | simp_all [phraseP]
        rw [hph]
        exact at_res2 () rfl (rv_cell hT (knows_own (off := 0) kT1) rfl rfl rfl rfl) (rv_cell hT (knows_own (off := 0) .head) rfl rfl rfl rfl) (.cons kT3 .nil) trivial (rfl)
      have hg68 := Int.not_lt.1 (of_decide_eq_false hg68)
      refine sp hT ?_
      refine ss (ldO hT (knows_own (off := 2) kT2)) ?_
      refine sp hT ?_
      refine at_bool (t' := false) ((by show ((peekP toks ((k + 1))).word == ([46] : Bs)) = _; rw [hg43]; rfl)) ?_
      refine sp2 hT ?_
      refine at_bool (t' := true) rfl ?_
      refine sp hT ?_
      refine nn ?_
      refine at_true rfl rfl ?_
      refine at_seq ?_
      refine at_mix _ _ [(true, 0), (true, 1), (false, 2), (false, 3)] mixes (by decide +kernel) (.cons .head (.cons .head (.cons .head (.cons .head (.cons .head .nil))))) HasAll.self ?_
      refine atm_sti rfl rfl rfl rfl (ldN hT (knows_own (off := 0) .head)) ?_
      refine atm_sti rfl rfl rfl rfl (ldN hT (knows_own (off := 0) kT3)) ?_
      refine atm_op (o := _) rfl ?_
      refine sto hT kT6 ?_
      refine atm_go (.cons kT1 (.cons kT1 (.cons kT1 (.cons kT1 (.cons kT1 .nil))))) ⟨Has.of mT0, trivial⟩ ?_
      refine atm_op (o := _) rfl ?_
      refine sto hT kT6 ?_
      refine atm_go (.cons kT2 (.cons kT2 (.cons kT2 (.cons kT2 (.cons kT2 .nil))))) ⟨Has.of mT0, trivial⟩ ?_
      refine atm_nil ?_
      refine n_then ?_
      refine at_ret ?_
      refine r_then ?_
      refine r_then ?_
      have hph : phraseP toks k e true = ⟨4, (peekP toks (k)).at_, (twoF (peekP toks k).word), ((atP toks (k) e), 43), ((k + 1) + 1)⟩ := by first | (simp [phraseP, *]; done) | simp_all [phraseP]
      rw [hph]
      exact at_res2 () rfl (rv_cell hT (knows_own (off := 0) kT1) rfl rfl rfl rfl) (rv_cell hT (knows_own (off := 0) .head) rfl rfl rfl rfl) (.cons kT3 .nil) trivial (rfl)
    have hg43 : (peekP toks ((k + 1))).word ≠ ([47] : Bs) := fun h => absurd (beq_iff_eq.2 h) (by rw [show ((peekP toks ((k + 1))).word == ([47] : Bs)) = false from hg43]; simp)
    refine sp hT ?_
    refine ss (ldO hT (knows_own (off := 2) .head)) ?_
    refine sp3 hT ?_
    refine at_case (fun hg48 => ?_) (fun hg48 => ?_)
    · have hg48 : (peekP toks ((k + 1))).word = ([92] : Bs) := eq_of_beq hg48
      refine sk3 ?_
      refine sp2 hT ?_
      refine nn ?_
      refine at_true rfl rfl ?_
      refine sr ?_
      refine sp3 hT ?_
      refine ss (ldO hT (knows_own (off := 1) kT1)) ?_
      refine sp hT ?_
      refine at_int (z' := ((((k + 1) + 1) : Nat) : Int)) (wrapN (by omega) (by omega)) ?_
      refine sp2 hT ?_
      refine sto hT kT1 ?_
      refine nn ?_
      refine sr ?_
      refine sp hT ?_
      refine ss (ldO hT (knows_own (off := 2) kT4)) ?_
      refine at_call (callFunc_enter Tryz.func63 rfl rfl) (two_spec _) rfl rfl rfl rfl rfl .nil trivial fun _ => ?_
      refine sp hT ?_
      refine sto hT kT2 ?_
      refine nn ?_
      refine at_seq ?_
      refine sr ?_
      refine sp hT ?_
      refine ss (ldO hT (knows_own (off := 2) .head)) ?_
      refine sp2 hT ?_
      refine at_case (fun hg68 => ?_) (fun hg68 => ?_)
      · have hg68 := of_decide_eq_true hg68
        refine sk4 ?_
        refine sk ?_
        refine sp hT ?_
        refine nn ?_
        refine at_true rfl rfl ?_
        refine at_seq ?_
        refine at_mix _ _ [(true, 0), (true, 1), (false, 2), (false, 3)] mixes (by decide +kernel) (.cons .head (.cons .head (.cons .head (.cons .head (.cons .head .nil))))) HasAll.self ?_
        refine atm_sti rfl rfl rfl rfl (ldN hT (knows_own (off := 0) .head)) ?_
        refine atm_sti rfl rfl rfl rfl (ldN hT (knows_own (off := 0) kT3)) ?_
        refine atm_op (o := _) rfl ?_
        refine sto hT kT6 ?_
        refine atm_go (.cons kT1 (.cons kT1 (.cons kT1 (.cons kT1 (.cons kT1 .nil))))) ⟨Has.of mT0, trivial⟩ ?_
        refine atm_op (o := _) rfl ?_
        refine sto hT kT6 ?_
        refine atm_go (.cons kT2 (.cons kT2 (.cons kT2 (.cons kT2 (.cons kT2 .nil))))) ⟨Has.of mT0, trivial⟩ ?_
        refine atm_nil ?_
        refine n_then ?_
        refine at_ret ?_
        refine r_then ?_
        refine r_then ?_
        have hph : phraseP toks k e true = ⟨4, (peekP toks (k)).at_, (twoF (peekP toks k).word), ((atP toks (k) e), 43), ((k + 1) + 1)⟩ := by first | (simp [phraseP, *]; done) | simp_all [phraseP]
        rw [hph]
        exact at_res2 () rfl (rv_cell hT (knows_own (off := 0) kT1) rfl rfl rfl rfl) (rv_cell hT (knows_own (off := 0) .head) rfl rfl rfl rfl) (.cons kT3 .nil) trivial (rfl)
      have hg68 := Int.not_lt.1 (of_decide_eq_false hg68)
      refine sp hT ?_
      refine ss (ldO hT (knows_own (off := 2) kT2)) ?_
      refine sp hT ?_
      refine at_bool (t' := false) ((by show ((peekP toks ((k + 1))).word == ([46] : Bs)) = _; rw [hg48]; rfl)) ?_
      refine sp2 hT ?_
      refine at_bool (t' := true) rfl ?_
      refine sp hT ?_
      refine nn ?_
      refine at_true rfl rfl ?_
      refine at_seq ?_
      refine at_mix _ _ [(true, 0), (true, 1), (false, 2), (false, 3)] mixes (by decide +kernel) (.cons .head (.cons .head (.cons .head (.cons .head (.cons .head .nil))))) HasAll.self ?_
      refine atm_sti rfl rfl rfl rfl (ldN hT (knows_own (off := 0) .head)) ?_
      refine atm_sti rfl rfl rfl rfl (ldN hT (knows_own (off := 0) kT3)) ?_
      refine atm_op (o := _) rfl ?_
      refine sto hT kT6 ?_
      refine atm_go (.cons kT1 (.cons kT1 (.cons kT1 (.cons kT1 (.cons kT1 .nil))))) ⟨Has.of mT0, trivial⟩ ?_
      refine atm_op (o := _) rfl ?_
      refine sto hT kT6 ?_
      refine atm_go (.cons kT2 (.cons kT2 (.cons kT2 (.cons kT2 (.cons kT2 .nil))))) ⟨Has.of mT0, trivial⟩ ?_
      refine atm_nil ?_
      refine n_then ?_
      refine at_ret ?_
      refine r_then ?_
      refine r_then ?_
      have hph : phraseP toks k e true = ⟨4, (peekP toks (k)).at_, (twoF (peekP toks k).word), ((atP toks (k) e), 43), ((k + 1) + 1)⟩ := by first | (simp [phraseP, *]; done) | simp_all [phraseP]
      rw [hph]
      exact at_res2 () rfl (rv_cell hT (knows_own (off := 0) kT1) rfl rfl rfl rfl) (rv_cell hT (knows_own (off := 0) .head) rfl rfl rfl rfl) (.cons kT3 .nil) trivial (rfl)
    have hg48 : (peekP toks ((k + 1))).word ≠ ([92] : Bs) := fun h => absurd (beq_iff_eq.2 h) (by rw [show ((peekP toks ((k + 1))).word == ([92] : Bs)) = false from hg48]; simp)
    refine sp hT ?_
    refine ss (ldO hT (knows_own (off := 2) .head)) ?_
    refine sp3 hT ?_
    refine nn ?_
    refine at_cond rfl (fun hc53 => ?_) (fun hc53 => ?_)
    · have hc53 : (peekP toks ((k + 1))).word = ([46] : Bs) := eq_of_beq hc53
      refine sr ?_
      refine sp3 hT ?_
      refine ss (ldO hT (knows_own (off := 1) kT1)) ?_
      refine sp hT ?_
      refine at_int (z' := ((((k + 1) + 1) : Nat) : Int)) (wrapN (by omega) (by omega)) ?_
      refine sp2 hT ?_
      refine sto hT kT1 ?_
      refine nn ?_
      refine sr ?_
      refine sp hT ?_
      refine ss (ldO hT (knows_own (off := 2) kT4)) ?_
      refine at_call (callFunc_enter Tryz.func63 rfl rfl) (two_spec _) rfl rfl rfl rfl rfl .nil trivial fun _ => ?_
      refine sp hT ?_
      refine sto hT kT2 ?_
      refine nn ?_
      refine at_seq ?_
      refine sr ?_
      refine sp hT ?_
      refine ss (ldO hT (knows_own (off := 2) .head)) ?_
      refine sp2 hT ?_
      refine at_case (fun hg68 => ?_) (fun hg68 => ?_)
      · have hg68 := of_decide_eq_true hg68
        refine sk4 ?_
        refine sk ?_
        refine sp hT ?_
        refine nn ?_
        refine at_true rfl rfl ?_
        refine at_seq ?_
        refine at_mix _ _ [(true, 0), (true, 1), (false, 2), (false, 3)] mixes (by decide +kernel) (.cons .head (.cons .head (.cons .head (.cons .head (.cons .head .nil))))) HasAll.self ?_
        refine atm_sti rfl rfl rfl rfl (ldN hT (knows_own (off := 0) .head)) ?_
        refine atm_sti rfl rfl rfl rfl (ldN hT (knows_own (off := 0) kT3)) ?_
        refine atm_op (o := _) rfl ?_
        refine sto hT kT6 ?_
        refine atm_go (.cons kT1 (.cons kT1 (.cons kT1 (.cons kT1 (.cons kT1 .nil))))) ⟨Has.of mT0, trivial⟩ ?_
        refine atm_op (o := _) rfl ?_
        refine sto hT kT6 ?_
        refine atm_go (.cons kT2 (.cons kT2 (.cons kT2 (.cons kT2 (.cons kT2 .nil))))) ⟨Has.of mT0, trivial⟩ ?_
        refine atm_nil ?_
        refine n_then ?_
        refine at_ret ?_
        refine r_then ?_
        refine r_then ?_
        have hph : phraseP toks k e true = ⟨4, (peekP toks (k)).at_, (twoF (peekP toks k).word), ((atP toks (k) e), 43), ((k + 1) + 1)⟩ := by first | (simp [phraseP, *]; done) | simp_all [phraseP]
        rw [hph]
        exact at_res2 () rfl (rv_cell hT (knows_own (off := 0) kT1) rfl rfl rfl rfl) (rv_cell hT (knows_own (off := 0) .head) rfl rfl rfl rfl) (.cons kT3 .nil) trivial (rfl)
      have hg68 := Int.not_lt.1 (of_decide_eq_false hg68)
      refine sp hT ?_
      refine ss (ldO hT (knows_own (off := 2) kT2)) ?_
      refine sp hT ?_
      refine at_bool (t' := true) ((by show ((peekP toks ((k + 1))).word == ([46] : Bs)) = _; rw [hc53]; rfl)) ?_
      refine sp2 hT ?_
      refine at_bool (t' := false) rfl ?_
      refine sp hT ?_
      refine nn ?_
      refine at_false rfl rfl ?_
      refine at_skip ?_
      refine n_then ?_
      refine sr ?_
      refine sp hT ?_
      refine ss (ldO hT (knows_own (off := 2) kT2)) ?_
      refine nn ?_
      refine at_block ?_
      refine sr ?_
      refine sp hT ?_
      refine at_bool (t' := false) ((by show ((peekP toks ((k + 1))).word == ([47] : Bs)) = _; rw [hc53]; rfl)) ?_
      refine sp hT ?_
      refine nn ?_
      refine at_false rfl rfl ?_
      refine sr ?_
      refine sp hT ?_
      refine at_bool (t' := false) ((by show ((peekP toks ((k + 1))).word == ([92] : Bs)) = _; rw [hc53]; rfl)) ?_
      refine sp hT ?_
      refine nn ?_
      refine at_false rfl rfl ?_
      refine at_region ?_
      refine sp hT ?_
      refine sto hT .head ?_
      refine at_nil ?_
      refine n_block ?_
      refine n_then ?_
      refine at_seq ?_
      refine sr ?_
      refine sp hT ?_
      refine ss (ldO hT (knows_own (off := 2) .head)) ?_
      refine sp hT ?_
      refine nn ?_
      refine at_cond rfl (fun hc88 => ?_) (fun hc88 => ?_)
      · have hc88 := eq_of_beq hc88
        refine at_seq ?_
        refine at_mix _ _ [(true, 0), (true, 1), (false, 2), (false, 3)] mixes (by decide +kernel) (.cons .head (.cons .head (.cons .head (.cons .head (.cons .head .nil))))) HasAll.self ?_
        refine atm_sti rfl rfl rfl rfl (ldN hT (knows_own (off := 0) .head)) ?_
        refine atm_sti rfl rfl rfl rfl (ldN hT (knows_own (off := 0) kT3)) ?_
        refine atm_op (o := _) rfl ?_
        refine sto hT kT6 ?_
        refine atm_go (.cons kT1 (.cons kT1 (.cons kT1 (.cons kT1 (.cons kT1 .nil))))) ⟨Has.of mT0, trivial⟩ ?_
        refine atm_op (o := _) rfl ?_
        refine sto hT kT6 ?_
        refine atm_go (.cons kT2 (.cons kT2 (.cons kT2 (.cons kT2 (.cons kT2 .nil))))) ⟨Has.of mT0, trivial⟩ ?_
        refine atm_nil ?_
        refine n_then ?_
        refine at_ret ?_
        refine r_then ?_
        have hph : phraseP toks k e true = ⟨7, (peekP toks (k)).at_, (twoF (peekP toks k).word), ((atP toks (k) e), 43), ((k + 1) + 1)⟩ := by first | (simp [phraseP, *]; done) | simp_all [phraseP]
        rw [hph]
        exact at_res2 () rfl (rv_cell hT (knows_own (off := 0) kT1) rfl rfl rfl rfl) (rv_cell hT (knows_own (off := 0) .head) rfl rfl rfl rfl) (.cons kT3 .nil) trivial (rfl)
      have hc88 := beq_eq_false_iff_ne.1 hc88
      refine at_skip ?_
      refine n_then ?_
      refine sr ?_
      refine ss (ldN hT (knows_own (off := 0) .head)) ?_
      refine ss (sti_build rfl rfl (at_built_api_Fault_)) ?_
      refine sto hT kT6 ?_
      refine sto hT kT6 ?_
      refine nn ?_
      refine at_ret ?_
      have hph : phraseP toks k e true = ⟨7, (peekP toks (k)).at_, (twoF (peekP toks k).word), (0, 0), ((k + 1) + 1)⟩ := by first | (simp [phraseP, *]; done) | simp_all [phraseP]
      rw [hph]
      exact at_res2 () rfl (rv_cell hT (knows_own (off := 0) kT1) rfl rfl rfl rfl) (rv_cell hT (knows_own (off := 0) .head) rfl rfl rfl rfl) (.cons kT3 .nil) trivial (rfl)
    have hc53 : (peekP toks ((k + 1))).word ≠ ([46] : Bs) := fun h => absurd (beq_iff_eq.2 h) (by rw [show ((peekP toks ((k + 1))).word == ([46] : Bs)) = false from hc53]; simp)
    refine at_skip ?_
    refine n_then ?_
    refine at_seq ?_
    refine sr ?_
    refine sp hT ?_
    refine ss (ldO hT (knows_own (off := 2) kT2)) ?_
    refine sp hT ?_
    refine nn ?_
    refine at_cond rfl (fun hc88 => ?_) (fun hc88 => ?_)
    · have hc88 := eq_of_beq hc88
      refine at_seq ?_
      refine at_mix _ _ [(true, 0), (true, 1), (false, 2), (false, 3)] mixes (by decide +kernel) (.cons .head (.cons .head (.cons .head (.cons .head (.cons .head .nil))))) HasAll.self ?_
      refine atm_sti rfl rfl rfl rfl (ldN hT (knows_own (off := 0) kT2)) ?_
      refine atm_sti rfl rfl rfl rfl (ldN hT (knows_own (off := 0) kT3)) ?_
      refine atm_op (o := _) rfl ?_
      refine sto hT kT6 ?_
      refine atm_go (.cons kT1 (.cons kT1 (.cons kT1 (.cons kT1 (.cons kT1 .nil))))) ⟨Has.of mT0, trivial⟩ ?_
      refine atm_op (o := _) rfl ?_
      refine sto hT kT6 ?_
      refine atm_go (.cons kT2 (.cons kT2 (.cons kT2 (.cons kT2 (.cons kT2 .nil))))) ⟨Has.of mT0, trivial⟩ ?_
      refine atm_nil ?_
      refine n_then ?_
      refine at_ret ?_
      refine r_then ?_
      have hph : phraseP toks k e true = ⟨4, (peekP toks (k)).at_, (verbF (peekP toks k).word true), ((atP toks (k) e), 43), (k + 1)⟩ := by first | (simp [phraseP, *]; done) | simp_all [phraseP]
      rw [hph]
      exact at_res2 () rfl (rv_cell hT (knows_own (off := 0) kT1) rfl rfl rfl rfl) (rv_cell hT (knows_own (off := 0) .head) rfl rfl rfl rfl) (.cons kT3 .nil) trivial (rfl)
    have hc88 := beq_eq_false_iff_ne.1 hc88
    refine at_skip ?_
    refine n_then ?_
    refine sr ?_
    refine ss (ldN hT (knows_own (off := 0) kT2)) ?_
    refine ss (sti_build rfl rfl (at_built_api_Fault_)) ?_
    refine sto hT kT6 ?_
    refine sto hT kT6 ?_
    refine nn ?_
    refine at_ret ?_
    have hph : phraseP toks k e true = ⟨4, (peekP toks (k)).at_, (verbF (peekP toks k).word true), (0, 0), (k + 1)⟩ := by first | (simp [phraseP, *]; done) | simp_all [phraseP]
    rw [hph]
    exact at_res2 () rfl (rv_cell hT (knows_own (off := 0) kT1) rfl rfl rfl rfl) (rv_cell hT (knows_own (off := 0) .head) rfl rfl rfl rfl) (.cons kT3 .nil) trivial (rfl)
  have hg39 := beq_eq_false_iff_ne.1 hg39
  refine sk4 ?_
  refine sk4 ?_
  refine sk4 ?_
  refine sk ?_
  refine sp hT ?_
  refine nn ?_
  refine at_false rfl rfl ?_
  refine at_skip ?_
  refine n_then ?_
  refine at_seq ?_
  refine sr ?_
  refine sp hT ?_
  refine ss (ldO hT (knows_own (off := 2) kT2)) ?_
  refine sp hT ?_
  refine nn ?_
  refine at_cond rfl (fun hc88 => ?_) (fun hc88 => ?_)
  · have hc88 := eq_of_beq hc88
    refine at_seq ?_
    refine at_mix _ _ [(true, 0), (true, 1), (false, 2), (false, 3)] mixes (by decide +kernel) (.cons .head (.cons .head (.cons .head (.cons .head (.cons .head .nil))))) HasAll.self ?_
    refine atm_sti rfl rfl rfl rfl (ldN hT (knows_own (off := 0) kT2)) ?_
    refine atm_sti rfl rfl rfl rfl (ldN hT (knows_own (off := 0) kT3)) ?_
    refine atm_op (o := _) rfl ?_
    refine sto hT kT6 ?_
    refine atm_go (.cons kT1 (.cons kT1 (.cons kT1 (.cons kT1 (.cons kT1 .nil))))) ⟨Has.of mT0, trivial⟩ ?_
    refine atm_op (o := _) rfl ?_
    refine sto hT kT6 ?_
    refine atm_go (.cons kT2 (.cons kT2 (.cons kT2 (.cons kT2 (.cons kT2 .nil))))) ⟨Has.of mT0, trivial⟩ ?_
    refine atm_nil ?_
    refine n_then ?_
    refine at_ret ?_
    refine r_then ?_
    have hph : phraseP toks k e true = ⟨4, (peekP toks (k)).at_, (verbF (peekP toks k).word true), ((atP toks (k) e), 43), (k + 1)⟩ := by first | (simp [phraseP, *]; done) | simp_all [phraseP]
    rw [hph]
    exact at_res2 () rfl (rv_cell hT (knows_own (off := 0) kT1) rfl rfl rfl rfl) (rv_cell hT (knows_own (off := 0) .head) rfl rfl rfl rfl) (.cons kT3 .nil) trivial (rfl)
  have hc88 := beq_eq_false_iff_ne.1 hc88
  refine at_skip ?_
  refine n_then ?_
  refine sr ?_
  refine ss (ldN hT (knows_own (off := 0) kT2)) ?_
  refine ss (sti_build rfl rfl (at_built_api_Fault_)) ?_
  refine sto hT kT6 ?_
  refine sto hT kT6 ?_
  refine nn ?_
  refine at_ret ?_
  have hph : phraseP toks k e true = ⟨4, (peekP toks (k)).at_, (verbF (peekP toks k).word true), (0, 0), (k + 1)⟩ := by first | (simp [phraseP, *]; done) | simp_all [phraseP]
  rw [hph]
  exact at_res2 () rfl (rv_cell hT (knows_own (off := 0) kT1) rfl rfl rfl rfl) (rv_cell hT (knows_own (off := 0) .head) rfl rfl rfl rfl) (.cons kT3 .nil) trivial (rfl)

set_option maxRecDepth 100000 in
theorem phraseF_spec (bl : Nat) (A : Option Addr) (c : Nat) (toks : List TokV) (k : Nat) (e : Int) (hk : k ≤ 1000000) : Spec Tryz.prog 55 [.pointer (some ⟨bl, 0, none⟩), .bool false] [.obj bl (.cells [.slice A toks.length c, .int .i64 (k : Nat), .int .i64 e].toArray 52)] [tokE.sl (.slice A toks.length c) toks] (fun (_ : Unit) => phrV (phraseP toks k e false)) (fun (_ : Unit) => [.obj bl (.cells [.slice A toks.length c, .int .i64 ((phraseP toks k e false).next : Nat), .int .i64 e].toArray 52)]) (fun _ => []) := by
  have hT := showT_ok
  refine spec_of Tryz.func55 rfl Tryz.ntmps55 rfl ?_
  intro β hM
  refine sr ?_
  refine at_alloc rfl rfl rfl rfl at_zero_api_Item rfl fun b1 => ?_
  refine at_alloc rfl rfl rfl rfl at_zero_api_Fault rfl fun b2 => ?_
  refine nn ?_
  refine sr ?_
  refine sp hT ?_
  refine at_call (callFunc_enter Tryz.func32 rfl rfl) (peek_spec bl A c toks (k) e) rfl rfl rfl rfl rfl (.cons kT2 .nil) ⟨Has.of mT0, trivial⟩ fun _ => ?_
  refine at_alloc rfl rfl rfl rfl at_zero_api_Token rfl fun b3 => ?_
  refine sto hT .head ?_
  refine nn ?_
  refine sr ?_
  refine sp hT ?_
  refine at_call (callFunc_enter Tryz.func33 rfl rfl) (fault_spec bl A c toks (k) e _) rfl rfl rfl rfl rfl (.cons kT1 .nil) ⟨Has.of mT0, trivial⟩ fun _ => ?_
  refine at_alloc rfl rfl rfl rfl at_zero_api_Fault rfl fun b4 => ?_
  refine sto hT .head ?_
  refine nn ?_
  refine sr ?_
  refine sp3 hT ?_
  refine ss (ldO hT (knows_own (off := 1) kT1)) ?_
  refine sp hT ?_
  refine at_int (z' := (((k + 1) : Nat) : Int)) (wrapN (by omega) (by omega)) ?_
  refine sp2 hT ?_
  refine sto hT kT1 ?_
  refine nn ?_
  refine sr ?_
  refine sp hT ?_
  refine ss (ldO hT (knows_own (off := 1) kT2)) ?_
  refine ss (sti_build rfl rfl (at_built_api_Item_01 _ _)) ?_
  refine at_alloc rfl rfl rfl rfl at_zero_api_Item rfl fun b5 => ?_
  refine sto hT .head ?_
  refine nn ?_
  refine at_seq ?_
  refine sr ?_
  refine sp hT ?_
  refine nn ?_
  refine at_false rfl rfl ?_
  refine at_skip ?_
  refine n_then ?_
  refine sr ?_
  refine sp hT ?_
  refine ss (ldO hT (knows_own (off := 2) kT3)) ?_
  refine sp hT ?_
  refine at_call (callFunc_enter Tryz.func43 rfl rfl) (Verb_spec _ false) rfl rfl rfl rfl rfl .nil trivial fun _ => ?_
  refine sp4 hT ?_
  refine sto hT .head ?_
  refine nn ?_
  refine at_seq ?_
  refine sr ?_
  refine sp hT ?_
  refine at_call (callFunc_enter Tryz.func32 rfl rfl) (peek_spec bl A c toks ((k + 1)) e) rfl rfl rfl rfl rfl (.cons kT1 .nil) ⟨Has.of mT0, trivial⟩ fun _ => ?_
  refine at_alloc rfl rfl rfl rfl at_zero_api_Token rfl fun b6 => ?_
  refine sto hT .head ?_
  refine nn ?_
  refine sr ?_
  refine sp hT ?_
  refine ss (ldO hT (knows_own (off := 0) .head)) ?_
  refine sp2 hT ?_
  refine at_case (fun hg39 => ?_) (fun hg39 => ?_)
  · have hg39 := eq_of_beq hg39
    refine sp hT ?_
    refine ss (ldO hT (knows_own (off := 2) .head)) ?_
    refine sp2 hT ?_
    refine at_case (fun hg43 => ?_) (fun hg43 => ?_)
    · have hg43 : (peekP toks ((k + 1))).word = ([47] : Bs) := eq_of_beq hg43
      refine sk3 ?_
      refine sp2 hT ?_
      refine sk3 ?_
      refine sp2 hT ?_
      refine nn ?_
      refine at_true rfl rfl ?_
      refine sr ?_
      refine sp3 hT ?_
      refine ss (ldO hT (knows_own (off := 1) kT1)) ?_
      refine sp hT ?_
      refine at_int (z' := ((((k + 1) + 1) : Nat) : Int)) (wrapN (by omega) (by omega)) ?_
      refine sp2 hT ?_
      refine sto hT kT1 ?_
      refine nn ?_
      refine sr ?_
      refine sp hT ?_
      refine ss (ldO hT (knows_own (off := 2) kT4)) ?_
      refine at_call (callFunc_enter Tryz.func63 rfl rfl) (two_spec _) rfl rfl rfl rfl rfl .nil trivial fun _ => ?_
      refine sp hT ?_
      refine sto hT kT2 ?_
      refine nn ?_
      refine at_seq ?_
      refine sr ?_
      refine sp hT ?_
      refine ss (ldO hT (knows_own (off := 2) .head)) ?_
      refine sp2 hT ?_
      refine at_case (fun hg68 => ?_) (fun hg68 => ?_)
      · have hg68 := of_decide_eq_true hg68
        refine sk4 ?_
        refine sk ?_
        refine sp hT ?_
        refine nn ?_
        refine at_true rfl rfl ?_
        refine at_seq ?_
        refine at_mix _ _ [(true, 0), (true, 1), (false, 2), (false, 3)] mixes (by decide +kernel) (.cons .head (.cons .head (.cons .head (.cons .head (.cons .head .nil))))) HasAll.self ?_
        refine atm_sti rfl rfl rfl rfl (ldN hT (knows_own (off := 0) .head)) ?_
        refine atm_sti rfl rfl rfl rfl (ldN hT (knows_own (off := 0) kT3)) ?_
        refine atm_op (o := _) rfl ?_
        refine sto hT kT6 ?_
        refine atm_go (.cons kT1 (.cons kT1 (.cons kT1 (.cons kT1 (.cons kT1 .nil))))) ⟨Has.of mT0, trivial⟩ ?_
        refine atm_op (o := _) rfl ?_
        refine sto hT kT6 ?_
        refine atm_go (.cons kT2 (.cons kT2 (.cons kT2 (.cons kT2 (.cons kT2 .nil))))) ⟨Has.of mT0, trivial⟩ ?_
        refine atm_nil ?_
        refine n_then ?_
        refine at_ret ?_
        refine r_then ?_
        refine r_then ?_
        have hph : phraseP toks k e false = ⟨3, (peekP toks (k)).at_, (twoF (peekP toks k).word), ((atP toks (k) e), 43), ((k + 1) + 1)⟩ := by first | (simp [phraseP, *]; done) | simp_all [phraseP]
        rw [hph]
        exact at_res2 () rfl (rv_cell hT (knows_own (off := 0) kT1) rfl rfl rfl rfl) (rv_cell hT (knows_own (off := 0) .head) rfl rfl rfl rfl) (.cons kT3 .nil) trivial (rfl)
      have hg68 := Int.not_lt.1 (of_decide_eq_false hg68)
      refine sp hT ?_
      refine ss (ldO hT (knows_own (off := 2) kT2)) ?_
      refine sp hT ?_
      refine at_bool (t' := false) ((by show ((peekP toks ((k + 1))).word == ([46] : Bs)) = _; rw [hg43]; rfl)) ?_
      refine sp2 hT ?_
      refine at_bool (t' := false) rfl ?_
      refine sp hT ?_
      refine nn ?_
      refine at_false rfl rfl ?_
      refine at_skip ?_
      refine n_then ?_
      refine sr ?_
      refine sp hT ?_
      refine ss (ldO hT (knows_own (off := 2) kT2)) ?_
      refine nn ?_
      refine at_block ?_
      refine sr ?_
      refine sp hT ?_
      refine at_bool (t' := true) ((by show ((peekP toks ((k + 1))).word == ([47] : Bs)) = _; rw [hg43]; rfl)) ?_
      refine sp hT ?_
      refine nn ?_
      refine at_true rfl rfl ?_
      refine at_region ?_
      refine sp hT ?_
      refine sto hT .head ?_
      refine at_nil ?_
      refine n_block ?_
      refine n_then ?_
      refine at_seq ?_
      refine sr ?_
      refine sp hT ?_
      refine ss (ldO hT (knows_own (off := 2) .head)) ?_
      refine sp hT ?_
      refine nn ?_
      refine at_cond rfl (fun hc88 => ?_) (fun hc88 => ?_)
      · have hc88 := eq_of_beq hc88
        refine at_seq ?_
        refine at_mix _ _ [(true, 0), (true, 1), (false, 2), (false, 3)] mixes (by decide +kernel) (.cons .head (.cons .head (.cons .head (.cons .head (.cons .head .nil))))) HasAll.self ?_
        refine atm_sti rfl rfl rfl rfl (ldN hT (knows_own (off := 0) .head)) ?_
        refine atm_sti rfl rfl rfl rfl (ldN hT (knows_own (off := 0) kT3)) ?_
        refine atm_op (o := _) rfl ?_
        refine sto hT kT6 ?_
        refine atm_go (.cons kT1 (.cons kT1 (.cons kT1 (.cons kT1 (.cons kT1 .nil))))) ⟨Has.of mT0, trivial⟩ ?_
        refine atm_op (o := _) rfl ?_
        refine sto hT kT6 ?_
        refine atm_go (.cons kT2 (.cons kT2 (.cons kT2 (.cons kT2 (.cons kT2 .nil))))) ⟨Has.of mT0, trivial⟩ ?_
        refine atm_nil ?_
        refine n_then ?_
        refine at_ret ?_
        refine r_then ?_
        have hph : phraseP toks k e false = ⟨5, (peekP toks (k)).at_, (twoF (peekP toks k).word), ((atP toks (k) e), 43), ((k + 1) + 1)⟩ := by first | (simp [phraseP, *]; done) | simp_all [phraseP]
        rw [hph]
        exact at_res2 () rfl (rv_cell hT (knows_own (off := 0) kT1) rfl rfl rfl rfl) (rv_cell hT (knows_own (off := 0) .head) rfl rfl rfl rfl) (.cons kT3 .nil) trivial (rfl)
      have hc88 := beq_eq_false_iff_ne.1 hc88
      refine at_skip ?_
      refine n_then ?_
      refine sr ?_
      refine ss (ldN hT (knows_own (off := 0) .head)) ?_
      refine ss (sti_build rfl rfl (at_built_api_Fault_)) ?_
      refine sto hT kT6 ?_
      refine sto hT kT6 ?_
      refine nn ?_
      refine at_ret ?_
      have hph : phraseP toks k e false = ⟨5, (peekP toks (k)).at_, (twoF (peekP toks k).word), (0, 0), ((k + 1) + 1)⟩ := by first | (simp [phraseP, *]; done) | simp_all [phraseP]
      rw [hph]
      exact at_res2 () rfl (rv_cell hT (knows_own (off := 0) kT1) rfl rfl rfl rfl) (rv_cell hT (knows_own (off := 0) .head) rfl rfl rfl rfl) (.cons kT3 .nil) trivial (rfl)
    have hg43 : (peekP toks ((k + 1))).word ≠ ([47] : Bs) := fun h => absurd (beq_iff_eq.2 h) (by rw [show ((peekP toks ((k + 1))).word == ([47] : Bs)) = false from hg43]; simp)
    refine sp hT ?_
    refine ss (ldO hT (knows_own (off := 2) .head)) ?_
    refine sp3 hT ?_
    refine at_case (fun hg48 => ?_) (fun hg48 => ?_)
    · have hg48 : (peekP toks ((k + 1))).word = ([92] : Bs) := eq_of_beq hg48
      refine sk3 ?_
      refine sp2 hT ?_
      refine nn ?_
      refine at_true rfl rfl ?_
      refine sr ?_
      refine sp3 hT ?_
      refine ss (ldO hT (knows_own (off := 1) kT1)) ?_
      refine sp hT ?_
      refine at_int (z' := ((((k + 1) + 1) : Nat) : Int)) (wrapN (by omega) (by omega)) ?_
      refine sp2 hT ?_
      refine sto hT kT1 ?_
      refine nn ?_
      refine sr ?_
      refine sp hT ?_
      refine ss (ldO hT (knows_own (off := 2) kT4)) ?_
      refine at_call (callFunc_enter Tryz.func63 rfl rfl) (two_spec _) rfl rfl rfl rfl rfl .nil trivial fun _ => ?_
      refine sp hT ?_
      refine sto hT kT2 ?_
      refine nn ?_
      refine at_seq ?_
      refine sr ?_
      refine sp hT ?_
      refine ss (ldO hT (knows_own (off := 2) .head)) ?_
      refine sp2 hT ?_
      refine at_case (fun hg68 => ?_) (fun hg68 => ?_)
      · have hg68 := of_decide_eq_true hg68
        refine sk4 ?_
        refine sk ?_
        refine sp hT ?_
        refine nn ?_
        refine at_true rfl rfl ?_
        refine at_seq ?_
        refine at_mix _ _ [(true, 0), (true, 1), (false, 2), (false, 3)] mixes (by decide +kernel) (.cons .head (.cons .head (.cons .head (.cons .head (.cons .head .nil))))) HasAll.self ?_
        refine atm_sti rfl rfl rfl rfl (ldN hT (knows_own (off := 0) .head)) ?_
        refine atm_sti rfl rfl rfl rfl (ldN hT (knows_own (off := 0) kT3)) ?_
        refine atm_op (o := _) rfl ?_
        refine sto hT kT6 ?_
        refine atm_go (.cons kT1 (.cons kT1 (.cons kT1 (.cons kT1 (.cons kT1 .nil))))) ⟨Has.of mT0, trivial⟩ ?_
        refine atm_op (o := _) rfl ?_
        refine sto hT kT6 ?_
        refine atm_go (.cons kT2 (.cons kT2 (.cons kT2 (.cons kT2 (.cons kT2 .nil))))) ⟨Has.of mT0, trivial⟩ ?_
        refine atm_nil ?_
        refine n_then ?_
        refine at_ret ?_
        refine r_then ?_
        refine r_then ?_
        have hph : phraseP toks k e false = ⟨3, (peekP toks (k)).at_, (twoF (peekP toks k).word), ((atP toks (k) e), 43), ((k + 1) + 1)⟩ := by first | (simp [phraseP, *]; done) | simp_all [phraseP]
        rw [hph]
        exact at_res2 () rfl (rv_cell hT (knows_own (off := 0) kT1) rfl rfl rfl rfl) (rv_cell hT (knows_own (off := 0) .head) rfl rfl rfl rfl) (.cons kT3 .nil) trivial (rfl)
      have hg68 := Int.not_lt.1 (of_decide_eq_false hg68)
      refine sp hT ?_
      refine ss (ldO hT (knows_own (off := 2) kT2)) ?_
      refine sp hT ?_
      refine at_bool (t' := false) ((by show ((peekP toks ((k + 1))).word == ([46] : Bs)) = _; rw [hg48]; rfl)) ?_
      refine sp2 hT ?_
      refine at_bool (t' := false) rfl ?_
      refine sp hT ?_
      refine nn ?_
      refine at_false rfl rfl ?_
      refine at_skip ?_
      refine n_then ?_
      refine sr ?_
      refine sp hT ?_
      refine ss (ldO hT (knows_own (off := 2) kT2)) ?_
      refine nn ?_
      refine at_block ?_
      refine sr ?_
      refine sp hT ?_
      refine at_bool (t' := false) ((by show ((peekP toks ((k + 1))).word == ([47] : Bs)) = _; rw [hg48]; rfl)) ?_
      refine sp hT ?_
      refine nn ?_
      refine at_false rfl rfl ?_
      refine sr ?_
      refine sp hT ?_
      refine at_bool (t' := true) ((by show ((peekP toks ((k + 1))).word == ([92] : Bs)) = _; rw [hg48]; rfl)) ?_
      refine sp hT ?_
      refine nn ?_
      refine at_true rfl rfl ?_
      refine at_region ?_
      refine sp hT ?_
      refine sto hT .head ?_
      refine at_nil ?_
      refine n_block ?_
      refine n_then ?_
      refine at_seq ?_
      refine sr ?_
      refine sp hT ?_
      refine ss (ldO hT (knows_own (off := 2) .head)) ?_
      refine sp hT ?_
      refine nn ?_
      refine at_cond rfl (fun hc88 => ?_) (fun hc88 => ?_)
      · have hc88 := eq_of_beq hc88
        refine at_seq ?_
        refine at_mix _ _ [(true, 0), (true, 1), (false, 2), (false, 3)] mixes (by decide +kernel) (.cons .head (.cons .head (.cons .head (.cons .head (.cons .head .nil))))) HasAll.self ?_
        refine atm_sti rfl rfl rfl rfl (ldN hT (knows_own (off := 0) .head)) ?_
        refine atm_sti rfl rfl rfl rfl (ldN hT (knows_own (off := 0) kT3)) ?_
        refine atm_op (o := _) rfl ?_
        refine sto hT kT6 ?_
        refine atm_go (.cons kT1 (.cons kT1 (.cons kT1 (.cons kT1 (.cons kT1 .nil))))) ⟨Has.of mT0, trivial⟩ ?_
        refine atm_op (o := _) rfl ?_
        refine sto hT kT6 ?_
        refine atm_go (.cons kT2 (.cons kT2 (.cons kT2 (.cons kT2 (.cons kT2 .nil))))) ⟨Has.of mT0, trivial⟩ ?_
        refine atm_nil ?_
        refine n_then ?_
        refine at_ret ?_
        refine r_then ?_
        have hph : phraseP toks k e false = ⟨6, (peekP toks (k)).at_, (twoF (peekP toks k).word), ((atP toks (k) e), 43), ((k + 1) + 1)⟩ := by first | (simp [phraseP, *]; done) | simp_all [phraseP]
        rw [hph]
        exact at_res2 () rfl (rv_cell hT (knows_own (off := 0) kT1) rfl rfl rfl rfl) (rv_cell hT (knows_own (off := 0) .head) rfl rfl rfl rfl) (.cons kT3 .nil) trivial (rfl)
      have hc88 := beq_eq_false_iff_ne.1 hc88
      refine at_skip ?_
      refine n_then ?_
      refine sr ?_
      refine ss (ldN hT (knows_own (off := 0) .head)) ?_
      refine ss (sti_build rfl rfl (at_built_api_Fault_)) ?_
      refine sto hT kT6 ?_
      refine sto hT kT6 ?_
      refine nn ?_
      refine at_ret ?_
      have hph : phraseP toks k e false = ⟨6, (peekP toks (k)).at_, (twoF (peekP toks k).word), (0, 0), ((k + 1) + 1)⟩ := by first | (simp [phraseP, *]; done) | simp_all [phraseP]
      rw [hph]
      exact at_res2 () rfl (rv_cell hT (knows_own (off := 0) kT1) rfl rfl rfl rfl) (rv_cell hT (knows_own (off := 0) .head) rfl rfl rfl rfl) (.cons kT3 .nil) trivial (rfl)
    have hg48 : (peekP toks ((k + 1))).word ≠ ([92] : Bs) := fun h => absurd (beq_iff_eq.2 h) (by rw [show ((peekP toks ((k + 1))).word == ([92] : Bs)) = false from hg48]; simp)
    refine sp hT ?_
    refine ss (ldO hT (knows_own (off := 2) .head)) ?_
    refine sp3 hT ?_
    refine nn ?_
    refine at_cond rfl (fun hc53 => ?_) (fun hc53 => ?_)
    · have hc53 : (peekP toks ((k + 1))).word = ([46] : Bs) := eq_of_beq hc53
      refine sr ?_
      refine sp3 hT ?_
      refine ss (ldO hT (knows_own (off := 1) kT1)) ?_
      refine sp hT ?_
      refine at_int (z' := ((((k + 1) + 1) : Nat) : Int)) (wrapN (by omega) (by omega)) ?_
      refine sp2 hT ?_
      refine sto hT kT1 ?_
      refine nn ?_
      refine sr ?_
      refine sp hT ?_
      refine ss (ldO hT (knows_own (off := 2) kT4)) ?_
      refine at_call (callFunc_enter Tryz.func63 rfl rfl) (two_spec _) rfl rfl rfl rfl rfl .nil trivial fun _ => ?_
      refine sp hT ?_
      refine sto hT kT2 ?_
      refine nn ?_
      refine at_seq ?_
      refine sr ?_
      refine sp hT ?_
      refine ss (ldO hT (knows_own (off := 2) .head)) ?_
      refine sp2 hT ?_
      refine at_case (fun hg68 => ?_) (fun hg68 => ?_)
      · have hg68 := of_decide_eq_true hg68
        refine sk4 ?_
        refine sk ?_
        refine sp hT ?_
        refine nn ?_
        refine at_true rfl rfl ?_
        refine at_seq ?_
        refine at_mix _ _ [(true, 0), (true, 1), (false, 2), (false, 3)] mixes (by decide +kernel) (.cons .head (.cons .head (.cons .head (.cons .head (.cons .head .nil))))) HasAll.self ?_
        refine atm_sti rfl rfl rfl rfl (ldN hT (knows_own (off := 0) .head)) ?_
        refine atm_sti rfl rfl rfl rfl (ldN hT (knows_own (off := 0) kT3)) ?_
        refine atm_op (o := _) rfl ?_
        refine sto hT kT6 ?_
        refine atm_go (.cons kT1 (.cons kT1 (.cons kT1 (.cons kT1 (.cons kT1 .nil))))) ⟨Has.of mT0, trivial⟩ ?_
        refine atm_op (o := _) rfl ?_
        refine sto hT kT6 ?_
        refine atm_go (.cons kT2 (.cons kT2 (.cons kT2 (.cons kT2 (.cons kT2 .nil))))) ⟨Has.of mT0, trivial⟩ ?_
        refine atm_nil ?_
        refine n_then ?_
        refine at_ret ?_
        refine r_then ?_
        refine r_then ?_
        have hph : phraseP toks k e false = ⟨3, (peekP toks (k)).at_, (twoF (peekP toks k).word), ((atP toks (k) e), 43), ((k + 1) + 1)⟩ := by first | (simp [phraseP, *]; done) | simp_all [phraseP]
        rw [hph]
        exact at_res2 () rfl (rv_cell hT (knows_own (off := 0) kT1) rfl rfl rfl rfl) (rv_cell hT (knows_own (off := 0) .head) rfl rfl rfl rfl) (.cons kT3 .nil) trivial (rfl)
      have hg68 := Int.not_lt.1 (of_decide_eq_false hg68)
      refine sp hT ?_
      refine ss (ldO hT (knows_own (off := 2) kT2)) ?_
      refine sp hT ?_
      refine at_bool (t' := true) ((by show ((peekP toks ((k + 1))).word == ([46] : Bs)) = _; rw [hc53]; rfl)) ?_
      refine sp2 hT ?_
      refine at_bool (t' := true) rfl ?_
      refine sp hT ?_
      refine nn ?_
      refine at_true rfl rfl ?_
      refine at_seq ?_
      refine at_mix _ _ [(true, 0), (true, 1), (false, 2), (false, 3)] mixes (by decide +kernel) (.cons .head (.cons .head (.cons .head (.cons .head (.cons .head .nil))))) HasAll.self ?_
      refine atm_sti rfl rfl rfl rfl (ldN hT (knows_own (off := 0) .head)) ?_
      refine atm_sti rfl rfl rfl rfl (ldN hT (knows_own (off := 0) kT3)) ?_
      refine atm_op (o := _) rfl ?_
      refine sto hT kT6 ?_
      refine atm_go (.cons kT1 (.cons kT1 (.cons kT1 (.cons kT1 (.cons kT1 .nil))))) ⟨Has.of mT0, trivial⟩ ?_
      refine atm_op (o := _) rfl ?_
      refine sto hT kT6 ?_
      refine atm_go (.cons kT2 (.cons kT2 (.cons kT2 (.cons kT2 (.cons kT2 .nil))))) ⟨Has.of mT0, trivial⟩ ?_
      refine atm_nil ?_
      refine n_then ?_
      refine at_ret ?_
      refine r_then ?_
      refine r_then ?_
      have hph : phraseP toks k e false = ⟨3, (peekP toks (k)).at_, (twoF (peekP toks k).word), ((atP toks (k) e), 43), ((k + 1) + 1)⟩ := by first | (simp [phraseP, *]; done) | simp_all [phraseP]
      rw [hph]
      exact at_res2 () rfl (rv_cell hT (knows_own (off := 0) kT1) rfl rfl rfl rfl) (rv_cell hT (knows_own (off := 0) .head) rfl rfl rfl rfl) (.cons kT3 .nil) trivial (rfl)
    have hc53 : (peekP toks ((k + 1))).word ≠ ([46] : Bs) := fun h => absurd (beq_iff_eq.2 h) (by rw [show ((peekP toks ((k + 1))).word == ([46] : Bs)) = false from hc53]; simp)
    refine at_skip ?_
    refine n_then ?_
    refine at_seq ?_
    refine sr ?_
    refine sp hT ?_
    refine ss (ldO hT (knows_own (off := 2) kT2)) ?_
    refine sp hT ?_
    refine nn ?_
    refine at_cond rfl (fun hc88 => ?_) (fun hc88 => ?_)
    · have hc88 := eq_of_beq hc88
      refine at_seq ?_
      refine at_mix _ _ [(true, 0), (true, 1), (false, 2), (false, 3)] mixes (by decide +kernel) (.cons .head (.cons .head (.cons .head (.cons .head (.cons .head .nil))))) HasAll.self ?_
      refine atm_sti rfl rfl rfl rfl (ldN hT (knows_own (off := 0) kT2)) ?_
      refine atm_sti rfl rfl rfl rfl (ldN hT (knows_own (off := 0) kT3)) ?_
      refine atm_op (o := _) rfl ?_
      refine sto hT kT6 ?_
      refine atm_go (.cons kT1 (.cons kT1 (.cons kT1 (.cons kT1 (.cons kT1 .nil))))) ⟨Has.of mT0, trivial⟩ ?_
      refine atm_op (o := _) rfl ?_
      refine sto hT kT6 ?_
      refine atm_go (.cons kT2 (.cons kT2 (.cons kT2 (.cons kT2 (.cons kT2 .nil))))) ⟨Has.of mT0, trivial⟩ ?_
      refine atm_nil ?_
      refine n_then ?_
      refine at_ret ?_
      refine r_then ?_
      have hph : phraseP toks k e false = ⟨3, (peekP toks (k)).at_, (verbF (peekP toks k).word false), ((atP toks (k) e), 43), (k + 1)⟩ := by first | (simp [phraseP, *]; done) | simp_all [phraseP]
      rw [hph]
      exact at_res2 () rfl (rv_cell hT (knows_own (off := 0) kT1) rfl rfl rfl rfl) (rv_cell hT (knows_own (off := 0) .head) rfl rfl rfl rfl) (.cons kT3 .nil) trivial (rfl)
    have hc88 := beq_eq_false_iff_ne.1 hc88
    refine at_skip ?_
    refine n_then ?_
    refine sr ?_
    refine ss (ldN hT (knows_own (off := 0) kT2)) ?_
    refine ss (sti_build rfl rfl (at_built_api_Fault_)) ?_
    refine sto hT kT6 ?_
    refine sto hT kT6 ?_
    refine nn ?_
    refine at_ret ?_
    have hph : phraseP toks k e false = ⟨3, (peekP toks (k)).at_, (verbF (peekP toks k).word false), (0, 0), (k + 1)⟩ := by first | (simp [phraseP, *]; done) | simp_all [phraseP]
    rw [hph]
    exact at_res2 () rfl (rv_cell hT (knows_own (off := 0) kT1) rfl rfl rfl rfl) (rv_cell hT (knows_own (off := 0) .head) rfl rfl rfl rfl) (.cons kT3 .nil) trivial (rfl)
  have hg39 := beq_eq_false_iff_ne.1 hg39
  refine sk4 ?_
  refine sk4 ?_
  refine sk4 ?_
  refine sk ?_
  refine sp hT ?_
  refine nn ?_
  refine at_false rfl rfl ?_
  refine at_skip ?_
  refine n_then ?_
  refine at_seq ?_
  refine sr ?_
  refine sp hT ?_
  refine ss (ldO hT (knows_own (off := 2) kT2)) ?_
  refine sp hT ?_
  refine nn ?_
  refine at_cond rfl (fun hc88 => ?_) (fun hc88 => ?_)
  · have hc88 := eq_of_beq hc88
    refine at_seq ?_
    refine at_mix _ _ [(true, 0), (true, 1), (false, 2), (false, 3)] mixes (by decide +kernel) (.cons .head (.cons .head (.cons .head (.cons .head (.cons .head .nil))))) HasAll.self ?_
    refine atm_sti rfl rfl rfl rfl (ldN hT (knows_own (off := 0) kT2)) ?_
    refine atm_sti rfl rfl rfl rfl (ldN hT (knows_own (off := 0) kT3)) ?_
    refine atm_op (o := _) rfl ?_
    refine sto hT kT6 ?_
    refine atm_go (.cons kT1 (.cons kT1 (.cons kT1 (.cons kT1 (.cons kT1 .nil))))) ⟨Has.of mT0, trivial⟩ ?_
    refine atm_op (o := _) rfl ?_
    refine sto hT kT6 ?_
    refine atm_go (.cons kT2 (.cons kT2 (.cons kT2 (.cons kT2 (.cons kT2 .nil))))) ⟨Has.of mT0, trivial⟩ ?_
    refine atm_nil ?_
    refine n_then ?_
    refine at_ret ?_
    refine r_then ?_
    have hph : phraseP toks k e false = ⟨3, (peekP toks (k)).at_, (verbF (peekP toks k).word false), ((atP toks (k) e), 43), (k + 1)⟩ := by first | (simp [phraseP, *]; done) | simp_all [phraseP]
    rw [hph]
    exact at_res2 () rfl (rv_cell hT (knows_own (off := 0) kT1) rfl rfl rfl rfl) (rv_cell hT (knows_own (off := 0) .head) rfl rfl rfl rfl) (.cons kT3 .nil) trivial (rfl)
  have hc88 := beq_eq_false_iff_ne.1 hc88
  refine at_skip ?_
  refine n_then ?_
  refine sr ?_
  refine ss (ldN hT (knows_own (off := 0) kT2)) ?_
  refine ss (sti_build rfl rfl (at_built_api_Fault_)) ?_
  refine sto hT kT6 ?_
  refine sto hT kT6 ?_
  refine nn ?_
  refine at_ret ?_
  have hph : phraseP toks k e false = ⟨3, (peekP toks (k)).at_, (verbF (peekP toks k).word false), (0, 0), (k + 1)⟩ := by first | (simp [phraseP, *]; done) | simp_all [phraseP]
  rw [hph]
  exact at_res2 () rfl (rv_cell hT (knows_own (off := 0) kT1) rfl rfl rfl rfl) (rv_cell hT (knows_own (off := 0) .head) rfl rfl rfl rfl) (.cons kT3 .nil) trivial (rfl)

end Go.Proofs.YtngkedmndhmjcaaGreatDoor
