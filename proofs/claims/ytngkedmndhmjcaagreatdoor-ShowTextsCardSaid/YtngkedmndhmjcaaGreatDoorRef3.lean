/- Walks of the reference's layer 3: bytes, signs, numbers, tokens, spelling. (Printed by wip/gen/ref3.py.) -/
import Derived.Test.YtngkedmndhmjcaaGreatDoorBuildA
import Derived.Laws.IdiomStrings
namespace Go.Proofs.YtngkedmndhmjcaaGreatDoor
open Go.RowKit

section
variable {P : Program} {β : Base} {n : Nat} {Γ : Env} {H : List Chunk} {F : List Fact} {Q : Exit → Act → World → Prop} {K : Act → World → Prop} {ops : Array Oper} {rest : List Oper} {o : Oper} {d : Nat} {T : Tab}
theorem sti_quo {t tt : TypeId} {x y : Operand} {k : IntKind} {a b : Int} (ho : o.op = .binOp .quo t x y tt) (hx : Γ.ev x = some (.int k a)) (hy : Γ.ev y = some (.int k b)) (hb : b ≠ 0) : Sti P β n Γ H F o (.int k (k.wrap (a.tdiv b))) := fun c w S f s _ => by
  unfold execOp
  simp only [ho, f.ev hx, f.ev hy]
  simp [eqGuard, binOp, Op.intDiv, hb]
theorem sti_rem {t tt : TypeId} {x y : Operand} {k : IntKind} {a b : Int} (ho : o.op = .binOp .rem t x y tt) (hx : Γ.ev x = some (.int k a)) (hy : Γ.ev y = some (.int k b)) (hb : b ≠ 0) : Sti P β n Γ H F o (.int k (a.tmod b)) := fun c w S f s _ => by
  unfold execOp
  simp only [ho, f.ev hx, f.ev hy]
  simp [eqGuard, binOp, Op.intDiv, hb]
/-- a slice of bytes as a text -/
theorem sti_bytesStr {s e u : TypeId} {x : Operand} {A : Option Addr} {m c : Nat} {xs : Bs} (hr : Reads β H F byteE A xs) (hs : P.underlying s = some (.slice e)) (he : P.underlying e = some (.int .u8)) (hu : P.underlying u = some .string) (ho : o.op = .convert s u x) (hx : Γ.ev x = some (.slice A m c)) (hm : m = xs.length) (h0 : xs ≠ []) : Sti P β n Γ H F o (.string (bs xs)) := fun a w S f st hF => by
  subst hm
  obtain ⟨⟨b, off, rfl⟩, _⟩ := hr w S st hF 0 _ (List.getElem?_eq_getElem (List.length_pos_iff.2 h0))
  have := run_convert_bytes_back (P := P) w s u e ⟨b, off, none⟩ c xs hs he hu (fun j hj => by
    have h := (hr w S st hF j _ (List.getElem?_eq_getElem hj)).2 0 (.int .u8 (xs[j]).toNat) rfl
    have e1 : (⟨b, off, none⟩ : Addr).add j = ⟨b, off + j, none⟩ := Addr.add_mid _ _ _
    rw [e1]
    have e2 : off + j * byteE.size + 0 = off + j := by show off + j * 1 + 0 = _; omega
    simp only [aoff, ablk] at h
    rw [e2] at h
    exact h)
  unfold execOp
  simp only [ho, f.ev hx]
  rw [Sem.run_bind, this]
  rfl
theorem at_one_byte {x : Operand} {m : UInt8} (hw : want ops Γ o = some true) (ho : o.op = .buildSlice 71 1 #[(0, x)]) (hd : o.dst = some d) (hn : Nat.blt d n = true)
    (hx : Γ.ev x = some (.int .u8 m.toNat)) (k : ∀ b, At β n ((d, .slice (some ⟨b, 0, none⟩) 1 1) :: Γ) (.obj b (.cells (byteE.all [m]).toArray 5) :: H) F (wpList Tryz.prog ops Q rest)) : At β n Γ H F (wpList Tryz.prog ops Q (o :: rest)) := by
  obtain ⟨i, hi, hz, hs, _⟩ := u8Info
  refine at_build1 hw ho hd hn hx Tryz.underlying71 hi hz (by omega) (by omega) ?_ k
  rw [hs]
  kernel_rfl
end
theorem wrapU {z : Int} (h0 : 0 ≤ z) (h1 : z < 18446744073709551616) : IntKind.u64.wrap z = z := by
  simp only [IntKind.wrap, IntKind.signed, IntKind.bits]
  simp
  omega
theorem wrapU8 {z : Int} (h0 : 0 ≤ z) (h1 : z < 256) : IntKind.u8.wrap z = z := by
  simp only [IntKind.wrap, IntKind.signed, IntKind.bits]
  simp
  omega
theorem wrapNeg {z : Int} (h0 : z < 0) (h1 : -18446744073709551616 ≤ z) : IntKind.u64.wrap z = z + 18446744073709551616 := by
  simp only [IntKind.wrap, IntKind.signed, IntKind.bits]
  simp
  omega
/-- letters and digits, or digits alone -/
def pL (l : Bool) (b : UInt8) : Bool := digitB b || (l && letterB b)
theorem pL_word : pL true = wordB := by funext b; simp [pL, wordB, Bool.or_comm]
theorem pL_digit : pL false = digitB := by funext b; simp [pL]
theorem sub48 {b : UInt8} (h : digitB b = true) : IntKind.u8.wrap ((b.toNat : Int) - 48) = ((b.toNat - 48 : Nat) : Int) ∧ b.toNat - 48 ≤ 9 := by
  simp only [digitB, Bool.and_eq_true, decide_eq_true_eq] at h
  have := b.toNat_lt
  rw [wrapU8 (by omega) (by omega)]
  omega
theorem decV_append : ∀ (a b : Bs) (v : Nat), decV (a ++ b) v = decV b (decV a v)
  | [], _, _ => rfl
  | _ :: a, b, _ => decV_append a b _
theorem decV_take {ds : Bs} {i : Nat} {b : UInt8} (h : ds[i]? = some b) : decV (ds.take (i + 1)) 0 = 10 * decV (ds.take i) 0 + (b.toNat - 48) := by
  rw [List.take_add_one, h]
  exact decV_snoc b _ 0
theorem decV_over {ds : Bs} {i : Nat} {b : UInt8} (h : ds[i]? = some b) : 10 * decV (ds.take i) 0 + (b.toNat - 48) ≤ decV ds 0 := by
  rw [← decV_take h]
  have : decV ds 0 = decV (ds.drop (i + 1)) (decV (ds.take (i + 1)) 0) := by rw [← decV_append, List.take_append_drop]
  rw [this]
  exact decV_ge _ _
def mostP (below : Bool) : Nat := if below then 9223372036854775808 else 9223372036854775807
theorem numP_eq (below : Bool) (ds : Bs) : numP below ds = if decV ds 0 ≤ mostP below then some (if below then -(decV ds 0 : Int) else (decV ds 0 : Int)) else none := by
  unfold numP mostP
  cases below <;> rfl
def valV (o : Option Int) : Value := .tuple #[.int .i64 (o.getD 0), .bool o.isSome]
theorem val_over {below : Bool} {ds : Bs} {i : Nat} {b : UInt8} (h : ds[i]? = some b) (ho : mostP below < 10 * decV (ds.take i) 0 + (b.toNat - 48)) : numP below ds = none := by
  have := decV_over h
  rw [numP_eq, if_neg (by omega)]
theorem val_done {below : Bool} {ds : Bs} {i : Nat} (hi : ds.length ≤ i) (hm : decV (ds.take i) 0 ≤ mostP below) : numP below ds = some (if below then -(decV (ds.take i) 0 : Int) else (decV (ds.take i) 0 : Int)) := by
  rw [List.take_of_length_le hi] at hm ⊢
  rw [numP_eq, if_pos hm]
/-! ### signs -/
theorem sign_two {b : UInt8} {r : Bs} (h : (b = 60 ∨ b = 62) ∧ r.head? = some 61) : signP (b :: r) = 2 := by
  simp only [signP]
  rw [if_pos]
  rcases h with ⟨h | h, h'⟩ <;> simp [h, h']
theorem sign_no2 {b : UInt8} {r : Bs} (h : r.head? ≠ some 61 ∨ b ≠ 60 ∧ b ≠ 62) : signP (b :: r) = if signs.contains b then 1 else 0 := by
  simp only [signP]
  rw [if_neg]
  simp only [Bool.and_eq_true, Bool.or_eq_true, beq_iff_eq]
  rintro ⟨h1, h2⟩
  rcases h with h | ⟨h3, h4⟩
  · exact h h2
  · rcases h1 with h1 | h1
    · exact h3 h1
    · exact h4 h1
theorem head_of {b x : UInt8} {r : Bs} (h : (b :: r)[1]? = some x) : r.head? = some x := by
  cases r with
  | nil => simp at h
  | cons c r => simpa using h
theorem head_none {b : UInt8} {r : Bs} (h : (((b :: r).length : Nat) : Int) ≤ 1) : r.head? ≠ some 61 := by
  cases r with
  | nil => simp
  | cons c r => simp at h; omega
theorem head_ne {b x : UInt8} {r : Bs} (h : (b :: r)[1]? = some x) (hx : x ≠ 61) : r.head? ≠ some 61 := by rw [head_of h]; simpa using hx
/-! ### tokens -/
def nextV : Except Int TokR → Value
  | .error e => .tuple #[.agg #[.int .i64 0, .int .i64 0, .string (bs []), .int .i64 0], .int .i64 0, .int .i64 e]
  | .ok (k, w, v, m) => .tuple #[.agg #[.int .i64 k, .int .i64 0, .string (bs w), .int .i64 v], .int .i64 (m : Nat), .int .i64 0]
section
variable {b : UInt8} {r : Bs}
theorem t_line (h : b = 10) : tokenP (b :: r) = .ok (4, [], 0, 1) := by simp [tokenP, h]
theorem t_long (h : b ≠ 10) (hl : letterB b = true) (h16 : (16 : Int) < ((runB wordB (b :: r) : Nat) : Int)) : tokenP (b :: r) = .error 33 := by
  have : 16 < runB wordB (b :: r) := by omega
  simp [tokenP, h, hl, this]
theorem t_word (h : b ≠ 10) (hl : letterB b = true) (h16 : ((runB wordB (b :: r) : Nat) : Int) ≤ 16) : tokenP (b :: r) = .ok (1, (b :: r).take (runB wordB (b :: r)), 0, runB wordB (b :: r)) := by
  have : ¬ 16 < runB wordB (b :: r) := by omega
  simp [tokenP, h, hl, this]
theorem tok_rest (h : b ≠ 10) (hl : letterB b = false) : tokenP (b :: r) = match numTok b r with
    | .error e => .error e
    | .ok (some t) => .ok t
    | .ok none => if signP (b :: r) = 0 then .error 31 else .ok (3, (b :: r).take (signP (b :: r)), 0, signP (b :: r)) := by
  have h1 : (b == 10) = false := by simpa using h
  show (if (b == 10) = true then _ else _) = _
  rw [h1, hl]
  rfl
theorem t_num (h : b ≠ 10) (hl : letterB b = false) {ds : Bs} (hds : ds = if b == 95 then r else b :: r) (hk : runB digitB ds ≠ 0) : tokenP (b :: r) = match numP (b == 95) (ds.take (runB digitB ds)) with
    | none => .error 32
    | some v => .ok (2, [], v, runB digitB ds + if b == 95 then 1 else 0) := by
  subst hds
  rw [tok_rest h hl]
  unfold numTok
  dsimp only
  rw [if_neg hk]
  cases numP (b == 95) ((if b == 95 then r else b :: r).take (runB digitB (if b == 95 then r else b :: r))) <;> rfl
theorem t_sign (h : b ≠ 10) (hl : letterB b = false) {ds : Bs} (hds : ds = if b == 95 then r else b :: r) (hk : runB digitB ds = 0) : tokenP (b :: r) = if signP (b :: r) = 0 then .error 31 else .ok (3, (b :: r).take (signP (b :: r)), 0, signP (b :: r)) := by
  subst hds
  rw [tok_rest h hl]
  unfold numTok
  dsimp only
  rw [if_pos hk]
end
/-- how the reference spells a word -/
def wordR (w : Bs) : Bool := match w with
  | [] => false
  | b :: r => decide ((b :: r).length ≤ 100) && (b != 32 && (b != 9 && (b != 35 && match tokenP (b :: r) with
    | .ok (k, x, v, m) => k == 1 && x == (b :: r) && v == 0 && m == (b :: r).length
    | .error _ => false)))
def letterR (b : UInt8) : Bool := (decide (97 ≤ b.toNat) && decide (b.toNat ≤ 122)) || (decide (65 ≤ b.toNat) && decide (b.toNat ≤ 90))
theorem letter_eq (b : UInt8) : letterR b = letterB b := by
  have key : ∀ n : Fin 256, letterR (UInt8.ofNat n.val) = letterB (UInt8.ofNat n.val) := by decide +kernel
  have := key ⟨b.toNat, b.toNat_lt⟩
  have e : UInt8.ofNat b.toNat = b := by simp
  simpa [e] using this
theorem negWrap {n : Nat} (h : n ≤ 9223372036854775808) : IntKind.i64.wrap (IntKind.u64.wrap (0 - (n : Int))) = -(n : Int) := by
  simp only [IntKind.wrap, IntKind.signed, IntKind.bits]
  simp
  omega
theorem opt_none' {α : Type} {o : Option α} (h : o.isSome = false) : o = none := by
  cases o with
  | none => rfl
  | some x => cases h
theorem some_getI {o : Option Int} (h : o.isSome = true) : o = some (o.getD 0) := by
  cases o with
  | none => cases h
  | some x => rfl
theorem sign_zero {b : UInt8} {r : Bs} (h : (b :: r).take (signP (b :: r)) = []) : signP (b :: r) = 0 := by
  cases hs : signP (b :: r) with
  | zero => rfl
  | succ k => rw [hs] at h; simp at h
theorem sign_nonzero {b : UInt8} {r : Bs} (h : (b :: r).take (signP (b :: r)) ≠ []) : ¬ signP (b :: r) = 0 := fun e => by rw [e] at h; exact h rfl
theorem next_sign {b : UInt8} {r : Bs} : (Value.tuple #[.agg #[.int .i64 3, .int .i64 0, .string (bs ((b :: r).take (signP (b :: r)))), .int .i64 0], .int .i64 ((0 + ((b :: r).take (signP (b :: r))).length : Nat) : Int), .int .i64 0]) = nextV (.ok (3, (b :: r).take (signP (b :: r)), 0, signP (b :: r))) := by
  have := signP_le (b :: r)
  rw [Nat.zero_add, List.length_take, Nat.min_eq_left this]
  rfl
theorem TabOk.cons {P : Program} {T : Tab} (h : TabOk P T) {t : Nat} {i : TI} (ht : (P.underlying t).map TD.of = some i.desc ∧ (P.info? t).map (·.size) = some i.size) : TabOk P ((t, i) :: T) := fun s j hs => by
  unfold Tab.get at hs
  cases hb : Nat.beq t s with
  | true =>
    have := Nat.eq_of_beq_eq_true hb
    subst this
    rw [hb] at hs
    simp at hs
    subst hs
    exact ht
  | false =>
    rw [hb] at hs
    exact h s j hs
def refT : Tab := (144, ⟨.int .u64, 1⟩) :: show2T
theorem refT_ok : TabOk Tryz.prog refT := show2T_ok.cons ⟨by rw [Tryz.underlying144]; rfl, by kernel_rfl⟩
theorem rrletter_zero_api_Token : (Tryz.prog.info? 54).bind (·.zero) = some (.agg #[.int .i64 0, .int .i64 0, .string (bs []), .int .i64 0]) := by kernel_rfl
theorem rrletter_built_api_Token_01 (z0 : Int) (z1 : Int) : Tryz.prog.built 54 [(0, .int .i64 z0), (1, .int .i64 z1)] = some #[.int .i64 z0, .int .i64 z1, .string (bs []), .int .i64 0] := by kernel_rfl
theorem rrletter_built_api_Token_  : Tryz.prog.built 54 [] = some #[.int .i64 0, .int .i64 0, .string (bs []), .int .i64 0] := by kernel_rfl
theorem rrletter_built_api_Token_012 (z0 : Int) (z1 : Int) (s2 : ByteArray) : Tryz.prog.built 54 [(0, .int .i64 z0), (1, .int .i64 z1), (2, .string s2)] = some #[.int .i64 z0, .int .i64 z1, .string s2, .int .i64 0] := by kernel_rfl
theorem rrletter_built_api_Token_013 (z0 : Int) (z1 : Int) (z3 : Int) : Tryz.prog.built 54 [(0, .int .i64 z0), (1, .int .i64 z1), (3, .int .i64 z3)] = some #[.int .i64 z0, .int .i64 z1, .string (bs []), .int .i64 z3] := by kernel_rfl

set_option maxRecDepth 100000 in
theorem rletter_spec (b : UInt8) : Spec Tryz.prog 88 [.int .u8 b.toNat] [] [] (fun (_ : Unit) => .bool (letterR b)) (fun _ => []) (fun _ => []) := by
  have hT := refT_ok
  refine spec_of Tryz.func88 rfl Tryz.ntmps88 rfl ?_
  intro β hM
  refine sr ?_
  refine sp hT ?_
  refine nn ?_
  refine sr ?_
  refine sp3 hT ?_
  refine at_case (fun hg5 => ?_) (fun hg5 => ?_)
  · have hg5 := of_decide_eq_true hg5
    refine sp4 hT ?_
    refine at_case (fun hg9 => ?_) (fun hg9 => ?_)
    · have hg9 := of_decide_eq_true hg9
      refine sk4 ?_
      refine sk2 ?_
      refine sp2 hT ?_
      refine nn ?_
      refine at_ret ?_
      exact at_res1 () rfl (rv_tmp rfl) .nil trivial (by congr 1; unfold letterR; rw [Bool.eq_iff_iff]; simp; omega)
    have hg9 := Int.not_le.1 (of_decide_eq_false hg9)
    refine sp3 hT ?_
    refine at_case (fun hg12 => ?_) (fun hg12 => ?_)
    · have hg12 := of_decide_eq_true hg12
      refine sp4 hT ?_
      refine sp hT ?_
      refine nn ?_
      refine at_ret ?_
      exact at_res1 () rfl (rv_tmp rfl) .nil trivial (by congr 1; unfold letterR; rw [Bool.eq_iff_iff]; simp; omega)
    have hg12 := Int.not_le.1 (of_decide_eq_false hg12)
    refine sk2 ?_
    refine sp3 hT ?_
    refine nn ?_
    refine at_ret ?_
    exact at_res1 () rfl (rv_tmp rfl) .nil trivial (by congr 1; unfold letterR; rw [Bool.eq_iff_iff]; simp; omega)
  have hg5 := Int.not_le.1 (of_decide_eq_false hg5)
  refine sk2 ?_
  refine sp4 hT ?_
  refine sp hT ?_
  refine at_case (fun hg12 => ?_) (fun hg12 => ?_)
  · have hg12 := of_decide_eq_true hg12
    refine sp4 hT ?_
    refine sp hT ?_
    refine nn ?_
    refine at_ret ?_
    exact at_res1 () rfl (rv_tmp rfl) .nil trivial (by congr 1; unfold letterR; rw [Bool.eq_iff_iff]; simp; omega)
  have hg12 := Int.not_le.1 (of_decide_eq_false hg12)
  refine sk2 ?_
  refine sp3 hT ?_
  refine nn ?_
  refine at_ret ?_
  exact at_res1 () rfl (rv_tmp rfl) .nil trivial (by congr 1; unfold letterR; rw [Bool.eq_iff_iff]; simp; omega)

set_option maxRecDepth 100000 in
theorem rdigit_spec (b : UInt8) : Spec Tryz.prog 109 [.int .u8 b.toNat] [] [] (fun (_ : Unit) => .bool (digitB b)) (fun _ => []) (fun _ => []) := by
  have hT := refT_ok
  refine spec_of Tryz.func109 rfl Tryz.ntmps109 rfl ?_
  intro β hM
  refine sr ?_
  refine sp hT ?_
  refine nn ?_
  refine sr ?_
  refine sp3 hT ?_
  refine at_case (fun hg5 => ?_) (fun hg5 => ?_)
  · have hg5 := of_decide_eq_true hg5
    refine sp4 hT ?_
    refine nn ?_
    refine at_ret ?_
    exact at_res1 () rfl (rv_tmp rfl) .nil trivial (by congr 1; unfold digitB; rw [Bool.eq_iff_iff]; simp; omega)
  have hg5 := Int.not_le.1 (of_decide_eq_false hg5)
  refine sk2 ?_
  refine sp2 hT ?_
  refine nn ?_
  refine at_ret ?_
  exact at_res1 () rfl (rv_tmp rfl) .nil trivial (by congr 1; unfold digitB; rw [Bool.eq_iff_iff]; simp; omega)

set_option maxRecDepth 100000 in
theorem rend_spec (s : Bs) (at_ : Nat) (l : Bool) (hs : s.length ≤ 140737488355328) (ha : at_ ≤ s.length) : Spec Tryz.prog 89 [.string (bs s), .int .i64 (at_ : Nat), .bool l] [] [] (fun (_ : Unit) => .int .i64 ((at_ + runB (pL l) (s.drop at_) : Nat) : Int)) (fun _ => []) (fun _ => []) := by
  have hT := refT_ok
  refine spec_of Tryz.func89 rfl Tryz.ntmps89 rfl ?_
  intro β hM
  refine sr ?_
  refine sp hT ?_
  refine nn ?_
  refine at_seq ?_
  refine at_block ?_
  refine at_loop2 (ι := Nat) [(0, _), (2, _)] ⟨rfl, rfl, trivial⟩ (fun i => [(1, .int .i64 (i : Nat))]) (fun _ => []) (fun i => [Fact.pure (i ≤ s.length ∧ at_ + runB (pL l) (s.drop at_) = i + runB (pL l) (s.drop i))]) (fun i => s.length - i) at_ ⟨rfl, trivial⟩ .nil ⟨Has.pure (⟨ha, rfl⟩), trivial⟩ ?_
  rintro i
  refine at_know (Has.of mT0) fun hinv1 => ?_
  refine at_seq ?_
  refine sr ?_
  refine sp3 hT ?_
  refine at_int (z' := ((s.length : Nat) : Int)) rfl ?_
  refine sp2 hT ?_
  refine at_case (fun hg11 => ?_) (fun hg11 => ?_)
  · have hg11 := of_decide_eq_true hg11
    refine sp2 hT ?_
    obtain ⟨b1, hb2⟩ : ∃ b', s[i]? = some b' := ⟨_, List.getElem?_eq_getElem (by omega)⟩
    refine ss (sti_sindex hT (k := i) rfl rfl rfl rfl rfl hb2) ?_
    refine at_call (callFunc_enter Tryz.func109 rfl rfl) (rdigit_spec _) rfl rfl rfl rfl rfl .nil trivial fun _ => ?_
    refine sp hT ?_
    refine at_case (fun hg16 => ?_) (fun hg16 => ?_)
    · refine sk4 ?_
      refine sk3 ?_
      refine sp2 hT ?_
      refine nn ?_
      refine at_true rfl rfl ?_
      refine at_skip ?_
      refine n_then ?_
      refine at_block ?_
      refine at_region ?_
      refine sp2 hT ?_
      refine at_int (z' := (((i + 1) : Nat) : Int)) (wrapN (by omega) (by omega)) ?_
      refine sp hT ?_
      refine at_nil ?_
      refine n_block ?_
      refine n_then ?_
      exact at_back2 (i + 1) (by omega) ⟨rfl, trivial⟩ ⟨rfl, rfl, trivial⟩ .nil ⟨Has.pure (⟨by omega, by rw [hinv1.2, drop_some hb2, runB, if_pos (by first | (simp [pL, *]; done) | (simp [pL, ← letter_eq, *]; done))]; omega⟩), trivial⟩ (HasAll.drop 1)
    refine sp2 hT ?_
    refine at_case (fun hg18 => ?_) (fun hg18 => ?_)
    · refine sp2 hT ?_
      refine ss (sti_sindex hT (k := i) rfl rfl rfl rfl rfl hb2) ?_
      refine at_call (callFunc_enter Tryz.func88 rfl rfl) (rletter_spec _) rfl rfl rfl rfl rfl .nil trivial fun _ => ?_
      refine sp3 hT ?_
      refine nn ?_
      refine at_cond rfl (fun hc25 => ?_) (fun hc25 => ?_)
      · refine at_skip ?_
        refine n_then ?_
        refine at_block ?_
        refine at_region ?_
        refine sp2 hT ?_
        refine at_int (z' := (((i + 1) : Nat) : Int)) (wrapN (by omega) (by omega)) ?_
        refine sp hT ?_
        refine at_nil ?_
        refine n_block ?_
        refine n_then ?_
        exact at_back2 (i + 1) (by omega) ⟨rfl, trivial⟩ ⟨rfl, rfl, trivial⟩ .nil ⟨Has.pure (⟨by omega, by rw [hinv1.2, drop_some hb2, runB, if_pos (by first | (simp [pL, *]; done) | (simp [pL, ← letter_eq, *]; done))]; omega⟩), trivial⟩ (HasAll.drop 1)
      refine at_exit ?_
      refine x_then ?_
      refine x_then ?_
      refine x_block ?_
      refine n_then ?_
      refine sr ?_
      refine sp2 hT ?_
      refine nn ?_
      refine at_ret ?_
      exact at_res1 () rfl (rv_tmp rfl) .nil trivial (congrArg (fun n : Nat => Value.int .i64 (n : Int)) (by rw [hinv1.2, drop_some hb2, runB, if_neg (by first | (simp [pL, *]; done) | (simp [pL, ← letter_eq, *]; done))]; rfl))
    refine sk4 ?_
    refine sp3 hT ?_
    refine nn ?_
    refine at_false rfl rfl ?_
    refine at_exit ?_
    refine x_then ?_
    refine x_then ?_
    refine x_block ?_
    refine n_then ?_
    refine sr ?_
    refine sp2 hT ?_
    refine nn ?_
    refine at_ret ?_
    exact at_res1 () rfl (rv_tmp rfl) .nil trivial (congrArg (fun n : Nat => Value.int .i64 (n : Int)) (by rw [hinv1.2, drop_some hb2, runB, if_neg (by first | (simp [pL, *]; done) | (simp [pL, ← letter_eq, *]; done))]; rfl))
  have hg11 := Int.not_lt.1 (of_decide_eq_false hg11)
  refine sk4 ?_
  refine sk4 ?_
  refine sk4 ?_
  refine sk ?_
  refine sp hT ?_
  refine nn ?_
  refine at_false rfl rfl ?_
  refine at_exit ?_
  refine x_then ?_
  refine x_then ?_
  refine x_block ?_
  refine n_then ?_
  refine sr ?_
  refine sp2 hT ?_
  refine nn ?_
  refine at_ret ?_
  exact at_res1 () rfl (rv_tmp rfl) .nil trivial (congrArg (fun n : Nat => Value.int .i64 (n : Int)) (by rw [hinv1.2, List.drop_of_length_le (by omega)]; rfl))

set_option maxRecDepth 100000 in
theorem rsign_spec (b : UInt8) (r : Bs) : Spec Tryz.prog 91 [.string (bs (b :: r)), .int .i64 0] [] [] (fun (_ : Unit) => .string (bs ((b :: r).take (signP (b :: r))))) (fun _ => []) (fun _ => []) := by
  have hT := refT_ok
  refine spec_of Tryz.func91 rfl Tryz.ntmps91 rfl ?_
  intro β hM
  refine sr ?_
  refine sp hT ?_
  refine nn ?_
  refine at_seq ?_
  refine sr ?_
  refine sp2 hT ?_
  refine at_int (z' := ((1 : Nat) : Int)) (wrapN (by omega) (by omega)) ?_
  refine sp2 hT ?_
  refine at_int (z' := (((b :: r).length : Nat) : Int)) rfl ?_
  refine sp2 hT ?_
  refine at_case (fun hg10 => ?_) (fun hg10 => ?_)
  · have hg10 := of_decide_eq_true hg10
    refine sp2 hT ?_
    refine ss (sti_sindex hT (k := 0) rfl rfl rfl rfl rfl rfl) ?_
    refine sp2 hT ?_
    refine at_case (fun hg15 => ?_) (fun hg15 => ?_)
    · have hg15 : b = 60 := u8_eqn (k := 60) (eq_of_beq hg15)
      refine sk4 ?_
      refine sp4 hT ?_
      refine sp2 hT ?_
      refine at_int (z' := ((1 : Nat) : Int)) (wrapN (by omega) (by omega)) ?_
      obtain ⟨b1, hb2⟩ : ∃ b', (b :: r)[1]? = some b' := ⟨_, List.getElem?_eq_getElem (by omega)⟩
      refine ss (sti_sindex hT (k := 1) rfl rfl rfl rfl rfl hb2) ?_
      refine sp2 hT ?_
      refine nn ?_
      refine at_cond rfl (fun hc28 => ?_) (fun hc28 => ?_)
      · have hc28_r := hc28
        have hc28 : b1 = 61 := u8_eqn (k := 61) (eq_of_beq hc28)
        refine sr ?_
        refine sp4 hT ?_
        refine at_int (z' := ((2 : Nat) : Int)) (wrapN (by omega) (by omega)) ?_
        refine ss (sti_scut hT (j := 0) (k := 2) rfl rfl rfl rfl rfl rfl rfl (by decide) (by omega)) ?_
        refine sp hT ?_
        refine nn ?_
        refine at_ret ?_
        refine r_then ?_
        exact at_res1 () rfl (rv_tmp rfl) .nil trivial (by first | exact absurd (show b = 60 by assumption) (by assumption) | exact absurd (show b = 62 by assumption) (by assumption) | (rw [sign_two ⟨by first | exact .inl (by assumption) | exact .inr (by assumption), (head_of (by assumption)).trans (congrArg some (by assumption))⟩]; first | done | rfl) | (rw [sign_no2 (by first | exact .inl (head_none (by omega)) | exact .inl (head_ne (by assumption) (by assumption)) | exact .inr ⟨by assumption, by assumption⟩)]; first | (rw [show b = _ from by assumption]; rfl) | (rw [if_neg (by simp [signs, *])]; first | done | rfl)))
      have hc28_r := hc28
      have hc28 : b1 ≠ 61 := u8_nen (k := 61) (beq_eq_false_iff_ne.1 hc28)
      refine at_skip ?_
      refine n_then ?_
      refine at_seq ?_
      refine sr ?_
      refine sp2 hT ?_
      refine ss (sti_sindex hT (k := 0) rfl rfl rfl rfl rfl rfl) ?_
      refine nn ?_
      refine at_block ?_
      refine at_seq ?_
      refine sr ?_
      refine sp2 hT ?_
      refine nn ?_
      refine at_cond rfl (fun hc37 => ?_) (fun hc37 => ?_)
      · have hc37_r := hc37
        have hc37 : b = 43 := u8_eqn (k := 43) (eq_of_beq hc37)
        refine at_skip ?_
        refine n_then ?_
        refine at_true rfl hc37_r ?_
        refine sr ?_
        refine sp4 hT ?_
        refine at_int (z' := ((1 : Nat) : Int)) (wrapN (by omega) (by omega)) ?_
        refine ss (sti_scut hT (j := 0) (k := 1) rfl rfl rfl rfl rfl rfl rfl (by decide) (by simp)) ?_
        refine sp hT ?_
        refine nn ?_
        refine at_ret ?_
        refine r_block ?_
        refine r_then ?_
        exact at_res1 () rfl (rv_tmp rfl) .nil trivial (by first | exact absurd (show b = 60 by assumption) (by assumption) | exact absurd (show b = 62 by assumption) (by assumption) | (rw [sign_two ⟨by first | exact .inl (by assumption) | exact .inr (by assumption), (head_of (by assumption)).trans (congrArg some (by assumption))⟩]; first | done | rfl) | (rw [sign_no2 (by first | exact .inl (head_none (by omega)) | exact .inl (head_ne (by assumption) (by assumption)) | exact .inr ⟨by assumption, by assumption⟩)]; first | (rw [show b = _ from by assumption]; rfl) | (rw [if_neg (by simp [signs, *])]; first | done | rfl)))
      have hc37_r := hc37
      have hc37 : b ≠ 43 := u8_nen (k := 43) (beq_eq_false_iff_ne.1 hc37)
      refine sr ?_
      refine sp2 hT ?_
      refine nn ?_
      refine at_cond rfl (fun hc37_3 => ?_) (fun hc37_3 => ?_)
      · have hc37_3_r := hc37_3
        have hc37_3 : b = 45 := u8_eqn (k := 45) (eq_of_beq hc37_3)
        refine at_skip ?_
        refine n_then ?_
        refine at_true rfl hc37_3_r ?_
        refine sr ?_
        refine sp4 hT ?_
        refine at_int (z' := ((1 : Nat) : Int)) (wrapN (by omega) (by omega)) ?_
        refine ss (sti_scut hT (j := 0) (k := 1) rfl rfl rfl rfl rfl rfl rfl (by decide) (by simp)) ?_
        refine sp hT ?_
        refine nn ?_
        refine at_ret ?_
        refine r_block ?_
        refine r_then ?_
        exact at_res1 () rfl (rv_tmp rfl) .nil trivial (by first | exact absurd (show b = 60 by assumption) (by assumption) | exact absurd (show b = 62 by assumption) (by assumption) | (rw [sign_two ⟨by first | exact .inl (by assumption) | exact .inr (by assumption), (head_of (by assumption)).trans (congrArg some (by assumption))⟩]; first | done | rfl) | (rw [sign_no2 (by first | exact .inl (head_none (by omega)) | exact .inl (head_ne (by assumption) (by assumption)) | exact .inr ⟨by assumption, by assumption⟩)]; first | (rw [show b = _ from by assumption]; rfl) | (rw [if_neg (by simp [signs, *])]; first | done | rfl)))
      have hc37_3_r := hc37_3
      have hc37_3 : b ≠ 45 := u8_nen (k := 45) (beq_eq_false_iff_ne.1 hc37_3)
      refine sr ?_
      refine sp2 hT ?_
      refine nn ?_
      refine at_cond rfl (fun hc37_4 => ?_) (fun hc37_4 => ?_)
      · have hc37_4_r := hc37_4
        have hc37_4 : b = 42 := u8_eqn (k := 42) (eq_of_beq hc37_4)
        refine at_skip ?_
        refine n_then ?_
        refine at_true rfl hc37_4_r ?_
        refine sr ?_
        refine sp4 hT ?_
        refine at_int (z' := ((1 : Nat) : Int)) (wrapN (by omega) (by omega)) ?_
        refine ss (sti_scut hT (j := 0) (k := 1) rfl rfl rfl rfl rfl rfl rfl (by decide) (by simp)) ?_
        refine sp hT ?_
        refine nn ?_
        refine at_ret ?_
        refine r_block ?_
        refine r_then ?_
        exact at_res1 () rfl (rv_tmp rfl) .nil trivial (by first | exact absurd (show b = 60 by assumption) (by assumption) | exact absurd (show b = 62 by assumption) (by assumption) | (rw [sign_two ⟨by first | exact .inl (by assumption) | exact .inr (by assumption), (head_of (by assumption)).trans (congrArg some (by assumption))⟩]; first | done | rfl) | (rw [sign_no2 (by first | exact .inl (head_none (by omega)) | exact .inl (head_ne (by assumption) (by assumption)) | exact .inr ⟨by assumption, by assumption⟩)]; first | (rw [show b = _ from by assumption]; rfl) | (rw [if_neg (by simp [signs, *])]; first | done | rfl)))
      have hc37_4_r := hc37_4
      have hc37_4 : b ≠ 42 := u8_nen (k := 42) (beq_eq_false_iff_ne.1 hc37_4)
      refine sr ?_
      refine sp2 hT ?_
      refine nn ?_
      refine at_cond rfl (fun hc37_5 => ?_) (fun hc37_5 => ?_)
      · have hc37_5_r := hc37_5
        have hc37_5 : b = 37 := u8_eqn (k := 37) (eq_of_beq hc37_5)
        refine at_skip ?_
        refine n_then ?_
        refine at_true rfl hc37_5_r ?_
        refine sr ?_
        refine sp4 hT ?_
        refine at_int (z' := ((1 : Nat) : Int)) (wrapN (by omega) (by omega)) ?_
        refine ss (sti_scut hT (j := 0) (k := 1) rfl rfl rfl rfl rfl rfl rfl (by decide) (by simp)) ?_
        refine sp hT ?_
        refine nn ?_
        refine at_ret ?_
        refine r_block ?_
        refine r_then ?_
        exact at_res1 () rfl (rv_tmp rfl) .nil trivial (by first | exact absurd (show b = 60 by assumption) (by assumption) | exact absurd (show b = 62 by assumption) (by assumption) | (rw [sign_two ⟨by first | exact .inl (by assumption) | exact .inr (by assumption), (head_of (by assumption)).trans (congrArg some (by assumption))⟩]; first | done | rfl) | (rw [sign_no2 (by first | exact .inl (head_none (by omega)) | exact .inl (head_ne (by assumption) (by assumption)) | exact .inr ⟨by assumption, by assumption⟩)]; first | (rw [show b = _ from by assumption]; rfl) | (rw [if_neg (by simp [signs, *])]; first | done | rfl)))
      have hc37_5_r := hc37_5
      have hc37_5 : b ≠ 37 := u8_nen (k := 37) (beq_eq_false_iff_ne.1 hc37_5)
      refine sr ?_
      refine sp2 hT ?_
      refine nn ?_
      refine at_cond rfl (fun hc37_6 => ?_) (fun hc37_6 => ?_)
      · have hc37_6_r := hc37_6
        have hc37_6 : b = 124 := u8_eqn (k := 124) (eq_of_beq hc37_6)
        refine at_skip ?_
        refine n_then ?_
        refine at_true rfl hc37_6_r ?_
        refine sr ?_
        refine sp4 hT ?_
        refine at_int (z' := ((1 : Nat) : Int)) (wrapN (by omega) (by omega)) ?_
        refine ss (sti_scut hT (j := 0) (k := 1) rfl rfl rfl rfl rfl rfl rfl (by decide) (by simp)) ?_
        refine sp hT ?_
        refine nn ?_
        refine at_ret ?_
        refine r_block ?_
        refine r_then ?_
        exact at_res1 () rfl (rv_tmp rfl) .nil trivial (by first | exact absurd (show b = 60 by assumption) (by assumption) | exact absurd (show b = 62 by assumption) (by assumption) | (rw [sign_two ⟨by first | exact .inl (by assumption) | exact .inr (by assumption), (head_of (by assumption)).trans (congrArg some (by assumption))⟩]; first | done | rfl) | (rw [sign_no2 (by first | exact .inl (head_none (by omega)) | exact .inl (head_ne (by assumption) (by assumption)) | exact .inr ⟨by assumption, by assumption⟩)]; first | (rw [show b = _ from by assumption]; rfl) | (rw [if_neg (by simp [signs, *])]; first | done | rfl)))
      have hc37_6_r := hc37_6
      have hc37_6 : b ≠ 124 := u8_nen (k := 124) (beq_eq_false_iff_ne.1 hc37_6)
      refine sr ?_
      refine sp2 hT ?_
      refine nn ?_
      refine at_cond rfl (fun hc37_7 => ?_) (fun hc37_7 => ?_)
      · have hc37_7_r := hc37_7
        have hc37_7 : b = 61 := u8_eqn (k := 61) (eq_of_beq hc37_7)
        refine at_skip ?_
        refine n_then ?_
        refine at_true rfl hc37_7_r ?_
        refine sr ?_
        refine sp4 hT ?_
        refine at_int (z' := ((1 : Nat) : Int)) (wrapN (by omega) (by omega)) ?_
        refine ss (sti_scut hT (j := 0) (k := 1) rfl rfl rfl rfl rfl rfl rfl (by decide) (by simp)) ?_
        refine sp hT ?_
        refine nn ?_
        refine at_ret ?_
        refine r_block ?_
        refine r_then ?_
        exact at_res1 () rfl (rv_tmp rfl) .nil trivial (by first | exact absurd (show b = 60 by assumption) (by assumption) | exact absurd (show b = 62 by assumption) (by assumption) | (rw [sign_two ⟨by first | exact .inl (by assumption) | exact .inr (by assumption), (head_of (by assumption)).trans (congrArg some (by assumption))⟩]; first | done | rfl) | (rw [sign_no2 (by first | exact .inl (head_none (by omega)) | exact .inl (head_ne (by assumption) (by assumption)) | exact .inr ⟨by assumption, by assumption⟩)]; first | (rw [show b = _ from by assumption]; rfl) | (rw [if_neg (by simp [signs, *])]; first | done | rfl)))
      have hc37_7_r := hc37_7
      have hc37_7 : b ≠ 61 := u8_nen (k := 61) (beq_eq_false_iff_ne.1 hc37_7)
      refine sr ?_
      refine sp2 hT ?_
      refine nn ?_
      refine at_cond rfl (fun hc37_8 => ?_) (fun hc37_8 => ?_)
      · have hc37_8_r := hc37_8
        have hc37_8 : b = 126 := u8_eqn (k := 126) (eq_of_beq hc37_8)
        refine at_skip ?_
        refine n_then ?_
        refine at_true rfl hc37_8_r ?_
        refine sr ?_
        refine sp4 hT ?_
        refine at_int (z' := ((1 : Nat) : Int)) (wrapN (by omega) (by omega)) ?_
        refine ss (sti_scut hT (j := 0) (k := 1) rfl rfl rfl rfl rfl rfl rfl (by decide) (by simp)) ?_
        refine sp hT ?_
        refine nn ?_
        refine at_ret ?_
        refine r_block ?_
        refine r_then ?_
        exact at_res1 () rfl (rv_tmp rfl) .nil trivial (by first | exact absurd (show b = 60 by assumption) (by assumption) | exact absurd (show b = 62 by assumption) (by assumption) | (rw [sign_two ⟨by first | exact .inl (by assumption) | exact .inr (by assumption), (head_of (by assumption)).trans (congrArg some (by assumption))⟩]; first | done | rfl) | (rw [sign_no2 (by first | exact .inl (head_none (by omega)) | exact .inl (head_ne (by assumption) (by assumption)) | exact .inr ⟨by assumption, by assumption⟩)]; first | (rw [show b = _ from by assumption]; rfl) | (rw [if_neg (by simp [signs, *])]; first | done | rfl)))
      have hc37_8_r := hc37_8
      have hc37_8 : b ≠ 126 := u8_nen (k := 126) (beq_eq_false_iff_ne.1 hc37_8)
      refine sr ?_
      refine sp2 hT ?_
      refine nn ?_
      refine at_cond rfl (fun hc37_9 => ?_) (fun hc37_9 => ?_)
      · have hc37_9_r := hc37_9
        have hc37_9 : b = 60 := u8_eqn (k := 60) (eq_of_beq hc37_9)
        refine at_skip ?_
        refine n_then ?_
        refine at_true rfl hc37_9_r ?_
        refine sr ?_
        refine sp4 hT ?_
        refine at_int (z' := ((1 : Nat) : Int)) (wrapN (by omega) (by omega)) ?_
        refine ss (sti_scut hT (j := 0) (k := 1) rfl rfl rfl rfl rfl rfl rfl (by decide) (by simp)) ?_
        refine sp hT ?_
        refine nn ?_
        refine at_ret ?_
        refine r_block ?_
        refine r_then ?_
        exact at_res1 () rfl (rv_tmp rfl) .nil trivial (by first | exact absurd (show b = 60 by assumption) (by assumption) | exact absurd (show b = 62 by assumption) (by assumption) | (rw [sign_two ⟨by first | exact .inl (by assumption) | exact .inr (by assumption), (head_of (by assumption)).trans (congrArg some (by assumption))⟩]; first | done | rfl) | (rw [sign_no2 (by first | exact .inl (head_none (by omega)) | exact .inl (head_ne (by assumption) (by assumption)) | exact .inr ⟨by assumption, by assumption⟩)]; first | (rw [show b = _ from by assumption]; rfl) | (rw [if_neg (by simp [signs, *])]; first | done | rfl)))
      have hc37_9_r := hc37_9
      have hc37_9 : b ≠ 60 := u8_nen (k := 60) (beq_eq_false_iff_ne.1 hc37_9)
      refine sr ?_
      refine sp2 hT ?_
      refine nn ?_
      refine at_cond rfl (fun hc37_10 => ?_) (fun hc37_10 => ?_)
      · have hc37_10_r := hc37_10
        have hc37_10 : b = 62 := u8_eqn (k := 62) (eq_of_beq hc37_10)
        refine at_skip ?_
        refine n_then ?_
        refine at_true rfl hc37_10_r ?_
        refine sr ?_
        refine sp4 hT ?_
        refine at_int (z' := ((1 : Nat) : Int)) (wrapN (by omega) (by omega)) ?_
        refine ss (sti_scut hT (j := 0) (k := 1) rfl rfl rfl rfl rfl rfl rfl (by decide) (by simp)) ?_
        refine sp hT ?_
        refine nn ?_
        refine at_ret ?_
        refine r_block ?_
        refine r_then ?_
        exact at_res1 () rfl (rv_tmp rfl) .nil trivial (by first | exact absurd (show b = 60 by assumption) (by assumption) | exact absurd (show b = 62 by assumption) (by assumption) | (rw [sign_two ⟨by first | exact .inl (by assumption) | exact .inr (by assumption), (head_of (by assumption)).trans (congrArg some (by assumption))⟩]; first | done | rfl) | (rw [sign_no2 (by first | exact .inl (head_none (by omega)) | exact .inl (head_ne (by assumption) (by assumption)) | exact .inr ⟨by assumption, by assumption⟩)]; first | (rw [show b = _ from by assumption]; rfl) | (rw [if_neg (by simp [signs, *])]; first | done | rfl)))
      have hc37_10_r := hc37_10
      have hc37_10 : b ≠ 62 := u8_nen (k := 62) (beq_eq_false_iff_ne.1 hc37_10)
      refine sr ?_
      refine sp2 hT ?_
      refine nn ?_
      refine at_cond rfl (fun hc37_11 => ?_) (fun hc37_11 => ?_)
      · have hc37_11_r := hc37_11
        have hc37_11 : b = 47 := u8_eqn (k := 47) (eq_of_beq hc37_11)
        refine at_skip ?_
        refine n_then ?_
        refine at_true rfl hc37_11_r ?_
        refine sr ?_
        refine sp4 hT ?_
        refine at_int (z' := ((1 : Nat) : Int)) (wrapN (by omega) (by omega)) ?_
        refine ss (sti_scut hT (j := 0) (k := 1) rfl rfl rfl rfl rfl rfl rfl (by decide) (by simp)) ?_
        refine sp hT ?_
        refine nn ?_
        refine at_ret ?_
        refine r_block ?_
        refine r_then ?_
        exact at_res1 () rfl (rv_tmp rfl) .nil trivial (by first | exact absurd (show b = 60 by assumption) (by assumption) | exact absurd (show b = 62 by assumption) (by assumption) | (rw [sign_two ⟨by first | exact .inl (by assumption) | exact .inr (by assumption), (head_of (by assumption)).trans (congrArg some (by assumption))⟩]; first | done | rfl) | (rw [sign_no2 (by first | exact .inl (head_none (by omega)) | exact .inl (head_ne (by assumption) (by assumption)) | exact .inr ⟨by assumption, by assumption⟩)]; first | (rw [show b = _ from by assumption]; rfl) | (rw [if_neg (by simp [signs, *])]; first | done | rfl)))
      have hc37_11_r := hc37_11
      have hc37_11 : b ≠ 47 := u8_nen (k := 47) (beq_eq_false_iff_ne.1 hc37_11)
      refine sr ?_
      refine sp2 hT ?_
      refine nn ?_
      refine at_cond rfl (fun hc37_12 => ?_) (fun hc37_12 => ?_)
      · have hc37_12_r := hc37_12
        have hc37_12 : b = 92 := u8_eqn (k := 92) (eq_of_beq hc37_12)
        refine at_skip ?_
        refine n_then ?_
        refine at_true rfl hc37_12_r ?_
        refine sr ?_
        refine sp4 hT ?_
        refine at_int (z' := ((1 : Nat) : Int)) (wrapN (by omega) (by omega)) ?_
        refine ss (sti_scut hT (j := 0) (k := 1) rfl rfl rfl rfl rfl rfl rfl (by decide) (by simp)) ?_
        refine sp hT ?_
        refine nn ?_
        refine at_ret ?_
        refine r_block ?_
        refine r_then ?_
        exact at_res1 () rfl (rv_tmp rfl) .nil trivial (by first | exact absurd (show b = 60 by assumption) (by assumption) | exact absurd (show b = 62 by assumption) (by assumption) | (rw [sign_two ⟨by first | exact .inl (by assumption) | exact .inr (by assumption), (head_of (by assumption)).trans (congrArg some (by assumption))⟩]; first | done | rfl) | (rw [sign_no2 (by first | exact .inl (head_none (by omega)) | exact .inl (head_ne (by assumption) (by assumption)) | exact .inr ⟨by assumption, by assumption⟩)]; first | (rw [show b = _ from by assumption]; rfl) | (rw [if_neg (by simp [signs, *])]; first | done | rfl)))
      have hc37_12_r := hc37_12
      have hc37_12 : b ≠ 92 := u8_nen (k := 92) (beq_eq_false_iff_ne.1 hc37_12)
      refine sr ?_
      refine sp2 hT ?_
      refine nn ?_
      refine at_cond rfl (fun hc37_13 => ?_) (fun hc37_13 => ?_)
      · have hc37_13_r := hc37_13
        have hc37_13 : b = 46 := u8_eqn (k := 46) (eq_of_beq hc37_13)
        refine at_skip ?_
        refine n_then ?_
        refine at_true rfl hc37_13_r ?_
        refine sr ?_
        refine sp4 hT ?_
        refine at_int (z' := ((1 : Nat) : Int)) (wrapN (by omega) (by omega)) ?_
        refine ss (sti_scut hT (j := 0) (k := 1) rfl rfl rfl rfl rfl rfl rfl (by decide) (by simp)) ?_
        refine sp hT ?_
        refine nn ?_
        refine at_ret ?_
        refine r_block ?_
        refine r_then ?_
        exact at_res1 () rfl (rv_tmp rfl) .nil trivial (by first | exact absurd (show b = 60 by assumption) (by assumption) | exact absurd (show b = 62 by assumption) (by assumption) | (rw [sign_two ⟨by first | exact .inl (by assumption) | exact .inr (by assumption), (head_of (by assumption)).trans (congrArg some (by assumption))⟩]; first | done | rfl) | (rw [sign_no2 (by first | exact .inl (head_none (by omega)) | exact .inl (head_ne (by assumption) (by assumption)) | exact .inr ⟨by assumption, by assumption⟩)]; first | (rw [show b = _ from by assumption]; rfl) | (rw [if_neg (by simp [signs, *])]; first | done | rfl)))
      have hc37_13_r := hc37_13
      have hc37_13 : b ≠ 46 := u8_nen (k := 46) (beq_eq_false_iff_ne.1 hc37_13)
      refine sr ?_
      refine sp2 hT ?_
      refine nn ?_
      refine at_cond rfl (fun hc37_14 => ?_) (fun hc37_14 => ?_)
      · have hc37_14_r := hc37_14
        have hc37_14 : b = 58 := u8_eqn (k := 58) (eq_of_beq hc37_14)
        refine at_skip ?_
        refine n_then ?_
        refine at_true rfl hc37_14_r ?_
        refine sr ?_
        refine sp4 hT ?_
        refine at_int (z' := ((1 : Nat) : Int)) (wrapN (by omega) (by omega)) ?_
        refine ss (sti_scut hT (j := 0) (k := 1) rfl rfl rfl rfl rfl rfl rfl (by decide) (by simp)) ?_
        refine sp hT ?_
        refine nn ?_
        refine at_ret ?_
        refine r_block ?_
        refine r_then ?_
        exact at_res1 () rfl (rv_tmp rfl) .nil trivial (by first | exact absurd (show b = 60 by assumption) (by assumption) | exact absurd (show b = 62 by assumption) (by assumption) | (rw [sign_two ⟨by first | exact .inl (by assumption) | exact .inr (by assumption), (head_of (by assumption)).trans (congrArg some (by assumption))⟩]; first | done | rfl) | (rw [sign_no2 (by first | exact .inl (head_none (by omega)) | exact .inl (head_ne (by assumption) (by assumption)) | exact .inr ⟨by assumption, by assumption⟩)]; first | (rw [show b = _ from by assumption]; rfl) | (rw [if_neg (by simp [signs, *])]; first | done | rfl)))
      have hc37_14_r := hc37_14
      have hc37_14 : b ≠ 58 := u8_nen (k := 58) (beq_eq_false_iff_ne.1 hc37_14)
      refine sr ?_
      refine sp2 hT ?_
      refine nn ?_
      refine at_cond rfl (fun hc37_15 => ?_) (fun hc37_15 => ?_)
      · have hc37_15_r := hc37_15
        have hc37_15 : b = 40 := u8_eqn (k := 40) (eq_of_beq hc37_15)
        refine at_skip ?_
        refine n_then ?_
        refine at_true rfl hc37_15_r ?_
        refine sr ?_
        refine sp4 hT ?_
        refine at_int (z' := ((1 : Nat) : Int)) (wrapN (by omega) (by omega)) ?_
        refine ss (sti_scut hT (j := 0) (k := 1) rfl rfl rfl rfl rfl rfl rfl (by decide) (by simp)) ?_
        refine sp hT ?_
        refine nn ?_
        refine at_ret ?_
        refine r_block ?_
        refine r_then ?_
        exact at_res1 () rfl (rv_tmp rfl) .nil trivial (by first | exact absurd (show b = 60 by assumption) (by assumption) | exact absurd (show b = 62 by assumption) (by assumption) | (rw [sign_two ⟨by first | exact .inl (by assumption) | exact .inr (by assumption), (head_of (by assumption)).trans (congrArg some (by assumption))⟩]; first | done | rfl) | (rw [sign_no2 (by first | exact .inl (head_none (by omega)) | exact .inl (head_ne (by assumption) (by assumption)) | exact .inr ⟨by assumption, by assumption⟩)]; first | (rw [show b = _ from by assumption]; rfl) | (rw [if_neg (by simp [signs, *])]; first | done | rfl)))
      have hc37_15_r := hc37_15
      have hc37_15 : b ≠ 40 := u8_nen (k := 40) (beq_eq_false_iff_ne.1 hc37_15)
      refine at_region ?_
      refine sp2 hT ?_
      refine nn ?_
      refine at_cond rfl (fun hc37_16 => ?_) (fun hc37_16 => ?_)
      · have hc37_16_r := hc37_16
        have hc37_16 : b = 41 := u8_eqn (k := 41) (eq_of_beq hc37_16)
        refine sr ?_
        refine sp4 hT ?_
        refine at_int (z' := ((1 : Nat) : Int)) (wrapN (by omega) (by omega)) ?_
        refine ss (sti_scut hT (j := 0) (k := 1) rfl rfl rfl rfl rfl rfl rfl (by decide) (by simp)) ?_
        refine sp hT ?_
        refine nn ?_
        refine at_ret ?_
        refine r_block ?_
        refine r_then ?_
        exact at_res1 () rfl (rv_tmp rfl) .nil trivial (by first | exact absurd (show b = 60 by assumption) (by assumption) | exact absurd (show b = 62 by assumption) (by assumption) | (rw [sign_two ⟨by first | exact .inl (by assumption) | exact .inr (by assumption), (head_of (by assumption)).trans (congrArg some (by assumption))⟩]; first | done | rfl) | (rw [sign_no2 (by first | exact .inl (head_none (by omega)) | exact .inl (head_ne (by assumption) (by assumption)) | exact .inr ⟨by assumption, by assumption⟩)]; first | (rw [show b = _ from by assumption]; rfl) | (rw [if_neg (by simp [signs, *])]; first | done | rfl)))
      have hc37_16_r := hc37_16
      have hc37_16 : b ≠ 41 := u8_nen (k := 41) (beq_eq_false_iff_ne.1 hc37_16)
      refine at_skip ?_
      refine n_block ?_
      refine n_then ?_
      refine sr ?_
      refine sp hT ?_
      refine nn ?_
      refine at_ret ?_
      exact at_res1 () rfl (rv_tmp rfl) .nil trivial (by first | exact absurd (show b = 60 by assumption) (by assumption) | exact absurd (show b = 62 by assumption) (by assumption) | (rw [sign_two ⟨by first | exact .inl (by assumption) | exact .inr (by assumption), (head_of (by assumption)).trans (congrArg some (by assumption))⟩]; first | done | rfl) | (rw [sign_no2 (by first | exact .inl (head_none (by omega)) | exact .inl (head_ne (by assumption) (by assumption)) | exact .inr ⟨by assumption, by assumption⟩)]; first | (rw [show b = _ from by assumption]; rfl) | (rw [if_neg (by simp [signs, *])]; first | done | rfl)))
    have hg15 : b ≠ 60 := u8_nen (k := 60) (beq_eq_false_iff_ne.1 hg15)
    refine sp2 hT ?_
    refine ss (sti_sindex hT (k := 0) rfl rfl rfl rfl rfl rfl) ?_
    refine sp4 hT ?_
    refine at_case (fun hg22 => ?_) (fun hg22 => ?_)
    · have hg22 : b = 62 := u8_eqn (k := 62) (eq_of_beq hg22)
      refine sp3 hT ?_
      refine at_int (z' := ((1 : Nat) : Int)) (wrapN (by omega) (by omega)) ?_
      obtain ⟨b17, hb18⟩ : ∃ b', (b :: r)[1]? = some b' := ⟨_, List.getElem?_eq_getElem (by omega)⟩
      refine ss (sti_sindex hT (k := 1) rfl rfl rfl rfl rfl hb18) ?_
      refine sp2 hT ?_
      refine nn ?_
      refine at_cond rfl (fun hc28 => ?_) (fun hc28 => ?_)
      · have hc28_r := hc28
        have hc28 : b17 = 61 := u8_eqn (k := 61) (eq_of_beq hc28)
        refine sr ?_
        refine sp4 hT ?_
        refine at_int (z' := ((2 : Nat) : Int)) (wrapN (by omega) (by omega)) ?_
        refine ss (sti_scut hT (j := 0) (k := 2) rfl rfl rfl rfl rfl rfl rfl (by decide) (by omega)) ?_
        refine sp hT ?_
        refine nn ?_
        refine at_ret ?_
        refine r_then ?_
        exact at_res1 () rfl (rv_tmp rfl) .nil trivial (by first | exact absurd (show b = 60 by assumption) (by assumption) | exact absurd (show b = 62 by assumption) (by assumption) | (rw [sign_two ⟨by first | exact .inl (by assumption) | exact .inr (by assumption), (head_of (by assumption)).trans (congrArg some (by assumption))⟩]; first | done | rfl) | (rw [sign_no2 (by first | exact .inl (head_none (by omega)) | exact .inl (head_ne (by assumption) (by assumption)) | exact .inr ⟨by assumption, by assumption⟩)]; first | (rw [show b = _ from by assumption]; rfl) | (rw [if_neg (by simp [signs, *])]; first | done | rfl)))
      have hc28_r := hc28
      have hc28 : b17 ≠ 61 := u8_nen (k := 61) (beq_eq_false_iff_ne.1 hc28)
      refine at_skip ?_
      refine n_then ?_
      refine at_seq ?_
      refine sr ?_
      refine sp2 hT ?_
      refine ss (sti_sindex hT (k := 0) rfl rfl rfl rfl rfl rfl) ?_
      refine nn ?_
      refine at_block ?_
      refine at_seq ?_
      refine sr ?_
      refine sp2 hT ?_
      refine nn ?_
      refine at_cond rfl (fun hc37 => ?_) (fun hc37 => ?_)
      · have hc37_r := hc37
        have hc37 : b = 43 := u8_eqn (k := 43) (eq_of_beq hc37)
        refine at_skip ?_
        refine n_then ?_
        refine at_true rfl hc37_r ?_
        refine sr ?_
        refine sp4 hT ?_
        refine at_int (z' := ((1 : Nat) : Int)) (wrapN (by omega) (by omega)) ?_
        refine ss (sti_scut hT (j := 0) (k := 1) rfl rfl rfl rfl rfl rfl rfl (by decide) (by simp)) ?_
        refine sp hT ?_
        refine nn ?_
        refine at_ret ?_
        refine r_block ?_
        refine r_then ?_
        exact at_res1 () rfl (rv_tmp rfl) .nil trivial (by first | exact absurd (show b = 60 by assumption) (by assumption) | exact absurd (show b = 62 by assumption) (by assumption) | (rw [sign_two ⟨by first | exact .inl (by assumption) | exact .inr (by assumption), (head_of (by assumption)).trans (congrArg some (by assumption))⟩]; first | done | rfl) | (rw [sign_no2 (by first | exact .inl (head_none (by omega)) | exact .inl (head_ne (by assumption) (by assumption)) | exact .inr ⟨by assumption, by assumption⟩)]; first | (rw [show b = _ from by assumption]; rfl) | (rw [if_neg (by simp [signs, *])]; first | done | rfl)))
      have hc37_r := hc37
      have hc37 : b ≠ 43 := u8_nen (k := 43) (beq_eq_false_iff_ne.1 hc37)
      refine sr ?_
      refine sp2 hT ?_
      refine nn ?_
      refine at_cond rfl (fun hc37_19 => ?_) (fun hc37_19 => ?_)
      · have hc37_19_r := hc37_19
        have hc37_19 : b = 45 := u8_eqn (k := 45) (eq_of_beq hc37_19)
        refine at_skip ?_
        refine n_then ?_
        refine at_true rfl hc37_19_r ?_
        refine sr ?_
        refine sp4 hT ?_
        refine at_int (z' := ((1 : Nat) : Int)) (wrapN (by omega) (by omega)) ?_
        refine ss (sti_scut hT (j := 0) (k := 1) rfl rfl rfl rfl rfl rfl rfl (by decide) (by simp)) ?_
        refine sp hT ?_
        refine nn ?_
        refine at_ret ?_
        refine r_block ?_
        refine r_then ?_
        exact at_res1 () rfl (rv_tmp rfl) .nil trivial (by first | exact absurd (show b = 60 by assumption) (by assumption) | exact absurd (show b = 62 by assumption) (by assumption) | (rw [sign_two ⟨by first | exact .inl (by assumption) | exact .inr (by assumption), (head_of (by assumption)).trans (congrArg some (by assumption))⟩]; first | done | rfl) | (rw [sign_no2 (by first | exact .inl (head_none (by omega)) | exact .inl (head_ne (by assumption) (by assumption)) | exact .inr ⟨by assumption, by assumption⟩)]; first | (rw [show b = _ from by assumption]; rfl) | (rw [if_neg (by simp [signs, *])]; first | done | rfl)))
      have hc37_19_r := hc37_19
      have hc37_19 : b ≠ 45 := u8_nen (k := 45) (beq_eq_false_iff_ne.1 hc37_19)
      refine sr ?_
      refine sp2 hT ?_
      refine nn ?_
      refine at_cond rfl (fun hc37_20 => ?_) (fun hc37_20 => ?_)
      · have hc37_20_r := hc37_20
        have hc37_20 : b = 42 := u8_eqn (k := 42) (eq_of_beq hc37_20)
        refine at_skip ?_
        refine n_then ?_
        refine at_true rfl hc37_20_r ?_
        refine sr ?_
        refine sp4 hT ?_
        refine at_int (z' := ((1 : Nat) : Int)) (wrapN (by omega) (by omega)) ?_
        refine ss (sti_scut hT (j := 0) (k := 1) rfl rfl rfl rfl rfl rfl rfl (by decide) (by simp)) ?_
        refine sp hT ?_
        refine nn ?_
        refine at_ret ?_
        refine r_block ?_
        refine r_then ?_
        exact at_res1 () rfl (rv_tmp rfl) .nil trivial (by first | exact absurd (show b = 60 by assumption) (by assumption) | exact absurd (show b = 62 by assumption) (by assumption) | (rw [sign_two ⟨by first | exact .inl (by assumption) | exact .inr (by assumption), (head_of (by assumption)).trans (congrArg some (by assumption))⟩]; first | done | rfl) | (rw [sign_no2 (by first | exact .inl (head_none (by omega)) | exact .inl (head_ne (by assumption) (by assumption)) | exact .inr ⟨by assumption, by assumption⟩)]; first | (rw [show b = _ from by assumption]; rfl) | (rw [if_neg (by simp [signs, *])]; first | done | rfl)))
      have hc37_20_r := hc37_20
      have hc37_20 : b ≠ 42 := u8_nen (k := 42) (beq_eq_false_iff_ne.1 hc37_20)
      refine sr ?_
      refine sp2 hT ?_
      refine nn ?_
      refine at_cond rfl (fun hc37_21 => ?_) (fun hc37_21 => ?_)
      · have hc37_21_r := hc37_21
        have hc37_21 : b = 37 := u8_eqn (k := 37) (eq_of_beq hc37_21)
        refine at_skip ?_
        refine n_then ?_
        refine at_true rfl hc37_21_r ?_
        refine sr ?_
        refine sp4 hT ?_
        refine at_int (z' := ((1 : Nat) : Int)) (wrapN (by omega) (by omega)) ?_
        refine ss (sti_scut hT (j := 0) (k := 1) rfl rfl rfl rfl rfl rfl rfl (by decide) (by simp)) ?_
        refine sp hT ?_
        refine nn ?_
        refine at_ret ?_
        refine r_block ?_
        refine r_then ?_
        exact at_res1 () rfl (rv_tmp rfl) .nil trivial (by first | exact absurd (show b = 60 by assumption) (by assumption) | exact absurd (show b = 62 by assumption) (by assumption) | (rw [sign_two ⟨by first | exact .inl (by assumption) | exact .inr (by assumption), (head_of (by assumption)).trans (congrArg some (by assumption))⟩]; first | done | rfl) | (rw [sign_no2 (by first | exact .inl (head_none (by omega)) | exact .inl (head_ne (by assumption) (by assumption)) | exact .inr ⟨by assumption, by assumption⟩)]; first | (rw [show b = _ from by assumption]; rfl) | (rw [if_neg (by simp [signs, *])]; first | done | rfl)))
      have hc37_21_r := hc37_21
      have hc37_21 : b ≠ 37 := u8_nen (k := 37) (beq_eq_false_iff_ne.1 hc37_21)
      refine sr ?_
      refine sp2 hT ?_
      refine nn ?_
      refine at_cond rfl (fun hc37_22 => ?_) (fun hc37_22 => ?_)
      · have hc37_22_r := hc37_22
        have hc37_22 : b = 124 := u8_eqn (k := 124) (eq_of_beq hc37_22)
        refine at_skip ?_
        refine n_then ?_
        refine at_true rfl hc37_22_r ?_
        refine sr ?_
        refine sp4 hT ?_
        refine at_int (z' := ((1 : Nat) : Int)) (wrapN (by omega) (by omega)) ?_
        refine ss (sti_scut hT (j := 0) (k := 1) rfl rfl rfl rfl rfl rfl rfl (by decide) (by simp)) ?_
        refine sp hT ?_
        refine nn ?_
        refine at_ret ?_
        refine r_block ?_
        refine r_then ?_
        exact at_res1 () rfl (rv_tmp rfl) .nil trivial (by first | exact absurd (show b = 60 by assumption) (by assumption) | exact absurd (show b = 62 by assumption) (by assumption) | (rw [sign_two ⟨by first | exact .inl (by assumption) | exact .inr (by assumption), (head_of (by assumption)).trans (congrArg some (by assumption))⟩]; first | done | rfl) | (rw [sign_no2 (by first | exact .inl (head_none (by omega)) | exact .inl (head_ne (by assumption) (by assumption)) | exact .inr ⟨by assumption, by assumption⟩)]; first | (rw [show b = _ from by assumption]; rfl) | (rw [if_neg (by simp [signs, *])]; first | done | rfl)))
      have hc37_22_r := hc37_22
      have hc37_22 : b ≠ 124 := u8_nen (k := 124) (beq_eq_false_iff_ne.1 hc37_22)
      refine sr ?_
      refine sp2 hT ?_
      refine nn ?_
      refine at_cond rfl (fun hc37_23 => ?_) (fun hc37_23 => ?_)
      · have hc37_23_r := hc37_23
        have hc37_23 : b = 61 := u8_eqn (k := 61) (eq_of_beq hc37_23)
        refine at_skip ?_
        refine n_then ?_
        refine at_true rfl hc37_23_r ?_
        refine sr ?_
        refine sp4 hT ?_
        refine at_int (z' := ((1 : Nat) : Int)) (wrapN (by omega) (by omega)) ?_
        refine ss (sti_scut hT (j := 0) (k := 1) rfl rfl rfl rfl rfl rfl rfl (by decide) (by simp)) ?_
        refine sp hT ?_
        refine nn ?_
        refine at_ret ?_
        refine r_block ?_
        refine r_then ?_
        exact at_res1 () rfl (rv_tmp rfl) .nil trivial (by first | exact absurd (show b = 60 by assumption) (by assumption) | exact absurd (show b = 62 by assumption) (by assumption) | (rw [sign_two ⟨by first | exact .inl (by assumption) | exact .inr (by assumption), (head_of (by assumption)).trans (congrArg some (by assumption))⟩]; first | done | rfl) | (rw [sign_no2 (by first | exact .inl (head_none (by omega)) | exact .inl (head_ne (by assumption) (by assumption)) | exact .inr ⟨by assumption, by assumption⟩)]; first | (rw [show b = _ from by assumption]; rfl) | (rw [if_neg (by simp [signs, *])]; first | done | rfl)))
      have hc37_23_r := hc37_23
      have hc37_23 : b ≠ 61 := u8_nen (k := 61) (beq_eq_false_iff_ne.1 hc37_23)
      refine sr ?_
      refine sp2 hT ?_
      refine nn ?_
      refine at_cond rfl (fun hc37_24 => ?_) (fun hc37_24 => ?_)
      · have hc37_24_r := hc37_24
        have hc37_24 : b = 126 := u8_eqn (k := 126) (eq_of_beq hc37_24)
        refine at_skip ?_
        refine n_then ?_
        refine at_true rfl hc37_24_r ?_
        refine sr ?_
        refine sp4 hT ?_
        refine at_int (z' := ((1 : Nat) : Int)) (wrapN (by omega) (by omega)) ?_
        refine ss (sti_scut hT (j := 0) (k := 1) rfl rfl rfl rfl rfl rfl rfl (by decide) (by simp)) ?_
        refine sp hT ?_
        refine nn ?_
        refine at_ret ?_
        refine r_block ?_
        refine r_then ?_
        exact at_res1 () rfl (rv_tmp rfl) .nil trivial (by first | exact absurd (show b = 60 by assumption) (by assumption) | exact absurd (show b = 62 by assumption) (by assumption) | (rw [sign_two ⟨by first | exact .inl (by assumption) | exact .inr (by assumption), (head_of (by assumption)).trans (congrArg some (by assumption))⟩]; first | done | rfl) | (rw [sign_no2 (by first | exact .inl (head_none (by omega)) | exact .inl (head_ne (by assumption) (by assumption)) | exact .inr ⟨by assumption, by assumption⟩)]; first | (rw [show b = _ from by assumption]; rfl) | (rw [if_neg (by simp [signs, *])]; first | done | rfl)))
      have hc37_24_r := hc37_24
      have hc37_24 : b ≠ 126 := u8_nen (k := 126) (beq_eq_false_iff_ne.1 hc37_24)
      refine sr ?_
      refine sp2 hT ?_
      refine nn ?_
      refine at_cond rfl (fun hc37_25 => ?_) (fun hc37_25 => ?_)
      · have hc37_25_r := hc37_25
        have hc37_25 : b = 60 := u8_eqn (k := 60) (eq_of_beq hc37_25)
        refine at_skip ?_
        refine n_then ?_
        refine at_true rfl hc37_25_r ?_
        refine sr ?_
        refine sp4 hT ?_
        refine at_int (z' := ((1 : Nat) : Int)) (wrapN (by omega) (by omega)) ?_
        refine ss (sti_scut hT (j := 0) (k := 1) rfl rfl rfl rfl rfl rfl rfl (by decide) (by simp)) ?_
        refine sp hT ?_
        refine nn ?_
        refine at_ret ?_
        refine r_block ?_
        refine r_then ?_
        exact at_res1 () rfl (rv_tmp rfl) .nil trivial (by first | exact absurd (show b = 60 by assumption) (by assumption) | exact absurd (show b = 62 by assumption) (by assumption) | (rw [sign_two ⟨by first | exact .inl (by assumption) | exact .inr (by assumption), (head_of (by assumption)).trans (congrArg some (by assumption))⟩]; first | done | rfl) | (rw [sign_no2 (by first | exact .inl (head_none (by omega)) | exact .inl (head_ne (by assumption) (by assumption)) | exact .inr ⟨by assumption, by assumption⟩)]; first | (rw [show b = _ from by assumption]; rfl) | (rw [if_neg (by simp [signs, *])]; first | done | rfl)))
      have hc37_25_r := hc37_25
      have hc37_25 : b ≠ 60 := u8_nen (k := 60) (beq_eq_false_iff_ne.1 hc37_25)
      refine sr ?_
      refine sp2 hT ?_
      refine nn ?_
      refine at_cond rfl (fun hc37_26 => ?_) (fun hc37_26 => ?_)
      · have hc37_26_r := hc37_26
        have hc37_26 : b = 62 := u8_eqn (k := 62) (eq_of_beq hc37_26)
        refine at_skip ?_
        refine n_then ?_
        refine at_true rfl hc37_26_r ?_
        refine sr ?_
        refine sp4 hT ?_
        refine at_int (z' := ((1 : Nat) : Int)) (wrapN (by omega) (by omega)) ?_
        refine ss (sti_scut hT (j := 0) (k := 1) rfl rfl rfl rfl rfl rfl rfl (by decide) (by simp)) ?_
        refine sp hT ?_
        refine nn ?_
        refine at_ret ?_
        refine r_block ?_
        refine r_then ?_
        exact at_res1 () rfl (rv_tmp rfl) .nil trivial (by first | exact absurd (show b = 60 by assumption) (by assumption) | exact absurd (show b = 62 by assumption) (by assumption) | (rw [sign_two ⟨by first | exact .inl (by assumption) | exact .inr (by assumption), (head_of (by assumption)).trans (congrArg some (by assumption))⟩]; first | done | rfl) | (rw [sign_no2 (by first | exact .inl (head_none (by omega)) | exact .inl (head_ne (by assumption) (by assumption)) | exact .inr ⟨by assumption, by assumption⟩)]; first | (rw [show b = _ from by assumption]; rfl) | (rw [if_neg (by simp [signs, *])]; first | done | rfl)))
      have hc37_26_r := hc37_26
      have hc37_26 : b ≠ 62 := u8_nen (k := 62) (beq_eq_false_iff_ne.1 hc37_26)
      refine sr ?_
      refine sp2 hT ?_
      refine nn ?_
      refine at_cond rfl (fun hc37_27 => ?_) (fun hc37_27 => ?_)
      · have hc37_27_r := hc37_27
        have hc37_27 : b = 47 := u8_eqn (k := 47) (eq_of_beq hc37_27)
        refine at_skip ?_
        refine n_then ?_
        refine at_true rfl hc37_27_r ?_
        refine sr ?_
        refine sp4 hT ?_
        refine at_int (z' := ((1 : Nat) : Int)) (wrapN (by omega) (by omega)) ?_
        refine ss (sti_scut hT (j := 0) (k := 1) rfl rfl rfl rfl rfl rfl rfl (by decide) (by simp)) ?_
        refine sp hT ?_
        refine nn ?_
        refine at_ret ?_
        refine r_block ?_
        refine r_then ?_
        exact at_res1 () rfl (rv_tmp rfl) .nil trivial (by first | exact absurd (show b = 60 by assumption) (by assumption) | exact absurd (show b = 62 by assumption) (by assumption) | (rw [sign_two ⟨by first | exact .inl (by assumption) | exact .inr (by assumption), (head_of (by assumption)).trans (congrArg some (by assumption))⟩]; first | done | rfl) | (rw [sign_no2 (by first | exact .inl (head_none (by omega)) | exact .inl (head_ne (by assumption) (by assumption)) | exact .inr ⟨by assumption, by assumption⟩)]; first | (rw [show b = _ from by assumption]; rfl) | (rw [if_neg (by simp [signs, *])]; first | done | rfl)))
      have hc37_27_r := hc37_27
      have hc37_27 : b ≠ 47 := u8_nen (k := 47) (beq_eq_false_iff_ne.1 hc37_27)
      refine sr ?_
      refine sp2 hT ?_
      refine nn ?_
      refine at_cond rfl (fun hc37_28 => ?_) (fun hc37_28 => ?_)
      · have hc37_28_r := hc37_28
        have hc37_28 : b = 92 := u8_eqn (k := 92) (eq_of_beq hc37_28)
        refine at_skip ?_
        refine n_then ?_
        refine at_true rfl hc37_28_r ?_
        refine sr ?_
        refine sp4 hT ?_
        refine at_int (z' := ((1 : Nat) : Int)) (wrapN (by omega) (by omega)) ?_
        refine ss (sti_scut hT (j := 0) (k := 1) rfl rfl rfl rfl rfl rfl rfl (by decide) (by simp)) ?_
        refine sp hT ?_
        refine nn ?_
        refine at_ret ?_
        refine r_block ?_
        refine r_then ?_
        exact at_res1 () rfl (rv_tmp rfl) .nil trivial (by first | exact absurd (show b = 60 by assumption) (by assumption) | exact absurd (show b = 62 by assumption) (by assumption) | (rw [sign_two ⟨by first | exact .inl (by assumption) | exact .inr (by assumption), (head_of (by assumption)).trans (congrArg some (by assumption))⟩]; first | done | rfl) | (rw [sign_no2 (by first | exact .inl (head_none (by omega)) | exact .inl (head_ne (by assumption) (by assumption)) | exact .inr ⟨by assumption, by assumption⟩)]; first | (rw [show b = _ from by assumption]; rfl) | (rw [if_neg (by simp [signs, *])]; first | done | rfl)))
      have hc37_28_r := hc37_28
      have hc37_28 : b ≠ 92 := u8_nen (k := 92) (beq_eq_false_iff_ne.1 hc37_28)
      refine sr ?_
      refine sp2 hT ?_
      refine nn ?_
      refine at_cond rfl (fun hc37_29 => ?_) (fun hc37_29 => ?_)
      · have hc37_29_r := hc37_29
        have hc37_29 : b = 46 := u8_eqn (k := 46) (eq_of_beq hc37_29)
        refine at_skip ?_
        refine n_then ?_
        refine at_true rfl hc37_29_r ?_
        refine sr ?_
        refine sp4 hT ?_
        refine at_int (z' := ((1 : Nat) : Int)) (wrapN (by omega) (by omega)) ?_
        refine ss (sti_scut hT (j := 0) (k := 1) rfl rfl rfl rfl rfl rfl rfl (by decide) (by simp)) ?_
        refine sp hT ?_
        refine nn ?_
        refine at_ret ?_
        refine r_block ?_
        refine r_then ?_
        exact at_res1 () rfl (rv_tmp rfl) .nil trivial (by first | exact absurd (show b = 60 by assumption) (by assumption) | exact absurd (show b = 62 by assumption) (by assumption) | (rw [sign_two ⟨by first | exact .inl (by assumption) | exact .inr (by assumption), (head_of (by assumption)).trans (congrArg some (by assumption))⟩]; first | done | rfl) | (rw [sign_no2 (by first | exact .inl (head_none (by omega)) | exact .inl (head_ne (by assumption) (by assumption)) | exact .inr ⟨by assumption, by assumption⟩)]; first | (rw [show b = _ from by assumption]; rfl) | (rw [if_neg (by simp [signs, *])]; first | done | rfl)))
      have hc37_29_r := hc37_29
      have hc37_29 : b ≠ 46 := u8_nen (k := 46) (beq_eq_false_iff_ne.1 hc37_29)
      refine sr ?_
      refine sp2 hT ?_
      refine nn ?_
      refine at_cond rfl (fun hc37_30 => ?_) (fun hc37_30 => ?_)
      · have hc37_30_r := hc37_30
        have hc37_30 : b = 58 := u8_eqn (k := 58) (eq_of_beq hc37_30)
        refine at_skip ?_
        refine n_then ?_
        refine at_true rfl hc37_30_r ?_
        refine sr ?_
        refine sp4 hT ?_
        refine at_int (z' := ((1 : Nat) : Int)) (wrapN (by omega) (by omega)) ?_
        refine ss (sti_scut hT (j := 0) (k := 1) rfl rfl rfl rfl rfl rfl rfl (by decide) (by simp)) ?_
        refine sp hT ?_
        refine nn ?_
        refine at_ret ?_
        refine r_block ?_
        refine r_then ?_
        exact at_res1 () rfl (rv_tmp rfl) .nil trivial (by first | exact absurd (show b = 60 by assumption) (by assumption) | exact absurd (show b = 62 by assumption) (by assumption) | (rw [sign_two ⟨by first | exact .inl (by assumption) | exact .inr (by assumption), (head_of (by assumption)).trans (congrArg some (by assumption))⟩]; first | done | rfl) | (rw [sign_no2 (by first | exact .inl (head_none (by omega)) | exact .inl (head_ne (by assumption) (by assumption)) | exact .inr ⟨by assumption, by assumption⟩)]; first | (rw [show b = _ from by assumption]; rfl) | (rw [if_neg (by simp [signs, *])]; first | done | rfl)))
      have hc37_30_r := hc37_30
      have hc37_30 : b ≠ 58 := u8_nen (k := 58) (beq_eq_false_iff_ne.1 hc37_30)
      refine sr ?_
      refine sp2 hT ?_
      refine nn ?_
      refine at_cond rfl (fun hc37_31 => ?_) (fun hc37_31 => ?_)
      · have hc37_31_r := hc37_31
        have hc37_31 : b = 40 := u8_eqn (k := 40) (eq_of_beq hc37_31)
        refine at_skip ?_
        refine n_then ?_
        refine at_true rfl hc37_31_r ?_
        refine sr ?_
        refine sp4 hT ?_
        refine at_int (z' := ((1 : Nat) : Int)) (wrapN (by omega) (by omega)) ?_
        refine ss (sti_scut hT (j := 0) (k := 1) rfl rfl rfl rfl rfl rfl rfl (by decide) (by simp)) ?_
        refine sp hT ?_
        refine nn ?_
        refine at_ret ?_
        refine r_block ?_
        refine r_then ?_
        exact at_res1 () rfl (rv_tmp rfl) .nil trivial (by first | exact absurd (show b = 60 by assumption) (by assumption) | exact absurd (show b = 62 by assumption) (by assumption) | (rw [sign_two ⟨by first | exact .inl (by assumption) | exact .inr (by assumption), (head_of (by assumption)).trans (congrArg some (by assumption))⟩]; first | done | rfl) | (rw [sign_no2 (by first | exact .inl (head_none (by omega)) | exact .inl (head_ne (by assumption) (by assumption)) | exact .inr ⟨by assumption, by assumption⟩)]; first | (rw [show b = _ from by assumption]; rfl) | (rw [if_neg (by simp [signs, *])]; first | done | rfl)))
      have hc37_31_r := hc37_31
      have hc37_31 : b ≠ 40 := u8_nen (k := 40) (beq_eq_false_iff_ne.1 hc37_31)
      refine at_region ?_
      refine sp2 hT ?_
      refine nn ?_
      refine at_cond rfl (fun hc37_32 => ?_) (fun hc37_32 => ?_)
      · have hc37_32_r := hc37_32
        have hc37_32 : b = 41 := u8_eqn (k := 41) (eq_of_beq hc37_32)
        refine sr ?_
        refine sp4 hT ?_
        refine at_int (z' := ((1 : Nat) : Int)) (wrapN (by omega) (by omega)) ?_
        refine ss (sti_scut hT (j := 0) (k := 1) rfl rfl rfl rfl rfl rfl rfl (by decide) (by simp)) ?_
        refine sp hT ?_
        refine nn ?_
        refine at_ret ?_
        refine r_block ?_
        refine r_then ?_
        exact at_res1 () rfl (rv_tmp rfl) .nil trivial (by first | exact absurd (show b = 60 by assumption) (by assumption) | exact absurd (show b = 62 by assumption) (by assumption) | (rw [sign_two ⟨by first | exact .inl (by assumption) | exact .inr (by assumption), (head_of (by assumption)).trans (congrArg some (by assumption))⟩]; first | done | rfl) | (rw [sign_no2 (by first | exact .inl (head_none (by omega)) | exact .inl (head_ne (by assumption) (by assumption)) | exact .inr ⟨by assumption, by assumption⟩)]; first | (rw [show b = _ from by assumption]; rfl) | (rw [if_neg (by simp [signs, *])]; first | done | rfl)))
      have hc37_32_r := hc37_32
      have hc37_32 : b ≠ 41 := u8_nen (k := 41) (beq_eq_false_iff_ne.1 hc37_32)
      refine at_skip ?_
      refine n_block ?_
      refine n_then ?_
      refine sr ?_
      refine sp hT ?_
      refine nn ?_
      refine at_ret ?_
      exact at_res1 () rfl (rv_tmp rfl) .nil trivial (by first | exact absurd (show b = 60 by assumption) (by assumption) | exact absurd (show b = 62 by assumption) (by assumption) | (rw [sign_two ⟨by first | exact .inl (by assumption) | exact .inr (by assumption), (head_of (by assumption)).trans (congrArg some (by assumption))⟩]; first | done | rfl) | (rw [sign_no2 (by first | exact .inl (head_none (by omega)) | exact .inl (head_ne (by assumption) (by assumption)) | exact .inr ⟨by assumption, by assumption⟩)]; first | (rw [show b = _ from by assumption]; rfl) | (rw [if_neg (by simp [signs, *])]; first | done | rfl)))
    have hg22 : b ≠ 62 := u8_nen (k := 62) (beq_eq_false_iff_ne.1 hg22)
    refine sk4 ?_
    refine sk ?_
    refine sp hT ?_
    refine nn ?_
    refine at_false rfl rfl ?_
    refine at_skip ?_
    refine n_then ?_
    refine at_seq ?_
    refine sr ?_
    refine sp2 hT ?_
    refine ss (sti_sindex hT (k := 0) rfl rfl rfl rfl rfl rfl) ?_
    refine nn ?_
    refine at_block ?_
    refine at_seq ?_
    refine sr ?_
    refine sp2 hT ?_
    refine nn ?_
    refine at_cond rfl (fun hc37 => ?_) (fun hc37 => ?_)
    · have hc37_r := hc37
      have hc37 : b = 43 := u8_eqn (k := 43) (eq_of_beq hc37)
      refine at_skip ?_
      refine n_then ?_
      refine at_true rfl hc37_r ?_
      refine sr ?_
      refine sp4 hT ?_
      refine at_int (z' := ((1 : Nat) : Int)) (wrapN (by omega) (by omega)) ?_
      refine ss (sti_scut hT (j := 0) (k := 1) rfl rfl rfl rfl rfl rfl rfl (by decide) (by simp)) ?_
      refine sp hT ?_
      refine nn ?_
      refine at_ret ?_
      refine r_block ?_
      refine r_then ?_
      exact at_res1 () rfl (rv_tmp rfl) .nil trivial (by first | exact absurd (show b = 60 by assumption) (by assumption) | exact absurd (show b = 62 by assumption) (by assumption) | (rw [sign_two ⟨by first | exact .inl (by assumption) | exact .inr (by assumption), (head_of (by assumption)).trans (congrArg some (by assumption))⟩]; first | done | rfl) | (rw [sign_no2 (by first | exact .inl (head_none (by omega)) | exact .inl (head_ne (by assumption) (by assumption)) | exact .inr ⟨by assumption, by assumption⟩)]; first | (rw [show b = _ from by assumption]; rfl) | (rw [if_neg (by simp [signs, *])]; first | done | rfl)))
    have hc37_r := hc37
    have hc37 : b ≠ 43 := u8_nen (k := 43) (beq_eq_false_iff_ne.1 hc37)
    refine sr ?_
    refine sp2 hT ?_
    refine nn ?_
    refine at_cond rfl (fun hc37_33 => ?_) (fun hc37_33 => ?_)
    · have hc37_33_r := hc37_33
      have hc37_33 : b = 45 := u8_eqn (k := 45) (eq_of_beq hc37_33)
      refine at_skip ?_
      refine n_then ?_
      refine at_true rfl hc37_33_r ?_
      refine sr ?_
      refine sp4 hT ?_
      refine at_int (z' := ((1 : Nat) : Int)) (wrapN (by omega) (by omega)) ?_
      refine ss (sti_scut hT (j := 0) (k := 1) rfl rfl rfl rfl rfl rfl rfl (by decide) (by simp)) ?_
      refine sp hT ?_
      refine nn ?_
      refine at_ret ?_
      refine r_block ?_
      refine r_then ?_
      exact at_res1 () rfl (rv_tmp rfl) .nil trivial (by first | exact absurd (show b = 60 by assumption) (by assumption) | exact absurd (show b = 62 by assumption) (by assumption) | (rw [sign_two ⟨by first | exact .inl (by assumption) | exact .inr (by assumption), (head_of (by assumption)).trans (congrArg some (by assumption))⟩]; first | done | rfl) | (rw [sign_no2 (by first | exact .inl (head_none (by omega)) | exact .inl (head_ne (by assumption) (by assumption)) | exact .inr ⟨by assumption, by assumption⟩)]; first | (rw [show b = _ from by assumption]; rfl) | (rw [if_neg (by simp [signs, *])]; first | done | rfl)))
    have hc37_33_r := hc37_33
    have hc37_33 : b ≠ 45 := u8_nen (k := 45) (beq_eq_false_iff_ne.1 hc37_33)
    refine sr ?_
    refine sp2 hT ?_
    refine nn ?_
    refine at_cond rfl (fun hc37_34 => ?_) (fun hc37_34 => ?_)
    · have hc37_34_r := hc37_34
      have hc37_34 : b = 42 := u8_eqn (k := 42) (eq_of_beq hc37_34)
      refine at_skip ?_
      refine n_then ?_
      refine at_true rfl hc37_34_r ?_
      refine sr ?_
      refine sp4 hT ?_
      refine at_int (z' := ((1 : Nat) : Int)) (wrapN (by omega) (by omega)) ?_
      refine ss (sti_scut hT (j := 0) (k := 1) rfl rfl rfl rfl rfl rfl rfl (by decide) (by simp)) ?_
      refine sp hT ?_
      refine nn ?_
      refine at_ret ?_
      refine r_block ?_
      refine r_then ?_
      exact at_res1 () rfl (rv_tmp rfl) .nil trivial (by first | exact absurd (show b = 60 by assumption) (by assumption) | exact absurd (show b = 62 by assumption) (by assumption) | (rw [sign_two ⟨by first | exact .inl (by assumption) | exact .inr (by assumption), (head_of (by assumption)).trans (congrArg some (by assumption))⟩]; first | done | rfl) | (rw [sign_no2 (by first | exact .inl (head_none (by omega)) | exact .inl (head_ne (by assumption) (by assumption)) | exact .inr ⟨by assumption, by assumption⟩)]; first | (rw [show b = _ from by assumption]; rfl) | (rw [if_neg (by simp [signs, *])]; first | done | rfl)))
    have hc37_34_r := hc37_34
    have hc37_34 : b ≠ 42 := u8_nen (k := 42) (beq_eq_false_iff_ne.1 hc37_34)
    refine sr ?_
    refine sp2 hT ?_
    refine nn ?_
    refine at_cond rfl (fun hc37_35 => ?_) (fun hc37_35 => ?_)
    · have hc37_35_r := hc37_35
      have hc37_35 : b = 37 := u8_eqn (k := 37) (eq_of_beq hc37_35)
      refine at_skip ?_
      refine n_then ?_
      refine at_true rfl hc37_35_r ?_
      refine sr ?_
      refine sp4 hT ?_
      refine at_int (z' := ((1 : Nat) : Int)) (wrapN (by omega) (by omega)) ?_
      refine ss (sti_scut hT (j := 0) (k := 1) rfl rfl rfl rfl rfl rfl rfl (by decide) (by simp)) ?_
      refine sp hT ?_
      refine nn ?_
      refine at_ret ?_
      refine r_block ?_
      refine r_then ?_
      exact at_res1 () rfl (rv_tmp rfl) .nil trivial (by first | exact absurd (show b = 60 by assumption) (by assumption) | exact absurd (show b = 62 by assumption) (by assumption) | (rw [sign_two ⟨by first | exact .inl (by assumption) | exact .inr (by assumption), (head_of (by assumption)).trans (congrArg some (by assumption))⟩]; first | done | rfl) | (rw [sign_no2 (by first | exact .inl (head_none (by omega)) | exact .inl (head_ne (by assumption) (by assumption)) | exact .inr ⟨by assumption, by assumption⟩)]; first | (rw [show b = _ from by assumption]; rfl) | (rw [if_neg (by simp [signs, *])]; first | done | rfl)))
    have hc37_35_r := hc37_35
    have hc37_35 : b ≠ 37 := u8_nen (k := 37) (beq_eq_false_iff_ne.1 hc37_35)
    refine sr ?_
    refine sp2 hT ?_
    refine nn ?_
    refine at_cond rfl (fun hc37_36 => ?_) (fun hc37_36 => ?_)
    · have hc37_36_r := hc37_36
      have hc37_36 : b = 124 := u8_eqn (k := 124) (eq_of_beq hc37_36)
      refine at_skip ?_
      refine n_then ?_
      refine at_true rfl hc37_36_r ?_
      refine sr ?_
      refine sp4 hT ?_
      refine at_int (z' := ((1 : Nat) : Int)) (wrapN (by omega) (by omega)) ?_
      refine ss (sti_scut hT (j := 0) (k := 1) rfl rfl rfl rfl rfl rfl rfl (by decide) (by simp)) ?_
      refine sp hT ?_
      refine nn ?_
      refine at_ret ?_
      refine r_block ?_
      refine r_then ?_
      exact at_res1 () rfl (rv_tmp rfl) .nil trivial (by first | exact absurd (show b = 60 by assumption) (by assumption) | exact absurd (show b = 62 by assumption) (by assumption) | (rw [sign_two ⟨by first | exact .inl (by assumption) | exact .inr (by assumption), (head_of (by assumption)).trans (congrArg some (by assumption))⟩]; first | done | rfl) | (rw [sign_no2 (by first | exact .inl (head_none (by omega)) | exact .inl (head_ne (by assumption) (by assumption)) | exact .inr ⟨by assumption, by assumption⟩)]; first | (rw [show b = _ from by assumption]; rfl) | (rw [if_neg (by simp [signs, *])]; first | done | rfl)))
    have hc37_36_r := hc37_36
    have hc37_36 : b ≠ 124 := u8_nen (k := 124) (beq_eq_false_iff_ne.1 hc37_36)
    refine sr ?_
    refine sp2 hT ?_
    refine nn ?_
    refine at_cond rfl (fun hc37_37 => ?_) (fun hc37_37 => ?_)
    · have hc37_37_r := hc37_37
      have hc37_37 : b = 61 := u8_eqn (k := 61) (eq_of_beq hc37_37)
      refine at_skip ?_
      refine n_then ?_
      refine at_true rfl hc37_37_r ?_
      refine sr ?_
      refine sp4 hT ?_
      refine at_int (z' := ((1 : Nat) : Int)) (wrapN (by omega) (by omega)) ?_
      refine ss (sti_scut hT (j := 0) (k := 1) rfl rfl rfl rfl rfl rfl rfl (by decide) (by simp)) ?_
      refine sp hT ?_
      refine nn ?_
      refine at_ret ?_
      refine r_block ?_
      refine r_then ?_
      exact at_res1 () rfl (rv_tmp rfl) .nil trivial (by first | exact absurd (show b = 60 by assumption) (by assumption) | exact absurd (show b = 62 by assumption) (by assumption) | (rw [sign_two ⟨by first | exact .inl (by assumption) | exact .inr (by assumption), (head_of (by assumption)).trans (congrArg some (by assumption))⟩]; first | done | rfl) | (rw [sign_no2 (by first | exact .inl (head_none (by omega)) | exact .inl (head_ne (by assumption) (by assumption)) | exact .inr ⟨by assumption, by assumption⟩)]; first | (rw [show b = _ from by assumption]; rfl) | (rw [if_neg (by simp [signs, *])]; first | done | rfl)))
    have hc37_37_r := hc37_37
    have hc37_37 : b ≠ 61 := u8_nen (k := 61) (beq_eq_false_iff_ne.1 hc37_37)
    refine sr ?_
    refine sp2 hT ?_
    refine nn ?_
    refine at_cond rfl (fun hc37_38 => ?_) (fun hc37_38 => ?_)
    · have hc37_38_r := hc37_38
      have hc37_38 : b = 126 := u8_eqn (k := 126) (eq_of_beq hc37_38)
      refine at_skip ?_
      refine n_then ?_
      refine at_true rfl hc37_38_r ?_
      refine sr ?_
      refine sp4 hT ?_
      refine at_int (z' := ((1 : Nat) : Int)) (wrapN (by omega) (by omega)) ?_
      refine ss (sti_scut hT (j := 0) (k := 1) rfl rfl rfl rfl rfl rfl rfl (by decide) (by simp)) ?_
      refine sp hT ?_
      refine nn ?_
      refine at_ret ?_
      refine r_block ?_
      refine r_then ?_
      exact at_res1 () rfl (rv_tmp rfl) .nil trivial (by first | exact absurd (show b = 60 by assumption) (by assumption) | exact absurd (show b = 62 by assumption) (by assumption) | (rw [sign_two ⟨by first | exact .inl (by assumption) | exact .inr (by assumption), (head_of (by assumption)).trans (congrArg some (by assumption))⟩]; first | done | rfl) | (rw [sign_no2 (by first | exact .inl (head_none (by omega)) | exact .inl (head_ne (by assumption) (by assumption)) | exact .inr ⟨by assumption, by assumption⟩)]; first | (rw [show b = _ from by assumption]; rfl) | (rw [if_neg (by simp [signs, *])]; first | done | rfl)))
    have hc37_38_r := hc37_38
    have hc37_38 : b ≠ 126 := u8_nen (k := 126) (beq_eq_false_iff_ne.1 hc37_38)
    refine sr ?_
    refine sp2 hT ?_
    refine nn ?_
    refine at_cond rfl (fun hc37_39 => ?_) (fun hc37_39 => ?_)
    · have hc37_39_r := hc37_39
      have hc37_39 : b = 60 := u8_eqn (k := 60) (eq_of_beq hc37_39)
      refine at_skip ?_
      refine n_then ?_
      refine at_true rfl hc37_39_r ?_
      refine sr ?_
      refine sp4 hT ?_
      refine at_int (z' := ((1 : Nat) : Int)) (wrapN (by omega) (by omega)) ?_
      refine ss (sti_scut hT (j := 0) (k := 1) rfl rfl rfl rfl rfl rfl rfl (by decide) (by simp)) ?_
      refine sp hT ?_
      refine nn ?_
      refine at_ret ?_
      refine r_block ?_
      refine r_then ?_
      exact at_res1 () rfl (rv_tmp rfl) .nil trivial (by first | exact absurd (show b = 60 by assumption) (by assumption) | exact absurd (show b = 62 by assumption) (by assumption) | (rw [sign_two ⟨by first | exact .inl (by assumption) | exact .inr (by assumption), (head_of (by assumption)).trans (congrArg some (by assumption))⟩]; first | done | rfl) | (rw [sign_no2 (by first | exact .inl (head_none (by omega)) | exact .inl (head_ne (by assumption) (by assumption)) | exact .inr ⟨by assumption, by assumption⟩)]; first | (rw [show b = _ from by assumption]; rfl) | (rw [if_neg (by simp [signs, *])]; first | done | rfl)))
    have hc37_39_r := hc37_39
    have hc37_39 : b ≠ 60 := u8_nen (k := 60) (beq_eq_false_iff_ne.1 hc37_39)
    refine sr ?_
    refine sp2 hT ?_
    refine nn ?_
    refine at_cond rfl (fun hc37_40 => ?_) (fun hc37_40 => ?_)
    · have hc37_40_r := hc37_40
      have hc37_40 : b = 62 := u8_eqn (k := 62) (eq_of_beq hc37_40)
      refine at_skip ?_
      refine n_then ?_
      refine at_true rfl hc37_40_r ?_
      refine sr ?_
      refine sp4 hT ?_
      refine at_int (z' := ((1 : Nat) : Int)) (wrapN (by omega) (by omega)) ?_
      refine ss (sti_scut hT (j := 0) (k := 1) rfl rfl rfl rfl rfl rfl rfl (by decide) (by simp)) ?_
      refine sp hT ?_
      refine nn ?_
      refine at_ret ?_
      refine r_block ?_
      refine r_then ?_
      exact at_res1 () rfl (rv_tmp rfl) .nil trivial (by first | exact absurd (show b = 60 by assumption) (by assumption) | exact absurd (show b = 62 by assumption) (by assumption) | (rw [sign_two ⟨by first | exact .inl (by assumption) | exact .inr (by assumption), (head_of (by assumption)).trans (congrArg some (by assumption))⟩]; first | done | rfl) | (rw [sign_no2 (by first | exact .inl (head_none (by omega)) | exact .inl (head_ne (by assumption) (by assumption)) | exact .inr ⟨by assumption, by assumption⟩)]; first | (rw [show b = _ from by assumption]; rfl) | (rw [if_neg (by simp [signs, *])]; first | done | rfl)))
    have hc37_40_r := hc37_40
    have hc37_40 : b ≠ 62 := u8_nen (k := 62) (beq_eq_false_iff_ne.1 hc37_40)
    refine sr ?_
    refine sp2 hT ?_
    refine nn ?_
    refine at_cond rfl (fun hc37_41 => ?_) (fun hc37_41 => ?_)
    · have hc37_41_r := hc37_41
      have hc37_41 : b = 47 := u8_eqn (k := 47) (eq_of_beq hc37_41)
      refine at_skip ?_
      refine n_then ?_
      refine at_true rfl hc37_41_r ?_
      refine sr ?_
      refine sp4 hT ?_
      refine at_int (z' := ((1 : Nat) : Int)) (wrapN (by omega) (by omega)) ?_
      refine ss (sti_scut hT (j := 0) (k := 1) rfl rfl rfl rfl rfl rfl rfl (by decide) (by simp)) ?_
      refine sp hT ?_
      refine nn ?_
      refine at_ret ?_
      refine r_block ?_
      refine r_then ?_
      exact at_res1 () rfl (rv_tmp rfl) .nil trivial (by first | exact absurd (show b = 60 by assumption) (by assumption) | exact absurd (show b = 62 by assumption) (by assumption) | (rw [sign_two ⟨by first | exact .inl (by assumption) | exact .inr (by assumption), (head_of (by assumption)).trans (congrArg some (by assumption))⟩]; first | done | rfl) | (rw [sign_no2 (by first | exact .inl (head_none (by omega)) | exact .inl (head_ne (by assumption) (by assumption)) | exact .inr ⟨by assumption, by assumption⟩)]; first | (rw [show b = _ from by assumption]; rfl) | (rw [if_neg (by simp [signs, *])]; first | done | rfl)))
    have hc37_41_r := hc37_41
    have hc37_41 : b ≠ 47 := u8_nen (k := 47) (beq_eq_false_iff_ne.1 hc37_41)
    refine sr ?_
    refine sp2 hT ?_
    refine nn ?_
    refine at_cond rfl (fun hc37_42 => ?_) (fun hc37_42 => ?_)
    · have hc37_42_r := hc37_42
      have hc37_42 : b = 92 := u8_eqn (k := 92) (eq_of_beq hc37_42)
      refine at_skip ?_
      refine n_then ?_
      refine at_true rfl hc37_42_r ?_
      refine sr ?_
      refine sp4 hT ?_
      refine at_int (z' := ((1 : Nat) : Int)) (wrapN (by omega) (by omega)) ?_
      refine ss (sti_scut hT (j := 0) (k := 1) rfl rfl rfl rfl rfl rfl rfl (by decide) (by simp)) ?_
      refine sp hT ?_
      refine nn ?_
      refine at_ret ?_
      refine r_block ?_
      refine r_then ?_
      exact at_res1 () rfl (rv_tmp rfl) .nil trivial (by first | exact absurd (show b = 60 by assumption) (by assumption) | exact absurd (show b = 62 by assumption) (by assumption) | (rw [sign_two ⟨by first | exact .inl (by assumption) | exact .inr (by assumption), (head_of (by assumption)).trans (congrArg some (by assumption))⟩]; first | done | rfl) | (rw [sign_no2 (by first | exact .inl (head_none (by omega)) | exact .inl (head_ne (by assumption) (by assumption)) | exact .inr ⟨by assumption, by assumption⟩)]; first | (rw [show b = _ from by assumption]; rfl) | (rw [if_neg (by simp [signs, *])]; first | done | rfl)))
    have hc37_42_r := hc37_42
    have hc37_42 : b ≠ 92 := u8_nen (k := 92) (beq_eq_false_iff_ne.1 hc37_42)
    refine sr ?_
    refine sp2 hT ?_
    refine nn ?_
    refine at_cond rfl (fun hc37_43 => ?_) (fun hc37_43 => ?_)
    · have hc37_43_r := hc37_43
      have hc37_43 : b = 46 := u8_eqn (k := 46) (eq_of_beq hc37_43)
      refine at_skip ?_
      refine n_then ?_
      refine at_true rfl hc37_43_r ?_
      refine sr ?_
      refine sp4 hT ?_
      refine at_int (z' := ((1 : Nat) : Int)) (wrapN (by omega) (by omega)) ?_
      refine ss (sti_scut hT (j := 0) (k := 1) rfl rfl rfl rfl rfl rfl rfl (by decide) (by simp)) ?_
      refine sp hT ?_
      refine nn ?_
      refine at_ret ?_
      refine r_block ?_
      refine r_then ?_
      exact at_res1 () rfl (rv_tmp rfl) .nil trivial (by first | exact absurd (show b = 60 by assumption) (by assumption) | exact absurd (show b = 62 by assumption) (by assumption) | (rw [sign_two ⟨by first | exact .inl (by assumption) | exact .inr (by assumption), (head_of (by assumption)).trans (congrArg some (by assumption))⟩]; first | done | rfl) | (rw [sign_no2 (by first | exact .inl (head_none (by omega)) | exact .inl (head_ne (by assumption) (by assumption)) | exact .inr ⟨by assumption, by assumption⟩)]; first | (rw [show b = _ from by assumption]; rfl) | (rw [if_neg (by simp [signs, *])]; first | done | rfl)))
    have hc37_43_r := hc37_43
    have hc37_43 : b ≠ 46 := u8_nen (k := 46) (beq_eq_false_iff_ne.1 hc37_43)
    refine sr ?_
    refine sp2 hT ?_
    refine nn ?_
    refine at_cond rfl (fun hc37_44 => ?_) (fun hc37_44 => ?_)
    · have hc37_44_r := hc37_44
      have hc37_44 : b = 58 := u8_eqn (k := 58) (eq_of_beq hc37_44)
      refine at_skip ?_
      refine n_then ?_
      refine at_true rfl hc37_44_r ?_
      refine sr ?_
      refine sp4 hT ?_
      refine at_int (z' := ((1 : Nat) : Int)) (wrapN (by omega) (by omega)) ?_
      refine ss (sti_scut hT (j := 0) (k := 1) rfl rfl rfl rfl rfl rfl rfl (by decide) (by simp)) ?_
      refine sp hT ?_
      refine nn ?_
      refine at_ret ?_
      refine r_block ?_
      refine r_then ?_
      exact at_res1 () rfl (rv_tmp rfl) .nil trivial (by first | exact absurd (show b = 60 by assumption) (by assumption) | exact absurd (show b = 62 by assumption) (by assumption) | (rw [sign_two ⟨by first | exact .inl (by assumption) | exact .inr (by assumption), (head_of (by assumption)).trans (congrArg some (by assumption))⟩]; first | done | rfl) | (rw [sign_no2 (by first | exact .inl (head_none (by omega)) | exact .inl (head_ne (by assumption) (by assumption)) | exact .inr ⟨by assumption, by assumption⟩)]; first | (rw [show b = _ from by assumption]; rfl) | (rw [if_neg (by simp [signs, *])]; first | done | rfl)))
    have hc37_44_r := hc37_44
    have hc37_44 : b ≠ 58 := u8_nen (k := 58) (beq_eq_false_iff_ne.1 hc37_44)
    refine sr ?_
    refine sp2 hT ?_
    refine nn ?_
    refine at_cond rfl (fun hc37_45 => ?_) (fun hc37_45 => ?_)
    · have hc37_45_r := hc37_45
      have hc37_45 : b = 40 := u8_eqn (k := 40) (eq_of_beq hc37_45)
      refine at_skip ?_
      refine n_then ?_
      refine at_true rfl hc37_45_r ?_
      refine sr ?_
      refine sp4 hT ?_
      refine at_int (z' := ((1 : Nat) : Int)) (wrapN (by omega) (by omega)) ?_
      refine ss (sti_scut hT (j := 0) (k := 1) rfl rfl rfl rfl rfl rfl rfl (by decide) (by simp)) ?_
      refine sp hT ?_
      refine nn ?_
      refine at_ret ?_
      refine r_block ?_
      refine r_then ?_
      exact at_res1 () rfl (rv_tmp rfl) .nil trivial (by first | exact absurd (show b = 60 by assumption) (by assumption) | exact absurd (show b = 62 by assumption) (by assumption) | (rw [sign_two ⟨by first | exact .inl (by assumption) | exact .inr (by assumption), (head_of (by assumption)).trans (congrArg some (by assumption))⟩]; first | done | rfl) | (rw [sign_no2 (by first | exact .inl (head_none (by omega)) | exact .inl (head_ne (by assumption) (by assumption)) | exact .inr ⟨by assumption, by assumption⟩)]; first | (rw [show b = _ from by assumption]; rfl) | (rw [if_neg (by simp [signs, *])]; first | done | rfl)))
    have hc37_45_r := hc37_45
    have hc37_45 : b ≠ 40 := u8_nen (k := 40) (beq_eq_false_iff_ne.1 hc37_45)
    refine at_region ?_
    refine sp2 hT ?_
    refine nn ?_
    refine at_cond rfl (fun hc37_46 => ?_) (fun hc37_46 => ?_)
    · have hc37_46_r := hc37_46
      have hc37_46 : b = 41 := u8_eqn (k := 41) (eq_of_beq hc37_46)
      refine sr ?_
      refine sp4 hT ?_
      refine at_int (z' := ((1 : Nat) : Int)) (wrapN (by omega) (by omega)) ?_
      refine ss (sti_scut hT (j := 0) (k := 1) rfl rfl rfl rfl rfl rfl rfl (by decide) (by simp)) ?_
      refine sp hT ?_
      refine nn ?_
      refine at_ret ?_
      refine r_block ?_
      refine r_then ?_
      exact at_res1 () rfl (rv_tmp rfl) .nil trivial (by first | exact absurd (show b = 60 by assumption) (by assumption) | exact absurd (show b = 62 by assumption) (by assumption) | (rw [sign_two ⟨by first | exact .inl (by assumption) | exact .inr (by assumption), (head_of (by assumption)).trans (congrArg some (by assumption))⟩]; first | done | rfl) | (rw [sign_no2 (by first | exact .inl (head_none (by omega)) | exact .inl (head_ne (by assumption) (by assumption)) | exact .inr ⟨by assumption, by assumption⟩)]; first | (rw [show b = _ from by assumption]; rfl) | (rw [if_neg (by simp [signs, *])]; first | done | rfl)))
    have hc37_46_r := hc37_46
    have hc37_46 : b ≠ 41 := u8_nen (k := 41) (beq_eq_false_iff_ne.1 hc37_46)
    refine at_skip ?_
    refine n_block ?_
    refine n_then ?_
    refine sr ?_
    refine sp hT ?_
    refine nn ?_
    refine at_ret ?_
    exact at_res1 () rfl (rv_tmp rfl) .nil trivial (by first | exact absurd (show b = 60 by assumption) (by assumption) | exact absurd (show b = 62 by assumption) (by assumption) | (rw [sign_two ⟨by first | exact .inl (by assumption) | exact .inr (by assumption), (head_of (by assumption)).trans (congrArg some (by assumption))⟩]; first | done | rfl) | (rw [sign_no2 (by first | exact .inl (head_none (by omega)) | exact .inl (head_ne (by assumption) (by assumption)) | exact .inr ⟨by assumption, by assumption⟩)]; first | (rw [show b = _ from by assumption]; rfl) | (rw [if_neg (by simp [signs, *])]; first | done | rfl)))
  have hg10 := Int.not_lt.1 (of_decide_eq_false hg10)
  refine sk4 ?_
  refine sk4 ?_
  refine sk2 ?_
  refine sp2 hT ?_
  refine sk4 ?_
  refine sk ?_
  refine sp hT ?_
  refine nn ?_
  refine at_false rfl rfl ?_
  refine at_skip ?_
  refine n_then ?_
  refine at_seq ?_
  refine sr ?_
  refine sp2 hT ?_
  refine ss (sti_sindex hT (k := 0) rfl rfl rfl rfl rfl rfl) ?_
  refine nn ?_
  refine at_block ?_
  refine at_seq ?_
  refine sr ?_
  refine sp2 hT ?_
  refine nn ?_
  refine at_cond rfl (fun hc37 => ?_) (fun hc37 => ?_)
  · have hc37_r := hc37
    have hc37 : b = 43 := u8_eqn (k := 43) (eq_of_beq hc37)
    refine at_skip ?_
    refine n_then ?_
    refine at_true rfl hc37_r ?_
    refine sr ?_
    refine sp4 hT ?_
    refine at_int (z' := ((1 : Nat) : Int)) (wrapN (by omega) (by omega)) ?_
    refine ss (sti_scut hT (j := 0) (k := 1) rfl rfl rfl rfl rfl rfl rfl (by decide) (by simp)) ?_
    refine sp hT ?_
    refine nn ?_
    refine at_ret ?_
    refine r_block ?_
    refine r_then ?_
    exact at_res1 () rfl (rv_tmp rfl) .nil trivial (by first | exact absurd (show b = 60 by assumption) (by assumption) | exact absurd (show b = 62 by assumption) (by assumption) | (rw [sign_two ⟨by first | exact .inl (by assumption) | exact .inr (by assumption), (head_of (by assumption)).trans (congrArg some (by assumption))⟩]; first | done | rfl) | (rw [sign_no2 (by first | exact .inl (head_none (by omega)) | exact .inl (head_ne (by assumption) (by assumption)) | exact .inr ⟨by assumption, by assumption⟩)]; first | (rw [show b = _ from by assumption]; rfl) | (rw [if_neg (by simp [signs, *])]; first | done | rfl)))
  have hc37_r := hc37
  have hc37 : b ≠ 43 := u8_nen (k := 43) (beq_eq_false_iff_ne.1 hc37)
  refine sr ?_
  refine sp2 hT ?_
  refine nn ?_
  refine at_cond rfl (fun hc37_47 => ?_) (fun hc37_47 => ?_)
  · have hc37_47_r := hc37_47
    have hc37_47 : b = 45 := u8_eqn (k := 45) (eq_of_beq hc37_47)
    refine at_skip ?_
    refine n_then ?_
    refine at_true rfl hc37_47_r ?_
    refine sr ?_
    refine sp4 hT ?_
    refine at_int (z' := ((1 : Nat) : Int)) (wrapN (by omega) (by omega)) ?_
    refine ss (sti_scut hT (j := 0) (k := 1) rfl rfl rfl rfl rfl rfl rfl (by decide) (by simp)) ?_
    refine sp hT ?_
    refine nn ?_
    refine at_ret ?_
    refine r_block ?_
    refine r_then ?_
    exact at_res1 () rfl (rv_tmp rfl) .nil trivial (by first | exact absurd (show b = 60 by assumption) (by assumption) | exact absurd (show b = 62 by assumption) (by assumption) | (rw [sign_two ⟨by first | exact .inl (by assumption) | exact .inr (by assumption), (head_of (by assumption)).trans (congrArg some (by assumption))⟩]; first | done | rfl) | (rw [sign_no2 (by first | exact .inl (head_none (by omega)) | exact .inl (head_ne (by assumption) (by assumption)) | exact .inr ⟨by assumption, by assumption⟩)]; first | (rw [show b = _ from by assumption]; rfl) | (rw [if_neg (by simp [signs, *])]; first | done | rfl)))
  have hc37_47_r := hc37_47
  have hc37_47 : b ≠ 45 := u8_nen (k := 45) (beq_eq_false_iff_ne.1 hc37_47)
  refine sr ?_
  refine sp2 hT ?_
  refine nn ?_
  refine at_cond rfl (fun hc37_48 => ?_) (fun hc37_48 => ?_)
  · have hc37_48_r := hc37_48
    have hc37_48 : b = 42 := u8_eqn (k := 42) (eq_of_beq hc37_48)
    refine at_skip ?_
    refine n_then ?_
    refine at_true rfl hc37_48_r ?_
    refine sr ?_
    refine sp4 hT ?_
    refine at_int (z' := ((1 : Nat) : Int)) (wrapN (by omega) (by omega)) ?_
    refine ss (sti_scut hT (j := 0) (k := 1) rfl rfl rfl rfl rfl rfl rfl (by decide) (by simp)) ?_
    refine sp hT ?_
    refine nn ?_
    refine at_ret ?_
    refine r_block ?_
    refine r_then ?_
    exact at_res1 () rfl (rv_tmp rfl) .nil trivial (by first | exact absurd (show b = 60 by assumption) (by assumption) | exact absurd (show b = 62 by assumption) (by assumption) | (rw [sign_two ⟨by first | exact .inl (by assumption) | exact .inr (by assumption), (head_of (by assumption)).trans (congrArg some (by assumption))⟩]; first | done | rfl) | (rw [sign_no2 (by first | exact .inl (head_none (by omega)) | exact .inl (head_ne (by assumption) (by assumption)) | exact .inr ⟨by assumption, by assumption⟩)]; first | (rw [show b = _ from by assumption]; rfl) | (rw [if_neg (by simp [signs, *])]; first | done | rfl)))
  have hc37_48_r := hc37_48
  have hc37_48 : b ≠ 42 := u8_nen (k := 42) (beq_eq_false_iff_ne.1 hc37_48)
  refine sr ?_
  refine sp2 hT ?_
  refine nn ?_
  refine at_cond rfl (fun hc37_49 => ?_) (fun hc37_49 => ?_)
  · have hc37_49_r := hc37_49
    have hc37_49 : b = 37 := u8_eqn (k := 37) (eq_of_beq hc37_49)
    refine at_skip ?_
    refine n_then ?_
    refine at_true rfl hc37_49_r ?_
    refine sr ?_
    refine sp4 hT ?_
    refine at_int (z' := ((1 : Nat) : Int)) (wrapN (by omega) (by omega)) ?_
    refine ss (sti_scut hT (j := 0) (k := 1) rfl rfl rfl rfl rfl rfl rfl (by decide) (by simp)) ?_
    refine sp hT ?_
    refine nn ?_
    refine at_ret ?_
    refine r_block ?_
    refine r_then ?_
    exact at_res1 () rfl (rv_tmp rfl) .nil trivial (by first | exact absurd (show b = 60 by assumption) (by assumption) | exact absurd (show b = 62 by assumption) (by assumption) | (rw [sign_two ⟨by first | exact .inl (by assumption) | exact .inr (by assumption), (head_of (by assumption)).trans (congrArg some (by assumption))⟩]; first | done | rfl) | (rw [sign_no2 (by first | exact .inl (head_none (by omega)) | exact .inl (head_ne (by assumption) (by assumption)) | exact .inr ⟨by assumption, by assumption⟩)]; first | (rw [show b = _ from by assumption]; rfl) | (rw [if_neg (by simp [signs, *])]; first | done | rfl)))
  have hc37_49_r := hc37_49
  have hc37_49 : b ≠ 37 := u8_nen (k := 37) (beq_eq_false_iff_ne.1 hc37_49)
  refine sr ?_
  refine sp2 hT ?_
  refine nn ?_
  refine at_cond rfl (fun hc37_50 => ?_) (fun hc37_50 => ?_)
  · have hc37_50_r := hc37_50
    have hc37_50 : b = 124 := u8_eqn (k := 124) (eq_of_beq hc37_50)
    refine at_skip ?_
    refine n_then ?_
    refine at_true rfl hc37_50_r ?_
    refine sr ?_
    refine sp4 hT ?_
    refine at_int (z' := ((1 : Nat) : Int)) (wrapN (by omega) (by omega)) ?_
    refine ss (sti_scut hT (j := 0) (k := 1) rfl rfl rfl rfl rfl rfl rfl (by decide) (by simp)) ?_
    refine sp hT ?_
    refine nn ?_
    refine at_ret ?_
    refine r_block ?_
    refine r_then ?_
    exact at_res1 () rfl (rv_tmp rfl) .nil trivial (by first | exact absurd (show b = 60 by assumption) (by assumption) | exact absurd (show b = 62 by assumption) (by assumption) | (rw [sign_two ⟨by first | exact .inl (by assumption) | exact .inr (by assumption), (head_of (by assumption)).trans (congrArg some (by assumption))⟩]; first | done | rfl) | (rw [sign_no2 (by first | exact .inl (head_none (by omega)) | exact .inl (head_ne (by assumption) (by assumption)) | exact .inr ⟨by assumption, by assumption⟩)]; first | (rw [show b = _ from by assumption]; rfl) | (rw [if_neg (by simp [signs, *])]; first | done | rfl)))
  have hc37_50_r := hc37_50
  have hc37_50 : b ≠ 124 := u8_nen (k := 124) (beq_eq_false_iff_ne.1 hc37_50)
  refine sr ?_
  refine sp2 hT ?_
  refine nn ?_
  refine at_cond rfl (fun hc37_51 => ?_) (fun hc37_51 => ?_)
  · have hc37_51_r := hc37_51
    have hc37_51 : b = 61 := u8_eqn (k := 61) (eq_of_beq hc37_51)
    refine at_skip ?_
    refine n_then ?_
    refine at_true rfl hc37_51_r ?_
    refine sr ?_
    refine sp4 hT ?_
    refine at_int (z' := ((1 : Nat) : Int)) (wrapN (by omega) (by omega)) ?_
    refine ss (sti_scut hT (j := 0) (k := 1) rfl rfl rfl rfl rfl rfl rfl (by decide) (by simp)) ?_
    refine sp hT ?_
    refine nn ?_
    refine at_ret ?_
    refine r_block ?_
    refine r_then ?_
    exact at_res1 () rfl (rv_tmp rfl) .nil trivial (by first | exact absurd (show b = 60 by assumption) (by assumption) | exact absurd (show b = 62 by assumption) (by assumption) | (rw [sign_two ⟨by first | exact .inl (by assumption) | exact .inr (by assumption), (head_of (by assumption)).trans (congrArg some (by assumption))⟩]; first | done | rfl) | (rw [sign_no2 (by first | exact .inl (head_none (by omega)) | exact .inl (head_ne (by assumption) (by assumption)) | exact .inr ⟨by assumption, by assumption⟩)]; first | (rw [show b = _ from by assumption]; rfl) | (rw [if_neg (by simp [signs, *])]; first | done | rfl)))
  have hc37_51_r := hc37_51
  have hc37_51 : b ≠ 61 := u8_nen (k := 61) (beq_eq_false_iff_ne.1 hc37_51)
  refine sr ?_
  refine sp2 hT ?_
  refine nn ?_
  refine at_cond rfl (fun hc37_52 => ?_) (fun hc37_52 => ?_)
  · have hc37_52_r := hc37_52
    have hc37_52 : b = 126 := u8_eqn (k := 126) (eq_of_beq hc37_52)
    refine at_skip ?_
    refine n_then ?_
    refine at_true rfl hc37_52_r ?_
    refine sr ?_
    refine sp4 hT ?_
    refine at_int (z' := ((1 : Nat) : Int)) (wrapN (by omega) (by omega)) ?_
    refine ss (sti_scut hT (j := 0) (k := 1) rfl rfl rfl rfl rfl rfl rfl (by decide) (by simp)) ?_
    refine sp hT ?_
    refine nn ?_
    refine at_ret ?_
    refine r_block ?_
    refine r_then ?_
    exact at_res1 () rfl (rv_tmp rfl) .nil trivial (by first | exact absurd (show b = 60 by assumption) (by assumption) | exact absurd (show b = 62 by assumption) (by assumption) | (rw [sign_two ⟨by first | exact .inl (by assumption) | exact .inr (by assumption), (head_of (by assumption)).trans (congrArg some (by assumption))⟩]; first | done | rfl) | (rw [sign_no2 (by first | exact .inl (head_none (by omega)) | exact .inl (head_ne (by assumption) (by assumption)) | exact .inr ⟨by assumption, by assumption⟩)]; first | (rw [show b = _ from by assumption]; rfl) | (rw [if_neg (by simp [signs, *])]; first | done | rfl)))
  have hc37_52_r := hc37_52
  have hc37_52 : b ≠ 126 := u8_nen (k := 126) (beq_eq_false_iff_ne.1 hc37_52)
  refine sr ?_
  refine sp2 hT ?_
  refine nn ?_
  refine at_cond rfl (fun hc37_53 => ?_) (fun hc37_53 => ?_)
  · have hc37_53_r := hc37_53
    have hc37_53 : b = 60 := u8_eqn (k := 60) (eq_of_beq hc37_53)
    refine at_skip ?_
    refine n_then ?_
    refine at_true rfl hc37_53_r ?_
    refine sr ?_
    refine sp4 hT ?_
    refine at_int (z' := ((1 : Nat) : Int)) (wrapN (by omega) (by omega)) ?_
    refine ss (sti_scut hT (j := 0) (k := 1) rfl rfl rfl rfl rfl rfl rfl (by decide) (by simp)) ?_
    refine sp hT ?_
    refine nn ?_
    refine at_ret ?_
    refine r_block ?_
    refine r_then ?_
    exact at_res1 () rfl (rv_tmp rfl) .nil trivial (by first | exact absurd (show b = 60 by assumption) (by assumption) | exact absurd (show b = 62 by assumption) (by assumption) | (rw [sign_two ⟨by first | exact .inl (by assumption) | exact .inr (by assumption), (head_of (by assumption)).trans (congrArg some (by assumption))⟩]; first | done | rfl) | (rw [sign_no2 (by first | exact .inl (head_none (by omega)) | exact .inl (head_ne (by assumption) (by assumption)) | exact .inr ⟨by assumption, by assumption⟩)]; first | (rw [show b = _ from by assumption]; rfl) | (rw [if_neg (by simp [signs, *])]; first | done | rfl)))
  have hc37_53_r := hc37_53
  have hc37_53 : b ≠ 60 := u8_nen (k := 60) (beq_eq_false_iff_ne.1 hc37_53)
  refine sr ?_
  refine sp2 hT ?_
  refine nn ?_
  refine at_cond rfl (fun hc37_54 => ?_) (fun hc37_54 => ?_)
  · have hc37_54_r := hc37_54
    have hc37_54 : b = 62 := u8_eqn (k := 62) (eq_of_beq hc37_54)
    refine at_skip ?_
    refine n_then ?_
    refine at_true rfl hc37_54_r ?_
    refine sr ?_
    refine sp4 hT ?_
    refine at_int (z' := ((1 : Nat) : Int)) (wrapN (by omega) (by omega)) ?_
    refine ss (sti_scut hT (j := 0) (k := 1) rfl rfl rfl rfl rfl rfl rfl (by decide) (by simp)) ?_
    refine sp hT ?_
    refine nn ?_
    refine at_ret ?_
    refine r_block ?_
    refine r_then ?_
    exact at_res1 () rfl (rv_tmp rfl) .nil trivial (by first | exact absurd (show b = 60 by assumption) (by assumption) | exact absurd (show b = 62 by assumption) (by assumption) | (rw [sign_two ⟨by first | exact .inl (by assumption) | exact .inr (by assumption), (head_of (by assumption)).trans (congrArg some (by assumption))⟩]; first | done | rfl) | (rw [sign_no2 (by first | exact .inl (head_none (by omega)) | exact .inl (head_ne (by assumption) (by assumption)) | exact .inr ⟨by assumption, by assumption⟩)]; first | (rw [show b = _ from by assumption]; rfl) | (rw [if_neg (by simp [signs, *])]; first | done | rfl)))
  have hc37_54_r := hc37_54
  have hc37_54 : b ≠ 62 := u8_nen (k := 62) (beq_eq_false_iff_ne.1 hc37_54)
  refine sr ?_
  refine sp2 hT ?_
  refine nn ?_
  refine at_cond rfl (fun hc37_55 => ?_) (fun hc37_55 => ?_)
  · have hc37_55_r := hc37_55
    have hc37_55 : b = 47 := u8_eqn (k := 47) (eq_of_beq hc37_55)
    refine at_skip ?_
    refine n_then ?_
    refine at_true rfl hc37_55_r ?_
    refine sr ?_
    refine sp4 hT ?_
    refine at_int (z' := ((1 : Nat) : Int)) (wrapN (by omega) (by omega)) ?_
    refine ss (sti_scut hT (j := 0) (k := 1) rfl rfl rfl rfl rfl rfl rfl (by decide) (by simp)) ?_
    refine sp hT ?_
    refine nn ?_
    refine at_ret ?_
    refine r_block ?_
    refine r_then ?_
    exact at_res1 () rfl (rv_tmp rfl) .nil trivial (by first | exact absurd (show b = 60 by assumption) (by assumption) | exact absurd (show b = 62 by assumption) (by assumption) | (rw [sign_two ⟨by first | exact .inl (by assumption) | exact .inr (by assumption), (head_of (by assumption)).trans (congrArg some (by assumption))⟩]; first | done | rfl) | (rw [sign_no2 (by first | exact .inl (head_none (by omega)) | exact .inl (head_ne (by assumption) (by assumption)) | exact .inr ⟨by assumption, by assumption⟩)]; first | (rw [show b = _ from by assumption]; rfl) | (rw [if_neg (by simp [signs, *])]; first | done | rfl)))
  have hc37_55_r := hc37_55
  have hc37_55 : b ≠ 47 := u8_nen (k := 47) (beq_eq_false_iff_ne.1 hc37_55)
  refine sr ?_
  refine sp2 hT ?_
  refine nn ?_
  refine at_cond rfl (fun hc37_56 => ?_) (fun hc37_56 => ?_)
  · have hc37_56_r := hc37_56
    have hc37_56 : b = 92 := u8_eqn (k := 92) (eq_of_beq hc37_56)
    refine at_skip ?_
    refine n_then ?_
    refine at_true rfl hc37_56_r ?_
    refine sr ?_
    refine sp4 hT ?_
    refine at_int (z' := ((1 : Nat) : Int)) (wrapN (by omega) (by omega)) ?_
    refine ss (sti_scut hT (j := 0) (k := 1) rfl rfl rfl rfl rfl rfl rfl (by decide) (by simp)) ?_
    refine sp hT ?_
    refine nn ?_
    refine at_ret ?_
    refine r_block ?_
    refine r_then ?_
    exact at_res1 () rfl (rv_tmp rfl) .nil trivial (by first | exact absurd (show b = 60 by assumption) (by assumption) | exact absurd (show b = 62 by assumption) (by assumption) | (rw [sign_two ⟨by first | exact .inl (by assumption) | exact .inr (by assumption), (head_of (by assumption)).trans (congrArg some (by assumption))⟩]; first | done | rfl) | (rw [sign_no2 (by first | exact .inl (head_none (by omega)) | exact .inl (head_ne (by assumption) (by assumption)) | exact .inr ⟨by assumption, by assumption⟩)]; first | (rw [show b = _ from by assumption]; rfl) | (rw [if_neg (by simp [signs, *])]; first | done | rfl)))
  have hc37_56_r := hc37_56
  have hc37_56 : b ≠ 92 := u8_nen (k := 92) (beq_eq_false_iff_ne.1 hc37_56)
  refine sr ?_
  refine sp2 hT ?_
  refine nn ?_
  refine at_cond rfl (fun hc37_57 => ?_) (fun hc37_57 => ?_)
  · have hc37_57_r := hc37_57
    have hc37_57 : b = 46 := u8_eqn (k := 46) (eq_of_beq hc37_57)
    refine at_skip ?_
    refine n_then ?_
    refine at_true rfl hc37_57_r ?_
    refine sr ?_
    refine sp4 hT ?_
    refine at_int (z' := ((1 : Nat) : Int)) (wrapN (by omega) (by omega)) ?_
    refine ss (sti_scut hT (j := 0) (k := 1) rfl rfl rfl rfl rfl rfl rfl (by decide) (by simp)) ?_
    refine sp hT ?_
    refine nn ?_
    refine at_ret ?_
    refine r_block ?_
    refine r_then ?_
    exact at_res1 () rfl (rv_tmp rfl) .nil trivial (by first | exact absurd (show b = 60 by assumption) (by assumption) | exact absurd (show b = 62 by assumption) (by assumption) | (rw [sign_two ⟨by first | exact .inl (by assumption) | exact .inr (by assumption), (head_of (by assumption)).trans (congrArg some (by assumption))⟩]; first | done | rfl) | (rw [sign_no2 (by first | exact .inl (head_none (by omega)) | exact .inl (head_ne (by assumption) (by assumption)) | exact .inr ⟨by assumption, by assumption⟩)]; first | (rw [show b = _ from by assumption]; rfl) | (rw [if_neg (by simp [signs, *])]; first | done | rfl)))
  have hc37_57_r := hc37_57
  have hc37_57 : b ≠ 46 := u8_nen (k := 46) (beq_eq_false_iff_ne.1 hc37_57)
  refine sr ?_
  refine sp2 hT ?_
  refine nn ?_
  refine at_cond rfl (fun hc37_58 => ?_) (fun hc37_58 => ?_)
  · have hc37_58_r := hc37_58
    have hc37_58 : b = 58 := u8_eqn (k := 58) (eq_of_beq hc37_58)
    refine at_skip ?_
    refine n_then ?_
    refine at_true rfl hc37_58_r ?_
    refine sr ?_
    refine sp4 hT ?_
    refine at_int (z' := ((1 : Nat) : Int)) (wrapN (by omega) (by omega)) ?_
    refine ss (sti_scut hT (j := 0) (k := 1) rfl rfl rfl rfl rfl rfl rfl (by decide) (by simp)) ?_
    refine sp hT ?_
    refine nn ?_
    refine at_ret ?_
    refine r_block ?_
    refine r_then ?_
    exact at_res1 () rfl (rv_tmp rfl) .nil trivial (by first | exact absurd (show b = 60 by assumption) (by assumption) | exact absurd (show b = 62 by assumption) (by assumption) | (rw [sign_two ⟨by first | exact .inl (by assumption) | exact .inr (by assumption), (head_of (by assumption)).trans (congrArg some (by assumption))⟩]; first | done | rfl) | (rw [sign_no2 (by first | exact .inl (head_none (by omega)) | exact .inl (head_ne (by assumption) (by assumption)) | exact .inr ⟨by assumption, by assumption⟩)]; first | (rw [show b = _ from by assumption]; rfl) | (rw [if_neg (by simp [signs, *])]; first | done | rfl)))
  have hc37_58_r := hc37_58
  have hc37_58 : b ≠ 58 := u8_nen (k := 58) (beq_eq_false_iff_ne.1 hc37_58)
  refine sr ?_
  refine sp2 hT ?_
  refine nn ?_
  refine at_cond rfl (fun hc37_59 => ?_) (fun hc37_59 => ?_)
  · have hc37_59_r := hc37_59
    have hc37_59 : b = 40 := u8_eqn (k := 40) (eq_of_beq hc37_59)
    refine at_skip ?_
    refine n_then ?_
    refine at_true rfl hc37_59_r ?_
    refine sr ?_
    refine sp4 hT ?_
    refine at_int (z' := ((1 : Nat) : Int)) (wrapN (by omega) (by omega)) ?_
    refine ss (sti_scut hT (j := 0) (k := 1) rfl rfl rfl rfl rfl rfl rfl (by decide) (by simp)) ?_
    refine sp hT ?_
    refine nn ?_
    refine at_ret ?_
    refine r_block ?_
    refine r_then ?_
    exact at_res1 () rfl (rv_tmp rfl) .nil trivial (by first | exact absurd (show b = 60 by assumption) (by assumption) | exact absurd (show b = 62 by assumption) (by assumption) | (rw [sign_two ⟨by first | exact .inl (by assumption) | exact .inr (by assumption), (head_of (by assumption)).trans (congrArg some (by assumption))⟩]; first | done | rfl) | (rw [sign_no2 (by first | exact .inl (head_none (by omega)) | exact .inl (head_ne (by assumption) (by assumption)) | exact .inr ⟨by assumption, by assumption⟩)]; first | (rw [show b = _ from by assumption]; rfl) | (rw [if_neg (by simp [signs, *])]; first | done | rfl)))
  have hc37_59_r := hc37_59
  have hc37_59 : b ≠ 40 := u8_nen (k := 40) (beq_eq_false_iff_ne.1 hc37_59)
  refine at_region ?_
  refine sp2 hT ?_
  refine nn ?_
  refine at_cond rfl (fun hc37_60 => ?_) (fun hc37_60 => ?_)
  · have hc37_60_r := hc37_60
    have hc37_60 : b = 41 := u8_eqn (k := 41) (eq_of_beq hc37_60)
    refine sr ?_
    refine sp4 hT ?_
    refine at_int (z' := ((1 : Nat) : Int)) (wrapN (by omega) (by omega)) ?_
    refine ss (sti_scut hT (j := 0) (k := 1) rfl rfl rfl rfl rfl rfl rfl (by decide) (by simp)) ?_
    refine sp hT ?_
    refine nn ?_
    refine at_ret ?_
    refine r_block ?_
    refine r_then ?_
    exact at_res1 () rfl (rv_tmp rfl) .nil trivial (by first | exact absurd (show b = 60 by assumption) (by assumption) | exact absurd (show b = 62 by assumption) (by assumption) | (rw [sign_two ⟨by first | exact .inl (by assumption) | exact .inr (by assumption), (head_of (by assumption)).trans (congrArg some (by assumption))⟩]; first | done | rfl) | (rw [sign_no2 (by first | exact .inl (head_none (by omega)) | exact .inl (head_ne (by assumption) (by assumption)) | exact .inr ⟨by assumption, by assumption⟩)]; first | (rw [show b = _ from by assumption]; rfl) | (rw [if_neg (by simp [signs, *])]; first | done | rfl)))
  have hc37_60_r := hc37_60
  have hc37_60 : b ≠ 41 := u8_nen (k := 41) (beq_eq_false_iff_ne.1 hc37_60)
  refine at_skip ?_
  refine n_block ?_
  refine n_then ?_
  refine sr ?_
  refine sp hT ?_
  refine nn ?_
  refine at_ret ?_
  exact at_res1 () rfl (rv_tmp rfl) .nil trivial (by first | exact absurd (show b = 60 by assumption) (by assumption) | exact absurd (show b = 62 by assumption) (by assumption) | (rw [sign_two ⟨by first | exact .inl (by assumption) | exact .inr (by assumption), (head_of (by assumption)).trans (congrArg some (by assumption))⟩]; first | done | rfl) | (rw [sign_no2 (by first | exact .inl (head_none (by omega)) | exact .inl (head_ne (by assumption) (by assumption)) | exact .inr ⟨by assumption, by assumption⟩)]; first | (rw [show b = _ from by assumption]; rfl) | (rw [if_neg (by simp [signs, *])]; first | done | rfl)))

set_option maxRecDepth 100000 in
theorem rvalue_spec (s : Bs) (below : Bool) (hs : s.length ≤ 140737488355328) (hds : ∀ b ∈ s, digitB b = true) : Spec Tryz.prog 90 [.string (bs s), .bool below] [] [] (fun (_ : Unit) => valV (numP below s)) (fun _ => []) (fun _ => []) := by
  have hT := refT_ok
  refine spec_of Tryz.func90 rfl Tryz.ntmps90 rfl ?_
  intro β hM
  refine sr ?_
  refine sp2 hT ?_
  refine nn ?_
  refine at_seq ?_
  cases below
  · refine at_region ?_
    refine sp hT ?_
    refine nn ?_
    refine sr ?_
    refine sp hT ?_
    refine nn ?_
    refine at_seq ?_
    refine sr ?_
    refine sp hT ?_
    refine nn ?_
    refine at_false rfl rfl ?_
    refine at_skip ?_
    refine n_then ?_
    refine at_seq ?_
    refine sr ?_
    refine sp hT ?_
    refine nn ?_
    refine at_block ?_
    refine at_loop2 (ι := Nat × Nat) [(0, _), (1, _), (7, _)] ⟨rfl, rfl, rfl, trivial⟩ (fun ⟨n, i⟩ => [(6, .int .u64 (n : Nat)), (8, .int .i64 (i : Nat))]) (fun _ => []) (fun ⟨n, i⟩ => [Fact.pure (n = decV (s.take i) 0 ∧ n ≤ 9223372036854775807 ∧ i ≤ s.length)]) (fun ⟨n, i⟩ => s.length - i) (0, 0) ⟨rfl, rfl, trivial⟩ .nil ⟨Has.pure (⟨rfl, by omega, by omega⟩), trivial⟩ ?_
    rintro ⟨n, i⟩
    dsimp only
    refine at_know (Has.of mT0) fun hinv6 => ?_
    refine at_seq ?_
    refine sr ?_
    refine sp3 hT ?_
    refine at_int (z' := ((s.length : Nat) : Int)) rfl ?_
    refine sp hT ?_
    refine nn ?_
    refine at_cond rfl (fun hc14 => ?_) (fun hc14 => ?_)
    · have hc14 := of_decide_eq_true hc14
      refine at_skip ?_
      refine n_then ?_
      refine at_seq ?_
      refine at_block ?_
      refine sr ?_
      refine sp2 hT ?_
      obtain ⟨b1, hb2⟩ : ∃ b', s[i]? = some b' := ⟨_, List.getElem?_eq_getElem (by omega)⟩
      refine ss (sti_sindex hT (k := i) rfl rfl rfl rfl rfl hb2) ?_
      refine sp hT ?_
      have hd := hds b1 (List.mem_of_getElem? hb2)
      have h48 := sub48 hd
      refine at_int (z' := ((b1.toNat - 48 : Nat) : Int)) h48.1 ?_
      refine sp hT ?_
      refine at_int (z' := ((b1.toNat - 48 : Nat) : Int)) (wrapU (by omega) (by omega)) ?_
      refine sp hT ?_
      refine nn ?_
      refine at_seq ?_
      refine sr ?_
      refine sp4 hT ?_
      refine at_int (z' := ((9223372036854775807 - (b1.toNat - 48) : Nat) : Int)) (by first | exact wrapU (by omega) (by omega) | (rw [wrapU (by omega) (by omega)]; omega)) ?_
      refine ss (sti_quo rfl rfl rfl (by decide)) ?_
      refine at_int (z' := ((((9223372036854775807 - (b1.toNat - 48)) / 10 : Nat) : Nat) : Int)) (by rw [Int.tdiv_eq_ediv_of_nonneg (by omega), wrapU (by omega) (by omega)]; omega) ?_
      refine sp hT ?_
      refine nn ?_
      refine at_cond rfl (fun hc27 => ?_) (fun hc27 => ?_)
      · have hc27 := of_decide_eq_true hc27
        refine sr ?_
        refine sp2 hT ?_
        refine nn ?_
        refine at_ret ?_
        refine r_then ?_
        refine r_block ?_
        refine r_then ?_
        refine r_then ?_
        refine r_block ?_
        refine r_then ?_
        exact at_res2 () rfl (rv_tmp rfl) (rv_tmp rfl) .nil trivial (by rw [val_over hb2 (by rw [← hinv6.1]; show 9223372036854775807 < _; omega)]; rfl)
      have hc27 := Int.not_lt.1 (of_decide_eq_false hc27)
      refine at_skip ?_
      refine n_then ?_
      refine at_region ?_
      refine sp2 hT ?_
      refine at_int (z' := ((10 * n : Nat) : Int)) (by first | exact wrapU (by omega) (by omega) | (rw [wrapU (by omega) (by omega)]; omega)) ?_
      refine sp2 hT ?_
      refine at_int (z' := ((10 * n + (b1.toNat - 48) : Nat) : Int)) (by first | exact wrapU (by omega) (by omega) | (rw [wrapU (by omega) (by omega)]; omega)) ?_
      refine sp hT ?_
      refine at_nil ?_
      refine n_block ?_
      refine n_then ?_
      refine at_region ?_
      refine sp2 hT ?_
      refine at_int (z' := (((i + 1) : Nat) : Int)) (wrapN (by omega) (by omega)) ?_
      refine sp hT ?_
      refine nn ?_
      exact at_back2 (10 * n + (b1.toNat - 48), i + 1) (by dsimp only; omega) ⟨rfl, rfl, trivial⟩ ⟨rfl, rfl, rfl, trivial⟩ .nil ⟨Has.pure (⟨by rw [decV_take hb2, hinv6.1], by dsimp only; omega, by dsimp only; omega⟩), trivial⟩ (HasAll.drop 1)
    have hc14 := Int.not_lt.1 (of_decide_eq_false hc14)
    refine at_exit ?_
    refine x_then ?_
    refine x_then ?_
    refine x_block ?_
    refine n_then ?_
    refine at_seq ?_
    refine sr ?_
    refine sp hT ?_
    refine nn ?_
    refine at_false rfl rfl ?_
    refine at_skip ?_
    refine n_then ?_
    refine sr ?_
    refine sp2 hT ?_
    refine at_int (z' := ((n : Nat) : Int)) (wrapZ (by omega) (by omega)) ?_
    refine sp2 hT ?_
    refine nn ?_
    refine at_ret ?_
    exact at_res2 () rfl (rv_tmp rfl) (rv_tmp rfl) .nil trivial (by rw [val_done (i := i) (by omega) (by rw [← hinv6.1]; exact hinv6.2.1), ← hinv6.1]; rfl)
  refine at_region ?_
  refine sp hT ?_
  refine nn ?_
  refine sr ?_
  refine sp hT ?_
  refine nn ?_
  refine at_seq ?_
  refine sr ?_
  refine sp hT ?_
  refine nn ?_
  refine at_true rfl rfl ?_
  refine at_region ?_
  refine sp hT ?_
  refine nn ?_
  refine at_seq ?_
  refine sr ?_
  refine sp hT ?_
  refine nn ?_
  refine at_block ?_
  refine at_loop2 (ι := Nat × Nat) [(0, _), (1, _), (7, _)] ⟨rfl, rfl, rfl, trivial⟩ (fun ⟨n, i⟩ => [(6, .int .u64 (n : Nat)), (8, .int .i64 (i : Nat))]) (fun _ => []) (fun ⟨n, i⟩ => [Fact.pure (n = decV (s.take i) 0 ∧ n ≤ 9223372036854775808 ∧ i ≤ s.length)]) (fun ⟨n, i⟩ => s.length - i) (0, 0) ⟨rfl, rfl, trivial⟩ .nil ⟨Has.pure (⟨rfl, by omega, by omega⟩), trivial⟩ ?_
  rintro ⟨n, i⟩
  dsimp only
  refine at_know (Has.of mT0) fun hinv6 => ?_
  refine at_seq ?_
  refine sr ?_
  refine sp3 hT ?_
  refine at_int (z' := ((s.length : Nat) : Int)) rfl ?_
  refine sp hT ?_
  refine nn ?_
  refine at_cond rfl (fun hc14 => ?_) (fun hc14 => ?_)
  · have hc14 := of_decide_eq_true hc14
    refine at_skip ?_
    refine n_then ?_
    refine at_seq ?_
    refine at_block ?_
    refine sr ?_
    refine sp2 hT ?_
    obtain ⟨b3, hb4⟩ : ∃ b', s[i]? = some b' := ⟨_, List.getElem?_eq_getElem (by omega)⟩
    refine ss (sti_sindex hT (k := i) rfl rfl rfl rfl rfl hb4) ?_
    refine sp hT ?_
    have hd := hds b3 (List.mem_of_getElem? hb4)
    have h48 := sub48 hd
    refine at_int (z' := ((b3.toNat - 48 : Nat) : Int)) h48.1 ?_
    refine sp hT ?_
    refine at_int (z' := ((b3.toNat - 48 : Nat) : Int)) (wrapU (by omega) (by omega)) ?_
    refine sp hT ?_
    refine nn ?_
    refine at_seq ?_
    refine sr ?_
    refine sp4 hT ?_
    refine at_int (z' := ((9223372036854775808 - (b3.toNat - 48) : Nat) : Int)) (by first | exact wrapU (by omega) (by omega) | (rw [wrapU (by omega) (by omega)]; omega)) ?_
    refine ss (sti_quo rfl rfl rfl (by decide)) ?_
    refine at_int (z' := ((((9223372036854775808 - (b3.toNat - 48)) / 10 : Nat) : Nat) : Int)) (by rw [Int.tdiv_eq_ediv_of_nonneg (by omega), wrapU (by omega) (by omega)]; omega) ?_
    refine sp hT ?_
    refine nn ?_
    refine at_cond rfl (fun hc27 => ?_) (fun hc27 => ?_)
    · have hc27 := of_decide_eq_true hc27
      refine sr ?_
      refine sp2 hT ?_
      refine nn ?_
      refine at_ret ?_
      refine r_then ?_
      refine r_block ?_
      refine r_then ?_
      refine r_then ?_
      refine r_block ?_
      refine r_then ?_
      exact at_res2 () rfl (rv_tmp rfl) (rv_tmp rfl) .nil trivial (by rw [val_over hb4 (by rw [← hinv6.1]; show 9223372036854775808 < _; omega)]; rfl)
    have hc27 := Int.not_lt.1 (of_decide_eq_false hc27)
    refine at_skip ?_
    refine n_then ?_
    refine at_region ?_
    refine sp2 hT ?_
    refine at_int (z' := ((10 * n : Nat) : Int)) (by first | exact wrapU (by omega) (by omega) | (rw [wrapU (by omega) (by omega)]; omega)) ?_
    refine sp2 hT ?_
    refine at_int (z' := ((10 * n + (b3.toNat - 48) : Nat) : Int)) (by first | exact wrapU (by omega) (by omega) | (rw [wrapU (by omega) (by omega)]; omega)) ?_
    refine sp hT ?_
    refine at_nil ?_
    refine n_block ?_
    refine n_then ?_
    refine at_region ?_
    refine sp2 hT ?_
    refine at_int (z' := (((i + 1) : Nat) : Int)) (wrapN (by omega) (by omega)) ?_
    refine sp hT ?_
    refine nn ?_
    exact at_back2 (10 * n + (b3.toNat - 48), i + 1) (by dsimp only; omega) ⟨rfl, rfl, trivial⟩ ⟨rfl, rfl, rfl, trivial⟩ .nil ⟨Has.pure (⟨by rw [decV_take hb4, hinv6.1], by dsimp only; omega, by dsimp only; omega⟩), trivial⟩ (HasAll.drop 1)
  have hc14 := Int.not_lt.1 (of_decide_eq_false hc14)
  refine at_exit ?_
  refine x_then ?_
  refine x_then ?_
  refine x_block ?_
  refine n_then ?_
  refine at_seq ?_
  refine sr ?_
  refine sp hT ?_
  refine nn ?_
  refine at_true rfl rfl ?_
  refine sr ?_
  refine sp3 hT ?_
  refine at_int (z' := (-(n : Int))) (negWrap (by omega)) ?_
  refine sp2 hT ?_
  refine nn ?_
  refine at_ret ?_
  refine r_then ?_
  exact at_res2 () rfl (rv_tmp rfl) (rv_tmp rfl) .nil trivial (by rw [val_done (i := i) (by omega) (by rw [← hinv6.1]; exact hinv6.2.1), ← hinv6.1]; rfl)

set_option maxRecDepth 100000 in
theorem rnext_spec (b : UInt8) (r : Bs) (hl : (b :: r).length ≤ 65536) : Spec Tryz.prog 74 [.string (bs (b :: r)), .int .i64 0] [] [] (fun (_ : Unit) => nextV (tokenP (b :: r))) (fun _ => []) (fun _ => []) := by
  have hT := refT_ok
  refine spec_of Tryz.func74 rfl Tryz.ntmps74 rfl ?_
  intro β hM
  refine sr ?_
  refine at_alloc rfl rfl rfl rfl rrletter_zero_api_Token rfl fun b1 => ?_
  refine sp2 hT ?_
  refine nn ?_
  refine at_seq ?_
  refine sr ?_
  refine sp2 hT ?_
  refine ss (sti_sindex hT (k := 0) rfl rfl rfl rfl rfl rfl) ?_
  refine sp hT ?_
  refine nn ?_
  refine at_cond rfl (fun hc16 => ?_) (fun hc16 => ?_)
  · have hc16 : b = 10 := u8_eqn (k := 10) (eq_of_beq hc16)
    refine sr ?_
    refine sp hT ?_
    refine ss (sti_build rfl rfl (rrletter_built_api_Token_01 _ _)) ?_
    refine sp2 hT ?_
    refine at_int (z' := ((1 : Nat) : Int)) (wrapN (by omega) (by omega)) ?_
    refine sto hT .head ?_
    refine sp2 hT ?_
    refine nn ?_
    refine at_ret ?_
    refine r_then ?_
    exact at_res3 () rfl (rv_cell hT (knows_own (off := 0) .head) rfl rfl rfl rfl) (rv_tmp rfl) (rv_tmp rfl) .nil trivial (by rw [t_line (by assumption)]; rfl)
  have hc16 : b ≠ 10 := u8_nen (k := 10) (beq_eq_false_iff_ne.1 hc16)
  refine at_skip ?_
  refine n_then ?_
  refine at_seq ?_
  refine sr ?_
  refine sp2 hT ?_
  refine ss (sti_sindex hT (k := 0) rfl rfl rfl rfl rfl rfl) ?_
  refine at_call (callFunc_enter Tryz.func88 rfl rfl) (rletter_spec _) rfl rfl rfl rfl rfl .nil trivial fun _ => ?_
  refine nn ?_
  refine at_cond rfl (fun hc24 => ?_) (fun hc24 => ?_)
  · rw [letter_eq] at hc24
    refine sr ?_
    refine sp2 hT ?_
    refine at_call (callFunc_enter Tryz.func89 rfl rfl) (rend_spec (b :: r) 0 true (by omega) (by simp)) rfl rfl rfl rfl rfl .nil trivial fun _ => ?_
    refine at_int (z' := (((runB wordB (b :: r)) : Nat) : Int)) (by rw [pL_word]; simp) ?_
    have hrl := runB_le wordB (b :: r)
    have hbr : (b :: r).length = r.length + 1 := rfl
    refine sp hT ?_
    refine nn ?_
    refine at_seq ?_
    refine sr ?_
    refine sp3 hT ?_
    refine at_int (z' := ((((runB wordB (b :: r)) - 0) : Nat) : Int)) (wrapN (by omega) (by omega)) ?_
    refine sp hT ?_
    refine nn ?_
    refine at_cond rfl (fun hc31 => ?_) (fun hc31 => ?_)
    · have hc31 := of_decide_eq_true hc31
      refine sr ?_
      refine ss (sti_build rfl rfl (rrletter_built_api_Token_)) ?_
      refine sto hT .head ?_
      refine sp2 hT ?_
      refine nn ?_
      refine at_ret ?_
      refine r_then ?_
      refine r_then ?_
      exact at_res3 () rfl (rv_cell hT (knows_own (off := 0) .head) rfl rfl rfl rfl) (rv_tmp rfl) (rv_tmp rfl) .nil trivial (by rw [t_long (by assumption) (by assumption) (by omega)]; rfl)
    have hc31 := Int.not_lt.1 (of_decide_eq_false hc31)
    refine at_skip ?_
    refine n_then ?_
    refine sr ?_
    refine sp4 hT ?_
    refine ss (sti_scut hT (j := 0) (k := (runB wordB (b :: r))) rfl rfl rfl rfl rfl rfl rfl (by omega) (by omega)) ?_
    refine at_val (v' := .string (bs ((b :: r).take (runB wordB (b :: r))))) (by rfl) ?_
    refine ss (sti_build rfl rfl (rrletter_built_api_Token_012 _ _ _)) ?_
    refine sp hT ?_
    refine sto hT .head ?_
    refine sp2 hT ?_
    refine nn ?_
    refine at_ret ?_
    refine r_then ?_
    exact at_res3 () rfl (rv_cell hT (knows_own (off := 0) .head) rfl rfl rfl rfl) (rv_tmp rfl) (rv_tmp rfl) .nil trivial (by rw [t_word (by assumption) (by assumption) (by omega)]; rfl)
  rw [letter_eq] at hc24
  refine at_skip ?_
  refine n_then ?_
  refine sr ?_
  refine sp2 hT ?_
  refine nn ?_
  refine at_seq ?_
  refine sr ?_
  refine sp2 hT ?_
  refine ss (sti_sindex hT (k := 0) rfl rfl rfl rfl rfl rfl) ?_
  refine sp hT ?_
  refine nn ?_
  refine at_cond rfl (fun hc44 => ?_) (fun hc44 => ?_)
  · have hc44 : b = 95 := u8_eqn (k := 95) (eq_of_beq hc44)
    refine at_region ?_
    refine sp2 hT ?_
    refine at_int (z' := ((1 : Nat) : Int)) (wrapN (by omega) (by omega)) ?_
    refine sp hT ?_
    refine nn ?_
    refine at_seq ?_
    have hds : r = if b == 95 then r else b :: r := by rw [show (b == 95) = true from by simp [*]]; rfl
    refine at_region ?_
    refine sp2 hT ?_
    refine at_call (callFunc_enter Tryz.func89 rfl rfl) (rend_spec (b :: r) 1 false (by omega) (by simp)) rfl rfl rfl rfl rfl .nil trivial fun _ => ?_
    refine at_int (z' := (((1 + runB digitB r) : Nat) : Int)) (by rw [pL_digit]; rfl) ?_
    have hrl := runB_le digitB r
    have hbr : (b :: r).length = r.length + 1 := rfl
    refine sp hT ?_
    refine nn ?_
    refine at_seq ?_
    refine sr ?_
    refine sp3 hT ?_
    refine nn ?_
    refine at_cond rfl (fun hc52 => ?_) (fun hc52 => ?_)
    · have hc52 := of_decide_eq_true hc52
      refine sr ?_
      refine sp3 hT ?_
      refine ss (sti_scut hT (j := 1) (k := (1 + runB digitB r)) rfl rfl rfl rfl rfl rfl rfl (by omega) (by omega)) ?_
      refine at_val (v' := .string (bs (r.take (runB digitB r)))) (by rw [Nat.add_sub_cancel_left]; rfl) ?_
      refine sp3 hT ?_
      refine at_bool (t' := true) (by decide) ?_
      refine at_bool (t' := true) (by decide) ?_
      refine at_call (callFunc_enter Tryz.func90 rfl rfl) (rvalue_spec (r.take (runB digitB r)) true (by simp at *; omega) (run_all _ _)) rfl rfl rfl rfl rfl .nil trivial fun _ => ?_
      refine sp4 hT ?_
      refine sp hT ?_
      refine nn ?_
      refine at_seq ?_
      refine sr ?_
      refine sp2 hT ?_
      refine nn ?_
      refine at_cond rfl (fun hc65 => ?_) (fun hc65 => ?_)
      · have hc65 := not_t hc65
        refine sr ?_
        refine ss (sti_build rfl rfl (rrletter_built_api_Token_)) ?_
        refine sto hT .head ?_
        refine sp2 hT ?_
        refine nn ?_
        refine at_ret ?_
        refine r_then ?_
        refine r_then ?_
        exact at_res3 () rfl (rv_cell hT (knows_own (off := 0) .head) rfl rfl rfl rfl) (rv_tmp rfl) (rv_tmp rfl) .nil trivial (by rw [t_num (by assumption) (by assumption) hds (by omega), (show (b == 95) = true from by simp [*]), opt_none' (by assumption : (numP true (r.take (runB digitB r))).isSome = false)]; rfl)
      have hc65 := not_f hc65
      refine at_skip ?_
      refine n_then ?_
      refine sr ?_
      refine sp2 hT ?_
      refine ss (sti_build rfl rfl (rrletter_built_api_Token_013 _ _ _)) ?_
      refine sp hT ?_
      refine sto hT .head ?_
      refine sp2 hT ?_
      refine nn ?_
      refine at_ret ?_
      refine r_then ?_
      exact at_res3 () rfl (rv_cell hT (knows_own (off := 0) .head) rfl rfl rfl rfl) (rv_tmp rfl) (rv_tmp rfl) .nil trivial (by rw [t_num (by assumption) (by assumption) hds (by omega), (show (b == 95) = true from by simp [*]), some_getI (by assumption : (numP true (r.take (runB digitB r))).isSome = true)]; rw [Nat.add_comm]; rfl)
    have hc52 := Int.not_lt.1 (of_decide_eq_false hc52)
    refine at_skip ?_
    refine n_then ?_
    refine sr ?_
    refine sp2 hT ?_
    refine at_call (callFunc_enter Tryz.func91 rfl rfl) (rsign_spec b r) rfl rfl rfl rfl rfl .nil trivial fun _ => ?_
    refine sp hT ?_
    refine nn ?_
    refine at_seq ?_
    refine sr ?_
    refine sp2 hT ?_
    refine nn ?_
    refine at_cond rfl (fun hc75 => ?_) (fun hc75 => ?_)
    · have hc75 : ((b :: r).take (signP (b :: r))) = ([] : Bs) := eq_of_beq hc75
      refine sr ?_
      refine ss (sti_build rfl rfl (rrletter_built_api_Token_)) ?_
      refine sto hT .head ?_
      refine sp2 hT ?_
      refine nn ?_
      refine at_ret ?_
      refine r_then ?_
      exact at_res3 () rfl (rv_cell hT (knows_own (off := 0) .head) rfl rfl rfl rfl) (rv_tmp rfl) (rv_tmp rfl) .nil trivial (by rw [t_sign (by assumption) (by assumption) hds (by omega), if_pos (sign_zero (by assumption))]; rfl)
    have hc75 : ((b :: r).take (signP (b :: r))) ≠ ([] : Bs) := fun h => absurd (beq_iff_eq.2 h) (by rw [show (((b :: r).take (signP (b :: r))) == ([] : Bs)) = false from hc75]; simp)
    refine at_skip ?_
    refine n_then ?_
    refine at_seq ?_
    have hstl := List.length_take_le (signP (b :: r)) (b :: r)
    have hsle := signP_le (b :: r)
    have hbr : (b :: r).length = r.length + 1 := rfl
    refine at_region ?_
    refine sp2 hT ?_
    refine ss (sti_build rfl rfl (rrletter_built_api_Token_012 _ _ _)) ?_
    refine sp3 hT ?_
    refine at_int (z' := ((((b :: r).take (signP (b :: r))).length : Nat) : Int)) rfl ?_
    refine sp hT ?_
    refine at_int (z' := (((0 + ((b :: r).take (signP (b :: r))).length) : Nat) : Int)) (wrapN (by omega) (by omega)) ?_
    refine sto hT .head ?_
    refine sp2 hT ?_
    refine nn ?_
    refine at_ret ?_
    exact at_res3 () rfl (rv_cell hT (knows_own (off := 0) .head) rfl rfl rfl rfl) (rv_tmp rfl) (rv_tmp rfl) .nil trivial (by rw [t_sign (by assumption) (by assumption) hds (by omega), if_neg (sign_nonzero (by assumption))]; exact next_sign)
  have hc44 : b ≠ 95 := u8_nen (k := 95) (beq_eq_false_iff_ne.1 hc44)
  refine at_skip ?_
  refine n_then ?_
  refine at_seq ?_
  have hds : (b :: r) = if b == 95 then r else b :: r := by rw [show (b == 95) = false from by simp [*]]; rfl
  refine at_region ?_
  refine sp2 hT ?_
  refine at_call (callFunc_enter Tryz.func89 rfl rfl) (rend_spec (b :: r) 0 false (by omega) (by simp)) rfl rfl rfl rfl rfl .nil trivial fun _ => ?_
  refine at_int (z' := (((runB digitB (b :: r)) : Nat) : Int)) (by rw [pL_digit]; simp) ?_
  have hrl := runB_le digitB (b :: r)
  have hbr : (b :: r).length = r.length + 1 := rfl
  refine sp hT ?_
  refine nn ?_
  refine at_seq ?_
  refine sr ?_
  refine sp3 hT ?_
  refine nn ?_
  refine at_cond rfl (fun hc52 => ?_) (fun hc52 => ?_)
  · have hc52 := of_decide_eq_true hc52
    refine sr ?_
    refine sp3 hT ?_
    refine ss (sti_scut hT (j := 0) (k := (runB digitB (b :: r))) rfl rfl rfl rfl rfl rfl rfl (by omega) (by omega)) ?_
    refine at_val (v' := .string (bs ((b :: r).take (runB digitB (b :: r))))) (by rfl) ?_
    refine sp3 hT ?_
    refine at_bool (t' := false) (by decide) ?_
    refine at_bool (t' := false) (by decide) ?_
    refine at_call (callFunc_enter Tryz.func90 rfl rfl) (rvalue_spec ((b :: r).take (runB digitB (b :: r))) false (by simp at *; omega) (run_all _ _)) rfl rfl rfl rfl rfl .nil trivial fun _ => ?_
    refine sp4 hT ?_
    refine sp hT ?_
    refine nn ?_
    refine at_seq ?_
    refine sr ?_
    refine sp2 hT ?_
    refine nn ?_
    refine at_cond rfl (fun hc65 => ?_) (fun hc65 => ?_)
    · have hc65 := not_t hc65
      refine sr ?_
      refine ss (sti_build rfl rfl (rrletter_built_api_Token_)) ?_
      refine sto hT .head ?_
      refine sp2 hT ?_
      refine nn ?_
      refine at_ret ?_
      refine r_then ?_
      refine r_then ?_
      exact at_res3 () rfl (rv_cell hT (knows_own (off := 0) .head) rfl rfl rfl rfl) (rv_tmp rfl) (rv_tmp rfl) .nil trivial (by rw [t_num (by assumption) (by assumption) hds (by omega), (show (b == 95) = false from by simp [*]), opt_none' (by assumption : (numP false ((b :: r).take (runB digitB (b :: r)))).isSome = false)]; rfl)
    have hc65 := not_f hc65
    refine at_skip ?_
    refine n_then ?_
    refine sr ?_
    refine sp2 hT ?_
    refine ss (sti_build rfl rfl (rrletter_built_api_Token_013 _ _ _)) ?_
    refine sp hT ?_
    refine sto hT .head ?_
    refine sp2 hT ?_
    refine nn ?_
    refine at_ret ?_
    refine r_then ?_
    exact at_res3 () rfl (rv_cell hT (knows_own (off := 0) .head) rfl rfl rfl rfl) (rv_tmp rfl) (rv_tmp rfl) .nil trivial (by rw [t_num (by assumption) (by assumption) hds (by omega), (show (b == 95) = false from by simp [*]), some_getI (by assumption : (numP false ((b :: r).take (runB digitB (b :: r)))).isSome = true)]; rfl)
  have hc52 := Int.not_lt.1 (of_decide_eq_false hc52)
  refine at_skip ?_
  refine n_then ?_
  refine sr ?_
  refine sp2 hT ?_
  refine at_call (callFunc_enter Tryz.func91 rfl rfl) (rsign_spec b r) rfl rfl rfl rfl rfl .nil trivial fun _ => ?_
  refine sp hT ?_
  refine nn ?_
  refine at_seq ?_
  refine sr ?_
  refine sp2 hT ?_
  refine nn ?_
  refine at_cond rfl (fun hc75 => ?_) (fun hc75 => ?_)
  · have hc75 : ((b :: r).take (signP (b :: r))) = ([] : Bs) := eq_of_beq hc75
    refine sr ?_
    refine ss (sti_build rfl rfl (rrletter_built_api_Token_)) ?_
    refine sto hT .head ?_
    refine sp2 hT ?_
    refine nn ?_
    refine at_ret ?_
    refine r_then ?_
    exact at_res3 () rfl (rv_cell hT (knows_own (off := 0) .head) rfl rfl rfl rfl) (rv_tmp rfl) (rv_tmp rfl) .nil trivial (by rw [t_sign (by assumption) (by assumption) hds (by omega), if_pos (sign_zero (by assumption))]; rfl)
  have hc75 : ((b :: r).take (signP (b :: r))) ≠ ([] : Bs) := fun h => absurd (beq_iff_eq.2 h) (by rw [show (((b :: r).take (signP (b :: r))) == ([] : Bs)) = false from hc75]; simp)
  refine at_skip ?_
  refine n_then ?_
  refine at_seq ?_
  have hstl := List.length_take_le (signP (b :: r)) (b :: r)
  have hsle := signP_le (b :: r)
  have hbr : (b :: r).length = r.length + 1 := rfl
  refine at_region ?_
  refine sp2 hT ?_
  refine ss (sti_build rfl rfl (rrletter_built_api_Token_012 _ _ _)) ?_
  refine sp3 hT ?_
  refine at_int (z' := ((((b :: r).take (signP (b :: r))).length : Nat) : Int)) rfl ?_
  refine sp hT ?_
  refine at_int (z' := (((0 + ((b :: r).take (signP (b :: r))).length) : Nat) : Int)) (wrapN (by omega) (by omega)) ?_
  refine sto hT .head ?_
  refine sp2 hT ?_
  refine nn ?_
  refine at_ret ?_
  exact at_res3 () rfl (rv_cell hT (knows_own (off := 0) .head) rfl rfl rfl rfl) (rv_tmp rfl) (rv_tmp rfl) .nil trivial (by rw [t_sign (by assumption) (by assumption) hds (by omega), if_neg (sign_nonzero (by assumption))]; exact next_sign)

end Go.Proofs.YtngkedmndhmjcaaGreatDoor
