/- Plain: how a number is spelled, and that it is read as itself. -/
import Derived.Test.YtngkedmndhmjcaaGreatDoorLexD
import Derived.Lib.ItoaLen
import Derived.Lib.ReplaceLaws
namespace Go.Proofs.YtngkedmndhmjcaaGreatDoor
open Go.RowKit Go.Sort

def spellN (n : Int) : Bs := (if n < 0 then [95] else []) ++ Lib.decDigits n.natAbs

theorem dig_ofNat {k : Nat} (h : k < 10) : digitB (UInt8.ofNat (48 + k)) = true ∧ (UInt8.ofNat (48 + k)).toNat = 48 + k := by
  have e : (UInt8.ofNat (48 + k)).toNat = 48 + k := by rw [UInt8.toNat_ofNat']; omega
  refine ⟨?_, e⟩
  unfold digitB
  rw [e]
  simp
  omega
theorem decDigits_all (u : Nat) : ∀ b ∈ Lib.decDigits u, digitB b = true := by
  induction u using Nat.strongRecOn with
  | _ u ih =>
    intro b hb
    rw [Lib.decDigits] at hb
    split at hb
    · rename_i h
      rw [List.mem_singleton.1 hb]
      exact (dig_ofNat h).1
    · rename_i h
      rcases List.mem_append.1 hb with hb | hb
      · exact ih (u / 10) (by omega) b hb
      · rw [List.mem_singleton.1 hb]
        exact (dig_ofNat (Nat.mod_lt _ (by omega))).1
theorem decDigits_ne (u : Nat) : Lib.decDigits u ≠ [] := by
  rw [Lib.decDigits]
  split <;> simp
theorem decV_snoc (d : UInt8) : ∀ (a : Bs) (acc : Nat), decV (a ++ [d]) acc = 10 * decV a acc + (d.toNat - 48)
  | [], acc => rfl
  | b :: a, acc => by
    show decV (a ++ [d]) _ = _
    rw [decV_snoc d a]
    rfl
theorem decV_digits (u : Nat) : decV (Lib.decDigits u) 0 = u := by
  induction u using Nat.strongRecOn with
  | _ u ih =>
    rw [Lib.decDigits]
    split
    · rename_i h
      show 10 * 0 + ((UInt8.ofNat (48 + u)).toNat - 48) = u
      rw [(dig_ofNat h).2]
      omega
    · rename_i h
      rw [decV_snoc, ih (u / 10) (by omega), (dig_ofNat (Nat.mod_lt _ (by omega))).2]
      omega
theorem runB_whole {p : UInt8 → Bool} : ∀ s : Bs, (∀ b ∈ s, p b = true) → runB p s = s.length
  | [], _ => rfl
  | b :: s, h => by
    rw [runB, if_pos (h b (by simp)), runB_whole s fun x hx => h x (by simp [hx])]
    rfl
theorem digit_facts {b : UInt8} (h : digitB b = true) : b ≠ 10 ∧ letterB b = false ∧ b ≠ 95 ∧ b ≠ 45 ∧ b ≠ 35 ∧ blankB b = false ∧ Lib.isSp b = false ∧ b.toNat < 128 := by
  simp only [digitB, Bool.and_eq_true, decide_eq_true_eq] at h
  have key : ∀ k : Fin 10, (UInt8.ofNat (48 + k.val) ≠ 10 ∧ letterB (UInt8.ofNat (48 + k.val)) = false ∧ UInt8.ofNat (48 + k.val) ≠ 95 ∧ UInt8.ofNat (48 + k.val) ≠ 45 ∧ UInt8.ofNat (48 + k.val) ≠ 35 ∧ blankB (UInt8.ofNat (48 + k.val)) = false ∧ Lib.isSp (UInt8.ofNat (48 + k.val)) = false ∧ (UInt8.ofNat (48 + k.val)).toNat < 128) := by decide +kernel
  have hb : b = UInt8.ofNat (48 + (b.toNat - 48)) := by
    rw [show 48 + (b.toNat - 48) = b.toNat from by omega]
    simp
  have := key ⟨b.toNat - 48, by omega⟩
  rw [hb]
  exact this
theorem spell_len {n : Int} (h0 : -9223372036854775808 ≤ n) (h1 : n ≤ 9223372036854775807) : (spellN n).length ≤ 21 := by
  have h := Lib.nDigits_le20 n.natAbs (by omega)
  have := Lib.decDigits_length n.natAbs
  unfold spellN
  split <;> simp <;> omega
theorem numTok_spell {n : Int} (h0 : -9223372036854775808 ≤ n) (h1 : n ≤ 9223372036854775807) {b : UInt8} {r : Bs} (h : spellN n = b :: r) : numTok b r = .ok (some (2, [], n, (b :: r).length)) := by
  unfold spellN at h
  have hd := decDigits_all n.natAbs
  have hr := runB_whole _ hd
  have hv := decV_digits n.natAbs
  have hne := decDigits_ne n.natAbs
  split at h
  · rename_i hn
    simp only [List.singleton_append, List.cons.injEq] at h
    obtain ⟨rfl, rfl⟩ := h
    have hk : ¬ (Lib.decDigits n.natAbs).length = 0 := fun e => hne (List.eq_nil_of_length_eq_zero e)
    have hp : numP true (Lib.decDigits n.natAbs) = some n := by
      unfold numP
      rw [hv, if_pos rfl, if_pos (by omega)]
      congr 1
      omega
    rw [num_m0 rfl, hr, if_neg hk, List.take_of_length_le (Nat.le_refl _), hp]
    rfl
  · rename_i hn
    rw [List.nil_append] at h
    rw [h] at hd hr hv
    have hb := (digit_facts (hd b (by simp))).2.2.1
    have hp : numP false (b :: r) = some n := by
      unfold numP
      rw [hv]
      simp only [Bool.false_eq_true, if_false]
      rw [if_pos (by omega)]
      congr 1
      omega
    rw [num_p0 hb, hr, if_neg (by simp), List.take_of_length_le (Nat.le_refl _), hp]
    rfl
theorem spell_head {n : Int} {b : UInt8} {r : Bs} (h : spellN n = b :: r) : b = 95 ∨ digitB b = true := by
  unfold spellN at h
  split at h
  · simp only [List.singleton_append, List.cons.injEq] at h
    exact .inl h.1.symm
  · rw [List.nil_append] at h
    exact .inr (decDigits_all n.natAbs b (by rw [h]; simp))
theorem tokenP_spell {n : Int} (h0 : -9223372036854775808 ≤ n) (h1 : n ≤ 9223372036854775807) : tokenP (spellN n) = .ok (2, [], n, (spellN n).length) := by
  cases hs : spellN n with
  | nil =>
    unfold spellN at hs
    exact absurd (List.append_eq_nil_iff.1 hs).2 (decDigits_ne _)
  | cons b r =>
    have hn := numTok_spell h0 h1 hs
    have hb : b ≠ 10 ∧ letterB b = false := by
      rcases spell_head hs with rfl | h
      · decide
      · exact ⟨(digit_facts h).1, (digit_facts h).2.1⟩
    simp only [tokenP, beq_iff_eq, hb.1, if_false, hb.2, Bool.false_eq_true, hn]
theorem lexP_spell {n : Int} (h0 : -9223372036854775808 ≤ n) (h1 : n ≤ 9223372036854775807) : lexP (spellN n) = ([⟨2, 0, [], n⟩], (0, 0)) := by
  have hl := spell_len h0 h1
  have ht := tokenP_spell h0 h1
  unfold lexP
  rw [if_neg (by omega)]
  cases hs : spellN n with
  | nil =>
    unfold spellN at hs
    exact absurd (List.append_eq_nil_iff.1 hs).2 (decDigits_ne _)
  | cons b r =>
    rw [hs] at ht
    have hb : blankB b = false ∧ (b == 35) = false := by
      rcases spell_head hs with rfl | h
      · decide
      · exact ⟨(digit_facts h).2.2.2.2.2.1, by simp [(digit_facts h).2.2.2.2.1]⟩
    rw [lexGo_step, hb.1, if_neg (by simp), hb.2, if_neg (by simp), ht]
    simp only [List.drop_length]
    rfl
theorem spell_bytes (n : Int) : ∀ b ∈ spellN n, b.toNat < 128 ∧ Lib.isSp b = false ∧ b ≠ 35 := fun b hb => by
  unfold spellN at hb
  rcases List.mem_append.1 hb with hb | hb
  · split at hb
    · rw [List.mem_singleton.1 hb]
      decide
    · simp at hb
  · have := digit_facts (decDigits_all _ b hb)
    exact ⟨this.2.2.2.2.2.2.2, this.2.2.2.2.2.2.1, this.2.2.2.2.1⟩
theorem dropWhile_none {p : UInt8 → Bool} : ∀ l : Bs, (∀ b ∈ l, p b = false) → l.dropWhile p = l
  | [], _ => rfl
  | b :: l, h => by rw [List.dropWhile_cons_of_neg (by simp [h b (by simp)])]
theorem trim_spell (n : Int) : Lib.trimSpace (spellN n) = spellN n := by
  have h := spell_bytes n
  unfold Lib.trimSpace
  rw [dropWhile_none _ fun b hb => (h b hb).2.1, dropWhile_none _ fun b hb => (h b (List.mem_reverse.1 hb)).2.1, List.reverse_reverse]
theorem hash_spell (n : Int) : decide (0 ≤ Lib.indexByte (spellN n) 35) = false := by
  rw [(indexByte_in 35 _).1]
  cases h : (spellN n).contains 35 with
  | false => rfl
  | true => exact absurd rfl (spell_bytes n 35 (by simpa using h)).2.2
theorem count_digits (u : Nat) : Lib.count (Lib.decDigits u) [45] = 0 := by
  rw [Lib.count_one, List.count_eq_zero]
  exact fun h => (digit_facts (decDigits_all u _ h)).2.2.2.1 rfl
theorem replace_itoa (n : Int) : Lib.replace (Lib.itoa n) [45] [95] 1 = spellN n := by
  unfold Lib.replace
  rw [if_neg (by decide)]
  unfold Lib.itoa spellN
  split
  · have hc : Lib.count (45 :: Lib.decDigits n.natAbs) [45] = 1 := by rw [Lib.count_cons_eq, count_digits]
    have hr : Lib.replaceNum (45 :: Lib.decDigits n.natAbs) [45] 1 = 1 := by
      unfold Lib.replaceNum
      rw [hc]
      rfl
    have hi : Lib.index (45 :: Lib.decDigits n.natAbs) [45] = ((0 : Nat) : Int) := by
      rw [Lib.index_one]
      rfl
    rw [hr, Lib.replaceK_hit _ _ _ _ 0 hi]
    rfl
  · have hr : Lib.replaceNum (Lib.decDigits n.toNat) [45] 1 = 0 := by
      unfold Lib.replaceNum
      rw [count_digits]
      rfl
    rw [hr]
    have : n.toNat = n.natAbs := by omega
    rw [this]
    rfl
theorem itoa_len {n : Int} (h0 : -9223372036854775808 ≤ n) (h1 : n ≤ 9223372036854775807) : (Lib.itoa n).length ≤ 21 := Lib.itoa_length_le n h0 h1

/-! ### Go's library at numbers -/
theorem below_grow {w : World} (k : Nat) (os : Array Obj) : Below w.heap.size w (grow (w.drewN k) os) := by
  refine ⟨rfl, rfl, rfl, by simp [grow, World.drewN], fun i hi => ?_⟩
  have : (w.drewN k).heap = w.heap := rfl
  simp only [grow, this, Array.getElem?_append, hi, if_true]
theorem formatInt_spec (n : Int) (h0 : -9223372036854775808 ≤ n) (h1 : n ≤ 9223372036854775807) : Spec Tryz.prog 82 [.int .i64 n, .int .i64 10] [] [globF] (fun _ : Unit => .string (bs (Lib.itoa n))) (fun _ => []) (fun _ => []) :=
  spec_below fun _ w _ k => by
    obtain ⟨_, _, h7, _⟩ := k _ (.head _)
    refine (Tryz.strconv_FormatInt_10 n h0 h1 w h7).mono ?_
    rintro e w' ⟨rfl, q, os, rfl⟩
    exact ⟨rfl, below_grow q os⟩
theorem replace_spec (s : Bs) (hs : s.length ≤ 1000) : Spec Tryz.prog 81 [.string (bs s), .string (bs [45]), .string (bs [95]), .int .i64 1] [] [globF] (fun _ : Unit => .string (bs (Lib.replace s [45] [95] 1))) (fun _ => []) (fun _ => []) :=
  spec_below fun _ w _ k => by
    obtain ⟨_, _, _, ⟨m, hm⟩, _⟩ := k _ (.head _)
    have hc := Lib.countB_mul_le (bs [45]) (by decide) (bs s).size (bs s) (Nat.le_refl _)
    refine (Tryz.strings_Replace (bs s) (bs [45]) (bs [95]) 1 m w (by rw [bs_size]; omega) hm (by decide) ?_).mono fun e w' ⟨he, hb⟩ => ⟨he, hb⟩
    have e1 : (bs [45]).size = 1 := rfl
    have e2 : (bs [95]).size = 1 := rfl
    rw [e1] at hc
    rw [e2, bs_size] at *
    omega
theorem trimSpace_spec (s : Bs) (hs : s.length ≤ 140737488355328) (ha : ∀ b ∈ s, b.toNat < 128) : Spec Tryz.prog 83 [.string (bs s)] [] [globF] (fun _ : Unit => .string (bs (Lib.trimSpace s))) (fun _ => []) (fun _ => []) :=
  spec_below fun _ w _ k => by
    obtain ⟨_, h0, _⟩ := k _ (.head _)
    refine (Tryz.strings_TrimSpace (bs s) w (by rw [bs_size]; omega) (fun j b hb => ha b (List.mem_of_getElem? hb)) h0).mono ?_
    rintro e w' ⟨rfl, rfl⟩
    exact ⟨rfl, Joins.below_bytesWorld _ _ _ _ (Nat.le_refl _)⟩
theorem contains_spec (s : Bs) (c : UInt8) : Spec Tryz.prog 84 [.string (bs s), .string (bs [c])] [] [] (fun _ : Unit => .bool (decide (0 ≤ Lib.indexByte s c))) (fun _ => []) (fun _ => []) :=
  spec_same fun _ w _ => Tryz.strings_Contains_one (bs s) c w
end Go.Proofs.YtngkedmndhmjcaaGreatDoor
