/- Go's library at this program, in the engine's form: the tables that start-up lays; prefixes, bytes, numbers read. -/
import Derived.Test.YtngkedmndhmjcaaGreatDoorShelf
import Derived.Test.YtngkedmndhmjcaaGreatDoorLexA
import Derived.Test.YtngkedmndhmjcaaGreatDoorEq
import Derived.Lib.SmallJoins
namespace Go.Proofs.YtngkedmndhmjcaaGreatDoor
open Go.RowKit

theorem named0 : Tryz.prog.globalNamed "strings.asciiSpace" = some 0 := by kernel_rfl
theorem named7 : Tryz.prog.globalNamed "internal/strconv.uint64pow10" = some 7 := by kernel_rfl
/-- what start-up has laid, and stays -/
def globF : Fact where
  p S w := (S 0 ∧ S 7 ∧ S 4 ∧ S 3) ∧ Lib.TabIs Tryz.prog w "strings.asciiSpace" .u8 Lib.asciiSpaceTab ∧ Lib.TabIs Tryz.prog w "internal/strconv.uint64pow10" .u64 Lib.pow10Tab ∧
    (∃ m, w.cell? ⟨4, 0, none⟩ = some (.int .i64 m)) ∧ ∃ ev, w.cell? ⟨3, 0, none⟩ = some ev ∧ (ev = .nilIface ∨ ∃ te pe, ev = .iface te pe)
  mono := fun {S S' w w'} hs ha h => by
    obtain ⟨⟨s0, s7, s4, s3⟩, h0, h7, ⟨m, h4⟩, ev, h3, he⟩ := h
    refine ⟨⟨hs _ s0, hs _ s7, hs _ s4, hs _ s3⟩, ?_, ?_, ⟨m, ?_⟩, ev, ?_, he⟩
    · unfold Lib.TabIs World.var? at *
      rw [named0] at *
      simp only [Option.bind_some, ha _ s0] at *
      exact h0
    · unfold Lib.TabIs World.var? at *
      rw [named7] at *
      simp only [Option.bind_some, ha _ s7] at *
      exact h7
    · unfold World.cell? at *
      rw [ha _ s4]
      exact h4
    · unfold World.cell? at *
      rw [ha _ s3]
      exact h3

theorem spec_same {P : Program} {f : FuncId} {args : List Value} {Pre : List Fact} {v : Value} (h : ∀ S w, All Pre S w → Calls P f args.toArray w fun e w' => e = .returned v ∧ w' = w) :
    Spec P f args [] Pre (fun _ : Unit => v) (fun _ => []) (fun _ => []) := spec_below fun S w _ k => (h S w k).mono fun e w' ⟨he, hw⟩ => ⟨he, by rw [hw]; exact Below.refl _ _⟩
theorem hasPrefix_spec (s p : Bs) : Spec Tryz.prog 58 [.string (bs s), .string (bs p)] [] [] (fun _ : Unit => .bool (p.isPrefixOf s)) (fun _ => []) (fun _ => []) :=
  spec_same fun _ w _ => Tryz.strings_HasPrefix (bs s) (bs p) w
theorem indexByte_spec (s : Bs) (b : UInt8) : Spec Tryz.prog 59 [.string (bs s), .int .u8 b.toNat] [] [] (fun _ : Unit => .int .i64 (Lib.indexByte s b)) (fun _ => []) (fun _ => []) :=
  spec_same fun _ w _ => by
    have h := Tryz.strings_IndexByte (bs s) (b.toNat : Int) w
    have e : ((b.toNat : Int).toNat).toUInt8 = b := by simp
    rw [e] at h
    exact h
theorem indexByte_in (b : UInt8) : ∀ l : Bs, (decide ((0 : Int) ≤ Lib.indexByte l b)) = l.contains b ∧ (Lib.indexByte l b = -1 ∨ 0 ≤ Lib.indexByte l b)
  | [] => by simp [Lib.indexByte]
  | c :: l => by
    obtain ⟨h1, h2⟩ := indexByte_in b l
    unfold Lib.indexByte
    by_cases h : (c == b) = true
    · have : b = c := (by simpa using h : c = b).symm
      simp [this]
    · have hne : ¬ b = c := fun e => h (by simp [e])
      simp only [h, Bool.false_eq_true, if_false]
      rcases h2 with h2 | h2
      · rw [h2] at h1 ⊢
        simp only [beq_self_eq_true, if_true]
        simp at h1
        refine ⟨?_, .inl trivial⟩
        simp [hne, h1]
      · have : ¬ Lib.indexByte l b = -1 := by omega
        have hb : (Lib.indexByte l b == -1) = false := by simp [this]
        rw [hb]
        simp only [Bool.false_eq_true, if_false]
        refine ⟨?_, .inr (by omega)⟩
        have h1' : l.contains b = true := by rw [← h1]; simp [h2]
        have hm : b ∈ l := by simpa using h1'
        simp [hm]
        omega

theorem decV_ge : ∀ (ds : Bs) (acc : Nat), acc ≤ decV ds acc
  | [], _ => Nat.le_refl _
  | b :: r, acc => by
    have := decV_ge r (10 * acc + (b.toNat - 48))
    simp only [decV]
    omega
theorem uintM_digits : ∀ (ds : Bs) (acc : Nat), (∀ b ∈ ds, digitB b = true) → acc ≤ 18446744073709551615 → Lib.parseUintM 18446744073709551615 acc ds = if decV ds acc ≤ 18446744073709551615 then .ok (decV ds acc) else .range
  | [], acc, _, h => by simp [Lib.parseUintM, decV, h]
  | b :: r, acc, hd, h => by
    have hb := hd b (by simp)
    simp only [digitB, Bool.and_eq_true, decide_eq_true_eq] at hb
    have hge := decV_ge r (10 * acc + (b.toNat - 48))
    unfold Lib.parseUintM decV
    rw [if_pos hb]
    split
    · rw [if_neg (by omega)]
    · split
      · rw [if_neg (by omega)]
      · rw [uintM_digits r _ (fun x hx => hd x (by simp [hx])) (by omega), show acc * 10 + (b.toNat - 48) = 10 * acc + (b.toNat - 48) from by omega]
theorem parse_digits {neg : Bool} {ds : Bs} (hne : ds ≠ []) (hd : ∀ b ∈ ds, digitB b = true) : Lib.parseIntB 64 ((if neg then [45] else []) ++ ds) = match numP neg ds with
    | some v => .ok v
    | none => .range := by
  have hu : Lib.parseUintB 64 ds = if decV ds 0 ≤ 18446744073709551615 then .ok (decV ds 0) else .range := by
    unfold Lib.parseUintB
    rw [if_neg hne]
    exact uintM_digits ds 0 hd (by omega)
  cases neg with
  | true =>
    simp only [if_true, List.singleton_append, Lib.parseIntB]
    have e : ((45 : UInt8).toNat = 43 ∨ (45 : UInt8).toNat = 45) := by decide
    have e2 : (45 : UInt8).toNat = 45 := by decide
    rw [if_pos e, hu]
    unfold numP
    simp only [if_true]
    by_cases h1 : decV ds 0 ≤ 18446744073709551615
    · rw [if_pos h1]
      by_cases h2 : decV ds 0 ≤ 9223372036854775808
      · simp [h2, e2]
      · have h3 : 9223372036854775808 < decV ds 0 := by omega
        simp [e2, h2, h3]
    · rw [if_neg h1, if_neg (by omega)]
  | false =>
    cases ds with
    | nil => exact absurd rfl hne
    | cons b r =>
      have hb := hd b (by simp)
      simp only [digitB, Bool.and_eq_true, decide_eq_true_eq] at hb
      simp only [Bool.false_eq_true, if_false, List.nil_append, Lib.parseIntB]
      have e : ¬ (b.toNat = 43 ∨ b.toNat = 45) := by omega
      have e2 : ¬ b.toNat = 45 := by omega
      rw [if_neg e, hu]
      unfold numP
      simp only [Bool.false_eq_true, if_false]
      by_cases h1 : decV (b :: r) 0 ≤ 18446744073709551615
      · rw [if_pos h1]
        by_cases h2 : decV (b :: r) 0 ≤ 9223372036854775807
        · simp [h2, e2]
          omega
        · simp [e2, h2]
          omega
      · rw [if_neg h1, if_neg (by omega)]
def minusS (neg : Bool) : Bs := if neg then [45] else []
theorem parseInt_ok (neg : Bool) (ds : Bs) (hne : ds ≠ []) (hd : ∀ b ∈ ds, digitB b = true) (hl : ds.length ≤ 140737488355328) {v : Int} (hv : numP neg ds = some v) :
    Spec Tryz.prog 57 [.string (bs (minusS neg ++ ds)), .int .i64 10, .int .i64 64] [] [] (fun _ : Unit => .tuple #[.int .i64 v, .nilIface]) (fun _ => []) (fun _ => []) :=
  spec_below fun _ w _ _ => by
    have hp := parse_digits (neg := neg) hne hd
    rw [hv] at hp
    refine (Tryz.strconv_ParseInt_10_at64_ok (bs (minusS neg ++ ds)) (by rw [bs_size]; unfold minusS; cases neg <;> simp <;> omega) v hp w).mono ?_
    rintro e w' ⟨rfl, h⟩
    refine ⟨rfl, ?_⟩
    rcases h with rfl | ⟨t, rfl⟩
    · exact Below.refl _ _
    · exact Joins.below_bytesWorld _ _ _ _ (Nat.le_refl _)
theorem parseInt_range (neg : Bool) (ds : Bs) (hne : ds ≠ []) (hd : ∀ b ∈ ds, digitB b = true) (hl : ds.length ≤ 140737488355328) (hv : numP neg ds = none) :
    Spec Tryz.prog 57 [.string (bs (minusS neg ++ ds)), .int .i64 10, .int .i64 64] [] [globF] (fun x : Int × Nat => .tuple #[.int .i64 x.1, .iface 154 (.pointer (some ⟨x.2, 0, none⟩))]) (fun _ => []) (fun _ => []) := fun S w s k => by
  obtain ⟨_, _, _, _, ev, h3, he⟩ := k _ (.head _)
  have hp := parse_digits (neg := neg) hne hd
  rw [hv] at hp
  refine (Tryz.strconv_ParseInt_10_at64_range (bs (minusS neg ++ ds)) (by rw [bs_size]; unfold minusS; cases neg <;> simp <;> omega) hp ev w h3 he).mono ?_
  rintro e w' ⟨N, rfl, _, _, hb⟩
  exact ⟨(_, N), S, rfl, ⟨Kept.of_below _ hb, fun c hc => by simp at hc, fun c hc => by simp at hc, List.Pairwise.nil, fun b hb' => ⟨Nat.lt_of_lt_of_le (s.zone b hb').1 hb.size, .inl hb'⟩⟩, fun g hg => by simp at hg⟩
end Go.Proofs.YtngkedmndhmjcaaGreatDoor
