/- Contract of poly.Eval: the value where the variables are these, or an error; nothing that was there is changed. -/
import Derived.Test.YtndjaogjkchpaaaValue
import Derived.Test.YtndjaogjkchpaaaRight
namespace Go.Proofs.Ytndjaogjkchpaaa
open Go.RowKit

/-- a slice's address leads to a list of numbers -/
def Ints (w : World) (A : Option Addr) (l : List Int) : Prop :=
  ∀ (k : Nat) (d : Int), l[k]? = some d → ∃ b o, A = some ⟨b, o, none⟩ ∧ b < w.heap.size ∧ w.cell? ⟨b, o + k, none⟩ = some (.int .i64 d)

theorem Ints.below {w w' : World} {A : Option Addr} {l : List Int} (h : Ints w A l) (hb : Below w.heap.size w w') : Ints w' A l := fun k d hk => by
  obtain ⟨b, o, e, hB, hm⟩ := h k d hk
  exact ⟨b, o, e, Nat.lt_of_lt_of_le hB hb.size, (hb.cell (p := ⟨b, o + k, none⟩) hB).trans hm⟩

def sideOk (d : Int) : Bool := decide (0 ≤ d ∧ d ≤ 2147483648)
def dimsB (ds : List Int) : Bool := decide (ds.length ≤ 6) && ds.all sideOk

/-- the sum of the sizes so far, the value so far -/
def evalL (D : Nat → Int) : List Mono → Int → Int → Option Int
  | [], _, sum => some sum
  | m :: l, size, sum =>
    if (valueP m D).2 = false ∨ maxV - size < (valueP m D).1 then none
    else evalL D l (size + (valueP m D).1) (if m.n < 0 then sum - (valueP m D).1 else sum + (valueP m D).1)

def dimAt (ds : List Int) (k : Nat) : Int := ds.getD k 0

def evalP (p : List Mono) (ds : List Int) : Int × Int :=
  if rightB p then if dimsB ds then match evalL (dimAt ds) p 0 0 with
    | some n => (n, 0)
    | none => (0, 22)
  else (0, 23) else (0, 20)

/-- six numbers of the call's own -/
def SixOwn (w : World) (b : Nat) (D : Nat → Int) : Prop := b < w.heap.size ∧ ∀ k, k < 6 → w.cell? ⟨b, k, none⟩ = some (.int .i64 (D k)) ∧ w.frozen? ⟨b, k, none⟩ = false

theorem SixOwn.set {w : World} {b : Nat} {D : Nat → Int} (h : SixOwn w b D) (k : Nat) (hk : k < 6) (d : Int) : SixOwn (w.setCell ⟨b, k, none⟩ (.int .i64 d)) b (fun j => if j = k then d else D j) := by
  refine ⟨by simpa using h.1, fun j hj => ⟨?_, ?_⟩⟩
  · by_cases e : j = k
    · subst e
      dsimp only
      rw [if_pos rfl]
      exact World.cell?_setCell_same w ⟨b, j, none⟩ _ (h.2 j hj).1
    · dsimp only
      rw [if_neg e, World.cell?_setCell_other w _ _ _ (by intro h; injection h with _ h; exact e h.symm)]
      exact (h.2 j hj).1
  · rw [World.frozen?_setCell]
    exact (h.2 j hj).2

theorem take_dim {ds : List Int} {k : Nat} {d : Int} (h : ds[k]? = some d) : (fun j => if j = k then d else dimAt (ds.take k) j) = dimAt (ds.take (k + 1)) := by
  funext j
  have hk : k < ds.length := (List.getElem?_eq_some_iff.1 h).1
  have hd : ds[k] = d := (List.getElem?_eq_some_iff.1 h).2
  unfold dimAt
  rw [List.take_succ_eq_append_getElem hk, hd]
  simp only [List.getD_eq_getElem?_getD]
  have hl : (ds.take k).length = k := by simp; omega
  by_cases e : j = k
  · subst e
    rw [if_pos rfl, List.getElem?_append_right (by omega), hl]
    simp
  · rw [if_neg e]
    by_cases e2 : j < k
    · rw [List.getElem?_append_left (by omega)]
    · rw [List.getElem?_eq_none (by omega), List.getElem?_eq_none (by simp; omega)]

theorem powD_nonneg {d : Int} (hd : 0 ≤ d) : ∀ (e : Nat) (n r : Int), 0 ≤ n → powD d e n = some r → 0 ≤ r
  | 0, n, r, hn, h => by simp [powD] at h; omega
  | e + 1, n, r, hn, h => by
    unfold powD at h
    split at h
    · cases h
    · exact powD_nonneg hd e (n * d) r (Int.mul_nonneg hn hd) h

theorem mulD_nonneg : ∀ (l : List (UInt8 × Int)) (n r : Int), (∀ x ∈ l, 0 ≤ x.2) → 0 ≤ n → mulD l n = some r → 0 ≤ r
  | [], n, r, _, hn, h => by simp [mulD] at h; omega
  | x :: l, n, r, hl, hn, h => by
    unfold mulD at h
    cases hp : powD x.2 x.1.toNat n with
    | none => rw [hp] at h; cases h
    | some y =>
      rw [hp] at h
      exact mulD_nonneg l y r (fun z hz => hl z (by simp [hz])) (powD_nonneg (hl x (by simp)) _ _ _ hn hp) h

theorem value_nonneg (m : Mono) (D : Nat → Int) (hD : ∀ k, 0 ≤ D k) : 0 ≤ (valueP m D).1 := by
  unfold valueP
  split
  · simp
  · split
    · rename_i n hn
      refine mulD_nonneg _ _ _ (fun x hx => ?_) (by omega) hn
      simp only [pairs, List.mem_cons, List.not_mem_nil, or_false] at hx
      rcases hx with rfl | rfl | rfl | rfl | rfl | rfl <;> exact hD _
    · simp

theorem right_small : ∀ {o : Option Mono} {l : List Mono}, rightFrom o l = true → ∀ m ∈ l, smallB m = true
  | _, [], _, m, hm => by simp at hm
  | none, a :: l, h, m, hm => by
    simp only [rightFrom, Bool.and_eq_true] at h
    rcases List.mem_cons.1 hm with rfl | hm
    · exact h.1
    · exact right_small h.2 m hm
  | some b, a :: l, h, m, hm => by
    simp only [rightFrom, Bool.and_eq_true] at h
    rcases List.mem_cons.1 hm with rfl | hm
    · exact h.1
    · exact right_small h.2.2 m hm

theorem SixOwn.below {w w' : World} {b : Nat} {D : Nat → Int} (h : SixOwn w b D) (hb : Below w.heap.size w w') : SixOwn w' b D :=
  ⟨Nat.lt_of_lt_of_le h.1 hb.size, fun k hk => ⟨(hb.cell (p := ⟨b, k, none⟩) h.1).trans (h.2 k hk).1, (hb.frozen (p := ⟨b, k, none⟩) h.1).trans (h.2 k hk).2⟩⟩

theorem dimAt_ok {ds : List Int} (h : ds.all sideOk = true) : ∀ k, 0 ≤ dimAt ds k ∧ dimAt ds k ≤ 2147483648 := fun k => by
  unfold dimAt
  rw [List.getD_eq_getElem?_getD]
  cases hk : ds[k]? with
  | none => simp
  | some d =>
    have hd : d ∈ ds := List.mem_of_getElem? hk
    have := List.all_eq_true.1 h d hd
    simpa [sideOk] using this

set_option maxRecDepth 100000 in
set_option maxHeartbeats 1000000 in
theorem eval_any (A B : Option Addr) (c d : Nat) (p : List Mono) (ds : List Int) (w : World) (ha : Monos w A p) (hb : Ints w B ds) (hp : p.length ≤ 140737488355328) (hq : ds.length ≤ 140737488355328) :
    Calls Try.prog 16 #[.slice A p.length c, .slice B ds.length d] w fun e w' => e = .returned (.tuple #[.int .i64 (evalP p ds).1, .int .i64 (evalP p ds).2]) ∧ Below w.heap.size w w' := by
  have Ha := Lib.hid ha
  have Hb := Lib.hid hb
  clear ha hb
  cases hrp : rightB p
  · have e : evalP p ds = (0, 20) := by unfold evalP; rw [hrp]; rfl
    rw [e]
    go_enter Try.func16, Try.ntmps16
    go_wp2_with (go_at_call 18; refine (right_any A c p _ Ha.out hp).mono ?_; rintro e w1 ⟨rfl, hb1⟩)
    go_ret2
    exact ⟨rfl, hb1⟩
  · go_enter Try.func16, Try.ntmps16
    go_wp2_with fail
    refine (right_any A c p _ Ha.out hp).mono ?_
    rintro e w1 ⟨rfl, hb1⟩
    have H1 := Lib.hid hb1
    clear hb1
    go_wp2
    have s0 : SixOwn (w1.alloc (.cells #[.int .i64 0, .int .i64 0, .int .i64 0, .int .i64 0, .int .i64 0, .int .i64 0] 50)) w1.heap.size (dimAt (ds.take 0)) := by
      refine ⟨by simp, fun k hk => ?_⟩
      rcases k with _ | _ | _ | _ | _ | _ | k
      all_goals first | omega | simp [go_sem, dimAt]
    have b0 : Below w.heap.size w (w1.alloc (.cells #[.int .i64 0, .int .i64 0, .int .i64 0, .int .i64 0, .int .i64 0, .int .i64 0] 50)) := H1.out.alloc H1.out.size _
    have hXw : w.heap.size ≤ w1.heap.size := H1.out.size
    have S0 := Lib.hid s0
    have B0 := Lib.hid b0
    clear s0 b0 H1
    generalize w1.alloc (.cells #[.int .i64 0, .int .i64 0, .int .i64 0, .int .i64 0, .int .i64 0, .int .i64 0] 50) = W0 at S0 B0 ⊢
    generalize w1.heap.size = X at S0 hXw ⊢
    go_loopw [20] (fun i wr => ∃ k : Nat, k ≤ ds.length ∧ k ≤ 6 ∧ i = .int .i64 k ∧ SixOwn wr X (dimAt (ds.take k)) ∧ Hid (ds.all sideOk = (ds.drop k).all sideOk) ∧ Below w.heap.size w wr) (fun i _ => ds.length - (intOf i).toNat)
    case atStart => exact ⟨0, Nat.zero_le _, by omega, rfl, S0.out, rfl, B0.out⟩
    case round =>
      obtain ⟨k, hk, hk6, rfl, hsix, hall, hbl⟩ := hrel
      have HSix := Lib.hid hsix
      have HBL := Lib.hid hbl
      clear hsix hbl S0 B0
      by_cases hlt : k < ds.length
      · obtain ⟨x, hx⟩ : ∃ x, ds[k]? = some x := ⟨ds[k], List.getElem?_eq_getElem hlt⟩
        have dm : ds.drop k = x :: ds.drop (k + 1) := by
          rw [List.drop_eq_getElem_cons hlt]
          have := (List.getElem?_eq_some_iff.1 hx).2
          rw [this]
        obtain ⟨b, o, rfl, hB, c0⟩ := Hb.out.below HBL.out k x hx
        have HAll := Lib.hid (show ds.all sideOk = (sideOk x && (ds.drop (k + 1)).all sideOk) by rw [hall.out, dm, List.all_cons])
        have HTk := Lib.hid (take_dim hx)
        clear dm hx hall hB
        by_cases h6 : k = 6
        · have h61 : decide ((6 : Int) ≤ (k : Int)) = true := by simp; omega
          have e : evalP p ds = (0, 23) := by
            unfold evalP
            rw [hrp, show dimsB ds = false by unfold dimsB; rw [decide_eq_false (by omega)]; rfl]
            rfl
          have He := Lib.hid e
          clear e h6
          go_wp2
          go_ret2
          rw [He.out]
          exact ⟨rfl, HBL.out⟩
        · have h61 : decide ((6 : Int) ≤ (k : Int)) = false := by simp; omega
          cases hs : sideOk x
          · have e : evalP p ds = (0, 23) := by
              unfold evalP
              rw [hrp, show dimsB ds = false by unfold dimsB; rw [HAll.out, hs]; simp]
              rfl
            have He := Lib.hid e
            clear e h6
            have hs' : x < 0 ∨ 2147483648 < x := by
              have := of_decide_eq_false hs
              omega
            rcases Int.lt_or_le x 0 with hx0 | hx0
            · have t1 : decide (x < 0) = true := by simpa using hx0
              go_wp2
              go_ret2
              rw [He.out]
              exact ⟨rfl, HBL.out⟩
            · have t1 : decide (x < 0) = false := by simpa using hx0
              have t2 : decide (2147483648 < x) = true := by simp; omega
              go_wp2
              go_ret2
              rw [He.out]
              exact ⟨rfl, HBL.out⟩
          · have hs' : 0 ≤ x ∧ x ≤ 2147483648 := of_decide_eq_true hs
            have t1 : decide (x < 0) = false := by simp; omega
            have t2 : decide (2147483648 < x) = false := by simp; omega
            obtain ⟨hcell, hfro⟩ := HSix.out.2 k (by omega)
            have HA2 := Lib.hid (show ds.all sideOk = (ds.drop (k + 1)).all sideOk by rw [HAll.out, hs, Bool.true_and])
            have HS2 := Lib.hid (show SixOwn (wr.setCell ⟨X, k, none⟩ (.int .i64 x)) X (dimAt (ds.take (k + 1))) by rw [← HTk.out]; exact HSix.out.set k (by omega) x)
            have HB2 := Lib.hid (show Below w.heap.size w (wr.setCell ⟨X, k, none⟩ (.int .i64 x)) from HBL.out.setCell hXw _)
            clear HAll HTk HSix HBL hs'
            go_wp2
            go_roundw
            case rel => exact ⟨k + 1, by omega, by omega, by go_num, HS2.out, HA2, HB2.out⟩
            case measure => simp [intOf]; omega
      · have hall1 : ds.all sideOk = true := by rw [hall.out, List.drop_of_length_le (by omega)]; rfl
        have HD := Lib.hid (dimAt_ok hall1)
        have He := Lib.hid (show evalP p ds = match evalL (dimAt ds) p 0 0 with | some n => (n, 0) | none => (0, 22) by
          unfold evalP
          rw [hrp, show dimsB ds = true by unfold dimsB; rw [hall1, decide_eq_true (by omega)]; rfl]
          rfl)
        have HS := Lib.hid (show SixOwn wr X (dimAt ds) by have := HSix.out; rw [List.take_of_length_le (by omega)] at this; exact this)
        have HRP := Lib.hid (show ∀ m ∈ p, smallB m = true by
          unfold rightB at hrp
          simp only [Bool.and_eq_true] at hrp
          exact right_small hrp.2)
        clear hall hall1 HSix
        generalize dimAt ds = D at HD He HS ⊢
        go_wp2
        go_loopw [41, 9, 10] (fun i sm sz wi => ∃ (j : Nat) (size sum : Int), j ≤ p.length ∧ i = .int .i64 j ∧ sm = .int .i64 sum ∧ sz = .int .i64 size ∧ Hid (0 ≤ size ∧ size ≤ maxV ∧ -size ≤ sum ∧ sum ≤ size) ∧ Hid (evalL D p 0 0 = evalL D (p.drop j) size sum) ∧ SixOwn wi X D ∧ Below w.heap.size w wi) (fun i _ _ _ => p.length - (intOf i).toNat)
        case atStart => exact ⟨0, 0, 0, Nat.zero_le _, rfl, rfl, rfl, ⟨by omega, by unfold maxV; omega, by omega, by omega⟩, rfl, HS.out, HBL.out⟩
        case round =>
          obtain ⟨j, size, sum, hj, rfl, rfl, rfl, hbd, hev, hsix, hbl⟩ := hrel
          have HS2 := Lib.hid hsix
          have HB2 := Lib.hid hbl
          clear hsix hbl HS HBL
          by_cases hlt2 : j < p.length
          · obtain ⟨m, hm, dm⟩ := drop_cons hlt2
            obtain ⟨b, o, rfl, hB, c0, c1, c2, c3, c4, c5, c6⟩ := Ha.out.below HB2.out j m hm
            have hsm : smallB m = true := HRP.out m (List.mem_of_getElem? hm)
            have hsm' : m.n ≠ 0 ∧ m.n ≤ 16777216 ∧ -16777216 ≤ m.n ∧ m.deg ≤ 8 := of_decide_eq_true hsm
            have HV := Lib.hid (value_nonneg m D (fun k => (HD.out k).1))
            have HE := Lib.hid (show evalL D p 0 0 = if (valueP m D).2 = false ∨ maxV - size < (valueP m D).1 then none
                else evalL D (p.drop (j + 1)) (size + (valueP m D).1) (if m.n < 0 then sum - (valueP m D).1 else sum + (valueP m D).1) by rw [hev.out, dm, evalL])
            have hX : X < wr.heap.size := HS2.out.1
            have x0 := (HS2.out.2 0 (by omega)).1
            have x1 := (HS2.out.2 1 (by omega)).1
            have x2 := (HS2.out.2 2 (by omega)).1
            have x3 := (HS2.out.2 3 (by omega)).1
            have x4 := (HS2.out.2 4 (by omega)).1
            have x5 := (HS2.out.2 5 (by omega)).1
            have Hval := Lib.hid (fun W => value_any m D W HD.out ⟨hsm'.2.2.1, hsm'.2.1⟩)
            have hS3 : ∀ o, SixOwn (wr.alloc o) X D := fun o => HS2.out.below ((Below.refl _ _).alloc (Nat.le_refl _) _)
            have HS3 := Lib.hid hS3
            have HB3 := Lib.hid (show ∀ o, Below w.heap.size w (wr.alloc o) from fun o => HB2.out.alloc HB2.out.size o)
            clear hm dm hB hsm hsm' hev hS3 HS2 HB2
            go_wp2_with fail
            refine (Hval.out _).mono ?_
            rintro e w5 ⟨rfl, hb5⟩
            have q0 : MonoAt w5 wr.heap.size 0 m := MonoAt.below (w := wr.alloc (.cells #[.int .i64 m.n, .int .u8 m.e0.toNat, .int .u8 m.e1.toNat, .int .u8 m.e2.toNat, .int .u8 m.e3.toNat, .int .u8 m.e4.toNat, .int .u8 m.e5.toNat] 39)) (by simp [MonoAt, go_sem]) hb5 (by simp)
            have HS5 := Lib.hid ((HS3.out _).below hb5)
            have HB5 := Lib.hid ((HB3.out _).trans (hb5.mono (HB3.out _).size))
            have n0 := q0.zero.1
            clear hb5 q0 c0 c1 c2 c3 c4 c5 c6 x0 x1 x2 x3 x4 x5 hX Hval HS3 HB3
            generalize valueP m D = v at HV HE ⊢
            obtain ⟨n, ok⟩ := v
            simp only at HV HE ⊢
            cases ok
            · have e : evalP p ds = (0, 22) := by rw [He.out, HE.out, if_pos (.inl rfl)]
              have He2 := Lib.hid e
              clear e HE
              go_wp2
              go_ret2
              rw [He2.out]
              exact ⟨rfl, HB5.out⟩
            · obtain ⟨g0, g1, g2, g3⟩ := hbd.out
              have gn : 0 ≤ n := HV.out
              unfold maxV at g1
              by_cases hq : maxV - size < n
              · have hq1 : decide (4611686018427387904 - size < n) = true := by simpa [maxV] using hq
                have e : evalP p ds = (0, 22) := by rw [He.out, HE.out, if_pos (.inr hq)]
                have He2 := Lib.hid e
                clear e HE hq
                go_wp2
                go_ret2
                rw [He2.out]
                exact ⟨rfl, HB5.out⟩
              · have hq1 : decide (4611686018427387904 - size < n) = false := by simpa [maxV] using hq
                have hq2 : size + n ≤ 4611686018427387904 := by unfold maxV at hq; omega
                by_cases hneg : m.n < 0
                · have HE2 := Lib.hid (show evalL D p 0 0 = evalL D (p.drop (j + 1)) (size + n) (sum - n) by rw [HE.out, if_neg (by intro h; rcases h with h | h; exact absurd h (by simp); exact hq h), if_pos hneg])
                  have hneg1 : decide (m.n < 0) = true := by simpa using hneg
                  clear HE hq
                  go_wp2
                  go_roundw
                  case rel => exact ⟨j + 1, size + n, sum - n, by omega, by go_num, by go_num, by go_num, ⟨by omega, by unfold maxV; omega, by omega, by omega⟩, HE2, HS5.out, HB5.out⟩
                  case measure => simp [intOf]; omega
                · have HE2 := Lib.hid (show evalL D p 0 0 = evalL D (p.drop (j + 1)) (size + n) (sum + n) by rw [HE.out, if_neg (by intro h; rcases h with h | h; exact absurd h (by simp); exact hq h), if_neg hneg])
                  have hneg1 : decide (m.n < 0) = false := by simpa using hneg
                  clear HE hq
                  go_wp2
                  go_roundw
                  case rel => exact ⟨j + 1, size + n, sum + n, by omega, by go_num, by go_num, by go_num, ⟨by omega, by unfold maxV; omega, by omega, by omega⟩, HE2, HS5.out, HB5.out⟩
                  case measure => simp [intOf]; omega
          · have e : evalP p ds = (sum, 0) := by rw [He.out, hev.out, List.drop_of_length_le (by omega), evalL]
            have He2 := Lib.hid e
            clear e hev
            go_wp2
            go_ret2
            rw [He2.out]
            exact ⟨rfl, HB2.out⟩

end Go.Proofs.Ytndjaogjkchpaaa
