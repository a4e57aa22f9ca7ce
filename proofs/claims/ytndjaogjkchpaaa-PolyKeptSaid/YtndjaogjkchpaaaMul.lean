/- Contract of poly.Mul (the product): nothing that was there is changed. -/
import Derived.Test.YtndjaogjkchpaaaBoth
namespace Go.Proofs.Ytndjaogjkchpaaa
open Go.RowKit Go.Sort
open Go.ChangeMaps (setBlock)

def mulM (a b : Mono) : Mono := ⟨wrap64 (a.n * b.n), a.e0 + b.e0, a.e1 + b.e1, a.e2 + b.e2, a.e3 + b.e3, a.e4 + b.e4, a.e5 + b.e5⟩
def mulRow (a : Mono) : List Mono → List Mono → List Mono
  | L, [] => L
  | L, b :: q => mulRow a (addTo (mulM a b) (wrap64 (a.n * b.n)) L) q
def mulAll (q : List Mono) : List Mono → List Mono → List Mono
  | L, [] => L
  | L, a :: p => mulAll q (mulRow a L q) p
def mulP (p q : List Mono) : List Mono × Int := if rightB p && rightB q then listedP (mulAll q [] p) else ([], 20)

theorem apart_mulRow (a : Mono) : ∀ (q : List Mono) {L : List Mono}, Apart L → Apart (mulRow a L q)
  | [], _, h => h
  | _ :: q, _, h => apart_mulRow a q (apart_setTo _ _ h)
theorem apart_mulAll (q : List Mono) : ∀ (p : List Mono) {L : List Mono}, Apart L → Apart (mulAll q L p)
  | [], _, h => h
  | a :: p, _, h => apart_mulAll q p (apart_mulRow a q h)

theorem MonoAt.setBlock_far {w : World} {b o r : Nat} {m : Mono} (h : MonoAt w b o m) (hne : b ≠ r) (x : Obj) : MonoAt (setBlock w r x) b o m := by
  have hc : ∀ o', (setBlock w r x).cell? ⟨b, o', none⟩ = w.cell? ⟨b, o', none⟩ := fun o' => by
    have : (w.heap.setIfInBounds r x)[b]? = w.heap[b]? := by simp [Ne.symm hne]
    simp only [World.cell?, setBlock, this]
  obtain ⟨h0, h1, h2, h3, h4, h5, h6⟩ := h
  exact ⟨(hc _).trans h0, (hc _).trans h1, (hc _).trans h2, (hc _).trans h3, (hc _).trans h4, (hc _).trans h5, (hc _).trans h6⟩

theorem MonoAt.lt {w : World} {b o : Nat} {m : Mono} (h : MonoAt w b o m) : b < w.heap.size := by
  rcases Nat.lt_or_ge b w.heap.size with hlt | hge
  · exact hlt
  · have := h.1
    simp [World.cell?, Array.getElem?_eq_none hge] at this

theorem u8_add (a b : UInt8) : ((a.toNat : Int) + (b.toNat : Int)) % 256 = ((a + b).toNat : Int) := by
  rw [UInt8.toNat_add]
  omega

/-- an array of exponents lies at a block's head -/
def ExpAt (w : World) (b : Nat) (m : Mono) : Prop :=
  w.cell? ⟨b, 0, none⟩ = some (.int .u8 m.e0.toNat) ∧ w.cell? ⟨b, 1, none⟩ = some (.int .u8 m.e1.toNat) ∧ w.cell? ⟨b, 2, none⟩ = some (.int .u8 m.e2.toNat) ∧
  w.cell? ⟨b, 3, none⟩ = some (.int .u8 m.e3.toNat) ∧ w.cell? ⟨b, 4, none⟩ = some (.int .u8 m.e4.toNat) ∧ w.cell? ⟨b, 5, none⟩ = some (.int .u8 m.e5.toNat)

set_option maxRecDepth 100000 in
set_option maxHeartbeats 2000000 in
theorem mul_any (A B : Option Addr) (c d : Nat) (p q : List Mono) (w : World) (ha : Monos w A p) (hb : Monos w B q) (hp : p.length ≤ 140737488355328) (hq : q.length ≤ 140737488355328) :
    Calls Try.prog 13 #[.slice A p.length c, .slice B q.length d] w (Gives w (mulP p q)) := by
  have Ha := Lib.hid ha
  have Hb := Lib.hid hb
  clear ha hb
  cases hrp : rightB p
  · have e : mulP p q = ([], 20) := by unfold mulP; rw [hrp]; rfl
    rw [e]
    go_enter Try.func13, Try.ntmps13
    go_wp2_with (go_at_call 18; refine (right_any A c p _ Ha.out hp).mono ?_; rintro e w1 ⟨rfl, hb1⟩)
    go_ret2
    exact ⟨_, rfl, hb1, Res.nil _ _ _ _⟩
  · cases hrq : rightB q
    · have e : mulP p q = ([], 20) := by unfold mulP; rw [hrp, hrq]; rfl
      rw [e]
      go_enter Try.func13, Try.ntmps13
      go_wp2_with fail
      refine (right_any A c p _ Ha.out hp).mono ?_
      rintro e w1 ⟨rfl, hb1⟩
      have H1 := Lib.hid hb1
      clear hb1
      go_wp2_with fail
      refine (right_any B d q _ (Hb.out.below H1.out) hq).mono ?_
      rintro e w2 ⟨rfl, hb2⟩
      have H2 := Lib.hid (show Below w.heap.size w w2 from H1.out.trans (hb2.mono H1.out.size))
      clear hb2
      go_wp2
      go_ret2
      exact ⟨_, rfl, H2.out, Res.nil _ _ _ _⟩
    · have e : mulP p q = listedP (mulAll q [] p) := by unfold mulP; rw [hrp, hrq]; rfl
      rw [e]
      have hp48 : p.length ≤ 48 := by
        unfold rightB at hrp
        simp at hrp
        exact hrp.1
      have hq48 : q.length ≤ 48 := by
        unfold rightB at hrq
        simp at hrq
        exact hrq.1
      have hmm := @run_makeMap Try.prog
      go_enter Try.func13, Try.ntmps13
      go_wp2_with fail
      refine (right_any A c p _ Ha.out hp).mono ?_
      rintro e w1 ⟨rfl, hb1⟩
      have H1 := Lib.hid hb1
      clear hb1
      go_wp2_with fail
      refine (right_any B d q _ (Hb.out.below H1.out) hq).mono ?_
      rintro e w2 ⟨rfl, hb2⟩
      have H2 := Lib.hid (show Below w.heap.size w w2 from H1.out.trans (hb2.mono H1.out.size))
      clear hb2 H1
      go_wp2
      generalize hr : w2.heap.size = r
      have hrw : w.heap.size ≤ r := by have := H2.out.size; omega
      have hm0 : MapIs (w2.alloc (.map #[] 0)) r [] := by rw [← hr]; exact MapIs.new _
      have hb0 : Below w.heap.size w (w2.alloc (.map #[] 0)) := H2.out.alloc H2.out.size _
      have HM0 := Lib.hid hm0
      have HB0 := Lib.hid hb0
      clear hm0 hb0 hr H2
      go_loopw [24] (fun i wr => ∃ (k : Nat) (L : List Mono), k ≤ p.length ∧ i = .int .i64 k ∧ MapIs wr r L ∧ L.length ≤ k * 48 ∧ Hid (mulAll q [] p = mulAll q L (p.drop k)) ∧ Below w.heap.size w wr) (fun i _ => p.length - (intOf i).toNat)
      case atStart => exact ⟨0, [], Nat.zero_le _, rfl, HM0.out, by simp, rfl, HB0.out⟩
      case round =>
        obtain ⟨k, L, hk, rfl, hm, hLk, hL, hbl⟩ := hrel
        have HM := Lib.hid hm
        clear hm
        by_cases hlt : k < p.length
        · obtain ⟨a, hm, dm⟩ := drop_cons hlt
          obtain ⟨b, o, rfl, hB, c0, c1, c2, c3, c4, c5, c6⟩ := Ha.out.below hbl k a hm
          have q0 : MonoAt (wr.alloc (.cells #[.int .i64 a.n, .int .u8 a.e0.toNat, .int .u8 a.e1.toNat, .int .u8 a.e2.toNat, .int .u8 a.e3.toNat, .int .u8 a.e4.toNat, .int .u8 a.e5.toNat] 39)) wr.heap.size 0 a := by simp [MonoAt, go_sem]
          have hrx : r < wr.heap.size := by obtain ⟨es, cl, h, _⟩ := HM.out; exact (Array.getElem?_eq_some_iff.1 h).1
          have Q0 := Lib.hid q0
          have HM1 := Lib.hid (HM.out.alloc (.cells #[.int .i64 a.n, .int .u8 a.e0.toNat, .int .u8 a.e1.toNat, .int .u8 a.e2.toNat, .int .u8 a.e3.toNat, .int .u8 a.e4.toNat, .int .u8 a.e5.toNat] 39))
          have HB1 := Lib.hid (hbl.alloc hbl.size (.cells #[.int .i64 a.n, .int .u8 a.e0.toNat, .int .u8 a.e1.toNat, .int .u8 a.e2.toNat, .int .u8 a.e3.toNat, .int .u8 a.e4.toNat, .int .u8 a.e5.toNat] 39))
          have HL := Lib.hid (show mulAll q [] p = mulAll q (mulRow a L q) (p.drop (k + 1)) by rw [hL.out, dm, mulAll])
          clear q0 hm dm hB HM hL
          go_wp2
          clear c0 c1 c2 c3 c4 c5 c6
          generalize wr.heap.size = X at Q0 hrx ⊢
          generalize wr.alloc (.cells #[.int .i64 a.n, .int .u8 a.e0.toNat, .int .u8 a.e1.toNat, .int .u8 a.e2.toNat, .int .u8 a.e3.toNat, .int .u8 a.e4.toNat, .int .u8 a.e5.toNat] 39) = W0 at Q0 HM1 HB1 ⊢
          clear hbl
          go_loopw [30] (fun i wi => ∃ (j : Nat) (T : List Mono), j ≤ q.length ∧ i = .int .i64 j ∧ MapIs wi r T ∧ T.length ≤ k * 48 + j ∧ Hid (mulRow a L q = mulRow a T (q.drop j)) ∧ Below w.heap.size w wi ∧ MonoAt wi X 0 a) (fun i _ => q.length - (intOf i).toNat)
          case atStart => exact ⟨0, L, Nat.zero_le _, rfl, HM1.out, by omega, rfl, HB1.out, Q0.out⟩
          case round =>
            obtain ⟨j, T, hj, rfl, hm, hTk, hT, hbl, ha0⟩ := hrel
            have HMT := Lib.hid hm
            have HA0 := Lib.hid ha0
            clear hm ha0 HM1 HB1 Q0
            by_cases hlt2 : j < q.length
            · obtain ⟨b', hm, dm⟩ := drop_cons hlt2
              obtain ⟨g, o', rfl, hB, d0, d1, d2, d3, d4, d5, d6⟩ := Hb.out.below hbl j b' hm
              obtain ⟨a0, a1, a2, a3, a4, a5, a6⟩ := HA0.out.zero
              have hX : X < wr.heap.size := MonoAt.lt HA0.out
              obtain ⟨t, ht⟩ : ∃ t, t = mulM a b' := ⟨_, rfl⟩
              have HT := Lib.hid (show mulRow a L q = mulRow a (addTo t (wrap64 (a.n * b'.n)) T) (q.drop (j + 1)) by rw [hT.out, dm, mulRow, ht])
              have s0 : ((a.e0.toNat : Int) + (b'.e0.toNat : Int)) % 256 = (t.e0.toNat : Int) := by rw [ht]; exact u8_add a.e0 b'.e0
              have s1 : ((a.e1.toNat : Int) + (b'.e1.toNat : Int)) % 256 = (t.e1.toNat : Int) := by rw [ht]; exact u8_add a.e1 b'.e1
              have s2 : ((a.e2.toNat : Int) + (b'.e2.toNat : Int)) % 256 = (t.e2.toNat : Int) := by rw [ht]; exact u8_add a.e2 b'.e2
              have s3 : ((a.e3.toNat : Int) + (b'.e3.toNat : Int)) % 256 = (t.e3.toNat : Int) := by rw [ht]; exact u8_add a.e3 b'.e3
              have s4 : ((a.e4.toNat : Int) + (b'.e4.toNat : Int)) % 256 = (t.e4.toNat : Int) := by rw [ht]; exact u8_add a.e4 b'.e4
              have s5 : ((a.e5.toNat : Int) + (b'.e5.toNat : Int)) % 256 = (t.e5.toNat : Int) := by rw [ht]; exact u8_add a.e5 b'.e5
              have S0 := Lib.hid s0
              have S1 := Lib.hid s1
              have S2 := Lib.hid s2
              have S3 := Lib.hid s3
              have S4 := Lib.hid s4
              have S5 := Lib.hid s5
              have HBL := Lib.hid hbl
              clear hm dm hT ht s0 s1 s2 s3 s4 s5 hbl hB
              go_wp2
              clear d0 d1 d2 d3 d4 d5 d6
              refine wp_loop_rounds 7 ?_
              rw [rounds_succ]
              go_wp2
              go_region
              go_wp2
              rw [rounds_succ]
              go_wp2
              go_region
              go_wp2
              rw [rounds_succ]
              go_wp2
              go_region
              go_wp2
              rw [rounds_succ]
              go_wp2
              go_region
              go_wp2
              rw [rounds_succ]
              go_wp2
              go_region
              go_wp2
              rw [rounds_succ]
              go_wp2
              go_region
              go_wp2
              rw [rounds_succ]
              go_wp2
              rw [S0.out, S1.out, S2.out, S3.out, S4.out, S5.out]
              have kE : ExpAt ((wr.alloc (.cells #[.int .i64 b'.n, .int .u8 b'.e0.toNat, .int .u8 b'.e1.toNat, .int .u8 b'.e2.toNat, .int .u8 b'.e3.toNat, .int .u8 b'.e4.toNat, .int .u8 b'.e5.toNat] 39)).alloc (.cells #[.int .u8 t.e0.toNat, .int .u8 t.e1.toNat, .int .u8 t.e2.toNat, .int .u8 t.e3.toNat, .int .u8 t.e4.toNat, .int .u8 t.e5.toNat] 37)).drew.drew.drew.drew.drew.drew (wr.heap.size + 1) t := by simp [ExpAt, go_sem]
              have kB : MonoAt ((wr.alloc (.cells #[.int .i64 b'.n, .int .u8 b'.e0.toNat, .int .u8 b'.e1.toNat, .int .u8 b'.e2.toNat, .int .u8 b'.e3.toNat, .int .u8 b'.e4.toNat, .int .u8 b'.e5.toNat] 39)).alloc (.cells #[.int .u8 t.e0.toNat, .int .u8 t.e1.toNat, .int .u8 t.e2.toNat, .int .u8 t.e3.toNat, .int .u8 t.e4.toNat, .int .u8 t.e5.toNat] 37)).drew.drew.drew.drew.drew.drew wr.heap.size 0 b' := by simp [MonoAt, go_sem]
              have kX : Below wr.heap.size wr ((wr.alloc (.cells #[.int .i64 b'.n, .int .u8 b'.e0.toNat, .int .u8 b'.e1.toNat, .int .u8 b'.e2.toNat, .int .u8 b'.e3.toNat, .int .u8 b'.e4.toNat, .int .u8 b'.e5.toNat] 39)).alloc (.cells #[.int .u8 t.e0.toNat, .int .u8 t.e1.toNat, .int .u8 t.e2.toNat, .int .u8 t.e3.toNat, .int .u8 t.e4.toNat, .int .u8 t.e5.toNat] 37)).drew.drew.drew.drew.drew.drew := by go_grown
              have kA := HA0.out.below kX hX
              have kM : MapIs ((wr.alloc (.cells #[.int .i64 b'.n, .int .u8 b'.e0.toNat, .int .u8 b'.e1.toNat, .int .u8 b'.e2.toNat, .int .u8 b'.e3.toNat, .int .u8 b'.e4.toNat, .int .u8 b'.e5.toNat] 39)).alloc (.cells #[.int .u8 t.e0.toNat, .int .u8 t.e1.toNat, .int .u8 t.e2.toNat, .int .u8 t.e3.toNat, .int .u8 t.e4.toNat, .int .u8 t.e5.toNat] 37)).drew.drew.drew.drew.drew.drew r T := (HMT.out.alloc _).alloc _
              have kW := HBL.out.trans (kX.mono HBL.out.size)
              have KE := Lib.hid kE
              have KB := Lib.hid kB
              have KA := Lib.hid kA
              have KM := Lib.hid kM
              have KW := Lib.hid kW
              clear kE kB kX kA kM kW a0 a1 a2 a3 a4 a5 a6 S0 S1 S2 S3 S4 S5 HMT HBL HA0 hX
              generalize ((wr.alloc (.cells #[.int .i64 b'.n, .int .u8 b'.e0.toNat, .int .u8 b'.e1.toNat, .int .u8 b'.e2.toNat, .int .u8 b'.e3.toNat, .int .u8 b'.e4.toNat, .int .u8 b'.e5.toNat] 39)).alloc (.cells #[.int .u8 t.e0.toNat, .int .u8 t.e1.toNat, .int .u8 t.e2.toNat, .int .u8 t.e3.toNat, .int .u8 t.e4.toNat, .int .u8 t.e5.toNat] 37)).drew.drew.drew.drew.drew.drew = W5 at KE KB KA KM KW ⊢
              generalize wr.heap.size = Y at KE KB ⊢
              obtain ⟨x0, x1, x2, x3, x4, x5⟩ := KE.out
              obtain ⟨y0, y1, y2, y3, y4, y5, y6⟩ := KB.out.zero
              obtain ⟨z0, z1, z2, z3, z4, z5, z6⟩ := KA.out.zero
              have hlk := run_lookup_map t KM.out.drew
              obtain ⟨v0, st, w3, w4, hme, hlk1, hes, hm4, o4, hw4⟩ := entry_store t (wrap64 (coef t T + wrap64 (a.n * b'.n))) KM.out.drew
              have HM4 := Lib.hid hm4
              have HB4 := Lib.hid (show Below w.heap.size w w4 by rw [hw4]; exact below_setBlock KW.out.drew hrw _)
              have HA4 := Lib.hid (show MonoAt w4 X 0 a by rw [hw4]; exact MonoAt.setBlock_far (show MonoAt W5.drew X 0 a from KA.out) (by omega) _)
              clear hm4 hw4 KE KB KA KM KW
              go_region
              clear hlk hme hlk1 hes x0 x1 x2 x3 x4 x5 y0 y1 y2 y3 y4 y5 y6 z0 z1 z2 z3 z4 z5 z6
              go_wp2
              go_roundw
              case rel => exact ⟨j + 1, addTo t (wrap64 (a.n * b'.n)) T, by omega, by go_num, HM4.out, Nat.le_trans (length_setTo _ _ _) (by omega), HT, HB4.out, HA4.out⟩
              case measure => simp [intOf]; omega
            · have HT := Lib.hid (show mulAll q [] p = mulAll q T (p.drop (k + 1)) by rw [HL.out, hT.out, List.drop_of_length_le (by omega), mulRow])
              have HBL := Lib.hid hbl
              have hT2 : T.length ≤ (k + 1) * 48 := by omega
              clear hT hbl HL HA0
              go_wp2
              go_roundw
              case rel => exact ⟨k + 1, T, by omega, by go_num, HMT.out, hT2, HT, HBL.out⟩
              case measure => simp [intOf]; omega
        · have HT := Lib.hid (show mulAll q [] p = L by rw [hL.out, List.drop_of_length_le (by omega), mulAll])
          have HBL := Lib.hid hbl
          have hT96 : L.length ≤ 1000000 := by omega
          clear hL hbl
          go_wp2_with fail
          refine (listed_any r L _ HM.out (by rw [← HT.out]; exact apart_mulAll _ _ List.Pairwise.nil) hT96).mono ?_
          rintro e w5 ⟨v, rfl, hb5, hv⟩
          have HV := Lib.hid (hv.mono HBL.out.size)
          have HB5 := Lib.hid (HBL.out.trans (hb5.mono HBL.out.size))
          clear hb5 hv
          go_wp2
          go_ret2
          rw [HT.out]
          exact ⟨_, rfl, HB5.out, HV.out⟩

end Go.Proofs.Ytndjaogjkchpaaa
