/- Contract of poly.both (the sum, the difference): nothing that was there is changed. -/
import Derived.Test.YtndjaogjkchpaaaListed
import Derived.RegionTactic
import Derived.BigRegion
namespace Go.Proofs.Ytndjaogjkchpaaa
open Go.RowKit Go.Sort
open Go.ChangeMaps (setBlock)

/-- a factor more at m's exponents -/
def addTo (m : Mono) (v : Int) (L : List Mono) : List Mono := setTo m (wrap64 (coef m L + v)) L
def addAll (g : Mono → Int) : List Mono → List Mono → List Mono
  | L, [] => L
  | L, m :: p => addAll g (addTo m (g m) L) p

def bothP (p q : List Mono) (s : Int) : List Mono × Int := if rightB p && rightB q then listedP (addAll (fun m => wrap64 (s * m.n)) (addAll Mono.n [] p) q) else ([], 20)

theorem MapIs.alloc {w : World} {r : Nat} {L : List Mono} (h : MapIs w r L) (o : Obj) : MapIs (w.alloc o) r L := by
  obtain ⟨es, clock, hb, h1, h2, h3⟩ := h
  exact ⟨es, clock, (Below.heap_alloc _ _ _ (Array.getElem?_eq_some_iff.1 hb).1).trans hb, h1, h2, h3⟩
theorem MapIs.drew {w : World} {r : Nat} {L : List Mono} (h : MapIs w r L) : MapIs w.drew r L := h
theorem MapIs.new (w : World) : MapIs (w.alloc (.map #[] 0)) w.heap.size [] := ⟨#[], 0, heap_alloc_new _ _, rfl, by simp, by simp⟩

theorem sameE_E {k m : Mono} : k.sameE m = true ↔ k.key = m.key := by
  rw [key_E]
  simp [Mono.sameE, Mono.E]

theorem mem_setTo {k y : Mono} {x : Int} : ∀ {L : List Mono}, y ∈ setTo k x L → y = { k with n := x } ∨ (y ∈ L)
  | [], h => by simp [setTo] at h; exact .inl h
  | m :: L, h => by
    unfold setTo at h
    split at h
    · rcases List.mem_cons.1 h with h | h
      · exact .inl h
      · exact .inr (by simp [h])
    · rcases List.mem_cons.1 h with h | h
      · exact .inr (by simp [h])
      · rcases mem_setTo h with h | h
        · exact .inl h
        · exact .inr (by simp [h])

theorem apart_setTo (k : Mono) (x : Int) : ∀ {L : List Mono}, Apart L → Apart (setTo k x L)
  | [], _ => by simp [setTo, Apart]
  | m :: L, h => by
    obtain ⟨h1, h2⟩ := List.pairwise_cons.1 h
    unfold setTo
    split
    · rename_i hs
      have e : k.key = m.key := sameE_E.1 hs
      refine List.pairwise_cons.2 ⟨fun y hy => ?_, h2⟩
      show k.key ≠ y.key
      rw [e]
      exact h1 y hy
    · rename_i hs
      refine List.pairwise_cons.2 ⟨fun y hy => ?_, apart_setTo k x h2⟩
      rcases mem_setTo hy with rfl | hy
      · intro e
        exact hs (sameE_E.2 e.symm)
      · exact h1 y hy

theorem apart_addAll (g : Mono → Int) : ∀ (p : List Mono) {L : List Mono}, Apart L → Apart (addAll g L p)
  | [], _, h => h
  | m :: p, _, h => apart_addAll g p (apart_setTo m _ h)

theorem length_setTo (k : Mono) (x : Int) : ∀ L : List Mono, (setTo k x L).length ≤ L.length + 1
  | [] => by simp [setTo]
  | m :: L => by
    unfold setTo
    split
    · simp
    · have := length_setTo k x L; simp; omega

theorem below_setBlock {B : Nat} {a w : World} {r : Nat} (h : Below B a w) (hB : B ≤ r) (o : Obj) : Below B a (setBlock w r o) :=
  ⟨h.os, h.tape, h.output, by
    have := h.size
    simpa [setBlock] using this, fun i hi => by
    have hne : r ≠ i := by omega
    have := h.block i hi
    rw [← this]
    simp [setBlock, hne]⟩

set_option maxRecDepth 100000 in
set_option maxHeartbeats 1000000 in
theorem both_any (A B : Option Addr) (c d : Nat) (p q : List Mono) (s : Int) (w : World) (ha : Monos w A p) (hb : Monos w B q) (hp : p.length ≤ 140737488355328) (hq : q.length ≤ 140737488355328) :
    Calls Try.prog 44 #[.slice A p.length c, .slice B q.length d, .int .i64 s] w (Gives w (bothP p q s)) := by
  have Ha := Lib.hid ha
  have Hb := Lib.hid hb
  clear ha hb
  cases hrp : rightB p
  · have e : bothP p q s = ([], 20) := by unfold bothP; rw [hrp]; rfl
    rw [e]
    go_enter Try.func44, Try.ntmps44
    go_wp2_with (go_at_call 18; refine (right_any A c p _ Ha.out hp).mono ?_; rintro e w1 ⟨rfl, hb1⟩)
    go_ret2
    exact ⟨_, rfl, hb1, Res.nil _ _ _ _⟩
  · cases hrq : rightB q
    · have e : bothP p q s = ([], 20) := by unfold bothP; rw [hrp, hrq]; rfl
      rw [e]
      go_enter Try.func44, Try.ntmps44
      go_wp2_with fail
      refine (right_any A c p _ Ha.out hp).mono ?_
      rintro e w1 ⟨rfl, hb1⟩
      have H1 := Lib.hid hb1
      clear hb1
      go_wp2_with fail
      refine (right_any B d q _ (Hb.out.below H1.out) hq).mono ?_
      rintro e w2 ⟨rfl, hb2⟩
      have H2 := Lib.hid (show Below w.heap.size w w2 from H1.out.trans (hb2.mono H1.out.size))
      clear hb2
      go_wp2
      go_ret2
      exact ⟨_, rfl, H2.out, Res.nil _ _ _ _⟩
    · have e : bothP p q s = listedP (addAll (fun m => wrap64 (s * m.n)) (addAll Mono.n [] p) q) := by unfold bothP; rw [hrp, hrq]; rfl
      rw [e]
      have hp48 : p.length ≤ 48 := by
        unfold rightB at hrp
        simp at hrp
        exact hrp.1
      have hq48 : q.length ≤ 48 := by
        unfold rightB at hrq
        simp at hrq
        exact hrq.1
      have hmm := @run_makeMap Try.prog
      go_enter Try.func44, Try.ntmps44
      go_wp2_with fail
      refine (right_any A c p _ Ha.out hp).mono ?_
      rintro e w1 ⟨rfl, hb1⟩
      have H1 := Lib.hid hb1
      clear hb1
      go_wp2_with fail
      refine (right_any B d q _ (Hb.out.below H1.out) hq).mono ?_
      rintro e w2 ⟨rfl, hb2⟩
      have H2 := Lib.hid (show Below w.heap.size w w2 from H1.out.trans (hb2.mono H1.out.size))
      clear hb2 H1
      go_wp2
      generalize hr : w2.heap.size = r
      have hrw : w.heap.size ≤ r := by have := H2.out.size; omega
      have hm0 : MapIs (w2.alloc (.map #[] 0)) r [] := by rw [← hr]; exact MapIs.new _
      have hb0 : Below w.heap.size w (w2.alloc (.map #[] 0)) := H2.out.alloc H2.out.size _
      have HM0 := Lib.hid hm0
      have HB0 := Lib.hid hb0
      clear hm0 hb0 hr H2
      go_loopw [24] (fun i wr => ∃ (k : Nat) (L : List Mono), k ≤ p.length ∧ i = .int .i64 k ∧ MapIs wr r L ∧ L.length ≤ k ∧ Hid (addAll Mono.n [] p = addAll Mono.n L (p.drop k)) ∧ Below w.heap.size w wr) (fun i _ => p.length - (intOf i).toNat)
      case atStart => exact ⟨0, [], Nat.zero_le _, rfl, HM0.out, by simp, rfl, HB0.out⟩
      case round =>
        obtain ⟨k, L, hk, rfl, hm, hLk, hL, hbl⟩ := hrel
        have HM := Lib.hid hm
        clear hm
        by_cases hlt : k < p.length
        · obtain ⟨m, hm, dm⟩ := drop_cons hlt
          obtain ⟨b, o, rfl, hB, c0, c1, c2, c3, c4, c5, c6⟩ := Ha.out.below hbl k m hm
          have q0 : MonoAt (wr.alloc (.cells #[.int .i64 m.n, .int .u8 m.e0.toNat, .int .u8 m.e1.toNat, .int .u8 m.e2.toNat, .int .u8 m.e3.toNat, .int .u8 m.e4.toNat, .int .u8 m.e5.toNat] 39)) wr.heap.size 0 m := by simp [MonoAt, go_sem]
          have Q0 := Lib.hid q0
          have HM1 := Lib.hid (HM.out.alloc (.cells #[.int .i64 m.n, .int .u8 m.e0.toNat, .int .u8 m.e1.toNat, .int .u8 m.e2.toNat, .int .u8 m.e3.toNat, .int .u8 m.e4.toNat, .int .u8 m.e5.toNat] 39))
          have HB1 := Lib.hid (hbl.alloc hbl.size (.cells #[.int .i64 m.n, .int .u8 m.e0.toNat, .int .u8 m.e1.toNat, .int .u8 m.e2.toNat, .int .u8 m.e3.toNat, .int .u8 m.e4.toNat, .int .u8 m.e5.toNat] 39))
          have HL := Lib.hid (show addAll Mono.n [] p = addAll Mono.n (addTo m m.n L) (p.drop (k + 1)) by rw [hL.out, dm, addAll])
          clear q0 hm dm hB HM hL
          go_wp2
          clear c0 c1 c2 c3 c4 c5 c6
          generalize hb : wr.heap.size = X at Q0 ⊢
          generalize wr.alloc (.cells #[.int .i64 m.n, .int .u8 m.e0.toNat, .int .u8 m.e1.toNat, .int .u8 m.e2.toNat, .int .u8 m.e3.toNat, .int .u8 m.e4.toNat, .int .u8 m.e5.toNat] 39) = W0 at Q0 HM1 HB1 ⊢
          clear hb hbl
          obtain ⟨q0, q1, q2, q3, q4, q5, q6⟩ := Q0.out.zero
          have hlk := run_lookup_map m HM1.out.drew
          obtain ⟨v0, st, w3, w4, hme, hlk1, hes, hm4, o4, hw4⟩ := entry_store m (wrap64 (coef m L + m.n)) HM1.out.drew
          have HM4 := Lib.hid hm4
          have HB4 := Lib.hid (show Below w.heap.size w w4 by rw [hw4]; exact below_setBlock HB1.out.drew hrw _)
          clear hm4 hw4 HM1 HB1 Q0
          go_region
          clear hlk hme hlk1 hes q0 q1 q2 q3 q4 q5 q6
          go_wp2
          go_roundw
          case rel => exact ⟨k + 1, addTo m m.n L, by omega, by go_num, HM4.out, Nat.le_trans (length_setTo _ _ _) (by omega), HL, HB4.out⟩
          case measure => simp [intOf]; omega
        · have HL := Lib.hid (show addAll Mono.n [] p = L by rw [hL.out, List.drop_of_length_le (by omega), addAll])
          have hLk' : L.length ≤ 48 := by omega
          have HBL := Lib.hid hbl
          clear hL hbl
          go_wp2
          go_loopw [40] (fun i wr => ∃ (k : Nat) (T : List Mono), k ≤ q.length ∧ i = .int .i64 k ∧ MapIs wr r T ∧ T.length ≤ 48 + k ∧ Hid (addAll (fun m => wrap64 (s * m.n)) L q = addAll (fun m => wrap64 (s * m.n)) T (q.drop k)) ∧ Below w.heap.size w wr) (fun i _ => q.length - (intOf i).toNat)
          case atStart => exact ⟨0, L, Nat.zero_le _, rfl, HM.out, by omega, rfl, HBL.out⟩
          case round =>
            obtain ⟨j, T, hj, rfl, hm, hTk, hT, hbl⟩ := hrel
            have HMT := Lib.hid hm
            clear hm HM HBL
            by_cases hlt2 : j < q.length
            · obtain ⟨m, hm, dm⟩ := drop_cons hlt2
              obtain ⟨b, o, rfl, hB, c0, c1, c2, c3, c4, c5, c6⟩ := Hb.out.below hbl j m hm
              have q0 : MonoAt (wr.alloc (.cells #[.int .i64 m.n, .int .u8 m.e0.toNat, .int .u8 m.e1.toNat, .int .u8 m.e2.toNat, .int .u8 m.e3.toNat, .int .u8 m.e4.toNat, .int .u8 m.e5.toNat] 39)) wr.heap.size 0 m := by simp [MonoAt, go_sem]
              have Q0 := Lib.hid q0
              have HM1 := Lib.hid (HMT.out.alloc (.cells #[.int .i64 m.n, .int .u8 m.e0.toNat, .int .u8 m.e1.toNat, .int .u8 m.e2.toNat, .int .u8 m.e3.toNat, .int .u8 m.e4.toNat, .int .u8 m.e5.toNat] 39))
              have HB1 := Lib.hid (hbl.alloc hbl.size (.cells #[.int .i64 m.n, .int .u8 m.e0.toNat, .int .u8 m.e1.toNat, .int .u8 m.e2.toNat, .int .u8 m.e3.toNat, .int .u8 m.e4.toNat, .int .u8 m.e5.toNat] 39))
              have HT := Lib.hid (show addAll (fun m => wrap64 (s * m.n)) L q = addAll (fun m => wrap64 (s * m.n)) (addTo m (wrap64 (s * m.n)) T) (q.drop (j + 1)) by rw [hT.out, dm, addAll])
              clear q0 hm dm hB HMT hT
              go_wp2
              clear c0 c1 c2 c3 c4 c5 c6
              generalize hb : wr.heap.size = X at Q0 ⊢
              generalize wr.alloc (.cells #[.int .i64 m.n, .int .u8 m.e0.toNat, .int .u8 m.e1.toNat, .int .u8 m.e2.toNat, .int .u8 m.e3.toNat, .int .u8 m.e4.toNat, .int .u8 m.e5.toNat] 39) = W0 at Q0 HM1 HB1 ⊢
              clear hb hbl
              obtain ⟨q0, q1, q2, q3, q4, q5, q6⟩ := Q0.out.zero
              have hlk := run_lookup_map m HM1.out.drew
              obtain ⟨v0, st, w3, w4, hme, hlk1, hes, hm4, o4, hw4⟩ := entry_store m (wrap64 (coef m T + wrap64 (s * m.n))) HM1.out.drew
              have HM4 := Lib.hid hm4
              have HB4 := Lib.hid (show Below w.heap.size w w4 by rw [hw4]; exact below_setBlock HB1.out.drew hrw _)
              clear hm4 hw4 HM1 HB1 Q0
              go_region
              clear hlk hme hlk1 hes q0 q1 q2 q3 q4 q5 q6
              go_wp2
              go_roundw
              case rel => exact ⟨j + 1, addTo m (wrap64 (s * m.n)) T, by omega, by go_num, HM4.out, Nat.le_trans (length_setTo _ _ _) (by omega), HT, HB4.out⟩
              case measure => simp [intOf]; omega
            · have HT := Lib.hid (show addAll (fun m => wrap64 (s * m.n)) (addAll Mono.n [] p) q = T by rw [HL.out, hT.out, List.drop_of_length_le (by omega), addAll])
              have HBL := Lib.hid hbl
              have hT96 : T.length ≤ 1000000 := by omega
              clear hT hbl HL
              go_wp2_with fail
              refine (listed_any r T _ HMT.out (by rw [← HT.out]; exact apart_addAll _ _ (apart_addAll _ _ List.Pairwise.nil)) hT96).mono ?_
              rintro e w5 ⟨v, rfl, hb5, hv⟩
              have HV := Lib.hid (hv.mono HBL.out.size)
              have HB5 := Lib.hid (HBL.out.trans (hb5.mono HBL.out.size))
              clear hb5 hv
              go_wp2
              go_ret2
              rw [HT.out]
              exact ⟨_, rfl, HB5.out, HV.out⟩

end Go.Proofs.Ytndjaogjkchpaaa
