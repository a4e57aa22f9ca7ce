/- Contract of windrowlaw02.shown: the document's examples, at the head of all statements, are true; nothing that was there is changed. -/
import Derived.Test.YtndjaogjkchpaaaMakes
import Derived.Test.YtndjaogjkchpaaaEval
import Derived.Test.YtndjaogjkchpaaaGrows
namespace Go.Proofs.Ytndjaogjkchpaaa
open Go.RowKit Go.Sort

theorem monos_two {W : World} {g : Nat} {a b : Mono} (hg : W.heap[g]? = some (.cells #[.int .i64 a.n, .int .u8 a.e0.toNat, .int .u8 a.e1.toNat, .int .u8 a.e2.toNat, .int .u8 a.e3.toNat, .int .u8 a.e4.toNat, .int .u8 a.e5.toNat, .int .i64 b.n, .int .u8 b.e0.toNat, .int .u8 b.e1.toNat, .int .u8 b.e2.toNat, .int .u8 b.e3.toNat, .int .u8 b.e4.toNat, .int .u8 b.e5.toNat] 39)) : Monos W (some ⟨g, 0, none⟩) [a, b] := fun k m hk => by
  have hlt : g < W.heap.size := (Array.getElem?_eq_some_iff.1 hg).1
  have hc : ∀ o, W.cell? ⟨g, o, none⟩ = #[.int .i64 a.n, .int .u8 a.e0.toNat, .int .u8 a.e1.toNat, .int .u8 a.e2.toNat, .int .u8 a.e3.toNat, .int .u8 a.e4.toNat, .int .u8 a.e5.toNat, .int .i64 b.n, .int .u8 b.e0.toNat, .int .u8 b.e1.toNat, .int .u8 b.e2.toNat, .int .u8 b.e3.toNat, .int .u8 b.e4.toNat, .int .u8 b.e5.toNat][o]? := fun o => by unfold World.cell?; rw [hg]; rfl
  rcases k with _ | _ | k
  · simp at hk; subst hk
    exact ⟨g, 0, rfl, hlt, hc _, hc _, hc _, hc _, hc _, hc _, hc _⟩
  · simp at hk; subst hk
    exact ⟨g, 0, rfl, hlt, hc _, hc _, hc _, hc _, hc _, hc _, hc _⟩
  · simp at hk

theorem monos_one {W : World} {g : Nat} {a : Mono} (hg : W.heap[g]? = some (.cells #[.int .i64 a.n, .int .u8 a.e0.toNat, .int .u8 a.e1.toNat, .int .u8 a.e2.toNat, .int .u8 a.e3.toNat, .int .u8 a.e4.toNat, .int .u8 a.e5.toNat] 39)) : Monos W (some ⟨g, 0, none⟩) [a] := fun k m hk => by
  have hlt : g < W.heap.size := (Array.getElem?_eq_some_iff.1 hg).1
  have hc : ∀ o, W.cell? ⟨g, o, none⟩ = #[.int .i64 a.n, .int .u8 a.e0.toNat, .int .u8 a.e1.toNat, .int .u8 a.e2.toNat, .int .u8 a.e3.toNat, .int .u8 a.e4.toNat, .int .u8 a.e5.toNat][o]? := fun o => by unfold World.cell?; rw [hg]; rfl
  rcases k with _ | k
  · simp at hk; subst hk
    exact ⟨g, 0, rfl, hlt, hc _, hc _, hc _, hc _, hc _, hc _, hc _⟩
  · simp at hk

def mx1 : Mono := ⟨1, 1, 0, 0, 0, 0, 0⟩
def m1 : Mono := ⟨1, 0, 0, 0, 0, 0, 0⟩
def mn1 : Mono := ⟨-1, 0, 0, 0, 0, 0, 0⟩
def mx2 : Mono := ⟨1, 2, 0, 0, 0, 0, 0⟩
def mx8 : Mono := ⟨1, 8, 0, 0, 0, 0, 0⟩
def mxy : Mono := ⟨1, 1, 1, 0, 0, 0, 0⟩
def mn3 : Mono := ⟨-3, 0, 0, 0, 0, 0, 0⟩

theorem shown_mul1 : mulP [mx1, m1] [mx1, mn1] = ([mx2, mn1], 0) := by
  have e : mulAll [mx1, mn1] [] [mx1, m1] = [mx2, ⟨0, 1, 0, 0, 0, 0, 0⟩, mn1] := by kernel_rfl
  have ha : Apart (mulAll [mx1, mn1] [] [mx1, m1]) := apart_mulAll _ _ List.Pairwise.nil
  have hc : canon (mulAll [mx1, mn1] [] [mx1, m1]) = [mx2, mn1] := by
    refine (canon_of ha ?_ ?_).symm
    · rw [e]; exact List.Perm.refl _
    · exact List.Pairwise.cons (fun b hb => by simp at hb; subst hb; decide) (List.Pairwise.cons (by simp) List.Pairwise.nil)
  unfold mulP listedP
  rw [show (rightB [mx1, m1] && rightB [mx1, mn1]) = true by kernel_rfl, if_pos rfl, hc, show rightB [mx2, mn1] = true by kernel_rfl, if_pos rfl]

theorem shown_mul2 : mulP [mx8] [mx1] = ([], 21) := by
  have e : mulAll [mx1] [] [mx8] = [⟨1, 9, 0, 0, 0, 0, 0⟩] := by kernel_rfl
  have ha : Apart (mulAll [mx1] [] [mx8]) := apart_mulAll _ _ List.Pairwise.nil
  have hc : canon (mulAll [mx1] [] [mx8]) = [⟨1, 9, 0, 0, 0, 0, 0⟩] := by
    refine (canon_of ha ?_ ?_).symm
    · rw [e]; exact List.Perm.refl _
    · exact List.Pairwise.cons (by simp) List.Pairwise.nil
  unfold mulP listedP
  rw [show (rightB [mx8] && rightB [mx1]) = true by kernel_rfl, if_pos rfl, hc, show rightB [⟨1, 9, 0, 0, 0, 0, 0⟩] = false by kernel_rfl]
  rfl

theorem shown_eval1 : evalP [mxy, mn3] [2, 5] = (7, 0) := by kernel_rfl
theorem shown_eval2 : evalP [mx2, m1] [2147483648] = (0, 22) := by kernel_rfl
theorem shown_grows : growsB [mx1, mn1] = false := by kernel_rfl

theorem ints_lit {W : World} {g : Nat} {t : TypeId} {l : List Int} (hg : W.heap[g]? = some (.cells (l.map (Value.int .i64)).toArray t)) : Ints W (some ⟨g, 0, none⟩) l := fun k d hk => by
  have hlt : g < W.heap.size := (Array.getElem?_eq_some_iff.1 hg).1
  refine ⟨g, 0, rfl, hlt, ?_⟩
  unfold World.cell?
  rw [hg]
  simp [hk]

theorem mul_22 (A B : Option Addr) (c d : Nat) (a b x y : Mono) (W : World) (h1 : Monos W A [a, b]) (h2 : Monos W B [x, y]) : Calls Try.prog 13 #[.slice A 2 c, .slice B 2 d] W (Gives W (mulP [a, b] [x, y])) :=
  mul_any A B c d [a, b] [x, y] W h1 h2 (by simp) (by simp)
theorem mul_11 (A B : Option Addr) (c d : Nat) (a x : Mono) (W : World) (h1 : Monos W A [a]) (h2 : Monos W B [x]) : Calls Try.prog 13 #[.slice A 1 c, .slice B 1 d] W (Gives W (mulP [a] [x])) :=
  mul_any A B c d [a] [x] W h1 h2 (by simp) (by simp)
theorem eval_22 (A B : Option Addr) (c d : Nat) (a b : Mono) (x y : Int) (W : World) (h1 : Monos W A [a, b]) (h2 : Ints W B [x, y]) : Calls Try.prog 16 #[.slice A 2 c, .slice B 2 d] W fun e w' => e = .returned (.tuple #[.int .i64 (evalP [a, b] [x, y]).1, .int .i64 (evalP [a, b] [x, y]).2]) ∧ Below W.heap.size W w' :=
  eval_any A B c d [a, b] [x, y] W h1 h2 (by simp) (by simp)
theorem eval_21 (A B : Option Addr) (c d : Nat) (a b : Mono) (x : Int) (W : World) (h1 : Monos W A [a, b]) (h2 : Ints W B [x]) : Calls Try.prog 16 #[.slice A 2 c, .slice B 1 d] W fun e w' => e = .returned (.tuple #[.int .i64 (evalP [a, b] [x]).1, .int .i64 (evalP [a, b] [x]).2]) ∧ Below W.heap.size W w' :=
  eval_any A B c d [a, b] [x] W h1 h2 (by simp) (by simp)
theorem same_22 (A B : Option Addr) (c d : Nat) (a b x y : Mono) (W : World) (h1 : Monos W A [a, b]) (h2 : Monos W B [x, y]) : Calls Try.prog 15 #[.slice A 2 c, .slice B 2 d] W fun e w' => e = .returned (.bool (sameB [a, b] [x, y])) ∧ Below W.heap.size W w' :=
  same_any A B c d [a, b] [x, y] W h1 h2 (by simp)
theorem grows_2 (A : Option Addr) (c : Nat) (a b : Mono) (W : World) (h1 : Monos W A [a, b]) : Calls Try.prog 19 #[.slice A 2 c] W fun e w' => e = .returned (.bool (growsB [a, b])) ∧ Below W.heap.size W w' :=
  grows_any A c [a, b] W h1 (by simp)

set_option maxRecDepth 100000 in
set_option maxHeartbeats 400000 in
theorem shown_any (w : World) : Calls Try.prog 12 #[] w fun e w' => e = .returned (.bool true) ∧ Below w.heap.size w w' := by
  go_enter Try.func12, Try.ntmps12
  go_wp2_with fail
  refine (at_any 1 1 0 _).mono ?_
  rintro e w1 ⟨rfl, hb⟩
  have H1 := Lib.hid hb
  clear hb
  go_wp2_with fail
  refine (at_any 1 0 0 _).mono ?_
  rintro e w2 ⟨rfl, hb⟩
  have H2 := Lib.hid (H1.out.trans (hb.mono H1.out.size))
  clear hb
  have A_0 := Lib.hid (show Monos (w2.alloc (.cells #[.int .i64 1, .int .u8 1, .int .u8 0, .int .u8 0, .int .u8 0, .int .u8 0, .int .u8 0, .int .i64 1, .int .u8 0, .int .u8 0, .int .u8 0, .int .u8 0, .int .u8 0, .int .u8 0] 39)) (some ⟨w2.heap.size, 0, none⟩) [mx1, m1] from monos_two (heap_alloc_new _ _))
  have HVA := Lib.hid (H2.out.alloc H2.out.size (.cells #[.int .i64 1, .int .u8 1, .int .u8 0, .int .u8 0, .int .u8 0, .int .u8 0, .int .u8 0, .int .i64 1, .int .u8 0, .int .u8 0, .int .u8 0, .int .u8 0, .int .u8 0, .int .u8 0] 39))
  go_wp2_with fail
  refine (at_any 1 1 0 _).mono ?_
  rintro e w3 ⟨rfl, hb⟩
  have H3 := Lib.hid (HVA.out.trans (hb.mono HVA.out.size))
  have A_3 := Lib.hid (A_0.out.below hb)
  clear hb A_0
  go_wp2_with fail
  refine (at_any (-1) 0 0 _).mono ?_
  rintro e w4 ⟨rfl, hb⟩
  have H4 := Lib.hid (H3.out.trans (hb.mono H3.out.size))
  have A_4 := Lib.hid (A_3.out.below hb)
  clear hb A_3
  have B_0 := Lib.hid (show Monos (w4.alloc (.cells #[.int .i64 1, .int .u8 1, .int .u8 0, .int .u8 0, .int .u8 0, .int .u8 0, .int .u8 0, .int .i64 (-1), .int .u8 0, .int .u8 0, .int .u8 0, .int .u8 0, .int .u8 0, .int .u8 0] 39)) (some ⟨w4.heap.size, 0, none⟩) [mx1, mn1] from monos_two (heap_alloc_new _ _))
  have HVB := Lib.hid (H4.out.alloc H4.out.size (.cells #[.int .i64 1, .int .u8 1, .int .u8 0, .int .u8 0, .int .u8 0, .int .u8 0, .int .u8 0, .int .i64 (-1), .int .u8 0, .int .u8 0, .int .u8 0, .int .u8 0, .int .u8 0, .int .u8 0] 39))
  have A_q1 := Lib.hid (show Monos (w4.alloc (.cells #[.int .i64 1, .int .u8 1, .int .u8 0, .int .u8 0, .int .u8 0, .int .u8 0, .int .u8 0, .int .i64 (-1), .int .u8 0, .int .u8 0, .int .u8 0, .int .u8 0, .int .u8 0, .int .u8 0] 39)) _ _ from A_4.out.below ((Below.refl _ _).alloc (Nat.le_refl _) _))
  clear A_4
  go_wp2_with fail
  refine (mul_22 _ _ 2 2 mx1 m1 mx1 mn1 _ A_q1.out B_0.out).mono ?_
  rw [shown_mul1]
  rintro e w5 ⟨v, rfl, hb, hv⟩
  obtain ⟨RA, rc, rfl, hr⟩ := hv
  have H5 := Lib.hid (HVB.out.trans (hb.mono HVB.out.size))
  clear hb
  clear A_q1 B_0
  have R_0 := Lib.hid (show Monos w5 RA [mx2, mn1] from (Res.monos (B := 0) (n := 2) (c := rc) ⟨RA, rc, rfl, hr.imp id fun ⟨g, h1, _, h3⟩ => ⟨g, h1, Nat.zero_le _, h3⟩⟩).1)
  clear hr
  go_wp2_with fail
  refine (at_any 1 8 0 _).mono ?_
  rintro e w6 ⟨rfl, hb⟩
  have H6 := Lib.hid (H5.out.trans (hb.mono H5.out.size))
  have R_6 := Lib.hid (R_0.out.below hb)
  clear hb R_0
  have C_0 := Lib.hid (show Monos (w6.alloc (.cells #[.int .i64 1, .int .u8 8, .int .u8 0, .int .u8 0, .int .u8 0, .int .u8 0, .int .u8 0] 39)) (some ⟨w6.heap.size, 0, none⟩) [mx8] from monos_one (heap_alloc_new _ _))
  have HVC := Lib.hid (H6.out.alloc H6.out.size (.cells #[.int .i64 1, .int .u8 8, .int .u8 0, .int .u8 0, .int .u8 0, .int .u8 0, .int .u8 0] 39))
  have R_q2 := Lib.hid (show Monos (w6.alloc (.cells #[.int .i64 1, .int .u8 8, .int .u8 0, .int .u8 0, .int .u8 0, .int .u8 0, .int .u8 0] 39)) _ _ from R_6.out.below ((Below.refl _ _).alloc (Nat.le_refl _) _))
  clear R_6
  go_wp2_with fail
  refine (at_any 1 1 0 _).mono ?_
  rintro e w7 ⟨rfl, hb⟩
  have H7 := Lib.hid (HVC.out.trans (hb.mono HVC.out.size))
  have R_7 := Lib.hid (R_q2.out.below hb)
  have C_7 := Lib.hid (C_0.out.below hb)
  clear hb C_0
  have D_0 := Lib.hid (show Monos (w7.alloc (.cells #[.int .i64 1, .int .u8 1, .int .u8 0, .int .u8 0, .int .u8 0, .int .u8 0, .int .u8 0] 39)) (some ⟨w7.heap.size, 0, none⟩) [mx1] from monos_one (heap_alloc_new _ _))
  have HVD := Lib.hid (H7.out.alloc H7.out.size (.cells #[.int .i64 1, .int .u8 1, .int .u8 0, .int .u8 0, .int .u8 0, .int .u8 0, .int .u8 0] 39))
  have R_q3 := Lib.hid (show Monos (w7.alloc (.cells #[.int .i64 1, .int .u8 1, .int .u8 0, .int .u8 0, .int .u8 0, .int .u8 0, .int .u8 0] 39)) _ _ from R_7.out.below ((Below.refl _ _).alloc (Nat.le_refl _) _))
  clear R_7
  have C_q4 := Lib.hid (show Monos (w7.alloc (.cells #[.int .i64 1, .int .u8 1, .int .u8 0, .int .u8 0, .int .u8 0, .int .u8 0, .int .u8 0] 39)) _ _ from C_7.out.below ((Below.refl _ _).alloc (Nat.le_refl _) _))
  clear C_7
  go_wp2_with fail
  refine (mul_11 _ _ 1 1 mx8 mx1 _ C_q4.out D_0.out).mono ?_
  rw [shown_mul2]
  rintro e w8 ⟨v, rfl, hb, hv⟩
  obtain ⟨RB, rd, rfl, _⟩ := hv
  clear C_q4 D_0
  have H8 := Lib.hid (HVD.out.trans (hb.mono HVD.out.size))
  have R_8 := Lib.hid (R_q3.out.below hb)
  clear hb
  go_wp2_with fail
  refine (at_any 1 1 1 _).mono ?_
  rintro e w9 ⟨rfl, hb⟩
  have H9 := Lib.hid (H8.out.trans (hb.mono H8.out.size))
  have R_9 := Lib.hid (R_8.out.below hb)
  clear hb R_8
  go_wp2_with fail
  refine (at_any (-3) 0 0 _).mono ?_
  rintro e w10 ⟨rfl, hb⟩
  have H10 := Lib.hid (H9.out.trans (hb.mono H9.out.size))
  have R_10 := Lib.hid (R_9.out.below hb)
  clear hb R_9
  have E_0 := Lib.hid (show Monos (w10.alloc (.cells #[.int .i64 1, .int .u8 1, .int .u8 1, .int .u8 0, .int .u8 0, .int .u8 0, .int .u8 0, .int .i64 (-3), .int .u8 0, .int .u8 0, .int .u8 0, .int .u8 0, .int .u8 0, .int .u8 0] 39)) (some ⟨w10.heap.size, 0, none⟩) [mxy, mn3] from monos_two (heap_alloc_new _ _))
  have HVE := Lib.hid (H10.out.alloc H10.out.size (.cells #[.int .i64 1, .int .u8 1, .int .u8 1, .int .u8 0, .int .u8 0, .int .u8 0, .int .u8 0, .int .i64 (-3), .int .u8 0, .int .u8 0, .int .u8 0, .int .u8 0, .int .u8 0, .int .u8 0] 39))
  have R_q5 := Lib.hid (show Monos (w10.alloc (.cells #[.int .i64 1, .int .u8 1, .int .u8 1, .int .u8 0, .int .u8 0, .int .u8 0, .int .u8 0, .int .i64 (-3), .int .u8 0, .int .u8 0, .int .u8 0, .int .u8 0, .int .u8 0, .int .u8 0] 39)) _ _ from R_10.out.below ((Below.refl _ _).alloc (Nat.le_refl _) _))
  clear R_10
  have I_0 := Lib.hid (show Ints ((w10.alloc (.cells #[.int .i64 1, .int .u8 1, .int .u8 1, .int .u8 0, .int .u8 0, .int .u8 0, .int .u8 0, .int .i64 (-3), .int .u8 0, .int .u8 0, .int .u8 0, .int .u8 0, .int .u8 0, .int .u8 0] 39)).alloc (.cells #[.int .i64 2, .int .i64 5] 2)) (some ⟨w10.heap.size + 1, 0, none⟩) [2, 5] from ints_lit (l := [2, 5]) (by rw [← World.size_alloc]; exact heap_alloc_new _ _))
  have HVI := Lib.hid (HVE.out.alloc HVE.out.size (.cells #[.int .i64 2, .int .i64 5] 2))
  have R_q6 := Lib.hid (show Monos ((w10.alloc (.cells #[.int .i64 1, .int .u8 1, .int .u8 1, .int .u8 0, .int .u8 0, .int .u8 0, .int .u8 0, .int .i64 (-3), .int .u8 0, .int .u8 0, .int .u8 0, .int .u8 0, .int .u8 0, .int .u8 0] 39)).alloc (.cells #[.int .i64 2, .int .i64 5] 2)) _ _ from R_q5.out.below ((Below.refl _ _).alloc (Nat.le_refl _) _))
  clear R_q5
  have E_q7 := Lib.hid (show Monos ((w10.alloc (.cells #[.int .i64 1, .int .u8 1, .int .u8 1, .int .u8 0, .int .u8 0, .int .u8 0, .int .u8 0, .int .i64 (-3), .int .u8 0, .int .u8 0, .int .u8 0, .int .u8 0, .int .u8 0, .int .u8 0] 39)).alloc (.cells #[.int .i64 2, .int .i64 5] 2)) _ _ from E_0.out.below ((Below.refl _ _).alloc (Nat.le_refl _) _))
  clear E_0
  go_wp2_with fail
  refine (eval_22 _ _ 2 2 mxy mn3 2 5 _ E_q7.out I_0.out).mono ?_
  rw [shown_eval1]
  rintro e w11 ⟨rfl, hb⟩
  clear E_q7 I_0
  have H11 := Lib.hid (HVI.out.trans (hb.mono HVI.out.size))
  have R_11 := Lib.hid (R_q6.out.below hb)
  clear hb
  go_wp2_with fail
  refine (at_any 1 2 0 _).mono ?_
  rintro e w12 ⟨rfl, hb⟩
  have H12 := Lib.hid (H11.out.trans (hb.mono H11.out.size))
  have R_12 := Lib.hid (R_11.out.below hb)
  clear hb R_11
  go_wp2_with fail
  refine (at_any 1 0 0 _).mono ?_
  rintro e w13 ⟨rfl, hb⟩
  have H13 := Lib.hid (H12.out.trans (hb.mono H12.out.size))
  have R_13 := Lib.hid (R_12.out.below hb)
  clear hb R_12
  have F_0 := Lib.hid (show Monos (w13.alloc (.cells #[.int .i64 1, .int .u8 2, .int .u8 0, .int .u8 0, .int .u8 0, .int .u8 0, .int .u8 0, .int .i64 1, .int .u8 0, .int .u8 0, .int .u8 0, .int .u8 0, .int .u8 0, .int .u8 0] 39)) (some ⟨w13.heap.size, 0, none⟩) [mx2, m1] from monos_two (heap_alloc_new _ _))
  have HVF := Lib.hid (H13.out.alloc H13.out.size (.cells #[.int .i64 1, .int .u8 2, .int .u8 0, .int .u8 0, .int .u8 0, .int .u8 0, .int .u8 0, .int .i64 1, .int .u8 0, .int .u8 0, .int .u8 0, .int .u8 0, .int .u8 0, .int .u8 0] 39))
  have R_q8 := Lib.hid (show Monos (w13.alloc (.cells #[.int .i64 1, .int .u8 2, .int .u8 0, .int .u8 0, .int .u8 0, .int .u8 0, .int .u8 0, .int .i64 1, .int .u8 0, .int .u8 0, .int .u8 0, .int .u8 0, .int .u8 0, .int .u8 0] 39)) _ _ from R_13.out.below ((Below.refl _ _).alloc (Nat.le_refl _) _))
  clear R_13
  have J_0 := Lib.hid (show Ints ((w13.alloc (.cells #[.int .i64 1, .int .u8 2, .int .u8 0, .int .u8 0, .int .u8 0, .int .u8 0, .int .u8 0, .int .i64 1, .int .u8 0, .int .u8 0, .int .u8 0, .int .u8 0, .int .u8 0, .int .u8 0] 39)).alloc (.cells #[.int .i64 2147483648] 2)) (some ⟨w13.heap.size + 1, 0, none⟩) [2147483648] from ints_lit (l := [2147483648]) (by rw [← World.size_alloc]; exact heap_alloc_new _ _))
  have HVJ := Lib.hid (HVF.out.alloc HVF.out.size (.cells #[.int .i64 2147483648] 2))
  have R_q9 := Lib.hid (show Monos ((w13.alloc (.cells #[.int .i64 1, .int .u8 2, .int .u8 0, .int .u8 0, .int .u8 0, .int .u8 0, .int .u8 0, .int .i64 1, .int .u8 0, .int .u8 0, .int .u8 0, .int .u8 0, .int .u8 0, .int .u8 0] 39)).alloc (.cells #[.int .i64 2147483648] 2)) _ _ from R_q8.out.below ((Below.refl _ _).alloc (Nat.le_refl _) _))
  clear R_q8
  have F_q10 := Lib.hid (show Monos ((w13.alloc (.cells #[.int .i64 1, .int .u8 2, .int .u8 0, .int .u8 0, .int .u8 0, .int .u8 0, .int .u8 0, .int .i64 1, .int .u8 0, .int .u8 0, .int .u8 0, .int .u8 0, .int .u8 0, .int .u8 0] 39)).alloc (.cells #[.int .i64 2147483648] 2)) _ _ from F_0.out.below ((Below.refl _ _).alloc (Nat.le_refl _) _))
  clear F_0
  go_wp2_with fail
  refine (eval_21 _ _ 2 1 mx2 m1 2147483648 _ F_q10.out J_0.out).mono ?_
  rw [shown_eval2]
  rintro e w14 ⟨rfl, hb⟩
  clear F_q10 J_0
  have H14 := Lib.hid (HVJ.out.trans (hb.mono HVJ.out.size))
  have R_14 := Lib.hid (R_q9.out.below hb)
  clear hb
  go_wp2_with fail
  refine (at_any 1 2 0 _).mono ?_
  rintro e w15 ⟨rfl, hb⟩
  have H15 := Lib.hid (H14.out.trans (hb.mono H14.out.size))
  have R_15 := Lib.hid (R_14.out.below hb)
  clear hb R_14
  go_wp2_with fail
  refine (at_any (-1) 0 0 _).mono ?_
  rintro e w16 ⟨rfl, hb⟩
  have H16 := Lib.hid (H15.out.trans (hb.mono H15.out.size))
  have R_16 := Lib.hid (R_15.out.below hb)
  clear hb R_15
  have G_0 := Lib.hid (show Monos (w16.alloc (.cells #[.int .i64 1, .int .u8 2, .int .u8 0, .int .u8 0, .int .u8 0, .int .u8 0, .int .u8 0, .int .i64 (-1), .int .u8 0, .int .u8 0, .int .u8 0, .int .u8 0, .int .u8 0, .int .u8 0] 39)) (some ⟨w16.heap.size, 0, none⟩) [mx2, mn1] from monos_two (heap_alloc_new _ _))
  have HVG := Lib.hid (H16.out.alloc H16.out.size (.cells #[.int .i64 1, .int .u8 2, .int .u8 0, .int .u8 0, .int .u8 0, .int .u8 0, .int .u8 0, .int .i64 (-1), .int .u8 0, .int .u8 0, .int .u8 0, .int .u8 0, .int .u8 0, .int .u8 0] 39))
  have R_q11 := Lib.hid (show Monos (w16.alloc (.cells #[.int .i64 1, .int .u8 2, .int .u8 0, .int .u8 0, .int .u8 0, .int .u8 0, .int .u8 0, .int .i64 (-1), .int .u8 0, .int .u8 0, .int .u8 0, .int .u8 0, .int .u8 0, .int .u8 0] 39)) _ _ from R_16.out.below ((Below.refl _ _).alloc (Nat.le_refl _) _))
  clear R_16
  go_wp2_with fail
  refine (same_22 _ _ rc 2 mx2 mn1 mx2 mn1 _ R_q11.out G_0.out).mono ?_
  rw [show sameB [mx2, mn1] [mx2, mn1] = true from (sameB_iff _ _).2 rfl]
  rintro e w17 ⟨rfl, hb⟩
  clear R_q11 G_0
  have H17 := Lib.hid (HVG.out.trans (hb.mono HVG.out.size))
  clear hb
  go_wp2_with fail
  refine (at_any 1 1 0 _).mono ?_
  rintro e w18 ⟨rfl, hb⟩
  have H18 := Lib.hid (H17.out.trans (hb.mono H17.out.size))
  clear hb
  go_wp2_with fail
  refine (at_any (-1) 0 0 _).mono ?_
  rintro e w19 ⟨rfl, hb⟩
  have H19 := Lib.hid (H18.out.trans (hb.mono H18.out.size))
  clear hb
  have K_0 := Lib.hid (show Monos (w19.alloc (.cells #[.int .i64 1, .int .u8 1, .int .u8 0, .int .u8 0, .int .u8 0, .int .u8 0, .int .u8 0, .int .i64 (-1), .int .u8 0, .int .u8 0, .int .u8 0, .int .u8 0, .int .u8 0, .int .u8 0] 39)) (some ⟨w19.heap.size, 0, none⟩) [mx1, mn1] from monos_two (heap_alloc_new _ _))
  have HVK := Lib.hid (H19.out.alloc H19.out.size (.cells #[.int .i64 1, .int .u8 1, .int .u8 0, .int .u8 0, .int .u8 0, .int .u8 0, .int .u8 0, .int .i64 (-1), .int .u8 0, .int .u8 0, .int .u8 0, .int .u8 0, .int .u8 0, .int .u8 0] 39))
  go_wp2_with fail
  refine (grows_2 _ 2 mx1 mn1 _ K_0.out).mono ?_
  rw [shown_grows]
  rintro e w20 ⟨rfl, hb⟩
  clear K_0
  have H20 := Lib.hid (HVK.out.trans (hb.mono HVK.out.size))
  clear hb
  go_wp2
  go_ret
  exact ⟨rfl, H20.out⟩

end Go.Proofs.Ytndjaogjkchpaaa
