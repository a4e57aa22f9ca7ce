/- Proved: for every input windrowlaw PolyValues returns true, and each argument reads afterwards as it read before. No condition beside the form's own. -/
import Derived.Test.YtndjaogjkchpaaaShown
import Derived.Test.YtndjaogjkchpaaaMakes
import Derived.Test.YtndjaogjkchpaaaVal
import Derived.Test.YtndjaogjkchpaaaLaw
import Derived.JoinedTies
namespace Go.Proofs.Ytndjaogjkchpaaa.polyValues
open Go.ChangeShapes Go.WideShapes Go.ChangeAt Go.RowKit Go.Sort

set_option maxRecDepth 100000 in
set_option maxHeartbeats 4000000 in
theorem walk (A : Option Addr) (c : Nat) (p : List Mono) (w0 : World) (ha : Monos w0 A p) (_ : ∀ m ∈ p, (Lit.int .i64 m.n).wf = true) (hp : p.length ≤ 140737488355328)
    (B : Option Addr) (d : Nat) (q : List Mono) (hb : Monos w0 B q) (_ : ∀ m ∈ q, (Lit.int .i64 m.n).wf = true) (hq : q.length ≤ 140737488355328)
    (C : Option Addr) (f : Nat) (ds : List Int) (hc : Ints w0 C ds) (_ : ∀ m ∈ ds, (Lit.int .i64 m).wf = true) (hr : ds.length ≤ 140737488355328) :
    Calls Try.prog 10 #[.slice A p.length c, .slice B q.length d, .slice C ds.length f] w0 fun e w' => e = .returned (.bool true) ∧ Below w0.heap.size w0 w' := by
  have Mp := Lib.hid ha
  have Mq := Lib.hid hb
  have Mr := Lib.hid hc
  have H0 := Lib.hid (Below.refl w0.heap.size w0)
  clear ha hb hc
  obtain ⟨x1, z1⟩ : { x : Int × Int // evalP p ds = x } := ⟨_, rfl⟩
  obtain ⟨x2, z2⟩ : { x : Int × Int // evalP q ds = x } := ⟨_, rfl⟩
  have t1 := eval_len p ds
  have t2 := eval_len q ds
  rw [z1] at t1
  rw [z2] at t2
  obtain ⟨a, ea⟩ := x1
  obtain ⟨b, eb⟩ := x2
  have Z1 := Lib.hid z1
  have Z2 := Lib.hid z2
  have T1 := Lib.hid t1
  have T2 := Lib.hid t2
  clear z1 z2 t1 t2
  go_enter Try.func10, Try.ntmps10
  go_wp2_with fail
  refine (shown_any _).mono ?_
  rintro e _ ⟨rfl, hb⟩
  have H1 := Lib.hid (H0.out.trans (hb.mono H0.out.size))
  have Mp' := Lib.hid (Mp.out.below hb)
  have Mq' := Lib.hid (Mq.out.below hb)
  have Mr' := Lib.hid (Mr.out.below hb)
  clear hb Mp Mq Mr
  go_wp2_with fail
  refine (eval_any A C c f p ds _ Mp'.out Mr'.out hp hr).mono ?_
  rw [Z1.out]
  rintro e _ ⟨rfl, hb⟩
  have H2 := Lib.hid (H1.out.trans (hb.mono H1.out.size))
  have Mp'' := Lib.hid (Mp'.out.below hb)
  have Mq'' := Lib.hid (Mq'.out.below hb)
  have Mr'' := Lib.hid (Mr'.out.below hb)
  clear hb Mp' Mq' Mr'
  go_wp2_with fail
  refine (eval_any B C d f q ds _ Mq''.out Mr''.out hq hr).mono ?_
  rw [Z2.out]
  rintro e _ ⟨rfl, hb⟩
  have H3 := Lib.hid (H2.out.trans (hb.mono H2.out.size))
  have Mp''' := Lib.hid (Mp''.out.below hb)
  have Mq''' := Lib.hid (Mq''.out.below hb)
  have Mr''' := Lib.hid (Mr''.out.below hb)
  clear hb Mp'' Mq'' Mr''
  rcases T1.out with t | ⟨t, t'⟩
  rotate_left
  · obtain rfl : a = 0 := t
    rcases T2.out with u | ⟨u, u'⟩
    · obtain rfl : eb = 0 := u
      rcases t' with t' | t' | t'
      · obtain rfl : ea = 20 := t'
        go_wp2
        go_ret
        exact ⟨rfl, H3.out⟩
      · obtain rfl : ea = 22 := t'
        go_wp2
        go_ret
        exact ⟨rfl, H3.out⟩
      · obtain rfl : ea = 23 := t'
        go_wp2
        go_ret
        exact ⟨rfl, H3.out⟩
    · obtain rfl : b = 0 := u
      rcases t' with t' | t' | t'
      · obtain rfl : ea = 20 := t'
        rcases u' with u' | u' | u'
        · obtain rfl : eb = 20 := u'
          go_wp2
          go_ret
          exact ⟨rfl, H3.out⟩
        · obtain rfl : eb = 22 := u'
          go_wp2
          go_ret
          exact ⟨rfl, H3.out⟩
        · obtain rfl : eb = 23 := u'
          go_wp2
          go_ret
          exact ⟨rfl, H3.out⟩
      · obtain rfl : ea = 22 := t'
        rcases u' with u' | u' | u'
        · obtain rfl : eb = 20 := u'
          go_wp2
          go_ret
          exact ⟨rfl, H3.out⟩
        · obtain rfl : eb = 22 := u'
          go_wp2
          go_ret
          exact ⟨rfl, H3.out⟩
        · obtain rfl : eb = 23 := u'
          go_wp2
          go_ret
          exact ⟨rfl, H3.out⟩
      · obtain rfl : ea = 23 := t'
        rcases u' with u' | u' | u'
        · obtain rfl : eb = 20 := u'
          go_wp2
          go_ret
          exact ⟨rfl, H3.out⟩
        · obtain rfl : eb = 22 := u'
          go_wp2
          go_ret
          exact ⟨rfl, H3.out⟩
        · obtain rfl : eb = 23 := u'
          go_wp2
          go_ret
          exact ⟨rfl, H3.out⟩
  obtain rfl : ea = 0 := t
  rcases T2.out with u | ⟨u, u'⟩
  rotate_left
  · obtain rfl : b = 0 := u
    rcases u' with u' | u' | u'
    · obtain rfl : eb = 20 := u'
      go_wp2
      go_ret
      exact ⟨rfl, H3.out⟩
    · obtain rfl : eb = 22 := u'
      go_wp2
      go_ret
      exact ⟨rfl, H3.out⟩
    · obtain rfl : eb = 23 := u'
      go_wp2
      go_ret
      exact ⟨rfl, H3.out⟩
  obtain rfl : eb = 0 := u
  obtain ⟨s1, x1, g1, h1, y1, v1, l1, k1⟩ := phase_both (k := 1) (.inl rfl) Z1.out Z2.out
  obtain ⟨s2, x2, g2, h2, y2, v2, l2, k2⟩ := phase_both (k := -1) (.inr rfl) Z1.out Z2.out
  obtain ⟨s3, x3, g3, h3, y3, v3, l3, k3⟩ := phase_mul Z1.out Z2.out
  have Y1 := Lib.hid y1
  have V1 := Lib.hid v1
  have K1 := Lib.hid k1
  have Y2 := Lib.hid y2
  have V2 := Lib.hid v2
  have K2 := Lib.hid k2
  have Y3 := Lib.hid y3
  have V3 := Lib.hid v3
  have K3 := Lib.hid k3
  have R1 := Lib.hid (eval_ok Z1.out).2.2
  have R2 := Lib.hid (eval_ok Z2.out).2.2
  clear y1 v1 k1 y2 v2 k2 y3 v3 k3 T1 T2 Z1 Z2
  go_wp2_with fail
  refine (add_any A B c d p q _ Mp'''.out Mq'''.out hp hq).mono fun e _ h => ?_
  obtain ⟨A1, c1, rfl, hb, hm⟩ := gives_at Y1.out h
  have H4 := Lib.hid (H3.out.trans (hb.mono H3.out.size))
  have Mp'''' := Lib.hid (Mp'''.out.below hb)
  have Mq'''' := Lib.hid (Mq'''.out.below hb)
  have Mr'''' := Lib.hid (Mr'''.out.below hb)
  have M1 := Lib.hid hm
  clear hb hm h Mp''' Mq''' Mr'''
  go_wp2_with fail
  refine (eval_any A1 C c1 f s1 ds _ M1.out Mr''''.out l1 hr).mono ?_
  rw [V1.out]
  rintro e _ ⟨rfl, hb⟩
  have H5 := Lib.hid (H4.out.trans (hb.mono H4.out.size))
  have Mp''''' := Lib.hid (Mp''''.out.below hb)
  have Mq''''' := Lib.hid (Mq''''.out.below hb)
  have Mr''''' := Lib.hid (Mr''''.out.below hb)
  have M1' := Lib.hid (M1.out.below hb)
  clear hb Mp'''' Mq'''' Mr'''' M1
  clear M1'
  rcases K1.out with ⟨k, k'⟩ | ⟨k, k'⟩ | ⟨k, k', hx1⟩
  · subst k k'
    clear K1 Y1 V1
    go_wp2_with fail
    refine (sub_any A B c d p q _ Mp'''''.out Mq'''''.out hp hq).mono fun e _ h => ?_
    obtain ⟨A2, c2, rfl, hb, hm⟩ := gives_at Y2.out h
    have H6 := Lib.hid (H5.out.trans (hb.mono H5.out.size))
    have Mp'''''' := Lib.hid (Mp'''''.out.below hb)
    have Mq'''''' := Lib.hid (Mq'''''.out.below hb)
    have Mr'''''' := Lib.hid (Mr'''''.out.below hb)
    have M2 := Lib.hid hm
    clear hb hm h Mp''''' Mq''''' Mr'''''
    go_wp2_with fail
    refine (eval_any A2 C c2 f s2 ds _ M2.out Mr''''''.out l2 hr).mono ?_
    rw [V2.out]
    rintro e _ ⟨rfl, hb⟩
    have H7 := Lib.hid (H6.out.trans (hb.mono H6.out.size))
    have Mp''''''' := Lib.hid (Mp''''''.out.below hb)
    have Mq''''''' := Lib.hid (Mq''''''.out.below hb)
    have Mr''''''' := Lib.hid (Mr''''''.out.below hb)
    have M2' := Lib.hid (M2.out.below hb)
    clear hb Mp'''''' Mq'''''' Mr'''''' M2
    clear M2'
    rcases K2.out with ⟨k, k'⟩ | ⟨k, k'⟩ | ⟨k, k', hx2⟩
    · subst k k'
      clear K2 Y2 V2
      go_wp2_with fail
      refine (mul_any A B c d p q _ Mp'''''''.out Mq'''''''.out hp hq).mono fun e _ h => ?_
      obtain ⟨A3, c3, rfl, hb, hm⟩ := gives_at Y3.out h
      have H8 := Lib.hid (H7.out.trans (hb.mono H7.out.size))
      have Mp'''''''' := Lib.hid (Mp'''''''.out.below hb)
      have Mq'''''''' := Lib.hid (Mq'''''''.out.below hb)
      have Mr'''''''' := Lib.hid (Mr'''''''.out.below hb)
      have M3 := Lib.hid hm
      clear hb hm h Mp''''''' Mq''''''' Mr'''''''
      go_wp2_with fail
      refine (eval_any A3 C c3 f s3 ds _ M3.out Mr''''''''.out l3 hr).mono ?_
      rw [V3.out]
      rintro e _ ⟨rfl, hb⟩
      have H9 := Lib.hid (H8.out.trans (hb.mono H8.out.size))
      have Mp''''''''' := Lib.hid (Mp''''''''.out.below hb)
      have Mq''''''''' := Lib.hid (Mq''''''''.out.below hb)
      have Mr''''''''' := Lib.hid (Mr''''''''.out.below hb)
      have M3' := Lib.hid (M3.out.below hb)
      clear hb Mp'''''''' Mq'''''''' Mr'''''''' M3
      clear M3'
      clear Mp'''''''''
      clear Mq'''''''''
      clear Mr'''''''''
      rcases K3.out with ⟨k, k'⟩ | ⟨k, k'⟩ | ⟨k, k', hx3, hr3⟩
      · subst k k'
        clear K3 Y3 V3
        go_wp2
        go_ret
        exact ⟨rfl, H9.out⟩
      · subst k k'
        clear K3 Y3 V3
        go_wp2
        go_ret
        exact ⟨rfl, H9.out⟩
      · subst k k'
        clear K3 Y3 V3
        by_cases a0 : a = 0
        · subst a0
          obtain rfl : x3 = 0 := by rw [hx3, Int.zero_mul]
          clear hx3 hr3
          go_wp2
          go_ret
          exact ⟨rfl, H9.out⟩
        by_cases b0 : b = 0
        · subst b0
          obtain rfl : x3 = 0 := by rw [hx3, Int.mul_zero]
          clear hx3 hr3
          have a0' : (a == 0) = false := by simpa using a0
          clear a0
          go_wp2
          go_ret
          exact ⟨rfl, H9.out⟩
        have a0' : (a == 0) = false := by simpa using a0
        have b0' : (b == 0) = false := by simpa using b0
        have d1 : wrap64 (Int.tdiv x3 a) = b := by rw [hx3, Int.mul_tdiv_cancel_left _ a0]; have := R2.out; unfold maxV at this; unfold wrap64; omega
        have d2 : (Int.tmod x3 a == 0) = true := by rw [hx3, Int.mul_tmod_right]; rfl
        clear hx3 hr3 b0
        go_wp2
        go_ret
        exact ⟨rfl, H9.out⟩
    · subst k k'
      clear K2 Y2 V2
      go_wp2_with fail
      refine (mul_any A B c d p q _ Mp'''''''.out Mq'''''''.out hp hq).mono fun e _ h => ?_
      obtain ⟨A3, c3, rfl, hb, hm⟩ := gives_at Y3.out h
      have H8 := Lib.hid (H7.out.trans (hb.mono H7.out.size))
      have Mp'''''''' := Lib.hid (Mp'''''''.out.below hb)
      have Mq'''''''' := Lib.hid (Mq'''''''.out.below hb)
      have Mr'''''''' := Lib.hid (Mr'''''''.out.below hb)
      have M3 := Lib.hid hm
      clear hb hm h Mp''''''' Mq''''''' Mr'''''''
      go_wp2_with fail
      refine (eval_any A3 C c3 f s3 ds _ M3.out Mr''''''''.out l3 hr).mono ?_
      rw [V3.out]
      rintro e _ ⟨rfl, hb⟩
      have H9 := Lib.hid (H8.out.trans (hb.mono H8.out.size))
      have Mp''''''''' := Lib.hid (Mp''''''''.out.below hb)
      have Mq''''''''' := Lib.hid (Mq''''''''.out.below hb)
      have Mr''''''''' := Lib.hid (Mr''''''''.out.below hb)
      have M3' := Lib.hid (M3.out.below hb)
      clear hb Mp'''''''' Mq'''''''' Mr'''''''' M3
      clear M3'
      clear Mp'''''''''
      clear Mq'''''''''
      clear Mr'''''''''
      rcases K3.out with ⟨k, k'⟩ | ⟨k, k'⟩ | ⟨k, k', hx3, hr3⟩
      · subst k k'
        clear K3 Y3 V3
        go_wp2
        go_ret
        exact ⟨rfl, H9.out⟩
      · subst k k'
        clear K3 Y3 V3
        go_wp2
        go_ret
        exact ⟨rfl, H9.out⟩
      · subst k k'
        clear K3 Y3 V3
        by_cases a0 : a = 0
        · subst a0
          obtain rfl : x3 = 0 := by rw [hx3, Int.zero_mul]
          clear hx3 hr3
          go_wp2
          go_ret
          exact ⟨rfl, H9.out⟩
        by_cases b0 : b = 0
        · subst b0
          obtain rfl : x3 = 0 := by rw [hx3, Int.mul_zero]
          clear hx3 hr3
          have a0' : (a == 0) = false := by simpa using a0
          clear a0
          go_wp2
          go_ret
          exact ⟨rfl, H9.out⟩
        have a0' : (a == 0) = false := by simpa using a0
        have b0' : (b == 0) = false := by simpa using b0
        have d1 : wrap64 (Int.tdiv x3 a) = b := by rw [hx3, Int.mul_tdiv_cancel_left _ a0]; have := R2.out; unfold maxV at this; unfold wrap64; omega
        have d2 : (Int.tmod x3 a == 0) = true := by rw [hx3, Int.mul_tmod_right]; rfl
        clear hx3 hr3 b0
        go_wp2
        go_ret
        exact ⟨rfl, H9.out⟩
    · subst k k'
      clear K2 Y2 V2
      have f2 : (wrap64 (a - x2) != b) = false := by have := R2.out; unfold maxV at this; simp only [bne_eq_false_iff_eq]; unfold wrap64; omega
      clear hx2
      go_wp2_with fail
      refine (mul_any A B c d p q _ Mp'''''''.out Mq'''''''.out hp hq).mono fun e _ h => ?_
      obtain ⟨A3, c3, rfl, hb, hm⟩ := gives_at Y3.out h
      have H8 := Lib.hid (H7.out.trans (hb.mono H7.out.size))
      have Mp'''''''' := Lib.hid (Mp'''''''.out.below hb)
      have Mq'''''''' := Lib.hid (Mq'''''''.out.below hb)
      have Mr'''''''' := Lib.hid (Mr'''''''.out.below hb)
      have M3 := Lib.hid hm
      clear hb hm h Mp''''''' Mq''''''' Mr'''''''
      go_wp2_with fail
      refine (eval_any A3 C c3 f s3 ds _ M3.out Mr''''''''.out l3 hr).mono ?_
      rw [V3.out]
      rintro e _ ⟨rfl, hb⟩
      have H9 := Lib.hid (H8.out.trans (hb.mono H8.out.size))
      have Mp''''''''' := Lib.hid (Mp''''''''.out.below hb)
      have Mq''''''''' := Lib.hid (Mq''''''''.out.below hb)
      have Mr''''''''' := Lib.hid (Mr''''''''.out.below hb)
      have M3' := Lib.hid (M3.out.below hb)
      clear hb Mp'''''''' Mq'''''''' Mr'''''''' M3
      clear M3'
      clear Mp'''''''''
      clear Mq'''''''''
      clear Mr'''''''''
      rcases K3.out with ⟨k, k'⟩ | ⟨k, k'⟩ | ⟨k, k', hx3, hr3⟩
      · subst k k'
        clear K3 Y3 V3
        go_wp2
        go_ret
        exact ⟨rfl, H9.out⟩
      · subst k k'
        clear K3 Y3 V3
        go_wp2
        go_ret
        exact ⟨rfl, H9.out⟩
      · subst k k'
        clear K3 Y3 V3
        by_cases a0 : a = 0
        · subst a0
          obtain rfl : x3 = 0 := by rw [hx3, Int.zero_mul]
          clear hx3 hr3
          go_wp2
          go_ret
          exact ⟨rfl, H9.out⟩
        by_cases b0 : b = 0
        · subst b0
          obtain rfl : x3 = 0 := by rw [hx3, Int.mul_zero]
          clear hx3 hr3
          have a0' : (a == 0) = false := by simpa using a0
          clear a0
          go_wp2
          go_ret
          exact ⟨rfl, H9.out⟩
        have a0' : (a == 0) = false := by simpa using a0
        have b0' : (b == 0) = false := by simpa using b0
        have d1 : wrap64 (Int.tdiv x3 a) = b := by rw [hx3, Int.mul_tdiv_cancel_left _ a0]; have := R2.out; unfold maxV at this; unfold wrap64; omega
        have d2 : (Int.tmod x3 a == 0) = true := by rw [hx3, Int.mul_tmod_right]; rfl
        clear hx3 hr3 b0
        go_wp2
        go_ret
        exact ⟨rfl, H9.out⟩
  · subst k k'
    clear K1 Y1 V1
    go_wp2_with fail
    refine (sub_any A B c d p q _ Mp'''''.out Mq'''''.out hp hq).mono fun e _ h => ?_
    obtain ⟨A2, c2, rfl, hb, hm⟩ := gives_at Y2.out h
    have H6 := Lib.hid (H5.out.trans (hb.mono H5.out.size))
    have Mp'''''' := Lib.hid (Mp'''''.out.below hb)
    have Mq'''''' := Lib.hid (Mq'''''.out.below hb)
    have Mr'''''' := Lib.hid (Mr'''''.out.below hb)
    have M2 := Lib.hid hm
    clear hb hm h Mp''''' Mq''''' Mr'''''
    go_wp2_with fail
    refine (eval_any A2 C c2 f s2 ds _ M2.out Mr''''''.out l2 hr).mono ?_
    rw [V2.out]
    rintro e _ ⟨rfl, hb⟩
    have H7 := Lib.hid (H6.out.trans (hb.mono H6.out.size))
    have Mp''''''' := Lib.hid (Mp''''''.out.below hb)
    have Mq''''''' := Lib.hid (Mq''''''.out.below hb)
    have Mr''''''' := Lib.hid (Mr''''''.out.below hb)
    have M2' := Lib.hid (M2.out.below hb)
    clear hb Mp'''''' Mq'''''' Mr'''''' M2
    clear M2'
    rcases K2.out with ⟨k, k'⟩ | ⟨k, k'⟩ | ⟨k, k', hx2⟩
    · subst k k'
      clear K2 Y2 V2
      go_wp2_with fail
      refine (mul_any A B c d p q _ Mp'''''''.out Mq'''''''.out hp hq).mono fun e _ h => ?_
      obtain ⟨A3, c3, rfl, hb, hm⟩ := gives_at Y3.out h
      have H8 := Lib.hid (H7.out.trans (hb.mono H7.out.size))
      have Mp'''''''' := Lib.hid (Mp'''''''.out.below hb)
      have Mq'''''''' := Lib.hid (Mq'''''''.out.below hb)
      have Mr'''''''' := Lib.hid (Mr'''''''.out.below hb)
      have M3 := Lib.hid hm
      clear hb hm h Mp''''''' Mq''''''' Mr'''''''
      go_wp2_with fail
      refine (eval_any A3 C c3 f s3 ds _ M3.out Mr''''''''.out l3 hr).mono ?_
      rw [V3.out]
      rintro e _ ⟨rfl, hb⟩
      have H9 := Lib.hid (H8.out.trans (hb.mono H8.out.size))
      have Mp''''''''' := Lib.hid (Mp''''''''.out.below hb)
      have Mq''''''''' := Lib.hid (Mq''''''''.out.below hb)
      have Mr''''''''' := Lib.hid (Mr''''''''.out.below hb)
      have M3' := Lib.hid (M3.out.below hb)
      clear hb Mp'''''''' Mq'''''''' Mr'''''''' M3
      clear M3'
      clear Mp'''''''''
      clear Mq'''''''''
      clear Mr'''''''''
      rcases K3.out with ⟨k, k'⟩ | ⟨k, k'⟩ | ⟨k, k', hx3, hr3⟩
      · subst k k'
        clear K3 Y3 V3
        go_wp2
        go_ret
        exact ⟨rfl, H9.out⟩
      · subst k k'
        clear K3 Y3 V3
        go_wp2
        go_ret
        exact ⟨rfl, H9.out⟩
      · subst k k'
        clear K3 Y3 V3
        by_cases a0 : a = 0
        · subst a0
          obtain rfl : x3 = 0 := by rw [hx3, Int.zero_mul]
          clear hx3 hr3
          go_wp2
          go_ret
          exact ⟨rfl, H9.out⟩
        by_cases b0 : b = 0
        · subst b0
          obtain rfl : x3 = 0 := by rw [hx3, Int.mul_zero]
          clear hx3 hr3
          have a0' : (a == 0) = false := by simpa using a0
          clear a0
          go_wp2
          go_ret
          exact ⟨rfl, H9.out⟩
        have a0' : (a == 0) = false := by simpa using a0
        have b0' : (b == 0) = false := by simpa using b0
        have d1 : wrap64 (Int.tdiv x3 a) = b := by rw [hx3, Int.mul_tdiv_cancel_left _ a0]; have := R2.out; unfold maxV at this; unfold wrap64; omega
        have d2 : (Int.tmod x3 a == 0) = true := by rw [hx3, Int.mul_tmod_right]; rfl
        clear hx3 hr3 b0
        go_wp2
        go_ret
        exact ⟨rfl, H9.out⟩
    · subst k k'
      clear K2 Y2 V2
      go_wp2_with fail
      refine (mul_any A B c d p q _ Mp'''''''.out Mq'''''''.out hp hq).mono fun e _ h => ?_
      obtain ⟨A3, c3, rfl, hb, hm⟩ := gives_at Y3.out h
      have H8 := Lib.hid (H7.out.trans (hb.mono H7.out.size))
      have Mp'''''''' := Lib.hid (Mp'''''''.out.below hb)
      have Mq'''''''' := Lib.hid (Mq'''''''.out.below hb)
      have Mr'''''''' := Lib.hid (Mr'''''''.out.below hb)
      have M3 := Lib.hid hm
      clear hb hm h Mp''''''' Mq''''''' Mr'''''''
      go_wp2_with fail
      refine (eval_any A3 C c3 f s3 ds _ M3.out Mr''''''''.out l3 hr).mono ?_
      rw [V3.out]
      rintro e _ ⟨rfl, hb⟩
      have H9 := Lib.hid (H8.out.trans (hb.mono H8.out.size))
      have Mp''''''''' := Lib.hid (Mp''''''''.out.below hb)
      have Mq''''''''' := Lib.hid (Mq''''''''.out.below hb)
      have Mr''''''''' := Lib.hid (Mr''''''''.out.below hb)
      have M3' := Lib.hid (M3.out.below hb)
      clear hb Mp'''''''' Mq'''''''' Mr'''''''' M3
      clear M3'
      clear Mp'''''''''
      clear Mq'''''''''
      clear Mr'''''''''
      rcases K3.out with ⟨k, k'⟩ | ⟨k, k'⟩ | ⟨k, k', hx3, hr3⟩
      · subst k k'
        clear K3 Y3 V3
        go_wp2
        go_ret
        exact ⟨rfl, H9.out⟩
      · subst k k'
        clear K3 Y3 V3
        go_wp2
        go_ret
        exact ⟨rfl, H9.out⟩
      · subst k k'
        clear K3 Y3 V3
        by_cases a0 : a = 0
        · subst a0
          obtain rfl : x3 = 0 := by rw [hx3, Int.zero_mul]
          clear hx3 hr3
          go_wp2
          go_ret
          exact ⟨rfl, H9.out⟩
        by_cases b0 : b = 0
        · subst b0
          obtain rfl : x3 = 0 := by rw [hx3, Int.mul_zero]
          clear hx3 hr3
          have a0' : (a == 0) = false := by simpa using a0
          clear a0
          go_wp2
          go_ret
          exact ⟨rfl, H9.out⟩
        have a0' : (a == 0) = false := by simpa using a0
        have b0' : (b == 0) = false := by simpa using b0
        have d1 : wrap64 (Int.tdiv x3 a) = b := by rw [hx3, Int.mul_tdiv_cancel_left _ a0]; have := R2.out; unfold maxV at this; unfold wrap64; omega
        have d2 : (Int.tmod x3 a == 0) = true := by rw [hx3, Int.mul_tmod_right]; rfl
        clear hx3 hr3 b0
        go_wp2
        go_ret
        exact ⟨rfl, H9.out⟩
    · subst k k'
      clear K2 Y2 V2
      have f2 : (wrap64 (a - x2) != b) = false := by have := R2.out; unfold maxV at this; simp only [bne_eq_false_iff_eq]; unfold wrap64; omega
      clear hx2
      go_wp2_with fail
      refine (mul_any A B c d p q _ Mp'''''''.out Mq'''''''.out hp hq).mono fun e _ h => ?_
      obtain ⟨A3, c3, rfl, hb, hm⟩ := gives_at Y3.out h
      have H8 := Lib.hid (H7.out.trans (hb.mono H7.out.size))
      have Mp'''''''' := Lib.hid (Mp'''''''.out.below hb)
      have Mq'''''''' := Lib.hid (Mq'''''''.out.below hb)
      have Mr'''''''' := Lib.hid (Mr'''''''.out.below hb)
      have M3 := Lib.hid hm
      clear hb hm h Mp''''''' Mq''''''' Mr'''''''
      go_wp2_with fail
      refine (eval_any A3 C c3 f s3 ds _ M3.out Mr''''''''.out l3 hr).mono ?_
      rw [V3.out]
      rintro e _ ⟨rfl, hb⟩
      have H9 := Lib.hid (H8.out.trans (hb.mono H8.out.size))
      have Mp''''''''' := Lib.hid (Mp''''''''.out.below hb)
      have Mq''''''''' := Lib.hid (Mq''''''''.out.below hb)
      have Mr''''''''' := Lib.hid (Mr''''''''.out.below hb)
      have M3' := Lib.hid (M3.out.below hb)
      clear hb Mp'''''''' Mq'''''''' Mr'''''''' M3
      clear M3'
      clear Mp'''''''''
      clear Mq'''''''''
      clear Mr'''''''''
      rcases K3.out with ⟨k, k'⟩ | ⟨k, k'⟩ | ⟨k, k', hx3, hr3⟩
      · subst k k'
        clear K3 Y3 V3
        go_wp2
        go_ret
        exact ⟨rfl, H9.out⟩
      · subst k k'
        clear K3 Y3 V3
        go_wp2
        go_ret
        exact ⟨rfl, H9.out⟩
      · subst k k'
        clear K3 Y3 V3
        by_cases a0 : a = 0
        · subst a0
          obtain rfl : x3 = 0 := by rw [hx3, Int.zero_mul]
          clear hx3 hr3
          go_wp2
          go_ret
          exact ⟨rfl, H9.out⟩
        by_cases b0 : b = 0
        · subst b0
          obtain rfl : x3 = 0 := by rw [hx3, Int.mul_zero]
          clear hx3 hr3
          have a0' : (a == 0) = false := by simpa using a0
          clear a0
          go_wp2
          go_ret
          exact ⟨rfl, H9.out⟩
        have a0' : (a == 0) = false := by simpa using a0
        have b0' : (b == 0) = false := by simpa using b0
        have d1 : wrap64 (Int.tdiv x3 a) = b := by rw [hx3, Int.mul_tdiv_cancel_left _ a0]; have := R2.out; unfold maxV at this; unfold wrap64; omega
        have d2 : (Int.tmod x3 a == 0) = true := by rw [hx3, Int.mul_tmod_right]; rfl
        clear hx3 hr3 b0
        go_wp2
        go_ret
        exact ⟨rfl, H9.out⟩
  · subst k k'
    clear K1 Y1 V1
    have f1 : (wrap64 (x1 - a) != b) = false := by have := R2.out; unfold maxV at this; simp only [bne_eq_false_iff_eq]; unfold wrap64; omega
    clear hx1
    go_wp2_with fail
    refine (sub_any A B c d p q _ Mp'''''.out Mq'''''.out hp hq).mono fun e _ h => ?_
    obtain ⟨A2, c2, rfl, hb, hm⟩ := gives_at Y2.out h
    have H6 := Lib.hid (H5.out.trans (hb.mono H5.out.size))
    have Mp'''''' := Lib.hid (Mp'''''.out.below hb)
    have Mq'''''' := Lib.hid (Mq'''''.out.below hb)
    have Mr'''''' := Lib.hid (Mr'''''.out.below hb)
    have M2 := Lib.hid hm
    clear hb hm h Mp''''' Mq''''' Mr'''''
    go_wp2_with fail
    refine (eval_any A2 C c2 f s2 ds _ M2.out Mr''''''.out l2 hr).mono ?_
    rw [V2.out]
    rintro e _ ⟨rfl, hb⟩
    have H7 := Lib.hid (H6.out.trans (hb.mono H6.out.size))
    have Mp''''''' := Lib.hid (Mp''''''.out.below hb)
    have Mq''''''' := Lib.hid (Mq''''''.out.below hb)
    have Mr''''''' := Lib.hid (Mr''''''.out.below hb)
    have M2' := Lib.hid (M2.out.below hb)
    clear hb Mp'''''' Mq'''''' Mr'''''' M2
    clear M2'
    rcases K2.out with ⟨k, k'⟩ | ⟨k, k'⟩ | ⟨k, k', hx2⟩
    · subst k k'
      clear K2 Y2 V2
      go_wp2_with fail
      refine (mul_any A B c d p q _ Mp'''''''.out Mq'''''''.out hp hq).mono fun e _ h => ?_
      obtain ⟨A3, c3, rfl, hb, hm⟩ := gives_at Y3.out h
      have H8 := Lib.hid (H7.out.trans (hb.mono H7.out.size))
      have Mp'''''''' := Lib.hid (Mp'''''''.out.below hb)
      have Mq'''''''' := Lib.hid (Mq'''''''.out.below hb)
      have Mr'''''''' := Lib.hid (Mr'''''''.out.below hb)
      have M3 := Lib.hid hm
      clear hb hm h Mp''''''' Mq''''''' Mr'''''''
      go_wp2_with fail
      refine (eval_any A3 C c3 f s3 ds _ M3.out Mr''''''''.out l3 hr).mono ?_
      rw [V3.out]
      rintro e _ ⟨rfl, hb⟩
      have H9 := Lib.hid (H8.out.trans (hb.mono H8.out.size))
      have Mp''''''''' := Lib.hid (Mp''''''''.out.below hb)
      have Mq''''''''' := Lib.hid (Mq''''''''.out.below hb)
      have Mr''''''''' := Lib.hid (Mr''''''''.out.below hb)
      have M3' := Lib.hid (M3.out.below hb)
      clear hb Mp'''''''' Mq'''''''' Mr'''''''' M3
      clear M3'
      clear Mp'''''''''
      clear Mq'''''''''
      clear Mr'''''''''
      rcases K3.out with ⟨k, k'⟩ | ⟨k, k'⟩ | ⟨k, k', hx3, hr3⟩
      · subst k k'
        clear K3 Y3 V3
        go_wp2
        go_ret
        exact ⟨rfl, H9.out⟩
      · subst k k'
        clear K3 Y3 V3
        go_wp2
        go_ret
        exact ⟨rfl, H9.out⟩
      · subst k k'
        clear K3 Y3 V3
        by_cases a0 : a = 0
        · subst a0
          obtain rfl : x3 = 0 := by rw [hx3, Int.zero_mul]
          clear hx3 hr3
          go_wp2
          go_ret
          exact ⟨rfl, H9.out⟩
        by_cases b0 : b = 0
        · subst b0
          obtain rfl : x3 = 0 := by rw [hx3, Int.mul_zero]
          clear hx3 hr3
          have a0' : (a == 0) = false := by simpa using a0
          clear a0
          go_wp2
          go_ret
          exact ⟨rfl, H9.out⟩
        have a0' : (a == 0) = false := by simpa using a0
        have b0' : (b == 0) = false := by simpa using b0
        have d1 : wrap64 (Int.tdiv x3 a) = b := by rw [hx3, Int.mul_tdiv_cancel_left _ a0]; have := R2.out; unfold maxV at this; unfold wrap64; omega
        have d2 : (Int.tmod x3 a == 0) = true := by rw [hx3, Int.mul_tmod_right]; rfl
        clear hx3 hr3 b0
        go_wp2
        go_ret
        exact ⟨rfl, H9.out⟩
    · subst k k'
      clear K2 Y2 V2
      go_wp2_with fail
      refine (mul_any A B c d p q _ Mp'''''''.out Mq'''''''.out hp hq).mono fun e _ h => ?_
      obtain ⟨A3, c3, rfl, hb, hm⟩ := gives_at Y3.out h
      have H8 := Lib.hid (H7.out.trans (hb.mono H7.out.size))
      have Mp'''''''' := Lib.hid (Mp'''''''.out.below hb)
      have Mq'''''''' := Lib.hid (Mq'''''''.out.below hb)
      have Mr'''''''' := Lib.hid (Mr'''''''.out.below hb)
      have M3 := Lib.hid hm
      clear hb hm h Mp''''''' Mq''''''' Mr'''''''
      go_wp2_with fail
      refine (eval_any A3 C c3 f s3 ds _ M3.out Mr''''''''.out l3 hr).mono ?_
      rw [V3.out]
      rintro e _ ⟨rfl, hb⟩
      have H9 := Lib.hid (H8.out.trans (hb.mono H8.out.size))
      have Mp''''''''' := Lib.hid (Mp''''''''.out.below hb)
      have Mq''''''''' := Lib.hid (Mq''''''''.out.below hb)
      have Mr''''''''' := Lib.hid (Mr''''''''.out.below hb)
      have M3' := Lib.hid (M3.out.below hb)
      clear hb Mp'''''''' Mq'''''''' Mr'''''''' M3
      clear M3'
      clear Mp'''''''''
      clear Mq'''''''''
      clear Mr'''''''''
      rcases K3.out with ⟨k, k'⟩ | ⟨k, k'⟩ | ⟨k, k', hx3, hr3⟩
      · subst k k'
        clear K3 Y3 V3
        go_wp2
        go_ret
        exact ⟨rfl, H9.out⟩
      · subst k k'
        clear K3 Y3 V3
        go_wp2
        go_ret
        exact ⟨rfl, H9.out⟩
      · subst k k'
        clear K3 Y3 V3
        by_cases a0 : a = 0
        · subst a0
          obtain rfl : x3 = 0 := by rw [hx3, Int.zero_mul]
          clear hx3 hr3
          go_wp2
          go_ret
          exact ⟨rfl, H9.out⟩
        by_cases b0 : b = 0
        · subst b0
          obtain rfl : x3 = 0 := by rw [hx3, Int.mul_zero]
          clear hx3 hr3
          have a0' : (a == 0) = false := by simpa using a0
          clear a0
          go_wp2
          go_ret
          exact ⟨rfl, H9.out⟩
        have a0' : (a == 0) = false := by simpa using a0
        have b0' : (b == 0) = false := by simpa using b0
        have d1 : wrap64 (Int.tdiv x3 a) = b := by rw [hx3, Int.mul_tdiv_cancel_left _ a0]; have := R2.out; unfold maxV at this; unfold wrap64; omega
        have d2 : (Int.tmod x3 a == 0) = true := by rw [hx3, Int.mul_tmod_right]; rfl
        clear hx3 hr3 b0
        go_wp2
        go_ret
        exact ⟨rfl, H9.out⟩
    · subst k k'
      clear K2 Y2 V2
      have f2 : (wrap64 (a - x2) != b) = false := by have := R2.out; unfold maxV at this; simp only [bne_eq_false_iff_eq]; unfold wrap64; omega
      clear hx2
      go_wp2_with fail
      refine (mul_any A B c d p q _ Mp'''''''.out Mq'''''''.out hp hq).mono fun e _ h => ?_
      obtain ⟨A3, c3, rfl, hb, hm⟩ := gives_at Y3.out h
      have H8 := Lib.hid (H7.out.trans (hb.mono H7.out.size))
      have Mp'''''''' := Lib.hid (Mp'''''''.out.below hb)
      have Mq'''''''' := Lib.hid (Mq'''''''.out.below hb)
      have Mr'''''''' := Lib.hid (Mr'''''''.out.below hb)
      have M3 := Lib.hid hm
      clear hb hm h Mp''''''' Mq''''''' Mr'''''''
      go_wp2_with fail
      refine (eval_any A3 C c3 f s3 ds _ M3.out Mr''''''''.out l3 hr).mono ?_
      rw [V3.out]
      rintro e _ ⟨rfl, hb⟩
      have H9 := Lib.hid (H8.out.trans (hb.mono H8.out.size))
      have Mp''''''''' := Lib.hid (Mp''''''''.out.below hb)
      have Mq''''''''' := Lib.hid (Mq''''''''.out.below hb)
      have Mr''''''''' := Lib.hid (Mr''''''''.out.below hb)
      have M3' := Lib.hid (M3.out.below hb)
      clear hb Mp'''''''' Mq'''''''' Mr'''''''' M3
      clear M3'
      clear Mp'''''''''
      clear Mq'''''''''
      clear Mr'''''''''
      rcases K3.out with ⟨k, k'⟩ | ⟨k, k'⟩ | ⟨k, k', hx3, hr3⟩
      · subst k k'
        clear K3 Y3 V3
        go_wp2
        go_ret
        exact ⟨rfl, H9.out⟩
      · subst k k'
        clear K3 Y3 V3
        go_wp2
        go_ret
        exact ⟨rfl, H9.out⟩
      · subst k k'
        clear K3 Y3 V3
        by_cases a0 : a = 0
        · subst a0
          obtain rfl : x3 = 0 := by rw [hx3, Int.zero_mul]
          clear hx3 hr3
          go_wp2
          go_ret
          exact ⟨rfl, H9.out⟩
        by_cases b0 : b = 0
        · subst b0
          obtain rfl : x3 = 0 := by rw [hx3, Int.mul_zero]
          clear hx3 hr3
          have a0' : (a == 0) = false := by simpa using a0
          clear a0
          go_wp2
          go_ret
          exact ⟨rfl, H9.out⟩
        have a0' : (a == 0) = false := by simpa using a0
        have b0' : (b == 0) = false := by simpa using b0
        have d1 : wrap64 (Int.tdiv x3 a) = b := by rw [hx3, Int.mul_tdiv_cancel_left _ a0]; have := R2.out; unfold maxV at this; unfold wrap64; omega
        have d2 : (Int.tmod x3 a == 0) = true := by rw [hx3, Int.mul_tmod_right]; rfl
        clear hx3 hr3 b0
        go_wp2
        go_ret
        exact ⟨rfl, H9.out⟩

theorem own : ownKnob Try.prog.godebug = none := by kernel_rfl
theorem laid : laidOutB Try.prog = true := by kernel_rfl

set_option maxRecDepth 100000 in
theorem lifted (os : Os) (started : os.Started) (H : Type) (enc : TypeId × Value → H) :
    ReturnsInHanded {} Try.checked os 10 .any (Rows.polyValuesSpec.pre6 enc Try.prog Try.f10 Rows.polyValuesRow.domain false) (Rows.polyValuesSpec.post enc Try.prog Try.f10 false true false false) := by
  refine returnsInHanded_of_change_sized (C := Try.checked) own started (by kernel_rfl) Try.func10
    (ChangeSpec.witness6 (enc := enc) (C := Try.checked) false ⟨#[], #[.slice none 0 0, .slice none 0 0, .slice none 0 0], []⟩ 8 (by kernel_rfl) (by kernel_rfl) (by kernel_rfl) (by kernel_rfl)) ?_
  intro W base args ds gs before hval0 hW _ hsz _
  have hval : ∀ (j : Nat) t v, Try.f10.params[j]? = some t → args[j]? = some v → Value.okWide Try.prog W .any base t v := hval0
  have hW' := hW
  obtain ⟨p, q, hA0, hV, rfl, hfz, hnd⟩ := hW
  have hA : DataW.TrodAll enc Try.prog W 0 (fun _ => true) true Try.f10.params.toList args.toList ds p := hA0
  rw [Try.params10] at hA hval
  obtain ⟨v0, vs0, d0, ds0, p0, q0, hargs, rfl, rfl, h0, r0⟩ := trodAll_cons hA
  obtain ⟨v1, vs1, d1, ds1, p1, q1, rfl, rfl, rfl, h1, r1⟩ := trodAll_cons r0
  obtain ⟨v2, vs2, d2, ds2, p2, q2, rfl, rfl, rfl, h2, r2⟩ := trodAll_cons r1
  obtain ⟨rfl, rfl, rfl⟩ := trodAll_nil r2
  obtain rfl : args = #[v0, v1, v2] := by cases args; simp_all
  obtain ⟨rfl, rfl⟩ := trodVars_none hV
  obtain ⟨A0, c0, l0, rfl, m0, f0, z0⟩ := open_monos (hval 0 22 v0 rfl rfl) h0
  have s0 : l0.length ≤ 140737488355328 := by
    rcases z0 with rfl | ⟨es, sp, rfl, he⟩
    · simp
    · have := sized_slice hsz (j := 0) (t := 22) (e := 39) rfl rfl Try.underlying22
      rw [show Try.checked.prog.bytesOf 39 = 16 by kernel_rfl] at this
      unfold reachBytes at this
      omega
  obtain ⟨A1, c1, l1, rfl, m1, f1, z1⟩ := open_monos (hval 1 22 v1 rfl rfl) h1
  have s1 : l1.length ≤ 140737488355328 := by
    rcases z1 with rfl | ⟨es, sp, rfl, he⟩
    · simp
    · have := sized_slice hsz (j := 1) (t := 22) (e := 39) rfl rfl Try.underlying22
      rw [show Try.checked.prog.bytesOf 39 = 16 by kernel_rfl] at this
      unfold reachBytes at this
      omega
  obtain ⟨A2, c2, l2, rfl, m2, f2, z2⟩ := open_nums (hval 2 28 v2 rfl rfl) h2
  have s2 : l2.length ≤ 140737488355328 := by
    rcases z2 with rfl | ⟨es, sp, rfl, he⟩
    · simp
    · have := sized_slice hsz (j := 2) (t := 28) (e := 2) rfl rfl Try.underlying28
      rw [show Try.checked.prog.bytesOf 2 = 8 by kernel_rfl] at this
      unfold reachBytes at this
      omega
  clear hA0 hval0
  simp only [List.append_nil] at hW'
  refine (walk A0 c0 l0 W m0 f0 s0 A1 c1 l1 m1 f1 s1 A2 c2 l2 m2 f2 s2).mono fun e W' ⟨he, hb⟩ => ?_
  subst he
  exact ⟨_, rfl, law_post (tb := 4) hW' rfl rfl rfl Try.underlying4 laid (by rw [Try.params10]; exact fun t ht => by simp at ht; rcases ht with rfl | rfl <;> exact ⟨by kernel_rfl, by decide +kernel⟩) hb⟩

theorem over : Rows.polyValuesRow.holds Try.pinned (OpenSpec.ofChange Rows.polyValuesSpec) :=
  OpenClaim.holds_of_wide 10 Try.f10 rfl rfl rfl rfl rfl rfl rfl ⟨rfl, rfl, rfl, rfl, rfl⟩ rfl rfl rfl rfl rfl (by kernel_rfl) Try.func10 (by kernel_rfl)
    (of_decide_eq_true (by kernel_rfl)) (by unfold Func.isWrapper; first | (rw [if_pos (by decide +kernel)]; kernel_rfl) | (rw [if_neg (by decide +kernel)]; exact ⟨rfl, rfl⟩))
    (fun os started H enc _ => lifted os started H enc)

theorem proved : Rows.PolyValuesSaid :=
  over
#print axioms proved
end Go.Proofs.Ytndjaogjkchpaaa.polyValues
