/- Proved: for every input windrowlaw PolyRing returns true, and each argument reads afterwards as it read before. No condition beside the form's own. -/
import Derived.Test.YtndjaogjkchpaaaShown
import Derived.Test.YtndjaogjkchpaaaMakes
import Derived.Test.YtndjaogjkchpaaaSame
import Derived.Test.YtndjaogjkchpaaaAlg
import Derived.Test.YtndjaogjkchpaaaLaw
import Derived.JoinedTies
namespace Go.Proofs.Ytndjaogjkchpaaa.polyRing
open Go.ChangeShapes Go.WideShapes Go.ChangeAt Go.RowKit Go.Sort

set_option maxRecDepth 100000 in
set_option maxHeartbeats 1000000 in
theorem walk (A : Option Addr) (c : Nat) (p : List Mono) (w0 : World) (ha : Monos w0 A p) (_ : ∀ m ∈ p, (Lit.int .i64 m.n).wf = true) (hp : p.length ≤ 140737488355328)
    (B : Option Addr) (d : Nat) (q : List Mono) (hb : Monos w0 B q) (_ : ∀ m ∈ q, (Lit.int .i64 m.n).wf = true) (hq : q.length ≤ 140737488355328)
    (C : Option Addr) (f : Nat) (r : List Mono) (hc : Monos w0 C r) (_ : ∀ m ∈ r, (Lit.int .i64 m.n).wf = true) (hr : r.length ≤ 140737488355328) :
    Calls Try.prog 9 #[.slice A p.length c, .slice B q.length d, .slice C r.length f] w0 fun e w' => e = .returned (.bool true) ∧ Below w0.heap.size w0 w' := by
  have Mp := Lib.hid ha
  have Mq := Lib.hid hb
  have Mr := Lib.hid hc
  have H0 := Lib.hid (Below.refl w0.heap.size w0)
  clear ha hb hc
  obtain ⟨x1, z1⟩ : { x : List Mono × Int // bothP p q 1 = x } := ⟨_, rfl⟩
  obtain ⟨x2, z2⟩ : { x : List Mono × Int // mulP p q = x } := ⟨_, rfl⟩
  obtain ⟨s1, t1⟩ := both_len p q 1
  obtain ⟨s2, t2⟩ := mul_len p q
  have z3 := (add_comm q p).trans z1
  have z4 := (mul_comm q p).trans z2
  rw [z1] at s1 t1
  rw [z2] at s2 t2
  obtain ⟨a, ea⟩ := x1
  obtain ⟨b, eb⟩ := x2
  have s1' : a.length ≤ 140737488355328 := by have : a.length ≤ 48 := s1; omega
  have s2' : b.length ≤ 140737488355328 := by have : b.length ≤ 48 := s2; omega
  have Z1 := Lib.hid z1
  have Z2 := Lib.hid z2
  have Z3 := Lib.hid z3
  have Z4 := Lib.hid z4
  have T1 := Lib.hid t1
  have S1 := Lib.hid s1
  clear z1 z2 z3 z4 t1 t2 s1 s2
  go_enter Try.func9, Try.ntmps9
  go_wp2_with fail
  refine (shown_any _).mono ?_
  rintro e _ ⟨rfl, hb⟩
  have H1 := Lib.hid (H0.out.trans (hb.mono H0.out.size))
  have Mp' := Lib.hid (Mp.out.below hb)
  have Mq' := Lib.hid (Mq.out.below hb)
  have Mr' := Lib.hid (Mr.out.below hb)
  clear hb Mp Mq Mr
  go_wp2_with fail
  refine (add_any A B c d p q _ Mp'.out Mq'.out hp hq).mono fun e _ h => ?_
  obtain ⟨A1, c1, rfl, hb, hm⟩ := gives_at Z1.out h
  have H2 := Lib.hid (H1.out.trans (hb.mono H1.out.size))
  have Mp'' := Lib.hid (Mp'.out.below hb)
  have Mq'' := Lib.hid (Mq'.out.below hb)
  have Mr'' := Lib.hid (Mr'.out.below hb)
  have M1 := Lib.hid hm
  clear hb hm h Mp' Mq' Mr'
  go_wp2_with fail
  refine (add_any B A d c q p _ Mq''.out Mp''.out hq hp).mono fun e _ h => ?_
  obtain ⟨A2, c2, rfl, hb, hm⟩ := gives_at Z3.out h
  have H3 := Lib.hid (H2.out.trans (hb.mono H2.out.size))
  have Mp''' := Lib.hid (Mp''.out.below hb)
  have Mq''' := Lib.hid (Mq''.out.below hb)
  have Mr''' := Lib.hid (Mr''.out.below hb)
  have M1' := Lib.hid (M1.out.below hb)
  have M2 := Lib.hid hm
  clear hb hm h Mp'' Mq'' Mr'' M1
  go_wp2_with fail
  refine (mul_any A B c d p q _ Mp'''.out Mq'''.out hp hq).mono fun e _ h => ?_
  obtain ⟨A3, c3, rfl, hb, hm⟩ := gives_at Z2.out h
  have H4 := Lib.hid (H3.out.trans (hb.mono H3.out.size))
  have Mp'''' := Lib.hid (Mp'''.out.below hb)
  have Mq'''' := Lib.hid (Mq'''.out.below hb)
  have Mr'''' := Lib.hid (Mr'''.out.below hb)
  have M1'' := Lib.hid (M1'.out.below hb)
  have M2' := Lib.hid (M2.out.below hb)
  have M3 := Lib.hid hm
  clear hb hm h Mp''' Mq''' Mr''' M1' M2
  go_wp2_with fail
  refine (mul_any B A d c q p _ Mq''''.out Mp''''.out hq hp).mono fun e _ h => ?_
  obtain ⟨A4, c4, rfl, hb, hm⟩ := gives_at Z4.out h
  have H5 := Lib.hid (H4.out.trans (hb.mono H4.out.size))
  have Mp''''' := Lib.hid (Mp''''.out.below hb)
  have Mq''''' := Lib.hid (Mq''''.out.below hb)
  have Mr''''' := Lib.hid (Mr''''.out.below hb)
  have M1''' := Lib.hid (M1''.out.below hb)
  have M2'' := Lib.hid (M2'.out.below hb)
  have M3' := Lib.hid (M3.out.below hb)
  have M4 := Lib.hid hm
  clear hb hm h Mp'''' Mq'''' Mr'''' M1'' M2' M3
  go_wp2_with fail
  refine (same_any A1 A2 c1 c2 a a _ M1'''.out M2''.out s1').mono ?_
  rw [show sameB a a = true from (sameB_iff _ _).2 rfl]
  rintro e _ ⟨rfl, hb⟩
  have H6 := Lib.hid (H5.out.trans (hb.mono H5.out.size))
  have Mp'''''' := Lib.hid (Mp'''''.out.below hb)
  have Mq'''''' := Lib.hid (Mq'''''.out.below hb)
  have Mr'''''' := Lib.hid (Mr'''''.out.below hb)
  have M1'''' := Lib.hid (M1'''.out.below hb)
  have M2''' := Lib.hid (M2''.out.below hb)
  have M3'' := Lib.hid (M3'.out.below hb)
  have M4' := Lib.hid (M4.out.below hb)
  clear hb Mp''''' Mq''''' Mr''''' M1''' M2'' M3' M4
  clear M2'''
  go_wp2_with fail
  refine (same_any A3 A4 c3 c4 b b _ M3''.out M4'.out s2').mono ?_
  rw [show sameB b b = true from (sameB_iff _ _).2 rfl]
  rintro e _ ⟨rfl, hb⟩
  have H7 := Lib.hid (H6.out.trans (hb.mono H6.out.size))
  have Mp''''''' := Lib.hid (Mp''''''.out.below hb)
  have Mq''''''' := Lib.hid (Mq''''''.out.below hb)
  have Mr''''''' := Lib.hid (Mr''''''.out.below hb)
  have M1''''' := Lib.hid (M1''''.out.below hb)
  have M3''' := Lib.hid (M3''.out.below hb)
  have M4'' := Lib.hid (M4'.out.below hb)
  clear hb Mp'''''' Mq'''''' Mr'''''' M1'''' M3'' M4'
  clear M3'''
  clear M4''
  rcases T1.out with t | ⟨t, t'⟩
  rotate_left
  · obtain rfl : a = [] := t
    rcases t' with t' | t'
    · obtain rfl : ea = 20 := t'
      go_wp2
      go_ret
      exact ⟨rfl, H7.out⟩
    · obtain rfl : ea = 21 := t'
      go_wp2
      go_ret
      exact ⟨rfl, H7.out⟩
  obtain rfl : ea = 0 := t
  have hra := (both_ok Z1.out).2.2.2
  have Y1 := Lib.hid (back_sub Z1.out)
  have Y2 := Lib.hid (none_sub hra)
  go_wp2_with fail
  refine (sub_any A1 B c1 d a q _ M1'''''.out Mq'''''''.out s1' hq).mono fun e _ h => ?_
  obtain ⟨A5, c5, rfl, hb, hm⟩ := gives_at Y1.out h
  have H8 := Lib.hid (H7.out.trans (hb.mono H7.out.size))
  have Mp'''''''' := Lib.hid (Mp'''''''.out.below hb)
  have Mq'''''''' := Lib.hid (Mq'''''''.out.below hb)
  have Mr'''''''' := Lib.hid (Mr'''''''.out.below hb)
  have M1'''''' := Lib.hid (M1'''''.out.below hb)
  have M5 := Lib.hid hm
  clear hb hm h Mp''''''' Mq''''''' Mr''''''' M1'''''
  go_wp2_with fail
  refine (sub_any A1 A1 c1 c1 a a _ M1''''''.out M1''''''.out s1' s1').mono fun e _ h => ?_
  obtain ⟨A6, c6, rfl, hb, hm⟩ := gives_at Y2.out h
  have H9 := Lib.hid (H8.out.trans (hb.mono H8.out.size))
  have Mp''''''''' := Lib.hid (Mp''''''''.out.below hb)
  have Mq''''''''' := Lib.hid (Mq''''''''.out.below hb)
  have Mr''''''''' := Lib.hid (Mr''''''''.out.below hb)
  have M1''''''' := Lib.hid (M1''''''.out.below hb)
  have M5' := Lib.hid (M5.out.below hb)
  have M6 := Lib.hid hm
  clear hb hm h Mp'''''''' Mq'''''''' Mr'''''''' M1'''''' M5
  go_wp2_with fail
  refine (same_any A5 A c5 c p p _ M5'.out Mp'''''''''.out hp).mono ?_
  rw [show sameB p p = true from (sameB_iff _ _).2 rfl]
  rintro e _ ⟨rfl, hb⟩
  have H10 := Lib.hid (H9.out.trans (hb.mono H9.out.size))
  have Mp'''''''''' := Lib.hid (Mp'''''''''.out.below hb)
  have Mq'''''''''' := Lib.hid (Mq'''''''''.out.below hb)
  have Mr'''''''''' := Lib.hid (Mr'''''''''.out.below hb)
  have M1'''''''' := Lib.hid (M1'''''''.out.below hb)
  have M5'' := Lib.hid (M5'.out.below hb)
  have M6' := Lib.hid (M6.out.below hb)
  clear hb Mp''''''''' Mq''''''''' Mr''''''''' M1''''''' M5' M6
  clear M5''
  clear M6'
  go_wp2_with fail
  refine (right_any A1 c1 a _ M1''''''''.out s1').mono ?_
  rw [hra]
  rintro e _ ⟨rfl, hb⟩
  have H11 := Lib.hid (H10.out.trans (hb.mono H10.out.size))
  have Mp''''''''''' := Lib.hid (Mp''''''''''.out.below hb)
  have Mq''''''''''' := Lib.hid (Mq''''''''''.out.below hb)
  have Mr''''''''''' := Lib.hid (Mr''''''''''.out.below hb)
  have M1''''''''' := Lib.hid (M1''''''''.out.below hb)
  clear hb Mp'''''''''' Mq'''''''''' Mr'''''''''' M1''''''''
  obtain ⟨x3, z3⟩ : { x : List Mono × Int // mulP a r = x } := ⟨_, rfl⟩
  obtain ⟨x4, z4⟩ : { x : List Mono × Int // mulP p r = x } := ⟨_, rfl⟩
  obtain ⟨x5, z5⟩ : { x : List Mono × Int // mulP q r = x } := ⟨_, rfl⟩
  obtain ⟨s3, t3⟩ := mul_len a r
  obtain ⟨s4, t4⟩ := mul_len p r
  obtain ⟨s5, t5⟩ := mul_len q r
  rw [z3] at s3 t3
  rw [z4] at s4 t4
  rw [z5] at s5 t5
  obtain ⟨l, el⟩ := x3
  obtain ⟨x, ex⟩ := x4
  obtain ⟨y, ey⟩ := x5
  have s3' : l.length ≤ 140737488355328 := by have : l.length ≤ 48 := s3; omega
  have s4' : x.length ≤ 140737488355328 := by have : x.length ≤ 48 := s4; omega
  have s5' : y.length ≤ 140737488355328 := by have : y.length ≤ 48 := s5; omega
  have X3 := Lib.hid z3
  have X4 := Lib.hid z4
  have X5 := Lib.hid z5
  have T3 := Lib.hid t3
  have T4 := Lib.hid t4
  have T5 := Lib.hid t5
  clear z3 z4 z5 t3 t4 t5 s3 s4 s5 S1 T1 Z2 Z3 Z4
  go_wp2_with fail
  refine (mul_any A1 C c1 f a r _ M1'''''''''.out Mr'''''''''''.out s1' hr).mono fun e _ h => ?_
  obtain ⟨A7, c7, rfl, hb, hm⟩ := gives_at X3.out h
  have H12 := Lib.hid (H11.out.trans (hb.mono H11.out.size))
  have Mp'''''''''''' := Lib.hid (Mp'''''''''''.out.below hb)
  have Mq'''''''''''' := Lib.hid (Mq'''''''''''.out.below hb)
  have Mr'''''''''''' := Lib.hid (Mr'''''''''''.out.below hb)
  have M1'''''''''' := Lib.hid (M1'''''''''.out.below hb)
  have M7 := Lib.hid hm
  clear hb hm h Mp''''''''''' Mq''''''''''' Mr''''''''''' M1'''''''''
  go_wp2_with fail
  refine (mul_any A C c f p r _ Mp''''''''''''.out Mr''''''''''''.out hp hr).mono fun e _ h => ?_
  obtain ⟨A8, c8, rfl, hb, hm⟩ := gives_at X4.out h
  have H13 := Lib.hid (H12.out.trans (hb.mono H12.out.size))
  have Mp''''''''''''' := Lib.hid (Mp''''''''''''.out.below hb)
  have Mq''''''''''''' := Lib.hid (Mq''''''''''''.out.below hb)
  have Mr''''''''''''' := Lib.hid (Mr''''''''''''.out.below hb)
  have M1''''''''''' := Lib.hid (M1''''''''''.out.below hb)
  have M7' := Lib.hid (M7.out.below hb)
  have M8 := Lib.hid hm
  clear hb hm h Mp'''''''''''' Mq'''''''''''' Mr'''''''''''' M1'''''''''' M7
  go_wp2_with fail
  refine (mul_any B C d f q r _ Mq'''''''''''''.out Mr'''''''''''''.out hq hr).mono fun e _ h => ?_
  obtain ⟨A9, c9, rfl, hb, hm⟩ := gives_at X5.out h
  have H14 := Lib.hid (H13.out.trans (hb.mono H13.out.size))
  have Mp'''''''''''''' := Lib.hid (Mp'''''''''''''.out.below hb)
  have Mq'''''''''''''' := Lib.hid (Mq'''''''''''''.out.below hb)
  have Mr'''''''''''''' := Lib.hid (Mr'''''''''''''.out.below hb)
  have M1'''''''''''' := Lib.hid (M1'''''''''''.out.below hb)
  have M7'' := Lib.hid (M7'.out.below hb)
  have M8' := Lib.hid (M8.out.below hb)
  have M9 := Lib.hid hm
  clear hb hm h Mp''''''''''''' Mq''''''''''''' Mr''''''''''''' M1''''''''''' M7' M8
  clear M1''''''''''''
  clear Mp''''''''''''''
  clear Mq''''''''''''''
  clear Mr''''''''''''''
  rcases T3.out with t | ⟨_, t⟩
  rotate_left
  · rcases t with t | t
    · obtain rfl : el = 20 := t
      go_wp2
      go_ret
      exact ⟨rfl, H14.out⟩
    · obtain rfl : el = 21 := t
      go_wp2
      go_ret
      exact ⟨rfl, H14.out⟩
  obtain rfl : el = 0 := t
  rcases T4.out with t | ⟨_, t⟩
  rotate_left
  · rcases t with t | t
    · obtain rfl : ex = 20 := t
      go_wp2
      go_ret
      exact ⟨rfl, H14.out⟩
    · obtain rfl : ex = 21 := t
      go_wp2
      go_ret
      exact ⟨rfl, H14.out⟩
  obtain rfl : ex = 0 := t
  rcases T5.out with t | ⟨_, t⟩
  rotate_left
  · rcases t with t | t
    · obtain rfl : ey = 20 := t
      go_wp2
      go_ret
      exact ⟨rfl, H14.out⟩
    · obtain rfl : ey = 21 := t
      go_wp2
      go_ret
      exact ⟨rfl, H14.out⟩
  obtain rfl : ey = 0 := t
  have Y3 := Lib.hid (mul_sum Z1.out X3.out X4.out X5.out)
  go_wp2_with fail
  refine (add_any A8 A9 c8 c9 x y _ M8'.out M9.out s4' s5').mono fun e _ h => ?_
  obtain ⟨A10, c10, rfl, hb, hm⟩ := gives_at Y3.out h
  have H15 := Lib.hid (H14.out.trans (hb.mono H14.out.size))
  have M7''' := Lib.hid (M7''.out.below hb)
  have M8'' := Lib.hid (M8'.out.below hb)
  have M9' := Lib.hid (M9.out.below hb)
  have M10 := Lib.hid hm
  clear hb hm h M7'' M8' M9
  clear M8''
  clear M9'
  go_wp2_with fail
  refine (same_any A7 A10 c7 c10 l l _ M7'''.out M10.out s3').mono ?_
  rw [show sameB l l = true from (sameB_iff _ _).2 rfl]
  rintro e _ ⟨rfl, hb⟩
  have H16 := Lib.hid (H15.out.trans (hb.mono H15.out.size))
  have M7'''' := Lib.hid (M7'''.out.below hb)
  have M10' := Lib.hid (M10.out.below hb)
  clear hb M7''' M10
  go_wp2
  go_ret
  exact ⟨rfl, H16.out⟩

theorem own : ownKnob Try.prog.godebug = none := by kernel_rfl
theorem laid : laidOutB Try.prog = true := by kernel_rfl

set_option maxRecDepth 100000 in
theorem lifted (os : Os) (started : os.Started) (H : Type) (enc : TypeId × Value → H) :
    ReturnsInHanded {} Try.checked os 9 .any (Rows.polyRingSpec.pre6 enc Try.prog Try.f9 Rows.polyRingRow.domain false) (Rows.polyRingSpec.post enc Try.prog Try.f9 false true false false) := by
  refine returnsInHanded_of_change_sized (C := Try.checked) own started (by kernel_rfl) Try.func9
    (ChangeSpec.witness6 (enc := enc) (C := Try.checked) false ⟨#[], #[.slice none 0 0, .slice none 0 0, .slice none 0 0], []⟩ 8 (by kernel_rfl) (by kernel_rfl) (by kernel_rfl) (by kernel_rfl)) ?_
  intro W base args ds gs before hval0 hW _ hsz _
  have hval : ∀ (j : Nat) t v, Try.f9.params[j]? = some t → args[j]? = some v → Value.okWide Try.prog W .any base t v := hval0
  have hW' := hW
  obtain ⟨p, q, hA0, hV, rfl, hfz, hnd⟩ := hW
  have hA : DataW.TrodAll enc Try.prog W 0 (fun _ => true) true Try.f9.params.toList args.toList ds p := hA0
  rw [Try.params9] at hA hval
  obtain ⟨v0, vs0, d0, ds0, p0, q0, hargs, rfl, rfl, h0, r0⟩ := trodAll_cons hA
  obtain ⟨v1, vs1, d1, ds1, p1, q1, rfl, rfl, rfl, h1, r1⟩ := trodAll_cons r0
  obtain ⟨v2, vs2, d2, ds2, p2, q2, rfl, rfl, rfl, h2, r2⟩ := trodAll_cons r1
  obtain ⟨rfl, rfl, rfl⟩ := trodAll_nil r2
  obtain rfl : args = #[v0, v1, v2] := by cases args; simp_all
  obtain ⟨rfl, rfl⟩ := trodVars_none hV
  obtain ⟨A0, c0, l0, rfl, m0, f0, z0⟩ := open_monos (hval 0 22 v0 rfl rfl) h0
  have s0 : l0.length ≤ 140737488355328 := by
    rcases z0 with rfl | ⟨es, sp, rfl, he⟩
    · simp
    · have := sized_slice hsz (j := 0) (t := 22) (e := 39) rfl rfl Try.underlying22
      rw [show Try.checked.prog.bytesOf 39 = 16 by kernel_rfl] at this
      unfold reachBytes at this
      omega
  obtain ⟨A1, c1, l1, rfl, m1, f1, z1⟩ := open_monos (hval 1 22 v1 rfl rfl) h1
  have s1 : l1.length ≤ 140737488355328 := by
    rcases z1 with rfl | ⟨es, sp, rfl, he⟩
    · simp
    · have := sized_slice hsz (j := 1) (t := 22) (e := 39) rfl rfl Try.underlying22
      rw [show Try.checked.prog.bytesOf 39 = 16 by kernel_rfl] at this
      unfold reachBytes at this
      omega
  obtain ⟨A2, c2, l2, rfl, m2, f2, z2⟩ := open_monos (hval 2 22 v2 rfl rfl) h2
  have s2 : l2.length ≤ 140737488355328 := by
    rcases z2 with rfl | ⟨es, sp, rfl, he⟩
    · simp
    · have := sized_slice hsz (j := 2) (t := 22) (e := 39) rfl rfl Try.underlying22
      rw [show Try.checked.prog.bytesOf 39 = 16 by kernel_rfl] at this
      unfold reachBytes at this
      omega
  clear hA0 hval0
  simp only [List.append_nil] at hW'
  refine (walk A0 c0 l0 W m0 f0 s0 A1 c1 l1 m1 f1 s1 A2 c2 l2 m2 f2 s2).mono fun e W' ⟨he, hb⟩ => ?_
  subst he
  exact ⟨_, rfl, law_post (tb := 4) hW' rfl rfl rfl Try.underlying4 laid (by rw [Try.params9]; exact fun t ht => by simp at ht; rcases ht with rfl <;> exact ⟨by kernel_rfl, by decide +kernel⟩) hb⟩

theorem over : Rows.polyRingRow.holds Try.pinned (OpenSpec.ofChange Rows.polyRingSpec) :=
  OpenClaim.holds_of_wide 9 Try.f9 rfl rfl rfl rfl rfl rfl rfl ⟨rfl, rfl, rfl, rfl, rfl⟩ rfl rfl rfl rfl rfl (by kernel_rfl) Try.func9 (by kernel_rfl)
    (of_decide_eq_true (by kernel_rfl)) (by unfold Func.isWrapper; first | (rw [if_pos (by decide +kernel)]; kernel_rfl) | (rw [if_neg (by decide +kernel)]; exact ⟨rfl, rfl⟩))
    (fun os started H enc _ => lifted os started H enc)

theorem proved : Rows.PolyRingSaid :=
  over
#print axioms proved
end Go.Proofs.Ytndjaogjkchpaaa.polyRing
