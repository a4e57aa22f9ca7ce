/- Texts of one proof, one behind the other: QB, RefEval, QC. -/
import Derived.Test.YtnmhcaahkaocgaaGreatDoorM14
import Derived.Test.YtnmhcaahkaocgaaGreatDoorM9
namespace Go.Proofs.YtnmhcaahkaocgaaGreatDoor
open Go.RowKit
section
variable {f a b k z : Int} {t : Bool}
theorem fl_a(h:b= -1):Value.int .i64 (w64 (0-a))= .int .i64 (kP a b):=by rw [kP,if_pos h,Int.zero_sub]
theorem fl_b(h:b≠ -1)(h0:a.tmod b≠0)(h1:decide (a<0)≠decide (b<0)):Value.int .i64 (w64 (w64 (a.tdiv b)-1))= .int .i64 (kP a b):=by rw [kP,if_neg h,if_pos ⟨h0,h1⟩]
theorem fl_c(h:b≠ -1)(h0:a.tmod b=0):Value.int .i64 (w64 (a.tdiv b))= .int .i64 (kP a b):=by rw [kP,if_neg h,if_neg fun e=>e.1 h0]
theorem fl_d(h:b≠ -1)(h1:decide (a<0)=decide (b<0)):Value.int .i64 (w64 (a.tdiv b))= .int .i64 (kP a b):=by rw [kP,if_neg h,if_neg fun e=>e.2 h1]
theorem re_a(h:a=0):Value.int .i64 b= .int .i64 (kT 5 a b):=by subst h;rfl
theorem re_b(h:a≠0)(ha:I64 a)(hb:I64 b):Value.int .i64 (w64 (b-w64 (a*kP b a)))= .int .i64 (kT 5 a b):=by
 show _=Value.int .i64 (if a=0 then b else mM b a);rw [if_neg h,residue_is h ha hb]
theorem pw_half(h0:0<z)(h1:z<9223372036854775808):w64 (z.tdiv 2)=((z.toNat/2:Nat):Int):=by
 rw [Int.tdiv_eq_ediv_of_nonneg (by omega),w64_in (by unfold I64;omega)];omega
theorem bBz{n:Nat}{p r:Int}(h:gM n p a z.toNat=r)(hn:z.toNat<n)(h0:0<z)(h1:z<9223372036854775808){q:Int}(hq:q=if z.tmod 2=1 then w64 (p*a) else p):
  gM (n-1) q (w64 (a*a)) (w64 (z.tdiv 2)).toNat=r∧(w64 (z.tdiv 2)).toNat<n-1∧w64 (z.tdiv 2)<9223372036854775808:=by
 rw [pw_half h0 h1]
 obtain⟨n,rfl⟩: ∃k,n=k+1:=⟨n-1,by omega⟩
 have e:z.tmod 2=((z.toNat%2:Nat):Int):=by
  rw [Int.tmod_eq_emod_of_nonneg (by omega)];omega
 refine⟨?_,by omega,by omega⟩;rw [←h];show gM n q _ _=if z.toNat=0 then p else gM n (if z.toNat%2=1 then w64 (p*a) else p) (w64 (a*a)) (z.toNat/2)
 rw [if_neg (by omega),hq,e]
 congr 1
 by_cases h2:z.toNat%2=1
 ·rw [if_pos (by omega),if_pos h2]
 ·rw [if_neg (by omega),if_neg h2]
theorem pw_end{n:Nat}{p r:Int}(h:gM n p a z.toNat=r)(hn:z.toNat<n)(h0: ¬0<z):r=p:=by
 obtain⟨n,rfl⟩: ∃k,n=k+1:=⟨n-1,by omega⟩
 rw [←h];show(if z.toNat=0 then p else _)=p;rw [if_pos (by omega)]
abbrev dyT(f a b v e:Int):Prop:=Value.tuple #[.int .i64 v,.int .i64 e]= .tuple #[.int .i64 (dyadW f a b).1,.int .i64 (dyadW f a b).2]
theorem dq_no(h:cY f true=false):dyT f a b 0 10:=by simp [dyT,dyadW,h]
theorem dq_bad(ht:cY f true=true)(hr:fL f a b=true):dyT f a b 0 11:=by simp [dyT,dyadW,ht,hr]
theorem oU{v:Int}(ht:cY f true=true)(hr:fL f a b=false)(hv:v=kT f a b):dyT f a b v 0:=by simp [dyT,dyadW,ht,hr,hv]
theorem dq1(ht:cY f true=true)(h:f=1):dyT f a b (w64 (a+b)) 0:=oU ht (by subst h;rfl) (by subst h;rfl)
theorem dq2(ht:cY f true=true)(h:f=2):dyT f a b (w64 (a-b)) 0:=oU ht (by subst h;rfl) (by subst h;rfl)
theorem dq3(ht:cY f true=true)(h:f=3):dyT f a b (w64 (a*b)) 0:=oU ht (by subst h;rfl) (by subst h;rfl)
theorem dq4(ht:cY f true=true)(h:f=4)(h0:b≠0)(hb:I64 b):dyT f a b (kP a b) 0:=oU ht (by subst h;simpa [fL] using h0) (by subst h;exact floor_div h0 hb)
theorem dq4b(ht:cY f true=true)(h:f=4)(h0:b=0):dyT f a b 0 11:=dq_bad ht (by subst h h0;rfl)
theorem dq5(ht:cY f true=true)(h:f=5):dyT f a b (kT 5 a b) 0:=oU ht (by subst h;rfl) (by rw [h])
theorem dq6(ht:cY f true=true)(h:f=6):dyT f a b (if b<a then b else a) 0:=oU ht (by subst h;rfl) (by subst h;rfl)
theorem dq7(ht:cY f true=true)(h:f=7):dyT f a b (if b>a then b else a) 0:=oU ht (by subst h;rfl) (by subst h;rfl)
theorem dq8(ht:cY f true=true)(h:f=8):dyT f a b (jC (a==b)) 0:=oU ht (by subst h;rfl) (by subst h;rfl)
theorem dq9(ht:cY f true=true)(h:f=9):dyT f a b (jC (!(a==b))) 0:=oU ht (by subst h;rfl) (by subst h;rfl)
theorem dq10(ht:cY f true=true)(h:f=10):dyT f a b (jC (decide (a<b))) 0:=oU ht (by subst h;rfl) (by subst h;rfl)
theorem dq11(ht:cY f true=true)(h:f=11):dyT f a b (jC (decide (a≤b))) 0:=oU ht (by subst h;rfl) (by subst h;rfl)
theorem dq12(ht:cY f true=true)(h:f=12):dyT f a b (jC (decide (b≤a))) 0:=oU ht (by subst h;rfl) (by subst h;rfl)
theorem dq13(ht:cY f true=true)(h:f=13):dyT f a b (jC (decide (b<a))) 0:=oU ht (by subst h;rfl) (by subst h;rfl)
theorem rq14(ha:I64 a)(hb:I64 b)(h:f=14∨f=15):fL f a b=(!lI a || !lI b):=by
 have e:fL f a b=(sG a || sG b):=by rcases h with rfl | rfl<;>rfl
 rw [e,xW ha,xW hb];simp
theorem dq14(ht:cY f true=true)(h:f=14)(ha:I64 a)(hb:I64 b)(hx:lI a=true)(hy:lI b=true):dyT f a b (w64 (a*b)) 0:=oU ht (by rw [rq14 ha hb (.inl h),hx,hy];rfl) (by rw [and_bit hx hy];subst h;rfl)
theorem dq15(ht:cY f true=true)(h:f=15)(ha:I64 a)(hb:I64 b)(hx:lI a=true)(hy:lI b=true):dyT f a b (if b>a then b else a) 0:=oU ht (by rw [rq14 ha hb (.inr h),hx,hy];rfl) (by
 have e:=or_bit hx hy;unfold bGn at e;rw [e];subst h
 rfl)
theorem bAo(ht:cY f true=true)(h:f=14∨f=15)(ha:I64 a)(hb:I64 b)(hx:lI a=false∨lI b=false):dyT f a b 0 11:=dq_bad ht (by rw [rq14 ha hb h];rcases hx with e | e<;>simp [e])
theorem dq17(ht:cY f true=true)(h:f=17)(h0:0≤b):dyT f a b (qK a b) 0:=oU ht (by subst h;show decide (b<0)=false;exact decide_eq_false (by omega)) (by subst h;rfl)
theorem dq17b(ht:cY f true=true)(h:f=17)(h0:b<0):dyT f a b 0 11:=dq_bad ht (by subst h;show decide (b<0)=true;exact decide_eq_true h0)
theorem dq_x{v:Int}(ht:cY f true=true)(h1:f≠1)(h2:f≠2)(h3:f≠3)(h4:f≠4)(h5:f≠5)(h6:f≠6)(h7:f≠7)(h8:f≠8)(h9:f≠9)(h10:f≠10)(h11:f≠11)(h12:f≠12)(h13:f≠13)(h14:f≠14)(h15:f≠15)(h17:f≠17):dyT f a b v 0:=by
 exfalso
 unfold cY at ht
 by_cases e:f<1∨17<f
 ·rw [if_pos e] at ht;cases ht
 ·rw [if_neg e] at ht;have:f=16:=by omega
  rw [if_pos this] at ht;cases ht
abbrev moT(f a v e:Int):Prop:=Value.tuple #[.int .i64 v,.int .i64 e]= .tuple #[.int .i64 (monadW f a).1,.int .i64 (monadW f a).2]
theorem mq1(h:cY f false=false):moT f a 0 10:=by simp [moT,monadW,h]
theorem mq2(h:f=2):moT f a (w64 (0-a)) 0:=by
 subst h;rfl
theorem mq3(h:f=3):moT f a (w64 (jC (decide (0<a))-jC (decide (a<0)))) 0:=by subst h;rfl
theorem mq4(h:f=4):moT f a (dyadW 4 1 a).1 (dyadW 4 1 a).2:=by subst h;rfl
theorem mq5a(h:f=5)(ha:I64 a)(h0:a<0):moT f a (w64 (0-a)) 0:=by
 have e:=abs_is ha;rw [if_pos h0] at e;rw [Int.zero_sub];subst h;show _=Value.tuple #[.int .i64 (bGn a (w64 (0-a))),.int .i64 0];rw [←e]
theorem mq5b(h:f=5)(ha:I64 a)(h0: ¬a<0):moT f a a 0:=by
 have e:=abs_is ha;rw [if_neg h0] at e;subst h;show _=Value.tuple #[.int .i64 (bGn a (w64 (0-a))),.int .i64 0];rw [←e]
theorem mq16a(h:f=16)(ha:I64 a)(hb:lI a=false):moT f a 0 11:=by
 have e:sG a=true:=by have:=xW ha;rw [hb] at this;simpa using this.symm
 subst h;show _=Value.tuple #[.int .i64 (if sG a=true then ((0:Int),(11:Int)) else (xorW a 1,0)).1,.int .i64 (if sG a=true then ((0:Int),(11:Int)) else (xorW a 1,0)).2];rw [if_pos e]
theorem mq16b(h:f=16)(ha:I64 a)(hb:lI a=true):moT f a (w64 (1-a)) 0:=by
 have e:sG a=false:=by have:=xW ha;rw [hb] at this;simpa using this.symm
 subst h;show _=Value.tuple #[.int .i64 (if sG a=true then ((0:Int),(11:Int)) else (xorW a 1,0)).1,.int .i64 (if sG a=true then ((0:Int),(11:Int)) else (xorW a 1,0)).2];rw [if_neg (by rw [e];simp),not_bit hb]
theorem mqE(ht:cY f false=true)(h2:f≠2)(h3:f≠3)(h4:f≠4)(h5:f≠5)(h6:f≠16):moT f a a 0:=by simp [moT,monadW,ht,h2,h3,h4,h5,h6]
end
theorem bAd(f:Int)(two:Bool):dM Tryz.prog 155 [.int .u8 f,.bool two] [] [] (fun(_:Unit)=> .bool (cY f two)) (fun _=>[]) (fun _=>[]):=nR f two
set_option maxRecDepth 100000 in
theorem mF(t:Bool):dM Tryz.prog 159 [.bool t] [] [] (fun(_:Unit)=> .int .i64 (jC t)) (fun _=>[]) (fun _=>[]):=by
 have hT:=cZ;refine cO Tryz.func159 rfl Tryz.ntmps159 rfl ?_;intro β hM;refine sr<|sp hT ?_;refine nn<|bE<|sr<|sp hT ?_;refine nn<|bL rfl (fun hc3=>?_) (fun hc3=>?_)
 ·refine sr<|sp hT ?_;refine nn<|bI<|bH ?_;exact bN () rfl (bD rfl) .nil trivial (by simp [jC, *])
 refine bO<|bC<|sr<|sp hT ?_;refine nn<|bI ?_;exact bN () rfl (bD rfl) .nil trivial (by simp [jC, *])
set_option maxRecDepth 100000 in
theorem lQ(a:Int):dM Tryz.prog 156 [.int .i64 a] [] [] (fun(_:Unit)=> .bool (lI a)) (fun _=>[]) (fun _=>[]):=by
 have hT:=cZ;refine cO Tryz.func156 rfl Tryz.ntmps156 rfl ?_;intro β hM;refine sr<|sp hT ?_;refine nn<|sr<|sp3 hT ?_;refine cB (fun hg5=>?_) (fun hg5=>?_)
 ·have hg5:=eq_of_beq hg5;refine sk2 ?_;refine sp2 hT ?_;refine nn<|bI ?_;exact bN () rfl (bD rfl) .nil trivial (by simp [lI, *])
 have hg5:=beq_eq_false_iff_ne.1 hg5;refine sp4 hT ?_;refine nn<|bI ?_;exact bN () rfl (bD rfl) .nil trivial (by simp [lI, *])
set_option maxRecDepth 100000 in
theorem bAp(a b:Int)(hb:b≠0):dM Tryz.prog 157 [.int .i64 a,.int .i64 b] [] [] (fun(_:Unit)=> .int .i64 (kP a b)) (fun _=>[]) (fun _=>[]):=by
 have hT:=cZ;refine cO Tryz.func157 rfl Tryz.ntmps157 rfl ?_;intro β hM;refine sr<|sp hT ?_;refine nn<|bE<|sr<|sp2 hT ?_;refine nn<|bL rfl (fun hc7=>?_) (fun hc7=>?_)
 ·have hc7:=eq_of_beq hc7;refine sr<|sp3 hT ?_;refine nn<|bI<|bH ?_;exact bN () rfl (bD rfl) .nil trivial (by first | exact fl_a ‹_› | exact fl_b ‹_› ‹_› (by simp_all) | exact fl_c ‹_› ‹_› | exact fl_d ‹_› (by simp_all))
 have hc7:=beq_eq_false_iff_ne.1 hc7;refine bO<|bC<|sr<|sp2 hT ?_;refine ss (yG rfl rfl rfl (hb)) ?_;refine sp hT ?_;refine nn<|bE<|sr<|sp2 hT ?_;refine ss (yE rfl rfl rfl (hb)) ?_;refine sp2 hT ?_;refine cB (fun hg17=>?_) (fun hg17=>?_)
 ·have hg17:=bne_iff_ne.1 hg17;refine sp4 hT ?_;refine sp2 hT ?_;refine nn<|bL rfl (fun hc23=>?_) (fun hc23=>?_)
  ·have hc23:=bne_iff_ne.1 hc23;refine bB<|sp3 hT ?_;refine nn<|sr<|sp2 hT ?_;refine nn<|bI ?_;exact bN () rfl (bD rfl) .nil trivial (by first | exact fl_a ‹_› | exact fl_b ‹_› ‹_› (by simp_all) | exact fl_c ‹_› ‹_› | exact fl_d ‹_› (by simp_all))
  have hc23:=bne_eq_false_iff_eq.1 hc23;refine bO<|bC<|sr<|sp2 hT ?_;refine nn<|bI ?_;exact bN () rfl (bD rfl) .nil trivial (by first | exact fl_a ‹_› | exact fl_b ‹_› ‹_› (by simp_all) | exact fl_c ‹_› ‹_› | exact fl_d ‹_› (by simp_all))
 have hg17:=bne_eq_false_iff_eq.1 hg17;refine sk4 ?_;refine sk ?_;refine sp hT ?_;refine nn<|bS rfl rfl ?_;refine bO<|bC<|sr<|sp2 hT ?_;refine nn<|bI ?_;exact bN () rfl (bD rfl) .nil trivial (by first | exact fl_a ‹_› | exact fl_b ‹_› ‹_› (by simp_all) | exact fl_c ‹_› ‹_› | exact fl_d ‹_› (by simp_all))
set_option maxRecDepth 100000 in
theorem bGv(a b:Int)(ha:I64 a)(hb:I64 b):dM Tryz.prog 158 [.int .i64 a,.int .i64 b] [] [] (fun(_:Unit)=> .int .i64 (kT 5 a b)) (fun _=>[]) (fun _=>[]):=by
 have hT:=cZ;refine cO Tryz.func158 rfl Tryz.ntmps158 rfl ?_;intro β hM;refine sr<|sp hT ?_;refine nn<|bE<|sr<|sp2 hT ?_;refine nn<|bL rfl (fun hc6=>?_) (fun hc6=>?_)
 ·have hc6:=eq_of_beq hc6;refine sr<|sp2 hT ?_;refine nn<|bI<|bH ?_;exact bN () rfl (bD rfl) .nil trivial (by first | exact re_a ‹_› | exact re_b ‹_› ha hb)
 have hc6:=beq_eq_false_iff_ne.1 hc6;refine bO<|bC<|sr<|sp4 hT ?_;refine cK Tryz.func157 (bAp _ _ ‹_›) rfl rfl .nil trivial fun _=>?_;refine sp3 hT ?_;refine nn<|bI ?_;exact bN () rfl (bD rfl) .nil trivial (by first | exact re_a ‹_› | exact re_b ‹_› ha hb)
set_option maxRecDepth 100000 in
theorem bAx(a b:Int)(hb:I64 b):dM Tryz.prog 160 [.int .i64 a,.int .i64 b] [] [] (fun(_:Unit)=> .int .i64 (qK a b)) (fun _=>[]) (fun _=>[]):=by
 have hT:=cZ;generalize hR:qK a b=r;refine cO Tryz.func160 rfl Tryz.ntmps160 rfl ?_;intro β hM;refine sr<|sp hT ?_;refine nn<|sr<|sp hT ?_;refine nn<|bE<|bW<|cX (ι:=Nat×Int×Int×Int) [] trivial (fun⟨k,p,a,z⟩=>[(0,.int .i64 a),(1,.int .i64 z),(5,.int .i64 p)]) (fun _=>[]) (fun⟨k,p,a,z⟩=>[bU.pure (z.toNat<k∧z<9223372036854775808∧gM k p a z.toNat=r)]) (fun⟨k,p,a,z⟩=>z.toNat) (b.toNat+1,1,a,b) ⟨rfl,rfl,rfl,trivial⟩ .nil ⟨Has.pure (⟨by omega,hb.2,hR⟩),trivial⟩ ?_;rintro⟨k,p,a,z⟩;dsimp only;refine cD (Has.of mT0) fun hinv2=>?_;refine bE<|sr<|sp2 hT ?_;refine nn<|bL rfl (fun hc7=>?_) (fun hc7=>?_)
 ·have hc7:=of_decide_eq_true hc7;refine bO<|bC<|bW<|bE<|sr<|sp hT ?_;refine ss (yE rfl rfl rfl (by omega)) ?_;refine sp hT ?_;refine nn<|bL rfl (fun hc10=>?_) (fun hc10=>?_)
  ·have hc10:=eq_of_beq hc10;refine bB<|sp4 hT ?_;refine nn<|sr<|sp4 hT ?_;refine nn<|bB<|sp hT ?_;refine ss (yG rfl rfl rfl (by omega)) ?_;refine sp hT ?_;refine cA<|bY<|bC ?_
   exact cJ (k-1,_,_,w64 (z.tdiv 2)) (by dsimp only;rw [pw_half (by omega) hinv2.2.1];omega) ⟨rfl,rfl,rfl,trivial⟩ trivial .nil ⟨Has.pure (by
      first
       | (have h:=bBz hinv2.2.2 hinv2.1 (by omega) hinv2.2.1 (if_pos ‹_›).symm;exact⟨h.2.1,h.2.2,h.1⟩)
       | (have h:=bBz hinv2.2.2 hinv2.1 (by omega) hinv2.2.1 (if_neg ‹_›).symm;exact⟨h.2.1,h.2.2,h.1⟩)),trivial⟩ (bQ.drop 1)
  have hc10:=beq_eq_false_iff_ne.1 hc10;refine bO<|bC<|sr<|sp4 hT ?_;refine nn<|bB<|sp hT ?_;refine ss (yG rfl rfl rfl (by omega)) ?_;refine sp hT ?_;refine cA<|bY<|bC ?_
  exact cJ (k-1,_,_,w64 (z.tdiv 2)) (by dsimp only;rw [pw_half (by omega) hinv2.2.1];omega) ⟨rfl,rfl,rfl,trivial⟩ trivial .nil ⟨Has.pure (by
     first
      | (have h:=bBz hinv2.2.2 hinv2.1 (by omega) hinv2.2.1 (if_pos ‹_›).symm;exact⟨h.2.1,h.2.2,h.1⟩)
      | (have h:=bBz hinv2.2.2 hinv2.1 (by omega) hinv2.2.1 (if_neg ‹_›).symm;exact⟨h.2.1,h.2.2,h.1⟩)),trivial⟩ (bQ.drop 1)
 have hc7:=Int.not_lt.1 (of_decide_eq_false hc7);refine cU<|cI<|cI<|cT<|bC<|sr<|sp2 hT ?_;refine nn<|bI ?_;have hr:=pw_end hinv2.2.2 hinv2.1 (by omega);subst hr;exact bN () rfl (bD rfl) .nil trivial rfl
set_option maxHeartbeats 2000000 in
set_option maxRecDepth 100000 in
theorem nP(f a b:Int)(ha:I64 a)(hb:I64 b):dM Tryz.prog 103 [.int .u8 f,.int .i64 a,.int .i64 b] [] [] (fun(_:Unit)=> .tuple #[.int .i64 (dyadW f a b).1,.int .i64 (dyadW f a b).2]) (fun _=>[]) (fun _=>[]):=by
 have hT:=cZ;refine cO Tryz.func103 rfl Tryz.ntmps103 rfl ?_;intro β hM;refine sr<|sp2 hT ?_;refine nn<|bE<|sr<|sp hT ?_;refine cK Tryz.func155 (bAd _ _) rfl rfl .nil trivial fun _=>?_;refine sp hT ?_;refine nn<|bL rfl (fun hc10=>?_) (fun hc10=>?_)
 ·have hc10:=gR hc10;refine sr<|sp2 hT ?_;refine nn<|bI<|bH ?_;exact cC () rfl (bD rfl) (bD rfl) .nil trivial (dq_no ‹_›)
 have hc10:=gS hc10;refine bO<|bC<|bE<|sr<|sp3 hT ?_;refine cB (fun hg13=>?_) (fun hg13=>?_)
 ·have hg13:=eq_of_beq hg13;refine sp4 hT ?_;refine cB (fun hg17=>?_) (fun hg17=>?_)
  ·have hg17:=eq_of_beq hg17;refine sk4 ?_;refine sk2 ?_;refine sp2 hT ?_;refine sk4 ?_;refine sk4 ?_;refine sk4 ?_;refine sk4 ?_;refine sp hT ?_;refine nn<|cG rfl rfl ?_;refine sr<|sp2 hT ?_;refine nn<|bI<|bH ?_;exact cC () rfl (bD rfl) (bD rfl) .nil trivial (dq4b ‹_› ‹_› ‹_›)
  have hg17:=beq_eq_false_iff_ne.1 hg17;refine sp2 hT ?_;refine bT (t':=false) (by rw [hg13];rfl) ?_;refine sp hT ?_;refine sk2 ?_;refine sp4 hT ?_;refine sp hT ?_;refine bT (t':=false) (by rw [hg13];rfl) ?_;refine sp3 hT ?_;refine bT (t':=false) (by rw [hg13];rfl) ?_;refine sp2 hT ?_;refine sk4 ?_;refine sk4 ?_;refine sp2 hT ?_;refine nn<|bS rfl rfl ?_;refine bO<|bC<|bE<|sr<|sp hT ?_;refine nn<|bW<|sr<|sp hT ?_;refine bT (t':=false) (by rw [hg13];rfl) ?_;refine sp hT ?_;refine nn<|bS rfl rfl ?_;refine sr<|sp hT ?_;refine bT (t':=false) (by rw [hg13];rfl) ?_;refine sp hT ?_;refine nn<|bS rfl rfl ?_;refine sr<|sp hT ?_;refine bT (t':=false) (by rw [hg13];rfl) ?_;refine sp hT ?_;refine nn<|bS rfl rfl ?_;refine sr<|sp hT ?_;refine bT (t':=true) (by rw [hg13];rfl) ?_;refine sp hT ?_;refine nn<|cG rfl rfl ?_;refine sr<|sp2 hT ?_;refine cK Tryz.func157 (bAp _ _ ‹_›) rfl rfl .nil trivial fun _=>?_;refine sp2 hT ?_;refine nn<|bI<|bM<|bH ?_;exact cC () rfl (bD rfl) (bD rfl) .nil trivial (dq4 ‹_› ‹_› ‹_› hb)
 have hg13:=beq_eq_false_iff_ne.1 hg13;refine sk2 ?_;refine sp4 hT ?_;refine sp hT ?_;refine cB (fun hg20=>?_) (fun hg20=>?_)
 ·have hg20:=eq_of_beq hg20;refine sp4 hT ?_;refine sp hT ?_;refine cB (fun hg25=>?_) (fun hg25=>?_)
  ·have hg25:=of_decide_eq_true hg25;refine sk4 ?_;refine sk4 ?_;refine sk4 ?_;refine sk4 ?_;refine sp hT ?_;refine nn<|cG rfl rfl ?_;refine sr<|sp2 hT ?_;refine nn<|bI<|bH ?_;exact cC () rfl (bD rfl) (bD rfl) .nil trivial (dq17b ‹_› ‹_› ‹_›)
  have hg25:=Int.not_lt.1 (of_decide_eq_false hg25);refine sp2 hT ?_;refine bT (t':=false) (by rw [hg20];rfl) ?_;refine sp3 hT ?_;refine bT (t':=false) (by rw [hg20];rfl) ?_;refine sp2 hT ?_;refine sk4 ?_;refine sk4 ?_;refine sp2 hT ?_;refine nn<|bS rfl rfl ?_;refine bO<|bC<|bE<|sr<|sp hT ?_;refine nn<|bW<|sr<|sp hT ?_;refine bT (t':=false) (by rw [hg20];rfl) ?_;refine sp hT ?_;refine nn<|bS rfl rfl ?_;refine sr<|sp hT ?_;refine bT (t':=false) (by rw [hg20];rfl) ?_;refine sp hT ?_;refine nn<|bS rfl rfl ?_;refine sr<|sp hT ?_;refine bT (t':=false) (by rw [hg20];rfl) ?_;refine sp hT ?_;refine nn<|bS rfl rfl ?_;refine sr<|sp hT ?_;refine bT (t':=false) (by rw [hg20];rfl) ?_;refine sp hT ?_;refine nn<|bS rfl rfl ?_;refine sr<|sp hT ?_;refine bT (t':=false) (by rw [hg20];rfl) ?_;refine sp hT ?_;refine nn<|bS rfl rfl ?_;refine sr<|sp hT ?_;refine bT (t':=false) (by rw [hg20];rfl) ?_;refine sp hT ?_;refine nn<|bS rfl rfl ?_;refine sr<|sp hT ?_;refine bT (t':=false) (by rw [hg20];rfl) ?_;refine sp hT ?_;refine nn<|bS rfl rfl ?_;refine sr<|sp hT ?_;refine bT (t':=false) (by rw [hg20];rfl) ?_;refine sp hT ?_;refine nn<|bS rfl rfl ?_;refine sr<|sp hT ?_;refine bT (t':=false) (by rw [hg20];rfl) ?_;refine sp hT ?_;refine nn<|bS rfl rfl ?_;refine sr<|sp hT ?_;refine bT (t':=false) (by rw [hg20];rfl) ?_;refine sp hT ?_;refine nn<|bS rfl rfl ?_;refine sr<|sp hT ?_;refine bT (t':=false) (by rw [hg20];rfl) ?_;refine sp hT ?_;refine nn<|bS rfl rfl ?_;refine sr<|sp hT ?_;refine bT (t':=false) (by rw [hg20];rfl) ?_;refine sp hT ?_;refine nn<|bS rfl rfl ?_;refine sr<|sp hT ?_;refine bT (t':=false) (by rw [hg20];rfl) ?_;refine sp hT ?_;refine nn<|bS rfl rfl ?_;refine sr<|sp hT ?_;refine bT (t':=false) (by rw [hg20];rfl) ?_;refine sp hT ?_;refine nn<|bS rfl rfl ?_;refine sr<|sp hT ?_;refine bT (t':=false) (by rw [hg20];rfl) ?_;refine sp hT ?_;refine nn<|bS rfl rfl ?_;refine bO<|bY<|bC<|sr<|sp2 hT ?_;refine cK Tryz.func160 (bAx _ _ hb) rfl rfl .nil trivial fun _=>?_;refine sp2 hT ?_;refine nn<|bI ?_;exact cC () rfl (bD rfl) (bD rfl) .nil trivial (dq17 ‹_› ‹_› (by omega))
 have hg20:=beq_eq_false_iff_ne.1 hg20;refine sk2 ?_;refine sp4 hT ?_;refine sp2 hT ?_;refine cB (fun hg28=>?_) (fun hg28=>?_)
 ·have hg28:=eq_of_beq hg28;refine sk2 ?_;refine sp3 hT ?_;refine cK Tryz.func156 (lQ _) rfl rfl .nil trivial fun _=>?_;refine sp2 hT ?_;refine cB (fun hg36=>?_) (fun hg36=>?_)
  ·have hg36:=gR hg36;refine sk3 ?_;refine sp3 hT ?_;refine nn<|cG rfl rfl ?_;refine sr<|sp2 hT ?_;refine nn<|bI<|bH ?_;exact cC () rfl (bD rfl) (bD rfl) .nil trivial (by first | exact bAo ‹_› (.inl ‹_›) ha hb (.inl ‹_›) | exact bAo ‹_› (.inl ‹_›) ha hb (.inr ‹_›))
  have hg36:=gS hg36;refine sp hT ?_;refine cK Tryz.func156 (lQ _) rfl rfl .nil trivial fun _=>?_;refine sp4 hT ?_;refine nn<|bL rfl (fun hc42=>?_) (fun hc42=>?_)
  ·have hc42:=gR hc42;refine sr<|sp2 hT ?_;refine nn<|bI<|bH ?_;exact cC () rfl (bD rfl) (bD rfl) .nil trivial (by first | exact bAo ‹_› (.inl ‹_›) ha hb (.inl ‹_›) | exact bAo ‹_› (.inl ‹_›) ha hb (.inr ‹_›))
  have hc42:=gS hc42;refine bO<|bC<|bE<|sr<|sp hT ?_;refine nn<|bW<|sr<|sp hT ?_;refine bT (t':=false) (by rw [hg28];rfl) ?_;refine sp hT ?_;refine nn<|bS rfl rfl ?_;refine sr<|sp hT ?_;refine bT (t':=false) (by rw [hg28];rfl) ?_;refine sp hT ?_;refine nn<|bS rfl rfl ?_;refine sr<|sp hT ?_;refine bT (t':=false) (by rw [hg28];rfl) ?_;refine sp hT ?_;refine nn<|bS rfl rfl ?_;refine sr<|sp hT ?_;refine bT (t':=false) (by rw [hg28];rfl) ?_;refine sp hT ?_;refine nn<|bS rfl rfl ?_;refine sr<|sp hT ?_;refine bT (t':=false) (by rw [hg28];rfl) ?_;refine sp hT ?_;refine nn<|bS rfl rfl ?_;refine sr<|sp hT ?_;refine bT (t':=false) (by rw [hg28];rfl) ?_;refine sp hT ?_;refine nn<|bS rfl rfl ?_;refine sr<|sp hT ?_;refine bT (t':=false) (by rw [hg28];rfl) ?_;refine sp hT ?_;refine nn<|bS rfl rfl ?_;refine sr<|sp hT ?_;refine bT (t':=false) (by rw [hg28];rfl) ?_;refine sp hT ?_;refine nn<|bS rfl rfl ?_;refine sr<|sp hT ?_;refine bT (t':=false) (by rw [hg28];rfl) ?_;refine sp hT ?_;refine nn<|bS rfl rfl ?_;refine sr<|sp hT ?_;refine bT (t':=false) (by rw [hg28];rfl) ?_;refine sp hT ?_;refine nn<|bS rfl rfl ?_;refine sr<|sp hT ?_;refine bT (t':=false) (by rw [hg28];rfl) ?_;refine sp hT ?_;refine nn<|bS rfl rfl ?_;refine sr<|sp hT ?_;refine bT (t':=false) (by rw [hg28];rfl) ?_;refine sp hT ?_;refine nn<|bS rfl rfl ?_;refine sr<|sp hT ?_;refine bT (t':=false) (by rw [hg28];rfl) ?_;refine sp hT ?_;refine nn<|bS rfl rfl ?_;refine sr<|sp hT ?_;refine bT (t':=true) (by rw [hg28];rfl) ?_;refine sp hT ?_;refine nn<|cG rfl rfl ?_;refine sr<|sp4 hT ?_;refine sp hT ?_;refine nn<|bI<|bM<|bH ?_;exact cC () rfl (bD rfl) (bD rfl) .nil trivial (dq14 ‹_› ‹_› ha hb ‹_› ‹_›)
 have hg28:=beq_eq_false_iff_ne.1 hg28;refine sp4 hT ?_;refine cB (fun hg32=>?_) (fun hg32=>?_)
 ·have hg32:=eq_of_beq hg32;refine sp hT ?_;refine cK Tryz.func156 (lQ _) rfl rfl .nil trivial fun _=>?_;refine sp2 hT ?_;refine cB (fun hg36=>?_) (fun hg36=>?_)
  ·have hg36:=gR hg36;refine sk3 ?_;refine sp3 hT ?_;refine nn<|cG rfl rfl ?_;refine sr<|sp2 hT ?_;refine nn<|bI<|bH ?_;exact cC () rfl (bD rfl) (bD rfl) .nil trivial (by first | exact bAo ‹_› (.inr ‹_›) ha hb (.inl ‹_›) | exact bAo ‹_› (.inr ‹_›) ha hb (.inr ‹_›))
  have hg36:=gS hg36;refine sp hT ?_;refine cK Tryz.func156 (lQ _) rfl rfl .nil trivial fun _=>?_;refine sp4 hT ?_;refine nn<|bL rfl (fun hc42=>?_) (fun hc42=>?_)
  ·have hc42:=gR hc42;refine sr<|sp2 hT ?_;refine nn<|bI<|bH ?_;exact cC () rfl (bD rfl) (bD rfl) .nil trivial (by first | exact bAo ‹_› (.inr ‹_›) ha hb (.inl ‹_›) | exact bAo ‹_› (.inr ‹_›) ha hb (.inr ‹_›))
  have hc42:=gS hc42;refine bO<|bC<|bE<|sr<|sp hT ?_;refine nn<|bW<|sr<|sp hT ?_;refine bT (t':=false) (by rw [hg32];rfl) ?_;refine sp hT ?_;refine nn<|bS rfl rfl ?_;refine sr<|sp hT ?_;refine bT (t':=false) (by rw [hg32];rfl) ?_;refine sp hT ?_;refine nn<|bS rfl rfl ?_;refine sr<|sp hT ?_;refine bT (t':=false) (by rw [hg32];rfl) ?_;refine sp hT ?_;refine nn<|bS rfl rfl ?_;refine sr<|sp hT ?_;refine bT (t':=false) (by rw [hg32];rfl) ?_;refine sp hT ?_;refine nn<|bS rfl rfl ?_;refine sr<|sp hT ?_;refine bT (t':=false) (by rw [hg32];rfl) ?_;refine sp hT ?_;refine nn<|bS rfl rfl ?_;refine sr<|sp hT ?_;refine bT (t':=false) (by rw [hg32];rfl) ?_;refine sp hT ?_;refine nn<|bS rfl rfl ?_;refine sr<|sp hT ?_;refine bT (t':=false) (by rw [hg32];rfl) ?_;refine sp hT ?_;refine nn<|bS rfl rfl ?_;refine sr<|sp hT ?_;refine bT (t':=false) (by rw [hg32];rfl) ?_;refine sp hT ?_;refine nn<|bS rfl rfl ?_;refine sr<|sp hT ?_;refine bT (t':=false) (by rw [hg32];rfl) ?_;refine sp hT ?_;refine nn<|bS rfl rfl ?_;refine sr<|sp hT ?_;refine bT (t':=false) (by rw [hg32];rfl) ?_;refine sp hT ?_;refine nn<|bS rfl rfl ?_;refine sr<|sp hT ?_;refine bT (t':=false) (by rw [hg32];rfl) ?_;refine sp hT ?_;refine nn<|bS rfl rfl ?_;refine sr<|sp hT ?_;refine bT (t':=false) (by rw [hg32];rfl) ?_;refine sp hT ?_;refine nn<|bS rfl rfl ?_;refine sr<|sp hT ?_;refine bT (t':=false) (by rw [hg32];rfl) ?_;refine sp hT ?_;refine nn<|bS rfl rfl ?_;refine sr<|sp hT ?_;refine bT (t':=false) (by rw [hg32];rfl) ?_;refine sp hT ?_;refine nn<|bS rfl rfl ?_;refine sr<|sp hT ?_;refine bT (t':=true) (by rw [hg32];rfl) ?_;refine sp hT ?_;refine nn<|cG rfl rfl ?_;refine sr<|sp4 hT ?_;refine sp hT ?_;refine nn<|bI<|bM<|bH ?_;exact cC () rfl (bD rfl) (bD rfl) .nil trivial (dq15 ‹_› ‹_› ha hb ‹_› ‹_›)
 have hg32:=beq_eq_false_iff_ne.1 hg32;refine sk4 ?_;refine sk4 ?_;refine sp2 hT ?_;refine nn<|bS rfl rfl ?_;refine bO<|bC<|bE<|sr<|sp hT ?_;refine nn<|bW<|sr<|sp2 hT ?_;refine nn<|bL rfl (fun hc44=>?_) (fun hc44=>?_)
 ·have hc44:=eq_of_beq hc44;refine sr<|sp4 hT ?_;refine sp hT ?_;refine nn<|bI<|bM<|bH ?_;exact cC () rfl (bD rfl) (bD rfl) .nil trivial (dq1 ‹_› ‹_›)
 have hc44:=beq_eq_false_iff_ne.1 hc44;refine sr<|sp2 hT ?_;refine nn<|bL rfl (fun hc49=>?_) (fun hc49=>?_)
 ·have hc49:=eq_of_beq hc49;refine sr<|sp4 hT ?_;refine sp hT ?_;refine nn<|bI<|bM<|bH ?_;exact cC () rfl (bD rfl) (bD rfl) .nil trivial (dq2 ‹_› ‹_›)
 have hc49:=beq_eq_false_iff_ne.1 hc49;refine sr<|sp2 hT ?_;refine nn<|bL rfl (fun hc54=>?_) (fun hc54=>?_)
 ·have hc54:=eq_of_beq hc54;refine sr<|sp4 hT ?_;refine sp hT ?_;refine nn<|bI<|bM<|bH ?_;exact cC () rfl (bD rfl) (bD rfl) .nil trivial (dq3 ‹_› ‹_›)
 have hc54:=beq_eq_false_iff_ne.1 hc54;refine sr<|sp hT ?_;refine bT (t':=false) (beq_eq_false_iff_ne.2 hg13) ?_;refine sp hT ?_;refine nn<|bS rfl rfl ?_;refine sr<|sp2 hT ?_;refine nn<|bL rfl (fun hc64=>?_) (fun hc64=>?_)
 ·have hc64:=eq_of_beq hc64;refine sr<|sp2 hT ?_;refine cK Tryz.func158 (bGv _ _ ha hb) rfl rfl .nil trivial fun _=>?_;refine sp2 hT ?_;refine nn<|bI<|bM<|bH ?_;exact cC () rfl (bD rfl) (bD rfl) .nil trivial (dq5 ‹_› ‹_›)
 have hc64:=beq_eq_false_iff_ne.1 hc64;refine sr<|sp2 hT ?_;refine nn<|bL rfl (fun hc69=>?_) (fun hc69=>?_)
 ·have hc69:=eq_of_beq hc69;refine sr<|sp4 hT ?_;refine sp hT ?_;refine nn<|bI<|bM<|bH ?_;exact cC () rfl (bD rfl) (bD rfl) .nil trivial (dq6 ‹_› ‹_›)
 have hc69:=beq_eq_false_iff_ne.1 hc69;refine sr<|sp2 hT ?_;refine nn<|bL rfl (fun hc74=>?_) (fun hc74=>?_)
 ·have hc74:=eq_of_beq hc74;refine sr<|sp4 hT ?_;refine sp hT ?_;refine nn<|bI<|bM<|bH ?_;exact cC () rfl (bD rfl) (bD rfl) .nil trivial (dq7 ‹_› ‹_›)
 have hc74:=beq_eq_false_iff_ne.1 hc74;refine sr<|sp2 hT ?_;refine nn<|bL rfl (fun hc79=>?_) (fun hc79=>?_)
 ·have hc79:=eq_of_beq hc79;refine sr<|sp3 hT ?_;refine cK Tryz.func159 (mF _) rfl rfl .nil trivial fun _=>?_;refine sp2 hT ?_;refine nn<|bI<|bM<|bH ?_;exact cC () rfl (bD rfl) (bD rfl) .nil trivial (dq8 ‹_› ‹_›)
 have hc79:=beq_eq_false_iff_ne.1 hc79;refine sr<|sp2 hT ?_;refine nn<|bL rfl (fun hc85=>?_) (fun hc85=>?_)
 ·have hc85:=eq_of_beq hc85;refine sr<|sp3 hT ?_;refine cK Tryz.func159 (mF _) rfl rfl .nil trivial fun _=>?_;refine sp2 hT ?_;refine nn<|bI<|bM<|bH ?_;exact cC () rfl (bD rfl) (bD rfl) .nil trivial (dq9 ‹_› ‹_›)
 have hc85:=beq_eq_false_iff_ne.1 hc85;refine sr<|sp2 hT ?_;refine nn<|bL rfl (fun hc91=>?_) (fun hc91=>?_)
 ·have hc91:=eq_of_beq hc91;refine sr<|sp3 hT ?_;refine cK Tryz.func159 (mF _) rfl rfl .nil trivial fun _=>?_;refine sp2 hT ?_;refine nn<|bI<|bM<|bH ?_;exact cC () rfl (bD rfl) (bD rfl) .nil trivial (dq10 ‹_› ‹_›)
 have hc91:=beq_eq_false_iff_ne.1 hc91;refine sr<|sp2 hT ?_;refine nn<|bL rfl (fun hc97=>?_) (fun hc97=>?_)
 ·have hc97:=eq_of_beq hc97;refine sr<|sp3 hT ?_;refine cK Tryz.func159 (mF _) rfl rfl .nil trivial fun _=>?_;refine sp2 hT ?_;refine nn<|bI<|bM<|bH ?_;exact cC () rfl (bD rfl) (bD rfl) .nil trivial (dq11 ‹_› ‹_›)
 have hc97:=beq_eq_false_iff_ne.1 hc97;refine sr<|sp2 hT ?_;refine nn<|bL rfl (fun hc103=>?_) (fun hc103=>?_)
 ·have hc103:=eq_of_beq hc103;refine sr<|sp3 hT ?_;refine cK Tryz.func159 (mF _) rfl rfl .nil trivial fun _=>?_;refine sp2 hT ?_;refine nn<|bI<|bM<|bH ?_;exact cC () rfl (bD rfl) (bD rfl) .nil trivial (dq12 ‹_› ‹_›)
 have hc103:=beq_eq_false_iff_ne.1 hc103;refine sr<|sp2 hT ?_;refine nn<|bL rfl (fun hc109=>?_) (fun hc109=>?_)
 ·have hc109:=eq_of_beq hc109;refine sr<|sp3 hT ?_;refine cK Tryz.func159 (mF _) rfl rfl .nil trivial fun _=>?_;refine sp2 hT ?_;refine nn<|bI<|bM<|bH ?_;exact cC () rfl (bD rfl) (bD rfl) .nil trivial (dq13 ‹_› ‹_›)
 have hc109:=beq_eq_false_iff_ne.1 hc109;refine sr<|sp hT ?_;refine bT (t':=false) (beq_eq_false_iff_ne.2 hg28) ?_;refine sp hT ?_;refine nn<|bS rfl rfl ?_;refine sr<|sp hT ?_;refine bT (t':=false) (beq_eq_false_iff_ne.2 hg32) ?_;refine sp hT ?_;refine nn<|bS rfl rfl ?_;refine bO<|bY<|bC<|sr<|sp2 hT ?_;refine cK Tryz.func160 (bAx _ _ hb) rfl rfl .nil trivial fun _=>?_;refine sp2 hT ?_;refine nn<|bI ?_;exact cC () rfl (bD rfl) (bD rfl) .nil trivial (dq_x ‹_› ‹_› ‹_› ‹_› ‹_› ‹_› ‹_› ‹_› ‹_› ‹_› ‹_› ‹_› ‹_› ‹_› ‹_› ‹_› ‹_›)
set_option maxHeartbeats 1000000 in
set_option maxRecDepth 100000 in
theorem MonadQ_spec(f a:Int)(ha:I64 a):dM Tryz.prog 154 [.int .u8 f,.int .i64 a] [] [] (fun(_:Unit)=> .tuple #[.int .i64 (monadW f a).1,.int .i64 (monadW f a).2]) (fun _=>[]) (fun _=>[]):=by
 have hT:=cZ;refine cO Tryz.func154 rfl Tryz.ntmps154 rfl ?_;intro β hM;refine sr<|sp2 hT ?_;refine nn<|bE<|sr<|sp hT ?_;refine cK Tryz.func155 (bAd _ _) rfl rfl .nil trivial fun _=>?_;refine sp hT ?_;refine nn<|bL rfl (fun hc8=>?_) (fun hc8=>?_)
 ·have hc8:=gR hc8;refine sr<|sp2 hT ?_;refine nn<|bI<|bH ?_;exact cC () rfl (bD rfl) (bD rfl) .nil trivial (mq1 ‹_›)
 have hc8:=gS hc8;refine bO<|bC<|bE<|sr<|sp hT ?_;refine nn<|bW<|sr<|sp2 hT ?_;refine nn<|bL rfl (fun hc10=>?_) (fun hc10=>?_)
 ·have hc10:=eq_of_beq hc10;refine sr<|sp4 hT ?_;refine nn<|bI<|bM<|bH ?_;exact cC () rfl (bD rfl) (bD rfl) .nil trivial (mq2 ‹_›)
 have hc10:=beq_eq_false_iff_ne.1 hc10;refine sr<|sp2 hT ?_;refine nn<|bL rfl (fun hc14=>?_) (fun hc14=>?_)
 ·have hc14:=eq_of_beq hc14;refine sr<|sp2 hT ?_;refine cK Tryz.func159 (mF _) rfl rfl .nil trivial fun _=>?_;refine sp2 hT ?_;refine cK Tryz.func159 (mF _) rfl rfl .nil trivial fun _=>?_;refine sp3 hT ?_;refine nn<|bI<|bM<|bH ?_;exact cC () rfl (bD rfl) (bD rfl) .nil trivial (mq3 ‹_›)
 have hc14:=beq_eq_false_iff_ne.1 hc14;refine sr<|sp2 hT ?_;refine nn<|bL rfl (fun hc23=>?_) (fun hc23=>?_)
 ·have hc23:=eq_of_beq hc23;refine sr<|sp hT ?_;refine cK Tryz.func103 (nP _ _ _ (by unfold I64;omega) ha) rfl rfl .nil trivial fun _=>?_;refine sp4 hT ?_;refine nn<|bI<|bM<|bH ?_;exact cC () rfl (bD rfl) (bD rfl) .nil trivial (mq4 ‹_›)
 have hc23:=beq_eq_false_iff_ne.1 hc23;refine sr<|sp2 hT ?_;refine nn<|bL rfl (fun hc29=>?_) (fun hc29=>?_)
 ·have hc29:=eq_of_beq hc29;refine sr<|sp2 hT ?_;refine nn<|bL rfl (fun hc32=>?_) (fun hc32=>?_)
  ·have hc32:=of_decide_eq_true hc32;refine sr<|sp4 hT ?_;refine nn<|bI<|bM<|bH ?_;exact cC () rfl (bD rfl) (bD rfl) .nil trivial (by first | exact mq5a ‹_› ha ‹_› | exact mq5b ‹_› ha (by omega))
  have hc32:=Int.not_lt.1 (of_decide_eq_false hc32);refine bO<|bY<|bC<|sr<|sp3 hT ?_;refine nn<|bI ?_;exact cC () rfl (bD rfl) (bD rfl) .nil trivial (by first | exact mq5a ‹_› ha ‹_› | exact mq5b ‹_› ha (by omega))
 have hc29:=beq_eq_false_iff_ne.1 hc29;refine sr<|sp2 hT ?_;refine nn<|bL rfl (fun hc35=>?_) (fun hc35=>?_)
 ·have hc35:=eq_of_beq hc35;refine bE<|sr<|sp hT ?_;refine cK Tryz.func156 (lQ _) rfl rfl .nil trivial fun _=>?_;refine sp hT ?_;refine nn<|bL rfl (fun hc39=>?_) (fun hc39=>?_)
  ·have hc39:=gR hc39;refine sr<|sp2 hT ?_;refine nn<|bI<|bH<|bM<|bH ?_;exact cC () rfl (bD rfl) (bD rfl) .nil trivial (by first | exact mq16a ‹_› ha ‹_› | exact mq16b ‹_› ha ‹_›)
  have hc39:=gS hc39;refine bO<|bC<|sr<|sp4 hT ?_;refine nn<|bI<|bM<|bH ?_;exact cC () rfl (bD rfl) (bD rfl) .nil trivial (by first | exact mq16a ‹_› ha ‹_› | exact mq16b ‹_› ha ‹_›)
 have hc35:=beq_eq_false_iff_ne.1 hc35;refine bO<|bY<|bC<|sr<|sp3 hT ?_;refine nn<|bI ?_;exact cC () rfl (bD rfl) (bD rfl) .nil trivial (mqE ‹_› ‹_› ‹_› ‹_› ‹_› ‹_›)
set_option maxRecDepth 100000 in
theorem UnitQ_spec(f:Int):dM Tryz.prog 153 [.int .u8 f] [] [] (fun(_:Unit)=> .tuple #[.int .i64 (unitW f).1,.bool (unitW f).2]) (fun _=>[]) (fun _=>[]):=by
 have hT:=cZ;refine cO Tryz.func153 rfl Tryz.ntmps153 rfl ?_;intro β hM;refine sr<|sp2 hT ?_;refine nn<|bE<|sr<|sp hT ?_;refine nn<|bW<|bE<|sr<|sp2 hT ?_;refine nn<|bL rfl (fun hc5=>?_) (fun hc5=>?_)
 ·have hc5:=eq_of_beq hc5;refine bO<|bC<|bL rfl (fun hc5_1=>?_) (fun hc5_1=>?_)
  ·have hc5_1:=eq_of_beq hc5_1;refine sr<|sp2 hT ?_;refine nn<|bI<|bM<|bH ?_;exact cC () rfl (bD rfl) (bD rfl) .nil trivial (by first | omega | (simp [unitW, *];done) | simp [unitW,cY, *])
  have hc5_1:=beq_eq_false_iff_ne.1 hc5_1;refine bE<|sr<|sp hT ?_;refine bT (t':=false) (by rw [hc5];rfl) ?_;refine sp hT ?_;refine nn<|bS rfl rfl ?_;refine sr<|sp hT ?_;refine bT (t':=false) (by rw [hc5];rfl) ?_;refine sp hT ?_;refine nn<|bS rfl rfl ?_;refine sr<|sp hT ?_;refine bT (t':=false) (by rw [hc5];rfl) ?_;refine sp hT ?_;refine nn<|bS rfl rfl ?_;refine sr<|sp hT ?_;refine bT (t':=false) (by rw [hc5];rfl) ?_;refine sp hT ?_;refine nn<|bS rfl rfl ?_;refine sr<|sp hT ?_;refine bT (t':=false) (by rw [hc5];rfl) ?_;refine sp hT ?_;refine nn<|bS rfl rfl ?_;refine sr<|sp hT ?_;refine bT (t':=false) (by rw [hc5];rfl) ?_;refine sp hT ?_;refine nn<|bS rfl rfl ?_;refine bB<|sp hT ?_;refine bT (t':=false) (by rw [hc5];rfl) ?_;refine sp hT ?_;refine nn<|bS rfl rfl ?_;refine sr<|sp hT ?_;refine bT (t':=false) (by rw [hc5];rfl) ?_;refine sp hT ?_;refine nn<|bS rfl rfl ?_;refine sr<|sp hT ?_;refine bT (t':=false) (by rw [hc5];rfl) ?_;refine sp hT ?_;refine nn<|bS rfl rfl ?_;refine bO<|bY<|bC<|sr<|sp2 hT ?_;refine nn<|bI ?_;exact cC () rfl (bD rfl) (bD rfl) .nil trivial (by first | omega | (simp [unitW, *];done) | simp [unitW,cY, *])
 have hc5:=beq_eq_false_iff_ne.1 hc5;refine sr<|sp2 hT ?_;refine nn<|bL rfl (fun hc5_2=>?_) (fun hc5_2=>?_)
 ·have hc5_2:=eq_of_beq hc5_2;refine bO<|bC<|bL rfl (fun hc5_3=>?_) (fun hc5_3=>?_)
  ·have hc5_3:=eq_of_beq hc5_3;refine sr<|sp2 hT ?_;refine nn<|bI<|bM<|bH ?_;exact cC () rfl (bD rfl) (bD rfl) .nil trivial (by first | omega | (simp [unitW, *];done) | simp [unitW,cY, *])
  have hc5_3:=beq_eq_false_iff_ne.1 hc5_3;refine bE<|sr<|sp hT ?_;refine bT (t':=false) (by rw [hc5_2];rfl) ?_;refine sp hT ?_;refine nn<|bS rfl rfl ?_;refine sr<|sp hT ?_;refine bT (t':=false) (by rw [hc5_2];rfl) ?_;refine sp hT ?_;refine nn<|bS rfl rfl ?_;refine sr<|sp hT ?_;refine bT (t':=false) (by rw [hc5_2];rfl) ?_;refine sp hT ?_;refine nn<|bS rfl rfl ?_;refine sr<|sp hT ?_;refine bT (t':=false) (by rw [hc5_2];rfl) ?_;refine sp hT ?_;refine nn<|bS rfl rfl ?_;refine sr<|sp hT ?_;refine bT (t':=false) (by rw [hc5_2];rfl) ?_;refine sp hT ?_;refine nn<|bS rfl rfl ?_;refine sr<|sp hT ?_;refine bT (t':=false) (by rw [hc5_2];rfl) ?_;refine sp hT ?_;refine nn<|bS rfl rfl ?_;refine bB<|sp hT ?_;refine bT (t':=false) (by rw [hc5_2];rfl) ?_;refine sp hT ?_;refine nn<|bS rfl rfl ?_;refine sr<|sp hT ?_;refine bT (t':=false) (by rw [hc5_2];rfl) ?_;refine sp hT ?_;refine nn<|bS rfl rfl ?_;refine sr<|sp hT ?_;refine bT (t':=false) (by rw [hc5_2];rfl) ?_;refine sp hT ?_;refine nn<|bS rfl rfl ?_;refine bO<|bY<|bC<|sr<|sp2 hT ?_;refine nn<|bI ?_;exact cC () rfl (bD rfl) (bD rfl) .nil trivial (by first | omega | (simp [unitW, *];done) | simp [unitW,cY, *])
 have hc5_2:=beq_eq_false_iff_ne.1 hc5_2;refine sr<|sp2 hT ?_;refine nn<|bL rfl (fun hc5_4=>?_) (fun hc5_4=>?_)
 ·have hc5_4:=eq_of_beq hc5_4;refine bO<|bC<|bL rfl (fun hc5_5=>?_) (fun hc5_5=>?_)
  ·have hc5_5:=eq_of_beq hc5_5;refine sr<|sp2 hT ?_;refine nn<|bI<|bM<|bH ?_;exact cC () rfl (bD rfl) (bD rfl) .nil trivial (by first | omega | (simp [unitW, *];done) | simp [unitW,cY, *])
  have hc5_5:=beq_eq_false_iff_ne.1 hc5_5;refine bE<|sr<|sp hT ?_;refine bT (t':=false) (by rw [hc5_4];rfl) ?_;refine sp hT ?_;refine nn<|bS rfl rfl ?_;refine sr<|sp hT ?_;refine bT (t':=false) (by rw [hc5_4];rfl) ?_;refine sp hT ?_;refine nn<|bS rfl rfl ?_;refine sr<|sp hT ?_;refine bT (t':=false) (by rw [hc5_4];rfl) ?_;refine sp hT ?_;refine nn<|bS rfl rfl ?_;refine sr<|sp hT ?_;refine bT (t':=false) (by rw [hc5_4];rfl) ?_;refine sp hT ?_;refine nn<|bS rfl rfl ?_;refine sr<|sp hT ?_;refine bT (t':=false) (by rw [hc5_4];rfl) ?_;refine sp hT ?_;refine nn<|bS rfl rfl ?_;refine sr<|sp hT ?_;refine bT (t':=false) (by rw [hc5_4];rfl) ?_;refine sp hT ?_;refine nn<|bS rfl rfl ?_;refine bB<|sp hT ?_;refine bT (t':=false) (by rw [hc5_4];rfl) ?_;refine sp hT ?_;refine nn<|bS rfl rfl ?_;refine sr<|sp hT ?_;refine bT (t':=false) (by rw [hc5_4];rfl) ?_;refine sp hT ?_;refine nn<|bS rfl rfl ?_;refine sr<|sp hT ?_;refine bT (t':=false) (by rw [hc5_4];rfl) ?_;refine sp hT ?_;refine nn<|bS rfl rfl ?_;refine bO<|bY<|bC<|sr<|sp2 hT ?_;refine nn<|bI ?_;exact cC () rfl (bD rfl) (bD rfl) .nil trivial (by first | omega | (simp [unitW, *];done) | simp [unitW,cY, *])
 have hc5_4:=beq_eq_false_iff_ne.1 hc5_4;refine sr<|sp2 hT ?_;refine nn<|bL rfl (fun hc5_6=>?_) (fun hc5_6=>?_)
 ·have hc5_6:=eq_of_beq hc5_6;refine bO<|bC<|bL rfl (fun hc5_7=>?_) (fun hc5_7=>?_)
  ·have hc5_7:=eq_of_beq hc5_7;refine sr<|sp2 hT ?_;refine nn<|bI<|bM<|bH ?_;exact cC () rfl (bD rfl) (bD rfl) .nil trivial (by first | omega | (simp [unitW, *];done) | simp [unitW,cY, *])
  have hc5_7:=beq_eq_false_iff_ne.1 hc5_7;refine bE<|sr<|sp hT ?_;refine bT (t':=false) (by rw [hc5_6];rfl) ?_;refine sp hT ?_;refine nn<|bS rfl rfl ?_;refine sr<|sp hT ?_;refine bT (t':=false) (by rw [hc5_6];rfl) ?_;refine sp hT ?_;refine nn<|bS rfl rfl ?_;refine sr<|sp hT ?_;refine bT (t':=false) (by rw [hc5_6];rfl) ?_;refine sp hT ?_;refine nn<|bS rfl rfl ?_;refine sr<|sp hT ?_;refine bT (t':=false) (by rw [hc5_6];rfl) ?_;refine sp hT ?_;refine nn<|bS rfl rfl ?_;refine sr<|sp hT ?_;refine bT (t':=false) (by rw [hc5_6];rfl) ?_;refine sp hT ?_;refine nn<|bS rfl rfl ?_;refine sr<|sp hT ?_;refine bT (t':=false) (by rw [hc5_6];rfl) ?_;refine sp hT ?_;refine nn<|bS rfl rfl ?_;refine bB<|sp hT ?_;refine bT (t':=false) (by rw [hc5_6];rfl) ?_;refine sp hT ?_;refine nn<|bS rfl rfl ?_;refine sr<|sp hT ?_;refine bT (t':=false) (by rw [hc5_6];rfl) ?_;refine sp hT ?_;refine nn<|bS rfl rfl ?_;refine sr<|sp hT ?_;refine bT (t':=false) (by rw [hc5_6];rfl) ?_;refine sp hT ?_;refine nn<|bS rfl rfl ?_;refine bO<|bY<|bC<|sr<|sp2 hT ?_;refine nn<|bI ?_;exact cC () rfl (bD rfl) (bD rfl) .nil trivial (by first | omega | (simp [unitW, *];done) | simp [unitW,cY, *])
 have hc5_6:=beq_eq_false_iff_ne.1 hc5_6;refine sr<|sp2 hT ?_;refine nn<|bL rfl (fun hc5_8=>?_) (fun hc5_8=>?_)
 ·have hc5_8:=eq_of_beq hc5_8;refine bO<|bC<|bL rfl (fun hc5_9=>?_) (fun hc5_9=>?_)
  ·have hc5_9:=eq_of_beq hc5_9;refine sr<|sp2 hT ?_;refine nn<|bI<|bM<|bH ?_;exact cC () rfl (bD rfl) (bD rfl) .nil trivial (by first | omega | (simp [unitW, *];done) | simp [unitW,cY, *])
  have hc5_9:=beq_eq_false_iff_ne.1 hc5_9;refine bE<|sr<|sp hT ?_;refine bT (t':=false) (by rw [hc5_8];rfl) ?_;refine sp hT ?_;refine nn<|bS rfl rfl ?_;refine sr<|sp hT ?_;refine bT (t':=false) (by rw [hc5_8];rfl) ?_;refine sp hT ?_;refine nn<|bS rfl rfl ?_;refine sr<|sp hT ?_;refine bT (t':=false) (by rw [hc5_8];rfl) ?_;refine sp hT ?_;refine nn<|bS rfl rfl ?_;refine sr<|sp hT ?_;refine bT (t':=false) (by rw [hc5_8];rfl) ?_;refine sp hT ?_;refine nn<|bS rfl rfl ?_;refine sr<|sp hT ?_;refine bT (t':=false) (by rw [hc5_8];rfl) ?_;refine sp hT ?_;refine nn<|bS rfl rfl ?_;refine sr<|sp hT ?_;refine bT (t':=false) (by rw [hc5_8];rfl) ?_;refine sp hT ?_;refine nn<|bS rfl rfl ?_;refine bB<|sp hT ?_;refine bT (t':=false) (by rw [hc5_8];rfl) ?_;refine sp hT ?_;refine nn<|bS rfl rfl ?_;refine sr<|sp hT ?_;refine bT (t':=false) (by rw [hc5_8];rfl) ?_;refine sp hT ?_;refine nn<|bS rfl rfl ?_;refine sr<|sp hT ?_;refine bT (t':=false) (by rw [hc5_8];rfl) ?_;refine sp hT ?_;refine nn<|bS rfl rfl ?_;refine bO<|bY<|bC<|sr<|sp2 hT ?_;refine nn<|bI ?_;exact cC () rfl (bD rfl) (bD rfl) .nil trivial (by first | omega | (simp [unitW, *];done) | simp [unitW,cY, *])
 have hc5_8:=beq_eq_false_iff_ne.1 hc5_8;refine sr<|sp2 hT ?_;refine nn<|bL rfl (fun hc5_10=>?_) (fun hc5_10=>?_)
 ·have hc5_10:=eq_of_beq hc5_10;refine bO<|bC<|bL rfl (fun hc5_11=>?_) (fun hc5_11=>?_)
  ·have hc5_11:=eq_of_beq hc5_11;refine sr<|sp2 hT ?_;refine nn<|bI<|bM<|bH ?_;exact cC () rfl (bD rfl) (bD rfl) .nil trivial (by first | omega | (simp [unitW, *];done) | simp [unitW,cY, *])
  have hc5_11:=beq_eq_false_iff_ne.1 hc5_11;refine bE<|sr<|sp hT ?_;refine bT (t':=false) (by rw [hc5_10];rfl) ?_;refine sp hT ?_;refine nn<|bS rfl rfl ?_;refine sr<|sp hT ?_;refine bT (t':=false) (by rw [hc5_10];rfl) ?_;refine sp hT ?_;refine nn<|bS rfl rfl ?_;refine sr<|sp hT ?_;refine bT (t':=false) (by rw [hc5_10];rfl) ?_;refine sp hT ?_;refine nn<|bS rfl rfl ?_;refine sr<|sp hT ?_;refine bT (t':=false) (by rw [hc5_10];rfl) ?_;refine sp hT ?_;refine nn<|bS rfl rfl ?_;refine sr<|sp hT ?_;refine bT (t':=false) (by rw [hc5_10];rfl) ?_;refine sp hT ?_;refine nn<|bS rfl rfl ?_;refine sr<|sp hT ?_;refine bT (t':=false) (by rw [hc5_10];rfl) ?_;refine sp hT ?_;refine nn<|bS rfl rfl ?_;refine bB<|sp hT ?_;refine bT (t':=false) (by rw [hc5_10];rfl) ?_;refine sp hT ?_;refine nn<|bS rfl rfl ?_;refine sr<|sp hT ?_;refine bT (t':=false) (by rw [hc5_10];rfl) ?_;refine sp hT ?_;refine nn<|bS rfl rfl ?_;refine sr<|sp hT ?_;refine bT (t':=false) (by rw [hc5_10];rfl) ?_;refine sp hT ?_;refine nn<|bS rfl rfl ?_;refine bO<|bY<|bC<|sr<|sp2 hT ?_;refine nn<|bI ?_;exact cC () rfl (bD rfl) (bD rfl) .nil trivial (by first | omega | (simp [unitW, *];done) | simp [unitW,cY, *])
 have hc5_10:=beq_eq_false_iff_ne.1 hc5_10;refine bB<|sp2 hT ?_;refine nn<|bL rfl (fun hc5_12=>?_) (fun hc5_12=>?_)
 ·have hc5_12:=eq_of_beq hc5_12;refine sr<|sp2 hT ?_;refine nn<|bI<|bM<|bH ?_;exact cC () rfl (bD rfl) (bD rfl) .nil trivial (by first | omega | (simp [unitW, *];done) | simp [unitW,cY, *])
 have hc5_12:=beq_eq_false_iff_ne.1 hc5_12;refine bE<|sr<|sp2 hT ?_;refine nn<|bL rfl (fun hc13=>?_) (fun hc13=>?_)
 ·have hc13:=eq_of_beq hc13;refine bO<|bC<|bL rfl (fun hc13_13=>?_) (fun hc13_13=>?_)
  ·have hc13_13:=eq_of_beq hc13_13;refine sr<|sp2 hT ?_;refine nn<|bI<|bM<|bH ?_;exact cC () rfl (bD rfl) (bD rfl) .nil trivial (by first | omega | (simp [unitW, *];done) | simp [unitW,cY, *])
  have hc13_13:=beq_eq_false_iff_ne.1 hc13_13;refine sr<|sp hT ?_;refine bT (t':=false) (by rw [hc13];rfl) ?_;refine sp hT ?_;refine nn<|bS rfl rfl ?_;refine sr<|sp hT ?_;refine bT (t':=false) (by rw [hc13];rfl) ?_;refine sp hT ?_;refine nn<|bS rfl rfl ?_;refine bO<|bY<|bC<|sr<|sp2 hT ?_;refine nn<|bI ?_;exact cC () rfl (bD rfl) (bD rfl) .nil trivial (by first | omega | (simp [unitW, *];done) | simp [unitW,cY, *])
 have hc13:=beq_eq_false_iff_ne.1 hc13;refine sr<|sp2 hT ?_;refine nn<|bL rfl (fun hc13_14=>?_) (fun hc13_14=>?_)
 ·have hc13_14:=eq_of_beq hc13_14;refine bO<|bC<|bL rfl (fun hc13_15=>?_) (fun hc13_15=>?_)
  ·have hc13_15:=eq_of_beq hc13_15;refine sr<|sp2 hT ?_;refine nn<|bI<|bM<|bH ?_;exact cC () rfl (bD rfl) (bD rfl) .nil trivial (by first | omega | (simp [unitW, *];done) | simp [unitW,cY, *])
  have hc13_15:=beq_eq_false_iff_ne.1 hc13_15;refine sr<|sp hT ?_;refine bT (t':=false) (by rw [hc13_14];rfl) ?_;refine sp hT ?_;refine nn<|bS rfl rfl ?_;refine sr<|sp hT ?_;refine bT (t':=false) (by rw [hc13_14];rfl) ?_;refine sp hT ?_;refine nn<|bS rfl rfl ?_;refine bO<|bY<|bC<|sr<|sp2 hT ?_;refine nn<|bI ?_;exact cC () rfl (bD rfl) (bD rfl) .nil trivial (by first | omega | (simp [unitW, *];done) | simp [unitW,cY, *])
 have hc13_14:=beq_eq_false_iff_ne.1 hc13_14;refine sr<|sp2 hT ?_;refine nn<|bL rfl (fun hc13_16=>?_) (fun hc13_16=>?_)
 ·have hc13_16:=eq_of_beq hc13_16;refine bO<|bC<|bL rfl (fun hc13_17=>?_) (fun hc13_17=>?_)
  ·have hc13_17:=eq_of_beq hc13_17;refine sr<|sp2 hT ?_;refine nn<|bI<|bM<|bH ?_;exact cC () rfl (bD rfl) (bD rfl) .nil trivial (by first | omega | (simp [unitW, *];done) | simp [unitW,cY, *])
  have hc13_17:=beq_eq_false_iff_ne.1 hc13_17;refine sr<|sp hT ?_;refine bT (t':=false) (by rw [hc13_16];rfl) ?_;refine sp hT ?_;refine nn<|bS rfl rfl ?_;refine sr<|sp hT ?_;refine bT (t':=false) (by rw [hc13_16];rfl) ?_;refine sp hT ?_;refine nn<|bS rfl rfl ?_;refine bO<|bY<|bC<|sr<|sp2 hT ?_;refine nn<|bI ?_;exact cC () rfl (bD rfl) (bD rfl) .nil trivial (by first | omega | (simp [unitW, *];done) | simp [unitW,cY, *])
 have hc13_16:=beq_eq_false_iff_ne.1 hc13_16;refine sr<|sp2 hT ?_;refine nn<|bL rfl (fun hc13_18=>?_) (fun hc13_18=>?_)
 ·have hc13_18:=eq_of_beq hc13_18;refine bO<|bC<|bL rfl (fun hc13_19=>?_) (fun hc13_19=>?_)
  ·have hc13_19:=eq_of_beq hc13_19;refine sr<|sp2 hT ?_;refine nn<|bI<|bM<|bH ?_;exact cC () rfl (bD rfl) (bD rfl) .nil trivial (by first | omega | (simp [unitW, *];done) | simp [unitW,cY, *])
  have hc13_19:=beq_eq_false_iff_ne.1 hc13_19;refine sr<|sp hT ?_;refine bT (t':=false) (by rw [hc13_18];rfl) ?_;refine sp hT ?_;refine nn<|bS rfl rfl ?_;refine sr<|sp hT ?_;refine bT (t':=false) (by rw [hc13_18];rfl) ?_;refine sp hT ?_;refine nn<|bS rfl rfl ?_;refine bO<|bY<|bC<|sr<|sp2 hT ?_;refine nn<|bI ?_;exact cC () rfl (bD rfl) (bD rfl) .nil trivial (by first | omega | (simp [unitW, *];done) | simp [unitW,cY, *])
 have hc13_18:=beq_eq_false_iff_ne.1 hc13_18;refine sr<|sp2 hT ?_;refine nn<|bL rfl (fun hc13_20=>?_) (fun hc13_20=>?_)
 ·have hc13_20:=eq_of_beq hc13_20;refine bO<|bC<|bL rfl (fun hc13_21=>?_) (fun hc13_21=>?_)
  ·have hc13_21:=eq_of_beq hc13_21;refine sr<|sp2 hT ?_;refine nn<|bI<|bM<|bH ?_;exact cC () rfl (bD rfl) (bD rfl) .nil trivial (by first | omega | (simp [unitW, *];done) | simp [unitW,cY, *])
  have hc13_21:=beq_eq_false_iff_ne.1 hc13_21;refine sr<|sp hT ?_;refine bT (t':=false) (by rw [hc13_20];rfl) ?_;refine sp hT ?_;refine nn<|bS rfl rfl ?_;refine sr<|sp hT ?_;refine bT (t':=false) (by rw [hc13_20];rfl) ?_;refine sp hT ?_;refine nn<|bS rfl rfl ?_;refine bO<|bY<|bC<|sr<|sp2 hT ?_;refine nn<|bI ?_;exact cC () rfl (bD rfl) (bD rfl) .nil trivial (by first | omega | (simp [unitW, *];done) | simp [unitW,cY, *])
 have hc13_20:=beq_eq_false_iff_ne.1 hc13_20;refine sr<|sp2 hT ?_;refine nn<|bL rfl (fun hc13_22=>?_) (fun hc13_22=>?_)
 ·have hc13_22:=eq_of_beq hc13_22;refine bO<|bC<|bL rfl (fun hc13_23=>?_) (fun hc13_23=>?_)
  ·have hc13_23:=eq_of_beq hc13_23;refine sr<|sp2 hT ?_;refine nn<|bI<|bM<|bH ?_;exact cC () rfl (bD rfl) (bD rfl) .nil trivial (by first | omega | (simp [unitW, *];done) | simp [unitW,cY, *])
  have hc13_23:=beq_eq_false_iff_ne.1 hc13_23;refine sr<|sp hT ?_;refine bT (t':=false) (by rw [hc13_22];rfl) ?_;refine sp hT ?_;refine nn<|bS rfl rfl ?_;refine sr<|sp hT ?_;refine bT (t':=false) (by rw [hc13_22];rfl) ?_;refine sp hT ?_;refine nn<|bS rfl rfl ?_;refine bO<|bY<|bC<|sr<|sp2 hT ?_;refine nn<|bI ?_;exact cC () rfl (bD rfl) (bD rfl) .nil trivial (by first | omega | (simp [unitW, *];done) | simp [unitW,cY, *])
 have hc13_22:=beq_eq_false_iff_ne.1 hc13_22;refine bB<|sp2 hT ?_;refine nn<|bL rfl (fun hc13_24=>?_) (fun hc13_24=>?_)
 ·have hc13_24:=eq_of_beq hc13_24;refine sr<|sp2 hT ?_;refine nn<|bI<|bM<|bH ?_;exact cC () rfl (bD rfl) (bD rfl) .nil trivial (by first | omega | (simp [unitW, *];done) | simp [unitW,cY, *])
 have hc13_24:=beq_eq_false_iff_ne.1 hc13_24;refine sr<|sp2 hT ?_;refine nn<|bL rfl (fun hc21=>?_) (fun hc21=>?_)
 ·have hc21:=eq_of_beq hc21;refine sr<|sp2 hT ?_;refine nn<|bI<|bM<|bH ?_;exact cC () rfl (bD rfl) (bD rfl) .nil trivial (by first | omega | (simp [unitW, *];done) | simp [unitW,cY, *])
 have hc21:=beq_eq_false_iff_ne.1 hc21;refine sr<|sp2 hT ?_;refine nn<|bL rfl (fun hc23=>?_) (fun hc23=>?_)
 ·have hc23:=eq_of_beq hc23;refine sr<|sp2 hT ?_;refine nn<|bI<|bM<|bH ?_;exact cC () rfl (bD rfl) (bD rfl) .nil trivial (by first | omega | (simp [unitW, *];done) | simp [unitW,cY, *])
 have hc23:=beq_eq_false_iff_ne.1 hc23;refine bO<|bY<|bC<|sr<|sp2 hT ?_;refine nn<|bI ?_;exact cC () rfl (bD rfl) (bD rfl) .nil trivial (by first | (simp [unitW, *];done) | (simp [unitW, *];omega) | (simp [unitW,cY, *];done) | (simp [unitW,cY, *];omega))
set_option maxRecDepth 100000
set_option maxHeartbeats 400000 in
theorem bCl(B:Option Addr)(d:Nat)(ds:List Int)(k:Nat)(w:World)(hb:Ints w B ds):
  Calls Tryz.prog 204 #[.slice B ds.length d,.int .i64 k] w fun e w'=>e= .returned (.int .i64 (dF ds k))∧w=w':=by
 by_cases hlt:k<ds.length
 ·obtain⟨x,hx⟩: ∃x,ds[k]?=some x:=⟨ds[k],List.getElem?_eq_getElem hlt⟩
  obtain⟨b,o,rfl,_,hc⟩:=hb k x hx;have HX:=Lib.hid (show dF ds k=x by unfold dF;rw [List.getD_eq_getElem?_getD,hx];rfl);clear hb hx
  go_enter Tryz.func204,Tryz.ntmps204
  go_wp2
  go_ret
  exact⟨vD HX.out.symm,rfl⟩
 ·have HX:=Lib.hid (show dF ds k=0 by unfold dF;rw [List.getD_eq_getElem?_getD,List.getElem?_eq_none (by omega)];rfl);clear hb
  go_enter Tryz.func204,Tryz.ntmps204
  go_wp2
  go_ret
  exact⟨vD HX.out.symm,rfl⟩
def oJ (m:Mono)(D:Nat→Int):Int:=if (dG m D).2 then (dG m D).1 else iG+1
theorem ex_cell{w:World}{b:Nat}{m:Mono}(h:hJ w b 0 m)(k:Nat)(hk:k<6):w.cell? ⟨b,1+k,none⟩=some (.int .u8 ((m.ex k).toNat:Int)):=by
 obtain⟨_,h1,h2,h3,h4,h5,h6⟩:=h.zero
 rcases k with _ | _ | _ | _ | _ | _ | k
 ·exact h1
 ·exact h2
 ·exact h3
 ·exact h4
 ·exact h5
 ·exact h6
 ·omega
set_option maxRecDepth 100000 in
set_option maxHeartbeats 1000000 in
theorem size_any(B:Option Addr)(d:Nat)(ds:List Int)(m:Mono)(w:World)(hb:Ints w B ds)(hD: ∀k,0≤dF ds k∧dF ds k≤2147483648)(hn: -16777216≤m.n∧m.n≤16777216):
  Calls Tryz.prog 162 #[.agg #[.int .i64 m.n,.int .u8 m.e0.toNat,.int .u8 m.e1.toNat,.int .u8 m.e2.toNat,.int .u8 m.e3.toNat,.int .u8 m.e4.toNat,.int .u8 m.e5.toNat],.slice B ds.length d] w fun e w'=>e= .returned (.int .i64 (oJ m (dF ds)))∧Below w.heap.size w w':=by
 have HD:=Lib.hid hD;obtain⟨hn1,hn2⟩:=hn;have Hb:=Lib.hid hb;clear hD hb
 go_enter Tryz.func162,Tryz.ntmps162
 go_wp2
 all_goals
  have q0:hJ (w.alloc (.cells #[.int .i64 m.n,.int .u8 m.e0.toNat,.int .u8 m.e1.toNat,.int .u8 m.e2.toNat,.int .u8 m.e3.toNat,.int .u8 m.e4.toNat,.int .u8 m.e5.toNat] 75)) w.heap.size 0 m:=by simp [hJ,go_sem]
  have q2:Below w.heap.size w (w.alloc (.cells #[.int .i64 m.n,.int .u8 m.e0.toNat,.int .u8 m.e1.toNat,.int .u8 m.e2.toNat,.int .u8 m.e3.toNat,.int .u8 m.e4.toNat,.int .u8 m.e5.toNat] 75)):=by go_grown
  have Q0:=Lib.hid q0;have Q2:=Lib.hid q2;have Q3:=Lib.hid (Hb.out.below q2);clear q0 q2;generalize (w.alloc (.cells #[.int .i64 m.n,.int .u8 m.e0.toNat,.int .u8 m.e1.toNat,.int .u8 m.e2.toNat,.int .u8 m.e3.toNat,.int .u8 m.e4.toNat,.int .u8 m.e5.toNat] 75))=W0 at Q0 Q2 Q3⊢;generalize w.heap.size=X at Q0⊢
  go_loop [6] (fun i=> ∃k:Nat,k≤6∧i= .int .i64 k∧Hid (gV (fK m (dF ds))=gV ((fK m (dF ds)).drop k))) (fun i=>6-(intOf i).toNat)
  case atStart=>exact⟨0,Nat.zero_le _,rfl,rfl⟩
  case round=>
   obtain⟨k,hk,rfl,hz⟩:=hrel
   by_cases hlt:k<6
   ·have hc:=ex_cell Q0.out k hlt;have hp:=tP m (dF ds) k hlt;have HZ:=Lib.hid (show gV (fK m (dF ds))=((decide (0<(m.ex k).toNat)&&dF ds k==0) || gV ((fK m (dF ds)).drop (k+1))) by rw [hz.out,hp];rfl);clear hp hz
    by_cases he:0<(m.ex k).toNat
    ·have he1:decide (0<(m.ex k).toNat)=true:=by simpa using he
     by_cases hd:dF ds k=0
     ·have hd1:(dF ds k==0)=true:=by simpa using hd
      have HZ':=Lib.hid (show gV (fK m (dF ds))=true by rw [HZ.out,he1,hd1];rfl);clear hd HZ
      go_wp2_with (go_at_call 204;refine(bCl B d ds k _ Q3.out).mono ?_;rintro e w' ⟨rfl,rfl⟩)
      go_ret
      exact⟨vD (by unfold oJ dG;rw [HZ'.out];rfl),Q2.out⟩
     ·have hd1:(dF ds k==0)=false:=by simpa using hd
      have HZ':=Lib.hid (show gV (fK m (dF ds))=gV ((fK m (dF ds)).drop (k+1)) by rw [HZ.out,hd1,Bool.and_false,Bool.false_or]);clear hd HZ
      go_wp2_with (go_at_call 204;refine(bCl B d ds k _ Q3.out).mono ?_;rintro e w' ⟨rfl,rfl⟩)
      go_round
      case rel=>exact⟨k+1,by omega,by go_num,HZ'⟩
      case measure=>simp [intOf];omega
    ·have he1:decide (0<(m.ex k).toNat)=false:=by simpa using he
     have HZ':=Lib.hid (show gV (fK m (dF ds))=gV ((fK m (dF ds)).drop (k+1)) by rw [HZ.out,he1,Bool.false_and,Bool.false_or]);clear HZ
     go_wp2
     go_round
     case rel=>exact⟨k+1,by omega,by go_num,HZ'⟩
     case measure=>simp [intOf];omega
   ·have HZ:=Lib.hid (show gV (fK m (dF ds))=false by rw [hz.out,List.drop_of_length_le (by simp [fK];omega)];rfl);clear hz
    go_wp2
    go_loop [7,5] (fun i n=> ∃(k:Nat) (x:Int),k≤6∧i= .int .i64 k∧n= .int .i64 x∧InV x∧Hid (mY (fK m (dF ds)) (max m.n (-m.n))=mY ((fK m (dF ds)).drop k) x)) (fun i _=>6-(intOf i).toNat)
    case atStart=>exact⟨0,_,Nat.zero_le _,rfl,rfl,⟨by omega,by unfold iG;omega⟩,by show _=_;rw [List.drop_zero];try (congr 1;omega)⟩
    case round=>
     obtain⟨k2,x,hk2,rfl,rfl,hx,hmul⟩:=hrel;have HX:=Lib.hid hx;clear hx
     by_cases hlt2:k2<6
     ·have hc:=ex_cell Q0.out k2 hlt2;have HM:=Lib.hid (show mY (fK m (dF ds)) (max m.n (-m.n))=(qU (dF ds k2) (m.ex k2).toNat x).bind (mY ((fK m (dF ds)).drop (k2+1))) by rw [hmul.out,tP m (dF ds) k2 hlt2];rfl);have hd:=HD.out k2;obtain⟨hd0,hd1⟩:=hd;have hu:=(m.ex k2).toNat_lt;have HNZ:=Lib.hid (zero_not HZ.out k2 hlt2);have Hside:=Lib.hid (fun W h=>bCl B d ds k2 W h);clear hmul;generalize m.ex k2=ee at hc HM hu HNZ⊢
      go_wp2
      go_loop [8,5] (fun c n=> ∃(j:Nat) (y:Int),j≤ee.toNat∧c= .int .i64 j∧n= .int .i64 y∧InV y∧Hid (mY (fK m (dF ds)) (max m.n (-m.n))=(qU (dF ds k2) (ee.toNat-j) y).bind (mY ((fK m (dF ds)).drop (k2+1))))) (fun c _=>ee.toNat-(intOf c).toNat)
      case atStart=>exact⟨0,x,Nat.zero_le _,rfl,rfl,HX.out,HM⟩
      case round=>
       obtain⟨j,y,hj,rfl,rfl,hy,hpow⟩:=hrel;have HY:=Lib.hid hy;clear hy
       by_cases hlt3:j<ee.toNat
       ·have hd2:1≤dF ds k2:=by have:=HNZ.out (by omega);omega
        have HP:=Lib.hid (show(qU (dF ds k2) (ee.toNat-j) y)=if iG/dF ds k2<y then none else qU (dF ds k2) (ee.toNat-(j+1)) (y*dF ds k2) by rw [show ee.toNat-j=(ee.toNat-(j+1))+1 by omega,qU])
        by_cases hq:iG/dF ds k2<y
        ·have hq1:decide (4611686018427387904/dF ds k2<y)=true:=by simpa [iG] using hq
         go_wp2_with (go_at_call 204;refine(Hside.out _ Q3.out).mono ?_;rintro e w' ⟨rfl,rfl⟩)
         go_ret
         have e:dG m (dF ds)=(0,false):=by
          unfold dG;rw [HZ.out,hpow.out,HP.out,if_pos hq];rfl
         exact⟨vD (by unfold oJ;rw [e];rfl),Q2.out⟩
        ·have hq1:decide (4611686018427387904/dF ds k2<y)=false:=by simpa [iG] using hq
         have HY2:=Lib.hid (inV_mul HY.out hd2 hq);have hw:=wrap_inV HY2.out;have HP2:=Lib.hid (show mY (fK m (dF ds)) (max m.n (-m.n))=(qU (dF ds k2) (ee.toNat-(j+1)) (y*dF ds k2)).bind (mY ((fK m (dF ds)).drop (k2+1))) by rw [hpow.out,HP.out,if_neg hq]);clear HP hpow
         go_wp2_with (go_at_call 204;refine(Hside.out _ Q3.out).mono ?_;rintro e w' ⟨rfl,rfl⟩)
         go_round
         case rel=>exact⟨j+1,y*dF ds k2,by omega,by go_num,by first | rfl | rw [hw],HY2.out,HP2⟩
         case measure=>simp [intOf];omega
       ·have HP:=Lib.hid (show mY (fK m (dF ds)) (max m.n (-m.n))=mY ((fK m (dF ds)).drop (k2+1)) y by rw [hpow.out,show ee.toNat-j=0 by omega];rfl);clear hpow
        go_wp2
        go_round
        case rel=>exact⟨k2+1,y,by omega,by go_num,rfl,HY.out,HP⟩
        case measure=>simp [intOf];omega
     ·have e:dG m (dF ds)=(x,true):=by
       unfold dG;rw [HZ.out,hmul.out,List.drop_of_length_le (by simp [fK];omega)];rfl
      have He:=Lib.hid e;clear e hmul
      go_wp2
      go_ret
      exact⟨vD (by unfold oJ;rw [He.out];rfl),Q2.out⟩
theorem size_bd(m:Mono)(D:Nat→Int)(hD: ∀k,0≤D k):0≤oJ m D:=by
 unfold oJ;split
 ·exact sR m D hD
 ·unfold iG;omega
theorem bIu{m:Mono}{D:Nat→Int}{size:Int}(h0:0≤size):((dG m D).2=false∨iG-size<(dG m D).1)↔iG-size<oJ m D:=by
 unfold oJ;cases (dG m D).2
 ·simp;omega
 ·simp
theorem sizeP_ok{m:Mono}{D:Nat→Int}{size:Int}(h0:0≤size)(h: ¬iG-size<oJ m D):(dG m D).1=oJ m D:=by
 unfold oJ at*;cases hv:(dG m D).2
 ·rw [hv] at h;simp at h;omega
 ·simp
set_option maxRecDepth 100000 in
set_option maxHeartbeats 1000000 in
theorem refEval_any(A B:Option Addr)(c d:Nat)(p:List Mono)(ds:List Int)(w:World)(ha:mK w A p)(hb:Ints w B ds)(hp:p.length≤140737488355328)(hq:ds.length≤140737488355328):
  Calls Tryz.prog 106 #[.slice A p.length c,.slice B ds.length d] w fun e w'=>e= .returned (.tuple #[.int .i64 (evalP p ds).1,.int .i64 (evalP p ds).2])∧Below w.heap.size w w':=by
 have Ha:=Lib.hid ha;have Hb:=Lib.hid hb;clear ha hb;cases hrp:fX p
 ·have e:evalP p ds=(0,20):=by unfold evalP;rw [hrp];rfl
  rw [e]
  go_enter Tryz.func106,Tryz.ntmps106
  go_wp2_with fail
  refine(mH A c p _ Ha.out hp).mono ?_;rintro e w1 ⟨rfl,hb1⟩
  go_wp2
  go_ret2
  exact⟨rfl,hb1⟩
 ·by_cases h6:ds.length≤6
  ·have h61:decide ((6:Int)<(ds.length:Int))=false:=by simp;omega
   go_enter Tryz.func106,Tryz.ntmps106
   go_wp2_with fail
   refine(mH A c p _ Ha.out hp).mono ?_;rintro e w1 ⟨rfl,hb1⟩;have H1:=Lib.hid hb1;clear hb1
   go_wp2
   go_loop [6] (fun i=> ∃k:Nat,k≤ds.length∧i= .int .i64 k∧Hid (ds.all jA=(ds.drop k).all jA)) (fun i=>ds.length-(intOf i).toNat)
   case atStart=>exact⟨0,Nat.zero_le _,rfl,rfl⟩
   case round=>
    obtain⟨k,hk,rfl,hall⟩:=hrel
    by_cases hlt:k<ds.length
    ·obtain⟨x,hx⟩: ∃x,ds[k]?=some x:=⟨ds[k],List.getElem?_eq_getElem hlt⟩
     have dm:ds.drop k=x::ds.drop (k+1):=by
      rw [List.drop_eq_getElem_cons hlt];have:=(List.getElem?_eq_some_iff.1 hx).2;rw [this]
     obtain⟨b,o,rfl,hB,c0⟩:=Hb.out.below H1.out k x hx;have HAll:=Lib.hid (show ds.all jA=(jA x&&(ds.drop (k+1)).all jA) by rw [hall.out,dm,List.all_cons]);clear dm hx hall hB;cases hs:jA x
     ·have e:evalP p ds=(0,23):=by
       unfold evalP;rw [hrp,show nA ds=false by unfold nA;rw [HAll.out,hs];simp];rfl
      have He:=Lib.hid e;clear e
      have hs':x<0∨2147483648<x:=by
       have:=of_decide_eq_false hs;omega
      rcases Int.lt_or_le x 0 with hx0 | hx0
      ·have t1:decide (x<0)=true:=by simpa using hx0
       go_wp2
       go_ret2
       rw [He.out];exact⟨rfl,H1.out⟩
      ·have t1:decide (x<0)=false:=by simpa using hx0
       have t2:decide (2147483648<x)=true:=by simp;omega
       go_wp2
       go_ret2
       rw [He.out];exact⟨rfl,H1.out⟩
     ·have hs':0≤x∧x≤2147483648:=of_decide_eq_true hs;have t1:decide (x<0)=false:=by simp;omega
      have t2:decide (2147483648<x)=false:=by simp;omega
      have HA2:=Lib.hid (show ds.all jA=(ds.drop (k+1)).all jA by rw [HAll.out,hs,Bool.true_and]);clear HAll hs'
      go_wp2
      go_round
      case rel=>exact⟨k+1,by omega,by go_num,HA2⟩
      case measure=>simp [intOf];omega
    ·have hall1:ds.all jA=true:=by rw [hall.out,List.drop_of_length_le (by omega)];rfl
     have HD:=Lib.hid (xP hall1)
     have He:=Lib.hid (show evalP p ds=match jI (dF ds) p 0 0 with | some n=>(n,0) | none=>(0,22) by
      unfold evalP;rw [hrp,show nA ds=true by unfold nA;rw [hall1,decide_eq_true (by omega)];rfl]
      rfl)
     have HRP:=Lib.hid (show ∀m∈p,mN m=true by
      unfold fX at hrp;simp only [Bool.and_eq_true] at hrp
      exact oX hrp.2)
     clear hall hall1
     go_wp2
     go_loopw [9,7,8] (fun i lf sm wi=> ∃(j:Nat) (size sum:Int),j≤p.length∧i= .int .i64 j∧lf= .int .i64 (4611686018427387904-size)∧sm= .int .i64 sum∧Hid (0≤size∧size≤iG∧ -size≤sum∧sum≤size)∧Hid (jI (dF ds) p 0 0=jI (dF ds) (p.drop j) size sum)∧Below w.heap.size w wi) (fun i _ _ _=>p.length-(intOf i).toNat)
     case atStart=>exact⟨0,0,0,Nat.zero_le _,rfl,rfl,rfl,⟨by omega,by unfold iG;omega,by omega,by omega⟩,rfl,H1.out⟩
     case round=>
      obtain⟨j,size,sum,hj,rfl,rfl,rfl,hbd,hev,hbl⟩:=hrel;have HB2:=Lib.hid hbl;clear hbl
      by_cases hlt2:j<p.length
      ·obtain⟨m,hm,dm⟩:=pA hlt2;obtain⟨b,o,rfl,hB,c0,c1,c2,c3,c4,c5,c6⟩:=Ha.out.below HB2.out j m hm;have hsm:mN m=true:=HRP.out m (List.mem_of_getElem? hm);have hsm':m.n≠0∧m.n≤16777216∧ -16777216≤m.n∧m.deg≤8:=of_decide_eq_true hsm;have HV:=Lib.hid (size_bd m (dF ds) (fun k=>(HD.out k).1));obtain⟨g0,g1,g2,g3⟩:=hbd.out
       have HE:=Lib.hid (show jI (dF ds) p 0 0=if iG-size<oJ m (dF ds) then none
         else jI (dF ds) (p.drop (j+1)) (size+oJ m (dF ds)) (if m.n<0 then sum-oJ m (dF ds) else sum+oJ m (dF ds)) by
        rw [hev.out,dm,jI]
        by_cases hq:iG-size<oJ m (dF ds)
        ·rw [if_pos hq,if_pos ((bIu g0).2 hq)]
        ·rw [if_neg hq,if_neg (fun h=>hq ((bIu g0).1 h)),sizeP_ok g0 hq])
       have Hval:=Lib.hid (fun W (h:Ints W B ds)=>size_any B d ds m W h HD.out ⟨hsm'.2.2.1,hsm'.2.1⟩);have HM:=Lib.hid hm;clear hm dm hB hsm hsm' hev
       go_wp2_with fail
       refine(Hval.out _ (Hb.out.below HB2.out)).mono ?_;rintro e w5 ⟨rfl,hb5⟩;have HB5:=Lib.hid (HB2.out.trans (hb5.mono HB2.out.size));obtain⟨b2,o2,hA2,hB2,k0,_⟩:=Ha.out.below HB5.out j m HM.out;injection hA2 with hA2
       injection hA2 with hA2 hA3
       subst hA2 hA3;clear hb5 c0 c1 c2 c3 c4 c5 c6 Hval HB2 hB2 HM;generalize oJ m (dF ds)=n at HV HE⊢;have gn:0≤n:=HV.out;unfold iG at g1
       by_cases hq:iG-size<n
       ·have hq1:decide (4611686018427387904-size<n)=true:=by simpa [iG] using hq
        have e:evalP p ds=(0,22):=by rw [He.out,HE.out,if_pos hq]
        have He2:=Lib.hid e;clear e HE hq
        go_wp2
        go_ret2
        rw [He2.out];exact⟨rfl,HB5.out⟩
       ·have hq1:decide (4611686018427387904-size<n)=false:=by simpa [iG] using hq
        have hq2:size+n≤4611686018427387904:=by unfold iG at hq;omega
        by_cases hneg:m.n<0
        ·have HE2:=Lib.hid (show jI (dF ds) p 0 0=jI (dF ds) (p.drop (j+1)) (size+n) (sum-n) by rw [HE.out,if_neg hq,if_pos hneg]);have hneg1:decide (m.n<0)=true:=by simpa using hneg
         clear HE hq
         go_wp2
         go_roundw
         case rel=>exact⟨j+1,size+n,sum-n,by omega,by go_num,by go_num,by go_num,⟨by omega,by unfold iG;omega,by omega,by omega⟩,HE2,HB5.out⟩
         case measure=>simp [intOf];omega
        ·have HE2:=Lib.hid (show jI (dF ds) p 0 0=jI (dF ds) (p.drop (j+1)) (size+n) (sum+n) by rw [HE.out,if_neg hq,if_neg hneg]);have hneg1:decide (m.n<0)=false:=by simpa using hneg
         clear HE hq
         go_wp2
         go_roundw
         case rel=>exact⟨j+1,size+n,sum+n,by omega,by go_num,by go_num,by go_num,⟨by omega,by unfold iG;omega,by omega,by omega⟩,HE2,HB5.out⟩
         case measure=>simp [intOf];omega
      ·have e:evalP p ds=(sum,0):=by rw [He.out,hev.out,List.drop_of_length_le (by omega),jI]
       have He2:=Lib.hid e;clear e hev
       go_wp2
       go_ret2
       rw [He2.out];exact⟨rfl,HB2.out⟩
  ·have h61:decide ((6:Int)<(ds.length:Int))=true:=by simp;omega
   have e:evalP p ds=(0,23):=by
    unfold evalP;rw [hrp,show nA ds=false by unfold nA;rw [decide_eq_false h6];rfl];rfl
   rw [e]
   go_enter Tryz.func106,Tryz.ntmps106
   go_wp2_with fail
   refine(mH A c p _ Ha.out hp).mono ?_;rintro e w1 ⟨rfl,hb1⟩
   go_wp2
   go_ret2
   exact⟨rfl,hb1⟩
end Go.Proofs.YtnmhcaahkaocgaaGreatDoor
namespace Go.Proofs.YtnmhcaahkaocgaaGreatDoor
open Go.RowKit
def bEw (l:List Int)(i:Nat)(n:Int):Prop:=(l.take i).any pH=false∧n=if (l.take i).contains 0=true then 0 else 1
theorem sz1_start(l:List Int):bEw l 0 1:=⟨rfl,rfl⟩
section
variable {l : List Int} {i : Nat} {n x : Int} {r : Int × Int}
theorem sz1_zero(h:bEw l i n)(hx:l[i]?=some x)(h0:x=0):bEw l (i+1) 0:=by
 obtain⟨hi,e⟩:=List.getElem?_eq_some_iff.1 hx;refine⟨?_,?_⟩
 ·rw [List.take_succ_eq_append_getElem hi,e,List.any_append,h.1,h0];rfl
 ·rw [List.take_succ_eq_append_getElem hi,e,h0,if_pos (by simp)]
theorem sz1_step(h:bEw l i n)(hx:l[i]?=some x)(h1: ¬x<0)(h2: ¬65536<x)(h0:x≠0):bEw l (i+1) n:=by
 obtain⟨hi,e⟩:=List.getElem?_eq_some_iff.1 hx;refine⟨?_,?_⟩
 ·rw [List.take_succ_eq_append_getElem hi,e,List.any_append,h.1];simp [pH,h1,h2]
 ·rw [h.2,List.take_succ_eq_append_getElem hi,e];have: ¬0=x:=fun k=>h0 k.symm;simp [this]
theorem sz1_bad(hx:l[i]?=some x)(h:x<0∨65536<x):fP l=(0,61):=by
 unfold fP;rw [if_pos (.inr (List.any_eq_true.2 ⟨x,List.mem_of_getElem? hx,by unfold pH;rcases h with h | h<;>simp [h]⟩))]
def bEz (l:List Int)(i:Nat)(n:Int)(r:Int×Int):Prop:=(n=0∧r=(0,0))∨(0<n∧n≤65536∧(∀s∈l,0<s∧s≤65536)∧r=kW (l.drop i) n)
theorem sz2_start(h:bEw l i n)(hi:l.length≤i)(hl:l.length≤4)(hR:fP l=r):bEz l 0 n r:=by
 obtain⟨h1,h2⟩:=h;rw [List.take_of_length_le hi] at h1 h2
 have hall: ¬(4<l.length∨l.any pH=true):=by
  rintro(k | k)
  ·omega
  ·rw [h1] at k;cases k
 unfold fP at hR;rw [if_neg hall] at hR
 by_cases h0:l.contains 0=true
 ·rw [if_pos h0] at hR h2;exact .inl ⟨h2,hR.symm⟩
 ·rw [if_neg h0] at hR h2;subst h2;refine .inr ⟨by decide,by decide,fun s hs=>?_,hR.symm⟩
  have hb:pH s=false:=by
   cases e:pH s
   ·rfl
   ·exact absurd (List.any_eq_true.2 ⟨s,hs,e⟩) (by rw [h1];decide)
  have hz:s≠0:=fun e=>h0 (by rw [←e];simpa using hs);simp only [pH,Bool.or_eq_false_iff,decide_eq_false_iff_not] at hb;omega
theorem sz2_wrap(h:bEz l i n r)(hn:0<n)(hx:l[i]?=some x):(∀s∈l,0<s∧s≤65536)∧r=kW (l.drop i) n∧0<w64 (n*x):=by
 rcases h with h | ⟨_,h2,h3,h4⟩
 ·omega
 ·obtain⟨a,b⟩:=h3 x (List.mem_of_getElem? hx);have p0:=Int.mul_pos hn a;have p1:n*x≤65536*65536:=Int.mul_le_mul h2 b (by omega) (by omega);refine⟨h3,h4,?_⟩;have:w64 (n*x)=n*x:=gK (by omega) (by omega);omega
theorem sz2_step(h:bEz l i n r)(hn:0<n)(hx:l[i]?=some x)(hb:w64 (n*x)≤65536):bEz l (i+1) (w64 (n*x)) r:=by
 obtain⟨h3,h4,h5⟩:=sz2_wrap h hn hx;exact .inr ⟨h5,hb,h3,bEh h4 hx (Int.not_lt.2 hb)⟩
theorem sz2_big(h:bEz l i n r)(hn:0<n)(hx:l[i]?=some x)(hb:65536<w64 (n*x)):r=(0,61):=by
 obtain⟨h3,h4,h5⟩:=sz2_wrap h hn hx;exact bJs h4 hx hb
theorem sz2_end(h:bEz l i n r)(hi:l.length≤i∨n≤0):r=(n,0):=by
 rcases h with h | ⟨h1,_,_,h4⟩
 ·rw [h.2,h.1]
 ·rcases hi with hi | hi
  ·exact bJc h4 hi
  ·omega
end
theorem nQ(p:PolV)(B:Option Addr)(d:Nat)(ds:List Int)(hp:p.list.length≤140737488355328)(hd:ds.length≤140737488355328):dM Tryz.prog 106 [.slice p.addr p.list.length p.cap,.slice B ds.length d] [] [lS p,cQ.sl (.slice B ds.length d) ds] (fun _:Unit=> .tuple #[.int .i64 (evalP p.list ds).1,.int .i64 (evalP p.list ds).2]) (fun _=>[]) (fun _=>[]):=
 lU fun _ w hS h=>refEval_any _ _ _ _ _ _ w (nC hS (h _ (.head _))) (ints_of hS (h _ (.tail _ (.head _)))) hp hd
set_option maxRecDepth 100000 in
theorem size6_spec(A:Option Addr)(c:Nat)(l:List Int)(hl:l.length≤140737488355328):dM Tryz.prog 152 [.slice A l.length c] [] [cQ.sl (.slice A l.length c) l] (fun(_:Unit)=> .tuple #[.int .i64 (fP l).1,.int .i64 (fP l).2]) (fun _=>[]) (fun _=>[]):=by
 have hT:=cZ;generalize hR:fP l=r;refine cO Tryz.func152 rfl Tryz.ntmps152 rfl ?_;intro β hM;refine sr<|sp2 hT ?_;refine nn<|bE<|sr<|sp3 hT ?_;refine nn<|bL rfl (fun hc9=>?_) (fun hc9=>?_)
 ·have hc9:=of_decide_eq_true hc9;refine sr<|sp2 hT ?_;refine nn<|bI<|bH ?_;have hr:=hR.symm.trans (bDr (by first | exact .inl (by omega)));subst hr;exact cC () rfl (bD rfl) (bD rfl) .nil trivial rfl
 have hc9:=Int.not_lt.1 (of_decide_eq_false hc9);refine bO<|bC<|sr<|sp hT ?_;refine nn<|bE<|sr<|sp hT ?_;refine nn<|bW<|cX (ι:=Nat×Int) [(0,_)] ⟨rfl,trivial⟩ (fun⟨i,n⟩=>[(4,.int .i64 n),(5,.int .i64 (i:Nat))]) (fun _=>[]) (fun⟨i,n⟩=>[bU.pure (i≤l.length∧bEw l i n)]) (fun⟨i,n⟩=>l.length-i) (0,1) ⟨rfl,rfl,trivial⟩ .nil ⟨Has.pure (⟨by omega,sz1_start l⟩),trivial⟩ ?_;rintro⟨i,n⟩;dsimp only;refine cD (Has.of mT0) fun hinv5=>?_;refine bE<|sr<|sp4 hT ?_;refine nn<|bL rfl (fun hc13=>?_) (fun hc13=>?_)
 ·have hc13:=of_decide_eq_true hc13;refine bO<|bC<|bE<|bW<|bE<|sr<|sp2 hT ?_
  obtain⟨x1,hx2⟩: ∃x',l[i]?=some x':=⟨_,List.getElem?_eq_getElem (by omega)⟩
  refine ss (bV hT (k:=i) (bP (Has.of mT1)) rfl rfl rfl rfl rfl rfl rfl (by omega)) ?_;refine ss (bR hT (cM.knows (bP (Has.of mT1)) (k:=i) (x:=x1) hx2 0) rfl rfl rfl rfl rfl) ?_;refine sp2 hT ?_;refine cB (fun hg21=>?_) (fun hg21=>?_)
  ·have hg21:=of_decide_eq_true hg21;refine sk4 ?_;refine sk ?_;refine sp hT ?_;refine nn<|cG rfl rfl ?_;refine sr<|sp2 hT ?_;refine nn<|bI<|bH<|bM<|bH<|bH<|bM<|bH ?_;have hr:=hR.symm.trans (sz1_bad hx2 (by first | exact .inl (by omega) | exact .inr (by omega)));subst hr;exact cC () rfl (bD rfl) (bD rfl) .nil trivial rfl
  have hg21:=Int.not_lt.1 (of_decide_eq_false hg21);refine sp2 hT ?_;refine ss (bV hT (k:=i) (bP (Has.of mT1)) rfl rfl rfl rfl rfl rfl rfl (by omega)) ?_;refine ss (bR hT (cM.knows (bP (Has.of mT1)) (k:=i) (x:=x1) hx2 0) rfl rfl rfl rfl rfl) ?_;refine sp2 hT ?_;refine nn<|bL rfl (fun hc27=>?_) (fun hc27=>?_)
  ·have hc27:=of_decide_eq_true hc27;refine sr<|sp2 hT ?_;refine nn<|bI<|bH<|bM<|bH<|bH<|bM<|bH ?_;have hr:=hR.symm.trans (sz1_bad hx2 (by first | exact .inl (by omega) | exact .inr (by omega)));subst hr;exact cC () rfl (bD rfl) (bD rfl) .nil trivial rfl
  have hc27:=Int.not_lt.1 (of_decide_eq_false hc27);refine bO<|bC<|sr<|sp2 hT ?_;refine ss (bV hT (k:=i) (bP (Has.of mT1)) rfl rfl rfl rfl rfl rfl rfl (by omega)) ?_;refine ss (bR hT (cM.knows (bP (Has.of mT1)) (k:=i) (x:=x1) hx2 0) rfl rfl rfl rfl rfl) ?_;refine sp hT ?_;refine nn<|bL rfl (fun hc32=>?_) (fun hc32=>?_)
  ·have hc32:=eq_of_beq hc32;refine bB<|sp hT ?_;refine cA<|bY<|bC<|bB<|sp2 hT ?_;refine bZ (z':=(((i+1):Nat):Int)) (cV (by omega) (by omega)) ?_;refine sp hT ?_;refine nn ?_;exact cJ (i+1,0) (by dsimp only;omega) ⟨rfl,rfl,trivial⟩ ⟨rfl,trivial⟩ .nil ⟨Has.pure (⟨by dsimp only;omega,sz1_zero hinv5.2 hx2 (by omega)⟩),trivial⟩ (bQ.drop 1)
  have hc32:=beq_eq_false_iff_ne.1 hc32;refine bO<|bY<|bC<|bB<|sp2 hT ?_;refine bZ (z':=(((i+1):Nat):Int)) (cV (by omega) (by omega)) ?_;refine sp hT ?_;refine nn ?_;exact cJ (i+1,n) (by dsimp only;omega) ⟨rfl,rfl,trivial⟩ ⟨rfl,trivial⟩ .nil ⟨Has.pure (⟨by dsimp only;omega,sz1_step hinv5.2 hx2 (by omega) (by omega) (by omega)⟩),trivial⟩ (bQ.drop 1)
 have hc13:=Int.not_lt.1 (of_decide_eq_false hc13);refine cU<|cI<|cI<|cT<|bC<|bE<|sr<|sp hT ?_;refine nn<|bW<|cX (ι:=Nat×Int) [(0,_)] ⟨rfl,trivial⟩ (fun⟨j,m⟩=>[(4,.int .i64 m),(6,.int .i64 (j:Nat))]) (fun _=>[]) (fun⟨j,m⟩=>[bU.pure (j≤l.length∧bEz l j m r)]) (fun⟨j,m⟩=>l.length-j) (0,n) ⟨rfl,rfl,trivial⟩ .nil ⟨Has.pure (⟨by omega,sz2_start hinv5.2 (by omega) (by omega) hR⟩),trivial⟩ ?_;rintro⟨j,m⟩;dsimp only;refine cD (Has.of mT0) fun hinv12=>?_;refine bE<|sr<|sp4 hT ?_;refine sp hT ?_;refine cB (fun hg37=>?_) (fun hg37=>?_)
 ·have hg37:=of_decide_eq_true hg37;refine sp3 hT ?_;refine nn<|bL rfl (fun hc40=>?_) (fun hc40=>?_)
  ·have hc40:=of_decide_eq_true hc40;refine bO<|bC<|bE<|bW<|sr<|sp3 hT ?_
   obtain⟨x3,hx4⟩: ∃x',l[j]?=some x':=⟨_,List.getElem?_eq_getElem (by omega)⟩
   refine ss (bV hT (k:=j) (bP (Has.of mT2)) rfl rfl rfl rfl rfl rfl rfl (by omega)) ?_;refine ss (bR hT (cM.knows (bP (Has.of mT2)) (k:=j) (x:=x3) hx4 0) rfl rfl rfl rfl rfl) ?_;refine sp2 hT ?_;refine nn<|sr<|sp2 hT ?_;refine nn<|bL rfl (fun hc50=>?_) (fun hc50=>?_)
   ·have hc50:=of_decide_eq_true hc50;refine sr<|sp2 hT ?_;refine nn<|bI<|bM<|bH<|bH<|bM<|bH ?_;have hr:=sz2_big hinv12.2 (by omega) hx4 (by omega);subst hr;exact cC () rfl (bD rfl) (bD rfl) .nil trivial rfl
   have hc50:=Int.not_lt.1 (of_decide_eq_false hc50);refine bO<|bY<|bC<|bB<|sp2 hT ?_;refine bZ (z':=(((j+1):Nat):Int)) (cV (by omega) (by omega)) ?_;refine sp hT ?_;refine nn ?_;exact cJ (j+1,_) (by dsimp only;omega) ⟨rfl,rfl,trivial⟩ ⟨rfl,trivial⟩ .nil ⟨Has.pure (⟨by dsimp only;omega,sz2_step hinv12.2 (by omega) hx4 (by omega)⟩),trivial⟩ (bQ.drop 1)
  have hc40:=Int.not_lt.1 (of_decide_eq_false hc40);refine cU<|cI<|cI<|cT<|bC<|sr<|sp3 hT ?_;refine nn<|bI ?_;have hr:=sz2_end hinv12.2 (by first | exact .inl (by omega) | exact .inr (by omega));subst hr;exact cC () rfl (bD rfl) (bD rfl) .nil trivial rfl
 have hg37:=Int.not_lt.1 (of_decide_eq_false hg37);refine sk2 ?_;refine sp hT ?_;refine nn<|bS rfl rfl ?_;refine cU<|cI<|cI<|cT<|bC<|sr<|sp3 hT ?_;refine nn<|bI ?_;have hr:=sz2_end hinv12.2 (by first | exact .inl (by omega) | exact .inr (by omega));subst hr;exact cC () rfl (bD rfl) (bD rfl) .nil trivial rfl
set_option maxRecDepth 100000 in
theorem right6_spec(x:ArrV)(hl:x.sides.list.length≤140737488355328):dM Tryz.prog 98 [.agg #[.slice x.sides.addr x.sides.list.length x.sides.cap,.slice x.data.addr x.data.list.length x.data.cap]] [] [cQ.sl (.slice x.sides.addr x.sides.list.length x.sides.cap) x.sides.list] (fun(_:Unit)=> .bool (kU x.arr)) (fun _=>[]) (fun _=>[]):=by
 have hT:=cZ;refine cO Tryz.func98 rfl Tryz.ntmps98 rfl ?_;intro β hM;refine sr<|gG rfl rfl rfl rfl rfl rfl fun b1=>?_;refine sp hT ?_;refine nn<|sr<|sp hT ?_;refine ss (ldO hT (dO .head)) ?_;refine cK Tryz.func152 (size6_spec _ _ _ (by omega)) rfl rfl .nil ⟨Has.of mT0,trivial⟩ fun _=>?_;refine sp4 hT ?_;refine sp hT ?_;refine nn<|sr<|sp3 hT ?_;refine cB (fun hg13=>?_) (fun hg13=>?_)
 ·have hg13:=eq_of_beq hg13;refine sp2 hT ?_;refine ss (ldO hT (fE .head)) ?_;refine sp4 hT ?_;refine nn<|bI ?_;exact bN () rfl (bD rfl) .nil trivial (by first | exact bBl ‹_› | exact bCb ‹_›)
 have hg13:=beq_eq_false_iff_ne.1 hg13;refine sk4 ?_;refine sk ?_;refine sp2 hT ?_;refine nn<|bI ?_;exact bN () rfl (bD rfl) .nil trivial (by first | exact bBl ‹_› | exact bCb ‹_›)
end Go.Proofs.YtnmhcaahkaocgaaGreatDoor
