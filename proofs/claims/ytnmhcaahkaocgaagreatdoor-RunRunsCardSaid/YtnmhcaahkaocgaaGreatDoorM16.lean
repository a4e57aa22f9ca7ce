/- Texts of one proof, one behind the other: RefB, RefC, QD. -/
import Derived.Test.YtnmhcaahkaocgaaGreatDoorM14
import Derived.Test.YtnmhcaahkaocgaaGreatDoorM8
import Derived.Test.YtnmhcaahkaocgaaGreatDoorM15
namespace Go.Proofs.YtnmhcaahkaocgaaGreatDoor
open Go.RowKit
theorem polsInfo: ∃i:TypeInfo,Tryz.prog.info? 47=some i∧i.zero=some (.slice none 0 0)∧i.size=1∧i.bytes=24:=by
 have h:(Tryz.prog.info? 47).map (fun i=>(i.zero,i.size,i.bytes))=some (some (.slice none 0 0),1,24):=by kernel_rfl
 cases hi:Tryz.prog.info? 47 with
 | none=>simp [hi] at h
 | some i=>simp [hi] at h;exact⟨i,rfl,h.1,h.2.1,h.2.2⟩
theorem at_one_pols{β:fY}{n:Nat}{Γ:Env}{H:List bX}{F:List bU}{Q:Exit→Act→World→Prop}{ops:Array Oper}{rest:List Oper}{o:Oper}{d:Nat}{x:Operand}{m:PolV}(hw:want ops Γ o=some true)(ho:o.op= .buildSlice 41 1 #[(0,x)])(hd:o.dst=some d)(hn:Nat.blt d n=true)
  (hx:Γ.ev x=some (.slice m.addr m.list.length m.cap)) (k: ∀b,At β n ((d,.slice (some ⟨b,0,none⟩) 1 1)::Γ) (.obj b (.cells (pX.all [m]).toArray 47)::H) F (wpList Tryz.prog ops Q rest)):At β n Γ H F (wpList Tryz.prog ops Q (o::rest)):=by
 obtain⟨i,hi,hz,hs,_⟩:=polsInfo;refine rU hw ho hd hn hx Tryz.underlying41 hi hz (by omega) (by omega) ?_ k;rw [hs]
 kernel_rfl
theorem listF_one{F:List bU}{A:Option Addr}{p:PolV}(h1:Has F (pX.sl (.slice A 1 1) [p]))(h2:Has F (lS p)):Has F (mD ⟨A,1,[p]⟩):=
 Has.and (Has.and h1 (fun S w k q hq=>by simp at hq;subst hq;exact h2 S w k)) (Has.pure ⟨Nat.le_refl 1,(by decide:1*24≤140737488355328)⟩)
def lV (c:mE)(made:List Bool)(x:fG):Bool:=(decide (0≤x.buf)&&(match c.bufs[x.buf.toNat]? with
   | some b=>decide (b.input<0)
   | none=>false))&&lZ c.vars made x
def vN (vars:Int)(x:fV)(made:List Bool)(o:OpV):Bool:=opB vars x.loops.list.length (-1) made o.c&& !(o.how==4&&o.k==x.buf)
structure bCm (c:iN) (made:List Bool) (x:fV):Prop where
 how1:1≤x.how
 how3:x.how≤3
 buf0:0≤x.buf
 bufn:x.buf<(c.bufs.list.length:Nat)
 inp: ∀b,c.bufs.list[x.buf.toNat]?=some b→b.input<0
 at_:gU (polsL [x.at_]) c.vars=true
 loops:gU (polsL x.loops.list) c.vars=true
 ne:x.how≠1→x.loops.list.length≠0
 fn1:x.how=1→x.fn=0
 fn3:x.how≠1→gN x.fn true=true
 ops0:x.ops.list.length≠0
 ops1:(x.ops.list.length:Int)≤256
 dep:0≤oN (opsL x.ops.list)
 ops:x.ops.list.all (vN c.vars x made)=true
theorem op_buf{vars loops buf:Int}{made:List Bool}{o:OpV}:opB vars loops buf made o.c=(opB vars loops (-1) made o.c&& !(o.how==4&&o.k==buf)):=by
 unfold opB;show(if o.how=1 then _ else if o.how=2 then _ else if o.how=3 then _ else if o.how=4 then _ else if o.how=5∨o.how=6 then _ else _)=((if o.how=1 then _ else if o.how=2 then _ else if o.how=3 then _ else if o.how=4 then _ else if o.how=5∨o.how=6 then _ else _)&&_)
 by_cases h4:o.how=4
 ·rw [if_neg (by omega),if_neg (by omega),if_neg (by omega),if_pos h4,if_neg (by omega),if_neg (by omega),if_neg (by omega),if_pos h4];show(decide (0≤o.k∧o.k≠buf)&&_)=(decide (0≤o.k∧o.k≠ -1)&&_&&_)
  by_cases h0:0≤o.k
  ·by_cases hk:o.k=buf
   ·simp [h4,hk]
   ·have h1:o.k≠ -1:=by omega
    simp [h4,hk,h0,h1]
  ·have h1:decide (0≤o.k∧o.k≠buf)=false:=decide_eq_false (by omega);have h2:decide (0≤o.k∧o.k≠ -1)=false:=decide_eq_false (by omega);rw [h1,h2];rfl
 ·have e:(o.how==4)=false:=by simp [h4]
  rw [e,if_neg h4,if_neg h4];simp
theorem step_iff{c:iN}{made:List Bool}{x:fV}:lV c.c made x.c=true↔bCm c made x:=by
 have hops:x.c.ops.all (opB c.vars x.loops.list.length x.buf made)=x.ops.list.all (vN c.vars x made):=by
  show(x.ops.list.map OpV.c).all _=_;rw [List.all_map]
  congr 1
  funext o
  exact op_buf
 have hl:x.c.loops.length=x.loops.list.length:=dC _;have ho:x.c.ops.length=x.ops.list.length:=dV _
 have he:x.c.loops.isEmpty=decide (x.loops.list.length=0):=by
  rw [←hl];cases x.c.loops<;>rfl
 have ha:gU (polsL [x.at_]) c.vars=(ofB x.at_.list c.vars&&iO x.at_.list):=by
  show(([x.at_.list]).all _&&decide (1≤4))=_;simp
 have hd:oN []= -1:=by decide
 constructor
 ·intro h;unfold lV lZ at h;simp only [Bool.and_eq_true,decide_eq_true_eq] at h;obtain⟨⟨h1,h2⟩,⟨h3,h4⟩,h5,h6,h7,h8,h9⟩:=h;have h1:0≤x.buf:=h1;have h2:(match (c.bufs.list.map kX.c)[x.buf.toNat]? with | some b=>decide (b.input<0) | none=>false)=true:=h2;rw [List.getElem?_map] at h2;have h9':x.c.ops.all (opB c.vars x.loops.list.length x.buf made)=true:=by rw [←hl];exact h9
  rw [hops] at h9';have h8:(if x.how=1 then x.fn==0 else if x.how=2∨x.how=3 then !x.c.loops.isEmpty&&gN x.fn true else false)=true:=h8;rw [he] at h8;have h6:x.c.ops.length≤256:=h6
  have hh:(1≤x.how∧x.how≤3)∧(x.how=1→x.fn=0)∧(x.how≠1→x.loops.list.length≠0∧gN x.fn true=true):=by
   by_cases e1:x.how=1
   ·rw [if_pos e1] at h8;exact⟨by omega,fun _=>by simpa using h8,fun h=>absurd e1 h⟩
   ·rw [if_neg e1] at h8
    by_cases e2:x.how=2∨x.how=3
    ·rw [if_pos e2] at h8;refine⟨by omega,fun h=>absurd h e1,fun _=>by simpa using h8⟩
    ·rw [if_neg e2] at h8;cases h8
  cases hb:c.bufs.list[x.buf.toNat]? with
  | none=>rw [hb] at h2;cases h2
  | some b=>
   rw [hb] at h2;have hlt:=(List.getElem?_eq_some_iff.1 hb).1
   exact⟨hh.1.1,hh.1.2,h1,by omega,fun b' hb'=>by rw [hb] at hb';cases hb';exact of_decide_eq_true h2,by rw [ha];exact(Bool.and_eq_true _ _).symm▸⟨h3,h4⟩,h5,fun h=>(hh.2.2 h).1,hh.2.1,fun h=>(hh.2.2 h).2,
    fun e=>by
     have:x.ops.list=[]:=List.eq_nil_of_length_eq_zero e;have h7:0≤oN (opsL x.ops.list):=h7;rw [this,show opsL []=[] from rfl,hd] at h7
     omega,by omega,h7,h9'⟩
 ·intro p;unfold lV lZ;have h9:x.c.ops.all (opB c.vars x.loops.list.length x.buf made)=true:=by rw [hops];exact p.ops
  have h3:=p.at_;rw [ha,Bool.and_eq_true] at h3
  have h8:(if x.how=1 then x.fn==0 else if x.how=2∨x.how=3 then !x.c.loops.isEmpty&&gN x.fn true else false)=true:=by
   have q1:=p.how1;have q3:=p.how3;rw [he]
   by_cases e1:x.how=1
   ·rw [if_pos e1,p.fn1 e1];rfl
   ·rw [if_neg e1,if_pos (by omega),p.fn3 e1];have:=p.ne e1;simp [this]
  have h1:(decide (0≤x.c.buf)&&(match c.c.bufs[x.c.buf.toNat]? with | some b=>decide (b.input<0) | none=>false))=true:=by
   show(decide (0≤x.buf)&&(match (c.bufs.list.map kX.c)[x.buf.toNat]? with | some b=>decide (b.input<0) | none=>false))=true;have q0:=p.buf0;have q1:=p.bufn;rw [List.getElem?_map,List.getElem?_eq_getElem (by omega),decide_eq_true q0];exact decide_eq_true (p.inp _ (List.getElem?_eq_getElem (by omega)))
  rw [h1];have q6:=p.ops1;have h6:x.c.ops.length≤256:=by omega
  show(true&&((ofB x.at_.list c.vars&&iO x.at_.list)&&(gU (polsL x.loops.list) c.vars&&(decide (x.c.ops.length≤256)&&(decide (0≤oN (opsL x.ops.list))&&((if x.how=1 then x.fn==0 else if x.how=2∨x.how=3 then !x.c.loops.isEmpty&&gN x.fn true else false)&&x.c.ops.all (opB c.vars x.c.loops.length x.buf made)))))))=true;rw [h3.1,h3.2,p.loops,decide_eq_true h6,decide_eq_true p.dep,h8,hl,h9];rfl
theorem iB{c:iN}{made:List Bool}{x:fV}(h: ¬bCm c made x):Value.bool false= .bool (lV c.c made x.c):=by
 cases e:lV c.c made x.c with
 | false=>rfl
 | true=>exact absurd (step_iff.1 e) h
theorem step_yes{c:iN}{made:List Bool}{x:fV}(h:bCm c made x):Value.bool true= .bool (lV c.c made x.c):=by rw [step_iff.2 h]
set_option maxRecDepth 100000 in
theorem bKf(o:OpV)(vars loops:Int)(MA:Option Addr)(mc:Nat)(made:List Bool)(hv:0≤vars)(hv6:vars≤6):dM Tryz.prog 201 [.agg #[.int .i64 o.how,.int .i64 o.k,.int .i64 o.n,.slice o.p.addr o.p.list.length o.p.cap,.int .u8 o.fn],.int .i64 vars,.int .i64 loops,.slice MA made.length mc] [] [opF o,jT.sl (.slice MA made.length mc) made] (fun(_:Unit)=> .bool (opB vars loops (-1) made o.c)) (fun _=>[]) (fun _=>[]):=by
 have hT:=gD;refine cO Tryz.func201 rfl Tryz.ntmps201 rfl ?_;intro β hM;refine sr<|gG rfl rfl rfl rfl rfl rfl fun b1=>?_;refine sp hT ?_;refine nn<|bE<|sr<|sp hT ?_;refine ss (ldO hT (dO .head)) ?_;refine nn<|bW<|sr<|sp2 hT ?_;refine nn<|bL rfl (fun hc11=>?_) (fun hc11=>?_)
 ·have hc11_r:=hc11;have hc11:=eq_of_beq hc11;refine sr<|sp hT ?_;refine ss (ldO hT (fE .head)) ?_;refine sp2 hT ?_;refine cB (fun hg16=>?_) (fun hg16=>?_)
  ·have hg16:=eq_of_beq hg16;refine sp hT ?_;refine ss (ldO hT (kA .head)) ?_;refine sp4 hT ?_;refine cB (fun hg22=>?_) (fun hg22=>?_)
   ·have hg22:=eq_of_beq hg22;refine sp hT ?_;refine ss (ldO hT (mZ .head)) ?_;refine sp3 hT ?_;refine nn<|bI<|bM<|bH ?_;exact bN () rfl (bD rfl) .nil trivial (by first | (rw [fB ‹_›];simp [*];done) | (rw [fC ‹_›];simp [*];done) | (rw [dY ‹_›];simp [*];done) | (rw [dX ‹_› ‹_›];have hkn:(o.k != -1)=true:=(bne_iff_ne).2 (by omega);simp [*];done) | (rw [dJ ‹_› (by omega)];done) | (rw [dW ‹_›];simp [*];done) | (rw [dZ ‹_›];simp [*];done) | rw [fA ‹_› ‹_› ‹_› ‹_› ‹_› ‹_›])
   have hg22:=beq_eq_false_iff_ne.1 hg22;refine sk3 ?_;refine sp2 hT ?_;refine nn<|bI<|bM<|bH ?_;exact bN () rfl (bD rfl) .nil trivial (by first | (rw [fB ‹_›];simp [*];done) | (rw [fC ‹_›];simp [*];done) | (rw [dY ‹_›];simp [*];done) | (rw [dX ‹_› ‹_›];have hkn:(o.k != -1)=true:=(bne_iff_ne).2 (by omega);simp [*];done) | (rw [dJ ‹_› (by omega)];done) | (rw [dW ‹_›];simp [*];done) | (rw [dZ ‹_›];simp [*];done) | rw [fA ‹_› ‹_› ‹_› ‹_› ‹_› ‹_›])
  have hg16:=beq_eq_false_iff_ne.1 hg16;refine sk4 ?_;refine sp2 hT ?_;refine sk3 ?_;refine sp2 hT ?_;refine nn<|bI<|bM<|bH ?_;exact bN () rfl (bD rfl) .nil trivial (by first | (rw [fB ‹_›];simp [*];done) | (rw [fC ‹_›];simp [*];done) | (rw [dY ‹_›];simp [*];done) | (rw [dX ‹_› ‹_›];have hkn:(o.k != -1)=true:=(bne_iff_ne).2 (by omega);simp [*];done) | (rw [dJ ‹_› (by omega)];done) | (rw [dW ‹_›];simp [*];done) | (rw [dZ ‹_›];simp [*];done) | rw [fA ‹_› ‹_› ‹_› ‹_› ‹_› ‹_›])
 have hc11_r:=hc11;have hc11:=beq_eq_false_iff_ne.1 hc11;refine sr<|sp2 hT ?_;refine nn<|bL rfl (fun hc27=>?_) (fun hc27=>?_)
 ·have hc27_r:=hc27;have hc27:=eq_of_beq hc27;refine sr<|sp hT ?_;refine ss (ldO hT (fE .head)) ?_;refine sp2 hT ?_;refine cB (fun hg32=>?_) (fun hg32=>?_)
  ·have hg32:=eq_of_beq hg32;refine sp hT ?_;refine ss (ldO hT (rN .head)) ?_;refine sp3 hT ?_;refine cB (fun hg37=>?_) (fun hg37=>?_)
   ·have hg37:=eq_of_beq hg37;refine sp hT ?_;refine ss (ldO hT (mZ .head)) ?_;refine sp3 hT ?_;refine cB (fun hg42=>?_) (fun hg42=>?_)
    ·have hg42:=eq_of_beq hg42;refine sp hT ?_;refine ss (ldO hT (kA .head)) ?_;refine sp hT ?_;refine cK Tryz.func198 (bFo o.p vars hv hv6) rfl rfl .nil ⟨(Has.of mT0),trivial⟩ fun _=>?_;refine sp2 hT ?_;refine nn<|bI<|bM<|bH ?_;exact bN () rfl (bD rfl) .nil trivial (by first | (rw [fB ‹_›];simp [*];done) | (rw [fC ‹_›];simp [*];done) | (rw [dY ‹_›];simp [*];done) | (rw [dX ‹_› ‹_›];have hkn:(o.k != -1)=true:=(bne_iff_ne).2 (by omega);simp [*];done) | (rw [dJ ‹_› (by omega)];done) | (rw [dW ‹_›];simp [*];done) | (rw [dZ ‹_›];simp [*];done) | rw [fA ‹_› ‹_› ‹_› ‹_› ‹_› ‹_›])
    have hg42:=beq_eq_false_iff_ne.1 hg42;refine sk4 ?_;refine sp2 hT ?_;refine nn<|bI<|bM<|bH ?_;exact bN () rfl (bD rfl) .nil trivial (by first | (rw [fB ‹_›];simp [*];done) | (rw [fC ‹_›];simp [*];done) | (rw [dY ‹_›];simp [*];done) | (rw [dX ‹_› ‹_›];have hkn:(o.k != -1)=true:=(bne_iff_ne).2 (by omega);simp [*];done) | (rw [dJ ‹_› (by omega)];done) | (rw [dW ‹_›];simp [*];done) | (rw [dZ ‹_›];simp [*];done) | rw [fA ‹_› ‹_› ‹_› ‹_› ‹_› ‹_›])
   have hg37:=beq_eq_false_iff_ne.1 hg37;refine sk3 ?_;refine sp2 hT ?_;refine sk4 ?_;refine sp2 hT ?_;refine nn<|bI<|bM<|bH ?_;exact bN () rfl (bD rfl) .nil trivial (by first | (rw [fB ‹_›];simp [*];done) | (rw [fC ‹_›];simp [*];done) | (rw [dY ‹_›];simp [*];done) | (rw [dX ‹_› ‹_›];have hkn:(o.k != -1)=true:=(bne_iff_ne).2 (by omega);simp [*];done) | (rw [dJ ‹_› (by omega)];done) | (rw [dW ‹_›];simp [*];done) | (rw [dZ ‹_›];simp [*];done) | rw [fA ‹_› ‹_› ‹_› ‹_› ‹_› ‹_›])
  have hg32:=beq_eq_false_iff_ne.1 hg32;refine sk3 ?_;refine sp2 hT ?_;refine sk3 ?_;refine sp2 hT ?_;refine sk4 ?_;refine sp2 hT ?_;refine nn<|bI<|bM<|bH ?_;exact bN () rfl (bD rfl) .nil trivial (by first | (rw [fB ‹_›];simp [*];done) | (rw [fC ‹_›];simp [*];done) | (rw [dY ‹_›];simp [*];done) | (rw [dX ‹_› ‹_›];have hkn:(o.k != -1)=true:=(bne_iff_ne).2 (by omega);simp [*];done) | (rw [dJ ‹_› (by omega)];done) | (rw [dW ‹_›];simp [*];done) | (rw [dZ ‹_›];simp [*];done) | rw [fA ‹_› ‹_› ‹_› ‹_› ‹_› ‹_›])
 have hc27_r:=hc27;have hc27:=beq_eq_false_iff_ne.1 hc27;refine sr<|sp2 hT ?_;refine nn<|bL rfl (fun hc48=>?_) (fun hc48=>?_)
 ·have hc48_r:=hc48;have hc48:=eq_of_beq hc48;refine sr<|sp hT ?_;refine ss (ldO hT (fE .head)) ?_;refine sp2 hT ?_;refine cB (fun hg53=>?_) (fun hg53=>?_)
  ·have hg53:=of_decide_eq_true hg53;refine sp hT ?_;refine ss (ldO hT (fE .head)) ?_;refine sp4 hT ?_;refine cB (fun hg59=>?_) (fun hg59=>?_)
   ·have hg59:=of_decide_eq_true hg59;refine sp hT ?_;refine ss (ldO hT (rN .head)) ?_;refine sp3 hT ?_;refine cB (fun hg64=>?_) (fun hg64=>?_)
    ·have hg64:=eq_of_beq hg64;refine sp hT ?_;refine ss (ldO hT (kA .head)) ?_;refine sp4 hT ?_;refine cB (fun hg70=>?_) (fun hg70=>?_)
     ·have hg70:=eq_of_beq hg70;refine sp hT ?_;refine ss (ldO hT (mZ .head)) ?_;refine sp3 hT ?_;refine nn<|bI<|bM<|bH ?_;exact bN () rfl (bD rfl) .nil trivial (by first | (rw [fB ‹_›];simp [*];done) | (rw [fC ‹_›];simp [*];done) | (rw [dY ‹_›];simp [*];done) | (rw [dX ‹_› ‹_›];have hkn:(o.k != -1)=true:=(bne_iff_ne).2 (by omega);simp [*];done) | (rw [dJ ‹_› (by omega)];done) | (rw [dW ‹_›];simp [*];done) | (rw [dZ ‹_›];simp [*];done) | rw [fA ‹_› ‹_› ‹_› ‹_› ‹_› ‹_›])
     have hg70:=beq_eq_false_iff_ne.1 hg70;refine sk3 ?_;refine sp2 hT ?_;refine nn<|bI<|bM<|bH ?_;exact bN () rfl (bD rfl) .nil trivial (by first | (rw [fB ‹_›];simp [*];done) | (rw [fC ‹_›];simp [*];done) | (rw [dY ‹_›];simp [*];done) | (rw [dX ‹_› ‹_›];have hkn:(o.k != -1)=true:=(bne_iff_ne).2 (by omega);simp [*];done) | (rw [dJ ‹_› (by omega)];done) | (rw [dW ‹_›];simp [*];done) | (rw [dZ ‹_›];simp [*];done) | rw [fA ‹_› ‹_› ‹_› ‹_› ‹_› ‹_›])
    have hg64:=beq_eq_false_iff_ne.1 hg64;refine sk4 ?_;refine sp2 hT ?_;refine sk3 ?_;refine sp2 hT ?_;refine nn<|bI<|bM<|bH ?_;exact bN () rfl (bD rfl) .nil trivial (by first | (rw [fB ‹_›];simp [*];done) | (rw [fC ‹_›];simp [*];done) | (rw [dY ‹_›];simp [*];done) | (rw [dX ‹_› ‹_›];have hkn:(o.k != -1)=true:=(bne_iff_ne).2 (by omega);simp [*];done) | (rw [dJ ‹_› (by omega)];done) | (rw [dW ‹_›];simp [*];done) | (rw [dZ ‹_›];simp [*];done) | rw [fA ‹_› ‹_› ‹_› ‹_› ‹_› ‹_›])
   have hg59:=Int.not_lt.1 (of_decide_eq_false hg59);refine sk3 ?_;refine sp2 hT ?_;refine sk4 ?_;refine sp2 hT ?_;refine sk3 ?_;refine sp2 hT ?_;refine nn<|bI<|bM<|bH ?_;exact bN () rfl (bD rfl) .nil trivial (by first | (rw [fB ‹_›];simp [*];done) | (rw [fC ‹_›];simp [*];done) | (rw [dY ‹_›];simp [*];done) | (rw [dX ‹_› ‹_›];have hkn:(o.k != -1)=true:=(bne_iff_ne).2 (by omega);simp [*];done) | (rw [dJ ‹_› (by omega)];done) | (rw [dW ‹_›];simp [*];done) | (rw [dZ ‹_›];simp [*];done) | rw [fA ‹_› ‹_› ‹_› ‹_› ‹_› ‹_›])
  have hg53:=Int.not_le.1 (of_decide_eq_false hg53);refine sk4 ?_;refine sp2 hT ?_;refine sk3 ?_;refine sp2 hT ?_;refine sk4 ?_;refine sp2 hT ?_;refine sk3 ?_;refine sp2 hT ?_;refine nn<|bI<|bM<|bH ?_;exact bN () rfl (bD rfl) .nil trivial (by first | (rw [fB ‹_›];simp [*];done) | (rw [fC ‹_›];simp [*];done) | (rw [dY ‹_›];simp [*];done) | (rw [dX ‹_› ‹_›];have hkn:(o.k != -1)=true:=(bne_iff_ne).2 (by omega);simp [*];done) | (rw [dJ ‹_› (by omega)];done) | (rw [dW ‹_›];simp [*];done) | (rw [dZ ‹_›];simp [*];done) | rw [fA ‹_› ‹_› ‹_› ‹_› ‹_› ‹_›])
 have hc48_r:=hc48;have hc48:=beq_eq_false_iff_ne.1 hc48;refine sr<|sp2 hT ?_;refine nn<|bL rfl (fun hc75=>?_) (fun hc75=>?_)
 ·have hc75_r:=hc75;have hc75:=eq_of_beq hc75;refine sr<|sp hT ?_;refine ss (ldO hT (fE .head)) ?_;refine sp2 hT ?_;refine cB (fun hg80=>?_) (fun hg80=>?_)
  ·have hg80:=of_decide_eq_true hg80;refine sp hT ?_;refine ss (ldO hT (fE .head)) ?_;refine sp4 hT ?_;refine sp hT ?_;refine cB (fun hg87=>?_) (fun hg87=>?_)
   ·have hg87:=of_decide_eq_true hg87;refine sp2 hT ?_;refine ss (ldO hT (fE .head)) ?_
    obtain⟨x2,hx3⟩: ∃x',made[o.k.toNat]?=some x':=⟨_,List.getElem?_eq_getElem (by omega)⟩
    refine ss (bV hT (k:=o.k.toNat) (bP (Has.of mT1)) rfl rfl rfl rfl rfl rfl (by omega) (by omega)) ?_;refine ss (bR hT (cM.knows (bP (Has.of mT1)) (k:=o.k.toNat) (x:=x2) hx3 0) rfl rfl rfl rfl rfl) ?_;refine sp2 hT ?_;refine cB (fun hg94=>?_) (fun hg94=>?_)
    ·refine sp hT ?_;refine ss (ldO hT (rN .head)) ?_;refine sp3 hT ?_;refine cB (fun hg99=>?_) (fun hg99=>?_)
     ·have hg99:=eq_of_beq hg99;refine sp hT ?_;refine ss (ldO hT (kA .head)) ?_;refine sp4 hT ?_;refine cB (fun hg105=>?_) (fun hg105=>?_)
      ·have hg105:=eq_of_beq hg105;refine sp hT ?_;refine ss (ldO hT (mZ .head)) ?_;refine sp3 hT ?_;refine nn<|bI<|bM<|bH ?_;exact bN () rfl (bD rfl) .nil trivial (by first | (rw [fB ‹_›];simp [*];done) | (rw [fC ‹_›];simp [*];done) | (rw [dY ‹_›];simp [*];done) | (rw [dX ‹_› ‹_›];have hkn:(o.k != -1)=true:=(bne_iff_ne).2 (by omega);simp [*];done) | (rw [dJ ‹_› (by omega)];done) | (rw [dW ‹_›];simp [*];done) | (rw [dZ ‹_›];simp [*];done) | rw [fA ‹_› ‹_› ‹_› ‹_› ‹_› ‹_›])
      have hg105:=beq_eq_false_iff_ne.1 hg105;refine sk3 ?_;refine sp2 hT ?_;refine nn<|bI<|bM<|bH ?_;exact bN () rfl (bD rfl) .nil trivial (by first | (rw [fB ‹_›];simp [*];done) | (rw [fC ‹_›];simp [*];done) | (rw [dY ‹_›];simp [*];done) | (rw [dX ‹_› ‹_›];have hkn:(o.k != -1)=true:=(bne_iff_ne).2 (by omega);simp [*];done) | (rw [dJ ‹_› (by omega)];done) | (rw [dW ‹_›];simp [*];done) | (rw [dZ ‹_›];simp [*];done) | rw [fA ‹_› ‹_› ‹_› ‹_› ‹_› ‹_›])
     have hg99:=beq_eq_false_iff_ne.1 hg99;refine sk4 ?_;refine sp2 hT ?_;refine sk3 ?_;refine sp2 hT ?_;refine nn<|bI<|bM<|bH ?_;exact bN () rfl (bD rfl) .nil trivial (by first | (rw [fB ‹_›];simp [*];done) | (rw [fC ‹_›];simp [*];done) | (rw [dY ‹_›];simp [*];done) | (rw [dX ‹_› ‹_›];have hkn:(o.k != -1)=true:=(bne_iff_ne).2 (by omega);simp [*];done) | (rw [dJ ‹_› (by omega)];done) | (rw [dW ‹_›];simp [*];done) | (rw [dZ ‹_›];simp [*];done) | rw [fA ‹_› ‹_› ‹_› ‹_› ‹_› ‹_›])
    refine sk3 ?_;refine sp2 hT ?_;refine sk4 ?_;refine sp2 hT ?_;refine sk3 ?_;refine sp2 hT ?_;refine nn<|bI<|bM<|bH ?_;exact bN () rfl (bD rfl) .nil trivial (by first | (rw [fB ‹_›];simp [*];done) | (rw [fC ‹_›];simp [*];done) | (rw [dY ‹_›];simp [*];done) | (rw [dX ‹_› ‹_›];have hkn:(o.k != -1)=true:=(bne_iff_ne).2 (by omega);simp [*];done) | (rw [dJ ‹_› (by omega)];done) | (rw [dW ‹_›];simp [*];done) | (rw [dZ ‹_›];simp [*];done) | rw [fA ‹_› ‹_› ‹_› ‹_› ‹_› ‹_›])
   have hg87:=Int.not_lt.1 (of_decide_eq_false hg87);refine sk4 ?_;refine sk ?_;refine sp2 hT ?_;refine sk3 ?_;refine sp2 hT ?_;refine sk4 ?_;refine sp2 hT ?_;refine sk3 ?_;refine sp2 hT ?_;refine nn<|bI<|bM<|bH ?_;exact bN () rfl (bD rfl) .nil trivial (by first | (rw [fB ‹_›];simp [*];done) | (rw [fC ‹_›];simp [*];done) | (rw [dY ‹_›];simp [*];done) | (rw [dX ‹_› ‹_›];have hkn:(o.k != -1)=true:=(bne_iff_ne).2 (by omega);simp [*];done) | (rw [dJ ‹_› (by omega)];done) | (rw [dW ‹_›];simp [*];done) | (rw [dZ ‹_›];simp [*];done) | rw [fA ‹_› ‹_› ‹_› ‹_› ‹_› ‹_›])
  have hg80:=Int.not_le.1 (of_decide_eq_false hg80);refine sk4 ?_;refine sk ?_;refine sp2 hT ?_;refine sk4 ?_;refine sk ?_;refine sp2 hT ?_;refine sk3 ?_;refine sp2 hT ?_;refine sk4 ?_;refine sp2 hT ?_;refine sk3 ?_;refine sp2 hT ?_;refine nn<|bI<|bM<|bH ?_;exact bN () rfl (bD rfl) .nil trivial (by first | (rw [fB ‹_›];simp [*];done) | (rw [fC ‹_›];simp [*];done) | (rw [dY ‹_›];simp [*];done) | (rw [dX ‹_› ‹_›];have hkn:(o.k != -1)=true:=(bne_iff_ne).2 (by omega);simp [*];done) | (rw [dJ ‹_› (by omega)];done) | (rw [dW ‹_›];simp [*];done) | (rw [dZ ‹_›];simp [*];done) | rw [fA ‹_› ‹_› ‹_› ‹_› ‹_› ‹_›])
 have hc75_r:=hc75;have hc75:=beq_eq_false_iff_ne.1 hc75;refine sr<|sp2 hT ?_;refine nn<|bL rfl (fun hc110=>?_) (fun hc110=>?_)
 ·have hc110_r:=hc110;have hc110:=eq_of_beq hc110;refine sr<|sp hT ?_;refine ss (ldO hT (fE .head)) ?_;refine sp2 hT ?_;refine cB (fun hg115=>?_) (fun hg115=>?_)
  ·have hg115:=eq_of_beq hg115;refine sp hT ?_;refine ss (ldO hT (rN .head)) ?_;refine sp3 hT ?_;refine cB (fun hg120=>?_) (fun hg120=>?_)
   ·have hg120:=eq_of_beq hg120;refine sp hT ?_;refine ss (ldO hT (kA .head)) ?_;refine sp4 hT ?_;refine cB (fun hg126=>?_) (fun hg126=>?_)
    ·have hg126:=eq_of_beq hg126;refine sp hT ?_;refine ss (ldO hT (mZ .head)) ?_;refine cK Tryz.func155 (nR _ _) rfl rfl .nil trivial fun _=>?_;refine sp2 hT ?_;refine nn<|bI<|bM<|bH ?_;exact bN () rfl (bD rfl) .nil trivial (by first | (rw [fB ‹_›];simp [*];done) | (rw [fC ‹_›];simp [*];done) | (rw [dY ‹_›];simp [*];done) | (rw [dX ‹_› ‹_›];have hkn:(o.k != -1)=true:=(bne_iff_ne).2 (by omega);simp [*];done) | (rw [dJ ‹_› (by omega)];done) | (rw [dW ‹_›];simp [*];done) | (rw [dZ ‹_›];simp [*];done) | rw [fA ‹_› ‹_› ‹_› ‹_› ‹_› ‹_›])
    have hg126:=beq_eq_false_iff_ne.1 hg126;refine sk3 ?_;refine sp2 hT ?_;refine nn<|bI<|bM<|bH ?_;exact bN () rfl (bD rfl) .nil trivial (by first | (rw [fB ‹_›];simp [*];done) | (rw [fC ‹_›];simp [*];done) | (rw [dY ‹_›];simp [*];done) | (rw [dX ‹_› ‹_›];have hkn:(o.k != -1)=true:=(bne_iff_ne).2 (by omega);simp [*];done) | (rw [dJ ‹_› (by omega)];done) | (rw [dW ‹_›];simp [*];done) | (rw [dZ ‹_›];simp [*];done) | rw [fA ‹_› ‹_› ‹_› ‹_› ‹_› ‹_›])
   have hg120:=beq_eq_false_iff_ne.1 hg120;refine sk4 ?_;refine sp2 hT ?_;refine sk3 ?_;refine sp2 hT ?_;refine nn<|bI<|bM<|bH ?_;exact bN () rfl (bD rfl) .nil trivial (by first | (rw [fB ‹_›];simp [*];done) | (rw [fC ‹_›];simp [*];done) | (rw [dY ‹_›];simp [*];done) | (rw [dX ‹_› ‹_›];have hkn:(o.k != -1)=true:=(bne_iff_ne).2 (by omega);simp [*];done) | (rw [dJ ‹_› (by omega)];done) | (rw [dW ‹_›];simp [*];done) | (rw [dZ ‹_›];simp [*];done) | rw [fA ‹_› ‹_› ‹_› ‹_› ‹_› ‹_›])
  have hg115:=beq_eq_false_iff_ne.1 hg115;refine sk3 ?_;refine sp2 hT ?_;refine sk4 ?_;refine sp2 hT ?_;refine sk3 ?_;refine sp2 hT ?_;refine nn<|bI<|bM<|bH ?_;exact bN () rfl (bD rfl) .nil trivial (by first | (rw [fB ‹_›];simp [*];done) | (rw [fC ‹_›];simp [*];done) | (rw [dY ‹_›];simp [*];done) | (rw [dX ‹_› ‹_›];have hkn:(o.k != -1)=true:=(bne_iff_ne).2 (by omega);simp [*];done) | (rw [dJ ‹_› (by omega)];done) | (rw [dW ‹_›];simp [*];done) | (rw [dZ ‹_›];simp [*];done) | rw [fA ‹_› ‹_› ‹_› ‹_› ‹_› ‹_›])
 have hc110_r:=hc110;have hc110:=beq_eq_false_iff_ne.1 hc110;refine sr<|sp2 hT ?_;refine nn<|bL rfl (fun hc131=>?_) (fun hc131=>?_)
 ·have hc131_r:=hc131;have hc131:=eq_of_beq hc131;refine sr<|sp hT ?_;refine ss (ldO hT (fE .head)) ?_;refine sp2 hT ?_;refine cB (fun hg136=>?_) (fun hg136=>?_)
  ·have hg136:=eq_of_beq hg136;refine sp hT ?_;refine ss (ldO hT (rN .head)) ?_;refine sp3 hT ?_;refine cB (fun hg141=>?_) (fun hg141=>?_)
   ·have hg141:=eq_of_beq hg141;refine sp hT ?_;refine ss (ldO hT (kA .head)) ?_;refine sp4 hT ?_;refine cB (fun hg147=>?_) (fun hg147=>?_)
    ·have hg147:=eq_of_beq hg147;refine sp hT ?_;refine ss (ldO hT (mZ .head)) ?_;refine cK Tryz.func155 (nR _ _) rfl rfl .nil trivial fun _=>?_;refine sp2 hT ?_;refine nn<|bI<|bM<|bH ?_;exact bN () rfl (bD rfl) .nil trivial (by first | (rw [fB ‹_›];simp [*];done) | (rw [fC ‹_›];simp [*];done) | (rw [dY ‹_›];simp [*];done) | (rw [dX ‹_› ‹_›];have hkn:(o.k != -1)=true:=(bne_iff_ne).2 (by omega);simp [*];done) | (rw [dJ ‹_› (by omega)];done) | (rw [dW ‹_›];simp [*];done) | (rw [dZ ‹_›];simp [*];done) | rw [fA ‹_› ‹_› ‹_› ‹_› ‹_› ‹_›])
    have hg147:=beq_eq_false_iff_ne.1 hg147;refine sk3 ?_;refine sp2 hT ?_;refine nn<|bI<|bM<|bH ?_;exact bN () rfl (bD rfl) .nil trivial (by first | (rw [fB ‹_›];simp [*];done) | (rw [fC ‹_›];simp [*];done) | (rw [dY ‹_›];simp [*];done) | (rw [dX ‹_› ‹_›];have hkn:(o.k != -1)=true:=(bne_iff_ne).2 (by omega);simp [*];done) | (rw [dJ ‹_› (by omega)];done) | (rw [dW ‹_›];simp [*];done) | (rw [dZ ‹_›];simp [*];done) | rw [fA ‹_› ‹_› ‹_› ‹_› ‹_› ‹_›])
   have hg141:=beq_eq_false_iff_ne.1 hg141;refine sk4 ?_;refine sp2 hT ?_;refine sk3 ?_;refine sp2 hT ?_;refine nn<|bI<|bM<|bH ?_;exact bN () rfl (bD rfl) .nil trivial (by first | (rw [fB ‹_›];simp [*];done) | (rw [fC ‹_›];simp [*];done) | (rw [dY ‹_›];simp [*];done) | (rw [dX ‹_› ‹_›];have hkn:(o.k != -1)=true:=(bne_iff_ne).2 (by omega);simp [*];done) | (rw [dJ ‹_› (by omega)];done) | (rw [dW ‹_›];simp [*];done) | (rw [dZ ‹_›];simp [*];done) | rw [fA ‹_› ‹_› ‹_› ‹_› ‹_› ‹_›])
  have hg136:=beq_eq_false_iff_ne.1 hg136;refine sk3 ?_;refine sp2 hT ?_;refine sk4 ?_;refine sp2 hT ?_;refine sk3 ?_;refine sp2 hT ?_;refine nn<|bI<|bM<|bH ?_;exact bN () rfl (bD rfl) .nil trivial (by first | (rw [fB ‹_›];simp [*];done) | (rw [fC ‹_›];simp [*];done) | (rw [dY ‹_›];simp [*];done) | (rw [dX ‹_› ‹_›];have hkn:(o.k != -1)=true:=(bne_iff_ne).2 (by omega);simp [*];done) | (rw [dJ ‹_› (by omega)];done) | (rw [dW ‹_›];simp [*];done) | (rw [dZ ‹_›];simp [*];done) | rw [fA ‹_› ‹_› ‹_› ‹_› ‹_› ‹_›])
 have hc131_r:=hc131;have hc131:=beq_eq_false_iff_ne.1 hc131;refine bO<|bY<|bC<|sr<|sp hT ?_;refine nn<|bI ?_;exact bN () rfl (bD rfl) .nil trivial (by first | (rw [fB ‹_›];simp [*];done) | (rw [fC ‹_›];simp [*];done) | (rw [dY ‹_›];simp [*];done) | (rw [dX ‹_› ‹_›];have hkn:(o.k != -1)=true:=(bne_iff_ne).2 (by omega);simp [*];done) | (rw [dJ ‹_› (by omega)];done) | (rw [dW ‹_›];simp [*];done) | (rw [dZ ‹_›];simp [*];done) | rw [fA ‹_› ‹_› ‹_› ‹_› ‹_› ‹_›])
set_option maxRecDepth 100000 in
theorem step10_spec(c:iN)(x:fV)(MA:Option Addr)(mc:Nat)(made:List Bool)(hv:0≤c.vars)(hv6:c.vars≤6):dM Tryz.prog 151 [.agg #[.int .i64 c.vars,.slice c.bufs.addr c.bufs.list.length c.bufs.cap,.slice c.steps.addr c.steps.list.length c.steps.cap,.slice c.outs.addr c.outs.list.length c.outs.cap],.agg #[.int .i64 x.how,.int .i64 x.buf,.slice x.at_.addr x.at_.list.length x.at_.cap,.slice x.loops.addr x.loops.list.length x.loops.cap,.int .u8 x.fn,.slice x.ops.addr x.ops.list.length x.ops.cap],.slice MA made.length mc] [] [lY c,kB x,jT.sl (.slice MA made.length mc) made] (fun(_:Unit)=> .bool (lV c.c made x.c)) (fun _=>[]) (fun _=>[]):=by
 have hT:=gD;refine cO Tryz.func151 rfl Tryz.ntmps151 rfl ?_;intro β hM;refine bE<|cL (lS x.at_) (bCf (Has.of mT1)) ?_;refine cL (mD x.loops) (vL (Has.of mT2)) ?_;refine cD (opsF_c (nV (Has.of mT3))) fun hoz=>?_;have hoz2:=hoz.2;refine cL (bU.each x.ops.list opF) (opsF_e (nV (Has.of mT3))) ?_;refine cL (opE.sl (.slice x.ops.addr x.ops.list.length x.ops.cap) x.ops.list) (opsF_s (nV (Has.of mT4))) ?_;refine cL (uB.sl (.slice c.bufs.addr c.bufs.list.length c.bufs.cap) c.bufs.list) (nS (iY (Has.of mT4))) ?_;refine bB<|gG rfl rfl rfl rfl rfl rfl fun b1=>?_;refine gG rfl rfl rfl rfl rfl rfl fun b2=>?_;refine sp hT ?_;refine nn<|bE<|sr<|sp hT ?_;refine ss (ldO hT (dO .head)) ?_;refine sp2 hT ?_;refine cB (fun hg11=>?_) (fun hg11=>?_)
 ·have hg11:=of_decide_eq_true hg11;refine sk3 ?_;refine sp2 hT ?_;refine sk3 ?_;refine sp2 hT ?_;refine sk4 ?_;refine sk2 ?_;refine sp2 hT ?_;refine sk4 ?_;refine sk4 ?_;refine sp hT ?_;refine nn<|cG rfl rfl ?_;refine sr<|sp hT ?_;refine nn<|bI<|bH ?_;exact bN () rfl (bD rfl) .nil trivial (iB fun p=>by first | (have:=p.how1;omega) | (have:=p.how3;omega) | (have:=p.buf0;omega) | (have:=p.bufn;omega) | (have:=p.inp _ ‹_›;omega))
 have hg11:=Int.not_lt.1 (of_decide_eq_false hg11);refine sp hT ?_;refine ss (ldO hT (dO .head)) ?_;refine sp3 hT ?_;refine cB (fun hg16=>?_) (fun hg16=>?_)
 ·have hg16:=of_decide_eq_true hg16;refine sk3 ?_;refine sp2 hT ?_;refine sk4 ?_;refine sk2 ?_;refine sp2 hT ?_;refine sk4 ?_;refine sk4 ?_;refine sp hT ?_;refine nn<|cG rfl rfl ?_;refine sr<|sp hT ?_;refine nn<|bI<|bH ?_;exact bN () rfl (bD rfl) .nil trivial (iB fun p=>by first | (have:=p.how1;omega) | (have:=p.how3;omega) | (have:=p.buf0;omega) | (have:=p.bufn;omega) | (have:=p.inp _ ‹_›;omega))
 have hg16:=Int.not_lt.1 (of_decide_eq_false hg16);refine sp hT ?_;refine ss (ldO hT (fE .head)) ?_;refine sp3 hT ?_;refine cB (fun hg21=>?_) (fun hg21=>?_)
 ·have hg21:=of_decide_eq_true hg21;refine sk4 ?_;refine sk2 ?_;refine sp2 hT ?_;refine sk4 ?_;refine sk4 ?_;refine sp hT ?_;refine nn<|cG rfl rfl ?_;refine sr<|sp hT ?_;refine nn<|bI<|bH ?_;exact bN () rfl (bD rfl) .nil trivial (iB fun p=>by first | (have:=p.how1;omega) | (have:=p.how3;omega) | (have:=p.buf0;omega) | (have:=p.bufn;omega) | (have:=p.inp _ ‹_›;omega))
 have hg21:=Int.not_lt.1 (of_decide_eq_false hg21);refine sp hT ?_;refine ss (ldO hT (fE .head)) ?_;refine sp hT ?_;refine ss (ldO hT (fE kT1)) ?_;refine sp4 hT ?_;refine cB (fun hg29=>?_) (fun hg29=>?_)
 ·have hg29:=of_decide_eq_true hg29;refine sk4 ?_;refine sk4 ?_;refine sp hT ?_;refine nn<|cG rfl rfl ?_;refine sr<|sp hT ?_;refine nn<|bI<|bH ?_;exact bN () rfl (bD rfl) .nil trivial (iB fun p=>by first | (have:=p.how1;omega) | (have:=p.how3;omega) | (have:=p.buf0;omega) | (have:=p.bufn;omega) | (have:=p.inp _ ‹_›;omega))
 have hg29:=Int.not_le.1 (of_decide_eq_false hg29);refine sp hT ?_;refine ss (ldO hT (fE kT1)) ?_;refine sp hT ?_;refine ss (ldO hT (fE .head)) ?_
 obtain⟨x3,hx4⟩: ∃x',c.bufs.list[x.buf.toNat]?=some x':=⟨_,List.getElem?_eq_getElem (by omega)⟩
 refine ss (bV hT (k:=x.buf.toNat) (bP (Has.of mT0)) rfl rfl rfl rfl rfl rfl (by omega) (by omega)) ?_;refine sp hT ?_;refine ss (bR hT (cM.knows (bP (Has.of mT0)) (k:=x.buf.toNat) (x:=x3) hx4 1) rfl rfl rfl rfl rfl) ?_;refine sp2 hT ?_;refine nn<|bL rfl (fun hc38=>?_) (fun hc38=>?_)
 ·have hc38:=of_decide_eq_true hc38;refine sr<|sp hT ?_;refine nn<|bI<|bH ?_;exact bN () rfl (bD rfl) .nil trivial (iB fun p=>by first | (have:=p.how1;omega) | (have:=p.how3;omega) | (have:=p.buf0;omega) | (have:=p.bufn;omega) | (have:=p.inp _ ‹_›;omega))
 have hc38:=Int.not_le.1 (of_decide_eq_false hc38);refine bO<|bC<|bE<|sr<|sp hT ?_;refine ss (ldO hT (rN .head)) ?_;refine at_one_pols (m:=x.at_) rfl rfl rfl rfl rfl fun b5=>?_;refine bAl (E:=pX) (xs:=[x.at_]) .head ?_;refine bAz .head ?_;refine cL (mD ⟨some ⟨b5,0,none⟩,1,[x.at_]⟩) (listF_one (Has.of mT0) (Has.of mT5)) ?_;refine sp hT ?_;refine ss (ldO hT (dO kT1)) ?_;refine cK Tryz.func150 (uE ⟨some ⟨b5,0,none⟩,1,[x.at_]⟩ c.vars hv hv6) rfl rfl .nil ⟨(Has.of mT0),trivial⟩ fun _=>?_;refine sp2 hT ?_;refine cB (fun hg46=>?_) (fun hg46=>?_)
 ·have hg46:=gR hg46;refine sk4 ?_;refine sk2 ?_;refine sp2 hT ?_;refine sk4 ?_;refine sk4 ?_;refine sk ?_;refine sp hT ?_;refine nn<|cG rfl rfl ?_;refine sr<|sp hT ?_;refine nn<|bI<|bH ?_;exact bN () rfl (bD rfl) .nil trivial (iB fun p=>by first | (have:=p.at_;simp_all;done) | (have:=p.loops;simp_all;done) | (have:=p.ne (by simp_all);simp_all;done))
 have hg46:=gS hg46;refine sp hT ?_;refine ss (ldO hT (kA .head)) ?_;refine sp hT ?_;refine ss (ldO hT (dO kT1)) ?_;refine cK Tryz.func150 (uE x.loops c.vars hv hv6) rfl rfl .nil ⟨(Has.of mT5),trivial⟩ fun _=>?_;refine sp3 hT ?_;refine cB (fun hg54=>?_) (fun hg54=>?_)
 ·have hg54:=gR hg54;refine sk4 ?_;refine sk4 ?_;refine sk ?_;refine sp hT ?_;refine nn<|cG rfl rfl ?_;refine sr<|sp hT ?_;refine nn<|bI<|bH ?_;exact bN () rfl (bD rfl) .nil trivial (iB fun p=>by first | (have:=p.at_;simp_all;done) | (have:=p.loops;simp_all;done) | (have:=p.ne (by simp_all);simp_all;done))
 have hg54:=gS hg54;refine sp hT ?_;refine ss (ldO hT (dO .head)) ?_;refine sp2 hT ?_;refine cB (fun hg58=>?_) (fun hg58=>?_)
 ·have hg58:=bne_iff_ne.1 hg58;refine sp hT ?_;refine ss (ldO hT (kA .head)) ?_;refine sp4 hT ?_;refine nn<|bL rfl (fun hc64=>?_) (fun hc64=>?_)
  ·have hc64:=eq_of_beq hc64;refine sr<|sp hT ?_;refine nn<|bI<|bH ?_;exact bN () rfl (bD rfl) .nil trivial (iB fun p=>by first | (have:=p.at_;simp_all;done) | (have:=p.loops;simp_all;done) | (have:=p.ne (by simp_all);simp_all;done))
  have hc64:=beq_eq_false_iff_ne.1 hc64;refine bO<|bC<|bE<|sr<|sp hT ?_;refine ss (ldO hT (dO .head)) ?_;refine sp hT ?_;refine bT (t':=false) (beq_eq_false_iff_ne.2 hg58) ?_;refine sp hT ?_;refine sk3 ?_;refine sp3 hT ?_;refine ss (ldO hT (dO .head)) ?_;refine sp hT ?_;refine bT (t':=true) ((congrArg not (show(x.how==1)=false from (beq_eq_false_iff_ne.2 hg58)):(!_)=_)) ?_;refine sp2 hT ?_;refine ss (ldO hT (mZ .head)) ?_;refine cK Tryz.func155 (nR _ _) rfl rfl .nil trivial fun _=>?_;refine sp3 hT ?_;refine nn<|bL rfl (fun hc83=>?_) (fun hc83=>?_)
  ·have hc83:=gR hc83;refine sr<|sp hT ?_;refine nn<|bI<|bH ?_;exact bN () rfl (bD rfl) .nil trivial (iB fun p=>by first | (have:=p.fn1 (by simp_all);simp_all;done) | (have:=p.fn3 (by simp_all);simp_all;done))
  have hc83:=gS hc83;refine bO<|bC<|bE<|sr<|sp hT ?_;refine ss (ldO hT (jD .head)) ?_;refine sp3 hT ?_;refine cB (fun hg88=>?_) (fun hg88=>?_)
  ·have hg88:=eq_of_beq hg88;refine sk4 ?_;refine sp2 hT ?_;refine sk4 ?_;refine sp hT ?_;refine nn<|cG rfl rfl ?_;refine sr<|sp hT ?_;refine nn<|bI<|bH ?_;exact bN () rfl (bD rfl) .nil trivial (iB fun p=>by first | (have:=p.ops0;simp_all;done) | (have:=p.ops1;omega) | (have:=p.dep;omega))
  have hg88:=beq_eq_false_iff_ne.1 hg88;refine sp hT ?_;refine ss (ldO hT (jD .head)) ?_;refine sp4 hT ?_;refine cB (fun hg94=>?_) (fun hg94=>?_)
  ·have hg94:=of_decide_eq_true hg94;refine sk4 ?_;refine sp hT ?_;refine nn<|cG rfl rfl ?_;refine sr<|sp hT ?_;refine nn<|bI<|bH ?_;exact bN () rfl (bD rfl) .nil trivial (iB fun p=>by first | (have:=p.ops0;simp_all;done) | (have:=p.ops1;omega) | (have:=p.dep;omega))
  have hg94:=Int.not_lt.1 (of_decide_eq_false hg94);refine sp hT ?_;refine ss (ldO hT (jD .head)) ?_;refine cK Tryz.func200 (xC x.ops.addr x.ops.cap x.ops.list (by omega)) rfl rfl .nil ⟨(Has.of mT3),(Has.of mT4),trivial⟩ fun _=>?_;refine sp2 hT ?_;refine nn<|bL rfl (fun hc99=>?_) (fun hc99=>?_)
  ·have hc99:=of_decide_eq_true hc99;refine sr<|sp hT ?_;refine nn<|bI<|bH ?_;exact bN () rfl (bD rfl) .nil trivial (iB fun p=>by first | (have:=p.ops0;simp_all;done) | (have:=p.ops1;omega) | (have:=p.dep;omega))
  have hc99:=Int.not_lt.1 (of_decide_eq_false hc99);refine bO<|bC<|bE<|sr<|sp hT ?_;refine nn<|bW<|cX (ι:=Nat) [(2,_),(3,_),(4,_)] ⟨rfl,rfl,rfl,trivial⟩ (fun i=>[(7,.int .i64 (i:Nat))]) (fun _=>[]) (fun i=>[bU.pure (i≤x.ops.list.length∧(x.ops.list.take i).all (vN c.vars x made)=true)]) (fun i=>x.ops.list.length-i) 0 ⟨rfl,trivial⟩ .nil ⟨Has.pure (⟨by omega,rfl⟩),trivial⟩ ?_;rintro i;refine cD (Has.of mT0) fun hinv10=>?_;refine bE<|sr<|sp2 hT ?_;refine ss (ldO hT (jD .head)) ?_;refine sp2 hT ?_;refine nn<|bL rfl (fun hc104=>?_) (fun hc104=>?_)
  ·have hc104:=of_decide_eq_true hc104;refine bO<|bC<|bE<|bW<|bE ?_
   obtain⟨x6,hx7⟩: ∃x',x.ops.list[i]?=some x':=⟨_,List.getElem?_eq_getElem (by omega)⟩
   refine cL (opF x6) (Has.each (Has.of mT5) (List.mem_of_getElem? hx7)) ?_;refine fJ _ _ [(true,0),(true,1),(true,2),(true,3),(true,4),(true,5),(true,6),(true,7),(true,8),(true,9),(true,10),(false,11),(true,12),(true,13),(true,14),(true,15),(true,16),(true,17),(true,18),(true,19),(true,20),(true,21),(true,22),(true,23),(true,24),(true,25),(true,26),(true,27),(true,28),(true,29),(true,30),(true,31),(true,32)] dS (by decide+kernel) (.cons .head (.cons .head .nil)) bQ.self ?_;refine puM hT ?_;refine stM rfl (ldO hT (jD .head)) ?_;refine puM hT ?_;refine stM rfl (bV hT (k:=i) (bP (Has.of mT5)) rfl rfl rfl rfl rfl rfl rfl (by omega)) ?_;refine stM rfl (dT hT (cM.knows (bP (Has.of mT5)) (k:=i) (x:=x6) hx7 0) rfl rfl rfl rfl rfl) ?_;refine puM hT ?_;refine stM rfl (ldO hT (dO kT1)) ?_;refine puM hT ?_;refine stM rfl (ldO hT (kA .head)) ?_;refine puM hT ?_;refine puM hT ?_;refine fN (o:=_) rfl ?_;refine cK Tryz.func201 (bKf x6 c.vars (x.loops.list.length:Nat) MA mc made hv hv6) rfl rfl .nil ⟨(Has.of mT0),(Has.of mT11),trivial⟩ fun _=>?_;refine fO (.cons .head (.cons .head .nil)) (bQ.drop 0) ?_;refine puM hT ?_;refine puM hT ?_;refine cB (fun hg120=>?_) (fun hg120=>?_)
   ·have hg120:=gR hg120;refine bF rfl rfl rfl rfl ?_;refine bF rfl rfl rfl rfl ?_;refine bF rfl rfl rfl rfl ?_;refine bF rfl rfl rfl rfl ?_;refine bF rfl rfl rfl rfl ?_;refine bF rfl rfl rfl rfl ?_;refine bF rfl rfl rfl rfl ?_;refine bF rfl rfl rfl rfl ?_;refine bF rfl rfl rfl rfl ?_;refine bF rfl rfl rfl rfl ?_;refine bF rfl rfl rfl rfl ?_;refine bF rfl rfl rfl rfl ?_;refine bF rfl rfl rfl rfl ?_;refine bF rfl rfl rfl rfl ?_;refine bF rfl rfl rfl rfl ?_;refine bF rfl rfl rfl rfl ?_;refine bF rfl rfl rfl rfl ?_;refine bF rfl rfl rfl rfl ?_;refine puM hT ?_;refine cW<|bC<|cG rfl rfl ?_;refine sr<|sp hT ?_;refine nn<|bI<|bM<|bH<|bH<|bM<|bH ?_;exact bN () rfl (bD rfl) .nil trivial (iB fun p=>by have h1:=p.ops;rw [oW hx7 (show vN c.vars x made x6=false by unfold vN;simp_all)] at h1;cases h1)
   have hg120:=gS hg120;refine puM hT ?_;refine stM rfl (ldO hT (jD .head)) ?_;refine puM hT ?_;refine stM rfl (bV hT (k:=i) (bP (Has.of mT5)) rfl rfl rfl rfl rfl rfl rfl (by omega)) ?_;refine puM hT ?_;refine stM rfl (bR hT (cM.knows (bP (Has.of mT5)) (k:=i) (x:=x6) hx7 0) rfl rfl rfl rfl rfl) ?_;refine puM hT ?_;refine puM hT ?_;refine cB (fun hg128=>?_) (fun hg128=>?_)
   ·have hg128:=eq_of_beq hg128;refine puM hT ?_;refine stM rfl (ldO hT (jD .head)) ?_;refine puM hT ?_;refine stM rfl (bV hT (k:=i) (bP (Has.of mT5)) rfl rfl rfl rfl rfl rfl rfl (by omega)) ?_;refine puM hT ?_;refine stM rfl (bR hT (cM.knows (bP (Has.of mT5)) (k:=i) (x:=x6) hx7 1) rfl rfl rfl rfl rfl) ?_;refine puM hT ?_;refine stM rfl (ldO hT (fE .head)) ?_;refine puM hT ?_;refine puM hT ?_;refine puM hT ?_;refine cW<|bC<|bL rfl (fun hc139=>?_) (fun hc139=>?_)
    ·have hc139:=eq_of_beq hc139;refine sr<|sp hT ?_;refine nn<|bI<|bM<|bH<|bH<|bM<|bH ?_;exact bN () rfl (bD rfl) .nil trivial (iB fun p=>by have h1:=p.ops;rw [oW hx7 (show vN c.vars x made x6=false by unfold vN;simp_all)] at h1;cases h1)
    have hc139:=beq_eq_false_iff_ne.1 hc139;refine bO<|bY<|bC<|bB<|sp2 hT ?_;refine bZ (z':=(((i+1):Nat):Int)) (cV (by omega) (by omega)) ?_;refine sp hT ?_;refine nn ?_;exact cJ (i+1) (by omega) ⟨rfl,trivial⟩ ⟨rfl,rfl,rfl,trivial⟩ (.cons .head (.cons .head .nil)) ⟨Has.pure (⟨by omega,jJ hinv10.2 hx7 (by unfold vN;simp_all)⟩),trivial⟩ (bQ.drop 2)
   have hg128:=beq_eq_false_iff_ne.1 hg128;refine bF rfl rfl rfl rfl ?_;refine bF rfl rfl rfl rfl ?_;refine bF rfl rfl rfl rfl ?_;refine bF rfl rfl rfl rfl ?_;refine bF rfl rfl rfl rfl ?_;refine bF rfl rfl rfl rfl ?_;refine bF rfl rfl rfl rfl ?_;refine bF rfl rfl rfl rfl ?_;refine bF rfl rfl rfl rfl ?_;refine puM hT ?_;refine puM hT ?_;refine cW<|bC<|bS rfl rfl ?_;refine bO<|bY<|bC<|bB<|sp2 hT ?_;refine bZ (z':=(((i+1):Nat):Int)) (cV (by omega) (by omega)) ?_;refine sp hT ?_;refine nn ?_;exact cJ (i+1) (by omega) ⟨rfl,trivial⟩ ⟨rfl,rfl,rfl,trivial⟩ (.cons .head (.cons .head .nil)) ⟨Has.pure (⟨by omega,jJ hinv10.2 hx7 (by unfold vN;simp_all)⟩),trivial⟩ (bQ.drop 2)
  have hc104:=Int.not_lt.1 (of_decide_eq_false hc104);refine cU<|cI<|cI<|cT<|bC<|sr<|sp hT ?_;refine nn<|bI ?_;exact bN () rfl (bD rfl) .nil trivial (step_yes ⟨by omega,by omega,by omega,by omega,fun b hb=>by simp_all,by simp_all,by simp_all,by simp_all,by simp_all,by simp_all,by simp_all,by omega,by omega,oH hinv10.2 (by omega)⟩)
 have hg58:=bne_eq_false_iff_eq.1 hg58;refine sk4 ?_;refine sp2 hT ?_;refine nn<|bS rfl rfl ?_;refine bO<|bC<|bE<|sr<|sp hT ?_;refine ss (ldO hT (dO .head)) ?_;refine sp hT ?_;refine bT (t':=true) (by rw [hg58];rfl) ?_;refine sp2 hT ?_;refine ss (ldO hT (mZ .head)) ?_;refine sp3 hT ?_;refine cB (fun hg73=>?_) (fun hg73=>?_)
 ·have hg73:=bne_iff_ne.1 hg73;refine sk4 ?_;refine sk4 ?_;refine sk ?_;refine sp hT ?_;refine nn<|cG rfl rfl ?_;refine sr<|sp hT ?_;refine nn<|bI<|bH ?_;exact bN () rfl (bD rfl) .nil trivial (iB fun p=>by first | (have:=p.fn1 (by simp_all);simp_all;done) | (have:=p.fn3 (by simp_all);simp_all;done))
 have hg73:=bne_eq_false_iff_eq.1 hg73;refine sp hT ?_;refine ss (ldO hT (dO .head)) ?_;refine sp hT ?_;refine bT (t':=false) ((congrArg not (show(x.how==1)=true from (by rw [hg58];rfl)):(!_)=_)) ?_;refine sp hT ?_;refine sk4 ?_;refine sp2 hT ?_;refine nn<|bS rfl rfl ?_;refine bO<|bC<|bE<|sr<|sp hT ?_;refine ss (ldO hT (jD .head)) ?_;refine sp3 hT ?_;refine cB (fun hg88=>?_) (fun hg88=>?_)
 ·have hg88:=eq_of_beq hg88;refine sk4 ?_;refine sp2 hT ?_;refine sk4 ?_;refine sp hT ?_;refine nn<|cG rfl rfl ?_;refine sr<|sp hT ?_;refine nn<|bI<|bH ?_;exact bN () rfl (bD rfl) .nil trivial (iB fun p=>by first | (have:=p.ops0;simp_all;done) | (have:=p.ops1;omega) | (have:=p.dep;omega))
 have hg88:=beq_eq_false_iff_ne.1 hg88;refine sp hT ?_;refine ss (ldO hT (jD .head)) ?_;refine sp4 hT ?_;refine cB (fun hg94=>?_) (fun hg94=>?_)
 ·have hg94:=of_decide_eq_true hg94;refine sk4 ?_;refine sp hT ?_;refine nn<|cG rfl rfl ?_;refine sr<|sp hT ?_;refine nn<|bI<|bH ?_;exact bN () rfl (bD rfl) .nil trivial (iB fun p=>by first | (have:=p.ops0;simp_all;done) | (have:=p.ops1;omega) | (have:=p.dep;omega))
 have hg94:=Int.not_lt.1 (of_decide_eq_false hg94);refine sp hT ?_;refine ss (ldO hT (jD .head)) ?_;refine cK Tryz.func200 (xC x.ops.addr x.ops.cap x.ops.list (by omega)) rfl rfl .nil ⟨(Has.of mT3),(Has.of mT4),trivial⟩ fun _=>?_;refine sp2 hT ?_;refine nn<|bL rfl (fun hc99=>?_) (fun hc99=>?_)
 ·have hc99:=of_decide_eq_true hc99;refine sr<|sp hT ?_;refine nn<|bI<|bH ?_;exact bN () rfl (bD rfl) .nil trivial (iB fun p=>by first | (have:=p.ops0;simp_all;done) | (have:=p.ops1;omega) | (have:=p.dep;omega))
 have hc99:=Int.not_lt.1 (of_decide_eq_false hc99);refine bO<|bC<|bE<|sr<|sp hT ?_;refine nn<|bW<|cX (ι:=Nat) [(2,_),(3,_),(4,_)] ⟨rfl,rfl,rfl,trivial⟩ (fun i=>[(7,.int .i64 (i:Nat))]) (fun _=>[]) (fun i=>[bU.pure (i≤x.ops.list.length∧(x.ops.list.take i).all (vN c.vars x made)=true)]) (fun i=>x.ops.list.length-i) 0 ⟨rfl,trivial⟩ .nil ⟨Has.pure (⟨by omega,rfl⟩),trivial⟩ ?_;rintro i;refine cD (Has.of mT0) fun hinv10=>?_;refine bE<|sr<|sp2 hT ?_;refine ss (ldO hT (jD .head)) ?_;refine sp2 hT ?_;refine nn<|bL rfl (fun hc104=>?_) (fun hc104=>?_)
 ·have hc104:=of_decide_eq_true hc104;refine bO<|bC<|bE<|bW<|bE ?_
  obtain⟨x8,hx9⟩: ∃x',x.ops.list[i]?=some x':=⟨_,List.getElem?_eq_getElem (by omega)⟩
  refine cL (opF x8) (Has.each (Has.of mT5) (List.mem_of_getElem? hx9)) ?_;refine fJ _ _ [(true,0),(true,1),(true,2),(true,3),(true,4),(true,5),(true,6),(true,7),(true,8),(true,9),(true,10),(false,11),(true,12),(true,13),(true,14),(true,15),(true,16),(true,17),(true,18),(true,19),(true,20),(true,21),(true,22),(true,23),(true,24),(true,25),(true,26),(true,27),(true,28),(true,29),(true,30),(true,31),(true,32)] dS (by decide+kernel) (.cons .head (.cons .head .nil)) bQ.self ?_;refine puM hT ?_;refine stM rfl (ldO hT (jD .head)) ?_;refine puM hT ?_;refine stM rfl (bV hT (k:=i) (bP (Has.of mT5)) rfl rfl rfl rfl rfl rfl rfl (by omega)) ?_;refine stM rfl (dT hT (cM.knows (bP (Has.of mT5)) (k:=i) (x:=x8) hx9 0) rfl rfl rfl rfl rfl) ?_;refine puM hT ?_;refine stM rfl (ldO hT (dO kT1)) ?_;refine puM hT ?_;refine stM rfl (ldO hT (kA .head)) ?_;refine puM hT ?_;refine puM hT ?_;refine fN (o:=_) rfl ?_;refine cK Tryz.func201 (bKf x8 c.vars (x.loops.list.length:Nat) MA mc made hv hv6) rfl rfl .nil ⟨(Has.of mT0),(Has.of mT11),trivial⟩ fun _=>?_;refine fO (.cons .head (.cons .head .nil)) (bQ.drop 0) ?_;refine puM hT ?_;refine puM hT ?_;refine cB (fun hg120=>?_) (fun hg120=>?_)
  ·have hg120:=gR hg120;refine bF rfl rfl rfl rfl ?_;refine bF rfl rfl rfl rfl ?_;refine bF rfl rfl rfl rfl ?_;refine bF rfl rfl rfl rfl ?_;refine bF rfl rfl rfl rfl ?_;refine bF rfl rfl rfl rfl ?_;refine bF rfl rfl rfl rfl ?_;refine bF rfl rfl rfl rfl ?_;refine bF rfl rfl rfl rfl ?_;refine bF rfl rfl rfl rfl ?_;refine bF rfl rfl rfl rfl ?_;refine bF rfl rfl rfl rfl ?_;refine bF rfl rfl rfl rfl ?_;refine bF rfl rfl rfl rfl ?_;refine bF rfl rfl rfl rfl ?_;refine bF rfl rfl rfl rfl ?_;refine bF rfl rfl rfl rfl ?_;refine bF rfl rfl rfl rfl ?_;refine puM hT ?_;refine cW<|bC<|cG rfl rfl ?_;refine sr<|sp hT ?_;refine nn<|bI<|bM<|bH<|bH<|bM<|bH ?_;exact bN () rfl (bD rfl) .nil trivial (iB fun p=>by have h1:=p.ops;rw [oW hx9 (show vN c.vars x made x8=false by unfold vN;simp_all)] at h1;cases h1)
  have hg120:=gS hg120;refine puM hT ?_;refine stM rfl (ldO hT (jD .head)) ?_;refine puM hT ?_;refine stM rfl (bV hT (k:=i) (bP (Has.of mT5)) rfl rfl rfl rfl rfl rfl rfl (by omega)) ?_;refine puM hT ?_;refine stM rfl (bR hT (cM.knows (bP (Has.of mT5)) (k:=i) (x:=x8) hx9 0) rfl rfl rfl rfl rfl) ?_;refine puM hT ?_;refine puM hT ?_;refine cB (fun hg128=>?_) (fun hg128=>?_)
  ·have hg128:=eq_of_beq hg128;refine puM hT ?_;refine stM rfl (ldO hT (jD .head)) ?_;refine puM hT ?_;refine stM rfl (bV hT (k:=i) (bP (Has.of mT5)) rfl rfl rfl rfl rfl rfl rfl (by omega)) ?_;refine puM hT ?_;refine stM rfl (bR hT (cM.knows (bP (Has.of mT5)) (k:=i) (x:=x8) hx9 1) rfl rfl rfl rfl rfl) ?_;refine puM hT ?_;refine stM rfl (ldO hT (fE .head)) ?_;refine puM hT ?_;refine puM hT ?_;refine puM hT ?_;refine cW<|bC<|bL rfl (fun hc139=>?_) (fun hc139=>?_)
   ·have hc139:=eq_of_beq hc139;refine sr<|sp hT ?_;refine nn<|bI<|bM<|bH<|bH<|bM<|bH ?_;exact bN () rfl (bD rfl) .nil trivial (iB fun p=>by have h1:=p.ops;rw [oW hx9 (show vN c.vars x made x8=false by unfold vN;simp_all)] at h1;cases h1)
   have hc139:=beq_eq_false_iff_ne.1 hc139;refine bO<|bY<|bC<|bB<|sp2 hT ?_;refine bZ (z':=(((i+1):Nat):Int)) (cV (by omega) (by omega)) ?_;refine sp hT ?_;refine nn ?_;exact cJ (i+1) (by omega) ⟨rfl,trivial⟩ ⟨rfl,rfl,rfl,trivial⟩ (.cons .head (.cons .head .nil)) ⟨Has.pure (⟨by omega,jJ hinv10.2 hx9 (by unfold vN;simp_all)⟩),trivial⟩ (bQ.drop 2)
  have hg128:=beq_eq_false_iff_ne.1 hg128;refine bF rfl rfl rfl rfl ?_;refine bF rfl rfl rfl rfl ?_;refine bF rfl rfl rfl rfl ?_;refine bF rfl rfl rfl rfl ?_;refine bF rfl rfl rfl rfl ?_;refine bF rfl rfl rfl rfl ?_;refine bF rfl rfl rfl rfl ?_;refine bF rfl rfl rfl rfl ?_;refine bF rfl rfl rfl rfl ?_;refine puM hT ?_;refine puM hT ?_;refine cW<|bC<|bS rfl rfl ?_;refine bO<|bY<|bC<|bB<|sp2 hT ?_;refine bZ (z':=(((i+1):Nat):Int)) (cV (by omega) (by omega)) ?_;refine sp hT ?_;refine nn ?_;exact cJ (i+1) (by omega) ⟨rfl,trivial⟩ ⟨rfl,rfl,rfl,trivial⟩ (.cons .head (.cons .head .nil)) ⟨Has.pure (⟨by omega,jJ hinv10.2 hx9 (by unfold vN;simp_all)⟩),trivial⟩ (bQ.drop 2)
 have hc104:=Int.not_lt.1 (of_decide_eq_false hc104);refine cU<|cI<|cI<|cT<|bC<|sr<|sp hT ?_;refine nn<|bI ?_;exact bN () rfl (bD rfl) .nil trivial (step_yes ⟨by omega,by omega,by omega,by omega,fun b hb=>by simp_all,by simp_all,by simp_all,by simp_all,by simp_all,by simp_all,by simp_all,by omega,by omega,oH hinv10.2 (by omega)⟩)
theorem step10_specM{m:Nat}{made:List Bool}(hm:made.length=m)(c:iN)(x:fV)(MA:Option Addr)(mc:Nat)(hv:0≤c.vars)(hv6:c.vars≤6):dM Tryz.prog 151 [.agg #[.int .i64 c.vars,.slice c.bufs.addr c.bufs.list.length c.bufs.cap,.slice c.steps.addr c.steps.list.length c.steps.cap,.slice c.outs.addr c.outs.list.length c.outs.cap],.agg #[.int .i64 x.how,.int .i64 x.buf,.slice x.at_.addr x.at_.list.length x.at_.cap,.slice x.loops.addr x.loops.list.length x.loops.cap,.int .u8 x.fn,.slice x.ops.addr x.ops.list.length x.ops.cap],.slice MA m mc]
  [] [lY c,kB x,jT.sl (.slice MA m mc) made] (fun _:Unit=> .bool (lV c.c made x.c)) (fun _=>[]) (fun _=>[]):=by
 subst hm;exact step10_spec c x MA mc made hv hv6
section
variable {c : mE} {i j : Nat} {made : List Bool} {r : Bool} {u : iW} {x : fG}
def yV (c:mE)(i:Nat)(made:List Bool)(r:Bool):Prop:=made.length=c.bufs.length∧(∀j,j<i→made[j]?=(qF c.bufs)[j]?)∧ ∃seen:List Int,(∀z,z∈seen→0≤z∧ ∃j u,j<i∧c.bufs[j]?=some u∧u.input=z)∧(∀j u,j<i→c.bufs[j]?=some u→0≤u.input→u.input∈seen)∧r=(oK c.vars (c.bufs.drop i) seen&&bFj c)
def yB (c:mE)(u:iW)(j:Nat):Prop:= ∀k v,k<j→c.bufs[k]?=some v→ ¬(0≤u.input∧v.input=u.input)
theorem bufs10_start(h:r=(oK c.vars c.bufs []&&bFj c)):yV c 0 (List.replicate c.bufs.length false) r:=
 ⟨List.length_replicate,fun j hj=>absurd hj (Nat.not_lt_zero j),[],⟨fun _ hz=>absurd hz List.not_mem_nil,fun j _ hj=>absurd hj (Nat.not_lt_zero j),h⟩⟩
theorem sC(h:yV c i made r)(hu:c.bufs[i]?=some u)(k:gU u.sides c.vars=false∨u.input< -1∨64≤u.input∨0≤u.input∧ ∃j v,j<i∧c.bufs[j]?=some v∧v.input=u.input):r=false:=by
 obtain⟨_,_,seen,h2,h3,h4⟩:=h;rw [kK hu,oK] at h4;rw [h4]
 rcases k with k | k | k | ⟨k,j,v,hj,hv,e⟩
 ·rw [k];rfl
 ·rw [decide_eq_false (show ¬(-1≤u.input∧u.input<64) from fun h=>by omega)];simp
 ·rw [decide_eq_false (show ¬(-1≤u.input∧u.input<64) from fun h=>by omega)];simp
 ·have hm:u.input∈seen:=by
   rw [←e];exact h3 j v hj hv (by omega)
  have e2:seen.contains u.input=true:=by rw [List.contains_eq_mem];exact decide_eq_true hm
  rw [e2];simp
theorem nodup_start:yB c u 0:=fun k v hk=>by omega
theorem bCt{v:iW}(h:yB c u j)(hv:c.bufs[j]?=some v)(hn: ¬(0≤u.input∧v.input=u.input)):yB c u (j+1):=fun k w hk hw=>by
 by_cases e:k=j
 ·subst e;rw [hv] at hw;cases hw;exact hn
 ·exact h k w (by omega) hw
theorem bufs10_next(h:yV c i made r)(hu:c.bufs[i]?=some u)(hg:gU u.sides c.vars=true)(h1: -1≤u.input)(h2:u.input<64)(hn:yB c u j)(hj:i≤j):yV c (i+1) (made.set i (decide (0≤u.input))) r:=by
 obtain⟨k1,k2,seen,k3,k4,k5⟩:=h;have hi:=(List.getElem?_eq_some_iff.1 hu).1
 have hc:seen.contains u.input=false:=by
  rw [List.contains_eq_mem];refine decide_eq_false fun hm=>?_;obtain⟨h0,k,v,hk,hv,e⟩:=k3 _ hm;exact hn k v (by omega) hv ⟨h0,e⟩
 rw [kK hu,oK,hg,decide_eq_true (show-1≤u.input∧u.input<64 from ⟨h1,h2⟩),hc] at k5;refine⟨by rw [List.length_set];exact k1,fun k hk=>?_,if 0≤u.input then u.input::seen else seen,fun z hz=>?_,fun k v hk hv h0=>?_,by simpa using k5⟩
 ·by_cases e:i=k
  ·subst e;rw [List.getElem?_set_self (by omega)];unfold qF;rw [List.getElem?_map,hu];rfl
  ·rw [List.getElem?_set_ne e];exact k2 k (by omega)
 ·by_cases h0:0≤u.input
  ·rw [if_pos h0] at hz
   rcases List.mem_cons.1 hz with rfl | hz
   ·exact⟨h0,i,u,by omega,hu,rfl⟩
   ·obtain⟨q,k,v,hk,hv,e⟩:=k3 z hz;exact⟨q,k,v,by omega,hv,e⟩
  ·rw [if_neg h0] at hz;obtain⟨q,k,v,hk,hv,e⟩:=k3 z hz;exact⟨q,k,v,by omega,hv,e⟩
 ·by_cases e:k=i
  ·subst e;rw [hu] at hv;cases hv;rw [if_pos h0];exact List.mem_cons_self ..
  ·have:=k4 k v (by omega) hv h0;split
   ·exact List.mem_cons_of_mem _ this
   ·exact this
theorem bufs10_end(h:yV c i made r)(hi:c.bufs.length≤i):mW c 0 made r:=by
 obtain⟨k1,k2,seen,_,_,k5⟩:=h;rw [List.drop_of_length_le hi] at k5
 have hm:made=qF c.bufs:=by
  apply List.ext_getElem?;intro j
  by_cases hj:j<i
  ·exact k2 j hj
  ·rw [List.getElem?_eq_none (by omega),List.getElem?_eq_none (by rw [nO];omega)]
 exact bAj hm (by rw [k5];rfl)
theorem bAc{l:List fG}:mO c.vars c.bufs (x::l) made=(lV c made x&&mO c.vars c.bufs l (made.set x.buf.toNat true)):=by
 rw [mO];exact(Bool.and_assoc _ _ _).symm
theorem steps10_bad(h:mW c i made r)(hx:c.steps[i]?=some x)(k:lV c made x=false):r=false:=by
 obtain⟨_,h2⟩:=h;rw [kK hx,bAc,k] at h2;rw [h2];rfl
theorem steps10_ok(h:mW c i made r)(hx:c.steps[i]?=some x)(k:lV c made x=true):mW c (i+1) (made.set x.buf.toNat true) r:=by
 obtain⟨h2,h3⟩:=h;refine⟨by simpa using h2,?_⟩;rw [kK hx,bAc,k,Bool.true_and] at h3;exact h3
theorem stepOk_in(h:lV c made x=true):0≤x.buf∧x.buf<c.bufs.length:=by
 unfold lV at h;simp only [Bool.and_eq_true,decide_eq_true_eq] at h;obtain⟨⟨h1,h2⟩,_⟩:=h
 cases hb:c.bufs[x.buf.toNat]? with
 | none=>rw [hb] at h2;cases h2
 | some b=>
  have:=(List.getElem?_eq_some_iff.1 hb).1;exact⟨h1,by omega⟩
def outOk (n:Nat)(k:Int):Bool:=decide (0≤k∧k<n)
end
set_option maxRecDepth 100000 in
theorem Right10_spec(c:iN):dM Tryz.prog 96 [.agg #[.int .i64 c.vars,.slice c.bufs.addr c.bufs.list.length c.bufs.cap,.slice c.steps.addr c.steps.list.length c.steps.cap,.slice c.outs.addr c.outs.list.length c.outs.cap]] [] [lY c] (fun(_:Unit)=> .bool (gO c.c)) (fun _=>[]) (fun _=>[]):=by
 have hT:=gD;generalize hR:gO c.c=r;have hnb:c.c.bufs.length=c.bufs.list.length:=dI _;have hns:c.c.steps.length=c.steps.list.length:=kG _;have hno:c.c.outs.length=c.outs.list.length:=rfl;refine cO Tryz.func96 rfl Tryz.ntmps96 rfl ?_;intro β hM;refine sr<|gG rfl rfl rfl rfl rfl rfl fun b1=>?_;refine sp hT ?_;refine nn<|bE<|sr<|sp hT ?_;refine ss (ldO hT (dO .head)) ?_;refine sp2 hT ?_;refine cB (fun hg12=>?_) (fun hg12=>?_)
 ·have hg12:=of_decide_eq_true hg12;refine sk3 ?_;refine sp2 hT ?_;refine sk4 ?_;refine sp2 hT ?_;refine sk4 ?_;refine sp2 hT ?_;refine sk4 ?_;refine sp hT ?_;refine nn<|cG rfl rfl ?_;refine sr<|sp hT ?_;refine nn<|bI<|bH ?_;have hr:=jE hR (by omega);subst hr;exact bN () rfl (bD rfl) .nil trivial rfl
 have hg12:=Int.not_lt.1 (of_decide_eq_false hg12);refine sp hT ?_;refine ss (ldO hT (dO .head)) ?_;refine sp3 hT ?_;refine cB (fun hg17=>?_) (fun hg17=>?_)
 ·have hg17:=of_decide_eq_true hg17;refine sk4 ?_;refine sp2 hT ?_;refine sk4 ?_;refine sp2 hT ?_;refine sk4 ?_;refine sp hT ?_;refine nn<|cG rfl rfl ?_;refine sr<|sp hT ?_;refine nn<|bI<|bH ?_;have hr:=jE hR (by omega);subst hr;exact bN () rfl (bD rfl) .nil trivial rfl
 have hg17:=Int.not_lt.1 (of_decide_eq_false hg17);refine sp hT ?_;refine ss (ldO hT (fE .head)) ?_;refine sp4 hT ?_;refine cB (fun hg23=>?_) (fun hg23=>?_)
 ·have hg23:=of_decide_eq_true hg23;refine sk4 ?_;refine sp2 hT ?_;refine sk4 ?_;refine sp hT ?_;refine nn<|cG rfl rfl ?_;refine sr<|sp hT ?_;refine nn<|bI<|bH ?_;have hr:=jE hR (by omega);subst hr;exact bN () rfl (bD rfl) .nil trivial rfl
 have hg23:=Int.not_lt.1 (of_decide_eq_false hg23);refine sp hT ?_;refine ss (ldO hT (rN .head)) ?_;refine sp4 hT ?_;refine cB (fun hg29=>?_) (fun hg29=>?_)
 ·have hg29:=of_decide_eq_true hg29;refine sk4 ?_;refine sp hT ?_;refine nn<|cG rfl rfl ?_;refine sr<|sp hT ?_;refine nn<|bI<|bH ?_;have hr:=jE hR (by omega);subst hr;exact bN () rfl (bD rfl) .nil trivial rfl
 have hg29:=Int.not_lt.1 (of_decide_eq_false hg29);refine sp hT ?_;refine ss (ldO hT (kA .head)) ?_;refine sp3 hT ?_;refine nn<|bL rfl (fun hc34=>?_) (fun hc34=>?_)
 ·have hc34:=of_decide_eq_true hc34;refine sr<|sp hT ?_;refine nn<|bI<|bH ?_;have hr:=jE hR (by omega);subst hr;exact bN () rfl (bD rfl) .nil trivial rfl
 have hc34:=Int.not_lt.1 (of_decide_eq_false hc34);refine bO<|bC<|bE ?_;have hr0:=bAk hR (by omega) (by omega) (by omega) (by omega) (by omega);refine bB<|sp hT ?_;refine ss (ldO hT (fE .head)) ?_;refine sp hT ?_;refine at_makeBools (m:=c.bufs.list.length) rfl rfl rfl rfl rfl rfl (by omega) fun b2=>?_;refine sp hT ?_;refine nn<|bE<|sr<|sp hT ?_;refine nn<|bW<|cX (ι:=Nat×List Bool) [(1,_),(3,_)] ⟨rfl,rfl,trivial⟩ (fun⟨i,dn⟩=>[(4,.int .i64 (i:Nat))]) (fun⟨i,dn⟩=>[jT.row (.slice (some ⟨b2,0,none⟩) c.bufs.list.length c.bufs.list.length) 4 dn]) (fun⟨i,dn⟩=>[bU.pure (i≤c.bufs.list.length∧yV c.c i dn r)]) (fun⟨i,dn⟩=>c.bufs.list.length-i) (0,List.replicate c.bufs.list.length false) ⟨rfl,trivial⟩ (.cons .head .nil) ⟨Has.pure (⟨by omega,by rw [←hnb];exact bufs10_start hr0⟩),trivial⟩ ?_;rintro⟨i,dn⟩;dsimp only;refine cD (Has.of mT0) fun hinv5=>?_;have hdl:dn.length=c.bufs.list.length:=by rw [hinv5.2.1];exact hnb
 refine bE<|sr<|sp2 hT ?_;refine ss (ldO hT (fE kT1)) ?_;refine sp2 hT ?_;refine nn<|bL rfl (fun hc43=>?_) (fun hc43=>?_)
 ·have hc43:=of_decide_eq_true hc43;refine bO<|bC<|bE<|bW<|sr<|sp hT ?_;refine ss (ldO hT (fE kT1)) ?_;refine sp hT ?_;refine cL (uB.sl (.slice c.bufs.addr c.bufs.list.length c.bufs.cap) c.bufs.list) (nS (iY (Has.of mT1))) ?_
  obtain⟨x3,hx4⟩: ∃x',c.bufs.list[i]?=some x':=⟨_,List.getElem?_eq_getElem (by omega)⟩
  refine ss (bV hT (k:=i) (bP (Has.of mT0)) rfl rfl rfl rfl rfl rfl rfl (by omega)) ?_;refine ss (dT hT (cM.knows (bP (Has.of mT0)) (k:=i) (x:=x3) hx4 0) rfl rfl rfl rfl rfl) ?_;refine gP rfl rfl rfl rfl tJ rfl fun b5=>?_;refine sto hT .head ?_;refine nn<|bE<|bE<|cL (bufF x3) (Has.each (tA (iY (Has.of mT2))) (List.mem_of_getElem? hx4)) ?_;refine bB<|sp hT ?_;refine ss (ldO hT (dO .head)) ?_;refine sp hT ?_;refine ss (ldO hT (dO kT2)) ?_;refine cK Tryz.func150 (uE x3.sides c.vars (by omega) (by omega)) rfl rfl .nil ⟨(Has.of mT0),trivial⟩ fun _=>?_;refine sp2 hT ?_;refine cB (fun hg57=>?_) (fun hg57=>?_)
  ·have hg57:=gR hg57;refine sk3 ?_;refine sp2 hT ?_;refine sk3 ?_;refine sp hT ?_;refine nn<|cG rfl rfl ?_;refine sr<|sp hT ?_;refine nn<|bI<|bH<|bM<|bH<|bH<|bM<|bH ?_;have hr:=sC hinv5.2 (dE hx4) (by first | exact .inl (show gU (polsL (kX.sides _).list) c.vars=false by assumption) | exact .inr (.inl (by show x3.input< -1;omega)) | exact .inr (.inr (.inl (by show 64≤x3.input;omega))));subst hr;exact bN () rfl (bD rfl) .nil trivial rfl
  have hg57:=gS hg57;refine sp hT ?_;refine ss (ldO hT (fE .head)) ?_;refine sp3 hT ?_;refine cB (fun hg62=>?_) (fun hg62=>?_)
  ·have hg62:=of_decide_eq_true hg62;refine sk3 ?_;refine sp hT ?_;refine nn<|cG rfl rfl ?_;refine sr<|sp hT ?_;refine nn<|bI<|bH<|bM<|bH<|bH<|bM<|bH ?_;have hr:=sC hinv5.2 (dE hx4) (by first | exact .inl (show gU (polsL (kX.sides _).list) c.vars=false by assumption) | exact .inr (.inl (by show x3.input< -1;omega)) | exact .inr (.inr (.inl (by show 64≤x3.input;omega))));subst hr;exact bN () rfl (bD rfl) .nil trivial rfl
  have hg62:=Int.not_lt.1 (of_decide_eq_false hg62);refine sp hT ?_;refine ss (ldO hT (fE .head)) ?_;refine sp2 hT ?_;refine nn<|bL rfl (fun hc66=>?_) (fun hc66=>?_)
  ·have hc66:=of_decide_eq_true hc66;refine sr<|sp hT ?_;refine nn<|bI<|bH<|bM<|bH<|bH<|bM<|bH ?_;have hr:=sC hinv5.2 (dE hx4) (by first | exact .inl (show gU (polsL (kX.sides _).list) c.vars=false by assumption) | exact .inr (.inl (by show x3.input< -1;omega)) | exact .inr (.inr (.inl (by show 64≤x3.input;omega))));subst hr;exact bN () rfl (bD rfl) .nil trivial rfl
  have hc66:=Int.not_le.1 (of_decide_eq_false hc66);refine bO<|bC<|bE<|sr<|sp hT ?_;refine nn<|bW<|cX (ι:=Nat) [(1,_),(3,_),(4,_),(5,_),(58,_),(59,_),(60,_),(63,_),(64,_),(65,_)] ⟨rfl,rfl,rfl,rfl,rfl,rfl,rfl,rfl,rfl,rfl,trivial⟩ (fun j=>[(6,.int .i64 (j:Nat))]) (fun _=>[]) (fun j=>[bU.pure (j≤i∧yB c.c x3.c j)]) (fun j=>i-j) 0 ⟨rfl,trivial⟩ .nil ⟨Has.pure (⟨by omega,nodup_start⟩),trivial⟩ ?_;rintro j;refine cD (Has.of mT0) fun hinv11=>?_;refine bE<|sr<|sp3 hT ?_;refine nn<|bL rfl (fun hc69=>?_) (fun hc69=>?_)
  ·have hc69:=of_decide_eq_true hc69;refine bO<|bC<|bE<|bW<|bE ?_
   obtain⟨x6,hx7⟩: ∃x',c.bufs.list[j]?=some x':=⟨_,List.getElem?_eq_getElem (by omega)⟩
   refine fJ _ _ [(true,0),(true,1),(true,2),(true,3),(true,4),(true,5),(true,6),(true,7),(true,8),(true,9),(true,10),(true,11),(true,12),(true,13)] dS (by decide+kernel) (.cons .head (.cons .head (.cons .head .nil))) bQ.self ?_;refine puM hT ?_;refine stM rfl (ldO hT (fE .head)) ?_;refine puM hT ?_;refine puM hT ?_;refine cB (fun hg75=>?_) (fun hg75=>?_)
   ·have hg75:=of_decide_eq_true hg75;refine puM hT ?_;refine stM rfl (ldO hT (fE kT2)) ?_;refine puM hT ?_;refine stM rfl (bV hT (k:=j) (bP (Has.of mT2)) rfl rfl rfl rfl rfl rfl rfl (by omega)) ?_;refine puM hT ?_;refine stM rfl (bR hT (cM.knows (bP (Has.of mT2)) (k:=j) (x:=x6) hx7 1) rfl rfl rfl rfl rfl) ?_;refine puM hT ?_;refine stM rfl (ldO hT (fE .head)) ?_;refine puM hT ?_;refine puM hT ?_;refine cW<|bC<|bL rfl (fun hc85=>?_) (fun hc85=>?_)
    ·have hc85:=eq_of_beq hc85;refine sr<|sp hT ?_;refine nn<|bI<|bM<|bH<|bH<|bM<|bH<|bM<|bH<|bH<|bM<|bH ?_;have hr:=sC hinv5.2 (dE hx4) (.inr (.inr (.inr ⟨by show 0≤x3.input;omega,j,_,by omega,dE hx7,by show kX.input _=kX.input _;omega⟩)));subst hr;exact bN () rfl (bD rfl) .nil trivial rfl
    have hc85:=beq_eq_false_iff_ne.1 hc85;refine bO<|bY<|bC<|bB<|sp2 hT ?_;refine bZ (z':=(((j+1):Nat):Int)) (cV (by omega) (by omega)) ?_;refine sp hT ?_;refine nn ?_;exact cJ (j+1) (by omega) ⟨rfl,trivial⟩ ⟨rfl,rfl,rfl,rfl,rfl,rfl,rfl,rfl,rfl,rfl,trivial⟩ (.cons .head (.cons .head (.cons .head .nil))) ⟨Has.pure (⟨by omega,bCt hinv11.2 (dE hx7) (by show ¬(0≤x3.input∧x6.input=x3.input);omega)⟩),trivial⟩ (bQ.drop 1)
   have hg75:=Int.not_le.1 (of_decide_eq_false hg75);refine bF rfl rfl rfl rfl ?_;refine bF rfl rfl rfl rfl ?_;refine bF rfl rfl rfl rfl ?_;refine bF rfl rfl rfl rfl ?_;refine bF rfl rfl rfl rfl ?_;refine bF rfl rfl rfl rfl ?_;refine bF rfl rfl rfl rfl ?_;refine bF rfl rfl rfl rfl ?_;refine bF rfl rfl rfl rfl ?_;refine puM hT ?_;refine cW<|bC<|bS rfl rfl ?_;refine bO<|bY<|bC<|bB<|sp2 hT ?_;refine bZ (z':=(((j+1):Nat):Int)) (cV (by omega) (by omega)) ?_;refine sp hT ?_;refine nn ?_;exact cJ (j+1) (by omega) ⟨rfl,trivial⟩ ⟨rfl,rfl,rfl,rfl,rfl,rfl,rfl,rfl,rfl,rfl,trivial⟩ (.cons .head (.cons .head (.cons .head .nil))) ⟨Has.pure (⟨by omega,bCt hinv11.2 (dE hx7) (by show ¬(0≤x3.input∧x6.input=x3.input);omega)⟩),trivial⟩ (bQ.drop 1)
  have hc69:=Int.not_lt.1 (of_decide_eq_false hc69);refine cU<|cI<|cI<|cT<|bC<|bB<|sp3 hT ?_;refine ss (ldO hT (fE .head)) ?_;refine sp hT ?_
  obtain⟨x8,hx9⟩: ∃x',dn[i]?=some x':=⟨_,List.getElem?_eq_getElem (by omega)⟩
  refine ss (bV hT (k:=i) (cF kT1) rfl rfl rfl rfl rfl hdl.symm rfl (by omega)) ?_;refine gW hT (k:=i) (fo:=0) (y':=(decide (0≤x3.input))) kT1 rfl rfl rfl rfl rfl rfl rfl rfl rfl hx9 rfl ?_;refine cA<|bY<|bC<|bB<|sp2 hT ?_;refine bZ (z':=(((i+1):Nat):Int)) (cV (by omega) (by omega)) ?_;refine sp hT ?_;refine nn ?_;exact cJ (i+1,(dn.set i (decide (0≤x3.input)))) (by dsimp only;omega) ⟨rfl,trivial⟩ ⟨rfl,rfl,trivial⟩ (.cons .head (.cons kT1 .nil)) ⟨Has.pure (⟨by dsimp only;omega,bufs10_next hinv5.2 (dE hx4) (show gU (polsL x3.sides.list) c.vars=true by simp_all) (show-1≤x3.input by omega) (show x3.input<64 by omega) hinv11.2 (by omega)⟩),trivial⟩ (bQ.drop 4)
 have hc43:=Int.not_lt.1 (of_decide_eq_false hc43);refine cU<|cI<|cI<|cT<|bC<|bE<|sr<|sp hT ?_;refine nn<|bW<|cX (ι:=Nat×List Bool) [(1,_),(3,_)] ⟨rfl,rfl,trivial⟩ (fun⟨k,dn⟩=>[(7,.int .i64 (k:Nat))]) (fun⟨k,dn⟩=>[jT.row (.slice (some ⟨b2,0,none⟩) c.bufs.list.length c.bufs.list.length) 4 dn]) (fun⟨k,dn⟩=>[bU.pure (k≤c.steps.list.length∧mW c.c k dn r)]) (fun⟨k,dn⟩=>c.steps.list.length-k) (0,dn) ⟨rfl,trivial⟩ (.cons .head .nil) ⟨Has.pure (⟨by omega,bufs10_end hinv5.2 (by omega)⟩),trivial⟩ ?_;rintro⟨k,dn⟩;dsimp only;refine cD (Has.of mT0) fun hinv17=>?_;have hd2:dn.length=c.bufs.list.length:=by rw [hinv17.2.1];exact hnb
 refine bE<|sr<|sp2 hT ?_;refine ss (ldO hT (rN kT1)) ?_;refine sp2 hT ?_;refine nn<|bL rfl (fun hc96=>?_) (fun hc96=>?_)
 ·have hc96:=of_decide_eq_true hc96;refine bO<|bC<|bE<|bW<|bE<|bE<|cL (tU.sl (.slice c.steps.addr c.steps.list.length c.steps.cap) c.steps.list) (yK (qI (Has.of mT2))) ?_
  obtain⟨x10,hx11⟩: ∃x',c.steps.list[k]?=some x':=⟨_,List.getElem?_eq_getElem (by omega)⟩
  refine cL (kB x10) (Has.each (wX (qI (Has.of mT3))) (List.mem_of_getElem? hx11)) ?_;refine fJ _ _ [(true,0),(true,1),(true,2),(true,3),(true,4),(true,5),(true,6),(false,7),(true,8)] dS (by decide+kernel) (.cons .head (.cons .head .nil)) bQ.self ?_;refine stM rfl (ldN hT (dO kT1)) ?_;refine puM hT ?_;refine stM rfl (ldO hT (rN kT1)) ?_;refine puM hT ?_;refine stM rfl (bV hT (k:=k) (bP (Has.of mT1)) rfl rfl rfl rfl rfl rfl rfl (by omega)) ?_;refine stM rfl (dT hT (cM.knows (bP (Has.of mT1)) (k:=k) (x:=x10) hx11 0) rfl rfl rfl rfl rfl) ?_;refine puM hT ?_;refine fN (o:=_) rfl ?_;refine iH (cE Tryz.func151 rfl rfl) (step10_specM hd2 c x10 (some ⟨b2,0,none⟩) c.bufs.list.length (by omega) (by omega)) rfl rfl rfl rfl rfl .nil (.cons .head .nil) (rV kZ) ⟨Has.of mT5,Has.of mT1,Has.of mT0,trivial⟩ (fun _=>True) (fun _ _ _ _=>trivial) fun _ _=>?_;refine fO (.cons .head (.cons .head .nil)) (bQ.drop 0) ?_;refine puM hT ?_;refine cW<|bC<|bL rfl (fun hc107=>?_) (fun hc107=>?_)
  ·have hc107:=gR hc107;refine sr<|sp hT ?_;refine nn<|bI<|bH<|bM<|bH<|bH<|bM<|bH ?_;have hr:=steps10_bad hinv17.2 (iQ hx11) (show lV c.c dn (fV.c _)=false by simp_all);subst hr;exact bN () rfl (bD rfl) .nil trivial rfl
  have hc107:=gS hc107;refine bO<|bC ?_;have hok:lV c.c dn x10.c=true:=by simp_all
  have hin:=stepOk_in hok;have hb0:0≤x10.buf:=hin.1;have hb1:x10.buf<(c.c.bufs.length:Nat):=hin.2;refine bB<|sp2 hT ?_;refine ss (ldO hT (rN kT1)) ?_;refine sp hT ?_;refine ss (bV hT (k:=k) (bP (Has.of mT1)) rfl rfl rfl rfl rfl rfl rfl (by omega)) ?_;refine sp hT ?_;refine ss (bR hT (cM.knows (bP (Has.of mT1)) (k:=k) (x:=x10) hx11 1) rfl rfl rfl rfl rfl) ?_
  obtain⟨x12,hx13⟩: ∃x',dn[x10.buf.toNat]?=some x':=⟨_,List.getElem?_eq_getElem (by omega)⟩
  refine ss (bV hT (k:=x10.buf.toNat) (cF .head) rfl rfl rfl rfl rfl hd2.symm (by omega) (by omega)) ?_;refine gW hT (k:=x10.buf.toNat) (fo:=0) (y':=(true)) .head rfl rfl rfl rfl rfl rfl rfl rfl rfl hx13 rfl ?_;refine cA<|bY<|bC<|bB<|sp2 hT ?_;refine bZ (z':=(((k+1):Nat):Int)) (cV (by omega) (by omega)) ?_;refine sp hT ?_;refine nn ?_;exact cJ (k+1,(dn.set x10.buf.toNat (true))) (by dsimp only;omega) ⟨rfl,trivial⟩ ⟨rfl,rfl,trivial⟩ (.cons .head (.cons .head .nil)) ⟨Has.pure (⟨by dsimp only;omega,steps10_ok hinv17.2 (iQ hx11) hok⟩),trivial⟩ (bQ.drop 3)
 have hc96:=Int.not_lt.1 (of_decide_eq_false hc96);refine cU<|cI<|cI<|cT<|bC<|bE<|sr<|sp hT ?_;refine nn<|bW<|cX (ι:=Nat) [(1,_)] ⟨rfl,trivial⟩ (fun j=>[(8,.int .i64 (j:Nat))]) (fun _=>[]) (fun j=>[bU.pure (j≤c.outs.list.length∧(c.outs.list.take j).all (outOk c.c.bufs.length)=true)]) (fun j=>c.outs.list.length-j) 0 ⟨rfl,trivial⟩ .nil ⟨Has.pure (⟨by omega,rfl⟩),trivial⟩ ?_;rintro j;refine cD (Has.of mT0) fun hinv23=>?_;refine bE<|sr<|sp2 hT ?_;refine ss (ldO hT (kA kT1)) ?_;refine sp2 hT ?_;refine nn<|bL rfl (fun hc120=>?_) (fun hc120=>?_)
 ·have hc120:=of_decide_eq_true hc120;refine bO<|bC<|bE<|bW<|bE<|cL (cQ.sl (.slice c.outs.addr c.outs.list.length c.outs.cap) c.outs.list) (rW (bBg (Has.of mT3))) ?_
  obtain⟨x14,hx15⟩: ∃x',c.outs.list[j]?=some x':=⟨_,List.getElem?_eq_getElem (by omega)⟩
  refine fJ _ _ [(true,0),(true,1),(true,2),(true,3),(true,4),(true,5),(true,6),(true,7),(true,8),(true,9),(true,10),(true,11),(true,12),(true,13),(true,14),(true,15),(true,16)] dS (by decide+kernel) (.cons .head (.cons .head .nil)) bQ.self ?_;refine puM hT ?_;refine stM rfl (ldO hT (kA kT1)) ?_;refine puM hT ?_;refine stM rfl (bV hT (k:=j) (bP (Has.of mT0)) rfl rfl rfl rfl rfl rfl rfl (by omega)) ?_;refine stM rfl (bR hT (cM.knows (bP (Has.of mT0)) (k:=j) (x:=x14) hx15 0) rfl rfl rfl rfl rfl) ?_;refine puM hT ?_;refine puM hT ?_;refine cB (fun hg129=>?_) (fun hg129=>?_)
  ·have hg129:=of_decide_eq_true hg129;refine bF rfl rfl rfl rfl ?_;refine bF rfl rfl rfl rfl ?_;refine bF rfl rfl rfl rfl ?_;refine bF rfl rfl rfl rfl ?_;refine bF rfl rfl rfl rfl ?_;refine bF rfl rfl rfl rfl ?_;refine bF rfl rfl rfl rfl ?_;refine bF rfl rfl rfl rfl ?_;refine bF rfl rfl rfl rfl ?_;refine puM hT ?_;refine cW<|bC<|cG rfl rfl ?_;refine sr<|sp hT ?_;refine nn<|bI<|bM<|bH<|bH<|bM<|bH ?_;have hr:=(uU hinv17.2 (by omega)).trans (oW hx15 (decide_eq_false (by omega)));subst hr;exact bN () rfl (bD rfl) .nil trivial rfl
  have hg129:=Int.not_lt.1 (of_decide_eq_false hg129);refine puM hT ?_;refine stM rfl (ldO hT (kA kT1)) ?_;refine puM hT ?_;refine stM rfl (bV hT (k:=j) (bP (Has.of mT0)) rfl rfl rfl rfl rfl rfl rfl (by omega)) ?_;refine stM rfl (bR hT (cM.knows (bP (Has.of mT0)) (k:=j) (x:=x14) hx15 0) rfl rfl rfl rfl rfl) ?_;refine puM hT ?_;refine stM rfl (ldO hT (fE kT1)) ?_;refine puM hT ?_;refine puM hT ?_;refine puM hT ?_;refine cW<|bC<|bL rfl (fun hc139=>?_) (fun hc139=>?_)
  ·have hc139:=of_decide_eq_true hc139;refine sr<|sp hT ?_;refine nn<|bI<|bM<|bH<|bH<|bM<|bH ?_;have hr:=(uU hinv17.2 (by omega)).trans (oW hx15 (decide_eq_false (by omega)));subst hr;exact bN () rfl (bD rfl) .nil trivial rfl
  have hc139:=Int.not_le.1 (of_decide_eq_false hc139);refine bO<|bY<|bC<|bB<|sp2 hT ?_;refine bZ (z':=(((j+1):Nat):Int)) (cV (by omega) (by omega)) ?_;refine sp hT ?_;refine nn ?_;exact cJ (j+1) (by omega) ⟨rfl,trivial⟩ ⟨rfl,trivial⟩ (.cons .head (.cons .head .nil)) ⟨Has.pure (⟨by omega,jJ hinv23.2 hx15 (decide_eq_true (by omega))⟩),trivial⟩ (bQ.drop 2)
 have hc120:=Int.not_lt.1 (of_decide_eq_false hc120);refine cU<|cI<|cI<|cT<|bC<|sr<|sp hT ?_;refine nn<|bI ?_;have hr:=(uU hinv17.2 (by omega)).trans (oH hinv23.2 (by omega));subst hr;exact bN () rfl (bD rfl) .nil trivial rfl
section
variable {acc : List Int} {n : Int}
theorem zr_t(h:acc.contains 0=true):Value.bool true= .bool ((acc++[n]).contains 0):=by
 congr 1
 simp only [List.contains_eq_mem,decide_eq_true_eq] at h;simp [h]
theorem zr_f(h:acc.contains 0=false):Value.bool (n==0)= .bool ((acc++[n]).contains 0):=by
 congr 1
 have h': ¬(0:Int)∈acc:=by simpa using h
 rw [Bool.eq_iff_iff];simp [h'];exact eq_comm
end
theorem dims_b{vars:Int}{dims:List Int}{x:Int}(hx:x∈dims)(h:x<0∨65536<x):Value.bool false= .bool (iD vars dims):=by
 have:dims.any yT=true:=List.any_eq_true.2 ⟨x,hx,by unfold yT;rcases h with h | h<;>simp [h]⟩;unfold iD;rw [this];simp
theorem dims_l{vars:Int}{dims:List Int}(h:(dims.length:Int)≠vars):Value.bool false= .bool (iD vars dims):=by simp [iD,h]
theorem dims_t{vars:Int}{dims:List Int}(h:(dims.length:Int)=vars)(h2: ∀x∈dims,0≤x∧x≤65536):Value.bool true= .bool (iD vars dims):=by
 have:dims.any yT=false:=by
  rw [List.any_eq_false];intro x hx;obtain⟨a,b⟩:=h2 x hx;simp [yT];omega
 unfold iD;rw [this,decide_eq_true h];rfl
theorem take_dims{dims:List Int}{i:Nat}{x:Int}(h: ∀y∈dims.take i,0≤y∧y≤65536)(hx:dims[i]?=some x)(h0:0≤x)(h1:x≤65536): ∀y∈dims.take (i+1),0≤y∧y≤65536:=fun y hy=>by
 rw [List.take_add_one,hx] at hy
 rcases List.mem_append.1 hy with hy | hy
 ·exact h y hy
 ·obtain rfl:y=x:=by simpa using hy
  exact⟨h0,h1⟩
set_option maxRecDepth 100000 in
theorem sQ(sides:Sl PolV)(DA:Option Addr)(dcap:Nat)(dims:List Int)(hdl:dims.length≤140737488355328):dM Tryz.prog 47 [.slice sides.addr sides.list.length sides.cap,.slice DA dims.length dcap] [] [mD sides,cQ.sl (.slice DA dims.length dcap) dims] (fun(x:(Option Addr×Nat)×List Int)=> .tuple #[.slice x.1.1 x.2.length x.1.2,.int .i64 ((sizeB (polsL sides.list) dims).getD 0),.bool (sizeB (polsL sides.list) dims).isSome]) (fun(x:(Option Addr×Nat)×List Int)=>[cQ.row (.slice x.1.1 x.2.length x.1.2) 2 x.2]) (fun(x:(Option Addr×Nat)×List Int)=>[bU.pure ((sizeB (polsL sides.list) dims).isSome=true→sidesGo dims (polsL sides.list) []=some x.2)]):=by
 have hT:=cZ
 obtain⟨R,hR⟩: ∃R,sidesGo dims (polsL sides.list) []=R:=⟨_,rfl⟩
 refine cO Tryz.func47 rfl Tryz.ntmps47 rfl ?_;intro β hM;refine bE<|cL (pX.sl (.slice sides.addr sides.list.length sides.cap) sides.list) (sJ (Has.of mT0)) ?_;refine cD (xS (Has.of mT1)) fun hsc=>?_;have hsc1:=hsc.1;have hsc2:=hsc.2;refine dN (t:=2) cQ ?_;refine bB<|sp3 hT ?_;refine nn<|sr<|sp hT ?_;refine nn<|sr<|sp hT ?_;refine nn<|sr<|sp hT ?_;refine nn<|bE<|sr<|sp hT ?_;refine nn<|bW<|cX (ι:=Option Addr×Nat×List Int×Nat) [(0,_),(1,_),(7,_)] ⟨rfl,rfl,rfl,trivial⟩ (fun⟨LA,lc,acc,i⟩=>[(8,.slice LA acc.length lc),(9,.bool (acc.contains 0)),(10,.int .i64 (i:Nat))]) (fun⟨LA,lc,acc,i⟩=>[cQ.row (.slice LA acc.length lc) 2 acc]) (fun⟨LA,lc,acc,i⟩=>[bU.pure (i≤sides.list.length∧acc.length=i∧inSz acc∧R=sidesGo dims ((polsL sides.list).drop i) acc)]) (fun⟨LA,lc,acc,i⟩=>sides.list.length-i) (none,0,[],0) ⟨rfl,rfl,rfl,trivial⟩ (.cons .head .nil) ⟨Has.pure (⟨by omega,rfl,fun _ h=>(by cases h),hR.symm⟩),trivial⟩ ?_;rintro⟨LA,lc,acc,i⟩;dsimp only;refine cD (Has.of mT0) fun hinv5=>?_;have hal:=hinv5.2.1;refine bE<|sr<|sp4 hT ?_;refine nn<|bL rfl (fun hc17=>?_) (fun hc17=>?_)
 ·have hc17:=of_decide_eq_true hc17;refine bO<|bC<|bE<|bW<|bE ?_
  obtain⟨x,hx⟩: ∃x',sides.list[i]?=some x':=⟨_,List.getElem?_eq_getElem (by omega)⟩
  refine cL (lS x) (Has.each (sN (Has.of mT2)) (List.mem_of_getElem? hx)) ?_;refine bB<|sp2 hT ?_;refine ss (bV hT (k:=i) (bP (Has.of mT2)) rfl rfl rfl rfl rfl rfl rfl (by omega)) ?_;refine ss (bR hT (cM.knows (bP (Has.of mT2)) (k:=i) (x:=x) hx 0) rfl rfl rfl rfl rfl) ?_;refine sp hT ?_;refine cD (jH (Has.of mT0)) fun hxl=>?_;refine cK Tryz.func106 (nQ x DA dcap dims (Nat.le_trans hxl (by decide)) hdl) rfl rfl .nil ⟨Has.of mT0,Has.of mT4,trivial⟩ fun _=>?_;refine sp4 hT ?_;refine sp hT ?_;refine nn<|bE<|sr<|sp3 hT ?_;refine cB (fun hg31=>?_) (fun hg31=>?_)
  ·have hg31:=bne_iff_ne.1 hg31;refine sk2 ?_;refine sp2 hT ?_;refine sk2 ?_;refine sp hT ?_;refine nn<|cG rfl rfl ?_;refine sr<|sp3 hT ?_;refine nn<|bI<|bH<|bM<|bH<|bH<|bM<|bH ?_;have hz:sizeB (polsL sides.list) dims=none:=by unfold sizeB;rw [hR,rQ hinv5.2.2.2 (dQ hx) (by omega)]
   refine dN (t:=2) cQ ?_;exact kJ ((none,0),[]) rfl (bD rfl) (bD rfl) (bD rfl) (.cons .head .nil) ⟨Has.pure (fun h=>by rw [hz] at h;cases h),trivial⟩ (by rw [hz];rfl)
  have hg31:=bne_eq_false_iff_eq.1 hg31;refine sp4 hT ?_;refine cB (fun hg35=>?_) (fun hg35=>?_)
  ·have hg35:=of_decide_eq_true hg35;refine sk2 ?_;refine sp hT ?_;refine nn<|cG rfl rfl ?_;refine sr<|sp3 hT ?_;refine nn<|bI<|bH<|bM<|bH<|bH<|bM<|bH ?_;have hz:sizeB (polsL sides.list) dims=none:=by unfold sizeB;rw [hR,rQ hinv5.2.2.2 (dQ hx) (by omega)]
   refine dN (t:=2) cQ ?_;exact kJ ((none,0),[]) rfl (bD rfl) (bD rfl) (bD rfl) (.cons .head .nil) ⟨Has.pure (fun h=>by rw [hz] at h;cases h),trivial⟩ (by rw [hz];rfl)
  have hg35:=Int.not_lt.1 (of_decide_eq_false hg35);refine sp3 hT ?_;refine nn<|bL rfl (fun hc38=>?_) (fun hc38=>?_)
  ·have hc38:=of_decide_eq_true hc38;refine sr<|sp3 hT ?_;refine nn<|bI<|bH<|bM<|bH<|bH<|bM<|bH ?_;have hz:sizeB (polsL sides.list) dims=none:=by unfold sizeB;rw [hR,rQ hinv5.2.2.2 (dQ hx) (by omega)]
   refine dN (t:=2) cQ ?_;exact kJ ((none,0),[]) rfl (bD rfl) (bD rfl) (bD rfl) (.cons .head .nil) ⟨Has.pure (fun h=>by rw [hz] at h;cases h),trivial⟩ (by rw [hz];rfl)
  have hc38:=Int.not_lt.1 (of_decide_eq_false hc38);refine bO<|bC<|sr<|sp2 hT ?_;refine fF (m:=(evalP x.list dims).1) rfl rfl rfl rfl rfl fun b1=>?_;refine dH kT1 (dP .head rfl) rfl rfl rfl rfl rfl rfl rfl (by simp only [List.length_singleton];omega) fun A2 c3=>?_;refine sp hT ?_;refine nn<|bB<|sp2 hT ?_;refine cB (fun hg44=>?_) (fun hg44=>?_)
  ·refine sk2 ?_;refine sp2 hT ?_;refine cA<|bY<|bC<|bB<|sp2 hT ?_;refine bZ (z':=(((i+1):Nat):Int)) (cV (by omega) (by omega)) ?_;refine sp hT ?_;refine nn ?_;exact cJ (A2,c3,acc++[(evalP x.list dims).1],i+1) (by dsimp only;omega) ⟨rfl,(by first | exact congrArg some (zr_t (acc:=acc) ‹_›) | exact congrArg some (zr_f (acc:=acc) ‹_›)),rfl,trivial⟩ ⟨rfl,rfl,rfl,trivial⟩ (.cons .head .nil) ⟨Has.pure (⟨by dsimp only;omega,by dsimp only;rw [List.length_append,List.length_singleton];omega,uX hinv5.2.2.1 (by omega) (by omega),zG hinv5.2.2.2 (dQ hx) ‹_› (by omega) (by omega)⟩),trivial⟩ (bQ.drop 2)
  refine sp4 hT ?_;refine cA<|bY<|bC<|bB<|sp2 hT ?_;refine bZ (z':=(((i+1):Nat):Int)) (cV (by omega) (by omega)) ?_;refine sp hT ?_;refine nn ?_;exact cJ (A2,c3,acc++[(evalP x.list dims).1],i+1) (by dsimp only;omega) ⟨rfl,(by first | exact congrArg some (zr_t (acc:=acc) ‹_›) | exact congrArg some (zr_f (acc:=acc) ‹_›)),rfl,trivial⟩ ⟨rfl,rfl,rfl,trivial⟩ (.cons .head .nil) ⟨Has.pure (⟨by dsimp only;omega,by dsimp only;rw [List.length_append,List.length_singleton];omega,uX hinv5.2.2.1 (by omega) (by omega),zG hinv5.2.2.2 (dQ hx) ‹_› (by omega) (by omega)⟩),trivial⟩ (bQ.drop 2)
 have hc17:=Int.not_lt.1 (of_decide_eq_false hc17);refine cU<|cI<|cI<|cT<|bC<|bE<|bE ?_;have hsd:=bHx hinv5.2.2.2 (by rw [dC];omega);refine bB<|sp hT ?_;refine nn<|bL rfl (fun hc48=>?_) (fun hc48=>?_)
 ·refine sr<|sp4 hT ?_;refine nn<|bI<|bH ?_;have hz:sizeB (polsL sides.list) dims=some 0:=by unfold sizeB;rw [hR,hsd];dsimp only;rw [if_pos ‹_›]
  exact kJ ((LA,lc),acc) rfl (bD rfl) (bD rfl) (bD rfl) (.cons .head .nil) ⟨Has.pure (fun _=>hR.trans hsd),trivial⟩ (by rw [hz];rfl)
 refine bO<|bC<|bE<|bE ?_
 obtain⟨Q,hQ⟩: ∃Q,prodQ acc 1=Q:=⟨_,rfl⟩
 refine bB<|sp hT ?_;refine nn<|bW<|cX (ι:=Int×Nat) [(8,_)] ⟨rfl,trivial⟩ (fun⟨al,j⟩=>[(7,.int .i64 al),(13,.int .i64 (j:Nat))]) (fun _=>[]) (fun⟨al,j⟩=>[bU.pure (j≤acc.length∧0≤al∧al≤65536∧Q=prodQ (acc.drop j) al)]) (fun⟨al,j⟩=>acc.length-j) (1,0) ⟨rfl,rfl,trivial⟩ .nil ⟨Has.pure (⟨by omega,by omega,by omega,hQ.symm⟩),trivial⟩ ?_;rintro⟨al,j⟩;dsimp only;refine cD (Has.of mT0) fun hinv15=>?_;refine bE<|sr<|sp4 hT ?_;refine nn<|bL rfl (fun hc53=>?_) (fun hc53=>?_)
 ·have hc53:=of_decide_eq_true hc53;refine bO<|bC<|bE<|bW<|bE ?_
  obtain⟨n,hn⟩: ∃n,acc[j]?=some n:=⟨_,List.getElem?_eq_getElem (by omega)⟩
  have hnz:=hinv5.2.2.1 n (List.mem_of_getElem? hn);have hmi:=wK ⟨hinv15.2.1,hinv15.2.2.1⟩ hnz;refine bB<|sp3 hT ?_;refine ss (bV hT (k:=j) (cF .head) rfl rfl rfl rfl rfl rfl rfl (by omega)) ?_;refine ss (bR hT (cM.knows (cF .head) (k:=j) (x:=n) hn 0) rfl rfl rfl rfl rfl) ?_;refine sp hT ?_;refine bZ (gK (by omega) (by omega)) ?_;refine sp hT ?_;refine nn<|sr<|sp2 hT ?_;refine nn<|bL rfl (fun hc63=>?_) (fun hc63=>?_)
  ·have hc63:=of_decide_eq_true hc63;refine sr<|sp3 hT ?_;refine nn<|bI<|bM<|bH<|bH<|bM<|bH ?_;have hz:sizeB (polsL sides.list) dims=none:=by unfold sizeB;rw [hR,hsd];dsimp only;rw [if_neg (by simp_all),hQ];exact prod_no hinv15.2.2.2 hn (by omega)
   refine dN (t:=2) cQ ?_;exact kJ ((none,0),[]) rfl (bD rfl) (bD rfl) (bD rfl) (.cons .head .nil) ⟨Has.pure (fun h=>by rw [hz] at h;cases h),trivial⟩ (by rw [hz];rfl)
  have hc63:=Int.not_lt.1 (of_decide_eq_false hc63);refine bO<|bY<|bC<|bB<|sp2 hT ?_;refine bZ (z':=(((j+1):Nat):Int)) (cV (by omega) (by omega)) ?_;refine sp hT ?_;refine nn ?_;exact cJ (al*n,j+1) (by dsimp only;omega) ⟨rfl,rfl,trivial⟩ ⟨rfl,trivial⟩ (.cons .head .nil) ⟨Has.pure (⟨by dsimp only;omega,(wK ⟨hinv15.2.1,hinv15.2.2.1⟩ hnz).1,by dsimp only;omega,prod_yes hinv15.2.2.2 hn (by omega)⟩),trivial⟩ (bQ.drop 1)
 have hc53:=Int.not_lt.1 (of_decide_eq_false hc53);refine cU<|cI<|cI<|cT<|bC<|sr<|sp4 hT ?_;refine sp hT ?_;refine nn<|bI ?_;have hz:sizeB (polsL sides.list) dims=some al:=by unfold sizeB;rw [hR,hsd];dsimp only;rw [if_neg (by simp_all),hQ];exact prod_end hinv15.2.2.2 (by omega)
 exact kJ ((LA,lc),acc) rfl (bD rfl) (bD rfl) (bD rfl) (.cons .head .nil) ⟨Has.pure (fun _=>hR.trans hsd),trivial⟩ (by rw [hz];rfl)
set_option maxRecDepth 100000 in
theorem DimsQ_spec(c:iN)(DA:Option Addr)(dcap:Nat)(dims:List Int)(hdl:dims.length≤140737488355328):dM Tryz.prog 97 [.agg #[.int .i64 c.vars,.slice c.bufs.addr c.bufs.list.length c.bufs.cap,.slice c.steps.addr c.steps.list.length c.steps.cap,.slice c.outs.addr c.outs.list.length c.outs.cap],.slice DA dims.length dcap] [] [cQ.sl (.slice DA dims.length dcap) dims] (fun(_:Unit)=> .bool (iD c.vars dims)) (fun _=>[]) (fun _=>[]):=by
 have hT:=cZ;refine cO Tryz.func97 rfl Tryz.ntmps97 rfl ?_;intro β hM;refine sr<|gG rfl rfl rfl rfl rfl rfl fun b1=>?_;refine sp hT ?_;refine nn<|bE<|sr<|sp3 hT ?_;refine ss (ldO hT (dO .head)) ?_;refine sp hT ?_;refine nn<|bL rfl (fun hc10=>?_) (fun hc10=>?_)
 ·have hc10:=bne_iff_ne.1 hc10;refine sr<|sp hT ?_;refine nn<|bI<|bH ?_;exact bN () rfl (bD rfl) .nil trivial (dims_l ‹_›)
 have hc10:=bne_eq_false_iff_eq.1 hc10;refine bO<|bC<|bE<|sr<|sp hT ?_;refine nn<|bW<|cX (ι:=Nat) [(1,_)] ⟨rfl,trivial⟩ (fun i=>[(5,.int .i64 (i:Nat))]) (fun _=>[]) (fun i=>[bU.pure (i≤dims.length∧ ∀y∈dims.take i,0≤y∧y≤65536)]) (fun i=>dims.length-i) 0 ⟨rfl,trivial⟩ .nil ⟨Has.pure (⟨by omega,fun y hy=>by simp at hy⟩),trivial⟩ ?_;rintro i;refine cD (Has.of mT0) fun hinv4=>?_;refine bE<|sr<|sp4 hT ?_;refine nn<|bL rfl (fun hc14=>?_) (fun hc14=>?_)
 ·have hc14:=of_decide_eq_true hc14;refine bO<|bC<|bE<|bW<|bE ?_
  obtain⟨x,hx⟩: ∃x,dims[i]?=some x:=⟨_,List.getElem?_eq_getElem (by omega)⟩
  refine bB<|sp2 hT ?_;refine ss (bV hT (k:=i) (bP (Has.of mT1)) rfl rfl rfl rfl rfl rfl rfl (by omega)) ?_;refine ss (bR hT (cM.knows (bP (Has.of mT1)) (k:=i) (x:=x) hx 0) rfl rfl rfl rfl rfl) ?_;refine sp2 hT ?_;refine cB (fun hg22=>?_) (fun hg22=>?_)
  ·have hg22:=of_decide_eq_true hg22;refine sk4 ?_;refine sk ?_;refine sp hT ?_;refine nn<|cG rfl rfl ?_;refine sr<|sp hT ?_;refine nn<|bI<|bM<|bH<|bH<|bM<|bH ?_;exact bN () rfl (bD rfl) .nil trivial (dims_b (List.mem_of_getElem? hx) (by omega))
  have hg22:=Int.not_lt.1 (of_decide_eq_false hg22);refine sp2 hT ?_;refine ss (bV hT (k:=i) (bP (Has.of mT1)) rfl rfl rfl rfl rfl rfl rfl (by omega)) ?_;refine ss (bR hT (cM.knows (bP (Has.of mT1)) (k:=i) (x:=x) hx 0) rfl rfl rfl rfl rfl) ?_;refine sp2 hT ?_;refine nn<|bL rfl (fun hc28=>?_) (fun hc28=>?_)
  ·have hc28:=of_decide_eq_true hc28;refine sr<|sp hT ?_;refine nn<|bI<|bM<|bH<|bH<|bM<|bH ?_;exact bN () rfl (bD rfl) .nil trivial (dims_b (List.mem_of_getElem? hx) (by omega))
  have hc28:=Int.not_lt.1 (of_decide_eq_false hc28);refine bO<|bY<|bC<|bB<|sp2 hT ?_;refine bZ (z':=(((i+1):Nat):Int)) (cV (by omega) (by omega)) ?_;refine sp hT ?_;refine nn ?_;exact cJ (i+1) (by omega) ⟨rfl,trivial⟩ ⟨rfl,trivial⟩ (.cons .head .nil) ⟨Has.pure (⟨by omega,take_dims hinv4.2 hx (by omega) (by omega)⟩),trivial⟩ (bQ.drop 1)
 have hc14:=Int.not_lt.1 (of_decide_eq_false hc14);refine cU<|cI<|cI<|cT<|bC<|sr<|sp hT ?_;refine nn<|bI ?_;exact bN () rfl (bD rfl) .nil trivial (dims_t (by omega) (by rw [←List.take_of_length_le (l:=dims) (i:=i) (by omega)];exact hinv4.2))
set_option maxRecDepth 100000 in
theorem CellsQ_spec(c:iN)(DA:Option Addr)(dcap:Nat)(dims:List Int)(hdl:dims.length≤140737488355328):dM Tryz.prog 44 [.agg #[.int .i64 c.vars,.slice c.bufs.addr c.bufs.list.length c.bufs.cap,.slice c.steps.addr c.steps.list.length c.steps.cap,.slice c.outs.addr c.outs.list.length c.outs.cap],.slice DA dims.length dcap] [] [lY c,cQ.sl (.slice DA dims.length dcap) dims] (fun(_:Unit)=> .tuple #[.int .i64 (fI c.c dims).1,.int .i64 (fI c.c dims).2]) (fun _=>[]) (fun _=>[]):=by
 have hT:=cZ
 obtain⟨R,hR⟩: ∃R,cellsGo dims c.c.bufs 0=R:=⟨_,rfl⟩
 refine cO Tryz.func44 rfl Tryz.ntmps44 rfl ?_;intro β hM;refine sr<|gG rfl rfl rfl rfl rfl rfl fun b1=>?_;refine sp2 hT ?_;refine nn<|bE<|sr<|ss (ldN hT (dO .head)) ?_;refine cK Tryz.func96 (Right10_spec c) rfl rfl .nil ⟨(Has.of mT0),trivial⟩ fun _=>?_;refine sp hT ?_;refine nn<|bL rfl (fun hc13=>?_) (fun hc13=>?_)
 ·have hc13:=gR hc13;refine sr<|sp2 hT ?_;refine nn<|bI<|bH ?_;have hr:gO c.c=false:=by simp_all
  have hv:fI c.c dims=(0,100):=by unfold fI;rw [if_neg (by simp [hr])]
  exact cC () rfl (bD rfl) (bD rfl) .nil trivial (by rw [hv])
 have hc13:=gS hc13;refine bO<|bC<|bE<|sr<|ss (ldN hT (dO .head)) ?_;refine sp hT ?_;refine cK Tryz.func97 (DimsQ_spec c DA dcap dims hdl) rfl rfl .nil ⟨(Has.of mT1),trivial⟩ fun _=>?_;refine sp hT ?_;refine nn<|bL rfl (fun hc17=>?_) (fun hc17=>?_)
 ·have hc17:=gR hc17;refine sr<|sp2 hT ?_;refine nn<|bI<|bH ?_;have hr:gO c.c=true:=by simp_all
  have hd:iD c.vars dims=false:=by first | assumption | simp_all
  have hv:fI c.c dims=(0,101):=by unfold fI;rw [if_pos hr,if_neg (by show ¬iD c.vars dims=true;simp [hd])]
  exact cC () rfl (bD rfl) (bD rfl) .nil trivial (by rw [hv])
 have hc17:=gS hc17;refine bO<|bC<|sr<|sp hT ?_;refine nn<|bE<|bE ?_;have hrr:gO c.c=true:=by simp_all
 have hbz:=(xO hrr).1.1;have hnb:c.c.bufs.length=c.bufs.list.length:=dI _;refine cL (uB.sl (.slice c.bufs.addr c.bufs.list.length c.bufs.cap) c.bufs.list) (nS (iY (Has.of mT0))) ?_;refine bB<|sp hT ?_;refine nn<|bW<|cX (ι:=Int×Nat) [(1,_),(2,_)] ⟨rfl,rfl,trivial⟩ (fun⟨al,i⟩=>[(6,.int .i64 al),(7,.int .i64 (i:Nat))]) (fun _=>[]) (fun⟨al,i⟩=>[bU.pure (i≤c.bufs.list.length∧0≤al∧al≤1048576∧R=cellsGo dims ((bufsL c.bufs.list).drop i) al)]) (fun⟨al,i⟩=>c.bufs.list.length-i) (0,0) ⟨rfl,rfl,trivial⟩ .nil ⟨Has.pure (⟨by omega,by omega,by omega,hR.symm⟩),trivial⟩ ?_;rintro⟨al,i⟩;dsimp only;refine cD (Has.of mT0) fun hinv7=>?_;refine bE<|sr<|sp2 hT ?_;refine ss (ldO hT (fE .head)) ?_;refine sp2 hT ?_;refine nn<|bL rfl (fun hc22=>?_) (fun hc22=>?_)
 ·have hc22:=of_decide_eq_true hc22;refine bO<|bC<|bE<|bW<|sr<|sp hT ?_;refine ss (ldO hT (fE .head)) ?_;refine sp hT ?_
  obtain⟨x2,hx3⟩: ∃x',c.bufs.list[i]?=some x':=⟨_,List.getElem?_eq_getElem (by omega)⟩
  refine ss (bV hT (k:=i) (bP (Has.of mT1)) rfl rfl rfl rfl rfl rfl rfl (by omega)) ?_;refine sp hT ?_;refine ss (bR hT (cM.knows (bP (Has.of mT1)) (k:=i) (x:=x2) hx3 0) rfl rfl rfl rfl rfl) ?_;refine sp hT ?_;refine cL (mD x2.sides) (Has.each (tA (iY (Has.of mT2))) (List.mem_of_getElem? hx3)) ?_
  obtain⟨z,hz⟩: ∃z,sizeB (polsL x2.sides.list) dims=z:=⟨_,rfl⟩
  refine cK Tryz.func47 (sQ x2.sides DA dcap dims hdl) rfl rfl .nil ⟨(Has.of mT0),(Has.of mT4),trivial⟩ fun vy=>?_;rw [hz];have hzb:=bJv hz;refine sp4 hT ?_;refine sp3 hT ?_;refine nn<|bE<|sr<|sp2 hT ?_;refine nn<|bL rfl (fun hc38=>?_) (fun hc38=>?_)
  ·have hc38:=gR hc38;refine sr<|sp2 hT ?_;refine nn<|bI<|bH<|bM<|bH<|bH<|bM<|bH ?_;have hr:gO c.c=true:=by simp_all
   have hd:iD c.vars dims=true:=by first | assumption | simp_all
   have hv:fI c.c dims=(0,102):=by unfold fI;rw [if_pos hr,if_pos (by show iD c.vars dims=true;exact hd)];exact hR.trans (yN hinv7.2.2.2 (dE hx3) hz (by first | (left;simp_all;done) | (right;omega)))
   exact cC () rfl (bD rfl) (bD rfl) .nil trivial (by rw [hv])
  have hc38:=gS hc38;refine bO<|bC<|sr<|sp3 hT ?_;refine bZ (gK (by omega) (by omega)) ?_;refine sp hT ?_;refine nn<|sr<|sp2 hT ?_;refine nn<|bL rfl (fun hc43=>?_) (fun hc43=>?_)
  ·have hc43:=of_decide_eq_true hc43;refine sr<|sp2 hT ?_;refine nn<|bI<|bM<|bH<|bH<|bM<|bH ?_;have hr:gO c.c=true:=by simp_all
   have hd:iD c.vars dims=true:=by first | assumption | simp_all
   have hv:fI c.c dims=(0,102):=by unfold fI;rw [if_pos hr,if_pos (by show iD c.vars dims=true;exact hd)];exact hR.trans (yN hinv7.2.2.2 (dE hx3) hz (by first | (left;simp_all;done) | (right;omega)))
   exact cC () rfl (bD rfl) (bD rfl) .nil trivial (by rw [hv])
  have hc43:=Int.not_lt.1 (of_decide_eq_false hc43);refine bO<|bY<|bC<|bB<|sp2 hT ?_;refine bZ (z':=(((i+1):Nat):Int)) (cV (by omega) (by omega)) ?_;refine sp hT ?_;refine nn ?_;exact cJ (al+z.getD 0,i+1) (by dsimp only;omega) ⟨rfl,rfl,trivial⟩ ⟨rfl,rfl,trivial⟩ (.cons kT1 .nil) ⟨Has.pure (⟨by dsimp only;omega,by dsimp only;omega,by dsimp only;omega,bHm hinv7.2.2.2 (dE hx3) hz (by first | assumption | simp_all) (by omega)⟩),trivial⟩ (bQ.drop 3)
 have hc22:=Int.not_lt.1 (of_decide_eq_false hc22);refine cU<|cI<|cI<|cT<|bC<|sr<|sp3 hT ?_;refine nn<|bI ?_;have hr:gO c.c=true:=by simp_all
 have hd:iD c.vars dims=true:=by first | assumption | simp_all
 have hv:fI c.c dims=(al,0):=by unfold fI;rw [if_pos hr,if_pos (by show iD c.vars dims=true;exact hd)];exact hR.trans (bHb hinv7.2.2.2 (by rw [dI];omega))
 exact cC () rfl (bD rfl) (bD rfl) .nil trivial (by rw [hv])
end Go.Proofs.YtnmhcaahkaocgaaGreatDoor
