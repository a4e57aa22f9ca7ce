/- Texts of one proof, one behind the other: RefB, RefC, PlanC, PlanD, RefD, RefE, EqK, PlQ, PlR, MapD. -/
import Derived.Test.YtnfiadlonjediaaGreatDoorM7
import Derived.Test.YtnfiadlonjediaaGreatDoorM14
import Derived.Test.YtnfiadlonjediaaGreatDoorM10
import Derived.Test.YtnfiadlonjediaaGreatDoorM11
set_option maxRecDepth 100000
namespace Go.Proofs.YtnfiadlonjediaaGreatDoor
section
open Go.RowKit Go.Proofs.Tryz
theorem polsInfo: ∃i:TypeInfo,prog.info? 43=some i/\i.zero=some (.slice none 0 0)/\i.size=1/\i.bytes=24:=by
 have h:(prog.info? 43).map (λi=>(i.zero,i.size,i.bytes))=some (some (.slice none 0 0),1,24):=k8
 cases hi:prog.info? 43 with
 |none=>simp[hi]at h
 |some i=>simp[hi]at h;exact⟨i,rfl,h.1,h.2.1,h.2.2⟩
theorem at_one_pols{β:dC}{n:Nat}{Γ:Env}{H:List bD}{F:List bC}{Q:Exit->Act->World->Prop}{ops:Array Oper}{rest:List Oper}{o:Oper}{d:Nat}{x:Operand}{m:PolV}(hw:want ops Γ o=some true)(ho:o.op= .buildSlice 42 1 #[(0,x)])(hd:o.dst=some d)(hn:Nat.blt d n=true)
  (hx:Γ.ev x=some (.slice m.addr m.list.length m.cap)) (k: ∀b,At β n ((d,.slice (some ⟨b,0,none⟩) 1 1)::Γ) (.obj b (.cells (iD.all [m]).toArray 43)::H) F (wpList prog ops Q rest)):At β n Γ H F (wpList prog ops Q (o::rest)):=by
 obtain⟨i,hi,hz,hs,_⟩:=polsInfo;refine nF hw ho hd hn hx underlying42 hi hz k7 k7 ?_ k;rw[hs]
 kernel_rfl
theorem listF_one{F:List bC}{A:Option Addr}{p:PolV}(h1:Has F (iD.sl (.slice A 1 1) [p]))(h2:Has F (fC p)):Has F (oL ⟨A,1,[p]⟩):=
 Has.and (Has.and h1 (λS w k q hq=>by simp at hq;subst hq;exact h2 S w k)) (e9 ⟨Nat.le_refl 1,(by decide:1*24<=140737488355328)⟩)
def mU (c:dE)(made:List Bool)(x:cP):Bool:=(decide (0<=x.buf)&&(match c.bufs[x.buf.toNat]? with
   |some b=>decide (b.input<0)
   |none=>false))&&lD c.vars made x
def yR (vars:Int)(x:fW)(made:List Bool)(o:OpV):Bool:=opB vars x.loops.list.length (-1) made o.c&& !(o.how==4&&o.k==x.buf)
structure bKd (c:gF) (made:List Bool) (x:fW):Prop where
 how1:1<=x.how
 how3:x.how<=3
 buf0:0<=x.buf
 bufn:x.buf<(c.bufs.list.length:Nat)
 inp: ∀b,c.bufs.list[x.buf.toNat]?=some b->b.input<0
 at_:gK (polsL [x.at_]) c.vars=true
 loops:gK (polsL x.loops.list) c.vars=true
 ne:x.how≠1->x.loops.list.length≠0
 fn1:x.how=1->x.fn=0
 fn3:x.how≠1->fX x.fn true=true
 ops0:x.ops.list.length≠0
 ops1:(x.ops.list.length:Int)<=256
 dep:0<=kL (opsL x.ops.list)
 ops:x.ops.list.all (yR c.vars x made)=true
theorem op_buf{vars loops buf:Int}{made:List Bool}{o:OpV}:opB vars loops buf made o.c=(opB vars loops (-1) made o.c&& !(o.how==4&&o.k==buf)):=by
 unfold opB;show(if o.how=1 then _ else if o.how=2 then _ else if o.how=3 then _ else if o.how=4 then _ else if o.how=5\/o.how=6 then _ else _)=((if o.how=1 then _ else if o.how=2 then _ else if o.how=3 then _ else if o.how=4 then _ else if o.how=5\/o.how=6 then _ else _)&&_)
 by_cases h4:o.how=4
 .rw[if_neg k7,if_neg k7,if_neg k7,if_pos h4,if_neg k7,if_neg k7,if_neg k7,if_pos h4];show(decide (0<=o.k/\o.k≠buf)&&_)=(decide (0<=o.k/\o.k≠ -1)&&_&&_)
  by_cases h0:0<=o.k
  .by_cases hk:o.k=buf
   .simp[h4,hk]
   .have h1:o.k≠ -1:=k7
    simp[h4,hk,h0,h1]
  .have h1:decide (0<=o.k/\o.k≠buf)=false:=decide_eq_false k7;have h2:decide (0<=o.k/\o.k≠ -1)=false:=decide_eq_false k7;rw[h1,h2];rfl
 .have e:(o.how==4)=false:=by simp[h4]
  rw[e,if_neg h4,if_neg h4];simp
theorem step_iff{c:gF}{made:List Bool}{x:fW}:mU c.c made x.c=true↔bKd c made x:=by
 have hops:x.c.ops.all (opB c.vars x.loops.list.length x.buf made)=x.ops.list.all (yR c.vars x made):=by
  show(x.ops.list.map OpV.c).all _=_;rw[List.all_map]
  congr 1
  funext o
  exact op_buf
 have hl:x.c.loops.length=x.loops.list.length:=cC _;have ho:x.c.ops.length=x.ops.list.length:=fV _
 have he:x.c.loops.isEmpty=decide (x.loops.list.length=0):=by
  rw[<-hl];cases x.c.loops<;>rfl
 have ha:gK (polsL [x.at_]) c.vars=(ofB x.at_.list c.vars&&iE x.at_.list):=by
  show(([x.at_.list]).all _&&decide (1<=4))=_;simp
 have hd:kL []= -1:=m7
 constructor
 .intro h;unfold mU lD at h;simp only[Bool.and_eq_true,decide_eq_true_eq]at h;obtain⟨⟨h1,h2⟩,⟨h3,h4⟩,h5,h6,h7,h8,h9⟩:=h;have h1:0<=x.buf:=h1;have h2:(match (c.bufs.list.map jD.c)[x.buf.toNat]? with|some b=>decide (b.input<0)|none=>false)=true:=h2;rw[List.getElem?_map]at h2;have h9':x.c.ops.all (opB c.vars x.loops.list.length x.buf made)=true:=by rw[<-hl];exact h9
  rw[hops]at h9';have h8:(if x.how=1 then x.fn==0 else if x.how=2\/x.how=3 then !x.c.loops.isEmpty&&fX x.fn true else false)=true:=h8;rw[he]at h8;have h6:x.c.ops.length<=256:=h6
  have hh:(1<=x.how/\x.how<=3)/\(x.how=1->x.fn=0)/\(x.how≠1->x.loops.list.length≠0/\fX x.fn true=true):=by
   by_cases e1:x.how=1
   .rw[if_pos e1]at h8;exact⟨k7,λ_=>by simpa using h8,λh=>absurd e1 h⟩
   .rw[if_neg e1]at h8
    by_cases e2:x.how=2\/x.how=3
    .rw[if_pos e2]at h8;refine⟨k7,λh=>absurd h e1,λ_=>by simpa using h8⟩
    .rw[if_neg e2]at h8;cases h8
  cases hb:c.bufs.list[x.buf.toNat]? with
  |none=>rw[hb]at h2;cases h2
  |some b=>
   rw[hb]at h2;have hlt:=(List.getElem?_eq_some_iff.1 hb).1
   exact⟨hh.1.1,hh.1.2,h1,k7,λb' hb'=>by rw[hb]at hb';cases hb';exact of_decide_eq_true h2,by rw[ha];exact(Bool.and_eq_true _ _).symm▸⟨h3,h4⟩,h5,λh=>(hh.2.2 h).1,hh.2.1,λh=>(hh.2.2 h).2,
    λe=>by
     have:x.ops.list=[]:=List.eq_nil_of_length_eq_zero e;have h7:0<=kL (opsL x.ops.list):=h7;rw[this,show opsL []=[]from rfl,hd]at h7
     omega,k7,h7,h9'⟩
 .intro p;unfold mU lD;have h9:x.c.ops.all (opB c.vars x.loops.list.length x.buf made)=true:=by rw[hops];exact p.ops
  have h3:=p.at_;rw[ha,Bool.and_eq_true]at h3
  have h8:(if x.how=1 then x.fn==0 else if x.how=2\/x.how=3 then !x.c.loops.isEmpty&&fX x.fn true else false)=true:=by
   have q1:=p.how1;have q3:=p.how3;rw[he]
   by_cases e1:x.how=1
   .rw[if_pos e1,p.fn1 e1];rfl
   .rw[if_neg e1,if_pos k7,p.fn3 e1];have:=p.ne e1;simp[this]
  have h1:(decide (0<=x.c.buf)&&(match c.c.bufs[x.c.buf.toNat]? with|some b=>decide (b.input<0)|none=>false))=true:=by
   show(decide (0<=x.buf)&&(match (c.bufs.list.map jD.c)[x.buf.toNat]? with|some b=>decide (b.input<0)|none=>false))=true;have q0:=p.buf0;have q1:=p.bufn;rw[List.getElem?_map,List.getElem?_eq_getElem k7,decide_eq_true q0];exact decide_eq_true (p.inp _ (List.getElem?_eq_getElem k7))
  rw[h1];have q6:=p.ops1;have h6:x.c.ops.length<=256:=k7
  show(true&&((ofB x.at_.list c.vars&&iE x.at_.list)&&(gK (polsL x.loops.list) c.vars&&(decide (x.c.ops.length<=256)&&(decide (0<=kL (opsL x.ops.list))&&((if x.how=1 then x.fn==0 else if x.how=2\/x.how=3 then !x.c.loops.isEmpty&&fX x.fn true else false)&&x.c.ops.all (opB c.vars x.c.loops.length x.buf made)))))))=true;rw[h3.1,h3.2,p.loops,decide_eq_true h6,decide_eq_true p.dep,h8,hl,h9];rfl
theorem gW{c:gF}{made:List Bool}{x:fW}(h: ¬bKd c made x):Value.bool false= .bool (mU c.c made x.c):=by
 cases e:mU c.c made x.c with
 |false=>rfl
 |true=>exact absurd (step_iff.1 e) h
theorem step_yes{c:gF}{made:List Bool}{x:fW}(h:bKd c made x):Value.bool true= .bool (mU c.c made x.c):=by rw[step_iff.2 h]
theorem bPm(o:OpV)(vars loops:Int)(MA:Option Addr)(mc:Nat)(made:List Bool)(hv:0<=vars)(hv6:vars<=6):cE prog 158 [.agg #[.int .i64 o.how,.int .i64 o.k,.int .i64 o.n,.slice o.p.addr o.p.list.length o.p.cap,.int .u8 o.fn],.int .i64 vars,.int .i64 loops,.slice MA made.length mc] [] [opF o,iT.sl (.slice MA made.length mc) made] (λ(_:Unit)=> .bool (opB vars loops (-1) made o.c)) (λ_=>[]) (λ_=>[]):=by
 have hT:=dB;refine j2 func158 ntmps158 ?_;intro β hM;refine g2 ?_;refine j0 λb1=>?_;refine g17 ?_;refine cG rfl (λhc11=>?_) (λhc11=>?_)
 .have hc11_r:=hc11;have hc11:=eq_of_beq hc11;refine g6 ?_;refine cD (λhg16=>?_) (λhg16=>?_)
  .have hg16:=eq_of_beq hg16;refine g6 ?_;refine cD (λhg22=>?_) (λhg22=>?_)
   .have hg22:=eq_of_beq hg22;refine g10 ?_;exact rs1 () e8 (he:=by first|(rw[dN ‹_›];simp[*];done)|(rw[dO ‹_›];simp[*];done)|(rw[dQ ‹_›];simp[*];done)|(rw[dK ‹_› ‹_›];have hkn:(o.k != -1)=true:=(bne_iff_ne).2 k7;simp[*];done)|(rw[cS ‹_› k7];done)|(rw[dP ‹_›];simp[*];done)|(rw[dM ‹_›];simp[*];done)|rw[dR ‹_› ‹_› ‹_› ‹_› ‹_› ‹_›])
   have hg22:=beq_eq_false_iff_ne.1 hg22;refine g10 ?_;exact rs1 () e8 (he:=by first|(rw[dN ‹_›];simp[*];done)|(rw[dO ‹_›];simp[*];done)|(rw[dQ ‹_›];simp[*];done)|(rw[dK ‹_› ‹_›];have hkn:(o.k != -1)=true:=(bne_iff_ne).2 k7;simp[*];done)|(rw[cS ‹_› k7];done)|(rw[dP ‹_›];simp[*];done)|(rw[dM ‹_›];simp[*];done)|rw[dR ‹_› ‹_› ‹_› ‹_› ‹_› ‹_›])
  have hg16:=beq_eq_false_iff_ne.1 hg16;refine g16 ?_;exact rs1 () e8 (he:=by first|(rw[dN ‹_›];simp[*];done)|(rw[dO ‹_›];simp[*];done)|(rw[dQ ‹_›];simp[*];done)|(rw[dK ‹_› ‹_›];have hkn:(o.k != -1)=true:=(bne_iff_ne).2 k7;simp[*];done)|(rw[cS ‹_› k7];done)|(rw[dP ‹_›];simp[*];done)|(rw[dM ‹_›];simp[*];done)|rw[dR ‹_› ‹_› ‹_› ‹_› ‹_› ‹_›])
 have hc11_r:=hc11;have hc11:=beq_eq_false_iff_ne.1 hc11;refine g6 ?_;refine cG rfl (λhc27=>?_) (λhc27=>?_)
 .have hc27_r:=hc27;have hc27:=eq_of_beq hc27;refine g6 ?_;refine cD (λhg32=>?_) (λhg32=>?_)
  .have hg32:=eq_of_beq hg32;refine g5 ?_;refine cD (λhg37=>?_) (λhg37=>?_)
   .have hg37:=eq_of_beq hg37;refine g5 ?_;refine cD (λhg42=>?_) (λhg42=>?_)
    .have hg42:=eq_of_beq hg42;refine g3 ?_;refine f9 func154 (bMb o.p vars hv hv6) .nil ⟨d7,e8⟩ λ_=>?_;refine g7 ?_;exact rs1 () e8 (he:=by first|(rw[dN ‹_›];simp[*];done)|(rw[dO ‹_›];simp[*];done)|(rw[dQ ‹_›];simp[*];done)|(rw[dK ‹_› ‹_›];have hkn:(o.k != -1)=true:=(bne_iff_ne).2 k7;simp[*];done)|(rw[cS ‹_› k7];done)|(rw[dP ‹_›];simp[*];done)|(rw[dM ‹_›];simp[*];done)|rw[dR ‹_› ‹_› ‹_› ‹_› ‹_› ‹_›])
    have hg42:=beq_eq_false_iff_ne.1 hg42;refine g11 ?_;exact rs1 () e8 (he:=by first|(rw[dN ‹_›];simp[*];done)|(rw[dO ‹_›];simp[*];done)|(rw[dQ ‹_›];simp[*];done)|(rw[dK ‹_› ‹_›];have hkn:(o.k != -1)=true:=(bne_iff_ne).2 k7;simp[*];done)|(rw[cS ‹_› k7];done)|(rw[dP ‹_›];simp[*];done)|(rw[dM ‹_›];simp[*];done)|rw[dR ‹_› ‹_› ‹_› ‹_› ‹_› ‹_›])
   have hg37:=beq_eq_false_iff_ne.1 hg37;refine g16 ?_;exact rs1 () e8 (he:=by first|(rw[dN ‹_›];simp[*];done)|(rw[dO ‹_›];simp[*];done)|(rw[dQ ‹_›];simp[*];done)|(rw[dK ‹_› ‹_›];have hkn:(o.k != -1)=true:=(bne_iff_ne).2 k7;simp[*];done)|(rw[cS ‹_› k7];done)|(rw[dP ‹_›];simp[*];done)|(rw[dM ‹_›];simp[*];done)|rw[dR ‹_› ‹_› ‹_› ‹_› ‹_› ‹_›])
  have hg32:=beq_eq_false_iff_ne.1 hg32;refine g21 ?_;exact rs1 () e8 (he:=by first|(rw[dN ‹_›];simp[*];done)|(rw[dO ‹_›];simp[*];done)|(rw[dQ ‹_›];simp[*];done)|(rw[dK ‹_› ‹_›];have hkn:(o.k != -1)=true:=(bne_iff_ne).2 k7;simp[*];done)|(rw[cS ‹_› k7];done)|(rw[dP ‹_›];simp[*];done)|(rw[dM ‹_›];simp[*];done)|rw[dR ‹_› ‹_› ‹_› ‹_› ‹_› ‹_›])
 have hc27_r:=hc27;have hc27:=beq_eq_false_iff_ne.1 hc27;refine g6 ?_;refine cG rfl (λhc48=>?_) (λhc48=>?_)
 .have hc48_r:=hc48;have hc48:=eq_of_beq hc48;refine g6 ?_;refine cD (λhg53=>?_) (λhg53=>?_)
  .have hg53:=of_decide_eq_true hg53;refine g6 ?_;refine cD (λhg59=>?_) (λhg59=>?_)
   .have hg59:=of_decide_eq_true hg59;refine g5 ?_;refine cD (λhg64=>?_) (λhg64=>?_)
    .have hg64:=eq_of_beq hg64;refine g6 ?_;refine cD (λhg70=>?_) (λhg70=>?_)
     .have hg70:=eq_of_beq hg70;refine g10 ?_;exact rs1 () e8 (he:=by first|(rw[dN ‹_›];simp[*];done)|(rw[dO ‹_›];simp[*];done)|(rw[dQ ‹_›];simp[*];done)|(rw[dK ‹_› ‹_›];have hkn:(o.k != -1)=true:=(bne_iff_ne).2 k7;simp[*];done)|(rw[cS ‹_› k7];done)|(rw[dP ‹_›];simp[*];done)|(rw[dM ‹_›];simp[*];done)|rw[dR ‹_› ‹_› ‹_› ‹_› ‹_› ‹_›])
     have hg70:=beq_eq_false_iff_ne.1 hg70;refine g10 ?_;exact rs1 () e8 (he:=by first|(rw[dN ‹_›];simp[*];done)|(rw[dO ‹_›];simp[*];done)|(rw[dQ ‹_›];simp[*];done)|(rw[dK ‹_› ‹_›];have hkn:(o.k != -1)=true:=(bne_iff_ne).2 k7;simp[*];done)|(rw[cS ‹_› k7];done)|(rw[dP ‹_›];simp[*];done)|(rw[dM ‹_›];simp[*];done)|rw[dR ‹_› ‹_› ‹_› ‹_› ‹_› ‹_›])
    have hg64:=beq_eq_false_iff_ne.1 hg64;refine g16 ?_;exact rs1 () e8 (he:=by first|(rw[dN ‹_›];simp[*];done)|(rw[dO ‹_›];simp[*];done)|(rw[dQ ‹_›];simp[*];done)|(rw[dK ‹_› ‹_›];have hkn:(o.k != -1)=true:=(bne_iff_ne).2 k7;simp[*];done)|(rw[cS ‹_› k7];done)|(rw[dP ‹_›];simp[*];done)|(rw[dM ‹_›];simp[*];done)|rw[dR ‹_› ‹_› ‹_› ‹_› ‹_› ‹_›])
   have hg59:=Int.not_lt.1 (of_decide_eq_false hg59);refine g21 ?_;exact rs1 () e8 (he:=by first|(rw[dN ‹_›];simp[*];done)|(rw[dO ‹_›];simp[*];done)|(rw[dQ ‹_›];simp[*];done)|(rw[dK ‹_› ‹_›];have hkn:(o.k != -1)=true:=(bne_iff_ne).2 k7;simp[*];done)|(rw[cS ‹_› k7];done)|(rw[dP ‹_›];simp[*];done)|(rw[dM ‹_›];simp[*];done)|rw[dR ‹_› ‹_› ‹_› ‹_› ‹_› ‹_›])
  have hg53:=Int.not_le.1 (of_decide_eq_false hg53);refine g27 ?_;exact rs1 () e8 (he:=by first|(rw[dN ‹_›];simp[*];done)|(rw[dO ‹_›];simp[*];done)|(rw[dQ ‹_›];simp[*];done)|(rw[dK ‹_› ‹_›];have hkn:(o.k != -1)=true:=(bne_iff_ne).2 k7;simp[*];done)|(rw[cS ‹_› k7];done)|(rw[dP ‹_›];simp[*];done)|(rw[dM ‹_›];simp[*];done)|rw[dR ‹_› ‹_› ‹_› ‹_› ‹_› ‹_›])
 have hc48_r:=hc48;have hc48:=beq_eq_false_iff_ne.1 hc48;refine g6 ?_;refine cG rfl (λhc75=>?_) (λhc75=>?_)
 .have hc75_r:=hc75;have hc75:=eq_of_beq hc75;refine g6 ?_;refine cD (λhg80=>?_) (λhg80=>?_)
  .have hg80:=of_decide_eq_true hg80;refine g7 ?_;refine cD (λhg87=>?_) (λhg87=>?_)
   .have hg87:=of_decide_eq_true hg87;refine g3 ?_;obtain⟨x2,hx3⟩:=gx made o.k.toNat;refine ss (bG hT (k:=o.k.toNat) (bR d8) rfl rfl rfl rfl rfl rfl k7 k7) ?_;refine ss (fJ hx3 0) ?_;refine g2 ?_;refine cD (λhg94=>?_) (λhg94=>?_)
    .refine g5 ?_;refine cD (λhg99=>?_) (λhg99=>?_)
     .have hg99:=eq_of_beq hg99;refine g6 ?_;refine cD (λhg105=>?_) (λhg105=>?_)
      .have hg105:=eq_of_beq hg105;refine g10 ?_;exact rs1 () e8 (he:=by first|(rw[dN ‹_›];simp[*];done)|(rw[dO ‹_›];simp[*];done)|(rw[dQ ‹_›];simp[*];done)|(rw[dK ‹_› ‹_›];have hkn:(o.k != -1)=true:=(bne_iff_ne).2 k7;simp[*];done)|(rw[cS ‹_› k7];done)|(rw[dP ‹_›];simp[*];done)|(rw[dM ‹_›];simp[*];done)|rw[dR ‹_› ‹_› ‹_› ‹_› ‹_› ‹_›])
      have hg105:=beq_eq_false_iff_ne.1 hg105;refine g10 ?_;exact rs1 () e8 (he:=by first|(rw[dN ‹_›];simp[*];done)|(rw[dO ‹_›];simp[*];done)|(rw[dQ ‹_›];simp[*];done)|(rw[dK ‹_› ‹_›];have hkn:(o.k != -1)=true:=(bne_iff_ne).2 k7;simp[*];done)|(rw[cS ‹_› k7];done)|(rw[dP ‹_›];simp[*];done)|(rw[dM ‹_›];simp[*];done)|rw[dR ‹_› ‹_› ‹_› ‹_› ‹_› ‹_›])
     have hg99:=beq_eq_false_iff_ne.1 hg99;refine g16 ?_;exact rs1 () e8 (he:=by first|(rw[dN ‹_›];simp[*];done)|(rw[dO ‹_›];simp[*];done)|(rw[dQ ‹_›];simp[*];done)|(rw[dK ‹_› ‹_›];have hkn:(o.k != -1)=true:=(bne_iff_ne).2 k7;simp[*];done)|(rw[cS ‹_› k7];done)|(rw[dP ‹_›];simp[*];done)|(rw[dM ‹_›];simp[*];done)|rw[dR ‹_› ‹_› ‹_› ‹_› ‹_› ‹_›])
    refine g21 ?_;exact rs1 () e8 (he:=by first|(rw[dN ‹_›];simp[*];done)|(rw[dO ‹_›];simp[*];done)|(rw[dQ ‹_›];simp[*];done)|(rw[dK ‹_› ‹_›];have hkn:(o.k != -1)=true:=(bne_iff_ne).2 k7;simp[*];done)|(rw[cS ‹_› k7];done)|(rw[dP ‹_›];simp[*];done)|(rw[dM ‹_›];simp[*];done)|rw[dR ‹_› ‹_› ‹_› ‹_› ‹_› ‹_›])
   have hg87:=Int.not_lt.1 (of_decide_eq_false hg87);refine g28 ?_;exact rs1 () e8 (he:=by first|(rw[dN ‹_›];simp[*];done)|(rw[dO ‹_›];simp[*];done)|(rw[dQ ‹_›];simp[*];done)|(rw[dK ‹_› ‹_›];have hkn:(o.k != -1)=true:=(bne_iff_ne).2 k7;simp[*];done)|(rw[cS ‹_› k7];done)|(rw[dP ‹_›];simp[*];done)|(rw[dM ‹_›];simp[*];done)|rw[dR ‹_› ‹_› ‹_› ‹_› ‹_› ‹_›])
  have hg80:=Int.not_le.1 (of_decide_eq_false hg80);refine g35 ?_;exact rs1 () e8 (he:=by first|(rw[dN ‹_›];simp[*];done)|(rw[dO ‹_›];simp[*];done)|(rw[dQ ‹_›];simp[*];done)|(rw[dK ‹_› ‹_›];have hkn:(o.k != -1)=true:=(bne_iff_ne).2 k7;simp[*];done)|(rw[cS ‹_› k7];done)|(rw[dP ‹_›];simp[*];done)|(rw[dM ‹_›];simp[*];done)|rw[dR ‹_› ‹_› ‹_› ‹_› ‹_› ‹_›])
 have hc75_r:=hc75;have hc75:=beq_eq_false_iff_ne.1 hc75;refine g6 ?_;refine cG rfl (λhc110=>?_) (λhc110=>?_)
 .have hc110_r:=hc110;have hc110:=eq_of_beq hc110;refine g6 ?_;refine cD (λhg115=>?_) (λhg115=>?_)
  .have hg115:=eq_of_beq hg115;refine g5 ?_;refine cD (λhg120=>?_) (λhg120=>?_)
   .have hg120:=eq_of_beq hg120;refine g6 ?_;refine cD (λhg126=>?_) (λhg126=>?_)
    .have hg126:=eq_of_beq hg126;refine g2 ?_;refine f9 func156 (sZ _ _) .nil e8 λ_=>?_;refine g7 ?_;exact rs1 () e8 (he:=by first|(rw[dN ‹_›];simp[*];done)|(rw[dO ‹_›];simp[*];done)|(rw[dQ ‹_›];simp[*];done)|(rw[dK ‹_› ‹_›];have hkn:(o.k != -1)=true:=(bne_iff_ne).2 k7;simp[*];done)|(rw[cS ‹_› k7];done)|(rw[dP ‹_›];simp[*];done)|(rw[dM ‹_›];simp[*];done)|rw[dR ‹_› ‹_› ‹_› ‹_› ‹_› ‹_›])
    have hg126:=beq_eq_false_iff_ne.1 hg126;refine g10 ?_;exact rs1 () e8 (he:=by first|(rw[dN ‹_›];simp[*];done)|(rw[dO ‹_›];simp[*];done)|(rw[dQ ‹_›];simp[*];done)|(rw[dK ‹_› ‹_›];have hkn:(o.k != -1)=true:=(bne_iff_ne).2 k7;simp[*];done)|(rw[cS ‹_› k7];done)|(rw[dP ‹_›];simp[*];done)|(rw[dM ‹_›];simp[*];done)|rw[dR ‹_› ‹_› ‹_› ‹_› ‹_› ‹_›])
   have hg120:=beq_eq_false_iff_ne.1 hg120;refine g16 ?_;exact rs1 () e8 (he:=by first|(rw[dN ‹_›];simp[*];done)|(rw[dO ‹_›];simp[*];done)|(rw[dQ ‹_›];simp[*];done)|(rw[dK ‹_› ‹_›];have hkn:(o.k != -1)=true:=(bne_iff_ne).2 k7;simp[*];done)|(rw[cS ‹_› k7];done)|(rw[dP ‹_›];simp[*];done)|(rw[dM ‹_›];simp[*];done)|rw[dR ‹_› ‹_› ‹_› ‹_› ‹_› ‹_›])
  have hg115:=beq_eq_false_iff_ne.1 hg115;refine g21 ?_;exact rs1 () e8 (he:=by first|(rw[dN ‹_›];simp[*];done)|(rw[dO ‹_›];simp[*];done)|(rw[dQ ‹_›];simp[*];done)|(rw[dK ‹_› ‹_›];have hkn:(o.k != -1)=true:=(bne_iff_ne).2 k7;simp[*];done)|(rw[cS ‹_› k7];done)|(rw[dP ‹_›];simp[*];done)|(rw[dM ‹_›];simp[*];done)|rw[dR ‹_› ‹_› ‹_› ‹_› ‹_› ‹_›])
 have hc110_r:=hc110;have hc110:=beq_eq_false_iff_ne.1 hc110;refine g6 ?_;refine cG rfl (λhc131=>?_) (λhc131=>?_)
 .have hc131_r:=hc131;have hc131:=eq_of_beq hc131;refine g6 ?_;refine cD (λhg136=>?_) (λhg136=>?_)
  .have hg136:=eq_of_beq hg136;refine g5 ?_;refine cD (λhg141=>?_) (λhg141=>?_)
   .have hg141:=eq_of_beq hg141;refine g6 ?_;refine cD (λhg147=>?_) (λhg147=>?_)
    .have hg147:=eq_of_beq hg147;refine g2 ?_;refine f9 func156 (sZ _ _) .nil e8 λ_=>?_;refine g7 ?_;exact rs1 () e8 (he:=by first|(rw[dN ‹_›];simp[*];done)|(rw[dO ‹_›];simp[*];done)|(rw[dQ ‹_›];simp[*];done)|(rw[dK ‹_› ‹_›];have hkn:(o.k != -1)=true:=(bne_iff_ne).2 k7;simp[*];done)|(rw[cS ‹_› k7];done)|(rw[dP ‹_›];simp[*];done)|(rw[dM ‹_›];simp[*];done)|rw[dR ‹_› ‹_› ‹_› ‹_› ‹_› ‹_›])
    have hg147:=beq_eq_false_iff_ne.1 hg147;refine g10 ?_;exact rs1 () e8 (he:=by first|(rw[dN ‹_›];simp[*];done)|(rw[dO ‹_›];simp[*];done)|(rw[dQ ‹_›];simp[*];done)|(rw[dK ‹_› ‹_›];have hkn:(o.k != -1)=true:=(bne_iff_ne).2 k7;simp[*];done)|(rw[cS ‹_› k7];done)|(rw[dP ‹_›];simp[*];done)|(rw[dM ‹_›];simp[*];done)|rw[dR ‹_› ‹_› ‹_› ‹_› ‹_› ‹_›])
   have hg141:=beq_eq_false_iff_ne.1 hg141;refine g16 ?_;exact rs1 () e8 (he:=by first|(rw[dN ‹_›];simp[*];done)|(rw[dO ‹_›];simp[*];done)|(rw[dQ ‹_›];simp[*];done)|(rw[dK ‹_› ‹_›];have hkn:(o.k != -1)=true:=(bne_iff_ne).2 k7;simp[*];done)|(rw[cS ‹_› k7];done)|(rw[dP ‹_›];simp[*];done)|(rw[dM ‹_›];simp[*];done)|rw[dR ‹_› ‹_› ‹_› ‹_› ‹_› ‹_›])
  have hg136:=beq_eq_false_iff_ne.1 hg136;refine g21 ?_;exact rs1 () e8 (he:=by first|(rw[dN ‹_›];simp[*];done)|(rw[dO ‹_›];simp[*];done)|(rw[dQ ‹_›];simp[*];done)|(rw[dK ‹_› ‹_›];have hkn:(o.k != -1)=true:=(bne_iff_ne).2 k7;simp[*];done)|(rw[cS ‹_› k7];done)|(rw[dP ‹_›];simp[*];done)|(rw[dM ‹_›];simp[*];done)|rw[dR ‹_› ‹_› ‹_› ‹_› ‹_› ‹_›])
 have hc131_r:=hc131;have hc131:=beq_eq_false_iff_ne.1 hc131;refine g9 ?_;exact rs1 () e8 (he:=by first|(rw[dN ‹_›];simp[*];done)|(rw[dO ‹_›];simp[*];done)|(rw[dQ ‹_›];simp[*];done)|(rw[dK ‹_› ‹_›];have hkn:(o.k != -1)=true:=(bne_iff_ne).2 k7;simp[*];done)|(rw[cS ‹_› k7];done)|(rw[dP ‹_›];simp[*];done)|(rw[dM ‹_›];simp[*];done)|rw[dR ‹_› ‹_› ‹_› ‹_› ‹_› ‹_›])
theorem step10_spec(c:gF)(x:fW)(MA:Option Addr)(mc:Nat)(made:List Bool)(hv:0<=c.vars)(hv6:c.vars<=6):cE prog 85 [.agg #[.int .i64 c.vars,.slice c.bufs.addr c.bufs.list.length c.bufs.cap,.slice c.steps.addr c.steps.list.length c.steps.cap,.slice c.outs.addr c.outs.list.length c.outs.cap],.agg #[.int .i64 x.how,.int .i64 x.buf,.slice x.at_.addr x.at_.list.length x.at_.cap,.slice x.loops.addr x.loops.list.length x.loops.cap,.int .u8 x.fn,.slice x.ops.addr x.ops.list.length x.ops.cap],.slice MA made.length mc] [] [nM c,mG x,iT.sl (.slice MA made.length mc) made] (λ(_:Unit)=> .bool (mU c.c made x.c)) (λ_=>[]) (λ_=>[]):=by
 have hT:=dB;refine j2 func85 ntmps85 ?_;intro β hM;refine fT<|bK (fC x.at_) (bHg d8) ?_;refine bK (oL x.loops) (qX d9)<|bJ (opsF_c (lX e6)) λhoz=>?_;have hoz2:=hoz.2;refine bK (bC.each x.ops.list opF) (opsF_e (lX e6))<|bK (opE.sl (.slice x.ops.addr x.ops.list.length x.ops.cap) x.ops.list) (bKs (lX e7))<|bK (vE.sl (.slice c.bufs.addr c.bufs.list.length c.bufs.cap) c.bufs.list) (mO (iS e7)) ?_;refine one ?_;refine j0 λb1=>?_;refine j0 λb2=>?_;refine g10 ?_;refine lG (λhg11=>?_) λhg11=>?_
 .refine g37 ?_;exact rs1 () e8 (he:=gW λp=>by first|(have:=p.how1;omega)|(have:=p.how3;omega)|(have:=p.buf0;omega)|(have:=p.bufn;omega)|(have:=p.inp _ ‹_›;omega))
 refine g5 ?_;refine lG (λhg16=>?_) λhg16=>?_
 .refine g32 ?_;exact rs1 () e8 (he:=gW λp=>by first|(have:=p.how1;omega)|(have:=p.how3;omega)|(have:=p.buf0;omega)|(have:=p.bufn;omega)|(have:=p.inp _ ‹_›;omega))
 refine g5 ?_;refine lG (λhg21=>?_) λhg21=>?_
 .refine g27 ?_;exact rs1 () e8 (he:=gW λp=>by first|(have:=p.how1;omega)|(have:=p.how3;omega)|(have:=p.buf0;omega)|(have:=p.bufn;omega)|(have:=p.inp _ ‹_›;omega))
 refine g8 ?_;refine k_le (λhg29=>?_) λhg29=>?_
 .refine g19 ?_;exact rs1 () e8 (he:=gW λp=>by first|(have:=p.how1;omega)|(have:=p.how3;omega)|(have:=p.buf0;omega)|(have:=p.bufn;omega)|(have:=p.inp _ ‹_›;omega))
 refine g4 ?_;obtain⟨x3,hx4⟩:=gx c.bufs.list x.buf.toNat;refine ss (bG hT (k:=x.buf.toNat) (bR d7) rfl rfl rfl rfl rfl rfl k7 k7) ?_;refine one ?_;refine ss (fJ hx4 1) ?_;refine g4 ?_;refine bLl (λhc38=>?_) λhc38=>?_
 .refine g7 ?_;exact rs1 () e8 (he:=gW λp=>by first|(have:=p.how1;omega)|(have:=p.how3;omega)|(have:=p.buf0;omega)|(have:=p.bufn;omega)|(have:=p.inp _ ‹_›;omega))
 refine g7 ?_;refine at_one_pols (m:=x.at_) rfl rfl rfl rfl rfl λb5=>?_;refine wL (E:=iD) (xs:=[x.at_]) .head<|qG .head<|bK (oL ⟨some ⟨b5,0,none⟩,1,[x.at_]⟩) (listF_one d7 (Has.of mT5)) ?_;refine g2 ?_;refine f9 func84 (wW ⟨some ⟨b5,0,none⟩,1,[x.at_]⟩ c.vars hv hv6) .nil ⟨d7,e8⟩ λ_=>?_;refine g2 ?_;refine bKt (λhg46=>?_) λhg46=>?_
 .refine g28 ?_;exact rs1 () e8 (he:=gW λp=>by first|(have:=p.at_;simp_all;done)|(have:=p.loops;simp_all;done)|(have:=p.ne (by simp_all);simp_all;done))
 refine g4 ?_;refine f9 func84 (wW x.loops c.vars hv hv6) .nil ⟨(Has.of mT5),e8⟩ λ_=>?_;refine g3 ?_;refine bKt (λhg54=>?_) λhg54=>?_
 .refine g20 ?_;exact rs1 () e8 (he:=gW λp=>by first|(have:=p.at_;simp_all;done)|(have:=p.loops;simp_all;done)|(have:=p.ne (by simp_all);simp_all;done))
 refine g4 ?_;refine k_ne (λhg58=>?_) λhg58=>?_
 .refine g8 ?_;refine jN (λhc64=>?_) λhc64=>?_
  .refine g7 ?_;exact rs1 () e8 (he:=gW λp=>by first|(have:=p.at_;simp_all;done)|(have:=p.loops;simp_all;done)|(have:=p.ne (by simp_all);simp_all;done))
  refine g8 ?_;refine bS (t':=false) (beq_eq_false_iff_ne.2 hg58) ?_;refine g9 ?_;refine bS (t':=true) ((congrArg not (show(x.how==1)=false from (beq_eq_false_iff_ne.2 hg58)):(!_)=_)) ?_;refine g3 ?_;refine f9 func156 (sZ _ _) .nil e8 λ_=>?_;refine g5 ?_;refine yQ (λhc83=>?_) λhc83=>?_
  .refine g7 ?_;exact rs1 () e8 (he:=gW λp=>by first|(have:=p.fn1 (by simp_all);simp_all;done)|(have:=p.fn3 (by simp_all);simp_all;done))
  refine g10 ?_;refine bNt (λhg88=>?_) λhg88=>?_
  .refine g21 ?_;exact rs1 () e8 (he:=gW λp=>by first|(have:=p.ops0;simp_all;done)|(have:=p.ops1;omega)|(have:=p.dep;omega))
  refine g6 ?_;refine lG (λhg94=>?_) λhg94=>?_
  .refine g15 ?_;exact rs1 () e8 (he:=gW λp=>by first|(have:=p.ops0;simp_all;done)|(have:=p.ops1;omega)|(have:=p.dep;omega))
  refine g2 ?_;refine bF func157 (bBv x.ops.addr x.ops.cap x.ops.list k7) rfl rfl .nil ⟨e6,e7,e8⟩ λ_=>?_;refine g4 ?_;refine dH (λhc99=>?_) λhc99=>?_
  .refine g7 ?_;exact rs1 () e8 (he:=gW λp=>by first|(have:=p.ops0;simp_all;done)|(have:=p.ops1;omega)|(have:=p.dep;omega))
  refine g9 ?_;refine bU (ι:=Nat) [(2,_),(3,_),(4,_)] ⟨rfl,rfl,rfl,e8⟩ (λi=>[(7,.int .i64 (i:Nat))]) (λ_=>[]) (λi=>[bC.pure (i<=x.ops.list.length/\(x.ops.list.take i).all (yR c.vars x made)=true)]) (λi=>x.ops.list.length-i) 0 ⟨rfl,e8⟩ .nil ⟨e9 (⟨k7,rfl⟩),e8⟩ ?_;rintro i;refine bJ d7 λhinv10=>?_;refine g10 ?_;refine dH (λhc104=>?_) λhc104=>?_
  .refine g5 ?_;obtain⟨x6,hx7⟩:=gx x.ops.list i;refine bK (opF x6) (Has.each (Has.of mT5) (f5 hx7)) ?_;refine dS _ _ [(true,0),(true,1),(true,2),(true,3),(true,4),(true,5),(true,6),(true,7),(true,8),(true,9),(true,10),(false,11),(true,12),(true,13),(true,14),(true,15),(true,16),(true,17),(true,18),(true,19),(true,20),(true,21),(true,22),(true,23),(true,24),(true,25),(true,26),(true,27),(true,28),(true,29),(true,30),(true,31),(true,32)] dW l8 (.c0 (.c0 .nil)) bA.self ?_;refine g3 ?_;refine stM rfl (ixs i) ?_;refine stM rfl (jQ hx7 0) ?_;refine g7 ?_;refine f9 func158 (bPm x6 c.vars (x.loops.list.length:Nat) MA mc made hv hv6) .nil ⟨d7,(Has.of mT11),e8⟩ λ_=>?_;refine g3 ?_;refine bKt (λhg120=>?_) λhg120=>?_
   .refine g33 ?_;exact rs1 () e8 (he:=gW λp=>by have h1:=p.ops;rw[rA hx7 (show yR c.vars x made x6=false by unfold yR;simp_all)]at h1;cases h1)
   refine g3 ?_;refine stM rfl (ixs i) ?_;refine one ?_;refine stM rfl (fJ hx7 0) ?_;refine g2 ?_;refine bNt (λhg128=>?_) λhg128=>?_
   .refine g3 ?_;refine stM rfl (ixs i) ?_;refine one ?_;refine stM rfl (fJ hx7 1) ?_;refine g7 ?_;refine jN (λhc139=>?_) λhc139=>?_
    .refine g11 ?_;exact rs1 () e8 (he:=gW λp=>by have h1:=p.ops;rw[rA hx7 (show yR c.vars x made x6=false by unfold yR;simp_all)]at h1;cases h1)
    refine g6 ?_;refine inc (i+1) ?_;refine g3 ?_;exact bk2 (i+1) ⟨e9 (⟨k7,jW hinv10.2 hx7 aa5⟩),e8⟩
   refine g20 ?_;refine inc (i+1) ?_;refine g3 ?_;exact bk2 (i+1) ⟨e9 (⟨k7,jW hinv10.2 hx7 aa5⟩),e8⟩
  refine g11 ?_;exact rs1 () e8 (he:=step_yes ⟨k7,k7,k7,k7,λb hb=>by simp_all,by simp_all,by simp_all,by simp_all,by simp_all,by simp_all,by simp_all,k7,k7,pR hinv10.2 k7⟩)
 refine g17 ?_;refine bS (t':=true) (by rw[hg58];rfl) ?_;refine g6 ?_;refine k_ne (λhg73=>?_) λhg73=>?_
 .refine g20 ?_;exact rs1 () e8 (he:=gW λp=>by first|(have:=p.fn1 (by simp_all);simp_all;done)|(have:=p.fn3 (by simp_all);simp_all;done))
 refine g3 ?_;refine bS (t':=false) ((congrArg not (show(x.how==1)=true from (by rw[hg58];rfl)):(!_)=_)) ?_;refine g20 ?_;refine bNt (λhg88=>?_) λhg88=>?_
 .refine g21 ?_;exact rs1 () e8 (he:=gW λp=>by first|(have:=p.ops0;simp_all;done)|(have:=p.ops1;omega)|(have:=p.dep;omega))
 refine g6 ?_;refine lG (λhg94=>?_) λhg94=>?_
 .refine g15 ?_;exact rs1 () e8 (he:=gW λp=>by first|(have:=p.ops0;simp_all;done)|(have:=p.ops1;omega)|(have:=p.dep;omega))
 refine g2 ?_;refine bF func157 (bBv x.ops.addr x.ops.cap x.ops.list k7) rfl rfl .nil ⟨e6,e7,e8⟩ λ_=>?_;refine g4 ?_;refine dH (λhc99=>?_) λhc99=>?_
 .refine g7 ?_;exact rs1 () e8 (he:=gW λp=>by first|(have:=p.ops0;simp_all;done)|(have:=p.ops1;omega)|(have:=p.dep;omega))
 refine g9 ?_;refine bU (ι:=Nat) [(2,_),(3,_),(4,_)] ⟨rfl,rfl,rfl,e8⟩ (λi=>[(7,.int .i64 (i:Nat))]) (λ_=>[]) (λi=>[bC.pure (i<=x.ops.list.length/\(x.ops.list.take i).all (yR c.vars x made)=true)]) (λi=>x.ops.list.length-i) 0 ⟨rfl,e8⟩ .nil ⟨e9 (⟨k7,rfl⟩),e8⟩ ?_;rintro i;refine bJ d7 λhinv10=>?_;refine g10 ?_;refine dH (λhc104=>?_) λhc104=>?_
 .refine g5 ?_;obtain⟨x8,hx9⟩:=gx x.ops.list i;refine bK (opF x8) (Has.each (Has.of mT5) (f5 hx9)) ?_;refine dS _ _ [(true,0),(true,1),(true,2),(true,3),(true,4),(true,5),(true,6),(true,7),(true,8),(true,9),(true,10),(false,11),(true,12),(true,13),(true,14),(true,15),(true,16),(true,17),(true,18),(true,19),(true,20),(true,21),(true,22),(true,23),(true,24),(true,25),(true,26),(true,27),(true,28),(true,29),(true,30),(true,31),(true,32)] dW l8 (.c0 (.c0 .nil)) bA.self ?_;refine g3 ?_;refine stM rfl (ixs i) ?_;refine stM rfl (jQ hx9 0) ?_;refine g7 ?_;refine f9 func158 (bPm x8 c.vars (x.loops.list.length:Nat) MA mc made hv hv6) .nil ⟨d7,(Has.of mT11),e8⟩ λ_=>?_;refine g3 ?_;refine bKt (λhg120=>?_) λhg120=>?_
  .refine g33 ?_;exact rs1 () e8 (he:=gW λp=>by have h1:=p.ops;rw[rA hx9 (show yR c.vars x made x8=false by unfold yR;simp_all)]at h1;cases h1)
  refine g3 ?_;refine stM rfl (ixs i) ?_;refine one ?_;refine stM rfl (fJ hx9 0) ?_;refine g2 ?_;refine bNt (λhg128=>?_) λhg128=>?_
  .refine g3 ?_;refine stM rfl (ixs i) ?_;refine one ?_;refine stM rfl (fJ hx9 1) ?_;refine g7 ?_;refine jN (λhc139=>?_) λhc139=>?_
   .refine g11 ?_;exact rs1 () e8 (he:=gW λp=>by have h1:=p.ops;rw[rA hx9 (show yR c.vars x made x8=false by unfold yR;simp_all)]at h1;cases h1)
   refine g6 ?_;refine inc (i+1) ?_;refine g3 ?_;exact bk2 (i+1) ⟨e9 (⟨k7,jW hinv10.2 hx9 aa5⟩),e8⟩
  refine g20 ?_;refine inc (i+1) ?_;refine g3 ?_;exact bk2 (i+1) ⟨e9 (⟨k7,jW hinv10.2 hx9 aa5⟩),e8⟩
 refine g11 ?_;exact rs1 () e8 (he:=step_yes ⟨k7,k7,k7,k7,λb hb=>by simp_all,by simp_all,by simp_all,by simp_all,by simp_all,by simp_all,by simp_all,k7,k7,pR hinv10.2 k7⟩)
theorem step10_specM{m:Nat}{made:List Bool}(hm:made.length=m)(c:gF)(x:fW)(MA:Option Addr)(mc:Nat)(hv:0<=c.vars)(hv6:c.vars<=6):cE prog 85 [.agg #[.int .i64 c.vars,.slice c.bufs.addr c.bufs.list.length c.bufs.cap,.slice c.steps.addr c.steps.list.length c.steps.cap,.slice c.outs.addr c.outs.list.length c.outs.cap],.agg #[.int .i64 x.how,.int .i64 x.buf,.slice x.at_.addr x.at_.list.length x.at_.cap,.slice x.loops.addr x.loops.list.length x.loops.cap,.int .u8 x.fn,.slice x.ops.addr x.ops.list.length x.ops.cap],.slice MA m mc]
  [] [nM c,mG x,iT.sl (.slice MA m mc) made] (λ_:Unit=> .bool (mU c.c made x.c)) (λ_=>[]) (λ_=>[]):=by
 subst hm;exact step10_spec c x MA mc made hv hv6
section
variable {c : dE} {i j : Nat} {made : List Bool} {r : Bool} {u : gQ} {x : cP}
def bEj (c:dE)(i:Nat)(made:List Bool)(r:Bool):Prop:=made.length=c.bufs.length/\(∀j,j<i->made[j]?=(rG c.bufs)[j]?)/\ ∃seen:List Int,(∀z,z∈seen->0<=z/\ ∃j u,j<i/\c.bufs[j]?=some u/\u.input=z)/\(∀j u,j<i->c.bufs[j]?=some u->0<=u.input->u.input∈seen)/\r=(oE c.vars (c.bufs.drop i) seen&&bKn c)
def bBx (c:dE)(u:gQ)(j:Nat):Prop:= ∀k v,k<j->c.bufs[k]?=some v-> ¬(0<=u.input/\v.input=u.input)
theorem bufs10_start(h:r=(oE c.vars c.bufs []&&bKn c)):bEj c 0 (List.replicate c.bufs.length false) r:=
 ⟨List.length_replicate,λj hj=>absurd hj (Nat.not_lt_zero j),[],⟨λ_ hz=>absurd hz List.not_mem_nil,λj _ hj=>absurd hj (Nat.not_lt_zero j),h⟩⟩
theorem uR(h:bEj c i made r)(hu:c.bufs[i]?=some u)(k:gK u.sides c.vars=false\/u.input< -1\/64<=u.input\/0<=u.input/\ ∃j v,j<i/\c.bufs[j]?=some v/\v.input=u.input):r=false:=by
 obtain⟨_,_,seen,h2,h3,h4⟩:=h;rw[lC hu,oE]at h4;rw[h4]
 rcases k with k|k|k|⟨k,j,v,hj,hv,e⟩
 .rw[k];rfl
 .rw[decide_eq_false (show ¬(-1<=u.input/\u.input<64)from λh=>by omega)];simp
 .rw[decide_eq_false (show ¬(-1<=u.input/\u.input<64)from λh=>by omega)];simp
 .have hm:u.input∈seen:=by
   rw[<-e];exact h3 j v hj hv k7
  have e2:seen.contains u.input=true:=by rw[List.contains_eq_mem];exact decide_eq_true hm
  rw[e2];simp
theorem nodup_start:bBx c u 0:=λk v hk=>by omega
theorem bIs{v:gQ}(h:bBx c u j)(hv:c.bufs[j]?=some v)(hn: ¬(0<=u.input/\v.input=u.input)):bBx c u (j+1):=λk w hk hw=>by
 by_cases e:k=j
 .subst e;rw[hv]at hw;cases hw;exact hn
 .exact h k w k7 hw
theorem bufs10_next(h:bEj c i made r)(hu:c.bufs[i]?=some u)(hg:gK u.sides c.vars=true)(h1: -1<=u.input)(h2:u.input<64)(hn:bBx c u j)(hj:i<=j):bEj c (i+1) (made.set i (decide (0<=u.input))) r:=by
 obtain⟨k1,k2,seen,k3,k4,k5⟩:=h;have hi:=(List.getElem?_eq_some_iff.1 hu).1
 have hc:seen.contains u.input=false:=by
  rw[List.contains_eq_mem];refine decide_eq_false λhm=>?_;obtain⟨h0,k,v,hk,hv,e⟩:=k3 _ hm;exact hn k v k7 hv ⟨h0,e⟩
 rw[lC hu,oE,hg,decide_eq_true (show-1<=u.input/\u.input<64 from ⟨h1,h2⟩),hc]at k5;refine⟨by rw[List.length_set];exact k1,λk hk=>?_,if 0<=u.input then u.input::seen else seen,λz hz=>?_,λk v hk hv h0=>?_,by simpa using k5⟩
 .by_cases e:i=k
  .subst e;rw[List.getElem?_set_self k7];unfold rG;rw[List.getElem?_map,hu];rfl
  .rw[List.getElem?_set_ne e];exact k2 k k7
 .by_cases h0:0<=u.input
  .rw[if_pos h0]at hz
   rcases List.mem_cons.1 hz with rfl|hz
   .exact⟨h0,i,u,k7,hu,rfl⟩
   .obtain⟨q,k,v,hk,hv,e⟩:=k3 z hz;exact⟨q,k,v,k7,hv,e⟩
  .rw[if_neg h0]at hz;obtain⟨q,k,v,hk,hv,e⟩:=k3 z hz;exact⟨q,k,v,k7,hv,e⟩
 .by_cases e:k=i
  .subst e;rw[hu]at hv;cases hv;rw[if_pos h0];exact List.mem_cons_self ..
  .have:=k4 k v k7 hv h0;split
   .exact List.mem_cons_of_mem _ this
   .exact this
theorem bufs10_end(h:bEj c i made r)(hi:c.bufs.length<=i):oB c 0 made r:=by
 obtain⟨k1,k2,seen,_,_,k5⟩:=h;rw[List.drop_of_length_le hi]at k5
 have hm:made=rG c.bufs:=by
  apply List.ext_getElem?;intro j
  by_cases hj:j<i
  .exact k2 j hj
  .rw[List.getElem?_eq_none k7,List.getElem?_eq_none (by rw[pD];omega)]
 exact bFi hm (by rw[k5];rfl)
theorem bGi{l:List cP}:jV c.vars c.bufs (x::l) made=(mU c made x&&jV c.vars c.bufs l (made.set x.buf.toNat true)):=by
 rw[jV];exact(Bool.and_assoc _ _ _).symm
theorem steps10_bad(h:oB c i made r)(hx:c.steps[i]?=some x)(k:mU c made x=false):r=false:=by
 obtain⟨_,h2⟩:=h;rw[lC hx,bGi,k]at h2;rw[h2];rfl
theorem steps10_ok(h:oB c i made r)(hx:c.steps[i]?=some x)(k:mU c made x=true):oB c (i+1) (made.set x.buf.toNat true) r:=by
 obtain⟨h2,h3⟩:=h;refine⟨by simpa using h2,?_⟩;rw[lC hx,bGi,k,Bool.true_and]at h3;exact h3
theorem stepOk_in(h:mU c made x=true):0<=x.buf/\x.buf<c.bufs.length:=by
 unfold mU at h;simp only[Bool.and_eq_true,decide_eq_true_eq]at h;obtain⟨⟨h1,h2⟩,_⟩:=h
 cases hb:c.bufs[x.buf.toNat]? with
 |none=>rw[hb]at h2;cases h2
 |some b=>
  have:=(List.getElem?_eq_some_iff.1 hb).1;exact⟨h1,k7⟩
def outOk (n:Nat)(k:Int):Bool:=decide (0<=k/\k<n)
end
theorem Right10_spec(c:gF):cE prog 35 [.agg #[.int .i64 c.vars,.slice c.bufs.addr c.bufs.list.length c.bufs.cap,.slice c.steps.addr c.steps.list.length c.steps.cap,.slice c.outs.addr c.outs.list.length c.outs.cap]] [] [nM c] (λ(_:Unit)=> .bool (cZ c.c)) (λ_=>[]) (λ_=>[]):=by
 have hT:=dB;generalize hR:cZ c.c=r;have hnb:c.c.bufs.length=c.bufs.list.length:=bY _;have hns:c.c.steps.length=c.steps.list.length:=fG _;have hno:c.c.outs.length=c.outs.list.length:=rfl;refine j2 func35 ntmps35 ?_;intro β hM;refine g2 ?_;refine j0 λb1=>?_;refine g10 ?_;refine lG (λhg12=>?_) λhg12=>?_
 .refine g32 ?_;have hr:=jE hR k7;subst hr;exact rs1 () trivial
 refine g5 ?_;refine lG (λhg17=>?_) λhg17=>?_
 .refine g27 ?_;have hr:=jE hR k7;subst hr;exact rs1 () trivial
 refine g6 ?_;refine lG (λhg23=>?_) λhg23=>?_
 .refine g21 ?_;have hr:=jE hR k7;subst hr;exact rs1 () trivial
 refine g6 ?_;refine lG (λhg29=>?_) λhg29=>?_
 .refine g15 ?_;have hr:=jE hR k7;subst hr;exact rs1 () trivial
 refine g7 ?_;refine dH (λhc34=>?_) λhc34=>?_
 .refine g7 ?_;have hr:=jE hR k7;subst hr;exact rs1 () trivial
 refine g3 ?_;have hr0:=bFm hR k7 k7 k7 k7 k7;refine g4 ?_;refine uW (m:=c.bufs.list.length) rfl rfl rfl rfl rfl rfl k7 λb2=>?_;refine g10 ?_;refine bU (ι:=Nat×List Bool) [(1,_),(3,_)] ⟨rfl,rfl,e8⟩ (λ⟨i,dn⟩=>[(4,.int .i64 (i:Nat))]) (λ⟨i,dn⟩=>[iT.row (.slice (some ⟨b2,0,none⟩) c.bufs.list.length c.bufs.list.length) 4 dn]) (λ⟨i,dn⟩=>[bC.pure (i<=c.bufs.list.length/\bEj c.c i dn r)]) (λ⟨i,dn⟩=>c.bufs.list.length-i) (0,List.replicate c.bufs.list.length false) ⟨rfl,e8⟩ (.c0 .nil) ⟨e9 (⟨k7,by rw[<-hnb];exact bufs10_start hr0⟩),e8⟩ ?_;rintro⟨i,dn⟩;dsimp only;refine bJ d7 λhinv5=>?_;have hdl:dn.length=c.bufs.list.length:=by rw[hinv5.2.1];exact hnb
 refine g10 ?_;refine dH (λhc43=>?_) λhc43=>?_
 .refine g9 ?_;refine bK (vE.sl (.slice c.bufs.addr c.bufs.list.length c.bufs.cap) c.bufs.list) (mO (iS d8)) ?_;obtain⟨x3,hx4⟩:=gx c.bufs.list i;refine ss (ixs i) ?_;refine ss (jQ hx4 0) ?_;refine i7 wC λb5=>?_;refine g5 ?_;refine bK (bufF x3) (Has.each (yI (iS d9)) (f5 hx4)) ?_;refine g5 ?_;refine bF func84 (wW x3.sides c.vars k7 k7) rfl rfl .nil ⟨d7,e8⟩ λ_=>?_;refine g2 ?_;refine bKt (λhg57=>?_) λhg57=>?_
  .refine g24 ?_;have hr:=uR hinv5.2 (bT hx4) n5;subst hr;exact rs1 () trivial
  refine g5 ?_;refine lG (λhg62=>?_) λhg62=>?_
  .refine g19 ?_;have hr:=uR hinv5.2 (bT hx4) n5;subst hr;exact rs1 () trivial
  refine g6 ?_;refine bLl (λhc66=>?_) λhc66=>?_
  .refine g12 ?_;have hr:=uR hinv5.2 (bT hx4) n5;subst hr;exact rs1 () trivial
  refine g9 ?_;refine bU (ι:=Nat) [(1,_),(3,_),(4,_),(5,_),(58,_),(59,_),(60,_),(63,_),(64,_),(65,_)] ⟨rfl,rfl,rfl,rfl,rfl,rfl,rfl,rfl,rfl,rfl,e8⟩ (λj=>[(6,.int .i64 (j:Nat))]) (λ_=>[]) (λj=>[bC.pure (j<=i/\bBx c.c x3.c j)]) (λj=>i-j) 0 ⟨rfl,e8⟩ .nil ⟨e9 (⟨k7,nodup_start⟩),e8⟩ ?_;rintro j;refine bJ d7 λhinv11=>?_;refine g8 ?_;refine dH (λhc69=>?_) λhc69=>?_
  .refine g5 ?_;obtain⟨x6,hx7⟩:=gx c.bufs.list j;refine dS _ _ [(true,0),(true,1),(true,2),(true,3),(true,4),(true,5),(true,6),(true,7),(true,8),(true,9),(true,10),(true,11),(true,12),(true,13)] dW l8 (.c0 (.c0 (.c0 .nil))) bA.self ?_;refine g4 ?_;refine k_le (λhg75=>?_) λhg75=>?_
   .refine g3 ?_;refine stM rfl (ixs j) ?_;refine one ?_;refine stM rfl (fJ hx7 1) ?_;refine g6 ?_;refine jN (λhc85=>?_) λhc85=>?_
    .refine g16 ?_;obtain rfl:=uR hinv5.2 (bT hx4) (.inr (.inr (.inr ⟨by show 0<=x3.input;omega,j,_,k7,bT hx7,by show jD.input _=jD.input _;omega⟩)));exact rs1 () trivial
    refine g6 ?_;refine inc (j+1) ?_;refine g3 ?_;exact bk2 (j+1) ⟨e9 (⟨k7,bIs hinv11.2 (bT hx7) aa4⟩),e8⟩
   refine g19 ?_;refine inc (j+1) ?_;refine g3 ?_;exact bk2 (j+1) ⟨e9 (⟨k7,bIs hinv11.2 (bT hx7) aa4⟩),e8⟩
  refine g11 ?_;obtain⟨x8,hx9⟩:=gx dn i;refine ss (bG hT (k:=i) (cM kT1) rfl rfl rfl rfl rfl hdl.symm rfl k7) ?_;refine cN hT (k:=i) (fo:=0) (y':=(decide (0<=x3.input))) kT1 rfl rfl rfl rfl rfl rfl rfl rfl rfl hx9 rfl ?_;refine g6 ?_;refine inc (i+1) ?_;refine g3 ?_;exact bk2 (i+1,(dn.set i (decide (0<=x3.input)))) ⟨e9 (⟨by dsimp only;omega,bufs10_next hinv5.2 (bT hx4) (show gK (polsL x3.sides.list) c.vars=true by simp_all) (show-1<=x3.input by omega) (show x3.input<64 by omega) hinv11.2 k7⟩),e8⟩
 refine g12 ?_;refine bU (ι:=Nat×List Bool) [(1,_),(3,_)] ⟨rfl,rfl,e8⟩ (λ⟨k,dn⟩=>[(7,.int .i64 (k:Nat))]) (λ⟨k,dn⟩=>[iT.row (.slice (some ⟨b2,0,none⟩) c.bufs.list.length c.bufs.list.length) 4 dn]) (λ⟨k,dn⟩=>[bC.pure (k<=c.steps.list.length/\oB c.c k dn r)]) (λ⟨k,dn⟩=>c.steps.list.length-k) (0,dn) ⟨rfl,e8⟩ (.c0 .nil) ⟨e9 (⟨k7,bufs10_end hinv5.2 k7⟩),e8⟩ ?_;rintro⟨k,dn⟩;dsimp only;refine bJ d7 λhinv17=>?_;have hd2:dn.length=c.bufs.list.length:=by rw[hinv17.2.1];exact hnb
 refine g10 ?_;refine dH (λhc96=>?_) λhc96=>?_
 .refine g6 ?_;refine bK (sQ.sl (.slice c.steps.addr c.steps.list.length c.steps.cap) c.steps.list) (sE (kD d9)) ?_;obtain⟨x10,hx11⟩:=gx c.steps.list k;refine bK (mG x10) (Has.each (rI (kD e6)) (f5 hx11)) ?_;refine dS _ _ [(true,0),(true,1),(true,2),(true,3),(true,4),(true,5),(true,6),(false,7),(true,8)] dW l8 (.c0 (.c0 .nil)) bA.self ?_;refine g4 ?_;refine stM rfl (ixs k) ?_;refine stM rfl (jQ hx11 0) ?_;refine g2 ?_;refine kC (j4 func85) (step10_specM hd2 c x10 (some ⟨b2,0,none⟩) c.bufs.list.length k7 k7) rfl rfl rfl rfl rfl .nil (.c0 .nil) (rC oQ) ⟨Has.of mT5,d8,d7,e8⟩ (λ_=>True) (λ_ _ _ _=>trivial) λ_ _=>?_;refine g4 ?_;refine yQ (λhc107=>?_) λhc107=>?_
  .refine g12 ?_;have hr:=steps10_bad hinv17.2 (dJ hx11) (show mU c.c dn (fW.c _)=false by simp_all);subst hr;exact rs1 () trivial
  refine g2 ?_;have hok:mU c.c dn x10.c=true:=by simp_all
  have hin:=stepOk_in hok;have hb0:0<=x10.buf:=hin.1;have hb1:x10.buf<(c.c.bufs.length:Nat):=hin.2;refine g5 ?_;refine ss (ixs k) ?_;refine one ?_;refine ss (fJ hx11 1) ?_;obtain⟨x12,hx13⟩:=gx dn x10.buf.toNat;refine ss (bG hT (k:=x10.buf.toNat) (cM .head) rfl rfl rfl rfl rfl hd2.symm k7 k7) ?_;refine cN hT (k:=x10.buf.toNat) (fo:=0) (y':=(true)) .head rfl rfl rfl rfl rfl rfl rfl rfl rfl hx13 rfl ?_;refine g6 ?_;refine inc (k+1) ?_;refine g3 ?_;exact bk2 (k+1,(dn.set x10.buf.toNat (true))) ⟨e9 (⟨by dsimp only;omega,steps10_ok hinv17.2 (dJ hx11) hok⟩),e8⟩
 refine g12 ?_;refine bU (ι:=Nat) [(1,_)] ⟨rfl,e8⟩ (λj=>[(8,.int .i64 (j:Nat))]) (λ_=>[]) (λj=>[bC.pure (j<=c.outs.list.length/\(c.outs.list.take j).all (outOk c.c.bufs.length)=true)]) (λj=>c.outs.list.length-j) 0 ⟨rfl,e8⟩ .nil ⟨e9 (⟨k7,rfl⟩),e8⟩ ?_;rintro j;refine bJ d7 λhinv23=>?_;refine g10 ?_;refine dH (λhc120=>?_) λhc120=>?_
 .refine g5 ?_;refine bK (cF.sl (.slice c.outs.addr c.outs.list.length c.outs.cap) c.outs.list) (xN (bHl e6)) ?_;obtain⟨x14,hx15⟩:=gx c.outs.list j;refine dS _ _ [(true,0),(true,1),(true,2),(true,3),(true,4),(true,5),(true,6),(true,7),(true,8),(true,9),(true,10),(true,11),(true,12),(true,13),(true,14),(true,15),(true,16)] dW l8 (.c0 (.c0 .nil)) bA.self ?_;refine g3 ?_;refine stM rfl (ixs j) ?_;refine stM rfl (fJ hx15 0) ?_;refine g2 ?_;refine lG (λhg129=>?_) λhg129=>?_
  .refine g24 ?_;have hr:=(yA hinv17.2 k7).trans (rA hx15 (decide_eq_false k7));subst hr;exact rs1 () trivial
  refine g3 ?_;refine stM rfl (ixs j) ?_;refine stM rfl (fJ hx15 0) ?_;refine g7 ?_;refine bLl (λhc139=>?_) λhc139=>?_
  .refine g11 ?_;have hr:=(yA hinv17.2 k7).trans (rA hx15 (decide_eq_false k7));subst hr;exact rs1 () trivial
  refine g6 ?_;refine inc (j+1) ?_;refine g3 ?_;exact bk2 (j+1) ⟨e9 (⟨k7,jW hinv23.2 hx15 (decide_eq_true k7)⟩),e8⟩
 refine g11 ?_;have hr:=(yA hinv17.2 k7).trans (pR hinv23.2 k7);subst hr;exact rs1 () trivial
theorem at_one_life{β:dC}{n:Nat}{Γ:Env}{H:List bD}{F:List bC}{Q:Exit->Act->World->Prop}{ops:Array Oper}{rest:List Oper}{o:Oper}{d:Nat}{x:Operand}{m:dV}(hw:want ops Γ o=some true)(ho:o.op= .buildSlice 97 1 #[(0,x)])(hd:o.dst=some d)(hn:Nat.blt d n=true)
  (hx:Γ.ev x=some (.agg #[.int .i64 m.from_,.int .i64 m.to_])) (k: ∀b,At β n ((d,.slice (some ⟨b,0,none⟩) 1 1)::Γ) (.obj b (.cells (lE.all [m]).toArray 114)::H) F (wpList prog ops Q rest)):At β n Γ H F (wpList prog ops Q (o::rest)):=by
 obtain⟨i,hi,hz,hs,_⟩:=lifeInfo;refine nF hw ho hd hn hx underlying97 hi hz k7 k7 ?_ k;rw[hs]
 kernel_rfl
theorem lives_spec(c:gF)(hr:cZ c.c=true):cE prog 37 [.agg #[.int .i64 c.vars,.slice c.bufs.addr c.bufs.list.length c.bufs.cap,.slice c.steps.addr c.steps.list.length c.steps.cap,.slice c.outs.addr c.outs.list.length c.outs.cap]] [] [nM c,bC.cells 0 0 [.int .i64 0,.int .i64 (-1)]] (λ(x:Option Addr×Nat)=> .slice x.1 c.bufs.list.length x.2) (λ(x:Option Addr×Nat)=>[lE.row (.slice x.1 c.bufs.list.length x.2) 114 (lv (cW c.c))]) (λ_=>[]):=by
 have hT:=dB;generalize hR:cW c.c=r;obtain⟨hbz,hst,hou⟩:=bBi hr;have hnb:c.c.bufs.length=c.bufs.list.length:=bY _;have hns:c.c.steps.length=c.steps.list.length:=fG _;have hno:c.c.outs.length=c.outs.list.length:=rfl;refine j2 func37 ntmps37 ?_;intro β hM;refine g2 ?_;refine j0 λb1=>?_;refine g5 ?_;refine ss (rD hT (bI (off:=0) d8) rfl rfl rfl rfl rfl) ?_;refine at_one_life (m:=⟨0,-1⟩) rfl rfl rfl rfl rfl λb2=>?_;refine wL (E:=lE) (xs:=[⟨0,-1⟩]) .head<|qG .head ?_;refine g3 ?_;refine bF func87 (repeatL_spec (some ⟨b2,0,none⟩) 1 ⟨0,-1⟩ c.bufs.list.length k7) rfl rfl .nil ⟨d7,e8⟩ λ⟨LA,lcp⟩=>?_;refine g8 ?_;refine uW (m:=c.bufs.list.length) rfl rfl rfl rfl rfl rfl k7 λb3=>?_;refine g12 ?_;refine bU (ι:=Nat×List dV) [(1,_),(3,_),(4,_),(23,_)] ⟨rfl,rfl,rfl,rfl,e8⟩ (λ⟨i,li⟩=>[(24,.int .i64 (i:Nat))]) (λ⟨i,li⟩=>[lE.row (.slice LA c.bufs.list.length lcp) 114 li]) (λ⟨i,li⟩=>[bC.pure (i<=c.bufs.list.length/\bFd c.c i li)]) (λ⟨i,li⟩=>c.bufs.list.length-i) (0,List.replicate c.bufs.list.length ⟨0,-1⟩) ⟨rfl,e8⟩ (.c1 .nil) ⟨e9 (⟨k7,by rw[<-hnb];exact live_start⟩),e8⟩ ?_;rintro⟨i,li⟩;dsimp only;refine bJ d7 λhinv4=>?_;have hll:li.length=c.bufs.list.length:=by rw[hinv4.2.1];exact hnb
 refine g6 ?_;refine dH (λhc25=>?_) λhc25=>?_
 .refine g15 ?_;refine bK (vE.sl (.slice c.bufs.addr c.bufs.list.length c.bufs.cap) c.bufs.list) (mO (iS d9)) ?_;obtain⟨x4,hx5⟩:=gx c.bufs.list i;refine ss (ixs i) ?_;refine one ?_;refine ss (fJ hx5 1) ?_;refine g2 ?_;refine k_le (λhg34=>?_) λhg34=>?_
  .refine g11 ?_;obtain⟨x6,hx7⟩:=gx li i;refine ss (bG hT (k:=i) (cM .head) rfl rfl rfl rfl rfl hll.symm rfl k7) ?_;refine one ?_;refine cN hT (k:=i) (fo:=0) (y':=(⟨-1,x6.to_⟩:dV)) .head rfl rfl rfl rfl rfl rfl rfl rfl rfl hx7 rfl ?_;refine g5 ?_;refine inc (i+1) ?_;refine g3 ?_;exact bk2 (i+1,(li.set i (⟨-1,x6.to_⟩:dV))) ⟨e9 (⟨by dsimp only;omega,live_yes hinv4.2 (bT hx5) hx7 u1⟩),e8⟩
  refine g3 ?_;refine bK (cF.sl (.slice c.outs.addr c.outs.list.length c.outs.cap) c.outs.list) (xN (bHl e6)) ?_;refine bF func88 (bNi c.outs.addr c.outs.cap c.outs.list k7 (i:Nat)) rfl rfl .nil ⟨d7,e8⟩ λ_=>?_;refine g3 ?_;refine yS (λhc39=>?_) λhc39=>?_
  .refine g3 ?_;obtain⟨x8,hx9⟩:=gx li i;refine ss (bG hT (k:=i) (cM .head) rfl rfl rfl rfl rfl hll.symm rfl k7) ?_;refine one ?_;refine cN hT (k:=i) (fo:=0) (y':=(⟨-1,x8.to_⟩:dV)) .head rfl rfl rfl rfl rfl rfl rfl rfl rfl hx9 rfl ?_;refine g5 ?_;refine inc (i+1) ?_;refine g3 ?_;exact bk2 (i+1,(li.set i (⟨-1,x8.to_⟩:dV))) ⟨e9 (⟨by dsimp only;omega,live_yes hinv4.2 (bT hx5) hx9 u1⟩),e8⟩
  refine g5 ?_;refine inc (i+1) ?_;refine g3 ?_;exact bk2 (i+1,li) ⟨e9 (⟨by dsimp only;omega,live_no hinv4.2 (bT hx5) (by show jD.input _<0;omega) ‹_›⟩),e8⟩
 refine g15 ?_;refine bU (ι:=Nat×List dV×List Bool) [(1,_),(3,_),(4,_),(46,_),(47,_)] ⟨rfl,rfl,rfl,rfl,rfl,e8⟩ (λ⟨k,li,dn⟩=>[(48,.int .i64 (k:Nat))]) (λ⟨k,li,dn⟩=>[lE.row (.slice LA c.bufs.list.length lcp) 114 li,iT.row (.slice (some ⟨b3,0,none⟩) c.bufs.list.length c.bufs.list.length) 4 dn]) (λ⟨k,li,dn⟩=>[bC.pure (k<=c.steps.list.length/\StepI c.c k li dn r)]) (λ⟨k,li,dn⟩=>c.steps.list.length-k) (0,li,List.replicate c.bufs.list.length false) ⟨rfl,e8⟩ (.c0 (.c0 .nil)) ⟨e9 (⟨k7,by rw[<-hR,<-hnb];exact step_start hinv4.2 k7⟩),e8⟩ ?_;rintro⟨k,li,dn⟩;dsimp only;refine bJ d7 λhinv10=>?_;have hl2:li.length=c.bufs.list.length:=by rw[hinv10.2.1];exact hnb
 have hd2:dn.length=c.bufs.list.length:=by rw[hinv10.2.2.1];exact hnb
 refine g6 ?_;refine dH (λhc49=>?_) λhc49=>?_
 .refine g7 ?_;refine bK (sQ.sl (.slice c.steps.addr c.steps.list.length c.steps.cap) c.steps.list) (sE (kD e6)) ?_;obtain⟨x10,hx11⟩:=gx c.steps.list k;refine ss (ixs k) ?_;refine ss (jQ hx11 0) ?_;refine i7 vQ λb12=>?_;refine g6 ?_;obtain⟨hb0,hb1,hop⟩:=hst x10.c (f5 (dJ hx11))
  replace hb0:0<=x10.buf:=hb0
  replace hb1:x10.buf<(c.c.bufs.length:Nat):=hb1
  have hul:=usesV_len x10.ops.list;refine g3 ?_;refine bK (mG x10) (Has.each (rI (kD e7)) (f5 hx11))<|bK (opE.sl (.slice x10.ops.addr x10.ops.list.length x10.ops.cap) x10.ops.list) (bKs (lX d7))<|bJ (opsF_c (lX d8)) λhz13=>?_;have hz132:=hz13.2;refine bF func89 (uses_spec x10.ops.addr x10.ops.cap x10.ops.list k7) rfl rfl .nil ⟨d7,e8⟩ λ⟨UA,uc⟩=>?_;refine g5 ?_;refine bU (ι:=Nat×List dV) [(1,_),(3,_),(4,_),(6,_),(7,_),(46,_),(47,_),(48,_),(55,_),(56,_)] ⟨rfl,rfl,rfl,rfl,rfl,rfl,rfl,rfl,rfl,rfl,e8⟩ (λ⟨j,lj⟩=>[(57,.int .i64 (j:Nat))]) (λ⟨j,lj⟩=>[lE.row (.slice LA c.bufs.list.length lcp) 114 lj]) (λ⟨j,lj⟩=>[bC.pure (j<=(nG x10.ops.list).length/\lj.length=c.bufs.list.length/\UseI (k:Nat) (nG x10.ops.list) j (((nG x10.ops.list).map Int.toNat).foldl (hJ (k:Nat)) (lc li)) lj)]) (λ⟨j,lj⟩=>(nG x10.ops.list).length-j) (0,li) ⟨rfl,e8⟩ (.c1 .nil) ⟨e9 (⟨k7,hl2,rfl⟩),e8⟩ ?_;rintro⟨j,lj⟩;dsimp only;refine bJ d7 λhinv13=>?_;have hl3:=hinv13.2.1;refine g6 ?_;refine dH (λhc58=>?_) λhc58=>?_
  .refine g6 ?_;obtain⟨x14,hx15⟩:=gx (nG x10.ops.list) j;refine ss (ixs j) ?_;refine ss (fJ hx15 0) ?_;refine g3 ?_;have hzz:=uses_in hop (f5 hx15);refine g4 ?_;obtain⟨x16,hx17⟩:=gx lj x14.toNat k9;refine ss (bG hT (k:=x14.toNat) (cM .head) rfl rfl rfl rfl rfl hl3.symm k7 k9) ?_;refine one ?_;refine cN hT (k:=x14.toNat) (fo:=1) (y':=(⟨x16.from_,(k:Nat)⟩:dV)) .head rfl rfl rfl rfl rfl rfl rfl rfl rfl hx17 rfl ?_;refine g5 ?_;refine inc (j+1) ?_;refine g3 ?_;exact bk2 (j+1,(lj.set x14.toNat (⟨x16.from_,(k:Nat)⟩:dV))) ⟨e9 (⟨by dsimp only;omega,by rw[List.length_set];exact hl3,use_step hinv13.2.2 hx15 hx17⟩),e8⟩
  refine g11 ?_;obtain⟨x18,hx19⟩:=gx dn x10.buf.toNat k9;refine ss (bG hT (k:=x10.buf.toNat) (cM kT2) rfl rfl rfl rfl rfl hd2.symm k7 k9) ?_;refine ss (fJ hx19 0) ?_;refine g3 ?_;refine yQ (λhc72=>?_) λhc72=>?_
  .refine g5 ?_;refine ss (bG hT (k:=x10.buf.toNat) (cM kT2) rfl rfl rfl rfl rfl hd2.symm k7 k9) ?_;refine cN hT (k:=x10.buf.toNat) (fo:=0) (y':=(true)) kT2 rfl rfl rfl rfl rfl rfl rfl rfl rfl hx19 rfl ?_;refine g7 ?_;obtain⟨x20,hx21⟩:=gx lj x10.buf.toNat k9;refine ss (bG hT (k:=x10.buf.toNat) (cM kT1) rfl rfl rfl rfl rfl hl3.symm k7 k9) ?_;refine one ?_;refine cN hT (k:=x10.buf.toNat) (fo:=0) (y':=(⟨(k:Nat),x20.to_⟩:dV)) kT1 rfl rfl rfl rfl rfl rfl rfl rfl rfl hx21 rfl ?_;refine g7 ?_;refine ss (bG hT (k:=x10.buf.toNat) (cM .head) rfl rfl rfl rfl rfl n4 k7 k9) ?_;refine one ?_;refine cN hT (k:=x10.buf.toNat) (fo:=1) (y':=(⟨(⟨(k:Nat),x20.to_⟩:dV).from_,(k:Nat)⟩:dV)) .head rfl rfl rfl rfl rfl rfl rfl rfl rfl (List.getElem?_set_self k9) rfl ?_;refine g5 ?_;refine inc (k+1) ?_;refine g3 ?_;exact bk2 (k+1,((lj.set x10.buf.toNat (⟨(k:Nat),x20.to_⟩:dV)).set x10.buf.toNat (⟨(⟨(k:Nat),x20.to_⟩:dV).from_,(k:Nat)⟩:dV)),(dn.set x10.buf.toNat (true))) ⟨e9 (⟨by dsimp only;omega,bOn hinv10.2 (dJ hx11) (made_new hinv13.2.2 k7 rfl (show dn[_]?=some false by rw[hx19];simp_all) hx21) rfl⟩),e8⟩
  refine g7 ?_;obtain⟨x22,hx23⟩:=gx lj x10.buf.toNat k9;refine ss (bG hT (k:=x10.buf.toNat) (cM .head) rfl rfl rfl rfl rfl hl3.symm k7 k9) ?_;refine one ?_;refine cN hT (k:=x10.buf.toNat) (fo:=1) (y':=(⟨x22.from_,(k:Nat)⟩:dV)) .head rfl rfl rfl rfl rfl rfl rfl rfl rfl hx23 rfl ?_;refine g5 ?_;refine inc (k+1) ?_;refine g3 ?_;exact bk2 (k+1,(lj.set x10.buf.toNat (⟨x22.from_,(k:Nat)⟩:dV)),dn) ⟨e9 (⟨by dsimp only;omega,bOn hinv10.2 (dJ hx11) (made_old hinv13.2.2 k7 rfl (show dn[_]?=some true by rw[hx19];simp_all) hx23).1 (made_old (y:=_) hinv13.2.2 k7 rfl (show dn[_]?=some true by rw[hx19];simp_all) hx23).2⟩),e8⟩
 refine g15 ?_;refine bU (ι:=Nat×List dV) [(1,_),(3,_),(91,_),(92,_)] ⟨rfl,rfl,rfl,rfl,e8⟩ (λ⟨j,lo⟩=>[(93,.int .i64 (j:Nat))]) (λ⟨j,lo⟩=>[lE.row (.slice LA c.bufs.list.length lcp) 114 lo]) (λ⟨j,lo⟩=>[bC.pure (j<=c.outs.list.length/\OutI c.c j lo r)]) (λ⟨j,lo⟩=>c.outs.list.length-j) (0,li) ⟨rfl,e8⟩ (.c0 .nil) ⟨e9 (⟨k7,hinv10.2.1,stepI_end hinv10.2 k7⟩),e8⟩ ?_;rintro⟨j,lo⟩;dsimp only;refine bJ d7 λhinv23=>?_;have hl4:lo.length=c.bufs.list.length:=by rw[hinv23.2.1];exact hnb
 refine g6 ?_;refine dH (λhc94=>?_) λhc94=>?_
 .refine g6 ?_;refine bK (cF.sl (.slice c.outs.addr c.outs.list.length c.outs.cap) c.outs.list) (xN (bHl e7)) ?_;obtain⟨x24,hx25⟩:=gx c.outs.list j;refine ss (ixs j) ?_;refine ss (fJ hx25 0) ?_;refine g3 ?_;have hzz:=hou x24 (f5 hx25);refine g6 ?_;obtain⟨x26,hx27⟩:=gx lo x24.toNat k9;refine ss (bG hT (k:=x24.toNat) (cM .head) rfl rfl rfl rfl rfl hl4.symm k7 k9) ?_;refine one ?_;refine cN hT (k:=x24.toNat) (fo:=1) (y':=(⟨x26.from_,(c.steps.list.length:Nat)⟩:dV)) .head rfl rfl rfl rfl rfl rfl rfl rfl rfl hx27 rfl ?_;refine g5 ?_;refine inc (j+1) ?_;refine g3 ?_;exact bk2 (j+1,(lo.set x24.toNat (⟨x26.from_,(c.steps.list.length:Nat)⟩:dV))) ⟨e9 (⟨by dsimp only;omega,out_stepN hns hinv23.2 hx25 hx27⟩),e8⟩
 refine g12 ?_;have hlv:=out_end hinv23.2 k7;subst hlv;exact rs1 (LA,lcp) trivial
end
section
open Go.Proofs.Tryz
end
section
open Go.RowKit Go.Proofs.Tryz
section
variable {α : Type} {x y : α}
theorem bPr{a b:List α}{k:Nat}(h:a.take k=b.take k)(hx:a[k]?=some x)(hy:b[k]?=some y)(e:x=y):a.take (k+1)=b.take (k+1):=by
 subst e;rw[List.take_add_one,List.take_add_one,h,hx,hy]
theorem take_all{a b:List α}{k:Nat}(h:a.take k=b.take k)(ha:a.length<=k)(hb:b.length<=k):a=b:=by
 rw[List.take_of_length_le ha,List.take_of_length_le hb]at h;exact h
theorem not_take{a b:List α}{k:Nat}(hx:a[k]?=some x)(hy:b[k]?=some y)(e:x≠y):a≠b:=by
 rintro rfl;rw[hx]at hy;exact e (Option.some.inj hy)
end
theorem bGo(p q:PolV)(hl:p.list.length<=140737488355328):cE prog 92 [.slice p.addr p.list.length p.cap,.slice q.addr q.list.length q.cap] [] [mM.sl (.slice p.addr p.list.length p.cap) p.list,mM.sl (.slice q.addr q.list.length q.cap) q.list] (λ(_:Unit)=> .bool (decide (p.list=q.list))) (λ_=>[]) (λ_=>[]):=by
 have hT:=dB;refine j2 func92 ntmps92 ?_;intro β hM;refine sr<|sp hT ?_;refine nn<|fT<|sr<|sp4 hT ?_;refine sp hT ?_;refine nn<|cG rfl (λhc10=>?_) (λhc10=>?_)
 .have hc10:=bne_iff_ne.1 hc10;refine sr<|sp hT ?_;refine nn<|uY<|uH ?_;exact nU () rfl (rv_tmp rfl) .nil e8 (eqF_of (λe=>by have:=congrArg List.length e;omega))
 have hc10:=bne_eq_false_iff_eq.1 hc10;refine sL<|lM<|fT<|sr<|sp3 hT ?_;refine nn<|wQ<|bU (ι:=Nat) [(0,_),(1,_),(12,_)] ⟨rfl,rfl,rfl,e8⟩ (λi=>[(13,.int .i64 (i:Nat))]) (λ_=>[]) (λi=>[bC.pure (i<=p.list.length/\p.list.take i=q.list.take i)]) (λi=>p.list.length-i) 0 ⟨rfl,e8⟩ .nil ⟨e9 (⟨k7,rfl⟩),e8⟩ ?_;rintro i;refine bJ d7 λhinv4=>?_;refine sr<|sp hT ?_;refine nn<|fT<|cG rfl (λhc14=>?_) (λhc14=>?_)
 .have hc14:=of_decide_eq_true hc14;refine sL<|lM<|fT<|wQ<|sr<|sp2 hT ?_;refine nn<|fT<|dS _ _ [(true,0),(true,1),(true,2),(true,3),(true,4),(true,5),(true,6),(true,7),(true,8)] dW l8 .nil bA.self ?_;refine puM hT ?_;refine puM hT ?_
  obtain⟨x1,hx2⟩: ∃x',p.list[i]?=some x':=⟨_,List.getElem?_eq_getElem k7⟩
  refine stM rfl (bG hT (k:=i) (bR d8) rfl rfl rfl rfl rfl rfl rfl k7) ?_;refine stM rfl (rD hT (dL.knows (bR d8) (k:=i) (x:=x1) hx2 0) rfl rfl rfl rfl rfl) ?_;refine puM hT ?_;refine puM hT ?_
  obtain⟨x3,hx4⟩: ∃x',q.list[i]?=some x':=⟨_,List.getElem?_eq_getElem k7⟩
  refine stM rfl (bG hT (k:=i) (bR d9) rfl rfl rfl rfl rfl rfl rfl k7) ?_;refine stM rfl (rD hT (dL.knows (bR d9) (k:=i) (x:=x3) hx4 0) rfl rfl rfl rfl rfl) ?_;refine stM rfl (sti_neq_mono x1 x3 rfl rfl rfl) ?_;refine atm_nil<|lM<|cG rfl (λhc24=>?_) (λhc24=>?_)
  .refine sr<|sp hT ?_;refine nn<|uY<|bAr<|uH<|uH<|bAr<|uH ?_;exact nU () rfl (rv_tmp rfl) .nil e8 (eqF_of (not_take hx2 hx4 (mono_t ‹_›)))
  refine sL<|n_block<|lM<|lV<|sp hT ?_;refine bN (z':=(((i+1):Nat):Int)) (zE k7 k7) ?_;refine sp hT ?_;refine nn ?_;exact oC (i+1) k7 ⟨rfl,e8⟩ ⟨rfl,rfl,rfl,e8⟩ .nil ⟨e9 (⟨k7,bPr hinv4.2 hx2 hx4 (mono_f ‹_›)⟩),e8⟩ (bA.drop 1)
 have hc14:=Int.not_lt.1 (of_decide_eq_false hc14);refine at_exit<|bKo<|bKo<|x_block<|lM<|sr<|sp hT ?_;refine nn<|uY ?_;exact nU () rfl (rv_tmp rfl) .nil e8 (eqT_of (take_all hinv4.2 k7 k7))
theorem full1_spec(p q:PolV)(hl:p.list.length<=140737488355328):cE prog 91 [.slice p.addr p.list.length p.cap,.slice q.addr q.list.length q.cap] [] [mM.sl (.slice p.addr p.list.length p.cap) p.list,mM.sl (.slice q.addr q.list.length q.cap) q.list] (λ(_:Unit)=> .bool (decide (p.list=q.list))) (λ_=>[]) (λ_=>[]):=by
 have hT:=dB;refine j2 func91 ntmps91 ?_;intro β hM;refine sr<|sp hT ?_;refine nn<|sr<|sp2 hT ?_;refine f9 func92 (bGo p q hl) .nil ⟨d7,d8,e8⟩ λ_=>?_;refine sp hT ?_;refine nn<|uY ?_;exact nU () rfl (rv_tmp rfl) .nil e8 (rfl)
theorem bFp(A B:Option Addr)(ca cb:Nat)(a b:List PolV)(hl:a.length<=140737488355328):cE prog 90 [.slice A a.length ca,.slice B b.length cb,.func (.func 91) #[] #[]] [] [iD.sl (.slice A a.length ca) a,bCk a,iD.sl (.slice B b.length cb) b,bCk b] (λ(_:Unit)=> .bool (decide (polsL a=polsL b))) (λ_=>[]) (λ_=>[]):=by
 have hT:=dB;refine j2 func90 ntmps90 ?_;intro β hM;refine sr<|sp hT ?_;refine nn<|fT<|sr<|sp4 hT ?_;refine sp hT ?_;refine nn<|cG rfl (λhc14=>?_) (λhc14=>?_)
 .have hc14:=bne_iff_ne.1 hc14;refine sr<|sp hT ?_;refine nn<|uY<|uH ?_;exact nU () rfl (rv_tmp rfl) .nil e8 (eqF_of (λe=>by have:=congrArg List.length e;rw[cC,cC]at this;omega))
 have hc14:=bne_eq_false_iff_eq.1 hc14;refine sL<|lM<|fT<|sr<|sp3 hT ?_;refine nn<|wQ<|bU (ι:=Nat) [(1,_),(2,_),(15,_),(16,_)] ⟨rfl,rfl,rfl,rfl,e8⟩ (λi=>[(17,.int .i64 (i:Nat))]) (λ_=>[]) (λi=>[bC.pure (i<=a.length/\(polsL a).take i=(polsL b).take i)]) (λi=>a.length-i) 0 ⟨rfl,e8⟩ .nil ⟨e9 (⟨k7,rfl⟩),e8⟩ ?_;rintro i;refine bJ d7 λhinv4=>?_;refine sr<|sp hT ?_;refine nn<|fT<|cG rfl (λhc18=>?_) (λhc18=>?_)
 .have hc18:=of_decide_eq_true hc18;refine sL<|lM<|fT<|wQ<|sr<|sp hT ?_
  obtain⟨x1,hx2⟩: ∃x',a[i]?=some x':=⟨_,List.getElem?_eq_getElem k7⟩
  refine ss (bG hT (k:=i) (bR d8) rfl rfl rfl rfl rfl rfl rfl k7) ?_;refine ss (i6 hT (dL.knows (bR d8) (k:=i) (x:=x1) hx2 0)) ?_;refine sp2 hT ?_;refine nn<|sr<|sp2 hT ?_
  obtain⟨x3,hx4⟩: ∃x',b[i]?=some x':=⟨_,List.getElem?_eq_getElem k7⟩
  refine ss (bG hT (k:=i) (bR e6) rfl rfl rfl rfl rfl rfl rfl k7) ?_;refine ss (i6 hT (dL.knows (bR e6) (k:=i) (x:=x3) hx4 0)) ?_;refine sp hT ?_;refine nn<|sr<|sp3 hT ?_;refine bJ (gG (Has.each d9 (f5 hx2))) λhxl=>?_;refine lJ (j4 func91) (full1_spec x1 x3 hxl) rfl rfl rfl rfl rfl rfl rfl .nil ⟨pQ (Has.each d9 (f5 hx2)),pQ (Has.each e7 (f5 hx4)),e8⟩ λ_=>?_;refine sp hT ?_;refine nn<|cG rfl (λhc30=>?_) (λhc30=>?_)
  .have hc30:=bGl hc30;refine sr<|sp hT ?_;refine nn<|uY<|bAr<|uH<|uH<|bAr<|uH ?_;exact nU () rfl (rv_tmp rfl) .nil e8 (eqF_of (not_take (dD hx2) (dD hx4) (of_decide_eq_false (by simpa using (by assumption:(!decide _)=true)))))
  have hc30:=bGp hc30;refine sL<|n_block<|lM<|lV<|sp hT ?_;refine bN (z':=(((i+1):Nat):Int)) (zE k7 k7) ?_;refine sp hT ?_;refine nn ?_;exact oC (i+1) k7 ⟨rfl,e8⟩ ⟨rfl,rfl,rfl,rfl,e8⟩ .nil ⟨e9 (⟨k7,bPr hinv4.2 (dD hx2) (dD hx4) (of_decide_eq_true (by simpa using (by assumption:(!decide _)=false)))⟩),e8⟩ (bA.drop 1)
 have hc18:=Int.not_lt.1 (of_decide_eq_false hc18);refine at_exit<|bKo<|bKo<|x_block<|lM<|sr<|sp hT ?_;refine nn<|uY ?_;exact nU () rfl (rv_tmp rfl) .nil e8 (eqT_of (take_all hinv4.2 o9 o9))
def pO:Flat RowV where
 size:=1
 cells:=λr=>[.pointer (some ⟨r.b,0,none⟩)]
 len:=λ_=>rfl
 one:=λx u hu=>by simp at hu;subst hu;rfl
 pos:=m7
def lK (x:SpotV):bC:=(fC x.at_).and (fC x.size)
abbrev plBox(p m:Nat)(st:PSt):bD:= .obj p (.cells ([.slice st.end_.addr st.end_.list.length st.end_.cap,.slice st.fA st.rows.length st.fc,.int .i64 st.since,.map (some m)]:List Value).toArray 105)
abbrev plRow(st:PSt):bD:=pO.row (.slice st.fA st.rows.length st.fc) 284 st.rows
abbrev plMap(m:Nat)(st:PSt):bD:=bIy m .i64 (kvV st.kv)
abbrev plH(p m:Nat)(st:PSt):List bD:=plBox p m st::plRow st::plMap m st::famR st.rows
def vT (n:List Mono)(r:RowV):Bool:=match r.l[0]? with
 |some x=>decide (sz x=n)
 |none=>false
theorem bOw{n:List Mono}{r:RowV}{x:SpotV}(h:r.l[0]?=some x):vT n r=decide (sz x=n):=by unfold vT;rw[h]
theorem pick_none{n:List Mono}{r:RowV}(h:r.l.length=0):vT n r=false:=by unfold vT;rw[List.getElem?_eq_none k7]
theorem bKx{α:Type}(p:α->Bool): ∀(l:List α) (i:Nat),(pF p l (i:Int)<0-> ∀x∈l,p x=false)/\(0<=pF p l (i:Int)-> ∃(k:Nat) (x:α),pF p l (i:Int)=((i+k:Nat):Int)/\l[k]?=some x/\p x=true)
 |[],i=>⟨λ_ x hx=>(by cases hx),λh=>absurd h (by show ¬(0:Int)<= -1;decide)⟩
 |s::r,i=>by
  have ih:=bKx p r (i+1);have ei:((i+1:Nat):Int)=(i:Int)+1:=k7
  rw[ei]at ih;unfold pF
  by_cases hs:p s=true
  .rw[if_pos hs];exact⟨λh=>by omega,λ_=>⟨0,s,m9,rfl,hs⟩⟩
  .rw[if_neg hs];refine⟨λh x hx=>?_,λh=>?_⟩
   .rcases List.mem_cons.1 hx with rfl|hx
    .simpa using hs
    .exact ih.1 h x hx
   .obtain⟨k,x,h1,h2,h3⟩:=ih.2 h;exact⟨k+1,x,by rw[h1];omega,h2,h3⟩
theorem idxG_at{α:Type}(p:α->Bool)(l:List α):(pF p l 0<0-> ∀x∈l,p x=false)/\(0<=pF p l 0-> ∃(k:Nat) (x:α),pF p l 0=(k:Nat)/\l[k]?=some x/\p x=true):=by
 have:=bKx p l 0
 simpa using this
theorem pick_no{n:List Mono}{l:List RowV}(h: ∀r∈l,vT n r=false): ∀(j:Nat) (r:RowV) (x:SpotV),l[j]?=some r->r.l[0]?=some x->sz x≠n:=λj r x hj hx=>by
 have:=h r (f5 hj);rw[bOw hx]at this
 simpa using this
theorem pick_yes{n:List Mono}{r:RowV}(h:vT n r=true): ∃x,r.l[0]?=some x/\sz x=n:=by
 unfold vT at h
 cases hx:r.l[0]? with
 |none=>rw[hx]at h;cases h
 |some x=>rw[hx]at h;exact⟨x,rfl,by simpa using h⟩
theorem pl_front(a p fr mp:bD)(fam:List bD):(a::p::fr::mp::fam).Perm ((a::fr::fam)++[p,mp]):=by
 refine List.Perm.cons a ?_;have h1:(p::fr::mp::fam).Perm (fr::p::mp::fam):=List.Perm.swap _ _ _;have h2:([p,mp]++fam).Perm (fam++[p,mp]):=List.perm_append_comm;exact h1.trans (h2.cons fr)
def spotO:Option SpotV->Array Value
 |some x=>(dU.cells x).toArray
 |none=> #[.slice none 0 0,.slice none 0 0,.int .i64 0]
def TakeO (st:PSt)(pool:List SpotV)(s:PlC)(fs:List SpotV)(M:Nat)(n:List Mono):Option SpotV->Prop
 |none=>gH st pool s fs M/\s.free.findIdx? (λy=>decide (y.size=n))=none
 |some q=>q∈pool/\ ∃i,s.free[i]?=some q.c/\s.free.findIdx? (λy=>decide (y.size=n))=some i/\gH st pool {s with free:=s.free.eraseIdx i} fs M
theorem Sel.skip{H R:List bD}{c:bD}(h:Sel H R):Sel (c::H) R:=by
 induction h generalizing c with
 |nil=>exact .nil
 |cons h _ ih=>exact .cons (.tail h) ih
theorem Split.all: ∀{L:List bD},Split L L []
 |[]=> .nil
 |_::_=> .cons .head Split.all
theorem cE.pre{ι:Type}{P:Program}{f:FuncId}{args:List Value}{Hin:List bD}{Pre Pre':List bC}{val:ι->Value}{Hout:ι->List bD}{post:ι->List bC}(h:cE P f args Hin Pre val Hout post)(hp:bA Pre' Pre):cE P f args Hin Pre' val Hout post:=λS w s k=>h S w s (bA.all hp S w k)
section
variable {β : dC} {n : Nat} {Γ : Env} {H H' : List bD} {F : List bC} {K : Act -> World -> Prop} {Q : Exit -> Act -> World -> Prop}
theorem dZ(p:H.Perm H')(h:At β n Γ H' F K):At β n Γ H F K:=λa w S f s k=>h a w S f (s.perm p) k
theorem ptrInfo: ∃i:TypeInfo,prog.info? 284=some i/\i.zero=some (.pointer none)/\i.size=1/\i.bytes=8:=by
 have h:(prog.info? 284).map (λi=>(i.zero,i.size,i.bytes))=some (some (.pointer none),1,8):=k8
 cases hi:prog.info? 284 with
 |none=>simp[hi]at h
 |some i=>simp[hi]at h;exact⟨i,rfl,h.1,h.2.1,h.2.2⟩
theorem at_one_ptr{ops:Array Oper}{rest:List Oper}{o:Oper}{d:Nat}{x:Operand}{m:RowV}(hw:want ops Γ o=some true)(ho:o.op= .buildSlice 103 1 #[(0,x)])(hd:o.dst=some d)(hn:Nat.blt d n=true)
  (hx:Γ.ev x=some (.pointer (some ⟨m.b,0,none⟩))) (k: ∀b,At β n ((d,.slice (some ⟨b,0,none⟩) 1 1)::Γ) (.obj b (.cells (pO.all [m]).toArray 284)::H) F (wpList prog ops Q rest)):At β n Γ H F (wpList prog ops Q (o::rest)):=by
 obtain⟨i,hi,hz,hs,_⟩:=ptrInfo;refine nF hw ho hd hn hx underlying103 hi hz k7 k7 ?_ k;rw[hs]
 kernel_rfl
theorem at_app_ptr{ops:Array Oper}{rest:List Oper}{o:Oper}{d:Nat}{x y:Operand}{c q:Nat}{v:Value}{A:Option Addr}{xs ys:List RowV}{H':List bD}(hH:bW H (pO.row v 284 xs) H')(hr:dL β H F pO A ys)(hg:o.guard=none)
  (ho:o.op= .call {callee:= .builtin .append,args:= #[x,y],argTypes:= #[103,103]}) (hd:o.dst=some d) (hn:Nat.blt d n=true)
  (hx:Γ.ev x=some v) (hy:Γ.ev y=some (.slice A q c)) (hq:q=ys.length) (hl:xs.length+ys.length<=17592186044416)
  (k: ∀A' cap',At β n ((d,.slice A' (xs++ys).length cap')::Γ) (pO.row (.slice A' (xs++ys).length cap') 284 (xs++ys)::H') F (wpList prog ops Q rest)):At β n Γ H F (wpList prog ops Q (o::rest)):=by
 obtain⟨i,hi,hz,hs,hb⟩:=ptrInfo;exact jG hH hr hg ho hd hn underlying103 hi hz hs hb rfl hx hy hq k7 m7 k
theorem row_setP{rows:List RowV}{k:Nat}{r q:RowV}(v:Value)(h:rows[k]?=some r)(hb:q.b=r.b):pO.row v 284 (rows.set k q)=pO.row v 284 rows:=by
 have e:pO.all (rows.set k q)=pO.all rows:=by
  have e:pO.cells q=pO.cells r:=by
   show [Value.pointer (some ⟨q.b,0,none⟩)]=[Value.pointer (some ⟨r.b,0,none⟩)];rw[hb]
  unfold Flat.all;rw[List.flatMap_def,List.flatMap_def,List.map_set,e]
  congr 1
  have hx:(rows.map pO.cells)[k]?=some (pO.cells r):=by rw[List.getElem?_map,h];rfl
  obtain⟨hlt,e2⟩:=List.getElem?_eq_some_iff.1 hx;rw[<-e2];exact List.set_getElem_self hlt
 unfold Flat.row;rw[e,List.length_set]
theorem bFk{p m k:Nat}{st:PSt}{r:RowV}{H:List bD}(q:RowV)(hk:st.rows[k]?=some r)(hb:q.b=r.b)(h:At β n Γ (H++plH p m {st with rows:=st.rows.set k q}) F K):At β n Γ (rowBox q::rowArr q::((H++[plBox p m st,plRow st,plMap m st])++famR (st.rows.take k++st.rows.drop (k+1)))) F K:=by
 refine dZ (fam_back hk q _) ?_
 have e:H++plH p m {st with rows:=st.rows.set k q}=(H++[plBox p m st,plRow st,plMap m st])++famR (st.rows.set k q):=by
  show H++(plBox p m {st with rows:=st.rows.set k q}::plRow {st with rows:=st.rows.set k q}::plMap m {st with rows:=st.rows.set k q}::famR (st.rows.set k q))=_
  have e1:plRow {st with rows:=st.rows.set k q}=plRow st:=by
   show pO.row (.slice st.fA (st.rows.set k q).length st.fc) _ (st.rows.set k q)=pO.row (.slice st.fA st.rows.length st.fc) _ st.rows;rw[row_setP _ hk hb,List.length_set]
  have e2:plBox p m {st with rows:=st.rows.set k q}=plBox p m st:=by
   show bD.obj _ _=bD.obj _ _;simp only[List.length_set]
  rw[e1,e2];simp
 rw[<-e];exact h
theorem bLw{p m k:Nat}{st:PSt}{r:RowV}{H:List bD}(hk:st.rows[k]?=some r)(h:At β n Γ (rowBox r::rowArr r::((H++[plBox p m st,plRow st,plMap m st])++famR (st.rows.take k++st.rows.drop (k+1)))) F K):At β n Γ (H++plH p m st) F K:=by
 refine dZ ?_ h;have e:H++plH p m st=(H++[plBox p m st,plRow st,plMap m st])++famR st.rows:=by simp
 rw[e];exact fam_out hk _
end
theorem at_in_row{β:dC}{n:Nat}{Γ:Env}{F:List bC}{K:Act->World->Prop}{p m k:Nat}{st:PSt}{r:RowV}{H:List bD}(hk:st.rows[k]?=some r)(h:At β n Γ (H++plH p m st) F K):At β n Γ (rowBox r::rowArr r::((H++[plBox p m st,plRow st,plMap m st])++famR (st.rows.take k++st.rows.drop (k+1)))) F K:=by
 refine dZ ?_ h;have e:H++plH p m st=(H++[plBox p m st,plRow st,plMap m st])++famR st.rows:=by simp
 rw[e];exact(fam_out hk _).symm
theorem popR(r:RowV)(x:SpotV)(hok:RowOk r)(hx:r.l[0]?=some x)(hb:r.l.length<=100000000):cE prog 166 [.iface 284 (.pointer (some ⟨r.b,0,none⟩))] [rowBox r,dU.held (.slice r.A r.l.length r.c) r.l] [] (λ(_:List SpotV)=> .iface 214 (.agg (dU.cells x).toArray)) (λm=>[rowBox ⟨r.b,r.A,m.length,true,m⟩,rowArr ⟨r.b,r.A,m.length,true,m⟩]) (λm=>[bC.pure (r.l.Perm (x::m)/\qL SpotV.since m)]):=by
 obtain⟨N,hN⟩: ∃N,r.l.length=N+1:=⟨r.l.length-1,by have:=(List.getElem?_eq_some_iff.1 hx).1;omega⟩
 obtain⟨z,hz⟩: ∃z,r.l[N]?=some z:=⟨_,List.getElem?_eq_getElem k7⟩
 have h:=HPop_spec r.A r.b r.c N r.l x z hN (by have:=hok.2.1;omega) hx hz hok.2.2.1 k7;rw[<-hN]at h;intro S w s k;refine(h S w s k).mono ?_;rintro e w' ⟨m,S',he,s',k'⟩;have hm:=k' _ (List.mem_cons_self ..)
 have hl:m.length=N:=by
  have:=hm.1.length_eq;simp at this;omega
 refine⟨m,S',he,?_,k'⟩;subst hl;exact s'
theorem pushR(r:RowV)(x:SpotV)(hok:RowOk r)(ha: ∀q∈r.l,q.since<=x.since)(hb:r.l.length<=100000000):cE prog 168 [.iface 284 (.pointer (some ⟨r.b,0,none⟩)),.iface 214 (.agg (dU.cells x).toArray)] [rowBox r,rowArr r] [] (λ(_:Option Addr×Nat)=> .tuple #[])
  (λy=>[rowBox ⟨r.b,y.1,y.2,false,r.l++[x]⟩,rowArr ⟨r.b,y.1,y.2,false,r.l++[x]⟩]) (λy=>[bC.pure ((r.l++[x]).length<=y.2)]):=by
 cases hf:r.full with
 |false=>
  rw[rowArr_room hf];exact HPush_spec r.A r.b r.c r.l x ha hb
 |true=>
  rw[rowArr_full hf];have hc:=hok.1 hf;have h:=HPushF_spec r.A r.b r.l x ha hb;unfold rowBox;rw[hc];exact h
theorem spotsF_at{F:List bC}{pool:List SpotV}{x:SpotV}(h:Has F (bC.each pool lK))(hx:x∈pool):Has F (fC x.at_):=λS w k=>(h S w k x hx).1
theorem spotsF_size{F:List bC}{pool:List SpotV}{x:SpotV}(h:Has F (bC.each pool lK))(hx:x∈pool):Has F (fC x.size):=λS w k=>(h S w k x hx).2
theorem indexR_spec(A:Option Addr)(c:Nat)(l:List RowV)(hl:l.length<=140737488355328)(f:FuncId)(cap:List Value)(G:List bC)(p:RowV->Bool)(hcf: ∀(args:Array Value) (w:World),(callFunc f args).run prog w= .ok (.enter f args) w)(hf: ∀r∈l,cE prog f (.pointer (some ⟨r.b,0,none⟩)::cap) [] G (λ_:Unit=> .bool (p r)) (λ_=>[]) (λ_=>[])):cE prog 219 [.slice A l.length c,.func (.func f) #[] cap.toArray] [] (pO.sl (.slice A l.length c) l::G) (λ(_:Unit)=> .int .i64 (pF p l 0)) (λ_=>[]) (λ_=>[]):=by
 have hT:=fK;generalize hR:pF p l 0=r;refine j2 func219 ntmps219 ?_;intro β hM;refine g14 ?_;refine bU (ι:=Nat) [(0,_),(1,_),(7,_)] ⟨rfl,rfl,rfl,e8⟩ (λi=>[(8,.int .i64 (i:Nat))]) (λ_=>[]) (λi=>[bC.pure (i<=l.length/\r=pF p (l.drop i) i)]) (λi=>l.length-i) 0 ⟨rfl,e8⟩ .nil ⟨e9 (⟨k7,hR.symm⟩),e8⟩ ?_;rintro i;refine bJ d7 λhinv2=>?_;refine g6 ?_;refine dH (λhc9=>?_) λhc9=>?_
 .refine g15 ?_;obtain⟨x1,hx2⟩:=gx l i;refine ss (ixs i) ?_;refine ss (fJ hx2 0) ?_;refine lJ hcf (hf x1 (f5 hx2)) rfl rfl rfl rfl rfl rfl rfl .nil (bA.drop 2) λ_=>?_;refine g2 ?_;refine yS (λhc16=>?_) λhc16=>?_
  .refine g12 ?_;obtain rfl:=(nL hinv2.2 hx2).1 ‹_›;exact rs1 () trivial
  refine g5 ?_;refine inc (i+1) ?_;refine g3 ?_;exact bk2 (i+1) ⟨e9 (⟨k7,(nL hinv2.2 hx2).2 ‹_›⟩),e8⟩
 refine g11 ?_;have hr:=bBq hinv2.2 k7;subst hr;exact rs1 () trivial
theorem rowOf1_spec(r:RowV)(sb:Nat)(size:PolV)(pool:List SpotV)(hin: ∀x∈r.l,x∈pool):cE prog 220 [.pointer (some ⟨r.b,0,none⟩),.pointer (some ⟨sb,0,none⟩)] [] [bC.cells r.b 0 [.slice r.A r.l.length r.c],dU.sl (.slice r.A r.l.length r.c) r.l,bC.cells sb 0 [.slice size.addr size.list.length size.cap],fC size,bC.each pool lK] (λ(_:Unit)=> .bool (vT size.list r)) (λ_=>[]) (λ_=>[]):=by
 have hT:=fK;refine j2 func220 ntmps220 ?_;intro β hM;refine g6 ?_;refine dS _ _ [(true,0),(true,1),(true,2),(true,3),(true,4),(true,5),(true,6),(true,7),(true,8),(true,9),(true,10),(true,11),(true,12),(false,13),(true,14),(true,15)] dW l8 .nil bA.self ?_;refine g2 ?_;refine stM rfl (i6 hT (bI (off:=0) d7)) ?_;refine g3 ?_;refine lG (λhg9=>?_) λhg9=>?_
 .refine g2 ?_;refine stM rfl (i6 hT (bI (off:=0) d7)) ?_;obtain⟨x1,hx2⟩:=gx r.l 0;refine stM rfl (ixs 0) ?_;refine one ?_;refine stM rfl (fJ hx2 1) ?_;refine stM rfl (i6 hT (bI (off:=0) d9)) ?_;refine one ?_;refine bK (fC x1.size) (spotsF_size e7 (hin x1 (f5 hx2)))<|bJ (gG d7) λhxl=>?_;refine f9 func92 (bGo x1.size size hxl) .nil ⟨pQ d7,pQ e7,e8⟩ λ_=>?_;refine g6 ?_;exact rs1 () e8 (he:=by rw[bOw hx2];rfl)
 refine g15 ?_;exact rs1 () e8 (he:=by rw[pick_none k7])
theorem bLf(pb mb:Nat)(st:PSt)(pool fs:List SpotV)(s:PlC)(M:Nat)(h:gH st pool s fs M)(hM:M<=90000000)(size:PolV):cE prog 164 [.pointer (some ⟨pb,0,none⟩),.slice size.addr size.list.length size.cap] (plH pb mb st) [fC size,bC.each pool lK] (λ(x:PSt×Nat×RowV)=> .pointer (some ⟨x.2.2.b,0,none⟩)) (λ(x:PSt×Nat×RowV)=>plH pb mb x.1) (λ(x:PSt×Nat×RowV)=>[bC.pure (gH x.1 pool s fs (M+1)/\Picked size.list x.1 x.2.1 x.2.2/\x.1.end_=st.end_/\x.1.since=st.since)]):=by
 have hT:=fK;refine j2 func164 ntmps164 ?_;intro β hM;refine g2 ?_;refine j0 λb1=>?_;refine g10 ?_;refine dZ (pl_front _ _ _ _ _) ?_;refine kC (j4 func219) (indexR_spec st.fA st.fc st.rows (by have:=h.many;omega) 220 [.pointer (some ⟨b1,0,none⟩)] [bC.each st.rows rowG,bC.cells b1 0 [.slice size.addr size.list.length size.cap],fC size,bC.each pool lK] (vT size.list) (j4 func220) (λr hr=>(rowOf1_spec r b1 size pool (λx hx=>by obtain⟨k,hk⟩:=List.getElem?_of_mem hr;exact h.inPool hk hx)).pre ⟨(Has.each d7 hr).left,(Has.each d7 hr).right,d8,d9,e6,e8⟩)) rfl rfl rfl rfl rfl .nil (Split.front _ _) (lZ (rC (bOq _))) ⟨d8,d9,d7,e6,e7,e8⟩ (λ_=>True) (λ_ _ _ _=>trivial) λ_ _=>?_;refine dZ (pl_front _ _ _ _ _).symm ?_;have hidx:=idxG_at (vT size.list) st.rows;generalize pF (vT size.list) st.rows 0=z at hidx⊢;refine g10 ?_;refine dH (λhc13=>?_) λhc13=>?_
 .refine g7 ?_;refine at_none_row rfl rfl rfl rfl λnb2=>?_;refine j0 λb3=>?_;refine at_one_ptr (m:=(⟨b3,some ⟨nb2,0,none⟩,0,false,[]⟩:RowV)) rfl rfl rfl rfl rfl λb4=>?_;refine at_app_ptr kT5 (gB .head rfl) rfl rfl rfl rfl rfl rfl rfl (by have:=h.many;simp only[List.length_singleton];omega) λA5 c6=>?_;refine g12 ?_;refine bN (z':=((st.rows.length:Nat):Int)) (by rw[List.length_append,List.length_singleton,show((st.rows.length+1:Nat):Int)-1=(st.rows.length:Nat) by omega];exact zE rfl (by have:=h.many;omega)) ?_;refine g10 ?_;refine ss (bG hT (k:=st.rows.length) (cM kT1) rfl rfl rfl rfl rfl rfl rfl m9) ?_;refine ss (bO hT (dL.knows (cM kT1) (k:=st.rows.length) (x:=(⟨b3,some ⟨nb2,0,none⟩,0,false,[]⟩:RowV)) m9 0) rfl rfl rfl rfl rfl) ?_;refine g4 ?_;have hnew:=picked_new (q:=(⟨b3,some ⟨nb2,0,none⟩,0,false,[]⟩:RowV)) h rfl (pick_no (hidx.1 hc13)) A5 c6 rfl;refine oS (.c0 (.c0 (.c4 (.c1 (.c1 (Sel.skip (Sel.skip Sel.self))))))) ?_;refine dZ ((((fam_new (⟨b3,some ⟨nb2,0,none⟩,0,false,[]⟩:RowV) []).cons _).cons _).cons _) ?_;exact nU (_,st.rows.length,(⟨b3,some ⟨nb2,0,none⟩,0,false,[]⟩:RowV)) rfl (rv_tmp rfl) Sel.self ⟨e9 ⟨hnew.1,hnew.2,rfl,rfl⟩,e8⟩ rfl
 obtain⟨k,r,hzk,hk,hpk⟩:=hidx.2 k7;refine g9 ?_;refine ss (bG hT (k:=k) (cM kT2) rfl rfl rfl rfl rfl rfl hzk ((List.getElem?_eq_some_iff.1 hk).1)) ?_;refine ss (fJ hk 0) ?_;refine g4 ?_;obtain⟨x0,hx0,hsz⟩:=pick_yes hpk;exact nU (st,k,r) rfl (rv_tmp rfl) (.c1 (.c1 (.c1 (Sel.skip Sel.self)))) ⟨e9 ⟨h.more k7,picked_old h hk hx0 hsz,rfl,rfl⟩,e8⟩ rfl
theorem tK:prog.built 214 []=some #[.slice none 0 0,.slice none 0 0,.int .i64 0]:=k8
theorem take_spec(pb mb:Nat)(st:PSt)(pool fs:List SpotV)(s:PlC)(M:Nat)(h:gH st pool s fs M)(hM:M<=80000000)(size:PolV):cE prog 95 [.pointer (some ⟨pb,0,none⟩),.slice size.addr size.list.length size.cap] (plH pb mb st) [fC size,bC.each pool lK] (λ(x:PSt×List SpotV×Option SpotV)=> .tuple #[.agg (spotO x.2.2),.bool x.2.2.isSome]) (λ(x:PSt×List SpotV×Option SpotV)=>plH pb mb x.1) (λ(x:PSt×List SpotV×Option SpotV)=>[bC.pure (TakeO x.1 pool s x.2.1 (M+1) size.list x.2.2/\x.1.end_=st.end_/\x.1.since=st.since)]):=by
 have hT:=fK;refine j2 func95 ntmps95 ?_;intro β hM;refine g2 ?_;refine i7 vC λb1=>?_;refine g7 ?_;refine dZ (List.perm_append_comm (l₁:=[_])) ?_;refine bF func164 (bLf pb mb st pool fs s M h k7 size) rfl rfl (Split.front _ _) ⟨d7,d8,e8⟩ λy2=>?_;refine dZ List.perm_append_comm ?_;refine bJ d7 λhro=>?_;refine bLw (H:=[_]) hro.2.1.at_ ?_;refine g9 ?_;refine f9 func165 (bBk y2.2.2.A y2.2.2.l.length y2.2.2.c) .nil e8 λ_=>?_;refine g3 ?_;refine jN (λhc14=>?_) λhc14=>?_
 .refine g2 ?_;refine ss (cK rfl rfl (tK)) ?_;refine g6 ?_;have hre:y2.2.2.l=[]:=List.eq_nil_of_length_eq_zero k7;refine oS (.c1 (.c1 (.c0 (.c0 (.c0 (.cons .head Sel.self)))))) ?_;refine at_in_row (H:=[_]) hro.2.1.at_ ?_;exact qW (y2.1,fs,none) rfl (rv_cell hT (bBr .head) rfl rfl rfl rfl) (rv_tmp rfl) (.c1 (.c1 (.c1 (Sel.skip Sel.self)))) ⟨e9 ⟨⟨hro.1,picked_none hro.1 hro.2.1 hre⟩,hro.2.2⟩,e8⟩ rfl
 refine g5 ?_;refine ss (wY rfl underlying284 (λ_ e=>by cases e) rfl) ?_;have hok:=hro.1.ok _ _ hro.2.1.at_;obtain⟨x,hx⟩:=gx y2.2.2.l 0;refine at_arr_held kT1 ?_;refine bF func166 (popR y2.2.2 x hok hx (by have:=hro.1.rlen hro.2.1.at_;omega)) rfl rfl (.c1 (.c0 .nil)) e8 λm3=>?_;refine bJ d7 λhpop=>?_;refine ss (zS rfl underlying214 (λ_ e=>by cases e) rfl) ?_;refine g5 ?_;obtain⟨i,hi1,hi2,hrel⟩:=rel_take (q:=⟨y2.2.2.b,y2.2.2.A,m3.length,true,m3⟩) hro.1 hro.2.1 hx hpop.1 hpop.2 rfl;refine oS (.c1 (.c1 (.c0 (.c0 (.c0 (.cons .head Sel.self)))))) ?_;refine bFk (H:=[_]) ⟨y2.2.2.b,y2.2.2.A,m3.length,true,m3⟩ hro.2.1.at_ rfl ?_;exact qW (_,fs.eraseIdx i,some x) rfl (rv_cell hT (bBr .head) rfl rfl rfl rfl) (rv_tmp rfl) (.c1 (.c1 (.c1 (Sel.skip Sel.self)))) ⟨e9 ⟨⟨hro.1.inPool hro.2.1.at_ (f5 hx),i,hi1,hi2,hrel⟩,hro.2.2⟩,e8⟩ rfl
theorem give_spec(pb mb:Nat)(st:PSt)(pool fs:List SpotV)(s:PlC)(M:Nat)(h:gH st pool s fs M)(hM:M<=80000000)(x:SpotV)(hx:x∈pool)(hne:sz x≠[]):cE prog 97 [.pointer (some ⟨pb,0,none⟩),.agg #[.slice x.at_.addr x.at_.list.length x.at_.cap,.slice x.size.addr x.size.list.length x.size.cap,.int .i64 x.since]] (plH pb mb st) [bC.each pool lK] (λ(_:PSt)=> .tuple #[]) (λ(y:PSt)=>plH pb mb y) (λ(y:PSt)=>[bC.each ((⟨x.at_,x.size,st.since+1⟩:SpotV)::pool) lK,bC.pure (gH y ((⟨x.at_,x.size,st.since+1⟩:SpotV)::pool) {s with free:=s.free++[x.c]} (fs++[(⟨x.at_,x.size,st.since+1⟩:SpotV)]) (M+3)/\y.end_=st.end_)]):=by
 have hT:=fK;have hlow:=h.low;have hhigh:=h.high;refine j2 func97 ntmps97 ?_;intro β hM;refine fT ?_;have hst: ∀f∈fs,f.since<st.since+1:=λf hf=>by have:=h.top f hf;omega
 refine one ?_;refine j0 λb1=>?_;refine g9 ?_;refine bN (mF k7 k7) ?_;refine g15 ?_;refine dS _ _ [(true,0),(true,1),(true,2),(true,5),(true,6),(false,3),(true,4),(false,7)] dW l8 (.c0 .nil) bA.self ?_;refine g4 ?_;refine stM rfl (wY rfl underlying214 (λ_ e=>by cases e) rfl) ?_;refine one ?_;refine dZ (List.perm_append_comm (l₁:=[_])) ?_;refine bF func164 (bLf pb mb ({st with since:=st.since+1}:PSt) pool fs s (M+1) h.later k7 x.size) rfl rfl (Split.front _ _) ⟨spotsF_size d7 hx,d7,e8⟩ λy2=>?_;refine dZ List.perm_append_comm ?_;refine bJ d7 λhro=>?_;refine bLw (H:=[_]) hro.2.1.at_ ?_;refine one ?_;refine stM rfl (wY rfl underlying284 (λ_ e=>by cases e) rfl) ?_;refine one ?_;have hok:=hro.1.ok _ _ hro.2.1.at_;refine bF func168 (pushR y2.2.2 (⟨x.at_,x.size,st.since+1⟩:SpotV) hok (λq hq=>Int.le_of_lt (hst q (hro.1.mem hro.2.1.at_ hq))) (by have:=hro.1.rlen hro.2.1.at_;omega)) rfl rfl (.c0 (.c0 .nil)) e8 λy3=>?_;refine bJ d7 λhpu=>?_;refine g2 ?_;refine bFk (H:=[_]) ⟨y2.2.2.b,y3.1,y3.2,false,y2.2.2.l++[(⟨x.at_,x.size,st.since+1⟩:SpotV)]⟩ hro.2.1.at_ rfl ?_;have hrel:=rel_give (q:=⟨y2.2.2.b,y3.1,y3.2,false,y2.2.2.l++[(⟨x.at_,x.size,st.since+1⟩:SpotV)]⟩) (x:=(⟨x.at_,x.size,st.since+1⟩:SpotV)) (hro.1.wide (⟨x.at_,x.size,st.since+1⟩:SpotV)) ⟨hro.2.1.at_,hro.2.1.all,hro.2.1.rest⟩ hne rfl rfl hpu hro.2.2.2.symm hst (List.mem_cons_self ..);refine bK (bC.each ((⟨x.at_,x.size,st.since+1⟩:SpotV)::pool) lK) (Has.each_cons (Has.and (spotsF_at (x:=x) d9 hx) (spotsF_size (x:=x) d9 hx)) d9) ?_;exact cR _ rfl (.c1 (.c1 (.c1 (Sel.skip Sel.self)))) ⟨d7,e9 ⟨hrel.more k7,hro.2.2.1⟩,e8⟩ (rfl)
open Go.ChangeMaps (setBlock)
def bGx (k:Int):KV->KV
 |[]=>[]
 |p::r=>if k==p.1 then r else p::bGx k r
theorem md_mape{α β:Type}(f:α->β): ∀(l:List α) (i:Nat),(l.eraseIdx i).map f=(l.map f).eraseIdx i
 |[],_=>rfl
 |_::_,0=>rfl
 |x::l,i+1=>by simp[md_mape f l i]
theorem bLs{k:Int}: ∀{kv:KV} {i:Nat},pS k kv i=none->bGx k kv=kv
 |[],_,_=>rfl
 |p::r,i,h=>by
  unfold pS at h;unfold bGx;split at h
  .cases h
  .rename_i hk;rw[if_neg hk,bLs h]
theorem bIw{k:Int}{j:Nat}{u:Value}: ∀{kv:KV} {i:Nat},pS k kv i=some (j,u)-> ∃d,j=i+d/\bGx k kv=kv.eraseIdx d
 |[],_,h=>by cases h
 |p::r,i,h=>by
  unfold pS at h;split at h
  .rename_i hk;simp only[Option.some.injEq,Prod.mk.injEq]at h;exact⟨0,k7,by simp[bGx,hk]⟩
  .rename_i hk;obtain⟨d,h1,h2⟩:=bIw h;exact⟨d+1,k7,by rw[bGx,if_neg hk,h2];rfl⟩
section
variable {P : Program} {kk : IntKind} {k : Int} {w : World} {t kt et : TypeId}
theorem bNv(ht:P.underlying t=some (.map kt et))(hk:P.underlying kt=some (.int kk)){z:Value}(hz:(zeroValue et).run P w= .ok z w){r:Nat}{kv:KV}(h:MapO kk kv (w.heap[r]?)):
  (Instr.lookup t (.map (some r)) (.int kk k) true).run P w= .ok (.tuple #[(bJk k kv).getD z,.bool (bJk k kv).isSome]) w:=by
 obtain⟨es,clock,hb,hkv⟩:=h;unfold Instr.lookup;simp only[Sem.run_bind,run_underlying ht,Result.andThen_ok,MapKept.run_getObj_map hb,Sem.run_pure,mJ hk,oA hk hkv];rw[<-find_get k kv 0]
 cases pS k kv 0 with
 |none=>simp[hz]
 |some p=>simp
theorem run_deleteI(ht:P.underlying t=some (.map kt et))(hk:P.underlying kt=some (.int kk)){r:Nat}{kv:KV}{kt2 ty:TypeId}(h:MapO kk kv (w.heap[r]?)):
  ∃o,(Builtin.delete_ #[t,kt2] ty #[.map (some r),.int kk k]).run P w= .ok (.tuple #[]) (setBlock w r o)/\MapO kk (bGx k kv) ((setBlock w r o).heap[r]?):=by
 obtain⟨es,clock,hb,hkv⟩:=h
 cases hf:pS k kv 0 with
 |none=>
  refine⟨.map es clock,?_,⟨_,_,ChangeMaps.heap_setBlock_same hb _,?_⟩⟩
  .unfold Builtin.delete_;simp only[List.getElem?_toArray,List.getElem?_cons_zero,List.getElem?_cons_succ,Sem.run_bind,run_underlying ht,Result.andThen_ok,MapKept.run_getObj_map hb,mJ hk,oA hk hkv,hf];rw[MapKept.run_setObj_map _ hb];simp[setBlock]
  .rw[bLs hf];exact hkv
 |some p=>
  obtain⟨j,u⟩:=p;obtain⟨d,h1,h2⟩:=bIw hf;obtain rfl:j=d:=k7
  refine⟨.map (es.eraseIdxIfInBounds j) clock,?_,⟨_,_,ChangeMaps.heap_setBlock_same hb _,?_⟩⟩
  .unfold Builtin.delete_;simp only[List.getElem?_toArray,List.getElem?_cons_zero,List.getElem?_cons_succ,Sem.run_bind,run_underlying ht,Result.andThen_ok,MapKept.run_getObj_map hb,mJ hk,oA hk hkv,hf];rw[MapKept.run_setObj_map _ hb];simp[setBlock]
  .rw[h2];have e:(es.eraseIdxIfInBounds j).toList=es.toList.eraseIdx j:=by simp
   rw[e,md_mape,hkv];unfold kvI;rw[md_mape]
end
section
variable {P : Program} {β : dC} {n : Nat} {Γ : Env} {H : List bD} {F : List bC} {Q : Exit -> Act -> World -> Prop} {K : Act -> World -> Prop} {ops : Array Oper} {rest : List Oper} {o : Oper}
theorem kZ{r:Nat}{kk:IntKind}{kv:KV}{t kt et:TypeId}{m x:Operand}{k:Int}{z v:Value}(hkm:KnowsMap β H F r kk kv)(ho:o.op= .lookup t m x true)(ht:P.underlying t=some (.map kt et))(hk:P.underlying kt=some (.int kk))(hz: ∀w,(zeroValue et).run P w= .ok z w)
  (hm:Γ.ev m=some (.map (some r))) (hx:Γ.ev x=some (.int kk k)) (hv:(.tuple #[(bJk k kv).getD z,.bool (bJk k kv).isSome]:Value)=v):Sti P β n Γ H F o v:=λa w S f s hF=>by
 have:=bNv (k:=k) ht hk (hz w) (hkm w S s hF);unfold execOp;simp only[ho,f.ev hm,f.ev hx];rw[Sem.run_bind,this,hv];rfl
theorem bQx{r:Nat}{kk:IntKind}{kv:KV}{H':List bD}(hH:bW H (bIy r kk kv) H'){t kt et kt2:TypeId}{m x:Operand}{k:Int}(hw:want ops Γ o=some true)(ho:o.op= .call {callee:= .builtin .delete,args:= #[m,x],argTypes:= #[t,kt2]})(hd:o.dst=none)(ht:P.underlying t=some (.map kt et))(hk:P.underlying kt=some (.int kk))
  (hm:Γ.ev m=some (.map (some r))) (hx:Γ.ev x=some (.int kk k)) (K':At β n Γ (bIy r kk (bGx k kv)::H') F (wpList P ops Q rest)):At β n Γ H F (wpList P ops Q (o::rest)):=
 fY hw λa w S f s hF=>by
  have hok:MapO kk kv (w.heap[r]?):=s.ok _ hH.mem;obtain⟨ob,hr0,hm0⟩:=run_deleteI (k:=k) (kt2:=kt2) (ty:=o.type) ht hk hok
  have hr:(execOp a.eval o).run P w= .ok (.value (.tuple #[])) (setBlock w r ob):=by
   unfold execOp;simp only[ho,resolve,invoke,builtin,Sem.run_bind,Sem.run_pure,Result.andThen_ok,List.map_toArray,List.map_cons,List.map_nil,f.ev hm,f.ev hx,hr0]
  unfold Oper.wp;rw[hr,Oper.upon_value,hd];have s2:=s.perm hH.perm;exact K' _ _ S (f.put_none _) (s2.swap iK rfl rfl hm0) (All.mono (λ_ h=>h) (s.agree iK (λc hc e=>by subst e;exact(s2.own _ (List.mem_cons_self ..) _ rfl).2.2 hc)) hF)
end
end
end Go.Proofs.YtnfiadlonjediaaGreatDoor
