/- Texts of one proof, one behind the other: CoY, CoZ, LawR, LowerRightW. -/
import Derived.Test.YtakphiannlpnfaaGreatDoorM2
import Derived.Test.YtakphiannlpnfaaGreatDoorM18
import Derived.Test.YtakphiannlpnfaaGreatDoorM17
namespace Go.Proofs.YtakphiannlpnfaaGreatDoor
open Go.RowKit Go.Proofs.Tryz
set_option maxRecDepth 100000
theorem jU{β:dF}{H:List bH}{F:List Fact}{b off:Nat}{cs:List Value}(h:Has F (Fact.cells b 0 cs)):qA β H F b off (cs.drop off):=fun w S _ k j u hj=>by
 rw [List.getElem?_drop] at hj;have:=(h S w k).2 (off+j) u hj
 rwa [Nat.zero_add] at this
def opV (vars loops buf:Int)(made:List Bool)(o:OpV):Bool:=
 if o.how=1 then (o.k==0)&&(((o.p.list.length:Int)==0)&&(o.fn==0))
 else if o.how=2 then ofB o.p.list vars&&((o.n==0)&&((o.k==0)&&(o.fn==0)))
 else if o.how=3 then decide (0≤o.k)&&(decide (o.k<loops)&&((o.n==0)&&(((o.p.list.length:Int)==0)&&(o.fn==0))))
 else if o.how=4 then decide (0≤o.k)&&(decide (o.k<(made.length:Int))&&((made[o.k.toNat]?).getD false&&((o.k !=buf)&&((o.n==0)&&(((o.p.list.length:Int)==0)&&(o.fn==0))))))
 else if o.how=5∨o.how=6 then gZ o.fn (o.how==6)&&((o.n==0)&&((o.k==0)&&((o.p.list.length:Int)==0)))
 else false
theorem zV{vars loops buf:Int}{made:List Bool}{o:OpV}:opV vars loops buf made o=opB vars loops buf made o.c:=by
 have hp:o.c.p.isEmpty=((o.p.list.length:Int)==0):=by
  show o.p.list.isEmpty=_;rw [Bool.eq_iff_iff,List.isEmpty_iff,beq_iff_eq,Int.natCast_eq_zero,List.length_eq_zero_iff]
 unfold opV opB;rw [hp];show(if o.how=1 then _ else if o.how=2 then _ else if o.how=3 then _ else if o.how=4 then _ else if _ then _ else _)=(if o.how=1 then _ else if o.how=2 then _ else if o.how=3 then _ else if o.how=4 then _ else if _ then _ else _);split
 ·rfl
 ·split
  ·rfl
  ·split
   ·rw [Bool.eq_iff_iff];simp only [Bool.and_eq_true,decide_eq_true_eq];exact and_assoc.symm
   ·split
    ·rw [Bool.eq_iff_iff];simp only [Bool.and_eq_true,decide_eq_true_eq,List.getD_eq_getElem?_getD,bne_iff_ne];show 0≤o.k∧o.k<made.length∧(made[o.k.toNat]?).getD false=true∧o.k≠buf∧_↔(0≤o.k∧o.k≠buf)∧(made[o.k.toNat]?).getD false=true∧_;constructor
     ·rintro⟨a,_,c,d,e⟩;exact⟨⟨a,d⟩,c,e⟩
     ·rintro⟨⟨a,d⟩,c,e⟩;refine⟨a,?_,c,d,e⟩
      rcases Int.lt_or_le o.k made.length with h | h
      ·exact h
      ·rw [List.getElem?_eq_none n7] at c;cases c
    ·rfl
section
variable {vars loops buf : Int} {made : List Bool} {o : OpV}
theorem kG(h:o.how=1):opB vars loops buf made o.c=((o.k==0)&&(((o.p.list.length:Int)==0)&&(o.fn==0))):=by
 rw [←zV];unfold opV;rw [if_pos h]
theorem kK(h:o.how=2):opB vars loops buf made o.c=(ofB o.p.list vars&&((o.n==0)&&((o.k==0)&&(o.fn==0)))):=by
 rw [←zV];unfold opV;rw [if_neg n7,if_pos h]
theorem kD(h:o.how=3):opB vars loops buf made o.c=(decide (0≤o.k)&&(decide (o.k<loops)&&((o.n==0)&&(((o.p.list.length:Int)==0)&&(o.fn==0))))):=by
 rw [←zV];unfold opV;rw [if_neg n7,if_neg n7,if_pos h]
theorem kH{x:Bool}(h:o.how=4)(hx:made[o.k.toNat]?=some x):opB vars loops buf made o.c=(decide (0≤o.k)&&(decide (o.k<(made.length:Int))&&(x&&((o.k !=buf)&&((o.n==0)&&(((o.p.list.length:Int)==0)&&(o.fn==0))))))):=by
 rw [←zV];unfold opV;rw [if_neg n7,if_neg n7,if_neg n7,if_pos h,hx];rfl
theorem iD(h:o.how=4)(hx: ¬(0≤o.k∧o.k<made.length)):opB vars loops buf made o.c=false:=by
 rw [←zV];unfold opV;rw [if_neg n7,if_neg n7,if_neg n7,if_pos h]
 by_cases h0:0≤o.k
 ·rw [decide_eq_false (show ¬o.k<(made.length:Int) from fun e=>hx ⟨h0,e⟩)];simp
 ·rw [decide_eq_false h0];rfl
theorem kL(h:o.how=5):opB vars loops buf made o.c=(gZ o.fn false&&((o.n==0)&&((o.k==0)&&((o.p.list.length:Int)==0)))):=by
 rw [←zV];unfold opV;rw [if_neg n7,if_neg n7,if_neg n7,if_neg n7,if_pos (.inl h),h];rfl
theorem kJ(h:o.how=6):opB vars loops buf made o.c=(gZ o.fn true&&((o.n==0)&&((o.k==0)&&((o.p.list.length:Int)==0)))):=by
 rw [←zV];unfold opV;rw [if_neg n7,if_neg n7,if_neg n7,if_neg n7,if_pos (.inr h),h];rfl
theorem kF(h1:o.how≠1)(h2:o.how≠2)(h3:o.how≠3)(h4:o.how≠4)(h5:o.how≠5)(h6:o.how≠6):opB vars loops buf made o.c=false:=by
 rw [←zV];unfold opV;rw [if_neg h1,if_neg h2,if_neg h3,if_neg h4,if_neg (fun h=>h.elim h5 h6)]
end
def bIq {α:Type}(p:α→Bool):List α→Int→Int
 | [],_=> -1
 | s::r,i=>if p s=true then i else bIq p r (i+1)
section
variable {α : Type} {p : α → Bool} {x : α} {l : List α} {i : Nat} {r : Int}
theorem bCs(h:r=bIq p (l.drop i) i)(hx:l[i]?=some x):(p x=true→r=i)∧(p x=false→r=bIq p (l.drop (i+1)) ((i+1:Nat):Int)):=by
 rw [tV hx,bIq] at h;refine⟨fun e=>by rw [if_pos e] at h;exact h,fun e=>by rw [if_neg (by rw [e];simp)] at h;rw [h];rfl⟩
theorem idxG_end(h:r=bIq p (l.drop i) i)(hi:l.length≤i):r= -1:=by
 rw [List.drop_of_length_le hi] at h;exact h
end
theorem bPm{α:Type}(p:α→Bool): ∀(l:List α) (i:Int),0≤i→decide (0≤bIq p l i)=l.any p
 | [],i,_=>rfl
 | s::r,i,h=>by
  rw [bIq,List.any_cons]
  cases e:p s with
  | true=>simp [h]
  | false=>
   rw [if_neg o6,bPm p r (i+1) n7];simp
def tB (vars:Int)(made:List Bool)(x:StepV):Bool:=
 ofB x.at_.list vars&&(fS x.at_.list&&(lB (bJ x.loops.list) vars&&(!decide ((256:Int)<x.ops.list.length)&&(!decide (bAg (dW x.ops.list)<0)&&
  ((if x.how=1 then x.fn==0 else if x.how=2∨x.how=3 then !((x.loops.list.length:Int)==0)&&gZ x.fn true else false)&& !(x.ops.list.any fun o=>!opB vars x.loops.list.length x.buf made o.c))))))
theorem any_not{α:Type}(p:α→Bool)(l:List α):(!l.any fun o=>!p o)=l.all p:=by
 induction l with
 | nil=>rfl
 | cons x r ih=>rw [List.any_cons,List.all_cons,Bool.not_or,Bool.not_not,ih]
theorem kY{vars:Int}{made:List Bool}{x:StepV}:tB vars made x=uP vars made x.c:=by
 have h1:x.c.ops.length=x.ops.list.length:=fU _;have h2:x.c.loops.length=x.loops.list.length:=bF _
 have h3:x.c.loops.isEmpty=((x.loops.list.length:Int)==0):=by
  show(bJ x.loops.list).isEmpty=_;rw [Bool.eq_iff_iff,List.isEmpty_iff,beq_iff_eq,Int.natCast_eq_zero,←List.length_eq_zero_iff,bF]
 have h4: ∀p:OpC→Bool,x.c.ops.all p= !(x.ops.list.any fun o=>!p o.c):=fun p=>by
  show(dW x.ops.list).all p=_;unfold dW;rw [List.all_map,any_not];rfl
 unfold tB uP;rw [h1,h2,h3,h4]
 have h5:(!decide ((256:Int)<x.ops.list.length))=decide (x.ops.list.length≤256):=by
  rw [←decide_not,decide_eq_decide];omega
 have h6:(!decide (bAg (dW x.ops.list)<0))=decide (0≤bAg (dW x.ops.list)):=by
  rw [←decide_not,decide_eq_decide];omega
 rw [h5,h6,Bool.and_assoc];rfl
theorem right_spec(bs:Nat)(vars loops buf:Int)(MA:Option Addr)(mc:Nat)(made:List Bool)(o:OpV):cM prog 71 [.pointer (some ⟨bs,0,none⟩),.agg #[.int .i64 o.how,.int .i64 o.k,.int .i64 o.n,.slice o.p.addr o.p.list.length o.p.cap,.int .u8 o.fn]] [] [opF o,Fact.cells bs 0 [.int .i64 vars,.int .i64 loops,.int .i64 buf,.slice MA made.length mc],nW.sl (.slice MA made.length mc) made] (fun(_:Unit)=> .bool (opB vars loops buf made o.c)) (fun _=>[]) (fun _=>[]):=by
 have hT:=kZ;refine k6 func71 ntmps71 ?_;intro β hM;refine g2 ?_;refine j9 fun b1=>?_;refine g4 ?_;refine bU _ _ [(true,0),(true,1),(true,2),(true,3),(true,4),(true,5),(true,6),(true,7),(true,8),(true,9),(true,10),(true,11)] bV o5 (.c0 .nil) bA.self ?_;refine g33 ?_;refine dP rfl (fun hc20=>?_) (fun hc20=>?_)
 ·have hc20_r:=hc20;have hc20:=eq_of_beq hc20;refine g12 ?_;refine bM (t':=true) o9 ?_;refine g6 ?_;refine cI (fun hg97=>?_) (fun hg97=>?_)
  ·have hg97:=eq_of_beq hg97;refine g5 ?_;refine cI (fun hg102=>?_) (fun hg102=>?_)
   ·have hg102:=eq_of_beq hg102;refine g7 ?_;exact rs1 () j0 (he:=by first | (rw [kG ‹_›];simp [*];done) | (rw [kK ‹_›];simp [*];done) | (rw [kD ‹_›];simp [*];done) | (rw [kH ‹_› ‹_›];simp [*];done) | (rw [iD ‹_› n7];done) | (rw [kL ‹_›];simp [*];done) | (rw [kJ ‹_›];simp [*];done) | rw [kF ‹_› ‹_› ‹_› ‹_› ‹_› ‹_›])
   have hg102:=beq_eq_false_iff_ne.1 hg102;refine g7 ?_;exact rs1 () j0 (he:=by first | (rw [kG ‹_›];simp [*];done) | (rw [kK ‹_›];simp [*];done) | (rw [kD ‹_›];simp [*];done) | (rw [kH ‹_› ‹_›];simp [*];done) | (rw [iD ‹_› n7];done) | (rw [kL ‹_›];simp [*];done) | (rw [kJ ‹_›];simp [*];done) | rw [kF ‹_› ‹_› ‹_› ‹_› ‹_› ‹_›])
  have hg97:=beq_eq_false_iff_ne.1 hg97;refine g12 ?_;exact rs1 () j0 (he:=by first | (rw [kG ‹_›];simp [*];done) | (rw [kK ‹_›];simp [*];done) | (rw [kD ‹_›];simp [*];done) | (rw [kH ‹_› ‹_›];simp [*];done) | (rw [iD ‹_› n7];done) | (rw [kL ‹_›];simp [*];done) | (rw [kJ ‹_›];simp [*];done) | rw [kF ‹_› ‹_› ‹_› ‹_› ‹_› ‹_›])
 have hc20_r:=hc20;have hc20:=beq_eq_false_iff_ne.1 hc20;refine g6 ?_;refine dP rfl (fun hc22=>?_) (fun hc22=>?_)
 ·have hc22_r:=hc22;have hc22:=eq_of_beq hc22;refine bU _ _ [(true,0),(true,1),(true,2),(true,3),(true,4),(true,5),(false,6),(true,7),(true,8)] bV o5 (.c0 .nil) bA.self ?_;refine g5 ?_;refine stM rfl (j7 hT (jU (off:=0) d8)) ?_;refine one ?_;refine j5 func65 (of_spec o.p vars) ⟨d7,j0⟩ fun _=>?_;refine g10 ?_;refine cI (fun hg89=>?_) (fun hg89=>?_)
  ·refine g4 ?_;refine cI (fun hg93=>?_) (fun hg93=>?_)
   ·have hg93:=eq_of_beq hg93;refine g4 ?_;refine cI (fun hg97=>?_) (fun hg97=>?_)
    ·have hg97:=eq_of_beq hg97;refine g3 ?_;refine bM (t':=true) o9 ?_;refine g9 ?_;exact rs1 () j0 (he:=by first | (rw [kG ‹_›];simp [*];done) | (rw [kK ‹_›];simp [*];done) | (rw [kD ‹_›];simp [*];done) | (rw [kH ‹_› ‹_›];simp [*];done) | (rw [iD ‹_› n7];done) | (rw [kL ‹_›];simp [*];done) | (rw [kJ ‹_›];simp [*];done) | rw [kF ‹_› ‹_› ‹_› ‹_› ‹_› ‹_›])
    have hg97:=beq_eq_false_iff_ne.1 hg97;refine g12 ?_;exact rs1 () j0 (he:=by first | (rw [kG ‹_›];simp [*];done) | (rw [kK ‹_›];simp [*];done) | (rw [kD ‹_›];simp [*];done) | (rw [kH ‹_› ‹_›];simp [*];done) | (rw [iD ‹_› n7];done) | (rw [kL ‹_›];simp [*];done) | (rw [kJ ‹_›];simp [*];done) | rw [kF ‹_› ‹_› ‹_› ‹_› ‹_› ‹_›])
   have hg93:=beq_eq_false_iff_ne.1 hg93;refine g16 ?_;exact rs1 () j0 (he:=by first | (rw [kG ‹_›];simp [*];done) | (rw [kK ‹_›];simp [*];done) | (rw [kD ‹_›];simp [*];done) | (rw [kH ‹_› ‹_›];simp [*];done) | (rw [iD ‹_› n7];done) | (rw [kL ‹_›];simp [*];done) | (rw [kJ ‹_›];simp [*];done) | rw [kF ‹_› ‹_› ‹_› ‹_› ‹_› ‹_›])
  refine g20 ?_;exact rs1 () j0 (he:=by first | (rw [kG ‹_›];simp [*];done) | (rw [kK ‹_›];simp [*];done) | (rw [kD ‹_›];simp [*];done) | (rw [kH ‹_› ‹_›];simp [*];done) | (rw [iD ‹_› n7];done) | (rw [kL ‹_›];simp [*];done) | (rw [kJ ‹_›];simp [*];done) | rw [kF ‹_› ‹_› ‹_› ‹_› ‹_› ‹_›])
 have hc22_r:=hc22;have hc22:=beq_eq_false_iff_ne.1 hc22;refine g6 ?_;refine dP rfl (fun hc31=>?_) (fun hc31=>?_)
 ·have hc31_r:=hc31;have hc31:=eq_of_beq hc31;refine bU _ _ [(true,0),(true,1),(true,2),(true,3),(true,4),(true,5),(true,6),(true,7),(true,8),(true,9),(true,10),(true,11),(true,12),(true,13)] bV o5 (.c0 .nil) bA.self ?_;refine g4 ?_;refine cI (fun hg36=>?_) (fun hg36=>?_)
  ·have hg36:=of_decide_eq_true hg36;refine g5 ?_;refine stM rfl (j7 hT (jU (off:=1) d8)) ?_;refine g11 ?_;refine cI (fun hg89=>?_) (fun hg89=>?_)
   ·have hg89:=of_decide_eq_true hg89;refine g4 ?_;refine cI (fun hg93=>?_) (fun hg93=>?_)
    ·have hg93:=eq_of_beq hg93;refine g2 ?_;refine bM (t':=true) o9 ?_;refine g7 ?_;refine cI (fun hg102=>?_) (fun hg102=>?_)
     ·have hg102:=eq_of_beq hg102;refine g7 ?_;exact rs1 () j0 (he:=by first | (rw [kG ‹_›];simp [*];done) | (rw [kK ‹_›];simp [*];done) | (rw [kD ‹_›];simp [*];done) | (rw [kH ‹_› ‹_›];simp [*];done) | (rw [iD ‹_› n7];done) | (rw [kL ‹_›];simp [*];done) | (rw [kJ ‹_›];simp [*];done) | rw [kF ‹_› ‹_› ‹_› ‹_› ‹_› ‹_›])
     have hg102:=beq_eq_false_iff_ne.1 hg102;refine g7 ?_;exact rs1 () j0 (he:=by first | (rw [kG ‹_›];simp [*];done) | (rw [kK ‹_›];simp [*];done) | (rw [kD ‹_›];simp [*];done) | (rw [kH ‹_› ‹_›];simp [*];done) | (rw [iD ‹_› n7];done) | (rw [kL ‹_›];simp [*];done) | (rw [kJ ‹_›];simp [*];done) | rw [kF ‹_› ‹_› ‹_› ‹_› ‹_› ‹_›])
    have hg93:=beq_eq_false_iff_ne.1 hg93;refine g16 ?_;exact rs1 () j0 (he:=by first | (rw [kG ‹_›];simp [*];done) | (rw [kK ‹_›];simp [*];done) | (rw [kD ‹_›];simp [*];done) | (rw [kH ‹_› ‹_›];simp [*];done) | (rw [iD ‹_› n7];done) | (rw [kL ‹_›];simp [*];done) | (rw [kJ ‹_›];simp [*];done) | rw [kF ‹_› ‹_› ‹_› ‹_› ‹_› ‹_›])
   have hg89:=Int.not_lt.1 (of_decide_eq_false hg89);refine g20 ?_;exact rs1 () j0 (he:=by first | (rw [kG ‹_›];simp [*];done) | (rw [kK ‹_›];simp [*];done) | (rw [kD ‹_›];simp [*];done) | (rw [kH ‹_› ‹_›];simp [*];done) | (rw [iD ‹_› n7];done) | (rw [kL ‹_›];simp [*];done) | (rw [kJ ‹_›];simp [*];done) | rw [kF ‹_› ‹_› ‹_› ‹_› ‹_› ‹_›])
  have hg36:=Int.not_le.1 (of_decide_eq_false hg36);refine g37 ?_;exact rs1 () j0 (he:=by first | (rw [kG ‹_›];simp [*];done) | (rw [kK ‹_›];simp [*];done) | (rw [kD ‹_›];simp [*];done) | (rw [kH ‹_› ‹_›];simp [*];done) | (rw [iD ‹_› n7];done) | (rw [kL ‹_›];simp [*];done) | (rw [kJ ‹_›];simp [*];done) | rw [kF ‹_› ‹_› ‹_› ‹_› ‹_› ‹_›])
 have hc31_r:=hc31;have hc31:=beq_eq_false_iff_ne.1 hc31;refine g6 ?_;refine dP rfl (fun hc45=>?_) (fun hc45=>?_)
 ·have hc45_r:=hc45;have hc45:=eq_of_beq hc45;refine bU _ _ [(true,0),(true,1),(true,2),(true,3),(true,4),(true,5),(true,6),(true,7),(true,8),(true,9),(true,10),(true,11),(true,12),(true,13),(true,14),(true,15),(true,16),(true,17),(true,18),(true,19),(true,20),(true,21),(true,22),(true,23),(true,24),(true,25),(true,26),(true,27),(true,28),(true,29),(true,30),(true,31),(true,32),(true,33)] bV o5 (.c0 .nil) bA.self ?_;refine g4 ?_;refine cI (fun hg50=>?_) (fun hg50=>?_)
  ·have hg50:=of_decide_eq_true hg50;refine g5 ?_;refine stM rfl (j7 hT (jU (off:=3) d8)) ?_;refine g4 ?_;refine cI (fun hg60=>?_) (fun hg60=>?_)
   ·have hg60:=of_decide_eq_true hg60;refine g3 ?_;refine stM rfl (j7 hT (jU (off:=3) d8)) ?_;refine g2 ?_;obtain⟨x3,hx4⟩:=gx made o.k.toNat;refine stM rfl (cF hT (k:=o.k.toNat) (cE d9) rfl rfl rfl rfl rfl rfl n7 n7) ?_;refine stM rfl (fL hx4 0) ?_;refine g2 ?_;refine cI (fun hg70=>?_) (fun hg70=>?_)
    ·refine g5 ?_;refine stM rfl (j7 hT (jU (off:=2) d8)) ?_;refine g11 ?_;refine cI (fun hg89=>?_) (fun hg89=>?_)
     ·have hg89:=bne_iff_ne.1 hg89;refine g4 ?_;refine cI (fun hg93=>?_) (fun hg93=>?_)
      ·have hg93:=eq_of_beq hg93;refine g2 ?_;refine bM (t':=true) o9 ?_;refine g7 ?_;refine cI (fun hg102=>?_) (fun hg102=>?_)
       ·have hg102:=eq_of_beq hg102;refine g7 ?_;exact rs1 () j0 (he:=by first | (rw [kG ‹_›];simp [*];done) | (rw [kK ‹_›];simp [*];done) | (rw [kD ‹_›];simp [*];done) | (rw [kH ‹_› ‹_›];simp [*];done) | (rw [iD ‹_› n7];done) | (rw [kL ‹_›];simp [*];done) | (rw [kJ ‹_›];simp [*];done) | rw [kF ‹_› ‹_› ‹_› ‹_› ‹_› ‹_›])
       have hg102:=beq_eq_false_iff_ne.1 hg102;refine g7 ?_;exact rs1 () j0 (he:=by first | (rw [kG ‹_›];simp [*];done) | (rw [kK ‹_›];simp [*];done) | (rw [kD ‹_›];simp [*];done) | (rw [kH ‹_› ‹_›];simp [*];done) | (rw [iD ‹_› n7];done) | (rw [kL ‹_›];simp [*];done) | (rw [kJ ‹_›];simp [*];done) | rw [kF ‹_› ‹_› ‹_› ‹_› ‹_› ‹_›])
      have hg93:=beq_eq_false_iff_ne.1 hg93;refine g16 ?_;exact rs1 () j0 (he:=by first | (rw [kG ‹_›];simp [*];done) | (rw [kK ‹_›];simp [*];done) | (rw [kD ‹_›];simp [*];done) | (rw [kH ‹_› ‹_›];simp [*];done) | (rw [iD ‹_› n7];done) | (rw [kL ‹_›];simp [*];done) | (rw [kJ ‹_›];simp [*];done) | rw [kF ‹_› ‹_› ‹_› ‹_› ‹_› ‹_›])
     have hg89:=bne_eq_false_iff_eq.1 hg89;refine g20 ?_;exact rs1 () j0 (he:=by first | (rw [kG ‹_›];simp [*];done) | (rw [kK ‹_›];simp [*];done) | (rw [kD ‹_›];simp [*];done) | (rw [kH ‹_› ‹_›];simp [*];done) | (rw [iD ‹_› n7];done) | (rw [kL ‹_›];simp [*];done) | (rw [kJ ‹_›];simp [*];done) | rw [kF ‹_› ‹_› ‹_› ‹_› ‹_› ‹_›])
    refine g37 ?_;exact rs1 () j0 (he:=by first | (rw [kG ‹_›];simp [*];done) | (rw [kK ‹_›];simp [*];done) | (rw [kD ‹_›];simp [*];done) | (rw [kH ‹_› ‹_›];simp [*];done) | (rw [iD ‹_› n7];done) | (rw [kL ‹_›];simp [*];done) | (rw [kJ ‹_›];simp [*];done) | rw [kF ‹_› ‹_› ‹_› ‹_› ‹_› ‹_›])
   have hg60:=Int.not_lt.1 (of_decide_eq_false hg60);refine g40 ?_;refine g7 ?_;exact rs1 () j0 (he:=by first | (rw [kG ‹_›];simp [*];done) | (rw [kK ‹_›];simp [*];done) | (rw [kD ‹_›];simp [*];done) | (rw [kH ‹_› ‹_›];simp [*];done) | (rw [iD ‹_› n7];done) | (rw [kL ‹_›];simp [*];done) | (rw [kJ ‹_›];simp [*];done) | rw [kF ‹_› ‹_› ‹_› ‹_› ‹_› ‹_›])
  have hg50:=Int.not_le.1 (of_decide_eq_false hg50);refine g40 ?_;refine g17 ?_;exact rs1 () j0 (he:=by first | (rw [kG ‹_›];simp [*];done) | (rw [kK ‹_›];simp [*];done) | (rw [kD ‹_›];simp [*];done) | (rw [kH ‹_› ‹_›];simp [*];done) | (rw [iD ‹_› n7];done) | (rw [kL ‹_›];simp [*];done) | (rw [kJ ‹_›];simp [*];done) | rw [kF ‹_› ‹_› ‹_› ‹_› ‹_› ‹_›])
 have hc45_r:=hc45;have hc45:=beq_eq_false_iff_ne.1 hc45;refine g7 ?_;refine dP rfl (fun hc79=>?_) (fun hc79=>?_)
 ·have hc79_r:=hc79;have hc79:=eq_of_beq hc79;refine g2 ?_;refine pK rfl hc79_r ?_;refine g6 ?_;refine bM (t':=false) (by rw [hc79];rfl) ?_;refine bD func68 (vI _ _) rfl rfl .nil j0 fun _=>?_;refine g9 ?_;refine cI (fun hg89=>?_) (fun hg89=>?_)
  ·refine g4 ?_;refine cI (fun hg93=>?_) (fun hg93=>?_)
   ·have hg93:=eq_of_beq hg93;refine g4 ?_;refine cI (fun hg97=>?_) (fun hg97=>?_)
    ·have hg97:=eq_of_beq hg97;refine g5 ?_;refine cI (fun hg102=>?_) (fun hg102=>?_)
     ·have hg102:=eq_of_beq hg102;refine g2 ?_;refine bM (t':=true) o9 ?_;refine g5 ?_;exact rs1 () j0 (he:=by first | (rw [kG ‹_›];simp [*];done) | (rw [kK ‹_›];simp [*];done) | (rw [kD ‹_›];simp [*];done) | (rw [kH ‹_› ‹_›];simp [*];done) | (rw [iD ‹_› n7];done) | (rw [kL ‹_›];simp [*];done) | (rw [kJ ‹_›];simp [*];done) | rw [kF ‹_› ‹_› ‹_› ‹_› ‹_› ‹_›])
     have hg102:=beq_eq_false_iff_ne.1 hg102;refine g7 ?_;exact rs1 () j0 (he:=by first | (rw [kG ‹_›];simp [*];done) | (rw [kK ‹_›];simp [*];done) | (rw [kD ‹_›];simp [*];done) | (rw [kH ‹_› ‹_›];simp [*];done) | (rw [iD ‹_› n7];done) | (rw [kL ‹_›];simp [*];done) | (rw [kJ ‹_›];simp [*];done) | rw [kF ‹_› ‹_› ‹_› ‹_› ‹_› ‹_›])
    have hg97:=beq_eq_false_iff_ne.1 hg97;refine g12 ?_;exact rs1 () j0 (he:=by first | (rw [kG ‹_›];simp [*];done) | (rw [kK ‹_›];simp [*];done) | (rw [kD ‹_›];simp [*];done) | (rw [kH ‹_› ‹_›];simp [*];done) | (rw [iD ‹_› n7];done) | (rw [kL ‹_›];simp [*];done) | (rw [kJ ‹_›];simp [*];done) | rw [kF ‹_› ‹_› ‹_› ‹_› ‹_› ‹_›])
   have hg93:=beq_eq_false_iff_ne.1 hg93;refine g16 ?_;exact rs1 () j0 (he:=by first | (rw [kG ‹_›];simp [*];done) | (rw [kK ‹_›];simp [*];done) | (rw [kD ‹_›];simp [*];done) | (rw [kH ‹_› ‹_›];simp [*];done) | (rw [iD ‹_› n7];done) | (rw [kL ‹_›];simp [*];done) | (rw [kJ ‹_›];simp [*];done) | rw [kF ‹_› ‹_› ‹_› ‹_› ‹_› ‹_›])
  refine g20 ?_;exact rs1 () j0 (he:=by first | (rw [kG ‹_›];simp [*];done) | (rw [kK ‹_›];simp [*];done) | (rw [kD ‹_›];simp [*];done) | (rw [kH ‹_› ‹_›];simp [*];done) | (rw [iD ‹_› n7];done) | (rw [kL ‹_›];simp [*];done) | (rw [kJ ‹_›];simp [*];done) | rw [kF ‹_› ‹_› ‹_› ‹_› ‹_› ‹_›])
 have hc79_r:=hc79;have hc79:=beq_eq_false_iff_ne.1 hc79;refine g5 ?_;refine dP rfl (fun hc79_5=>?_) (fun hc79_5=>?_)
 ·have hc79_5_r:=hc79_5;have hc79_5:=eq_of_beq hc79_5;refine g6 ?_;refine bM (t':=true) (by rw [hc79_5];rfl) ?_;refine bD func68 (vI _ _) rfl rfl .nil j0 fun _=>?_;refine g9 ?_;refine cI (fun hg89=>?_) (fun hg89=>?_)
  ·refine g4 ?_;refine cI (fun hg93=>?_) (fun hg93=>?_)
   ·have hg93:=eq_of_beq hg93;refine g4 ?_;refine cI (fun hg97=>?_) (fun hg97=>?_)
    ·have hg97:=eq_of_beq hg97;refine g5 ?_;refine cI (fun hg102=>?_) (fun hg102=>?_)
     ·have hg102:=eq_of_beq hg102;refine g2 ?_;refine bM (t':=true) o9 ?_;refine g5 ?_;exact rs1 () j0 (he:=by first | (rw [kG ‹_›];simp [*];done) | (rw [kK ‹_›];simp [*];done) | (rw [kD ‹_›];simp [*];done) | (rw [kH ‹_› ‹_›];simp [*];done) | (rw [iD ‹_› n7];done) | (rw [kL ‹_›];simp [*];done) | (rw [kJ ‹_›];simp [*];done) | rw [kF ‹_› ‹_› ‹_› ‹_› ‹_› ‹_›])
     have hg102:=beq_eq_false_iff_ne.1 hg102;refine g7 ?_;exact rs1 () j0 (he:=by first | (rw [kG ‹_›];simp [*];done) | (rw [kK ‹_›];simp [*];done) | (rw [kD ‹_›];simp [*];done) | (rw [kH ‹_› ‹_›];simp [*];done) | (rw [iD ‹_› n7];done) | (rw [kL ‹_›];simp [*];done) | (rw [kJ ‹_›];simp [*];done) | rw [kF ‹_› ‹_› ‹_› ‹_› ‹_› ‹_›])
    have hg97:=beq_eq_false_iff_ne.1 hg97;refine g12 ?_;exact rs1 () j0 (he:=by first | (rw [kG ‹_›];simp [*];done) | (rw [kK ‹_›];simp [*];done) | (rw [kD ‹_›];simp [*];done) | (rw [kH ‹_› ‹_›];simp [*];done) | (rw [iD ‹_› n7];done) | (rw [kL ‹_›];simp [*];done) | (rw [kJ ‹_›];simp [*];done) | rw [kF ‹_› ‹_› ‹_› ‹_› ‹_› ‹_›])
   have hg93:=beq_eq_false_iff_ne.1 hg93;refine g16 ?_;exact rs1 () j0 (he:=by first | (rw [kG ‹_›];simp [*];done) | (rw [kK ‹_›];simp [*];done) | (rw [kD ‹_›];simp [*];done) | (rw [kH ‹_› ‹_›];simp [*];done) | (rw [iD ‹_› n7];done) | (rw [kL ‹_›];simp [*];done) | (rw [kJ ‹_›];simp [*];done) | rw [kF ‹_› ‹_› ‹_› ‹_› ‹_› ‹_›])
  refine g20 ?_;exact rs1 () j0 (he:=by first | (rw [kG ‹_›];simp [*];done) | (rw [kK ‹_›];simp [*];done) | (rw [kD ‹_›];simp [*];done) | (rw [kH ‹_› ‹_›];simp [*];done) | (rw [iD ‹_› n7];done) | (rw [kL ‹_›];simp [*];done) | (rw [kJ ‹_›];simp [*];done) | rw [kF ‹_› ‹_› ‹_› ‹_› ‹_› ‹_›])
 have hc79_5_r:=hc79_5;have hc79_5:=beq_eq_false_iff_ne.1 hc79_5;refine g27 ?_;exact rs1 () j0 (he:=by first | (rw [kG ‹_›];simp [*];done) | (rw [kK ‹_›];simp [*];done) | (rw [kD ‹_›];simp [*];done) | (rw [kH ‹_› ‹_›];simp [*];done) | (rw [iD ‹_› n7];done) | (rw [kL ‹_›];simp [*];done) | (rw [kJ ‹_›];simp [*];done) | rw [kF ‹_› ‹_› ‹_› ‹_› ‹_› ‹_›])
theorem bEz(bp:Nat)(bs:Nat)(vars loops buf:Int)(MA:Option Addr)(mc:Nat)(made:List Bool)(o:OpV):cM prog 70 [.agg #[.int .i64 o.how,.int .i64 o.k,.int .i64 o.n,.slice o.p.addr o.p.list.length o.p.cap,.int .u8 o.fn],.pointer (some ⟨bp,0,none⟩)] [] [opF o,Fact.cells bp 0 [.pointer (some ⟨bs,0,none⟩)],Fact.cells bs 0 [.int .i64 vars,.int .i64 loops,.int .i64 buf,.slice MA made.length mc],nW.sl (.slice MA made.length mc) made] (fun(_:Unit)=> .bool (!opB vars loops buf made o.c)) (fun _=>[]) (fun _=>[]):=by
 have hT:=kZ;refine k6 func70 ntmps70 ?_;intro β hM;refine g2 ?_;refine j9 fun b1=>?_;refine g5 ?_;refine ss (j7 hT (jU (off:=0) d8)) ?_;refine one ?_;refine j5 func71 (right_spec bs vars loops buf MA mc made o) ⟨d7,d9,e6,j0⟩ fun _=>?_;refine g5 ?_;exact rs1 () trivial
theorem indexFO_spec(A:Option Addr)(c:Nat)(l:List OpV)(hl:l.length≤140737488355328)(f:FuncId)(cap:List Value)(G:List Fact)(p:OpV→Bool)(hcf: ∀(args:Array Value) (w:World),(callFunc f args).run prog w= .ok (.enter f args) w)(hf: ∀o:OpV,cM prog f (.agg #[.int .i64 o.how,.int .i64 o.k,.int .i64 o.n,.slice o.p.addr o.p.list.length o.p.cap,.int .u8 o.fn]::cap) [] (opF o::G) (fun _:Unit=> .bool (p o)) (fun _=>[]) (fun _=>[])):cM prog 111 [.slice A l.length c,.func (.func f) #[] cap.toArray] [] (opE.sl (.slice A l.length c) l::Fact.each l opF::G) (fun(_:Unit)=> .int .i64 (bIq p l 0)) (fun _=>[]) (fun _=>[]):=by
 have hT:=kZ;generalize hR:bIq p l 0=r;refine k6 func111 ntmps111 ?_;intro β hM;refine g14 ?_;refine cB (ι:=Nat) [(0,_),(1,_),(7,_)] ⟨rfl,rfl,rfl,j0⟩ (fun i=>[(8,.int .i64 (i:Nat))]) (fun _=>[]) (fun i=>[Fact.pure (i≤l.length∧r=bIq p (l.drop i) i)]) (fun i=>l.length-i) 0 ⟨rfl,j0⟩ .nil ⟨j3 (⟨n7,hR.symm⟩),j0⟩ ?_;rintro i;refine bC d7 fun hinv2=>?_;refine g6 ?_;refine dJ (fun hc9=>?_) fun hc9=>?_
 ·refine g15 ?_;obtain⟨x1,hx2⟩:=gx l i;refine ss (ixs i) ?_;refine ss (lS hx2 0) ?_;refine fV hcf (hf x1) rfl rfl rfl rfl rfl rfl rfl .nil ⟨Has.each d9 (j4 hx2),bA.drop 3⟩ fun _=>?_;refine g2 ?_;refine jA (fun hc16=>?_) fun hc16=>?_
  ·refine g12 ?_;obtain rfl:=(bCs hinv2.2 hx2).1 ‹_›;exact rs1 () trivial
  refine g5 ?_;refine inc (i+1) ?_;refine g3 ?_;exact bk2 (i+1) ⟨j3 (⟨n7,(bCs hinv2.2 hx2).2 ‹_›⟩),j0⟩
 refine g11 ?_;have hr:=idxG_end hinv2.2 n7;subst hr;exact rs1 () trivial
theorem sQ(A:Option Addr)(c:Nat)(l:List OpV)(hl:l.length≤140737488355328)(f:FuncId)(cap:List Value)(G:List Fact)(p:OpV→Bool)(hcf: ∀(args:Array Value) (w:World),(callFunc f args).run prog w= .ok (.enter f args) w)(hf: ∀o:OpV,cM prog f (.agg #[.int .i64 o.how,.int .i64 o.k,.int .i64 o.n,.slice o.p.addr o.p.list.length o.p.cap,.int .u8 o.fn]::cap) [] (opF o::G) (fun _:Unit=> .bool (p o)) (fun _=>[]) (fun _=>[])):cM prog 69 [.slice A l.length c,.func (.func f) #[] cap.toArray] [] (opE.sl (.slice A l.length c) l::Fact.each l opF::G) (fun(_:Unit)=> .bool (l.any p)) (fun _=>[]) (fun _=>[]):=by
 have hT:=kZ;refine k6 func69 ntmps69 ?_;intro β hM;refine g9 ?_;refine j5 func111 (indexFO_spec A c l hl f cap G p hcf hf) bA.self fun _=>?_;refine g5 ?_;exact rs1 () j0 (he:=congrArg Value.bool (bPm p l 0 o9))
theorem step_spec(bs:Nat)(vars loops buf:Int)(MA:Option Addr)(mc:Nat)(made:List Bool)(x:StepV):cM prog 31 [.pointer (some ⟨bs,0,none⟩),.agg #[.int .i64 x.how,.int .i64 x.buf,.slice x.at_.addr x.at_.list.length x.at_.cap,.slice x.loops.addr x.loops.list.length x.loops.cap,.int .u8 x.fn,.slice x.ops.addr x.ops.list.length x.ops.cap]] [.obj bs (.cells [.int .i64 vars,.int .i64 loops,.int .i64 buf,.slice MA made.length mc].toArray 118)] [fZ x,nW.sl (.slice MA made.length mc) made] (fun(_:Int×Int)=> .bool (uP vars made x.c)) (fun(y:Int×Int)=>[.obj bs (.cells [.int .i64 vars,.int .i64 y.1,.int .i64 y.2,.slice MA made.length mc].toArray 118)]) (fun _=>[]):=by
 have hT:=kZ;refine k6 func31 ntmps31 ?_;intro β hM;refine g2 ?_;refine j9 fun b1=>?_;refine j9 fun b2=>?_;refine g5 ?_;refine bB (kT x.at_) (stepF_a d7)<|bC (bEp d7) fun hpa=>bB (xU x.loops) (stepF_l d8)<|bC (opsF_c (bMp d9)) fun hoz=>?_;have hoz2:=hoz.2;refine bB (Fact.each x.ops.list opF) (opsF_e (bMp d9))<|bB (opE.sl (.slice x.ops.addr x.ops.list.length x.ops.cap) x.ops.list) (opsF_s (bMp e6)) ?_;refine bU _ _ [(true,0),(true,1),(true,2),(true,3),(true,4),(true,5),(false,6),(true,7),(true,8),(true,9),(true,10),(false,11),(true,12),(true,13),(true,14),(true,15),(true,16),(true,17),(true,18),(true,19),(true,20),(false,21),(true,22),(true,23),(true,24),(true,25),(true,26),(true,27),(true,28),(true,29),(true,30),(true,31),(true,32),(false,33),(true,34),(true,35)] bV o5 (.c0 (.c0 (.c0 .nil))) bA.self ?_;refine g7 ?_;refine j5 func65 (of_spec x.at_ vars) ⟨e6,j0⟩ fun _=>?_;refine g3 ?_;refine cI (fun hg13=>?_) (fun hg13=>?_)
 ·have hg13:=bSk hg13;refine g40 ?_;refine g3 ?_;exact rs1 (_,_) j0 (he:=by rw [←kY];simp [tB, *])
 have hg13:=zM hg13;refine g3 ?_;refine j5 func66 (yD x.at_ hpa) ⟨e6,j0⟩ fun _=>?_;refine g4 ?_;refine cI (fun hg19=>?_) (fun hg19=>?_)
 ·have hg19:=bSk hg19;refine g35 ?_;exact rs1 (_,_) j0 (he:=by rw [←kY];simp [tB, *])
 have hg19:=zM hg19;refine g7 ?_;refine j5 func30 (bVs x.loops vars) ⟨d9,j0⟩ fun _=>?_;refine g4 ?_;refine cI (fun hg29=>?_) (fun hg29=>?_)
 ·have hg29:=bSk hg29;refine g23 ?_;exact rs1 (_,_) j0 (he:=by rw [←kY];simp [tB, *])
 have hg29:=zM hg29;refine g6 ?_;refine cI (fun hg35=>?_) (fun hg35=>?_)
 ·have hg35:=of_decide_eq_true hg35;refine g17 ?_;exact rs1 (_,_) j0 (he:=by rw [←kY];simp [tB, *])
 have hg35:=Int.not_lt.1 (of_decide_eq_false hg35);refine g3 ?_;refine j5 func67 (Depth_spec x.ops.addr x.ops.cap x.ops.list n7) ⟨d7,d8,j0⟩ fun _=>?_;refine g5 ?_;refine dP rfl (fun hc40=>?_) (fun hc40=>?_)
 ·have hc40_r:=hc40;have hc40:=of_decide_eq_true hc40;refine g7 ?_;exact rs1 (_,_) j0 (he:=by rw [←kY];simp [tB, *])
 have hc40_r:=hc40;have hc40:=Int.not_lt.1 (of_decide_eq_false hc40);refine g16 ?_;refine dP rfl (fun hc43=>?_) (fun hc43=>?_)
 ·have hc43_r:=hc43;have hc43:=eq_of_beq hc43;refine g7 ?_;refine dP rfl (fun hc47=>?_) (fun hc47=>?_)
  ·have hc47_r:=hc47;have hc47:=bne_iff_ne.1 hc47;refine g8 ?_;exact rs1 (_,_) j0 (he:=by rw [←kY];simp [tB, *])
  have hc47_r:=hc47;have hc47:=bne_eq_false_iff_eq.1 hc47;refine g4 ?_;refine bU _ _ [(true,0),(true,1),(true,2),(true,3),(true,4),(true,5),(true,6),(true,7),(true,8),(false,9),(true,10),(true,11),(false,12)] bV o5 (.c0 (.c0 .nil)) bA.self ?_;refine g24 ?_;refine qU (bO func69 rfl rfl) (sQ x.ops.addr x.ops.cap x.ops.list n7 70 [.pointer (some ⟨b1,0,none⟩)] [Fact.cells b1 0 [.pointer (some ⟨bs,0,none⟩)],Fact.cells bs 0 [.int .i64 vars,.int .i64 x.loops.list.length,.int .i64 x.buf,.slice MA made.length mc],nW.sl (.slice MA made.length mc) made] (fun o=>!opB vars x.loops.list.length x.buf made o.c) (bO func70 rfl rfl) (fun o=>bEz b1 bs vars x.loops.list.length x.buf MA mc made o)) rfl rfl rfl rfl rfl .nil (.c2 (.c0 .nil)) (rI (rI xB)) ⟨d9,e6,d7,d8,f3,j0⟩ (fun _=>True) (fun _ _ _ _=>trivial) fun _ _=>?_;refine g5 ?_;exact rs1 (_,_) j0 (he:=by rw [←kY];simp [tB, *])
 have hc43_r:=hc43;have hc43:=beq_eq_false_iff_ne.1 hc43;refine g7 ?_;refine dP rfl (fun hc48=>?_) (fun hc48=>?_)
 ·have hc48_r:=hc48;have hc48:=eq_of_beq hc48;refine g2 ?_;refine pK rfl hc48_r ?_;refine g7 ?_;refine cI (fun hg55=>?_) (fun hg55=>?_)
  ·have hg55:=eq_of_beq hg55;refine g16 ?_;exact rs1 (_,_) j0 (he:=by rw [←kY];simp [tB, *])
  have hg55:=beq_eq_false_iff_ne.1 hg55;refine g2 ?_;refine bD func68 (vI _ _) rfl rfl .nil j0 fun _=>?_;refine g4 ?_;refine dP rfl (fun hc60=>?_) (fun hc60=>?_)
  ·have hc60_r:=hc60;have hc60:=bSk hc60;refine g8 ?_;exact rs1 (_,_) j0 (he:=by rw [←kY];simp [tB, *])
  have hc60_r:=hc60;have hc60:=zM hc60;refine g4 ?_;refine bU _ _ [(true,0),(true,1),(true,2),(true,3),(true,4),(true,5),(true,6),(true,7),(true,8),(false,9),(true,10),(true,11),(false,12)] bV o5 (.c0 (.c0 .nil)) bA.self ?_;refine g24 ?_;refine qU (bO func69 rfl rfl) (sQ x.ops.addr x.ops.cap x.ops.list n7 70 [.pointer (some ⟨b1,0,none⟩)] [Fact.cells b1 0 [.pointer (some ⟨bs,0,none⟩)],Fact.cells bs 0 [.int .i64 vars,.int .i64 x.loops.list.length,.int .i64 x.buf,.slice MA made.length mc],nW.sl (.slice MA made.length mc) made] (fun o=>!opB vars x.loops.list.length x.buf made o.c) (bO func70 rfl rfl) (fun o=>bEz b1 bs vars x.loops.list.length x.buf MA mc made o)) rfl rfl rfl rfl rfl .nil (.c2 (.c0 .nil)) (rI (rI xB)) ⟨d9,e6,d7,d8,f3,j0⟩ (fun _=>True) (fun _ _ _ _=>trivial) fun _ _=>?_;refine g5 ?_;exact rs1 (_,_) j0 (he:=by rw [←kY];simp [tB, *])
 have hc48_r:=hc48;have hc48:=beq_eq_false_iff_ne.1 hc48;refine g5 ?_;refine dP rfl (fun hc48_4=>?_) (fun hc48_4=>?_)
 ·have hc48_4_r:=hc48_4;have hc48_4:=eq_of_beq hc48_4;refine g7 ?_;refine cI (fun hg55=>?_) (fun hg55=>?_)
  ·have hg55:=eq_of_beq hg55;refine g16 ?_;exact rs1 (_,_) j0 (he:=by rw [←kY];simp [tB, *])
  have hg55:=beq_eq_false_iff_ne.1 hg55;refine g2 ?_;refine bD func68 (vI _ _) rfl rfl .nil j0 fun _=>?_;refine g4 ?_;refine dP rfl (fun hc60=>?_) (fun hc60=>?_)
  ·have hc60_r:=hc60;have hc60:=bSk hc60;refine g8 ?_;exact rs1 (_,_) j0 (he:=by rw [←kY];simp [tB, *])
  have hc60_r:=hc60;have hc60:=zM hc60;refine g4 ?_;refine bU _ _ [(true,0),(true,1),(true,2),(true,3),(true,4),(true,5),(true,6),(true,7),(true,8),(false,9),(true,10),(true,11),(false,12)] bV o5 (.c0 (.c0 .nil)) bA.self ?_;refine g24 ?_;refine qU (bO func69 rfl rfl) (sQ x.ops.addr x.ops.cap x.ops.list n7 70 [.pointer (some ⟨b1,0,none⟩)] [Fact.cells b1 0 [.pointer (some ⟨bs,0,none⟩)],Fact.cells bs 0 [.int .i64 vars,.int .i64 x.loops.list.length,.int .i64 x.buf,.slice MA made.length mc],nW.sl (.slice MA made.length mc) made] (fun o=>!opB vars x.loops.list.length x.buf made o.c) (bO func70 rfl rfl) (fun o=>bEz b1 bs vars x.loops.list.length x.buf MA mc made o)) rfl rfl rfl rfl rfl .nil (.c2 (.c0 .nil)) (rI (rI xB)) ⟨d9,e6,d7,d8,f3,j0⟩ (fun _=>True) (fun _ _ _ _=>trivial) fun _ _=>?_;refine g5 ?_;exact rs1 (_,_) j0 (he:=by rw [←kY];simp [tB, *])
 have hc48_4_r:=hc48_4;have hc48_4:=beq_eq_false_iff_ne.1 hc48_4;refine g8 ?_;exact rs1 (_,_) j0 (he:=by rw [←kY];simp [tB, *])
theorem bSl: ∃i:TypeInfo,prog.info? 4=some i∧i.zero=some (.bool false)∧i.size=1∧i.bytes=1:=by
 have h:(prog.info? 4).map (fun i=>(i.zero,i.size,i.bytes))=some (some (.bool false),1,1):=n9
 cases hi:prog.info? 4 with
 | none=>simp [hi] at h
 | some i=>simp [hi] at h;exact⟨i,rfl,h.1,h.2.1,h.2.2⟩
theorem vK{β:dF}{n:Nat}{Γ:Env}{H:List bH}{F:List Fact}{Q:Exit→Act→World→Prop}{ops:Array Oper}{rest:List Oper}{o:Oper}{d:Nat}{x:Operand}{m:Bool}(hw:want ops Γ o=some true)(ho:o.op= .buildSlice 61 1 #[(0,x)])(hd:o.dst=some d)(hn:Nat.blt d n=true)
  (hx:Γ.ev x=some (.bool m)) (k: ∀b,At β n ((d,.slice (some ⟨b,0,none⟩) 1 1)::Γ) (.obj b (.cells (nW.all [m]).toArray 4)::H) F (wpList prog ops Q rest)):At β n Γ H F (wpList prog ops Q (o::rest)):=by
 obtain⟨i,hi,hz,hs,_⟩:=bSl;refine gG hw ho hd hn hx underlying61 hi hz n7 n7 ?_ k;rw [hs]
 kernel_rfl
theorem vE{β:dF}{n:Nat}{Γ:Env}{H:List bH}{F:List Fact}{Q:Exit→Act→World→Prop}{ops:Array Oper}{rest:List Oper}{o:Oper}{d:Nat}{x y:Operand}{c q:Nat}{v:Value}{A:Option Addr}{xs ys:List Bool}{H':List bH}(hH:cD H (nW.row v 4 xs) H')(hr:dQ β H F nW A ys)(hg:o.guard=none)
  (ho:o.op= .call {callee:= .builtin .append,args:= #[x,y],argTypes:= #[61,61]}) (hd:o.dst=some d) (hn:Nat.blt d n=true)
  (hx:Γ.ev x=some v) (hy:Γ.ev y=some (.slice A q c)) (hq:q=ys.length) (hl:xs.length+ys.length≤140737488355328)
  (k: ∀A' cap',At β n ((d,.slice A' (xs++ys).length cap')::Γ) (nW.row (.slice A' (xs++ys).length cap') 4 (xs++ys)::H') F (wpList prog ops Q rest)):At β n Γ H F (wpList prog ops Q (o::rest)):=by
 obtain⟨i,hi,hz,hs,hb⟩:=bSl;exact dK hH hr hg ho hd hn underlying61 hi hz hs hb rfl hx hy hq n7 o9 k
theorem arr64_zero:(prog.info? 115).bind (·.zero)=some (.agg (nW.all (List.replicate 64 false)).toArray):=n9
theorem step_specM{m:Nat}{made:List Bool}(hm:made.length=m)(bs:Nat)(vars loops buf:Int)(MA:Option Addr)(mc:Nat)(x:StepV):cM prog 31 [.pointer (some ⟨bs,0,none⟩),.agg #[.int .i64 x.how,.int .i64 x.buf,.slice x.at_.addr x.at_.list.length x.at_.cap,.slice x.loops.addr x.loops.list.length x.loops.cap,.int .u8 x.fn,.slice x.ops.addr x.ops.list.length x.ops.cap]]
  [.obj bs (.cells [.int .i64 vars,.int .i64 loops,.int .i64 buf,.slice MA m mc].toArray 118)] [fZ x,nW.sl (.slice MA m mc) made] (fun _:Int×Int=> .bool (uP vars made x.c)) (fun y=>[.obj bs (.cells [.int .i64 vars,.int .i64 y.1,.int .i64 y.2,.slice MA m mc].toArray 118)]) (fun _=>[]):=by
 subst hm;exact step_spec bs vars loops buf MA mc made x
def outB (n:Nat)(k:Int):Bool:=decide (k<0) || decide ((n:Int)≤k)
def restB (c:wY):Bool:=bBh c.vars c.bufs c.steps (zK c.bufs)&&c.outs.all fun k=>decide (0≤k∧k<c.bufs.length)
theorem bDb(l:List rG):(zK l).length=l.length:=List.length_map _
def xY (c:wY)(i:Nat)(inp made:List Bool)(r:Bool):Prop:=inp.length=64∧made=(zK c.bufs).take i∧ ∃seen:List Int,(∀z∈seen,0≤z)∧(∀k:Nat,k<64→inp[k]?=some (seen.contains (k:Int)))∧r=(bEj c.vars (c.bufs.drop i) seen&&restB c)
def bDn (c:wY)(i:Nat)(made:List Bool)(r:Bool):Prop:=made.length=c.bufs.length∧r=(bBh c.vars c.bufs (c.steps.drop i) made&&c.outs.all fun k=>decide (0≤k∧k<c.bufs.length))
section
variable {c : CoreV} {r : Bool}
theorem right_sizes(h:wJ c.c=r)(h1:0≤c.vars)(h2:c.vars≤6)(h3:(c.bufs.list.length:Int)≤1024)(h4:(c.steps.list.length:Int)≤1024)(h5:(c.outs.list.length:Int)≤64):r=(bEj c.c.vars c.c.bufs []&&restB c.c):=by
 rw [←h];unfold wJ;rw [decide_eq_true (show 0≤c.c.vars∧c.c.vars≤6∧c.c.bufs.length≤1024∧c.c.steps.length≤1024∧c.c.outs.length≤64 from ⟨h1,h2,by show(iM c.bufs.list).length≤1024;rw [cR];omega,by show(dX c.steps.list).length≤1024;rw [iG];omega,by show c.outs.list.length≤64;omega⟩),Bool.true_and];rfl
theorem tW(h:wJ c.c=r)(h1: ¬(0≤c.vars∧c.vars≤6∧(c.bufs.list.length:Int)≤1024∧(c.steps.list.length:Int)≤1024∧(c.outs.list.length:Int)≤64)):r=false:=by
 rw [←h];unfold wJ;rw [decide_eq_false (show ¬(0≤c.c.vars∧c.c.vars≤6∧c.c.bufs.length≤1024∧c.c.steps.length≤1024∧c.c.outs.length≤64) from fun⟨a,b,d,e,f⟩=>h1 ⟨a,b,by have d:(iM c.bufs.list).length≤1024:=d;rw [cR] at d;omega,by have e:(dX c.steps.list).length≤1024:=e;rw [iG] at e;omega,by have f:c.outs.list.length≤64:=f;omega⟩),Bool.false_and]
end
section
variable {c : wY} {i : Nat} {inp made : List Bool} {r : Bool} {u : rG}
theorem bufs_start(h:r=(bEj c.vars c.bufs []&&restB c)):xY c 0 (List.replicate 64 false) [] r:=by
 refine⟨rfl,rfl,[],?_,?_,h⟩
 ·intro z hz;cases hz
 ·intro k hk;rw [List.getElem?_replicate,if_pos hk];rfl
theorem bufs_len(h:xY c i inp made r)(hi:i≤c.bufs.length):made.length=i:=by
 rw [h.2.1,List.length_take,bDb];omega
theorem bHc(h:xY c i inp made r)(hu:c.bufs[i]?=some u)(k:lB u.sides c.vars=false∨u.input< -1∨64≤u.input∨0≤u.input∧inp[u.input.toNat]?=some true):r=false:=by
 obtain⟨h1,_,seen,h2,h3,h4⟩:=h;rw [tV hu,bEj] at h4;rw [h4]
 rcases k with k | k | k | ⟨k,e⟩
 ·rw [k];rfl
 ·rw [decide_eq_false (show ¬(-1≤u.input∧u.input<64) from fun h=>by omega)];simp
 ·rw [decide_eq_false (show ¬(-1≤u.input∧u.input<64) from fun h=>by omega)];simp
 ·have hlt:=(List.getElem?_eq_some_iff.1 e).1;rw [h3 _ n7] at e
  have e2:seen.contains u.input=true:=by
   have:((u.input.toNat:Nat):Int)=u.input:=n7
   rw [←this];exact Option.some.inj e
  rw [e2];simp
theorem bUi(h:made=(zK c.bufs).take i)(hu:c.bufs[i]?=some u):made++[decide (0≤u.input)]=(zK c.bufs).take (i+1):=by
 have hm:(zK c.bufs)[i]?=some (decide (0≤u.input)):=by
  unfold zK;rw [List.getElem?_map,hu];rfl
 obtain⟨hi,e⟩:=List.getElem?_eq_some_iff.1 hm;rw [List.take_succ_eq_append_getElem hi,e,h]
theorem bufs_in(h:xY c i inp made r)(hu:c.bufs[i]?=some u)(hg:lB u.sides c.vars=true)(h1: -1≤u.input)(h2:u.input<64)(h3:0≤u.input)(he:inp[u.input.toNat]?=some false):xY c (i+1) (inp.set u.input.toNat true) (made++[decide (0≤u.input)]) r:=by
 obtain⟨k1,k2,seen,k3,k4,k5⟩:=h;refine⟨by simpa using k1,bUi k2 hu,u.input::seen,fun z hz=>?_,fun k hk=>?_,?_⟩
 ·rcases List.mem_cons.1 hz with rfl | hz
  ·exact h3
  ·exact k3 z hz
 ·rw [List.getElem?_set,List.contains_cons]
  by_cases e:u.input.toNat=k
  ·rw [if_pos e,if_pos n7];have:((k:Nat):Int)=u.input:=n7
   rw [this];simp
  ·rw [if_neg e,k4 k hk];have:((k:Int)==u.input)=false:=beq_eq_false_iff_ne.2 n7;rw [this];rfl
 ·rw [tV hu,bEj,hg,decide_eq_true ⟨h1,h2⟩,if_pos h3] at k5
  have e2:seen.contains u.input=false:=by
   rw [k4 _ n7] at he;have:((u.input.toNat:Nat):Int)=u.input:=n7
   rw [←this];exact Option.some.inj he
  rw [e2] at k5
  simpa using k5
theorem bufs_no(h:xY c i inp made r)(hu:c.bufs[i]?=some u)(hg:lB u.sides c.vars=true)(h1: -1≤u.input)(h3:u.input<0):xY c (i+1) inp (made++[decide (0≤u.input)]) r:=by
 obtain⟨k1,k2,seen,k3,k4,k5⟩:=h;refine⟨k1,bUi k2 hu,seen,k3,k4,?_⟩;rw [tV hu,bEj,hg,decide_eq_true (show-1≤u.input∧u.input<64 from ⟨h1,n7⟩),if_neg n7] at k5
 have e2:seen.contains u.input=false:=by
  rw [List.contains_eq_mem];exact decide_eq_false fun h=>by have:=k3 _ h;omega
 rw [e2] at k5
 simpa using k5
theorem bufs_end(h:xY c i inp made r)(hi:c.bufs.length≤i):made=zK c.bufs∧r=restB c:=by
 obtain⟨_,k2,seen,_,_,k5⟩:=h;rw [List.drop_of_length_le hi] at k5;refine⟨by rw [k2,List.take_of_length_le (by rw [bDb];exact hi)],by rw [k5];rfl⟩
theorem steps_start(hm:made=zK c.bufs)(h:r=restB c):bDn c 0 made r:=⟨by rw [hm,bDb],by rw [h,hm];rfl⟩
theorem bCj{x:zI}(h:bDn c i made r)(hx:c.steps[i]?=some x)(k:x.buf<0∨(c.bufs.length:Int)≤x.buf∨(∃u,c.bufs[x.buf.toNat]?=some u∧0≤u.input)∨uP c.vars made x=false):r=false:=by
 obtain⟨_,h2⟩:=h;rw [tV hx,bBh] at h2;rw [h2]
 rcases k with k | k | ⟨u,e,k⟩ | k
 ·rw [decide_eq_false (show ¬0≤x.buf by omega)];rfl
 ·rw [List.getElem?_eq_none (show c.bufs.length≤x.buf.toNat by omega)];simp
 ·rw [e];simp only;rw [decide_eq_false (show ¬u.input<0 by omega)];simp
 ·rw [k];simp
theorem steps_ok{x:zI}{u:rG}(h:bDn c i made r)(hx:c.steps[i]?=some x)(h0:0≤x.buf)(hu:c.bufs[x.buf.toNat]?=some u)(h1:u.input<0)(k:uP c.vars made x=true):bDn c (i+1) (made.set x.buf.toNat true) r:=by
 obtain⟨h2,h3⟩:=h;refine⟨by simpa using h2,?_⟩;rw [tV hx,bBh,hu,decide_eq_true h0] at h3;simp only at h3;rw [decide_eq_true h1,k] at h3
 simpa using h3
theorem steps_end(h:bDn c i made r)(hi:c.steps.length≤i):r=c.outs.all fun k=>decide (0≤k∧k<c.bufs.length):=by
 obtain⟨_,h3⟩:=h;rw [List.drop_of_length_le hi] at h3;rw [h3];rfl
end
theorem outs_all{n m:Nat}{l:List Int}(h:n=m):(!l.any (outB m))=l.all fun k=>decide (0≤k∧k<(n:Int)):=by
 subst h
 have e:outB n=fun k=>!decide (0≤k∧k<(n:Int)):=by
  funext k
  unfold outB;rw [Bool.eq_iff_iff];simp
 rw [e,any_not]
theorem tM(z0:Int):prog.built 118 [(0,.int .i64 z0)]=some #[.int .i64 z0,.int .i64 0,.int .i64 0,.slice none 0 0]:=n9
theorem zP:(prog.info? 45).bind (·.zero)=some (.agg #[.slice none 0 0,.int .i64 0]):=n9
theorem yK:(prog.info? 65).bind (·.zero)=some (.agg #[.int .i64 0,.int .i64 0,.slice none 0 0,.slice none 0 0,.int .u8 0,.slice none 0 0]):=n9
theorem indexFI_spec(A:Option Addr)(c:Nat)(l:List Int)(hl:l.length≤140737488355328)(f:FuncId)(cap:List Value)(G:List Fact)(p:Int→Bool)(hcf: ∀(args:Array Value) (w:World),(callFunc f args).run prog w= .ok (.enter f args) w)(hf: ∀k:Int,cM prog f (.int .i64 k::cap) [] G (fun _:Unit=> .bool (p k)) (fun _=>[]) (fun _=>[])):cM prog 72 [.slice A l.length c,.func (.func f) #[] cap.toArray] [] (sZ.sl (.slice A l.length c) l::G) (fun(_:Unit)=> .int .i64 (bIq p l 0)) (fun _=>[]) (fun _=>[]):=by
 have hT:=kZ;generalize hR:bIq p l 0=r;refine k6 func72 ntmps72 ?_;intro β hM;refine g14 ?_;refine cB (ι:=Nat) [(0,_),(1,_),(7,_)] ⟨rfl,rfl,rfl,j0⟩ (fun i=>[(8,.int .i64 (i:Nat))]) (fun _=>[]) (fun i=>[Fact.pure (i≤l.length∧r=bIq p (l.drop i) i)]) (fun i=>l.length-i) 0 ⟨rfl,j0⟩ .nil ⟨j3 (⟨n7,hR.symm⟩),j0⟩ ?_;rintro i;refine bC d7 fun hinv2=>?_;refine g6 ?_;refine dJ (fun hc9=>?_) fun hc9=>?_
 ·refine g15 ?_;obtain⟨x1,hx2⟩:=gx l i;refine ss (ixs i) ?_;refine ss (fL hx2 0) ?_;refine fV hcf (hf x1) rfl rfl rfl rfl rfl rfl rfl .nil (bA.drop 2) fun _=>?_;refine g2 ?_;refine jA (fun hc16=>?_) fun hc16=>?_
  ·refine g12 ?_;obtain rfl:=(bCs hinv2.2 hx2).1 ‹_›;exact rs1 () trivial
  refine g5 ?_;refine inc (i+1) ?_;refine g3 ?_;exact bk2 (i+1) ⟨j3 (⟨n7,(bCs hinv2.2 hx2).2 ‹_›⟩),j0⟩
 refine g11 ?_;have hr:=idxG_end hinv2.2 n7;subst hr;exact rs1 () trivial
theorem bMn(A:Option Addr)(c:Nat)(l:List Int)(hl:l.length≤140737488355328)(f:FuncId)(cap:List Value)(G:List Fact)(p:Int→Bool)(hcf: ∀(args:Array Value) (w:World),(callFunc f args).run prog w= .ok (.enter f args) w)(hf: ∀k:Int,cM prog f (.int .i64 k::cap) [] G (fun _:Unit=> .bool (p k)) (fun _=>[]) (fun _=>[])):cM prog 32 [.slice A l.length c,.func (.func f) #[] cap.toArray] [] (sZ.sl (.slice A l.length c) l::G) (fun(_:Unit)=> .bool (l.any p)) (fun _=>[]) (fun _=>[]):=by
 have hT:=kZ;refine k6 func32 ntmps32 ?_;intro β hM;refine g9 ?_;refine j5 func72 (indexFI_spec A c l hl f cap G p hcf hf) bA.self fun _=>?_;refine g5 ?_;exact rs1 () j0 (he:=congrArg Value.bool (bPm p l 0 o9))
theorem right1_spec(b:Nat)(c:CoreV)(k:Int):cM prog 33 [.int .i64 k,.pointer (some ⟨b,0,none⟩)] [] [Fact.cells b 0 [.int .i64 c.vars,.slice c.bufs.addr c.bufs.list.length c.bufs.cap,.slice c.steps.addr c.steps.list.length c.steps.cap,.slice c.outs.addr c.outs.list.length c.outs.cap]] (fun(_:Unit)=> .bool (outB c.bufs.list.length k)) (fun _=>[]) (fun _=>[]):=by
 have hT:=kZ;refine k6 func33 ntmps33 ?_;intro β hM;refine g10 ?_;refine jX (fun hg6=>?_) fun hg6=>?_
 ·refine g10 ?_;exact rs1 () j0 (he:=by first | (unfold outB;simp [*];done) | (unfold outB;simp [*];omega))
 refine g2 ?_;refine ss (j7 hT (jU (off:=1) d7)) ?_;refine g7 ?_;exact rs1 () j0 (he:=by first | (unfold outB;simp [*];done) | (unfold outB;simp [*];omega))
theorem Right_spec(c:CoreV):cM prog 14 [.agg #[.int .i64 c.vars,.slice c.bufs.addr c.bufs.list.length c.bufs.cap,.slice c.steps.addr c.steps.list.length c.steps.cap,.slice c.outs.addr c.outs.list.length c.outs.cap]] [] [bRo c] (fun(_:Unit)=> .bool (wJ c.c)) (fun _=>[]) (fun _=>[]):=by
 have hT:=kZ;generalize hR:wJ c.c=r;refine k6 func14 ntmps14 ?_;intro β hM;refine g2 ?_;refine j9 fun b1=>?_;refine g10 ?_;refine jX (fun hg12=>?_) fun hg12=>?_
 ·refine g32 ?_;have hr:=tW hR n7;subst hr;exact rs1 () trivial
 refine g5 ?_;refine jX (fun hg17=>?_) fun hg17=>?_
 ·refine g27 ?_;have hr:=tW hR n7;subst hr;exact rs1 () trivial
 refine g6 ?_;refine jX (fun hg23=>?_) fun hg23=>?_
 ·refine g21 ?_;have hr:=tW hR n7;subst hr;exact rs1 () trivial
 refine g6 ?_;refine jX (fun hg29=>?_) fun hg29=>?_
 ·refine g15 ?_;have hr:=tW hR n7;subst hr;exact rs1 () trivial
 refine g7 ?_;refine dJ (fun hc34=>?_) fun hc34=>?_
 ·refine g7 ?_;have hr:=tW hR n7;subst hr;exact rs1 () trivial
 refine g3 ?_;have hr0:=right_sizes hR n7 n7 n7 n7 n7;refine one ?_;refine j6 arr64_zero fun b2=>?_;refine at_obj_held (E:=nW) (xs:=List.replicate 64 false) .head ?_;refine g6 ?_;refine ss (k7 (tM _)) ?_;refine j9 fun b3=>?_;refine g13 ?_;refine cK (t:=4) nW ?_;refine cB (ι:=Nat×List Bool×List Bool×Option Addr×Nat) [(1,_),(3,_),(4,_),(40,_),(41,_)] ⟨rfl,rfl,rfl,rfl,rfl,j0⟩ (fun⟨i,inp,made,MA,mc⟩=>[(42,.int .i64 (i:Nat))]) (fun⟨i,inp,made,MA,mc⟩=>[nW.held (.slice (some ⟨b2,0,none⟩) 64 64) inp,.obj b3 (.cells [.int .i64 c.vars,.int .i64 0,.int .i64 0,.slice MA made.length mc].toArray 118),nW.row (.slice MA made.length mc) 4 made]) (fun⟨i,inp,made,MA,mc⟩=>[Fact.pure (i≤c.bufs.list.length∧xY c.c i inp made r)]) (fun⟨i,inp,made,MA,mc⟩=>c.bufs.list.length-i) (0,List.replicate 64 false,[],none,0) ⟨rfl,j0⟩ (.c2 (.c1 (.c0 .nil))) ⟨j3 (⟨n7,bufs_start hr0⟩),j0⟩ ?_;rintro⟨i,inp,made,MA,mc⟩;dsimp only;refine bC d7 fun hinv6=>?_;have hil:inp.length=64:=hinv6.2.1;have hml:=bufs_len hinv6.2 (by show i≤(iM c.bufs.list).length;rw [cR];omega);refine g6 ?_;refine dJ (fun hc43=>?_) fun hc43=>?_
 ·refine g6 ?_;refine bB (bBl.sl (.slice c.bufs.addr c.bufs.list.length c.bufs.cap) c.bufs.list) (bMw (xM d8)) ?_;obtain⟨x4,hx5⟩:=gx c.bufs.list i;refine ss (ixs i) ?_;refine ss (lS hx5 0) ?_;refine j6 zP fun b6=>?_;refine g5 ?_;refine bB (bHu x4) (Has.each (bufsF_e (xM d9)) (j4 hx5)) ?_;refine g5 ?_;refine j5 func30 (bVs x4.sides c.vars) ⟨d7,j0⟩ fun _=>?_;refine g2 ?_;refine k_nt (fun hg52=>?_) fun hg52=>?_
  ·refine g35 ?_;have hr:=bHc hinv6.2 (lH hx5) r9;subst hr;exact rs1 () trivial
  refine g5 ?_;refine jX (fun hg57=>?_) fun hg57=>?_
  ·refine g30 ?_;have hr:=bHc hinv6.2 (lH hx5) r9;subst hr;exact rs1 () trivial
  refine g5 ?_;refine k_le (fun hg62=>?_) fun hg62=>?_
  ·refine g25 ?_;have hr:=bHc hinv6.2 (lH hx5) r9;subst hr;exact rs1 () trivial
  refine g4 ?_;refine k_le (fun hg66=>?_) fun hg66=>?_
  ·refine g2 ?_;obtain⟨x7,hx8⟩:=gx inp x4.input.toNat;refine ss (vT hT (k:=x4.input.toNat) rfl rfl rfl rfl rfl n7 n7) ?_;refine ss (fL hx8 0) ?_;refine g4 ?_;refine jA (fun hc72=>?_) fun hc72=>?_
   ·refine g12 ?_;have hr:=bHc hinv6.2 (lH hx5) r9;subst hr;exact rs1 () trivial
   refine g10 ?_;refine bQy (fun hc75=>?_) fun hc75=>?_
   ·refine g3 ?_;refine ss (vT hT (k:=x4.input.toNat) rfl rfl rfl rfl rfl n7 n7) ?_;refine bEc hT (k:=x4.input.toNat) (fo:=0) (y':=true) kT1 rfl rfl rfl rfl rfl rfl rfl rfl rfl hx8 rfl ?_;refine g2 ?_;refine lC 12 _ _ [(true,0),(true,1),(true,2),(true,3),(true,4),(true,5),(true,6),(true,7),(false,8),(false,9),(true,10),(true,11)] bV o5 (.c0 (.c0 (.c0 (.c1 .nil)))) bA.self ?_;refine g9 ?_;refine vK (m:=decide (0≤x4.input)) rfl rfl rfl rfl rfl fun b9=>?_;refine g2 ?_;refine vE kT4 (bW .head rfl) rfl rfl rfl rfl rfl rfl rfl q8 fun A10 c11=>?_;refine g10 ?_;refine inc (i+1) ?_;refine g3 ?_;exact bk2 (i+1,inp.set x4.input.toNat true,made++[decide (0≤x4.input)],A10,c11) ⟨j3 (⟨by dsimp only;omega,bufs_in hinv6.2 (lH hx5) (show lB (bJ x4.sides.list) c.vars=true by assumption) (show-1≤x4.input by omega) (show x4.input<64 by omega) (show 0≤x4.input by omega) ah8⟩),j0⟩
   refine g2 ?_;refine lC 12 _ _ [(true,0),(true,1),(true,2),(true,3),(true,4),(true,5),(true,6),(true,7),(false,8),(false,9),(true,10),(true,11)] bV o5 (.c0 (.c0 (.c0 (.c1 .nil)))) bA.self ?_;refine g9 ?_;refine vK (m:=decide (0≤x4.input)) rfl rfl rfl rfl rfl fun b12=>?_;refine g2 ?_;refine vE kT4 (bW .head rfl) rfl rfl rfl rfl rfl rfl rfl q8 fun A13 c14=>?_;refine g10 ?_;refine inc (i+1) ?_;refine g3 ?_;exact bk2 (i+1,inp,made++[decide (0≤x4.input)],A13,c14) ⟨j3 (⟨by dsimp only;omega,bufs_no hinv6.2 (lH hx5) (show lB (bJ x4.sides.list) c.vars=true by assumption) (show-1≤x4.input by omega) (show x4.input<0 by omega)⟩),j0⟩
  refine g19 ?_;refine bQy (fun hc75=>?_) fun hc75=>?_
  ·refine g3 ?_;obtain⟨x15,hx16⟩:=gx inp x4.input.toNat;refine ss (vT hT (k:=x4.input.toNat) rfl rfl rfl rfl rfl n7 n7) ?_;refine bEc hT (k:=x4.input.toNat) (fo:=0) (y':=true) kT1 rfl rfl rfl rfl rfl rfl rfl rfl rfl hx16 rfl ?_;refine g2 ?_;refine lC 12 _ _ [(true,0),(true,1),(true,2),(true,3),(true,4),(true,5),(true,6),(true,7),(false,8),(false,9),(true,10),(true,11)] bV o5 (.c0 (.c0 (.c0 (.c1 .nil)))) bA.self ?_;refine g9 ?_;refine vK (m:=decide (0≤x4.input)) rfl rfl rfl rfl rfl fun b17=>?_;refine g2 ?_;refine vE kT4 (bW .head rfl) rfl rfl rfl rfl rfl rfl rfl q8 fun A18 c19=>?_;refine g10 ?_;refine inc (i+1) ?_;refine g3 ?_;exact bk2 (i+1,inp.set x4.input.toNat true,made++[decide (0≤x4.input)],A18,c19) ⟨j3 (⟨by dsimp only;omega,bufs_in hinv6.2 (lH hx5) (show lB (bJ x4.sides.list) c.vars=true by assumption) (show-1≤x4.input by omega) (show x4.input<64 by omega) (show 0≤x4.input by omega) ah8⟩),j0⟩
  refine g2 ?_;refine lC 12 _ _ [(true,0),(true,1),(true,2),(true,3),(true,4),(true,5),(true,6),(true,7),(false,8),(false,9),(true,10),(true,11)] bV o5 (.c0 (.c0 (.c0 (.c1 .nil)))) bA.self ?_;refine g9 ?_;refine vK (m:=decide (0≤x4.input)) rfl rfl rfl rfl rfl fun b20=>?_;refine g2 ?_;refine vE kT4 (bW .head rfl) rfl rfl rfl rfl rfl rfl rfl q8 fun A21 c22=>?_;refine g10 ?_;refine inc (i+1) ?_;refine g3 ?_;exact bk2 (i+1,inp,made++[decide (0≤x4.input)],A21,c22) ⟨j3 (⟨by dsimp only;omega,bufs_no hinv6.2 (lH hx5) (show lB (bJ x4.sides.list) c.vars=true by assumption) (show-1≤x4.input by omega) (show x4.input<0 by omega)⟩),j0⟩
 refine g15 ?_;obtain⟨hmf,hr1⟩:=bufs_end hinv6.2 (by show(iM c.bufs.list).length≤i;rw [cR];omega);have hml2:made.length=c.bufs.list.length:=by rw [hmf,bDb];exact cR _
 rw [hml2];refine cB (ι:=Nat×List Bool×Int×Int) [(1,_),(4,_),(93,_),(94,_)] ⟨rfl,rfl,rfl,rfl,j0⟩ (fun⟨k,made,lo,bu⟩=>[(95,.int .i64 (k:Nat))]) (fun⟨k,made,lo,bu⟩=>[.obj b3 (.cells [.int .i64 c.vars,.int .i64 lo,.int .i64 bu,.slice MA c.bufs.list.length mc].toArray 118),nW.row (.slice MA c.bufs.list.length mc) 4 made]) (fun⟨k,made,lo,bu⟩=>[Fact.pure (k≤c.steps.list.length∧bDn c.c k made r)]) (fun⟨k,made,lo,bu⟩=>c.steps.list.length-k) (0,made,0,0) ⟨rfl,j0⟩ (.c1 (.c1 .nil)) ⟨j3 (⟨n7,steps_start hmf hr1⟩),j0⟩ ?_;rintro⟨k,made,lo,bu⟩;dsimp only;refine bC d7 fun hinv15=>?_;have hml3:made.length=c.bufs.list.length:=by rw [hinv15.2.1];exact cR _
 refine g6 ?_;refine dJ (fun hc96=>?_) fun hc96=>?_
 ·refine g6 ?_;refine bB (mJ.sl (.slice c.steps.addr c.steps.list.length c.steps.cap) c.steps.list) (bNz (bCg d9)) ?_;obtain⟨x23,hx24⟩:=gx c.steps.list k;refine ss (ixs k) ?_;refine ss (lS hx24 0) ?_;refine j6 yK fun b25=>?_;refine g5 ?_;refine bB (fZ x23) (Has.each (bSy (bCg e6)) (j4 hx24)) ?_;refine g5 ?_;refine jX (fun hg102=>?_) fun hg102=>?_
  ·refine g38 ?_;have hr:=bCj hinv15.2 (rD hx24) r8;subst hr;exact rs1 () trivial
  refine g8 ?_;refine k_le (fun hg110=>?_) fun hg110=>?_
  ·refine g30 ?_;have hr:=bCj hinv15.2 (rD hx24) r8;subst hr;exact rs1 () trivial
  refine g4 ?_;refine bB (bBl.sl (.slice c.bufs.addr c.bufs.list.length c.bufs.cap) c.bufs.list) (bMw (xM e7)) ?_;obtain⟨x26,hx27⟩:=gx c.bufs.list x23.buf.toNat;refine ss (cF hT (k:=x23.buf.toNat) (cE d7) rfl rfl rfl rfl rfl rfl n7 n7) ?_;refine one ?_;refine ss (fL hx27 1) ?_;refine g3 ?_;refine k_le (fun hg120=>?_) fun hg120=>?_
  ·refine g20 ?_;have hr:=bCj hinv15.2 (rD hx24) r8;subst hr;exact rs1 () trivial
  refine g2 ?_;refine qU (bO func31 rfl rfl) (step_specM hml3 b3 c.vars lo bu MA mc x23) rfl rfl rfl rfl rfl (.c1 .nil) (.c1 .nil) (lends_row xB) ⟨d9,d7,j0⟩ (fun _=>True) (fun _ _ _ _=>trivial) fun y28 _=>?_;refine g4 ?_;refine jJ (fun hc125=>?_) fun hc125=>?_
  ·refine g12 ?_;have hr:=bCj hinv15.2 (rD hx24) r8;subst hr;exact rs1 () trivial
  refine g2 ?_;refine lC 7 _ _ [(true,0),(true,1),(true,2),(true,3),(true,4),(true,5),(true,6)] bV o5 (.c0 (.c0 (.c0 (.c0 (.c0 .nil))))) bA.self ?_;refine g6 ?_;obtain⟨x29,hx30⟩:=gx made x23.buf.toNat;refine stL rfl (cF hT (k:=x23.buf.toNat) (cN kT2) rfl rfl rfl rfl rfl hml3.symm n7 n7) ?_;refine one ?_;refine fH hT (k:=x23.buf.toNat) (fo:=0) (y':=true) kT2 rfl rfl rfl rfl rfl rfl rfl rfl rfl hx30 rfl ?_;refine g5 ?_;refine inc (k+1) ?_;refine g3 ?_;exact bk2 (k+1,made.set x23.buf.toNat true,y28.1,y28.2) ⟨j3 (⟨by dsimp only;omega,steps_ok hinv15.2 (rD hx24) (show 0≤x23.buf by omega) (lH hx27) (show BufV.input _<0 by omega) (show uP c.vars made x23.c=true by assumption)⟩),j0⟩
 refine g10 ?_;refine bB (sZ.sl (.slice c.outs.addr c.outs.list.length c.outs.cap) c.outs.list) (outsF_s (coreF_o d9)) ?_;refine qU (bO func32 rfl rfl) (bMn c.outs.addr c.outs.cap c.outs.list n7 33 [.pointer (some ⟨b1,0,none⟩)] [Fact.cells b1 0 [.int .i64 c.vars,.slice c.bufs.addr c.bufs.list.length c.bufs.cap,.slice c.steps.addr c.steps.list.length c.steps.cap,.slice c.outs.addr c.outs.list.length c.outs.cap]] (outB c.bufs.list.length) (bO func33 rfl rfl) (fun k=>right1_spec b1 c k)) rfl rfl rfl rfl rfl .nil (.c3 .nil) (rI xB) ⟨d8,d7,j0⟩ (fun _=>True) (fun _ _ _ _=>trivial) fun _ _=>?_;refine g5 ?_;have hr:=steps_end hinv15.2 (by show(dX c.steps.list).length≤k;rw [iG];omega);subst hr;exact rs1 () j0 (he:=congrArg Value.bool (outs_all (cR _)))
section
variable {β : dF} {n : Nat} {Γ : Env} {H : List bH} {F : List Fact} {Q : Exit → Act → World → Prop} {ops : Array Oper} {rest : List Oper} {o : Oper} {d : Nat}
theorem at_makeBools{m:Nat}{x y:Operand}(hw:want ops Γ o=some true)(ho:o.op= .makeSlice 61 x y)(hd:o.dst=some d)(hn:Nat.blt d n=true)
  (hx:Γ.ev x=some (.int .i64 (m:Nat))) (hy:Γ.ev y=some (.int .i64 (m:Nat))) (hm:m≤1000000)
  (k: ∀b,At β n ((d,.slice (some ⟨b,0,none⟩) m m)::Γ) (nW.row (.slice (some ⟨b,0,none⟩) m m) 4 (List.replicate m false)::H) F (wpList prog ops Q rest)):At β n Γ H F (wpList prog ops Q (o::rest)):=by
 obtain⟨i,hi,hz,hs,hb⟩:=bSl;refine at_make (E:=nW) hw ho hd hn hx hy underlying61 hi hz hs (by rw [hb];omega) (by simp [maxLen];omega) ?_ o6 k
 have e: ∀m,nW.all (List.replicate m false)=List.replicate m (.bool false):=fun m=>by
  induction m with
  | zero=>rfl
  | succ m ih=>rw [List.replicate_succ,List.replicate_succ,←ih];rfl
 rw [e];unfold madeCells;apply List.ext_getElem
 ·simp [nW]
 ·intro i h1 h2;simp [Value.cells,Nat.mod_one]
end
theorem fD.cons{P:Program}{T:Tab}{t:Nat}{i:TI}(h:(P.underlying t).map TD.of=some i.desc∧(P.info? t).map (·.size)=some i.size)(hT:fD P T):fD P ((t,i)::T):=fun u j hu=>by
 unfold Tab.get at hu
 cases hb:Nat.beq t u with
 | true=>
  have:=Nat.eq_of_beq_eq_true hb;subst this;simp at hu;subst hu;exact h
 | false=>
  simp [hb] at hu;exact hT u j hu
def lowRT:Tab:=(61,⟨.slice 4,1⟩)::lowT
theorem lowRT_ok:fD prog lowRT:=fD.cons ⟨by rw [underlying61];rfl,n9⟩ iC
def MdI (c:wY)(dn:List Bool)(i:Nat):Prop:=dn.length=c.bufs.length∧ ∀(k:Nat) b,k<i→c.bufs[k]?=some b→0≤b.input→dn[k]?=some true
def MdS (c:wY)(dn:List Bool)(k:Nat):Prop:=dn.length=c.bufs.length∧(∀(j:Nat) b,c.bufs[j]?=some b→0≤b.input→dn[j]?=some true)∧ ∀x∈c.steps.take k,∀j:Nat,x.buf=(j:Int)→j<c.bufs.length→dn[j]?=some true
section
variable {c : wY} {dn : List Bool} {i k m : Nat}
theorem mdI_start(h:m=c.bufs.length):MdI c (List.replicate m false) 0:=⟨by simp [h],fun k b hk=>by omega⟩
theorem mdI_next(h:MdI c dn i){b:rG}(hb:c.bufs[i]?=some b){v:Bool}(hv:v=decide (0≤b.input)):MdI c (dn.set i v) (i+1):=by
 refine⟨by rw [List.length_set];exact h.1,fun k u hk hu h0=>?_⟩;rw [List.getElem?_set]
 by_cases e:i=k
 ·subst e;rw [hb] at hu;cases hu;rw [if_pos rfl,if_pos (by rw [h.1];exact(List.getElem?_eq_some_iff.1 hb).1),hv,decide_eq_true h0]
 ·rw [if_neg e];exact h.2 k u n7 hu h0
theorem mdS_start(h:MdI c dn i)(hi:c.bufs.length≤i):MdS c dn 0:=⟨h.1,fun j b hb h0=>h.2 j b (by have:=(List.getElem?_eq_some_iff.1 hb).1;omega) hb h0,fun x hx=>by simp at hx⟩
theorem bQm{j q:Nat}(h:q=j∧j<dn.length∨dn[j]?=some true):(dn.set q true)[j]?=some true:=by
 rw [List.getElem?_set]
 by_cases e:q=j
 ·rw [if_pos e]
  rcases h with h | h
  ·rw [if_pos n7]
  ·rw [if_pos (by have:=(List.getElem?_eq_some_iff.1 h).1;omega)]
 ·rw [if_neg e]
  rcases h with h | h
  ·exact absurd h.1 e
  ·exact h
theorem mdS_next(h:MdS c dn k){x:zI}(hx:c.steps[k]?=some x){q:Nat}(hq:x.buf=(q:Int)):MdS c (dn.set q true) (k+1):=by
 refine⟨by rw [List.length_set];exact h.1,fun j b hb h0=>bQm (.inr (h.2.1 j b hb h0)),fun y hy j hj hl=>?_⟩;obtain⟨hi,e⟩:=List.getElem?_eq_some_iff.1 hx;rw [List.take_succ_eq_append_getElem hi,e] at hy
 rcases List.mem_append.1 hy with hy | hy
 ·exact bQm (.inr (h.2.2 y hy j hj hl))
 ·rw [List.mem_singleton.1 hy,hq] at hj;exact bQm (.inl ⟨n7,by rw [h.1];exact hl⟩)
theorem mdS_all(h:MdS c dn k)(hk:c.steps.length≤k)(hm: ∀(k:Nat) b,c.bufs[k]?=some b→0≤b.input∨ ∃x∈c.steps,x.buf=(k:Int)){j:Nat}{v:Bool}(hv:dn[j]?=some v):v=true:=by
 have hj:j<c.bufs.length:=by rw [←h.1];exact(List.getElem?_eq_some_iff.1 hv).1
 have:dn[j]?=some true:=by
  rcases hm j c.bufs[j] (List.getElem?_eq_getElem hj) with h0 | ⟨x,hx,e⟩
  ·exact h.2.1 j _ (List.getElem?_eq_getElem hj) h0
  ·exact h.2.2 x (by rw [List.take_of_length_le hk];exact hx) j e hj
 rw [hv] at this;injection this
end
theorem right_few{c:wY}(h:wJ c=true):c.bufs.length≤1024∧c.steps.length≤1024:=by
 unfold wJ at h;rw [Bool.and_eq_true,decide_eq_true_eq] at h;exact⟨h.1.2.2.1,h.1.2.2.2.1⟩
theorem core_none{c:CoreV}(h:c.c=noCore):c.bufs.list.length=0∧c.steps.list.length=0∧c.outs.list.length=0:=by
 have h1:(iM c.bufs.list).length=0:=by rw [show iM c.bufs.list=c.c.bufs from rfl,h];rfl
 have h2:(dX c.steps.list).length=0:=by rw [show dX c.steps.list=c.c.steps from rfl,h];rfl
 have h3:c.outs.list.length=0:=by rw [show c.outs.list=c.c.outs from rfl,h];rfl
 rw [cR] at h1;rw [iG] at h2;exact⟨h1,h2,h3⟩
end Go.Proofs.YtakphiannlpnfaaGreatDoor
namespace Go.Proofs.YtakphiannlpnfaaGreatDoor.lowerRight
open Go.ChangeShapes Go.WideShapes Go.ChangeAt Go.RowKit Go.Proofs.Tryz
theorem law_spec(P:ProgV)(hP:uN P)(hl1:P.inputs.list.length≤140737488355328)(hl2:P.lines.list.length≤140737488355328):cM prog 6 [.agg #[.slice P.inputs.addr P.inputs.list.length P.inputs.cap,.slice P.lines.addr P.lines.list.length P.lines.cap]] [] [iW,kR.sl (.slice P.inputs.addr P.inputs.list.length P.inputs.cap) P.inputs.list,jE P.inputs.list,pV.sl (.slice P.lines.addr P.lines.list.length P.lines.cap) P.lines.list,nE P.lines.list] (fun(_:Unit)=> .bool true) (fun _=>[]) (fun _=>[]):=by
 have hT:=lowRT_ok;refine k6 func6 ntmps6 ?_;intro β hM;refine g2 ?_;refine j9 fun b1=>?_;refine g5 ?_;refine j5 func7 (shown11_spec) ⟨d7,j0⟩ fun _=>?_;refine g6 ?_;refine j5 func8 (bKb P hP hl1 hl2) ⟨d7,d8,d9,e6,e7,j0⟩ fun c=>?_;refine bC d8 fun hc=>bB (bBl.sl (.slice c.bufs.addr c.bufs.list.length c.bufs.cap) c.bufs.list) (bMw (xM d7))<|bB (mJ.sl (.slice c.steps.addr c.steps.list.length c.steps.cap) c.steps.list) (bNz (bCg d8))<|bB (sZ.sl (.slice c.outs.addr c.outs.list.length c.outs.cap) c.outs.list) (outsF_s (coreF_o d9))<|bB (Fact.each c.bufs.list bHu) (bufsF_e (xM e6))<|bB (Fact.each c.steps.list fZ) (bSy (bCg e7)) ?_;refine g3 ?_;refine j6 bDu fun b2=>?_;refine j6 bFo fun b3=>?_;refine g8 ?_;refine ss (k7 (bAb)) ?_;refine ss (gC ⟨(gT P.pr).2.1,(gT P.pr).2.2⟩ ⟨0,0⟩ rfl rfl rfl) ?_;refine g2 ?_;refine jJ (fun hc18=>?_) fun hc18=>?_
 ·refine cO ?_;have hlf:=flt_not (by assumption:pB ⟨(gT P.pr).2.1,(gT P.pr).2.2⟩ ⟨0,0⟩=false);obtain⟨hz1,hz2,hz3⟩:=core_none (hc.trans (lower_none hlf));refine g7 ?_;refine bM (t':=true) (beq_iff_eq.2 n7) ?_;refine g6 ?_;refine bM (t':=true) (beq_iff_eq.2 n7) ?_;refine g6 ?_;refine bM (t':=true) (beq_iff_eq.2 n7) ?_;refine g6 ?_;exact rs1 () trivial
 refine g3 ?_;have hlo:=flt_of (by assumption:pB ⟨(gT P.pr).2.1,(gT P.pr).2.2⟩ ⟨0,0⟩=true);obtain⟨hrc,hmk,hsb,hol⟩:=lower_right hlo;rw [←hc] at hrc hmk hsb hol;have hnb:c.c.bufs.length=c.bufs.list.length:=cR _;have hns:c.c.steps.length=c.steps.list.length:=iG _;have hn4:c.bufs.list.length≤1024∧c.steps.list.length≤1024:=by have:=right_few hrc;omega
 have hol2:c.outs.list.length=P.lines.list.length:=hol.trans (List.length_map _);refine g4 ?_;refine at_makeBools (m:=c.bufs.list.length) rfl rfl rfl rfl rfl rfl n7 fun b4=>?_;refine g13 ?_;refine cB (ι:=Nat×List Bool) [(1,_),(3,_),(4,_),(6,_),(44,_)] ⟨rfl,rfl,rfl,rfl,rfl,j0⟩ (fun⟨i,dn⟩=>[(45,.int .i64 (i:Nat))]) (fun⟨i,dn⟩=>[nW.row (.slice (some ⟨b4,0,none⟩) c.bufs.list.length c.bufs.list.length) 4 dn]) (fun⟨i,dn⟩=>[Fact.pure (i≤c.bufs.list.length∧MdI c.c dn i)]) (fun⟨i,dn⟩=>c.bufs.list.length-i) (0,List.replicate c.bufs.list.length false) ⟨rfl,j0⟩ (.c0 .nil) ⟨j3 (⟨n7,mdI_start hnb.symm⟩),j0⟩ ?_;rintro⟨i,dn⟩;dsimp only;refine bC d7 fun hinv7=>?_;have hdl:dn.length=c.bufs.list.length:=hinv7.2.1.trans hnb;refine g6 ?_;refine dJ (fun hc46=>?_) fun hc46=>?_
 ·refine g16 ?_;obtain⟨x5,hx6⟩:=gx c.bufs.list i;refine ss (ixs i) ?_;refine one ?_;refine ss (fL hx6 1) ?_;refine one ?_;obtain⟨x7,hx8⟩:=gx dn i;refine ss (cF hT (k:=i) (cN .head) rfl rfl rfl rfl rfl hdl.symm rfl n7) ?_;refine fH hT (k:=i) (fo:=0) (y':=(decide (0≤x5.input))) .head rfl rfl rfl rfl rfl rfl rfl rfl rfl hx8 rfl ?_;refine g5 ?_;refine inc (i+1) ?_;refine g3 ?_;exact bk2 (i+1,(dn.set i (decide (0≤x5.input)))) ⟨j3 (⟨by dsimp only;omega,mdI_next hinv7.2 (lH hx6) rfl⟩),j0⟩
 refine g15 ?_;refine cB (ι:=Nat×List Bool) [(1,_),(3,_),(4,_),(6,_),(61,_)] ⟨rfl,rfl,rfl,rfl,rfl,j0⟩ (fun⟨k,dn⟩=>[(62,.int .i64 (k:Nat))]) (fun⟨k,dn⟩=>[nW.row (.slice (some ⟨b4,0,none⟩) c.bufs.list.length c.bufs.list.length) 4 dn]) (fun⟨k,dn⟩=>[Fact.pure (k≤c.steps.list.length∧MdS c.c dn k)]) (fun⟨k,dn⟩=>c.steps.list.length-k) (0,dn) ⟨rfl,j0⟩ (.c0 .nil) ⟨j3 (⟨n7,mdS_start hinv7.2 n7⟩),j0⟩ ?_;rintro⟨k,dn⟩;dsimp only;refine bC d7 fun hinv12=>?_;have hd2:dn.length=c.bufs.list.length:=hinv12.2.1.trans hnb;refine g6 ?_;refine dJ (fun hc63=>?_) fun hc63=>?_
 ·refine g12 ?_;obtain⟨x9,hx10⟩:=gx c.steps.list k;obtain⟨q,hq,hql⟩:=hsb x9.c (j4 (rD hx10))
  replace hq:x9.buf=(q:Int):=hq
  refine g4 ?_;refine ss (ixs k) ?_;refine one ?_;refine ss (fL hx10 1) ?_;refine one ?_;refine bM (t':=false) (decide_eq_false n7) ?_;refine g4 ?_;refine ss (ixs k) ?_;refine one ?_;refine ss (fL hx10 1) ?_;refine g3 ?_;refine bM (t':=false) (decide_eq_false n7) ?_;refine g11 ?_;refine ss (ixs k) ?_;refine one ?_;refine ss (fL hx10 1) ?_;obtain⟨x11,hx12⟩:=gx dn x9.buf.toNat;refine ss (cF hT (k:=x9.buf.toNat) (cN .head) rfl rfl rfl rfl rfl hd2.symm n7 n7) ?_;refine fH hT (k:=x9.buf.toNat) (fo:=0) (y':=(true)) .head rfl rfl rfl rfl rfl rfl rfl rfl rfl hx12 rfl ?_;refine g5 ?_;refine inc (k+1) ?_;refine g3 ?_;exact bk2 (k+1,(dn.set x9.buf.toNat (true))) ⟨j3 (⟨by dsimp only;omega,mdS_next hinv12.2 (rD hx10) (show x9.buf=((x9.buf.toNat:Nat):Int) by omega)⟩),j0⟩
 refine g14 ?_;refine cB (ι:=Nat) [(1,_),(3,_),(4,_),(6,_),(93,_)] ⟨rfl,rfl,rfl,rfl,rfl,j0⟩ (fun j=>[(94,.int .i64 (j:Nat))]) (fun _=>[]) (fun j=>[Fact.pure (j≤c.bufs.list.length)]) (fun j=>c.bufs.list.length-j) 0 ⟨rfl,j0⟩ .nil ⟨j3 n7,j0⟩ ?_;rintro j;refine bC d7 fun hinv19=>?_;refine g6 ?_;refine dJ (fun hc95=>?_) fun hc95=>?_
 ·refine g11 ?_;obtain⟨v13,hv14⟩:=gx dn j;obtain rfl:=mdS_all hinv12.2 n7 hmk hv14;refine g3 ?_;refine ss (cF hT (k:=j) (cN .head) rfl rfl rfl rfl rfl hd2.symm rfl n7) ?_;refine ss (fL hv14 0) ?_;refine one ?_;refine bM (t':=false) (by rfl) ?_;refine g8 ?_;refine inc (j+1) ?_;refine g3 ?_;exact bk2 (j+1) ⟨j3 n7,j0⟩
 refine g10 ?_;refine j5 func14 (Right_spec c) ⟨f4,j0⟩ fun _=>?_;refine bM (t':=true) hrc ?_;refine g9 ?_;refine bM (t':=true) (beq_iff_eq.2 n7) ?_;refine g5 ?_;exact rs1 () trivial
end Go.Proofs.YtakphiannlpnfaaGreatDoor.lowerRight
