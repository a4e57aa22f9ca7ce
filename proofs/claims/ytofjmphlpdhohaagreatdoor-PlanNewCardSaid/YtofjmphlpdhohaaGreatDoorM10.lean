/- Texts of one proof, one behind the other: CoY, CoZ, Above, RefRight, RefGrowsK. -/
import Derived.Test.YtofjmphlpdhohaaGreatDoorM9
import Derived.Test.YtofjmphlpdhohaaGreatDoorM6
import Derived.Test.YtofjmphlpdhohaaGreatDoorRows
import Derived.WalkKit
import Derived.WalkSpells
import Derived.WalkLawsBesides
import Derived.Handy
import Derived.Deep.QuietTactic
import Derived.Deep.Light
import Derived.BigQuiet
import Derived.Test.YtofjmphlpdhohaaGreatDoorM7
namespace Go.Proofs.YtofjmphlpdhohaaGreatDoor
open Go.RowKit
theorem fX{β:fR}{H:List bQ}{F:List bP}{b off:Nat}{cs:List Value}(h:Has F (bP.cells b 0 cs)):kQ β H F b off (cs.drop off):=fun w S _ k j u hj=>by
 rw [List.getElem?_drop] at hj;have:=(h S w k).2 (off+j) u hj
 rwa [Nat.zero_add] at this
def opV (vars loops buf:Int)(made:List Bool)(o:OpV):Bool:=
 if o.how=1 then (o.k==0)&&(((o.p.list.length:Int)==0)&&(o.fn==0))
 else if o.how=2 then ofB o.p.list vars&&((o.n==0)&&((o.k==0)&&(o.fn==0)))
 else if o.how=3 then decide (0≤o.k)&&(decide (o.k<loops)&&((o.n==0)&&(((o.p.list.length:Int)==0)&&(o.fn==0))))
 else if o.how=4 then decide (0≤o.k)&&(decide (o.k<(made.length:Int))&&((made[o.k.toNat]?).getD false&&((o.k !=buf)&&((o.n==0)&&(((o.p.list.length:Int)==0)&&(o.fn==0))))))
 else if o.how=5∨o.how=6 then gG o.fn (o.how==6)&&((o.n==0)&&((o.k==0)&&((o.p.list.length:Int)==0)))
 else false
theorem uB{vars loops buf:Int}{made:List Bool}{o:OpV}:opV vars loops buf made o=opB vars loops buf made o.c:=by
 have hp:o.c.p.isEmpty=((o.p.list.length:Int)==0):=by
  show o.p.list.isEmpty=_;rw [Bool.eq_iff_iff,List.isEmpty_iff,beq_iff_eq,Int.natCast_eq_zero,List.length_eq_zero_iff]
 unfold opV opB;rw [hp];show(if o.how=1 then _ else if o.how=2 then _ else if o.how=3 then _ else if o.how=4 then _ else if _ then _ else _)=(if o.how=1 then _ else if o.how=2 then _ else if o.how=3 then _ else if o.how=4 then _ else if _ then _ else _);split
 ·rfl
 ·split
  ·rfl
  ·split
   ·rw [Bool.eq_iff_iff];simp only [Bool.and_eq_true,decide_eq_true_eq];exact and_assoc.symm
   ·split
    ·rw [Bool.eq_iff_iff];simp only [Bool.and_eq_true,decide_eq_true_eq,List.getD_eq_getElem?_getD,bne_iff_ne];show 0≤o.k∧o.k<made.length∧(made[o.k.toNat]?).getD false=true∧o.k≠buf∧_↔(0≤o.k∧o.k≠buf)∧(made[o.k.toNat]?).getD false=true∧_;constructor
     ·rintro⟨a,_,c,d,e⟩;exact⟨⟨a,d⟩,c,e⟩
     ·rintro⟨⟨a,d⟩,c,e⟩;refine⟨a,?_,c,d,e⟩
      rcases Int.lt_or_le o.k made.length with h | h
      ·exact h
      ·rw [List.getElem?_eq_none (by omega)] at c;cases c
    ·rfl
section
variable {vars loops buf : Int} {made : List Bool} {o : OpV}
theorem fB(h:o.how=1):opB vars loops buf made o.c=((o.k==0)&&(((o.p.list.length:Int)==0)&&(o.fn==0))):=by
 rw [←uB];unfold opV;rw [if_pos h]
theorem fG(h:o.how=2):opB vars loops buf made o.c=(ofB o.p.list vars&&((o.n==0)&&((o.k==0)&&(o.fn==0)))):=by
 rw [←uB];unfold opV;rw [if_neg (by omega),if_pos h]
theorem fD(h:o.how=3):opB vars loops buf made o.c=(decide (0≤o.k)&&(decide (o.k<loops)&&((o.n==0)&&(((o.p.list.length:Int)==0)&&(o.fn==0))))):=by
 rw [←uB];unfold opV;rw [if_neg (by omega),if_neg (by omega),if_pos h]
theorem fH{x:Bool}(h:o.how=4)(hx:made[o.k.toNat]?=some x):opB vars loops buf made o.c=(decide (0≤o.k)&&(decide (o.k<(made.length:Int))&&(x&&((o.k !=buf)&&((o.n==0)&&(((o.p.list.length:Int)==0)&&(o.fn==0))))))):=by
 rw [←uB];unfold opV;rw [if_neg (by omega),if_neg (by omega),if_neg (by omega),if_pos h,hx];rfl
theorem dC(h:o.how=4)(hx: ¬(0≤o.k∧o.k<made.length)):opB vars loops buf made o.c=false:=by
 rw [←uB];unfold opV;rw [if_neg (by omega),if_neg (by omega),if_neg (by omega),if_pos h]
 by_cases h0:0≤o.k
 ·rw [decide_eq_false (show ¬o.k<(made.length:Int) from fun e=>hx ⟨h0,e⟩)];simp
 ·rw [decide_eq_false h0];rfl
theorem fI(h:o.how=5):opB vars loops buf made o.c=(gG o.fn false&&((o.n==0)&&((o.k==0)&&((o.p.list.length:Int)==0)))):=by
 rw [←uB];unfold opV;rw [if_neg (by omega),if_neg (by omega),if_neg (by omega),if_neg (by omega),if_pos (.inl h),h];rfl
theorem fC(h:o.how=6):opB vars loops buf made o.c=(gG o.fn true&&((o.n==0)&&((o.k==0)&&((o.p.list.length:Int)==0)))):=by
 rw [←uB];unfold opV;rw [if_neg (by omega),if_neg (by omega),if_neg (by omega),if_neg (by omega),if_pos (.inr h),h];rfl
theorem fE(h1:o.how≠1)(h2:o.how≠2)(h3:o.how≠3)(h4:o.how≠4)(h5:o.how≠5)(h6:o.how≠6):opB vars loops buf made o.c=false:=by
 rw [←uB];unfold opV;rw [if_neg h1,if_neg h2,if_neg h3,if_neg h4,if_neg (fun h=>h.elim h5 h6)]
end
def pC {α:Type}(p:α→Bool):List α→Int→Int
 | [],_=> -1
 | s::r,i=>if p s=true then i else pC p r (i+1)
section
variable {α : Type} {p : α → Bool} {x : α} {l : List α} {i : Nat} {r : Int}
theorem pO(h:r=pC p (l.drop i) i)(hx:l[i]?=some x):(p x=true→r=i)∧(p x=false→r=pC p (l.drop (i+1)) ((i+1:Nat):Int)):=by
 rw [jX hx,pC] at h;refine⟨fun e=>by rw [if_pos e] at h;exact h,fun e=>by rw [if_neg (by rw [e];simp)] at h;rw [h];rfl⟩
theorem bFr(h:r=pC p (l.drop i) i)(hi:l.length≤i):r= -1:=by
 rw [List.drop_of_length_le hi] at h;exact h
end
theorem bFj{α:Type}(p:α→Bool): ∀(l:List α) (i:Int),0≤i→decide (0≤pC p l i)=l.any p
 | [],i,_=>rfl
 | s::r,i,h=>by
  rw [pC,List.any_cons]
  cases e:p s with
  | true=>simp [h]
  | false=>
   rw [if_neg (by simp),bFj p r (i+1) (by omega)];simp
def oU (vars:Int)(made:List Bool)(x:fY):Bool:=
 ofB x.at_.list vars&&(kI x.at_.list&&(hI (polsL x.loops.list) vars&&(!decide ((256:Int)<x.ops.list.length)&&(!decide (oP (qG x.ops.list)<0)&&
  ((if x.how=1 then x.fn==0 else if x.how=2∨x.how=3 then !((x.loops.list.length:Int)==0)&&gG x.fn true else false)&& !(x.ops.list.any fun o=>!opB vars x.loops.list.length x.buf made o.c))))))
theorem any_not{α:Type}(p:α→Bool)(l:List α):(!l.any fun o=>!p o)=l.all p:=by
 induction l with
 | nil=>rfl
 | cons x r ih=>rw [List.any_cons,List.all_cons,Bool.not_or,Bool.not_not,ih]
theorem iV{vars:Int}{made:List Bool}{x:fY}:oU vars made x=mG vars made x.c:=by
 have h1:x.c.ops.length=x.ops.list.length:=tW _;have h2:x.c.loops.length=x.loops.list.length:=cI _
 have h3:x.c.loops.isEmpty=((x.loops.list.length:Int)==0):=by
  show(polsL x.loops.list).isEmpty=_;rw [Bool.eq_iff_iff,List.isEmpty_iff,beq_iff_eq,Int.natCast_eq_zero,←List.length_eq_zero_iff,cI]
 have h4: ∀p:OpC→Bool,x.c.ops.all p= !(x.ops.list.any fun o=>!p o.c):=fun p=>by
  show(qG x.ops.list).all p=_;unfold qG;rw [List.all_map,any_not];rfl
 unfold oU mG;rw [h1,h2,h3,h4]
 have h5:(!decide ((256:Int)<x.ops.list.length))=decide (x.ops.list.length≤256):=by
  rw [←decide_not,decide_eq_decide];omega
 have h6:(!decide (oP (qG x.ops.list)<0))=decide (0≤oP (qG x.ops.list)):=by
  rw [←decide_not,decide_eq_decide];omega
 rw [h5,h6,Bool.and_assoc];rfl
set_option maxRecDepth 100000 in
theorem right_spec(bs:Nat)(vars loops buf:Int)(MA:Option Addr)(mc:Nat)(made:List Bool)(o:OpV):dG Tryz.prog 113 [.pointer (some ⟨bs,0,none⟩),.agg #[.int .i64 o.how,.int .i64 o.k,.int .i64 o.n,.slice o.p.addr o.p.list.length o.p.cap,.int .u8 o.fn]] [] [opF o,bP.cells bs 0 [.int .i64 vars,.int .i64 loops,.int .i64 buf,.slice MA made.length mc],gA.sl (.slice MA made.length mc) made] (fun(_:Unit)=> .bool (opB vars loops buf made o.c)) (fun _=>[]) (fun _=>[]):=by
 have hT:=dA;refine cJ Tryz.func113 rfl Tryz.ntmps113 rfl ?_;intro β hM;refine sr<|gC rfl rfl rfl rfl rfl rfl fun b1=>?_;refine sp hT ?_;refine nn<|bF<|dN _ _ [(true,0),(true,1),(true,2),(true,3),(true,4),(true,5),(true,6),(true,7),(true,8),(true,9),(true,10),(true,11)] dP (by decide+kernel) (.cons .head .nil) bH.self ?_;refine puM hT ?_;refine stM rfl (ldO hT (kC .head)) ?_;refine puM hT ?_;refine stM rfl (ldO hT (dE .head)) ?_;refine puM hT ?_;refine stM rfl (ldO hT (jJ .head)) ?_;refine puM hT ?_;refine stM rfl (ldO hT (yK .head)) ?_;refine puM hT ?_;refine puM hT ?_;refine puM hT ?_;refine puM hT ?_;refine cO<|bD<|sr<|sp hT ?_;refine nn<|bF<|sr<|sp hT ?_;refine ss (ldO hT (cS .head)) ?_;refine nn<|bO<|sr<|sp2 hT ?_;refine nn<|bN rfl (fun hc20=>?_) (fun hc20=>?_)
 ·have hc20_r:=hc20;have hc20:=eq_of_beq hc20;refine bB<|sp2 hT ?_;refine fW<|bT<|bD<|sr<|sp4 hT ?_;refine dF (t':=true) (by decide) ?_;refine sp4 hT ?_;refine sp2 hT ?_;refine bY (fun hg97=>?_) (fun hg97=>?_)
  ·have hg97:=eq_of_beq hg97;refine sp4 hT ?_;refine sp hT ?_;refine bY (fun hg102=>?_) (fun hg102=>?_)
   ·have hg102:=eq_of_beq hg102;refine sp4 hT ?_;refine nn<|bL ?_;exact bI () rfl (rv_tmp rfl) .nil trivial (by first | (rw [fB ‹_›];simp [*];done) | (rw [fG ‹_›];simp [*];done) | (rw [fD ‹_›];simp [*];done) | (rw [fH ‹_› ‹_›];simp [*];done) | (rw [dC ‹_› (by omega)];done) | (rw [fI ‹_›];simp [*];done) | (rw [fC ‹_›];simp [*];done) | rw [fE ‹_› ‹_› ‹_› ‹_› ‹_› ‹_›])
   have hg102:=beq_eq_false_iff_ne.1 hg102;refine sk2 ?_;refine sp2 hT ?_;refine nn<|bL ?_;exact bI () rfl (rv_tmp rfl) .nil trivial (by first | (rw [fB ‹_›];simp [*];done) | (rw [fG ‹_›];simp [*];done) | (rw [fD ‹_›];simp [*];done) | (rw [fH ‹_› ‹_›];simp [*];done) | (rw [dC ‹_› (by omega)];done) | (rw [fI ‹_›];simp [*];done) | (rw [fC ‹_›];simp [*];done) | rw [fE ‹_› ‹_› ‹_› ‹_› ‹_› ‹_›])
  have hg97:=beq_eq_false_iff_ne.1 hg97;refine sk3 ?_;refine sp2 hT ?_;refine sk2 ?_;refine sp2 hT ?_;refine nn<|bL ?_;exact bI () rfl (rv_tmp rfl) .nil trivial (by first | (rw [fB ‹_›];simp [*];done) | (rw [fG ‹_›];simp [*];done) | (rw [fD ‹_›];simp [*];done) | (rw [fH ‹_› ‹_›];simp [*];done) | (rw [dC ‹_› (by omega)];done) | (rw [fI ‹_›];simp [*];done) | (rw [fC ‹_›];simp [*];done) | rw [fE ‹_› ‹_› ‹_› ‹_› ‹_› ‹_›])
 have hc20_r:=hc20;have hc20:=beq_eq_false_iff_ne.1 hc20;refine sr<|sp2 hT ?_;refine nn<|bN rfl (fun hc22=>?_) (fun hc22=>?_)
 ·have hc22_r:=hc22;have hc22:=eq_of_beq hc22;refine dN _ _ [(true,0),(true,1),(true,2),(true,3),(true,4),(true,5),(false,6),(true,7),(true,8)] dP (by decide+kernel) (.cons .head .nil) bH.self ?_;refine puM hT ?_;refine stM rfl (ldO hT (jJ .head)) ?_;refine puM hT ?_;refine puM hT ?_;refine puM hT ?_;refine stM rfl (bM hT (fX (off:=0) (Has.of mT1)) rfl rfl rfl rfl rfl) ?_;refine dD (o:=_) rfl ?_;refine cP Tryz.func107 (of_spec o.p vars) rfl rfl .nil ⟨(Has.of mT0),trivial⟩ fun _=>?_;refine dB (.cons .head .nil) (bH.drop 0) ?_;refine puM hT ?_;refine puM hT ?_;refine cO<|bT<|bD<|sr<|sp2 hT ?_;refine bY (fun hg89=>?_) (fun hg89=>?_)
  ·refine sp4 hT ?_;refine bY (fun hg93=>?_) (fun hg93=>?_)
   ·have hg93:=eq_of_beq hg93;refine sp4 hT ?_;refine bY (fun hg97=>?_) (fun hg97=>?_)
    ·have hg97:=eq_of_beq hg97;refine sp3 hT ?_;refine dF (t':=true) (by decide) ?_;refine sp4 hT ?_;refine sp2 hT ?_;refine nn<|bL ?_;exact bI () rfl (rv_tmp rfl) .nil trivial (by first | (rw [fB ‹_›];simp [*];done) | (rw [fG ‹_›];simp [*];done) | (rw [fD ‹_›];simp [*];done) | (rw [fH ‹_› ‹_›];simp [*];done) | (rw [dC ‹_› (by omega)];done) | (rw [fI ‹_›];simp [*];done) | (rw [fC ‹_›];simp [*];done) | rw [fE ‹_› ‹_› ‹_› ‹_› ‹_› ‹_›])
    have hg97:=beq_eq_false_iff_ne.1 hg97;refine sk3 ?_;refine sp2 hT ?_;refine sk2 ?_;refine sp2 hT ?_;refine nn<|bL ?_;exact bI () rfl (rv_tmp rfl) .nil trivial (by first | (rw [fB ‹_›];simp [*];done) | (rw [fG ‹_›];simp [*];done) | (rw [fD ‹_›];simp [*];done) | (rw [fH ‹_› ‹_›];simp [*];done) | (rw [dC ‹_› (by omega)];done) | (rw [fI ‹_›];simp [*];done) | (rw [fC ‹_›];simp [*];done) | rw [fE ‹_› ‹_› ‹_› ‹_› ‹_› ‹_›])
   have hg93:=beq_eq_false_iff_ne.1 hg93;refine sk2 ?_;refine sp2 hT ?_;refine sk3 ?_;refine sp2 hT ?_;refine sk2 ?_;refine sp2 hT ?_;refine nn<|bL ?_;exact bI () rfl (rv_tmp rfl) .nil trivial (by first | (rw [fB ‹_›];simp [*];done) | (rw [fG ‹_›];simp [*];done) | (rw [fD ‹_›];simp [*];done) | (rw [fH ‹_› ‹_›];simp [*];done) | (rw [dC ‹_› (by omega)];done) | (rw [fI ‹_›];simp [*];done) | (rw [fC ‹_›];simp [*];done) | rw [fE ‹_› ‹_› ‹_› ‹_› ‹_› ‹_›])
  refine sk2 ?_;refine sp2 hT ?_;refine sk2 ?_;refine sp2 hT ?_;refine sk3 ?_;refine sp2 hT ?_;refine sk2 ?_;refine sp2 hT ?_;refine nn<|bL ?_;exact bI () rfl (rv_tmp rfl) .nil trivial (by first | (rw [fB ‹_›];simp [*];done) | (rw [fG ‹_›];simp [*];done) | (rw [fD ‹_›];simp [*];done) | (rw [fH ‹_› ‹_›];simp [*];done) | (rw [dC ‹_› (by omega)];done) | (rw [fI ‹_›];simp [*];done) | (rw [fC ‹_›];simp [*];done) | rw [fE ‹_› ‹_› ‹_› ‹_› ‹_› ‹_›])
 have hc22_r:=hc22;have hc22:=beq_eq_false_iff_ne.1 hc22;refine sr<|sp2 hT ?_;refine nn<|bN rfl (fun hc31=>?_) (fun hc31=>?_)
 ·have hc31_r:=hc31;have hc31:=eq_of_beq hc31;refine dN _ _ [(true,0),(true,1),(true,2),(true,3),(true,4),(true,5),(true,6),(true,7),(true,8),(true,9),(true,10),(true,11),(true,12),(true,13)] dP (by decide+kernel) (.cons .head .nil) bH.self ?_;refine puM hT ?_;refine stM rfl (ldO hT (dE .head)) ?_;refine puM hT ?_;refine puM hT ?_;refine bY (fun hg36=>?_) (fun hg36=>?_)
  ·have hg36:=of_decide_eq_true hg36;refine puM hT ?_;refine stM rfl (ldO hT (dE .head)) ?_;refine puM hT ?_;refine puM hT ?_;refine puM hT ?_;refine stM rfl (bM hT (fX (off:=1) (Has.of mT1)) rfl rfl rfl rfl rfl) ?_;refine puM hT ?_;refine puM hT ?_;refine puM hT ?_;refine puM hT ?_;refine cO<|bT<|bD<|sr<|sp2 hT ?_;refine bY (fun hg89=>?_) (fun hg89=>?_)
   ·have hg89:=of_decide_eq_true hg89;refine sp4 hT ?_;refine bY (fun hg93=>?_) (fun hg93=>?_)
    ·have hg93:=eq_of_beq hg93;refine sp2 hT ?_;refine dF (t':=true) (by decide) ?_;refine sp4 hT ?_;refine sp3 hT ?_;refine bY (fun hg102=>?_) (fun hg102=>?_)
     ·have hg102:=eq_of_beq hg102;refine sp4 hT ?_;refine nn<|bL ?_;exact bI () rfl (rv_tmp rfl) .nil trivial (by first | (rw [fB ‹_›];simp [*];done) | (rw [fG ‹_›];simp [*];done) | (rw [fD ‹_›];simp [*];done) | (rw [fH ‹_› ‹_›];simp [*];done) | (rw [dC ‹_› (by omega)];done) | (rw [fI ‹_›];simp [*];done) | (rw [fC ‹_›];simp [*];done) | rw [fE ‹_› ‹_› ‹_› ‹_› ‹_› ‹_›])
     have hg102:=beq_eq_false_iff_ne.1 hg102;refine sk2 ?_;refine sp2 hT ?_;refine nn<|bL ?_;exact bI () rfl (rv_tmp rfl) .nil trivial (by first | (rw [fB ‹_›];simp [*];done) | (rw [fG ‹_›];simp [*];done) | (rw [fD ‹_›];simp [*];done) | (rw [fH ‹_› ‹_›];simp [*];done) | (rw [dC ‹_› (by omega)];done) | (rw [fI ‹_›];simp [*];done) | (rw [fC ‹_›];simp [*];done) | rw [fE ‹_› ‹_› ‹_› ‹_› ‹_› ‹_›])
    have hg93:=beq_eq_false_iff_ne.1 hg93;refine sk2 ?_;refine sp2 hT ?_;refine sk3 ?_;refine sp2 hT ?_;refine sk2 ?_;refine sp2 hT ?_;refine nn<|bL ?_;exact bI () rfl (rv_tmp rfl) .nil trivial (by first | (rw [fB ‹_›];simp [*];done) | (rw [fG ‹_›];simp [*];done) | (rw [fD ‹_›];simp [*];done) | (rw [fH ‹_› ‹_›];simp [*];done) | (rw [dC ‹_› (by omega)];done) | (rw [fI ‹_›];simp [*];done) | (rw [fC ‹_›];simp [*];done) | rw [fE ‹_› ‹_› ‹_› ‹_› ‹_› ‹_›])
   have hg89:=Int.not_lt.1 (of_decide_eq_false hg89);refine sk2 ?_;refine sp2 hT ?_;refine sk2 ?_;refine sp2 hT ?_;refine sk3 ?_;refine sp2 hT ?_;refine sk2 ?_;refine sp2 hT ?_;refine nn<|bL ?_;exact bI () rfl (rv_tmp rfl) .nil trivial (by first | (rw [fB ‹_›];simp [*];done) | (rw [fG ‹_›];simp [*];done) | (rw [fD ‹_›];simp [*];done) | (rw [fH ‹_› ‹_›];simp [*];done) | (rw [dC ‹_› (by omega)];done) | (rw [fI ‹_›];simp [*];done) | (rw [fC ‹_›];simp [*];done) | rw [fE ‹_› ‹_› ‹_› ‹_› ‹_› ‹_›])
  have hg36:=Int.not_le.1 (of_decide_eq_false hg36);refine bC rfl rfl rfl rfl ?_;refine bC rfl rfl rfl rfl ?_;refine bC rfl rfl rfl rfl ?_;refine bC rfl rfl rfl rfl ?_;refine bC rfl rfl rfl rfl ?_;refine bC rfl rfl rfl rfl ?_;refine bC rfl rfl rfl rfl ?_;refine puM hT ?_;refine puM hT ?_;refine puM hT ?_;refine cO<|bT<|bD<|sr<|sp2 hT ?_;refine sk2 ?_;refine sp2 hT ?_;refine sk2 ?_;refine sp2 hT ?_;refine sk3 ?_;refine sp2 hT ?_;refine sk2 ?_;refine sp2 hT ?_;refine nn<|bL ?_;exact bI () rfl (rv_tmp rfl) .nil trivial (by first | (rw [fB ‹_›];simp [*];done) | (rw [fG ‹_›];simp [*];done) | (rw [fD ‹_›];simp [*];done) | (rw [fH ‹_› ‹_›];simp [*];done) | (rw [dC ‹_› (by omega)];done) | (rw [fI ‹_›];simp [*];done) | (rw [fC ‹_›];simp [*];done) | rw [fE ‹_› ‹_› ‹_› ‹_› ‹_› ‹_›])
 have hc31_r:=hc31;have hc31:=beq_eq_false_iff_ne.1 hc31;refine sr<|sp2 hT ?_;refine nn<|bN rfl (fun hc45=>?_) (fun hc45=>?_)
 ·have hc45_r:=hc45;have hc45:=eq_of_beq hc45;refine dN _ _ [(true,0),(true,1),(true,2),(true,3),(true,4),(true,5),(true,6),(true,7),(true,8),(true,9),(true,10),(true,11),(true,12),(true,13),(true,14),(true,15),(true,16),(true,17),(true,18),(true,19),(true,20),(true,21),(true,22),(true,23),(true,24),(true,25),(true,26),(true,27),(true,28),(true,29),(true,30),(true,31),(true,32),(true,33)] dP (by decide+kernel) (.cons .head .nil) bH.self ?_;refine puM hT ?_;refine stM rfl (ldO hT (dE .head)) ?_;refine puM hT ?_;refine puM hT ?_;refine bY (fun hg50=>?_) (fun hg50=>?_)
  ·have hg50:=of_decide_eq_true hg50;refine puM hT ?_;refine stM rfl (ldO hT (dE .head)) ?_;refine puM hT ?_;refine puM hT ?_;refine puM hT ?_;refine stM rfl (bM hT (fX (off:=3) (Has.of mT1)) rfl rfl rfl rfl rfl) ?_;refine puM hT ?_;refine puM hT ?_;refine puM hT ?_;refine puM hT ?_;refine bY (fun hg60=>?_) (fun hg60=>?_)
   ·have hg60:=of_decide_eq_true hg60;refine puM hT ?_;refine puM hT ?_;refine puM hT ?_;refine stM rfl (bM hT (fX (off:=3) (Has.of mT1)) rfl rfl rfl rfl rfl) ?_;refine puM hT ?_;refine stM rfl (ldO hT (dE .head)) ?_
    obtain⟨x3,hx4⟩: ∃x',made[o.k.toNat]?=some x':=⟨_,List.getElem?_eq_getElem (by omega)⟩
    refine stM rfl (bG hT (k:=o.k.toNat) (bA (Has.of mT2)) rfl rfl rfl rfl rfl rfl (by omega) (by omega)) ?_;refine stM rfl (bM hT (bX.knows (bA (Has.of mT2)) (k:=o.k.toNat) (x:=x3) hx4 0) rfl rfl rfl rfl rfl) ?_;refine puM hT ?_;refine puM hT ?_;refine bY (fun hg70=>?_) (fun hg70=>?_)
    ·refine puM hT ?_;refine stM rfl (ldO hT (dE .head)) ?_;refine puM hT ?_;refine puM hT ?_;refine puM hT ?_;refine stM rfl (bM hT (fX (off:=2) (Has.of mT1)) rfl rfl rfl rfl rfl) ?_;refine puM hT ?_;refine puM hT ?_;refine puM hT ?_;refine puM hT ?_;refine cO<|bT<|bD<|sr<|sp2 hT ?_;refine bY (fun hg89=>?_) (fun hg89=>?_)
     ·have hg89:=bne_iff_ne.1 hg89;refine sp4 hT ?_;refine bY (fun hg93=>?_) (fun hg93=>?_)
      ·have hg93:=eq_of_beq hg93;refine sp2 hT ?_;refine dF (t':=true) (by decide) ?_;refine sp4 hT ?_;refine sp3 hT ?_;refine bY (fun hg102=>?_) (fun hg102=>?_)
       ·have hg102:=eq_of_beq hg102;refine sp4 hT ?_;refine nn<|bL ?_;exact bI () rfl (rv_tmp rfl) .nil trivial (by first | (rw [fB ‹_›];simp [*];done) | (rw [fG ‹_›];simp [*];done) | (rw [fD ‹_›];simp [*];done) | (rw [fH ‹_› ‹_›];simp [*];done) | (rw [dC ‹_› (by omega)];done) | (rw [fI ‹_›];simp [*];done) | (rw [fC ‹_›];simp [*];done) | rw [fE ‹_› ‹_› ‹_› ‹_› ‹_› ‹_›])
       have hg102:=beq_eq_false_iff_ne.1 hg102;refine sk2 ?_;refine sp2 hT ?_;refine nn<|bL ?_;exact bI () rfl (rv_tmp rfl) .nil trivial (by first | (rw [fB ‹_›];simp [*];done) | (rw [fG ‹_›];simp [*];done) | (rw [fD ‹_›];simp [*];done) | (rw [fH ‹_› ‹_›];simp [*];done) | (rw [dC ‹_› (by omega)];done) | (rw [fI ‹_›];simp [*];done) | (rw [fC ‹_›];simp [*];done) | rw [fE ‹_› ‹_› ‹_› ‹_› ‹_› ‹_›])
      have hg93:=beq_eq_false_iff_ne.1 hg93;refine sk2 ?_;refine sp2 hT ?_;refine sk3 ?_;refine sp2 hT ?_;refine sk2 ?_;refine sp2 hT ?_;refine nn<|bL ?_;exact bI () rfl (rv_tmp rfl) .nil trivial (by first | (rw [fB ‹_›];simp [*];done) | (rw [fG ‹_›];simp [*];done) | (rw [fD ‹_›];simp [*];done) | (rw [fH ‹_› ‹_›];simp [*];done) | (rw [dC ‹_› (by omega)];done) | (rw [fI ‹_›];simp [*];done) | (rw [fC ‹_›];simp [*];done) | rw [fE ‹_› ‹_› ‹_› ‹_› ‹_› ‹_›])
     have hg89:=bne_eq_false_iff_eq.1 hg89;refine sk2 ?_;refine sp2 hT ?_;refine sk2 ?_;refine sp2 hT ?_;refine sk3 ?_;refine sp2 hT ?_;refine sk2 ?_;refine sp2 hT ?_;refine nn<|bL ?_;exact bI () rfl (rv_tmp rfl) .nil trivial (by first | (rw [fB ‹_›];simp [*];done) | (rw [fG ‹_›];simp [*];done) | (rw [fD ‹_›];simp [*];done) | (rw [fH ‹_› ‹_›];simp [*];done) | (rw [dC ‹_› (by omega)];done) | (rw [fI ‹_›];simp [*];done) | (rw [fC ‹_›];simp [*];done) | rw [fE ‹_› ‹_› ‹_› ‹_› ‹_› ‹_›])
    refine bC rfl rfl rfl rfl ?_;refine bC rfl rfl rfl rfl ?_;refine bC rfl rfl rfl rfl ?_;refine bC rfl rfl rfl rfl ?_;refine bC rfl rfl rfl rfl ?_;refine bC rfl rfl rfl rfl ?_;refine bC rfl rfl rfl rfl ?_;refine puM hT ?_;refine puM hT ?_;refine puM hT ?_;refine cO<|bT<|bD<|sr<|sp2 hT ?_;refine sk2 ?_;refine sp2 hT ?_;refine sk2 ?_;refine sp2 hT ?_;refine sk3 ?_;refine sp2 hT ?_;refine sk2 ?_;refine sp2 hT ?_;refine nn<|bL ?_;exact bI () rfl (rv_tmp rfl) .nil trivial (by first | (rw [fB ‹_›];simp [*];done) | (rw [fG ‹_›];simp [*];done) | (rw [fD ‹_›];simp [*];done) | (rw [fH ‹_› ‹_›];simp [*];done) | (rw [dC ‹_› (by omega)];done) | (rw [fI ‹_›];simp [*];done) | (rw [fC ‹_›];simp [*];done) | rw [fE ‹_› ‹_› ‹_› ‹_› ‹_› ‹_›])
   have hg60:=Int.not_lt.1 (of_decide_eq_false hg60);refine bC rfl rfl rfl rfl ?_;refine bC rfl rfl rfl rfl ?_;refine bC rfl rfl rfl rfl ?_;refine bC rfl rfl rfl rfl ?_;refine bC rfl rfl rfl rfl ?_;refine bC rfl rfl rfl rfl ?_;refine bC rfl rfl rfl rfl ?_;refine bC rfl rfl rfl rfl ?_;refine puM hT ?_;refine puM hT ?_;refine bC rfl rfl rfl rfl ?_;refine bC rfl rfl rfl rfl ?_;refine bC rfl rfl rfl rfl ?_;refine bC rfl rfl rfl rfl ?_;refine bC rfl rfl rfl rfl ?_;refine bC rfl rfl rfl rfl ?_;refine bC rfl rfl rfl rfl ?_;refine puM hT ?_;refine puM hT ?_;refine puM hT ?_;refine cO<|bT<|bD<|sr<|sp2 hT ?_;refine sk2 ?_;refine sp2 hT ?_;refine sk2 ?_;refine sp2 hT ?_;refine sk3 ?_;refine sp2 hT ?_;refine sk2 ?_;refine sp2 hT ?_;refine nn<|bL ?_;exact bI () rfl (rv_tmp rfl) .nil trivial (by first | (rw [fB ‹_›];simp [*];done) | (rw [fG ‹_›];simp [*];done) | (rw [fD ‹_›];simp [*];done) | (rw [fH ‹_› ‹_›];simp [*];done) | (rw [dC ‹_› (by omega)];done) | (rw [fI ‹_›];simp [*];done) | (rw [fC ‹_›];simp [*];done) | rw [fE ‹_› ‹_› ‹_› ‹_› ‹_› ‹_›])
  have hg50:=Int.not_le.1 (of_decide_eq_false hg50);refine bC rfl rfl rfl rfl ?_;refine bC rfl rfl rfl rfl ?_;refine bC rfl rfl rfl rfl ?_;refine bC rfl rfl rfl rfl ?_;refine bC rfl rfl rfl rfl ?_;refine bC rfl rfl rfl rfl ?_;refine bC rfl rfl rfl rfl ?_;refine bC rfl rfl rfl rfl ?_;refine puM hT ?_;refine puM hT ?_;refine bC rfl rfl rfl rfl ?_;refine bC rfl rfl rfl rfl ?_;refine bC rfl rfl rfl rfl ?_;refine bC rfl rfl rfl rfl ?_;refine bC rfl rfl rfl rfl ?_;refine bC rfl rfl rfl rfl ?_;refine bC rfl rfl rfl rfl ?_;refine bC rfl rfl rfl rfl ?_;refine puM hT ?_;refine puM hT ?_;refine bC rfl rfl rfl rfl ?_;refine bC rfl rfl rfl rfl ?_;refine bC rfl rfl rfl rfl ?_;refine bC rfl rfl rfl rfl ?_;refine bC rfl rfl rfl rfl ?_;refine bC rfl rfl rfl rfl ?_;refine bC rfl rfl rfl rfl ?_;refine puM hT ?_;refine puM hT ?_;refine puM hT ?_;refine cO<|bT<|bD<|sr<|sp2 hT ?_;refine sk2 ?_;refine sp2 hT ?_;refine sk2 ?_;refine sp2 hT ?_;refine sk3 ?_;refine sp2 hT ?_;refine sk2 ?_;refine sp2 hT ?_;refine nn<|bL ?_;exact bI () rfl (rv_tmp rfl) .nil trivial (by first | (rw [fB ‹_›];simp [*];done) | (rw [fG ‹_›];simp [*];done) | (rw [fD ‹_›];simp [*];done) | (rw [fH ‹_› ‹_›];simp [*];done) | (rw [dC ‹_› (by omega)];done) | (rw [fI ‹_›];simp [*];done) | (rw [fC ‹_›];simp [*];done) | rw [fE ‹_› ‹_› ‹_› ‹_› ‹_› ‹_›])
 have hc45_r:=hc45;have hc45:=beq_eq_false_iff_ne.1 hc45;refine bF<|sr<|sp2 hT ?_;refine nn<|bN rfl (fun hc79=>?_) (fun hc79=>?_)
 ·have hc79_r:=hc79;have hc79:=eq_of_beq hc79;refine bJ<|bD<|cK rfl hc79_r ?_;refine bB<|sp hT ?_;refine ss (ldO hT (yK .head)) ?_;refine sp hT ?_;refine ss (ldO hT (cS .head)) ?_;refine sp hT ?_;refine dF (t':=false) (by rw [hc79];rfl) ?_;refine cP Tryz.func110 (qN _ _) rfl rfl .nil trivial fun _=>?_;refine sp2 hT ?_;refine fW<|bT<|bD<|sr<|sp2 hT ?_;refine bY (fun hg89=>?_) (fun hg89=>?_)
  ·refine sp4 hT ?_;refine bY (fun hg93=>?_) (fun hg93=>?_)
   ·have hg93:=eq_of_beq hg93;refine sp4 hT ?_;refine bY (fun hg97=>?_) (fun hg97=>?_)
    ·have hg97:=eq_of_beq hg97;refine sp4 hT ?_;refine sp hT ?_;refine bY (fun hg102=>?_) (fun hg102=>?_)
     ·have hg102:=eq_of_beq hg102;refine sp2 hT ?_;refine dF (t':=true) (by decide) ?_;refine sp2 hT ?_;refine nn<|bL ?_;exact bI () rfl (rv_tmp rfl) .nil trivial (by first | (rw [fB ‹_›];simp [*];done) | (rw [fG ‹_›];simp [*];done) | (rw [fD ‹_›];simp [*];done) | (rw [fH ‹_› ‹_›];simp [*];done) | (rw [dC ‹_› (by omega)];done) | (rw [fI ‹_›];simp [*];done) | (rw [fC ‹_›];simp [*];done) | rw [fE ‹_› ‹_› ‹_› ‹_› ‹_› ‹_›])
     have hg102:=beq_eq_false_iff_ne.1 hg102;refine sk2 ?_;refine sp2 hT ?_;refine nn<|bL ?_;exact bI () rfl (rv_tmp rfl) .nil trivial (by first | (rw [fB ‹_›];simp [*];done) | (rw [fG ‹_›];simp [*];done) | (rw [fD ‹_›];simp [*];done) | (rw [fH ‹_› ‹_›];simp [*];done) | (rw [dC ‹_› (by omega)];done) | (rw [fI ‹_›];simp [*];done) | (rw [fC ‹_›];simp [*];done) | rw [fE ‹_› ‹_› ‹_› ‹_› ‹_› ‹_›])
    have hg97:=beq_eq_false_iff_ne.1 hg97;refine sk3 ?_;refine sp2 hT ?_;refine sk2 ?_;refine sp2 hT ?_;refine nn<|bL ?_;exact bI () rfl (rv_tmp rfl) .nil trivial (by first | (rw [fB ‹_›];simp [*];done) | (rw [fG ‹_›];simp [*];done) | (rw [fD ‹_›];simp [*];done) | (rw [fH ‹_› ‹_›];simp [*];done) | (rw [dC ‹_› (by omega)];done) | (rw [fI ‹_›];simp [*];done) | (rw [fC ‹_›];simp [*];done) | rw [fE ‹_› ‹_› ‹_› ‹_› ‹_› ‹_›])
   have hg93:=beq_eq_false_iff_ne.1 hg93;refine sk2 ?_;refine sp2 hT ?_;refine sk3 ?_;refine sp2 hT ?_;refine sk2 ?_;refine sp2 hT ?_;refine nn<|bL ?_;exact bI () rfl (rv_tmp rfl) .nil trivial (by first | (rw [fB ‹_›];simp [*];done) | (rw [fG ‹_›];simp [*];done) | (rw [fD ‹_›];simp [*];done) | (rw [fH ‹_› ‹_›];simp [*];done) | (rw [dC ‹_› (by omega)];done) | (rw [fI ‹_›];simp [*];done) | (rw [fC ‹_›];simp [*];done) | rw [fE ‹_› ‹_› ‹_› ‹_› ‹_› ‹_›])
  refine sk2 ?_;refine sp2 hT ?_;refine sk2 ?_;refine sp2 hT ?_;refine sk3 ?_;refine sp2 hT ?_;refine sk2 ?_;refine sp2 hT ?_;refine nn<|bL ?_;exact bI () rfl (rv_tmp rfl) .nil trivial (by first | (rw [fB ‹_›];simp [*];done) | (rw [fG ‹_›];simp [*];done) | (rw [fD ‹_›];simp [*];done) | (rw [fH ‹_› ‹_›];simp [*];done) | (rw [dC ‹_› (by omega)];done) | (rw [fI ‹_›];simp [*];done) | (rw [fC ‹_›];simp [*];done) | rw [fE ‹_› ‹_› ‹_› ‹_› ‹_› ‹_›])
 have hc79_r:=hc79;have hc79:=beq_eq_false_iff_ne.1 hc79;refine bB<|sp2 hT ?_;refine nn<|bN rfl (fun hc79_5=>?_) (fun hc79_5=>?_)
 ·have hc79_5_r:=hc79_5;have hc79_5:=eq_of_beq hc79_5;refine bB<|sp hT ?_;refine ss (ldO hT (yK .head)) ?_;refine sp hT ?_;refine ss (ldO hT (cS .head)) ?_;refine sp hT ?_;refine dF (t':=true) (by rw [hc79_5];rfl) ?_;refine cP Tryz.func110 (qN _ _) rfl rfl .nil trivial fun _=>?_;refine sp2 hT ?_;refine fW<|bT<|bD<|sr<|sp2 hT ?_;refine bY (fun hg89=>?_) (fun hg89=>?_)
  ·refine sp4 hT ?_;refine bY (fun hg93=>?_) (fun hg93=>?_)
   ·have hg93:=eq_of_beq hg93;refine sp4 hT ?_;refine bY (fun hg97=>?_) (fun hg97=>?_)
    ·have hg97:=eq_of_beq hg97;refine sp4 hT ?_;refine sp hT ?_;refine bY (fun hg102=>?_) (fun hg102=>?_)
     ·have hg102:=eq_of_beq hg102;refine sp2 hT ?_;refine dF (t':=true) (by decide) ?_;refine sp2 hT ?_;refine nn<|bL ?_;exact bI () rfl (rv_tmp rfl) .nil trivial (by first | (rw [fB ‹_›];simp [*];done) | (rw [fG ‹_›];simp [*];done) | (rw [fD ‹_›];simp [*];done) | (rw [fH ‹_› ‹_›];simp [*];done) | (rw [dC ‹_› (by omega)];done) | (rw [fI ‹_›];simp [*];done) | (rw [fC ‹_›];simp [*];done) | rw [fE ‹_› ‹_› ‹_› ‹_› ‹_› ‹_›])
     have hg102:=beq_eq_false_iff_ne.1 hg102;refine sk2 ?_;refine sp2 hT ?_;refine nn<|bL ?_;exact bI () rfl (rv_tmp rfl) .nil trivial (by first | (rw [fB ‹_›];simp [*];done) | (rw [fG ‹_›];simp [*];done) | (rw [fD ‹_›];simp [*];done) | (rw [fH ‹_› ‹_›];simp [*];done) | (rw [dC ‹_› (by omega)];done) | (rw [fI ‹_›];simp [*];done) | (rw [fC ‹_›];simp [*];done) | rw [fE ‹_› ‹_› ‹_› ‹_› ‹_› ‹_›])
    have hg97:=beq_eq_false_iff_ne.1 hg97;refine sk3 ?_;refine sp2 hT ?_;refine sk2 ?_;refine sp2 hT ?_;refine nn<|bL ?_;exact bI () rfl (rv_tmp rfl) .nil trivial (by first | (rw [fB ‹_›];simp [*];done) | (rw [fG ‹_›];simp [*];done) | (rw [fD ‹_›];simp [*];done) | (rw [fH ‹_› ‹_›];simp [*];done) | (rw [dC ‹_› (by omega)];done) | (rw [fI ‹_›];simp [*];done) | (rw [fC ‹_›];simp [*];done) | rw [fE ‹_› ‹_› ‹_› ‹_› ‹_› ‹_›])
   have hg93:=beq_eq_false_iff_ne.1 hg93;refine sk2 ?_;refine sp2 hT ?_;refine sk3 ?_;refine sp2 hT ?_;refine sk2 ?_;refine sp2 hT ?_;refine nn<|bL ?_;exact bI () rfl (rv_tmp rfl) .nil trivial (by first | (rw [fB ‹_›];simp [*];done) | (rw [fG ‹_›];simp [*];done) | (rw [fD ‹_›];simp [*];done) | (rw [fH ‹_› ‹_›];simp [*];done) | (rw [dC ‹_› (by omega)];done) | (rw [fI ‹_›];simp [*];done) | (rw [fC ‹_›];simp [*];done) | rw [fE ‹_› ‹_› ‹_› ‹_› ‹_› ‹_›])
  refine sk2 ?_;refine sp2 hT ?_;refine sk2 ?_;refine sp2 hT ?_;refine sk3 ?_;refine sp2 hT ?_;refine sk2 ?_;refine sp2 hT ?_;refine nn<|bL ?_;exact bI () rfl (rv_tmp rfl) .nil trivial (by first | (rw [fB ‹_›];simp [*];done) | (rw [fG ‹_›];simp [*];done) | (rw [fD ‹_›];simp [*];done) | (rw [fH ‹_› ‹_›];simp [*];done) | (rw [dC ‹_› (by omega)];done) | (rw [fI ‹_›];simp [*];done) | (rw [fC ‹_›];simp [*];done) | rw [fE ‹_› ‹_› ‹_› ‹_› ‹_› ‹_›])
 have hc79_5_r:=hc79_5;have hc79_5:=beq_eq_false_iff_ne.1 hc79_5;refine bJ<|bT<|bD<|sr<|sp2 hT ?_;refine sk2 ?_;refine sp2 hT ?_;refine sk2 ?_;refine sp2 hT ?_;refine sk3 ?_;refine sp2 hT ?_;refine sk2 ?_;refine sp2 hT ?_;refine nn<|bL ?_;exact bI () rfl (rv_tmp rfl) .nil trivial (by first | (rw [fB ‹_›];simp [*];done) | (rw [fG ‹_›];simp [*];done) | (rw [fD ‹_›];simp [*];done) | (rw [fH ‹_› ‹_›];simp [*];done) | (rw [dC ‹_› (by omega)];done) | (rw [fI ‹_›];simp [*];done) | (rw [fC ‹_›];simp [*];done) | rw [fE ‹_› ‹_› ‹_› ‹_› ‹_› ‹_›])
set_option maxRecDepth 100000 in
theorem wV(bp:Nat)(bs:Nat)(vars loops buf:Int)(MA:Option Addr)(mc:Nat)(made:List Bool)(o:OpV):dG Tryz.prog 112 [.agg #[.int .i64 o.how,.int .i64 o.k,.int .i64 o.n,.slice o.p.addr o.p.list.length o.p.cap,.int .u8 o.fn],.pointer (some ⟨bp,0,none⟩)] [] [opF o,bP.cells bp 0 [.pointer (some ⟨bs,0,none⟩)],bP.cells bs 0 [.int .i64 vars,.int .i64 loops,.int .i64 buf,.slice MA made.length mc],gA.sl (.slice MA made.length mc) made] (fun(_:Unit)=> .bool (!opB vars loops buf made o.c)) (fun _=>[]) (fun _=>[]):=by
 have hT:=dA;refine cJ Tryz.func112 rfl Tryz.ntmps112 rfl ?_;intro β hM;refine sr<|gC rfl rfl rfl rfl rfl rfl fun b1=>?_;refine sp hT ?_;refine nn<|sr<|ss (bM hT (fX (off:=0) (Has.of mT1)) rfl rfl rfl rfl rfl) ?_;refine ss (ldN hT (cS .head)) ?_;refine cP Tryz.func113 (right_spec bs vars loops buf MA mc made o) rfl rfl .nil ⟨(Has.of mT0),(Has.of mT2),(Has.of mT3),trivial⟩ fun _=>?_;refine sp2 hT ?_;refine nn<|bL ?_;exact bI () rfl (rv_tmp rfl) .nil trivial (rfl)
set_option maxRecDepth 100000 in
theorem indexFO_spec(A:Option Addr)(c:Nat)(l:List OpV)(hl:l.length≤140737488355328)(f:FuncId)(cap:List Value)(G:List bP)(p:OpV→Bool)(hcf: ∀(args:Array Value) (w:World),(callFunc f args).run Tryz.prog w= .ok (.enter f args) w)(hf: ∀o:OpV,dG Tryz.prog f (.agg #[.int .i64 o.how,.int .i64 o.k,.int .i64 o.n,.slice o.p.addr o.p.list.length o.p.cap,.int .u8 o.fn]::cap) [] (opF o::G) (fun _:Unit=> .bool (p o)) (fun _=>[]) (fun _=>[])):dG Tryz.prog 169 [.slice A l.length c,.func (.func f) #[] cap.toArray] [] (opE.sl (.slice A l.length c) l::bP.each l opF::G) (fun(_:Unit)=> .int .i64 (pC p l 0)) (fun _=>[]) (fun _=>[]):=by
 have hT:=dA;generalize hR:pC p l 0=r;refine cJ Tryz.func169 rfl Tryz.ntmps169 rfl ?_;intro β hM;refine sr<|sp hT ?_;refine nn<|bF<|sr<|sp3 hT ?_;refine nn<|bO<|cM (ι:=Nat) [(0,_),(1,_),(7,_)] ⟨rfl,rfl,rfl,trivial⟩ (fun i=>[(8,.int .i64 (i:Nat))]) (fun _=>[]) (fun i=>[bP.pure (i≤l.length∧r=pC p (l.drop i) i)]) (fun i=>l.length-i) 0 ⟨rfl,trivial⟩ .nil ⟨Has.pure (⟨by omega,hR.symm⟩),trivial⟩ ?_;rintro i;refine bV (Has.of mT0) fun hinv2=>?_;refine sr<|sp hT ?_;refine nn<|bF<|bN rfl (fun hc9=>?_) (fun hc9=>?_)
 ·have hc9:=of_decide_eq_true hc9;refine bJ<|bD<|bF<|bO<|sr<|sp2 hT ?_;refine nn<|sr<|sp3 hT ?_
  obtain⟨x1,hx2⟩: ∃x',l[i]?=some x':=⟨_,List.getElem?_eq_getElem (by omega)⟩
  refine ss (bG hT (k:=i) (bA (Has.of mT1)) rfl rfl rfl rfl rfl rfl rfl (by omega)) ?_;refine ss (cN hT (bX.knows (bA (Has.of mT1)) (k:=i) (x:=x1) hx2 0) rfl rfl rfl rfl rfl) ?_;refine oG hcf (hf x1) rfl rfl rfl rfl rfl rfl rfl .nil ⟨Has.each (Has.of mT2) (List.mem_of_getElem? hx2),bH.drop 3⟩ fun _=>?_;refine nn<|bN rfl (fun hc16=>?_) (fun hc16=>?_)
  ·refine sr<|sp2 hT ?_;refine nn<|bL<|bR<|bK<|bK<|bR<|bK ?_;have hr:=(pO hinv2.2 hx2).1 ‹_›;subst hr;exact bI () rfl (rv_tmp rfl) .nil trivial rfl
  refine bJ<|bT<|bD<|bB<|sp hT ?_;refine bS (z':=(((i+1):Nat):Int)) (cG (by omega) (by omega)) ?_;refine sp hT ?_;refine nn ?_;exact bZ (i+1) (by omega) ⟨rfl,trivial⟩ ⟨rfl,rfl,rfl,trivial⟩ .nil ⟨Has.pure (⟨by omega,(pO hinv2.2 hx2).2 ‹_›⟩),trivial⟩ (bH.drop 1)
 have hc9:=Int.not_lt.1 (of_decide_eq_false hc9);refine cE<|bW<|bW<|cD<|bD<|sr<|sp hT ?_;refine nn<|bL ?_;have hr:=bFr hinv2.2 (by omega);subst hr;exact bI () rfl (rv_tmp rfl) .nil trivial rfl
set_option maxRecDepth 100000 in
theorem oO(A:Option Addr)(c:Nat)(l:List OpV)(hl:l.length≤140737488355328)(f:FuncId)(cap:List Value)(G:List bP)(p:OpV→Bool)(hcf: ∀(args:Array Value) (w:World),(callFunc f args).run Tryz.prog w= .ok (.enter f args) w)(hf: ∀o:OpV,dG Tryz.prog f (.agg #[.int .i64 o.how,.int .i64 o.k,.int .i64 o.n,.slice o.p.addr o.p.list.length o.p.cap,.int .u8 o.fn]::cap) [] (opF o::G) (fun _:Unit=> .bool (p o)) (fun _=>[]) (fun _=>[])):dG Tryz.prog 111 [.slice A l.length c,.func (.func f) #[] cap.toArray] [] (opE.sl (.slice A l.length c) l::bP.each l opF::G) (fun(_:Unit)=> .bool (l.any p)) (fun _=>[]) (fun _=>[]):=by
 have hT:=dA;refine cJ Tryz.func111 rfl Tryz.ntmps111 rfl ?_;intro β hM;refine sr<|sp hT ?_;refine nn<|sr<|sp2 hT ?_;refine cP Tryz.func169 (indexFO_spec A c l hl f cap G p hcf hf) rfl rfl .nil bH.self fun _=>?_;refine sp2 hT ?_;refine nn<|bL ?_;exact bI () rfl (rv_tmp rfl) .nil trivial (congrArg Value.bool (bFj p l 0 (by decide)))
set_option maxRecDepth 100000 in
theorem step_spec(bs:Nat)(vars loops buf:Int)(MA:Option Addr)(mc:Nat)(made:List Bool)(x:fY):dG Tryz.prog 53 [.pointer (some ⟨bs,0,none⟩),.agg #[.int .i64 x.how,.int .i64 x.buf,.slice x.at_.addr x.at_.list.length x.at_.cap,.slice x.loops.addr x.loops.list.length x.loops.cap,.int .u8 x.fn,.slice x.ops.addr x.ops.list.length x.ops.cap]] [.obj bs (.cells [.int .i64 vars,.int .i64 loops,.int .i64 buf,.slice MA made.length mc].toArray 115)] [oI x,gA.sl (.slice MA made.length mc) made] (fun(_:Int×Int)=> .bool (mG vars made x.c)) (fun(y:Int×Int)=>[.obj bs (.cells [.int .i64 vars,.int .i64 y.1,.int .i64 y.2,.slice MA made.length mc].toArray 115)]) (fun _=>[]):=by
 have hT:=dA;refine cJ Tryz.func53 rfl Tryz.ntmps53 rfl ?_;intro β hM;refine sr<|gC rfl rfl rfl rfl rfl rfl fun b1=>?_;refine gC rfl rfl rfl rfl rfl rfl fun b2=>?_;refine sp hT ?_;refine nn<|bF<|bF<|cB (cY x.at_) (bCv (Has.of mT0)) ?_;refine bV (dJ (Has.of mT0)) fun hpa=>?_;refine cB (nG x.loops) (qJ (Has.of mT1)) ?_;refine bV (opsF_c (nY (Has.of mT2))) fun hoz=>?_;have hoz2:=hoz.2;refine cB (bP.each x.ops.list opF) (opsF_e (nY (Has.of mT2))) ?_;refine cB (opE.sl (.slice x.ops.addr x.ops.list.length x.ops.cap) x.ops.list) (opsF_s (nY (Has.of mT3))) ?_;refine dN _ _ [(true,0),(true,1),(true,2),(true,3),(true,4),(true,5),(false,6),(true,7),(true,8),(true,9),(true,10),(false,11),(true,12),(true,13),(true,14),(true,15),(true,16),(true,17),(true,18),(true,19),(true,20),(false,21),(true,22),(true,23),(true,24),(true,25),(true,26),(true,27),(true,28),(true,29),(true,30),(true,31),(true,32),(false,33),(true,34),(true,35)] dP (by decide+kernel) (.cons .head (.cons .head (.cons .head .nil))) bH.self ?_;refine puM hT ?_;refine stM rfl (ldO hT (kC .head)) ?_;refine stM rfl (ldO hT (cS kT1)) ?_;refine puM hT ?_;refine puM hT ?_;refine stM rfl (ldO hT (cS kT2)) ?_;refine dD (o:=_) rfl ?_;refine cP Tryz.func107 (of_spec x.at_ vars) rfl rfl .nil ⟨(Has.of mT3),trivial⟩ fun _=>?_;refine dB (.cons .head (.cons .head (.cons .head .nil))) (bH.drop 0) ?_;refine puM hT ?_;refine puM hT ?_;refine bY (fun hg13=>?_) (fun hg13=>?_)
 ·have hg13:=gR hg13;refine bC rfl rfl rfl rfl ?_;refine bC rfl rfl rfl rfl ?_;refine dD (o:=_) rfl ?_;refine sk ?_;refine dB (.cons .head (.cons .head (.cons .head .nil))) (bH.drop 0) ?_;refine bC rfl rfl rfl rfl ?_;refine puM hT ?_;refine puM hT ?_;refine bC rfl rfl rfl rfl ?_;refine bC rfl rfl rfl rfl ?_;refine bC rfl rfl rfl rfl ?_;refine bC rfl rfl rfl rfl ?_;refine bC rfl rfl rfl rfl ?_;refine bC rfl rfl rfl rfl ?_;refine dD (o:=_) rfl ?_;refine sk ?_;refine dB (.cons .head (.cons .head (.cons .head .nil))) (bH.drop 0) ?_;refine bC rfl rfl rfl rfl ?_;refine puM hT ?_;refine puM hT ?_;refine bC rfl rfl rfl rfl ?_;refine bC rfl rfl rfl rfl ?_;refine bC rfl rfl rfl rfl ?_;refine bC rfl rfl rfl rfl ?_;refine puM hT ?_;refine puM hT ?_;refine bC rfl rfl rfl rfl ?_;refine bC rfl rfl rfl rfl ?_;refine dD (o:=_) rfl ?_;refine sk ?_;refine dB (.cons .head (.cons .head (.cons .head .nil))) (bH.drop 0) ?_;refine bC rfl rfl rfl rfl ?_;refine puM hT ?_;refine cO<|bD<|cK rfl rfl ?_;refine sr<|sp hT ?_;refine nn<|bL<|bK ?_;exact bI (_,_) rfl (rv_tmp rfl) (.cons kT2 .nil) trivial (by rw [←iV];simp [oU, *])
 have hg13:=gS hg13;refine puM hT ?_;refine stM rfl (ldO hT (kC .head)) ?_;refine dD (o:=_) rfl ?_;refine cP Tryz.func108 (bGi x.at_ hpa) rfl rfl .nil ⟨(Has.of mT3),trivial⟩ fun _=>?_;refine dB (.cons .head (.cons .head (.cons .head .nil))) (bH.drop 0) ?_;refine puM hT ?_;refine puM hT ?_;refine puM hT ?_;refine bY (fun hg19=>?_) (fun hg19=>?_)
 ·have hg19:=gR hg19;refine bC rfl rfl rfl rfl ?_;refine bC rfl rfl rfl rfl ?_;refine bC rfl rfl rfl rfl ?_;refine bC rfl rfl rfl rfl ?_;refine bC rfl rfl rfl rfl ?_;refine bC rfl rfl rfl rfl ?_;refine dD (o:=_) rfl ?_;refine sk ?_;refine dB (.cons .head (.cons .head (.cons .head .nil))) (bH.drop 0) ?_;refine bC rfl rfl rfl rfl ?_;refine puM hT ?_;refine puM hT ?_;refine bC rfl rfl rfl rfl ?_;refine bC rfl rfl rfl rfl ?_;refine bC rfl rfl rfl rfl ?_;refine bC rfl rfl rfl rfl ?_;refine puM hT ?_;refine puM hT ?_;refine bC rfl rfl rfl rfl ?_;refine bC rfl rfl rfl rfl ?_;refine dD (o:=_) rfl ?_;refine sk ?_;refine dB (.cons .head (.cons .head (.cons .head .nil))) (bH.drop 0) ?_;refine bC rfl rfl rfl rfl ?_;refine puM hT ?_;refine cO<|bD<|cK rfl rfl ?_;refine sr<|sp hT ?_;refine nn<|bL<|bK ?_;exact bI (_,_) rfl (rv_tmp rfl) (.cons kT2 .nil) trivial (by rw [←iV];simp [oU, *])
 have hg19:=gS hg19;refine puM hT ?_;refine stM rfl (ldO hT (jJ .head)) ?_;refine stM rfl (ldO hT (cS kT1)) ?_;refine puM hT ?_;refine puM hT ?_;refine stM rfl (ldO hT (cS kT2)) ?_;refine dD (o:=_) rfl ?_;refine cP Tryz.func52 (bJb x.loops vars) rfl rfl .nil ⟨(Has.of mT2),trivial⟩ fun _=>?_;refine dB (.cons .head (.cons .head (.cons .head .nil))) (bH.drop 0) ?_;refine puM hT ?_;refine puM hT ?_;refine puM hT ?_;refine bY (fun hg29=>?_) (fun hg29=>?_)
 ·have hg29:=gR hg29;refine bC rfl rfl rfl rfl ?_;refine bC rfl rfl rfl rfl ?_;refine bC rfl rfl rfl rfl ?_;refine bC rfl rfl rfl rfl ?_;refine puM hT ?_;refine puM hT ?_;refine bC rfl rfl rfl rfl ?_;refine bC rfl rfl rfl rfl ?_;refine dD (o:=_) rfl ?_;refine sk ?_;refine dB (.cons .head (.cons .head (.cons .head .nil))) (bH.drop 0) ?_;refine bC rfl rfl rfl rfl ?_;refine puM hT ?_;refine cO<|bD<|cK rfl rfl ?_;refine sr<|sp hT ?_;refine nn<|bL<|bK ?_;exact bI (_,_) rfl (rv_tmp rfl) (.cons kT2 .nil) trivial (by rw [←iV];simp [oU, *])
 have hg29:=gS hg29;refine puM hT ?_;refine stM rfl (ldO hT (nF .head)) ?_;refine puM hT ?_;refine puM hT ?_;refine puM hT ?_;refine puM hT ?_;refine bY (fun hg35=>?_) (fun hg35=>?_)
 ·have hg35:=of_decide_eq_true hg35;refine bC rfl rfl rfl rfl ?_;refine bC rfl rfl rfl rfl ?_;refine dD (o:=_) rfl ?_;refine sk ?_;refine dB (.cons .head (.cons .head (.cons .head .nil))) (bH.drop 0) ?_;refine bC rfl rfl rfl rfl ?_;refine puM hT ?_;refine cO<|bD<|cK rfl rfl ?_;refine sr<|sp hT ?_;refine nn<|bL<|bK ?_;exact bI (_,_) rfl (rv_tmp rfl) (.cons kT2 .nil) trivial (by rw [←iV];simp [oU, *])
 have hg35:=Int.not_lt.1 (of_decide_eq_false hg35);refine puM hT ?_;refine stM rfl (ldO hT (nF .head)) ?_;refine dD (o:=_) rfl ?_;refine cP Tryz.func109 (Depth_spec x.ops.addr x.ops.cap x.ops.list (by omega)) rfl rfl .nil ⟨(Has.of mT0),(Has.of mT1),trivial⟩ fun _=>?_;refine dB (.cons .head (.cons .head (.cons .head .nil))) (bH.drop 0) ?_;refine puM hT ?_;refine puM hT ?_;refine cO<|bD<|bN rfl (fun hc40=>?_) (fun hc40=>?_)
 ·have hc40_r:=hc40;have hc40:=of_decide_eq_true hc40;refine sr<|sp hT ?_;refine nn<|bL<|bK ?_;exact bI (_,_) rfl (rv_tmp rfl) (.cons kT2 .nil) trivial (by rw [←iV];simp [oU, *])
 have hc40_r:=hc40;have hc40:=Int.not_lt.1 (of_decide_eq_false hc40);refine bJ<|bD<|bF<|sr<|sp hT ?_;refine ss (ldO hT (cS .head)) ?_;refine nn<|bO<|sr<|sp2 hT ?_;refine nn<|bN rfl (fun hc43=>?_) (fun hc43=>?_)
 ·have hc43_r:=hc43;have hc43:=eq_of_beq hc43;refine sr<|sp hT ?_;refine ss (ldO hT (yK .head)) ?_;refine sp hT ?_;refine nn<|bN rfl (fun hc47=>?_) (fun hc47=>?_)
  ·have hc47_r:=hc47;have hc47:=bne_iff_ne.1 hc47;refine sr<|sp hT ?_;refine nn<|bL<|bR<|bK ?_;exact bI (_,_) rfl (rv_tmp rfl) (.cons kT2 .nil) trivial (by rw [←iV];simp [oU, *])
  have hc47_r:=hc47;have hc47:=bne_eq_false_iff_eq.1 hc47;refine bJ<|bT<|bD<|bF<|dN _ _ [(true,0),(true,1),(true,2),(true,3),(true,4),(true,5),(true,6),(true,7),(true,8),(false,9),(true,10),(true,11),(false,12)] dP (by decide+kernel) (.cons .head (.cons .head .nil)) bH.self ?_;refine stM rfl (ldO hT (cS kT1)) ?_;refine stM rfl (ldO hT (cS kT1)) ?_;refine puM hT ?_;refine stM rfl (ldO hT (jJ .head)) ?_;refine puM hT ?_;refine puM hT ?_;refine stM rfl (ldO hT (dE .head)) ?_;refine puM hT ?_;refine puM hT ?_;refine dD (o:=_) rfl ?_;refine sto hT kT2 ?_;refine dB (.cons kT1 (.cons kT1 .nil)) (bH.drop 0) ?_;refine puM hT ?_;refine puM hT ?_;refine dD (o:=_) rfl ?_;refine sto hT .head ?_;refine dB (.cons kT1 (.cons kT1 .nil)) (bH.drop 0) ?_;refine cO<|bD<|sr<|sp hT ?_;refine ss (ldO hT (nF kT1)) ?_;refine sp hT ?_;refine dW (cA Tryz.func111 rfl rfl) (oO x.ops.addr x.ops.cap x.ops.list (by omega) 112 [.pointer (some ⟨b1,0,none⟩)] [bP.cells b1 0 [.pointer (some ⟨bs,0,none⟩)],bP.cells bs 0 [.int .i64 vars,.int .i64 x.loops.list.length,.int .i64 x.buf,.slice MA made.length mc],gA.sl (.slice MA made.length mc) made] (fun o=>!opB vars x.loops.list.length x.buf made o.c) (cA Tryz.func112 rfl rfl) (fun o=>wV b1 bs vars x.loops.list.length x.buf MA mc made o)) rfl rfl rfl rfl rfl .nil (.cons kT2 (.cons .head .nil)) (lG (lG gW)) ⟨Has.of mT2,Has.of mT3,Has.of mT0,Has.of mT1,Has.of mT7,trivial⟩ (fun _=>True) (fun _ _ _ _=>trivial) fun _ _=>?_;refine sp2 hT ?_;refine nn<|bL ?_;exact bI (_,_) rfl (rv_tmp rfl) (.cons .head .nil) trivial (by rw [←iV];simp [oU, *])
 have hc43_r:=hc43;have hc43:=beq_eq_false_iff_ne.1 hc43;refine bF<|sr<|sp2 hT ?_;refine nn<|bN rfl (fun hc48=>?_) (fun hc48=>?_)
 ·have hc48_r:=hc48;have hc48:=eq_of_beq hc48;refine bJ<|bD<|cK rfl hc48_r ?_;refine sr<|sp hT ?_;refine ss (ldO hT (jJ .head)) ?_;refine sp3 hT ?_;refine bY (fun hg55=>?_) (fun hg55=>?_)
  ·have hg55:=eq_of_beq hg55;refine sk4 ?_;refine sp hT ?_;refine nn<|cK rfl rfl ?_;refine sr<|sp hT ?_;refine nn<|bL<|bR<|bK ?_;exact bI (_,_) rfl (rv_tmp rfl) (.cons kT2 .nil) trivial (by rw [←iV];simp [oU, *])
  have hg55:=beq_eq_false_iff_ne.1 hg55;refine sp hT ?_;refine ss (ldO hT (yK .head)) ?_;refine cP Tryz.func110 (qN _ _) rfl rfl .nil trivial fun _=>?_;refine sp2 hT ?_;refine nn<|bN rfl (fun hc60=>?_) (fun hc60=>?_)
  ·have hc60_r:=hc60;have hc60:=gR hc60;refine sr<|sp hT ?_;refine nn<|bL<|bR<|bK ?_;exact bI (_,_) rfl (rv_tmp rfl) (.cons kT2 .nil) trivial (by rw [←iV];simp [oU, *])
  have hc60_r:=hc60;have hc60:=gS hc60;refine bJ<|bT<|bD<|bF<|dN _ _ [(true,0),(true,1),(true,2),(true,3),(true,4),(true,5),(true,6),(true,7),(true,8),(false,9),(true,10),(true,11),(false,12)] dP (by decide+kernel) (.cons .head (.cons .head .nil)) bH.self ?_;refine stM rfl (ldO hT (cS kT1)) ?_;refine stM rfl (ldO hT (cS kT1)) ?_;refine puM hT ?_;refine stM rfl (ldO hT (jJ .head)) ?_;refine puM hT ?_;refine puM hT ?_;refine stM rfl (ldO hT (dE .head)) ?_;refine puM hT ?_;refine puM hT ?_;refine dD (o:=_) rfl ?_;refine sto hT kT2 ?_;refine dB (.cons kT1 (.cons kT1 .nil)) (bH.drop 0) ?_;refine puM hT ?_;refine puM hT ?_;refine dD (o:=_) rfl ?_;refine sto hT .head ?_;refine dB (.cons kT1 (.cons kT1 .nil)) (bH.drop 0) ?_;refine cO<|bD<|sr<|sp hT ?_;refine ss (ldO hT (nF kT1)) ?_;refine sp hT ?_;refine dW (cA Tryz.func111 rfl rfl) (oO x.ops.addr x.ops.cap x.ops.list (by omega) 112 [.pointer (some ⟨b1,0,none⟩)] [bP.cells b1 0 [.pointer (some ⟨bs,0,none⟩)],bP.cells bs 0 [.int .i64 vars,.int .i64 x.loops.list.length,.int .i64 x.buf,.slice MA made.length mc],gA.sl (.slice MA made.length mc) made] (fun o=>!opB vars x.loops.list.length x.buf made o.c) (cA Tryz.func112 rfl rfl) (fun o=>wV b1 bs vars x.loops.list.length x.buf MA mc made o)) rfl rfl rfl rfl rfl .nil (.cons kT2 (.cons .head .nil)) (lG (lG gW)) ⟨Has.of mT2,Has.of mT3,Has.of mT0,Has.of mT1,Has.of mT7,trivial⟩ (fun _=>True) (fun _ _ _ _=>trivial) fun _ _=>?_;refine sp2 hT ?_;refine nn<|bL ?_;exact bI (_,_) rfl (rv_tmp rfl) (.cons .head .nil) trivial (by rw [←iV];simp [oU, *])
 have hc48_r:=hc48;have hc48:=beq_eq_false_iff_ne.1 hc48;refine bB<|sp2 hT ?_;refine nn<|bN rfl (fun hc48_4=>?_) (fun hc48_4=>?_)
 ·have hc48_4_r:=hc48_4;have hc48_4:=eq_of_beq hc48_4;refine sr<|sp hT ?_;refine ss (ldO hT (jJ .head)) ?_;refine sp3 hT ?_;refine bY (fun hg55=>?_) (fun hg55=>?_)
  ·have hg55:=eq_of_beq hg55;refine sk4 ?_;refine sp hT ?_;refine nn<|cK rfl rfl ?_;refine sr<|sp hT ?_;refine nn<|bL<|bR<|bK ?_;exact bI (_,_) rfl (rv_tmp rfl) (.cons kT2 .nil) trivial (by rw [←iV];simp [oU, *])
  have hg55:=beq_eq_false_iff_ne.1 hg55;refine sp hT ?_;refine ss (ldO hT (yK .head)) ?_;refine cP Tryz.func110 (qN _ _) rfl rfl .nil trivial fun _=>?_;refine sp2 hT ?_;refine nn<|bN rfl (fun hc60=>?_) (fun hc60=>?_)
  ·have hc60_r:=hc60;have hc60:=gR hc60;refine sr<|sp hT ?_;refine nn<|bL<|bR<|bK ?_;exact bI (_,_) rfl (rv_tmp rfl) (.cons kT2 .nil) trivial (by rw [←iV];simp [oU, *])
  have hc60_r:=hc60;have hc60:=gS hc60;refine bJ<|bT<|bD<|bF<|dN _ _ [(true,0),(true,1),(true,2),(true,3),(true,4),(true,5),(true,6),(true,7),(true,8),(false,9),(true,10),(true,11),(false,12)] dP (by decide+kernel) (.cons .head (.cons .head .nil)) bH.self ?_;refine stM rfl (ldO hT (cS kT1)) ?_;refine stM rfl (ldO hT (cS kT1)) ?_;refine puM hT ?_;refine stM rfl (ldO hT (jJ .head)) ?_;refine puM hT ?_;refine puM hT ?_;refine stM rfl (ldO hT (dE .head)) ?_;refine puM hT ?_;refine puM hT ?_;refine dD (o:=_) rfl ?_;refine sto hT kT2 ?_;refine dB (.cons kT1 (.cons kT1 .nil)) (bH.drop 0) ?_;refine puM hT ?_;refine puM hT ?_;refine dD (o:=_) rfl ?_;refine sto hT .head ?_;refine dB (.cons kT1 (.cons kT1 .nil)) (bH.drop 0) ?_;refine cO<|bD<|sr<|sp hT ?_;refine ss (ldO hT (nF kT1)) ?_;refine sp hT ?_;refine dW (cA Tryz.func111 rfl rfl) (oO x.ops.addr x.ops.cap x.ops.list (by omega) 112 [.pointer (some ⟨b1,0,none⟩)] [bP.cells b1 0 [.pointer (some ⟨bs,0,none⟩)],bP.cells bs 0 [.int .i64 vars,.int .i64 x.loops.list.length,.int .i64 x.buf,.slice MA made.length mc],gA.sl (.slice MA made.length mc) made] (fun o=>!opB vars x.loops.list.length x.buf made o.c) (cA Tryz.func112 rfl rfl) (fun o=>wV b1 bs vars x.loops.list.length x.buf MA mc made o)) rfl rfl rfl rfl rfl .nil (.cons kT2 (.cons .head .nil)) (lG (lG gW)) ⟨Has.of mT2,Has.of mT3,Has.of mT0,Has.of mT1,Has.of mT7,trivial⟩ (fun _=>True) (fun _ _ _ _=>trivial) fun _ _=>?_;refine sp2 hT ?_;refine nn<|bL ?_;exact bI (_,_) rfl (rv_tmp rfl) (.cons .head .nil) trivial (by rw [←iV];simp [oU, *])
 have hc48_4_r:=hc48_4;have hc48_4:=beq_eq_false_iff_ne.1 hc48_4;refine sr<|sp hT ?_;refine nn<|bL<|bR<|bK ?_;exact bI (_,_) rfl (rv_tmp rfl) (.cons kT2 .nil) trivial (by rw [←iV];simp [oU, *])
theorem bFy: ∃i:TypeInfo,Tryz.prog.info? 4=some i∧i.zero=some (.bool false)∧i.size=1∧i.bytes=1:=by
 have h:(Tryz.prog.info? 4).map (fun i=>(i.zero,i.size,i.bytes))=some (some (.bool false),1,1):=by kernel_rfl
 cases hi:Tryz.prog.info? 4 with
 | none=>simp [hi] at h
 | some i=>simp [hi] at h;exact⟨i,rfl,h.1,h.2.1,h.2.2⟩
theorem oB{β:fR}{n:Nat}{Γ:Env}{H:List bQ}{F:List bP}{Q:Exit→Act→World→Prop}{ops:Array Oper}{rest:List Oper}{o:Oper}{d:Nat}{x:Operand}{m:Bool}(hw:want ops Γ o=some true)(ho:o.op= .buildSlice 51 1 #[(0,x)])(hd:o.dst=some d)(hn:Nat.blt d n=true)
  (hx:Γ.ev x=some (.bool m)) (k: ∀b,At β n ((d,.slice (some ⟨b,0,none⟩) 1 1)::Γ) (.obj b (.cells (gA.all [m]).toArray 4)::H) F (wpList Tryz.prog ops Q rest)):At β n Γ H F (wpList Tryz.prog ops Q (o::rest)):=by
 obtain⟨i,hi,hz,hs,_⟩:=bFy;refine nI hw ho hd hn hx Tryz.underlying51 hi hz (by omega) (by omega) ?_ k;rw [hs]
 kernel_rfl
theorem oL{β:fR}{n:Nat}{Γ:Env}{H:List bQ}{F:List bP}{Q:Exit→Act→World→Prop}{ops:Array Oper}{rest:List Oper}{o:Oper}{d:Nat}{x y:Operand}{c q:Nat}{v:Value}{A:Option Addr}{xs ys:List Bool}{H':List bQ}(hH:dS H (gA.row v 4 xs) H')(hr:bX β H F gA A ys)(hg:o.guard=none)
  (ho:o.op= .call {callee:= .builtin .append,args:= #[x,y],argTypes:= #[51,51]}) (hd:o.dst=some d) (hn:Nat.blt d n=true)
  (hx:Γ.ev x=some v) (hy:Γ.ev y=some (.slice A q c)) (hq:q=ys.length) (hl:xs.length+ys.length≤140737488355328)
  (k: ∀A' cap',At β n ((d,.slice A' (xs++ys).length cap')::Γ) (gA.row (.slice A' (xs++ys).length cap') 4 (xs++ys)::H') F (wpList Tryz.prog ops Q rest)):At β n Γ H F (wpList Tryz.prog ops Q (o::rest)):=by
 obtain⟨i,hi,hz,hs,hb⟩:=bFy;exact kG hH hr hg ho hd hn Tryz.underlying51 hi hz hs hb rfl hx hy hq (by omega) (by decide) k
theorem bCs: ∃i:TypeInfo,Tryz.prog.info? 3=some i∧i.zero=some (.int .i64 0)∧i.size=1∧i.bytes=8:=by
 have h:(Tryz.prog.info? 3).map (fun i=>(i.zero,i.size,i.bytes))=some (some (.int .i64 0),1,8):=by kernel_rfl
 cases hi:Tryz.prog.info? 3 with
 | none=>simp [hi] at h
 | some i=>simp [hi] at h;exact⟨i,rfl,h.1,h.2.1,h.2.2⟩
theorem wX{β:fR}{n:Nat}{Γ:Env}{H:List bQ}{F:List bP}{Q:Exit→Act→World→Prop}{ops:Array Oper}{rest:List Oper}{o:Oper}{d:Nat}{x:Operand}{m:Int}(hw:want ops Γ o=some true)(ho:o.op= .buildSlice 24 1 #[(0,x)])(hd:o.dst=some d)(hn:Nat.blt d n=true)
  (hx:Γ.ev x=some (.int .i64 m)) (k: ∀b,At β n ((d,.slice (some ⟨b,0,none⟩) 1 1)::Γ) (.obj b (.cells (iG.all [m]).toArray 3)::H) F (wpList Tryz.prog ops Q rest)):At β n Γ H F (wpList Tryz.prog ops Q (o::rest)):=by
 obtain⟨i,hi,hz,hs,_⟩:=bCs;refine nI hw ho hd hn hx Tryz.underlying24 hi hz (by omega) (by omega) ?_ k;rw [hs]
 kernel_rfl
theorem at_none_int{β:fR}{n:Nat}{Γ:Env}{H:List bQ}{F:List bP}{Q:Exit→Act→World→Prop}{ops:Array Oper}{rest:List Oper}{o:Oper}{d:Nat}(hw:want ops Γ o=some true)(ho:o.op= .buildSlice 24 0 #[])(hd:o.dst=some d)(hn:Nat.blt d n=true)
  (k: ∀b,At β n ((d,.slice (some ⟨b,0,none⟩) 0 0)::Γ) (iG.row (.slice (some ⟨b,0,none⟩) 0 0) 3 []::H) F (wpList Tryz.prog ops Q rest)):At β n Γ H F (wpList Tryz.prog ops Q (o::rest)):=by
 obtain⟨i,hi,_⟩:=bCs;exact bAr iG hw ho hd hn Tryz.underlying24 hi k
theorem qB{β:fR}{n:Nat}{Γ:Env}{H:List bQ}{F:List bP}{Q:Exit→Act→World→Prop}{ops:Array Oper}{rest:List Oper}{o:Oper}{d:Nat}{x y:Operand}{c q:Nat}{v:Value}{A:Option Addr}{xs ys:List Int}{H':List bQ}(hH:dS H (iG.row v 3 xs) H')(hr:bX β H F iG A ys)(hg:o.guard=none)
  (ho:o.op= .call {callee:= .builtin .append,args:= #[x,y],argTypes:= #[24,24]}) (hd:o.dst=some d) (hn:Nat.blt d n=true)
  (hx:Γ.ev x=some v) (hy:Γ.ev y=some (.slice A q c)) (hq:q=ys.length) (hl:xs.length+ys.length≤17592186044416)
  (k: ∀A' cap',At β n ((d,.slice A' (xs++ys).length cap')::Γ) (iG.row (.slice A' (xs++ys).length cap') 3 (xs++ys)::H') F (wpList Tryz.prog ops Q rest)):At β n Γ H F (wpList Tryz.prog ops Q (o::rest)):=by
 obtain⟨i,hi,hz,hs,hb⟩:=bCs;exact kG hH hr hg ho hd hn Tryz.underlying24 hi hz hs hb rfl hx hy hq (by omega) (by decide) k
theorem arr64_zero:(Tryz.prog.info? 112).bind (·.zero)=some (.agg (gA.all (List.replicate 64 false)).toArray):=by kernel_rfl
theorem step_specM{m:Nat}{made:List Bool}(hm:made.length=m)(bs:Nat)(vars loops buf:Int)(MA:Option Addr)(mc:Nat)(x:fY):dG Tryz.prog 53 [.pointer (some ⟨bs,0,none⟩),.agg #[.int .i64 x.how,.int .i64 x.buf,.slice x.at_.addr x.at_.list.length x.at_.cap,.slice x.loops.addr x.loops.list.length x.loops.cap,.int .u8 x.fn,.slice x.ops.addr x.ops.list.length x.ops.cap]]
  [.obj bs (.cells [.int .i64 vars,.int .i64 loops,.int .i64 buf,.slice MA m mc].toArray 115)] [oI x,gA.sl (.slice MA m mc) made] (fun _:Int×Int=> .bool (mG vars made x.c)) (fun y=>[.obj bs (.cells [.int .i64 vars,.int .i64 y.1,.int .i64 y.2,.slice MA m mc].toArray 115)]) (fun _=>[]):=by
 subst hm;exact step_spec bs vars loops buf MA mc made x
def outB (n:Nat)(k:Int):Bool:=decide (k<0) || decide ((n:Int)≤k)
def bFt (c:gF):Bool:=kJ c.vars c.bufs c.steps (pQ c.bufs)&&c.outs.all fun k=>decide (0≤k∧k<c.bufs.length)
theorem pN(l:List lP):(pQ l).length=l.length:=List.length_map _
def sG (c:gF)(i:Nat)(inp made:List Bool)(r:Bool):Prop:=inp.length=64∧made=(pQ c.bufs).take i∧ ∃seen:List Int,(∀z∈seen,0≤z)∧(∀k:Nat,k<64→inp[k]?=some (seen.contains (k:Int)))∧r=(rV c.vars (c.bufs.drop i) seen&&bFt c)
def mV (c:gF)(i:Nat)(made:List Bool)(r:Bool):Prop:=made.length=c.bufs.length∧r=(kJ c.vars c.bufs (c.steps.drop i) made&&c.outs.all fun k=>decide (0≤k∧k<c.bufs.length))
section
variable {c : gM} {r : Bool}
theorem bBl(h:gH c.c=r)(h1:0≤c.vars)(h2:c.vars≤6)(h3:(c.bufs.list.length:Int)≤1024)(h4:(c.steps.list.length:Int)≤1024)(h5:(c.outs.list.length:Int)≤64):r=(rV c.c.vars c.c.bufs []&&bFt c.c):=by
 rw [←h];unfold gH;rw [decide_eq_true (show 0≤c.c.vars∧c.c.vars≤6∧c.c.bufs.length≤1024∧c.c.steps.length≤1024∧c.c.outs.length≤64 from ⟨h1,h2,by show(tH c.bufs.list).length≤1024;rw [dL];omega,by show(uI c.steps.list).length≤1024;rw [dX];omega,by show c.outs.list.length≤64;omega⟩),Bool.true_and];rfl
theorem jE(h:gH c.c=r)(h1: ¬(0≤c.vars∧c.vars≤6∧(c.bufs.list.length:Int)≤1024∧(c.steps.list.length:Int)≤1024∧(c.outs.list.length:Int)≤64)):r=false:=by
 rw [←h];unfold gH;rw [decide_eq_false (show ¬(0≤c.c.vars∧c.c.vars≤6∧c.c.bufs.length≤1024∧c.c.steps.length≤1024∧c.c.outs.length≤64) from fun⟨a,b,d,e,f⟩=>h1 ⟨a,b,by have d:(tH c.bufs.list).length≤1024:=d;rw [dL] at d;omega,by have e:(uI c.steps.list).length≤1024:=e;rw [dX] at e;omega,by have f:c.outs.list.length≤64:=f;omega⟩),Bool.false_and]
end
section
variable {c : gF} {i : Nat} {inp made : List Bool} {r : Bool} {u : lP}
theorem bufs_start(h:r=(rV c.vars c.bufs []&&bFt c)):sG c 0 (List.replicate 64 false) [] r:=by
 refine⟨rfl,rfl,[],?_,?_,h⟩
 ·intro z hz;cases hz
 ·intro k hk;rw [List.getElem?_replicate,if_pos hk];rfl
theorem bufs_len(h:sG c i inp made r)(hi:i≤c.bufs.length):made.length=i:=by
 rw [h.2.1,List.length_take,pN];omega
theorem yR(h:sG c i inp made r)(hu:c.bufs[i]?=some u)(k:hI u.sides c.vars=false∨u.input< -1∨64≤u.input∨0≤u.input∧inp[u.input.toNat]?=some true):r=false:=by
 obtain⟨h1,_,seen,h2,h3,h4⟩:=h;rw [jX hu,rV] at h4;rw [h4]
 rcases k with k | k | k | ⟨k,e⟩
 ·rw [k];rfl
 ·rw [decide_eq_false (show ¬(-1≤u.input∧u.input<64) from fun h=>by omega)];simp
 ·rw [decide_eq_false (show ¬(-1≤u.input∧u.input<64) from fun h=>by omega)];simp
 ·have hlt:=(List.getElem?_eq_some_iff.1 e).1;rw [h3 _ (by omega)] at e
  have e2:seen.contains u.input=true:=by
   have:((u.input.toNat:Nat):Int)=u.input:=by omega
   rw [←this];exact Option.some.inj e
  rw [e2];simp
theorem bKd(h:made=(pQ c.bufs).take i)(hu:c.bufs[i]?=some u):made++[decide (0≤u.input)]=(pQ c.bufs).take (i+1):=by
 have hm:(pQ c.bufs)[i]?=some (decide (0≤u.input)):=by
  unfold pQ;rw [List.getElem?_map,hu];rfl
 obtain⟨hi,e⟩:=List.getElem?_eq_some_iff.1 hm;rw [List.take_succ_eq_append_getElem hi,e,h]
theorem bufs_in(h:sG c i inp made r)(hu:c.bufs[i]?=some u)(hg:hI u.sides c.vars=true)(h1: -1≤u.input)(h2:u.input<64)(h3:0≤u.input)(he:inp[u.input.toNat]?=some false):sG c (i+1) (inp.set u.input.toNat true) (made++[decide (0≤u.input)]) r:=by
 obtain⟨k1,k2,seen,k3,k4,k5⟩:=h;refine⟨by simpa using k1,bKd k2 hu,u.input::seen,fun z hz=>?_,fun k hk=>?_,?_⟩
 ·rcases List.mem_cons.1 hz with rfl | hz
  ·exact h3
  ·exact k3 z hz
 ·rw [List.getElem?_set,List.contains_cons]
  by_cases e:u.input.toNat=k
  ·rw [if_pos e,if_pos (by omega)];have:((k:Nat):Int)=u.input:=by omega
   rw [this];simp
  ·rw [if_neg e,k4 k hk];have:((k:Int)==u.input)=false:=beq_eq_false_iff_ne.2 (by omega);rw [this];rfl
 ·rw [jX hu,rV,hg,decide_eq_true ⟨h1,h2⟩,if_pos h3] at k5
  have e2:seen.contains u.input=false:=by
   rw [k4 _ (by omega)] at he;have:((u.input.toNat:Nat):Int)=u.input:=by omega
   rw [←this];exact Option.some.inj he
  rw [e2] at k5
  simpa using k5
theorem bufs_no(h:sG c i inp made r)(hu:c.bufs[i]?=some u)(hg:hI u.sides c.vars=true)(h1: -1≤u.input)(h3:u.input<0):sG c (i+1) inp (made++[decide (0≤u.input)]) r:=by
 obtain⟨k1,k2,seen,k3,k4,k5⟩:=h;refine⟨k1,bKd k2 hu,seen,k3,k4,?_⟩;rw [jX hu,rV,hg,decide_eq_true (show-1≤u.input∧u.input<64 from ⟨h1,by omega⟩),if_neg (by omega)] at k5
 have e2:seen.contains u.input=false:=by
  rw [List.contains_eq_mem];exact decide_eq_false fun h=>by have:=k3 _ h;omega
 rw [e2] at k5
 simpa using k5
theorem bufs_end(h:sG c i inp made r)(hi:c.bufs.length≤i):made=pQ c.bufs∧r=bFt c:=by
 obtain⟨_,k2,seen,_,_,k5⟩:=h;rw [List.drop_of_length_le hi] at k5;refine⟨by rw [k2,List.take_of_length_le (by rw [pN];exact hi)],by rw [k5];rfl⟩
theorem bAx(hm:made=pQ c.bufs)(h:r=bFt c):mV c 0 made r:=⟨by rw [hm,pN],by rw [h,hm];rfl⟩
theorem vZ{x:fN}(h:mV c i made r)(hx:c.steps[i]?=some x)(k:x.buf<0∨(c.bufs.length:Int)≤x.buf∨(∃u,c.bufs[x.buf.toNat]?=some u∧0≤u.input)∨mG c.vars made x=false):r=false:=by
 obtain⟨_,h2⟩:=h;rw [jX hx,kJ] at h2;rw [h2]
 rcases k with k | k | ⟨u,e,k⟩ | k
 ·rw [decide_eq_false (show ¬0≤x.buf by omega)];rfl
 ·rw [List.getElem?_eq_none (show c.bufs.length≤x.buf.toNat by omega)];simp
 ·rw [e];simp only;rw [decide_eq_false (show ¬u.input<0 by omega)];simp
 ·rw [k];simp
theorem steps_ok{x:fN}{u:lP}(h:mV c i made r)(hx:c.steps[i]?=some x)(h0:0≤x.buf)(hu:c.bufs[x.buf.toNat]?=some u)(h1:u.input<0)(k:mG c.vars made x=true):mV c (i+1) (made.set x.buf.toNat true) r:=by
 obtain⟨h2,h3⟩:=h;refine⟨by simpa using h2,?_⟩;rw [jX hx,kJ,hu,decide_eq_true h0] at h3;simp only at h3;rw [decide_eq_true h1,k] at h3
 simpa using h3
theorem vW(h:mV c i made r)(hi:c.steps.length≤i):r=c.outs.all fun k=>decide (0≤k∧k<c.bufs.length):=by
 obtain⟨_,h3⟩:=h;rw [List.drop_of_length_le hi] at h3;rw [h3];rfl
end
theorem outs_all{n m:Nat}{l:List Int}(h:n=m):(!l.any (outB m))=l.all fun k=>decide (0≤k∧k<(n:Int)):=by
 subst h
 have e:outB n=fun k=>!decide (0≤k∧k<(n:Int)):=by
  funext k
  unfold outB;rw [Bool.eq_iff_iff];simp
 rw [e,any_not]
theorem pI(z0:Int):Tryz.prog.built 115 [(0,.int .i64 z0)]=some #[.int .i64 z0,.int .i64 0,.int .i64 0,.slice none 0 0]:=by kernel_rfl
theorem tN:(Tryz.prog.info? 47).bind (·.zero)=some (.agg #[.slice none 0 0,.int .i64 0]):=by kernel_rfl
theorem sQ:(Tryz.prog.info? 40).bind (·.zero)=some (.agg #[.int .i64 0,.int .i64 0,.slice none 0 0,.slice none 0 0,.int .u8 0,.slice none 0 0]):=by kernel_rfl
set_option maxRecDepth 100000 in
theorem indexFI_spec(A:Option Addr)(c:Nat)(l:List Int)(hl:l.length≤140737488355328)(f:FuncId)(cap:List Value)(G:List bP)(p:Int→Bool)(hcf: ∀(args:Array Value) (w:World),(callFunc f args).run Tryz.prog w= .ok (.enter f args) w)(hf: ∀k:Int,dG Tryz.prog f (.int .i64 k::cap) [] G (fun _:Unit=> .bool (p k)) (fun _=>[]) (fun _=>[])):dG Tryz.prog 114 [.slice A l.length c,.func (.func f) #[] cap.toArray] [] (iG.sl (.slice A l.length c) l::G) (fun(_:Unit)=> .int .i64 (pC p l 0)) (fun _=>[]) (fun _=>[]):=by
 have hT:=dA;generalize hR:pC p l 0=r;refine cJ Tryz.func114 rfl Tryz.ntmps114 rfl ?_;intro β hM;refine sr<|sp hT ?_;refine nn<|bF<|sr<|sp3 hT ?_;refine nn<|bO<|cM (ι:=Nat) [(0,_),(1,_),(7,_)] ⟨rfl,rfl,rfl,trivial⟩ (fun i=>[(8,.int .i64 (i:Nat))]) (fun _=>[]) (fun i=>[bP.pure (i≤l.length∧r=pC p (l.drop i) i)]) (fun i=>l.length-i) 0 ⟨rfl,trivial⟩ .nil ⟨Has.pure (⟨by omega,hR.symm⟩),trivial⟩ ?_;rintro i;refine bV (Has.of mT0) fun hinv2=>?_;refine sr<|sp hT ?_;refine nn<|bF<|bN rfl (fun hc9=>?_) (fun hc9=>?_)
 ·have hc9:=of_decide_eq_true hc9;refine bJ<|bD<|bF<|bO<|sr<|sp2 hT ?_;refine nn<|sr<|sp3 hT ?_
  obtain⟨x1,hx2⟩: ∃x',l[i]?=some x':=⟨_,List.getElem?_eq_getElem (by omega)⟩
  refine ss (bG hT (k:=i) (bA (Has.of mT1)) rfl rfl rfl rfl rfl rfl rfl (by omega)) ?_;refine ss (bM hT (bX.knows (bA (Has.of mT1)) (k:=i) (x:=x1) hx2 0) rfl rfl rfl rfl rfl) ?_;refine oG hcf (hf x1) rfl rfl rfl rfl rfl rfl rfl .nil (bH.drop 2) fun _=>?_;refine nn<|bN rfl (fun hc16=>?_) (fun hc16=>?_)
  ·refine sr<|sp2 hT ?_;refine nn<|bL<|bR<|bK<|bK<|bR<|bK ?_;have hr:=(pO hinv2.2 hx2).1 ‹_›;subst hr;exact bI () rfl (rv_tmp rfl) .nil trivial rfl
  refine bJ<|bT<|bD<|bB<|sp hT ?_;refine bS (z':=(((i+1):Nat):Int)) (cG (by omega) (by omega)) ?_;refine sp hT ?_;refine nn ?_;exact bZ (i+1) (by omega) ⟨rfl,trivial⟩ ⟨rfl,rfl,rfl,trivial⟩ .nil ⟨Has.pure (⟨by omega,(pO hinv2.2 hx2).2 ‹_›⟩),trivial⟩ (bH.drop 1)
 have hc9:=Int.not_lt.1 (of_decide_eq_false hc9);refine cE<|bW<|bW<|cD<|bD<|sr<|sp hT ?_;refine nn<|bL ?_;have hr:=bFr hinv2.2 (by omega);subst hr;exact bI () rfl (rv_tmp rfl) .nil trivial rfl
set_option maxRecDepth 100000 in
theorem bCj(A:Option Addr)(c:Nat)(l:List Int)(hl:l.length≤140737488355328)(f:FuncId)(cap:List Value)(G:List bP)(p:Int→Bool)(hcf: ∀(args:Array Value) (w:World),(callFunc f args).run Tryz.prog w= .ok (.enter f args) w)(hf: ∀k:Int,dG Tryz.prog f (.int .i64 k::cap) [] G (fun _:Unit=> .bool (p k)) (fun _=>[]) (fun _=>[])):dG Tryz.prog 54 [.slice A l.length c,.func (.func f) #[] cap.toArray] [] (iG.sl (.slice A l.length c) l::G) (fun(_:Unit)=> .bool (l.any p)) (fun _=>[]) (fun _=>[]):=by
 have hT:=dA;refine cJ Tryz.func54 rfl Tryz.ntmps54 rfl ?_;intro β hM;refine sr<|sp hT ?_;refine nn<|sr<|sp2 hT ?_;refine cP Tryz.func114 (indexFI_spec A c l hl f cap G p hcf hf) rfl rfl .nil bH.self fun _=>?_;refine sp2 hT ?_;refine nn<|bL ?_;exact bI () rfl (rv_tmp rfl) .nil trivial (congrArg Value.bool (bFj p l 0 (by decide)))
set_option maxRecDepth 100000 in
theorem right1_spec(b:Nat)(c:gM)(k:Int):dG Tryz.prog 55 [.int .i64 k,.pointer (some ⟨b,0,none⟩)] [] [bP.cells b 0 [.int .i64 c.vars,.slice c.bufs.addr c.bufs.list.length c.bufs.cap,.slice c.steps.addr c.steps.list.length c.steps.cap,.slice c.outs.addr c.outs.list.length c.outs.cap]] (fun(_:Unit)=> .bool (outB c.bufs.list.length k)) (fun _=>[]) (fun _=>[]):=by
 have hT:=dA;refine cJ Tryz.func55 rfl Tryz.ntmps55 rfl ?_;intro β hM;refine sr<|sp hT ?_;refine nn<|sr<|sp3 hT ?_;refine bY (fun hg6=>?_) (fun hg6=>?_)
 ·have hg6:=of_decide_eq_true hg6;refine sk4 ?_;refine sk ?_;refine sp2 hT ?_;refine nn<|bL ?_;exact bI () rfl (rv_tmp rfl) .nil trivial (by first | (unfold outB;simp [*];done) | (unfold outB;simp [*];omega))
 have hg6:=Int.not_lt.1 (of_decide_eq_false hg6);refine sp2 hT ?_;refine ss (bM hT (fX (off:=1) (Has.of mT0)) rfl rfl rfl rfl rfl) ?_;refine sp4 hT ?_;refine nn<|bL ?_;exact bI () rfl (rv_tmp rfl) .nil trivial (by first | (unfold outB;simp [*];done) | (unfold outB;simp [*];omega))
set_option maxRecDepth 100000 in
theorem Right_spec(c:gM):dG Tryz.prog 25 [.agg #[.int .i64 c.vars,.slice c.bufs.addr c.bufs.list.length c.bufs.cap,.slice c.steps.addr c.steps.list.length c.steps.cap,.slice c.outs.addr c.outs.list.length c.outs.cap]] [] [mF c] (fun(_:Unit)=> .bool (gH c.c)) (fun _=>[]) (fun _=>[]):=by
 have hT:=dA;generalize hR:gH c.c=r;refine cJ Tryz.func25 rfl Tryz.ntmps25 rfl ?_;intro β hM;refine sr<|gC rfl rfl rfl rfl rfl rfl fun b1=>?_;refine sp hT ?_;refine nn<|bF<|sr<|sp hT ?_;refine ss (ldO hT (cS .head)) ?_;refine sp2 hT ?_;refine bY (fun hg12=>?_) (fun hg12=>?_)
 ·have hg12:=of_decide_eq_true hg12;refine sk3 ?_;refine sp2 hT ?_;refine sk4 ?_;refine sp2 hT ?_;refine sk4 ?_;refine sp2 hT ?_;refine sk4 ?_;refine sp hT ?_;refine nn<|cK rfl rfl ?_;refine sr<|sp hT ?_;refine nn<|bL<|bK ?_;have hr:=jE hR (by omega);subst hr;exact bI () rfl (rv_tmp rfl) .nil trivial rfl
 have hg12:=Int.not_lt.1 (of_decide_eq_false hg12);refine sp hT ?_;refine ss (ldO hT (cS .head)) ?_;refine sp3 hT ?_;refine bY (fun hg17=>?_) (fun hg17=>?_)
 ·have hg17:=of_decide_eq_true hg17;refine sk4 ?_;refine sp2 hT ?_;refine sk4 ?_;refine sp2 hT ?_;refine sk4 ?_;refine sp hT ?_;refine nn<|cK rfl rfl ?_;refine sr<|sp hT ?_;refine nn<|bL<|bK ?_;have hr:=jE hR (by omega);subst hr;exact bI () rfl (rv_tmp rfl) .nil trivial rfl
 have hg17:=Int.not_lt.1 (of_decide_eq_false hg17);refine sp hT ?_;refine ss (ldO hT (dE .head)) ?_;refine sp4 hT ?_;refine bY (fun hg23=>?_) (fun hg23=>?_)
 ·have hg23:=of_decide_eq_true hg23;refine sk4 ?_;refine sp2 hT ?_;refine sk4 ?_;refine sp hT ?_;refine nn<|cK rfl rfl ?_;refine sr<|sp hT ?_;refine nn<|bL<|bK ?_;have hr:=jE hR (by omega);subst hr;exact bI () rfl (rv_tmp rfl) .nil trivial rfl
 have hg23:=Int.not_lt.1 (of_decide_eq_false hg23);refine sp hT ?_;refine ss (ldO hT (kC .head)) ?_;refine sp4 hT ?_;refine bY (fun hg29=>?_) (fun hg29=>?_)
 ·have hg29:=of_decide_eq_true hg29;refine sk4 ?_;refine sp hT ?_;refine nn<|cK rfl rfl ?_;refine sr<|sp hT ?_;refine nn<|bL<|bK ?_;have hr:=jE hR (by omega);subst hr;exact bI () rfl (rv_tmp rfl) .nil trivial rfl
 have hg29:=Int.not_lt.1 (of_decide_eq_false hg29);refine sp hT ?_;refine ss (ldO hT (jJ .head)) ?_;refine sp3 hT ?_;refine nn<|bN rfl (fun hc34=>?_) (fun hc34=>?_)
 ·have hc34:=of_decide_eq_true hc34;refine sr<|sp hT ?_;refine nn<|bL<|bK ?_;have hr:=jE hR (by omega);subst hr;exact bI () rfl (rv_tmp rfl) .nil trivial rfl
 have hc34:=Int.not_lt.1 (of_decide_eq_false hc34);refine bJ<|bD<|bF ?_;have hr0:=bBl hR (by omega) (by omega) (by omega) (by omega) (by omega);refine bB<|dZ rfl rfl rfl rfl arr64_zero rfl fun b2=>?_;refine qK (E:=gA) (xs:=List.replicate 64 false) .head ?_;refine nn<|sr<|sp hT ?_;refine ss (ldO hT (cS kT1)) ?_;refine ss (dR rfl rfl (pI _)) ?_;refine gC rfl rfl rfl rfl rfl rfl fun b3=>?_;refine sp hT ?_;refine nn<|bF<|sr<|sp hT ?_;refine ss (ldO hT (dE kT2)) ?_;refine sp2 hT ?_;refine nn<|bO<|dY (t:=4) gA ?_;refine cM (ι:=Nat×List Bool×List Bool×Option Addr×Nat) [(1,_),(3,_),(4,_),(40,_),(41,_)] ⟨rfl,rfl,rfl,rfl,rfl,trivial⟩ (fun⟨i,inp,made,MA,mc⟩=>[(42,.int .i64 (i:Nat))]) (fun⟨i,inp,made,MA,mc⟩=>[gA.held (.slice (some ⟨b2,0,none⟩) 64 64) inp,.obj b3 (.cells [.int .i64 c.vars,.int .i64 0,.int .i64 0,.slice MA made.length mc].toArray 115),gA.row (.slice MA made.length mc) 4 made]) (fun⟨i,inp,made,MA,mc⟩=>[bP.pure (i≤c.bufs.list.length∧sG c.c i inp made r)]) (fun⟨i,inp,made,MA,mc⟩=>c.bufs.list.length-i) (0,List.replicate 64 false,[],none,0) ⟨rfl,trivial⟩ (.cons kT2 (.cons kT1 (.cons .head .nil))) ⟨Has.pure (⟨by omega,bufs_start hr0⟩),trivial⟩ ?_;rintro⟨i,inp,made,MA,mc⟩;dsimp only;refine bV (Has.of mT0) fun hinv6=>?_;have hil:inp.length=64:=hinv6.2.1;have hml:=bufs_len hinv6.2 (by show i≤(tH c.bufs.list).length;rw [dL];omega);refine sr<|sp hT ?_;refine nn<|bF<|bN rfl (fun hc43=>?_) (fun hc43=>?_)
 ·have hc43:=of_decide_eq_true hc43;refine bJ<|bD<|bF<|bO<|sr<|cB (sM.sl (.slice c.bufs.addr c.bufs.list.length c.bufs.cap) c.bufs.list) (jS (gP (Has.of mT1))) ?_
  obtain⟨x4,hx5⟩: ∃x',c.bufs.list[i]?=some x':=⟨_,List.getElem?_eq_getElem (by omega)⟩
  refine ss (bG hT (k:=i) (bA (Has.of mT0)) rfl rfl rfl rfl rfl rfl rfl (by omega)) ?_;refine ss (cN hT (bX.knows (bA (Has.of mT0)) (k:=i) (x:=x4) hx5 0) rfl rfl rfl rfl rfl) ?_;refine dZ rfl rfl rfl rfl tN rfl fun b6=>?_;refine sto hT .head ?_;refine nn<|bF<|bF<|cB (bufF x4) (Has.each (sU (gP (Has.of mT2))) (List.mem_of_getElem? hx5)) ?_;refine bB<|sp hT ?_;refine ss (ldO hT (cS .head)) ?_;refine sp hT ?_;refine ss (ldO hT (cS kT4)) ?_;refine cP Tryz.func52 (bJb x4.sides c.vars) rfl rfl .nil ⟨(Has.of mT0),trivial⟩ fun _=>?_;refine sp2 hT ?_;refine bY (fun hg52=>?_) (fun hg52=>?_)
  ·have hg52:=gR hg52;refine sk3 ?_;refine sp2 hT ?_;refine sk3 ?_;refine sp2 hT ?_;refine sk4 ?_;refine sk4 ?_;refine sk ?_;refine sp hT ?_;refine nn<|cK rfl rfl ?_;refine sr<|sp hT ?_;refine nn<|bL<|bK<|bR<|bK<|bK<|bR<|bK ?_;have hr:=yR hinv6.2 (cV hx5) (by first | exact .inl (show hI (polsL (iY.sides _).list) c.vars=false by assumption) | exact .inr (.inl (by show x4.input< -1;omega)) | exact .inr (.inr (.inl (by show 64≤x4.input;omega))) | exact .inr (.inr (.inr ⟨by show 0≤x4.input;omega,by subst_vars;assumption⟩)));subst hr;exact bI () rfl (rv_tmp rfl) .nil trivial rfl
  have hg52:=gS hg52;refine sp hT ?_;refine ss (ldO hT (dE .head)) ?_;refine sp3 hT ?_;refine bY (fun hg57=>?_) (fun hg57=>?_)
  ·have hg57:=of_decide_eq_true hg57;refine sk3 ?_;refine sp2 hT ?_;refine sk4 ?_;refine sk4 ?_;refine sk ?_;refine sp hT ?_;refine nn<|cK rfl rfl ?_;refine sr<|sp hT ?_;refine nn<|bL<|bK<|bR<|bK<|bK<|bR<|bK ?_;have hr:=yR hinv6.2 (cV hx5) (by first | exact .inl (show hI (polsL (iY.sides _).list) c.vars=false by assumption) | exact .inr (.inl (by show x4.input< -1;omega)) | exact .inr (.inr (.inl (by show 64≤x4.input;omega))) | exact .inr (.inr (.inr ⟨by show 0≤x4.input;omega,by subst_vars;assumption⟩)));subst hr;exact bI () rfl (rv_tmp rfl) .nil trivial rfl
  have hg57:=Int.not_lt.1 (of_decide_eq_false hg57);refine sp hT ?_;refine ss (ldO hT (dE .head)) ?_;refine sp3 hT ?_;refine bY (fun hg62=>?_) (fun hg62=>?_)
  ·have hg62:=of_decide_eq_true hg62;refine sk4 ?_;refine sk4 ?_;refine sk ?_;refine sp hT ?_;refine nn<|cK rfl rfl ?_;refine sr<|sp hT ?_;refine nn<|bL<|bK<|bR<|bK<|bK<|bR<|bK ?_;have hr:=yR hinv6.2 (cV hx5) (by first | exact .inl (show hI (polsL (iY.sides _).list) c.vars=false by assumption) | exact .inr (.inl (by show x4.input< -1;omega)) | exact .inr (.inr (.inl (by show 64≤x4.input;omega))) | exact .inr (.inr (.inr ⟨by show 0≤x4.input;omega,by subst_vars;assumption⟩)));subst hr;exact bI () rfl (rv_tmp rfl) .nil trivial rfl
  have hg62:=Int.not_le.1 (of_decide_eq_false hg62);refine sp hT ?_;refine ss (ldO hT (dE .head)) ?_;refine sp2 hT ?_;refine bY (fun hg66=>?_) (fun hg66=>?_)
  ·have hg66:=of_decide_eq_true hg66;refine sp hT ?_;refine ss (ldO hT (dE .head)) ?_
   obtain⟨x7,hx8⟩: ∃x',inp[x4.input.toNat]?=some x':=⟨_,List.getElem?_eq_getElem (by omega)⟩
   refine ss (cW hT (k:=x4.input.toNat) rfl rfl rfl rfl rfl (by omega) (by omega)) ?_;refine ss (bM hT (bX.knows (cR kT1) (k:=x4.input.toNat) (x:=x7) hx8 0) rfl rfl rfl rfl rfl) ?_;refine sp2 hT ?_;refine nn<|bN rfl (fun hc72=>?_) (fun hc72=>?_)
   ·refine sr<|sp hT ?_;refine nn<|bL<|bK<|bR<|bK<|bK<|bR<|bK ?_;have hr:=yR hinv6.2 (cV hx5) (by first | exact .inl (show hI (polsL (iY.sides _).list) c.vars=false by assumption) | exact .inr (.inl (by show x4.input< -1;omega)) | exact .inr (.inr (.inl (by show 64≤x4.input;omega))) | exact .inr (.inr (.inr ⟨by show 0≤x4.input;omega,by subst_vars;assumption⟩)));subst hr;exact bI () rfl (rv_tmp rfl) .nil trivial rfl
   refine bJ<|bD<|bF<|sr<|sp hT ?_;refine ss (ldO hT (dE .head)) ?_;refine sp hT ?_;refine nn<|bN rfl (fun hc75=>?_) (fun hc75=>?_)
   ·have hc75:=of_decide_eq_true hc75;refine bB<|sp hT ?_;refine ss (ldO hT (dE .head)) ?_;refine ss (cW hT (k:=x4.input.toNat) rfl rfl rfl rfl rfl (by omega) (by omega)) ?_;refine fL hT (k:=x4.input.toNat) (fo:=0) (y':=true) kT1 rfl rfl rfl rfl rfl rfl rfl rfl rfl hx8 rfl ?_;refine nn<|kK 12 _ _ [(true,0),(true,1),(true,2),(true,3),(true,4),(true,5),(true,6),(true,7),(false,8),(false,9),(true,10),(true,11)] dP (by decide+kernel) (.cons .head (.cons .head (.cons .head (.cons kT1 .nil)))) bH.self ?_;refine puL hT ?_;refine puL hT ?_;refine puL hT ?_;refine puL hT ?_;refine stL rfl (ldO hT (jJ kT2)) ?_;refine puL hT ?_;refine stL rfl (ldO hT (dE kT1)) ?_;refine puL hT ?_;refine jB (o:=_) rfl ?_;refine oB (m:=decide (0≤x4.input)) rfl rfl rfl rfl rfl fun b9=>?_;refine jA (.cons kT1 (.cons kT1 (.cons kT1 (.cons kT2 .nil)))) (bH.drop 0) ?_;refine jB (o:=_) rfl ?_;refine oL kT4 (gT .head rfl) rfl rfl rfl rfl rfl rfl rfl (by simp;omega) fun A10 c11=>?_;refine jA (.cons kT2 (.cons kT2 (.cons kT2 (.cons kT2 .nil)))) (bH.drop 0) ?_;refine puL hT ?_;refine puL hT ?_;refine gQ (o:=_) rfl ?_;refine sto hT kT4 ?_;refine iN<|bT<|bD<|bB<|sp hT ?_;refine bS (z':=(((i+1):Nat):Int)) (cG (by omega) (by omega)) ?_;refine sp hT ?_;refine nn ?_;exact bZ (i+1,inp.set x4.input.toNat true,made++[decide (0≤x4.input)],A10,c11) (by dsimp only;omega) ⟨rfl,trivial⟩ ⟨rfl,rfl,rfl,rfl,rfl,trivial⟩ (.cons kT3 (.cons .head (.cons .head (.cons kT2 .nil)))) ⟨Has.pure (⟨by dsimp only;omega,bufs_in hinv6.2 (cV hx5) (show hI (polsL x4.sides.list) c.vars=true by assumption) (show-1≤x4.input by omega) (show x4.input<64 by omega) (show 0≤x4.input by omega) (by first | (subst_vars;assumption) | (exfalso;omega))⟩),trivial⟩ (bH.drop 3)
   have hc75:=Int.not_le.1 (of_decide_eq_false hc75);refine bJ<|bD<|kK 12 _ _ [(true,0),(true,1),(true,2),(true,3),(true,4),(true,5),(true,6),(true,7),(false,8),(false,9),(true,10),(true,11)] dP (by decide+kernel) (.cons .head (.cons .head (.cons .head (.cons kT1 .nil)))) bH.self ?_;refine puL hT ?_;refine puL hT ?_;refine puL hT ?_;refine puL hT ?_;refine stL rfl (ldO hT (jJ kT2)) ?_;refine puL hT ?_;refine stL rfl (ldO hT (dE .head)) ?_;refine puL hT ?_;refine jB (o:=_) rfl ?_;refine oB (m:=decide (0≤x4.input)) rfl rfl rfl rfl rfl fun b12=>?_;refine jA (.cons kT1 (.cons kT1 (.cons kT1 (.cons kT2 .nil)))) (bH.drop 0) ?_;refine jB (o:=_) rfl ?_;refine oL kT4 (gT .head rfl) rfl rfl rfl rfl rfl rfl rfl (by simp;omega) fun A13 c14=>?_;refine jA (.cons kT2 (.cons kT2 (.cons kT2 (.cons kT2 .nil)))) (bH.drop 0) ?_;refine puL hT ?_;refine puL hT ?_;refine gQ (o:=_) rfl ?_;refine sto hT kT4 ?_;refine iN<|bT<|bD<|bB<|sp hT ?_;refine bS (z':=(((i+1):Nat):Int)) (cG (by omega) (by omega)) ?_;refine sp hT ?_;refine nn ?_;exact bZ (i+1,inp,made++[decide (0≤x4.input)],A13,c14) (by dsimp only;omega) ⟨rfl,trivial⟩ ⟨rfl,rfl,rfl,rfl,rfl,trivial⟩ (.cons kT4 (.cons .head (.cons .head (.cons kT2 .nil)))) ⟨Has.pure (⟨by dsimp only;omega,bufs_no hinv6.2 (cV hx5) (show hI (polsL x4.sides.list) c.vars=true by assumption) (show-1≤x4.input by omega) (show x4.input<0 by omega)⟩),trivial⟩ (bH.drop 3)
  have hg66:=Int.not_le.1 (of_decide_eq_false hg66);refine sk4 ?_;refine sp2 hT ?_;refine nn<|cQ rfl rfl ?_;refine bJ<|bD<|bF<|sr<|sp hT ?_;refine ss (ldO hT (dE .head)) ?_;refine sp hT ?_;refine nn<|bN rfl (fun hc75=>?_) (fun hc75=>?_)
  ·have hc75:=of_decide_eq_true hc75;refine bB<|sp hT ?_;refine ss (ldO hT (dE .head)) ?_
   obtain⟨x15,hx16⟩: ∃x',inp[x4.input.toNat]?=some x':=⟨_,List.getElem?_eq_getElem (by omega)⟩
   refine ss (cW hT (k:=x4.input.toNat) rfl rfl rfl rfl rfl (by omega) (by omega)) ?_;refine fL hT (k:=x4.input.toNat) (fo:=0) (y':=true) kT1 rfl rfl rfl rfl rfl rfl rfl rfl rfl hx16 rfl ?_;refine nn<|kK 12 _ _ [(true,0),(true,1),(true,2),(true,3),(true,4),(true,5),(true,6),(true,7),(false,8),(false,9),(true,10),(true,11)] dP (by decide+kernel) (.cons .head (.cons .head (.cons .head (.cons kT1 .nil)))) bH.self ?_;refine puL hT ?_;refine puL hT ?_;refine puL hT ?_;refine puL hT ?_;refine stL rfl (ldO hT (jJ kT2)) ?_;refine puL hT ?_;refine stL rfl (ldO hT (dE kT1)) ?_;refine puL hT ?_;refine jB (o:=_) rfl ?_;refine oB (m:=decide (0≤x4.input)) rfl rfl rfl rfl rfl fun b17=>?_;refine jA (.cons kT1 (.cons kT1 (.cons kT1 (.cons kT2 .nil)))) (bH.drop 0) ?_;refine jB (o:=_) rfl ?_;refine oL kT4 (gT .head rfl) rfl rfl rfl rfl rfl rfl rfl (by simp;omega) fun A18 c19=>?_;refine jA (.cons kT2 (.cons kT2 (.cons kT2 (.cons kT2 .nil)))) (bH.drop 0) ?_;refine puL hT ?_;refine puL hT ?_;refine gQ (o:=_) rfl ?_;refine sto hT kT4 ?_;refine iN<|bT<|bD<|bB<|sp hT ?_;refine bS (z':=(((i+1):Nat):Int)) (cG (by omega) (by omega)) ?_;refine sp hT ?_;refine nn ?_;exact bZ (i+1,inp.set x4.input.toNat true,made++[decide (0≤x4.input)],A18,c19) (by dsimp only;omega) ⟨rfl,trivial⟩ ⟨rfl,rfl,rfl,rfl,rfl,trivial⟩ (.cons kT3 (.cons .head (.cons .head (.cons kT2 .nil)))) ⟨Has.pure (⟨by dsimp only;omega,bufs_in hinv6.2 (cV hx5) (show hI (polsL x4.sides.list) c.vars=true by assumption) (show-1≤x4.input by omega) (show x4.input<64 by omega) (show 0≤x4.input by omega) (by first | (subst_vars;assumption) | (exfalso;omega))⟩),trivial⟩ (bH.drop 3)
  have hc75:=Int.not_le.1 (of_decide_eq_false hc75);refine bJ<|bD<|kK 12 _ _ [(true,0),(true,1),(true,2),(true,3),(true,4),(true,5),(true,6),(true,7),(false,8),(false,9),(true,10),(true,11)] dP (by decide+kernel) (.cons .head (.cons .head (.cons .head (.cons kT1 .nil)))) bH.self ?_;refine puL hT ?_;refine puL hT ?_;refine puL hT ?_;refine puL hT ?_;refine stL rfl (ldO hT (jJ kT2)) ?_;refine puL hT ?_;refine stL rfl (ldO hT (dE .head)) ?_;refine puL hT ?_;refine jB (o:=_) rfl ?_;refine oB (m:=decide (0≤x4.input)) rfl rfl rfl rfl rfl fun b20=>?_;refine jA (.cons kT1 (.cons kT1 (.cons kT1 (.cons kT2 .nil)))) (bH.drop 0) ?_;refine jB (o:=_) rfl ?_;refine oL kT4 (gT .head rfl) rfl rfl rfl rfl rfl rfl rfl (by simp;omega) fun A21 c22=>?_;refine jA (.cons kT2 (.cons kT2 (.cons kT2 (.cons kT2 .nil)))) (bH.drop 0) ?_;refine puL hT ?_;refine puL hT ?_;refine gQ (o:=_) rfl ?_;refine sto hT kT4 ?_;refine iN<|bT<|bD<|bB<|sp hT ?_;refine bS (z':=(((i+1):Nat):Int)) (cG (by omega) (by omega)) ?_;refine sp hT ?_;refine nn ?_;exact bZ (i+1,inp,made++[decide (0≤x4.input)],A21,c22) (by dsimp only;omega) ⟨rfl,trivial⟩ ⟨rfl,rfl,rfl,rfl,rfl,trivial⟩ (.cons kT4 (.cons .head (.cons .head (.cons kT2 .nil)))) ⟨Has.pure (⟨by dsimp only;omega,bufs_no hinv6.2 (cV hx5) (show hI (polsL x4.sides.list) c.vars=true by assumption) (show-1≤x4.input by omega) (show x4.input<0 by omega)⟩),trivial⟩ (bH.drop 3)
 have hc43:=Int.not_lt.1 (of_decide_eq_false hc43);refine cE<|bW<|bW<|cD<|bD<|bF<|sr<|sp hT ?_;refine ss (ldO hT (kC kT3)) ?_;refine sp2 hT ?_;refine nn<|bO ?_;obtain⟨hmf,hr1⟩:=bufs_end hinv6.2 (by show(tH c.bufs.list).length≤i;rw [dL];omega);have hml2:made.length=c.bufs.list.length:=by rw [hmf,pN];exact dL _
 rw [hml2];refine cM (ι:=Nat×List Bool×Int×Int) [(1,_),(4,_),(93,_),(94,_)] ⟨rfl,rfl,rfl,rfl,trivial⟩ (fun⟨k,made,lo,bu⟩=>[(95,.int .i64 (k:Nat))]) (fun⟨k,made,lo,bu⟩=>[.obj b3 (.cells [.int .i64 c.vars,.int .i64 lo,.int .i64 bu,.slice MA c.bufs.list.length mc].toArray 115),gA.row (.slice MA c.bufs.list.length mc) 4 made]) (fun⟨k,made,lo,bu⟩=>[bP.pure (k≤c.steps.list.length∧mV c.c k made r)]) (fun⟨k,made,lo,bu⟩=>c.steps.list.length-k) (0,made,0,0) ⟨rfl,trivial⟩ (.cons kT1 (.cons kT1 .nil)) ⟨Has.pure (⟨by omega,bAx hmf hr1⟩),trivial⟩ ?_;rintro⟨k,made,lo,bu⟩;dsimp only;refine bV (Has.of mT0) fun hinv15=>?_;have hml3:made.length=c.bufs.list.length:=by rw [hinv15.2.1];exact dL _
 refine sr<|sp hT ?_;refine nn<|bF<|bN rfl (fun hc96=>?_) (fun hc96=>?_)
 ·have hc96:=of_decide_eq_true hc96;refine bJ<|bD<|bF<|bO<|sr<|cB (rE.sl (.slice c.steps.addr c.steps.list.length c.steps.cap) c.steps.list) (nC (jR (Has.of mT2))) ?_
  obtain⟨x23,hx24⟩: ∃x',c.steps.list[k]?=some x':=⟨_,List.getElem?_eq_getElem (by omega)⟩
  refine ss (bG hT (k:=k) (bA (Has.of mT0)) rfl rfl rfl rfl rfl rfl rfl (by omega)) ?_;refine ss (cN hT (bX.knows (bA (Has.of mT0)) (k:=k) (x:=x23) hx24 0) rfl rfl rfl rfl rfl) ?_;refine dZ rfl rfl rfl rfl sQ rfl fun b25=>?_;refine sto hT .head ?_;refine nn<|bF<|bF<|cB (oI x23) (Has.each (rS (jR (Has.of mT3))) (List.mem_of_getElem? hx24)) ?_;refine bB<|sp hT ?_;refine ss (ldO hT (dE .head)) ?_;refine sp2 hT ?_;refine bY (fun hg102=>?_) (fun hg102=>?_)
  ·have hg102:=of_decide_eq_true hg102;refine sk4 ?_;refine sk2 ?_;refine sp2 hT ?_;refine sk4 ?_;refine sk4 ?_;refine sp2 hT ?_;refine sk4 ?_;refine sp hT ?_;refine nn<|cK rfl rfl ?_;refine sr<|sp hT ?_;refine nn<|bL<|bK<|bR<|bK<|bK<|bR<|bK ?_;have hr:=vZ hinv15.2 (dM hx24) (by first | exact .inl (by show x23.buf<0;omega) | exact .inr (.inl (by show((tH c.bufs.list).length:Int)≤x23.buf;rw [dL];omega)) | exact .inr (.inr (.inl ⟨_,cV ‹_›,by show 0≤iY.input _;omega⟩)) | exact .inr (.inr (.inr (show mG c.vars made (fY.c _)=false by assumption))));subst hr;exact bI () rfl (rv_tmp rfl) .nil trivial rfl
  have hg102:=Int.not_lt.1 (of_decide_eq_false hg102);refine sp hT ?_;refine ss (ldO hT (dE .head)) ?_;refine sp hT ?_;refine ss (ldO hT (dE kT4)) ?_;refine sp4 hT ?_;refine bY (fun hg110=>?_) (fun hg110=>?_)
  ·have hg110:=of_decide_eq_true hg110;refine sk4 ?_;refine sk4 ?_;refine sp2 hT ?_;refine sk4 ?_;refine sp hT ?_;refine nn<|cK rfl rfl ?_;refine sr<|sp hT ?_;refine nn<|bL<|bK<|bR<|bK<|bK<|bR<|bK ?_;have hr:=vZ hinv15.2 (dM hx24) (by first | exact .inl (by show x23.buf<0;omega) | exact .inr (.inl (by show((tH c.bufs.list).length:Int)≤x23.buf;rw [dL];omega)) | exact .inr (.inr (.inl ⟨_,cV ‹_›,by show 0≤iY.input _;omega⟩)) | exact .inr (.inr (.inr (show mG c.vars made (fY.c _)=false by assumption))));subst hr;exact bI () rfl (rv_tmp rfl) .nil trivial rfl
  have hg110:=Int.not_le.1 (of_decide_eq_false hg110);refine sp hT ?_;refine ss (ldO hT (dE kT4)) ?_;refine sp hT ?_;refine ss (ldO hT (dE .head)) ?_;refine cB (sM.sl (.slice c.bufs.addr c.bufs.list.length c.bufs.cap) c.bufs.list) (jS (gP (Has.of mT4))) ?_
  obtain⟨x26,hx27⟩: ∃x',c.bufs.list[x23.buf.toNat]?=some x':=⟨_,List.getElem?_eq_getElem (by omega)⟩
  refine ss (bG hT (k:=x23.buf.toNat) (bA (Has.of mT0)) rfl rfl rfl rfl rfl rfl (by omega) (by omega)) ?_;refine sp hT ?_;refine ss (bM hT (bX.knows (bA (Has.of mT0)) (k:=x23.buf.toNat) (x:=x26) hx27 1) rfl rfl rfl rfl rfl) ?_;refine sp3 hT ?_;refine bY (fun hg120=>?_) (fun hg120=>?_)
  ·have hg120:=of_decide_eq_true hg120;refine sk4 ?_;refine sp hT ?_;refine nn<|cK rfl rfl ?_;refine sr<|sp hT ?_;refine nn<|bL<|bK<|bR<|bK<|bK<|bR<|bK ?_;have hr:=vZ hinv15.2 (dM hx24) (by first | exact .inl (by show x23.buf<0;omega) | exact .inr (.inl (by show((tH c.bufs.list).length:Int)≤x23.buf;rw [dL];omega)) | exact .inr (.inr (.inl ⟨_,cV ‹_›,by show 0≤iY.input _;omega⟩)) | exact .inr (.inr (.inr (show mG c.vars made (fY.c _)=false by assumption))));subst hr;exact bI () rfl (rv_tmp rfl) .nil trivial rfl
  have hg120:=Int.not_le.1 (of_decide_eq_false hg120);refine sp hT ?_;refine ss (ldN hT (cS .head)) ?_;refine dW (cA Tryz.func53 rfl rfl) (step_specM hml3 b3 c.vars lo bu MA mc x23) rfl rfl rfl rfl rfl (.cons kT1 .nil) (.cons kT1 .nil) (lH gW) ⟨Has.of mT2,Has.of mT0,trivial⟩ (fun _=>True) (fun _ _ _ _=>trivial) fun y28 _=>?_;refine sp2 hT ?_;refine nn<|bN rfl (fun hc125=>?_) (fun hc125=>?_)
  ·have hc125:=gR hc125;refine sr<|sp hT ?_;refine nn<|bL<|bK<|bR<|bK<|bK<|bR<|bK ?_;have hr:=vZ hinv15.2 (dM hx24) (by first | exact .inl (by show x23.buf<0;omega) | exact .inr (.inl (by show((tH c.bufs.list).length:Int)≤x23.buf;rw [dL];omega)) | exact .inr (.inr (.inl ⟨_,cV ‹_›,by show 0≤iY.input _;omega⟩)) | exact .inr (.inr (.inr (show mG c.vars made (fY.c _)=false by assumption))));subst hr;exact bI () rfl (rv_tmp rfl) .nil trivial rfl
  have hc125:=gS hc125;refine bJ<|bD<|kK 7 _ _ [(true,0),(true,1),(true,2),(true,3),(true,4),(true,5),(true,6)] dP (by decide+kernel) (.cons .head (.cons .head (.cons .head (.cons .head (.cons .head .nil))))) bH.self ?_;refine puL hT ?_;refine puL hT ?_;refine puL hT ?_;refine stL rfl (ldO hT (jJ .head)) ?_;refine puL hT ?_;refine stL rfl (ldO hT (dE kT1)) ?_
  obtain⟨x29,hx30⟩: ∃x',made[x23.buf.toNat]?=some x':=⟨_,List.getElem?_eq_getElem (by omega)⟩
  refine stL rfl (bG hT (k:=x23.buf.toNat) (bU kT2) rfl rfl rfl rfl rfl hml3.symm (by omega) (by omega)) ?_;refine gQ (o:=_) rfl ?_;refine cF hT (k:=x23.buf.toNat) (fo:=0) (y':=true) kT2 rfl rfl rfl rfl rfl rfl rfl rfl rfl hx30 rfl ?_;refine iN<|bT<|bD<|bB<|sp hT ?_;refine bS (z':=(((k+1):Nat):Int)) (cG (by omega) (by omega)) ?_;refine sp hT ?_;refine nn ?_;exact bZ (k+1,made.set x23.buf.toNat true,y28.1,y28.2) (by dsimp only;omega) ⟨rfl,trivial⟩ ⟨rfl,rfl,rfl,rfl,trivial⟩ (.cons kT1 (.cons .head (.cons kT1 (.cons kT1 .nil)))) ⟨Has.pure (⟨by dsimp only;omega,steps_ok hinv15.2 (dM hx24) (show 0≤x23.buf by omega) (cV hx27) (show iY.input _<0 by omega) (show mG c.vars made x23.c=true by assumption)⟩),trivial⟩ (bH.drop 4)
 have hc96:=Int.not_lt.1 (of_decide_eq_false hc96);refine cE<|bW<|bW<|cD<|bD<|sr<|sp hT ?_;refine ss (ldO hT (jJ kT3)) ?_;refine sp hT ?_;refine cB (iG.sl (.slice c.outs.addr c.outs.list.length c.outs.cap) c.outs.list) (yQ (yX (Has.of mT2))) ?_;refine dW (cA Tryz.func54 rfl rfl) (bCj c.outs.addr c.outs.cap c.outs.list (by omega) 55 [.pointer (some ⟨b1,0,none⟩)] [bP.cells b1 0 [.int .i64 c.vars,.slice c.bufs.addr c.bufs.list.length c.bufs.cap,.slice c.steps.addr c.steps.list.length c.steps.cap,.slice c.outs.addr c.outs.list.length c.outs.cap]] (outB c.bufs.list.length) (cA Tryz.func55 rfl rfl) (fun k=>right1_spec b1 c k)) rfl rfl rfl rfl rfl .nil (.cons kT3 .nil) (lG gW) ⟨Has.of mT1,Has.of mT0,trivial⟩ (fun _=>True) (fun _ _ _ _=>trivial) fun _ _=>?_;refine sp2 hT ?_;refine nn<|bL ?_;have hr:=vW hinv15.2 (by show(uI c.steps.list).length≤k;rw [dX];omega);subst hr;exact bI () rfl (rv_tmp rfl) .nil trivial (congrArg Value.bool (outs_all (dL _)))
set_option maxRecDepth 100000
set_option maxHeartbeats 1000000 in
theorem bIu(a b:Mono)(w:World):
  Calls Tryz.prog 185 #[.agg #[.int .i64 a.n,.int .u8 a.e0.toNat,.int .u8 a.e1.toNat,.int .u8 a.e2.toNat,.int .u8 a.e3.toNat,.int .u8 a.e4.toNat,.int .u8 a.e5.toNat],.agg #[.int .i64 b.n,.int .u8 b.e0.toNat,.int .u8 b.e1.toNat,.int .u8 b.e2.toNat,.int .u8 b.e3.toNat,.int .u8 b.e4.toNat,.int .u8 b.e5.toNat]] w fun e w'=>e= .returned (.int .i64 (wI a b))∧Below w.heap.size w w':=by
 go_enter Tryz.func185,Tryz.ntmps185
 go_wp2
 refine wp_loop_rounds 7 ?_
 repeat any_goals (first | (rw [rounds_succ];go_wp2) | (go_quiet (fail);go_wp2))
 all_goals go_ret
 all_goals refine⟨ret_int ?_,?_⟩
 all_goals first | ((repeat refine bBs ?_ _);go_grown;done) | (go_light;simp [wI,Mono.E,uS, *];done) | (go_light;simp [wI,Mono.E,uS, *];rfl)
end Go.Proofs.YtofjmphlpdhohaaGreatDoor
namespace Go.Proofs.YtofjmphlpdhohaaGreatDoor
open Go.RowKit
set_option maxRecDepth 100000
theorem cmp_flip: ∀(l m:List UInt8),(Lib.compareBytes l m=1↔Lib.compareBytes m l<0)∧(Lib.compareBytes l m=0↔Lib.compareBytes m l=0)
 | [],[]=>by simp [Lib.compareBytes]
 | [],_::_=>by simp [Lib.compareBytes]
 | _::_,[]=>by simp [Lib.compareBytes]
 | a::l,b::m=>by
  have ih:=cmp_flip l m;rw [uS,uS]
  by_cases h1:b.toNat<a.toNat
  ·rw [if_pos h1,if_neg (by omega),if_pos h1];simp
  ·rw [if_neg h1]
   by_cases h2:a.toNat<b.toNat
   ·rw [if_pos h2,if_pos h2];simp
   ·rw [if_neg h2,if_neg h2,if_neg h1];exact ih
theorem bJk(a b:Mono):wI a b=1↔ord a b<0:=(cmp_flip _ _).1
theorem small_not{m:Mono}(h:nL m=false):(m.n==0)=true∨((m.n==0)=false∧decide (16777216<m.n)=true)∨((m.n==0)=false∧decide (16777216<m.n)=false∧decide (m.n< -16777216)=true)∨
  ((m.n==0)=false∧decide (16777216<m.n)=false∧decide (m.n< -16777216)=false∧decide (8<(m.deg:Int))=true):=by
 have h': ¬(m.n≠0∧m.n≤16777216∧ -16777216≤m.n∧m.deg≤8):=of_decide_eq_false h;simp only [beq_iff_eq,beq_eq_false_iff_ne,decide_eq_true_eq,decide_eq_false_iff_not];omega
theorem small_all{m:Mono}(h:nL m=true):(m.n==0)=false∧decide (16777216<m.n)=false∧decide (m.n< -16777216)=false∧decide (8<(m.deg:Int))=false:=by
 have h':m.n≠0∧m.n≤16777216∧ -16777216≤m.n∧m.deg≤8:=of_decide_eq_true h;simp only [beq_eq_false_iff_ne,decide_eq_false_iff_not];omega
set_option maxRecDepth 100000 in
set_option maxHeartbeats 1000000 in
theorem rW(A:Option Addr)(c:Nat)(xs:List Mono)(w:World)(ha:iW w A xs)(hx:xs.length≤140737488355328):
  Calls Tryz.prog 123 #[.slice A xs.length c] w fun e w'=>e= .returned (.bool (cU xs))∧Below w.heap.size w w':=by
 by_cases hl:xs.length≤48
 ·have hl1:decide ((48:Int)<(xs.length:Int))=false:=by simp;omega
  have Ha:=Lib.hid ha;clear ha
  go_enter Tryz.func123,Tryz.ntmps123
  go_wp2
  go_loopw [3] (fun i wr=> ∃k:Nat,k≤xs.length∧i= .int .i64 k∧Hid (cU xs=fO (if k=0 then none else xs[k-1]?) (xs.drop k))∧Below w.heap.size w wr) (fun i _=>xs.length-(intOf i).toNat)
  case atStart=>exact⟨0,Nat.zero_le _,rfl,by show _=_;simp [cU,hl],Below.refl _ _⟩
  case round=>
   obtain⟨k,hk,rfl,hs,hbl⟩:=hrel
   by_cases hlt:k<xs.length
   ·obtain⟨m,hm,dm⟩:=mD hlt;obtain⟨b,o,rfl,hB,c0,c1,c2,c3,c4,c5,c6⟩:=Ha.out.below hbl k m hm;have HN:=Lib.hid (show nL m=false→cU xs=false by intro hsb;rw [hs.out,dm];split<;>(try cases xs[k-1]?)<;>simp [fO,hsb]);have HM:=Lib.hid hm;have HD:=Lib.hid dm;cases hsb:nL m
    ·have HN':=Lib.hid (HN.out hsb);have HBL:=Lib.hid hbl;clear dm hm hbl hB HN hs HM HD
     rcases small_not hsb with t0 | ⟨t0,t1⟩ | ⟨t0,t1,t2⟩ | ⟨t0,t1,t2,t3⟩
     all_goals go_wp2_with (go_at_call 184;refine(bEu m _).mono ?_;rintro e w1 ⟨rfl,hb1⟩)
     all_goals go_ret
     all_goals refine⟨iT HN'.out.symm,?_⟩
     all_goals first | exact HBL.out | exact HBL.out.trans (hb1.mono HBL.out.size)
    ·obtain⟨t0,t1,t2,t3⟩:=small_all hsb;have HC:=Lib.hid (Ha.out.below hbl k m hm);have HBL:=Lib.hid hbl;clear dm hm hbl hB HN
     go_wp2_with (go_at_call 184;refine(bEu m _).mono ?_;rintro e w1 ⟨rfl,hb1⟩)
     clear c0 c1 c2 c3 c4 c5 c6 t0 t1 t2 t3;have HB1:=Lib.hid (show Below w.heap.size w w1 from HBL.out.trans (hb1.mono HBL.out.size));clear hb1 HBL HC
     rcases Nat.eq_zero_or_pos k with hk0 | hk0
     ·have hk1:decide (0<k)=false:=by simp;omega
      have HS:=Lib.hid (show cU xs=fO (if k+1=0 then none else xs[k+1-1]?) (xs.drop (k+1)) by rw [hs.out,HD.out,if_pos hk0,if_neg (by omega),show k+1-1=k from rfl,HM.out];simp [fO,hsb]);clear hs hk0 HM HD;refine kD (by kernel_rfl) (by kernel_rfl) ?_
      repeat (go_big_quiet_step (fail))
      refine wpQuiet_nil ?_;rintro _ ⟨x,rfl⟩
      go_wp2
      go_roundw
      case rel=>exact⟨k+1,by omega,by go_num,HS,HB1.out.trans (x.h.mono HB1.out.size)⟩
      case measure=>simp [intOf];omega
     ·have hk1:decide (0<k)=true:=by simp;omega
      obtain⟨j,rfl⟩: ∃j,k=j+1:=⟨k-1,by omega⟩
      obtain⟨q,hq⟩: ∃q,xs[j]?=some q:=⟨xs[j]'(by omega),List.getElem?_eq_getElem _⟩
      have HS:=Lib.hid (show cU xs=(decide (ord q m<0)&&fO (some m) (xs.drop (j+1+1))) by rw [hs.out,HD.out,if_neg (by omega),show j+1-1=j from rfl,hq];simp [fO,hsb])
      have p0:fV w1 b (o+j*7) q∧fV w1 b (o+(j+1)*7) m:=by
       obtain⟨b1,o1,e1,hB1,hm1⟩:=Ha.out.below HB1.out j q hq;obtain⟨b2,o2,e2,hB2,hm2⟩:=Ha.out.below HB1.out (j+1) m HM.out;injection e1 with e1
       injection e1 with e1 e1'
       injection e2 with e2
       injection e2 with e2 e2'
       subst e1 e1' e2 e2';exact⟨hm1,hm2⟩
      obtain⟨r0,r1,r2,r3,r4,r5,r6⟩:=p0.2.later;obtain⟨s0,s1,s2,s3,s4,s5,s6⟩:=p0.1.later;clear hs hk0 hq p0;have Hor:=Lib.hid (fZ.calls (W0:=w1) fun W _=>bIu q m W);refine kD (by kernel_rfl) (by kernel_rfl) ?_
      repeat (go_big_quiet_step ((go_at_call 185;exact Hor.out _)))
      refine wpQuiet_nil ?_;rintro _ ⟨x,rfl⟩;clear r0 r1 r2 r3 r4 r5 r6 s0 s1 s2 s3 s4 s5 s6 Hor;have HBX:=Lib.hid (show Below w.heap.size w x.w from HB1.out.trans (x.h.mono HB1.out.size));clear HB1
      by_cases ho:ord q m<0
      ·have ho1:(wI q m !=1)=false:=by simp [(bJk q m).2 ho]
       go_wp2
       go_roundw
       case rel=>exact⟨j+1+1,by omega,by go_num,(by show _=_;rw [HS.out,if_neg (by omega),show j+1+1-1=j+1 from rfl,HM.out];simp [ho]),HBX.out⟩
       case measure=>simp [intOf];omega
      ·have ho1:(wI q m !=1)=true:=by rw [bne_iff_ne];intro h;exact ho ((bJk q m).1 h)
       go_wp2
       go_ret
       exact⟨iT (by rw [HS.out,decide_eq_false (by omega),Bool.false_and]),HBX.out⟩
   ·have hk':k=xs.length:=by omega
    go_wp2
    go_ret
    refine⟨iT ?_,hbl⟩;rw [hs.out,List.drop_of_length_le (by omega)];split<;>(try cases xs[k-1]?)<;>simp [fO]
 ·have hl1:decide ((48:Int)<(xs.length:Int))=true:=by simp;omega
  go_enter Tryz.func123,Tryz.ntmps123
  go_wp2
  go_ret
  exact⟨iT (by simp [cU,hl]),Below.refl _ _⟩
end Go.Proofs.YtofjmphlpdhohaaGreatDoor
namespace Go.Proofs.YtofjmphlpdhohaaGreatDoor
open Go.RowKit
set_option maxRecDepth 100000
set_option maxRecDepth 100000 in
set_option maxHeartbeats 1000000 in
theorem refGrows_any(A:Option Addr)(c:Nat)(xs:List Mono)(w:World)(ha:iW w A xs)(hx:xs.length≤140737488355328):
  Calls Tryz.prog 132 #[.slice A xs.length c] w fun e w'=>e= .returned (.bool (kI xs))∧Below w.heap.size w w':=by
 have Ha:=Lib.hid ha;clear ha
 go_enter Tryz.func132,Tryz.ntmps132
 go_wp2
 go_loop [3] (fun i=> ∃k:Nat,k≤xs.length∧i= .int .i64 k∧Hid (xs.any rI=(xs.drop k).any rI)) (fun i=>xs.length-(intOf i).toNat)
 case atStart=>exact⟨0,Nat.zero_le _,rfl,rfl⟩
 case round=>
  obtain⟨k,hk,rfl,hs⟩:=hrel
  by_cases hlt:k<xs.length
  ·obtain⟨m,hm,dm⟩:=mD hlt;obtain⟨b,o,rfl,hB,c0,c1,c2,c3,c4,c5,c6⟩:=Ha.out k m hm;have HS:=Lib.hid (show xs.any rI=(rI m || (xs.drop (k+1)).any rI) by rw [hs.out,dm,List.any_cons]);clear hs hm dm hB c1 c2 c3 c4 c5 c6
   by_cases hn:m.n<0
   ·have hn1:decide (m.n<0)=true:=by simpa using hn
    go_wp2
    go_ret
    exact⟨iT (by unfold kI;rw [HS.out,show rI m=true from hn1,Bool.true_or];simp),Below.refl _ _⟩
   ·have hn1:decide (m.n<0)=false:=by simpa using hn
    go_wp2
    go_round
    case rel=>exact⟨k+1,by omega,by go_num,(by show _=_;rw [HS.out,show rI m=false from hn1,Bool.false_or])⟩
    case measure=>simp [intOf];omega
  ·have HS:=Lib.hid (show xs.any rI=false by rw [hs.out,List.drop_of_length_le (by omega)];rfl);clear hs
   go_wp2_with fail
   refine(rW A c xs _ Ha.out hx).mono ?_;rintro e w1 ⟨rfl,hb1⟩
   go_wp2
   go_ret
   exact⟨iT (by unfold kI;rw [HS.out];simp),hb1⟩
section
variable (p : PolV)
theorem refR_spec(hp:p.list.length≤140737488355328):dG Tryz.prog 123 [.slice p.addr p.list.length p.cap] [] [cY p] (fun _:Unit=> .bool (cU p.list)) (fun _=>[]) (fun _=>[]):=
 mA fun _ w hS h=>rW _ _ _ w (kR hS (h _ (.head _))) hp
theorem refG_spec(hp:p.list.length≤140737488355328):dG Tryz.prog 132 [.slice p.addr p.list.length p.cap] [] [cY p] (fun _:Unit=> .bool (kI p.list)) (fun _=>[]) (fun _=>[]):=
 mA fun _ w hS h=>refGrows_any _ _ _ w (kR hS (h _ (.head _))) hp
end
end Go.Proofs.YtofjmphlpdhohaaGreatDoor
