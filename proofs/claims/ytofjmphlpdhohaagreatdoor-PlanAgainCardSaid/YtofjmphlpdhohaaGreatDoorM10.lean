/- Texts of one proof, one behind the other: CoY, CoZ, Above, RefRight, RefGrowsK. -/
import Derived.Test.YtofjmphlpdhohaaGreatDoorM9
import Derived.Test.YtofjmphlpdhohaaGreatDoorM6
import Derived.Test.YtofjmphlpdhohaaGreatDoorRows
import Derived.WalkKit
import Derived.WalkSpells
import Derived.WalkLawsBesides
import Derived.Handy
import Derived.Deep.QuietTactic
import Derived.Deep.Light
import Derived.BigQuiet
import Derived.Test.YtofjmphlpdhohaaGreatDoorM7
namespace Go.Proofs.YtofjmphlpdhohaaGreatDoor
open Go.RowKit
theorem fE{β:fB}{H:List bJ}{F:List bI}{b off:Nat}{cs:List Value}(h:Has F (bI.cells b 0 cs)):lB β H F b off (cs.drop off):=fun w S _ k j u hj=>by
 rw [List.getElem?_drop] at hj;have:=(h S w k).2 (off+j) u hj
 rwa [Nat.zero_add] at this
def opV (vars loops buf:Int)(made:List Bool)(o:OpV):Bool:=
 if o.how=1 then (o.k==0)&&(((o.p.list.length:Int)==0)&&(o.fn==0))
 else if o.how=2 then ofB o.p.list vars&&((o.n==0)&&((o.k==0)&&(o.fn==0)))
 else if o.how=3 then decide (0≤o.k)&&(decide (o.k<loops)&&((o.n==0)&&(((o.p.list.length:Int)==0)&&(o.fn==0))))
 else if o.how=4 then decide (0≤o.k)&&(decide (o.k<(made.length:Int))&&((made[o.k.toNat]?).getD false&&((o.k !=buf)&&((o.n==0)&&(((o.p.list.length:Int)==0)&&(o.fn==0))))))
 else if o.how=5∨o.how=6 then kT o.fn (o.how==6)&&((o.n==0)&&((o.k==0)&&((o.p.list.length:Int)==0)))
 else false
theorem rZ{vars loops buf:Int}{made:List Bool}{o:OpV}:opV vars loops buf made o=opB vars loops buf made o.c:=by
 have hp:o.c.p.isEmpty=((o.p.list.length:Int)==0):=by
  show o.p.list.isEmpty=_;rw [Bool.eq_iff_iff,List.isEmpty_iff,beq_iff_eq,Int.natCast_eq_zero,List.length_eq_zero_iff]
 unfold opV opB;rw [hp];show(if o.how=1 then _ else if o.how=2 then _ else if o.how=3 then _ else if o.how=4 then _ else if _ then _ else _)=(if o.how=1 then _ else if o.how=2 then _ else if o.how=3 then _ else if o.how=4 then _ else if _ then _ else _);split
 ·rfl
 ·split
  ·rfl
  ·split
   ·rw [Bool.eq_iff_iff];simp only [Bool.and_eq_true,decide_eq_true_eq];exact and_assoc.symm
   ·split
    ·rw [Bool.eq_iff_iff];simp only [Bool.and_eq_true,decide_eq_true_eq,List.getD_eq_getElem?_getD,bne_iff_ne];show 0≤o.k∧o.k<made.length∧(made[o.k.toNat]?).getD false=true∧o.k≠buf∧_↔(0≤o.k∧o.k≠buf)∧(made[o.k.toNat]?).getD false=true∧_;constructor
     ·rintro⟨a,_,c,d,e⟩;exact⟨⟨a,d⟩,c,e⟩
     ·rintro⟨⟨a,d⟩,c,e⟩;refine⟨a,?_,c,d,e⟩
      rcases Int.lt_or_le o.k made.length with h | h
      ·exact h
      ·rw [List.getElem?_eq_none (by omega)] at c;cases c
    ·rfl
section
variable {vars loops buf : Int} {made : List Bool} {o : OpV}
theorem hJ(h:o.how=1):opB vars loops buf made o.c=((o.k==0)&&(((o.p.list.length:Int)==0)&&(o.fn==0))):=by
 rw [←rZ];unfold opV;rw [if_pos h]
theorem gY(h:o.how=2):opB vars loops buf made o.c=(ofB o.p.list vars&&((o.n==0)&&((o.k==0)&&(o.fn==0)))):=by
 rw [←rZ];unfold opV;rw [if_neg (by omega),if_pos h]
theorem hI(h:o.how=3):opB vars loops buf made o.c=(decide (0≤o.k)&&(decide (o.k<loops)&&((o.n==0)&&(((o.p.list.length:Int)==0)&&(o.fn==0))))):=by
 rw [←rZ];unfold opV;rw [if_neg (by omega),if_neg (by omega),if_pos h]
theorem hU{x:Bool}(h:o.how=4)(hx:made[o.k.toNat]?=some x):opB vars loops buf made o.c=(decide (0≤o.k)&&(decide (o.k<(made.length:Int))&&(x&&((o.k !=buf)&&((o.n==0)&&(((o.p.list.length:Int)==0)&&(o.fn==0))))))):=by
 rw [←rZ];unfold opV;rw [if_neg (by omega),if_neg (by omega),if_neg (by omega),if_pos h,hx];rfl
theorem fT(h:o.how=4)(hx: ¬(0≤o.k∧o.k<made.length)):opB vars loops buf made o.c=false:=by
 rw [←rZ];unfold opV;rw [if_neg (by omega),if_neg (by omega),if_neg (by omega),if_pos h]
 by_cases h0:0≤o.k
 ·rw [decide_eq_false (show ¬o.k<(made.length:Int) from fun e=>hx ⟨h0,e⟩)];simp
 ·rw [decide_eq_false h0];rfl
theorem gX(h:o.how=5):opB vars loops buf made o.c=(kT o.fn false&&((o.n==0)&&((o.k==0)&&((o.p.list.length:Int)==0)))):=by
 rw [←rZ];unfold opV;rw [if_neg (by omega),if_neg (by omega),if_neg (by omega),if_neg (by omega),if_pos (.inl h),h];rfl
theorem gW(h:o.how=6):opB vars loops buf made o.c=(kT o.fn true&&((o.n==0)&&((o.k==0)&&((o.p.list.length:Int)==0)))):=by
 rw [←rZ];unfold opV;rw [if_neg (by omega),if_neg (by omega),if_neg (by omega),if_neg (by omega),if_pos (.inr h),h];rfl
theorem hY(h1:o.how≠1)(h2:o.how≠2)(h3:o.how≠3)(h4:o.how≠4)(h5:o.how≠5)(h6:o.how≠6):opB vars loops buf made o.c=false:=by
 rw [←rZ];unfold opV;rw [if_neg h1,if_neg h2,if_neg h3,if_neg h4,if_neg (fun h=>h.elim h5 h6)]
end
def mG {α:Type}(p:α→Bool):List α→Int→Int
 | [],_=> -1
 | s::r,i=>if p s=true then i else mG p r (i+1)
section
variable {α : Type} {p : α → Bool} {x : α} {l : List α} {i : Nat} {r : Int}
theorem lR(h:r=mG p (l.drop i) i)(hx:l[i]?=some x):(p x=true→r=i)∧(p x=false→r=mG p (l.drop (i+1)) ((i+1:Nat):Int)):=by
 rw [pB hx,mG] at h;refine⟨fun e=>by rw [if_pos e] at h;exact h,fun e=>by rw [if_neg (by rw [e];simp)] at h;rw [h];rfl⟩
theorem xB(h:r=mG p (l.drop i) i)(hi:l.length≤i):r= -1:=by
 rw [List.drop_of_length_le hi] at h;exact h
end
theorem vU{α:Type}(p:α→Bool): ∀(l:List α) (i:Int),0≤i→decide (0≤mG p l i)=l.any p
 | [],i,_=>rfl
 | s::r,i,h=>by
  rw [mG,List.any_cons]
  cases e:p s with
  | true=>simp [h]
  | false=>
   rw [if_neg (by simp),vU p r (i+1) (by omega)];simp
def nQ (vars:Int)(made:List Bool)(x:gQ):Bool:=
 ofB x.at_.list vars&&(mF x.at_.list&&(lN (polsL x.loops.list) vars&&(!decide ((256:Int)<x.ops.list.length)&&(!decide (xU (sR x.ops.list)<0)&&
  ((if x.how=1 then x.fn==0 else if x.how=2∨x.how=3 then !((x.loops.list.length:Int)==0)&&kT x.fn true else false)&& !(x.ops.list.any fun o=>!opB vars x.loops.list.length x.buf made o.c))))))
theorem any_not{α:Type}(p:α→Bool)(l:List α):(!l.any fun o=>!p o)=l.all p:=by
 induction l with
 | nil=>rfl
 | cons x r ih=>rw [List.any_cons,List.all_cons,Bool.not_or,Bool.not_not,ih]
theorem iG{vars:Int}{made:List Bool}{x:gQ}:nQ vars made x=nF vars made x.c:=by
 have h1:x.c.ops.length=x.ops.list.length:=zH _;have h2:x.c.loops.length=x.loops.list.length:=dF _
 have h3:x.c.loops.isEmpty=((x.loops.list.length:Int)==0):=by
  show(polsL x.loops.list).isEmpty=_;rw [Bool.eq_iff_iff,List.isEmpty_iff,beq_iff_eq,Int.natCast_eq_zero,←List.length_eq_zero_iff,dF]
 have h4: ∀p:OpC→Bool,x.c.ops.all p= !(x.ops.list.any fun o=>!p o.c):=fun p=>by
  show(sR x.ops.list).all p=_;unfold sR;rw [List.all_map,any_not];rfl
 unfold nQ nF;rw [h1,h2,h3,h4]
 have h5:(!decide ((256:Int)<x.ops.list.length))=decide (x.ops.list.length≤256):=by
  rw [←decide_not,decide_eq_decide];omega
 have h6:(!decide (xU (sR x.ops.list)<0))=decide (0≤xU (sR x.ops.list)):=by
  rw [←decide_not,decide_eq_decide];omega
 rw [h5,h6,Bool.and_assoc];rfl
set_option maxRecDepth 100000 in
theorem right_spec(bs:Nat)(vars loops buf:Int)(MA:Option Addr)(mc:Nat)(made:List Bool)(o:OpV):cX Tryz.prog 113 [.pointer (some ⟨bs,0,none⟩),.agg #[.int .i64 o.how,.int .i64 o.k,.int .i64 o.n,.slice o.p.addr o.p.list.length o.p.cap,.int .u8 o.fn]] [] [opF o,bI.cells bs 0 [.int .i64 vars,.int .i64 loops,.int .i64 buf,.slice MA made.length mc],iO.sl (.slice MA made.length mc) made] (fun(_:Unit)=> .bool (opB vars loops buf made o.c)) (fun _=>[]) (fun _=>[]):=by
 have hT:=dW;refine cD Tryz.func113 rfl Tryz.ntmps113 rfl ?_;intro β hM;refine sr<|iL rfl rfl rfl rfl rfl rfl fun b1=>?_;refine sp hT ?_;refine nn<|bF<|dX _ _ [(true,0),(true,1),(true,2),(true,3),(true,4),(true,5),(true,6),(true,7),(true,8),(true,9),(true,10),(true,11)] fH (by decide+kernel) (.cons .head .nil) bH.self ?_;refine puM hT ?_;refine stM rfl (ldO hT (yQ .head)) ?_;refine puM hT ?_;refine stM rfl (ldO hT (fF .head)) ?_;refine puM hT ?_;refine stM rfl (ldO hT (nY .head)) ?_;refine puM hT ?_;refine stM rfl (ldO hT (kwO4 .head)) ?_;refine puM hT ?_;refine puM hT ?_;refine puM hT ?_;refine puM hT ?_;refine cJ<|bE<|sr<|sp hT ?_;refine nn<|bF<|sr<|sp hT ?_;refine ss (ldO hT (dC .head)) ?_;refine nn<|bQ<|sr<|sp2 hT ?_;refine nn<|bO rfl (fun hc20=>?_) (fun hc20=>?_)
 ·have hc20_r:=hc20;have hc20:=eq_of_beq hc20;refine bD<|sp2 hT ?_;refine gH<|bU<|bE<|sr<|sp4 hT ?_;refine dS (t':=true) (by decide) ?_;refine sp4 hT ?_;refine sp2 hT ?_;refine cA (fun hg97=>?_) (fun hg97=>?_)
  ·have hg97:=eq_of_beq hg97;refine sp4 hT ?_;refine sp hT ?_;refine cA (fun hg102=>?_) (fun hg102=>?_)
   ·have hg102:=eq_of_beq hg102;refine sp4 hT ?_;refine nn<|bK ?_;exact bL () rfl (rv_tmp rfl) .nil trivial (by first | (rw [hJ ‹_›];simp [*];done) | (rw [gY ‹_›];simp [*];done) | (rw [hI ‹_›];simp [*];done) | (rw [hU ‹_› ‹_›];simp [*];done) | (rw [fT ‹_› (by omega)];done) | (rw [gX ‹_›];simp [*];done) | (rw [gW ‹_›];simp [*];done) | rw [hY ‹_› ‹_› ‹_› ‹_› ‹_› ‹_›])
   have hg102:=beq_eq_false_iff_ne.1 hg102;refine sk2 ?_;refine sp2 hT ?_;refine nn<|bK ?_;exact bL () rfl (rv_tmp rfl) .nil trivial (by first | (rw [hJ ‹_›];simp [*];done) | (rw [gY ‹_›];simp [*];done) | (rw [hI ‹_›];simp [*];done) | (rw [hU ‹_› ‹_›];simp [*];done) | (rw [fT ‹_› (by omega)];done) | (rw [gX ‹_›];simp [*];done) | (rw [gW ‹_›];simp [*];done) | rw [hY ‹_› ‹_› ‹_› ‹_› ‹_› ‹_›])
  have hg97:=beq_eq_false_iff_ne.1 hg97;refine sk3 ?_;refine sp2 hT ?_;refine sk2 ?_;refine sp2 hT ?_;refine nn<|bK ?_;exact bL () rfl (rv_tmp rfl) .nil trivial (by first | (rw [hJ ‹_›];simp [*];done) | (rw [gY ‹_›];simp [*];done) | (rw [hI ‹_›];simp [*];done) | (rw [hU ‹_› ‹_›];simp [*];done) | (rw [fT ‹_› (by omega)];done) | (rw [gX ‹_›];simp [*];done) | (rw [gW ‹_›];simp [*];done) | rw [hY ‹_› ‹_› ‹_› ‹_› ‹_› ‹_›])
 have hc20_r:=hc20;have hc20:=beq_eq_false_iff_ne.1 hc20;refine sr<|sp2 hT ?_;refine nn<|bO rfl (fun hc22=>?_) (fun hc22=>?_)
 ·have hc22_r:=hc22;have hc22:=eq_of_beq hc22;refine dX _ _ [(true,0),(true,1),(true,2),(true,3),(true,4),(true,5),(false,6),(true,7),(true,8)] fH (by decide+kernel) (.cons .head .nil) bH.self ?_;refine puM hT ?_;refine stM rfl (ldO hT (nY .head)) ?_;refine puM hT ?_;refine puM hT ?_;refine puM hT ?_;refine stM rfl (bR hT (fE (off:=0) (Has.of mT1)) rfl rfl rfl rfl rfl) ?_;refine dA (o:=_) rfl ?_;refine cU Tryz.func107 (of_spec o.p vars) rfl rfl .nil ⟨(Has.of mT0),trivial⟩ fun _=>?_;refine dB (.cons .head .nil) (bH.drop 0) ?_;refine puM hT ?_;refine puM hT ?_;refine cJ<|bU<|bE<|sr<|sp2 hT ?_;refine cA (fun hg89=>?_) (fun hg89=>?_)
  ·refine sp4 hT ?_;refine cA (fun hg93=>?_) (fun hg93=>?_)
   ·have hg93:=eq_of_beq hg93;refine sp4 hT ?_;refine cA (fun hg97=>?_) (fun hg97=>?_)
    ·have hg97:=eq_of_beq hg97;refine sp3 hT ?_;refine dS (t':=true) (by decide) ?_;refine sp4 hT ?_;refine sp2 hT ?_;refine nn<|bK ?_;exact bL () rfl (rv_tmp rfl) .nil trivial (by first | (rw [hJ ‹_›];simp [*];done) | (rw [gY ‹_›];simp [*];done) | (rw [hI ‹_›];simp [*];done) | (rw [hU ‹_› ‹_›];simp [*];done) | (rw [fT ‹_› (by omega)];done) | (rw [gX ‹_›];simp [*];done) | (rw [gW ‹_›];simp [*];done) | rw [hY ‹_› ‹_› ‹_› ‹_› ‹_› ‹_›])
    have hg97:=beq_eq_false_iff_ne.1 hg97;refine sk3 ?_;refine sp2 hT ?_;refine sk2 ?_;refine sp2 hT ?_;refine nn<|bK ?_;exact bL () rfl (rv_tmp rfl) .nil trivial (by first | (rw [hJ ‹_›];simp [*];done) | (rw [gY ‹_›];simp [*];done) | (rw [hI ‹_›];simp [*];done) | (rw [hU ‹_› ‹_›];simp [*];done) | (rw [fT ‹_› (by omega)];done) | (rw [gX ‹_›];simp [*];done) | (rw [gW ‹_›];simp [*];done) | rw [hY ‹_› ‹_› ‹_› ‹_› ‹_› ‹_›])
   have hg93:=beq_eq_false_iff_ne.1 hg93;refine sk2 ?_;refine sp2 hT ?_;refine sk3 ?_;refine sp2 hT ?_;refine sk2 ?_;refine sp2 hT ?_;refine nn<|bK ?_;exact bL () rfl (rv_tmp rfl) .nil trivial (by first | (rw [hJ ‹_›];simp [*];done) | (rw [gY ‹_›];simp [*];done) | (rw [hI ‹_›];simp [*];done) | (rw [hU ‹_› ‹_›];simp [*];done) | (rw [fT ‹_› (by omega)];done) | (rw [gX ‹_›];simp [*];done) | (rw [gW ‹_›];simp [*];done) | rw [hY ‹_› ‹_› ‹_› ‹_› ‹_› ‹_›])
  refine sk2 ?_;refine sp2 hT ?_;refine sk2 ?_;refine sp2 hT ?_;refine sk3 ?_;refine sp2 hT ?_;refine sk2 ?_;refine sp2 hT ?_;refine nn<|bK ?_;exact bL () rfl (rv_tmp rfl) .nil trivial (by first | (rw [hJ ‹_›];simp [*];done) | (rw [gY ‹_›];simp [*];done) | (rw [hI ‹_›];simp [*];done) | (rw [hU ‹_› ‹_›];simp [*];done) | (rw [fT ‹_› (by omega)];done) | (rw [gX ‹_›];simp [*];done) | (rw [gW ‹_›];simp [*];done) | rw [hY ‹_› ‹_› ‹_› ‹_› ‹_› ‹_›])
 have hc22_r:=hc22;have hc22:=beq_eq_false_iff_ne.1 hc22;refine sr<|sp2 hT ?_;refine nn<|bO rfl (fun hc31=>?_) (fun hc31=>?_)
 ·have hc31_r:=hc31;have hc31:=eq_of_beq hc31;refine dX _ _ [(true,0),(true,1),(true,2),(true,3),(true,4),(true,5),(true,6),(true,7),(true,8),(true,9),(true,10),(true,11),(true,12),(true,13)] fH (by decide+kernel) (.cons .head .nil) bH.self ?_;refine puM hT ?_;refine stM rfl (ldO hT (fF .head)) ?_;refine puM hT ?_;refine puM hT ?_;refine cA (fun hg36=>?_) (fun hg36=>?_)
  ·have hg36:=of_decide_eq_true hg36;refine puM hT ?_;refine stM rfl (ldO hT (fF .head)) ?_;refine puM hT ?_;refine puM hT ?_;refine puM hT ?_;refine stM rfl (bR hT (fE (off:=1) (Has.of mT1)) rfl rfl rfl rfl rfl) ?_;refine puM hT ?_;refine puM hT ?_;refine puM hT ?_;refine puM hT ?_;refine cJ<|bU<|bE<|sr<|sp2 hT ?_;refine cA (fun hg89=>?_) (fun hg89=>?_)
   ·have hg89:=of_decide_eq_true hg89;refine sp4 hT ?_;refine cA (fun hg93=>?_) (fun hg93=>?_)
    ·have hg93:=eq_of_beq hg93;refine sp2 hT ?_;refine dS (t':=true) (by decide) ?_;refine sp4 hT ?_;refine sp3 hT ?_;refine cA (fun hg102=>?_) (fun hg102=>?_)
     ·have hg102:=eq_of_beq hg102;refine sp4 hT ?_;refine nn<|bK ?_;exact bL () rfl (rv_tmp rfl) .nil trivial (by first | (rw [hJ ‹_›];simp [*];done) | (rw [gY ‹_›];simp [*];done) | (rw [hI ‹_›];simp [*];done) | (rw [hU ‹_› ‹_›];simp [*];done) | (rw [fT ‹_› (by omega)];done) | (rw [gX ‹_›];simp [*];done) | (rw [gW ‹_›];simp [*];done) | rw [hY ‹_› ‹_› ‹_› ‹_› ‹_› ‹_›])
     have hg102:=beq_eq_false_iff_ne.1 hg102;refine sk2 ?_;refine sp2 hT ?_;refine nn<|bK ?_;exact bL () rfl (rv_tmp rfl) .nil trivial (by first | (rw [hJ ‹_›];simp [*];done) | (rw [gY ‹_›];simp [*];done) | (rw [hI ‹_›];simp [*];done) | (rw [hU ‹_› ‹_›];simp [*];done) | (rw [fT ‹_› (by omega)];done) | (rw [gX ‹_›];simp [*];done) | (rw [gW ‹_›];simp [*];done) | rw [hY ‹_› ‹_› ‹_› ‹_› ‹_› ‹_›])
    have hg93:=beq_eq_false_iff_ne.1 hg93;refine sk2 ?_;refine sp2 hT ?_;refine sk3 ?_;refine sp2 hT ?_;refine sk2 ?_;refine sp2 hT ?_;refine nn<|bK ?_;exact bL () rfl (rv_tmp rfl) .nil trivial (by first | (rw [hJ ‹_›];simp [*];done) | (rw [gY ‹_›];simp [*];done) | (rw [hI ‹_›];simp [*];done) | (rw [hU ‹_› ‹_›];simp [*];done) | (rw [fT ‹_› (by omega)];done) | (rw [gX ‹_›];simp [*];done) | (rw [gW ‹_›];simp [*];done) | rw [hY ‹_› ‹_› ‹_› ‹_› ‹_› ‹_›])
   have hg89:=Int.not_lt.1 (of_decide_eq_false hg89);refine sk2 ?_;refine sp2 hT ?_;refine sk2 ?_;refine sp2 hT ?_;refine sk3 ?_;refine sp2 hT ?_;refine sk2 ?_;refine sp2 hT ?_;refine nn<|bK ?_;exact bL () rfl (rv_tmp rfl) .nil trivial (by first | (rw [hJ ‹_›];simp [*];done) | (rw [gY ‹_›];simp [*];done) | (rw [hI ‹_›];simp [*];done) | (rw [hU ‹_› ‹_›];simp [*];done) | (rw [fT ‹_› (by omega)];done) | (rw [gX ‹_›];simp [*];done) | (rw [gW ‹_›];simp [*];done) | rw [hY ‹_› ‹_› ‹_› ‹_› ‹_› ‹_›])
  have hg36:=Int.not_le.1 (of_decide_eq_false hg36);refine bA rfl rfl rfl rfl ?_;refine bA rfl rfl rfl rfl ?_;refine bA rfl rfl rfl rfl ?_;refine bA rfl rfl rfl rfl ?_;refine bA rfl rfl rfl rfl ?_;refine bA rfl rfl rfl rfl ?_;refine bA rfl rfl rfl rfl ?_;refine puM hT ?_;refine puM hT ?_;refine puM hT ?_;refine cJ<|bU<|bE<|sr<|sp2 hT ?_;refine sk2 ?_;refine sp2 hT ?_;refine sk2 ?_;refine sp2 hT ?_;refine sk3 ?_;refine sp2 hT ?_;refine sk2 ?_;refine sp2 hT ?_;refine nn<|bK ?_;exact bL () rfl (rv_tmp rfl) .nil trivial (by first | (rw [hJ ‹_›];simp [*];done) | (rw [gY ‹_›];simp [*];done) | (rw [hI ‹_›];simp [*];done) | (rw [hU ‹_› ‹_›];simp [*];done) | (rw [fT ‹_› (by omega)];done) | (rw [gX ‹_›];simp [*];done) | (rw [gW ‹_›];simp [*];done) | rw [hY ‹_› ‹_› ‹_› ‹_› ‹_› ‹_›])
 have hc31_r:=hc31;have hc31:=beq_eq_false_iff_ne.1 hc31;refine sr<|sp2 hT ?_;refine nn<|bO rfl (fun hc45=>?_) (fun hc45=>?_)
 ·have hc45_r:=hc45;have hc45:=eq_of_beq hc45;refine dX _ _ [(true,0),(true,1),(true,2),(true,3),(true,4),(true,5),(true,6),(true,7),(true,8),(true,9),(true,10),(true,11),(true,12),(true,13),(true,14),(true,15),(true,16),(true,17),(true,18),(true,19),(true,20),(true,21),(true,22),(true,23),(true,24),(true,25),(true,26),(true,27),(true,28),(true,29),(true,30),(true,31),(true,32),(true,33)] fH (by decide+kernel) (.cons .head .nil) bH.self ?_;refine puM hT ?_;refine stM rfl (ldO hT (fF .head)) ?_;refine puM hT ?_;refine puM hT ?_;refine cA (fun hg50=>?_) (fun hg50=>?_)
  ·have hg50:=of_decide_eq_true hg50;refine puM hT ?_;refine stM rfl (ldO hT (fF .head)) ?_;refine puM hT ?_;refine puM hT ?_;refine puM hT ?_;refine stM rfl (bR hT (fE (off:=3) (Has.of mT1)) rfl rfl rfl rfl rfl) ?_;refine puM hT ?_;refine puM hT ?_;refine puM hT ?_;refine puM hT ?_;refine cA (fun hg60=>?_) (fun hg60=>?_)
   ·have hg60:=of_decide_eq_true hg60;refine puM hT ?_;refine puM hT ?_;refine puM hT ?_;refine stM rfl (bR hT (fE (off:=3) (Has.of mT1)) rfl rfl rfl rfl rfl) ?_;refine puM hT ?_;refine stM rfl (ldO hT (fF .head)) ?_
    obtain⟨x3,hx4⟩: ∃x',made[o.k.toNat]?=some x':=⟨_,List.getElem?_eq_getElem (by omega)⟩
    refine stM rfl (bG hT (k:=o.k.toNat) (bC (Has.of mT2)) rfl rfl rfl rfl rfl rfl (by omega) (by omega)) ?_;refine stM rfl (bR hT (bV.knows (bC (Has.of mT2)) (k:=o.k.toNat) (x:=x3) hx4 0) rfl rfl rfl rfl rfl) ?_;refine puM hT ?_;refine puM hT ?_;refine cA (fun hg70=>?_) (fun hg70=>?_)
    ·refine puM hT ?_;refine stM rfl (ldO hT (fF .head)) ?_;refine puM hT ?_;refine puM hT ?_;refine puM hT ?_;refine stM rfl (bR hT (fE (off:=2) (Has.of mT1)) rfl rfl rfl rfl rfl) ?_;refine puM hT ?_;refine puM hT ?_;refine puM hT ?_;refine puM hT ?_;refine cJ<|bU<|bE<|sr<|sp2 hT ?_;refine cA (fun hg89=>?_) (fun hg89=>?_)
     ·have hg89:=bne_iff_ne.1 hg89;refine sp4 hT ?_;refine cA (fun hg93=>?_) (fun hg93=>?_)
      ·have hg93:=eq_of_beq hg93;refine sp2 hT ?_;refine dS (t':=true) (by decide) ?_;refine sp4 hT ?_;refine sp3 hT ?_;refine cA (fun hg102=>?_) (fun hg102=>?_)
       ·have hg102:=eq_of_beq hg102;refine sp4 hT ?_;refine nn<|bK ?_;exact bL () rfl (rv_tmp rfl) .nil trivial (by first | (rw [hJ ‹_›];simp [*];done) | (rw [gY ‹_›];simp [*];done) | (rw [hI ‹_›];simp [*];done) | (rw [hU ‹_› ‹_›];simp [*];done) | (rw [fT ‹_› (by omega)];done) | (rw [gX ‹_›];simp [*];done) | (rw [gW ‹_›];simp [*];done) | rw [hY ‹_› ‹_› ‹_› ‹_› ‹_› ‹_›])
       have hg102:=beq_eq_false_iff_ne.1 hg102;refine sk2 ?_;refine sp2 hT ?_;refine nn<|bK ?_;exact bL () rfl (rv_tmp rfl) .nil trivial (by first | (rw [hJ ‹_›];simp [*];done) | (rw [gY ‹_›];simp [*];done) | (rw [hI ‹_›];simp [*];done) | (rw [hU ‹_› ‹_›];simp [*];done) | (rw [fT ‹_› (by omega)];done) | (rw [gX ‹_›];simp [*];done) | (rw [gW ‹_›];simp [*];done) | rw [hY ‹_› ‹_› ‹_› ‹_› ‹_› ‹_›])
      have hg93:=beq_eq_false_iff_ne.1 hg93;refine sk2 ?_;refine sp2 hT ?_;refine sk3 ?_;refine sp2 hT ?_;refine sk2 ?_;refine sp2 hT ?_;refine nn<|bK ?_;exact bL () rfl (rv_tmp rfl) .nil trivial (by first | (rw [hJ ‹_›];simp [*];done) | (rw [gY ‹_›];simp [*];done) | (rw [hI ‹_›];simp [*];done) | (rw [hU ‹_› ‹_›];simp [*];done) | (rw [fT ‹_› (by omega)];done) | (rw [gX ‹_›];simp [*];done) | (rw [gW ‹_›];simp [*];done) | rw [hY ‹_› ‹_› ‹_› ‹_› ‹_› ‹_›])
     have hg89:=bne_eq_false_iff_eq.1 hg89;refine sk2 ?_;refine sp2 hT ?_;refine sk2 ?_;refine sp2 hT ?_;refine sk3 ?_;refine sp2 hT ?_;refine sk2 ?_;refine sp2 hT ?_;refine nn<|bK ?_;exact bL () rfl (rv_tmp rfl) .nil trivial (by first | (rw [hJ ‹_›];simp [*];done) | (rw [gY ‹_›];simp [*];done) | (rw [hI ‹_›];simp [*];done) | (rw [hU ‹_› ‹_›];simp [*];done) | (rw [fT ‹_› (by omega)];done) | (rw [gX ‹_›];simp [*];done) | (rw [gW ‹_›];simp [*];done) | rw [hY ‹_› ‹_› ‹_› ‹_› ‹_› ‹_›])
    refine bA rfl rfl rfl rfl ?_;refine bA rfl rfl rfl rfl ?_;refine bA rfl rfl rfl rfl ?_;refine bA rfl rfl rfl rfl ?_;refine bA rfl rfl rfl rfl ?_;refine bA rfl rfl rfl rfl ?_;refine bA rfl rfl rfl rfl ?_;refine puM hT ?_;refine puM hT ?_;refine puM hT ?_;refine cJ<|bU<|bE<|sr<|sp2 hT ?_;refine sk2 ?_;refine sp2 hT ?_;refine sk2 ?_;refine sp2 hT ?_;refine sk3 ?_;refine sp2 hT ?_;refine sk2 ?_;refine sp2 hT ?_;refine nn<|bK ?_;exact bL () rfl (rv_tmp rfl) .nil trivial (by first | (rw [hJ ‹_›];simp [*];done) | (rw [gY ‹_›];simp [*];done) | (rw [hI ‹_›];simp [*];done) | (rw [hU ‹_› ‹_›];simp [*];done) | (rw [fT ‹_› (by omega)];done) | (rw [gX ‹_›];simp [*];done) | (rw [gW ‹_›];simp [*];done) | rw [hY ‹_› ‹_› ‹_› ‹_› ‹_› ‹_›])
   have hg60:=Int.not_lt.1 (of_decide_eq_false hg60);refine bA rfl rfl rfl rfl ?_;refine bA rfl rfl rfl rfl ?_;refine bA rfl rfl rfl rfl ?_;refine bA rfl rfl rfl rfl ?_;refine bA rfl rfl rfl rfl ?_;refine bA rfl rfl rfl rfl ?_;refine bA rfl rfl rfl rfl ?_;refine bA rfl rfl rfl rfl ?_;refine puM hT ?_;refine puM hT ?_;refine bA rfl rfl rfl rfl ?_;refine bA rfl rfl rfl rfl ?_;refine bA rfl rfl rfl rfl ?_;refine bA rfl rfl rfl rfl ?_;refine bA rfl rfl rfl rfl ?_;refine bA rfl rfl rfl rfl ?_;refine bA rfl rfl rfl rfl ?_;refine puM hT ?_;refine puM hT ?_;refine puM hT ?_;refine cJ<|bU<|bE<|sr<|sp2 hT ?_;refine sk2 ?_;refine sp2 hT ?_;refine sk2 ?_;refine sp2 hT ?_;refine sk3 ?_;refine sp2 hT ?_;refine sk2 ?_;refine sp2 hT ?_;refine nn<|bK ?_;exact bL () rfl (rv_tmp rfl) .nil trivial (by first | (rw [hJ ‹_›];simp [*];done) | (rw [gY ‹_›];simp [*];done) | (rw [hI ‹_›];simp [*];done) | (rw [hU ‹_› ‹_›];simp [*];done) | (rw [fT ‹_› (by omega)];done) | (rw [gX ‹_›];simp [*];done) | (rw [gW ‹_›];simp [*];done) | rw [hY ‹_› ‹_› ‹_› ‹_› ‹_› ‹_›])
  have hg50:=Int.not_le.1 (of_decide_eq_false hg50);refine bA rfl rfl rfl rfl ?_;refine bA rfl rfl rfl rfl ?_;refine bA rfl rfl rfl rfl ?_;refine bA rfl rfl rfl rfl ?_;refine bA rfl rfl rfl rfl ?_;refine bA rfl rfl rfl rfl ?_;refine bA rfl rfl rfl rfl ?_;refine bA rfl rfl rfl rfl ?_;refine puM hT ?_;refine puM hT ?_;refine bA rfl rfl rfl rfl ?_;refine bA rfl rfl rfl rfl ?_;refine bA rfl rfl rfl rfl ?_;refine bA rfl rfl rfl rfl ?_;refine bA rfl rfl rfl rfl ?_;refine bA rfl rfl rfl rfl ?_;refine bA rfl rfl rfl rfl ?_;refine bA rfl rfl rfl rfl ?_;refine puM hT ?_;refine puM hT ?_;refine bA rfl rfl rfl rfl ?_;refine bA rfl rfl rfl rfl ?_;refine bA rfl rfl rfl rfl ?_;refine bA rfl rfl rfl rfl ?_;refine bA rfl rfl rfl rfl ?_;refine bA rfl rfl rfl rfl ?_;refine bA rfl rfl rfl rfl ?_;refine puM hT ?_;refine puM hT ?_;refine puM hT ?_;refine cJ<|bU<|bE<|sr<|sp2 hT ?_;refine sk2 ?_;refine sp2 hT ?_;refine sk2 ?_;refine sp2 hT ?_;refine sk3 ?_;refine sp2 hT ?_;refine sk2 ?_;refine sp2 hT ?_;refine nn<|bK ?_;exact bL () rfl (rv_tmp rfl) .nil trivial (by first | (rw [hJ ‹_›];simp [*];done) | (rw [gY ‹_›];simp [*];done) | (rw [hI ‹_›];simp [*];done) | (rw [hU ‹_› ‹_›];simp [*];done) | (rw [fT ‹_› (by omega)];done) | (rw [gX ‹_›];simp [*];done) | (rw [gW ‹_›];simp [*];done) | rw [hY ‹_› ‹_› ‹_› ‹_› ‹_› ‹_›])
 have hc45_r:=hc45;have hc45:=beq_eq_false_iff_ne.1 hc45;refine bF<|sr<|sp2 hT ?_;refine nn<|bO rfl (fun hc79=>?_) (fun hc79=>?_)
 ·have hc79_r:=hc79;have hc79:=eq_of_beq hc79;refine bM<|bE<|cW rfl hc79_r ?_;refine bD<|sp hT ?_;refine ss (ldO hT (kwO4 .head)) ?_;refine sp hT ?_;refine ss (ldO hT (dC .head)) ?_;refine sp hT ?_;refine dS (t':=false) (by rw [hc79];rfl) ?_;refine cU Tryz.func110 (oY _ _) rfl rfl .nil trivial fun _=>?_;refine sp2 hT ?_;refine gH<|bU<|bE<|sr<|sp2 hT ?_;refine cA (fun hg89=>?_) (fun hg89=>?_)
  ·refine sp4 hT ?_;refine cA (fun hg93=>?_) (fun hg93=>?_)
   ·have hg93:=eq_of_beq hg93;refine sp4 hT ?_;refine cA (fun hg97=>?_) (fun hg97=>?_)
    ·have hg97:=eq_of_beq hg97;refine sp4 hT ?_;refine sp hT ?_;refine cA (fun hg102=>?_) (fun hg102=>?_)
     ·have hg102:=eq_of_beq hg102;refine sp2 hT ?_;refine dS (t':=true) (by decide) ?_;refine sp2 hT ?_;refine nn<|bK ?_;exact bL () rfl (rv_tmp rfl) .nil trivial (by first | (rw [hJ ‹_›];simp [*];done) | (rw [gY ‹_›];simp [*];done) | (rw [hI ‹_›];simp [*];done) | (rw [hU ‹_› ‹_›];simp [*];done) | (rw [fT ‹_› (by omega)];done) | (rw [gX ‹_›];simp [*];done) | (rw [gW ‹_›];simp [*];done) | rw [hY ‹_› ‹_› ‹_› ‹_› ‹_› ‹_›])
     have hg102:=beq_eq_false_iff_ne.1 hg102;refine sk2 ?_;refine sp2 hT ?_;refine nn<|bK ?_;exact bL () rfl (rv_tmp rfl) .nil trivial (by first | (rw [hJ ‹_›];simp [*];done) | (rw [gY ‹_›];simp [*];done) | (rw [hI ‹_›];simp [*];done) | (rw [hU ‹_› ‹_›];simp [*];done) | (rw [fT ‹_› (by omega)];done) | (rw [gX ‹_›];simp [*];done) | (rw [gW ‹_›];simp [*];done) | rw [hY ‹_› ‹_› ‹_› ‹_› ‹_› ‹_›])
    have hg97:=beq_eq_false_iff_ne.1 hg97;refine sk3 ?_;refine sp2 hT ?_;refine sk2 ?_;refine sp2 hT ?_;refine nn<|bK ?_;exact bL () rfl (rv_tmp rfl) .nil trivial (by first | (rw [hJ ‹_›];simp [*];done) | (rw [gY ‹_›];simp [*];done) | (rw [hI ‹_›];simp [*];done) | (rw [hU ‹_› ‹_›];simp [*];done) | (rw [fT ‹_› (by omega)];done) | (rw [gX ‹_›];simp [*];done) | (rw [gW ‹_›];simp [*];done) | rw [hY ‹_› ‹_› ‹_› ‹_› ‹_› ‹_›])
   have hg93:=beq_eq_false_iff_ne.1 hg93;refine sk2 ?_;refine sp2 hT ?_;refine sk3 ?_;refine sp2 hT ?_;refine sk2 ?_;refine sp2 hT ?_;refine nn<|bK ?_;exact bL () rfl (rv_tmp rfl) .nil trivial (by first | (rw [hJ ‹_›];simp [*];done) | (rw [gY ‹_›];simp [*];done) | (rw [hI ‹_›];simp [*];done) | (rw [hU ‹_› ‹_›];simp [*];done) | (rw [fT ‹_› (by omega)];done) | (rw [gX ‹_›];simp [*];done) | (rw [gW ‹_›];simp [*];done) | rw [hY ‹_› ‹_› ‹_› ‹_› ‹_› ‹_›])
  refine sk2 ?_;refine sp2 hT ?_;refine sk2 ?_;refine sp2 hT ?_;refine sk3 ?_;refine sp2 hT ?_;refine sk2 ?_;refine sp2 hT ?_;refine nn<|bK ?_;exact bL () rfl (rv_tmp rfl) .nil trivial (by first | (rw [hJ ‹_›];simp [*];done) | (rw [gY ‹_›];simp [*];done) | (rw [hI ‹_›];simp [*];done) | (rw [hU ‹_› ‹_›];simp [*];done) | (rw [fT ‹_› (by omega)];done) | (rw [gX ‹_›];simp [*];done) | (rw [gW ‹_›];simp [*];done) | rw [hY ‹_› ‹_› ‹_› ‹_› ‹_› ‹_›])
 have hc79_r:=hc79;have hc79:=beq_eq_false_iff_ne.1 hc79;refine bD<|sp2 hT ?_;refine nn<|bO rfl (fun hc79_5=>?_) (fun hc79_5=>?_)
 ·have hc79_5_r:=hc79_5;have hc79_5:=eq_of_beq hc79_5;refine bD<|sp hT ?_;refine ss (ldO hT (kwO4 .head)) ?_;refine sp hT ?_;refine ss (ldO hT (dC .head)) ?_;refine sp hT ?_;refine dS (t':=true) (by rw [hc79_5];rfl) ?_;refine cU Tryz.func110 (oY _ _) rfl rfl .nil trivial fun _=>?_;refine sp2 hT ?_;refine gH<|bU<|bE<|sr<|sp2 hT ?_;refine cA (fun hg89=>?_) (fun hg89=>?_)
  ·refine sp4 hT ?_;refine cA (fun hg93=>?_) (fun hg93=>?_)
   ·have hg93:=eq_of_beq hg93;refine sp4 hT ?_;refine cA (fun hg97=>?_) (fun hg97=>?_)
    ·have hg97:=eq_of_beq hg97;refine sp4 hT ?_;refine sp hT ?_;refine cA (fun hg102=>?_) (fun hg102=>?_)
     ·have hg102:=eq_of_beq hg102;refine sp2 hT ?_;refine dS (t':=true) (by decide) ?_;refine sp2 hT ?_;refine nn<|bK ?_;exact bL () rfl (rv_tmp rfl) .nil trivial (by first | (rw [hJ ‹_›];simp [*];done) | (rw [gY ‹_›];simp [*];done) | (rw [hI ‹_›];simp [*];done) | (rw [hU ‹_› ‹_›];simp [*];done) | (rw [fT ‹_› (by omega)];done) | (rw [gX ‹_›];simp [*];done) | (rw [gW ‹_›];simp [*];done) | rw [hY ‹_› ‹_› ‹_› ‹_› ‹_› ‹_›])
     have hg102:=beq_eq_false_iff_ne.1 hg102;refine sk2 ?_;refine sp2 hT ?_;refine nn<|bK ?_;exact bL () rfl (rv_tmp rfl) .nil trivial (by first | (rw [hJ ‹_›];simp [*];done) | (rw [gY ‹_›];simp [*];done) | (rw [hI ‹_›];simp [*];done) | (rw [hU ‹_› ‹_›];simp [*];done) | (rw [fT ‹_› (by omega)];done) | (rw [gX ‹_›];simp [*];done) | (rw [gW ‹_›];simp [*];done) | rw [hY ‹_› ‹_› ‹_› ‹_› ‹_› ‹_›])
    have hg97:=beq_eq_false_iff_ne.1 hg97;refine sk3 ?_;refine sp2 hT ?_;refine sk2 ?_;refine sp2 hT ?_;refine nn<|bK ?_;exact bL () rfl (rv_tmp rfl) .nil trivial (by first | (rw [hJ ‹_›];simp [*];done) | (rw [gY ‹_›];simp [*];done) | (rw [hI ‹_›];simp [*];done) | (rw [hU ‹_› ‹_›];simp [*];done) | (rw [fT ‹_› (by omega)];done) | (rw [gX ‹_›];simp [*];done) | (rw [gW ‹_›];simp [*];done) | rw [hY ‹_› ‹_› ‹_› ‹_› ‹_› ‹_›])
   have hg93:=beq_eq_false_iff_ne.1 hg93;refine sk2 ?_;refine sp2 hT ?_;refine sk3 ?_;refine sp2 hT ?_;refine sk2 ?_;refine sp2 hT ?_;refine nn<|bK ?_;exact bL () rfl (rv_tmp rfl) .nil trivial (by first | (rw [hJ ‹_›];simp [*];done) | (rw [gY ‹_›];simp [*];done) | (rw [hI ‹_›];simp [*];done) | (rw [hU ‹_› ‹_›];simp [*];done) | (rw [fT ‹_› (by omega)];done) | (rw [gX ‹_›];simp [*];done) | (rw [gW ‹_›];simp [*];done) | rw [hY ‹_› ‹_› ‹_› ‹_› ‹_› ‹_›])
  refine sk2 ?_;refine sp2 hT ?_;refine sk2 ?_;refine sp2 hT ?_;refine sk3 ?_;refine sp2 hT ?_;refine sk2 ?_;refine sp2 hT ?_;refine nn<|bK ?_;exact bL () rfl (rv_tmp rfl) .nil trivial (by first | (rw [hJ ‹_›];simp [*];done) | (rw [gY ‹_›];simp [*];done) | (rw [hI ‹_›];simp [*];done) | (rw [hU ‹_› ‹_›];simp [*];done) | (rw [fT ‹_› (by omega)];done) | (rw [gX ‹_›];simp [*];done) | (rw [gW ‹_›];simp [*];done) | rw [hY ‹_› ‹_› ‹_› ‹_› ‹_› ‹_›])
 have hc79_5_r:=hc79_5;have hc79_5:=beq_eq_false_iff_ne.1 hc79_5;refine bM<|bU<|bE<|sr<|sp2 hT ?_;refine sk2 ?_;refine sp2 hT ?_;refine sk2 ?_;refine sp2 hT ?_;refine sk3 ?_;refine sp2 hT ?_;refine sk2 ?_;refine sp2 hT ?_;refine nn<|bK ?_;exact bL () rfl (rv_tmp rfl) .nil trivial (by first | (rw [hJ ‹_›];simp [*];done) | (rw [gY ‹_›];simp [*];done) | (rw [hI ‹_›];simp [*];done) | (rw [hU ‹_› ‹_›];simp [*];done) | (rw [fT ‹_› (by omega)];done) | (rw [gX ‹_›];simp [*];done) | (rw [gW ‹_›];simp [*];done) | rw [hY ‹_› ‹_› ‹_› ‹_› ‹_› ‹_›])
set_option maxRecDepth 100000 in
theorem uZ(bp:Nat)(bs:Nat)(vars loops buf:Int)(MA:Option Addr)(mc:Nat)(made:List Bool)(o:OpV):cX Tryz.prog 112 [.agg #[.int .i64 o.how,.int .i64 o.k,.int .i64 o.n,.slice o.p.addr o.p.list.length o.p.cap,.int .u8 o.fn],.pointer (some ⟨bp,0,none⟩)] [] [opF o,bI.cells bp 0 [.pointer (some ⟨bs,0,none⟩)],bI.cells bs 0 [.int .i64 vars,.int .i64 loops,.int .i64 buf,.slice MA made.length mc],iO.sl (.slice MA made.length mc) made] (fun(_:Unit)=> .bool (!opB vars loops buf made o.c)) (fun _=>[]) (fun _=>[]):=by
 have hT:=dW;refine cD Tryz.func112 rfl Tryz.ntmps112 rfl ?_;intro β hM;refine sr<|iL rfl rfl rfl rfl rfl rfl fun b1=>?_;refine sp hT ?_;refine nn<|sr<|ss (bR hT (fE (off:=0) (Has.of mT1)) rfl rfl rfl rfl rfl) ?_;refine ss (ldN hT (dC .head)) ?_;refine cU Tryz.func113 (right_spec bs vars loops buf MA mc made o) rfl rfl .nil ⟨(Has.of mT0),(Has.of mT2),(Has.of mT3),trivial⟩ fun _=>?_;refine sp2 hT ?_;refine nn<|bK ?_;exact bL () rfl (rv_tmp rfl) .nil trivial (rfl)
set_option maxRecDepth 100000 in
theorem indexFO_spec(A:Option Addr)(c:Nat)(l:List OpV)(hl:l.length≤140737488355328)(f:FuncId)(cap:List Value)(G:List bI)(p:OpV→Bool)(hcf: ∀(args:Array Value) (w:World),(callFunc f args).run Tryz.prog w= .ok (.enter f args) w)(hf: ∀o:OpV,cX Tryz.prog f (.agg #[.int .i64 o.how,.int .i64 o.k,.int .i64 o.n,.slice o.p.addr o.p.list.length o.p.cap,.int .u8 o.fn]::cap) [] (opF o::G) (fun _:Unit=> .bool (p o)) (fun _=>[]) (fun _=>[])):cX Tryz.prog 169 [.slice A l.length c,.func (.func f) #[] cap.toArray] [] (opE.sl (.slice A l.length c) l::bI.each l opF::G) (fun(_:Unit)=> .int .i64 (mG p l 0)) (fun _=>[]) (fun _=>[]):=by
 have hT:=dW;generalize hR:mG p l 0=r;refine cD Tryz.func169 rfl Tryz.ntmps169 rfl ?_;intro β hM;refine sr<|sp hT ?_;refine nn<|bF<|sr<|sp3 hT ?_;refine nn<|bQ<|dH (ι:=Nat) [(0,_),(1,_),(7,_)] ⟨rfl,rfl,rfl,trivial⟩ (fun i=>[(8,.int .i64 (i:Nat))]) (fun _=>[]) (fun i=>[bI.pure (i≤l.length∧r=mG p (l.drop i) i)]) (fun i=>l.length-i) 0 ⟨rfl,trivial⟩ .nil ⟨Has.pure (⟨by omega,hR.symm⟩),trivial⟩ ?_;rintro i;refine bX (Has.of mT0) fun hinv2=>?_;refine sr<|sp hT ?_;refine nn<|bF<|bO rfl (fun hc9=>?_) (fun hc9=>?_)
 ·have hc9:=of_decide_eq_true hc9;refine bM<|bE<|bF<|bQ<|sr<|sp2 hT ?_;refine nn<|sr<|sp3 hT ?_
  obtain⟨x1,hx2⟩: ∃x',l[i]?=some x':=⟨_,List.getElem?_eq_getElem (by omega)⟩
  refine ss (bG hT (k:=i) (bC (Has.of mT1)) rfl rfl rfl rfl rfl rfl rfl (by omega)) ?_;refine ss (cL hT (bV.knows (bC (Has.of mT1)) (k:=i) (x:=x1) hx2 0) rfl rfl rfl rfl rfl) ?_;refine mA hcf (hf x1) rfl rfl rfl rfl rfl rfl rfl .nil ⟨Has.each (Has.of mT2) (List.mem_of_getElem? hx2),bH.drop 3⟩ fun _=>?_;refine nn<|bO rfl (fun hc16=>?_) (fun hc16=>?_)
  ·refine sr<|sp2 hT ?_;refine nn<|bK<|bW<|bN<|bN<|bW<|bN ?_;have hr:=(lR hinv2.2 hx2).1 ‹_›;subst hr;exact bL () rfl (rv_tmp rfl) .nil trivial rfl
  refine bM<|bU<|bE<|bD<|sp hT ?_;refine bT (z':=(((i+1):Nat):Int)) (cO (by omega) (by omega)) ?_;refine sp hT ?_;refine nn ?_;exact cG (i+1) (by omega) ⟨rfl,trivial⟩ ⟨rfl,rfl,rfl,trivial⟩ .nil ⟨Has.pure (⟨by omega,(lR hinv2.2 hx2).2 ‹_›⟩),trivial⟩ (bH.drop 1)
 have hc9:=Int.not_lt.1 (of_decide_eq_false hc9);refine cS<|bZ<|bZ<|cR<|bE<|sr<|sp hT ?_;refine nn<|bK ?_;have hr:=xB hinv2.2 (by omega);subst hr;exact bL () rfl (rv_tmp rfl) .nil trivial rfl
set_option maxRecDepth 100000 in
theorem nL(A:Option Addr)(c:Nat)(l:List OpV)(hl:l.length≤140737488355328)(f:FuncId)(cap:List Value)(G:List bI)(p:OpV→Bool)(hcf: ∀(args:Array Value) (w:World),(callFunc f args).run Tryz.prog w= .ok (.enter f args) w)(hf: ∀o:OpV,cX Tryz.prog f (.agg #[.int .i64 o.how,.int .i64 o.k,.int .i64 o.n,.slice o.p.addr o.p.list.length o.p.cap,.int .u8 o.fn]::cap) [] (opF o::G) (fun _:Unit=> .bool (p o)) (fun _=>[]) (fun _=>[])):cX Tryz.prog 111 [.slice A l.length c,.func (.func f) #[] cap.toArray] [] (opE.sl (.slice A l.length c) l::bI.each l opF::G) (fun(_:Unit)=> .bool (l.any p)) (fun _=>[]) (fun _=>[]):=by
 have hT:=dW;refine cD Tryz.func111 rfl Tryz.ntmps111 rfl ?_;intro β hM;refine sr<|sp hT ?_;refine nn<|sr<|sp2 hT ?_;refine cU Tryz.func169 (indexFO_spec A c l hl f cap G p hcf hf) rfl rfl .nil bH.self fun _=>?_;refine sp2 hT ?_;refine nn<|bK ?_;exact bL () rfl (rv_tmp rfl) .nil trivial (congrArg Value.bool (vU p l 0 (by decide)))
set_option maxRecDepth 100000 in
theorem step_spec(bs:Nat)(vars loops buf:Int)(MA:Option Addr)(mc:Nat)(made:List Bool)(x:gQ):cX Tryz.prog 53 [.pointer (some ⟨bs,0,none⟩),.agg #[.int .i64 x.how,.int .i64 x.buf,.slice x.at_.addr x.at_.list.length x.at_.cap,.slice x.loops.addr x.loops.list.length x.loops.cap,.int .u8 x.fn,.slice x.ops.addr x.ops.list.length x.ops.cap]] [.obj bs (.cells [.int .i64 vars,.int .i64 loops,.int .i64 buf,.slice MA made.length mc].toArray 115)] [sC x,iO.sl (.slice MA made.length mc) made] (fun(_:Int×Int)=> .bool (nF vars made x.c)) (fun(y:Int×Int)=>[.obj bs (.cells [.int .i64 vars,.int .i64 y.1,.int .i64 y.2,.slice MA made.length mc].toArray 115)]) (fun _=>[]):=by
 have hT:=dW;refine cD Tryz.func53 rfl Tryz.ntmps53 rfl ?_;intro β hM;refine sr<|iL rfl rfl rfl rfl rfl rfl fun b1=>?_;refine iL rfl rfl rfl rfl rfl rfl fun b2=>?_;refine sp hT ?_;refine nn<|bF<|bF<|cC (fG x.at_) (stepF_a (Has.of mT0)) ?_;refine bX (fQ (Has.of mT0)) fun hpa=>?_;refine cC (mX x.loops) (bAv (Has.of mT1)) ?_;refine bX (opsF_c (xJ (Has.of mT2))) fun hoz=>?_;have hoz2:=hoz.2;refine cC (bI.each x.ops.list opF) (opsF_e (xJ (Has.of mT2))) ?_;refine cC (opE.sl (.slice x.ops.addr x.ops.list.length x.ops.cap) x.ops.list) (opsF_s (xJ (Has.of mT3))) ?_;refine dX _ _ [(true,0),(true,1),(true,2),(true,3),(true,4),(true,5),(false,6),(true,7),(true,8),(true,9),(true,10),(false,11),(true,12),(true,13),(true,14),(true,15),(true,16),(true,17),(true,18),(true,19),(true,20),(false,21),(true,22),(true,23),(true,24),(true,25),(true,26),(true,27),(true,28),(true,29),(true,30),(true,31),(true,32),(false,33),(true,34),(true,35)] fH (by decide+kernel) (.cons .head (.cons .head (.cons .head .nil))) bH.self ?_;refine puM hT ?_;refine stM rfl (ldO hT (yQ .head)) ?_;refine stM rfl (ldO hT (dC kT1)) ?_;refine puM hT ?_;refine puM hT ?_;refine stM rfl (ldO hT (dC kT2)) ?_;refine dA (o:=_) rfl ?_;refine cU Tryz.func107 (of_spec x.at_ vars) rfl rfl .nil ⟨(Has.of mT3),trivial⟩ fun _=>?_;refine dB (.cons .head (.cons .head (.cons .head .nil))) (bH.drop 0) ?_;refine puM hT ?_;refine puM hT ?_;refine cA (fun hg13=>?_) (fun hg13=>?_)
 ·have hg13:=kG hg13;refine bA rfl rfl rfl rfl ?_;refine bA rfl rfl rfl rfl ?_;refine dA (o:=_) rfl ?_;refine sk ?_;refine dB (.cons .head (.cons .head (.cons .head .nil))) (bH.drop 0) ?_;refine bA rfl rfl rfl rfl ?_;refine puM hT ?_;refine puM hT ?_;refine bA rfl rfl rfl rfl ?_;refine bA rfl rfl rfl rfl ?_;refine bA rfl rfl rfl rfl ?_;refine bA rfl rfl rfl rfl ?_;refine bA rfl rfl rfl rfl ?_;refine bA rfl rfl rfl rfl ?_;refine dA (o:=_) rfl ?_;refine sk ?_;refine dB (.cons .head (.cons .head (.cons .head .nil))) (bH.drop 0) ?_;refine bA rfl rfl rfl rfl ?_;refine puM hT ?_;refine puM hT ?_;refine bA rfl rfl rfl rfl ?_;refine bA rfl rfl rfl rfl ?_;refine bA rfl rfl rfl rfl ?_;refine bA rfl rfl rfl rfl ?_;refine puM hT ?_;refine puM hT ?_;refine bA rfl rfl rfl rfl ?_;refine bA rfl rfl rfl rfl ?_;refine dA (o:=_) rfl ?_;refine sk ?_;refine dB (.cons .head (.cons .head (.cons .head .nil))) (bH.drop 0) ?_;refine bA rfl rfl rfl rfl ?_;refine puM hT ?_;refine cJ<|bE<|cW rfl rfl ?_;refine sr<|sp hT ?_;refine nn<|bK<|bN ?_;exact bL (_,_) rfl (rv_tmp rfl) (.cons kT2 .nil) trivial (by rw [←iG];simp [nQ, *])
 have hg13:=kD hg13;refine puM hT ?_;refine stM rfl (ldO hT (yQ .head)) ?_;refine dA (o:=_) rfl ?_;refine cU Tryz.func108 (bEq x.at_ hpa) rfl rfl .nil ⟨(Has.of mT3),trivial⟩ fun _=>?_;refine dB (.cons .head (.cons .head (.cons .head .nil))) (bH.drop 0) ?_;refine puM hT ?_;refine puM hT ?_;refine puM hT ?_;refine cA (fun hg19=>?_) (fun hg19=>?_)
 ·have hg19:=kG hg19;refine bA rfl rfl rfl rfl ?_;refine bA rfl rfl rfl rfl ?_;refine bA rfl rfl rfl rfl ?_;refine bA rfl rfl rfl rfl ?_;refine bA rfl rfl rfl rfl ?_;refine bA rfl rfl rfl rfl ?_;refine dA (o:=_) rfl ?_;refine sk ?_;refine dB (.cons .head (.cons .head (.cons .head .nil))) (bH.drop 0) ?_;refine bA rfl rfl rfl rfl ?_;refine puM hT ?_;refine puM hT ?_;refine bA rfl rfl rfl rfl ?_;refine bA rfl rfl rfl rfl ?_;refine bA rfl rfl rfl rfl ?_;refine bA rfl rfl rfl rfl ?_;refine puM hT ?_;refine puM hT ?_;refine bA rfl rfl rfl rfl ?_;refine bA rfl rfl rfl rfl ?_;refine dA (o:=_) rfl ?_;refine sk ?_;refine dB (.cons .head (.cons .head (.cons .head .nil))) (bH.drop 0) ?_;refine bA rfl rfl rfl rfl ?_;refine puM hT ?_;refine cJ<|bE<|cW rfl rfl ?_;refine sr<|sp hT ?_;refine nn<|bK<|bN ?_;exact bL (_,_) rfl (rv_tmp rfl) (.cons kT2 .nil) trivial (by rw [←iG];simp [nQ, *])
 have hg19:=kD hg19;refine puM hT ?_;refine stM rfl (ldO hT (nY .head)) ?_;refine stM rfl (ldO hT (dC kT1)) ?_;refine puM hT ?_;refine puM hT ?_;refine stM rfl (ldO hT (dC kT2)) ?_;refine dA (o:=_) rfl ?_;refine cU Tryz.func52 (bGt x.loops vars) rfl rfl .nil ⟨(Has.of mT2),trivial⟩ fun _=>?_;refine dB (.cons .head (.cons .head (.cons .head .nil))) (bH.drop 0) ?_;refine puM hT ?_;refine puM hT ?_;refine puM hT ?_;refine cA (fun hg29=>?_) (fun hg29=>?_)
 ·have hg29:=kG hg29;refine bA rfl rfl rfl rfl ?_;refine bA rfl rfl rfl rfl ?_;refine bA rfl rfl rfl rfl ?_;refine bA rfl rfl rfl rfl ?_;refine puM hT ?_;refine puM hT ?_;refine bA rfl rfl rfl rfl ?_;refine bA rfl rfl rfl rfl ?_;refine dA (o:=_) rfl ?_;refine sk ?_;refine dB (.cons .head (.cons .head (.cons .head .nil))) (bH.drop 0) ?_;refine bA rfl rfl rfl rfl ?_;refine puM hT ?_;refine cJ<|bE<|cW rfl rfl ?_;refine sr<|sp hT ?_;refine nn<|bK<|bN ?_;exact bL (_,_) rfl (rv_tmp rfl) (.cons kT2 .nil) trivial (by rw [←iG];simp [nQ, *])
 have hg29:=kD hg29;refine puM hT ?_;refine stM rfl (ldO hT (kwO5 .head)) ?_;refine puM hT ?_;refine puM hT ?_;refine puM hT ?_;refine puM hT ?_;refine cA (fun hg35=>?_) (fun hg35=>?_)
 ·have hg35:=of_decide_eq_true hg35;refine bA rfl rfl rfl rfl ?_;refine bA rfl rfl rfl rfl ?_;refine dA (o:=_) rfl ?_;refine sk ?_;refine dB (.cons .head (.cons .head (.cons .head .nil))) (bH.drop 0) ?_;refine bA rfl rfl rfl rfl ?_;refine puM hT ?_;refine cJ<|bE<|cW rfl rfl ?_;refine sr<|sp hT ?_;refine nn<|bK<|bN ?_;exact bL (_,_) rfl (rv_tmp rfl) (.cons kT2 .nil) trivial (by rw [←iG];simp [nQ, *])
 have hg35:=Int.not_lt.1 (of_decide_eq_false hg35);refine puM hT ?_;refine stM rfl (ldO hT (kwO5 .head)) ?_;refine dA (o:=_) rfl ?_;refine cU Tryz.func109 (Depth_spec x.ops.addr x.ops.cap x.ops.list (by omega)) rfl rfl .nil ⟨(Has.of mT0),(Has.of mT1),trivial⟩ fun _=>?_;refine dB (.cons .head (.cons .head (.cons .head .nil))) (bH.drop 0) ?_;refine puM hT ?_;refine puM hT ?_;refine cJ<|bE<|bO rfl (fun hc40=>?_) (fun hc40=>?_)
 ·have hc40_r:=hc40;have hc40:=of_decide_eq_true hc40;refine sr<|sp hT ?_;refine nn<|bK<|bN ?_;exact bL (_,_) rfl (rv_tmp rfl) (.cons kT2 .nil) trivial (by rw [←iG];simp [nQ, *])
 have hc40_r:=hc40;have hc40:=Int.not_lt.1 (of_decide_eq_false hc40);refine bM<|bE<|bF<|sr<|sp hT ?_;refine ss (ldO hT (dC .head)) ?_;refine nn<|bQ<|sr<|sp2 hT ?_;refine nn<|bO rfl (fun hc43=>?_) (fun hc43=>?_)
 ·have hc43_r:=hc43;have hc43:=eq_of_beq hc43;refine sr<|sp hT ?_;refine ss (ldO hT (kwO4 .head)) ?_;refine sp hT ?_;refine nn<|bO rfl (fun hc47=>?_) (fun hc47=>?_)
  ·have hc47_r:=hc47;have hc47:=bne_iff_ne.1 hc47;refine sr<|sp hT ?_;refine nn<|bK<|bW<|bN ?_;exact bL (_,_) rfl (rv_tmp rfl) (.cons kT2 .nil) trivial (by rw [←iG];simp [nQ, *])
  have hc47_r:=hc47;have hc47:=bne_eq_false_iff_eq.1 hc47;refine bM<|bU<|bE<|bF<|dX _ _ [(true,0),(true,1),(true,2),(true,3),(true,4),(true,5),(true,6),(true,7),(true,8),(false,9),(true,10),(true,11),(false,12)] fH (by decide+kernel) (.cons .head (.cons .head .nil)) bH.self ?_;refine stM rfl (ldO hT (dC kT1)) ?_;refine stM rfl (ldO hT (dC kT1)) ?_;refine puM hT ?_;refine stM rfl (ldO hT (nY .head)) ?_;refine puM hT ?_;refine puM hT ?_;refine stM rfl (ldO hT (fF .head)) ?_;refine puM hT ?_;refine puM hT ?_;refine dA (o:=_) rfl ?_;refine sto hT kT2 ?_;refine dB (.cons kT1 (.cons kT1 .nil)) (bH.drop 0) ?_;refine puM hT ?_;refine puM hT ?_;refine dA (o:=_) rfl ?_;refine sto hT .head ?_;refine dB (.cons kT1 (.cons kT1 .nil)) (bH.drop 0) ?_;refine cJ<|bE<|sr<|sp hT ?_;refine ss (ldO hT (kwO5 kT1)) ?_;refine sp hT ?_;refine fP (bP Tryz.func111 rfl rfl) (nL x.ops.addr x.ops.cap x.ops.list (by omega) 112 [.pointer (some ⟨b1,0,none⟩)] [bI.cells b1 0 [.pointer (some ⟨bs,0,none⟩)],bI.cells bs 0 [.int .i64 vars,.int .i64 x.loops.list.length,.int .i64 x.buf,.slice MA made.length mc],iO.sl (.slice MA made.length mc) made] (fun o=>!opB vars x.loops.list.length x.buf made o.c) (bP Tryz.func112 rfl rfl) (fun o=>uZ b1 bs vars x.loops.list.length x.buf MA mc made o)) rfl rfl rfl rfl rfl .nil (.cons kT2 (.cons .head .nil)) (kN (kN iW)) ⟨Has.of mT2,Has.of mT3,Has.of mT0,Has.of mT1,Has.of mT7,trivial⟩ (fun _=>True) (fun _ _ _ _=>trivial) fun _ _=>?_;refine sp2 hT ?_;refine nn<|bK ?_;exact bL (_,_) rfl (rv_tmp rfl) (.cons .head .nil) trivial (by rw [←iG];simp [nQ, *])
 have hc43_r:=hc43;have hc43:=beq_eq_false_iff_ne.1 hc43;refine bF<|sr<|sp2 hT ?_;refine nn<|bO rfl (fun hc48=>?_) (fun hc48=>?_)
 ·have hc48_r:=hc48;have hc48:=eq_of_beq hc48;refine bM<|bE<|cW rfl hc48_r ?_;refine sr<|sp hT ?_;refine ss (ldO hT (nY .head)) ?_;refine sp3 hT ?_;refine cA (fun hg55=>?_) (fun hg55=>?_)
  ·have hg55:=eq_of_beq hg55;refine sk4 ?_;refine sp hT ?_;refine nn<|cW rfl rfl ?_;refine sr<|sp hT ?_;refine nn<|bK<|bW<|bN ?_;exact bL (_,_) rfl (rv_tmp rfl) (.cons kT2 .nil) trivial (by rw [←iG];simp [nQ, *])
  have hg55:=beq_eq_false_iff_ne.1 hg55;refine sp hT ?_;refine ss (ldO hT (kwO4 .head)) ?_;refine cU Tryz.func110 (oY _ _) rfl rfl .nil trivial fun _=>?_;refine sp2 hT ?_;refine nn<|bO rfl (fun hc60=>?_) (fun hc60=>?_)
  ·have hc60_r:=hc60;have hc60:=kG hc60;refine sr<|sp hT ?_;refine nn<|bK<|bW<|bN ?_;exact bL (_,_) rfl (rv_tmp rfl) (.cons kT2 .nil) trivial (by rw [←iG];simp [nQ, *])
  have hc60_r:=hc60;have hc60:=kD hc60;refine bM<|bU<|bE<|bF<|dX _ _ [(true,0),(true,1),(true,2),(true,3),(true,4),(true,5),(true,6),(true,7),(true,8),(false,9),(true,10),(true,11),(false,12)] fH (by decide+kernel) (.cons .head (.cons .head .nil)) bH.self ?_;refine stM rfl (ldO hT (dC kT1)) ?_;refine stM rfl (ldO hT (dC kT1)) ?_;refine puM hT ?_;refine stM rfl (ldO hT (nY .head)) ?_;refine puM hT ?_;refine puM hT ?_;refine stM rfl (ldO hT (fF .head)) ?_;refine puM hT ?_;refine puM hT ?_;refine dA (o:=_) rfl ?_;refine sto hT kT2 ?_;refine dB (.cons kT1 (.cons kT1 .nil)) (bH.drop 0) ?_;refine puM hT ?_;refine puM hT ?_;refine dA (o:=_) rfl ?_;refine sto hT .head ?_;refine dB (.cons kT1 (.cons kT1 .nil)) (bH.drop 0) ?_;refine cJ<|bE<|sr<|sp hT ?_;refine ss (ldO hT (kwO5 kT1)) ?_;refine sp hT ?_;refine fP (bP Tryz.func111 rfl rfl) (nL x.ops.addr x.ops.cap x.ops.list (by omega) 112 [.pointer (some ⟨b1,0,none⟩)] [bI.cells b1 0 [.pointer (some ⟨bs,0,none⟩)],bI.cells bs 0 [.int .i64 vars,.int .i64 x.loops.list.length,.int .i64 x.buf,.slice MA made.length mc],iO.sl (.slice MA made.length mc) made] (fun o=>!opB vars x.loops.list.length x.buf made o.c) (bP Tryz.func112 rfl rfl) (fun o=>uZ b1 bs vars x.loops.list.length x.buf MA mc made o)) rfl rfl rfl rfl rfl .nil (.cons kT2 (.cons .head .nil)) (kN (kN iW)) ⟨Has.of mT2,Has.of mT3,Has.of mT0,Has.of mT1,Has.of mT7,trivial⟩ (fun _=>True) (fun _ _ _ _=>trivial) fun _ _=>?_;refine sp2 hT ?_;refine nn<|bK ?_;exact bL (_,_) rfl (rv_tmp rfl) (.cons .head .nil) trivial (by rw [←iG];simp [nQ, *])
 have hc48_r:=hc48;have hc48:=beq_eq_false_iff_ne.1 hc48;refine bD<|sp2 hT ?_;refine nn<|bO rfl (fun hc48_4=>?_) (fun hc48_4=>?_)
 ·have hc48_4_r:=hc48_4;have hc48_4:=eq_of_beq hc48_4;refine sr<|sp hT ?_;refine ss (ldO hT (nY .head)) ?_;refine sp3 hT ?_;refine cA (fun hg55=>?_) (fun hg55=>?_)
  ·have hg55:=eq_of_beq hg55;refine sk4 ?_;refine sp hT ?_;refine nn<|cW rfl rfl ?_;refine sr<|sp hT ?_;refine nn<|bK<|bW<|bN ?_;exact bL (_,_) rfl (rv_tmp rfl) (.cons kT2 .nil) trivial (by rw [←iG];simp [nQ, *])
  have hg55:=beq_eq_false_iff_ne.1 hg55;refine sp hT ?_;refine ss (ldO hT (kwO4 .head)) ?_;refine cU Tryz.func110 (oY _ _) rfl rfl .nil trivial fun _=>?_;refine sp2 hT ?_;refine nn<|bO rfl (fun hc60=>?_) (fun hc60=>?_)
  ·have hc60_r:=hc60;have hc60:=kG hc60;refine sr<|sp hT ?_;refine nn<|bK<|bW<|bN ?_;exact bL (_,_) rfl (rv_tmp rfl) (.cons kT2 .nil) trivial (by rw [←iG];simp [nQ, *])
  have hc60_r:=hc60;have hc60:=kD hc60;refine bM<|bU<|bE<|bF<|dX _ _ [(true,0),(true,1),(true,2),(true,3),(true,4),(true,5),(true,6),(true,7),(true,8),(false,9),(true,10),(true,11),(false,12)] fH (by decide+kernel) (.cons .head (.cons .head .nil)) bH.self ?_;refine stM rfl (ldO hT (dC kT1)) ?_;refine stM rfl (ldO hT (dC kT1)) ?_;refine puM hT ?_;refine stM rfl (ldO hT (nY .head)) ?_;refine puM hT ?_;refine puM hT ?_;refine stM rfl (ldO hT (fF .head)) ?_;refine puM hT ?_;refine puM hT ?_;refine dA (o:=_) rfl ?_;refine sto hT kT2 ?_;refine dB (.cons kT1 (.cons kT1 .nil)) (bH.drop 0) ?_;refine puM hT ?_;refine puM hT ?_;refine dA (o:=_) rfl ?_;refine sto hT .head ?_;refine dB (.cons kT1 (.cons kT1 .nil)) (bH.drop 0) ?_;refine cJ<|bE<|sr<|sp hT ?_;refine ss (ldO hT (kwO5 kT1)) ?_;refine sp hT ?_;refine fP (bP Tryz.func111 rfl rfl) (nL x.ops.addr x.ops.cap x.ops.list (by omega) 112 [.pointer (some ⟨b1,0,none⟩)] [bI.cells b1 0 [.pointer (some ⟨bs,0,none⟩)],bI.cells bs 0 [.int .i64 vars,.int .i64 x.loops.list.length,.int .i64 x.buf,.slice MA made.length mc],iO.sl (.slice MA made.length mc) made] (fun o=>!opB vars x.loops.list.length x.buf made o.c) (bP Tryz.func112 rfl rfl) (fun o=>uZ b1 bs vars x.loops.list.length x.buf MA mc made o)) rfl rfl rfl rfl rfl .nil (.cons kT2 (.cons .head .nil)) (kN (kN iW)) ⟨Has.of mT2,Has.of mT3,Has.of mT0,Has.of mT1,Has.of mT7,trivial⟩ (fun _=>True) (fun _ _ _ _=>trivial) fun _ _=>?_;refine sp2 hT ?_;refine nn<|bK ?_;exact bL (_,_) rfl (rv_tmp rfl) (.cons .head .nil) trivial (by rw [←iG];simp [nQ, *])
 have hc48_4_r:=hc48_4;have hc48_4:=beq_eq_false_iff_ne.1 hc48_4;refine sr<|sp hT ?_;refine nn<|bK<|bW<|bN ?_;exact bL (_,_) rfl (rv_tmp rfl) (.cons kT2 .nil) trivial (by rw [←iG];simp [nQ, *])
theorem bDt: ∃i:TypeInfo,Tryz.prog.info? 4=some i∧i.zero=some (.bool false)∧i.size=1∧i.bytes=1:=by
 have h:(Tryz.prog.info? 4).map (fun i=>(i.zero,i.size,i.bytes))=some (some (.bool false),1,1):=by kernel_rfl
 cases hi:Tryz.prog.info? 4 with
 | none=>simp [hi] at h
 | some i=>simp [hi] at h;exact⟨i,rfl,h.1,h.2.1,h.2.2⟩
theorem pE{β:fB}{n:Nat}{Γ:Env}{H:List bJ}{F:List bI}{Q:Exit→Act→World→Prop}{ops:Array Oper}{rest:List Oper}{o:Oper}{d:Nat}{x:Operand}{m:Bool}(hw:want ops Γ o=some true)(ho:o.op= .buildSlice 51 1 #[(0,x)])(hd:o.dst=some d)(hn:Nat.blt d n=true)
  (hx:Γ.ev x=some (.bool m)) (k: ∀b,At β n ((d,.slice (some ⟨b,0,none⟩) 1 1)::Γ) (.obj b (.cells (iO.all [m]).toArray 4)::H) F (wpList Tryz.prog ops Q rest)):At β n Γ H F (wpList Tryz.prog ops Q (o::rest)):=by
 obtain⟨i,hi,hz,hs,_⟩:=bDt;refine mH hw ho hd hn hx Tryz.underlying51 hi hz (by omega) (by omega) ?_ k;rw [hs]
 kernel_rfl
theorem pC{β:fB}{n:Nat}{Γ:Env}{H:List bJ}{F:List bI}{Q:Exit→Act→World→Prop}{ops:Array Oper}{rest:List Oper}{o:Oper}{d:Nat}{x y:Operand}{c q:Nat}{v:Value}{A:Option Addr}{xs ys:List Bool}{H':List bJ}(hH:dD H (iO.row v 4 xs) H')(hr:bV β H F iO A ys)(hg:o.guard=none)
  (ho:o.op= .call {callee:= .builtin .append,args:= #[x,y],argTypes:= #[51,51]}) (hd:o.dst=some d) (hn:Nat.blt d n=true)
  (hx:Γ.ev x=some v) (hy:Γ.ev y=some (.slice A q c)) (hq:q=ys.length) (hl:xs.length+ys.length≤140737488355328)
  (k: ∀A' cap',At β n ((d,.slice A' (xs++ys).length cap')::Γ) (iO.row (.slice A' (xs++ys).length cap') 4 (xs++ys)::H') F (wpList Tryz.prog ops Q rest)):At β n Γ H F (wpList Tryz.prog ops Q (o::rest)):=by
 obtain⟨i,hi,hz,hs,hb⟩:=bDt;exact jK hH hr hg ho hd hn Tryz.underlying51 hi hz hs hb rfl hx hy hq (by omega) (by decide) k
theorem intInfo: ∃i:TypeInfo,Tryz.prog.info? 3=some i∧i.zero=some (.int .i64 0)∧i.size=1∧i.bytes=8:=by
 have h:(Tryz.prog.info? 3).map (fun i=>(i.zero,i.size,i.bytes))=some (some (.int .i64 0),1,8):=by kernel_rfl
 cases hi:Tryz.prog.info? 3 with
 | none=>simp [hi] at h
 | some i=>simp [hi] at h;exact⟨i,rfl,h.1,h.2.1,h.2.2⟩
theorem at_one_int{β:fB}{n:Nat}{Γ:Env}{H:List bJ}{F:List bI}{Q:Exit→Act→World→Prop}{ops:Array Oper}{rest:List Oper}{o:Oper}{d:Nat}{x:Operand}{m:Int}(hw:want ops Γ o=some true)(ho:o.op= .buildSlice 24 1 #[(0,x)])(hd:o.dst=some d)(hn:Nat.blt d n=true)
  (hx:Γ.ev x=some (.int .i64 m)) (k: ∀b,At β n ((d,.slice (some ⟨b,0,none⟩) 1 1)::Γ) (.obj b (.cells (gC.all [m]).toArray 3)::H) F (wpList Tryz.prog ops Q rest)):At β n Γ H F (wpList Tryz.prog ops Q (o::rest)):=by
 obtain⟨i,hi,hz,hs,_⟩:=intInfo;refine mH hw ho hd hn hx Tryz.underlying24 hi hz (by omega) (by omega) ?_ k;rw [hs]
 kernel_rfl
theorem at_app_int{β:fB}{n:Nat}{Γ:Env}{H:List bJ}{F:List bI}{Q:Exit→Act→World→Prop}{ops:Array Oper}{rest:List Oper}{o:Oper}{d:Nat}{x y:Operand}{c q:Nat}{v:Value}{A:Option Addr}{xs ys:List Int}{H':List bJ}(hH:dD H (gC.row v 3 xs) H')(hr:bV β H F gC A ys)(hg:o.guard=none)
  (ho:o.op= .call {callee:= .builtin .append,args:= #[x,y],argTypes:= #[24,24]}) (hd:o.dst=some d) (hn:Nat.blt d n=true)
  (hx:Γ.ev x=some v) (hy:Γ.ev y=some (.slice A q c)) (hq:q=ys.length) (hl:xs.length+ys.length≤17592186044416)
  (k: ∀A' cap',At β n ((d,.slice A' (xs++ys).length cap')::Γ) (gC.row (.slice A' (xs++ys).length cap') 3 (xs++ys)::H') F (wpList Tryz.prog ops Q rest)):At β n Γ H F (wpList Tryz.prog ops Q (o::rest)):=by
 obtain⟨i,hi,hz,hs,hb⟩:=intInfo;exact jK hH hr hg ho hd hn Tryz.underlying24 hi hz hs hb rfl hx hy hq (by omega) (by decide) k
theorem arr64_zero:(Tryz.prog.info? 112).bind (·.zero)=some (.agg (iO.all (List.replicate 64 false)).toArray):=by kernel_rfl
theorem step_specM{m:Nat}{made:List Bool}(hm:made.length=m)(bs:Nat)(vars loops buf:Int)(MA:Option Addr)(mc:Nat)(x:gQ):cX Tryz.prog 53 [.pointer (some ⟨bs,0,none⟩),.agg #[.int .i64 x.how,.int .i64 x.buf,.slice x.at_.addr x.at_.list.length x.at_.cap,.slice x.loops.addr x.loops.list.length x.loops.cap,.int .u8 x.fn,.slice x.ops.addr x.ops.list.length x.ops.cap]]
  [.obj bs (.cells [.int .i64 vars,.int .i64 loops,.int .i64 buf,.slice MA m mc].toArray 115)] [sC x,iO.sl (.slice MA m mc) made] (fun _:Int×Int=> .bool (nF vars made x.c)) (fun y=>[.obj bs (.cells [.int .i64 vars,.int .i64 y.1,.int .i64 y.2,.slice MA m mc].toArray 115)]) (fun _=>[]):=by
 subst hm;exact step_spec bs vars loops buf MA mc made x
def outB (n:Nat)(k:Int):Bool:=decide (k<0) || decide ((n:Int)≤k)
def restB (c:fL):Bool:=lH c.vars c.bufs c.steps (rJ c.bufs)&&c.outs.all fun k=>decide (0≤k∧k<c.bufs.length)
theorem pP(l:List kZ):(rJ l).length=l.length:=List.length_map _
def qJ (c:fL)(i:Nat)(inp made:List Bool)(r:Bool):Prop:=inp.length=64∧made=(rJ c.bufs).take i∧ ∃seen:List Int,(∀z∈seen,0≤z)∧(∀k:Nat,k<64→inp[k]?=some (seen.contains (k:Int)))∧r=(sL c.vars (c.bufs.drop i) seen&&restB c)
def tG (c:fL)(i:Nat)(made:List Bool)(r:Bool):Prop:=made.length=c.bufs.length∧r=(lH c.vars c.bufs (c.steps.drop i) made&&c.outs.all fun k=>decide (0≤k∧k<c.bufs.length))
section
variable {c : iF} {r : Bool}
theorem right_sizes(h:dE c.c=r)(h1:0≤c.vars)(h2:c.vars≤6)(h3:(c.bufs.list.length:Int)≤1024)(h4:(c.steps.list.length:Int)≤1024)(h5:(c.outs.list.length:Int)≤64):r=(sL c.c.vars c.c.bufs []&&restB c.c):=by
 rw [←h];unfold dE;rw [decide_eq_true (show 0≤c.c.vars∧c.c.vars≤6∧c.c.bufs.length≤1024∧c.c.steps.length≤1024∧c.c.outs.length≤64 from ⟨h1,h2,by show(pV c.bufs.list).length≤1024;rw [cT];omega,by show(uR c.steps.list).length≤1024;rw [iJ];omega,by show c.outs.list.length≤64;omega⟩),Bool.true_and];rfl
theorem oR(h:dE c.c=r)(h1: ¬(0≤c.vars∧c.vars≤6∧(c.bufs.list.length:Int)≤1024∧(c.steps.list.length:Int)≤1024∧(c.outs.list.length:Int)≤64)):r=false:=by
 rw [←h];unfold dE;rw [decide_eq_false (show ¬(0≤c.c.vars∧c.c.vars≤6∧c.c.bufs.length≤1024∧c.c.steps.length≤1024∧c.c.outs.length≤64) from fun⟨a,b,d,e,f⟩=>h1 ⟨a,b,by have d:(pV c.bufs.list).length≤1024:=d;rw [cT] at d;omega,by have e:(uR c.steps.list).length≤1024:=e;rw [iJ] at e;omega,by have f:c.outs.list.length≤64:=f;omega⟩),Bool.false_and]
end
section
variable {c : fL} {i : Nat} {inp made : List Bool} {r : Bool} {u : kZ}
theorem bufs_start(h:r=(sL c.vars c.bufs []&&restB c)):qJ c 0 (List.replicate 64 false) [] r:=by
 refine⟨rfl,rfl,[],?_,?_,h⟩
 ·intro z hz;cases hz
 ·intro k hk;rw [List.getElem?_replicate,if_pos hk];rfl
theorem bufs_len(h:qJ c i inp made r)(hi:i≤c.bufs.length):made.length=i:=by
 rw [h.2.1,List.length_take,pP];omega
theorem xK(h:qJ c i inp made r)(hu:c.bufs[i]?=some u)(k:lN u.sides c.vars=false∨u.input< -1∨64≤u.input∨0≤u.input∧inp[u.input.toNat]?=some true):r=false:=by
 obtain⟨h1,_,seen,h2,h3,h4⟩:=h;rw [pB hu,sL] at h4;rw [h4]
 rcases k with k | k | k | ⟨k,e⟩
 ·rw [k];rfl
 ·rw [decide_eq_false (show ¬(-1≤u.input∧u.input<64) from fun h=>by omega)];simp
 ·rw [decide_eq_false (show ¬(-1≤u.input∧u.input<64) from fun h=>by omega)];simp
 ·have hlt:=(List.getElem?_eq_some_iff.1 e).1;rw [h3 _ (by omega)] at e
  have e2:seen.contains u.input=true:=by
   have:((u.input.toNat:Nat):Int)=u.input:=by omega
   rw [←this];exact Option.some.inj e
  rw [e2];simp
theorem bFx(h:made=(rJ c.bufs).take i)(hu:c.bufs[i]?=some u):made++[decide (0≤u.input)]=(rJ c.bufs).take (i+1):=by
 have hm:(rJ c.bufs)[i]?=some (decide (0≤u.input)):=by
  unfold rJ;rw [List.getElem?_map,hu];rfl
 obtain⟨hi,e⟩:=List.getElem?_eq_some_iff.1 hm;rw [List.take_succ_eq_append_getElem hi,e,h]
theorem bufs_in(h:qJ c i inp made r)(hu:c.bufs[i]?=some u)(hg:lN u.sides c.vars=true)(h1: -1≤u.input)(h2:u.input<64)(h3:0≤u.input)(he:inp[u.input.toNat]?=some false):qJ c (i+1) (inp.set u.input.toNat true) (made++[decide (0≤u.input)]) r:=by
 obtain⟨k1,k2,seen,k3,k4,k5⟩:=h;refine⟨by simpa using k1,bFx k2 hu,u.input::seen,fun z hz=>?_,fun k hk=>?_,?_⟩
 ·rcases List.mem_cons.1 hz with rfl | hz
  ·exact h3
  ·exact k3 z hz
 ·rw [List.getElem?_set,List.contains_cons]
  by_cases e:u.input.toNat=k
  ·rw [if_pos e,if_pos (by omega)];have:((k:Nat):Int)=u.input:=by omega
   rw [this];simp
  ·rw [if_neg e,k4 k hk];have:((k:Int)==u.input)=false:=beq_eq_false_iff_ne.2 (by omega);rw [this];rfl
 ·rw [pB hu,sL,hg,decide_eq_true ⟨h1,h2⟩,if_pos h3] at k5
  have e2:seen.contains u.input=false:=by
   rw [k4 _ (by omega)] at he;have:((u.input.toNat:Nat):Int)=u.input:=by omega
   rw [←this];exact Option.some.inj he
  rw [e2] at k5
  simpa using k5
theorem bufs_no(h:qJ c i inp made r)(hu:c.bufs[i]?=some u)(hg:lN u.sides c.vars=true)(h1: -1≤u.input)(h3:u.input<0):qJ c (i+1) inp (made++[decide (0≤u.input)]) r:=by
 obtain⟨k1,k2,seen,k3,k4,k5⟩:=h;refine⟨k1,bFx k2 hu,seen,k3,k4,?_⟩;rw [pB hu,sL,hg,decide_eq_true (show-1≤u.input∧u.input<64 from ⟨h1,by omega⟩),if_neg (by omega)] at k5
 have e2:seen.contains u.input=false:=by
  rw [List.contains_eq_mem];exact decide_eq_false fun h=>by have:=k3 _ h;omega
 rw [e2] at k5
 simpa using k5
theorem bufs_end(h:qJ c i inp made r)(hi:c.bufs.length≤i):made=rJ c.bufs∧r=restB c:=by
 obtain⟨_,k2,seen,_,_,k5⟩:=h;rw [List.drop_of_length_le hi] at k5;refine⟨by rw [k2,List.take_of_length_le (by rw [pP];exact hi)],by rw [k5];rfl⟩
theorem steps_start(hm:made=rJ c.bufs)(h:r=restB c):tG c 0 made r:=⟨by rw [hm,pP],by rw [h,hm];rfl⟩
theorem tP{x:dU}(h:tG c i made r)(hx:c.steps[i]?=some x)(k:x.buf<0∨(c.bufs.length:Int)≤x.buf∨(∃u,c.bufs[x.buf.toNat]?=some u∧0≤u.input)∨nF c.vars made x=false):r=false:=by
 obtain⟨_,h2⟩:=h;rw [pB hx,lH] at h2;rw [h2]
 rcases k with k | k | ⟨u,e,k⟩ | k
 ·rw [decide_eq_false (show ¬0≤x.buf by omega)];rfl
 ·rw [List.getElem?_eq_none (show c.bufs.length≤x.buf.toNat by omega)];simp
 ·rw [e];simp only;rw [decide_eq_false (show ¬u.input<0 by omega)];simp
 ·rw [k];simp
theorem steps_ok{x:dU}{u:kZ}(h:tG c i made r)(hx:c.steps[i]?=some x)(h0:0≤x.buf)(hu:c.bufs[x.buf.toNat]?=some u)(h1:u.input<0)(k:nF c.vars made x=true):tG c (i+1) (made.set x.buf.toNat true) r:=by
 obtain⟨h2,h3⟩:=h;refine⟨by simpa using h2,?_⟩;rw [pB hx,lH,hu,decide_eq_true h0] at h3;simp only at h3;rw [decide_eq_true h1,k] at h3
 simpa using h3
theorem steps_end(h:tG c i made r)(hi:c.steps.length≤i):r=c.outs.all fun k=>decide (0≤k∧k<c.bufs.length):=by
 obtain⟨_,h3⟩:=h;rw [List.drop_of_length_le hi] at h3;rw [h3];rfl
end
theorem outs_all{n m:Nat}{l:List Int}(h:n=m):(!l.any (outB m))=l.all fun k=>decide (0≤k∧k<(n:Int)):=by
 subst h
 have e:outB n=fun k=>!decide (0≤k∧k<(n:Int)):=by
  funext k
  unfold outB;rw [Bool.eq_iff_iff];simp
 rw [e,any_not]
theorem nU(z0:Int):Tryz.prog.built 115 [(0,.int .i64 z0)]=some #[.int .i64 z0,.int .i64 0,.int .i64 0,.slice none 0 0]:=by kernel_rfl
theorem rP:(Tryz.prog.info? 47).bind (·.zero)=some (.agg #[.slice none 0 0,.int .i64 0]):=by kernel_rfl
theorem qH:(Tryz.prog.info? 40).bind (·.zero)=some (.agg #[.int .i64 0,.int .i64 0,.slice none 0 0,.slice none 0 0,.int .u8 0,.slice none 0 0]):=by kernel_rfl
set_option maxRecDepth 100000 in
theorem indexFI_spec(A:Option Addr)(c:Nat)(l:List Int)(hl:l.length≤140737488355328)(f:FuncId)(cap:List Value)(G:List bI)(p:Int→Bool)(hcf: ∀(args:Array Value) (w:World),(callFunc f args).run Tryz.prog w= .ok (.enter f args) w)(hf: ∀k:Int,cX Tryz.prog f (.int .i64 k::cap) [] G (fun _:Unit=> .bool (p k)) (fun _=>[]) (fun _=>[])):cX Tryz.prog 114 [.slice A l.length c,.func (.func f) #[] cap.toArray] [] (gC.sl (.slice A l.length c) l::G) (fun(_:Unit)=> .int .i64 (mG p l 0)) (fun _=>[]) (fun _=>[]):=by
 have hT:=dW;generalize hR:mG p l 0=r;refine cD Tryz.func114 rfl Tryz.ntmps114 rfl ?_;intro β hM;refine sr<|sp hT ?_;refine nn<|bF<|sr<|sp3 hT ?_;refine nn<|bQ<|dH (ι:=Nat) [(0,_),(1,_),(7,_)] ⟨rfl,rfl,rfl,trivial⟩ (fun i=>[(8,.int .i64 (i:Nat))]) (fun _=>[]) (fun i=>[bI.pure (i≤l.length∧r=mG p (l.drop i) i)]) (fun i=>l.length-i) 0 ⟨rfl,trivial⟩ .nil ⟨Has.pure (⟨by omega,hR.symm⟩),trivial⟩ ?_;rintro i;refine bX (Has.of mT0) fun hinv2=>?_;refine sr<|sp hT ?_;refine nn<|bF<|bO rfl (fun hc9=>?_) (fun hc9=>?_)
 ·have hc9:=of_decide_eq_true hc9;refine bM<|bE<|bF<|bQ<|sr<|sp2 hT ?_;refine nn<|sr<|sp3 hT ?_
  obtain⟨x1,hx2⟩: ∃x',l[i]?=some x':=⟨_,List.getElem?_eq_getElem (by omega)⟩
  refine ss (bG hT (k:=i) (bC (Has.of mT1)) rfl rfl rfl rfl rfl rfl rfl (by omega)) ?_;refine ss (bR hT (bV.knows (bC (Has.of mT1)) (k:=i) (x:=x1) hx2 0) rfl rfl rfl rfl rfl) ?_;refine mA hcf (hf x1) rfl rfl rfl rfl rfl rfl rfl .nil (bH.drop 2) fun _=>?_;refine nn<|bO rfl (fun hc16=>?_) (fun hc16=>?_)
  ·refine sr<|sp2 hT ?_;refine nn<|bK<|bW<|bN<|bN<|bW<|bN ?_;have hr:=(lR hinv2.2 hx2).1 ‹_›;subst hr;exact bL () rfl (rv_tmp rfl) .nil trivial rfl
  refine bM<|bU<|bE<|bD<|sp hT ?_;refine bT (z':=(((i+1):Nat):Int)) (cO (by omega) (by omega)) ?_;refine sp hT ?_;refine nn ?_;exact cG (i+1) (by omega) ⟨rfl,trivial⟩ ⟨rfl,rfl,rfl,trivial⟩ .nil ⟨Has.pure (⟨by omega,(lR hinv2.2 hx2).2 ‹_›⟩),trivial⟩ (bH.drop 1)
 have hc9:=Int.not_lt.1 (of_decide_eq_false hc9);refine cS<|bZ<|bZ<|cR<|bE<|sr<|sp hT ?_;refine nn<|bK ?_;have hr:=xB hinv2.2 (by omega);subst hr;exact bL () rfl (rv_tmp rfl) .nil trivial rfl
set_option maxRecDepth 100000 in
theorem bAi(A:Option Addr)(c:Nat)(l:List Int)(hl:l.length≤140737488355328)(f:FuncId)(cap:List Value)(G:List bI)(p:Int→Bool)(hcf: ∀(args:Array Value) (w:World),(callFunc f args).run Tryz.prog w= .ok (.enter f args) w)(hf: ∀k:Int,cX Tryz.prog f (.int .i64 k::cap) [] G (fun _:Unit=> .bool (p k)) (fun _=>[]) (fun _=>[])):cX Tryz.prog 54 [.slice A l.length c,.func (.func f) #[] cap.toArray] [] (gC.sl (.slice A l.length c) l::G) (fun(_:Unit)=> .bool (l.any p)) (fun _=>[]) (fun _=>[]):=by
 have hT:=dW;refine cD Tryz.func54 rfl Tryz.ntmps54 rfl ?_;intro β hM;refine sr<|sp hT ?_;refine nn<|sr<|sp2 hT ?_;refine cU Tryz.func114 (indexFI_spec A c l hl f cap G p hcf hf) rfl rfl .nil bH.self fun _=>?_;refine sp2 hT ?_;refine nn<|bK ?_;exact bL () rfl (rv_tmp rfl) .nil trivial (congrArg Value.bool (vU p l 0 (by decide)))
set_option maxRecDepth 100000 in
theorem right1_spec(b:Nat)(c:iF)(k:Int):cX Tryz.prog 55 [.int .i64 k,.pointer (some ⟨b,0,none⟩)] [] [bI.cells b 0 [.int .i64 c.vars,.slice c.bufs.addr c.bufs.list.length c.bufs.cap,.slice c.steps.addr c.steps.list.length c.steps.cap,.slice c.outs.addr c.outs.list.length c.outs.cap]] (fun(_:Unit)=> .bool (outB c.bufs.list.length k)) (fun _=>[]) (fun _=>[]):=by
 have hT:=dW;refine cD Tryz.func55 rfl Tryz.ntmps55 rfl ?_;intro β hM;refine sr<|sp hT ?_;refine nn<|sr<|sp3 hT ?_;refine cA (fun hg6=>?_) (fun hg6=>?_)
 ·have hg6:=of_decide_eq_true hg6;refine sk4 ?_;refine sk ?_;refine sp2 hT ?_;refine nn<|bK ?_;exact bL () rfl (rv_tmp rfl) .nil trivial (by first | (unfold outB;simp [*];done) | (unfold outB;simp [*];omega))
 have hg6:=Int.not_lt.1 (of_decide_eq_false hg6);refine sp2 hT ?_;refine ss (bR hT (fE (off:=1) (Has.of mT0)) rfl rfl rfl rfl rfl) ?_;refine sp4 hT ?_;refine nn<|bK ?_;exact bL () rfl (rv_tmp rfl) .nil trivial (by first | (unfold outB;simp [*];done) | (unfold outB;simp [*];omega))
set_option maxRecDepth 100000 in
theorem qT(c:iF):cX Tryz.prog 25 [.agg #[.int .i64 c.vars,.slice c.bufs.addr c.bufs.list.length c.bufs.cap,.slice c.steps.addr c.steps.list.length c.steps.cap,.slice c.outs.addr c.outs.list.length c.outs.cap]] [] [oT c] (fun(_:Unit)=> .bool (dE c.c)) (fun _=>[]) (fun _=>[]):=by
 have hT:=dW;generalize hR:dE c.c=r;refine cD Tryz.func25 rfl Tryz.ntmps25 rfl ?_;intro β hM;refine sr<|iL rfl rfl rfl rfl rfl rfl fun b1=>?_;refine sp hT ?_;refine nn<|bF<|sr<|sp hT ?_;refine ss (ldO hT (dC .head)) ?_;refine sp2 hT ?_;refine cA (fun hg12=>?_) (fun hg12=>?_)
 ·have hg12:=of_decide_eq_true hg12;refine sk3 ?_;refine sp2 hT ?_;refine sk4 ?_;refine sp2 hT ?_;refine sk4 ?_;refine sp2 hT ?_;refine sk4 ?_;refine sp hT ?_;refine nn<|cW rfl rfl ?_;refine sr<|sp hT ?_;refine nn<|bK<|bN ?_;have hr:=oR hR (by omega);subst hr;exact bL () rfl (rv_tmp rfl) .nil trivial rfl
 have hg12:=Int.not_lt.1 (of_decide_eq_false hg12);refine sp hT ?_;refine ss (ldO hT (dC .head)) ?_;refine sp3 hT ?_;refine cA (fun hg17=>?_) (fun hg17=>?_)
 ·have hg17:=of_decide_eq_true hg17;refine sk4 ?_;refine sp2 hT ?_;refine sk4 ?_;refine sp2 hT ?_;refine sk4 ?_;refine sp hT ?_;refine nn<|cW rfl rfl ?_;refine sr<|sp hT ?_;refine nn<|bK<|bN ?_;have hr:=oR hR (by omega);subst hr;exact bL () rfl (rv_tmp rfl) .nil trivial rfl
 have hg17:=Int.not_lt.1 (of_decide_eq_false hg17);refine sp hT ?_;refine ss (ldO hT (fF .head)) ?_;refine sp4 hT ?_;refine cA (fun hg23=>?_) (fun hg23=>?_)
 ·have hg23:=of_decide_eq_true hg23;refine sk4 ?_;refine sp2 hT ?_;refine sk4 ?_;refine sp hT ?_;refine nn<|cW rfl rfl ?_;refine sr<|sp hT ?_;refine nn<|bK<|bN ?_;have hr:=oR hR (by omega);subst hr;exact bL () rfl (rv_tmp rfl) .nil trivial rfl
 have hg23:=Int.not_lt.1 (of_decide_eq_false hg23);refine sp hT ?_;refine ss (ldO hT (yQ .head)) ?_;refine sp4 hT ?_;refine cA (fun hg29=>?_) (fun hg29=>?_)
 ·have hg29:=of_decide_eq_true hg29;refine sk4 ?_;refine sp hT ?_;refine nn<|cW rfl rfl ?_;refine sr<|sp hT ?_;refine nn<|bK<|bN ?_;have hr:=oR hR (by omega);subst hr;exact bL () rfl (rv_tmp rfl) .nil trivial rfl
 have hg29:=Int.not_lt.1 (of_decide_eq_false hg29);refine sp hT ?_;refine ss (ldO hT (nY .head)) ?_;refine sp3 hT ?_;refine nn<|bO rfl (fun hc34=>?_) (fun hc34=>?_)
 ·have hc34:=of_decide_eq_true hc34;refine sr<|sp hT ?_;refine nn<|bK<|bN ?_;have hr:=oR hR (by omega);subst hr;exact bL () rfl (rv_tmp rfl) .nil trivial rfl
 have hc34:=Int.not_lt.1 (of_decide_eq_false hc34);refine bM<|bE<|bF ?_;have hr0:=right_sizes hR (by omega) (by omega) (by omega) (by omega) (by omega);refine bD<|fC rfl rfl rfl rfl arr64_zero rfl fun b2=>?_;refine sN (E:=iO) (xs:=List.replicate 64 false) .head ?_;refine nn<|sr<|sp hT ?_;refine ss (ldO hT (dC kT1)) ?_;refine ss (iV rfl rfl (nU _)) ?_;refine iL rfl rfl rfl rfl rfl rfl fun b3=>?_;refine sp hT ?_;refine nn<|bF<|sr<|sp hT ?_;refine ss (ldO hT (fF kT2)) ?_;refine sp2 hT ?_;refine nn<|bQ<|gB (t:=4) iO ?_;refine dH (ι:=Nat×List Bool×List Bool×Option Addr×Nat) [(1,_),(3,_),(4,_),(40,_),(41,_)] ⟨rfl,rfl,rfl,rfl,rfl,trivial⟩ (fun⟨i,inp,made,MA,mc⟩=>[(42,.int .i64 (i:Nat))]) (fun⟨i,inp,made,MA,mc⟩=>[iO.held (.slice (some ⟨b2,0,none⟩) 64 64) inp,.obj b3 (.cells [.int .i64 c.vars,.int .i64 0,.int .i64 0,.slice MA made.length mc].toArray 115),iO.row (.slice MA made.length mc) 4 made]) (fun⟨i,inp,made,MA,mc⟩=>[bI.pure (i≤c.bufs.list.length∧qJ c.c i inp made r)]) (fun⟨i,inp,made,MA,mc⟩=>c.bufs.list.length-i) (0,List.replicate 64 false,[],none,0) ⟨rfl,trivial⟩ (.cons kT2 (.cons kT1 (.cons .head .nil))) ⟨Has.pure (⟨by omega,bufs_start hr0⟩),trivial⟩ ?_;rintro⟨i,inp,made,MA,mc⟩;dsimp only;refine bX (Has.of mT0) fun hinv6=>?_;have hil:inp.length=64:=hinv6.2.1;have hml:=bufs_len hinv6.2 (by show i≤(pV c.bufs.list).length;rw [cT];omega);refine sr<|sp hT ?_;refine nn<|bF<|bO rfl (fun hc43=>?_) (fun hc43=>?_)
 ·have hc43:=of_decide_eq_true hc43;refine bM<|bE<|bF<|bQ<|sr<|cC (bAf.sl (.slice c.bufs.addr c.bufs.list.length c.bufs.cap) c.bufs.list) (oW (jR (Has.of mT1))) ?_
  obtain⟨x4,hx5⟩: ∃x',c.bufs.list[i]?=some x':=⟨_,List.getElem?_eq_getElem (by omega)⟩
  refine ss (bG hT (k:=i) (bC (Has.of mT0)) rfl rfl rfl rfl rfl rfl rfl (by omega)) ?_;refine ss (cL hT (bV.knows (bC (Has.of mT0)) (k:=i) (x:=x4) hx5 0) rfl rfl rfl rfl rfl) ?_;refine fC rfl rfl rfl rfl rP rfl fun b6=>?_;refine sto hT .head ?_;refine nn<|bF<|bF<|cC (bufF x4) (Has.each (tC (jR (Has.of mT2))) (List.mem_of_getElem? hx5)) ?_;refine bD<|sp hT ?_;refine ss (ldO hT (dC .head)) ?_;refine sp hT ?_;refine ss (ldO hT (dC kT4)) ?_;refine cU Tryz.func52 (bGt x4.sides c.vars) rfl rfl .nil ⟨(Has.of mT0),trivial⟩ fun _=>?_;refine sp2 hT ?_;refine cA (fun hg52=>?_) (fun hg52=>?_)
  ·have hg52:=kG hg52;refine sk3 ?_;refine sp2 hT ?_;refine sk3 ?_;refine sp2 hT ?_;refine sk4 ?_;refine sk4 ?_;refine sk ?_;refine sp hT ?_;refine nn<|cW rfl rfl ?_;refine sr<|sp hT ?_;refine nn<|bK<|bN<|bW<|bN<|bN<|bW<|bN ?_;have hr:=xK hinv6.2 (dG hx5) (by first | exact .inl (show lN (polsL (jV.sides _).list) c.vars=false by assumption) | exact .inr (.inl (by show x4.input< -1;omega)) | exact .inr (.inr (.inl (by show 64≤x4.input;omega))) | exact .inr (.inr (.inr ⟨by show 0≤x4.input;omega,by subst_vars;assumption⟩)));subst hr;exact bL () rfl (rv_tmp rfl) .nil trivial rfl
  have hg52:=kD hg52;refine sp hT ?_;refine ss (ldO hT (fF .head)) ?_;refine sp3 hT ?_;refine cA (fun hg57=>?_) (fun hg57=>?_)
  ·have hg57:=of_decide_eq_true hg57;refine sk3 ?_;refine sp2 hT ?_;refine sk4 ?_;refine sk4 ?_;refine sk ?_;refine sp hT ?_;refine nn<|cW rfl rfl ?_;refine sr<|sp hT ?_;refine nn<|bK<|bN<|bW<|bN<|bN<|bW<|bN ?_;have hr:=xK hinv6.2 (dG hx5) (by first | exact .inl (show lN (polsL (jV.sides _).list) c.vars=false by assumption) | exact .inr (.inl (by show x4.input< -1;omega)) | exact .inr (.inr (.inl (by show 64≤x4.input;omega))) | exact .inr (.inr (.inr ⟨by show 0≤x4.input;omega,by subst_vars;assumption⟩)));subst hr;exact bL () rfl (rv_tmp rfl) .nil trivial rfl
  have hg57:=Int.not_lt.1 (of_decide_eq_false hg57);refine sp hT ?_;refine ss (ldO hT (fF .head)) ?_;refine sp3 hT ?_;refine cA (fun hg62=>?_) (fun hg62=>?_)
  ·have hg62:=of_decide_eq_true hg62;refine sk4 ?_;refine sk4 ?_;refine sk ?_;refine sp hT ?_;refine nn<|cW rfl rfl ?_;refine sr<|sp hT ?_;refine nn<|bK<|bN<|bW<|bN<|bN<|bW<|bN ?_;have hr:=xK hinv6.2 (dG hx5) (by first | exact .inl (show lN (polsL (jV.sides _).list) c.vars=false by assumption) | exact .inr (.inl (by show x4.input< -1;omega)) | exact .inr (.inr (.inl (by show 64≤x4.input;omega))) | exact .inr (.inr (.inr ⟨by show 0≤x4.input;omega,by subst_vars;assumption⟩)));subst hr;exact bL () rfl (rv_tmp rfl) .nil trivial rfl
  have hg62:=Int.not_le.1 (of_decide_eq_false hg62);refine sp hT ?_;refine ss (ldO hT (fF .head)) ?_;refine sp2 hT ?_;refine cA (fun hg66=>?_) (fun hg66=>?_)
  ·have hg66:=of_decide_eq_true hg66;refine sp hT ?_;refine ss (ldO hT (fF .head)) ?_
   obtain⟨x7,hx8⟩: ∃x',inp[x4.input.toNat]?=some x':=⟨_,List.getElem?_eq_getElem (by omega)⟩
   refine ss (cQ hT (k:=x4.input.toNat) rfl rfl rfl rfl rfl (by omega) (by omega)) ?_;refine ss (bR hT (bV.knows (cF kT1) (k:=x4.input.toNat) (x:=x7) hx8 0) rfl rfl rfl rfl rfl) ?_;refine sp2 hT ?_;refine nn<|bO rfl (fun hc72=>?_) (fun hc72=>?_)
   ·refine sr<|sp hT ?_;refine nn<|bK<|bN<|bW<|bN<|bN<|bW<|bN ?_;have hr:=xK hinv6.2 (dG hx5) (by first | exact .inl (show lN (polsL (jV.sides _).list) c.vars=false by assumption) | exact .inr (.inl (by show x4.input< -1;omega)) | exact .inr (.inr (.inl (by show 64≤x4.input;omega))) | exact .inr (.inr (.inr ⟨by show 0≤x4.input;omega,by subst_vars;assumption⟩)));subst hr;exact bL () rfl (rv_tmp rfl) .nil trivial rfl
   refine bM<|bE<|bF<|sr<|sp hT ?_;refine ss (ldO hT (fF .head)) ?_;refine sp hT ?_;refine nn<|bO rfl (fun hc75=>?_) (fun hc75=>?_)
   ·have hc75:=of_decide_eq_true hc75;refine bD<|sp hT ?_;refine ss (ldO hT (fF .head)) ?_;refine ss (cQ hT (k:=x4.input.toNat) rfl rfl rfl rfl rfl (by omega) (by omega)) ?_;refine dP hT (k:=x4.input.toNat) (fo:=0) (y':=true) kT1 rfl rfl rfl rfl rfl rfl rfl rfl rfl hx8 rfl ?_;refine nn<|nS 12 _ _ [(true,0),(true,1),(true,2),(true,3),(true,4),(true,5),(true,6),(true,7),(false,8),(false,9),(true,10),(true,11)] fH (by decide+kernel) (.cons .head (.cons .head (.cons .head (.cons kT1 .nil)))) bH.self ?_;refine puL hT ?_;refine puL hT ?_;refine puL hT ?_;refine puL hT ?_;refine stL rfl (ldO hT (nY kT2)) ?_;refine puL hT ?_;refine stL rfl (ldO hT (fF kT1)) ?_;refine puL hT ?_;refine jL (o:=_) rfl ?_;refine pE (m:=decide (0≤x4.input)) rfl rfl rfl rfl rfl fun b9=>?_;refine jO (.cons kT1 (.cons kT1 (.cons kT1 (.cons kT2 .nil)))) (bH.drop 0) ?_;refine jL (o:=_) rfl ?_;refine pC kT4 (iE .head rfl) rfl rfl rfl rfl rfl rfl rfl (by simp;omega) fun A10 c11=>?_;refine jO (.cons kT2 (.cons kT2 (.cons kT2 (.cons kT2 .nil)))) (bH.drop 0) ?_;refine puL hT ?_;refine puL hT ?_;refine iQ (o:=_) rfl ?_;refine sto hT kT4 ?_;refine kJ<|bU<|bE<|bD<|sp hT ?_;refine bT (z':=(((i+1):Nat):Int)) (cO (by omega) (by omega)) ?_;refine sp hT ?_;refine nn ?_;exact cG (i+1,inp.set x4.input.toNat true,made++[decide (0≤x4.input)],A10,c11) (by dsimp only;omega) ⟨rfl,trivial⟩ ⟨rfl,rfl,rfl,rfl,rfl,trivial⟩ (.cons kT3 (.cons .head (.cons .head (.cons kT2 .nil)))) ⟨Has.pure (⟨by dsimp only;omega,bufs_in hinv6.2 (dG hx5) (show lN (polsL x4.sides.list) c.vars=true by assumption) (show-1≤x4.input by omega) (show x4.input<64 by omega) (show 0≤x4.input by omega) (by first | (subst_vars;assumption) | (exfalso;omega))⟩),trivial⟩ (bH.drop 3)
   have hc75:=Int.not_le.1 (of_decide_eq_false hc75);refine bM<|bE<|nS 12 _ _ [(true,0),(true,1),(true,2),(true,3),(true,4),(true,5),(true,6),(true,7),(false,8),(false,9),(true,10),(true,11)] fH (by decide+kernel) (.cons .head (.cons .head (.cons .head (.cons kT1 .nil)))) bH.self ?_;refine puL hT ?_;refine puL hT ?_;refine puL hT ?_;refine puL hT ?_;refine stL rfl (ldO hT (nY kT2)) ?_;refine puL hT ?_;refine stL rfl (ldO hT (fF .head)) ?_;refine puL hT ?_;refine jL (o:=_) rfl ?_;refine pE (m:=decide (0≤x4.input)) rfl rfl rfl rfl rfl fun b12=>?_;refine jO (.cons kT1 (.cons kT1 (.cons kT1 (.cons kT2 .nil)))) (bH.drop 0) ?_;refine jL (o:=_) rfl ?_;refine pC kT4 (iE .head rfl) rfl rfl rfl rfl rfl rfl rfl (by simp;omega) fun A13 c14=>?_;refine jO (.cons kT2 (.cons kT2 (.cons kT2 (.cons kT2 .nil)))) (bH.drop 0) ?_;refine puL hT ?_;refine puL hT ?_;refine iQ (o:=_) rfl ?_;refine sto hT kT4 ?_;refine kJ<|bU<|bE<|bD<|sp hT ?_;refine bT (z':=(((i+1):Nat):Int)) (cO (by omega) (by omega)) ?_;refine sp hT ?_;refine nn ?_;exact cG (i+1,inp,made++[decide (0≤x4.input)],A13,c14) (by dsimp only;omega) ⟨rfl,trivial⟩ ⟨rfl,rfl,rfl,rfl,rfl,trivial⟩ (.cons kT4 (.cons .head (.cons .head (.cons kT2 .nil)))) ⟨Has.pure (⟨by dsimp only;omega,bufs_no hinv6.2 (dG hx5) (show lN (polsL x4.sides.list) c.vars=true by assumption) (show-1≤x4.input by omega) (show x4.input<0 by omega)⟩),trivial⟩ (bH.drop 3)
  have hg66:=Int.not_le.1 (of_decide_eq_false hg66);refine sk4 ?_;refine sp2 hT ?_;refine nn<|fM rfl rfl ?_;refine bM<|bE<|bF<|sr<|sp hT ?_;refine ss (ldO hT (fF .head)) ?_;refine sp hT ?_;refine nn<|bO rfl (fun hc75=>?_) (fun hc75=>?_)
  ·have hc75:=of_decide_eq_true hc75;refine bD<|sp hT ?_;refine ss (ldO hT (fF .head)) ?_
   obtain⟨x15,hx16⟩: ∃x',inp[x4.input.toNat]?=some x':=⟨_,List.getElem?_eq_getElem (by omega)⟩
   refine ss (cQ hT (k:=x4.input.toNat) rfl rfl rfl rfl rfl (by omega) (by omega)) ?_;refine dP hT (k:=x4.input.toNat) (fo:=0) (y':=true) kT1 rfl rfl rfl rfl rfl rfl rfl rfl rfl hx16 rfl ?_;refine nn<|nS 12 _ _ [(true,0),(true,1),(true,2),(true,3),(true,4),(true,5),(true,6),(true,7),(false,8),(false,9),(true,10),(true,11)] fH (by decide+kernel) (.cons .head (.cons .head (.cons .head (.cons kT1 .nil)))) bH.self ?_;refine puL hT ?_;refine puL hT ?_;refine puL hT ?_;refine puL hT ?_;refine stL rfl (ldO hT (nY kT2)) ?_;refine puL hT ?_;refine stL rfl (ldO hT (fF kT1)) ?_;refine puL hT ?_;refine jL (o:=_) rfl ?_;refine pE (m:=decide (0≤x4.input)) rfl rfl rfl rfl rfl fun b17=>?_;refine jO (.cons kT1 (.cons kT1 (.cons kT1 (.cons kT2 .nil)))) (bH.drop 0) ?_;refine jL (o:=_) rfl ?_;refine pC kT4 (iE .head rfl) rfl rfl rfl rfl rfl rfl rfl (by simp;omega) fun A18 c19=>?_;refine jO (.cons kT2 (.cons kT2 (.cons kT2 (.cons kT2 .nil)))) (bH.drop 0) ?_;refine puL hT ?_;refine puL hT ?_;refine iQ (o:=_) rfl ?_;refine sto hT kT4 ?_;refine kJ<|bU<|bE<|bD<|sp hT ?_;refine bT (z':=(((i+1):Nat):Int)) (cO (by omega) (by omega)) ?_;refine sp hT ?_;refine nn ?_;exact cG (i+1,inp.set x4.input.toNat true,made++[decide (0≤x4.input)],A18,c19) (by dsimp only;omega) ⟨rfl,trivial⟩ ⟨rfl,rfl,rfl,rfl,rfl,trivial⟩ (.cons kT3 (.cons .head (.cons .head (.cons kT2 .nil)))) ⟨Has.pure (⟨by dsimp only;omega,bufs_in hinv6.2 (dG hx5) (show lN (polsL x4.sides.list) c.vars=true by assumption) (show-1≤x4.input by omega) (show x4.input<64 by omega) (show 0≤x4.input by omega) (by first | (subst_vars;assumption) | (exfalso;omega))⟩),trivial⟩ (bH.drop 3)
  have hc75:=Int.not_le.1 (of_decide_eq_false hc75);refine bM<|bE<|nS 12 _ _ [(true,0),(true,1),(true,2),(true,3),(true,4),(true,5),(true,6),(true,7),(false,8),(false,9),(true,10),(true,11)] fH (by decide+kernel) (.cons .head (.cons .head (.cons .head (.cons kT1 .nil)))) bH.self ?_;refine puL hT ?_;refine puL hT ?_;refine puL hT ?_;refine puL hT ?_;refine stL rfl (ldO hT (nY kT2)) ?_;refine puL hT ?_;refine stL rfl (ldO hT (fF .head)) ?_;refine puL hT ?_;refine jL (o:=_) rfl ?_;refine pE (m:=decide (0≤x4.input)) rfl rfl rfl rfl rfl fun b20=>?_;refine jO (.cons kT1 (.cons kT1 (.cons kT1 (.cons kT2 .nil)))) (bH.drop 0) ?_;refine jL (o:=_) rfl ?_;refine pC kT4 (iE .head rfl) rfl rfl rfl rfl rfl rfl rfl (by simp;omega) fun A21 c22=>?_;refine jO (.cons kT2 (.cons kT2 (.cons kT2 (.cons kT2 .nil)))) (bH.drop 0) ?_;refine puL hT ?_;refine puL hT ?_;refine iQ (o:=_) rfl ?_;refine sto hT kT4 ?_;refine kJ<|bU<|bE<|bD<|sp hT ?_;refine bT (z':=(((i+1):Nat):Int)) (cO (by omega) (by omega)) ?_;refine sp hT ?_;refine nn ?_;exact cG (i+1,inp,made++[decide (0≤x4.input)],A21,c22) (by dsimp only;omega) ⟨rfl,trivial⟩ ⟨rfl,rfl,rfl,rfl,rfl,trivial⟩ (.cons kT4 (.cons .head (.cons .head (.cons kT2 .nil)))) ⟨Has.pure (⟨by dsimp only;omega,bufs_no hinv6.2 (dG hx5) (show lN (polsL x4.sides.list) c.vars=true by assumption) (show-1≤x4.input by omega) (show x4.input<0 by omega)⟩),trivial⟩ (bH.drop 3)
 have hc43:=Int.not_lt.1 (of_decide_eq_false hc43);refine cS<|bZ<|bZ<|cR<|bE<|bF<|sr<|sp hT ?_;refine ss (ldO hT (yQ kT3)) ?_;refine sp2 hT ?_;refine nn<|bQ ?_;obtain⟨hmf,hr1⟩:=bufs_end hinv6.2 (by show(pV c.bufs.list).length≤i;rw [cT];omega);have hml2:made.length=c.bufs.list.length:=by rw [hmf,pP];exact cT _
 rw [hml2];refine dH (ι:=Nat×List Bool×Int×Int) [(1,_),(4,_),(93,_),(94,_)] ⟨rfl,rfl,rfl,rfl,trivial⟩ (fun⟨k,made,lo,bu⟩=>[(95,.int .i64 (k:Nat))]) (fun⟨k,made,lo,bu⟩=>[.obj b3 (.cells [.int .i64 c.vars,.int .i64 lo,.int .i64 bu,.slice MA c.bufs.list.length mc].toArray 115),iO.row (.slice MA c.bufs.list.length mc) 4 made]) (fun⟨k,made,lo,bu⟩=>[bI.pure (k≤c.steps.list.length∧tG c.c k made r)]) (fun⟨k,made,lo,bu⟩=>c.steps.list.length-k) (0,made,0,0) ⟨rfl,trivial⟩ (.cons kT1 (.cons kT1 .nil)) ⟨Has.pure (⟨by omega,steps_start hmf hr1⟩),trivial⟩ ?_;rintro⟨k,made,lo,bu⟩;dsimp only;refine bX (Has.of mT0) fun hinv15=>?_;have hml3:made.length=c.bufs.list.length:=by rw [hinv15.2.1];exact cT _
 refine sr<|sp hT ?_;refine nn<|bF<|bO rfl (fun hc96=>?_) (fun hc96=>?_)
 ·have hc96:=of_decide_eq_true hc96;refine bM<|bE<|bF<|bQ<|sr<|cC (zQ.sl (.slice c.steps.addr c.steps.list.length c.steps.cap) c.steps.list) (wN (qU (Has.of mT2))) ?_
  obtain⟨x23,hx24⟩: ∃x',c.steps.list[k]?=some x':=⟨_,List.getElem?_eq_getElem (by omega)⟩
  refine ss (bG hT (k:=k) (bC (Has.of mT0)) rfl rfl rfl rfl rfl rfl rfl (by omega)) ?_;refine ss (cL hT (bV.knows (bC (Has.of mT0)) (k:=k) (x:=x23) hx24 0) rfl rfl rfl rfl rfl) ?_;refine fC rfl rfl rfl rfl qH rfl fun b25=>?_;refine sto hT .head ?_;refine nn<|bF<|bF<|cC (sC x23) (Has.each (bCw (qU (Has.of mT3))) (List.mem_of_getElem? hx24)) ?_;refine bD<|sp hT ?_;refine ss (ldO hT (fF .head)) ?_;refine sp2 hT ?_;refine cA (fun hg102=>?_) (fun hg102=>?_)
  ·have hg102:=of_decide_eq_true hg102;refine sk4 ?_;refine sk2 ?_;refine sp2 hT ?_;refine sk4 ?_;refine sk4 ?_;refine sp2 hT ?_;refine sk4 ?_;refine sp hT ?_;refine nn<|cW rfl rfl ?_;refine sr<|sp hT ?_;refine nn<|bK<|bN<|bW<|bN<|bN<|bW<|bN ?_;have hr:=tP hinv15.2 (gS hx24) (by first | exact .inl (by show x23.buf<0;omega) | exact .inr (.inl (by show((pV c.bufs.list).length:Int)≤x23.buf;rw [cT];omega)) | exact .inr (.inr (.inl ⟨_,dG ‹_›,by show 0≤jV.input _;omega⟩)) | exact .inr (.inr (.inr (show nF c.vars made (gQ.c _)=false by assumption))));subst hr;exact bL () rfl (rv_tmp rfl) .nil trivial rfl
  have hg102:=Int.not_lt.1 (of_decide_eq_false hg102);refine sp hT ?_;refine ss (ldO hT (fF .head)) ?_;refine sp hT ?_;refine ss (ldO hT (fF kT4)) ?_;refine sp4 hT ?_;refine cA (fun hg110=>?_) (fun hg110=>?_)
  ·have hg110:=of_decide_eq_true hg110;refine sk4 ?_;refine sk4 ?_;refine sp2 hT ?_;refine sk4 ?_;refine sp hT ?_;refine nn<|cW rfl rfl ?_;refine sr<|sp hT ?_;refine nn<|bK<|bN<|bW<|bN<|bN<|bW<|bN ?_;have hr:=tP hinv15.2 (gS hx24) (by first | exact .inl (by show x23.buf<0;omega) | exact .inr (.inl (by show((pV c.bufs.list).length:Int)≤x23.buf;rw [cT];omega)) | exact .inr (.inr (.inl ⟨_,dG ‹_›,by show 0≤jV.input _;omega⟩)) | exact .inr (.inr (.inr (show nF c.vars made (gQ.c _)=false by assumption))));subst hr;exact bL () rfl (rv_tmp rfl) .nil trivial rfl
  have hg110:=Int.not_le.1 (of_decide_eq_false hg110);refine sp hT ?_;refine ss (ldO hT (fF kT4)) ?_;refine sp hT ?_;refine ss (ldO hT (fF .head)) ?_;refine cC (bAf.sl (.slice c.bufs.addr c.bufs.list.length c.bufs.cap) c.bufs.list) (oW (jR (Has.of mT4))) ?_
  obtain⟨x26,hx27⟩: ∃x',c.bufs.list[x23.buf.toNat]?=some x':=⟨_,List.getElem?_eq_getElem (by omega)⟩
  refine ss (bG hT (k:=x23.buf.toNat) (bC (Has.of mT0)) rfl rfl rfl rfl rfl rfl (by omega) (by omega)) ?_;refine sp hT ?_;refine ss (bR hT (bV.knows (bC (Has.of mT0)) (k:=x23.buf.toNat) (x:=x26) hx27 1) rfl rfl rfl rfl rfl) ?_;refine sp3 hT ?_;refine cA (fun hg120=>?_) (fun hg120=>?_)
  ·have hg120:=of_decide_eq_true hg120;refine sk4 ?_;refine sp hT ?_;refine nn<|cW rfl rfl ?_;refine sr<|sp hT ?_;refine nn<|bK<|bN<|bW<|bN<|bN<|bW<|bN ?_;have hr:=tP hinv15.2 (gS hx24) (by first | exact .inl (by show x23.buf<0;omega) | exact .inr (.inl (by show((pV c.bufs.list).length:Int)≤x23.buf;rw [cT];omega)) | exact .inr (.inr (.inl ⟨_,dG ‹_›,by show 0≤jV.input _;omega⟩)) | exact .inr (.inr (.inr (show nF c.vars made (gQ.c _)=false by assumption))));subst hr;exact bL () rfl (rv_tmp rfl) .nil trivial rfl
  have hg120:=Int.not_le.1 (of_decide_eq_false hg120);refine sp hT ?_;refine ss (ldN hT (dC .head)) ?_;refine fP (bP Tryz.func53 rfl rfl) (step_specM hml3 b3 c.vars lo bu MA mc x23) rfl rfl rfl rfl rfl (.cons kT1 .nil) (.cons kT1 .nil) (pX iW) ⟨Has.of mT2,Has.of mT0,trivial⟩ (fun _=>True) (fun _ _ _ _=>trivial) fun y28 _=>?_;refine sp2 hT ?_;refine nn<|bO rfl (fun hc125=>?_) (fun hc125=>?_)
  ·have hc125:=kG hc125;refine sr<|sp hT ?_;refine nn<|bK<|bN<|bW<|bN<|bN<|bW<|bN ?_;have hr:=tP hinv15.2 (gS hx24) (by first | exact .inl (by show x23.buf<0;omega) | exact .inr (.inl (by show((pV c.bufs.list).length:Int)≤x23.buf;rw [cT];omega)) | exact .inr (.inr (.inl ⟨_,dG ‹_›,by show 0≤jV.input _;omega⟩)) | exact .inr (.inr (.inr (show nF c.vars made (gQ.c _)=false by assumption))));subst hr;exact bL () rfl (rv_tmp rfl) .nil trivial rfl
  have hc125:=kD hc125;refine bM<|bE<|nS 7 _ _ [(true,0),(true,1),(true,2),(true,3),(true,4),(true,5),(true,6)] fH (by decide+kernel) (.cons .head (.cons .head (.cons .head (.cons .head (.cons .head .nil))))) bH.self ?_;refine puL hT ?_;refine puL hT ?_;refine puL hT ?_;refine stL rfl (ldO hT (nY .head)) ?_;refine puL hT ?_;refine stL rfl (ldO hT (fF kT1)) ?_
  obtain⟨x29,hx30⟩: ∃x',made[x23.buf.toNat]?=some x':=⟨_,List.getElem?_eq_getElem (by omega)⟩
  refine stL rfl (bG hT (k:=x23.buf.toNat) (cE kT2) rfl rfl rfl rfl rfl hml3.symm (by omega) (by omega)) ?_;refine iQ (o:=_) rfl ?_;refine cK hT (k:=x23.buf.toNat) (fo:=0) (y':=true) kT2 rfl rfl rfl rfl rfl rfl rfl rfl rfl hx30 rfl ?_;refine kJ<|bU<|bE<|bD<|sp hT ?_;refine bT (z':=(((k+1):Nat):Int)) (cO (by omega) (by omega)) ?_;refine sp hT ?_;refine nn ?_;exact cG (k+1,made.set x23.buf.toNat true,y28.1,y28.2) (by dsimp only;omega) ⟨rfl,trivial⟩ ⟨rfl,rfl,rfl,rfl,trivial⟩ (.cons kT1 (.cons .head (.cons kT1 (.cons kT1 .nil)))) ⟨Has.pure (⟨by dsimp only;omega,steps_ok hinv15.2 (gS hx24) (show 0≤x23.buf by omega) (dG hx27) (show jV.input _<0 by omega) (show nF c.vars made x23.c=true by assumption)⟩),trivial⟩ (bH.drop 4)
 have hc96:=Int.not_lt.1 (of_decide_eq_false hc96);refine cS<|bZ<|bZ<|cR<|bE<|sr<|sp hT ?_;refine ss (ldO hT (nY kT3)) ?_;refine sp hT ?_;refine cC (gC.sl (.slice c.outs.addr c.outs.list.length c.outs.cap) c.outs.list) (outsF_s (coreF_o (Has.of mT2))) ?_;refine fP (bP Tryz.func54 rfl rfl) (bAi c.outs.addr c.outs.cap c.outs.list (by omega) 55 [.pointer (some ⟨b1,0,none⟩)] [bI.cells b1 0 [.int .i64 c.vars,.slice c.bufs.addr c.bufs.list.length c.bufs.cap,.slice c.steps.addr c.steps.list.length c.steps.cap,.slice c.outs.addr c.outs.list.length c.outs.cap]] (outB c.bufs.list.length) (bP Tryz.func55 rfl rfl) (fun k=>right1_spec b1 c k)) rfl rfl rfl rfl rfl .nil (.cons kT3 .nil) (kN iW) ⟨Has.of mT1,Has.of mT0,trivial⟩ (fun _=>True) (fun _ _ _ _=>trivial) fun _ _=>?_;refine sp2 hT ?_;refine nn<|bK ?_;have hr:=steps_end hinv15.2 (by show(uR c.steps.list).length≤k;rw [iJ];omega);subst hr;exact bL () rfl (rv_tmp rfl) .nil trivial (congrArg Value.bool (outs_all (cT _)))
set_option maxRecDepth 100000
set_option maxHeartbeats 1000000 in
theorem bHr(a b:Mono)(w:World):
  Calls Tryz.prog 185 #[.agg #[.int .i64 a.n,.int .u8 a.e0.toNat,.int .u8 a.e1.toNat,.int .u8 a.e2.toNat,.int .u8 a.e3.toNat,.int .u8 a.e4.toNat,.int .u8 a.e5.toNat],.agg #[.int .i64 b.n,.int .u8 b.e0.toNat,.int .u8 b.e1.toNat,.int .u8 b.e2.toNat,.int .u8 b.e3.toNat,.int .u8 b.e4.toNat,.int .u8 b.e5.toNat]] w fun e w'=>e= .returned (.int .i64 (uF a b))∧Below w.heap.size w w':=by
 go_enter Tryz.func185,Tryz.ntmps185
 go_wp2
 refine wp_loop_rounds 7 ?_
 repeat any_goals (first | (rw [rounds_succ];go_wp2) | (go_quiet (fail);go_wp2))
 all_goals go_ret
 all_goals refine⟨tL ?_,?_⟩
 all_goals first | ((repeat refine zW ?_ _);go_grown;done) | (go_light;simp [uF,Mono.E,sJ, *];done) | (go_light;simp [uF,Mono.E,sJ, *];rfl)
end Go.Proofs.YtofjmphlpdhohaaGreatDoor
namespace Go.Proofs.YtofjmphlpdhohaaGreatDoor
open Go.RowKit
set_option maxRecDepth 100000
theorem cmp_flip: ∀(l m:List UInt8),(Lib.compareBytes l m=1↔Lib.compareBytes m l<0)∧(Lib.compareBytes l m=0↔Lib.compareBytes m l=0)
 | [],[]=>by simp [Lib.compareBytes]
 | [],_::_=>by simp [Lib.compareBytes]
 | _::_,[]=>by simp [Lib.compareBytes]
 | a::l,b::m=>by
  have ih:=cmp_flip l m;rw [sJ,sJ]
  by_cases h1:b.toNat<a.toNat
  ·rw [if_pos h1,if_neg (by omega),if_pos h1];simp
  ·rw [if_neg h1]
   by_cases h2:a.toNat<b.toNat
   ·rw [if_pos h2,if_pos h2];simp
   ·rw [if_neg h2,if_neg h2,if_neg h1];exact ih
theorem bGd(a b:Mono):uF a b=1↔ord a b<0:=(cmp_flip _ _).1
theorem small_not{m:Mono}(h:fZ m=false):(m.n==0)=true∨((m.n==0)=false∧decide (16777216<m.n)=true)∨((m.n==0)=false∧decide (16777216<m.n)=false∧decide (m.n< -16777216)=true)∨
  ((m.n==0)=false∧decide (16777216<m.n)=false∧decide (m.n< -16777216)=false∧decide (8<(m.deg:Int))=true):=by
 have h': ¬(m.n≠0∧m.n≤16777216∧ -16777216≤m.n∧m.deg≤8):=of_decide_eq_false h;simp only [beq_iff_eq,beq_eq_false_iff_ne,decide_eq_true_eq,decide_eq_false_iff_not];omega
theorem small_all{m:Mono}(h:fZ m=true):(m.n==0)=false∧decide (16777216<m.n)=false∧decide (m.n< -16777216)=false∧decide (8<(m.deg:Int))=false:=by
 have h':m.n≠0∧m.n≤16777216∧ -16777216≤m.n∧m.deg≤8:=of_decide_eq_true h;simp only [beq_eq_false_iff_ne,decide_eq_false_iff_not];omega
set_option maxRecDepth 100000 in
set_option maxHeartbeats 1000000 in
theorem nR(A:Option Addr)(c:Nat)(xs:List Mono)(w:World)(ha:gZ w A xs)(hx:xs.length≤140737488355328):
  Calls Tryz.prog 123 #[.slice A xs.length c] w fun e w'=>e= .returned (.bool (cH xs))∧Below w.heap.size w w':=by
 by_cases hl:xs.length≤48
 ·have hl1:decide ((48:Int)<(xs.length:Int))=false:=by simp;omega
  have Ha:=Lib.hid ha;clear ha
  go_enter Tryz.func123,Tryz.ntmps123
  go_wp2
  go_loopw [3] (fun i wr=> ∃k:Nat,k≤xs.length∧i= .int .i64 k∧Hid (cH xs=dL (if k=0 then none else xs[k-1]?) (xs.drop k))∧Below w.heap.size w wr) (fun i _=>xs.length-(intOf i).toNat)
  case atStart=>exact⟨0,Nat.zero_le _,rfl,by show _=_;simp [cH,hl],Below.refl _ _⟩
  case round=>
   obtain⟨k,hk,rfl,hs,hbl⟩:=hrel
   by_cases hlt:k<xs.length
   ·obtain⟨m,hm,dm⟩:=kO hlt;obtain⟨b,o,rfl,hB,c0,c1,c2,c3,c4,c5,c6⟩:=Ha.out.below hbl k m hm;have HN:=Lib.hid (show fZ m=false→cH xs=false by intro hsb;rw [hs.out,dm];split<;>(try cases xs[k-1]?)<;>simp [dL,hsb]);have HM:=Lib.hid hm;have HD:=Lib.hid dm;cases hsb:fZ m
    ·have HN':=Lib.hid (HN.out hsb);have HBL:=Lib.hid hbl;clear dm hm hbl hB HN hs HM HD
     rcases small_not hsb with t0 | ⟨t0,t1⟩ | ⟨t0,t1,t2⟩ | ⟨t0,t1,t2,t3⟩
     all_goals go_wp2_with (go_at_call 184;refine(bBy m _).mono ?_;rintro e w1 ⟨rfl,hb1⟩)
     all_goals go_ret
     all_goals refine⟨jH HN'.out.symm,?_⟩
     all_goals first | exact HBL.out | exact HBL.out.trans (hb1.mono HBL.out.size)
    ·obtain⟨t0,t1,t2,t3⟩:=small_all hsb;have HC:=Lib.hid (Ha.out.below hbl k m hm);have HBL:=Lib.hid hbl;clear dm hm hbl hB HN
     go_wp2_with (go_at_call 184;refine(bBy m _).mono ?_;rintro e w1 ⟨rfl,hb1⟩)
     clear c0 c1 c2 c3 c4 c5 c6 t0 t1 t2 t3;have HB1:=Lib.hid (show Below w.heap.size w w1 from HBL.out.trans (hb1.mono HBL.out.size));clear hb1 HBL HC
     rcases Nat.eq_zero_or_pos k with hk0 | hk0
     ·have hk1:decide (0<k)=false:=by simp;omega
      have HS:=Lib.hid (show cH xs=dL (if k+1=0 then none else xs[k+1-1]?) (xs.drop (k+1)) by rw [hs.out,HD.out,if_pos hk0,if_neg (by omega),show k+1-1=k from rfl,HM.out];simp [dL,hsb]);clear hs hk0 HM HD;refine jF (by kernel_rfl) (by kernel_rfl) ?_
      repeat (go_big_quiet_step (fail))
      refine wpQuiet_nil ?_;rintro _ ⟨x,rfl⟩
      go_wp2
      go_roundw
      case rel=>exact⟨k+1,by omega,by go_num,HS,HB1.out.trans (x.h.mono HB1.out.size)⟩
      case measure=>simp [intOf];omega
     ·have hk1:decide (0<k)=true:=by simp;omega
      obtain⟨j,rfl⟩: ∃j,k=j+1:=⟨k-1,by omega⟩
      obtain⟨q,hq⟩: ∃q,xs[j]?=some q:=⟨xs[j]'(by omega),List.getElem?_eq_getElem _⟩
      have HS:=Lib.hid (show cH xs=(decide (ord q m<0)&&dL (some m) (xs.drop (j+1+1))) by rw [hs.out,HD.out,if_neg (by omega),show j+1-1=j from rfl,hq];simp [dL,hsb])
      have p0:dK w1 b (o+j*7) q∧dK w1 b (o+(j+1)*7) m:=by
       obtain⟨b1,o1,e1,hB1,hm1⟩:=Ha.out.below HB1.out j q hq;obtain⟨b2,o2,e2,hB2,hm2⟩:=Ha.out.below HB1.out (j+1) m HM.out;injection e1 with e1
       injection e1 with e1 e1'
       injection e2 with e2
       injection e2 with e2 e2'
       subst e1 e1' e2 e2';exact⟨hm1,hm2⟩
      obtain⟨r0,r1,r2,r3,r4,r5,r6⟩:=p0.2.later;obtain⟨s0,s1,s2,s3,s4,s5,s6⟩:=p0.1.later;clear hs hk0 hq p0;have Hor:=Lib.hid (fI.calls (W0:=w1) fun W _=>bHr q m W);refine jF (by kernel_rfl) (by kernel_rfl) ?_
      repeat (go_big_quiet_step ((go_at_call 185;exact Hor.out _)))
      refine wpQuiet_nil ?_;rintro _ ⟨x,rfl⟩;clear r0 r1 r2 r3 r4 r5 r6 s0 s1 s2 s3 s4 s5 s6 Hor;have HBX:=Lib.hid (show Below w.heap.size w x.w from HB1.out.trans (x.h.mono HB1.out.size));clear HB1
      by_cases ho:ord q m<0
      ·have ho1:(uF q m !=1)=false:=by simp [(bGd q m).2 ho]
       go_wp2
       go_roundw
       case rel=>exact⟨j+1+1,by omega,by go_num,(by show _=_;rw [HS.out,if_neg (by omega),show j+1+1-1=j+1 from rfl,HM.out];simp [ho]),HBX.out⟩
       case measure=>simp [intOf];omega
      ·have ho1:(uF q m !=1)=true:=by rw [bne_iff_ne];intro h;exact ho ((bGd q m).1 h)
       go_wp2
       go_ret
       exact⟨jH (by rw [HS.out,decide_eq_false (by omega),Bool.false_and]),HBX.out⟩
   ·have hk':k=xs.length:=by omega
    go_wp2
    go_ret
    refine⟨jH ?_,hbl⟩;rw [hs.out,List.drop_of_length_le (by omega)];split<;>(try cases xs[k-1]?)<;>simp [dL]
 ·have hl1:decide ((48:Int)<(xs.length:Int))=true:=by simp;omega
  go_enter Tryz.func123,Tryz.ntmps123
  go_wp2
  go_ret
  exact⟨jH (by simp [cH,hl]),Below.refl _ _⟩
end Go.Proofs.YtofjmphlpdhohaaGreatDoor
namespace Go.Proofs.YtofjmphlpdhohaaGreatDoor
open Go.RowKit
set_option maxRecDepth 100000
end Go.Proofs.YtofjmphlpdhohaaGreatDoor
