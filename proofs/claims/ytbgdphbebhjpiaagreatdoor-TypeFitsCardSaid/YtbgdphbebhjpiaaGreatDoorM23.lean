/- Texts of one proof, one behind the other: RefRight, RefEval, R6T, TysF, TypeFitsW. -/
import Derived.Test.YtbgdphbebhjpiaaGreatDoorM22
import Derived.Test.YtbgdphbebhjpiaaGreatDoorM17
import Derived.Test.YtbgdphbebhjpiaaGreatDoorM18
import Derived.Test.YtbgdphbebhjpiaaGreatDoorM16
namespace Go.Proofs.YtbgdphbebhjpiaaGreatDoor
open Go.RowKit
set_option maxRecDepth 100000
theorem cmp_flip: ∀(l m:List UInt8),(Lib.compareBytes l m=1↔Lib.compareBytes m l<0)∧(Lib.compareBytes l m=0↔Lib.compareBytes m l=0)
 | [],[]=>by simp [Lib.compareBytes]
 | [],_::_=>by simp [Lib.compareBytes]
 | _::_,[]=>by simp [Lib.compareBytes]
 | a::l,b::m=>by
  have ih:=cmp_flip l m;rw [wI,wI]
  by_cases h1:b.toNat<a.toNat
  ·rw [if_pos h1,if_neg (by omega),if_pos h1];simp
  ·rw [if_neg h1]
   by_cases h2:a.toNat<b.toNat
   ·rw [if_pos h2,if_pos h2];simp
   ·rw [if_neg h2,if_neg h2,if_neg h1];exact ih
theorem bMm(a b:Mono):bLg a b=1↔ord a b<0:=(cmp_flip _ _).1
theorem small_not{m:Mono}(h:mG m=false):(m.n==0)=true∨((m.n==0)=false∧decide (16777216<m.n)=true)∨((m.n==0)=false∧decide (16777216<m.n)=false∧decide (m.n< -16777216)=true)∨
  ((m.n==0)=false∧decide (16777216<m.n)=false∧decide (m.n< -16777216)=false∧decide (8<(m.deg:Int))=true):=by
 have h': ¬(m.n≠0∧m.n≤16777216∧ -16777216≤m.n∧m.deg≤8):=of_decide_eq_false h;simp only [beq_iff_eq,beq_eq_false_iff_ne,decide_eq_true_eq,decide_eq_false_iff_not];omega
theorem small_all{m:Mono}(h:mG m=true):(m.n==0)=false∧decide (16777216<m.n)=false∧decide (m.n< -16777216)=false∧decide (8<(m.deg:Int))=false:=by
 have h':m.n≠0∧m.n≤16777216∧ -16777216≤m.n∧m.deg≤8:=of_decide_eq_true h;simp only [beq_eq_false_iff_ne,decide_eq_false_iff_not];omega
set_option maxRecDepth 100000 in
set_option maxHeartbeats 1000000 in
theorem refRight_any(A:Option Addr)(c:Nat)(xs:List Mono)(w:World)(ha:iV w A xs)(hx:xs.length≤140737488355328):
  Calls Tryz.prog 102 #[.slice A xs.length c] w fun e w'=>e= .returned (.bool (dR xs))∧Below w.heap.size w w':=by
 by_cases hl:xs.length≤48
 ·have hl1:decide ((48:Int)<(xs.length:Int))=false:=by simp;omega
  have Ha:=Lib.hid ha;clear ha
  go_enter Tryz.func102,Tryz.ntmps102
  go_wp2
  go_loopw [3] (fun i wr=> ∃k:Nat,k≤xs.length∧i= .int .i64 k∧Hid (dR xs=fZ (if k=0 then none else xs[k-1]?) (xs.drop k))∧Below w.heap.size w wr) (fun i _=>xs.length-(intOf i).toNat)
  case atStart=>exact⟨0,Nat.zero_le _,rfl,by show _=_;simp [dR,hl],Below.refl _ _⟩
  case round=>
   obtain⟨k,hk,rfl,hs,hbl⟩:=hrel
   by_cases hlt:k<xs.length
   ·obtain⟨m,hm,dm⟩:=jV hlt;obtain⟨b,o,rfl,hB,c0,c1,c2,c3,c4,c5,c6⟩:=Ha.out.below hbl k m hm;have HN:=Lib.hid (show mG m=false→dR xs=false by intro hsb;rw [hs.out,dm];split<;>(try cases xs[k-1]?)<;>simp [fZ,hsb]);have HM:=Lib.hid hm;have HD:=Lib.hid dm;cases hsb:mG m
    ·have HN':=Lib.hid (HN.out hsb);have HBL:=Lib.hid hbl;clear dm hm hbl hB HN hs HM HD
     rcases small_not hsb with t0 | ⟨t0,t1⟩ | ⟨t0,t1,t2⟩ | ⟨t0,t1,t2,t3⟩
     all_goals go_wp2_with (go_at_call 170;refine(bGx m _).mono ?_;rintro e w1 ⟨rfl,hb1⟩)
     all_goals go_ret
     all_goals refine⟨gU HN'.out.symm,?_⟩
     all_goals first | exact HBL.out | exact HBL.out.trans (hb1.mono HBL.out.size)
    ·obtain⟨t0,t1,t2,t3⟩:=small_all hsb;have HC:=Lib.hid (Ha.out.below hbl k m hm);have HBL:=Lib.hid hbl;clear dm hm hbl hB HN
     go_wp2_with (go_at_call 170;refine(bGx m _).mono ?_;rintro e w1 ⟨rfl,hb1⟩)
     clear c0 c1 c2 c3 c4 c5 c6 t0 t1 t2 t3;have HB1:=Lib.hid (show Below w.heap.size w w1 from HBL.out.trans (hb1.mono HBL.out.size));clear hb1 HBL HC
     rcases Nat.eq_zero_or_pos k with hk0 | hk0
     ·have hk1:decide (0<k)=false:=by simp;omega
      have HS:=Lib.hid (show dR xs=fZ (if k+1=0 then none else xs[k+1-1]?) (xs.drop (k+1)) by rw [hs.out,HD.out,if_pos hk0,if_neg (by omega),show k+1-1=k from rfl,HM.out];simp [fZ,hsb]);clear hs hk0 HM HD;refine kN (by kernel_rfl) (by kernel_rfl) ?_
      repeat (go_big_quiet_step (fail))
      refine wpQuiet_nil ?_;rintro _ ⟨x,rfl⟩
      go_wp2
      go_roundw
      case rel=>exact⟨k+1,by omega,by go_num,HS,HB1.out.trans (x.h.mono HB1.out.size)⟩
      case measure=>simp [intOf];omega
     ·have hk1:decide (0<k)=true:=by simp;omega
      obtain⟨j,rfl⟩: ∃j,k=j+1:=⟨k-1,by omega⟩
      obtain⟨q,hq⟩: ∃q,xs[j]?=some q:=⟨xs[j]'(by omega),List.getElem?_eq_getElem _⟩
      have HS:=Lib.hid (show dR xs=(decide (ord q m<0)&&fZ (some m) (xs.drop (j+1+1))) by rw [hs.out,HD.out,if_neg (by omega),show j+1-1=j from rfl,hq];simp [fZ,hsb])
      have p0:fQ w1 b (o+j*7) q∧fQ w1 b (o+(j+1)*7) m:=by
       obtain⟨b1,o1,e1,hB1,hm1⟩:=Ha.out.below HB1.out j q hq;obtain⟨b2,o2,e2,hB2,hm2⟩:=Ha.out.below HB1.out (j+1) m HM.out;injection e1 with e1
       injection e1 with e1 e1'
       injection e2 with e2
       injection e2 with e2 e2'
       subst e1 e1' e2 e2';exact⟨hm1,hm2⟩
      obtain⟨r0,r1,r2,r3,r4,r5,r6⟩:=p0.2.later;obtain⟨s0,s1,s2,s3,s4,s5,s6⟩:=p0.1.later;clear hs hk0 hq p0;have Hor:=Lib.hid (gK.calls (W0:=w1) fun W _=>above_any q m W);refine kN (by kernel_rfl) (by kernel_rfl) ?_
      repeat (go_big_quiet_step ((go_at_call 171;exact Hor.out _)))
      refine wpQuiet_nil ?_;rintro _ ⟨x,rfl⟩;clear r0 r1 r2 r3 r4 r5 r6 s0 s1 s2 s3 s4 s5 s6 Hor;have HBX:=Lib.hid (show Below w.heap.size w x.w from HB1.out.trans (x.h.mono HB1.out.size));clear HB1
      by_cases ho:ord q m<0
      ·have ho1:(bLg q m !=1)=false:=by simp [(bMm q m).2 ho]
       go_wp2
       go_roundw
       case rel=>exact⟨j+1+1,by omega,by go_num,(by show _=_;rw [HS.out,if_neg (by omega),show j+1+1-1=j+1 from rfl,HM.out];simp [ho]),HBX.out⟩
       case measure=>simp [intOf];omega
      ·have ho1:(bLg q m !=1)=true:=by rw [bne_iff_ne];intro h;exact ho ((bMm q m).1 h)
       go_wp2
       go_ret
       exact⟨gU (by rw [HS.out,decide_eq_false (by omega),Bool.false_and]),HBX.out⟩
   ·have hk':k=xs.length:=by omega
    go_wp2
    go_ret
    refine⟨gU ?_,hbl⟩;rw [hs.out,List.drop_of_length_le (by omega)];split<;>(try cases xs[k-1]?)<;>simp [fZ]
 ·have hl1:decide ((48:Int)<(xs.length:Int))=true:=by simp;omega
  go_enter Tryz.func102,Tryz.ntmps102
  go_wp2
  go_ret
  exact⟨gU (by simp [dR,hl]),Below.refl _ _⟩
end Go.Proofs.YtbgdphbebhjpiaaGreatDoor
namespace Go.Proofs.YtbgdphbebhjpiaaGreatDoor
open Go.RowKit
set_option maxRecDepth 100000
set_option maxHeartbeats 400000 in
theorem bHu(B:Option Addr)(d:Nat)(ds:List Int)(k:Nat)(w:World)(hb:Ints w B ds):
  Calls Tryz.prog 172 #[.slice B ds.length d,.int .i64 k] w fun e w'=>e= .returned (.int .i64 (dU ds k))∧w=w':=by
 by_cases hlt:k<ds.length
 ·obtain⟨x,hx⟩: ∃x,ds[k]?=some x:=⟨ds[k],List.getElem?_eq_getElem hlt⟩
  obtain⟨b,o,rfl,_,hc⟩:=hb k x hx;have HX:=Lib.hid (show dU ds k=x by unfold dU;rw [List.getD_eq_getElem?_getD,hx];rfl);clear hb hx
  go_enter Tryz.func172,Tryz.ntmps172
  go_wp2
  go_ret
  exact⟨wX HX.out.symm,rfl⟩
 ·have HX:=Lib.hid (show dU ds k=0 by unfold dU;rw [List.getD_eq_getElem?_getD,List.getElem?_eq_none (by omega)];rfl);clear hb
  go_enter Tryz.func172,Tryz.ntmps172
  go_wp2
  go_ret
  exact⟨wX HX.out.symm,rfl⟩
def pJ (m:Mono)(D:Nat→Int):Int:=if (fG m D).2 then (fG m D).1 else jM+1
theorem ex_cell{w:World}{b:Nat}{m:Mono}(h:fQ w b 0 m)(k:Nat)(hk:k<6):w.cell? ⟨b,1+k,none⟩=some (.int .u8 ((m.ex k).toNat:Int)):=by
 obtain⟨_,h1,h2,h3,h4,h5,h6⟩:=h.zero
 rcases k with _ | _ | _ | _ | _ | _ | k
 ·exact h1
 ·exact h2
 ·exact h3
 ·exact h4
 ·exact h5
 ·exact h6
 ·omega
set_option maxRecDepth 100000 in
set_option maxHeartbeats 1000000 in
theorem size_any(B:Option Addr)(d:Nat)(ds:List Int)(m:Mono)(w:World)(hb:Ints w B ds)(hD: ∀k,0≤dU ds k∧dU ds k≤2147483648)(hn: -16777216≤m.n∧m.n≤16777216):
  Calls Tryz.prog 103 #[.agg #[.int .i64 m.n,.int .u8 m.e0.toNat,.int .u8 m.e1.toNat,.int .u8 m.e2.toNat,.int .u8 m.e3.toNat,.int .u8 m.e4.toNat,.int .u8 m.e5.toNat],.slice B ds.length d] w fun e w'=>e= .returned (.int .i64 (pJ m (dU ds)))∧Below w.heap.size w w':=by
 have HD:=Lib.hid hD;obtain⟨hn1,hn2⟩:=hn;have Hb:=Lib.hid hb;clear hD hb
 go_enter Tryz.func103,Tryz.ntmps103
 go_wp2
 all_goals
  have q0:fQ (w.alloc (.cells #[.int .i64 m.n,.int .u8 m.e0.toNat,.int .u8 m.e1.toNat,.int .u8 m.e2.toNat,.int .u8 m.e3.toNat,.int .u8 m.e4.toNat,.int .u8 m.e5.toNat] 74)) w.heap.size 0 m:=by simp [fQ,go_sem]
  have q2:Below w.heap.size w (w.alloc (.cells #[.int .i64 m.n,.int .u8 m.e0.toNat,.int .u8 m.e1.toNat,.int .u8 m.e2.toNat,.int .u8 m.e3.toNat,.int .u8 m.e4.toNat,.int .u8 m.e5.toNat] 74)):=by go_grown
  have Q0:=Lib.hid q0;have Q2:=Lib.hid q2;have Q3:=Lib.hid (Hb.out.below q2);clear q0 q2;generalize (w.alloc (.cells #[.int .i64 m.n,.int .u8 m.e0.toNat,.int .u8 m.e1.toNat,.int .u8 m.e2.toNat,.int .u8 m.e3.toNat,.int .u8 m.e4.toNat,.int .u8 m.e5.toNat] 74))=W0 at Q0 Q2 Q3⊢;generalize w.heap.size=X at Q0⊢
  go_loop [6] (fun i=> ∃k:Nat,k≤6∧i= .int .i64 k∧Hid (jD (fV m (dU ds))=jD ((fV m (dU ds)).drop k))) (fun i=>6-(intOf i).toNat)
  case atStart=>exact⟨0,Nat.zero_le _,rfl,rfl⟩
  case round=>
   obtain⟨k,hk,rfl,hz⟩:=hrel
   by_cases hlt:k<6
   ·have hc:=ex_cell Q0.out k hlt;have hp:=wF m (dU ds) k hlt;have HZ:=Lib.hid (show jD (fV m (dU ds))=((decide (0<(m.ex k).toNat)&&dU ds k==0) || jD ((fV m (dU ds)).drop (k+1))) by rw [hz.out,hp];rfl);clear hp hz
    by_cases he:0<(m.ex k).toNat
    ·have he1:decide (0<(m.ex k).toNat)=true:=by simpa using he
     by_cases hd:dU ds k=0
     ·have hd1:(dU ds k==0)=true:=by simpa using hd
      have HZ':=Lib.hid (show jD (fV m (dU ds))=true by rw [HZ.out,he1,hd1];rfl);clear hd HZ
      go_wp2_with (go_at_call 172;refine(bHu B d ds k _ Q3.out).mono ?_;rintro e w' ⟨rfl,rfl⟩)
      go_ret
      exact⟨wX (by unfold pJ fG;rw [HZ'.out];rfl),Q2.out⟩
     ·have hd1:(dU ds k==0)=false:=by simpa using hd
      have HZ':=Lib.hid (show jD (fV m (dU ds))=jD ((fV m (dU ds)).drop (k+1)) by rw [HZ.out,hd1,Bool.and_false,Bool.false_or]);clear hd HZ
      go_wp2_with (go_at_call 172;refine(bHu B d ds k _ Q3.out).mono ?_;rintro e w' ⟨rfl,rfl⟩)
      go_round
      case rel=>exact⟨k+1,by omega,by go_num,HZ'⟩
      case measure=>simp [intOf];omega
    ·have he1:decide (0<(m.ex k).toNat)=false:=by simpa using he
     have HZ':=Lib.hid (show jD (fV m (dU ds))=jD ((fV m (dU ds)).drop (k+1)) by rw [HZ.out,he1,Bool.false_and,Bool.false_or]);clear HZ
     go_wp2
     go_round
     case rel=>exact⟨k+1,by omega,by go_num,HZ'⟩
     case measure=>simp [intOf];omega
   ·have HZ:=Lib.hid (show jD (fV m (dU ds))=false by rw [hz.out,List.drop_of_length_le (by simp [fV];omega)];rfl);clear hz
    go_wp2
    go_loop [7,5] (fun i n=> ∃(k:Nat) (x:Int),k≤6∧i= .int .i64 k∧n= .int .i64 x∧InV x∧Hid (pX (fV m (dU ds)) (max m.n (-m.n))=pX ((fV m (dU ds)).drop k) x)) (fun i _=>6-(intOf i).toNat)
    case atStart=>exact⟨0,_,Nat.zero_le _,rfl,rfl,⟨by omega,by unfold jM;omega⟩,by show _=_;rw [List.drop_zero];try (congr 1;omega)⟩
    case round=>
     obtain⟨k2,x,hk2,rfl,rfl,hx,hmul⟩:=hrel;have HX:=Lib.hid hx;clear hx
     by_cases hlt2:k2<6
     ·have hc:=ex_cell Q0.out k2 hlt2;have HM:=Lib.hid (show pX (fV m (dU ds)) (max m.n (-m.n))=(vB (dU ds k2) (m.ex k2).toNat x).bind (pX ((fV m (dU ds)).drop (k2+1))) by rw [hmul.out,wF m (dU ds) k2 hlt2];rfl);have hd:=HD.out k2;obtain⟨hd0,hd1⟩:=hd;have hu:=(m.ex k2).toNat_lt;have HNZ:=Lib.hid (zero_not HZ.out k2 hlt2);have Hside:=Lib.hid (fun W h=>bHu B d ds k2 W h);clear hmul;generalize m.ex k2=ee at hc HM hu HNZ⊢
      go_wp2
      go_loop [8,5] (fun c n=> ∃(j:Nat) (y:Int),j≤ee.toNat∧c= .int .i64 j∧n= .int .i64 y∧InV y∧Hid (pX (fV m (dU ds)) (max m.n (-m.n))=(vB (dU ds k2) (ee.toNat-j) y).bind (pX ((fV m (dU ds)).drop (k2+1))))) (fun c _=>ee.toNat-(intOf c).toNat)
      case atStart=>exact⟨0,x,Nat.zero_le _,rfl,rfl,HX.out,HM⟩
      case round=>
       obtain⟨j,y,hj,rfl,rfl,hy,hpow⟩:=hrel;have HY:=Lib.hid hy;clear hy
       by_cases hlt3:j<ee.toNat
       ·have hd2:1≤dU ds k2:=by have:=HNZ.out (by omega);omega
        have HP:=Lib.hid (show(vB (dU ds k2) (ee.toNat-j) y)=if jM/dU ds k2<y then none else vB (dU ds k2) (ee.toNat-(j+1)) (y*dU ds k2) by rw [show ee.toNat-j=(ee.toNat-(j+1))+1 by omega,vB])
        by_cases hq:jM/dU ds k2<y
        ·have hq1:decide (4611686018427387904/dU ds k2<y)=true:=by simpa [jM] using hq
         go_wp2_with (go_at_call 172;refine(Hside.out _ Q3.out).mono ?_;rintro e w' ⟨rfl,rfl⟩)
         go_ret
         have e:fG m (dU ds)=(0,false):=by
          unfold fG;rw [HZ.out,hpow.out,HP.out,if_pos hq];rfl
         exact⟨wX (by unfold pJ;rw [e];rfl),Q2.out⟩
        ·have hq1:decide (4611686018427387904/dU ds k2<y)=false:=by simpa [jM] using hq
         have HY2:=Lib.hid (inV_mul HY.out hd2 hq);have hw:=wrap_inV HY2.out;have HP2:=Lib.hid (show pX (fV m (dU ds)) (max m.n (-m.n))=(vB (dU ds k2) (ee.toNat-(j+1)) (y*dU ds k2)).bind (pX ((fV m (dU ds)).drop (k2+1))) by rw [hpow.out,HP.out,if_neg hq]);clear HP hpow
         go_wp2_with (go_at_call 172;refine(Hside.out _ Q3.out).mono ?_;rintro e w' ⟨rfl,rfl⟩)
         go_round
         case rel=>exact⟨j+1,y*dU ds k2,by omega,by go_num,by first | rfl | rw [hw],HY2.out,HP2⟩
         case measure=>simp [intOf];omega
       ·have HP:=Lib.hid (show pX (fV m (dU ds)) (max m.n (-m.n))=pX ((fV m (dU ds)).drop (k2+1)) y by rw [hpow.out,show ee.toNat-j=0 by omega];rfl);clear hpow
        go_wp2
        go_round
        case rel=>exact⟨k2+1,y,by omega,by go_num,rfl,HY.out,HP⟩
        case measure=>simp [intOf];omega
     ·have e:fG m (dU ds)=(x,true):=by
       unfold fG;rw [HZ.out,hmul.out,List.drop_of_length_le (by simp [fV];omega)];rfl
      have He:=Lib.hid e;clear e hmul
      go_wp2
      go_ret
      exact⟨wX (by unfold pJ;rw [He.out];rfl),Q2.out⟩
theorem size_bd(m:Mono)(D:Nat→Int)(hD: ∀k,0≤D k):0≤pJ m D:=by
 unfold pJ;split
 ·exact bAt m D hD
 ·unfold jM;omega
theorem bMd{m:Mono}{D:Nat→Int}{size:Int}(h0:0≤size):((fG m D).2=false∨jM-size<(fG m D).1)↔jM-size<pJ m D:=by
 unfold pJ;cases (fG m D).2
 ·simp;omega
 ·simp
theorem sizeP_ok{m:Mono}{D:Nat→Int}{size:Int}(h0:0≤size)(h: ¬jM-size<pJ m D):(fG m D).1=pJ m D:=by
 unfold pJ at*;cases hv:(fG m D).2
 ·rw [hv] at h;simp at h;omega
 ·simp
set_option maxRecDepth 100000 in
set_option maxHeartbeats 1000000 in
theorem refEval_any(A B:Option Addr)(c d:Nat)(p:List Mono)(ds:List Int)(w:World)(ha:iV w A p)(hb:Ints w B ds)(hp:p.length≤140737488355328)(hq:ds.length≤140737488355328):
  Calls Tryz.prog 57 #[.slice A p.length c,.slice B ds.length d] w fun e w'=>e= .returned (.tuple #[.int .i64 (gM p ds).1,.int .i64 (gM p ds).2])∧Below w.heap.size w w':=by
 have Ha:=Lib.hid ha;have Hb:=Lib.hid hb;clear ha hb;cases hrp:dR p
 ·have e:gM p ds=(0,20):=by unfold gM;rw [hrp];rfl
  rw [e]
  go_enter Tryz.func57,Tryz.ntmps57
  go_wp2_with fail
  refine(refRight_any A c p _ Ha.out hp).mono ?_;rintro e w1 ⟨rfl,hb1⟩
  go_wp2
  go_ret2
  exact⟨rfl,hb1⟩
 ·by_cases h6:ds.length≤6
  ·have h61:decide ((6:Int)<(ds.length:Int))=false:=by simp;omega
   go_enter Tryz.func57,Tryz.ntmps57
   go_wp2_with fail
   refine(refRight_any A c p _ Ha.out hp).mono ?_;rintro e w1 ⟨rfl,hb1⟩;have H1:=Lib.hid hb1;clear hb1
   go_wp2
   go_loop [6] (fun i=> ∃k:Nat,k≤ds.length∧i= .int .i64 k∧Hid (ds.all jP=(ds.drop k).all jP)) (fun i=>ds.length-(intOf i).toNat)
   case atStart=>exact⟨0,Nat.zero_le _,rfl,rfl⟩
   case round=>
    obtain⟨k,hk,rfl,hall⟩:=hrel
    by_cases hlt:k<ds.length
    ·obtain⟨x,hx⟩: ∃x,ds[k]?=some x:=⟨ds[k],List.getElem?_eq_getElem hlt⟩
     have dm:ds.drop k=x::ds.drop (k+1):=by
      rw [List.drop_eq_getElem_cons hlt];have:=(List.getElem?_eq_some_iff.1 hx).2;rw [this]
     obtain⟨b,o,rfl,hB,c0⟩:=Hb.out.below H1.out k x hx;have HAll:=Lib.hid (show ds.all jP=(jP x&&(ds.drop (k+1)).all jP) by rw [hall.out,dm,List.all_cons]);clear dm hx hall hB;cases hs:jP x
     ·have e:gM p ds=(0,23):=by
       unfold gM;rw [hrp,show tK ds=false by unfold tK;rw [HAll.out,hs];simp];rfl
      have He:=Lib.hid e;clear e
      have hs':x<0∨2147483648<x:=by
       have:=of_decide_eq_false hs;omega
      rcases Int.lt_or_le x 0 with hx0 | hx0
      ·have t1:decide (x<0)=true:=by simpa using hx0
       go_wp2
       go_ret2
       rw [He.out];exact⟨rfl,H1.out⟩
      ·have t1:decide (x<0)=false:=by simpa using hx0
       have t2:decide (2147483648<x)=true:=by simp;omega
       go_wp2
       go_ret2
       rw [He.out];exact⟨rfl,H1.out⟩
     ·have hs':0≤x∧x≤2147483648:=of_decide_eq_true hs;have t1:decide (x<0)=false:=by simp;omega
      have t2:decide (2147483648<x)=false:=by simp;omega
      have HA2:=Lib.hid (show ds.all jP=(ds.drop (k+1)).all jP by rw [HAll.out,hs,Bool.true_and]);clear HAll hs'
      go_wp2
      go_round
      case rel=>exact⟨k+1,by omega,by go_num,HA2⟩
      case measure=>simp [intOf];omega
    ·have hall1:ds.all jP=true:=by rw [hall.out,List.drop_of_length_le (by omega)];rfl
     have HD:=Lib.hid (dimAt_ok hall1)
     have He:=Lib.hid (show gM p ds=match lA (dU ds) p 0 0 with | some n=>(n,0) | none=>(0,22) by
      unfold gM;rw [hrp,show tK ds=true by unfold tK;rw [hall1,decide_eq_true (by omega)];rfl]
      rfl)
     have HRP:=Lib.hid (show ∀m∈p,mG m=true by
      unfold dR at hrp;simp only [Bool.and_eq_true] at hrp
      exact pH hrp.2)
     clear hall hall1
     go_wp2
     go_loopw [9,7,8] (fun i lf sm wi=> ∃(j:Nat) (size sum:Int),j≤p.length∧i= .int .i64 j∧lf= .int .i64 (4611686018427387904-size)∧sm= .int .i64 sum∧Hid (0≤size∧size≤jM∧ -size≤sum∧sum≤size)∧Hid (lA (dU ds) p 0 0=lA (dU ds) (p.drop j) size sum)∧Below w.heap.size w wi) (fun i _ _ _=>p.length-(intOf i).toNat)
     case atStart=>exact⟨0,0,0,Nat.zero_le _,rfl,rfl,rfl,⟨by omega,by unfold jM;omega,by omega,by omega⟩,rfl,H1.out⟩
     case round=>
      obtain⟨j,size,sum,hj,rfl,rfl,rfl,hbd,hev,hbl⟩:=hrel;have HB2:=Lib.hid hbl;clear hbl
      by_cases hlt2:j<p.length
      ·obtain⟨m,hm,dm⟩:=jV hlt2;obtain⟨b,o,rfl,hB,c0,c1,c2,c3,c4,c5,c6⟩:=Ha.out.below HB2.out j m hm;have hsm:mG m=true:=HRP.out m (List.mem_of_getElem? hm);have hsm':m.n≠0∧m.n≤16777216∧ -16777216≤m.n∧m.deg≤8:=of_decide_eq_true hsm;have HV:=Lib.hid (size_bd m (dU ds) (fun k=>(HD.out k).1));obtain⟨g0,g1,g2,g3⟩:=hbd.out
       have HE:=Lib.hid (show lA (dU ds) p 0 0=if jM-size<pJ m (dU ds) then none
         else lA (dU ds) (p.drop (j+1)) (size+pJ m (dU ds)) (if m.n<0 then sum-pJ m (dU ds) else sum+pJ m (dU ds)) by
        rw [hev.out,dm,lA]
        by_cases hq:jM-size<pJ m (dU ds)
        ·rw [if_pos hq,if_pos ((bMd g0).2 hq)]
        ·rw [if_neg hq,if_neg (fun h=>hq ((bMd g0).1 h)),sizeP_ok g0 hq])
       have Hval:=Lib.hid (fun W (h:Ints W B ds)=>size_any B d ds m W h HD.out ⟨hsm'.2.2.1,hsm'.2.1⟩);have HM:=Lib.hid hm;clear hm dm hB hsm hsm' hev
       go_wp2_with fail
       refine(Hval.out _ (Hb.out.below HB2.out)).mono ?_;rintro e w5 ⟨rfl,hb5⟩;have HB5:=Lib.hid (HB2.out.trans (hb5.mono HB2.out.size));obtain⟨b2,o2,hA2,hB2,k0,_⟩:=Ha.out.below HB5.out j m HM.out;injection hA2 with hA2
       injection hA2 with hA2 hA3
       subst hA2 hA3;clear hb5 c0 c1 c2 c3 c4 c5 c6 Hval HB2 hB2 HM;generalize pJ m (dU ds)=n at HV HE⊢;have gn:0≤n:=HV.out;unfold jM at g1
       by_cases hq:jM-size<n
       ·have hq1:decide (4611686018427387904-size<n)=true:=by simpa [jM] using hq
        have e:gM p ds=(0,22):=by rw [He.out,HE.out,if_pos hq]
        have He2:=Lib.hid e;clear e HE hq
        go_wp2
        go_ret2
        rw [He2.out];exact⟨rfl,HB5.out⟩
       ·have hq1:decide (4611686018427387904-size<n)=false:=by simpa [jM] using hq
        have hq2:size+n≤4611686018427387904:=by unfold jM at hq;omega
        by_cases hneg:m.n<0
        ·have HE2:=Lib.hid (show lA (dU ds) p 0 0=lA (dU ds) (p.drop (j+1)) (size+n) (sum-n) by rw [HE.out,if_neg hq,if_pos hneg]);have hneg1:decide (m.n<0)=true:=by simpa using hneg
         clear HE hq
         go_wp2
         go_roundw
         case rel=>exact⟨j+1,size+n,sum-n,by omega,by go_num,by go_num,by go_num,⟨by omega,by unfold jM;omega,by omega,by omega⟩,HE2,HB5.out⟩
         case measure=>simp [intOf];omega
        ·have HE2:=Lib.hid (show lA (dU ds) p 0 0=lA (dU ds) (p.drop (j+1)) (size+n) (sum+n) by rw [HE.out,if_neg hq,if_neg hneg]);have hneg1:decide (m.n<0)=false:=by simpa using hneg
         clear HE hq
         go_wp2
         go_roundw
         case rel=>exact⟨j+1,size+n,sum+n,by omega,by go_num,by go_num,by go_num,⟨by omega,by unfold jM;omega,by omega,by omega⟩,HE2,HB5.out⟩
         case measure=>simp [intOf];omega
      ·have e:gM p ds=(sum,0):=by rw [He.out,hev.out,List.drop_of_length_le (by omega),lA]
       have He2:=Lib.hid e;clear e hev
       go_wp2
       go_ret2
       rw [He2.out];exact⟨rfl,HB2.out⟩
  ·have h61:decide ((6:Int)<(ds.length:Int))=true:=by simp;omega
   have e:gM p ds=(0,23):=by
    unfold gM;rw [hrp,show tK ds=false by unfold tK;rw [decide_eq_false h6];rfl];rfl
   rw [e]
   go_enter Tryz.func57,Tryz.ntmps57
   go_wp2_with fail
   refine(refRight_any A c p _ Ha.out hp).mono ?_;rintro e w1 ⟨rfl,hb1⟩
   go_wp2
   go_ret2
   exact⟨rfl,hb1⟩
end Go.Proofs.YtbgdphbebhjpiaaGreatDoor
namespace Go.Proofs.YtbgdphbebhjpiaaGreatDoor
open Go.RowKit
def bJb (l:List Int)(i:Nat)(n:Int):Prop:=(l.take i).any oF=false∧n=if (l.take i).contains 0=true then 0 else 1
theorem sz1_start(l:List Int):bJb l 0 1:=⟨rfl,rfl⟩
section
variable {l : List Int} {i : Nat} {n x : Int} {r : Int × Int}
theorem sz1_zero(h:bJb l i n)(hx:l[i]?=some x)(h0:x=0):bJb l (i+1) 0:=by
 obtain⟨hi,e⟩:=List.getElem?_eq_some_iff.1 hx;refine⟨?_,?_⟩
 ·rw [List.take_succ_eq_append_getElem hi,e,List.any_append,h.1,h0];rfl
 ·rw [List.take_succ_eq_append_getElem hi,e,h0,if_pos (by simp)]
theorem sz1_step(h:bJb l i n)(hx:l[i]?=some x)(h1: ¬x<0)(h2: ¬65536<x)(h0:x≠0):bJb l (i+1) n:=by
 obtain⟨hi,e⟩:=List.getElem?_eq_some_iff.1 hx;refine⟨?_,?_⟩
 ·rw [List.take_succ_eq_append_getElem hi,e,List.any_append,h.1];simp [oF,h1,h2]
 ·rw [h.2,List.take_succ_eq_append_getElem hi,e];have: ¬0=x:=fun k=>h0 k.symm;simp [this]
theorem sz1_bad(hx:l[i]?=some x)(h:x<0∨65536<x):mU l=(0,61):=by
 unfold mU;rw [if_pos (.inr (List.any_eq_true.2 ⟨x,List.mem_of_getElem? hx,by unfold oF;rcases h with h | h<;>simp [h]⟩))]
def bFt (l:List Int)(i:Nat)(n:Int)(r:Int×Int):Prop:=(n=0∧r=(0,0))∨(0<n∧n≤65536∧(∀s∈l,0<s∧s≤65536)∧r=pW (l.drop i) n)
theorem sz2_start(h:bJb l i n)(hi:l.length≤i)(hl:l.length≤4)(hR:mU l=r):bFt l 0 n r:=by
 obtain⟨h1,h2⟩:=h;rw [List.take_of_length_le hi] at h1 h2
 have hall: ¬(4<l.length∨l.any oF=true):=by
  rintro(k | k)
  ·omega
  ·rw [h1] at k;cases k
 unfold mU at hR;rw [if_neg hall] at hR
 by_cases h0:l.contains 0=true
 ·rw [if_pos h0] at hR h2;exact .inl ⟨h2,hR.symm⟩
 ·rw [if_neg h0] at hR h2;subst h2;refine .inr ⟨by decide,by decide,fun s hs=>?_,hR.symm⟩
  have hb:oF s=false:=by
   cases e:oF s
   ·rfl
   ·exact absurd (List.any_eq_true.2 ⟨s,hs,e⟩) (by rw [h1];decide)
  have hz:s≠0:=fun e=>h0 (by rw [←e];simpa using hs);simp only [oF,Bool.or_eq_false_iff,decide_eq_false_iff_not] at hb;omega
theorem sz2_wrap(h:bFt l i n r)(hn:0<n)(hx:l[i]?=some x):(∀s∈l,0<s∧s≤65536)∧r=pW (l.drop i) n∧0<w64 (n*x):=by
 rcases h with h | ⟨_,h2,h3,h4⟩
 ·omega
 ·obtain⟨a,b⟩:=h3 x (List.mem_of_getElem? hx);have p0:=Int.mul_pos hn a;have p1:n*x≤65536*65536:=Int.mul_le_mul h2 b (by omega) (by omega);refine⟨h3,h4,?_⟩;have:w64 (n*x)=n*x:=bAd (by omega) (by omega);omega
theorem sz2_step(h:bFt l i n r)(hn:0<n)(hx:l[i]?=some x)(hb:w64 (n*x)≤65536):bFt l (i+1) (w64 (n*x)) r:=by
 obtain⟨h3,h4,h5⟩:=sz2_wrap h hn hx;exact .inr ⟨h5,hb,h3,bKw h4 hx (Int.not_lt.2 hb)⟩
theorem sz2_big(h:bFt l i n r)(hn:0<n)(hx:l[i]?=some x)(hb:65536<w64 (n*x)):r=(0,61):=by
 obtain⟨h3,h4,h5⟩:=sz2_wrap h hn hx;exact prod_big h4 hx hb
theorem sz2_end(h:bFt l i n r)(hi:l.length≤i∨n≤0):r=(n,0):=by
 rcases h with h | ⟨h1,_,_,h4⟩
 ·rw [h.2,h.1]
 ·rcases hi with hi | hi
  ·exact prod_end h4 hi
  ·omega
end
theorem bBc(p:PolV)(B:Option Addr)(d:Nat)(ds:List Int)(hp:p.list.length≤140737488355328)(hd:ds.length≤140737488355328):dM Tryz.prog 57 [.slice p.addr p.list.length p.cap,.slice B ds.length d] [] [lZ p,mR.sl (.slice B ds.length d) ds] (fun _:Unit=> .tuple #[.int .i64 (gM p.list ds).1,.int .i64 (gM p.list ds).2]) (fun _=>[]) (fun _=>[]):=
 jN fun _ w hS h=>refEval_any _ _ _ _ _ _ w (jQ hS (h _ (.head _))) (ints_of hS (h _ (.tail _ (.head _)))) hp hd
set_option maxRecDepth 100000 in
theorem size6_spec(A:Option Addr)(c:Nat)(l:List Int)(hl:l.length≤140737488355328):dM Tryz.prog 101 [.slice A l.length c] [] [mR.sl (.slice A l.length c) l] (fun(_:Unit)=> .tuple #[.int .i64 (mU l).1,.int .i64 (mU l).2]) (fun _=>[]) (fun _=>[]):=by
 have hT:=fC;generalize hR:mU l=r;refine cQ Tryz.func101 rfl Tryz.ntmps101 rfl ?_;intro β hM;refine sr<|sp2 hT ?_;refine nn<|bB<|sr<|sp3 hT ?_;refine nn<|bK rfl (fun hc9=>?_) (fun hc9=>?_)
 ·have hc9:=of_decide_eq_true hc9;refine sr<|sp2 hT ?_;refine nn<|bF<|bA ?_;have hr:=hR.symm.trans (bGo (by first | exact .inl (by omega)));subst hr;exact bO () rfl (bE rfl) (bE rfl) .nil trivial rfl
 have hc9:=Int.not_lt.1 (of_decide_eq_false hc9);refine bM<|bC<|sr<|sp hT ?_;refine nn<|bB<|sr<|sp hT ?_;refine nn<|bU<|dC (ι:=Nat×Int) [(0,_)] ⟨rfl,trivial⟩ (fun⟨i,n⟩=>[(4,.int .i64 n),(5,.int .i64 (i:Nat))]) (fun _=>[]) (fun⟨i,n⟩=>[Fact.pure (i≤l.length∧bJb l i n)]) (fun⟨i,n⟩=>l.length-i) (0,1) ⟨rfl,rfl,trivial⟩ .nil ⟨Has.pure (⟨by omega,sz1_start l⟩),trivial⟩ ?_;rintro⟨i,n⟩;dsimp only;refine bP (Has.of mT0) fun hinv5=>?_;refine bB<|sr<|sp4 hT ?_;refine nn<|bK rfl (fun hc13=>?_) (fun hc13=>?_)
 ·have hc13:=of_decide_eq_true hc13;refine bM<|bC<|bB<|bU<|bB<|sr<|sp2 hT ?_
  obtain⟨x1,hx2⟩: ∃x',l[i]?=some x':=⟨_,List.getElem?_eq_getElem (by omega)⟩
  refine ss (bV hT (k:=i) (bL (Has.of mT1)) rfl rfl rfl rfl rfl rfl rfl (by omega)) ?_;refine ss (cE hT (cP.knows (bL (Has.of mT1)) (k:=i) (x:=x1) hx2 0) rfl rfl rfl rfl rfl) ?_;refine sp2 hT ?_;refine cB (fun hg21=>?_) (fun hg21=>?_)
  ·have hg21:=of_decide_eq_true hg21;refine sk4 ?_;refine sk ?_;refine sp hT ?_;refine nn<|cH rfl rfl ?_;refine sr<|sp2 hT ?_;refine nn<|bF<|bA<|bG<|bA<|bA<|bG<|bA ?_;have hr:=hR.symm.trans (sz1_bad hx2 (by first | exact .inl (by omega) | exact .inr (by omega)));subst hr;exact bO () rfl (bE rfl) (bE rfl) .nil trivial rfl
  have hg21:=Int.not_lt.1 (of_decide_eq_false hg21);refine sp2 hT ?_;refine ss (bV hT (k:=i) (bL (Has.of mT1)) rfl rfl rfl rfl rfl rfl rfl (by omega)) ?_;refine ss (cE hT (cP.knows (bL (Has.of mT1)) (k:=i) (x:=x1) hx2 0) rfl rfl rfl rfl rfl) ?_;refine sp2 hT ?_;refine nn<|bK rfl (fun hc27=>?_) (fun hc27=>?_)
  ·have hc27:=of_decide_eq_true hc27;refine sr<|sp2 hT ?_;refine nn<|bF<|bA<|bG<|bA<|bA<|bG<|bA ?_;have hr:=hR.symm.trans (sz1_bad hx2 (by first | exact .inl (by omega) | exact .inr (by omega)));subst hr;exact bO () rfl (bE rfl) (bE rfl) .nil trivial rfl
  have hc27:=Int.not_lt.1 (of_decide_eq_false hc27);refine bM<|bC<|sr<|sp2 hT ?_;refine ss (bV hT (k:=i) (bL (Has.of mT1)) rfl rfl rfl rfl rfl rfl rfl (by omega)) ?_;refine ss (cE hT (cP.knows (bL (Has.of mT1)) (k:=i) (x:=x1) hx2 0) rfl rfl rfl rfl rfl) ?_;refine sp hT ?_;refine nn<|bK rfl (fun hc32=>?_) (fun hc32=>?_)
  ·have hc32:=eq_of_beq hc32;refine bD<|sp hT ?_;refine dX<|bZ<|bC<|bD<|sp2 hT ?_;refine bT (z':=(((i+1):Nat):Int)) (cO (by omega) (by omega)) ?_;refine sp hT ?_;refine nn ?_;exact cL (i+1,0) (by dsimp only;omega) ⟨rfl,rfl,trivial⟩ ⟨rfl,trivial⟩ .nil ⟨Has.pure (⟨by dsimp only;omega,sz1_zero hinv5.2 hx2 (by omega)⟩),trivial⟩ (bI.drop 1)
  have hc32:=beq_eq_false_iff_ne.1 hc32;refine bM<|bZ<|bC<|bD<|sp2 hT ?_;refine bT (z':=(((i+1):Nat):Int)) (cO (by omega) (by omega)) ?_;refine sp hT ?_;refine nn ?_;exact cL (i+1,n) (by dsimp only;omega) ⟨rfl,rfl,trivial⟩ ⟨rfl,trivial⟩ .nil ⟨Has.pure (⟨by dsimp only;omega,sz1_step hinv5.2 hx2 (by omega) (by omega) (by omega)⟩),trivial⟩ (bI.drop 1)
 have hc13:=Int.not_lt.1 (of_decide_eq_false hc13);refine cY<|cJ<|cJ<|cZ<|bC<|bB<|sr<|sp hT ?_;refine nn<|bU<|dC (ι:=Nat×Int) [(0,_)] ⟨rfl,trivial⟩ (fun⟨j,m⟩=>[(4,.int .i64 m),(6,.int .i64 (j:Nat))]) (fun _=>[]) (fun⟨j,m⟩=>[Fact.pure (j≤l.length∧bFt l j m r)]) (fun⟨j,m⟩=>l.length-j) (0,n) ⟨rfl,rfl,trivial⟩ .nil ⟨Has.pure (⟨by omega,sz2_start hinv5.2 (by omega) (by omega) hR⟩),trivial⟩ ?_;rintro⟨j,m⟩;dsimp only;refine bP (Has.of mT0) fun hinv12=>?_;refine bB<|sr<|sp4 hT ?_;refine sp hT ?_;refine cB (fun hg37=>?_) (fun hg37=>?_)
 ·have hg37:=of_decide_eq_true hg37;refine sp3 hT ?_;refine nn<|bK rfl (fun hc40=>?_) (fun hc40=>?_)
  ·have hc40:=of_decide_eq_true hc40;refine bM<|bC<|bB<|bU<|sr<|sp3 hT ?_
   obtain⟨x3,hx4⟩: ∃x',l[j]?=some x':=⟨_,List.getElem?_eq_getElem (by omega)⟩
   refine ss (bV hT (k:=j) (bL (Has.of mT2)) rfl rfl rfl rfl rfl rfl rfl (by omega)) ?_;refine ss (cE hT (cP.knows (bL (Has.of mT2)) (k:=j) (x:=x3) hx4 0) rfl rfl rfl rfl rfl) ?_;refine sp2 hT ?_;refine nn<|sr<|sp2 hT ?_;refine nn<|bK rfl (fun hc50=>?_) (fun hc50=>?_)
   ·have hc50:=of_decide_eq_true hc50;refine sr<|sp2 hT ?_;refine nn<|bF<|bG<|bA<|bA<|bG<|bA ?_;have hr:=sz2_big hinv12.2 (by omega) hx4 (by omega);subst hr;exact bO () rfl (bE rfl) (bE rfl) .nil trivial rfl
   have hc50:=Int.not_lt.1 (of_decide_eq_false hc50);refine bM<|bZ<|bC<|bD<|sp2 hT ?_;refine bT (z':=(((j+1):Nat):Int)) (cO (by omega) (by omega)) ?_;refine sp hT ?_;refine nn ?_;exact cL (j+1,_) (by dsimp only;omega) ⟨rfl,rfl,trivial⟩ ⟨rfl,trivial⟩ .nil ⟨Has.pure (⟨by dsimp only;omega,sz2_step hinv12.2 (by omega) hx4 (by omega)⟩),trivial⟩ (bI.drop 1)
  have hc40:=Int.not_lt.1 (of_decide_eq_false hc40);refine cY<|cJ<|cJ<|cZ<|bC<|sr<|sp3 hT ?_;refine nn<|bF ?_;have hr:=sz2_end hinv12.2 (by first | exact .inl (by omega) | exact .inr (by omega));subst hr;exact bO () rfl (bE rfl) (bE rfl) .nil trivial rfl
 have hg37:=Int.not_lt.1 (of_decide_eq_false hg37);refine sk2 ?_;refine sp hT ?_;refine nn<|cG rfl rfl ?_;refine cY<|cJ<|cJ<|cZ<|bC<|sr<|sp3 hT ?_;refine nn<|bF ?_;have hr:=sz2_end hinv12.2 (by first | exact .inl (by omega) | exact .inr (by omega));subst hr;exact bO () rfl (bE rfl) (bE rfl) .nil trivial rfl
set_option maxRecDepth 100000 in
theorem right6_spec(x:rM)(hl:x.sides.list.length≤140737488355328):dM Tryz.prog 56 [.agg #[.slice x.sides.addr x.sides.list.length x.sides.cap,.slice x.data.addr x.data.list.length x.data.cap]] [] [mR.sl (.slice x.sides.addr x.sides.list.length x.sides.cap) x.sides.list] (fun(_:Unit)=> .bool (jA x.arr)) (fun _=>[]) (fun _=>[]):=by
 have hT:=fC;refine cQ Tryz.func56 rfl Tryz.ntmps56 rfl ?_;intro β hM;refine sr<|gC rfl rfl rfl rfl rfl rfl fun b1=>?_;refine sp hT ?_;refine nn<|sr<|sp hT ?_;refine ss (ldO hT (bJ .head)) ?_;refine bQ Tryz.func101 (size6_spec _ _ _ (by omega)) rfl rfl .nil ⟨Has.of mT0,trivial⟩ fun _=>?_;refine sp4 hT ?_;refine sp hT ?_;refine nn<|sr<|sp3 hT ?_;refine cB (fun hg13=>?_) (fun hg13=>?_)
 ·have hg13:=eq_of_beq hg13;refine sp2 hT ?_;refine ss (ldO hT (fK .head)) ?_;refine sp4 hT ?_;refine nn<|bF ?_;exact bS () rfl (bE rfl) .nil trivial (by first | exact bFn ‹_› | exact bFf ‹_›)
 have hg13:=beq_eq_false_iff_ne.1 hg13;refine sk4 ?_;refine sk ?_;refine sp2 hT ?_;refine nn<|bF ?_;exact bS () rfl (bE rfl) .nil trivial (by first | exact bFn ‹_› | exact bFf ‹_›)
set_option maxRecDepth 100000 in
theorem fits9_spec(t:TyV)(D:Option Addr)(cd:Nat)(ds:List Int)(a:rM)(hs1:t.sides.list.length≤140737488355328)(hv1:t.values.list.length≤140737488355328)(hs2:a.sides.list.length≤140737488355328)(hds:ds.length≤140737488355328):dM Tryz.prog 29 [.agg #[.slice t.sides.addr t.sides.list.length t.sides.cap,.bool t.known,.slice t.values.addr t.values.list.length t.values.cap],.slice D ds.length cd,.agg #[.slice a.sides.addr a.sides.list.length a.sides.cap,.slice a.data.addr a.data.list.length a.data.cap]] [] [tyF t,mR.sl (.slice D ds.length cd) ds,mR.sl (.slice a.sides.addr a.sides.list.length a.sides.cap) a.sides.list,mR.sl (.slice a.data.addr a.data.list.length a.data.cap) a.data.list] (fun(_:Unit)=> .bool (sB t.t ds a.arr)) (fun _=>[]) (fun _=>[]):=by
 have hT:=fC;refine cQ Tryz.func29 rfl Tryz.ntmps29 rfl ?_;intro β hM;refine bB<|bH (dP t.sides) (lT (Has.of mT0)) ?_;refine bH (cI.sl (.slice t.sides.addr t.sides.list.length t.sides.cap) t.sides.list) (dJ (Has.of mT0)) ?_;refine bH (cW t.sides.list) (dN (Has.of mT1)) ?_;refine bP (dT (Has.of mT2)) fun hc_ts=>?_;refine bH (dP t.values) (lO (Has.of mT3)) ?_;refine bH (cI.sl (.slice t.values.addr t.values.list.length t.values.cap) t.values.list) (dJ (Has.of mT0)) ?_;refine bH (cW t.values.list) (dN (Has.of mT1)) ?_;refine bP (dT (Has.of mT2)) fun hc_tv=>?_;refine bD<|gC rfl rfl rfl rfl rfl rfl fun b1=>?_;refine gC rfl rfl rfl rfl rfl rfl fun b2=>?_;refine sp hT ?_;refine nn<|bB<|sr<|ss (ldN hT (bJ .head)) ?_;refine bQ Tryz.func56 (right6_spec a hs2) rfl rfl .nil ⟨(Has.of mT8),trivial⟩ fun _=>?_;refine sp2 hT ?_;refine cB (fun hg16=>?_) (fun hg16=>?_)
 ·have hg16:=fT hg16;refine sk4 ?_;refine sk3 ?_;refine sp hT ?_;refine nn<|cH rfl rfl ?_;refine sr<|sp hT ?_;refine nn<|bF<|bA ?_;exact bS () rfl (bE rfl) .nil trivial ((by first | exact sQ (by simpa using (by assumption:(!jA _)=true)) | exact sQ ‹_› | exact bGq (by omega) | exact bCm ‹_› (by omega)))
 have hg16:=fM hg16;refine sp hT ?_;refine ss (ldO hT (bJ kT1)) ?_;refine sp2 hT ?_;refine ss (ldO hT (bJ .head)) ?_;refine sp3 hT ?_;refine nn<|bK rfl (fun hc24=>?_) (fun hc24=>?_)
 ·have hc24:=bne_iff_ne.1 hc24;refine sr<|sp hT ?_;refine nn<|bF<|bA ?_;exact bS () rfl (bE rfl) .nil trivial ((by first | exact sQ (by simpa using (by assumption:(!jA _)=true)) | exact sQ ‹_› | exact bGq (by omega) | exact bCm ‹_› (by omega)))
 have hc24:=bne_eq_false_iff_eq.1 hc24;refine bM<|bC<|bB<|bB ?_;have hra:jA a.arr=true:=by first | assumption | simpa using (by assumption:(!jA _)=false)
 have hsl:t.sides.list.length=a.sides.list.length:=by omega
 refine bD<|sp hT ?_;refine nn<|bU<|dC (ι:=Nat) [(1,_),(3,_),(5,_)] ⟨rfl,rfl,rfl,trivial⟩ (fun i=>[(7,.int .i64 (i:Nat))]) (fun _=>[]) (fun i=>[Fact.pure (i≤t.sides.list.length∧pS (pB ds) t.sides.list a.sides.list i)]) (fun i=>t.sides.list.length-i) 0 ⟨rfl,trivial⟩ .nil ⟨Has.pure (⟨by omega,oH⟩),trivial⟩ ?_;rintro i;refine bP (Has.of mT0) fun hinv4=>?_;refine bB<|sr<|sp2 hT ?_;refine ss (ldO hT (bJ kT1)) ?_;refine sp2 hT ?_;refine nn<|bK rfl (fun hc29=>?_) (fun hc29=>?_)
 ·have hc29:=of_decide_eq_true hc29;refine bM<|bC<|bB<|bU<|sr<|sp hT ?_;refine ss (ldO hT (bJ kT1)) ?_;refine sp hT ?_
  obtain⟨x3,hx4⟩: ∃x',t.sides.list[i]?=some x':=⟨_,List.getElem?_eq_getElem (by omega)⟩
  refine ss (bV hT (k:=i) (bL (Has.of mT5)) rfl rfl rfl rfl rfl rfl rfl (by omega)) ?_;refine ss (cE hT (cP.knows (bL (Has.of mT5)) (k:=i) (x:=x3) hx4 0) rfl rfl rfl rfl rfl) ?_;refine sp hT ?_;refine bP (dO (Has.each (Has.of mT4) (List.mem_of_getElem? hx4))) fun hpl5=>?_;refine bQ Tryz.func57 (bBc x3 D cd ds hpl5 hds) rfl rfl .nil ⟨(Has.each (Has.of mT4) (List.mem_of_getElem? hx4)),(Has.of mT8),trivial⟩ fun _=>?_;refine sp4 hT ?_;refine sp hT ?_;refine nn<|sr<|sp3 hT ?_;refine cB (fun hg44=>?_) (fun hg44=>?_)
  ·have hg44:=bne_iff_ne.1 hg44;refine sk4 ?_;refine sk3 ?_;refine sp hT ?_;refine nn<|cH rfl rfl ?_;refine sr<|sp hT ?_;refine nn<|bF<|bG<|bA<|bA<|bG<|bA ?_;exact bS () rfl (bE rfl) .nil trivial (bBw (kP hx4 (List.getElem?_eq_getElem (i:=i) (by omega)) (xK (by first | exact .inl ‹_› | exact .inr ‹_› | exact .inl (by omega) | exact .inr (by omega)))))
  have hg44:=bne_eq_false_iff_eq.1 hg44;refine sp2 hT ?_;refine ss (ldO hT (bJ .head)) ?_;refine sp hT ?_
  obtain⟨x6,hx7⟩: ∃x',a.sides.list[i]?=some x':=⟨_,List.getElem?_eq_getElem (by omega)⟩
  refine ss (bV hT (k:=i) (bL (Has.of mT9)) rfl rfl rfl rfl rfl rfl rfl (by omega)) ?_;refine ss (cE hT (cP.knows (bL (Has.of mT9)) (k:=i) (x:=x6) hx7 0) rfl rfl rfl rfl rfl) ?_;refine sp2 hT ?_;refine nn<|bK rfl (fun hc52=>?_) (fun hc52=>?_)
  ·have hc52:=bne_iff_ne.1 hc52;refine sr<|sp hT ?_;refine nn<|bF<|bG<|bA<|bA<|bG<|bA ?_;exact bS () rfl (bE rfl) .nil trivial (bBw (kP hx4 hx7 (xK (by first | exact .inl ‹_› | exact .inr ‹_› | exact .inl (by omega) | exact .inr (by omega)))))
  have hc52:=bne_eq_false_iff_eq.1 hc52;refine bM<|bZ<|bC<|bD<|sp2 hT ?_;refine bT (z':=(((i+1):Nat):Int)) (cO (by omega) (by omega)) ?_;refine sp hT ?_;refine nn ?_;exact cL (i+1) (by omega) ⟨rfl,trivial⟩ ⟨rfl,rfl,rfl,trivial⟩ (.cons .head (.cons .head .nil)) ⟨Has.pure (⟨by omega,lW hinv4.2 hx4 hx7 (side_ok (by omega) (by omega))⟩),trivial⟩ (bI.drop 1)
 have hc29:=Int.not_lt.1 (of_decide_eq_false hc29);refine cY<|cJ<|cJ<|cZ<|bC<|bB<|bB ?_;have hsd:=pQ hinv4.2 (by omega);refine bD<|sp hT ?_;refine ss (ldO hT (fK kT1)) ?_;refine sp hT ?_;refine nn<|bK rfl (fun hc55=>?_) (fun hc55=>?_)
 ·have hc55:=fT hc55;refine sr<|sp hT ?_;refine nn<|bF<|bA ?_;exact bS () rfl (bE rfl) .nil trivial (bCx hra hsl hsd (fun kn=>absurd (kn.symm.trans (by assumption:t.known=false)) (by decide)))
 have hc55:=fM hc55;refine bM<|bC<|bB<|bB ?_;have hkn:t.known=true:=by first | assumption | simpa using (by assumption:(!_)=false)
 refine bD<|sp hT ?_;refine ss (ldO hT (dH kT1)) ?_;refine sp2 hT ?_;refine ss (ldO hT (fK .head)) ?_;refine sp2 hT ?_;refine nn<|bK rfl (fun hc62=>?_) (fun hc62=>?_)
 ·have hc62:=bne_iff_ne.1 hc62;refine sr<|sp hT ?_;refine nn<|bF<|bA ?_;exact bS () rfl (bE rfl) .nil trivial (bCm hkn (by omega))
 have hc62:=bne_eq_false_iff_eq.1 hc62;refine bM<|bC<|bB<|bB ?_;have hvl:t.known=true→t.values.list.length=a.data.list.length:=fun _=>by omega
 refine bD<|sp hT ?_;refine nn<|bU<|dC (ι:=Nat) [(1,_),(3,_),(5,_)] ⟨rfl,rfl,rfl,trivial⟩ (fun k=>[(10,.int .i64 (k:Nat))]) (fun _=>[]) (fun k=>[Fact.pure (k≤a.data.list.length∧pS (qC ds) t.values.list a.data.list k)]) (fun k=>a.data.list.length-k) 0 ⟨rfl,trivial⟩ .nil ⟨Has.pure (⟨by omega,oH⟩),trivial⟩ ?_;rintro k;refine bP (Has.of mT0) fun hinv14=>?_;refine bB<|sr<|sp2 hT ?_;refine ss (ldO hT (fK .head)) ?_;refine sp2 hT ?_;refine nn<|bK rfl (fun hc67=>?_) (fun hc67=>?_)
 ·have hc67:=of_decide_eq_true hc67;refine bM<|bC<|bB<|bU<|sr<|sp hT ?_;refine ss (ldO hT (dH kT1)) ?_;refine sp hT ?_
  obtain⟨x8,hx9⟩: ∃x',t.values.list[k]?=some x':=⟨_,List.getElem?_eq_getElem (by have:=hvl hkn;omega)⟩
  refine ss (bV hT (k:=k) (bL (Has.of mT3)) rfl rfl rfl rfl rfl rfl rfl (by have:=hvl hkn;omega)) ?_;refine ss (cE hT (cP.knows (bL (Has.of mT3)) (k:=k) (x:=x8) hx9 0) rfl rfl rfl rfl rfl) ?_;refine sp hT ?_;refine bP (dO (Has.each (Has.of mT2) (List.mem_of_getElem? hx9))) fun hpl10=>?_;refine bQ Tryz.func57 (bBc x8 D cd ds hpl10 hds) rfl rfl .nil ⟨(Has.each (Has.of mT2) (List.mem_of_getElem? hx9)),(Has.of mT9),trivial⟩ fun _=>?_;refine sp4 hT ?_;refine sp hT ?_;refine nn<|sr<|sp3 hT ?_;refine cB (fun hg82=>?_) (fun hg82=>?_)
  ·have hg82:=eq_of_beq hg82;refine sk4 ?_;refine sk4 ?_;refine sk3 ?_;refine sp hT ?_;refine nn<|cH rfl rfl ?_;refine sr<|sp hT ?_;refine nn<|bF<|bG<|bA<|bA<|bG<|bA ?_;exact bS () rfl (bE rfl) .nil trivial (bCi ‹_› (kP hx9 (List.getElem?_eq_getElem (i:=k) (by have:=hvl ‹_›;omega)) (bCg (by first | exact .inl (by omega) | exact .inr ⟨by omega,by omega⟩))))
  have hg82:=beq_eq_false_iff_ne.1 hg82;refine sp3 hT ?_;refine cB (fun hg85=>?_) (fun hg85=>?_)
  ·have hg85:=eq_of_beq hg85;refine sp2 hT ?_;refine ss (ldO hT (fK .head)) ?_;refine sp hT ?_
   obtain⟨x11,hx12⟩: ∃x',a.data.list[k]?=some x':=⟨_,List.getElem?_eq_getElem (by have:=hvl hkn;omega)⟩
   refine ss (bV hT (k:=k) (bL (Has.of oD)) rfl rfl rfl rfl rfl rfl rfl (by have:=hvl hkn;omega)) ?_;refine ss (cE hT (cP.knows (bL (Has.of oD)) (k:=k) (x:=x11) hx12 0) rfl rfl rfl rfl rfl) ?_;refine sp3 hT ?_;refine nn<|bK rfl (fun hc94=>?_) (fun hc94=>?_)
   ·have hc94:=bne_iff_ne.1 hc94;refine sr<|sp hT ?_;refine nn<|bF<|bG<|bA<|bA<|bG<|bA ?_;exact bS () rfl (bE rfl) .nil trivial (bCi ‹_› (kP hx9 hx12 (bCg (by first | exact .inl (by omega) | exact .inr ⟨by omega,by omega⟩))))
   have hc94:=bne_eq_false_iff_eq.1 hc94;refine bM<|bZ<|bC<|bD<|sp2 hT ?_;refine bT (z':=(((k+1):Nat):Int)) (cO (by omega) (by omega)) ?_;refine sp hT ?_;refine nn ?_;exact cL (k+1) (by omega) ⟨rfl,trivial⟩ ⟨rfl,rfl,rfl,trivial⟩ (.cons .head (.cons .head .nil)) ⟨Has.pure (⟨by omega,lW hinv14.2 hx9 hx12 (bCq (by omega) (by first | exact .inl (by omega) | exact .inr (by omega)))⟩),trivial⟩ (bI.drop 1)
  have hg85:=beq_eq_false_iff_ne.1 hg85;refine sk4 ?_;refine sk3 ?_;refine sp2 hT ?_;refine nn<|cG rfl rfl ?_;refine bM<|bZ<|bC<|bD<|sp2 hT ?_;refine bT (z':=(((k+1):Nat):Int)) (cO (by omega) (by omega)) ?_;refine sp hT ?_;refine nn ?_;exact cL (k+1) (by omega) ⟨rfl,trivial⟩ ⟨rfl,rfl,rfl,trivial⟩ (.cons .head (.cons .head .nil)) ⟨Has.pure (⟨by omega,lW hinv14.2 hx9 (List.getElem?_eq_getElem (i:=k) (by have:=hvl hkn;omega)) (bCq (by omega) (by first | exact .inl (by omega) | exact .inr (by omega)))⟩),trivial⟩ (bI.drop 1)
 have hc67:=Int.not_lt.1 (of_decide_eq_false hc67);refine cY<|cJ<|cJ<|cZ<|bC<|sr<|sp hT ?_;refine nn<|bF ?_;exact bS () rfl (bE rfl) .nil trivial (bCx hra hsl hsd (fun kn=>⟨hvl kn,pQ (hinv14.2) (by omega)⟩))
end Go.Proofs.YtbgdphbebhjpiaaGreatDoor
namespace Go.Proofs.YtbgdphbebhjpiaaGreatDoor
open Go.RowKit Go.ChangeShapes Go.WideShapes
set_option maxRecDepth 100000
section
variable {H : Type} {enc : TypeId × Value → H} {w : World}
theorem u8_of{n:Int}(h:(Lit.int .u8 n).wf=true): ∃e:UInt8,n=(e.toNat:Int):=by
 have h':0≤n∧n≤255:=bounds_u8 h;refine⟨UInt8.ofNat n.toNat,?_⟩;rw [UInt8.toNat_ofNat'];omega
theorem read_mono{fuel:Nat}{cs:List Value}{x:DataW H×List MemPlace}(h:DataW.trod enc Tryz.prog w 0 (fun _=>true) true fuel 74 cs=some x): ∃m:Mono,cs=m.cells∧(Lit.int .i64 m.n).wf=true:=by
 obtain⟨xs,n,_,_,hlen,hxl,hf⟩:=DataW.trod_struct Tryz.underlying74 h;have hc39:Tryz.prog.cellsOf 74=7:=by kernel_rfl
 have hc2:Tryz.prog.cellsOf 2=1:=by kernel_rfl
 have hc37:Tryz.prog.cellsOf 72=6:=by kernel_rfl
 have hc5:Tryz.prog.cellsOf 5=1:=by kernel_rfl
 rw [hc39] at hlen;have hxl':xs.length=2:=hxl
 match cs,hlen with
 | [a,b0,b1,b2,b3,b4,b5],_=>
  have h0:DataW.trod enc Tryz.prog w 0 (fun _=>true) true n 2 (([a,b0,b1,b2,b3,b4,b5].drop 0).take (Tryz.prog.cellsOf 2))=xs[0]?:=hf 0 _ rfl;have h1:DataW.trod enc Tryz.prog w 0 (fun _=>true) true n 72 (([a,b0,b1,b2,b3,b4,b5].drop 1).take (Tryz.prog.cellsOf 72))=xs[1]?:=hf 1 _ rfl;rw [hc2,List.getElem?_eq_getElem (by omega)] at h0;rw [hc37,List.getElem?_eq_getElem (by omega)] at h1;obtain⟨nn,e0,_,hw⟩:=DataW.trod_int Tryz.underlying2 h0;obtain⟨ys,n',_,_,_,hyl,hg⟩:=DataW.trod_array Tryz.underlying72 h1
  have g: ∀i,i<6→ ∃e:UInt8,(([b0,b1,b2,b3,b4,b5]:List Value).drop i).take 1=[.int .u8 (e.toNat:Int)]:=fun i hi=>by
   have h2:=hg i hi;rw [hc5,Nat.mul_one,List.getElem?_eq_getElem (by omega)] at h2;obtain⟨k,e1,_,hw1⟩:=DataW.trod_int Tryz.underlying5 h2;obtain⟨e,rfl⟩:=u8_of hw1;exact⟨e,e1⟩
  obtain⟨e0',g0⟩:=g 0 (by omega);obtain⟨e1',g1⟩:=g 1 (by omega);obtain⟨e2',g2⟩:=g 2 (by omega);obtain⟨e3',g3⟩:=g 3 (by omega);obtain⟨e4',g4⟩:=g 4 (by omega);obtain⟨e5',g5⟩:=g 5 (by omega);simp at e0 g0 g1 g2 g3 g4 g5;subst e0 g0 g1 g2 g3 g4 g5;exact⟨⟨nn,e0',e1',e2',e3',e4',e5'⟩,rfl,hw⟩
end
def tL:Ty Mono:=⟨lC,fun m=>Fact.pure ((Lit.int .i64 m.n).wf=true)⟩
theorem bFw{H:Type}{enc:TypeId×Value→H}{w:World}:qD enc Tryz.prog w 74 tL.E.cells tL.deep:=fun fuel cs x h _=>by
 obtain⟨m,e,hw⟩:=read_mono h;exact⟨m,e,hw⟩
instance : Inhabited Mono := ⟨⟨0, 0, 0, 0, 0, 0, 0⟩⟩
def tyTy:Ty TyV:=⟨tyE,fun x=>((((tL.slice 16).slicec 24)).deep x.sides).and ((Fact.true).and (((((tL.slice 16).slicec 24)).deep x.values).and (Fact.true)))⟩
set_option maxRecDepth 100000 in
theorem opens_ty{H:Type}{enc:TypeId×Value→H}{w:World}:qD enc Tryz.prog w 67 tyE.cells tyTy.deep:=fun fuel cs x h hw=>by
 obtain⟨xs,n,_,rfl,hlen,hxl,hf⟩:=DataW.trod_struct Tryz.underlying67 h;have hc:Tryz.prog.cellsOf 67=3:=by kernel_rfl
 rw [hc] at hlen;have hxl':xs.length=3:=hxl
 match cs,hlen with
 | [c0,c1,c2],_=>
  have h0:DataW.trod enc Tryz.prog w 0 (fun _=>true) true n 65 (([c0,c1,c2].drop 0).take (Tryz.prog.cellsOf 65))=xs[0]?:=hf 0 _ rfl;have h1:DataW.trod enc Tryz.prog w 0 (fun _=>true) true n 4 (([c0,c1,c2].drop 1).take (Tryz.prog.cellsOf 4))=xs[1]?:=hf 1 _ rfl;have h2:DataW.trod enc Tryz.prog w 0 (fun _=>true) true n 65 (([c0,c1,c2].drop 2).take (Tryz.prog.cellsOf 65))=xs[2]?:=hf 2 _ rfl;rw [List.getElem?_eq_getElem (by omega)] at h0;obtain⟨a0,e0,d0⟩:=(xH Tryz.underlying65 (kJ (T:=(tL.slice 16)) (b:=24) Tryz.underlying65 (by kernel_rfl) (by kernel_rfl) (kJ (T:=tL) (b:=16) Tryz.underlying71 (by kernel_rfl) (by kernel_rfl) bFw))) _ _ _ h0 (lR Tryz.underlying67 hw (j:=0) rfl (by rw [List.getElem?_map,List.getElem?_eq_getElem (by omega)];rfl))
  have q0:[c0]=[.slice a0.addr a0.list.length a0.cap]:=by
   have hk:Tryz.prog.cellsOf 65=1:=by kernel_rfl
   rw [hk] at e0;exact e0
  clear e0;simp only [List.cons.injEq,and_true] at q0;rw [List.getElem?_eq_getElem (by omega)] at h1;obtain⟨a1,e1,d1⟩:=(opens_bool Tryz.underlying4) _ _ _ h1 (lR Tryz.underlying67 hw (j:=1) rfl (by rw [List.getElem?_map,List.getElem?_eq_getElem (by omega)];rfl))
  have q1:[c1]=[.bool a1]:=by
   have hk:Tryz.prog.cellsOf 4=1:=by kernel_rfl
   rw [hk] at e1;exact e1
  clear e1;simp only [List.cons.injEq,and_true] at q1;rw [List.getElem?_eq_getElem (by omega)] at h2;obtain⟨a2,e2,d2⟩:=(xH Tryz.underlying65 (kJ (T:=(tL.slice 16)) (b:=24) Tryz.underlying65 (by kernel_rfl) (by kernel_rfl) (kJ (T:=tL) (b:=16) Tryz.underlying71 (by kernel_rfl) (by kernel_rfl) bFw))) _ _ _ h2 (lR Tryz.underlying67 hw (j:=2) rfl (by rw [List.getElem?_map,List.getElem?_eq_getElem (by omega)];rfl))
  have q2:[c2]=[.slice a2.addr a2.list.length a2.cap]:=by
   have hk:Tryz.prog.cellsOf 65=1:=by kernel_rfl
   rw [hk] at e2;exact e2
  clear e2;simp only [List.cons.injEq,and_true] at q2;obtain rfl:=q0;obtain rfl:=q1;obtain rfl:=q2;exact⟨⟨a0,a1,a2⟩,rfl,d0,d1,d2,trivial⟩
theorem ty_of{t:TyV}{S:Nat→Prop}{w:World}(h:(tyTy.deep t).p S w):(tyF t).p S w∧t.sides.list.length≤140737488355328∧t.values.list.length≤140737488355328:=by
 obtain⟨⟨⟨⟨a1,a2⟩,a3⟩,a4⟩,_,⟨⟨⟨b1,b2⟩,b3⟩,b4⟩,_⟩:=h
 have g: ∀p:PolV,((tL.slice 16).deep p).p S w→(lZ p).p S w:=fun p hp=>by
  obtain⟨⟨c1,c2⟩,c3⟩:=hp;have c3:p.list.length*16≤140737488355328:=c3;exact⟨c1,by show p.list.length≤140737488355328;omega⟩
 have a3:t.sides.list.length*24≤140737488355328:=a3;have b3:t.values.list.length*24≤140737488355328:=b3;exact⟨⟨⟨⟨a1,fun p hp=>g p (a2 p hp)⟩,a4⟩,⟨⟨b1,fun p hp=>g p (b2 p hp)⟩,b4⟩⟩,by omega,by omega⟩
theorem arr_of9{x:rM}{S:Nat→Prop}{w:World}(h:(arrTy.deep x).p S w):(mR.sl (.slice x.sides.addr x.sides.list.length x.sides.cap) x.sides.list).p S w∧(mR.sl (.slice x.data.addr x.data.list.length x.data.cap) x.data.list).p S w∧x.sides.list.length≤140737488355328:=by
 obtain⟨⟨⟨⟨a1,_⟩,a3⟩,_⟩,⟨⟨⟨b1,_⟩,_⟩,_⟩,_⟩:=h;have a3:x.sides.list.length*8≤140737488355328:=a3;exact⟨a1,b1,by omega⟩
end Go.Proofs.YtbgdphbebhjpiaaGreatDoor
namespace Go.Proofs.YtbgdphbebhjpiaaGreatDoor.typeFits
open Go.ChangeShapes Go.WideShapes Go.ChangeAt Go.RowKit
set_option maxRecDepth 100000 in
theorem law_spec(t:TyV)(D:Option Addr)(cd:Nat)(ds:List Int)(a:rM)(hs1:t.sides.list.length≤140737488355328)(hv1:t.values.list.length≤140737488355328)(hs2:a.sides.list.length≤140737488355328)(hds:ds.length≤140737488355328):dM Tryz.prog 10 [.agg #[.slice t.sides.addr t.sides.list.length t.sides.cap,.bool t.known,.slice t.values.addr t.values.list.length t.values.cap],.slice D ds.length cd,.agg #[.slice a.sides.addr a.sides.list.length a.sides.cap,.slice a.data.addr a.data.list.length a.data.cap]] [] [iA,tyF t,mR.sl (.slice D ds.length cd) ds,mR.sl (.slice a.sides.addr a.sides.list.length a.sides.cap) a.sides.list,mR.sl (.slice a.data.addr a.data.list.length a.data.cap) a.data.list] (fun(_:Unit)=> .bool true) (fun _=>[]) (fun _=>[]):=by
 have hT:=fC;refine cQ Tryz.func10 rfl Tryz.ntmps10 rfl ?_;intro β hM;refine sr<|gC rfl rfl rfl rfl rfl rfl fun b1=>?_;refine gC rfl rfl rfl rfl rfl rfl fun b2=>?_;refine sp hT ?_;refine nn<|sr<|bQ Tryz.func20 (shown9_spec) rfl rfl .nil ⟨Has.of mT0,trivial⟩ fun _=>?_;refine sp hT ?_;refine nn<|sr<|ss (ldN hT (bJ kT1)) ?_;refine sp hT ?_;refine ss (ldN hT (bJ .head)) ?_;refine bQ Tryz.func28 (fits_spec t D cd ds a hs1 hv1 hs2 hds) rfl rfl .nil ⟨(Has.of mT1),(Has.of mT2),(Has.of mT3),(Has.of mT4),trivial⟩ fun _=>?_;refine sp hT ?_;refine nn<|sr<|sp3 hT ?_;refine ss (ldN hT (bJ kT1)) ?_;refine sp hT ?_;refine ss (ldN hT (bJ .head)) ?_;refine bQ Tryz.func29 (fits9_spec t D cd ds a hs1 hv1 hs2 hds) rfl rfl .nil ⟨(Has.of mT1),(Has.of mT2),(Has.of mT3),(Has.of mT4),trivial⟩ fun _=>?_;refine sp hT ?_;refine cA (t':=true) (by simp) ?_;refine sp2 hT ?_;refine nn<|bF ?_;exact bS () rfl (bE rfl) .nil trivial (rfl)
end Go.Proofs.YtbgdphbebhjpiaaGreatDoor.typeFits
