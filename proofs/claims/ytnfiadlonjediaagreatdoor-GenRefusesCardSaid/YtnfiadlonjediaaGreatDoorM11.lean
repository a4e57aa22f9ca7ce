/- A part of one proof. -/
import Derived.Test.YtnfiadlonjediaaGreatDoorM10
set_option maxRecDepth 100000
namespace Go.Proofs.YtnfiadlonjediaaGreatDoor
open _root_.List renaming getElem?_eq_getElem->G1,getD_eq_getElem?_getD->W2,getElem?_eq_none->Y5,drop_of_length_le->U8,drop_zero->Q5,drop_eq_getElem_cons->aG,getElem?_eq_some_iff->G3,getElem_cons_drop->aH,mem_cons_self->F9,take_add_one->G7,mem_append->F2,mem_singleton->Q7,length_set->R0,filter_append->W6,take_of_length_le->Y2,length_cons->G5,flatMap_cons->eR,length_append->G4,length_map->I2,map_append->P4,map_singleton->AE,pairwise_cons->F4,mem_cons->F1,mem_cons_of_mem->F3,mem_map->P5,getElem?_set_ne->R1,getElem?_set_self->G8,replicate->V4,getElem?_replicate->Ao,eraseIdx_sublist->eW,length_singleton->Ad
open Lib renaming hid->U4
open _root_.Nat renaming zero_le->S6,le_trans->C0,le_refl->B8,le_of_lt->AF
open _root_.Int renaming mul_nonneg->aO,not_lt->Y8
open IntKind renaming wrap->M9,signed->N1,bits->N2
open _root_.Option renaming toList_some->AG
open Value renaming bool->Y6
section
open Go.RowKit Go.Proofs.Tryz
set_option maxRecDepth 100000
set_option maxHeartbeats 400000 in
theorem bPy(B:Option Addr)(d:Nat)(ds:List Int)(k:Nat)(w:World)(hb:Ints w B ds):
  Calls prog 172 #[.slice B ds.length d,j3 k] w λe w'=>e= .returned (j3 (cV ds k))/\w=w':=by
 by_cases hlt:k<ds.length
 .obtain⟨x,hx⟩: ∃x,ds[k]?=some x:=⟨ds[k],G1 hlt⟩
  obtain⟨b,o,rfl,_,hc⟩:=hb k x hx;have HX:=U4 (show cV ds k=x by unfold cV;rw[W2,hx];rfl);clear hb hx
  go_enter func172,ntmps172
  go_wp2
  go_ret
  exact⟨bAr HX.out.symm,rfl⟩
 .have HX:=U4 (show cV ds k=0 by unfold cV;rw[W2,Y5 j5];rfl);clear hb
  go_enter func172,ntmps172
  go_wp2
  go_ret
  exact⟨bAr HX.out.symm,rfl⟩
def rW (m:Mono)(D:Nat->Int):Int:=if (cW m D).2 then (cW m D).1 else iA+1
theorem ex_cell{w:World}{b:Nat}{m:Mono}(h:fP w b 0 m)(k:Nat)(hk:k<6):w.cell? ⟨b,1+k,none⟩=some (j4 ((m.ex k).toNat:Int)):=by
 obtain⟨_,h1,h2,h3,h4,c,a⟩:=h.zero
 rcases k with _|_|_|_|_|_|k
 .exact h1
 .exact h2
 .exact h3
 .exact h4
 .exact c
 .exact a
 .omega
set_option maxHeartbeats 1000000 in
theorem size_any(B:Option Addr)(d:Nat)(ds:List Int)(m:Mono)(w:World)(hb:Ints w B ds)(hD: ∀k,0<=cV ds k/\cV ds k<=2147483648)(hn: -16777216<=m.n/\m.n<=16777216):
  Calls prog 102 #[.agg #[j3 m.n,j4 m.e0.toNat,j4 m.q.toNat,j4 m.o.toNat,j4 m.j.toNat,j4 m.d.toNat,j4 m.Z.toNat],.slice B ds.length d] w λe w'=>e= .returned (j3 (rW m (cV ds)))/\Below w.heap.size w w':=by
 have HD:=U4 hD;obtain⟨hn1,hn2⟩:=hn;have Hb:=U4 hb;clear hD hb
 go_enter func102,ntmps102
 go_wp2
 all_goals
  have q0:fP (w.alloc (.cells #[.int .i64 m.n,.int .u8 m.e0.toNat,.int .u8 m.q.toNat,.int .u8 m.o.toNat,.int .u8 m.j.toNat,.int .u8 m.d.toNat,.int .u8 m.Z.toNat] 111)) w.heap.size 0 m:=by simp[fP,go_sem]
  have q2:Below w.heap.size w (w.alloc (.cells #[.int .i64 m.n,.int .u8 m.e0.toNat,.int .u8 m.q.toNat,.int .u8 m.o.toNat,.int .u8 m.j.toNat,.int .u8 m.d.toNat,.int .u8 m.Z.toNat] 111)):=by go_grown
  have Q0:=U4 q0;have Q2:=U4 q2;have Q3:=U4 (Hb.out.below q2);clear q0 q2;generalize (w.alloc (.cells #[.int .i64 m.n,.int .u8 m.e0.toNat,.int .u8 m.q.toNat,.int .u8 m.o.toNat,.int .u8 m.j.toNat,.int .u8 m.d.toNat,.int .u8 m.Z.toNat] 111))=W0 at Q0 Q2 Q3⊢;generalize w.heap.size=X at Q0⊢
  go_loop [6] (λi=> ∃k:Nat,k<=6/\i= .int .i64 k/\Hid (gJ (fE m (cV ds))=gJ ((fE m (cV ds)).drop k))) (λi=>6-(intOf i).toNat)
  case atStart=>exact⟨0,S6 _,rfl,rfl⟩
  case round=>
   obtain⟨k,hk,rfl,hz⟩:=hrel
   by_cases hlt:k<6
   .have hc:=ex_cell Q0.out k hlt;have hp:=zL m (cV ds) k hlt;have HZ:=U4 (show gJ (fE m (cV ds))=((decide (0<(m.ex k).toNat)&&cV ds k==0) || gJ ((fE m (cV ds)).drop (k+1))) by rw[hz.out,hp];rfl);clear hp hz
    by_cases he:0<(m.ex k).toNat
    .have he1:decide (0<(m.ex k).toNat)=true:=by simpa using he
     by_cases hd:cV ds k=0
     .have hd1:(cV ds k==0)=true:=by simpa using hd
      have HZ':=U4 (show gJ (fE m (cV ds))=true by rw[HZ.out,he1,hd1];rfl);clear hd HZ
      go_wp2_with (go_at_call 172;refine(bPy B d ds k _ Q3.out).mono ?_;rintro e w' ⟨rfl,rfl⟩)
      go_ret
      exact⟨bAr (by unfold rW cW;rw[HZ'.out];rfl),Q2.out⟩
     .have hd1:(cV ds k==0)=false:=by simpa using hd
      have HZ':=U4 (show gJ (fE m (cV ds))=gJ ((fE m (cV ds)).drop (k+1)) by rw[HZ.out,hd1,Bool.and_false,Bool.false_or]);clear hd HZ
      go_wp2_with (go_at_call 172;refine(bPy B d ds k _ Q3.out).mono ?_;rintro e w' ⟨rfl,rfl⟩)
      go_round
      case rel=>exact⟨k+1,j5,by go_num,HZ'⟩
      case measure=>simp[intOf];omega
    .have he1:decide (0<(m.ex k).toNat)=false:=by simpa using he
     have HZ':=U4 (show gJ (fE m (cV ds))=gJ ((fE m (cV ds)).drop (k+1)) by rw[HZ.out,he1,Bool.false_and,Bool.false_or]);clear HZ
     go_wp2
     go_round
     case rel=>exact⟨k+1,j5,by go_num,HZ'⟩
     case measure=>simp[intOf];omega
   .have HZ:=U4 (show gJ (fE m (cV ds))=false by rw[hz.out,U8 ad9];rfl);clear hz
    go_wp2
    go_loop [7,5] (λi n=> ∃(k:Nat) (x:Int),k<=6/\i= .int .i64 k/\n= .int .i64 x/\InV x/\Hid (pA (fE m (cV ds)) (max m.n (-m.n))=pA ((fE m (cV ds)).drop k) x)) (λi _=>6-(intOf i).toNat)
    case atStart=>exact⟨0,_,S6 _,rfl,rfl,⟨j5,by unfold iA;omega⟩,by show _=_;rw[Q5];try (congr 1;omega)⟩
    case round=>
     obtain⟨k2,x,hk2,rfl,rfl,hx,hmul⟩:=hrel;have HX:=U4 hx;clear hx
     by_cases hlt2:k2<6
     .have hc:=ex_cell Q0.out k2 hlt2;have HM:=U4 (show pA (fE m (cV ds)) (max m.n (-m.n))=(sA (cV ds k2) (m.ex k2).toNat x).bind (pA ((fE m (cV ds)).drop (k2+1))) by rw[hmul.out,zL m (cV ds) k2 hlt2];rfl);have hd:=HD.out k2;obtain⟨hd0,hd1⟩:=hd;have hu:=(m.ex k2).toNat_lt;have HNZ:=U4 (zero_not HZ.out k2 hlt2);have Hside:=U4 (λW h=>bPy B d ds k2 W h);clear hmul;generalize m.ex k2=ee at hc HM hu HNZ⊢
      go_wp2
      go_loop [8,5] (λc n=> ∃(j:Nat) (y:Int),j<=ee.toNat/\c= .int .i64 j/\n= .int .i64 y/\InV y/\Hid (pA (fE m (cV ds)) (max m.n (-m.n))=(sA (cV ds k2) (ee.toNat-j) y).bind (pA ((fE m (cV ds)).drop (k2+1))))) (λc _=>ee.toNat-(intOf c).toNat)
      case atStart=>exact⟨0,x,S6 _,rfl,rfl,HX.out,HM⟩
      case round=>
       obtain⟨j,y,hj,rfl,rfl,hy,hpow⟩:=hrel;have HY:=U4 hy;clear hy
       by_cases hlt3:j<ee.toNat
       .have hd2:1<=cV ds k2:=by have:=HNZ.out j5;omega
        have HP:=U4 (show(sA (cV ds k2) (ee.toNat-j) y)=if iA/cV ds k2<y then none else sA (cV ds k2) (ee.toNat-(j+1)) (y*cV ds k2) by rw[show ee.toNat-j=(ee.toNat-(j+1))+1 by omega,sA])
        by_cases hq:iA/cV ds k2<y
        .have hq1:decide (4611686018427387904/cV ds k2<y)=true:=by simpa[iA]using hq
         go_wp2_with (go_at_call 172;refine(Hside.out _ Q3.out).mono ?_;rintro e w' ⟨rfl,rfl⟩)
         go_ret
         have e:cW m (cV ds)=(0,false):=by unfold cW;rw[HZ.out,hpow.out,HP.out,if_pos hq];rfl
         exact⟨bAr (by unfold rW;rw[e];rfl),Q2.out⟩
        .have hq1:decide (4611686018427387904/cV ds k2<y)=false:=by simpa[iA]using hq
         have HY2:=U4 (inV_mul HY.out hd2 hq);have hw:=wrap_inV HY2.out;have HP2:=U4 (show pA (fE m (cV ds)) (max m.n (-m.n))=(sA (cV ds k2) (ee.toNat-(j+1)) (y*cV ds k2)).bind (pA ((fE m (cV ds)).drop (k2+1))) by rw[hpow.out,HP.out,if_neg hq]);clear HP hpow
         go_wp2_with (go_at_call 172;refine(Hside.out _ Q3.out).mono ?_;rintro e w' ⟨rfl,rfl⟩)
         go_round
         case rel=>exact⟨j+1,y*cV ds k2,j5,by go_num,by first|rfl|rw[hw],HY2.out,HP2⟩
         case measure=>simp[intOf];omega
       .have HP:=U4 (show pA (fE m (cV ds)) (max m.n (-m.n))=pA ((fE m (cV ds)).drop (k2+1)) y by rw[hpow.out,show ee.toNat-j=0 by omega];rfl);clear hpow
        go_wp2
        go_round
        case rel=>exact⟨k2+1,y,j5,by go_num,rfl,HY.out,HP⟩
        case measure=>simp[intOf];omega
     .have e:cW m (cV ds)=(x,true):=by unfold cW;rw[HZ.out,hmul.out,U8 ad9];rfl
      have He:=U4 e;clear e hmul
      go_wp2
      go_ret
      exact⟨bAr (by unfold rW;rw[He.out];rfl),Q2.out⟩
theorem size_bd(m:Mono)(D:Nat->Int)(hD: ∀k,0<=D k):0<=rW m D:=by
 unfold rW;split
 .exact xD m D hD
 .unfold iA;omega
theorem bTv{m:Mono}{D:Nat->Int}{size:Int}(h0:0<=size):((cW m D).2=false\/iA-size<(cW m D).1)↔iA-size<rW m D:=by
 unfold rW;cases (cW m D).2
 .simp;omega
 .simp
theorem sizeP_ok{m:Mono}{D:Nat->Int}{size:Int}(h0:0<=size)(h: ¬iA-size<rW m D):(cW m D).1=rW m D:=by
 unfold rW at*;cases a:(cW m D).2
 .rw[a]at h;simp at h;omega
 .simp
set_option maxHeartbeats 1000000 in
theorem refEval_any(A B:Option Addr)(c d:Nat)(p:List Mono)(ds:List Int)(w:World)(ha:lR w A p)(hb:Ints w B ds)(hp:p.length<=140737488355328)(hq:ds.length<=140737488355328):
  Calls prog 46 #[.slice A p.length c,.slice B ds.length d] w λe w'=>e= .returned (.tuple #[j3 (bF p ds).1,j3 (bF p ds).2])/\Below w.heap.size w w':=by
 have Ha:=U4 ha;have Hb:=U4 hb;clear ha hb;cases hrp:cK p
 .have e:bF p ds=(0,20):=by unfold bF;rw[hrp];rfl
  rw[e]
  go_enter func46,ntmps46
  go_wp2_with fail
  refine(nN A c p _ Ha.out hp).mono ?_;rintro e w1 ⟨rfl,hb1⟩
  go_wp2
  go_ret2
  exact⟨rfl,hb1⟩
 .by_cases h6:ds.length<=6
  .have h61:decide ((6:Int)<(ds.length:Int))=false:=by simp;omega
   go_enter func46,ntmps46
   go_wp2_with fail
   refine(nN A c p _ Ha.out hp).mono ?_;rintro e w1 ⟨rfl,hb1⟩;have H1:=U4 hb1;clear hb1
   go_wp2
   go_loop [6] (λi=> ∃k:Nat,k<=ds.length/\i= .int .i64 k/\Hid (ds.all kL=(ds.drop k).all kL)) (λi=>ds.length-(intOf i).toNat)
   case atStart=>exact⟨0,S6 _,rfl,rfl⟩
   case round=>
    obtain⟨k,hk,rfl,hall⟩:=hrel
    by_cases hlt:k<ds.length
    .obtain⟨x,hx⟩: ∃x,ds[k]?=some x:=⟨ds[k],G1 hlt⟩
     have dm:ds.drop k=x::ds.drop (k+1):=by rw[aG hlt];have:=(G3.1 hx).2;rw[this]
     obtain⟨b,o,rfl,hB,c0⟩:=Hb.out.below H1.out k x hx;have HAll:=U4 (show ds.all kL=(kL x&&(ds.drop (k+1)).all kL) by rw[hall.out,dm,List.all_cons]);clear dm hx hall hB;cases hs:kL x
     .have e:bF p ds=(0,23):=by unfold bF;rw[hrp,show nY ds=false by unfold nY;rw[HAll.out,hs];simp];rfl
      have He:=U4 e;clear e
      have hs':x<0\/2147483648<x:=by have:=of_decide_eq_false hs;omega
      rcases Int.lt_or_le x 0 with hx0|hx0
      .have t1:decide (x<0)=true:=by simpa using hx0
       go_wp2
       go_ret2
       rw[He.out];exact⟨rfl,H1.out⟩
      .have t1:decide (x<0)=false:=by simpa using hx0
       have t2:decide (2147483648<x)=true:=by simp;omega
       go_wp2
       go_ret2
       rw[He.out];exact⟨rfl,H1.out⟩
     .have hs':0<=x/\x<=2147483648:=of_decide_eq_true hs;have t1:decide (x<0)=false:=by simp;omega
      have t2:decide (2147483648<x)=false:=by simp;omega
      have HA2:=U4 (show ds.all kL=(ds.drop (k+1)).all kL by rw[HAll.out,hs,Bool.true_and]);clear HAll hs'
      go_wp2
      go_round
      case rel=>exact⟨k+1,j5,by go_num,HA2⟩
      case measure=>simp[intOf];omega
    .have hall1:ds.all kL=true:=by rw[hall.out,U8 j5];rfl
     have HD:=U4 (bAc hall1)
     have He:=U4 (show bF p ds=match jV (cV ds) p 0 0 with|some n=>(n,0)|none=>(0,22) by
      unfold bF;rw[hrp,show nY ds=true by unfold nY;rw[hall1,decide_eq_true j5];rfl]
      rfl)
     have HRP:=U4 (show ∀m∈p,hJ m=true by
      unfold cK at hrp;simp only[Bool.and_eq_true]at hrp
      exact tK hrp.2)
     clear hall hall1
     go_wp2
     go_loopw [9,7,8] (λi lf sm wi=> ∃(j:Nat) (size sum:Int),j<=p.length/\i= .int .i64 j/\lf= .int .i64 (4611686018427387904-size)/\sm= .int .i64 sum/\Hid (0<=size/\size<=iA/\ -size<=sum/\sum<=size)/\Hid (jV (cV ds) p 0 0=jV (cV ds) (p.drop j) size sum)/\Below w.heap.size w wi) (λi _ _ _=>p.length-(intOf i).toNat)
     case atStart=>exact⟨0,0,0,S6 _,rfl,rfl,rfl,⟨j5,by unfold iA;omega,j5,j5⟩,rfl,H1.out⟩
     case round=>
      obtain⟨j,size,sum,hj,rfl,rfl,rfl,hbd,hev,hbl⟩:=hrel;have HB2:=U4 hbl;clear hbl
      by_cases hlt2:j<p.length
      .obtain⟨m,hm,dm⟩:=mS hlt2;obtain⟨b,o,rfl,hB,c0,c1,c2,c3,c4,c5,c6⟩:=Ha.out.below HB2.out j m hm;have hsm:hJ m=true:=HRP.out m (f5 hm);have hsm':m.n≠0/\m.n<=16777216/\ -16777216<=m.n/\m.deg<=8:=of_decide_eq_true hsm;have HV:=U4 (size_bd m (cV ds) (λk=>(HD.out k).1));obtain⟨g0,g1,g2,g3⟩:=hbd.out
       have HE:=U4 (show jV (cV ds) p 0 0=if iA-size<rW m (cV ds)then none
         else jV (cV ds) (p.drop (j+1)) (size+rW m (cV ds)) (if m.n<0 then sum-rW m (cV ds)else sum+rW m (cV ds)) by
        rw[hev.out,dm,jV]
        by_cases hq:iA-size<rW m (cV ds)
        .rw[if_pos hq,if_pos ((bTv g0).2 hq)]
        .rw[if_neg hq,if_neg (λh=>hq ((bTv g0).1 h)),sizeP_ok g0 hq])
       have Hval:=U4 (λW (h:Ints W B ds)=>size_any B d ds m W h HD.out ⟨hsm'.2.2.1,hsm'.2.1⟩);have HM:=U4 hm;clear hm dm hB hsm hsm' hev
       go_wp2_with fail
       refine(Hval.out _ (Hb.out.below HB2.out)).mono ?_;rintro e w5 ⟨rfl,hb5⟩;have HB5:=U4 (HB2.out.trans (hb5.mono HB2.out.size));obtain⟨b2,o2,hA2,hB2,k0,_⟩:=Ha.out.below HB5.out j m HM.out;injection hA2 with hA2
       injection hA2 with hA2 hA3
       subst hA2 hA3;clear hb5 c0 c1 c2 c3 c4 c5 c6 Hval HB2 hB2 HM;generalize rW m (cV ds)=n at HV HE⊢;have gn:0<=n:=HV.out;unfold iA at g1
       by_cases hq:iA-size<n
       .have hq1:decide (4611686018427387904-size<n)=true:=by simpa[iA]using hq
        have e:bF p ds=(0,22):=by rw[He.out,HE.out,if_pos hq]
        have He2:=U4 e;clear e HE hq
        go_wp2
        go_ret2
        rw[He2.out];exact⟨rfl,HB5.out⟩
       .have hq1:decide (4611686018427387904-size<n)=false:=by simpa[iA]using hq
        have hq2:size+n<=4611686018427387904:=by unfold iA at hq;omega
        by_cases hneg:m.n<0
        .have HE2:=U4 (show jV (cV ds) p 0 0=jV (cV ds) (p.drop (j+1)) (size+n) (sum-n) by rw[HE.out,if_neg hq,if_pos hneg]);have hneg1:decide (m.n<0)=true:=by simpa using hneg
         clear HE hq
         go_wp2
         go_roundw
         case rel=>exact⟨j+1,size+n,sum-n,j5,by go_num,by go_num,by go_num,⟨j5,by unfold iA;omega,j5,j5⟩,HE2,HB5.out⟩
         case measure=>simp[intOf];omega
        .have HE2:=U4 (show jV (cV ds) p 0 0=jV (cV ds) (p.drop (j+1)) (size+n) (sum+n) by rw[HE.out,if_neg hq,if_neg hneg]);have hneg1:decide (m.n<0)=false:=by simpa using hneg
         clear HE hq
         go_wp2
         go_roundw
         case rel=>exact⟨j+1,size+n,sum+n,j5,by go_num,by go_num,by go_num,⟨j5,by unfold iA;omega,j5,j5⟩,HE2,HB5.out⟩
         case measure=>simp[intOf];omega
      .have e:bF p ds=(sum,0):=by rw[He.out,hev.out,U8 j5,jV]
       have He2:=U4 e;clear e hev
       go_wp2
       go_ret2
       rw[He2.out];exact⟨rfl,HB2.out⟩
  .have h61:decide ((6:Int)<(ds.length:Int))=true:=by simp;omega
   have e:bF p ds=(0,23):=by unfold bF;rw[hrp,show nY ds=false by unfold nY;rw[decide_eq_false h6];rfl];rfl
   rw[e]
   go_enter func46,ntmps46
   go_wp2_with fail
   refine(nN A c p _ Ha.out hp).mono ?_;rintro e w1 ⟨rfl,hb1⟩
   go_wp2
   go_ret2
   exact⟨rfl,hb1⟩
end
section
open Go.RowKit Go.Proofs.Tryz
theorem bCk(p:PolV)(B:Option Addr)(d:Nat)(ds:List Int)(hp:p.B.length<=140737488355328)(hd:ds.length<=140737488355328):cJ prog 46 [f9 p,.slice B ds.length d] [] [cR p,dA.sl (.slice B ds.length d) ds] (λ_:Unit=> .tuple #[j3 (bF p.B ds).1,j3 (bF p.B ds).2]) (λ_=>[]) (λ_=>[]):=
 mE λ_ w a h=>refEval_any _ _ _ _ _ _ w (lE a (h _ (.head _))) (ints_of a (h _ (.tail _ (.head _)))) hp hd
theorem minR{a:Int}:(if (2097153:Int)<a then (2097153:Int)else a)=min a 2097153:=by split<;>omega
theorem mulR{n v:Int}(h0:0<=n)(h1:n<=2097153)(h2:0<=v)(h3:v<=65537):IntKind.i64.wrap (n*v)=n*v:=mulG h0 j5 h2 h3
section
variable {f z : Bool} {ds : List Int} {l : List (List Mono)} {i : Nat} {n : Int} {T : Option (Int × Bool)} {p : List Mono}
theorem bVq(h:T=turnR f ds (l.drop i) n z)(hx:l[i]?=some p)(hb:(bF p ds).2≠0\/65536<(bF p ds).1):T=none:=by obtain⟨hlt,e⟩:=G3.1 hx;rw[h,<-aH hlt,e];exact if_pos hb
theorem wR(h:T=turnR f ds (l.drop i) n z)(hx:l[i]?=some p)(h2:(bF p ds).2=0)(h3:(bF p ds).1<=65536){v:Int}(hv:v=if f=true/\i+1=l.length then (bF p ds).1+1 else (bF p ds).1):T=turnR f ds (l.drop (i+1)) (min (n*v) 2097153) (z || (v==0)):=by
 obtain⟨hlt,e⟩:=G3.1 hx
 have a:bJl f ds p (l.drop (i+1))=v:=by
  unfold bJl;rw[hv];have:l.drop (i+1)=[]↔i+1=l.length:=by rw[List.drop_eq_nil_iff];omega
  simp only[this]
 rw[h,<-aH hlt,e,turnR,if_neg j5,a]
theorem turnR_end(h:T=turnR f ds (l.drop i) n z)(hi:l.length<=i):T=some (n,z):=by rw[h,U8 hi];rfl
end
section
variable {ds : List Int} {l : List cT} {i : Nat} {a n : Int} {z : Bool} {R : Option Int} {x : cT}
theorem bSn(h:R=turnsR ds (l.drop i) a)(hx:l[i]?=some x):R=match turnR (x.N==2) ds x.H 1 false with
  |none=>none
  |some (n,z)=>turnsR ds (l.drop (i+1)) (if z=true then a else min (a+n*(x.ops.length:Nat)) 2097153):=by obtain⟨hlt,e⟩:=G3.1 hx;rw[h,<-aH hlt,e];rfl
theorem bVi(h:R=turnsR ds (l.drop i) a)(hx:l[i]?=some x)(ht:turnR (x.N==2) ds x.H 1 false=none):R=none:=by rw[bSn h hx,ht]
theorem bVd(h:R=turnsR ds (l.drop i) a)(hx:l[i]?=some x)(ht:turnR (x.N==2) ds x.H 1 false=some (n,z)):R=turnsR ds (l.drop (i+1)) (if z=true then a else min (a+n*(x.ops.length:Nat)) 2097153):=by rw[bSn h hx,ht]
theorem turnsR_end(h:R=turnsR ds (l.drop i) a)(hi:l.length<=i):R=some a:=by rw[h,U8 hi];rfl
end
set_option maxHeartbeats 1000000 in
theorem Turns19_spec(c:fX)(hr:dC c.c=true)(DA:Option Addr)(dcap:Nat)(dims:List Int)(hdl:dims.length<=140737488355328):cJ prog 17 [.agg #[j3 c.vars,f9 c.C,f9 c.D,f9 c.Q],.slice DA dims.length dcap] [] [lH c,dA.sl (.slice DA dims.length dcap) dims] (λ(_:Unit)=> .tuple #[j3 ((turnsR dims c.c.D 0).getD 0),.bool (turnsR dims c.c.D 0).isSome]) (λ_=>[]) (λ_=>[]):=by
 have hT:=dL
 obtain⟨R,t⟩: ∃R,turnsR dims c.c.D 0=R:=⟨_,rfl⟩
 refine j1 func17 ntmps17 ?_;intro β hM;refine g2 ?_;refine j0 λE=>?_;refine g16 ?_;refine bT (ι:=Int×Nat) [(1,_),(2,_)] ⟨rfl,rfl,e9⟩ (λ⟨al,i⟩=>[(6,.int .i64 al),(7,.int .i64 (i:Nat))]) (λ_=>[]) (λ⟨al,i⟩=>[bC.pure (i<=c.D.B.length/\(0<=al/\al<=2097153)/\R=turnsR dims (c.c.D.drop i) al)]) (λ⟨al,i⟩=>c.D.B.length-i) (0,0) ⟨rfl,rfl,e9⟩ .nil ⟨f4 (⟨j5,j5,t.symm⟩),e9⟩ ?_;rintro⟨al,i⟩;dsimp only;refine bG d7 λa=>?_;refine g2 ?_;refine bK (pU.sl (.slice c.D.O c.D.B.length c.D.cap) c.D.B) (lM (gS d8))<|bG (stepsF_c (gS d9)) λg=>?_;have A:=g.1;have y:=g.2;refine g8 ?_;refine dO (λo=>?_) λo=>?_
 .refine g5 ?_;obtain⟨x,hx⟩:=gx c.D.B i;have hg:=bHp hr dims (f5 hx);refine bK (mO x) (Has.each (oM (gS d9)) (f5 hx)) ?_;have hlo:=hg.hlo;have hll:=hg.hll
  obtain⟨T,f⟩: ∃T,turnR (x.N==2) dims (polsL x.H.B) 1 false=T:=⟨_,rfl⟩
  refine g4 ?_;refine ss (ixs i) ?_;refine ss (lI hx 0) ?_;refine i7 xE λD=>?_;refine g20 ?_;refine bK (fF.sl (.slice x.H.O x.H.B.length x.H.cap) x.H.B) (mW (nA d7)) ?_;refine bT (ι:=Int×Bool×Nat) [(1,_),(2,_),(6,_),(7,_),(8,_)] ⟨rfl,rfl,rfl,rfl,rfl,e9⟩ (λ⟨n,z,j⟩=>[(9,.int .i64 n),(10,.bool z),(11,.int .i64 (j:Nat))]) (λ_=>[]) (λ⟨n,z,j⟩=>[bC.pure (j<=x.H.B.length/\(0<=n/\n<=2097153)/\T=turnR (x.N==2) dims ((polsL x.H.B).drop j) n z)]) (λ⟨n,z,j⟩=>x.H.B.length-j) (1,false,0) ⟨rfl,rfl,rfl,e9⟩ .nil ⟨f4 (⟨j5,j5,f.symm⟩),e9⟩ ?_;rintro⟨n,z,j⟩;dsimp only;refine bG d7 λhinv9=>?_;refine g10 ?_;refine dO (λm=>?_) λm=>?_
  .refine g5 ?_;obtain⟨q,hq⟩:=gx x.H.B j;refine bK (cR q) (Has.each (mY (nA d9)) (f5 hq)) ?_;have u:=hg.hN q.B (f5 (cG hq));refine g4 ?_;refine ss (ixs j) ?_;refine ss (fV hq 0) ?_;refine one ?_;refine bG (dI d7) λw=>?_;refine bL func46 (bCk q DA dcap dims w hdl) rfl rfl .nil ⟨d7,e8,e9⟩ λ_=>?_;refine g9 ?_
   by_cases e:(bF q.B dims).2=0
   .have B:=u e;refine g3 ?_;refine bR (t':=false) (by rw[e];rfl) ?_;refine g6 ?_;refine dO (λl=>?_) λl=>?_
    .refine g18 ?_;have r:R=none:=bVi a.2.2 (cN hx) (f.trans (bVq hinv9.2.2 (cG hq) (.inr j5)));rw[t,r];exact rs2 () trivial
    refine g4 ?_
    by_cases s:x.N=2
    .refine g4 ?_;refine bR (t':=true) (by rw[s];rfl) ?_;refine g6 ?_;refine bM (z':=((x.H.B.length:Nat):Int)-1) (yI rfl j5 j5) ?_;refine g4 ?_;refine jU (λk=>?_) λk=>?_
     .have b:(bF q.B dims).1+1=if (x.N==2)=true/\j+1=(polsL x.H.B).length then (bF q.B dims).1+1 else (bF q.B dims).1:=by rw[bS,if_pos ⟨by rw[s];rfl,j5⟩]
      refine g3 ?_;refine bM (z':=(bF q.B dims).1+1) (jO j5 j5) ?_;refine g4 ?_
      rcases z with _|_
      .refine g13 ?_;refine bM (z':=n*((bF q.B dims).1+1)) (mulR j5 j5 j5 j5) ?_;refine one ?_;refine bM (z':=min (n*((bF q.B dims).1+1)) 2097153) minR ?_;refine g7 ?_;refine inc (j+1) ?_;refine g3 ?_;have d:0<=n*((bF q.B dims).1+1):=aO j5 j5;exact bk2 (min (n*((bF q.B dims).1+1)) 2097153,(false || (((bF q.B dims).1+1)==0)),j+1) ⟨f4 (⟨by dsimp only;omega,by dsimp only;omega,by dsimp only;exact wR hinv9.2.2 (cG hq) e j5 (v:=((bF q.B dims).1+1)) (b)⟩),e9⟩
      refine g13 ?_;refine bM (z':=n*((bF q.B dims).1+1)) (mulR j5 j5 j5 j5) ?_;refine one ?_;refine bM (z':=min (n*((bF q.B dims).1+1)) 2097153) minR ?_;refine g7 ?_;refine inc (j+1) ?_;refine g3 ?_;have d:0<=n*((bF q.B dims).1+1):=aO j5 j5;exact bk2 (min (n*((bF q.B dims).1+1)) 2097153,(true || (((bF q.B dims).1+1)==0)),j+1) ⟨f4 (⟨by dsimp only;omega,by dsimp only;omega,by dsimp only;exact wR hinv9.2.2 (cG hq) e j5 (v:=((bF q.B dims).1+1)) (b)⟩),e9⟩
     have b:(bF q.B dims).1=if (x.N==2)=true/\j+1=(polsL x.H.B).length then (bF q.B dims).1+1 else (bF q.B dims).1:=by rw[bS,if_neg (λh=>by have:=h.2;omega)]
     refine g3 ?_
     rcases z with _|_
     .refine g13 ?_;refine bM (z':=n*(bF q.B dims).1) (mulR j5 j5 j5 j5) ?_;refine one ?_;refine bM (z':=min (n*(bF q.B dims).1) 2097153) minR ?_;refine g7 ?_;refine inc (j+1) ?_;refine g3 ?_;have d:0<=n*(bF q.B dims).1:=aO j5 j5;exact bk2 (min (n*(bF q.B dims).1) 2097153,(false || ((bF q.B dims).1==0)),j+1) ⟨f4 (⟨by dsimp only;omega,by dsimp only;omega,by dsimp only;exact wR hinv9.2.2 (cG hq) e j5 (v:=(bF q.B dims).1) (b)⟩),e9⟩
     refine g13 ?_;refine bM (z':=n*(bF q.B dims).1) (mulR j5 j5 j5 j5) ?_;refine one ?_;refine bM (z':=min (n*(bF q.B dims).1) 2097153) minR ?_;refine g7 ?_;refine inc (j+1) ?_;refine g3 ?_;have d:0<=n*(bF q.B dims).1:=aO j5 j5;exact bk2 (min (n*(bF q.B dims).1) 2097153,(true || ((bF q.B dims).1==0)),j+1) ⟨f4 (⟨by dsimp only;omega,by dsimp only;omega,by dsimp only;exact wR hinv9.2.2 (cG hq) e j5 (v:=(bF q.B dims).1) (b)⟩),e9⟩
    have b:(bF q.B dims).1=if (x.N==2)=true/\j+1=(polsL x.H.B).length then (bF q.B dims).1+1 else (bF q.B dims).1:=by rw[bS,if_neg (λh=>s (by simpa using h.1))]
    refine g4 ?_;refine bR (t':=false) (by simpa using s) ?_;refine g14 ?_
    rcases z with _|_
    .refine g13 ?_;refine bM (z':=n*(bF q.B dims).1) (mulR j5 j5 j5 j5) ?_;refine one ?_;refine bM (z':=min (n*(bF q.B dims).1) 2097153) minR ?_;refine g7 ?_;refine inc (j+1) ?_;refine g3 ?_;have d:0<=n*(bF q.B dims).1:=aO j5 j5;exact bk2 (min (n*(bF q.B dims).1) 2097153,(false || ((bF q.B dims).1==0)),j+1) ⟨f4 (⟨by dsimp only;omega,by dsimp only;omega,by dsimp only;exact wR hinv9.2.2 (cG hq) e j5 (v:=(bF q.B dims).1) (b)⟩),e9⟩
    refine g13 ?_;refine bM (z':=n*(bF q.B dims).1) (mulR j5 j5 j5 j5) ?_;refine one ?_;refine bM (z':=min (n*(bF q.B dims).1) 2097153) minR ?_;refine g7 ?_;refine inc (j+1) ?_;refine g3 ?_;have d:0<=n*(bF q.B dims).1:=aO j5 j5;exact bk2 (min (n*(bF q.B dims).1) 2097153,(true || ((bF q.B dims).1==0)),j+1) ⟨f4 (⟨by dsimp only;omega,by dsimp only;omega,by dsimp only;exact wR hinv9.2.2 (cG hq) e j5 (v:=(bF q.B dims).1) (b)⟩),e9⟩
   refine g3 ?_;refine bR (t':=true) (by simpa using e) ?_;refine g25 ?_;have r:R=none:=bVi a.2.2 (cN hx) (f.trans (bVq hinv9.2.2 (cG hq) (.inl e)));rw[t,r];exact rs2 () trivial
  refine g6 ?_;have p:=f.trans (turnR_end hinv9.2.2 p9)
  rcases z with _|_
  .refine g13 ?_;refine bM (z':=n*((x.ops.B.length:Nat):Int)) (mulR j5 j5 j5 j5) ?_;refine one ?_;refine bM (z':=al+n*((x.ops.B.length:Nat):Int)) (jO (by have:=aO (show 0<=n by omega) (show(0:Int)<=((x.ops.B.length:Nat):Int) by omega);omega) (by have:=Int.mul_le_mul (show n<=2097153 by omega) (show((x.ops.B.length:Nat):Int)<=256 by omega) j5 j5;omega)) ?_;refine one ?_;refine bM (z':=min (al+n*(x.ops.B.length:Nat)) 2097153) minR ?_;refine g7 ?_;refine inc (i+1) ?_;refine g3 ?_;have C:0<=n*((x.ops.B.length:Nat):Int):=aO j5 j5;exact bk2 (min (al+n*(x.ops.B.length:Nat)) 2097153,i+1) ⟨f4 (⟨by dsimp only;omega,by dsimp only;omega,by dsimp only;exact(bVd a.2.2 (cN hx) p).trans (by rw[if_neg l4,show x.c.ops.length=x.ops.B.length from fQ _])⟩),e9⟩
  refine g12 ?_;refine inc (i+1) ?_;refine g3 ?_;exact bk2 (al,i+1) ⟨f4 (⟨by dsimp only;omega,by dsimp only;omega,by dsimp only;exact(bVd a.2.2 (cN hx) p).trans (by rw[if_pos rfl])⟩),e9⟩
 refine g13 ?_;have r:R=some al:=turnsR_end a.2.2 p7;rw[t,r];exact rs2 () trivial
theorem wrap_eq(z:Int):IntKind.i64.wrap z=wrap64 z:=by unfold wrap64;simp only[M9,N1,N2];simp;omega
theorem bBj(a b:UInt8):IntKind.u8.wrap ((a.toNat:Int)+(b.toNat:Int))=((a+b).toNat:Int):=by rw[UInt8.toNat_add];simp only[M9,N1,N2];simp
def polyT:Tab:=[(2,⟨.int .i64,1⟩),(3,⟨.int .i64,1⟩),(5,⟨.int .u8,1⟩),(4,⟨.bool,1⟩),(111,⟨.struct [(2,0),(109,1)],7⟩),(43,⟨.slice 111,1⟩),
 (109,⟨.array 6 5,6⟩),(27,⟨.slice 2,1⟩)]
theorem zZ:fC prog polyT:=uM.ok
 ⟨⟨by rw[underlying2];rfl,j8⟩,⟨by rw[underlying3];rfl,j8⟩,⟨by rw[underlying5];rfl,j8⟩,⟨by rw[underlying4];rfl,j8⟩,⟨by rw[underlying111];rfl,j8⟩,
  ⟨by rw[underlying43];rfl,j8⟩,⟨by rw[underlying109];rfl,j8⟩,⟨by rw[underlying27];rfl,j8⟩,e9⟩
theorem monoZero:(prog.info? 111).bind (·.zero)=some (.agg #[j3 0,j4 0,j4 0,j4 0,j4 0,j4 0,j4 0]):=by obtain⟨i,h,a,_⟩:=zB;rw[h];exact a
theorem built_n(z:Int):prog.built 111 [(0,j3 z)]=some #[j3 z,j4 0,j4 0,j4 0,j4 0,j4 0,j4 0]:=j8
theorem built_ne(z:Int)(a b c d e f:Value):prog.built 111 [(0,j3 z),(1,.agg #[a,b,c,d,e,f])]=some #[j3 z,a,b,c,d,e,f]:=j8
section
variable {β : dY} {n : Nat} {Γ : Env} {H : List bD} {F : List bC} {Q : Exit -> Act -> World -> Prop}
theorem at_one{ops:Array Oper}{rest:List Oper}{o:Oper}{d:Nat}{x:Operand}{m:Mono}(hw:want ops Γ o=some true)(ho:o.op= .buildSlice 43 1 #[(0,x)])(hd:o.dst=some d)(hn:Nat.blt d n=true)
  (hx:Γ.ev x=some (.agg #[j3 m.n,j4 m.e0.toNat,j4 m.q.toNat,j4 m.o.toNat,j4 m.j.toNat,j4 m.d.toNat,j4 m.Z.toNat])) (k: ∀b,At β n ((d,.slice (some ⟨b,0,none⟩) 1 1)::Γ) (.obj b (.cells (dM.all [m]).toArray 111)::H) F (wpList prog ops Q rest)):At β n Γ H F (wpList prog ops Q (o::rest)):=by
 obtain⟨i,e,a,c,_⟩:=zB;refine nX hw ho hd hn hx underlying43 e a j5 j5 ?_ k;rw[c]
 kernel_rfl
theorem at_app{ops:Array Oper}{rest:List Oper}{o:Oper}{d:Nat}{x y:Operand}{c q:Nat}{v:Value}{A:Option Addr}{xs ys:List Mono}{H':List bD}(hH:bZ H (dM.row v 111 xs) H')(hr:cF β H F dM A ys)(hg:o.guard=none)
  (ho:o.op= .call {callee:= .builtin .append,args:= #[x,y],argTypes:= #[43,43]}) (hd:o.dst=some d) (hn:Nat.blt d n=true)
  (hx:Γ.ev x=some v) (hy:Γ.ev y=some (.slice A q c)) (hq:q=ys.length) (hne:0<ys.length) (hl:xs.length+ys.length<=8796093022208)
  (k: ∀A' cap',At β n ((d,.slice A' (xs++ys).length cap')::Γ) (dM.row (.slice A' (xs++ys).length cap') 111 (xs++ys)::H') F (wpList prog ops Q rest)):At β n Γ H F (wpList prog ops Q (o::rest)):=by obtain⟨i,e,a,b,hb⟩:=zB;exact yO hH hr hg ho hd hn underlying43 e a b hb rfl hx hy hq hne j5 l4 k
end
theorem bRh(a b:Mono):cJ prog 171 [.agg #[j3 a.n,j4 a.e0.toNat,j4 a.q.toNat,j4 a.o.toNat,j4 a.j.toNat,j4 a.d.toNat,j4 a.Z.toNat],.agg #[j3 b.n,j4 b.e0.toNat,j4 b.q.toNat,j4 b.o.toNat,j4 b.j.toNat,j4 b.d.toNat,j4 b.Z.toNat]] [] [] (λ_:Unit=> j3 (bCl a b)) (λ_=>[]) (λ_=>[]):=mE λ_ w _ _=>bTi a b w
theorem oJ(A:Option Addr)(c:Nat)(l:List Mono)(hl:l.length<=140737488355328):cJ prog 101 [.slice A l.length c] [] [dM.sl (.slice A l.length c) l] (λ_:Unit=> .bool (cK l)) (λ_=>[]) (λ_=>[]):=
 mE λ_ w a h=>nN A c l w (monos_of a (h _ (F9 ..))).1 hl
def oH (m:Mono):List Mono->List Mono
 |[]=>[m]
 |a::l=>if m.key<a.key then a::oH m l else if a.key=m.key then ⟨wrap64 (a.n+m.n),a.e0,a.q,a.o,a.j,a.d,a.Z⟩::l else m::a::l
theorem bUn{a b:Mono}:bCl a b=1↔b.key<a.key:=by
 rw[bTk]
 by_cases h:b.key<a.key
 .simp[h]
 .by_cases h2:a.key<b.key<;>simp[h,h2]
theorem bSu{a b:Mono}:bCl a b=0↔a.key=b.key:=by
 rw[bTk]
 by_cases h:b.key<a.key
 .simp[h];omega
 .by_cases h2:a.key<b.key
  .simp[h,h2];omega
  .simp[h,h2];omega
theorem take_more{l:List Mono}{m x:Mono}{i:Nat}(hx:l[i]?=some x)(h: ∀y∈l.take i,m.key<y.key)(hk:m.key<x.key): ∀y∈l.take (i+1),m.key<y.key:=λy a=>by
 rw[G7,hx,AG]at a
 rcases F2.1 a with a|a
 .exact h y a
 .rw[Q7.1 a];exact hk
theorem put_eq{m x:Mono}: ∀{l:List Mono} {i:Nat},l[i]?=some x->(∀y∈l.take i,m.key<y.key)->x.key=m.key->oH m l=l.set i ⟨IntKind.i64.wrap (x.n+m.n),x.e0,x.q,x.o,x.j,x.d,x.Z⟩
 |[],i,h,_,_=>by simp at h
 |a::l,0,h,_,hk=>by
  simp at h;subst h;rw[oH,if_neg j5,if_pos hk,wrap_eq];rfl
 |a::l,i+1,h,ht,hk=>by rw[oH,if_pos (ht a m9),put_eq (l:=l) (i:=i) ab6 (λy b=>ht y (by simp[b])) hk];rfl
theorem put_ins{m:Mono}: ∀{l:List Mono} {i:Nat},(∀y∈l.take i,m.key<y.key)->i<=l.length->(∀x,l[i]?=some x->x.key<m.key)->oH m l=l.take i++m::l.drop i
 |[],i,_,hi,_=>by
  have:i=0:=by simpa using hi
  subst this;rfl
 |a::l,0,_,_,hx=>by
  have:=hx a rfl;rw[oH,if_neg j5,if_neg j5];rfl
 |a::l,i+1,ht,hi,hx=>by rw[oH,if_pos (ht a m9),put_ins (l:=l) (i:=i) (λy b=>ht y (by simp[b])) (by simpa using hi) (λx h=>hx x ab6)];rfl
theorem bMj{l cur:List Mono}{i:Nat}(hi:i<=l.length)(h: ∃z,cur=l.take i++z::l.drop i)(m:Mono):cur.set i m=l.take i++m::l.drop i:=by obtain⟨z,rfl⟩:=h;rw[List.set_append_right _ _ o6,show i-(l.take i).length=0 from by simp;omega];rfl
theorem bTq{l cur:List Mono}{k:Nat}{x:Mono}(hk:k<=l.length)(h0:0<k)(h: ∃z,cur=l.take k++z::l.drop k)(hx:cur[k-1]?=some x): ∃z,cur.set k x=l.take (k-1)++z::l.drop (k-1):=by
 obtain⟨z,a⟩:=h;refine⟨x,?_⟩;rw[bMj hk ⟨z,a⟩ x]
 obtain⟨j,rfl⟩: ∃j,k=j+1:=⟨k-1,j5⟩
 rw[Nat.add_sub_cancel]at hx⊢
 have b:l[j]?=some x:=by rw[a,List.getElem?_append_left o6,List.getElem?_take_of_lt j5]at hx;exact hx
 have hd:l.drop j=x::l.drop (j+1):=by
  have hlt:j<l.length:=j5
  rw[aG hlt]
  congr 1
  exact(G3.1 b).2
 rw[G7,b,hd];simp
theorem bQz(A:Option Addr)(cap:Nat)(l:List Mono)(m:Mono)(hl:l.length<=1000000):cJ prog 245 [.slice A l.length cap,.agg #[j3 m.n,j4 m.e0.toNat,j4 m.q.toNat,j4 m.o.toNat,j4 m.j.toNat,j4 m.d.toNat,j4 m.Z.toNat]] [dM.row (.slice A l.length cap) 111 l] [] (λ(x:Option Addr×Nat)=> .slice x.1 (oH m l).length x.2) (λ(x:Option Addr×Nat)=>[dM.row (.slice x.1 (oH m l).length x.2) 111 (oH m l)]) (λ_=>[]):=by
 have hT:=zZ;refine j1 func245 ntmps245 ?_;intro β hM;refine g2 ?_;refine j0 λp=>?_;refine g10 ?_;refine rU (ι:=Nat) (λi=>[(0,.slice A l.length cap),(3,.pointer (some ⟨p,0,none⟩)),(5,.int .i64 (i:Nat))]) (λi=>[.obj p (.cells m.cells.toArray 111),dM.row (.slice A l.length cap) 111 l]) (λi=>[bC.pure (i<=l.length/\ ∀x∈l.take i,m.key<x.key)]) (λi=>l.length-i) 0 ⟨rfl,rfl,rfl,e9⟩ (.c0 (.c0 .nil)) ⟨f4 m9,e9⟩ ?_;rintro i;refine bG d7 λa=>?_;refine g2 ?_;refine dK _ _ [j2,u1,u0,u2,u3,u4,u5,u6,u7,u9,A19,A01,A02] dJ k7 (.c0 (.c0 .nil)) bA.self ?_;refine g5 ?_;refine nO (λv=>?_) λv=>?_
 .refine g2 ?_;obtain⟨O,f⟩:=gx l i;refine stM rfl (ixs i) ?_;refine stM rfl (iC hT (cF.knows (bN kT1) f 0) rfl rfl rfl rfl rfl) ?_;refine g2 ?_;refine fS (bJ func171 rfl rfl) (bRh _ _) rfl rfl rfl rfl rfl .nil .nil iF e9 (λ_=>True) (λ_ _ _ _=>trivial) λ_ _=>?_;refine kP (.c0 (.c0 .nil)) ⟨d7,e9⟩ ?_;refine g4 ?_;refine jU (λc=>?_) λc=>?_
  .have c:=bUn.1 c;refine g6 ?_;refine inc (i+1) ?_;refine g4 ?_;exact qL (i+1) j5 ⟨rfl,rfl,rfl,e9⟩ (.c0 (.c0 .nil)) ⟨f4 (⟨j5,take_more ‹l[i]?=some _› a.2 c⟩),e9⟩
  have c:=mt bUn.2 c;refine g7 ?_;refine dK _ _ [j2,u1,u0,u2,u3,u4,u5,u6,u7,u9,A19,A01,A02] dJ k7 (.c0 (.c0 .nil)) bA.self ?_;refine g5 ?_;refine nO (λh=>?_) λh=>?_
  .refine g2 ?_;refine stM rfl (ixs i) ?_;refine stM rfl (iC hT (cF.knows (bN kT1) f 0) rfl rfl rfl rfl rfl) ?_;refine g2 ?_;refine fS (bJ func171 rfl rfl) (bRh _ _) rfl rfl rfl rfl rfl .nil .nil iF e9 (λ_=>True) (λ_ _ _ _=>trivial) λ_ _=>?_;refine kP (.c0 (.c0 .nil)) ⟨d7,e9⟩ ?_;refine g4 ?_;refine jU (λb=>?_) λb=>?_
   .have b:=bSu.1 b;refine cH<|at_rowg kT1 j5 λg hg=>?_;subst hg;refine dK _ _ [j2,u1,u0,u2,u3,u4,u6,u7,A08,u9,A00,A01,A24] dJ k7 (.c0 .nil) bA.self ?_;refine g4 ?_;refine stM rfl (kT hT (k:=i) rfl rfl rfl rfl rfl rfl j5) ?_;refine g4 ?_;refine ss (f7 hT (cF.knows (bN kT1) f 0)) ?_;refine kP (.c0 .nil) ⟨d7,e9⟩ ?_;refine one ?_;refine stM rfl (kT hT (k:=i) rfl rfl rfl rfl rfl rfl j5) ?_;refine g2 ?_;refine i6 hT (k:=i) (fo:=0) (y':=⟨_,_,_,_,_,_,_⟩) kT1 f ?_;refine kP (.c1 .nil) ⟨d7,e9⟩ ?_;refine g10 ?_;rw[put_eq f a.2 b,R0];exact bQk (some ⟨g,0,none⟩,cap) rfl rfl rfl (.c0 .nil) trivial
   have b:=mt bSu.2 b;refine g3 ?_;have d: ∀x,l[i]?=some x->x.key<m.key:=λx hx=>by rw[f]at hx;cases hx;omega
   refine g3 ?_;refine at_one (m:=m) rfl rfl rfl rfl rfl λP=>?_;refine at_app kT2 (fD .head rfl) rfl rfl rfl rfl rfl rfl rfl m9 o8 λQ c6=>?_;refine g5 ?_;refine at_rowg .head m9 λg7 hg=>?_;subst hg;have L:(l++[m]).length=l.length+1:=by simp
   refine g4 ?_;refine inc ((l++[m]).length-1) ?_;refine g4 ?_;refine rU (ι:=Nat×List Mono) (λ⟨k,cur⟩=>[(0,.slice (some ⟨g7,0,none⟩) (l++[m]).length c6),(3,.pointer (some ⟨p,0,none⟩)),(5,.int .i64 (i:Nat)),(6,.int .i64 (k:Nat))]) (λ⟨k,cur⟩=>[dM.row (.slice (some ⟨g7,0,none⟩) (l++[m]).length c6) 111 cur,.obj p (.cells m.cells.toArray 111)]) (λ⟨k,cur⟩=>[bC.pure (i<=k/\k<=l.length/\ ∃z,cur=l.take k++z::l.drop k)]) (λ⟨k,cur⟩=>k) ((l++[m]).length-1,l++[m]) ⟨rfl,rfl,rfl,rfl,e9⟩ (.c0 (.c1 .nil)) ⟨f4 (⟨j5,j5,m,m9⟩),e9⟩ ?_;rintro⟨k,cur⟩;dsimp only;refine bG d7 λhinv9=>?_;have D:cur.length=l.length+1:=by obtain⟨z,y⟩:=hinv9.2.2;rw[y];simp;omega
   refine g8 ?_;refine dO (λj=>?_) λj=>?_
   .refine g10 ?_;refine inc (k-1) ?_;obtain⟨E,B⟩:=gx cur (k-1);refine ss (kT hT (k:=(k-1)) rfl rfl rfl rfl rfl rfl j5) ?_;refine ss (iC hT (cF.knows (bN .head) B 0) rfl rfl rfl rfl rfl) ?_;obtain⟨K,u⟩:=gx cur k;refine ss (kT hT (k:=k) rfl rfl rfl rfl rfl rfl j5) ?_;refine i6 hT (k:=k) (fo:=0) (y':=E) .head u ?_;refine g6 ?_;refine inc (k-1) ?_;refine g3 ?_;exact qL (k-1,_) k8 ⟨rfl,rfl,rfl,rfl,e9⟩ (.c0 (.c0 .nil)) ⟨f4 (by refine⟨j5,j5,?_⟩;exact bTq hinv9.2.1 j5 hinv9.2.2 ‹cur[k-1]?=some _›),e9⟩
   refine g10 ?_;obtain⟨J,t⟩:=gx cur i;refine ss (kT hT (k:=i) rfl rfl rfl rfl rfl rfl j5) ?_;refine i6 hT (k:=i) (fo:=0) (y':=m) .head t ?_;refine g9 ?_;have C:k=i:=j5
   subst C;have e:oH m l=cur.set k m:=(put_ins a.2 a.1 d).trans (bMj a.1 hinv9.2.2 m).symm;have e2:(cur.set k m).length=(l++[m]).length:=by rw[R0];omega
   rw[e,e2];exact bQk (some ⟨g7,0,none⟩,c6) rfl rfl rfl (.c0 .nil) trivial
  omega
 refine g7 ?_;refine kP (.c0 (.c0 .nil)) ⟨d7,e9⟩ ?_;refine g12 ?_;refine dK _ _ [j2,u1,u0,u2,u3,u4,u5,u6,u7,u9,A19,A01,A02] dJ k7 (.c0 (.c0 .nil)) bA.self ?_;refine g5 ?_;refine nO (λh=>?_) λh=>?_
 .omega
 refine g7 ?_;refine kP (.c0 (.c0 .nil)) ⟨d7,e9⟩ ?_;refine g8 ?_;have d: ∀x,l[i]?=some x->x.key<m.key:=λx hx=>by rw[Y5 j5]at hx;cases hx
 refine g3 ?_;refine at_one (m:=m) rfl rfl rfl rfl rfl λM=>?_;refine at_app kT2 (fD .head rfl) rfl rfl rfl rfl rfl rfl rfl m9 o8 λN o=>?_;refine g5 ?_;refine at_rowg .head m9 λg17 hg=>?_;subst hg;have L:(l++[m]).length=l.length+1:=by simp
 refine g4 ?_;refine inc ((l++[m]).length-1) ?_;refine g4 ?_;refine rU (ι:=Nat×List Mono) (λ⟨k,cur⟩=>[(0,.slice (some ⟨g17,0,none⟩) (l++[m]).length o),(3,.pointer (some ⟨p,0,none⟩)),(5,.int .i64 (i:Nat)),(6,.int .i64 (k:Nat))]) (λ⟨k,cur⟩=>[dM.row (.slice (some ⟨g17,0,none⟩) (l++[m]).length o) 111 cur,.obj p (.cells m.cells.toArray 111)]) (λ⟨k,cur⟩=>[bC.pure (i<=k/\k<=l.length/\ ∃z,cur=l.take k++z::l.drop k)]) (λ⟨k,cur⟩=>k) ((l++[m]).length-1,l++[m]) ⟨rfl,rfl,rfl,rfl,e9⟩ (.c0 (.c1 .nil)) ⟨f4 (⟨j5,j5,m,m9⟩),e9⟩ ?_;rintro⟨k,cur⟩;dsimp only;refine bG d7 λhinv9=>?_;have D:cur.length=l.length+1:=by obtain⟨z,y⟩:=hinv9.2.2;rw[y];simp;omega
 refine g8 ?_;refine dO (λj=>?_) λj=>?_
 .refine g10 ?_;refine inc (k-1) ?_;obtain⟨w,s⟩:=gx cur (k-1);refine ss (kT hT (k:=(k-1)) rfl rfl rfl rfl rfl rfl j5) ?_;refine ss (iC hT (cF.knows (bN .head) s 0) rfl rfl rfl rfl rfl) ?_;obtain⟨I,r⟩:=gx cur k;refine ss (kT hT (k:=k) rfl rfl rfl rfl rfl rfl j5) ?_;refine i6 hT (k:=k) (fo:=0) (y':=w) .head r ?_;refine g6 ?_;refine inc (k-1) ?_;refine g3 ?_;exact qL (k-1,_) k8 ⟨rfl,rfl,rfl,rfl,e9⟩ (.c0 (.c0 .nil)) ⟨f4 (by refine⟨j5,j5,?_⟩;exact bTq hinv9.2.1 j5 hinv9.2.2 ‹cur[k-1]?=some _›),e9⟩
 refine g10 ?_;obtain⟨G,q⟩:=gx cur i;refine ss (kT hT (k:=i) rfl rfl rfl rfl rfl rfl j5) ?_;refine i6 hT (k:=i) (fo:=0) (y':=m) .head q ?_;refine g9 ?_;have C:k=i:=j5
 subst C;have e:oH m l=cur.set k m:=(put_ins a.2 a.1 d).trans (bMj a.1 hinv9.2.2 m).symm;have e2:(cur.set k m).length=(l++[m]).length:=by rw[R0];omega
 rw[e,e2];exact bQk (some ⟨g17,0,none⟩,o) rfl rfl rfl (.c0 .nil) trivial
def qK (l:List Mono):List Mono×Int:=if cK (l.filter nz)then (l.filter nz,0)else ([],21)
theorem bNw(x:Mono):[x].filter nz=if x.n=0 then []else [x]:=by by_cases h:x.n=0<;>simp[List.filter_cons,nz,h]
theorem bPf(A:Option Addr)(c:Nat)(l:List Mono)(hl:l.length<=1000000):cJ prog 246 [.slice A l.length c] [] [dM.sl (.slice A l.length c) l] (λ(x:Option Addr×Nat)=> .tuple #[.slice x.1 (qK l).1.length x.2,j3 (qK l).2]) (λ(x:Option Addr×Nat)=>[dM.row (.slice x.1 (qK l).1.length x.2) 111 (qK l).1]) (λ_=>[]):=by
 have hT:=zZ;refine j1 func246 ntmps246 ?_;intro β hM;refine g13 ?_;refine cL (t:=111) dM ?_;refine g5 ?_;refine rU (ι:=Nat×List Mono×Option Addr×Nat) (λ⟨i,out,B,cb⟩=>[(0,.slice A l.length c),(4,.slice B out.length cb),(5,.int .i64 (i:Nat))]) (λ⟨i,out,B,cb⟩=>[dM.row (.slice B out.length cb) 111 out]) (λ⟨i,out,B,cb⟩=>[bC.pure (i<=l.length/\out=(l.take i).filter nz),dM.sl (.slice A l.length c) l]) (λ⟨i,out,B,cb⟩=>l.length-i) (0,[],none,0) ⟨rfl,rfl,rfl,e9⟩ (.c0 .nil) ⟨f4 m9,d7,e9⟩ ?_;rintro⟨i,out,B,cb⟩;dsimp only;refine bG d7 λa=>?_;have k:out.length<=l.length:=by rw[a.2];exact C0 (List.length_filter_le _ _) o6
 refine g9 ?_;refine dO (λh=>?_) λh=>?_
 .refine g8 ?_;obtain⟨j,f⟩:=gx l i;refine ss (ixs i) ?_;refine one ?_;refine ss (f7 hT (cF.knows (bH d8) f 0)) ?_;refine g3 ?_;refine bEh (λd=>?_) λd=>?_
  .refine g4 ?_;refine ss (ixs i) ?_;refine ss (iC hT (cF.knows (bH d8) f 0) rfl rfl rfl rfl rfl) ?_;refine at_one (m:=j) rfl rfl rfl rfl rfl λn=>?_;refine at_app kT1 (fD .head rfl) rfl rfl rfl rfl rfl rfl rfl m9 o8 λo c5=>?_;refine g7 ?_;refine inc (i+1) ?_;refine g3 ?_;exact qL (i+1,_,_,_) k8 ⟨rfl,rfl,rfl,e9⟩ (.c0 .nil) ⟨f4 (by refine⟨j5,?_⟩;rw[G7,f,W6,<-a.2,AG,bNw];simp[d]),d8,e9⟩
  refine g6 ?_;refine inc (i+1) ?_;refine g3 ?_;exact qL (i+1,_,_,_) k8 ⟨rfl,rfl,rfl,e9⟩ (.c0 .nil) ⟨f4 (by refine⟨j5,?_⟩;rw[G7,f,W6,<-a.2,AG,bNw];simp[d]),d8,e9⟩
 refine g9 ?_;refine fS (bJ func101 rfl rfl) (oJ _ _ out j5) rfl rfl rfl rfl rfl .nil (.c0 .nil) (nR iF) ⟨d7,e9⟩ (λ_=>True) (λ_ _ _ _=>trivial) λ_ _=>?_;refine g3 ?_;refine tQ (λb=>?_) λb=>?_
 .refine g8 ?_
  have g:qK l=([],21):=by
   have e:out=l.filter nz:=by rw[a.2,Y2 j5]
   unfold qK;rw[<-e,b];rfl
  rw[g];refine cL (t:=111) dM ?_;exact pX (none,0) rfl rfl rfl rfl (.c0 .nil) trivial
 refine g10 ?_
 have g:qK l=(out,0):=by
  have e:out=l.filter nz:=by rw[a.2,Y2 j5]
  unfold qK;rw[<-e,b];rfl
 rw[g];exact pX (B,cb) rfl rfl rfl rfl (.c0 .nil) trivial
def kJ (acc:List Mono)(l:List Mono):List Mono:=l.foldl (λa m=>oH m a) acc
def bId (s:Int)(m:Mono):Mono:=⟨wrap64 (s*m.n),m.e0,m.q,m.o,m.j,m.d,m.Z⟩
theorem putP_len(m:Mono): ∀l:List Mono,(oH m l).length<=l.length+1
 |[]=>by simp[oH]
 |a::l=>by
  have:=putP_len m l;rw[oH];split
  .simp;omega
  .split<;>simp
theorem rF: ∀(l acc:List Mono),(kJ acc l).length<=acc.length+l.length
 |[],acc=>by simp[kJ]
 |m::l,acc=>by have h1:=rF l (oH m acc);have h2:=putP_len m acc;have e:kJ acc (m::l)=kJ (oH m acc) l:=rfl;rw[e,G5];omega
theorem bCm(acc l k:List Mono):kJ acc (l++k)=kJ (kJ acc l) k:=List.foldl_append
theorem yW(acc l:List Mono)(m:Mono):kJ acc (l++[m])=oH m (kJ acc l):=by rw[bCm];rfl
def iD (p q:List Mono)(s:Int):List Mono×Int:=if cK p&&cK q then qK (kJ (kJ [] p) (q.map (bId s)))else ([],20)
def oV (p q:List Mono):List Mono×Int:=if cK p&&cK q then qK (kJ [] (p.flatMap λa=>q.map (mulM a)))else ([],20)
theorem flat_len(q:List Mono): ∀l:List Mono,(l.flatMap λa=>q.map (mulM a)).length=l.length*q.length
 |[]=>by simp
 |a::l=>by rw[eR,G4,flat_len q l,I2,G5,Nat.add_mul,Nat.one_mul,Nat.add_comm]
theorem refMul_len{p q:List Mono}{i:Nat}(hi:i<=p.length):(kJ [] ((p.take i).flatMap λa=>q.map (mulM a))).length<=i*q.length:=by refine C0 (rF _ _) ?_;rw[flat_len,List.length_take,Nat.min_eq_left hi];simp
theorem xX{p:List Mono}(h:cK p=true):p.length<=48:=by unfold cK at h;simp at h;exact h.1
theorem bRw(A B:Option Addr)(c d:Nat)(p q:List Mono)(s:Int)(hpl:p.length<=140737488355328)(hql:q.length<=140737488355328):cJ prog 209 [.slice A p.length c,.slice B q.length d,j3 s] [] [dM.sl (.slice A p.length c) p,dM.sl (.slice B q.length d) q] (λ(x:Option Addr×Nat)=> .tuple #[.slice x.1 (iD p q s).1.length x.2,j3 (iD p q s).2]) (λ(x:Option Addr×Nat)=>[dM.row (.slice x.1 (iD p q s).1.length x.2) 111 (iD p q s).1]) (λ_=>[]):=by
 have hT:=zZ;refine j1 func209 ntmps209 ?_;intro β hM;refine g10 ?_;refine fS (bJ func101 rfl rfl) (oJ _ _ p j5) rfl rfl rfl rfl rfl .nil .nil iF ⟨d7,e9⟩ (λ_=>True) (λ_ _ _ _=>trivial) λ_ _=>?_;refine g2 ?_;refine bHr (λf=>?_) λf=>?_
 .have b:=f;refine g15 ?_;have l:iD p q s=([],20):=by unfold iD;simp[b]
  rw[l];refine cL (t:=111) dM ?_;exact pX (none,0) rfl rfl rfl rfl (.c0 .nil) trivial
 have b:=f;refine one ?_;refine fS (bJ func101 rfl rfl) (oJ _ _ q j5) rfl rfl rfl rfl rfl .nil .nil iF ⟨d8,e9⟩ (λ_=>True) (λ_ _ _ _=>trivial) λ_ _=>?_;refine g4 ?_;refine tQ (λg=>?_) λg=>?_
 .have h:=g;refine g8 ?_;have l:iD p q s=([],20):=by unfold iD;simp[b,h]
  rw[l];refine cL (t:=111) dM ?_;exact pX (none,0) rfl rfl rfl rfl (.c0 .nil) trivial
 have h:=g;have w:=xX b;have hq:=xX h;refine g9 ?_;refine cL (t:=111) dM ?_;refine g5 ?_;refine rU (ι:=Nat×List Mono×Option Addr×Nat) (λ⟨i,cur,C,e⟩=>[(0,.slice A p.length c),(1,.slice B q.length d),(2,.int .i64 s),(8,.slice C cur.length e),(9,.int .i64 (i:Nat))]) (λ⟨i,cur,C,e⟩=>[dM.row (.slice C cur.length e) 111 cur]) (λ⟨i,cur,C,e⟩=>[bC.pure (i<=p.length/\cur=kJ [] (p.take i)),dM.sl (.slice A p.length c) p,dM.sl (.slice B q.length d) q]) (λ⟨i,cur,C,e⟩=>p.length-i) (0,[],none,0) ⟨rfl,rfl,rfl,rfl,rfl,e9⟩ (.c0 .nil) ⟨f4 (⟨j5,by rfl⟩),d7,d8,e9⟩ ?_;rintro⟨i,cur,C,e⟩;dsimp only;refine bG d7 λa=>?_;have r:cur.length<=i:=by rw[a.2];exact C0 (rF _ _) o6
 refine g9 ?_;refine dO (λn=>?_) λn=>?_
 .refine g8 ?_;obtain⟨u,o⟩:=gx p i;refine ss (ixs i) ?_;refine ss (iC hT (cF.knows (bH d8) o 0) rfl rfl rfl rfl rfl) ?_;refine bL func245 (bQz _ _ cur u j5) rfl rfl (.c0 .nil) e9 λ⟨B3,c4⟩=>?_;refine g7 ?_;refine inc (i+1) ?_;refine g3 ?_;exact qL (i+1,_,_,_) k8 ⟨rfl,rfl,rfl,rfl,rfl,e9⟩ (.c0 .nil) ⟨f4 (by refine⟨j5,?_⟩;rw[G7,‹p[i]?=some _›,AG,yW,<-a.2]),d8,d9,e9⟩
 refine g12 ?_;refine rU (ι:=Nat×List Mono×Option Addr×Nat) (λ⟨k,cur,C,e⟩=>[(1,.slice B q.length d),(2,.int .i64 s),(8,.slice C cur.length e),(10,.int .i64 (k:Nat))]) (λ⟨k,cur,C,e⟩=>[dM.row (.slice C cur.length e) 111 cur]) (λ⟨k,cur,C,e⟩=>[bC.pure (k<=q.length/\cur=kJ (kJ [] p) ((q.take k).map (bId s))),dM.sl (.slice B q.length d) q]) (λ⟨k,cur,C,e⟩=>q.length-k) (0,cur,C,e) ⟨rfl,rfl,rfl,rfl,e9⟩ (.c0 .nil) ⟨f4 (⟨j5,by rw[a.2,Y2 j5];rfl⟩),d9,e9⟩ ?_;rintro⟨k,cur,C,e⟩;dsimp only;refine bG d7 λhinv9=>?_;have r:cur.length<=p.length+k:=by rw[hinv9.2];refine C0 (rF _ _) ?_;have:=rF p [];simp at this⊢;omega
 refine g9 ?_;refine dO (λm=>?_) λm=>?_
 .refine g4 ?_;refine dK _ _ [j2,u1,u0,u2,u3,u4,u5,u6,u7,u9,A00,A01,A02,A03,(false,14),A05] dJ k7 .nil bA.self ?_;refine g4 ?_;obtain⟨v,j⟩:=gx q k;refine stM rfl (ixs k) ?_;refine one ?_;refine stM rfl (f7 hT (cF.knows (bH d8) j 0)) ?_;refine g3 ?_;refine stM rfl (ixs k) ?_;refine one ?_;refine stM rfl (iC hT (cF.knows (bH d8) j 1) rfl rfl rfl rfl rfl) ?_;refine stM rfl (bY rfl rfl (built_ne _ _ _ _ _ _ _)) ?_;refine one ?_;refine bL func245 (bQz _ _ cur ⟨_,_,_,_,_,_,_⟩ j5) rfl rfl (.c0 .nil) e9 λ⟨B7,c8⟩=>?_;refine kP .nil ⟨d7,d8,e9⟩ ?_;refine g7 ?_;refine inc (k+1) ?_;refine g3 ?_;exact qL (k+1,_,_,_) k8 ⟨rfl,rfl,rfl,rfl,e9⟩ (.c0 .nil) ⟨f4 (by refine⟨j5,?_⟩;rw[G7,‹q[k]?=some _›,AG,P4,AE,yW,<-hinv9.2,bId,<-wrap_eq];rfl),d8,e9⟩
 refine g8 ?_;refine fS (bJ func246 rfl rfl) (bPf _ _ cur j5) rfl rfl rfl rfl rfl .nil (.c0 .nil) (nR iF) ⟨d7,e9⟩ (λ_=>True) (λ_ _ _ _=>trivial) λ⟨B9,c10⟩ _=>?_;refine g7 ?_;have l:iD p q s=qK cur:=by unfold iD;rw[b,h,hinv9.2,Y2 j5];rfl
 rw[l];exact pX (B9,c10) rfl rfl rfl rfl (.c0 .nil) trivial
theorem refMul_spec(A B:Option Addr)(c d:Nat)(p q:List Mono)(hpl:p.length<=140737488355328)(hql:q.length<=140737488355328):cJ prog 208 [.slice A p.length c,.slice B q.length d] [] [dM.sl (.slice A p.length c) p,dM.sl (.slice B q.length d) q] (λ(x:Option Addr×Nat)=> .tuple #[.slice x.1 (oV p q).1.length x.2,j3 (oV p q).2]) (λ(x:Option Addr×Nat)=>[dM.row (.slice x.1 (oV p q).1.length x.2) 111 (oV p q).1]) (λ_=>[]):=by
 have hT:=zZ;refine j1 func208 ntmps208 ?_;intro β hM;refine g10 ?_;refine fS (bJ func101 rfl rfl) (oJ _ _ p j5) rfl rfl rfl rfl rfl .nil .nil iF ⟨d7,e9⟩ (λ_=>True) (λ_ _ _ _=>trivial) λ_ _=>?_;refine g2 ?_;refine bHr (λj=>?_) λj=>?_
 .have h:=j;refine g15 ?_;have o:oV p q=([],20):=by unfold oV;simp[h]
  rw[o];refine cL (t:=111) dM ?_;exact pX (none,0) rfl rfl rfl rfl (.c0 .nil) trivial
 have h:=j;refine one ?_;refine fS (bJ func101 rfl rfl) (oJ _ _ q j5) rfl rfl rfl rfl rfl .nil .nil iF ⟨d8,e9⟩ (λ_=>True) (λ_ _ _ _=>trivial) λ_ _=>?_;refine g4 ?_;refine tQ (λl=>?_) λl=>?_
 .have m:=l;refine g8 ?_;have o:oV p q=([],20):=by unfold oV;simp[h,m]
  rw[o];refine cL (t:=111) dM ?_;exact pX (none,0) rfl rfl rfl rfl (.c0 .nil) trivial
 have m:=l;have D:=xX h;have hq:=xX m;refine g9 ?_;refine cL (t:=111) dM ?_;refine g5 ?_;refine rU (ι:=Nat×List Mono×Option Addr×Nat) (λ⟨i,cur,C,e⟩=>[(0,.slice A p.length c),(1,.slice B q.length d),(6,.slice C cur.length e),(7,.int .i64 (i:Nat))]) (λ⟨i,cur,C,e⟩=>[dM.row (.slice C cur.length e) 111 cur]) (λ⟨i,cur,C,e⟩=>[bC.pure (i<=p.length/\cur=kJ [] ((p.take i).flatMap λa=>q.map (mulM a))),dM.sl (.slice A p.length c) p,dM.sl (.slice B q.length d) q]) (λ⟨i,cur,C,e⟩=>p.length-i) (0,[],none,0) ⟨rfl,rfl,rfl,rfl,e9⟩ (.c0 .nil) ⟨f4 (⟨j5,by rfl⟩),d7,d8,e9⟩ ?_;rintro⟨i,cur,C,e⟩;dsimp only;refine bG d7 λg=>?_;have w:cur.length<=i*q.length:=by rw[g.2];exact refMul_len j5
 have v:i*q.length<=48*48:=Nat.mul_le_mul j5 hq;refine g9 ?_;refine dO (λs=>?_) λs=>?_
 .refine g5 ?_;obtain⟨y,n⟩:=gx p i;refine g5 ?_;refine rU (ι:=Nat×List Mono×Option Addr×Nat) (λ⟨k,cur',C',e'⟩=>[(0,.slice A p.length c),(1,.slice B q.length d),(6,.slice C' cur'.length e'),(7,.int .i64 (i:Nat)),(8,.int .i64 (k:Nat))]) (λ⟨k,cur',C',e'⟩=>[dM.row (.slice C' cur'.length e') 111 cur']) (λ⟨k,cur',C',e'⟩=>[bC.pure (k<=q.length/\cur'=kJ cur ((q.take k).map (mulM y))),dM.sl (.slice A p.length c) p,dM.sl (.slice B q.length d) q]) (λ⟨k,cur',C',e'⟩=>q.length-k) (0,cur,C,e) ⟨rfl,rfl,rfl,rfl,rfl,e9⟩ (.c0 .nil) ⟨f4 (⟨j5,by rfl⟩),d8,d9,e9⟩ ?_;rintro⟨k,cur',C',e'⟩;dsimp only;refine bG d7 λf=>?_;have u:cur'.length<=cur.length+k:=by rw[f.2];refine C0 (rF _ _) o6
  refine g9 ?_;refine dO (λr=>?_) λr=>?_
  .refine g5 ?_;refine dK _ _ [j2,u1,u0,u2,u3,u4,u5,u6,u7,u9,A00,A01,A24,A25] dJ k7 (.c0 .nil) bA.self ?_;refine g2 ?_;refine stM rfl (ixs i) ?_;refine one ?_;refine stM rfl (f7 hT (cF.knows (bH d8) n 0)) ?_;refine g2 ?_;obtain⟨z,b⟩:=gx q k;refine stM rfl (ixs k) ?_;refine one ?_;refine stM rfl (f7 hT (cF.knows (bH d9) b 0)) ?_;refine one ?_;refine stM rfl (bY rfl rfl (built_n _)) ?_;refine one ?_;refine i7 monoZero λE=>?_;refine kP (.c1 .nil) ⟨d7,d8,d9,e9⟩ ?_;refine g2 ?_;refine kP (.c1 .nil) ⟨d7,d8,d9,e9⟩ ?_;refine g9 ?_;refine bGt 7 ?_;refine qR ?_;refine g7 ?_;refine gT rfl l4 ?_;refine g4 ?_;refine dK _ _ [j2,u1,u0,u2,u3,u4,u5,u6,u7,u9,A00,A01,A02,A03,A04,A05,A07,A06,A17] dJ k7 (.c1 .nil) bA.self ?_;refine g4 ?_;refine stM rfl (ixs i) ?_;refine one ?_;refine stM rfl (cX hT (k:=0) rfl rfl rfl rfl rfl rfl j5) ?_;refine stM rfl (f7 hT (cF.knows (bH d8) n 1)) ?_;refine g3 ?_;refine stM rfl (ixs k) ?_;refine one ?_;refine stM rfl (cX hT (k:=0) rfl rfl rfl rfl rfl rfl j5) ?_;refine stM rfl (f7 hT (cF.knows (bH d9) b 1)) ?_;refine one ?_;refine bM (bBj _ _) ?_;refine one ?_;refine stM rfl (cX hT (k:=0) rfl rfl rfl rfl rfl rfl j5) ?_;refine g2 ?_;refine kP (.c1 .nil) ⟨d7,d8,d9,e9⟩ ?_;refine g6 ?_;refine inc 1 ?_;refine g3 ?_;refine qR ?_;refine g7 ?_;refine gT rfl l4 ?_;refine g4 ?_;refine dK _ _ [j2,u1,u0,u2,u3,u4,u5,u6,u7,u9,A00,A01,A02,A03,A04,A05,A07,A06,A17] dJ k7 (.c1 .nil) bA.self ?_;refine g4 ?_;refine stM rfl (ixs i) ?_;refine one ?_;refine stM rfl (cX hT (k:=1) rfl rfl rfl rfl rfl rfl j5) ?_;refine stM rfl (f7 hT (cF.knows (bH d8) n 2)) ?_;refine g3 ?_;refine stM rfl (ixs k) ?_;refine one ?_;refine stM rfl (cX hT (k:=1) rfl rfl rfl rfl rfl rfl j5) ?_;refine stM rfl (f7 hT (cF.knows (bH d9) b 2)) ?_;refine one ?_;refine bM (bBj _ _) ?_;refine one ?_;refine stM rfl (cX hT (k:=1) rfl rfl rfl rfl rfl rfl j5) ?_;refine g2 ?_;refine kP (.c1 .nil) ⟨d7,d8,d9,e9⟩ ?_;refine g6 ?_;refine inc 2 ?_;refine g3 ?_;refine qR ?_;refine g7 ?_;refine gT rfl l4 ?_;refine g4 ?_;refine dK _ _ [j2,u1,u0,u2,u3,u4,u5,u6,u7,u9,A00,A01,A02,A03,A04,A05,A07,A06,A17] dJ k7 (.c1 .nil) bA.self ?_;refine g4 ?_;refine stM rfl (ixs i) ?_;refine one ?_;refine stM rfl (cX hT (k:=2) rfl rfl rfl rfl rfl rfl j5) ?_;refine stM rfl (f7 hT (cF.knows (bH d8) n 3)) ?_;refine g3 ?_;refine stM rfl (ixs k) ?_;refine one ?_;refine stM rfl (cX hT (k:=2) rfl rfl rfl rfl rfl rfl j5) ?_;refine stM rfl (f7 hT (cF.knows (bH d9) b 3)) ?_;refine one ?_;refine bM (bBj _ _) ?_;refine one ?_;refine stM rfl (cX hT (k:=2) rfl rfl rfl rfl rfl rfl j5) ?_;refine g2 ?_;refine kP (.c1 .nil) ⟨d7,d8,d9,e9⟩ ?_;refine g6 ?_;refine inc 3 ?_;refine g3 ?_;refine qR ?_;refine g7 ?_;refine gT rfl l4 ?_;refine g4 ?_;refine dK _ _ [j2,u1,u0,u2,u3,u4,u5,u6,u7,u9,A00,A01,A02,A03,A04,A05,A07,A06,A17] dJ k7 (.c1 .nil) bA.self ?_;refine g4 ?_;refine stM rfl (ixs i) ?_;refine one ?_;refine stM rfl (cX hT (k:=3) rfl rfl rfl rfl rfl rfl j5) ?_;refine stM rfl (f7 hT (cF.knows (bH d8) n 4)) ?_;refine g3 ?_;refine stM rfl (ixs k) ?_;refine one ?_;refine stM rfl (cX hT (k:=3) rfl rfl rfl rfl rfl rfl j5) ?_;refine stM rfl (f7 hT (cF.knows (bH d9) b 4)) ?_;refine one ?_;refine bM (bBj _ _) ?_;refine one ?_;refine stM rfl (cX hT (k:=3) rfl rfl rfl rfl rfl rfl j5) ?_;refine g2 ?_;refine kP (.c1 .nil) ⟨d7,d8,d9,e9⟩ ?_;refine g6 ?_;refine inc 4 ?_;refine g3 ?_;refine qR ?_;refine g7 ?_;refine gT rfl l4 ?_;refine g4 ?_;refine dK _ _ [j2,u1,u0,u2,u3,u4,u5,u6,u7,u9,A00,A01,A02,A03,A04,A05,A07,A06,A17] dJ k7 (.c1 .nil) bA.self ?_;refine g4 ?_;refine stM rfl (ixs i) ?_;refine one ?_;refine stM rfl (cX hT (k:=4) rfl rfl rfl rfl rfl rfl j5) ?_;refine stM rfl (f7 hT (cF.knows (bH d8) n 5)) ?_;refine g3 ?_;refine stM rfl (ixs k) ?_;refine one ?_;refine stM rfl (cX hT (k:=4) rfl rfl rfl rfl rfl rfl j5) ?_;refine stM rfl (f7 hT (cF.knows (bH d9) b 5)) ?_;refine one ?_;refine bM (bBj _ _) ?_;refine one ?_;refine stM rfl (cX hT (k:=4) rfl rfl rfl rfl rfl rfl j5) ?_;refine g2 ?_;refine kP (.c1 .nil) ⟨d7,d8,d9,e9⟩ ?_;refine g6 ?_;refine inc 5 ?_;refine g3 ?_;refine qR ?_;refine g7 ?_;refine gT rfl l4 ?_;refine g4 ?_;refine dK _ _ [j2,u1,u0,u2,u3,u4,u5,u6,u7,u9,A00,A01,A02,A03,A04,A05,A07,A06,A17] dJ k7 (.c1 .nil) bA.self ?_;refine g4 ?_;refine stM rfl (ixs i) ?_;refine one ?_;refine stM rfl (cX hT (k:=5) rfl rfl rfl rfl rfl rfl j5) ?_;refine stM rfl (f7 hT (cF.knows (bH d8) n 6)) ?_;refine g3 ?_;refine stM rfl (ixs k) ?_;refine one ?_;refine stM rfl (cX hT (k:=5) rfl rfl rfl rfl rfl rfl j5) ?_;refine stM rfl (f7 hT (cF.knows (bH d9) b 6)) ?_;refine one ?_;refine bM (bBj _ _) ?_;refine one ?_;refine stM rfl (cX hT (k:=5) rfl rfl rfl rfl rfl rfl j5) ?_;refine g2 ?_;refine kP (.c1 .nil) ⟨d7,d8,d9,e9⟩ ?_;refine g6 ?_;refine inc 6 ?_;refine g3 ?_;refine qR ?_;refine g7 ?_;refine jE rfl l4 ?_;refine g8 ?_;refine bL func245 (bQz _ _ cur' ⟨_,_,_,_,_,_,_⟩ j5) rfl rfl (.c1 .nil) e9 λ⟨B4,c5⟩=>?_;refine g7 ?_;refine inc (k+1) ?_;refine g3 ?_;exact qL (k+1,_,_,_) k8 ⟨rfl,rfl,rfl,rfl,rfl,e9⟩ (.c0 .nil) ⟨f4 (by refine⟨j5,?_⟩;rw[G7,‹q[k]?=some _›,AG,P4,AE,yW,<-f.2,mulM,<-wrap_eq];rfl),d8,d9,e9⟩
  refine g9 ?_;refine inc (i+1) ?_;refine g3 ?_;exact qL (i+1,_,_,_) k8 ⟨rfl,rfl,rfl,rfl,e9⟩ (.c0 .nil) ⟨f4 (by refine⟨j5,?_⟩;rw[G7,n,AG,List.flatMap_append,List.flatMap_singleton,bCm,<-g.2,f.2,Y2 j5]),d8,d9,e9⟩
 refine g8 ?_;refine fS (bJ func246 rfl rfl) (bPf _ _ cur j5) rfl rfl rfl rfl rfl .nil (.c0 .nil) (nR iF) ⟨d7,e9⟩ (λ_=>True) (λ_ _ _ _=>trivial) λ⟨B6,c7⟩ _=>?_;refine g7 ?_;have o:oV p q=qK cur:=by unfold oV;rw[h,m,g.2,Y2 j5];rfl
 rw[o];exact pX (B6,c7) rfl rfl rfl rfl (.c0 .nil) trivial
theorem lin_put{F:Mono->Int}(hF:Ext F)(m:Mono): ∀l:List Mono,fU (lin F (oH m l)) (lin F l+m.n*F m)
 |[]=>fU.of_eq (by rw[oH,iK];show _=(0:Int)+_;have:lin F []=0:=rfl;omega)
 |a::l=>by
  have b:=lin_put hF m l;rw[oH];split
  .rw[iK,iK];exact((fU.refl (a.n*F a)).add b).trans (fU.of_eq j5)
  .split
   .rename_i c;have e1:F ⟨wrap64 (a.n+m.n),a.e0,a.q,a.o,a.j,a.d,a.Z⟩=F a:=hF _ _ rfl;rw[iK,iK,e1,<-hF a m c];have h:=((tX (a.n+m.n)).mul (F a)).add (fU.refl (lin F l));have e:(a.n+m.n)*F a+lin F l=a.n*F a+lin F l+m.n*F a:=by rw[Int.add_mul];omega
    exact e▸h
   .rw[iK];exact fU.of_eq j5
theorem wX{F:Mono->Int}(hF:Ext F): ∀(l acc:List Mono),fU (lin F (kJ acc l)) (lin F acc+lin F l)
 |[],acc=>fU.of_eq (by show lin F acc=_;have:lin F []=0:=rfl;omega)
 |m::l,acc=>by have h:=wX hF l (oH m acc);have h2:=(lin_put hF m acc).add (fU.refl (lin F l));rw[iK];exact h.trans (h2.trans (fU.of_eq j5))
theorem bVf(m:Mono): ∀{l:List Mono},pS l->pS (oH m l)/\ ∀k,m.key<k->(∀y∈l,y.key<k)-> ∀y∈oH m l,y.key<k
 |[],_=>by simp[oH,pS]
 |a::l,h=>by
  obtain⟨h1,h2⟩:=F4.1 h;obtain⟨e,d⟩:=bVf m h2
  have key: ∀y∈oH m (a::l),y.key<=m.key\/y.key<=a.key:=λy b=>by
   rw[oH]at b;split at b
   .rename_i c
    rcases F1.1 b with rfl|b
    .exact .inr (B8 _)
    .exact .inr (AF (d a.key c h1 y b))
   .split at b
    .rcases F1.1 b with rfl|b
     .exact .inr (B8 _)
     .exact .inr (AF (h1 y b))
    .rcases F1.1 b with rfl|b
     .exact .inl (B8 _)
     .rcases F1.1 b with rfl|b
      .exact .inr (B8 _)
      .exact .inr (AF (h1 y b))
  refine⟨?_,λk c hl y b=>?_⟩
  .rw[oH];split
   .rename_i c;exact F4.2 ⟨λy b=>d a.key c h1 y b,e⟩
   .split
    .exact F4.2 ⟨λy b=>h1 y b,h2⟩
    .refine F4.2 ⟨λy b=>?_,h⟩
     rcases F1.1 b with rfl|b
     .omega
     .have:=h1 y b;omega
  .have f:=hl a (F9 ..)
   rcases key y b with h|h<;>omega
theorem tN: ∀(l:List Mono) {acc:List Mono},pS acc->pS (kJ acc l)
 |[],_,h=>h
 |m::l,_,h=>tN l (bVf m h).1
theorem fit_put{m:Mono}(hm: -9223372036854775808<=m.n/\m.n<9223372036854775808): ∀{l:List Mono},Fit l->Fit (oH m l)
 |[],_=>λy b=>by
  rw[oH]at b;rw[Q7.1 b];exact hm
 |a::l,h=>λy b=>by
  have hl:Fit l:=λx hx=>h x (F3 _ hx);rw[oH]at b;split at b
  .rcases F1.1 b with rfl|b
   .exact h _ (F9 ..)
   .exact fit_put hm hl y b
  .split at b
   .rcases F1.1 b with rfl|b
    .exact yF _
    .exact hl y b
   .rcases F1.1 b with rfl|b
    .exact hm
    .exact h y b
theorem xM: ∀(l:List Mono) {acc:List Mono},Fit l->Fit acc->Fit (kJ acc l)
 |[],_,_,h=>h
 |m::l,_,hl,h=>xM l (λx hx=>hl x (F3 _ hx)) (fit_put (hl m (F9 ..)) h)
theorem bOl{l:List Mono}(h:pS l):lV l=l.filter nz:=by unfold lV;have e:(l.filter λm=>m.n !=0)=l.filter nz:=rfl;rw[e];refine List.mergeSort_of_pairwise ?_;refine List.Pairwise.imp (λ{a b} hab=>?_) (h.filter nz);exact decide_eq_true (AF hab)
theorem bFn{l L:List Mono}(hf:pS l)(hfit:Fit l)(hA:jQ L)(hL:Fit L)(h: ∀F,Ext F->fU (lin F l) (lin F L)):qK l=gV L:=by
 have e:l.filter nz=lV L:=by rw[<-bOl hf];exact bEb hf.apart hfit hA hL h
 unfold qK gV;rw[e]
theorem bUk{F:Mono->Int}(hF:Ext F)(s:Int): ∀q:List Mono,fU (lin F (q.map (bId s))) (s*lin F q)
 |[]=>fU.of_eq (by show(0:Int)=s*0;simp)
 |m::q=>by have a:=bUk hF s q;rw[List.map_cons,iK,iK,Int.mul_add,hF (bId s m) m rfl];have h:=(tX (s*m.n)).mul (F m);rw[Int.mul_assoc]at h;exact h.add a
theorem vU(p q:List Mono)(s:Int):iD p q s=bothP p q s:=by
 rw[bothP_L];unfold iD
 cases c:cK p with
 |false=>rfl
 |true=>
  cases hq:cK q with
  |false=>rfl
  |true=>
   refine bFn (tN _ (tN _ List.Pairwise.nil)) (xM _ (λy b=>?_) (xM _ (right_fit c) bLw)) (yU p q s) (bGv p q s) λF a=>?_
   .obtain⟨x,_,rfl⟩:=P5.1 b;exact yF _
   .have h1:=wX a (q.map (bId s)) (kJ [] p);have h2:=wX a p [];have h3:=bIc a p q s;have h0:lin F []=0:=rfl;exact h1.trans (((h2.trans (fU.of_eq j5)).add (bUk a s q)).trans h3.symm)
theorem lin_row{F:Mono->Int}(a:Mono): ∀q:List Mono,fU (lin F (q.map (mulM a))) (dQ (λb=>a.n*b.n*F (mulM a b)) q)
 |[]=>fU.refl _
 |b::q=>(((tX (a.n*b.n)).mul (F (mulM a b))).add (lin_row a q))
theorem lin_app(F:Mono->Int): ∀l k:List Mono,lin F (l++k)=lin F l+lin F k
 |[],k=>by show lin F k=(0:Int)+_;omega
 |m::l,k=>by rw[List.cons_append,iK,iK,lin_app F l k];omega
theorem lin_flat{F:Mono->Int}(q:List Mono): ∀p:List Mono,fU (lin F (p.flatMap λa=>q.map (mulM a))) (dQ (λa=>dQ (λb=>a.n*b.n*F (mulM a b)) q) p)
 |[]=>fU.refl _
 |a::p=>by rw[eR,lin_app];exact(lin_row a q).add (lin_flat q p)
theorem refMul_mul(p q:List Mono):oV p q=nD p q:=by
 unfold oV nD
 cases d:cK p with
 |false=>rfl
 |true=>
  cases hq:cK q with
  |false=>rfl
  |true=>
   refine bFn (tN _ List.Pairwise.nil) (xM _ (λy b=>?_) bLw) (bDx p q) (bRk p q) λF c=>?_
   .obtain⟨a,_,b⟩:=List.mem_flatMap.1 b;obtain⟨x,_,rfl⟩:=P5.1 b;exact yF _
   .have h1:=wX c (p.flatMap λa=>q.map (mulM a)) [];have h0:lin F []=0:=rfl;exact h1.trans (((fU.of_eq j5).trans (lin_flat q p)).trans (bMh c p q).symm)
theorem zJ(A B:Option Addr)(c d:Nat)(p q:List Mono)(hpl:p.length<=140737488355328)(hql:q.length<=140737488355328):cJ prog 147 [.slice A p.length c,.slice B q.length d] [] [dM.sl (.slice A p.length c) p,dM.sl (.slice B q.length d) q] (λ(x:Option Addr×Nat)=> .tuple #[.slice x.1 (iD p q 1).1.length x.2,j3 (iD p q 1).2]) (λ(x:Option Addr×Nat)=>[dM.row (.slice x.1 (iD p q 1).1.length x.2) 111 (iD p q 1).1]) (λ_=>[]):=by have hT:=zZ;refine j1 func147 ntmps147 ?_;intro β hM;refine g10 ?_;refine bL func209 (bRw _ _ _ _ p q 1 j5 j5) rfl rfl .nil ⟨d7,d8,e9⟩ λ⟨A1,c2⟩=>?_;refine g7 ?_;exact pX (A1,c2) rfl rfl rfl rfl (.c0 .nil) trivial
structure MSt where
 W:List PolV
 laid:List Bool
 V:List Int
 Y:List PolV
 J:PolV
def mL (l:List PolV)(b:Nat):List Mono:=((l[b]?).map (·.B)).getD []
def vC (m:MSt)(b:Nat):SpC:=⟨mL m.Y b,mL m.W b⟩
structure bAi (n:Nat) (m:MSt) (freed:List Bool) (s:PlC):Prop where
 n1:m.W.length=n
 n2:m.laid.length=n
 n3:m.Y.length=n
 n4:freed.length=n
 n5:s.laid.length=n
 J:m.J.B=s.J
 Y:m.Y.map (·.B)=s.Y
 free:m.V.map (λf=>vC m f.toNat)=s.free
 in_: ∀f∈m.V,0<=f/\f.toNat<n/\m.laid[f.toNat]?=some true
 fr: ∀b:Nat,freed[b]?=some true->m.laid[b]?=some true
 laid: ∀b:Nat,b<n->(s.laid[b]?).bind id=if m.laid[b]?=some true/\freed[b]?=some false then some (vC m b)else none
section
variable {n : Nat} {m : MSt} {freed : List Bool} {s : PlC} {b : Nat} {z a e : PolV}
theorem bBg{l:List PolV}{b c:Nat}{z:PolV}(h:b≠c):mL (l.set b z) c=mL l c:=by unfold mL;rw[R1 h]
theorem bQp{l:List PolV}{b:Nat}{z:PolV}(h:b<l.length):mL (l.set b z) b=z.B:=by unfold mL;rw[G8 h];rfl
theorem bEk(h:bAi n m freed s)(hb:b<n)(hn:m.laid[b]?=some false)(fl:List Int)(fs:List SpC)(hsub: ∀f∈fl,f∈m.V)(hfs:fl.map (λf=>vC m f.toNat)=fs):
  bAi n ⟨m.W.set b z,m.laid.set b true,fl,m.Y.set b a,e⟩ freed {s with J:=e.B,free:=fs,laid:=s.laid.set b (some ⟨a.B,z.B⟩),Y:=s.Y.set b a.B}:=by
 have d: ∀f∈fl,b≠f.toNat:=λf g e=>by have:=(h.in_ f (hsub f g)).2.2;rw[<-e,hn]at this;cases this
 have i:freed[b]?=some false:=by
  obtain⟨o,ho⟩: ∃o,freed[b]?=some o:=⟨_,G1 (by rw[h.n4];exact hb)⟩
  cases o with
  |false=>exact ho
  |true=>
   have:=h.fr b ho;rw[hn]at this;cases this
 refine⟨by simp[h.n1],by simp[h.n2],by simp[h.n3],h.n4,by simp[h.n5],rfl,by simp[List.map_set,h.Y],?_,λf g=>?_,λc j=>?_,λc j=>?_⟩
 .rw[<-hfs];refine List.map_congr_left λf g=>?_;unfold vC;rw[bBg (d f g),bBg (d f g)]
 .obtain⟨h1,h2,h3⟩:=h.in_ f (hsub f g);refine⟨h1,h2,?_⟩;rw[R1 (d f g)];exact h3
 .by_cases e:b=c
  .subst e;rw[G8 (by rw[h.n2];exact hb)]
  .rw[R1 e];exact h.fr c j
 .by_cases e:b=c
  .subst e;rw[G8 (by rw[h.n5];exact hb),G8 (by rw[h.n2];exact hb),if_pos ⟨rfl,i⟩];unfold vC;rw[bQp (by rw[h.n3];exact hb),bQp (by rw[h.n1];exact hb)];rfl
  .rw[R1 e,R1 e,h.laid c j];unfold vC;rw[bBg e,bBg e]
theorem bAp{i:Int}{y:LifeC}(h:bAi n m freed s)(hb:b<n)(h1:m.laid[b]?=some true)(h2:freed[b]?=some false)(h3:y.za<i)(fl:List Int)(hfl:fl=if mL m.W b=[]then m.V else m.V++[(b:Int)]):
  bAi n {m with V:=fl} (freed.set b true) (oneK i y b s):=by
 have hl:(s.laid[b]?).bind id=some (vC m b):=by rw[h.laid b hb,if_pos ⟨h1,h2⟩]
 unfold oneK;simp only[hl,h3,if_true];subst hfl;refine⟨h.n1,h.n2,h.n3,by simp[h.n4],by simp[h.n5],h.J,h.Y,?_,λf a=>?_,λc d=>?_,λc d=>?_⟩
 .show(if mL m.W b=[]then m.V else m.V++[(b:Int)]).map (λf=>vC m f.toNat)=if (vC m b).size=[]then s.free else s.free++[vC m b]
  show _=if mL m.W b=[]then s.free else s.free++[vC m b]
  split
  .exact h.free
  .rw[P4,h.free];rfl
 .have a:f∈(if mL m.W b=[]then m.V else m.V++[(b:Int)]):=a;split at a
  .exact h.in_ f a
  .rcases F2.1 a with a|a
   .exact h.in_ f a
   .have e:f=(b:Int):=by simpa using a
    subst e;exact⟨j5,by simpa using hb,by simpa using h1⟩
 .by_cases e:b=c
  .subst e;exact h1
  .rw[R1 e]at d;exact h.fr c d
 .by_cases e:b=c
  .subst e;rw[G8 (by rw[h.n5];exact hb),G8 (by rw[h.n4];exact hb),if_neg m9];rfl
  .rw[R1 e,R1 e];exact h.laid c d
theorem pJ{i:Int}{y:LifeC}(h:bAi n m freed s)(hb:b<n)(hn: ¬(m.laid[b]?=some true/\freed[b]?=some false/\y.za<i)):bAi n m freed (oneK i y b s):=by
 have hl:=h.laid b hb;unfold oneK
 by_cases a:m.laid[b]?=some true/\freed[b]?=some false
 .rw[if_pos a]at hl;simp only[hl];rw[if_neg λh3=>hn ⟨a.1,a.2,h3⟩];exact h
 .rw[if_neg a]at hl;simp only[hl];exact h
theorem bOn(n:Nat):bAi n ⟨V4 n ⟨none,0,[]⟩,V4 n false,[],V4 n ⟨none,0,[]⟩,⟨none,0,[]⟩⟩ (V4 n false) (oD n):=by
 refine⟨m9,m9,m9,m9,by simp[oD],rfl,by simp[oD],rfl,λf a=>(by cases a),λb hb=>?_,λb hb=>?_⟩
 .rw[Ao]at hb;split at hb<;>simp at hb
 .simp[oD,hb]
end
def makT:Tab:=[(3,⟨.int .i64,1⟩),(2,⟨.int .i64,1⟩),(5,⟨.int .u8,1⟩),(4,⟨.bool,1⟩),(77,⟨.int .u8,1⟩),(32,⟨.int .i64,1⟩),(43,⟨.slice 111,1⟩),(42,⟨.slice 43,1⟩),(172,⟨.struct [(3,0),(3,1),(2,2),(43,3),(77,4)],5⟩),(78,⟨.slice 172,1⟩),(95,⟨.struct [(42,0),(3,1)],2⟩),(22,⟨.slice 95,1⟩),(80,⟨.struct [(3,0),(3,1),(43,2),(42,3),(77,4),(78,5)],6⟩),(23,⟨.slice 80,1⟩),(24,⟨.slice 3,1⟩),(99,⟨.slice 4,1⟩),(26,⟨.struct [(3,0),(22,1),(23,2),(24,3)],4⟩),(114,⟨.struct [(3,0),(3,1)],2⟩),(97,⟨.slice 114,1⟩),(201,⟨.struct [(3,0),(3,1),(3,2),(99,3)],4⟩),(214,⟨.struct [(43,0),(43,1),(3,2)],3⟩),(329,⟨.slice 214,1⟩),(45,⟨.struct [(42,0),(43,1)],2⟩),(198,⟨.array 64 4,64⟩),(111,⟨.struct [(2,0),(109,1)],7⟩),(109,⟨.array 6 5,6⟩),(290,⟨.slice 5,1⟩),(224,⟨.int .u64,1⟩),(199,⟨.other,1⟩),(274,⟨.other,1⟩),(126,⟨.other,1⟩),(102,⟨.map 3 214,1⟩),(330,⟨.slice 214,1⟩),(284,⟨.other,1⟩),(103,⟨.slice 284,1⟩),(101,⟨.other,1⟩),(196,⟨.struct [(26,0),(97,4),(42,5),(99,6),(24,7),(45,8)],10⟩),(194,⟨.other,1⟩)]
theorem bLl:fC prog makT:=uM.ok
 ⟨⟨by rw[underlying3];rfl,j8⟩,
  ⟨by rw[underlying2];rfl,j8⟩,
  ⟨by rw[underlying5];rfl,j8⟩,
  ⟨by rw[underlying4];rfl,j8⟩,
  ⟨by rw[underlying77];rfl,j8⟩,
  ⟨by rw[underlying32];rfl,j8⟩,
  ⟨by rw[underlying43];rfl,j8⟩,
  ⟨by rw[underlying42];rfl,j8⟩,
  ⟨by rw[underlying172];rfl,j8⟩,
  ⟨by rw[underlying78];rfl,j8⟩,
  ⟨by rw[underlying95];rfl,j8⟩,
  ⟨by rw[underlying22];rfl,j8⟩,
  ⟨by rw[underlying80];rfl,j8⟩,
  ⟨by rw[underlying23];rfl,j8⟩,
  ⟨by rw[underlying24];rfl,j8⟩,
  ⟨by rw[underlying99];rfl,j8⟩,
  ⟨by rw[underlying26];rfl,j8⟩,
  ⟨by rw[underlying114];rfl,j8⟩,
  ⟨by rw[underlying97];rfl,j8⟩,
  ⟨by rw[underlying201];rfl,j8⟩,
  ⟨by rw[underlying214];rfl,j8⟩,
  ⟨by rw[underlying329];rfl,j8⟩,
  ⟨by rw[underlying45];rfl,j8⟩,
  ⟨by rw[underlying198];rfl,j8⟩,
  ⟨by rw[underlying111];rfl,j8⟩,
  ⟨by rw[underlying109];rfl,j8⟩,
  ⟨by rw[underlying290];rfl,j8⟩,
  ⟨by rw[underlying224];rfl,j8⟩,
  ⟨by rw[underlying199];rfl,j8⟩,
  ⟨by rw[underlying274];rfl,j8⟩,
  ⟨by rw[underlying126];rfl,j8⟩,
  ⟨by rw[underlying102];rfl,j8⟩,
  ⟨by rw[underlying330];rfl,j8⟩,
  ⟨by rw[underlying284];rfl,j8⟩,
  ⟨by rw[underlying103];rfl,j8⟩,
  ⟨by rw[underlying101];rfl,j8⟩,
  ⟨by rw[underlying196];rfl,j8⟩,
  ⟨by rw[underlying194];rfl,j8⟩,e9⟩
theorem const1:(kC 1).1=[bRz 1]:=l4
def bCn (sides:List (List Mono)):List Mono:=(sizeC sides).getD []
theorem mulP_len9(p q:List Mono):(nD p q).1.length<=8796093022208:=by have:=wL (bUj p q);omega
theorem bDi(p q:List Mono):(bothP p q 1).1.length<=8796093022208:=by have:=wL (bPq p q 1);omega
section
variable {sides : List (List Mono)} {b i : Nat} {again : Bool} {s : PlC} {n : List Mono}
theorem bRb(h:sizeC sides=some n)(hf:oC n again s.free=none)(he:(bothP s.J n 1).2=0):layC sides b again s=some {s with J:=(bothP s.J n 1).1,laid:=s.laid.set b (some ⟨s.J,n⟩),Y:=s.Y.set b s.J}:=by unfold layC;rw[h];simp only[hf,he,if_true]
theorem bDj(h:sizeC sides=some n)(hf:oC n again s.free=none)(he:(bothP s.J n 1).2≠0):layC sides b again s=none:=by unfold layC;rw[h];simp only[hf,he,if_false]
theorem free_nil{l:List SpC}(h:n=[]):oC n again l=none:=by unfold oC;rw[if_neg ab4]
theorem free_all{l:List SpC}(h: ∀q∈l,q.size≠n):oC n again l=none:=by
 unfold oC;split
 .rw[List.findIdx?_eq_none_iff.2 (λq hq=>by simpa using h q hq)]
 .rfl
theorem find_first{l:List SpC}{q:SpC}(hq:l[i]?=some q)(hn:q.size=n)(h: ∀q∈l.take i,q.size≠n):l.findIdx? (λy=>decide (y.size=n))=some i:=by
 obtain⟨hlt,e⟩:=G3.1 hq;rw[List.findIdx?_eq_some_iff_getElem];refine⟨hlt,by rw[e];simpa using hn,λj b=>?_⟩;have a:l[j]∈l.take i:=List.mem_take_iff_getElem.2 ⟨j,j5,rfl⟩
 simpa using h _ a
theorem take_no{l:List SpC}{q:SpC}(hq:l[i]?=some q)(hn:q.size≠n)(h: ∀q∈l.take i,q.size≠n): ∀q∈l.take (i+1),q.size≠n:=λy a=>by
 rw[G7,hq]at a
 rcases F2.1 a with a|a
 .exact h y a
 .have e:y=q:=by simpa using a
  subst e;exact hn
end
theorem const02_spec:cJ prog 207 [j3 1] [] [] (λ(x:Option Addr×Nat)=> .tuple #[.slice x.1 (kC 1).1.length x.2,j3 0]) (λ_=>[]) (λ(x:Option Addr×Nat)=>[cR ⟨x.1,x.2,(kC 1).1⟩]):=by have hT:=bLl;refine j1 func207 ntmps207 ?_;intro β hM;refine g11 ?_;refine bR (t':=false) l4<|bR (t':=false) l4 ?_;refine g3 ?_;refine bR (t':=false) l4 ?_;refine g11 ?_;refine bR (t':=false) l4<|bR (t':=false) l4 ?_;refine g8 ?_;refine ss (bY rfl rfl (built_n 1)) ?_;refine at_one (m:=bRz 1) rfl rfl rfl rfl rfl λa=>?_;refine vA (E:=dM) (xs:=[bRz 1]) .head<|oP .head ?_;refine g5 ?_;exact rs2 (some ⟨a,0,none⟩,1) ⟨by rw[const1];exact Has.and d7 (f4 (show([bRz 1]:List Mono).length<=8796093022208 from by decide)),e9⟩ (he:=by rw[const1];rfl)
theorem bJz(u:jW):cJ prog 145 [.agg #[f9 u.K,j3 u.L]] [] [nL u.K] (λ(x:Option Addr×Nat)=> .tuple #[.slice x.1 (bCn (polsL u.K.B)).length x.2,.bool (sizeC (polsL u.K.B)).isSome]) (λ_=>[]) (λ(x:Option Addr×Nat)=>[cR ⟨x.1,x.2,bCn (polsL u.K.B)⟩]):=by
 have hT:=bLl
 obtain⟨R,j⟩: ∃R,sizeC (polsL u.K.B)=R:=⟨_,rfl⟩
 refine j1 func145 ntmps145 ?_;intro β hM;refine cH<|bK (fF.sl (.slice u.K.O u.K.B.length u.K.cap) u.K.B) (mW d7) ?_;refine bG (qB d8) λc=>?_;have m:=c.1;have l:=c.2;refine one ?_;refine j0 λn=>?_;refine g6 ?_;refine bL func207 const02_spec rfl rfl .nil e9 λk=>?_;refine g14 ?_;refine bT (ι:=PolV×Nat) [(1,_)] ⟨rfl,e9⟩ (λ⟨cur,i⟩=>[(4,.slice cur.O cur.B.length cur.cap),(6,.int .i64 (i:Nat))]) (λ_=>[]) (λ⟨cur,i⟩=>[bC.pure (i<=u.K.B.length/\R=oY ((polsL u.K.B).drop i) cur.B),cR cur]) (λ⟨cur,i⟩=>u.K.B.length-i) (⟨k.1,k.2,(kC 1).1⟩,0) ⟨rfl,rfl,e9⟩ .nil ⟨f4 (⟨j5,by rw[<-j];rfl⟩),d7,e9⟩ ?_;rintro⟨cur,i⟩;dsimp only;refine bG d7 λa=>?_;refine g10 ?_;refine dO (λe=>?_) λe=>?_
 .refine g5 ?_;obtain⟨x,hx⟩:=gx u.K.B i;refine bK (cR x) (Has.each (mY e7) (f5 hx)) ?_;refine g5 ?_;refine ss (ixs i) ?_;refine ss (fV hx 0) ?_;refine bG (dI d9) λh=>bG (dI d7) λg=>?_;refine bL func208 (refMul_spec cur.O x.O cur.cap x.cap cur.B x.B h g) rfl rfl .nil ⟨fT d9,fT d7,e9⟩ λf=>?_;rw[refMul_mul];refine gP (E:=dM) .head<|bK (cR ⟨f.1,f.2,(nD cur.B x.B).1⟩) (Has.and d7 (f4 (mulP_len9 _ _))) ?_;refine g14 ?_;refine bEh (λd=>?_) λd=>?_
  .refine g13 ?_;have b:sizeC (polsL u.K.B)=none:=j.trans (bUp a.2 (cG hx) ‹_›);exact rs2 (none,0) ⟨by unfold bCn;rw[b];exact polF_nil,e9⟩ (he:=by unfold bCn;rw[b];rfl)
  refine g11 ?_;refine inc (i+1) ?_;refine g3 ?_;exact bk2 (⟨f.1,f.2,(nD cur.B x.B).1⟩,i+1) ⟨f4 (⟨by dsimp only;omega,size_ok' a.2 (cG hx) ‹_›⟩),d7,e9⟩
 refine g13 ?_;have b:sizeC (polsL u.K.B)=some cur.B:=j.trans (tV a.2 p9);exact rs2 (cur.O,cur.cap) ⟨by unfold bCn;rw[b];exact d8,e9⟩ (he:=by unfold bCn;rw[b];rfl)
theorem nG(mb:Nat)(c:fX)(LA SA DA FA TA:Option Addr)(lc N sc dc fc tc:Nat)(m:MSt)(freed:List Bool)(s:PlC)(hr:bAi N m freed s)(b:Nat)(u:jW)(hu:c.C.B[b]?=some u)(hb:b<N)(hnl:m.laid[b]?=some false)(hfl:m.V.length<=100000000)(again:Bool):cJ prog 79 [.pointer (some ⟨mb,0,none⟩),j3 (b:Nat),.bool again] [.obj mb (.cells ([j3 c.vars,f9 c.C,f9 c.D,f9 c.Q,.slice LA N lc,.slice SA N sc,.slice DA N dc,.slice FA m.V.length fc,.slice TA N tc,f9 m.J]:List Value).toArray 196),fF.row (.slice SA N sc) 43 m.W,gK.row (.slice DA N dc) 4 m.laid,dA.row (.slice FA m.V.length fc) 3 m.V,fF.row (.slice TA N tc) 43 m.Y] [lH c,bC.each m.W cR,bC.each m.Y cR,cR m.J] (λ(_:MSt×Option Addr×Nat)=> .bool (layC (polsL u.K.B) b again s).isSome) (λ(x:MSt×Option Addr×Nat)=>[.obj mb (.cells ([j3 c.vars,f9 c.C,f9 c.D,f9 c.Q,.slice LA N lc,.slice SA N sc,.slice DA N dc,.slice x.2.1 x.1.V.length x.2.2,.slice TA N tc,f9 x.1.J]:List Value).toArray 196),fF.row (.slice SA N sc) 43 x.1.W,gK.row (.slice DA N dc) 4 x.1.laid,dA.row (.slice x.2.1 x.1.V.length x.2.2) 3 x.1.V,fF.row (.slice TA N tc) 43 x.1.Y]) (λ(x:MSt×Option Addr×Nat)=>[bC.each x.1.W cR,bC.each x.1.Y cR,cR x.1.J,bC.pure (∀s',layC (polsL u.K.B) b again s=some s'->bAi N x.1 freed s'/\x.1.laid=m.laid.set b true/\x.1.V.length<=m.V.length)]):=by
 have hT:=bLl;have hbl:=(G3.1 hu).1;have hq1:=hr.n1;have hq2:=hr.n2;have hq3:=hr.n3;refine j1 func79 ntmps79 ?_;intro β hM;refine cH ?_;cases again
 .refine g5 ?_;refine bK (sU.sl (.slice c.C.O c.C.B.length c.C.cap) c.C.B) (kG (gC d7)) ?_;obtain⟨X,C⟩:=gx m.W b (by rw[hr.n1];exact hb);obtain⟨Y,r⟩:=gx m.Y b (by rw[hr.n3];exact hb);refine bAl (E:=dA) (xs:=m.V) kT3 λA=>?_;refine g7 ?_;refine ss (ixs b) ?_;refine ss (lI hu 0) ?_;refine bK (nL u.K) (Has.each (rV (gC d8)) (f5 hu)) ?_;refine bL func145 (bJz u) rfl rfl .nil ⟨d7,e9⟩ λp=>?_;generalize W:bCn (polsL u.K.B)=nQ
  rcases hz:sizeC (polsL u.K.B)with _|n1
  .refine g22 ?_;have hl:layC (polsL u.K.B) b false s=none:=bMl hz;exact rs1 (m,FA,fc) ⟨e7,Has.of mT5,Has.of mT6,f4 (λs' d=>by rw[hl]at d;cases d),e9⟩ (he:=by rw[hl];rfl)
  obtain rfl:nQ=n1:=by rw[<-W];unfold bCn;rw[hz];rfl
  refine g25 ?_;refine ss (bE hT (k:=b) (bN kT1) rfl rfl rfl rfl rfl hr.n1.symm rfl j5) ?_;refine i6 hT (k:=b) (fo:=0) (y':=(⟨p.1,p.2,nQ⟩:PolV)) kT1 C ?_;refine g9 ?_;refine ss (bE hT (k:=b) (bN kT2) rfl rfl rfl rfl rfl hr.n2.symm rfl j5) ?_;refine i6 hT (k:=b) (fo:=0) (y':=true) kT2 hnl ?_;refine g9 ?_;refine bT (ι:=Nat) [(0,_),(1,_),(2,_),(7,_)] ⟨rfl,rfl,rfl,rfl,e9⟩ (λi=>[(9,.int .i64 (i:Nat))]) (λ_=>[]) (λi=>[bC.pure (i<=m.V.length/\ ∀q∈s.free.take i,q.size≠nQ)]) (λi=>m.V.length-i) 0 ⟨rfl,e9⟩ .nil ⟨f4 (⟨j5,m9⟩),e9⟩ ?_;rintro i;refine bG d7 λh=>?_;refine g27 ?_;refine mF 12 _ _ [j2,u1,u0,u2,u3,u4,u5,u6,u7,u9,A00,A01] dJ k7 (.c0 (.c0 (.c0 (.c0 (.c0 .nil))))) bA.self ?_;refine g11 ?_;refine stL rfl (bE hT (k:=b) (bN kT4) rfl rfl rfl rfl rfl hr.n3.symm rfl j5) ?_;refine one ?_;refine i6 hT (k:=b) (fo:=0) (y':=m.J) kT4 r ?_;refine g10 ?_;refine bG (dI e8) λhel=>bG (dI d8) λn=>?_;refine bL func147 (zJ m.J.O (⟨p.1,p.2,nQ⟩:PolV).O m.J.cap (⟨p.1,p.2,nQ⟩:PolV).cap m.J.B nQ hel n) rfl rfl .nil ⟨fT e8,fT d8,e9⟩ λy=>?_;rw[vU];refine gP (E:=dM) .head<|bK (cR ⟨y.1,y.2,(bothP m.J.B nQ 1).1⟩) (Has.and d7 (f4 (bDi _ _))) ?_;refine g25 ?_;refine bK (bC.each (m.W.set b (⟨p.1,p.2,nQ⟩:PolV)) cR) (oK e8 e6)<|bK (bC.each (m.Y.set b m.J) cR) (oK (Has.of mT9) (Has.of mT10)) ?_;have o:oC nQ false s.free=none:=bIo (.inl rfl)
  by_cases he:(bothP m.J.B nQ 1).2=0
  .have hl:=bRb (b:=b) hz o z7;have l:=bEk (z:=(⟨p.1,p.2,nQ⟩:PolV)) (a:=m.J) (e:=(⟨y.1,y.2,(bothP m.J.B nQ 1).1⟩:PolV)) hr hb hnl m.V s.free (λf G=>G) hr.free;exact rs1 ((⟨m.W.set b (⟨p.1,p.2,nQ⟩:PolV),m.laid.set b true,m.V,m.Y.set b m.J,(⟨y.1,y.2,(bothP m.J.B nQ 1).1⟩:PolV)⟩:MSt),FA,fc) ⟨d8,d7,d9,f4 (λs' d=>by rw[hl]at d;cases d;rw[<-hr.J];exact⟨l,rfl,B8 _⟩),e9⟩ (he:=by rw[hl];simp[he])
  have hl:=bDj (b:=b) hz o z7;exact rs1 ((⟨m.W.set b (⟨p.1,p.2,nQ⟩:PolV),m.laid.set b true,m.V,m.Y.set b m.J,(⟨y.1,y.2,(bothP m.J.B nQ 1).1⟩:PolV)⟩:MSt),FA,fc) ⟨d8,d7,d9,f4 (λs' d=>by rw[hl]at d;cases d),e9⟩ (he:=by rw[hl];simp[he])
 refine g5 ?_;refine bK (sU.sl (.slice c.C.O c.C.B.length c.C.cap) c.C.B) (kG (gC d7)) ?_;obtain⟨X,C⟩:=gx m.W b (by rw[hr.n1];exact hb);obtain⟨Y,r⟩:=gx m.Y b (by rw[hr.n3];exact hb);refine bAl (E:=dA) (xs:=m.V) kT3 λA=>?_;refine g7 ?_;refine ss (ixs b) ?_;refine ss (lI hu 0) ?_;refine bK (nL u.K) (Has.each (rV (gC d8)) (f5 hu)) ?_;refine bL func145 (bJz u) rfl rfl .nil ⟨d7,e9⟩ λg=>?_;generalize W:bCn (polsL u.K.B)=nQ
 rcases hz:sizeC (polsL u.K.B)with _|n1
 .refine g22 ?_;have hl:layC (polsL u.K.B) b true s=none:=bMl hz;exact rs1 (m,FA,fc) ⟨e7,Has.of mT5,Has.of mT6,f4 (λs' d=>by rw[hl]at d;cases d),e9⟩ (he:=by rw[hl];rfl)
 obtain rfl:nQ=n1:=by rw[<-W];unfold bCn;rw[hz];rfl
 refine g25 ?_;refine ss (bE hT (k:=b) (bN kT1) rfl rfl rfl rfl rfl hr.n1.symm rfl j5) ?_;refine i6 hT (k:=b) (fo:=0) (y':=(⟨g.1,g.2,nQ⟩:PolV)) kT1 C ?_;refine g9 ?_;refine ss (bE hT (k:=b) (bN kT2) rfl rfl rfl rfl rfl hr.n2.symm rfl j5) ?_;refine i6 hT (k:=b) (fo:=0) (y':=true) kT2 hnl ?_;refine g9 ?_;refine bT (ι:=Nat) [(0,_),(1,_),(2,_),(7,_)] ⟨rfl,rfl,rfl,rfl,e9⟩ (λi=>[(9,.int .i64 (i:Nat))]) (λ_=>[]) (λi=>[bC.pure (i<=m.V.length/\ ∀q∈s.free.take i,q.size≠nQ)]) (λi=>m.V.length-i) 0 ⟨rfl,e9⟩ .nil ⟨f4 (⟨j5,m9⟩),e9⟩ ?_;rintro i;refine bG d7 λh=>?_;refine g10 ?_;refine nO (λt=>?_) λt=>?_
 .have V:nQ≠[]:=λe=>by rw[e]at t;simp at t
  refine g10 ?_;refine dO (λO=>?_) λO=>?_
  .refine g5 ?_;obtain⟨z,B⟩:=gx m.V i;obtain⟨Z,L,K⟩:=hr.in_ z (f5 B);have P:b≠z.toNat:=λe=>by rw[<-e,hnl]at K;cases K
   obtain⟨x,hx⟩:=gx m.W z.toNat (by rw[hr.n1];exact L);obtain⟨J,I⟩:=gx m.Y z.toNat (by rw[hr.n3];exact L);have D:mL m.W z.toNat=x.B:=by unfold mL;rw[hx];rfl
   have U:mL m.Y z.toNat=J.B:=by unfold mL;rw[I];rfl
   have hq:s.free[i]?=some (vC m z.toNat):=by rw[<-hr.free,List.getElem?_map,B];rfl
   refine bK (cR x) (Has.each (Has.of mT5) (f5 hx))<|bK (cR J) (Has.each e8 (f5 I)) ?_;refine g6 ?_;refine ss (ixs i) ?_;refine ss (fV B 0) ?_;refine g10 ?_;refine ss (bE hT (k:=z.toNat) (bN kT1) rfl rfl rfl rfl rfl n9 j5 (n9)) ?_;refine ss (bI hT (cF.knows (bN kT1) (k:=z.toNat) (x:=x) (by rw[R1 P];exact hx) 0) rfl rfl rfl rfl rfl) ?_;refine one ?_;refine bG (dI d8) λQ=>?_;refine bL func146 (sC x (⟨g.1,g.2,nQ⟩:PolV) Q) rfl rfl .nil ⟨fT d8,fT e6,e9⟩ λ_=>?_;refine g2 ?_;refine vN (λv=>?_) λv=>?_
   .refine cH<|mF 15 _ _ [j2,u1,u0,u2,u3,u4,u5,u6,u7,u9,A00,A01,A02,A03,A04] dJ k7 (.c0 (.c0 (.c0 (.c0 (.c0 .nil))))) bA.self ?_;refine g12 ?_;refine stL rfl (bE hT (k:=z.toNat) (bN kT4) rfl rfl rfl rfl rfl hr.n3.symm j5 (j5)) ?_;refine stL rfl (fV I 0) ?_;refine stL rfl (bE hT (k:=b) (bN kT4) rfl rfl rfl rfl rfl hr.n3.symm rfl j5) ?_;refine one ?_;refine i6 hT (k:=b) (fo:=0) (y':=J) kT4 r ?_;refine g3 ?_;refine mF 19 _ _ [j2,u0,u2,u3,u4,u5,u6,u9,A00,A01,A02,A03,A04,A05,(false,1),A09,(false,16),A06,A20] dJ k7 (.c0 (.c0 (.c0 (.c0 (.c0 .nil))))) bA.self ?_;refine g6 ?_;refine stL rfl (wP hT (k:=i) rfl rfl rfl rfl rfl rfl j5) ?_;refine g6 ?_;refine inc (i+1) ?_;refine stL rfl (bKt hT (k:=i+1) rfl rfl rfl rfl rfl j5 j5) ?_;refine one ?_;refine at_none_int rfl rfl rfl rfl λb4=>?_;refine g2 ?_;refine uC .head (cF.preE (bN kT5) i) rfl rfl rfl rfl rfl rfl ad1 o6 λA5 c6=>?_;rw[List.nil_append];refine g2 ?_;refine uC .head (cF.dropE (bN kT5) (i+1) A j5) rfl rfl rfl rfl rfl rfl (by rw[List.length_drop]) o6 λA7 c8=>?_;rw[show m.V.take i++m.V.drop (i+1)=m.V.eraseIdx i from (List.eraseIdx_eq_take_drop_succ ..).symm];refine g18 ?_;refine bK (bC.each (m.W.set b (⟨g.1,g.2,nQ⟩:PolV)) cR) (oK e8 e6)<|bK (bC.each (m.Y.set b J) cR) (oK (Has.of mT9) d8) ?_;have M:x.B=nQ:=by simpa using v
    have hl:=lay_take (b:=b) (again:=true) hz rfl V (find_first hq (by show mL m.W z.toNat=nQ;rw[D,M]) h.2) hq;have l:=bEk (z:=(⟨g.1,g.2,nQ⟩:PolV)) (a:=J) (e:=m.J) hr hb hnl (m.V.eraseIdx i) (s.free.eraseIdx i) (λf G=>(eW ..).subset G) (by rw[pl_mape,hr.free]);have R:vC m z.toNat=⟨J.B,nQ⟩:=by unfold vC;rw[U,D,M]
    rw[R]at hl;exact rs1 ((⟨m.W.set b (⟨g.1,g.2,nQ⟩:PolV),m.laid.set b true,m.V.eraseIdx i,m.Y.set b J,m.J⟩:MSt),A7,c8) ⟨d8,d7,Has.of mT11,f4 (λs' d=>by rw[hl]at d;cases d;rw[hr.J]at l;exact⟨l,rfl,(eW ..).length_le⟩),e9⟩ (he:=by rw[hl];rfl)
   refine g6 ?_;refine inc (i+1) ?_;refine g3 ?_;exact bk2 (i+1) ⟨f4 (⟨j5,take_no hq (by show mL m.W z.toNat≠nQ;rw[D];simpa using v) h.2⟩),e9⟩
  refine g6 ?_;refine mF 12 _ _ [j2,u1,u0,u2,u3,u4,u5,u6,u7,u9,A00,A01] dJ k7 (.c0 (.c0 (.c0 (.c0 (.c0 .nil))))) bA.self ?_;refine g11 ?_;refine stL rfl (bE hT (k:=b) (bN kT4) rfl rfl rfl rfl rfl hr.n3.symm rfl j5) ?_;refine one ?_;refine i6 hT (k:=b) (fo:=0) (y':=m.J) kT4 r ?_;refine g10 ?_;refine bG (dI e8) λhel=>bG (dI d8) λn=>?_;refine bL func147 (zJ m.J.O (⟨g.1,g.2,nQ⟩:PolV).O m.J.cap (⟨g.1,g.2,nQ⟩:PolV).cap m.J.B nQ hel n) rfl rfl .nil ⟨fT e8,fT d8,e9⟩ λw=>?_;rw[vU];refine gP (E:=dM) .head<|bK (cR ⟨w.1,w.2,(bothP m.J.B nQ 1).1⟩) (Has.and d7 (f4 (bDi _ _))) ?_;refine g25 ?_;refine bK (bC.each (m.W.set b (⟨g.1,g.2,nQ⟩:PolV)) cR) (oK e8 e6)<|bK (bC.each (m.Y.set b m.J) cR) (oK (Has.of mT9) (Has.of mT10)) ?_;have o:oC nQ true s.free=none:=free_all (by rw[show s.free.take i=s.free from Y2 (by rw[<-hr.free,I2];omega)]at h;exact h.2)
  by_cases he:(bothP m.J.B nQ 1).2=0
  .have hl:=bRb (b:=b) hz o z7;have l:=bEk (z:=(⟨g.1,g.2,nQ⟩:PolV)) (a:=m.J) (e:=(⟨w.1,w.2,(bothP m.J.B nQ 1).1⟩:PolV)) hr hb hnl m.V s.free (λf G=>G) hr.free;exact rs1 ((⟨m.W.set b (⟨g.1,g.2,nQ⟩:PolV),m.laid.set b true,m.V,m.Y.set b m.J,(⟨w.1,w.2,(bothP m.J.B nQ 1).1⟩:PolV)⟩:MSt),FA,fc) ⟨d8,d7,d9,f4 (λs' d=>by rw[hl]at d;cases d;rw[<-hr.J];exact⟨l,rfl,B8 _⟩),e9⟩ (he:=by rw[hl];simp[he])
  have hl:=bDj (b:=b) hz o z7;exact rs1 ((⟨m.W.set b (⟨g.1,g.2,nQ⟩:PolV),m.laid.set b true,m.V,m.Y.set b m.J,(⟨w.1,w.2,(bothP m.J.B nQ 1).1⟩:PolV)⟩:MSt),FA,fc) ⟨d8,d7,d9,f4 (λs' d=>by rw[hl]at d;cases d),e9⟩ (he:=by rw[hl];simp[he])
 refine g17 ?_;refine mF 12 _ _ [j2,u1,u0,u2,u3,u4,u5,u6,u7,u9,A00,A01] dJ k7 (.c0 (.c0 (.c0 (.c0 (.c0 .nil))))) bA.self ?_;refine g11 ?_;refine stL rfl (bE hT (k:=b) (bN kT4) rfl rfl rfl rfl rfl hr.n3.symm rfl j5) ?_;refine one ?_;refine i6 hT (k:=b) (fo:=0) (y':=m.J) kT4 r ?_;refine g10 ?_;refine bG (dI e8) λhel=>bG (dI d8) λn=>?_;refine bL func147 (zJ m.J.O (⟨g.1,g.2,nQ⟩:PolV).O m.J.cap (⟨g.1,g.2,nQ⟩:PolV).cap m.J.B nQ hel n) rfl rfl .nil ⟨fT e8,fT d8,e9⟩ λj=>?_;rw[vU];refine gP (E:=dM) .head<|bK (cR ⟨j.1,j.2,(bothP m.J.B nQ 1).1⟩) (Has.and d7 (f4 (bDi _ _))) ?_;refine g25 ?_;refine bK (bC.each (m.W.set b (⟨g.1,g.2,nQ⟩:PolV)) cR) (oK e8 e6)<|bK (bC.each (m.Y.set b m.J) cR) (oK (Has.of mT9) (Has.of mT10)) ?_;have o:oC nQ true s.free=none:=free_nil (List.eq_nil_of_length_eq_zero j5)
 by_cases he:(bothP m.J.B nQ 1).2=0
 .have hl:=bRb (b:=b) hz o z7;have l:=bEk (z:=(⟨g.1,g.2,nQ⟩:PolV)) (a:=m.J) (e:=(⟨j.1,j.2,(bothP m.J.B nQ 1).1⟩:PolV)) hr hb hnl m.V s.free (λf G=>G) hr.free;exact rs1 ((⟨m.W.set b (⟨g.1,g.2,nQ⟩:PolV),m.laid.set b true,m.V,m.Y.set b m.J,(⟨j.1,j.2,(bothP m.J.B nQ 1).1⟩:PolV)⟩:MSt),FA,fc) ⟨d8,d7,d9,f4 (λs' d=>by rw[hl]at d;cases d;rw[<-hr.J];exact⟨l,rfl,B8 _⟩),e9⟩ (he:=by rw[hl];simp[he])
 have hl:=bDj (b:=b) hz o z7;exact rs1 ((⟨m.W.set b (⟨g.1,g.2,nQ⟩:PolV),m.laid.set b true,m.V,m.Y.set b m.J,(⟨j.1,j.2,(bothP m.J.B nQ 1).1⟩:PolV)⟩:MSt),FA,fc) ⟨d8,d7,d9,f4 (λs' d=>by rw[hl]at d;cases d),e9⟩ (he:=by rw[hl];simp[he])
theorem bLj{l:List Bool}{b:Nat}(hb:b<l.length)(h: ¬l[b]?=some true):l[b]?=some false:=by
 obtain⟨o,ho⟩: ∃o,l[b]?=some o:=⟨_,G1 hb⟩
 cases o with
 |false=>exact ho
 |true=>exact absurd ho h
theorem bUt{l m:List Bool}{b:Nat}{L:List LifeC}{y:LifeC}(e:m=l.set b true)(h: ∀k:Nat,l[k]?=some true->k<b/\ ∃y,L[k]?=some y/\y.from_<0)(hy:L[b]?=some y)(hf:y.from_<0): ∀k:Nat,m[k]?=some true->k<b+1/\ ∃y,L[k]?=some y/\y.from_<0:=λk a=>by
 subst e
 by_cases hb:b=k
 .subst hb;exact⟨j5,y,hy,hf⟩
 .rw[R1 hb]at a;obtain⟨h1,h2⟩:=h k a;exact⟨j5,h2⟩
theorem bSs{l m:List Bool}{b i:Nat}{L:List LifeC}{y:LifeC}(e:m=l.set b true)(h: ∀k:Nat,l[k]?=some true-> ∃y,L[k]?=some y/\y.from_<(i:Int))(hy:L[b]?=some y)(hf:y.from_=(i:Int)): ∀k:Nat,m[k]?=some true-> ∃y,L[k]?=some y/\y.from_<((i+1:Nat):Int):=λk a=>by
 subst e
 by_cases hb:b=k
 .subst hb;exact⟨y,hy,j5⟩
 .rw[R1 hb]at a;obtain⟨c,h1,h2⟩:=h k a;exact⟨c,h1,j5⟩
theorem iS(v0_0 v0_1 v0_2 v0_3:Value)(a1:Option Addr)(l1 c1:Nat)(a2:Option Addr)(l2 c2:Nat)(a3:Option Addr)(l3 c3:Nat):prog.built 196 [(0,.agg #[v0_0,v0_1,v0_2,v0_3]),(1,.slice a1 l1 c1),(2,.slice a2 l2 c2),(3,.slice a3 l3 c3)]=some #[v0_0,v0_1,v0_2,v0_3,.slice a1 l1 c1,.slice a2 l2 c2,.slice a3 l3 c3,.slice none 0 0,.slice none 0 0,.slice none 0 0]:=j8
set_option maxHeartbeats 4000000 in
theorem Plan15_spec(c:fX):cJ prog 32 [.agg #[j3 c.vars,f9 c.C,f9 c.D,f9 c.Q]] [] [lH c] (λ(x:LayV)=> .tuple #[.agg #[f9 x.at_,f9 x.size],j3 (iR c.c).2]) (λ_=>[]) (λ(x:LayV)=>[fF.sl (f9 x.at_) x.at_.B,bC.each x.at_.B cR,cR x.size,bC.pure ((polsL x.at_.B,x.size.B)=(iR c.c).1)]):=by
 have hT:=bLl;generalize hR:yX c.c=R;refine j1 func32 ntmps32 ?_;intro β hM;refine sr<|j0 λb1=>?_;refine i7 pL λb2=>?_;refine sp hT ?_;refine nn<|cH<|sr<|ss (ldN hT (sS kT1)) ?_;refine bL func35 (tG c) rfl rfl .nil ⟨d7,e9⟩ λ_=>?_;refine sp hT ?_;refine nn<|cD rfl (λhc17=>?_) (λhc17=>?_)
 .have hc17:=bEl hc17;refine sr<|ss (bY rfl rfl (kO)) ?_;refine sto hT .head ?_;refine sp hT ?_;refine nn<|lX<|iT ?_;have hW:=planW_no (c:=c.c) (by simpa using hc17);exact lK (⟨⟨none,0,[]⟩,⟨none,0,[]⟩⟩:LayV) rfl (rR hT (sS .head) rfl rfl rfl rfl) (rv_tmp rfl) .nil ⟨pG,Has.each_nil,polF_nil,f4 t6,e9⟩ t6
 have hc17:=bFi hc17;refine dS<|cZ<|sr<|ss (ldN hT (sS kT1)) ?_;have hr:dC c.c=true:=by simpa using hc17
 obtain⟨hbz,hst,hou⟩:=qI hr;have hnb:c.c.C.length=c.C.B.length:=cQ _;have hns:c.c.D.length=c.D.B.length:=cS _;have hlw:bAd c=lv (livesC c.c):=by unfold bAd;rw[if_pos hr,lives_eq hr]
 have hll:(lv (livesC c.c)).length=c.C.B.length:=by rw[bAg,iY,hnb]
 have hfw:bJq c=fullC c.c:=by unfold bJq;rw[if_pos hr]
 have hfl:(fullC c.c).length=c.C.B.length:=by rw[wM,hnb]
 refine bL func77 (Lives15_spec c) rfl rfl .nil ⟨d7,e9⟩ λ⟨LA,lc⟩=>?_;rw[hlw,hll];refine sp4 hT ?_;refine sp hT ?_;refine nn<|sr<|ss (ldN hT (sS kT1)) ?_;refine bL func78 (Full15_spec c) rfl rfl .nil ⟨d8,e9⟩ λ⟨WA,wc⟩=>?_;rw[hfw,hfl];refine sp4 hT ?_;refine sp hT ?_;refine nn<|cH<|bK (sU.sl (.slice c.C.O c.C.B.length c.C.cap) c.C.B) (kG (gC d9)) ?_;refine bX<|sp hT ?_;refine ss (ldO hT (kwO1 kT1)) ?_;refine sp2 hT ?_;refine nn<|cH<|at_mixT _ _ (.fl 0 (.fl 1 (.fl 2 (.fl 4 (.two 3 5 (.op 5 (.fl 6 (.op 7 (.fl 8 .nil)))) (.op 3 (.fl 6 (.op 7 (.fl 8 .nil))))))))) dJ k7 (.c0 (.c0 .nil)) bA.self ?_;refine sqT rfl (ldN hT (sS kT1)) ?_;refine pvT hT ?_;refine pvT hT ?_;refine pvT hT ?_;refine vF (o:=_) (o':=_) rfl rfl ?_ ?_
 .refine sN (m:=c.C.B.length) rfl rfl rfl rfl rfl rfl j5 λb3=>?_;refine bDn (.c1 (.c1 .nil)) (bA.drop 0) ?_;refine bPt (o:=_) rfl ?_;refine lZ (m:=c.C.B.length) rfl rfl rfl rfl rfl rfl j5 λb4=>?_;refine bDn (.c2 (.c2 .nil)) (bA.drop 0) ?_;refine sqT rfl (bY rfl rfl (iS _ _ _ _ _ _ _ _ _ _ _ _ _)) ?_;refine bPt (o:=_) rfl ?_;refine j0 λb5=>?_;refine bDn (.c3 (.c3 .nil)) (bA.drop 0) ?_;refine cL (t:=3) dA ?_;refine pvT hT ?_;refine att_nil<|cZ<|sr<|sp2 hT ?_;refine sN (m:=c.C.B.length) rfl rfl rfl rfl rfl rfl j5 λb6=>?_;refine sp3 hT ?_;refine sto hT kT2 ?_;refine nn<|cH<|cH<|bK (cR ⟨none,0,[]⟩) (polF_nil) ?_;refine bK (bC.each (V4 c.C.B.length pB) cR) (wI _)<|bK (bC.each (V4 c.C.B.length pB) cR) (wI _) ?_;refine bX<|sp hT ?_;refine nn<|gY<|bT (ι:=MSt×Option Addr×Nat×PlC×Nat) [(1,_),(2,_),(4,_),(6,_),(8,_),(9,_)] ⟨rfl,rfl,rfl,rfl,rfl,rfl,e9⟩ (λ⟨m,FA,fc,s,b⟩=>[(10,.int .i64 (b:Nat))]) (λ⟨m,FA,fc,s,b⟩=>[.obj b5 (.cells ([.int .i64 c.vars,.slice c.C.O c.C.B.length c.C.cap,.slice c.D.O c.D.B.length c.D.cap,.slice c.Q.O c.Q.B.length c.Q.cap,.slice LA c.C.B.length lc,.slice (some ⟨b3,0,none⟩) c.C.B.length c.C.B.length,.slice (some ⟨b4,0,none⟩) c.C.B.length c.C.B.length,.slice FA m.V.length fc,.slice (some ⟨b6,0,none⟩) c.C.B.length c.C.B.length,.slice m.J.O m.J.B.length m.J.cap]:List Value).toArray 196),fF.row (.slice (some ⟨b3,0,none⟩) c.C.B.length c.C.B.length) 43 m.W,gK.row (.slice (some ⟨b4,0,none⟩) c.C.B.length c.C.B.length) 4 m.laid,dA.row (.slice FA m.V.length fc) 3 m.V,fF.row (.slice (some ⟨b6,0,none⟩) c.C.B.length c.C.B.length) 43 m.Y]) (λ⟨m,FA,fc,s,b⟩=>[bC.pure (b<=c.C.B.length/\bAi c.C.B.length m (V4 c.C.B.length false) s/\m.V.length<=0/\(∀k:Nat,m.laid[k]?=some true->k<b/\ ∃y,(livesC c.c)[k]?=some y/\y.from_<0)/\R=bEr c.c (mD c.c.C (livesC c.c) (c.C.B.length-b) b s)),bC.each m.W cR,bC.each m.Y cR,cR m.J]) (λ⟨m,FA,fc,s,b⟩=>c.C.B.length-b) ((⟨V4 c.C.B.length pB,V4 c.C.B.length false,[],V4 c.C.B.length pB,⟨none,0,[]⟩⟩:MSt),none,0,oD c.C.B.length,0) ⟨rfl,e9⟩ (.c0 (.c3 (.c2 (.c1 (.c0 .nil))))) ⟨f4 (⟨j5,bOn _,B8 _,λk hk=>by(rw[Ao]at hk;split at hk<;>cases hk),by rw[<-hR,bDh,hnb];rfl⟩),d8,d7,d9,e9⟩ ?_;rintro⟨m,FA,fc,s,b⟩;dsimp only;refine bG d7 λhinv9=>?_;have hrr:=hinv9.2.1;refine cH<|sr<|sp3 hT ?_;refine nn<|cD rfl (λhc48=>?_) (λhc48=>?_)
  .have hc48:=of_decide_eq_true hc48;refine dS<|cZ<|cH<|gY<|cH ?_;have hmn:c.C.B.length-b=(c.C.B.length-(b+1))+1:=j5
   obtain⟨u,hu⟩: ∃u,c.C.B[b]?=some u:=⟨_,G1 j5⟩
   obtain⟨y,hy⟩: ∃y,(lv (livesC c.c))[b]?=some y:=⟨_,G1 ae2⟩
   have hnl:m.laid[b]?=some false:=bLj (by rw[hrr.n2];omega) (λh=>by have:=(hinv9.2.2.2.1 b h).1;omega)
   rcases hly:layC (polsL u.K.B) b false s with _|s'
   .refine bX<|sp2 hT ?_;refine ss (bE hT (k:=b) (bH (Has.of mT9)) rfl rfl rfl rfl rfl hll.symm rfl ((G3.1 hy).1)) ?_;refine sp hT ?_;refine ss (f7 hT (cF.knows (bH (Has.of mT9)) (k:=b) (x:=y) hy 0)) ?_;refine sp2 hT ?_;refine cE (λhg57=>?_) (λhg57=>?_)
    .have hg57:=of_decide_eq_true hg57;refine sp2 hT ?_;have h9:=nG b5 c LA (some ⟨b3,0,none⟩) (some ⟨b4,0,none⟩) FA (some ⟨b6,0,none⟩) lc c.C.B.length c.C.B.length c.C.B.length fc c.C.B.length m (V4 c.C.B.length false) s hrr b u hu j5 hnl ac2 false;refine bL func79 h9 rfl rfl (.c0 (.c0 (.c0 (.c0 (.c0 .nil))))) ⟨Has.of mT10,d8,d9,e6,e9⟩ λy7=>?_;refine bG e6 λhpu=>bR (t':=false) t7 ?_;refine sp2 hT ?_;refine nn<|gT rfl rfl ?_;refine sr<|ss (bY rfl rfl (kO)) ?_;refine sto hT kT5 ?_;refine sp hT ?_;refine nn<|lX<|mC<|iT<|iT<|mC<|iT ?_;have hW:=pP hr (hR.trans (((jA hinv9.2.2.2.2 hmn (cM hu) (gM hy)).2 ‹_›).2 hly));exact lK (⟨⟨none,0,[]⟩,⟨none,0,[]⟩⟩:LayV) rfl (rR hT (sS .head) rfl rfl rfl rfl) (rv_tmp rfl) .nil ⟨pG,Has.each_nil,polF_nil,f4 t6,e9⟩ t6
    have hg57:=Y8.1 (of_decide_eq_false hg57);refine sk4 ?_;refine sp hT ?_;refine nn<|jE rfl rfl ?_;refine dS<|gX<|cZ<|bX<|sp2 hT ?_;refine bM (z':=(((b+1):Nat):Int)) (jG j5 j5) ?_;refine sp hT ?_;refine nn ?_;exact dB (m,FA,fc,s,b+1) k8 ⟨rfl,e9⟩ ⟨rfl,rfl,rfl,rfl,rfl,rfl,e9⟩ (.c0 (.c0 (.c0 (.c0 (.c0 (.c0 (.c0 .nil))))))) ⟨f4 (⟨by dsimp only;omega,hrr,hinv9.2.2.1,λk hk=>⟨by have:=(hinv9.2.2.2.1 k hk).1;dsimp only;omega,(hinv9.2.2.2.1 k hk).2⟩,(jA hinv9.2.2.2.2 hmn (cM hu) (gM hy)).1 aa6⟩),d8,d9,e6,e9⟩ (bA.drop 4)
   refine bX<|sp2 hT ?_;refine ss (bE hT (k:=b) (bH (Has.of mT9)) rfl rfl rfl rfl rfl hll.symm rfl ((G3.1 hy).1)) ?_;refine sp hT ?_;refine ss (f7 hT (cF.knows (bH (Has.of mT9)) (k:=b) (x:=y) hy 0)) ?_;refine sp2 hT ?_;refine cE (λhg57=>?_) (λhg57=>?_)
   .have hg57:=of_decide_eq_true hg57;refine sp2 hT ?_;have h9:=nG b5 c LA (some ⟨b3,0,none⟩) (some ⟨b4,0,none⟩) FA (some ⟨b6,0,none⟩) lc c.C.B.length c.C.B.length c.C.B.length fc c.C.B.length m (V4 c.C.B.length false) s hrr b u hu j5 hnl ac2 false;refine bL func79 h9 rfl rfl (.c0 (.c0 (.c0 (.c0 (.c0 .nil))))) ⟨Has.of mT10,d8,d9,e6,e9⟩ λy8=>?_;refine bG e6 λhpu=>bR (t':=true) t7 ?_;refine sp2 hT ?_;refine nn<|jE rfl rfl ?_;refine dS<|gX<|cZ<|bX<|sp2 hT ?_;refine bM (z':=(((b+1):Nat):Int)) (jG j5 j5) ?_;refine sp hT ?_;refine nn ?_;exact dB (y8.1,y8.2.1,y8.2.2,s',b+1) k8 ⟨rfl,e9⟩ ⟨rfl,rfl,rfl,rfl,rfl,rfl,e9⟩ (.c0 (.c0 (.c0 (.c0 (.c0 (.c0 (.c0 .nil))))))) ⟨f4 (⟨by dsimp only;omega,(hpu s' hly).1,by have:=(hpu s' hly).2.2;dsimp only;omega,bUt (hpu s' hly).2.1 hinv9.2.2.2.1 (gM hy) ‹_›,((jA hinv9.2.2.2.2 hmn (cM hu) (gM hy)).2 ‹_›).1 s' hly⟩),d7,d8,d9,e9⟩ (bA.drop 8)
   have hg57:=Y8.1 (of_decide_eq_false hg57);refine sk4 ?_;refine sp hT ?_;refine nn<|jE rfl rfl ?_;refine dS<|gX<|cZ<|bX<|sp2 hT ?_;refine bM (z':=(((b+1):Nat):Int)) (jG j5 j5) ?_;refine sp hT ?_;refine nn ?_;exact dB (m,FA,fc,s,b+1) k8 ⟨rfl,e9⟩ ⟨rfl,rfl,rfl,rfl,rfl,rfl,e9⟩ (.c0 (.c0 (.c0 (.c0 (.c0 (.c0 (.c0 .nil))))))) ⟨f4 (⟨by dsimp only;omega,hrr,hinv9.2.2.1,λk hk=>⟨by have:=(hinv9.2.2.2.1 k hk).1;dsimp only;omega,(hinv9.2.2.2.1 k hk).2⟩,(jA hinv9.2.2.2.2 hmn (cM hu) (gM hy)).1 aa6⟩),d8,d9,e6,e9⟩ (bA.drop 4)
  have hc48:=Y8.1 (of_decide_eq_false hc48);refine oR<|lA<|lA<|oO<|cZ<|sr<|sp hT ?_;refine lZ (m:=c.C.B.length) rfl rfl rfl rfl rfl rfl j5 λb9=>?_;refine sp hT ?_;refine nn<|cH<|sr<|sp hT ?_;refine nn<|gY<|bT (ι:=MSt×Option Addr×Nat×List Bool×PlC×Nat) [(1,_),(2,_),(4,_),(6,_),(8,_),(9,_),(11,_)] ⟨rfl,rfl,rfl,rfl,rfl,rfl,rfl,e9⟩ (λ⟨m,FA,fc,freed,s,i⟩=>[(12,.int .i64 (i:Nat))]) (λ⟨m,FA,fc,freed,s,i⟩=>[.obj b5 (.cells ([.int .i64 c.vars,.slice c.C.O c.C.B.length c.C.cap,.slice c.D.O c.D.B.length c.D.cap,.slice c.Q.O c.Q.B.length c.Q.cap,.slice LA c.C.B.length lc,.slice (some ⟨b3,0,none⟩) c.C.B.length c.C.B.length,.slice (some ⟨b4,0,none⟩) c.C.B.length c.C.B.length,.slice FA m.V.length fc,.slice (some ⟨b6,0,none⟩) c.C.B.length c.C.B.length,.slice m.J.O m.J.B.length m.J.cap]:List Value).toArray 196),fF.row (.slice (some ⟨b3,0,none⟩) c.C.B.length c.C.B.length) 43 m.W,gK.row (.slice (some ⟨b4,0,none⟩) c.C.B.length c.C.B.length) 4 m.laid,dA.row (.slice FA m.V.length fc) 3 m.V,fF.row (.slice (some ⟨b6,0,none⟩) c.C.B.length c.C.B.length) 43 m.Y,gK.row (.slice (some ⟨b9,0,none⟩) c.C.B.length c.C.B.length) 4 freed]) (λ⟨m,FA,fc,freed,s,i⟩=>[bC.pure (i<=c.D.B.length/\bAi c.C.B.length m freed s/\m.V.length<=1024*i/\(∀k:Nat,m.laid[k]?=some true-> ∃y,(livesC c.c)[k]?=some y/\y.from_<(i:Int))/\R=bRt (goC c.c (livesC c.c) (fullC c.c) (c.c.D.drop i) i s)),bC.each m.W cR,bC.each m.Y cR,cR m.J]) (λ⟨m,FA,fc,freed,s,i⟩=>c.D.B.length-i) (m,FA,fc,V4 c.C.B.length false,s,0) ⟨rfl,e9⟩ (.c1 (.c1 (.c1 (.c1 (.c1 (.c0 .nil)))))) ⟨f4 (⟨j5,hrr,by have:=hinv9.2.2.1;omega,λk hk=>by obtain⟨_,y,h1,h2⟩:=hinv9.2.2.2.1 k hk;exact⟨y,h1,j5⟩,bHw (b:=b) aa0⟩),d8,d9,e6,e9⟩ ?_;rintro⟨m,FA,fc,freed,s,i⟩;dsimp only;refine bG d7 λhinv15=>?_;have hrr:=hinv15.2.1;refine cH<|sr<|sp2 hT ?_;refine ss (ldO hT (kwO2 kT7)) ?_;refine sp2 hT ?_;refine nn<|cD rfl (λhc70=>?_) (λhc70=>?_)
  .have hc70:=of_decide_eq_true hc70;refine dS<|cZ<|cH<|gY<|cH<|bK (pU.sl (.slice c.D.O c.D.B.length c.D.cap) c.D.B) (lM (gS (Has.of mT14))) ?_
   obtain⟨x,hx⟩: ∃x',c.D.B[i]?=some x':=⟨_,G1 j5⟩
   obtain⟨hb0,hb1,_⟩:=hst x.c (f5 (cN hx))
   replace hb0:0<=x.I:=hb0
   replace hb1:x.I<(c.c.C.length:Nat):=hb1
   have hbz2:x.I.toNat<c.C.B.length:=j5
   obtain⟨u,hu⟩: ∃u,c.C.B[x.I.toNat]?=some u:=⟨_,G1 hbz2⟩
   obtain⟨y,hy⟩: ∃y,(lv (livesC c.c))[x.I.toNat]?=some y:=⟨_,G1 (by rw[hll];exact hbz2)⟩
   obtain⟨t,ht⟩: ∃t,(fullC c.c)[x.I.toNat]?=some t:=⟨_,G1 (by rw[hfl];exact hbz2)⟩
   have hgo:=go_step hinv15.2.2.2.2 (cN hx) (cM hu) (gM hy) ht;have hfi:=hinv15.2.2.1;have hla:=hinv15.2.2.2.1;refine bX<|sp hT ?_;refine ss (ldO hT (kwO2 kT7)) ?_;refine sp hT ?_;refine ss (bE hT (k:=i) (bH d7) rfl rfl rfl rfl rfl rfl rfl j5) ?_;refine sp hT ?_;refine ss (f7 hT (cF.knows (bH d7) (k:=i) (x:=x) hx 1)) ?_;refine sp hT ?_;refine nn<|cH<|sr<|sp2 hT ?_;refine ss (bE hT (k:=x.I.toNat) (bH (Has.of mT14)) rfl rfl rfl rfl rfl hll.symm j5 ((G3.1 hy).1)) ?_;refine sp hT ?_;refine ss (f7 hT (cF.knows (bH (Has.of mT14)) (k:=x.I.toNat) (x:=y) hy 0)) ?_;refine sp2 hT ?_;refine nn<|cD rfl (λhc85=>?_) (λhc85=>?_)
   .have hc85:=bne_iff_ne.1 hc85;refine oR<|lA<|oO<|cZ<|bX<|sp2 hT ?_;refine bM (z':=(((i+1):Nat):Int)) (jG j5 j5) ?_;refine sp hT ?_;refine nn ?_;exact dB (m,FA,fc,freed,s,i+1) k8 ⟨rfl,e9⟩ ⟨rfl,rfl,rfl,rfl,rfl,rfl,rfl,e9⟩ (.c0 (.c0 (.c0 (.c0 (.c0 (.c0 (.c0 (.c0 .nil)))))))) ⟨f4 (⟨by dsimp only;omega,hrr,by dsimp only;omega,λk hk=>by obtain⟨y,h1,h2⟩:=hinv15.2.2.2.1 k hk;exact⟨y,h1,by dsimp only;omega⟩,hgo.1 ‹_›⟩),d9,e6,e7,e9⟩ (bA.drop 5)
   have hc85:=bne_eq_false_iff_eq.1 hc85;refine dS<|cZ<|cH<|sr<|sp hT ?_;refine nn<|gY<|bT (ι:=MSt×Option Addr×Nat×List Bool×Nat) [(1,_),(2,_),(4,_),(6,_),(8,_),(9,_),(11,_),(12,_),(13,_)] ⟨rfl,rfl,rfl,rfl,rfl,rfl,rfl,rfl,rfl,e9⟩ (λ⟨m,FA,fc,freed,k⟩=>[(14,.int .i64 (k:Nat))]) (λ⟨m,FA,fc,freed,k⟩=>[.obj b5 (.cells ([.int .i64 c.vars,.slice c.C.O c.C.B.length c.C.cap,.slice c.D.O c.D.B.length c.D.cap,.slice c.Q.O c.Q.B.length c.Q.cap,.slice LA c.C.B.length lc,.slice (some ⟨b3,0,none⟩) c.C.B.length c.C.B.length,.slice (some ⟨b4,0,none⟩) c.C.B.length c.C.B.length,.slice FA m.V.length fc,.slice (some ⟨b6,0,none⟩) c.C.B.length c.C.B.length,.slice m.J.O m.J.B.length m.J.cap]:List Value).toArray 196),fF.row (.slice (some ⟨b3,0,none⟩) c.C.B.length c.C.B.length) 43 m.W,gK.row (.slice (some ⟨b4,0,none⟩) c.C.B.length c.C.B.length) 4 m.laid,dA.row (.slice FA m.V.length fc) 3 m.V,fF.row (.slice (some ⟨b6,0,none⟩) c.C.B.length c.C.B.length) 43 m.Y,gK.row (.slice (some ⟨b9,0,none⟩) c.C.B.length c.C.B.length) 4 freed]) (λ⟨m,FA,fc,freed,k⟩=>[bC.pure (k<=c.C.B.length/\bAi c.C.B.length m freed (relK (i:Nat) (livesC c.c) s k)/\m.V.length<=1024*i+k/\(∀k:Nat,m.laid[k]?=some true-> ∃y,(livesC c.c)[k]?=some y/\y.from_<(i:Int))),bC.each m.W cR,bC.each m.Y cR,cR m.J]) (λ⟨m,FA,fc,freed,k⟩=>c.C.B.length-k) (m,FA,fc,freed,0) ⟨rfl,e9⟩ (.c0 (.c0 (.c0 (.c0 (.c0 (.c0 .nil)))))) ⟨f4 (⟨j5,hrr,hfi,hla⟩),d9,e6,e7,e9⟩ ?_;rintro⟨m,FA,fc,freed,k⟩;dsimp only;refine bG d7 λhinv20=>?_;have hrk:=hinv20.2.1;have hq1:=hrk.n1;have hq2:=hrk.n2;have hq3:=hrk.n3;have hq4:=hrk.n4;refine cH<|sr<|sp3 hT ?_;refine nn<|cD rfl (λhc88=>?_) (λhc88=>?_)
   .have hc88:=of_decide_eq_true hc88;refine dS<|cZ<|cH<|gY<|cH ?_
    obtain⟨yk,hyk⟩: ∃y,(lv (livesC c.c))[k]?=some y:=⟨_,G1 ae2⟩
    obtain⟨lk,hlk⟩: ∃t,m.laid[k]?=some t:=⟨_,G1 j5⟩
    obtain⟨fk,hfk⟩: ∃t,freed[k]?=some t:=⟨_,G1 j5⟩
    obtain⟨zk,hzk⟩: ∃t,m.W[k]?=some t:=⟨_,G1 j5⟩
    have hpk:mL m.W k=zk.B:=by unfold mL;rw[hzk];rfl
    rcases lk with _|_<;>rcases fk with _|_
    .refine bX<|sp3 hT ?_;refine ss (ldO hT (kwO6 .head)) ?_;refine sp hT ?_;refine ss (bE hT (k:=k) (bN kT2) rfl rfl rfl rfl rfl hrk.n2.symm rfl (j5)) ?_;refine ss (f7 hT (cF.knows (bN kT2) (k:=k) (x:=false) hlk 0)) ?_;refine sp hT ?_;refine sk4 ?_;refine sk ?_;refine sp2 hT ?_;refine sk4 ?_;refine sk3 ?_;refine sp hT ?_;refine nn<|jE rfl rfl ?_;refine dS<|gX<|cZ<|bX<|sp2 hT ?_;refine bM (z':=(((k+1):Nat):Int)) (jG j5 j5) ?_;refine sp hT ?_;refine nn ?_;exact dB (m,FA,fc,freed,k+1) k8 ⟨rfl,e9⟩ ⟨rfl,rfl,rfl,rfl,rfl,rfl,rfl,rfl,rfl,e9⟩ (.c0 (.c0 (.c0 (.c0 (.c0 (.c0 (.c0 (.c0 .nil)))))))) ⟨f4 (⟨by dsimp only;omega,p8,by dsimp only;omega,hinv20.2.2.2⟩),d8,d9,e6,e9⟩ (bA.drop 4)
    .refine bX<|sp3 hT ?_;refine ss (ldO hT (kwO6 .head)) ?_;refine sp hT ?_;refine ss (bE hT (k:=k) (bN kT2) rfl rfl rfl rfl rfl hrk.n2.symm rfl (j5)) ?_;refine ss (f7 hT (cF.knows (bN kT2) (k:=k) (x:=false) hlk 0)) ?_;refine sp hT ?_;refine sk4 ?_;refine sk ?_;refine sp2 hT ?_;refine sk4 ?_;refine sk3 ?_;refine sp hT ?_;refine nn<|jE rfl rfl ?_;refine dS<|gX<|cZ<|bX<|sp2 hT ?_;refine bM (z':=(((k+1):Nat):Int)) (jG j5 j5) ?_;refine sp hT ?_;refine nn ?_;exact dB (m,FA,fc,freed,k+1) k8 ⟨rfl,e9⟩ ⟨rfl,rfl,rfl,rfl,rfl,rfl,rfl,rfl,rfl,e9⟩ (.c0 (.c0 (.c0 (.c0 (.c0 (.c0 (.c0 (.c0 .nil)))))))) ⟨f4 (⟨by dsimp only;omega,p8,by dsimp only;omega,hinv20.2.2.2⟩),d8,d9,e6,e9⟩ (bA.drop 4)
    .refine bX<|sp3 hT ?_;refine ss (ldO hT (kwO6 .head)) ?_;refine sp hT ?_;refine ss (bE hT (k:=k) (bN kT2) rfl rfl rfl rfl rfl hrk.n2.symm rfl (j5)) ?_;refine ss (f7 hT (cF.knows (bN kT2) (k:=k) (x:=true) hlk 0)) ?_;refine sp3 hT ?_;refine ss (bE hT (k:=k) (bN kT5) rfl rfl rfl rfl rfl hrk.n4.symm rfl (j5)) ?_;refine ss (f7 hT (cF.knows (bN kT5) (k:=k) (x:=false) hfk 0)) ?_;refine sp4 hT ?_;refine sp hT ?_;refine ss (bE hT (k:=k) (bH (Has.of (tQ4 (tQ4 (tQ4 (tQ4 (.tail _ (.tail _ mT0)))))))) rfl rfl rfl rfl rfl hll.symm rfl ((G3.1 hyk).1)) ?_;refine sp hT ?_;refine ss (f7 hT (cF.knows (bH (Has.of (tQ4 (tQ4 (tQ4 (tQ4 (.tail _ (.tail _ mT0)))))))) (k:=k) (x:=yk) hyk 1)) ?_;refine sp3 hT ?_;refine nn<|cD rfl (λhc113=>?_) (λhc113=>?_)
     .have hc113:=of_decide_eq_true hc113;refine sr<|sp2 hT ?_;refine ss (bE hT (k:=k) (bN kT5) rfl rfl rfl rfl rfl hrk.n4.symm rfl (j5)) ?_;refine i6 hT (k:=k) (fo:=0) (y':=true) kT5 hfk ?_;refine nn<|sr<|sp3 hT ?_;refine ss (ldO hT (kwO5 kT1)) ?_;refine sp hT ?_;refine ss (bE hT (k:=k) (bN kT2) rfl rfl rfl rfl rfl hrk.n1.symm rfl (j5)) ?_;refine ss (f7 hT (cF.knows (bN kT2) (k:=k) (x:=zk) hzk 0)) ?_;refine sp2 hT ?_;refine nn<|cD rfl (λhc125=>?_) (λhc125=>?_)
      .have hc125:=of_decide_eq_true hc125;refine bX<|sp4 hT ?_;refine ss (ldO hT (kwO7 kT1)) ?_;refine sp hT ?_;refine bDm (m:=(k:Nat)) rfl rfl rfl rfl rfl λb10=>?_;refine uC kT5 (fD .head rfl) rfl rfl rfl rfl rfl rfl rfl o8 λA11 c12=>?_;refine sp2 hT ?_;refine sto hT kT3 ?_;refine jL<|gX<|cZ<|bX<|sp2 hT ?_;refine bM (z':=(((k+1):Nat):Int)) (jG j5 j5) ?_;refine sp hT ?_;refine nn ?_;exact dB (⟨m.W,m.laid,m.V++[(k:Int)],m.Y,m.J⟩,A11,c12,freed.set k true,k+1) k8 ⟨rfl,e9⟩ ⟨rfl,rfl,rfl,rfl,rfl,rfl,rfl,rfl,rfl,e9⟩ (.c0 (.c3 (.c3 (.c0 (.c2 (.c1 (.c1 (.c1 .nil)))))))) ⟨f4 (⟨by dsimp only;omega,q8,by dsimp only;rw[G4,Ad];omega,hinv20.2.2.2⟩),d8,d9,e6,e9⟩ (bA.drop 4)
      have hc125:=Y8.1 (of_decide_eq_false hc125);refine dS<|gX<|cZ<|bX<|sp2 hT ?_;refine bM (z':=(((k+1):Nat):Int)) (jG j5 j5) ?_;refine sp hT ?_;refine nn ?_;exact dB (⟨m.W,m.laid,m.V,m.Y,m.J⟩,FA,fc,freed.set k true,k+1) k8 ⟨rfl,e9⟩ ⟨rfl,rfl,rfl,rfl,rfl,rfl,rfl,rfl,rfl,e9⟩ (.c1 (.c1 (.c1 (.c1 (.c1 (.c0 (.c0 (.c0 .nil)))))))) ⟨f4 (⟨by dsimp only;omega,q7,by dsimp only;omega,hinv20.2.2.2⟩),d8,d9,e6,e9⟩ (bA.drop 4)
     have hc113:=Y8.1 (of_decide_eq_false hc113);refine dS<|gX<|cZ<|bX<|sp2 hT ?_;refine bM (z':=(((k+1):Nat):Int)) (jG j5 j5) ?_;refine sp hT ?_;refine nn ?_;exact dB (m,FA,fc,freed,k+1) k8 ⟨rfl,e9⟩ ⟨rfl,rfl,rfl,rfl,rfl,rfl,rfl,rfl,rfl,e9⟩ (.c0 (.c0 (.c0 (.c0 (.c0 (.c0 (.c0 (.c0 .nil)))))))) ⟨f4 (⟨by dsimp only;omega,v7,by dsimp only;omega,hinv20.2.2.2⟩),d8,d9,e6,e9⟩ (bA.drop 4)
    refine bX<|sp3 hT ?_;refine ss (ldO hT (kwO6 .head)) ?_;refine sp hT ?_;refine ss (bE hT (k:=k) (bN kT2) rfl rfl rfl rfl rfl hrk.n2.symm rfl (j5)) ?_;refine ss (f7 hT (cF.knows (bN kT2) (k:=k) (x:=true) hlk 0)) ?_;refine sp3 hT ?_;refine ss (bE hT (k:=k) (bN kT5) rfl rfl rfl rfl rfl hrk.n4.symm rfl (j5)) ?_;refine ss (f7 hT (cF.knows (bN kT5) (k:=k) (x:=true) hfk 0)) ?_;refine sp3 hT ?_;refine sk4 ?_;refine sk3 ?_;refine sp hT ?_;refine nn<|jE rfl rfl ?_;refine dS<|gX<|cZ<|bX<|sp2 hT ?_;refine bM (z':=(((k+1):Nat):Int)) (jG j5 j5) ?_;refine sp hT ?_;refine nn ?_;exact dB (m,FA,fc,freed,k+1) k8 ⟨rfl,e9⟩ ⟨rfl,rfl,rfl,rfl,rfl,rfl,rfl,rfl,rfl,e9⟩ (.c0 (.c0 (.c0 (.c0 (.c0 (.c0 (.c0 (.c0 .nil)))))))) ⟨f4 (⟨by dsimp only;omega,w7,by dsimp only;omega,hinv20.2.2.2⟩),d8,d9,e6,e9⟩ (bA.drop 4)
   have hc88:=Y8.1 (of_decide_eq_false hc88);refine oR<|lA<|lA<|oO<|cZ<|cH ?_;have hkk:k=c.C.B.length:=j5
   have hrk2:=hrk;rw[hkk]at hrk2;have hrc:bAi c.C.B.length m freed (relC (i:Nat) (livesC c.c) s):=by rw[<-relK_eq (i:Nat) (livesC c.c) s (by rw[iY,hnb,hrr.n5]),iY,hnb];exact hrk2
   have hlaid:=hinv20.2.2.2;have hnl:m.laid[x.I.toNat]?=some false:=bLj j5 (λh=>by obtain⟨y2,h1,h2⟩:=hlaid _ h;rw[gM hy]at h1;cases h1;have:y.from_<(i:Int):=h2;omega)
   rcases hly:layC (polsL u.K.B) x.I.toNat t (relC (i:Nat) (livesC c.c) s)with _|s'
   .refine bX<|sp4 hT ?_;refine ss (bE hT (k:=x.I.toNat) (bH (Has.of (tQ4 (tQ4 (tQ4 (tQ4 (.tail _ mT0))))))) rfl rfl rfl rfl rfl hfl.symm j5 ((G3.1 ht).1)) ?_;refine ss (f7 hT (cF.knows (bH (Has.of (tQ4 (tQ4 (tQ4 (tQ4 (.tail _ mT0))))))) (k:=x.I.toNat) (x:=t) ht 0)) ?_;have hb2:((x.I.toNat:Nat):Int)=x.I:=j5
    have h9:=nG b5 c LA (some ⟨b3,0,none⟩) (some ⟨b4,0,none⟩) FA (some ⟨b6,0,none⟩) lc c.C.B.length c.C.B.length c.C.B.length fc c.C.B.length m freed (relC (i:Nat) (livesC c.c) s) hrc x.I.toNat u hu j5 hnl j5 t;rw[hb2]at h9;refine bL func79 h9 rfl rfl (.c0 (.c0 (.c0 (.c0 (.c0 .nil))))) ⟨Has.of (tQ4 (tQ4 (tQ4 (tQ4 (.tail _ (.tail _ (.tail _ mT0))))))),d8,d9,e6,e9⟩ λy13=>?_;refine bG e6 λhpu=>bR (t':=false) t7 ?_;refine sp hT ?_;refine nn<|gT rfl rfl ?_;refine sr<|ss (bY rfl rfl (kO)) ?_;refine sto hT kT6 ?_;refine sp hT ?_;refine nn<|lX<|mC<|iT<|iT<|mC<|iT ?_;have hW:=pP hr (hR.trans ((hgo.2 ‹_›).2 hly));exact lK (⟨⟨none,0,[]⟩,⟨none,0,[]⟩⟩:LayV) rfl (rR hT (sS .head) rfl rfl rfl rfl) (rv_tmp rfl) .nil ⟨pG,Has.each_nil,polF_nil,f4 t6,e9⟩ t6
   refine bX<|sp4 hT ?_;refine ss (bE hT (k:=x.I.toNat) (bH (Has.of (tQ4 (tQ4 (tQ4 (tQ4 (.tail _ mT0))))))) rfl rfl rfl rfl rfl hfl.symm j5 ((G3.1 ht).1)) ?_;refine ss (f7 hT (cF.knows (bH (Has.of (tQ4 (tQ4 (tQ4 (tQ4 (.tail _ mT0))))))) (k:=x.I.toNat) (x:=t) ht 0)) ?_;have hb2:((x.I.toNat:Nat):Int)=x.I:=j5
   have h9:=nG b5 c LA (some ⟨b3,0,none⟩) (some ⟨b4,0,none⟩) FA (some ⟨b6,0,none⟩) lc c.C.B.length c.C.B.length c.C.B.length fc c.C.B.length m freed (relC (i:Nat) (livesC c.c) s) hrc x.I.toNat u hu j5 hnl j5 t;rw[hb2]at h9;refine bL func79 h9 rfl rfl (.c0 (.c0 (.c0 (.c0 (.c0 .nil))))) ⟨Has.of (tQ4 (tQ4 (tQ4 (tQ4 (.tail _ (.tail _ (.tail _ mT0))))))),d8,d9,e6,e9⟩ λy14=>?_;refine bG e6 λhpu=>bR (t':=true) t7 ?_;refine sp hT ?_;refine nn<|jE rfl rfl ?_;refine dS<|gX<|cZ<|bX<|sp2 hT ?_;refine bM (z':=(((i+1):Nat):Int)) (jG j5 j5) ?_;refine sp hT ?_;refine nn ?_;exact dB (y14.1,y14.2.1,y14.2.2,freed,s',i+1) k8 ⟨rfl,e9⟩ ⟨rfl,rfl,rfl,rfl,rfl,rfl,rfl,e9⟩ (.c0 (.c0 (.c0 (.c0 (.c0 (.c0 (.c0 (.c0 .nil)))))))) ⟨f4 (⟨by dsimp only;omega,(hpu s' hly).1,by have:=(hpu s' hly).2.2;dsimp only;omega,bSs (hpu s' hly).2.1 hlaid (gM hy) ‹_›,(hgo.2 ‹_›).1 s' hly⟩),d7,d8,d9,e9⟩ (bA.drop 13)
  have hc70:=Y8.1 (of_decide_eq_false hc70);refine oR<|lA<|lA<|oO<|cZ<|sr<|sp3 hT ?_;refine ss (ldN hT (bU (off:=8) .head)) ?_;refine sto hT kT6 ?_;refine sp hT ?_;refine nn<|lX ?_;have hW:=bOb hr (hR.trans (go_end hinv15.2.2.2.2 ab5));refine gP (E:=fF) kT5 ?_;exact lK (⟨⟨(some ⟨b6,0,none⟩),c.C.B.length,m.Y⟩,m.J⟩:LayV) rfl (rR hT (sS .head) rfl rfl rfl rfl) (rv_tmp rfl) .nil ⟨bQf d7 hrr.n3,e6,e7,f4 (by rw[hW,<-hrr.Y,<-hrr.J];rfl),e9⟩ w8
 refine lZ (m:=c.C.B.length) rfl rfl rfl rfl rfl rfl j5 λb15=>?_;refine bDn (.c1 (.c1 .nil)) (bA.drop 0) ?_;refine bPt (o:=_) rfl ?_;refine sN (m:=c.C.B.length) rfl rfl rfl rfl rfl rfl j5 λb16=>?_;refine bDn (.c2 (.c2 .nil)) (bA.drop 0) ?_;refine sqT rfl (bY rfl rfl (iS _ _ _ _ _ _ _ _ _ _ _ _ _)) ?_;refine bPt (o:=_) rfl ?_;refine j0 λb17=>?_;refine bDn (.c3 (.c3 .nil)) (bA.drop 0) ?_;refine cL (t:=3) dA ?_;refine pvT hT ?_;refine att_nil<|cZ<|sr<|sp2 hT ?_;refine sN (m:=c.C.B.length) rfl rfl rfl rfl rfl rfl j5 λb18=>?_;refine sp3 hT ?_;refine sto hT kT2 ?_;refine nn<|cH<|cH<|bK (cR ⟨none,0,[]⟩) (polF_nil) ?_;refine bK (bC.each (V4 c.C.B.length pB) cR) (wI _)<|bK (bC.each (V4 c.C.B.length pB) cR) (wI _) ?_;refine bX<|sp hT ?_;refine nn<|gY<|bT (ι:=MSt×Option Addr×Nat×PlC×Nat) [(1,_),(2,_),(4,_),(6,_),(8,_),(9,_)] ⟨rfl,rfl,rfl,rfl,rfl,rfl,e9⟩ (λ⟨m,FA,fc,s,b⟩=>[(10,.int .i64 (b:Nat))]) (λ⟨m,FA,fc,s,b⟩=>[.obj b17 (.cells ([.int .i64 c.vars,.slice c.C.O c.C.B.length c.C.cap,.slice c.D.O c.D.B.length c.D.cap,.slice c.Q.O c.Q.B.length c.Q.cap,.slice LA c.C.B.length lc,.slice (some ⟨b16,0,none⟩) c.C.B.length c.C.B.length,.slice (some ⟨b15,0,none⟩) c.C.B.length c.C.B.length,.slice FA m.V.length fc,.slice (some ⟨b18,0,none⟩) c.C.B.length c.C.B.length,.slice m.J.O m.J.B.length m.J.cap]:List Value).toArray 196),fF.row (.slice (some ⟨b16,0,none⟩) c.C.B.length c.C.B.length) 43 m.W,gK.row (.slice (some ⟨b15,0,none⟩) c.C.B.length c.C.B.length) 4 m.laid,dA.row (.slice FA m.V.length fc) 3 m.V,fF.row (.slice (some ⟨b18,0,none⟩) c.C.B.length c.C.B.length) 43 m.Y]) (λ⟨m,FA,fc,s,b⟩=>[bC.pure (b<=c.C.B.length/\bAi c.C.B.length m (V4 c.C.B.length false) s/\m.V.length<=0/\(∀k:Nat,m.laid[k]?=some true->k<b/\ ∃y,(livesC c.c)[k]?=some y/\y.from_<0)/\R=bEr c.c (mD c.c.C (livesC c.c) (c.C.B.length-b) b s)),bC.each m.W cR,bC.each m.Y cR,cR m.J]) (λ⟨m,FA,fc,s,b⟩=>c.C.B.length-b) ((⟨V4 c.C.B.length pB,V4 c.C.B.length false,[],V4 c.C.B.length pB,⟨none,0,[]⟩⟩:MSt),none,0,oD c.C.B.length,0) ⟨rfl,e9⟩ (.c0 (.c2 (.c2 (.c1 (.c0 .nil))))) ⟨f4 (⟨j5,bOn _,B8 _,λk hk=>by(rw[Ao]at hk;split at hk<;>cases hk),by rw[<-hR,bDh,hnb];rfl⟩),d8,d7,d9,e9⟩ ?_;rintro⟨m,FA,fc,s,b⟩;dsimp only;refine bG d7 λhinv9=>?_;have hrr:=hinv9.2.1;refine cH<|sr<|sp3 hT ?_;refine nn<|cD rfl (λhc48=>?_) (λhc48=>?_)
 .have hc48:=of_decide_eq_true hc48;refine dS<|cZ<|cH<|gY<|cH ?_;have hmn:c.C.B.length-b=(c.C.B.length-(b+1))+1:=j5
  obtain⟨u,hu⟩: ∃u,c.C.B[b]?=some u:=⟨_,G1 j5⟩
  obtain⟨y,hy⟩: ∃y,(lv (livesC c.c))[b]?=some y:=⟨_,G1 ae2⟩
  have hnl:m.laid[b]?=some false:=bLj (by rw[hrr.n2];omega) (λh=>by have:=(hinv9.2.2.2.1 b h).1;omega)
  rcases hly:layC (polsL u.K.B) b false s with _|s'
  .refine bX<|sp2 hT ?_;refine ss (bE hT (k:=b) (bH (Has.of mT9)) rfl rfl rfl rfl rfl hll.symm rfl ((G3.1 hy).1)) ?_;refine sp hT ?_;refine ss (f7 hT (cF.knows (bH (Has.of mT9)) (k:=b) (x:=y) hy 0)) ?_;refine sp2 hT ?_;refine cE (λhg57=>?_) (λhg57=>?_)
   .have hg57:=of_decide_eq_true hg57;refine sp2 hT ?_;have h9:=nG b17 c LA (some ⟨b16,0,none⟩) (some ⟨b15,0,none⟩) FA (some ⟨b18,0,none⟩) lc c.C.B.length c.C.B.length c.C.B.length fc c.C.B.length m (V4 c.C.B.length false) s hrr b u hu j5 hnl ac2 false;refine bL func79 h9 rfl rfl (.c0 (.c0 (.c0 (.c0 (.c0 .nil))))) ⟨Has.of mT10,d8,d9,e6,e9⟩ λy19=>?_;refine bG e6 λhpu=>bR (t':=false) t7 ?_;refine sp2 hT ?_;refine nn<|gT rfl rfl ?_;refine sr<|ss (bY rfl rfl (kO)) ?_;refine sto hT kT5 ?_;refine sp hT ?_;refine nn<|lX<|mC<|iT<|iT<|mC<|iT ?_;have hW:=pP hr (hR.trans (((jA hinv9.2.2.2.2 hmn (cM hu) (gM hy)).2 ‹_›).2 hly));exact lK (⟨⟨none,0,[]⟩,⟨none,0,[]⟩⟩:LayV) rfl (rR hT (sS .head) rfl rfl rfl rfl) (rv_tmp rfl) .nil ⟨pG,Has.each_nil,polF_nil,f4 t6,e9⟩ t6
   have hg57:=Y8.1 (of_decide_eq_false hg57);refine sk4 ?_;refine sp hT ?_;refine nn<|jE rfl rfl ?_;refine dS<|gX<|cZ<|bX<|sp2 hT ?_;refine bM (z':=(((b+1):Nat):Int)) (jG j5 j5) ?_;refine sp hT ?_;refine nn ?_;exact dB (m,FA,fc,s,b+1) k8 ⟨rfl,e9⟩ ⟨rfl,rfl,rfl,rfl,rfl,rfl,e9⟩ (.c0 (.c0 (.c0 (.c0 (.c0 (.c0 (.c0 .nil))))))) ⟨f4 (⟨by dsimp only;omega,hrr,hinv9.2.2.1,λk hk=>⟨by have:=(hinv9.2.2.2.1 k hk).1;dsimp only;omega,(hinv9.2.2.2.1 k hk).2⟩,(jA hinv9.2.2.2.2 hmn (cM hu) (gM hy)).1 aa6⟩),d8,d9,e6,e9⟩ (bA.drop 4)
  refine bX<|sp2 hT ?_;refine ss (bE hT (k:=b) (bH (Has.of mT9)) rfl rfl rfl rfl rfl hll.symm rfl ((G3.1 hy).1)) ?_;refine sp hT ?_;refine ss (f7 hT (cF.knows (bH (Has.of mT9)) (k:=b) (x:=y) hy 0)) ?_;refine sp2 hT ?_;refine cE (λhg57=>?_) (λhg57=>?_)
  .have hg57:=of_decide_eq_true hg57;refine sp2 hT ?_;have h9:=nG b17 c LA (some ⟨b16,0,none⟩) (some ⟨b15,0,none⟩) FA (some ⟨b18,0,none⟩) lc c.C.B.length c.C.B.length c.C.B.length fc c.C.B.length m (V4 c.C.B.length false) s hrr b u hu j5 hnl ac2 false;refine bL func79 h9 rfl rfl (.c0 (.c0 (.c0 (.c0 (.c0 .nil))))) ⟨Has.of mT10,d8,d9,e6,e9⟩ λy20=>?_;refine bG e6 λhpu=>bR (t':=true) t7 ?_;refine sp2 hT ?_;refine nn<|jE rfl rfl ?_;refine dS<|gX<|cZ<|bX<|sp2 hT ?_;refine bM (z':=(((b+1):Nat):Int)) (jG j5 j5) ?_;refine sp hT ?_;refine nn ?_;exact dB (y20.1,y20.2.1,y20.2.2,s',b+1) k8 ⟨rfl,e9⟩ ⟨rfl,rfl,rfl,rfl,rfl,rfl,e9⟩ (.c0 (.c0 (.c0 (.c0 (.c0 (.c0 (.c0 .nil))))))) ⟨f4 (⟨by dsimp only;omega,(hpu s' hly).1,by have:=(hpu s' hly).2.2;dsimp only;omega,bUt (hpu s' hly).2.1 hinv9.2.2.2.1 (gM hy) ‹_›,((jA hinv9.2.2.2.2 hmn (cM hu) (gM hy)).2 ‹_›).1 s' hly⟩),d7,d8,d9,e9⟩ (bA.drop 8)
  have hg57:=Y8.1 (of_decide_eq_false hg57);refine sk4 ?_;refine sp hT ?_;refine nn<|jE rfl rfl ?_;refine dS<|gX<|cZ<|bX<|sp2 hT ?_;refine bM (z':=(((b+1):Nat):Int)) (jG j5 j5) ?_;refine sp hT ?_;refine nn ?_;exact dB (m,FA,fc,s,b+1) k8 ⟨rfl,e9⟩ ⟨rfl,rfl,rfl,rfl,rfl,rfl,e9⟩ (.c0 (.c0 (.c0 (.c0 (.c0 (.c0 (.c0 .nil))))))) ⟨f4 (⟨by dsimp only;omega,hrr,hinv9.2.2.1,λk hk=>⟨by have:=(hinv9.2.2.2.1 k hk).1;dsimp only;omega,(hinv9.2.2.2.1 k hk).2⟩,(jA hinv9.2.2.2.2 hmn (cM hu) (gM hy)).1 aa6⟩),d8,d9,e6,e9⟩ (bA.drop 4)
 have hc48:=Y8.1 (of_decide_eq_false hc48);refine oR<|lA<|lA<|oO<|cZ<|sr<|sp hT ?_;refine lZ (m:=c.C.B.length) rfl rfl rfl rfl rfl rfl j5 λb21=>?_;refine sp hT ?_;refine nn<|cH<|sr<|sp hT ?_;refine nn<|gY<|bT (ι:=MSt×Option Addr×Nat×List Bool×PlC×Nat) [(1,_),(2,_),(4,_),(6,_),(8,_),(9,_),(11,_)] ⟨rfl,rfl,rfl,rfl,rfl,rfl,rfl,e9⟩ (λ⟨m,FA,fc,freed,s,i⟩=>[(12,.int .i64 (i:Nat))]) (λ⟨m,FA,fc,freed,s,i⟩=>[.obj b17 (.cells ([.int .i64 c.vars,.slice c.C.O c.C.B.length c.C.cap,.slice c.D.O c.D.B.length c.D.cap,.slice c.Q.O c.Q.B.length c.Q.cap,.slice LA c.C.B.length lc,.slice (some ⟨b16,0,none⟩) c.C.B.length c.C.B.length,.slice (some ⟨b15,0,none⟩) c.C.B.length c.C.B.length,.slice FA m.V.length fc,.slice (some ⟨b18,0,none⟩) c.C.B.length c.C.B.length,.slice m.J.O m.J.B.length m.J.cap]:List Value).toArray 196),fF.row (.slice (some ⟨b16,0,none⟩) c.C.B.length c.C.B.length) 43 m.W,gK.row (.slice (some ⟨b15,0,none⟩) c.C.B.length c.C.B.length) 4 m.laid,dA.row (.slice FA m.V.length fc) 3 m.V,fF.row (.slice (some ⟨b18,0,none⟩) c.C.B.length c.C.B.length) 43 m.Y,gK.row (.slice (some ⟨b21,0,none⟩) c.C.B.length c.C.B.length) 4 freed]) (λ⟨m,FA,fc,freed,s,i⟩=>[bC.pure (i<=c.D.B.length/\bAi c.C.B.length m freed s/\m.V.length<=1024*i/\(∀k:Nat,m.laid[k]?=some true-> ∃y,(livesC c.c)[k]?=some y/\y.from_<(i:Int))/\R=bRt (goC c.c (livesC c.c) (fullC c.c) (c.c.D.drop i) i s)),bC.each m.W cR,bC.each m.Y cR,cR m.J]) (λ⟨m,FA,fc,freed,s,i⟩=>c.D.B.length-i) (m,FA,fc,V4 c.C.B.length false,s,0) ⟨rfl,e9⟩ (.c1 (.c1 (.c1 (.c1 (.c1 (.c0 .nil)))))) ⟨f4 (⟨j5,hrr,by have:=hinv9.2.2.1;omega,λk hk=>by obtain⟨_,y,h1,h2⟩:=hinv9.2.2.2.1 k hk;exact⟨y,h1,j5⟩,bHw (b:=b) aa0⟩),d8,d9,e6,e9⟩ ?_;rintro⟨m,FA,fc,freed,s,i⟩;dsimp only;refine bG d7 λhinv15=>?_;have hrr:=hinv15.2.1;refine cH<|sr<|sp2 hT ?_;refine ss (ldO hT (kwO2 kT7)) ?_;refine sp2 hT ?_;refine nn<|cD rfl (λhc70=>?_) (λhc70=>?_)
 .have hc70:=of_decide_eq_true hc70;refine dS<|cZ<|cH<|gY<|cH<|bK (pU.sl (.slice c.D.O c.D.B.length c.D.cap) c.D.B) (lM (gS (Has.of mT14))) ?_
  obtain⟨x,hx⟩: ∃x',c.D.B[i]?=some x':=⟨_,G1 j5⟩
  obtain⟨hb0,hb1,_⟩:=hst x.c (f5 (cN hx))
  replace hb0:0<=x.I:=hb0
  replace hb1:x.I<(c.c.C.length:Nat):=hb1
  have hbz2:x.I.toNat<c.C.B.length:=j5
  obtain⟨u,hu⟩: ∃u,c.C.B[x.I.toNat]?=some u:=⟨_,G1 hbz2⟩
  obtain⟨y,hy⟩: ∃y,(lv (livesC c.c))[x.I.toNat]?=some y:=⟨_,G1 (by rw[hll];exact hbz2)⟩
  obtain⟨t,ht⟩: ∃t,(fullC c.c)[x.I.toNat]?=some t:=⟨_,G1 (by rw[hfl];exact hbz2)⟩
  have hgo:=go_step hinv15.2.2.2.2 (cN hx) (cM hu) (gM hy) ht;have hfi:=hinv15.2.2.1;have hla:=hinv15.2.2.2.1;refine bX<|sp hT ?_;refine ss (ldO hT (kwO2 kT7)) ?_;refine sp hT ?_;refine ss (bE hT (k:=i) (bH d7) rfl rfl rfl rfl rfl rfl rfl j5) ?_;refine sp hT ?_;refine ss (f7 hT (cF.knows (bH d7) (k:=i) (x:=x) hx 1)) ?_;refine sp hT ?_;refine nn<|cH<|sr<|sp2 hT ?_;refine ss (bE hT (k:=x.I.toNat) (bH (Has.of mT14)) rfl rfl rfl rfl rfl hll.symm j5 ((G3.1 hy).1)) ?_;refine sp hT ?_;refine ss (f7 hT (cF.knows (bH (Has.of mT14)) (k:=x.I.toNat) (x:=y) hy 0)) ?_;refine sp2 hT ?_;refine nn<|cD rfl (λhc85=>?_) (λhc85=>?_)
  .have hc85:=bne_iff_ne.1 hc85;refine oR<|lA<|oO<|cZ<|bX<|sp2 hT ?_;refine bM (z':=(((i+1):Nat):Int)) (jG j5 j5) ?_;refine sp hT ?_;refine nn ?_;exact dB (m,FA,fc,freed,s,i+1) k8 ⟨rfl,e9⟩ ⟨rfl,rfl,rfl,rfl,rfl,rfl,rfl,e9⟩ (.c0 (.c0 (.c0 (.c0 (.c0 (.c0 (.c0 (.c0 .nil)))))))) ⟨f4 (⟨by dsimp only;omega,hrr,by dsimp only;omega,λk hk=>by obtain⟨y,h1,h2⟩:=hinv15.2.2.2.1 k hk;exact⟨y,h1,by dsimp only;omega⟩,hgo.1 ‹_›⟩),d9,e6,e7,e9⟩ (bA.drop 5)
  have hc85:=bne_eq_false_iff_eq.1 hc85;refine dS<|cZ<|cH<|sr<|sp hT ?_;refine nn<|gY<|bT (ι:=MSt×Option Addr×Nat×List Bool×Nat) [(1,_),(2,_),(4,_),(6,_),(8,_),(9,_),(11,_),(12,_),(13,_)] ⟨rfl,rfl,rfl,rfl,rfl,rfl,rfl,rfl,rfl,e9⟩ (λ⟨m,FA,fc,freed,k⟩=>[(14,.int .i64 (k:Nat))]) (λ⟨m,FA,fc,freed,k⟩=>[.obj b17 (.cells ([.int .i64 c.vars,.slice c.C.O c.C.B.length c.C.cap,.slice c.D.O c.D.B.length c.D.cap,.slice c.Q.O c.Q.B.length c.Q.cap,.slice LA c.C.B.length lc,.slice (some ⟨b16,0,none⟩) c.C.B.length c.C.B.length,.slice (some ⟨b15,0,none⟩) c.C.B.length c.C.B.length,.slice FA m.V.length fc,.slice (some ⟨b18,0,none⟩) c.C.B.length c.C.B.length,.slice m.J.O m.J.B.length m.J.cap]:List Value).toArray 196),fF.row (.slice (some ⟨b16,0,none⟩) c.C.B.length c.C.B.length) 43 m.W,gK.row (.slice (some ⟨b15,0,none⟩) c.C.B.length c.C.B.length) 4 m.laid,dA.row (.slice FA m.V.length fc) 3 m.V,fF.row (.slice (some ⟨b18,0,none⟩) c.C.B.length c.C.B.length) 43 m.Y,gK.row (.slice (some ⟨b21,0,none⟩) c.C.B.length c.C.B.length) 4 freed]) (λ⟨m,FA,fc,freed,k⟩=>[bC.pure (k<=c.C.B.length/\bAi c.C.B.length m freed (relK (i:Nat) (livesC c.c) s k)/\m.V.length<=1024*i+k/\(∀k:Nat,m.laid[k]?=some true-> ∃y,(livesC c.c)[k]?=some y/\y.from_<(i:Int))),bC.each m.W cR,bC.each m.Y cR,cR m.J]) (λ⟨m,FA,fc,freed,k⟩=>c.C.B.length-k) (m,FA,fc,freed,0) ⟨rfl,e9⟩ (.c0 (.c0 (.c0 (.c0 (.c0 (.c0 .nil)))))) ⟨f4 (⟨j5,hrr,hfi,hla⟩),d9,e6,e7,e9⟩ ?_;rintro⟨m,FA,fc,freed,k⟩;dsimp only;refine bG d7 λhinv20=>?_;have hrk:=hinv20.2.1;have hq1:=hrk.n1;have hq2:=hrk.n2;have hq3:=hrk.n3;have hq4:=hrk.n4;refine cH<|sr<|sp3 hT ?_;refine nn<|cD rfl (λhc88=>?_) (λhc88=>?_)
  .have hc88:=of_decide_eq_true hc88;refine dS<|cZ<|cH<|gY<|cH ?_
   obtain⟨yk,hyk⟩: ∃y,(lv (livesC c.c))[k]?=some y:=⟨_,G1 ae2⟩
   obtain⟨lk,hlk⟩: ∃t,m.laid[k]?=some t:=⟨_,G1 j5⟩
   obtain⟨fk,hfk⟩: ∃t,freed[k]?=some t:=⟨_,G1 j5⟩
   obtain⟨zk,hzk⟩: ∃t,m.W[k]?=some t:=⟨_,G1 j5⟩
   have hpk:mL m.W k=zk.B:=by unfold mL;rw[hzk];rfl
   rcases lk with _|_<;>rcases fk with _|_
   .refine bX<|sp3 hT ?_;refine ss (ldO hT (kwO6 .head)) ?_;refine sp hT ?_;refine ss (bE hT (k:=k) (bN kT2) rfl rfl rfl rfl rfl hrk.n2.symm rfl (j5)) ?_;refine ss (f7 hT (cF.knows (bN kT2) (k:=k) (x:=false) hlk 0)) ?_;refine sp hT ?_;refine sk4 ?_;refine sk ?_;refine sp2 hT ?_;refine sk4 ?_;refine sk3 ?_;refine sp hT ?_;refine nn<|jE rfl rfl ?_;refine dS<|gX<|cZ<|bX<|sp2 hT ?_;refine bM (z':=(((k+1):Nat):Int)) (jG j5 j5) ?_;refine sp hT ?_;refine nn ?_;exact dB (m,FA,fc,freed,k+1) k8 ⟨rfl,e9⟩ ⟨rfl,rfl,rfl,rfl,rfl,rfl,rfl,rfl,rfl,e9⟩ (.c0 (.c0 (.c0 (.c0 (.c0 (.c0 (.c0 (.c0 .nil)))))))) ⟨f4 (⟨by dsimp only;omega,p8,by dsimp only;omega,hinv20.2.2.2⟩),d8,d9,e6,e9⟩ (bA.drop 4)
   .refine bX<|sp3 hT ?_;refine ss (ldO hT (kwO6 .head)) ?_;refine sp hT ?_;refine ss (bE hT (k:=k) (bN kT2) rfl rfl rfl rfl rfl hrk.n2.symm rfl (j5)) ?_;refine ss (f7 hT (cF.knows (bN kT2) (k:=k) (x:=false) hlk 0)) ?_;refine sp hT ?_;refine sk4 ?_;refine sk ?_;refine sp2 hT ?_;refine sk4 ?_;refine sk3 ?_;refine sp hT ?_;refine nn<|jE rfl rfl ?_;refine dS<|gX<|cZ<|bX<|sp2 hT ?_;refine bM (z':=(((k+1):Nat):Int)) (jG j5 j5) ?_;refine sp hT ?_;refine nn ?_;exact dB (m,FA,fc,freed,k+1) k8 ⟨rfl,e9⟩ ⟨rfl,rfl,rfl,rfl,rfl,rfl,rfl,rfl,rfl,e9⟩ (.c0 (.c0 (.c0 (.c0 (.c0 (.c0 (.c0 (.c0 .nil)))))))) ⟨f4 (⟨by dsimp only;omega,p8,by dsimp only;omega,hinv20.2.2.2⟩),d8,d9,e6,e9⟩ (bA.drop 4)
   .refine bX<|sp3 hT ?_;refine ss (ldO hT (kwO6 .head)) ?_;refine sp hT ?_;refine ss (bE hT (k:=k) (bN kT2) rfl rfl rfl rfl rfl hrk.n2.symm rfl (j5)) ?_;refine ss (f7 hT (cF.knows (bN kT2) (k:=k) (x:=true) hlk 0)) ?_;refine sp3 hT ?_;refine ss (bE hT (k:=k) (bN kT5) rfl rfl rfl rfl rfl hrk.n4.symm rfl (j5)) ?_;refine ss (f7 hT (cF.knows (bN kT5) (k:=k) (x:=false) hfk 0)) ?_;refine sp4 hT ?_;refine sp hT ?_;refine ss (bE hT (k:=k) (bH (Has.of (tQ4 (tQ4 (tQ4 (tQ4 (.tail _ (.tail _ mT0)))))))) rfl rfl rfl rfl rfl hll.symm rfl ((G3.1 hyk).1)) ?_;refine sp hT ?_;refine ss (f7 hT (cF.knows (bH (Has.of (tQ4 (tQ4 (tQ4 (tQ4 (.tail _ (.tail _ mT0)))))))) (k:=k) (x:=yk) hyk 1)) ?_;refine sp3 hT ?_;refine nn<|cD rfl (λhc113=>?_) (λhc113=>?_)
    .have hc113:=of_decide_eq_true hc113;refine sr<|sp2 hT ?_;refine ss (bE hT (k:=k) (bN kT5) rfl rfl rfl rfl rfl hrk.n4.symm rfl (j5)) ?_;refine i6 hT (k:=k) (fo:=0) (y':=true) kT5 hfk ?_;refine nn<|sr<|sp3 hT ?_;refine ss (ldO hT (kwO5 kT1)) ?_;refine sp hT ?_;refine ss (bE hT (k:=k) (bN kT2) rfl rfl rfl rfl rfl hrk.n1.symm rfl (j5)) ?_;refine ss (f7 hT (cF.knows (bN kT2) (k:=k) (x:=zk) hzk 0)) ?_;refine sp2 hT ?_;refine nn<|cD rfl (λhc125=>?_) (λhc125=>?_)
     .have hc125:=of_decide_eq_true hc125;refine bX<|sp4 hT ?_;refine ss (ldO hT (kwO7 kT1)) ?_;refine sp hT ?_;refine bDm (m:=(k:Nat)) rfl rfl rfl rfl rfl λb22=>?_;refine uC kT5 (fD .head rfl) rfl rfl rfl rfl rfl rfl rfl o8 λA23 c24=>?_;refine sp2 hT ?_;refine sto hT kT3 ?_;refine jL<|gX<|cZ<|bX<|sp2 hT ?_;refine bM (z':=(((k+1):Nat):Int)) (jG j5 j5) ?_;refine sp hT ?_;refine nn ?_;exact dB (⟨m.W,m.laid,m.V++[(k:Int)],m.Y,m.J⟩,A23,c24,freed.set k true,k+1) k8 ⟨rfl,e9⟩ ⟨rfl,rfl,rfl,rfl,rfl,rfl,rfl,rfl,rfl,e9⟩ (.c0 (.c3 (.c3 (.c0 (.c2 (.c1 (.c1 (.c1 .nil)))))))) ⟨f4 (⟨by dsimp only;omega,q8,by dsimp only;rw[G4,Ad];omega,hinv20.2.2.2⟩),d8,d9,e6,e9⟩ (bA.drop 4)
     have hc125:=Y8.1 (of_decide_eq_false hc125);refine dS<|gX<|cZ<|bX<|sp2 hT ?_;refine bM (z':=(((k+1):Nat):Int)) (jG j5 j5) ?_;refine sp hT ?_;refine nn ?_;exact dB (⟨m.W,m.laid,m.V,m.Y,m.J⟩,FA,fc,freed.set k true,k+1) k8 ⟨rfl,e9⟩ ⟨rfl,rfl,rfl,rfl,rfl,rfl,rfl,rfl,rfl,e9⟩ (.c1 (.c1 (.c1 (.c1 (.c1 (.c0 (.c0 (.c0 .nil)))))))) ⟨f4 (⟨by dsimp only;omega,q7,by dsimp only;omega,hinv20.2.2.2⟩),d8,d9,e6,e9⟩ (bA.drop 4)
    have hc113:=Y8.1 (of_decide_eq_false hc113);refine dS<|gX<|cZ<|bX<|sp2 hT ?_;refine bM (z':=(((k+1):Nat):Int)) (jG j5 j5) ?_;refine sp hT ?_;refine nn ?_;exact dB (m,FA,fc,freed,k+1) k8 ⟨rfl,e9⟩ ⟨rfl,rfl,rfl,rfl,rfl,rfl,rfl,rfl,rfl,e9⟩ (.c0 (.c0 (.c0 (.c0 (.c0 (.c0 (.c0 (.c0 .nil)))))))) ⟨f4 (⟨by dsimp only;omega,v7,by dsimp only;omega,hinv20.2.2.2⟩),d8,d9,e6,e9⟩ (bA.drop 4)
   refine bX<|sp3 hT ?_;refine ss (ldO hT (kwO6 .head)) ?_;refine sp hT ?_;refine ss (bE hT (k:=k) (bN kT2) rfl rfl rfl rfl rfl hrk.n2.symm rfl (j5)) ?_;refine ss (f7 hT (cF.knows (bN kT2) (k:=k) (x:=true) hlk 0)) ?_;refine sp3 hT ?_;refine ss (bE hT (k:=k) (bN kT5) rfl rfl rfl rfl rfl hrk.n4.symm rfl (j5)) ?_;refine ss (f7 hT (cF.knows (bN kT5) (k:=k) (x:=true) hfk 0)) ?_;refine sp3 hT ?_;refine sk4 ?_;refine sk3 ?_;refine sp hT ?_;refine nn<|jE rfl rfl ?_;refine dS<|gX<|cZ<|bX<|sp2 hT ?_;refine bM (z':=(((k+1):Nat):Int)) (jG j5 j5) ?_;refine sp hT ?_;refine nn ?_;exact dB (m,FA,fc,freed,k+1) k8 ⟨rfl,e9⟩ ⟨rfl,rfl,rfl,rfl,rfl,rfl,rfl,rfl,rfl,e9⟩ (.c0 (.c0 (.c0 (.c0 (.c0 (.c0 (.c0 (.c0 .nil)))))))) ⟨f4 (⟨by dsimp only;omega,w7,by dsimp only;omega,hinv20.2.2.2⟩),d8,d9,e6,e9⟩ (bA.drop 4)
  have hc88:=Y8.1 (of_decide_eq_false hc88);refine oR<|lA<|lA<|oO<|cZ<|cH ?_;have hkk:k=c.C.B.length:=j5
  have hrk2:=hrk;rw[hkk]at hrk2;have hrc:bAi c.C.B.length m freed (relC (i:Nat) (livesC c.c) s):=by rw[<-relK_eq (i:Nat) (livesC c.c) s (by rw[iY,hnb,hrr.n5]),iY,hnb];exact hrk2
  have hlaid:=hinv20.2.2.2;have hnl:m.laid[x.I.toNat]?=some false:=bLj j5 (λh=>by obtain⟨y2,h1,h2⟩:=hlaid _ h;rw[gM hy]at h1;cases h1;have:y.from_<(i:Int):=h2;omega)
  rcases hly:layC (polsL u.K.B) x.I.toNat t (relC (i:Nat) (livesC c.c) s)with _|s'
  .refine bX<|sp4 hT ?_;refine ss (bE hT (k:=x.I.toNat) (bH (Has.of (tQ4 (tQ4 (tQ4 (tQ4 (.tail _ mT0))))))) rfl rfl rfl rfl rfl hfl.symm j5 ((G3.1 ht).1)) ?_;refine ss (f7 hT (cF.knows (bH (Has.of (tQ4 (tQ4 (tQ4 (tQ4 (.tail _ mT0))))))) (k:=x.I.toNat) (x:=t) ht 0)) ?_;have hb2:((x.I.toNat:Nat):Int)=x.I:=j5
   have h9:=nG b17 c LA (some ⟨b16,0,none⟩) (some ⟨b15,0,none⟩) FA (some ⟨b18,0,none⟩) lc c.C.B.length c.C.B.length c.C.B.length fc c.C.B.length m freed (relC (i:Nat) (livesC c.c) s) hrc x.I.toNat u hu j5 hnl j5 t;rw[hb2]at h9;refine bL func79 h9 rfl rfl (.c0 (.c0 (.c0 (.c0 (.c0 .nil))))) ⟨Has.of (tQ4 (tQ4 (tQ4 (tQ4 (.tail _ (.tail _ (.tail _ mT0))))))),d8,d9,e6,e9⟩ λy25=>?_;refine bG e6 λhpu=>bR (t':=false) t7 ?_;refine sp hT ?_;refine nn<|gT rfl rfl ?_;refine sr<|ss (bY rfl rfl (kO)) ?_;refine sto hT kT6 ?_;refine sp hT ?_;refine nn<|lX<|mC<|iT<|iT<|mC<|iT ?_;have hW:=pP hr (hR.trans ((hgo.2 ‹_›).2 hly));exact lK (⟨⟨none,0,[]⟩,⟨none,0,[]⟩⟩:LayV) rfl (rR hT (sS .head) rfl rfl rfl rfl) (rv_tmp rfl) .nil ⟨pG,Has.each_nil,polF_nil,f4 t6,e9⟩ t6
  refine bX<|sp4 hT ?_;refine ss (bE hT (k:=x.I.toNat) (bH (Has.of (tQ4 (tQ4 (tQ4 (tQ4 (.tail _ mT0))))))) rfl rfl rfl rfl rfl hfl.symm j5 ((G3.1 ht).1)) ?_;refine ss (f7 hT (cF.knows (bH (Has.of (tQ4 (tQ4 (tQ4 (tQ4 (.tail _ mT0))))))) (k:=x.I.toNat) (x:=t) ht 0)) ?_;have hb2:((x.I.toNat:Nat):Int)=x.I:=j5
  have h9:=nG b17 c LA (some ⟨b16,0,none⟩) (some ⟨b15,0,none⟩) FA (some ⟨b18,0,none⟩) lc c.C.B.length c.C.B.length c.C.B.length fc c.C.B.length m freed (relC (i:Nat) (livesC c.c) s) hrc x.I.toNat u hu j5 hnl j5 t;rw[hb2]at h9;refine bL func79 h9 rfl rfl (.c0 (.c0 (.c0 (.c0 (.c0 .nil))))) ⟨Has.of (tQ4 (tQ4 (tQ4 (tQ4 (.tail _ (.tail _ (.tail _ mT0))))))),d8,d9,e6,e9⟩ λy26=>?_;refine bG e6 λhpu=>bR (t':=true) t7 ?_;refine sp hT ?_;refine nn<|jE rfl rfl ?_;refine dS<|gX<|cZ<|bX<|sp2 hT ?_;refine bM (z':=(((i+1):Nat):Int)) (jG j5 j5) ?_;refine sp hT ?_;refine nn ?_;exact dB (y26.1,y26.2.1,y26.2.2,freed,s',i+1) k8 ⟨rfl,e9⟩ ⟨rfl,rfl,rfl,rfl,rfl,rfl,rfl,e9⟩ (.c0 (.c0 (.c0 (.c0 (.c0 (.c0 (.c0 (.c0 .nil)))))))) ⟨f4 (⟨by dsimp only;omega,(hpu s' hly).1,by have:=(hpu s' hly).2.2;dsimp only;omega,bSs (hpu s' hly).2.1 hlaid (gM hy) ‹_›,(hgo.2 ‹_›).1 s' hly⟩),d7,d8,d9,e9⟩ (bA.drop 13)
 have hc70:=Y8.1 (of_decide_eq_false hc70);refine oR<|lA<|lA<|oO<|cZ<|sr<|sp3 hT ?_;refine ss (ldN hT (bU (off:=8) .head)) ?_;refine sto hT kT6 ?_;refine sp hT ?_;refine nn<|lX ?_;have hW:=bOb hr (hR.trans (go_end hinv15.2.2.2.2 ab5));refine gP (E:=fF) kT5 ?_;exact lK (⟨⟨(some ⟨b18,0,none⟩),c.C.B.length,m.Y⟩,m.J⟩:LayV) rfl (rR hT (sS .head) rfl rfl rfl rfl) (rv_tmp rfl) .nil ⟨bQf d7 hrr.n3,e6,e7,f4 (by rw[hW,<-hrr.Y,<-hrr.J];rfl),e9⟩ w8
section
variable {acc : List Int} {n : Int}
theorem zr_t(h:acc.contains 0=true):Y6 true= .bool ((acc++[n]).contains 0):=by
 congr 1
 simp only[List.contains_eq_mem,decide_eq_true_eq]at h;simp[h]
theorem zr_f(h:acc.contains 0=false):Y6 (n==0)= .bool ((acc++[n]).contains 0):=by
 congr 1
 have a: ¬(0:Int)∈acc:=by simpa using h
 rw[Bool.eq_iff_iff];simp[a];exact eq_comm
end
theorem dims_b{vars:Int}{dims:List Int}{x:Int}(hx:x∈dims)(h:x<0\/65536<x):Y6 false= .bool (jP vars dims):=by
 have:dims.any bKy=true:=List.any_eq_true.2 ⟨x,hx,by unfold bKy;rcases h with h|h<;>simp[h]⟩;unfold jP;rw[this];simp
theorem dims_l{vars:Int}{dims:List Int}(h:(dims.length:Int)≠vars):Y6 false= .bool (jP vars dims):=by simp[jP,h]
theorem dims_t{vars:Int}{dims:List Int}(h:(dims.length:Int)=vars)(h2: ∀x∈dims,0<=x/\x<=65536):Y6 true= .bool (jP vars dims):=by
 have:dims.any bKy=false:=by rw[List.any_eq_false];intro x hx;obtain⟨a,b⟩:=h2 x hx;simp[bKy];omega
 unfold jP;rw[this,decide_eq_true h];rfl
theorem take_dims{dims:List Int}{i:Nat}{x:Int}(h: ∀y∈dims.take i,0<=y/\y<=65536)(hx:dims[i]?=some x)(h0:0<=x)(h1:x<=65536): ∀y∈dims.take (i+1),0<=y/\y<=65536:=λy a=>by
 rw[G7,hx]at a
 rcases F2.1 a with a|a
 .exact h y a
 .obtain rfl:y=x:=by simpa using a
  exact⟨h0,h1⟩
theorem ValuesQ_spec(sides:Sl PolV)(DA:Option Addr)(dcap:Nat)(dims:List Int)(hdl:dims.length<=140737488355328):cJ prog 76 [f9 sides,.slice DA dims.length dcap] [] [nL sides,dA.sl (.slice DA dims.length dcap) dims] (λ(x:(Option Addr×Nat)×List Int)=> .tuple #[.slice x.1.1 x.2.length x.1.2,j3 ((sizeB (polsL sides.B) dims).getD 0),.bool (sizeB (polsL sides.B) dims).isSome]) (λ(x:(Option Addr×Nat)×List Int)=>[dA.row (.slice x.1.1 x.2.length x.1.2) 2 x.2]) (λ(x:(Option Addr×Nat)×List Int)=>[bC.pure ((sizeB (polsL sides.B) dims).isSome=true->sidesGo dims (polsL sides.B) []=some x.2)]):=by
 have hT:=dL
 obtain⟨R,e⟩: ∃R,sidesGo dims (polsL sides.B) []=R:=⟨_,rfl⟩
 refine j1 func76 ntmps76 ?_;intro β hM;refine cH<|bK (fF.sl (.slice sides.O sides.B.length sides.cap) sides.B) (mW d7) ?_;refine bG (qB d8) λf=>?_;have z:=f.1;have y:=f.2;refine cL (t:=2) dA ?_;refine g28 ?_;refine bT (ι:=Option Addr×Nat×List Int×Nat) [(0,_),(1,_),(7,_)] ⟨rfl,rfl,rfl,e9⟩ (λ⟨LA,lc,acc,i⟩=>[(8,.slice LA acc.length lc),(9,.bool (acc.contains 0)),(10,.int .i64 (i:Nat))]) (λ⟨LA,lc,acc,i⟩=>[dA.row (.slice LA acc.length lc) 2 acc]) (λ⟨LA,lc,acc,i⟩=>[bC.pure (i<=sides.B.length/\acc.length=i/\inSz acc/\R=sidesGo dims ((polsL sides.B).drop i) acc)]) (λ⟨LA,lc,acc,i⟩=>sides.B.length-i) (none,0,[],0) ⟨rfl,rfl,rfl,e9⟩ (.c0 .nil) ⟨f4 (⟨j5,rfl,λ_ h=>(by cases h),e.symm⟩),e9⟩ ?_;rintro⟨LA,lc,acc,i⟩;dsimp only;refine bG d7 λa=>?_;have C:=a.2.1;refine g9 ?_;refine dO (λu=>?_) λu=>?_
 .refine g5 ?_;obtain⟨x,hx⟩:=gx sides.B i;refine bK (cR x) (Has.each (mY d9) (f5 hx)) ?_;refine g3 ?_;refine ss (ixs i) ?_;refine ss (fV hx 0) ?_;refine one ?_;refine bG (dI d7) λv=>?_;refine bL func46 (bCk x DA dcap dims (C0 v l4) hdl) rfl rfl .nil ⟨d7,e7,e9⟩ λ_=>?_;refine g13 ?_;refine k_ne (λo=>?_) λo=>?_
  .refine g24 ?_;have c:sizeB (polsL sides.B) dims=none:=by unfold sizeB;rw[e,wF a.2.2.2 (cG hx) j5]
   refine cL (t:=2) dA ?_;exact rs3 ((none,0),[]) ⟨f4 (λh=>by rw[c]at h;cases h),e9⟩ (he:=by rw[c];rfl)
  refine g4 ?_;refine nO (λl=>?_) λl=>?_
  .refine g20 ?_;have c:sizeB (polsL sides.B) dims=none:=by unfold sizeB;rw[e,wF a.2.2.2 (cG hx) j5]
   refine cL (t:=2) dA ?_;exact rs3 ((none,0),[]) ⟨f4 (λh=>by rw[c]at h;cases h),e9⟩ (he:=by rw[c];rfl)
  refine g5 ?_;refine dO (λs=>?_) λs=>?_
  .refine g14 ?_;have c:sizeB (polsL sides.B) dims=none:=by unfold sizeB;rw[e,wF a.2.2.2 (cG hx) j5]
   refine cL (t:=2) dA ?_;exact rs3 ((none,0),[]) ⟨f4 (λh=>by rw[c]at h;cases h),e9⟩ (he:=by rw[c];rfl)
  refine g6 ?_;refine nV (m:=(bF x.B dims).1) rfl rfl rfl rfl rfl λD=>?_;refine nP kT1 (fD .head rfl) rfl rfl rfl rfl rfl rfl rfl o8 λA c3=>?_;refine g6 ?_;refine cE (λk=>?_) (λk=>?_)
  .refine g10 ?_;refine inc (i+1) ?_;refine g3 ?_;exact dB (A,c3,acc++[(bF x.B dims).1],i+1) k8 ⟨rfl,v6,rfl,e9⟩ ⟨rfl,rfl,rfl,e9⟩ (.c0 .nil) ⟨f4 (⟨by dsimp only;omega,by dsimp only;rw[G4,Ad];omega,bAw a.2.2.1 j5 j5,bHz a.2.2.2 (cG hx) ‹_› j5 j5⟩),e9⟩ (bA.drop 2)
  refine g10 ?_;refine inc (i+1) ?_;refine g3 ?_;exact dB (A,c3,acc++[(bF x.B dims).1],i+1) k8 ⟨rfl,v6,rfl,e9⟩ ⟨rfl,rfl,rfl,e9⟩ (.c0 .nil) ⟨f4 (⟨by dsimp only;omega,by dsimp only;rw[G4,Ad];omega,bAw a.2.2.1 j5 j5,bHz a.2.2.2 (cG hx) ‹_› j5 j5⟩),e9⟩ (bA.drop 2)
 refine g7 ?_;have d:=bVz a.2.2.2 p9;refine g4 ?_;refine vN (λr=>?_) λr=>?_
 .refine g10 ?_;have c:sizeB (polsL sides.B) dims=some 0:=by unfold sizeB;rw[e,d];dsimp only;rw[if_pos ‹_›]
  exact rs3 ((LA,lc),acc) ⟨f4 (λ_=>e.trans d),e9⟩ (he:=by rw[c];rfl)
 refine g4 ?_
 obtain⟨Q,w⟩: ∃Q,prodQ acc 1=Q:=⟨_,rfl⟩
 refine g5 ?_;refine bT (ι:=Int×Nat) [(8,_)] ⟨rfl,e9⟩ (λ⟨al,j⟩=>[(7,.int .i64 al),(13,.int .i64 (j:Nat))]) (λ_=>[]) (λ⟨al,j⟩=>[bC.pure (j<=acc.length/\0<=al/\al<=65536/\Q=prodQ (acc.drop j) al)]) (λ⟨al,j⟩=>acc.length-j) (1,0) ⟨rfl,rfl,e9⟩ .nil ⟨f4 (⟨j5,j5,j5,w.symm⟩),e9⟩ ?_;rintro⟨al,j⟩;dsimp only;refine bG d7 λb=>?_;refine g9 ?_;refine dO (λq=>?_) λq=>?_
 .refine g5 ?_;obtain⟨n,hn⟩:=gx acc j;have g:=a.2.2.1 n (f5 hn);have B:=bQn ⟨b.2.1,b.2.2.1⟩ g;refine g4 ?_;refine ss (ixs j) ?_;refine ss (fV hn 0) ?_;refine one ?_;refine bM (jO j5 j5) ?_;refine g9 ?_;refine dO (λp=>?_) λp=>?_
  .refine g13 ?_;have c:sizeB (polsL sides.B) dims=none:=by unfold sizeB;rw[e,d];dsimp only;rw[if_neg (by simp_all),w];exact prod_no b.2.2.2 hn j5
   refine cL (t:=2) dA ?_;exact rs3 ((none,0),[]) ⟨f4 (λh=>by rw[c]at h;cases h),e9⟩ (he:=by rw[c];rfl)
  refine g6 ?_;refine inc (j+1) ?_;refine g3 ?_;exact bk2 (al*n,j+1) ⟨f4 (⟨by dsimp only;omega,(bQn ⟨b.2.1,b.2.2.1⟩ g).1,by dsimp only;omega,prod_yes b.2.2.2 hn j5⟩),e9⟩
 refine g15 ?_;have c:sizeB (polsL sides.B) dims=some al:=by unfold sizeB;rw[e,d];dsimp only;rw[if_neg (by simp_all),w];exact prod_end b.2.2.2 j5
 exact rs3 ((LA,lc),acc) ⟨f4 (λ_=>e.trans d),e9⟩ (he:=by rw[c];rfl)
theorem DimsQ_spec(c:fX)(DA:Option Addr)(dcap:Nat)(dims:List Int)(hdl:dims.length<=140737488355328):cJ prog 75 [.agg #[j3 c.vars,f9 c.C,f9 c.D,f9 c.Q],.slice DA dims.length dcap] [] [dA.sl (.slice DA dims.length dcap) dims] (λ(_:Unit)=> .bool (jP c.vars dims)) (λ_=>[]) (λ_=>[]):=by
 have hT:=dL;refine j1 func75 ntmps75 ?_;intro β hM;refine g2 ?_;refine j0 λh=>?_;refine g13 ?_;refine bEh (λf=>?_) λf=>?_
 .refine g7 ?_;exact rs1 () e9 (he:=dims_l ‹_›)
 refine g9 ?_;refine bT (ι:=Nat) [(1,_)] ⟨rfl,e9⟩ (λi=>[(5,.int .i64 (i:Nat))]) (λ_=>[]) (λi=>[bC.pure (i<=dims.length/\ ∀y∈dims.take i,0<=y/\y<=65536)]) (λi=>dims.length-i) 0 ⟨rfl,e9⟩ .nil ⟨f4 (⟨j5,λy g=>by simp at g⟩),e9⟩ ?_;rintro i;refine bG d7 λa=>?_;refine g9 ?_;refine dO (λe=>?_) λe=>?_
 .refine g5 ?_;obtain⟨x,hx⟩:=gx dims i;refine g3 ?_;refine ss (ixs i) ?_;refine ss (fV hx 0) ?_;refine g2 ?_;refine nO (λb=>?_) λb=>?_
  .refine g20 ?_;exact rs1 () e9 (he:=dims_b (f5 hx) j5)
  refine g2 ?_;refine ss (ixs i) ?_;refine ss (fV hx 0) ?_;refine g4 ?_;refine dO (λd=>?_) λd=>?_
  .refine g11 ?_;exact rs1 () e9 (he:=dims_b (f5 hx) j5)
  refine g6 ?_;refine inc (i+1) ?_;refine g3 ?_;exact bk2 (i+1) ⟨f4 (⟨j5,take_dims a.2 hx j5 j5⟩),e9⟩
 refine g11 ?_;exact rs1 () e9 (he:=dims_t j5 (by rw[<-Y2 (l:=dims) (i:=i) j5];exact a.2))
theorem CellsQ_spec(c:fX)(DA:Option Addr)(dcap:Nat)(dims:List Int)(hdl:dims.length<=140737488355328):cJ prog 31 [.agg #[j3 c.vars,f9 c.C,f9 c.D,f9 c.Q],.slice DA dims.length dcap] [] [lH c,dA.sl (.slice DA dims.length dcap) dims] (λ(_:Unit)=> .tuple #[j3 (dH c.c dims).1,j3 (dH c.c dims).2]) (λ_=>[]) (λ_=>[]):=by
 have hT:=dL
 obtain⟨R,l⟩: ∃R,cellsGo dims c.c.C 0=R:=⟨_,rfl⟩
 refine j1 func31 ntmps31 ?_;intro β hM;refine g2 ?_;refine j0 λr=>?_;refine g8 ?_;refine bL func35 (tG c) rfl rfl .nil ⟨d7,e9⟩ λ_=>?_;refine g3 ?_;refine tQ (λk=>?_) λk=>?_
 .refine g8 ?_;have hr:dC c.c=false:=by simp_all
  have d:dH c.c dims=(0,100):=by unfold dH;rw[if_neg (by simp[hr])]
  exact rs2 () e9 (he:=by rw[d])
 refine g7 ?_;refine bL func75 (DimsQ_spec c DA dcap dims hdl) rfl rfl .nil ⟨d8,e9⟩ λ_=>?_;refine g3 ?_;refine tQ (λj=>?_) λj=>?_
 .refine g8 ?_;have hr:dC c.c=true:=by simp_all
  have hd:jP c.vars dims=false:=by first|assumption|simp_all
  have d:dH c.c dims=(0,101):=by unfold dH;rw[if_pos hr,if_neg ab8]
  exact rs2 () e9 (he:=by rw[d])
 refine g9 ?_;have hrr:dC c.c=true:=by simp_all
 have p:=(qI hrr).1.1;have o:c.c.C.length=c.C.B.length:=cQ _;refine bK (sU.sl (.slice c.C.O c.C.B.length c.C.cap) c.C.B) (kG (gC d7)) ?_;refine g5 ?_;refine bT (ι:=Int×Nat) [(1,_),(2,_)] ⟨rfl,rfl,e9⟩ (λ⟨al,i⟩=>[(6,.int .i64 al),(7,.int .i64 (i:Nat))]) (λ_=>[]) (λ⟨al,i⟩=>[bC.pure (i<=c.C.B.length/\0<=al/\al<=1048576/\R=cellsGo dims ((vE c.C.B).drop i) al)]) (λ⟨al,i⟩=>c.C.B.length-i) (0,0) ⟨rfl,rfl,e9⟩ .nil ⟨f4 (⟨j5,j5,j5,l.symm⟩),e9⟩ ?_;rintro⟨al,i⟩;dsimp only;refine bG d7 λa=>?_;refine g10 ?_;refine dO (λh=>?_) λh=>?_
 .refine g9 ?_;obtain⟨m,b⟩:=gx c.C.B i;refine ss (ixs i) ?_;refine one ?_;refine ss (fV b 0) ?_;refine one ?_;refine bK (nL m.K) (Has.each (rV (gC d9)) (f5 b)) ?_
  obtain⟨z,e⟩: ∃z,sizeB (polsL m.K.B) dims=z:=⟨_,rfl⟩
  refine bL func76 (ValuesQ_spec m.K DA dcap dims hdl) rfl rfl .nil ⟨d7,e7,e9⟩ λq=>?_;rw[e];have n:=bVj e;refine g16 ?_;refine tQ (λg=>?_) λg=>?_
  .refine g13 ?_;have hr:dC c.c=true:=by simp_all
   have hd:jP c.vars dims=true:=by first|assumption|simp_all
   have d:dH c.c dims=(0,102):=by unfold dH;rw[if_pos hr,if_pos s7];exact l.trans (bEz a.2.2.2 (cM b) e t8)
   exact rs2 () e9 (he:=by rw[d])
  refine g7 ?_;refine bM (jO j5 j5) ?_;refine g9 ?_;refine dO (λf=>?_) λf=>?_
  .refine g12 ?_;have hr:dC c.c=true:=by simp_all
   have hd:jP c.vars dims=true:=by first|assumption|simp_all
   have d:dH c.c dims=(0,102):=by unfold dH;rw[if_pos hr,if_pos s7];exact l.trans (bEz a.2.2.2 (cM b) e t8)
   exact rs2 () e9 (he:=by rw[d])
  refine g6 ?_;refine inc (i+1) ?_;refine g3 ?_;exact bk2 (al+z.getD 0,i+1) ⟨f4 (⟨by dsimp only;omega,by dsimp only;omega,by dsimp only;omega,bVl a.2.2.2 (cM b) e (by first|assumption|simp_all) j5⟩),e9⟩
 refine g13 ?_;have hr:dC c.c=true:=by simp_all
 have hd:jP c.vars dims=true:=by first|assumption|simp_all
 have d:dH c.c dims=(al,0):=by unfold dH;rw[if_pos hr,if_pos s7];exact l.trans (bTb a.2.2.2 (by rw[cQ];omega))
 exact rs2 () e9 (he:=by rw[d])
section
variable {c : dR} {ds : List Int}
theorem rfd1(h:(dH c ds).2≠0):fN c ds=(dH c ds).2:=if_pos h
theorem rfd2(h:(dH c ds).2=0)(h2:(iR c).2≠0):fN c ds=(iR c).2:=by unfold fN;rw[if_neg (λk=>k h),if_pos h2]
theorem rfd3(h:(dH c ds).2=0)(h2:(iR c).2=0)(h3:384<opsSum c.D):fN c ds=180:=by unfold fN;rw[if_neg (λk=>k h),if_neg (λk=>k h2)];exact if_pos h3
theorem rfd4(h:(dH c ds).2=0)(h2:(iR c).2=0)(h3: ¬384<opsSum c.D)(h4:turnsG ds c.D 0=false):fN c ds=122:=by unfold fN;rw[if_neg (λk=>k h),if_neg (λk=>k h2)];exact(if_neg h3).trans (if_pos h4)
theorem rfd0(h:(dH c ds).2=0)(h2:(iR c).2=0)(h3: ¬384<opsSum c.D)(h4:turnsG ds c.D 0=true):fN c ds=0:=by unfold fN;rw[if_neg (λk=>k h),if_neg (λk=>k h2)];exact(if_neg h3).trans (if_neg (by rw[h4];decide))
theorem steps_T{c:fX}(hr:dC c.c=true)(ds:List Int):StepsT ds c.c.D:=λx hx=>by
 obtain⟨v,a,rfl⟩:=P5.1 hx;have hg:=bHp hr ds a;refine⟨hg.hN,?_,?_⟩
 .show 1<=(opsL v.ops.B).length;rw[fQ];exact hg.hL1
 .show(opsL v.ops.B).length<=1000;rw[fQ];have:=hg.hlo;omega
theorem rturn_no{c:fX}(hr:dC c.c=true)(h:turnsR ds c.c.D 0=none\/ ∃t,turnsR ds c.c.D 0=some t/\2097152<t):turnsG ds c.c.D 0=false:=by
 cases e:turnsG ds c.c.D 0 with
 |false=>rfl
 |true=>
  obtain⟨t,a,h1⟩:=(uI (steps_T hr ds) l4 l4).1 e
  rcases h with h|⟨u,hu,h2⟩
  .rw[a]at h;cases h
  .rw[a]at hu;cases hu;omega
theorem rturn_yes{c:fX}(hr:dC c.c=true){t:Int}(h:turnsR ds c.c.D 0=some t)(h1:t<=2097152):turnsG ds c.c.D 0=true:=(uI (steps_T hr ds) l4 l4).2 ⟨t,h,h1⟩
end
set_option maxHeartbeats 1000000 in
theorem bMv(c:fX)(DA:Option Addr)(dcap:Nat)(dims:List Int)(hdl:dims.length<=140737488355328):cJ prog 10 [.agg #[j3 c.vars,f9 c.C,f9 c.D,f9 c.Q],.slice DA dims.length dcap] [] [lH c,dA.sl (.slice DA dims.length dcap) dims] (λ(_:Unit)=> j3 (fN c.c dims)) (λ_=>[]) (λ_=>[]):=by
 have hT:=dL;refine j1 func10 ntmps10 ?_;intro β hM;refine g2 ?_;refine j0 λo=>?_;refine g7 ?_;refine bL func31 (CellsQ_spec c DA dcap dims hdl) rfl rfl .nil ⟨d7,d8,e9⟩ λ_=>?_;refine g14 ?_;refine bEh (λa=>?_) λa=>?_
 .refine g8 ?_;have f:fN c.c dims=_:=rfd1 a;rw[f];exact rs1 () trivial
 refine g5 ?_;refine bL func32 (Plan15_spec c) rfl rfl .nil ⟨d7,e9⟩ λy=>?_;refine g13 ?_;refine bEh (λe=>?_) λe=>?_
 .refine g8 ?_;have f:fN c.c dims=_:=rfd2 a e;rw[f];exact rs1 () trivial
 refine g3 ?_;have d:(dH c.c dims).2=0:=a;have g:(iR c.c).2=0:=e;have b:=bFt d;obtain⟨⟨_,_,_,hns,_⟩,_⟩:=iP b;rw[show c.c.D.length=c.D.B.length from cS _]at hns
 obtain⟨K,m⟩: ∃K,opsSum c.c.D=K:=⟨_,rfl⟩
 refine g11 ?_;refine bT (ι:=Nat×Nat) [(1,_),(2,_)] ⟨rfl,rfl,e9⟩ (λ⟨k,i⟩=>[(7,.int .i64 (k:Nat)),(8,.int .i64 (i:Nat))]) (λ_=>[]) (λ⟨k,i⟩=>[bC.pure (i<=c.D.B.length/\k<=256*i/\K=k+opsSum (c.c.D.drop i))]) (λ⟨k,i⟩=>c.D.B.length-i) (0,0) ⟨rfl,rfl,e9⟩ .nil ⟨f4 (⟨j5,j5,by rw[<-m,Q5,Nat.zero_add]⟩),e9⟩ ?_;rintro⟨k,i⟩;dsimp only;refine bG d7 λhinv9=>?_;refine g2 ?_;refine bK (pU.sl (.slice c.D.O c.D.B.length c.D.cap) c.D.B) (lM (gS (Has.of mT5))) ?_;refine g8 ?_;refine dO (λl=>?_) λl=>?_
 .refine g4 ?_;obtain⟨x,hx⟩:=gx c.D.B i;have hg:=bHp b dims (f5 hx);have hlo:=hg.hlo;refine g5 ?_;refine ss (ixs i) ?_;refine one ?_;refine ss (fV hx 5) ?_;refine g2 ?_;refine inc (k+x.ops.B.length) ?_;refine g7 ?_;refine inc (i+1) ?_;refine g3 ?_;exact bk2 (k+x.ops.B.length,i+1) ⟨f4 (⟨by dsimp only;omega,by dsimp only;omega,by dsimp only;rw[bBf hinv9.2.2 (cN hx),show x.c.ops.length=x.ops.B.length from fQ _]⟩),e9⟩
 refine g7 ?_;have n:opsSum c.c.D=k:=m.trans (bOz hinv9.2.2 p7);refine g5 ?_;refine dO (λj=>?_) λj=>?_
 .refine g7 ?_;have f:fN c.c dims=_:=rfd3 d g j5;rw[f];exact rs1 () trivial
 refine g6 ?_;refine bL func17 (Turns19_spec c b DA dcap dims hdl) rfl rfl .nil ⟨(Has.of mT6),e8,e9⟩ λ_=>?_;refine g9 ?_
 rcases hTr:turnsR dims c.c.D 0 with _|t
 .refine g3 ?_;refine bR (t':=true) rfl ?_;refine g14 ?_;have f:fN c.c dims=_:=rfd4 d g j5 (rturn_no b (.inl hTr));rw[f];exact rs1 () trivial
 refine g3 ?_;refine bR (t':=false) rfl ?_;refine g2 ?_;refine bM (z':=t) rfl ?_;refine g4 ?_;refine dO (λh=>?_) λh=>?_
 .refine g7 ?_;have f:fN c.c dims=_:=rfd4 d g j5 (rturn_no b (.inr ⟨t,hTr,j5⟩));rw[f];exact rs1 () trivial
 refine g8 ?_;have f:fN c.c dims=_:=rfd0 d g j5 (rturn_yes b hTr j5);rw[f];exact rs1 () trivial
theorem bQw{c:dR}{ds:List Int}(h:(qH c ds).2≠0):(qH c ds).1=⟨[],0,[]⟩:=by
 unfold qH at h⊢;split
 .rfl
 .rename_i a;rw[if_neg a]at h;exact absurd rfl h
theorem genP_err(c:dR)(ds:List Int):(qH c ds).2=fN c ds:=by
 unfold qH;split
 .rfl
 .rename_i a;exact(Classical.not_not.1 a).symm
set_option maxHeartbeats 1000000 in
theorem lawRef_spec(c:fX)(DA:Option Addr)(dcap:Nat)(dims:List Int)(hdl:dims.length<=140737488355328):cJ prog 3 [.agg #[j3 c.vars,f9 c.C,f9 c.D,f9 c.Q],.slice DA dims.length dcap] [] [laidF,lH c,dA.sl (.slice DA dims.length dcap) dims] (λ(_:Unit)=> .bool true) (λ_=>[]) (λ_=>[]):=by
 have hT:=dL;refine j1 func3 ntmps3 ?_;intro β hM;refine cH<|bK (bC.cells 0 0 [.int .i64 0,.int .i64 (-1)]) (none_of d7) ?_;refine one ?_;refine j0 λd=>?_;refine g5 ?_;refine bL func8 shown19_spec rfl rfl .nil ⟨d8,e9⟩ λ_=>?_;refine g7 ?_;refine bL func9 (bTu c DA dcap dims hdl) rfl rfl .nil ⟨d9,e6,d7,e9⟩ λg2=>?_;refine g3 ?_;refine i7 bBx λb=>?_;refine g11 ?_;refine bL func10 (bMv c DA dcap dims hdl) rfl rfl .nil ⟨d9,e6,e9⟩ λ_=>?_;refine one ?_;refine bR (t':=true) (beq_iff_eq.2 (genP_err _ _)) ?_;refine g5 ?_;refine bHb (λa=>?_) λa=>?_
 .refine g21 ?_;exact rs1 () trivial
 refine g4 ?_;refine bR (t':=true) (beq_iff_eq.2 (by rw[bQw a];rfl)) ?_;refine g5 ?_;refine bR (t':=true) (beq_iff_eq.2 (by rw[bQw a];rfl)) ?_;refine g5 ?_;refine bR (t':=true) (beq_iff_eq.2 (by rw[bQw a])) ?_;refine g7 ?_;exact rs1 () trivial
