/- Texts of one proof, one behind the other: Eval, Grows, PolyS, TysT, SlT, TypP, TypA. -/
import Derived.Test.YtbgdphbebhjpiaaGreatDoorM17
import Derived.Test.YtbgdphbebhjpiaaGreatDoorM10
import Derived.Test.YtbgdphbebhjpiaaGreatDoorM11
namespace Go.Proofs.YtbgdphbebhjpiaaGreatDoor
open Go.RowKit
set_option maxRecDepth 100000
def Ints (w:World)(A:Option Addr)(l:List Int):Prop:=
 ∀(k:Nat) (d:Int),l[k]?=some d→ ∃b o,A=some ⟨b,o,none⟩∧b<w.heap.size∧w.cell? ⟨b,o+k,none⟩=some (.int .i64 d)
theorem Ints.below{w w':World}{A:Option Addr}{l:List Int}(h:Ints w A l)(hb:Below w.heap.size w w'):Ints w' A l:=fun k d hk=>by
 obtain⟨b,o,e,hB,hm⟩:=h k d hk;exact⟨b,o,e,Nat.lt_of_lt_of_le hB hb.size,(hb.cell (p:=⟨b,o+k,none⟩) hB).trans hm⟩
def jP (d:Int):Bool:=decide (0≤d∧d≤2147483648)
def tK (ds:List Int):Bool:=decide (ds.length≤6)&&ds.all jP
def lA (D:Nat→Int):List Mono→Int→Int→Option Int
 | [],_,sum=>some sum
 | m::l,size,sum=>
  if (fG m D).2=false∨jM-size<(fG m D).1 then none
  else lA D l (size+(fG m D).1) (if m.n<0 then sum-(fG m D).1 else sum+(fG m D).1)
def dU (ds:List Int)(k:Nat):Int:=ds.getD k 0
def gM (p:List Mono)(ds:List Int):Int×Int:=
 if dR p then if tK ds then match lA (dU ds) p 0 0 with
  | some n=>(n,0)
  | none=>(0,22)
 else (0,23) else (0,20)
def qB (w:World)(b:Nat)(D:Nat→Int):Prop:=b<w.heap.size∧ ∀k,k<6→w.cell? ⟨b,k,none⟩=some (.int .i64 (D k))∧w.frozen? ⟨b,k,none⟩=false
theorem qB.set{w:World}{b:Nat}{D:Nat→Int}(h:qB w b D)(k:Nat)(hk:k<6)(d:Int):qB (w.setCell ⟨b,k,none⟩ (.int .i64 d)) b (fun j=>if j=k then d else D j):=by
 refine⟨by simpa using h.1,fun j hj=>⟨?_,?_⟩⟩
 ·by_cases e:j=k
  ·subst e;dsimp only;rw [if_pos rfl];exact World.cell?_setCell_same w ⟨b,j,none⟩ _ (h.2 j hj).1
  ·dsimp only;rw [if_neg e,World.cell?_setCell_other w _ _ _ (by intro h;injection h with _ h;exact e h.symm)];exact(h.2 j hj).1
 ·rw [World.frozen?_setCell];exact(h.2 j hj).2
theorem take_dim{ds:List Int}{k:Nat}{d:Int}(h:ds[k]?=some d):(fun j=>if j=k then d else dU (ds.take k) j)=dU (ds.take (k+1)):=by
 funext j
 have hk:k<ds.length:=(List.getElem?_eq_some_iff.1 h).1;have hd:ds[k]=d:=(List.getElem?_eq_some_iff.1 h).2;unfold dU;rw [List.take_succ_eq_append_getElem hk,hd];simp only [List.getD_eq_getElem?_getD];have hl:(ds.take k).length=k:=by simp;omega
 by_cases e:j=k
 ·subst e;rw [if_pos rfl,List.getElem?_append_right (by omega),hl];simp
 ·rw [if_neg e]
  by_cases e2:j<k
  ·rw [List.getElem?_append_left (by omega)]
  ·rw [List.getElem?_eq_none (by omega),List.getElem?_eq_none (by simp;omega)]
theorem bEm{d:Int}(hd:0≤d): ∀(e:Nat) (n r:Int),0≤n→vB d e n=some r→0≤r
 | 0,n,r,hn,h=>by simp [vB] at h;omega
 | e+1,n,r,hn,h=>by
  unfold vB at h;split at h
  ·cases h
  ·exact bEm hd e (n*d) r (Int.mul_nonneg hn hd) h
theorem bEb: ∀(l:List (UInt8×Int)) (n r:Int),(∀x∈l,0≤x.2)→0≤n→pX l n=some r→0≤r
 | [],n,r,_,hn,h=>by simp [pX] at h;omega
 | x::l,n,r,hl,hn,h=>by
  unfold pX at h
  cases hp:vB x.2 x.1.toNat n with
  | none=>rw [hp] at h;cases h
  | some y=>
   rw [hp] at h;exact bEb l y r (fun z hz=>hl z (by simp [hz])) (bEm (hl x (by simp)) _ _ _ hn hp) h
theorem bAt(m:Mono)(D:Nat→Int)(hD: ∀k,0≤D k):0≤(fG m D).1:=by
 unfold fG;split
 ·simp
 ·split
  ·rename_i n hn;refine bEb _ _ _ (fun x hx=>?_) (by omega) hn;simp only [fV,List.mem_cons,List.not_mem_nil,or_false] at hx
   rcases hx with rfl | rfl | rfl | rfl | rfl | rfl<;>exact hD _
  ·simp
theorem pH: ∀{o:Option Mono} {l:List Mono},fZ o l=true→ ∀m∈l,mG m=true
 | _,[],_,m,hm=>by simp at hm
 | none,a::l,h,m,hm=>by
  simp only [fZ,Bool.and_eq_true] at h
  rcases List.mem_cons.1 hm with rfl | hm
  ·exact h.1
  ·exact pH h.2 m hm
 | some b,a::l,h,m,hm=>by
  simp only [fZ,Bool.and_eq_true] at h
  rcases List.mem_cons.1 hm with rfl | hm
  ·exact h.1
  ·exact pH h.2.2 m hm
theorem qB.below{w w':World}{b:Nat}{D:Nat→Int}(h:qB w b D)(hb:Below w.heap.size w w'):qB w' b D:=
 ⟨Nat.lt_of_lt_of_le h.1 hb.size,fun k hk=>⟨(hb.cell (p:=⟨b,k,none⟩) h.1).trans (h.2 k hk).1,(hb.frozen (p:=⟨b,k,none⟩) h.1).trans (h.2 k hk).2⟩⟩
theorem dimAt_ok{ds:List Int}(h:ds.all jP=true): ∀k,0≤dU ds k∧dU ds k≤2147483648:=fun k=>by
 unfold dU;rw [List.getD_eq_getElem?_getD]
 cases hk:ds[k]? with
 | none=>simp
 | some d=>
  have hd:d∈ds:=List.mem_of_getElem? hk;have:=List.all_eq_true.1 h d hd
  simpa [jP] using this
set_option maxRecDepth 100000 in
set_option maxHeartbeats 1000000 in
theorem eval_any(A B:Option Addr)(c d:Nat)(p:List Mono)(ds:List Int)(w:World)(ha:iV w A p)(hb:Ints w B ds)(hp:p.length≤140737488355328)(hq:ds.length≤140737488355328):
  Calls Tryz.prog 55 #[.slice A p.length c,.slice B ds.length d] w fun e w'=>e= .returned (.tuple #[.int .i64 (gM p ds).1,.int .i64 (gM p ds).2])∧Below w.heap.size w w':=by
 have Ha:=Lib.hid ha;have Hb:=Lib.hid hb;clear ha hb;cases hrp:dR p
 ·have e:gM p ds=(0,20):=by unfold gM;rw [hrp];rfl
  rw [e]
  go_enter Tryz.func55,Tryz.ntmps55
  go_wp2_with (go_at_call 26;refine(right_any A c p _ Ha.out hp).mono ?_;rintro e w1 ⟨rfl,hb1⟩)
  go_ret2
  exact⟨rfl,hb1⟩
 ·go_enter Tryz.func55,Tryz.ntmps55
  go_wp2_with fail
  refine(right_any A c p _ Ha.out hp).mono ?_;rintro e w1 ⟨rfl,hb1⟩;have H1:=Lib.hid hb1;clear hb1
  go_wp2
  have s0:qB (w1.alloc (.cells #[.int .i64 0,.int .i64 0,.int .i64 0,.int .i64 0,.int .i64 0,.int .i64 0] 181)) w1.heap.size (dU (ds.take 0)):=by
   refine⟨by simp,fun k hk=>?_⟩
   rcases k with _ | _ | _ | _ | _ | _ | k
   all_goals first | omega | simp [go_sem,dU]
  have b0:Below w.heap.size w (w1.alloc (.cells #[.int .i64 0,.int .i64 0,.int .i64 0,.int .i64 0,.int .i64 0,.int .i64 0] 181)):=H1.out.alloc H1.out.size _;have hXw:w.heap.size≤w1.heap.size:=H1.out.size;have S0:=Lib.hid s0;have B0:=Lib.hid b0;clear s0 b0 H1;generalize w1.alloc (.cells #[.int .i64 0,.int .i64 0,.int .i64 0,.int .i64 0,.int .i64 0,.int .i64 0] 181)=W0 at S0 B0⊢;generalize w1.heap.size=X at S0 hXw⊢
  go_loopw [20] (fun i wr=> ∃k:Nat,k≤ds.length∧k≤6∧i= .int .i64 k∧qB wr X (dU (ds.take k))∧Hid (ds.all jP=(ds.drop k).all jP)∧Below w.heap.size w wr) (fun i _=>ds.length-(intOf i).toNat)
  case atStart=>exact⟨0,Nat.zero_le _,by omega,rfl,S0.out,rfl,B0.out⟩
  case round=>
   obtain⟨k,hk,hk6,rfl,hsix,hall,hbl⟩:=hrel;have HSix:=Lib.hid hsix;have HBL:=Lib.hid hbl;clear hsix hbl S0 B0
   by_cases hlt:k<ds.length
   ·obtain⟨x,hx⟩: ∃x,ds[k]?=some x:=⟨ds[k],List.getElem?_eq_getElem hlt⟩
    have dm:ds.drop k=x::ds.drop (k+1):=by
     rw [List.drop_eq_getElem_cons hlt];have:=(List.getElem?_eq_some_iff.1 hx).2;rw [this]
    obtain⟨b,o,rfl,hB,c0⟩:=Hb.out.below HBL.out k x hx;have HAll:=Lib.hid (show ds.all jP=(jP x&&(ds.drop (k+1)).all jP) by rw [hall.out,dm,List.all_cons]);have HTk:=Lib.hid (take_dim hx);clear dm hx hall hB
    by_cases h6:k=6
    ·have h61:decide ((6:Int)≤(k:Int))=true:=by simp;omega
     have e:gM p ds=(0,23):=by
      unfold gM;rw [hrp,show tK ds=false by unfold tK;rw [decide_eq_false (by omega)];rfl];rfl
     have He:=Lib.hid e;clear e h6
     go_wp2
     go_ret2
     rw [He.out];exact⟨rfl,HBL.out⟩
    ·have h61:decide ((6:Int)≤(k:Int))=false:=by simp;omega
     cases hs:jP x
     ·have e:gM p ds=(0,23):=by
       unfold gM;rw [hrp,show tK ds=false by unfold tK;rw [HAll.out,hs];simp];rfl
      have He:=Lib.hid e;clear e h6
      have hs':x<0∨2147483648<x:=by
       have:=of_decide_eq_false hs;omega
      rcases Int.lt_or_le x 0 with hx0 | hx0
      ·have t1:decide (x<0)=true:=by simpa using hx0
       go_wp2
       go_ret2
       rw [He.out];exact⟨rfl,HBL.out⟩
      ·have t1:decide (x<0)=false:=by simpa using hx0
       have t2:decide (2147483648<x)=true:=by simp;omega
       go_wp2
       go_ret2
       rw [He.out];exact⟨rfl,HBL.out⟩
     ·have hs':0≤x∧x≤2147483648:=of_decide_eq_true hs;have t1:decide (x<0)=false:=by simp;omega
      have t2:decide (2147483648<x)=false:=by simp;omega
      obtain⟨hcell,hfro⟩:=HSix.out.2 k (by omega);have HA2:=Lib.hid (show ds.all jP=(ds.drop (k+1)).all jP by rw [HAll.out,hs,Bool.true_and]);have HS2:=Lib.hid (show qB (wr.setCell ⟨X,k,none⟩ (.int .i64 x)) X (dU (ds.take (k+1))) by rw [←HTk.out];exact HSix.out.set k (by omega) x);have HB2:=Lib.hid (show Below w.heap.size w (wr.setCell ⟨X,k,none⟩ (.int .i64 x)) from HBL.out.setCell hXw _);clear HAll HTk HSix HBL hs'
      go_wp2
      go_roundw
      case rel=>exact⟨k+1,by omega,by omega,by go_num,HS2.out,HA2,HB2.out⟩
      case measure=>simp [intOf];omega
   ·have hall1:ds.all jP=true:=by rw [hall.out,List.drop_of_length_le (by omega)];rfl
    have HD:=Lib.hid (dimAt_ok hall1)
    have He:=Lib.hid (show gM p ds=match lA (dU ds) p 0 0 with | some n=>(n,0) | none=>(0,22) by
     unfold gM;rw [hrp,show tK ds=true by unfold tK;rw [hall1,decide_eq_true (by omega)];rfl]
     rfl)
    have HS:=Lib.hid (show qB wr X (dU ds) by have:=HSix.out;rw [List.take_of_length_le (by omega)] at this;exact this)
    have HRP:=Lib.hid (show ∀m∈p,mG m=true by
     unfold dR at hrp;simp only [Bool.and_eq_true] at hrp
     exact pH hrp.2)
    clear hall hall1 HSix;generalize dU ds=D at HD He HS⊢
    go_wp2
    go_loopw [41,9,10] (fun i sm sz wi=> ∃(j:Nat) (size sum:Int),j≤p.length∧i= .int .i64 j∧sm= .int .i64 sum∧sz= .int .i64 size∧Hid (0≤size∧size≤jM∧ -size≤sum∧sum≤size)∧Hid (lA D p 0 0=lA D (p.drop j) size sum)∧qB wi X D∧Below w.heap.size w wi) (fun i _ _ _=>p.length-(intOf i).toNat)
    case atStart=>exact⟨0,0,0,Nat.zero_le _,rfl,rfl,rfl,⟨by omega,by unfold jM;omega,by omega,by omega⟩,rfl,HS.out,HBL.out⟩
    case round=>
     obtain⟨j,size,sum,hj,rfl,rfl,rfl,hbd,hev,hsix,hbl⟩:=hrel;have HS2:=Lib.hid hsix;have HB2:=Lib.hid hbl;clear hsix hbl HS HBL
     by_cases hlt2:j<p.length
     ·obtain⟨m,hm,dm⟩:=jV hlt2;obtain⟨b,o,rfl,hB,c0,c1,c2,c3,c4,c5,c6⟩:=Ha.out.below HB2.out j m hm;have hsm:mG m=true:=HRP.out m (List.mem_of_getElem? hm);have hsm':m.n≠0∧m.n≤16777216∧ -16777216≤m.n∧m.deg≤8:=of_decide_eq_true hsm;have HV:=Lib.hid (bAt m D (fun k=>(HD.out k).1))
      have HE:=Lib.hid (show lA D p 0 0=if (fG m D).2=false∨jM-size<(fG m D).1 then none
        else lA D (p.drop (j+1)) (size+(fG m D).1) (if m.n<0 then sum-(fG m D).1 else sum+(fG m D).1) by rw [hev.out,dm,lA])
      have hX:X<wr.heap.size:=HS2.out.1;have x0:=(HS2.out.2 0 (by omega)).1;have x1:=(HS2.out.2 1 (by omega)).1;have x2:=(HS2.out.2 2 (by omega)).1;have x3:=(HS2.out.2 3 (by omega)).1;have x4:=(HS2.out.2 4 (by omega)).1;have x5:=(HS2.out.2 5 (by omega)).1;have Hval:=Lib.hid (fun W=>value_any m D W HD.out ⟨hsm'.2.2.1,hsm'.2.1⟩);have hS3: ∀o,qB (wr.alloc o) X D:=fun o=>HS2.out.below ((Below.refl _ _).alloc (Nat.le_refl _) _);have HS3:=Lib.hid hS3;have HB3:=Lib.hid (show ∀o,Below w.heap.size w (wr.alloc o) from fun o=>HB2.out.alloc HB2.out.size o);clear hm dm hB hsm hsm' hev hS3 HS2 HB2
      go_wp2_with fail
      refine(Hval.out _).mono ?_;rintro e w5 ⟨rfl,hb5⟩;have q0:fQ w5 wr.heap.size 0 m:=fQ.below (w:=wr.alloc (.cells #[.int .i64 m.n,.int .u8 m.e0.toNat,.int .u8 m.e1.toNat,.int .u8 m.e2.toNat,.int .u8 m.e3.toNat,.int .u8 m.e4.toNat,.int .u8 m.e5.toNat] 74)) (by simp [fQ,go_sem]) hb5 (by simp);have HS5:=Lib.hid ((HS3.out _).below hb5);have HB5:=Lib.hid ((HB3.out _).trans (hb5.mono (HB3.out _).size));have n0:=q0.zero.1;clear hb5 q0 c0 c1 c2 c3 c4 c5 c6 x0 x1 x2 x3 x4 x5 hX Hval HS3 HB3;generalize fG m D=v at HV HE⊢;obtain⟨n,ok⟩:=v;simp only at HV HE⊢;cases ok
      ·have e:gM p ds=(0,22):=by rw [He.out,HE.out,if_pos (.inl rfl)]
       have He2:=Lib.hid e;clear e HE
       go_wp2
       go_ret2
       rw [He2.out];exact⟨rfl,HB5.out⟩
      ·obtain⟨g0,g1,g2,g3⟩:=hbd.out;have gn:0≤n:=HV.out;unfold jM at g1
       by_cases hq:jM-size<n
       ·have hq1:decide (4611686018427387904-size<n)=true:=by simpa [jM] using hq
        have e:gM p ds=(0,22):=by rw [He.out,HE.out,if_pos (.inr hq)]
        have He2:=Lib.hid e;clear e HE hq
        go_wp2
        go_ret2
        rw [He2.out];exact⟨rfl,HB5.out⟩
       ·have hq1:decide (4611686018427387904-size<n)=false:=by simpa [jM] using hq
        have hq2:size+n≤4611686018427387904:=by unfold jM at hq;omega
        by_cases hneg:m.n<0
        ·have HE2:=Lib.hid (show lA D p 0 0=lA D (p.drop (j+1)) (size+n) (sum-n) by rw [HE.out,if_neg (by intro h;rcases h with h | h;exact absurd h (by simp);exact hq h),if_pos hneg]);have hneg1:decide (m.n<0)=true:=by simpa using hneg
         clear HE hq
         go_wp2
         go_roundw
         case rel=>exact⟨j+1,size+n,sum-n,by omega,by go_num,by go_num,by go_num,⟨by omega,by unfold jM;omega,by omega,by omega⟩,HE2,HS5.out,HB5.out⟩
         case measure=>simp [intOf];omega
        ·have HE2:=Lib.hid (show lA D p 0 0=lA D (p.drop (j+1)) (size+n) (sum+n) by rw [HE.out,if_neg (by intro h;rcases h with h | h;exact absurd h (by simp);exact hq h),if_neg hneg]);have hneg1:decide (m.n<0)=false:=by simpa using hneg
         clear HE hq
         go_wp2
         go_roundw
         case rel=>exact⟨j+1,size+n,sum+n,by omega,by go_num,by go_num,by go_num,⟨by omega,by unfold jM;omega,by omega,by omega⟩,HE2,HS5.out,HB5.out⟩
         case measure=>simp [intOf];omega
     ·have e:gM p ds=(sum,0):=by rw [He.out,hev.out,List.drop_of_length_le (by omega),lA]
      have He2:=Lib.hid e;clear e hev
      go_wp2
      go_ret2
      rw [He2.out];exact⟨rfl,HB2.out⟩
end Go.Proofs.YtbgdphbebhjpiaaGreatDoor
namespace Go.Proofs.YtbgdphbebhjpiaaGreatDoor
open Go.RowKit
set_option maxRecDepth 100000
def bEq (m:Mono):Bool:=decide (m.n<0)
def lI (p:List Mono):Bool:=dR p&& !(p.any bEq)
def flatE (m:Mono):Bool:=m.sameE ⟨0,0,0,0,0,0,0⟩
def gN (p:List Mono)(n:Int):Bool:=lI p&&(decide (n≤0) || match p.getLast? with
 | none=>false
 | some m=>flatE m&&decide (n≤m.n))
set_option maxHeartbeats 400000 in
theorem neg_any(m:Mono)(w:World):Calls Tryz.prog 51 #[.agg #[.int .i64 m.n,.int .u8 m.e0.toNat,.int .u8 m.e1.toNat,.int .u8 m.e2.toNat,.int .u8 m.e3.toNat,.int .u8 m.e4.toNat,.int .u8 m.e5.toNat]] w fun e w'=>e= .returned (.bool (bEq m))∧Below w.heap.size w w':=by
 go_enter Tryz.func51,Tryz.ntmps51
 go_wp2
 go_ret
 exact⟨rfl,by go_grown⟩
def IdxPost(w:World)(b:Bool)(e:Ending)(w':World):Prop:= ∃i:Int,e= .returned (.int .i64 i)∧decide (0≤i)=b∧Below w.heap.size w w'
set_option maxRecDepth 100000 in
set_option maxHeartbeats 1000000 in
theorem index_any(A:Option Addr)(c:Nat)(xs:List Mono)(w:World)(ha:iV w A xs)(hx:xs.length≤140737488355328):
  Calls Tryz.prog 95 #[.slice A xs.length c,.func (.func 51) #[] #[]] w (IdxPost w (xs.any bEq)):=by
 have Ha:=Lib.hid ha;clear ha
 go_enter Tryz.func95,Tryz.ntmps95
 go_wp2
 go_loopw [8] (fun i wr=> ∃k:Nat,k≤xs.length∧i= .int .i64 k∧Hid (xs.any bEq=(xs.drop k).any bEq)∧Below w.heap.size w wr) (fun i _=>xs.length-(intOf i).toNat)
 case atStart=>exact⟨0,Nat.zero_le _,rfl,rfl,Below.refl _ _⟩
 case round=>
  obtain⟨k,hk,rfl,hs,hbl⟩:=hrel
  by_cases hlt:k<xs.length
  ·obtain⟨m,hm,dm⟩:=jV hlt;obtain⟨b,o,rfl,hB,c0,c1,c2,c3,c4,c5,c6⟩:=Ha.out.below hbl k m hm;have HS:=Lib.hid (show xs.any bEq=(bEq m || (xs.drop (k+1)).any bEq) by rw [hs.out,dm,List.any_cons]);have HBL:=Lib.hid hbl;clear hs hm dm hB hbl
   go_wp2_with (go_at_call 51;refine(neg_any m _).mono ?_;rintro e w1 ⟨rfl,hb1⟩)
   ·have hng:bEq m=true:=by assumption
    go_ret
    exact⟨k,rfl,by rw [HS.out,hng,Bool.true_or];simp,HBL.out.trans (hb1.mono HBL.out.size)⟩
   ·have hng:bEq m=false:=by assumption
    go_roundw
    case rel=>exact⟨k+1,by omega,by go_num,(by show _=_;rw [HS.out,hng,Bool.false_or]),HBL.out.trans (hb1.mono HBL.out.size)⟩
    case measure=>simp [intOf];omega
  ·have HS:=Lib.hid (show xs.any bEq=false by rw [hs.out,List.drop_of_length_le (by omega)];rfl);clear hs
   go_wp2
   go_ret
   exact⟨-1,rfl,by rw [HS.out];rfl,hbl⟩
set_option maxHeartbeats 400000 in
theorem contains_any(A:Option Addr)(c:Nat)(xs:List Mono)(w:World)(ha:iV w A xs)(hx:xs.length≤140737488355328):
  Calls Tryz.prog 50 #[.slice A xs.length c,.func (.func 51) #[] #[]] w fun e w'=>e= .returned (.bool (xs.any bEq))∧Below w.heap.size w w':=by
 have Ha:=Lib.hid ha;clear ha
 go_enter Tryz.func50,Tryz.ntmps50
 go_wp2_with fail
 refine(index_any A c xs _ Ha.out hx).mono ?_;rintro e w1 ⟨i,rfl,hi,hb1⟩;have Hi:=Lib.hid hi;clear hi
 go_wp2
 go_ret
 exact⟨gU Hi.out,hb1⟩
set_option maxHeartbeats 400000 in
theorem tF(A:Option Addr)(c:Nat)(xs:List Mono)(w:World)(ha:iV w A xs)(hx:xs.length≤140737488355328):
  Calls Tryz.prog 25 #[.slice A xs.length c] w fun e w'=>e= .returned (.bool (lI xs))∧Below w.heap.size w w':=by
 have Ha:=Lib.hid ha;clear ha;cases hr:dR xs
 ·go_enter Tryz.func25,Tryz.ntmps25
  go_wp2_with fail
  refine(right_any A c xs _ Ha.out hx).mono ?_;rintro e w1 ⟨rfl,hb1⟩
  go_wp2
  go_ret
  exact⟨gU (by unfold lI;rw [hr];rfl),hb1⟩
 ·go_enter Tryz.func25,Tryz.ntmps25
  go_wp2_with fail
  refine(right_any A c xs _ Ha.out hx).mono ?_;rintro e w1 ⟨rfl,hb1⟩;have H1:=Lib.hid hb1;clear hb1
  go_wp2_with fail
  refine(contains_any A c xs _ (Ha.out.below H1.out) hx).mono ?_;rintro e w2 ⟨rfl,hb2⟩;have H2:=Lib.hid (H1.out.trans (hb2.mono H1.out.size));clear hb2
  go_wp2
  go_ret
  exact⟨gU (by unfold lI;rw [hr,Bool.true_and]),H2.out⟩
theorem run_zero_E(w:World):(Instr.build 72 #[]).run Tryz.prog w= .ok (.agg #[.int .u8 0,.int .u8 0,.int .u8 0,.int .u8 0,.int .u8 0,.int .u8 0]) w:=by kernel_rfl
theorem run_eql_E(m:Mono)(w:World):(binOp .eql 72 (.agg #[.int .u8 m.e0.toNat,.int .u8 m.e1.toNat,.int .u8 m.e2.toNat,.int .u8 m.e3.toNat,.int .u8 m.e4.toNat,.int .u8 m.e5.toNat]) (.agg #[.int .u8 0,.int .u8 0,.int .u8 0,.int .u8 0,.int .u8 0,.int .u8 0])).run Tryz.prog w= .ok (.bool (flatE m)) w:=by
 rw [run_eql_struct];have h:=sG 9998 m ⟨0,0,0,0,0,0,0⟩ w;have e:(Value.agg #[.int .u8 (((0:UInt8).toNat:Nat):Int),.int .u8 (((0:UInt8).toNat:Nat):Int),.int .u8 (((0:UInt8).toNat:Nat):Int),.int .u8 (((0:UInt8).toNat:Nat):Int),.int .u8 (((0:UInt8).toNat:Nat):Int),.int .u8 (((0:UInt8).toNat:Nat):Int)])= .agg #[.int .u8 0,.int .u8 0,.int .u8 0,.int .u8 0,.int .u8 0,.int .u8 0]:=rfl;rw [e] at h;rw [h];rfl
set_option maxRecDepth 100000 in
set_option maxHeartbeats 1000000 in
theorem covers_any(A:Option Addr)(c:Nat)(xs:List Mono)(n:Int)(w:World)(ha:iV w A xs)(hx:xs.length≤140737488355328):
  Calls Tryz.prog 206 #[.slice A xs.length c,.int .i64 n] w fun e w'=>e= .returned (.bool (gN xs n))∧Below w.heap.size w w':=by
 have Ha:=Lib.hid ha;clear ha;have hz:=run_zero_E;have heq:=run_eql_E;cases hg:lI xs
 ·go_enter Tryz.func206,Tryz.ntmps206
  go_wp2_with fail
  refine(tF A c xs _ Ha.out hx).mono ?_;rintro e w1 ⟨rfl,hb1⟩
  go_wp2
  go_ret
  exact⟨gU (by unfold gN;rw [hg];rfl),hb1⟩
 ·by_cases hn:n≤0
  ·have hn1:decide (n≤0)=true:=by simpa using hn
   go_enter Tryz.func206,Tryz.ntmps206
   go_wp2_with fail
   refine(tF A c xs _ Ha.out hx).mono ?_;rintro e w1 ⟨rfl,hb1⟩
   go_wp2
   go_ret
   exact⟨gU (by unfold gN;rw [hg,hn1];rfl),hb1⟩
  ·have hn1:decide (n≤0)=false:=by simpa using hn
   rcases Nat.eq_zero_or_pos xs.length with h0 | h0
   ·have h01:((xs.length:Int)==0)=true:=by simp [h0]
    have H0:=Lib.hid h0;clear h0
    go_enter Tryz.func206,Tryz.ntmps206
    go_wp2_with fail
    refine(tF A c xs _ Ha.out hx).mono ?_;rintro e w1 ⟨rfl,hb1⟩
    go_wp2
    go_ret
    have e:xs=[]:=List.eq_nil_of_length_eq_zero H0.out;subst e;exact⟨gU (by unfold gN;rw [hg,hn1];rfl),hb1⟩
   ·have h01:((xs.length:Int)==0)=false:=beq_eq_false_iff_ne.2 (by omega)
    obtain⟨m,hm⟩: ∃m,xs[xs.length-1]?=some m:=⟨xs[xs.length-1]'(by omega),List.getElem?_eq_getElem _⟩
    have HL:=Lib.hid (show xs.getLast?=some m by rw [List.getLast?_eq_getElem?];exact hm);have HM:=Lib.hid hm;clear hm
    go_enter Tryz.func206,Tryz.ntmps206
    go_wp2_with fail
    refine(tF A c xs _ Ha.out hx).mono ?_;rintro e w1 ⟨rfl,hb1⟩;obtain⟨b,o,hA,hB,c0,c1,c2,c3,c4,c5,c6⟩:=Ha.out.below hb1 _ m HM.out;subst hA;have hi:((xs.length:Int)-1).toNat=xs.length-1:=by omega
    have H1:=Lib.hid hb1;clear hb1 HM hB;cases hf:flatE m
    ·go_wp2
     go_ret
     exact⟨gU (by unfold gN;rw [hg,hn1,HL.out];simp [hf]),H1.out.alloc H1.out.size _⟩
    ·go_wp2
     go_ret
     exact⟨gU (by unfold gN;rw [hg,hn1,HL.out];simp [hf]),H1.out.alloc H1.out.size _⟩
end Go.Proofs.YtbgdphbebhjpiaaGreatDoor
namespace Go.Proofs.YtbgdphbebhjpiaaGreatDoor
open Go.RowKit
def lC:Flat Mono where
 size:=7
 cells:=Mono.cells
 len:=fun _=>rfl
 one:=fun x u hu=>by
  simp [Mono.cells] at hu
  rcases hu with rfl | rfl | rfl | rfl | rfl | rfl | rfl<;>rfl
 pos:=by decide
theorem monos_of{S:kS}{w:World}{A:Option Addr}{k c:Nat}{l:List Mono}(hS: ∀b,S b→b<w.heap.size)(h:(lC.sl (.slice A k c) l).p S w):iV w A l∧k=l.length:=by
 obtain⟨A',cap,e,h⟩:=h;injection e with e1 e2 e3
 subst e1 e2;refine⟨fun k m hk=>?_,rfl⟩;obtain⟨b,o,cs,e1,e2,e3,e4⟩:=h k m hk;have e4:cs=m.cells:=e4;subst e4;exact⟨b,o,e1,hS b e2,e3 0 _ rfl,e3 1 _ rfl,e3 2 _ rfl,e3 3 _ rfl,e3 4 _ rfl,e3 5 _ rfl,e3 6 _ rfl⟩
theorem sl_of{w:World}{A:Option Addr}{c:Nat}{l:List Mono}(h:iV w A l):(lC.sl (.slice A l.length c) l).p (fun b=>b<w.heap.size) w:=by
 refine⟨A,c,rfl,fun k m hk=>?_⟩;obtain⟨b,o,e,hb,h0,h1,h2,h3,h4,h5,h6⟩:=h k m hk;refine⟨b,o,m.cells,e,hb,fun j u hj=>?_,rfl⟩;have hlt:=(List.getElem?_eq_some_iff.1 hj).1;rw [Mono.cells_length] at hlt
 match j,hlt with
 | 0,_=>simp [Mono.cells] at hj;subst hj;exact h0
 | 1,_=>simp [Mono.cells] at hj;subst hj;exact h1
 | 2,_=>simp [Mono.cells] at hj;subst hj;exact h2
 | 3,_=>simp [Mono.cells] at hj;subst hj;exact h3
 | 4,_=>simp [Mono.cells] at hj;subst hj;exact h4
 | 5,_=>simp [Mono.cells] at hj;subst hj;exact h5
 | 6,_=>simp [Mono.cells] at hj;subst hj;exact h6
abbrev PolV:=Sl Mono
def lZ (p:PolV):Fact:=(lC.sl (.slice p.addr p.list.length p.cap) p.list).and (Fact.pure (p.list.length≤140737488355328))
theorem rK{f:FuncId}{args:List Value}{Pre:List Fact}{r:List Mono×Int}(hl:r.1.length≤140737488355328)(h: ∀S w,(∀b,S b→b<w.heap.size)→All Pre S w→Calls Tryz.prog f args.toArray w (xO w r)):
  dM Tryz.prog f args [] Pre (fun x:Option Addr×Nat=> .tuple #[.slice x.1 r.1.length x.2,.int .i64 r.2]) (fun _=>[]) (fun x=>[lZ ⟨x.1,x.2,r.1⟩]):=fun S w s k=>by
 refine(h S w (fun b hb=>(s.zone b hb).1) k).mono ?_;intro e w' hg;obtain⟨v,rfl,hb,A,c,rfl,hr⟩:=hg;refine⟨(A,c),fun b=>S b∨(w.heap.size≤b∧b<w'.heap.size),rfl,⟨mV.of_below _ hb,fun c hc=>by simp at hc,fun c hc=>by simp at hc,List.Pairwise.nil,fun b hb'=>?_⟩,All.cons ⟨?_,hl⟩ (fun g hg=>by simp at hg)⟩
 ·rcases hb' with h | h
  ·exact⟨Nat.lt_of_lt_of_le (s.zone b h).1 hb.size,.inl h⟩
  ·exact⟨h.2,.inr (.inr h.1)⟩
 ·rcases hr with hr | ⟨g,rfl,hg,hr⟩
  ·exact⟨A,c,rfl,fun k m hk=>by
    have hr:r.1=[]:=hr
    simp [hr] at hk⟩
  ·have hm:=hr.monos;obtain⟨A',c',e,h⟩:=sl_of (c:=c) hm;injection e with e1 e2 e3
   subst e1;refine⟨_,c,rfl,fun k m hk=>?_⟩;obtain⟨b,o,cs,e1,e2,e3,e4⟩:=h k m hk;injection e1 with e1
   injection e1 with e1 e5
   subst e1;exact⟨_,o,cs,by rw [e5],.inr ⟨hg,e2⟩,e3,e4⟩
theorem oN{p:List Mono}(h:dR p=true):p.length≤48:=by
 simp only [dR,Bool.and_eq_true,decide_eq_true_eq] at h;exact h.1
theorem bAw(L:List Mono):dR (kI L).1=true∧((kI L).2≠0→(kI L).1=[]):=by
 unfold kI;split
 ·rename_i h;exact⟨h,fun h=>absurd rfl h⟩
 ·exact⟨rfl,fun _=>rfl⟩
theorem oM(p q:List Mono)(s:Int):dR (cX p q s).1=true:=by
 unfold cX;split
 ·exact(bAw _).1
 ·rfl
theorem bCv(p q:List Mono):dR (pL p q).1=true:=by
 unfold pL;split
 ·exact(bAw _).1
 ·rfl
theorem bDr(n:Int):dR (iC n).1=true:=by
 unfold iC;split
 ·rfl
 ·split
  ·rfl
  ·rename_i h0 h1;simp only [not_or,Int.not_lt] at h1;simp [dR,fZ,num0,mG,h0,Mono.deg,h1]
theorem bCk(k:Int):dR (tJ k).1=true:=by
 unfold tJ;split
 ·rfl
 ·rename_i h;simp only [not_or,Int.not_lt,Int.not_le] at h
  obtain⟨n,rfl⟩: ∃n:Nat,k=n:=⟨k.toNat,by omega⟩
  match n,h with
  | 0,_=>rfl
  | 1,_=>rfl
  | 2,_=>rfl
  | 3,_=>rfl
  | 4,_=>rfl
  | 5,_=>rfl
  | n+6,h=>exact absurd h.2 (by omega)
section
variable (p q : PolV)
theorem jQ{p:PolV}{S:kS}{w:World}(hS: ∀b,S b→b<w.heap.size)(h:(lZ p).p S w):iV w p.addr p.list:=(monos_of hS h.1).1
theorem vX(hp:p.list.length≤140737488355328)(hq:q.list.length≤140737488355328):dM Tryz.prog 149 [.slice p.addr p.list.length p.cap,.slice q.addr q.list.length q.cap] [] [lZ p,lZ q] (fun x:Option Addr×Nat=> .tuple #[.slice x.1 (cX p.list q.list 1).1.length x.2,.int .i64 (cX p.list q.list 1).2]) (fun _=>[]) (fun x=>[lZ ⟨x.1,x.2,(cX p.list q.list 1).1⟩]):=
 rK (Nat.le_trans (oN (oM _ _ _)) (by decide)) fun _ w hS h=>add_any _ _ _ _ _ _ w (jQ hS (h _ (.head _))) (jQ hS (h _ (.tail _ (.head _)))) hp hq
theorem bGy(hp:p.list.length≤140737488355328)(hq:q.list.length≤140737488355328):dM Tryz.prog 144 [.slice p.addr p.list.length p.cap,.slice q.addr q.list.length q.cap] [] [lZ p,lZ q] (fun x:Option Addr×Nat=> .tuple #[.slice x.1 (cX p.list q.list (-1)).1.length x.2,.int .i64 (cX p.list q.list (-1)).2]) (fun _=>[]) (fun x=>[lZ ⟨x.1,x.2,(cX p.list q.list (-1)).1⟩]):=
 rK (Nat.le_trans (oN (oM _ _ _)) (by decide)) fun _ w hS h=>sub_any _ _ _ _ _ _ w (jQ hS (h _ (.head _))) (jQ hS (h _ (.tail _ (.head _)))) hp hq
theorem mul_spec(hp:p.list.length≤140737488355328)(hq:q.list.length≤140737488355328):dM Tryz.prog 141 [.slice p.addr p.list.length p.cap,.slice q.addr q.list.length q.cap] [] [lZ p,lZ q] (fun x:Option Addr×Nat=> .tuple #[.slice x.1 (pL p.list q.list).1.length x.2,.int .i64 (pL p.list q.list).2]) (fun _=>[]) (fun x=>[lZ ⟨x.1,x.2,(pL p.list q.list).1⟩]):=
 rK (Nat.le_trans (oN (bCv _ _)) (by decide)) fun _ w hS h=>mul_any _ _ _ _ _ _ w (jQ hS (h _ (.head _))) (jQ hS (h _ (.tail _ (.head _)))) hp hq
theorem xZ(n:Int):dM Tryz.prog 140 [.int .i64 n] [] [] (fun x:Option Addr×Nat=> .tuple #[.slice x.1 (iC n).1.length x.2,.int .i64 (iC n).2]) (fun _=>[]) (fun x=>[lZ ⟨x.1,x.2,(iC n).1⟩]):=
 rK (Nat.le_trans (oN (bDr n)) (by decide)) fun _ w _ _=>const_any n w
theorem var_spec(k:Int):dM Tryz.prog 78 [.int .i64 k] [] [] (fun x:Option Addr×Nat=> .tuple #[.slice x.1 (tJ k).1.length x.2,.int .i64 (tJ k).2]) (fun _=>[]) (fun x=>[lZ ⟨x.1,x.2,(tJ k).1⟩]):=
 rK (Nat.le_trans (oN (bCk k)) (by decide)) fun _ w _ _=>var_any k w
theorem bHi(hp:p.list.length≤140737488355328):dM Tryz.prog 25 [.slice p.addr p.list.length p.cap] [] [lZ p] (fun _:Unit=> .bool (lI p.list)) (fun _=>[]) (fun _=>[]):=
 jN fun _ w hS h=>tF _ _ _ w (jQ hS (h _ (.head _))) hp
theorem sF(n:Int)(hp:p.list.length≤140737488355328):dM Tryz.prog 206 [.slice p.addr p.list.length p.cap,.int .i64 n] [] [lZ p] (fun _:Unit=> .bool (gN p.list n)) (fun _=>[]) (fun _=>[]):=
 jN fun _ w hS h=>covers_any _ _ _ n w (jQ hS (h _ (.head _))) hp
end
theorem ints_of{S:kS}{w:World}{A:Option Addr}{k c:Nat}{l:List Int}(hS: ∀b,S b→b<w.heap.size)(h:(mR.sl (.slice A k c) l).p S w):Ints w A l:=by
 obtain⟨A',cap,e,h⟩:=h;injection e with e1 e2 e3
 subst e1 e2;intro k m hk;obtain⟨b,o,cs,e1,e2,e3,e4⟩:=h k m hk;have e4:cs=[.int .i64 m]:=e4;subst e4;refine⟨b,o,e1,hS b e2,?_⟩;have:w.cell? ⟨b,o+k*1+0,none⟩=some (.int .i64 m):=e3 0 _ rfl
 rwa [Nat.mul_one,Nat.add_zero] at this
theorem wP(p:PolV)(B:Option Addr)(d:Nat)(ds:List Int)(hp:p.list.length≤140737488355328)(hd:ds.length≤140737488355328):dM Tryz.prog 55 [.slice p.addr p.list.length p.cap,.slice B ds.length d] [] [lZ p,mR.sl (.slice B ds.length d) ds] (fun _:Unit=> .tuple #[.int .i64 (gM p.list ds).1,.int .i64 (gM p.list ds).2]) (fun _=>[]) (fun _=>[]):=
 jN fun _ w hS h=>eval_any _ _ _ _ _ _ w (jQ hS (h _ (.head _))) (ints_of hS (h _ (.tail _ (.head _)))) hp hd
end Go.Proofs.YtbgdphbebhjpiaaGreatDoor
namespace Go.Proofs.YtbgdphbebhjpiaaGreatDoor
open Go.RowKit Go.ChangeShapes Go.WideShapes
def cI:Flat PolV:=slE Mono
structure TyV where
 sides:(Sl PolV)
 known:Bool
 values:(Sl PolV)
 deriving Inhabited
def tyE:Flat TyV where
 size:=3
 cells:=fun x=>[.slice x.sides.addr x.sides.list.length x.sides.cap,.bool x.known,.slice x.values.addr x.values.list.length x.values.cap]
 len:=fun _=>rfl
 one:=fun x u hu=>by
  simp at hu
  rcases hu with rfl | rfl | rfl<;>rfl
 pos:=by decide
def zM:Flat (Sl TyV):=slE TyV
def typeT:Tab:=[(3,⟨.int .i64,1⟩),(2,⟨.int .i64,1⟩),(5,⟨.int .u8,1⟩),(9,⟨.string,1⟩),(4,⟨.bool,1⟩),(50,⟨.int .u8,1⟩),(34,⟨.int .i64,1⟩),(30,⟨.slice 2,1⟩),(27,⟨.slice 9,1⟩),(104,⟨.struct [(3,0),(3,1),(9,2),(2,3)],4⟩),(97,⟨.slice 104,1⟩),(36,⟨.struct [(3,0),(34,1)],2⟩),(63,⟨.struct [(9,0),(2,1)],2⟩),(59,⟨.slice 63,1⟩),(61,⟨.struct [(9,0),(3,1),(59,2)],3⟩),(22,⟨.slice 61,1⟩),(52,⟨.struct [(3,0),(3,1),(50,2),(9,3),(30,4)],5⟩),(47,⟨.slice 52,1⟩),(49,⟨.struct [(9,0),(3,1),(47,2)],3⟩),(23,⟨.slice 49,1⟩),(25,⟨.struct [(22,0),(23,1)],2⟩),(102,⟨.struct [(97,0),(3,1),(3,2)],3⟩),(42,⟨.struct [(30,0),(30,1)],2⟩),(31,⟨.slice 42,1⟩),(189,⟨.slice 30,1⟩),(71,⟨.slice 74,1⟩),(65,⟨.slice 71,1⟩),(67,⟨.struct [(65,0),(4,1),(65,2)],3⟩),(64,⟨.slice 67,1⟩),(55,⟨.slice 64,1⟩),(100,⟨.other,1⟩),(208,⟨.slice 1,1⟩),(1,⟨.other,1⟩),(196,⟨.other,1⟩),(80,⟨.other,1⟩),(247,⟨.other,1⟩),(248,⟨.slice 247,1⟩),(243,⟨.int .u64,1⟩),(78,⟨.map 9 4,1⟩),(85,⟨.map 9 42,1⟩),(244,⟨.other,1⟩),(246,⟨.struct [(244,0),(34,1)],2⟩),(87,⟨.struct [(85,0),(3,1)],2⟩),(74,⟨.struct [(2,0),(72,1)],7⟩),(72,⟨.array 6 5,6⟩),(110,⟨.other,1⟩),(115,⟨.map 9 67,1⟩),(117,⟨.struct [(115,0)],1⟩),(213,⟨.other,1⟩),(296,⟨.int .u64,1⟩),(218,⟨.slice 65,1⟩)]
theorem fC:gD Tryz.prog typeT:=vD.ok
 ⟨⟨by rw [Tryz.underlying3];rfl,by kernel_rfl⟩,
  ⟨by rw [Tryz.underlying2];rfl,by kernel_rfl⟩,
  ⟨by rw [Tryz.underlying5];rfl,by kernel_rfl⟩,
  ⟨by rw [Tryz.underlying9];rfl,by kernel_rfl⟩,
  ⟨by rw [Tryz.underlying4];rfl,by kernel_rfl⟩,
  ⟨by rw [Tryz.underlying50];rfl,by kernel_rfl⟩,
  ⟨by rw [Tryz.underlying34];rfl,by kernel_rfl⟩,
  ⟨by rw [Tryz.underlying30];rfl,by kernel_rfl⟩,
  ⟨by rw [Tryz.underlying27];rfl,by kernel_rfl⟩,
  ⟨by rw [Tryz.underlying104];rfl,by kernel_rfl⟩,
  ⟨by rw [Tryz.underlying97];rfl,by kernel_rfl⟩,
  ⟨by rw [Tryz.underlying36];rfl,by kernel_rfl⟩,
  ⟨by rw [Tryz.underlying63];rfl,by kernel_rfl⟩,
  ⟨by rw [Tryz.underlying59];rfl,by kernel_rfl⟩,
  ⟨by rw [Tryz.underlying61];rfl,by kernel_rfl⟩,
  ⟨by rw [Tryz.underlying22];rfl,by kernel_rfl⟩,
  ⟨by rw [Tryz.underlying52];rfl,by kernel_rfl⟩,
  ⟨by rw [Tryz.underlying47];rfl,by kernel_rfl⟩,
  ⟨by rw [Tryz.underlying49];rfl,by kernel_rfl⟩,
  ⟨by rw [Tryz.underlying23];rfl,by kernel_rfl⟩,
  ⟨by rw [Tryz.underlying25];rfl,by kernel_rfl⟩,
  ⟨by rw [Tryz.underlying102];rfl,by kernel_rfl⟩,
  ⟨by rw [Tryz.underlying42];rfl,by kernel_rfl⟩,
  ⟨by rw [Tryz.underlying31];rfl,by kernel_rfl⟩,
  ⟨by rw [Tryz.underlying189];rfl,by kernel_rfl⟩,
  ⟨by rw [Tryz.underlying71];rfl,by kernel_rfl⟩,
  ⟨by rw [Tryz.underlying65];rfl,by kernel_rfl⟩,
  ⟨by rw [Tryz.underlying67];rfl,by kernel_rfl⟩,
  ⟨by rw [Tryz.underlying64];rfl,by kernel_rfl⟩,
  ⟨by rw [Tryz.underlying55];rfl,by kernel_rfl⟩,
  ⟨by rw [Tryz.underlying100];rfl,by kernel_rfl⟩,
  ⟨by rw [Tryz.underlying208];rfl,by kernel_rfl⟩,
  ⟨by rw [Tryz.underlying1];rfl,by kernel_rfl⟩,
  ⟨by rw [Tryz.underlying196];rfl,by kernel_rfl⟩,
  ⟨by rw [Tryz.underlying80];rfl,by kernel_rfl⟩,
  ⟨by rw [Tryz.underlying247];rfl,by kernel_rfl⟩,
  ⟨by rw [Tryz.underlying248];rfl,by kernel_rfl⟩,
  ⟨by rw [Tryz.underlying243];rfl,by kernel_rfl⟩,
  ⟨by rw [Tryz.underlying78];rfl,by kernel_rfl⟩,
  ⟨by rw [Tryz.underlying85];rfl,by kernel_rfl⟩,
  ⟨by rw [Tryz.underlying244];rfl,by kernel_rfl⟩,
  ⟨by rw [Tryz.underlying246];rfl,by kernel_rfl⟩,
  ⟨by rw [Tryz.underlying87];rfl,by kernel_rfl⟩,
  ⟨by rw [Tryz.underlying74];rfl,by kernel_rfl⟩,
  ⟨by rw [Tryz.underlying72];rfl,by kernel_rfl⟩,
  ⟨by rw [Tryz.underlying110];rfl,by kernel_rfl⟩,
  ⟨by rw [Tryz.underlying115];rfl,by kernel_rfl⟩,
  ⟨by rw [Tryz.underlying117];rfl,by kernel_rfl⟩,
  ⟨by rw [Tryz.underlying213];rfl,by kernel_rfl⟩,
  ⟨by rw [Tryz.underlying296];rfl,by kernel_rfl⟩,
  ⟨by rw [Tryz.underlying218];rfl,by kernel_rfl⟩,trivial⟩
theorem vG: ∃i:TypeInfo,Tryz.prog.info? 71=some i∧i.zero=some (.slice none 0 0)∧i.size=1∧i.bytes=24:=by
 have h:(Tryz.prog.info? 71).map (fun i=>(i.zero,i.size,i.bytes))=some (some (.slice none 0 0),1,24):=by kernel_rfl
 cases hi:Tryz.prog.info? 71 with
 | none=>simp [hi] at h
 | some i=>simp [hi] at h;exact⟨i,rfl,h.1,h.2.1,h.2.2⟩
theorem fE{β:fR}{n:Nat}{Γ:Env}{H:List bY}{F:List Fact}{Q:Exit→Act→World→Prop}{ops:Array Oper}{rest:List Oper}{o:Oper}{d:Nat}{x:Operand}{m:PolV}(hw:want ops Γ o=some true)(ho:o.op= .buildSlice 65 1 #[(0,x)])(hd:o.dst=some d)(hn:Nat.blt d n=true)
  (hx:Γ.ev x=some (.slice m.addr m.list.length m.cap)) (k: ∀b,At β n ((d,.slice (some ⟨b,0,none⟩) 1 1)::Γ) (.obj b (.cells (cI.all [m]).toArray 71)::H) F (wpList Tryz.prog ops Q rest)):At β n Γ H F (wpList Tryz.prog ops Q (o::rest)):=by
 obtain⟨i,hi,hz,hs,_⟩:=vG;refine iU hw ho hd hn hx Tryz.underlying65 hi hz (by omega) (by omega) ?_ k;rw [hs]
 kernel_rfl
theorem at_none_pols{β:fR}{n:Nat}{Γ:Env}{H:List bY}{F:List Fact}{Q:Exit→Act→World→Prop}{ops:Array Oper}{rest:List Oper}{o:Oper}{d:Nat}(hw:want ops Γ o=some true)(ho:o.op= .buildSlice 65 0 #[])(hd:o.dst=some d)(hn:Nat.blt d n=true)
  (k: ∀b,At β n ((d,.slice (some ⟨b,0,none⟩) 0 0)::Γ) (cI.row (.slice (some ⟨b,0,none⟩) 0 0) 71 []::H) F (wpList Tryz.prog ops Q rest)):At β n Γ H F (wpList Tryz.prog ops Q (o::rest)):=by
 obtain⟨i,hi,_⟩:=vG;exact bLo cI hw ho hd hn Tryz.underlying65 hi k
theorem gE{β:fR}{n:Nat}{Γ:Env}{H:List bY}{F:List Fact}{Q:Exit→Act→World→Prop}{ops:Array Oper}{rest:List Oper}{o:Oper}{d:Nat}{x y:Operand}{c q:Nat}{v:Value}{A:Option Addr}{xs ys:List PolV}{H':List bY}(hH:dI H (cI.row v 71 xs) H')(hr:cP β H F cI A ys)(hg:o.guard=none)
  (ho:o.op= .call {callee:= .builtin .append,args:= #[x,y],argTypes:= #[65,65]}) (hd:o.dst=some d) (hn:Nat.blt d n=true)
  (hx:Γ.ev x=some v) (hy:Γ.ev y=some (.slice A q c)) (hq:q=ys.length) (hl:xs.length+ys.length≤5864062014805)
  (k: ∀A' cap',At β n ((d,.slice A' (xs++ys).length cap')::Γ) (cI.row (.slice A' (xs++ys).length cap') 71 (xs++ys)::H') F (wpList Tryz.prog ops Q rest)):At β n Γ H F (wpList Tryz.prog ops Q (o::rest)):=by
 obtain⟨i,hi,hz,hs,hb⟩:=vG;exact fX hH hr hg ho hd hn Tryz.underlying65 hi hz hs hb rfl hx hy hq (by omega) (by decide) k
theorem tyInfo: ∃i:TypeInfo,Tryz.prog.info? 67=some i∧i.zero=some (.agg #[.slice none 0 0,.bool false,.slice none 0 0])∧i.size=3∧i.bytes=56:=by
 have h:(Tryz.prog.info? 67).map (fun i=>(i.zero,i.size,i.bytes))=some (some (.agg #[.slice none 0 0,.bool false,.slice none 0 0]),3,56):=by kernel_rfl
 cases hi:Tryz.prog.info? 67 with
 | none=>simp [hi] at h
 | some i=>simp [hi] at h;exact⟨i,rfl,h.1,h.2.1,h.2.2⟩
theorem bDc{β:fR}{n:Nat}{Γ:Env}{H:List bY}{F:List Fact}{Q:Exit→Act→World→Prop}{ops:Array Oper}{rest:List Oper}{o:Oper}{d:Nat}{x:Operand}{m:TyV}(hw:want ops Γ o=some true)(ho:o.op= .buildSlice 64 1 #[(0,x)])(hd:o.dst=some d)(hn:Nat.blt d n=true)
  (hx:Γ.ev x=some (.agg #[.slice m.sides.addr m.sides.list.length m.sides.cap,.bool m.known,.slice m.values.addr m.values.list.length m.values.cap])) (k: ∀b,At β n ((d,.slice (some ⟨b,0,none⟩) 1 1)::Γ) (.obj b (.cells (tyE.all [m]).toArray 67)::H) F (wpList Tryz.prog ops Q rest)):At β n Γ H F (wpList Tryz.prog ops Q (o::rest)):=by
 obtain⟨i,hi,hz,hs,_⟩:=tyInfo;refine iU hw ho hd hn hx Tryz.underlying64 hi hz (by omega) (by omega) ?_ k;rw [hs]
 kernel_rfl
theorem bCn{β:fR}{n:Nat}{Γ:Env}{H:List bY}{F:List Fact}{Q:Exit→Act→World→Prop}{ops:Array Oper}{rest:List Oper}{o:Oper}{d:Nat}{x y:Operand}{c q:Nat}{v:Value}{A:Option Addr}{xs ys:List TyV}{H':List bY}(hH:dI H (tyE.row v 67 xs) H')(hr:cP β H F tyE A ys)(hg:o.guard=none)
  (ho:o.op= .call {callee:= .builtin .append,args:= #[x,y],argTypes:= #[64,64]}) (hd:o.dst=some d) (hn:Nat.blt d n=true)
  (hx:Γ.ev x=some v) (hy:Γ.ev y=some (.slice A q c)) (hq:q=ys.length) (hl:xs.length+ys.length≤2513169434916)
  (k: ∀A' cap',At β n ((d,.slice A' (xs++ys).length cap')::Γ) (tyE.row (.slice A' (xs++ys).length cap') 67 (xs++ys)::H') F (wpList Tryz.prog ops Q rest)):At β n Γ H F (wpList Tryz.prog ops Q (o::rest)):=by
 obtain⟨i,hi,hz,hs,hb⟩:=tyInfo;exact fX hH hr hg ho hd hn Tryz.underlying64 hi hz hs hb rfl hx hy hq (by omega) (by decide) k
theorem rowsInfo: ∃i:TypeInfo,Tryz.prog.info? 64=some i∧i.zero=some (.slice none 0 0)∧i.size=1∧i.bytes=24:=by
 have h:(Tryz.prog.info? 64).map (fun i=>(i.zero,i.size,i.bytes))=some (some (.slice none 0 0),1,24):=by kernel_rfl
 cases hi:Tryz.prog.info? 64 with
 | none=>simp [hi] at h
 | some i=>simp [hi] at h;exact⟨i,rfl,h.1,h.2.1,h.2.2⟩
theorem at_one_rows{β:fR}{n:Nat}{Γ:Env}{H:List bY}{F:List Fact}{Q:Exit→Act→World→Prop}{ops:Array Oper}{rest:List Oper}{o:Oper}{d:Nat}{x:Operand}{m:(Sl TyV)}(hw:want ops Γ o=some true)(ho:o.op= .buildSlice 55 1 #[(0,x)])(hd:o.dst=some d)(hn:Nat.blt d n=true)
  (hx:Γ.ev x=some (.slice m.addr m.list.length m.cap)) (k: ∀b,At β n ((d,.slice (some ⟨b,0,none⟩) 1 1)::Γ) (.obj b (.cells (zM.all [m]).toArray 64)::H) F (wpList Tryz.prog ops Q rest)):At β n Γ H F (wpList Tryz.prog ops Q (o::rest)):=by
 obtain⟨i,hi,hz,hs,_⟩:=rowsInfo;refine iU hw ho hd hn hx Tryz.underlying55 hi hz (by omega) (by omega) ?_ k;rw [hs]
 kernel_rfl
theorem at_app_rows{β:fR}{n:Nat}{Γ:Env}{H:List bY}{F:List Fact}{Q:Exit→Act→World→Prop}{ops:Array Oper}{rest:List Oper}{o:Oper}{d:Nat}{x y:Operand}{c q:Nat}{v:Value}{A:Option Addr}{xs ys:List (Sl TyV)}{H':List bY}(hH:dI H (zM.row v 64 xs) H')(hr:cP β H F zM A ys)(hg:o.guard=none)
  (ho:o.op= .call {callee:= .builtin .append,args:= #[x,y],argTypes:= #[55,55]}) (hd:o.dst=some d) (hn:Nat.blt d n=true)
  (hx:Γ.ev x=some v) (hy:Γ.ev y=some (.slice A q c)) (hq:q=ys.length) (hl:xs.length+ys.length≤5864062014805)
  (k: ∀A' cap',At β n ((d,.slice A' (xs++ys).length cap')::Γ) (zM.row (.slice A' (xs++ys).length cap') 64 (xs++ys)::H') F (wpList Tryz.prog ops Q rest)):At β n Γ H F (wpList Tryz.prog ops Q (o::rest)):=by
 obtain⟨i,hi,hz,hs,hb⟩:=rowsInfo;exact fX hH hr hg ho hd hn Tryz.underlying55 hi hz hs hb rfl hx hy hq (by omega) (by decide) k
end Go.Proofs.YtbgdphbebhjpiaaGreatDoor
namespace Go.Proofs.YtbgdphbebhjpiaaGreatDoor
open Go.RowKit
instance : DecidableEq Mono := fun a b => decidable_of_iff (a.eqB b = true) (Mono.eqB_iff a b)
def bFj (a b:Mono):Bool:=a.eqB b
theorem sti_neq_mono{β:fR}{n:Nat}{Γ:Env}{H:List bY}{F:List Fact}{o:Oper}{a b:Operand}{tt:TypeId}(x y:Mono)(ho:o.op= .binOp .neq 74 a b tt)(hx:Γ.ev a=some (.agg #[.int .i64 x.n,.int .u8 x.e0.toNat,.int .u8 x.e1.toNat,.int .u8 x.e2.toNat,.int .u8 x.e3.toNat,.int .u8 x.e4.toNat,.int .u8 x.e5.toNat]))(hy:Γ.ev b=some (.agg #[.int .i64 y.n,.int .u8 y.e0.toNat,.int .u8 y.e1.toNat,.int .u8 y.e2.toNat,.int .u8 y.e3.toNat,.int .u8 y.e4.toNat,.int .u8 y.e5.toNat])):Sti Tryz.prog β n Γ H F o (.bool (!bFj x y)):=fun c w S f s k=>by
 have hq:Tryz.prog.eqGuardType Tryz.prog.depth 74=false:=by kernel_rfl
 have hg:(eqGuard .neq 74 a b (.agg #[.int .i64 x.n,.int .u8 x.e0.toNat,.int .u8 x.e1.toNat,.int .u8 x.e2.toNat,.int .u8 x.e3.toNat,.int .u8 x.e4.toNat,.int .u8 x.e5.toNat]) (.agg #[.int .i64 y.n,.int .u8 y.e0.toNat,.int .u8 y.e1.toNat,.int .u8 y.e2.toNat,.int .u8 y.e3.toNat,.int .u8 y.e4.toNat,.int .u8 y.e5.toNat])).run Tryz.prog w= .ok () w:=by
  unfold eqGuard;have hp:(program:Sem Program).run Tryz.prog w= .ok Tryz.prog w:=rfl;simp [hp,hq]
 unfold execOp;simp only [ho,f.ev hx,f.ev hy];rw [Sem.run_bind,Sem.run_bind,hg,Result.andThen_ok,zY];rfl
theorem mono_eq{x y:Mono}:bFj x y=true↔x=y:=Mono.eqB_iff x y
theorem mono_t{x y:Mono}(h:(!bFj x y)=true):x≠y:=fun e=>by
 rw [mono_eq.2 e] at h;cases h
theorem mono_f{x y:Mono}(h:(!bFj x y)=false):x=y:=mono_eq.1 (by simpa using h)
def cD (l:List PolV):List (List Mono):=l.map (·.list)
theorem bX(l:List PolV):(cD l).length=l.length:=List.length_map _
theorem iO{l:List PolV}{i:Nat}{p:PolV}(h:l[i]?=some p):(cD l)[i]?=some p.list:=by
 unfold cD;rw [List.getElem?_map,h];rfl
theorem eqF_of{α:Type} [DecidableEq α]{a b:List α}(h:a≠b):Value.bool false= .bool (decide (a=b)):=by simp [h]
theorem eqT_of{α:Type} [DecidableEq α]{a b:List α}(h:a=b):Value.bool true= .bool (decide (a=b)):=by simp [h]
theorem rT{α:Type}{E:Flat α}{F:List Fact}:Has F (E.sl (.slice none 0 0) []):=fun _ _ _=>⟨none,0,rfl,fun k x hk=>by simp at hk⟩
def cW (l:List PolV):Fact:=Fact.each l lZ
theorem vM{F:List Fact}{p:PolV}(h:Has F (lZ p)):Has F (lC.sl (.slice p.addr p.list.length p.cap) p.list):=h.left
theorem dO{F:List Fact}{p:PolV}(h:Has F (lZ p)):Has F (Fact.pure (p.list.length≤140737488355328)):=h.right
theorem polF_nil: ∀{F:List Fact},Has F (lZ ⟨none,0,[]⟩):=Has.and rT (Has.pure (by decide))
def numT (n:Int):List Mono:=(iC n).1
theorem monoI: ∃i:TypeInfo,Tryz.prog.info? 74=some i∧i.zero=some (.agg #[.int .i64 0,.int .u8 0,.int .u8 0,.int .u8 0,.int .u8 0,.int .u8 0,.int .u8 0])∧i.size=7∧i.bytes=16:=by
 have h:(Tryz.prog.info? 74).map (fun i=>(i.zero,i.size,i.bytes))=some (some (.agg #[.int .i64 0,.int .u8 0,.int .u8 0,.int .u8 0,.int .u8 0,.int .u8 0,.int .u8 0]),7,16):=by kernel_rfl
 cases hi:Tryz.prog.info? 74 with
 | none=>simp [hi] at h
 | some i=>simp [hi] at h;exact⟨i,rfl,h.1,h.2.1,h.2.2⟩
section
variable {β : fR} {n : Nat} {Γ : Env} {H : List bY} {F : List Fact} {Q : Exit → Act → World → Prop} {ops : Array Oper} {rest : List Oper} {o : Oper} {d : Nat}
theorem at_none_mono(hw:want ops Γ o=some true)(ho:o.op= .buildSlice 71 0 #[])(hd:o.dst=some d)(hn:Nat.blt d n=true)
  (k: ∀b,At β n ((d,.slice (some ⟨b,0,none⟩) 0 0)::Γ) (lC.row (.slice (some ⟨b,0,none⟩) 0 0) 74 []::H) F (wpList Tryz.prog ops Q rest)):At β n Γ H F (wpList Tryz.prog ops Q (o::rest)):=by
 obtain⟨i,hi,_⟩:=monoI;exact bLo lC hw ho hd hn Tryz.underlying71 hi k
theorem at_app_mono{x y:Operand}{c q:Nat}{v:Value}{A:Option Addr}{xs ys:List Mono}{H':List bY}(hH:dI H (lC.row v 74 xs) H')(hr:cP β H F lC A ys)(hg:o.guard=none)
  (ho:o.op= .call {callee:= .builtin .append,args:= #[x,y],argTypes:= #[71,71]}) (hd:o.dst=some d) (hn:Nat.blt d n=true)
  (hx:Γ.ev x=some v) (hy:Γ.ev y=some (.slice A q c)) (hq:q=ys.length) (hl:xs.length+ys.length≤8796093022208)
  (k: ∀A' cap',At β n ((d,.slice A' (xs++ys).length cap')::Γ) (lC.row (.slice A' (xs++ys).length cap') 74 (xs++ys)::H') F (wpList Tryz.prog ops Q rest)):At β n Γ H F (wpList Tryz.prog ops Q (o::rest)):=by
 obtain⟨i,hi,hz,hs,hb⟩:=monoI;exact fX hH hr hg ho hd hn Tryz.underlying71 hi hz hs hb rfl hx hy hq (by omega) (by decide) k
end
def bHj {α:Type}(l cur:List α)(i:Nat):Prop:=cur.length=l.length∧ ∀q,q<l.length→cur[q]?=if q<i∨l.length≤q+i then l[l.length-1-q]? else l[q]?
section
variable {α : Type} {l cur : List α} {i : Nat} {x y : α}
theorem revG_start(l:List α):bHj l l 0:=⟨rfl,fun q hq=>by rw [if_neg (by omega)]⟩
theorem bLt(h:bHj l cur i)(hi:i<l.length-1-i)(hx:cur[l.length-1-i]?=some x)(hy:cur[i]?=some y):bHj l ((cur.set i x).set (l.length-1-i) y) (i+1):=by
 obtain⟨h1,h2⟩:=h;refine⟨by simp [h1],fun q hq=>?_⟩;have hx':=h2 (l.length-1-i) (by omega);have hy':=h2 i (by omega);rw [if_neg (by omega)] at hx' hy';rw [hx] at hx';rw [hy] at hy'
 by_cases e1:q=l.length-1-i
 ·subst e1;rw [List.getElem?_set_self (by simp;omega),if_pos (by omega),show l.length-1-(l.length-1-i)=i by omega];exact hy'
 ·rw [List.getElem?_set_ne (fun e=>e1 e.symm)]
  by_cases e2:q=i
  ·subst e2;rw [List.getElem?_set_self (by omega),if_pos (by omega)];exact hx'
  ·rw [List.getElem?_set_ne (fun e=>e2 e.symm),h2 q hq]
   by_cases hc:q<i∨l.length≤q+i
   ·rw [if_pos hc,if_pos (by omega)]
   ·rw [if_neg hc,if_neg (by omega)]
theorem revG_end(h:bHj l cur i)(hi:l.length≤2*i+1):cur=l.reverse:=by
 obtain⟨h1,h2⟩:=h;apply List.ext_getElem?;intro q
 by_cases hq:q<l.length
 ·rw [h2 q hq,List.getElem?_reverse hq]
  by_cases hc:q<i∨l.length≤q+i
  ·rw [if_pos hc]
  ·rw [if_neg hc,show l.length-1-q=q by omega]
 ·rw [List.getElem?_eq_none (by omega),List.getElem?_eq_none (by simp;omega)]
end
theorem oE:(Tryz.prog.info? 67).bind (·.zero)=some (.agg #[.slice none 0 0,.bool false,.slice none 0 0]):=by kernel_rfl
theorem sP(a0:Option Addr)(l0 c0:Nat):Tryz.prog.built 67 [(0,.slice a0 l0 c0)]=some #[.slice a0 l0 c0,.bool false,.slice none 0 0]:=by kernel_rfl
theorem rJ(a0:Option Addr)(l0 c0:Nat)(b1:Bool)(a2:Option Addr)(l2 c2:Nat):Tryz.prog.built 67 [(0,.slice a0 l0 c0),(1,.bool b1),(2,.slice a2 l2 c2)]=some #[.slice a0 l0 c0,.bool b1,.slice a2 l2 c2]:=by kernel_rfl
set_option maxRecDepth 100000 in
theorem equalM_spec(p q:PolV)(hl:p.list.length≤140737488355328):dM Tryz.prog 209 [.slice p.addr p.list.length p.cap,.slice q.addr q.list.length q.cap] [] [lC.sl (.slice p.addr p.list.length p.cap) p.list,lC.sl (.slice q.addr q.list.length q.cap) q.list] (fun(_:Unit)=> .bool (decide (p.list=q.list))) (fun _=>[]) (fun _=>[]):=by
 have hT:=fC;refine cQ Tryz.func209 rfl Tryz.ntmps209 rfl ?_;intro β hM;refine sr<|sp hT ?_;refine nn<|bB<|sr<|sp4 hT ?_;refine sp hT ?_;refine nn<|bK rfl (fun hc10=>?_) (fun hc10=>?_)
 ·have hc10:=bne_iff_ne.1 hc10;refine sr<|sp hT ?_;refine nn<|bF<|bA ?_;exact bS () rfl (bE rfl) .nil trivial (eqF_of (fun e=>by have:=congrArg List.length e;omega))
 have hc10:=bne_eq_false_iff_eq.1 hc10;refine bM<|bC<|bB<|sr<|sp3 hT ?_;refine nn<|bU<|dC (ι:=Nat) [(0,_),(1,_),(12,_)] ⟨rfl,rfl,rfl,trivial⟩ (fun i=>[(13,.int .i64 (i:Nat))]) (fun _=>[]) (fun i=>[Fact.pure (i≤p.list.length∧p.list.take i=q.list.take i)]) (fun i=>p.list.length-i) 0 ⟨rfl,trivial⟩ .nil ⟨Has.pure (⟨by omega,rfl⟩),trivial⟩ ?_;rintro i;refine bP (Has.of mT0) fun hinv4=>?_;refine sr<|sp hT ?_;refine nn<|bB<|bK rfl (fun hc14=>?_) (fun hc14=>?_)
 ·have hc14:=of_decide_eq_true hc14;refine bM<|bC<|bB<|bU<|sr<|sp2 hT ?_;refine nn<|bB<|dD _ _ [(true,0),(true,1),(true,2),(true,3),(true,4),(true,5),(true,6),(true,7),(true,8)] dG (by decide+kernel) .nil bI.self ?_;refine puM hT ?_;refine puM hT ?_
  obtain⟨x1,hx2⟩: ∃x',p.list[i]?=some x':=⟨_,List.getElem?_eq_getElem (by omega)⟩
  refine stM rfl (bV hT (k:=i) (bL (Has.of mT1)) rfl rfl rfl rfl rfl rfl rfl (by omega)) ?_;refine stM rfl (fA hT (cP.knows (bL (Has.of mT1)) (k:=i) (x:=x1) hx2 0) rfl rfl rfl rfl rfl) ?_;refine puM hT ?_;refine puM hT ?_
  obtain⟨x3,hx4⟩: ∃x',q.list[i]?=some x':=⟨_,List.getElem?_eq_getElem (by omega)⟩
  refine stM rfl (bV hT (k:=i) (bL (Has.of mT2)) rfl rfl rfl rfl rfl rfl rfl (by omega)) ?_;refine stM rfl (fA hT (cP.knows (bL (Has.of mT2)) (k:=i) (x:=x3) hx4 0) rfl rfl rfl rfl rfl) ?_;refine stM rfl (sti_neq_mono x1 x3 rfl rfl rfl) ?_;refine cS<|bC<|bK rfl (fun hc24=>?_) (fun hc24=>?_)
  ·have hc24:=fT hc24;refine sr<|sp hT ?_;refine nn<|bF<|bG<|bA<|bA<|bG<|bA ?_;exact bS () rfl (bE rfl) .nil trivial (eqF_of (not_take hx2 hx4 (mono_t ‹_›)))
  have hc24:=fM hc24;refine bM<|bZ<|bC<|bD<|sp hT ?_;refine bT (z':=(((i+1):Nat):Int)) (cO (by omega) (by omega)) ?_;refine sp hT ?_;refine nn ?_;exact cL (i+1) (by omega) ⟨rfl,trivial⟩ ⟨rfl,rfl,rfl,trivial⟩ .nil ⟨Has.pure (⟨by omega,bLm hinv4.2 hx2 hx4 (mono_f ‹_›)⟩),trivial⟩ (bI.drop 1)
 have hc14:=Int.not_lt.1 (of_decide_eq_false hc14);refine cY<|cJ<|cJ<|cZ<|bC<|sr<|sp hT ?_;refine nn<|bF ?_;exact bS () rfl (bE rfl) .nil trivial (eqT_of (take_all hinv4.2 (by omega) (by omega)))
set_option maxRecDepth 100000 in
theorem same1_spec(p q:PolV)(hl:p.list.length≤140737488355328):dM Tryz.prog 208 [.slice p.addr p.list.length p.cap,.slice q.addr q.list.length q.cap] [] [lC.sl (.slice p.addr p.list.length p.cap) p.list,lC.sl (.slice q.addr q.list.length q.cap) q.list] (fun(_:Unit)=> .bool (decide (p.list=q.list))) (fun _=>[]) (fun _=>[]):=by
 have hT:=fC;refine cQ Tryz.func208 rfl Tryz.ntmps208 rfl ?_;intro β hM;refine sr<|sp hT ?_;refine nn<|sr<|sp2 hT ?_;refine bQ Tryz.func209 (equalM_spec p q hl) rfl rfl .nil ⟨Has.of mT0,Has.of mT1,trivial⟩ fun _=>?_;refine sp hT ?_;refine nn<|bF ?_;exact bS () rfl (bE rfl) .nil trivial (rfl)
set_option maxRecDepth 100000 in
theorem equalF_spec(A B:Option Addr)(ca cb:Nat)(a b:List PolV)(hl:a.length≤140737488355328):dM Tryz.prog 207 [.slice A a.length ca,.slice B b.length cb,.func (.func 208) #[] #[]] [] [cI.sl (.slice A a.length ca) a,cW a,cI.sl (.slice B b.length cb) b,cW b] (fun(_:Unit)=> .bool (decide (cD a=cD b))) (fun _=>[]) (fun _=>[]):=by
 have hT:=fC;refine cQ Tryz.func207 rfl Tryz.ntmps207 rfl ?_;intro β hM;refine sr<|sp hT ?_;refine nn<|bB<|sr<|sp4 hT ?_;refine sp hT ?_;refine nn<|bK rfl (fun hc14=>?_) (fun hc14=>?_)
 ·have hc14:=bne_iff_ne.1 hc14;refine sr<|sp hT ?_;refine nn<|bF<|bA ?_;exact bS () rfl (bE rfl) .nil trivial (eqF_of (fun e=>by have:=congrArg List.length e;rw [bX,bX] at this;omega))
 have hc14:=bne_eq_false_iff_eq.1 hc14;refine bM<|bC<|bB<|sr<|sp3 hT ?_;refine nn<|bU<|dC (ι:=Nat) [(1,_),(2,_),(15,_),(16,_)] ⟨rfl,rfl,rfl,rfl,trivial⟩ (fun i=>[(17,.int .i64 (i:Nat))]) (fun _=>[]) (fun i=>[Fact.pure (i≤a.length∧(cD a).take i=(cD b).take i)]) (fun i=>a.length-i) 0 ⟨rfl,trivial⟩ .nil ⟨Has.pure (⟨by omega,rfl⟩),trivial⟩ ?_;rintro i;refine bP (Has.of mT0) fun hinv4=>?_;refine sr<|sp hT ?_;refine nn<|bB<|bK rfl (fun hc18=>?_) (fun hc18=>?_)
 ·have hc18:=of_decide_eq_true hc18;refine bM<|bC<|bB<|bU<|sr<|sp hT ?_
  obtain⟨x1,hx2⟩: ∃x',a[i]?=some x':=⟨_,List.getElem?_eq_getElem (by omega)⟩
  refine ss (bV hT (k:=i) (bL (Has.of mT1)) rfl rfl rfl rfl rfl rfl rfl (by omega)) ?_;refine ss (cE hT (cP.knows (bL (Has.of mT1)) (k:=i) (x:=x1) hx2 0) rfl rfl rfl rfl rfl) ?_;refine sp2 hT ?_;refine nn<|sr<|sp2 hT ?_
  obtain⟨x3,hx4⟩: ∃x',b[i]?=some x':=⟨_,List.getElem?_eq_getElem (by omega)⟩
  refine ss (bV hT (k:=i) (bL (Has.of mT3)) rfl rfl rfl rfl rfl rfl rfl (by omega)) ?_;refine ss (cE hT (cP.knows (bL (Has.of mT3)) (k:=i) (x:=x3) hx4 0) rfl rfl rfl rfl rfl) ?_;refine sp hT ?_;refine nn<|sr<|sp3 hT ?_;refine bP (dO (Has.each (Has.of mT2) (List.mem_of_getElem? hx2))) fun hxl=>?_;refine gF (cR Tryz.func208 rfl rfl) (same1_spec x1 x3 hxl) rfl rfl rfl rfl rfl rfl rfl .nil ⟨vM (Has.each (Has.of mT2) (List.mem_of_getElem? hx2)),vM (Has.each (Has.of mT4) (List.mem_of_getElem? hx4)),trivial⟩ fun _=>?_;refine sp hT ?_;refine nn<|bK rfl (fun hc30=>?_) (fun hc30=>?_)
  ·have hc30:=fT hc30;refine sr<|sp hT ?_;refine nn<|bF<|bG<|bA<|bA<|bG<|bA ?_;exact bS () rfl (bE rfl) .nil trivial (eqF_of (not_take (iO hx2) (iO hx4) (of_decide_eq_false (by simpa using (by assumption:(!decide _)=true)))))
  have hc30:=fM hc30;refine bM<|bZ<|bC<|bD<|sp hT ?_;refine bT (z':=(((i+1):Nat):Int)) (cO (by omega) (by omega)) ?_;refine sp hT ?_;refine nn ?_;exact cL (i+1) (by omega) ⟨rfl,trivial⟩ ⟨rfl,rfl,rfl,rfl,trivial⟩ .nil ⟨Has.pure (⟨by omega,bLm hinv4.2 (iO hx2) (iO hx4) (of_decide_eq_true (by simpa using (by assumption:(!decide _)=false)))⟩),trivial⟩ (bI.drop 1)
 have hc18:=Int.not_lt.1 (of_decide_eq_false hc18);refine cY<|cJ<|cJ<|cZ<|bC<|sr<|sp hT ?_;refine nn<|bF ?_;exact bS () rfl (bE rfl) .nil trivial (eqT_of (take_all hinv4.2 (by rw [bX];omega) (by rw [bX];omega)))
set_option maxRecDepth 100000 in
theorem qZ(A B:Option Addr)(ca cb:Nat)(a b:List PolV)(hl:a.length≤140737488355328):dM Tryz.prog 148 [.slice A a.length ca,.slice B b.length cb] [] [cI.sl (.slice A a.length ca) a,cW a,cI.sl (.slice B b.length cb) b,cW b] (fun(_:Unit)=> .bool (decide (cD a=cD b))) (fun _=>[]) (fun _=>[]):=by
 have hT:=fC;refine cQ Tryz.func148 rfl Tryz.ntmps148 rfl ?_;intro β hM;refine sr<|sp hT ?_;refine nn<|sr<|sp2 hT ?_;refine bQ Tryz.func207 (equalF_spec A B ca cb a b hl) rfl rfl .nil ⟨Has.of mT0,Has.of mT1,Has.of mT2,Has.of mT3,trivial⟩ fun _=>?_;refine sp hT ?_;refine nn<|bF ?_;exact bS () rfl (bE rfl) .nil trivial (rfl)
set_option maxRecDepth 100000 in
theorem vY(A:Option Addr)(c:Nat)(l:List PolV)(hl:l.length≤5864062014805):dM Tryz.prog 202 [.slice A l.length c] [] [cI.sl (.slice A l.length c) l] (fun(x:Option Addr×Nat)=> .slice x.1 l.length x.2) (fun(x:Option Addr×Nat)=>[cI.row (.slice x.1 l.length x.2) 71 l]) (fun _=>[]):=by
 have hT:=fC;refine cQ Tryz.func202 rfl Tryz.ntmps202 rfl ?_;intro β hM;refine sr<|sp hT ?_;refine nn<|bB<|sr<|sp hT ?_;refine ss (bMb Tryz.underlying65 rfl rfl) ?_;refine nn<|bK rfl (fun hc4=>?_) (fun hc4=>?_)
 ·refine bB<|bH (Fact.pure (A.isNone=true→l=[])) (bLv (Has.of mT0)) ?_;refine bP (Has.of mT0) fun hnil=>?_;have hl0:=hnil ‹_›;subst hl0;refine dS (t:=71) cI ?_;refine bD<|sp hT ?_;refine nn<|bF<|bA ?_;exact bS (_,_) rfl (bE rfl) (.cons .head .nil) trivial rfl
 refine bM<|bC<|sr<|at_none_pols rfl rfl rfl rfl fun b1=>?_;refine sp hT ?_;refine gE .head (bL (Has.of mT0)) rfl rfl rfl rfl rfl rfl rfl (by simp;omega) fun A2 c3=>?_;rw [List.nil_append];refine sp hT ?_;refine nn<|bF ?_;exact bS (_,_) rfl (bE rfl) (.cons .head .nil) trivial rfl
set_option maxRecDepth 100000 in
theorem cloneM_spec(A:Option Addr)(c:Nat)(l:List Mono)(hl:l.length≤8796093022208):dM Tryz.prog 88 [.slice A l.length c] [] [lC.sl (.slice A l.length c) l] (fun(x:Option Addr×Nat)=> .slice x.1 l.length x.2) (fun(x:Option Addr×Nat)=>[lC.row (.slice x.1 l.length x.2) 74 l]) (fun _=>[]):=by
 have hT:=fC;refine cQ Tryz.func88 rfl Tryz.ntmps88 rfl ?_;intro β hM;refine sr<|sp hT ?_;refine nn<|bB<|sr<|sp hT ?_;refine ss (bMb Tryz.underlying71 rfl rfl) ?_;refine nn<|bK rfl (fun hc4=>?_) (fun hc4=>?_)
 ·refine bB<|bH (Fact.pure (A.isNone=true→l=[])) (bLv (Has.of mT0)) ?_;refine bP (Has.of mT0) fun hnil=>?_;have hl0:=hnil ‹_›;subst hl0;refine dS (t:=74) lC ?_;refine bD<|sp hT ?_;refine nn<|bF<|bA ?_;exact bS (_,_) rfl (bE rfl) (.cons .head .nil) trivial rfl
 refine bM<|bC<|sr<|at_none_mono rfl rfl rfl rfl fun b1=>?_;refine sp hT ?_;refine at_app_mono .head (bL (Has.of mT0)) rfl rfl rfl rfl rfl rfl rfl (by simp;omega) fun A2 c3=>?_;rw [List.nil_append];refine sp hT ?_;refine nn<|bF ?_;exact bS (_,_) rfl (bE rfl) (.cons .head .nil) trivial rfl
set_option maxRecDepth 100000 in
theorem bJu(A:Option Addr)(c:Nat)(l:List PolV)(hl:l.length≤140737488355328):dM Tryz.prog 203 [.slice A l.length c] [cI.row (.slice A l.length c) 71 l] [] (fun(_:Unit)=> .tuple #[]) (fun(_:Unit)=>[cI.row (.slice A l.length c) 71 l.reverse]) (fun _=>[]):=by
 have hT:=fC;refine cQ Tryz.func203 rfl Tryz.ntmps203 rfl ?_;intro β hM;refine sr<|sp3 hT ?_;refine bT (z':=(l.length:Int)-1-((0:Nat):Int)) (wrapTo (by omega) (by omega) (by omega)) ?_;refine sp2 hT ?_;refine nn<|bU<|dC (ι:=Nat×List PolV) [(0,_)] ⟨rfl,trivial⟩ (fun⟨i,cur⟩=>[(2,.int .i64 (i:Nat)),(3,.int .i64 ((l.length:Int)-1-(i:Nat)))]) (fun⟨i,cur⟩=>[cI.row (.slice A l.length c) 71 cur]) (fun⟨i,cur⟩=>[Fact.pure (i≤l.length∧bHj l cur i)]) (fun⟨i,cur⟩=>l.length-i) (0,l) ⟨rfl,rfl,trivial⟩ (.cons .head .nil) ⟨Has.pure (⟨by omega,revG_start l⟩),trivial⟩ ?_;rintro⟨i,cur⟩;dsimp only;refine bP (Has.of mT0) fun hinv1=>?_;refine bB<|sr<|sp3 hT ?_;refine nn<|bK rfl (fun hc9=>?_) (fun hc9=>?_)
 ·have hc9:=of_decide_eq_true hc9;refine bM<|bC<|bB<|bU ?_;have hlt:i<l.length-1-i:=by omega
  have hcl:=hinv1.2.1;refine xD .head (by omega) fun g1 hg=>?_;subst hg;have ej:((l.length:Int)-1-(i:Nat))=((l.length-1-i:Nat):Int):=by omega
  rw [ej];refine qH _ _ (.fl 0 (.fl 1 (.fl 2 (.fl 3 (.fl 4 (.fl 5 (.fl 6 (.fl 8 (.fl 9 (.fl 10 (.two 7 11 (.op 11 (.fl 12 (.op 13 (.fl 14 (.op 15 .nil))))) (.op 7 (.fl 12 (.op 13 (.fl 14 (.op 15 .nil)))))))))))))))) dG (by decide+kernel) .nil bI.self ?_;refine pvT hT ?_;refine pvT hT ?_;refine pvT hT ?_;refine pvT hT ?_;refine pvT hT ?_;refine pvT hT ?_
  obtain⟨x2,hx3⟩: ∃x',cur[(l.length-1-i)]?=some x':=⟨_,List.getElem?_eq_getElem (by first | omega | (simp only [List.length_set];omega))⟩
  refine sqT rfl (iE hT (k:=(l.length-1-i)) rfl rfl rfl rfl rfl rfl (by first | omega | (simp only [List.length_set];omega))) ?_;refine pvT hT ?_;refine pvT hT ?_
  obtain⟨x4,hx5⟩: ∃x',cur[i]?=some x':=⟨_,List.getElem?_eq_getElem (by first | omega | (simp only [List.length_set];omega))⟩
  refine sqT rfl (iE hT (k:=i) rfl rfl rfl rfl rfl rfl (by first | omega | (simp only [List.length_set];omega))) ?_;refine mW (o:=_) (o':=_) rfl rfl ?_ ?_
  ·refine ss (cE hT (cP.knows (cK .head) (k:=(l.length-1-i)) (x:=x2) hx3 0) rfl rfl rfl rfl rfl) ?_;refine dB .nil (bI.drop 0) ?_;refine fB (o:=_) rfl ?_;refine ss (cE hT (cP.knows (cK .head) (k:=i) (x:=x4) hx5 0) rfl rfl rfl rfl rfl) ?_;refine dB .nil (bI.drop 0) ?_;refine sqT rfl (iE hT (k:=i) rfl rfl rfl rfl rfl rfl (by first | omega | (simp only [List.length_set];omega))) ?_;refine fB (o:=_) rfl ?_;refine gH hT (k:=i) (fo:=0) (y':=x2) .head rfl rfl rfl rfl rfl rfl rfl rfl rfl hx5 rfl ?_;refine dB .nil (bI.drop 0) ?_
   obtain⟨x6,hx7⟩: ∃x',(cur.set i x2)[(l.length-1-i)]?=some x':=⟨_,List.getElem?_eq_getElem (by first | omega | (simp only [List.length_set];omega))⟩
   refine sqT rfl (iE hT (k:=(l.length-1-i)) rfl rfl rfl rfl rfl rfl (by first | omega | (simp only [List.length_set];omega))) ?_;refine fB (o:=_) rfl ?_;refine gH hT (k:=(l.length-1-i)) (fo:=0) (y':=x4) .head rfl rfl rfl rfl rfl rfl rfl rfl rfl hx7 rfl ?_;refine dB .nil (bI.drop 0) ?_;refine gX<|bZ<|bC<|bD<|sp2 hT ?_;refine bT (z':=(((i+1):Nat):Int)) (cO (by omega) (by omega)) ?_;refine sp2 hT ?_;refine bT (z':=(l.length:Int)-1-((i+1:Nat):Int)) (wrapTo (by omega) (by omega) (by omega)) ?_;refine sp2 hT ?_;refine nn ?_;exact cL (i+1,_) (by dsimp only;omega) ⟨rfl,rfl,trivial⟩ ⟨rfl,trivial⟩ (.cons .head .nil) ⟨Has.pure (⟨by dsimp only;omega,bLt hinv1.2 hlt ‹_› ‹_›⟩),trivial⟩ (bI.drop 1)
  refine ss (cE hT (cP.knows (cK .head) (k:=i) (x:=x4) hx5 0) rfl rfl rfl rfl rfl) ?_;refine dB .nil (bI.drop 0) ?_;refine fB (o:=_) rfl ?_;refine ss (cE hT (cP.knows (cK .head) (k:=(l.length-1-i)) (x:=x2) hx3 0) rfl rfl rfl rfl rfl) ?_;refine dB .nil (bI.drop 0) ?_;refine sqT rfl (iE hT (k:=i) rfl rfl rfl rfl rfl rfl (by first | omega | (simp only [List.length_set];omega))) ?_;refine fB (o:=_) rfl ?_;refine gH hT (k:=i) (fo:=0) (y':=x2) .head rfl rfl rfl rfl rfl rfl rfl rfl rfl hx5 rfl ?_;refine dB .nil (bI.drop 0) ?_
  obtain⟨x8,hx9⟩: ∃x',(cur.set i x2)[(l.length-1-i)]?=some x':=⟨_,List.getElem?_eq_getElem (by first | omega | (simp only [List.length_set];omega))⟩
  refine sqT rfl (iE hT (k:=(l.length-1-i)) rfl rfl rfl rfl rfl rfl (by first | omega | (simp only [List.length_set];omega))) ?_;refine fB (o:=_) rfl ?_;refine gH hT (k:=(l.length-1-i)) (fo:=0) (y':=x4) .head rfl rfl rfl rfl rfl rfl rfl rfl rfl hx9 rfl ?_;refine dB .nil (bI.drop 0) ?_;refine gX<|bZ<|bC<|bD<|sp2 hT ?_;refine bT (z':=(((i+1):Nat):Int)) (cO (by omega) (by omega)) ?_;refine sp2 hT ?_;refine bT (z':=(l.length:Int)-1-((i+1:Nat):Int)) (wrapTo (by omega) (by omega) (by omega)) ?_;refine sp2 hT ?_;refine nn ?_;exact cL (i+1,_) (by dsimp only;omega) ⟨rfl,rfl,trivial⟩ ⟨rfl,trivial⟩ (.cons .head .nil) ⟨Has.pure (⟨by dsimp only;omega,bLt hinv1.2 hlt ‹_› ‹_›⟩),trivial⟩ (bI.drop 1)
 have hc9:=Int.not_lt.1 (of_decide_eq_false hc9);refine cY<|cJ<|cJ<|cZ ?_;have hr:=revG_end hinv1.2 (by omega);subst hr;exact tP () rfl (.cons .head .nil) trivial (rfl)
set_option maxRecDepth 100000 in
theorem iR(n:Int):dM Tryz.prog 80 [.int .i64 n] [] [] (fun(x:Option Addr×Nat)=> .slice x.1 (numT n).length x.2) (fun _=>[]) (fun(x:Option Addr×Nat)=>[lZ ⟨x.1,x.2,numT n⟩]):=by
 have hT:=fC;refine cQ Tryz.func80 rfl Tryz.ntmps80 rfl ?_;intro β hM;refine sr<|sp hT ?_;refine nn<|sr<|sp hT ?_;refine bQ Tryz.func140 (xZ n) rfl rfl .nil trivial fun⟨A1,c2⟩=>?_;refine sp4 hT ?_;refine sp hT ?_;refine nn<|sr<|sp2 hT ?_;refine nn<|bF ?_;exact bS (A1,c2) rfl (bE rfl) .nil ⟨(Has.of mT0),trivial⟩ rfl
set_option maxRecDepth 100000 in
theorem dW(A:Option Addr)(n c:Nat):dM Tryz.prog 81 [.slice A n c] [] [] (fun(_:Unit)=> .agg #[.slice A n c,.bool false,.slice none 0 0]) (fun _=>[]) (fun _=>[]):=by
 have hT:=fC;refine cQ Tryz.func81 rfl Tryz.ntmps81 rfl ?_;intro β hM;refine sr<|cC rfl rfl rfl rfl oE rfl fun b1=>?_;refine nn<|sr<|sp hT ?_;refine ss (cF rfl rfl (sP _ _ _)) ?_;refine sto hT .head ?_;refine nn<|bF ?_;exact bS () rfl (bN hT (bJ .head) rfl rfl rfl rfl) .nil trivial rfl
set_option maxRecDepth 100000 in
theorem iG(A B:Option Addr)(n m c d:Nat):dM Tryz.prog 79 [.slice A n c,.slice B m d] [] [] (fun(_:Unit)=> .agg #[.slice A n c,.bool true,.slice B m d]) (fun _=>[]) (fun _=>[]):=by
 have hT:=fC;refine cQ Tryz.func79 rfl Tryz.ntmps79 rfl ?_;intro β hM;refine sr<|cC rfl rfl rfl rfl oE rfl fun b1=>?_;refine nn<|sr<|sp2 hT ?_;refine ss (cF rfl rfl (rJ _ _ _ _ _ _ _)) ?_;refine sto hT .head ?_;refine nn<|bF ?_;exact bS () rfl (bN hT (bJ .head) rfl rfl rfl rfl) .nil trivial rfl
abbrev Pol:=List Mono
structure TyP where
 sides:List Pol
 known:Bool
 values:List Pol
 deriving Inhabited,DecidableEq
def TyV.t (x:TyV):TyP:=⟨cD x.sides.list,x.known,cD x.values.list⟩
def iY (nums:List Int):TyP:=
 if nums.any (fun n=>decide ((iC n).2≠0))=true∨4<nums.length then ⟨if 1<nums.length then [numT nums.length] else [],false,[]⟩
 else ⟨if 1<nums.length then [numT nums.length] else [],true,nums.map numT⟩
abbrev pG:=Pol→Pol→Pol×Int
def xN (op:pG):List Pol→List Pol→Option (List Pol)
 | [],_=>some []
 | _::_,[]=>none
 | p::x,q::y=>if (op p q).2≠0 then none else (xN op x y).map ((op p q).1:: ·)
def repT (x:List Pol)(n:Nat):List Pol:=(List.replicate n x).flatten
def uU (a b:TyP):List Pol:=if a.sides=[]∧b.sides≠[] then repT a.values b.values.length else a.values
def sJ (a b:TyP):List Pol:=if b.sides=[]∧a.sides≠[] then repT b.values a.values.length else b.values
def kC (op:Option pG)(a b:TyP):List Pol×Bool:=
 match op with
 | none=>([],false)
 | some op=>if a.known=false∨b.known=false then ([],false) else match xN op (uU a b) (sJ a b) with
  | none=>([],false)
  | some l=>(l,true)
def addO:pG:=fun p q=>cX p q 1
def wK:pG:=fun p q=>cX p q (-1)
def oJ:Pol→List Pol→Option Pol
 | p,[]=>some p
 | p,s::r=>if (pL p s).2≠0 then none else oJ (pL p s).1 r
def gL (f:Int)(a:TyP):TyP×Int:=
 if f=32 then
  if a.sides≠[] then (a,90) else if a.known=false then (a,92) else if lI (a.values.headD [])=false then (a,93) else (⟨[a.values.headD []],false,[]⟩,0)
 else if f=33 then (⟨[numT a.sides.length],true,a.sides⟩,0)
 else if f=34 then match oJ (numT 1) a.sides with
  | none=>(a,95)
  | some p=>(⟨[p],a.known,a.values⟩,0)
 else if f=35 then (if a.sides≠[] then ⟨a.sides,a.known,a.values.reverse⟩ else a,0)
 else if f=36 then (⟨a.sides.reverse,a.known,a.values⟩,0)
 else if f=1 then (a,0)
 else if f=2 then (⟨a.sides,(kC (some wK) ⟨[],true,[[]]⟩ a).2,(kC (some wK) ⟨[],true,[[]]⟩ a).1⟩,0)
 else (⟨a.sides,false,[]⟩,0)
def yF (a b:TyP):TyP×Int:=
 if 1<a.sides.length then (a,90) else if a.known=false then (a,92)
 else if a.values.any (fun v=>!lI v)=true then (a,93)
 else if b.sides.any (fun s=>!gN s 1)=true then (a,94)
 else (⟨a.values,false,[]⟩,0)
def bHz (m:Mono):Mono:=⟨1,m.e0,m.e1,m.e2,m.e3,m.e4,m.e5⟩
def pV (v:Pol):Option Int:=
 match v with
 | []=>some 0
 | [m]=>if gN [bHz m] 1=false then none else some m.n
 | _=>none
def uV (take:Bool)(n:Int)(l:List Pol):List Pol:=
 if take=decide (0≤n) then l.take (if n<0 then n+l.length else n).toNat else l.drop (if n<0 then n+l.length else n).toNat
def lK (take:Bool)(a b:TyP):TyP×Int:=
 if a.sides≠[]∨b.sides=[] then (a,90) else if a.known=false then (a,92)
 else match pV (a.values.headD []) with
  | none=>(a,93)
  | some n=>
   if gN (b.sides.headD []) (max n (-n))=false then (a,93)
   else if take=true then (⟨numT (max n (-n))::b.sides.tail,b.known,if b.known=true then uV take n b.values else b.values⟩,0)
   else if (cX (b.sides.headD []) (numT (max n (-n))) (-1)).2≠0 then (a,95)
   else (⟨(cX (b.sides.headD []) (numT (max n (-n))) (-1)).1::b.sides.tail,b.known,if b.known=true then uV take n b.values else b.values⟩,0)
def dV (l:List Pol):List Pol:=if l=[] then [numT 1] else l
def yQ (a b:TyP):TyP×Int:=
 if (dV a.sides).length≠(dV b.sides).length∨(dV a.sides).tail≠(dV b.sides).tail then (a,91)
 else if (cX ((dV a.sides).headD []) ((dV b.sides).headD []) 1).2≠0 then (a,95)
 else if a.known=true∧b.known=true∧a.values.length+b.values.length≤4 then (⟨(cX ((dV a.sides).headD []) ((dV b.sides).headD []) 1).1::(dV b.sides).tail,true,a.values++b.values⟩,0)
 else (⟨(cX ((dV a.sides).headD []) ((dV b.sides).headD []) 1).1::(dV b.sides).tail,false,[]⟩,0)
def vA (f:Int):Option pG:=if f=1 then some addO else if f=2 then some wK else if f=3 then some pL else none
def pI (f:Int)(a b:TyP):TyP×Int:=
 if f=37 then yF a b else if f=38 then lK true a b else if f=39 then lK false a b else if f=40 then yQ a b
 else if a.sides≠[]∧b.sides≠[]∧a.sides≠b.sides then (⟨a.sides,false,[]⟩,91)
 else (⟨if a.sides=[] then b.sides else a.sides,(kC (vA f) a b).2,(kC (vA f) a b).1⟩,0)
abbrev jL:=List (Bs×TyP)
def zV (k:Bs):jL→Option TyP
 | []=>none
 | p::r=>if k=p.1 then some p.2 else zV k r
def sA:Bs:=[108,105,110,101,32]
def nIn:Bs:=[105,110,32]
def nameT (N:jL)(s:Bs):Option TyP:=match zV (sA++s) N with
 | some t=>some t
 | none=>match zV (nIn++s) N with
  | some t=>some t
  | none=>zV s N
def iI (N:jL)(it:fI)(st:List TyP):TyP×Int:=
 if it.how=1 then (iY it.nums,0)
 else if it.how=2 then (match nameT N it.name with
  | some t=>(t,0)
  | none=>(⟨[],false,[]⟩,83))
 else if it.how=3 then gL it.fn (st.headD default)
 else if it.how=5 then (if (st.headD default).sides=[] then st.headD default else ⟨(st.headD default).sides.take ((st.headD default).sides.length-1),false,[]⟩,0)
 else if it.how=6 then (if (st.headD default).sides=[] then st.headD default else ⟨(st.headD default).sides,false,[]⟩,0)
 else if it.how=4 then pI it.fn (st.tail.headD default) (st.headD default)
 else (⟨(st.tail.headD default).sides++(st.headD default).sides,false,[]⟩,if 4<(st.tail.headD default).sides.length+(st.headD default).sides.length then 90 else 0)
def xX (N:jL):List fI→List TyP→List TyP→Except Flt (List TyP×List TyP)
 | [],st,all=> .ok (st,all)
 | it::r,st,all=>if (iI N it st).2≠0 then .error (it.at_,(iI N it st).2) else xX N r ((iI N it st).1::st.drop (hO it)) (all++[(iI N it st).1])
def bCw (N:jL):List pC→List (List TyP)→List (List TyP)×Flt
 | [],out=>(out,(0,0))
 | l::r,out=>match xX N l.items [] [] with
  | .error f=>([],f)
  | .ok (st,all)=>bCw ((sA++l.name,st.getLastD default)::N) r (out++[all])
def varT (k:Nat):TyP:=⟨[],true,[(tJ k).1]⟩
def bEg:List Bs→Nat→jL→jL
 | [],_,N=>N
 | s::r,k,N=>bEg r (k+1) ((s,varT k)::N)
def sideT'(vars:List Bs)(d:qL):Pol:=if 0≤jF d.name vars 0 then (tJ (jF d.name vars 0)).1 else numT d.n
def inT (vars:List Bs)(x:iS):TyP:=⟨x.sides.map (sideT' vars),false,[]⟩
def insT (vars:List Bs):List iS→jL→jL
 | [],N=>N
 | x::r,N=>insT vars r ((nIn++x.name,inT vars x)::N)
def yB (p:iM):jL:=insT (varsP p) p.inputs (bEg (varsP p) 0 [])
def jY (p:iM):List (List TyP)×Flt:=
 if (fH p).2=false then ([],(0,50))
 else match p.inputs.find? (fewB (varsP p)) with
  | some x=>([],(x.at_,80))
  | none=>bCw (yB p) p.lines []
def dP (l:Sl PolV):Fact:=((cI.sl (.slice l.addr l.list.length l.cap) l.list).and (cW l.list)).and (Fact.pure (l.list.length≤l.cap))
def tyF (x:TyV):Fact:=(dP x.sides).and (dP x.values)
section
variable {F : List Fact} {l : Sl PolV} {x : TyV} {p : PolV} {xs : List PolV}
theorem dJ(h:Has F (dP l)):Has F (cI.sl (.slice l.addr l.list.length l.cap) l.list):=h.left.left
theorem dN(h:Has F (dP l)):Has F (cW l.list):=h.left.right
theorem dT(h:Has F (dP l)):Has F (Fact.pure (l.list.length≤l.cap)):=h.right
theorem dA{A:Option Addr}{c:Nat}(h:Has F (cI.sl (.slice A xs.length c) xs))(k:Has F (cW xs))(hc:xs.length≤c):Has F (dP ⟨A,c,xs⟩):=(h.and k).and (Has.pure hc)
theorem dF:Has F (dP ⟨none,0,[]⟩):=dA rT Has.each_nil (Nat.le_refl _)
theorem iL(h:Has F (lZ p)):Has F (cW [p]):=Has.each_cons h Has.each_nil
theorem cU(h:Has F (dP x.sides))(k:Has F (dP x.values)):Has F (tyF x):=h.and k
theorem lT(h:Has F (tyF x)):Has F (dP x.sides):=h.left
theorem lO(h:Has F (tyF x)):Has F (dP x.values):=h.right
theorem polsF_rev(h:Has F (cW xs)):Has F (cW xs.reverse):=fun S w k p hp=>h S w k p (List.mem_reverse.1 hp)
theorem sl_rev{A:Option Addr}{c:Nat}(h:Has F (cI.sl (.slice A xs.length c) xs.reverse)):Has F (cI.sl (.slice A xs.reverse.length c) xs.reverse):=by rw [List.length_reverse];exact h
end
structure WfT (t:TyP):Prop where
 len:t.sides.length≤4
 sr: ∀s∈t.sides,dR s=true
 vr: ∀v∈t.values,dR v=true
 kn:t.known=true→t.values.length≤4∧(t.sides=[]∧t.values.length=1∨t.sides=[numT t.values.length])
 un:t.known=false→t.values=[]
def tyC (x:TyV):Value:= .agg #[.slice x.sides.addr x.sides.list.length x.sides.cap,.bool x.known,.slice x.values.addr x.values.list.length x.values.cap]
def bEh (nums:List Int)(l:List PolV)(i:Nat):Prop:=cD l=(nums.take i).map numT∧(∀n∈nums.take i,(iC n).2=0)∧(0<i→nums.length≤4)
theorem bKz(nums:List Int):bEh nums [] 0:=⟨rfl,fun n hn=>by simp at hn,fun h=>absurd h (by decide)⟩
section
variable {nums : List Int} {l : List PolV} {i : Nat} {n : Int} {p : PolV}
theorem bEh.len(h:bEh nums l i)(hi:i≤nums.length):l.length=i:=by
 have:=congrArg List.length h.1;rw [bX,List.length_map,List.length_take] at this;omega
theorem lit_step(h:bEh nums l i)(hn:nums[i]?=some n)(hp:p.list=numT n)(h0:(iC n).2=0)(h4:nums.length≤4):bEh nums (l++[p]) (i+1):=by
 obtain⟨hi,e⟩:=List.getElem?_eq_some_iff.1 hn;obtain⟨a,b,_⟩:=h;refine⟨?_,fun m hm=>?_,fun _=>h4⟩
 ·rw [List.take_succ_eq_append_getElem hi,e,List.map_append,←a];unfold cD;rw [List.map_append,List.map_singleton,List.map_singleton,hp]
 ·rw [List.take_succ_eq_append_getElem hi,e] at hm
  rcases List.mem_append.1 hm with hm | hm
  ·exact b m hm
  ·rw [List.mem_singleton.1 hm];exact h0
theorem bFm(hn:nums[i]?=some n)(h:(iC n).2≠0∨4<nums.length):iY nums=⟨if 1<nums.length then [numT nums.length] else [],false,[]⟩:=by
 unfold iY;rw [if_pos]
 rcases h with h | h
 ·refine .inl (List.any_eq_true.2 ⟨n,List.mem_of_getElem? hn,?_⟩)
  simpa using h
 ·exact .inr h
theorem lit_end(h:bEh nums l i)(hi:nums.length≤i)(hl:i≤nums.length):iY nums=⟨if 1<nums.length then [numT nums.length] else [],true,cD l⟩:=by
 obtain⟨a,b,c⟩:=h;rw [List.take_of_length_le hi] at a b;unfold iY;rw [if_neg,a];rintro(k | k)
 ·obtain⟨n,hn,k⟩:=List.any_eq_true.1 k;have:=b n hn;simp [this] at k
 ·have:=c (by omega);omega
end
set_option maxRecDepth 100000 in
theorem bIh(l:Sl PolV)(hl:l.list.length≤5864062014805):dM Tryz.prog 142 [.slice l.addr l.list.length l.cap] [] [dP l] (fun(x:Option Addr×Nat)=> .slice x.1 l.list.reverse.length x.2) (fun _=>[]) (fun(x:Option Addr×Nat)=>[dP ⟨x.1,x.2,l.list.reverse⟩]):=by
 have hT:=fC;refine cQ Tryz.func142 rfl Tryz.ntmps142 rfl ?_;intro β hM;refine sr<|sp hT ?_;refine nn<|sr<|sp hT ?_;refine bQ Tryz.func202 (vY l.addr l.cap l.list hl) rfl rfl .nil ⟨dJ (Has.of mT0),trivial⟩ fun⟨A1,c2⟩=>?_;refine sp hT ?_;refine nn<|sr<|sp hT ?_;refine bQ Tryz.func203 (bJu A1 c2 l.list (by omega)) rfl rfl (.cons .head .nil) trivial fun _=>?_;refine nn<|sr<|sp2 hT ?_;refine nn<|bF<|hQ .head fun hcp=>?_;refine cT .head ?_;exact bS (A1,c2) rfl (bE rfl) .nil ⟨dA (sl_rev (Has.of mT0)) (polsF_rev (dN (Has.of mT1))) (by simpa using hcp),trivial⟩ (by rw [List.length_reverse])
set_option maxRecDepth 100000 in
theorem bJv(A:Option Addr)(c:Nat)(nums:List Int)(hl:nums.length≤1000000):dM Tryz.prog 82 [.slice A nums.length c] [] [mR.sl (.slice A nums.length c) nums] (fun(x:TyV)=>tyC x) (fun _=>[]) (fun(x:TyV)=>[tyF x,Fact.pure (x.t=iY nums)]):=by
 have hT:=fC;refine cQ Tryz.func82 rfl Tryz.ntmps82 rfl ?_;intro β hM;refine sr<|cC rfl rfl rfl rfl oE rfl fun b1=>?_;refine nn<|sr<|sp hT ?_;refine nn<|bB<|sr<|sp3 hT ?_;refine nn<|bK rfl (fun hc11=>?_) (fun hc11=>?_)
 ·have hc11:=of_decide_eq_true hc11;refine bD<|sp2 hT ?_;refine bQ Tryz.func80 (iR (((nums.length:Nat):Int))) rfl rfl .nil trivial fun⟨A2,c3⟩=>?_;refine fE (m:=⟨A2,c3,numT (((nums.length:Nat):Int))⟩) rfl rfl rfl rfl rfl fun b4=>?_;refine fD (E:=cI) (xs:=[(⟨A2,c3,numT (((nums.length:Nat):Int))⟩:PolV)]) .head (by simp [maxLen]) ?_;refine cT .head ?_;refine bH (cW [(⟨A2,c3,numT (((nums.length:Nat):Int))⟩:PolV)]) (iL (Has.of mT1)) ?_;refine sp hT ?_;refine nn<|sr<|sp hT ?_;refine bQ Tryz.func79 (iG (some ⟨b4,0,none⟩) none ([(⟨A2,c3,numT (((nums.length:Nat):Int))⟩:PolV)].length) (0) 1 0) rfl rfl .nil trivial fun _=>?_;refine cC rfl rfl rfl rfl oE rfl fun b5=>?_;refine sto hT .head ?_;refine nn<|bB<|sr<|sp3 hT ?_;refine nn<|bU<|dS (t:=71) cI ?_;refine bH (cW []) (Has.each_nil) ?_;refine dC (ι:=Nat×List PolV×Option Addr×Nat) [(0,_),(2,_),(3,_),(4,_),(18,_),(19,_)] ⟨rfl,rfl,rfl,rfl,rfl,rfl,trivial⟩ (fun⟨i,vs,V,cv⟩=>[(20,.int .i64 (i:Nat))]) (fun⟨i,vs,V,cv⟩=>[.obj b5 (.cells [.slice (some ⟨b4,0,none⟩) ([(⟨A2,c3,numT (((nums.length:Nat):Int))⟩:PolV)].length) 1,.bool true,.slice V vs.length cv].toArray 67),cI.row (.slice V vs.length cv) 71 vs]) (fun⟨i,vs,V,cv⟩=>[Fact.pure (i≤nums.length∧bEh nums vs i),cW vs]) (fun⟨i,vs,V,cv⟩=>nums.length-i) (0,[],none,0) ⟨rfl,trivial⟩ (.cons kT1 (.cons .head .nil)) ⟨Has.pure (⟨by omega,bKz nums⟩),Has.of mT0,trivial⟩ ?_;rintro⟨i,vs,V,cv⟩;dsimp only;refine bP (Has.of mT0) fun hinv6=>?_;refine sr<|sp hT ?_;refine nn<|bB<|bK rfl (fun hc21=>?_) (fun hc21=>?_)
  ·have hc21:=of_decide_eq_true hc21;refine bM<|bC<|bB<|bU<|sr ?_
   obtain⟨x6,hx7⟩: ∃x',nums[i]?=some x':=⟨_,List.getElem?_eq_getElem (by omega)⟩
   refine ss (bV hT (k:=i) (bL (Has.of mT6)) rfl rfl rfl rfl rfl rfl rfl (by omega)) ?_;refine ss (cE hT (cP.knows (bL (Has.of mT6)) (k:=i) (x:=x6) hx7 0) rfl rfl rfl rfl rfl) ?_;refine sp hT ?_;refine nn<|sr<|sp hT ?_;refine bQ Tryz.func140 (xZ x6) rfl rfl .nil trivial fun⟨A8,c9⟩=>?_;refine sp4 hT ?_;refine sp hT ?_;refine nn<|bB<|sr<|sp3 hT ?_;refine cB (fun hg31=>?_) (fun hg31=>?_)
   ·have hg31:=bne_iff_ne.1 hg31;refine sk3 ?_;refine sp hT ?_;refine nn<|cH rfl rfl ?_;refine sr<|sp hT ?_;refine bQ Tryz.func81 (dW (some ⟨b4,0,none⟩) ([(⟨A2,c3,numT (((nums.length:Nat):Int))⟩:PolV)].length) 1) rfl rfl .nil trivial fun _=>?_;refine sto hT kT2 ?_;refine nn<|bF<|bA<|bG<|bA<|bA<|bG<|bA ?_;have hr:iY nums=TyV.t ⟨⟨(some ⟨b4,0,none⟩),1,[(⟨A2,c3,numT (((nums.length:Nat):Int))⟩:PolV)]⟩,false,⟨none,0,[]⟩⟩:=(bFm hx7 (by first | exact .inl ‹_› | exact .inr (by omega))).trans (by first | (rw [if_pos (by omega)];rfl) | (rw [if_neg (by omega)];rfl));exact bS ⟨⟨(some ⟨b4,0,none⟩),1,[(⟨A2,c3,numT (((nums.length:Nat):Int))⟩:PolV)]⟩,false,⟨none,0,[]⟩⟩ rfl (bN hT (bJ .head) rfl rfl rfl rfl) .nil ⟨(cU (x:=⟨⟨(some ⟨b4,0,none⟩),1,[(⟨A2,c3,numT (((nums.length:Nat):Int))⟩:PolV)]⟩,false,⟨none,0,[]⟩⟩) (dA (Has.of mT5) (Has.of mT4) (Nat.le_refl 1)) dF),Has.pure hr.symm,trivial⟩ rfl
   have hg31:=bne_eq_false_iff_eq.1 hg31;refine sp4 hT ?_;refine nn<|bK rfl (fun hc35=>?_) (fun hc35=>?_)
   ·have hc35:=of_decide_eq_true hc35;refine sr<|sp hT ?_;refine bQ Tryz.func81 (dW (some ⟨b4,0,none⟩) ([(⟨A2,c3,numT (((nums.length:Nat):Int))⟩:PolV)].length) 1) rfl rfl .nil trivial fun _=>?_;refine sto hT kT2 ?_;refine nn<|bF<|bA<|bG<|bA<|bA<|bG<|bA ?_;have hr:iY nums=TyV.t ⟨⟨(some ⟨b4,0,none⟩),1,[(⟨A2,c3,numT (((nums.length:Nat):Int))⟩:PolV)]⟩,false,⟨none,0,[]⟩⟩:=(bFm hx7 (by first | exact .inl ‹_› | exact .inr (by omega))).trans (by first | (rw [if_pos (by omega)];rfl) | (rw [if_neg (by omega)];rfl));exact bS ⟨⟨(some ⟨b4,0,none⟩),1,[(⟨A2,c3,numT (((nums.length:Nat):Int))⟩:PolV)]⟩,false,⟨none,0,[]⟩⟩ rfl (bN hT (bJ .head) rfl rfl rfl rfl) .nil ⟨(cU (x:=⟨⟨(some ⟨b4,0,none⟩),1,[(⟨A2,c3,numT (((nums.length:Nat):Int))⟩:PolV)]⟩,false,⟨none,0,[]⟩⟩) (dA (Has.of mT5) (Has.of mT4) (Nat.le_refl 1)) dF),Has.pure hr.symm,trivial⟩ rfl
   have hc35:=Int.not_lt.1 (of_decide_eq_false hc35);refine bM<|bC<|bD<|sp hT ?_;refine ss (ldO hT (dH .head)) ?_;refine sp hT ?_;refine fE (m:=(⟨A8,c9,(iC x6).1⟩:PolV)) rfl rfl rfl rfl rfl fun b10=>?_;refine bH (cW (vs++[((⟨A8,c9,(iC x6).1⟩:PolV):PolV)])) (Has.each_snoc (Has.of mT2) (Has.of mT0)) ?_;have hvl:=hinv6.2.len hinv6.1;refine gE kT2 (dE .head rfl) rfl rfl rfl rfl rfl rfl rfl (by simp;omega) fun A11 c12=>?_;refine sp hT ?_;refine sto hT kT2 ?_;refine dX<|bZ<|bC<|bD<|sp hT ?_;refine bT (z':=(((i+1):Nat):Int)) (cO (by omega) (by omega)) ?_;refine sp hT ?_;refine nn ?_;exact cL (i+1,vs++[((⟨A8,c9,(iC x6).1⟩:PolV):PolV)],A11,c12) (by dsimp only;omega) ⟨rfl,trivial⟩ ⟨rfl,rfl,rfl,rfl,rfl,rfl,trivial⟩ (.cons .head (.cons .head (.cons kT1 .nil))) ⟨Has.pure (⟨by dsimp only;omega,lit_step hinv6.2 hx7 rfl (by first | assumption | omega) (by omega)⟩),Has.of mT0,trivial⟩ (bI.drop 4)
  have hc21:=Int.not_lt.1 (of_decide_eq_false hc21);refine cY<|cJ<|cJ<|cZ<|bC<|bB<|hQ kT1 fun hcv=>?_;refine cT kT1 ?_;refine bD<|ss (ldN hT (bJ .head)) ?_;refine sto hT kT1 ?_;refine nn<|bF ?_;have hr:iY nums=TyV.t ⟨⟨(some ⟨b4,0,none⟩),1,[(⟨A2,c3,numT (((nums.length:Nat):Int))⟩:PolV)]⟩,true,⟨V,cv,vs⟩⟩:=(lit_end hinv6.2 (by omega) hinv6.1).trans (by first | (rw [if_pos (by omega)];rfl) | (rw [if_neg (by omega)];rfl));exact bS ⟨⟨(some ⟨b4,0,none⟩),1,[(⟨A2,c3,numT (((nums.length:Nat):Int))⟩:PolV)]⟩,true,⟨V,cv,vs⟩⟩ rfl (bN hT (bJ .head) rfl rfl rfl rfl) .nil ⟨(cU (x:=⟨⟨(some ⟨b4,0,none⟩),1,[(⟨A2,c3,numT (((nums.length:Nat):Int))⟩:PolV)]⟩,true,⟨V,cv,vs⟩⟩) (dA (Has.of mT5) (Has.of mT4) (Nat.le_refl 1)) (dA (Has.of mT0) (Has.of mT2) (hcv))),Has.pure hr.symm,trivial⟩ rfl
 have hc11:=Int.not_lt.1 (of_decide_eq_false hc11);refine bM<|bC<|sr<|sp hT ?_;refine bQ Tryz.func79 (iG none none (0) (0) 0 0) rfl rfl .nil trivial fun _=>?_;refine cC rfl rfl rfl rfl oE rfl fun b13=>?_;refine sto hT .head ?_;refine nn<|bB<|sr<|sp3 hT ?_;refine nn<|bU<|dS (t:=71) cI ?_;refine bH (cW []) (Has.each_nil) ?_;refine dC (ι:=Nat×List PolV×Option Addr×Nat) [(0,_),(2,_),(3,_),(4,_),(18,_),(19,_)] ⟨rfl,rfl,rfl,rfl,rfl,rfl,trivial⟩ (fun⟨i,vs,V,cv⟩=>[(20,.int .i64 (i:Nat))]) (fun⟨i,vs,V,cv⟩=>[.obj b13 (.cells [.slice none (0) 0,.bool true,.slice V vs.length cv].toArray 67),cI.row (.slice V vs.length cv) 71 vs]) (fun⟨i,vs,V,cv⟩=>[Fact.pure (i≤nums.length∧bEh nums vs i),cW vs]) (fun⟨i,vs,V,cv⟩=>nums.length-i) (0,[],none,0) ⟨rfl,trivial⟩ (.cons kT1 (.cons .head .nil)) ⟨Has.pure (⟨by omega,bKz nums⟩),Has.of mT0,trivial⟩ ?_;rintro⟨i,vs,V,cv⟩;dsimp only;refine bP (Has.of mT0) fun hinv6=>?_;refine sr<|sp hT ?_;refine nn<|bB<|bK rfl (fun hc21=>?_) (fun hc21=>?_)
 ·have hc21:=of_decide_eq_true hc21;refine bM<|bC<|bB<|bU<|sr ?_
  obtain⟨x14,hx15⟩: ∃x',nums[i]?=some x':=⟨_,List.getElem?_eq_getElem (by omega)⟩
  refine ss (bV hT (k:=i) (bL (Has.of mT3)) rfl rfl rfl rfl rfl rfl rfl (by omega)) ?_;refine ss (cE hT (cP.knows (bL (Has.of mT3)) (k:=i) (x:=x14) hx15 0) rfl rfl rfl rfl rfl) ?_;refine sp hT ?_;refine nn<|sr<|sp hT ?_;refine bQ Tryz.func140 (xZ x14) rfl rfl .nil trivial fun⟨A16,c17⟩=>?_;refine sp4 hT ?_;refine sp hT ?_;refine nn<|bB<|sr<|sp3 hT ?_;refine cB (fun hg31=>?_) (fun hg31=>?_)
  ·have hg31:=bne_iff_ne.1 hg31;refine sk3 ?_;refine sp hT ?_;refine nn<|cH rfl rfl ?_;refine sr<|sp hT ?_;refine bQ Tryz.func81 (dW none (0) 0) rfl rfl .nil trivial fun _=>?_;refine sto hT kT2 ?_;refine nn<|bF<|bA<|bG<|bA<|bA<|bG<|bA ?_;have hr:iY nums=TyV.t ⟨⟨none,0,[]⟩,false,⟨none,0,[]⟩⟩:=(bFm hx15 (by first | exact .inl ‹_› | exact .inr (by omega))).trans (by first | (rw [if_pos (by omega)];rfl) | (rw [if_neg (by omega)];rfl));exact bS ⟨⟨none,0,[]⟩,false,⟨none,0,[]⟩⟩ rfl (bN hT (bJ .head) rfl rfl rfl rfl) .nil ⟨(cU (x:=⟨⟨none,0,[]⟩,false,⟨none,0,[]⟩⟩) dF dF),Has.pure hr.symm,trivial⟩ rfl
  have hg31:=bne_eq_false_iff_eq.1 hg31;refine sp4 hT ?_;refine nn<|bK rfl (fun hc35=>?_) (fun hc35=>?_)
  ·have hc35:=of_decide_eq_true hc35;refine sr<|sp hT ?_;refine bQ Tryz.func81 (dW none (0) 0) rfl rfl .nil trivial fun _=>?_;refine sto hT kT2 ?_;refine nn<|bF<|bA<|bG<|bA<|bA<|bG<|bA ?_;have hr:iY nums=TyV.t ⟨⟨none,0,[]⟩,false,⟨none,0,[]⟩⟩:=(bFm hx15 (by first | exact .inl ‹_› | exact .inr (by omega))).trans (by first | (rw [if_pos (by omega)];rfl) | (rw [if_neg (by omega)];rfl));exact bS ⟨⟨none,0,[]⟩,false,⟨none,0,[]⟩⟩ rfl (bN hT (bJ .head) rfl rfl rfl rfl) .nil ⟨(cU (x:=⟨⟨none,0,[]⟩,false,⟨none,0,[]⟩⟩) dF dF),Has.pure hr.symm,trivial⟩ rfl
  have hc35:=Int.not_lt.1 (of_decide_eq_false hc35);refine bM<|bC<|bD<|sp hT ?_;refine ss (ldO hT (dH .head)) ?_;refine sp hT ?_;refine fE (m:=(⟨A16,c17,(iC x14).1⟩:PolV)) rfl rfl rfl rfl rfl fun b18=>?_;refine bH (cW (vs++[((⟨A16,c17,(iC x14).1⟩:PolV):PolV)])) (Has.each_snoc (Has.of mT2) (Has.of mT0)) ?_;have hvl:=hinv6.2.len hinv6.1;refine gE kT2 (dE .head rfl) rfl rfl rfl rfl rfl rfl rfl (by simp;omega) fun A19 c20=>?_;refine sp hT ?_;refine sto hT kT2 ?_;refine dX<|bZ<|bC<|bD<|sp hT ?_;refine bT (z':=(((i+1):Nat):Int)) (cO (by omega) (by omega)) ?_;refine sp hT ?_;refine nn ?_;exact cL (i+1,vs++[((⟨A16,c17,(iC x14).1⟩:PolV):PolV)],A19,c20) (by dsimp only;omega) ⟨rfl,trivial⟩ ⟨rfl,rfl,rfl,rfl,rfl,rfl,trivial⟩ (.cons .head (.cons .head (.cons kT1 .nil))) ⟨Has.pure (⟨by dsimp only;omega,lit_step hinv6.2 hx15 rfl (by first | assumption | omega) (by omega)⟩),Has.of mT0,trivial⟩ (bI.drop 4)
 have hc21:=Int.not_lt.1 (of_decide_eq_false hc21);refine cY<|cJ<|cJ<|cZ<|bC<|bB<|hQ kT1 fun hcv=>?_;refine cT kT1 ?_;refine bD<|ss (ldN hT (bJ .head)) ?_;refine sto hT kT1 ?_;refine nn<|bF ?_;have hr:iY nums=TyV.t ⟨⟨none,0,[]⟩,true,⟨V,cv,vs⟩⟩:=(lit_end hinv6.2 (by omega) hinv6.1).trans (by first | (rw [if_pos (by omega)];rfl) | (rw [if_neg (by omega)];rfl));exact bS ⟨⟨none,0,[]⟩,true,⟨V,cv,vs⟩⟩ rfl (bN hT (bJ .head) rfl rfl rfl rfl) .nil ⟨(cU (x:=⟨⟨none,0,[]⟩,true,⟨V,cv,vs⟩⟩) dF (dA (Has.of mT0) (Has.of mT2) (hcv))),Has.pure hr.symm,trivial⟩ rfl
end Go.Proofs.YtbgdphbebhjpiaaGreatDoor
