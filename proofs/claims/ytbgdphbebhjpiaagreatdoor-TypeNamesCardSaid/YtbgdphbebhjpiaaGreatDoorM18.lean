/- Texts of one proof, one behind the other: Eval, Grows, PolyS, TysT, SlT, TypP, TypA. -/
import Derived.Test.YtbgdphbebhjpiaaGreatDoorM17
import Derived.Test.YtbgdphbebhjpiaaGreatDoorM10
import Derived.Test.YtbgdphbebhjpiaaGreatDoorM11
namespace Go.Proofs.YtbgdphbebhjpiaaGreatDoor
open Go.RowKit
set_option maxRecDepth 100000
def Ints (w:World)(A:Option Addr)(l:List Int):Prop:=
 ∀(k:Nat) (d:Int),l[k]?=some d→ ∃b o,A=some ⟨b,o,none⟩∧b<w.heap.size∧w.cell? ⟨b,o+k,none⟩=some (.int .i64 d)
theorem Ints.below{w w':World}{A:Option Addr}{l:List Int}(h:Ints w A l)(hb:Below w.heap.size w w'):Ints w' A l:=fun k d hk=>by
 obtain⟨b,o,e,hB,hm⟩:=h k d hk;exact⟨b,o,e,Nat.lt_of_lt_of_le hB hb.size,(hb.cell (p:=⟨b,o+k,none⟩) hB).trans hm⟩
def pV (d:Int):Bool:=decide (0≤d∧d≤2147483648)
def bHh (ds:List Int):Bool:=decide (ds.length≤6)&&ds.all pV
def tF (D:Nat→Int):List Mono→Int→Int→Option Int
 | [],_,sum=>some sum
 | m::l,size,sum=>
  if (gT m D).2=false∨rL-size<(gT m D).1 then none
  else tF D l (size+(gT m D).1) (if m.n<0 then sum-(gT m D).1 else sum+(gT m D).1)
def rS (ds:List Int)(k:Nat):Int:=ds.getD k 0
def tC (p:List Mono)(ds:List Int):Int×Int:=
 if fF p then if bHh ds then match tF (rS ds) p 0 0 with
  | some n=>(n,0)
  | none=>(0,22)
 else (0,23) else (0,20)
def qD (w:World)(b:Nat)(D:Nat→Int):Prop:=b<w.heap.size∧ ∀k,k<6→w.cell? ⟨b,k,none⟩=some (.int .i64 (D k))∧w.frozen? ⟨b,k,none⟩=false
theorem qD.set{w:World}{b:Nat}{D:Nat→Int}(h:qD w b D)(k:Nat)(hk:k<6)(d:Int):qD (w.setCell ⟨b,k,none⟩ (.int .i64 d)) b (fun j=>if j=k then d else D j):=by
 refine⟨by simpa using h.1,fun j hj=>⟨?_,?_⟩⟩
 ·by_cases e:j=k
  ·subst e;dsimp only;rw [if_pos rfl];exact World.cell?_setCell_same w ⟨b,j,none⟩ _ (h.2 j hj).1
  ·dsimp only;rw [if_neg e,World.cell?_setCell_other w _ _ _ (by intro h;injection h with _ h;exact e h.symm)];exact(h.2 j hj).1
 ·rw [World.frozen?_setCell];exact(h.2 j hj).2
theorem take_dim{ds:List Int}{k:Nat}{d:Int}(h:ds[k]?=some d):(fun j=>if j=k then d else rS (ds.take k) j)=rS (ds.take (k+1)):=by
 funext j
 have hk:k<ds.length:=(List.getElem?_eq_some_iff.1 h).1;have hd:ds[k]=d:=(List.getElem?_eq_some_iff.1 h).2;unfold rS;rw [List.take_succ_eq_append_getElem hk,hd];simp only [List.getD_eq_getElem?_getD];have hl:(ds.take k).length=k:=by simp;omega
 by_cases e:j=k
 ·subst e;rw [if_pos rfl,List.getElem?_append_right (by omega),hl];simp
 ·rw [if_neg e]
  by_cases e2:j<k
  ·rw [List.getElem?_append_left (by omega)]
  ·rw [List.getElem?_eq_none (by omega),List.getElem?_eq_none (by simp;omega)]
theorem bDn{d:Int}(hd:0≤d): ∀(e:Nat) (n r:Int),0≤n→bEo d e n=some r→0≤r
 | 0,n,r,hn,h=>by simp [bEo] at h;omega
 | e+1,n,r,hn,h=>by
  unfold bEo at h;split at h
  ·cases h
  ·exact bDn hd e (n*d) r (Int.mul_nonneg hn hd) h
theorem bCy: ∀(l:List (UInt8×Int)) (n r:Int),(∀x∈l,0≤x.2)→0≤n→yJ l n=some r→0≤r
 | [],n,r,_,hn,h=>by simp [yJ] at h;omega
 | x::l,n,r,hl,hn,h=>by
  unfold yJ at h
  cases hp:bEo x.2 x.1.toNat n with
  | none=>rw [hp] at h;cases h
  | some y=>
   rw [hp] at h;exact bCy l y r (fun z hz=>hl z (by simp [hz])) (bDn (hl x (by simp)) _ _ _ hn hp) h
theorem value_nonneg(m:Mono)(D:Nat→Int)(hD: ∀k,0≤D k):0≤(gT m D).1:=by
 unfold gT;split
 ·simp
 ·split
  ·rename_i n hn;refine bCy _ _ _ (fun x hx=>?_) (by omega) hn;simp only [jP,List.mem_cons,List.not_mem_nil,or_false] at hx
   rcases hx with rfl | rfl | rfl | rfl | rfl | rfl<;>exact hD _
  ·simp
theorem rY: ∀{o:Option Mono} {l:List Mono},iU o l=true→ ∀m∈l,sH m=true
 | _,[],_,m,hm=>by simp at hm
 | none,a::l,h,m,hm=>by
  simp only [iU,Bool.and_eq_true] at h
  rcases List.mem_cons.1 hm with rfl | hm
  ·exact h.1
  ·exact rY h.2 m hm
 | some b,a::l,h,m,hm=>by
  simp only [iU,Bool.and_eq_true] at h
  rcases List.mem_cons.1 hm with rfl | hm
  ·exact h.1
  ·exact rY h.2.2 m hm
theorem qD.below{w w':World}{b:Nat}{D:Nat→Int}(h:qD w b D)(hb:Below w.heap.size w w'):qD w' b D:=
 ⟨Nat.lt_of_lt_of_le h.1 hb.size,fun k hk=>⟨(hb.cell (p:=⟨b,k,none⟩) h.1).trans (h.2 k hk).1,(hb.frozen (p:=⟨b,k,none⟩) h.1).trans (h.2 k hk).2⟩⟩
theorem dimAt_ok{ds:List Int}(h:ds.all pV=true): ∀k,0≤rS ds k∧rS ds k≤2147483648:=fun k=>by
 unfold rS;rw [List.getD_eq_getElem?_getD]
 cases hk:ds[k]? with
 | none=>simp
 | some d=>
  have hd:d∈ds:=List.mem_of_getElem? hk;have:=List.all_eq_true.1 h d hd
  simpa [pV] using this
set_option maxRecDepth 100000 in
set_option maxHeartbeats 1000000 in
theorem eval_any(A B:Option Addr)(c d:Nat)(p:List Mono)(ds:List Int)(w:World)(ha:jZ w A p)(hb:Ints w B ds)(hp:p.length≤140737488355328)(hq:ds.length≤140737488355328):
  Calls Tryz.prog 55 #[.slice A p.length c,.slice B ds.length d] w fun e w'=>e= .returned (.tuple #[.int .i64 (tC p ds).1,.int .i64 (tC p ds).2])∧Below w.heap.size w w':=by
 have Ha:=Lib.hid ha;have Hb:=Lib.hid hb;clear ha hb;cases hrp:fF p
 ·have e:tC p ds=(0,20):=by unfold tC;rw [hrp];rfl
  rw [e]
  go_enter Tryz.func55,Tryz.ntmps55
  go_wp2_with (go_at_call 26;refine(right_any A c p _ Ha.out hp).mono ?_;rintro e w1 ⟨rfl,hb1⟩)
  go_ret2
  exact⟨rfl,hb1⟩
 ·go_enter Tryz.func55,Tryz.ntmps55
  go_wp2_with fail
  refine(right_any A c p _ Ha.out hp).mono ?_;rintro e w1 ⟨rfl,hb1⟩;have H1:=Lib.hid hb1;clear hb1
  go_wp2
  have s0:qD (w1.alloc (.cells #[.int .i64 0,.int .i64 0,.int .i64 0,.int .i64 0,.int .i64 0,.int .i64 0] 181)) w1.heap.size (rS (ds.take 0)):=by
   refine⟨by simp,fun k hk=>?_⟩
   rcases k with _ | _ | _ | _ | _ | _ | k
   all_goals first | omega | simp [go_sem,rS]
  have b0:Below w.heap.size w (w1.alloc (.cells #[.int .i64 0,.int .i64 0,.int .i64 0,.int .i64 0,.int .i64 0,.int .i64 0] 181)):=H1.out.alloc H1.out.size _;have hXw:w.heap.size≤w1.heap.size:=H1.out.size;have S0:=Lib.hid s0;have B0:=Lib.hid b0;clear s0 b0 H1;generalize w1.alloc (.cells #[.int .i64 0,.int .i64 0,.int .i64 0,.int .i64 0,.int .i64 0,.int .i64 0] 181)=W0 at S0 B0⊢;generalize w1.heap.size=X at S0 hXw⊢
  go_loopw [20] (fun i wr=> ∃k:Nat,k≤ds.length∧k≤6∧i= .int .i64 k∧qD wr X (rS (ds.take k))∧Hid (ds.all pV=(ds.drop k).all pV)∧Below w.heap.size w wr) (fun i _=>ds.length-(intOf i).toNat)
  case atStart=>exact⟨0,Nat.zero_le _,by omega,rfl,S0.out,rfl,B0.out⟩
  case round=>
   obtain⟨k,hk,hk6,rfl,hsix,hall,hbl⟩:=hrel;have HSix:=Lib.hid hsix;have HBL:=Lib.hid hbl;clear hsix hbl S0 B0
   by_cases hlt:k<ds.length
   ·obtain⟨x,hx⟩: ∃x,ds[k]?=some x:=⟨ds[k],List.getElem?_eq_getElem hlt⟩
    have dm:ds.drop k=x::ds.drop (k+1):=by
     rw [List.drop_eq_getElem_cons hlt];have:=(List.getElem?_eq_some_iff.1 hx).2;rw [this]
    obtain⟨b,o,rfl,hB,c0⟩:=Hb.out.below HBL.out k x hx;have HAll:=Lib.hid (show ds.all pV=(pV x&&(ds.drop (k+1)).all pV) by rw [hall.out,dm,List.all_cons]);have HTk:=Lib.hid (take_dim hx);clear dm hx hall hB
    by_cases h6:k=6
    ·have h61:decide ((6:Int)≤(k:Int))=true:=by simp;omega
     have e:tC p ds=(0,23):=by
      unfold tC;rw [hrp,show bHh ds=false by unfold bHh;rw [decide_eq_false (by omega)];rfl];rfl
     have He:=Lib.hid e;clear e h6
     go_wp2
     go_ret2
     rw [He.out];exact⟨rfl,HBL.out⟩
    ·have h61:decide ((6:Int)≤(k:Int))=false:=by simp;omega
     cases hs:pV x
     ·have e:tC p ds=(0,23):=by
       unfold tC;rw [hrp,show bHh ds=false by unfold bHh;rw [HAll.out,hs];simp];rfl
      have He:=Lib.hid e;clear e h6
      have hs':x<0∨2147483648<x:=by
       have:=of_decide_eq_false hs;omega
      rcases Int.lt_or_le x 0 with hx0 | hx0
      ·have t1:decide (x<0)=true:=by simpa using hx0
       go_wp2
       go_ret2
       rw [He.out];exact⟨rfl,HBL.out⟩
      ·have t1:decide (x<0)=false:=by simpa using hx0
       have t2:decide (2147483648<x)=true:=by simp;omega
       go_wp2
       go_ret2
       rw [He.out];exact⟨rfl,HBL.out⟩
     ·have hs':0≤x∧x≤2147483648:=of_decide_eq_true hs;have t1:decide (x<0)=false:=by simp;omega
      have t2:decide (2147483648<x)=false:=by simp;omega
      obtain⟨hcell,hfro⟩:=HSix.out.2 k (by omega);have HA2:=Lib.hid (show ds.all pV=(ds.drop (k+1)).all pV by rw [HAll.out,hs,Bool.true_and]);have HS2:=Lib.hid (show qD (wr.setCell ⟨X,k,none⟩ (.int .i64 x)) X (rS (ds.take (k+1))) by rw [←HTk.out];exact HSix.out.set k (by omega) x);have HB2:=Lib.hid (show Below w.heap.size w (wr.setCell ⟨X,k,none⟩ (.int .i64 x)) from HBL.out.setCell hXw _);clear HAll HTk HSix HBL hs'
      go_wp2
      go_roundw
      case rel=>exact⟨k+1,by omega,by omega,by go_num,HS2.out,HA2,HB2.out⟩
      case measure=>simp [intOf];omega
   ·have hall1:ds.all pV=true:=by rw [hall.out,List.drop_of_length_le (by omega)];rfl
    have HD:=Lib.hid (dimAt_ok hall1)
    have He:=Lib.hid (show tC p ds=match tF (rS ds) p 0 0 with | some n=>(n,0) | none=>(0,22) by
     unfold tC;rw [hrp,show bHh ds=true by unfold bHh;rw [hall1,decide_eq_true (by omega)];rfl]
     rfl)
    have HS:=Lib.hid (show qD wr X (rS ds) by have:=HSix.out;rw [List.take_of_length_le (by omega)] at this;exact this)
    have HRP:=Lib.hid (show ∀m∈p,sH m=true by
     unfold fF at hrp;simp only [Bool.and_eq_true] at hrp
     exact rY hrp.2)
    clear hall hall1 HSix;generalize rS ds=D at HD He HS⊢
    go_wp2
    go_loopw [41,9,10] (fun i sm sz wi=> ∃(j:Nat) (size sum:Int),j≤p.length∧i= .int .i64 j∧sm= .int .i64 sum∧sz= .int .i64 size∧Hid (0≤size∧size≤rL∧ -size≤sum∧sum≤size)∧Hid (tF D p 0 0=tF D (p.drop j) size sum)∧qD wi X D∧Below w.heap.size w wi) (fun i _ _ _=>p.length-(intOf i).toNat)
    case atStart=>exact⟨0,0,0,Nat.zero_le _,rfl,rfl,rfl,⟨by omega,by unfold rL;omega,by omega,by omega⟩,rfl,HS.out,HBL.out⟩
    case round=>
     obtain⟨j,size,sum,hj,rfl,rfl,rfl,hbd,hev,hsix,hbl⟩:=hrel;have HS2:=Lib.hid hsix;have HB2:=Lib.hid hbl;clear hsix hbl HS HBL
     by_cases hlt2:j<p.length
     ·obtain⟨m,hm,dm⟩:=mC hlt2;obtain⟨b,o,rfl,hB,c0,c1,c2,c3,c4,c5,c6⟩:=Ha.out.below HB2.out j m hm;have hsm:sH m=true:=HRP.out m (List.mem_of_getElem? hm);have hsm':m.n≠0∧m.n≤16777216∧ -16777216≤m.n∧m.deg≤8:=of_decide_eq_true hsm;have HV:=Lib.hid (value_nonneg m D (fun k=>(HD.out k).1))
      have HE:=Lib.hid (show tF D p 0 0=if (gT m D).2=false∨rL-size<(gT m D).1 then none
        else tF D (p.drop (j+1)) (size+(gT m D).1) (if m.n<0 then sum-(gT m D).1 else sum+(gT m D).1) by rw [hev.out,dm,tF])
      have hX:X<wr.heap.size:=HS2.out.1;have x0:=(HS2.out.2 0 (by omega)).1;have x1:=(HS2.out.2 1 (by omega)).1;have x2:=(HS2.out.2 2 (by omega)).1;have x3:=(HS2.out.2 3 (by omega)).1;have x4:=(HS2.out.2 4 (by omega)).1;have x5:=(HS2.out.2 5 (by omega)).1;have Hval:=Lib.hid (fun W=>value_any m D W HD.out ⟨hsm'.2.2.1,hsm'.2.1⟩);have hS3: ∀o,qD (wr.alloc o) X D:=fun o=>HS2.out.below ((Below.refl _ _).alloc (Nat.le_refl _) _);have HS3:=Lib.hid hS3;have HB3:=Lib.hid (show ∀o,Below w.heap.size w (wr.alloc o) from fun o=>HB2.out.alloc HB2.out.size o);clear hm dm hB hsm hsm' hev hS3 HS2 HB2
      go_wp2_with fail
      refine(Hval.out _).mono ?_;rintro e w5 ⟨rfl,hb5⟩;have q0:gD w5 wr.heap.size 0 m:=gD.below (w:=wr.alloc (.cells #[.int .i64 m.n,.int .u8 m.e0.toNat,.int .u8 m.e1.toNat,.int .u8 m.e2.toNat,.int .u8 m.e3.toNat,.int .u8 m.e4.toNat,.int .u8 m.e5.toNat] 74)) (by simp [gD,go_sem]) hb5 (by simp);have HS5:=Lib.hid ((HS3.out _).below hb5);have HB5:=Lib.hid ((HB3.out _).trans (hb5.mono (HB3.out _).size));have n0:=q0.zero.1;clear hb5 q0 c0 c1 c2 c3 c4 c5 c6 x0 x1 x2 x3 x4 x5 hX Hval HS3 HB3;generalize gT m D=v at HV HE⊢;obtain⟨n,ok⟩:=v;simp only at HV HE⊢;cases ok
      ·have e:tC p ds=(0,22):=by rw [He.out,HE.out,if_pos (.inl rfl)]
       have He2:=Lib.hid e;clear e HE
       go_wp2
       go_ret2
       rw [He2.out];exact⟨rfl,HB5.out⟩
      ·obtain⟨g0,g1,g2,g3⟩:=hbd.out;have gn:0≤n:=HV.out;unfold rL at g1
       by_cases hq:rL-size<n
       ·have hq1:decide (4611686018427387904-size<n)=true:=by simpa [rL] using hq
        have e:tC p ds=(0,22):=by rw [He.out,HE.out,if_pos (.inr hq)]
        have He2:=Lib.hid e;clear e HE hq
        go_wp2
        go_ret2
        rw [He2.out];exact⟨rfl,HB5.out⟩
       ·have hq1:decide (4611686018427387904-size<n)=false:=by simpa [rL] using hq
        have hq2:size+n≤4611686018427387904:=by unfold rL at hq;omega
        by_cases hneg:m.n<0
        ·have HE2:=Lib.hid (show tF D p 0 0=tF D (p.drop (j+1)) (size+n) (sum-n) by rw [HE.out,if_neg (by intro h;rcases h with h | h;exact absurd h (by simp);exact hq h),if_pos hneg]);have hneg1:decide (m.n<0)=true:=by simpa using hneg
         clear HE hq
         go_wp2
         go_roundw
         case rel=>exact⟨j+1,size+n,sum-n,by omega,by go_num,by go_num,by go_num,⟨by omega,by unfold rL;omega,by omega,by omega⟩,HE2,HS5.out,HB5.out⟩
         case measure=>simp [intOf];omega
        ·have HE2:=Lib.hid (show tF D p 0 0=tF D (p.drop (j+1)) (size+n) (sum+n) by rw [HE.out,if_neg (by intro h;rcases h with h | h;exact absurd h (by simp);exact hq h),if_neg hneg]);have hneg1:decide (m.n<0)=false:=by simpa using hneg
         clear HE hq
         go_wp2
         go_roundw
         case rel=>exact⟨j+1,size+n,sum+n,by omega,by go_num,by go_num,by go_num,⟨by omega,by unfold rL;omega,by omega,by omega⟩,HE2,HS5.out,HB5.out⟩
         case measure=>simp [intOf];omega
     ·have e:tC p ds=(sum,0):=by rw [He.out,hev.out,List.drop_of_length_le (by omega),tF]
      have He2:=Lib.hid e;clear e hev
      go_wp2
      go_ret2
      rw [He2.out];exact⟨rfl,HB2.out⟩
end Go.Proofs.YtbgdphbebhjpiaaGreatDoor
namespace Go.Proofs.YtbgdphbebhjpiaaGreatDoor
open Go.RowKit
set_option maxRecDepth 100000
def bEw (m:Mono):Bool:=decide (m.n<0)
def lS (p:List Mono):Bool:=fF p&& !(p.any bEw)
def flatE (m:Mono):Bool:=m.sameE ⟨0,0,0,0,0,0,0⟩
def gR (p:List Mono)(n:Int):Bool:=lS p&&(decide (n≤0) || match p.getLast? with
 | none=>false
 | some m=>flatE m&&decide (n≤m.n))
set_option maxHeartbeats 400000 in
theorem neg_any(m:Mono)(w:World):Calls Tryz.prog 51 #[.agg #[.int .i64 m.n,.int .u8 m.e0.toNat,.int .u8 m.e1.toNat,.int .u8 m.e2.toNat,.int .u8 m.e3.toNat,.int .u8 m.e4.toNat,.int .u8 m.e5.toNat]] w fun e w'=>e= .returned (.bool (bEw m))∧Below w.heap.size w w':=by
 go_enter Tryz.func51,Tryz.ntmps51
 go_wp2
 go_ret
 exact⟨rfl,by go_grown⟩
def IdxPost(w:World)(b:Bool)(e:Ending)(w':World):Prop:= ∃i:Int,e= .returned (.int .i64 i)∧decide (0≤i)=b∧Below w.heap.size w w'
set_option maxRecDepth 100000 in
set_option maxHeartbeats 1000000 in
theorem index_any(A:Option Addr)(c:Nat)(xs:List Mono)(w:World)(ha:jZ w A xs)(hx:xs.length≤140737488355328):
  Calls Tryz.prog 95 #[.slice A xs.length c,.func (.func 51) #[] #[]] w (IdxPost w (xs.any bEw)):=by
 have Ha:=Lib.hid ha;clear ha
 go_enter Tryz.func95,Tryz.ntmps95
 go_wp2
 go_loopw [8] (fun i wr=> ∃k:Nat,k≤xs.length∧i= .int .i64 k∧Hid (xs.any bEw=(xs.drop k).any bEw)∧Below w.heap.size w wr) (fun i _=>xs.length-(intOf i).toNat)
 case atStart=>exact⟨0,Nat.zero_le _,rfl,rfl,Below.refl _ _⟩
 case round=>
  obtain⟨k,hk,rfl,hs,hbl⟩:=hrel
  by_cases hlt:k<xs.length
  ·obtain⟨m,hm,dm⟩:=mC hlt;obtain⟨b,o,rfl,hB,c0,c1,c2,c3,c4,c5,c6⟩:=Ha.out.below hbl k m hm;have HS:=Lib.hid (show xs.any bEw=(bEw m || (xs.drop (k+1)).any bEw) by rw [hs.out,dm,List.any_cons]);have HBL:=Lib.hid hbl;clear hs hm dm hB hbl
   go_wp2_with (go_at_call 51;refine(neg_any m _).mono ?_;rintro e w1 ⟨rfl,hb1⟩)
   ·have hng:bEw m=true:=by assumption
    go_ret
    exact⟨k,rfl,by rw [HS.out,hng,Bool.true_or];simp,HBL.out.trans (hb1.mono HBL.out.size)⟩
   ·have hng:bEw m=false:=by assumption
    go_roundw
    case rel=>exact⟨k+1,by omega,by go_num,(by show _=_;rw [HS.out,hng,Bool.false_or]),HBL.out.trans (hb1.mono HBL.out.size)⟩
    case measure=>simp [intOf];omega
  ·have HS:=Lib.hid (show xs.any bEw=false by rw [hs.out,List.drop_of_length_le (by omega)];rfl);clear hs
   go_wp2
   go_ret
   exact⟨-1,rfl,by rw [HS.out];rfl,hbl⟩
set_option maxHeartbeats 400000 in
theorem contains_any(A:Option Addr)(c:Nat)(xs:List Mono)(w:World)(ha:jZ w A xs)(hx:xs.length≤140737488355328):
  Calls Tryz.prog 50 #[.slice A xs.length c,.func (.func 51) #[] #[]] w fun e w'=>e= .returned (.bool (xs.any bEw))∧Below w.heap.size w w':=by
 have Ha:=Lib.hid ha;clear ha
 go_enter Tryz.func50,Tryz.ntmps50
 go_wp2_with fail
 refine(index_any A c xs _ Ha.out hx).mono ?_;rintro e w1 ⟨i,rfl,hi,hb1⟩;have Hi:=Lib.hid hi;clear hi
 go_wp2
 go_ret
 exact⟨iY Hi.out,hb1⟩
set_option maxHeartbeats 400000 in
theorem tA(A:Option Addr)(c:Nat)(xs:List Mono)(w:World)(ha:jZ w A xs)(hx:xs.length≤140737488355328):
  Calls Tryz.prog 25 #[.slice A xs.length c] w fun e w'=>e= .returned (.bool (lS xs))∧Below w.heap.size w w':=by
 have Ha:=Lib.hid ha;clear ha;cases hr:fF xs
 ·go_enter Tryz.func25,Tryz.ntmps25
  go_wp2_with fail
  refine(right_any A c xs _ Ha.out hx).mono ?_;rintro e w1 ⟨rfl,hb1⟩
  go_wp2
  go_ret
  exact⟨iY (by unfold lS;rw [hr];rfl),hb1⟩
 ·go_enter Tryz.func25,Tryz.ntmps25
  go_wp2_with fail
  refine(right_any A c xs _ Ha.out hx).mono ?_;rintro e w1 ⟨rfl,hb1⟩;have H1:=Lib.hid hb1;clear hb1
  go_wp2_with fail
  refine(contains_any A c xs _ (Ha.out.below H1.out) hx).mono ?_;rintro e w2 ⟨rfl,hb2⟩;have H2:=Lib.hid (H1.out.trans (hb2.mono H1.out.size));clear hb2
  go_wp2
  go_ret
  exact⟨iY (by unfold lS;rw [hr,Bool.true_and]),H2.out⟩
theorem run_zero_E(w:World):(Instr.build 72 #[]).run Tryz.prog w= .ok (.agg #[.int .u8 0,.int .u8 0,.int .u8 0,.int .u8 0,.int .u8 0,.int .u8 0]) w:=by kernel_rfl
theorem run_eql_E(m:Mono)(w:World):(binOp .eql 72 (.agg #[.int .u8 m.e0.toNat,.int .u8 m.e1.toNat,.int .u8 m.e2.toNat,.int .u8 m.e3.toNat,.int .u8 m.e4.toNat,.int .u8 m.e5.toNat]) (.agg #[.int .u8 0,.int .u8 0,.int .u8 0,.int .u8 0,.int .u8 0,.int .u8 0])).run Tryz.prog w= .ok (.bool (flatE m)) w:=by
 rw [run_eql_struct];have h:=sF 9998 m ⟨0,0,0,0,0,0,0⟩ w;have e:(Value.agg #[.int .u8 (((0:UInt8).toNat:Nat):Int),.int .u8 (((0:UInt8).toNat:Nat):Int),.int .u8 (((0:UInt8).toNat:Nat):Int),.int .u8 (((0:UInt8).toNat:Nat):Int),.int .u8 (((0:UInt8).toNat:Nat):Int),.int .u8 (((0:UInt8).toNat:Nat):Int)])= .agg #[.int .u8 0,.int .u8 0,.int .u8 0,.int .u8 0,.int .u8 0,.int .u8 0]:=rfl;rw [e] at h;rw [h];rfl
set_option maxRecDepth 100000 in
set_option maxHeartbeats 1000000 in
theorem covers_any(A:Option Addr)(c:Nat)(xs:List Mono)(n:Int)(w:World)(ha:jZ w A xs)(hx:xs.length≤140737488355328):
  Calls Tryz.prog 206 #[.slice A xs.length c,.int .i64 n] w fun e w'=>e= .returned (.bool (gR xs n))∧Below w.heap.size w w':=by
 have Ha:=Lib.hid ha;clear ha;have hz:=run_zero_E;have heq:=run_eql_E;cases hg:lS xs
 ·go_enter Tryz.func206,Tryz.ntmps206
  go_wp2_with fail
  refine(tA A c xs _ Ha.out hx).mono ?_;rintro e w1 ⟨rfl,hb1⟩
  go_wp2
  go_ret
  exact⟨iY (by unfold gR;rw [hg];rfl),hb1⟩
 ·by_cases hn:n≤0
  ·have hn1:decide (n≤0)=true:=by simpa using hn
   go_enter Tryz.func206,Tryz.ntmps206
   go_wp2_with fail
   refine(tA A c xs _ Ha.out hx).mono ?_;rintro e w1 ⟨rfl,hb1⟩
   go_wp2
   go_ret
   exact⟨iY (by unfold gR;rw [hg,hn1];rfl),hb1⟩
  ·have hn1:decide (n≤0)=false:=by simpa using hn
   rcases Nat.eq_zero_or_pos xs.length with h0 | h0
   ·have h01:((xs.length:Int)==0)=true:=by simp [h0]
    have H0:=Lib.hid h0;clear h0
    go_enter Tryz.func206,Tryz.ntmps206
    go_wp2_with fail
    refine(tA A c xs _ Ha.out hx).mono ?_;rintro e w1 ⟨rfl,hb1⟩
    go_wp2
    go_ret
    have e:xs=[]:=List.eq_nil_of_length_eq_zero H0.out;subst e;exact⟨iY (by unfold gR;rw [hg,hn1];rfl),hb1⟩
   ·have h01:((xs.length:Int)==0)=false:=beq_eq_false_iff_ne.2 (by omega)
    obtain⟨m,hm⟩: ∃m,xs[xs.length-1]?=some m:=⟨xs[xs.length-1]'(by omega),List.getElem?_eq_getElem _⟩
    have HL:=Lib.hid (show xs.getLast?=some m by rw [List.getLast?_eq_getElem?];exact hm);have HM:=Lib.hid hm;clear hm
    go_enter Tryz.func206,Tryz.ntmps206
    go_wp2_with fail
    refine(tA A c xs _ Ha.out hx).mono ?_;rintro e w1 ⟨rfl,hb1⟩;obtain⟨b,o,hA,hB,c0,c1,c2,c3,c4,c5,c6⟩:=Ha.out.below hb1 _ m HM.out;subst hA;have hi:((xs.length:Int)-1).toNat=xs.length-1:=by omega
    have H1:=Lib.hid hb1;clear hb1 HM hB;cases hf:flatE m
    ·go_wp2
     go_ret
     exact⟨iY (by unfold gR;rw [hg,hn1,HL.out];simp [hf]),H1.out.alloc H1.out.size _⟩
    ·go_wp2
     go_ret
     exact⟨iY (by unfold gR;rw [hg,hn1,HL.out];simp [hf]),H1.out.alloc H1.out.size _⟩
end Go.Proofs.YtbgdphbebhjpiaaGreatDoor
namespace Go.Proofs.YtbgdphbebhjpiaaGreatDoor
open Go.RowKit
def mH:Flat Mono where
 size:=7
 cells:=Mono.cells
 len:=fun _=>rfl
 one:=fun x u hu=>by
  simp [Mono.cells] at hu
  rcases hu with rfl | rfl | rfl | rfl | rfl | rfl | rfl<;>rfl
 pos:=by decide
theorem monos_of{S:lJ}{w:World}{A:Option Addr}{k c:Nat}{l:List Mono}(hS: ∀b,S b→b<w.heap.size)(h:(mH.sl (.slice A k c) l).p S w):jZ w A l∧k=l.length:=by
 obtain⟨A',cap,e,h⟩:=h;injection e with e1 e2 e3
 subst e1 e2;refine⟨fun k m hk=>?_,rfl⟩;obtain⟨b,o,cs,e1,e2,e3,e4⟩:=h k m hk;have e4:cs=m.cells:=e4;subst e4;exact⟨b,o,e1,hS b e2,e3 0 _ rfl,e3 1 _ rfl,e3 2 _ rfl,e3 3 _ rfl,e3 4 _ rfl,e3 5 _ rfl,e3 6 _ rfl⟩
theorem sl_of{w:World}{A:Option Addr}{c:Nat}{l:List Mono}(h:jZ w A l):(mH.sl (.slice A l.length c) l).p (fun b=>b<w.heap.size) w:=by
 refine⟨A,c,rfl,fun k m hk=>?_⟩;obtain⟨b,o,e,hb,h0,h1,h2,h3,h4,h5,h6⟩:=h k m hk;refine⟨b,o,m.cells,e,hb,fun j u hj=>?_,rfl⟩;have hlt:=(List.getElem?_eq_some_iff.1 hj).1;rw [Mono.cells_length] at hlt
 match j,hlt with
 | 0,_=>simp [Mono.cells] at hj;subst hj;exact h0
 | 1,_=>simp [Mono.cells] at hj;subst hj;exact h1
 | 2,_=>simp [Mono.cells] at hj;subst hj;exact h2
 | 3,_=>simp [Mono.cells] at hj;subst hj;exact h3
 | 4,_=>simp [Mono.cells] at hj;subst hj;exact h4
 | 5,_=>simp [Mono.cells] at hj;subst hj;exact h5
 | 6,_=>simp [Mono.cells] at hj;subst hj;exact h6
abbrev PolV:=Sl Mono
def mN (p:PolV):Fact:=(mH.sl (.slice p.addr p.list.length p.cap) p.list).and (Fact.pure (p.list.length≤140737488355328))
theorem qZ{f:FuncId}{args:List Value}{Pre:List Fact}{r:List Mono×Int}(hl:r.1.length≤140737488355328)(h: ∀S w,(∀b,S b→b<w.heap.size)→All Pre S w→Calls Tryz.prog f args.toArray w (xP w r)):
  dX Tryz.prog f args [] Pre (fun x:Option Addr×Nat=> .tuple #[.slice x.1 r.1.length x.2,.int .i64 r.2]) (fun _=>[]) (fun x=>[mN ⟨x.1,x.2,r.1⟩]):=fun S w s k=>by
 refine(h S w (fun b hb=>(s.zone b hb).1) k).mono ?_;intro e w' hg;obtain⟨v,rfl,hb,A,c,rfl,hr⟩:=hg;refine⟨(A,c),fun b=>S b∨(w.heap.size≤b∧b<w'.heap.size),rfl,⟨mX.of_below _ hb,fun c hc=>by simp at hc,fun c hc=>by simp at hc,List.Pairwise.nil,fun b hb'=>?_⟩,All.cons ⟨?_,hl⟩ (fun g hg=>by simp at hg)⟩
 ·rcases hb' with h | h
  ·exact⟨Nat.lt_of_lt_of_le (s.zone b h).1 hb.size,.inl h⟩
  ·exact⟨h.2,.inr (.inr h.1)⟩
 ·rcases hr with hr | ⟨g,rfl,hg,hr⟩
  ·exact⟨A,c,rfl,fun k m hk=>by
    have hr:r.1=[]:=hr
    simp [hr] at hk⟩
  ·have hm:=hr.monos;obtain⟨A',c',e,h⟩:=sl_of (c:=c) hm;injection e with e1 e2 e3
   subst e1;refine⟨_,c,rfl,fun k m hk=>?_⟩;obtain⟨b,o,cs,e1,e2,e3,e4⟩:=h k m hk;injection e1 with e1
   injection e1 with e1 e5
   subst e1;exact⟨_,o,cs,by rw [e5],.inr ⟨hg,e2⟩,e3,e4⟩
theorem oO{p:List Mono}(h:fF p=true):p.length≤48:=by
 simp only [fF,Bool.and_eq_true,decide_eq_true_eq] at h;exact h.1
theorem zC(L:List Mono):fF (kR L).1=true∧((kR L).2≠0→(kR L).1=[]):=by
 unfold kR;split
 ·rename_i h;exact⟨h,fun h=>absurd rfl h⟩
 ·exact⟨rfl,fun _=>rfl⟩
theorem oT(p q:List Mono)(s:Int):fF (cX p q s).1=true:=by
 unfold cX;split
 ·exact(zC _).1
 ·rfl
theorem bBl(p q:List Mono):fF (pP p q).1=true:=by
 unfold pP;split
 ·exact(zC _).1
 ·rfl
theorem bDl(n:Int):fF (iL n).1=true:=by
 unfold iL;split
 ·rfl
 ·split
  ·rfl
  ·rename_i h0 h1;simp only [not_or,Int.not_lt] at h1;simp [fF,iU,num0,sH,h0,Mono.deg,h1]
theorem bCw(k:Int):fF (tE k).1=true:=by
 unfold tE;split
 ·rfl
 ·rename_i h;simp only [not_or,Int.not_lt,Int.not_le] at h
  obtain⟨n,rfl⟩: ∃n:Nat,k=n:=⟨k.toNat,by omega⟩
  match n,h with
  | 0,_=>rfl
  | 1,_=>rfl
  | 2,_=>rfl
  | 3,_=>rfl
  | 4,_=>rfl
  | 5,_=>rfl
  | n+6,h=>exact absurd h.2 (by omega)
section
variable (p q : PolV)
theorem kD{p:PolV}{S:lJ}{w:World}(hS: ∀b,S b→b<w.heap.size)(h:(mN p).p S w):jZ w p.addr p.list:=(monos_of hS h.1).1
theorem wL(hp:p.list.length≤140737488355328)(hq:q.list.length≤140737488355328):dX Tryz.prog 149 [.slice p.addr p.list.length p.cap,.slice q.addr q.list.length q.cap] [] [mN p,mN q] (fun x:Option Addr×Nat=> .tuple #[.slice x.1 (cX p.list q.list 1).1.length x.2,.int .i64 (cX p.list q.list 1).2]) (fun _=>[]) (fun x=>[mN ⟨x.1,x.2,(cX p.list q.list 1).1⟩]):=
 qZ (Nat.le_trans (oO (oT _ _ _)) (by decide)) fun _ w hS h=>add_any _ _ _ _ _ _ w (kD hS (h _ (.head _))) (kD hS (h _ (.tail _ (.head _)))) hp hq
theorem bHc(hp:p.list.length≤140737488355328)(hq:q.list.length≤140737488355328):dX Tryz.prog 144 [.slice p.addr p.list.length p.cap,.slice q.addr q.list.length q.cap] [] [mN p,mN q] (fun x:Option Addr×Nat=> .tuple #[.slice x.1 (cX p.list q.list (-1)).1.length x.2,.int .i64 (cX p.list q.list (-1)).2]) (fun _=>[]) (fun x=>[mN ⟨x.1,x.2,(cX p.list q.list (-1)).1⟩]):=
 qZ (Nat.le_trans (oO (oT _ _ _)) (by decide)) fun _ w hS h=>sub_any _ _ _ _ _ _ w (kD hS (h _ (.head _))) (kD hS (h _ (.tail _ (.head _)))) hp hq
theorem mul_spec(hp:p.list.length≤140737488355328)(hq:q.list.length≤140737488355328):dX Tryz.prog 141 [.slice p.addr p.list.length p.cap,.slice q.addr q.list.length q.cap] [] [mN p,mN q] (fun x:Option Addr×Nat=> .tuple #[.slice x.1 (pP p.list q.list).1.length x.2,.int .i64 (pP p.list q.list).2]) (fun _=>[]) (fun x=>[mN ⟨x.1,x.2,(pP p.list q.list).1⟩]):=
 qZ (Nat.le_trans (oO (bBl _ _)) (by decide)) fun _ w hS h=>mul_any _ _ _ _ _ _ w (kD hS (h _ (.head _))) (kD hS (h _ (.tail _ (.head _)))) hp hq
theorem yZ(n:Int):dX Tryz.prog 140 [.int .i64 n] [] [] (fun x:Option Addr×Nat=> .tuple #[.slice x.1 (iL n).1.length x.2,.int .i64 (iL n).2]) (fun _=>[]) (fun x=>[mN ⟨x.1,x.2,(iL n).1⟩]):=
 qZ (Nat.le_trans (oO (bDl n)) (by decide)) fun _ w _ _=>const_any n w
theorem var_spec(k:Int):dX Tryz.prog 78 [.int .i64 k] [] [] (fun x:Option Addr×Nat=> .tuple #[.slice x.1 (tE k).1.length x.2,.int .i64 (tE k).2]) (fun _=>[]) (fun x=>[mN ⟨x.1,x.2,(tE k).1⟩]):=
 qZ (Nat.le_trans (oO (bCw k)) (by decide)) fun _ w _ _=>var_any k w
theorem bId(hp:p.list.length≤140737488355328):dX Tryz.prog 25 [.slice p.addr p.list.length p.cap] [] [mN p] (fun _:Unit=> .bool (lS p.list)) (fun _=>[]) (fun _=>[]):=
 kS fun _ w hS h=>tA _ _ _ w (kD hS (h _ (.head _))) hp
theorem rR(n:Int)(hp:p.list.length≤140737488355328):dX Tryz.prog 206 [.slice p.addr p.list.length p.cap,.int .i64 n] [] [mN p] (fun _:Unit=> .bool (gR p.list n)) (fun _=>[]) (fun _=>[]):=
 kS fun _ w hS h=>covers_any _ _ _ n w (kD hS (h _ (.head _))) hp
end
end Go.Proofs.YtbgdphbebhjpiaaGreatDoor
namespace Go.Proofs.YtbgdphbebhjpiaaGreatDoor
open Go.RowKit Go.ChangeShapes Go.WideShapes
def cH:Flat PolV:=slE Mono
structure TyV where
 sides:(Sl PolV)
 known:Bool
 values:(Sl PolV)
 deriving Inhabited
def tyE:Flat TyV where
 size:=3
 cells:=fun x=>[.slice x.sides.addr x.sides.list.length x.sides.cap,.bool x.known,.slice x.values.addr x.values.list.length x.values.cap]
 len:=fun _=>rfl
 one:=fun x u hu=>by
  simp at hu
  rcases hu with rfl | rfl | rfl<;>rfl
 pos:=by decide
def wH:Flat (Sl TyV):=slE TyV
def typeT:Tab:=[(3,⟨.int .i64,1⟩),(2,⟨.int .i64,1⟩),(5,⟨.int .u8,1⟩),(9,⟨.string,1⟩),(4,⟨.bool,1⟩),(50,⟨.int .u8,1⟩),(34,⟨.int .i64,1⟩),(30,⟨.slice 2,1⟩),(27,⟨.slice 9,1⟩),(104,⟨.struct [(3,0),(3,1),(9,2),(2,3)],4⟩),(97,⟨.slice 104,1⟩),(36,⟨.struct [(3,0),(34,1)],2⟩),(63,⟨.struct [(9,0),(2,1)],2⟩),(59,⟨.slice 63,1⟩),(61,⟨.struct [(9,0),(3,1),(59,2)],3⟩),(22,⟨.slice 61,1⟩),(52,⟨.struct [(3,0),(3,1),(50,2),(9,3),(30,4)],5⟩),(47,⟨.slice 52,1⟩),(49,⟨.struct [(9,0),(3,1),(47,2)],3⟩),(23,⟨.slice 49,1⟩),(25,⟨.struct [(22,0),(23,1)],2⟩),(102,⟨.struct [(97,0),(3,1),(3,2)],3⟩),(42,⟨.struct [(30,0),(30,1)],2⟩),(31,⟨.slice 42,1⟩),(189,⟨.slice 30,1⟩),(71,⟨.slice 74,1⟩),(65,⟨.slice 71,1⟩),(67,⟨.struct [(65,0),(4,1),(65,2)],3⟩),(64,⟨.slice 67,1⟩),(55,⟨.slice 64,1⟩),(100,⟨.other,1⟩),(208,⟨.slice 1,1⟩),(1,⟨.other,1⟩),(196,⟨.other,1⟩),(80,⟨.other,1⟩),(247,⟨.other,1⟩),(248,⟨.slice 247,1⟩),(243,⟨.int .u64,1⟩),(78,⟨.map 9 4,1⟩),(85,⟨.map 9 42,1⟩),(244,⟨.other,1⟩),(246,⟨.struct [(244,0),(34,1)],2⟩),(87,⟨.struct [(85,0),(3,1)],2⟩),(74,⟨.struct [(2,0),(72,1)],7⟩),(72,⟨.array 6 5,6⟩),(110,⟨.other,1⟩),(115,⟨.map 9 67,1⟩),(117,⟨.struct [(115,0)],1⟩),(213,⟨.other,1⟩),(296,⟨.int .u64,1⟩),(218,⟨.slice 65,1⟩)]
theorem fI:gH Tryz.prog typeT:=wF.ok
 ⟨⟨by rw [Tryz.underlying3];rfl,by kernel_rfl⟩,
  ⟨by rw [Tryz.underlying2];rfl,by kernel_rfl⟩,
  ⟨by rw [Tryz.underlying5];rfl,by kernel_rfl⟩,
  ⟨by rw [Tryz.underlying9];rfl,by kernel_rfl⟩,
  ⟨by rw [Tryz.underlying4];rfl,by kernel_rfl⟩,
  ⟨by rw [Tryz.underlying50];rfl,by kernel_rfl⟩,
  ⟨by rw [Tryz.underlying34];rfl,by kernel_rfl⟩,
  ⟨by rw [Tryz.underlying30];rfl,by kernel_rfl⟩,
  ⟨by rw [Tryz.underlying27];rfl,by kernel_rfl⟩,
  ⟨by rw [Tryz.underlying104];rfl,by kernel_rfl⟩,
  ⟨by rw [Tryz.underlying97];rfl,by kernel_rfl⟩,
  ⟨by rw [Tryz.underlying36];rfl,by kernel_rfl⟩,
  ⟨by rw [Tryz.underlying63];rfl,by kernel_rfl⟩,
  ⟨by rw [Tryz.underlying59];rfl,by kernel_rfl⟩,
  ⟨by rw [Tryz.underlying61];rfl,by kernel_rfl⟩,
  ⟨by rw [Tryz.underlying22];rfl,by kernel_rfl⟩,
  ⟨by rw [Tryz.underlying52];rfl,by kernel_rfl⟩,
  ⟨by rw [Tryz.underlying47];rfl,by kernel_rfl⟩,
  ⟨by rw [Tryz.underlying49];rfl,by kernel_rfl⟩,
  ⟨by rw [Tryz.underlying23];rfl,by kernel_rfl⟩,
  ⟨by rw [Tryz.underlying25];rfl,by kernel_rfl⟩,
  ⟨by rw [Tryz.underlying102];rfl,by kernel_rfl⟩,
  ⟨by rw [Tryz.underlying42];rfl,by kernel_rfl⟩,
  ⟨by rw [Tryz.underlying31];rfl,by kernel_rfl⟩,
  ⟨by rw [Tryz.underlying189];rfl,by kernel_rfl⟩,
  ⟨by rw [Tryz.underlying71];rfl,by kernel_rfl⟩,
  ⟨by rw [Tryz.underlying65];rfl,by kernel_rfl⟩,
  ⟨by rw [Tryz.underlying67];rfl,by kernel_rfl⟩,
  ⟨by rw [Tryz.underlying64];rfl,by kernel_rfl⟩,
  ⟨by rw [Tryz.underlying55];rfl,by kernel_rfl⟩,
  ⟨by rw [Tryz.underlying100];rfl,by kernel_rfl⟩,
  ⟨by rw [Tryz.underlying208];rfl,by kernel_rfl⟩,
  ⟨by rw [Tryz.underlying1];rfl,by kernel_rfl⟩,
  ⟨by rw [Tryz.underlying196];rfl,by kernel_rfl⟩,
  ⟨by rw [Tryz.underlying80];rfl,by kernel_rfl⟩,
  ⟨by rw [Tryz.underlying247];rfl,by kernel_rfl⟩,
  ⟨by rw [Tryz.underlying248];rfl,by kernel_rfl⟩,
  ⟨by rw [Tryz.underlying243];rfl,by kernel_rfl⟩,
  ⟨by rw [Tryz.underlying78];rfl,by kernel_rfl⟩,
  ⟨by rw [Tryz.underlying85];rfl,by kernel_rfl⟩,
  ⟨by rw [Tryz.underlying244];rfl,by kernel_rfl⟩,
  ⟨by rw [Tryz.underlying246];rfl,by kernel_rfl⟩,
  ⟨by rw [Tryz.underlying87];rfl,by kernel_rfl⟩,
  ⟨by rw [Tryz.underlying74];rfl,by kernel_rfl⟩,
  ⟨by rw [Tryz.underlying72];rfl,by kernel_rfl⟩,
  ⟨by rw [Tryz.underlying110];rfl,by kernel_rfl⟩,
  ⟨by rw [Tryz.underlying115];rfl,by kernel_rfl⟩,
  ⟨by rw [Tryz.underlying117];rfl,by kernel_rfl⟩,
  ⟨by rw [Tryz.underlying213];rfl,by kernel_rfl⟩,
  ⟨by rw [Tryz.underlying296];rfl,by kernel_rfl⟩,
  ⟨by rw [Tryz.underlying218];rfl,by kernel_rfl⟩,trivial⟩
theorem vS: ∃i:TypeInfo,Tryz.prog.info? 71=some i∧i.zero=some (.slice none 0 0)∧i.size=1∧i.bytes=24:=by
 have h:(Tryz.prog.info? 71).map (fun i=>(i.zero,i.size,i.bytes))=some (some (.slice none 0 0),1,24):=by kernel_rfl
 cases hi:Tryz.prog.info? 71 with
 | none=>simp [hi] at h
 | some i=>simp [hi] at h;exact⟨i,rfl,h.1,h.2.1,h.2.2⟩
theorem fE{β:fV}{n:Nat}{Γ:Env}{H:List cA}{F:List Fact}{Q:Exit→Act→World→Prop}{ops:Array Oper}{rest:List Oper}{o:Oper}{d:Nat}{x:Operand}{m:PolV}(hw:want ops Γ o=some true)(ho:o.op= .buildSlice 65 1 #[(0,x)])(hd:o.dst=some d)(hn:Nat.blt d n=true)
  (hx:Γ.ev x=some (.slice m.addr m.list.length m.cap)) (k: ∀b,At β n ((d,.slice (some ⟨b,0,none⟩) 1 1)::Γ) (.obj b (.cells (cH.all [m]).toArray 71)::H) F (wpList Tryz.prog ops Q rest)):At β n Γ H F (wpList Tryz.prog ops Q (o::rest)):=by
 obtain⟨i,hi,hz,hs,_⟩:=vS;refine jD hw ho hd hn hx Tryz.underlying65 hi hz (by omega) (by omega) ?_ k;rw [hs]
 kernel_rfl
theorem at_none_pols{β:fV}{n:Nat}{Γ:Env}{H:List cA}{F:List Fact}{Q:Exit→Act→World→Prop}{ops:Array Oper}{rest:List Oper}{o:Oper}{d:Nat}(hw:want ops Γ o=some true)(ho:o.op= .buildSlice 65 0 #[])(hd:o.dst=some d)(hn:Nat.blt d n=true)
  (k: ∀b,At β n ((d,.slice (some ⟨b,0,none⟩) 0 0)::Γ) (cH.row (.slice (some ⟨b,0,none⟩) 0 0) 71 []::H) F (wpList Tryz.prog ops Q rest)):At β n Γ H F (wpList Tryz.prog ops Q (o::rest)):=by
 obtain⟨i,hi,_⟩:=vS;exact bLz cH hw ho hd hn Tryz.underlying65 hi k
theorem gJ{β:fV}{n:Nat}{Γ:Env}{H:List cA}{F:List Fact}{Q:Exit→Act→World→Prop}{ops:Array Oper}{rest:List Oper}{o:Oper}{d:Nat}{x y:Operand}{c q:Nat}{v:Value}{A:Option Addr}{xs ys:List PolV}{H':List cA}(hH:dK H (cH.row v 71 xs) H')(hr:cN β H F cH A ys)(hg:o.guard=none)
  (ho:o.op= .call {callee:= .builtin .append,args:= #[x,y],argTypes:= #[65,65]}) (hd:o.dst=some d) (hn:Nat.blt d n=true)
  (hx:Γ.ev x=some v) (hy:Γ.ev y=some (.slice A q c)) (hq:q=ys.length) (hl:xs.length+ys.length≤5864062014805)
  (k: ∀A' cap',At β n ((d,.slice A' (xs++ys).length cap')::Γ) (cH.row (.slice A' (xs++ys).length cap') 71 (xs++ys)::H') F (wpList Tryz.prog ops Q rest)):At β n Γ H F (wpList Tryz.prog ops Q (o::rest)):=by
 obtain⟨i,hi,hz,hs,hb⟩:=vS;exact gA hH hr hg ho hd hn Tryz.underlying65 hi hz hs hb rfl hx hy hq (by omega) (by decide) k
theorem tyInfo: ∃i:TypeInfo,Tryz.prog.info? 67=some i∧i.zero=some (.agg #[.slice none 0 0,.bool false,.slice none 0 0])∧i.size=3∧i.bytes=56:=by
 have h:(Tryz.prog.info? 67).map (fun i=>(i.zero,i.size,i.bytes))=some (some (.agg #[.slice none 0 0,.bool false,.slice none 0 0]),3,56):=by kernel_rfl
 cases hi:Tryz.prog.info? 67 with
 | none=>simp [hi] at h
 | some i=>simp [hi] at h;exact⟨i,rfl,h.1,h.2.1,h.2.2⟩
theorem bBz{β:fV}{n:Nat}{Γ:Env}{H:List cA}{F:List Fact}{Q:Exit→Act→World→Prop}{ops:Array Oper}{rest:List Oper}{o:Oper}{d:Nat}{x:Operand}{m:TyV}(hw:want ops Γ o=some true)(ho:o.op= .buildSlice 64 1 #[(0,x)])(hd:o.dst=some d)(hn:Nat.blt d n=true)
  (hx:Γ.ev x=some (.agg #[.slice m.sides.addr m.sides.list.length m.sides.cap,.bool m.known,.slice m.values.addr m.values.list.length m.values.cap])) (k: ∀b,At β n ((d,.slice (some ⟨b,0,none⟩) 1 1)::Γ) (.obj b (.cells (tyE.all [m]).toArray 67)::H) F (wpList Tryz.prog ops Q rest)):At β n Γ H F (wpList Tryz.prog ops Q (o::rest)):=by
 obtain⟨i,hi,hz,hs,_⟩:=tyInfo;refine jD hw ho hd hn hx Tryz.underlying64 hi hz (by omega) (by omega) ?_ k;rw [hs]
 kernel_rfl
theorem bBk{β:fV}{n:Nat}{Γ:Env}{H:List cA}{F:List Fact}{Q:Exit→Act→World→Prop}{ops:Array Oper}{rest:List Oper}{o:Oper}{d:Nat}{x y:Operand}{c q:Nat}{v:Value}{A:Option Addr}{xs ys:List TyV}{H':List cA}(hH:dK H (tyE.row v 67 xs) H')(hr:cN β H F tyE A ys)(hg:o.guard=none)
  (ho:o.op= .call {callee:= .builtin .append,args:= #[x,y],argTypes:= #[64,64]}) (hd:o.dst=some d) (hn:Nat.blt d n=true)
  (hx:Γ.ev x=some v) (hy:Γ.ev y=some (.slice A q c)) (hq:q=ys.length) (hl:xs.length+ys.length≤2513169434916)
  (k: ∀A' cap',At β n ((d,.slice A' (xs++ys).length cap')::Γ) (tyE.row (.slice A' (xs++ys).length cap') 67 (xs++ys)::H') F (wpList Tryz.prog ops Q rest)):At β n Γ H F (wpList Tryz.prog ops Q (o::rest)):=by
 obtain⟨i,hi,hz,hs,hb⟩:=tyInfo;exact gA hH hr hg ho hd hn Tryz.underlying64 hi hz hs hb rfl hx hy hq (by omega) (by decide) k
theorem rowsInfo: ∃i:TypeInfo,Tryz.prog.info? 64=some i∧i.zero=some (.slice none 0 0)∧i.size=1∧i.bytes=24:=by
 have h:(Tryz.prog.info? 64).map (fun i=>(i.zero,i.size,i.bytes))=some (some (.slice none 0 0),1,24):=by kernel_rfl
 cases hi:Tryz.prog.info? 64 with
 | none=>simp [hi] at h
 | some i=>simp [hi] at h;exact⟨i,rfl,h.1,h.2.1,h.2.2⟩
theorem at_one_rows{β:fV}{n:Nat}{Γ:Env}{H:List cA}{F:List Fact}{Q:Exit→Act→World→Prop}{ops:Array Oper}{rest:List Oper}{o:Oper}{d:Nat}{x:Operand}{m:(Sl TyV)}(hw:want ops Γ o=some true)(ho:o.op= .buildSlice 55 1 #[(0,x)])(hd:o.dst=some d)(hn:Nat.blt d n=true)
  (hx:Γ.ev x=some (.slice m.addr m.list.length m.cap)) (k: ∀b,At β n ((d,.slice (some ⟨b,0,none⟩) 1 1)::Γ) (.obj b (.cells (wH.all [m]).toArray 64)::H) F (wpList Tryz.prog ops Q rest)):At β n Γ H F (wpList Tryz.prog ops Q (o::rest)):=by
 obtain⟨i,hi,hz,hs,_⟩:=rowsInfo;refine jD hw ho hd hn hx Tryz.underlying55 hi hz (by omega) (by omega) ?_ k;rw [hs]
 kernel_rfl
theorem at_app_rows{β:fV}{n:Nat}{Γ:Env}{H:List cA}{F:List Fact}{Q:Exit→Act→World→Prop}{ops:Array Oper}{rest:List Oper}{o:Oper}{d:Nat}{x y:Operand}{c q:Nat}{v:Value}{A:Option Addr}{xs ys:List (Sl TyV)}{H':List cA}(hH:dK H (wH.row v 64 xs) H')(hr:cN β H F wH A ys)(hg:o.guard=none)
  (ho:o.op= .call {callee:= .builtin .append,args:= #[x,y],argTypes:= #[55,55]}) (hd:o.dst=some d) (hn:Nat.blt d n=true)
  (hx:Γ.ev x=some v) (hy:Γ.ev y=some (.slice A q c)) (hq:q=ys.length) (hl:xs.length+ys.length≤5864062014805)
  (k: ∀A' cap',At β n ((d,.slice A' (xs++ys).length cap')::Γ) (wH.row (.slice A' (xs++ys).length cap') 64 (xs++ys)::H') F (wpList Tryz.prog ops Q rest)):At β n Γ H F (wpList Tryz.prog ops Q (o::rest)):=by
 obtain⟨i,hi,hz,hs,hb⟩:=rowsInfo;exact gA hH hr hg ho hd hn Tryz.underlying55 hi hz hs hb rfl hx hy hq (by omega) (by decide) k
end Go.Proofs.YtbgdphbebhjpiaaGreatDoor
namespace Go.Proofs.YtbgdphbebhjpiaaGreatDoor
open Go.RowKit
instance : DecidableEq Mono := fun a b => decidable_of_iff (a.eqB b = true) (Mono.eqB_iff a b)
def bFl (a b:Mono):Bool:=a.eqB b
theorem sti_neq_mono{β:fV}{n:Nat}{Γ:Env}{H:List cA}{F:List Fact}{o:Oper}{a b:Operand}{tt:TypeId}(x y:Mono)(ho:o.op= .binOp .neq 74 a b tt)(hx:Γ.ev a=some (.agg #[.int .i64 x.n,.int .u8 x.e0.toNat,.int .u8 x.e1.toNat,.int .u8 x.e2.toNat,.int .u8 x.e3.toNat,.int .u8 x.e4.toNat,.int .u8 x.e5.toNat]))(hy:Γ.ev b=some (.agg #[.int .i64 y.n,.int .u8 y.e0.toNat,.int .u8 y.e1.toNat,.int .u8 y.e2.toNat,.int .u8 y.e3.toNat,.int .u8 y.e4.toNat,.int .u8 y.e5.toNat])):Sti Tryz.prog β n Γ H F o (.bool (!bFl x y)):=fun c w S f s k=>by
 have hq:Tryz.prog.eqGuardType Tryz.prog.depth 74=false:=by kernel_rfl
 have hg:(eqGuard .neq 74 a b (.agg #[.int .i64 x.n,.int .u8 x.e0.toNat,.int .u8 x.e1.toNat,.int .u8 x.e2.toNat,.int .u8 x.e3.toNat,.int .u8 x.e4.toNat,.int .u8 x.e5.toNat]) (.agg #[.int .i64 y.n,.int .u8 y.e0.toNat,.int .u8 y.e1.toNat,.int .u8 y.e2.toNat,.int .u8 y.e3.toNat,.int .u8 y.e4.toNat,.int .u8 y.e5.toNat])).run Tryz.prog w= .ok () w:=by
  unfold eqGuard;have hp:(program:Sem Program).run Tryz.prog w= .ok Tryz.prog w:=rfl;simp [hp,hq]
 unfold execOp;simp only [ho,f.ev hx,f.ev hy];rw [Sem.run_bind,Sem.run_bind,hg,Result.andThen_ok,zN];rfl
theorem mono_eq{x y:Mono}:bFl x y=true↔x=y:=Mono.eqB_iff x y
theorem mono_t{x y:Mono}(h:(!bFl x y)=true):x≠y:=fun e=>by
 rw [mono_eq.2 e] at h;cases h
theorem mono_f{x y:Mono}(h:(!bFl x y)=false):x=y:=mono_eq.1 (by simpa using h)
def cB (l:List PolV):List (List Mono):=l.map (·.list)
theorem bW(l:List PolV):(cB l).length=l.length:=List.length_map _
theorem iA{l:List PolV}{i:Nat}{p:PolV}(h:l[i]?=some p):(cB l)[i]?=some p.list:=by
 unfold cB;rw [List.getElem?_map,h];rfl
theorem bBx{α:Type} [DecidableEq α]{a b:List α}(h:a≠b):Value.bool false= .bool (decide (a=b)):=by simp [h]
theorem eqT_of{α:Type} [DecidableEq α]{a b:List α}(h:a=b):Value.bool true= .bool (decide (a=b)):=by simp [h]
theorem rQ{α:Type}{E:Flat α}{F:List Fact}:Has F (E.sl (.slice none 0 0) []):=fun _ _ _=>⟨none,0,rfl,fun k x hk=>by simp at hk⟩
def cT (l:List PolV):Fact:=Fact.each l mN
theorem vX{F:List Fact}{p:PolV}(h:Has F (mN p)):Has F (mH.sl (.slice p.addr p.list.length p.cap) p.list):=h.left
theorem fC{F:List Fact}{p:PolV}(h:Has F (mN p)):Has F (Fact.pure (p.list.length≤140737488355328)):=h.right
theorem polF_nil: ∀{F:List Fact},Has F (mN ⟨none,0,[]⟩):=Has.and rQ (Has.pure (by decide))
def numT (n:Int):List Mono:=(iL n).1
theorem monoI: ∃i:TypeInfo,Tryz.prog.info? 74=some i∧i.zero=some (.agg #[.int .i64 0,.int .u8 0,.int .u8 0,.int .u8 0,.int .u8 0,.int .u8 0,.int .u8 0])∧i.size=7∧i.bytes=16:=by
 have h:(Tryz.prog.info? 74).map (fun i=>(i.zero,i.size,i.bytes))=some (some (.agg #[.int .i64 0,.int .u8 0,.int .u8 0,.int .u8 0,.int .u8 0,.int .u8 0,.int .u8 0]),7,16):=by kernel_rfl
 cases hi:Tryz.prog.info? 74 with
 | none=>simp [hi] at h
 | some i=>simp [hi] at h;exact⟨i,rfl,h.1,h.2.1,h.2.2⟩
section
variable {β : fV} {n : Nat} {Γ : Env} {H : List cA} {F : List Fact} {Q : Exit → Act → World → Prop} {ops : Array Oper} {rest : List Oper} {o : Oper} {d : Nat}
theorem at_none_mono(hw:want ops Γ o=some true)(ho:o.op= .buildSlice 71 0 #[])(hd:o.dst=some d)(hn:Nat.blt d n=true)
  (k: ∀b,At β n ((d,.slice (some ⟨b,0,none⟩) 0 0)::Γ) (mH.row (.slice (some ⟨b,0,none⟩) 0 0) 74 []::H) F (wpList Tryz.prog ops Q rest)):At β n Γ H F (wpList Tryz.prog ops Q (o::rest)):=by
 obtain⟨i,hi,_⟩:=monoI;exact bLz mH hw ho hd hn Tryz.underlying71 hi k
theorem at_app_mono{x y:Operand}{c q:Nat}{v:Value}{A:Option Addr}{xs ys:List Mono}{H':List cA}(hH:dK H (mH.row v 74 xs) H')(hr:cN β H F mH A ys)(hg:o.guard=none)
  (ho:o.op= .call {callee:= .builtin .append,args:= #[x,y],argTypes:= #[71,71]}) (hd:o.dst=some d) (hn:Nat.blt d n=true)
  (hx:Γ.ev x=some v) (hy:Γ.ev y=some (.slice A q c)) (hq:q=ys.length) (hl:xs.length+ys.length≤8796093022208)
  (k: ∀A' cap',At β n ((d,.slice A' (xs++ys).length cap')::Γ) (mH.row (.slice A' (xs++ys).length cap') 74 (xs++ys)::H') F (wpList Tryz.prog ops Q rest)):At β n Γ H F (wpList Tryz.prog ops Q (o::rest)):=by
 obtain⟨i,hi,hz,hs,hb⟩:=monoI;exact gA hH hr hg ho hd hn Tryz.underlying71 hi hz hs hb rfl hx hy hq (by omega) (by decide) k
end
def bGo {α:Type}(l cur:List α)(i:Nat):Prop:=cur.length=l.length∧ ∀q,q<l.length→cur[q]?=if q<i∨l.length≤q+i then l[l.length-1-q]? else l[q]?
section
variable {α : Type} {l cur : List α} {i : Nat} {x y : α}
theorem revG_start(l:List α):bGo l l 0:=⟨rfl,fun q hq=>by rw [if_neg (by omega)]⟩
theorem bMw(h:bGo l cur i)(hi:i<l.length-1-i)(hx:cur[l.length-1-i]?=some x)(hy:cur[i]?=some y):bGo l ((cur.set i x).set (l.length-1-i) y) (i+1):=by
 obtain⟨h1,h2⟩:=h;refine⟨by simp [h1],fun q hq=>?_⟩;have hx':=h2 (l.length-1-i) (by omega);have hy':=h2 i (by omega);rw [if_neg (by omega)] at hx' hy';rw [hx] at hx';rw [hy] at hy'
 by_cases e1:q=l.length-1-i
 ·subst e1;rw [List.getElem?_set_self (by simp;omega),if_pos (by omega),show l.length-1-(l.length-1-i)=i by omega];exact hy'
 ·rw [List.getElem?_set_ne (fun e=>e1 e.symm)]
  by_cases e2:q=i
  ·subst e2;rw [List.getElem?_set_self (by omega),if_pos (by omega)];exact hx'
  ·rw [List.getElem?_set_ne (fun e=>e2 e.symm),h2 q hq]
   by_cases hc:q<i∨l.length≤q+i
   ·rw [if_pos hc,if_pos (by omega)]
   ·rw [if_neg hc,if_neg (by omega)]
theorem revG_end(h:bGo l cur i)(hi:l.length≤2*i+1):cur=l.reverse:=by
 obtain⟨h1,h2⟩:=h;apply List.ext_getElem?;intro q
 by_cases hq:q<l.length
 ·rw [h2 q hq,List.getElem?_reverse hq]
  by_cases hc:q<i∨l.length≤q+i
  ·rw [if_pos hc]
  ·rw [if_neg hc,show l.length-1-q=q by omega]
 ·rw [List.getElem?_eq_none (by omega),List.getElem?_eq_none (by simp;omega)]
end
theorem oH:(Tryz.prog.info? 67).bind (·.zero)=some (.agg #[.slice none 0 0,.bool false,.slice none 0 0]):=by kernel_rfl
theorem sL(a0:Option Addr)(l0 c0:Nat):Tryz.prog.built 67 [(0,.slice a0 l0 c0)]=some #[.slice a0 l0 c0,.bool false,.slice none 0 0]:=by kernel_rfl
theorem rH(a0:Option Addr)(l0 c0:Nat)(b1:Bool)(a2:Option Addr)(l2 c2:Nat):Tryz.prog.built 67 [(0,.slice a0 l0 c0),(1,.bool b1),(2,.slice a2 l2 c2)]=some #[.slice a0 l0 c0,.bool b1,.slice a2 l2 c2]:=by kernel_rfl
set_option maxRecDepth 100000 in
theorem equalM_spec(p q:PolV)(hl:p.list.length≤140737488355328):dX Tryz.prog 209 [.slice p.addr p.list.length p.cap,.slice q.addr q.list.length q.cap] [] [mH.sl (.slice p.addr p.list.length p.cap) p.list,mH.sl (.slice q.addr q.list.length q.cap) q.list] (fun(_:Unit)=> .bool (decide (p.list=q.list))) (fun _=>[]) (fun _=>[]):=by
 have hT:=fI;refine cW Tryz.func209 rfl Tryz.ntmps209 rfl ?_;intro β hM;refine sr<|sp hT ?_;refine nn<|bA<|sr<|sp4 hT ?_;refine sp hT ?_;refine nn<|bL rfl (fun hc10=>?_) (fun hc10=>?_)
 ·have hc10:=bne_iff_ne.1 hc10;refine sr<|sp hT ?_;refine nn<|bF<|bB ?_;exact bV () rfl (bG rfl) .nil trivial (bBx (fun e=>by have:=congrArg List.length e;omega))
 have hc10:=bne_eq_false_iff_eq.1 hc10;refine bN<|bC<|bA<|sr<|sp3 hT ?_;refine nn<|bX<|dG (ι:=Nat) [(0,_),(1,_),(12,_)] ⟨rfl,rfl,rfl,trivial⟩ (fun i=>[(13,.int .i64 (i:Nat))]) (fun _=>[]) (fun i=>[Fact.pure (i≤p.list.length∧p.list.take i=q.list.take i)]) (fun i=>p.list.length-i) 0 ⟨rfl,trivial⟩ .nil ⟨Has.pure (⟨by omega,rfl⟩),trivial⟩ ?_;rintro i;refine bS (Has.of mT0) fun hinv4=>?_;refine sr<|sp hT ?_;refine nn<|bA<|bL rfl (fun hc14=>?_) (fun hc14=>?_)
 ·have hc14:=of_decide_eq_true hc14;refine bN<|bC<|bA<|bX<|sr<|sp2 hT ?_;refine nn<|bA<|cZ _ _ [(true,0),(true,1),(true,2),(true,3),(true,4),(true,5),(true,6),(true,7),(true,8)] dD (by decide+kernel) .nil bI.self ?_;refine puM hT ?_;refine puM hT ?_
  obtain⟨x1,hx2⟩: ∃x',p.list[i]?=some x':=⟨_,List.getElem?_eq_getElem (by omega)⟩
  refine stM rfl (bU hT (k:=i) (bK (Has.of mT1)) rfl rfl rfl rfl rfl rfl rfl (by omega)) ?_;refine stM rfl (dU hT (cN.knows (bK (Has.of mT1)) (k:=i) (x:=x1) hx2 0) rfl rfl rfl rfl rfl) ?_;refine puM hT ?_;refine puM hT ?_
  obtain⟨x3,hx4⟩: ∃x',q.list[i]?=some x':=⟨_,List.getElem?_eq_getElem (by omega)⟩
  refine stM rfl (bU hT (k:=i) (bK (Has.of mT2)) rfl rfl rfl rfl rfl rfl rfl (by omega)) ?_;refine stM rfl (dU hT (cN.knows (bK (Has.of mT2)) (k:=i) (x:=x3) hx4 0) rfl rfl rfl rfl rfl) ?_;refine stM rfl (sti_neq_mono x1 x3 rfl rfl rfl) ?_;refine cQ<|bC<|bL rfl (fun hc24=>?_) (fun hc24=>?_)
  ·have hc24:=fX hc24;refine sr<|sp hT ?_;refine nn<|bF<|bH<|bB<|bB<|bH<|bB ?_;exact bV () rfl (bG rfl) .nil trivial (bBx (bIj hx2 hx4 (mono_t ‹_›)))
  have hc24:=fP hc24;refine bN<|cD<|bC<|bD<|sp hT ?_;refine bT (z':=(((i+1):Nat):Int)) (cP (by omega) (by omega)) ?_;refine sp hT ?_;refine nn ?_;exact cO (i+1) (by omega) ⟨rfl,trivial⟩ ⟨rfl,rfl,rfl,trivial⟩ .nil ⟨Has.pure (⟨by omega,bBo hinv4.2 hx2 hx4 (mono_f ‹_›)⟩),trivial⟩ (bI.drop 1)
 have hc14:=Int.not_lt.1 (of_decide_eq_false hc14);refine dC<|cM<|cM<|dB<|bC<|sr<|sp hT ?_;refine nn<|bF ?_;exact bV () rfl (bG rfl) .nil trivial (eqT_of (bIo hinv4.2 (by omega) (by omega)))
set_option maxRecDepth 100000 in
theorem same1_spec(p q:PolV)(hl:p.list.length≤140737488355328):dX Tryz.prog 208 [.slice p.addr p.list.length p.cap,.slice q.addr q.list.length q.cap] [] [mH.sl (.slice p.addr p.list.length p.cap) p.list,mH.sl (.slice q.addr q.list.length q.cap) q.list] (fun(_:Unit)=> .bool (decide (p.list=q.list))) (fun _=>[]) (fun _=>[]):=by
 have hT:=fI;refine cW Tryz.func208 rfl Tryz.ntmps208 rfl ?_;intro β hM;refine sr<|sp hT ?_;refine nn<|sr<|sp2 hT ?_;refine bR Tryz.func209 (equalM_spec p q hl) rfl rfl .nil ⟨Has.of mT0,Has.of mT1,trivial⟩ fun _=>?_;refine sp hT ?_;refine nn<|bF ?_;exact bV () rfl (bG rfl) .nil trivial (rfl)
set_option maxRecDepth 100000 in
theorem equalF_spec(A B:Option Addr)(ca cb:Nat)(a b:List PolV)(hl:a.length≤140737488355328):dX Tryz.prog 207 [.slice A a.length ca,.slice B b.length cb,.func (.func 208) #[] #[]] [] [cH.sl (.slice A a.length ca) a,cT a,cH.sl (.slice B b.length cb) b,cT b] (fun(_:Unit)=> .bool (decide (cB a=cB b))) (fun _=>[]) (fun _=>[]):=by
 have hT:=fI;refine cW Tryz.func207 rfl Tryz.ntmps207 rfl ?_;intro β hM;refine sr<|sp hT ?_;refine nn<|bA<|sr<|sp4 hT ?_;refine sp hT ?_;refine nn<|bL rfl (fun hc14=>?_) (fun hc14=>?_)
 ·have hc14:=bne_iff_ne.1 hc14;refine sr<|sp hT ?_;refine nn<|bF<|bB ?_;exact bV () rfl (bG rfl) .nil trivial (bBx (fun e=>by have:=congrArg List.length e;rw [bW,bW] at this;omega))
 have hc14:=bne_eq_false_iff_eq.1 hc14;refine bN<|bC<|bA<|sr<|sp3 hT ?_;refine nn<|bX<|dG (ι:=Nat) [(1,_),(2,_),(15,_),(16,_)] ⟨rfl,rfl,rfl,rfl,trivial⟩ (fun i=>[(17,.int .i64 (i:Nat))]) (fun _=>[]) (fun i=>[Fact.pure (i≤a.length∧(cB a).take i=(cB b).take i)]) (fun i=>a.length-i) 0 ⟨rfl,trivial⟩ .nil ⟨Has.pure (⟨by omega,rfl⟩),trivial⟩ ?_;rintro i;refine bS (Has.of mT0) fun hinv4=>?_;refine sr<|sp hT ?_;refine nn<|bA<|bL rfl (fun hc18=>?_) (fun hc18=>?_)
 ·have hc18:=of_decide_eq_true hc18;refine bN<|bC<|bA<|bX<|sr<|sp hT ?_
  obtain⟨x1,hx2⟩: ∃x',a[i]?=some x':=⟨_,List.getElem?_eq_getElem (by omega)⟩
  refine ss (bU hT (k:=i) (bK (Has.of mT1)) rfl rfl rfl rfl rfl rfl rfl (by omega)) ?_;refine ss (cE hT (cN.knows (bK (Has.of mT1)) (k:=i) (x:=x1) hx2 0) rfl rfl rfl rfl rfl) ?_;refine sp2 hT ?_;refine nn<|sr<|sp2 hT ?_
  obtain⟨x3,hx4⟩: ∃x',b[i]?=some x':=⟨_,List.getElem?_eq_getElem (by omega)⟩
  refine ss (bU hT (k:=i) (bK (Has.of mT3)) rfl rfl rfl rfl rfl rfl rfl (by omega)) ?_;refine ss (cE hT (cN.knows (bK (Has.of mT3)) (k:=i) (x:=x3) hx4 0) rfl rfl rfl rfl rfl) ?_;refine sp hT ?_;refine nn<|sr<|sp3 hT ?_;refine bS (fC (Has.each (Has.of mT2) (List.mem_of_getElem? hx2))) fun hxl=>?_;refine gP (cR Tryz.func208 rfl rfl) (same1_spec x1 x3 hxl) rfl rfl rfl rfl rfl rfl rfl .nil ⟨vX (Has.each (Has.of mT2) (List.mem_of_getElem? hx2)),vX (Has.each (Has.of mT4) (List.mem_of_getElem? hx4)),trivial⟩ fun _=>?_;refine sp hT ?_;refine nn<|bL rfl (fun hc30=>?_) (fun hc30=>?_)
  ·have hc30:=fX hc30;refine sr<|sp hT ?_;refine nn<|bF<|bH<|bB<|bB<|bH<|bB ?_;exact bV () rfl (bG rfl) .nil trivial (bBx (bIj (iA hx2) (iA hx4) (of_decide_eq_false (by simpa using (by assumption:(!decide _)=true)))))
  have hc30:=fP hc30;refine bN<|cD<|bC<|bD<|sp hT ?_;refine bT (z':=(((i+1):Nat):Int)) (cP (by omega) (by omega)) ?_;refine sp hT ?_;refine nn ?_;exact cO (i+1) (by omega) ⟨rfl,trivial⟩ ⟨rfl,rfl,rfl,rfl,trivial⟩ .nil ⟨Has.pure (⟨by omega,bBo hinv4.2 (iA hx2) (iA hx4) (of_decide_eq_true (by simpa using (by assumption:(!decide _)=false)))⟩),trivial⟩ (bI.drop 1)
 have hc18:=Int.not_lt.1 (of_decide_eq_false hc18);refine dC<|cM<|cM<|dB<|bC<|sr<|sp hT ?_;refine nn<|bF ?_;exact bV () rfl (bG rfl) .nil trivial (eqT_of (bIo hinv4.2 (by rw [bW];omega) (by rw [bW];omega)))
set_option maxRecDepth 100000 in
theorem rE(A B:Option Addr)(ca cb:Nat)(a b:List PolV)(hl:a.length≤140737488355328):dX Tryz.prog 148 [.slice A a.length ca,.slice B b.length cb] [] [cH.sl (.slice A a.length ca) a,cT a,cH.sl (.slice B b.length cb) b,cT b] (fun(_:Unit)=> .bool (decide (cB a=cB b))) (fun _=>[]) (fun _=>[]):=by
 have hT:=fI;refine cW Tryz.func148 rfl Tryz.ntmps148 rfl ?_;intro β hM;refine sr<|sp hT ?_;refine nn<|sr<|sp2 hT ?_;refine bR Tryz.func207 (equalF_spec A B ca cb a b hl) rfl rfl .nil ⟨Has.of mT0,Has.of mT1,Has.of mT2,Has.of mT3,trivial⟩ fun _=>?_;refine sp hT ?_;refine nn<|bF ?_;exact bV () rfl (bG rfl) .nil trivial (rfl)
set_option maxRecDepth 100000 in
theorem wI(A:Option Addr)(c:Nat)(l:List PolV)(hl:l.length≤5864062014805):dX Tryz.prog 202 [.slice A l.length c] [] [cH.sl (.slice A l.length c) l] (fun(x:Option Addr×Nat)=> .slice x.1 l.length x.2) (fun(x:Option Addr×Nat)=>[cH.row (.slice x.1 l.length x.2) 71 l]) (fun _=>[]):=by
 have hT:=fI;refine cW Tryz.func202 rfl Tryz.ntmps202 rfl ?_;intro β hM;refine sr<|sp hT ?_;refine nn<|bA<|sr<|sp hT ?_;refine ss (bKu Tryz.underlying65 rfl rfl) ?_;refine nn<|bL rfl (fun hc4=>?_) (fun hc4=>?_)
 ·refine bA<|bE (Fact.pure (A.isNone=true→l=[])) (bNf (Has.of mT0)) ?_;refine bS (Has.of mT0) fun hnil=>?_;have hl0:=hnil ‹_›;subst hl0;refine dR (t:=71) cH ?_;refine bD<|sp hT ?_;refine nn<|bF<|bB ?_;exact bV (_,_) rfl (bG rfl) (.cons .head .nil) trivial rfl
 refine bN<|bC<|sr<|at_none_pols rfl rfl rfl rfl fun b1=>?_;refine sp hT ?_;refine gJ .head (bK (Has.of mT0)) rfl rfl rfl rfl rfl rfl rfl (by simp;omega) fun A2 c3=>?_;rw [List.nil_append];refine sp hT ?_;refine nn<|bF ?_;exact bV (_,_) rfl (bG rfl) (.cons .head .nil) trivial rfl
set_option maxRecDepth 100000 in
theorem cloneM_spec(A:Option Addr)(c:Nat)(l:List Mono)(hl:l.length≤8796093022208):dX Tryz.prog 88 [.slice A l.length c] [] [mH.sl (.slice A l.length c) l] (fun(x:Option Addr×Nat)=> .slice x.1 l.length x.2) (fun(x:Option Addr×Nat)=>[mH.row (.slice x.1 l.length x.2) 74 l]) (fun _=>[]):=by
 have hT:=fI;refine cW Tryz.func88 rfl Tryz.ntmps88 rfl ?_;intro β hM;refine sr<|sp hT ?_;refine nn<|bA<|sr<|sp hT ?_;refine ss (bKu Tryz.underlying71 rfl rfl) ?_;refine nn<|bL rfl (fun hc4=>?_) (fun hc4=>?_)
 ·refine bA<|bE (Fact.pure (A.isNone=true→l=[])) (bNf (Has.of mT0)) ?_;refine bS (Has.of mT0) fun hnil=>?_;have hl0:=hnil ‹_›;subst hl0;refine dR (t:=74) mH ?_;refine bD<|sp hT ?_;refine nn<|bF<|bB ?_;exact bV (_,_) rfl (bG rfl) (.cons .head .nil) trivial rfl
 refine bN<|bC<|sr<|at_none_mono rfl rfl rfl rfl fun b1=>?_;refine sp hT ?_;refine at_app_mono .head (bK (Has.of mT0)) rfl rfl rfl rfl rfl rfl rfl (by simp;omega) fun A2 c3=>?_;rw [List.nil_append];refine sp hT ?_;refine nn<|bF ?_;exact bV (_,_) rfl (bG rfl) (.cons .head .nil) trivial rfl
set_option maxRecDepth 100000 in
theorem bKg(A:Option Addr)(c:Nat)(l:List PolV)(hl:l.length≤140737488355328):dX Tryz.prog 203 [.slice A l.length c] [cH.row (.slice A l.length c) 71 l] [] (fun(_:Unit)=> .tuple #[]) (fun(_:Unit)=>[cH.row (.slice A l.length c) 71 l.reverse]) (fun _=>[]):=by
 have hT:=fI;refine cW Tryz.func203 rfl Tryz.ntmps203 rfl ?_;intro β hM;refine sr<|sp3 hT ?_;refine bT (z':=(l.length:Int)-1-((0:Nat):Int)) (wrapTo (by omega) (by omega) (by omega)) ?_;refine sp2 hT ?_;refine nn<|bX<|dG (ι:=Nat×List PolV) [(0,_)] ⟨rfl,trivial⟩ (fun⟨i,cur⟩=>[(2,.int .i64 (i:Nat)),(3,.int .i64 ((l.length:Int)-1-(i:Nat)))]) (fun⟨i,cur⟩=>[cH.row (.slice A l.length c) 71 cur]) (fun⟨i,cur⟩=>[Fact.pure (i≤l.length∧bGo l cur i)]) (fun⟨i,cur⟩=>l.length-i) (0,l) ⟨rfl,rfl,trivial⟩ (.cons .head .nil) ⟨Has.pure (⟨by omega,revG_start l⟩),trivial⟩ ?_;rintro⟨i,cur⟩;dsimp only;refine bS (Has.of mT0) fun hinv1=>?_;refine bA<|sr<|sp3 hT ?_;refine nn<|bL rfl (fun hc9=>?_) (fun hc9=>?_)
 ·have hc9:=of_decide_eq_true hc9;refine bN<|bC<|bA<|bX ?_;have hlt:i<l.length-1-i:=by omega
  have hcl:=hinv1.2.1;refine wZ .head (by omega) fun g1 hg=>?_;subst hg;have ej:((l.length:Int)-1-(i:Nat))=((l.length-1-i:Nat):Int):=by omega
  rw [ej];refine qH _ _ (.fl 0 (.fl 1 (.fl 2 (.fl 3 (.fl 4 (.fl 5 (.fl 6 (.fl 8 (.fl 9 (.fl 10 (.two 7 11 (.op 11 (.fl 12 (.op 13 (.fl 14 (.op 15 .nil))))) (.op 7 (.fl 12 (.op 13 (.fl 14 (.op 15 .nil)))))))))))))))) dD (by decide+kernel) .nil bI.self ?_;refine pvT hT ?_;refine pvT hT ?_;refine pvT hT ?_;refine pvT hT ?_;refine pvT hT ?_;refine pvT hT ?_
  obtain⟨x2,hx3⟩: ∃x',cur[(l.length-1-i)]?=some x':=⟨_,List.getElem?_eq_getElem (by first | omega | (simp only [List.length_set];omega))⟩
  refine sqT rfl (iP hT (k:=(l.length-1-i)) rfl rfl rfl rfl rfl rfl (by first | omega | (simp only [List.length_set];omega))) ?_;refine pvT hT ?_;refine pvT hT ?_
  obtain⟨x4,hx5⟩: ∃x',cur[i]?=some x':=⟨_,List.getElem?_eq_getElem (by first | omega | (simp only [List.length_set];omega))⟩
  refine sqT rfl (iP hT (k:=i) rfl rfl rfl rfl rfl rfl (by first | omega | (simp only [List.length_set];omega))) ?_;refine nA (o:=_) (o':=_) rfl rfl ?_ ?_
  ·refine ss (cE hT (cN.knows (cJ .head) (k:=(l.length-1-i)) (x:=x2) hx3 0) rfl rfl rfl rfl rfl) ?_;refine dA .nil (bI.drop 0) ?_;refine fB (o:=_) rfl ?_;refine ss (cE hT (cN.knows (cJ .head) (k:=i) (x:=x4) hx5 0) rfl rfl rfl rfl rfl) ?_;refine dA .nil (bI.drop 0) ?_;refine sqT rfl (iP hT (k:=i) rfl rfl rfl rfl rfl rfl (by first | omega | (simp only [List.length_set];omega))) ?_;refine fB (o:=_) rfl ?_;refine gK hT (k:=i) (fo:=0) (y':=x2) .head rfl rfl rfl rfl rfl rfl rfl rfl rfl hx5 rfl ?_;refine dA .nil (bI.drop 0) ?_
   obtain⟨x6,hx7⟩: ∃x',(cur.set i x2)[(l.length-1-i)]?=some x':=⟨_,List.getElem?_eq_getElem (by first | omega | (simp only [List.length_set];omega))⟩
   refine sqT rfl (iP hT (k:=(l.length-1-i)) rfl rfl rfl rfl rfl rfl (by first | omega | (simp only [List.length_set];omega))) ?_;refine fB (o:=_) rfl ?_;refine gK hT (k:=(l.length-1-i)) (fo:=0) (y':=x4) .head rfl rfl rfl rfl rfl rfl rfl rfl rfl hx7 rfl ?_;refine dA .nil (bI.drop 0) ?_;refine iD<|cD<|bC<|bD<|sp2 hT ?_;refine bT (z':=(((i+1):Nat):Int)) (cP (by omega) (by omega)) ?_;refine sp2 hT ?_;refine bT (z':=(l.length:Int)-1-((i+1:Nat):Int)) (wrapTo (by omega) (by omega) (by omega)) ?_;refine sp2 hT ?_;refine nn ?_;exact cO (i+1,_) (by dsimp only;omega) ⟨rfl,rfl,trivial⟩ ⟨rfl,trivial⟩ (.cons .head .nil) ⟨Has.pure (⟨by dsimp only;omega,bMw hinv1.2 hlt ‹_› ‹_›⟩),trivial⟩ (bI.drop 1)
  refine ss (cE hT (cN.knows (cJ .head) (k:=i) (x:=x4) hx5 0) rfl rfl rfl rfl rfl) ?_;refine dA .nil (bI.drop 0) ?_;refine fB (o:=_) rfl ?_;refine ss (cE hT (cN.knows (cJ .head) (k:=(l.length-1-i)) (x:=x2) hx3 0) rfl rfl rfl rfl rfl) ?_;refine dA .nil (bI.drop 0) ?_;refine sqT rfl (iP hT (k:=i) rfl rfl rfl rfl rfl rfl (by first | omega | (simp only [List.length_set];omega))) ?_;refine fB (o:=_) rfl ?_;refine gK hT (k:=i) (fo:=0) (y':=x2) .head rfl rfl rfl rfl rfl rfl rfl rfl rfl hx5 rfl ?_;refine dA .nil (bI.drop 0) ?_
  obtain⟨x8,hx9⟩: ∃x',(cur.set i x2)[(l.length-1-i)]?=some x':=⟨_,List.getElem?_eq_getElem (by first | omega | (simp only [List.length_set];omega))⟩
  refine sqT rfl (iP hT (k:=(l.length-1-i)) rfl rfl rfl rfl rfl rfl (by first | omega | (simp only [List.length_set];omega))) ?_;refine fB (o:=_) rfl ?_;refine gK hT (k:=(l.length-1-i)) (fo:=0) (y':=x4) .head rfl rfl rfl rfl rfl rfl rfl rfl rfl hx9 rfl ?_;refine dA .nil (bI.drop 0) ?_;refine iD<|cD<|bC<|bD<|sp2 hT ?_;refine bT (z':=(((i+1):Nat):Int)) (cP (by omega) (by omega)) ?_;refine sp2 hT ?_;refine bT (z':=(l.length:Int)-1-((i+1:Nat):Int)) (wrapTo (by omega) (by omega) (by omega)) ?_;refine sp2 hT ?_;refine nn ?_;exact cO (i+1,_) (by dsimp only;omega) ⟨rfl,rfl,trivial⟩ ⟨rfl,trivial⟩ (.cons .head .nil) ⟨Has.pure (⟨by dsimp only;omega,bMw hinv1.2 hlt ‹_› ‹_›⟩),trivial⟩ (bI.drop 1)
 have hc9:=Int.not_lt.1 (of_decide_eq_false hc9);refine dC<|cM<|cM<|dB ?_;have hr:=revG_end hinv1.2 (by omega);subst hr;exact uM () rfl (.cons .head .nil) trivial (rfl)
set_option maxRecDepth 100000 in
theorem jB(n:Int):dX Tryz.prog 80 [.int .i64 n] [] [] (fun(x:Option Addr×Nat)=> .slice x.1 (numT n).length x.2) (fun _=>[]) (fun(x:Option Addr×Nat)=>[mN ⟨x.1,x.2,numT n⟩]):=by
 have hT:=fI;refine cW Tryz.func80 rfl Tryz.ntmps80 rfl ?_;intro β hM;refine sr<|sp hT ?_;refine nn<|sr<|sp hT ?_;refine bR Tryz.func140 (yZ n) rfl rfl .nil trivial fun⟨A1,c2⟩=>?_;refine sp4 hT ?_;refine sp hT ?_;refine nn<|sr<|sp2 hT ?_;refine nn<|bF ?_;exact bV (A1,c2) rfl (bG rfl) .nil ⟨(Has.of mT0),trivial⟩ rfl
set_option maxRecDepth 100000 in
theorem dW(A:Option Addr)(n c:Nat):dX Tryz.prog 81 [.slice A n c] [] [] (fun(_:Unit)=> .agg #[.slice A n c,.bool false,.slice none 0 0]) (fun _=>[]) (fun _=>[]):=by
 have hT:=fI;refine cW Tryz.func81 rfl Tryz.ntmps81 rfl ?_;intro β hM;refine sr<|bY rfl rfl rfl rfl oH rfl fun b1=>?_;refine nn<|sr<|sp hT ?_;refine ss (cC rfl rfl (sL _ _ _)) ?_;refine sto hT .head ?_;refine nn<|bF ?_;exact bV () rfl (bM hT (bJ .head) rfl rfl rfl rfl) .nil trivial rfl
set_option maxRecDepth 100000 in
theorem iR(A B:Option Addr)(n m c d:Nat):dX Tryz.prog 79 [.slice A n c,.slice B m d] [] [] (fun(_:Unit)=> .agg #[.slice A n c,.bool true,.slice B m d]) (fun _=>[]) (fun _=>[]):=by
 have hT:=fI;refine cW Tryz.func79 rfl Tryz.ntmps79 rfl ?_;intro β hM;refine sr<|bY rfl rfl rfl rfl oH rfl fun b1=>?_;refine nn<|sr<|sp2 hT ?_;refine ss (cC rfl rfl (rH _ _ _ _ _ _ _)) ?_;refine sto hT .head ?_;refine nn<|bF ?_;exact bV () rfl (bM hT (bJ .head) rfl rfl rfl rfl) .nil trivial rfl
abbrev Pol:=List Mono
structure TyP where
 sides:List Pol
 known:Bool
 values:List Pol
 deriving Inhabited,DecidableEq
def TyV.t (x:TyV):TyP:=⟨cB x.sides.list,x.known,cB x.values.list⟩
def jM (nums:List Int):TyP:=
 if nums.any (fun n=>decide ((iL n).2≠0))=true∨4<nums.length then ⟨if 1<nums.length then [numT nums.length] else [],false,[]⟩
 else ⟨if 1<nums.length then [numT nums.length] else [],true,nums.map numT⟩
abbrev pR:=Pol→Pol→Pol×Int
def xH (op:pR):List Pol→List Pol→Option (List Pol)
 | [],_=>some []
 | _::_,[]=>none
 | p::x,q::y=>if (op p q).2≠0 then none else (xH op x y).map ((op p q).1:: ·)
def repT (x:List Pol)(n:Nat):List Pol:=(List.replicate n x).flatten
def uO (a b:TyP):List Pol:=if a.sides=[]∧b.sides≠[] then repT a.values b.values.length else a.values
def sE (a b:TyP):List Pol:=if b.sides=[]∧a.sides≠[] then repT b.values a.values.length else b.values
def kN (op:Option pR)(a b:TyP):List Pol×Bool:=
 match op with
 | none=>([],false)
 | some op=>if a.known=false∨b.known=false then ([],false) else match xH op (uO a b) (sE a b) with
  | none=>([],false)
  | some l=>(l,true)
def addO:pR:=fun p q=>cX p q 1
def vJ:pR:=fun p q=>cX p q (-1)
def oM:Pol→List Pol→Option Pol
 | p,[]=>some p
 | p,s::r=>if (pP p s).2≠0 then none else oM (pP p s).1 r
def gQ (f:Int)(a:TyP):TyP×Int:=
 if f=32 then
  if a.sides≠[] then (a,90) else if a.known=false then (a,92) else if lS (a.values.headD [])=false then (a,93) else (⟨[a.values.headD []],false,[]⟩,0)
 else if f=33 then (⟨[numT a.sides.length],true,a.sides⟩,0)
 else if f=34 then match oM (numT 1) a.sides with
  | none=>(a,95)
  | some p=>(⟨[p],a.known,a.values⟩,0)
 else if f=35 then (if a.sides≠[] then ⟨a.sides,a.known,a.values.reverse⟩ else a,0)
 else if f=36 then (⟨a.sides.reverse,a.known,a.values⟩,0)
 else if f=1 then (a,0)
 else if f=2 then (⟨a.sides,(kN (some vJ) ⟨[],true,[[]]⟩ a).2,(kN (some vJ) ⟨[],true,[[]]⟩ a).1⟩,0)
 else (⟨a.sides,false,[]⟩,0)
def yL (a b:TyP):TyP×Int:=
 if 1<a.sides.length then (a,90) else if a.known=false then (a,92)
 else if a.values.any (fun v=>!lS v)=true then (a,93)
 else if b.sides.any (fun s=>!gR s 1)=true then (a,94)
 else (⟨a.values,false,[]⟩,0)
def bFx (m:Mono):Mono:=⟨1,m.e0,m.e1,m.e2,m.e3,m.e4,m.e5⟩
def qE (v:Pol):Option Int:=
 match v with
 | []=>some 0
 | [m]=>if gR [bFx m] 1=false then none else some m.n
 | _=>none
def uX (take:Bool)(n:Int)(l:List Pol):List Pol:=
 if take=decide (0≤n) then l.take (if n<0 then n+l.length else n).toNat else l.drop (if n<0 then n+l.length else n).toNat
def lU (take:Bool)(a b:TyP):TyP×Int:=
 if a.sides≠[]∨b.sides=[] then (a,90) else if a.known=false then (a,92)
 else match qE (a.values.headD []) with
  | none=>(a,93)
  | some n=>
   if gR (b.sides.headD []) (max n (-n))=false then (a,93)
   else if take=true then (⟨numT (max n (-n))::b.sides.tail,b.known,if b.known=true then uX take n b.values else b.values⟩,0)
   else if (cX (b.sides.headD []) (numT (max n (-n))) (-1)).2≠0 then (a,95)
   else (⟨(cX (b.sides.headD []) (numT (max n (-n))) (-1)).1::b.sides.tail,b.known,if b.known=true then uX take n b.values else b.values⟩,0)
def dV (l:List Pol):List Pol:=if l=[] then [numT 1] else l
def yX (a b:TyP):TyP×Int:=
 if (dV a.sides).length≠(dV b.sides).length∨(dV a.sides).tail≠(dV b.sides).tail then (a,91)
 else if (cX ((dV a.sides).headD []) ((dV b.sides).headD []) 1).2≠0 then (a,95)
 else if a.known=true∧b.known=true∧a.values.length+b.values.length≤4 then (⟨(cX ((dV a.sides).headD []) ((dV b.sides).headD []) 1).1::(dV b.sides).tail,true,a.values++b.values⟩,0)
 else (⟨(cX ((dV a.sides).headD []) ((dV b.sides).headD []) 1).1::(dV b.sides).tail,false,[]⟩,0)
def uU (f:Int):Option pR:=if f=1 then some addO else if f=2 then some vJ else if f=3 then some pP else none
def pO (f:Int)(a b:TyP):TyP×Int:=
 if f=37 then yL a b else if f=38 then lU true a b else if f=39 then lU false a b else if f=40 then yX a b
 else if a.sides≠[]∧b.sides≠[]∧a.sides≠b.sides then (⟨a.sides,false,[]⟩,91)
 else (⟨if a.sides=[] then b.sides else a.sides,(kN (uU f) a b).2,(kN (uU f) a b).1⟩,0)
abbrev gM:=List (Bs×TyP)
def nY (k:Bs):gM→Option TyP
 | []=>none
 | p::r=>if k=p.1 then some p.2 else nY k r
def jS:Bs:=[108,105,110,101,32]
def nIn:Bs:=[105,110,32]
def nameT (N:gM)(s:Bs):Option TyP:=match nY (jS++s) N with
 | some t=>some t
 | none=>match nY (nIn++s) N with
  | some t=>some t
  | none=>nY s N
def gC (N:gM)(it:dJ)(st:List TyP):TyP×Int:=
 if it.how=1 then (jM it.nums,0)
 else if it.how=2 then (match nameT N it.name with
  | some t=>(t,0)
  | none=>(⟨[],false,[]⟩,83))
 else if it.how=3 then gQ it.fn (st.headD default)
 else if it.how=5 then (if (st.headD default).sides=[] then st.headD default else ⟨(st.headD default).sides.take ((st.headD default).sides.length-1),false,[]⟩,0)
 else if it.how=6 then (if (st.headD default).sides=[] then st.headD default else ⟨(st.headD default).sides,false,[]⟩,0)
 else if it.how=4 then pO it.fn (st.tail.headD default) (st.headD default)
 else (⟨(st.tail.headD default).sides++(st.headD default).sides,false,[]⟩,if 4<(st.tail.headD default).sides.length+(st.headD default).sides.length then 90 else 0)
def gL (N:gM):List dJ→List TyP→List TyP→Except Flt (List TyP×List TyP)
 | [],st,all=> .ok (st,all)
 | it::r,st,all=>if (gC N it st).2≠0 then .error (it.at_,(gC N it st).2) else gL N r ((gC N it st).1::st.drop (gZ it)) (all++[(gC N it st).1])
def jT (N:gM):List kL→List (List TyP)→List (List TyP)×Flt
 | [],out=>(out,(0,0))
 | l::r,out=>match gL N l.items [] [] with
  | .error f=>([],f)
  | .ok (st,all)=>jT ((jS++l.name,st.getLastD default)::N) r (out++[all])
def varT (k:Nat):TyP:=⟨[],true,[(tE k).1]⟩
def bDm:List Bs→Nat→gM→gM
 | [],_,N=>N
 | s::r,k,N=>bDm r (k+1) ((s,varT k)::N)
def sideT'(vars:List Bs)(d:qM):Pol:=if 0≤jR d.name vars 0 then (tE (jR d.name vars 0)).1 else numT d.n
def inT (vars:List Bs)(x:gG):TyP:=⟨x.sides.map (sideT' vars),false,[]⟩
def bJz (vars:List Bs):List gG→gM→gM
 | [],N=>N
 | x::r,N=>bJz vars r ((nIn++x.name,inT vars x)::N)
def nU (p:Prog):gM:=bJz (varsP p) p.inputs (bDm (varsP p) 0 [])
def fK (p:Prog):List (List TyP)×Flt:=
 if (dQ p).2=false then ([],(0,50))
 else match p.inputs.find? (rN (varsP p)) with
  | some x=>([],(x.at_,80))
  | none=>jT (nU p) p.lines []
def dO (l:Sl PolV):Fact:=((cH.sl (.slice l.addr l.list.length l.cap) l.list).and (cT l.list)).and (Fact.pure (l.list.length≤l.cap))
def tyF (x:TyV):Fact:=(dO x.sides).and (dO x.values)
section
variable {F : List Fact} {l : Sl PolV} {x : TyV} {p : PolV} {xs : List PolV}
theorem dL(h:Has F (dO l)):Has F (cH.sl (.slice l.addr l.list.length l.cap) l.list):=h.left.left
theorem dN(h:Has F (dO l)):Has F (cT l.list):=h.left.right
theorem dT(h:Has F (dO l)):Has F (Fact.pure (l.list.length≤l.cap)):=h.right
theorem cY{A:Option Addr}{c:Nat}(h:Has F (cH.sl (.slice A xs.length c) xs))(k:Has F (cT xs))(hc:xs.length≤c):Has F (dO ⟨A,c,xs⟩):=(h.and k).and (Has.pure hc)
theorem dE:Has F (dO ⟨none,0,[]⟩):=cY rQ Has.each_nil (Nat.le_refl _)
theorem iS(h:Has F (mN p)):Has F (cT [p]):=Has.each_cons h Has.each_nil
theorem cU(h:Has F (dO x.sides))(k:Has F (dO x.values)):Has F (tyF x):=h.and k
theorem lV(h:Has F (tyF x)):Has F (dO x.sides):=h.left
theorem lO(h:Has F (tyF x)):Has F (dO x.values):=h.right
theorem polsF_rev(h:Has F (cT xs)):Has F (cT xs.reverse):=fun S w k p hp=>h S w k p (List.mem_reverse.1 hp)
theorem sl_rev{A:Option Addr}{c:Nat}(h:Has F (cH.sl (.slice A xs.length c) xs.reverse)):Has F (cH.sl (.slice A xs.reverse.length c) xs.reverse):=by rw [List.length_reverse];exact h
end
structure WfT (t:TyP):Prop where
 len:t.sides.length≤4
 sr: ∀s∈t.sides,fF s=true
 vr: ∀v∈t.values,fF v=true
 kn:t.known=true→t.values.length≤4∧(t.sides=[]∧t.values.length=1∨t.sides=[numT t.values.length])
 un:t.known=false→t.values=[]
def tyC (x:TyV):Value:= .agg #[.slice x.sides.addr x.sides.list.length x.sides.cap,.bool x.known,.slice x.values.addr x.values.list.length x.values.cap]
def bEb (nums:List Int)(l:List PolV)(i:Nat):Prop:=cB l=(nums.take i).map numT∧(∀n∈nums.take i,(iL n).2=0)∧(0<i→nums.length≤4)
theorem bLi(nums:List Int):bEb nums [] 0:=⟨rfl,fun n hn=>by simp at hn,fun h=>absurd h (by decide)⟩
section
variable {nums : List Int} {l : List PolV} {i : Nat} {n : Int} {p : PolV}
theorem bEb.len(h:bEb nums l i)(hi:i≤nums.length):l.length=i:=by
 have:=congrArg List.length h.1;rw [bW,List.length_map,List.length_take] at this;omega
theorem lit_step(h:bEb nums l i)(hn:nums[i]?=some n)(hp:p.list=numT n)(h0:(iL n).2=0)(h4:nums.length≤4):bEb nums (l++[p]) (i+1):=by
 obtain⟨hi,e⟩:=List.getElem?_eq_some_iff.1 hn;obtain⟨a,b,_⟩:=h;refine⟨?_,fun m hm=>?_,fun _=>h4⟩
 ·rw [List.take_succ_eq_append_getElem hi,e,List.map_append,←a];unfold cB;rw [List.map_append,List.map_singleton,List.map_singleton,hp]
 ·rw [List.take_succ_eq_append_getElem hi,e] at hm
  rcases List.mem_append.1 hm with hm | hm
  ·exact b m hm
  ·rw [List.mem_singleton.1 hm];exact h0
theorem bEz(hn:nums[i]?=some n)(h:(iL n).2≠0∨4<nums.length):jM nums=⟨if 1<nums.length then [numT nums.length] else [],false,[]⟩:=by
 unfold jM;rw [if_pos]
 rcases h with h | h
 ·refine .inl (List.any_eq_true.2 ⟨n,List.mem_of_getElem? hn,?_⟩)
  simpa using h
 ·exact .inr h
theorem lit_end(h:bEb nums l i)(hi:nums.length≤i)(hl:i≤nums.length):jM nums=⟨if 1<nums.length then [numT nums.length] else [],true,cB l⟩:=by
 obtain⟨a,b,c⟩:=h;rw [List.take_of_length_le hi] at a b;unfold jM;rw [if_neg,a];rintro(k | k)
 ·obtain⟨n,hn,k⟩:=List.any_eq_true.1 k;have:=b n hn;simp [this] at k
 ·have:=c (by omega);omega
end
set_option maxRecDepth 100000 in
theorem bIy(l:Sl PolV)(hl:l.list.length≤5864062014805):dX Tryz.prog 142 [.slice l.addr l.list.length l.cap] [] [dO l] (fun(x:Option Addr×Nat)=> .slice x.1 l.list.reverse.length x.2) (fun _=>[]) (fun(x:Option Addr×Nat)=>[dO ⟨x.1,x.2,l.list.reverse⟩]):=by
 have hT:=fI;refine cW Tryz.func142 rfl Tryz.ntmps142 rfl ?_;intro β hM;refine sr<|sp hT ?_;refine nn<|sr<|sp hT ?_;refine bR Tryz.func202 (wI l.addr l.cap l.list hl) rfl rfl .nil ⟨dL (Has.of mT0),trivial⟩ fun⟨A1,c2⟩=>?_;refine sp hT ?_;refine nn<|sr<|sp hT ?_;refine bR Tryz.func203 (bKg A1 c2 l.list (by omega)) rfl rfl (.cons .head .nil) trivial fun _=>?_;refine nn<|sr<|sp2 hT ?_;refine nn<|bF<|iI .head fun hcp=>?_;refine cS .head ?_;exact bV (A1,c2) rfl (bG rfl) .nil ⟨cY (sl_rev (Has.of mT0)) (polsF_rev (dN (Has.of mT1))) (by simpa using hcp),trivial⟩ (by rw [List.length_reverse])
set_option maxRecDepth 100000 in
theorem bKj(A:Option Addr)(c:Nat)(nums:List Int)(hl:nums.length≤1000000):dX Tryz.prog 82 [.slice A nums.length c] [] [bKh.sl (.slice A nums.length c) nums] (fun(x:TyV)=>tyC x) (fun _=>[]) (fun(x:TyV)=>[tyF x,Fact.pure (x.t=jM nums)]):=by
 have hT:=fI;refine cW Tryz.func82 rfl Tryz.ntmps82 rfl ?_;intro β hM;refine sr<|bY rfl rfl rfl rfl oH rfl fun b1=>?_;refine nn<|sr<|sp hT ?_;refine nn<|bA<|sr<|sp3 hT ?_;refine nn<|bL rfl (fun hc11=>?_) (fun hc11=>?_)
 ·have hc11:=of_decide_eq_true hc11;refine bD<|sp2 hT ?_;refine bR Tryz.func80 (jB (((nums.length:Nat):Int))) rfl rfl .nil trivial fun⟨A2,c3⟩=>?_;refine fE (m:=⟨A2,c3,numT (((nums.length:Nat):Int))⟩) rfl rfl rfl rfl rfl fun b4=>?_;refine fD (E:=cH) (xs:=[(⟨A2,c3,numT (((nums.length:Nat):Int))⟩:PolV)]) .head (by simp [maxLen]) ?_;refine cS .head ?_;refine bE (cT [(⟨A2,c3,numT (((nums.length:Nat):Int))⟩:PolV)]) (iS (Has.of mT1)) ?_;refine sp hT ?_;refine nn<|sr<|sp hT ?_;refine bR Tryz.func79 (iR (some ⟨b4,0,none⟩) none ([(⟨A2,c3,numT (((nums.length:Nat):Int))⟩:PolV)].length) (0) 1 0) rfl rfl .nil trivial fun _=>?_;refine bY rfl rfl rfl rfl oH rfl fun b5=>?_;refine sto hT .head ?_;refine nn<|bA<|sr<|sp3 hT ?_;refine nn<|bX<|dR (t:=71) cH ?_;refine bE (cT []) (Has.each_nil) ?_;refine dG (ι:=Nat×List PolV×Option Addr×Nat) [(0,_),(2,_),(3,_),(4,_),(18,_),(19,_)] ⟨rfl,rfl,rfl,rfl,rfl,rfl,trivial⟩ (fun⟨i,vs,V,cv⟩=>[(20,.int .i64 (i:Nat))]) (fun⟨i,vs,V,cv⟩=>[.obj b5 (.cells [.slice (some ⟨b4,0,none⟩) ([(⟨A2,c3,numT (((nums.length:Nat):Int))⟩:PolV)].length) 1,.bool true,.slice V vs.length cv].toArray 67),cH.row (.slice V vs.length cv) 71 vs]) (fun⟨i,vs,V,cv⟩=>[Fact.pure (i≤nums.length∧bEb nums vs i),cT vs]) (fun⟨i,vs,V,cv⟩=>nums.length-i) (0,[],none,0) ⟨rfl,trivial⟩ (.cons kT1 (.cons .head .nil)) ⟨Has.pure (⟨by omega,bLi nums⟩),Has.of mT0,trivial⟩ ?_;rintro⟨i,vs,V,cv⟩;dsimp only;refine bS (Has.of mT0) fun hinv6=>?_;refine sr<|sp hT ?_;refine nn<|bA<|bL rfl (fun hc21=>?_) (fun hc21=>?_)
  ·have hc21:=of_decide_eq_true hc21;refine bN<|bC<|bA<|bX<|sr ?_
   obtain⟨x6,hx7⟩: ∃x',nums[i]?=some x':=⟨_,List.getElem?_eq_getElem (by omega)⟩
   refine ss (bU hT (k:=i) (bK (Has.of mT6)) rfl rfl rfl rfl rfl rfl rfl (by omega)) ?_;refine ss (cE hT (cN.knows (bK (Has.of mT6)) (k:=i) (x:=x6) hx7 0) rfl rfl rfl rfl rfl) ?_;refine sp hT ?_;refine nn<|sr<|sp hT ?_;refine bR Tryz.func140 (yZ x6) rfl rfl .nil trivial fun⟨A8,c9⟩=>?_;refine sp4 hT ?_;refine sp hT ?_;refine nn<|bA<|sr<|sp3 hT ?_;refine cF (fun hg31=>?_) (fun hg31=>?_)
   ·have hg31:=bne_iff_ne.1 hg31;refine sk3 ?_;refine sp hT ?_;refine nn<|cI rfl rfl ?_;refine sr<|sp hT ?_;refine bR Tryz.func81 (dW (some ⟨b4,0,none⟩) ([(⟨A2,c3,numT (((nums.length:Nat):Int))⟩:PolV)].length) 1) rfl rfl .nil trivial fun _=>?_;refine sto hT kT2 ?_;refine nn<|bF<|bB<|bH<|bB<|bB<|bH<|bB ?_;have hr:jM nums=TyV.t ⟨⟨(some ⟨b4,0,none⟩),1,[(⟨A2,c3,numT (((nums.length:Nat):Int))⟩:PolV)]⟩,false,⟨none,0,[]⟩⟩:=(bEz hx7 (by first | exact .inl ‹_› | exact .inr (by omega))).trans (by first | (rw [if_pos (by omega)];rfl) | (rw [if_neg (by omega)];rfl));exact bV ⟨⟨(some ⟨b4,0,none⟩),1,[(⟨A2,c3,numT (((nums.length:Nat):Int))⟩:PolV)]⟩,false,⟨none,0,[]⟩⟩ rfl (bM hT (bJ .head) rfl rfl rfl rfl) .nil ⟨(cU (x:=⟨⟨(some ⟨b4,0,none⟩),1,[(⟨A2,c3,numT (((nums.length:Nat):Int))⟩:PolV)]⟩,false,⟨none,0,[]⟩⟩) (cY (Has.of mT5) (Has.of mT4) (Nat.le_refl 1)) dE),Has.pure hr.symm,trivial⟩ rfl
   have hg31:=bne_eq_false_iff_eq.1 hg31;refine sp4 hT ?_;refine nn<|bL rfl (fun hc35=>?_) (fun hc35=>?_)
   ·have hc35:=of_decide_eq_true hc35;refine sr<|sp hT ?_;refine bR Tryz.func81 (dW (some ⟨b4,0,none⟩) ([(⟨A2,c3,numT (((nums.length:Nat):Int))⟩:PolV)].length) 1) rfl rfl .nil trivial fun _=>?_;refine sto hT kT2 ?_;refine nn<|bF<|bB<|bH<|bB<|bB<|bH<|bB ?_;have hr:jM nums=TyV.t ⟨⟨(some ⟨b4,0,none⟩),1,[(⟨A2,c3,numT (((nums.length:Nat):Int))⟩:PolV)]⟩,false,⟨none,0,[]⟩⟩:=(bEz hx7 (by first | exact .inl ‹_› | exact .inr (by omega))).trans (by first | (rw [if_pos (by omega)];rfl) | (rw [if_neg (by omega)];rfl));exact bV ⟨⟨(some ⟨b4,0,none⟩),1,[(⟨A2,c3,numT (((nums.length:Nat):Int))⟩:PolV)]⟩,false,⟨none,0,[]⟩⟩ rfl (bM hT (bJ .head) rfl rfl rfl rfl) .nil ⟨(cU (x:=⟨⟨(some ⟨b4,0,none⟩),1,[(⟨A2,c3,numT (((nums.length:Nat):Int))⟩:PolV)]⟩,false,⟨none,0,[]⟩⟩) (cY (Has.of mT5) (Has.of mT4) (Nat.le_refl 1)) dE),Has.pure hr.symm,trivial⟩ rfl
   have hc35:=Int.not_lt.1 (of_decide_eq_false hc35);refine bN<|bC<|bD<|sp hT ?_;refine ss (ldO hT (dI .head)) ?_;refine sp hT ?_;refine fE (m:=(⟨A8,c9,(iL x6).1⟩:PolV)) rfl rfl rfl rfl rfl fun b10=>?_;refine bE (cT (vs++[((⟨A8,c9,(iL x6).1⟩:PolV):PolV)])) (Has.each_snoc (Has.of mT2) (Has.of mT0)) ?_;have hvl:=hinv6.2.len hinv6.1;refine gJ kT2 (dF .head rfl) rfl rfl rfl rfl rfl rfl rfl (by simp;omega) fun A11 c12=>?_;refine sp hT ?_;refine sto hT kT2 ?_;refine dY<|cD<|bC<|bD<|sp hT ?_;refine bT (z':=(((i+1):Nat):Int)) (cP (by omega) (by omega)) ?_;refine sp hT ?_;refine nn ?_;exact cO (i+1,vs++[((⟨A8,c9,(iL x6).1⟩:PolV):PolV)],A11,c12) (by dsimp only;omega) ⟨rfl,trivial⟩ ⟨rfl,rfl,rfl,rfl,rfl,rfl,trivial⟩ (.cons .head (.cons .head (.cons kT1 .nil))) ⟨Has.pure (⟨by dsimp only;omega,lit_step hinv6.2 hx7 rfl (by first | assumption | omega) (by omega)⟩),Has.of mT0,trivial⟩ (bI.drop 4)
  have hc21:=Int.not_lt.1 (of_decide_eq_false hc21);refine dC<|cM<|cM<|dB<|bC<|bA<|iI kT1 fun hcv=>?_;refine cS kT1 ?_;refine bD<|ss (ldN hT (bJ .head)) ?_;refine sto hT kT1 ?_;refine nn<|bF ?_;have hr:jM nums=TyV.t ⟨⟨(some ⟨b4,0,none⟩),1,[(⟨A2,c3,numT (((nums.length:Nat):Int))⟩:PolV)]⟩,true,⟨V,cv,vs⟩⟩:=(lit_end hinv6.2 (by omega) hinv6.1).trans (by first | (rw [if_pos (by omega)];rfl) | (rw [if_neg (by omega)];rfl));exact bV ⟨⟨(some ⟨b4,0,none⟩),1,[(⟨A2,c3,numT (((nums.length:Nat):Int))⟩:PolV)]⟩,true,⟨V,cv,vs⟩⟩ rfl (bM hT (bJ .head) rfl rfl rfl rfl) .nil ⟨(cU (x:=⟨⟨(some ⟨b4,0,none⟩),1,[(⟨A2,c3,numT (((nums.length:Nat):Int))⟩:PolV)]⟩,true,⟨V,cv,vs⟩⟩) (cY (Has.of mT5) (Has.of mT4) (Nat.le_refl 1)) (cY (Has.of mT0) (Has.of mT2) (hcv))),Has.pure hr.symm,trivial⟩ rfl
 have hc11:=Int.not_lt.1 (of_decide_eq_false hc11);refine bN<|bC<|sr<|sp hT ?_;refine bR Tryz.func79 (iR none none (0) (0) 0 0) rfl rfl .nil trivial fun _=>?_;refine bY rfl rfl rfl rfl oH rfl fun b13=>?_;refine sto hT .head ?_;refine nn<|bA<|sr<|sp3 hT ?_;refine nn<|bX<|dR (t:=71) cH ?_;refine bE (cT []) (Has.each_nil) ?_;refine dG (ι:=Nat×List PolV×Option Addr×Nat) [(0,_),(2,_),(3,_),(4,_),(18,_),(19,_)] ⟨rfl,rfl,rfl,rfl,rfl,rfl,trivial⟩ (fun⟨i,vs,V,cv⟩=>[(20,.int .i64 (i:Nat))]) (fun⟨i,vs,V,cv⟩=>[.obj b13 (.cells [.slice none (0) 0,.bool true,.slice V vs.length cv].toArray 67),cH.row (.slice V vs.length cv) 71 vs]) (fun⟨i,vs,V,cv⟩=>[Fact.pure (i≤nums.length∧bEb nums vs i),cT vs]) (fun⟨i,vs,V,cv⟩=>nums.length-i) (0,[],none,0) ⟨rfl,trivial⟩ (.cons kT1 (.cons .head .nil)) ⟨Has.pure (⟨by omega,bLi nums⟩),Has.of mT0,trivial⟩ ?_;rintro⟨i,vs,V,cv⟩;dsimp only;refine bS (Has.of mT0) fun hinv6=>?_;refine sr<|sp hT ?_;refine nn<|bA<|bL rfl (fun hc21=>?_) (fun hc21=>?_)
 ·have hc21:=of_decide_eq_true hc21;refine bN<|bC<|bA<|bX<|sr ?_
  obtain⟨x14,hx15⟩: ∃x',nums[i]?=some x':=⟨_,List.getElem?_eq_getElem (by omega)⟩
  refine ss (bU hT (k:=i) (bK (Has.of mT3)) rfl rfl rfl rfl rfl rfl rfl (by omega)) ?_;refine ss (cE hT (cN.knows (bK (Has.of mT3)) (k:=i) (x:=x14) hx15 0) rfl rfl rfl rfl rfl) ?_;refine sp hT ?_;refine nn<|sr<|sp hT ?_;refine bR Tryz.func140 (yZ x14) rfl rfl .nil trivial fun⟨A16,c17⟩=>?_;refine sp4 hT ?_;refine sp hT ?_;refine nn<|bA<|sr<|sp3 hT ?_;refine cF (fun hg31=>?_) (fun hg31=>?_)
  ·have hg31:=bne_iff_ne.1 hg31;refine sk3 ?_;refine sp hT ?_;refine nn<|cI rfl rfl ?_;refine sr<|sp hT ?_;refine bR Tryz.func81 (dW none (0) 0) rfl rfl .nil trivial fun _=>?_;refine sto hT kT2 ?_;refine nn<|bF<|bB<|bH<|bB<|bB<|bH<|bB ?_;have hr:jM nums=TyV.t ⟨⟨none,0,[]⟩,false,⟨none,0,[]⟩⟩:=(bEz hx15 (by first | exact .inl ‹_› | exact .inr (by omega))).trans (by first | (rw [if_pos (by omega)];rfl) | (rw [if_neg (by omega)];rfl));exact bV ⟨⟨none,0,[]⟩,false,⟨none,0,[]⟩⟩ rfl (bM hT (bJ .head) rfl rfl rfl rfl) .nil ⟨(cU (x:=⟨⟨none,0,[]⟩,false,⟨none,0,[]⟩⟩) dE dE),Has.pure hr.symm,trivial⟩ rfl
  have hg31:=bne_eq_false_iff_eq.1 hg31;refine sp4 hT ?_;refine nn<|bL rfl (fun hc35=>?_) (fun hc35=>?_)
  ·have hc35:=of_decide_eq_true hc35;refine sr<|sp hT ?_;refine bR Tryz.func81 (dW none (0) 0) rfl rfl .nil trivial fun _=>?_;refine sto hT kT2 ?_;refine nn<|bF<|bB<|bH<|bB<|bB<|bH<|bB ?_;have hr:jM nums=TyV.t ⟨⟨none,0,[]⟩,false,⟨none,0,[]⟩⟩:=(bEz hx15 (by first | exact .inl ‹_› | exact .inr (by omega))).trans (by first | (rw [if_pos (by omega)];rfl) | (rw [if_neg (by omega)];rfl));exact bV ⟨⟨none,0,[]⟩,false,⟨none,0,[]⟩⟩ rfl (bM hT (bJ .head) rfl rfl rfl rfl) .nil ⟨(cU (x:=⟨⟨none,0,[]⟩,false,⟨none,0,[]⟩⟩) dE dE),Has.pure hr.symm,trivial⟩ rfl
  have hc35:=Int.not_lt.1 (of_decide_eq_false hc35);refine bN<|bC<|bD<|sp hT ?_;refine ss (ldO hT (dI .head)) ?_;refine sp hT ?_;refine fE (m:=(⟨A16,c17,(iL x14).1⟩:PolV)) rfl rfl rfl rfl rfl fun b18=>?_;refine bE (cT (vs++[((⟨A16,c17,(iL x14).1⟩:PolV):PolV)])) (Has.each_snoc (Has.of mT2) (Has.of mT0)) ?_;have hvl:=hinv6.2.len hinv6.1;refine gJ kT2 (dF .head rfl) rfl rfl rfl rfl rfl rfl rfl (by simp;omega) fun A19 c20=>?_;refine sp hT ?_;refine sto hT kT2 ?_;refine dY<|cD<|bC<|bD<|sp hT ?_;refine bT (z':=(((i+1):Nat):Int)) (cP (by omega) (by omega)) ?_;refine sp hT ?_;refine nn ?_;exact cO (i+1,vs++[((⟨A16,c17,(iL x14).1⟩:PolV):PolV)],A19,c20) (by dsimp only;omega) ⟨rfl,trivial⟩ ⟨rfl,rfl,rfl,rfl,rfl,rfl,trivial⟩ (.cons .head (.cons .head (.cons kT1 .nil))) ⟨Has.pure (⟨by dsimp only;omega,lit_step hinv6.2 hx15 rfl (by first | assumption | omega) (by omega)⟩),Has.of mT0,trivial⟩ (bI.drop 4)
 have hc21:=Int.not_lt.1 (of_decide_eq_false hc21);refine dC<|cM<|cM<|dB<|bC<|bA<|iI kT1 fun hcv=>?_;refine cS kT1 ?_;refine bD<|ss (ldN hT (bJ .head)) ?_;refine sto hT kT1 ?_;refine nn<|bF ?_;have hr:jM nums=TyV.t ⟨⟨none,0,[]⟩,true,⟨V,cv,vs⟩⟩:=(lit_end hinv6.2 (by omega) hinv6.1).trans (by first | (rw [if_pos (by omega)];rfl) | (rw [if_neg (by omega)];rfl));exact bV ⟨⟨none,0,[]⟩,true,⟨V,cv,vs⟩⟩ rfl (bM hT (bJ .head) rfl rfl rfl rfl) .nil ⟨(cU (x:=⟨⟨none,0,[]⟩,true,⟨V,cv,vs⟩⟩) dE (cY (Has.of mT0) (Has.of mT2) (hcv))),Has.pure hr.symm,trivial⟩ rfl
end Go.Proofs.YtbgdphbebhjpiaaGreatDoor
