/- Texts of one proof, one behind the other: Value, Eval, CelA, LifeQ, CelB, RnA, RnB, WordP, ArrP, RnC, RnD, Pan, MixS, Dfr, Rec. -/
import Derived.Test.YtnmhcaahkaocgaaGreatDoorM6
import Derived.Test.YtnmhcaahkaocgaaGreatDoorRows
import Derived.Test.YtnmhcaahkaocgaaGreatDoorM8
import Derived.Test.YtnmhcaahkaocgaaGreatDoorM7
import Derived.Test.YtnmhcaahkaocgaaGreatDoorM1
import Derived.Test.YtnmhcaahkaocgaaGreatDoorM4
import Derived.Defers
import Derived.Recover
namespace Go.Proofs.YtnmhcaahkaocgaaGreatDoor
open Go.RowKit
set_option maxRecDepth 100000
def Mono.ex(m:Mono)(k:Nat):UInt8:=m.E.getD k 0
def fK (m:Mono)(D:Nat→Int):List (UInt8×Int):=[(m.e0,D 0),(m.e1,D 1),(m.e2,D 2),(m.e3,D 3),(m.e4,D 4),(m.e5,D 5)]
theorem tP(m:Mono)(D:Nat→Int): ∀k,k<6→(fK m D).drop k=(m.ex k,D k)::(fK m D).drop (k+1)
 | 0,_=>rfl
 | 1,_=>rfl
 | 2,_=>rfl
 | 3,_=>rfl
 | 4,_=>rfl
 | 5,_=>rfl
 | k+6,h=>absurd h (by omega)
def gV (l:List (UInt8×Int)):Bool:=l.any fun x=>decide (0<x.1.toNat)&&x.2==0
def iG:Int:=4611686018427387904
def qU (d:Int):Nat→Int→Option Int
 | 0,n=>some n
 | e+1,n=>if iG/d<n then none else qU d e (n*d)
def mY:List (UInt8×Int)→Int→Option Int
 | [],n=>some n
 | x::l,n=>(qU x.2 x.1.toNat n).bind (mY l)
def dG (m:Mono)(D:Nat→Int):Int×Bool:=
 if gV (fK m D) then (0,true) else match mY (fK m D) (max m.n (-m.n)) with
 | some n=>(n,true)
 | none=>(0,false)
theorem index_E(m:Mono)(k:Nat)(hk:k<6)(w:World):(Instr.index 73 (.agg #[.int .u8 m.e0.toNat,.int .u8 m.e1.toNat,.int .u8 m.e2.toNat,.int .u8 m.e3.toNat,.int .u8 m.e4.toNat,.int .u8 m.e5.toNat]) (.int .i64 (k:Int))).run Tryz.prog w= .ok (.int .u8 ((m.ex k).toNat:Int)) w:=by
 rcases k with _ | _ | _ | _ | _ | _ | k
 ·kernel_rfl
 ·kernel_rfl
 ·kernel_rfl
 ·kernel_rfl
 ·kernel_rfl
 ·kernel_rfl
 ·omega
theorem zero_not{m:Mono}{D:Nat→Int}(h:gV (fK m D)=false): ∀k,k<6→0<(m.ex k).toNat→D k≠0:=by
 intro k hk he hd
 have h1:(m.ex k,D k)∈fK m D:=by
  have:=tP m D k hk;exact List.mem_of_mem_drop (i:=k) (by rw [this];simp)
 have h2:gV (fK m D)=true:=List.any_eq_true.2 ⟨_,h1,by simp [he,hd]⟩;rw [h2] at h;cases h
def InV (x:Int):Prop:=0≤x∧x≤iG
theorem inV_mul{x d:Int}(hx:InV x)(hd:1≤d)(h: ¬iG/d<x):InV (x*d):=by
 obtain⟨h0,_⟩:=hx;refine⟨Int.mul_nonneg h0 (by omega),?_⟩;have h1:x≤iG/d:=by omega
 exact Int.le_trans (Int.mul_le_mul_of_nonneg_right h1 (by omega)) (Int.ediv_mul_le iG (by omega))
theorem wrap_inV{x:Int}(h:InV x):wrap64 x=x:=by
 obtain⟨h0,h1⟩:=h;unfold iG at h1;exact IntWalk.wrap64_in x ⟨by omega,by omega⟩
def SixAt (w:World)(b:Nat)(D:Nat→Int):Prop:= ∀k,k<6→w.cell? ⟨b,k,none⟩=some (.int .i64 (D k))
set_option maxRecDepth 100000 in
set_option maxHeartbeats 1000000 in
theorem value_any(m:Mono)(D:Nat→Int)(w:World)(hD: ∀k,0≤D k∧D k≤2147483648)(hn: -16777216≤m.n∧m.n≤16777216):
  Calls Tryz.prog 192 #[.agg #[.int .i64 m.n,.int .u8 m.e0.toNat,.int .u8 m.e1.toNat,.int .u8 m.e2.toNat,.int .u8 m.e3.toNat,.int .u8 m.e4.toNat,.int .u8 m.e5.toNat],.agg #[.int .i64 (D 0),.int .i64 (D 1),.int .i64 (D 2),.int .i64 (D 3),.int .i64 (D 4),.int .i64 (D 5)]] w fun e w'=>e= .returned (.tuple #[.int .i64 (dG m D).1,.bool (dG m D).2])∧Below w.heap.size w w':=by
 have HD:=Lib.hid hD;obtain⟨hn1,hn2⟩:=hn;clear hD
 go_enter Tryz.func192,Tryz.ntmps192
 go_wp2
 all_goals
  have q0:hJ ((w.alloc (.cells #[.int .i64 m.n,.int .u8 m.e0.toNat,.int .u8 m.e1.toNat,.int .u8 m.e2.toNat,.int .u8 m.e3.toNat,.int .u8 m.e4.toNat,.int .u8 m.e5.toNat] 75)).alloc (.cells #[.int .i64 (D 0),.int .i64 (D 1),.int .i64 (D 2),.int .i64 (D 3),.int .i64 (D 4),.int .i64 (D 5)] 274)) w.heap.size 0 m:=by simp [hJ,go_sem]
  have q1:SixAt ((w.alloc (.cells #[.int .i64 m.n,.int .u8 m.e0.toNat,.int .u8 m.e1.toNat,.int .u8 m.e2.toNat,.int .u8 m.e3.toNat,.int .u8 m.e4.toNat,.int .u8 m.e5.toNat] 75)).alloc (.cells #[.int .i64 (D 0),.int .i64 (D 1),.int .i64 (D 2),.int .i64 (D 3),.int .i64 (D 4),.int .i64 (D 5)] 274)) (w.heap.size+1) D:=by
   intro k hk
   rcases k with _ | _ | _ | _ | _ | _ | k
   all_goals first | omega | simp [go_sem]
  have q2:Below w.heap.size w ((w.alloc (.cells #[.int .i64 m.n,.int .u8 m.e0.toNat,.int .u8 m.e1.toNat,.int .u8 m.e2.toNat,.int .u8 m.e3.toNat,.int .u8 m.e4.toNat,.int .u8 m.e5.toNat] 75)).alloc (.cells #[.int .i64 (D 0),.int .i64 (D 1),.int .i64 (D 2),.int .i64 (D 3),.int .i64 (D 4),.int .i64 (D 5)] 274)):=by go_grown
  have Q0:=Lib.hid q0;have Q1:=Lib.hid q1;have Q2:=Lib.hid q2;clear q0 q1 q2;generalize ((w.alloc (.cells #[.int .i64 m.n,.int .u8 m.e0.toNat,.int .u8 m.e1.toNat,.int .u8 m.e2.toNat,.int .u8 m.e3.toNat,.int .u8 m.e4.toNat,.int .u8 m.e5.toNat] 75)).alloc (.cells #[.int .i64 (D 0),.int .i64 (D 1),.int .i64 (D 2),.int .i64 (D 3),.int .i64 (D 4),.int .i64 (D 5)] 274))=W0 at Q0 Q1 Q2⊢;generalize w.heap.size=X at Q0 Q1⊢
  go_loop [19] (fun i=> ∃k:Nat,k≤6∧i= .int .i64 k∧Hid (gV (fK m D)=gV ((fK m D).drop k))) (fun i=>6-(intOf i).toNat)
  case atStart=>exact⟨0,Nat.zero_le _,rfl,rfl⟩
  case round=>
   obtain⟨k,hk,rfl,hz⟩:=hrel
   by_cases hlt:k<6
   ·have hidx:=index_E m k hlt;have hc:W0.cell? ⟨X+1,k,none⟩=some (.int .i64 (D k)):=Q1.out k hlt;have hp:=tP m D k hlt;have HZ:=Lib.hid (show gV (fK m D)=((decide (0<(m.ex k).toNat)&&D k==0) || gV ((fK m D).drop (k+1))) by rw [hz.out,hp];rfl);clear hp hz
    by_cases he:0<(m.ex k).toNat
    ·have he1:decide (0<(m.ex k).toNat)=true:=by simpa using he
     by_cases hd:D k=0
     ·have hd1:(D k==0)=true:=by simpa using hd
      have Hd:=Lib.hid hd;have HZ':=Lib.hid (show gV (fK m D)=true by rw [HZ.out,he1,hd1];rfl);clear hd HZ
      go_wp2
      go_ret2
      have e:dG m D=(0,true):=by unfold dG;rw [HZ'.out];rfl
      rw [e];exact⟨rfl,Q2.out⟩
     ·have hd1:(D k==0)=false:=by simpa using hd
      have HZ':=Lib.hid (show gV (fK m D)=gV ((fK m D).drop (k+1)) by rw [HZ.out,hd1,Bool.and_false,Bool.false_or]);clear hd HZ
      go_wp2
      go_round
      case rel=>exact⟨k+1,by omega,by go_num,HZ'⟩
      case measure=>simp [intOf];omega
    ·have he1:decide (0<(m.ex k).toNat)=false:=by simpa using he
     have HZ':=Lib.hid (show gV (fK m D)=gV ((fK m D).drop (k+1)) by rw [HZ.out,he1,Bool.false_and,Bool.false_or]);clear HZ
     go_wp2
     go_round
     case rel=>exact⟨k+1,by omega,by go_num,HZ'⟩
     case measure=>simp [intOf];omega
   ·have HZ:=Lib.hid (show gV (fK m D)=false by rw [hz.out,List.drop_of_length_le (by simp [fK];omega)];rfl);obtain⟨q0,q1,q2,q3,q4,q5,q6⟩:=Q0.out.zero;clear hz
    go_wp2
    clear q0 q1 q2 q3 q4 q5 q6
    go_loop [34,6] (fun i n=> ∃(k:Nat) (x:Int),k≤6∧i= .int .i64 k∧n= .int .i64 x∧InV x∧Hid (mY (fK m D) (max m.n (-m.n))=mY ((fK m D).drop k) x)) (fun i _=>6-(intOf i).toNat)
    case atStart=>exact⟨0,_,Nat.zero_le _,rfl,rfl,⟨by omega,by unfold iG;omega⟩,by show _=_;rw [List.drop_zero];try (congr 1;omega)⟩
    case round=>
     obtain⟨k2,x,hk2,rfl,rfl,hx,hmul⟩:=hrel;have HX:=Lib.hid hx;clear hx
     by_cases hlt2:k2<6
     ·have hidx:=index_E m k2 hlt2;have hc:W0.cell? ⟨X+1,k2,none⟩=some (.int .i64 (D k2)):=Q1.out k2 hlt2;have HM:=Lib.hid (show mY (fK m D) (max m.n (-m.n))=(qU (D k2) (m.ex k2).toNat x).bind (mY ((fK m D).drop (k2+1))) by rw [hmul.out,tP m D k2 hlt2];rfl);have hd:=HD.out k2;obtain⟨hd0,hd1⟩:=hd;have hu:=(m.ex k2).toNat_lt;have HNZ:=Lib.hid (zero_not HZ.out k2 hlt2);clear hmul;generalize m.ex k2=ee at hidx HM hu HNZ⊢
      go_wp2
      go_loop [39,6] (fun c n=> ∃(j:Nat) (y:Int),j≤ee.toNat∧c= .int .u8 j∧n= .int .i64 y∧InV y∧Hid (mY (fK m D) (max m.n (-m.n))=(qU (D k2) (ee.toNat-j) y).bind (mY ((fK m D).drop (k2+1))))) (fun c _=>ee.toNat-(intOf c).toNat)
      case atStart=>exact⟨0,x,Nat.zero_le _,rfl,rfl,HX.out,HM⟩
      case round=>
       obtain⟨j,y,hj,rfl,rfl,hy,hpow⟩:=hrel;have HY:=Lib.hid hy;clear hy
       by_cases hlt3:j<ee.toNat
       ·have hd2:1≤D k2:=by have:=HNZ.out (by omega);omega
        have HP:=Lib.hid (show(qU (D k2) (ee.toNat-j) y)=if iG/D k2<y then none else qU (D k2) (ee.toNat-(j+1)) (y*D k2) by rw [show ee.toNat-j=(ee.toNat-(j+1))+1 by omega,qU])
        by_cases hq:iG/D k2<y
        ·have hq1:decide (4611686018427387904/D k2<y)=true:=by simpa [iG] using hq
         go_wp2
         go_ret2
         have e:dG m D=(0,false):=by
          unfold dG;rw [HZ.out,hpow.out,HP.out,if_pos hq];rfl
         rw [e];exact⟨rfl,Q2.out⟩
        ·have hq1:decide (4611686018427387904/D k2<y)=false:=by simpa [iG] using hq
         have HY2:=Lib.hid (inV_mul HY.out hd2 hq);have hw:=wrap_inV HY2.out;have HP2:=Lib.hid (show mY (fK m D) (max m.n (-m.n))=(qU (D k2) (ee.toNat-(j+1)) (y*D k2)).bind (mY ((fK m D).drop (k2+1))) by rw [hpow.out,HP.out,if_neg hq]);clear HP hpow
         go_wp2
         go_round
         case rel=>exact⟨j+1,y*D k2,by omega,by go_num,by rw [hw],HY2.out,HP2⟩
         case measure=>simp [intOf];omega
       ·have HP:=Lib.hid (show mY (fK m D) (max m.n (-m.n))=mY ((fK m D).drop (k2+1)) y by rw [hpow.out,show ee.toNat-j=0 by omega];rfl);clear hpow
        go_wp2
        go_round
        case rel=>exact⟨k2+1,y,by omega,by go_num,rfl,HY.out,HP⟩
        case measure=>simp [intOf];omega
     ·have e:dG m D=(x,true):=by
       unfold dG;rw [HZ.out,hmul.out,List.drop_of_length_le (by simp [fK];omega)];rfl
      have He:=Lib.hid e;clear e hmul
      go_wp2
      go_ret2
      rw [He.out];exact⟨rfl,Q2.out⟩
end Go.Proofs.YtnmhcaahkaocgaaGreatDoor
namespace Go.Proofs.YtnmhcaahkaocgaaGreatDoor
open Go.RowKit
set_option maxRecDepth 100000
def Ints (w:World)(A:Option Addr)(l:List Int):Prop:=
 ∀(k:Nat) (d:Int),l[k]?=some d→ ∃b o,A=some ⟨b,o,none⟩∧b<w.heap.size∧w.cell? ⟨b,o+k,none⟩=some (.int .i64 d)
theorem Ints.below{w w':World}{A:Option Addr}{l:List Int}(h:Ints w A l)(hb:Below w.heap.size w w'):Ints w' A l:=fun k d hk=>by
 obtain⟨b,o,e,hB,hm⟩:=h k d hk;exact⟨b,o,e,Nat.lt_of_lt_of_le hB hb.size,(hb.cell (p:=⟨b,o+k,none⟩) hB).trans hm⟩
def jA (d:Int):Bool:=decide (0≤d∧d≤2147483648)
def nA (ds:List Int):Bool:=decide (ds.length≤6)&&ds.all jA
def jI (D:Nat→Int):List Mono→Int→Int→Option Int
 | [],_,sum=>some sum
 | m::l,size,sum=>
  if (dG m D).2=false∨iG-size<(dG m D).1 then none
  else jI D l (size+(dG m D).1) (if m.n<0 then sum-(dG m D).1 else sum+(dG m D).1)
def dF (ds:List Int)(k:Nat):Int:=ds.getD k 0
def evalP (p:List Mono)(ds:List Int):Int×Int:=
 if fX p then if nA ds then match jI (dF ds) p 0 0 with
  | some n=>(n,0)
  | none=>(0,22)
 else (0,23) else (0,20)
def oM (w:World)(b:Nat)(D:Nat→Int):Prop:=b<w.heap.size∧ ∀k,k<6→w.cell? ⟨b,k,none⟩=some (.int .i64 (D k))∧w.frozen? ⟨b,k,none⟩=false
theorem oM.set{w:World}{b:Nat}{D:Nat→Int}(h:oM w b D)(k:Nat)(hk:k<6)(d:Int):oM (w.setCell ⟨b,k,none⟩ (.int .i64 d)) b (fun j=>if j=k then d else D j):=by
 refine⟨by simpa using h.1,fun j hj=>⟨?_,?_⟩⟩
 ·by_cases e:j=k
  ·subst e;dsimp only;rw [if_pos rfl];exact World.cell?_setCell_same w ⟨b,j,none⟩ _ (h.2 j hj).1
  ·dsimp only;rw [if_neg e,World.cell?_setCell_other w _ _ _ (by intro h;injection h with _ h;exact e h.symm)];exact(h.2 j hj).1
 ·rw [World.frozen?_setCell];exact(h.2 j hj).2
theorem take_dim{ds:List Int}{k:Nat}{d:Int}(h:ds[k]?=some d):(fun j=>if j=k then d else dF (ds.take k) j)=dF (ds.take (k+1)):=by
 funext j
 have hk:k<ds.length:=(List.getElem?_eq_some_iff.1 h).1;have hd:ds[k]=d:=(List.getElem?_eq_some_iff.1 h).2;unfold dF;rw [List.take_succ_eq_append_getElem hk,hd];simp only [List.getD_eq_getElem?_getD];have hl:(ds.take k).length=k:=by simp;omega
 by_cases e:j=k
 ·subst e;rw [if_pos rfl,List.getElem?_append_right (by omega),hl];simp
 ·rw [if_neg e]
  by_cases e2:j<k
  ·rw [List.getElem?_append_left (by omega)]
  ·rw [List.getElem?_eq_none (by omega),List.getElem?_eq_none (by simp;omega)]
theorem bAg{d:Int}(hd:0≤d): ∀(e:Nat) (n r:Int),0≤n→qU d e n=some r→0≤r
 | 0,n,r,hn,h=>by simp [qU] at h;omega
 | e+1,n,r,hn,h=>by
  unfold qU at h;split at h
  ·cases h
  ·exact bAg hd e (n*d) r (Int.mul_nonneg hn hd) h
theorem zW: ∀(l:List (UInt8×Int)) (n r:Int),(∀x∈l,0≤x.2)→0≤n→mY l n=some r→0≤r
 | [],n,r,_,hn,h=>by simp [mY] at h;omega
 | x::l,n,r,hl,hn,h=>by
  unfold mY at h
  cases hp:qU x.2 x.1.toNat n with
  | none=>rw [hp] at h;cases h
  | some y=>
   rw [hp] at h;exact zW l y r (fun z hz=>hl z (by simp [hz])) (bAg (hl x (by simp)) _ _ _ hn hp) h
theorem sR(m:Mono)(D:Nat→Int)(hD: ∀k,0≤D k):0≤(dG m D).1:=by
 unfold dG;split
 ·simp
 ·split
  ·rename_i n hn;refine zW _ _ _ (fun x hx=>?_) (by omega) hn;simp only [fK,List.mem_cons,List.not_mem_nil,or_false] at hx
   rcases hx with rfl | rfl | rfl | rfl | rfl | rfl<;>exact hD _
  ·simp
theorem oX: ∀{o:Option Mono} {l:List Mono},fT o l=true→ ∀m∈l,mN m=true
 | _,[],_,m,hm=>by simp at hm
 | none,a::l,h,m,hm=>by
  simp only [fT,Bool.and_eq_true] at h
  rcases List.mem_cons.1 hm with rfl | hm
  ·exact h.1
  ·exact oX h.2 m hm
 | some b,a::l,h,m,hm=>by
  simp only [fT,Bool.and_eq_true] at h
  rcases List.mem_cons.1 hm with rfl | hm
  ·exact h.1
  ·exact oX h.2.2 m hm
theorem oM.below{w w':World}{b:Nat}{D:Nat→Int}(h:oM w b D)(hb:Below w.heap.size w w'):oM w' b D:=
 ⟨Nat.lt_of_lt_of_le h.1 hb.size,fun k hk=>⟨(hb.cell (p:=⟨b,k,none⟩) h.1).trans (h.2 k hk).1,(hb.frozen (p:=⟨b,k,none⟩) h.1).trans (h.2 k hk).2⟩⟩
theorem xP{ds:List Int}(h:ds.all jA=true): ∀k,0≤dF ds k∧dF ds k≤2147483648:=fun k=>by
 unfold dF;rw [List.getD_eq_getElem?_getD]
 cases hk:ds[k]? with
 | none=>simp
 | some d=>
  have hd:d∈ds:=List.mem_of_getElem? hk;have:=List.all_eq_true.1 h d hd
  simpa [jA] using this
set_option maxRecDepth 100000 in
set_option maxHeartbeats 1000000 in
theorem eval_any(A B:Option Addr)(c d:Nat)(p:List Mono)(ds:List Int)(w:World)(ha:mK w A p)(hb:Ints w B ds)(hp:p.length≤140737488355328)(hq:ds.length≤140737488355328):
  Calls Tryz.prog 142 #[.slice A p.length c,.slice B ds.length d] w fun e w'=>e= .returned (.tuple #[.int .i64 (evalP p ds).1,.int .i64 (evalP p ds).2])∧Below w.heap.size w w':=by
 have Ha:=Lib.hid ha;have Hb:=Lib.hid hb;clear ha hb;cases hrp:fX p
 ·have e:evalP p ds=(0,20):=by unfold evalP;rw [hrp];rfl
  rw [e]
  go_enter Tryz.func142,Tryz.ntmps142
  go_wp2_with (go_at_call 136;refine(rL A c p _ Ha.out hp).mono ?_;rintro e w1 ⟨rfl,hb1⟩)
  go_ret2
  exact⟨rfl,hb1⟩
 ·go_enter Tryz.func142,Tryz.ntmps142
  go_wp2_with fail
  refine(rL A c p _ Ha.out hp).mono ?_;rintro e w1 ⟨rfl,hb1⟩;have H1:=Lib.hid hb1;clear hb1
  go_wp2
  have s0:oM (w1.alloc (.cells #[.int .i64 0,.int .i64 0,.int .i64 0,.int .i64 0,.int .i64 0,.int .i64 0] 274)) w1.heap.size (dF (ds.take 0)):=by
   refine⟨by simp,fun k hk=>?_⟩
   rcases k with _ | _ | _ | _ | _ | _ | k
   all_goals first | omega | simp [go_sem,dF]
  have b0:Below w.heap.size w (w1.alloc (.cells #[.int .i64 0,.int .i64 0,.int .i64 0,.int .i64 0,.int .i64 0,.int .i64 0] 274)):=H1.out.alloc H1.out.size _;have hXw:w.heap.size≤w1.heap.size:=H1.out.size;have S0:=Lib.hid s0;have B0:=Lib.hid b0;clear s0 b0 H1;generalize w1.alloc (.cells #[.int .i64 0,.int .i64 0,.int .i64 0,.int .i64 0,.int .i64 0,.int .i64 0] 274)=W0 at S0 B0⊢;generalize w1.heap.size=X at S0 hXw⊢
  go_loopw [20] (fun i wr=> ∃k:Nat,k≤ds.length∧k≤6∧i= .int .i64 k∧oM wr X (dF (ds.take k))∧Hid (ds.all jA=(ds.drop k).all jA)∧Below w.heap.size w wr) (fun i _=>ds.length-(intOf i).toNat)
  case atStart=>exact⟨0,Nat.zero_le _,by omega,rfl,S0.out,rfl,B0.out⟩
  case round=>
   obtain⟨k,hk,hk6,rfl,hsix,hall,hbl⟩:=hrel;have HSix:=Lib.hid hsix;have HBL:=Lib.hid hbl;clear hsix hbl S0 B0
   by_cases hlt:k<ds.length
   ·obtain⟨x,hx⟩: ∃x,ds[k]?=some x:=⟨ds[k],List.getElem?_eq_getElem hlt⟩
    have dm:ds.drop k=x::ds.drop (k+1):=by
     rw [List.drop_eq_getElem_cons hlt];have:=(List.getElem?_eq_some_iff.1 hx).2;rw [this]
    obtain⟨b,o,rfl,hB,c0⟩:=Hb.out.below HBL.out k x hx;have HAll:=Lib.hid (show ds.all jA=(jA x&&(ds.drop (k+1)).all jA) by rw [hall.out,dm,List.all_cons]);have HTk:=Lib.hid (take_dim hx);clear dm hx hall hB
    by_cases h6:k=6
    ·have h61:decide ((6:Int)≤(k:Int))=true:=by simp;omega
     have e:evalP p ds=(0,23):=by
      unfold evalP;rw [hrp,show nA ds=false by unfold nA;rw [decide_eq_false (by omega)];rfl];rfl
     have He:=Lib.hid e;clear e h6
     go_wp2
     go_ret2
     rw [He.out];exact⟨rfl,HBL.out⟩
    ·have h61:decide ((6:Int)≤(k:Int))=false:=by simp;omega
     cases hs:jA x
     ·have e:evalP p ds=(0,23):=by
       unfold evalP;rw [hrp,show nA ds=false by unfold nA;rw [HAll.out,hs];simp];rfl
      have He:=Lib.hid e;clear e h6
      have hs':x<0∨2147483648<x:=by
       have:=of_decide_eq_false hs;omega
      rcases Int.lt_or_le x 0 with hx0 | hx0
      ·have t1:decide (x<0)=true:=by simpa using hx0
       go_wp2
       go_ret2
       rw [He.out];exact⟨rfl,HBL.out⟩
      ·have t1:decide (x<0)=false:=by simpa using hx0
       have t2:decide (2147483648<x)=true:=by simp;omega
       go_wp2
       go_ret2
       rw [He.out];exact⟨rfl,HBL.out⟩
     ·have hs':0≤x∧x≤2147483648:=of_decide_eq_true hs;have t1:decide (x<0)=false:=by simp;omega
      have t2:decide (2147483648<x)=false:=by simp;omega
      obtain⟨hcell,hfro⟩:=HSix.out.2 k (by omega);have HA2:=Lib.hid (show ds.all jA=(ds.drop (k+1)).all jA by rw [HAll.out,hs,Bool.true_and]);have HS2:=Lib.hid (show oM (wr.setCell ⟨X,k,none⟩ (.int .i64 x)) X (dF (ds.take (k+1))) by rw [←HTk.out];exact HSix.out.set k (by omega) x);have HB2:=Lib.hid (show Below w.heap.size w (wr.setCell ⟨X,k,none⟩ (.int .i64 x)) from HBL.out.setCell hXw _);clear HAll HTk HSix HBL hs'
      go_wp2
      go_roundw
      case rel=>exact⟨k+1,by omega,by omega,by go_num,HS2.out,HA2,HB2.out⟩
      case measure=>simp [intOf];omega
   ·have hall1:ds.all jA=true:=by rw [hall.out,List.drop_of_length_le (by omega)];rfl
    have HD:=Lib.hid (xP hall1)
    have He:=Lib.hid (show evalP p ds=match jI (dF ds) p 0 0 with | some n=>(n,0) | none=>(0,22) by
     unfold evalP;rw [hrp,show nA ds=true by unfold nA;rw [hall1,decide_eq_true (by omega)];rfl]
     rfl)
    have HS:=Lib.hid (show oM wr X (dF ds) by have:=HSix.out;rw [List.take_of_length_le (by omega)] at this;exact this)
    have HRP:=Lib.hid (show ∀m∈p,mN m=true by
     unfold fX at hrp;simp only [Bool.and_eq_true] at hrp
     exact oX hrp.2)
    clear hall hall1 HSix;generalize dF ds=D at HD He HS⊢
    go_wp2
    go_loopw [41,9,10] (fun i sm sz wi=> ∃(j:Nat) (size sum:Int),j≤p.length∧i= .int .i64 j∧sm= .int .i64 sum∧sz= .int .i64 size∧Hid (0≤size∧size≤iG∧ -size≤sum∧sum≤size)∧Hid (jI D p 0 0=jI D (p.drop j) size sum)∧oM wi X D∧Below w.heap.size w wi) (fun i _ _ _=>p.length-(intOf i).toNat)
    case atStart=>exact⟨0,0,0,Nat.zero_le _,rfl,rfl,rfl,⟨by omega,by unfold iG;omega,by omega,by omega⟩,rfl,HS.out,HBL.out⟩
    case round=>
     obtain⟨j,size,sum,hj,rfl,rfl,rfl,hbd,hev,hsix,hbl⟩:=hrel;have HS2:=Lib.hid hsix;have HB2:=Lib.hid hbl;clear hsix hbl HS HBL
     by_cases hlt2:j<p.length
     ·obtain⟨m,hm,dm⟩:=pA hlt2;obtain⟨b,o,rfl,hB,c0,c1,c2,c3,c4,c5,c6⟩:=Ha.out.below HB2.out j m hm;have hsm:mN m=true:=HRP.out m (List.mem_of_getElem? hm);have hsm':m.n≠0∧m.n≤16777216∧ -16777216≤m.n∧m.deg≤8:=of_decide_eq_true hsm;have HV:=Lib.hid (sR m D (fun k=>(HD.out k).1))
      have HE:=Lib.hid (show jI D p 0 0=if (dG m D).2=false∨iG-size<(dG m D).1 then none
        else jI D (p.drop (j+1)) (size+(dG m D).1) (if m.n<0 then sum-(dG m D).1 else sum+(dG m D).1) by rw [hev.out,dm,jI])
      have hX:X<wr.heap.size:=HS2.out.1;have x0:=(HS2.out.2 0 (by omega)).1;have x1:=(HS2.out.2 1 (by omega)).1;have x2:=(HS2.out.2 2 (by omega)).1;have x3:=(HS2.out.2 3 (by omega)).1;have x4:=(HS2.out.2 4 (by omega)).1;have x5:=(HS2.out.2 5 (by omega)).1;have Hval:=Lib.hid (fun W=>value_any m D W HD.out ⟨hsm'.2.2.1,hsm'.2.1⟩);have hS3: ∀o,oM (wr.alloc o) X D:=fun o=>HS2.out.below ((Below.refl _ _).alloc (Nat.le_refl _) _);have HS3:=Lib.hid hS3;have HB3:=Lib.hid (show ∀o,Below w.heap.size w (wr.alloc o) from fun o=>HB2.out.alloc HB2.out.size o);clear hm dm hB hsm hsm' hev hS3 HS2 HB2
      go_wp2_with fail
      refine(Hval.out _).mono ?_;rintro e w5 ⟨rfl,hb5⟩;have q0:hJ w5 wr.heap.size 0 m:=hJ.below (w:=wr.alloc (.cells #[.int .i64 m.n,.int .u8 m.e0.toNat,.int .u8 m.e1.toNat,.int .u8 m.e2.toNat,.int .u8 m.e3.toNat,.int .u8 m.e4.toNat,.int .u8 m.e5.toNat] 75)) (by simp [hJ,go_sem]) hb5 (by simp);have HS5:=Lib.hid ((HS3.out _).below hb5);have HB5:=Lib.hid ((HB3.out _).trans (hb5.mono (HB3.out _).size));have n0:=q0.zero.1;clear hb5 q0 c0 c1 c2 c3 c4 c5 c6 x0 x1 x2 x3 x4 x5 hX Hval HS3 HB3;generalize dG m D=v at HV HE⊢;obtain⟨n,ok⟩:=v;simp only at HV HE⊢;cases ok
      ·have e:evalP p ds=(0,22):=by rw [He.out,HE.out,if_pos (.inl rfl)]
       have He2:=Lib.hid e;clear e HE
       go_wp2
       go_ret2
       rw [He2.out];exact⟨rfl,HB5.out⟩
      ·obtain⟨g0,g1,g2,g3⟩:=hbd.out;have gn:0≤n:=HV.out;unfold iG at g1
       by_cases hq:iG-size<n
       ·have hq1:decide (4611686018427387904-size<n)=true:=by simpa [iG] using hq
        have e:evalP p ds=(0,22):=by rw [He.out,HE.out,if_pos (.inr hq)]
        have He2:=Lib.hid e;clear e HE hq
        go_wp2
        go_ret2
        rw [He2.out];exact⟨rfl,HB5.out⟩
       ·have hq1:decide (4611686018427387904-size<n)=false:=by simpa [iG] using hq
        have hq2:size+n≤4611686018427387904:=by unfold iG at hq;omega
        by_cases hneg:m.n<0
        ·have HE2:=Lib.hid (show jI D p 0 0=jI D (p.drop (j+1)) (size+n) (sum-n) by rw [HE.out,if_neg (by intro h;rcases h with h | h;exact absurd h (by simp);exact hq h),if_pos hneg]);have hneg1:decide (m.n<0)=true:=by simpa using hneg
         clear HE hq
         go_wp2
         go_roundw
         case rel=>exact⟨j+1,size+n,sum-n,by omega,by go_num,by go_num,by go_num,⟨by omega,by unfold iG;omega,by omega,by omega⟩,HE2,HS5.out,HB5.out⟩
         case measure=>simp [intOf];omega
        ·have HE2:=Lib.hid (show jI D p 0 0=jI D (p.drop (j+1)) (size+n) (sum+n) by rw [HE.out,if_neg (by intro h;rcases h with h | h;exact absurd h (by simp);exact hq h),if_neg hneg]);have hneg1:decide (m.n<0)=false:=by simpa using hneg
         clear HE hq
         go_wp2
         go_roundw
         case rel=>exact⟨j+1,size+n,sum+n,by omega,by go_num,by go_num,by go_num,⟨by omega,by unfold iG;omega,by omega,by omega⟩,HE2,HS5.out,HB5.out⟩
         case measure=>simp [intOf];omega
     ·have e:evalP p ds=(sum,0):=by rw [He.out,hev.out,List.drop_of_length_le (by omega),jI]
      have He2:=Lib.hid e;clear e hev
      go_wp2
      go_ret2
      rw [He2.out];exact⟨rfl,HB2.out⟩
end Go.Proofs.YtnmhcaahkaocgaaGreatDoor
namespace Go.Proofs.YtnmhcaahkaocgaaGreatDoor
open Go.RowKit
def celT:Tab:=[(3,⟨.int .i64,1⟩),(2,⟨.int .i64,1⟩),(5,⟨.int .u8,1⟩),(4,⟨.bool,1⟩),(58,⟨.int .u8,1⟩),(32,⟨.int .i64,1⟩),(47,⟨.slice 75,1⟩),(41,⟨.slice 47,1⟩),(72,⟨.struct [(3,0),(3,1),(2,2),(47,3),(58,4)],5⟩),(59,⟨.slice 72,1⟩),(45,⟨.struct [(41,0),(3,1)],2⟩),(27,⟨.slice 45,1⟩),(61,⟨.struct [(3,0),(3,1),(47,2),(41,3),(58,4),(59,5)],6⟩),(28,⟨.slice 61,1⟩),(29,⟨.slice 3,1⟩),(57,⟨.slice 4,1⟩),(31,⟨.struct [(3,0),(27,1),(28,2),(29,3)],4⟩),(114,⟨.struct [(3,0),(3,1),(3,2),(57,3)],4⟩),(63,⟨.slice 2,1⟩),(111,⟨.array 64 4,64⟩),(75,⟨.struct [(2,0),(73,1)],7⟩),(73,⟨.array 6 5,6⟩),(224,⟨.slice 5,1⟩),(304,⟨.int .u64,1⟩),(112,⟨.other,1⟩),(177,⟨.other,1⟩),(118,⟨.other,1⟩),(181,⟨.other,1⟩)]
theorem sV:gC Tryz.prog celT:=tO.ok
 ⟨⟨by rw [Tryz.underlying3];rfl,by kernel_rfl⟩,
  ⟨by rw [Tryz.underlying2];rfl,by kernel_rfl⟩,
  ⟨by rw [Tryz.underlying5];rfl,by kernel_rfl⟩,
  ⟨by rw [Tryz.underlying4];rfl,by kernel_rfl⟩,
  ⟨by rw [Tryz.underlying58];rfl,by kernel_rfl⟩,
  ⟨by rw [Tryz.underlying32];rfl,by kernel_rfl⟩,
  ⟨by rw [Tryz.underlying47];rfl,by kernel_rfl⟩,
  ⟨by rw [Tryz.underlying41];rfl,by kernel_rfl⟩,
  ⟨by rw [Tryz.underlying72];rfl,by kernel_rfl⟩,
  ⟨by rw [Tryz.underlying59];rfl,by kernel_rfl⟩,
  ⟨by rw [Tryz.underlying45];rfl,by kernel_rfl⟩,
  ⟨by rw [Tryz.underlying27];rfl,by kernel_rfl⟩,
  ⟨by rw [Tryz.underlying61];rfl,by kernel_rfl⟩,
  ⟨by rw [Tryz.underlying28];rfl,by kernel_rfl⟩,
  ⟨by rw [Tryz.underlying29];rfl,by kernel_rfl⟩,
  ⟨by rw [Tryz.underlying57];rfl,by kernel_rfl⟩,
  ⟨by rw [Tryz.underlying31];rfl,by kernel_rfl⟩,
  ⟨by rw [Tryz.underlying114];rfl,by kernel_rfl⟩,
  ⟨by rw [Tryz.underlying63];rfl,by kernel_rfl⟩,
  ⟨by rw [Tryz.underlying111];rfl,by kernel_rfl⟩,
  ⟨by rw [Tryz.underlying75];rfl,by kernel_rfl⟩,
  ⟨by rw [Tryz.underlying73];rfl,by kernel_rfl⟩,
  ⟨by rw [Tryz.underlying224];rfl,by kernel_rfl⟩,
  ⟨by rw [Tryz.underlying304];rfl,by kernel_rfl⟩,
  ⟨by rw [Tryz.underlying112];rfl,by kernel_rfl⟩,
  ⟨by rw [Tryz.underlying177];rfl,by kernel_rfl⟩,
  ⟨by rw [Tryz.underlying118];rfl,by kernel_rfl⟩,
  ⟨by rw [Tryz.underlying181];rfl,by kernel_rfl⟩,trivial⟩
theorem vG: ∃i:TypeInfo,Tryz.prog.info? 2=some i∧i.zero=some (.int .i64 0)∧i.size=1∧i.bytes=8:=by
 have h:(Tryz.prog.info? 2).map (fun i=>(i.zero,i.size,i.bytes))=some (some (.int .i64 0),1,8):=by kernel_rfl
 cases hi:Tryz.prog.info? 2 with
 | none=>simp [hi] at h
 | some i=>simp [hi] at h;exact⟨i,rfl,h.1,h.2.1,h.2.2⟩
theorem fF{β:fY}{n:Nat}{Γ:Env}{H:List bX}{F:List bU}{Q:Exit→Act→World→Prop}{ops:Array Oper}{rest:List Oper}{o:Oper}{d:Nat}{x:Operand}{m:Int}(hw:want ops Γ o=some true)(ho:o.op= .buildSlice 63 1 #[(0,x)])(hd:o.dst=some d)(hn:Nat.blt d n=true)
  (hx:Γ.ev x=some (.int .i64 m)) (k: ∀b,At β n ((d,.slice (some ⟨b,0,none⟩) 1 1)::Γ) (.obj b (.cells (cQ.all [m]).toArray 2)::H) F (wpList Tryz.prog ops Q rest)):At β n Γ H F (wpList Tryz.prog ops Q (o::rest)):=by
 obtain⟨i,hi,hz,hs,_⟩:=vG;refine rU hw ho hd hn hx Tryz.underlying63 hi hz (by omega) (by omega) ?_ k;rw [hs]
 kernel_rfl
theorem kF{β:fY}{n:Nat}{Γ:Env}{H:List bX}{F:List bU}{Q:Exit→Act→World→Prop}{ops:Array Oper}{rest:List Oper}{o:Oper}{d:Nat}(hw:want ops Γ o=some true)(ho:o.op= .buildSlice 63 0 #[])(hd:o.dst=some d)(hn:Nat.blt d n=true)
  (k: ∀b,At β n ((d,.slice (some ⟨b,0,none⟩) 0 0)::Γ) (cQ.row (.slice (some ⟨b,0,none⟩) 0 0) 2 []::H) F (wpList Tryz.prog ops Q rest)):At β n Γ H F (wpList Tryz.prog ops Q (o::rest)):=by
 obtain⟨i,hi,_⟩:=vG;exact at_build0 cQ hw ho hd hn Tryz.underlying63 hi k
theorem dH{β:fY}{n:Nat}{Γ:Env}{H:List bX}{F:List bU}{Q:Exit→Act→World→Prop}{ops:Array Oper}{rest:List Oper}{o:Oper}{d:Nat}{x y:Operand}{c q:Nat}{v:Value}{A:Option Addr}{xs ys:List Int}{H':List bX}(hH:fU H (cQ.row v 2 xs) H')(hr:cM β H F cQ A ys)(hg:o.guard=none)
  (ho:o.op= .call {callee:= .builtin .append,args:= #[x,y],argTypes:= #[63,63]}) (hd:o.dst=some d) (hn:Nat.blt d n=true)
  (hx:Γ.ev x=some v) (hy:Γ.ev y=some (.slice A q c)) (hq:q=ys.length) (hl:xs.length+ys.length≤17592186044416)
  (k: ∀A' cap',At β n ((d,.slice A' (xs++ys).length cap')::Γ) (cQ.row (.slice A' (xs++ys).length cap') 2 (xs++ys)::H') F (wpList Tryz.prog ops Q rest)):At β n Γ H F (wpList Tryz.prog ops Q (o::rest)):=by
 obtain⟨i,hi,hz,hs,hb⟩:=vG;exact nT hH hr hg ho hd hn Tryz.underlying63 hi hz hs hb rfl hx hy hq (by omega) (by decide) k
theorem ints_of{S:iK}{w:World}{A:Option Addr}{k c:Nat}{l:List Int}(hS: ∀b,S b→b<w.heap.size)(h:(cQ.sl (.slice A k c) l).p S w):Ints w A l:=fun i d hi=>by
 obtain⟨A',cap,e,h⟩:=h;injection e with e1 e2 e3
 subst e1;obtain⟨b,o,cs,e1,e2,e3,e4⟩:=h i d hi;have e4:cs=[.int .i64 d]:=e4;subst e4;refine⟨b,o,e1,hS b e2,?_⟩;have:=e3 0 _ rfl;have hs:cQ.size=1:=rfl;rw [show(Enc.flat cQ.size cQ.cells).size=1 from rfl] at this
 simpa using this
theorem bCw(p:PolV)(B:Option Addr)(d:Nat)(ds:List Int)(hp:p.list.length≤140737488355328)(hq:ds.length≤140737488355328):dM Tryz.prog 142 [.slice p.addr p.list.length p.cap,.slice B ds.length d] [] [lS p,cQ.sl (.slice B ds.length d) ds] (fun _:Unit=> .tuple #[.int .i64 (evalP p.list ds).1,.int .i64 (evalP p.list ds).2]) (fun _=>[]) (fun _=>[]):=
 lU fun _ w hS h=>eval_any _ _ _ _ _ _ w (nC hS (h _ (.head _))) (ints_of hS (h _ (.tail _ (.head _)))) hp hq
def sideV (dims:List Int)(p:List Mono):Bool:=(evalP p dims).2==0&&decide (0≤(evalP p dims).1)&&decide ((evalP p dims).1≤65536)
def sidesGo(dims:List Int):List (List Mono)→List Int→Option (List Int)
 | [],acc=>some acc
 | p::r,acc=>if sideV dims p=true then sidesGo dims r (acc++[(evalP p dims).1]) else none
def prodQ:List Int→Int→Option Int
 | [],a=>some a
 | n::r,a=>if 65536<a*n then none else prodQ r (a*n)
def sizeB (sides:List (List Mono))(dims:List Int):Option Int:=match sidesGo dims sides [] with
 | none=>none
 | some l=>if l.contains 0 then some 0 else prodQ l 1
def cellsGo(dims:List Int):List iW→Int→Int×Int
 | [],all=>(all,0)
 | b::r,all=>match sizeB b.sides dims with
  | none=>(0,102)
  | some n=>if 1048576<all+n then (0,102) else cellsGo dims r (all+n)
def yT (n:Int):Bool:=decide (n<0) || decide (65536<n)
def iD (vars:Int)(dims:List Int):Bool:=decide ((dims.length:Int)=vars)&& !dims.any yT
def fI (c:mE)(dims:List Int):Int×Int:=if gO c=true then if iD c.vars dims=true then cellsGo dims c.bufs 0 else (0,101) else (0,100)
def inSz (l:List Int):Prop:= ∀n∈l,0≤n∧n≤65536
section
variable {dims acc : List Int} {l : List (List Mono)} {p : List Mono} {i : Nat} {R : Option (List Int)}
theorem zG(h:R=sidesGo dims (l.drop i) acc)(hp:l[i]?=some p)(h1:(evalP p dims).2=0)(h2:0≤(evalP p dims).1)(h3:(evalP p dims).1≤65536):R=sidesGo dims (l.drop (i+1)) (acc++[(evalP p dims).1]):=by
 obtain⟨hlt,e⟩:=List.getElem?_eq_some_iff.1 hp;rw [h,←List.getElem_cons_drop hlt,e,sidesGo,if_pos (by simp [sideV,h1,h2,h3])]
theorem rQ(h:R=sidesGo dims (l.drop i) acc)(hp:l[i]?=some p)(h1:(evalP p dims).2≠0∨(evalP p dims).1<0∨65536<(evalP p dims).1):R=none:=by
 obtain⟨hlt,e⟩:=List.getElem?_eq_some_iff.1 hp;rw [h,←List.getElem_cons_drop hlt,e,sidesGo,if_neg];simp only [sideV,Bool.and_eq_true,beq_iff_eq,decide_eq_true_eq];rintro⟨⟨a,b⟩,c⟩;omega
theorem bHx(h:R=sidesGo dims (l.drop i) acc)(hi:l.length≤i):R=some acc:=by
 rw [h,List.drop_of_length_le hi,sidesGo]
theorem uX{n:Int}(h:inSz acc)(h2:0≤n)(h3:n≤65536):inSz (acc++[n]):=fun y hy=>by
 rcases List.mem_append.1 hy with hy | hy
 ·exact h y hy
 ·have e:y=n:=by simpa using hy
  subst e;exact⟨h2,h3⟩
end
section
variable {l : List Int} {a n : Int} {i : Nat} {R : Option Int}
theorem prod_yes(h:R=prodQ (l.drop i) a)(hp:l[i]?=some n)(h1:a*n≤65536):R=prodQ (l.drop (i+1)) (a*n):=by
 obtain⟨hlt,e⟩:=List.getElem?_eq_some_iff.1 hp;rw [h,←List.getElem_cons_drop hlt,e,prodQ,if_neg (by omega)]
theorem prod_no(h:R=prodQ (l.drop i) a)(hp:l[i]?=some n)(h1:65536<a*n):R=none:=by
 obtain⟨hlt,e⟩:=List.getElem?_eq_some_iff.1 hp;rw [h,←List.getElem_cons_drop hlt,e,prodQ,if_pos h1]
theorem prod_end(h:R=prodQ (l.drop i) a)(hi:l.length≤i):R=some a:=by
 rw [h,List.drop_of_length_le hi,prodQ]
theorem wK(ha:0≤a∧a≤65536)(hn:0≤n∧n≤65536):0≤a*n∧a*n≤4294967296:=by
 refine⟨Int.mul_nonneg ha.1 hn.1,?_⟩;have h1:a*n≤65536*n:=Int.mul_le_mul_of_nonneg_right ha.2 hn.1;omega
theorem prodQ_in: ∀{l:List Int} {a r:Int},0≤a→a≤65536→inSz l→prodQ l a=some r→0≤r∧r≤65536
 | [],a,r,h0,h1,_,h=>by cases h;exact⟨h0,h1⟩
 | n::l,a,r,h0,h1,hl,h=>by
  unfold prodQ at h;have hn:=hl n (List.mem_cons_self ..);split at h
  ·cases h
  ·exact prodQ_in (wK ⟨h0,h1⟩ hn).1 (by omega) (fun y hy=>hl y (List.mem_cons_of_mem _ hy)) h
end
theorem wA{dims:List Int}: ∀{l:List (List Mono)} {acc r:List Int},inSz acc→sidesGo dims l acc=some r→inSz r
 | [],acc,r,ha,h=>by cases h;exact ha
 | p::l,acc,r,ha,h=>by
  unfold sidesGo at h;split at h
  ·rename_i hs;simp only [sideV,Bool.and_eq_true,beq_iff_eq,decide_eq_true_eq] at hs;exact wA (uX ha hs.1.2 hs.2) h
  ·cases h
theorem sizeB_in{sides:List (List Mono)}{dims:List Int}{n:Int}(h:sizeB sides dims=some n):0≤n∧n≤65536:=by
 unfold sizeB at h;split at h
 ·cases h
 ·rename_i l hl;split at h
  ·cases h;omega
  ·exact prodQ_in (by omega) (by omega) (wA (fun _ h=>by cases h) hl) h
set_option maxRecDepth 100000 in
theorem indexF6_spec(A:Option Addr)(c:Nat)(l:List Int)(hl:l.length≤140737488355328)(f:FuncId)(cap:List Value)(G:List bU)(p:Int→Bool)(hcf: ∀(args:Array Value) (w:World),(callFunc f args).run Tryz.prog w= .ok (.enter f args) w)(hf: ∀k:Int,dM Tryz.prog f (.int .i64 k::cap) [] G (fun _:Unit=> .bool (p k)) (fun _=>[]) (fun _=>[])):dM Tryz.prog 141 [.slice A l.length c,.func (.func f) #[] cap.toArray] [] (cQ.sl (.slice A l.length c) l::G) (fun(_:Unit)=> .int .i64 (vO p l 0)) (fun _=>[]) (fun _=>[]):=by
 have hT:=sV;generalize hR:vO p l 0=r;refine cO Tryz.func141 rfl Tryz.ntmps141 rfl ?_;intro β hM;refine sr<|sp hT ?_;refine nn<|bE<|sr<|sp3 hT ?_;refine nn<|bW<|cX (ι:=Nat) [(0,_),(1,_),(7,_)] ⟨rfl,rfl,rfl,trivial⟩ (fun i=>[(8,.int .i64 (i:Nat))]) (fun _=>[]) (fun i=>[bU.pure (i≤l.length∧r=vO p (l.drop i) i)]) (fun i=>l.length-i) 0 ⟨rfl,trivial⟩ .nil ⟨Has.pure (⟨by omega,hR.symm⟩),trivial⟩ ?_;rintro i;refine cD (Has.of mT0) fun hinv2=>?_;refine sr<|sp hT ?_;refine nn<|bE<|bL rfl (fun hc9=>?_) (fun hc9=>?_)
 ·have hc9:=of_decide_eq_true hc9;refine bO<|bC<|bE<|bW<|sr<|sp2 hT ?_;refine nn<|sr<|sp3 hT ?_
  obtain⟨x1,hx2⟩: ∃x',l[i]?=some x':=⟨_,List.getElem?_eq_getElem (by omega)⟩
  refine ss (bV hT (k:=i) (bP (Has.of mT1)) rfl rfl rfl rfl rfl rfl rfl (by omega)) ?_;refine ss (bR hT (cM.knows (bP (Has.of mT1)) (k:=i) (x:=x1) hx2 0) rfl rfl rfl rfl rfl) ?_;refine bCz hcf (hf x1) rfl rfl rfl rfl rfl rfl rfl .nil (bQ.drop 2) fun _=>?_;refine nn<|bL rfl (fun hc16=>?_) (fun hc16=>?_)
  ·refine sr<|sp2 hT ?_;refine nn<|bI<|bM<|bH<|bH<|bM<|bH ?_;have hr:=(pC hinv2.2 hx2).1 ‹_›;subst hr;exact bN () rfl (bD rfl) .nil trivial rfl
  refine bO<|bY<|bC<|bB<|sp hT ?_;refine bZ (z':=(((i+1):Nat):Int)) (cV (by omega) (by omega)) ?_;refine sp hT ?_;refine nn ?_;exact cJ (i+1) (by omega) ⟨rfl,trivial⟩ ⟨rfl,rfl,rfl,trivial⟩ .nil ⟨Has.pure (⟨by omega,(pC hinv2.2 hx2).2 ‹_›⟩),trivial⟩ (bQ.drop 1)
 have hc9:=Int.not_lt.1 (of_decide_eq_false hc9);refine cU<|cI<|cI<|cT<|bC<|sr<|sp hT ?_;refine nn<|bI ?_;have hr:=bDf hinv2.2 (by omega);subst hr;exact bN () rfl (bD rfl) .nil trivial rfl
set_option maxRecDepth 100000 in
theorem tG(A:Option Addr)(c:Nat)(l:List Int)(hl:l.length≤140737488355328)(f:FuncId)(cap:List Value)(G:List bU)(p:Int→Bool)(hcf: ∀(args:Array Value) (w:World),(callFunc f args).run Tryz.prog w= .ok (.enter f args) w)(hf: ∀k:Int,dM Tryz.prog f (.int .i64 k::cap) [] G (fun _:Unit=> .bool (p k)) (fun _=>[]) (fun _=>[])):dM Tryz.prog 80 [.slice A l.length c,.func (.func f) #[] cap.toArray] [] (cQ.sl (.slice A l.length c) l::G) (fun(_:Unit)=> .bool (l.any p)) (fun _=>[]) (fun _=>[]):=by
 have hT:=sV;refine cO Tryz.func80 rfl Tryz.ntmps80 rfl ?_;intro β hM;refine sr<|sp hT ?_;refine nn<|sr<|sp2 hT ?_;refine cK Tryz.func141 (indexF6_spec A c l hl f cap G p hcf hf) rfl rfl .nil bQ.self fun _=>?_;refine sp2 hT ?_;refine nn<|bI ?_;exact bN () rfl (bD rfl) .nil trivial (congrArg Value.bool (yR p l 0 (by decide)))
set_option maxRecDepth 100000 in
theorem index6_spec(A:Option Addr)(c:Nat)(l:List Int)(hl:l.length≤140737488355328)(k:Int):dM Tryz.prog 193 [.slice A l.length c,.int .i64 k] [] [cQ.sl (.slice A l.length c) l] (fun(_:Unit)=> .int .i64 (bGo k l 0)) (fun _=>[]) (fun _=>[]):=by
 have hT:=sV;generalize hR:bGo k l 0=r;refine cO Tryz.func193 rfl Tryz.ntmps193 rfl ?_;intro β hM;refine sr<|sp hT ?_;refine nn<|bE<|sr<|sp3 hT ?_;refine nn<|bW<|cX (ι:=Nat) [(0,_),(1,_),(7,_)] ⟨rfl,rfl,rfl,trivial⟩ (fun i=>[(8,.int .i64 (i:Nat))]) (fun _=>[]) (fun i=>[bU.pure (i≤l.length∧r=bGo k (l.drop i) i)]) (fun i=>l.length-i) 0 ⟨rfl,trivial⟩ .nil ⟨Has.pure (⟨by omega,hR.symm⟩),trivial⟩ ?_;rintro i;refine cD (Has.of mT0) fun hinv2=>?_;refine sr<|sp hT ?_;refine nn<|bE<|bL rfl (fun hc9=>?_) (fun hc9=>?_)
 ·have hc9:=of_decide_eq_true hc9;refine bO<|bC<|bE<|bW<|sr<|sp2 hT ?_;refine nn<|sr<|sp3 hT ?_
  obtain⟨x1,hx2⟩: ∃x',l[i]?=some x':=⟨_,List.getElem?_eq_getElem (by omega)⟩
  refine ss (bV hT (k:=i) (bP (Has.of mT1)) rfl rfl rfl rfl rfl rfl rfl (by omega)) ?_;refine ss (bR hT (cM.knows (bP (Has.of mT1)) (k:=i) (x:=x1) hx2 0) rfl rfl rfl rfl rfl) ?_;refine sp hT ?_;refine nn<|bL rfl (fun hc16=>?_) (fun hc16=>?_)
  ·have hc16:=eq_of_beq hc16;refine sr<|sp2 hT ?_;refine nn<|bI<|bM<|bH<|bH<|bM<|bH ?_;have hr:=(bIt hinv2.2 hx2).1 (by first | assumption | (symm;assumption));subst hr;exact bN () rfl (bD rfl) .nil trivial rfl
  have hc16:=beq_eq_false_iff_ne.1 hc16;refine bO<|bY<|bC<|bB<|sp hT ?_;refine bZ (z':=(((i+1):Nat):Int)) (cV (by omega) (by omega)) ?_;refine sp hT ?_;refine nn ?_;exact cJ (i+1) (by omega) ⟨rfl,trivial⟩ ⟨rfl,rfl,rfl,trivial⟩ .nil ⟨Has.pure (⟨by omega,(bIt hinv2.2 hx2).2 ‹_›⟩),trivial⟩ (bQ.drop 1)
 have hc9:=Int.not_lt.1 (of_decide_eq_false hc9);refine cU<|cI<|cI<|cT<|bC<|sr<|sp hT ?_;refine nn<|bI ?_;have hr:=idxI_end hinv2.2 (by omega);subst hr;exact bN () rfl (bD rfl) .nil trivial rfl
set_option maxRecDepth 100000 in
theorem pK(A:Option Addr)(c:Nat)(l:List Int)(hl:l.length≤140737488355328)(k:Int):dM Tryz.prog 143 [.slice A l.length c,.int .i64 k] [] [cQ.sl (.slice A l.length c) l] (fun(_:Unit)=> .bool (l.contains k)) (fun _=>[]) (fun _=>[]):=by
 have hT:=sV;refine cO Tryz.func143 rfl Tryz.ntmps143 rfl ?_;intro β hM;refine sr<|sp hT ?_;refine nn<|sr<|sp2 hT ?_;refine cK Tryz.func193 (index6_spec A c l hl k) rfl rfl .nil ⟨(Has.of mT0),trivial⟩ fun _=>?_;refine sp2 hT ?_;refine nn<|bI ?_;exact bN () rfl (bD rfl) .nil trivial (congrArg Value.bool (vV k l 0 (by decide)))
set_option maxRecDepth 100000 in
theorem sizeC_spec(sides:Sl PolV)(DA:Option Addr)(dcap:Nat)(dims:List Int)(hdl:dims.length≤140737488355328):dM Tryz.prog 82 [.slice sides.addr sides.list.length sides.cap,.slice DA dims.length dcap] [] [mD sides,cQ.sl (.slice DA dims.length dcap) dims] (fun(_:Unit)=> .tuple #[.int .i64 ((sizeB (polsL sides.list) dims).getD 0),.bool (sizeB (polsL sides.list) dims).isSome]) (fun _=>[]) (fun _=>[]):=by
 have hT:=sV
 obtain⟨R,hR⟩: ∃R,sidesGo dims (polsL sides.list) []=R:=⟨_,rfl⟩
 refine cO Tryz.func82 rfl Tryz.ntmps82 rfl ?_;intro β hM;refine bE<|cL (pX.sl (.slice sides.addr sides.list.length sides.cap) sides.list) (sJ (Has.of mT0)) ?_;refine cD (xS (Has.of mT1)) fun hsc=>?_;have hsc1:=hsc.1;have hsc2:=hsc.2;refine dN (t:=2) cQ ?_;refine bB<|sp2 hT ?_;refine nn<|sr<|sp hT ?_;refine nn<|bE<|sr<|sp3 hT ?_;refine nn<|bW<|cX (ι:=Option Addr×Nat×List Int×Nat) [(1,_),(14,_),(15,_)] ⟨rfl,rfl,rfl,trivial⟩ (fun⟨LA,lc,acc,i⟩=>[(6,.slice LA acc.length lc),(16,.int .i64 (i:Nat))]) (fun⟨LA,lc,acc,i⟩=>[cQ.row (.slice LA acc.length lc) 2 acc]) (fun⟨LA,lc,acc,i⟩=>[bU.pure (i≤sides.list.length∧acc.length=i∧inSz acc∧R=sidesGo dims ((polsL sides.list).drop i) acc)]) (fun⟨LA,lc,acc,i⟩=>sides.list.length-i) (none,0,[],0) ⟨rfl,rfl,trivial⟩ (.cons .head .nil) ⟨Has.pure (⟨by omega,rfl,fun _ h=>(by cases h),hR.symm⟩),trivial⟩ ?_;rintro⟨LA,lc,acc,i⟩;dsimp only;refine cD (Has.of mT0) fun hinv3=>?_;have hal:=hinv3.2.1;refine sr<|sp hT ?_;refine nn<|bE<|bL rfl (fun hc17=>?_) (fun hc17=>?_)
 ·have hc17:=of_decide_eq_true hc17;refine bO<|bC<|bE<|bW<|bE ?_
  obtain⟨x,hx⟩: ∃x',sides.list[i]?=some x':=⟨_,List.getElem?_eq_getElem (by omega)⟩
  refine cL (lS x) (Has.each (sN (Has.of mT2)) (List.mem_of_getElem? hx)) ?_;refine bB<|ss (bV hT (k:=i) (bP (Has.of mT2)) rfl rfl rfl rfl rfl rfl rfl (by omega)) ?_;refine ss (bR hT (cM.knows (bP (Has.of mT2)) (k:=i) (x:=x) hx 0) rfl rfl rfl rfl rfl) ?_;refine sp hT ?_;refine nn<|sr<|sp2 hT ?_;refine cD (jH (Has.of mT0)) fun hxl=>?_;refine cK Tryz.func142 (bCw x DA dcap dims hxl hdl) rfl rfl .nil ⟨Has.of mT0,Has.of mT4,trivial⟩ fun _=>?_;refine sp4 hT ?_;refine sp hT ?_;refine nn<|bE<|sr<|sp3 hT ?_;refine cB (fun hg28=>?_) (fun hg28=>?_)
  ·have hg28:=bne_iff_ne.1 hg28;refine sk2 ?_;refine sp2 hT ?_;refine sk2 ?_;refine sp hT ?_;refine nn<|cG rfl rfl ?_;refine sr<|sp2 hT ?_;refine nn<|bI<|bH<|bM<|bH<|bH<|bM<|bH ?_;have hz:sizeB (polsL sides.list) dims=none:=by unfold sizeB;rw [hR,rQ hinv3.2.2.2 (dQ hx) (by omega)]
   exact cC () rfl (bD rfl) (bD rfl) .nil trivial (by rw [hz];rfl)
  have hg28:=bne_eq_false_iff_eq.1 hg28;refine sp4 hT ?_;refine cB (fun hg32=>?_) (fun hg32=>?_)
  ·have hg32:=of_decide_eq_true hg32;refine sk2 ?_;refine sp hT ?_;refine nn<|cG rfl rfl ?_;refine sr<|sp2 hT ?_;refine nn<|bI<|bH<|bM<|bH<|bH<|bM<|bH ?_;have hz:sizeB (polsL sides.list) dims=none:=by unfold sizeB;rw [hR,rQ hinv3.2.2.2 (dQ hx) (by omega)]
   exact cC () rfl (bD rfl) (bD rfl) .nil trivial (by rw [hz];rfl)
  have hg32:=Int.not_lt.1 (of_decide_eq_false hg32);refine sp3 hT ?_;refine nn<|bL rfl (fun hc35=>?_) (fun hc35=>?_)
  ·have hc35:=of_decide_eq_true hc35;refine sr<|sp2 hT ?_;refine nn<|bI<|bH<|bM<|bH<|bH<|bM<|bH ?_;have hz:sizeB (polsL sides.list) dims=none:=by unfold sizeB;rw [hR,rQ hinv3.2.2.2 (dQ hx) (by omega)]
   exact cC () rfl (bD rfl) (bD rfl) .nil trivial (by rw [hz];rfl)
  have hc35:=Int.not_lt.1 (of_decide_eq_false hc35);refine bO<|bC<|bB<|sp2 hT ?_;refine fF (m:=(evalP x.list dims).1) rfl rfl rfl rfl rfl fun b1=>?_;refine dH kT1 (dP .head rfl) rfl rfl rfl rfl rfl rfl rfl (by simp only [List.length_singleton];omega) fun A2 c3=>?_;refine sp hT ?_;refine cA<|bY<|bC<|bB<|sp hT ?_;refine bZ (z':=(((i+1):Nat):Int)) (cV (by omega) (by omega)) ?_;refine sp hT ?_;refine nn ?_;exact cJ (A2,c3,acc++[(evalP x.list dims).1],i+1) (by dsimp only;omega) ⟨rfl,rfl,trivial⟩ ⟨rfl,rfl,rfl,trivial⟩ (.cons .head .nil) ⟨Has.pure (⟨by dsimp only;omega,by dsimp only;rw [List.length_append,List.length_singleton];omega,uX hinv3.2.2.1 (by omega) (by omega),zG hinv3.2.2.2 (dQ hx) ‹_› (by omega) (by omega)⟩),trivial⟩ (bQ.drop 2)
 have hc17:=Int.not_lt.1 (of_decide_eq_false hc17);refine cU<|cI<|cI<|cT<|bC<|bE<|sr<|sp hT ?_;have hsd:=bHx hinv3.2.2.2 (by rw [dC];omega);refine lE (E:=cQ) .head ?_;refine cK Tryz.func143 (pK LA lc acc (by omega) 0) rfl rfl .nil ⟨Has.of mT0,trivial⟩ fun _=>?_;refine nn<|bL rfl (fun hc42=>?_) (fun hc42=>?_)
 ·refine sr<|sp2 hT ?_;refine nn<|bI<|bH ?_;have hz:sizeB (polsL sides.list) dims=some 0:=by unfold sizeB;rw [hR,hsd];dsimp only;rw [if_pos ‹_›]
  exact cC () rfl (bD rfl) (bD rfl) .nil trivial (by rw [hz];rfl)
 refine bO<|bC<|bE ?_
 obtain⟨Q,hQ⟩: ∃Q,prodQ acc 1=Q:=⟨_,rfl⟩
 refine bB<|sp hT ?_;refine nn<|bE<|sr<|sp3 hT ?_;refine nn<|bW<|cX (ι:=Int×Nat) [(43,_),(44,_)] ⟨rfl,rfl,trivial⟩ (fun⟨al,j⟩=>[(11,.int .i64 al),(45,.int .i64 (j:Nat))]) (fun _=>[]) (fun⟨al,j⟩=>[bU.pure (j≤acc.length∧0≤al∧al≤65536∧Q=prodQ (acc.drop j) al)]) (fun⟨al,j⟩=>acc.length-j) (1,0) ⟨rfl,rfl,trivial⟩ .nil ⟨Has.pure (⟨by omega,by omega,by omega,hQ.symm⟩),trivial⟩ ?_;rintro⟨al,j⟩;dsimp only;refine cD (Has.of mT0) fun hinv14=>?_;refine sr<|sp hT ?_;refine nn<|bE<|bL rfl (fun hc46=>?_) (fun hc46=>?_)
 ·have hc46:=of_decide_eq_true hc46;refine bO<|bC<|bE<|bW<|bE ?_
  obtain⟨n,hn⟩: ∃n,acc[j]?=some n:=⟨_,List.getElem?_eq_getElem (by omega)⟩
  have hnz:=hinv3.2.2.1 n (List.mem_of_getElem? hn);have hmi:=wK ⟨hinv14.2.1,hinv14.2.2.1⟩ hnz;refine bB<|ss (bV hT (k:=j) (bP (Has.of mT1)) rfl rfl rfl rfl rfl rfl rfl (by omega)) ?_;refine ss (bR hT (cM.knows (bP (Has.of mT1)) (k:=j) (x:=n) hn 0) rfl rfl rfl rfl rfl) ?_;refine sp hT ?_;refine nn<|sr<|sp3 hT ?_;refine bZ (gK (by omega) (by omega)) ?_;refine sp hT ?_;refine nn<|sr<|sp2 hT ?_;refine nn<|bL rfl (fun hc53=>?_) (fun hc53=>?_)
  ·have hc53:=of_decide_eq_true hc53;refine sr<|sp2 hT ?_;refine nn<|bI<|bM<|bH<|bH<|bM<|bH ?_;have hz:sizeB (polsL sides.list) dims=none:=by unfold sizeB;rw [hR,hsd];dsimp only;rw [if_neg (by simp_all),hQ];exact prod_no hinv14.2.2.2 hn (by omega)
   exact cC () rfl (bD rfl) (bD rfl) .nil trivial (by rw [hz];rfl)
  have hc53:=Int.not_lt.1 (of_decide_eq_false hc53);refine bO<|bY<|bC<|bB<|sp hT ?_;refine bZ (z':=(((j+1):Nat):Int)) (cV (by omega) (by omega)) ?_;refine sp hT ?_;refine nn ?_;exact cJ (al*n,j+1) (by dsimp only;omega) ⟨rfl,rfl,trivial⟩ ⟨rfl,rfl,trivial⟩ .nil ⟨Has.pure (⟨by dsimp only;omega,(wK ⟨hinv14.2.1,hinv14.2.2.1⟩ hnz).1,by dsimp only;omega,prod_yes hinv14.2.2.2 hn (by omega)⟩),trivial⟩ (bQ.drop 1)
 have hc46:=Int.not_lt.1 (of_decide_eq_false hc46);refine cU<|cI<|cI<|cT<|bC<|sr<|sp3 hT ?_;refine nn<|bI ?_;have hz:sizeB (polsL sides.list) dims=some al:=by unfold sizeB;rw [hR,hsd];dsimp only;rw [if_neg (by simp_all),hQ];exact prod_end hinv14.2.2.2 (by omega)
 exact cC () rfl (bD rfl) (bD rfl) .nil trivial (by rw [hz];rfl)
section
variable {c : mE}
theorem bIb{vars:Int}{bufs:List iW}: ∀{r:List fG} {made:List Bool},made.length=bufs.length→mO vars bufs r made=true→ ∀x∈r,0≤x.buf∧x.buf<bufs.length∧ ∀o∈x.ops,o.how=4→0≤o.k∧o.k<bufs.length
 | [],_,_,_,x,hx=>by cases hx
 | y::r,made,hm,h,x,hx=>by
  rw [mO,Bool.and_eq_true,Bool.and_eq_true,Bool.and_eq_true] at h;obtain⟨⟨h1,h2⟩,h3,h4⟩:=h
  rcases List.mem_cons.1 hx with rfl | hx
  ·have h0:0≤x.buf:=of_decide_eq_true h1;refine⟨h0,?_,fun o ho e=>?_⟩
   ·cases hb:bufs[x.buf.toNat]? with
    | none=>rw [hb] at h2;cases h2
    | some b=>
     have:=(List.getElem?_eq_some_iff.1 hb).1;omega
   ·unfold lZ at h3;simp only [Bool.and_eq_true] at h3;have h5:=List.all_eq_true.1 h3.2.2.2.2.2 o ho;unfold opB at h5;rw [if_neg (by omega),if_neg (by omega),if_neg (by omega),if_pos e] at h5;simp only [Bool.and_eq_true,decide_eq_true_eq] at h5;refine⟨h5.1.1,?_⟩;have h6:=h5.2.1;rw [List.getD_eq_getElem?_getD] at h6
    cases hk:made[o.k.toNat]? with
    | none=>rw [hk] at h6;cases h6
    | some b=>
     have:=(List.getElem?_eq_some_iff.1 hk).1;omega
  ·exact bIb (by rw [List.length_set];exact hm) h4 x hx
theorem xO(h:gO c=true):(c.bufs.length≤1024∧c.steps.length≤1024∧c.outs.length≤64)∧(∀x∈c.steps,0≤x.buf∧x.buf<c.bufs.length∧ ∀o∈x.ops,o.how=4→0≤o.k∧o.k<c.bufs.length)∧ ∀k∈c.outs,0≤k∧k<c.bufs.length:=by
 obtain⟨h1,h2,h3,h4⟩:=oI h;exact⟨h1.2.2,bIb (nO _) h3,h4⟩
end
theorem bJv{sides:List (List Mono)}{dims:List Int}{z:Option Int}(h:sizeB sides dims=z):0≤z.getD 0∧z.getD 0≤65536:=by
 cases z with
 | none=>exact⟨by show(0:Int)≤0;omega,by show(0:Int)≤65536;omega⟩
 | some n=>exact sizeB_in h
section
variable {dims : List Int} {l : List iW} {al : Int} {i : Nat} {R : Int × Int} {b : iW} {z : Option Int}
theorem bHm(h:R=cellsGo dims (l.drop i) al)(hu:l[i]?=some b)(hz:sizeB b.sides dims=z)(hs:z.isSome=true)(h1:al+z.getD 0≤1048576):R=cellsGo dims (l.drop (i+1)) (al+z.getD 0):=by
 obtain⟨hlt,e⟩:=List.getElem?_eq_some_iff.1 hu
 cases z with
 | none=>cases hs
 | some n=>
  have h1:al+n≤1048576:=h1;rw [h,←List.getElem_cons_drop hlt,e,cellsGo,hz];show(if 1048576<al+n then ((0,102):Int×Int) else cellsGo dims (l.drop (i+1)) (al+n))=_;rw [if_neg (by omega)];rfl
theorem yN(h:R=cellsGo dims (l.drop i) al)(hu:l[i]?=some b)(hz:sizeB b.sides dims=z)(h1:z.isSome=false∨1048576<al+z.getD 0):R=(0,102):=by
 obtain⟨hlt,e⟩:=List.getElem?_eq_some_iff.1 hu;rw [h,←List.getElem_cons_drop hlt,e,cellsGo,hz]
 cases z with
 | none=>rfl
 | some n=>
  rcases h1 with h1 | h1
  ·cases h1
  ·have h1:1048576<al+n:=h1;show(if 1048576<al+n then ((0,102):Int×Int) else _)=_;rw [if_pos h1]
theorem bHb(h:R=cellsGo dims (l.drop i) al)(hi:l.length≤i):R=(al,0):=by
 rw [h,List.drop_of_length_le hi,cellsGo]
end
set_option maxRecDepth 100000 in
theorem cells1_spec(k:Int):dM Tryz.prog 81 [.int .i64 k] [] [] (fun(_:Unit)=> .bool (yT k)) (fun _=>[]) (fun _=>[]):=by
 have hT:=sV;refine cO Tryz.func81 rfl Tryz.ntmps81 rfl ?_;intro β hM;refine sr<|sp hT ?_;refine nn<|sr<|sp3 hT ?_;refine cB (fun hg5=>?_) (fun hg5=>?_)
 ·have hg5:=of_decide_eq_true hg5;refine sk2 ?_;refine sp2 hT ?_;refine nn<|bI ?_;exact bN () rfl (bD rfl) .nil trivial (by first | (unfold yT;simp [*];done) | (unfold yT;simp [*];omega))
 have hg5:=Int.not_lt.1 (of_decide_eq_false hg5);refine sp4 hT ?_;refine nn<|bI ?_;exact bN () rfl (bD rfl) .nil trivial (by first | (unfold yT;simp [*];done) | (unfold yT;simp [*];omega))
set_option maxRecDepth 100000 in
theorem Cells_spec(c:iN)(DA:Option Addr)(dcap:Nat)(dims:List Int)(hdl:dims.length≤140737488355328):dM Tryz.prog 38 [.agg #[.int .i64 c.vars,.slice c.bufs.addr c.bufs.list.length c.bufs.cap,.slice c.steps.addr c.steps.list.length c.steps.cap,.slice c.outs.addr c.outs.list.length c.outs.cap],.slice DA dims.length dcap] [] [lY c,cQ.sl (.slice DA dims.length dcap) dims] (fun(_:Unit)=> .tuple #[.int .i64 (fI c.c dims).1,.int .i64 (fI c.c dims).2]) (fun _=>[]) (fun _=>[]):=by
 have hT:=sV
 obtain⟨R,hR⟩: ∃R,cellsGo dims c.c.bufs 0=R:=⟨_,rfl⟩
 refine cO Tryz.func38 rfl Tryz.ntmps38 rfl ?_;intro β hM;refine sr<|gG rfl rfl rfl rfl rfl rfl fun b1=>?_;refine sp2 hT ?_;refine nn<|bE<|sr<|ss (ldN hT (dO .head)) ?_;refine cK Tryz.func15 (Right_spec c) rfl rfl .nil ⟨(Has.of mT0),trivial⟩ fun _=>?_;refine sp hT ?_;refine nn<|bL rfl (fun hc13=>?_) (fun hc13=>?_)
 ·have hc13:=gR hc13;refine sr<|sp2 hT ?_;refine nn<|bI<|bH ?_;have hr:gO c.c=false:=by simp_all
  have hv:fI c.c dims=(0,100):=by unfold fI;rw [if_neg (by simp [hr])]
  exact cC () rfl (bD rfl) (bD rfl) .nil trivial (by rw [hv])
 have hc13:=gS hc13;refine bO<|bC<|bE<|sr<|sp3 hT ?_;refine ss (ldO hT (dO .head)) ?_;refine sp2 hT ?_;refine cB (fun hg19=>?_) (fun hg19=>?_)
 ·have hg19:=bne_iff_ne.1 hg19;refine sk2 ?_;refine sp hT ?_;refine nn<|cG rfl rfl ?_;refine sr<|sp2 hT ?_;refine nn<|bI<|bH ?_;have hr:gO c.c=true:=by simp_all
  have hd:iD c.vars dims=false:=by unfold iD;simp_all
  have hv:fI c.c dims=(0,101):=by unfold fI;rw [if_pos hr,if_neg (by show ¬iD c.vars dims=true;simp [hd])]
  exact cC () rfl (bD rfl) (bD rfl) .nil trivial (by rw [hv])
 have hg19:=bne_eq_false_iff_eq.1 hg19;refine sp hT ?_;refine cK Tryz.func80 (tG DA dcap dims (by omega) 81 [] [] yT (cE Tryz.func81 rfl rfl) cells1_spec) rfl rfl .nil ⟨(Has.of mT1),trivial⟩ fun _=>?_;refine sp hT ?_;refine nn<|bL rfl (fun hc22=>?_) (fun hc22=>?_)
 ·refine sr<|sp2 hT ?_;refine nn<|bI<|bH ?_;have hr:gO c.c=true:=by simp_all
  have hd:iD c.vars dims=false:=by unfold iD;simp_all
  have hv:fI c.c dims=(0,101):=by unfold fI;rw [if_pos hr,if_neg (by show ¬iD c.vars dims=true;simp [hd])]
  exact cC () rfl (bD rfl) (bD rfl) .nil trivial (by rw [hv])
 refine bO<|bC<|sr<|sp hT ?_;refine nn<|bE<|bE ?_;have hrr:gO c.c=true:=by simp_all
 have hbz:=(xO hrr).1.1;have hnb:c.c.bufs.length=c.bufs.list.length:=dI _;refine cL (uB.sl (.slice c.bufs.addr c.bufs.list.length c.bufs.cap) c.bufs.list) (nS (iY (Has.of mT0))) ?_;refine bB<|sp hT ?_;refine ss (ldO hT (fE .head)) ?_;refine sp2 hT ?_;refine nn<|bW<|cX (ι:=Int×Nat) [(1,_),(24,_),(25,_)] ⟨rfl,rfl,rfl,trivial⟩ (fun⟨al,i⟩=>[(6,.int .i64 al),(26,.int .i64 (i:Nat))]) (fun _=>[]) (fun⟨al,i⟩=>[bU.pure (i≤c.bufs.list.length∧0≤al∧al≤1048576∧R=cellsGo dims ((bufsL c.bufs.list).drop i) al)]) (fun⟨al,i⟩=>c.bufs.list.length-i) (0,0) ⟨rfl,rfl,trivial⟩ .nil ⟨Has.pure (⟨by omega,by omega,by omega,hR.symm⟩),trivial⟩ ?_;rintro⟨al,i⟩;dsimp only;refine cD (Has.of mT0) fun hinv7=>?_;refine sr<|sp hT ?_;refine nn<|bE<|bL rfl (fun hc27=>?_) (fun hc27=>?_)
 ·have hc27:=of_decide_eq_true hc27;refine bO<|bC<|bE<|bW<|sr ?_
  obtain⟨x2,hx3⟩: ∃x',c.bufs.list[i]?=some x':=⟨_,List.getElem?_eq_getElem (by omega)⟩
  refine ss (bV hT (k:=i) (bP (Has.of mT1)) rfl rfl rfl rfl rfl rfl rfl (by omega)) ?_;refine ss (dT hT (cM.knows (bP (Has.of mT1)) (k:=i) (x:=x2) hx3 0) rfl rfl rfl rfl rfl) ?_;refine gP rfl rfl rfl rfl tJ rfl fun b4=>?_;refine sto hT .head ?_;refine nn<|sr<|sp hT ?_;refine ss (ldO hT (dO .head)) ?_;refine sp hT ?_;refine cL (mD x2.sides) (Has.each (tA (iY (Has.of mT2))) (List.mem_of_getElem? hx3)) ?_;refine cK Tryz.func82 (sizeC_spec x2.sides DA dcap dims hdl) rfl rfl .nil ⟨(Has.of mT0),(Has.of mT4),trivial⟩ fun _=>?_
  obtain⟨z,hz⟩: ∃z,sizeB (polsL x2.sides.list) dims=z:=⟨_,rfl⟩
  rw [hz];have hzb:=bJv hz;refine sp4 hT ?_;refine sp hT ?_;refine nn<|sr<|sp3 hT ?_;refine bZ (gK (by omega) (by omega)) ?_;refine sp hT ?_;refine nn<|sr<|sp3 hT ?_;refine cB (fun hg42=>?_) (fun hg42=>?_)
  ·have hg42:=gR hg42;refine sk2 ?_;refine sp hT ?_;refine nn<|cG rfl rfl ?_;refine sr<|sp2 hT ?_;refine nn<|bI<|bM<|bH<|bH<|bM<|bH ?_;have hr:gO c.c=true:=by simp_all
   have hd:iD c.vars dims=true:=by unfold iD;simp_all
   have hv:fI c.c dims=(0,102):=by unfold fI;rw [if_pos hr,if_pos (by show iD c.vars dims=true;exact hd)];exact hR.trans (yN hinv7.2.2.2 (dE hx3) hz (by first | (left;simp_all;done) | (right;omega)))
   exact cC () rfl (bD rfl) (bD rfl) .nil trivial (by rw [hv])
  have hg42:=gS hg42;refine sp3 hT ?_;refine nn<|bL rfl (fun hc45=>?_) (fun hc45=>?_)
  ·have hc45:=of_decide_eq_true hc45;refine sr<|sp2 hT ?_;refine nn<|bI<|bM<|bH<|bH<|bM<|bH ?_;have hr:gO c.c=true:=by simp_all
   have hd:iD c.vars dims=true:=by unfold iD;simp_all
   have hv:fI c.c dims=(0,102):=by unfold fI;rw [if_pos hr,if_pos (by show iD c.vars dims=true;exact hd)];exact hR.trans (yN hinv7.2.2.2 (dE hx3) hz (by first | (left;simp_all;done) | (right;omega)))
   exact cC () rfl (bD rfl) (bD rfl) .nil trivial (by rw [hv])
  have hc45:=Int.not_lt.1 (of_decide_eq_false hc45);refine bO<|bY<|bC<|bB<|sp hT ?_;refine bZ (z':=(((i+1):Nat):Int)) (cV (by omega) (by omega)) ?_;refine sp hT ?_;refine nn ?_;exact cJ (al+z.getD 0,i+1) (by dsimp only;omega) ⟨rfl,rfl,trivial⟩ ⟨rfl,rfl,rfl,trivial⟩ (.cons kT1 .nil) ⟨Has.pure (⟨by dsimp only;omega,by dsimp only;omega,by dsimp only;omega,bHm hinv7.2.2.2 (dE hx3) hz (by first | assumption | simp_all) (by omega)⟩),trivial⟩ (bQ.drop 2)
 have hc27:=Int.not_lt.1 (of_decide_eq_false hc27);refine cU<|cI<|cI<|cT<|bC<|sr<|sp3 hT ?_;refine nn<|bI ?_;have hr:gO c.c=true:=by simp_all
 have hd:iD c.vars dims=true:=by unfold iD;simp_all
 have hv:fI c.c dims=(al,0):=by unfold fI;rw [if_pos hr,if_pos (by show iD c.vars dims=true;exact hd)];exact hR.trans (bHb hinv7.2.2.2 (by rw [dI];omega))
 exact cC () rfl (bD rfl) (bD rfl) .nil trivial (by rw [hv])
end Go.Proofs.YtnmhcaahkaocgaaGreatDoor
namespace Go.Proofs.YtnmhcaahkaocgaaGreatDoor
def kR:List Int→List Int→Option (List Int)
 | a::xs,n::ns=>if a+1<n then some ((a+1)::xs) else (kR xs ns).map (0:: ·)
 | _,_=>none
def InR:List Int→List Int→Prop
 | [],[]=>True
 | a::xs,n::ns=>0≤a∧a<n∧InR xs ns
 | _,_=>False
def oR:List Int→List Int→Int
 | a::xs,n::ns=>a+n*oR xs ns
 | _,_=>0
def sizeR:List Int→Int
 | []=>1
 | n::ns=>n*sizeR ns
theorem sO: ∀{xs ns:List Int},InR xs ns→0≤oR xs ns∧oR xs ns<sizeR ns
 | [],[],_=>⟨Int.le_refl _,by decide⟩
 | a::xs,n::ns,h=>by
  obtain⟨h0,h1,h2⟩:=h;obtain⟨h3,h4⟩:=sO h2;have h5:n*oR xs ns≤n*(sizeR ns-1):=Int.mul_le_mul_of_nonneg_left (by omega) (by omega);have h6:0≤n*oR xs ns:=Int.mul_nonneg (by omega) h3;rw [Int.mul_sub,Int.mul_one] at h5;simp only [oR,sizeR];omega
theorem jO: ∀{xs ns bs:List Int},InR xs ns→kR xs ns=some bs→InR bs ns∧oR bs ns=oR xs ns+1
 | [],[],_,_,h=>by cases h
 | a::xs,n::ns,bs,hi,h=>by
  obtain⟨h0,h1,h2⟩:=hi;unfold kR at h;split at h
  ·cases h;exact⟨⟨by omega,by omega,h2⟩,by simp only [oR];omega⟩
  ·rename_i hn;obtain⟨cs,hc,rfl⟩:=Option.map_eq_some_iff.1 h;obtain⟨h3,h4⟩:=jO h2 hc;refine⟨⟨by omega,by omega,h3⟩,?_⟩;simp only [oR];rw [h4,Int.mul_add,Int.mul_one];omega
theorem inR_zero: ∀{ns:List Int},(∀n∈ns,0≤n)→ns.contains 0=false→InR (List.replicate ns.length 0) ns
 | [],_,_=>trivial
 | n::ns,h,hc=>by
  rw [List.contains_cons,Bool.or_eq_false_iff] at hc;have h1:n≠0:=fun e=>by have:=hc.1;simp [e] at this
  have:=h n (List.mem_cons_self ..);rw [List.length_cons,List.replicate_succ];exact⟨by omega,by omega,inR_zero (fun m hm=>h m (List.mem_cons_of_mem _ hm)) hc.2⟩
theorem bIp: ∀{ns:List Int},oR (List.replicate ns.length 0) ns=0
 | []=>rfl
 | n::ns=>by
  rw [List.length_cons,List.replicate_succ,oR,bIp,Int.mul_zero];rfl
theorem inR_len: ∀{xs ns:List Int},InR xs ns→xs.length=ns.length
 | [],[],_=>rfl
 | _::xs,_::ns,h=>by rw [List.length_cons,List.length_cons,inR_len h.2.2]
end Go.Proofs.YtnmhcaahkaocgaaGreatDoor
namespace Go.Proofs.YtnmhcaahkaocgaaGreatDoor
def gT:List Int→Int
 | []=>1
 | k::ks=>k*gT ks
def capN (C:Int):List Int→Int→Int
 | [],n=>n
 | k::ks,n=>capN C ks (min (n*k) C)
theorem zP: ∀{ks:List Int},(∀k∈ks,0≤k)→0≤gT ks
 | [],_=>by decide
 | k::ks,h=>Int.mul_nonneg (h k (List.mem_cons_self ..)) (zP fun x hx=>h x (List.mem_cons_of_mem _ hx))
theorem bFx: ∀{ks:List Int},ks.contains 0=true→gT ks=0
 | [],h=>by cases h
 | k::ks,h=>by
  rw [List.contains_cons,Bool.or_eq_true,beq_iff_eq] at h
  rcases h with h | h
  ·rw [gT,←h,Int.zero_mul]
  ·rw [gT,bFx h,Int.mul_zero]
theorem capN_is{M C:Int}(hM:0≤M)(hC:M<C): ∀{ks:List Int} {n:Int},(∀k∈ks,0≤k)→0≤n→n≤C→0≤capN C ks n∧capN C ks n≤C∧(n*gT ks≤M→capN C ks n=n*gT ks)∧(M<n*gT ks→M<capN C ks n)
 | [],n,_,h0,h1=>by
  rw [gT,Int.mul_one];exact⟨h0,h1,fun _=>rfl,fun h=>h⟩
 | k::ks,n,h,h0,h1=>by
  have hk:=h k (List.mem_cons_self ..);have hks:=fun x hx=>h x (List.mem_cons_of_mem k hx);have hp:=zP hks;have hnk:0≤n*k:=Int.mul_nonneg h0 hk;obtain⟨i1,i2,i3,i4⟩:=capN_is hM hC (ks:=ks) (n:=min (n*k) C) hks (by omega) (by omega);have e:n*gT (k::ks)=n*k*gT ks:=by rw [gT,Int.mul_assoc]
  rw [e];unfold capN
  by_cases hle:n*k≤C
  ·have em:min (n*k) C=n*k:=by omega
   rw [em] at i1 i2 i3 i4⊢;exact⟨i1,i2,i3,i4⟩
  ·have em:min (n*k) C=C:=by omega
   rw [em] at i1 i2 i3 i4⊢
   by_cases hz:gT ks=0
   ·rw [hz,Int.mul_zero] at i3 i4⊢;exact⟨i1,i2,i3,i4⟩
   ·have h2:C*1≤C*gT ks:=Int.mul_le_mul_of_nonneg_left (by omega) (by omega);have h3:n*k*1≤n*k*gT ks:=Int.mul_le_mul_of_nonneg_left (by omega) hnk;exact⟨i1,i2,fun h=>by omega,fun _=>i4 (by omega)⟩
abbrev w64(z:Int):Int:=IntKind.i64.wrap z
def cY (f:Int)(two:Bool):Bool:=if f<1∨17<f then false else if f=16 then !two else two || decide (f≤7)
def mM (a b:Int):Int:=if a.tmod b≠0∧decide (a.tmod b<0)≠decide (b<0) then w64 (a.tmod b+b) else a.tmod b
def jC (b:Bool):Int:=if b then 1 else 0
def sG (a:Int):Bool:=decide (1<IntKind.u64.wrap a)
def fL (f a b:Int):Bool:=if f=4 then b==0 else if f=17 then decide (b<0) else if f=14∨f=15 then sG a || sG b else false
def gM:Nat→Int→Int→Nat→Int
 | 0,p,_,_=>p
 | k+1,p,a,n=>if n=0 then p else gM k (if n%2=1 then w64 (p*a) else p) (w64 (a*a)) (n/2)
def qK (a n:Int):Int:=gM (n.toNat+1) 1 a n.toNat
def sT (f a b:Int):Bool:=if f=8 then a==b else if f=9 then a !=b else if f=10 then decide (a<b) else if f=11 then decide (a≤b) else if f=12 then decide (b≤a) else decide (b<a)
def andW (a b:Int):Int:=w64 ((BitVec.ofInt 64 a&&&BitVec.ofInt 64 b).toNat:Nat)
def orW (a b:Int):Int:=w64 ((BitVec.ofInt 64 a ||| BitVec.ofInt 64 b).toNat:Nat)
def xorW (a b:Int):Int:=w64 ((BitVec.ofInt 64 a^^^BitVec.ofInt 64 b).toNat:Nat)
def divW (a b:Int):Int:=if mM a b≠a.tmod b then w64 (w64 (a.tdiv b)-1) else w64 (a.tdiv b)
def minW (a b:Int):Int:=if b<a then b else a
def bGn (a b:Int):Int:=if b>a then b else a
def kT (f a b:Int):Int:=
 if f=1 then w64 (a+b) else if f=2 then w64 (a-b) else if f=3 then w64 (a*b) else if f=4 then divW a b else if f=5 then (if a=0 then b else mM b a)
 else if f=6 then minW a b else if f=7 then bGn a b else if f=14 then andW a b else if f=15 then orW a b else if f=17 then qK a b else jC (sT f a b)
def dyadW (f a b:Int):Int×Int:=if cY f true=false then (0,10) else if fL f a b=true then (0,11) else (kT f a b,0)
def monadW(f a:Int):Int×Int:=
 if cY f false=false then (0,10) else if f=2 then (w64 (0-a),0) else if f=3 then (w64 (jC (decide (0<a))-jC (decide (a<0))),0) else if f=4 then dyadW f 1 a
 else if f=5 then (bGn a (w64 (0-a)),0) else if f=16 then (if sG a=true then (0,11) else (xorW a 1,0)) else (a,0)
def unitW (f:Int):Int×Bool:=
 if f=6 then (9223372036854775807,true) else if f=7 then (-9223372036854775808,true) else if f=3∨f=4∨f=8∨f=11∨f=12∨f=14∨f=17 then (1,true) else (0,cY f true)
structure Arr where
 sides:List Int
 data:List Int
 deriving Inhabited,DecidableEq
def tE:Arr:=⟨[],[]⟩
def pH (s:Int):Bool:=decide (s<0) || decide (65536<s)
def kW:List Int→Int→Int×Int
 | [],n=>(n,0)
 | s::r,n=>if 65536<w64 (n*s) then (0,61) else kW r (w64 (n*s))
def fP (s:List Int):Int×Int:=if 4<s.length∨s.any pH=true then (0,61) else if s.contains 0=true then (0,0) else kW s 1
def kU (a:Arr):Bool:=(fP a.sides).2==0&&(fP a.sides).1==(a.data.length:Int)
def mapM (f:Int):List Int→List Int×Int
 | []=>([],0)
 | n::r=>if (monadW f n).2≠0 then ([],(monadW f n).2) else if (mapM f r).2≠0 then ([],(mapM f r).2) else ((monadW f n).1::(mapM f r).1,0)
end Go.Proofs.YtnmhcaahkaocgaaGreatDoor
namespace Go.Proofs.YtnmhcaahkaocgaaGreatDoor
abbrev Rn (α:Type):=Except Int α
def rnVal (ds:List Int)(p:List Mono)(e:Int):Rn Int:=if (evalP p ds).2=0 then .ok (evalP p ds).1 else .error e
def rnMust(r:Int×Int):Rn Int:=if r.2=0 then .ok r.1 else .error r.2
def jX (ds:List Int)(mem:List (List Int))(at_:List Int)(o:OpC)(s:List Int):Rn (List Int):=
 if o.how=1 then .ok (o.n::s)
 else if o.how=2 then (rnVal ds o.p 121).map (· ::s)
 else if o.how=3 then .ok (at_.getD o.k.toNat 0::s)
 else if o.how=4 then match s with
  | k::r=>if k<0∨((mem.getD o.k.toNat []).length:Int)≤k then .error 121 else .ok ((mem.getD o.k.toNat []).getD k.toNat 0::r)
  | []=> .error 0
 else if o.how=5 then match s with
  | a::r=>(rnMust (monadW o.fn a)).map (· ::r)
  | []=> .error 0
 else match s with
  | b::a::r=>(rnMust (dyadW o.fn a b)).map (· ::r)
  | _=> .error 0
def rnOps (ds:List Int)(mem:List (List Int))(at_:List Int):List OpC→List Int→Rn (List Int)
 | [],s=> .ok s
 | o::r,s=>(jX ds mem at_ o s).bind (rnOps ds mem at_ r)
def dR (ds:List Int)(mem:List (List Int))(at_:List Int)(ops:List OpC):Rn Int:=(rnOps ds mem at_ ops []).map (·.headD 0)
def iM (ds:List Int)(x:fG)(n:Nat)(v:Int)(mem:List (List Int)):Rn (List (List Int)):=(rnVal ds x.at_ 121).bind fun to_=>
 if ((mem.getD x.buf.toNat []).length:Int)≤to_+n then .error 121 else .ok (mem.modify x.buf.toNat fun d=>d.set (to_+n).toNat v)
def rnFold(ds:List Int)(mem:List (List Int))(at_:List Int)(x:fG):Nat→Nat→Int→Rn Int
 | 0,_,v=> .ok v
 | m+1,k,v=>(dR ds mem (at_++[(k:Int)]) x.ops).bind fun y=>(if 0<k then rnMust (dyadW x.fn v y) else .ok y).bind (rnFold ds mem at_ x m (k+1))
def dU (ds:List Int)(x:fG)(many:Int)(at_:List Int)(last:Int)(n:Nat)(mem:List (List Int)):Rn (Int×List (List Int)):=
 if x.how=2 then (rnFold ds mem at_ x many.toNat 0 (unitW x.fn).1).bind fun v=>(iM ds x n v mem).map fun m=>(last,m)
 else (dR ds mem at_ x.ops).bind fun v=>(if x.how=3∧0<at_.getLastD 0 then rnMust (dyadW x.fn last v) else .ok v).bind fun v=>(iM ds x n v mem).map fun m=>(v,m)
def rnWalk(ds:List Int)(x:fG)(many:Int)(lr:List Int):Nat→List Int→Int→Nat→List (List Int)→Rn (List (List Int))
 | 0,_,_,_,mem=> .ok mem
 | m+1,r,last,n,mem=>(dU ds x many r.reverse last n mem).bind fun y=>match kR r lr with
  | some r'=>rnWalk ds x many lr m r' y.1 (n+1) y.2
  | none=> .ok y.2
def rnLoops(ds:List Int):List (List Mono)→List Int→Rn (List Int)
 | [],l=> .ok l
 | p::r,l=>(rnVal ds p 122).bind fun k=>if 65536<k then .error 122 else rnLoops ds r (l++[k])
def fH (x:fG)(l:List Int):Int:=gT (if x.how=2 then l.dropLast++[l.getLastD 0+1] else l)*x.ops.length
structure RnM where
 mem:List (List Int)
 turns:Int
def kY (ds:List Int)(x:fG)(m:RnM):Rn RnM:=(rnLoops ds x.loops []).bind fun l=>
 if 2097152<m.turns+fH x l then .error 122
 else
  let outer:=if x.how=2 then l.dropLast else l
  if outer.contains 0=true then .ok ⟨m.mem,m.turns+fH x l⟩
  else (rnWalk ds x (l.getLastD 0) outer.reverse (sizeR outer.reverse).toNat (List.replicate outer.length 0) 0 0 m.mem).map fun mem=>⟨mem,m.turns+fH x l⟩
def jY (ds:List Int):List fG→Nat→RnM→Except (Nat×Int) RnM
 | [],_,m=> .ok m
 | x::r,i,m=>match kY ds x m with
  | .error e=> .error (i,e)
  | .ok m=>jY ds r (i+1) m
def rnSides(ds:List Int)(u:iW):List Int:=u.sides.map fun p=>(evalP p ds).1
def rnLoad(ds:List Int)(ins:List Arr):List iW→List (List Int)→Rn (List (List Int))
 | [],mem=> .ok mem
 | u::r,mem=>if u.input<0 then rnLoad ds ins r (mem++[List.replicate (fP (rnSides ds u)).1.toNat 0])
  else if kU (ins.getD u.input.toNat tE)=true∧(ins.getD u.input.toNat tE).sides=rnSides ds u then rnLoad ds ins r (mem++[(ins.getD u.input.toNat tE).data]) else .error 120
def rnMost:List iW→Int→Int
 | [],n=>n
 | u::r,n=>rnMost r (max n (u.input+1))
def qV (ds:List Int)(bufs:List iW)(mem:List (List Int))(outs:List Int):List Arr:=outs.map fun k=>⟨rnSides ds (bufs.getD k.toNat ⟨[],0⟩),mem.getD k.toNat []⟩
def rnRun (c:mE)(ds:List Int)(ins:List Arr):List Arr×Nat×Int:=
 if (fI c ds).2≠0 then ([],0,(fI c ds).2)
 else if (ins.length:Int)≠rnMost c.bufs 0 then ([],0,120)
 else match rnLoad ds ins c.bufs [] with
  | .error e=>([],0,e)
  | .ok mem=>match jY ds c.steps 0 ⟨mem,0⟩ with
   | .error (i,e)=>([],i,e)
   | .ok m=>(qV ds c.bufs m.mem c.outs,0,0)
end Go.Proofs.YtnmhcaahkaocgaaGreatDoor
namespace Go.Proofs.YtnmhcaahkaocgaaGreatDoor
theorem rn_w64{z:Int}(h0: -9223372036854775808≤z)(h1:z≤9223372036854775807):w64 z=z:=by
 simp only [IntKind.wrap,IntKind.signed,IntKind.bits];simp;omega
def Deep:List OpC→Nat→Prop
 | [],n=>n=1
 | o::r,n=>0≤dB o.how∧dB o.how≤n∧Deep r (n+1-(dB o.how).toNat)
theorem deep_of: ∀{l:List OpC} {most:Int} {n:Nat},0≤qE l most n→Deep l n
 | [],most,n,h=>by
  unfold qE at h;split at h
  ·show n=1;omega
  ·omega
 | o::r,most,n,h=>by
  unfold qE at h;split at h
  ·omega
  ·rename_i hc;have h1:0≤dB o.how:=by omega
   have h2:dB o.how≤n:=by omega
   rw [show(n:Int)+(1-dB o.how)=((n+1-(dB o.how).toNat:Nat):Int) by omega] at h;exact⟨h1,h2,deep_of h⟩
theorem deep_step{vars:Int}{made:List Bool}{x:fG}(h:lZ vars made x=true):Deep x.ops 0:=by
 unfold lZ at h;simp only [Bool.and_eq_true,decide_eq_true_eq] at h;exact deep_of (most:=0) (n:=0) h.2.2.2.1
theorem bJn{h:Int}(h0:0≤dB h):h=1∨h=2∨h=3∨h=4∨h=5∨h=6:=by
 unfold dB at h0;split at h0
 ·omega
 ·split at h0
  ·omega
  ·split at h0
   ·omega
   ·omega
theorem map_ok{α β:Type}{f:α→β}{r:Rn α}{b:β}(h:r.map f= .ok b): ∃a,r= .ok a∧b=f a:=by
 cases r with
 | error e=>cases h
 | ok a=>cases h;exact⟨a,rfl,rfl⟩
theorem bBv{α β:Type}{f:α→Rn β}{r:Rn α}{b:β}(h:r.bind f= .ok b): ∃a,r= .ok a∧f a= .ok b:=by
 cases r with
 | error e=>cases h
 | ok a=>exact⟨a,rfl,h⟩
def raise (v:Value):List PanicEntry:=[{v,recovered:=false}]
def bFy {ι:Type}(β:fY)(p:ι→Option Value)(val:ι→Value)(Hout:ι→List bX)(post:ι→List bU)(e:Ending)(w':World):Prop:=
 ∃x S',(p x=none∧e= .returned (val x)∧St β (Hout x) S' w'∧All (post x) S' w')∨(∃u,p x=some u∧e= .panicked (raise u)∧St β [] S' w')
def rC {ι:Type}(P:Program)(f:FuncId)(args:List Value)(Hin:List bX)(Pre:List bU)(p:ι→Option Value)(val:ι→Value)(Hout:ι→List bX)(post:ι→List bU):Prop:=
 ∀S w,St ⟨w,kN Hin,S⟩ Hin S w→All Pre S w→Calls P f args.toArray w (bFy ⟨w,kN Hin,S⟩ p val Hout post)
theorem bGs{ι:Type}{P:Program}{f:FuncId}{args:List Value}{Hin:List bX}{Pre:List bU}{p:ι→Option Value}{val:ι→Value}{Hout:ι→List bX}{post:ι→List bU}(hp: ∀x,p x=none)(h:rC P f args Hin Pre p val Hout post):dM P f args Hin Pre val Hout post:=fun S w s k=>
 (h S w s k).mono fun _ _ ⟨x,S',q⟩=>by
  rcases q with ⟨_,he,s',k'⟩ | ⟨u,hu,_⟩
  ·exact⟨x,S',he,s',k'⟩
  ·rw [hp] at hu;cases hu
section
variable {P : Program} {β : fY} {n : Nat} {Γ : Env} {H : List bX} {F : List bU} {Q : Exit → Act → World → Prop} {K : Act → World → Prop} {ch : List PanicEntry}
theorem dK(h:At β n Γ H F (Q (.panic ch))):At β n Γ H F (Exit.then K Q (.panic ch)):=h
theorem gQ{i:Nat}(h:At β n Γ H F (Q (.panic ch))):At β n Γ H F (Exit.inBlock i Q (.panic ch)):=h
theorem kQ{ops:Array Oper}{rest:List Oper}{o:Oper}{x:Operand}{t:TypeId}{v:Value}(hw:want ops Γ o=some true)(ho:o.op= .panic x)(hx:Γ.ev x=some (.iface t v))(k:At β n Γ H F (Q (.panic (raise (.iface t v))))):At β n Γ H F (wpList P ops Q (o::rest)):=
 jF hw fun a w S f s hF=>by
  unfold Oper.wp
  have hr:(execOp a.eval o).run P w= .halt (.panic (.iface t v)) w:=by
   unfold execOp;simp only [ho,f.ev hx];rfl
  rw [hr,Oper.upon_panic];exact k a w S f s hF
theorem jK{ι:Type}{ops:Array Oper}{rest:List Oper}{o:Oper}{d:Nat}{f:FuncId}{ars:Array Operand}{ts:Array TypeId}{vs:List Value}{Hin H2:List bX}{Pre:List bU}{p:ι→Option Value}{val:ι→Value}{Hout:ι→List bX}{post:ι→List bU}
  (hcf: ∀(args:Array Value) (w:World),(callFunc f args).run P w= .ok (.enter f args) w) (hs:rC P f vs Hin Pre p val Hout post) (hw:want ops Γ o=some true) (ho:o.op= .call ⟨.value (.func f),ars,ts⟩) (hd:o.dst=some d) (hn:Nat.blt d n=true)
  (hv:Γ.evs ars.toList=some vs) (hH:fZ H Hin H2) (hF:bQ F Pre) (kp: ∀x u,p x=some u→At β n Γ H2 F (Q (.panic (raise u)))) (kr: ∀x,p x=none→At β n ((d,val x)::Γ) (Hout x++H2) (post x++F) (wpList P ops Q rest)):
  At β n Γ H F (wpList P ops Q (o::rest)):=
 jF hw fun a w S f s hk=>by
  unfold Oper.wp;rw [bEo hcf ho f hv w,Oper.upon_enter];have s1:=s.perm hH.perm;refine(hs S w s1.enter (hF.all S w hk)).mono ?_;rintro e w' ⟨x,S',q⟩
  rcases q with ⟨hx,rfl,s',k'⟩ | ⟨u,hx,rfl,s'⟩
  ·show wpList P ops Q rest (a.put o.dst (val x)) w';rw [hd];exact kr x hx _ _ _ (f.put (by simpa [Nat.blt_eq] using hn) _) (s1.leave s') ((All.mono (fun _ h=> .inr h) (fun _ _=>rfl) k').append (All.leave s1 s' hk))
  ·exact kp x u hx a w' _ f (s1.leave (Hout:=[]) s') (All.leave (Hout:=[]) s1 s' hk)
theorem rM{ι:Type}{ops:Array Oper}{rest:List Oper}{o:Oper}{d:Nat}{f:FuncId}{x:Operand}{first cap:Array Value}{ars:Array Operand}{ts:Array TypeId}{vs all:List Value}{Hin H2:List bX}{Pre:List bU}{p:ι→Option Value}{val:ι→Value}{Hout:ι→List bX}{post:ι→List bU}
  (hcf: ∀(args:Array Value) (w:World),(callFunc f args).run P w= .ok (.enter f args) w) (hs:rC P f all Hin Pre p val Hout post) (hw:want ops Γ o=some true) (ho:o.op= .call ⟨.value x,ars,ts⟩) (hx:Γ.ev x=some (.func (.func f) first cap)) (hd:o.dst=some d) (hn:Nat.blt d n=true)
  (hv:Γ.evs ars.toList=some vs) (hall:first.toList++vs++cap.toList=all) (hH:fZ H Hin H2) (hF:bQ F Pre) (kp: ∀x u,p x=some u→At β n Γ H2 F (Q (.panic (raise u)))) (kr: ∀x,p x=none→At β n ((d,val x)::Γ) (Hout x++H2) (post x++F) (wpList P ops Q rest)):
  At β n Γ H F (wpList P ops Q (o::rest)):=
 jF hw fun a w S f s hk=>by
  unfold Oper.wp;rw [bJi hcf ho f hx hv w,Oper.upon_enter]
  have e:first++vs.toArray++cap=all.toArray:=by
   rw [←hall];apply Array.ext';simp
  rw [e];have s1:=s.perm hH.perm;refine(hs S w s1.enter (hF.all S w hk)).mono ?_;rintro e w' ⟨x,S',q⟩
  rcases q with ⟨hx,rfl,s',k'⟩ | ⟨u,hx,rfl,s'⟩
  ·show wpList P ops Q rest (a.put o.dst (val x)) w';rw [hd];exact kr x hx _ _ _ (f.put (by simpa [Nat.blt_eq] using hn) _) (s1.leave s') ((All.mono (fun _ h=> .inr h) (fun _ _=>rfl) k').append (All.leave s1 s' hk))
  ·exact kp x u hx a w' _ f (s1.leave (Hout:=[]) s') (All.leave (Hout:=[]) s1 s' hk)
theorem mX{ι:Type}{f:FuncId}{fn:Func}{c:Code}{args:List Value}{Hin:List bX}{Pre:List bU}{p:ι→Option Value}{val:ι→Value}{Hout:ι→List bX}{post:ι→List bU}(hf:P.funcs[f]?=some fn)(hb:fn.body=some c)(hn:fn.ntmps=n)
  (hl:Nat.ble args.length n=true) (h: ∀β,β.M=kN Hin→At β n (xM 0 args) Hin Pre (c.wp P (bodyPost P fn (bFy β p val Hout post)))):rC P f args Hin Pre p val Hout post:=fun S w s k=>by
 refine calls_of_wp hf hb (h ⟨w,kN Hin,S⟩ rfl _ w S ⟨rfl,?_,fun i v hi=>?_⟩ s k)
 ·have:=Nat.le_of_ble_eq_true hl;simp;omega
 ·obtain⟨_,h2⟩:=rJ 0 args i v hi;simp only [Nat.sub_zero] at h2;have hlt:i<args.length:=(List.getElem?_eq_some_iff.1 h2).1;simp only [Array.getElem?_append];rw [if_pos (by simpa using hlt)]
  simpa using h2
section
variable {ι : Type} {fn : Func} {p : ι → Option Value} {val : ι → Value} {Hout : ι → List bX} {post : ι → List bU} {r1 r2 r3 : ResultVar} {v1 v2 v3 u : Value}
theorem gJ(x:ι)(he:p x=some u):At β n Γ H F (bodyPost P fn (bFy β p val Hout post) (.panic (raise u))):=fun _ _ S f s _=>
 ⟨f.defers,x,S,.inr ⟨u,he,rfl,s.sel .nil⟩⟩
theorem uD(x:ι)(hr:fn.results= #[])(hH:Sel H (Hout x))(hF:bQ F (post x))(hp:p x=none)(he: .tuple #[]=val x):At β n Γ H F (bodyPost P fn (bFy β p val Hout post) .ret):=fun a w S f s k=>by
 refine⟨f.defers,.tuple #[],?_,x,S,.inl ⟨hp,by rw [he],s.sel hH,hF.all S w k⟩⟩;rw [jZ,hr];simp
theorem xL(x:ι)(hr:fn.results= #[])(hH:Sel H (Hout x))(hF:bQ F (post x))(hp:p x=none)(he: .tuple #[]=val x):At β n Γ H F (bodyPost P fn (bFy β p val Hout post) .normal):=fun a w S f s k=>by
 refine⟨f.defers,.tuple #[],?_,x,S,.inl ⟨hp,by rw [he],s.sel hH,hF.all S w k⟩⟩;rw [jZ,hr];simp
theorem wZ(x:ι)(hr:fn.results= #[r1])(h1:RV P β n Γ H F r1 v1)(hH:Sel H (Hout x))(hF:bQ F (post x))(hp:p x=none)(he:v1=val x):At β n Γ H F (bodyPost P fn (bFy β p val Hout post) .ret):=fun a w S f s k=>by
 refine⟨f.defers,v1,?_,x,S,.inl ⟨hp,by rw [he],s.sel hH,hF.all S w k⟩⟩;rw [jZ,hr];simp [h1 a w S f s k]
end
end
def dfA (ds:List Deferred)(a:Act):Act:={a with defers:=a.defers++ds}
def Df (ds:List Deferred)(K:Act→World→Prop)(a:Act)(w:World):Prop:=K (dfA ds a) w
def DfQ (ds:List Deferred)(Q:Exit→Act→World→Prop)(e:Exit)(a:Act)(w:World):Prop:=Q e (dfA ds a) w
theorem dfA_put(ds:List Deferred)(a:Act)(d:Option Tmp)(v:Value):(dfA ds a).put d v=dfA ds (a.put d v):=by cases d<;>rfl
theorem out_df{ds:List Deferred}{Q:Exit→Act→World→Prop}(h:LetsOut (DfQ ds Q)):LetsOut Q:=let ⟨a,w,k⟩:=h;⟨dfA ds a,w,k⟩
section
variable {P : Program} {o : Oper} {a : Act} {w : World} {Q : Exit → Act → World → Prop} {ops : Array Oper} {ds : List Deferred}
theorem op_df{next:Act→World→Prop}(h:o.wp P a w (Df ds next) (DfQ ds Q)):o.wp P (dfA ds a) w next Q:=by
 unfold Oper.wp at h⊢;have he:(dfA ds a).eval=a.eval:=rfl;rw [he];generalize (execOp a.eval o).run P w=r at h⊢
 cases r with
 | ok x w'=>
  cases x with
  | value v=>rw [Oper.upon_value,dfA_put];exact h
  | skip=>rw [Oper.upon_skip,dfA_put];exact h
  | defer d=>rw [Oper.upon_defer];rw [Oper.upon_defer] at h;unfold Df at h;rw [←dfA_put] at h;exact h
  | enter f args=>
   rw [Oper.upon_enter];rw [Oper.upon_enter] at h;refine h.mono fun e w' k=>?_
   cases e with
   | returned v=>simp only at k⊢;unfold Df at k;rw [dfA_put];exact k
   | panicked c=>exact k
   | outgrown=>exact out_df k
  | row r args=>
   rw [Oper.upon_row];rw [Oper.upon_row] at h;exact fun c cs=>let ⟨v,w',r,s⟩:=h c cs;⟨v,w',by have r':=r;unfold Df at r';simp only at r'⊢;rw [dfA_put];exact r',s⟩
  | _=>exact h.elim
 | halt e w'=>
  cases e with
  | panic v=>exact h
  | _=>exact h.elim
theorem bCc: ∀(os:List Oper) (a:Act) (w:World),wpList P ops (DfQ ds Q) os a w→wpList P ops Q os (dfA ds a) w
 | [],_,_,h=>h
 | o::os,a,w,h=>by
  unfold wpList at h⊢;have ht:(dfA ds a).tmps=a.tmps:=rfl;rw [ht];split at h
  ·rename_i hw;rw [if_pos hw]
   rcases h with h | ⟨h1,h2⟩
   ·exact .inl (op_df (Oper.wp_mono (fun a w k=>bCc os a w k) h))
   ·exact .inr ⟨h1,out_df h2⟩
  ·rename_i hw;rw [if_neg hw,dfA_put];exact bCc os _ w h
theorem any_df{md:Region.Mode}: ∀(fuel:Nat) (listed:Array Bool) (a:Act) (w:World),wpAny P md ops (DfQ ds Q) fuel listed a w→wpAny P md ops Q fuel listed (dfA ds a) w
 | 0,_,_,_,h=>h
 | fuel+1,listed,a,w,h=>by
  refine⟨h.1,fun i hi=>?_⟩;have:=h.2 i hi;unfold wpOp at this⊢;have ht:(dfA ds a).tmps=a.tmps:=rfl;rw [ht]
  cases ho:ops[i]? with
  | none=>
   rw [ho] at this;exact any_df fuel _ a w this
  | some o=>
   rw [ho] at this;simp only at this⊢;split at this
   ·rename_i hw;rw [if_pos hw]
    rcases this with h | ⟨h1,h2⟩
    ·exact .inl (op_df (Oper.wp_mono (fun a w k=>any_df fuel _ a w k) h))
    ·exact .inr ⟨h1,out_df h2⟩
   ·rename_i hw;rw [if_neg hw,dfA_put];exact any_df fuel _ _ w this
end
section
variable {P : Program} {β : fY} {n : Nat} {Γ : Env} {H H2 : List bX} {F : List bU} {Q : Exit → Act → World → Prop} {K : Act → World → Prop} {ds : List Deferred}
theorem oD{x y:Code}(h:At β n Γ H F (Df ds (x.wp P (Exit.then (y.wp P Q) Q)))):At β n Γ H F (Df ds ((Code.seq x y).wp P Q)):=fun a w S f s k=>wp_seq (h a w S f s k)
theorem d_blk{id:Nat}{c:Code}(h:At β n Γ H F (Df ds (c.wp P (Exit.inBlock id Q)))):At β n Γ H F (Df ds ((Code.block id c).wp P Q)):=fun a w S f s k=>wp_block (h a w S f s k)
theorem d_skip(h:At β n Γ H F (Df ds (Q .normal))):At β n Γ H F (Df ds (Code.skip.wp P Q)):=fun a w S f s k=>wp_skip (h a w S f s k)
theorem d_exit{id:Nat}(h:At β n Γ H F (Df ds (Q (.exit id)))):At β n Γ H F (Df ds ((Code.exit id).wp P Q)):=fun a w S f s k=>wp_exit (h a w S f s k)
theorem d_ret(h:At β n Γ H F (Df ds (Q .ret))):At β n Γ H F (Df ds (Code.ret.wp P Q)):=fun a w S f s k=>wp_ret (h a w S f s k)
theorem iT{id:Nat}{l:List Oper}(h:At β n Γ H F (wpList P l.toArray (DfQ ds Q) l)):At β n Γ H F (Df ds ((Code.region id l.toArray false).wp P Q)):=fun a w S f s k=>wp_region_lit (bCc l a w (h a w S f s k))
theorem d_list{ops:Array Oper}{l:List Oper}(h:At β n Γ H F (wpList P ops (DfQ ds Q) l)):At β n Γ H F (Df ds (wpList P ops Q l)):=fun a w S f s k=>bCc l a w (h a w S f s k)
theorem pJ{ops:Array Oper}(h:At β n Γ H F (Df ds (Q .normal))):At β n Γ H F (wpList P ops (DfQ ds Q) []):=h
theorem iA(h:At β n Γ H F (Df ds K)):At β n Γ H F (Df ds (Exit.then K Q .normal)):=h
theorem bBq{i:Nat}(h:At β n Γ H F (Df ds (Q (.exit i)))):At β n Γ H F (Df ds (Exit.then K Q (.exit i))):=h
theorem dn_block{i:Nat}(h:At β n Γ H F (Df ds (Q .normal))):At β n Γ H F (Df ds (Exit.inBlock i Q .normal)):=h
theorem dx_block{i:Nat}(h:At β n Γ H F (Df ds (Q .normal))):At β n Γ H F (Df ds (Exit.inBlock i Q (.exit i))):=fun a w S f s k=>by
 unfold Df;simp only [Exit.inBlock,if_true];exact h a w S f s k
theorem dp_any{ch:List PanicEntry}(h:At β n Γ H F (Df ds (Q (.panic ch)))):At β n Γ H F (DfQ ds Q (.panic ch)):=h
theorem bBu{ch:List PanicEntry}(h:At β n Γ H F (Df ds (Q (.panic ch)))):At β n Γ H F (Df ds (Exit.then K Q (.panic ch))):=h
theorem dp_block{i:Nat}{ch:List PanicEntry}(h:At β n Γ H F (Df ds (Q (.panic ch)))):At β n Γ H F (Df ds (Exit.inBlock i Q (.panic ch))):=h
theorem d_cond{c:Operand}{x y:Code}{t:Bool}(hc:Γ.ev c=some (.bool t))(ht:t=true→At β n Γ H F (Df ds (x.wp P Q)))(hf:t=false→At β n Γ H F (Df ds (y.wp P Q))):At β n Γ H F (Df ds ((Code.cond c x y).wp P Q)):=
 fun a w S f s k=>wp_cond_split (a:=dfA ds a) (show a.eval c= .bool t from f.ev hc) (fun e=>ht e a w S f s k) (fun e=>hf e a w S f s k)
theorem d_mixL{id:Nat}{l:List Oper}(last:Nat)(Hk:List bX)(F0:List bU)(od:List (Bool×Nat))(hm:P.follows .mixedOrders=true)(hB:mixLOk last od l.toArray=true)(hH:Sel H Hk)(hF:bQ F F0)
  (h:At β n Γ H F (lL P l.toArray (StF β Hk F0) (DfQ ds Q) last od)):At β n Γ H F (Df ds ((Code.region id l.toArray true).wp P Q)):=fun a w S f s k=>by
 simp only [mixLOk,Bool.and_eq_true] at hB;have hw:=StF.drew ⟨S,s,k⟩;obtain⟨S',s',k'⟩:=hw;refine wp_region_any hm (any_df _ _ _ _ ?_);have h1:=rY (P:=P) (md:= .any) (C:=StF β Hk F0) (Q:=DfQ ds Q) hB.1.1 od (Array.replicate l.toArray.size false) a _ lK.none hB.2 (StF.sel hH hF ⟨S',s',k'⟩) (h a _ S' f s' k');have h2:=pM (Q:=DfQ ds Q) end_any _ _ _ _ h1
 rwa [Nat.eq_of_beq_eq_true hB.1.2] at h2
def BackD {ι:Type}(ds:List Deferred)(β:fY)(n:Nat)(G:ι→Env)(HH:ι→List bX)(FF:ι→List bU)(μ:ι→Nat)(m:Nat)(a:Act)(w:World):Prop:= ∃a0,a=dfA ds a0∧Back β n G HH FF μ m a0 w
theorem d_loop{ι:Type}{c:Code}(G:ι→Env)(HH:ι→List bX)(FF:ι→List bU)(μ:ι→Nat)(x0:ι)(hG:Γ.Sub (G x0))(hH:Sel H (HH x0))(hF:bQ F (FF x0))
  (round: ∀x,At β n (G x) (HH x) (FF x) (Df ds (c.wp P (Exit.then (BackD ds β n G HH FF μ (μ x)) Q)))):At β n Γ H F (Df ds ((Code.loop c).wp P Q)):=by
 have key: ∀m x,μ x≤m→ ∀a w S,lX n (G x) a→St β (HH x) S w→All (FF x) S w→Code.rounds P c Q (m+1) (dfA ds a) w:=by
  intro m
  induction m with
  | zero=>
   intro x hx a w S f s k;rw [rounds_succ];refine Code.wp_mono (fun e a' w' q=>?_) (round x a w S f s k)
   cases e with
   | normal=>obtain⟨a0,_,x',S',hlt,_⟩:=q;omega
   | _=>exact q
  | succ m ih=>
   intro x hx a w S f s k;rw [rounds_succ];refine Code.wp_mono (fun e a' w' q=>?_) (round x a w S f s k)
   cases e with
   | normal=>
    obtain⟨a0,rfl,x',S',hlt,f',s',k'⟩:=q;exact ih x' (by omega) a0 w' S' f' s' k'
   | _=>exact q
 intro a w S f s k;exact wp_loop_rounds (μ x0+1) (key (μ x0) x0 (Nat.le_refl _) a w S (f.sub hG) (s.sel hH) (hF.all S w k))
theorem d_back{ι:Type}{G:ι→Env}{HH:ι→List bX}{FF:ι→List bU}{μ:ι→Nat}{m:Nat}(h:At β n Γ H F (Back β n G HH FF μ m)):At β n Γ H F (Df ds (BackD ds β n G HH FF μ m)):=fun a w S f s k=>⟨a,rfl,h a w S f s k⟩
theorem at_defer{ops:Array Oper}{rest:List Oper}{o:Oper}{x:Operand}{fv:Fn}{first cap:Array Value}{ars:Array Operand}{ts:Array TypeId}{vs:List Value}(hw:want ops Γ o=some true)(ho:o.op= .defer ⟨.value x,ars,ts⟩)(hx:Γ.ev x=some (.func fv first cap))(hd:o.dst=none)
  (hv:Γ.evs ars.toList=some vs) (k:At β n Γ H F (Df [{target:= .fn fv cap,args:=first++vs.toArray}] (wpList P ops Q rest))):At β n Γ H F (wpList P ops Q (o::rest)):=
 jF hw fun a w S f s hk=>by
  have hm:ars.map a.eval=vs.toArray:=by
   apply Array.ext'
   simpa using f.evs hv
  unfold Oper.wp
  have hr:(execOp a.eval o).run P w= .ok (.defer {target:= .fn fv cap,args:=first++vs.toArray}) w:=by
   unfold execOp;simp only [ho,resolve,f.ev hx,Deferred.ofValue,Sem.run_bind,Sem.run_pure,Result.andThen_ok];simp [hm]
  rw [hr,Oper.upon_defer,hd];have:=k a w S f s hk;unfold Df dfA at this;rw [f.defers] at this⊢;exact this
def bJr {ι:Type}(P:Program)(f:FuncId)(args:List Value)(u u':FrameMode)(Hin:List bX)(Pre:List bU)(Hout:ι→List bX)(post:ι→List bU):Prop:=
 ∀S w,St ⟨w,kN Hin,S⟩ Hin S w→All Pre S w→CallsD P f args.toArray u w fun e v w'=>(∃r,e= .returned r)∧v=u'∧ ∃x S',St ⟨w,kN Hin,S⟩ (Hout x) S' w'∧All (post x) S' w'
variable {ι : Type} {fn : Func} {R : Ending → World → Prop} {f : FuncId} {cap dargs : Array Value} {args : List Value} {Hin : List bX} {Pre : List bU} {Hout : ι → List bX} {post : ι → List bU}
theorem bIy{u u':FrameMode}(hu:u≠ .run)(hs':settle u'= .returning)(hi: ∀(args:Array Value) (w:World),(callFunc f args).run P w= .ok (.enter f args) w)(ha:(dargs++cap).toList=args)(hs:bJr P f args u u' Hin Pre Hout post)(hH:fZ H Hin H2)(hF:bQ F Pre)
  (k: ∀x,At β n Γ (Hout x++H2) (post x++F) (bodyPost P fn R .ret)):At β n Γ H F (Df [{target:= .fn (.func f) cap,args:=dargs}] fun a w=>Leaves P fn a.tmps R a.defers u w):=fun a w S fi s hk=>by
 have s1:=s.perm hH.perm;show Leaves P fn a.tmps R (a.defers++[{target:= .fn (.func f) cap,args:=dargs}]) u w;rw [fi.defers];refine leaves_cons (f:=f) (args:=args.toArray) hu ?_ ?_
 ·show(callFunc f (dargs++cap)).run P w=_;rw [hi,←ha]
 refine(hs S w s1.enter (hF.all S w hk)).mono ?_;rintro e v w' ⟨⟨r,rfl⟩,rfl,x,S',s',k'⟩;have:=k x a w' _ fi (s1.leave s') ((All.mono (fun _ h=> .inr h) (fun _ _=>rfl) k').append (All.leave s1 s' hk));obtain⟨_,v,hv,hR⟩:=this;show Leaves P fn a.tmps R [] (settle _) w';rw [hs'];exact⟨v,hv,hR⟩
theorem d_leave(hi: ∀(args:Array Value) (w:World),(callFunc f args).run P w= .ok (.enter f args) w)(ha:(dargs++cap).toList=args)(hs:bJr P f args .returning .returning Hin Pre Hout post)(hH:fZ H Hin H2)(hF:bQ F Pre)
  (k: ∀x,At β n Γ (Hout x++H2) (post x++F) (bodyPost P fn R .ret)):At β n Γ H F (Df [{target:= .fn (.func f) cap,args:=dargs}] (bodyPostD P fn R .ret)):=bIy (by simp) rfl hi ha hs hH hF k
theorem d_caught{v:Value}(hi: ∀(args:Array Value) (w:World),(callFunc f args).run P w= .ok (.enter f args) w)(ha:(dargs++cap).toList=args)(hs:bJr P f args (.panicking (raise v)) (.panicking [{v,recovered:=true}]) Hin Pre Hout post)(hH:fZ H Hin H2)(hF:bQ F Pre)
  (k: ∀x,At β n Γ (Hout x++H2) (post x++F) (bodyPost P fn R .ret)):At β n Γ H F (Df [{target:= .fn (.func f) cap,args:=dargs}] (bodyPostD P fn R (.panic (raise v)))):=bIy (by simp) rfl hi ha hs hH hF k
theorem ret_before(h:At β n Γ H F (bodyPost P fn R .ret)):At β n Γ H F (bodyPostD P fn R .ret):=fun a w S f s k=>by
 obtain⟨hd,v,hv⟩:=h a w S f s k;show Leaves P fn a.tmps R a.defers .returning w;rw [hd];exact⟨v,hv⟩
theorem spec_defers{ι:Type}{f:FuncId}{c:Code}{args:List Value}{Hin:List bX}{Pre:List bU}{val:ι→Value}{Hout:ι→List bX}{post:ι→List bU}(hf:P.funcs[f]?=some fn)(hb:fn.body=some c)(hn:fn.ntmps=n)
  (hl:Nat.ble args.length n=true) (h: ∀β,β.M=kN Hin→At β n (xM 0 args) Hin Pre (c.wp P (bodyPostD P fn (Done β val Hout post)))):dM P f args Hin Pre val Hout post:=fun S w s k=>by
 refine calls_of_wp_defers hf hb (h ⟨w,kN Hin,S⟩ rfl _ w S ⟨rfl,?_,fun i v hi=>?_⟩ s k)
 ·have:=Nat.le_of_ble_eq_true hl;simp;omega
 ·obtain⟨_,h2⟩:=rJ 0 args i v hi;simp only [Nat.sub_zero] at h2;have hlt:i<args.length:=(List.getElem?_eq_some_iff.1 h2).1;simp only [Array.getElem?_append];rw [if_pos (by simpa using hlt)]
  simpa using h2
end
section
variable {P : Program} {ops : Array Oper} {Q0 : Exit → Act → World → Prop} {Q : Exit → Act → List Frame → World → Prop} {cs : List Frame}
theorem opsS_of(hQ: ∀e a w,Q0 e a w→Q e a cs w)(hO: ¬LetsOut Q0): ∀(l:List Oper) (k:Nat),(∀j:Nat,l[j]?=ops[k+j]?)→ ∀(a:Act) (w:World),wpList P ops Q0 l a w→wpOpsS P ops Q (List.range' k l.length) a cs w
 | [],_,_,a,w,h=>hQ _ _ _ h
 | o::l,k,hk,a,w,h=>by
  have h0:ops[k]?=some o:=by simpa using (hk 0).symm
  have ih:=opsS_of hQ hO l (k+1) (fun j=>by have:=hk (j+1);simpa [Nat.add_assoc,Nat.add_comm 1 j] using this);rw [List.length_cons,List.range'_succ];unfold wpList at h;unfold wpOpsS;simp only [h0];split at h
  ·rename_i hw;rw [if_pos hw];have h:=h.resolve_right fun h=>hO h.2;unfold Oper.wp at h;generalize (execOp a.eval o).run P w=r at h⊢
   cases r with
   | ok x w'=>
    cases x with
    | value v=>rw [Oper.upon_value] at h;exact ih _ _ h
    | skip=>rw [Oper.upon_skip] at h;exact ih _ _ h
    | defer d=>rw [Oper.upon_defer] at h;exact ih _ _ h
    | enter f args=>
     rw [Oper.upon_enter] at h;refine Calls.mono h fun e w' k=>?_
     cases e with
     | returned v=>exact ih _ _ k
     | panicked c=>exact hQ _ _ _ k
     | outgrown=>exact absurd k hO
    | row r args=>
     rw [Oper.upon_row] at h;exact fun c cs=>let ⟨v,w',r,s⟩:=h c cs;⟨v,w',ih _ _ r,s⟩
    | _=>exact h.elim
   | halt e w'=>
    cases e with
    | panic v=>exact hQ _ _ _ h
    | _=>exact h.elim
  ·rename_i hw;rw [if_neg hw];exact ih _ _ h
end
def EndD {ι:Type}(β:fY)(Hout:ι→List bX)(post:ι→List bU)(e:Ending)(w':World):Prop:=(∃r,e= .returned r)∧ ∃x S',St β (Hout x) S' w'∧All (post x) S' w'
section
variable {ι : Type} {P : Program} {f : FuncId} {fn : Func} {n d id : Nat} {o : Oper} {l : List Oper} {rest : Code} {args : List Value} {u u' : FrameMode} {v : Value} {Hin : List bX} {Pre : List bU} {Hout : ι → List bX} {post : ι → List bU}
theorem vT(hf:P.funcs[f]?=some fn)(hb:fn.body=some (.seq (.region id (o::l).toArray false) rest))(hn:fn.ntmps=n)(hl:Nat.ble args.length n=true){ts:Array TypeId}(ho:o.op= .call {callee:= .builtin .recover,args:= #[],argTypes:=ts})(hg:o.guard=none)(hd:o.dst=some d)(hdn:Nat.blt d n=true)
  (hrec: ∀(c:Frame) (cs:List Frame),c.mode=u→recoverD (c::cs)=some (v,{c with mode:=u'}::cs)∨recoverD (c::cs)=none∧v= .nilIface∧u'=u)
  (h: ∀β,β.M=kN Hin→At β n ((d,v)::xM 0 args) Hin Pre (wpList P (o::l).toArray (Exit.then (rest.wp P (bodyPost P fn (EndD β Hout post))) (bodyPost P fn (EndD β Hout post))) l)):bJr P f args u u' Hin Pre Hout post:=fun S w s k=>by
 refine callsD_of_wpS hf hb fun c0 cs hu=>?_;apply wpS_seq;apply wpS_region
 have hsz:List.range (o::l).toArray.size=0::List.range' 1 l.length:=by
  rw [List.range_eq_range',List.size_toArray,List.length_cons,List.range'_succ]
 rw [hsz]
 have fit:lX n (xM 0 args) {tmps:=args.toArray++Array.replicate (fn.ntmps-args.toArray.size) undef,defers:=[]}:=by
  refine⟨rfl,?_,fun i v hi=>?_⟩
  ·have:=Nat.le_of_ble_eq_true hl;simp;omega
  ·obtain⟨_,h2⟩:=rJ 0 args i v hi;simp only [Nat.sub_zero] at h2;have hlt:i<args.length:=(List.getElem?_eq_some_iff.1 h2).1;simp only [Array.getElem?_append];rw [if_pos (by simpa using hlt)]
   simpa using h2
 generalize ({tmps:=args.toArray++Array.replicate (fn.ntmps-args.toArray.size) undef,defers:=[]}:Act)=a at fit⊢
 have hw:Region.wanted o (yielded (o::l).toArray a.tmps)=true:=by
  unfold Region.wanted;rw [hg]
 have hr:(execOp a.eval o).run P w= .ok .recover w:=by
  unfold execOp;simp only [ho];rfl
 have h1:=h ⟨w,kN Hin,S⟩ rfl (a.put o.dst v) w S (by rw [hd];exact fit.put (by simpa [Nat.blt_eq] using hdn) v) s k
 have key:wpOpsS P (o::l).toArray (Exit.thenS (rest.wpS P (bodyPostS P fn c0 cs fun e v w'=>(∃r,e= .returned r)∧v=u'∧ ∃x S',St ⟨w,kN Hin,S⟩ (Hout x) S' w'∧All (post x) S' w')) (bodyPostS P fn c0 cs fun e v w'=>(∃r,e= .returned r)∧v=u'∧ ∃x S',St ⟨w,kN Hin,S⟩ (Hout x) S' w'∧All (post x) S' w')) (List.range' 1 l.length) (a.put o.dst v) ({c0 with mode:=u'}::cs) w:=by
  have hend: ∀e a w',bodyPost P fn (EndD ⟨w,kN Hin,S⟩ Hout post) e a w'→bodyPostS P fn c0 cs (fun e v w'=>(∃r,e= .returned r)∧v=u'∧ ∃x S',St ⟨w,kN Hin,S⟩ (Hout x) S' w'∧All (post x) S' w') e a ({c0 with mode:=u'}::cs) w':=fun e a w' q=>by
   cases e with
   | normal=>obtain⟨q1,r,q2,q3,q4⟩:=q;exact⟨q1,u',rfl,r,q2,q3,rfl,q4⟩
   | ret=>obtain⟨q1,r,q2,q3,q4⟩:=q;exact⟨q1,u',rfl,r,q2,q3,rfl,q4⟩
   | panic c=>obtain⟨_,⟨r,hr⟩,_⟩:=q;cases hr
   | outgrown=>obtain⟨⟨r,hr⟩,_⟩:=q;cases hr
   | _=>exact q.elim
  refine opsS_of (Q0:=Exit.then (rest.wp P (bodyPost P fn (EndD ⟨w,kN Hin,S⟩ Hout post))) (bodyPost P fn (EndD ⟨w,kN Hin,S⟩ Hout post))) (fun e a w' q=>?_) ?_ l 1 (fun j=>by simp [Nat.add_comm 1 j]) _ _ h1
  ·cases e with
   | normal=>exact wpS_of_wp (Code.wp_mono (fun e a w' q=>hend e a w' q) q)
   | exit i=>exact hend (.exit i) a w' q
   | goto i=>exact hend (.goto i) a w' q
   | ret=>exact hend .ret a w' q
   | panic c=>exact hend (.panic c) a w' q
   | outgrown=>exact hend .outgrown a w' q
  ·rintro⟨a,w',⟨r,hr⟩,_⟩;cases hr
 unfold wpOpsS;simp only [List.getElem?_toArray,List.getElem?_cons_zero,hw,if_true,hr]
 rcases hrec c0 cs hu with e | ⟨e,rfl,rfl⟩
 ·rw [e];exact key
 ·rw [e];have hc:({c0 with mode:=u'}:Frame)=c0:=by subst hu;rfl
  rw [hc] at key;exact key
theorem rec_none(c:Frame)(cs:List Frame)(h:c.mode= .returning):recoverD (c::cs)=some (.nilIface,{c with mode:= .returning}::cs)∨recoverD (c::cs)=none∧(Value.nilIface:Value)= .nilIface∧(FrameMode.returning:FrameMode)= .returning:= .inr ⟨by simp [recoverD,h],rfl,rfl⟩
theorem rec_some(v:Value)(c:Frame)(cs:List Frame)(h:c.mode= .panicking (raise v)):recoverD (c::cs)=some (v,{c with mode:= .panicking [{v,recovered:=true}]}::cs)∨recoverD (c::cs)=none∧v= .nilIface∧FrameMode.panicking [{v,recovered:=true}]= .panicking (raise v):= .inl (by simp [recoverD,h,raise])
end
end Go.Proofs.YtnmhcaahkaocgaaGreatDoor
