/- Texts of one proof, one behind the other: PlanL, PlanE, Value, Eval, RefEval, CelA, CelB, Val, Grow. -/
import Derived.Test.YtofjmphlpdhohaaGreatDoorM16
import Derived.Test.YtofjmphlpdhohaaGreatDoorM7
import Derived.Test.YtofjmphlpdhohaaGreatDoorM12
import Derived.Test.YtofjmphlpdhohaaGreatDoorM6
import Derived.Test.YtofjmphlpdhohaaGreatDoorRows
import Derived.Test.YtofjmphlpdhohaaGreatDoorM10
import Derived.Test.YtofjmphlpdhohaaGreatDoorM17
namespace Go.Proofs.YtofjmphlpdhohaaGreatDoor
open Go.RowKit
set_option maxRecDepth 100000 in
theorem FullP_spec(c:iF):cX Tryz.prog 20 [.agg #[.int .i64 c.vars,.slice c.bufs.addr c.bufs.list.length c.bufs.cap,.slice c.steps.addr c.steps.list.length c.steps.cap,.slice c.outs.addr c.outs.list.length c.outs.cap]] [] [oT c] (fun(x:Option Addr×Nat)=> .tuple #[.slice x.1 (bAc c).length x.2,.int .i64 (if dE c.c=true then 0 else 100)]) (fun(x:Option Addr×Nat)=>[iO.row (.slice x.1 (bAc c).length x.2) 4 (bAc c)]) (fun _=>[]):=by
 have hT:=dW;generalize hV:bAc c=V;refine cD Tryz.func20 rfl Tryz.ntmps20 rfl ?_;intro β hM;refine sr<|iL rfl rfl rfl rfl rfl rfl fun b1=>?_;refine sp2 hT ?_;refine nn<|bF<|sr<|ss (ldN hT (dC .head)) ?_;refine cU Tryz.func25 (qT c) rfl rfl .nil ⟨(Has.of mT0),trivial⟩ fun _=>?_;refine sp hT ?_;refine nn<|bO rfl (fun hc6=>?_) (fun hc6=>?_)
 ·have hc6:=kG hc6;refine sr<|sp2 hT ?_;refine nn<|bK<|bN ?_;have hr:dE c.c=false:=by simp_all
  obtain rfl:V=[]:=by rw [←hV];simp [bAc,hr]
  refine gB (t:=4) iO ?_;exact dO (none,0) rfl (rv_tmp rfl) (rv_tmp rfl) (.cons .head .nil) trivial (by rw [hr];rfl)
 have hc6:=kD hc6;refine bM<|bE<|sr<|ss (ldN hT (dC .head)) ?_;have hr:dE c.c=true:=by simp_all
 have hVe:V=fullC c.c:=by rw [←hV];simp [bAc,hr]
 have hVl:V.length=c.bufs.list.length:=by rw [hVe,oD];exact cT _
 subst hVe;refine cU Tryz.func45 (bCs c hr) rfl rfl .nil ⟨(Has.of mT0),trivial⟩ fun⟨LA,lcp⟩=>?_;refine sp2 hT ?_;refine nn<|bK ?_;exact dO (LA,lcp) rfl (rv_tmp rfl) (rv_tmp rfl) (by rw [hVl];exact(.cons .head .nil)) trivial (by rw [hVl,hr];rfl)
section
variable {c : iF} (hr : dE c.c = true)
include hr
omit hr in
theorem lv_n:(lv (livesC c.c)).length=c.bufs.list.length:=by
 rw [sW,jC];exact cT _
theorem Lives_yes:cX Tryz.prog 18 [.agg #[.int .i64 c.vars,.slice c.bufs.addr c.bufs.list.length c.bufs.cap,.slice c.steps.addr c.steps.list.length c.steps.cap,.slice c.outs.addr c.outs.list.length c.outs.cap]] [] [oT c,bI.cells 0 0 [.int .i64 0,.int .i64 (-1)]]
  (fun x:Option Addr×Nat=> .tuple #[.slice x.1 c.bufs.list.length x.2,.int .i64 0]) (fun x=>[iP.row (.slice x.1 c.bufs.list.length x.2) 55 (lv (livesC c.c))]) (fun _=>[]):=by
 have h:=Lives_spec c;have e:sY c=lv (livesC c.c):=by simp [sY,hr]
 simp only [e,lv_n,if_pos hr] at h;exact h
variable {i : Nat} {x : gQ} {z : dJ} {k : Int}
end
set_option maxRecDepth 100000
def Mono.ex(m:Mono)(k:Nat):UInt8:=m.E.getD k 0
def dI (m:Mono)(D:Nat→Int):List (UInt8×Int):=[(m.e0,D 0),(m.e1,D 1),(m.e2,D 2),(m.e3,D 3),(m.e4,D 4),(m.e5,D 5)]
theorem sU(m:Mono)(D:Nat→Int): ∀k,k<6→(dI m D).drop k=(m.ex k,D k)::(dI m D).drop (k+1)
 | 0,_=>rfl
 | 1,_=>rfl
 | 2,_=>rfl
 | 3,_=>rfl
 | 4,_=>rfl
 | 5,_=>rfl
 | k+6,h=>absurd h (by omega)
def fK (l:List (UInt8×Int)):Bool:=l.any fun x=>decide (0<x.1.toNat)&&x.2==0
def fU:Int:=4611686018427387904
def nD (d:Int):Nat→Int→Option Int
 | 0,n=>some n
 | e+1,n=>if fU/d<n then none else nD d e (n*d)
def lI:List (UInt8×Int)→Int→Option Int
 | [],n=>some n
 | x::l,n=>(nD x.2 x.1.toNat n).bind (lI l)
def cM (m:Mono)(D:Nat→Int):Int×Bool:=
 if fK (dI m D) then (0,true) else match lI (dI m D) (max m.n (-m.n)) with
 | some n=>(n,true)
 | none=>(0,false)
theorem index_E(m:Mono)(k:Nat)(hk:k<6)(w:World):(Instr.index 43 (.agg #[.int .u8 m.e0.toNat,.int .u8 m.e1.toNat,.int .u8 m.e2.toNat,.int .u8 m.e3.toNat,.int .u8 m.e4.toNat,.int .u8 m.e5.toNat]) (.int .i64 (k:Int))).run Tryz.prog w= .ok (.int .u8 ((m.ex k).toNat:Int)) w:=by
 rcases k with _ | _ | _ | _ | _ | _ | k
 ·kernel_rfl
 ·kernel_rfl
 ·kernel_rfl
 ·kernel_rfl
 ·kernel_rfl
 ·kernel_rfl
 ·omega
theorem zero_not{m:Mono}{D:Nat→Int}(h:fK (dI m D)=false): ∀k,k<6→0<(m.ex k).toNat→D k≠0:=by
 intro k hk he hd
 have h1:(m.ex k,D k)∈dI m D:=by
  have:=sU m D k hk;exact List.mem_of_mem_drop (i:=k) (by rw [this];simp)
 have h2:fK (dI m D)=true:=List.any_eq_true.2 ⟨_,h1,by simp [he,hd]⟩;rw [h2] at h;cases h
def InV (x:Int):Prop:=0≤x∧x≤fU
theorem inV_mul{x d:Int}(hx:InV x)(hd:1≤d)(h: ¬fU/d<x):InV (x*d):=by
 obtain⟨h0,_⟩:=hx;refine⟨Int.mul_nonneg h0 (by omega),?_⟩;have h1:x≤fU/d:=by omega
 exact Int.le_trans (Int.mul_le_mul_of_nonneg_right h1 (by omega)) (Int.ediv_mul_le fU (by omega))
theorem wrap_inV{x:Int}(h:InV x):wrap64 x=x:=by
 obtain⟨h0,h1⟩:=h;unfold fU at h1;exact IntWalk.wrap64_in x ⟨by omega,by omega⟩
def SixAt (w:World)(b:Nat)(D:Nat→Int):Prop:= ∀k,k<6→w.cell? ⟨b,k,none⟩=some (.int .i64 (D k))
set_option maxRecDepth 100000 in
set_option maxHeartbeats 1000000 in
theorem value_any(m:Mono)(D:Nat→Int)(w:World)(hD: ∀k,0≤D k∧D k≤2147483648)(hn: -16777216≤m.n∧m.n≤16777216):
  Calls Tryz.prog 62 #[.agg #[.int .i64 m.n,.int .u8 m.e0.toNat,.int .u8 m.e1.toNat,.int .u8 m.e2.toNat,.int .u8 m.e3.toNat,.int .u8 m.e4.toNat,.int .u8 m.e5.toNat],.agg #[.int .i64 (D 0),.int .i64 (D 1),.int .i64 (D 2),.int .i64 (D 3),.int .i64 (D 4),.int .i64 (D 5)]] w fun e w'=>e= .returned (.tuple #[.int .i64 (cM m D).1,.bool (cM m D).2])∧Below w.heap.size w w':=by
 have HD:=Lib.hid hD;obtain⟨hn1,hn2⟩:=hn;clear hD
 go_enter Tryz.func62,Tryz.ntmps62
 go_wp2
 all_goals
  have q0:dK ((w.alloc (.cells #[.int .i64 m.n,.int .u8 m.e0.toNat,.int .u8 m.e1.toNat,.int .u8 m.e2.toNat,.int .u8 m.e3.toNat,.int .u8 m.e4.toNat,.int .u8 m.e5.toNat] 45)).alloc (.cells #[.int .i64 (D 0),.int .i64 (D 1),.int .i64 (D 2),.int .i64 (D 3),.int .i64 (D 4),.int .i64 (D 5)] 126)) w.heap.size 0 m:=by simp [dK,go_sem]
  have q1:SixAt ((w.alloc (.cells #[.int .i64 m.n,.int .u8 m.e0.toNat,.int .u8 m.e1.toNat,.int .u8 m.e2.toNat,.int .u8 m.e3.toNat,.int .u8 m.e4.toNat,.int .u8 m.e5.toNat] 45)).alloc (.cells #[.int .i64 (D 0),.int .i64 (D 1),.int .i64 (D 2),.int .i64 (D 3),.int .i64 (D 4),.int .i64 (D 5)] 126)) (w.heap.size+1) D:=by
   intro k hk
   rcases k with _ | _ | _ | _ | _ | _ | k
   all_goals first | omega | simp [go_sem]
  have q2:Below w.heap.size w ((w.alloc (.cells #[.int .i64 m.n,.int .u8 m.e0.toNat,.int .u8 m.e1.toNat,.int .u8 m.e2.toNat,.int .u8 m.e3.toNat,.int .u8 m.e4.toNat,.int .u8 m.e5.toNat] 45)).alloc (.cells #[.int .i64 (D 0),.int .i64 (D 1),.int .i64 (D 2),.int .i64 (D 3),.int .i64 (D 4),.int .i64 (D 5)] 126)):=by go_grown
  have Q0:=Lib.hid q0;have Q1:=Lib.hid q1;have Q2:=Lib.hid q2;clear q0 q1 q2;generalize ((w.alloc (.cells #[.int .i64 m.n,.int .u8 m.e0.toNat,.int .u8 m.e1.toNat,.int .u8 m.e2.toNat,.int .u8 m.e3.toNat,.int .u8 m.e4.toNat,.int .u8 m.e5.toNat] 45)).alloc (.cells #[.int .i64 (D 0),.int .i64 (D 1),.int .i64 (D 2),.int .i64 (D 3),.int .i64 (D 4),.int .i64 (D 5)] 126))=W0 at Q0 Q1 Q2⊢;generalize w.heap.size=X at Q0 Q1⊢
  go_loop [19] (fun i=> ∃k:Nat,k≤6∧i= .int .i64 k∧Hid (fK (dI m D)=fK ((dI m D).drop k))) (fun i=>6-(intOf i).toNat)
  case atStart=>exact⟨0,Nat.zero_le _,rfl,rfl⟩
  case round=>
   obtain⟨k,hk,rfl,hz⟩:=hrel
   by_cases hlt:k<6
   ·have hidx:=index_E m k hlt;have hc:W0.cell? ⟨X+1,k,none⟩=some (.int .i64 (D k)):=Q1.out k hlt;have hp:=sU m D k hlt;have HZ:=Lib.hid (show fK (dI m D)=((decide (0<(m.ex k).toNat)&&D k==0) || fK ((dI m D).drop (k+1))) by rw [hz.out,hp];rfl);clear hp hz
    by_cases he:0<(m.ex k).toNat
    ·have he1:decide (0<(m.ex k).toNat)=true:=by simpa using he
     by_cases hd:D k=0
     ·have hd1:(D k==0)=true:=by simpa using hd
      have Hd:=Lib.hid hd;have HZ':=Lib.hid (show fK (dI m D)=true by rw [HZ.out,he1,hd1];rfl);clear hd HZ
      go_wp2
      go_ret2
      have e:cM m D=(0,true):=by unfold cM;rw [HZ'.out];rfl
      rw [e];exact⟨rfl,Q2.out⟩
     ·have hd1:(D k==0)=false:=by simpa using hd
      have HZ':=Lib.hid (show fK (dI m D)=fK ((dI m D).drop (k+1)) by rw [HZ.out,hd1,Bool.and_false,Bool.false_or]);clear hd HZ
      go_wp2
      go_round
      case rel=>exact⟨k+1,by omega,by go_num,HZ'⟩
      case measure=>simp [intOf];omega
    ·have he1:decide (0<(m.ex k).toNat)=false:=by simpa using he
     have HZ':=Lib.hid (show fK (dI m D)=fK ((dI m D).drop (k+1)) by rw [HZ.out,he1,Bool.false_and,Bool.false_or]);clear HZ
     go_wp2
     go_round
     case rel=>exact⟨k+1,by omega,by go_num,HZ'⟩
     case measure=>simp [intOf];omega
   ·have HZ:=Lib.hid (show fK (dI m D)=false by rw [hz.out,List.drop_of_length_le (by simp [dI];omega)];rfl);obtain⟨q0,q1,q2,q3,q4,q5,q6⟩:=Q0.out.zero;clear hz
    go_wp2
    clear q0 q1 q2 q3 q4 q5 q6
    go_loop [34,6] (fun i n=> ∃(k:Nat) (x:Int),k≤6∧i= .int .i64 k∧n= .int .i64 x∧InV x∧Hid (lI (dI m D) (max m.n (-m.n))=lI ((dI m D).drop k) x)) (fun i _=>6-(intOf i).toNat)
    case atStart=>exact⟨0,_,Nat.zero_le _,rfl,rfl,⟨by omega,by unfold fU;omega⟩,by show _=_;rw [List.drop_zero];try (congr 1;omega)⟩
    case round=>
     obtain⟨k2,x,hk2,rfl,rfl,hx,hmul⟩:=hrel;have HX:=Lib.hid hx;clear hx
     by_cases hlt2:k2<6
     ·have hidx:=index_E m k2 hlt2;have hc:W0.cell? ⟨X+1,k2,none⟩=some (.int .i64 (D k2)):=Q1.out k2 hlt2;have HM:=Lib.hid (show lI (dI m D) (max m.n (-m.n))=(nD (D k2) (m.ex k2).toNat x).bind (lI ((dI m D).drop (k2+1))) by rw [hmul.out,sU m D k2 hlt2];rfl);have hd:=HD.out k2;obtain⟨hd0,hd1⟩:=hd;have hu:=(m.ex k2).toNat_lt;have HNZ:=Lib.hid (zero_not HZ.out k2 hlt2);clear hmul;generalize m.ex k2=ee at hidx HM hu HNZ⊢
      go_wp2
      go_loop [39,6] (fun c n=> ∃(j:Nat) (y:Int),j≤ee.toNat∧c= .int .u8 j∧n= .int .i64 y∧InV y∧Hid (lI (dI m D) (max m.n (-m.n))=(nD (D k2) (ee.toNat-j) y).bind (lI ((dI m D).drop (k2+1))))) (fun c _=>ee.toNat-(intOf c).toNat)
      case atStart=>exact⟨0,x,Nat.zero_le _,rfl,rfl,HX.out,HM⟩
      case round=>
       obtain⟨j,y,hj,rfl,rfl,hy,hpow⟩:=hrel;have HY:=Lib.hid hy;clear hy
       by_cases hlt3:j<ee.toNat
       ·have hd2:1≤D k2:=by have:=HNZ.out (by omega);omega
        have HP:=Lib.hid (show(nD (D k2) (ee.toNat-j) y)=if fU/D k2<y then none else nD (D k2) (ee.toNat-(j+1)) (y*D k2) by rw [show ee.toNat-j=(ee.toNat-(j+1))+1 by omega,nD])
        by_cases hq:fU/D k2<y
        ·have hq1:decide (4611686018427387904/D k2<y)=true:=by simpa [fU] using hq
         go_wp2
         go_ret2
         have e:cM m D=(0,false):=by
          unfold cM;rw [HZ.out,hpow.out,HP.out,if_pos hq];rfl
         rw [e];exact⟨rfl,Q2.out⟩
        ·have hq1:decide (4611686018427387904/D k2<y)=false:=by simpa [fU] using hq
         have HY2:=Lib.hid (inV_mul HY.out hd2 hq);have hw:=wrap_inV HY2.out;have HP2:=Lib.hid (show lI (dI m D) (max m.n (-m.n))=(nD (D k2) (ee.toNat-(j+1)) (y*D k2)).bind (lI ((dI m D).drop (k2+1))) by rw [hpow.out,HP.out,if_neg hq]);clear HP hpow
         go_wp2
         go_round
         case rel=>exact⟨j+1,y*D k2,by omega,by go_num,by rw [hw],HY2.out,HP2⟩
         case measure=>simp [intOf];omega
       ·have HP:=Lib.hid (show lI (dI m D) (max m.n (-m.n))=lI ((dI m D).drop (k2+1)) y by rw [hpow.out,show ee.toNat-j=0 by omega];rfl);clear hpow
        go_wp2
        go_round
        case rel=>exact⟨k2+1,y,by omega,by go_num,rfl,HY.out,HP⟩
        case measure=>simp [intOf];omega
     ·have e:cM m D=(x,true):=by
       unfold cM;rw [HZ.out,hmul.out,List.drop_of_length_le (by simp [dI];omega)];rfl
      have He:=Lib.hid e;clear e hmul
      go_wp2
      go_ret2
      rw [He.out];exact⟨rfl,Q2.out⟩
end Go.Proofs.YtofjmphlpdhohaaGreatDoor
namespace Go.Proofs.YtofjmphlpdhohaaGreatDoor
open Go.RowKit
set_option maxRecDepth 100000
def Ints (w:World)(A:Option Addr)(l:List Int):Prop:=
 ∀(k:Nat) (d:Int),l[k]?=some d→ ∃b o,A=some ⟨b,o,none⟩∧b<w.heap.size∧w.cell? ⟨b,o+k,none⟩=some (.int .i64 d)
theorem Ints.below{w w':World}{A:Option Addr}{l:List Int}(h:Ints w A l)(hb:Below w.heap.size w w'):Ints w' A l:=fun k d hk=>by
 obtain⟨b,o,e,hB,hm⟩:=h k d hk;exact⟨b,o,e,Nat.lt_of_lt_of_le hB hb.size,(hb.cell (p:=⟨b,o+k,none⟩) hB).trans hm⟩
def iA (d:Int):Bool:=decide (0≤d∧d≤2147483648)
def lQ (ds:List Int):Bool:=decide (ds.length≤6)&&ds.all iA
def gV (D:Nat→Int):List Mono→Int→Int→Option Int
 | [],_,sum=>some sum
 | m::l,size,sum=>
  if (cM m D).2=false∨fU-size<(cM m D).1 then none
  else gV D l (size+(cM m D).1) (if m.n<0 then sum-(cM m D).1 else sum+(cM m D).1)
def cN (ds:List Int)(k:Nat):Int:=ds.getD k 0
def cZ (p:List Mono)(ds:List Int):Int×Int:=
 if cH p then if lQ ds then match gV (cN ds) p 0 0 with
  | some n=>(n,0)
  | none=>(0,22)
 else (0,23) else (0,20)
def nK (w:World)(b:Nat)(D:Nat→Int):Prop:=b<w.heap.size∧ ∀k,k<6→w.cell? ⟨b,k,none⟩=some (.int .i64 (D k))∧w.frozen? ⟨b,k,none⟩=false
theorem nK.set{w:World}{b:Nat}{D:Nat→Int}(h:nK w b D)(k:Nat)(hk:k<6)(d:Int):nK (w.setCell ⟨b,k,none⟩ (.int .i64 d)) b (fun j=>if j=k then d else D j):=by
 refine⟨by simpa using h.1,fun j hj=>⟨?_,?_⟩⟩
 ·by_cases e:j=k
  ·subst e;dsimp only;rw [if_pos rfl];exact World.cell?_setCell_same w ⟨b,j,none⟩ _ (h.2 j hj).1
  ·dsimp only;rw [if_neg e,World.cell?_setCell_other w _ _ _ (by intro h;injection h with _ h;exact e h.symm)];exact(h.2 j hj).1
 ·rw [World.frozen?_setCell];exact(h.2 j hj).2
theorem take_dim{ds:List Int}{k:Nat}{d:Int}(h:ds[k]?=some d):(fun j=>if j=k then d else cN (ds.take k) j)=cN (ds.take (k+1)):=by
 funext j
 have hk:k<ds.length:=(List.getElem?_eq_some_iff.1 h).1;have hd:ds[k]=d:=(List.getElem?_eq_some_iff.1 h).2;unfold cN;rw [List.take_succ_eq_append_getElem hk,hd];simp only [List.getD_eq_getElem?_getD];have hl:(ds.take k).length=k:=by simp;omega
 by_cases e:j=k
 ·subst e;rw [if_pos rfl,List.getElem?_append_right (by omega),hl];simp
 ·rw [if_neg e]
  by_cases e2:j<k
  ·rw [List.getElem?_append_left (by omega)]
  ·rw [List.getElem?_eq_none (by omega),List.getElem?_eq_none (by simp;omega)]
theorem zZ{d:Int}(hd:0≤d): ∀(e:Nat) (n r:Int),0≤n→nD d e n=some r→0≤r
 | 0,n,r,hn,h=>by simp [nD] at h;omega
 | e+1,n,r,hn,h=>by
  unfold nD at h;split at h
  ·cases h
  ·exact zZ hd e (n*d) r (Int.mul_nonneg hn hd) h
theorem zF: ∀(l:List (UInt8×Int)) (n r:Int),(∀x∈l,0≤x.2)→0≤n→lI l n=some r→0≤r
 | [],n,r,_,hn,h=>by simp [lI] at h;omega
 | x::l,n,r,hl,hn,h=>by
  unfold lI at h
  cases hp:nD x.2 x.1.toNat n with
  | none=>rw [hp] at h;cases h
  | some y=>
   rw [hp] at h;exact zF l y r (fun z hz=>hl z (by simp [hz])) (zZ (hl x (by simp)) _ _ _ hn hp) h
theorem qV(m:Mono)(D:Nat→Int)(hD: ∀k,0≤D k):0≤(cM m D).1:=by
 unfold cM;split
 ·simp
 ·split
  ·rename_i n hn;refine zF _ _ _ (fun x hx=>?_) (by omega) hn;simp only [dI,List.mem_cons,List.not_mem_nil,or_false] at hx
   rcases hx with rfl | rfl | rfl | rfl | rfl | rfl<;>exact hD _
  ·simp
theorem oA: ∀{o:Option Mono} {l:List Mono},dL o l=true→ ∀m∈l,fZ m=true
 | _,[],_,m,hm=>by simp at hm
 | none,a::l,h,m,hm=>by
  simp only [dL,Bool.and_eq_true] at h
  rcases List.mem_cons.1 hm with rfl | hm
  ·exact h.1
  ·exact oA h.2 m hm
 | some b,a::l,h,m,hm=>by
  simp only [dL,Bool.and_eq_true] at h
  rcases List.mem_cons.1 hm with rfl | hm
  ·exact h.1
  ·exact oA h.2.2 m hm
theorem nK.below{w w':World}{b:Nat}{D:Nat→Int}(h:nK w b D)(hb:Below w.heap.size w w'):nK w' b D:=
 ⟨Nat.lt_of_lt_of_le h.1 hb.size,fun k hk=>⟨(hb.cell (p:=⟨b,k,none⟩) h.1).trans (h.2 k hk).1,(hb.frozen (p:=⟨b,k,none⟩) h.1).trans (h.2 k hk).2⟩⟩
theorem vW{ds:List Int}(h:ds.all iA=true): ∀k,0≤cN ds k∧cN ds k≤2147483648:=fun k=>by
 unfold cN;rw [List.getD_eq_getElem?_getD]
 cases hk:ds[k]? with
 | none=>simp
 | some d=>
  have hd:d∈ds:=List.mem_of_getElem? hk;have:=List.all_eq_true.1 h d hd
  simpa [iA] using this
set_option maxRecDepth 100000 in
set_option maxHeartbeats 1000000 in
theorem eval_any(A B:Option Addr)(c d:Nat)(p:List Mono)(ds:List Int)(w:World)(ha:gZ w A p)(hb:Ints w B ds)(hp:p.length≤140737488355328)(hq:ds.length≤140737488355328):
  Calls Tryz.prog 29 #[.slice A p.length c,.slice B ds.length d] w fun e w'=>e= .returned (.tuple #[.int .i64 (cZ p ds).1,.int .i64 (cZ p ds).2])∧Below w.heap.size w w':=by
 have Ha:=Lib.hid ha;have Hb:=Lib.hid hb;clear ha hb;cases hrp:cH p
 ·have e:cZ p ds=(0,20):=by unfold cZ;rw [hrp];rfl
  rw [e]
  go_enter Tryz.func29,Tryz.ntmps29
  go_wp2_with (go_at_call 61;refine(fR A c p _ Ha.out hp).mono ?_;rintro e w1 ⟨rfl,hb1⟩)
  go_ret2
  exact⟨rfl,hb1⟩
 ·go_enter Tryz.func29,Tryz.ntmps29
  go_wp2_with fail
  refine(fR A c p _ Ha.out hp).mono ?_;rintro e w1 ⟨rfl,hb1⟩;have H1:=Lib.hid hb1;clear hb1
  go_wp2
  have s0:nK (w1.alloc (.cells #[.int .i64 0,.int .i64 0,.int .i64 0,.int .i64 0,.int .i64 0,.int .i64 0] 126)) w1.heap.size (cN (ds.take 0)):=by
   refine⟨by simp,fun k hk=>?_⟩
   rcases k with _ | _ | _ | _ | _ | _ | k
   all_goals first | omega | simp [go_sem,cN]
  have b0:Below w.heap.size w (w1.alloc (.cells #[.int .i64 0,.int .i64 0,.int .i64 0,.int .i64 0,.int .i64 0,.int .i64 0] 126)):=H1.out.alloc H1.out.size _;have hXw:w.heap.size≤w1.heap.size:=H1.out.size;have S0:=Lib.hid s0;have B0:=Lib.hid b0;clear s0 b0 H1;generalize w1.alloc (.cells #[.int .i64 0,.int .i64 0,.int .i64 0,.int .i64 0,.int .i64 0,.int .i64 0] 126)=W0 at S0 B0⊢;generalize w1.heap.size=X at S0 hXw⊢
  go_loopw [20] (fun i wr=> ∃k:Nat,k≤ds.length∧k≤6∧i= .int .i64 k∧nK wr X (cN (ds.take k))∧Hid (ds.all iA=(ds.drop k).all iA)∧Below w.heap.size w wr) (fun i _=>ds.length-(intOf i).toNat)
  case atStart=>exact⟨0,Nat.zero_le _,by omega,rfl,S0.out,rfl,B0.out⟩
  case round=>
   obtain⟨k,hk,hk6,rfl,hsix,hall,hbl⟩:=hrel;have HSix:=Lib.hid hsix;have HBL:=Lib.hid hbl;clear hsix hbl S0 B0
   by_cases hlt:k<ds.length
   ·obtain⟨x,hx⟩: ∃x,ds[k]?=some x:=⟨ds[k],List.getElem?_eq_getElem hlt⟩
    have dm:ds.drop k=x::ds.drop (k+1):=by
     rw [List.drop_eq_getElem_cons hlt];have:=(List.getElem?_eq_some_iff.1 hx).2;rw [this]
    obtain⟨b,o,rfl,hB,c0⟩:=Hb.out.below HBL.out k x hx;have HAll:=Lib.hid (show ds.all iA=(iA x&&(ds.drop (k+1)).all iA) by rw [hall.out,dm,List.all_cons]);have HTk:=Lib.hid (take_dim hx);clear dm hx hall hB
    by_cases h6:k=6
    ·have h61:decide ((6:Int)≤(k:Int))=true:=by simp;omega
     have e:cZ p ds=(0,23):=by
      unfold cZ;rw [hrp,show lQ ds=false by unfold lQ;rw [decide_eq_false (by omega)];rfl];rfl
     have He:=Lib.hid e;clear e h6
     go_wp2
     go_ret2
     rw [He.out];exact⟨rfl,HBL.out⟩
    ·have h61:decide ((6:Int)≤(k:Int))=false:=by simp;omega
     cases hs:iA x
     ·have e:cZ p ds=(0,23):=by
       unfold cZ;rw [hrp,show lQ ds=false by unfold lQ;rw [HAll.out,hs];simp];rfl
      have He:=Lib.hid e;clear e h6
      have hs':x<0∨2147483648<x:=by
       have:=of_decide_eq_false hs;omega
      rcases Int.lt_or_le x 0 with hx0 | hx0
      ·have t1:decide (x<0)=true:=by simpa using hx0
       go_wp2
       go_ret2
       rw [He.out];exact⟨rfl,HBL.out⟩
      ·have t1:decide (x<0)=false:=by simpa using hx0
       have t2:decide (2147483648<x)=true:=by simp;omega
       go_wp2
       go_ret2
       rw [He.out];exact⟨rfl,HBL.out⟩
     ·have hs':0≤x∧x≤2147483648:=of_decide_eq_true hs;have t1:decide (x<0)=false:=by simp;omega
      have t2:decide (2147483648<x)=false:=by simp;omega
      obtain⟨hcell,hfro⟩:=HSix.out.2 k (by omega);have HA2:=Lib.hid (show ds.all iA=(ds.drop (k+1)).all iA by rw [HAll.out,hs,Bool.true_and]);have HS2:=Lib.hid (show nK (wr.setCell ⟨X,k,none⟩ (.int .i64 x)) X (cN (ds.take (k+1))) by rw [←HTk.out];exact HSix.out.set k (by omega) x);have HB2:=Lib.hid (show Below w.heap.size w (wr.setCell ⟨X,k,none⟩ (.int .i64 x)) from HBL.out.setCell hXw _);clear HAll HTk HSix HBL hs'
      go_wp2
      go_roundw
      case rel=>exact⟨k+1,by omega,by omega,by go_num,HS2.out,HA2,HB2.out⟩
      case measure=>simp [intOf];omega
   ·have hall1:ds.all iA=true:=by rw [hall.out,List.drop_of_length_le (by omega)];rfl
    have HD:=Lib.hid (vW hall1)
    have He:=Lib.hid (show cZ p ds=match gV (cN ds) p 0 0 with | some n=>(n,0) | none=>(0,22) by
     unfold cZ;rw [hrp,show lQ ds=true by unfold lQ;rw [hall1,decide_eq_true (by omega)];rfl]
     rfl)
    have HS:=Lib.hid (show nK wr X (cN ds) by have:=HSix.out;rw [List.take_of_length_le (by omega)] at this;exact this)
    have HRP:=Lib.hid (show ∀m∈p,fZ m=true by
     unfold cH at hrp;simp only [Bool.and_eq_true] at hrp
     exact oA hrp.2)
    clear hall hall1 HSix;generalize cN ds=D at HD He HS⊢
    go_wp2
    go_loopw [41,9,10] (fun i sm sz wi=> ∃(j:Nat) (size sum:Int),j≤p.length∧i= .int .i64 j∧sm= .int .i64 sum∧sz= .int .i64 size∧Hid (0≤size∧size≤fU∧ -size≤sum∧sum≤size)∧Hid (gV D p 0 0=gV D (p.drop j) size sum)∧nK wi X D∧Below w.heap.size w wi) (fun i _ _ _=>p.length-(intOf i).toNat)
    case atStart=>exact⟨0,0,0,Nat.zero_le _,rfl,rfl,rfl,⟨by omega,by unfold fU;omega,by omega,by omega⟩,rfl,HS.out,HBL.out⟩
    case round=>
     obtain⟨j,size,sum,hj,rfl,rfl,rfl,hbd,hev,hsix,hbl⟩:=hrel;have HS2:=Lib.hid hsix;have HB2:=Lib.hid hbl;clear hsix hbl HS HBL
     by_cases hlt2:j<p.length
     ·obtain⟨m,hm,dm⟩:=kO hlt2;obtain⟨b,o,rfl,hB,c0,c1,c2,c3,c4,c5,c6⟩:=Ha.out.below HB2.out j m hm;have hsm:fZ m=true:=HRP.out m (List.mem_of_getElem? hm);have hsm':m.n≠0∧m.n≤16777216∧ -16777216≤m.n∧m.deg≤8:=of_decide_eq_true hsm;have HV:=Lib.hid (qV m D (fun k=>(HD.out k).1))
      have HE:=Lib.hid (show gV D p 0 0=if (cM m D).2=false∨fU-size<(cM m D).1 then none
        else gV D (p.drop (j+1)) (size+(cM m D).1) (if m.n<0 then sum-(cM m D).1 else sum+(cM m D).1) by rw [hev.out,dm,gV])
      have hX:X<wr.heap.size:=HS2.out.1;have x0:=(HS2.out.2 0 (by omega)).1;have x1:=(HS2.out.2 1 (by omega)).1;have x2:=(HS2.out.2 2 (by omega)).1;have x3:=(HS2.out.2 3 (by omega)).1;have x4:=(HS2.out.2 4 (by omega)).1;have x5:=(HS2.out.2 5 (by omega)).1;have Hval:=Lib.hid (fun W=>value_any m D W HD.out ⟨hsm'.2.2.1,hsm'.2.1⟩);have hS3: ∀o,nK (wr.alloc o) X D:=fun o=>HS2.out.below ((Below.refl _ _).alloc (Nat.le_refl _) _);have HS3:=Lib.hid hS3;have HB3:=Lib.hid (show ∀o,Below w.heap.size w (wr.alloc o) from fun o=>HB2.out.alloc HB2.out.size o);clear hm dm hB hsm hsm' hev hS3 HS2 HB2
      go_wp2_with fail
      refine(Hval.out _).mono ?_;rintro e w5 ⟨rfl,hb5⟩;have q0:dK w5 wr.heap.size 0 m:=dK.below (w:=wr.alloc (.cells #[.int .i64 m.n,.int .u8 m.e0.toNat,.int .u8 m.e1.toNat,.int .u8 m.e2.toNat,.int .u8 m.e3.toNat,.int .u8 m.e4.toNat,.int .u8 m.e5.toNat] 45)) (by simp [dK,go_sem]) hb5 (by simp);have HS5:=Lib.hid ((HS3.out _).below hb5);have HB5:=Lib.hid ((HB3.out _).trans (hb5.mono (HB3.out _).size));have n0:=q0.zero.1;clear hb5 q0 c0 c1 c2 c3 c4 c5 c6 x0 x1 x2 x3 x4 x5 hX Hval HS3 HB3;generalize cM m D=v at HV HE⊢;obtain⟨n,ok⟩:=v;simp only at HV HE⊢;cases ok
      ·have e:cZ p ds=(0,22):=by rw [He.out,HE.out,if_pos (.inl rfl)]
       have He2:=Lib.hid e;clear e HE
       go_wp2
       go_ret2
       rw [He2.out];exact⟨rfl,HB5.out⟩
      ·obtain⟨g0,g1,g2,g3⟩:=hbd.out;have gn:0≤n:=HV.out;unfold fU at g1
       by_cases hq:fU-size<n
       ·have hq1:decide (4611686018427387904-size<n)=true:=by simpa [fU] using hq
        have e:cZ p ds=(0,22):=by rw [He.out,HE.out,if_pos (.inr hq)]
        have He2:=Lib.hid e;clear e HE hq
        go_wp2
        go_ret2
        rw [He2.out];exact⟨rfl,HB5.out⟩
       ·have hq1:decide (4611686018427387904-size<n)=false:=by simpa [fU] using hq
        have hq2:size+n≤4611686018427387904:=by unfold fU at hq;omega
        by_cases hneg:m.n<0
        ·have HE2:=Lib.hid (show gV D p 0 0=gV D (p.drop (j+1)) (size+n) (sum-n) by rw [HE.out,if_neg (by intro h;rcases h with h | h;exact absurd h (by simp);exact hq h),if_pos hneg]);have hneg1:decide (m.n<0)=true:=by simpa using hneg
         clear HE hq
         go_wp2
         go_roundw
         case rel=>exact⟨j+1,size+n,sum-n,by omega,by go_num,by go_num,by go_num,⟨by omega,by unfold fU;omega,by omega,by omega⟩,HE2,HS5.out,HB5.out⟩
         case measure=>simp [intOf];omega
        ·have HE2:=Lib.hid (show gV D p 0 0=gV D (p.drop (j+1)) (size+n) (sum+n) by rw [HE.out,if_neg (by intro h;rcases h with h | h;exact absurd h (by simp);exact hq h),if_neg hneg]);have hneg1:decide (m.n<0)=false:=by simpa using hneg
         clear HE hq
         go_wp2
         go_roundw
         case rel=>exact⟨j+1,size+n,sum+n,by omega,by go_num,by go_num,by go_num,⟨by omega,by unfold fU;omega,by omega,by omega⟩,HE2,HS5.out,HB5.out⟩
         case measure=>simp [intOf];omega
     ·have e:cZ p ds=(sum,0):=by rw [He.out,hev.out,List.drop_of_length_le (by omega),gV]
      have He2:=Lib.hid e;clear e hev
      go_wp2
      go_ret2
      rw [He2.out];exact⟨rfl,HB2.out⟩
end Go.Proofs.YtofjmphlpdhohaaGreatDoor
namespace Go.Proofs.YtofjmphlpdhohaaGreatDoor
open Go.RowKit
set_option maxRecDepth 100000
set_option maxHeartbeats 400000 in
theorem bDi(B:Option Addr)(d:Nat)(ds:List Int)(k:Nat)(w:World)(hb:Ints w B ds):
  Calls Tryz.prog 186 #[.slice B ds.length d,.int .i64 k] w fun e w'=>e= .returned (.int .i64 (cN ds k))∧w=w':=by
 by_cases hlt:k<ds.length
 ·obtain⟨x,hx⟩: ∃x,ds[k]?=some x:=⟨ds[k],List.getElem?_eq_getElem hlt⟩
  obtain⟨b,o,rfl,_,hc⟩:=hb k x hx;have HX:=Lib.hid (show cN ds k=x by unfold cN;rw [List.getD_eq_getElem?_getD,hx];rfl);clear hb hx
  go_enter Tryz.func186,Tryz.ntmps186
  go_wp2
  go_ret
  exact⟨tL HX.out.symm,rfl⟩
 ·have HX:=Lib.hid (show cN ds k=0 by unfold cN;rw [List.getD_eq_getElem?_getD,List.getElem?_eq_none (by omega)];rfl);clear hb
  go_enter Tryz.func186,Tryz.ntmps186
  go_wp2
  go_ret
  exact⟨tL HX.out.symm,rfl⟩
def mV (m:Mono)(D:Nat→Int):Int:=if (cM m D).2 then (cM m D).1 else fU+1
theorem ex_cell{w:World}{b:Nat}{m:Mono}(h:dK w b 0 m)(k:Nat)(hk:k<6):w.cell? ⟨b,1+k,none⟩=some (.int .u8 ((m.ex k).toNat:Int)):=by
 obtain⟨_,h1,h2,h3,h4,h5,h6⟩:=h.zero
 rcases k with _ | _ | _ | _ | _ | _ | k
 ·exact h1
 ·exact h2
 ·exact h3
 ·exact h4
 ·exact h5
 ·exact h6
 ·omega
set_option maxRecDepth 100000 in
set_option maxHeartbeats 1000000 in
theorem size_any(B:Option Addr)(d:Nat)(ds:List Int)(m:Mono)(w:World)(hb:Ints w B ds)(hD: ∀k,0≤cN ds k∧cN ds k≤2147483648)(hn: -16777216≤m.n∧m.n≤16777216):
  Calls Tryz.prog 124 #[.agg #[.int .i64 m.n,.int .u8 m.e0.toNat,.int .u8 m.e1.toNat,.int .u8 m.e2.toNat,.int .u8 m.e3.toNat,.int .u8 m.e4.toNat,.int .u8 m.e5.toNat],.slice B ds.length d] w fun e w'=>e= .returned (.int .i64 (mV m (cN ds)))∧Below w.heap.size w w':=by
 have HD:=Lib.hid hD;obtain⟨hn1,hn2⟩:=hn;have Hb:=Lib.hid hb;clear hD hb
 go_enter Tryz.func124,Tryz.ntmps124
 go_wp2
 all_goals
  have q0:dK (w.alloc (.cells #[.int .i64 m.n,.int .u8 m.e0.toNat,.int .u8 m.e1.toNat,.int .u8 m.e2.toNat,.int .u8 m.e3.toNat,.int .u8 m.e4.toNat,.int .u8 m.e5.toNat] 45)) w.heap.size 0 m:=by simp [dK,go_sem]
  have q2:Below w.heap.size w (w.alloc (.cells #[.int .i64 m.n,.int .u8 m.e0.toNat,.int .u8 m.e1.toNat,.int .u8 m.e2.toNat,.int .u8 m.e3.toNat,.int .u8 m.e4.toNat,.int .u8 m.e5.toNat] 45)):=by go_grown
  have Q0:=Lib.hid q0;have Q2:=Lib.hid q2;have Q3:=Lib.hid (Hb.out.below q2);clear q0 q2;generalize (w.alloc (.cells #[.int .i64 m.n,.int .u8 m.e0.toNat,.int .u8 m.e1.toNat,.int .u8 m.e2.toNat,.int .u8 m.e3.toNat,.int .u8 m.e4.toNat,.int .u8 m.e5.toNat] 45))=W0 at Q0 Q2 Q3⊢;generalize w.heap.size=X at Q0⊢
  go_loop [6] (fun i=> ∃k:Nat,k≤6∧i= .int .i64 k∧Hid (fK (dI m (cN ds))=fK ((dI m (cN ds)).drop k))) (fun i=>6-(intOf i).toNat)
  case atStart=>exact⟨0,Nat.zero_le _,rfl,rfl⟩
  case round=>
   obtain⟨k,hk,rfl,hz⟩:=hrel
   by_cases hlt:k<6
   ·have hc:=ex_cell Q0.out k hlt;have hp:=sU m (cN ds) k hlt;have HZ:=Lib.hid (show fK (dI m (cN ds))=((decide (0<(m.ex k).toNat)&&cN ds k==0) || fK ((dI m (cN ds)).drop (k+1))) by rw [hz.out,hp];rfl);clear hp hz
    by_cases he:0<(m.ex k).toNat
    ·have he1:decide (0<(m.ex k).toNat)=true:=by simpa using he
     by_cases hd:cN ds k=0
     ·have hd1:(cN ds k==0)=true:=by simpa using hd
      have HZ':=Lib.hid (show fK (dI m (cN ds))=true by rw [HZ.out,he1,hd1];rfl);clear hd HZ
      go_wp2_with (go_at_call 186;refine(bDi B d ds k _ Q3.out).mono ?_;rintro e w' ⟨rfl,rfl⟩)
      go_ret
      exact⟨tL (by unfold mV cM;rw [HZ'.out];rfl),Q2.out⟩
     ·have hd1:(cN ds k==0)=false:=by simpa using hd
      have HZ':=Lib.hid (show fK (dI m (cN ds))=fK ((dI m (cN ds)).drop (k+1)) by rw [HZ.out,hd1,Bool.and_false,Bool.false_or]);clear hd HZ
      go_wp2_with (go_at_call 186;refine(bDi B d ds k _ Q3.out).mono ?_;rintro e w' ⟨rfl,rfl⟩)
      go_round
      case rel=>exact⟨k+1,by omega,by go_num,HZ'⟩
      case measure=>simp [intOf];omega
    ·have he1:decide (0<(m.ex k).toNat)=false:=by simpa using he
     have HZ':=Lib.hid (show fK (dI m (cN ds))=fK ((dI m (cN ds)).drop (k+1)) by rw [HZ.out,he1,Bool.false_and,Bool.false_or]);clear HZ
     go_wp2
     go_round
     case rel=>exact⟨k+1,by omega,by go_num,HZ'⟩
     case measure=>simp [intOf];omega
   ·have HZ:=Lib.hid (show fK (dI m (cN ds))=false by rw [hz.out,List.drop_of_length_le (by simp [dI];omega)];rfl);clear hz
    go_wp2
    go_loop [7,5] (fun i n=> ∃(k:Nat) (x:Int),k≤6∧i= .int .i64 k∧n= .int .i64 x∧InV x∧Hid (lI (dI m (cN ds)) (max m.n (-m.n))=lI ((dI m (cN ds)).drop k) x)) (fun i _=>6-(intOf i).toNat)
    case atStart=>exact⟨0,_,Nat.zero_le _,rfl,rfl,⟨by omega,by unfold fU;omega⟩,by show _=_;rw [List.drop_zero];try (congr 1;omega)⟩
    case round=>
     obtain⟨k2,x,hk2,rfl,rfl,hx,hmul⟩:=hrel;have HX:=Lib.hid hx;clear hx
     by_cases hlt2:k2<6
     ·have hc:=ex_cell Q0.out k2 hlt2;have HM:=Lib.hid (show lI (dI m (cN ds)) (max m.n (-m.n))=(nD (cN ds k2) (m.ex k2).toNat x).bind (lI ((dI m (cN ds)).drop (k2+1))) by rw [hmul.out,sU m (cN ds) k2 hlt2];rfl);have hd:=HD.out k2;obtain⟨hd0,hd1⟩:=hd;have hu:=(m.ex k2).toNat_lt;have HNZ:=Lib.hid (zero_not HZ.out k2 hlt2);have Hside:=Lib.hid (fun W h=>bDi B d ds k2 W h);clear hmul;generalize m.ex k2=ee at hc HM hu HNZ⊢
      go_wp2
      go_loop [8,5] (fun c n=> ∃(j:Nat) (y:Int),j≤ee.toNat∧c= .int .i64 j∧n= .int .i64 y∧InV y∧Hid (lI (dI m (cN ds)) (max m.n (-m.n))=(nD (cN ds k2) (ee.toNat-j) y).bind (lI ((dI m (cN ds)).drop (k2+1))))) (fun c _=>ee.toNat-(intOf c).toNat)
      case atStart=>exact⟨0,x,Nat.zero_le _,rfl,rfl,HX.out,HM⟩
      case round=>
       obtain⟨j,y,hj,rfl,rfl,hy,hpow⟩:=hrel;have HY:=Lib.hid hy;clear hy
       by_cases hlt3:j<ee.toNat
       ·have hd2:1≤cN ds k2:=by have:=HNZ.out (by omega);omega
        have HP:=Lib.hid (show(nD (cN ds k2) (ee.toNat-j) y)=if fU/cN ds k2<y then none else nD (cN ds k2) (ee.toNat-(j+1)) (y*cN ds k2) by rw [show ee.toNat-j=(ee.toNat-(j+1))+1 by omega,nD])
        by_cases hq:fU/cN ds k2<y
        ·have hq1:decide (4611686018427387904/cN ds k2<y)=true:=by simpa [fU] using hq
         go_wp2_with (go_at_call 186;refine(Hside.out _ Q3.out).mono ?_;rintro e w' ⟨rfl,rfl⟩)
         go_ret
         have e:cM m (cN ds)=(0,false):=by
          unfold cM;rw [HZ.out,hpow.out,HP.out,if_pos hq];rfl
         exact⟨tL (by unfold mV;rw [e];rfl),Q2.out⟩
        ·have hq1:decide (4611686018427387904/cN ds k2<y)=false:=by simpa [fU] using hq
         have HY2:=Lib.hid (inV_mul HY.out hd2 hq);have hw:=wrap_inV HY2.out;have HP2:=Lib.hid (show lI (dI m (cN ds)) (max m.n (-m.n))=(nD (cN ds k2) (ee.toNat-(j+1)) (y*cN ds k2)).bind (lI ((dI m (cN ds)).drop (k2+1))) by rw [hpow.out,HP.out,if_neg hq]);clear HP hpow
         go_wp2_with (go_at_call 186;refine(Hside.out _ Q3.out).mono ?_;rintro e w' ⟨rfl,rfl⟩)
         go_round
         case rel=>exact⟨j+1,y*cN ds k2,by omega,by go_num,by first | rfl | rw [hw],HY2.out,HP2⟩
         case measure=>simp [intOf];omega
       ·have HP:=Lib.hid (show lI (dI m (cN ds)) (max m.n (-m.n))=lI ((dI m (cN ds)).drop (k2+1)) y by rw [hpow.out,show ee.toNat-j=0 by omega];rfl);clear hpow
        go_wp2
        go_round
        case rel=>exact⟨k2+1,y,by omega,by go_num,rfl,HY.out,HP⟩
        case measure=>simp [intOf];omega
     ·have e:cM m (cN ds)=(x,true):=by
       unfold cM;rw [HZ.out,hmul.out,List.drop_of_length_le (by simp [dI];omega)];rfl
      have He:=Lib.hid e;clear e hmul
      go_wp2
      go_ret
      exact⟨tL (by unfold mV;rw [He.out];rfl),Q2.out⟩
theorem size_bd(m:Mono)(D:Nat→Int)(hD: ∀k,0≤D k):0≤mV m D:=by
 unfold mV;split
 ·exact qV m D hD
 ·unfold fU;omega
theorem bHj{m:Mono}{D:Nat→Int}{size:Int}(h0:0≤size):((cM m D).2=false∨fU-size<(cM m D).1)↔fU-size<mV m D:=by
 unfold mV;cases (cM m D).2
 ·simp;omega
 ·simp
theorem sizeP_ok{m:Mono}{D:Nat→Int}{size:Int}(h0:0≤size)(h: ¬fU-size<mV m D):(cM m D).1=mV m D:=by
 unfold mV at*;cases hv:(cM m D).2
 ·rw [hv] at h;simp at h;omega
 ·simp
set_option maxRecDepth 100000 in
set_option maxHeartbeats 1000000 in
theorem refEval_any(A B:Option Addr)(c d:Nat)(p:List Mono)(ds:List Int)(w:World)(ha:gZ w A p)(hb:Ints w B ds)(hp:p.length≤140737488355328)(hq:ds.length≤140737488355328):
  Calls Tryz.prog 64 #[.slice A p.length c,.slice B ds.length d] w fun e w'=>e= .returned (.tuple #[.int .i64 (cZ p ds).1,.int .i64 (cZ p ds).2])∧Below w.heap.size w w':=by
 have Ha:=Lib.hid ha;have Hb:=Lib.hid hb;clear ha hb;cases hrp:cH p
 ·have e:cZ p ds=(0,20):=by unfold cZ;rw [hrp];rfl
  rw [e]
  go_enter Tryz.func64,Tryz.ntmps64
  go_wp2_with fail
  refine(nR A c p _ Ha.out hp).mono ?_;rintro e w1 ⟨rfl,hb1⟩
  go_wp2
  go_ret2
  exact⟨rfl,hb1⟩
 ·by_cases h6:ds.length≤6
  ·have h61:decide ((6:Int)<(ds.length:Int))=false:=by simp;omega
   go_enter Tryz.func64,Tryz.ntmps64
   go_wp2_with fail
   refine(nR A c p _ Ha.out hp).mono ?_;rintro e w1 ⟨rfl,hb1⟩;have H1:=Lib.hid hb1;clear hb1
   go_wp2
   go_loop [6] (fun i=> ∃k:Nat,k≤ds.length∧i= .int .i64 k∧Hid (ds.all iA=(ds.drop k).all iA)) (fun i=>ds.length-(intOf i).toNat)
   case atStart=>exact⟨0,Nat.zero_le _,rfl,rfl⟩
   case round=>
    obtain⟨k,hk,rfl,hall⟩:=hrel
    by_cases hlt:k<ds.length
    ·obtain⟨x,hx⟩: ∃x,ds[k]?=some x:=⟨ds[k],List.getElem?_eq_getElem hlt⟩
     have dm:ds.drop k=x::ds.drop (k+1):=by
      rw [List.drop_eq_getElem_cons hlt];have:=(List.getElem?_eq_some_iff.1 hx).2;rw [this]
     obtain⟨b,o,rfl,hB,c0⟩:=Hb.out.below H1.out k x hx;have HAll:=Lib.hid (show ds.all iA=(iA x&&(ds.drop (k+1)).all iA) by rw [hall.out,dm,List.all_cons]);clear dm hx hall hB;cases hs:iA x
     ·have e:cZ p ds=(0,23):=by
       unfold cZ;rw [hrp,show lQ ds=false by unfold lQ;rw [HAll.out,hs];simp];rfl
      have He:=Lib.hid e;clear e
      have hs':x<0∨2147483648<x:=by
       have:=of_decide_eq_false hs;omega
      rcases Int.lt_or_le x 0 with hx0 | hx0
      ·have t1:decide (x<0)=true:=by simpa using hx0
       go_wp2
       go_ret2
       rw [He.out];exact⟨rfl,H1.out⟩
      ·have t1:decide (x<0)=false:=by simpa using hx0
       have t2:decide (2147483648<x)=true:=by simp;omega
       go_wp2
       go_ret2
       rw [He.out];exact⟨rfl,H1.out⟩
     ·have hs':0≤x∧x≤2147483648:=of_decide_eq_true hs;have t1:decide (x<0)=false:=by simp;omega
      have t2:decide (2147483648<x)=false:=by simp;omega
      have HA2:=Lib.hid (show ds.all iA=(ds.drop (k+1)).all iA by rw [HAll.out,hs,Bool.true_and]);clear HAll hs'
      go_wp2
      go_round
      case rel=>exact⟨k+1,by omega,by go_num,HA2⟩
      case measure=>simp [intOf];omega
    ·have hall1:ds.all iA=true:=by rw [hall.out,List.drop_of_length_le (by omega)];rfl
     have HD:=Lib.hid (vW hall1)
     have He:=Lib.hid (show cZ p ds=match gV (cN ds) p 0 0 with | some n=>(n,0) | none=>(0,22) by
      unfold cZ;rw [hrp,show lQ ds=true by unfold lQ;rw [hall1,decide_eq_true (by omega)];rfl]
      rfl)
     have HRP:=Lib.hid (show ∀m∈p,fZ m=true by
      unfold cH at hrp;simp only [Bool.and_eq_true] at hrp
      exact oA hrp.2)
     clear hall hall1
     go_wp2
     go_loopw [9,7,8] (fun i lf sm wi=> ∃(j:Nat) (size sum:Int),j≤p.length∧i= .int .i64 j∧lf= .int .i64 (4611686018427387904-size)∧sm= .int .i64 sum∧Hid (0≤size∧size≤fU∧ -size≤sum∧sum≤size)∧Hid (gV (cN ds) p 0 0=gV (cN ds) (p.drop j) size sum)∧Below w.heap.size w wi) (fun i _ _ _=>p.length-(intOf i).toNat)
     case atStart=>exact⟨0,0,0,Nat.zero_le _,rfl,rfl,rfl,⟨by omega,by unfold fU;omega,by omega,by omega⟩,rfl,H1.out⟩
     case round=>
      obtain⟨j,size,sum,hj,rfl,rfl,rfl,hbd,hev,hbl⟩:=hrel;have HB2:=Lib.hid hbl;clear hbl
      by_cases hlt2:j<p.length
      ·obtain⟨m,hm,dm⟩:=kO hlt2;obtain⟨b,o,rfl,hB,c0,c1,c2,c3,c4,c5,c6⟩:=Ha.out.below HB2.out j m hm;have hsm:fZ m=true:=HRP.out m (List.mem_of_getElem? hm);have hsm':m.n≠0∧m.n≤16777216∧ -16777216≤m.n∧m.deg≤8:=of_decide_eq_true hsm;have HV:=Lib.hid (size_bd m (cN ds) (fun k=>(HD.out k).1));obtain⟨g0,g1,g2,g3⟩:=hbd.out
       have HE:=Lib.hid (show gV (cN ds) p 0 0=if fU-size<mV m (cN ds) then none
         else gV (cN ds) (p.drop (j+1)) (size+mV m (cN ds)) (if m.n<0 then sum-mV m (cN ds) else sum+mV m (cN ds)) by
        rw [hev.out,dm,gV]
        by_cases hq:fU-size<mV m (cN ds)
        ·rw [if_pos hq,if_pos ((bHj g0).2 hq)]
        ·rw [if_neg hq,if_neg (fun h=>hq ((bHj g0).1 h)),sizeP_ok g0 hq])
       have Hval:=Lib.hid (fun W (h:Ints W B ds)=>size_any B d ds m W h HD.out ⟨hsm'.2.2.1,hsm'.2.1⟩);have HM:=Lib.hid hm;clear hm dm hB hsm hsm' hev
       go_wp2_with fail
       refine(Hval.out _ (Hb.out.below HB2.out)).mono ?_;rintro e w5 ⟨rfl,hb5⟩;have HB5:=Lib.hid (HB2.out.trans (hb5.mono HB2.out.size));obtain⟨b2,o2,hA2,hB2,k0,_⟩:=Ha.out.below HB5.out j m HM.out;injection hA2 with hA2
       injection hA2 with hA2 hA3
       subst hA2 hA3;clear hb5 c0 c1 c2 c3 c4 c5 c6 Hval HB2 hB2 HM;generalize mV m (cN ds)=n at HV HE⊢;have gn:0≤n:=HV.out;unfold fU at g1
       by_cases hq:fU-size<n
       ·have hq1:decide (4611686018427387904-size<n)=true:=by simpa [fU] using hq
        have e:cZ p ds=(0,22):=by rw [He.out,HE.out,if_pos hq]
        have He2:=Lib.hid e;clear e HE hq
        go_wp2
        go_ret2
        rw [He2.out];exact⟨rfl,HB5.out⟩
       ·have hq1:decide (4611686018427387904-size<n)=false:=by simpa [fU] using hq
        have hq2:size+n≤4611686018427387904:=by unfold fU at hq;omega
        by_cases hneg:m.n<0
        ·have HE2:=Lib.hid (show gV (cN ds) p 0 0=gV (cN ds) (p.drop (j+1)) (size+n) (sum-n) by rw [HE.out,if_neg hq,if_pos hneg]);have hneg1:decide (m.n<0)=true:=by simpa using hneg
         clear HE hq
         go_wp2
         go_roundw
         case rel=>exact⟨j+1,size+n,sum-n,by omega,by go_num,by go_num,by go_num,⟨by omega,by unfold fU;omega,by omega,by omega⟩,HE2,HB5.out⟩
         case measure=>simp [intOf];omega
        ·have HE2:=Lib.hid (show gV (cN ds) p 0 0=gV (cN ds) (p.drop (j+1)) (size+n) (sum+n) by rw [HE.out,if_neg hq,if_neg hneg]);have hneg1:decide (m.n<0)=false:=by simpa using hneg
         clear HE hq
         go_wp2
         go_roundw
         case rel=>exact⟨j+1,size+n,sum+n,by omega,by go_num,by go_num,by go_num,⟨by omega,by unfold fU;omega,by omega,by omega⟩,HE2,HB5.out⟩
         case measure=>simp [intOf];omega
      ·have e:cZ p ds=(sum,0):=by rw [He.out,hev.out,List.drop_of_length_le (by omega),gV]
       have He2:=Lib.hid e;clear e hev
       go_wp2
       go_ret2
       rw [He2.out];exact⟨rfl,HB2.out⟩
  ·have h61:decide ((6:Int)<(ds.length:Int))=true:=by simp;omega
   have e:cZ p ds=(0,23):=by
    unfold cZ;rw [hrp,show lQ ds=false by unfold lQ;rw [decide_eq_false h6];rfl];rfl
   rw [e]
   go_enter Tryz.func64,Tryz.ntmps64
   go_wp2_with fail
   refine(nR A c p _ Ha.out hp).mono ?_;rintro e w1 ⟨rfl,hb1⟩
   go_wp2
   go_ret2
   exact⟨rfl,hb1⟩
end Go.Proofs.YtofjmphlpdhohaaGreatDoor
namespace Go.Proofs.YtofjmphlpdhohaaGreatDoor
open Go.RowKit
def celT:Tab:=[(3,⟨.int .i64,1⟩),(2,⟨.int .i64,1⟩),(5,⟨.int .u8,1⟩),(4,⟨.bool,1⟩),(37,⟨.int .u8,1⟩),(31,⟨.int .i64,1⟩),(35,⟨.slice 45,1⟩),(36,⟨.slice 35,1⟩),(42,⟨.struct [(3,0),(3,1),(2,2),(35,3),(37,4)],5⟩),(38,⟨.slice 42,1⟩),(47,⟨.struct [(36,0),(3,1)],2⟩),(22,⟨.slice 47,1⟩),(40,⟨.struct [(3,0),(3,1),(35,2),(36,3),(37,4),(38,5)],6⟩),(23,⟨.slice 40,1⟩),(24,⟨.slice 3,1⟩),(51,⟨.slice 4,1⟩),(26,⟨.struct [(3,0),(22,1),(23,2),(24,3)],4⟩),(55,⟨.struct [(3,0),(3,1)],2⟩),(48,⟨.slice 55,1⟩),(115,⟨.struct [(3,0),(3,1),(3,2),(51,3)],4⟩),(63,⟨.slice 2,1⟩),(112,⟨.array 64 4,64⟩),(45,⟨.struct [(2,0),(43,1)],7⟩),(43,⟨.array 6 5,6⟩),(258,⟨.slice 5,1⟩),(206,⟨.int .u64,1⟩),(113,⟨.other,1⟩),(202,⟨.other,1⟩),(119,⟨.other,1⟩),(123,⟨.other,1⟩)]
theorem qO:dV Tryz.prog celT:=pL.ok
 ⟨⟨by rw [Tryz.underlying3];rfl,by kernel_rfl⟩,
  ⟨by rw [Tryz.underlying2];rfl,by kernel_rfl⟩,
  ⟨by rw [Tryz.underlying5];rfl,by kernel_rfl⟩,
  ⟨by rw [Tryz.underlying4];rfl,by kernel_rfl⟩,
  ⟨by rw [Tryz.underlying37];rfl,by kernel_rfl⟩,
  ⟨by rw [Tryz.underlying31];rfl,by kernel_rfl⟩,
  ⟨by rw [Tryz.underlying35];rfl,by kernel_rfl⟩,
  ⟨by rw [Tryz.underlying36];rfl,by kernel_rfl⟩,
  ⟨by rw [Tryz.underlying42];rfl,by kernel_rfl⟩,
  ⟨by rw [Tryz.underlying38];rfl,by kernel_rfl⟩,
  ⟨by rw [Tryz.underlying47];rfl,by kernel_rfl⟩,
  ⟨by rw [Tryz.underlying22];rfl,by kernel_rfl⟩,
  ⟨by rw [Tryz.underlying40];rfl,by kernel_rfl⟩,
  ⟨by rw [Tryz.underlying23];rfl,by kernel_rfl⟩,
  ⟨by rw [Tryz.underlying24];rfl,by kernel_rfl⟩,
  ⟨by rw [Tryz.underlying51];rfl,by kernel_rfl⟩,
  ⟨by rw [Tryz.underlying26];rfl,by kernel_rfl⟩,
  ⟨by rw [Tryz.underlying55];rfl,by kernel_rfl⟩,
  ⟨by rw [Tryz.underlying48];rfl,by kernel_rfl⟩,
  ⟨by rw [Tryz.underlying115];rfl,by kernel_rfl⟩,
  ⟨by rw [Tryz.underlying63];rfl,by kernel_rfl⟩,
  ⟨by rw [Tryz.underlying112];rfl,by kernel_rfl⟩,
  ⟨by rw [Tryz.underlying45];rfl,by kernel_rfl⟩,
  ⟨by rw [Tryz.underlying43];rfl,by kernel_rfl⟩,
  ⟨by rw [Tryz.underlying258];rfl,by kernel_rfl⟩,
  ⟨by rw [Tryz.underlying206];rfl,by kernel_rfl⟩,
  ⟨by rw [Tryz.underlying113];rfl,by kernel_rfl⟩,
  ⟨by rw [Tryz.underlying202];rfl,by kernel_rfl⟩,
  ⟨by rw [Tryz.underlying119];rfl,by kernel_rfl⟩,
  ⟨by rw [Tryz.underlying123];rfl,by kernel_rfl⟩,trivial⟩
theorem bGb: ∃i:TypeInfo,Tryz.prog.info? 2=some i∧i.zero=some (.int .i64 0)∧i.size=1∧i.bytes=8:=by
 have h:(Tryz.prog.info? 2).map (fun i=>(i.zero,i.size,i.bytes))=some (some (.int .i64 0),1,8):=by kernel_rfl
 cases hi:Tryz.prog.info? 2 with
 | none=>simp [hi] at h
 | some i=>simp [hi] at h;exact⟨i,rfl,h.1,h.2.1,h.2.2⟩
theorem at_one_int64{β:fB}{n:Nat}{Γ:Env}{H:List bJ}{F:List bI}{Q:Exit→Act→World→Prop}{ops:Array Oper}{rest:List Oper}{o:Oper}{d:Nat}{x:Operand}{m:Int}(hw:want ops Γ o=some true)(ho:o.op= .buildSlice 63 1 #[(0,x)])(hd:o.dst=some d)(hn:Nat.blt d n=true)
  (hx:Γ.ev x=some (.int .i64 m)) (k: ∀b,At β n ((d,.slice (some ⟨b,0,none⟩) 1 1)::Γ) (.obj b (.cells (gC.all [m]).toArray 2)::H) F (wpList Tryz.prog ops Q rest)):At β n Γ H F (wpList Tryz.prog ops Q (o::rest)):=by
 obtain⟨i,hi,hz,hs,_⟩:=bGb;refine mH hw ho hd hn hx Tryz.underlying63 hi hz (by omega) (by omega) ?_ k;rw [hs]
 kernel_rfl
theorem at_app_int64{β:fB}{n:Nat}{Γ:Env}{H:List bJ}{F:List bI}{Q:Exit→Act→World→Prop}{ops:Array Oper}{rest:List Oper}{o:Oper}{d:Nat}{x y:Operand}{c q:Nat}{v:Value}{A:Option Addr}{xs ys:List Int}{H':List bJ}(hH:dD H (gC.row v 2 xs) H')(hr:bV β H F gC A ys)(hg:o.guard=none)
  (ho:o.op= .call {callee:= .builtin .append,args:= #[x,y],argTypes:= #[63,63]}) (hd:o.dst=some d) (hn:Nat.blt d n=true)
  (hx:Γ.ev x=some v) (hy:Γ.ev y=some (.slice A q c)) (hq:q=ys.length) (hl:xs.length+ys.length≤17592186044416)
  (k: ∀A' cap',At β n ((d,.slice A' (xs++ys).length cap')::Γ) (gC.row (.slice A' (xs++ys).length cap') 2 (xs++ys)::H') F (wpList Tryz.prog ops Q rest)):At β n Γ H F (wpList Tryz.prog ops Q (o::rest)):=by
 obtain⟨i,hi,hz,hs,hb⟩:=bGb;exact jK hH hr hg ho hd hn Tryz.underlying63 hi hz hs hb rfl hx hy hq (by omega) (by decide) k
theorem ints_of{S:iX}{w:World}{A:Option Addr}{k c:Nat}{l:List Int}(hS: ∀b,S b→b<w.heap.size)(h:(gC.sl (.slice A k c) l).p S w):Ints w A l:=fun i d hi=>by
 obtain⟨A',cap,e,h⟩:=h;injection e with e1 e2 e3
 subst e1;obtain⟨b,o,cs,e1,e2,e3,e4⟩:=h i d hi;have e4:cs=[.int .i64 d]:=e4;subst e4;refine⟨b,o,e1,hS b e2,?_⟩;have:=e3 0 _ rfl;have hs:gC.size=1:=rfl;rw [show(Enc.flat gC.size gC.cells).size=1 from rfl] at this
 simpa using this
theorem uW(p:PolV)(B:Option Addr)(d:Nat)(ds:List Int)(hp:p.list.length≤140737488355328)(hq:ds.length≤140737488355328):cX Tryz.prog 29 [.slice p.addr p.list.length p.cap,.slice B ds.length d] [] [fG p,gC.sl (.slice B ds.length d) ds] (fun _:Unit=> .tuple #[.int .i64 (cZ p.list ds).1,.int .i64 (cZ p.list ds).2]) (fun _=>[]) (fun _=>[]):=
 lG fun _ w hS h=>eval_any _ _ _ _ _ _ w (kF hS (h _ (.head _))) (ints_of hS (h _ (.tail _ (.head _)))) hp hq
def sideV (dims:List Int)(p:List Mono):Bool:=(cZ p dims).2==0&&decide (0≤(cZ p dims).1)&&decide ((cZ p dims).1≤65536)
def sidesGo(dims:List Int):List (List Mono)→List Int→Option (List Int)
 | [],acc=>some acc
 | p::r,acc=>if sideV dims p=true then sidesGo dims r (acc++[(cZ p dims).1]) else none
def prodGo:List Int→Int→Option Int
 | [],a=>some a
 | n::r,a=>if 65536<a*n then none else prodGo r (a*n)
def sizeB (sides:List (List Mono))(dims:List Int):Option Int:=match sidesGo dims sides [] with
 | none=>none
 | some l=>if l.contains 0 then some 0 else prodGo l 1
def cellsGo(dims:List Int):List kZ→Int→Int×Int
 | [],all=>(all,0)
 | b::r,all=>match sizeB b.sides dims with
  | none=>(0,102)
  | some n=>if 1048576<all+n then (0,102) else cellsGo dims r (all+n)
def badD (n:Int):Bool:=decide (n<0) || decide (65536<n)
def nG (vars:Int)(dims:List Int):Bool:=decide ((dims.length:Int)=vars)&& !dims.any badD
def gU (c:fL)(dims:List Int):Int×Int:=if dE c=true then if nG c.vars dims=true then cellsGo dims c.bufs 0 else (0,101) else (0,100)
def inSz (l:List Int):Prop:= ∀n∈l,0≤n∧n≤65536
section
variable {dims acc : List Int} {l : List (List Mono)} {p : List Mono} {i : Nat} {R : Option (List Int)}
theorem sides_yes(h:R=sidesGo dims (l.drop i) acc)(hp:l[i]?=some p)(h1:(cZ p dims).2=0)(h2:0≤(cZ p dims).1)(h3:(cZ p dims).1≤65536):R=sidesGo dims (l.drop (i+1)) (acc++[(cZ p dims).1]):=by
 obtain⟨hlt,e⟩:=List.getElem?_eq_some_iff.1 hp;rw [h,←List.getElem_cons_drop hlt,e,sidesGo,if_pos (by simp [sideV,h1,h2,h3])]
theorem bCv(h:R=sidesGo dims (l.drop i) acc)(hp:l[i]?=some p)(h1:(cZ p dims).2≠0∨(cZ p dims).1<0∨65536<(cZ p dims).1):R=none:=by
 obtain⟨hlt,e⟩:=List.getElem?_eq_some_iff.1 hp;rw [h,←List.getElem_cons_drop hlt,e,sidesGo,if_neg];simp only [sideV,Bool.and_eq_true,beq_iff_eq,decide_eq_true_eq];rintro⟨⟨a,b⟩,c⟩;omega
theorem sides_end(h:R=sidesGo dims (l.drop i) acc)(hi:l.length≤i):R=some acc:=by
 rw [h,List.drop_of_length_le hi,sidesGo]
theorem bGr{n:Int}(h:inSz acc)(h2:0≤n)(h3:n≤65536):inSz (acc++[n]):=fun y hy=>by
 rcases List.mem_append.1 hy with hy | hy
 ·exact h y hy
 ·have e:y=n:=by simpa using hy
  subst e;exact⟨h2,h3⟩
end
section
variable {l : List Int} {a n : Int} {i : Nat} {R : Option Int}
theorem prod_yes(h:R=prodGo (l.drop i) a)(hp:l[i]?=some n)(h1:a*n≤65536):R=prodGo (l.drop (i+1)) (a*n):=by
 obtain⟨hlt,e⟩:=List.getElem?_eq_some_iff.1 hp;rw [h,←List.getElem_cons_drop hlt,e,prodGo,if_neg (by omega)]
theorem prod_no(h:R=prodGo (l.drop i) a)(hp:l[i]?=some n)(h1:65536<a*n):R=none:=by
 obtain⟨hlt,e⟩:=List.getElem?_eq_some_iff.1 hp;rw [h,←List.getElem_cons_drop hlt,e,prodGo,if_pos h1]
theorem prod_end(h:R=prodGo (l.drop i) a)(hi:l.length≤i):R=some a:=by
 rw [h,List.drop_of_length_le hi,prodGo]
theorem mul_in(ha:0≤a∧a≤65536)(hn:0≤n∧n≤65536):0≤a*n∧a*n≤4294967296:=by
 refine⟨Int.mul_nonneg ha.1 hn.1,?_⟩;have h1:a*n≤65536*n:=Int.mul_le_mul_of_nonneg_right ha.2 hn.1;omega
theorem bIm: ∀{l:List Int} {a r:Int},0≤a→a≤65536→inSz l→prodGo l a=some r→0≤r∧r≤65536
 | [],a,r,h0,h1,_,h=>by cases h;exact⟨h0,h1⟩
 | n::l,a,r,h0,h1,hl,h=>by
  unfold prodGo at h;have hn:=hl n (List.mem_cons_self ..);split at h
  ·cases h
  ·exact bIm (mul_in ⟨h0,h1⟩ hn).1 (by omega) (fun y hy=>hl y (List.mem_cons_of_mem _ hy)) h
end
theorem bCj{dims:List Int}: ∀{l:List (List Mono)} {acc r:List Int},inSz acc→sidesGo dims l acc=some r→inSz r
 | [],acc,r,ha,h=>by cases h;exact ha
 | p::l,acc,r,ha,h=>by
  unfold sidesGo at h;split at h
  ·rename_i hs;simp only [sideV,Bool.and_eq_true,beq_iff_eq,decide_eq_true_eq] at hs;exact bCj (bGr ha hs.1.2 hs.2) h
  ·cases h
theorem sizeB_in{sides:List (List Mono)}{dims:List Int}{n:Int}(h:sizeB sides dims=some n):0≤n∧n≤65536:=by
 unfold sizeB at h;split at h
 ·cases h
 ·rename_i l hl;split at h
  ·cases h;omega
  ·exact bIm (by omega) (by omega) (bCj (fun _ h=>by cases h) hl) h
set_option maxRecDepth 100000 in
theorem indexF6_spec(A:Option Addr)(c:Nat)(l:List Int)(hl:l.length≤140737488355328)(f:FuncId)(cap:List Value)(G:List bI)(p:Int→Bool)(hcf: ∀(args:Array Value) (w:World),(callFunc f args).run Tryz.prog w= .ok (.enter f args) w)(hf: ∀k:Int,cX Tryz.prog f (.int .i64 k::cap) [] G (fun _:Unit=> .bool (p k)) (fun _=>[]) (fun _=>[])):cX Tryz.prog 117 [.slice A l.length c,.func (.func f) #[] cap.toArray] [] (gC.sl (.slice A l.length c) l::G) (fun(_:Unit)=> .int .i64 (mG p l 0)) (fun _=>[]) (fun _=>[]):=by
 have hT:=qO;generalize hR:mG p l 0=r;refine cD Tryz.func117 rfl Tryz.ntmps117 rfl ?_;intro β hM;refine sr<|sp hT ?_;refine nn<|bF<|sr<|sp3 hT ?_;refine nn<|bQ<|dH (ι:=Nat) [(0,_),(1,_),(7,_)] ⟨rfl,rfl,rfl,trivial⟩ (fun i=>[(8,.int .i64 (i:Nat))]) (fun _=>[]) (fun i=>[bI.pure (i≤l.length∧r=mG p (l.drop i) i)]) (fun i=>l.length-i) 0 ⟨rfl,trivial⟩ .nil ⟨Has.pure (⟨by omega,hR.symm⟩),trivial⟩ ?_;rintro i;refine bX (Has.of mT0) fun hinv2=>?_;refine sr<|sp hT ?_;refine nn<|bF<|bO rfl (fun hc9=>?_) (fun hc9=>?_)
 ·have hc9:=of_decide_eq_true hc9;refine bM<|bE<|bF<|bQ<|sr<|sp2 hT ?_;refine nn<|sr<|sp3 hT ?_
  obtain⟨x1,hx2⟩: ∃x',l[i]?=some x':=⟨_,List.getElem?_eq_getElem (by omega)⟩
  refine ss (bG hT (k:=i) (bC (Has.of mT1)) rfl rfl rfl rfl rfl rfl rfl (by omega)) ?_;refine ss (bR hT (bV.knows (bC (Has.of mT1)) (k:=i) (x:=x1) hx2 0) rfl rfl rfl rfl rfl) ?_;refine mA hcf (hf x1) rfl rfl rfl rfl rfl rfl rfl .nil (bH.drop 2) fun _=>?_;refine nn<|bO rfl (fun hc16=>?_) (fun hc16=>?_)
  ·refine sr<|sp2 hT ?_;refine nn<|bK<|bW<|bN<|bN<|bW<|bN ?_;have hr:=(lR hinv2.2 hx2).1 ‹_›;subst hr;exact bL () rfl (rv_tmp rfl) .nil trivial rfl
  refine bM<|bU<|bE<|bD<|sp hT ?_;refine bT (z':=(((i+1):Nat):Int)) (cO (by omega) (by omega)) ?_;refine sp hT ?_;refine nn ?_;exact cG (i+1) (by omega) ⟨rfl,trivial⟩ ⟨rfl,rfl,rfl,trivial⟩ .nil ⟨Has.pure (⟨by omega,(lR hinv2.2 hx2).2 ‹_›⟩),trivial⟩ (bH.drop 1)
 have hc9:=Int.not_lt.1 (of_decide_eq_false hc9);refine cS<|bZ<|bZ<|cR<|bE<|sr<|sp hT ?_;refine nn<|bK ?_;have hr:=xB hinv2.2 (by omega);subst hr;exact bL () rfl (rv_tmp rfl) .nil trivial rfl
set_option maxRecDepth 100000 in
theorem bAj(A:Option Addr)(c:Nat)(l:List Int)(hl:l.length≤140737488355328)(f:FuncId)(cap:List Value)(G:List bI)(p:Int→Bool)(hcf: ∀(args:Array Value) (w:World),(callFunc f args).run Tryz.prog w= .ok (.enter f args) w)(hf: ∀k:Int,cX Tryz.prog f (.int .i64 k::cap) [] G (fun _:Unit=> .bool (p k)) (fun _=>[]) (fun _=>[])):cX Tryz.prog 58 [.slice A l.length c,.func (.func f) #[] cap.toArray] [] (gC.sl (.slice A l.length c) l::G) (fun(_:Unit)=> .bool (l.any p)) (fun _=>[]) (fun _=>[]):=by
 have hT:=qO;refine cD Tryz.func58 rfl Tryz.ntmps58 rfl ?_;intro β hM;refine sr<|sp hT ?_;refine nn<|sr<|sp2 hT ?_;refine cU Tryz.func117 (indexF6_spec A c l hl f cap G p hcf hf) rfl rfl .nil bH.self fun _=>?_;refine sp2 hT ?_;refine nn<|bK ?_;exact bL () rfl (rv_tmp rfl) .nil trivial (congrArg Value.bool (vU p l 0 (by decide)))
set_option maxRecDepth 100000 in
theorem index6_spec(A:Option Addr)(c:Nat)(l:List Int)(hl:l.length≤140737488355328)(k:Int):cX Tryz.prog 180 [.slice A l.length c,.int .i64 k] [] [gC.sl (.slice A l.length c) l] (fun(_:Unit)=> .int .i64 (xT k l 0)) (fun _=>[]) (fun _=>[]):=by
 have hT:=qO;generalize hR:xT k l 0=r;refine cD Tryz.func180 rfl Tryz.ntmps180 rfl ?_;intro β hM;refine sr<|sp hT ?_;refine nn<|bF<|sr<|sp3 hT ?_;refine nn<|bQ<|dH (ι:=Nat) [(0,_),(1,_),(7,_)] ⟨rfl,rfl,rfl,trivial⟩ (fun i=>[(8,.int .i64 (i:Nat))]) (fun _=>[]) (fun i=>[bI.pure (i≤l.length∧r=xT k (l.drop i) i)]) (fun i=>l.length-i) 0 ⟨rfl,trivial⟩ .nil ⟨Has.pure (⟨by omega,hR.symm⟩),trivial⟩ ?_;rintro i;refine bX (Has.of mT0) fun hinv2=>?_;refine sr<|sp hT ?_;refine nn<|bF<|bO rfl (fun hc9=>?_) (fun hc9=>?_)
 ·have hc9:=of_decide_eq_true hc9;refine bM<|bE<|bF<|bQ<|sr<|sp2 hT ?_;refine nn<|sr<|sp3 hT ?_
  obtain⟨x1,hx2⟩: ∃x',l[i]?=some x':=⟨_,List.getElem?_eq_getElem (by omega)⟩
  refine ss (bG hT (k:=i) (bC (Has.of mT1)) rfl rfl rfl rfl rfl rfl rfl (by omega)) ?_;refine ss (bR hT (bV.knows (bC (Has.of mT1)) (k:=i) (x:=x1) hx2 0) rfl rfl rfl rfl rfl) ?_;refine sp hT ?_;refine nn<|bO rfl (fun hc16=>?_) (fun hc16=>?_)
  ·have hc16:=eq_of_beq hc16;refine sr<|sp2 hT ?_;refine nn<|bK<|bW<|bN<|bN<|bW<|bN ?_;have hr:=(tF hinv2.2 hx2).1 (by first | assumption | (symm;assumption));subst hr;exact bL () rfl (rv_tmp rfl) .nil trivial rfl
  have hc16:=beq_eq_false_iff_ne.1 hc16;refine bM<|bU<|bE<|bD<|sp hT ?_;refine bT (z':=(((i+1):Nat):Int)) (cO (by omega) (by omega)) ?_;refine sp hT ?_;refine nn ?_;exact cG (i+1) (by omega) ⟨rfl,trivial⟩ ⟨rfl,rfl,rfl,trivial⟩ .nil ⟨Has.pure (⟨by omega,(tF hinv2.2 hx2).2 ‹_›⟩),trivial⟩ (bH.drop 1)
 have hc9:=Int.not_lt.1 (of_decide_eq_false hc9);refine cS<|bZ<|bZ<|cR<|bE<|sr<|sp hT ?_;refine nn<|bK ?_;have hr:=idxI_end hinv2.2 (by omega);subst hr;exact bL () rfl (rv_tmp rfl) .nil trivial rfl
set_option maxRecDepth 100000 in
theorem bBf(A:Option Addr)(c:Nat)(l:List Int)(hl:l.length≤140737488355328)(k:Int):cX Tryz.prog 118 [.slice A l.length c,.int .i64 k] [] [gC.sl (.slice A l.length c) l] (fun(_:Unit)=> .bool (l.contains k)) (fun _=>[]) (fun _=>[]):=by
 have hT:=qO;refine cD Tryz.func118 rfl Tryz.ntmps118 rfl ?_;intro β hM;refine sr<|sp hT ?_;refine nn<|sr<|sp2 hT ?_;refine cU Tryz.func180 (index6_spec A c l hl k) rfl rfl .nil ⟨(Has.of mT0),trivial⟩ fun _=>?_;refine sp2 hT ?_;refine nn<|bK ?_;exact bL () rfl (rv_tmp rfl) .nil trivial (congrArg Value.bool (pO k l 0 (by decide)))
set_option maxRecDepth 100000 in
theorem sizeC_spec(sides:Sl PolV)(DA:Option Addr)(dcap:Nat)(dims:List Int)(hdl:dims.length≤140737488355328):cX Tryz.prog 60 [.slice sides.addr sides.list.length sides.cap,.slice DA dims.length dcap] [] [mX sides,gC.sl (.slice DA dims.length dcap) dims] (fun(_:Unit)=> .tuple #[.int .i64 ((sizeB (polsL sides.list) dims).getD 0),.bool (sizeB (polsL sides.list) dims).isSome]) (fun _=>[]) (fun _=>[]):=by
 have hT:=qO
 obtain⟨R,hR⟩: ∃R,sidesGo dims (polsL sides.list) []=R:=⟨_,rfl⟩
 refine cD Tryz.func60 rfl Tryz.ntmps60 rfl ?_;intro β hM;refine bF<|cC (jT.sl (.slice sides.addr sides.list.length sides.cap) sides.list) (tM (Has.of mT0)) ?_;refine bX (tQ (Has.of mT1)) fun hsc=>?_;have hsc1:=hsc.1;have hsc2:=hsc.2;refine gB (t:=2) gC ?_;refine bD<|sp2 hT ?_;refine nn<|sr<|sp hT ?_;refine nn<|bF<|sr<|sp3 hT ?_;refine nn<|bQ<|dH (ι:=Option Addr×Nat×List Int×Nat) [(1,_),(14,_),(15,_)] ⟨rfl,rfl,rfl,trivial⟩ (fun⟨LA,lc,acc,i⟩=>[(6,.slice LA acc.length lc),(16,.int .i64 (i:Nat))]) (fun⟨LA,lc,acc,i⟩=>[gC.row (.slice LA acc.length lc) 2 acc]) (fun⟨LA,lc,acc,i⟩=>[bI.pure (i≤sides.list.length∧acc.length=i∧inSz acc∧R=sidesGo dims ((polsL sides.list).drop i) acc)]) (fun⟨LA,lc,acc,i⟩=>sides.list.length-i) (none,0,[],0) ⟨rfl,rfl,trivial⟩ (.cons .head .nil) ⟨Has.pure (⟨by omega,rfl,fun _ h=>(by cases h),hR.symm⟩),trivial⟩ ?_;rintro⟨LA,lc,acc,i⟩;dsimp only;refine bX (Has.of mT0) fun hinv3=>?_;have hal:=hinv3.2.1;refine sr<|sp hT ?_;refine nn<|bF<|bO rfl (fun hc17=>?_) (fun hc17=>?_)
 ·have hc17:=of_decide_eq_true hc17;refine bM<|bE<|bF<|bQ<|bF ?_
  obtain⟨x,hx⟩: ∃x',sides.list[i]?=some x':=⟨_,List.getElem?_eq_getElem (by omega)⟩
  refine cC (fG x) (Has.each (tH (Has.of mT2)) (List.mem_of_getElem? hx)) ?_;refine bD<|ss (bG hT (k:=i) (bC (Has.of mT2)) rfl rfl rfl rfl rfl rfl rfl (by omega)) ?_;refine ss (bR hT (bV.knows (bC (Has.of mT2)) (k:=i) (x:=x) hx 0) rfl rfl rfl rfl rfl) ?_;refine sp hT ?_;refine nn<|sr<|sp2 hT ?_;refine bX (fQ (Has.of mT0)) fun hxl=>?_;refine cU Tryz.func29 (uW x DA dcap dims hxl hdl) rfl rfl .nil ⟨Has.of mT0,Has.of mT4,trivial⟩ fun _=>?_;refine sp4 hT ?_;refine sp hT ?_;refine nn<|bF<|sr<|sp3 hT ?_;refine cA (fun hg28=>?_) (fun hg28=>?_)
  ·have hg28:=bne_iff_ne.1 hg28;refine sk2 ?_;refine sp2 hT ?_;refine sk2 ?_;refine sp hT ?_;refine nn<|cW rfl rfl ?_;refine sr<|sp2 hT ?_;refine nn<|bK<|bN<|bW<|bN<|bN<|bW<|bN ?_;have hz:sizeB (polsL sides.list) dims=none:=by unfold sizeB;rw [hR,bCv hinv3.2.2.2 (fW hx) (by omega)]
   exact dO () rfl (rv_tmp rfl) (rv_tmp rfl) .nil trivial (by rw [hz];rfl)
  have hg28:=bne_eq_false_iff_eq.1 hg28;refine sp4 hT ?_;refine cA (fun hg32=>?_) (fun hg32=>?_)
  ·have hg32:=of_decide_eq_true hg32;refine sk2 ?_;refine sp hT ?_;refine nn<|cW rfl rfl ?_;refine sr<|sp2 hT ?_;refine nn<|bK<|bN<|bW<|bN<|bN<|bW<|bN ?_;have hz:sizeB (polsL sides.list) dims=none:=by unfold sizeB;rw [hR,bCv hinv3.2.2.2 (fW hx) (by omega)]
   exact dO () rfl (rv_tmp rfl) (rv_tmp rfl) .nil trivial (by rw [hz];rfl)
  have hg32:=Int.not_lt.1 (of_decide_eq_false hg32);refine sp3 hT ?_;refine nn<|bO rfl (fun hc35=>?_) (fun hc35=>?_)
  ·have hc35:=of_decide_eq_true hc35;refine sr<|sp2 hT ?_;refine nn<|bK<|bN<|bW<|bN<|bN<|bW<|bN ?_;have hz:sizeB (polsL sides.list) dims=none:=by unfold sizeB;rw [hR,bCv hinv3.2.2.2 (fW hx) (by omega)]
   exact dO () rfl (rv_tmp rfl) (rv_tmp rfl) .nil trivial (by rw [hz];rfl)
  have hc35:=Int.not_lt.1 (of_decide_eq_false hc35);refine bM<|bE<|bD<|sp2 hT ?_;refine at_one_int64 (m:=(cZ x.list dims).1) rfl rfl rfl rfl rfl fun b1=>?_;refine at_app_int64 kT1 (iE .head rfl) rfl rfl rfl rfl rfl rfl rfl (by simp only [List.length_singleton];omega) fun A2 c3=>?_;refine sp hT ?_;refine gH<|bU<|bE<|bD<|sp hT ?_;refine bT (z':=(((i+1):Nat):Int)) (cO (by omega) (by omega)) ?_;refine sp hT ?_;refine nn ?_;exact cG (A2,c3,acc++[(cZ x.list dims).1],i+1) (by dsimp only;omega) ⟨rfl,rfl,trivial⟩ ⟨rfl,rfl,rfl,trivial⟩ (.cons .head .nil) ⟨Has.pure (⟨by dsimp only;omega,by dsimp only;rw [List.length_append,List.length_singleton];omega,bGr hinv3.2.2.1 (by omega) (by omega),sides_yes hinv3.2.2.2 (fW hx) ‹_› (by omega) (by omega)⟩),trivial⟩ (bH.drop 2)
 have hc17:=Int.not_lt.1 (of_decide_eq_false hc17);refine cS<|bZ<|bZ<|cR<|bE<|bF<|sr<|sp hT ?_;have hsd:=sides_end hinv3.2.2.2 (by rw [dF];omega);refine jJ (E:=gC) .head ?_;refine cU Tryz.func118 (bBf LA lc acc (by omega) 0) rfl rfl .nil ⟨Has.of mT0,trivial⟩ fun _=>?_;refine nn<|bO rfl (fun hc42=>?_) (fun hc42=>?_)
 ·refine sr<|sp2 hT ?_;refine nn<|bK<|bN ?_;have hz:sizeB (polsL sides.list) dims=some 0:=by unfold sizeB;rw [hR,hsd];dsimp only;rw [if_pos ‹_›]
  exact dO () rfl (rv_tmp rfl) (rv_tmp rfl) .nil trivial (by rw [hz];rfl)
 refine bM<|bE<|bF ?_
 obtain⟨Q,hQ⟩: ∃Q,prodGo acc 1=Q:=⟨_,rfl⟩
 refine bD<|sp hT ?_;refine nn<|bF<|sr<|sp3 hT ?_;refine nn<|bQ<|dH (ι:=Int×Nat) [(43,_),(44,_)] ⟨rfl,rfl,trivial⟩ (fun⟨al,j⟩=>[(11,.int .i64 al),(45,.int .i64 (j:Nat))]) (fun _=>[]) (fun⟨al,j⟩=>[bI.pure (j≤acc.length∧0≤al∧al≤65536∧Q=prodGo (acc.drop j) al)]) (fun⟨al,j⟩=>acc.length-j) (1,0) ⟨rfl,rfl,trivial⟩ .nil ⟨Has.pure (⟨by omega,by omega,by omega,hQ.symm⟩),trivial⟩ ?_;rintro⟨al,j⟩;dsimp only;refine bX (Has.of mT0) fun hinv14=>?_;refine sr<|sp hT ?_;refine nn<|bF<|bO rfl (fun hc46=>?_) (fun hc46=>?_)
 ·have hc46:=of_decide_eq_true hc46;refine bM<|bE<|bF<|bQ<|bF ?_
  obtain⟨n,hn⟩: ∃n,acc[j]?=some n:=⟨_,List.getElem?_eq_getElem (by omega)⟩
  have hnz:=hinv3.2.2.1 n (List.mem_of_getElem? hn);have hmi:=mul_in ⟨hinv14.2.1,hinv14.2.2.1⟩ hnz;refine bD<|ss (bG hT (k:=j) (bC (Has.of mT1)) rfl rfl rfl rfl rfl rfl rfl (by omega)) ?_;refine ss (bR hT (bV.knows (bC (Has.of mT1)) (k:=j) (x:=n) hn 0) rfl rfl rfl rfl rfl) ?_;refine sp hT ?_;refine nn<|sr<|sp3 hT ?_;refine bT (uJ (by omega) (by omega)) ?_;refine sp hT ?_;refine nn<|sr<|sp2 hT ?_;refine nn<|bO rfl (fun hc53=>?_) (fun hc53=>?_)
  ·have hc53:=of_decide_eq_true hc53;refine sr<|sp2 hT ?_;refine nn<|bK<|bW<|bN<|bN<|bW<|bN ?_;have hz:sizeB (polsL sides.list) dims=none:=by unfold sizeB;rw [hR,hsd];dsimp only;rw [if_neg (by simp_all),hQ];exact prod_no hinv14.2.2.2 hn (by omega)
   exact dO () rfl (rv_tmp rfl) (rv_tmp rfl) .nil trivial (by rw [hz];rfl)
  have hc53:=Int.not_lt.1 (of_decide_eq_false hc53);refine bM<|bU<|bE<|bD<|sp hT ?_;refine bT (z':=(((j+1):Nat):Int)) (cO (by omega) (by omega)) ?_;refine sp hT ?_;refine nn ?_;exact cG (al*n,j+1) (by dsimp only;omega) ⟨rfl,rfl,trivial⟩ ⟨rfl,rfl,trivial⟩ .nil ⟨Has.pure (⟨by dsimp only;omega,(mul_in ⟨hinv14.2.1,hinv14.2.2.1⟩ hnz).1,by dsimp only;omega,prod_yes hinv14.2.2.2 hn (by omega)⟩),trivial⟩ (bH.drop 1)
 have hc46:=Int.not_lt.1 (of_decide_eq_false hc46);refine cS<|bZ<|bZ<|cR<|bE<|sr<|sp3 hT ?_;refine nn<|bK ?_;have hz:sizeB (polsL sides.list) dims=some al:=by unfold sizeB;rw [hR,hsd];dsimp only;rw [if_neg (by simp_all),hQ];exact prod_end hinv14.2.2.2 (by omega)
 exact dO () rfl (rv_tmp rfl) (rv_tmp rfl) .nil trivial (by rw [hz];rfl)
theorem sizeB_get{sides:List (List Mono)}{dims:List Int}{z:Option Int}(h:sizeB sides dims=z):0≤z.getD 0∧z.getD 0≤65536:=by
 cases z with
 | none=>exact⟨by show(0:Int)≤0;omega,by show(0:Int)≤65536;omega⟩
 | some n=>exact sizeB_in h
section
variable {dims : List Int} {l : List kZ} {al : Int} {i : Nat} {R : Int × Int} {b : kZ} {z : Option Int}
theorem cells_yes(h:R=cellsGo dims (l.drop i) al)(hu:l[i]?=some b)(hz:sizeB b.sides dims=z)(hs:z.isSome=true)(h1:al+z.getD 0≤1048576):R=cellsGo dims (l.drop (i+1)) (al+z.getD 0):=by
 obtain⟨hlt,e⟩:=List.getElem?_eq_some_iff.1 hu
 cases z with
 | none=>cases hs
 | some n=>
  have h1:al+n≤1048576:=h1;rw [h,←List.getElem_cons_drop hlt,e,cellsGo,hz];show(if 1048576<al+n then ((0,102):Int×Int) else cellsGo dims (l.drop (i+1)) (al+n))=_;rw [if_neg (by omega)];rfl
theorem cells_no(h:R=cellsGo dims (l.drop i) al)(hu:l[i]?=some b)(hz:sizeB b.sides dims=z)(h1:z.isSome=false∨1048576<al+z.getD 0):R=(0,102):=by
 obtain⟨hlt,e⟩:=List.getElem?_eq_some_iff.1 hu;rw [h,←List.getElem_cons_drop hlt,e,cellsGo,hz]
 cases z with
 | none=>rfl
 | some n=>
  rcases h1 with h1 | h1
  ·cases h1
  ·have h1:1048576<al+n:=h1;show(if 1048576<al+n then ((0,102):Int×Int) else _)=_;rw [if_pos h1]
theorem cells_end(h:R=cellsGo dims (l.drop i) al)(hi:l.length≤i):R=(al,0):=by
 rw [h,List.drop_of_length_le hi,cellsGo]
end
set_option maxRecDepth 100000 in
theorem cells1_spec(k:Int):cX Tryz.prog 59 [.int .i64 k] [] [] (fun(_:Unit)=> .bool (badD k)) (fun _=>[]) (fun _=>[]):=by
 have hT:=qO;refine cD Tryz.func59 rfl Tryz.ntmps59 rfl ?_;intro β hM;refine sr<|sp hT ?_;refine nn<|sr<|sp3 hT ?_;refine cA (fun hg5=>?_) (fun hg5=>?_)
 ·have hg5:=of_decide_eq_true hg5;refine sk2 ?_;refine sp2 hT ?_;refine nn<|bK ?_;exact bL () rfl (rv_tmp rfl) .nil trivial (by first | (unfold badD;simp [*];done) | (unfold badD;simp [*];omega))
 have hg5:=Int.not_lt.1 (of_decide_eq_false hg5);refine sp4 hT ?_;refine nn<|bK ?_;exact bL () rfl (rv_tmp rfl) .nil trivial (by first | (unfold badD;simp [*];done) | (unfold badD;simp [*];omega))
set_option maxRecDepth 100000 in
theorem Cells_spec(c:iF)(DA:Option Addr)(dcap:Nat)(dims:List Int)(hdl:dims.length≤140737488355328):cX Tryz.prog 28 [.agg #[.int .i64 c.vars,.slice c.bufs.addr c.bufs.list.length c.bufs.cap,.slice c.steps.addr c.steps.list.length c.steps.cap,.slice c.outs.addr c.outs.list.length c.outs.cap],.slice DA dims.length dcap] [] [oT c,gC.sl (.slice DA dims.length dcap) dims] (fun(_:Unit)=> .tuple #[.int .i64 (gU c.c dims).1,.int .i64 (gU c.c dims).2]) (fun _=>[]) (fun _=>[]):=by
 have hT:=qO
 obtain⟨R,hR⟩: ∃R,cellsGo dims c.c.bufs 0=R:=⟨_,rfl⟩
 refine cD Tryz.func28 rfl Tryz.ntmps28 rfl ?_;intro β hM;refine sr<|iL rfl rfl rfl rfl rfl rfl fun b1=>?_;refine sp2 hT ?_;refine nn<|bF<|sr<|ss (ldN hT (dC .head)) ?_;refine cU Tryz.func25 (qT c) rfl rfl .nil ⟨(Has.of mT0),trivial⟩ fun _=>?_;refine sp hT ?_;refine nn<|bO rfl (fun hc13=>?_) (fun hc13=>?_)
 ·have hc13:=kG hc13;refine sr<|sp2 hT ?_;refine nn<|bK<|bN ?_;have hr:dE c.c=false:=by simp_all
  have hv:gU c.c dims=(0,100):=by unfold gU;rw [if_neg (by simp [hr])]
  exact dO () rfl (rv_tmp rfl) (rv_tmp rfl) .nil trivial (by rw [hv])
 have hc13:=kD hc13;refine bM<|bE<|bF<|sr<|sp3 hT ?_;refine ss (ldO hT (dC .head)) ?_;refine sp2 hT ?_;refine cA (fun hg19=>?_) (fun hg19=>?_)
 ·have hg19:=bne_iff_ne.1 hg19;refine sk2 ?_;refine sp hT ?_;refine nn<|cW rfl rfl ?_;refine sr<|sp2 hT ?_;refine nn<|bK<|bN ?_;have hr:dE c.c=true:=by simp_all
  have hd:nG c.vars dims=false:=by unfold nG;simp_all
  have hv:gU c.c dims=(0,101):=by unfold gU;rw [if_pos hr,if_neg (by show ¬nG c.vars dims=true;simp [hd])]
  exact dO () rfl (rv_tmp rfl) (rv_tmp rfl) .nil trivial (by rw [hv])
 have hg19:=bne_eq_false_iff_eq.1 hg19;refine sp hT ?_;refine cU Tryz.func58 (bAj DA dcap dims (by omega) 59 [] [] badD (bP Tryz.func59 rfl rfl) cells1_spec) rfl rfl .nil ⟨(Has.of mT1),trivial⟩ fun _=>?_;refine sp hT ?_;refine nn<|bO rfl (fun hc22=>?_) (fun hc22=>?_)
 ·refine sr<|sp2 hT ?_;refine nn<|bK<|bN ?_;have hr:dE c.c=true:=by simp_all
  have hd:nG c.vars dims=false:=by unfold nG;simp_all
  have hv:gU c.c dims=(0,101):=by unfold gU;rw [if_pos hr,if_neg (by show ¬nG c.vars dims=true;simp [hd])]
  exact dO () rfl (rv_tmp rfl) (rv_tmp rfl) .nil trivial (by rw [hv])
 refine bM<|bE<|sr<|sp hT ?_;refine nn<|bF<|bF ?_;have hrr:dE c.c=true:=by simp_all
 have hbz:=(rS hrr).1.1;have hnb:c.c.bufs.length=c.bufs.list.length:=cT _;refine cC (bAf.sl (.slice c.bufs.addr c.bufs.list.length c.bufs.cap) c.bufs.list) (oW (jR (Has.of mT0))) ?_;refine bD<|sp hT ?_;refine ss (ldO hT (fF .head)) ?_;refine sp2 hT ?_;refine nn<|bQ<|dH (ι:=Int×Nat) [(1,_),(24,_),(25,_)] ⟨rfl,rfl,rfl,trivial⟩ (fun⟨al,i⟩=>[(6,.int .i64 al),(26,.int .i64 (i:Nat))]) (fun _=>[]) (fun⟨al,i⟩=>[bI.pure (i≤c.bufs.list.length∧0≤al∧al≤1048576∧R=cellsGo dims ((pV c.bufs.list).drop i) al)]) (fun⟨al,i⟩=>c.bufs.list.length-i) (0,0) ⟨rfl,rfl,trivial⟩ .nil ⟨Has.pure (⟨by omega,by omega,by omega,hR.symm⟩),trivial⟩ ?_;rintro⟨al,i⟩;dsimp only;refine bX (Has.of mT0) fun hinv7=>?_;refine sr<|sp hT ?_;refine nn<|bF<|bO rfl (fun hc27=>?_) (fun hc27=>?_)
 ·have hc27:=of_decide_eq_true hc27;refine bM<|bE<|bF<|bQ<|sr ?_
  obtain⟨x2,hx3⟩: ∃x',c.bufs.list[i]?=some x':=⟨_,List.getElem?_eq_getElem (by omega)⟩
  refine ss (bG hT (k:=i) (bC (Has.of mT1)) rfl rfl rfl rfl rfl rfl rfl (by omega)) ?_;refine ss (cL hT (bV.knows (bC (Has.of mT1)) (k:=i) (x:=x2) hx3 0) rfl rfl rfl rfl rfl) ?_;refine fC rfl rfl rfl rfl rP rfl fun b4=>?_;refine sto hT .head ?_;refine nn<|sr<|sp hT ?_;refine ss (ldO hT (dC .head)) ?_;refine sp hT ?_;refine cC (mX x2.sides) (Has.each (tC (jR (Has.of mT2))) (List.mem_of_getElem? hx3)) ?_;refine cU Tryz.func60 (sizeC_spec x2.sides DA dcap dims hdl) rfl rfl .nil ⟨(Has.of mT0),(Has.of mT4),trivial⟩ fun _=>?_
  obtain⟨z,hz⟩: ∃z,sizeB (polsL x2.sides.list) dims=z:=⟨_,rfl⟩
  rw [hz];have hzb:=sizeB_get hz;refine sp4 hT ?_;refine sp hT ?_;refine nn<|sr<|sp3 hT ?_;refine bT (uJ (by omega) (by omega)) ?_;refine sp hT ?_;refine nn<|sr<|sp3 hT ?_;refine cA (fun hg42=>?_) (fun hg42=>?_)
  ·have hg42:=kG hg42;refine sk2 ?_;refine sp hT ?_;refine nn<|cW rfl rfl ?_;refine sr<|sp2 hT ?_;refine nn<|bK<|bW<|bN<|bN<|bW<|bN ?_;have hr:dE c.c=true:=by simp_all
   have hd:nG c.vars dims=true:=by unfold nG;simp_all
   have hv:gU c.c dims=(0,102):=by unfold gU;rw [if_pos hr,if_pos (by show nG c.vars dims=true;exact hd)];exact hR.trans (cells_no hinv7.2.2.2 (dG hx3) hz (by first | (left;simp_all;done) | (right;omega)))
   exact dO () rfl (rv_tmp rfl) (rv_tmp rfl) .nil trivial (by rw [hv])
  have hg42:=kD hg42;refine sp3 hT ?_;refine nn<|bO rfl (fun hc45=>?_) (fun hc45=>?_)
  ·have hc45:=of_decide_eq_true hc45;refine sr<|sp2 hT ?_;refine nn<|bK<|bW<|bN<|bN<|bW<|bN ?_;have hr:dE c.c=true:=by simp_all
   have hd:nG c.vars dims=true:=by unfold nG;simp_all
   have hv:gU c.c dims=(0,102):=by unfold gU;rw [if_pos hr,if_pos (by show nG c.vars dims=true;exact hd)];exact hR.trans (cells_no hinv7.2.2.2 (dG hx3) hz (by first | (left;simp_all;done) | (right;omega)))
   exact dO () rfl (rv_tmp rfl) (rv_tmp rfl) .nil trivial (by rw [hv])
  have hc45:=Int.not_lt.1 (of_decide_eq_false hc45);refine bM<|bU<|bE<|bD<|sp hT ?_;refine bT (z':=(((i+1):Nat):Int)) (cO (by omega) (by omega)) ?_;refine sp hT ?_;refine nn ?_;exact cG (al+z.getD 0,i+1) (by dsimp only;omega) ⟨rfl,rfl,trivial⟩ ⟨rfl,rfl,rfl,trivial⟩ (.cons kT1 .nil) ⟨Has.pure (⟨by dsimp only;omega,by dsimp only;omega,by dsimp only;omega,cells_yes hinv7.2.2.2 (dG hx3) hz (by first | assumption | simp_all) (by omega)⟩),trivial⟩ (bH.drop 2)
 have hc27:=Int.not_lt.1 (of_decide_eq_false hc27);refine cS<|bZ<|bZ<|cR<|bE<|sr<|sp3 hT ?_;refine nn<|bK ?_;have hr:dE c.c=true:=by simp_all
 have hd:nG c.vars dims=true:=by unfold nG;simp_all
 have hv:gU c.c dims=(al,0):=by unfold gU;rw [if_pos hr,if_pos (by show nG c.vars dims=true;exact hd)];exact hR.trans (cells_end hinv7.2.2.2 (by rw [cT];omega))
 exact dO () rfl (rv_tmp rfl) (rv_tmp rfl) .nil trivial (by rw [hv])
end Go.Proofs.YtofjmphlpdhohaaGreatDoor
namespace Go.Proofs.YtofjmphlpdhohaaGreatDoor
open Go.RowKit Go.Sort
def iN:List (UInt8×Int)→Int
 | []=>1
 | x::l=>x.2^x.1.toNat*iN l
def val (D:Nat→Int)(m:Mono):Int:=iN (dI m D)
theorem ext_val(D:Nat→Int):Ext (val D):=fun a b h=>by
 have:=key_E.1 h;simp only [Mono.E,List.cons.injEq,and_true] at this;obtain⟨h0,h1,h2,h3,h4,h5⟩:=this;simp only [val,dI,h0,h1,h2,h3,h4,h5]
theorem bGk{d:Int}: ∀{e:Nat} {n r:Int},nD d e n=some r→r=n*d^e
 | 0,n,r,h=>by simp only [nD,Option.some.injEq] at h;simp [h]
 | e+1,n,r,h=>by
  unfold nD at h;split at h
  ·simp at h
  ·rw [bGk h,Int.pow_succ,Int.mul_assoc,Int.mul_comm d]
theorem bIq: ∀{l:List (UInt8×Int)} {n r:Int},lI l n=some r→r=n*iN l
 | [],n,r,h=>by simp only [lI,Option.some.injEq] at h;simp [h,iN]
 | x::l,n,r,h=>by
  simp only [lI,Option.bind_eq_some_iff] at h;obtain⟨k,h1,h2⟩:=h;rw [bIq h2,bGk h1,iN,Int.mul_assoc]
theorem vO: ∀{l:List (UInt8×Int)},fK l=true→iN l=0
 | [],h=>by simp [fK] at h
 | x::l,h=>by
  simp only [fK,List.any_cons,Bool.or_eq_true,Bool.and_eq_true,decide_eq_true_eq,beq_iff_eq] at h
  rcases h with ⟨h1,h2⟩ | h
  ·rw [iN,h2,Int.zero_pow (by omega),Int.zero_mul]
  ·rw [iN,vO (l:=l) (by simpa [fK] using h),Int.mul_zero]
theorem value_val{m:Mono}{D:Nat→Int}(h:(cM m D).2=true):(cM m D).1=max m.n (-m.n)*val D m:=by
 unfold cM at*;split
 ·rename_i hz;rw [val,vO hz];simp
 ·split
  ·rename_i n hn;exact bIq hn
  ·rename_i hz _ hn;rw [if_neg hz,hn] at h;simp at h
theorem bBi{D:Nat→Int}(hD: ∀k,0≤D k): ∀{l:List Mono} {size sum r:Int},-size≤sum→sum≤size→size≤fU→gV D l size sum=some r→r=sum+lin (val D) l∧ -fU≤r∧r≤fU
 | [],size,sum,r,h1,h2,h3,h=>by
  simp only [gV,Option.some.injEq] at h;subst h;exact⟨by simp [lin,cY],by omega,by omega⟩
 | m::l,size,sum,r,h1,h2,h3,h=>by
  unfold gV at h;split at h
  ·simp at h
  ·rename_i hc;rw [not_or] at hc;have hv:=value_val (m:=m) (D:=D) (by simpa using hc.1);have h0:=qV m D hD
   have hs:(if m.n<0 then sum-(cM m D).1 else sum+(cM m D).1)=sum+m.n*val D m:=by
    rw [hv];split
    ·rw [show max m.n (-m.n)= -m.n by omega,Int.neg_mul];omega
    ·rw [show max m.n (-m.n)=m.n by omega]
   have hs1: -(size+(cM m D).1)≤sum+m.n*val D m∧sum+m.n*val D m≤size+(cM m D).1:=by
    rw [←hs];split<;>omega
   rw [hs] at h;obtain⟨e1,e2,e3⟩:=bBi hD hs1.1 hs1.2 (by omega) h;exact⟨by rw [e1,gK];omega,e2,e3⟩
theorem eval_ok{p:List Mono}{ds:List Int}{v:Int}(h:cZ p ds=(v,0)):cH p=true∧v=lin (val (cN ds)) p∧ -fU≤v∧v≤fU:=by
 unfold cZ at h;split at h
 ·rename_i h1;split at h
  ·rename_i h2;simp only [lQ,Bool.and_eq_true] at h2;have hD: ∀k,0≤cN ds k:=fun k=>(vW h2.2 k).1;split at h
   ·rename_i n hn;injection h with h _
    subst h;obtain⟨e1,e2,e3⟩:=bBi hD (by omega) (by omega) (by decide) hn;exact⟨h1,by rw [e1];omega,e2,e3⟩
   ·simp at h
  ·simp at h
 ·simp at h
def Bnd (N:Int)(L:List Mono):Prop:= ∀m∈L,-N≤m.n∧m.n≤N
theorem coef_bnd{N:Int}(hN:0≤N)(k:Mono): ∀{L:List Mono},Bnd N L→ -N≤lS k L∧lS k L≤N
 | [],_=>by simp only [lS];omega
 | m::L,h=>by
  unfold lS;split
  ·exact h m (by simp)
  ·exact coef_bnd hN k fun x hx=>h x (by simp [hx])
theorem zV{F:Mono→Int}(hF:Ext F){N V:Int}(hN:0≤N)(hV:0≤V)(hNV:N+V<9223372036854775808)(m:Mono){v:Int}(hv: -V≤v∧v≤V){L:List Mono}(h:Bnd N L):
  lin F (oM m v L)=lin F L+v*F m∧Bnd (N+V) (oM m v L):=by
 have hc:=coef_bnd hN m h;have hw:wrap64 (lS m L+v)=lS m L+v:=by unfold wrap64;omega
 unfold oM;rw [hw];constructor
 ·rw [yA hF,show lS m L+v-lS m L=v by omega]
 ·intro y hy
  rcases uA hy with rfl | hy
  ·show _≤lS m L+v∧lS m L+v≤_;omega
  ·have:=h y hy;omega
theorem prod_bnd{x y:Int}(hx: -16777216≤x∧x≤16777216)(hy: -16777216≤y∧y≤16777216): -281474976710656≤x*y∧x*y≤281474976710656:=by
 have h:(x*y).natAbs≤16777216*16777216:=by
  rw [Int.natAbs_mul];exact Nat.mul_le_mul (by omega) (by omega)
 omega
theorem bAr{m:Mono}(h:fZ m=true): -16777216≤m.n∧m.n≤16777216:=by
 simp only [fZ,decide_eq_true_eq] at h;omega
theorem wM{F:Mono→Int}(hF:Ext F)(a:Mono)(ha:fZ a=true): ∀{q L:List Mono} {N:Int},0≤N→N+281474976710656*q.length<9223372036854775808→(∀b∈q,fZ b=true)→Bnd N L→
  lin F (jD a L q)=lin F L+cY (fun b=>a.n*b.n*F (mulM a b)) q∧Bnd (N+281474976710656*q.length) (jD a L q)
 | [],L,N,_,_,_,h=>by
  refine⟨by simp [jD,cY],?_⟩
  simpa [jD] using h
 | b::q,L,N,hN,hl,hq,h=>by
  rw [List.length_cons] at hl⊢;have hp:=prod_bnd (bAr ha) (bAr (hq b (by simp)));have hw:wrap64 (a.n*b.n)=a.n*b.n:=by unfold wrap64;omega
  obtain⟨e1,e2⟩:=zV hF (V:=281474976710656) hN (by omega) (by omega) (mulM a b) hp h;obtain⟨f1,f2⟩:=wM hF a ha (q:=q) (by omega) (by omega) (fun x hx=>hq x (by simp [hx])) e2;rw [jD,hw];refine⟨?_,?_⟩
  ·rw [f1,e1];simp only [cY];omega
  ·rw [show N+281474976710656*((q.length+1:Nat):Int)=N+281474976710656+281474976710656*q.length by omega];exact f2
theorem xE{F:Mono→Int}(hF:Ext F){q:List Mono}(hq: ∀b∈q,fZ b=true)(hl:q.length≤48): ∀{p L:List Mono} {N:Int},0≤N→N+13510798882111488*p.length<9223372036854775808→(∀b∈p,fZ b=true)→Bnd N L→
  lin F (gE q L p)=lin F L+cY (fun a=>cY (fun b=>a.n*b.n*F (mulM a b)) q) p
 | [],L,N,_,_,_,h=>by simp [gE,cY]
 | a::p,L,N,hN,hp,hs,h=>by
  rw [List.length_cons] at hp;obtain⟨e1,e2⟩:=wM hF a (hs a (by simp)) (q:=q) hN (by omega) hq h;have e3:Bnd (N+13510798882111488) (jD a L q):=fun x hx=>by have:=e2 x hx;omega
  have f1:=xE hF hq hl (p:=p) (by omega) (by omega) (fun x hx=>hs x (by simp [hx])) e3;rw [gE,f1,e1];simp only [cY];omega
theorem oF(x y:UInt8)(d:Int)(h:x.toNat+y.toNat<256):d^(x+y).toNat=d^x.toNat*d^y.toNat:=by
 rw [UInt8.toNat_add,Nat.mod_eq_of_lt h,Int.pow_add]
theorem bIs{m:Mono}(h:fZ m=true):m.e0.toNat≤8∧m.e1.toNat≤8∧m.e2.toNat≤8∧m.e3.toNat≤8∧m.e4.toNat≤8∧m.e5.toNat≤8:=by
 simp only [fZ,decide_eq_true_eq] at h;have h:=h.2.2.2;unfold Mono.deg at h;omega
theorem val_mul(D:Nat→Int){a b:Mono}(ha:fZ a=true)(hb:fZ b=true):val D (mulM a b)=val D a*val D b:=by
 obtain⟨a0,a1,a2,a3,a4,a5⟩:=bIs ha;obtain⟨b0,b1,b2,b3,b4,b5⟩:=bIs hb;simp only [val,dI,mulM,iN];rw [oF _ _ _ (by omega),oF _ _ _ (by omega),oF _ _ _ (by omega),oF _ _ _ (by omega),oF _ _ _ (by omega),oF _ _ _ (by omega)];simp only [Int.mul_one]
 ac_rfl
end Go.Proofs.YtofjmphlpdhohaaGreatDoor
namespace Go.Proofs.YtofjmphlpdhohaaGreatDoor
theorem pow_le{a b:Int}(ha:0≤a)(h:a≤b): ∀e:Nat,0≤a^e∧a^e≤b^e
 | 0=>by simp
 | e+1=>by
  obtain⟨h1,h2⟩:=pow_le ha h e;rw [Int.pow_succ,Int.pow_succ];exact⟨Int.mul_nonneg h1 ha,Int.mul_le_mul h2 h ha (Int.le_trans h1 h2)⟩
theorem prod_le{D D':Nat→Int}(hD: ∀k,0≤D k)(h: ∀k,D k≤D' k): ∀l:List (UInt8×Nat),0≤iN (l.map fun x=>(x.1,D x.2))∧iN (l.map fun x=>(x.1,D x.2))≤iN (l.map fun x=>(x.1,D' x.2))
 | []=>by simp [iN]
 | x::l=>by
  obtain⟨h1,h2⟩:=prod_le hD h l;obtain⟨h3,h4⟩:=pow_le (hD x.2) (h x.2) x.1.toNat;simp only [List.map_cons,iN];exact⟨Int.mul_nonneg h3 h1,Int.mul_le_mul h4 h2 h1 (Int.le_trans h3 h4)⟩
theorem val_le{D D':Nat→Int}(hD: ∀k,0≤D k)(h: ∀k,D k≤D' k)(m:Mono):0≤val D m∧val D m≤val D' m:=
 prod_le hD h [(m.e0,0),(m.e1,1),(m.e2,2),(m.e3,3),(m.e4,4),(m.e5,5)]
theorem lin_le{D D':Nat→Int}(hD: ∀k,0≤D k)(h: ∀k,D k≤D' k): ∀p:List Mono,(∀m∈p,0≤m.n)→0≤lin (val D) p∧lin (val D) p≤lin (val D') p
 | [],_=>by simp [lin,cY]
 | m::p,hp=>by
  obtain⟨h1,h2⟩:=lin_le hD h p fun x hx=>hp x (by simp [hx]);obtain⟨h3,h4⟩:=val_le hD h m;have h0:=hp m (by simp);have h5:=Int.mul_nonneg h0 h3;have h6:=Int.mul_le_mul_of_nonneg_left h4 h0;rw [gK,gK];exact⟨by omega,by omega⟩
theorem grows_n{p:List Mono}(h:mF p=true): ∀m∈p,0≤m.n:=fun m hm=>by
 simp only [mF,Bool.and_eq_true,Bool.not_eq_true',List.any_eq_false,xM,decide_eq_true_eq] at h;have:=h.2 m hm;omega
end Go.Proofs.YtofjmphlpdhohaaGreatDoor
