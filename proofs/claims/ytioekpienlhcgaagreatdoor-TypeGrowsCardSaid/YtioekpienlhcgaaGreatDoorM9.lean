/- A part of one proof. -/
import Derived.Test.YtioekpienlhcgaaGreatDoorM8
set_option maxRecDepth 100000
namespace Go.Proofs.YtioekpienlhcgaaGreatDoor
open Lib renaming hid->S7
open _root_.List renaming drop_of_length_le->K3,getElem?_eq_getElem->F1,take_add_one->R6,length_take->K6,length_reverse->O8,take_of_length_le->F6,getElem?_eq_some_iff->F3,drop_eq_getElem_cons->K2,length_replicate->X1,getElem?_replicate->aG,mem_cons->E2,mem_singleton->K7,mem_cons_of_mem->E4,mem_append->E3,mem_cons_self->E8,mem_flatMap->Y2,take_zero->aH,append_cancel_left->aI,take_length->aJ,cons_append->R0,take_succ_eq_append_getElem->V8,flatMap_append->Z4,take_append_drop->W8,getElem?_append_left->Z6,mem_of_getElem?->aK,length_map->O4
open _root_.Nat renaming eq_zero_or_pos->S8,le_trans->B1,le_refl->B0,min_eq_left->L3,min_eq_right->aL,zero_add->C7
open World renaming size_alloc->V5
section
open Go.RowKit Go.Proofs.Tryz
set_option maxRecDepth 100000
set_option maxHeartbeats 1000000 in
theorem sB(A:Option Addr)(c:Nat)(xs:List Mono)(w:World)(ha:mC w A xs)(hx:xs.length<=140737488355328):
  Calls prog 71 #[.slice A xs.length c] w λe w'=>e= .returned (.bool (gL xs))/\Below w.heap.size w w':=by
 have Ha:=S7 ha;clear ha
 go_enter func71,ntmps71
 go_wp2
 go_loop [3] (λi=> ∃k:Nat,k<=xs.length/\i= .int .i64 k/\Hid (xs.any xM=(xs.drop k).any xM)) (λi=>xs.length-(intOf i).toNat)
 case atStart=>exact⟨0,Nat.zero_le _,rfl,rfl⟩
 case round=>
  obtain⟨k,hk,rfl,hs⟩:=hrel
  by_cases hlt:k<xs.length
  .obtain⟨m,hm,dm⟩:=nY hlt;obtain⟨b,o,rfl,hB,c0,c1,c2,c3,c4,c5,c6⟩:=Ha.out k m hm;have HS:=S7 (show xs.any xM=(xM m || (xs.drop (k+1)).any xM) by rw[hs.out,dm,List.any_cons]);clear hs hm dm hB c1 c2 c3 c4 c5 c6
   by_cases hn:m.n<0
   .have hn1:decide (m.n<0)=true:=by simpa using hn
    go_wp2
    go_ret
    exact⟨gW (by unfold gL;rw[HS.out,show xM m=true from hn1,Bool.true_or];simp),Below.refl _ _⟩
   .have hn1:decide (m.n<0)=false:=by simpa using hn
    go_wp2
    go_round
    case rel=>exact⟨k+1,l7,by go_num,(by show _=_;rw[HS.out,show xM m=false from hn1,Bool.false_or])⟩
    case measure=>simp[intOf];omega
  .have HS:=S7 (show xs.any xM=false by rw[hs.out,K3 l7];rfl);clear hs
   go_wp2_with fail
   refine(bIn A c xs _ Ha.out hx).mono ?_;rintro e w1 ⟨rfl,hb1⟩
   go_wp2
   go_ret
   exact⟨gW (by unfold gL;rw[HS.out];simp),hb1⟩
theorem flatE_deg(m:Mono):(((m.deg:Nat):Int)==0)=uI m:=by
 rw[Bool.eq_iff_iff,beq_iff_eq];simp only[uI,Mono.sameE,Bool.and_eq_true,beq_iff_eq,Mono.deg]
 have h: ∀e:UInt8,e=0↔e.toNat=0:=λe=>⟨λh=>by rw[h];rfl,λh=>UInt8.toNat_inj.1 (by rw[h];rfl)⟩
 rw[h,h,h,h,h,h];omega
set_option maxHeartbeats 1000000 in
theorem bWf(A:Option Addr)(c:Nat)(xs:List Mono)(n:Int)(w:World)(ha:mC w A xs)(hx:xs.length<=140737488355328):
  Calls prog 112 #[.slice A xs.length c,k6 n] w λe w'=>e= .returned (.bool (fO xs n))/\Below w.heap.size w w':=by
 have Ha:=S7 ha;clear ha;cases hg:gL xs
 .go_enter func112,ntmps112
  go_wp2_with fail
  refine(sB A c xs _ Ha.out hx).mono ?_;rintro e w1 ⟨rfl,hb1⟩
  go_wp2
  go_ret
  exact⟨gW (by unfold fO;rw[hg];rfl),hb1⟩
 .by_cases hn:n<=0
  .have hn1:decide (n<=0)=true:=by simpa using hn
   go_enter func112,ntmps112
   go_wp2_with fail
   refine(sB A c xs _ Ha.out hx).mono ?_;rintro e w1 ⟨rfl,hb1⟩
   go_wp2
   go_ret
   exact⟨gW aj9,hb1⟩
  .have hn1:decide (n<=0)=false:=by simpa using hn
   rcases S8 xs.length with h0|h0
   .have h01:decide (0<xs.length)=false:=by simp[h0]
    have H0:=S7 h0;clear h0
    go_enter func112,ntmps112
    go_wp2_with fail
    refine(sB A c xs _ Ha.out hx).mono ?_;rintro e w1 ⟨rfl,hb1⟩
    go_wp2
    go_ret
    have e:xs=[]:=List.eq_nil_of_length_eq_zero H0.out;subst e;exact⟨gW aj9,hb1⟩
   .have h01:decide (0<xs.length)=true:=by simpa using h0
    obtain⟨m,hm⟩: ∃m,xs[xs.length-1]?=some m:=⟨xs[xs.length-1]'l7,F1 _⟩
    have HL:=S7 (show xs.getLast?=some m by rw[List.getLast?_eq_getElem?];exact hm);have HM:=S7 hm;clear hm
    go_enter func112,ntmps112
    go_wp2_with fail
    refine(sB A c xs _ Ha.out hx).mono ?_;rintro e w1 ⟨rfl,hb1⟩;obtain⟨b,o,hA,hB,c0,c1,c2,c3,c4,c5,c6⟩:=Ha.out.below hb1 _ m HM.out;subst hA;have hi:((xs.length:Int)-1).toNat=xs.length-1:=l7
    have H1:=S7 hb1;clear hb1 hB
    go_wp2_with fail
    refine(bGd m _).mono ?_;rintro e w2 ⟨rfl,hb2⟩;have HF:=flatE_deg m;obtain⟨b2,o2,hA2,hB2,k0,_⟩:=Ha.out.below (H1.out.trans (hb2.mono H1.out.size)) _ m HM.out;injection hA2 with hA2
    injection hA2 with hA2 hA3
    subst hA2 hA3;have H2:=S7 (H1.out.trans (hb2.mono H1.out.size));clear hb2 hB2 HM c0 c1 c2 c3 c4 c5 c6;cases hf:uI m
    .rw[hf]at HF
     go_wp2
     go_ret
     exact⟨gW ah4,H2.out⟩
    .rw[hf]at HF
     go_wp2
     go_ret
     exact⟨gW ah4,H2.out⟩
end
section
open Go.RowKit Go.Sort Go.Proofs.Tryz
set_option maxRecDepth 100000
set_option maxHeartbeats 400000 in
theorem refConst_any(n:Int)(w:World):Calls prog 69 #[k6 n] w (bAy w (gU n)):=by
 have hbn:=tQ
 by_cases h0:n=0
 .have e:gU n=([],0):=by unfold gU;rw[if_pos h0]
  rw[e];subst h0
  go_enter func69,ntmps69
  go_wp2
  go_ret2
  exact⟨_,rfl,Below.refl _ _,Res.nil _ _ _ _⟩
 .have h01:(n==0)=false:=by simpa using h0
  by_cases h1:16777216<n
  .have e:gU n=([],21):=by unfold gU;rw[if_neg h0,if_pos (.inl h1)]
   rw[e];have h11:decide (16777216<n)=true:=by simpa using h1
   go_enter func69,ntmps69
   go_wp2
   go_ret2
   exact⟨_,rfl,Below.refl _ _,Res.nil _ _ _ _⟩
  .have h11:decide (16777216<n)=false:=by simpa using h1
   by_cases h2:n< -16777216
   .have e:gU n=([],21):=by unfold gU;rw[if_neg h0,if_pos (.inr h2)]
    rw[e];have h21:decide (n< -16777216)=true:=by simpa using h2
    go_enter func69,ntmps69
    go_wp2
    go_ret2
    exact⟨_,rfl,Below.refl _ _,Res.nil _ _ _ _⟩
   .have e:gU n=([bAp n],0):=by unfold gU;rw[if_neg h0,if_neg l7]
    rw[e];have h21:decide (n< -16777216)=false:=by simpa using h2
    go_enter func69,ntmps69
    go_wp2
    go_ret2
    exact⟨_,rfl,by go_grown,res_one w (bAp n)⟩
set_option maxHeartbeats 1000000 in
theorem refVar_any(k:Int)(w:World):Calls prog 106 #[k6 k] w (bAy w (oC k)):=by
 have hbn:=tQ
 by_cases h0:k<0
 .have e:oC k=([],23):=by unfold oC;rw[if_pos (.inl h0)]
  rw[e];have h01:decide (k<0)=true:=by simpa using h0
  go_enter func106,ntmps106
  go_wp2
  go_ret2
  exact⟨_,rfl,Below.refl _ _,Res.nil _ _ _ _⟩
 .by_cases h6:6<=k
  .have e:oC k=([],23):=by unfold oC;rw[if_pos (.inr h6)]
   rw[e];have h01:decide (k<0)=false:=by simpa using h0
   have h61:decide (6<=k)=true:=by simpa using h6
   go_enter func106,ntmps106
   go_wp2
   go_ret2
   exact⟨_,rfl,Below.refl _ _,Res.nil _ _ _ _⟩
  .have hk:k=0\/k=1\/k=2\/k=3\/k=4\/k=5:=l7
   clear h0 h6
   rcases hk with rfl|rfl|rfl|rfl|rfl|rfl
   .go_enter func106,ntmps106
    go_wp2
    go_ret2
    have hg:((w.alloc (.cells #[.int .i64 1,.int .u8 1,.int .u8 0,.int .u8 0,.int .u8 0,.int .u8 0,.int .u8 0] 43)).alloc (.cells #[.int .i64 1,.int .u8 1,.int .u8 0,.int .u8 0,.int .u8 0,.int .u8 0,.int .u8 0] 43)).heap[w.heap.size+1]?=some (.cells #[.int .i64 1,.int .u8 1,.int .u8 0,.int .u8 0,.int .u8 0,.int .u8 0,.int .u8 0] 43):=by rw[<-V5];exact heap_alloc_new _ _
    exact⟨_,rfl,by go_grown,uG (m:=⟨1,1,0,0,0,0,0⟩) hg l7⟩
   .go_enter func106,ntmps106
    go_wp2
    go_ret2
    have hg:((w.alloc (.cells #[.int .i64 1,.int .u8 0,.int .u8 1,.int .u8 0,.int .u8 0,.int .u8 0,.int .u8 0] 43)).alloc (.cells #[.int .i64 1,.int .u8 0,.int .u8 1,.int .u8 0,.int .u8 0,.int .u8 0,.int .u8 0] 43)).heap[w.heap.size+1]?=some (.cells #[.int .i64 1,.int .u8 0,.int .u8 1,.int .u8 0,.int .u8 0,.int .u8 0,.int .u8 0] 43):=by rw[<-V5];exact heap_alloc_new _ _
    exact⟨_,rfl,by go_grown,uG (m:=⟨1,0,1,0,0,0,0⟩) hg l7⟩
   .go_enter func106,ntmps106
    go_wp2
    go_ret2
    have hg:((w.alloc (.cells #[.int .i64 1,.int .u8 0,.int .u8 0,.int .u8 1,.int .u8 0,.int .u8 0,.int .u8 0] 43)).alloc (.cells #[.int .i64 1,.int .u8 0,.int .u8 0,.int .u8 1,.int .u8 0,.int .u8 0,.int .u8 0] 43)).heap[w.heap.size+1]?=some (.cells #[.int .i64 1,.int .u8 0,.int .u8 0,.int .u8 1,.int .u8 0,.int .u8 0,.int .u8 0] 43):=by rw[<-V5];exact heap_alloc_new _ _
    exact⟨_,rfl,by go_grown,uG (m:=⟨1,0,0,1,0,0,0⟩) hg l7⟩
   .go_enter func106,ntmps106
    go_wp2
    go_ret2
    have hg:((w.alloc (.cells #[.int .i64 1,.int .u8 0,.int .u8 0,.int .u8 0,.int .u8 1,.int .u8 0,.int .u8 0] 43)).alloc (.cells #[.int .i64 1,.int .u8 0,.int .u8 0,.int .u8 0,.int .u8 1,.int .u8 0,.int .u8 0] 43)).heap[w.heap.size+1]?=some (.cells #[.int .i64 1,.int .u8 0,.int .u8 0,.int .u8 0,.int .u8 1,.int .u8 0,.int .u8 0] 43):=by rw[<-V5];exact heap_alloc_new _ _
    exact⟨_,rfl,by go_grown,uG (m:=⟨1,0,0,0,1,0,0⟩) hg l7⟩
   .go_enter func106,ntmps106
    go_wp2
    go_ret2
    have hg:((w.alloc (.cells #[.int .i64 1,.int .u8 0,.int .u8 0,.int .u8 0,.int .u8 0,.int .u8 1,.int .u8 0] 43)).alloc (.cells #[.int .i64 1,.int .u8 0,.int .u8 0,.int .u8 0,.int .u8 0,.int .u8 1,.int .u8 0] 43)).heap[w.heap.size+1]?=some (.cells #[.int .i64 1,.int .u8 0,.int .u8 0,.int .u8 0,.int .u8 0,.int .u8 1,.int .u8 0] 43):=by rw[<-V5];exact heap_alloc_new _ _
    exact⟨_,rfl,by go_grown,uG (m:=⟨1,0,0,0,0,1,0⟩) hg l7⟩
   .go_enter func106,ntmps106
    go_wp2
    go_ret2
    have hg:((w.alloc (.cells #[.int .i64 1,.int .u8 0,.int .u8 0,.int .u8 0,.int .u8 0,.int .u8 0,.int .u8 1] 43)).alloc (.cells #[.int .i64 1,.int .u8 0,.int .u8 0,.int .u8 0,.int .u8 0,.int .u8 0,.int .u8 1] 43)).heap[w.heap.size+1]?=some (.cells #[.int .i64 1,.int .u8 0,.int .u8 0,.int .u8 0,.int .u8 0,.int .u8 0,.int .u8 1] 43):=by rw[<-V5];exact heap_alloc_new _ _
    exact⟨_,rfl,by go_grown,uG (m:=⟨1,0,0,0,0,0,1⟩) hg l7⟩
end
section
open Go.RowKit Go.Proofs.Tryz
section
variable {f : FuncId} {args : List Value} {r : List Mono × Int} {p q : PolV}
theorem bMs(hl:r.1.length<=140737488355328)(h:cY prog f args [] [fE.sl (j8 p) p.A,fE.sl (j8 q) q.A] (λx:Option Addr×Nat=> .tuple #[.slice x.1 r.1.length x.2,k6 r.2]) (λx=>[fE.row (.slice x.1 r.1.length x.2) 43 r.1]) (λ_=>[])):
  cY prog f args [] [kI p,kI q] (λx:Option Addr×Nat=> .tuple #[.slice x.1 r.1.length x.2,k6 r.2]) (λ_=>[]) (λx=>[kI ⟨x.1,x.2,r.1⟩]):=by
 have h1:cY prog f args [] [kI p,kI q] (λx:Option Addr×Nat=> .tuple #[.slice x.1 r.1.length x.2,.int .i64 r.2]) (λx=>[fE.row (.slice x.1 r.1.length x.2) 43 r.1]) (λ_=>[]):=
  λS w s k=>h S w s (All.cons (k _ (.head _)).1 (All.cons (k _ (.tail _ (.head _))).1 λg hg=>(by simp at hg)))
 refine spec_step h1 λx β=>?_;refine bR (E:=fE) .head ?_;exact at_fin .nil ⟨(Has.of (.head _)).and (i7 hl),i6⟩
theorem bNd(n:Int):cY prog 69 [k6 n] [] [] (λx:Option Addr×Nat=> .tuple #[.slice x.1 (gU n).1.length x.2,k6 (gU n).2]) (λ_=>[]) (λx=>[kI ⟨x.1,x.2,(gU n).1⟩]):=
 rE (B1 (iC (wM n)) m6) λ_ w _ _=>refConst_any n w
theorem refVar9(k:Int):cY prog 106 [k6 k] [] [] (λx:Option Addr×Nat=> .tuple #[.slice x.1 (oC k).1.length x.2,k6 (oC k).2]) (λ_=>[]) (λx=>[kI ⟨x.1,x.2,(oC k).1⟩]):=
 rE (B1 (iC (yL k)) m6) λ_ w _ _=>refVar_any k w
theorem bXz(hp:p.A.length<=140737488355328):cY prog 71 [j8 p] [] [kI p] (λ_:Unit=> .bool (gL p.A)) (λ_=>[]) (λ_=>[]):=
 jW λ_ w a h=>sB _ _ _ w (kO a (h _ (.head _))) hp
theorem bVi(n:Int)(hp:p.A.length<=140737488355328):cY prog 112 [j8 p,k6 n] [] [kI p] (λ_:Unit=> .bool (fO p.A n)) (λ_=>[]) (λ_=>[]):=
 jW λ_ w a h=>bWf _ _ _ n w (kO a (h _ (.head _))) hp
theorem refAdd9(hp:p.A.length<=140737488355328)(hq:q.A.length<=140737488355328):cY prog 110 [j8 p,j8 q] [] [kI p,kI q] (λx:Option Addr×Nat=> .tuple #[.slice x.1 (cD p.A q.A 1).1.length x.2,k6 (cD p.A q.A 1).2]) (λ_=>[]) (λx=>[kI ⟨x.1,x.2,(cD p.A q.A 1).1⟩]):=
 bMs (B1 (iC (oN _ _ _)) m6) (by have h:=refAdd_spec p.I q.I p.cap q.cap p.A q.A hp hq;rw[bFn]at h;exact h)
theorem refSub9(hp:p.A.length<=140737488355328)(hq:q.A.length<=140737488355328):cY prog 111 [j8 p,j8 q] [] [kI p,kI q] (λx:Option Addr×Nat=> .tuple #[.slice x.1 (cD p.A q.A (-1)).1.length x.2,k6 (cD p.A q.A (-1)).2]) (λ_=>[]) (λx=>[kI ⟨x.1,x.2,(cD p.A q.A (-1)).1⟩]):=
 bMs (B1 (iC (oN _ _ _)) m6) (by have h:=refSub_spec p.I q.I p.cap q.cap p.A q.A hp hq;rw[bFn]at h;exact h)
theorem refMul9(hp:p.A.length<=140737488355328)(hq:q.A.length<=140737488355328):cY prog 72 [j8 p,j8 q] [] [kI p,kI q] (λx:Option Addr×Nat=> .tuple #[.slice x.1 (mF p.A q.A).1.length x.2,k6 (mF p.A q.A).2]) (λ_=>[]) (λx=>[kI ⟨x.1,x.2,(mF p.A q.A).1⟩]):=
 bMs (B1 (iC (bEu _ _)) m6) (by have h:=refMul_spec p.I q.I p.cap q.cap p.A q.A hp hq;rw[refMul_mul]at h;exact h)
end
theorem turn_step{α:Type}{l vs:List α}{i:Nat}{p:α}(h:vs=l.reverse.take i)(hp:l[l.length-1-i]?=some p)(hi:i<l.length):vs++[p]=l.reverse.take (i+1):=by
 rw[h,R6]
 congr 1
 rw[List.getElem?_reverse hi,hp];rfl
theorem dec4(n:Nat):decide (((n:Nat):Int)<=((4:Nat):Int))=decide (n<=4):=by rw[decide_eq_decide];omega
def bUh (nums:List Int)(k:Bool)(vs:List PolV)(i:Nat):Prop:=vs.length=i/\(k=true->bJk nums vs i/\nums.length<=4)/\(k=false->gK nums=⟨if 1<nums.length then [bZ nums.length]else [],false,[]⟩)
theorem bUc(nums:List Int):bUh nums (decide (nums.length<=4)) [] 0:=⟨rfl,λh=>⟨bMr nums,of_decide_eq_true h⟩,λh=>by
 have h: ¬nums.length<=4:=of_decide_eq_false h
 exact bDw (n:=nums[0]'l7) (i:=0) (F1 l7) (.inr l7)⟩
section
variable {nums : List Int} {k : Bool} {vs : List PolV} {i : Nat} {n : Int} {p : PolV}
theorem vH(h:bUh nums k vs i)(hk:k=true)(hn:nums[i]?=some n)(hp:p.A=bZ n):bUh nums ((gU n).2==0) (vs++[p]) (i+1):=by
 obtain⟨h1,h2,_⟩:=h;obtain⟨h2,h4⟩:=h2 hk;refine⟨by simp[h1],λe=>?_,λe=>?_⟩
 .exact⟨bSx h2 hn hp (beq_iff_eq.1 e) h4,h4⟩
 .exact bDw hn (.inl λh=>by rw[h]at e;cases e)
theorem bJl(h:bUh nums false vs i):gK nums=⟨if 1<nums.length then [bZ nums.length]else [],false,[]⟩:=h.2.2 rfl
theorem bJu(h:bUh nums true vs i)(hi:nums.length<=i):gK nums=⟨if 1<nums.length then [bZ nums.length]else [],true,bN vs⟩:=by
 obtain⟨h1,h2,_⟩:=h;obtain⟨h2,h4⟩:=h2 rfl
 by_cases h0:i<=nums.length
 .exact lit_end h2 hi h0
 .have:(bN vs).length=i:=by rw[bI,h1]
  rw[h2.1]at this;simp at this;omega
end
theorem xW(b1:Bool):prog.built 38 [(1,.bool b1)]=some #[.slice none 0 0,.bool b1,.slice none 0 0]:=m0
theorem kT(n:Int):cY prog 68 [k6 n] [] [] (λ(x:Option Addr×Nat)=> .slice x.1 (bZ n).length x.2) (λ_=>[]) (λ(x:Option Addr×Nat)=>[kI ⟨x.1,x.2,bZ n⟩]):=by have hT:=dK;refine j5 func68 ntmps68 ?_;intro β hM;refine g8 ?_;refine j2 func69 (bNd (n)) i6 λ⟨A1,c2⟩=>?_;refine g14 ?_;exact rs1 (A1,c2) ⟨d7,i6⟩
theorem bIw(l:Sl PolV)(hl:l.A.length<=5864062014805):cY prog 73 [j8 l] [] [cM l] (λ(x:Option Addr×Nat)=> .slice x.1 l.A.reverse.length x.2) (λ_=>[]) (λ(x:Option Addr×Nat)=>[cM ⟨x.1,x.2,l.A.reverse⟩]):=by
 have hT:=dK;refine j5 func73 ntmps73 ?_;intro β hM;refine bP<|cE l mT0 λe=>?_;refine g15 ?_;refine bJ (z':=(l.A.length:Int)-1-((0:Nat):Int)) (vT l7 l7 l7) ?_;refine g4 ?_;refine bQ (t:=40) bT<|bB (polsF []) (Has.each_nil) ?_;refine cF (ι:=Nat×List PolV×Option Addr×Nat) [(0,_)] ⟨rfl,i6⟩ (λ⟨i,vs,V,cv⟩=>[(3,.slice V vs.length cv),(4,.int .i64 ((l.A.length:Int)-1-(i:Nat)))]) (λ⟨i,vs,V,cv⟩=>[bT.row (.slice V vs.length cv) 40 vs]) (λ⟨i,vs,V,cv⟩=>[Fact.pure (i<=l.A.length/\vs=l.A.reverse.take i),polsF vs]) (λ⟨i,vs,V,cv⟩=>l.A.length-i) (0,[],none,0) ⟨rfl,rfl,i6⟩ (.c0 .nil) ⟨i7 (⟨l7,rfl⟩),d7,i6⟩ ?_;rintro⟨i,vs,V,cv⟩;dsimp only;refine bF d7 λa=>?_;have f:vs.length=i:=by rw[a.2,K6,O8];omega
 refine g7 ?_;refine bLv (λd=>?_) λd=>?_
 .refine g8 ?_;obtain⟨x1,b⟩:=gx l.A (l.A.length-1-i);refine ss (cA hT (k:=(l.A.length-1-i)) (bG e7) rfl rfl rfl rfl rfl rfl l7 l7) ?_;refine ss (fG b 0) ?_;refine j7 (m:=x1) λh=>?_;refine bB (polsF (vs++[(x1:PolV)])) (Has.each_snoc d8 (Has.each e6 (j0 b))) ?_;refine cU kT1 (bU .head rfl) rfl rfl rfl rfl rfl rfl rfl q9 λg c5=>?_;refine g7 ?_;refine bJ (z':=(l.A.length:Int)-1-((i+1:Nat):Int)) (vT l7 l7 l7) ?_;refine g3 ?_;exact bk2 (i+1,vs++[(x1:PolV)],g,c5) ⟨i7 (⟨by dsimp only;omega,turn_step a.2 b l7⟩),d7,i6⟩
 refine g12 ?_;have he:vs=l.A.reverse:=by rw[a.2];exact F6 (by rw[O8];omega)
 subst he;refine fW .head λc=>bR .head ?_;exact rs1 (V,cv) ⟨cB d7 (bZi (pK e9)) c,i6⟩
theorem nums9_spec(A:Option Addr)(c:Nat)(nums:List Int)(hl:nums.length<=1000000):cY prog 42 [.slice A nums.length c] [] [bOt.sl (.slice A nums.length c) nums] (λ(x:TyV)=>tyC x) (λ_=>[]) (λ(x:TyV)=>[tyF x,Fact.pure (x.t=gK nums)]):=by
 have hT:=dK;refine j5 func42 ntmps42 ?_;intro β hM;refine g2 ?_;refine j1 sQ λP=>?_;refine g7 ?_;refine bC (t':=decide (nums.length<=4)) (dec4 _) ?_;refine ss (j3 (xW _)) ?_;refine j1 sQ λI=>?_;refine g11 ?_;refine dP (λn=>?_) λn=>?_
 .refine g3 ?_;refine j2 func68 (kT (((nums.length:Nat):Int))) i6 λ⟨A3,c4⟩=>?_;refine j7 (m:=⟨A3,c4,bZ (((nums.length:Nat):Int))⟩) λj=>?_;refine dO (E:=bT) (xs:=[(⟨A3,c4,bZ (((nums.length:Nat):Int))⟩:PolV)]) .head aa1<|bR .head<|bB (polsF [(⟨A3,c4,bZ (((nums.length:Nat):Int))⟩:PolV)]) (gP d8) ?_;refine g11 ?_;refine bQ (t:=40) bT<|bB (polsF []) (Has.each_nil) ?_;refine cF (ι:=Nat×Bool×List PolV×Option Addr×Nat) [(0,_),(2,_),(3,_)] ⟨rfl,rfl,rfl,i6⟩ (λ⟨i,k,vs,V,cv⟩=>[(4,.int .i64 (i:Nat))]) (λ⟨i,k,vs,V,cv⟩=>[.obj I (.cells [.slice (some ⟨j,0,none⟩) ([(⟨A3,c4,bZ (((nums.length:Nat):Int))⟩:PolV)].length) 1,.bool k,.slice V vs.length cv].toArray 38),bT.row (.slice V vs.length cv) 40 vs]) (λ⟨i,k,vs,V,cv⟩=>[Fact.pure (i<=nums.length/\bUh nums k vs i),polsF vs]) (λ⟨i,k,vs,V,cv⟩=>nums.length-i) (0,decide (nums.length<=4),[],none,0) ⟨rfl,i6⟩ (.c1 (.c0 .nil)) ⟨i7 (⟨l7,bUc nums⟩),d7,i6⟩ ?_;rintro⟨i,k,vs,V,cv⟩;dsimp only;refine bF d7 λa=>?_;have p:=a.2.1;refine g8 ?_;refine lR (λhg23=>?_) λhg23=>?_
  .refine g5 ?_;refine fX (λhc26=>?_) λhc26=>?_
   .refine g8 ?_;obtain⟨x6,l⟩:=gx nums i;refine ss (ixs i) ?_;refine ss (fG l 0) ?_;refine j2 func69 (bNd (x6)) i6 λ⟨A8,c9⟩=>?_;refine g15 ?_;refine kZ _ _ (.fl 0 (.fl 2 (.fl 3 (.fl 4 (.fl 5 (.two 1 6 (.op 6 (.op 7 (.op 8 (.fl 9 (.op 10 .nil))))) (.two 1 7 (.op 7 (.op 8 (.fl 9 (.op 10 .nil)))) (.op 1 (.op 8 (.fl 9 (.op 10 .nil))))))))))) cN o0 (.c2 .nil) bA.self ?_;refine g3 ?_;refine sqT rfl (ixs i) ?_;refine sqT rfl (fG l 0) ?_;refine gT (o:=_) (o':=_) rfl rfl ?_ ?_
    .refine g3 ?_;refine j2 func68 (kT (x6)) i6 λ⟨A10,c11⟩=>?_;refine g2 ?_;refine j7 (m:=⟨A10,c11,bZ (x6)⟩) λO=>?_;refine bB (polsF (vs++[(⟨A10,c11,bZ (x6)⟩:PolV)])) (Has.each_snoc e6 d7) ?_;refine g2 ?_;refine cU kT2 (bU .head rfl) rfl rfl rfl rfl rfl rfl rfl q9 λG w=>?_;refine g11 ?_;refine inc (i+1) ?_;refine g3 ?_;exact bk2 (i+1,_,vs++[(⟨A10,c11,bZ (x6)⟩:PolV)],G,w) ⟨i7 (⟨by dsimp only;omega,vH a.2 ‹_› l rfl⟩),d7,i6⟩
    refine j2 func68 (kT (x6)) i6 λ⟨A15,c16⟩=>?_;refine one ?_;refine gT (o:=_) (o':=_) rfl rfl ?_ ?_
    .refine g3 ?_;refine j7 (m:=⟨A15,c16,bZ (x6)⟩) λN=>?_;refine bB (polsF (vs++[(⟨A15,c16,bZ (x6)⟩:PolV)])) (Has.each_snoc e6 d7) ?_;refine g2 ?_;refine cU kT2 (bU .head rfl) rfl rfl rfl rfl rfl rfl rfl q9 λD v=>?_;refine g11 ?_;refine inc (i+1) ?_;refine g3 ?_;exact bk2 (i+1,_,vs++[(⟨A15,c16,bZ (x6)⟩:PolV)],D,v) ⟨i7 (⟨by dsimp only;omega,vH a.2 ‹_› l rfl⟩),d7,i6⟩
    refine j7 (m:=⟨A15,c16,bZ (x6)⟩) λM=>?_;refine bB (polsF (vs++[(⟨A15,c16,bZ (x6)⟩:PolV)])) (Has.each_snoc e6 d7) ?_;refine g5 ?_;refine cU kT2 (bU .head rfl) rfl rfl rfl rfl rfl rfl rfl q9 λC u=>?_;refine g11 ?_;refine inc (i+1) ?_;refine g3 ?_;exact bk2 (i+1,_,vs++[(⟨A15,c16,bZ (x6)⟩:PolV)],C,u) ⟨i7 (⟨by dsimp only;omega,vH a.2 ‹_› l rfl⟩),d7,i6⟩
   refine g7 ?_;refine fW kT1 λh=>bR kT1 ?_;refine g6 ?_;refine iQ (λd=>?_) λd=>?_
   .have g:k=false:=by assumption
    subst g;refine g12 ?_;have hr:gK nums=TyV.t ⟨⟨(some ⟨j,0,none⟩),1,[(⟨A3,c4,bZ (((nums.length:Nat):Int))⟩:PolV)]⟩,false,⟨none,0,[]⟩⟩:=(bJl a.2).trans v6;exact rs1 ⟨⟨(some ⟨j,0,none⟩),1,[(⟨A3,c4,bZ (((nums.length:Nat):Int))⟩:PolV)]⟩,false,⟨none,0,[]⟩⟩ ⟨(bS (x:=⟨⟨(some ⟨j,0,none⟩),1,[(⟨A3,c4,bZ (((nums.length:Nat):Int))⟩:PolV)]⟩,false,⟨none,0,[]⟩⟩) (cB e8 e7 (B0 1)) bO),i7 hr.symm,i6⟩
   have f:k=true:=by assumption
   subst f;refine g9 ?_;have hr:gK nums=TyV.t ⟨⟨(some ⟨j,0,none⟩),1,[(⟨A3,c4,bZ (((nums.length:Nat):Int))⟩:PolV)]⟩,true,⟨V,cv,vs⟩⟩:=(bJu a.2 ah2).trans v6;exact rs1 ⟨⟨(some ⟨j,0,none⟩),1,[(⟨A3,c4,bZ (((nums.length:Nat):Int))⟩:PolV)]⟩,true,⟨V,cv,vs⟩⟩ ⟨(bS (x:=⟨⟨(some ⟨j,0,none⟩),1,[(⟨A3,c4,bZ (((nums.length:Nat):Int))⟩:PolV)]⟩,true,⟨V,cv,vs⟩⟩) (cB e8 e7 (B0 1)) (cB d7 d9 (h))),i7 hr.symm,i6⟩
  refine g13 ?_;refine fW kT1 λh=>bR kT1 ?_;refine g6 ?_;refine iQ (λd=>?_) λd=>?_
  .have g:k=false:=by assumption
   subst g;refine g12 ?_;have hr:gK nums=TyV.t ⟨⟨(some ⟨j,0,none⟩),1,[(⟨A3,c4,bZ (((nums.length:Nat):Int))⟩:PolV)]⟩,false,⟨none,0,[]⟩⟩:=(bJl a.2).trans v6;exact rs1 ⟨⟨(some ⟨j,0,none⟩),1,[(⟨A3,c4,bZ (((nums.length:Nat):Int))⟩:PolV)]⟩,false,⟨none,0,[]⟩⟩ ⟨(bS (x:=⟨⟨(some ⟨j,0,none⟩),1,[(⟨A3,c4,bZ (((nums.length:Nat):Int))⟩:PolV)]⟩,false,⟨none,0,[]⟩⟩) (cB e8 e7 (B0 1)) bO),i7 hr.symm,i6⟩
  have f:k=true:=by assumption
  subst f;refine g9 ?_;have hr:gK nums=TyV.t ⟨⟨(some ⟨j,0,none⟩),1,[(⟨A3,c4,bZ (((nums.length:Nat):Int))⟩:PolV)]⟩,true,⟨V,cv,vs⟩⟩:=(bJu a.2 ah2).trans v6;exact rs1 ⟨⟨(some ⟨j,0,none⟩),1,[(⟨A3,c4,bZ (((nums.length:Nat):Int))⟩:PolV)]⟩,true,⟨V,cv,vs⟩⟩ ⟨(bS (x:=⟨⟨(some ⟨j,0,none⟩),1,[(⟨A3,c4,bZ (((nums.length:Nat):Int))⟩:PolV)]⟩,true,⟨V,cv,vs⟩⟩) (cB e8 e7 (B0 1)) (cB d7 d9 (h))),i7 hr.symm,i6⟩
 refine g9 ?_;refine bQ (t:=40) bT<|bB (polsF []) (Has.each_nil) ?_;refine cF (ι:=Nat×Bool×List PolV×Option Addr×Nat) [(0,_),(2,_),(3,_)] ⟨rfl,rfl,rfl,i6⟩ (λ⟨i,k,vs,V,cv⟩=>[(4,.int .i64 (i:Nat))]) (λ⟨i,k,vs,V,cv⟩=>[.obj I (.cells [.slice none (0) 0,.bool k,.slice V vs.length cv].toArray 38),bT.row (.slice V vs.length cv) 40 vs]) (λ⟨i,k,vs,V,cv⟩=>[Fact.pure (i<=nums.length/\bUh nums k vs i),polsF vs]) (λ⟨i,k,vs,V,cv⟩=>nums.length-i) (0,decide (nums.length<=4),[],none,0) ⟨rfl,i6⟩ (.c1 (.c0 .nil)) ⟨i7 (⟨l7,bUc nums⟩),d7,i6⟩ ?_;rintro⟨i,k,vs,V,cv⟩;dsimp only;refine bF d7 λa=>?_;have p:=a.2.1;refine g8 ?_;refine lR (λhg23=>?_) λhg23=>?_
 .refine g5 ?_;refine fX (λhc26=>?_) λhc26=>?_
  .refine g8 ?_;obtain⟨b,e⟩:=gx nums i;refine ss (ixs i) ?_;refine ss (fG e 0) ?_;refine j2 func69 (bNd (b)) i6 λ⟨A25,c26⟩=>?_;refine g15 ?_;refine kZ _ _ (.fl 0 (.fl 2 (.fl 3 (.fl 4 (.fl 5 (.two 1 6 (.op 6 (.op 7 (.op 8 (.fl 9 (.op 10 .nil))))) (.two 1 7 (.op 7 (.op 8 (.fl 9 (.op 10 .nil)))) (.op 1 (.op 8 (.fl 9 (.op 10 .nil))))))))))) cN o0 (.c2 .nil) bA.self ?_;refine g3 ?_;refine sqT rfl (ixs i) ?_;refine sqT rfl (fG e 0) ?_;refine gT (o:=_) (o':=_) rfl rfl ?_ ?_
   .refine g3 ?_;refine j2 func68 (kT (b)) i6 λ⟨A27,c28⟩=>?_;refine g2 ?_;refine j7 (m:=⟨A27,c28,bZ (b)⟩) λL=>?_;refine bB (polsF (vs++[(⟨A27,c28,bZ (b)⟩:PolV)])) (Has.each_snoc e6 d7) ?_;refine g2 ?_;refine cU kT2 (bU .head rfl) rfl rfl rfl rfl rfl rfl rfl q9 λB s=>?_;refine g11 ?_;refine inc (i+1) ?_;refine g3 ?_;exact bk2 (i+1,_,vs++[(⟨A27,c28,bZ (b)⟩:PolV)],B,s) ⟨i7 (⟨by dsimp only;omega,vH a.2 ‹_› e rfl⟩),d7,i6⟩
   refine j2 func68 (kT (b)) i6 λ⟨A32,c33⟩=>?_;refine one ?_;refine gT (o:=_) (o':=_) rfl rfl ?_ ?_
   .refine g3 ?_;refine j7 (m:=⟨A32,c33,bZ (b)⟩) λK=>?_;refine bB (polsF (vs++[(⟨A32,c33,bZ (b)⟩:PolV)])) (Has.each_snoc e6 d7) ?_;refine g2 ?_;refine cU kT2 (bU .head rfl) rfl rfl rfl rfl rfl rfl rfl q9 λz r=>?_;refine g11 ?_;refine inc (i+1) ?_;refine g3 ?_;exact bk2 (i+1,_,vs++[(⟨A32,c33,bZ (b)⟩:PolV)],z,r) ⟨i7 (⟨by dsimp only;omega,vH a.2 ‹_› e rfl⟩),d7,i6⟩
   refine j7 (m:=⟨A32,c33,bZ (b)⟩) λJ=>?_;refine bB (polsF (vs++[(⟨A32,c33,bZ (b)⟩:PolV)])) (Has.each_snoc e6 d7) ?_;refine g5 ?_;refine cU kT2 (bU .head rfl) rfl rfl rfl rfl rfl rfl rfl q9 λy q=>?_;refine g11 ?_;refine inc (i+1) ?_;refine g3 ?_;exact bk2 (i+1,_,vs++[(⟨A32,c33,bZ (b)⟩:PolV)],y,q) ⟨i7 (⟨by dsimp only;omega,vH a.2 ‹_› e rfl⟩),d7,i6⟩
  refine g7 ?_;refine fW kT1 λh=>bR kT1 ?_;refine g6 ?_;refine iQ (λd=>?_) λd=>?_
  .have g:k=false:=by assumption
   subst g;refine g12 ?_;have hr:gK nums=TyV.t ⟨⟨none,0,[]⟩,false,⟨none,0,[]⟩⟩:=(bJl a.2).trans v6;exact rs1 ⟨⟨none,0,[]⟩,false,⟨none,0,[]⟩⟩ ⟨(bS (x:=⟨⟨none,0,[]⟩,false,⟨none,0,[]⟩⟩) bO bO),i7 hr.symm,i6⟩
  have f:k=true:=by assumption
  subst f;refine g9 ?_;have hr:gK nums=TyV.t ⟨⟨none,0,[]⟩,true,⟨V,cv,vs⟩⟩:=(bJu a.2 ah2).trans v6;exact rs1 ⟨⟨none,0,[]⟩,true,⟨V,cv,vs⟩⟩ ⟨(bS (x:=⟨⟨none,0,[]⟩,true,⟨V,cv,vs⟩⟩) bO (cB d7 d9 (h))),i7 hr.symm,i6⟩
 refine g13 ?_;refine fW kT1 λh=>bR kT1 ?_;refine g6 ?_;refine iQ (λd=>?_) λd=>?_
 .have g:k=false:=by assumption
  subst g;refine g12 ?_;have hr:gK nums=TyV.t ⟨⟨none,0,[]⟩,false,⟨none,0,[]⟩⟩:=(bJl a.2).trans v6;exact rs1 ⟨⟨none,0,[]⟩,false,⟨none,0,[]⟩⟩ ⟨(bS (x:=⟨⟨none,0,[]⟩,false,⟨none,0,[]⟩⟩) bO bO),i7 hr.symm,i6⟩
 have f:k=true:=by assumption
 subst f;refine g9 ?_;have hr:gK nums=TyV.t ⟨⟨none,0,[]⟩,true,⟨V,cv,vs⟩⟩:=(bJu a.2 ah2).trans v6;exact rs1 ⟨⟨none,0,[]⟩,true,⟨V,cv,vs⟩⟩ ⟨(bS (x:=⟨⟨none,0,[]⟩,true,⟨V,cv,vs⟩⟩) bO (cB d7 d9 (h))),i7 hr.symm,i6⟩
section
variable {P : Program} {β : fS} {n : Nat} {Γ : Env} {H : List bK} {F : List Fact} {Q : Exit -> Act -> World -> Prop} {ι : Type}
def Jx (β:fS)(n:Nat)(G:ι->Env)(HH:ι->List bK)(FF:ι->List Fact)(Q:Exit->Act->World->Prop)(e:Exit)(a:Act)(w:World):Prop:=
 match e with
 |.normal=> ∃x S,Fits n (G x) a/\St β (HH x) S w/\All (FF x) S w
 |e=>Q e a w
theorem xB{c:Code}(Δ:Env)(_hΔ:Γ.Sub Δ)(G:ι->Env)(HH:ι->List bK){H0 Hr:List bK}(_hH:pR H H0 Hr)(FF:ι->List Fact)
  (h1:At β n Γ H F (c.wp P (Jx β n (λx=>G x++Δ) (λx=>HH x++Hr) (λx=>FF x++F) Q))) (h2: ∀x,At β n (G x++Δ) (HH x++Hr) (FF x++F) (Q .normal)):At β n Γ H F (c.wp P Q):=λa w S f s k=>
 Code.wp_mono (λe i b q=>by
  cases e with
  |normal=>obtain⟨x,j,h,d,g⟩:=q;exact h2 x i b j h d g
  |_=>exact q) (h1 a w S f s k)
theorem jB{Δ:Env}{G:ι->Env}{HH:ι->List bK}{Hr:List bK}{FF:ι->List Fact}{F0:List Fact}(x:ι)(hG:Γ.Sub (G x))(hΔ:Γ.Sub Δ)(hH:Sel H (HH x++Hr))(hF:bA F (FF x))(hF0:bA F F0):
  At β n Γ H F (Jx β n (λx=>G x++Δ) (λx=>HH x++Hr) (λx=>FF x++F0) Q .normal):=λ_ w S f s k=>⟨x,S,f.sub (hG.append hΔ),s.sel hH,(hF.append hF0).all S w k⟩
theorem r_join{G:ι->Env}{HH:ι->List bK}{FF:ι->List Fact}(h:At β n Γ H F (Q .ret)):At β n Γ H F (Jx β n G HH FF Q .ret):=h
end
structure EnvV where
 P:ProgV
 V:Sl Bs
 L:Sl TyV
def envO (eb:Nat)(e:EnvV):bK:= .obj eb (.cells [.slice e.P.C.I e.P.C.A.length e.P.C.cap,.slice e.P.G.I e.P.G.A.length e.P.G.cap,.slice e.V.I e.V.A.length e.V.cap,.slice e.L.I e.L.A.length e.L.cap].toArray 72)
def bBf (vars:List Bs)(s:Bs):Pol:=if 0<=idxOf s vars 0 then (oC (idxOf s vars 0)).1 else []
def VrAt (s:Bs)(vars:List Bs)(i:Nat):Prop:=idxOf s vars 0=idxOf s (vars.drop i) (i:Nat)
section
variable {s b : Bs} {vars : List Bs} {i : Nat}
theorem vr_step(h:VrAt s vars i)(hb:vars[i]?=some b)(hne:b≠s):VrAt s vars (i+1):=by obtain⟨hi,a⟩:=F3.1 hb;unfold VrAt at*;rw[h,K2 hi,a,idxOf,if_neg hne];rfl
theorem vr_hit(h:VrAt s vars i)(hb:vars[i]?=some b)(he:b=s):idxOf s vars 0=((i:Nat):Int):=by obtain⟨hi,a⟩:=F3.1 hb;unfold VrAt at*;rw[h,K2 hi,a,idxOf,if_pos he]
theorem vr_none(h:VrAt s vars i)(hi:vars.length<=i):idxOf s vars 0= -1:=by unfold VrAt at*;rw[h,K3 hi];rfl
theorem varN_hit(h:idxOf s vars 0=((i:Nat):Int)):bBf vars s=(oC ((i:Nat):Int)).1:=by unfold bBf;rw[h];exact if_pos l7
theorem varN_no(h:idxOf s vars 0= -1):bBf vars s=[]:=by unfold bBf;rw[h];rfl
theorem vr_yes(h:idxOf s vars 0=((i:Nat):Int)):decide (0<=idxOf s vars 0)=true:=by rw[h];exact decide_eq_true l7
theorem vr_not(h:idxOf s vars 0= -1):decide (0<=idxOf s vars 0)=false:=by rw[h];rfl
end
theorem min9(a b:Nat):(if (b:Int)<(a:Int)then (b:Int)else (a:Int))=((min a b:Nat):Int):=by split<;>omega
def EachJ (f:Int)(ka kb t:Bool):Prop:=(t=true->(ka=false\/kb=false)\/rS f=none)/\(t=false->ka=true/\kb=true/\(f=1\/f=2\/f=3))
section
variable {f : Int} {ka kb : Bool}
theorem bJg(h:ka=false):EachJ f ka kb true:=⟨λ_=> .inl (.inl h),λh=>(by cases h)⟩
theorem bJi(h:kb=false):EachJ f ka kb true:=⟨λ_=> .inl (.inr h),λh=>(by cases h)⟩
theorem bJm(h:ka=true)(k:kb=true)(hf:f=1\/f=2):EachJ f ka kb false:=⟨λh=>(by cases h),λ_=>⟨h,k,l7⟩⟩
theorem bIm(h:ka=true)(k:kb=true)(h1:f≠1)(h2:f≠2):EachJ f ka kb (f !=3):=by refine⟨λe=> .inr (bPh h1 h2 (bne_iff_ne.1 e)),λe=>⟨h,k,.inr (.inr (bne_eq_false_iff_eq.1 e))⟩⟩
end
theorem op9{f:Int}(hf:f=1\/f=2\/f=3): ∃op,rS f=some op/\ ∀p q:Pol,(if f=3 then mF p q else if f=2 then cD p q (-1)else cD p q 1)=op p q:=by
 rcases hf with rfl|rfl|rfl
 .exact⟨addO,rfl,λp q=>rfl⟩
 .exact⟨zJ,rfl,λp q=>rfl⟩
 .exact⟨mF,rfl,λp q=>rfl⟩
section
variable {f : Int} {op : pQ} {a b : TyP} {X : List Pol}
theorem each_unk9(h:(a.known=false\/b.known=false)\/rS f=none):lK (rS f) a b=([],false):=by
 rcases h with h|h
 .cases rS f with
  |none=>rfl
  |some op=>exact bEh h
 .rw[h];rfl
theorem each_bad9(ho:rS f=some op)(h:xH op (tR a b) (qV a b)=none)(ha:a.known=true)(hb:b.known=true):lK (rS f) a b=([],false):=by rw[ho];exact sT h ha hb
theorem each_end9(ho:rS f=some op)(h:xH op (tR a b) (qV a b)=some X)(ha:a.known=true)(hb:b.known=true):lK (rS f) a b=(X,true):=by rw[ho];exact sU h ha hb
end
theorem bUi{a b:TyV}{n:Nat}(hab:bBw a.t b.t)(ha:a.known=true)(hb:b.known=true)(hn:n=max a.values.A.length b.values.A.length)(hs:(a.B.A.length=0/\b.B.A.length=0)\/(0<a.B.A.length/\0<b.B.A.length)):
  ∃xs ys:List PolV,tR a.t b.t=bN xs/\qV a.t b.t=bN ys/\xs.length=n/\ys.length=n/\n<=1000000/\ ∀i,i<n->0<a.values.A.length/\0<b.values.A.length/\a.values.A[min i (a.values.A.length-1)]?=xs[i]?/\b.values.A[min i (b.values.A.length-1)]?=ys[i]?:=by
 have c:a.values.A.length<=1000000:=by have:=hab.la;unfold TyV.t at this;rwa[bI]at this
 have he:=bLf hab ha hb hs;have hr:=bSg (a:=a) (b:=b) hs;exact⟨a.values.A,b.values.A,hr.1,hr.2,l7,l7,l7,λi hi=>⟨l7,l7,by rw[L3 l7],by rw[L3 l7]⟩⟩
theorem each9_lists{a b:TyV}{n:Nat}(hab:bBw a.t b.t)(ha:a.known=true)(hb:b.known=true)(hn:(a.B.A.length=0/\0<b.B.A.length->n=b.values.A.length)/\(b.B.A.length=0/\0<a.B.A.length->n=a.values.A.length)/\((a.B.A.length=0/\b.B.A.length=0)\/(0<a.B.A.length/\0<b.B.A.length)->n=max a.values.A.length b.values.A.length)):
  ∃xs ys:List PolV,tR a.t b.t=bN xs/\qV a.t b.t=bN ys/\xs.length=n/\ys.length=n/\n<=1000000/\ ∀i,i<n->0<a.values.A.length/\0<b.values.A.length/\a.values.A[min i (a.values.A.length-1)]?=xs[i]?/\b.values.A[min i (b.values.A.length-1)]?=ys[i]?:=by
 have h:a.values.A.length<=1000000:=by have:=hab.la;unfold TyV.t at this;rwa[bI]at this
 have g:b.values.A.length<=1000000:=by have:=hab.lb;unfold TyV.t at this;rwa[bI]at this
 rcases S8 a.B.A.length with d|d<;>rcases S8 b.B.A.length with c|c
 .exact bUi hab ha hb (hn.2.2 (.inl ⟨d,c⟩)) (.inl ⟨d,c⟩)
 .have h1:=hab.one ha hb (dY d);obtain⟨p,e⟩:=bIi h1;have hr:=left_rep (b:=b) e d c;have hn:=hn.1 ⟨d,c⟩;have f:a.values.A.length=1:=by rw[e];rfl
  refine⟨_,_,hr.1,hr.2,by rw[X1];omega,hn.symm,l7,λi hi=>⟨l7,l7,?_,by rw[L3 l7]⟩⟩;rw[f,e,aL l7,aG,if_pos l7];rfl
 .have h1:=hab.two ha hb (dY c);obtain⟨p,e⟩:=bIi h1;have hr:=bXw (a:=a) e c d;have hn:=hn.2.1 ⟨c,d⟩;have f:b.values.A.length=1:=by rw[e];rfl
  refine⟨_,_,hr.1,hr.2,hn.symm,by rw[X1];omega,l7,λi hi=>⟨l7,l7,by rw[L3 l7],?_⟩⟩;rw[f,e,aL l7,aG,if_pos l7];rfl
 .exact bUi hab ha hb (hn.2.2 (.inr ⟨d,c⟩)) (.inr ⟨d,c⟩)
theorem bZr(eb:Nat)(e:EnvV)(s:Bs)(hv:e.V.A.length<=140737488355328):cY prog 70 [.pointer (some ⟨eb,0,none⟩),.string (bs s)] [envO eb e] [lZ.sl (j8 e.V) e.V.A] (λ(x:Option Addr×Nat)=> .tuple #[.slice x.1 (bBf e.V.A s).length x.2,.bool (decide (0<=idxOf s e.V.A 0))]) (λ_=>[envO eb e]) (λ(x:Option Addr×Nat)=>[kI ⟨x.1,x.2,bBf e.V.A s⟩]):=by
 have hT:=dK;generalize d:bBf e.V.A s=r;generalize hB:decide (0<=idxOf s e.V.A 0)=t;refine j5 func70 ntmps70 ?_;intro β hM;refine g13 ?_;refine cF (ι:=Nat) [(0,_),(1,_)] ⟨rfl,rfl,i6⟩ (λi=>[(6,.int .i64 (i:Nat))]) (λ_=>[]) (λi=>[Fact.pure (i<=e.V.A.length/\VrAt s e.V.A i)]) (λi=>e.V.A.length-i) 0 ⟨rfl,i6⟩ .nil ⟨i7 (⟨l7,rfl⟩),i6⟩ ?_;rintro i;refine bF d7 λa=>?_;refine g12 ?_;refine dP (λhc15=>?_) λhc15=>?_
 .refine g11 ?_;obtain⟨x1,b⟩:=gx e.V.A i;refine ss (ixs i) ?_;refine ss (fG b 0) ?_;refine g4 ?_;refine fX (λhc26=>?_) λhc26=>?_
  .have hc26:x1=s:=eq_of_beq hc26;refine g3 ?_;refine j2 func106 (refVar9 (((i:Nat):Int))) i6 λ⟨A3,c4⟩=>?_;refine g20 ?_;have hi:=vr_hit a.2 b ‹_›;obtain rfl:=d.symm.trans (varN_hit hi);have c:=hB.symm.trans (vr_yes hi);subst c;exact rs2 (A3,c4) ⟨d7,i6⟩
  have hc26:x1≠s:=λh=>absurd (beq_iff_eq.2 h) (by rw[show(x1==s)=false from hc26];simp);refine g6 ?_;refine inc (i+1) ?_;refine g3 ?_;exact bk2 (i+1) ⟨i7 (⟨l7,vr_step a.2 b ‹_›⟩),i6⟩
 refine g12 ?_;have hi:=vr_none a.2 l7;obtain rfl:=d.symm.trans (varN_no hi);have c:=hB.symm.trans (vr_not hi);subst c;exact rs2 (none,0) ⟨bKo,i6⟩
theorem bHf(f:Int)(a b:TyV)(hab:bBw a.t b.t):cY prog 74 [k7 f,.agg #[j8 a.B,.bool a.known,j8 a.values],.agg #[j8 b.B,.bool b.known,j8 b.values]] [] [tyF a,tyF b] (λ(x:EachV)=> .tuple #[j8 x.l,.bool x.k]) (λ_=>[]) (λ(x:EachV)=>[cM x.l,Fact.pure ((bN x.l.A,x.k)=lK (rS f) a.t b.t)]):=by
 have hT:=dK;have hla:a.values.A.length<=1000000:=by have:=hab.la;unfold TyV.t at this;rwa[bI]at this
 have hlb:b.values.A.length<=1000000:=by have:=hab.lb;unfold TyV.t at this;rwa[bI]at this
 refine j5 func74 ntmps74 ?_;intro β hM;refine bP<|bB (cM a.B) (jR d7) ?_;refine cE a.B mT0 λhc_as=>bB (cM a.values) (jS e6)<|cE a.values mT0 λhc_av=>bB (cM b.B) (jR f3)<|cE b.B mT0 λhc_bs=>bB (cM b.values) (jS f7)<|cE b.values mT0 λhc_bv=>?_;refine one ?_;refine j4 λb1=>?_;refine j4 λb2=>?_;refine g6 ?_;refine xB (ι:=Bool) [(0,_),(4,_),(5,_)] ⟨rfl,rfl,rfl,i6⟩ (λt=>[(34,.bool t)]) (λt=>[]) .nil (λt=>[Fact.pure (EachJ f a.known b.known t)]) ?_ ?_
 .refine g5 ?_;refine bTi (λO=>?_) λO=>?_
  .refine g17 ?_;exact jB true ⟨rfl,i6⟩ ⟨rfl,rfl,rfl,i6⟩ (.c0 (.c0 .nil)) ⟨i7 aa5,i6⟩ (bA.drop 0)
  refine g5 ?_;refine bTi (λhg23=>?_) λhg23=>?_
  .refine g12 ?_;exact jB true ⟨rfl,i6⟩ ⟨rfl,rfl,rfl,i6⟩ (.c0 (.c0 .nil)) ⟨i7 aa5,i6⟩ (bA.drop 0)
  refine g3 ?_;refine yQ (λN=>?_) λN=>?_
  .refine g4 ?_;refine yQ (λM=>?_) λM=>?_
   .refine g5 ?_;exact jB (f !=3) ⟨rfl,i6⟩ ⟨rfl,rfl,rfl,i6⟩ (.c0 (.c0 .nil)) ⟨i7 aa5,i6⟩ (bA.drop 0)
   refine g5 ?_;exact jB false ⟨rfl,i6⟩ ⟨rfl,rfl,rfl,i6⟩ (.c0 (.c0 .nil)) ⟨i7 aa5,i6⟩ (bA.drop 0)
  refine g9 ?_;exact jB false ⟨rfl,i6⟩ ⟨rfl,rfl,rfl,i6⟩ (.c0 (.c0 .nil)) ⟨i7 aa5,i6⟩ (bA.drop 0)
 rintro t;refine bF d7 λhjn=>?_;refine dB<|fX (λhc34=>?_) λhc34=>?_
 .refine g8 ?_;exact rs2 (⟨⟨none,0,[]⟩,false⟩:EachV) ⟨bO,i7 ((each_unk9 (hjn.1 ‹_›)).symm),i6⟩
 refine g3 ?_;obtain⟨w,v,hf⟩:=hjn.2 ‹_›;obtain⟨op,J,I⟩:=op9 hf;refine g8 ?_;refine bJ (z':=(((max a.values.A.length b.values.A.length):Nat):Int)) (maxN _ _) ?_;refine g4 ?_;refine xB (ι:=Nat) [(0,_),(4,_),(5,_)] ⟨rfl,rfl,rfl,i6⟩ (λg=>[(8,.int .i64 (g:Nat))]) (λg=>[]) .nil (λg=>[Fact.pure ((a.B.A.length=0/\0<b.B.A.length->g=b.values.A.length)/\(¬(a.B.A.length=0/\0<b.B.A.length)->g=max a.values.A.length b.values.A.length))]) ?_ ?_
 .refine g7 ?_;refine sD (λL=>?_) λL=>?_
  .refine g7 ?_;refine dP (λW=>?_) λW=>?_
   .refine g6 ?_;exact jB b.values.A.length ⟨rfl,i6⟩ ⟨rfl,rfl,rfl,i6⟩ (.c0 (.c0 .nil)) ⟨i7 (by refine⟨λh=>?_,λh=>?_⟩<;>omega),i6⟩ (bA.drop 0)
   refine one ?_;exact jB (max a.values.A.length b.values.A.length) ⟨rfl,i6⟩ ⟨rfl,rfl,rfl,i6⟩ (.c0 (.c0 .nil)) ⟨i7 (by refine⟨λh=>?_,λh=>?_⟩<;>omega),i6⟩ (bA.drop 0)
  refine g9 ?_;exact jB (max a.values.A.length b.values.A.length) ⟨rfl,i6⟩ ⟨rfl,rfl,rfl,i6⟩ (.c0 (.c0 .nil)) ⟨i7 (by refine⟨λh=>?_,λh=>?_⟩<;>omega),i6⟩ (bA.drop 0)
 rintro g;refine bF d7 λhjn=>?_;refine g2 ?_;refine xB (ι:=Nat) [(0,_),(4,_),(5,_)] ⟨rfl,rfl,rfl,i6⟩ (λn=>[(8,.int .i64 (n:Nat))]) (λn=>[]) .nil (λn=>[Fact.pure ((a.B.A.length=0/\0<b.B.A.length->n=b.values.A.length)/\(b.B.A.length=0/\0<a.B.A.length->n=a.values.A.length)/\((a.B.A.length=0/\b.B.A.length=0)\/(0<a.B.A.length/\0<b.B.A.length)->n=max a.values.A.length b.values.A.length))]) ?_ ?_
 .refine g7 ?_;refine sD (λK=>?_) λK=>?_
  .refine g7 ?_;refine dP (λU=>?_) λU=>?_
   .refine g6 ?_;exact jB a.values.A.length ⟨rfl,i6⟩ ⟨rfl,rfl,rfl,i6⟩ (.c0 (.c0 .nil)) ⟨i7 (by refine⟨λh=>?_,λh=>?_,λh=>?_⟩<;>omega),i6⟩ (bA.drop 0)
   refine one ?_;exact jB g ⟨rfl,i6⟩ ⟨rfl,rfl,rfl,i6⟩ (.c0 (.c0 .nil)) ⟨i7 (by refine⟨λh=>?_,λh=>?_,λh=>?_⟩<;>omega),i6⟩ (bA.drop 0)
  refine g9 ?_;exact jB g ⟨rfl,i6⟩ ⟨rfl,rfl,rfl,i6⟩ (.c0 (.c0 .nil)) ⟨i7 (by refine⟨λh=>?_,λh=>?_,λh=>?_⟩<;>omega),i6⟩ (bA.drop 0)
 rintro n;refine bF d7 λhjn=>?_;refine g2 ?_;obtain⟨xs,ys,C,B,hxn,hyn,hnn,hel⟩:=each9_lists hab w v hjn;refine g11 ?_;refine bQ (t:=40) bT<|bB (polsF []) (Has.each_nil) ?_;refine cF (ι:=Nat×List PolV×Option Addr×Nat) [(0,_),(4,_),(5,_),(8,_)] ⟨rfl,rfl,rfl,rfl,i6⟩ (λ⟨i,vs,V,cv⟩=>[(9,.slice V vs.length cv),(10,.int .i64 (i:Nat))]) (λ⟨i,vs,V,cv⟩=>[bT.row (.slice V vs.length cv) 40 vs]) (λ⟨i,vs,V,cv⟩=>[Fact.pure (i<=n/\xV op (bN xs) (bN ys) (bN vs) i),polsF vs]) (λ⟨i,vs,V,cv⟩=>n-i) (0,[],none,0) ⟨rfl,rfl,i6⟩ (.c0 .nil) ⟨i7 (⟨l7,vS op _ _⟩),d7,i6⟩ ?_;rintro⟨i,vs,V,cv⟩;dsimp only;refine bF d7 λhinv10=>?_;have X:=hinv10.2.1;rw[bI]at X;refine g8 ?_;refine dP (λR=>?_) λR=>?_
 .refine g5 ?_;obtain⟨hpa,hpb,Q,P⟩:=hel i l7;refine g8 ?_;refine inc (a.values.A.length-1) ?_;refine one ?_;refine bJ (z':=(((min i (a.values.A.length-1)):Nat):Int)) (min9 _ _) ?_;obtain⟨x3,d⟩:=gx a.values.A (min i (a.values.A.length-1));refine ss (ixs (min i (a.values.A.length-1))) ?_;refine ss (fG d 0) ?_;refine g12 ?_;refine inc (b.values.A.length-1) ?_;refine one ?_;refine bJ (z':=(((min i (b.values.A.length-1)):Nat):Int)) (min9 _ _) ?_;obtain⟨e,c⟩:=gx b.values.A (min i (b.values.A.length-1));refine ss (ixs (min i (b.values.A.length-1))) ?_;refine ss (fG c 0) ?_;refine g7 ?_;refine bF (dC (Has.each f9 (j0 d))) λG=>bF (dC (Has.each e9 (j0 c))) λr=>?_;refine j2 func110 (refAdd9 (p:=x3) (q:=e) G r) ⟨(Has.each f9 (j0 d)),(Has.each e9 (j0 c)),i6⟩ λ⟨A7,c8⟩=>?_;refine g14 ?_;refine xB (ι:=PolV×Int) [(0,_),(4,_),(5,_),(8,_),(9,_),(10,_),(11,_),(12,_)] ⟨rfl,rfl,rfl,rfl,rfl,rfl,rfl,rfl,i6⟩ (λ⟨r1,e1⟩=>[(13,.slice r1.I r1.A.length r1.cap),(14,.int .i64 e1)]) (λ⟨r1,e1⟩=>[]) .nil (λ⟨r1,e1⟩=>[Fact.pure ((r1.A,e1)=if f=2 then cD x3.A e.A (-1)else cD x3.A e.A 1),kI r1]) ?_ ?_
  .refine gN (λA=>?_) λA=>?_
   .refine g3 ?_;refine bF (dC (Has.each g0 (j0 d))) λu=>bF (dC (Has.each f3 (j0 c))) λo=>?_;refine j2 func111 (refSub9 (p:=x3) (q:=e) u o) ⟨(Has.each g0 (j0 d)),(Has.each f3 (j0 c)),i6⟩ λ⟨A11,c12⟩=>?_;refine g6 ?_;exact jB ((⟨A11,c12,(cD x3.A e.A (-1)).1⟩:PolV),(cD x3.A e.A (-1)).2) ⟨rfl,rfl,i6⟩ ⟨rfl,rfl,rfl,rfl,rfl,rfl,rfl,rfl,i6⟩ (.c0 (.c0 (.c0 .nil))) ⟨i7 ak0,d7,i6⟩ (bA.drop 1)
   refine one ?_;exact jB ((⟨A7,c8,(cD x3.A e.A 1).1⟩:PolV),(cD x3.A e.A 1).2) ⟨rfl,rfl,i6⟩ ⟨rfl,rfl,rfl,rfl,rfl,rfl,rfl,rfl,i6⟩ (.c0 (.c0 (.c0 .nil))) ⟨i7 ak0,d7,i6⟩ (bA.drop 0)
  rintro⟨r1,e1⟩;dsimp only;refine bF d7 λhjn=>?_;refine g8 ?_;refine xB (ι:=PolV×Int) [(0,_),(4,_),(5,_),(8,_),(9,_),(10,_),(11,_),(12,_)] ⟨rfl,rfl,rfl,rfl,rfl,rfl,rfl,rfl,i6⟩ (λ⟨r2,e2⟩=>[(13,.slice r2.I r2.A.length r2.cap),(14,.int .i64 e2)]) (λ⟨r2,e2⟩=>[]) .nil (λ⟨r2,e2⟩=>[Fact.pure ((r2.A,e2)=if f=3 then mF x3.A e.A else if f=2 then cD x3.A e.A (-1)else cD x3.A e.A 1),kI r2]) ?_ ?_
  .refine gN (λz=>?_) λz=>?_
   .refine g3 ?_;refine bF (dC (Has.each (Has.of (u8 mT7)) (j0 d))) λs=>bF (dC (Has.each f6 (j0 c))) λj=>?_;refine j2 func72 (refMul9 (p:=x3) (q:=e) s j) ⟨(Has.each (Has.of (u8 mT7)) (j0 d)),(Has.each f6 (j0 c)),i6⟩ λ⟨A15,c16⟩=>?_;refine g6 ?_;exact jB ((⟨A15,c16,(mF x3.A e.A).1⟩:PolV),(mF x3.A e.A).2) ⟨rfl,rfl,i6⟩ ⟨rfl,rfl,rfl,rfl,rfl,rfl,rfl,rfl,i6⟩ (.c0 (.c0 (.c0 .nil))) ⟨i7 ai3,d7,i6⟩ (bA.drop 1)
   refine one ?_;exact jB ((r1:PolV),e1) ⟨rfl,rfl,i6⟩ ⟨rfl,rfl,rfl,rfl,rfl,rfl,rfl,rfl,i6⟩ (.c0 (.c0 (.c0 .nil))) ⟨i7 ai3,d8,i6⟩ (bA.drop 0)
  rintro⟨r2,e2⟩;dsimp only;refine bF d7 λhjn=>?_;refine g3 ?_;have D:=hjn.trans (I x3.A e.A);have Y:r2.A=(op x3.A e.A).1:=congrArg Prod.fst D;have E:e2=(op x3.A e.A).2:=congrArg Prod.snd D;refine g5 ?_;refine uD (λy=>?_) λy=>?_
  .refine g13 ?_;exact rs2 (⟨⟨none,0,[]⟩,false⟩:EachV) ⟨bO,i7 ((each_bad9 J (by rw[C,B];exact bCm hinv10.2 (Q.symm.trans d) (P.symm.trans c) (λh=>absurd (E.trans h) ‹_›)) w v).symm),i6⟩
  refine g5 ?_;refine j7 (m:=r2) λb19=>?_;refine bB (polsF (vs++[(r2:PolV)])) (Has.each_snoc e9 d8) ?_;refine cU kT1 (bU .head rfl) rfl rfl rfl rfl rfl rfl rfl q9 λA20 c21=>?_;refine g7 ?_;refine inc (i+1) ?_;refine g3 ?_;exact bk2 (i+1,vs++[(r2:PolV)],A20,c21) ⟨i7 (⟨by dsimp only;omega,yR hinv10.2 (Q.symm.trans d) (P.symm.trans c) Y (E.symm.trans ‹_›)⟩),d7,i6⟩
 refine g13 ?_;refine fW .head λZ=>bR .head ?_;exact rs2 (⟨⟨V,cv,vs⟩,true⟩:EachV) ⟨cB d7 d9 Z,i7 ((each_end9 J (by rw[C,B];exact bDf hinv10.2 l7) w v).symm),i6⟩
theorem mo_d9{f:Int}{a:TyV}{x:PolV}(h:f=32)(k:a.B.A.length=0)(g:a.known=true)(h1:a.values.A.length=1)(hx:a.values.A[0]?=some x)(e:gL x.A=true):gZ f a.t=(⟨bN a.values.A,false,[]⟩,0):=by
 rw[mo_d h k g hx e]
 match hl:a.values.A,h1,hx with
 |[y],_,hx=>
  cases hx;rfl
theorem each_ok9{a b:TyV}(ha:WfT a.t)(hb:WfT b.t)(h:a.B.A.length=0\/b.B.A.length=0\/bN a.B.A=bN b.B.A):bBw a.t b.t:=
 qN ha hb (h.elim (λh=> .inl (dY h)) λh=> .inr (h.elim (λh=> .inl (dY h)) .inr))
theorem not9f{b:Bool}(h:b=false):(!b)=true:=by rw[h];rfl
theorem not9t{b:Bool}(h:b=true):(!b)=false:=by rw[h];rfl
theorem yJ(b1:Bool)(a2:Option Addr)(l2 c2:Nat):prog.built 38 [(1,.bool b1),(2,.slice a2 l2 c2)]=some #[.slice none 0 0,.bool b1,.slice a2 l2 c2]:=m0
theorem bZv(f:Int)(a:TyV)(ha:WfT a.t):cY prog 44 [k7 f,.agg #[j8 a.B,.bool a.known,j8 a.values]] [] [tyF a] (λ(x:TyV)=> .tuple #[tyC x,k6 (gZ f a.t).2]) (λ_=>[]) (λ(x:TyV)=>[tyF x,Fact.pure ((gZ f a.t).2=0->x.t=(gZ f a.t).1)]):=by
 have hT:=dK;have O:=oF ha;have N:=wA ha;generalize e:gZ f a.t=r;refine j5 func44 ntmps44 ?_;intro β hM;refine bP<|bB (cM a.B) (jR d7) ?_;refine cE a.B mT0 λK=>bB (cM a.values) (jS e6)<|cE a.values mT0 λJ=>?_;refine one ?_;refine j4 λR=>?_;refine j1 sQ λQ=>?_;refine g16 ?_;refine gN (λhc14=>?_) λhc14=>?_
 .refine g9 ?_;refine dP (λhc19=>?_) λhc19=>?_
  .refine g2 ?_;refine ss (j3 (zO)) ?_;refine g8 ?_;have hr:=e.symm.trans (mo_a ‹_› l7);subst hr;exact rs2 (⟨⟨none,0,[]⟩,false,⟨none,0,[]⟩⟩:TyV) ⟨(bS (x:=⟨⟨none,0,[]⟩,false,⟨none,0,[]⟩⟩) bO bO),i7 (λh=>absurd (show(90:Int)=0 from h) m6),i6⟩
  refine g10 ?_;refine iQ (λC=>?_) λC=>?_
  .refine g2 ?_;refine ss (j3 (zO)) ?_;refine g8 ?_;have hr:=e.symm.trans (mo_b ‹_› l7 ‹_›);subst hr;exact rs2 (⟨⟨none,0,[]⟩,false,⟨none,0,[]⟩⟩:TyV) ⟨(bS (x:=⟨⟨none,0,[]⟩,false,⟨none,0,[]⟩⟩) bO bO),i7 (λh=>absurd (show(92:Int)=0 from h) m6),i6⟩
  refine g4 ?_;have I:=wf_one ha ‹_› l7;refine g3 ?_;obtain⟨x3,g⟩:=gx a.values.A 0;refine ss (ixs 0) ?_;refine ss (fG g 0) ?_;refine bF (dC (Has.each d7 (j0 g))) λs=>?_;refine j2 func71 (bXz (p:=x3) s) ⟨(Has.each d7 (j0 g)),i6⟩ λ_=>?_;refine g3 ?_;refine iQ (λhc30=>?_) λhc30=>?_
  .refine g2 ?_;refine ss (j3 (zO)) ?_;refine g8 ?_;have hr:=e.symm.trans (mo_c ‹_› l7 ‹_› g ‹_›);subst hr;exact rs2 (⟨⟨none,0,[]⟩,false,⟨none,0,[]⟩⟩:TyV) ⟨(bS (x:=⟨⟨none,0,[]⟩,false,⟨none,0,[]⟩⟩) bO bO),i7 (λh=>absurd (show(93:Int)=0 from h) m6),i6⟩
  refine g6 ?_;refine ss (j3 (xL _ _ _)) ?_;refine g7 ?_;have hr:=e.symm.trans (mo_d9 ‹_› l7 ‹_› I g ‹_›);subst hr;exact rs2 (⟨a.values,false,⟨none,0,[]⟩⟩:TyV) ⟨(bS (x:=⟨a.values,false,⟨none,0,[]⟩⟩) d9 bO),i7 (λ_=>rfl),i6⟩
 refine g6 ?_;refine gN (λB=>?_) λB=>?_
 .refine bP<|cL _ _ [j9,u0,u5,u6,A02,A06,A42,A01,A68,A04] cN o0 (.c1 .nil) bA.self ?_;refine g6 ?_;refine j2 func68 (kT (((a.B.A.length:Nat):Int))) i6 λ⟨A6,c7⟩=>?_;refine g2 ?_;refine j7 (m:=⟨A6,c7,bZ (((a.B.A.length:Nat):Int))⟩) λM=>?_;refine dO (E:=bT) (xs:=[(⟨A6,c7,bZ (((a.B.A.length:Nat):Int))⟩:PolV)]) .head aa1<|bR .head<|bB (polsF [(⟨A6,c7,bZ (((a.B.A.length:Nat):Int))⟩:PolV)]) (gP d8) ?_;refine one ?_;refine stM rfl (j3 (vW _ _ _ _ _ _ _)) ?_;refine g9 ?_;obtain rfl:=e.symm.trans (mo_e ‹_›);exact rs2 (⟨⟨(some ⟨M,0,none⟩),1,[(⟨A6,c7,bZ (((a.B.A.length:Nat):Int))⟩:PolV)]⟩,true,a.B⟩:TyV) ⟨(bS (x:=⟨⟨(some ⟨M,0,none⟩),1,[(⟨A6,c7,bZ (((a.B.A.length:Nat):Int))⟩:PolV)]⟩,true,a.B⟩) (cB d8 d7 (B0 1)) f5),i7 (λ_=>rfl),i6⟩
 refine g6 ?_;refine gN (λhc45=>?_) λhc45=>?_
 .refine g2 ?_;refine j2 func68 (kT (((1:Nat):Int))) i6 λ⟨A9,c10⟩=>?_;refine g10 ?_;refine cF (ι:=Nat×PolV) [(3,_),(4,_)] ⟨rfl,rfl,i6⟩ (λ⟨i,p⟩=>[(6,.slice p.I p.A.length p.cap),(7,.int .i64 (i:Nat))]) (λ_=>[]) (λ⟨i,p⟩=>[Fact.pure (i<=a.B.A.length/\bFh (bN a.B.A) p.A i),kI p]) (λ⟨i,p⟩=>a.B.A.length-i) (0,⟨A9,c10,bZ (((1:Nat):Int))⟩) ⟨rfl,rfl,i6⟩ .nil ⟨i7 (⟨l7,bWx _⟩),d7,i6⟩ ?_;rintro⟨i,p⟩;dsimp only;refine bF d7 λb=>?_;refine g10 ?_;refine dP (λA=>?_) λA=>?_
  .refine g10 ?_;obtain⟨o,c⟩:=gx a.B.A i;refine ss (ixs i) ?_;refine ss (fG c 0) ?_;refine bF (dC d8) λn=>bF (dC (Has.each e9 (j0 c))) λj=>?_;refine j2 func72 (refMul9 (p:=p) (q:=o) n j) ⟨d8,(Has.each e9 (j0 c)),i6⟩ λ⟨A13,c14⟩=>?_;refine g14 ?_;refine uD (λz=>?_) λz=>?_
   .refine g2 ?_;refine ss (j3 (zO)) ?_;refine g13 ?_;obtain rfl:=e.symm.trans (mo_f ‹_› (rav_bad b.2 c ‹_›));exact rs2 (⟨⟨none,0,[]⟩,false,⟨none,0,[]⟩⟩:TyV) ⟨(bS (x:=⟨⟨none,0,[]⟩,false,⟨none,0,[]⟩⟩) bO bO),i7 (λh=>absurd (show(95:Int)=0 from h) m6),i6⟩
   refine g11 ?_;refine inc (i+1) ?_;refine g3 ?_;exact bk2 (i+1,⟨A13,c14,(mF p.A o.A).1⟩) ⟨i7 (⟨by dsimp only;omega,rav_step b.2 c ae6⟩),d7,i6⟩
  refine g8 ?_;refine j7 (m:=p) λG=>?_;refine dO (E:=bT) (xs:=[(p:PolV)]) .head aa1<|bR .head<|bB (polsF [(p:PolV)]) (gP d9) ?_;refine g4 ?_;refine ss (j3 (vW _ _ _ _ _ _ _)) ?_;refine g7 ?_;have hr:=e.symm.trans (mo_g ‹_› (rav_end b.2 l7));subst hr;exact rs2 (⟨⟨(some ⟨G,0,none⟩),1,[(p:PolV)]⟩,a.known,a.values⟩:TyV) ⟨(bS (x:=⟨⟨(some ⟨G,0,none⟩),1,[(p:PolV)]⟩,a.known,a.values⟩) (cB d8 d7 (B0 1)) f3),i7 (λ_=>rfl),i6⟩
 refine g6 ?_;refine gN (λy=>?_) λy=>?_
 .refine g9 ?_;refine dP (λw=>?_) λw=>?_
  .refine g3 ?_;refine j2 func73 (bIw a.values l7) ⟨d9,i6⟩ λ⟨A18,c19⟩=>?_;refine g14 ?_;have hr:=e.symm.trans (mo_h ‹_› l7);subst hr;exact rs2 (⟨a.B,a.known,⟨A18,c19,a.values.A.reverse⟩⟩:TyV) ⟨(bS (x:=⟨a.B,a.known,⟨A18,c19,a.values.A.reverse⟩⟩) e9 d7),i7 (λ_=>rfl),i6⟩
  refine g12 ?_;have hr:=e.symm.trans (mo_i ‹_› l7);subst hr;exact rs2 (⟨a.B,a.known,a.values⟩:TyV) ⟨(bS (x:=⟨a.B,a.known,a.values⟩) e8 d9),i7 (λ_=>rfl),i6⟩
 refine g6 ?_;refine gN (λhc87=>?_) λhc87=>?_
 .refine g4 ?_;refine j2 func73 (bIw a.B l7) ⟨e8,i6⟩ λ⟨A20,c21⟩=>?_;refine g14 ?_;obtain rfl:=e.symm.trans (mo_j ‹_›);exact rs2 (⟨⟨A20,c21,a.B.A.reverse⟩,a.known,a.values⟩:TyV) ⟨(bS (x:=⟨⟨A20,c21,a.B.A.reverse⟩,a.known,a.values⟩) d7 e6),i7 (λ_=>rfl),i6⟩
 refine g6 ?_;refine gN (λv=>?_) λv=>?_
 .refine g10 ?_;obtain rfl:=e.symm.trans (mo_k ‹_›);exact rs2 (⟨a.B,a.known,a.values⟩:TyV) ⟨(bS (x:=⟨a.B,a.known,a.values⟩) e8 d9),i7 (λ_=>rfl),i6⟩
 refine g6 ?_;refine gN (λu=>?_) λu=>?_
 .refine g2 ?_;refine j7 (m:=⟨none,0,[]⟩) λD=>?_;refine dO (E:=bT) (xs:=[(⟨none,0,[]⟩:PolV)]) .head aa1<|bR .head<|bB (polsF [(⟨none,0,[]⟩:PolV)]) (gP bKo) ?_;refine ss (j3 (yJ _ _ _ _)) ?_;refine j1 sQ λP=>?_;refine g7 ?_;refine j2 func74 (bHf 2 (⟨⟨none,0,[]⟩,true,⟨(some ⟨D,0,none⟩),1,[(⟨none,0,[]⟩:PolV)]⟩⟩:TyV) a (bIt ha)) ⟨(bS (x:=⟨⟨none,0,[]⟩,true,⟨(some ⟨D,0,none⟩),1,[(⟨none,0,[]⟩:PolV)]⟩⟩) bO (cB d8 d7 (B0 1))),f5,i6⟩ λd=>?_;refine bF d8 λhE=>?_;have L:(bN d.l.A,d.k)=lK (some zJ) ⟨[],true,[[]]⟩ a.t:=by have h:=hE;rwa[op_2 rfl]at h
  refine g13 ?_;refine ss (j3 (vW _ _ _ _ _ _ _)) ?_;refine g7 ?_;obtain rfl:=e.symm.trans (mo_l ‹_› L);exact rs2 (⟨a.B,d.k,d.l⟩:TyV) ⟨(bS (x:=⟨a.B,d.k,d.l⟩) f6 d7),i7 (λ_=>rfl),i6⟩
 refine g7 ?_;refine ss (j3 (xL _ _ _)) ?_;refine g5 ?_;obtain rfl:=e.symm.trans (mo_m ‹_› ‹_› ‹_› ‹_› ‹_› ‹_› ‹_›);exact rs2 (⟨a.B,false,⟨none,0,[]⟩⟩:TyV) ⟨(bS (x:=⟨a.B,false,⟨none,0,[]⟩⟩) e8 bO),i7 (λ_=>rfl),i6⟩
theorem rho9_spec(a b:TyV)(ha:WfT a.t)(hb:WfT b.t):cY prog 75 [.agg #[j8 a.B,.bool a.known,j8 a.values],.agg #[j8 b.B,.bool b.known,j8 b.values]] [] [tyF a,tyF b] (λ(x:TyV)=> .tuple #[tyC x,k6 (xP a.t b.t).2]) (λ_=>[]) (λ(x:TyV)=>[tyF x,Fact.pure ((xP a.t b.t).2=0->x.t=(xP a.t b.t).1)]):=by
 have hT:=dK;have B:=oF ha;have z:=wA ha;have A:=oF hb;have y:=wA hb;generalize n:xP a.t b.t=r;refine j5 func75 ntmps75 ?_;intro β hM;refine bP<|bB (cM a.B) (jR d7) ?_;refine cE a.B mT0 λu=>bB (cM a.values) (jS e6)<|cE a.values mT0 λq=>bB (cM b.B) (jR f3)<|cE b.B mT0 λhc_bs=>bB (cM b.values) (jS f7)<|cE b.values mT0 λo=>?_;refine one ?_;refine j4 λE=>?_;refine j4 λD=>?_;refine j1 sQ λC=>?_;refine g12 ?_;refine dP (λhc11=>?_) λhc11=>?_
 .refine g2 ?_;refine ss (j3 (zO)) ?_;refine g6 ?_;have hr:=n.symm.trans (rhT_a (lenT _ l7));subst hr;exact rs2 (⟨⟨none,0,[]⟩,false,⟨none,0,[]⟩⟩:TyV) ⟨(bS (x:=⟨⟨none,0,[]⟩,false,⟨none,0,[]⟩⟩) bO bO),i7 (λh=>absurd (show(90:Int)=0 from h) m6),i6⟩
 refine g10 ?_;refine iQ (λhc15=>?_) λhc15=>?_
 .refine g2 ?_;refine ss (j3 (zO)) ?_;refine g6 ?_;have hr:=n.symm.trans (rhT_b (bOi _ l7) ‹_›);subst hr;exact rs2 (⟨⟨none,0,[]⟩,false,⟨none,0,[]⟩⟩:TyV) ⟨(bS (x:=⟨⟨none,0,[]⟩,false,⟨none,0,[]⟩⟩) bO bO),i7 (λh=>absurd (show(92:Int)=0 from h) m6),i6⟩
 refine g9 ?_;refine cF (ι:=Nat) [(2,_),(3,_),(4,_)] ⟨rfl,rfl,rfl,i6⟩ (λi=>[(6,.int .i64 (i:Nat))]) (λ_=>[]) (λi=>[Fact.pure (i<=a.values.A.length/\bFp (λv=>!gL v) a.values.A i)]) (λi=>a.values.A.length-i) 0 ⟨rfl,i6⟩ .nil ⟨i7 (⟨l7,zX _ _⟩),i6⟩ ?_;rintro i;refine bF d7 λe=>?_;refine g10 ?_;refine dP (λm=>?_) λm=>?_
 .refine g9 ?_;obtain⟨x4,d⟩:=gx a.values.A i;refine ss (ixs i) ?_;refine ss (fG d 0) ?_;refine bF (dC (Has.each f3 (j0 d))) λj=>?_;refine j2 func71 (bXz (p:=x4) j) ⟨(Has.each f3 (j0 d)),i6⟩ λ_=>?_;refine g3 ?_;refine iQ (λhc30=>?_) λhc30=>?_
  .refine g2 ?_;refine ss (j3 (zO)) ?_;refine g10 ?_;have hr:=n.symm.trans (rhT_c (bOi _ l7) ‹_› (bIl (f:=(λv=>!gL v)) d (not9f ‹_›)));subst hr;exact rs2 (⟨⟨none,0,[]⟩,false,⟨none,0,[]⟩⟩:TyV) ⟨(bS (x:=⟨⟨none,0,[]⟩,false,⟨none,0,[]⟩⟩) bO bO),i7 (λh=>absurd (show(93:Int)=0 from h) m6),i6⟩
  refine g6 ?_;refine inc (i+1) ?_;refine g3 ?_;exact bk2 (i+1) ⟨i7 (⟨l7,bDm e.2 d (not9t ‹_›)⟩),i6⟩
 refine g7 ?_;have k:=bKi e.2 l7;refine g5 ?_;refine cF (ι:=Nat) [(2,_),(3,_),(4,_)] ⟨rfl,rfl,rfl,i6⟩ (λi=>[(7,.int .i64 (i:Nat))]) (λ_=>[]) (λi=>[Fact.pure (i<=b.B.A.length/\bFp (λs=>!fO s 1) b.B.A i)]) (λi=>b.B.A.length-i) 0 ⟨rfl,i6⟩ .nil ⟨i7 (⟨l7,zX _ _⟩),i6⟩ ?_;rintro i;refine bF d7 λhinv11=>?_;refine g10 ?_;refine dP (λl=>?_) λl=>?_
 .refine g9 ?_;obtain⟨w,c⟩:=gx b.B.A i;refine ss (ixs i) ?_;refine ss (fG c 0) ?_;refine bF (dC (Has.each e8 (j0 c))) λg=>?_;refine j2 func112 (bVi (p:=w) 1 g) ⟨(Has.each e8 (j0 c)),i6⟩ λ_=>?_;refine g3 ?_;refine iQ (λhc45=>?_) λhc45=>?_
  .refine g2 ?_;refine ss (j3 (zO)) ?_;refine g10 ?_;have hr:=n.symm.trans (rhT_d (bOi _ l7) ‹_› k (bIl (f:=(λs=>!fO s 1)) c (not9f ‹_›)));subst hr;exact rs2 (⟨⟨none,0,[]⟩,false,⟨none,0,[]⟩⟩:TyV) ⟨(bS (x:=⟨⟨none,0,[]⟩,false,⟨none,0,[]⟩⟩) bO bO),i7 (λh=>absurd (show(94:Int)=0 from h) m6),i6⟩
  refine g6 ?_;refine inc (i+1) ?_;refine g3 ?_;exact bk2 (i+1) ⟨i7 (⟨l7,bDm hinv11.2 c (not9t ‹_›)⟩),i6⟩
 refine g9 ?_;refine ss (j3 (xL _ _ _)) ?_;refine g5 ?_;have hr:=n.symm.trans (rhT_e (bOi _ l7) ‹_› k (bKi hinv11.2 l7));subst hr;exact rs2 (⟨a.values,false,⟨none,0,[]⟩⟩:TyV) ⟨(bS (x:=⟨a.values,false,⟨none,0,[]⟩⟩) f7 bO),i7 (λ_=>rfl),i6⟩
theorem cat9_spec(a b:TyV)(ha:WfT a.t)(hb:WfT b.t):cY prog 77 [.agg #[j8 a.B,.bool a.known,j8 a.values],.agg #[j8 b.B,.bool b.known,j8 b.values]] [] [tyF a,tyF b] (λ(x:TyV)=> .tuple #[tyC x,k6 (xZ a.t b.t).2]) (λ_=>[]) (λ(x:TyV)=>[tyF x,Fact.pure ((xZ a.t b.t).2=0->x.t=(xZ a.t b.t).1)]):=by
 have hT:=dK;have hsa:=oF ha;have hva:=wA ha;have hsb:=oF hb;have Z:=wA hb;generalize w:xZ a.t b.t=r;refine j5 func77 ntmps77 ?_;intro β hM;refine bP<|bB (cM a.B) (jR d7) ?_;refine cE a.B mT0 λQ=>bB (cM a.values) (jS e6)<|cE a.values mT0 λP=>bB (cM b.B) (jR f3)<|cE b.B mT0 λhc_bs=>bB (cM b.values) (jS f7)<|cE b.values mT0 λO=>?_;refine one ?_;refine j4 λb1=>?_;refine j4 λb2=>?_;refine j1 sQ λb3=>?_;refine g18 ?_;refine xB (ι:=Sl PolV) [(2,_),(3,_),(4,_),(7,_)] ⟨rfl,rfl,rfl,rfl,i6⟩ (λi=>[(6,.slice i.I i.A.length i.cap)]) (λi=>[]) .nil (λi=>[Fact.pure (dT a.t.B=bN i.A/\1<=i.A.length/\i.A.length<=4),cM i]) ?_ ?_
 .refine g7 ?_;refine gN (λI=>?_) λI=>?_
  .refine one ?_;refine j2 func68 (kT (((1:Nat):Int))) i6 λ⟨A4,c5⟩=>?_;refine j7 (m:=⟨A4,c5,bZ (((1:Nat):Int))⟩) λY=>?_;refine dO (E:=bT) (xs:=[(⟨A4,c5,bZ (((1:Nat):Int))⟩:PolV)]) .head aa1<|bR .head<|bB (polsF [(⟨A4,c5,bZ (((1:Nat):Int))⟩:PolV)]) (gP d8) ?_;refine g2 ?_;refine bB (cM ⟨(some ⟨Y,0,none⟩),1,[(⟨A4,c5,bZ (((1:Nat):Int))⟩:PolV)]⟩) ((cB d8 d7 (B0 1))) ?_;exact jB (⟨(some ⟨Y,0,none⟩),1,[(⟨A4,c5,bZ (((1:Nat):Int))⟩:PolV)]⟩:Sl PolV) ⟨rfl,i6⟩ ⟨rfl,rfl,rfl,rfl,i6⟩ (.c0 (.c0 (.c0 .nil))) ⟨i7 (⟨by first|exact qG l7|exact nX l7,by first|exact⟨B0 1,(by decide:1<=4)⟩|exact⟨l7,l7⟩⟩),d7,i6⟩ (bA.drop 4)
  refine one ?_;refine bB (cM a.B) (f8) ?_;exact jB (a.B:Sl PolV) ⟨rfl,i6⟩ ⟨rfl,rfl,rfl,rfl,i6⟩ (.c0 (.c0 (.c0 .nil))) ⟨i7 (⟨by first|exact qG l7|exact nX l7,by first|exact⟨B0 1,(by decide:1<=4)⟩|exact⟨l7,l7⟩⟩),d7,i6⟩ (bA.drop 1)
 rintro i;refine bF d7 λhjn=>?_;obtain⟨o,W,V⟩:=hjn;refine cE i mT1 λN=>?_;refine g2 ?_;refine xB (ι:=Sl PolV) [(2,_),(3,_),(4,_),(6,_)] ⟨rfl,rfl,rfl,rfl,i6⟩ (λc=>[(7,.slice c.I c.A.length c.cap)]) (λc=>[]) .nil (λc=>[Fact.pure (dT b.t.B=bN c.A/\1<=c.A.length/\c.A.length<=4),cM c]) ?_ ?_
 .refine g7 ?_;refine gN (λG=>?_) λG=>?_
  .refine one ?_;refine j2 func68 (kT (((1:Nat):Int))) i6 λ⟨A7,c8⟩=>?_;refine j7 (m:=⟨A7,c8,bZ (((1:Nat):Int))⟩) λX=>?_;refine dO (E:=bT) (xs:=[(⟨A7,c8,bZ (((1:Nat):Int))⟩:PolV)]) .head aa1<|bR .head<|bB (polsF [(⟨A7,c8,bZ (((1:Nat):Int))⟩:PolV)]) (gP d8) ?_;refine g2 ?_;refine bB (cM ⟨(some ⟨X,0,none⟩),1,[(⟨A7,c8,bZ (((1:Nat):Int))⟩:PolV)]⟩) ((cB d8 d7 (B0 1))) ?_;exact jB (⟨(some ⟨X,0,none⟩),1,[(⟨A7,c8,bZ (((1:Nat):Int))⟩:PolV)]⟩:Sl PolV) ⟨rfl,i6⟩ ⟨rfl,rfl,rfl,rfl,i6⟩ (.c0 (.c0 (.c0 .nil))) ⟨i7 (⟨by first|exact qG l7|exact nX l7,by first|exact⟨B0 1,(by decide:1<=4)⟩|exact⟨l7,l7⟩⟩),d7,i6⟩ (bA.drop 4)
  refine one ?_;refine bB (cM b.B) (f6) ?_;exact jB (b.B:Sl PolV) ⟨rfl,i6⟩ ⟨rfl,rfl,rfl,rfl,i6⟩ (.c0 (.c0 (.c0 .nil))) ⟨i7 (⟨by first|exact qG l7|exact nX l7,by first|exact⟨B0 1,(by decide:1<=4)⟩|exact⟨l7,l7⟩⟩),d7,i6⟩ (bA.drop 1)
 rintro c;refine bF d7 λhjn=>?_;obtain⟨n,U,R⟩:=hjn;refine cE c mT1 λM=>?_;refine g3 ?_;refine cL _ _ [j9,u0,u5,u9,A00,u6,A02,A01,A03,A04,A73,A07,A09] cN o0 (.c0 (.c0 (.c0 .nil))) bA.self ?_;refine g6 ?_;refine yQ (λA=>?_) λA=>?_
 .refine g14 ?_;refine ss (j3 (zO)) ?_;refine g6 ?_;have hr:=w.symm.trans (zM o n ai2);subst hr;exact rs2 (⟨⟨none,0,[]⟩,false,⟨none,0,[]⟩⟩:TyV) ⟨(bS (x:=⟨⟨none,0,[]⟩,false,⟨none,0,[]⟩⟩) bO bO),i7 (λh=>absurd (show(91:Int)=0 from h) m6),i6⟩
 refine one ?_;refine stM rfl (dV hT (k:=1) rfl rfl rfl rfl rfl rfl l7) ?_;refine one ?_;refine stM rfl (dV hT (k:=1) rfl rfl rfl rfl rfl rfl l7) ?_;refine one ?_;refine bB (bT.sl (.slice (iS i.I 1 bT.size i.cap) (i.A.length-1) (i.cap-1)) (i.A.drop 1)) (kC e8 ac9 ab5)<|bB (polsF (i.A.drop 1)) (iI 1 e8)<|bB (bT.sl (.slice (iS c.I 1 bT.size c.cap) (c.A.length-1) (c.cap-1)) (c.A.drop 1)) (kC e6 ac9 ab5)<|bB (polsF (c.A.drop 1)) (iI 1 e6) ?_;have J:=wL (iS i.I 1 bT.size i.cap) (iS c.I 1 bT.size c.cap) (i.cap-1) (c.cap-1) (i.A.drop 1) (c.A.drop 1) ae4;simp only[List.length_drop]at J;refine j2 func46 J ⟨e6,d9,d8,d7,i6⟩ λ_=>?_;refine g5 ?_;refine iQ (λD=>?_) λD=>?_
 .refine g2 ?_;refine ss (j3 (zO)) ?_;refine g6 ?_;have hr:=w.symm.trans (zM o n ai2);subst hr;exact rs2 (⟨⟨none,0,[]⟩,false,⟨none,0,[]⟩⟩:TyV) ⟨(bS (x:=⟨⟨none,0,[]⟩,false,⟨none,0,[]⟩⟩) bO bO),i7 (λh=>absurd (show(91:Int)=0 from h) m6),i6⟩
 refine g3 ?_;refine cL _ _ [j9,u0,u5,u9,A00,u6,A17,A01,A03,A04,A08,A07] cN o0 (.c0 (.c0 (.c0 .nil))) bA.self ?_;refine one ?_;obtain⟨x10,e⟩:=gx i.A 0;refine stM rfl (ixs 0) ?_;refine stM rfl (fG e 0) ?_;refine one ?_;obtain⟨f,d⟩:=gx c.A 0;refine stM rfl (ixs 0) ?_;refine stM rfl (fG d 0) ?_;refine one ?_;refine bF (dC (Has.each f5 (j0 e))) λu=>bF (dC (Has.each e7 (j0 d))) λs=>?_;refine j2 func110 (refAdd9 (p:=x10) (q:=f) u s) ⟨(Has.each f5 (j0 e)),(Has.each e7 (j0 d)),i6⟩ λ⟨A14,c15⟩=>?_;refine g15 ?_;refine uD (λC=>?_) λC=>?_
 .refine g2 ?_;refine ss (j3 (zO)) ?_;refine g6 ?_;have hr:=w.symm.trans (bUk o n l7 (of_decide_eq_true ‹_›) e d ‹_›);subst hr;exact rs2 (⟨⟨none,0,[]⟩,false,⟨none,0,[]⟩⟩:TyV) ⟨(bS (x:=⟨⟨none,0,[]⟩,false,⟨none,0,[]⟩⟩) bO bO),i7 (λh=>absurd (show(95:Int)=0 from h) m6),i6⟩
 refine g5 ?_;refine j7 (m:=⟨A14,c15,(cD x10.A f.A 1).1⟩) λb18=>?_;refine dO (E:=bT) (xs:=[(⟨A14,c15,(cD x10.A f.A 1).1⟩:PolV)]) .head aa1 ?_;refine one ?_;refine ss (dV hT (k:=1) rfl rfl rfl rfl rfl rfl l7) ?_;refine bB (bT.sl (.slice (iS c.I 1 bT.size c.cap) (c.A.length-1) (c.cap-1)) (c.A.drop 1)) (kC e9 ac9 ab5)<|bB (polsF (c.A.drop 1)) (iI 1 e9) ?_;refine cU .head (bG d8) rfl rfl rfl rfl rfl rfl r7 o6 λl j=>?_;refine fW .head λg=>bR .head<|bB (polsF ([(⟨A14,c15,(cD x10.A f.A 1).1⟩:PolV)]++(c.A.drop 1))) (iE (gP e6) d8) ?_;refine ss (j3 (xL _ _ _)) ?_;refine j1 sQ λb21=>?_;refine g9 ?_;refine cG (λz=>?_) (λz=>?_)
 .refine g4 ?_;refine cG (λy=>?_) (λy=>?_)
  .refine g7 ?_;refine inc (a.values.A.length+b.values.A.length) ?_;refine g4 ?_;refine bLv (λB=>?_) λB=>?_
   .refine g6 ?_;refine cL _ _ [u0,u5,A00,u6,(false,0),A06,A17,A01,A68] cN o0 (.c1 (.c1 (.c1 .nil))) bA.self ?_;refine g5 ?_;refine uM rfl rfl rfl rfl λb22=>?_;refine g2 ?_;refine cU .head (bG (Has.of (u8 (u8 (u8 mT0))))) rfl rfl rfl rfl rfl rfl r7 o6 λA23 c24=>?_;refine g2 ?_;refine cU .head (bG (Has.of (u8 (u8 mT2)))) rfl rfl rfl rfl rfl rfl r7 o6 λL K=>?_;refine g8 ?_;refine fW kT1 λv=>bR kT1<|bB (polsF (([]++a.values.A)++b.values.A)) (iE (Has.of (u8 (u8 (u8 mT0)))) (Has.of (u8 (u8 mT2)))) ?_;refine g7 ?_;have hr:=w.symm.trans ((bTn o n l7 (of_decide_eq_true ‹_›) e d l7 ‹_› ‹_› ae3).trans (by rw[show a.t.values++b.t.values=bN (([]++a.values.A)++b.values.A)from (rI _ _).symm]));subst hr;exact rs2 (⟨⟨l,j,([(⟨A14,c15,(cD x10.A f.A 1).1⟩:PolV)]++(c.A.drop 1))⟩,true,⟨L,K,(([]++a.values.A)++b.values.A)⟩⟩:TyV) ⟨(bS (x:=⟨⟨l,j,([(⟨A14,c15,(cD x10.A f.A 1).1⟩:PolV)]++(c.A.drop 1))⟩,true,⟨L,K,(([]++a.values.A)++b.values.A)⟩⟩) (cB e6 d9 (g)) (cB d8 d7 (v))),i7 (λ_=>rfl),i6⟩
   refine g10 ?_;have hr:=w.symm.trans (rB o n l7 (of_decide_eq_true ‹_›) e d l7 n8);subst hr;exact rs2 (⟨⟨l,j,([(⟨A14,c15,(cD x10.A f.A 1).1⟩:PolV)]++(c.A.drop 1))⟩,false,⟨none,0,[]⟩⟩:TyV) ⟨(bS (x:=⟨⟨l,j,([(⟨A14,c15,(cD x10.A f.A 1).1⟩:PolV)]++(c.A.drop 1))⟩,false,⟨none,0,[]⟩⟩) (cB d8 d7 (g)) bO),i7 (λ_=>rfl),i6⟩
  refine g22 ?_;have hr:=w.symm.trans (rB o n l7 (of_decide_eq_true ‹_›) e d l7 n8);subst hr;exact rs2 (⟨⟨l,j,([(⟨A14,c15,(cD x10.A f.A 1).1⟩:PolV)]++(c.A.drop 1))⟩,false,⟨none,0,[]⟩⟩:TyV) ⟨(bS (x:=⟨⟨l,j,([(⟨A14,c15,(cD x10.A f.A 1).1⟩:PolV)]++(c.A.drop 1))⟩,false,⟨none,0,[]⟩⟩) (cB d8 d7 (g)) bO),i7 (λ_=>rfl),i6⟩
 refine g26 ?_;have hr:=w.symm.trans (rB o n l7 (of_decide_eq_true ‹_›) e d l7 n8);subst hr;exact rs2 (⟨⟨l,j,([(⟨A14,c15,(cD x10.A f.A 1).1⟩:PolV)]++(c.A.drop 1))⟩,false,⟨none,0,[]⟩⟩:TyV) ⟨(bS (x:=⟨⟨l,j,([(⟨A14,c15,(cD x10.A f.A 1).1⟩:PolV)]++(c.A.drop 1))⟩,false,⟨none,0,[]⟩⟩) (cB d8 d7 (g)) bO),i7 (λ_=>rfl),i6⟩
def tD (k:Bs):Prop:= ∀r,k≠lV++r/\k≠nIn++r
theorem word_plain{s:Bs}(h:WordB s):tD s:=λr=>by
 have a:kU 32=false:=m6
 constructor
 all_goals
  intro e;have:=h.all 32 (by rw[e];simp[lV,nIn]);rw[a]at this;cases this
theorem bRh{s:Bs}(h:dQ s=true):tD s:=word_plain (vD h)
theorem step_name{st st':List gE}{x:fF}(h:jV st x=some st')(k:x.H=2):dQ x.name=true:=by
 unfold jV at h;rw[if_pos (.inr k)]at h;unfold operandS at h;split at h
 .split at h
  .rename_i a;exact a.2.2
  .simp at h
 .rename_i h2;exact absurd k h2
theorem bQf: ∀{l:List fF} {st st':List gE},gO l st=some st'-> ∀x∈l,x.H=2->dQ x.name=true
 |[],_,_,_,x,hx=>by simp at hx
 |y::l,st,st',h,x,hx=>by
  rw[gO]at h
  cases h1:jV st y with
  |none=>rw[h1]at h;cases h
  |some s1=>
   rw[h1]at h
   rcases E2.1 hx with rfl|hx
   .exact step_name h1
   .exact bQf h x hx
theorem bZx{l:List fF}{m:Nat}{t:Bs}(h:gX l m=some t): ∀x∈l,x.H=2->dQ x.name=true:=by
 unfold gX at h;split at h
 .cases h
 .split at h
  .rename_i hq;exact bQf hq
  .cases h
theorem bRb: ∀{ls:List nF} {o o':Bs},gS ls o=(o',true)-> ∀l∈ls,∀x∈l.K,x.H=2->dQ x.name=true
 |[],_,_,_,l,a=>by simp at a
 |[m],o,o',h,l,a=>by
  rw[K7.1 a];simp only[gS]at h
  cases hx:gX m.K 255 with
  |none=>rw[hx]at h;simp at h
  |some t=>exact bZx hx
 |m::n::ls,o,o',h,l,a=>by
  have b:(match gX m.K 254 with
    |none=>(o,false)
    |some t=>if dQ m.name=false then (o,false)else gS (n::ls) (o++(((m.name++[58,32])++t)++[10])))=(o',true):=h
  cases hx:gX m.K 254 with
  |none=>rw[hx]at b;simp at b
  |some t=>
   rw[hx]at b;simp only at b;split at b
   .simp at b
   .rcases E2.1 a with rfl|a
    .exact bZx hx
    .exact bRb b l a
theorem bBx: ∀{ds:List oI} {acc t:Bs},mD ds acc=some t-> ∀d∈ds,d.name=[]\/dQ d.name=true
 |[],_,_,_,d,a=>by simp at a
 |e::ds,acc,t,h,d,a=>by
  rw[mD]at h;split at h
  .rename_i he
   rcases E2.1 a with rfl|a
   .exact .inl he
   .exact bBx h d a
  .split at h
   .rename_i b
    rcases E2.1 a with rfl|a
    .exact .inr b.2
    .exact bBx h d a
   .cases h
theorem bIf: ∀{xs:List hU} {o o':Bs},oM xs o=(o',true)-> ∀x∈xs,∀d∈x.B,d.name=[]\/dQ d.name=true
 |[],_,_,_,x,hx=>by simp at hx
 |y::xs,o,o',h,x,hx=>by
  rw[oM]at h
  cases hi:inputS y with
  |none=>rw[hi]at h;simp at h
  |some t=>
   rw[hi]at h;simp only at h
   rcases E2.1 hx with rfl|hx
   .unfold inputS at hi;split at hi
    .cases hi
    .exact bBx hi
   .exact bIf h x hx
theorem bWb: ∀{ds:List oI} {out:List Bs},(∀s∈out,dQ s=true)->(∀d∈ds,d.name=[]\/dQ d.name=true)-> ∀s∈iT ds out,dQ s=true
 |[],_,h,_=>h
 |d::ds,out,h,k=>by
  rw[iT];refine bWb (λs hs=>?_) (λx hx=>k x (E4 _ hx));split at hs
  .exact h s hs
  .rename_i hn
   rcases E3.1 hs with hs|hs
   .exact h s hs
   .rw[K7.1 hs]
    rcases k d (E8 ..)with e|e
    .exact absurd (.inl e) hn
    .exact e
theorem right_names{p:iL}(h:(dU p).2=true):(∀l∈p.G,∀x∈l.K,x.H=2->tD x.name)/\ ∀s∈dG p,tD s:=by
 unfold dU at h;split at h
 .cases h
 .cases hi:oM p.C []with
  |mk o b=>
   rw[hi]at h
   cases b with
   |false=>cases h
   |true=>
    refine⟨λl c x hx k=>bRh (bRb (o':=(gS p.G o).1) (Prod.ext rfl h) l c x hx k),λs hs=>bRh (bWb (λs hs=>(by cases hs)) (λd a=>?_) s hs)⟩;obtain⟨x,hx,a⟩:=Y2.1 a;exact bIf hi x hx d a
def bOu:List nF->List TyP->gD->gD
 |l::ls,t::L,N=>bOu ls L ((lV++l.name,t)::N)
 |_,_,N=>N
theorem bVr(ls:List nF)(N:gD):bOu ls [] N=N:=by cases ls<;>rfl
theorem bPv: ∀{ls:List nF} {L:List TyP} {k:Nat} {l:nF} {t:TyP} {N:gD},ls[k]?=some l->L[k]?=some t->bOu ls (L.take (k+1)) N=(lV++l.name,t)::bOu ls (L.take k) N
 |x::ls,y::L,0,l,t,N,h1,h2=>by
  cases h1;cases h2;show bOu ls (L.take 0) _=_;rw[aH,bVr];rfl
 |x::ls,y::L,k+1,l,t,N,h1,h2=>by
  show bOu ls (L.take (k+1)) _=_::bOu ls (L.take k) _;exact bPv (ls:=ls) (L:=L) h1 h2
 |[],_,_,_,_,_,h1,_=>by simp at h1
 |_::_,[],_,_,_,_,_,h2=>by simp at h2
theorem lnsN_add: ∀{ls:List nF} {L:List TyP} {l:nF} {t:TyP} {N:gD},ls[L.length]?=some l->bOu ls (L++[t]) N=(lV++l.name,t)::bOu ls L N:=λ{ls L l t N} h=>by
 have h2:(L++[t])[L.length]?=some t:=by simp
 have:=bPv (N:=N) h h2
 rwa[F6 m9,List.take_left]at this
theorem insN_at(vars:List Bs): ∀{xs:List hU} {k:Nat} {x:hU} {N:gD},xs[k]?=some x->bHt vars (xs.take (k+1)) N=(nIn++x.name,inT vars x)::bHt vars (xs.take k) N
 |y::xs,0,x,N,h=>by
  cases h;rfl
 |y::xs,k+1,x,N,h=>by
  show bHt vars (xs.take (k+1)) _=_::bHt vars (xs.take k) _;exact insN_at vars (xs:=xs) h
 |[],_,_,_,h=>by simp at h
theorem varsN_at: ∀{vs:List Bs} {k j:Nat} {s:Bs} {N:gD},vs[k]?=some s->rN (vs.take (k+1)) j N=(s,bWm (j+k))::rN (vs.take k) j N
 |v::vs,0,j,s,N,h=>by
  cases h;rfl
 |v::vs,k+1,j,s,N,h=>by
  show rN (vs.take (k+1)) (j+1) _=_::rN (vs.take k) (j+1) _;rw[varsN_at (vs:=vs) h,show j+1+k=j+(k+1)from by omega]
 |[],_,_,_,_,h=>by simp at h
theorem oO(k s:Bs)(t:TyP)(N:gD):kH k ((s,t)::N)=if k=s then some t else kH k N:=rfl
theorem line_inj{a b:Bs}(h:lV++a=lV++b):a=b:=aI h
theorem in_inj{a b:Bs}(h:nIn++a=nIn++b):a=b:=aI h
theorem line_in(a b:Bs):lV++a≠nIn++b:=λh=>by cases h
theorem lns_not{k:Bs}(hk: ∀r,k≠lV++r){N:gD}: ∀(ls:List nF) (L:List TyP),kH k (bOu ls L N)=kH k N
 |[],_=>by cases ‹List TyP›<;>rfl
 |l::ls,[]=>rfl
 |l::ls,t::L=>by
  have: ∀(ls:List nF) (L:List TyP) (M:gD),kH k M=kH k N->kH k (bOu ls L M)=kH k N:=by
   intro ls
   induction ls with
   |nil=>intro L M h;cases L<;>exact h
   |cons l ls ih=>
    intro L M h
    cases L with
    |nil=>exact h
    |cons t L=>exact ih L _ (by rw[oO,if_neg (hk _)];exact h)
  exact this (l::ls) (t::L) N rfl
theorem ins_not{vars:List Bs}{k:Bs}(hk: ∀r,k≠nIn++r): ∀(xs:List hU) {M N:gD},kH k M=kH k N->kH k (bHt vars xs M)=kH k N
 |[],_,_,h=>h
 |x::xs,M,N,h=>ins_not hk xs (by rw[oO,if_neg (hk _)];exact h)
theorem bJt{k:Bs}: ∀(vs:List Bs) (j:Nat) {M N:gD},(∀v∈vs,k≠v)->kH k M=kH k N->kH k (rN vs j M)=kH k N
 |[],_,_,_,_,h=>h
 |v::vs,j,M,N,hk,h=>bJt vs (j+1) (λx hx=>hk x (E4 _ hx)) (by rw[oO,if_neg (hk v (E8 ..))];exact h)
theorem bIk: ∀{ds:List oI} {out:List Bs},out.Nodup->(iT ds out).Nodup
 |[],_,h=>h
 |d::r,out,h=>by
  rw[iT];refine bIk ?_;split
  .exact h
  .rename_i c;rw[List.nodup_append];refine⟨h,m9,λa f b e=>?_⟩;rw[K7.1 e];rintro rfl;exact c (.inr (List.contains_iff_mem.2 f))
theorem bHg(p:iL):(dG p).Nodup:=bIk List.nodup_nil
theorem look_var{vs:List Bs}(hn:vs.Nodup){k:Nat}{s:Bs}(h:vs[k]?=some s):kH s (rN vs 0 [])=some (bWm k):=by
 have key: ∀m,k+1<=m->m<=vs.length->kH s (rN (vs.take m) 0 [])=some (bWm k):=by
  intro m
  induction m with
  |zero=>intro h1;omega
  |succ m ih=>
   intro h1 h2
   obtain⟨v,hv⟩: ∃v,vs[m]?=some v:=⟨_,F1 l7⟩
   rw[varsN_at hv,oO]
   by_cases a:m=k
   .subst a;rw[hv]at h;cases h;rw[if_pos rfl,C7]
   .rw[if_neg,ih l7 l7];rintro rfl;obtain⟨d,h4⟩:=F3.1 h;obtain⟨c,b⟩:=F3.1 hv;exact List.pairwise_iff_getElem.1 hn k m d c l7 (h4.trans b.symm)
 have e:=(F3.1 h).1;have:=key vs.length l7 (B0 _)
 rwa[aJ]at this
section
variable {p : iL} {s : Bs} {L : List TyP} {k : Nat} {t : TyP}
abbrev jC (p:iL)(L:List TyP):gD:=bOu p.G L (sA p)
def bWj (p:iL)(L:List TyP)(s:Bs)(k:Nat):Prop:=kH (lV++s) (jC p L)=kH (lV++s) (jC p (L.take k))
theorem lnN_start:bWj p L s L.length:=by unfold bWj;rw[aJ]
theorem lnN_step{l:nF}(h:bWj p L s (k+1))(hl:p.G[k]?=some l)(ht:L[k]?=some t)(hn:l.name≠s):bWj p L s k:=by unfold bWj at*;rw[h,jC,bPv hl ht,oO,if_neg λe=>hn (line_inj e).symm]
theorem lnN_hit{l:nF}(h:bWj p L s (k+1))(hl:p.G[k]?=some l)(ht:L[k]?=some t)(hn:l.name=s):nameT (jC p L) s=some t:=by unfold bWj at h;unfold nameT;rw[h,jC,bPv hl ht,oO,if_pos (by rw[hn])]
theorem check_line(hv: ∀v∈dG p,tD v):kH (lV++s) (sA p)=none:=by unfold sA;rw[ins_not (N:=[]) (λr=>line_in _ _) _ (bJt _ _ (λv a e=>((hv v a) s).1 e.symm) rfl)];rfl
theorem lnN_end(hv: ∀v∈dG p,tD v)(h:bWj p L s 0):kH (lV++s) (jC p L)=none:=by unfold bWj at h;rw[h,aH,jC,bVr];exact check_line hv
def bTu (p:iL)(L:List TyP)(s:Bs)(k:Nat):Prop:=kH (lV++s) (jC p L)=none/\kH (nIn++s) (jC p L)=kH (nIn++s) (bHt (dG p) (p.C.take k) (rN (dG p) 0 []))
theorem inN_start(h:kH (lV++s) (jC p L)=none):bTu p L s p.C.length:=⟨h,by
 rw[jC,lns_not λr e=>line_in _ _ e.symm,aJ]
 rfl⟩
theorem inN_step{x:hU}(h:bTu p L s (k+1))(hx:p.C[k]?=some x)(hn:x.name≠s):bTu p L s k:=by refine⟨h.1,?_⟩;rw[h.2,insN_at _ hx,oO,if_neg λe=>hn (in_inj e).symm]
theorem inN_hit{x:hU}(h:bTu p L s (k+1))(hx:p.C[k]?=some x)(hn:x.name=s):nameT (jC p L) s=some (inT (dG p) x):=by unfold nameT;rw[h.1];dsimp only;rw[h.2,insN_at _ hx,oO,if_pos (by rw[hn])]
theorem inN_none(hv: ∀v∈dG p,tD v)(h:bTu p L s 0):kH (nIn++s) (jC p L)=none:=by rw[h.2,aH];show kH (nIn++s) (rN (dG p) 0 [])=none;rw[bJt (N:=[]) _ _ (λv a e=>((hv v a) s).2 e.symm) rfl];rfl
theorem name_end(hs:tD s)(hv: ∀v∈dG p,tD v)(h:bTu p L s 0):nameT (jC p L) s=if 0<=idxOf s (dG p) 0 then some ⟨[],true,[(oC (idxOf s (dG p) 0)).1]⟩else none:=by
 unfold nameT;rw[h.1];dsimp only;rw[inN_none hv h];dsimp only;rw[jC,lns_not λr=>(hs r).1];unfold sA;rw[ins_not (N:=rN (dG p) 0 []) (λr=>(hs r).2) _ rfl]
 rcases rR s (dG p) 0 with h1|⟨j,h1,h2,b⟩
 .have h1:idxOf s (dG p) 0= -1:=h1;rw[if_neg (by rw[h1];decide)];refine(bJt (N:=[]) _ _ (λv a e=>?_) rfl).trans rfl;subst e;exact bEk a (i:=0) h1
 .have h1:idxOf s (dG p) 0=((j:Nat):Int):=by
   have h1:idxOf s (dG p) 0=((0+j:Nat):Int):=h1
   rwa[C7]at h1
  rw[h1,if_pos l7,look_var (bHg p) b];rfl
end
theorem vgo_app: ∀(a b:List oI) (out:List Bs),iT (a++b) out=iT b (iT a out)
 |[],_,_=>rfl
 |d::r,b,out=>by rw[R0,iT,iT];exact vgo_app r b _
theorem bPo: ∀(ds:List oI) (out:List Bs),∃e,iT ds out=out++e/\ ∀s∈e,s≠[]/\ ∃d∈ds,d.name=s
 |[],out=>⟨[],by simp[iT],m9⟩
 |d::r,out=>by
  obtain⟨e,h1,h2⟩:=bPo r (if d.name=[]\/out.contains d.name=true then out else out++[d.name])
  have a: ∀s∈e,s≠[]/\ ∃x∈d::r,x.name=s:=λs hs=>⟨(h2 s hs).1,(h2 s hs).2.imp λx hx=>⟨.tail _ hx.1,hx.2⟩⟩
  rw[iT,h1];split
  .exact⟨e,rfl,a⟩
  .rename_i b;refine⟨d.name::e,m9,λs hs=>?_⟩
   rcases E2.1 hs with rfl|hs
   .exact⟨λh=>b (.inl h),d,.head _,rfl⟩
   .exact a s hs
def fewW (l:List hU)(i:Nat):List Bs:=dG ⟨l.take i,[]⟩
def FewZ (vars:List Bs)(l:List hU)(z:Int):Prop:=(z= -1/\l.find? (tS vars)=none)\/ ∃(k:Nat) (x:hU),z=(k:Int)/\l[k]?=some x/\l.find? (tS vars)=some x
section
variable {p : iL} {x : hU} {d : oI} {i : Nat}
theorem fw_step{l:List hU}(hx:l[i]?=some x): ∃e,fewW l (i+1)=fewW l i++e/\ ∀s∈e,∃d∈x.B,d.name=s:=by
 obtain⟨e,h1,h2⟩:=bPo x.B (fewW l i);refine⟨e,?_,λs hs=>(h2 s hs).2⟩;rw[<-h1];obtain⟨hi,a⟩:=F3.1 hx;show iT (dZ (l.take (i+1))) []=iT x.B (iT (dZ (l.take i)) []);rw[V8 hi,a,<-vgo_app]
 congr 1
 simp[dZ]
theorem fw_all: ∃e,dG p=fewW p.C i++e:=by
 obtain⟨e,h1,_⟩:=bPo (dZ (p.C.drop i)) (fewW p.C i);refine⟨e,?_⟩;rw[<-h1];show iT _ []=iT _ (iT _ []);rw[<-vgo_app]
 congr 1
 show _=dZ (p.C.take i)++dZ (p.C.drop i);unfold dZ;rw[<-Z4,W8]
theorem idx_at{V:List Bs}{s:Bs}{k:Nat}(hn:V.Nodup)(h:V[k]?=some s):idxOf s V 0=(k:Int):=by
 rcases rR s V 0 with h2|⟨j,h2,b,h4⟩
 .exact absurd h2 (bEk (i:=0) (j0 h))
 .have a:j=k:=by refine(List.getElem?_inj b hn).1 ?_;rw[h4,h]
  rw[a,C7]at h2;exact h2
theorem few_six(h:bAv (dG p) p.C i)(hx:p.C[i]?=some x)(hw:(fewW p.C i).length<=6)(h7:6<(fewW p.C (i+1)).length):p.C.find? (tS (dG p))=some x:=by
 obtain⟨e,h1,h2⟩:=fw_step hx;obtain⟨c,b⟩:=fw_all (p:=p) (i:=i+1)
 obtain⟨s,hs⟩: ∃s,(fewW p.C (i+1))[6]?=some s:=⟨_,F1 h7⟩
 have hv:(dG p)[6]?=some s:=by rw[b,Z6 h7,hs]
 rw[h1,List.getElem?_append_right hw]at hs;obtain⟨d,a,hn⟩:=h2 s (j0 hs);have hf:tS (dG p) x=true:=List.any_eq_true.2 ⟨d,a,fs_b (by rw[hn,idx_at (bHg p) hv];decide)⟩;rw[h,lE hx,List.find?_cons,hf]
theorem few_lt(hx:p.C[i]?=some x)(h7:(fewW p.C (i+1)).length<=6)(hd:d∈x.B):idxOf d.name (dG p) 0<6:=by
 rcases rR d.name (dG p) 0 with h2|⟨j,h2,n,h4⟩
 .have h2:idxOf d.name (dG p) 0= -1:=h2;omega
 .obtain⟨e,l,h⟩:=bPo (dZ p.C) [];have g:d.name∈dG p:=aK h4;have a:d.name≠[]:=(h _ (by rw[<-List.nil_append e,<-l];exact g)).1
  have f:d.name∈fewW p.C (i+1):=bVc.2 d (Y2.2 ⟨x,by
   obtain⟨hi,c⟩:=F3.1 hx;show x∈p.C.take (i+1)
   rw[V8 hi,c];simp,hd⟩) a
  obtain⟨k,b,m⟩:=List.mem_iff_getElem.1 f;obtain⟨c,h8⟩:=fw_all (p:=p) (i:=i+1);have hv:(dG p)[k]?=some d.name:=by rw[h8,Z6 b,F1 b,m]
  rw[idx_at (bHg p) hv];omega
theorem fw_zero(l:List hU):(fewW l 0).length<=6:=by simp[fewW,dG,dZ,iT]
theorem fz_none(h:bAv (dG p) p.C i)(hi:p.C.length<=i):FewZ (dG p) p.C (-1):= .inl ⟨rfl,few_end h hi⟩
theorem fz_some(hx:p.C[i]?=some x)(h:p.C.find? (tS (dG p))=some x):FewZ (dG p) p.C ((i:Nat):Int):= .inr ⟨i,x,rfl,hx,h⟩
end
def wE (xs:List Bs)(s:Bs):Int:=if s∈xs then (xs.idxOf s:Nat)else-1
section
variable {xs : List Bs} {s b : Bs} {i : Nat}
theorem pz_here(h:s∉xs.take i)(hb:xs[i]?=some b)(he:b=s):((i:Nat):Int)=wE xs s:=by
 subst he;obtain⟨hi,e⟩:=F3.1 hb;have a:b∈xs:=aK hb;have d:xs=xs.take i++b::xs.drop (i+1):=by rw[<-e,List.getElem_cons_drop,W8]
 have c:xs.idxOf b=i:=by
  conv=>lhs;rw[d]
  rw[List.idxOf_append,if_neg h,List.idxOf_cons_self,K6];omega
 rw[wE,if_pos a,c]
theorem pz_more(h:s∉xs.take i)(hb:xs[i]?=some b)(he:b≠s):s∉xs.take (i+1):=by
 obtain⟨hi,e⟩:=F3.1 hb;rw[V8 hi,e];intro a
 rcases E3.1 a with a|a
 .exact h a
 .exact he (K7.1 a).symm
theorem pz_none(h:s∉xs.take i)(hi:xs.length<=i):(-1:Int)=wE xs s:=by rw[F6 hi]at h;rw[wE,if_neg h]
theorem pz_neg:wE xs s<0↔xs.contains s=false:=by
 unfold wE
 by_cases h:s∈xs
 .rw[if_pos h];simp[h]
 .rw[if_neg h];simp[h]
end
def yM (p:iL)(rest:List oI)(out:List Bs):Prop:=iT rest out=dG p/\out.length+rest.length<=8000000000000
section
variable {p : iL} {l : List hU} {x : hU} {ds R : List oI} {d : oI} {out : List Bs} {i j : Nat}
theorem vb_start(h:(dZ p.C).length<=8000000000000):yM p (dZ (p.C.drop 0)) []:=⟨rfl,by simpa using h⟩
theorem vb_in(h:yM p (dZ (l.drop i)) out)(hx:l[i]?=some x):yM p (x.B.drop 0++dZ (l.drop (i+1))) out:=by rw[lE hx]at h;exact h
theorem vb_skip(h:yM p (ds.drop j++R) out)(hd:ds[j]?=some d)(hs:d.name=[]\/ ¬wE out d.name<0):yM p (ds.drop (j+1)++R) out:=by rw[lE hd,R0]at h;obtain⟨b,c⟩:=h;refine⟨?_,by simp at c⊢;omega⟩;rw[pz_neg,Bool.not_eq_false]at hs;rw[iT,if_pos hs]at b;exact b
theorem vb_add(h:yM p (ds.drop j++R) out)(hd:ds[j]?=some d)(h1:d.name≠[])(h2:wE out d.name<0):yM p (ds.drop (j+1)++R) (out++[d.name]):=by rw[lE hd,R0]at h;obtain⟨b,c⟩:=h;refine⟨?_,by simp at c⊢;omega⟩;rw[pz_neg]at h2;rw[iT,if_neg (by rw[h2];simp[h1])]at b;exact b
theorem vb_len(h:yM p (ds.drop j++R) out)(hd:ds[j]?=some d):out.length+1<=8000000000000:=by rw[lE hd,R0]at h;have:=h.2;simp at this;omega
theorem vb_out(h:yM p (ds.drop j++R) out)(hj:ds.length<=j):yM p R out:=by rw[qK hj]at h;exact h
theorem vb_end(h:yM p (dZ (l.drop i)) out)(hi:l.length<=i):dG p=out:=by rw[qK hi]at h;exact h.1.symm
end
theorem place8_spec(A:Option Addr)(c:Nat)(xs:List Bs)(s:Bs)(hl:xs.length<=140737488355328):cY prog 41 [.slice A xs.length c,.string (bs s)] [] [lZ.sl (.slice A xs.length c) xs] (λ(_:Unit)=> k6 (wE xs s)) (λ_=>[]) (λ_=>[]):=by
 have hT:=bJo;refine j5 func41 ntmps41 ?_;intro β hM;refine g12 ?_;refine cF (ι:=Nat) [(0,_),(1,_)] ⟨rfl,rfl,i6⟩ (λi=>[(5,.int .i64 (i:Nat))]) (λ_=>[]) (λi=>[Fact.pure (i<=xs.length/\s∉xs.take i)]) (λi=>xs.length-i) 0 ⟨rfl,i6⟩ .nil ⟨i7 (⟨l7,m9⟩),i6⟩ ?_;rintro i;refine bF d7 λb=>?_;refine g9 ?_;refine dP (λe=>?_) λe=>?_
 .refine g8 ?_;obtain⟨x1,d⟩:=gx xs i;refine ss (ixs i) ?_;refine ss (fG d 0) ?_;refine g4 ?_;refine fX (λa=>?_) λa=>?_
  .have a:x1=s:=eq_of_beq a;refine g12 ?_;exact rs1 () i6 (he:=congrArg (Value.int .i64) (pz_here b.2 d ‹_›))
  have a:x1≠s:=λh=>absurd (beq_iff_eq.2 h) (by rw[show(x1==s)=false from a];simp);refine g6 ?_;refine inc (i+1) ?_;refine g3 ?_;exact bk2 (i+1) ⟨i7 (⟨l7,pz_more b.2 d ‹_›⟩),i6⟩
 refine g11 ?_;exact rs1 () i6 (he:=congrArg (Value.int .i64) (pz_none b.2 l7))
theorem bRl(P:ProgV)(hl1:P.C.A.length<=140737488355328)(hs: ∀x∈P.C.A,x.B.A.length<=140737488355328)(hTT:(dZ P.pr.C).length<=8000000000000):cY prog 20 [.agg #[j8 P.C,j8 P.G]] [] [jP.sl (j8 P.C) P.C.A,iW P.C.A] (λ(x:Option Addr×Nat)=> .slice x.1 (dG P.pr).length x.2) (λ_=>[]) (λ(x:Option Addr×Nat)=>[lZ.sl (.slice x.1 (dG P.pr).length x.2) (dG P.pr)]):=by
 have hT:=bJo;refine j5 func20 ntmps20 ?_;intro β hM;refine g2 ?_;refine j4 λo=>?_;refine g10 ?_;refine bQ (t:=9) lZ ?_;refine g5 ?_;refine cF (ι:=Nat×List Bs×Option Addr×Nat) [(1,_)] ⟨rfl,i6⟩ (λ⟨i,vs,A1,c1⟩=>[(3,.slice A1 vs.length c1),(4,.int .i64 (i:Nat))]) (λ⟨i,vs,A1,c1⟩=>[lZ.row (.slice A1 vs.length c1) 9 vs]) (λ⟨i,vs,A1,c1⟩=>[Fact.pure (i<=P.C.A.length/\yM P.pr (dZ (P.pr.C.drop i)) vs)]) (λ⟨i,vs,A1,c1⟩=>P.C.A.length-i) (0,[],none,0) ⟨rfl,rfl,i6⟩ (.c0 .nil) ⟨i7 (⟨l7,vb_start hTT⟩),i6⟩ ?_;rintro⟨i,vs,A1,c1⟩;dsimp only;refine bF d7 λc=>?_;refine g10 ?_;refine dP (λhc11=>?_) λhc11=>?_
 .refine g5 ?_;obtain⟨x,hx⟩:=gx P.C.A i;have hx0:P.pr.C[i]?=some x.inp:=mP hx;refine bB (nS x) (Has.each d9 (j0 hx)) ?_;have g:=hs x (j0 hx);refine g5 ?_;refine cF (ι:=Nat×List Bs×Option Addr×Nat) [(1,_),(4,_)] ⟨rfl,rfl,i6⟩ (λ⟨j,vs2,A2,c2⟩=>[(3,.slice A2 vs2.length c2),(5,.int .i64 (j:Nat))]) (λ⟨j,vs2,A2,c2⟩=>[lZ.row (.slice A2 vs2.length c2) 9 vs2]) (λ⟨j,vs2,A2,c2⟩=>[Fact.pure (j<=x.B.A.length/\yM P.pr (x.inp.B.drop j++dZ (P.pr.C.drop (i+1))) vs2)]) (λ⟨j,vs2,A2,c2⟩=>x.B.A.length-j) (0,vs,A1,c1) ⟨rfl,rfl,i6⟩ (.c0 .nil) ⟨i7 (⟨l7,vb_in c.2 hx0⟩),i6⟩ ?_;rintro⟨j,vs2,A2,c2⟩;dsimp only;refine bF d7 λa=>?_;refine g7 ?_;refine ss (ixs i) ?_;refine one ?_;refine ss (fG hx 2) ?_;refine g4 ?_;refine dP (λe=>?_) λe=>?_
  .refine g5 ?_;obtain⟨d,f⟩:=gx x.B.A j;have hd0:x.inp.B[j]?=some d.sd:=mP f;have k:=vb_len a.2 hd0;refine g4 ?_;refine ss (ixs i) ?_;refine one ?_;refine ss (fG hx 2) ?_;refine one ?_;refine ss (ixs j) ?_;refine one ?_;refine ss (fG f 0) ?_;refine g8 ?_;refine cG (λb=>?_) (λb=>?_)
   .have b:d.name≠([]:Bs):=λh=>by rw[h]at b;first|(simp at b;done)|exact absurd b m6
    refine g2 ?_;refine hQ (bY func41 rfl rfl) (place8_spec A2 c2 vs2 d.name l7) rfl rfl rfl rfl rfl .nil (.c0 .nil) (pH lG) ⟨d7,i6⟩ (λ_=>True) (λ_ _ _ _=>trivial) λ_ _=>?_;refine g4 ?_;refine dP (λhc42=>?_) λhc42=>?_
    .refine g3 ?_;refine lH (m:=d.name) rfl rfl rfl rfl rfl λn=>?_;refine mR kT1 (bU .head rfl) rfl rfl rfl rfl rfl rfl rfl q9 λl c4=>?_;refine g7 ?_;refine inc (j+1) ?_;refine g3 ?_;exact bk2 (j+1,(vs2++[d.name]),l,c4) ⟨i7 (⟨by dsimp only;omega,vb_add a.2 hd0 ‹_› ‹_›⟩),i6⟩
    refine g6 ?_;refine inc (j+1) ?_;refine g3 ?_;exact bk2 (j+1,vs2,A2,c2) ⟨i7 (⟨by dsimp only;omega,vb_skip a.2 hd0 ag9⟩),i6⟩
   have b:d.name=([]:Bs):=eq_of_beq (mT b);refine g14 ?_;refine inc (j+1) ?_;refine g3 ?_;exact bk2 (j+1,vs2,A2,c2) ⟨i7 (⟨by dsimp only;omega,vb_skip a.2 hd0 ag9⟩),i6⟩
  refine g9 ?_;refine inc (i+1) ?_;refine g3 ?_;exact bk2 (i+1,vs2,A2,c2) ⟨i7 (⟨by dsimp only;omega,vb_out a.2 aj1⟩),i6⟩
 refine g12 ?_;have he:=vb_end c.2 af4;rw[he];refine bR .head ?_;exact rs1 (A1,c1) ⟨d7,i6⟩
theorem all_cut(P:ProgV)(k:Nat):(dZ (ProgV.pr ⟨⟨P.C.I,P.C.cap,P.C.A.take k⟩,⟨none,0,[]⟩⟩).C).length<=(dZ P.pr.C).length:=by
 show(dZ ((P.C.A.take k).map InputV.inp)).length<=(dZ (P.C.A.map InputV.inp)).length;have e:P.C.A.map InputV.inp=(P.C.A.take k).map InputV.inp++(P.C.A.drop k).map InputV.inp:=by rw[<-List.map_append,W8]
 rw[e];unfold dZ;rw[Z4,List.length_append];omega
theorem vars_cut{P:ProgV}{k:Nat}:dG (ProgV.pr ⟨⟨P.C.I,P.C.cap,P.C.A.take k⟩,⟨none,0,[]⟩⟩)=fewW P.pr.C k:=by show iT (dZ ((P.C.A.take k).map InputV.inp)) []=iT (dZ ((P.C.A.map InputV.inp).take k)) [];rw[List.map_take]
theorem ins_take{F:List Fact}{A:Option Addr}{c k:Nat}{l:List InputV}(h:Has F (jP.sl (.slice A l.length c) l))(hk:k<=l.length):Has F (jP.sl (.slice A (l.take k).length c) (l.take k)):=by rw[K6,L3 hk];exact bBq h hk
theorem wG(a0:Option Addr)(l0 c0:Nat):prog.built 25 [(0,.slice a0 l0 c0)]=some #[.slice a0 l0 c0,.slice none 0 0]:=m0
theorem few8_spec(P:ProgV)(hl1:P.C.A.length<=140737488355328)(hs: ∀x∈P.C.A,x.B.A.length<=140737488355328)(hTT:(dZ P.pr.C).length<=8000000000000)(hcp:P.C.A.length<=P.C.cap):cY prog 19 [.agg #[j8 P.C,j8 P.G]] [] [jP.sl (j8 P.C) P.C.A,iW P.C.A] (λ(z:Int)=> k6 z) (λ_=>[]) (λ(z:Int)=>[Fact.pure (FewZ (dG P.pr) P.pr.C z)]):=by
 have hT:=dK;refine j5 func19 ntmps19 ?_;intro β hM;refine g2 ?_;refine j4 λo=>?_;refine g10 ?_;refine cF (ι:=Nat) [(1,_)] ⟨rfl,i6⟩ (λi=>[(3,.int .i64 (i:Nat))]) (λ_=>[]) (λi=>[Fact.pure (i<=P.C.A.length/\bAv (dG P.pr) P.pr.C i/\(fewW P.pr.C i).length<=6)]) (λi=>P.C.A.length-i) 0 ⟨rfl,i6⟩ .nil ⟨i7 (⟨l7,bZz,fw_zero _⟩),i6⟩ ?_;rintro i;refine bF d7 λa=>?_;refine g10 ?_;refine dP (λhc10=>?_) λhc10=>?_
 .refine g6 ?_;obtain⟨x,hx⟩:=gx P.C.A i;have hx0:P.pr.C[i]?=some x.inp:=mP hx;have m:=hs x (j0 hx);refine bB (nS x) (Has.each d9 (j0 hx)) ?_;refine g5 ?_;refine inc (i+1) ?_;have hkl:i+1<=P.C.A.length:=l7
  refine ss (iY hT (k:=i+1) rfl rfl rfl rfl rfl (by first|rfl|omega) l7) ?_;refine hZ (v':= .slice P.C.I (P.C.A.take (i+1)).length P.C.cap) ab9 ?_;refine ss (j3 (wG _ _ _)) ?_;refine bD func20 (bRl ⟨⟨P.C.I,P.C.cap,(P.C.A.take (i+1))⟩,⟨none,0,[]⟩⟩ (by rw[K6];omega) (λx hx=>hs x (List.mem_of_mem_take hx)) (B1 (all_cut P (i+1)) hTT)) rfl rfl .nil ⟨ins_take d9 hkl,nB e6 _,i6⟩ λ⟨A2,c3⟩=>?_;refine hZ (v':= .slice A2 (fewW P.pr.C (i+1)).length c3) (by rw[<-vars_cut]) ?_;refine g4 ?_;refine dP (λl=>?_) λl=>?_
  .refine g13 ?_;exact rs1 (((i:Nat):Int):Int) ⟨i7 (fz_some hx0 (few_six a.2.1 hx0 a.2.2 l7)),i6⟩
  refine g3 ?_;have hw6:(fewW P.pr.C (i+1)).length<=6:=l7
  refine g5 ?_;refine cF (ι:=Nat) [(1,_),(3,_)] ⟨rfl,rfl,i6⟩ (λj=>[(4,.int .i64 (j:Nat))]) (λ_=>[]) (λj=>[Fact.pure (j<=x.B.A.length/\bKb (dG P.pr) x.inp.B j)]) (λj=>x.B.A.length-j) 0 ⟨rfl,i6⟩ .nil ⟨i7 (⟨l7,few_in⟩),i6⟩ ?_;rintro j;refine bF d7 λb=>?_;refine g7 ?_;refine ss (ixs i) ?_;refine one ?_;refine ss (fG hx 2) ?_;refine g4 ?_;refine dP (λg=>?_) λg=>?_
  .refine g9 ?_;refine ss (ixs i) ?_;refine one ?_;refine ss (fG hx 2) ?_;refine one ?_;obtain⟨x4,d⟩:=gx x.B.A j;refine ss (ixs j) ?_;refine ss (pF d 0) ?_;refine j1 zE λn=>?_;refine g4 ?_;have hd0:x.inp.B[j]?=some x4.sd:=mP d;refine g5 ?_;refine cG (λc=>?_) (λc=>?_)
   .have c:x4.name=([]:Bs):=eq_of_beq c;refine g4 ?_;refine lR (λe=>?_) λe=>?_
    .refine g24 ?_;exact rs1 (((i:Nat):Int):Int) ⟨i7 (fz_some hx0 (bEn a.2.1 hx0 b.2 hd0 (fs_a ‹_› ah5))),i6⟩
    refine g7 ?_;refine dP (λf=>?_) λf=>?_
    .refine g16 ?_;exact rs1 (((i:Nat):Int):Int) ⟨i7 (fz_some hx0 (bEn a.2.1 hx0 b.2 hd0 (fs_a ‹_› ah5))),i6⟩
    refine g6 ?_;refine inc (j+1) ?_;refine g3 ?_;exact bk2 (j+1) ⟨i7 (⟨l7,bKf b.2 hd0 ad7⟩),i6⟩
   have c:x4.name≠([]:Bs):=λh=>absurd (beq_iff_eq.2 h) (by rw[show(x4.name==([]:Bs))=false from c];simp);refine g18 ?_;refine inc (j+1) ?_;refine g3 ?_;exact bk2 (j+1) ⟨i7 (⟨l7,bKf b.2 hd0 ad7⟩),i6⟩
  refine g9 ?_;refine inc (i+1) ?_;refine g3 ?_;exact bk2 (i+1) ⟨i7 (⟨l7,few_out a.2.1 hx0 b.2 aj1,hw6⟩),i6⟩
 refine g11 ?_;exact rs1 ((-1):Int) ⟨i7 (fz_none a.2.1 af4),i6⟩
theorem builtM_0:prog.built 43 []=some #[k6 0,k7 0,k7 0,k7 0,k7 0,k7 0,k7 0]:=m0
theorem run_neq_E(m:Mono)(w:World):(binOp .neq 41 (.agg #[k7 m.U.toNat,k7 m.T.toNat,k7 m.R.toNat,k7 m.Q.toNat,k7 m.O.toNat,k7 m.N.toNat]) (.agg #[k7 0,k7 0,k7 0,k7 0,k7 0,k7 0])).run prog w= .ok (.bool (!uI m)) w:=by rw[run_neq_struct];have h:=tL 9998 m ⟨0,0,0,0,0,0,0⟩ w;have e:(Value.agg #[.int .u8 (((0:UInt8).toNat:Nat):Int),.int .u8 (((0:UInt8).toNat:Nat):Int),.int .u8 (((0:UInt8).toNat:Nat):Int),.int .u8 (((0:UInt8).toNat:Nat):Int),.int .u8 (((0:UInt8).toNat:Nat):Int),.int .u8 (((0:UInt8).toNat:Nat):Int)])= .agg #[.int .u8 0,.int .u8 0,.int .u8 0,.int .u8 0,.int .u8 0,.int .u8 0]:=rfl;rw[e]at h;rw[h];rfl
theorem sti_neq_E{β:fS}{n:Nat}{Γ:Env}{H:List bK}{F:List Fact}{o:Oper}{a b:Operand}{tt:TypeId}(m:Mono)(ho:o.op= .binOp .neq 41 a b tt)(hx:Γ.ev a=some (.agg #[k7 m.U.toNat,k7 m.T.toNat,k7 m.R.toNat,k7 m.Q.toNat,k7 m.O.toNat,k7 m.N.toNat]))(hy:Γ.ev b=some (.agg #[k7 0,k7 0,k7 0,k7 0,k7 0,k7 0])):Sti prog β n Γ H F o (.bool (!uI m)):=λc w S f s k=>by
 have hq:prog.eqGuardType prog.depth 41=false:=m0
 have hg:(eqGuard .neq 41 a b (.agg #[.int .u8 m.U.toNat,.int .u8 m.T.toNat,.int .u8 m.R.toNat,.int .u8 m.Q.toNat,.int .u8 m.O.toNat,.int .u8 m.N.toNat]) (.agg #[.int .u8 0,.int .u8 0,.int .u8 0,.int .u8 0,.int .u8 0,.int .u8 0])).run prog w= .ok () w:=by unfold eqGuard;have d:(program:Sem Program).run prog w= .ok prog w:=rfl;simp[d,hq]
 unfold execOp;simp only[ho,f.ev hx,f.ev hy];rw[Sem.run_bind,Sem.run_bind,hg,Result.andThen_ok,run_neq_E];rfl
theorem flat_eq{m:Mono}(h:uI m=true):m=⟨m.n,0,0,0,0,0,0⟩:=by obtain⟨n,a,b,c,d,e,f⟩:=m;simp[uI,Mono.sameE]at h;simp[h]
def Cnt9 (v:List Mono)(i:Nat)(n:Int):Prop:=((∀m∈v.take i,uI m=true)/\n=match (v.take i).getLast? with
 |none=>0
 |some m=>m.n)/\ -16777216<=n/\n<=16777216
theorem cnt9_start(v:List Mono):Cnt9 v 0 0:=⟨⟨λm h=>by simp at h,rfl⟩,m6,m6⟩
section
variable {v : List Mono} {i : Nat} {n : Int} {m : Mono}
theorem cnt9_step(hr:dE v=true)(h:Cnt9 v i n)(hm:v[i]?=some m)(hf:uI m=true):Cnt9 v (i+1) m.n:=by
 have e:v.take (i+1)=v.take i++[m]:=by rw[R6,hm];rfl
 refine⟨⟨λq hq=>?_,?_⟩,bPm hr hm⟩
 .rw[e]at hq
  rcases E3.1 hq with hq|hq
  .exact h.1.1 q hq
  .rw[K7.1 hq];exact hf
 .rw[e,List.getLast?_concat]
theorem bVf(m:Mono):fO [bKu m] 1=uI m:=by
 cases hf:uI m with
 |false=>
  have:uI (bKu m)=false:=hf;simp[fO,this]
 |true=>
  rw[flat_eq hf];rfl
theorem cnt9_bad(hr:dE v=true)(hm:v[i]?=some m)(hf:uI m=false):pV v=none:=by
 match v,hm with
 |[q],hm=>
  obtain⟨hi,rfl⟩:=F3.1 hm;have h0:i=0:=by simpa using hi
  subst h0;exact if_pos ((bVf _).trans hf)
 |_::_::_,_=>rfl
theorem cnt9_end(hr:dE v=true)(h:Cnt9 v i n)(hi:v.length<=i):pV v=some n:=by
 obtain⟨⟨h1,h2⟩,_⟩:=h;rw[F6 hi]at h1 h2
 match v,h1,h2 with
 |[],_,h2=>rw[h2];rfl
 |[q],h1,h2=>
  have hf:=h1 q (K7.2 rfl);rw[h2];exact if_neg (by rw[bVf,hf];decide)
 |q::p::r,h1,_=>
  have hq:=flat_eq (h1 q (E8 ..));have a:=flat_eq (h1 p (E4 _ (E8 ..)))
  exfalso
  simp only[dE,gH,Bool.and_eq_true]at hr;have ho:=of_decide_eq_true hr.2.2.2.1;rw[hq,a]at ho;exact absurd ho (by show ¬(ord ⟨q.n,0,0,0,0,0,0⟩ ⟨p.n,0,0,0,0,0,0⟩<0);rw[show ord ⟨q.n,0,0,0,0,0,0⟩ ⟨p.n,0,0,0,0,0,0⟩=0 from rfl];decide)
end
section
variable {a b : TyV} {x y p : PolV} {n : Int} {A : Option Addr} {q : Nat} {V : Sl PolV}
theorem set_cons(hy:b.B.A[0]?=some y):((⟨⟨A,q,b.B.A.set 0 p⟩,b.known,V⟩:TyV).t,(0:Int))=((⟨⟨A,q,[p]++b.B.A.drop 1⟩,b.known,V⟩:TyV).t,0):=by
 have e:bN (b.B.A.set 0 p)=bN ([p]++b.B.A.drop 1):=by rw[bGc hy];show _=p.A::bN (b.B.A.drop 1);rw[oT];cases bN b.B.A<;>rfl
 show(_,(0:Int))=((⟨bN _,b.known,bN V.A⟩:TyP),(0:Int));rw[<-e];rfl
theorem pt9_f(h:a.B.A.length=0)(k:0<b.B.A.length)(g:a.known=true)(hx:a.values.A[0]?=some x)(hc:pV x.A=some n)(hy:b.B.A[0]?=some y)(c:fO y.A (max n (-n))=true)(hp:p.A=bZ (max n (-n)))
  (hV:bN V.A=if b.known=true then xF true n (bN b.values.A)else bN b.values.A):lT true a.t b.t=((⟨⟨A,q,[p]++b.B.A.drop 1⟩,b.known,V⟩:TyV).t,0):=(bRc h k g hx hc hy c hp hV).trans (set_cons hy)
theorem pt9_g(h:a.B.A.length=0)(k:0<b.B.A.length)(g:a.known=true)(hx:a.values.A[0]?=some x)(hc:pV x.A=some n)(hy:b.B.A[0]?=some y)(c:fO y.A (max n (-n))=true)(e:(cD y.A (bZ (max n (-n))) (-1)).2=0)(hp:p.A=(cD y.A (bZ (max n (-n))) (-1)).1)
  (hV:bN V.A=if b.known=true then xF false n (bN b.values.A)else bN b.values.A):lT false a.t b.t=((⟨⟨A,q,[p]++b.B.A.drop 1⟩,b.known,V⟩:TyV).t,0):=(bVb h k g hx hc hy c e hp hV).trans (set_cons hy)
end
theorem bTy(dr:Bool)(a b:TyV)(ha:WfT a.t)(hb:WfT b.t):cY prog 76 [.agg #[j8 a.B,.bool a.known,j8 a.values],.agg #[j8 b.B,.bool b.known,j8 b.values],.bool dr] [] [tyF a,tyF b] (λ(x:TyV)=> .tuple #[tyC x,k6 (lT (!dr) a.t b.t).2]) (λ_=>[]) (λ(x:TyV)=>[tyF x,Fact.pure ((lT (!dr) a.t b.t).2=0->x.t=(lT (!dr) a.t b.t).1)]):=by
 have hT:=dK;have hsa:=oF ha;have hva:=wA ha;have hsb:=oF hb;have hvb:=wA hb;generalize y:lT (!dr) a.t b.t=r;refine j5 func76 ntmps76 ?_;intro β hM;refine bP<|bB (cM a.B) (jR d7) ?_;refine cE a.B mT0 λhc_as=>bB (cM a.values) (jS e6)<|cE a.values mT0 λhc_av=>bB (cM b.B) (jR f3)<|cE b.B mT0 λhc_bs=>bB (cM b.values) (jS f7)<|cE b.values mT0 λg=>?_;refine one ?_;refine j4 λb1=>?_;refine j4 λb2=>?_;refine j1 sQ λb3=>?_;refine g11 ?_;refine lR (λU=>?_) λU=>?_
 .refine g10 ?_;refine ss (j3 (zO)) ?_;refine g6 ?_;have hr:=y.symm.trans (ptT_a l7);subst hr;exact rs2 (⟨⟨none,0,[]⟩,false,⟨none,0,[]⟩⟩:TyV) ⟨(bS (x:=⟨⟨none,0,[]⟩,false,⟨none,0,[]⟩⟩) bO bO),i7 (λh=>absurd (show(90:Int)=0 from h) m6),i6⟩
 refine g7 ?_;refine gN (λhc27=>?_) λhc27=>?_
 .refine g2 ?_;refine ss (j3 (zO)) ?_;refine g6 ?_;have hr:=y.symm.trans (ptT_a l7);subst hr;exact rs2 (⟨⟨none,0,[]⟩,false,⟨none,0,[]⟩⟩:TyV) ⟨(bS (x:=⟨⟨none,0,[]⟩,false,⟨none,0,[]⟩⟩) bO bO),i7 (λh=>absurd (show(90:Int)=0 from h) m6),i6⟩
 refine g10 ?_;refine iQ (λhc31=>?_) λhc31=>?_
 .refine g2 ?_;refine ss (j3 (zO)) ?_;refine g6 ?_;have hr:=y.symm.trans (ptT_b l7 l7 ‹_›);subst hr;exact rs2 (⟨⟨none,0,[]⟩,false,⟨none,0,[]⟩⟩:TyV) ⟨(bS (x:=⟨⟨none,0,[]⟩,false,⟨none,0,[]⟩⟩) bO bO),i7 (λh=>absurd (show(92:Int)=0 from h) m6),i6⟩
 refine g3 ?_;have hv1:=wf_one ha ‹_› l7;refine g8 ?_;obtain⟨x4,f⟩:=gx a.values.A 0;refine ss (ixs 0) ?_;refine ss (fG f 0) ?_;refine bB (kI x4) (Has.each e9 (j0 f))<|bB (fE.sl (.slice x4.I x4.A.length x4.cap) x4.A) (yK d7) ?_;have B:=wf_val ha f;have hxl:=iC B;refine g10 ?_;refine cF (ι:=Nat×Int) [(2,_),(4,_),(6,_),(9,_)] ⟨rfl,rfl,rfl,rfl,i6⟩ (λ⟨i,n⟩=>[(8,.int .i64 n),(10,.int .i64 (i:Nat))]) (λ_=>[]) (λ⟨i,n⟩=>[Fact.pure (i<=x4.A.length/\Cnt9 x4.A i n)]) (λ⟨i,n⟩=>x4.A.length-i) (0,0) ⟨rfl,rfl,i6⟩ .nil ⟨i7 (⟨l7,cnt9_start _⟩),i6⟩ ?_;rintro⟨i,n⟩;dsimp only;refine bF d7 λhinv8=>?_;refine g9 ?_;refine dP (λZ=>?_) λZ=>?_
 .refine g9 ?_;obtain⟨x6,C⟩:=gx x4.A i;refine ss (ixs i) ?_;refine one ?_;refine ss (pF C 1) ?_;refine ss (j3 builtM_0) ?_;refine one ?_;refine ss (sti_neq_E x6 rfl rfl rfl) ?_;refine g2 ?_;refine iQ (λY=>?_) λY=>?_
  .refine g2 ?_;refine ss (j3 (zO)) ?_;refine g11 ?_;have hr:=y.symm.trans (ptT_c l7 l7 ‹_› f (cnt9_bad B C ‹_›));subst hr;exact rs2 (⟨⟨none,0,[]⟩,false,⟨none,0,[]⟩⟩:TyV) ⟨(bS (x:=⟨⟨none,0,[]⟩,false,⟨none,0,[]⟩⟩) bO bO),i7 (λh=>absurd (show(93:Int)=0 from h) m6),i6⟩
  refine g5 ?_;refine ss (ixs i) ?_;refine one ?_;refine ss (fG C 0) ?_;refine g7 ?_;refine inc (i+1) ?_;refine g3 ?_;exact bk2 (i+1,x6.n) ⟨i7 (⟨by dsimp only;omega,cnt9_step B hinv8.2 C ‹_›⟩),i6⟩
 refine g6 ?_;have v:=cnt9_end B hinv8.2 l7;have hnr:=hinv8.2.2.1;have hnr2:=hinv8.2.2.2;refine g4 ?_;refine bJ (z':= -n) ah8 ?_;refine one ?_;refine bJ (z':=max n (-n)) (maxZ _ _) ?_;refine g8 ?_;obtain⟨x8,d⟩:=gx b.B.A 0;refine ss (ixs 0) ?_;refine ss (fG d 0) ?_;refine one ?_;refine bF (dC (Has.each e9 (j0 d))) λJ=>?_;refine j2 func112 (bVi (p:=x8) (max n (-n)) J) ⟨(Has.each e9 (j0 d)),i6⟩ λ_=>?_;refine g3 ?_;refine iQ (λX=>?_) λX=>?_
 .refine g2 ?_;refine ss (j3 (zO)) ?_;refine g6 ?_;have hr:=y.symm.trans (ptT_d l7 l7 ‹_› f v d ‹_›);subst hr;exact rs2 (⟨⟨none,0,[]⟩,false,⟨none,0,[]⟩⟩:TyV) ⟨(bS (x:=⟨⟨none,0,[]⟩,false,⟨none,0,[]⟩⟩) bO bO),i7 (λh=>absurd (show(93:Int)=0 from h) m6),i6⟩
 refine g6 ?_;refine ss (j3 (xW _)) ?_;refine j1 sQ λb11=>?_;refine g6 ?_;refine j2 func68 (kT ((max n (-n)))) i6 λ⟨A12,c13⟩=>?_;refine g5 ?_
 rcases bQd dr with D|D
 .subst D;refine g9 ?_;refine ss (ixs 0) ?_;refine ss (fG d 0) ?_;refine one ?_;refine bF (dC (Has.each f3 (j0 d))) λI=>bF (dC d7) λG=>?_;refine j2 func111 (refSub9 (p:=x8) (q:=⟨A12,c13,bZ ((max n (-n)))⟩) I G) ⟨(Has.each f3 (j0 d)),d7,i6⟩ λ⟨A14,c15⟩=>?_;refine g14 ?_;refine uD (λW=>?_) λW=>?_
  .refine g2 ?_;refine ss (j3 (zO)) ?_;refine g7 ?_;have hr:=y.symm.trans (ptT_e l7 l7 ‹_› f v d ‹_› ‹_›);subst hr;exact rs2 (⟨⟨none,0,[]⟩,false,⟨none,0,[]⟩⟩:TyV) ⟨(bS (x:=⟨⟨none,0,[]⟩,false,⟨none,0,[]⟩⟩) bO bO),i7 (λh=>absurd (show(95:Int)=0 from h) m6),i6⟩
  refine g10 ?_;refine j7 (m:=⟨A14,c15,(cD x8.A (bZ ((max n (-n)))) (-1)).1⟩) λb18=>?_;refine dO (E:=bT) (xs:=[(⟨A14,c15,(cD x8.A (bZ ((max n (-n)))) (-1)).1⟩:PolV)]) .head aa1 ?_;refine g2 ?_;refine ss (dV hT (k:=1) rfl rfl rfl rfl rfl rfl l7) ?_;refine bB (bT.sl (.slice (iS b.B.I 1 bT.size b.B.cap) (b.B.A.length-1) (b.B.cap-1)) (b.B.A.drop 1)) (kC f6 ag5 ab5)<|bB (polsF (b.B.A.drop 1)) (iI 1 f6) ?_;refine cU .head (bG d8) rfl rfl rfl rfl rfl rfl r7 o6 λu o=>?_;refine fW .head λc=>bR .head<|bB (polsF ([(⟨A14,c15,(cD x8.A (bZ ((max n (-n)))) (-1)).1⟩:PolV)]++(b.B.A.drop 1))) (iE (gP e6) d8) ?_;refine g12 ?_;refine iQ (λz=>?_) λz=>?_
  .refine g9 ?_;have hr:=y.symm.trans (pt9_g (A:=u) (q:=o) (p:=⟨A14,c15,(cD x8.A (bZ ((max n (-n)))) (-1)).1⟩) (V:=⟨none,0,[]⟩) l7 l7 ‹_› f v d ‹_› l7 rfl (((if_neg ag3).trans (hb.un ‹_›)).symm));subst hr;exact rs2 (⟨⟨u,o,([(⟨A14,c15,(cD x8.A (bZ ((max n (-n)))) (-1)).1⟩:PolV)]++(b.B.A.drop 1))⟩,b.known,⟨none,0,[]⟩⟩:TyV) ⟨(bS (x:=⟨⟨u,o,([(⟨A14,c15,(cD x8.A (bZ ((max n (-n)))) (-1)).1⟩:PolV)]++(b.B.A.drop 1))⟩,b.known,⟨none,0,[]⟩⟩) (cB d8 d7 (c)) bO),i7 (λ_=>rfl),i6⟩
  refine g3 ?_;have hcv:=bLw hb l7 ‹_› d ‹_›;refine g20 ?_;refine dP (λw=>?_) λw=>?_
  .refine g4 ?_;refine bJ (z':=(((b.values.A.length:Nat):Int)+n)) (yW l7 l7) ?_;refine g9 ?_;refine bC (t':=true) (decide_eq_true l7) ?_;refine one ?_;refine bC (t':=true) m6 ?_;refine g3 ?_;have hkl:(((b.values.A.length:Nat):Int)+n).toNat<=b.values.A.length:=l7
   refine bB (cM ⟨b.values.I,b.values.cap,b.values.A.take ((((b.values.A.length:Nat):Int)+n).toNat)⟩) (nJ f8 g hkl)<|bB (bT.sl (.slice b.values.I (b.values.A.take ((((b.values.A.length:Nat):Int)+n).toNat)).length b.values.cap) (b.values.A.take ((((b.values.A.length:Nat):Int)+n).toNat))) (oL d7)<|bB (polsF (b.values.A.take ((((b.values.A.length:Nat):Int)+n).toNat))) (pK d8)<|bQ (t:=40) bT ?_;refine cL _ _ [j9,u5,u9,A00,u6,(false,1),A17,A01,A68] cN o0 (.c2 (.c2 (.c2 .nil))) bA.self ?_;refine g4 ?_;refine stM rfl (iY hT (k:=(((b.values.A.length:Nat):Int)+n).toNat) rfl rfl rfl rfl rfl l7 l7) ?_;refine hZ (v':= .slice b.values.I (b.values.A.take ((((b.values.A.length:Nat):Int)+n).toNat)).length b.values.cap) ab9 ?_;refine g4 ?_;refine cU .head (bG d8) rfl rfl rfl rfl rfl rfl r7 o6 λR N=>?_;refine g8 ?_;refine fW kT1 λe=>bR kT1<|bB (polsF ([]++(b.values.A.take ((((b.values.A.length:Nat):Int)+n).toNat)))) (iE Has.each_nil d8) ?_;refine g7 ?_;have hr:=y.symm.trans (pt9_g (A:=u) (q:=o) (p:=⟨A14,c15,(cD x8.A (bZ ((max n (-n)))) (-1)).1⟩) (V:=⟨R,N,([]++(b.values.A.take ((((b.values.A.length:Nat):Int)+n).toNat)))⟩) l7 l7 ‹_› f v d ‹_› l7 rfl (((if_pos (show b.known=true from by assumption)).trans (bMq (k:=(((b.values.A.length:Nat):Int)+n).toNat) (tk:=false) (n:=n) (l:=b.values.A) (decide_eq_false l7).symm (by split<;>omega))).symm));subst hr;exact rs2 (⟨⟨u,o,([(⟨A14,c15,(cD x8.A (bZ ((max n (-n)))) (-1)).1⟩:PolV)]++(b.B.A.drop 1))⟩,b.known,⟨R,N,([]++(b.values.A.take ((((b.values.A.length:Nat):Int)+n).toNat)))⟩⟩:TyV) ⟨(bS (x:=⟨⟨u,o,([(⟨A14,c15,(cD x8.A (bZ ((max n (-n)))) (-1)).1⟩:PolV)]++(b.B.A.drop 1))⟩,b.known,⟨R,N,([]++(b.values.A.take ((((b.values.A.length:Nat):Int)+n).toNat)))⟩⟩) (cB e9 e8 (c)) (cB d8 d7 (e))),i7 (λ_=>rfl),i6⟩
  refine g8 ?_;refine bC (t':=false) (decide_eq_false l7) ?_;refine one ?_;refine bC (t':=false) m6 ?_;refine g3 ?_;have hkl:n.toNat<=b.values.A.length:=l7
  refine bB (cM ⟨iS b.values.I (n.toNat) bT.size b.values.cap,b.values.cap-n.toNat,b.values.A.drop (n.toNat)⟩) (sX f8 g hkl)<|bB (bT.sl (.slice (iS b.values.I (n.toNat) bT.size b.values.cap) (b.values.A.drop (n.toNat)).length (b.values.cap-n.toNat)) (b.values.A.drop (n.toNat))) (oL d7)<|bB (polsF (b.values.A.drop (n.toNat))) (pK d8)<|bQ (t:=40) bT ?_;refine cL _ _ [j9,u5,u9,A00,u6,(false,1),A17,A01,A68] cN o0 (.c2 (.c2 (.c2 .nil))) bA.self ?_;refine g4 ?_;refine stM rfl (dV hT (k:=n.toNat) rfl rfl rfl rfl rfl l7 l7) ?_;refine hZ (v':= .slice (iS b.values.I (n.toNat) bT.size b.values.cap) (b.values.A.drop (n.toNat)).length (b.values.cap-n.toNat)) ad8 ?_;refine g4 ?_;refine cU .head (bG d8) rfl rfl rfl rfl rfl rfl r7 o6 λQ M=>?_;refine g8 ?_;refine fW kT1 λe=>bR kT1<|bB (polsF ([]++(b.values.A.drop (n.toNat)))) (iE Has.each_nil d8) ?_;refine g7 ?_;have hr:=y.symm.trans (pt9_g (A:=u) (q:=o) (p:=⟨A14,c15,(cD x8.A (bZ ((max n (-n)))) (-1)).1⟩) (V:=⟨Q,M,([]++(b.values.A.drop (n.toNat)))⟩) l7 l7 ‹_› f v d ‹_› l7 rfl (((if_pos (show b.known=true from by assumption)).trans (bLs (k:=n.toNat) (tk:=false) (n:=n) (l:=b.values.A) aj4 (by split<;>omega))).symm));subst hr;exact rs2 (⟨⟨u,o,([(⟨A14,c15,(cD x8.A (bZ ((max n (-n)))) (-1)).1⟩:PolV)]++(b.B.A.drop 1))⟩,b.known,⟨Q,M,([]++(b.values.A.drop (n.toNat)))⟩⟩:TyV) ⟨(bS (x:=⟨⟨u,o,([(⟨A14,c15,(cD x8.A (bZ ((max n (-n)))) (-1)).1⟩:PolV)]++(b.B.A.drop 1))⟩,b.known,⟨Q,M,([]++(b.values.A.drop (n.toNat)))⟩⟩) (cB e9 e8 (c)) (cB d8 d7 (e))),i7 (λ_=>rfl),i6⟩
 subst D;refine g10 ?_;refine j7 (m:=⟨A12,c13,bZ ((max n (-n)))⟩) λb25=>?_;refine dO (E:=bT) (xs:=[(⟨A12,c13,bZ ((max n (-n)))⟩:PolV)]) .head aa1 ?_;refine g2 ?_;refine ss (dV hT (k:=1) rfl rfl rfl rfl rfl rfl l7) ?_;refine bB (bT.sl (.slice (iS b.B.I 1 bT.size b.B.cap) (b.B.A.length-1) (b.B.cap-1)) (b.B.A.drop 1)) (kC f5 ag5 ab5)<|bB (polsF (b.B.A.drop 1)) (iI 1 f5) ?_;refine cU .head (bG d8) rfl rfl rfl rfl rfl rfl r7 o6 λs j=>?_;refine fW .head λc=>bR .head<|bB (polsF ([(⟨A12,c13,bZ ((max n (-n)))⟩:PolV)]++(b.B.A.drop 1))) (iE (gP e6) d8) ?_;refine g12 ?_;refine iQ (λz=>?_) λz=>?_
 .refine g9 ?_;have hr:=y.symm.trans (pt9_f (A:=s) (q:=j) (p:=⟨A12,c13,bZ ((max n (-n)))⟩) (V:=⟨none,0,[]⟩) l7 l7 ‹_› f v d ‹_› rfl (((if_neg ag3).trans (hb.un ‹_›)).symm));subst hr;exact rs2 (⟨⟨s,j,([(⟨A12,c13,bZ ((max n (-n)))⟩:PolV)]++(b.B.A.drop 1))⟩,b.known,⟨none,0,[]⟩⟩:TyV) ⟨(bS (x:=⟨⟨s,j,([(⟨A12,c13,bZ ((max n (-n)))⟩:PolV)]++(b.B.A.drop 1))⟩,b.known,⟨none,0,[]⟩⟩) (cB d8 d7 (c)) bO),i7 (λ_=>rfl),i6⟩
 refine g3 ?_;have hcv:=bLw hb l7 ‹_› d ‹_›;refine g20 ?_;refine dP (λw=>?_) λw=>?_
 .refine g4 ?_;refine bJ (z':=(((b.values.A.length:Nat):Int)+n)) (yW l7 l7) ?_;refine g9 ?_;refine bC (t':=true) (decide_eq_true l7) ?_;refine one ?_;refine bC (t':=false) m6 ?_;refine g3 ?_;have hkl:(((b.values.A.length:Nat):Int)+n).toNat<=b.values.A.length:=l7
  refine bB (cM ⟨iS b.values.I ((((b.values.A.length:Nat):Int)+n).toNat) bT.size b.values.cap,b.values.cap-(((b.values.A.length:Nat):Int)+n).toNat,b.values.A.drop ((((b.values.A.length:Nat):Int)+n).toNat)⟩) (sX f7 g hkl)<|bB (bT.sl (.slice (iS b.values.I ((((b.values.A.length:Nat):Int)+n).toNat) bT.size b.values.cap) (b.values.A.drop ((((b.values.A.length:Nat):Int)+n).toNat)).length (b.values.cap-(((b.values.A.length:Nat):Int)+n).toNat)) (b.values.A.drop ((((b.values.A.length:Nat):Int)+n).toNat))) (oL d7)<|bB (polsF (b.values.A.drop ((((b.values.A.length:Nat):Int)+n).toNat))) (pK d8)<|bQ (t:=40) bT ?_;refine cL _ _ [j9,u5,u9,A00,u6,(false,1),A17,A01,A68] cN o0 (.c2 (.c2 (.c2 .nil))) bA.self ?_;refine g4 ?_;refine stM rfl (dV hT (k:=(((b.values.A.length:Nat):Int)+n).toNat) rfl rfl rfl rfl rfl l7 l7) ?_;refine hZ (v':= .slice (iS b.values.I ((((b.values.A.length:Nat):Int)+n).toNat) bT.size b.values.cap) (b.values.A.drop ((((b.values.A.length:Nat):Int)+n).toNat)).length (b.values.cap-(((b.values.A.length:Nat):Int)+n).toNat)) ad8 ?_;refine g4 ?_;refine cU .head (bG d8) rfl rfl rfl rfl rfl rfl r7 o6 λP L=>?_;refine g8 ?_;refine fW kT1 λe=>bR kT1<|bB (polsF ([]++(b.values.A.drop ((((b.values.A.length:Nat):Int)+n).toNat)))) (iE Has.each_nil d8) ?_;refine g7 ?_;have hr:=y.symm.trans (pt9_f (A:=s) (q:=j) (p:=⟨A12,c13,bZ ((max n (-n)))⟩) (V:=⟨P,L,([]++(b.values.A.drop ((((b.values.A.length:Nat):Int)+n).toNat)))⟩) l7 l7 ‹_› f v d ‹_› rfl (((if_pos (show b.known=true from by assumption)).trans (bLs (k:=(((b.values.A.length:Nat):Int)+n).toNat) (tk:=true) (n:=n) (l:=b.values.A) aj3 (by split<;>omega))).symm));subst hr;exact rs2 (⟨⟨s,j,([(⟨A12,c13,bZ ((max n (-n)))⟩:PolV)]++(b.B.A.drop 1))⟩,b.known,⟨P,L,([]++(b.values.A.drop ((((b.values.A.length:Nat):Int)+n).toNat)))⟩⟩:TyV) ⟨(bS (x:=⟨⟨s,j,([(⟨A12,c13,bZ ((max n (-n)))⟩:PolV)]++(b.B.A.drop 1))⟩,b.known,⟨P,L,([]++(b.values.A.drop ((((b.values.A.length:Nat):Int)+n).toNat)))⟩⟩) (cB e9 e8 (c)) (cB d8 d7 (e))),i7 (λ_=>rfl),i6⟩
 refine g8 ?_;refine bC (t':=false) (decide_eq_false l7) ?_;refine one ?_;refine bC (t':=true) m6 ?_;refine g3 ?_;have hkl:n.toNat<=b.values.A.length:=l7
 refine bB (cM ⟨b.values.I,b.values.cap,b.values.A.take (n.toNat)⟩) (nJ f7 g hkl)<|bB (bT.sl (.slice b.values.I (b.values.A.take (n.toNat)).length b.values.cap) (b.values.A.take (n.toNat))) (oL d7)<|bB (polsF (b.values.A.take (n.toNat))) (pK d8)<|bQ (t:=40) bT ?_;refine cL _ _ [j9,u5,u9,A00,u6,(false,1),A17,A01,A68] cN o0 (.c2 (.c2 (.c2 .nil))) bA.self ?_;refine g4 ?_;refine stM rfl (iY hT (k:=n.toNat) rfl rfl rfl rfl rfl l7 l7) ?_;refine hZ (v':= .slice b.values.I (b.values.A.take (n.toNat)).length b.values.cap) ab9 ?_;refine g4 ?_;refine cU .head (bG d8) rfl rfl rfl rfl rfl rfl r7 o6 λO K=>?_;refine g8 ?_;refine fW kT1 λe=>bR kT1<|bB (polsF ([]++(b.values.A.take (n.toNat)))) (iE Has.each_nil d8) ?_;refine g7 ?_;have hr:=y.symm.trans (pt9_f (A:=s) (q:=j) (p:=⟨A12,c13,bZ ((max n (-n)))⟩) (V:=⟨O,K,([]++(b.values.A.take (n.toNat)))⟩) l7 l7 ‹_› f v d ‹_› rfl (((if_pos (show b.known=true from by assumption)).trans (bMq (k:=n.toNat) (tk:=true) (n:=n) (l:=b.values.A) (decide_eq_true l7).symm (by split<;>omega))).symm));subst hr;exact rs2 (⟨⟨s,j,([(⟨A12,c13,bZ ((max n (-n)))⟩:PolV)]++(b.B.A.drop 1))⟩,b.known,⟨O,K,([]++(b.values.A.take (n.toNat)))⟩⟩:TyV) ⟨(bS (x:=⟨⟨s,j,([(⟨A12,c13,bZ ((max n (-n)))⟩:PolV)]++(b.B.A.drop 1))⟩,b.known,⟨O,K,([]++(b.values.A.take (n.toNat)))⟩⟩) (cB e9 e8 (c)) (cB d8 d7 (e))),i7 (λ_=>rfl),i6⟩
theorem dy9_spec(f:Int)(a b:TyV)(ha:WfT a.t)(hb:WfT b.t):cY prog 45 [k7 f,.agg #[j8 a.B,.bool a.known,j8 a.values],.agg #[j8 b.B,.bool b.known,j8 b.values]] [] [tyF a,tyF b] (λ(x:TyV)=> .tuple #[tyC x,k6 (oQ f a.t b.t).2]) (λ_=>[]) (λ(x:TyV)=>[tyF x,Fact.pure ((oQ f a.t b.t).2=0->x.t=(oQ f a.t b.t).1)]):=by
 have hT:=dK;have C:=oF ha;have A:=wA ha;have B:=oF hb;have z:=wA hb;generalize g:oQ f a.t b.t=r;refine j5 func45 ntmps45 ?_;intro β hM;refine bP<|bB (cM a.B) (jR d7) ?_;refine cE a.B mT0 λs=>bB (cM a.values) (jS e6)<|cE a.values mT0 λq=>bB (cM b.B) (jR f3)<|cE b.B mT0 λhc_bs=>bB (cM b.values) (jS f7)<|cE b.values mT0 λp=>?_;refine one ?_;refine j4 λI=>?_;refine j4 λG=>?_;refine j1 sQ λE=>?_;refine g16 ?_;refine gN (λo=>?_) λo=>?_
 .refine g4 ?_;refine j2 func75 (rho9_spec a b ha hb) ⟨f9,g0,i6⟩ λy=>?_;refine bF d8 λhy=>?_;refine g9 ?_;obtain rfl:=g.symm.trans (dy_a ‹_›);exact rs2 (y:TyV) ⟨d7,i7 hy,i6⟩
 refine g7 ?_;refine gN (λhc19=>?_) λhc19=>?_
 .refine bC (t':=true) (beq_iff_eq.2 ‹_›) ?_;refine g9 ?_;refine bC (t':=false) (by rw[hc19];rfl) ?_;refine j2 func76 (bTy false a b ha hb) ⟨f9,g0,i6⟩ λw=>?_;refine bF d8 λhy=>?_;refine g9 ?_;obtain rfl:=g.symm.trans (dy_b ‹_›);exact rs2 (w:TyV) ⟨d7,i7 hy,i6⟩
 refine g5 ?_;refine gN (λc=>?_) λc=>?_
 .refine bC (t':=true) (beq_iff_eq.2 ‹_›) ?_;refine g6 ?_;refine bC (t':=true) (by rw[c];rfl) ?_;refine j2 func76 (bTy true a b ha hb) ⟨f9,g0,i6⟩ λv=>?_;refine bF d8 λhy=>?_;refine g9 ?_;obtain rfl:=g.symm.trans (dy_c ‹_›);exact rs2 (v:TyV) ⟨d7,i7 hy,i6⟩
 refine g6 ?_;refine gN (λn=>?_) λn=>?_
 .refine g4 ?_;refine j2 func77 (cat9_spec a b ha hb) ⟨f9,g0,i6⟩ λu=>?_;refine bF d8 λhy=>?_;refine g9 ?_;obtain rfl:=g.symm.trans (dy_d ‹_›);exact rs2 (u:TyV) ⟨d7,i7 hy,i6⟩
 refine g4 ?_;refine xB (ι:=Unit) [(0,_),(4,_),(5,_),(6,_)] ⟨rfl,rfl,rfl,rfl,i6⟩ (λ_u=>[]) (λ_u=>[]) .nil (λ_u=>[Fact.pure (a.B.A.length=0\/b.B.A.length=0\/bN a.B.A=bN b.B.A)]) ?_ ?_
 .refine g7 ?_;refine lR (λj=>?_) λj=>?_
  .refine g6 ?_;refine lR (λi=>?_) λi=>?_
   .refine g4 ?_;refine j2 func46 (wL a.B.I b.B.I a.B.cap b.B.cap a.B.A b.B.A l7) ⟨f7,f6,e7,e6,i6⟩ λ_=>?_;refine g4 ?_;refine iQ (λhc53=>?_) λhc53=>?_
    .refine g2 ?_;refine ss (j3 (zO)) ?_;refine g5 ?_;refine r_join ?_;refine cJ ?_;have hr:=g.symm.trans (dy_e ‹_› ‹_› ‹_› ‹_› l7 l7 (of_decide_eq_false ‹_›));subst hr;exact rs2 (⟨⟨none,0,[]⟩,false,⟨none,0,[]⟩⟩:TyV) ⟨(bS (x:=⟨⟨none,0,[]⟩,false,⟨none,0,[]⟩⟩) bO bO),i7 (λh=>absurd (show(91:Int)=0 from h) m6),i6⟩
    refine one ?_;exact jB () i6 ⟨rfl,rfl,rfl,rfl,i6⟩ (.c0 (.c0 (.c0 .nil))) ⟨i7 ad2,i6⟩ (bA.drop 0)
   refine g11 ?_;exact jB () i6 ⟨rfl,rfl,rfl,rfl,i6⟩ (.c0 (.c0 (.c0 .nil))) ⟨i7 ad2,i6⟩ (bA.drop 0)
  refine g17 ?_;exact jB () i6 ⟨rfl,rfl,rfl,rfl,i6⟩ (.c0 (.c0 (.c0 .nil))) ⟨i7 ad2,i6⟩ (bA.drop 0)
 rintro _u;refine bF d7 λhjn=>?_;refine g5 ?_;refine ss (j3 (xL _ _ _)) ?_;refine j1 sQ λD=>?_;refine g12 ?_;refine gN (λm=>?_) λm=>?_
 .refine g12 ?_;refine j2 func74 (bHf f a b (each_ok9 ha hb hjn)) ⟨g0,(Has.of wH),i6⟩ λe=>?_;refine bF d8 λhE=>?_;refine g29 ?_;have hr:=g.symm.trans (dy_f rfl ‹_› ‹_› ‹_› ‹_› l7 hE);subst hr;exact rs2 (⟨b.B,e.k,e.l⟩:TyV) ⟨(bS (x:=⟨b.B,e.k,e.l⟩) f5 d7),i7 (λ_=>rfl),i6⟩
 refine g7 ?_;refine j2 func74 (bHf f a b (each_ok9 ha hb hjn)) ⟨g0,(Has.of wH),i6⟩ λd=>?_;refine bF d8 λhE=>?_;refine g29 ?_;have hr:=g.symm.trans (dy_g rfl ‹_› ‹_› ‹_› ‹_› l7 (hjn.resolve_left l7) hE);subst hr;exact rs2 (⟨a.B,d.k,d.l⟩:TyV) ⟨(bS (x:=⟨a.B,d.k,d.l⟩) (Has.of wH) d7),i7 (λ_=>rfl),i6⟩
section
variable {vs vars : List Bs} {d : kP}
theorem var_side(hV:vs=vars)(h:decide (0<=idxOf d.name vs 0)=true):bBf vs d.name=bHb vars d.sd:=by subst hV;have h:=of_decide_eq_true h;exact(if_pos h).trans (if_pos (show 0<=idxOf d.sd.name vs 0 from h)).symm
theorem con_side(hV:vs=vars)(h:decide (0<=idxOf d.name vs 0)=false):bZ d.n=bHb vars d.sd:=by subst hV;exact(if_neg (show ¬0<=idxOf d.sd.name vs 0 from of_decide_eq_false h)).symm
theorem var_pol{s:Bs}(h:decide (0<=idxOf s vs 0)=true):(⟨[],true,[bBf vs s]⟩:TyP)=⟨[],true,[(oC (idxOf s vs 0)).1]⟩:=by have h:bBf vs s=(oC (idxOf s vs 0)).1:=if_pos (of_decide_eq_true h);rw[h]
end
theorem named9_spec(eb:Nat)(e:EnvV)(hL:e.L.A.length<=e.P.G.A.length)(hV:e.V.A=dG e.P.pr)(hvl:e.V.A.length<=140737488355328)(hIl:e.P.C.A.length<=140737488355328)(hLl:e.P.G.A.length<=140737488355328)(hs4: ∀x∈e.P.C.A,x.B.A.length<=4)(hv: ∀v∈dG e.P.pr,tD v)(s:Bs)(hs:tD s):cY prog 43 [.pointer (some ⟨eb,0,none⟩),.string (bs s)] [envO eb e,tyE.row (j8 e.L) 38 e.L.A] [lZ.sl (j8 e.V) e.V.A,jP.sl (j8 e.P.C) e.P.C.A,iW e.P.C.A,nM.sl (j8 e.P.G) e.P.G.A,mA e.P.G.A,Fact.each e.L.A tyF] (λ(x:TyV)=> .tuple #[tyC x,k6 (if (nameT (jC e.P.pr (e.L.A.map TyV.t)) s).isSome=true then 0 else 83)]) (λ_=>[envO eb e,tyE.row (j8 e.L) 38 e.L.A]) (λ(x:TyV)=>[tyF x,Fact.pure (x.t=(nameT (jC e.P.pr (e.L.A.map TyV.t)) s).getD ⟨[],false,[]⟩)]):=by
 have hT:=dK;generalize I:nameT (jC e.P.pr (e.L.A.map TyV.t)) s=r;refine j5 func43 ntmps43 ?_;intro β hM;refine g2 ?_;refine j1 sQ λb1=>?_;refine g5 ?_;have N:(e.L.A.map TyV.t).length=e.L.A.length:=O4 _;have O:e.P.pr.C.length=e.P.C.A.length:=O4 _;refine g7 ?_;refine bJ (z':=((e.L.A.length:Nat):Int)-1) (vT l7 l7 l7) ?_;refine g4 ?_;refine cF (ι:=Nat) [(0,_),(1,_),(4,_)] ⟨rfl,rfl,rfl,i6⟩ (λk=>[(6,.int .i64 ((k:Int)-1))]) (λ_=>[]) (λk=>[Fact.pure (k<=e.L.A.length/\bWj e.P.pr (e.L.A.map TyV.t) s k)]) (λk=>k) e.L.A.length ⟨rfl,i6⟩ .nil ⟨i7 (⟨B0 _,N▸lnN_start⟩),i6⟩ ?_;rintro k;refine bF d7 λg=>?_;refine g7 ?_;refine bLv (λD=>?_) λD=>?_
 .obtain⟨m,rfl⟩: ∃m,k=m+1:=⟨k-1,l7⟩
  refine g5 ?_;obtain⟨X,u⟩:=gx e.L.A m;have y:(e.L.A.map TyV.t)[m]?=some X.t:=tJ u;refine g7 ?_;obtain⟨J,q⟩:=gx e.P.G.A m;refine ss (cA hT (k:=m) (bG e7) rfl rfl rfl rfl rfl rfl l7 l7) ?_;refine one ?_;refine ss (fG q 0) ?_;refine g4 ?_;refine fX (λf=>?_) λf=>?_
  .have f:J.name=s:=eq_of_beq f;refine g7 ?_;refine ss (cA hT (k:=m) (cI kT2) rfl rfl rfl rfl rfl rfl l7 l7) ?_;refine ss (pF u 0) ?_;refine g10 ?_;obtain rfl:=I.symm.trans (lnN_hit g.2 (mP q) y ‹_›);exact rs2 X ⟨Has.each e9 (j0 u),i7 rfl,i6⟩
  have f:J.name≠s:=λh=>absurd (beq_iff_eq.2 h) (by rw[show(J.name==s)=false from f];simp);refine g6 ?_;refine bJ (z':=((m:Nat):Int)-1) (vT l7 l7 l7) ?_;refine g3 ?_;exact bk2 m ⟨i7 (⟨l7,lnN_step g.2 (mP q) y ‹_›⟩),i6⟩
 obtain rfl:k=0:=l7
 have M:=inN_start (lnN_end hv g.2);refine g15 ?_;refine bJ (z':=((e.P.C.A.length:Nat):Int)-1) (vT l7 l7 l7) ?_;refine g4 ?_;refine cF (ι:=Nat) [(0,_),(1,_),(4,_)] ⟨rfl,rfl,rfl,i6⟩ (λk=>[(7,.int .i64 ((k:Int)-1))]) (λ_=>[]) (λk=>[Fact.pure (k<=e.P.C.A.length/\bTu e.P.pr (e.L.A.map TyV.t) s k)]) (λk=>k) e.P.C.A.length ⟨rfl,i6⟩ .nil ⟨i7 (⟨B0 _,O▸M⟩),i6⟩ ?_;rintro k;refine bF d7 λd=>?_;refine g7 ?_;refine bLv (λC=>?_) λC=>?_
 .obtain⟨m,rfl⟩: ∃m,k=m+1:=⟨k-1,l7⟩
  refine g12 ?_;obtain⟨x4,i⟩:=gx e.P.C.A m;refine ss (cA hT (k:=m) (bG e6) rfl rfl rfl rfl rfl rfl l7 l7) ?_;refine ss (pF i 0) ?_;refine j1 mN λb6=>?_;refine g12 ?_;refine fX (λb=>?_) λb=>?_
  .have b:x4.name≠s:=λh=>by rw[h]at b;first|(simp at b;done)|exact absurd b m6
   refine g7 ?_;refine bJ (z':=((m:Nat):Int)-1) (vT l7 l7 l7) ?_;refine g3 ?_;exact bk2 m ⟨i7 (⟨l7,inN_step d.2 (mP i) ‹_›⟩),i6⟩
  have b:x4.name=s:=eq_of_beq (mT b);refine g3 ?_;refine bB (nS x4) (Has.each e7 (j0 i)) ?_;have Z:=hs4 x4 (j0 i);refine one ?_;refine j1 sQ λb7=>?_;refine g9 ?_;refine bQ (t:=40) bT<|bB (polsF []) (Has.each_nil) ?_;refine cF (ι:=Nat×List PolV×Option Addr×Nat) [(0,_),(4,_),(8,_),(9,_)] ⟨rfl,rfl,rfl,rfl,i6⟩ (λ⟨j,vs,V2,cv2⟩=>[(10,.int .i64 (j:Nat))]) (λ⟨j,vs,V2,cv2⟩=>[.obj b7 (.cells [.slice V2 vs.length cv2,.bool false,.slice none 0 0].toArray 38),bT.row (.slice V2 vs.length cv2) 40 vs,envO eb e]) (λ⟨j,vs,V2,cv2⟩=>[Fact.pure (j<=x4.B.A.length/\SdAt (dG e.P.pr) x4.B.A vs j),polsF vs]) (λ⟨j,vs,V2,cv2⟩=>x4.B.A.length-j) (0,[],none,0) ⟨rfl,i6⟩ (.c1 (.c0 (.c2 .nil))) ⟨i7 (⟨l7,bZq _ _⟩),d7,i6⟩ ?_;rintro⟨j,vs,V2,cv2⟩;dsimp only;refine bF d7 λa=>?_;have Y:=sdT_len a.2 a.1;refine g10 ?_;refine dP (λB=>?_) λB=>?_
  .refine g10 ?_;obtain⟨x8,o⟩:=gx x4.B.A j;refine ss (ixs j) ?_;refine one ?_;refine ss (fG o 0) ?_;refine bD func70 (bZr eb e x8.name hvl) rfl rfl (.c2 .nil) ⟨e9,i6⟩ λ⟨A10,c11⟩=>?_;refine g14 ?_;refine iQ (λz=>?_) λz=>?_
   .refine g4 ?_;refine ss (ixs j) ?_;refine one ?_;refine ss (fG o 1) ?_;refine j2 func68 (kT (x8.n)) i6 λ⟨A12,c13⟩=>?_;refine g7 ?_;refine j7 (m:=⟨A12,c13,bZ (x8.n)⟩) λb14=>?_;refine bB (polsF (vs++[(⟨A12,c13,bZ (x8.n)⟩:PolV)])) (Has.each_snoc e6 d7) ?_;refine cU kT3 (bU .head rfl) rfl rfl rfl rfl rfl rfl rfl q9 λW R=>?_;refine g8 ?_;refine inc (j+1) ?_;refine g3 ?_;exact bk2 (j+1,vs++[(⟨A12,c13,bZ (x8.n)⟩:PolV)],W,R) ⟨i7 (⟨by dsimp only;omega,bKs a.2 o (con_side hV ‹_›)⟩),d7,i6⟩
   refine g6 ?_;refine j7 (m:=⟨A10,c11,bBf e.V.A x8.name⟩) λb17=>?_;refine bB (polsF (vs++[(⟨A10,c11,bBf e.V.A x8.name⟩:PolV)])) (Has.each_snoc d9 d7) ?_;refine cU kT3 (bU .head rfl) rfl rfl rfl rfl rfl rfl rfl q9 λU Q=>?_;refine g8 ?_;refine inc (j+1) ?_;refine g3 ?_;exact bk2 (j+1,vs++[(⟨A10,c11,bBf e.V.A x8.name⟩:PolV)],U,Q) ⟨i7 (⟨by dsimp only;omega,bKs a.2 o (var_side hV ‹_›)⟩),d7,i6⟩
  refine g6 ?_;refine fW kT1 λp=>bR kT1 ?_;refine g12 ?_;obtain rfl:=I.symm.trans (inN_hit d.2 (mP i) ‹_›);have K:=sdT_end (A:=V2) (c:=cv2) a.2 l7;exact rs2 (⟨⟨V2,cv2,vs⟩,false,⟨none,0,[]⟩⟩:TyV) ⟨bS (cB d7 d9 p) bO,i7 K,i6⟩
 obtain rfl:k=0:=l7
 refine g9 ?_;refine bD func70 (bZr eb e s hvl) rfl rfl (.c1 .nil) ⟨d9,i6⟩ λ⟨A20,c21⟩=>?_;refine g14 ?_;refine iQ (λw=>?_) λw=>?_
 .refine g2 ?_;refine ss (j3 (zO)) ?_;refine g6 ?_;have l:=name_end (s:=s) hs hv d.2;rw[<-hV]at l;obtain rfl:=I.symm.trans (l.trans (if_neg (of_decide_eq_false ‹_›)));exact rs2 (⟨⟨none,0,[]⟩,false,⟨none,0,[]⟩⟩:TyV) ⟨(bS (x:=⟨⟨none,0,[]⟩,false,⟨none,0,[]⟩⟩) bO bO),i7 (rfl),i6⟩
 refine g5 ?_;refine j7 (m:=⟨A20,c21,bBf e.V.A s⟩) λG=>?_;refine dO (E:=bT) (xs:=[(⟨A20,c21,bBf e.V.A s⟩:PolV)]) .head aa1<|bR .head<|bB (polsF [(⟨A20,c21,bBf e.V.A s⟩:PolV)]) (gP d8) ?_;refine ss (j3 (yJ _ _ _ _)) ?_;refine g5 ?_;have l:=name_end (s:=s) hs hv d.2;rw[<-hV]at l;obtain rfl:=I.symm.trans (l.trans (if_pos (of_decide_eq_true ‹_›)));exact rs2 (⟨⟨none,0,[]⟩,true,⟨(some ⟨G,0,none⟩),1,[(⟨A20,c21,bBf e.V.A s⟩:PolV)]⟩⟩:TyV) ⟨(bS (x:=⟨⟨none,0,[]⟩,true,⟨(some ⟨G,0,none⟩),1,[(⟨A20,c21,bBf e.V.A s⟩:PolV)]⟩⟩) bO (cB d8 d7 (B0 1))),i7 (var_pol ‹_›),i6⟩
section
variable {N : gD} {it : ItemV} {hv : List TyV} {x u : TyV} {e : Int}
theorem itT_nm(h:it.H=2):iO N it.it (stT hv)=((nameT N it.name).getD ⟨[],false,[]⟩,if (nameT N it.name).isSome=true then 0 else 83):=by
 cases k:(nameT N it.name).isSome
 .rw[itT_none h k];rfl
 .rw[itT_name h k];rfl
theorem itT_scan9(h:it.H=6)(hx:hv[hv.length-1]?=some x)(hs:0<x.B.A.length):iO N it.it (stT hv)=(⟨bN x.B.A,false,[]⟩,0):=by rw[itT_scan h hx hs,aJ]
theorem tX(h1:it.H≠1)(h2:it.H≠2)(h3:it.H≠3)(h5:it.H≠5)(h6:it.H≠6)(h4:it.H≠4)(hx:hv[hv.length-2]?=some x)(hu:hv[hv.length-1]?=some u)(hl:2<=hv.length)(he:e=if 4<x.B.A.length+u.B.A.length then 90 else 0):iO N it.it (stT hv)=(⟨bN (([]++x.B.A)++u.B.A),false,[]⟩,e):=itT_out h1 h2 h3 h5 h6 h4 hx hu hl he
end
theorem item9_spec(eb:Nat)(e:EnvV)(hL:e.L.A.length<=e.P.G.A.length)(hV:e.V.A=dG e.P.pr)(hvl:e.V.A.length<=140737488355328)(hIl:e.P.C.A.length<=140737488355328)(hLl:e.P.G.A.length<=140737488355328)(hs4: ∀x∈e.P.C.A,x.B.A.length<=4)(hv9: ∀v∈dG e.P.pr,tD v)(it:ItemV)(A:Option Addr)(c:Nat)(hv:List TyV)(hW: ∀t∈hv,WfT t.t)(hl:hv.length<=300)(hd:fL it.it<=hv.length)(h17:1<=it.H/\it.H<=7)(hnum:it.H=1->it.nums.A.length<=65536)(hnm:it.H=2->tD it.name):cY prog 21 [.pointer (some ⟨eb,0,none⟩),.agg #[k6 it.H,k6 it.at_,k7 it.fn,.string (bs it.name),j8 it.nums],.slice A hv.length c] [envO eb e,tyE.row (j8 e.L) 38 e.L.A,tyE.row (.slice A hv.length c) 38 hv] [lZ.sl (j8 e.V) e.V.A,jP.sl (j8 e.P.C) e.P.C.A,iW e.P.C.A,nM.sl (j8 e.P.G) e.P.G.A,mA e.P.G.A,Fact.each e.L.A tyF,bOt.sl (j8 it.nums) it.nums.A,Fact.each hv tyF] (λ(x:TyV)=> .tuple #[tyC x,k6 (iO (jC e.P.pr (e.L.A.map TyV.t)) it.it (stT hv)).2,k6 (fL it.it:Nat)]) (λ_=>[envO eb e,tyE.row (j8 e.L) 38 e.L.A,tyE.row (.slice A hv.length c) 38 hv]) (λ(x:TyV)=>[tyF x,Fact.pure ((iO (jC e.P.pr (e.L.A.map TyV.t)) it.it (stT hv)).2=0->x.t=(iO (jC e.P.pr (e.L.A.map TyV.t)) it.it (stT hv)).1)]):=by
 have hT:=dK;generalize j:iO (jC e.P.pr (e.L.A.map TyV.t)) it.it (stT hv)=r;generalize m:fL it.it=T at hd⊢;refine j5 func21 ntmps21 ?_;intro β hM;refine g2 ?_;refine j4 λb1=>?_;refine j1 sQ λb2=>?_;refine g25 ?_;refine gN (λD=>?_) λD=>?_
 .refine bP ?_;have f:T=0:=m.symm.trans (vQ n7);subst f;refine g3 ?_;refine bD func42 (nums9_spec it.nums.I it.nums.cap it.nums.A (B1 (hnum ‹_›) m6)) rfl rfl .nil ⟨e9,i6⟩ λZ=>?_;refine bF d8 λhy=>?_;refine g8 ?_;obtain rfl:=j.symm.trans (itT_lit ‹_›);exact rs3 (Z:TyV) ⟨d7,i7 (λ_=>hy),i6⟩
 refine g6 ?_;refine gN (λC=>?_) λC=>?_
 .refine bP ?_;have f:T=0:=m.symm.trans (vQ n7);subst f;refine g4 ?_;refine bD func43 (named9_spec eb e hL hV hvl hIl hLl hs4 hv9 it.name (hnm ‹_›)) rfl rfl (.c2 (.c2 .nil)) ⟨d7,d8,d9,e6,e7,e8,i6⟩ λY=>?_;refine bF d8 λhy=>?_;refine g3 ?_;refine j1 sQ λb5=>?_;refine g16 ?_;obtain rfl:=j.symm.trans (itT_nm ‹_›);exact rs3 (Y:TyV) ⟨d7,i7 (λ_=>hy),i6⟩
 refine g6 ?_;refine gN (λB=>?_) λB=>?_
 .refine bP ?_;have f:T=1:=m.symm.trans (rK ab0);subst f;obtain⟨x,hx⟩:=gx hv (hv.length-1);have d:=hW x (j0 hx);refine bB (tyF x) (Has.each f3 (j0 hx)) ?_;have q:=oF d;refine bB (cM x.B) (jR d7)<|cE x.B mT0 λg=>bB (cM x.values) (jS e6)<|cE x.values mT0 λi=>?_;refine kZ _ _ (.fl 0 (.fl 1 (.fl 2 (.fl 3 (.fl 4 (.fl 5 (.fl 6 (.two 7 11 (.fl 8 (.fl 9 (.fl 10 (.op 11 (.op 12 (.fl 13 .nil)))))) (.op 7 (.fl 8 (.fl 9 (.fl 10 (.op 12 (.fl 13 .nil)))))))))))))) cN o0 (.c0 (.c0 (.c0 (.c0 (.c0 .nil))))) bA.self ?_;refine g5 ?_;refine inc (hv.length-1) ?_;refine sqT rfl (ixs (hv.length-1)) ?_;refine sqT rfl (pF hx 0) ?_;refine gT (o:=_) (o':=_) rfl rfl ?_ ?_
  .refine j2 func44 (bZv it.fn x d) ⟨e9,i6⟩ λX=>?_;refine bF d8 λhy=>?_;refine g5 ?_;refine j1 sQ λb7=>?_;refine g19 ?_;obtain rfl:=j.symm.trans (itT_mon ‹_› hx);exact rs3 (X:TyV) ⟨d7,i7 (hy),i6⟩
  refine j1 sQ λb8=>?_;refine g2 ?_;refine j2 func44 (bZv it.fn x d) ⟨e9,i6⟩ λW=>?_;refine bF d8 λhy=>?_;refine g22 ?_;obtain rfl:=j.symm.trans (itT_mon ‹_› hx);exact rs3 (W:TyV) ⟨d7,i7 (hy),i6⟩
 refine g7 ?_;refine gN (λs=>?_) λs=>?_
 .refine bC (t':=true) al7 ?_;refine g4 ?_;have f:T=1:=m.symm.trans (rK ab0);subst f;obtain⟨x,hx⟩:=gx hv (hv.length-1);have d:=hW x (j0 hx);refine bB (tyF x) (Has.each f3 (j0 hx)) ?_;have q:=oF d;refine bB (cM x.B) (jR d7)<|cE x.B mT0 λg=>bB (cM x.values) (jS e6)<|cE x.values mT0 λi=>?_;refine g4 ?_;refine inc (hv.length-1) ?_;refine ss (ixs (hv.length-1)) ?_;refine ss (pF hx 0) ?_;refine j1 sQ λb10=>?_;refine g12 ?_;refine gN (λp=>?_) λp=>?_
  .refine g12 ?_;have hr:=j.symm.trans (bJw n7 hx l7);subst hr;exact rs3 (x:TyV) ⟨e9,i7 (λ_=>rfl),i6⟩
  refine g6 ?_;refine ss (j3 (xL _ _ _)) ?_;refine j1 sQ λb11=>?_;refine g9 ?_;refine bC (t':=true) (by rw[s];rfl) ?_;refine g10 ?_;refine inc (x.B.A.length-1) ?_;have hkl:(x.B.A.length-1)<=x.B.A.length:=l7
  refine ss (iY hT (k:=(x.B.A.length-1)) rfl rfl rfl rfl rfl rfl l7) ?_;refine hZ (v':= .slice x.B.I (x.B.A.take ((x.B.A.length-1))).length x.B.cap) ab9<|bB (cM ⟨x.B.I,x.B.cap,(x.B.A.take ((x.B.A.length-1)))⟩) (nJ e8 g hkl) ?_;refine g15 ?_;have hr:=j.symm.trans (itT_fold ‹_› hx l7);subst hr;exact rs3 (⟨⟨x.B.I,x.B.cap,(x.B.A.take ((x.B.A.length-1)))⟩,false,⟨none,0,[]⟩⟩:TyV) ⟨(bS (x:=⟨⟨x.B.I,x.B.cap,(x.B.A.take ((x.B.A.length-1)))⟩,false,⟨none,0,[]⟩⟩) d7 bO),i7 (λ_=>rfl),i6⟩
 refine g5 ?_;refine gN (λl=>?_) λl=>?_
 .refine bC (t':=true) al7 ?_;refine bP ?_;have f:T=1:=m.symm.trans (rK ab0);subst f;obtain⟨x,hx⟩:=gx hv (hv.length-1);have d:=hW x (j0 hx);refine bB (tyF x) (Has.each f3 (j0 hx)) ?_;have q:=oF d;refine bB (cM x.B) (jR d7)<|cE x.B mT0 λg=>bB (cM x.values) (jS e6)<|cE x.values mT0 λi=>?_;refine g4 ?_;refine inc (hv.length-1) ?_;refine ss (ixs (hv.length-1)) ?_;refine ss (pF hx 0) ?_;refine j1 sQ λb13=>?_;refine g12 ?_;refine gN (λp=>?_) λp=>?_
  .refine g12 ?_;have hr:=j.symm.trans (bJw n7 hx l7);subst hr;exact rs3 (x:TyV) ⟨e9,i7 (λ_=>rfl),i6⟩
  refine g6 ?_;refine ss (j3 (xL _ _ _)) ?_;refine j1 sQ λb14=>?_;refine g9 ?_;refine bC (t':=false) (by rw[l];rfl) ?_;refine g16 ?_;have hr:=j.symm.trans (itT_scan9 ‹_› hx l7);subst hr;exact rs3 (⟨x.B,false,⟨none,0,[]⟩⟩:TyV) ⟨(bS (x:=⟨x.B,false,⟨none,0,[]⟩⟩) e8 bO),i7 (λ_=>rfl),i6⟩
 refine g6 ?_;refine gN (λz=>?_) λz=>?_
 .refine bP ?_;have f:T=2:=m.symm.trans (vF ab0);subst f;obtain⟨x,hx⟩:=gx hv (hv.length-2);have d:=hW x (j0 hx);refine bB (tyF x) (Has.each f3 (j0 hx)) ?_;have q:=oF d;refine bB (cM x.B) (jR d7)<|cE x.B mT0 λg=>bB (cM x.values) (jS e6)<|cE x.values mT0 λi=>?_;obtain⟨u,hu⟩:=gx hv (hv.length-1);have n:=hW u (j0 hu);refine bB (tyF u) (Has.each (Has.of wH) (j0 hu)) ?_;have U:=oF n;refine bB (cM u.B) (jR d7)<|cE u.B mT0 λy=>bB (cM u.values) (jS e6)<|cE u.values mT0 λw=>?_;refine kZ _ _ (.fl 0 (.fl 1 (.fl 2 (.fl 3 (.fl 4 (.fl 5 (.fl 6 (.fl 7 (.fl 8 (.fl 9 (.fl 10 (.fl 11 (.two 12 16 (.fl 13 (.fl 14 (.fl 15 (.op 16 (.op 17 (.fl 18 .nil)))))) (.op 12 (.fl 13 (.fl 14 (.fl 15 (.op 17 (.fl 18 .nil))))))))))))))))))) cN o0 (.c0 (.c0 (.c0 (.c0 (.c0 .nil))))) bA.self ?_;refine g5 ?_;refine inc (hv.length-2) ?_;refine sqT rfl (ixs (hv.length-2)) ?_;refine sqT rfl (pF hx 0) ?_;refine g3 ?_;refine inc (hv.length-1) ?_;refine sqT rfl (ixs (hv.length-1)) ?_;refine sqT rfl (pF hu 0) ?_;refine gT (o:=_) (o':=_) rfl rfl ?_ ?_
  .refine j2 func45 (dy9_spec it.fn x u d n) ⟨g0,e9,i6⟩ λR=>?_;refine bF d8 λhy=>?_;refine g5 ?_;refine j1 sQ λb16=>?_;refine g19 ?_;have hr:=j.symm.trans (itT_dy ‹_› hx hu l7);subst hr;exact rs3 (R:TyV) ⟨d7,i7 (hy),i6⟩
  refine j1 sQ λb17=>?_;refine g2 ?_;refine j2 func45 (dy9_spec it.fn x u d n) ⟨g0,e9,i6⟩ λQ=>?_;refine bF d8 λhy=>?_;refine g22 ?_;have hr:=j.symm.trans (itT_dy ‹_› hx hu l7);subst hr;exact rs3 (Q:TyV) ⟨d7,i7 (hy),i6⟩
 refine g4 ?_;have f:T=2:=m.symm.trans (vF ab0);subst f;obtain⟨x,hx⟩:=gx hv (hv.length-2);have d:=hW x (j0 hx);refine bB (tyF x) (Has.each f3 (j0 hx)) ?_;have q:=oF d;refine bB (cM x.B) (jR d7)<|cE x.B mT0 λg=>bB (cM x.values) (jS e6)<|cE x.values mT0 λi=>?_;obtain⟨u,hu⟩:=gx hv (hv.length-1);have n:=hW u (j0 hu);refine bB (tyF u) (Has.each (Has.of wH) (j0 hu)) ?_;have U:=oF n;refine bB (cM u.B) (jR d7)<|cE u.B mT0 λy=>bB (cM u.values) (jS e6)<|cE u.values mT0 λw=>?_;refine kZ _ _ (.fl 1 (.fl 2 (.fl 3 (.fl 4 (.fl 5 (.fl 6 (.fl 8 (.fl 9 (.fl 10 (.fl 11 (.fl 12 (.fl 13 (.two 0 16 (.two 7 16 (.two 14 16 (.fl 15 (.op 16 (.op 17 .nil))) (.op 14 (.fl 15 (.op 17 .nil)))) (.op 7 (.op 14 (.fl 15 (.op 17 .nil))))) (.op 0 (.op 7 (.op 14 (.fl 15 (.op 17 .nil)))))))))))))))))) cN o0 (.c0 (.c0 (.c0 (.c0 (.c0 .nil))))) bA.self ?_;refine g3 ?_;refine inc (hv.length-2) ?_;refine sqT rfl (ixs (hv.length-2)) ?_;refine one ?_;refine sqT rfl (fG hx 0) ?_;refine g3 ?_;refine inc (hv.length-1) ?_;refine sqT rfl (ixs (hv.length-1)) ?_;refine one ?_;refine sqT rfl (fG hu 0) ?_;refine gT (o:=_) (o':=_) rfl rfl ?_ ?_
 .refine uM rfl rfl rfl rfl λb19=>?_;refine one ?_;refine gT (o:=_) (o':=_) rfl rfl ?_ ?_
  .refine cU .head (bG f8) rfl rfl rfl rfl rfl rfl r7 o6 λA20 c21=>?_;refine one ?_;refine gT (o:=_) (o':=_) rfl rfl ?_ ?_
   .refine cU .head (bG e7) rfl rfl rfl rfl rfl rfl r7 o6 λO J=>?_;refine one ?_;refine sqT rfl (j3 (xL _ _ _)) ?_;refine one ?_;refine j1 sQ λb24=>?_;refine g8 ?_;refine fW kT1 λa=>bR kT1<|bB (polsF (([]++x.B.A)++u.B.A)) (iE f8 e7) ?_;refine g7 ?_;refine dP (λb=>?_) λb=>?_
    .refine g2 ?_;refine ss (j3 (zO)) ?_;refine g7 ?_;have hr:=j.symm.trans (tX (e:=90) ‹_› ‹_› ‹_› ‹_› ‹_› ‹_› hx hu l7 ad4);subst hr;exact rs3 (⟨⟨none,0,[]⟩,false,⟨none,0,[]⟩⟩:TyV) ⟨(bS (x:=⟨⟨none,0,[]⟩,false,⟨none,0,[]⟩⟩) bO bO),i7 (λh=>absurd (show(90:Int)=0 from h) m6),i6⟩
    refine g11 ?_;have hr:=j.symm.trans (tX (e:=0) ‹_› ‹_› ‹_› ‹_› ‹_› ‹_› hx hu l7 ad5);subst hr;exact rs3 (⟨⟨O,J,(([]++x.B.A)++u.B.A)⟩,false,⟨none,0,[]⟩⟩:TyV) ⟨(bS (x:=⟨⟨O,J,(([]++x.B.A)++u.B.A)⟩,false,⟨none,0,[]⟩⟩) (cB d8 d7 (a)) bO),i7 (λ_=>rfl),i6⟩
   refine j1 sQ λb25=>?_;refine g2 ?_;refine cU kT1 (bG e7) rfl rfl rfl rfl rfl rfl r7 o6 λN I=>?_;refine one ?_;refine sqT rfl (j3 (xL _ _ _)) ?_;refine g7 ?_;refine fW kT1 λa=>bR kT1<|bB (polsF (([]++x.B.A)++u.B.A)) (iE f8 e7) ?_;refine g7 ?_;refine dP (λb=>?_) λb=>?_
   .refine g2 ?_;refine ss (j3 (zO)) ?_;refine g7 ?_;have hr:=j.symm.trans (tX (e:=90) ‹_› ‹_› ‹_› ‹_› ‹_› ‹_› hx hu l7 ad4);subst hr;exact rs3 (⟨⟨none,0,[]⟩,false,⟨none,0,[]⟩⟩:TyV) ⟨(bS (x:=⟨⟨none,0,[]⟩,false,⟨none,0,[]⟩⟩) bO bO),i7 (λh=>absurd (show(90:Int)=0 from h) m6),i6⟩
   refine g11 ?_;have hr:=j.symm.trans (tX (e:=0) ‹_› ‹_› ‹_› ‹_› ‹_› ‹_› hx hu l7 ad5);subst hr;exact rs3 (⟨⟨N,I,(([]++x.B.A)++u.B.A)⟩,false,⟨none,0,[]⟩⟩:TyV) ⟨(bS (x:=⟨⟨N,I,(([]++x.B.A)++u.B.A)⟩,false,⟨none,0,[]⟩⟩) (cB d8 d7 (a)) bO),i7 (λ_=>rfl),i6⟩
  refine j1 sQ λb28=>?_;refine g2 ?_;refine cU kT1 (bG f8) rfl rfl rfl rfl rfl rfl r7 o6 λA29 c30=>?_;refine g2 ?_;refine cU .head (bG e7) rfl rfl rfl rfl rfl rfl r7 o6 λM G=>?_;refine one ?_;refine sqT rfl (j3 (xL _ _ _)) ?_;refine g7 ?_;refine fW kT1 λa=>bR kT1<|bB (polsF (([]++x.B.A)++u.B.A)) (iE f8 e7) ?_;refine g7 ?_;refine dP (λb=>?_) λb=>?_
  .refine g2 ?_;refine ss (j3 (zO)) ?_;refine g7 ?_;have hr:=j.symm.trans (tX (e:=90) ‹_› ‹_› ‹_› ‹_› ‹_› ‹_› hx hu l7 ad4);subst hr;exact rs3 (⟨⟨none,0,[]⟩,false,⟨none,0,[]⟩⟩:TyV) ⟨(bS (x:=⟨⟨none,0,[]⟩,false,⟨none,0,[]⟩⟩) bO bO),i7 (λh=>absurd (show(90:Int)=0 from h) m6),i6⟩
  refine g11 ?_;have hr:=j.symm.trans (tX (e:=0) ‹_› ‹_› ‹_› ‹_› ‹_› ‹_› hx hu l7 ad5);subst hr;exact rs3 (⟨⟨M,G,(([]++x.B.A)++u.B.A)⟩,false,⟨none,0,[]⟩⟩:TyV) ⟨(bS (x:=⟨⟨M,G,(([]++x.B.A)++u.B.A)⟩,false,⟨none,0,[]⟩⟩) (cB d8 d7 (a)) bO),i7 (λ_=>rfl),i6⟩
 refine j1 sQ λb33=>?_;refine g2 ?_;refine uM rfl rfl rfl rfl λb34=>?_;refine g2 ?_;refine cU .head (bG f8) rfl rfl rfl rfl rfl rfl r7 o6 λA35 c36=>?_;refine g2 ?_;refine cU .head (bG e7) rfl rfl rfl rfl rfl rfl r7 o6 λK E=>?_;refine one ?_;refine sqT rfl (j3 (xL _ _ _)) ?_;refine g7 ?_;refine fW kT1 λa=>bR kT1<|bB (polsF (([]++x.B.A)++u.B.A)) (iE f8 e7) ?_;refine g7 ?_;refine dP (λb=>?_) λb=>?_
 .refine g2 ?_;refine ss (j3 (zO)) ?_;refine g7 ?_;have hr:=j.symm.trans (tX (e:=90) ‹_› ‹_› ‹_› ‹_› ‹_› ‹_› hx hu l7 ad4);subst hr;exact rs3 (⟨⟨none,0,[]⟩,false,⟨none,0,[]⟩⟩:TyV) ⟨(bS (x:=⟨⟨none,0,[]⟩,false,⟨none,0,[]⟩⟩) bO bO),i7 (λh=>absurd (show(90:Int)=0 from h) m6),i6⟩
 refine g11 ?_;have hr:=j.symm.trans (tX (e:=0) ‹_› ‹_› ‹_› ‹_› ‹_› ‹_› hx hu l7 ad5);subst hr;exact rs3 (⟨⟨K,E,(([]++x.B.A)++u.B.A)⟩,false,⟨none,0,[]⟩⟩:TyV) ⟨(bS (x:=⟨⟨K,E,(([]++x.B.A)++u.B.A)⟩,false,⟨none,0,[]⟩⟩) (cB d8 d7 (a)) bO),i7 (λ_=>rfl),i6⟩
