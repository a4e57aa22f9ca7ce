/- A part of one proof. -/
import Derived.Test.YtnfiadlonjediaaGreatDoorM6
import Derived.Test.YtnfiadlonjediaaGreatDoorShelfB
set_option maxRecDepth 100000
namespace Go.Proofs.YtnfiadlonjediaaGreatDoor
open _root_.List renaming drop_of_length_le->U8,replicate->V4,replicate_succ->aE,ext_getElem->aF,getElem?_eq_some_iff->G3,getD_eq_getElem?_getD->W2,getElem?_eq_none->Y5,mem_cons->F1,all_eq_true->G0,getElem?_eq_getElem->G1,drop_eq_getElem_cons->aG,take_of_length_le->Y2,getElem_cons_drop->aH,mem_cons_self->F9,mem_cons_of_mem->F3,length_append->G4,length_map->I2,getElem?_map->F7,ext_getElem?->aI,getElem?_set->W3,getElem?_modify->V6,length_replicate->Z7,length_set->R0,getElem?_set_self->G8,getElem?_eq_none_iff->aJ,map_cons->H6,range'->aK,length_cons->G5,range'_succ->aL,size_toArray->Q4,pairwise_cons->F4
open Value renaming cells->aM,bool->Y6
open _root_.Nat renaming blt->C2,min->aA,min_le_right->aD,zero_le->S6,lt_of_lt_of_le->B2,le_of_ble_eq_true->C8,sub_zero->aN,le_trans->C0
open _root_.Int renaming mul_nonneg->aO,mul_le_mul_of_nonneg_right->aP,toNat->aQ
open Lib renaming hid->U4
open _root_.Bool renaming and_eq_true->L9
open _root_.Option renaming map_some->N5
open IntKind renaming wrap->M9,signed->N1,bits->N2
open Oper renaming wp->L2,upon_value->L3,upon_skip->L4,upon_defer->aR,upon_enter->L5,upon_row->aS
open Code renaming cond->E7,wp_mono->T8
open _root_.Array renaming ext'->E2,getElem?_append->aT,replicate->E5,size_append->aU
open Sem renaming run_bind->J0,run_pure->J1
open Result renaming andThen_ok->J6
open Instr renaming findNow->K9,findKey->K7,checkKey->K6,keyThatStays->R5,sameBits->aV,mapUpdate->R6
open MapKept renaming run_getObj_map->T5,run_setObj_map->T6
section
open Go.RowKit Go.Proofs.Tryz
def bIj (k:Int):List Int->Int->Int
 |[],_=> -1
 |s::r,i=>if k=s then i else bIj k r (i+1)
section
variable {k x : Int} {l : List Int} {i : Nat} {r : Int}
theorem bAx(h:r=bIj k (l.drop i) i)(hx:l[i]?=some x):(k=x->r=i)/\(k≠x->r=bIj k (l.drop (i+1)) ((i+1:Nat):Int)):=by rw[kS hx,bIj]at h;refine⟨λe=>by rw[if_pos e]at h;exact h,λe=>by rw[if_neg e]at h;rw[h];rfl⟩
theorem idxI_end(h:r=bIj k (l.drop i) i)(hi:l.length<=i):r= -1:=by rw[U8 hi]at h;exact h
end
theorem vS(k:Int): ∀(l:List Int) (i:Int),0<=i->decide (0<=bIj k l i)=l.contains k
 |[],i,_=>rfl
 |s::r,i,h=>by
  rw[bIj,List.contains_cons]
  by_cases e:k=s
  .subst e;simp[h]
  .rw[if_neg e,vS k r (i+1) j5];simp[e]
theorem bitsMul_spec(x y:Nat)(hx:x<18446744073709551616)(hy:y<18446744073709551616):cJ prog 159 [.int .u64 (x:Nat),.int .u64 (y:Nat)] [] [] (λ_:Unit=> .tuple #[.int .u64 ((x*y/18446744073709551616:Nat):Int),.int .u64 ((x*y%18446744073709551616:Nat):Int)]) (λ_=>[]) (λ_=>[]):=
 λS w s k=>(Tryz.bits_Mul x y hx hy w).mono λe a h=>by obtain⟨rfl,rfl⟩:=h;exact⟨(),S,rfl,s,λg hg=>by simp at hg⟩
def nilLife:dX:=⟨0,0⟩
theorem bMz: ∃i:TypeInfo,prog.info? 114=some i/\i.zero=some (.agg #[j3 0,j3 0])/\i.size=2/\i.bytes=16:=by
 have h:(prog.info? 114).map (λi=>(i.zero,i.size,i.bytes))=some (some (.agg #[.int .i64 0,.int .i64 0]),2,16):=j8
 cases a:prog.info? 114 with
 |none=>simp[a]at h
 |some i=>simp[a]at h;exact⟨i,rfl,h.1,h.2.1,h.2.2⟩
theorem lifesize:(prog.info? 114).map (·.size)=some kI.size:=j8
theorem madeLives: ∀m:Nat,(madeCells (Value.agg #[j3 0,j3 0]).cells (m*2)).toList=kI.all (V4 m nilLife):=λm=>by
 have e: ∀m,kI.all (V4 m nilLife)=V4 (m*2) (.int .i64 0):=λm=>by
  induction m with
  |zero=>rfl
  |succ m ih=>rw[aE,show kI.all (nilLife::V4 m nilLife)=kI.cells nilLife++kI.all (V4 m nilLife)from rfl,ih,show kI.cells nilLife=V4 (1*2) (.int .i64 0)from rfl,List.replicate_append_replicate,show(m+1)*2=1*2+m*2 by omega]
 rw[e];unfold madeCells;apply aF
 .simp
 .intro i h1 h2;have h3:i%2<2:=Nat.mod_lt _ l4
  rcases (by omega:i%2=0\/i%2=1)with h|h
  .simp[aM,h]
  .simp[aM,h]
section
variable {β : dY} {n : Nat} {Γ : Env} {H : List bD} {F : List bC} {Q : Exit -> Act -> World -> Prop} {ops : Array Oper} {rest : List Oper} {o : Oper} {d : Nat}
theorem at_makeLives{m:Nat}{x y:Operand}(hw:want ops Γ o=some true)(ho:o.op= .makeSlice 97 x y)(hd:o.dst=some d)(hn:C2 d n=true)
  (hx:Γ.ev x=some (j3 (m:Nat))) (hy:Γ.ev y=some (j3 (m:Nat))) (hm:m<=1000000)
  (k: ∀b,At β n ((d,.slice (some ⟨b,0,none⟩) m m)::Γ) (kI.row (.slice (some ⟨b,0,none⟩) m m) 114 (V4 m nilLife)::H) F (wpList prog ops Q rest)):At β n Γ H F (wpList prog ops Q (o::rest)):=by obtain⟨i,e,a,c,hb⟩:=bMz;exact bFx (E:=kI) hw ho hd hn hx hy underlying97 e a c ad5 ab7 (madeLives m) m9 k
theorem lZ{m:Nat}{x y:Operand}(hw:want ops Γ o=some true)(ho:o.op= .makeSlice 99 x y)(hd:o.dst=some d)(hn:C2 d n=true)
  (hx:Γ.ev x=some (j3 (m:Nat))) (hy:Γ.ev y=some (j3 (m:Nat))) (hm:m<=1000000)
  (k: ∀b,At β n ((d,.slice (some ⟨b,0,none⟩) m m)::Γ) (gK.row (.slice (some ⟨b,0,none⟩) m m) 4 (V4 m false)::H) F (wpList prog ops Q rest)):At β n Γ H F (wpList prog ops Q (o::rest)):=by
 obtain⟨i,f,a,c,hb⟩:=bRr;refine bFx (E:=gK) hw ho hd hn hx hy underlying99 f a c ad5 ab7 ?_ m9 k
 have e: ∀m,gK.all (V4 m false)=V4 m (.bool false):=λm=>by
  induction m with
  |zero=>rfl
  |succ m ih=>rw[aE,aE,<-ih];rfl
 rw[e];unfold madeCells;apply aF
 .simp[gK]
 .intro i h1 h2;simp[aM,Nat.mod_one]
end
theorem index_spec(A:Option Addr)(c:Nat)(l:List Int)(hl:l.length<=140737488355328)(k:Int):cJ prog 160 [.slice A l.length c,j3 k] [] [dA.sl (.slice A l.length c) l] (λ(_:Unit)=> j3 (bIj k l 0)) (λ_=>[]) (λ_=>[]):=by
 have hT:=dF;generalize f:bIj k l 0=r;refine j1 func160 ntmps160 ?_;intro β hM;refine g14 ?_;refine bT (ι:=Nat) [(0,_),(1,_),(7,_)] ⟨rfl,rfl,rfl,e9⟩ (λi=>[(8,.int .i64 (i:Nat))]) (λ_=>[]) (λi=>[bC.pure (i<=l.length/\r=bIj k (l.drop i) i)]) (λi=>l.length-i) 0 ⟨rfl,e9⟩ .nil ⟨f4 (⟨j5,f.symm⟩),e9⟩ ?_;rintro i;refine bG d7 λa=>?_;refine g6 ?_;refine dO (λe=>?_) λe=>?_
 .refine g15 ?_;obtain⟨g,b⟩:=gx l i;refine ss (ixs i) ?_;refine ss (fV b 0) ?_;refine g3 ?_;refine jU (λd=>?_) λd=>?_
  .refine g12 ?_;have hr:=(bAx a.2 b).1 (by first|assumption|(symm;assumption));subst hr;exact rs1 () trivial
  refine g5 ?_;refine inc (i+1) ?_;refine g3 ?_;exact bk2 (i+1) ⟨f4 (⟨j5,(bAx a.2 b).2 ‹_›⟩),e9⟩
 refine g11 ?_;have hr:=idxI_end a.2 j5;subst hr;exact rs1 () trivial
theorem bRy(A:Option Addr)(c:Nat)(l:List Int)(hl:l.length<=140737488355328)(k:Int):cJ prog 88 [.slice A l.length c,j3 k] [] [dA.sl (.slice A l.length c) l] (λ(_:Unit)=> .bool (l.contains k)) (λ_=>[]) (λ_=>[]):=by have hT:=dF;refine j1 func88 ntmps88 ?_;intro β hM;refine g9 ?_;refine bL func160 (index_spec A c l hl k) rfl rfl .nil ⟨d7,e9⟩ λ_=>?_;refine g5 ?_;exact rs1 () e9 (he:=congrArg Y6 (vS k l 0 l4))
theorem repeatL_spec(A:Option Addr)(c:Nat)(p:dX)(n:Nat)(hn:n<=1000000):cJ prog 87 [.slice A 1 c,j3 (n:Nat)] [] [kI.sl (.slice A 1 c) [p]] (λ(x:Option Addr×Nat)=> .slice x.1 n x.2) (λ(x:Option Addr×Nat)=>[kI.row (.slice x.1 n x.2) 114 (V4 n p)]) (λ_=>[]):=by
 have hT:=dF;refine j1 func87 ntmps87 ?_;intro β hM;refine g10 ?_;refine bR (t':=false) (decide_eq_false j5) ?_;refine g10 ?_;refine bM (z':=((1:Nat):Int)) rfl ?_;refine g2 ?_;refine bM (z':=((n:Nat):Int)) (conv64 j5) ?_;refine bL func159 (bitsMul_spec 1 n l4 j5) rfl rfl .nil e9 λ_=>?_;refine at_val (v':= .tuple #[.int .u64 ((0:Nat):Int),.int .u64 ((n:Nat):Int)]) (by rw[Nat.one_mul,Nat.div_eq_of_lt j5,Nat.mod_eq_of_lt j5]) ?_;refine g12 ?_;refine bR (t':=false) l4 ?_;refine g3 ?_;refine bR (t':=false) (decide_eq_false j5) ?_;refine g10 ?_;refine bM (z':=((n:Nat):Int)) (conv63 j5) ?_;refine at_makeLives (m:=n) rfl rfl rfl rfl rfl rfl j5 λh=>?_;refine g7 ?_;refine at_copyE (E:=kI) (ys:=List.take (aA 1 n) [p]) (q:=0) (cF.preE (bH d7) _) rfl rfl rfl rfl underlying97 lifesize rfl rfl m9 rfl (rep_l1 p n) (by rw[rep_l1];have:=min1_le n;omega) .head ?_;have f:=rep_first nilLife p n _ rfl;refine bM (z':=((aA 1 n:Nat):Int)) (congrArg Nat.cast (rep_l1 p n)) ?_;refine g5 ?_;refine bT (ι:=Nat×List dX) [(7,_)] ⟨rfl,e9⟩ (λ⟨i,cur⟩=>[(8,.int .i64 (i:Nat))]) (λ⟨i,cur⟩=>[kI.row (.slice (some ⟨h,0,none⟩) n n) 114 cur]) (λ⟨i,cur⟩=>[bC.pure (bWi nilLife p n i cur/\(1<=i\/n=0))]) (λ⟨i,cur⟩=>n-i) (aA 1 n,_) ⟨rfl,e9⟩ (.c0 .nil) ⟨f4 (⟨f,min1_or n⟩),e9⟩ ?_;rintro⟨i,cur⟩;dsimp only;refine bG d7 λa=>?_;refine g9 ?_;refine dO (λb=>?_) λb=>?_
 .refine g3 ?_;refine dK _ _ [j2,u1,u0,u2,u3,u4,u5,A16,u7,u9] dJ k7 .nil bA.self ?_;refine g3 ?_;refine stM rfl (bKt hT (k:=i) rfl rfl rfl rfl rfl rfl j5) ?_;refine at_val (v':= .slice (some ⟨h,i*2,none⟩) (n-i) (n-i)) (by rw[cutA_in j5 rfl]) ?_;refine g2 ?_;refine stM rfl (wP hT (k:=i) rfl rfl rfl rfl rfl rfl j5) ?_;refine one ?_;refine at_copyE (E:=kI) (ys:=cur.take (aA i (n-i))) (q:=i) (cF.preE (bN .head) _) rfl rfl rfl rfl underlying97 lifesize rfl rfl (rep_len a.1) rfl (rep_l a.1) (by rw[rep_l a.1];have:aA i (n-i)<=n-i:=aD _ _;omega) .head ?_;have d:=rep_step a.1 j5;have e:=rep_l a.1;refine bM (z':=((aA i (n-i):Nat):Int)) (congrArg Nat.cast e) ?_
  have j:aA i (n-i)<=n-i/\1<=aA i (n-i):=⟨aD _ _,Nat.le_min.2 ⟨j5,j5⟩⟩
  refine g2 ?_;refine inc (i+(aA i (n-i))) ?_;refine g4 ?_;exact bk2 (i+aA i (n-i),_) ⟨f4 (⟨d,by dsimp only;omega⟩),e9⟩
 refine g12 ?_;obtain rfl:i=n:=by have:=a.1.2;omega
 have g:cur=V4 i p:=by rw[a.1.1,Nat.sub_self,List.replicate_zero,List.append_nil]
 subst g;exact rs1 (_,_) trivial
set_option maxRecDepth 100000
def Mono.ex(m:Mono)(k:Nat):UInt8:=m.E.getD k 0
def fE (m:Mono)(D:Nat->Int):List (UInt8×Int):=[(m.e0,D 0),(m.q,D 1),(m.o,D 2),(m.j,D 3),(m.d,D 4),(m.Z,D 5)]
theorem zL(m:Mono)(D:Nat->Int): ∀k,k<6->(fE m D).drop k=(m.ex k,D k)::(fE m D).drop (k+1)
 |0,_=>rfl
 |1,_=>rfl
 |2,_=>rfl
 |3,_=>rfl
 |4,_=>rfl
 |5,_=>rfl
 |k+6,h=>absurd h j5
def gJ (l:List (UInt8×Int)):Bool:=l.any λx=>decide (0<x.1.toNat)&&x.2==0
def iA:Int:=4611686018427387904
def sA (d:Int):Nat->Int->Option Int
 |0,n=>some n
 |e+1,n=>if iA/d<n then none else sA d e (n*d)
def pA:List (UInt8×Int)->Int->Option Int
 |[],n=>some n
 |x::l,n=>(sA x.2 x.1.toNat n).bind (pA l)
def cW (m:Mono)(D:Nat->Int):Int×Bool:=
 if gJ (fE m D)then (0,true)else match pA (fE m D) (max m.n (-m.n))with
 |some n=>(n,true)
 |none=>(0,false)
theorem index_E(m:Mono)(k:Nat)(hk:k<6)(w:World):(Instr.index 109 (.agg #[j4 m.e0.toNat,j4 m.q.toNat,j4 m.o.toNat,j4 m.j.toNat,j4 m.d.toNat,j4 m.Z.toNat]) (j3 (k:Int))).run prog w= .ok (j4 ((m.ex k).toNat:Int)) w:=by
 rcases k with _|_|_|_|_|_|k
 .kernel_rfl
 .kernel_rfl
 .kernel_rfl
 .kernel_rfl
 .kernel_rfl
 .kernel_rfl
 .omega
theorem zero_not{m:Mono}{D:Nat->Int}(h:gJ (fE m D)=false): ∀k,k<6->0<(m.ex k).toNat->D k≠0:=by
 intro k a he hd
 have h1:(m.ex k,D k)∈fE m D:=by have:=zL m D k a;exact List.mem_of_mem_drop (i:=k) (by rw[this];simp)
 have h2:gJ (fE m D)=true:=List.any_eq_true.2 ⟨_,h1,by simp[he,hd]⟩;rw[h2]at h;cases h
def InV (x:Int):Prop:=0<=x/\x<=iA
theorem inV_mul{x d:Int}(hx:InV x)(hd:1<=d)(h: ¬iA/d<x):InV (x*d):=by
 obtain⟨h0,_⟩:=hx;refine⟨aO h0 j5,?_⟩;have h1:x<=iA/d:=j5
 exact Int.le_trans (aP h1 j5) (Int.ediv_mul_le iA j5)
theorem wrap_inV{x:Int}(h:InV x):wrap64 x=x:=by obtain⟨h0,h1⟩:=h;unfold iA at h1;exact IntWalk.wrap64_in x ⟨j5,j5⟩
def SixAt (w:World)(b:Nat)(D:Nat->Int):Prop:= ∀k,k<6->w.cell? ⟨b,k,none⟩=some (.int .i64 (D k))
set_option maxHeartbeats 1000000 in
theorem value_any(m:Mono)(D:Nat->Int)(w:World)(hD: ∀k,0<=D k/\D k<=2147483648)(hn: -16777216<=m.n/\m.n<=16777216):
  Calls prog 44 #[.agg #[j3 m.n,j4 m.e0.toNat,j4 m.q.toNat,j4 m.o.toNat,j4 m.j.toNat,j4 m.d.toNat,j4 m.Z.toNat],.agg #[j3 (D 0),j3 (D 1),j3 (D 2),j3 (D 3),j3 (D 4),j3 (D 5)]] w λe w'=>e= .returned (.tuple #[j3 (cW m D).1,.bool (cW m D).2])/\Below w.heap.size w w':=by
 have HD:=U4 hD;obtain⟨hn1,hn2⟩:=hn;clear hD
 go_enter func44,ntmps44
 go_wp2
 all_goals
  have q0:fP ((w.alloc (.cells #[.int .i64 m.n,.int .u8 m.e0.toNat,.int .u8 m.q.toNat,.int .u8 m.o.toNat,.int .u8 m.j.toNat,.int .u8 m.d.toNat,.int .u8 m.Z.toNat] 111)).alloc (.cells #[.int .i64 (D 0),.int .i64 (D 1),.int .i64 (D 2),.int .i64 (D 3),.int .i64 (D 4),.int .i64 (D 5)] 117)) w.heap.size 0 m:=by simp[fP,go_sem]
  have q1:SixAt ((w.alloc (.cells #[.int .i64 m.n,.int .u8 m.e0.toNat,.int .u8 m.q.toNat,.int .u8 m.o.toNat,.int .u8 m.j.toNat,.int .u8 m.d.toNat,.int .u8 m.Z.toNat] 111)).alloc (.cells #[.int .i64 (D 0),.int .i64 (D 1),.int .i64 (D 2),.int .i64 (D 3),.int .i64 (D 4),.int .i64 (D 5)] 117)) (w.heap.size+1) D:=by
   intro k hk
   rcases k with _|_|_|_|_|_|k
   all_goals first|omega|simp[go_sem]
  have q2:Below w.heap.size w ((w.alloc (.cells #[.int .i64 m.n,.int .u8 m.e0.toNat,.int .u8 m.q.toNat,.int .u8 m.o.toNat,.int .u8 m.j.toNat,.int .u8 m.d.toNat,.int .u8 m.Z.toNat] 111)).alloc (.cells #[.int .i64 (D 0),.int .i64 (D 1),.int .i64 (D 2),.int .i64 (D 3),.int .i64 (D 4),.int .i64 (D 5)] 117)):=by go_grown
  have Q0:=U4 q0;have Q1:=U4 q1;have Q2:=U4 q2;clear q0 q1 q2;generalize ((w.alloc (.cells #[.int .i64 m.n,.int .u8 m.e0.toNat,.int .u8 m.q.toNat,.int .u8 m.o.toNat,.int .u8 m.j.toNat,.int .u8 m.d.toNat,.int .u8 m.Z.toNat] 111)).alloc (.cells #[.int .i64 (D 0),.int .i64 (D 1),.int .i64 (D 2),.int .i64 (D 3),.int .i64 (D 4),.int .i64 (D 5)] 117))=W0 at Q0 Q1 Q2⊢;generalize w.heap.size=X at Q0 Q1⊢
  go_loop [19] (λi=> ∃k:Nat,k<=6/\i= .int .i64 k/\Hid (gJ (fE m D)=gJ ((fE m D).drop k))) (λi=>6-(intOf i).toNat)
  case atStart=>exact⟨0,S6 _,rfl,rfl⟩
  case round=>
   obtain⟨k,hk,rfl,hz⟩:=hrel
   by_cases hlt:k<6
   .have hidx:=index_E m k hlt;have hc:W0.cell? ⟨X+1,k,none⟩=some (.int .i64 (D k)):=Q1.out k hlt;have hp:=zL m D k hlt;have HZ:=U4 (show gJ (fE m D)=((decide (0<(m.ex k).toNat)&&D k==0) || gJ ((fE m D).drop (k+1))) by rw[hz.out,hp];rfl);clear hp hz
    by_cases he:0<(m.ex k).toNat
    .have he1:decide (0<(m.ex k).toNat)=true:=by simpa using he
     by_cases hd:D k=0
     .have hd1:(D k==0)=true:=by simpa using hd
      have Hd:=U4 hd;have HZ':=U4 (show gJ (fE m D)=true by rw[HZ.out,he1,hd1];rfl);clear hd HZ
      go_wp2
      go_ret2
      have e:cW m D=(0,true):=by unfold cW;rw[HZ'.out];rfl
      rw[e];exact⟨rfl,Q2.out⟩
     .have hd1:(D k==0)=false:=by simpa using hd
      have HZ':=U4 (show gJ (fE m D)=gJ ((fE m D).drop (k+1)) by rw[HZ.out,hd1,Bool.and_false,Bool.false_or]);clear hd HZ
      go_wp2
      go_round
      case rel=>exact⟨k+1,j5,by go_num,HZ'⟩
      case measure=>simp[intOf];omega
    .have he1:decide (0<(m.ex k).toNat)=false:=by simpa using he
     have HZ':=U4 (show gJ (fE m D)=gJ ((fE m D).drop (k+1)) by rw[HZ.out,he1,Bool.false_and,Bool.false_or]);clear HZ
     go_wp2
     go_round
     case rel=>exact⟨k+1,j5,by go_num,HZ'⟩
     case measure=>simp[intOf];omega
   .have HZ:=U4 (show gJ (fE m D)=false by rw[hz.out,U8 ad9];rfl);obtain⟨q0,q1,q2,q3,q4,q5,q6⟩:=Q0.out.zero;clear hz
    go_wp2
    clear q0 q1 q2 q3 q4 q5 q6
    go_loop [34,6] (λi n=> ∃(k:Nat) (x:Int),k<=6/\i= .int .i64 k/\n= .int .i64 x/\InV x/\Hid (pA (fE m D) (max m.n (-m.n))=pA ((fE m D).drop k) x)) (λi _=>6-(intOf i).toNat)
    case atStart=>exact⟨0,_,S6 _,rfl,rfl,⟨j5,by unfold iA;omega⟩,by show _=_;rw[List.drop_zero];try (congr 1;omega)⟩
    case round=>
     obtain⟨k2,x,hk2,rfl,rfl,hx,hmul⟩:=hrel;have HX:=U4 hx;clear hx
     by_cases hlt2:k2<6
     .have hidx:=index_E m k2 hlt2;have hc:W0.cell? ⟨X+1,k2,none⟩=some (.int .i64 (D k2)):=Q1.out k2 hlt2;have HM:=U4 (show pA (fE m D) (max m.n (-m.n))=(sA (D k2) (m.ex k2).toNat x).bind (pA ((fE m D).drop (k2+1))) by rw[hmul.out,zL m D k2 hlt2];rfl);have hd:=HD.out k2;obtain⟨hd0,hd1⟩:=hd;have hu:=(m.ex k2).toNat_lt;have HNZ:=U4 (zero_not HZ.out k2 hlt2);clear hmul;generalize m.ex k2=ee at hidx HM hu HNZ⊢
      go_wp2
      go_loop [39,6] (λc n=> ∃(j:Nat) (y:Int),j<=ee.toNat/\c= .int .u8 j/\n= .int .i64 y/\InV y/\Hid (pA (fE m D) (max m.n (-m.n))=(sA (D k2) (ee.toNat-j) y).bind (pA ((fE m D).drop (k2+1))))) (λc _=>ee.toNat-(intOf c).toNat)
      case atStart=>exact⟨0,x,S6 _,rfl,rfl,HX.out,HM⟩
      case round=>
       obtain⟨j,y,hj,rfl,rfl,hy,hpow⟩:=hrel;have HY:=U4 hy;clear hy
       by_cases hlt3:j<ee.toNat
       .have hd2:1<=D k2:=by have:=HNZ.out j5;omega
        have HP:=U4 (show(sA (D k2) (ee.toNat-j) y)=if iA/D k2<y then none else sA (D k2) (ee.toNat-(j+1)) (y*D k2) by rw[show ee.toNat-j=(ee.toNat-(j+1))+1 by omega,sA])
        by_cases hq:iA/D k2<y
        .have hq1:decide (4611686018427387904/D k2<y)=true:=by simpa[iA]using hq
         go_wp2
         go_ret2
         have e:cW m D=(0,false):=by unfold cW;rw[HZ.out,hpow.out,HP.out,if_pos hq];rfl
         rw[e];exact⟨rfl,Q2.out⟩
        .have hq1:decide (4611686018427387904/D k2<y)=false:=by simpa[iA]using hq
         have HY2:=U4 (inV_mul HY.out hd2 hq);have hw:=wrap_inV HY2.out;have HP2:=U4 (show pA (fE m D) (max m.n (-m.n))=(sA (D k2) (ee.toNat-(j+1)) (y*D k2)).bind (pA ((fE m D).drop (k2+1))) by rw[hpow.out,HP.out,if_neg hq]);clear HP hpow
         go_wp2
         go_round
         case rel=>exact⟨j+1,y*D k2,j5,by go_num,by rw[hw],HY2.out,HP2⟩
         case measure=>simp[intOf];omega
       .have HP:=U4 (show pA (fE m D) (max m.n (-m.n))=pA ((fE m D).drop (k2+1)) y by rw[hpow.out,show ee.toNat-j=0 by omega];rfl);clear hpow
        go_wp2
        go_round
        case rel=>exact⟨k2+1,y,j5,by go_num,rfl,HY.out,HP⟩
        case measure=>simp[intOf];omega
     .have e:cW m D=(x,true):=by unfold cW;rw[HZ.out,hmul.out,U8 ad9];rfl
      have He:=U4 e;clear e hmul
      go_wp2
      go_ret2
      rw[He.out];exact⟨rfl,Q2.out⟩
end
section
open Go.RowKit Go.Proofs.Tryz
set_option maxRecDepth 100000
def Ints (w:World)(A:Option Addr)(l:List Int):Prop:=
 ∀(k:Nat) (d:Int),l[k]?=some d-> ∃b o,A=some ⟨b,o,none⟩/\b<w.heap.size/\w.cell? ⟨b,o+k,none⟩=some (.int .i64 d)
theorem Ints.below{w w':World}{A:Option Addr}{l:List Int}(h:Ints w A l)(hb:Below w.heap.size w w'):Ints w' A l:=λk d c=>by obtain⟨b,o,e,hB,a⟩:=h k d c;exact⟨b,o,e,B2 hB hb.size,(hb.cell (p:=⟨b,o+k,none⟩) hB).trans a⟩
def kL (d:Int):Bool:=decide (0<=d/\d<=2147483648)
def nY (ds:List Int):Bool:=decide (ds.length<=6)&&ds.all kL
def jV (D:Nat->Int):List Mono->Int->Int->Option Int
 |[],_,sum=>some sum
 |m::l,size,sum=>
  if (cW m D).2=false\/iA-size<(cW m D).1 then none
  else jV D l (size+(cW m D).1) (if m.n<0 then sum-(cW m D).1 else sum+(cW m D).1)
def cV (ds:List Int)(k:Nat):Int:=ds.getD k 0
def bF (p:List Mono)(ds:List Int):Int×Int:=
 if cK p then if nY ds then match jV (cV ds) p 0 0 with
  |some n=>(n,0)
  |none=>(0,22)
 else (0,23)else (0,20)
def sP (w:World)(b:Nat)(D:Nat->Int):Prop:=b<w.heap.size/\ ∀k,k<6->w.cell? ⟨b,k,none⟩=some (.int .i64 (D k))/\w.frozen? ⟨b,k,none⟩=false
theorem sP.set{w:World}{b:Nat}{D:Nat->Int}(h:sP w b D)(k:Nat)(hk:k<6)(d:Int):sP (w.setCell ⟨b,k,none⟩ (j3 d)) b (λj=>if j=k then d else D j):=by
 refine⟨by simpa using h.1,λj a=>⟨?_,?_⟩⟩
 .by_cases e:j=k
  .subst e;dsimp only;rw[if_pos rfl];exact World.cell?_setCell_same w ⟨b,j,none⟩ _ (h.2 j a).1
  .dsimp only;rw[if_neg e,World.cell?_setCell_other w _ _ _ (by intro h;injection h with _ h;exact e h.symm)];exact(h.2 j a).1
 .rw[World.frozen?_setCell];exact(h.2 j a).2
theorem take_dim{ds:List Int}{k:Nat}{d:Int}(h:ds[k]?=some d):(λj=>if j=k then d else cV (ds.take k) j)=cV (ds.take (k+1)):=by
 funext j
 have a:k<ds.length:=(G3.1 h).1;have hd:ds[k]=d:=(G3.1 h).2;unfold cV;rw[List.take_succ_eq_append_getElem a,hd];simp only[W2];have hl:(ds.take k).length=k:=by simp;omega
 by_cases e:j=k
 .subst e;rw[if_pos rfl,List.getElem?_append_right j5,hl];simp
 .rw[if_neg e]
  by_cases b:j<k
  .rw[List.getElem?_append_left j5]
  .rw[Y5 j5,Y5 o6]
theorem bKk{d:Int}(hd:0<=d): ∀(e:Nat) (n r:Int),0<=n->sA d e n=some r->0<=r
 |0,n,r,hn,h=>by simp[sA]at h;omega
 |e+1,n,r,hn,h=>by
  unfold sA at h;split at h
  .cases h
  .exact bKk hd e (n*d) r (aO hn hd) h
theorem bJc: ∀(l:List (UInt8×Int)) (n r:Int),(∀x∈l,0<=x.2)->0<=n->pA l n=some r->0<=r
 |[],n,r,_,hn,h=>by simp[pA]at h;omega
 |x::l,n,r,hl,hn,h=>by
  unfold pA at h
  cases a:sA x.2 x.1.toNat n with
  |none=>rw[a]at h;cases h
  |some y=>
   rw[a]at h;exact bJc l y r (λz b=>hl z (by simp[b])) (bKk (hl x m9) _ _ _ hn a) h
theorem xD(m:Mono)(D:Nat->Int)(hD: ∀k,0<=D k):0<=(cW m D).1:=by
 unfold cW;split
 .simp
 .split
  .rename_i n hn;refine bJc _ _ _ (λx hx=>?_) j5 hn;simp only[fE,F1,List.not_mem_nil,or_false]at hx
   rcases hx with rfl|rfl|rfl|rfl|rfl|rfl<;>exact hD _
  .simp
theorem tK: ∀{o:Option Mono} {l:List Mono},fG o l=true-> ∀m∈l,hJ m=true
 |_,[],_,m,c=>by simp at c
 |none,a::l,h,m,c=>by
  simp only[fG,L9]at h
  rcases F1.1 c with rfl|c
  .exact h.1
  .exact tK h.2 m c
 |some b,a::l,h,m,c=>by
  simp only[fG,L9]at h
  rcases F1.1 c with rfl|c
  .exact h.1
  .exact tK h.2.2 m c
theorem sP.below{w w':World}{b:Nat}{D:Nat->Int}(h:sP w b D)(hb:Below w.heap.size w w'):sP w' b D:=
 ⟨B2 h.1 hb.size,λk a=>⟨(hb.cell (p:=⟨b,k,none⟩) h.1).trans (h.2 k a).1,(hb.frozen (p:=⟨b,k,none⟩) h.1).trans (h.2 k a).2⟩⟩
theorem bAc{ds:List Int}(h:ds.all kL=true): ∀k,0<=cV ds k/\cV ds k<=2147483648:=λk=>by
 unfold cV;rw[W2]
 cases a:ds[k]? with
 |none=>simp
 |some d=>
  have hd:d∈ds:=List.mem_of_getElem? a;have:=G0.1 h d hd
  simpa[kL]using this
set_option maxHeartbeats 1000000 in
theorem eval_any(A B:Option Addr)(c d:Nat)(p:List Mono)(ds:List Int)(w:World)(ha:lR w A p)(hb:Ints w B ds)(hp:p.length<=140737488355328)(hq:ds.length<=140737488355328):
  Calls prog 15 #[.slice A p.length c,.slice B ds.length d] w λe w'=>e= .returned (.tuple #[j3 (bF p ds).1,j3 (bF p ds).2])/\Below w.heap.size w w':=by
 have Ha:=U4 ha;have Hb:=U4 hb;clear ha hb;cases hrp:cK p
 .have e:bF p ds=(0,20):=by unfold bF;rw[hrp];rfl
  rw[e]
  go_enter func15,ntmps15
  go_wp2_with (go_at_call 43;refine(gU A c p _ Ha.out hp).mono ?_;rintro e w1 ⟨rfl,hb1⟩)
  go_ret2
  exact⟨rfl,hb1⟩
 .go_enter func15,ntmps15
  go_wp2_with fail
  refine(gU A c p _ Ha.out hp).mono ?_;rintro e w1 ⟨rfl,hb1⟩;have H1:=U4 hb1;clear hb1
  go_wp2
  have s0:sP (w1.alloc (.cells #[.int .i64 0,.int .i64 0,.int .i64 0,.int .i64 0,.int .i64 0,.int .i64 0] 117)) w1.heap.size (cV (ds.take 0)):=by
   refine⟨m9,λk hk=>?_⟩
   rcases k with _|_|_|_|_|_|k
   all_goals first|omega|simp[go_sem,cV]
  have b0:Below w.heap.size w (w1.alloc (.cells #[.int .i64 0,.int .i64 0,.int .i64 0,.int .i64 0,.int .i64 0,.int .i64 0] 117)):=H1.out.alloc H1.out.size _;have hXw:w.heap.size<=w1.heap.size:=H1.out.size;have S0:=U4 s0;have B0:=U4 b0;clear s0 b0 H1;generalize w1.alloc (.cells #[.int .i64 0,.int .i64 0,.int .i64 0,.int .i64 0,.int .i64 0,.int .i64 0] 117)=W0 at S0 B0⊢;generalize w1.heap.size=X at S0 hXw⊢
  go_loopw [20] (λi wr=> ∃k:Nat,k<=ds.length/\k<=6/\i= .int .i64 k/\sP wr X (cV (ds.take k))/\Hid (ds.all kL=(ds.drop k).all kL)/\Below w.heap.size w wr) (λi _=>ds.length-(intOf i).toNat)
  case atStart=>exact⟨0,S6 _,j5,rfl,S0.out,rfl,B0.out⟩
  case round=>
   obtain⟨k,hk,hk6,rfl,hsix,hall,hbl⟩:=hrel;have HSix:=U4 hsix;have HBL:=U4 hbl;clear hsix hbl S0 B0
   by_cases hlt:k<ds.length
   .obtain⟨x,hx⟩: ∃x,ds[k]?=some x:=⟨ds[k],G1 hlt⟩
    have dm:ds.drop k=x::ds.drop (k+1):=by rw[aG hlt];have:=(G3.1 hx).2;rw[this]
    obtain⟨b,o,rfl,hB,c0⟩:=Hb.out.below HBL.out k x hx;have HAll:=U4 (show ds.all kL=(kL x&&(ds.drop (k+1)).all kL) by rw[hall.out,dm,List.all_cons]);have HTk:=U4 (take_dim hx);clear dm hx hall hB
    by_cases h6:k=6
    .have h61:decide ((6:Int)<=(k:Int))=true:=by simp;omega
     have e:bF p ds=(0,23):=by unfold bF;rw[hrp,show nY ds=false by unfold nY;rw[decide_eq_false j5];rfl];rfl
     have He:=U4 e;clear e h6
     go_wp2
     go_ret2
     rw[He.out];exact⟨rfl,HBL.out⟩
    .have h61:decide ((6:Int)<=(k:Int))=false:=by simp;omega
     cases hs:kL x
     .have e:bF p ds=(0,23):=by unfold bF;rw[hrp,show nY ds=false by unfold nY;rw[HAll.out,hs];simp];rfl
      have He:=U4 e;clear e h6
      have hs':x<0\/2147483648<x:=by have:=of_decide_eq_false hs;omega
      rcases Int.lt_or_le x 0 with hx0|hx0
      .have t1:decide (x<0)=true:=by simpa using hx0
       go_wp2
       go_ret2
       rw[He.out];exact⟨rfl,HBL.out⟩
      .have t1:decide (x<0)=false:=by simpa using hx0
       have t2:decide (2147483648<x)=true:=by simp;omega
       go_wp2
       go_ret2
       rw[He.out];exact⟨rfl,HBL.out⟩
     .have hs':0<=x/\x<=2147483648:=of_decide_eq_true hs;have t1:decide (x<0)=false:=by simp;omega
      have t2:decide (2147483648<x)=false:=by simp;omega
      obtain⟨hcell,hfro⟩:=HSix.out.2 k j5;have HA2:=U4 (show ds.all kL=(ds.drop (k+1)).all kL by rw[HAll.out,hs,Bool.true_and]);have HS2:=U4 (show sP (wr.setCell ⟨X,k,none⟩ (.int .i64 x)) X (cV (ds.take (k+1))) by rw[<-HTk.out];exact HSix.out.set k j5 x);have HB2:=U4 (show Below w.heap.size w (wr.setCell ⟨X,k,none⟩ (.int .i64 x))from HBL.out.setCell hXw _);clear HAll HTk HSix HBL hs'
      go_wp2
      go_roundw
      case rel=>exact⟨k+1,j5,j5,by go_num,HS2.out,HA2,HB2.out⟩
      case measure=>simp[intOf];omega
   .have hall1:ds.all kL=true:=by rw[hall.out,U8 j5];rfl
    have HD:=U4 (bAc hall1)
    have He:=U4 (show bF p ds=match jV (cV ds) p 0 0 with|some n=>(n,0)|none=>(0,22) by
     unfold bF;rw[hrp,show nY ds=true by unfold nY;rw[hall1,decide_eq_true j5];rfl]
     rfl)
    have HS:=U4 (show sP wr X (cV ds) by have:=HSix.out;rw[Y2 j5]at this;exact this)
    have HRP:=U4 (show ∀m∈p,hJ m=true by
     unfold cK at hrp;simp only[L9]at hrp
     exact tK hrp.2)
    clear hall hall1 HSix;generalize cV ds=D at HD He HS⊢
    go_wp2
    go_loopw [41,9,10] (λi sm sz wi=> ∃(j:Nat) (size sum:Int),j<=p.length/\i= .int .i64 j/\sm= .int .i64 sum/\sz= .int .i64 size/\Hid (0<=size/\size<=iA/\ -size<=sum/\sum<=size)/\Hid (jV D p 0 0=jV D (p.drop j) size sum)/\sP wi X D/\Below w.heap.size w wi) (λi _ _ _=>p.length-(intOf i).toNat)
    case atStart=>exact⟨0,0,0,S6 _,rfl,rfl,rfl,⟨j5,by unfold iA;omega,j5,j5⟩,rfl,HS.out,HBL.out⟩
    case round=>
     obtain⟨j,size,sum,hj,rfl,rfl,rfl,hbd,hev,hsix,hbl⟩:=hrel;have HS2:=U4 hsix;have HB2:=U4 hbl;clear hsix hbl HS HBL
     by_cases hlt2:j<p.length
     .obtain⟨m,hm,dm⟩:=mS hlt2;obtain⟨b,o,rfl,hB,c0,c1,c2,c3,c4,c5,c6⟩:=Ha.out.below HB2.out j m hm;have hsm:hJ m=true:=HRP.out m (f5 hm);have hsm':m.n≠0/\m.n<=16777216/\ -16777216<=m.n/\m.deg<=8:=of_decide_eq_true hsm;have HV:=U4 (xD m D (λk=>(HD.out k).1))
      have HE:=U4 (show jV D p 0 0=if (cW m D).2=false\/iA-size<(cW m D).1 then none
        else jV D (p.drop (j+1)) (size+(cW m D).1) (if m.n<0 then sum-(cW m D).1 else sum+(cW m D).1) by rw[hev.out,dm,jV])
      have hX:X<wr.heap.size:=HS2.out.1;have x0:=(HS2.out.2 0 j5).1;have x1:=(HS2.out.2 1 j5).1;have x2:=(HS2.out.2 2 j5).1;have x3:=(HS2.out.2 3 j5).1;have x4:=(HS2.out.2 4 j5).1;have x5:=(HS2.out.2 5 j5).1;have Hval:=U4 (λW=>value_any m D W HD.out ⟨hsm'.2.2.1,hsm'.2.1⟩);have hS3: ∀o,sP (wr.alloc o) X D:=λo=>HS2.out.below ((Below.refl _ _).alloc (Nat.le_refl _) _);have HS3:=U4 hS3;have HB3:=U4 (show ∀o,Below w.heap.size w (wr.alloc o)from λo=>HB2.out.alloc HB2.out.size o);clear hm dm hB hsm hsm' hev hS3 HS2 HB2
      go_wp2_with fail
      refine(Hval.out _).mono ?_;rintro e w5 ⟨rfl,hb5⟩;have q0:fP w5 wr.heap.size 0 m:=fP.below (w:=wr.alloc (.cells #[.int .i64 m.n,.int .u8 m.e0.toNat,.int .u8 m.q.toNat,.int .u8 m.o.toNat,.int .u8 m.j.toNat,.int .u8 m.d.toNat,.int .u8 m.Z.toNat] 111)) (by simp[fP,go_sem]) hb5 m9;have HS5:=U4 ((HS3.out _).below hb5);have HB5:=U4 ((HB3.out _).trans (hb5.mono (HB3.out _).size));have n0:=q0.zero.1;clear hb5 q0 c0 c1 c2 c3 c4 c5 c6 x0 x1 x2 x3 x4 x5 hX Hval HS3 HB3;generalize cW m D=v at HV HE⊢;obtain⟨n,ok⟩:=v;simp only at HV HE⊢;cases ok
      .have e:bF p ds=(0,22):=by rw[He.out,HE.out,if_pos (.inl rfl)]
       have He2:=U4 e;clear e HE
       go_wp2
       go_ret2
       rw[He2.out];exact⟨rfl,HB5.out⟩
      .obtain⟨g0,g1,g2,g3⟩:=hbd.out;have gn:0<=n:=HV.out;unfold iA at g1
       by_cases hq:iA-size<n
       .have hq1:decide (4611686018427387904-size<n)=true:=by simpa[iA]using hq
        have e:bF p ds=(0,22):=by rw[He.out,HE.out,if_pos (.inr hq)]
        have He2:=U4 e;clear e HE hq
        go_wp2
        go_ret2
        rw[He2.out];exact⟨rfl,HB5.out⟩
       .have hq1:decide (4611686018427387904-size<n)=false:=by simpa[iA]using hq
        have hq2:size+n<=4611686018427387904:=by unfold iA at hq;omega
        by_cases hneg:m.n<0
        .have HE2:=U4 (show jV D p 0 0=jV D (p.drop (j+1)) (size+n) (sum-n) by rw[HE.out,if_neg ab2,if_pos hneg]);have hneg1:decide (m.n<0)=true:=by simpa using hneg
         clear HE hq
         go_wp2
         go_roundw
         case rel=>exact⟨j+1,size+n,sum-n,j5,by go_num,by go_num,by go_num,⟨j5,by unfold iA;omega,j5,j5⟩,HE2,HS5.out,HB5.out⟩
         case measure=>simp[intOf];omega
        .have HE2:=U4 (show jV D p 0 0=jV D (p.drop (j+1)) (size+n) (sum+n) by rw[HE.out,if_neg ab2,if_neg hneg]);have hneg1:decide (m.n<0)=false:=by simpa using hneg
         clear HE hq
         go_wp2
         go_roundw
         case rel=>exact⟨j+1,size+n,sum+n,j5,by go_num,by go_num,by go_num,⟨j5,by unfold iA;omega,j5,j5⟩,HE2,HS5.out,HB5.out⟩
         case measure=>simp[intOf];omega
     .have e:bF p ds=(sum,0):=by rw[He.out,hev.out,U8 j5,jV]
      have He2:=U4 e;clear e hev
      go_wp2
      go_ret2
      rw[He2.out];exact⟨rfl,HB2.out⟩
end
section
open Go.RowKit Go.Proofs.Tryz
def celT:Tab:=[(3,⟨.int .i64,1⟩),(2,⟨.int .i64,1⟩),(5,⟨.int .u8,1⟩),(4,⟨.bool,1⟩),(77,⟨.int .u8,1⟩),(32,⟨.int .i64,1⟩),(43,⟨.slice 111,1⟩),(42,⟨.slice 43,1⟩),(172,⟨.struct [(3,0),(3,1),(2,2),(43,3),(77,4)],5⟩),(78,⟨.slice 172,1⟩),(95,⟨.struct [(42,0),(3,1)],2⟩),(22,⟨.slice 95,1⟩),(80,⟨.struct [(3,0),(3,1),(43,2),(42,3),(77,4),(78,5)],6⟩),(23,⟨.slice 80,1⟩),(24,⟨.slice 3,1⟩),(99,⟨.slice 4,1⟩),(26,⟨.struct [(3,0),(22,1),(23,2),(24,3)],4⟩),(114,⟨.struct [(3,0),(3,1)],2⟩),(97,⟨.slice 114,1⟩),(201,⟨.struct [(3,0),(3,1),(3,2),(99,3)],4⟩),(27,⟨.slice 2,1⟩),(198,⟨.array 64 4,64⟩),(111,⟨.struct [(2,0),(109,1)],7⟩),(109,⟨.array 6 5,6⟩),(290,⟨.slice 5,1⟩),(224,⟨.int .u64,1⟩),(199,⟨.other,1⟩),(274,⟨.other,1⟩),(126,⟨.other,1⟩),(169,⟨.other,1⟩)]
theorem xW:fC prog celT:=uM.ok
 ⟨⟨by rw[underlying3];rfl,j8⟩,
  ⟨by rw[underlying2];rfl,j8⟩,
  ⟨by rw[underlying5];rfl,j8⟩,
  ⟨by rw[underlying4];rfl,j8⟩,
  ⟨by rw[underlying77];rfl,j8⟩,
  ⟨by rw[underlying32];rfl,j8⟩,
  ⟨by rw[underlying43];rfl,j8⟩,
  ⟨by rw[underlying42];rfl,j8⟩,
  ⟨by rw[underlying172];rfl,j8⟩,
  ⟨by rw[underlying78];rfl,j8⟩,
  ⟨by rw[underlying95];rfl,j8⟩,
  ⟨by rw[underlying22];rfl,j8⟩,
  ⟨by rw[underlying80];rfl,j8⟩,
  ⟨by rw[underlying23];rfl,j8⟩,
  ⟨by rw[underlying24];rfl,j8⟩,
  ⟨by rw[underlying99];rfl,j8⟩,
  ⟨by rw[underlying26];rfl,j8⟩,
  ⟨by rw[underlying114];rfl,j8⟩,
  ⟨by rw[underlying97];rfl,j8⟩,
  ⟨by rw[underlying201];rfl,j8⟩,
  ⟨by rw[underlying27];rfl,j8⟩,
  ⟨by rw[underlying198];rfl,j8⟩,
  ⟨by rw[underlying111];rfl,j8⟩,
  ⟨by rw[underlying109];rfl,j8⟩,
  ⟨by rw[underlying290];rfl,j8⟩,
  ⟨by rw[underlying224];rfl,j8⟩,
  ⟨by rw[underlying199];rfl,j8⟩,
  ⟨by rw[underlying274];rfl,j8⟩,
  ⟨by rw[underlying126];rfl,j8⟩,
  ⟨by rw[underlying169];rfl,j8⟩,e9⟩
theorem bVt: ∃i:TypeInfo,prog.info? 2=some i/\i.zero=some (j3 0)/\i.size=1/\i.bytes=8:=by
 have h:(prog.info? 2).map (λi=>(i.zero,i.size,i.bytes))=some (some (.int .i64 0),1,8):=j8
 cases a:prog.info? 2 with
 |none=>simp[a]at h
 |some i=>simp[a]at h;exact⟨i,rfl,h.1,h.2.1,h.2.2⟩
theorem nV{β:dY}{n:Nat}{Γ:Env}{H:List bD}{F:List bC}{Q:Exit->Act->World->Prop}{ops:Array Oper}{rest:List Oper}{o:Oper}{d:Nat}{x:Operand}{m:Int}(hw:want ops Γ o=some true)(ho:o.op= .buildSlice 27 1 #[(0,x)])(hd:o.dst=some d)(hn:C2 d n=true)
  (hx:Γ.ev x=some (j3 m)) (k: ∀b,At β n ((d,.slice (some ⟨b,0,none⟩) 1 1)::Γ) (.obj b (.cells (dA.all [m]).toArray 2)::H) F (wpList prog ops Q rest)):At β n Γ H F (wpList prog ops Q (o::rest)):=by
 obtain⟨i,e,a,c,_⟩:=bVt;refine nX hw ho hd hn hx underlying27 e a j5 j5 ?_ k;rw[c]
 kernel_rfl
theorem nP{β:dY}{n:Nat}{Γ:Env}{H:List bD}{F:List bC}{Q:Exit->Act->World->Prop}{ops:Array Oper}{rest:List Oper}{o:Oper}{d:Nat}{x y:Operand}{c q:Nat}{v:Value}{A:Option Addr}{xs ys:List Int}{H':List bD}(hH:bZ H (dA.row v 2 xs) H')(hr:cF β H F dA A ys)(hg:o.guard=none)
  (ho:o.op= .call {callee:= .builtin .append,args:= #[x,y],argTypes:= #[27,27]}) (hd:o.dst=some d) (hn:C2 d n=true)
  (hx:Γ.ev x=some v) (hy:Γ.ev y=some (.slice A q c)) (hq:q=ys.length) (hl:xs.length+ys.length<=17592186044416)
  (k: ∀A' cap',At β n ((d,.slice A' (xs++ys).length cap')::Γ) (dA.row (.slice A' (xs++ys).length cap') 2 (xs++ys)::H') F (wpList prog ops Q rest)):At β n Γ H F (wpList prog ops Q (o::rest)):=by obtain⟨i,e,a,b,hb⟩:=bVt;exact jS hH hr hg ho hd hn underlying27 e a b hb rfl hx hy hq j5 l4 k
theorem ints_of{S:kZ}{w:World}{A:Option Addr}{k c:Nat}{l:List Int}(hS: ∀b,S b->b<w.heap.size)(h:(dA.sl (.slice A k c) l).p S w):Ints w A l:=λi d m=>by
 obtain⟨q,cap,e,h⟩:=h;injection e with f j g
 subst f;obtain⟨b,o,cs,f,j,g,a⟩:=h i d m;have a:cs=[.int .i64 d]:=a;subst a;refine⟨b,o,f,hS b j,?_⟩;have:=g 0 _ rfl;have n:dA.size=1:=rfl;rw[show(Enc.flat dA.size dA.cells).size=1 from rfl]at this
 simpa using this
theorem bDk(p:PolV)(B:Option Addr)(d:Nat)(ds:List Int)(hp:p.B.length<=140737488355328)(hq:ds.length<=140737488355328):cJ prog 15 [f9 p,.slice B ds.length d] [] [cR p,dA.sl (.slice B ds.length d) ds] (λ_:Unit=> .tuple #[j3 (bF p.B ds).1,j3 (bF p.B ds).2]) (λ_=>[]) (λ_=>[]):=
 mE λ_ w a h=>eval_any _ _ _ _ _ _ w (lE a (h _ (.head _))) (ints_of a (h _ (.tail _ (.head _)))) hp hq
def bSx (dims:List Int)(p:List Mono):Bool:=(bF p dims).2==0&&decide (0<=(bF p dims).1)&&decide ((bF p dims).1<=65536)
def sidesGo(dims:List Int):List (List Mono)->List Int->Option (List Int)
 |[],acc=>some acc
 |p::r,acc=>if bSx dims p=true then sidesGo dims r (acc++[(bF p dims).1])else none
def prodQ:List Int->Int->Option Int
 |[],a=>some a
 |n::r,a=>if 65536<a*n then none else prodQ r (a*n)
def sizeB (sides:List (List Mono))(dims:List Int):Option Int:=match sidesGo dims sides []with
 |none=>none
 |some l=>if l.contains 0 then some 0 else prodQ l 1
def cellsGo(dims:List Int):List jX->Int->Int×Int
 |[],all=>(all,0)
 |b::r,all=>match sizeB b.K dims with
  |none=>(0,102)
  |some n=>if 1048576<all+n then (0,102)else cellsGo dims r (all+n)
def bKy (n:Int):Bool:=decide (n<0) || decide (65536<n)
def jP (vars:Int)(dims:List Int):Bool:=decide ((dims.length:Int)=vars)&& !dims.any bKy
def dH (c:dR)(dims:List Int):Int×Int:=if dC c=true then if jP c.vars dims=true then cellsGo dims c.C 0 else (0,101)else (0,100)
def inSz (l:List Int):Prop:= ∀n∈l,0<=n/\n<=65536
section
variable {dims acc : List Int} {l : List (List Mono)} {p : List Mono} {i : Nat} {R : Option (List Int)}
theorem bHz(h:R=sidesGo dims (l.drop i) acc)(hp:l[i]?=some p)(h1:(bF p dims).2=0)(h2:0<=(bF p dims).1)(h3:(bF p dims).1<=65536):R=sidesGo dims (l.drop (i+1)) (acc++[(bF p dims).1]):=by obtain⟨hlt,e⟩:=G3.1 hp;rw[h,<-aH hlt,e,sidesGo,if_pos (by simp[bSx,h1,h2,h3])]
theorem wF(h:R=sidesGo dims (l.drop i) acc)(hp:l[i]?=some p)(h1:(bF p dims).2≠0\/(bF p dims).1<0\/65536<(bF p dims).1):R=none:=by obtain⟨hlt,e⟩:=G3.1 hp;rw[h,<-aH hlt,e,sidesGo,if_neg];simp only[bSx,L9,beq_iff_eq,decide_eq_true_eq];rintro⟨⟨a,b⟩,c⟩;omega
theorem bVz(h:R=sidesGo dims (l.drop i) acc)(hi:l.length<=i):R=some acc:=by rw[h,U8 hi,sidesGo]
theorem bAw{n:Int}(h:inSz acc)(h2:0<=n)(h3:n<=65536):inSz (acc++[n]):=λy a=>by
 rcases List.mem_append.1 a with a|a
 .exact h y a
 .have e:y=n:=by simpa using a
  subst e;exact⟨h2,h3⟩
end
section
variable {l : List Int} {a n : Int} {i : Nat} {R : Option Int}
theorem prod_yes(h:R=prodQ (l.drop i) a)(hp:l[i]?=some n)(h1:a*n<=65536):R=prodQ (l.drop (i+1)) (a*n):=by obtain⟨hlt,e⟩:=G3.1 hp;rw[h,<-aH hlt,e,prodQ,if_neg j5]
theorem prod_no(h:R=prodQ (l.drop i) a)(hp:l[i]?=some n)(h1:65536<a*n):R=none:=by obtain⟨hlt,e⟩:=G3.1 hp;rw[h,<-aH hlt,e,prodQ,if_pos h1]
theorem prod_end(h:R=prodQ (l.drop i) a)(hi:l.length<=i):R=some a:=by rw[h,U8 hi,prodQ]
theorem bQn(ha:0<=a/\a<=65536)(hn:0<=n/\n<=65536):0<=a*n/\a*n<=4294967296:=by refine⟨aO ha.1 hn.1,?_⟩;have h1:a*n<=65536*n:=aP ha.2 hn.1;omega
theorem prodQ_in: ∀{l:List Int} {a r:Int},0<=a->a<=65536->inSz l->prodQ l a=some r->0<=r/\r<=65536
 |[],a,r,h0,h1,_,h=>by cases h;exact⟨h0,h1⟩
 |n::l,a,r,h0,h1,hl,h=>by
  unfold prodQ at h;have hn:=hl n (F9 ..);split at h
  .cases h
  .exact prodQ_in (bQn ⟨h0,h1⟩ hn).1 j5 (λy b=>hl y (F3 _ b)) h
end
theorem bMk{dims:List Int}: ∀{l:List (List Mono)} {acc r:List Int},inSz acc->sidesGo dims l acc=some r->inSz r
 |[],acc,r,ha,h=>by cases h;exact ha
 |p::l,acc,r,ha,h=>by
  unfold sidesGo at h;split at h
  .rename_i a;simp only[bSx,L9,beq_iff_eq,decide_eq_true_eq]at a;exact bMk (bAw ha a.1.2 a.2) h
  .cases h
theorem sizeB_in{sides:List (List Mono)}{dims:List Int}{n:Int}(h:sizeB sides dims=some n):0<=n/\n<=65536:=by
 unfold sizeB at h;split at h
 .cases h
 .rename_i l hl;split at h
  .cases h;omega
  .exact prodQ_in j5 j5 (bMk (λ_ h=>by cases h) hl) h
theorem indexF6_spec(A:Option Addr)(c:Nat)(l:List Int)(hl:l.length<=140737488355328)(f:FuncId)(cap:List Value)(G:List bC)(p:Int->Bool)(hcf: ∀(args:Array Value) (w:World),(callFunc f args).run prog w= .ok (.enter f args) w)(hf: ∀k:Int,cJ prog f (j3 k::cap) [] G (λ_:Unit=> .bool (p k)) (λ_=>[]) (λ_=>[])):cJ prog 126 [.slice A l.length c,.func (.func f) #[] cap.toArray] [] (dA.sl (.slice A l.length c) l::G) (λ(_:Unit)=> j3 (rO p l 0)) (λ_=>[]) (λ_=>[]):=by
 have hT:=xW;generalize h:rO p l 0=r;refine j1 func126 ntmps126 ?_;intro β hM;refine g14 ?_;refine bT (ι:=Nat) [(0,_),(1,_),(7,_)] ⟨rfl,rfl,rfl,e9⟩ (λi=>[(8,.int .i64 (i:Nat))]) (λ_=>[]) (λi=>[bC.pure (i<=l.length/\r=rO p (l.drop i) i)]) (λi=>l.length-i) 0 ⟨rfl,e9⟩ .nil ⟨f4 (⟨j5,h.symm⟩),e9⟩ ?_;rintro i;refine bG d7 λa=>?_;refine g6 ?_;refine dO (λe=>?_) λe=>?_
 .refine g15 ?_;obtain⟨g,b⟩:=gx l i;refine ss (ixs i) ?_;refine ss (fV b 0) ?_;refine nF hcf (hf g) rfl rfl rfl rfl rfl rfl rfl .nil (bA.drop 2) λ_=>?_;refine g2 ?_;refine vN (λd=>?_) λd=>?_
  .refine g12 ?_;obtain rfl:=(pH a.2 b).1 ‹_›;exact rs1 () trivial
  refine g5 ?_;refine inc (i+1) ?_;refine g3 ?_;exact bk2 (i+1) ⟨f4 (⟨j5,(pH a.2 b).2 ‹_›⟩),e9⟩
 refine g11 ?_;have hr:=bGl a.2 j5;subst hr;exact rs1 () trivial
theorem yK(A:Option Addr)(c:Nat)(l:List Int)(hl:l.length<=140737488355328)(f:FuncId)(cap:List Value)(G:List bC)(p:Int->Bool)(hcf: ∀(args:Array Value) (w:World),(callFunc f args).run prog w= .ok (.enter f args) w)(hf: ∀k:Int,cJ prog f (j3 k::cap) [] G (λ_:Unit=> .bool (p k)) (λ_=>[]) (λ_=>[])):cJ prog 61 [.slice A l.length c,.func (.func f) #[] cap.toArray] [] (dA.sl (.slice A l.length c) l::G) (λ(_:Unit)=> .bool (l.any p)) (λ_=>[]) (λ_=>[]):=by have hT:=xW;refine j1 func61 ntmps61 ?_;intro β hM;refine g9 ?_;refine bL func126 (indexF6_spec A c l hl f cap G p hcf hf) rfl rfl .nil bA.self λ_=>?_;refine g5 ?_;exact rs1 () e9 (he:=congrArg Y6 (bFu p l 0 l4))
theorem index6_spec(A:Option Addr)(c:Nat)(l:List Int)(hl:l.length<=140737488355328)(k:Int):cJ prog 128 [.slice A l.length c,j3 k] [] [dA.sl (.slice A l.length c) l] (λ(_:Unit)=> j3 (bIj k l 0)) (λ_=>[]) (λ_=>[]):=by
 have hT:=xW;generalize f:bIj k l 0=r;refine j1 func128 ntmps128 ?_;intro β hM;refine g14 ?_;refine bT (ι:=Nat) [(0,_),(1,_),(7,_)] ⟨rfl,rfl,rfl,e9⟩ (λi=>[(8,.int .i64 (i:Nat))]) (λ_=>[]) (λi=>[bC.pure (i<=l.length/\r=bIj k (l.drop i) i)]) (λi=>l.length-i) 0 ⟨rfl,e9⟩ .nil ⟨f4 (⟨j5,f.symm⟩),e9⟩ ?_;rintro i;refine bG d7 λa=>?_;refine g6 ?_;refine dO (λe=>?_) λe=>?_
 .refine g15 ?_;obtain⟨g,b⟩:=gx l i;refine ss (ixs i) ?_;refine ss (fV b 0) ?_;refine g3 ?_;refine jU (λd=>?_) λd=>?_
  .refine g12 ?_;have hr:=(bAx a.2 b).1 (by first|assumption|(symm;assumption));subst hr;exact rs1 () trivial
  refine g5 ?_;refine inc (i+1) ?_;refine g3 ?_;exact bk2 (i+1) ⟨f4 (⟨j5,(bAx a.2 b).2 ‹_›⟩),e9⟩
 refine g11 ?_;have hr:=idxI_end a.2 j5;subst hr;exact rs1 () trivial
theorem pY(A:Option Addr)(c:Nat)(l:List Int)(hl:l.length<=140737488355328)(k:Int):cJ prog 67 [.slice A l.length c,j3 k] [] [dA.sl (.slice A l.length c) l] (λ(_:Unit)=> .bool (l.contains k)) (λ_=>[]) (λ_=>[]):=by have hT:=xW;refine j1 func67 ntmps67 ?_;intro β hM;refine g9 ?_;refine bL func128 (index6_spec A c l hl k) rfl rfl .nil ⟨d7,e9⟩ λ_=>?_;refine g5 ?_;exact rs1 () e9 (he:=congrArg Y6 (vS k l 0 l4))
theorem sizeC_spec(sides:Sl PolV)(DA:Option Addr)(dcap:Nat)(dims:List Int)(hdl:dims.length<=140737488355328):cJ prog 63 [f9 sides,.slice DA dims.length dcap] [] [nL sides,dA.sl (.slice DA dims.length dcap) dims] (λ(_:Unit)=> .tuple #[j3 ((sizeB (polsL sides.B) dims).getD 0),.bool (sizeB (polsL sides.B) dims).isSome]) (λ_=>[]) (λ_=>[]):=by
 have hT:=xW
 obtain⟨R,e⟩: ∃R,sidesGo dims (polsL sides.B) []=R:=⟨_,rfl⟩
 refine j1 func63 ntmps63 ?_;intro β hM;refine cH<|bK (fF.sl (.slice sides.O sides.B.length sides.cap) sides.B) (mW d7) ?_;refine bG (qB d8) λf=>?_;have y:=f.1;have w:=f.2;refine cL (t:=2) dA ?_;refine g19 ?_;refine bT (ι:=Option Addr×Nat×List Int×Nat) [(1,_),(14,_),(15,_)] ⟨rfl,rfl,rfl,e9⟩ (λ⟨LA,lc,acc,i⟩=>[(6,.slice LA acc.length lc),(16,.int .i64 (i:Nat))]) (λ⟨LA,lc,acc,i⟩=>[dA.row (.slice LA acc.length lc) 2 acc]) (λ⟨LA,lc,acc,i⟩=>[bC.pure (i<=sides.B.length/\acc.length=i/\inSz acc/\R=sidesGo dims ((polsL sides.B).drop i) acc)]) (λ⟨LA,lc,acc,i⟩=>sides.B.length-i) (none,0,[],0) ⟨rfl,rfl,e9⟩ (.c0 .nil) ⟨f4 (⟨j5,rfl,λ_ h=>(by cases h),e.symm⟩),e9⟩ ?_;rintro⟨LA,lc,acc,i⟩;dsimp only;refine bG d7 λb=>?_;have A:=b.2.1;refine g6 ?_;refine dO (λs=>?_) λs=>?_
 .refine g5 ?_;obtain⟨x,hx⟩:=gx sides.B i;refine bK (cR x) (Has.each (mY d9) (f5 hx)) ?_;refine one ?_;refine ss (ixs i) ?_;refine ss (fV hx 0) ?_;refine g7 ?_;refine bG (dI d7) λu=>?_;refine bL func15 (bDk x DA dcap dims u hdl) rfl rfl .nil ⟨d7,e7,e9⟩ λ_=>?_;refine g13 ?_;refine k_ne (λl=>?_) λl=>?_
  .refine g23 ?_;have c:sizeB (polsL sides.B) dims=none:=by unfold sizeB;rw[e,wF b.2.2.2 (cG hx) j5]
   exact rs2 () e9 (he:=by rw[c];rfl)
  refine g4 ?_;refine nO (λk=>?_) λk=>?_
  .refine g19 ?_;have c:sizeB (polsL sides.B) dims=none:=by unfold sizeB;rw[e,wF b.2.2.2 (cG hx) j5]
   exact rs2 () e9 (he:=by rw[c];rfl)
  refine g5 ?_;refine dO (λr=>?_) λr=>?_
  .refine g13 ?_;have c:sizeB (polsL sides.B) dims=none:=by unfold sizeB;rw[e,wF b.2.2.2 (cG hx) j5]
   exact rs2 () e9 (he:=by rw[c];rfl)
  refine g5 ?_;refine nV (m:=(bF x.B dims).1) rfl rfl rfl rfl rfl λC=>?_;refine nP kT1 (fD .head rfl) rfl rfl rfl rfl rfl rfl rfl o8 λB c3=>?_;refine g6 ?_;refine inc (i+1) ?_;refine g3 ?_;exact bk2 (B,c3,acc++[(bF x.B dims).1],i+1) ⟨f4 (⟨by dsimp only;omega,by dsimp only;rw[G4,List.length_singleton];omega,bAw b.2.2.1 j5 j5,bHz b.2.2.2 (cG hx) ‹_› j5 j5⟩),e9⟩
 refine g9 ?_;have d:=bVz b.2.2.2 p9;refine gP (E:=dA) .head ?_;refine bL func67 (pY LA lc acc j5 0) rfl rfl .nil ⟨d7,e9⟩ λ_=>?_;refine g2 ?_;refine vN (λq=>?_) λq=>?_
 .refine g8 ?_;have c:sizeB (polsL sides.B) dims=some 0:=by unfold sizeB;rw[e,d];dsimp only;rw[if_pos ‹_›]
  exact rs2 () e9 (he:=by rw[c];rfl)
 refine g3 ?_
 obtain⟨Q,v⟩: ∃Q,prodQ acc 1=Q:=⟨_,rfl⟩
 refine g13 ?_;refine bT (ι:=Int×Nat) [(43,_),(44,_)] ⟨rfl,rfl,e9⟩ (λ⟨al,j⟩=>[(11,.int .i64 al),(45,.int .i64 (j:Nat))]) (λ_=>[]) (λ⟨al,j⟩=>[bC.pure (j<=acc.length/\0<=al/\al<=65536/\Q=prodQ (acc.drop j) al)]) (λ⟨al,j⟩=>acc.length-j) (1,0) ⟨rfl,rfl,e9⟩ .nil ⟨f4 (⟨j5,j5,j5,v.symm⟩),e9⟩ ?_;rintro⟨al,j⟩;dsimp only;refine bG d7 λa=>?_;refine g6 ?_;refine dO (λp=>?_) λp=>?_
 .refine g5 ?_;obtain⟨n,hn⟩:=gx acc j;have g:=b.2.2.1 n (f5 hn);have z:=bQn ⟨a.2.1,a.2.2.1⟩ g;refine one ?_;refine ss (ixs j) ?_;refine ss (fV hn 0) ?_;refine g8 ?_;refine bM (jO j5 j5) ?_;refine g9 ?_;refine dO (λo=>?_) λo=>?_
  .refine g12 ?_;have c:sizeB (polsL sides.B) dims=none:=by unfold sizeB;rw[e,d];dsimp only;rw[if_neg (by simp_all),v];exact prod_no a.2.2.2 hn j5
   exact rs2 () e9 (he:=by rw[c];rfl)
  refine g5 ?_;refine inc (j+1) ?_;refine g3 ?_;exact bk2 (al*n,j+1) ⟨f4 (⟨by dsimp only;omega,(bQn ⟨a.2.1,a.2.2.1⟩ g).1,by dsimp only;omega,prod_yes a.2.2.2 hn j5⟩),e9⟩
 refine g13 ?_;have c:sizeB (polsL sides.B) dims=some al:=by unfold sizeB;rw[e,d];dsimp only;rw[if_neg (by simp_all),v];exact prod_end a.2.2.2 j5
 exact rs2 () e9 (he:=by rw[c];rfl)
def dX.c (x:dX):LifeC:=⟨x.from_,x.za⟩
def LifeC.v(x:LifeC):dX:=⟨x.from_,x.za⟩
def lc (l:List dX):List LifeC:=l.map dX.c
def lv (l:List LifeC):List dX:=l.map LifeC.v
theorem lv_lc(l:List dX):lv (lc l)=l:=by unfold lv lc;rw[List.map_map];exact List.map_id'' (λ_=>rfl) l
theorem lc_len(l:List dX):(lc l).length=l.length:=I2 _
theorem bAg(l:List LifeC):(lv l).length=l.length:=I2 _
theorem lc_set(l:List dX)(k:Nat)(y:dX):lc (l.set k y)=(lc l).set k y.c:=List.map_set
theorem lc_get(l:List dX)(k:Nat):(lc l)[k]?=(l[k]?).map dX.c:=F7
section
variable {L : List LifeC} {i : Int} {k : Nat} {y : LifeC}
theorem bQl{α:Type}{L:List α}{k:Nat}{y:α}(f:α->α)(h:L[k]?=some y):L.set k (f y)=L.modify k f:=by
 apply aI;intro j;rw[W3,V6];have a:=(G3.1 h).1
 by_cases e:k=j
 .subst e;rw[h];simp[a]
 .simp[e]
theorem bHo(h:L[k]?=some y):L.set k ⟨y.from_,i⟩=iZ i L k:=bQl (λx:LifeC=>{x with za:=i}) h
theorem setFrom_set(h:L[k]?=some y):L.set k ⟨i,y.za⟩=bBb i L k:=bQl (λx:LifeC=>{x with from_:=i}) h
end
section
variable {c : dR} {li lj : List dX} {dn : List Bool} {i j k : Nat} {y : dX} {u : jX} {r G : List LifeC} {x : cT} {us : List Int} {z : Int} {m : Int}
def bKo (c:dR)(i:Nat)(li:List dX):Prop:=li.length=c.C.length/\ ∀j u,c.C[j]?=some u-> ∃y,li[j]?=some y/\y.za= -1/\y.from_=if j<i/\(0<=u.L\/c.Q.contains (j:Int)=true)then-1 else 0
theorem live_start:bKo c 0 (V4 c.C.length ⟨0,-1⟩):=by
 refine⟨Z7,λj u a=>⟨⟨0,-1⟩,?_,rfl,?_⟩⟩
 .rw[List.getElem?_replicate,if_pos (G3.1 a).1]
 .rw[if_neg j5]
theorem live_yes(h:bKo c i li)(hu:c.C[i]?=some u)(hy:li[i]?=some y)(e:0<=u.L\/c.Q.contains (i:Int)=true):bKo c (i+1) (li.set i ⟨-1,y.za⟩):=by
 refine⟨by rw[R0];exact h.1,λj u' a=>?_⟩;obtain⟨d,h1,h2,h3⟩:=h.2 j u' a
 by_cases b:i=j
 .subst b;rw[hy]at h1;injection h1 with h1
  subst h1;rw[hu]at a;injection a with a
  subst a;refine⟨⟨-1,y.za⟩,G8 (G3.1 hy).1,h2,?_⟩;rw[if_pos ⟨j5,e⟩]
 .refine⟨d,by rw[List.getElem?_set_ne b];exact h1,h2,?_⟩;rw[h3];have:j<i+1↔j<i:=j5
  simp[this]
theorem live_no(h:bKo c i li)(hu:c.C[i]?=some u)(e1:u.L<0)(e2:c.Q.contains (i:Int)=false):bKo c (i+1) li:=by
 refine⟨h.1,λj u' a=>?_⟩;obtain⟨b,h1,h2,h3⟩:=h.2 j u' a;refine⟨b,h1,h2,?_⟩;rw[h3]
 by_cases d:i=j
 .subst d;rw[hu]at a;injection a with a
  subst a;rw[if_neg j5,if_neg];rintro⟨_,h|h⟩
  .omega
  .rw[e2]at h;cases h
 .have:j<i+1↔j<i:=j5
  simp[this]
theorem live_end(h:bKo c i li)(hi:c.C.length<=i):lc li=xP c.Q 0 c.C:=by
 apply aI;intro j;rw[lc_get,yV]
 cases b:c.C[j]? with
 |none=>
  rw[aJ.2 (by rw[h.1];exact aJ.1 b)];rfl
 |some u=>
  obtain⟨d,h1,h2,h3⟩:=h.2 j u b;have:=(G3.1 b).1;rw[h1,N5,N5,dX.c,h2,h3,Nat.zero_add];have a:j<i:=j5
  simp[a]
def StepI (c:dR)(k:Nat)(li:List dX)(dn:List Bool)(r:List LifeC):Prop:=li.length=c.C.length/\dn.length=c.C.length/\r=(c.Q.map aQ).foldl (iZ c.D.length) (sR k (c.D.drop k) (lc li,dn)).1
theorem step_start(h:bKo c i li)(hi:c.C.length<=i):StepI c 0 li (V4 c.C.length false) (livesC c):=by refine⟨h.1,Z7,?_⟩;rw[live_end h hi];rfl
theorem bUm(h:StepI c k li dn r)(hx:c.D[k]?=some x)(h1:lc lj=(lP k x (lc li,dn)).1){dn':List Bool}(h2:dn'=dn.set x.I.toNat true):StepI c (k+1) lj dn' r:=by
 subst h2;refine⟨?_,by rw[R0];exact h.2.1,?_⟩
 .rw[<-lc_len,h1,yE,lc_len];exact h.1
 .rw[h.2.2,show c.D.drop k=x::c.D.drop (k+1)from by
   obtain⟨a,e⟩:=G3.1 hx;rw[<-e]
   exact aG a,sR,h1]
  rfl
theorem stepI_end(h:StepI c k li dn r)(hk:c.D.length<=k):r=(c.Q.map aQ).foldl (iZ c.D.length) (lc li):=by rw[h.2.2,U8 hk];rfl
def UseI (m:Int)(us:List Int)(j:Nat)(G:List LifeC)(li:List dX):Prop:=G=((us.drop j).map aQ).foldl (iZ m) (lc li)
theorem use_step(h:UseI m us j G li)(hz:us[j]?=some z)(hy:li[z.toNat]?=some y):UseI m us (j+1) G (li.set z.toNat ⟨y.from_,m⟩):=by
 unfold UseI at*
 rw[h,show us.drop j=z::us.drop (j+1)from by
   obtain⟨a,e⟩:=G3.1 hz;rw[<-e]
   exact aG a,H6,List.foldl_cons,lc_set]
 congr 1
 exact(bHo (y:=y.c) (by rw[lc_get,hy];rfl)).symm
theorem use_end(h:UseI m us j G li)(hj:us.length<=j):lc li=G:=by unfold UseI at h;rw[h,U8 hj];rfl
theorem bVw(l:List OpV)(L:List LifeC):((pT l).map aQ).foldl (iZ m) L=(wO (opsL l)).foldl (iZ m) L:=by
 apply aI;intro b;rw[qW,qW]
 congr 1
 funext x
 have:b∈(pT l).map aQ↔b∈wO (opsL l):=by
  simp only[List.mem_map,wO,List.mem_filterMap,opsL];constructor
  .rintro⟨z,hz,e⟩;obtain⟨o,ho,h4,a⟩:=bIq.1 hz;exact⟨o.c,⟨o,ho,rfl⟩,by rw[if_pos (show o.c.N=4 from h4)];show some o.k.toNat=_;rw[a,e]⟩
  .rintro⟨_,⟨o,ho,rfl⟩,e⟩
   by_cases h4:o.c.N=4
   .rw[if_pos h4]at e;injection e with e
    exact⟨o.k,bIq.2 ⟨o,ho,h4,rfl⟩,e⟩
   .rw[if_neg h4]at e;cases e
 simp only[this]
section
variable {s : gA}
theorem made_new(h:UseI m (pT s.ops.B) j G lj)(hj:(pT s.ops.B).length<=j)(hG:G=((pT s.ops.B).map aQ).foldl (iZ m) (lc li))(hd:dn[s.I.toNat]?=some false)(hy:lj[s.I.toNat]?=some y):
  lc ((lj.set s.I.toNat ⟨m,y.za⟩).set s.I.toNat ⟨m,m⟩)=(lP m s.c (lc li,dn)).1:=by
 have e:=use_end h hj;rw[hG,bVw]at e;have a:dn.getD s.I.toNat false=false:=by rw[W2,hd];rfl
 unfold lP;show _=iZ m (if dn.getD s.I.toNat false=true then _ else _) s.I.toNat;rw[a,if_neg l4];show _=iZ m (bBb m ((wO (opsL s.ops.B)).foldl (iZ m) (lc li)) s.I.toNat) s.I.toNat;rw[<-e,lc_set,lc_set];have h1:(lc lj)[s.I.toNat]?=some y.c:=by rw[lc_get,hy];rfl
 rw[<-setFrom_set (y:=y.c) h1];have h2:((lc lj).set s.I.toNat ⟨m,y.za⟩)[s.I.toNat]?=some ⟨m,y.za⟩:=G8 (G3.1 h1).1;exact bHo (y:=⟨m,y.za⟩) h2
theorem made_old(h:UseI m (pT s.ops.B) j G lj)(hj:(pT s.ops.B).length<=j)(hG:G=((pT s.ops.B).map aQ).foldl (iZ m) (lc li))(hd:dn[s.I.toNat]?=some true)(hy:lj[s.I.toNat]?=some y):
  lc (lj.set s.I.toNat ⟨y.from_,m⟩)=(lP m s.c (lc li,dn)).1/\dn=dn.set s.I.toNat true:=by
 have e:=use_end h hj;rw[hG,bVw]at e;have a:dn.getD s.I.toNat false=true:=by rw[W2,hd];rfl
 refine⟨?_,?_⟩
 .unfold lP;show _=iZ m (if dn.getD s.I.toNat false=true then _ else _) s.I.toNat;rw[a,if_pos rfl];show _=iZ m ((wO (opsL s.ops.B)).foldl (iZ m) (lc li)) s.I.toNat;rw[<-e,lc_set];exact bHo (y:=y.c) (by rw[lc_get,hy];rfl)
 .have hlt:=(G3.1 hd).1;have:=(G3.1 hd).2;rw[<-this,List.set_getElem_self]
end
def OutI (c:dR)(j:Nat)(li:List dX)(r:List LifeC):Prop:=li.length=c.C.length/\r=((c.Q.drop j).map aQ).foldl (iZ c.D.length) (lc li)
theorem out_step(h:OutI c j li r)(hz:c.Q[j]?=some z)(hy:li[z.toNat]?=some y):OutI c (j+1) (li.set z.toNat ⟨y.from_,(c.D.length:Nat)⟩) r:=by refine⟨by rw[R0];exact h.1,?_⟩;have:=use_step (us:=c.Q) (m:=c.D.length) (G:=r) h.2 hz hy;exact this
theorem out_stepN{n:Nat}(hn:c.D.length=n)(h:OutI c j li r)(hz:c.Q[j]?=some z)(hy:li[z.toNat]?=some y):OutI c (j+1) (li.set z.toNat ⟨y.from_,(n:Nat)⟩) r:=by subst hn;exact out_step h hz hy
theorem out_end(h:OutI c j li r)(hj:c.Q.length<=j):li=lv r:=by rw[h.2,U8 hj];exact(lv_lc li).symm
theorem bSv{vars:Int}{bufs:List jX}: ∀{r:List cT} {made:List Bool},made.length=bufs.length->lQ vars bufs r made=true-> ∀x∈r,0<=x.I/\x.I<bufs.length/\ ∀o∈x.ops,o.N=4->0<=o.k/\o.k<bufs.length
 |[],_,_,_,x,hx=>by cases hx
 |y::r,made,hm,h,x,hx=>by
  rw[lQ,L9,L9,L9]at h;obtain⟨⟨h1,h2⟩,h3,h4⟩:=h
  rcases F1.1 hx with rfl|hx
  .have h0:0<=x.I:=of_decide_eq_true h1;refine⟨h0,?_,λo ho e=>?_⟩
   .cases hb:bufs[x.I.toNat]? with
    |none=>rw[hb]at h2;cases h2
    |some b=>
     have:=(G3.1 hb).1;omega
   .unfold mV at h3;simp only[L9]at h3;have a:=G0.1 h3.2.2.2.2.2 o ho;unfold opB at a;rw[if_neg j5,if_neg j5,if_neg j5,if_pos e]at a;simp only[L9,decide_eq_true_eq]at a;refine⟨a.1.1,?_⟩;have c:=a.2.1;rw[W2]at c
    cases d:made[o.k.toNat]? with
    |none=>rw[d]at c;cases c
    |some b=>
     have:=(G3.1 d).1;omega
  .exact bSv (by rw[R0];exact hm) h4 x hx
theorem qI(h:dC c=true):(c.C.length<=1024/\c.D.length<=1024/\c.Q.length<=64)/\(∀x∈c.D,0<=x.I/\x.I<c.C.length/\ ∀o∈x.ops,o.N=4->0<=o.k/\o.k<c.C.length)/\ ∀k∈c.Q,0<=k/\k<c.C.length:=by obtain⟨h1,h2,h3,h4⟩:=iP h;exact⟨h1.2.2,bSv (rA _) h3,h4⟩
theorem uses_in{s:gA}{n:Nat}(h: ∀o∈s.c.ops,o.N=4->0<=o.k/\o.k<n)(hz:z∈pT s.ops.B):0<=z/\z<n:=by obtain⟨o,ho,h4,a⟩:=bIq.1 hz;have:=h o.c (List.mem_map.2 ⟨o,ho,rfl⟩) h4;rw[<-a];exact this
theorem iY:(livesC c).length=c.C.length:=by
 unfold livesC;rw[xC]
 have: ∀(r:List cT) (i:Int) (s:List LifeC×List Bool),(sR i r s).1.length=s.1.length:=λr=>by
  induction r with
  |nil=>exact λ_ _=>rfl
  |cons x r ih=>exact λi s=>by rw[sR,ih,yE]
 rw[this,bDr]
end
theorem bVj{sides:List (List Mono)}{dims:List Int}{z:Option Int}(h:sizeB sides dims=z):0<=z.getD 0/\z.getD 0<=65536:=by
 cases z with
 |none=>exact⟨by show(0:Int)<=0;omega,by show(0:Int)<=65536;omega⟩
 |some n=>exact sizeB_in h
section
variable {dims : List Int} {l : List jX} {al : Int} {i : Nat} {R : Int × Int} {b : jX} {z : Option Int}
theorem bVl(h:R=cellsGo dims (l.drop i) al)(hu:l[i]?=some b)(hz:sizeB b.K dims=z)(hs:z.isSome=true)(h1:al+z.getD 0<=1048576):R=cellsGo dims (l.drop (i+1)) (al+z.getD 0):=by
 obtain⟨hlt,e⟩:=G3.1 hu
 cases z with
 |none=>cases hs
 |some n=>
  have h1:al+n<=1048576:=h1;rw[h,<-aH hlt,e,cellsGo,hz];show(if 1048576<al+n then ((0,102):Int×Int)else cellsGo dims (l.drop (i+1)) (al+n))=_;rw[if_neg j5];rfl
theorem bEz(h:R=cellsGo dims (l.drop i) al)(hu:l[i]?=some b)(hz:sizeB b.K dims=z)(h1:z.isSome=false\/1048576<al+z.getD 0):R=(0,102):=by
 obtain⟨hlt,e⟩:=G3.1 hu;rw[h,<-aH hlt,e,cellsGo,hz]
 cases z with
 |none=>rfl
 |some n=>
  rcases h1 with h1|h1
  .cases h1
  .have h1:1048576<al+n:=h1;show(if 1048576<al+n then ((0,102):Int×Int)else _)=_;rw[if_pos h1]
theorem bTb(h:R=cellsGo dims (l.drop i) al)(hi:l.length<=i):R=(al,0):=by rw[h,U8 hi,cellsGo]
end
theorem cells1_spec(k:Int):cJ prog 62 [j3 k] [] [] (λ(_:Unit)=> .bool (bKy k)) (λ_=>[]) (λ_=>[]):=by
 have hT:=xW;refine j1 func62 ntmps62 ?_;intro β hM;refine g10 ?_;refine nO (λa=>?_) λa=>?_
 .refine g7 ?_;exact rs1 () e9 (he:=ab0)
 refine g7 ?_;exact rs1 () e9 (he:=ab0)
theorem Cells_spec(c:fX)(DA:Option Addr)(dcap:Nat)(dims:List Int)(hdl:dims.length<=140737488355328):cJ prog 22 [.agg #[j3 c.vars,f9 c.C,f9 c.D,f9 c.Q],.slice DA dims.length dcap] [] [lH c,dA.sl (.slice DA dims.length dcap) dims] (λ(_:Unit)=> .tuple #[j3 (dH c.c dims).1,j3 (dH c.c dims).2]) (λ_=>[]) (λ_=>[]):=by
 have hT:=xW
 obtain⟨R,m⟩: ∃R,cellsGo dims c.c.C 0=R:=⟨_,rfl⟩
 refine j1 func22 ntmps22 ?_;intro β hM;refine g2 ?_;refine j0 λs=>?_;refine g8 ?_;refine bL func33 (bPb c) rfl rfl .nil ⟨d7,e9⟩ λ_=>?_;refine g3 ?_;refine tQ (λl=>?_) λl=>?_
 .refine g8 ?_;have hr:dC c.c=false:=by simp_all
  have d:dH c.c dims=(0,100):=by unfold dH;rw[if_neg (by simp[hr])]
  exact rs2 () e9 (he:=by rw[d])
 refine g11 ?_;refine k_ne (λg=>?_) λg=>?_
 .refine g14 ?_;have hr:dC c.c=true:=by simp_all
  have hd:jP c.vars dims=false:=by unfold jP;simp_all
  have d:dH c.c dims=(0,101):=by unfold dH;rw[if_pos hr,if_neg ab8]
  exact rs2 () e9 (he:=by rw[d])
 refine one ?_;refine bL func61 (yK DA dcap dims j5 62 [] [] bKy (bJ func62 rfl rfl) cells1_spec) rfl rfl .nil ⟨d8,e9⟩ λ_=>?_;refine g3 ?_;refine vN (λk=>?_) λk=>?_
 .refine g8 ?_;have hr:dC c.c=true:=by simp_all
  have hd:jP c.vars dims=false:=by unfold jP;simp_all
  have d:dH c.c dims=(0,101):=by unfold dH;rw[if_pos hr,if_neg ab8]
  exact rs2 () e9 (he:=by rw[d])
 refine g9 ?_;have hrr:dC c.c=true:=by simp_all
 have q:=(qI hrr).1.1;have p:c.c.C.length=c.C.B.length:=cQ _;refine bK (sU.sl (.slice c.C.O c.C.B.length c.C.cap) c.C.B) (kG (gC d7)) ?_;refine g8 ?_;refine bT (ι:=Int×Nat) [(1,_),(24,_),(25,_)] ⟨rfl,rfl,rfl,e9⟩ (λ⟨al,i⟩=>[(6,.int .i64 al),(26,.int .i64 (i:Nat))]) (λ_=>[]) (λ⟨al,i⟩=>[bC.pure (i<=c.C.B.length/\0<=al/\al<=1048576/\R=cellsGo dims ((vE c.C.B).drop i) al)]) (λ⟨al,i⟩=>c.C.B.length-i) (0,0) ⟨rfl,rfl,e9⟩ .nil ⟨f4 (⟨j5,j5,j5,m.symm⟩),e9⟩ ?_;rintro⟨al,i⟩;dsimp only;refine bG d7 λa=>?_;refine g6 ?_;refine dO (λj=>?_) λj=>?_
 .refine g6 ?_;obtain⟨n,b⟩:=gx c.C.B i;refine ss (ixs i) ?_;refine ss (lI b 0) ?_;refine i7 yR λr=>?_;refine g8 ?_;refine bK (nL n.K) (Has.each (rV (gC d9)) (f5 b)) ?_;refine bL func63 (sizeC_spec n.K DA dcap dims hdl) rfl rfl .nil ⟨d7,e7,e9⟩ λ_=>?_
  obtain⟨z,e⟩: ∃z,sizeB (polsL n.K.B) dims=z:=⟨_,rfl⟩
  rw[e];have o:=bVj e;refine g12 ?_;refine bM (jO j5 j5) ?_;refine g8 ?_;refine bHr (λf=>?_) λf=>?_
  .refine g18 ?_;have hr:dC c.c=true:=by simp_all
   have hd:jP c.vars dims=true:=by unfold jP;simp_all
   have d:dH c.c dims=(0,102):=by unfold dH;rw[if_pos hr,if_pos s7];exact m.trans (bEz a.2.2.2 (cM b) e t8)
   exact rs2 () e9 (he:=by rw[d])
  refine g5 ?_;refine dO (λh=>?_) λh=>?_
  .refine g12 ?_;have hr:dC c.c=true:=by simp_all
   have hd:jP c.vars dims=true:=by unfold jP;simp_all
   have d:dH c.c dims=(0,102):=by unfold dH;rw[if_pos hr,if_pos s7];exact m.trans (bEz a.2.2.2 (cM b) e t8)
   exact rs2 () e9 (he:=by rw[d])
  refine g5 ?_;refine inc (i+1) ?_;refine g3 ?_;exact bk2 (al+z.getD 0,i+1) ⟨f4 (⟨by dsimp only;omega,by dsimp only;omega,by dsimp only;omega,bVl a.2.2.2 (cM b) e (by first|assumption|simp_all) j5⟩),e9⟩
 refine g13 ?_;have hr:dC c.c=true:=by simp_all
 have hd:jP c.vars dims=true:=by unfold jP;simp_all
 have d:dH c.c dims=(al,0):=by unfold dH;rw[if_pos hr,if_pos s7];exact m.trans (bTb a.2.2.2 (by rw[cQ];omega))
 exact rs2 () e9 (he:=by rw[d])
end
section
open Go.Proofs.Tryz
end
section
open Go.Proofs.Tryz
end
section
open Go.RowKit Go.Proofs.Tryz
abbrev w64(z:Int):Int:=IntKind.i64.wrap z
def qF (f:Int)(two:Bool):Bool:=if f<1\/17<f then false else if f=16 then !two else two || decide (f<=7)
def restW (a b:Int):Int:=if a.tmod b≠0/\decide (a.tmod b<0)≠decide (b<0)then w64 (a.tmod b+b)else a.tmod b
def truthW(b:Bool):Int:=if b then 1 else 0
def big1 (a:Int):Bool:=decide (1<IntKind.u64.wrap a)
def refusesW(f a b:Int):Bool:=if f=4 then b==0 else if f=17 then decide (b<0)else if f=14\/f=15 then big1 a || big1 b else false
def raisedGo:Nat->Int->Int->Nat->Int
 |0,p,_,_=>p
 |k+1,p,a,n=>if n=0 then p else raisedGo k (if n%2=1 then w64 (p*a)else p) (w64 (a*a)) (n/2)
def raisedW(a n:Int):Int:=raisedGo (n.toNat+1) 1 a n.toNat
def holdsW(f a b:Int):Bool:=if f=8 then a==b else if f=9 then a !=b else if f=10 then decide (a<b)else if f=11 then decide (a<=b)else if f=12 then decide (b<=a)else decide (b<a)
def andW (a b:Int):Int:=w64 ((BitVec.ofInt 64 a&&&BitVec.ofInt 64 b).toNat:Nat)
def orW (a b:Int):Int:=w64 ((BitVec.ofInt 64 a ||| BitVec.ofInt 64 b).toNat:Nat)
def xorW (a b:Int):Int:=w64 ((BitVec.ofInt 64 a^^^BitVec.ofInt 64 b).toNat:Nat)
def divW (a b:Int):Int:=if restW a b≠a.tmod b then w64 (w64 (a.tdiv b)-1)else w64 (a.tdiv b)
def minW (a b:Int):Int:=if b<a then b else a
def maxW (a b:Int):Int:=if b>a then b else a
def dyad0 (f a b:Int):Int:=
 if f=1 then w64 (a+b)else if f=2 then w64 (a-b)else if f=3 then w64 (a*b)else if f=4 then divW a b else if f=5 then (if a=0 then b else restW b a)
 else if f=6 then minW a b else if f=7 then maxW a b else if f=14 then andW a b else if f=15 then orW a b else if f=17 then raisedW a b else truthW (holdsW f a b)
def dyadW (f a b:Int):Int×Int:=if qF f true=false then (0,10)else if refusesW f a b=true then (0,11)else (dyad0 f a b,0)
def monadW(f a:Int):Int×Int:=
 if qF f false=false then (0,10)else if f=2 then (w64 (0-a),0)else if f=3 then (w64 (truthW (decide (0<a))-truthW (decide (a<0))),0)else if f=4 then dyadW f 1 a
 else if f=5 then (maxW a (w64 (0-a)),0)else if f=16 then (if big1 a=true then (0,11)else (xorW a 1,0))else (a,0)
def unitW (f:Int):Int×Bool:=
 if f=6 then (9223372036854775807,true)else if f=7 then (-9223372036854775808,true)else if f=3\/f=4\/f=8\/f=11\/f=12\/f=14\/f=17 then (1,true)else (0,qF f true)
def bHi (s:Int):Bool:=decide (s<0) || decide (65536<s)
def rK:List Int->Int->Int×Int
 |[],n=>(n,0)
 |s::r,n=>if 65536<w64 (n*s)then (0,61)else rK r (w64 (n*s))
def tA (s:List Int):Int×Int:=if 4<s.length\/s.any bHi=true then (0,61)else if s.contains 0=true then (0,0)else rK s 1
def mapM (f:Int):List Int->List Int×Int
 |[]=>([],0)
 |n::r=>if (monadW f n).2≠0 then ([],(monadW f n).2)else if (mapM f r).2≠0 then ([],(mapM f r).2)else ((monadW f n).1::(mapM f r).1,0)
end
section
open Go.Proofs.Tryz
end
section
open Go.Proofs.Tryz
theorem rn_w64{z:Int}(h0: -9223372036854775808<=z)(h1:z<=9223372036854775807):w64 z=z:=by simp only[M9,N1,N2];simp;omega
def Deep:List OpC->Nat->Prop
 |[],n=>n=1
 |o::r,n=>0<=cO o.N/\cO o.N<=n/\Deep r (n+1-(cO o.N).toNat)
theorem deep_of: ∀{l:List OpC} {most:Int} {n:Nat},0<=oQ l most n->Deep l n
 |[],most,n,h=>by
  unfold oQ at h;split at h
  .show n=1;omega
  .omega
 |o::r,most,n,h=>by
  unfold oQ at h;split at h
  .omega
  .rename_i a;have h1:0<=cO o.N:=j5
   have h2:cO o.N<=n:=j5
   rw[show(n:Int)+(1-cO o.N)=((n+1-(cO o.N).toNat:Nat):Int) by omega]at h;exact⟨h1,h2,deep_of h⟩
theorem deep_step{vars:Int}{made:List Bool}{x:cT}(h:mV vars made x=true):Deep x.ops 0:=by unfold mV at h;simp only[L9,decide_eq_true_eq]at h;exact deep_of (most:=0) (n:=0) h.2.2.2.1
theorem bWg{h:Int}(h0:0<=cO h):h=1\/h=2\/h=3\/h=4\/h=5\/h=6:=by
 unfold cO at h0;split at h0
 .omega
 .split at h0
  .omega
  .split at h0
   .omega
   .omega
end
section
open Go.RowKit Go.Proofs.Tryz
def raise (v:Value):List PanicEntry:=[{v,recovered:=false}]
section
variable {P : Program} {β : dY} {n : Nat} {Γ : Env} {H : List bD} {F : List bC} {Q : Exit -> Act -> World -> Prop} {K : Act -> World -> Prop} {ch : List PanicEntry}
theorem p_then(h:At β n Γ H F (Q (.panic ch))):At β n Γ H F (Exit.then K Q (.panic ch)):=h
theorem at_panic{ops:Array Oper}{rest:List Oper}{o:Oper}{x:Operand}{t:TypeId}{v:Value}(hw:want ops Γ o=some true)(ho:o.op= .panic x)(hx:Γ.ev x=some (.iface t v))(k:At β n Γ H F (Q (.panic (raise (.iface t v))))):At β n Γ H F (wpList P ops Q (o::rest)):=
 gR hw λa w S f s b=>by
  unfold L2
  have hr:(execOp a.eval o).run P w= .halt (.panic (.iface t v)) w:=by unfold execOp;simp only[ho,f.ev hx];rfl
  rw[hr,Oper.upon_panic];exact k a w S f s b
end
def dfA (ds:List Deferred)(a:Act):Act:={a with defers:=a.defers++ds}
def Df (ds:List Deferred)(K:Act->World->Prop)(a:Act)(w:World):Prop:=K (dfA ds a) w
def DfQ (ds:List Deferred)(Q:Exit->Act->World->Prop)(e:Exit)(a:Act)(w:World):Prop:=Q e (dfA ds a) w
theorem dfA_put(ds:List Deferred)(a:Act)(d:Option Tmp)(v:Value):(dfA ds a).put d v=dfA ds (a.put d v):=by cases d<;>rfl
theorem out_df{ds:List Deferred}{Q:Exit->Act->World->Prop}(h:LetsOut (DfQ ds Q)):LetsOut Q:=let ⟨a,w,k⟩:=h;⟨dfA ds a,w,k⟩
section
variable {P : Program} {o : Oper} {a : Act} {w : World} {Q : Exit -> Act -> World -> Prop} {ops : Array Oper} {ds : List Deferred}
theorem op_df{next:Act->World->Prop}(h:o.wp P a w (Df ds next) (DfQ ds Q)):o.wp P (dfA ds a) w next Q:=by
 unfold L2 at h⊢;have he:(dfA ds a).eval=a.eval:=rfl;rw[he];generalize (execOp a.eval o).run P w=r at h⊢
 cases r with
 |ok x b=>
  cases x with
  |value v=>rw[L3,dfA_put];exact h
  |skip=>rw[L4,dfA_put];exact h
  |defer d=>rw[aR];rw[aR]at h;unfold Df at h;rw[<-dfA_put]at h;exact h
  |enter f args=>
   rw[L5];rw[L5]at h;refine h.mono λe b k=>?_
   cases e with
   |returned v=>simp only at k⊢;unfold Df at k;rw[dfA_put];exact k
   |panicked c=>exact k
   |outgrown=>exact out_df k
  |row r args=>
   rw[aS];rw[aS]at h;exact λc cs=>let ⟨v,b,r,s⟩:=h c cs;⟨v,b,by have g:=r;unfold Df at g;simp only at g⊢;rw[dfA_put];exact g,s⟩
  |_=>exact h.elim
 |halt e b=>
  cases e with
  |panic v=>exact h
  |_=>exact h.elim
theorem bLn: ∀(os:List Oper) (a:Act) (w:World),wpList P ops (DfQ ds Q) os a w->wpList P ops Q os (dfA ds a) w
 |[],_,_,h=>h
 |o::os,a,w,h=>by
  unfold wpList at h⊢;have c:(dfA ds a).tmps=a.tmps:=rfl;rw[c];split at h
  .rename_i b;rw[if_pos b]
   rcases h with h|⟨h1,h2⟩
   .exact .inl (op_df (Oper.wp_mono (λa w k=>bLn os a w k) h))
   .exact .inr ⟨h1,out_df h2⟩
  .rename_i b;rw[if_neg b,dfA_put];exact bLn os _ w h
end
section
variable {P : Program} {β : dY} {n : Nat} {Γ : Env} {H H2 : List bD} {F : List bC} {Q : Exit -> Act -> World -> Prop} {K : Act -> World -> Prop} {ds : List Deferred}
theorem jF{x y:Code}(h:At β n Γ H F (Df ds (x.wp P (Exit.then (y.wp P Q) Q)))):At β n Γ H F (Df ds ((Code.seq x y).wp P Q)):=λa w S f s k=>wp_seq (h a w S f s k)
theorem d_blk{id:Nat}{c:Code}(h:At β n Γ H F (Df ds (c.wp P (Exit.inBlock id Q)))):At β n Γ H F (Df ds ((Code.block id c).wp P Q)):=λa w S f s k=>wp_block (h a w S f s k)
theorem bIp(h:At β n Γ H F (Df ds (Q .normal))):At β n Γ H F (Df ds (Code.skip.wp P Q)):=λa w S f s k=>wp_skip (h a w S f s k)
theorem d_exit{id:Nat}(h:At β n Γ H F (Df ds (Q (.exit id)))):At β n Γ H F (Df ds ((Code.exit id).wp P Q)):=λa w S f s k=>wp_exit (h a w S f s k)
theorem d_ret(h:At β n Γ H F (Df ds (Q .ret))):At β n Γ H F (Df ds (Code.ret.wp P Q)):=λa w S f s k=>wp_ret (h a w S f s k)
theorem dZ{id:Nat}{l:List Oper}(h:At β n Γ H F (wpList P l.toArray (DfQ ds Q) l)):At β n Γ H F (Df ds ((Code.region id l.toArray false).wp P Q)):=λa w S f s k=>wp_region_lit (bLn l a w (h a w S f s k))
theorem d_list{ops:Array Oper}{l:List Oper}(h:At β n Γ H F (wpList P ops (DfQ ds Q) l)):At β n Γ H F (Df ds (wpList P ops Q l)):=λa w S f s k=>bLn l a w (h a w S f s k)
theorem jN{ops:Array Oper}(h:At β n Γ H F (Df ds (Q .normal))):At β n Γ H F (wpList P ops (DfQ ds Q) []):=h
theorem dP(h:At β n Γ H F (Df ds K)):At β n Γ H F (Df ds (Exit.then K Q .normal)):=h
theorem bFv{i:Nat}(h:At β n Γ H F (Df ds (Q (.exit i)))):At β n Γ H F (Df ds (Exit.then K Q (.exit i))):=h
theorem oS(h:At β n Γ H F (Df ds (Q .ret))):At β n Γ H F (Df ds (Exit.then K Q .ret)):=h
theorem dn_block{i:Nat}(h:At β n Γ H F (Df ds (Q .normal))):At β n Γ H F (Df ds (Exit.inBlock i Q .normal)):=h
theorem wH{i:Nat}(h:At β n Γ H F (Df ds (Q .ret))):At β n Γ H F (Df ds (Exit.inBlock i Q .ret)):=h
theorem bPl{i:Nat}(h:At β n Γ H F (Df ds (Q .normal))):At β n Γ H F (Df ds (Exit.inBlock i Q (.exit i))):=λa w S f s k=>by unfold Df;simp only[Exit.inBlock,if_true];exact h a w S f s k
theorem dp_any{ch:List PanicEntry}(h:At β n Γ H F (Df ds (Q (.panic ch)))):At β n Γ H F (DfQ ds Q (.panic ch)):=h
theorem dp_then{ch:List PanicEntry}(h:At β n Γ H F (Df ds (Q (.panic ch)))):At β n Γ H F (Df ds (Exit.then K Q (.panic ch))):=h
theorem bQh{c:Operand}{x y:Code}{t:Bool}(hc:Γ.ev c=some (.bool t))(ht:t=true->At β n Γ H F (Df ds (x.wp P Q)))(hf:t=false->At β n Γ H F (Df ds (y.wp P Q))):At β n Γ H F (Df ds ((E7 c x y).wp P Q)):=
 λa w S f s k=>wp_cond_split (a:=dfA ds a) (show a.eval c= .bool t from f.ev hc) (λe=>ht e a w S f s k) (λe=>hf e a w S f s k)
theorem d_true{c:Operand}{x y:Code}{t:Bool}(hc:Γ.ev c=some (.bool t))(ht:t=true)(h:At β n Γ H F (Df ds (x.wp P Q))):At β n Γ H F (Df ds ((E7 c x y).wp P Q)):=
 bQh hc (λ_=>h) (λe=>by rw[ht]at e;cases e)
theorem d_false{c:Operand}{x y:Code}{t:Bool}(hc:Γ.ev c=some (.bool t))(ht:t=false)(h:At β n Γ H F (Df ds (y.wp P Q))):At β n Γ H F (Df ds ((E7 c x y).wp P Q)):=
 bQh hc (λe=>by rw[ht]at e;cases e) (λ_=>h)
def BackD {ι:Type}(ds:List Deferred)(β:dY)(n:Nat)(G:ι->Env)(HH:ι->List bD)(FF:ι->List bC)(μ:ι->Nat)(m:Nat)(a:Act)(w:World):Prop:= ∃a0,a=dfA ds a0/\Back β n G HH FF μ m a0 w
theorem d_loop{ι:Type}{c:Code}(G:ι->Env)(HH:ι->List bD)(FF:ι->List bC)(μ:ι->Nat)(x0:ι)(hG:Γ.Sub (G x0))(hH:Sel H (HH x0))(hF:bA F (FF x0))
  (round: ∀x,At β n (G x) (HH x) (FF x) (Df ds (c.wp P (Exit.then (BackD ds β n G HH FF μ (μ x)) Q)))):At β n Γ H F (Df ds ((Code.loop c).wp P Q)):=by
 have key: ∀m x,μ x<=m-> ∀a w S,Fits n (G x) a->St β (HH x) S w->All (FF x) S w->Code.rounds P c Q (m+1) (dfA ds a) w:=by
  intro m
  induction m with
  |zero=>
   intro x hx a w S f s k;rw[rounds_succ];refine T8 (λe o d q=>?_) (round x a w S f s k)
   cases e with
   |normal=>obtain⟨g,_,b,h,hlt,_⟩:=q;omega
   |_=>exact q
  |succ m ih=>
   intro x hx a w S f s k;rw[rounds_succ];refine T8 (λe o d q=>?_) (round x a w S f s k)
   cases e with
   |normal=>
    obtain⟨g,rfl,b,h,hlt,l,i,j⟩:=q;exact ih b j5 g d h l i j
   |_=>exact q
 intro a w S f s k;exact wp_loop_rounds (μ x0+1) (key (μ x0) x0 (Nat.le_refl _) a w S (f.sub hG) (s.sel hH) (hF.all S w k))
theorem d_loop2{ι:Type}{c:Code}(Δ:Env)(hΔ:Γ.Sub Δ)(G:ι->Env)(HH:ι->List bD){Hr:List bD}(FF:ι->List bC)(μ:ι->Nat)(x0:ι)(hG:Γ.Sub (G x0))(hH:Split H (HH x0) Hr)(hF:bA F (FF x0))
  (round: ∀x,At β n (G x++Δ) (HH x++Hr) (FF x++F) (Df ds (c.wp P (Exit.then (BackD ds β n (λx=>G x++Δ) (λx=>HH x++Hr) (λx=>FF x++F) μ (μ x)) Q)))):At β n Γ H F (Df ds ((Code.loop c).wp P Q)):=
 d_loop (λx=>G x++Δ) (λx=>HH x++Hr) (λx=>FF x++F) μ x0 (hG.append hΔ) hH.sel (hF.append bA.self) round
theorem d_back{ι:Type}{G:ι->Env}{HH:ι->List bD}{FF:ι->List bC}{μ:ι->Nat}{m:Nat}(h:At β n Γ H F (Back β n G HH FF μ m)):At β n Γ H F (Df ds (BackD ds β n G HH FF μ m)):=λa w S f s k=>⟨a,rfl,h a w S f s k⟩
theorem at_defer{ops:Array Oper}{rest:List Oper}{o:Oper}{x:Operand}{fv:Fn}{first cap:Array Value}{ars:Array Operand}{ts:Array TypeId}{vs:List Value}(hw:want ops Γ o=some true)(ho:o.op= .defer ⟨.value x,ars,ts⟩)(hx:Γ.ev x=some (.func fv first cap))(hd:o.dst=none)
  (hv:Γ.evs ars.toList=some vs) (k:At β n Γ H F (Df [{target:= .fn fv cap,args:=first++vs.toArray}] (wpList P ops Q rest))):At β n Γ H F (wpList P ops Q (o::rest)):=
 gR hw λa w S f s c=>by
  have b:ars.map a.eval=vs.toArray:=by
   apply E2
   simpa using f.evs hv
  unfold L2
  have hr:(execOp a.eval o).run P w= .ok (.defer {target:= .fn fv cap,args:=first++vs.toArray}) w:=by unfold execOp;simp only[ho,resolve,f.ev hx,Deferred.ofValue,J0,J1,J6];simp[b]
  rw[hr,aR,hd];have:=k a w S f s c;unfold Df dfA at this;rw[f.defers]at this⊢;exact this
def bTw {ι:Type}(P:Program)(f:FuncId)(args:List Value)(u u':FrameMode)(Hin:List bD)(Pre:List bC)(Hout:ι->List bD)(post:ι->List bC):Prop:=
 ∀S w,St ⟨w,mR Hin,S⟩ Hin S w->All Pre S w->CallsD P f args.toArray u w λe v w'=>(∃r,e= .returned r)/\v=u'/\ ∃x S',St ⟨w,mR Hin,S⟩ (Hout x) S' w'/\All (post x) S' w'
variable {ι : Type} {fn : Func} {R : Ending -> World -> Prop} {f : FuncId} {cap dargs : Array Value} {args : List Value} {Hin : List bD} {Pre : List bC} {Hout : ι -> List bD} {post : ι -> List bC}
theorem bVx{u u':FrameMode}(hu:u≠ .run)(hs':settle u'= .returning)(hi: ∀(args:Array Value) (w:World),(callFunc f args).run P w= .ok (.enter f args) w)(ha:(dargs++cap).toList=args)(hs:bTw P f args u u' Hin Pre Hout post)(hH:Split H Hin H2)(hF:bA F Pre)
  (k: ∀x,At β n Γ (Hout x++H2) (post x++F) (bodyPost P fn R .ret)):At β n Γ H F (Df [{target:= .fn (.func f) cap,args:=dargs}] λa w=>Leaves P fn a.tmps R a.defers u w):=λa w S i s g=>by
 have b:=s.perm hH.perm;show Leaves P fn a.tmps R (a.defers++[{target:= .fn (.func f) cap,args:=dargs}]) u w;rw[i.defers];refine leaves_cons (f:=f) (args:=args.toArray) hu ?_ ?_
 .show(callFunc f (dargs++cap)).run P w=_;rw[hi,<-ha]
 refine(hs S w b.enter (hF.all S w g)).mono ?_;rintro e v c ⟨⟨r,rfl⟩,rfl,x,o,d,j⟩;have:=k x a c _ i (b.leave d) ((All.mono (λ_ h=> .inr h) (λ_ _=>rfl) j).append (All.leave b d g));obtain⟨_,v,l,m⟩:=this;show Leaves P fn a.tmps R [] (settle _) c;rw[hs'];exact⟨v,l,m⟩
theorem d_leave(hi: ∀(args:Array Value) (w:World),(callFunc f args).run P w= .ok (.enter f args) w)(ha:(dargs++cap).toList=args)(hs:bTw P f args .returning .returning Hin Pre Hout post)(hH:Split H Hin H2)(hF:bA F Pre)
  (k: ∀x,At β n Γ (Hout x++H2) (post x++F) (bodyPost P fn R .ret)):At β n Γ H F (Df [{target:= .fn (.func f) cap,args:=dargs}] (bodyPostD P fn R .ret)):=bVx m9 rfl hi ha hs hH hF k
theorem d_caught{v:Value}(hi: ∀(args:Array Value) (w:World),(callFunc f args).run P w= .ok (.enter f args) w)(ha:(dargs++cap).toList=args)(hs:bTw P f args (.panicking (raise v)) (.panicking [{v,recovered:=true}]) Hin Pre Hout post)(hH:Split H Hin H2)(hF:bA F Pre)
  (k: ∀x,At β n Γ (Hout x++H2) (post x++F) (bodyPost P fn R .ret)):At β n Γ H F (Df [{target:= .fn (.func f) cap,args:=dargs}] (bodyPostD P fn R (.panic (raise v)))):=bVx m9 rfl hi ha hs hH hF k
theorem spec_defers{ι:Type}{f:FuncId}{c:Code}{args:List Value}{Hin:List bD}{Pre:List bC}{val:ι->Value}{Hout:ι->List bD}{post:ι->List bC}(hf:P.funcs[f]?=some fn)(hb:fn.body=some c)(hn:fn.ntmps=n)
  (hl:Nat.ble args.length n=true) (h: ∀β,β.M=mR Hin->At β n (bCj 0 args) Hin Pre (c.wp P (bodyPostD P fn (bKw β val Hout post)))):cJ P f args Hin Pre val Hout post:=λS w s k=>by
 refine calls_of_wp_defers hf hb (h ⟨w,mR Hin,S⟩ rfl _ w S ⟨rfl,?_,λi v a=>?_⟩ s k)
 .have:=C8 hl;simp;omega
 .obtain⟨_,h2⟩:=tU 0 args i v a;simp only[aN]at h2;have hlt:i<args.length:=(G3.1 h2).1;simp only[aT];rw[if_pos r8]
  simpa using h2
end
section
variable {P : Program} {ops : Array Oper} {Q0 : Exit -> Act -> World -> Prop} {Q : Exit -> Act -> List Frame -> World -> Prop} {cs : List Frame}
theorem opsS_of(hQ: ∀e a w,Q0 e a w->Q e a cs w)(hO: ¬LetsOut Q0): ∀(l:List Oper) (k:Nat),(∀j:Nat,l[j]?=ops[k+j]?)-> ∀(a:Act) (w:World),wpList P ops Q0 l a w->wpOpsS P ops Q (aK k l.length) a cs w
 |[],_,_,a,w,h=>hQ _ _ _ h
 |o::l,k,hk,a,w,h=>by
  have h0:ops[k]?=some o:=by simpa using (hk 0).symm
  have b:=opsS_of hQ hO l (k+1) (λj=>by have:=hk (j+1);simpa[Nat.add_assoc,Nat.add_comm 1 j]using this);rw[G5,aL];unfold wpList at h;unfold wpOpsS;simp only[h0];split at h
  .rename_i i;rw[if_pos i];have h:=h.resolve_right λh=>hO h.2;unfold L2 at h;generalize (execOp a.eval o).run P w=r at h⊢
   cases r with
   |ok x g=>
    cases x with
    |value v=>rw[L3]at h;exact b _ _ h
    |skip=>rw[L4]at h;exact b _ _ h
    |defer d=>rw[aR]at h;exact b _ _ h
    |enter f args=>
     rw[L5]at h;refine Calls.mono h λe g k=>?_
     cases e with
     |returned v=>exact b _ _ k
     |panicked c=>exact hQ _ _ _ k
     |outgrown=>exact absurd k hO
    |row r args=>
     rw[aS]at h;exact λc cs=>let ⟨v,g,r,s⟩:=h c cs;⟨v,g,b _ _ r,s⟩
    |_=>exact h.elim
   |halt e g=>
    cases e with
    |panic v=>exact hQ _ _ _ h
    |_=>exact h.elim
  .rename_i i;rw[if_neg i];exact b _ _ h
end
def EndD {ι:Type}(β:dY)(Hout:ι->List bD)(post:ι->List bC)(e:Ending)(w':World):Prop:=(∃r,e= .returned r)/\ ∃x S',St β (Hout x) S' w'/\All (post x) S' w'
section
variable {ι : Type} {P : Program} {f : FuncId} {fn : Func} {n d id : Nat} {o : Oper} {l : List Oper} {rest : Code} {args : List Value} {u u' : FrameMode} {v : Value} {Hin : List bD} {Pre : List bC} {Hout : ι -> List bD} {post : ι -> List bC}
theorem bCh(hf:P.funcs[f]?=some fn)(hb:fn.body=some (.seq (.region id (o::l).toArray false) rest))(hn:fn.ntmps=n)(hl:Nat.ble args.length n=true){ts:Array TypeId}(ho:o.op= .call {callee:= .builtin .recover,args:= #[],argTypes:=ts})(hg:o.guard=none)(hd:o.dst=some d)(hdn:C2 d n=true)
  (hrec: ∀(c:Frame) (cs:List Frame),c.mode=u->recoverD (c::cs)=some (v,{c with mode:=u'}::cs)\/recoverD (c::cs)=none/\v= .nilIface/\u'=u)
  (h: ∀β,β.M=mR Hin->At β n ((d,v)::bCj 0 args) Hin Pre (wpList P (o::l).toArray (Exit.then (rest.wp P (bodyPost P fn (EndD β Hout post))) (bodyPost P fn (EndD β Hout post))) l)):bTw P f args u u' Hin Pre Hout post:=λS w s k=>by
 refine callsD_of_wpS hf hb λc0 cs hu=>?_;apply wpS_seq;apply wpS_region
 have A:List.range (o::l).toArray.size=0::aK 1 l.length:=by rw[List.range_eq_range',Q4,G5,aL]
 rw[A]
 have m:Fits n (bCj 0 args) {tmps:=args.toArray++E5 (fn.ntmps-args.toArray.size) undef,defers:=[]}:=by
  refine⟨rfl,?_,λi v C=>?_⟩
  .have:=C8 hl;simp;omega
  .obtain⟨_,h2⟩:=tU 0 args i v C;simp only[aN]at h2;have hlt:i<args.length:=(G3.1 h2).1;simp only[aT];rw[if_pos r8]
   simpa using h2
 generalize ({tmps:=args.toArray++E5 (fn.ntmps-args.toArray.size) undef,defers:=[]}:Act)=a at m⊢
 have B:Region.wanted o (yielded (o::l).toArray a.tmps)=true:=by unfold Region.wanted;rw[hg]
 have hr:(execOp a.eval o).run P w= .ok .recover w:=by unfold execOp;simp only[ho];rfl
 have h1:=h ⟨w,mR Hin,S⟩ rfl (a.put o.dst v) w S (by rw[hd];exact m.put (by simpa[Nat.blt_eq]using hdn) v) s k
 have key:wpOpsS P (o::l).toArray (Exit.thenS (rest.wpS P (bodyPostS P fn c0 cs λe v b=>(∃r,e= .returned r)/\v=u'/\ ∃x S',St ⟨w,mR Hin,S⟩ (Hout x) S' b/\All (post x) S' b)) (bodyPostS P fn c0 cs λe v b=>(∃r,e= .returned r)/\v=u'/\ ∃x S',St ⟨w,mR Hin,S⟩ (Hout x) S' b/\All (post x) S' b)) (aK 1 l.length) (a.put o.dst v) ({c0 with mode:=u'}::cs) w:=by
  have g: ∀e a b,bodyPost P fn (EndD ⟨w,mR Hin,S⟩ Hout post) e a b->bodyPostS P fn c0 cs (λe v b=>(∃r,e= .returned r)/\v=u'/\ ∃x S',St ⟨w,mR Hin,S⟩ (Hout x) S' b/\All (post x) S' b) e a ({c0 with mode:=u'}::cs) b:=λe a b q=>by
   cases e with
   |normal=>obtain⟨z,r,y,t,p⟩:=q;exact⟨z,u',rfl,r,y,t,rfl,p⟩
   |ret=>obtain⟨z,r,y,t,p⟩:=q;exact⟨z,u',rfl,r,y,t,rfl,p⟩
   |panic c=>obtain⟨_,⟨r,hr⟩,_⟩:=q;cases hr
   |outgrown=>obtain⟨⟨r,hr⟩,_⟩:=q;cases hr
   |_=>exact q.elim
  refine opsS_of (Q0:=Exit.then (rest.wp P (bodyPost P fn (EndD ⟨w,mR Hin,S⟩ Hout post))) (bodyPost P fn (EndD ⟨w,mR Hin,S⟩ Hout post))) (λe a b q=>?_) ?_ l 1 (λj=>by simp[Nat.add_comm 1 j]) _ _ h1
  .cases e with
   |normal=>exact wpS_of_wp (T8 (λe a b q=>g e a b q) q)
   |exit i=>exact g (.exit i) a b q
   |goto i=>exact g (.goto i) a b q
   |ret=>exact g .ret a b q
   |panic c=>exact g (.panic c) a b q
   |outgrown=>exact g .outgrown a b q
  .rintro⟨a,b,⟨r,hr⟩,_⟩;cases hr
 unfold wpOpsS;simp only[List.getElem?_toArray,List.getElem?_cons_zero,B,if_true,hr]
 rcases hrec c0 cs hu with e|⟨e,rfl,rfl⟩
 .rw[e];exact key
 .rw[e];have D:({c0 with mode:=u'}:Frame)=c0:=by subst hu;rfl
  rw[D]at key;exact key
theorem rec_none(c:Frame)(cs:List Frame)(h:c.mode= .returning):recoverD (c::cs)=some (.nilIface,{c with mode:= .returning}::cs)\/recoverD (c::cs)=none/\(Value.nilIface:Value)= .nilIface/\(FrameMode.returning:FrameMode)= .returning:= .inr ⟨by simp[recoverD,h],rfl,rfl⟩
theorem rec_some(v:Value)(c:Frame)(cs:List Frame)(h:c.mode= .panicking (raise v)):recoverD (c::cs)=some (v,{c with mode:= .panicking [{v,recovered:=true}]}::cs)\/recoverD (c::cs)=none/\v= .nilIface/\FrameMode.panicking [{v,recovered:=true}]= .panicking (raise v):= .inl (by simp[recoverD,h,raise])
end
open Go.ChangeMaps (setBlock)
abbrev KV:=List (Int×Value)
def kvI (kk:IntKind)(kv:KV):List (Value×Value):=kv.map λp=>(Value.int kk p.1,p.2)
def bRv (e:MapEntry):Value×Value:=(e.key,e.val)
def MapO (kk:IntKind)(kv:KV)(o:Option Obj):Prop:= ∃es clock,o=some (.map es clock)/\es.toList.map bRv=kvI kk kv
def bOv (r:Nat)(kk:IntKind)(kv:KV):bD:= .gen (some r) (MapO kk kv)
def sI (k:Int):KV->Nat->Option (Nat×Value)
 |[],_=>none
 |p::r,i=>if k==p.1 then some (i,p.2)else sI k r (i+1)
def bPk (k:Int):KV->Option Value
 |[]=>none
 |p::r=>if k==p.1 then some p.2 else bPk k r
def bCu (k:Int)(v:Value):KV->KV
 |[]=>[(k,v)]
 |p::r=>if k==p.1 then (k,v)::r else p::bCu k v r
theorem find_get(k:Int): ∀(kv:KV) (i:Nat),(sI k kv i).map (·.2)=bPk k kv
 |[],_=>rfl
 |p::r,i=>by
  unfold sI bPk;split
  .rfl
  .exact find_get k r (i+1)
theorem bSy{k:Int}{v:Value}: ∀{kv:KV} {i:Nat},sI k kv i=none->bCu k v kv=kv++[(k,v)]
 |[],_,_=>rfl
 |p::r,i,h=>by
  unfold sI at h;unfold bCu;split at h
  .cases h
  .rename_i a;rw[if_neg a,bSy h];rfl
theorem bUf{k:Int}{v:Value}{j:Nat}{u:Value}: ∀{kv:KV} {i:Nat},sI k kv i=some (j,u)-> ∃d,j=i+d/\ ∃p,kv[d]?=some p/\k=p.1/\bCu k v kv=kv.set d (k,v)
 |[],_,h=>by cases h
 |p::r,i,h=>by
  unfold sI at h;split at h
  .rename_i a;simp only[Option.some.injEq,Prod.mk.injEq]at h;exact⟨0,j5,p,rfl,by simpa using a,by simp[bCu,a]⟩
  .rename_i a;obtain⟨d,h1,q,h2,h3,h4⟩:=bUf (v:=v) h;exact⟨d+1,j5,q,h2,h3,by rw[bCu,if_neg a,h4];rfl⟩
section
variable {P : Program} {kk : IntKind} {k : Int} {w : World} {t kt et : TypeId}
theorem bJu(kk:IntKind)(k:Int): ∀(es:List MapEntry) (kv:KV) (i:Nat),es.map bRv=kvI kk kv->K9 (.int kk) (.int kk k) es i=some (sI k kv i)
 |[],[],_,_=>rfl
 |[],_::_,_,h=>by simp[kvI]at h
 |_::_,[],_,h=>by simp[kvI]at h
 |e::es,p::kv,i,h=>by
  simp only[H6,List.cons.injEq,kvI,bRv,Prod.mk.injEq]at h;obtain⟨⟨h1,h2⟩,h3⟩:=h;have a:=bJu kk k es kv (i+1) h3;unfold K9;rw[h1];simp only[Instr.sameNow,if_true,sI];cases b:k==p.1
  .simpa using a
  .simp[h2]
theorem qT(hk:P.underlying kt=some (.int kk)){es:List MapEntry}{kv:KV}(h:es.map bRv=kvI kk kv):(K7 kt (.int kk k) es).run P w= .ok (sI k kv 0) w:=by unfold K7;simp only[J0,run_underlying hk,J6,bJu kk k es kv 0 h,J1]
theorem oI(hk:P.underlying kt=some (.int kk))(b:Bool):(K6 b 10000 kt (.int kk k)).run P w= .ok () w:=by
 have: ∀n,(K6 b (n+1) kt (.int kk k)).run P w= .ok () w:=λn=>by simp[K6,run_underlying hk]
 exact this 9999
theorem run_staysI:(R5 (.int kk k) (.int kk k)).run P w= .ok (.int kk k) w:=by
 have: ∀n,aV (n+1) (.int kk k) (.int kk k)=true:=λn=>by simp[aV]
 unfold R5;rw[this 9999];simp
theorem bNj(ht:P.underlying t=some (.map kt et))(hk:P.underlying kt=some (.int kk)){r:Nat}{kv:KV}(v:Value)(h:MapO kk kv (w.heap[r]?)):
  ∃o,(R6 t (.map (some r)) (.int kk k) v).run P w= .ok () (setBlock w r o)/\MapO kk (bCu k v kv) ((setBlock w r o).heap[r]?):=by
 obtain⟨c,a,hb,b⟩:=h
 cases g:sI k kv 0 with
 |none=>
  refine⟨.map (c.push ⟨.int kk k,v,a⟩) (a+1),?_,⟨_,_,ChangeMaps.heap_setBlock_same hb _,?_⟩⟩
  .unfold R6;simp only[J0,run_underlying ht,J6,T5 hb,oI hk,qT hk b,g];rw[T6 _ hb];simp[setBlock]
  .rw[bSy g];simp[b,kvI,bRv]
 |some p=>
  obtain⟨j,u⟩:=p;obtain⟨d,h1,q,h2,h3,h4⟩:=bUf (v:=v) g;obtain rfl:j=d:=j5
  have f:c.size=kv.length:=by
   have:=congrArg List.length b
   simpa[kvI]using this
  have l:j<c.size:=by rw[f];exact(G3.1 h2).1
  obtain⟨e,he⟩: ∃e,c[j]?=some e:=⟨c[j],Array.getElem?_eq_getElem l⟩
  have n:e.key= .int kk k:=by
   have h1:(c.toList.map bRv)[j]?=some (bRv e):=by simp[he]
   rw[b,kvI,F7,h2]at h1;simp only[N5,Option.some.injEq,bRv,Prod.mk.injEq]at h1;rw[<-h1.1,h3]
  refine⟨.map (c.modify j λe=>{e with key:= .int kk k,val:=v}) a,?_,⟨_,_,ChangeMaps.heap_setBlock_same hb _,?_⟩⟩
  .unfold R6;simp only[J0,run_underlying ht,J6,T5 hb,oI hk,qT hk b,g,he,N5,Option.getD_some,n,run_staysI];rw[T6 _ hb];simp[setBlock]
  .rw[h4];apply aI;intro i;have m:(c.toList.map bRv)[i]?=(kvI kk kv)[i]?:=by rw[b]
   simp only[kvI,F7,Array.toList_modify,V6,W3]at m⊢
   by_cases x:j=i
   .subst x;have:j<kv.length:=j5
    have s:c.toList[j]?=some e:=by simpa using he
    simp[this,s,bRv]
   .simp only[x,if_false]at m⊢
    simpa using m
end
theorem jR{w:World}{r:Nat}{o:Obj}:pV (λb=>b=r) w (setBlock w r o):=by refine⟨rfl,rfl,rfl,by simp[setBlock],λb hb a=>?_⟩;simp[setBlock,Ne.symm a]
section
variable {P : Program} {β : dY} {n : Nat} {Γ : Env} {H : List bD} {F : List bC} {Q : Exit -> Act -> World -> Prop} {K : Act -> World -> Prop} {T : Tab} {ops : Array Oper} {rest : List Oper} {o : Oper}
theorem bOp{d:Nat}{t:TypeId}(kk:IntKind)(hw:want ops Γ o=some true)(ho:o.op= .makeMap t none)(hd:o.dst=some d)(hn:C2 d n=true)(k: ∀b,At β n ((d,.map (some b))::Γ) (bOv b kk []::H) F (wpList P ops Q rest)):At β n Γ H F (wpList P ops Q (o::rest)):=
 gR hw λa w S f s i=>by
  have hr:(execOp a.eval o).run P w= .ok (.value (.map (some w.heap.size))) (w.alloc (.map #[] 0)):=by unfold execOp;simp only[ho,Instr.makeMap];rfl
  unfold L2;rw[hr,L3,hd];have g:=s.alloc (.map #[] 0);refine k w.heap.size _ _ S (f.put m8 _) ⟨g.kept,λc e=>?_,λc e b hb=>?_,?_,g.zb⟩ (All.alloc s i _)
  .rcases F1.1 e with rfl|e
   .exact⟨#[],0,heap_alloc_new _ _,rfl⟩
   .exact g.ok c (F3 _ e)
  .rcases F1.1 e with rfl|e
   .exact g.own (.obj w.heap.size (.map #[] 0)) (F9 ..) b hb
   .exact g.own c (F3 _ e) b hb
  .have h:=F4.1 g.sep;exact F4.2 ⟨λd hd b hb=>h.1 d hd b hb,h.2⟩
theorem tF{r:Nat}{kk:IntKind}{kv:KV}{H':List bD}(hH:bZ H (bOv r kk kv) H'){t kt et:TypeId}{m x y:Operand}{k:Int}{v:Value}(hw:want ops Γ o=some true)(ho:o.op= .mapUpdate t m x y\/o.op= .insert t m x y)(hd:o.dst=none)(ht:P.underlying t=some (.map kt et))(hk:P.underlying kt=some (.int kk))
  (hm:Γ.ev m=some (.map (some r))) (hx:Γ.ev x=some (.int kk k)) (hy:Γ.ev y=some v) (K':At β n Γ (bOv r kk (bCu k v kv)::H') F (wpList P ops Q rest)):At β n Γ H F (wpList P ops Q (o::rest)):=
 gR hw λa w S f s l=>by
  have d:MapO kk kv (w.heap[r]?):=s.ok _ hH.mem;obtain⟨ob,b,g⟩:=bNj (k:=k) ht hk v d
  have hr:(execOp a.eval o).run P w= .ok .skip (setBlock w r ob):=by
   unfold execOp
   rcases ho with ho|ho
   .simp only[ho,f.ev hm,f.ev hx,f.ev hy,J0,b];rfl
   .simp only[ho,f.ev hm,f.ev hx,f.ev hy,J0,b];rfl
  unfold L2;rw[hr,L4,hd];have i:=s.perm hH.perm;exact K' _ _ S (f.put_none _) (i.swap jR rfl rfl g) (All.mono (λ_ h=>h) (s.agree jR (λc j e=>by subst e;exact(i.own _ (F9 ..) _ rfl).2.2 j)) l)
def KnowsMap(β:dY)(H:List bD)(F:List bC)(r:Nat)(kk:IntKind)(kv:KV):Prop:= ∀w S,St β H S w->All F S w->MapO kk kv (w.heap[r]?)
theorem qY{r:Nat}{kk:IntKind}{kv:KV}{H':List bD}(hH:bZ H (bOv r kk kv) H'):KnowsMap β H F r kk kv:=λ_ _ s _=>s.ok _ hH.mem
end
end
section
open Go.RowKit Go.Proofs.Tryz
open Go.ChangeMaps (setBlock)
end
section
open Go.RowKit Go.Proofs.Tryz
section
variable {P : Program} {β : dY} {n : Nat} {Γ : Env} {H : List bD} {F : List bC} {o : Oper}
theorem sti_quoI{t tt:TypeId}{x y:Operand}{k:IntKind}{a b:Int}(ho:o.op= .binOp .quo t x y tt)(hx:Γ.ev x=some (.int k a))(hy:Γ.ev y=some (.int k b))(hb:b≠0):Sti P β n Γ H F o (.int k (k.wrap (a.tdiv b))):=λc w S f s _=>by unfold execOp;simp only[ho,f.ev hx,f.ev hy];simp[eqGuard,binOp,Op.intDiv,hb]
end
section
variable {P : Program} {β : dY} {n : Nat} {Γ : Env} {H : List bD} {F : List bC} {Q : Exit -> Act -> World -> Prop} {K : Act -> World -> Prop} {T : Tab} {α : Type} {E : Flat α}
theorem cF.cells{A:Option Addr}{xs:List α}{w:World}{S:kZ}(hr:cF β H F E A xs)(s:St β H S w)(hF:All F S w)(h0:0<xs.length):
  ∃b off,A=some ⟨b,off,none⟩/\ ∀j u,(E.all xs)[j]?=some u->w.cell? ((⟨b,off,none⟩:Addr).add j)=some u:=by
 obtain⟨⟨b,off,rfl⟩,_⟩:=hr w S s hF 0 _ (G1 h0);refine⟨b,off,rfl,λj u d=>?_⟩;have hlt:=(G3.1 d).1;rw[E.all_length]at hlt;have g:j/E.size<xs.length:=Nat.div_lt_of_lt_mul (by rwa[Nat.mul_comm]at hlt);have f:j%E.size<E.size:=Nat.mod_lt _ E.pos;have a:=G1 g;have c:=G1 (l:=E.cells xs[j/E.size]) (i:=j%E.size) (by rw[E.len];exact f);have e:j/E.size*E.size+j%E.size=j:=by rw[Nat.mul_comm];exact Nat.div_add_mod j E.size
 have h1:=(hr w S s hF _ _ a).2 _ _ c;have h2:=E.all_get a c;rw[e,d]at h2;injection h2 with h2
 have h3:=h1.trans (congrArg some h2.symm);rw[Nat.add_assoc,e]at h3;rw[Addr.add_mid];exact h3
theorem cF.tail{A:Option Addr}{xs:List α}{c:bD}(hr:cF β H F E A xs):cF β (c::H) F E A xs:=λw S s a=>hr w S s.tail a
theorem bIx{A:Option Addr}{xs:List α}{w:World}{S:kZ}(hr:cF β H F E A xs)(s:St β H S w)(hF:All F S w)(c:Nat){size:Nat}(hs:size=E.size):(Builtin.firstCells size xs.length (.slice A xs.length c)).run P w.drew= .ok (E.all xs).toArray w.drew:=by
 subst hs
 by_cases h0:0<xs.length
 .obtain⟨b,d,rfl,h⟩:=hr.cells s hF h0;exact run_firstCells_some w.drew E.size xs.length ⟨b,d,none⟩ xs.length c (E.all xs) (E.all_length xs) h
 .have:xs=[]:=List.eq_nil_of_length_eq_zero j5;subst this
  cases A with
  |none=>exact run_firstCells_none w.drew E.size 0 0 c
  |some a=>exact run_firstCells_some w.drew E.size 0 a 0 c [] m9 (λj u e=>by simp at e)
theorem bQs{ops:Array Oper}{rest:List Oper}{o:Oper}{d:Nat}{x y:Operand}{t e:TypeId}{i:TypeInfo}{z:Value}{by_ c q m:Nat}{A B:Option Addr}{xs ys:List α}(hr:cF β H F E A xs)(hs:cF β H F E B ys)(hw:want ops Γ o=some true)
  (ho:o.op= .call {callee:= .builtin .append,args:= #[x,y],argTypes:= #[t,t]}) (hd:o.dst=some d) (hn:C2 d n=true) (hu:P.underlying t=some (.slice e)) (hi:P.info? e=some i) (hz:i.zero=some z) (hsize:i.size=E.size) (hby:i.bytes=by_) (hzs:z.cells.size=E.size)
  (hx:Γ.ev x=some (.slice A m m)) (hm:m=xs.length) (hy:Γ.ev y=some (.slice B q c)) (hq:q=ys.length) (h0:0<ys.length) (hbytes:(xs.length+ys.length)*by_<=140737488355328) (hpos:0<by_)
  (k: ∀A' cap',At β n ((d,.slice A' (xs++ys).length cap')::Γ) (E.row (.slice A' (xs++ys).length cap') e (xs++ys)::H) F (wpList P ops Q rest)):At β n Γ H F (wpList P ops Q (o::rest)):=by
 subst hm hq;refine cL (t:=e) E ?_;refine gR hw λa w S f s I=>?_;have M:xs.length+ys.length<=(xs.length+ys.length)*by_:=Nat.le_mul_of_pos_right _ hpos
 have u:xs.length+ys.length<=maxLen:=by simp only[maxLen];omega
 have K:St β H S w:=s.tail;obtain⟨b,j,rfl,hb⟩:=hs.cells K I h0;have p:=nextslicecap_le (need:=xs.length+ys.length) (old:=xs.length) j5
 have r:Builtin.nextslicecap (xs.length+ys.length) xs.length*i.bytes<=281474976710656:=by have:=Nat.mul_le_mul_right i.bytes p;rw[hby]at this⊢;rw[Nat.mul_assoc]at this;omega
 have D:=bIx (P:=P) hr K I xs.length hsize;have l:=run_append_grow_src (P:=P) w t t o.type e i z hu hi hz A xs.length xs.length (E.all xs) D (.slice (some ⟨b,j,none⟩) ys.length c) ys.length (E.all ys)
  (Src.ofSlice w hu ⟨b,j,none⟩ ys.length c (E.all ys) (by rw[E.all_length,hsize]) hb E.all_one) j5 (by simp only[maxLen]at u;omega) r
 have v:(execOp a.eval o).run P w= .ok (.value (.slice (some ⟨w.heap.size,0,none⟩) (xs.length+ys.length) (grownCap w (xs.length+ys.length) xs.length e)))
   (w.drew.alloc (.cells ((E.all xs++E.all ys).toArray++Builtin.zeroCells z.cells (grownCap w (xs.length+ys.length) xs.length e-(xs.length+ys.length))) e)):=by unfold execOp;simp only[ho,resolve,invoke,builtin,J0,J1,J6,List.map_toArray,H6,List.map_nil,f.ev hx,f.ev hy,l]
 have g:E.all xs++E.all ys=E.all (xs++ys):=by simp[Flat.all]
 have C:=grownCap_ge w (xs.length+ys.length) xs.length e;have G:=grownCap_le_maxLen w (xs.length+ys.length) xs.length e u;unfold L2;rw[v,L3,hd];have L:=k (some ⟨w.heap.size,0,none⟩) (grownCap w (xs.length+ys.length) xs.length e);rw[G4]at L;refine L _ _ S (f.put m8 _) ?_ ?_
 .refine s.swap_row (v':= .slice (some ⟨w.heap.size,0,none⟩) (xs.length+ys.length) (grownCap w (xs.length+ys.length) xs.length e)) (tZ ⟨rfl,rfl,rfl,m9,λk N _=>heap_alloc_old w.drew _ N⟩) (.inr rfl) ?_;show World.ownsRow _ 0 e E.size _ (xs++ys).length (E.all (xs++ys));rw[G4];refine⟨by rw[E.all_length,G4],.inr ⟨w.heap.size,_,_,rfl,S6 _,heap_alloc_new w.drew _,C,G,?_,?_⟩⟩
  .have J:(E.all xs++E.all ys).length=(xs.length+ys.length)*E.size:=by rw[g,E.all_length,G4]
   simp only[aU,Q4,size_zeroCells,hzs,J,<-Nat.add_mul]
   congr 1
   omega
  .have J:(E.all (xs++ys)).length=(xs.length+ys.length)*E.size:=by rw[E.all_length,G4]
   simp only[Array.toList_append];rw[g,<-J];exact List.take_left
 .exact All.mono (w:=w) (λ_ h=>h) (λb hb=>heap_alloc_old w.drew _ (s.zb b hb).1) I
end
end
section
open Go.RowKit Go.ChangeShapes Go.WideShapes Go.Proofs.Tryz
structure dU where
 op:Int
 a:Int
 b:Int
 c:Int
 zd:Int
 deriving Inhabited
def oE:Flat dU where
 size:=5
 cells:=λx=>[.int .u8 x.op,.int .u8 x.a,.int .u8 x.b,.int .u8 x.c,.int .i32 x.zd]
 len:=λ_=>rfl
 one:=λx u hu=>by
  simp at hu
  rcases hu with rfl|rfl|rfl|rfl|rfl<;>rfl
 pos:=l4
structure PcV where
 mark:Int
 ins:dU
 za:Int
 deriving Inhabited
def pcE:Flat PcV where
 size:=7
 cells:=λx=>[.int .i64 x.mark,.int .u8 x.ins.op,.int .u8 x.ins.a,.int .u8 x.ins.b,.int .u8 x.ins.c,.int .i32 x.ins.zd,.int .i64 x.za]
 len:=λ_=>rfl
 one:=λx u hu=>by
  simp at hu
  rcases hu with rfl|rfl|rfl|rfl|rfl|rfl|rfl<;>rfl
 pos:=l4
structure MkV where
 l:(Sl PcV)
 R:Nat
 next:Nat
 fail:Nat
 frame:Int
 core:fX
 U:(Sl Int)
 at_:(Sl Int)
 size:(Sl Int)
 deriving Inhabited
def runT:Tab:=[(3,⟨.int .i64,1⟩),(2,⟨.int .i64,1⟩),(5,⟨.int .u8,1⟩),(4,⟨.bool,1⟩),(77,⟨.int .u8,1⟩),(32,⟨.int .i64,1⟩),(43,⟨.slice 111,1⟩),(42,⟨.slice 43,1⟩),(172,⟨.struct [(3,0),(3,1),(2,2),(43,3),(77,4)],5⟩),(78,⟨.slice 172,1⟩),(95,⟨.struct [(42,0),(3,1)],2⟩),(22,⟨.slice 95,1⟩),(80,⟨.struct [(3,0),(3,1),(43,2),(42,3),(77,4),(78,5)],6⟩),(23,⟨.slice 80,1⟩),(24,⟨.slice 3,1⟩),(99,⟨.slice 4,1⟩),(26,⟨.struct [(3,0),(22,1),(23,2),(24,3)],4⟩),(201,⟨.struct [(3,0),(3,1),(3,2),(99,3)],4⟩),(27,⟨.slice 2,1⟩),(75,⟨.struct [(27,0),(27,1)],2⟩),(37,⟨.slice 75,1⟩),(21,⟨.int .i32,1⟩),(52,⟨.struct [(5,0),(5,1),(5,2),(5,3),(21,4)],5⟩),(184,⟨.struct [(3,0),(52,1),(3,6)],7⟩),(29,⟨.slice 52,1⟩),(83,⟨.slice 184,1⟩),(85,⟨.struct [(83,0),(3,1),(3,2),(3,3),(2,4),(26,5),(27,9),(27,10),(27,11)],12⟩),(45,⟨.struct [(42,0),(43,1)],2⟩),(31,⟨.struct [(29,0),(3,1),(27,2)],3⟩),(198,⟨.array 64 4,64⟩),(111,⟨.struct [(2,0),(109,1)],7⟩),(109,⟨.array 6 5,6⟩),(290,⟨.slice 5,1⟩),(224,⟨.int .u64,1⟩),(199,⟨.other,1⟩),(274,⟨.other,1⟩),(126,⟨.other,1⟩),(261,⟨.int .u64,1⟩),(225,⟨.int .u32,1⟩),(9,⟨.string,1⟩),(82,⟨.other,1⟩),(185,⟨.map 3 3,1⟩)]
theorem dL:fC prog runT:=uM.ok
 ⟨⟨by rw[underlying3];rfl,j8⟩,
  ⟨by rw[underlying2];rfl,j8⟩,
  ⟨by rw[underlying5];rfl,j8⟩,
  ⟨by rw[underlying4];rfl,j8⟩,
  ⟨by rw[underlying77];rfl,j8⟩,
  ⟨by rw[underlying32];rfl,j8⟩,
  ⟨by rw[underlying43];rfl,j8⟩,
  ⟨by rw[underlying42];rfl,j8⟩,
  ⟨by rw[underlying172];rfl,j8⟩,
  ⟨by rw[underlying78];rfl,j8⟩,
  ⟨by rw[underlying95];rfl,j8⟩,
  ⟨by rw[underlying22];rfl,j8⟩,
  ⟨by rw[underlying80];rfl,j8⟩,
  ⟨by rw[underlying23];rfl,j8⟩,
  ⟨by rw[underlying24];rfl,j8⟩,
  ⟨by rw[underlying99];rfl,j8⟩,
  ⟨by rw[underlying26];rfl,j8⟩,
  ⟨by rw[underlying201];rfl,j8⟩,
  ⟨by rw[underlying27];rfl,j8⟩,
  ⟨by rw[underlying75];rfl,j8⟩,
  ⟨by rw[underlying37];rfl,j8⟩,
  ⟨by rw[underlying21];rfl,j8⟩,
  ⟨by rw[underlying52];rfl,j8⟩,
  ⟨by rw[underlying184];rfl,j8⟩,
  ⟨by rw[underlying29];rfl,j8⟩,
  ⟨by rw[underlying83];rfl,j8⟩,
  ⟨by rw[underlying85];rfl,j8⟩,
  ⟨by rw[underlying45];rfl,j8⟩,
  ⟨by rw[underlying31];rfl,j8⟩,
  ⟨by rw[underlying198];rfl,j8⟩,
  ⟨by rw[underlying111];rfl,j8⟩,
  ⟨by rw[underlying109];rfl,j8⟩,
  ⟨by rw[underlying290];rfl,j8⟩,
  ⟨by rw[underlying224];rfl,j8⟩,
  ⟨by rw[underlying199];rfl,j8⟩,
  ⟨by rw[underlying274];rfl,j8⟩,
  ⟨by rw[underlying126];rfl,j8⟩,
  ⟨by rw[underlying261];rfl,j8⟩,
  ⟨by rw[underlying225];rfl,j8⟩,
  ⟨by rw[underlying9];rfl,j8⟩,
  ⟨by rw[underlying82];rfl,j8⟩,
  ⟨by rw[underlying185];rfl,j8⟩,e9⟩
theorem insInfo: ∃i:TypeInfo,prog.info? 52=some i/\i.zero=some (.agg #[j4 0,j4 0,j4 0,j4 0,.int .i32 0])/\i.size=5/\i.bytes=8:=by
 have h:(prog.info? 52).map (λi=>(i.zero,i.size,i.bytes))=some (some (.agg #[.int .u8 0,.int .u8 0,.int .u8 0,.int .u8 0,.int .i32 0]),5,8):=j8
 cases a:prog.info? 52 with
 |none=>simp[a]at h
 |some i=>simp[a]at h;exact⟨i,rfl,h.1,h.2.1,h.2.2⟩
theorem pcInfo: ∃i:TypeInfo,prog.info? 184=some i/\i.zero=some (.agg #[j3 0,j4 0,j4 0,j4 0,j4 0,.int .i32 0,j3 0])/\i.size=7/\i.bytes=24:=by
 have h:(prog.info? 184).map (λi=>(i.zero,i.size,i.bytes))=some (some (.agg #[.int .i64 0,.int .u8 0,.int .u8 0,.int .u8 0,.int .u8 0,.int .i32 0,.int .i64 0]),7,24):=j8
 cases a:prog.info? 184 with
 |none=>simp[a]at h
 |some i=>simp[a]at h;exact⟨i,rfl,h.1,h.2.1,h.2.2⟩
theorem bHm{β:dY}{n:Nat}{Γ:Env}{H:List bD}{F:List bC}{Q:Exit->Act->World->Prop}{ops:Array Oper}{rest:List Oper}{o:Oper}{d:Nat}{x:Operand}{m:PcV}(hw:want ops Γ o=some true)(ho:o.op= .buildSlice 83 1 #[(0,x)])(hd:o.dst=some d)(hn:C2 d n=true)
  (hx:Γ.ev x=some (.agg #[j3 m.mark,j4 m.ins.op,j4 m.ins.a,j4 m.ins.b,j4 m.ins.c,.int .i32 m.ins.zd,j3 m.za])) (k: ∀b,At β n ((d,.slice (some ⟨b,0,none⟩) 1 1)::Γ) (.obj b (.cells (pcE.all [m]).toArray 184)::H) F (wpList prog ops Q rest)):At β n Γ H F (wpList prog ops Q (o::rest)):=by
 obtain⟨i,g,e,f,_⟩:=pcInfo;refine nX hw ho hd hn hx underlying83 g e j5 j5 ?_ k;rw[f]
 kernel_rfl
theorem bIv{β:dY}{n:Nat}{Γ:Env}{H:List bD}{F:List bC}{Q:Exit->Act->World->Prop}{ops:Array Oper}{rest:List Oper}{o:Oper}{d:Nat}{x y:Operand}{c q:Nat}{v:Value}{A:Option Addr}{xs ys:List PcV}{H':List bD}(hH:bZ H (pcE.row v 184 xs) H')(hr:cF β H F pcE A ys)(hg:o.guard=none)
  (ho:o.op= .call {callee:= .builtin .append,args:= #[x,y],argTypes:= #[83,83]}) (hd:o.dst=some d) (hn:C2 d n=true)
  (hx:Γ.ev x=some v) (hy:Γ.ev y=some (.slice A q c)) (hq:q=ys.length) (hl:xs.length+ys.length<=5864062014805)
  (k: ∀A' cap',At β n ((d,.slice A' (xs++ys).length cap')::Γ) (pcE.row (.slice A' (xs++ys).length cap') 184 (xs++ys)::H') F (wpList prog ops Q rest)):At β n Γ H F (wpList prog ops Q (o::rest)):=by obtain⟨i,e,a,b,hb⟩:=pcInfo;exact jS hH hr hg ho hd hn underlying83 e a b hb rfl hx hy hq j5 l4 k
end
section
open Go.RowKit Go.Proofs.Tryz
def w32 (z:Int):Int:=(z+2147483648)%4294967296-2147483648
def hasN (op:Int):List UInt8×List UInt8:=
 if op=0 then ([104,97,108,116],[])else if op=1 then ([102,97,105,108],[105])else if op=7 then ([106,117,109,112],[105])else if op=2 then ([99,111,110,115,116],[97,105])
 else if op=3 then ([104,105,103,104],[97,105])else if op=9 then ([122,101,114,111],[97,105])else if op=4 then ([99,111,112,121],[97,98])else if op=5 then ([108,111,97,100],[97,98,105])
 else if op=6 then ([115,116,111,114,101],[97,98,105])else if op=8 then ([108,101,115,115],[97,98,105])else if op=10 then ([97,100,100],[97,98,105])
 else if 128<=op/\qF ((op-128)%256) true=true then ([116,119,111],[110,97,98,99])else if (64<=op/\op<128)/\qF ((op-64)%256) false=true then ([111,110,101],[110,97,98])else ([],[])
def bHq (i:dU)(c:UInt8):dU:=if c=97 then ⟨i.op,0,i.b,i.c,i.zd⟩else if c=98 then ⟨i.op,i.a,0,i.c,i.zd⟩else if c=99 then ⟨i.op,i.a,i.b,0,i.zd⟩else if c=105 then ⟨i.op,i.a,i.b,i.c,0⟩else i
def yQ (i:dU):List UInt8->dU
 |[]=>i
 |c::r=>yQ (bHq i c) r
def insEqB(x y:dU):Bool:=(x.op==y.op)&&((x.a==y.a)&&((x.b==y.b)&&((x.c==y.c)&&(x.zd==y.zd))))
def bAm (i:dU):Bool:=if (hasN i.op).1=[]\/16<=i.a\/16<=i.b\/16<=i.c then false else insEqB (yQ i (hasN i.op).2) ⟨i.op,0,0,0,0⟩
def bDp (i:dU):Bool:=decide (i.op=7\/i.op=8\/i.op=9)
def lJ (p:PcV):Bool:=if p.mark<0\/p.za<0\/bAm p.ins=false then false else decide (p.za=0) || (bDp p.ins&&decide (p.ins.zd=0))
abbrev uS:=List (Int×Int)
def vY (k:Int):uS->Option Int
 |[]=>none
 |p::r=>if k==p.1 then some p.2 else vY k r
def setK (k z:Int):uS->uS
 |[]=>[(k,z)]
 |p::r=>if k==p.1 then (k,z)::r else p::setK k z r
def delK (k:Int):uS->uS
 |[]=>[]
 |p::r=>if k==p.1 then r else p::delK k r
def marksGo:List PcV->Nat->uS->Except (Nat×Int) uS
 |[],_,m=> .ok m
 |p::r,i,m=>if lJ p=false then .error (i,170)else match vY p.mark m with
  |some _=> .error (i,171)
  |none=>marksGo r (i+1) (delK 0 (setK p.mark (i:Int) m))
def placeGoL(m:uS):List PcV->Nat->List dU->Except (Nat×Int) (List dU)
 |[],_,out=> .ok out
 |p::r,i,out=>if p.za=0 then placeGoL m r (i+1) (out++[p.ins])else match vY p.za m with
  |none=> .error (i,172)
  |some k=>placeGoL m r (i+1) (out++[{p.ins with zd:=w32 k}])
def uX (l:List PcV):Except (Nat×Int) (List dU):=if 32768<l.length then .error (0,173)else match marksGo l 0 []with
 |.error e=> .error e
 |.ok m=>placeGoL m l 0 []
def bTs (l:List PcV):Int×Int:=match uX l with
 |.error e=>((e.1:Nat),e.2)
 |.ok _=>(0,0)
def bBy (l:List PcV):List dU:=match uX l with
 |.ok o=>o
 |.error _=>[]
structure GnS where
 l:List PcV
 R:Nat
 next:Nat
 deriving Inhabited
structure GnM where
 fail:Nat
 frame:Int
 U:List Int
 at_:List Int
 size:List Int
def gE (i:dU)(dst:Nat)(s:GnS):GnS:=⟨s.l++[⟨(s.next:Nat),i,(dst:Nat)⟩],s.R,0⟩
def markG (s:GnS):GnS:=⟨s.l,s.R+1,s.next⟩
def bKp (k:Nat)(s:GnS):GnS:=⟨s.l,s.R,k⟩
def hereG (k:Nat)(s:GnS):GnS:=bKp k (if 0<s.next then gE ⟨4,0,0,0,0⟩ 0 s else s)
def rZ (dst:Nat)(s:GnS):GnS:=gE ⟨7,0,0,0,0⟩ dst s
def bCc (a b:Int)(dst:Nat)(s:GnS):GnS:=gE ⟨8,a,b,0,0⟩ dst s
def vX (a b:Int)(s:GnS):GnS:=gE ⟨4,a,b,0,0⟩ 0 s
def numG (a n:Int)(s:GnS):GnS:=if w32 n=n then gE ⟨2,a,0,0,w32 n⟩ 0 s else gE ⟨3,a,0,0,w32 n⟩ 0 (gE ⟨2,a,0,0,w32 (n/4294967296)⟩ 0 s)
def bCq (fr:Int)(k:Nat):Int:=w32 (w32 fr+w32 ((k:Int)-6))
def iI (k:Nat)(spare:Int):Int:=if k<6 then ((8+k:Nat):Int)else spare
def oL (fr:Int)(k:Nat)(spare:Int)(s:GnS):GnS:=if k<6 then s else gE ⟨5,spare,0,0,bCq fr k⟩ 0 s
def nC (fr:Int)(k:Nat)(into:Int->GnS->GnS)(s:GnS):GnS:=if k<6 then into ((8+k:Nat):Int) s else gE ⟨6,14,0,0,bCq fr k⟩ 0 (into 14 s)
def oU (fail:Nat)(a n:Int)(s:GnS):GnS:=hereG (s.R+1) (rZ fail (bCc a 6 (s.R+1) (numG 6 n (markG s))))
def kF (how:Int)(n:Nat):Nat:=if how=5 then n else if how=6 then n-1 else if how=4 then n else n+1
def u8m (z:Int):Int:=z%256
def pM (ds:List Int)(p:List Mono):Int:=if (bF p ds).2=0 then (bF p ds).1 else 0
def opG (M:GnM)(o:OpC)(n:Nat)(s:GnS):GnS:=
 if o.N=1 then nC M.frame n (λa=>numG a o.n) s
 else if o.N=2 then nC M.frame n (λa=>numG a (pM M.U o.p)) (if (bF o.p M.U).2=0 then s else rZ M.fail s)
 else if o.N=3 then nC M.frame n (λa=>vX a (u8m (1+o.k))) s
 else if o.N=4 then nC M.frame (n-1) (λa=>gE ⟨5,a,iI (n-1) 14,0,w32 (M.at_.getD o.k.toNat 0)⟩ 0) (oU M.fail (iI (n-1) 14) (M.size.getD o.k.toNat 0) (bCc (iI (n-1) 14) 0 M.fail (oL M.frame (n-1) 14 s)))
 else if o.N=5 then nC M.frame (n-1) (λa=>gE ⟨u8m (64+o.fn),a,iI (n-1) 14,0,0⟩ 0) (oL M.frame (n-1) 14 s)
 else if o.N=6 then nC M.frame (n-2) (λa=>gE ⟨u8m (128+o.fn),a,iI (n-2) 14,iI (n-1) 15,0⟩ 0) (oL M.frame (n-1) 15 (oL M.frame (n-2) 14 s))
 else s
def opsG (M:GnM):List OpC->Nat->GnS->GnS
 |[],_,s=>s
 |o::r,n,s=>opsG M r (kF o.N n) (opG M o n s)
def foldG (f index:Int)(s:GnS):GnS:=hereG (s.R+2) (vX 7 8 (hereG (s.R+1) (rZ (s.R+2) (gE ⟨u8m (128+f),7,7,8,0⟩ 0 (gE ⟨9,index,0,0,0⟩ (s.R+1) (markG (markG s)))))))
def againG(index n:Int)(dst:Nat)(s:GnS):GnS:=bCc index 6 dst (numG 6 n (gE ⟨10,index,index,0,1⟩ 0 s))
def storeG(M:GnM)(x:cT)(a:Int)(s:GnS):GnS:=
 if (bF x.at_ M.U).2≠0\/M.size.getD x.I.toNat 0<=(bF x.at_ M.U).1 then rZ M.fail s
 else gE ⟨10,5,5,0,1⟩ 0 (gE ⟨6,a,5,0,w32 (M.at_.getD x.I.toNat 0+(bF x.at_ M.U).1)⟩ 0 (oU M.fail 5 (M.size.getD x.I.toNat 0-(bF x.at_ M.U).1) s))
def zerosG:Nat->Nat->GnS->GnS
 |0,_,s=>s
 |n+1,k,s=>zerosG n (k+1) (numG ((1+k:Nat):Int) 0 s)
def endsG (outer:List Int)(top:Nat):Nat->GnS->GnS
 |0,s=>s
 |k+1,s=>endsG outer top k (numG ((1+k:Nat):Int) 0 (againG ((1+k:Nat):Int) (outer.getD k 0) top s))
def uG (M:GnM)(x:cT)(loops:List Int)(s:GnS):GnS:=
 if x.N=1 then storeG M x 8 (opsG M x.ops 0 s)
 else if x.N=3 then storeG M x 7 (foldG x.fn (loops.length:Nat) (opsG M x.ops 0 s))
 else if loops.getLastD 0=0 then storeG M x 7 (numG 7 (unitW x.fn).1 s)
 else
  let s1:=markG (numG (loops.length:Nat) 0 s)
  storeG M x 7 (againG (loops.length:Nat) (loops.getLastD 0) s1.R (foldG x.fn (loops.length:Nat) (opsG M x.ops 0 (hereG s1.R s1))))
def zA (x:cT)(loops:List Int):List Int:=if x.N=2 then loops.dropLast else loops
def qJ (M:GnM)(x:cT)(s:GnS):GnS:=
 let loops:=x.H.map λp=>(bF p M.U).1
 let outer:=zA x loops
 if outer.contains 0=true then s
 else
  let s1:=markG (zerosG outer.length 0 (numG 5 0 s))
  endsG outer s1.R outer.length (uG M x loops (hereG s1.R s1))
def stepsG(M:GnM):List cT->GnS->GnS
 |[],s=>s
 |x::r,s=>stepsG M r (qJ M x s)
def turnG (fold:Bool)(dims:List Int):List (List Mono)->Int->Option Int
 |[],n=>some n
 |p::r,n=>if (bF p dims).2≠0\/65536<(bF p dims).1 then none
  else turnG fold dims r (if (if fold=true/\r=[]then (bF p dims).1+1 else (bF p dims).1)=0 then 0 else min (n*(if fold=true/\r=[]then (bF p dims).1+1 else (bF p dims).1)) 4194304)
def turnsG(dims:List Int):List cT->Int->Bool
 |[],_=>true
 |x::r,all=>match turnG (x.N==2) dims x.H (x.ops.length:Nat)with
  |none=>false
  |some n=>if 2097152<all+n then false else turnsG dims r (all+n)
def opsCount(c:dR):Nat:=(c.D.map (·.ops.length)).sum
def deepGo:List cT->Int->Int
 |[],d=>d
 |x::r,d=>deepGo r (max d (mJ x.ops-6))
structure GnB (n:Nat) (s:GnS):Prop where
 l:s.l.length<=n
 m:s.R<=n
 x:s.next<=n
section
variable {n n' k : Nat} {s : GnS}
theorem GnB.le(h:GnB n s)(k:n<=n'):GnB n' s:=⟨C0 h.l k,C0 h.m k,C0 h.x k⟩
theorem gI{i:dU}{dst:Nat}(h:GnB n s):GnB (n+1) (gE i dst s):=⟨by have:=h.l;simp[gE];omega,by have:=h.m;show s.R<=_;omega,S6 _⟩
theorem oT(h:GnB n s):GnB (n+1) (markG s):=⟨by have:=h.l;show s.l.length<=_;omega,by have:=h.m;show s.R+1<=_;omega,by have:=h.x;show s.next<=_;omega⟩
theorem gb_next(h:GnB n s)(hk:k<=n):GnB n (bKp k s):=⟨h.l,h.m,hk⟩
theorem oN(h:GnB n s)(hk:k<=n+1):GnB (n+1) (hereG k s):=by
 unfold hereG;refine gb_next ?_ hk;split
 .exact gI h
 .exact h.le j5
theorem tO{dst:Nat}(h:GnB n s):GnB (n+1) (rZ dst s):=gI h
theorem bAv{a b:Int}{dst:Nat}(h:GnB n s):GnB (n+1) (bCc a b dst s):=gI h
theorem bLg{a b:Int}(h:GnB n s):GnB (n+1) (vX a b s):=gI h
theorem kK{a z:Int}(h:GnB n s):GnB (n+2) (numG a z s):=by
 unfold numG;split
 .exact(gI h).le j5
 .exact gI (gI h)
theorem jK{fr sp:Int}(h:GnB n s):GnB (n+1) (oL fr k sp s):=by
 unfold oL;split
 .exact h.le j5
 .exact gI h
def IntoB (I:Int->GnS->GnS):Prop:= ∀(a:Int) (n:Nat) (s:GnS),GnB n s->GnB (n+2) (I a s)
theorem rB{fr:Int}{I:Int->GnS->GnS}(hI:IntoB I)(h:GnB n s):GnB (n+3) (nC fr k I s):=by
 unfold nC;split
 .exact(hI _ _ _ h).le j5
 .exact gI (hI _ _ _ h)
theorem bBs{f:Nat}{a z:Int}(h:GnB n s):GnB (n+6) (oU f a z s):=by have:=h.m;exact oN (tO (bAv (kK (oT h)))) j5
theorem rY{z:Int}:IntoB λa=>numG a z:=λ_ _ _ h=>kK h
theorem bHf{z:Int}:IntoB λa=>vX a z:=λ_ _ _ h=>(bLg h).le j5
theorem qN{I:Int->dU}:IntoB λa=>gE (I a) 0:=λ_ _ _ h=>(gI h).le j5
theorem gb_op{M:GnM}{o:OpC}(h:GnB n s):GnB (n+12) (opG M o k s):=by
 unfold opG;split
 .exact(rB rY h).le j5
 .split
  .refine(rB (n:=n+1) rY ?_).le j5;split
   .exact h.le j5
   .exact tO h
  .split
   .exact(rB bHf h).le j5
   .split
    .exact(rB (n:=n+8) qN ((bBs (bAv (jK h))).le j5)).le j5
    .split
     .exact(rB qN (jK h)).le j5
     .split
      .exact(rB qN (jK (jK h))).le j5
      .exact h.le j5
theorem bCs{M:GnM}: ∀{l:List OpC} {n k:Nat} {s:GnS},GnB n s->GnB (n+12*l.length) (opsG M l k s)
 |[],_,_,_,h=>h
 |o::r,n,k,s,h=>(bCs (gb_op h)).le (by rw[G5];omega)
theorem bLi{f i:Int}(h:GnB n s):GnB (n+8) (foldG f i s):=by have:=h.m;exact(oN (bLg (oN (tO (gI (gI (oT (oT h))))) j5)) j5).le j5
theorem uD{i z:Int}{dst:Nat}(h:GnB n s):GnB (n+4) (againG i z dst s):=bAv (kK (gI h))
theorem sJ{M:GnM}{x:cT}{a:Int}(h:GnB n s):GnB (n+8) (storeG M x a s):=by
 unfold storeG;split
 .exact(tO h).le j5
 .exact gI (gI (bBs h))
theorem gb_zeros: ∀{m k n:Nat} {s:GnS},GnB n s->GnB (n+2*m) (zerosG m k s)
 |0,_,_,_,h=>h
 |m+1,k,n,s,h=>(gb_zeros (kK h)).le j5
theorem gb_ends{o:List Int}{t:Nat}: ∀{m n:Nat} {s:GnS},GnB n s->GnB (n+6*m) (endsG o t m s)
 |0,_,_,h=>h
 |m+1,n,s,h=>(gb_ends (kK (uD h))).le j5
theorem gb_body{M:GnM}{x:cT}{lo:List Int}(h:GnB n s):GnB (n+24+12*x.ops.length) (uG M x lo s):=by
 unfold uG;split
 .exact(sJ (bCs h)).le j5
 .split
  .exact(sJ (bLi (bCs h))).le j5
  .split
   .exact(sJ (kK h)).le j5
   .have h1:=oT (kK (a:=(lo.length:Nat)) (z:=0) h);exact(sJ (uD (bLi (bCs (oN h1 (by have:=h1.m;omega)))))).le j5
theorem gb_step{M:GnM}{x:cT}(hl:x.H.length<=4)(h:GnB n s):GnB (n+60+12*x.ops.length) (qJ M x s):=by
 unfold qJ;dsimp only;split
 .exact h.le j5
 .have h1:=oT (gb_zeros (m:=(zA x (x.H.map λp=>(bF p M.U).1)).length) (k:=0) (kK (a:=5) (z:=0) h))
  have ho:(zA x (x.H.map λp=>(bF p M.U).1)).length<=4:=by
   unfold zA;split
   .simp;omega
   .simp;omega
  exact(gb_ends (gb_body (oN h1 (by have:=h1.m;omega)))).le j5
end
theorem mQ(z:Int):IntKind.i32.wrap z=w32 z:=by unfold w32;simp only[M9,N1,N2];simp;omega
theorem uP(z:Int):IntKind.u8.wrap z=u8m z:=by unfold u8m;simp only[M9,N1,N2];simp
theorem w32_in(z:Int): -2147483648<=w32 z/\w32 z<2147483648:=by unfold w32;omega
theorem w32_u(z:Int):IntKind.i32.wrap (IntKind.u32.wrap (IntKind.u64.wrap z))=w32 z:=by unfold w32;simp only[M9,N1,N2];simp;omega
theorem gZ{z:Int}{k:Nat}(h:z=(k:Nat))(hk:k<256):IntKind.u8.wrap z=(k:Nat):=by subst h;rw[uP];unfold u8m;omega
section
variable {P : Program} {β : dY} {n : Nat} {Γ : Env} {H : List bD} {F : List bC} {o : Oper}
theorem sti_shr32{t tt:TypeId}{x y:Operand}{k k':IntKind}{a:Int}(ho:o.op= .binOp .shr t x y tt)(hx:Γ.ev x=some (.int k a))(hy:Γ.ev y=some (.int k' 32))(hk:32<=k.bits):Sti P β n Γ H F o (.int k (a.fdiv 4294967296)):=λc w S f s _=>by
 unfold execOp;simp only[ho,f.ev hx,f.ev hy];have e:min 32 k.bits=32:=j5
 simp[eqGuard,binOp,Op.shift,e]
end
theorem high_num(z:Int):IntKind.i32.wrap (z.fdiv 4294967296)=w32 (z/4294967296):=by rw[mQ,Int.fdiv_eq_ediv_of_nonneg _ j5]
def MkV.st(m:MkV)(a:Option Addr×Nat)(s:GnS):MkV:=⟨⟨a.1,a.2,s.l⟩,s.R,s.next,m.fail,m.frame,m.core,m.U,m.at_,m.size⟩
def mkO (mb:Nat)(x:MkV):bD:= .obj mb (.cells ([.slice x.l.O x.l.B.length x.l.cap,.int .i64 (x.R:Nat),.int .i64 (x.next:Nat),.int .i64 (x.fail:Nat),.int .i64 x.frame,.int .i64 x.core.vars,.slice x.core.C.O x.core.C.B.length x.core.C.cap,.slice x.core.D.O x.core.D.B.length x.core.D.cap,.slice x.core.Q.O x.core.Q.B.length x.core.Q.cap,.slice x.U.O x.U.B.length x.U.cap,.slice x.at_.O x.at_.B.length x.at_.cap,.slice x.size.O x.size.B.length x.size.cap]:List Value).toArray 85)
def mkS (x:MkV):bD:=pcE.row (.slice x.l.O x.l.B.length x.l.cap) 184 x.l.B
def MkV.M (m:MkV):GnM:=⟨m.fail,m.frame,m.U.B,m.at_.B,m.size.B⟩
section
variable {P : Program} {ops : Array Oper} {md : Region.Mode} {C : World -> Prop} {Q : Exit -> Act -> World -> Prop} {R : List PanicEntry -> World -> Prop}
def NmP (R:List PanicEntry->World->Prop)(K:Act->World->Prop):Exit->Act->World->Prop:=λe a w=>(e= .normal/\K a w)\/ ∃ch,e= .panic ch/\R ch w
theorem NmP.out{K:Act->World->Prop}(h:LetsOut (NmP R K)):False:=by
 obtain⟨_,_,h⟩:=h
 rcases h with ⟨h,_⟩|⟨_,h,_⟩<;>cases h
theorem NmP.nm{K:Act->World->Prop}{a:Act}{w:World}(h:NmP R K .normal a w):K a w:=by
 rcases h with h|⟨_,h,_⟩
 .exact h.2
 .cases h
end
theorem oA(z0:Int)(v1_0 v1_1 v1_2 v1_3 v1_4:Value)(z2:Int):prog.built 184 [(0,j3 z0),(1,.agg #[v1_0,v1_1,v1_2,v1_3,v1_4]),(2,j3 z2)]=some #[j3 z0,v1_0,v1_1,v1_2,v1_3,v1_4,j3 z2]:=j8
theorem qV(z0:Int):prog.built 52 [(0,j4 z0)]=some #[j4 z0,j4 0,j4 0,j4 0,.int .i32 0]:=j8
theorem pE(z0:Int)(z1:Int)(z2:Int):prog.built 52 [(0,j4 z0),(1,j4 z1),(2,j4 z2)]=some #[j4 z0,j4 z1,j4 z2,j4 0,.int .i32 0]:=j8
theorem iW(z0:Int)(z1:Int)(z4:Int):prog.built 52 [(0,j4 z0),(1,j4 z1),(4,.int .i32 z4)]=some #[j4 z0,j4 z1,j4 0,j4 0,.int .i32 z4]:=j8
theorem gH(mb:Nat)(m:MkV)(a:Option Addr×Nat)(s:GnS)(hB:GnB 1000000 s)(i:dU)(dst:Nat):cJ prog 28 [.pointer (some ⟨mb,0,none⟩),.agg #[j4 i.op,j4 i.a,j4 i.b,j4 i.c,.int .i32 i.zd],j3 (dst:Nat)] [mkO mb (m.st a s),mkS (m.st a s)] [] (λ(_:Option Addr×Nat)=> .tuple #[]) (λ(x:Option Addr×Nat)=>[mkO mb (m.st x (gE i dst s)),mkS (m.st x (gE i dst s))]) (λ_=>[]):=by
 have hT:=dL;have g:=hB.l;have f:=hB.m;have e:=hB.x;refine j1 func28 ntmps28 ?_;intro β hM;refine g2 ?_;refine j0 λr=>?_;refine g3 ?_;refine at_mixT _ _ (.fl 0 (.fl 1 (.fl 2 (.fl 3 (.fl 5 (.fl 6 (.fl 7 (.fl 9 (.fl 10 (.two 4 8 (.op 8 (.fl 11 (.op 12 (.op 13 (.fl 14 (.fl 15 (.op 16 .nil))))))) (.fl 11 (.two 4 12 (.op 12 (.op 13 (.fl 14 (.fl 15 (.op 16 .nil))))) (.op 4 (.op 13 (.fl 14 (.fl 15 (.op 16 .nil))))))))))))))))) dJ k7 (.c0 .nil) bA.self ?_;refine g9 ?_;refine vF (o:=_) (o':=_) rfl rfl ?_ ?_
 .refine g5 ?_;refine sqT rfl (bY rfl rfl (oA _ _ _ _ _ _ _)) ?_;refine one ?_;refine bHm (m:=(⟨(s.next:Nat),i,(dst:Nat)⟩:PcV)) rfl rfl rfl rfl rfl λq=>?_;refine g2 ?_;refine bIv kT3 (fD .head rfl) rfl rfl rfl rfl rfl rfl rfl aa2 λk c4=>?_;refine g14 ?_;exact dE (k,c4) rfl (.c0 (.c0 .nil)) e9 rfl
 refine g2 ?_;refine sqT rfl (bY rfl rfl (oA _ _ _ _ _ _ _)) ?_;refine vF (o:=_) (o':=_) rfl rfl ?_ ?_
 .refine g3 ?_;refine bHm (m:=(⟨(s.next:Nat),i,(dst:Nat)⟩:PcV)) rfl rfl rfl rfl rfl λp=>?_;refine g2 ?_;refine bIv kT3 (fD .head rfl) rfl rfl rfl rfl rfl rfl rfl aa2 λj c7=>?_;refine g14 ?_;exact dE (j,c7) rfl (.c0 (.c0 .nil)) e9 rfl
 refine bHm (m:=(⟨(s.next:Nat),i,(dst:Nat)⟩:PcV)) rfl rfl rfl rfl rfl λn=>?_;refine g5 ?_;refine bIv kT3 (fD .head rfl) rfl rfl rfl rfl rfl rfl rfl aa2 λh d=>?_;refine g14 ?_;exact dE (h,d) rfl (.c0 (.c0 .nil)) e9 rfl
theorem qX(mb:Nat)(m:MkV)(a:Option Addr×Nat)(s:GnS)(hB:GnB 1000000 s):cJ prog 25 [.pointer (some ⟨mb,0,none⟩)] [mkO mb (m.st a s),mkS (m.st a s)] [] (λ(_:Option Addr×Nat)=> j3 ((s.R+1:Nat):Int)) (λ(x:Option Addr×Nat)=>[mkO mb (m.st x (markG s)),mkS (m.st x (markG s))]) (λ_=>[]):=by have hT:=dL;have d:=hB.l;have c:=hB.m;have b:=hB.x;refine j1 func25 ntmps25 ?_;intro β hM;refine g11 ?_;refine bM (z':=((s.R:Nat):Int)) rfl ?_;refine one ?_;refine inc (s.R+1) ?_;refine g11 ?_;refine bM (z':=((s.R+1:Nat):Int)) rfl ?_;refine g4 ?_;exact rs1 a trivial
theorem rI(mb:Nat)(m:MkV)(a:Option Addr×Nat)(s:GnS)(hB:GnB 999900 s)(k:Nat):cJ prog 29 [.pointer (some ⟨mb,0,none⟩),j3 (k:Nat)] [mkO mb (m.st a s),mkS (m.st a s)] [] (λ(_:Option Addr×Nat)=> .tuple #[]) (λ(x:Option Addr×Nat)=>[mkO mb (m.st x (hereG k s)),mkS (m.st x (hereG k s))]) (λ_=>[]):=by
 have hT:=dL;have g:=hB.l;have f:=hB.m;have e:=hB.x;refine j1 func29 ntmps29 ?_;intro β hM;refine g10 ?_;refine dO (λb=>?_) λb=>?_
 .refine g2 ?_;refine ss (bY rfl rfl (qV _)) ?_;refine bL func28 (gH mb m a _ (hB.le j5) (⟨4,0,0,0,0⟩:dU) 0) rfl rfl (.c0 (.c0 .nil)) e9 λd=>?_;have j:=gI (i:=(⟨4,0,0,0,0⟩:dU)) (dst:=0) hB;refine g9 ?_;have c:hereG k s=bKp k (gE (⟨4,0,0,0,0⟩:dU) 0 (s)):=by unfold hereG;rw[if_pos (by have h:=b;change (0:Int)<(s.next:Nat)at h;omega)]
  rw[show(λx:Option Addr×Nat=>[mkO mb (m.st x (hereG k s)),mkS (m.st x (hereG k s))])=λx=>[mkO mb (m.st x (bKp k (gE (⟨4,0,0,0,0⟩:dU) 0 (s)))),mkS (m.st x (bKp k (gE (⟨4,0,0,0,0⟩:dU) 0 (s))))] by rw[c]];exact dE d rfl (.c0 (.c0 .nil)) e9 rfl
 refine g9 ?_;have c:hereG k s=bKp k (s):=by unfold hereG;rw[if_neg (by have h:=b;change ((s.next:Nat):Int)<=0 at h;omega)]
 rw[show(λx:Option Addr×Nat=>[mkO mb (m.st x (hereG k s)),mkS (m.st x (hereG k s))])=λx=>[mkO mb (m.st x (bKp k (s))),mkS (m.st x (bKp k (s)))] by rw[c]];exact dE a rfl (.c0 (.c0 .nil)) e9 rfl
theorem wB(mb:Nat)(m:MkV)(a:Option Addr×Nat)(s:GnS)(hB:GnB 999900 s)(dst:Nat):cJ prog 132 [.pointer (some ⟨mb,0,none⟩),j3 (dst:Nat)] [mkO mb (m.st a s),mkS (m.st a s)] [] (λ(_:Option Addr×Nat)=> .tuple #[]) (λ(x:Option Addr×Nat)=>[mkO mb (m.st x (rZ dst s)),mkS (m.st x (rZ dst s))]) (λ_=>[]):=by have hT:=dL;refine j1 func132 ntmps132 ?_;intro β hM;refine g2 ?_;refine ss (bY rfl rfl (qV _)) ?_;refine one ?_;refine bL func28 (gH mb m a _ (hB.le j5) (⟨7,0,0,0,0⟩:dU) dst) rfl rfl (.c0 (.c0 .nil)) e9 λb=>?_;have c:=gI (i:=(⟨7,0,0,0,0⟩:dU)) (dst:=dst) hB;refine jL ?_;exact dE b rfl (.c0 (.c0 .nil)) e9 rfl
theorem bIi(mb:Nat)(m:MkV)(a:Option Addr×Nat)(s:GnS)(hB:GnB 999900 s)(p q:Int)(dst:Nat):cJ prog 137 [.pointer (some ⟨mb,0,none⟩),j4 p,j4 q,j3 (dst:Nat)] [mkO mb (m.st a s),mkS (m.st a s)] [] (λ(_:Option Addr×Nat)=> .tuple #[]) (λ(x:Option Addr×Nat)=>[mkO mb (m.st x (bCc p q dst s)),mkS (m.st x (bCc p q dst s))]) (λ_=>[]):=by have hT:=dL;refine j1 func137 ntmps137 ?_;intro β hM;refine g4 ?_;refine ss (bY rfl rfl (pE _ _ _)) ?_;refine one ?_;refine bL func28 (gH mb m a _ (hB.le j5) (⟨8,p,q,0,0⟩:dU) dst) rfl rfl (.c0 (.c0 .nil)) e9 λb=>?_;have c:=gI (i:=(⟨8,p,q,0,0⟩:dU)) (dst:=dst) hB;refine jL ?_;exact dE b rfl (.c0 (.c0 .nil)) e9 rfl
theorem bMn(mb:Nat)(m:MkV)(a:Option Addr×Nat)(s:GnS)(hB:GnB 999900 s)(p q:Int):cJ prog 135 [.pointer (some ⟨mb,0,none⟩),j4 p,j4 q] [mkO mb (m.st a s),mkS (m.st a s)] [] (λ(_:Option Addr×Nat)=> .tuple #[]) (λ(x:Option Addr×Nat)=>[mkO mb (m.st x (vX p q s)),mkS (m.st x (vX p q s))]) (λ_=>[]):=by have hT:=dL;refine j1 func135 ntmps135 ?_;intro β hM;refine g4 ?_;refine ss (bY rfl rfl (pE _ _ _)) ?_;refine bL func28 (gH mb m a _ (hB.le j5) (⟨4,p,q,0,0⟩:dU) 0) rfl rfl (.c0 (.c0 .nil)) e9 λb=>?_;have c:=gI (i:=(⟨4,p,q,0,0⟩:dU)) (dst:=0) hB;refine jL ?_;exact dE b rfl (.c0 (.c0 .nil)) e9 rfl
theorem gO(mb:Nat)(m:MkV)(a:Option Addr×Nat)(s:GnS)(hB:GnB 999900 s)(p z:Int):cJ prog 68 [.pointer (some ⟨mb,0,none⟩),j4 p,j3 z] [mkO mb (m.st a s),mkS (m.st a s)] [] (λ(_:Option Addr×Nat)=> .tuple #[]) (λ(x:Option Addr×Nat)=>[mkO mb (m.st x (numG p z s)),mkS (m.st x (numG p z s))]) (λ_=>[]):=by
 have hT:=dL;have j:=w32_in z;refine j1 func68 ntmps68 ?_;intro β hM;refine g5 ?_;refine bM (z':=w32 z) (mQ _) ?_;refine one ?_;refine bM (z':=w32 z) (jO j5 j5) ?_;refine g4 ?_;refine jU (λb=>?_) λb=>?_
 .refine g6 ?_;refine bM (z':=w32 z) (mQ _) ?_;refine ss (bY rfl rfl (iW _ _ _)) ?_;refine bL func28 (gH mb m a _ (hB.le j5) (⟨2,p,0,0,w32 z⟩:dU) 0) rfl rfl (.c0 (.c0 .nil)) e9 λf=>?_;have h:=gI (i:=(⟨2,p,0,0,w32 z⟩:dU)) (dst:=0) hB;refine g4 ?_;rw[show numG p z s=gE (⟨2,p,0,0,w32 z⟩:dU) 0 (s) by unfold numG;rw[if_pos j5]];exact dE f rfl (.c0 (.c0 .nil)) e9 rfl
 refine g7 ?_;refine ss (sti_shr32 rfl rfl rfl l4) ?_;refine one ?_;refine bM (z':=w32 (z/4294967296)) (high_num _) ?_;refine ss (bY rfl rfl (iW _ _ _)) ?_;refine bL func28 (gH mb m a _ (hB.le j5) (⟨2,p,0,0,w32 (z/4294967296)⟩:dU) 0) rfl rfl (.c0 (.c0 .nil)) e9 λe=>?_;have c:=gI (i:=(⟨2,p,0,0,w32 (z/4294967296)⟩:dU)) (dst:=0) hB;refine g9 ?_;refine bM (z':=w32 z) (w32_u _) ?_;refine ss (bY rfl rfl (iW _ _ _)) ?_;refine bL func28 (gH mb m e _ (c.le j5) (⟨3,p,0,0,w32 z⟩:dU) 0) rfl rfl (.c0 (.c0 .nil)) e9 λd=>?_;have g:=gI (i:=(⟨3,p,0,0,w32 z⟩:dU)) (dst:=0) c;refine jL ?_;rw[show numG p z s=gE (⟨3,p,0,0,w32 z⟩:dU) 0 (gE (⟨2,p,0,0,w32 (z/4294967296)⟩:dU) 0 (s)) by unfold numG;rw[if_neg j5]];exact dE d rfl (.c0 (.c0 .nil)) e9 rfl
theorem iJ(mb:Nat)(m:MkV)(a:Option Addr×Nat)(s:GnS)(hB:GnB 999900 s)(k:Nat)(hk:k<=1000000)(sp:Int):cJ prog 136 [.pointer (some ⟨mb,0,none⟩),j3 (k:Nat),j4 sp] [mkO mb (m.st a s),mkS (m.st a s)] [] (λ(_:Option Addr×Nat)=> j4 (iI k sp)) (λ(x:Option Addr×Nat)=>[mkO mb (m.st x (oL m.frame k sp s)),mkS (m.st x (oL m.frame k sp s))]) (λ_=>[]):=by
 have hT:=dL;refine j1 func136 ntmps136 ?_;intro β hM;refine g12 ?_;refine dO (λb=>?_) λb=>?_
 .refine g4 ?_;refine inc (8+k) ?_;refine one ?_;refine bM (z':=((8+k:Nat):Int)) (gZ j5 j5) ?_;refine g5 ?_;have d:oL m.frame k sp s=s:=by unfold oL;exact if_pos j5
  have c:iI k sp=((8+k:Nat):Int):=by unfold iI;exact if_pos j5
  rw[d,c];exact rs1 a trivial
 refine g11 ?_;refine bM (z':=w32 m.frame) (mQ _) ?_;refine g2 ?_;refine bM (z':=(k:Int)-6) (jO j5 j5) ?_;refine one ?_;refine bM (z':=w32 ((k:Int)-6)) (mQ _) ?_;refine one ?_;refine bM (z':=bCq m.frame k) (mQ _) ?_;refine ss (bY rfl rfl (iW _ _ _)) ?_;refine bL func28 (gH mb m a _ (hB.le j5) (⟨5,sp,0,0,bCq m.frame k⟩:dU) 0) rfl rfl (.c0 (.c0 .nil)) e9 λe=>?_;have f:=gI (i:=(⟨5,sp,0,0,bCq m.frame k⟩:dU)) (dst:=0) hB;refine g9 ?_;have d:oL m.frame k sp s=gE (⟨5,sp,0,0,bCq m.frame k⟩:dU) 0 (s):=by unfold oL;exact if_neg j5
 have c:iI k sp=sp:=by unfold iI;exact if_neg j5
 rw[d,c];exact rs1 e trivial
section
variable {P : Program} {β : dY} {n : Nat} {Γ : Env} {H : List bD} {F : List bC} {Q : Exit -> Act -> World -> Prop}
theorem run_inv{o:Oper}{f:FuncId}{r:Operand}{name:String}{ars:Array Operand}{ts:Array TypeId}{us:List Value}{t:TypeId}{v q:Value}{a:Act}{w:World}(hcf: ∀(args:Array Value) (w:World),(callFunc f args).run P w= .ok (.enter f args) w)(ho:o.op= .call ⟨.invoke r name,ars,ts⟩)(fi:Fits n Γ a)
  (hr:Γ.ev r=some (.iface t v)) (hm:(method (P.types.size+Made.depth) t v name).run P w= .ok (f,q) w) (hv:Γ.evs ars.toList=some us):(execOp a.eval o).run P w= .ok (.enter f (q::us).toArray) w:=by
 have c:ars.map a.eval=us.toArray:=by
  apply E2
  simpa using fi.evs hv
 have b:a.eval r= .iface t v:=fi.ev hr
 have g:(#[a.eval r]++ars.map a.eval)[0]?=some (.iface t v):=by rw[Array.getElem?_append_left m9,b];rfl
 have e:(#[a.eval r]++ars.map a.eval).extract 1 (#[a.eval r]++ars.map a.eval).size=us.toArray:=by rw[c];apply E2;simp only[Q4,aU];simp[Y2]
 have d:(program:Sem Program).run P w= .ok P w:=rfl;unfold execOp;simp only[ho,resolve,J0,J1,J6,invoke,g,e,callMethod,d,hm];have:=hcf (q::us).toArray w
 simpa using this
theorem iM{ι:Type}{ops:Array Oper}{rest:List Oper}{o:Oper}{d:Nat}{f:FuncId}{r:Operand}{name:String}{ars:Array Operand}{ts:Array TypeId}{us:List Value}{t:TypeId}{v q:Value}{Hin H2:List bD}{Pre:List bC}{val:ι->Value}{Hout:ι->List bD}{post:ι->List bC}
  (hcf: ∀(args:Array Value) (w:World),(callFunc f args).run P w= .ok (.enter f args) w) (hs:cJ P f (q::us) Hin Pre val Hout post) (hw:want ops Γ o=some true) (ho:o.op= .call ⟨.invoke r name,ars,ts⟩) (hd:o.dst=some d) (hn:C2 d n=true)
  (hr:Γ.ev r=some (.iface t v)) (hm: ∀w S,St β H S w->All F S w->(method (P.types.size+Made.depth) t v name).run P w= .ok (f,q) w)
  (hv:Γ.evs ars.toList=some us) (hH:Split H Hin H2) (hF:bA F Pre) (k: ∀x,At β n ((d,val x)::Γ) (Hout x++H2) (post x++F) (wpList P ops Q rest)):At β n Γ H F (wpList P ops Q (o::rest)):=
 gR hw λa w S i s c=>by unfold L2;rw[run_inv hcf ho i hr (hm w S s c) hv,L5];have b:=s.perm hH.perm;refine(hs S w b.enter (hF.all S w c)).mono ?_;rintro e j ⟨x,m,rfl,g,l⟩;show wpList P ops Q rest (a.put o.dst (val x)) j;rw[hd];exact k x _ _ _ (i.put m8 _) (b.leave g) ((All.mono (λ_ h=> .inr h) (λ_ _=>rfl) l).append (All.leave b g c))
theorem zI{o:Oper}{t:TypeId}{x:Operand}{v:Value}{d:TypeDesc}(ho:o.op= .makeInterface t x)(hd:P.underlying t=some d)(hne: ∀ms,d≠ .interface ms)(hx:Γ.ev x=some v):Sti P β n Γ H F o (.iface t v):=λa w S f s k=>by unfold execOp;simp only[ho,f.ev hx];unfold Instr.makeInterface;rw[J0,J0,run_underlying hd,J6];cases d<;>first|exact absurd rfl (hne _)|rfl
theorem bDz{o:Oper}{t st:TypeId}{x:Operand}{v:Value}{d:TypeDesc}(ho:o.op= .typeAssert x st t false)(hd:P.underlying t=some d)(hne: ∀ms,d≠ .interface ms)(hx:Γ.ev x=some (.iface t v)):Sti P β n Γ H F o v:=λa w S f s k=>by unfold execOp;simp only[ho,f.ev hx];unfold Instr.typeAssert;rw[J0,J0,run_underlying hd,J6];cases d<;>first|exact absurd rfl (hne _)|simp
end
def EndsF {ι:Type}(HP:List bD)(β:dY)(p:ι->Option Value)(val:ι->Value)(Hout:ι->List bD)(post:ι->List bC)(e:Ending)(w':World):Prop:=
 ∃x S',(p x=none/\e= .returned (val x)/\St β (Hout x) S' w'/\All (post x) S' w')\/(∃u,p x=some u/\e= .panicked (raise u)/\St β HP S' w')
def SpecF {ι:Type}(HP:List bD)(P:Program)(f:FuncId)(args:List Value)(Hin:List bD)(Pre:List bC)(p:ι->Option Value)(val:ι->Value)(Hout:ι->List bD)(post:ι->List bC):Prop:=
 ∀S w,St ⟨w,mR Hin,S⟩ Hin S w->All Pre S w->Calls P f args.toArray w (EndsF HP ⟨w,mR Hin,S⟩ p val Hout post)
theorem rS{ι:Type}{HP:List bD}{P:Program}{f:FuncId}{args:List Value}{Hin:List bD}{Pre:List bC}{p:ι->Option Value}{val:ι->Value}{Hout:ι->List bD}{post:ι->List bC}(hp: ∀x,p x=none)(h:SpecF HP P f args Hin Pre p val Hout post):cJ P f args Hin Pre val Hout post:=λS w s k=>
 (h S w s k).mono λ_ _ ⟨x,c,q⟩=>by
  rcases q with ⟨_,he,a,b⟩|⟨u,hu,_⟩
  .exact⟨x,c,he,a,b⟩
  .rw[hp]at hu;cases hu
section
variable {P : Program} {β : dY} {n : Nat} {Γ : Env} {H HP : List bD} {F : List bC} {Q : Exit -> Act -> World -> Prop}
theorem at_callF{ι:Type}{ops:Array Oper}{rest:List Oper}{o:Oper}{d:Nat}{f:FuncId}{ars:Array Operand}{ts:Array TypeId}{vs:List Value}{Hin H2:List bD}{Pre:List bC}{p:ι->Option Value}{val:ι->Value}{Hout:ι->List bD}{post:ι->List bC}
  (hcf: ∀(args:Array Value) (w:World),(callFunc f args).run P w= .ok (.enter f args) w) (hs:SpecF HP P f vs Hin Pre p val Hout post) (hw:want ops Γ o=some true) (ho:o.op= .call ⟨.value (.func f),ars,ts⟩) (hd:o.dst=some d) (hn:C2 d n=true)
  (hv:Γ.evs ars.toList=some vs) (hH:Split H Hin H2) (hF:bA F Pre) (kp: ∀x u,p x=some u->At β n Γ (HP++H2) F (Q (.panic (raise u)))) (kr: ∀x,p x=none->At β n ((d,val x)::Γ) (Hout x++H2) (post x++F) (wpList P ops Q rest)):
  At β n Γ H F (wpList P ops Q (o::rest)):=
 gR hw λa w S f s g=>by
  unfold L2;rw[bOu hcf ho f hv w,L5];have b:=s.perm hH.perm;refine(hs S w b.enter (hF.all S w g)).mono ?_;rintro e i ⟨x,k,q⟩
  rcases q with ⟨hx,rfl,c,j⟩|⟨u,hx,rfl,c⟩
  .show wpList P ops Q rest (a.put o.dst (val x)) i;rw[hd];exact kr x hx _ _ _ (f.put m8 _) (b.leave c) ((All.mono (λ_ h=> .inr h) (λ_ _=>rfl) j).append (All.leave b c g))
  .exact kp x u hx a i _ f (b.leave (Hout:=HP) c) (All.leave (Hout:=HP) b c g)
theorem specF_of{ι:Type}{f:FuncId}{fn:Func}{c:Code}{args:List Value}{Hin:List bD}{Pre:List bC}{p:ι->Option Value}{val:ι->Value}{Hout:ι->List bD}{post:ι->List bC}(hf:P.funcs[f]?=some fn)(hb:fn.body=some c)(hn:fn.ntmps=n)
  (hl:Nat.ble args.length n=true) (h: ∀β,β.M=mR Hin->At β n (bCj 0 args) Hin Pre (c.wp P (bodyPost P fn (EndsF HP β p val Hout post)))):SpecF HP P f args Hin Pre p val Hout post:=λS w s k=>by
 refine calls_of_wp hf hb (h ⟨w,mR Hin,S⟩ rfl _ w S ⟨rfl,?_,λi v a=>?_⟩ s k)
 .have:=C8 hl;simp;omega
 .obtain⟨_,h2⟩:=tU 0 args i v a;simp only[aN]at h2;have hlt:i<args.length:=(G3.1 h2).1;simp only[aT];rw[if_pos r8]
  simpa using h2
section
variable {ι : Type} {fn : Func} {p : ι -> Option Value} {val : ι -> Value} {Hout : ι -> List bD} {post : ι -> List bC} {r1 : ResultVar} {v1 u : Value}
theorem at_resPF(x:ι)(hH:Sel H HP)(he:p x=some u):At β n Γ H F (bodyPost P fn (EndsF HP β p val Hout post) (.panic (raise u))):=λ_ _ S f s _=>
 ⟨f.defers,x,S,.inr ⟨u,he,rfl,s.sel hH⟩⟩
theorem at_resF1(x:ι)(hr:fn.results= #[r1])(h1:RV P β n Γ H F r1 v1)(hH:Sel H (Hout x))(hF:bA F (post x))(hp:p x=none)(he:v1=val x):At β n Γ H F (bodyPost P fn (EndsF HP β p val Hout post) .ret):=λa w S f s k=>by refine⟨f.defers,v1,?_,x,S,.inl ⟨hp,by rw[he],s.sel hH,hF.all S w k⟩⟩;rw[oX,hr];simp[h1 a w S f s k]
end
end
section
variable {P : Program} {β : dY} {n : Nat} {Γ : Env} {H : List bD} {F : List bC} {o : Oper} {x : Operand} {t tt u : TypeId} {v : Value}
theorem sti_nifnil{ms:Array (String×TypeId)}(ht:P.underlying t=some (.interface ms))(ho:o.op= .binOp .neq t x (.const .nilIface) tt)(hx:Γ.ev x=some .nilIface):Sti P β n Γ H F o (.bool false):=λc w S f s k=>by
 have h2: ∀d,(Op.equalIn (d+1) t .nilIface .nilIface).run P w= .ok true w:=λd=>by simp[Op.equalIn,run_underlying ht]
 have h3:(Op.equal t .nilIface .nilIface).run P w= .ok true w:=h2 9999;unfold execOp;have e:c.eval (.const .nilIface)= .nilIface:=rfl;simp only[ho,f.ev hx,e]
 have hb:(binOp .neq t .nilIface .nilIface).run P w= .ok (.bool false) w:=by simp only[binOp];rw[J0,h3];rfl
 rw[J0,J0]
 have hg:(eqGuard .neq t x (.const .nilIface) .nilIface .nilIface).run P w= .ok () w:=by unfold eqGuard;simp
 rw[hg,J6,hb];rfl
theorem sti_nifsome{ms:Array (String×TypeId)}(ht:P.underlying t=some (.interface ms))(ho:o.op= .binOp .neq t x (.const .nilIface) tt)(hx:Γ.ev x=some (.iface u v)):Sti P β n Γ H F o (.bool true):=λc w S f s k=>by
 have h1: ∀d,(Op.equalIn (d+1) t (.iface u v) .nilIface).run P w= .ok false w:=λd=>by simp[Op.equalIn,run_underlying ht]
 have h3:(Op.equal t (.iface u v) .nilIface).run P w= .ok false w:=h1 9999;unfold execOp;have e:c.eval (.const .nilIface)= .nilIface:=rfl;simp only[ho,f.ev hx,e]
 have hb:(binOp .neq t (.iface u v) .nilIface).run P w= .ok (.bool true) w:=by simp only[binOp];rw[J0,h3];rfl
 rw[J0,J0];have hg:(eqGuard .neq t x (.const .nilIface) (.iface u v) .nilIface).run P w= .ok () w:=rfl;rw[hg,J6,hb];rfl
end
section
variable {P : Program} {β : dY} {n : Nat} {Γ : Env} {H : List bD} {F : List bC} {ι : Type} {fn : Func} {Hout : ι -> List bD} {post : ι -> List bC}
theorem at_offD(x:ι)(hr:fn.results= #[])(hH:Sel H (Hout x))(hF:bA F (post x)):At β n Γ H F (bodyPost P fn (EndD β Hout post) .normal):=λa w S f s k=>by refine⟨f.defers,.tuple #[],?_,⟨_,rfl⟩,x,S,s.sel hH,hF.all S w k⟩;rw[oX,hr];simp
end
theorem built_none:prog.built 259 []=some #[]:=j8
def noneV:Value:= .iface 259 (.agg #[])
def zF (ds:List Int)(p:List Mono):Option Value:=if (bF p ds).2=0 then none else some noneV
theorem pn_no{ds:List Int}{p:List Mono}(h:zF ds p=none):(bF p ds).2=0:=by
 unfold zF at h;split at h
 .assumption
 .cases h
theorem pn_yes{ds:List Int}{p:List Mono}{u:Value}(h:zF ds p=some u):(bF p ds).2≠0/\u=noneV:=by
 unfold zF at h;split at h
 .cases h
 .rename_i hn;cases h;exact⟨hn,rfl⟩
def cI (b:Nat)(z:Int):bD:= .obj b (.cells ([.int .i64 z]:List Value).toArray 2)
def cB (b:Nat)(t:Bool):bD:= .obj b (.cells ([.bool t]:List Value).toArray 4)
theorem zero_i64:(prog.info? 2).bind (·.zero)=some (j3 0):=j8
theorem zero_bo:(prog.info? 4).bind (·.zero)=some (.bool false):=j8
theorem uO(mb:Nat)(m:MkV)(a:Option Addr×Nat)(s:GnS)(hB:GnB 999800 s)(k:Nat)(hk:k<=1000000)(f:FuncId)(cap:List Value)(G:List bC)(I:Int->GnS->GnS)(hI:IntoB I)(hcf: ∀(args:Array Value) (w:World),(callFunc f args).run prog w= .ok (.enter f args) w)(hf: ∀(r:Int) (a:Option Addr×Nat) (s:GnS),GnB 999900 s->cJ prog f (j4 r::cap) [mkO mb (m.st a s),mkS (m.st a s)] G (λ_:Option Addr×Nat=> .tuple #[]) (λx=>[mkO mb (m.st x (I r s)),mkS (m.st x (I r s))]) (λ_=>[])):cJ prog 129 [.pointer (some ⟨mb,0,none⟩),j3 (k:Nat),.func (.func f) #[] cap.toArray] [mkO mb (m.st a s),mkS (m.st a s)] (G) (λ(_:Option Addr×Nat)=> .tuple #[]) (λ(x:Option Addr×Nat)=>[mkO mb (m.st x (nC m.frame k I s)),mkS (m.st x (nC m.frame k I s))]) (λ_=>[]):=by
 have hT:=dL;refine j1 func129 ntmps129 ?_;intro β hM;refine g7 ?_;refine dO (λc=>?_) λc=>?_
 .refine g5 ?_;refine inc (8+k) ?_;refine one ?_;refine bM (z':=((8+k:Nat):Int)) (gZ j5 j5) ?_;refine nF hcf (hf ((8+k:Nat):Int) a s (hB.le j5)) rfl rfl rfl rfl rfl rfl rfl (.c0 (.c0 .nil)) (bA.drop 0) λg=>?_;have j:=hI ((8+k:Nat):Int) _ _ hB;refine g4 ?_;rw[show nC m.frame k I s=I ((8+k:Nat):Int) s by unfold nC;exact if_pos j5];exact dE g rfl (.c0 (.c0 .nil)) e9 rfl
 refine g5 ?_;refine nF hcf (hf 14 a s (hB.le j5)) rfl rfl rfl rfl rfl rfl rfl (.c0 (.c0 .nil)) (bA.drop 0) λe=>?_;have b:=hI 14 _ _ hB;refine g9 ?_;refine bM (z':=w32 m.frame) (mQ _) ?_;refine g2 ?_;refine bM (z':=(k:Int)-6) (jO j5 j5) ?_;refine one ?_;refine bM (z':=w32 ((k:Int)-6)) (mQ _) ?_;refine one ?_;refine bM (z':=bCq m.frame k) (mQ _) ?_;refine ss (bY rfl rfl (iW _ _ _)) ?_;refine bL func28 (gH mb m e _ (b.le j5) (⟨6,14,0,0,bCq m.frame k⟩:dU) 0) rfl rfl (.c0 (.c0 .nil)) e9 λd=>?_;have h:=gI (i:=(⟨6,14,0,0,bCq m.frame k⟩:dU)) (dst:=0) b;refine jL ?_;rw[show nC m.frame k I s=gE (⟨6,14,0,0,bCq m.frame k⟩:dU) 0 (I 14 s) by unfold nC;exact if_neg j5];exact dE d rfl (.c0 (.c0 .nil)) e9 rfl
theorem bJx(mb:Nat)(m:MkV)(a:Option Addr×Nat)(s:GnS)(hB:GnB 999800 s)(p z:Int):cJ prog 138 [.pointer (some ⟨mb,0,none⟩),j4 p,j3 z] [mkO mb (m.st a s),mkS (m.st a s)] [] (λ(_:Option Addr×Nat)=> .tuple #[]) (λ(x:Option Addr×Nat)=>[mkO mb (m.st x (oU m.fail p z s)),mkS (m.st x (oU m.fail p z s))]) (λ_=>[]):=by have hT:=dL;have t:=hB.l;have r:=hB.m;have q:=hB.x;refine j1 func138 ntmps138 ?_;intro β hM;refine g3 ?_;refine bL func25 (qX mb m a _ (hB.le j5)) rfl rfl (.c0 (.c0 .nil)) e9 λo=>?_;have f:=oT hB;refine g7 ?_;refine bL func68 (gO mb m o _ (f.le j5) (6) (z)) rfl rfl (.c0 (.c0 .nil)) e9 λn=>?_;have e:=kK (a:=6) (z:=z) f;refine g7 ?_;refine bL func137 (bIi mb m n _ (e.le j5) (p) (6) (((markG (s)).R))) rfl rfl (.c0 (.c0 .nil)) e9 λj=>?_;have d:=bAv (a:=p) (b:=6) (dst:=((markG (s)).R)) e;refine g9 ?_;refine bL func132 (wB mb m j _ (d.le j5) (m.fail)) rfl rfl (.c0 (.c0 .nil)) e9 λi=>?_;have c:=tO (dst:=m.fail) d;refine g5 ?_;refine bL func29 (rI mb m i _ (c.le j5) (((markG (s)).R))) rfl rfl (.c0 (.c0 .nil)) e9 λh=>?_;have g:=oN (k:=((markG (s)).R)) c (by simp only[markG];omega);refine jL ?_;exact dE h rfl (.c0 (.c0 .nil)) e9 rfl
theorem sD(mb:Nat)(m:MkV)(a:Option Addr×Nat)(s:GnS)(p:PolV)(hdl:m.U.B.length<=140737488355328):SpecF [mkO mb (m.st a s)] prog 65 [.pointer (some ⟨mb,0,none⟩),f9 p] [mkO mb (m.st a s)] [cR p,dA.sl (f9 m.U) m.U.B] (λ(_:Unit)=>zF m.U.B p.B) (λ(_:Unit)=> j3 (bF p.B m.U.B).1) (λ(_:Unit)=>[mkO mb (m.st a s)]) (λ_=>[]):=by
 have hT:=dL;refine specF_of func65 rfl ntmps65 rfl ?_;intro β hM;refine cH<|bX<|jI rfl rfl rfl (gD hT rfl) ?_;refine jL<|cZ<|cH<|bX<|jI rfl rfl rfl (gD hT rfl) ?_;refine jI rfl rfl rfl (gD hT rfl) ?_;refine jI rfl rfl rfl (gD hT rfl) ?_;refine jI rfl rfl rfl (gD hT rfl) ?_;refine jI rfl rfl rfl (f7 hT (bU (off:=9) .head)) ?_;refine bG (dI (Has.of (.head _))) λc=>?_;refine bL func15 (bDk p m.U.O m.U.cap m.U.B c hdl) rfl rfl .nil ⟨(Has.of (.head _)),(Has.of (.tail _ (.head _))),e9⟩ λ_=>?_;refine jI rfl rfl rfl (gD hT rfl) ?_;refine jI rfl rfl rfl (gD hT rfl) ?_;refine jI rfl rfl rfl (gD hT rfl) ?_;refine jI rfl rfl rfl (gD hT rfl) ?_;refine jI rfl rfl rfl (gD hT rfl) ?_;refine jL<|cZ<|cH<|cH<|bX<|jI rfl rfl rfl (gD hT rfl) ?_;refine jI rfl rfl rfl (gD hT rfl) ?_;refine jL<|cZ<|cD rfl (λb=>?_) (λb=>?_)
 .have b:=bne_iff_ne.1 b;refine bX<|jI rfl rfl rfl (bY rfl rfl (built_none)) ?_;refine jI rfl rfl rfl (zI rfl underlying259 (λ_ e=>by cases e) rfl) ?_;refine at_panic rfl rfl rfl ?_;refine p_then ?_;exact at_resPF () (.c0 .nil) (by unfold zF;rw[if_neg b];rfl)
 .have b:=bne_eq_false_iff_eq.1 b;refine dS<|cZ<|cH<|bX<|jI rfl rfl rfl (gD hT rfl) ?_;refine jI rfl rfl rfl (gD hT rfl) ?_;refine jL<|cZ<|lX ?_;exact at_resF1 () rfl (rv_tmp rfl) (.c0 .nil) e9 (by unfold zF;rw[if_pos b]) (rfl)
theorem known1N_spec(ob eb:Nat)(z:Int)(t:Bool):bTw prog 204 [.pointer (some ⟨ob,0,none⟩),.pointer (some ⟨eb,0,none⟩)] .returning .returning [cI ob z,cB eb t] [] (λ_:Unit=>[cI ob z,cB eb t]) (λ_=>[]):=by have hT:=dL;refine bCh (v:= .nilIface) func204 rfl ntmps204 rfl rfl rfl rfl rfl rec_none ?_;intro β hM;refine g6 ?_;refine jI rfl rfl rfl (sti_nifnil underlying20 rfl rfl) ?_;refine g4 ?_;exact at_offD () rfl (.c0 (.c0 .nil)) trivial
theorem known1P_spec(ob eb:Nat)(z:Int)(t:Bool):bTw prog 204 [.pointer (some ⟨ob,0,none⟩),.pointer (some ⟨eb,0,none⟩)] (.panicking (raise noneV)) (.panicking [{v:=noneV,recovered:=true}]) [cI ob z,cB eb t] [] (λ_:Unit=>[cI ob 0,cB eb false]) (λ_=>[]):=by have hT:=dL;refine bCh (v:=noneV) func204 rfl ntmps204 rfl rfl rfl rfl rfl (rec_some _) ?_;intro β hM;refine g6 ?_;refine jI rfl rfl rfl (sti_nifsome underlying20 rfl rfl) ?_;refine g7 ?_;exact at_offD () rfl (.cons (.tail .head) (.c0 .nil)) trivial
theorem bRg(mb:Nat)(m:MkV)(a:Option Addr×Nat)(s:GnS)(p:PolV)(hdl:m.U.B.length<=140737488355328):cJ prog 131 [.pointer (some ⟨mb,0,none⟩),f9 p] [mkO mb (m.st a s)] [cR p,dA.sl (f9 m.U) m.U.B] (λ(_:Unit)=> .tuple #[j3 (pM m.U.B p.B),.bool (decide ((bF p.B m.U.B).2=0))]) (λ(_:Unit)=>[mkO mb (m.st a s)]) (λ_=>[]):=by
 have hT:=dL;refine spec_defers func131 rfl ntmps131 rfl ?_;intro β hM;refine g2 ?_;refine i7 zero_i64 λg=>?_;refine i7 zero_bo λf=>?_;refine g5 ?_;refine at_defer rfl rfl rfl rfl rfl ?_;refine d_list ?_;refine jN ?_;refine dP ?_;refine jF ?_;refine dZ ?_;refine g2 ?_;refine at_callF (bJ func65 rfl rfl) (sD mb m a s p hdl) rfl rfl rfl rfl rfl (.c2 .nil) ⟨d7,d8,e9⟩ ?_ ?_
 .intro y u hu;refine dp_any ?_;refine dp_then ?_;obtain⟨e,rfl⟩:=pn_yes hu;refine d_caught (bJ func204 rfl rfl) rfl (known1P_spec g f 0 false) (.c2 (.c1 .nil)) e9 λ_=>?_;have c:pM m.U.B p.B=0:=by unfold pM;exact if_neg e
  have b:decide ((bF p.B m.U.B).2=0)=false:=decide_eq_false e;rw[c,b];exact rs2 () trivial
 intro _ d;refine g2 ?_;refine jN ?_;refine dP ?_;refine d_ret ?_;refine d_leave (bJ func204 rfl rfl) rfl (known1N_spec g f (bF p.B m.U.B).1 true) (.c1 (.c0 .nil)) e9 λ_=>?_;have c:pM m.U.B p.B=(bF p.B m.U.B).1:=by unfold pM;exact if_pos (pn_no d)
 have b:decide ((bF p.B m.U.B).2=0)=true:=decide_eq_true (pn_no d);rw[c,b];exact rs2 () trivial
theorem vB{l:List Int}{k:Nat}{x:Int}(h:l[k]?=some x):l.getD k 0=x:=by rw[W2,h];rfl
theorem uU(z0:Int)(z1:Int)(z2:Int)(z4:Int):prog.built 52 [(0,j4 z0),(1,j4 z1),(2,j4 z2),(4,.int .i32 z4)]=some #[j4 z0,j4 z1,j4 z2,j4 0,.int .i32 z4]:=j8
theorem uV(z0:Int)(z1:Int)(z2:Int)(z3:Int):prog.built 52 [(0,j4 z0),(1,j4 z1),(2,j4 z2),(3,j4 z3)]=some #[j4 z0,j4 z1,j4 z2,j4 z3,.int .i32 0]:=j8
theorem ops1_spec(mb:Nat)(m:MkV)(a:Option Addr×Nat)(s:GnS)(hB:GnB 999900 s)(b1 b2:Nat)(o:OpV)(r:Int):cJ prog 130 [j4 r,.pointer (some ⟨b1,0,none⟩),.pointer (some ⟨b2,0,none⟩)] [mkO mb (m.st a s),mkS (m.st a s)] [bC.cells b1 0 [.pointer (some ⟨mb,0,none⟩)],bC.cells b2 0 [j3 o.N,j3 o.k,j3 o.n,f9 o.p,j4 o.fn]] (λ(_:Option Addr×Nat)=> .tuple #[]) (λ(x:Option Addr×Nat)=>[mkO mb (m.st x (numG r o.n s)),mkS (m.st x (numG r o.n s))]) (λ_=>[]):=by have hT:=dL;refine j1 func130 ntmps130 ?_;intro β hM;refine one ?_;refine ss (f7 hT (bO (off:=0) d7)) ?_;refine g2 ?_;refine ss (f7 hT (bO (off:=2) d8)) ?_;refine bL func68 (gO mb m a _ (hB.le j5) (r) (o.n)) rfl rfl (.c0 (.c0 .nil)) e9 λb=>?_;have c:=kK (a:=r) (z:=o.n) hB;refine jL ?_;exact dE b rfl (.c0 (.c0 .nil)) e9 rfl
theorem bTl(mb:Nat)(m:MkV)(a:Option Addr×Nat)(s:GnS)(hB:GnB 999900 s)(b1 b2:Nat)(z:Int)(r:Int):cJ prog 133 [j4 r,.pointer (some ⟨b1,0,none⟩),.pointer (some ⟨b2,0,none⟩)] [mkO mb (m.st a s),mkS (m.st a s)] [bC.cells b1 0 [.pointer (some ⟨mb,0,none⟩)],bC.cells b2 0 [j3 z]] (λ(_:Option Addr×Nat)=> .tuple #[]) (λ(x:Option Addr×Nat)=>[mkO mb (m.st x (numG r z s)),mkS (m.st x (numG r z s))]) (λ_=>[]):=by have hT:=dL;refine j1 func133 ntmps133 ?_;intro β hM;refine one ?_;refine ss (f7 hT (bO (off:=0) d7)) ?_;refine one ?_;refine ss (f7 hT (bO (off:=0) d8)) ?_;refine bL func68 (gO mb m a _ (hB.le j5) (r) (z)) rfl rfl (.c0 (.c0 .nil)) e9 λb=>?_;have c:=kK (a:=r) (z:=z) hB;refine jL ?_;exact dE b rfl (.c0 (.c0 .nil)) e9 rfl
theorem ops3_spec(mb:Nat)(m:MkV)(a:Option Addr×Nat)(s:GnS)(hB:GnB 999900 s)(b1 b2:Nat)(o:OpV)(hk:0<=o.k/\o.k<=1000)(r:Int):cJ prog 134 [j4 r,.pointer (some ⟨b1,0,none⟩),.pointer (some ⟨b2,0,none⟩)] [mkO mb (m.st a s),mkS (m.st a s)] [bC.cells b1 0 [.pointer (some ⟨mb,0,none⟩)],bC.cells b2 0 [j3 o.N,j3 o.k,j3 o.n,f9 o.p,j4 o.fn]] (λ(_:Option Addr×Nat)=> .tuple #[]) (λ(x:Option Addr×Nat)=>[mkO mb (m.st x (vX r (u8m (1+o.k)) s)),mkS (m.st x (vX r (u8m (1+o.k)) s))]) (λ_=>[]):=by have hT:=dL;refine j1 func134 ntmps134 ?_;intro β hM;refine one ?_;refine ss (f7 hT (bO (off:=0) d7)) ?_;refine g2 ?_;refine ss (f7 hT (bO (off:=1) d8)) ?_;refine one ?_;refine bM (z':=1+o.k) (jO j5 j5) ?_;refine one ?_;refine bM (z':=u8m (1+o.k)) (uP _) ?_;refine bL func135 (bMn mb m a _ (hB.le j5) (r) (u8m (1+o.k))) rfl rfl (.c0 (.c0 .nil)) e9 λc=>?_;have d:=bLg (a:=r) (b:=u8m (1+o.k)) hB;refine jL ?_;exact dE c rfl (.c0 (.c0 .nil)) e9 rfl
theorem ops4_spec(mb:Nat)(m:MkV)(a:Option Addr×Nat)(s:GnS)(hB:GnB 999900 s)(b1 b2 b3:Nat)(p:Int)(o:OpV)(hk:0<=o.k)(hk2:o.k.toNat<m.at_.B.length)(r:Int):cJ prog 139 [j4 r,.pointer (some ⟨b1,0,none⟩),.pointer (some ⟨b2,0,none⟩),.pointer (some ⟨b3,0,none⟩)] [mkO mb (m.st a s),mkS (m.st a s)] [bC.cells b1 0 [.pointer (some ⟨mb,0,none⟩)],bC.cells b2 0 [j4 p],bC.cells b3 0 [j3 o.N,j3 o.k,j3 o.n,f9 o.p,j4 o.fn],dA.sl (f9 m.at_) m.at_.B] (λ(_:Option Addr×Nat)=> .tuple #[]) (λ(x:Option Addr×Nat)=>[mkO mb (m.st x (gE ⟨5,r,p,0,w32 (m.at_.B.getD o.k.toNat 0)⟩ 0 s)),mkS (m.st x (gE ⟨5,r,p,0,w32 (m.at_.B.getD o.k.toNat 0)⟩ 0 s))]) (λ_=>[]):=by have hT:=dL;refine j1 func139 ntmps139 ?_;intro β hM;refine dK _ _ [j2,u1,u0,u2,u3,u4,u6,u7,A08,u9,A00,A01,A02,A25] dJ k7 .nil bA.self ?_;refine stM rfl (f7 hT (bO (off:=0) d7)) ?_;refine one ?_;refine stM rfl (f7 hT (bO (off:=0) d8)) ?_;refine stM rfl (f7 hT (bO (off:=0) d7)) ?_;refine g3 ?_;refine stM rfl (f7 hT (bO (off:=1) d9)) ?_;refine g3 ?_;obtain⟨e,b⟩:=gx m.at_.B o.k.toNat (hk2);refine stM rfl (bE hT (k:=o.k.toNat) (bH e6) rfl rfl rfl rfl rfl rfl j5 (hk2)) ?_;refine stM rfl (fV b 0) ?_;refine one ?_;refine bM (z':=w32 (m.at_.B.getD o.k.toNat 0)) (by rw[vB b];exact mQ _) ?_;refine stM rfl (bY rfl rfl (uU _ _ _ _)) ?_;refine one ?_;refine bL func28 (gH mb m a _ (hB.le j5) (⟨5,r,p,0,w32 (m.at_.B.getD o.k.toNat 0)⟩:dU) 0) rfl rfl (.c0 (.c0 .nil)) e9 λc=>?_;have d:=gI (i:=(⟨5,r,p,0,w32 (m.at_.B.getD o.k.toNat 0)⟩:dU)) (dst:=0) hB;refine g2 ?_;exact dE c rfl (.c0 (.c0 .nil)) e9 rfl
theorem ops5_spec(mb:Nat)(m:MkV)(a:Option Addr×Nat)(s:GnS)(hB:GnB 999900 s)(b1 b2 b3:Nat)(o:OpV)(p:Int)(r:Int):cJ prog 140 [j4 r,.pointer (some ⟨b1,0,none⟩),.pointer (some ⟨b2,0,none⟩),.pointer (some ⟨b3,0,none⟩)] [mkO mb (m.st a s),mkS (m.st a s)] [bC.cells b1 0 [.pointer (some ⟨mb,0,none⟩)],bC.cells b2 0 [j3 o.N,j3 o.k,j3 o.n,f9 o.p,j4 o.fn],bC.cells b3 0 [j4 p]] (λ(_:Option Addr×Nat)=> .tuple #[]) (λ(x:Option Addr×Nat)=>[mkO mb (m.st x (gE ⟨u8m (64+o.fn),r,p,0,0⟩ 0 s)),mkS (m.st x (gE ⟨u8m (64+o.fn),r,p,0,0⟩ 0 s))]) (λ_=>[]):=by have hT:=dL;refine j1 func140 ntmps140 ?_;intro β hM;refine one ?_;refine ss (f7 hT (bO (off:=0) d7)) ?_;refine one ?_;refine ss (f7 hT (bO (off:=4) d8)) ?_;refine one ?_;refine bM (z':=u8m (64+o.fn)) (uP _) ?_;refine one ?_;refine ss (f7 hT (bO (off:=0) d9)) ?_;refine ss (bY rfl rfl (pE _ _ _)) ?_;refine bL func28 (gH mb m a _ (hB.le j5) (⟨u8m (64+o.fn),r,p,0,0⟩:dU) 0) rfl rfl (.c0 (.c0 .nil)) e9 λb=>?_;have c:=gI (i:=(⟨u8m (64+o.fn),r,p,0,0⟩:dU)) (dst:=0) hB;refine jL ?_;exact dE b rfl (.c0 (.c0 .nil)) e9 rfl
theorem ops6_spec(mb:Nat)(m:MkV)(a:Option Addr×Nat)(s:GnS)(hB:GnB 999900 s)(b1 b2 b3 b4:Nat)(o:OpV)(p q:Int)(r:Int):cJ prog 141 [j4 r,.pointer (some ⟨b1,0,none⟩),.pointer (some ⟨b2,0,none⟩),.pointer (some ⟨b3,0,none⟩),.pointer (some ⟨b4,0,none⟩)] [mkO mb (m.st a s),mkS (m.st a s)] [bC.cells b1 0 [.pointer (some ⟨mb,0,none⟩)],bC.cells b2 0 [j3 o.N,j3 o.k,j3 o.n,f9 o.p,j4 o.fn],bC.cells b3 0 [j4 p],bC.cells b4 0 [j4 q]] (λ(_:Option Addr×Nat)=> .tuple #[]) (λ(x:Option Addr×Nat)=>[mkO mb (m.st x (gE ⟨u8m (128+o.fn),r,p,q,0⟩ 0 s)),mkS (m.st x (gE ⟨u8m (128+o.fn),r,p,q,0⟩ 0 s))]) (λ_=>[]):=by have hT:=dL;refine j1 func141 ntmps141 ?_;intro β hM;refine one ?_;refine ss (f7 hT (bO (off:=0) d7)) ?_;refine one ?_;refine ss (f7 hT (bO (off:=4) d8)) ?_;refine one ?_;refine bM (z':=u8m (128+o.fn)) (uP _) ?_;refine one ?_;refine ss (f7 hT (bO (off:=0) d9)) ?_;refine ss (f7 hT (bO (off:=0) e6)) ?_;refine ss (bY rfl rfl (uV _ _ _ _)) ?_;refine bL func28 (gH mb m a _ (hB.le j5) (⟨u8m (128+o.fn),r,p,q,0⟩:dU) 0) rfl rfl (.c0 (.c0 .nil)) e9 λb=>?_;have c:=gI (i:=(⟨u8m (128+o.fn),r,p,q,0⟩:dU)) (dst:=0) hB;refine jL ?_;exact dE b rfl (.c0 (.c0 .nil)) e9 rfl
