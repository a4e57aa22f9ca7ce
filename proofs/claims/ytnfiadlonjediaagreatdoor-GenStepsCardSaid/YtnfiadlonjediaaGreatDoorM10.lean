/- Texts of one proof, one behind the other: PlanB, Value, Eval, CelA, LifeQ, CelB, RnA, RnB, WordP, ArrP, RnC, RnD, Pan, Dfr, Rec. -/
import Derived.Test.YtnfiadlonjediaaGreatDoorM7
import Derived.Test.YtnfiadlonjediaaGreatDoorM9
import Derived.Test.YtnfiadlonjediaaGreatDoorShelfB
import Derived.Test.YtnfiadlonjediaaGreatDoorM6
import Derived.Test.YtnfiadlonjediaaGreatDoorRows
import Derived.Test.YtnfiadlonjediaaGreatDoorM8
import Derived.Test.YtnfiadlonjediaaGreatDoorM1
import Derived.Test.YtnfiadlonjediaaGreatDoorM4
import Derived.Defers
import Derived.Recover
set_option maxRecDepth 100000
namespace Go.Proofs.YtnfiadlonjediaaGreatDoor
open _root_.List renaming drop_of_length_le->R5,replicate->T9,replicate_succ->X9,ext_getElem->Y0,getElem?_eq_some_iff->D9,getD_eq_getElem?_getD->U5,getElem?_eq_none->V5,mem_cons->C9,all_eq_true->D6,drop_eq_getElem_cons->Y1,getElem_cons_drop->Y2,length_map->K3,ext_getElem?->Y3,length_replicate->X2,length_set->P6,getElem?_set_self->P7,getElem?_eq_none_iff->Y4,range'->Y5,length_cons->E1,range'_succ->Y6
open Value renaming cells->Y7,bool->V6
open _root_.Nat renaming blt->C0,min->X5,min_le_right->X8,zero_le->P2,lt_of_lt_of_le->B6,le_of_ble_eq_true->Y8
open _root_.Int renaming mul_nonneg->Y9,mul_le_mul_of_nonneg_right->Z0,toNat->Z1
open Lib renaming hid->R1
open _root_.Bool renaming and_eq_true->G1
open Oper renaming wp->F4,upon_value->F5,upon_skip->F6,upon_defer->Z2,upon_enter->F7,upon_row->Z3
open Code renaming cond->B2,wp_mono->Q5
open _root_.Array renaming getElem?_append->Z4,replicate->A8
section
open Go.RowKit Go.Proofs.Tryz
def bHk (k:Int):List Int->Int->Int
 |[],_=> -1
 |s::r,i=>if k=s then i else bHk k r (i+1)
section
variable {k x : Int} {l : List Int} {i : Nat} {r : Int}
theorem zS(h:r=bHk k (l.drop i) i)(hx:l[i]?=some x):(k=x->r=i)/\(k≠x->r=bHk k (l.drop (i+1)) ((i+1:Nat):Int)):=by
 rw[qH hx,bHk]at h;refine⟨λe=>by rw[if_pos e]at h;exact h,λe=>by rw[if_neg e]at h;rw[h];rfl⟩
theorem idxI_end(h:r=bHk k (l.drop i) i)(hi:l.length<=i):r= -1:=by
 rw[R5 hi]at h;exact h
end
theorem uL(k:Int): ∀(l:List Int) (i:Int),0<=i->decide (0<=bHk k l i)=l.contains k
 |[],i,_=>rfl
 |s::r,i,h=>by
  rw[bHk,List.contains_cons]
  by_cases e:k=s
  .subst e;simp[h]
  .rw[if_neg e,uL k r (i+1) k9];simp[e]
theorem bitsMul_spec(x y:Nat)(hx:x<18446744073709551616)(hy:y<18446744073709551616):bZ prog 159 [.int .u64 (x:Nat),.int .u64 (y:Nat)] [] [] (λ_:Unit=> .tuple #[.int .u64 ((x*y/18446744073709551616:Nat):Int),.int .u64 ((x*y%18446744073709551616:Nat):Int)]) (λ_=>[]) (λ_=>[]):=
 λS w s k=>(Tryz.bits_Mul x y hx hy w).mono λe a h=>by
  obtain⟨rfl,rfl⟩:=h;exact⟨(),S,rfl,s,λg hg=>by simp at hg⟩
def nilLife:dQ:=⟨0,0⟩
theorem lifeInfo: ∃i:TypeInfo,prog.info? 114=some i/\i.zero=some (.agg #[j5 0,j5 0])/\i.size=2/\i.bytes=16:=by
 have h:(prog.info? 114).map (λi=>(i.zero,i.size,i.bytes))=some (some (.agg #[.int .i64 0,.int .i64 0]),2,16):=l4
 cases a:prog.info? 114 with
 |none=>simp[a]at h
 |some i=>simp[a]at h;exact⟨i,rfl,h.1,h.2.1,h.2.2⟩
theorem lifesize:(prog.info? 114).map (·.size)=some lR.size:=l4
theorem madeLives: ∀m:Nat,(madeCells (Value.agg #[j5 0,j5 0]).cells (m*2)).toList=lR.all (T9 m nilLife):=λm=>by
 have e: ∀m,lR.all (T9 m nilLife)=T9 (m*2) (.int .i64 0):=λm=>by
  induction m with
  |zero=>rfl
  |succ m ih=>rw[X9,show lR.all (nilLife::T9 m nilLife)=lR.cells nilLife++lR.all (T9 m nilLife)from rfl,ih,show lR.cells nilLife=T9 (1*2) (.int .i64 0)from rfl,List.replicate_append_replicate,show(m+1)*2=1*2+m*2 by omega]
 rw[e];unfold madeCells;apply Y0
 .simp
 .intro i h1 b;have a:i%2<2:=Nat.mod_lt _ l5
  rcases (by omega:i%2=0\/i%2=1)with h|h
  .simp[Y7,h]
  .simp[Y7,h]
section
variable {β : dE} {n : Nat} {Γ : Env} {H : List bC} {F : List bE} {Q : Exit -> Act -> World -> Prop} {ops : Array Oper} {rest : List Oper} {o : Oper} {d : Nat}
theorem at_makeLives{m:Nat}{x y:Operand}(hw:want ops Γ o=some true)(ho:o.op= .makeSlice 97 x y)(hd:o.dst=some d)(hn:C0 d n=true)
  (hx:Γ.ev x=some (j5 (m:Nat))) (hy:Γ.ev y=some (j5 (m:Nat))) (hm:m<=1000000)
  (k: ∀b,At β n ((d,.slice (some ⟨b,0,none⟩) m m)::Γ) (lR.row (.slice (some ⟨b,0,none⟩) m m) 114 (T9 m nilLife)::H) F (wpList prog ops Q rest)):At β n Γ H F (wpList prog ops Q (o::rest)):=by
 obtain⟨i,c,hz,a,hb⟩:=lifeInfo;exact bAr (E:=lR) hw ho hd hn hx hy underlying97 c hz a aa2 v6 (madeLives m) n4 k
theorem bDr{m:Nat}{x y:Operand}(hw:want ops Γ o=some true)(ho:o.op= .makeSlice 99 x y)(hd:o.dst=some d)(hn:C0 d n=true)
  (hx:Γ.ev x=some (j5 (m:Nat))) (hy:Γ.ev y=some (j5 (m:Nat))) (hm:m<=1000000)
  (k: ∀b,At β n ((d,.slice (some ⟨b,0,none⟩) m m)::Γ) (lJ.row (.slice (some ⟨b,0,none⟩) m m) 4 (T9 m false)::H) F (wpList prog ops Q rest)):At β n Γ H F (wpList prog ops Q (o::rest)):=by
 obtain⟨i,c,hz,a,hb⟩:=bMm;refine bAr (E:=lJ) hw ho hd hn hx hy underlying99 c hz a aa2 v6 ?_ n4 k
 have e: ∀m,lJ.all (T9 m false)=T9 m (.bool false):=λm=>by
  induction m with
  |zero=>rfl
  |succ m ih=>rw[X9,X9,<-ih];rfl
 rw[e];unfold madeCells;apply Y0
 .simp[lJ]
 .intro i h1 f;simp[Y7,Nat.mod_one]
end
theorem index_spec(A:Option Addr)(c:Nat)(l:List Int)(hl:l.length<=140737488355328)(k:Int):bZ prog 160 [.slice A l.length c,j5 k] [] [cK.sl (.slice A l.length c) l] (λ(_:Unit)=> j5 (bHk k l 0)) (λ_=>[]) (λ_=>[]):=by
 have hT:=fK;generalize f:bHk k l 0=r;refine i7 func160 ntmps160 ?_;intro β hM;refine g14 ?_;refine bY (ι:=Nat) [(0,_),(1,_),(7,_)] ⟨rfl,rfl,rfl,e8⟩ (λi=>[(8,.int .i64 (i:Nat))]) (λ_=>[]) (λi=>[bE.pure (i<=l.length/\r=bHk k (l.drop i) i)]) (λi=>l.length-i) 0 ⟨rfl,e8⟩ .nil ⟨e9 (⟨k9,f.symm⟩),e8⟩ ?_;rintro i;refine bM d7 λa=>?_;refine g6 ?_;refine fD (λe=>?_) λe=>?_
 .refine g15 ?_;obtain⟨g,b⟩:=gx l i;refine ss (ixs i) ?_;refine ss (jB b 0) ?_;refine g3 ?_;refine fG (λd=>?_) λd=>?_
  .refine g12 ?_;have hr:=(zS a.2 b).1 (by first|assumption|(symm;assumption));subst hr;exact rs1 () trivial
  refine g5 ?_;refine inc (i+1) ?_;refine g3 ?_;exact bk2 (i+1) ⟨e9 (⟨k9,(zS a.2 b).2 ‹_›⟩),e8⟩
 refine g11 ?_;have hr:=idxI_end a.2 k9;subst hr;exact rs1 () trivial
theorem bRr(A:Option Addr)(c:Nat)(l:List Int)(hl:l.length<=140737488355328)(k:Int):bZ prog 88 [.slice A l.length c,j5 k] [] [cK.sl (.slice A l.length c) l] (λ(_:Unit)=> .bool (l.contains k)) (λ_=>[]) (λ_=>[]):=by
 have hT:=fK;refine i7 func88 ntmps88 ?_;intro β hM;refine g9 ?_;refine f7 func160 (index_spec A c l hl k) .nil ⟨d7,e8⟩ λ_=>?_;refine g5 ?_;exact rs1 () e8 (he:=congrArg V6 (uL k l 0 l5))
theorem repeatL_spec(A:Option Addr)(c:Nat)(p:dQ)(n:Nat)(hn:n<=1000000):bZ prog 87 [.slice A 1 c,j5 (n:Nat)] [] [lR.sl (.slice A 1 c) [p]] (λ(x:Option Addr×Nat)=> .slice x.1 n x.2) (λ(x:Option Addr×Nat)=>[lR.row (.slice x.1 n x.2) 114 (T9 n p)]) (λ_=>[]):=by
 have hT:=fK;refine i7 func87 ntmps87 ?_;intro β hM;refine g10 ?_;refine bQ (t':=false) (decide_eq_false k9) ?_;refine g10 ?_;refine bF (z':=((1:Nat):Int)) rfl ?_;refine g2 ?_;refine bF (z':=((n:Nat):Int)) (conv64 k9) ?_;refine bG func159 (bitsMul_spec 1 n l5 k9) rfl rfl .nil e8 λ_=>?_;refine at_val (v':= .tuple #[.int .u64 ((0:Nat):Int),.int .u64 ((n:Nat):Int)]) (by rw[Nat.one_mul,Nat.div_eq_of_lt k9,Nat.mod_eq_of_lt k9]) ?_;refine g12 ?_;refine bQ (t':=false) l5 ?_;refine g3 ?_;refine bQ (t':=false) (decide_eq_false k9) ?_;refine g10 ?_;refine bF (z':=((n:Nat):Int)) (conv63 k9) ?_;refine at_makeLives (m:=n) rfl rfl rfl rfl rfl rfl k9 λh=>?_;refine g7 ?_;refine bEl (E:=lR) (ys:=List.take (X5 1 n) [p]) (q:=0) (dO.preE (bV d7) _) rfl rfl rfl rfl underlying97 lifesize rfl rfl n4 rfl (rep_l1 p n) (by rw[rep_l1];have:=min1_le n;omega) .head ?_;have f:=rep_first nilLife p n _ rfl;refine bF (z':=((X5 1 n:Nat):Int)) (congrArg Nat.cast (rep_l1 p n)) ?_;refine g5 ?_;refine bY (ι:=Nat×List dQ) [(7,_)] ⟨rfl,e8⟩ (λ⟨i,cur⟩=>[(8,.int .i64 (i:Nat))]) (λ⟨i,cur⟩=>[lR.row (.slice (some ⟨h,0,none⟩) n n) 114 cur]) (λ⟨i,cur⟩=>[bE.pure (bRz nilLife p n i cur/\(1<=i\/n=0))]) (λ⟨i,cur⟩=>n-i) (X5 1 n,_) ⟨rfl,e8⟩ (.c0 .nil) ⟨e9 (⟨f,min1_or n⟩),e8⟩ ?_;rintro⟨i,cur⟩;dsimp only;refine bM d7 λa=>?_;refine g9 ?_;refine fD (λb=>?_) λb=>?_
 .refine g3 ?_;refine dC _ _ [(true,0),(true,1),(true,2),(true,3),(true,4),(true,5),(true,6),(false,7),(true,8),(true,9)] dJ l8 .nil bA.self ?_;refine g3 ?_;refine stM rfl (bKn hT (k:=i) rfl rfl rfl rfl rfl rfl k9) ?_;refine at_val (v':= .slice (some ⟨h,i*2,none⟩) (n-i) (n-i)) (by rw[cutA_in k9 rfl]) ?_;refine g2 ?_;refine stM rfl (bHl hT (k:=i) rfl rfl rfl rfl rfl rfl k9) ?_;refine one ?_;refine bEl (E:=lR) (ys:=cur.take (X5 i (n-i))) (q:=i) (dO.preE (cH .head) _) rfl rfl rfl rfl underlying97 lifesize rfl rfl (rep_len a.1) rfl (rep_l a.1) (by rw[rep_l a.1];have:X5 i (n-i)<=n-i:=X8 _ _;omega) .head ?_;have d:=rep_step a.1 k9;have e:=rep_l a.1;refine bF (z':=((X5 i (n-i):Nat):Int)) (congrArg Nat.cast e) ?_
  have j:X5 i (n-i)<=n-i/\1<=X5 i (n-i):=⟨X8 _ _,Nat.le_min.2 ⟨k9,k9⟩⟩
  refine g2 ?_;refine inc (i+(X5 i (n-i))) ?_;refine g4 ?_;exact bk2 (i+X5 i (n-i),_) ⟨e9 (⟨d,by dsimp only;omega⟩),e8⟩
 refine g12 ?_;obtain rfl:i=n:=by have:=a.1.2;omega
 have g:cur=T9 i p:=by rw[a.1.1,Nat.sub_self,List.replicate_zero,List.append_nil]
 subst g;exact rs1 (_,_) trivial
set_option maxRecDepth 100000
def Mono.ex(m:Mono)(k:Nat):UInt8:=m.E.getD k 0
def dM (m:Mono)(D:Nat->Int):List (UInt8×Int):=[(m.e0,D 0),(m.e1,D 1),(m.e2,D 2),(m.e3,D 3),(m.e4,D 4),(m.e5,D 5)]
theorem zO(m:Mono)(D:Nat->Int): ∀k,k<6->(dM m D).drop k=(m.ex k,D k)::(dM m D).drop (k+1)
 |0,_=>rfl
 |1,_=>rfl
 |2,_=>rfl
 |3,_=>rfl
 |4,_=>rfl
 |5,_=>rfl
 |k+6,h=>absurd h k9
def fP (l:List (UInt8×Int)):Bool:=l.any λx=>decide (0<x.1.toNat)&&x.2==0
def gE:Int:=4611686018427387904
def rD (d:Int):Nat->Int->Option Int
 |0,n=>some n
 |e+1,n=>if gE/d<n then none else rD d e (n*d)
def nV:List (UInt8×Int)->Int->Option Int
 |[],n=>some n
 |x::l,n=>(rD x.2 x.1.toNat n).bind (nV l)
def cM (m:Mono)(D:Nat->Int):Int×Bool:=
 if fP (dM m D)then (0,true)else match nV (dM m D) (max m.n (-m.n))with
 |some n=>(n,true)
 |none=>(0,false)
theorem index_E(m:Mono)(k:Nat)(hk:k<6)(w:World):(Instr.index 109 (.agg #[j6 m.e0.toNat,j6 m.e1.toNat,j6 m.e2.toNat,j6 m.e3.toNat,j6 m.e4.toNat,j6 m.e5.toNat]) (j5 (k:Int))).run prog w= .ok (j6 ((m.ex k).toNat:Int)) w:=by
 rcases k with _|_|_|_|_|_|k
 .kernel_rfl
 .kernel_rfl
 .kernel_rfl
 .kernel_rfl
 .kernel_rfl
 .kernel_rfl
 .omega
theorem zero_not{m:Mono}{D:Nat->Int}(h:fP (dM m D)=false): ∀k,k<6->0<(m.ex k).toNat->D k≠0:=by
 intro k a b hd
 have h1:(m.ex k,D k)∈dM m D:=by
  have:=zO m D k a;exact List.mem_of_mem_drop (i:=k) (by rw[this];simp)
 have c:fP (dM m D)=true:=List.any_eq_true.2 ⟨_,h1,by simp[b,hd]⟩;rw[c]at h;cases h
def InV (x:Int):Prop:=0<=x/\x<=gE
theorem inV_mul{x d:Int}(hx:InV x)(hd:1<=d)(h: ¬gE/d<x):InV (x*d):=by
 obtain⟨h0,_⟩:=hx;refine⟨Y9 h0 k9,?_⟩;have h1:x<=gE/d:=k9
 exact Int.le_trans (Z0 h1 k9) (Int.ediv_mul_le gE k9)
theorem wrap_inV{x:Int}(h:InV x):wrap64 x=x:=by
 obtain⟨h0,h1⟩:=h;unfold gE at h1;exact IntWalk.wrap64_in x ⟨k9,k9⟩
def SixAt (w:World)(b:Nat)(D:Nat->Int):Prop:= ∀k,k<6->w.cell? ⟨b,k,none⟩=some (.int .i64 (D k))
set_option maxHeartbeats 1000000 in
theorem value_any(m:Mono)(D:Nat->Int)(w:World)(hD: ∀k,0<=D k/\D k<=2147483648)(hn: -16777216<=m.n/\m.n<=16777216):
  Calls prog 44 #[.agg #[j5 m.n,j6 m.e0.toNat,j6 m.e1.toNat,j6 m.e2.toNat,j6 m.e3.toNat,j6 m.e4.toNat,j6 m.e5.toNat],.agg #[j5 (D 0),j5 (D 1),j5 (D 2),j5 (D 3),j5 (D 4),j5 (D 5)]] w λe w'=>e= .returned (.tuple #[j5 (cM m D).1,.bool (cM m D).2])/\Below w.heap.size w w':=by
 have HD:=R1 hD;obtain⟨hn1,hn2⟩:=hn;clear hD
 go_enter func44,ntmps44
 go_wp2
 all_goals
  have q0:dP ((w.alloc (.cells #[.int .i64 m.n,.int .u8 m.e0.toNat,.int .u8 m.e1.toNat,.int .u8 m.e2.toNat,.int .u8 m.e3.toNat,.int .u8 m.e4.toNat,.int .u8 m.e5.toNat] 111)).alloc (.cells #[.int .i64 (D 0),.int .i64 (D 1),.int .i64 (D 2),.int .i64 (D 3),.int .i64 (D 4),.int .i64 (D 5)] 117)) w.heap.size 0 m:=by simp[dP,go_sem]
  have q1:SixAt ((w.alloc (.cells #[.int .i64 m.n,.int .u8 m.e0.toNat,.int .u8 m.e1.toNat,.int .u8 m.e2.toNat,.int .u8 m.e3.toNat,.int .u8 m.e4.toNat,.int .u8 m.e5.toNat] 111)).alloc (.cells #[.int .i64 (D 0),.int .i64 (D 1),.int .i64 (D 2),.int .i64 (D 3),.int .i64 (D 4),.int .i64 (D 5)] 117)) (w.heap.size+1) D:=by
   intro k hk
   rcases k with _|_|_|_|_|_|k
   all_goals first|omega|simp[go_sem]
  have q2:Below w.heap.size w ((w.alloc (.cells #[.int .i64 m.n,.int .u8 m.e0.toNat,.int .u8 m.e1.toNat,.int .u8 m.e2.toNat,.int .u8 m.e3.toNat,.int .u8 m.e4.toNat,.int .u8 m.e5.toNat] 111)).alloc (.cells #[.int .i64 (D 0),.int .i64 (D 1),.int .i64 (D 2),.int .i64 (D 3),.int .i64 (D 4),.int .i64 (D 5)] 117)):=by go_grown
  have Q0:=R1 q0;have Q1:=R1 q1;have Q2:=R1 q2;clear q0 q1 q2;generalize ((w.alloc (.cells #[.int .i64 m.n,.int .u8 m.e0.toNat,.int .u8 m.e1.toNat,.int .u8 m.e2.toNat,.int .u8 m.e3.toNat,.int .u8 m.e4.toNat,.int .u8 m.e5.toNat] 111)).alloc (.cells #[.int .i64 (D 0),.int .i64 (D 1),.int .i64 (D 2),.int .i64 (D 3),.int .i64 (D 4),.int .i64 (D 5)] 117))=W0 at Q0 Q1 Q2⊢;generalize w.heap.size=X at Q0 Q1⊢
  go_loop [19] (λi=> ∃k:Nat,k<=6/\i= .int .i64 k/\Hid (fP (dM m D)=fP ((dM m D).drop k))) (λi=>6-(intOf i).toNat)
  case atStart=>exact⟨0,P2 _,rfl,rfl⟩
  case round=>
   obtain⟨k,hk,rfl,hz⟩:=hrel
   by_cases hlt:k<6
   .have hidx:=index_E m k hlt;have hc:W0.cell? ⟨X+1,k,none⟩=some (.int .i64 (D k)):=Q1.out k hlt;have hp:=zO m D k hlt;have HZ:=R1 (show fP (dM m D)=((decide (0<(m.ex k).toNat)&&D k==0) || fP ((dM m D).drop (k+1))) by rw[hz.out,hp];rfl);clear hp hz
    by_cases he:0<(m.ex k).toNat
    .have he1:decide (0<(m.ex k).toNat)=true:=by simpa using he
     by_cases hd:D k=0
     .have hd1:(D k==0)=true:=by simpa using hd
      have Hd:=R1 hd;have HZ':=R1 (show fP (dM m D)=true by rw[HZ.out,he1,hd1];rfl);clear hd HZ
      go_wp2
      go_ret2
      have e:cM m D=(0,true):=by unfold cM;rw[HZ'.out];rfl
      rw[e];exact⟨rfl,Q2.out⟩
     .have hd1:(D k==0)=false:=by simpa using hd
      have HZ':=R1 (show fP (dM m D)=fP ((dM m D).drop (k+1)) by rw[HZ.out,hd1,Bool.and_false,Bool.false_or]);clear hd HZ
      go_wp2
      go_round
      case rel=>exact⟨k+1,k9,by go_num,HZ'⟩
      case measure=>simp[intOf];omega
    .have he1:decide (0<(m.ex k).toNat)=false:=by simpa using he
     have HZ':=R1 (show fP (dM m D)=fP ((dM m D).drop (k+1)) by rw[HZ.out,he1,Bool.false_and,Bool.false_or]);clear HZ
     go_wp2
     go_round
     case rel=>exact⟨k+1,k9,by go_num,HZ'⟩
     case measure=>simp[intOf];omega
   .have HZ:=R1 (show fP (dM m D)=false by rw[hz.out,R5 ab4];rfl);obtain⟨q0,q1,q2,q3,q4,q5,q6⟩:=Q0.out.zero;clear hz
    go_wp2
    clear q0 q1 q2 q3 q4 q5 q6
    go_loop [34,6] (λi n=> ∃(k:Nat) (x:Int),k<=6/\i= .int .i64 k/\n= .int .i64 x/\InV x/\Hid (nV (dM m D) (max m.n (-m.n))=nV ((dM m D).drop k) x)) (λi _=>6-(intOf i).toNat)
    case atStart=>exact⟨0,_,P2 _,rfl,rfl,⟨k9,by unfold gE;omega⟩,by show _=_;rw[List.drop_zero];try (congr 1;omega)⟩
    case round=>
     obtain⟨k2,x,hk2,rfl,rfl,hx,hmul⟩:=hrel;have HX:=R1 hx;clear hx
     by_cases hlt2:k2<6
     .have hidx:=index_E m k2 hlt2;have hc:W0.cell? ⟨X+1,k2,none⟩=some (.int .i64 (D k2)):=Q1.out k2 hlt2;have HM:=R1 (show nV (dM m D) (max m.n (-m.n))=(rD (D k2) (m.ex k2).toNat x).bind (nV ((dM m D).drop (k2+1))) by rw[hmul.out,zO m D k2 hlt2];rfl);have hd:=HD.out k2;obtain⟨hd0,hd1⟩:=hd;have hu:=(m.ex k2).toNat_lt;have HNZ:=R1 (zero_not HZ.out k2 hlt2);clear hmul;generalize m.ex k2=ee at hidx HM hu HNZ⊢
      go_wp2
      go_loop [39,6] (λc n=> ∃(j:Nat) (y:Int),j<=ee.toNat/\c= .int .u8 j/\n= .int .i64 y/\InV y/\Hid (nV (dM m D) (max m.n (-m.n))=(rD (D k2) (ee.toNat-j) y).bind (nV ((dM m D).drop (k2+1))))) (λc _=>ee.toNat-(intOf c).toNat)
      case atStart=>exact⟨0,x,P2 _,rfl,rfl,HX.out,HM⟩
      case round=>
       obtain⟨j,y,hj,rfl,rfl,hy,hpow⟩:=hrel;have HY:=R1 hy;clear hy
       by_cases hlt3:j<ee.toNat
       .have hd2:1<=D k2:=by have:=HNZ.out k9;omega
        have HP:=R1 (show(rD (D k2) (ee.toNat-j) y)=if gE/D k2<y then none else rD (D k2) (ee.toNat-(j+1)) (y*D k2) by rw[show ee.toNat-j=(ee.toNat-(j+1))+1 by omega,rD])
        by_cases hq:gE/D k2<y
        .have hq1:decide (4611686018427387904/D k2<y)=true:=by simpa[gE]using hq
         go_wp2
         go_ret2
         have e:cM m D=(0,false):=by
          unfold cM;rw[HZ.out,hpow.out,HP.out,if_pos hq];rfl
         rw[e];exact⟨rfl,Q2.out⟩
        .have hq1:decide (4611686018427387904/D k2<y)=false:=by simpa[gE]using hq
         have HY2:=R1 (inV_mul HY.out hd2 hq);have hw:=wrap_inV HY2.out;have HP2:=R1 (show nV (dM m D) (max m.n (-m.n))=(rD (D k2) (ee.toNat-(j+1)) (y*D k2)).bind (nV ((dM m D).drop (k2+1))) by rw[hpow.out,HP.out,if_neg hq]);clear HP hpow
         go_wp2
         go_round
         case rel=>exact⟨j+1,y*D k2,k9,by go_num,by rw[hw],HY2.out,HP2⟩
         case measure=>simp[intOf];omega
       .have HP:=R1 (show nV (dM m D) (max m.n (-m.n))=nV ((dM m D).drop (k2+1)) y by rw[hpow.out,show ee.toNat-j=0 by omega];rfl);clear hpow
        go_wp2
        go_round
        case rel=>exact⟨k2+1,y,k9,by go_num,rfl,HY.out,HP⟩
        case measure=>simp[intOf];omega
     .have e:cM m D=(x,true):=by
       unfold cM;rw[HZ.out,hmul.out,R5 ab4];rfl
      have He:=R1 e;clear e hmul
      go_wp2
      go_ret2
      rw[He.out];exact⟨rfl,Q2.out⟩
end
section
open Go.RowKit Go.Proofs.Tryz
set_option maxRecDepth 100000
def Ints (w:World)(A:Option Addr)(l:List Int):Prop:=
 ∀(k:Nat) (d:Int),l[k]?=some d-> ∃b o,A=some ⟨b,o,none⟩/\b<w.heap.size/\w.cell? ⟨b,o+k,none⟩=some (.int .i64 d)
theorem Ints.below{w w':World}{A:Option Addr}{l:List Int}(h:Ints w A l)(hb:Below w.heap.size w w'):Ints w' A l:=λk d c=>by
 obtain⟨b,o,e,hB,a⟩:=h k d c;exact⟨b,o,e,B6 hB hb.size,(hb.cell (p:=⟨b,o+k,none⟩) hB).trans a⟩
def jL (d:Int):Bool:=decide (0<=d/\d<=2147483648)
def nD (ds:List Int):Bool:=decide (ds.length<=6)&&ds.all jL
def iT (D:Nat->Int):List Mono->Int->Int->Option Int
 |[],_,sum=>some sum
 |m::l,size,sum=>
  if (cM m D).2=false\/gE-size<(cM m D).1 then none
  else iT D l (size+(cM m D).1) (if m.n<0 then sum-(cM m D).1 else sum+(cM m D).1)
def cL (ds:List Int)(k:Nat):Int:=ds.getD k 0
def bD (p:List Mono)(ds:List Int):Int×Int:=
 if cJ p then if nD ds then match iT (cL ds) p 0 0 with
  |some n=>(n,0)
  |none=>(0,22)
 else (0,23)else (0,20)
def rI (w:World)(b:Nat)(D:Nat->Int):Prop:=b<w.heap.size/\ ∀k,k<6->w.cell? ⟨b,k,none⟩=some (.int .i64 (D k))/\w.frozen? ⟨b,k,none⟩=false
theorem rI.set{w:World}{b:Nat}{D:Nat->Int}(h:rI w b D)(k:Nat)(hk:k<6)(d:Int):rI (w.setCell ⟨b,k,none⟩ (j5 d)) b (λj=>if j=k then d else D j):=by
 refine⟨by simpa using h.1,λj a=>⟨?_,?_⟩⟩
 .by_cases e:j=k
  .subst e;dsimp only;rw[if_pos rfl];exact World.cell?_setCell_same w ⟨b,j,none⟩ _ (h.2 j a).1
  .dsimp only;rw[if_neg e,World.cell?_setCell_other w _ _ _ (by intro h;injection h with _ h;exact e h.symm)];exact(h.2 j a).1
 .rw[World.frozen?_setCell];exact(h.2 j a).2
theorem take_dim{ds:List Int}{k:Nat}{d:Int}(h:ds[k]?=some d):(λj=>if j=k then d else cL (ds.take k) j)=cL (ds.take (k+1)):=by
 funext j
 have a:k<ds.length:=(D9.1 h).1;have hd:ds[k]=d:=(D9.1 h).2;unfold cL;rw[List.take_succ_eq_append_getElem a,hd];simp only[U5];have hl:(ds.take k).length=k:=by simp;omega
 by_cases e:j=k
 .subst e;rw[if_pos rfl,List.getElem?_append_right k9,hl];simp
 .rw[if_neg e]
  by_cases b:j<k
  .rw[List.getElem?_append_left k9]
  .rw[V5 k9,V5 n9]
theorem bJt{d:Int}(hd:0<=d): ∀(e:Nat) (n r:Int),0<=n->rD d e n=some r->0<=r
 |0,n,r,hn,h=>by simp[rD]at h;omega
 |e+1,n,r,hn,h=>by
  unfold rD at h;split at h
  .cases h
  .exact bJt hd e (n*d) r (Y9 hn hd) h
theorem bKh: ∀(l:List (UInt8×Int)) (n r:Int),(∀x∈l,0<=x.2)->0<=n->nV l n=some r->0<=r
 |[],n,r,_,hn,h=>by simp[nV]at h;omega
 |x::l,n,r,hl,hn,h=>by
  unfold nV at h
  cases a:rD x.2 x.1.toNat n with
  |none=>rw[a]at h;cases h
  |some y=>
   rw[a]at h;exact bKh l y r (λz hz=>hl z (by simp[hz])) (bJt (hl x n4) _ _ _ hn a) h
theorem xE(m:Mono)(D:Nat->Int)(hD: ∀k,0<=D k):0<=(cM m D).1:=by
 unfold cM;split
 .simp
 .split
  .rename_i n hn;refine bKh _ _ _ (λx hx=>?_) k9 hn;simp only[dM,C9,List.not_mem_nil,or_false]at hx
   rcases hx with rfl|rfl|rfl|rfl|rfl|rfl<;>exact hD _
  .simp
theorem rS: ∀{o:Option Mono} {l:List Mono},dN o l=true-> ∀m∈l,gL m=true
 |_,[],_,m,c=>by simp at c
 |none,a::l,h,m,c=>by
  simp only[dN,G1]at h
  rcases C9.1 c with rfl|c
  .exact h.1
  .exact rS h.2 m c
 |some b,a::l,h,m,c=>by
  simp only[dN,G1]at h
  rcases C9.1 c with rfl|c
  .exact h.1
  .exact rS h.2.2 m c
theorem rI.below{w w':World}{b:Nat}{D:Nat->Int}(h:rI w b D)(hb:Below w.heap.size w w'):rI w' b D:=
 ⟨B6 h.1 hb.size,λk a=>⟨(hb.cell (p:=⟨b,k,none⟩) h.1).trans (h.2 k a).1,(hb.frozen (p:=⟨b,k,none⟩) h.1).trans (h.2 k a).2⟩⟩
theorem yI{ds:List Int}(h:ds.all jL=true): ∀k,0<=cL ds k/\cL ds k<=2147483648:=λk=>by
 unfold cL;rw[U5]
 cases a:ds[k]? with
 |none=>simp
 |some d=>
  have hd:d∈ds:=List.mem_of_getElem? a;have:=D6.1 h d hd
  simpa[jL]using this
set_option maxHeartbeats 1000000 in
theorem eval_any(A B:Option Addr)(c d:Nat)(p:List Mono)(ds:List Int)(w:World)(ha:kK w A p)(hb:Ints w B ds)(hp:p.length<=140737488355328)(hq:ds.length<=140737488355328):
  Calls prog 15 #[.slice A p.length c,.slice B ds.length d] w λe w'=>e= .returned (.tuple #[j5 (bD p ds).1,j5 (bD p ds).2])/\Below w.heap.size w w':=by
 have Ha:=R1 ha;have Hb:=R1 hb;clear ha hb;cases hrp:cJ p
 .have e:bD p ds=(0,20):=by unfold bD;rw[hrp];rfl
  rw[e]
  go_enter func15,ntmps15
  go_wp2_with (go_at_call 43;refine(fY A c p _ Ha.out hp).mono ?_;rintro e w1 ⟨rfl,hb1⟩)
  go_ret2
  exact⟨rfl,hb1⟩
 .go_enter func15,ntmps15
  go_wp2_with fail
  refine(fY A c p _ Ha.out hp).mono ?_;rintro e w1 ⟨rfl,hb1⟩;have H1:=R1 hb1;clear hb1
  go_wp2
  have s0:rI (w1.alloc (.cells #[.int .i64 0,.int .i64 0,.int .i64 0,.int .i64 0,.int .i64 0,.int .i64 0] 117)) w1.heap.size (cL (ds.take 0)):=by
   refine⟨n4,λk hk=>?_⟩
   rcases k with _|_|_|_|_|_|k
   all_goals first|omega|simp[go_sem,cL]
  have b0:Below w.heap.size w (w1.alloc (.cells #[.int .i64 0,.int .i64 0,.int .i64 0,.int .i64 0,.int .i64 0,.int .i64 0] 117)):=H1.out.alloc H1.out.size _;have hXw:w.heap.size<=w1.heap.size:=H1.out.size;have S0:=R1 s0;have B0:=R1 b0;clear s0 b0 H1;generalize w1.alloc (.cells #[.int .i64 0,.int .i64 0,.int .i64 0,.int .i64 0,.int .i64 0,.int .i64 0] 117)=W0 at S0 B0⊢;generalize w1.heap.size=X at S0 hXw⊢
  go_loopw [20] (λi wr=> ∃k:Nat,k<=ds.length/\k<=6/\i= .int .i64 k/\rI wr X (cL (ds.take k))/\Hid (ds.all jL=(ds.drop k).all jL)/\Below w.heap.size w wr) (λi _=>ds.length-(intOf i).toNat)
  case atStart=>exact⟨0,P2 _,k9,rfl,S0.out,rfl,B0.out⟩
  case round=>
   obtain⟨k,hk,hk6,rfl,hsix,hall,hbl⟩:=hrel;have HSix:=R1 hsix;have HBL:=R1 hbl;clear hsix hbl S0 B0
   by_cases hlt:k<ds.length
   .obtain⟨x,hx⟩: ∃x,ds[k]?=some x:=⟨ds[k],List.getElem?_eq_getElem hlt⟩
    have dm:ds.drop k=x::ds.drop (k+1):=by
     rw[Y1 hlt];have:=(D9.1 hx).2;rw[this]
    obtain⟨b,o,rfl,hB,c0⟩:=Hb.out.below HBL.out k x hx;have HAll:=R1 (show ds.all jL=(jL x&&(ds.drop (k+1)).all jL) by rw[hall.out,dm,List.all_cons]);have HTk:=R1 (take_dim hx);clear dm hx hall hB
    by_cases h6:k=6
    .have h61:decide ((6:Int)<=(k:Int))=true:=by simp;omega
     have e:bD p ds=(0,23):=by
      unfold bD;rw[hrp,show nD ds=false by unfold nD;rw[decide_eq_false k9];rfl];rfl
     have He:=R1 e;clear e h6
     go_wp2
     go_ret2
     rw[He.out];exact⟨rfl,HBL.out⟩
    .have h61:decide ((6:Int)<=(k:Int))=false:=by simp;omega
     cases hs:jL x
     .have e:bD p ds=(0,23):=by
       unfold bD;rw[hrp,show nD ds=false by unfold nD;rw[HAll.out,hs];simp];rfl
      have He:=R1 e;clear e h6
      have hs':x<0\/2147483648<x:=by
       have:=of_decide_eq_false hs;omega
      rcases Int.lt_or_le x 0 with hx0|hx0
      .have t1:decide (x<0)=true:=by simpa using hx0
       go_wp2
       go_ret2
       rw[He.out];exact⟨rfl,HBL.out⟩
      .have t1:decide (x<0)=false:=by simpa using hx0
       have t2:decide (2147483648<x)=true:=by simp;omega
       go_wp2
       go_ret2
       rw[He.out];exact⟨rfl,HBL.out⟩
     .have hs':0<=x/\x<=2147483648:=of_decide_eq_true hs;have t1:decide (x<0)=false:=by simp;omega
      have t2:decide (2147483648<x)=false:=by simp;omega
      obtain⟨hcell,hfro⟩:=HSix.out.2 k k9;have HA2:=R1 (show ds.all jL=(ds.drop (k+1)).all jL by rw[HAll.out,hs,Bool.true_and]);have HS2:=R1 (show rI (wr.setCell ⟨X,k,none⟩ (.int .i64 x)) X (cL (ds.take (k+1))) by rw[<-HTk.out];exact HSix.out.set k k9 x);have HB2:=R1 (show Below w.heap.size w (wr.setCell ⟨X,k,none⟩ (.int .i64 x))from HBL.out.setCell hXw _);clear HAll HTk HSix HBL hs'
      go_wp2
      go_roundw
      case rel=>exact⟨k+1,k9,k9,by go_num,HS2.out,HA2,HB2.out⟩
      case measure=>simp[intOf];omega
   .have hall1:ds.all jL=true:=by rw[hall.out,R5 k9];rfl
    have HD:=R1 (yI hall1)
    have He:=R1 (show bD p ds=match iT (cL ds) p 0 0 with|some n=>(n,0)|none=>(0,22) by
     unfold bD;rw[hrp,show nD ds=true by unfold nD;rw[hall1,decide_eq_true k9];rfl]
     rfl)
    have HS:=R1 (show rI wr X (cL ds) by have:=HSix.out;rw[List.take_of_length_le k9]at this;exact this)
    have HRP:=R1 (show ∀m∈p,gL m=true by
     unfold cJ at hrp;simp only[G1]at hrp
     exact rS hrp.2)
    clear hall hall1 HSix;generalize cL ds=D at HD He HS⊢
    go_wp2
    go_loopw [41,9,10] (λi sm sz wi=> ∃(j:Nat) (size sum:Int),j<=p.length/\i= .int .i64 j/\sm= .int .i64 sum/\sz= .int .i64 size/\Hid (0<=size/\size<=gE/\ -size<=sum/\sum<=size)/\Hid (iT D p 0 0=iT D (p.drop j) size sum)/\rI wi X D/\Below w.heap.size w wi) (λi _ _ _=>p.length-(intOf i).toNat)
    case atStart=>exact⟨0,0,0,P2 _,rfl,rfl,rfl,⟨k9,by unfold gE;omega,k9,k9⟩,rfl,HS.out,HBL.out⟩
    case round=>
     obtain⟨j,size,sum,hj,rfl,rfl,rfl,hbd,hev,hsix,hbl⟩:=hrel;have HS2:=R1 hsix;have HB2:=R1 hbl;clear hsix hbl HS HBL
     by_cases hlt2:j<p.length
     .obtain⟨m,hm,dm⟩:=mQ hlt2;obtain⟨b,o,rfl,hB,c0,c1,c2,c3,c4,c5,c6⟩:=Ha.out.below HB2.out j m hm;have hsm:gL m=true:=HRP.out m (f4 hm);have hsm':m.n≠0/\m.n<=16777216/\ -16777216<=m.n/\m.deg<=8:=of_decide_eq_true hsm;have HV:=R1 (xE m D (λk=>(HD.out k).1))
      have HE:=R1 (show iT D p 0 0=if (cM m D).2=false\/gE-size<(cM m D).1 then none
        else iT D (p.drop (j+1)) (size+(cM m D).1) (if m.n<0 then sum-(cM m D).1 else sum+(cM m D).1) by rw[hev.out,dm,iT])
      have hX:X<wr.heap.size:=HS2.out.1;have x0:=(HS2.out.2 0 k9).1;have x1:=(HS2.out.2 1 k9).1;have x2:=(HS2.out.2 2 k9).1;have x3:=(HS2.out.2 3 k9).1;have x4:=(HS2.out.2 4 k9).1;have x5:=(HS2.out.2 5 k9).1;have Hval:=R1 (λW=>value_any m D W HD.out ⟨hsm'.2.2.1,hsm'.2.1⟩);have hS3: ∀o,rI (wr.alloc o) X D:=λo=>HS2.out.below ((Below.refl _ _).alloc (Nat.le_refl _) _);have HS3:=R1 hS3;have HB3:=R1 (show ∀o,Below w.heap.size w (wr.alloc o)from λo=>HB2.out.alloc HB2.out.size o);clear hm dm hB hsm hsm' hev hS3 HS2 HB2
      go_wp2_with fail
      refine(Hval.out _).mono ?_;rintro e w5 ⟨rfl,hb5⟩;have q0:dP w5 wr.heap.size 0 m:=dP.below (w:=wr.alloc (.cells #[.int .i64 m.n,.int .u8 m.e0.toNat,.int .u8 m.e1.toNat,.int .u8 m.e2.toNat,.int .u8 m.e3.toNat,.int .u8 m.e4.toNat,.int .u8 m.e5.toNat] 111)) (by simp[dP,go_sem]) hb5 n4;have HS5:=R1 ((HS3.out _).below hb5);have HB5:=R1 ((HB3.out _).trans (hb5.mono (HB3.out _).size));have n0:=q0.zero.1;clear hb5 q0 c0 c1 c2 c3 c4 c5 c6 x0 x1 x2 x3 x4 x5 hX Hval HS3 HB3;generalize cM m D=v at HV HE⊢;obtain⟨n,ok⟩:=v;simp only at HV HE⊢;cases ok
      .have e:bD p ds=(0,22):=by rw[He.out,HE.out,if_pos (.inl rfl)]
       have He2:=R1 e;clear e HE
       go_wp2
       go_ret2
       rw[He2.out];exact⟨rfl,HB5.out⟩
      .obtain⟨g0,g1,g2,g3⟩:=hbd.out;have gn:0<=n:=HV.out;unfold gE at g1
       by_cases hq:gE-size<n
       .have hq1:decide (4611686018427387904-size<n)=true:=by simpa[gE]using hq
        have e:bD p ds=(0,22):=by rw[He.out,HE.out,if_pos (.inr hq)]
        have He2:=R1 e;clear e HE hq
        go_wp2
        go_ret2
        rw[He2.out];exact⟨rfl,HB5.out⟩
       .have hq1:decide (4611686018427387904-size<n)=false:=by simpa[gE]using hq
        have hq2:size+n<=4611686018427387904:=by unfold gE at hq;omega
        by_cases hneg:m.n<0
        .have HE2:=R1 (show iT D p 0 0=iT D (p.drop (j+1)) (size+n) (sum-n) by rw[HE.out,if_neg w6,if_pos hneg]);have hneg1:decide (m.n<0)=true:=by simpa using hneg
         clear HE hq
         go_wp2
         go_roundw
         case rel=>exact⟨j+1,size+n,sum-n,k9,by go_num,by go_num,by go_num,⟨k9,by unfold gE;omega,k9,k9⟩,HE2,HS5.out,HB5.out⟩
         case measure=>simp[intOf];omega
        .have HE2:=R1 (show iT D p 0 0=iT D (p.drop (j+1)) (size+n) (sum+n) by rw[HE.out,if_neg w6,if_neg hneg]);have hneg1:decide (m.n<0)=false:=by simpa using hneg
         clear HE hq
         go_wp2
         go_roundw
         case rel=>exact⟨j+1,size+n,sum+n,k9,by go_num,by go_num,by go_num,⟨k9,by unfold gE;omega,k9,k9⟩,HE2,HS5.out,HB5.out⟩
         case measure=>simp[intOf];omega
     .have e:bD p ds=(sum,0):=by rw[He.out,hev.out,R5 k9,iT]
      have He2:=R1 e;clear e hev
      go_wp2
      go_ret2
      rw[He2.out];exact⟨rfl,HB2.out⟩
end
section
open Go.RowKit Go.Proofs.Tryz
def celT:Tab:=[(3,⟨.int .i64,1⟩),(2,⟨.int .i64,1⟩),(5,⟨.int .u8,1⟩),(4,⟨.bool,1⟩),(77,⟨.int .u8,1⟩),(32,⟨.int .i64,1⟩),(43,⟨.slice 111,1⟩),(42,⟨.slice 43,1⟩),(172,⟨.struct [(3,0),(3,1),(2,2),(43,3),(77,4)],5⟩),(78,⟨.slice 172,1⟩),(95,⟨.struct [(42,0),(3,1)],2⟩),(22,⟨.slice 95,1⟩),(80,⟨.struct [(3,0),(3,1),(43,2),(42,3),(77,4),(78,5)],6⟩),(23,⟨.slice 80,1⟩),(24,⟨.slice 3,1⟩),(99,⟨.slice 4,1⟩),(26,⟨.struct [(3,0),(22,1),(23,2),(24,3)],4⟩),(114,⟨.struct [(3,0),(3,1)],2⟩),(97,⟨.slice 114,1⟩),(201,⟨.struct [(3,0),(3,1),(3,2),(99,3)],4⟩),(27,⟨.slice 2,1⟩),(198,⟨.array 64 4,64⟩),(111,⟨.struct [(2,0),(109,1)],7⟩),(109,⟨.array 6 5,6⟩),(290,⟨.slice 5,1⟩),(224,⟨.int .u64,1⟩),(199,⟨.other,1⟩),(274,⟨.other,1⟩),(126,⟨.other,1⟩),(169,⟨.other,1⟩)]
theorem xD:dU prog celT:=tA.ok
 ⟨⟨by rw[underlying3];rfl,l4⟩,
  ⟨by rw[underlying2];rfl,l4⟩,
  ⟨by rw[underlying5];rfl,l4⟩,
  ⟨by rw[underlying4];rfl,l4⟩,
  ⟨by rw[underlying77];rfl,l4⟩,
  ⟨by rw[underlying32];rfl,l4⟩,
  ⟨by rw[underlying43];rfl,l4⟩,
  ⟨by rw[underlying42];rfl,l4⟩,
  ⟨by rw[underlying172];rfl,l4⟩,
  ⟨by rw[underlying78];rfl,l4⟩,
  ⟨by rw[underlying95];rfl,l4⟩,
  ⟨by rw[underlying22];rfl,l4⟩,
  ⟨by rw[underlying80];rfl,l4⟩,
  ⟨by rw[underlying23];rfl,l4⟩,
  ⟨by rw[underlying24];rfl,l4⟩,
  ⟨by rw[underlying99];rfl,l4⟩,
  ⟨by rw[underlying26];rfl,l4⟩,
  ⟨by rw[underlying114];rfl,l4⟩,
  ⟨by rw[underlying97];rfl,l4⟩,
  ⟨by rw[underlying201];rfl,l4⟩,
  ⟨by rw[underlying27];rfl,l4⟩,
  ⟨by rw[underlying198];rfl,l4⟩,
  ⟨by rw[underlying111];rfl,l4⟩,
  ⟨by rw[underlying109];rfl,l4⟩,
  ⟨by rw[underlying290];rfl,l4⟩,
  ⟨by rw[underlying224];rfl,l4⟩,
  ⟨by rw[underlying199];rfl,l4⟩,
  ⟨by rw[underlying274];rfl,l4⟩,
  ⟨by rw[underlying126];rfl,l4⟩,
  ⟨by rw[underlying169];rfl,l4⟩,e8⟩
theorem bAn: ∃i:TypeInfo,prog.info? 2=some i/\i.zero=some (j5 0)/\i.size=1/\i.bytes=8:=by
 have h:(prog.info? 2).map (λi=>(i.zero,i.size,i.bytes))=some (some (.int .i64 0),1,8):=l4
 cases a:prog.info? 2 with
 |none=>simp[a]at h
 |some i=>simp[a]at h;exact⟨i,rfl,h.1,h.2.1,h.2.2⟩
theorem pC{β:dE}{n:Nat}{Γ:Env}{H:List bC}{F:List bE}{Q:Exit->Act->World->Prop}{ops:Array Oper}{rest:List Oper}{o:Oper}{d:Nat}{x:Operand}{m:Int}(hw:want ops Γ o=some true)(ho:o.op= .buildSlice 27 1 #[(0,x)])(hd:o.dst=some d)(hn:C0 d n=true)
  (hx:Γ.ev x=some (j5 m)) (k: ∀b,At β n ((d,.slice (some ⟨b,0,none⟩) 1 1)::Γ) (.obj b (.cells (cK.all [m]).toArray 2)::H) F (wpList prog ops Q rest)):At β n Γ H F (wpList prog ops Q (o::rest)):=by
 obtain⟨i,c,hz,a,_⟩:=bAn;refine pR hw ho hd hn hx underlying27 c hz k9 k9 ?_ k;rw[a]
 kernel_rfl
theorem bRq{β:dE}{n:Nat}{Γ:Env}{H:List bC}{F:List bE}{Q:Exit->Act->World->Prop}{ops:Array Oper}{rest:List Oper}{o:Oper}{d:Nat}(hw:want ops Γ o=some true)(ho:o.op= .buildSlice 27 0 #[])(hd:o.dst=some d)(hn:C0 d n=true)
  (k: ∀b,At β n ((d,.slice (some ⟨b,0,none⟩) 0 0)::Γ) (cK.row (.slice (some ⟨b,0,none⟩) 0 0) 2 []::H) F (wpList prog ops Q rest)):At β n Γ H F (wpList prog ops Q (o::rest)):=by
 obtain⟨i,a,_⟩:=bAn;exact bHs cK hw ho hd hn underlying27 a k
theorem mP{β:dE}{n:Nat}{Γ:Env}{H:List bC}{F:List bE}{Q:Exit->Act->World->Prop}{ops:Array Oper}{rest:List Oper}{o:Oper}{d:Nat}{x y:Operand}{c q:Nat}{v:Value}{A:Option Addr}{xs ys:List Int}{H':List bC}(hH:bU H (cK.row v 2 xs) H')(hr:dO β H F cK A ys)(hg:o.guard=none)
  (ho:o.op= .call {callee:= .builtin .append,args:= #[x,y],argTypes:= #[27,27]}) (hd:o.dst=some d) (hn:C0 d n=true)
  (hx:Γ.ev x=some v) (hy:Γ.ev y=some (.slice A q c)) (hq:q=ys.length) (hl:xs.length+ys.length<=17592186044416)
  (k: ∀A' cap',At β n ((d,.slice A' (xs++ys).length cap')::Γ) (cK.row (.slice A' (xs++ys).length cap') 2 (xs++ys)::H') F (wpList prog ops Q rest)):At β n Γ H F (wpList prog ops Q (o::rest)):=by
 obtain⟨i,b,hz,a,hb⟩:=bAn;exact jW hH hr hg ho hd hn underlying27 b hz a hb rfl hx hy hq k9 l5 k
theorem ints_of{S:jX}{w:World}{A:Option Addr}{k c:Nat}{l:List Int}(hS: ∀b,S b->b<w.heap.size)(h:(cK.sl (.slice A k c) l).p S w):Ints w A l:=λi d m=>by
 obtain⟨q,cap,e,h⟩:=h;injection e with f j g
 subst f;obtain⟨b,o,cs,f,j,g,a⟩:=h i d m;have a:cs=[.int .i64 d]:=a;subst a;refine⟨b,o,f,hS b j,?_⟩;have:=g 0 _ rfl;have n:cK.size=1:=rfl;rw[show(Enc.flat cK.size cK.cells).size=1 from rfl]at this
 simpa using this
theorem bCt(p:PolV)(B:Option Addr)(d:Nat)(ds:List Int)(hp:p.list.length<=140737488355328)(hq:ds.length<=140737488355328):bZ prog 15 [j0 p,.slice B ds.length d] [] [fB p,cK.sl (.slice B ds.length d) ds] (λ_:Unit=> .tuple #[j5 (bD p.list ds).1,j5 (bD p.list ds).2]) (λ_=>[]) (λ_=>[]):=
 sJ λ_ w a h=>eval_any _ _ _ _ _ _ w (mE a (h _ (.head _))) (ints_of a (h _ (.tail _ (.head _)))) hp hq
def bUt (dims:List Int)(p:List Mono):Bool:=(bD p dims).2==0&&decide (0<=(bD p dims).1)&&decide ((bD p dims).1<=65536)
def sidesGo(dims:List Int):List (List Mono)->List Int->Option (List Int)
 |[],acc=>some acc
 |p::r,acc=>if bUt dims p=true then sidesGo dims r (acc++[(bD p dims).1])else none
def prodQ:List Int->Int->Option Int
 |[],a=>some a
 |n::r,a=>if 65536<a*n then none else prodQ r (a*n)
def sizeB (sides:List (List Mono))(dims:List Int):Option Int:=match sidesGo dims sides []with
 |none=>none
 |some l=>if l.contains 0 then some 0 else prodQ l 1
def cellsGo(dims:List Int):List gP->Int->Int×Int
 |[],all=>(all,0)
 |b::r,all=>match sizeB b.sides dims with
  |none=>(0,102)
  |some n=>if 1048576<all+n then (0,102)else cellsGo dims r (all+n)
def badD (n:Int):Bool:=decide (n<0) || decide (65536<n)
def qQ (vars:Int)(dims:List Int):Bool:=decide ((dims.length:Int)=vars)&& !dims.any badD
def dX (c:dA)(dims:List Int):Int×Int:=if cY c=true then if qQ c.vars dims=true then cellsGo dims c.bufs 0 else (0,101)else (0,100)
def inSz (l:List Int):Prop:= ∀n∈l,0<=n/\n<=65536
section
variable {dims acc : List Int} {l : List (List Mono)} {p : List Mono} {i : Nat} {R : Option (List Int)}
theorem sides_yes(h:R=sidesGo dims (l.drop i) acc)(hp:l[i]?=some p)(h1:(bD p dims).2=0)(h2:0<=(bD p dims).1)(h3:(bD p dims).1<=65536):R=sidesGo dims (l.drop (i+1)) (acc++[(bD p dims).1]):=by
 obtain⟨hlt,e⟩:=D9.1 hp;rw[h,<-Y2 hlt,e,sidesGo,if_pos (by simp[bUt,h1,h2,h3])]
theorem bMz(h:R=sidesGo dims (l.drop i) acc)(hp:l[i]?=some p)(h1:(bD p dims).2≠0\/(bD p dims).1<0\/65536<(bD p dims).1):R=none:=by
 obtain⟨hlt,e⟩:=D9.1 hp;rw[h,<-Y2 hlt,e,sidesGo,if_neg];simp only[bUt,G1,beq_iff_eq,decide_eq_true_eq];rintro⟨⟨a,b⟩,c⟩;omega
theorem sides_end(h:R=sidesGo dims (l.drop i) acc)(hi:l.length<=i):R=some acc:=by
 rw[h,R5 hi,sidesGo]
theorem bUh{n:Int}(h:inSz acc)(h2:0<=n)(h3:n<=65536):inSz (acc++[n]):=λy a=>by
 rcases List.mem_append.1 a with a|a
 .exact h y a
 .have e:y=n:=by simpa using a
  subst e;exact⟨h2,h3⟩
end
section
variable {l : List Int} {a n : Int} {i : Nat} {R : Option Int}
theorem prod_yes(h:R=prodQ (l.drop i) a)(hp:l[i]?=some n)(h1:a*n<=65536):R=prodQ (l.drop (i+1)) (a*n):=by
 obtain⟨hlt,e⟩:=D9.1 hp;rw[h,<-Y2 hlt,e,prodQ,if_neg k9]
theorem prod_no(h:R=prodQ (l.drop i) a)(hp:l[i]?=some n)(h1:65536<a*n):R=none:=by
 obtain⟨hlt,e⟩:=D9.1 hp;rw[h,<-Y2 hlt,e,prodQ,if_pos h1]
theorem prod_end(h:R=prodQ (l.drop i) a)(hi:l.length<=i):R=some a:=by
 rw[h,R5 hi,prodQ]
theorem mul_in(ha:0<=a/\a<=65536)(hn:0<=n/\n<=65536):0<=a*n/\a*n<=4294967296:=by
 refine⟨Y9 ha.1 hn.1,?_⟩;have h1:a*n<=65536*n:=Z0 ha.2 hn.1;omega
theorem prodQ_in: ∀{l:List Int} {a r:Int},0<=a->a<=65536->inSz l->prodQ l a=some r->0<=r/\r<=65536
 |[],a,r,h0,h1,_,h=>by cases h;exact⟨h0,h1⟩
 |n::l,a,r,h0,h1,hl,h=>by
  unfold prodQ at h;have hn:=hl n (List.mem_cons_self ..);split at h
  .cases h
  .exact prodQ_in (mul_in ⟨h0,h1⟩ hn).1 k9 (λy b=>hl y (List.mem_cons_of_mem _ b)) h
end
theorem bPb{dims:List Int}: ∀{l:List (List Mono)} {acc r:List Int},inSz acc->sidesGo dims l acc=some r->inSz r
 |[],acc,r,ha,h=>by cases h;exact ha
 |p::l,acc,r,ha,h=>by
  unfold sidesGo at h;split at h
  .rename_i a;simp only[bUt,G1,beq_iff_eq,decide_eq_true_eq]at a;exact bPb (bUh ha a.1.2 a.2) h
  .cases h
theorem bNl{sides:List (List Mono)}{dims:List Int}{n:Int}(h:sizeB sides dims=some n):0<=n/\n<=65536:=by
 unfold sizeB at h;split at h
 .cases h
 .rename_i l hl;split at h
  .cases h;omega
  .exact prodQ_in k9 k9 (bPb (λ_ h=>by cases h) hl) h
theorem indexF6_spec(A:Option Addr)(c:Nat)(l:List Int)(hl:l.length<=140737488355328)(f:FuncId)(cap:List Value)(G:List bE)(p:Int->Bool)(hcf: ∀(args:Array Value) (w:World),(callFunc f args).run prog w= .ok (.enter f args) w)(hf: ∀k:Int,bZ prog f (j5 k::cap) [] G (λ_:Unit=> .bool (p k)) (λ_=>[]) (λ_=>[])):bZ prog 126 [.slice A l.length c,.func (.func f) #[] cap.toArray] [] (cK.sl (.slice A l.length c) l::G) (λ(_:Unit)=> j5 (oN p l 0)) (λ_=>[]) (λ_=>[]):=by
 have hT:=xD;generalize h:oN p l 0=r;refine i7 func126 ntmps126 ?_;intro β hM;refine g14 ?_;refine bY (ι:=Nat) [(0,_),(1,_),(7,_)] ⟨rfl,rfl,rfl,e8⟩ (λi=>[(8,.int .i64 (i:Nat))]) (λ_=>[]) (λi=>[bE.pure (i<=l.length/\r=oN p (l.drop i) i)]) (λi=>l.length-i) 0 ⟨rfl,e8⟩ .nil ⟨e9 (⟨k9,h.symm⟩),e8⟩ ?_;rintro i;refine bM d7 λa=>?_;refine g6 ?_;refine fD (λe=>?_) λe=>?_
 .refine g15 ?_;obtain⟨g,b⟩:=gx l i;refine ss (ixs i) ?_;refine ss (jB b 0) ?_;refine lA hcf (hf g) rfl rfl rfl rfl rfl rfl rfl .nil (bA.drop 2) λ_=>?_;refine g2 ?_;refine uY (λd=>?_) λd=>?_
  .refine g12 ?_;obtain rfl:=(lK a.2 b).1 ‹_›;exact rs1 () trivial
  refine g5 ?_;refine inc (i+1) ?_;refine g3 ?_;exact bk2 (i+1) ⟨e9 (⟨k9,(lK a.2 b).2 ‹_›⟩),e8⟩
 refine g11 ?_;have hr:=zR a.2 k9;subst hr;exact rs1 () trivial
theorem xT(A:Option Addr)(c:Nat)(l:List Int)(hl:l.length<=140737488355328)(f:FuncId)(cap:List Value)(G:List bE)(p:Int->Bool)(hcf: ∀(args:Array Value) (w:World),(callFunc f args).run prog w= .ok (.enter f args) w)(hf: ∀k:Int,bZ prog f (j5 k::cap) [] G (λ_:Unit=> .bool (p k)) (λ_=>[]) (λ_=>[])):bZ prog 61 [.slice A l.length c,.func (.func f) #[] cap.toArray] [] (cK.sl (.slice A l.length c) l::G) (λ(_:Unit)=> .bool (l.any p)) (λ_=>[]) (λ_=>[]):=by
 have hT:=xD;refine i7 func61 ntmps61 ?_;intro β hM;refine g9 ?_;refine f7 func126 (indexF6_spec A c l hl f cap G p hcf hf) .nil bA.self λ_=>?_;refine g5 ?_;exact rs1 () e8 (he:=congrArg V6 (zH p l 0 l5))
theorem index6_spec(A:Option Addr)(c:Nat)(l:List Int)(hl:l.length<=140737488355328)(k:Int):bZ prog 128 [.slice A l.length c,j5 k] [] [cK.sl (.slice A l.length c) l] (λ(_:Unit)=> j5 (bHk k l 0)) (λ_=>[]) (λ_=>[]):=by
 have hT:=xD;generalize f:bHk k l 0=r;refine i7 func128 ntmps128 ?_;intro β hM;refine g14 ?_;refine bY (ι:=Nat) [(0,_),(1,_),(7,_)] ⟨rfl,rfl,rfl,e8⟩ (λi=>[(8,.int .i64 (i:Nat))]) (λ_=>[]) (λi=>[bE.pure (i<=l.length/\r=bHk k (l.drop i) i)]) (λi=>l.length-i) 0 ⟨rfl,e8⟩ .nil ⟨e9 (⟨k9,f.symm⟩),e8⟩ ?_;rintro i;refine bM d7 λa=>?_;refine g6 ?_;refine fD (λe=>?_) λe=>?_
 .refine g15 ?_;obtain⟨g,b⟩:=gx l i;refine ss (ixs i) ?_;refine ss (jB b 0) ?_;refine g3 ?_;refine fG (λd=>?_) λd=>?_
  .refine g12 ?_;have hr:=(zS a.2 b).1 (by first|assumption|(symm;assumption));subst hr;exact rs1 () trivial
  refine g5 ?_;refine inc (i+1) ?_;refine g3 ?_;exact bk2 (i+1) ⟨e9 (⟨k9,(zS a.2 b).2 ‹_›⟩),e8⟩
 refine g11 ?_;have hr:=idxI_end a.2 k9;subst hr;exact rs1 () trivial
theorem pE(A:Option Addr)(c:Nat)(l:List Int)(hl:l.length<=140737488355328)(k:Int):bZ prog 67 [.slice A l.length c,j5 k] [] [cK.sl (.slice A l.length c) l] (λ(_:Unit)=> .bool (l.contains k)) (λ_=>[]) (λ_=>[]):=by
 have hT:=xD;refine i7 func67 ntmps67 ?_;intro β hM;refine g9 ?_;refine f7 func128 (index6_spec A c l hl k) .nil ⟨d7,e8⟩ λ_=>?_;refine g5 ?_;exact rs1 () e8 (he:=congrArg V6 (uL k l 0 l5))
theorem sizeC_spec(sides:Sl PolV)(DA:Option Addr)(dcap:Nat)(dims:List Int)(hdl:dims.length<=140737488355328):bZ prog 63 [j0 sides,.slice DA dims.length dcap] [] [tV sides,cK.sl (.slice DA dims.length dcap) dims] (λ(_:Unit)=> .tuple #[j5 ((sizeB (polsL sides.list) dims).getD 0),.bool (sizeB (polsL sides.list) dims).isSome]) (λ_=>[]) (λ_=>[]):=by
 have hT:=xD
 obtain⟨R,c⟩: ∃R,sidesGo dims (polsL sides.list) []=R:=⟨_,rfl⟩
 refine i7 func63 ntmps63 ?_;intro β hM;refine fS<|bP (iY.sl (.slice sides.addr sides.list.length sides.cap) sides.list) (qM d7) ?_;refine bM (wL d8) λd=>?_;have v:=d.1;have u:=d.2;refine cG (t:=2) cK ?_;refine g19 ?_;refine bY (ι:=Option Addr×Nat×List Int×Nat) [(1,_),(14,_),(15,_)] ⟨rfl,rfl,rfl,e8⟩ (λ⟨LA,lc,acc,i⟩=>[(6,.slice LA acc.length lc),(16,.int .i64 (i:Nat))]) (λ⟨LA,lc,acc,i⟩=>[cK.row (.slice LA acc.length lc) 2 acc]) (λ⟨LA,lc,acc,i⟩=>[bE.pure (i<=sides.list.length/\acc.length=i/\inSz acc/\R=sidesGo dims ((polsL sides.list).drop i) acc)]) (λ⟨LA,lc,acc,i⟩=>sides.list.length-i) (none,0,[],0) ⟨rfl,rfl,e8⟩ (.c0 .nil) ⟨e9 (⟨k9,rfl,λ_ h=>(by cases h),c.symm⟩),e8⟩ ?_;rintro⟨LA,lc,acc,i⟩;dsimp only;refine bM d7 λa=>?_;have y:=a.2.1;refine g6 ?_;refine fD (λq=>?_) λq=>?_
 .refine g5 ?_;obtain⟨x,hx⟩:=gx sides.list i;refine bP (fB x) (Has.each (qJ d9) (f4 hx)) ?_;refine one ?_;refine ss (ixs i) ?_;refine ss (jB hx 0) ?_;refine g7 ?_;refine bM (gI d7) λr=>?_;refine f7 func15 (bCt x DA dcap dims r hdl) .nil ⟨d7,e7,e8⟩ λ_=>?_;refine g13 ?_;refine k_ne (λg=>?_) λg=>?_
  .refine g23 ?_;have hz:sizeB (polsL sides.list) dims=none:=by unfold sizeB;rw[c,bMz a.2.2.2 (cW hx) k9]
   exact rs2 () e8 (he:=by rw[hz];rfl)
  refine g4 ?_;refine vP (λf=>?_) λf=>?_
  .refine g19 ?_;have hz:sizeB (polsL sides.list) dims=none:=by unfold sizeB;rw[c,bMz a.2.2.2 (cW hx) k9]
   exact rs2 () e8 (he:=by rw[hz];rfl)
  refine g5 ?_;refine fD (λp=>?_) λp=>?_
  .refine g13 ?_;have hz:sizeB (polsL sides.list) dims=none:=by unfold sizeB;rw[c,bMz a.2.2.2 (cW hx) k9]
   exact rs2 () e8 (he:=by rw[hz];rfl)
  refine g5 ?_;refine pC (m:=(bD x.list dims).1) rfl rfl rfl rfl rfl λA=>?_;refine mP kT1 (fZ .head rfl) rfl rfl rfl rfl rfl rfl rfl p8 λz c3=>?_;refine g6 ?_;refine inc (i+1) ?_;refine g3 ?_;exact bk2 (z,c3,acc++[(bD x.list dims).1],i+1) ⟨e9 (⟨by dsimp only;omega,by dsimp only;rw[List.length_append,List.length_singleton];omega,bUh a.2.2.1 k9 k9,sides_yes a.2.2.2 (cW hx) ‹_› k9 k9⟩),e8⟩
 refine g9 ?_;have b:=sides_end a.2.2.2 o8;refine iQ (E:=cK) .head ?_;refine bG func67 (pE LA lc acc k9 0) rfl rfl .nil ⟨d7,e8⟩ λ_=>?_;refine g2 ?_;refine uY (λo=>?_) λo=>?_
 .refine g8 ?_;have hz:sizeB (polsL sides.list) dims=some 0:=by unfold sizeB;rw[c,b];dsimp only;rw[if_pos ‹_›]
  exact rs2 () e8 (he:=by rw[hz];rfl)
 refine g3 ?_
 obtain⟨Q,s⟩: ∃Q,prodQ acc 1=Q:=⟨_,rfl⟩
 refine g13 ?_;refine bY (ι:=Int×Nat) [(43,_),(44,_)] ⟨rfl,rfl,e8⟩ (λ⟨al,j⟩=>[(11,.int .i64 al),(45,.int .i64 (j:Nat))]) (λ_=>[]) (λ⟨al,j⟩=>[bE.pure (j<=acc.length/\0<=al/\al<=65536/\Q=prodQ (acc.drop j) al)]) (λ⟨al,j⟩=>acc.length-j) (1,0) ⟨rfl,rfl,e8⟩ .nil ⟨e9 (⟨k9,k9,k9,s.symm⟩),e8⟩ ?_;rintro⟨al,j⟩;dsimp only;refine bM d7 λhinv14=>?_;refine g6 ?_;refine fD (λl=>?_) λl=>?_
 .refine g5 ?_;obtain⟨n,hn⟩:=gx acc j;have e:=a.2.2.1 n (f4 hn);have w:=mul_in ⟨hinv14.2.1,hinv14.2.2.1⟩ e;refine one ?_;refine ss (ixs j) ?_;refine ss (jB hn 0) ?_;refine g8 ?_;refine bF (nN k9 k9) ?_;refine g9 ?_;refine fD (λk=>?_) λk=>?_
  .refine g12 ?_;have hz:sizeB (polsL sides.list) dims=none:=by unfold sizeB;rw[c,b];dsimp only;rw[if_neg (by simp_all),s];exact prod_no hinv14.2.2.2 hn k9
   exact rs2 () e8 (he:=by rw[hz];rfl)
  refine g5 ?_;refine inc (j+1) ?_;refine g3 ?_;exact bk2 (al*n,j+1) ⟨e9 (⟨by dsimp only;omega,(mul_in ⟨hinv14.2.1,hinv14.2.2.1⟩ e).1,by dsimp only;omega,prod_yes hinv14.2.2.2 hn k9⟩),e8⟩
 refine g13 ?_;have hz:sizeB (polsL sides.list) dims=some al:=by unfold sizeB;rw[c,b];dsimp only;rw[if_neg (by simp_all),s];exact prod_end hinv14.2.2.2 k9
 exact rs2 () e8 (he:=by rw[hz];rfl)
def dQ.c (x:dQ):LifeC:=⟨x.from_,x.to_⟩
def LifeC.v(x:LifeC):dQ:=⟨x.from_,x.to_⟩
def lc (l:List dQ):List LifeC:=l.map dQ.c
def lv (l:List LifeC):List dQ:=l.map LifeC.v
theorem lv_lc(l:List dQ):lv (lc l)=l:=by
 unfold lv lc;rw[List.map_map];exact List.map_id'' (λ_=>rfl) l
theorem lc_len(l:List dQ):(lc l).length=l.length:=K3 _
theorem bGy(l:List LifeC):(lv l).length=l.length:=K3 _
theorem lc_set(l:List dQ)(k:Nat)(y:dQ):lc (l.set k y)=(lc l).set k y.c:=List.map_set
theorem lc_get(l:List dQ)(k:Nat):(lc l)[k]?=(l[k]?).map dQ.c:=List.getElem?_map
section
variable {L : List LifeC} {i : Int} {k : Nat} {y : LifeC}
theorem bNi{α:Type}{L:List α}{k:Nat}{y:α}(f:α->α)(h:L[k]?=some y):L.set k (f y)=L.modify k f:=by
 apply Y3;intro j;rw[List.getElem?_set,List.getElem?_modify];have a:=(D9.1 h).1
 by_cases e:k=j
 .subst e;rw[h];simp[a]
 .simp[e]
theorem bIi(h:L[k]?=some y):L.set k ⟨y.from_,i⟩=iA i L k:=bNi (λx:LifeC=>{x with to_:=i}) h
theorem setFrom_set(h:L[k]?=some y):L.set k ⟨i,y.to_⟩=bAu i L k:=bNi (λx:LifeC=>{x with from_:=i}) h
end
section
variable {c : dA} {li lj : List dQ} {dn : List Bool} {i j k : Nat} {y : dQ} {u : gP} {r G : List LifeC} {x : bX} {us : List Int} {z : Int} {m : Int}
def bKg (c:dA)(i:Nat)(li:List dQ):Prop:=li.length=c.bufs.length/\ ∀j u,c.bufs[j]?=some u-> ∃y,li[j]?=some y/\y.to_= -1/\y.from_=if j<i/\(0<=u.input\/c.outs.contains (j:Int)=true)then-1 else 0
theorem live_start:bKg c 0 (T9 c.bufs.length ⟨0,-1⟩):=by
 refine⟨X2,λj u a=>⟨⟨0,-1⟩,?_,rfl,?_⟩⟩
 .rw[List.getElem?_replicate,if_pos (D9.1 a).1]
 .rw[if_neg k9]
theorem live_yes(h:bKg c i li)(hu:c.bufs[i]?=some u)(hy:li[i]?=some y)(e:0<=u.input\/c.outs.contains (i:Int)=true):bKg c (i+1) (li.set i ⟨-1,y.to_⟩):=by
 refine⟨by rw[P6];exact h.1,λj u' a=>?_⟩;obtain⟨f,h1,b,g⟩:=h.2 j u' a
 by_cases d:i=j
 .subst d;rw[hy]at h1;injection h1 with h1
  subst h1;rw[hu]at a;injection a with a
  subst a;refine⟨⟨-1,y.to_⟩,P7 (D9.1 hy).1,b,?_⟩;rw[if_pos ⟨k9,e⟩]
 .refine⟨f,by rw[List.getElem?_set_ne d];exact h1,b,?_⟩;rw[g];have:j<i+1↔j<i:=k9
  simp[this]
theorem live_no(h:bKg c i li)(hu:c.bufs[i]?=some u)(e1:u.input<0)(e2:c.outs.contains (i:Int)=false):bKg c (i+1) li:=by
 refine⟨h.1,λj u' a=>?_⟩;obtain⟨b,h1,e,d⟩:=h.2 j u' a;refine⟨b,h1,e,?_⟩;rw[d]
 by_cases f:i=j
 .subst f;rw[hu]at a;injection a with a
  subst a;rw[if_neg k9,if_neg];rintro⟨_,h|h⟩
  .omega
  .rw[e2]at h;cases h
 .have:j<i+1↔j<i:=k9
  simp[this]
theorem live_end(h:bKg c i li)(hi:c.bufs.length<=i):lc li=wN c.outs 0 c.bufs:=by
 apply Y3;intro j;rw[lc_get,yQ]
 cases b:c.bufs[j]? with
 |none=>
  rw[Y4.2 (by rw[h.1];exact Y4.1 b)];rfl
 |some u=>
  obtain⟨f,h1,e,d⟩:=h.2 j u b;have:=(D9.1 b).1;rw[h1,Option.map_some,Option.map_some,dQ.c,e,d,Nat.zero_add];have a:j<i:=k9
  simp[a]
def StepI (c:dA)(k:Nat)(li:List dQ)(dn:List Bool)(r:List LifeC):Prop:=li.length=c.bufs.length/\dn.length=c.bufs.length/\r=(c.outs.map Z1).foldl (iA c.steps.length) (rJ k (c.steps.drop k) (lc li,dn)).1
theorem step_start(h:bKg c i li)(hi:c.bufs.length<=i):StepI c 0 li (T9 c.bufs.length false) (cX c):=by
 refine⟨h.1,X2,?_⟩;rw[live_end h hi];rfl
theorem bSk(h:StepI c k li dn r)(hx:c.steps[k]?=some x)(h1:lc lj=(kH k x (lc li,dn)).1){dn':List Bool}(h2:dn'=dn.set x.buf.toNat true):StepI c (k+1) lj dn' r:=by
 subst h2;refine⟨?_,by rw[P6];exact h.2.1,?_⟩
 .rw[<-lc_len,h1,wD,lc_len];exact h.1
 .rw[h.2.2,show c.steps.drop k=x::c.steps.drop (k+1)from by
   obtain⟨a,e⟩:=D9.1 hx;rw[<-e]
   exact Y1 a,rJ,h1]
  rfl
theorem stepI_end(h:StepI c k li dn r)(hk:c.steps.length<=k):r=(c.outs.map Z1).foldl (iA c.steps.length) (lc li):=by
 rw[h.2.2,R5 hk];rfl
def UseI (m:Int)(us:List Int)(j:Nat)(G:List LifeC)(li:List dQ):Prop:=G=((us.drop j).map Z1).foldl (iA m) (lc li)
theorem use_step(h:UseI m us j G li)(hz:us[j]?=some z)(hy:li[z.toNat]?=some y):UseI m us (j+1) G (li.set z.toNat ⟨y.from_,m⟩):=by
 unfold UseI at*
 rw[h,show us.drop j=z::us.drop (j+1)from by
   obtain⟨a,e⟩:=D9.1 hz;rw[<-e]
   exact Y1 a,List.map_cons,List.foldl_cons,lc_set]
 congr 1
 exact(bIi (y:=y.c) (by rw[lc_get,hy];rfl)).symm
theorem use_end(h:UseI m us j G li)(hj:us.length<=j):lc li=G:=by
 unfold UseI at h;rw[h,R5 hj];rfl
theorem bUc(l:List OpV)(L:List LifeC):((oH l).map Z1).foldl (iA m) L=(vE (opsL l)).foldl (iA m) L:=by
 apply Y3;intro b;rw[pZ,pZ]
 congr 1
 funext x
 have:b∈(oH l).map Z1↔b∈vE (opsL l):=by
  simp only[List.mem_map,vE,List.mem_filterMap,opsL];constructor
  .rintro⟨z,hz,e⟩;obtain⟨o,ho,h4,a⟩:=bIl.1 hz;exact⟨o.c,⟨o,ho,rfl⟩,by rw[if_pos (show o.c.how=4 from h4)];show some o.k.toNat=_;rw[a,e]⟩
  .rintro⟨_,⟨o,ho,rfl⟩,e⟩
   by_cases h4:o.c.how=4
   .rw[if_pos h4]at e;injection e with e
    exact⟨o.k,bIl.2 ⟨o,ho,h4,rfl⟩,e⟩
   .rw[if_neg h4]at e;cases e
 simp only[this]
section
variable {s : gV}
theorem made_new(h:UseI m (oH s.ops.list) j G lj)(hj:(oH s.ops.list).length<=j)(hG:G=((oH s.ops.list).map Z1).foldl (iA m) (lc li))(hd:dn[s.buf.toNat]?=some false)(hy:lj[s.buf.toNat]?=some y):
  lc ((lj.set s.buf.toNat ⟨m,y.to_⟩).set s.buf.toNat ⟨m,m⟩)=(kH m s.c (lc li,dn)).1:=by
 have e:=use_end h hj;rw[hG,bUc]at e;have a:dn.getD s.buf.toNat false=false:=by rw[U5,hd];rfl
 unfold kH;show _=iA m (if dn.getD s.buf.toNat false=true then _ else _) s.buf.toNat;rw[a,if_neg l5];show _=iA m (bAu m ((vE (opsL s.ops.list)).foldl (iA m) (lc li)) s.buf.toNat) s.buf.toNat;rw[<-e,lc_set,lc_set];have h1:(lc lj)[s.buf.toNat]?=some y.c:=by rw[lc_get,hy];rfl
 rw[<-setFrom_set (y:=y.c) h1];have b:((lc lj).set s.buf.toNat ⟨m,y.to_⟩)[s.buf.toNat]?=some ⟨m,y.to_⟩:=P7 (D9.1 h1).1;exact bIi (y:=⟨m,y.to_⟩) b
theorem made_old(h:UseI m (oH s.ops.list) j G lj)(hj:(oH s.ops.list).length<=j)(hG:G=((oH s.ops.list).map Z1).foldl (iA m) (lc li))(hd:dn[s.buf.toNat]?=some true)(hy:lj[s.buf.toNat]?=some y):
  lc (lj.set s.buf.toNat ⟨y.from_,m⟩)=(kH m s.c (lc li,dn)).1/\dn=dn.set s.buf.toNat true:=by
 have e:=use_end h hj;rw[hG,bUc]at e;have a:dn.getD s.buf.toNat false=true:=by rw[U5,hd];rfl
 refine⟨?_,?_⟩
 .unfold kH;show _=iA m (if dn.getD s.buf.toNat false=true then _ else _) s.buf.toNat;rw[a,if_pos rfl];show _=iA m ((vE (opsL s.ops.list)).foldl (iA m) (lc li)) s.buf.toNat;rw[<-e,lc_set];exact bIi (y:=y.c) (by rw[lc_get,hy];rfl)
 .have hlt:=(D9.1 hd).1;have:=(D9.1 hd).2;rw[<-this,List.set_getElem_self]
end
def OutI (c:dA)(j:Nat)(li:List dQ)(r:List LifeC):Prop:=li.length=c.bufs.length/\r=((c.outs.drop j).map Z1).foldl (iA c.steps.length) (lc li)
theorem out_step(h:OutI c j li r)(hz:c.outs[j]?=some z)(hy:li[z.toNat]?=some y):OutI c (j+1) (li.set z.toNat ⟨y.from_,(c.steps.length:Nat)⟩) r:=by
 refine⟨by rw[P6];exact h.1,?_⟩;have:=use_step (us:=c.outs) (m:=c.steps.length) (G:=r) h.2 hz hy;exact this
theorem out_stepN{n:Nat}(hn:c.steps.length=n)(h:OutI c j li r)(hz:c.outs[j]?=some z)(hy:li[z.toNat]?=some y):OutI c (j+1) (li.set z.toNat ⟨y.from_,(n:Nat)⟩) r:=by
 subst hn;exact out_step h hz hy
theorem out_end(h:OutI c j li r)(hj:c.outs.length<=j):li=lv r:=by
 rw[h.2,R5 hj];exact(lv_lc li).symm
theorem bTg{vars:Int}{bufs:List gP}: ∀{r:List bX} {made:List Bool},made.length=bufs.length->mF vars bufs r made=true-> ∀x∈r,0<=x.buf/\x.buf<bufs.length/\ ∀o∈x.ops,o.how=4->0<=o.k/\o.k<bufs.length
 |[],_,_,_,x,hx=>by cases hx
 |y::r,made,hm,h,x,hx=>by
  rw[mF,G1,G1,G1]at h;obtain⟨⟨h1,g⟩,d,h4⟩:=h
  rcases C9.1 hx with rfl|hx
  .have h0:0<=x.buf:=of_decide_eq_true h1;refine⟨h0,?_,λo ho e=>?_⟩
   .cases hb:bufs[x.buf.toNat]? with
    |none=>rw[hb]at g;cases g
    |some b=>
     have:=(D9.1 hb).1;omega
   .unfold nB at d;simp only[G1]at d;have a:=D6.1 d.2.2.2.2.2 o ho;unfold opB at a;rw[if_neg k9,if_neg k9,if_neg k9,if_pos e]at a;simp only[G1,decide_eq_true_eq]at a;refine⟨a.1.1,?_⟩;have c:=a.2.1;rw[U5]at c
    cases f:made[o.k.toNat]? with
    |none=>rw[f]at c;cases c
    |some b=>
     have:=(D9.1 f).1;omega
  .exact bTg (by rw[P6];exact hm) h4 x hx
theorem bFj(h:cY c=true):(c.bufs.length<=1024/\c.steps.length<=1024/\c.outs.length<=64)/\(∀x∈c.steps,0<=x.buf/\x.buf<c.bufs.length/\ ∀o∈x.ops,o.how=4->0<=o.k/\o.k<c.bufs.length)/\ ∀k∈c.outs,0<=k/\k<c.bufs.length:=by
 obtain⟨h1,b,a,h4⟩:=fL h;exact⟨h1.2.2,bTg (pX _) a,h4⟩
theorem uses_in{s:gV}{n:Nat}(h: ∀o∈s.c.ops,o.how=4->0<=o.k/\o.k<n)(hz:z∈oH s.ops.list):0<=z/\z<n:=by
 obtain⟨o,ho,h4,a⟩:=bIl.1 hz;have:=h o.c (List.mem_map.2 ⟨o,ho,rfl⟩) h4;rw[<-a];exact this
theorem lX:(cX c).length=c.bufs.length:=by
 unfold cX;rw[xI]
 have: ∀(r:List bX) (i:Int) (s:List LifeC×List Bool),(rJ i r s).1.length=s.1.length:=λr=>by
  induction r with
  |nil=>exact λ_ _=>rfl
  |cons x r ih=>exact λi s=>by rw[rJ,ih,wD]
 rw[this,bBz]
end
theorem sizeB_get{sides:List (List Mono)}{dims:List Int}{z:Option Int}(h:sizeB sides dims=z):0<=z.getD 0/\z.getD 0<=65536:=by
 cases z with
 |none=>exact⟨by show(0:Int)<=0;omega,by show(0:Int)<=65536;omega⟩
 |some n=>exact bNl h
section
variable {dims : List Int} {l : List gP} {al : Int} {i : Nat} {R : Int × Int} {b : gP} {z : Option Int}
theorem cells_yes(h:R=cellsGo dims (l.drop i) al)(hu:l[i]?=some b)(hz:sizeB b.sides dims=z)(hs:z.isSome=true)(h1:al+z.getD 0<=1048576):R=cellsGo dims (l.drop (i+1)) (al+z.getD 0):=by
 obtain⟨hlt,e⟩:=D9.1 hu
 cases z with
 |none=>cases hs
 |some n=>
  have h1:al+n<=1048576:=h1;rw[h,<-Y2 hlt,e,cellsGo,hz];show(if 1048576<al+n then ((0,102):Int×Int)else cellsGo dims (l.drop (i+1)) (al+n))=_;rw[if_neg k9];rfl
theorem cells_no(h:R=cellsGo dims (l.drop i) al)(hu:l[i]?=some b)(hz:sizeB b.sides dims=z)(h1:z.isSome=false\/1048576<al+z.getD 0):R=(0,102):=by
 obtain⟨hlt,e⟩:=D9.1 hu;rw[h,<-Y2 hlt,e,cellsGo,hz]
 cases z with
 |none=>rfl
 |some n=>
  rcases h1 with h1|h1
  .cases h1
  .have h1:1048576<al+n:=h1;show(if 1048576<al+n then ((0,102):Int×Int)else _)=_;rw[if_pos h1]
theorem cells_end(h:R=cellsGo dims (l.drop i) al)(hi:l.length<=i):R=(al,0):=by
 rw[h,R5 hi,cellsGo]
end
theorem cells1_spec(k:Int):bZ prog 62 [j5 k] [] [] (λ(_:Unit)=> .bool (badD k)) (λ_=>[]) (λ_=>[]):=by
 have hT:=xD;refine i7 func62 ntmps62 ?_;intro β hM;refine g10 ?_;refine vP (λa=>?_) λa=>?_
 .refine g7 ?_;exact rs1 () e8 (he:=by first|(unfold badD;simp[*];done)|(unfold badD;simp[*];omega))
 refine g7 ?_;exact rs1 () e8 (he:=by first|(unfold badD;simp[*];done)|(unfold badD;simp[*];omega))
theorem Cells_spec(c:gD)(DA:Option Addr)(dcap:Nat)(dims:List Int)(hdl:dims.length<=140737488355328):bZ prog 22 [.agg #[j5 c.vars,j0 c.bufs,j0 c.steps,j0 c.outs],.slice DA dims.length dcap] [] [oJ c,cK.sl (.slice DA dims.length dcap) dims] (λ(_:Unit)=> .tuple #[j5 (dX c.c dims).1,j5 (dX c.c dims).2]) (λ_=>[]) (λ_=>[]):=by
 have hT:=xD
 obtain⟨R,l⟩: ∃R,cellsGo dims c.c.bufs 0=R:=⟨_,rfl⟩
 refine i7 func22 ntmps22 ?_;intro β hM;refine g2 ?_;refine i6 λs=>?_;refine g8 ?_;refine f7 func33 (bCm c) .nil ⟨d7,e8⟩ λ_=>?_;refine g3 ?_;refine bBd (λk=>?_) λk=>?_
 .refine g8 ?_;have hr:cY c.c=false:=by simp_all
  have d:dX c.c dims=(0,100):=by unfold dX;rw[if_neg (by simp[hr])]
  exact rs2 () e8 (he:=by rw[d])
 refine g11 ?_;refine k_ne (λf=>?_) λf=>?_
 .refine g14 ?_;have hr:cY c.c=true:=by simp_all
  have hd:qQ c.vars dims=false:=by unfold qQ;simp_all
  have d:dX c.c dims=(0,101):=by unfold dX;rw[if_pos hr,if_neg (by show ¬qQ c.vars dims=true;simp[hd])]
  exact rs2 () e8 (he:=by rw[d])
 refine one ?_;refine bG func61 (xT DA dcap dims k9 62 [] [] badD (j4 func62) cells1_spec) rfl rfl .nil ⟨d8,e8⟩ λ_=>?_;refine g3 ?_;refine uY (λj=>?_) λj=>?_
 .refine g8 ?_;have hr:cY c.c=true:=by simp_all
  have hd:qQ c.vars dims=false:=by unfold qQ;simp_all
  have d:dX c.c dims=(0,101):=by unfold dX;rw[if_pos hr,if_neg (by show ¬qQ c.vars dims=true;simp[hd])]
  exact rs2 () e8 (he:=by rw[d])
 refine g9 ?_;have n:cY c.c=true:=by simp_all
 have q:=(bFj n).1.1;have p:c.c.bufs.length=c.bufs.list.length:=cD _;refine bP (bBb.sl (.slice c.bufs.addr c.bufs.list.length c.bufs.cap) c.bufs.list) (rR (lQ d7)) ?_;refine g8 ?_;refine bY (ι:=Int×Nat) [(1,_),(24,_),(25,_)] ⟨rfl,rfl,rfl,e8⟩ (λ⟨al,i⟩=>[(6,.int .i64 al),(26,.int .i64 (i:Nat))]) (λ_=>[]) (λ⟨al,i⟩=>[bE.pure (i<=c.bufs.list.length/\0<=al/\al<=1048576/\R=cellsGo dims ((bufsL c.bufs.list).drop i) al)]) (λ⟨al,i⟩=>c.bufs.list.length-i) (0,0) ⟨rfl,rfl,e8⟩ .nil ⟨e9 (⟨k9,k9,k9,l.symm⟩),e8⟩ ?_;rintro⟨al,i⟩;dsimp only;refine bM d7 λa=>?_;refine g6 ?_;refine fD (λh=>?_) λh=>?_
 .refine g6 ?_;obtain⟨m,b⟩:=gx c.bufs.list i;refine ss (ixs i) ?_;refine ss (kV b 0) ?_;refine f9 xV λr=>?_;refine g8 ?_;refine bP (tV m.sides) (Has.each (bEg (lQ d9)) (f4 b)) ?_;refine f7 func63 (sizeC_spec m.sides DA dcap dims hdl) .nil ⟨d7,e7,e8⟩ λ_=>?_
  obtain⟨z,hz⟩: ∃z,sizeB (polsL m.sides.list) dims=z:=⟨_,rfl⟩
  rw[hz];have o:=sizeB_get hz;refine g12 ?_;refine bF (nN k9 k9) ?_;refine g8 ?_;refine k_nt (λe=>?_) λe=>?_
  .refine g18 ?_;have hr:cY c.c=true:=by simp_all
   have hd:qQ c.vars dims=true:=by unfold qQ;simp_all
   have d:dX c.c dims=(0,102):=by unfold dX;rw[if_pos hr,if_pos z7];exact l.trans (cells_no a.2.2.2 (cN b) hz (by first|(left;simp_all;done)|(right;omega)))
   exact rs2 () e8 (he:=by rw[d])
  refine g5 ?_;refine fD (λg=>?_) λg=>?_
  .refine g12 ?_;have hr:cY c.c=true:=by simp_all
   have hd:qQ c.vars dims=true:=by unfold qQ;simp_all
   have d:dX c.c dims=(0,102):=by unfold dX;rw[if_pos hr,if_pos z7];exact l.trans (cells_no a.2.2.2 (cN b) hz (by first|(left;simp_all;done)|(right;omega)))
   exact rs2 () e8 (he:=by rw[d])
  refine g5 ?_;refine inc (i+1) ?_;refine g3 ?_;exact bk2 (al+z.getD 0,i+1) ⟨e9 (⟨by dsimp only;omega,by dsimp only;omega,by dsimp only;omega,cells_yes a.2.2.2 (cN b) hz (by first|assumption|simp_all) k9⟩),e8⟩
 refine g13 ?_;have hr:cY c.c=true:=by simp_all
 have hd:qQ c.vars dims=true:=by unfold qQ;simp_all
 have d:dX c.c dims=(al,0):=by unfold dX;rw[if_pos hr,if_pos z7];exact l.trans (cells_end a.2.2.2 (by rw[cD];omega))
 exact rs2 () e8 (he:=by rw[d])
end
section
open Go.Proofs.Tryz
end
section
open Go.Proofs.Tryz
end
section
open Go.RowKit Go.Proofs.Tryz
abbrev w64(z:Int):Int:=IntKind.i64.wrap z
def nG (f:Int)(two:Bool):Bool:=if f<1\/17<f then false else if f=16 then !two else two || decide (f<=7)
def vI (a b:Int):Int:=if a.tmod b≠0/\decide (a.tmod b<0)≠decide (b<0)then w64 (a.tmod b+b)else a.tmod b
def vT (b:Bool):Int:=if b then 1 else 0
def big1 (a:Int):Bool:=decide (1<IntKind.u64.wrap a)
def fU (f a b:Int):Bool:=if f=4 then b==0 else if f=17 then decide (b<0)else if f=14\/f=15 then big1 a || big1 b else false
def lI:Nat->Int->Int->Nat->Int
 |0,p,_,_=>p
 |k+1,p,a,n=>if n=0 then p else lI k (if n%2=1 then w64 (p*a)else p) (w64 (a*a)) (n/2)
def bEt (a n:Int):Int:=lI (n.toNat+1) 1 a n.toNat
def vU (f a b:Int):Bool:=if f=8 then a==b else if f=9 then a !=b else if f=10 then decide (a<b)else if f=11 then decide (a<=b)else if f=12 then decide (b<=a)else decide (b<a)
def andW (a b:Int):Int:=w64 ((BitVec.ofInt 64 a&&&BitVec.ofInt 64 b).toNat:Nat)
def orW (a b:Int):Int:=w64 ((BitVec.ofInt 64 a ||| BitVec.ofInt 64 b).toNat:Nat)
def xorW (a b:Int):Int:=w64 ((BitVec.ofInt 64 a^^^BitVec.ofInt 64 b).toNat:Nat)
def divW (a b:Int):Int:=if vI a b≠a.tmod b then w64 (w64 (a.tdiv b)-1)else w64 (a.tdiv b)
def minW (a b:Int):Int:=if b<a then b else a
def maxW (a b:Int):Int:=if b>a then b else a
def rO (f a b:Int):Int:=
 if f=1 then w64 (a+b)else if f=2 then w64 (a-b)else if f=3 then w64 (a*b)else if f=4 then divW a b else if f=5 then (if a=0 then b else vI b a)
 else if f=6 then minW a b else if f=7 then maxW a b else if f=14 then andW a b else if f=15 then orW a b else if f=17 then bEt a b else vT (vU f a b)
def vJ (f a b:Int):Int×Int:=if nG f true=false then (0,10)else if fU f a b=true then (0,11)else (rO f a b,0)
def gC (f a:Int):Int×Int:=
 if nG f false=false then (0,10)else if f=2 then (w64 (0-a),0)else if f=3 then (w64 (vT (decide (0<a))-vT (decide (a<0))),0)else if f=4 then vJ f 1 a
 else if f=5 then (maxW a (w64 (0-a)),0)else if f=16 then (if big1 a=true then (0,11)else (xorW a 1,0))else (a,0)
def unitW (f:Int):Int×Bool:=
 if f=6 then (9223372036854775807,true)else if f=7 then (-9223372036854775808,true)else if f=3\/f=4\/f=8\/f=11\/f=12\/f=14\/f=17 then (1,true)else (0,nG f true)
structure Arr where
 sides:List Int
 data:List Int
 deriving Inhabited,DecidableEq
def bGw (s:Int):Bool:=decide (s<0) || decide (65536<s)
def qE:List Int->Int->Int×Int
 |[],n=>(n,0)
 |s::r,n=>if 65536<w64 (n*s)then (0,61)else qE r (w64 (n*s))
def nJ (s:List Int):Int×Int:=if 4<s.length\/s.any bGw=true then (0,61)else if s.contains 0=true then (0,0)else qE s 1
def xY (a:Arr):Bool:=(nJ a.sides).2==0&&(nJ a.sides).1==(a.data.length:Int)
def mapM (f:Int):List Int->List Int×Int
 |[]=>([],0)
 |n::r=>if (gC f n).2≠0 then ([],(gC f n).2)else if (mapM f r).2≠0 then ([],(mapM f r).2)else ((gC f n).1::(mapM f r).1,0)
end
section
open Go.Proofs.Tryz
def rnMost:List gP->Int->Int
 |[],n=>n
 |u::r,n=>rnMost r (max n (u.input+1))
end
section
open Go.Proofs.Tryz
theorem rn_w64{z:Int}(h0: -9223372036854775808<=z)(h1:z<=9223372036854775807):w64 z=z:=by
 simp only[IntKind.wrap,IntKind.signed,IntKind.bits];simp;omega
def Deep:List OpC->Nat->Prop
 |[],n=>n=1
 |o::r,n=>0<=cV o.how/\cV o.how<=n/\Deep r (n+1-(cV o.how).toNat)
theorem deep_of: ∀{l:List OpC} {most:Int} {n:Nat},0<=nT l most n->Deep l n
 |[],most,n,h=>by
  unfold nT at h;split at h
  .show n=1;omega
  .omega
 |o::r,most,n,h=>by
  unfold nT at h;split at h
  .omega
  .rename_i b;have h1:0<=cV o.how:=k9
   have a:cV o.how<=n:=k9
   rw[show(n:Int)+(1-cV o.how)=((n+1-(cV o.how).toNat:Nat):Int) by omega]at h;exact⟨h1,a,deep_of h⟩
theorem deep_step{vars:Int}{made:List Bool}{x:bX}(h:nB vars made x=true):Deep x.ops 0:=by
 unfold nB at h;simp only[G1,decide_eq_true_eq]at h;exact deep_of (most:=0) (n:=0) h.2.2.2.1
theorem bSq{h:Int}(h0:0<=cV h):h=1\/h=2\/h=3\/h=4\/h=5\/h=6:=by
 unfold cV at h0;split at h0
 .omega
 .split at h0
  .omega
  .split at h0
   .omega
   .omega
end
section
open Go.RowKit Go.Proofs.Tryz
def raise (v:Value):List PanicEntry:=[{v,recovered:=false}]
section
variable {P : Program} {β : dE} {n : Nat} {Γ : Env} {H : List bC} {F : List bE} {Q : Exit -> Act -> World -> Prop} {K : Act -> World -> Prop} {ch : List PanicEntry}
theorem p_then(h:At β n Γ H F (Q (.panic ch))):At β n Γ H F (Exit.then K Q (.panic ch)):=h
theorem at_panic{ops:Array Oper}{rest:List Oper}{o:Oper}{x:Operand}{t:TypeId}{v:Value}(hw:want ops Γ o=some true)(ho:o.op= .panic x)(hx:Γ.ev x=some (.iface t v))(k:At β n Γ H F (Q (.panic (raise (.iface t v))))):At β n Γ H F (wpList P ops Q (o::rest)):=
 fV hw λa w S f s b=>by
  unfold F4
  have hr:(execOp a.eval o).run P w= .halt (.panic (.iface t v)) w:=by
   unfold execOp;simp only[ho,f.ev hx];rfl
  rw[hr,Oper.upon_panic];exact k a w S f s b
end
def dfA (ds:List Deferred)(a:Act):Act:={a with defers:=a.defers++ds}
def Df (ds:List Deferred)(K:Act->World->Prop)(a:Act)(w:World):Prop:=K (dfA ds a) w
def DfQ (ds:List Deferred)(Q:Exit->Act->World->Prop)(e:Exit)(a:Act)(w:World):Prop:=Q e (dfA ds a) w
theorem dfA_put(ds:List Deferred)(a:Act)(d:Option Tmp)(v:Value):(dfA ds a).put d v=dfA ds (a.put d v):=by cases d<;>rfl
theorem out_df{ds:List Deferred}{Q:Exit->Act->World->Prop}(h:LetsOut (DfQ ds Q)):LetsOut Q:=let ⟨a,w,k⟩:=h;⟨dfA ds a,w,k⟩
section
variable {P : Program} {o : Oper} {a : Act} {w : World} {Q : Exit -> Act -> World -> Prop} {ops : Array Oper} {ds : List Deferred}
theorem op_df{next:Act->World->Prop}(h:o.wp P a w (Df ds next) (DfQ ds Q)):o.wp P (dfA ds a) w next Q:=by
 unfold F4 at h⊢;have i:(dfA ds a).eval=a.eval:=rfl;rw[i];generalize (execOp a.eval o).run P w=r at h⊢
 cases r with
 |ok x b=>
  cases x with
  |value v=>rw[F5,dfA_put];exact h
  |skip=>rw[F6,dfA_put];exact h
  |defer d=>rw[Z2];rw[Z2]at h;unfold Df at h;rw[<-dfA_put]at h;exact h
  |enter f args=>
   rw[F7];rw[F7]at h;refine h.mono λe b k=>?_
   cases e with
   |returned v=>simp only at k⊢;unfold Df at k;rw[dfA_put];exact k
   |panicked c=>exact k
   |outgrown=>exact out_df k
  |row r args=>
   rw[Z3];rw[Z3]at h;exact λc cs=>let ⟨v,b,r,s⟩:=h c cs;⟨v,b,by have g:=r;unfold Df at g;simp only at g⊢;rw[dfA_put];exact g,s⟩
  |_=>exact h.elim
 |halt e b=>
  cases e with
  |panic v=>exact h
  |_=>exact h.elim
theorem bLh: ∀(os:List Oper) (a:Act) (w:World),wpList P ops (DfQ ds Q) os a w->wpList P ops Q os (dfA ds a) w
 |[],_,_,h=>h
 |o::os,a,w,h=>by
  unfold wpList at h⊢;have c:(dfA ds a).tmps=a.tmps:=rfl;rw[c];split at h
  .rename_i b;rw[if_pos b]
   rcases h with h|⟨h1,d⟩
   .exact .inl (op_df (Oper.wp_mono (λa w k=>bLh os a w k) h))
   .exact .inr ⟨h1,out_df d⟩
  .rename_i b;rw[if_neg b,dfA_put];exact bLh os _ w h
end
section
variable {P : Program} {β : dE} {n : Nat} {Γ : Env} {H H2 : List bC} {F : List bE} {Q : Exit -> Act -> World -> Prop} {K : Act -> World -> Prop} {ds : List Deferred}
theorem iE{x y:Code}(h:At β n Γ H F (Df ds (x.wp P (Exit.then (y.wp P Q) Q)))):At β n Γ H F (Df ds ((Code.seq x y).wp P Q)):=λa w S f s k=>wp_seq (h a w S f s k)
theorem d_blk{id:Nat}{c:Code}(h:At β n Γ H F (Df ds (c.wp P (Exit.inBlock id Q)))):At β n Γ H F (Df ds ((Code.block id c).wp P Q)):=λa w S f s k=>wp_block (h a w S f s k)
theorem bHn(h:At β n Γ H F (Df ds (Q .normal))):At β n Γ H F (Df ds (Code.skip.wp P Q)):=λa w S f s k=>wp_skip (h a w S f s k)
theorem d_exit{id:Nat}(h:At β n Γ H F (Df ds (Q (.exit id)))):At β n Γ H F (Df ds ((Code.exit id).wp P Q)):=λa w S f s k=>wp_exit (h a w S f s k)
theorem d_ret(h:At β n Γ H F (Df ds (Q .ret))):At β n Γ H F (Df ds (Code.ret.wp P Q)):=λa w S f s k=>wp_ret (h a w S f s k)
theorem dK{id:Nat}{l:List Oper}(h:At β n Γ H F (wpList P l.toArray (DfQ ds Q) l)):At β n Γ H F (Df ds ((Code.region id l.toArray false).wp P Q)):=λa w S f s k=>wp_region_lit (bLh l a w (h a w S f s k))
theorem d_list{ops:Array Oper}{l:List Oper}(h:At β n Γ H F (wpList P ops (DfQ ds Q) l)):At β n Γ H F (Df ds (wpList P ops Q l)):=λa w S f s k=>bLh l a w (h a w S f s k)
theorem iL{ops:Array Oper}(h:At β n Γ H F (Df ds (Q .normal))):At β n Γ H F (wpList P ops (DfQ ds Q) []):=h
theorem cZ(h:At β n Γ H F (Df ds K)):At β n Γ H F (Df ds (Exit.then K Q .normal)):=h
theorem bFu{i:Nat}(h:At β n Γ H F (Df ds (Q (.exit i)))):At β n Γ H F (Df ds (Exit.then K Q (.exit i))):=h
theorem nS(h:At β n Γ H F (Df ds (Q .ret))):At β n Γ H F (Df ds (Exit.then K Q .ret)):=h
theorem dn_block{i:Nat}(h:At β n Γ H F (Df ds (Q .normal))):At β n Γ H F (Df ds (Exit.inBlock i Q .normal)):=h
theorem uZ{i:Nat}(h:At β n Γ H F (Df ds (Q .ret))):At β n Γ H F (Df ds (Exit.inBlock i Q .ret)):=h
theorem bNw{i:Nat}(h:At β n Γ H F (Df ds (Q .normal))):At β n Γ H F (Df ds (Exit.inBlock i Q (.exit i))):=λa w S f s k=>by
 unfold Df;simp only[Exit.inBlock,if_true];exact h a w S f s k
theorem dp_any{ch:List PanicEntry}(h:At β n Γ H F (Df ds (Q (.panic ch)))):At β n Γ H F (DfQ ds Q (.panic ch)):=h
theorem dp_then{ch:List PanicEntry}(h:At β n Γ H F (Df ds (Q (.panic ch)))):At β n Γ H F (Df ds (Exit.then K Q (.panic ch))):=h
theorem bOb{c:Operand}{x y:Code}{t:Bool}(hc:Γ.ev c=some (.bool t))(ht:t=true->At β n Γ H F (Df ds (x.wp P Q)))(hf:t=false->At β n Γ H F (Df ds (y.wp P Q))):At β n Γ H F (Df ds ((B2 c x y).wp P Q)):=
 λa w S f s k=>wp_cond_split (a:=dfA ds a) (show a.eval c= .bool t from f.ev hc) (λe=>ht e a w S f s k) (λe=>hf e a w S f s k)
theorem d_true{c:Operand}{x y:Code}{t:Bool}(hc:Γ.ev c=some (.bool t))(ht:t=true)(h:At β n Γ H F (Df ds (x.wp P Q))):At β n Γ H F (Df ds ((B2 c x y).wp P Q)):=
 bOb hc (λ_=>h) (λe=>by rw[ht]at e;cases e)
theorem d_false{c:Operand}{x y:Code}{t:Bool}(hc:Γ.ev c=some (.bool t))(ht:t=false)(h:At β n Γ H F (Df ds (y.wp P Q))):At β n Γ H F (Df ds ((B2 c x y).wp P Q)):=
 bOb hc (λe=>by rw[ht]at e;cases e) (λ_=>h)
def BackD {ι:Type}(ds:List Deferred)(β:dE)(n:Nat)(G:ι->Env)(HH:ι->List bC)(FF:ι->List bE)(μ:ι->Nat)(m:Nat)(a:Act)(w:World):Prop:= ∃a0,a=dfA ds a0/\Back β n G HH FF μ m a0 w
theorem d_loop{ι:Type}{c:Code}(G:ι->Env)(HH:ι->List bC)(FF:ι->List bE)(μ:ι->Nat)(x0:ι)(hG:Γ.Sub (G x0))(hH:Sel H (HH x0))(hF:bA F (FF x0))
  (round: ∀x,At β n (G x) (HH x) (FF x) (Df ds (c.wp P (Exit.then (BackD ds β n G HH FF μ (μ x)) Q)))):At β n Γ H F (Df ds ((Code.loop c).wp P Q)):=by
 have key: ∀m x,μ x<=m-> ∀a w S,Fits n (G x) a->St β (HH x) S w->All (FF x) S w->Code.rounds P c Q (m+1) (dfA ds a) w:=by
  intro m
  induction m with
  |zero=>
   intro x hx a w S f s k;rw[rounds_succ];refine Q5 (λe o d q=>?_) (round x a w S f s k)
   cases e with
   |normal=>obtain⟨g,_,b,h,hlt,_⟩:=q;omega
   |_=>exact q
  |succ m ih=>
   intro x hx a w S f s k;rw[rounds_succ];refine Q5 (λe o d q=>?_) (round x a w S f s k)
   cases e with
   |normal=>
    obtain⟨g,rfl,b,h,hlt,l,i,j⟩:=q;exact ih b k9 g d h l i j
   |_=>exact q
 intro a w S f s k;exact wp_loop_rounds (μ x0+1) (key (μ x0) x0 (Nat.le_refl _) a w S (f.sub hG) (s.sel hH) (hF.all S w k))
theorem d_loop2{ι:Type}{c:Code}(Δ:Env)(hΔ:Γ.Sub Δ)(G:ι->Env)(HH:ι->List bC){Hr:List bC}(FF:ι->List bE)(μ:ι->Nat)(x0:ι)(hG:Γ.Sub (G x0))(hH:Split H (HH x0) Hr)(hF:bA F (FF x0))
  (round: ∀x,At β n (G x++Δ) (HH x++Hr) (FF x++F) (Df ds (c.wp P (Exit.then (BackD ds β n (λx=>G x++Δ) (λx=>HH x++Hr) (λx=>FF x++F) μ (μ x)) Q)))):At β n Γ H F (Df ds ((Code.loop c).wp P Q)):=
 d_loop (λx=>G x++Δ) (λx=>HH x++Hr) (λx=>FF x++F) μ x0 (hG.append hΔ) hH.sel (hF.append bA.self) round
theorem d_back{ι:Type}{G:ι->Env}{HH:ι->List bC}{FF:ι->List bE}{μ:ι->Nat}{m:Nat}(h:At β n Γ H F (Back β n G HH FF μ m)):At β n Γ H F (Df ds (BackD ds β n G HH FF μ m)):=λa w S f s k=>⟨a,rfl,h a w S f s k⟩
theorem at_defer{ops:Array Oper}{rest:List Oper}{o:Oper}{x:Operand}{fv:Fn}{first cap:Array Value}{ars:Array Operand}{ts:Array TypeId}{vs:List Value}(hw:want ops Γ o=some true)(ho:o.op= .defer ⟨.value x,ars,ts⟩)(hx:Γ.ev x=some (.func fv first cap))(hd:o.dst=none)
  (hv:Γ.evs ars.toList=some vs) (k:At β n Γ H F (Df [{target:= .fn fv cap,args:=first++vs.toArray}] (wpList P ops Q rest))):At β n Γ H F (wpList P ops Q (o::rest)):=
 fV hw λa w S f s c=>by
  have b:ars.map a.eval=vs.toArray:=by
   apply Array.ext'
   simpa using f.evs hv
  unfold F4
  have hr:(execOp a.eval o).run P w= .ok (.defer {target:= .fn fv cap,args:=first++vs.toArray}) w:=by
   unfold execOp;simp only[ho,resolve,f.ev hx,Deferred.ofValue,Sem.run_bind,Sem.run_pure,Result.andThen_ok];simp[b]
  rw[hr,Z2,hd];have:=k a w S f s c;unfold Df dfA at this;rw[f.defers]at this⊢;exact this
def bRw {ι:Type}(P:Program)(f:FuncId)(args:List Value)(u u':FrameMode)(Hin:List bC)(Pre:List bE)(Hout:ι->List bC)(post:ι->List bE):Prop:=
 ∀S w,St ⟨w,kZ Hin,S⟩ Hin S w->All Pre S w->CallsD P f args.toArray u w λe v w'=>(∃r,e= .returned r)/\v=u'/\ ∃x S',St ⟨w,kZ Hin,S⟩ (Hout x) S' w'/\All (post x) S' w'
variable {ι : Type} {fn : Func} {R : Ending -> World -> Prop} {f : FuncId} {cap dargs : Array Value} {args : List Value} {Hin : List bC} {Pre : List bE} {Hout : ι -> List bC} {post : ι -> List bE}
theorem bVg{u u':FrameMode}(hu:u≠ .run)(hs':settle u'= .returning)(hi: ∀(args:Array Value) (w:World),(callFunc f args).run P w= .ok (.enter f args) w)(ha:(dargs++cap).toList=args)(hs:bRw P f args u u' Hin Pre Hout post)(hH:Split H Hin H2)(hF:bA F Pre)
  (k: ∀x,At β n Γ (Hout x++H2) (post x++F) (bodyPost P fn R .ret)):At β n Γ H F (Df [{target:= .fn (.func f) cap,args:=dargs}] λa w=>Leaves P fn a.tmps R a.defers u w):=λa w S i s g=>by
 have b:=s.perm hH.perm;show Leaves P fn a.tmps R (a.defers++[{target:= .fn (.func f) cap,args:=dargs}]) u w;rw[i.defers];refine leaves_cons (f:=f) (args:=args.toArray) hu ?_ ?_
 .show(callFunc f (dargs++cap)).run P w=_;rw[hi,<-ha]
 refine(hs S w b.enter (hF.all S w g)).mono ?_;rintro e v c ⟨⟨r,rfl⟩,rfl,x,o,d,j⟩;have:=k x a c _ i (b.leave d) ((All.mono (λ_ h=> .inr h) (λ_ _=>rfl) j).append (All.leave b d g));obtain⟨_,v,l,m⟩:=this;show Leaves P fn a.tmps R [] (settle _) c;rw[hs'];exact⟨v,l,m⟩
theorem d_leave(hi: ∀(args:Array Value) (w:World),(callFunc f args).run P w= .ok (.enter f args) w)(ha:(dargs++cap).toList=args)(hs:bRw P f args .returning .returning Hin Pre Hout post)(hH:Split H Hin H2)(hF:bA F Pre)
  (k: ∀x,At β n Γ (Hout x++H2) (post x++F) (bodyPost P fn R .ret)):At β n Γ H F (Df [{target:= .fn (.func f) cap,args:=dargs}] (bodyPostD P fn R .ret)):=bVg n4 rfl hi ha hs hH hF k
theorem d_caught{v:Value}(hi: ∀(args:Array Value) (w:World),(callFunc f args).run P w= .ok (.enter f args) w)(ha:(dargs++cap).toList=args)(hs:bRw P f args (.panicking (raise v)) (.panicking [{v,recovered:=true}]) Hin Pre Hout post)(hH:Split H Hin H2)(hF:bA F Pre)
  (k: ∀x,At β n Γ (Hout x++H2) (post x++F) (bodyPost P fn R .ret)):At β n Γ H F (Df [{target:= .fn (.func f) cap,args:=dargs}] (bodyPostD P fn R (.panic (raise v)))):=bVg n4 rfl hi ha hs hH hF k
theorem spec_defers{ι:Type}{f:FuncId}{c:Code}{args:List Value}{Hin:List bC}{Pre:List bE}{val:ι->Value}{Hout:ι->List bC}{post:ι->List bE}(hf:P.funcs[f]?=some fn)(hb:fn.body=some c)(hn:fn.ntmps=n)
  (hl:Nat.ble args.length n=true) (h: ∀β,β.M=kZ Hin->At β n (bBm 0 args) Hin Pre (c.wp P (bodyPostD P fn (bRo β val Hout post)))):bZ P f args Hin Pre val Hout post:=λS w s k=>by
 refine calls_of_wp_defers hf hb (h ⟨w,kZ Hin,S⟩ rfl _ w S ⟨rfl,?_,λi v b=>?_⟩ s k)
 .have:=Y8 hl;simp;omega
 .obtain⟨_,a⟩:=sI 0 args i v b;simp only[Nat.sub_zero]at a;have hlt:i<args.length:=(D9.1 a).1;simp only[Z4];rw[if_pos p7]
  simpa using a
end
section
variable {P : Program} {ops : Array Oper} {Q0 : Exit -> Act -> World -> Prop} {Q : Exit -> Act -> List Frame -> World -> Prop} {cs : List Frame}
theorem opsS_of(hQ: ∀e a w,Q0 e a w->Q e a cs w)(hO: ¬LetsOut Q0): ∀(l:List Oper) (k:Nat),(∀j:Nat,l[j]?=ops[k+j]?)-> ∀(a:Act) (w:World),wpList P ops Q0 l a w->wpOpsS P ops Q (Y5 k l.length) a cs w
 |[],_,_,a,w,h=>hQ _ _ _ h
 |o::l,k,hk,a,w,h=>by
  have h0:ops[k]?=some o:=by simpa using (hk 0).symm
  have b:=opsS_of hQ hO l (k+1) (λj=>by have:=hk (j+1);simpa[Nat.add_assoc,Nat.add_comm 1 j]using this);rw[E1,Y6];unfold wpList at h;unfold wpOpsS;simp only[h0];split at h
  .rename_i i;rw[if_pos i];have h:=h.resolve_right λh=>hO h.2;unfold F4 at h;generalize (execOp a.eval o).run P w=r at h⊢
   cases r with
   |ok x g=>
    cases x with
    |value v=>rw[F5]at h;exact b _ _ h
    |skip=>rw[F6]at h;exact b _ _ h
    |defer d=>rw[Z2]at h;exact b _ _ h
    |enter f args=>
     rw[F7]at h;refine Calls.mono h λe g k=>?_
     cases e with
     |returned v=>exact b _ _ k
     |panicked c=>exact hQ _ _ _ k
     |outgrown=>exact absurd k hO
    |row r args=>
     rw[Z3]at h;exact λc cs=>let ⟨v,g,r,s⟩:=h c cs;⟨v,g,b _ _ r,s⟩
    |_=>exact h.elim
   |halt e g=>
    cases e with
    |panic v=>exact hQ _ _ _ h
    |_=>exact h.elim
  .rename_i i;rw[if_neg i];exact b _ _ h
end
def EndD {ι:Type}(β:dE)(Hout:ι->List bC)(post:ι->List bE)(e:Ending)(w':World):Prop:=(∃r,e= .returned r)/\ ∃x S',St β (Hout x) S' w'/\All (post x) S' w'
section
variable {ι : Type} {P : Program} {f : FuncId} {fn : Func} {n d id : Nat} {o : Oper} {l : List Oper} {rest : Code} {args : List Value} {u u' : FrameMode} {v : Value} {Hin : List bC} {Pre : List bE} {Hout : ι -> List bC} {post : ι -> List bE}
theorem bBp(hf:P.funcs[f]?=some fn)(hb:fn.body=some (.seq (.region id (o::l).toArray false) rest))(hn:fn.ntmps=n)(hl:Nat.ble args.length n=true){ts:Array TypeId}(ho:o.op= .call {callee:= .builtin .recover,args:= #[],argTypes:=ts})(hg:o.guard=none)(hd:o.dst=some d)(hdn:C0 d n=true)
  (hrec: ∀(c:Frame) (cs:List Frame),c.mode=u->recoverD (c::cs)=some (v,{c with mode:=u'}::cs)\/recoverD (c::cs)=none/\v= .nilIface/\u'=u)
  (h: ∀β,β.M=kZ Hin->At β n ((d,v)::bBm 0 args) Hin Pre (wpList P (o::l).toArray (Exit.then (rest.wp P (bodyPost P fn (EndD β Hout post))) (bodyPost P fn (EndD β Hout post))) l)):bRw P f args u u' Hin Pre Hout post:=λS w s k=>by
 refine callsD_of_wpS hf hb λc0 cs hu=>?_;apply wpS_seq;apply wpS_region
 have A:List.range (o::l).toArray.size=0::Y5 1 l.length:=by
  rw[List.range_eq_range',List.size_toArray,E1,Y6]
 rw[A]
 have m:Fits n (bBm 0 args) {tmps:=args.toArray++A8 (fn.ntmps-args.toArray.size) undef,defers:=[]}:=by
  refine⟨rfl,?_,λi v D=>?_⟩
  .have:=Y8 hl;simp;omega
  .obtain⟨_,B⟩:=sI 0 args i v D;simp only[Nat.sub_zero]at B;have hlt:i<args.length:=(D9.1 B).1;simp only[Z4];rw[if_pos p7]
   simpa using B
 generalize ({tmps:=args.toArray++A8 (fn.ntmps-args.toArray.size) undef,defers:=[]}:Act)=a at m⊢
 have C:Region.wanted o (yielded (o::l).toArray a.tmps)=true:=by
  unfold Region.wanted;rw[hg]
 have hr:(execOp a.eval o).run P w= .ok .recover w:=by
  unfold execOp;simp only[ho];rfl
 have h1:=h ⟨w,kZ Hin,S⟩ rfl (a.put o.dst v) w S (by rw[hd];exact m.put (by simpa[Nat.blt_eq]using hdn) v) s k
 have key:wpOpsS P (o::l).toArray (Exit.thenS (rest.wpS P (bodyPostS P fn c0 cs λe v b=>(∃r,e= .returned r)/\v=u'/\ ∃x S',St ⟨w,kZ Hin,S⟩ (Hout x) S' b/\All (post x) S' b)) (bodyPostS P fn c0 cs λe v b=>(∃r,e= .returned r)/\v=u'/\ ∃x S',St ⟨w,kZ Hin,S⟩ (Hout x) S' b/\All (post x) S' b)) (Y5 1 l.length) (a.put o.dst v) ({c0 with mode:=u'}::cs) w:=by
  have g: ∀e a b,bodyPost P fn (EndD ⟨w,kZ Hin,S⟩ Hout post) e a b->bodyPostS P fn c0 cs (λe v b=>(∃r,e= .returned r)/\v=u'/\ ∃x S',St ⟨w,kZ Hin,S⟩ (Hout x) S' b/\All (post x) S' b) e a ({c0 with mode:=u'}::cs) b:=λe a b q=>by
   cases e with
   |normal=>obtain⟨z,r,y,t,p⟩:=q;exact⟨z,u',rfl,r,y,t,rfl,p⟩
   |ret=>obtain⟨z,r,y,t,p⟩:=q;exact⟨z,u',rfl,r,y,t,rfl,p⟩
   |panic c=>obtain⟨_,⟨r,hr⟩,_⟩:=q;cases hr
   |outgrown=>obtain⟨⟨r,hr⟩,_⟩:=q;cases hr
   |_=>exact q.elim
  refine opsS_of (Q0:=Exit.then (rest.wp P (bodyPost P fn (EndD ⟨w,kZ Hin,S⟩ Hout post))) (bodyPost P fn (EndD ⟨w,kZ Hin,S⟩ Hout post))) (λe a b q=>?_) ?_ l 1 (λj=>by simp[Nat.add_comm 1 j]) _ _ h1
  .cases e with
   |normal=>exact wpS_of_wp (Q5 (λe a b q=>g e a b q) q)
   |exit i=>exact g (.exit i) a b q
   |goto i=>exact g (.goto i) a b q
   |ret=>exact g .ret a b q
   |panic c=>exact g (.panic c) a b q
   |outgrown=>exact g .outgrown a b q
  .rintro⟨a,b,⟨r,hr⟩,_⟩;cases hr
 unfold wpOpsS;simp only[List.getElem?_toArray,List.getElem?_cons_zero,C,if_true,hr]
 rcases hrec c0 cs hu with e|⟨e,rfl,rfl⟩
 .rw[e];exact key
 .rw[e];have E:({c0 with mode:=u'}:Frame)=c0:=by subst hu;rfl
  rw[E]at key;exact key
theorem rec_none(c:Frame)(cs:List Frame)(h:c.mode= .returning):recoverD (c::cs)=some (.nilIface,{c with mode:= .returning}::cs)\/recoverD (c::cs)=none/\(Value.nilIface:Value)= .nilIface/\(FrameMode.returning:FrameMode)= .returning:= .inr ⟨by simp[recoverD,h],rfl,rfl⟩
theorem rec_some(v:Value)(c:Frame)(cs:List Frame)(h:c.mode= .panicking (raise v)):recoverD (c::cs)=some (v,{c with mode:= .panicking [{v,recovered:=true}]}::cs)\/recoverD (c::cs)=none/\v= .nilIface/\FrameMode.panicking [{v,recovered:=true}]= .panicking (raise v):= .inl (by simp[recoverD,h,raise])
end
end
end Go.Proofs.YtnfiadlonjediaaGreatDoor
