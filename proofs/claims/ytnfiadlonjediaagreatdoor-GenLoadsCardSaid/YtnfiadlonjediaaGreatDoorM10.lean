/- Texts of one proof, one behind the other: PlanB, Value, Eval, CelA, LifeQ, CelB, RnA, RnB, WordP, ArrP, RnC, RnD, Pan, Dfr, Rec. -/
import Derived.Test.YtnfiadlonjediaaGreatDoorM7
import Derived.Test.YtnfiadlonjediaaGreatDoorM9
import Derived.Test.YtnfiadlonjediaaGreatDoorShelfB
import Derived.Test.YtnfiadlonjediaaGreatDoorM6
import Derived.Test.YtnfiadlonjediaaGreatDoorRows
import Derived.Test.YtnfiadlonjediaaGreatDoorM8
import Derived.Test.YtnfiadlonjediaaGreatDoorM1
import Derived.Test.YtnfiadlonjediaaGreatDoorM4
import Derived.Defers
import Derived.Recover
set_option maxRecDepth 100000
namespace Go.Proofs.YtnfiadlonjediaaGreatDoor
section
open Go.RowKit Go.Proofs.Tryz
def bDc (k:Int):List Int->Int->Int
 |[],_=> -1
 |s::r,i=>if k=s then i else bDc k r (i+1)
section
variable {k x : Int} {l : List Int} {i : Nat} {r : Int}
theorem xO(h:r=bDc k (l.drop i) i)(hx:l[i]?=some x):(k=x->r=i)/\(k≠x->r=bDc k (l.drop (i+1)) ((i+1:Nat):Int)):=by
 rw[lC hx,bDc]at h;refine⟨λe=>by rw[if_pos e]at h;exact h,λe=>by rw[if_neg e]at h;rw[h];rfl⟩
theorem idxI_end(h:r=bDc k (l.drop i) i)(hi:l.length<=i):r= -1:=by
 rw[List.drop_of_length_le hi]at h;exact h
end
theorem tB(k:Int): ∀(l:List Int) (i:Int),0<=i->decide (0<=bDc k l i)=l.contains k
 |[],i,_=>rfl
 |s::r,i,h=>by
  rw[bDc,List.contains_cons]
  by_cases e:k=s
  .subst e;simp[h]
  .rw[if_neg e,tB k r (i+1) k7];simp[e]
theorem bitsMul_spec(x y:Nat)(hx:x<18446744073709551616)(hy:y<18446744073709551616):cE prog 159 [.int .u64 (x:Nat),.int .u64 (y:Nat)] [] [] (λ_:Unit=> .tuple #[.int .u64 ((x*y/18446744073709551616:Nat):Int),.int .u64 ((x*y%18446744073709551616:Nat):Int)]) (λ_=>[]) (λ_=>[]):=
 λS w s k=>(Tryz.bits_Mul x y hx hy w).mono λe w' h=>by
  obtain⟨rfl,rfl⟩:=h;exact⟨(),S,rfl,s,λg hg=>by simp at hg⟩
def nilLife:dV:=⟨0,0⟩
theorem lifeInfo: ∃i:TypeInfo,prog.info? 114=some i/\i.zero=some (.agg #[.int .i64 0,.int .i64 0])/\i.size=2/\i.bytes=16:=by
 have h:(prog.info? 114).map (λi=>(i.zero,i.size,i.bytes))=some (some (.agg #[.int .i64 0,.int .i64 0]),2,16):=k8
 cases hi:prog.info? 114 with
 |none=>simp[hi]at h
 |some i=>simp[hi]at h;exact⟨i,rfl,h.1,h.2.1,h.2.2⟩
theorem lifesize:(prog.info? 114).map (·.size)=some lE.size:=k8
theorem madeLives: ∀m:Nat,(madeCells (Value.agg #[.int .i64 0,.int .i64 0]).cells (m*2)).toList=lE.all (List.replicate m nilLife):=λm=>by
 have e: ∀m,lE.all (List.replicate m nilLife)=List.replicate (m*2) (.int .i64 0):=λm=>by
  induction m with
  |zero=>rfl
  |succ m ih=>rw[List.replicate_succ,show lE.all (nilLife::List.replicate m nilLife)=lE.cells nilLife++lE.all (List.replicate m nilLife)from rfl,ih,show lE.cells nilLife=List.replicate (1*2) (.int .i64 0)from rfl,List.replicate_append_replicate,show(m+1)*2=1*2+m*2 by omega]
 rw[e];unfold madeCells;apply List.ext_getElem
 .simp
 .intro i h1 h2;have h3:i%2<2:=Nat.mod_lt _ m7
  rcases (by omega:i%2=0\/i%2=1)with h|h
  .simp[Value.cells,h]
  .simp[Value.cells,h]
section
variable {β : dC} {n : Nat} {Γ : Env} {H : List bD} {F : List bC} {Q : Exit -> Act -> World -> Prop} {ops : Array Oper} {rest : List Oper} {o : Oper} {d : Nat}
theorem at_makeLives{m:Nat}{x y:Operand}(hw:want ops Γ o=some true)(ho:o.op= .makeSlice 97 x y)(hd:o.dst=some d)(hn:Nat.blt d n=true)
  (hx:Γ.ev x=some (.int .i64 (m:Nat))) (hy:Γ.ev y=some (.int .i64 (m:Nat))) (hm:m<=1000000)
  (k: ∀b,At β n ((d,.slice (some ⟨b,0,none⟩) m m)::Γ) (lE.row (.slice (some ⟨b,0,none⟩) m m) 114 (List.replicate m nilLife)::H) F (wpList prog ops Q rest)):At β n Γ H F (wpList prog ops Q (o::rest)):=by
 obtain⟨i,hi,hz,hs,hb⟩:=lifeInfo;exact yG (E:=lE) hw ho hd hn hx hy underlying97 hi hz hs v7 t7 (madeLives m) m9 k
theorem uW{m:Nat}{x y:Operand}(hw:want ops Γ o=some true)(ho:o.op= .makeSlice 99 x y)(hd:o.dst=some d)(hn:Nat.blt d n=true)
  (hx:Γ.ev x=some (.int .i64 (m:Nat))) (hy:Γ.ev y=some (.int .i64 (m:Nat))) (hm:m<=1000000)
  (k: ∀b,At β n ((d,.slice (some ⟨b,0,none⟩) m m)::Γ) (iT.row (.slice (some ⟨b,0,none⟩) m m) 4 (List.replicate m false)::H) F (wpList prog ops Q rest)):At β n Γ H F (wpList prog ops Q (o::rest)):=by
 obtain⟨i,hi,hz,hs,hb⟩:=bJt;refine yG (E:=iT) hw ho hd hn hx hy underlying99 hi hz hs v7 t7 ?_ m9 k
 have e: ∀m,iT.all (List.replicate m false)=List.replicate m (.bool false):=λm=>by
  induction m with
  |zero=>rfl
  |succ m ih=>rw[List.replicate_succ,List.replicate_succ,<-ih];rfl
 rw[e];unfold madeCells;apply List.ext_getElem
 .simp[iT]
 .intro i h1 h2;simp[Value.cells,Nat.mod_one]
end
theorem index_spec(A:Option Addr)(c:Nat)(l:List Int)(hl:l.length<=140737488355328)(k:Int):cE prog 160 [.slice A l.length c,.int .i64 k] [] [cF.sl (.slice A l.length c) l] (λ(_:Unit)=> .int .i64 (bDc k l 0)) (λ_=>[]) (λ_=>[]):=by
 have hT:=dB;generalize hR:bDc k l 0=r;refine j2 func160 ntmps160 ?_;intro β hM;refine g14 ?_;refine bU (ι:=Nat) [(0,_),(1,_),(7,_)] ⟨rfl,rfl,rfl,e8⟩ (λi=>[(8,.int .i64 (i:Nat))]) (λ_=>[]) (λi=>[bC.pure (i<=l.length/\r=bDc k (l.drop i) i)]) (λi=>l.length-i) 0 ⟨rfl,e8⟩ .nil ⟨e9 (⟨k7,hR.symm⟩),e8⟩ ?_;rintro i;refine bJ d7 λhinv2=>?_;refine g6 ?_;refine dH (λhc9=>?_) λhc9=>?_
 .refine g15 ?_;obtain⟨x1,hx2⟩:=gx l i;refine ss (ixs i) ?_;refine ss (fJ hx2 0) ?_;refine g3 ?_;refine jN (λhc16=>?_) λhc16=>?_
  .refine g12 ?_;have hr:=(xO hinv2.2 hx2).1 (by first|assumption|(symm;assumption));subst hr;exact rs1 () trivial
  refine g5 ?_;refine inc (i+1) ?_;refine g3 ?_;exact bk2 (i+1) ⟨e9 (⟨k7,(xO hinv2.2 hx2).2 ‹_›⟩),e8⟩
 refine g11 ?_;have hr:=idxI_end hinv2.2 k7;subst hr;exact rs1 () trivial
theorem bNi(A:Option Addr)(c:Nat)(l:List Int)(hl:l.length<=140737488355328)(k:Int):cE prog 88 [.slice A l.length c,.int .i64 k] [] [cF.sl (.slice A l.length c) l] (λ(_:Unit)=> .bool (l.contains k)) (λ_=>[]) (λ_=>[]):=by
 have hT:=dB;refine j2 func88 ntmps88 ?_;intro β hM;refine g9 ?_;refine f9 func160 (index_spec A c l hl k) .nil ⟨d7,e8⟩ λ_=>?_;refine g5 ?_;exact rs1 () e8 (he:=congrArg Value.bool (tB k l 0 m7))
theorem repeatL_spec(A:Option Addr)(c:Nat)(p:dV)(n:Nat)(hn:n<=1000000):cE prog 87 [.slice A 1 c,.int .i64 (n:Nat)] [] [lE.sl (.slice A 1 c) [p]] (λ(x:Option Addr×Nat)=> .slice x.1 n x.2) (λ(x:Option Addr×Nat)=>[lE.row (.slice x.1 n x.2) 114 (List.replicate n p)]) (λ_=>[]):=by
 have hT:=dB;refine j2 func87 ntmps87 ?_;intro β hM;refine g10 ?_;refine bS (t':=false) (decide_eq_false k7) ?_;refine g10 ?_;refine bN (z':=((1:Nat):Int)) rfl ?_;refine g2 ?_;refine bN (z':=((n:Nat):Int)) (conv64 k7) ?_;refine bF func159 (bitsMul_spec 1 n m7 k7) rfl rfl .nil e8 λ_=>?_;refine at_val (v':= .tuple #[.int .u64 ((0:Nat):Int),.int .u64 ((n:Nat):Int)]) (by rw[Nat.one_mul,Nat.div_eq_of_lt k7,Nat.mod_eq_of_lt k7]) ?_;refine g12 ?_;refine bS (t':=false) m7 ?_;refine g3 ?_;refine bS (t':=false) (decide_eq_false k7) ?_;refine g10 ?_;refine bN (z':=((n:Nat):Int)) (conv63 k7) ?_;refine at_makeLives (m:=n) rfl rfl rfl rfl rfl rfl k7 λb1=>?_;refine g7 ?_;refine bCw (E:=lE) (ys:=List.take (Nat.min 1 n) [p]) (q:=0) (dL.preE (bR d7) _) rfl rfl rfl rfl underlying97 lifesize rfl rfl m9 rfl (rep_l1 p n) (by rw[rep_l1];have:=min1_le n;omega) .head ?_;have hr1:=rep_first nilLife p n _ rfl;refine bN (z':=((Nat.min 1 n:Nat):Int)) (congrArg Nat.cast (rep_l1 p n)) ?_;refine g5 ?_;refine bU (ι:=Nat×List dV) [(7,_)] ⟨rfl,e8⟩ (λ⟨i,cur⟩=>[(8,.int .i64 (i:Nat))]) (λ⟨i,cur⟩=>[lE.row (.slice (some ⟨b1,0,none⟩) n n) 114 cur]) (λ⟨i,cur⟩=>[bC.pure (bQb nilLife p n i cur/\(1<=i\/n=0))]) (λ⟨i,cur⟩=>n-i) (Nat.min 1 n,_) ⟨rfl,e8⟩ (.c0 .nil) ⟨e9 (⟨hr1,min1_or n⟩),e8⟩ ?_;rintro⟨i,cur⟩;dsimp only;refine bJ d7 λhinv8=>?_;refine g9 ?_;refine dH (λhc37=>?_) λhc37=>?_
 .refine g3 ?_;refine dS _ _ [(true,0),(true,1),(true,2),(true,3),(true,4),(true,5),(true,6),(false,7),(true,8),(true,9)] dW l8 .nil bA.self ?_;refine g3 ?_;refine stM rfl (bGn hT (k:=i) rfl rfl rfl rfl rfl rfl k7) ?_;refine at_val (v':= .slice (some ⟨b1,i*2,none⟩) (n-i) (n-i)) (by rw[cutA_in k7 rfl]) ?_;refine g2 ?_;refine stM rfl (bDw hT (k:=i) rfl rfl rfl rfl rfl rfl k7) ?_;refine one ?_;refine bCw (E:=lE) (ys:=cur.take (Nat.min i (n-i))) (q:=i) (dL.preE (cM .head) _) rfl rfl rfl rfl underlying97 lifesize rfl rfl (rep_len hinv8.1) rfl (rep_l hinv8.1) (by rw[rep_l hinv8.1];have:Nat.min i (n-i)<=n-i:=Nat.min_le_right _ _;omega) .head ?_;have hrs:=rep_step hinv8.1 k7;have hrl:=rep_l hinv8.1;refine bN (z':=((Nat.min i (n-i):Nat):Int)) (congrArg Nat.cast hrl) ?_
  have hmn:Nat.min i (n-i)<=n-i/\1<=Nat.min i (n-i):=⟨Nat.min_le_right _ _,Nat.le_min.2 ⟨k7,k7⟩⟩
  refine g2 ?_;refine inc (i+(Nat.min i (n-i))) ?_;refine g4 ?_;exact bk2 (i+Nat.min i (n-i),_) ⟨e9 (⟨hrs,by dsimp only;omega⟩),e8⟩
 refine g12 ?_;obtain rfl:i=n:=by have:=hinv8.1.2;omega
 have hcr:cur=List.replicate i p:=by rw[hinv8.1.1,Nat.sub_self,List.replicate_zero,List.append_nil]
 subst hcr;exact rs1 (_,_) trivial
set_option maxRecDepth 100000
def Mono.ex(m:Mono)(k:Nat):UInt8:=m.E.getD k 0
def gN (m:Mono)(D:Nat->Int):List (UInt8×Int):=[(m.e0,D 0),(m.e1,D 1),(m.e2,D 2),(m.e3,D 3),(m.e4,D 4),(m.e5,D 5)]
theorem bNg(m:Mono)(D:Nat->Int): ∀k,k<6->(gN m D).drop k=(m.ex k,D k)::(gN m D).drop (k+1)
 |0,_=>rfl
 |1,_=>rfl
 |2,_=>rfl
 |3,_=>rfl
 |4,_=>rfl
 |5,_=>rfl
 |k+6,h=>absurd h k7
def iI (l:List (UInt8×Int)):Bool:=l.any λx=>decide (0<x.1.toNat)&&x.2==0
def kR:Int:=4611686018427387904
def tW (d:Int):Nat->Int->Option Int
 |0,n=>some n
 |e+1,n=>if kR/d<n then none else tW d e (n*d)
def sY:List (UInt8×Int)->Int->Option Int
 |[],n=>some n
 |x::l,n=>(tW x.2 x.1.toNat n).bind (sY l)
def dF (m:Mono)(D:Nat->Int):Int×Bool:=
 if iI (gN m D)then (0,true)else match sY (gN m D) (max m.n (-m.n))with
 |some n=>(n,true)
 |none=>(0,false)
theorem index_E(m:Mono)(k:Nat)(hk:k<6)(w:World):(Instr.index 109 (.agg #[.int .u8 m.e0.toNat,.int .u8 m.e1.toNat,.int .u8 m.e2.toNat,.int .u8 m.e3.toNat,.int .u8 m.e4.toNat,.int .u8 m.e5.toNat]) (.int .i64 (k:Int))).run prog w= .ok (.int .u8 ((m.ex k).toNat:Int)) w:=by
 rcases k with _|_|_|_|_|_|k
 .kernel_rfl
 .kernel_rfl
 .kernel_rfl
 .kernel_rfl
 .kernel_rfl
 .kernel_rfl
 .omega
theorem zero_not{m:Mono}{D:Nat->Int}(h:iI (gN m D)=false): ∀k,k<6->0<(m.ex k).toNat->D k≠0:=by
 intro k hk he hd
 have h1:(m.ex k,D k)∈gN m D:=by
  have:=bNg m D k hk;exact List.mem_of_mem_drop (i:=k) (by rw[this];simp)
 have h2:iI (gN m D)=true:=List.any_eq_true.2 ⟨_,h1,by simp[he,hd]⟩;rw[h2]at h;cases h
def InV (x:Int):Prop:=0<=x/\x<=kR
theorem inV_mul{x d:Int}(hx:InV x)(hd:1<=d)(h: ¬kR/d<x):InV (x*d):=by
 obtain⟨h0,_⟩:=hx;refine⟨Int.mul_nonneg h0 k7,?_⟩;have h1:x<=kR/d:=k7
 exact Int.le_trans (Int.mul_le_mul_of_nonneg_right h1 k7) (Int.ediv_mul_le kR k7)
theorem wrap_inV{x:Int}(h:InV x):wrap64 x=x:=by
 obtain⟨h0,h1⟩:=h;unfold kR at h1;exact IntWalk.wrap64_in x ⟨k7,k7⟩
def SixAt (w:World)(b:Nat)(D:Nat->Int):Prop:= ∀k,k<6->w.cell? ⟨b,k,none⟩=some (.int .i64 (D k))
set_option maxHeartbeats 1000000 in
theorem value_any(m:Mono)(D:Nat->Int)(w:World)(hD: ∀k,0<=D k/\D k<=2147483648)(hn: -16777216<=m.n/\m.n<=16777216):
  Calls prog 44 #[.agg #[.int .i64 m.n,.int .u8 m.e0.toNat,.int .u8 m.e1.toNat,.int .u8 m.e2.toNat,.int .u8 m.e3.toNat,.int .u8 m.e4.toNat,.int .u8 m.e5.toNat],.agg #[.int .i64 (D 0),.int .i64 (D 1),.int .i64 (D 2),.int .i64 (D 3),.int .i64 (D 4),.int .i64 (D 5)]] w λe w'=>e= .returned (.tuple #[.int .i64 (dF m D).1,.bool (dF m D).2])/\Below w.heap.size w w':=by
 have HD:=Lib.hid hD;obtain⟨hn1,hn2⟩:=hn;clear hD
 go_enter func44,ntmps44
 go_wp2
 all_goals
  have q0:fE ((w.alloc (.cells #[.int .i64 m.n,.int .u8 m.e0.toNat,.int .u8 m.e1.toNat,.int .u8 m.e2.toNat,.int .u8 m.e3.toNat,.int .u8 m.e4.toNat,.int .u8 m.e5.toNat] 111)).alloc (.cells #[.int .i64 (D 0),.int .i64 (D 1),.int .i64 (D 2),.int .i64 (D 3),.int .i64 (D 4),.int .i64 (D 5)] 117)) w.heap.size 0 m:=by simp[fE,go_sem]
  have q1:SixAt ((w.alloc (.cells #[.int .i64 m.n,.int .u8 m.e0.toNat,.int .u8 m.e1.toNat,.int .u8 m.e2.toNat,.int .u8 m.e3.toNat,.int .u8 m.e4.toNat,.int .u8 m.e5.toNat] 111)).alloc (.cells #[.int .i64 (D 0),.int .i64 (D 1),.int .i64 (D 2),.int .i64 (D 3),.int .i64 (D 4),.int .i64 (D 5)] 117)) (w.heap.size+1) D:=by
   intro k hk
   rcases k with _|_|_|_|_|_|k
   all_goals first|omega|simp[go_sem]
  have q2:Below w.heap.size w ((w.alloc (.cells #[.int .i64 m.n,.int .u8 m.e0.toNat,.int .u8 m.e1.toNat,.int .u8 m.e2.toNat,.int .u8 m.e3.toNat,.int .u8 m.e4.toNat,.int .u8 m.e5.toNat] 111)).alloc (.cells #[.int .i64 (D 0),.int .i64 (D 1),.int .i64 (D 2),.int .i64 (D 3),.int .i64 (D 4),.int .i64 (D 5)] 117)):=by go_grown
  have Q0:=Lib.hid q0;have Q1:=Lib.hid q1;have Q2:=Lib.hid q2;clear q0 q1 q2;generalize ((w.alloc (.cells #[.int .i64 m.n,.int .u8 m.e0.toNat,.int .u8 m.e1.toNat,.int .u8 m.e2.toNat,.int .u8 m.e3.toNat,.int .u8 m.e4.toNat,.int .u8 m.e5.toNat] 111)).alloc (.cells #[.int .i64 (D 0),.int .i64 (D 1),.int .i64 (D 2),.int .i64 (D 3),.int .i64 (D 4),.int .i64 (D 5)] 117))=W0 at Q0 Q1 Q2⊢;generalize w.heap.size=X at Q0 Q1⊢
  go_loop [19] (λi=> ∃k:Nat,k<=6/\i= .int .i64 k/\Hid (iI (gN m D)=iI ((gN m D).drop k))) (λi=>6-(intOf i).toNat)
  case atStart=>exact⟨0,Nat.zero_le _,rfl,rfl⟩
  case round=>
   obtain⟨k,hk,rfl,hz⟩:=hrel
   by_cases hlt:k<6
   .have hidx:=index_E m k hlt;have hc:W0.cell? ⟨X+1,k,none⟩=some (.int .i64 (D k)):=Q1.out k hlt;have hp:=bNg m D k hlt;have HZ:=Lib.hid (show iI (gN m D)=((decide (0<(m.ex k).toNat)&&D k==0) || iI ((gN m D).drop (k+1))) by rw[hz.out,hp];rfl);clear hp hz
    by_cases he:0<(m.ex k).toNat
    .have he1:decide (0<(m.ex k).toNat)=true:=by simpa using he
     by_cases hd:D k=0
     .have hd1:(D k==0)=true:=by simpa using hd
      have Hd:=Lib.hid hd;have HZ':=Lib.hid (show iI (gN m D)=true by rw[HZ.out,he1,hd1];rfl);clear hd HZ
      go_wp2
      go_ret2
      have e:dF m D=(0,true):=by unfold dF;rw[HZ'.out];rfl
      rw[e];exact⟨rfl,Q2.out⟩
     .have hd1:(D k==0)=false:=by simpa using hd
      have HZ':=Lib.hid (show iI (gN m D)=iI ((gN m D).drop (k+1)) by rw[HZ.out,hd1,Bool.and_false,Bool.false_or]);clear hd HZ
      go_wp2
      go_round
      case rel=>exact⟨k+1,k7,by go_num,HZ'⟩
      case measure=>simp[intOf];omega
    .have he1:decide (0<(m.ex k).toNat)=false:=by simpa using he
     have HZ':=Lib.hid (show iI (gN m D)=iI ((gN m D).drop (k+1)) by rw[HZ.out,he1,Bool.false_and,Bool.false_or]);clear HZ
     go_wp2
     go_round
     case rel=>exact⟨k+1,k7,by go_num,HZ'⟩
     case measure=>simp[intOf];omega
   .have HZ:=Lib.hid (show iI (gN m D)=false by rw[hz.out,List.drop_of_length_le (by simp[gN];omega)];rfl);obtain⟨q0,q1,q2,q3,q4,q5,q6⟩:=Q0.out.zero;clear hz
    go_wp2
    clear q0 q1 q2 q3 q4 q5 q6
    go_loop [34,6] (λi n=> ∃(k:Nat) (x:Int),k<=6/\i= .int .i64 k/\n= .int .i64 x/\InV x/\Hid (sY (gN m D) (max m.n (-m.n))=sY ((gN m D).drop k) x)) (λi _=>6-(intOf i).toNat)
    case atStart=>exact⟨0,_,Nat.zero_le _,rfl,rfl,⟨k7,by unfold kR;omega⟩,by show _=_;rw[List.drop_zero];try (congr 1;omega)⟩
    case round=>
     obtain⟨k2,x,hk2,rfl,rfl,hx,hmul⟩:=hrel;have HX:=Lib.hid hx;clear hx
     by_cases hlt2:k2<6
     .have hidx:=index_E m k2 hlt2;have hc:W0.cell? ⟨X+1,k2,none⟩=some (.int .i64 (D k2)):=Q1.out k2 hlt2;have HM:=Lib.hid (show sY (gN m D) (max m.n (-m.n))=(tW (D k2) (m.ex k2).toNat x).bind (sY ((gN m D).drop (k2+1))) by rw[hmul.out,bNg m D k2 hlt2];rfl);have hd:=HD.out k2;obtain⟨hd0,hd1⟩:=hd;have hu:=(m.ex k2).toNat_lt;have HNZ:=Lib.hid (zero_not HZ.out k2 hlt2);clear hmul;generalize m.ex k2=ee at hidx HM hu HNZ⊢
      go_wp2
      go_loop [39,6] (λc n=> ∃(j:Nat) (y:Int),j<=ee.toNat/\c= .int .u8 j/\n= .int .i64 y/\InV y/\Hid (sY (gN m D) (max m.n (-m.n))=(tW (D k2) (ee.toNat-j) y).bind (sY ((gN m D).drop (k2+1))))) (λc _=>ee.toNat-(intOf c).toNat)
      case atStart=>exact⟨0,x,Nat.zero_le _,rfl,rfl,HX.out,HM⟩
      case round=>
       obtain⟨j,y,hj,rfl,rfl,hy,hpow⟩:=hrel;have HY:=Lib.hid hy;clear hy
       by_cases hlt3:j<ee.toNat
       .have hd2:1<=D k2:=by have:=HNZ.out k7;omega
        have HP:=Lib.hid (show(tW (D k2) (ee.toNat-j) y)=if kR/D k2<y then none else tW (D k2) (ee.toNat-(j+1)) (y*D k2) by rw[show ee.toNat-j=(ee.toNat-(j+1))+1 by omega,tW])
        by_cases hq:kR/D k2<y
        .have hq1:decide (4611686018427387904/D k2<y)=true:=by simpa[kR]using hq
         go_wp2
         go_ret2
         have e:dF m D=(0,false):=by
          unfold dF;rw[HZ.out,hpow.out,HP.out,if_pos hq];rfl
         rw[e];exact⟨rfl,Q2.out⟩
        .have hq1:decide (4611686018427387904/D k2<y)=false:=by simpa[kR]using hq
         have HY2:=Lib.hid (inV_mul HY.out hd2 hq);have hw:=wrap_inV HY2.out;have HP2:=Lib.hid (show sY (gN m D) (max m.n (-m.n))=(tW (D k2) (ee.toNat-(j+1)) (y*D k2)).bind (sY ((gN m D).drop (k2+1))) by rw[hpow.out,HP.out,if_neg hq]);clear HP hpow
         go_wp2
         go_round
         case rel=>exact⟨j+1,y*D k2,k7,by go_num,by rw[hw],HY2.out,HP2⟩
         case measure=>simp[intOf];omega
       .have HP:=Lib.hid (show sY (gN m D) (max m.n (-m.n))=sY ((gN m D).drop (k2+1)) y by rw[hpow.out,show ee.toNat-j=0 by omega];rfl);clear hpow
        go_wp2
        go_round
        case rel=>exact⟨k2+1,y,k7,by go_num,rfl,HY.out,HP⟩
        case measure=>simp[intOf];omega
     .have e:dF m D=(x,true):=by
       unfold dF;rw[HZ.out,hmul.out,List.drop_of_length_le (by simp[gN];omega)];rfl
      have He:=Lib.hid e;clear e hmul
      go_wp2
      go_ret2
      rw[He.out];exact⟨rfl,Q2.out⟩
end
section
open Go.RowKit Go.Proofs.Tryz
set_option maxRecDepth 100000
def Ints (w:World)(A:Option Addr)(l:List Int):Prop:=
 ∀(k:Nat) (d:Int),l[k]?=some d-> ∃b o,A=some ⟨b,o,none⟩/\b<w.heap.size/\w.cell? ⟨b,o+k,none⟩=some (.int .i64 d)
theorem Ints.below{w w':World}{A:Option Addr}{l:List Int}(h:Ints w A l)(hb:Below w.heap.size w w'):Ints w' A l:=λk d hk=>by
 obtain⟨b,o,e,hB,hm⟩:=h k d hk;exact⟨b,o,e,Nat.lt_of_lt_of_le hB hb.size,(hb.cell (p:=⟨b,o+k,none⟩) hB).trans hm⟩
def pA (d:Int):Bool:=decide (0<=d/\d<=2147483648)
def qN (ds:List Int):Bool:=decide (ds.length<=6)&&ds.all pA
def nN (D:Nat->Int):List Mono->Int->Int->Option Int
 |[],_,sum=>some sum
 |m::l,size,sum=>
  if (dF m D).2=false\/kR-size<(dF m D).1 then none
  else nN D l (size+(dF m D).1) (if m.n<0 then sum-(dF m D).1 else sum+(dF m D).1)
def mK (ds:List Int)(k:Nat):Int:=ds.getD k 0
def bH (p:List Mono)(ds:List Int):Int×Int:=
 if cL p then if qN ds then match nN (mK ds) p 0 0 with
  |some n=>(n,0)
  |none=>(0,22)
 else (0,23)else (0,20)
def qD (w:World)(b:Nat)(D:Nat->Int):Prop:=b<w.heap.size/\ ∀k,k<6->w.cell? ⟨b,k,none⟩=some (.int .i64 (D k))/\w.frozen? ⟨b,k,none⟩=false
theorem qD.set{w:World}{b:Nat}{D:Nat->Int}(h:qD w b D)(k:Nat)(hk:k<6)(d:Int):qD (w.setCell ⟨b,k,none⟩ (.int .i64 d)) b (λj=>if j=k then d else D j):=by
 refine⟨by simpa using h.1,λj hj=>⟨?_,?_⟩⟩
 .by_cases e:j=k
  .subst e;dsimp only;rw[if_pos rfl];exact World.cell?_setCell_same w ⟨b,j,none⟩ _ (h.2 j hj).1
  .dsimp only;rw[if_neg e,World.cell?_setCell_other w _ _ _ (by intro h;injection h with _ h;exact e h.symm)];exact(h.2 j hj).1
 .rw[World.frozen?_setCell];exact(h.2 j hj).2
theorem take_dim{ds:List Int}{k:Nat}{d:Int}(h:ds[k]?=some d):(λj=>if j=k then d else mK (ds.take k) j)=mK (ds.take (k+1)):=by
 funext j
 have hk:k<ds.length:=(List.getElem?_eq_some_iff.1 h).1;have hd:ds[k]=d:=(List.getElem?_eq_some_iff.1 h).2;unfold mK;rw[List.take_succ_eq_append_getElem hk,hd];simp only[List.getD_eq_getElem?_getD];have hl:(ds.take k).length=k:=by simp;omega
 by_cases e:j=k
 .subst e;rw[if_pos rfl,List.getElem?_append_right k7,hl];simp
 .rw[if_neg e]
  by_cases e2:j<k
  .rw[List.getElem?_append_left k7]
  .rw[List.getElem?_eq_none k7,List.getElem?_eq_none o7]
theorem bGr{d:Int}(hd:0<=d): ∀(e:Nat) (n r:Int),0<=n->tW d e n=some r->0<=r
 |0,n,r,hn,h=>by simp[tW]at h;omega
 |e+1,n,r,hn,h=>by
  unfold tW at h;split at h
  .cases h
  .exact bGr hd e (n*d) r (Int.mul_nonneg hn hd) h
theorem bFy: ∀(l:List (UInt8×Int)) (n r:Int),(∀x∈l,0<=x.2)->0<=n->sY l n=some r->0<=r
 |[],n,r,_,hn,h=>by simp[sY]at h;omega
 |x::l,n,r,hl,hn,h=>by
  unfold sY at h
  cases hp:tW x.2 x.1.toNat n with
  |none=>rw[hp]at h;cases h
  |some y=>
   rw[hp]at h;exact bFy l y r (λz hz=>hl z (by simp[hz])) (bGr (hl x m9) _ _ _ hn hp) h
theorem bAv(m:Mono)(D:Nat->Int)(hD: ∀k,0<=D k):0<=(dF m D).1:=by
 unfold dF;split
 .simp
 .split
  .rename_i n hn;refine bFy _ _ _ (λx hx=>?_) k7 hn;simp only[gN,List.mem_cons,List.not_mem_nil,or_false]at hx
   rcases hx with rfl|rfl|rfl|rfl|rfl|rfl<;>exact hD _
  .simp
theorem vA: ∀{o:Option Mono} {l:List Mono},dI o l=true-> ∀m∈l,gU m=true
 |_,[],_,m,hm=>by simp at hm
 |none,a::l,h,m,hm=>by
  simp only[dI,Bool.and_eq_true]at h
  rcases List.mem_cons.1 hm with rfl|hm
  .exact h.1
  .exact vA h.2 m hm
 |some b,a::l,h,m,hm=>by
  simp only[dI,Bool.and_eq_true]at h
  rcases List.mem_cons.1 hm with rfl|hm
  .exact h.1
  .exact vA h.2.2 m hm
theorem qD.below{w w':World}{b:Nat}{D:Nat->Int}(h:qD w b D)(hb:Below w.heap.size w w'):qD w' b D:=
 ⟨Nat.lt_of_lt_of_le h.1 hb.size,λk hk=>⟨(hb.cell (p:=⟨b,k,none⟩) h.1).trans (h.2 k hk).1,(hb.frozen (p:=⟨b,k,none⟩) h.1).trans (h.2 k hk).2⟩⟩
theorem bCo{ds:List Int}(h:ds.all pA=true): ∀k,0<=mK ds k/\mK ds k<=2147483648:=λk=>by
 unfold mK;rw[List.getD_eq_getElem?_getD]
 cases hk:ds[k]? with
 |none=>simp
 |some d=>
  have hd:d∈ds:=List.mem_of_getElem? hk;have:=List.all_eq_true.1 h d hd
  simpa[pA]using this
set_option maxHeartbeats 1000000 in
theorem eval_any(A B:Option Addr)(c d:Nat)(p:List Mono)(ds:List Int)(w:World)(ha:jY w A p)(hb:Ints w B ds)(hp:p.length<=140737488355328)(hq:ds.length<=140737488355328):
  Calls prog 15 #[.slice A p.length c,.slice B ds.length d] w λe w'=>e= .returned (.tuple #[.int .i64 (bH p ds).1,.int .i64 (bH p ds).2])/\Below w.heap.size w w':=by
 have Ha:=Lib.hid ha;have Hb:=Lib.hid hb;clear ha hb;cases hrp:cL p
 .have e:bH p ds=(0,20):=by unfold bH;rw[hrp];rfl
  rw[e]
  go_enter func15,ntmps15
  go_wp2_with (go_at_call 43;refine(gA A c p _ Ha.out hp).mono ?_;rintro e w1 ⟨rfl,hb1⟩)
  go_ret2
  exact⟨rfl,hb1⟩
 .go_enter func15,ntmps15
  go_wp2_with fail
  refine(gA A c p _ Ha.out hp).mono ?_;rintro e w1 ⟨rfl,hb1⟩;have H1:=Lib.hid hb1;clear hb1
  go_wp2
  have s0:qD (w1.alloc (.cells #[.int .i64 0,.int .i64 0,.int .i64 0,.int .i64 0,.int .i64 0,.int .i64 0] 117)) w1.heap.size (mK (ds.take 0)):=by
   refine⟨m9,λk hk=>?_⟩
   rcases k with _|_|_|_|_|_|k
   all_goals first|omega|simp[go_sem,mK]
  have b0:Below w.heap.size w (w1.alloc (.cells #[.int .i64 0,.int .i64 0,.int .i64 0,.int .i64 0,.int .i64 0,.int .i64 0] 117)):=H1.out.alloc H1.out.size _;have hXw:w.heap.size<=w1.heap.size:=H1.out.size;have S0:=Lib.hid s0;have B0:=Lib.hid b0;clear s0 b0 H1;generalize w1.alloc (.cells #[.int .i64 0,.int .i64 0,.int .i64 0,.int .i64 0,.int .i64 0,.int .i64 0] 117)=W0 at S0 B0⊢;generalize w1.heap.size=X at S0 hXw⊢
  go_loopw [20] (λi wr=> ∃k:Nat,k<=ds.length/\k<=6/\i= .int .i64 k/\qD wr X (mK (ds.take k))/\Hid (ds.all pA=(ds.drop k).all pA)/\Below w.heap.size w wr) (λi _=>ds.length-(intOf i).toNat)
  case atStart=>exact⟨0,Nat.zero_le _,k7,rfl,S0.out,rfl,B0.out⟩
  case round=>
   obtain⟨k,hk,hk6,rfl,hsix,hall,hbl⟩:=hrel;have HSix:=Lib.hid hsix;have HBL:=Lib.hid hbl;clear hsix hbl S0 B0
   by_cases hlt:k<ds.length
   .obtain⟨x,hx⟩: ∃x,ds[k]?=some x:=⟨ds[k],List.getElem?_eq_getElem hlt⟩
    have dm:ds.drop k=x::ds.drop (k+1):=by
     rw[List.drop_eq_getElem_cons hlt];have:=(List.getElem?_eq_some_iff.1 hx).2;rw[this]
    obtain⟨b,o,rfl,hB,c0⟩:=Hb.out.below HBL.out k x hx;have HAll:=Lib.hid (show ds.all pA=(pA x&&(ds.drop (k+1)).all pA) by rw[hall.out,dm,List.all_cons]);have HTk:=Lib.hid (take_dim hx);clear dm hx hall hB
    by_cases h6:k=6
    .have h61:decide ((6:Int)<=(k:Int))=true:=by simp;omega
     have e:bH p ds=(0,23):=by
      unfold bH;rw[hrp,show qN ds=false by unfold qN;rw[decide_eq_false k7];rfl];rfl
     have He:=Lib.hid e;clear e h6
     go_wp2
     go_ret2
     rw[He.out];exact⟨rfl,HBL.out⟩
    .have h61:decide ((6:Int)<=(k:Int))=false:=by simp;omega
     cases hs:pA x
     .have e:bH p ds=(0,23):=by
       unfold bH;rw[hrp,show qN ds=false by unfold qN;rw[HAll.out,hs];simp];rfl
      have He:=Lib.hid e;clear e h6
      have hs':x<0\/2147483648<x:=by
       have:=of_decide_eq_false hs;omega
      rcases Int.lt_or_le x 0 with hx0|hx0
      .have t1:decide (x<0)=true:=by simpa using hx0
       go_wp2
       go_ret2
       rw[He.out];exact⟨rfl,HBL.out⟩
      .have t1:decide (x<0)=false:=by simpa using hx0
       have t2:decide (2147483648<x)=true:=by simp;omega
       go_wp2
       go_ret2
       rw[He.out];exact⟨rfl,HBL.out⟩
     .have hs':0<=x/\x<=2147483648:=of_decide_eq_true hs;have t1:decide (x<0)=false:=by simp;omega
      have t2:decide (2147483648<x)=false:=by simp;omega
      obtain⟨hcell,hfro⟩:=HSix.out.2 k k7;have HA2:=Lib.hid (show ds.all pA=(ds.drop (k+1)).all pA by rw[HAll.out,hs,Bool.true_and]);have HS2:=Lib.hid (show qD (wr.setCell ⟨X,k,none⟩ (.int .i64 x)) X (mK (ds.take (k+1))) by rw[<-HTk.out];exact HSix.out.set k k7 x);have HB2:=Lib.hid (show Below w.heap.size w (wr.setCell ⟨X,k,none⟩ (.int .i64 x))from HBL.out.setCell hXw _);clear HAll HTk HSix HBL hs'
      go_wp2
      go_roundw
      case rel=>exact⟨k+1,k7,k7,by go_num,HS2.out,HA2,HB2.out⟩
      case measure=>simp[intOf];omega
   .have hall1:ds.all pA=true:=by rw[hall.out,List.drop_of_length_le k7];rfl
    have HD:=Lib.hid (bCo hall1)
    have He:=Lib.hid (show bH p ds=match nN (mK ds) p 0 0 with|some n=>(n,0)|none=>(0,22) by
     unfold bH;rw[hrp,show qN ds=true by unfold qN;rw[hall1,decide_eq_true k7];rfl]
     rfl)
    have HS:=Lib.hid (show qD wr X (mK ds) by have:=HSix.out;rw[List.take_of_length_le k7]at this;exact this)
    have HRP:=Lib.hid (show ∀m∈p,gU m=true by
     unfold cL at hrp;simp only[Bool.and_eq_true]at hrp
     exact vA hrp.2)
    clear hall hall1 HSix;generalize mK ds=D at HD He HS⊢
    go_wp2
    go_loopw [41,9,10] (λi sm sz wi=> ∃(j:Nat) (size sum:Int),j<=p.length/\i= .int .i64 j/\sm= .int .i64 sum/\sz= .int .i64 size/\Hid (0<=size/\size<=kR/\ -size<=sum/\sum<=size)/\Hid (nN D p 0 0=nN D (p.drop j) size sum)/\qD wi X D/\Below w.heap.size w wi) (λi _ _ _=>p.length-(intOf i).toNat)
    case atStart=>exact⟨0,0,0,Nat.zero_le _,rfl,rfl,rfl,⟨k7,by unfold kR;omega,k7,k7⟩,rfl,HS.out,HBL.out⟩
    case round=>
     obtain⟨j,size,sum,hj,rfl,rfl,rfl,hbd,hev,hsix,hbl⟩:=hrel;have HS2:=Lib.hid hsix;have HB2:=Lib.hid hbl;clear hsix hbl HS HBL
     by_cases hlt2:j<p.length
     .obtain⟨m,hm,dm⟩:=lW hlt2;obtain⟨b,o,rfl,hB,c0,c1,c2,c3,c4,c5,c6⟩:=Ha.out.below HB2.out j m hm;have hsm:gU m=true:=HRP.out m (f5 hm);have hsm':m.n≠0/\m.n<=16777216/\ -16777216<=m.n/\m.deg<=8:=of_decide_eq_true hsm;have HV:=Lib.hid (bAv m D (λk=>(HD.out k).1))
      have HE:=Lib.hid (show nN D p 0 0=if (dF m D).2=false\/kR-size<(dF m D).1 then none
        else nN D (p.drop (j+1)) (size+(dF m D).1) (if m.n<0 then sum-(dF m D).1 else sum+(dF m D).1) by rw[hev.out,dm,nN])
      have hX:X<wr.heap.size:=HS2.out.1;have x0:=(HS2.out.2 0 k7).1;have x1:=(HS2.out.2 1 k7).1;have x2:=(HS2.out.2 2 k7).1;have x3:=(HS2.out.2 3 k7).1;have x4:=(HS2.out.2 4 k7).1;have x5:=(HS2.out.2 5 k7).1;have Hval:=Lib.hid (λW=>value_any m D W HD.out ⟨hsm'.2.2.1,hsm'.2.1⟩);have hS3: ∀o,qD (wr.alloc o) X D:=λo=>HS2.out.below ((Below.refl _ _).alloc (Nat.le_refl _) _);have HS3:=Lib.hid hS3;have HB3:=Lib.hid (show ∀o,Below w.heap.size w (wr.alloc o)from λo=>HB2.out.alloc HB2.out.size o);clear hm dm hB hsm hsm' hev hS3 HS2 HB2
      go_wp2_with fail
      refine(Hval.out _).mono ?_;rintro e w5 ⟨rfl,hb5⟩;have q0:fE w5 wr.heap.size 0 m:=fE.below (w:=wr.alloc (.cells #[.int .i64 m.n,.int .u8 m.e0.toNat,.int .u8 m.e1.toNat,.int .u8 m.e2.toNat,.int .u8 m.e3.toNat,.int .u8 m.e4.toNat,.int .u8 m.e5.toNat] 111)) (by simp[fE,go_sem]) hb5 m9;have HS5:=Lib.hid ((HS3.out _).below hb5);have HB5:=Lib.hid ((HB3.out _).trans (hb5.mono (HB3.out _).size));have n0:=q0.zero.1;clear hb5 q0 c0 c1 c2 c3 c4 c5 c6 x0 x1 x2 x3 x4 x5 hX Hval HS3 HB3;generalize dF m D=v at HV HE⊢;obtain⟨n,ok⟩:=v;simp only at HV HE⊢;cases ok
      .have e:bH p ds=(0,22):=by rw[He.out,HE.out,if_pos (.inl rfl)]
       have He2:=Lib.hid e;clear e HE
       go_wp2
       go_ret2
       rw[He2.out];exact⟨rfl,HB5.out⟩
      .obtain⟨g0,g1,g2,g3⟩:=hbd.out;have gn:0<=n:=HV.out;unfold kR at g1
       by_cases hq:kR-size<n
       .have hq1:decide (4611686018427387904-size<n)=true:=by simpa[kR]using hq
        have e:bH p ds=(0,22):=by rw[He.out,HE.out,if_pos (.inr hq)]
        have He2:=Lib.hid e;clear e HE hq
        go_wp2
        go_ret2
        rw[He2.out];exact⟨rfl,HB5.out⟩
       .have hq1:decide (4611686018427387904-size<n)=false:=by simpa[kR]using hq
        have hq2:size+n<=4611686018427387904:=by unfold kR at hq;omega
        by_cases hneg:m.n<0
        .have HE2:=Lib.hid (show nN D p 0 0=nN D (p.drop (j+1)) (size+n) (sum-n) by rw[HE.out,if_neg u2,if_pos hneg]);have hneg1:decide (m.n<0)=true:=by simpa using hneg
         clear HE hq
         go_wp2
         go_roundw
         case rel=>exact⟨j+1,size+n,sum-n,k7,by go_num,by go_num,by go_num,⟨k7,by unfold kR;omega,k7,k7⟩,HE2,HS5.out,HB5.out⟩
         case measure=>simp[intOf];omega
        .have HE2:=Lib.hid (show nN D p 0 0=nN D (p.drop (j+1)) (size+n) (sum+n) by rw[HE.out,if_neg u2,if_neg hneg]);have hneg1:decide (m.n<0)=false:=by simpa using hneg
         clear HE hq
         go_wp2
         go_roundw
         case rel=>exact⟨j+1,size+n,sum+n,k7,by go_num,by go_num,by go_num,⟨k7,by unfold kR;omega,k7,k7⟩,HE2,HS5.out,HB5.out⟩
         case measure=>simp[intOf];omega
     .have e:bH p ds=(sum,0):=by rw[He.out,hev.out,List.drop_of_length_le k7,nN]
      have He2:=Lib.hid e;clear e hev
      go_wp2
      go_ret2
      rw[He2.out];exact⟨rfl,HB2.out⟩
end
section
open Go.RowKit Go.Proofs.Tryz
def celT:Tab:=[(3,⟨.int .i64,1⟩),(2,⟨.int .i64,1⟩),(5,⟨.int .u8,1⟩),(4,⟨.bool,1⟩),(77,⟨.int .u8,1⟩),(32,⟨.int .i64,1⟩),(43,⟨.slice 111,1⟩),(42,⟨.slice 43,1⟩),(172,⟨.struct [(3,0),(3,1),(2,2),(43,3),(77,4)],5⟩),(78,⟨.slice 172,1⟩),(95,⟨.struct [(42,0),(3,1)],2⟩),(22,⟨.slice 95,1⟩),(80,⟨.struct [(3,0),(3,1),(43,2),(42,3),(77,4),(78,5)],6⟩),(23,⟨.slice 80,1⟩),(24,⟨.slice 3,1⟩),(99,⟨.slice 4,1⟩),(26,⟨.struct [(3,0),(22,1),(23,2),(24,3)],4⟩),(114,⟨.struct [(3,0),(3,1)],2⟩),(97,⟨.slice 114,1⟩),(201,⟨.struct [(3,0),(3,1),(3,2),(99,3)],4⟩),(27,⟨.slice 2,1⟩),(198,⟨.array 64 4,64⟩),(111,⟨.struct [(2,0),(109,1)],7⟩),(109,⟨.array 6 5,6⟩),(290,⟨.slice 5,1⟩),(224,⟨.int .u64,1⟩),(199,⟨.other,1⟩),(274,⟨.other,1⟩),(126,⟨.other,1⟩),(169,⟨.other,1⟩)]
theorem vH:dY prog celT:=uO.ok
 ⟨⟨by rw[underlying3];rfl,k8⟩,
  ⟨by rw[underlying2];rfl,k8⟩,
  ⟨by rw[underlying5];rfl,k8⟩,
  ⟨by rw[underlying4];rfl,k8⟩,
  ⟨by rw[underlying77];rfl,k8⟩,
  ⟨by rw[underlying32];rfl,k8⟩,
  ⟨by rw[underlying43];rfl,k8⟩,
  ⟨by rw[underlying42];rfl,k8⟩,
  ⟨by rw[underlying172];rfl,k8⟩,
  ⟨by rw[underlying78];rfl,k8⟩,
  ⟨by rw[underlying95];rfl,k8⟩,
  ⟨by rw[underlying22];rfl,k8⟩,
  ⟨by rw[underlying80];rfl,k8⟩,
  ⟨by rw[underlying23];rfl,k8⟩,
  ⟨by rw[underlying24];rfl,k8⟩,
  ⟨by rw[underlying99];rfl,k8⟩,
  ⟨by rw[underlying26];rfl,k8⟩,
  ⟨by rw[underlying114];rfl,k8⟩,
  ⟨by rw[underlying97];rfl,k8⟩,
  ⟨by rw[underlying201];rfl,k8⟩,
  ⟨by rw[underlying27];rfl,k8⟩,
  ⟨by rw[underlying198];rfl,k8⟩,
  ⟨by rw[underlying111];rfl,k8⟩,
  ⟨by rw[underlying109];rfl,k8⟩,
  ⟨by rw[underlying290];rfl,k8⟩,
  ⟨by rw[underlying224];rfl,k8⟩,
  ⟨by rw[underlying199];rfl,k8⟩,
  ⟨by rw[underlying274];rfl,k8⟩,
  ⟨by rw[underlying126];rfl,k8⟩,
  ⟨by rw[underlying169];rfl,k8⟩,e8⟩
theorem bDy: ∃i:TypeInfo,prog.info? 2=some i/\i.zero=some (.int .i64 0)/\i.size=1/\i.bytes=8:=by
 have h:(prog.info? 2).map (λi=>(i.zero,i.size,i.bytes))=some (some (.int .i64 0),1,8):=k8
 cases hi:prog.info? 2 with
 |none=>simp[hi]at h
 |some i=>simp[hi]at h;exact⟨i,rfl,h.1,h.2.1,h.2.2⟩
theorem nX{β:dC}{n:Nat}{Γ:Env}{H:List bD}{F:List bC}{Q:Exit->Act->World->Prop}{ops:Array Oper}{rest:List Oper}{o:Oper}{d:Nat}{x:Operand}{m:Int}(hw:want ops Γ o=some true)(ho:o.op= .buildSlice 27 1 #[(0,x)])(hd:o.dst=some d)(hn:Nat.blt d n=true)
  (hx:Γ.ev x=some (.int .i64 m)) (k: ∀b,At β n ((d,.slice (some ⟨b,0,none⟩) 1 1)::Γ) (.obj b (.cells (cF.all [m]).toArray 2)::H) F (wpList prog ops Q rest)):At β n Γ H F (wpList prog ops Q (o::rest)):=by
 obtain⟨i,hi,hz,hs,_⟩:=bDy;refine nF hw ho hd hn hx underlying27 hi hz k7 k7 ?_ k;rw[hs]
 kernel_rfl
theorem nS{β:dC}{n:Nat}{Γ:Env}{H:List bD}{F:List bC}{Q:Exit->Act->World->Prop}{ops:Array Oper}{rest:List Oper}{o:Oper}{d:Nat}{x y:Operand}{c q:Nat}{v:Value}{A:Option Addr}{xs ys:List Int}{H':List bD}(hH:bW H (cF.row v 2 xs) H')(hr:dL β H F cF A ys)(hg:o.guard=none)
  (ho:o.op= .call {callee:= .builtin .append,args:= #[x,y],argTypes:= #[27,27]}) (hd:o.dst=some d) (hn:Nat.blt d n=true)
  (hx:Γ.ev x=some v) (hy:Γ.ev y=some (.slice A q c)) (hq:q=ys.length) (hl:xs.length+ys.length<=17592186044416)
  (k: ∀A' cap',At β n ((d,.slice A' (xs++ys).length cap')::Γ) (cF.row (.slice A' (xs++ys).length cap') 2 (xs++ys)::H') F (wpList prog ops Q rest)):At β n Γ H F (wpList prog ops Q (o::rest)):=by
 obtain⟨i,hi,hz,hs,hb⟩:=bDy;exact jG hH hr hg ho hd hn underlying27 hi hz hs hb rfl hx hy hq k7 m7 k
theorem ints_of{S:jF}{w:World}{A:Option Addr}{k c:Nat}{l:List Int}(hS: ∀b,S b->b<w.heap.size)(h:(cF.sl (.slice A k c) l).p S w):Ints w A l:=λi d hi=>by
 obtain⟨A',cap,e,h⟩:=h;injection e with e1 e2 e3
 subst e1;obtain⟨b,o,cs,e1,e2,e3,e4⟩:=h i d hi;have e4:cs=[.int .i64 d]:=e4;subst e4;refine⟨b,o,e1,hS b e2,?_⟩;have:=e3 0 _ rfl;have hs:cF.size=1:=rfl;rw[show(Enc.flat cF.size cF.cells).size=1 from rfl]at this
 simpa using this
theorem bAj(p:PolV)(B:Option Addr)(d:Nat)(ds:List Int)(hp:p.list.length<=140737488355328)(hq:ds.length<=140737488355328):cE prog 15 [.slice p.addr p.list.length p.cap,.slice B ds.length d] [] [fC p,cF.sl (.slice B ds.length d) ds] (λ_:Unit=> .tuple #[.int .i64 (bH p.list ds).1,.int .i64 (bH p.list ds).2]) (λ_=>[]) (λ_=>[]):=
 pC λ_ w hS h=>eval_any _ _ _ _ _ _ w (kI hS (h _ (.head _))) (ints_of hS (h _ (.tail _ (.head _)))) hp hq
def bQl (dims:List Int)(p:List Mono):Bool:=(bH p dims).2==0&&decide (0<=(bH p dims).1)&&decide ((bH p dims).1<=65536)
def sidesGo(dims:List Int):List (List Mono)->List Int->Option (List Int)
 |[],acc=>some acc
 |p::r,acc=>if bQl dims p=true then sidesGo dims r (acc++[(bH p dims).1])else none
def prodQ:List Int->Int->Option Int
 |[],a=>some a
 |n::r,a=>if 65536<a*n then none else prodQ r (a*n)
def sizeB (sides:List (List Mono))(dims:List Int):Option Int:=match sidesGo dims sides []with
 |none=>none
 |some l=>if l.contains 0 then some 0 else prodQ l 1
def cellsGo(dims:List Int):List gQ->Int->Int×Int
 |[],all=>(all,0)
 |b::r,all=>match sizeB b.sides dims with
  |none=>(0,102)
  |some n=>if 1048576<all+n then (0,102)else cellsGo dims r (all+n)
def badD (n:Int):Bool:=decide (n<0) || decide (65536<n)
def pX (vars:Int)(dims:List Int):Bool:=decide ((dims.length:Int)=vars)&& !dims.any badD
def fH (c:dE)(dims:List Int):Int×Int:=if cZ c=true then if pX c.vars dims=true then cellsGo dims c.bufs 0 else (0,101)else (0,100)
def inSz (l:List Int):Prop:= ∀n∈l,0<=n/\n<=65536
section
variable {dims acc : List Int} {l : List (List Mono)} {p : List Mono} {i : Nat} {R : Option (List Int)}
theorem sides_yes(h:R=sidesGo dims (l.drop i) acc)(hp:l[i]?=some p)(h1:(bH p dims).2=0)(h2:0<=(bH p dims).1)(h3:(bH p dims).1<=65536):R=sidesGo dims (l.drop (i+1)) (acc++[(bH p dims).1]):=by
 obtain⟨hlt,e⟩:=List.getElem?_eq_some_iff.1 hp;rw[h,<-List.getElem_cons_drop hlt,e,sidesGo,if_pos (by simp[bQl,h1,h2,h3])]
theorem bLy(h:R=sidesGo dims (l.drop i) acc)(hp:l[i]?=some p)(h1:(bH p dims).2≠0\/(bH p dims).1<0\/65536<(bH p dims).1):R=none:=by
 obtain⟨hlt,e⟩:=List.getElem?_eq_some_iff.1 hp;rw[h,<-List.getElem_cons_drop hlt,e,sidesGo,if_neg];simp only[bQl,Bool.and_eq_true,beq_iff_eq,decide_eq_true_eq];rintro⟨⟨a,b⟩,c⟩;omega
theorem sides_end(h:R=sidesGo dims (l.drop i) acc)(hi:l.length<=i):R=some acc:=by
 rw[h,List.drop_of_length_le hi,sidesGo]
theorem bPv{n:Int}(h:inSz acc)(h2:0<=n)(h3:n<=65536):inSz (acc++[n]):=λy hy=>by
 rcases List.mem_append.1 hy with hy|hy
 .exact h y hy
 .have e:y=n:=by simpa using hy
  subst e;exact⟨h2,h3⟩
end
section
variable {l : List Int} {a n : Int} {i : Nat} {R : Option Int}
theorem prod_yes(h:R=prodQ (l.drop i) a)(hp:l[i]?=some n)(h1:a*n<=65536):R=prodQ (l.drop (i+1)) (a*n):=by
 obtain⟨hlt,e⟩:=List.getElem?_eq_some_iff.1 hp;rw[h,<-List.getElem_cons_drop hlt,e,prodQ,if_neg k7]
theorem prod_no(h:R=prodQ (l.drop i) a)(hp:l[i]?=some n)(h1:65536<a*n):R=none:=by
 obtain⟨hlt,e⟩:=List.getElem?_eq_some_iff.1 hp;rw[h,<-List.getElem_cons_drop hlt,e,prodQ,if_pos h1]
theorem prod_end(h:R=prodQ (l.drop i) a)(hi:l.length<=i):R=some a:=by
 rw[h,List.drop_of_length_le hi,prodQ]
theorem mul_in(ha:0<=a/\a<=65536)(hn:0<=n/\n<=65536):0<=a*n/\a*n<=4294967296:=by
 refine⟨Int.mul_nonneg ha.1 hn.1,?_⟩;have h1:a*n<=65536*n:=Int.mul_le_mul_of_nonneg_right ha.2 hn.1;omega
theorem prodQ_in: ∀{l:List Int} {a r:Int},0<=a->a<=65536->inSz l->prodQ l a=some r->0<=r/\r<=65536
 |[],a,r,h0,h1,_,h=>by cases h;exact⟨h0,h1⟩
 |n::l,a,r,h0,h1,hl,h=>by
  unfold prodQ at h;have hn:=hl n (List.mem_cons_self ..);split at h
  .cases h
  .exact prodQ_in (mul_in ⟨h0,h1⟩ hn).1 k7 (λy hy=>hl y (List.mem_cons_of_mem _ hy)) h
end
theorem bIp{dims:List Int}: ∀{l:List (List Mono)} {acc r:List Int},inSz acc->sidesGo dims l acc=some r->inSz r
 |[],acc,r,ha,h=>by cases h;exact ha
 |p::l,acc,r,ha,h=>by
  unfold sidesGo at h;split at h
  .rename_i hs;simp only[bQl,Bool.and_eq_true,beq_iff_eq,decide_eq_true_eq]at hs;exact bIp (bPv ha hs.1.2 hs.2) h
  .cases h
theorem sizeB_in{sides:List (List Mono)}{dims:List Int}{n:Int}(h:sizeB sides dims=some n):0<=n/\n<=65536:=by
 unfold sizeB at h;split at h
 .cases h
 .rename_i l hl;split at h
  .cases h;omega
  .exact prodQ_in k7 k7 (bIp (λ_ h=>by cases h) hl) h
theorem indexF6_spec(A:Option Addr)(c:Nat)(l:List Int)(hl:l.length<=140737488355328)(f:FuncId)(cap:List Value)(G:List bC)(p:Int->Bool)(hcf: ∀(args:Array Value) (w:World),(callFunc f args).run prog w= .ok (.enter f args) w)(hf: ∀k:Int,cE prog f (.int .i64 k::cap) [] G (λ_:Unit=> .bool (p k)) (λ_=>[]) (λ_=>[])):cE prog 126 [.slice A l.length c,.func (.func f) #[] cap.toArray] [] (cF.sl (.slice A l.length c) l::G) (λ(_:Unit)=> .int .i64 (pF p l 0)) (λ_=>[]) (λ_=>[]):=by
 have hT:=vH;generalize hR:pF p l 0=r;refine j2 func126 ntmps126 ?_;intro β hM;refine g14 ?_;refine bU (ι:=Nat) [(0,_),(1,_),(7,_)] ⟨rfl,rfl,rfl,e8⟩ (λi=>[(8,.int .i64 (i:Nat))]) (λ_=>[]) (λi=>[bC.pure (i<=l.length/\r=pF p (l.drop i) i)]) (λi=>l.length-i) 0 ⟨rfl,e8⟩ .nil ⟨e9 (⟨k7,hR.symm⟩),e8⟩ ?_;rintro i;refine bJ d7 λhinv2=>?_;refine g6 ?_;refine dH (λhc9=>?_) λhc9=>?_
 .refine g15 ?_;obtain⟨x1,hx2⟩:=gx l i;refine ss (ixs i) ?_;refine ss (fJ hx2 0) ?_;refine lJ hcf (hf x1) rfl rfl rfl rfl rfl rfl rfl .nil (bA.drop 2) λ_=>?_;refine g2 ?_;refine yS (λhc16=>?_) λhc16=>?_
  .refine g12 ?_;obtain rfl:=(nL hinv2.2 hx2).1 ‹_›;exact rs1 () trivial
  refine g5 ?_;refine inc (i+1) ?_;refine g3 ?_;exact bk2 (i+1) ⟨e9 (⟨k7,(nL hinv2.2 hx2).2 ‹_›⟩),e8⟩
 refine g11 ?_;have hr:=bBq hinv2.2 k7;subst hr;exact rs1 () trivial
theorem vU(A:Option Addr)(c:Nat)(l:List Int)(hl:l.length<=140737488355328)(f:FuncId)(cap:List Value)(G:List bC)(p:Int->Bool)(hcf: ∀(args:Array Value) (w:World),(callFunc f args).run prog w= .ok (.enter f args) w)(hf: ∀k:Int,cE prog f (.int .i64 k::cap) [] G (λ_:Unit=> .bool (p k)) (λ_=>[]) (λ_=>[])):cE prog 61 [.slice A l.length c,.func (.func f) #[] cap.toArray] [] (cF.sl (.slice A l.length c) l::G) (λ(_:Unit)=> .bool (l.any p)) (λ_=>[]) (λ_=>[]):=by
 have hT:=vH;refine j2 func61 ntmps61 ?_;intro β hM;refine g9 ?_;refine f9 func126 (indexF6_spec A c l hl f cap G p hcf hf) .nil bA.self λ_=>?_;refine g5 ?_;exact rs1 () e8 (he:=congrArg Value.bool (bCp p l 0 m7))
theorem index6_spec(A:Option Addr)(c:Nat)(l:List Int)(hl:l.length<=140737488355328)(k:Int):cE prog 128 [.slice A l.length c,.int .i64 k] [] [cF.sl (.slice A l.length c) l] (λ(_:Unit)=> .int .i64 (bDc k l 0)) (λ_=>[]) (λ_=>[]):=by
 have hT:=vH;generalize hR:bDc k l 0=r;refine j2 func128 ntmps128 ?_;intro β hM;refine g14 ?_;refine bU (ι:=Nat) [(0,_),(1,_),(7,_)] ⟨rfl,rfl,rfl,e8⟩ (λi=>[(8,.int .i64 (i:Nat))]) (λ_=>[]) (λi=>[bC.pure (i<=l.length/\r=bDc k (l.drop i) i)]) (λi=>l.length-i) 0 ⟨rfl,e8⟩ .nil ⟨e9 (⟨k7,hR.symm⟩),e8⟩ ?_;rintro i;refine bJ d7 λhinv2=>?_;refine g6 ?_;refine dH (λhc9=>?_) λhc9=>?_
 .refine g15 ?_;obtain⟨x1,hx2⟩:=gx l i;refine ss (ixs i) ?_;refine ss (fJ hx2 0) ?_;refine g3 ?_;refine jN (λhc16=>?_) λhc16=>?_
  .refine g12 ?_;have hr:=(xO hinv2.2 hx2).1 (by first|assumption|(symm;assumption));subst hr;exact rs1 () trivial
  refine g5 ?_;refine inc (i+1) ?_;refine g3 ?_;exact bk2 (i+1) ⟨e9 (⟨k7,(xO hinv2.2 hx2).2 ‹_›⟩),e8⟩
 refine g11 ?_;have hr:=idxI_end hinv2.2 k7;subst hr;exact rs1 () trivial
theorem oI(A:Option Addr)(c:Nat)(l:List Int)(hl:l.length<=140737488355328)(k:Int):cE prog 67 [.slice A l.length c,.int .i64 k] [] [cF.sl (.slice A l.length c) l] (λ(_:Unit)=> .bool (l.contains k)) (λ_=>[]) (λ_=>[]):=by
 have hT:=vH;refine j2 func67 ntmps67 ?_;intro β hM;refine g9 ?_;refine f9 func128 (index6_spec A c l hl k) .nil ⟨d7,e8⟩ λ_=>?_;refine g5 ?_;exact rs1 () e8 (he:=congrArg Value.bool (tB k l 0 m7))
theorem sizeC_spec(sides:Sl PolV)(DA:Option Addr)(dcap:Nat)(dims:List Int)(hdl:dims.length<=140737488355328):cE prog 63 [.slice sides.addr sides.list.length sides.cap,.slice DA dims.length dcap] [] [oL sides,cF.sl (.slice DA dims.length dcap) dims] (λ(_:Unit)=> .tuple #[.int .i64 ((sizeB (polsL sides.list) dims).getD 0),.bool (sizeB (polsL sides.list) dims).isSome]) (λ_=>[]) (λ_=>[]):=by
 have hT:=vH
 obtain⟨R,hR⟩: ∃R,sidesGo dims (polsL sides.list) []=R:=⟨_,rfl⟩
 refine j2 func63 ntmps63 ?_;intro β hM;refine fT<|bK (iD.sl (.slice sides.addr sides.list.length sides.cap) sides.list) (qR d7) ?_;refine bJ (uP d8) λhsc=>?_;have hsc1:=hsc.1;have hsc2:=hsc.2;refine bZ (t:=2) cF ?_;refine g19 ?_;refine bU (ι:=Option Addr×Nat×List Int×Nat) [(1,_),(14,_),(15,_)] ⟨rfl,rfl,rfl,e8⟩ (λ⟨LA,lc,acc,i⟩=>[(6,.slice LA acc.length lc),(16,.int .i64 (i:Nat))]) (λ⟨LA,lc,acc,i⟩=>[cF.row (.slice LA acc.length lc) 2 acc]) (λ⟨LA,lc,acc,i⟩=>[bC.pure (i<=sides.list.length/\acc.length=i/\inSz acc/\R=sidesGo dims ((polsL sides.list).drop i) acc)]) (λ⟨LA,lc,acc,i⟩=>sides.list.length-i) (none,0,[],0) ⟨rfl,rfl,e8⟩ (.c0 .nil) ⟨e9 (⟨k7,rfl,λ_ h=>(by cases h),hR.symm⟩),e8⟩ ?_;rintro⟨LA,lc,acc,i⟩;dsimp only;refine bJ d7 λhinv3=>?_;have hal:=hinv3.2.1;refine g6 ?_;refine dH (λhc17=>?_) λhc17=>?_
 .refine g5 ?_;obtain⟨x,hx⟩:=gx sides.list i;refine bK (fC x) (Has.each (qO d9) (f5 hx)) ?_;refine one ?_;refine ss (ixs i) ?_;refine ss (fJ hx 0) ?_;refine g7 ?_;refine bJ (gG d7) λhxl=>?_;refine f9 func15 (bAj x DA dcap dims hxl hdl) .nil ⟨d7,e7,e8⟩ λ_=>?_;refine g13 ?_;refine k_ne (λhg28=>?_) λhg28=>?_
  .refine g23 ?_;have hz:sizeB (polsL sides.list) dims=none:=by unfold sizeB;rw[hR,bLy hinv3.2.2.2 (dD hx) k7]
   exact rs2 () e8 (he:=by rw[hz];rfl)
  refine g4 ?_;refine lG (λhg32=>?_) λhg32=>?_
  .refine g19 ?_;have hz:sizeB (polsL sides.list) dims=none:=by unfold sizeB;rw[hR,bLy hinv3.2.2.2 (dD hx) k7]
   exact rs2 () e8 (he:=by rw[hz];rfl)
  refine g5 ?_;refine dH (λhc35=>?_) λhc35=>?_
  .refine g13 ?_;have hz:sizeB (polsL sides.list) dims=none:=by unfold sizeB;rw[hR,bLy hinv3.2.2.2 (dD hx) k7]
   exact rs2 () e8 (he:=by rw[hz];rfl)
  refine g5 ?_;refine nX (m:=(bH x.list dims).1) rfl rfl rfl rfl rfl λb1=>?_;refine nS kT1 (gB .head rfl) rfl rfl rfl rfl rfl rfl rfl q9 λA2 c3=>?_;refine g6 ?_;refine inc (i+1) ?_;refine g3 ?_;exact bk2 (A2,c3,acc++[(bH x.list dims).1],i+1) ⟨e9 (⟨by dsimp only;omega,by dsimp only;rw[List.length_append,List.length_singleton];omega,bPv hinv3.2.2.1 k7 k7,sides_yes hinv3.2.2.2 (dD hx) ‹_› k7 k7⟩),e8⟩
 refine g9 ?_;have hsd:=sides_end hinv3.2.2.2 o9;refine jA (E:=cF) .head ?_;refine bF func67 (oI LA lc acc k7 0) rfl rfl .nil ⟨d7,e8⟩ λ_=>?_;refine g2 ?_;refine yS (λhc42=>?_) λhc42=>?_
 .refine g8 ?_;have hz:sizeB (polsL sides.list) dims=some 0:=by unfold sizeB;rw[hR,hsd];dsimp only;rw[if_pos ‹_›]
  exact rs2 () e8 (he:=by rw[hz];rfl)
 refine g3 ?_
 obtain⟨Q,hQ⟩: ∃Q,prodQ acc 1=Q:=⟨_,rfl⟩
 refine g13 ?_;refine bU (ι:=Int×Nat) [(43,_),(44,_)] ⟨rfl,rfl,e8⟩ (λ⟨al,j⟩=>[(11,.int .i64 al),(45,.int .i64 (j:Nat))]) (λ_=>[]) (λ⟨al,j⟩=>[bC.pure (j<=acc.length/\0<=al/\al<=65536/\Q=prodQ (acc.drop j) al)]) (λ⟨al,j⟩=>acc.length-j) (1,0) ⟨rfl,rfl,e8⟩ .nil ⟨e9 (⟨k7,k7,k7,hQ.symm⟩),e8⟩ ?_;rintro⟨al,j⟩;dsimp only;refine bJ d7 λhinv14=>?_;refine g6 ?_;refine dH (λhc46=>?_) λhc46=>?_
 .refine g5 ?_;obtain⟨n,hn⟩:=gx acc j;have hnz:=hinv3.2.2.1 n (f5 hn);have hmi:=mul_in ⟨hinv14.2.1,hinv14.2.2.1⟩ hnz;refine one ?_;refine ss (ixs j) ?_;refine ss (fJ hn 0) ?_;refine g8 ?_;refine bN (mF k7 k7) ?_;refine g9 ?_;refine dH (λhc53=>?_) λhc53=>?_
  .refine g12 ?_;have hz:sizeB (polsL sides.list) dims=none:=by unfold sizeB;rw[hR,hsd];dsimp only;rw[if_neg (by simp_all),hQ];exact prod_no hinv14.2.2.2 hn k7
   exact rs2 () e8 (he:=by rw[hz];rfl)
  refine g5 ?_;refine inc (j+1) ?_;refine g3 ?_;exact bk2 (al*n,j+1) ⟨e9 (⟨by dsimp only;omega,(mul_in ⟨hinv14.2.1,hinv14.2.2.1⟩ hnz).1,by dsimp only;omega,prod_yes hinv14.2.2.2 hn k7⟩),e8⟩
 refine g13 ?_;have hz:sizeB (polsL sides.list) dims=some al:=by unfold sizeB;rw[hR,hsd];dsimp only;rw[if_neg (by simp_all),hQ];exact prod_end hinv14.2.2.2 k7
 exact rs2 () e8 (he:=by rw[hz];rfl)
def dV.c (x:dV):LifeC:=⟨x.from_,x.to_⟩
def LifeC.v(x:LifeC):dV:=⟨x.from_,x.to_⟩
def lc (l:List dV):List LifeC:=l.map dV.c
def lv (l:List LifeC):List dV:=l.map LifeC.v
theorem lv_lc(l:List dV):lv (lc l)=l:=by
 unfold lv lc;rw[List.map_map];exact List.map_id'' (λ_=>rfl) l
theorem lc_len(l:List dV):(lc l).length=l.length:=List.length_map _
theorem bEo(l:List LifeC):(lv l).length=l.length:=List.length_map _
theorem lc_set(l:List dV)(k:Nat)(y:dV):lc (l.set k y)=(lc l).set k y.c:=List.map_set
theorem lc_get(l:List dV)(k:Nat):(lc l)[k]?=(l[k]?).map dV.c:=List.getElem?_map
section
variable {L : List LifeC} {i : Int} {k : Nat} {y : LifeC}
theorem bLv{α:Type}{L:List α}{k:Nat}{y:α}(f:α->α)(h:L[k]?=some y):L.set k (f y)=L.modify k f:=by
 apply List.ext_getElem?;intro j;rw[List.getElem?_set,List.getElem?_modify];have hk:=(List.getElem?_eq_some_iff.1 h).1
 by_cases e:k=j
 .subst e;rw[h];simp[hk]
 .simp[e]
theorem bEq(h:L[k]?=some y):L.set k ⟨y.from_,i⟩=hJ i L k:=bLv (λx:LifeC=>{x with to_:=i}) h
theorem setFrom_set(h:L[k]?=some y):L.set k ⟨i,y.to_⟩=yH i L k:=bLv (λx:LifeC=>{x with from_:=i}) h
end
section
variable {c : dE} {li lj : List dV} {dn : List Bool} {i j k : Nat} {y : dV} {u : gQ} {r G : List LifeC} {x : cP} {us : List Int} {z : Int} {m : Int}
def bFd (c:dE)(i:Nat)(li:List dV):Prop:=li.length=c.bufs.length/\ ∀j u,c.bufs[j]?=some u-> ∃y,li[j]?=some y/\y.to_= -1/\y.from_=if j<i/\(0<=u.input\/c.outs.contains (j:Int)=true)then-1 else 0
theorem live_start:bFd c 0 (List.replicate c.bufs.length ⟨0,-1⟩):=by
 refine⟨List.length_replicate,λj u hj=>⟨⟨0,-1⟩,?_,rfl,?_⟩⟩
 .rw[List.getElem?_replicate,if_pos (List.getElem?_eq_some_iff.1 hj).1]
 .rw[if_neg k7]
theorem live_yes(h:bFd c i li)(hu:c.bufs[i]?=some u)(hy:li[i]?=some y)(e:0<=u.input\/c.outs.contains (i:Int)=true):bFd c (i+1) (li.set i ⟨-1,y.to_⟩):=by
 refine⟨by rw[List.length_set];exact h.1,λj u' hj=>?_⟩;obtain⟨y',h1,h2,h3⟩:=h.2 j u' hj
 by_cases ej:i=j
 .subst ej;rw[hy]at h1;injection h1 with h1
  subst h1;rw[hu]at hj;injection hj with hj
  subst hj;refine⟨⟨-1,y.to_⟩,List.getElem?_set_self (List.getElem?_eq_some_iff.1 hy).1,h2,?_⟩;rw[if_pos ⟨k7,e⟩]
 .refine⟨y',by rw[List.getElem?_set_ne ej];exact h1,h2,?_⟩;rw[h3];have:j<i+1↔j<i:=k7
  simp[this]
theorem live_no(h:bFd c i li)(hu:c.bufs[i]?=some u)(e1:u.input<0)(e2:c.outs.contains (i:Int)=false):bFd c (i+1) li:=by
 refine⟨h.1,λj u' hj=>?_⟩;obtain⟨y',h1,h2,h3⟩:=h.2 j u' hj;refine⟨y',h1,h2,?_⟩;rw[h3]
 by_cases ej:i=j
 .subst ej;rw[hu]at hj;injection hj with hj
  subst hj;rw[if_neg k7,if_neg];rintro⟨_,h|h⟩
  .omega
  .rw[e2]at h;cases h
 .have:j<i+1↔j<i:=k7
  simp[this]
theorem live_end(h:bFd c i li)(hi:c.bufs.length<=i):lc li=vL c.outs 0 c.bufs:=by
 apply List.ext_getElem?;intro j;rw[lc_get,wS]
 cases hj:c.bufs[j]? with
 |none=>
  rw[List.getElem?_eq_none_iff.2 (by rw[h.1];exact List.getElem?_eq_none_iff.1 hj)];rfl
 |some u=>
  obtain⟨y',h1,h2,h3⟩:=h.2 j u hj;have:=(List.getElem?_eq_some_iff.1 hj).1;rw[h1,Option.map_some,Option.map_some,dV.c,h2,h3,Nat.zero_add];have hji:j<i:=k7
  simp[hji]
def StepI (c:dE)(k:Nat)(li:List dV)(dn:List Bool)(r:List LifeC):Prop:=li.length=c.bufs.length/\dn.length=c.bufs.length/\r=(c.outs.map Int.toNat).foldl (hJ c.steps.length) (qC k (c.steps.drop k) (lc li,dn)).1
theorem step_start(h:bFd c i li)(hi:c.bufs.length<=i):StepI c 0 li (List.replicate c.bufs.length false) (cW c):=by
 refine⟨h.1,List.length_replicate,?_⟩;rw[live_end h hi];rfl
theorem bOn(h:StepI c k li dn r)(hx:c.steps[k]?=some x)(h1:lc lj=(jP k x (lc li,dn)).1){dn':List Bool}(h2:dn'=dn.set x.buf.toNat true):StepI c (k+1) lj dn' r:=by
 subst h2;refine⟨?_,by rw[List.length_set];exact h.2.1,?_⟩
 .rw[<-lc_len,h1,uK,lc_len];exact h.1
 .rw[h.2.2,show c.steps.drop k=x::c.steps.drop (k+1)from by
   obtain⟨hi,e⟩:=List.getElem?_eq_some_iff.1 hx;rw[<-e]
   exact List.drop_eq_getElem_cons hi,qC,h1]
  rfl
theorem stepI_end(h:StepI c k li dn r)(hk:c.steps.length<=k):r=(c.outs.map Int.toNat).foldl (hJ c.steps.length) (lc li):=by
 rw[h.2.2,List.drop_of_length_le hk];rfl
def UseI (m:Int)(us:List Int)(j:Nat)(G:List LifeC)(li:List dV):Prop:=G=((us.drop j).map Int.toNat).foldl (hJ m) (lc li)
theorem use_step(h:UseI m us j G li)(hz:us[j]?=some z)(hy:li[z.toNat]?=some y):UseI m us (j+1) G (li.set z.toNat ⟨y.from_,m⟩):=by
 unfold UseI at*
 rw[h,show us.drop j=z::us.drop (j+1)from by
   obtain⟨hi,e⟩:=List.getElem?_eq_some_iff.1 hz;rw[<-e]
   exact List.drop_eq_getElem_cons hi,List.map_cons,List.foldl_cons,lc_set]
 congr 1
 exact(bEq (y:=y.c) (by rw[lc_get,hy];rfl)).symm
theorem use_end(h:UseI m us j G li)(hj:us.length<=j):lc li=G:=by
 unfold UseI at h;rw[h,List.drop_of_length_le hj];rfl
theorem bOd(l:List OpV)(L:List LifeC):((nG l).map Int.toNat).foldl (hJ m) L=(tT (opsL l)).foldl (hJ m) L:=by
 apply List.ext_getElem?;intro b;rw[pE,pE]
 congr 1
 funext x
 have:b∈(nG l).map Int.toNat↔b∈tT (opsL l):=by
  simp only[List.mem_map,tT,List.mem_filterMap,opsL];constructor
  .rintro⟨z,hz,e⟩;obtain⟨o,ho,h4,hk⟩:=bEr.1 hz;exact⟨o.c,⟨o,ho,rfl⟩,by rw[if_pos (show o.c.how=4 from h4)];show some o.k.toNat=_;rw[hk,e]⟩
  .rintro⟨_,⟨o,ho,rfl⟩,e⟩
   by_cases h4:o.c.how=4
   .rw[if_pos h4]at e;injection e with e
    exact⟨o.k,bEr.2 ⟨o,ho,h4,rfl⟩,e⟩
   .rw[if_neg h4]at e;cases e
 simp only[this]
section
variable {s : fW}
theorem made_new(h:UseI m (nG s.ops.list) j G lj)(hj:(nG s.ops.list).length<=j)(hG:G=((nG s.ops.list).map Int.toNat).foldl (hJ m) (lc li))(hd:dn[s.buf.toNat]?=some false)(hy:lj[s.buf.toNat]?=some y):
  lc ((lj.set s.buf.toNat ⟨m,y.to_⟩).set s.buf.toNat ⟨m,m⟩)=(jP m s.c (lc li,dn)).1:=by
 have e:=use_end h hj;rw[hG,bOd]at e;have hdn:dn.getD s.buf.toNat false=false:=by rw[List.getD_eq_getElem?_getD,hd];rfl
 unfold jP;show _=hJ m (if dn.getD s.buf.toNat false=true then _ else _) s.buf.toNat;rw[hdn,if_neg m7];show _=hJ m (yH m ((tT (opsL s.ops.list)).foldl (hJ m) (lc li)) s.buf.toNat) s.buf.toNat;rw[<-e,lc_set,lc_set];have h1:(lc lj)[s.buf.toNat]?=some y.c:=by rw[lc_get,hy];rfl
 rw[<-setFrom_set (y:=y.c) h1];have h2:((lc lj).set s.buf.toNat ⟨m,y.to_⟩)[s.buf.toNat]?=some ⟨m,y.to_⟩:=List.getElem?_set_self (List.getElem?_eq_some_iff.1 h1).1;exact bEq (y:=⟨m,y.to_⟩) h2
theorem made_old(h:UseI m (nG s.ops.list) j G lj)(hj:(nG s.ops.list).length<=j)(hG:G=((nG s.ops.list).map Int.toNat).foldl (hJ m) (lc li))(hd:dn[s.buf.toNat]?=some true)(hy:lj[s.buf.toNat]?=some y):
  lc (lj.set s.buf.toNat ⟨y.from_,m⟩)=(jP m s.c (lc li,dn)).1/\dn=dn.set s.buf.toNat true:=by
 have e:=use_end h hj;rw[hG,bOd]at e;have hdn:dn.getD s.buf.toNat false=true:=by rw[List.getD_eq_getElem?_getD,hd];rfl
 refine⟨?_,?_⟩
 .unfold jP;show _=hJ m (if dn.getD s.buf.toNat false=true then _ else _) s.buf.toNat;rw[hdn,if_pos rfl];show _=hJ m ((tT (opsL s.ops.list)).foldl (hJ m) (lc li)) s.buf.toNat;rw[<-e,lc_set];exact bEq (y:=y.c) (by rw[lc_get,hy];rfl)
 .have hlt:=(List.getElem?_eq_some_iff.1 hd).1;have:=(List.getElem?_eq_some_iff.1 hd).2;rw[<-this,List.set_getElem_self]
end
def OutI (c:dE)(j:Nat)(li:List dV)(r:List LifeC):Prop:=li.length=c.bufs.length/\r=((c.outs.drop j).map Int.toNat).foldl (hJ c.steps.length) (lc li)
theorem out_step(h:OutI c j li r)(hz:c.outs[j]?=some z)(hy:li[z.toNat]?=some y):OutI c (j+1) (li.set z.toNat ⟨y.from_,(c.steps.length:Nat)⟩) r:=by
 refine⟨by rw[List.length_set];exact h.1,?_⟩;have:=use_step (us:=c.outs) (m:=c.steps.length) (G:=r) h.2 hz hy;exact this
theorem out_stepN{n:Nat}(hn:c.steps.length=n)(h:OutI c j li r)(hz:c.outs[j]?=some z)(hy:li[z.toNat]?=some y):OutI c (j+1) (li.set z.toNat ⟨y.from_,(n:Nat)⟩) r:=by
 subst hn;exact out_step h hz hy
theorem out_end(h:OutI c j li r)(hj:c.outs.length<=j):li=lv r:=by
 rw[h.2,List.drop_of_length_le hj];exact(lv_lc li).symm
theorem bPw{vars:Int}{bufs:List gQ}: ∀{r:List cP} {made:List Bool},made.length=bufs.length->jV vars bufs r made=true-> ∀x∈r,0<=x.buf/\x.buf<bufs.length/\ ∀o∈x.ops,o.how=4->0<=o.k/\o.k<bufs.length
 |[],_,_,_,x,hx=>by cases hx
 |y::r,made,hm,h,x,hx=>by
  rw[jV,Bool.and_eq_true,Bool.and_eq_true,Bool.and_eq_true]at h;obtain⟨⟨h1,h2⟩,h3,h4⟩:=h
  rcases List.mem_cons.1 hx with rfl|hx
  .have h0:0<=x.buf:=of_decide_eq_true h1;refine⟨h0,?_,λo ho e=>?_⟩
   .cases hb:bufs[x.buf.toNat]? with
    |none=>rw[hb]at h2;cases h2
    |some b=>
     have:=(List.getElem?_eq_some_iff.1 hb).1;omega
   .unfold lD at h3;simp only[Bool.and_eq_true]at h3;have h5:=List.all_eq_true.1 h3.2.2.2.2.2 o ho;unfold opB at h5;rw[if_neg k7,if_neg k7,if_neg k7,if_pos e]at h5;simp only[Bool.and_eq_true,decide_eq_true_eq]at h5;refine⟨h5.1.1,?_⟩;have h6:=h5.2.1;rw[List.getD_eq_getElem?_getD]at h6
    cases hk:made[o.k.toNat]? with
    |none=>rw[hk]at h6;cases h6
    |some b=>
     have:=(List.getElem?_eq_some_iff.1 hk).1;omega
  .exact bPw (by rw[List.length_set];exact hm) h4 x hx
theorem bBi(h:cZ c=true):(c.bufs.length<=1024/\c.steps.length<=1024/\c.outs.length<=64)/\(∀x∈c.steps,0<=x.buf/\x.buf<c.bufs.length/\ ∀o∈x.ops,o.how=4->0<=o.k/\o.k<c.bufs.length)/\ ∀k∈c.outs,0<=k/\k<c.bufs.length:=by
 obtain⟨h1,h2,h3,h4⟩:=gJ h;exact⟨h1.2.2,bPw (pD _) h3,h4⟩
theorem uses_in{s:fW}{n:Nat}(h: ∀o∈s.c.ops,o.how=4->0<=o.k/\o.k<n)(hz:z∈nG s.ops.list):0<=z/\z<n:=by
 obtain⟨o,ho,h4,hk⟩:=bEr.1 hz;have:=h o.c (List.mem_map.2 ⟨o,ho,rfl⟩) h4;rw[<-hk];exact this
theorem nA:(cW c).length=c.bufs.length:=by
 unfold cW;rw[vJ]
 have: ∀(r:List cP) (i:Int) (s:List LifeC×List Bool),(qC i r s).1.length=s.1.length:=λr=>by
  induction r with
  |nil=>exact λ_ _=>rfl
  |cons x r ih=>exact λi s=>by rw[qC,ih,uK]
 rw[this,zN]
end
theorem sizeB_get{sides:List (List Mono)}{dims:List Int}{z:Option Int}(h:sizeB sides dims=z):0<=z.getD 0/\z.getD 0<=65536:=by
 cases z with
 |none=>exact⟨by show(0:Int)<=0;omega,by show(0:Int)<=65536;omega⟩
 |some n=>exact sizeB_in h
section
variable {dims : List Int} {l : List gQ} {al : Int} {i : Nat} {R : Int × Int} {b : gQ} {z : Option Int}
theorem cells_yes(h:R=cellsGo dims (l.drop i) al)(hu:l[i]?=some b)(hz:sizeB b.sides dims=z)(hs:z.isSome=true)(h1:al+z.getD 0<=1048576):R=cellsGo dims (l.drop (i+1)) (al+z.getD 0):=by
 obtain⟨hlt,e⟩:=List.getElem?_eq_some_iff.1 hu
 cases z with
 |none=>cases hs
 |some n=>
  have h1:al+n<=1048576:=h1;rw[h,<-List.getElem_cons_drop hlt,e,cellsGo,hz];show(if 1048576<al+n then ((0,102):Int×Int)else cellsGo dims (l.drop (i+1)) (al+n))=_;rw[if_neg k7];rfl
theorem cells_no(h:R=cellsGo dims (l.drop i) al)(hu:l[i]?=some b)(hz:sizeB b.sides dims=z)(h1:z.isSome=false\/1048576<al+z.getD 0):R=(0,102):=by
 obtain⟨hlt,e⟩:=List.getElem?_eq_some_iff.1 hu;rw[h,<-List.getElem_cons_drop hlt,e,cellsGo,hz]
 cases z with
 |none=>rfl
 |some n=>
  rcases h1 with h1|h1
  .cases h1
  .have h1:1048576<al+n:=h1;show(if 1048576<al+n then ((0,102):Int×Int)else _)=_;rw[if_pos h1]
theorem cells_end(h:R=cellsGo dims (l.drop i) al)(hi:l.length<=i):R=(al,0):=by
 rw[h,List.drop_of_length_le hi,cellsGo]
end
theorem cells1_spec(k:Int):cE prog 62 [.int .i64 k] [] [] (λ(_:Unit)=> .bool (badD k)) (λ_=>[]) (λ_=>[]):=by
 have hT:=vH;refine j2 func62 ntmps62 ?_;intro β hM;refine g10 ?_;refine lG (λhg5=>?_) λhg5=>?_
 .refine g7 ?_;exact rs1 () e8 (he:=by first|(unfold badD;simp[*];done)|(unfold badD;simp[*];omega))
 refine g7 ?_;exact rs1 () e8 (he:=by first|(unfold badD;simp[*];done)|(unfold badD;simp[*];omega))
theorem Cells_spec(c:gF)(DA:Option Addr)(dcap:Nat)(dims:List Int)(hdl:dims.length<=140737488355328):cE prog 22 [.agg #[.int .i64 c.vars,.slice c.bufs.addr c.bufs.list.length c.bufs.cap,.slice c.steps.addr c.steps.list.length c.steps.cap,.slice c.outs.addr c.outs.list.length c.outs.cap],.slice DA dims.length dcap] [] [nM c,cF.sl (.slice DA dims.length dcap) dims] (λ(_:Unit)=> .tuple #[.int .i64 (fH c.c dims).1,.int .i64 (fH c.c dims).2]) (λ_=>[]) (λ_=>[]):=by
 have hT:=vH
 obtain⟨R,hR⟩: ∃R,cellsGo dims c.c.bufs 0=R:=⟨_,rfl⟩
 refine j2 func22 ntmps22 ?_;intro β hM;refine g2 ?_;refine j0 λb1=>?_;refine g8 ?_;refine f9 func33 (bAo c) .nil ⟨d7,e8⟩ λ_=>?_;refine g3 ?_;refine yQ (λhc13=>?_) λhc13=>?_
 .refine g8 ?_;have hr:cZ c.c=false:=by simp_all
  have hv:fH c.c dims=(0,100):=by unfold fH;rw[if_neg (by simp[hr])]
  exact rs2 () e8 (he:=by rw[hv])
 refine g11 ?_;refine k_ne (λhg19=>?_) λhg19=>?_
 .refine g14 ?_;have hr:cZ c.c=true:=by simp_all
  have hd:pX c.vars dims=false:=by unfold pX;simp_all
  have hv:fH c.c dims=(0,101):=by unfold fH;rw[if_pos hr,if_neg (by show ¬pX c.vars dims=true;simp[hd])]
  exact rs2 () e8 (he:=by rw[hv])
 refine one ?_;refine bF func61 (vU DA dcap dims k7 62 [] [] badD (j4 func62) cells1_spec) rfl rfl .nil ⟨d8,e8⟩ λ_=>?_;refine g3 ?_;refine yS (λhc22=>?_) λhc22=>?_
 .refine g8 ?_;have hr:cZ c.c=true:=by simp_all
  have hd:pX c.vars dims=false:=by unfold pX;simp_all
  have hv:fH c.c dims=(0,101):=by unfold fH;rw[if_pos hr,if_neg (by show ¬pX c.vars dims=true;simp[hd])]
  exact rs2 () e8 (he:=by rw[hv])
 refine g9 ?_;have hrr:cZ c.c=true:=by simp_all
 have hbz:=(bBi hrr).1.1;have hnb:c.c.bufs.length=c.bufs.list.length:=bY _;refine bK (vE.sl (.slice c.bufs.addr c.bufs.list.length c.bufs.cap) c.bufs.list) (mO (iS d7)) ?_;refine g8 ?_;refine bU (ι:=Int×Nat) [(1,_),(24,_),(25,_)] ⟨rfl,rfl,rfl,e8⟩ (λ⟨al,i⟩=>[(6,.int .i64 al),(26,.int .i64 (i:Nat))]) (λ_=>[]) (λ⟨al,i⟩=>[bC.pure (i<=c.bufs.list.length/\0<=al/\al<=1048576/\R=cellsGo dims ((bufsL c.bufs.list).drop i) al)]) (λ⟨al,i⟩=>c.bufs.list.length-i) (0,0) ⟨rfl,rfl,e8⟩ .nil ⟨e9 (⟨k7,k7,k7,hR.symm⟩),e8⟩ ?_;rintro⟨al,i⟩;dsimp only;refine bJ d7 λhinv7=>?_;refine g6 ?_;refine dH (λhc27=>?_) λhc27=>?_
 .refine g6 ?_;obtain⟨x2,hx3⟩:=gx c.bufs.list i;refine ss (ixs i) ?_;refine ss (jQ hx3 0) ?_;refine i7 wC λb4=>?_;refine g8 ?_;refine bK (oL x2.sides) (Has.each (yI (iS d9)) (f5 hx3)) ?_;refine f9 func63 (sizeC_spec x2.sides DA dcap dims hdl) .nil ⟨d7,e7,e8⟩ λ_=>?_
  obtain⟨z,hz⟩: ∃z,sizeB (polsL x2.sides.list) dims=z:=⟨_,rfl⟩
  rw[hz];have hzb:=sizeB_get hz;refine g12 ?_;refine bN (mF k7 k7) ?_;refine g8 ?_;refine bKt (λhg42=>?_) λhg42=>?_
  .refine g18 ?_;have hr:cZ c.c=true:=by simp_all
   have hd:pX c.vars dims=true:=by unfold pX;simp_all
   have hv:fH c.c dims=(0,102):=by unfold fH;rw[if_pos hr,if_pos u6];exact hR.trans (cells_no hinv7.2.2.2 (bT hx3) hz (by first|(left;simp_all;done)|(right;omega)))
   exact rs2 () e8 (he:=by rw[hv])
  refine g5 ?_;refine dH (λhc45=>?_) λhc45=>?_
  .refine g12 ?_;have hr:cZ c.c=true:=by simp_all
   have hd:pX c.vars dims=true:=by unfold pX;simp_all
   have hv:fH c.c dims=(0,102):=by unfold fH;rw[if_pos hr,if_pos u6];exact hR.trans (cells_no hinv7.2.2.2 (bT hx3) hz (by first|(left;simp_all;done)|(right;omega)))
   exact rs2 () e8 (he:=by rw[hv])
  refine g5 ?_;refine inc (i+1) ?_;refine g3 ?_;exact bk2 (al+z.getD 0,i+1) ⟨e9 (⟨by dsimp only;omega,by dsimp only;omega,by dsimp only;omega,cells_yes hinv7.2.2.2 (bT hx3) hz (by first|assumption|simp_all) k7⟩),e8⟩
 refine g13 ?_;have hr:cZ c.c=true:=by simp_all
 have hd:pX c.vars dims=true:=by unfold pX;simp_all
 have hv:fH c.c dims=(al,0):=by unfold fH;rw[if_pos hr,if_pos u6];exact hR.trans (cells_end hinv7.2.2.2 v8)
 exact rs2 () e8 (he:=by rw[hv])
end
section
open Go.Proofs.Tryz
end
section
open Go.Proofs.Tryz
end
section
open Go.RowKit Go.Proofs.Tryz
abbrev w64(z:Int):Int:=IntKind.i64.wrap z
def nY (f:Int)(two:Bool):Bool:=if f<1\/17<f then false else if f=16 then !two else two || decide (f<=7)
def restW (a b:Int):Int:=if a.tmod b≠0/\decide (a.tmod b<0)≠decide (b<0)then w64 (a.tmod b+b)else a.tmod b
def truthW(b:Bool):Int:=if b then 1 else 0
def big1 (a:Int):Bool:=decide (1<IntKind.u64.wrap a)
def refusesW(f a b:Int):Bool:=if f=4 then b==0 else if f=17 then decide (b<0)else if f=14\/f=15 then big1 a || big1 b else false
def raisedGo:Nat->Int->Int->Nat->Int
 |0,p,_,_=>p
 |k+1,p,a,n=>if n=0 then p else raisedGo k (if n%2=1 then w64 (p*a)else p) (w64 (a*a)) (n/2)
def raisedW(a n:Int):Int:=raisedGo (n.toNat+1) 1 a n.toNat
def holdsW(f a b:Int):Bool:=if f=8 then a==b else if f=9 then a !=b else if f=10 then decide (a<b)else if f=11 then decide (a<=b)else if f=12 then decide (b<=a)else decide (b<a)
def andW (a b:Int):Int:=w64 ((BitVec.ofInt 64 a&&&BitVec.ofInt 64 b).toNat:Nat)
def orW (a b:Int):Int:=w64 ((BitVec.ofInt 64 a ||| BitVec.ofInt 64 b).toNat:Nat)
def xorW (a b:Int):Int:=w64 ((BitVec.ofInt 64 a^^^BitVec.ofInt 64 b).toNat:Nat)
def divW (a b:Int):Int:=if restW a b≠a.tmod b then w64 (w64 (a.tdiv b)-1)else w64 (a.tdiv b)
def minW (a b:Int):Int:=if b<a then b else a
def maxW (a b:Int):Int:=if b>a then b else a
def dyad0 (f a b:Int):Int:=
 if f=1 then w64 (a+b)else if f=2 then w64 (a-b)else if f=3 then w64 (a*b)else if f=4 then divW a b else if f=5 then (if a=0 then b else restW b a)
 else if f=6 then minW a b else if f=7 then maxW a b else if f=14 then andW a b else if f=15 then orW a b else if f=17 then raisedW a b else truthW (holdsW f a b)
def dyadW (f a b:Int):Int×Int:=if nY f true=false then (0,10)else if refusesW f a b=true then (0,11)else (dyad0 f a b,0)
def monadW(f a:Int):Int×Int:=
 if nY f false=false then (0,10)else if f=2 then (w64 (0-a),0)else if f=3 then (w64 (truthW (decide (0<a))-truthW (decide (a<0))),0)else if f=4 then dyadW f 1 a
 else if f=5 then (maxW a (w64 (0-a)),0)else if f=16 then (if big1 a=true then (0,11)else (xorW a 1,0))else (a,0)
def unitW (f:Int):Int×Bool:=
 if f=6 then (9223372036854775807,true)else if f=7 then (-9223372036854775808,true)else if f=3\/f=4\/f=8\/f=11\/f=12\/f=14\/f=17 then (1,true)else (0,nY f true)
structure Arr where
 sides:List Int
 data:List Int
 deriving Inhabited,DecidableEq
def tI (s:Int):Bool:=decide (s<0) || decide (65536<s)
def mX:List Int->Int->Int×Int
 |[],n=>(n,0)
 |s::r,n=>if 65536<w64 (n*s)then (0,61)else mX r (w64 (n*s))
def jL (s:List Int):Int×Int:=if 4<s.length\/s.any tI=true then (0,61)else if s.contains 0=true then (0,0)else mX s 1
def uQ (a:Arr):Bool:=(jL a.sides).2==0&&(jL a.sides).1==(a.data.length:Int)
def mapM (f:Int):List Int->List Int×Int
 |[]=>([],0)
 |n::r=>if (monadW f n).2≠0 then ([],(monadW f n).2)else if (mapM f r).2≠0 then ([],(mapM f r).2)else ((monadW f n).1::(mapM f r).1,0)
end
section
open Go.Proofs.Tryz
def rnMost:List gQ->Int->Int
 |[],n=>n
 |u::r,n=>rnMost r (max n (u.input+1))
end
section
open Go.Proofs.Tryz
theorem rn_w64{z:Int}(h0: -9223372036854775808<=z)(h1:z<=9223372036854775807):w64 z=z:=by
 simp only[IntKind.wrap,IntKind.signed,IntKind.bits];simp;omega
def Deep:List OpC->Nat->Prop
 |[],n=>n=1
 |o::r,n=>0<=cH o.how/\cH o.how<=n/\Deep r (n+1-(cH o.how).toNat)
theorem deep_of: ∀{l:List OpC} {most:Int} {n:Nat},0<=mP l most n->Deep l n
 |[],most,n,h=>by
  unfold mP at h;split at h
  .show n=1;omega
  .omega
 |o::r,most,n,h=>by
  unfold mP at h;split at h
  .omega
  .rename_i hc;have h1:0<=cH o.how:=k7
   have h2:cH o.how<=n:=k7
   rw[show(n:Int)+(1-cH o.how)=((n+1-(cH o.how).toNat:Nat):Int) by omega]at h;exact⟨h1,h2,deep_of h⟩
theorem deep_step{vars:Int}{made:List Bool}{x:cP}(h:lD vars made x=true):Deep x.ops 0:=by
 unfold lD at h;simp only[Bool.and_eq_true,decide_eq_true_eq]at h;exact deep_of (most:=0) (n:=0) h.2.2.2.1
theorem bOf{h:Int}(h0:0<=cH h):h=1\/h=2\/h=3\/h=4\/h=5\/h=6:=by
 unfold cH at h0;split at h0
 .omega
 .split at h0
  .omega
  .split at h0
   .omega
   .omega
end
section
open Go.RowKit Go.Proofs.Tryz
def raise (v:Value):List PanicEntry:=[{v,recovered:=false}]
section
variable {P : Program} {β : dC} {n : Nat} {Γ : Env} {H : List bD} {F : List bC} {Q : Exit -> Act -> World -> Prop} {K : Act -> World -> Prop} {ch : List PanicEntry}
theorem p_then(h:At β n Γ H F (Q (.panic ch))):At β n Γ H F (Exit.then K Q (.panic ch)):=h
theorem at_panic{ops:Array Oper}{rest:List Oper}{o:Oper}{x:Operand}{t:TypeId}{v:Value}(hw:want ops Γ o=some true)(ho:o.op= .panic x)(hx:Γ.ev x=some (.iface t v))(k:At β n Γ H F (Q (.panic (raise (.iface t v))))):At β n Γ H F (wpList P ops Q (o::rest)):=
 fY hw λa w S f s hF=>by
  unfold Oper.wp
  have hr:(execOp a.eval o).run P w= .halt (.panic (.iface t v)) w:=by
   unfold execOp;simp only[ho,f.ev hx];rfl
  rw[hr,Oper.upon_panic];exact k a w S f s hF
end
def dfA (ds:List Deferred)(a:Act):Act:={a with defers:=a.defers++ds}
def Df (ds:List Deferred)(K:Act->World->Prop)(a:Act)(w:World):Prop:=K (dfA ds a) w
def DfQ (ds:List Deferred)(Q:Exit->Act->World->Prop)(e:Exit)(a:Act)(w:World):Prop:=Q e (dfA ds a) w
theorem dfA_put(ds:List Deferred)(a:Act)(d:Option Tmp)(v:Value):(dfA ds a).put d v=dfA ds (a.put d v):=by cases d<;>rfl
theorem out_df{ds:List Deferred}{Q:Exit->Act->World->Prop}(h:LetsOut (DfQ ds Q)):LetsOut Q:=let ⟨a,w,k⟩:=h;⟨dfA ds a,w,k⟩
section
variable {P : Program} {o : Oper} {a : Act} {w : World} {Q : Exit -> Act -> World -> Prop} {ops : Array Oper} {ds : List Deferred}
theorem op_df{next:Act->World->Prop}(h:o.wp P a w (Df ds next) (DfQ ds Q)):o.wp P (dfA ds a) w next Q:=by
 unfold Oper.wp at h⊢;have he:(dfA ds a).eval=a.eval:=rfl;rw[he];generalize (execOp a.eval o).run P w=r at h⊢
 cases r with
 |ok x w'=>
  cases x with
  |value v=>rw[Oper.upon_value,dfA_put];exact h
  |skip=>rw[Oper.upon_skip,dfA_put];exact h
  |defer d=>rw[Oper.upon_defer];rw[Oper.upon_defer]at h;unfold Df at h;rw[<-dfA_put]at h;exact h
  |enter f args=>
   rw[Oper.upon_enter];rw[Oper.upon_enter]at h;refine h.mono λe w' k=>?_
   cases e with
   |returned v=>simp only at k⊢;unfold Df at k;rw[dfA_put];exact k
   |panicked c=>exact k
   |outgrown=>exact out_df k
  |row r args=>
   rw[Oper.upon_row];rw[Oper.upon_row]at h;exact λc cs=>let ⟨v,w',r,s⟩:=h c cs;⟨v,w',by have r':=r;unfold Df at r';simp only at r'⊢;rw[dfA_put];exact r',s⟩
  |_=>exact h.elim
 |halt e w'=>
  cases e with
  |panic v=>exact h
  |_=>exact h.elim
theorem bHt: ∀(os:List Oper) (a:Act) (w:World),wpList P ops (DfQ ds Q) os a w->wpList P ops Q os (dfA ds a) w
 |[],_,_,h=>h
 |o::os,a,w,h=>by
  unfold wpList at h⊢;have ht:(dfA ds a).tmps=a.tmps:=rfl;rw[ht];split at h
  .rename_i hw;rw[if_pos hw]
   rcases h with h|⟨h1,h2⟩
   .exact .inl (op_df (Oper.wp_mono (λa w k=>bHt os a w k) h))
   .exact .inr ⟨h1,out_df h2⟩
  .rename_i hw;rw[if_neg hw,dfA_put];exact bHt os _ w h
end
section
variable {P : Program} {β : dC} {n : Nat} {Γ : Env} {H H2 : List bD} {F : List bC} {Q : Exit -> Act -> World -> Prop} {K : Act -> World -> Prop} {ds : List Deferred}
theorem iB{x y:Code}(h:At β n Γ H F (Df ds (x.wp P (Exit.then (y.wp P Q) Q)))):At β n Γ H F (Df ds ((Code.seq x y).wp P Q)):=λa w S f s k=>wp_seq (h a w S f s k)
theorem d_blk{id:Nat}{c:Code}(h:At β n Γ H F (Df ds (c.wp P (Exit.inBlock id Q)))):At β n Γ H F (Df ds ((Code.block id c).wp P Q)):=λa w S f s k=>wp_block (h a w S f s k)
theorem bDb(h:At β n Γ H F (Df ds (Q .normal))):At β n Γ H F (Df ds (Code.skip.wp P Q)):=λa w S f s k=>wp_skip (h a w S f s k)
theorem d_exit{id:Nat}(h:At β n Γ H F (Df ds (Q (.exit id)))):At β n Γ H F (Df ds ((Code.exit id).wp P Q)):=λa w S f s k=>wp_exit (h a w S f s k)
theorem d_ret(h:At β n Γ H F (Df ds (Q .ret))):At β n Γ H F (Df ds (Code.ret.wp P Q)):=λa w S f s k=>wp_ret (h a w S f s k)
theorem dG{id:Nat}{l:List Oper}(h:At β n Γ H F (wpList P l.toArray (DfQ ds Q) l)):At β n Γ H F (Df ds ((Code.region id l.toArray false).wp P Q)):=λa w S f s k=>wp_region_lit (bHt l a w (h a w S f s k))
theorem d_list{ops:Array Oper}{l:List Oper}(h:At β n Γ H F (wpList P ops (DfQ ds Q) l)):At β n Γ H F (Df ds (wpList P ops Q l)):=λa w S f s k=>bHt l a w (h a w S f s k)
theorem iL{ops:Array Oper}(h:At β n Γ H F (Df ds (Q .normal))):At β n Γ H F (wpList P ops (DfQ ds Q) []):=h
theorem cV(h:At β n Γ H F (Df ds K)):At β n Γ H F (Df ds (Exit.then K Q .normal)):=h
theorem bCh{i:Nat}(h:At β n Γ H F (Df ds (Q (.exit i)))):At β n Γ H F (Df ds (Exit.then K Q (.exit i))):=h
theorem mS(h:At β n Γ H F (Df ds (Q .ret))):At β n Γ H F (Df ds (Exit.then K Q .ret)):=h
theorem dn_block{i:Nat}(h:At β n Γ H F (Df ds (Q .normal))):At β n Γ H F (Df ds (Exit.inBlock i Q .normal)):=h
theorem tL{i:Nat}(h:At β n Γ H F (Df ds (Q .ret))):At β n Γ H F (Df ds (Exit.inBlock i Q .ret)):=h
theorem bIq{i:Nat}(h:At β n Γ H F (Df ds (Q .normal))):At β n Γ H F (Df ds (Exit.inBlock i Q (.exit i))):=λa w S f s k=>by
 unfold Df;simp only[Exit.inBlock,if_true];exact h a w S f s k
theorem dp_any{ch:List PanicEntry}(h:At β n Γ H F (Df ds (Q (.panic ch)))):At β n Γ H F (DfQ ds Q (.panic ch)):=h
theorem dp_then{ch:List PanicEntry}(h:At β n Γ H F (Df ds (Q (.panic ch)))):At β n Γ H F (Df ds (Exit.then K Q (.panic ch))):=h
theorem bId{c:Operand}{x y:Code}{t:Bool}(hc:Γ.ev c=some (.bool t))(ht:t=true->At β n Γ H F (Df ds (x.wp P Q)))(hf:t=false->At β n Γ H F (Df ds (y.wp P Q))):At β n Γ H F (Df ds ((Code.cond c x y).wp P Q)):=
 λa w S f s k=>wp_cond_split (a:=dfA ds a) (show a.eval c= .bool t from f.ev hc) (λe=>ht e a w S f s k) (λe=>hf e a w S f s k)
theorem d_true{c:Operand}{x y:Code}{t:Bool}(hc:Γ.ev c=some (.bool t))(ht:t=true)(h:At β n Γ H F (Df ds (x.wp P Q))):At β n Γ H F (Df ds ((Code.cond c x y).wp P Q)):=
 bId hc (λ_=>h) (λe=>by rw[ht]at e;cases e)
theorem d_false{c:Operand}{x y:Code}{t:Bool}(hc:Γ.ev c=some (.bool t))(ht:t=false)(h:At β n Γ H F (Df ds (y.wp P Q))):At β n Γ H F (Df ds ((Code.cond c x y).wp P Q)):=
 bId hc (λe=>by rw[ht]at e;cases e) (λ_=>h)
def BackD {ι:Type}(ds:List Deferred)(β:dC)(n:Nat)(G:ι->Env)(HH:ι->List bD)(FF:ι->List bC)(μ:ι->Nat)(m:Nat)(a:Act)(w:World):Prop:= ∃a0,a=dfA ds a0/\Back β n G HH FF μ m a0 w
theorem d_loop{ι:Type}{c:Code}(G:ι->Env)(HH:ι->List bD)(FF:ι->List bC)(μ:ι->Nat)(x0:ι)(hG:Γ.Sub (G x0))(hH:Sel H (HH x0))(hF:bA F (FF x0))
  (round: ∀x,At β n (G x) (HH x) (FF x) (Df ds (c.wp P (Exit.then (BackD ds β n G HH FF μ (μ x)) Q)))):At β n Γ H F (Df ds ((Code.loop c).wp P Q)):=by
 have key: ∀m x,μ x<=m-> ∀a w S,Fits n (G x) a->St β (HH x) S w->All (FF x) S w->Code.rounds P c Q (m+1) (dfA ds a) w:=by
  intro m
  induction m with
  |zero=>
   intro x hx a w S f s k;rw[rounds_succ];refine Code.wp_mono (λe a' w' q=>?_) (round x a w S f s k)
   cases e with
   |normal=>obtain⟨a0,_,x',S',hlt,_⟩:=q;omega
   |_=>exact q
  |succ m ih=>
   intro x hx a w S f s k;rw[rounds_succ];refine Code.wp_mono (λe a' w' q=>?_) (round x a w S f s k)
   cases e with
   |normal=>
    obtain⟨a0,rfl,x',S',hlt,f',s',k'⟩:=q;exact ih x' k7 a0 w' S' f' s' k'
   |_=>exact q
 intro a w S f s k;exact wp_loop_rounds (μ x0+1) (key (μ x0) x0 (Nat.le_refl _) a w S (f.sub hG) (s.sel hH) (hF.all S w k))
theorem d_loop2{ι:Type}{c:Code}(Δ:Env)(hΔ:Γ.Sub Δ)(G:ι->Env)(HH:ι->List bD){Hr:List bD}(FF:ι->List bC)(μ:ι->Nat)(x0:ι)(hG:Γ.Sub (G x0))(hH:Split H (HH x0) Hr)(hF:bA F (FF x0))
  (round: ∀x,At β n (G x++Δ) (HH x++Hr) (FF x++F) (Df ds (c.wp P (Exit.then (BackD ds β n (λx=>G x++Δ) (λx=>HH x++Hr) (λx=>FF x++F) μ (μ x)) Q)))):At β n Γ H F (Df ds ((Code.loop c).wp P Q)):=
 d_loop (λx=>G x++Δ) (λx=>HH x++Hr) (λx=>FF x++F) μ x0 (hG.append hΔ) hH.sel (hF.append bA.self) round
theorem d_back{ι:Type}{G:ι->Env}{HH:ι->List bD}{FF:ι->List bC}{μ:ι->Nat}{m:Nat}(h:At β n Γ H F (Back β n G HH FF μ m)):At β n Γ H F (Df ds (BackD ds β n G HH FF μ m)):=λa w S f s k=>⟨a,rfl,h a w S f s k⟩
theorem at_defer{ops:Array Oper}{rest:List Oper}{o:Oper}{x:Operand}{fv:Fn}{first cap:Array Value}{ars:Array Operand}{ts:Array TypeId}{vs:List Value}(hw:want ops Γ o=some true)(ho:o.op= .defer ⟨.value x,ars,ts⟩)(hx:Γ.ev x=some (.func fv first cap))(hd:o.dst=none)
  (hv:Γ.evs ars.toList=some vs) (k:At β n Γ H F (Df [{target:= .fn fv cap,args:=first++vs.toArray}] (wpList P ops Q rest))):At β n Γ H F (wpList P ops Q (o::rest)):=
 fY hw λa w S f s hk=>by
  have hm:ars.map a.eval=vs.toArray:=by
   apply Array.ext'
   simpa using f.evs hv
  unfold Oper.wp
  have hr:(execOp a.eval o).run P w= .ok (.defer {target:= .fn fv cap,args:=first++vs.toArray}) w:=by
   unfold execOp;simp only[ho,resolve,f.ev hx,Deferred.ofValue,Sem.run_bind,Sem.run_pure,Result.andThen_ok];simp[hm]
  rw[hr,Oper.upon_defer,hd];have:=k a w S f s hk;unfold Df dfA at this;rw[f.defers]at this⊢;exact this
def bQv {ι:Type}(P:Program)(f:FuncId)(args:List Value)(u u':FrameMode)(Hin:List bD)(Pre:List bC)(Hout:ι->List bD)(post:ι->List bC):Prop:=
 ∀S w,St ⟨w,kV Hin,S⟩ Hin S w->All Pre S w->CallsD P f args.toArray u w λe v w'=>(∃r,e= .returned r)/\v=u'/\ ∃x S',St ⟨w,kV Hin,S⟩ (Hout x) S' w'/\All (post x) S' w'
variable {ι : Type} {fn : Func} {R : Ending -> World -> Prop} {f : FuncId} {cap dargs : Array Value} {args : List Value} {Hin : List bD} {Pre : List bC} {Hout : ι -> List bD} {post : ι -> List bC}
theorem bPn{u u':FrameMode}(hu:u≠ .run)(hs':settle u'= .returning)(hi: ∀(args:Array Value) (w:World),(callFunc f args).run P w= .ok (.enter f args) w)(ha:(dargs++cap).toList=args)(hs:bQv P f args u u' Hin Pre Hout post)(hH:Split H Hin H2)(hF:bA F Pre)
  (k: ∀x,At β n Γ (Hout x++H2) (post x++F) (bodyPost P fn R .ret)):At β n Γ H F (Df [{target:= .fn (.func f) cap,args:=dargs}] λa w=>Leaves P fn a.tmps R a.defers u w):=λa w S fi s hk=>by
 have s1:=s.perm hH.perm;show Leaves P fn a.tmps R (a.defers++[{target:= .fn (.func f) cap,args:=dargs}]) u w;rw[fi.defers];refine leaves_cons (f:=f) (args:=args.toArray) hu ?_ ?_
 .show(callFunc f (dargs++cap)).run P w=_;rw[hi,<-ha]
 refine(hs S w s1.enter (hF.all S w hk)).mono ?_;rintro e v w' ⟨⟨r,rfl⟩,rfl,x,S',s',k'⟩;have:=k x a w' _ fi (s1.leave s') ((All.mono (λ_ h=> .inr h) (λ_ _=>rfl) k').append (All.leave s1 s' hk));obtain⟨_,v,hv,hR⟩:=this;show Leaves P fn a.tmps R [] (settle _) w';rw[hs'];exact⟨v,hv,hR⟩
theorem d_leave(hi: ∀(args:Array Value) (w:World),(callFunc f args).run P w= .ok (.enter f args) w)(ha:(dargs++cap).toList=args)(hs:bQv P f args .returning .returning Hin Pre Hout post)(hH:Split H Hin H2)(hF:bA F Pre)
  (k: ∀x,At β n Γ (Hout x++H2) (post x++F) (bodyPost P fn R .ret)):At β n Γ H F (Df [{target:= .fn (.func f) cap,args:=dargs}] (bodyPostD P fn R .ret)):=bPn m9 rfl hi ha hs hH hF k
theorem d_caught{v:Value}(hi: ∀(args:Array Value) (w:World),(callFunc f args).run P w= .ok (.enter f args) w)(ha:(dargs++cap).toList=args)(hs:bQv P f args (.panicking (raise v)) (.panicking [{v,recovered:=true}]) Hin Pre Hout post)(hH:Split H Hin H2)(hF:bA F Pre)
  (k: ∀x,At β n Γ (Hout x++H2) (post x++F) (bodyPost P fn R .ret)):At β n Γ H F (Df [{target:= .fn (.func f) cap,args:=dargs}] (bodyPostD P fn R (.panic (raise v)))):=bPn m9 rfl hi ha hs hH hF k
theorem spec_defers{ι:Type}{f:FuncId}{c:Code}{args:List Value}{Hin:List bD}{Pre:List bC}{val:ι->Value}{Hout:ι->List bD}{post:ι->List bC}(hf:P.funcs[f]?=some fn)(hb:fn.body=some c)(hn:fn.ntmps=n)
  (hl:Nat.ble args.length n=true) (h: ∀β,β.M=kV Hin->At β n (zG 0 args) Hin Pre (c.wp P (bodyPostD P fn (bNl β val Hout post)))):cE P f args Hin Pre val Hout post:=λS w s k=>by
 refine calls_of_wp_defers hf hb (h ⟨w,kV Hin,S⟩ rfl _ w S ⟨rfl,?_,λi v hi=>?_⟩ s k)
 .have:=Nat.le_of_ble_eq_true hl;simp;omega
 .obtain⟨_,h2⟩:=rB 0 args i v hi;simp only[Nat.sub_zero]at h2;have hlt:i<args.length:=(List.getElem?_eq_some_iff.1 h2).1;simp only[Array.getElem?_append];rw[if_pos q7]
  simpa using h2
end
section
variable {P : Program} {ops : Array Oper} {Q0 : Exit -> Act -> World -> Prop} {Q : Exit -> Act -> List Frame -> World -> Prop} {cs : List Frame}
theorem opsS_of(hQ: ∀e a w,Q0 e a w->Q e a cs w)(hO: ¬LetsOut Q0): ∀(l:List Oper) (k:Nat),(∀j:Nat,l[j]?=ops[k+j]?)-> ∀(a:Act) (w:World),wpList P ops Q0 l a w->wpOpsS P ops Q (List.range' k l.length) a cs w
 |[],_,_,a,w,h=>hQ _ _ _ h
 |o::l,k,hk,a,w,h=>by
  have h0:ops[k]?=some o:=by simpa using (hk 0).symm
  have ih:=opsS_of hQ hO l (k+1) (λj=>by have:=hk (j+1);simpa[Nat.add_assoc,Nat.add_comm 1 j]using this);rw[List.length_cons,List.range'_succ];unfold wpList at h;unfold wpOpsS;simp only[h0];split at h
  .rename_i hw;rw[if_pos hw];have h:=h.resolve_right λh=>hO h.2;unfold Oper.wp at h;generalize (execOp a.eval o).run P w=r at h⊢
   cases r with
   |ok x w'=>
    cases x with
    |value v=>rw[Oper.upon_value]at h;exact ih _ _ h
    |skip=>rw[Oper.upon_skip]at h;exact ih _ _ h
    |defer d=>rw[Oper.upon_defer]at h;exact ih _ _ h
    |enter f args=>
     rw[Oper.upon_enter]at h;refine Calls.mono h λe w' k=>?_
     cases e with
     |returned v=>exact ih _ _ k
     |panicked c=>exact hQ _ _ _ k
     |outgrown=>exact absurd k hO
    |row r args=>
     rw[Oper.upon_row]at h;exact λc cs=>let ⟨v,w',r,s⟩:=h c cs;⟨v,w',ih _ _ r,s⟩
    |_=>exact h.elim
   |halt e w'=>
    cases e with
    |panic v=>exact hQ _ _ _ h
    |_=>exact h.elim
  .rename_i hw;rw[if_neg hw];exact ih _ _ h
end
def EndD {ι:Type}(β:dC)(Hout:ι->List bD)(post:ι->List bC)(e:Ending)(w':World):Prop:=(∃r,e= .returned r)/\ ∃x S',St β (Hout x) S' w'/\All (post x) S' w'
section
variable {ι : Type} {P : Program} {f : FuncId} {fn : Func} {n d id : Nat} {o : Oper} {l : List Oper} {rest : Code} {args : List Value} {u u' : FrameMode} {v : Value} {Hin : List bD} {Pre : List bC} {Hout : ι -> List bD} {post : ι -> List bC}
theorem zB(hf:P.funcs[f]?=some fn)(hb:fn.body=some (.seq (.region id (o::l).toArray false) rest))(hn:fn.ntmps=n)(hl:Nat.ble args.length n=true){ts:Array TypeId}(ho:o.op= .call {callee:= .builtin .recover,args:= #[],argTypes:=ts})(hg:o.guard=none)(hd:o.dst=some d)(hdn:Nat.blt d n=true)
  (hrec: ∀(c:Frame) (cs:List Frame),c.mode=u->recoverD (c::cs)=some (v,{c with mode:=u'}::cs)\/recoverD (c::cs)=none/\v= .nilIface/\u'=u)
  (h: ∀β,β.M=kV Hin->At β n ((d,v)::zG 0 args) Hin Pre (wpList P (o::l).toArray (Exit.then (rest.wp P (bodyPost P fn (EndD β Hout post))) (bodyPost P fn (EndD β Hout post))) l)):bQv P f args u u' Hin Pre Hout post:=λS w s k=>by
 refine callsD_of_wpS hf hb λc0 cs hu=>?_;apply wpS_seq;apply wpS_region
 have hsz:List.range (o::l).toArray.size=0::List.range' 1 l.length:=by
  rw[List.range_eq_range',List.size_toArray,List.length_cons,List.range'_succ]
 rw[hsz]
 have fit:Fits n (zG 0 args) {tmps:=args.toArray++Array.replicate (fn.ntmps-args.toArray.size) undef,defers:=[]}:=by
  refine⟨rfl,?_,λi v hi=>?_⟩
  .have:=Nat.le_of_ble_eq_true hl;simp;omega
  .obtain⟨_,h2⟩:=rB 0 args i v hi;simp only[Nat.sub_zero]at h2;have hlt:i<args.length:=(List.getElem?_eq_some_iff.1 h2).1;simp only[Array.getElem?_append];rw[if_pos q7]
   simpa using h2
 generalize ({tmps:=args.toArray++Array.replicate (fn.ntmps-args.toArray.size) undef,defers:=[]}:Act)=a at fit⊢
 have hw:Region.wanted o (yielded (o::l).toArray a.tmps)=true:=by
  unfold Region.wanted;rw[hg]
 have hr:(execOp a.eval o).run P w= .ok .recover w:=by
  unfold execOp;simp only[ho];rfl
 have h1:=h ⟨w,kV Hin,S⟩ rfl (a.put o.dst v) w S (by rw[hd];exact fit.put (by simpa[Nat.blt_eq]using hdn) v) s k
 have key:wpOpsS P (o::l).toArray (Exit.thenS (rest.wpS P (bodyPostS P fn c0 cs λe v w'=>(∃r,e= .returned r)/\v=u'/\ ∃x S',St ⟨w,kV Hin,S⟩ (Hout x) S' w'/\All (post x) S' w')) (bodyPostS P fn c0 cs λe v w'=>(∃r,e= .returned r)/\v=u'/\ ∃x S',St ⟨w,kV Hin,S⟩ (Hout x) S' w'/\All (post x) S' w')) (List.range' 1 l.length) (a.put o.dst v) ({c0 with mode:=u'}::cs) w:=by
  have hend: ∀e a w',bodyPost P fn (EndD ⟨w,kV Hin,S⟩ Hout post) e a w'->bodyPostS P fn c0 cs (λe v w'=>(∃r,e= .returned r)/\v=u'/\ ∃x S',St ⟨w,kV Hin,S⟩ (Hout x) S' w'/\All (post x) S' w') e a ({c0 with mode:=u'}::cs) w':=λe a w' q=>by
   cases e with
   |normal=>obtain⟨q1,r,q2,q3,q4⟩:=q;exact⟨q1,u',rfl,r,q2,q3,rfl,q4⟩
   |ret=>obtain⟨q1,r,q2,q3,q4⟩:=q;exact⟨q1,u',rfl,r,q2,q3,rfl,q4⟩
   |panic c=>obtain⟨_,⟨r,hr⟩,_⟩:=q;cases hr
   |outgrown=>obtain⟨⟨r,hr⟩,_⟩:=q;cases hr
   |_=>exact q.elim
  refine opsS_of (Q0:=Exit.then (rest.wp P (bodyPost P fn (EndD ⟨w,kV Hin,S⟩ Hout post))) (bodyPost P fn (EndD ⟨w,kV Hin,S⟩ Hout post))) (λe a w' q=>?_) ?_ l 1 (λj=>by simp[Nat.add_comm 1 j]) _ _ h1
  .cases e with
   |normal=>exact wpS_of_wp (Code.wp_mono (λe a w' q=>hend e a w' q) q)
   |exit i=>exact hend (.exit i) a w' q
   |goto i=>exact hend (.goto i) a w' q
   |ret=>exact hend .ret a w' q
   |panic c=>exact hend (.panic c) a w' q
   |outgrown=>exact hend .outgrown a w' q
  .rintro⟨a,w',⟨r,hr⟩,_⟩;cases hr
 unfold wpOpsS;simp only[List.getElem?_toArray,List.getElem?_cons_zero,hw,if_true,hr]
 rcases hrec c0 cs hu with e|⟨e,rfl,rfl⟩
 .rw[e];exact key
 .rw[e];have hc:({c0 with mode:=u'}:Frame)=c0:=by subst hu;rfl
  rw[hc]at key;exact key
theorem rec_none(c:Frame)(cs:List Frame)(h:c.mode= .returning):recoverD (c::cs)=some (.nilIface,{c with mode:= .returning}::cs)\/recoverD (c::cs)=none/\(Value.nilIface:Value)= .nilIface/\(FrameMode.returning:FrameMode)= .returning:= .inr ⟨by simp[recoverD,h],rfl,rfl⟩
theorem rec_some(v:Value)(c:Frame)(cs:List Frame)(h:c.mode= .panicking (raise v)):recoverD (c::cs)=some (v,{c with mode:= .panicking [{v,recovered:=true}]}::cs)\/recoverD (c::cs)=none/\v= .nilIface/\FrameMode.panicking [{v,recovered:=true}]= .panicking (raise v):= .inl (by simp[recoverD,h,raise])
end
end
end Go.Proofs.YtnfiadlonjediaaGreatDoor
