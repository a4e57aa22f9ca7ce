/- Texts of one proof, one behind the other: PlanB, LifeQ, PlanC, PlanD, PlanE. -/
import Derived.Test.YtofjmphlpdhohaaGreatDoorM9
import Derived.Test.YtofjmphlpdhohaaGreatDoorShelfB
import Derived.Test.YtofjmphlpdhohaaGreatDoorM7
namespace Go.Proofs.YtofjmphlpdhohaaGreatDoor
open Go.RowKit
def uN (k:Int):List Int→Int→Int
 | [],_=> -1
 | s::r,i=>if k=s then i else uN k r (i+1)
section
variable {k x : Int} {l : List Int} {i : Nat} {r : Int}
theorem vF(h:r=uN k (l.drop i) i)(hx:l[i]?=some x):(k=x→r=i)∧(k≠x→r=uN k (l.drop (i+1)) ((i+1:Nat):Int)):=by
 rw [kD hx,uN] at h;refine⟨fun e=>by rw [if_pos e] at h;exact h,fun e=>by rw [if_neg e] at h;rw [h];rfl⟩
theorem idxI_end(h:r=uN k (l.drop i) i)(hi:l.length≤i):r= -1:=by
 rw [List.drop_of_length_le hi] at h;exact h
end
theorem oA(k:Int): ∀(l:List Int) (i:Int),0≤i→decide (0≤uN k l i)=l.contains k
 | [],i,_=>rfl
 | s::r,i,h=>by
  rw [uN,List.contains_cons]
  by_cases e:k=s
  ·subst e;simp [h]
  ·rw [if_neg e,oA k r (i+1) (by omega)];simp [e]
theorem bitsMul_spec(x y:Nat)(hx:x<18446744073709551616)(hy:y<18446744073709551616):fB Tryz.prog 157 [.int .u64 (x:Nat),.int .u64 (y:Nat)] [] [] (fun _:Unit=> .tuple #[.int .u64 ((x*y/18446744073709551616:Nat):Int),.int .u64 ((x*y%18446744073709551616:Nat):Int)]) (fun _=>[]) (fun _=>[]):=
 fun S w s k=>(Tryz.bits_Mul x y hx hy w).mono fun e w' h=>by
  obtain⟨rfl,rfl⟩:=h;exact⟨(),S,rfl,s,fun g hg=>by simp at hg⟩
def nilLife:cH:=⟨0,0⟩
theorem lifeInfo: ∃i:TypeInfo,Tryz.prog.info? 55=some i∧i.zero=some (.agg #[.int .i64 0,.int .i64 0])∧i.size=2∧i.bytes=16:=by
 have h:(Tryz.prog.info? 55).map (fun i=>(i.zero,i.size,i.bytes))=some (some (.agg #[.int .i64 0,.int .i64 0]),2,16):=by kernel_rfl
 cases hi:Tryz.prog.info? 55 with
 | none=>simp [hi] at h
 | some i=>simp [hi] at h;exact⟨i,rfl,h.1,h.2.1,h.2.2⟩
theorem lifesize:(Tryz.prog.info? 55).map (·.size)=some fP.size:=by kernel_rfl
theorem madeLives: ∀m:Nat,(madeCells (Value.agg #[.int .i64 0,.int .i64 0]).cells (m*2)).toList=fP.all (List.replicate m nilLife):=fun m=>by
 have e: ∀m,fP.all (List.replicate m nilLife)=List.replicate (m*2) (.int .i64 0):=fun m=>by
  induction m with
  | zero=>rfl
  | succ m ih=>rw [List.replicate_succ,show fP.all (nilLife::List.replicate m nilLife)=fP.cells nilLife++fP.all (List.replicate m nilLife) from rfl,ih,show fP.cells nilLife=List.replicate (1*2) (.int .i64 0) from rfl,List.replicate_append_replicate,show(m+1)*2=1*2+m*2 by omega]
 rw [e];unfold madeCells;apply List.ext_getElem
 ·simp
 ·intro i h1 h2;have h3:i%2<2:=Nat.mod_lt _ (by decide)
  rcases (by omega:i%2=0∨i%2=1) with h | h
  ·simp [Value.cells,h]
  ·simp [Value.cells,h]
section
variable {β : fO} {n : Nat} {Γ : Env} {H : List bD} {F : List bF} {Q : Exit → Act → World → Prop} {ops : Array Oper} {rest : List Oper} {o : Oper} {d : Nat}
theorem at_makeLives{m:Nat}{x y:Operand}(hw:want ops Γ o=some true)(ho:o.op= .makeSlice 48 x y)(hd:o.dst=some d)(hn:Nat.blt d n=true)
  (hx:Γ.ev x=some (.int .i64 (m:Nat))) (hy:Γ.ev y=some (.int .i64 (m:Nat))) (hm:m≤1000000)
  (k: ∀b,At β n ((d,.slice (some ⟨b,0,none⟩) m m)::Γ) (fP.row (.slice (some ⟨b,0,none⟩) m m) 55 (List.replicate m nilLife)::H) F (wpList Tryz.prog ops Q rest)):At β n Γ H F (wpList Tryz.prog ops Q (o::rest)):=by
 obtain⟨i,hi,hz,hs,hb⟩:=lifeInfo;exact at_make (E:=fP) hw ho hd hn hx hy Tryz.underlying48 hi hz hs (by rw [hb];omega) (by simp [maxLen];omega) (madeLives m) (by simp) k
theorem at_makeBools{m:Nat}{x y:Operand}(hw:want ops Γ o=some true)(ho:o.op= .makeSlice 51 x y)(hd:o.dst=some d)(hn:Nat.blt d n=true)
  (hx:Γ.ev x=some (.int .i64 (m:Nat))) (hy:Γ.ev y=some (.int .i64 (m:Nat))) (hm:m≤1000000)
  (k: ∀b,At β n ((d,.slice (some ⟨b,0,none⟩) m m)::Γ) (gM.row (.slice (some ⟨b,0,none⟩) m m) 4 (List.replicate m false)::H) F (wpList Tryz.prog ops Q rest)):At β n Γ H F (wpList Tryz.prog ops Q (o::rest)):=by
 obtain⟨i,hi,hz,hs,hb⟩:=sM;refine at_make (E:=gM) hw ho hd hn hx hy Tryz.underlying51 hi hz hs (by rw [hb];omega) (by simp [maxLen];omega) ?_ (by simp) k
 have e: ∀m,gM.all (List.replicate m false)=List.replicate m (.bool false):=fun m=>by
  induction m with
  | zero=>rfl
  | succ m ih=>rw [List.replicate_succ,List.replicate_succ,←ih];rfl
 rw [e];unfold madeCells;apply List.ext_getElem
 ·simp [gM]
 ·intro i h1 h2;simp [Value.cells,Nat.mod_one]
end
set_option maxRecDepth 100000 in
theorem index_spec(A:Option Addr)(c:Nat)(l:List Int)(hl:l.length≤140737488355328)(k:Int):fB Tryz.prog 158 [.slice A l.length c,.int .i64 k] [] [iC.sl (.slice A l.length c) l] (fun(_:Unit)=> .int .i64 (uN k l 0)) (fun _=>[]) (fun _=>[]):=by
 have hT:=cL;generalize hR:uN k l 0=r;refine cU Tryz.func158 rfl Tryz.ntmps158 rfl ?_;intro β hM;refine sr<|sp hT ?_;refine nn<|bM<|sr<|sp3 hT ?_;refine nn<|bW<|cV (ι:=Nat) [(0,_),(1,_),(7,_)] ⟨rfl,rfl,rfl,trivial⟩ (fun i=>[(8,.int .i64 (i:Nat))]) (fun _=>[]) (fun i=>[bF.pure (i≤l.length∧r=uN k (l.drop i) i)]) (fun i=>l.length-i) 0 ⟨rfl,trivial⟩ .nil ⟨Has.pure (⟨by omega,hR.symm⟩),trivial⟩ ?_;rintro i;refine cQ (Has.of mT0) fun hinv2=>?_;refine sr<|sp hT ?_;refine nn<|bM<|bQ rfl (fun hc9=>?_) (fun hc9=>?_)
 ·have hc9:=of_decide_eq_true hc9;refine bR<|bH<|bM<|bW<|sr<|sp2 hT ?_;refine nn<|sr<|sp3 hT ?_
  obtain⟨x1,hx2⟩: ∃x',l[i]?=some x':=⟨_,List.getElem?_eq_getElem (by omega)⟩
  refine ss (bT hT (k:=i) (bI (Has.of mT1)) rfl rfl rfl rfl rfl rfl rfl (by omega)) ?_;refine ss (cA hT (cF.knows (bI (Has.of mT1)) (k:=i) (x:=x1) hx2 0) rfl rfl rfl rfl rfl) ?_;refine sp hT ?_;refine nn<|bQ rfl (fun hc16=>?_) (fun hc16=>?_)
  ·have hc16:=eq_of_beq hc16;refine sr<|sp2 hT ?_;refine nn<|bK<|bV<|bO<|bO<|bV<|bO ?_;have hr:=(vF hinv2.2 hx2).1 (by first | assumption | (symm;assumption));subst hr;exact bC () rfl (bJ rfl) .nil trivial rfl
  have hc16:=beq_eq_false_iff_ne.1 hc16;refine bR<|bZ<|bH<|bL<|sp hT ?_;refine cJ (z':=(((i+1):Nat):Int)) (fN (by omega) (by omega)) ?_;refine sp hT ?_;refine nn ?_;exact cD (i+1) (by omega) ⟨rfl,trivial⟩ ⟨rfl,rfl,rfl,trivial⟩ .nil ⟨Has.pure (⟨by omega,(vF hinv2.2 hx2).2 ‹_›⟩),trivial⟩ (bG.drop 1)
 have hc9:=Int.not_lt.1 (of_decide_eq_false hc9);refine dL<|cE<|cE<|dM<|bH<|sr<|sp hT ?_;refine nn<|bK ?_;have hr:=idxI_end hinv2.2 (by omega);subst hr;exact bC () rfl (bJ rfl) .nil trivial rfl
set_option maxRecDepth 100000 in
theorem uL(A:Option Addr)(c:Nat)(l:List Int)(hl:l.length≤140737488355328)(k:Int):fB Tryz.prog 95 [.slice A l.length c,.int .i64 k] [] [iC.sl (.slice A l.length c) l] (fun(_:Unit)=> .bool (l.contains k)) (fun _=>[]) (fun _=>[]):=by
 have hT:=cL;refine cU Tryz.func95 rfl Tryz.ntmps95 rfl ?_;intro β hM;refine sr<|sp hT ?_;refine nn<|sr<|sp2 hT ?_;refine dI Tryz.func158 (index_spec A c l hl k) rfl rfl .nil ⟨(Has.of mT0),trivial⟩ fun _=>?_;refine sp2 hT ?_;refine nn<|bK ?_;exact bC () rfl (bJ rfl) .nil trivial (congrArg Value.bool (oA k l 0 (by decide)))
set_option maxRecDepth 100000 in
theorem repeatL_spec(A:Option Addr)(c:Nat)(p:cH)(n:Nat)(hn:n≤1000000):fB Tryz.prog 94 [.slice A 1 c,.int .i64 (n:Nat)] [] [fP.sl (.slice A 1 c) [p]] (fun(x:Option Addr×Nat)=> .slice x.1 n x.2) (fun(x:Option Addr×Nat)=>[fP.row (.slice x.1 n x.2) 55 (List.replicate n p)]) (fun _=>[]):=by
 have hT:=cL;refine cU Tryz.func94 rfl Tryz.ntmps94 rfl ?_;intro β hM;refine sr<|sp hT ?_;refine nn<|bM<|sr<|sp2 hT ?_;refine cP (t':=false) (decide_eq_false (by omega)) ?_;refine nn<|jK rfl rfl ?_;refine bR<|bH<|sr<|sp3 hT ?_;refine cJ (z':=((1:Nat):Int)) rfl ?_;refine sp2 hT ?_;refine cJ (z':=((n:Nat):Int)) (conv64 (by omega)) ?_;refine dI Tryz.func157 (bitsMul_spec 1 n (by decide) (by omega)) rfl rfl .nil trivial fun _=>?_;refine at_val (v':= .tuple #[.int .u64 ((0:Nat):Int),.int .u64 ((n:Nat):Int)]) (by rw [Nat.one_mul,Nat.div_eq_of_lt (by omega),Nat.mod_eq_of_lt (by omega)]) ?_;refine sp4 hT ?_;refine sp hT ?_;refine nn<|bM<|sr<|sp2 hT ?_;refine cP (t':=false) (by decide) ?_;refine sp3 hT ?_;refine cP (t':=false) (decide_eq_false (by omega)) ?_;refine sp hT ?_;refine nn<|jK rfl rfl ?_;refine bR<|bH<|sr<|sp2 hT ?_;refine cJ (z':=((n:Nat):Int)) (conv63 (by omega)) ?_;refine at_makeLives (m:=n) rfl rfl rfl rfl rfl rfl (by omega) fun b1=>?_;refine sp hT ?_;refine nn<|sr<|sp2 hT ?_;refine at_copyE (E:=fP) (ys:=List.take (Nat.min 1 n) [p]) (q:=0) (cF.preE (bI (Has.of mT0)) _) rfl rfl rfl rfl Tryz.underlying48 lifesize rfl rfl (by simp) rfl (rep_l1 p n) (by rw [rep_l1];have:=min1_le n;omega) .head ?_;have hr1:=rep_first nilLife p n _ rfl;refine cJ (z':=((Nat.min 1 n:Nat):Int)) (congrArg Nat.cast (rep_l1 p n)) ?_;refine sp hT ?_;refine nn<|bM<|bW<|cV (ι:=Nat×List cH) [(7,_)] ⟨rfl,trivial⟩ (fun⟨i,cur⟩=>[(8,.int .i64 (i:Nat))]) (fun⟨i,cur⟩=>[fP.row (.slice (some ⟨b1,0,none⟩) n n) 55 cur]) (fun⟨i,cur⟩=>[bF.pure (vB nilLife p n i cur∧(1≤i∨n=0))]) (fun⟨i,cur⟩=>n-i) (Nat.min 1 n,_) ⟨rfl,trivial⟩ (.cons .head .nil) ⟨Has.pure (⟨hr1,min1_or n⟩),trivial⟩ ?_;rintro⟨i,cur⟩;dsimp only;refine cQ (Has.of mT0) fun hinv8=>?_;refine bM<|sr<|sp4 hT ?_;refine nn<|bQ rfl (fun hc37=>?_) (fun hc37=>?_)
 ·have hc37:=of_decide_eq_true hc37;refine bR<|bH<|bW<|kY _ _ [(true,0),(true,1),(true,2),(true,3),(true,4),(true,5),(true,6),(false,7),(true,8),(true,9)] jT (by decide+kernel) .nil bG.self ?_;refine puM hT ?_;refine puM hT ?_;refine puM hT ?_;refine stM rfl (sti_cutFrom hT (k:=i) rfl rfl rfl rfl rfl rfl (by omega)) ?_;refine at_val (v':= .slice (some ⟨b1,i*2,none⟩) (n-i) (n-i)) (by rw [cutA_in (by omega) rfl]) ?_;refine puM hT ?_;refine puM hT ?_;refine stM rfl (sti_cutTo hT (k:=i) rfl rfl rfl rfl rfl rfl (by omega)) ?_;refine fK (o:=_) rfl ?_;refine at_copyE (E:=fP) (ys:=cur.take (Nat.min i (n-i))) (q:=i) (cF.preE (dY .head) _) rfl rfl rfl rfl Tryz.underlying48 lifesize rfl rfl (rep_len hinv8.1) rfl (rep_l hinv8.1) (by rw [rep_l hinv8.1];have:Nat.min i (n-i)≤n-i:=Nat.min_le_right _ _;omega) .head ?_;have hrs:=rep_step hinv8.1 (by omega);have hrl:=rep_l hinv8.1;refine cJ (z':=((Nat.min i (n-i):Nat):Int)) (congrArg Nat.cast hrl) ?_
  have hmn:Nat.min i (n-i)≤n-i∧1≤Nat.min i (n-i):=⟨Nat.min_le_right _ _,Nat.le_min.2 ⟨by omega,by omega⟩⟩
  refine fI .nil (bG.drop 0) ?_;refine puM hT ?_;refine cJ (z':=(((i+(Nat.min i (n-i))):Nat):Int)) (fN (by omega) (by omega)) ?_;refine puM hT ?_;refine dK<|bZ<|bH ?_;exact cD (i+Nat.min i (n-i),_) (by dsimp only;omega) ⟨rfl,trivial⟩ ⟨rfl,trivial⟩ (.cons .head .nil) ⟨Has.pure (⟨hrs,by dsimp only;omega⟩),trivial⟩ (bG.drop 1)
 have hc37:=Int.not_lt.1 (of_decide_eq_false hc37);refine dL<|cE<|cE<|dM<|bH<|sr<|sp2 hT ?_;refine nn<|bK ?_;obtain rfl:i=n:=by have:=hinv8.1.2;omega
 have hcr:cur=List.replicate i p:=by rw [hinv8.1.1,Nat.sub_self,List.replicate_zero,List.append_nil]
 subst hcr;exact bC (_,_) rfl (bJ rfl) (.cons .head .nil) trivial rfl
def cH.c (x:cH):LifeC:=⟨x.from_,x.to_⟩
def LifeC.v(x:LifeC):cH:=⟨x.from_,x.to_⟩
def lc (l:List cH):List LifeC:=l.map cH.c
def lv (l:List LifeC):List cH:=l.map LifeC.v
theorem lv_lc(l:List cH):lv (lc l)=l:=by
 unfold lv lc;rw [List.map_map];exact List.map_id'' (fun _=>rfl) l
theorem lc_len(l:List cH):(lc l).length=l.length:=List.length_map _
theorem lv_len(l:List LifeC):(lv l).length=l.length:=List.length_map _
theorem lc_set(l:List cH)(k:Nat)(y:cH):lc (l.set k y)=(lc l).set k y.c:=List.map_set
theorem lc_get(l:List cH)(k:Nat):(lc l)[k]?=(l[k]?).map cH.c:=List.getElem?_map
section
variable {L : List LifeC} {i : Int} {k : Nat} {y : LifeC}
theorem uG{α:Type}{L:List α}{k:Nat}{y:α}(f:α→α)(h:L[k]?=some y):L.set k (f y)=L.modify k f:=by
 apply List.ext_getElem?;intro j;rw [List.getElem?_set,List.getElem?_modify];have hk:=(List.getElem?_eq_some_iff.1 h).1
 by_cases e:k=j
 ·subst e;rw [h];simp [hk]
 ·simp [e]
theorem qJ(h:L[k]?=some y):L.set k ⟨y.from_,i⟩=dD i L k:=uG (fun x:LifeC=>{x with to_:=i}) h
theorem setFrom_set(h:L[k]?=some y):L.set k ⟨i,y.to_⟩=nL i L k:=uG (fun x:LifeC=>{x with from_:=i}) h
end
section
variable {c : lG} {li lj : List cH} {dn : List Bool} {i j k : Nat} {y : cH} {u : nE} {r G : List LifeC} {x : fX} {us : List Int} {z : Int} {m : Int}
def qW (c:lG)(i:Nat)(li:List cH):Prop:=li.length=c.bufs.length∧ ∀j u,c.bufs[j]?=some u→ ∃y,li[j]?=some y∧y.to_= -1∧y.from_=if j<i∧(0≤u.input∨c.outs.contains (j:Int)=true) then-1 else 0
theorem live_start:qW c 0 (List.replicate c.bufs.length ⟨0,-1⟩):=by
 refine⟨List.length_replicate,fun j u hj=>⟨⟨0,-1⟩,?_,rfl,?_⟩⟩
 ·rw [List.getElem?_replicate,if_pos (List.getElem?_eq_some_iff.1 hj).1]
 ·rw [if_neg (by omega)]
theorem live_yes(h:qW c i li)(hu:c.bufs[i]?=some u)(hy:li[i]?=some y)(e:0≤u.input∨c.outs.contains (i:Int)=true):qW c (i+1) (li.set i ⟨-1,y.to_⟩):=by
 refine⟨by rw [List.length_set];exact h.1,fun j u' hj=>?_⟩;obtain⟨y',h1,h2,h3⟩:=h.2 j u' hj
 by_cases ej:i=j
 ·subst ej;rw [hy] at h1;injection h1 with h1
  subst h1;rw [hu] at hj;injection hj with hj
  subst hj;refine⟨⟨-1,y.to_⟩,List.getElem?_set_self (List.getElem?_eq_some_iff.1 hy).1,h2,?_⟩;rw [if_pos ⟨by omega,e⟩]
 ·refine⟨y',by rw [List.getElem?_set_ne ej];exact h1,h2,?_⟩;rw [h3];have:j<i+1↔j<i:=by omega
  simp [this]
theorem live_no(h:qW c i li)(hu:c.bufs[i]?=some u)(e1:u.input<0)(e2:c.outs.contains (i:Int)=false):qW c (i+1) li:=by
 refine⟨h.1,fun j u' hj=>?_⟩;obtain⟨y',h1,h2,h3⟩:=h.2 j u' hj;refine⟨y',h1,h2,?_⟩;rw [h3]
 by_cases ej:i=j
 ·subst ej;rw [hu] at hj;injection hj with hj
  subst hj;rw [if_neg (by omega),if_neg];rintro⟨_,h | h⟩
  ·omega
  ·rw [e2] at h;cases h
 ·have:j<i+1↔j<i:=by omega
  simp [this]
theorem live_end(h:qW c i li)(hi:c.bufs.length≤i):lc li=lifeAt c.outs 0 c.bufs:=by
 apply List.ext_getElem?;intro j;rw [lc_get,rD]
 cases hj:c.bufs[j]? with
 | none=>
  rw [List.getElem?_eq_none_iff.2 (by rw [h.1];exact List.getElem?_eq_none_iff.1 hj)];rfl
 | some u=>
  obtain⟨y',h1,h2,h3⟩:=h.2 j u hj;have:=(List.getElem?_eq_some_iff.1 hj).1;rw [h1,Option.map_some,Option.map_some,cH.c,h2,h3,Nat.zero_add];have hji:j<i:=by omega
  simp [hji]
def StepI (c:lG)(k:Nat)(li:List cH)(dn:List Bool)(r:List LifeC):Prop:=li.length=c.bufs.length∧dn.length=c.bufs.length∧r=(c.outs.map Int.toNat).foldl (dD c.steps.length) (liveGo k (c.steps.drop k) (lc li,dn)).1
theorem step_start(h:qW c i li)(hi:c.bufs.length≤i):StepI c 0 li (List.replicate c.bufs.length false) (livesC c):=by
 refine⟨h.1,List.length_replicate,?_⟩;rw [live_end h hi];rfl
theorem uY(h:StepI c k li dn r)(hx:c.steps[k]?=some x)(h1:lc lj=(dG k x (lc li,dn)).1){dn':List Bool}(h2:dn'=dn.set x.buf.toNat true):StepI c (k+1) lj dn' r:=by
 subst h2;refine⟨?_,by rw [List.length_set];exact h.2.1,?_⟩
 ·rw [←lc_len,h1,gF,lc_len];exact h.1
 ·rw [h.2.2,show c.steps.drop k=x::c.steps.drop (k+1) from by
   obtain⟨hi,e⟩:=List.getElem?_eq_some_iff.1 hx;rw [←e]
   exact List.drop_eq_getElem_cons hi,liveGo,h1]
  rfl
theorem step_end(h:StepI c k li dn r)(hk:c.steps.length≤k):r=(c.outs.map Int.toNat).foldl (dD c.steps.length) (lc li):=by
 rw [h.2.2,List.drop_of_length_le hk];rfl
def UseI (m:Int)(us:List Int)(j:Nat)(G:List LifeC)(li:List cH):Prop:=G=((us.drop j).map Int.toNat).foldl (dD m) (lc li)
theorem use_step(h:UseI m us j G li)(hz:us[j]?=some z)(hy:li[z.toNat]?=some y):UseI m us (j+1) G (li.set z.toNat ⟨y.from_,m⟩):=by
 unfold UseI at*
 rw [h,show us.drop j=z::us.drop (j+1) from by
   obtain⟨hi,e⟩:=List.getElem?_eq_some_iff.1 hz;rw [←e]
   exact List.drop_eq_getElem_cons hi,List.map_cons,List.foldl_cons,lc_set]
 congr 1
 exact(qJ (y:=y.c) (by rw [lc_get,hy];rfl)).symm
theorem use_end(h:UseI m us j G li)(hj:us.length≤j):lc li=G:=by
 unfold UseI at h;rw [h,List.drop_of_length_le hj];rfl
theorem vI(l:List OpV)(L:List LifeC):((usesV l).map Int.toNat).foldl (dD m) L=(iZ (mY l)).foldl (dD m) L:=by
 apply List.ext_getElem?;intro b;rw [gQ,gQ]
 congr 1
 funext x
 have:b∈(usesV l).map Int.toNat↔b∈iZ (mY l):=by
  simp only [List.mem_map,iZ,List.mem_filterMap,mY];constructor
  ·rintro⟨z,hz,e⟩;obtain⟨o,ho,h4,hk⟩:=nP.1 hz;exact⟨o.c,⟨o,ho,rfl⟩,by rw [if_pos (show o.c.how=4 from h4)];show some o.k.toNat=_;rw [hk,e]⟩
  ·rintro⟨_,⟨o,ho,rfl⟩,e⟩
   by_cases h4:o.c.how=4
   ·rw [if_pos h4] at e;injection e with e
    exact⟨o.k,nP.2 ⟨o,ho,h4,rfl⟩,e⟩
   ·rw [if_neg h4] at e;cases e
 simp only [this]
section
variable {s : fF}
theorem made_new(h:UseI m (usesV s.ops.list) j G lj)(hj:(usesV s.ops.list).length≤j)(hG:G=((usesV s.ops.list).map Int.toNat).foldl (dD m) (lc li))(hd:dn[s.buf.toNat]?=some false)(hy:lj[s.buf.toNat]?=some y):
  lc ((lj.set s.buf.toNat ⟨m,y.to_⟩).set s.buf.toNat ⟨m,m⟩)=(dG m s.c (lc li,dn)).1:=by
 have e:=use_end h hj;rw [hG,vI] at e;have hdn:dn.getD s.buf.toNat false=false:=by rw [List.getD_eq_getElem?_getD,hd];rfl
 unfold dG;show _=dD m (if dn.getD s.buf.toNat false=true then _ else _) s.buf.toNat;rw [hdn,if_neg (by decide)];show _=dD m (nL m ((iZ (mY s.ops.list)).foldl (dD m) (lc li)) s.buf.toNat) s.buf.toNat;rw [←e,lc_set,lc_set];have h1:(lc lj)[s.buf.toNat]?=some y.c:=by rw [lc_get,hy];rfl
 rw [←setFrom_set (y:=y.c) h1];have h2:((lc lj).set s.buf.toNat ⟨m,y.to_⟩)[s.buf.toNat]?=some ⟨m,y.to_⟩:=List.getElem?_set_self (List.getElem?_eq_some_iff.1 h1).1;exact qJ (y:=⟨m,y.to_⟩) h2
theorem made_old(h:UseI m (usesV s.ops.list) j G lj)(hj:(usesV s.ops.list).length≤j)(hG:G=((usesV s.ops.list).map Int.toNat).foldl (dD m) (lc li))(hd:dn[s.buf.toNat]?=some true)(hy:lj[s.buf.toNat]?=some y):
  lc (lj.set s.buf.toNat ⟨y.from_,m⟩)=(dG m s.c (lc li,dn)).1∧dn=dn.set s.buf.toNat true:=by
 have e:=use_end h hj;rw [hG,vI] at e;have hdn:dn.getD s.buf.toNat false=true:=by rw [List.getD_eq_getElem?_getD,hd];rfl
 refine⟨?_,?_⟩
 ·unfold dG;show _=dD m (if dn.getD s.buf.toNat false=true then _ else _) s.buf.toNat;rw [hdn,if_pos rfl];show _=dD m ((iZ (mY s.ops.list)).foldl (dD m) (lc li)) s.buf.toNat;rw [←e,lc_set];exact qJ (y:=y.c) (by rw [lc_get,hy];rfl)
 ·have hlt:=(List.getElem?_eq_some_iff.1 hd).1;have:=(List.getElem?_eq_some_iff.1 hd).2;rw [←this,List.set_getElem_self]
end
def OutI (c:lG)(j:Nat)(li:List cH)(r:List LifeC):Prop:=li.length=c.bufs.length∧r=((c.outs.drop j).map Int.toNat).foldl (dD c.steps.length) (lc li)
theorem out_step(h:OutI c j li r)(hz:c.outs[j]?=some z)(hy:li[z.toNat]?=some y):OutI c (j+1) (li.set z.toNat ⟨y.from_,(c.steps.length:Nat)⟩) r:=by
 refine⟨by rw [List.length_set];exact h.1,?_⟩;have:=use_step (us:=c.outs) (m:=c.steps.length) (G:=r) h.2 hz hy;exact this
theorem out_stepN{n:Nat}(hn:c.steps.length=n)(h:OutI c j li r)(hz:c.outs[j]?=some z)(hy:li[z.toNat]?=some y):OutI c (j+1) (li.set z.toNat ⟨y.from_,(n:Nat)⟩) r:=by
 subst hn;exact out_step h hz hy
theorem out_end(h:OutI c j li r)(hj:c.outs.length≤j):li=lv r:=by
 rw [h.2,List.drop_of_length_le hj];exact(lv_lc li).symm
theorem vS{vars:Int}{bufs:List nE}: ∀{r:List fX} {made:List Bool},made.length=bufs.length→iX vars bufs r made=true→ ∀x∈r,0≤x.buf∧x.buf<bufs.length∧ ∀o∈x.ops,o.how=4→0≤o.k∧o.k<bufs.length
 | [],_,_,_,x,hx=>by cases hx
 | y::r,made,hm,h,x,hx=>by
  rw [iX,Bool.and_eq_true,Bool.and_eq_true,Bool.and_eq_true] at h;obtain⟨⟨h1,h2⟩,h3,h4⟩:=h
  rcases List.mem_cons.1 hx with rfl | hx
  ·have h0:0≤x.buf:=of_decide_eq_true h1;refine⟨h0,?_,fun o ho e=>?_⟩
   ·cases hb:bufs[x.buf.toNat]? with
    | none=>rw [hb] at h2;cases h2
    | some b=>
     have:=(List.getElem?_eq_some_iff.1 hb).1;omega
   ·unfold kG at h3;simp only [Bool.and_eq_true] at h3;have h5:=List.all_eq_true.1 h3.2.2.2.2.2 o ho;unfold opB at h5;rw [if_neg (by omega),if_neg (by omega),if_neg (by omega),if_pos e] at h5;simp only [Bool.and_eq_true,decide_eq_true_eq] at h5;refine⟨h5.1.1,?_⟩;have h6:=h5.2.1;rw [List.getD_eq_getElem?_getD] at h6
    cases hk:made[o.k.toNat]? with
    | none=>rw [hk] at h6;cases h6
    | some b=>
     have:=(List.getElem?_eq_some_iff.1 hk).1;omega
  ·exact vS (by rw [List.length_set];exact hm) h4 x hx
theorem right_in(h:dV c=true):(c.bufs.length≤1024∧c.steps.length≤1024∧c.outs.length≤64)∧(∀x∈c.steps,0≤x.buf∧x.buf<c.bufs.length∧ ∀o∈x.ops,o.how=4→0≤o.k∧o.k<c.bufs.length)∧ ∀k∈c.outs,0≤k∧k<c.bufs.length:=by
 obtain⟨h1,h2,h3,h4⟩:=right_parts h;exact⟨h1.2.2,vS (lD _) h3,h4⟩
theorem uses_in{s:fF}{n:Nat}(h: ∀o∈s.c.ops,o.how=4→0≤o.k∧o.k<n)(hz:z∈usesV s.ops.list):0≤z∧z<n:=by
 obtain⟨o,ho,h4,hk⟩:=nP.1 hz;have:=h o.c (List.mem_map.2 ⟨o,ho,rfl⟩) h4;rw [←hk];exact this
theorem sR:(livesC c).length=c.bufs.length:=by
 unfold livesC;rw [jH]
 have: ∀(r:List fX) (i:Int) (s:List LifeC×List Bool),(liveGo i r s).1.length=s.1.length:=fun r=>by
  induction r with
  | nil=>exact fun _ _=>rfl
  | cons x r ih=>exact fun i s=>by rw [liveGo,ih,gF]
 rw [this,jS]
end
theorem at_one_life{β:fO}{n:Nat}{Γ:Env}{H:List bD}{F:List bF}{Q:Exit→Act→World→Prop}{ops:Array Oper}{rest:List Oper}{o:Oper}{d:Nat}{x:Operand}{m:cH}(hw:want ops Γ o=some true)(ho:o.op= .buildSlice 48 1 #[(0,x)])(hd:o.dst=some d)(hn:Nat.blt d n=true)
  (hx:Γ.ev x=some (.agg #[.int .i64 m.from_,.int .i64 m.to_])) (k: ∀b,At β n ((d,.slice (some ⟨b,0,none⟩) 1 1)::Γ) (.obj b (.cells (fP.all [m]).toArray 55)::H) F (wpList Tryz.prog ops Q rest)):At β n Γ H F (wpList Tryz.prog ops Q (o::rest)):=by
 obtain⟨i,hi,hz,hs,_⟩:=lifeInfo;refine qC hw ho hd hn hx Tryz.underlying48 hi hz (by omega) (by omega) ?_ k;rw [hs]
 kernel_rfl
set_option maxRecDepth 100000 in
theorem lives_spec(c:iG)(hr:dV c.c=true):fB Tryz.prog 43 [.agg #[.int .i64 c.vars,.slice c.bufs.addr c.bufs.list.length c.bufs.cap,.slice c.steps.addr c.steps.list.length c.steps.cap,.slice c.outs.addr c.outs.list.length c.outs.cap]] [] [mH c,bF.cells 0 0 [.int .i64 0,.int .i64 (-1)]] (fun(x:Option Addr×Nat)=> .slice x.1 c.bufs.list.length x.2) (fun(x:Option Addr×Nat)=>[fP.row (.slice x.1 c.bufs.list.length x.2) 55 (lv (livesC c.c))]) (fun _=>[]):=by
 have hT:=cL;generalize hR:livesC c.c=r;obtain⟨hbz,hst,hou⟩:=right_in hr;have hnb:c.c.bufs.length=c.bufs.list.length:=cC _;have hns:c.c.steps.length=c.steps.list.length:=fS _;have hno:c.c.outs.length=c.outs.list.length:=rfl;refine cU Tryz.func43 rfl Tryz.ntmps43 rfl ?_;intro β hM;refine sr<|jO rfl rfl rfl rfl rfl rfl fun b1=>?_;refine sp hT ?_;refine nn<|sr<|ss (gG hT (dH (off:=0) (Has.of mT1)) rfl rfl rfl rfl rfl) ?_;refine at_one_life (m:=⟨0,-1⟩) rfl rfl rfl rfl rfl fun b2=>?_;refine rE (E:=fP) (xs:=[⟨0,-1⟩]) .head ?_;refine mE .head ?_;refine sp hT ?_;refine ss (ldO hT (fH .head)) ?_;refine sp hT ?_;refine dI Tryz.func94 (repeatL_spec (some ⟨b2,0,none⟩) 1 ⟨0,-1⟩ c.bufs.list.length (by omega)) rfl rfl .nil ⟨(Has.of mT0),trivial⟩ fun⟨LA,lcp⟩=>?_;refine sp hT ?_;refine nn<|sr<|sp hT ?_;refine ss (ldO hT (fH kT1)) ?_;refine sp hT ?_;refine at_makeBools (m:=c.bufs.list.length) rfl rfl rfl rfl rfl rfl (by omega) fun b3=>?_;refine sp hT ?_;refine nn<|bM<|sr<|sp3 hT ?_;refine nn<|bW<|cV (ι:=Nat×List cH) [(1,_),(3,_),(4,_),(23,_)] ⟨rfl,rfl,rfl,rfl,trivial⟩ (fun⟨i,li⟩=>[(24,.int .i64 (i:Nat))]) (fun⟨i,li⟩=>[fP.row (.slice LA c.bufs.list.length lcp) 55 li]) (fun⟨i,li⟩=>[bF.pure (i≤c.bufs.list.length∧qW c.c i li)]) (fun⟨i,li⟩=>c.bufs.list.length-i) (0,List.replicate c.bufs.list.length ⟨0,-1⟩) ⟨rfl,trivial⟩ (.cons kT1 .nil) ⟨Has.pure (⟨by omega,by rw [←hnb];exact live_start⟩),trivial⟩ ?_;rintro⟨i,li⟩;dsimp only;refine cQ (Has.of mT0) fun hinv4=>?_;have hll:li.length=c.bufs.list.length:=by rw [hinv4.2.1];exact hnb
 refine sr<|sp hT ?_;refine nn<|bM<|bQ rfl (fun hc25=>?_) (fun hc25=>?_)
 ·have hc25:=of_decide_eq_true hc25;refine bR<|bH<|bM<|bW<|sr<|sp2 hT ?_;refine nn<|sr<|sp hT ?_;refine ss (ldO hT (fH kT2)) ?_;refine sp hT ?_;refine cR (bufE.sl (.slice c.bufs.addr c.bufs.list.length c.bufs.cap) c.bufs.list) (bufsF_s (rS (Has.of mT2))) ?_
  obtain⟨x4,hx5⟩: ∃x',c.bufs.list[i]?=some x':=⟨_,List.getElem?_eq_getElem (by omega)⟩
  refine ss (bT hT (k:=i) (bI (Has.of mT0)) rfl rfl rfl rfl rfl rfl rfl (by omega)) ?_;refine sp hT ?_;refine ss (cA hT (cF.knows (bI (Has.of mT0)) (k:=i) (x:=x4) hx5 1) rfl rfl rfl rfl rfl) ?_;refine sp2 hT ?_;refine bX (fun hg34=>?_) (fun hg34=>?_)
  ·have hg34:=of_decide_eq_true hg34;refine sk4 ?_;refine sp hT ?_;refine nn<|cO rfl rfl ?_;refine bL<|sp2 hT ?_
   obtain⟨x6,hx7⟩: ∃x',li[i]?=some x':=⟨_,List.getElem?_eq_getElem (by omega)⟩
   refine ss (bT hT (k:=i) (dY .head) rfl rfl rfl rfl rfl hll.symm rfl (by omega)) ?_;refine sp hT ?_;refine cZ hT (k:=i) (fo:=0) (y':=(⟨-1,x6.to_⟩:cH)) .head rfl rfl rfl rfl rfl rfl rfl rfl rfl hx7 rfl ?_;refine iV<|bZ<|bH<|bL<|sp hT ?_;refine cJ (z':=(((i+1):Nat):Int)) (fN (by omega) (by omega)) ?_;refine sp hT ?_;refine nn ?_;exact cD (i+1,(li.set i (⟨-1,x6.to_⟩:cH))) (by dsimp only;omega) ⟨rfl,trivial⟩ ⟨rfl,rfl,rfl,rfl,trivial⟩ (.cons .head (.cons .head (.cons .head .nil))) ⟨Has.pure (⟨by dsimp only;omega,live_yes hinv4.2 (dE hx5) hx7 (by first | exact .inl (by show 0≤iJ.input _;omega) | exact .inr ‹_›)⟩),trivial⟩ (bG.drop 2)
  have hg34:=Int.not_le.1 (of_decide_eq_false hg34);refine sp hT ?_;refine ss (ldO hT (mJ kT2)) ?_;refine sp hT ?_;refine cR (iC.sl (.slice c.outs.addr c.outs.list.length c.outs.cap) c.outs.list) (rY (rV (Has.of mT3))) ?_;refine dI Tryz.func95 (uL c.outs.addr c.outs.cap c.outs.list (by omega) (i:Nat)) rfl rfl .nil ⟨(Has.of mT0),trivial⟩ fun _=>?_;refine sp hT ?_;refine nn<|bQ rfl (fun hc39=>?_) (fun hc39=>?_)
  ·refine bL<|sp2 hT ?_
   obtain⟨x8,hx9⟩: ∃x',li[i]?=some x':=⟨_,List.getElem?_eq_getElem (by omega)⟩
   refine ss (bT hT (k:=i) (dY .head) rfl rfl rfl rfl rfl hll.symm rfl (by omega)) ?_;refine sp hT ?_;refine cZ hT (k:=i) (fo:=0) (y':=(⟨-1,x8.to_⟩:cH)) .head rfl rfl rfl rfl rfl rfl rfl rfl rfl hx9 rfl ?_;refine iV<|bZ<|bH<|bL<|sp hT ?_;refine cJ (z':=(((i+1):Nat):Int)) (fN (by omega) (by omega)) ?_;refine sp hT ?_;refine nn ?_;exact cD (i+1,(li.set i (⟨-1,x8.to_⟩:cH))) (by dsimp only;omega) ⟨rfl,trivial⟩ ⟨rfl,rfl,rfl,rfl,trivial⟩ (.cons .head (.cons .head (.cons .head .nil))) ⟨Has.pure (⟨by dsimp only;omega,live_yes hinv4.2 (dE hx5) hx9 (by first | exact .inl (by show 0≤iJ.input _;omega) | exact .inr ‹_›)⟩),trivial⟩ (bG.drop 3)
  refine bR<|bZ<|bH<|bL<|sp hT ?_;refine cJ (z':=(((i+1):Nat):Int)) (fN (by omega) (by omega)) ?_;refine sp hT ?_;refine nn ?_;exact cD (i+1,li) (by dsimp only;omega) ⟨rfl,trivial⟩ ⟨rfl,rfl,rfl,rfl,trivial⟩ (.cons .head (.cons .head (.cons .head .nil))) ⟨Has.pure (⟨by dsimp only;omega,live_no hinv4.2 (dE hx5) (by show iJ.input _<0;omega) ‹_›⟩),trivial⟩ (bG.drop 3)
 have hc25:=Int.not_lt.1 (of_decide_eq_false hc25);refine dL<|cE<|cE<|dM<|bH<|bM<|sr<|sp hT ?_;refine ss (ldO hT (sC kT2)) ?_;refine sp2 hT ?_;refine nn<|bW<|cV (ι:=Nat×List cH×List Bool) [(1,_),(3,_),(4,_),(46,_),(47,_)] ⟨rfl,rfl,rfl,rfl,rfl,trivial⟩ (fun⟨k,li,dn⟩=>[(48,.int .i64 (k:Nat))]) (fun⟨k,li,dn⟩=>[fP.row (.slice LA c.bufs.list.length lcp) 55 li,gM.row (.slice (some ⟨b3,0,none⟩) c.bufs.list.length c.bufs.list.length) 4 dn]) (fun⟨k,li,dn⟩=>[bF.pure (k≤c.steps.list.length∧StepI c.c k li dn r)]) (fun⟨k,li,dn⟩=>c.steps.list.length-k) (0,li,List.replicate c.bufs.list.length false) ⟨rfl,trivial⟩ (.cons .head (.cons .head .nil)) ⟨Has.pure (⟨by omega,by rw [←hR,←hnb];exact step_start hinv4.2 (by omega)⟩),trivial⟩ ?_;rintro⟨k,li,dn⟩;dsimp only;refine cQ (Has.of mT0) fun hinv10=>?_;have hl2:li.length=c.bufs.list.length:=by rw [hinv10.2.1];exact hnb
 have hd2:dn.length=c.bufs.list.length:=by rw [hinv10.2.2.1];exact hnb
 refine sr<|sp hT ?_;refine nn<|bM<|bQ rfl (fun hc49=>?_) (fun hc49=>?_)
 ·have hc49:=of_decide_eq_true hc49;refine bR<|bH<|bM<|bW<|sr<|sp hT ?_;refine cR (uF.sl (.slice c.steps.addr c.steps.list.length c.steps.cap) c.steps.list) (tR (nV (Has.of mT3))) ?_
  obtain⟨x10,hx11⟩: ∃x',c.steps.list[k]?=some x':=⟨_,List.getElem?_eq_getElem (by omega)⟩
  refine ss (bT hT (k:=k) (bI (Has.of mT0)) rfl rfl rfl rfl rfl rfl rfl (by omega)) ?_;refine ss (gG hT (cF.knows (bI (Has.of mT0)) (k:=k) (x:=x10) hx11 0) rfl rfl rfl rfl rfl) ?_;refine jQ rfl rfl rfl rfl lX rfl fun b12=>?_;refine sp hT ?_;refine sto hT .head ?_;refine nn<|bM<|bM ?_;obtain⟨hb0,hb1,hop⟩:=hst x10.c (List.mem_of_getElem? (fE hx11))
  replace hb0:0≤x10.buf:=hb0
  replace hb1:x10.buf<(c.c.bufs.length:Nat):=hb1
  have hul:=uW x10.ops.list;refine bL<|sp hT ?_;refine ss (ldO hT (kwO5 .head)) ?_;refine cR (nC x10) (Has.each (sI (nV (Has.of mT4))) (List.mem_of_getElem? hx11)) ?_;refine cR (opE.sl (.slice x10.ops.addr x10.ops.list.length x10.ops.cap) x10.ops.list) (opsF_s (lY (Has.of mT0))) ?_;refine cQ (opsF_c (lY (Has.of mT1))) fun hz13=>?_;have hz132:=hz13.2;refine dI Tryz.func26 (wA x10.ops.addr x10.ops.cap x10.ops.list (by omega)) rfl rfl .nil ⟨(Has.of mT0),trivial⟩ fun⟨UA,uc⟩=>?_;refine sp2 hT ?_;refine nn<|bW<|cV (ι:=Nat×List cH) [(1,_),(3,_),(4,_),(6,_),(7,_),(46,_),(47,_),(48,_),(55,_),(56,_)] ⟨rfl,rfl,rfl,rfl,rfl,rfl,rfl,rfl,rfl,rfl,trivial⟩ (fun⟨j,lj⟩=>[(57,.int .i64 (j:Nat))]) (fun⟨j,lj⟩=>[fP.row (.slice LA c.bufs.list.length lcp) 55 lj]) (fun⟨j,lj⟩=>[bF.pure (j≤(usesV x10.ops.list).length∧lj.length=c.bufs.list.length∧UseI (k:Nat) (usesV x10.ops.list) j (((usesV x10.ops.list).map Int.toNat).foldl (dD (k:Nat)) (lc li)) lj)]) (fun⟨j,lj⟩=>(usesV x10.ops.list).length-j) (0,li) ⟨rfl,trivial⟩ (.cons kT1 .nil) ⟨Has.pure (⟨by omega,hl2,rfl⟩),trivial⟩ ?_;rintro⟨j,lj⟩;dsimp only;refine cQ (Has.of mT0) fun hinv13=>?_;have hl3:=hinv13.2.1;refine sr<|sp hT ?_;refine nn<|bM<|bQ rfl (fun hc58=>?_) (fun hc58=>?_)
  ·have hc58:=of_decide_eq_true hc58;refine bR<|bH<|bM<|bW<|sr ?_
   obtain⟨x14,hx15⟩: ∃x',(usesV x10.ops.list)[j]?=some x':=⟨_,List.getElem?_eq_getElem (by omega)⟩
   refine ss (bT hT (k:=j) (bI (Has.of mT1)) rfl rfl rfl rfl rfl rfl rfl (by omega)) ?_;refine ss (cA hT (cF.knows (bI (Has.of mT1)) (k:=j) (x:=x14) hx15 0) rfl rfl rfl rfl rfl) ?_;refine sp hT ?_;refine nn ?_;have hzz:=uses_in hop (List.mem_of_getElem? hx15);refine bL<|sp3 hT ?_
   obtain⟨x16,hx17⟩: ∃x',lj[x14.toNat]?=some x':=⟨_,List.getElem?_eq_getElem (by first | omega | (simp only [List.length_set];omega))⟩
   refine ss (bT hT (k:=x14.toNat) (dY .head) rfl rfl rfl rfl rfl hl3.symm (by omega) (by first | omega | (simp only [List.length_set];omega))) ?_;refine sp hT ?_;refine cZ hT (k:=x14.toNat) (fo:=1) (y':=(⟨x16.from_,(k:Nat)⟩:cH)) .head rfl rfl rfl rfl rfl rfl rfl rfl rfl hx17 rfl ?_;refine iV<|bZ<|bH<|bL<|sp hT ?_;refine cJ (z':=(((j+1):Nat):Int)) (fN (by omega) (by omega)) ?_;refine sp hT ?_;refine nn ?_;exact cD (j+1,(lj.set x14.toNat (⟨x16.from_,(k:Nat)⟩:cH))) (by dsimp only;omega) ⟨rfl,trivial⟩ ⟨rfl,rfl,rfl,rfl,rfl,rfl,rfl,rfl,rfl,rfl,trivial⟩ (.cons .head (.cons .head (.cons .head (.cons .head .nil)))) ⟨Has.pure (⟨by dsimp only;omega,by rw [List.length_set];exact hl3,use_step hinv13.2.2 hx15 hx17⟩),trivial⟩ (bG.drop 1)
  have hc58:=Int.not_lt.1 (of_decide_eq_false hc58);refine dL<|cE<|cE<|dM<|bH<|bM<|sr<|sp2 hT ?_;refine ss (ldO hT (fH kT1)) ?_
  obtain⟨x18,hx19⟩: ∃x',dn[x10.buf.toNat]?=some x':=⟨_,List.getElem?_eq_getElem (by first | omega | (simp only [List.length_set];omega))⟩
  refine ss (bT hT (k:=x10.buf.toNat) (dY kT2) rfl rfl rfl rfl rfl hd2.symm (by omega) (by first | omega | (simp only [List.length_set];omega))) ?_;refine ss (cA hT (cF.knows (dY kT2) (k:=x10.buf.toNat) (x:=x18) hx19 0) rfl rfl rfl rfl rfl) ?_;refine sp hT ?_;refine nn<|bQ rfl (fun hc72=>?_) (fun hc72=>?_)
  ·have hc72:=mU hc72;refine sr<|sp2 hT ?_;refine ss (ldO hT (fH kT1)) ?_;refine ss (bT hT (k:=x10.buf.toNat) (dY kT2) rfl rfl rfl rfl rfl hd2.symm (by omega) (by first | omega | (simp only [List.length_set];omega))) ?_;refine cZ hT (k:=x10.buf.toNat) (fo:=0) (y':=(true)) kT2 rfl rfl rfl rfl rfl rfl rfl rfl rfl hx19 rfl ?_;refine nn<|bL<|sp2 hT ?_;refine ss (ldO hT (fH kT2)) ?_;refine sp hT ?_
   obtain⟨x20,hx21⟩: ∃x',lj[x10.buf.toNat]?=some x':=⟨_,List.getElem?_eq_getElem (by first | omega | (simp only [List.length_set];omega))⟩
   refine ss (bT hT (k:=x10.buf.toNat) (dY kT1) rfl rfl rfl rfl rfl hl3.symm (by omega) (by first | omega | (simp only [List.length_set];omega))) ?_;refine sp hT ?_;refine cZ hT (k:=x10.buf.toNat) (fo:=0) (y':=(⟨(k:Nat),x20.to_⟩:cH)) kT1 rfl rfl rfl rfl rfl rfl rfl rfl rfl hx21 rfl ?_;refine nn<|bL<|sp2 hT ?_;refine ss (ldO hT (fH kT2)) ?_;refine sp hT ?_;refine ss (bT hT (k:=x10.buf.toNat) (dY .head) rfl rfl rfl rfl rfl (by simp only [List.length_set];omega) (by omega) (by first | omega | (simp only [List.length_set];omega))) ?_;refine sp hT ?_;refine cZ hT (k:=x10.buf.toNat) (fo:=1) (y':=(⟨(⟨(k:Nat),x20.to_⟩:cH).from_,(k:Nat)⟩:cH)) .head rfl rfl rfl rfl rfl rfl rfl rfl rfl (List.getElem?_set_self (by first | omega | (simp only [List.length_set];omega))) rfl ?_;refine iV<|bZ<|bH<|bL<|sp hT ?_;refine cJ (z':=(((k+1):Nat):Int)) (fN (by omega) (by omega)) ?_;refine sp hT ?_;refine nn ?_;exact cD (k+1,((lj.set x10.buf.toNat (⟨(k:Nat),x20.to_⟩:cH)).set x10.buf.toNat (⟨(⟨(k:Nat),x20.to_⟩:cH).from_,(k:Nat)⟩:cH)),(dn.set x10.buf.toNat (true))) (by dsimp only;omega) ⟨rfl,trivial⟩ ⟨rfl,rfl,rfl,rfl,rfl,trivial⟩ (.cons .head (.cons .head (.cons kT1 .nil))) ⟨Has.pure (⟨by dsimp only;omega,uY hinv10.2 (fE hx11) (made_new hinv13.2.2 (by omega) rfl (show dn[_]?=some false by rw [hx19];simp_all) hx21) rfl⟩),trivial⟩ (bG.drop 6)
  have hc72:=mM hc72;refine bR<|bH<|bL<|sp2 hT ?_;refine ss (ldO hT (fH kT1)) ?_;refine sp hT ?_
  obtain⟨x22,hx23⟩: ∃x',lj[x10.buf.toNat]?=some x':=⟨_,List.getElem?_eq_getElem (by first | omega | (simp only [List.length_set];omega))⟩
  refine ss (bT hT (k:=x10.buf.toNat) (dY .head) rfl rfl rfl rfl rfl hl3.symm (by omega) (by first | omega | (simp only [List.length_set];omega))) ?_;refine sp hT ?_;refine cZ hT (k:=x10.buf.toNat) (fo:=1) (y':=(⟨x22.from_,(k:Nat)⟩:cH)) .head rfl rfl rfl rfl rfl rfl rfl rfl rfl hx23 rfl ?_;refine iV<|bZ<|bH<|bL<|sp hT ?_;refine cJ (z':=(((k+1):Nat):Int)) (fN (by omega) (by omega)) ?_;refine sp hT ?_;refine nn ?_;exact cD (k+1,(lj.set x10.buf.toNat (⟨x22.from_,(k:Nat)⟩:cH)),dn) (by dsimp only;omega) ⟨rfl,trivial⟩ ⟨rfl,rfl,rfl,rfl,rfl,trivial⟩ (.cons .head (.cons kT1 (.cons kT1 .nil))) ⟨Has.pure (⟨by dsimp only;omega,uY hinv10.2 (fE hx11) (made_old hinv13.2.2 (by omega) rfl (show dn[_]?=some true by rw [hx19];simp_all) hx23).1 (made_old (y:=_) hinv13.2.2 (by omega) rfl (show dn[_]?=some true by rw [hx19];simp_all) hx23).2⟩),trivial⟩ (bG.drop 6)
 have hc49:=Int.not_lt.1 (of_decide_eq_false hc49);refine dL<|cE<|cE<|dM<|bH<|bM<|sr<|sp hT ?_;refine ss (ldO hT (mJ kT2)) ?_;refine sp2 hT ?_;refine nn<|bW<|cV (ι:=Nat×List cH) [(1,_),(3,_),(91,_),(92,_)] ⟨rfl,rfl,rfl,rfl,trivial⟩ (fun⟨j,lo⟩=>[(93,.int .i64 (j:Nat))]) (fun⟨j,lo⟩=>[fP.row (.slice LA c.bufs.list.length lcp) 55 lo]) (fun⟨j,lo⟩=>[bF.pure (j≤c.outs.list.length∧OutI c.c j lo r)]) (fun⟨j,lo⟩=>c.outs.list.length-j) (0,li) ⟨rfl,trivial⟩ (.cons .head .nil) ⟨Has.pure (⟨by omega,hinv10.2.1,step_end hinv10.2 (by omega)⟩),trivial⟩ ?_;rintro⟨j,lo⟩;dsimp only;refine cQ (Has.of mT0) fun hinv23=>?_;have hl4:lo.length=c.bufs.list.length:=by rw [hinv23.2.1];exact hnb
 refine sr<|sp hT ?_;refine nn<|bM<|bQ rfl (fun hc94=>?_) (fun hc94=>?_)
 ·have hc94:=of_decide_eq_true hc94;refine bR<|bH<|bM<|bW<|sr<|cR (iC.sl (.slice c.outs.addr c.outs.list.length c.outs.cap) c.outs.list) (rY (rV (Has.of mT4))) ?_
  obtain⟨x24,hx25⟩: ∃x',c.outs.list[j]?=some x':=⟨_,List.getElem?_eq_getElem (by omega)⟩
  refine ss (bT hT (k:=j) (bI (Has.of mT0)) rfl rfl rfl rfl rfl rfl rfl (by omega)) ?_;refine ss (cA hT (cF.knows (bI (Has.of mT0)) (k:=j) (x:=x24) hx25 0) rfl rfl rfl rfl rfl) ?_;refine sp hT ?_;refine nn ?_;have hzz:=hou x24 (List.mem_of_getElem? hx25);refine bL<|sp3 hT ?_;refine ss (ldO hT (sC kT2)) ?_;refine sp hT ?_
  obtain⟨x26,hx27⟩: ∃x',lo[x24.toNat]?=some x':=⟨_,List.getElem?_eq_getElem (by first | omega | (simp only [List.length_set];omega))⟩
  refine ss (bT hT (k:=x24.toNat) (dY .head) rfl rfl rfl rfl rfl hl4.symm (by omega) (by first | omega | (simp only [List.length_set];omega))) ?_;refine sp hT ?_;refine cZ hT (k:=x24.toNat) (fo:=1) (y':=(⟨x26.from_,(c.steps.list.length:Nat)⟩:cH)) .head rfl rfl rfl rfl rfl rfl rfl rfl rfl hx27 rfl ?_;refine iV<|bZ<|bH<|bL<|sp hT ?_;refine cJ (z':=(((j+1):Nat):Int)) (fN (by omega) (by omega)) ?_;refine sp hT ?_;refine nn ?_;exact cD (j+1,(lo.set x24.toNat (⟨x26.from_,(c.steps.list.length:Nat)⟩:cH))) (by dsimp only;omega) ⟨rfl,trivial⟩ ⟨rfl,rfl,rfl,rfl,trivial⟩ (.cons .head (.cons .head (.cons .head .nil))) ⟨Has.pure (⟨by dsimp only;omega,out_stepN hns hinv23.2 hx25 hx27⟩),trivial⟩ (bG.drop 2)
 have hc94:=Int.not_lt.1 (of_decide_eq_false hc94);refine dL<|cE<|cE<|dM<|bH<|sr<|sp2 hT ?_;refine nn<|bK ?_;have hlv:=out_end hinv23.2 (by omega);subst hlv;exact bC (LA,lcp) rfl (bJ rfl) (.cons .head .nil) trivial rfl
def kU (c:iG):List cH:=if dV c.c=true then lv (livesC c.c) else []
set_option maxRecDepth 100000 in
theorem tC(c:iG):fB Tryz.prog 18 [.agg #[.int .i64 c.vars,.slice c.bufs.addr c.bufs.list.length c.bufs.cap,.slice c.steps.addr c.steps.list.length c.steps.cap,.slice c.outs.addr c.outs.list.length c.outs.cap]] [] [mH c,bF.cells 0 0 [.int .i64 0,.int .i64 (-1)]] (fun(x:Option Addr×Nat)=> .tuple #[.slice x.1 (kU c).length x.2,.int .i64 (if dV c.c=true then 0 else 100)]) (fun(x:Option Addr×Nat)=>[fP.row (.slice x.1 (kU c).length x.2) 55 (kU c)]) (fun _=>[]):=by
 have hT:=cL;generalize hV:kU c=V;refine cU Tryz.func18 rfl Tryz.ntmps18 rfl ?_;intro β hM;refine sr<|jO rfl rfl rfl rfl rfl rfl fun b1=>?_;refine sp2 hT ?_;refine nn<|bM<|sr<|ss (ldN hT (hE .head)) ?_;refine dI Tryz.func25 (sD c) rfl rfl .nil ⟨(Has.of mT0),trivial⟩ fun _=>?_;refine sp hT ?_;refine nn<|bQ rfl (fun hc6=>?_) (fun hc6=>?_)
 ·have hc6:=mU hc6;refine sr<|sp2 hT ?_;refine nn<|bK<|bO ?_;have hr:dV c.c=false:=by simp_all
  obtain rfl:V=[]:=by rw [←hV];simp [kU,hr]
  refine oO (t:=55) fP ?_;exact at_res2 (none,0) rfl (bJ rfl) (bJ rfl) (.cons .head .nil) trivial (by rw [hr];rfl)
 have hc6:=mM hc6;refine bR<|bH<|sr<|ss (ldN hT (hE .head)) ?_;have hr:dV c.c=true:=by simp_all
 have hVe:V=lv (livesC c.c):=by rw [←hV];simp [kU,hr]
 have hVl:V.length=c.bufs.list.length:=by rw [hVe,lv_len,sR];exact cC _
 subst hVe;refine dI Tryz.func43 (lives_spec c hr) rfl rfl .nil ⟨(Has.of mT0),(Has.of mT1),trivial⟩ fun⟨LA,lcp⟩=>?_;refine sp2 hT ?_;refine nn<|bK ?_;exact at_res2 (LA,lcp) rfl (bJ rfl) (bJ rfl) (by rw [hVl];exact(.cons .head .nil)) trivial (by rw [hVl,hr];rfl)
section
variable {c : iG} (hr : dV c.c = true)
include hr
omit hr in
theorem lv_n:(lv (livesC c.c)).length=c.bufs.list.length:=by
 rw [lv_len,sR];exact cC _
theorem Lives_yes:fB Tryz.prog 18 [.agg #[.int .i64 c.vars,.slice c.bufs.addr c.bufs.list.length c.bufs.cap,.slice c.steps.addr c.steps.list.length c.steps.cap,.slice c.outs.addr c.outs.list.length c.outs.cap]] [] [mH c,bF.cells 0 0 [.int .i64 0,.int .i64 (-1)]]
  (fun x:Option Addr×Nat=> .tuple #[.slice x.1 c.bufs.list.length x.2,.int .i64 0]) (fun x=>[fP.row (.slice x.1 c.bufs.list.length x.2) 55 (lv (livesC c.c))]) (fun _=>[]):=by
 have h:=tC c;have e:kU c=lv (livesC c.c):=by simp [kU,hr]
 simp only [e,lv_n,if_pos hr] at h;exact h
variable {i : Nat} {x : fF} {z : cH} {k : Int}
omit hr in
theorem lv_at{L:List LifeC}{b:Nat}(h:(lv L)[b]?=some z):L[b]?=some z.c:=by
 have h:(L.map LifeC.v)[b]?=some z:=h;rw [List.getElem?_map] at h
 cases hl:L[b]? with
 | none=>rw [hl] at h;cases h
 | some y=>
  rw [hl] at h;cases h;rfl
theorem alive_buf(hx:c.steps.list[i]?=some x)(hz:(lv (livesC c.c))[x.buf.toNat]?=some z):z.from_≤i∧(i:Int)≤z.to_:=by
 obtain⟨y,h1,h2,h3⟩:=((qK hr).2.1 i x.c (fE hx)).1;have:=(lv_at hz).symm.trans h1;injection this with this
 subst this;exact⟨h2,h3⟩
theorem alive_use(hx:c.steps.list[i]?=some x)(hk:k∈usesV x.ops.list)(hz:(lv (livesC c.c))[k.toNat]?=some z):z.from_<i∧(i:Int)≤z.to_:=by
 obtain⟨o,ho,h4,e⟩:=nP.1 hk;have hm:k.toNat∈iZ x.c.ops:=List.mem_filterMap.2 ⟨o.c,List.mem_map.2 ⟨o,ho,rfl⟩,by rw [if_pos (show o.c.how=4 from h4),←e];rfl⟩;obtain⟨y,h1,h2,h3⟩:=((qK hr).2.1 i x.c (fE hx)).2 _ hm;have:=(lv_at hz).symm.trans h1;injection this with this
 subst this;exact⟨h2,h3⟩
theorem alive_out(hk:k∈c.outs.list)(hz:(lv (livesC c.c))[k.toNat]?=some z):z.to_=(c.steps.list.length:Nat):=by
 obtain⟨y,h1,h2⟩:=(qK hr).2.2 k hk;have:=(lv_at hz).symm.trans h1;injection this with this
 subst this;rw [show z.to_=z.c.to_ from rfl,h2];exact congrArg Nat.cast (fS _)
end
theorem Lives_no{c:iG}(hr:dV c.c=false):fB Tryz.prog 18 [.agg #[.int .i64 c.vars,.slice c.bufs.addr c.bufs.list.length c.bufs.cap,.slice c.steps.addr c.steps.list.length c.steps.cap,.slice c.outs.addr c.outs.list.length c.outs.cap]] [] [mH c,bF.cells 0 0 [.int .i64 0,.int .i64 (-1)]]
  (fun x:Option Addr×Nat=> .tuple #[.slice x.1 0 x.2,.int .i64 100]) (fun x=>[fP.row (.slice x.1 0 x.2) 55 []]) (fun _=>[]):=by
 have h:=tC c;have e:kU c=[]:=by simp [kU,hr]
 have e2: ¬dV c.c=true:=by simp [hr]
 simp only [e,List.length_nil,if_neg e2] at h;exact h
set_option maxRecDepth 100000 in
theorem aliveY_spec(c:iG)(hr:dV c.c=true):fB Tryz.prog 8 [.agg #[.int .i64 c.vars,.slice c.bufs.addr c.bufs.list.length c.bufs.cap,.slice c.steps.addr c.steps.list.length c.steps.cap,.slice c.outs.addr c.outs.list.length c.outs.cap]] [] [tP,mH c] (fun(_:Unit)=> .bool true) (fun _=>[]) (fun _=>[]):=by
 have hT:=cL;obtain⟨hbz,hst,hou⟩:=right_in hr;have hnb:c.c.bufs.length=c.bufs.list.length:=cC _;have hns:c.c.steps.length=c.steps.list.length:=fS _;have hno:c.c.outs.length=c.outs.list.length:=rfl;have hln:=lv_n (c:=c);refine cU Tryz.func8 rfl Tryz.ntmps8 rfl ?_;intro β hM;refine sr<|jO rfl rfl rfl rfl rfl rfl fun b1=>?_;refine sp hT ?_;refine nn<|sr<|dI Tryz.func17 pV rfl rfl .nil ⟨(Has.of mT0),trivial⟩ fun _=>?_;refine sp hT ?_;refine nn<|sr<|ss (ldN hT (hE .head)) ?_;refine cR (bF.cells 0 0 [.int .i64 0,.int .i64 (-1)]) (none_of (Has.of mT0)) ?_;refine dI Tryz.func18 (Lives_yes hr) rfl rfl .nil ⟨(Has.of mT2),(Has.of mT0),trivial⟩ fun⟨LA,lcp⟩=>?_;refine vC .head ?_;refine sp4 hT ?_;refine sp hT ?_;refine nn<|bM<|sr<|sp2 hT ?_;refine cP (t':=false) (by decide) ?_;refine cP (t':=false) (by decide) ?_;refine sp4 hT ?_;refine ss (ldO hT (fH .head)) ?_;refine sp2 hT ?_;refine cP (t':=false) (by simp) ?_;refine sp hT ?_;refine nn<|jK rfl rfl ?_;refine bR<|bH<|bM<|sr<|sp hT ?_;refine ss (ldO hT (sC .head)) ?_;refine sp2 hT ?_;refine nn<|bW<|cV (ι:=Nat) [(1,_),(3,_),(4,_),(40,_)] ⟨rfl,rfl,rfl,rfl,trivial⟩ (fun i=>[(41,.int .i64 (i:Nat))]) (fun _=>[]) (fun i=>[bF.pure (i≤c.steps.list.length)]) (fun i=>c.steps.list.length-i) 0 ⟨rfl,trivial⟩ .nil ⟨Has.pure ((by omega)),trivial⟩ ?_;rintro i;refine cQ (Has.of mT0) fun hinv6=>?_;refine sr<|sp hT ?_;refine nn<|bM<|bQ rfl (fun hc42=>?_) (fun hc42=>?_)
 ·have hc42:=of_decide_eq_true hc42;refine bR<|bH<|bM<|bW<|sr<|sp2 hT ?_;refine nn<|sr<|sp hT ?_;refine ss (ldO hT (sC .head)) ?_;refine sp hT ?_;refine cR (uF.sl (.slice c.steps.addr c.steps.list.length c.steps.cap) c.steps.list) (tR (nV (Has.of mT4))) ?_
  obtain⟨x2,hx3⟩: ∃x',c.steps.list[i]?=some x':=⟨_,List.getElem?_eq_getElem (by omega)⟩
  refine ss (bT hT (k:=i) (bI (Has.of mT0)) rfl rfl rfl rfl rfl rfl rfl (by omega)) ?_;refine sp hT ?_;refine ss (cA hT (cF.knows (bI (Has.of mT0)) (k:=i) (x:=x2) hx3 1) rfl rfl rfl rfl rfl) ?_;refine sp hT ?_;refine nn<|bM<|bM ?_;obtain⟨hb0,hb1,hop⟩:=hst x2.c (List.mem_of_getElem? (fE hx3))
  replace hb0:0≤x2.buf:=hb0
  replace hb1:x2.buf<(c.c.bufs.length:Nat):=hb1
  refine bL<|sp2 hT ?_
  obtain⟨x4,hx5⟩: ∃x',(lv (livesC c.c))[x2.buf.toNat]?=some x':=⟨_,List.getElem?_eq_getElem (by first | omega | (simp only [List.length_set];omega))⟩
  refine ss (bT hT (k:=x2.buf.toNat) (bI (Has.of mT2)) rfl rfl rfl rfl rfl hln.symm (by omega) (by first | omega | (simp only [List.length_set];omega))) ?_;have hal:=alive_buf hr hx3 hx5;refine sp hT ?_;refine ss (cA hT (cF.knows (bI (Has.of mT2)) (k:=x2.buf.toNat) (x:=x4) hx5 0) rfl rfl rfl rfl rfl) ?_;refine sp2 hT ?_;refine cP (t':=false) (decide_eq_false (by omega)) ?_;refine sp3 hT ?_;refine ss (bT hT (k:=x2.buf.toNat) (bI (Has.of mT2)) rfl rfl rfl rfl rfl hln.symm (by omega) (by first | omega | (simp only [List.length_set];omega))) ?_;refine sp hT ?_;refine ss (cA hT (cF.knows (bI (Has.of mT2)) (k:=x2.buf.toNat) (x:=x4) hx5 1) rfl rfl rfl rfl rfl) ?_;refine sp2 hT ?_;refine cP (t':=false) (decide_eq_false (by omega)) ?_;refine sp hT ?_;refine nn<|jK rfl rfl ?_;refine bR<|bH<|sr<|sp hT ?_;refine ss (ldO hT (sC .head)) ?_;refine sp hT ?_;refine ss (bT hT (k:=i) (bI (Has.of mT0)) rfl rfl rfl rfl rfl rfl rfl (by omega)) ?_;refine sp hT ?_;refine ss (cA hT (cF.knows (bI (Has.of mT0)) (k:=i) (x:=x2) hx3 5) rfl rfl rfl rfl rfl) ?_;refine cR (nC x2) (Has.each (sI (nV (Has.of mT5))) (List.mem_of_getElem? hx3)) ?_;refine cR (opE.sl (.slice x2.ops.addr x2.ops.list.length x2.ops.cap) x2.ops.list) (opsF_s (lY (Has.of mT0))) ?_;refine cQ (opsF_c (lY (Has.of mT1))) fun hz6=>?_;have hz62:=hz6.2;have hul:=uW x2.ops.list;refine dI Tryz.func26 (wA x2.ops.addr x2.ops.cap x2.ops.list (by omega)) rfl rfl .nil ⟨(Has.of mT0),trivial⟩ fun⟨UA,uc⟩=>?_;refine sp2 hT ?_;refine nn<|bW<|cV (ι:=Nat) [(1,_),(3,_),(4,_),(6,_),(7,_),(40,_),(41,_),(58,_),(59,_),(60,_),(61,_),(62,_),(63,_),(64,_),(72,_),(73,_)] ⟨rfl,rfl,rfl,rfl,rfl,rfl,rfl,rfl,rfl,rfl,rfl,rfl,rfl,rfl,rfl,rfl,trivial⟩ (fun j=>[(74,.int .i64 (j:Nat))]) (fun _=>[]) (fun j=>[bF.pure (j≤(usesV x2.ops.list).length)]) (fun j=>(usesV x2.ops.list).length-j) 0 ⟨rfl,trivial⟩ .nil ⟨Has.pure ((by omega)),trivial⟩ ?_;rintro j;refine cQ (Has.of mT0) fun hinv12=>?_;refine sr<|sp hT ?_;refine nn<|bM<|bQ rfl (fun hc75=>?_) (fun hc75=>?_)
  ·have hc75:=of_decide_eq_true hc75;refine bR<|bH<|bM<|bW<|sr ?_
   obtain⟨x7,hx8⟩: ∃x',(usesV x2.ops.list)[j]?=some x':=⟨_,List.getElem?_eq_getElem (by omega)⟩
   refine ss (bT hT (k:=j) (bI (Has.of mT1)) rfl rfl rfl rfl rfl rfl rfl (by omega)) ?_;refine ss (cA hT (cF.knows (bI (Has.of mT1)) (k:=j) (x:=x7) hx8 0) rfl rfl rfl rfl rfl) ?_;refine sp hT ?_;refine nn<|bM ?_;have hzz:=uses_in hop (List.mem_of_getElem? hx8);refine bL<|sp2 hT ?_
   obtain⟨x9,hx10⟩: ∃x',(lv (livesC c.c))[x7.toNat]?=some x':=⟨_,List.getElem?_eq_getElem (by first | omega | (simp only [List.length_set];omega))⟩
   refine ss (bT hT (k:=x7.toNat) (bI (Has.of mT6)) rfl rfl rfl rfl rfl hln.symm (by omega) (by first | omega | (simp only [List.length_set];omega))) ?_;have hal2:=alive_use hr hx3 (List.mem_of_getElem? hx8) hx10;refine sp hT ?_;refine ss (cA hT (cF.knows (bI (Has.of mT6)) (k:=x7.toNat) (x:=x9) hx10 0) rfl rfl rfl rfl rfl) ?_;refine sp2 hT ?_;refine cP (t':=false) (decide_eq_false (by omega)) ?_;refine sp3 hT ?_;refine ss (bT hT (k:=x7.toNat) (bI (Has.of mT6)) rfl rfl rfl rfl rfl hln.symm (by omega) (by first | omega | (simp only [List.length_set];omega))) ?_;refine sp hT ?_;refine ss (cA hT (cF.knows (bI (Has.of mT6)) (k:=x7.toNat) (x:=x9) hx10 1) rfl rfl rfl rfl rfl) ?_;refine sp2 hT ?_;refine cP (t':=false) (decide_eq_false (by omega)) ?_;refine sp4 hT ?_;refine ss (bT hT (k:=x7.toNat) (bI (Has.of mT6)) rfl rfl rfl rfl rfl hln.symm (by omega) (by first | omega | (simp only [List.length_set];omega))) ?_;refine sp hT ?_;refine ss (cA hT (cF.knows (bI (Has.of mT6)) (k:=x7.toNat) (x:=x9) hx10 0) rfl rfl rfl rfl rfl) ?_;refine sp2 hT ?_;refine cP (t':=false) (decide_eq_false (by omega)) ?_;refine sp hT ?_;refine sk3 ?_;refine sp2 hT ?_;refine nn<|jK rfl rfl ?_;refine bR<|bZ<|bH<|bL<|sp hT ?_;refine cJ (z':=(((j+1):Nat):Int)) (fN (by omega) (by omega)) ?_;refine sp hT ?_;refine nn ?_;exact cD (j+1) (by omega) ⟨rfl,trivial⟩ ⟨rfl,rfl,rfl,rfl,rfl,rfl,rfl,rfl,rfl,rfl,rfl,rfl,rfl,rfl,rfl,rfl,trivial⟩ (.cons .head .nil) ⟨Has.pure ((by omega)),trivial⟩ (bG.drop 1)
  have hc75:=Int.not_lt.1 (of_decide_eq_false hc75);refine dL<|cE<|cE<|dM<|bZ<|bH<|bL<|sp hT ?_;refine cJ (z':=(((i+1):Nat):Int)) (fN (by omega) (by omega)) ?_;refine sp hT ?_;refine nn ?_;exact cD (i+1) (by omega) ⟨rfl,trivial⟩ ⟨rfl,rfl,rfl,rfl,trivial⟩ (.cons .head .nil) ⟨Has.pure ((by omega)),trivial⟩ (bG.drop 6)
 have hc42:=Int.not_lt.1 (of_decide_eq_false hc42);refine dL<|cE<|cE<|dM<|bH<|bM<|sr<|sp hT ?_;refine ss (ldO hT (mJ .head)) ?_;refine sp2 hT ?_;refine nn<|bW<|cV (ι:=Nat) [(1,_),(3,_),(4,_),(111,_),(112,_)] ⟨rfl,rfl,rfl,rfl,rfl,trivial⟩ (fun j=>[(113,.int .i64 (j:Nat))]) (fun _=>[]) (fun j=>[bF.pure (j≤c.outs.list.length)]) (fun j=>c.outs.list.length-j) 0 ⟨rfl,trivial⟩ .nil ⟨Has.pure ((by omega)),trivial⟩ ?_;rintro j;refine cQ (Has.of mT0) fun hinv19=>?_;refine sr<|sp hT ?_;refine nn<|bM<|bQ rfl (fun hc114=>?_) (fun hc114=>?_)
 ·have hc114:=of_decide_eq_true hc114;refine bR<|bH<|bM<|bW<|sr<|cR (iC.sl (.slice c.outs.addr c.outs.list.length c.outs.cap) c.outs.list) (rY (rV (Has.of mT5))) ?_
  obtain⟨x11,hx12⟩: ∃x',c.outs.list[j]?=some x':=⟨_,List.getElem?_eq_getElem (by omega)⟩
  refine ss (bT hT (k:=j) (bI (Has.of mT0)) rfl rfl rfl rfl rfl rfl rfl (by omega)) ?_;refine ss (cA hT (cF.knows (bI (Has.of mT0)) (k:=j) (x:=x11) hx12 0) rfl rfl rfl rfl rfl) ?_;refine sp hT ?_;refine nn<|bM ?_;have hzz:=hou x11 (List.mem_of_getElem? hx12);refine kY _ _ [(true,0),(true,1),(true,2),(true,3),(true,4),(true,5),(true,6),(true,7),(true,8)] jT (by decide+kernel) (.cons .head .nil) bG.self ?_;refine puM hT ?_;refine puM hT ?_
  obtain⟨x13,hx14⟩: ∃x',(lv (livesC c.c))[x11.toNat]?=some x':=⟨_,List.getElem?_eq_getElem (by first | omega | (simp only [List.length_set];omega))⟩
  refine stM rfl (bT hT (k:=x11.toNat) (bI (Has.of mT3)) rfl rfl rfl rfl rfl hln.symm (by omega) (by first | omega | (simp only [List.length_set];omega))) ?_;have hal3:=alive_out hr (List.mem_of_getElem? hx12) hx14;refine puM hT ?_;refine stM rfl (cA hT (cF.knows (bI (Has.of mT3)) (k:=x11.toNat) (x:=x13) hx14 1) rfl rfl rfl rfl rfl) ?_;refine puM hT ?_;refine stM rfl (ldO hT (sC .head)) ?_;refine puM hT ?_;refine puM hT ?_;refine cP (t':=false) (by simp [hal3]) ?_;refine dK<|bH<|jK rfl rfl ?_;refine bR<|bZ<|bH<|bL<|sp hT ?_;refine cJ (z':=(((j+1):Nat):Int)) (fN (by omega) (by omega)) ?_;refine sp hT ?_;refine nn ?_;exact cD (j+1) (by omega) ⟨rfl,trivial⟩ ⟨rfl,rfl,rfl,rfl,rfl,trivial⟩ (.cons .head .nil) ⟨Has.pure ((by omega)),trivial⟩ (bG.drop 2)
 have hc114:=Int.not_lt.1 (of_decide_eq_false hc114);refine dL<|cE<|cE<|dM<|bH<|sr<|sp2 hT ?_;refine nn<|bK ?_;exact bC () rfl (bJ rfl) .nil trivial (rfl)
set_option maxRecDepth 100000 in
theorem aliveN_spec(c:iG)(hr:dV c.c=false):fB Tryz.prog 8 [.agg #[.int .i64 c.vars,.slice c.bufs.addr c.bufs.list.length c.bufs.cap,.slice c.steps.addr c.steps.list.length c.steps.cap,.slice c.outs.addr c.outs.list.length c.outs.cap]] [] [tP,mH c] (fun(_:Unit)=> .bool true) (fun _=>[]) (fun _=>[]):=by
 have hT:=cL;refine cU Tryz.func8 rfl Tryz.ntmps8 rfl ?_;intro β hM;refine sr<|jO rfl rfl rfl rfl rfl rfl fun b1=>?_;refine sp hT ?_;refine nn<|sr<|dI Tryz.func17 pV rfl rfl .nil ⟨(Has.of mT0),trivial⟩ fun _=>?_;refine sp hT ?_;refine nn<|sr<|ss (ldN hT (hE .head)) ?_;refine cR (bF.cells 0 0 [.int .i64 0,.int .i64 (-1)]) (none_of (Has.of mT0)) ?_;refine dI Tryz.func18 (Lives_no hr) rfl rfl .nil ⟨(Has.of mT2),(Has.of mT0),trivial⟩ fun⟨LA,lcp⟩=>?_;refine sp4 hT ?_;refine sp hT ?_;refine nn<|bM<|sr<|sp2 hT ?_;refine cP (t':=true) (by decide) ?_;refine cP (t':=true) (by decide) ?_;refine sp hT ?_;refine sk4 ?_;refine sk2 ?_;refine sp hT ?_;refine nn<|cO rfl rfl ?_;refine sr<|sp4 hT ?_;refine cP (t':=true) (by decide) ?_;refine cP (t':=true) (by decide) ?_;refine sp2 hT ?_;refine ss (ldN hT (hE kT1)) ?_;refine dI Tryz.func25 (sD c) rfl rfl .nil ⟨(Has.of mT2),trivial⟩ fun _=>?_;refine cP (t':=false) (hr) ?_;refine sp3 hT ?_;refine nn<|bK<|bO ?_;exact bC () rfl (bJ rfl) .nil trivial (rfl)
theorem uK(c:iG):fB Tryz.prog 8 [.agg #[.int .i64 c.vars,.slice c.bufs.addr c.bufs.list.length c.bufs.cap,.slice c.steps.addr c.steps.list.length c.steps.cap,.slice c.outs.addr c.outs.list.length c.outs.cap]] [] [tP,mH c] (fun _:Unit=> .bool true) (fun _=>[]) (fun _=>[]):=by
 cases hr:dV c.c with
 | true=>exact aliveY_spec c hr
 | false=>exact aliveN_spec c hr
end Go.Proofs.YtofjmphlpdhohaaGreatDoor
