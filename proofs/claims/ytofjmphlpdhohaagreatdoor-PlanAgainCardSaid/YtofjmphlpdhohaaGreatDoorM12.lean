/- Texts of one proof, one behind the other: PlanB, RefC, LifeQ, PlanC, PlanD, RefD, RefE, EqK. -/
import Derived.Test.YtofjmphlpdhohaaGreatDoorM11
import Derived.Test.YtofjmphlpdhohaaGreatDoorM8
import Derived.Test.YtofjmphlpdhohaaGreatDoorShelfB
import Derived.Test.YtofjmphlpdhohaaGreatDoorM7
namespace Go.Proofs.YtofjmphlpdhohaaGreatDoor
open Go.RowKit
def xT (k:Int):List Int→Int→Int
 | [],_=> -1
 | s::r,i=>if k=s then i else xT k r (i+1)
section
variable {k x : Int} {l : List Int} {i : Nat} {r : Int}
theorem tF(h:r=xT k (l.drop i) i)(hx:l[i]?=some x):(k=x→r=i)∧(k≠x→r=xT k (l.drop (i+1)) ((i+1:Nat):Int)):=by
 rw [pB hx,xT] at h;refine⟨fun e=>by rw [if_pos e] at h;exact h,fun e=>by rw [if_neg e] at h;rw [h];rfl⟩
theorem idxI_end(h:r=xT k (l.drop i) i)(hi:l.length≤i):r= -1:=by
 rw [List.drop_of_length_le hi] at h;exact h
end
theorem pO(k:Int): ∀(l:List Int) (i:Int),0≤i→decide (0≤xT k l i)=l.contains k
 | [],i,_=>rfl
 | s::r,i,h=>by
  rw [xT,List.contains_cons]
  by_cases e:k=s
  ·subst e;simp [h]
  ·rw [if_neg e,pO k r (i+1) (by omega)];simp [e]
theorem bitsMul_spec(x y:Nat)(hx:x<18446744073709551616)(hy:y<18446744073709551616):cX Tryz.prog 157 [.int .u64 (x:Nat),.int .u64 (y:Nat)] [] [] (fun _:Unit=> .tuple #[.int .u64 ((x*y/18446744073709551616:Nat):Int),.int .u64 ((x*y%18446744073709551616:Nat):Int)]) (fun _=>[]) (fun _=>[]):=
 fun S w s k=>(Tryz.bits_Mul x y hx hy w).mono fun e w' h=>by
  obtain⟨rfl,rfl⟩:=h;exact⟨(),S,rfl,s,fun g hg=>by simp at hg⟩
def nilLife:dJ:=⟨0,0⟩
theorem lifeInfo: ∃i:TypeInfo,Tryz.prog.info? 55=some i∧i.zero=some (.agg #[.int .i64 0,.int .i64 0])∧i.size=2∧i.bytes=16:=by
 have h:(Tryz.prog.info? 55).map (fun i=>(i.zero,i.size,i.bytes))=some (some (.agg #[.int .i64 0,.int .i64 0]),2,16):=by kernel_rfl
 cases hi:Tryz.prog.info? 55 with
 | none=>simp [hi] at h
 | some i=>simp [hi] at h;exact⟨i,rfl,h.1,h.2.1,h.2.2⟩
theorem lifesize:(Tryz.prog.info? 55).map (·.size)=some iP.size:=by kernel_rfl
theorem madeLives: ∀m:Nat,(madeCells (Value.agg #[.int .i64 0,.int .i64 0]).cells (m*2)).toList=iP.all (List.replicate m nilLife):=fun m=>by
 have e: ∀m,iP.all (List.replicate m nilLife)=List.replicate (m*2) (.int .i64 0):=fun m=>by
  induction m with
  | zero=>rfl
  | succ m ih=>rw [List.replicate_succ,show iP.all (nilLife::List.replicate m nilLife)=iP.cells nilLife++iP.all (List.replicate m nilLife) from rfl,ih,show iP.cells nilLife=List.replicate (1*2) (.int .i64 0) from rfl,List.replicate_append_replicate,show(m+1)*2=1*2+m*2 by omega]
 rw [e];unfold madeCells;apply List.ext_getElem
 ·simp
 ·intro i h1 h2;have h3:i%2<2:=Nat.mod_lt _ (by decide)
  rcases (by omega:i%2=0∨i%2=1) with h | h
  ·simp [Value.cells,h]
  ·simp [Value.cells,h]
section
variable {β : fB} {n : Nat} {Γ : Env} {H : List bJ} {F : List bI} {Q : Exit → Act → World → Prop} {ops : Array Oper} {rest : List Oper} {o : Oper} {d : Nat}
theorem at_makeLives{m:Nat}{x y:Operand}(hw:want ops Γ o=some true)(ho:o.op= .makeSlice 48 x y)(hd:o.dst=some d)(hn:Nat.blt d n=true)
  (hx:Γ.ev x=some (.int .i64 (m:Nat))) (hy:Γ.ev y=some (.int .i64 (m:Nat))) (hm:m≤1000000)
  (k: ∀b,At β n ((d,.slice (some ⟨b,0,none⟩) m m)::Γ) (iP.row (.slice (some ⟨b,0,none⟩) m m) 55 (List.replicate m nilLife)::H) F (wpList Tryz.prog ops Q rest)):At β n Γ H F (wpList Tryz.prog ops Q (o::rest)):=by
 obtain⟨i,hi,hz,hs,hb⟩:=lifeInfo;exact bAl (E:=iP) hw ho hd hn hx hy Tryz.underlying48 hi hz hs (by rw [hb];omega) (by simp [maxLen];omega) (madeLives m) (by simp) k
theorem wD{m:Nat}{x y:Operand}(hw:want ops Γ o=some true)(ho:o.op= .makeSlice 51 x y)(hd:o.dst=some d)(hn:Nat.blt d n=true)
  (hx:Γ.ev x=some (.int .i64 (m:Nat))) (hy:Γ.ev y=some (.int .i64 (m:Nat))) (hm:m≤1000000)
  (k: ∀b,At β n ((d,.slice (some ⟨b,0,none⟩) m m)::Γ) (iO.row (.slice (some ⟨b,0,none⟩) m m) 4 (List.replicate m false)::H) F (wpList Tryz.prog ops Q rest)):At β n Γ H F (wpList Tryz.prog ops Q (o::rest)):=by
 obtain⟨i,hi,hz,hs,hb⟩:=bDt;refine bAl (E:=iO) hw ho hd hn hx hy Tryz.underlying51 hi hz hs (by rw [hb];omega) (by simp [maxLen];omega) ?_ (by simp) k
 have e: ∀m,iO.all (List.replicate m false)=List.replicate m (.bool false):=fun m=>by
  induction m with
  | zero=>rfl
  | succ m ih=>rw [List.replicate_succ,List.replicate_succ,←ih];rfl
 rw [e];unfold madeCells;apply List.ext_getElem
 ·simp [iO]
 ·intro i h1 h2;simp [Value.cells,Nat.mod_one]
end
set_option maxRecDepth 100000 in
theorem index_spec(A:Option Addr)(c:Nat)(l:List Int)(hl:l.length≤140737488355328)(k:Int):cX Tryz.prog 158 [.slice A l.length c,.int .i64 k] [] [gC.sl (.slice A l.length c) l] (fun(_:Unit)=> .int .i64 (xT k l 0)) (fun _=>[]) (fun _=>[]):=by
 have hT:=dW;generalize hR:xT k l 0=r;refine cD Tryz.func158 rfl Tryz.ntmps158 rfl ?_;intro β hM;refine sr<|sp hT ?_;refine nn<|bF<|sr<|sp3 hT ?_;refine nn<|bQ<|dH (ι:=Nat) [(0,_),(1,_),(7,_)] ⟨rfl,rfl,rfl,trivial⟩ (fun i=>[(8,.int .i64 (i:Nat))]) (fun _=>[]) (fun i=>[bI.pure (i≤l.length∧r=xT k (l.drop i) i)]) (fun i=>l.length-i) 0 ⟨rfl,trivial⟩ .nil ⟨Has.pure (⟨by omega,hR.symm⟩),trivial⟩ ?_;rintro i;refine bX (Has.of mT0) fun hinv2=>?_;refine sr<|sp hT ?_;refine nn<|bF<|bO rfl (fun hc9=>?_) (fun hc9=>?_)
 ·have hc9:=of_decide_eq_true hc9;refine bM<|bE<|bF<|bQ<|sr<|sp2 hT ?_;refine nn<|sr<|sp3 hT ?_
  obtain⟨x1,hx2⟩: ∃x',l[i]?=some x':=⟨_,List.getElem?_eq_getElem (by omega)⟩
  refine ss (bG hT (k:=i) (bC (Has.of mT1)) rfl rfl rfl rfl rfl rfl rfl (by omega)) ?_;refine ss (bR hT (bV.knows (bC (Has.of mT1)) (k:=i) (x:=x1) hx2 0) rfl rfl rfl rfl rfl) ?_;refine sp hT ?_;refine nn<|bO rfl (fun hc16=>?_) (fun hc16=>?_)
  ·have hc16:=eq_of_beq hc16;refine sr<|sp2 hT ?_;refine nn<|bK<|bW<|bN<|bN<|bW<|bN ?_;have hr:=(tF hinv2.2 hx2).1 (by first | assumption | (symm;assumption));subst hr;exact bL () rfl (rv_tmp rfl) .nil trivial rfl
  have hc16:=beq_eq_false_iff_ne.1 hc16;refine bM<|bU<|bE<|bD<|sp hT ?_;refine bT (z':=(((i+1):Nat):Int)) (cO (by omega) (by omega)) ?_;refine sp hT ?_;refine nn ?_;exact cG (i+1) (by omega) ⟨rfl,trivial⟩ ⟨rfl,rfl,rfl,trivial⟩ .nil ⟨Has.pure (⟨by omega,(tF hinv2.2 hx2).2 ‹_›⟩),trivial⟩ (bH.drop 1)
 have hc9:=Int.not_lt.1 (of_decide_eq_false hc9);refine cS<|bZ<|bZ<|cR<|bE<|sr<|sp hT ?_;refine nn<|bK ?_;have hr:=idxI_end hinv2.2 (by omega);subst hr;exact bL () rfl (rv_tmp rfl) .nil trivial rfl
set_option maxRecDepth 100000 in
theorem bFl(A:Option Addr)(c:Nat)(l:List Int)(hl:l.length≤140737488355328)(k:Int):cX Tryz.prog 95 [.slice A l.length c,.int .i64 k] [] [gC.sl (.slice A l.length c) l] (fun(_:Unit)=> .bool (l.contains k)) (fun _=>[]) (fun _=>[]):=by
 have hT:=dW;refine cD Tryz.func95 rfl Tryz.ntmps95 rfl ?_;intro β hM;refine sr<|sp hT ?_;refine nn<|sr<|sp2 hT ?_;refine cU Tryz.func158 (index_spec A c l hl k) rfl rfl .nil ⟨(Has.of mT0),trivial⟩ fun _=>?_;refine sp2 hT ?_;refine nn<|bK ?_;exact bL () rfl (rv_tmp rfl) .nil trivial (congrArg Value.bool (pO k l 0 (by decide)))
set_option maxRecDepth 100000 in
theorem repeatL_spec(A:Option Addr)(c:Nat)(p:dJ)(n:Nat)(hn:n≤1000000):cX Tryz.prog 94 [.slice A 1 c,.int .i64 (n:Nat)] [] [iP.sl (.slice A 1 c) [p]] (fun(x:Option Addr×Nat)=> .slice x.1 n x.2) (fun(x:Option Addr×Nat)=>[iP.row (.slice x.1 n x.2) 55 (List.replicate n p)]) (fun _=>[]):=by
 have hT:=dW;refine cD Tryz.func94 rfl Tryz.ntmps94 rfl ?_;intro β hM;refine sr<|sp hT ?_;refine nn<|bF<|sr<|sp2 hT ?_;refine dS (t':=false) (decide_eq_false (by omega)) ?_;refine nn<|fM rfl rfl ?_;refine bM<|bE<|sr<|sp3 hT ?_;refine bT (z':=((1:Nat):Int)) rfl ?_;refine sp2 hT ?_;refine bT (z':=((n:Nat):Int)) (conv64 (by omega)) ?_;refine cU Tryz.func157 (bitsMul_spec 1 n (by decide) (by omega)) rfl rfl .nil trivial fun _=>?_;refine at_val (v':= .tuple #[.int .u64 ((0:Nat):Int),.int .u64 ((n:Nat):Int)]) (by rw [Nat.one_mul,Nat.div_eq_of_lt (by omega),Nat.mod_eq_of_lt (by omega)]) ?_;refine sp4 hT ?_;refine sp hT ?_;refine nn<|bF<|sr<|sp2 hT ?_;refine dS (t':=false) (by decide) ?_;refine sp3 hT ?_;refine dS (t':=false) (decide_eq_false (by omega)) ?_;refine sp hT ?_;refine nn<|fM rfl rfl ?_;refine bM<|bE<|sr<|sp2 hT ?_;refine bT (z':=((n:Nat):Int)) (conv63 (by omega)) ?_;refine at_makeLives (m:=n) rfl rfl rfl rfl rfl rfl (by omega) fun b1=>?_;refine sp hT ?_;refine nn<|sr<|sp2 hT ?_;refine at_copyE (E:=iP) (ys:=List.take (Nat.min 1 n) [p]) (q:=0) (bV.preE (bC (Has.of mT0)) _) rfl rfl rfl rfl Tryz.underlying48 lifesize rfl rfl (by simp) rfl (rep_l1 p n) (by rw [rep_l1];have:=min1_le n;omega) .head ?_;have hr1:=rep_first nilLife p n _ rfl;refine bT (z':=((Nat.min 1 n:Nat):Int)) (congrArg Nat.cast (rep_l1 p n)) ?_;refine sp hT ?_;refine nn<|bF<|bQ<|dH (ι:=Nat×List dJ) [(7,_)] ⟨rfl,trivial⟩ (fun⟨i,cur⟩=>[(8,.int .i64 (i:Nat))]) (fun⟨i,cur⟩=>[iP.row (.slice (some ⟨b1,0,none⟩) n n) 55 cur]) (fun⟨i,cur⟩=>[bI.pure (bHg nilLife p n i cur∧(1≤i∨n=0))]) (fun⟨i,cur⟩=>n-i) (Nat.min 1 n,_) ⟨rfl,trivial⟩ (.cons .head .nil) ⟨Has.pure (⟨hr1,min1_or n⟩),trivial⟩ ?_;rintro⟨i,cur⟩;dsimp only;refine bX (Has.of mT0) fun hinv8=>?_;refine bF<|sr<|sp4 hT ?_;refine nn<|bO rfl (fun hc37=>?_) (fun hc37=>?_)
 ·have hc37:=of_decide_eq_true hc37;refine bM<|bE<|bQ<|dX _ _ [(true,0),(true,1),(true,2),(true,3),(true,4),(true,5),(true,6),(false,7),(true,8),(true,9)] fH (by decide+kernel) .nil bH.self ?_;refine puM hT ?_;refine puM hT ?_;refine puM hT ?_;refine stM rfl (sti_cutFrom hT (k:=i) rfl rfl rfl rfl rfl rfl (by omega)) ?_;refine at_val (v':= .slice (some ⟨b1,i*2,none⟩) (n-i) (n-i)) (by rw [cutA_in (by omega) rfl]) ?_;refine puM hT ?_;refine puM hT ?_;refine stM rfl (bIc hT (k:=i) rfl rfl rfl rfl rfl rfl (by omega)) ?_;refine dA (o:=_) rfl ?_;refine at_copyE (E:=iP) (ys:=cur.take (Nat.min i (n-i))) (q:=i) (bV.preE (cE .head) _) rfl rfl rfl rfl Tryz.underlying48 lifesize rfl rfl (rep_len hinv8.1) rfl (rep_l hinv8.1) (by rw [rep_l hinv8.1];have:Nat.min i (n-i)≤n-i:=Nat.min_le_right _ _;omega) .head ?_;have hrs:=rep_step hinv8.1 (by omega);have hrl:=rep_l hinv8.1;refine bT (z':=((Nat.min i (n-i):Nat):Int)) (congrArg Nat.cast hrl) ?_
  have hmn:Nat.min i (n-i)≤n-i∧1≤Nat.min i (n-i):=⟨Nat.min_le_right _ _,Nat.le_min.2 ⟨by omega,by omega⟩⟩
  refine dB .nil (bH.drop 0) ?_;refine puM hT ?_;refine bT (z':=(((i+(Nat.min i (n-i))):Nat):Int)) (cO (by omega) (by omega)) ?_;refine puM hT ?_;refine cJ<|bU<|bE ?_;exact cG (i+Nat.min i (n-i),_) (by dsimp only;omega) ⟨rfl,trivial⟩ ⟨rfl,trivial⟩ (.cons .head .nil) ⟨Has.pure (⟨hrs,by dsimp only;omega⟩),trivial⟩ (bH.drop 1)
 have hc37:=Int.not_lt.1 (of_decide_eq_false hc37);refine cS<|bZ<|bZ<|cR<|bE<|sr<|sp2 hT ?_;refine nn<|bK ?_;obtain rfl:i=n:=by have:=hinv8.1.2;omega
 have hcr:cur=List.replicate i p:=by rw [hinv8.1.1,Nat.sub_self,List.replicate_zero,List.append_nil]
 subst hcr;exact bL (_,_) rfl (rv_tmp rfl) (.cons .head .nil) trivial rfl
def dJ.c (x:dJ):LifeC:=⟨x.from_,x.to_⟩
def LifeC.v(x:LifeC):dJ:=⟨x.from_,x.to_⟩
def lc (l:List dJ):List LifeC:=l.map dJ.c
def lv (l:List LifeC):List dJ:=l.map LifeC.v
theorem lv_lc(l:List dJ):lv (lc l)=l:=by
 unfold lv lc;rw [List.map_map];exact List.map_id'' (fun _=>rfl) l
theorem lc_len(l:List dJ):(lc l).length=l.length:=List.length_map _
theorem sW(l:List LifeC):(lv l).length=l.length:=List.length_map _
theorem lc_set(l:List dJ)(k:Nat)(y:dJ):lc (l.set k y)=(lc l).set k y.c:=List.map_set
theorem lc_get(l:List dJ)(k:Nat):(lc l)[k]?=(l[k]?).map dJ.c:=List.getElem?_map
section
variable {L : List LifeC} {i : Int} {k : Nat} {y : LifeC}
theorem bDz{α:Type}{L:List α}{k:Nat}{y:α}(f:α→α)(h:L[k]?=some y):L.set k (f y)=L.modify k f:=by
 apply List.ext_getElem?;intro j;rw [List.getElem?_set,List.getElem?_modify];have hk:=(List.getElem?_eq_some_iff.1 h).1
 by_cases e:k=j
 ·subst e;rw [h];simp [hk]
 ·simp [e]
theorem yP(h:L[k]?=some y):L.set k ⟨y.from_,i⟩=gJ i L k:=bDz (fun x:LifeC=>{x with to_:=i}) h
theorem setFrom_set(h:L[k]?=some y):L.set k ⟨i,y.to_⟩=tI i L k:=bDz (fun x:LifeC=>{x with from_:=i}) h
end
section
variable {c : fL} {li lj : List dJ} {dn : List Bool} {i j k : Nat} {y : dJ} {u : kZ} {r G : List LifeC} {x : dU} {us : List Int} {z : Int} {m : Int}
def zK (c:fL)(i:Nat)(li:List dJ):Prop:=li.length=c.bufs.length∧ ∀j u,c.bufs[j]?=some u→ ∃y,li[j]?=some y∧y.to_= -1∧y.from_=if j<i∧(0≤u.input∨c.outs.contains (j:Int)=true) then-1 else 0
theorem live_start:zK c 0 (List.replicate c.bufs.length ⟨0,-1⟩):=by
 refine⟨List.length_replicate,fun j u hj=>⟨⟨0,-1⟩,?_,rfl,?_⟩⟩
 ·rw [List.getElem?_replicate,if_pos (List.getElem?_eq_some_iff.1 hj).1]
 ·rw [if_neg (by omega)]
theorem live_yes(h:zK c i li)(hu:c.bufs[i]?=some u)(hy:li[i]?=some y)(e:0≤u.input∨c.outs.contains (i:Int)=true):zK c (i+1) (li.set i ⟨-1,y.to_⟩):=by
 refine⟨by rw [List.length_set];exact h.1,fun j u' hj=>?_⟩;obtain⟨y',h1,h2,h3⟩:=h.2 j u' hj
 by_cases ej:i=j
 ·subst ej;rw [hy] at h1;injection h1 with h1
  subst h1;rw [hu] at hj;injection hj with hj
  subst hj;refine⟨⟨-1,y.to_⟩,List.getElem?_set_self (List.getElem?_eq_some_iff.1 hy).1,h2,?_⟩;rw [if_pos ⟨by omega,e⟩]
 ·refine⟨y',by rw [List.getElem?_set_ne ej];exact h1,h2,?_⟩;rw [h3];have:j<i+1↔j<i:=by omega
  simp [this]
theorem live_no(h:zK c i li)(hu:c.bufs[i]?=some u)(e1:u.input<0)(e2:c.outs.contains (i:Int)=false):zK c (i+1) li:=by
 refine⟨h.1,fun j u' hj=>?_⟩;obtain⟨y',h1,h2,h3⟩:=h.2 j u' hj;refine⟨y',h1,h2,?_⟩;rw [h3]
 by_cases ej:i=j
 ·subst ej;rw [hu] at hj;injection hj with hj
  subst hj;rw [if_neg (by omega),if_neg];rintro⟨_,h | h⟩
  ·omega
  ·rw [e2] at h;cases h
 ·have:j<i+1↔j<i:=by omega
  simp [this]
theorem live_end(h:zK c i li)(hi:c.bufs.length≤i):lc li=qQ c.outs 0 c.bufs:=by
 apply List.ext_getElem?;intro j;rw [lc_get,sG]
 cases hj:c.bufs[j]? with
 | none=>
  rw [List.getElem?_eq_none_iff.2 (by rw [h.1];exact List.getElem?_eq_none_iff.1 hj)];rfl
 | some u=>
  obtain⟨y',h1,h2,h3⟩:=h.2 j u hj;have:=(List.getElem?_eq_some_iff.1 hj).1;rw [h1,Option.map_some,Option.map_some,dJ.c,h2,h3,Nat.zero_add];have hji:j<i:=by omega
  simp [hji]
def StepI (c:fL)(k:Nat)(li:List dJ)(dn:List Bool)(r:List LifeC):Prop:=li.length=c.bufs.length∧dn.length=c.bufs.length∧r=(c.outs.map Int.toNat).foldl (gJ c.steps.length) (nH k (c.steps.drop k) (lc li,dn)).1
theorem step_start(h:zK c i li)(hi:c.bufs.length≤i):StepI c 0 li (List.replicate c.bufs.length false) (livesC c):=by
 refine⟨h.1,List.length_replicate,?_⟩;rw [live_end h hi];rfl
theorem bIb(h:StepI c k li dn r)(hx:c.steps[k]?=some x)(h1:lc lj=(iT k x (lc li,dn)).1){dn':List Bool}(h2:dn'=dn.set x.buf.toNat true):StepI c (k+1) lj dn' r:=by
 subst h2;refine⟨?_,by rw [List.length_set];exact h.2.1,?_⟩
 ·rw [←lc_len,h1,qP,lc_len];exact h.1
 ·rw [h.2.2,show c.steps.drop k=x::c.steps.drop (k+1) from by
   obtain⟨hi,e⟩:=List.getElem?_eq_some_iff.1 hx;rw [←e]
   exact List.drop_eq_getElem_cons hi,nH,h1]
  rfl
theorem step_end(h:StepI c k li dn r)(hk:c.steps.length≤k):r=(c.outs.map Int.toNat).foldl (gJ c.steps.length) (lc li):=by
 rw [h.2.2,List.drop_of_length_le hk];rfl
def UseI (m:Int)(us:List Int)(j:Nat)(G:List LifeC)(li:List dJ):Prop:=G=((us.drop j).map Int.toNat).foldl (gJ m) (lc li)
theorem use_step(h:UseI m us j G li)(hz:us[j]?=some z)(hy:li[z.toNat]?=some y):UseI m us (j+1) G (li.set z.toNat ⟨y.from_,m⟩):=by
 unfold UseI at*
 rw [h,show us.drop j=z::us.drop (j+1) from by
   obtain⟨hi,e⟩:=List.getElem?_eq_some_iff.1 hz;rw [←e]
   exact List.drop_eq_getElem_cons hi,List.map_cons,List.foldl_cons,lc_set]
 congr 1
 exact(yP (y:=y.c) (by rw [lc_get,hy];rfl)).symm
theorem use_end(h:UseI m us j G li)(hj:us.length≤j):lc li=G:=by
 unfold UseI at h;rw [h,List.drop_of_length_le hj];rfl
theorem bHn(l:List OpV)(L:List LifeC):((usesV l).map Int.toNat).foldl (gJ m) L=(pY (sR l)).foldl (gJ m) L:=by
 apply List.ext_getElem?;intro b;rw [mI,mI]
 congr 1
 funext x
 have:b∈(usesV l).map Int.toNat↔b∈pY (sR l):=by
  simp only [List.mem_map,pY,List.mem_filterMap,sR];constructor
  ·rintro⟨z,hz,e⟩;obtain⟨o,ho,h4,hk⟩:=xV.1 hz;exact⟨o.c,⟨o,ho,rfl⟩,by rw [if_pos (show o.c.how=4 from h4)];show some o.k.toNat=_;rw [hk,e]⟩
  ·rintro⟨_,⟨o,ho,rfl⟩,e⟩
   by_cases h4:o.c.how=4
   ·rw [if_pos h4] at e;injection e with e
    exact⟨o.k,xV.2 ⟨o,ho,h4,rfl⟩,e⟩
   ·rw [if_neg h4] at e;cases e
 simp only [this]
section
variable {s : gQ}
theorem made_new(h:UseI m (usesV s.ops.list) j G lj)(hj:(usesV s.ops.list).length≤j)(hG:G=((usesV s.ops.list).map Int.toNat).foldl (gJ m) (lc li))(hd:dn[s.buf.toNat]?=some false)(hy:lj[s.buf.toNat]?=some y):
  lc ((lj.set s.buf.toNat ⟨m,y.to_⟩).set s.buf.toNat ⟨m,m⟩)=(iT m s.c (lc li,dn)).1:=by
 have e:=use_end h hj;rw [hG,bHn] at e;have hdn:dn.getD s.buf.toNat false=false:=by rw [List.getD_eq_getElem?_getD,hd];rfl
 unfold iT;show _=gJ m (if dn.getD s.buf.toNat false=true then _ else _) s.buf.toNat;rw [hdn,if_neg (by decide)];show _=gJ m (tI m ((pY (sR s.ops.list)).foldl (gJ m) (lc li)) s.buf.toNat) s.buf.toNat;rw [←e,lc_set,lc_set];have h1:(lc lj)[s.buf.toNat]?=some y.c:=by rw [lc_get,hy];rfl
 rw [←setFrom_set (y:=y.c) h1];have h2:((lc lj).set s.buf.toNat ⟨m,y.to_⟩)[s.buf.toNat]?=some ⟨m,y.to_⟩:=List.getElem?_set_self (List.getElem?_eq_some_iff.1 h1).1;exact yP (y:=⟨m,y.to_⟩) h2
theorem made_old(h:UseI m (usesV s.ops.list) j G lj)(hj:(usesV s.ops.list).length≤j)(hG:G=((usesV s.ops.list).map Int.toNat).foldl (gJ m) (lc li))(hd:dn[s.buf.toNat]?=some true)(hy:lj[s.buf.toNat]?=some y):
  lc (lj.set s.buf.toNat ⟨y.from_,m⟩)=(iT m s.c (lc li,dn)).1∧dn=dn.set s.buf.toNat true:=by
 have e:=use_end h hj;rw [hG,bHn] at e;have hdn:dn.getD s.buf.toNat false=true:=by rw [List.getD_eq_getElem?_getD,hd];rfl
 refine⟨?_,?_⟩
 ·unfold iT;show _=gJ m (if dn.getD s.buf.toNat false=true then _ else _) s.buf.toNat;rw [hdn,if_pos rfl];show _=gJ m ((pY (sR s.ops.list)).foldl (gJ m) (lc li)) s.buf.toNat;rw [←e,lc_set];exact yP (y:=y.c) (by rw [lc_get,hy];rfl)
 ·have hlt:=(List.getElem?_eq_some_iff.1 hd).1;have:=(List.getElem?_eq_some_iff.1 hd).2;rw [←this,List.set_getElem_self]
end
def OutI (c:fL)(j:Nat)(li:List dJ)(r:List LifeC):Prop:=li.length=c.bufs.length∧r=((c.outs.drop j).map Int.toNat).foldl (gJ c.steps.length) (lc li)
theorem out_step(h:OutI c j li r)(hz:c.outs[j]?=some z)(hy:li[z.toNat]?=some y):OutI c (j+1) (li.set z.toNat ⟨y.from_,(c.steps.length:Nat)⟩) r:=by
 refine⟨by rw [List.length_set];exact h.1,?_⟩;have:=use_step (us:=c.outs) (m:=c.steps.length) (G:=r) h.2 hz hy;exact this
theorem out_stepN{n:Nat}(hn:c.steps.length=n)(h:OutI c j li r)(hz:c.outs[j]?=some z)(hy:li[z.toNat]?=some y):OutI c (j+1) (li.set z.toNat ⟨y.from_,(n:Nat)⟩) r:=by
 subst hn;exact out_step h hz hy
theorem out_end(h:OutI c j li r)(hj:c.outs.length≤j):li=lv r:=by
 rw [h.2,List.drop_of_length_le hj];exact(lv_lc li).symm
theorem bGq{vars:Int}{bufs:List kZ}: ∀{r:List dU} {made:List Bool},made.length=bufs.length→lH vars bufs r made=true→ ∀x∈r,0≤x.buf∧x.buf<bufs.length∧ ∀o∈x.ops,o.how=4→0≤o.k∧o.k<bufs.length
 | [],_,_,_,x,hx=>by cases hx
 | y::r,made,hm,h,x,hx=>by
  rw [lH,Bool.and_eq_true,Bool.and_eq_true,Bool.and_eq_true] at h;obtain⟨⟨h1,h2⟩,h3,h4⟩:=h
  rcases List.mem_cons.1 hx with rfl | hx
  ·have h0:0≤x.buf:=of_decide_eq_true h1;refine⟨h0,?_,fun o ho e=>?_⟩
   ·cases hb:bufs[x.buf.toNat]? with
    | none=>rw [hb] at h2;cases h2
    | some b=>
     have:=(List.getElem?_eq_some_iff.1 hb).1;omega
   ·unfold nF at h3;simp only [Bool.and_eq_true] at h3;have h5:=List.all_eq_true.1 h3.2.2.2.2.2 o ho;unfold opB at h5;rw [if_neg (by omega),if_neg (by omega),if_neg (by omega),if_pos e] at h5;simp only [Bool.and_eq_true,decide_eq_true_eq] at h5;refine⟨h5.1.1,?_⟩;have h6:=h5.2.1;rw [List.getD_eq_getElem?_getD] at h6
    cases hk:made[o.k.toNat]? with
    | none=>rw [hk] at h6;cases h6
    | some b=>
     have:=(List.getElem?_eq_some_iff.1 hk).1;omega
  ·exact bGq (by rw [List.length_set];exact hm) h4 x hx
theorem rS(h:dE c=true):(c.bufs.length≤1024∧c.steps.length≤1024∧c.outs.length≤64)∧(∀x∈c.steps,0≤x.buf∧x.buf<c.bufs.length∧ ∀o∈x.ops,o.how=4→0≤o.k∧o.k<c.bufs.length)∧ ∀k∈c.outs,0≤k∧k<c.bufs.length:=by
 obtain⟨h1,h2,h3,h4⟩:=jX h;exact⟨h1.2.2,bGq (pP _) h3,h4⟩
theorem uses_in{s:gQ}{n:Nat}(h: ∀o∈s.c.ops,o.how=4→0≤o.k∧o.k<n)(hz:z∈usesV s.ops.list):0≤z∧z<n:=by
 obtain⟨o,ho,h4,hk⟩:=xV.1 hz;have:=h o.c (List.mem_map.2 ⟨o,ho,rfl⟩) h4;rw [←hk];exact this
theorem jC:(livesC c).length=c.bufs.length:=by
 unfold livesC;rw [qM]
 have: ∀(r:List dU) (i:Int) (s:List LifeC×List Bool),(nH i r s).1.length=s.1.length:=fun r=>by
  induction r with
  | nil=>exact fun _ _=>rfl
  | cons x r ih=>exact fun i s=>by rw [nH,ih,qP]
 rw [this,vD]
end
theorem at_one_life{β:fB}{n:Nat}{Γ:Env}{H:List bJ}{F:List bI}{Q:Exit→Act→World→Prop}{ops:Array Oper}{rest:List Oper}{o:Oper}{d:Nat}{x:Operand}{m:dJ}(hw:want ops Γ o=some true)(ho:o.op= .buildSlice 48 1 #[(0,x)])(hd:o.dst=some d)(hn:Nat.blt d n=true)
  (hx:Γ.ev x=some (.agg #[.int .i64 m.from_,.int .i64 m.to_])) (k: ∀b,At β n ((d,.slice (some ⟨b,0,none⟩) 1 1)::Γ) (.obj b (.cells (iP.all [m]).toArray 55)::H) F (wpList Tryz.prog ops Q rest)):At β n Γ H F (wpList Tryz.prog ops Q (o::rest)):=by
 obtain⟨i,hi,hz,hs,_⟩:=lifeInfo;refine mH hw ho hd hn hx Tryz.underlying48 hi hz (by omega) (by omega) ?_ k;rw [hs]
 kernel_rfl
set_option maxRecDepth 100000 in
theorem bEp(c:iF)(hr:dE c.c=true):cX Tryz.prog 43 [.agg #[.int .i64 c.vars,.slice c.bufs.addr c.bufs.list.length c.bufs.cap,.slice c.steps.addr c.steps.list.length c.steps.cap,.slice c.outs.addr c.outs.list.length c.outs.cap]] [] [oT c,bI.cells 0 0 [.int .i64 0,.int .i64 (-1)]] (fun(x:Option Addr×Nat)=> .slice x.1 c.bufs.list.length x.2) (fun(x:Option Addr×Nat)=>[iP.row (.slice x.1 c.bufs.list.length x.2) 55 (lv (livesC c.c))]) (fun _=>[]):=by
 have hT:=dW;generalize hR:livesC c.c=r;obtain⟨hbz,hst,hou⟩:=rS hr;have hnb:c.c.bufs.length=c.bufs.list.length:=cT _;have hns:c.c.steps.length=c.steps.list.length:=iJ _;have hno:c.c.outs.length=c.outs.list.length:=rfl;refine cD Tryz.func43 rfl Tryz.ntmps43 rfl ?_;intro β hM;refine sr<|iL rfl rfl rfl rfl rfl rfl fun b1=>?_;refine sp hT ?_;refine nn<|sr<|ss (cL hT (fE (off:=0) (Has.of mT1)) rfl rfl rfl rfl rfl) ?_;refine at_one_life (m:=⟨0,-1⟩) rfl rfl rfl rfl rfl fun b2=>?_;refine sN (E:=iP) (xs:=[⟨0,-1⟩]) .head ?_;refine nM .head ?_;refine sp hT ?_;refine ss (ldO hT (fF .head)) ?_;refine sp hT ?_;refine cU Tryz.func94 (repeatL_spec (some ⟨b2,0,none⟩) 1 ⟨0,-1⟩ c.bufs.list.length (by omega)) rfl rfl .nil ⟨(Has.of mT0),trivial⟩ fun⟨LA,lcp⟩=>?_;refine sp hT ?_;refine nn<|sr<|sp hT ?_;refine ss (ldO hT (fF kT1)) ?_;refine sp hT ?_;refine wD (m:=c.bufs.list.length) rfl rfl rfl rfl rfl rfl (by omega) fun b3=>?_;refine sp hT ?_;refine nn<|bF<|sr<|sp3 hT ?_;refine nn<|bQ<|dH (ι:=Nat×List dJ) [(1,_),(3,_),(4,_),(23,_)] ⟨rfl,rfl,rfl,rfl,trivial⟩ (fun⟨i,li⟩=>[(24,.int .i64 (i:Nat))]) (fun⟨i,li⟩=>[iP.row (.slice LA c.bufs.list.length lcp) 55 li]) (fun⟨i,li⟩=>[bI.pure (i≤c.bufs.list.length∧zK c.c i li)]) (fun⟨i,li⟩=>c.bufs.list.length-i) (0,List.replicate c.bufs.list.length ⟨0,-1⟩) ⟨rfl,trivial⟩ (.cons kT1 .nil) ⟨Has.pure (⟨by omega,by rw [←hnb];exact live_start⟩),trivial⟩ ?_;rintro⟨i,li⟩;dsimp only;refine bX (Has.of mT0) fun hinv4=>?_;have hll:li.length=c.bufs.list.length:=by rw [hinv4.2.1];exact hnb
 refine sr<|sp hT ?_;refine nn<|bF<|bO rfl (fun hc25=>?_) (fun hc25=>?_)
 ·have hc25:=of_decide_eq_true hc25;refine bM<|bE<|bF<|bQ<|sr<|sp2 hT ?_;refine nn<|sr<|sp hT ?_;refine ss (ldO hT (fF kT2)) ?_;refine sp hT ?_;refine cC (bAf.sl (.slice c.bufs.addr c.bufs.list.length c.bufs.cap) c.bufs.list) (oW (jR (Has.of mT2))) ?_
  obtain⟨x4,hx5⟩: ∃x',c.bufs.list[i]?=some x':=⟨_,List.getElem?_eq_getElem (by omega)⟩
  refine ss (bG hT (k:=i) (bC (Has.of mT0)) rfl rfl rfl rfl rfl rfl rfl (by omega)) ?_;refine sp hT ?_;refine ss (bR hT (bV.knows (bC (Has.of mT0)) (k:=i) (x:=x4) hx5 1) rfl rfl rfl rfl rfl) ?_;refine sp2 hT ?_;refine cA (fun hg34=>?_) (fun hg34=>?_)
  ·have hg34:=of_decide_eq_true hg34;refine sk4 ?_;refine sp hT ?_;refine nn<|cW rfl rfl ?_;refine bD<|sp2 hT ?_
   obtain⟨x6,hx7⟩: ∃x',li[i]?=some x':=⟨_,List.getElem?_eq_getElem (by omega)⟩
   refine ss (bG hT (k:=i) (cE .head) rfl rfl rfl rfl rfl hll.symm rfl (by omega)) ?_;refine sp hT ?_;refine cK hT (k:=i) (fo:=0) (y':=(⟨-1,x6.to_⟩:dJ)) .head rfl rfl rfl rfl rfl rfl rfl rfl rfl hx7 rfl ?_;refine gH<|bU<|bE<|bD<|sp hT ?_;refine bT (z':=(((i+1):Nat):Int)) (cO (by omega) (by omega)) ?_;refine sp hT ?_;refine nn ?_;exact cG (i+1,(li.set i (⟨-1,x6.to_⟩:dJ))) (by dsimp only;omega) ⟨rfl,trivial⟩ ⟨rfl,rfl,rfl,rfl,trivial⟩ (.cons .head (.cons .head (.cons .head .nil))) ⟨Has.pure (⟨by dsimp only;omega,live_yes hinv4.2 (dG hx5) hx7 (by first | exact .inl (by show 0≤jV.input _;omega) | exact .inr ‹_›)⟩),trivial⟩ (bH.drop 2)
  have hg34:=Int.not_le.1 (of_decide_eq_false hg34);refine sp hT ?_;refine ss (ldO hT (nY kT2)) ?_;refine sp hT ?_;refine cC (gC.sl (.slice c.outs.addr c.outs.list.length c.outs.cap) c.outs.list) (outsF_s (coreF_o (Has.of mT3))) ?_;refine cU Tryz.func95 (bFl c.outs.addr c.outs.cap c.outs.list (by omega) (i:Nat)) rfl rfl .nil ⟨(Has.of mT0),trivial⟩ fun _=>?_;refine sp hT ?_;refine nn<|bO rfl (fun hc39=>?_) (fun hc39=>?_)
  ·refine bD<|sp2 hT ?_
   obtain⟨x8,hx9⟩: ∃x',li[i]?=some x':=⟨_,List.getElem?_eq_getElem (by omega)⟩
   refine ss (bG hT (k:=i) (cE .head) rfl rfl rfl rfl rfl hll.symm rfl (by omega)) ?_;refine sp hT ?_;refine cK hT (k:=i) (fo:=0) (y':=(⟨-1,x8.to_⟩:dJ)) .head rfl rfl rfl rfl rfl rfl rfl rfl rfl hx9 rfl ?_;refine gH<|bU<|bE<|bD<|sp hT ?_;refine bT (z':=(((i+1):Nat):Int)) (cO (by omega) (by omega)) ?_;refine sp hT ?_;refine nn ?_;exact cG (i+1,(li.set i (⟨-1,x8.to_⟩:dJ))) (by dsimp only;omega) ⟨rfl,trivial⟩ ⟨rfl,rfl,rfl,rfl,trivial⟩ (.cons .head (.cons .head (.cons .head .nil))) ⟨Has.pure (⟨by dsimp only;omega,live_yes hinv4.2 (dG hx5) hx9 (by first | exact .inl (by show 0≤jV.input _;omega) | exact .inr ‹_›)⟩),trivial⟩ (bH.drop 3)
  refine bM<|bU<|bE<|bD<|sp hT ?_;refine bT (z':=(((i+1):Nat):Int)) (cO (by omega) (by omega)) ?_;refine sp hT ?_;refine nn ?_;exact cG (i+1,li) (by dsimp only;omega) ⟨rfl,trivial⟩ ⟨rfl,rfl,rfl,rfl,trivial⟩ (.cons .head (.cons .head (.cons .head .nil))) ⟨Has.pure (⟨by dsimp only;omega,live_no hinv4.2 (dG hx5) (by show jV.input _<0;omega) ‹_›⟩),trivial⟩ (bH.drop 3)
 have hc25:=Int.not_lt.1 (of_decide_eq_false hc25);refine cS<|bZ<|bZ<|cR<|bE<|bF<|sr<|sp hT ?_;refine ss (ldO hT (yQ kT2)) ?_;refine sp2 hT ?_;refine nn<|bQ<|dH (ι:=Nat×List dJ×List Bool) [(1,_),(3,_),(4,_),(46,_),(47,_)] ⟨rfl,rfl,rfl,rfl,rfl,trivial⟩ (fun⟨k,li,dn⟩=>[(48,.int .i64 (k:Nat))]) (fun⟨k,li,dn⟩=>[iP.row (.slice LA c.bufs.list.length lcp) 55 li,iO.row (.slice (some ⟨b3,0,none⟩) c.bufs.list.length c.bufs.list.length) 4 dn]) (fun⟨k,li,dn⟩=>[bI.pure (k≤c.steps.list.length∧StepI c.c k li dn r)]) (fun⟨k,li,dn⟩=>c.steps.list.length-k) (0,li,List.replicate c.bufs.list.length false) ⟨rfl,trivial⟩ (.cons .head (.cons .head .nil)) ⟨Has.pure (⟨by omega,by rw [←hR,←hnb];exact step_start hinv4.2 (by omega)⟩),trivial⟩ ?_;rintro⟨k,li,dn⟩;dsimp only;refine bX (Has.of mT0) fun hinv10=>?_;have hl2:li.length=c.bufs.list.length:=by rw [hinv10.2.1];exact hnb
 have hd2:dn.length=c.bufs.list.length:=by rw [hinv10.2.2.1];exact hnb
 refine sr<|sp hT ?_;refine nn<|bF<|bO rfl (fun hc49=>?_) (fun hc49=>?_)
 ·have hc49:=of_decide_eq_true hc49;refine bM<|bE<|bF<|bQ<|sr<|sp hT ?_;refine cC (zQ.sl (.slice c.steps.addr c.steps.list.length c.steps.cap) c.steps.list) (wN (qU (Has.of mT3))) ?_
  obtain⟨x10,hx11⟩: ∃x',c.steps.list[k]?=some x':=⟨_,List.getElem?_eq_getElem (by omega)⟩
  refine ss (bG hT (k:=k) (bC (Has.of mT0)) rfl rfl rfl rfl rfl rfl rfl (by omega)) ?_;refine ss (cL hT (bV.knows (bC (Has.of mT0)) (k:=k) (x:=x10) hx11 0) rfl rfl rfl rfl rfl) ?_;refine fC rfl rfl rfl rfl qH rfl fun b12=>?_;refine sp hT ?_;refine sto hT .head ?_;refine nn<|bF<|bF ?_;obtain⟨hb0,hb1,hop⟩:=hst x10.c (List.mem_of_getElem? (gS hx11))
  replace hb0:0≤x10.buf:=hb0
  replace hb1:x10.buf<(c.c.bufs.length:Nat):=hb1
  have hul:=usesV_len x10.ops.list;refine bD<|sp hT ?_;refine ss (ldO hT (kwO5 .head)) ?_;refine cC (sC x10) (Has.each (bCw (qU (Has.of mT4))) (List.mem_of_getElem? hx11)) ?_;refine cC (opE.sl (.slice x10.ops.addr x10.ops.list.length x10.ops.cap) x10.ops.list) (opsF_s (xJ (Has.of mT0))) ?_;refine bX (opsF_c (xJ (Has.of mT1))) fun hz13=>?_;have hz132:=hz13.2;refine cU Tryz.func26 (uses_spec x10.ops.addr x10.ops.cap x10.ops.list (by omega)) rfl rfl .nil ⟨(Has.of mT0),trivial⟩ fun⟨UA,uc⟩=>?_;refine sp2 hT ?_;refine nn<|bQ<|dH (ι:=Nat×List dJ) [(1,_),(3,_),(4,_),(6,_),(7,_),(46,_),(47,_),(48,_),(55,_),(56,_)] ⟨rfl,rfl,rfl,rfl,rfl,rfl,rfl,rfl,rfl,rfl,trivial⟩ (fun⟨j,lj⟩=>[(57,.int .i64 (j:Nat))]) (fun⟨j,lj⟩=>[iP.row (.slice LA c.bufs.list.length lcp) 55 lj]) (fun⟨j,lj⟩=>[bI.pure (j≤(usesV x10.ops.list).length∧lj.length=c.bufs.list.length∧UseI (k:Nat) (usesV x10.ops.list) j (((usesV x10.ops.list).map Int.toNat).foldl (gJ (k:Nat)) (lc li)) lj)]) (fun⟨j,lj⟩=>(usesV x10.ops.list).length-j) (0,li) ⟨rfl,trivial⟩ (.cons kT1 .nil) ⟨Has.pure (⟨by omega,hl2,rfl⟩),trivial⟩ ?_;rintro⟨j,lj⟩;dsimp only;refine bX (Has.of mT0) fun hinv13=>?_;have hl3:=hinv13.2.1;refine sr<|sp hT ?_;refine nn<|bF<|bO rfl (fun hc58=>?_) (fun hc58=>?_)
  ·have hc58:=of_decide_eq_true hc58;refine bM<|bE<|bF<|bQ<|sr ?_
   obtain⟨x14,hx15⟩: ∃x',(usesV x10.ops.list)[j]?=some x':=⟨_,List.getElem?_eq_getElem (by omega)⟩
   refine ss (bG hT (k:=j) (bC (Has.of mT1)) rfl rfl rfl rfl rfl rfl rfl (by omega)) ?_;refine ss (bR hT (bV.knows (bC (Has.of mT1)) (k:=j) (x:=x14) hx15 0) rfl rfl rfl rfl rfl) ?_;refine sp hT ?_;refine nn ?_;have hzz:=uses_in hop (List.mem_of_getElem? hx15);refine bD<|sp3 hT ?_
   obtain⟨x16,hx17⟩: ∃x',lj[x14.toNat]?=some x':=⟨_,List.getElem?_eq_getElem (by first | omega | (simp only [List.length_set];omega))⟩
   refine ss (bG hT (k:=x14.toNat) (cE .head) rfl rfl rfl rfl rfl hl3.symm (by omega) (by first | omega | (simp only [List.length_set];omega))) ?_;refine sp hT ?_;refine cK hT (k:=x14.toNat) (fo:=1) (y':=(⟨x16.from_,(k:Nat)⟩:dJ)) .head rfl rfl rfl rfl rfl rfl rfl rfl rfl hx17 rfl ?_;refine gH<|bU<|bE<|bD<|sp hT ?_;refine bT (z':=(((j+1):Nat):Int)) (cO (by omega) (by omega)) ?_;refine sp hT ?_;refine nn ?_;exact cG (j+1,(lj.set x14.toNat (⟨x16.from_,(k:Nat)⟩:dJ))) (by dsimp only;omega) ⟨rfl,trivial⟩ ⟨rfl,rfl,rfl,rfl,rfl,rfl,rfl,rfl,rfl,rfl,trivial⟩ (.cons .head (.cons .head (.cons .head (.cons .head .nil)))) ⟨Has.pure (⟨by dsimp only;omega,by rw [List.length_set];exact hl3,use_step hinv13.2.2 hx15 hx17⟩),trivial⟩ (bH.drop 1)
  have hc58:=Int.not_lt.1 (of_decide_eq_false hc58);refine cS<|bZ<|bZ<|cR<|bE<|bF<|sr<|sp2 hT ?_;refine ss (ldO hT (fF kT1)) ?_
  obtain⟨x18,hx19⟩: ∃x',dn[x10.buf.toNat]?=some x':=⟨_,List.getElem?_eq_getElem (by first | omega | (simp only [List.length_set];omega))⟩
  refine ss (bG hT (k:=x10.buf.toNat) (cE kT2) rfl rfl rfl rfl rfl hd2.symm (by omega) (by first | omega | (simp only [List.length_set];omega))) ?_;refine ss (bR hT (bV.knows (cE kT2) (k:=x10.buf.toNat) (x:=x18) hx19 0) rfl rfl rfl rfl rfl) ?_;refine sp hT ?_;refine nn<|bO rfl (fun hc72=>?_) (fun hc72=>?_)
  ·have hc72:=kG hc72;refine sr<|sp2 hT ?_;refine ss (ldO hT (fF kT1)) ?_;refine ss (bG hT (k:=x10.buf.toNat) (cE kT2) rfl rfl rfl rfl rfl hd2.symm (by omega) (by first | omega | (simp only [List.length_set];omega))) ?_;refine cK hT (k:=x10.buf.toNat) (fo:=0) (y':=(true)) kT2 rfl rfl rfl rfl rfl rfl rfl rfl rfl hx19 rfl ?_;refine nn<|bD<|sp2 hT ?_;refine ss (ldO hT (fF kT2)) ?_;refine sp hT ?_
   obtain⟨x20,hx21⟩: ∃x',lj[x10.buf.toNat]?=some x':=⟨_,List.getElem?_eq_getElem (by first | omega | (simp only [List.length_set];omega))⟩
   refine ss (bG hT (k:=x10.buf.toNat) (cE kT1) rfl rfl rfl rfl rfl hl3.symm (by omega) (by first | omega | (simp only [List.length_set];omega))) ?_;refine sp hT ?_;refine cK hT (k:=x10.buf.toNat) (fo:=0) (y':=(⟨(k:Nat),x20.to_⟩:dJ)) kT1 rfl rfl rfl rfl rfl rfl rfl rfl rfl hx21 rfl ?_;refine nn<|bD<|sp2 hT ?_;refine ss (ldO hT (fF kT2)) ?_;refine sp hT ?_;refine ss (bG hT (k:=x10.buf.toNat) (cE .head) rfl rfl rfl rfl rfl (by simp only [List.length_set];omega) (by omega) (by first | omega | (simp only [List.length_set];omega))) ?_;refine sp hT ?_;refine cK hT (k:=x10.buf.toNat) (fo:=1) (y':=(⟨(⟨(k:Nat),x20.to_⟩:dJ).from_,(k:Nat)⟩:dJ)) .head rfl rfl rfl rfl rfl rfl rfl rfl rfl (List.getElem?_set_self (by first | omega | (simp only [List.length_set];omega))) rfl ?_;refine gH<|bU<|bE<|bD<|sp hT ?_;refine bT (z':=(((k+1):Nat):Int)) (cO (by omega) (by omega)) ?_;refine sp hT ?_;refine nn ?_;exact cG (k+1,((lj.set x10.buf.toNat (⟨(k:Nat),x20.to_⟩:dJ)).set x10.buf.toNat (⟨(⟨(k:Nat),x20.to_⟩:dJ).from_,(k:Nat)⟩:dJ)),(dn.set x10.buf.toNat (true))) (by dsimp only;omega) ⟨rfl,trivial⟩ ⟨rfl,rfl,rfl,rfl,rfl,trivial⟩ (.cons .head (.cons .head (.cons kT1 .nil))) ⟨Has.pure (⟨by dsimp only;omega,bIb hinv10.2 (gS hx11) (made_new hinv13.2.2 (by omega) rfl (show dn[_]?=some false by rw [hx19];simp_all) hx21) rfl⟩),trivial⟩ (bH.drop 6)
  have hc72:=kD hc72;refine bM<|bE<|bD<|sp2 hT ?_;refine ss (ldO hT (fF kT1)) ?_;refine sp hT ?_
  obtain⟨x22,hx23⟩: ∃x',lj[x10.buf.toNat]?=some x':=⟨_,List.getElem?_eq_getElem (by first | omega | (simp only [List.length_set];omega))⟩
  refine ss (bG hT (k:=x10.buf.toNat) (cE .head) rfl rfl rfl rfl rfl hl3.symm (by omega) (by first | omega | (simp only [List.length_set];omega))) ?_;refine sp hT ?_;refine cK hT (k:=x10.buf.toNat) (fo:=1) (y':=(⟨x22.from_,(k:Nat)⟩:dJ)) .head rfl rfl rfl rfl rfl rfl rfl rfl rfl hx23 rfl ?_;refine gH<|bU<|bE<|bD<|sp hT ?_;refine bT (z':=(((k+1):Nat):Int)) (cO (by omega) (by omega)) ?_;refine sp hT ?_;refine nn ?_;exact cG (k+1,(lj.set x10.buf.toNat (⟨x22.from_,(k:Nat)⟩:dJ)),dn) (by dsimp only;omega) ⟨rfl,trivial⟩ ⟨rfl,rfl,rfl,rfl,rfl,trivial⟩ (.cons .head (.cons kT1 (.cons kT1 .nil))) ⟨Has.pure (⟨by dsimp only;omega,bIb hinv10.2 (gS hx11) (made_old hinv13.2.2 (by omega) rfl (show dn[_]?=some true by rw [hx19];simp_all) hx23).1 (made_old (y:=_) hinv13.2.2 (by omega) rfl (show dn[_]?=some true by rw [hx19];simp_all) hx23).2⟩),trivial⟩ (bH.drop 6)
 have hc49:=Int.not_lt.1 (of_decide_eq_false hc49);refine cS<|bZ<|bZ<|cR<|bE<|bF<|sr<|sp hT ?_;refine ss (ldO hT (nY kT2)) ?_;refine sp2 hT ?_;refine nn<|bQ<|dH (ι:=Nat×List dJ) [(1,_),(3,_),(91,_),(92,_)] ⟨rfl,rfl,rfl,rfl,trivial⟩ (fun⟨j,lo⟩=>[(93,.int .i64 (j:Nat))]) (fun⟨j,lo⟩=>[iP.row (.slice LA c.bufs.list.length lcp) 55 lo]) (fun⟨j,lo⟩=>[bI.pure (j≤c.outs.list.length∧OutI c.c j lo r)]) (fun⟨j,lo⟩=>c.outs.list.length-j) (0,li) ⟨rfl,trivial⟩ (.cons .head .nil) ⟨Has.pure (⟨by omega,hinv10.2.1,step_end hinv10.2 (by omega)⟩),trivial⟩ ?_;rintro⟨j,lo⟩;dsimp only;refine bX (Has.of mT0) fun hinv23=>?_;have hl4:lo.length=c.bufs.list.length:=by rw [hinv23.2.1];exact hnb
 refine sr<|sp hT ?_;refine nn<|bF<|bO rfl (fun hc94=>?_) (fun hc94=>?_)
 ·have hc94:=of_decide_eq_true hc94;refine bM<|bE<|bF<|bQ<|sr<|cC (gC.sl (.slice c.outs.addr c.outs.list.length c.outs.cap) c.outs.list) (outsF_s (coreF_o (Has.of mT4))) ?_
  obtain⟨x24,hx25⟩: ∃x',c.outs.list[j]?=some x':=⟨_,List.getElem?_eq_getElem (by omega)⟩
  refine ss (bG hT (k:=j) (bC (Has.of mT0)) rfl rfl rfl rfl rfl rfl rfl (by omega)) ?_;refine ss (bR hT (bV.knows (bC (Has.of mT0)) (k:=j) (x:=x24) hx25 0) rfl rfl rfl rfl rfl) ?_;refine sp hT ?_;refine nn ?_;have hzz:=hou x24 (List.mem_of_getElem? hx25);refine bD<|sp3 hT ?_;refine ss (ldO hT (yQ kT2)) ?_;refine sp hT ?_
  obtain⟨x26,hx27⟩: ∃x',lo[x24.toNat]?=some x':=⟨_,List.getElem?_eq_getElem (by first | omega | (simp only [List.length_set];omega))⟩
  refine ss (bG hT (k:=x24.toNat) (cE .head) rfl rfl rfl rfl rfl hl4.symm (by omega) (by first | omega | (simp only [List.length_set];omega))) ?_;refine sp hT ?_;refine cK hT (k:=x24.toNat) (fo:=1) (y':=(⟨x26.from_,(c.steps.list.length:Nat)⟩:dJ)) .head rfl rfl rfl rfl rfl rfl rfl rfl rfl hx27 rfl ?_;refine gH<|bU<|bE<|bD<|sp hT ?_;refine bT (z':=(((j+1):Nat):Int)) (cO (by omega) (by omega)) ?_;refine sp hT ?_;refine nn ?_;exact cG (j+1,(lo.set x24.toNat (⟨x26.from_,(c.steps.list.length:Nat)⟩:dJ))) (by dsimp only;omega) ⟨rfl,trivial⟩ ⟨rfl,rfl,rfl,rfl,trivial⟩ (.cons .head (.cons .head (.cons .head .nil))) ⟨Has.pure (⟨by dsimp only;omega,out_stepN hns hinv23.2 hx25 hx27⟩),trivial⟩ (bH.drop 2)
 have hc94:=Int.not_lt.1 (of_decide_eq_false hc94);refine cS<|bZ<|bZ<|cR<|bE<|sr<|sp2 hT ?_;refine nn<|bK ?_;have hlv:=out_end hinv23.2 (by omega);subst hlv;exact bL (LA,lcp) rfl (rv_tmp rfl) (.cons .head .nil) trivial rfl
def sY (c:iF):List dJ:=if dE c.c=true then lv (livesC c.c) else []
set_option maxRecDepth 100000 in
theorem Lives_spec(c:iF):cX Tryz.prog 18 [.agg #[.int .i64 c.vars,.slice c.bufs.addr c.bufs.list.length c.bufs.cap,.slice c.steps.addr c.steps.list.length c.steps.cap,.slice c.outs.addr c.outs.list.length c.outs.cap]] [] [oT c,bI.cells 0 0 [.int .i64 0,.int .i64 (-1)]] (fun(x:Option Addr×Nat)=> .tuple #[.slice x.1 (sY c).length x.2,.int .i64 (if dE c.c=true then 0 else 100)]) (fun(x:Option Addr×Nat)=>[iP.row (.slice x.1 (sY c).length x.2) 55 (sY c)]) (fun _=>[]):=by
 have hT:=dW;generalize hV:sY c=V;refine cD Tryz.func18 rfl Tryz.ntmps18 rfl ?_;intro β hM;refine sr<|iL rfl rfl rfl rfl rfl rfl fun b1=>?_;refine sp2 hT ?_;refine nn<|bF<|sr<|ss (ldN hT (dC .head)) ?_;refine cU Tryz.func25 (qT c) rfl rfl .nil ⟨(Has.of mT0),trivial⟩ fun _=>?_;refine sp hT ?_;refine nn<|bO rfl (fun hc6=>?_) (fun hc6=>?_)
 ·have hc6:=kG hc6;refine sr<|sp2 hT ?_;refine nn<|bK<|bN ?_;have hr:dE c.c=false:=by simp_all
  obtain rfl:V=[]:=by rw [←hV];simp [sY,hr]
  refine gB (t:=55) iP ?_;exact dO (none,0) rfl (rv_tmp rfl) (rv_tmp rfl) (.cons .head .nil) trivial (by rw [hr];rfl)
 have hc6:=kD hc6;refine bM<|bE<|sr<|ss (ldN hT (dC .head)) ?_;have hr:dE c.c=true:=by simp_all
 have hVe:V=lv (livesC c.c):=by rw [←hV];simp [sY,hr]
 have hVl:V.length=c.bufs.list.length:=by rw [hVe,sW,jC];exact cT _
 subst hVe;refine cU Tryz.func43 (bEp c hr) rfl rfl .nil ⟨(Has.of mT0),(Has.of mT1),trivial⟩ fun⟨LA,lcp⟩=>?_;refine sp2 hT ?_;refine nn<|bK ?_;exact dO (LA,lcp) rfl (rv_tmp rfl) (rv_tmp rfl) (by rw [hVl];exact(.cons .head .nil)) trivial (by rw [hVl,hr];rfl)
section
variable {α : Type} {x y : α}
theorem bGz{a b:List α}{k:Nat}(h:a.take k=b.take k)(hx:a[k]?=some x)(hy:b[k]?=some y)(e:x=y):a.take (k+1)=b.take (k+1):=by
 subst e;rw [List.take_add_one,List.take_add_one,h,hx,hy]
theorem take_all{a b:List α}{k:Nat}(h:a.take k=b.take k)(ha:a.length≤k)(hb:b.length≤k):a=b:=by
 rw [List.take_of_length_le ha,List.take_of_length_le hb] at h;exact h
theorem not_take{a b:List α}{k:Nat}(hx:a[k]?=some x)(hy:b[k]?=some y)(e:x≠y):a≠b:=by
 rintro rfl;rw [hx] at hy;exact e (Option.some.inj hy)
end
set_option maxRecDepth 100000 in
theorem bAb(p q:PolV)(hl:p.list.length≤140737488355328):cX Tryz.prog 100 [.slice p.addr p.list.length p.cap,.slice q.addr q.list.length q.cap] [] [dY.sl (.slice p.addr p.list.length p.cap) p.list,dY.sl (.slice q.addr q.list.length q.cap) q.list] (fun(_:Unit)=> .bool (decide (p.list=q.list))) (fun _=>[]) (fun _=>[]):=by
 have hT:=dW;refine cD Tryz.func100 rfl Tryz.ntmps100 rfl ?_;intro β hM;refine sr<|sp hT ?_;refine nn<|bF<|sr<|sp4 hT ?_;refine sp hT ?_;refine nn<|bO rfl (fun hc10=>?_) (fun hc10=>?_)
 ·have hc10:=bne_iff_ne.1 hc10;refine sr<|sp hT ?_;refine nn<|bK<|bN ?_;exact bL () rfl (rv_tmp rfl) .nil trivial (eqF_of (fun e=>by have:=congrArg List.length e;omega))
 have hc10:=bne_eq_false_iff_eq.1 hc10;refine bM<|bE<|bF<|sr<|sp3 hT ?_;refine nn<|bQ<|dH (ι:=Nat) [(0,_),(1,_),(12,_)] ⟨rfl,rfl,rfl,trivial⟩ (fun i=>[(13,.int .i64 (i:Nat))]) (fun _=>[]) (fun i=>[bI.pure (i≤p.list.length∧p.list.take i=q.list.take i)]) (fun i=>p.list.length-i) 0 ⟨rfl,trivial⟩ .nil ⟨Has.pure (⟨by omega,rfl⟩),trivial⟩ ?_;rintro i;refine bX (Has.of mT0) fun hinv4=>?_;refine sr<|sp hT ?_;refine nn<|bF<|bO rfl (fun hc14=>?_) (fun hc14=>?_)
 ·have hc14:=of_decide_eq_true hc14;refine bM<|bE<|bF<|bQ<|sr<|sp2 hT ?_;refine nn<|bF<|dX _ _ [(true,0),(true,1),(true,2),(true,3),(true,4),(true,5),(true,6),(true,7),(true,8)] fH (by decide+kernel) .nil bH.self ?_;refine puM hT ?_;refine puM hT ?_
  obtain⟨x1,hx2⟩: ∃x',p.list[i]?=some x':=⟨_,List.getElem?_eq_getElem (by omega)⟩
  refine stM rfl (bG hT (k:=i) (bC (Has.of mT1)) rfl rfl rfl rfl rfl rfl rfl (by omega)) ?_;refine stM rfl (cL hT (bV.knows (bC (Has.of mT1)) (k:=i) (x:=x1) hx2 0) rfl rfl rfl rfl rfl) ?_;refine puM hT ?_;refine puM hT ?_
  obtain⟨x3,hx4⟩: ∃x',q.list[i]?=some x':=⟨_,List.getElem?_eq_getElem (by omega)⟩
  refine stM rfl (bG hT (k:=i) (bC (Has.of mT2)) rfl rfl rfl rfl rfl rfl rfl (by omega)) ?_;refine stM rfl (cL hT (bV.knows (bC (Has.of mT2)) (k:=i) (x:=x3) hx4 0) rfl rfl rfl rfl rfl) ?_;refine stM rfl (sti_neq_mono x1 x3 rfl rfl rfl) ?_;refine cJ<|bE<|bO rfl (fun hc24=>?_) (fun hc24=>?_)
  ·refine sr<|sp hT ?_;refine nn<|bK<|bW<|bN<|bN<|bW<|bN ?_;exact bL () rfl (rv_tmp rfl) .nil trivial (eqF_of (not_take hx2 hx4 (mono_t ‹_›)))
  refine bM<|bU<|bE<|bD<|sp hT ?_;refine bT (z':=(((i+1):Nat):Int)) (cO (by omega) (by omega)) ?_;refine sp hT ?_;refine nn ?_;exact cG (i+1) (by omega) ⟨rfl,trivial⟩ ⟨rfl,rfl,rfl,trivial⟩ .nil ⟨Has.pure (⟨by omega,bGz hinv4.2 hx2 hx4 (mono_f ‹_›)⟩),trivial⟩ (bH.drop 1)
 have hc14:=Int.not_lt.1 (of_decide_eq_false hc14);refine cS<|bZ<|bZ<|cR<|bE<|sr<|sp hT ?_;refine nn<|bK ?_;exact bL () rfl (rv_tmp rfl) .nil trivial (eqT_of (take_all hinv4.2 (by omega) (by omega)))
set_option maxRecDepth 100000 in
theorem full1_spec(p q:PolV)(hl:p.list.length≤140737488355328):cX Tryz.prog 99 [.slice p.addr p.list.length p.cap,.slice q.addr q.list.length q.cap] [] [dY.sl (.slice p.addr p.list.length p.cap) p.list,dY.sl (.slice q.addr q.list.length q.cap) q.list] (fun(_:Unit)=> .bool (decide (p.list=q.list))) (fun _=>[]) (fun _=>[]):=by
 have hT:=dW;refine cD Tryz.func99 rfl Tryz.ntmps99 rfl ?_;intro β hM;refine sr<|sp hT ?_;refine nn<|sr<|sp2 hT ?_;refine cU Tryz.func100 (bAb p q hl) rfl rfl .nil ⟨(Has.of mT0),(Has.of mT1),trivial⟩ fun _=>?_;refine sp hT ?_;refine nn<|bK ?_;exact bL () rfl (rv_tmp rfl) .nil trivial (rfl)
set_option maxRecDepth 100000 in
theorem zU(A B:Option Addr)(ca cb:Nat)(a b:List PolV)(hl:a.length≤140737488355328):cX Tryz.prog 98 [.slice A a.length ca,.slice B b.length cb,.func (.func 99) #[] #[]] [] [jT.sl (.slice A a.length ca) a,xI a,jT.sl (.slice B b.length cb) b,xI b] (fun(_:Unit)=> .bool (decide (polsL a=polsL b))) (fun _=>[]) (fun _=>[]):=by
 have hT:=dW;refine cD Tryz.func98 rfl Tryz.ntmps98 rfl ?_;intro β hM;refine sr<|sp hT ?_;refine nn<|bF<|sr<|sp4 hT ?_;refine sp hT ?_;refine nn<|bO rfl (fun hc14=>?_) (fun hc14=>?_)
 ·have hc14:=bne_iff_ne.1 hc14;refine sr<|sp hT ?_;refine nn<|bK<|bN ?_;exact bL () rfl (rv_tmp rfl) .nil trivial (eqF_of (fun e=>by have:=congrArg List.length e;rw [dF,dF] at this;omega))
 have hc14:=bne_eq_false_iff_eq.1 hc14;refine bM<|bE<|bF<|sr<|sp3 hT ?_;refine nn<|bQ<|dH (ι:=Nat) [(1,_),(2,_),(15,_),(16,_)] ⟨rfl,rfl,rfl,rfl,trivial⟩ (fun i=>[(17,.int .i64 (i:Nat))]) (fun _=>[]) (fun i=>[bI.pure (i≤a.length∧(polsL a).take i=(polsL b).take i)]) (fun i=>a.length-i) 0 ⟨rfl,trivial⟩ .nil ⟨Has.pure (⟨by omega,rfl⟩),trivial⟩ ?_;rintro i;refine bX (Has.of mT0) fun hinv4=>?_;refine sr<|sp hT ?_;refine nn<|bF<|bO rfl (fun hc18=>?_) (fun hc18=>?_)
 ·have hc18:=of_decide_eq_true hc18;refine bM<|bE<|bF<|bQ<|sr<|sp hT ?_
  obtain⟨x1,hx2⟩: ∃x',a[i]?=some x':=⟨_,List.getElem?_eq_getElem (by omega)⟩
  refine ss (bG hT (k:=i) (bC (Has.of mT1)) rfl rfl rfl rfl rfl rfl rfl (by omega)) ?_;refine ss (bR hT (bV.knows (bC (Has.of mT1)) (k:=i) (x:=x1) hx2 0) rfl rfl rfl rfl rfl) ?_;refine sp2 hT ?_;refine nn<|sr<|sp2 hT ?_
  obtain⟨x3,hx4⟩: ∃x',b[i]?=some x':=⟨_,List.getElem?_eq_getElem (by omega)⟩
  refine ss (bG hT (k:=i) (bC (Has.of mT3)) rfl rfl rfl rfl rfl rfl rfl (by omega)) ?_;refine ss (bR hT (bV.knows (bC (Has.of mT3)) (k:=i) (x:=x3) hx4 0) rfl rfl rfl rfl rfl) ?_;refine sp hT ?_;refine nn<|sr<|sp3 hT ?_;refine bX (fQ (Has.each (Has.of mT2) (List.mem_of_getElem? hx2))) fun hxl=>?_;refine mA (bP Tryz.func99 rfl rfl) (full1_spec x1 x3 hxl) rfl rfl rfl rfl rfl rfl rfl .nil ⟨mD (Has.each (Has.of mT2) (List.mem_of_getElem? hx2)),mD (Has.each (Has.of mT4) (List.mem_of_getElem? hx4)),trivial⟩ fun _=>?_;refine sp hT ?_;refine nn<|bO rfl (fun hc30=>?_) (fun hc30=>?_)
  ·have hc30:=kG hc30;refine sr<|sp hT ?_;refine nn<|bK<|bW<|bN<|bN<|bW<|bN ?_;exact bL () rfl (rv_tmp rfl) .nil trivial (eqF_of (not_take (fW hx2) (fW hx4) (of_decide_eq_false (by simpa using (by assumption:(!decide _)=true)))))
  have hc30:=kD hc30;refine bM<|bU<|bE<|bD<|sp hT ?_;refine bT (z':=(((i+1):Nat):Int)) (cO (by omega) (by omega)) ?_;refine sp hT ?_;refine nn ?_;exact cG (i+1) (by omega) ⟨rfl,trivial⟩ ⟨rfl,rfl,rfl,rfl,trivial⟩ .nil ⟨Has.pure (⟨by omega,bGz hinv4.2 (fW hx2) (fW hx4) (of_decide_eq_true (by simpa using (by assumption:(!decide _)=false)))⟩),trivial⟩ (bH.drop 1)
 have hc18:=Int.not_lt.1 (of_decide_eq_false hc18);refine cS<|bZ<|bZ<|cR<|bE<|sr<|sp hT ?_;refine nn<|bK ?_;exact bL () rfl (rv_tmp rfl) .nil trivial (eqT_of (take_all hinv4.2 (by rw [dF];omega) (by rw [dF];omega)))
end Go.Proofs.YtofjmphlpdhohaaGreatDoor
