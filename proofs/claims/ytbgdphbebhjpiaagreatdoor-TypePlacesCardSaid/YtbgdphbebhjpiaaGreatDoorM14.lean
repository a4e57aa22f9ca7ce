/- Texts of one proof, one behind the other: PrimG, MeanL, MeanU, MeanA, MeanB. -/
import Derived.Test.YtbgdphbebhjpiaaGreatDoorM13
import Derived.Test.YtbgdphbebhjpiaaGreatDoorM11
namespace Go.Proofs.YtbgdphbebhjpiaaGreatDoor
open Go.RowKit
def nC:List dN→Nat→Option Nat
 | [],n=>some n
 | x::r,n=>if gU x≤n∧1≤x.how∧x.how≤7∧(x.how=1→x.nums≠[]∧x.nums.length≤65536) then nC r (n-gU x+1) else none
theorem zC{x:dN}(h:x.how=1∨x.how=2):gU x=0:=by
 unfold gU;rw [if_neg (by omega),if_neg (by omega)]
theorem wU{x:dN}(h:x.how=4∨x.how=7):gU x=2:=by
 unfold gU;rw [if_neg (by omega),if_pos h]
theorem tH{x:dN}(h:x.how=3∨x.how=5∨x.how=6):gU x=1:=by
 unfold gU;rw [if_pos h]
theorem step_depth{st st':List fM}{x:dN}(h:hZ st x=some st'):gU x≤st.length∧st'.length=st.length-gU x+1∧1≤x.how∧x.how≤7∧(x.how=1→x.nums≠[]∧x.nums.length≤65536):=by
 unfold hZ at h;split at h
 ·rename_i hh;rw [zC hh]
  cases ho:operandS x with
  | none=>simp [ho] at h
  | some p=>
   simp only [ho,Option.map_some,Option.some.injEq] at h;subst h;refine⟨by omega,by simp,by omega,by omega,fun h1=>?_⟩;unfold operandS at ho;rw [if_neg (by omega)] at ho;split at ho
   ·cases ho
   ·rename_i hb;simp only [not_or,ne_eq,Classical.not_not,Nat.not_lt] at hb;exact⟨hb.2.2.1,by omega⟩
 ·split at h
  ·cases h
  ·rename_i h12 hk;simp only [not_or,Int.not_lt] at hk h12;unfold oA at h
   by_cases h2:x.how=4∨x.how=7
   ·have e:pL x.how=true:=by unfold pL;rcases h2 with h2 | h2<;>rw [h2]<;>rfl
    rw [if_pos e] at h;rw [wU h2]
    match st,h with
    | p::q::r,h=>
     simp only [Option.some.injEq] at h;subst h;exact⟨by simp,by simp,by omega,by omega,fun h1=>by omega⟩
    | [p],h=>cases h
    | [],h=>cases h
   ·have e:pL x.how=false:=by
     unfold pL;simp only [Bool.or_eq_false_iff,beq_eq_false_iff_ne,ne_eq];omega
    rw [if_neg (by rw [e];simp)] at h;rw [tH (by omega)]
    match st,h with
    | p::r,h=>
     simp only [Option.some.injEq] at h;subst h;exact⟨by simp,by simp,by omega,by omega,fun h1=>by omega⟩
    | [],h=>cases h
theorem bDl: ∀{l:List dN} {st st':List fM},fS l st=some st'→nC l st.length=some st'.length
 | [],st,st',h=>by
  simp only [fS,Option.some.injEq] at h;subst h;rfl
 | x::l,st,st',h=>by
  rw [fS] at h
  cases h1:hZ st x with
  | none=>rw [h1] at h;cases h
  | some s1=>
   rw [h1] at h;obtain⟨a,b,c,d,e⟩:=step_depth h1;rw [nC,if_pos ⟨a,c,d,e⟩,←b];exact bDl h
theorem bGf{l:List dN}{m:Nat}{t:Bs}(h:gE l m=some t):nC l 0=some 1:=by
 unfold gE at h;split at h
 ·cases h
 ·split at h
  ·rename_i hq;exact bDl (st:=[]) hq
  ·cases h
theorem bEb: ∀{ls:List jR} {o o':Bs},fL ls o=(o',true)→ ∀l∈ls,nC l.items 0=some 1
 | [],_,_,_,l,hl=>by simp at hl
 | [m],o,o',h,l,hl=>by
  rw [List.mem_singleton.1 hl];simp only [fL] at h
  cases hx:gE m.items 255 with
  | none=>rw [hx] at h;simp at h
  | some t=>exact bGf hx
 | m::n::ls,o,o',h,l,hl=>by
  have h':(match gE m.items 254 with
    | none=>(o,false)
    | some t=>if dX m.name=false then (o,false) else fL (n::ls) (o++(((m.name++[58,32])++t)++[10])))=(o',true):=h
  cases hx:gE m.items 254 with
  | none=>rw [hx] at h';simp at h'
  | some t=>
   rw [hx] at h';simp only at h';split at h'
   ·simp at h'
   ·rcases List.mem_cons.1 hl with rfl | hl
    ·exact bGf hx
    ·exact bEb h' l hl
theorem bEh{p:gG}(h:(dF p).2=true): ∀l∈p.lines,nC l.items 0=some 1:=by
 unfold dF at h;split at h
 ·cases h
 ·cases hi:iO p.inputs [] with
  | mk o b=>
   rw [hi] at h
   cases b with
   | false=>cases h
   | true=>exact bEb (o':=(fL p.lines o).1) (Prod.ext rfl h)
def bAx (N:xZ):Prop:= ∀p∈N,rightA p.2=true
theorem look_mem{k:Bs}{a:Arr}: ∀{N:xZ},look k N=some a→ ∃p∈N,p.2=a
 | [],h=>by cases h
 | p::r,h=>by
  unfold look at h;split at h
  ·injection h with h
   exact⟨p,List.mem_cons_self ..,h⟩
  ·obtain⟨q,hq,e⟩:=look_mem h;exact⟨q,List.mem_cons_of_mem _ hq,e⟩
theorem bAx.look{N:xZ}(h:bAx N){k:Bs}{a:Arr}(hk:look k N=some a):rightA a=true:=by
 obtain⟨p,hp,e⟩:=look_mem hk;rw [←e];exact h p hp
theorem bAx.cons{N:xZ}(h:bAx N){k:Bs}{a:Arr}(ha:rightA a=true):bAx ((k,a)::N):=fun p hp=>by
 rcases List.mem_cons.1 hp with rfl | hp
 ·exact ha
 ·exact h p hp
theorem allSides_un(l:List fX):hO (l.map fX.un)=hO l:=by
 unfold hO;rw [List.flatMap_map];rfl
theorem vars_un(p:gG):varsP p.un=varsP p:=by
 unfold varsP gG.un;rw [allSides_un]
theorem find_un(vars:List Bs): ∀xs:List fX,(xs.map fX.un).find? (xM vars)=(xs.find? (xM vars)).map fX.un
 | []=>rfl
 | x::xs=>by
  have e:xM vars x.un=xM vars x:=rfl;rw [List.map_cons,List.find?_cons,List.find?_cons,e,find_un vars xs];cases xM vars x<;>rfl
def nUnused:Bs:=[117,110,117,115,101,100]
def SameBut(N' N:xZ):Prop:= ∀k,k≠nUnused→look k N'=look k N
theorem SameBut.cons{N' N:xZ}(h:SameBut N' N)(s:Bs)(a:Arr):SameBut ((s,a)::N') ((s,a)::N):=fun k hk=>by
 unfold look;split
 ·rfl
 ·exact h k hk
theorem bAi(k k':Bs)(v:Value): ∀kv:KVS,mV k (mW k' v kv)=if k==k' then some v else mV k kv
 | []=>by
  unfold mW mV;rfl
 | p::r=>by
  have ih:=bAi k k' v r;unfold mW
  by_cases h':k'=p.1
  ·rw [if_pos (beq_iff_eq.2 h')]
   by_cases h:k=k'
   ·rw [if_pos (beq_iff_eq.2 h),mV,if_pos (beq_iff_eq.2 h)]
   ·rw [if_neg (by simpa using h),mV,if_neg (by simpa using h),mV,if_neg (by simpa [h'] using fun e=>h (e.trans h'.symm))]
  ·rw [if_neg (by simpa using h')]
   by_cases h:k=p.1
   ·have hk: ¬k=k':=fun e=>h' (e.symm.trans h);rw [if_neg (by simpa using hk),mV,if_pos (beq_iff_eq.2 h),mV,if_pos (beq_iff_eq.2 h)]
   ·rw [mV,if_neg (by simpa using h),ih];split
    ·rfl
    ·rw [mV,if_neg (by simpa using h)]
def SeenR (kv:KVS)(out:List Bs):Prop:= ∀k,(mV k kv).getD (.bool false)= .bool (k==[] || out.contains k)
theorem seen_start:SeenR (mW [] (.bool true) []) []:=fun k=>by
 rw [bAi];cases hk:k==[]
 ·rfl
 ·rfl
theorem seen_add{kv:KVS}{out:List Bs}(h:SeenR kv out)(s:Bs):SeenR (mW s (.bool true) kv) (out++[s]):=fun k=>by
 rw [bAi];cases hk:k==s
 ·have hk': ¬k=s:=by simpa using hk
  have e:(out++[s]).contains k=out.contains k:=by simp [hk']
  rw [e];exact h k
 ·have hk':k=s:=by simpa using hk
  subst hk';simp
theorem zeroB(w:World):(zeroValue 4).run Tryz.prog w= .ok (.bool false) w:=by kernel_rfl
theorem mapSB:Tryz.prog.underlying 78=some (.map 9 4):=by kernel_rfl
def tM (p:gG)(rest:List nS)(out:List Bs)(kv:KVS):Prop:=SeenR kv out∧wJ rest out=varsP p∧out.length+rest.length≤8000000000000
section
variable {p : gG} {l : List fX} {x : fX} {ds R : List nS} {d : nS} {out : List Bs} {kv : KVS} {i j : Nat}
theorem va_start(h:(hO p.inputs).length≤8000000000000):tM p (hO (p.inputs.drop 0)) [] (mW [] (.bool true) []):=⟨seen_start,rfl,by simpa using h⟩
theorem va_in(h:tM p (hO (l.drop i)) out kv)(hx:l[i]?=some x):tM p (x.sides.drop 0++hO (l.drop (i+1))) out kv:=by
 rw [mF hx] at h;exact h
theorem va_skip(h:tM p (ds.drop j++R) out kv)(hd:ds[j]?=some d)(hs:(d.name==[] || out.contains d.name)=true):tM p (ds.drop (j+1)++R) out kv:=by
 rw [mF hd,List.cons_append] at h;obtain⟨a,b,c⟩:=h;refine⟨a,?_,by simp at c⊢;omega⟩;rw [wJ,if_pos (by simpa using hs)] at b;exact b
theorem va_add(h:tM p (ds.drop j++R) out kv)(hd:ds[j]?=some d)(hs:(d.name==[] || out.contains d.name)=false):tM p (ds.drop (j+1)++R) (out++[d.name]) (mW d.name (.bool true) kv):=by
 rw [mF hd,List.cons_append] at h;obtain⟨a,b,c⟩:=h;refine⟨seen_add a _,?_,by simp at c⊢;omega⟩;rw [wJ,if_neg (by simpa using hs)] at b;exact b
theorem va_len(h:tM p (ds.drop j++R) out kv)(hd:ds[j]?=some d):out.length+1≤8000000000000:=by
 rw [mF hd,List.cons_append] at h;have:=h.2.2;simp at this;omega
theorem va_out(h:tM p (ds.drop j++R) out kv)(hj:ds.length≤j):tM p R out kv:=by
 rw [rH hj] at h;exact h
theorem va_end(h:tM p (hO (l.drop i)) out kv)(hi:l.length≤i):varsP p=out:=by
 rw [rH hi] at h;exact h.2.1.symm
end
set_option maxRecDepth 100000 in
theorem bMg(P:ProgV)(hl1:P.inputs.list.length≤140737488355328)(hs: ∀x∈P.inputs.list,x.sides.list.length≤140737488355328)(hTT:(hO P.pr.inputs).length≤8000000000000):dT Tryz.prog 12 [.agg #[.slice P.inputs.addr P.inputs.list.length P.inputs.cap,.slice P.lines.addr P.lines.list.length P.lines.cap]] [] [jE.sl (.slice P.inputs.addr P.inputs.list.length P.inputs.cap) P.inputs.list,iK P.inputs.list] (fun(x:Option Addr×Nat)=> .slice x.1 (varsP P.pr).length x.2) (fun _=>[]) (fun(x:Option Addr×Nat)=>[lL.sl (.slice x.1 (varsP P.pr).length x.2) (varsP P.pr),Fact.pure ((varsP P.pr).length≤x.2)]):=by
 have hT:=meanT_ok;refine cU Tryz.func12 rfl Tryz.ntmps12 rfl ?_;intro β hM;refine sr<|gP rfl rfl rfl rfl rfl rfl fun b1=>?_;refine sp hT ?_;refine nn<|sr<|sp hT ?_;refine nn<|sr<|bDz rfl rfl rfl rfl fun r2=>?_;refine mO .head rfl (.inr rfl) rfl mapSB Tryz.underlying9 rfl rfl rfl ?_;refine sp2 hT ?_;refine nn<|bB<|bB<|dR (t:=9) lL ?_;refine bD<|sp hT ?_;refine ss (ldO hT (bJ kT2)) ?_;refine sp2 hT ?_;refine nn<|bX<|dI (ι:=Nat×KVS×List Bs×Option Addr×Nat) [(4,_),(12,_),(13,_)] ⟨rfl,rfl,rfl,trivial⟩ (fun⟨i,kv,vs,A1,c1⟩=>[(3,.slice A1 vs.length c1),(14,.int .i64 (i:Nat))]) (fun⟨i,kv,vs,A1,c1⟩=>[rU r2 kv,lL.row (.slice A1 vs.length c1) 9 vs]) (fun⟨i,kv,vs,A1,c1⟩=>[Fact.pure (i≤P.inputs.list.length∧tM P.pr (hO (P.pr.inputs.drop i)) vs kv)]) (fun⟨i,kv,vs,A1,c1⟩=>P.inputs.list.length-i) (0,mW [] (.bool true) [],[],none,0) ⟨rfl,rfl,trivial⟩ (.cons kT1 (.cons .head .nil)) ⟨Has.pure (⟨by omega,va_start hTT⟩),trivial⟩ ?_;rintro⟨i,kv,vs,A1,c1⟩;dsimp only;refine bR (Has.of mT0) fun hinv4=>?_;refine sr<|sp hT ?_;refine nn<|bB<|bK rfl (fun hc15=>?_) (fun hc15=>?_)
 ·have hc15:=of_decide_eq_true hc15;refine bN<|bC<|bB<|bX<|sr ?_
  obtain⟨x3,hx4⟩: ∃x',P.inputs.list[i]?=some x':=⟨_,List.getElem?_eq_getElem (by omega)⟩
  refine ss (bV hT (k:=i) (bM (Has.of mT1)) rfl rfl rfl rfl rfl rfl rfl (by omega)) ?_;refine ss (dU hT (cP.knows (bM (Has.of mT1)) (k:=i) (x:=x3) hx4 0) rfl rfl rfl rfl rfl) ?_;refine bY rfl rfl rfl rfl jT rfl fun b5=>?_;refine sto hT .head ?_;refine nn<|bB ?_;have hx0:P.pr.inputs[i]?=some x3.inp:=tU hx4;have hxs:=hs x3 (List.mem_of_getElem? hx4);refine bE (rC x3) (Has.each (Has.of mT2) (List.mem_of_getElem? hx4)) ?_;refine bD<|sp hT ?_;refine ss (ldO hT (dJ .head)) ?_;refine sp2 hT ?_;refine nn<|bX<|dI (ι:=Nat×KVS×List Bs×Option Addr×Nat) [(4,_),(12,_),(13,_),(14,_),(19,_),(20,_)] ⟨rfl,rfl,rfl,rfl,rfl,rfl,trivial⟩ (fun⟨j,kv2,vs2,A2,c2⟩=>[(3,.slice A2 vs2.length c2),(21,.int .i64 (j:Nat))]) (fun⟨j,kv2,vs2,A2,c2⟩=>[rU r2 kv2,lL.row (.slice A2 vs2.length c2) 9 vs2]) (fun⟨j,kv2,vs2,A2,c2⟩=>[Fact.pure (j≤x3.sides.list.length∧tM P.pr (x3.inp.sides.drop j++hO (P.pr.inputs.drop (i+1))) vs2 kv2)]) (fun⟨j,kv2,vs2,A2,c2⟩=>x3.sides.list.length-j) (0,kv,vs,A1,c1) ⟨rfl,rfl,trivial⟩ (.cons kT1 (.cons kT1 .nil)) ⟨Has.pure (⟨by omega,va_in hinv4.2 hx0⟩),trivial⟩ ?_;rintro⟨j,kv2,vs2,A2,c2⟩;dsimp only;refine bR (Has.of mT0) fun hinv7=>?_;refine sr<|sp hT ?_;refine nn<|bB<|bK rfl (fun hc22=>?_) (fun hc22=>?_)
  ·have hc22:=of_decide_eq_true hc22;refine bN<|bC<|bB<|bX<|sr ?_
   obtain⟨x6,hx7⟩: ∃x',x3.sides.list[j]?=some x':=⟨_,List.getElem?_eq_getElem (by omega)⟩
   refine ss (bV hT (k:=j) (bM (Has.of mT1)) rfl rfl rfl rfl rfl rfl rfl (by omega)) ?_;refine ss (dU hT (cP.knows (bM (Has.of mT1)) (k:=j) (x:=x6) hx7 0) rfl rfl rfl rfl rfl) ?_;refine bY rfl rfl rfl rfl tQ rfl fun b8=>?_;refine sto hT .head ?_;refine nn<|bB ?_;have hd0:x3.inp.sides[j]?=some x6.sd:=tU hx7;have hvl:=va_len hinv7.2 hd0;refine bD<|sp2 hT ?_;refine ss (ldO hT (bJ .head)) ?_;refine ss (sti_lookupS (lF kT1) rfl mapSB Tryz.underlying9 zeroB rfl rfl (hinv7.2.1 x6.name)) ?_;refine sp hT ?_;refine nn<|bK rfl (fun hc29=>?_) (fun hc29=>?_)
   ·have hc29:=fV hc29;refine sr<|sp2 hT ?_;refine ss (ldO hT (bJ .head)) ?_;refine mO kT1 rfl (.inl rfl) rfl mapSB Tryz.underlying9 rfl rfl rfl ?_;refine nn<|bD<|sp2 hT ?_;refine ss (ldO hT (bJ kT1)) ?_;refine jD (m:=x6.name) rfl rfl rfl rfl rfl fun b9=>?_;refine kL kT3 (dE .head rfl) rfl rfl rfl rfl rfl rfl rfl (by simp;omega) fun A10 c11=>?_;refine sp hT ?_;refine dY<|cD<|bC<|bD<|sp hT ?_;refine bT (z':=(((j+1):Nat):Int)) (cQ (by omega) (by omega)) ?_;refine sp hT ?_;refine nn ?_;exact cO (j+1,(mW x6.name (.bool true) kv2),(vs2++[x6.name]),A10,c11) (by dsimp only;omega) ⟨rfl,rfl,trivial⟩ ⟨rfl,rfl,rfl,rfl,rfl,rfl,trivial⟩ (.cons kT2 (.cons .head (.cons kT2 (.cons kT2 .nil)))) ⟨Has.pure (⟨by dsimp only;omega,va_add hinv7.2 hd0 (by first | assumption | (simpa using ‹_›))⟩),trivial⟩ (bI.drop 1)
   have hc29:=fP hc29;refine bN<|cD<|bC<|bD<|sp hT ?_;refine bT (z':=(((j+1):Nat):Int)) (cQ (by omega) (by omega)) ?_;refine sp hT ?_;refine nn ?_;exact cO (j+1,kv2,vs2,A2,c2) (by dsimp only;omega) ⟨rfl,rfl,trivial⟩ ⟨rfl,rfl,rfl,rfl,rfl,rfl,trivial⟩ (.cons kT1 (.cons kT1 (.cons kT1 (.cons kT1 .nil)))) ⟨Has.pure (⟨by dsimp only;omega,va_skip hinv7.2 hd0 (by first | assumption | (simpa using ‹_›))⟩),trivial⟩ (bI.drop 1)
  have hc22:=Int.not_lt.1 (of_decide_eq_false hc22);refine dC<|cM<|cM<|dB<|cD<|bC<|bD<|sp hT ?_;refine bT (z':=(((i+1):Nat):Int)) (cQ (by omega) (by omega)) ?_;refine sp hT ?_;refine nn ?_;exact cO (i+1,kv2,vs2,A2,c2) (by dsimp only;omega) ⟨rfl,rfl,trivial⟩ ⟨rfl,rfl,rfl,trivial⟩ (.cons .head (.cons .head (.cons kT1 .nil))) ⟨Has.pure (⟨by dsimp only;omega,va_out hinv7.2 (by show(x3.sides.list.map jA.sd).length≤j;rw [List.length_map];omega)⟩),trivial⟩ (bI.drop 3)
 have hc15:=Int.not_lt.1 (of_decide_eq_false hc15);refine dC<|cM<|cM<|dB<|bC<|sr<|sp2 hT ?_;refine nn<|bG ?_;have he:=va_end hinv4.2 (by show(P.inputs.list.map InputV.inp).length≤i;rw [List.length_map];omega);rw [he];refine iD kT1 fun hvc=>?_;refine cS kT1 ?_;exact bW (A1,c1) rfl (bF rfl) .nil ⟨(Has.of mT0),Has.pure hvc,trivial⟩ rfl
def ArrV.v(x:ArrV):Value:= .agg #[.slice x.sides.addr x.sides.list.length x.sides.cap,.slice x.data.addr x.data.list.length x.data.cap]
section
variable {p : gG} {dims : List Int} {ins : List Arr} {x : fX}
theorem bAp(h:(dF p).2=true):(hO p.inputs).length≤256:=by
 have hf:=rV h
 have key: ∀l:List fX,(∀x∈l,x.sides.length≤4)→(hO l).length≤4*l.length:=by
  intro l
  induction l with
  | nil=>intro _;simp [hO]
  | cons x r ih=>
   intro hx;have e:hO (x::r)=x.sides++hO r:=rfl;have h1:=hx x (List.mem_cons_self ..);have h2:=ih fun y hy=>hx y (List.mem_cons_of_mem _ hy);rw [e,List.length_append,List.length_cons];omega
 have:=key p.inputs fun x hx=>(hf.input x hx).2.1;have:=hf.ins;omega
end
def zK (vars:List Bs)(d:nS):Bool:=(d.name==[]&&bIl d.n) || decide (6≤jL d.name vars 0)
section
variable {vars : List Bs} {l : List fX} {x : fX} {ds : List nS} {d : nS} {i j : Nat}
def zZ (vars:List Bs)(l:List fX)(i:Nat):Prop:=l.find? (xM vars)=(l.drop i).find? (xM vars)
def bEj (vars:List Bs)(ds:List nS)(j:Nat):Prop:=ds.any (zK vars)=(ds.drop j).any (zK vars)
theorem few_start:zZ vars l 0:=by simp [zZ]
theorem few_in:bEj vars ds 0:=by simp [bEj]
theorem bFk(h:zZ vars l i)(hx:l[i]?=some x)(k:bEj vars x.sides j)(hd:x.sides[j]?=some d)(hs:zK vars d=true):l.find? (xM vars)=some x:=by
 have e:xM vars x=true:=by
  show x.sides.any (zK vars)=true;rw [k,mF hd,List.any_cons,hs];rfl
 rw [h,mF hx,List.find?_cons,e]
theorem few_next(k:bEj vars ds j)(hd:ds[j]?=some d)(hs:zK vars d=false):bEj vars ds (j+1):=by
 unfold bEj at k⊢;rw [k,mF hd,List.any_cons,hs,Bool.false_or]
theorem few_out(h:zZ vars l i)(hx:l[i]?=some x)(k:bEj vars x.sides j)(hj:x.sides.length≤j):zZ vars l (i+1):=by
 have e:xM vars x=false:=by
  show x.sides.any (zK vars)=false;rw [k,rH hj];rfl
 unfold zZ at h⊢;rw [h,mF hx,List.find?_cons,e]
theorem few_end(h:zZ vars l i)(hi:l.length≤i):l.find? (xM vars)=none:=by
 unfold zZ at h;rw [h,rH hi];rfl
theorem fs_a(hn:d.name=[])(hb:bIl d.n=true):zK vars d=true:=by simp [zK,hn,hb]
theorem fs_b(h:6≤jL d.name vars 0):zK vars d=true:=by simp [zK,h]
theorem fs_c(hb:bIl d.n=false)(h:jL d.name vars 0<6):zK vars d=false:=by
 have: ¬6≤jL d.name vars 0:=by omega
 simp [zK,hb,this]
theorem fs_d(hn:d.name≠[])(h:jL d.name vars 0<6):zK vars d=false:=by
 have: ¬6≤jL d.name vars 0:=by omega
 simp [zK,hn,this]
end
theorem bMj: ∀(ds:List nS) (out:List Bs),(wJ ds out).length≤out.length+ds.length
 | [],out=>by simp [wJ]
 | d::r,out=>by
  have ih:=bMj r (if d.name=[]∨out.contains d.name=true then out else out++[d.name]);rw [wJ];split at ih
  ·rename_i h;rw [if_pos h];simp;omega
  ·rename_i h;rw [if_neg h];simp at ih⊢;omega
theorem vars_le(p:gG):(varsP p).length≤(hO p.inputs).length:=by
 have:=bMj (hO p.inputs) []
 simpa [varsP] using this
end Go.Proofs.YtbgdphbebhjpiaaGreatDoor
