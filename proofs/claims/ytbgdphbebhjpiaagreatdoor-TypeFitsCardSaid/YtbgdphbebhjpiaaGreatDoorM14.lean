/- Texts of one proof, one behind the other: PrimG, MeanL, MeanU, MeanA, MeanB. -/
import Derived.Test.YtbgdphbebhjpiaaGreatDoorM13
import Derived.Test.YtbgdphbebhjpiaaGreatDoorM11
namespace Go.Proofs.YtbgdphbebhjpiaaGreatDoor
open Go.RowKit
def qT:List fI→Nat→Option Nat
 | [],n=>some n
 | x::r,n=>if hO x≤n∧1≤x.how∧x.how≤7∧(x.how=1→x.nums≠[]∧x.nums.length≤65536) then qT r (n-hO x+1) else none
theorem yM{x:fI}(h:x.how=1∨x.how=2):hO x=0:=by
 unfold hO;rw [if_neg (by omega),if_neg (by omega)]
theorem xL{x:fI}(h:x.how=4∨x.how=7):hO x=2:=by
 unfold hO;rw [if_neg (by omega),if_pos h]
theorem tD{x:fI}(h:x.how=3∨x.how=5∨x.how=6):hO x=1:=by
 unfold hO;rw [if_pos h]
theorem step_depth{st st':List fS}{x:fI}(h:iK st x=some st'):hO x≤st.length∧st'.length=st.length-hO x+1∧1≤x.how∧x.how≤7∧(x.how=1→x.nums≠[]∧x.nums.length≤65536):=by
 unfold iK at h;split at h
 ·rename_i hh;rw [yM hh]
  cases ho:operandS x with
  | none=>simp [ho] at h
  | some p=>
   simp only [ho,Option.map_some,Option.some.injEq] at h;subst h;refine⟨by omega,by simp,by omega,by omega,fun h1=>?_⟩;unfold operandS at ho;rw [if_neg (by omega)] at ho;split at ho
   ·cases ho
   ·rename_i hb;simp only [not_or,ne_eq,Classical.not_not,Nat.not_lt] at hb;exact⟨hb.2.2.1,by omega⟩
 ·split at h
  ·cases h
  ·rename_i h12 hk;simp only [not_or,Int.not_lt] at hk h12;unfold oQ at h
   by_cases h2:x.how=4∨x.how=7
   ·have e:uX x.how=true:=by unfold uX;rcases h2 with h2 | h2<;>rw [h2]<;>rfl
    rw [if_pos e] at h;rw [xL h2]
    match st,h with
    | p::q::r,h=>
     simp only [Option.some.injEq] at h;subst h;exact⟨by simp,by simp,by omega,by omega,fun h1=>by omega⟩
    | [p],h=>cases h
    | [],h=>cases h
   ·have e:uX x.how=false:=by
     unfold uX;simp only [Bool.or_eq_false_iff,beq_eq_false_iff_ne,ne_eq];omega
    rw [if_neg (by rw [e];simp)] at h;rw [tD (by omega)]
    match st,h with
    | p::r,h=>
     simp only [Option.some.injEq] at h;subst h;exact⟨by simp,by simp,by omega,by omega,fun h1=>by omega⟩
    | [],h=>cases h
theorem bDh: ∀{l:List fI} {st st':List fS},gB l st=some st'→qT l st.length=some st'.length
 | [],st,st',h=>by
  simp only [gB,Option.some.injEq] at h;subst h;rfl
 | x::l,st,st',h=>by
  rw [gB] at h
  cases h1:iK st x with
  | none=>rw [h1] at h;cases h
  | some s1=>
   rw [h1] at h;obtain⟨a,b,c,d,e⟩:=step_depth h1;rw [qT,if_pos ⟨a,c,d,e⟩,←b];exact bDh h
theorem bGk{l:List fI}{m:Nat}{t:Bs}(h:hU l m=some t):qT l 0=some 1:=by
 unfold hU at h;split at h
 ·cases h
 ·split at h
  ·rename_i hq;exact bDh (st:=[]) hq
  ·cases h
theorem bDo: ∀{ls:List pC} {o o':Bs},gA ls o=(o',true)→ ∀l∈ls,qT l.items 0=some 1
 | [],_,_,_,l,hl=>by simp at hl
 | [m],o,o',h,l,hl=>by
  rw [List.mem_singleton.1 hl];simp only [gA] at h
  cases hx:hU m.items 255 with
  | none=>rw [hx] at h;simp at h
  | some t=>exact bGk hx
 | m::n::ls,o,o',h,l,hl=>by
  have h':(match hU m.items 254 with
    | none=>(o,false)
    | some t=>if fJ m.name=false then (o,false) else gA (n::ls) (o++(((m.name++[58,32])++t)++[10])))=(o',true):=h
  cases hx:hU m.items 254 with
  | none=>rw [hx] at h';simp at h'
  | some t=>
   rw [hx] at h';simp only at h';split at h'
   ·simp at h'
   ·rcases List.mem_cons.1 hl with rfl | hl
    ·exact bGk hx
    ·exact bDo h' l hl
theorem right_depth{p:iM}(h:(fH p).2=true): ∀l∈p.lines,qT l.items 0=some 1:=by
 unfold fH at h;split at h
 ·cases h
 ·cases hi:nU p.inputs [] with
  | mk o b=>
   rw [hi] at h
   cases b with
   | false=>cases h
   | true=>exact bDo (o':=(gA p.lines o).1) (Prod.ext rfl h)
def bBi (N:xY):Prop:= ∀p∈N,jA p.2=true
theorem look_mem{k:Bs}{a:Arr}: ∀{N:xY},look k N=some a→ ∃p∈N,p.2=a
 | [],h=>by cases h
 | p::r,h=>by
  unfold look at h;split at h
  ·injection h with h
   exact⟨p,List.mem_cons_self ..,h⟩
  ·obtain⟨q,hq,e⟩:=look_mem h;exact⟨q,List.mem_cons_of_mem _ hq,e⟩
theorem bBi.look{N:xY}(h:bBi N){k:Bs}{a:Arr}(hk:look k N=some a):jA a=true:=by
 obtain⟨p,hp,e⟩:=look_mem hk;rw [←e];exact h p hp
theorem bBi.cons{N:xY}(h:bBi N){k:Bs}{a:Arr}(ha:jA a=true):bBi ((k,a)::N):=fun p hp=>by
 rcases List.mem_cons.1 hp with rfl | hp
 ·exact ha
 ·exact h p hp
def nUnused:Bs:=[117,110,117,115,101,100]
def SameBut(N' N:xY):Prop:= ∀k,k≠nUnused→look k N'=look k N
theorem SameBut.cons{N' N:xY}(h:SameBut N' N)(s:Bs)(a:Arr):SameBut ((s,a)::N') ((s,a)::N):=fun k hk=>by
 unfold look;split
 ·rfl
 ·exact h k hk
theorem bBb(k k':Bs)(v:Value): ∀kv:KVS,mL k (mN k' v kv)=if k==k' then some v else mL k kv
 | []=>by
  unfold mN mL;rfl
 | p::r=>by
  have ih:=bBb k k' v r;unfold mN
  by_cases h':k'=p.1
  ·rw [if_pos (beq_iff_eq.2 h')]
   by_cases h:k=k'
   ·rw [if_pos (beq_iff_eq.2 h),mL,if_pos (beq_iff_eq.2 h)]
   ·rw [if_neg (by simpa using h),mL,if_neg (by simpa using h),mL,if_neg (by simpa [h'] using fun e=>h (e.trans h'.symm))]
  ·rw [if_neg (by simpa using h')]
   by_cases h:k=p.1
   ·have hk: ¬k=k':=fun e=>h' (e.symm.trans h);rw [if_neg (by simpa using hk),mL,if_pos (beq_iff_eq.2 h),mL,if_pos (beq_iff_eq.2 h)]
   ·rw [mL,if_neg (by simpa using h),ih];split
    ·rfl
    ·rw [mL,if_neg (by simpa using h)]
def SeenR (kv:KVS)(out:List Bs):Prop:= ∀k,(mL k kv).getD (.bool false)= .bool (k==[] || out.contains k)
theorem seen_start:SeenR (mN [] (.bool true) []) []:=fun k=>by
 rw [bBb];cases hk:k==[]
 ·rfl
 ·rfl
theorem seen_add{kv:KVS}{out:List Bs}(h:SeenR kv out)(s:Bs):SeenR (mN s (.bool true) kv) (out++[s]):=fun k=>by
 rw [bBb];cases hk:k==s
 ·have hk': ¬k=s:=by simpa using hk
  have e:(out++[s]).contains k=out.contains k:=by simp [hk']
  rw [e];exact h k
 ·have hk':k=s:=by simpa using hk
  subst hk';simp
theorem zeroB(w:World):(zeroValue 4).run Tryz.prog w= .ok (.bool false) w:=by kernel_rfl
theorem mapSB:Tryz.prog.underlying 78=some (.map 9 4):=by kernel_rfl
def tA (p:iM)(rest:List qL)(out:List Bs)(kv:KVS):Prop:=SeenR kv out∧wO rest out=varsP p∧out.length+rest.length≤8000000000000
section
variable {p : iM} {l : List iS} {x : iS} {ds R : List qL} {d : qL} {out : List Bs} {kv : KVS} {i j : Nat}
theorem va_start(h:(iP p.inputs).length≤8000000000000):tA p (iP (p.inputs.drop 0)) [] (mN [] (.bool true) []):=⟨seen_start,rfl,by simpa using h⟩
theorem va_in(h:tA p (iP (l.drop i)) out kv)(hx:l[i]?=some x):tA p (x.sides.drop 0++iP (l.drop (i+1))) out kv:=by
 rw [mB hx] at h;exact h
theorem va_skip(h:tA p (ds.drop j++R) out kv)(hd:ds[j]?=some d)(hs:(d.name==[] || out.contains d.name)=true):tA p (ds.drop (j+1)++R) out kv:=by
 rw [mB hd,List.cons_append] at h;obtain⟨a,b,c⟩:=h;refine⟨a,?_,by simp at c⊢;omega⟩;rw [wO,if_pos (by simpa using hs)] at b;exact b
theorem va_add(h:tA p (ds.drop j++R) out kv)(hd:ds[j]?=some d)(hs:(d.name==[] || out.contains d.name)=false):tA p (ds.drop (j+1)++R) (out++[d.name]) (mN d.name (.bool true) kv):=by
 rw [mB hd,List.cons_append] at h;obtain⟨a,b,c⟩:=h;refine⟨seen_add a _,?_,by simp at c⊢;omega⟩;rw [wO,if_neg (by simpa using hs)] at b;exact b
theorem va_len(h:tA p (ds.drop j++R) out kv)(hd:ds[j]?=some d):out.length+1≤8000000000000:=by
 rw [mB hd,List.cons_append] at h;have:=h.2.2;simp at this;omega
theorem va_out(h:tA p (ds.drop j++R) out kv)(hj:ds.length≤j):tA p R out kv:=by
 rw [rI hj] at h;exact h
theorem va_end(h:tA p (iP (l.drop i)) out kv)(hi:l.length≤i):varsP p=out:=by
 rw [rI hi] at h;exact h.2.1.symm
end
set_option maxRecDepth 100000 in
theorem bKi(P:ProgV)(hl1:P.inputs.list.length≤140737488355328)(hs: ∀x∈P.inputs.list,x.sides.list.length≤140737488355328)(hTT:(iP P.pr.inputs).length≤8000000000000):dM Tryz.prog 12 [.agg #[.slice P.inputs.addr P.inputs.list.length P.inputs.cap,.slice P.lines.addr P.lines.list.length P.lines.cap]] [] [lD.sl (.slice P.inputs.addr P.inputs.list.length P.inputs.cap) P.inputs.list,jH P.inputs.list] (fun(x:Option Addr×Nat)=> .slice x.1 (varsP P.pr).length x.2) (fun _=>[]) (fun(x:Option Addr×Nat)=>[lG.sl (.slice x.1 (varsP P.pr).length x.2) (varsP P.pr),Fact.pure ((varsP P.pr).length≤x.2)]):=by
 have hT:=nQ;refine cQ Tryz.func12 rfl Tryz.ntmps12 rfl ?_;intro β hM;refine sr<|gC rfl rfl rfl rfl rfl rfl fun b1=>?_;refine sp hT ?_;refine nn<|sr<|sp hT ?_;refine nn<|sr<|bDl rfl rfl rfl rfl fun r2=>?_;refine mM .head rfl (.inr rfl) rfl mapSB Tryz.underlying9 rfl rfl rfl ?_;refine sp2 hT ?_;refine nn<|bB<|bB<|dS (t:=9) lG ?_;refine bD<|sp hT ?_;refine ss (ldO hT (bJ kT2)) ?_;refine sp2 hT ?_;refine nn<|bU<|dC (ι:=Nat×KVS×List Bs×Option Addr×Nat) [(4,_),(12,_),(13,_)] ⟨rfl,rfl,rfl,trivial⟩ (fun⟨i,kv,vs,A1,c1⟩=>[(3,.slice A1 vs.length c1),(14,.int .i64 (i:Nat))]) (fun⟨i,kv,vs,A1,c1⟩=>[rS r2 kv,lG.row (.slice A1 vs.length c1) 9 vs]) (fun⟨i,kv,vs,A1,c1⟩=>[Fact.pure (i≤P.inputs.list.length∧tA P.pr (iP (P.pr.inputs.drop i)) vs kv)]) (fun⟨i,kv,vs,A1,c1⟩=>P.inputs.list.length-i) (0,mN [] (.bool true) [],[],none,0) ⟨rfl,rfl,trivial⟩ (.cons kT1 (.cons .head .nil)) ⟨Has.pure (⟨by omega,va_start hTT⟩),trivial⟩ ?_;rintro⟨i,kv,vs,A1,c1⟩;dsimp only;refine bP (Has.of mT0) fun hinv4=>?_;refine sr<|sp hT ?_;refine nn<|bB<|bK rfl (fun hc15=>?_) (fun hc15=>?_)
 ·have hc15:=of_decide_eq_true hc15;refine bM<|bC<|bB<|bU<|sr ?_
  obtain⟨x3,hx4⟩: ∃x',P.inputs.list[i]?=some x':=⟨_,List.getElem?_eq_getElem (by omega)⟩
  refine ss (bV hT (k:=i) (bL (Has.of mT1)) rfl rfl rfl rfl rfl rfl rfl (by omega)) ?_;refine ss (fA hT (cP.knows (bL (Has.of mT1)) (k:=i) (x:=x3) hx4 0) rfl rfl rfl rfl rfl) ?_;refine cC rfl rfl rfl rfl jJ rfl fun b5=>?_;refine sto hT .head ?_;refine nn<|bB ?_;have hx0:P.pr.inputs[i]?=some x3.inp:=uA hx4;have hxs:=hs x3 (List.mem_of_getElem? hx4);refine bH (qV x3) (Has.each (Has.of mT2) (List.mem_of_getElem? hx4)) ?_;refine bD<|sp hT ?_;refine ss (ldO hT (dH .head)) ?_;refine sp2 hT ?_;refine nn<|bU<|dC (ι:=Nat×KVS×List Bs×Option Addr×Nat) [(4,_),(12,_),(13,_),(14,_),(19,_),(20,_)] ⟨rfl,rfl,rfl,rfl,rfl,rfl,trivial⟩ (fun⟨j,kv2,vs2,A2,c2⟩=>[(3,.slice A2 vs2.length c2),(21,.int .i64 (j:Nat))]) (fun⟨j,kv2,vs2,A2,c2⟩=>[rS r2 kv2,lG.row (.slice A2 vs2.length c2) 9 vs2]) (fun⟨j,kv2,vs2,A2,c2⟩=>[Fact.pure (j≤x3.sides.list.length∧tA P.pr (x3.inp.sides.drop j++iP (P.pr.inputs.drop (i+1))) vs2 kv2)]) (fun⟨j,kv2,vs2,A2,c2⟩=>x3.sides.list.length-j) (0,kv,vs,A1,c1) ⟨rfl,rfl,trivial⟩ (.cons kT1 (.cons kT1 .nil)) ⟨Has.pure (⟨by omega,va_in hinv4.2 hx0⟩),trivial⟩ ?_;rintro⟨j,kv2,vs2,A2,c2⟩;dsimp only;refine bP (Has.of mT0) fun hinv7=>?_;refine sr<|sp hT ?_;refine nn<|bB<|bK rfl (fun hc22=>?_) (fun hc22=>?_)
  ·have hc22:=of_decide_eq_true hc22;refine bM<|bC<|bB<|bU<|sr ?_
   obtain⟨x6,hx7⟩: ∃x',x3.sides.list[j]?=some x':=⟨_,List.getElem?_eq_getElem (by omega)⟩
   refine ss (bV hT (k:=j) (bL (Has.of mT1)) rfl rfl rfl rfl rfl rfl rfl (by omega)) ?_;refine ss (fA hT (cP.knows (bL (Has.of mT1)) (k:=j) (x:=x6) hx7 0) rfl rfl rfl rfl rfl) ?_;refine cC rfl rfl rfl rfl tU rfl fun b8=>?_;refine sto hT .head ?_;refine nn<|bB ?_;have hd0:x3.inp.sides[j]?=some x6.sd:=uA hx7;have hvl:=va_len hinv7.2 hd0;refine bD<|sp2 hT ?_;refine ss (ldO hT (bJ .head)) ?_;refine ss (sti_lookupS (lJ kT1) rfl mapSB Tryz.underlying9 zeroB rfl rfl (hinv7.2.1 x6.name)) ?_;refine sp hT ?_;refine nn<|bK rfl (fun hc29=>?_) (fun hc29=>?_)
   ·have hc29:=fT hc29;refine sr<|sp2 hT ?_;refine ss (ldO hT (bJ .head)) ?_;refine mM kT1 rfl (.inl rfl) rfl mapSB Tryz.underlying9 rfl rfl rfl ?_;refine nn<|bD<|sp2 hT ?_;refine ss (ldO hT (bJ kT1)) ?_;refine jC (m:=x6.name) rfl rfl rfl rfl rfl fun b9=>?_;refine kH kT3 (dE .head rfl) rfl rfl rfl rfl rfl rfl rfl (by simp;omega) fun A10 c11=>?_;refine sp hT ?_;refine dX<|bZ<|bC<|bD<|sp hT ?_;refine bT (z':=(((j+1):Nat):Int)) (cO (by omega) (by omega)) ?_;refine sp hT ?_;refine nn ?_;exact cL (j+1,(mN x6.name (.bool true) kv2),(vs2++[x6.name]),A10,c11) (by dsimp only;omega) ⟨rfl,rfl,trivial⟩ ⟨rfl,rfl,rfl,rfl,rfl,rfl,trivial⟩ (.cons kT2 (.cons .head (.cons kT2 (.cons kT2 .nil)))) ⟨Has.pure (⟨by dsimp only;omega,va_add hinv7.2 hd0 (by first | assumption | (simpa using ‹_›))⟩),trivial⟩ (bI.drop 1)
   have hc29:=fM hc29;refine bM<|bZ<|bC<|bD<|sp hT ?_;refine bT (z':=(((j+1):Nat):Int)) (cO (by omega) (by omega)) ?_;refine sp hT ?_;refine nn ?_;exact cL (j+1,kv2,vs2,A2,c2) (by dsimp only;omega) ⟨rfl,rfl,trivial⟩ ⟨rfl,rfl,rfl,rfl,rfl,rfl,trivial⟩ (.cons kT1 (.cons kT1 (.cons kT1 (.cons kT1 .nil)))) ⟨Has.pure (⟨by dsimp only;omega,va_skip hinv7.2 hd0 (by first | assumption | (simpa using ‹_›))⟩),trivial⟩ (bI.drop 1)
  have hc22:=Int.not_lt.1 (of_decide_eq_false hc22);refine cY<|cJ<|cJ<|cZ<|bZ<|bC<|bD<|sp hT ?_;refine bT (z':=(((i+1):Nat):Int)) (cO (by omega) (by omega)) ?_;refine sp hT ?_;refine nn ?_;exact cL (i+1,kv2,vs2,A2,c2) (by dsimp only;omega) ⟨rfl,rfl,trivial⟩ ⟨rfl,rfl,rfl,trivial⟩ (.cons .head (.cons .head (.cons kT1 .nil))) ⟨Has.pure (⟨by dsimp only;omega,va_out hinv7.2 (by show(x3.sides.list.map iX.sd).length≤j;rw [List.length_map];omega)⟩),trivial⟩ (bI.drop 3)
 have hc15:=Int.not_lt.1 (of_decide_eq_false hc15);refine cY<|cJ<|cJ<|cZ<|bC<|sr<|sp2 hT ?_;refine nn<|bF ?_;have he:=va_end hinv4.2 (by show(P.inputs.list.map InputV.inp).length≤i;rw [List.length_map];omega);rw [he];refine hQ kT1 fun hvc=>?_;refine cT kT1 ?_;exact bS (A1,c1) rfl (bE rfl) .nil ⟨(Has.of mT0),Has.pure hvc,trivial⟩ rfl
def rM.v (x:rM):Value:= .agg #[.slice x.sides.addr x.sides.list.length x.sides.cap,.slice x.data.addr x.data.list.length x.data.cap]
section
variable {p : iM} {dims : List Int} {ins : List Arr} {x : iS}
theorem bAo(h:(fH p).2=true):(iP p.inputs).length≤256:=by
 have hf:=xJ h
 have key: ∀l:List iS,(∀x∈l,x.sides.length≤4)→(iP l).length≤4*l.length:=by
  intro l
  induction l with
  | nil=>intro _;simp [iP]
  | cons x r ih=>
   intro hx;have e:iP (x::r)=x.sides++iP r:=rfl;have h1:=hx x (List.mem_cons_self ..);have h2:=ih fun y hy=>hx y (List.mem_cons_of_mem _ hy);rw [e,List.length_append,List.length_cons];omega
 have:=key p.inputs fun x hx=>(hf.input x hx).2.1;have:=hf.ins;omega
end
def bAf (vars:List Bs)(d:qL):Bool:=(d.name==[]&&oF d.n) || decide (6≤jF d.name vars 0)
section
variable {vars : List Bs} {l : List iS} {x : iS} {ds : List qL} {d : qL} {i j : Nat}
def bAm (vars:List Bs)(l:List iS)(i:Nat):Prop:=l.find? (fewB vars)=(l.drop i).find? (fewB vars)
def bDt (vars:List Bs)(ds:List qL)(j:Nat):Prop:=ds.any (bAf vars)=(ds.drop j).any (bAf vars)
theorem few_start:bAm vars l 0:=by simp [bAm]
theorem few_in:bDt vars ds 0:=by simp [bDt]
theorem bFk(h:bAm vars l i)(hx:l[i]?=some x)(k:bDt vars x.sides j)(hd:x.sides[j]?=some d)(hs:bAf vars d=true):l.find? (fewB vars)=some x:=by
 have e:fewB vars x=true:=by
  show x.sides.any (bAf vars)=true;rw [k,mB hd,List.any_cons,hs];rfl
 rw [h,mB hx,List.find?_cons,e]
theorem few_next(k:bDt vars ds j)(hd:ds[j]?=some d)(hs:bAf vars d=false):bDt vars ds (j+1):=by
 unfold bDt at k⊢;rw [k,mB hd,List.any_cons,hs,Bool.false_or]
theorem few_out(h:bAm vars l i)(hx:l[i]?=some x)(k:bDt vars x.sides j)(hj:x.sides.length≤j):bAm vars l (i+1):=by
 have e:fewB vars x=false:=by
  show x.sides.any (bAf vars)=false;rw [k,rI hj];rfl
 unfold bAm at h⊢;rw [h,mB hx,List.find?_cons,e]
theorem few_end(h:bAm vars l i)(hi:l.length≤i):l.find? (fewB vars)=none:=by
 unfold bAm at h;rw [h,rI hi];rfl
theorem fs_a(hn:d.name=[])(hb:oF d.n=true):bAf vars d=true:=by simp [bAf,hn,hb]
theorem fs_b(h:6≤jF d.name vars 0):bAf vars d=true:=by simp [bAf,h]
theorem fs_c(hb:oF d.n=false)(h:jF d.name vars 0<6):bAf vars d=false:=by
 have: ¬6≤jF d.name vars 0:=by omega
 simp [bAf,hb,this]
theorem fs_d(hn:d.name≠[])(h:jF d.name vars 0<6):bAf vars d=false:=by
 have: ¬6≤jF d.name vars 0:=by omega
 simp [bAf,hn,this]
end
theorem bLr: ∀(ds:List qL) (out:List Bs),(wO ds out).length≤out.length+ds.length
 | [],out=>by simp [wO]
 | d::r,out=>by
  have ih:=bLr r (if d.name=[]∨out.contains d.name=true then out else out++[d.name]);rw [wO];split at ih
  ·rename_i h;rw [if_pos h];simp;omega
  ·rename_i h;rw [if_neg h];simp at ih⊢;omega
theorem vars_le(p:iM):(varsP p).length≤(iP p.inputs).length:=by
 have:=bLr (iP p.inputs) []
 simpa [varsP] using this
end Go.Proofs.YtbgdphbebhjpiaaGreatDoor
