/- Texts of one proof, one behind the other: PrimG, MeanL, MeanU, MeanA, MeanB. -/
import Derived.Test.YtbgdphbebhjpiaaGreatDoorM13
import Derived.Test.YtbgdphbebhjpiaaGreatDoorM11
namespace Go.Proofs.YtbgdphbebhjpiaaGreatDoor
open Go.RowKit
def lG:List dJ→Nat→Option Nat
 | [],n=>some n
 | x::r,n=>if gZ x≤n∧1≤x.how∧x.how≤7∧(x.how=1→x.nums≠[]∧x.nums.length≤65536) then lG r (n-gZ x+1) else none
theorem yU{x:dJ}(h:x.how=1∨x.how=2):gZ x=0:=by
 unfold gZ;rw [if_neg (by omega),if_neg (by omega)]
theorem wN{x:dJ}(h:x.how=4∨x.how=7):gZ x=2:=by
 unfold gZ;rw [if_neg (by omega),if_pos h]
theorem sY{x:dJ}(h:x.how=3∨x.how=5∨x.how=6):gZ x=1:=by
 unfold gZ;rw [if_pos h]
theorem step_depth{st st':List fS}{x:dJ}(h:iH st x=some st'):gZ x≤st.length∧st'.length=st.length-gZ x+1∧1≤x.how∧x.how≤7∧(x.how=1→x.nums≠[]∧x.nums.length≤65536):=by
 unfold iH at h;split at h
 ·rename_i hh;rw [yU hh]
  cases ho:operandS x with
  | none=>simp [ho] at h
  | some p=>
   simp only [ho,Option.map_some,Option.some.injEq] at h;subst h;refine⟨by omega,by simp,by omega,by omega,fun h1=>?_⟩;unfold operandS at ho;rw [if_neg (by omega)] at ho;split at ho
   ·cases ho
   ·rename_i hb;simp only [not_or,ne_eq,Classical.not_not,Nat.not_lt] at hb;exact⟨hb.2.2.1,by omega⟩
 ·split at h
  ·cases h
  ·rename_i h12 hk;simp only [not_or,Int.not_lt] at hk h12;unfold oU at h
   by_cases h2:x.how=4∨x.how=7
   ·have e:uW x.how=true:=by unfold uW;rcases h2 with h2 | h2<;>rw [h2]<;>rfl
    rw [if_pos e] at h;rw [wN h2]
    match st,h with
    | p::q::r,h=>
     simp only [Option.some.injEq] at h;subst h;exact⟨by simp,by simp,by omega,by omega,fun h1=>by omega⟩
    | [p],h=>cases h
    | [],h=>cases h
   ·have e:uW x.how=false:=by
     unfold uW;simp only [Bool.or_eq_false_iff,beq_eq_false_iff_ne,ne_eq];omega
    rw [if_neg (by rw [e];simp)] at h;rw [sY (by omega)]
    match st,h with
    | p::r,h=>
     simp only [Option.some.injEq] at h;subst h;exact⟨by simp,by simp,by omega,by omega,fun h1=>by omega⟩
    | [],h=>cases h
theorem bDt: ∀{l:List dJ} {st st':List fS},fT l st=some st'→lG l st.length=some st'.length
 | [],st,st',h=>by
  simp only [fT,Option.some.injEq] at h;subst h;rfl
 | x::l,st,st',h=>by
  rw [fT] at h
  cases h1:iH st x with
  | none=>rw [h1] at h;cases h
  | some s1=>
   rw [h1] at h;obtain⟨a,b,c,d,e⟩:=step_depth h1;rw [lG,if_pos ⟨a,c,d,e⟩,←b];exact bDt h
theorem bJw{l:List dJ}{m:Nat}{t:Bs}(h:gE l m=some t):lG l 0=some 1:=by
 unfold gE at h;split at h
 ·cases h
 ·split at h
  ·rename_i hq;exact bDt (st:=[]) hq
  ·cases h
theorem bDo: ∀{ls:List kL} {o o':Bs},fO ls o=(o',true)→ ∀l∈ls,lG l.items 0=some 1
 | [],_,_,_,l,hl=>by simp at hl
 | [m],o,o',h,l,hl=>by
  rw [List.mem_singleton.1 hl];simp only [fO] at h
  cases hx:gE m.items 255 with
  | none=>rw [hx] at h;simp at h
  | some t=>exact bJw hx
 | m::n::ls,o,o',h,l,hl=>by
  have h':(match gE m.items 254 with
    | none=>(o,false)
    | some t=>if dS m.name=false then (o,false) else fO (n::ls) (o++(((m.name++[58,32])++t)++[10])))=(o',true):=h
  cases hx:gE m.items 254 with
  | none=>rw [hx] at h';simp at h'
  | some t=>
   rw [hx] at h';simp only at h';split at h'
   ·simp at h'
   ·rcases List.mem_cons.1 hl with rfl | hl
    ·exact bJw hx
    ·exact bDo h' l hl
theorem vA{p:Prog}(h:(dQ p).2=true): ∀l∈p.lines,lG l.items 0=some 1:=by
 unfold dQ at h;split at h
 ·cases h
 ·cases hi:jX p.inputs [] with
  | mk o b=>
   rw [hi] at h
   cases b with
   | false=>cases h
   | true=>exact bDo (o':=(fO p.lines o).1) (Prod.ext rfl h)
def zV (N:xL):Prop:= ∀p∈N,rightA p.2=true
theorem look_mem{k:Bs}{a:Arr}: ∀{N:xL},look k N=some a→ ∃p∈N,p.2=a
 | [],h=>by cases h
 | p::r,h=>by
  unfold look at h;split at h
  ·injection h with h
   exact⟨p,List.mem_cons_self ..,h⟩
  ·obtain⟨q,hq,e⟩:=look_mem h;exact⟨q,List.mem_cons_of_mem _ hq,e⟩
theorem zV.look{N:xL}(h:zV N){k:Bs}{a:Arr}(hk:look k N=some a):rightA a=true:=by
 obtain⟨p,hp,e⟩:=look_mem hk;rw [←e];exact h p hp
theorem zV.cons{N:xL}(h:zV N){k:Bs}{a:Arr}(ha:rightA a=true):zV ((k,a)::N):=fun p hp=>by
 rcases List.mem_cons.1 hp with rfl | hp
 ·exact ha
 ·exact h p hp
theorem allSides_un(l:List gG):iC (l.map gG.un)=iC l:=by
 unfold iC;rw [List.flatMap_map];rfl
theorem vars_un(p:Prog):varsP p.un=varsP p:=by
 unfold varsP Prog.un;rw [allSides_un]
theorem find_un(vars:List Bs): ∀xs:List gG,(xs.map gG.un).find? (rN vars)=(xs.find? (rN vars)).map gG.un
 | []=>rfl
 | x::xs=>by
  have e:rN vars x.un=rN vars x:=rfl;rw [List.map_cons,List.find?_cons,List.find?_cons,e,find_un vars xs];cases rN vars x<;>rfl
def nUnused:Bs:=[117,110,117,115,101,100]
def SameBut(N' N:xL):Prop:= ∀k,k≠nUnused→look k N'=look k N
theorem SameBut.cons{N' N:xL}(h:SameBut N' N)(s:Bs)(a:Arr):SameBut ((s,a)::N') ((s,a)::N):=fun k hk=>by
 unfold look;split
 ·rfl
 ·exact h k hk
theorem zM(k k':Bs)(v:Value): ∀kv:KVS,mU k (mP k' v kv)=if k==k' then some v else mU k kv
 | []=>by
  unfold mP mU;rfl
 | p::r=>by
  have ih:=zM k k' v r;unfold mP
  by_cases h':k'=p.1
  ·rw [if_pos (beq_iff_eq.2 h')]
   by_cases h:k=k'
   ·rw [if_pos (beq_iff_eq.2 h),mU,if_pos (beq_iff_eq.2 h)]
   ·rw [if_neg (by simpa using h),mU,if_neg (by simpa using h),mU,if_neg (by simpa [h'] using fun e=>h (e.trans h'.symm))]
  ·rw [if_neg (by simpa using h')]
   by_cases h:k=p.1
   ·have hk: ¬k=k':=fun e=>h' (e.symm.trans h);rw [if_neg (by simpa using hk),mU,if_pos (beq_iff_eq.2 h),mU,if_pos (beq_iff_eq.2 h)]
   ·rw [mU,if_neg (by simpa using h),ih];split
    ·rfl
    ·rw [mU,if_neg (by simpa using h)]
def SeenR (kv:KVS)(out:List Bs):Prop:= ∀k,(mU k kv).getD (.bool false)= .bool (k==[] || out.contains k)
theorem seen_start:SeenR (mP [] (.bool true) []) []:=fun k=>by
 rw [zM];cases hk:k==[]
 ·rfl
 ·rfl
theorem seen_add{kv:KVS}{out:List Bs}(h:SeenR kv out)(s:Bs):SeenR (mP s (.bool true) kv) (out++[s]):=fun k=>by
 rw [zM];cases hk:k==s
 ·have hk': ¬k=s:=by simpa using hk
  have e:(out++[s]).contains k=out.contains k:=by simp [hk']
  rw [e];exact h k
 ·have hk':k=s:=by simpa using hk
  subst hk';simp
theorem zeroB(w:World):(zeroValue 4).run Tryz.prog w= .ok (.bool false) w:=by kernel_rfl
theorem mapSB:Tryz.prog.underlying 78=some (.map 9 4):=by kernel_rfl
def sZ (p:Prog)(rest:List qM)(out:List Bs)(kv:KVS):Prop:=SeenR kv out∧vM rest out=varsP p∧out.length+rest.length≤8000000000000
section
variable {p : Prog} {l : List gG} {x : gG} {ds R : List qM} {d : qM} {out : List Bs} {kv : KVS} {i j : Nat}
theorem va_start(h:(iC p.inputs).length≤8000000000000):sZ p (iC (p.inputs.drop 0)) [] (mP [] (.bool true) []):=⟨seen_start,rfl,by simpa using h⟩
theorem va_in(h:sZ p (iC (l.drop i)) out kv)(hx:l[i]?=some x):sZ p (x.sides.drop 0++iC (l.drop (i+1))) out kv:=by
 rw [mD hx] at h;exact h
theorem va_skip(h:sZ p (ds.drop j++R) out kv)(hd:ds[j]?=some d)(hs:(d.name==[] || out.contains d.name)=true):sZ p (ds.drop (j+1)++R) out kv:=by
 rw [mD hd,List.cons_append] at h;obtain⟨a,b,c⟩:=h;refine⟨a,?_,by simp at c⊢;omega⟩;rw [vM,if_pos (by simpa using hs)] at b;exact b
theorem va_add(h:sZ p (ds.drop j++R) out kv)(hd:ds[j]?=some d)(hs:(d.name==[] || out.contains d.name)=false):sZ p (ds.drop (j+1)++R) (out++[d.name]) (mP d.name (.bool true) kv):=by
 rw [mD hd,List.cons_append] at h;obtain⟨a,b,c⟩:=h;refine⟨seen_add a _,?_,by simp at c⊢;omega⟩;rw [vM,if_neg (by simpa using hs)] at b;exact b
theorem va_len(h:sZ p (ds.drop j++R) out kv)(hd:ds[j]?=some d):out.length+1≤8000000000000:=by
 rw [mD hd,List.cons_append] at h;have:=h.2.2;simp at this;omega
theorem va_out(h:sZ p (ds.drop j++R) out kv)(hj:ds.length≤j):sZ p R out kv:=by
 rw [qX hj] at h;exact h
theorem va_end(h:sZ p (iC (l.drop i)) out kv)(hi:l.length≤i):varsP p=out:=by
 rw [qX hi] at h;exact h.2.1.symm
end
set_option maxRecDepth 100000 in
theorem bMl(P:ProgV)(hl1:P.inputs.list.length≤140737488355328)(hs: ∀x∈P.inputs.list,x.sides.list.length≤140737488355328)(hTT:(iC P.pr.inputs).length≤8000000000000):dX Tryz.prog 12 [.agg #[.slice P.inputs.addr P.inputs.list.length P.inputs.cap,.slice P.lines.addr P.lines.list.length P.lines.cap]] [] [kU.sl (.slice P.inputs.addr P.inputs.list.length P.inputs.cap) P.inputs.list,jA P.inputs.list] (fun(x:Option Addr×Nat)=> .slice x.1 (varsP P.pr).length x.2) (fun _=>[]) (fun(x:Option Addr×Nat)=>[lA.sl (.slice x.1 (varsP P.pr).length x.2) (varsP P.pr),Fact.pure ((varsP P.pr).length≤x.2)]):=by
 have hT:=meanT_ok;refine cW Tryz.func12 rfl Tryz.ntmps12 rfl ?_;intro β hM;refine sr<|hQ rfl rfl rfl rfl rfl rfl fun b1=>?_;refine sp hT ?_;refine nn<|sr<|sp hT ?_;refine nn<|sr<|bDj rfl rfl rfl rfl fun r2=>?_;refine mO .head rfl (.inr rfl) rfl mapSB Tryz.underlying9 rfl rfl rfl ?_;refine sp2 hT ?_;refine nn<|bA<|bA<|dR (t:=9) lA ?_;refine bD<|sp hT ?_;refine ss (ldO hT (bJ kT2)) ?_;refine sp2 hT ?_;refine nn<|bX<|dG (ι:=Nat×KVS×List Bs×Option Addr×Nat) [(4,_),(12,_),(13,_)] ⟨rfl,rfl,rfl,trivial⟩ (fun⟨i,kv,vs,A1,c1⟩=>[(3,.slice A1 vs.length c1),(14,.int .i64 (i:Nat))]) (fun⟨i,kv,vs,A1,c1⟩=>[sB r2 kv,lA.row (.slice A1 vs.length c1) 9 vs]) (fun⟨i,kv,vs,A1,c1⟩=>[Fact.pure (i≤P.inputs.list.length∧sZ P.pr (iC (P.pr.inputs.drop i)) vs kv)]) (fun⟨i,kv,vs,A1,c1⟩=>P.inputs.list.length-i) (0,mP [] (.bool true) [],[],none,0) ⟨rfl,rfl,trivial⟩ (.cons kT1 (.cons .head .nil)) ⟨Has.pure (⟨by omega,va_start hTT⟩),trivial⟩ ?_;rintro⟨i,kv,vs,A1,c1⟩;dsimp only;refine bS (Has.of mT0) fun hinv4=>?_;refine sr<|sp hT ?_;refine nn<|bA<|bL rfl (fun hc15=>?_) (fun hc15=>?_)
 ·have hc15:=of_decide_eq_true hc15;refine bN<|bC<|bA<|bX<|sr ?_
  obtain⟨x3,hx4⟩: ∃x',P.inputs.list[i]?=some x':=⟨_,List.getElem?_eq_getElem (by omega)⟩
  refine ss (bU hT (k:=i) (bK (Has.of mT1)) rfl rfl rfl rfl rfl rfl rfl (by omega)) ?_;refine ss (dU hT (cN.knows (bK (Has.of mT1)) (k:=i) (x:=x3) hx4 0) rfl rfl rfl rfl rfl) ?_;refine bY rfl rfl rfl rfl jW rfl fun b5=>?_;refine sto hT .head ?_;refine nn<|bA ?_;have hx0:P.pr.inputs[i]?=some x3.inp:=tL hx4;have hxs:=hs x3 (List.mem_of_getElem? hx4);refine bE (pG x3) (Has.each (Has.of mT2) (List.mem_of_getElem? hx4)) ?_;refine bD<|sp hT ?_;refine ss (ldO hT (dI .head)) ?_;refine sp2 hT ?_;refine nn<|bX<|dG (ι:=Nat×KVS×List Bs×Option Addr×Nat) [(4,_),(12,_),(13,_),(14,_),(19,_),(20,_)] ⟨rfl,rfl,rfl,rfl,rfl,rfl,trivial⟩ (fun⟨j,kv2,vs2,A2,c2⟩=>[(3,.slice A2 vs2.length c2),(21,.int .i64 (j:Nat))]) (fun⟨j,kv2,vs2,A2,c2⟩=>[sB r2 kv2,lA.row (.slice A2 vs2.length c2) 9 vs2]) (fun⟨j,kv2,vs2,A2,c2⟩=>[Fact.pure (j≤x3.sides.list.length∧sZ P.pr (x3.inp.sides.drop j++iC (P.pr.inputs.drop (i+1))) vs2 kv2)]) (fun⟨j,kv2,vs2,A2,c2⟩=>x3.sides.list.length-j) (0,kv,vs,A1,c1) ⟨rfl,rfl,trivial⟩ (.cons kT1 (.cons kT1 .nil)) ⟨Has.pure (⟨by omega,va_in hinv4.2 hx0⟩),trivial⟩ ?_;rintro⟨j,kv2,vs2,A2,c2⟩;dsimp only;refine bS (Has.of mT0) fun hinv7=>?_;refine sr<|sp hT ?_;refine nn<|bA<|bL rfl (fun hc22=>?_) (fun hc22=>?_)
  ·have hc22:=of_decide_eq_true hc22;refine bN<|bC<|bA<|bX<|sr ?_
   obtain⟨x6,hx7⟩: ∃x',x3.sides.list[j]?=some x':=⟨_,List.getElem?_eq_getElem (by omega)⟩
   refine ss (bU hT (k:=j) (bK (Has.of mT1)) rfl rfl rfl rfl rfl rfl rfl (by omega)) ?_;refine ss (dU hT (cN.knows (bK (Has.of mT1)) (k:=j) (x:=x6) hx7 0) rfl rfl rfl rfl rfl) ?_;refine bY rfl rfl rfl rfl tZ rfl fun b8=>?_;refine sto hT .head ?_;refine nn<|bA ?_;have hd0:x3.inp.sides[j]?=some x6.sd:=tL hx7;have hvl:=va_len hinv7.2 hd0;refine bD<|sp2 hT ?_;refine ss (ldO hT (bJ .head)) ?_;refine ss (sti_lookupS (lQ kT1) rfl mapSB Tryz.underlying9 zeroB rfl rfl (hinv7.2.1 x6.name)) ?_;refine sp hT ?_;refine nn<|bL rfl (fun hc29=>?_) (fun hc29=>?_)
   ·have hc29:=fX hc29;refine sr<|sp2 hT ?_;refine ss (ldO hT (bJ .head)) ?_;refine mO kT1 rfl (.inl rfl) rfl mapSB Tryz.underlying9 rfl rfl rfl ?_;refine nn<|bD<|sp2 hT ?_;refine ss (ldO hT (bJ kT1)) ?_;refine jH (m:=x6.name) rfl rfl rfl rfl rfl fun b9=>?_;refine kT kT3 (dF .head rfl) rfl rfl rfl rfl rfl rfl rfl (by simp;omega) fun A10 c11=>?_;refine sp hT ?_;refine dY<|cD<|bC<|bD<|sp hT ?_;refine bT (z':=(((j+1):Nat):Int)) (cP (by omega) (by omega)) ?_;refine sp hT ?_;refine nn ?_;exact cO (j+1,(mP x6.name (.bool true) kv2),(vs2++[x6.name]),A10,c11) (by dsimp only;omega) ⟨rfl,rfl,trivial⟩ ⟨rfl,rfl,rfl,rfl,rfl,rfl,trivial⟩ (.cons kT2 (.cons .head (.cons kT2 (.cons kT2 .nil)))) ⟨Has.pure (⟨by dsimp only;omega,va_add hinv7.2 hd0 (by first | assumption | (simpa using ‹_›))⟩),trivial⟩ (bI.drop 1)
   have hc29:=fP hc29;refine bN<|cD<|bC<|bD<|sp hT ?_;refine bT (z':=(((j+1):Nat):Int)) (cP (by omega) (by omega)) ?_;refine sp hT ?_;refine nn ?_;exact cO (j+1,kv2,vs2,A2,c2) (by dsimp only;omega) ⟨rfl,rfl,trivial⟩ ⟨rfl,rfl,rfl,rfl,rfl,rfl,trivial⟩ (.cons kT1 (.cons kT1 (.cons kT1 (.cons kT1 .nil)))) ⟨Has.pure (⟨by dsimp only;omega,va_skip hinv7.2 hd0 (by first | assumption | (simpa using ‹_›))⟩),trivial⟩ (bI.drop 1)
  have hc22:=Int.not_lt.1 (of_decide_eq_false hc22);refine dC<|cM<|cM<|dB<|cD<|bC<|bD<|sp hT ?_;refine bT (z':=(((i+1):Nat):Int)) (cP (by omega) (by omega)) ?_;refine sp hT ?_;refine nn ?_;exact cO (i+1,kv2,vs2,A2,c2) (by dsimp only;omega) ⟨rfl,rfl,trivial⟩ ⟨rfl,rfl,rfl,trivial⟩ (.cons .head (.cons .head (.cons kT1 .nil))) ⟨Has.pure (⟨by dsimp only;omega,va_out hinv7.2 (by show(x3.sides.list.map jL.sd).length≤j;rw [List.length_map];omega)⟩),trivial⟩ (bI.drop 3)
 have hc15:=Int.not_lt.1 (of_decide_eq_false hc15);refine dC<|cM<|cM<|dB<|bC<|sr<|sp2 hT ?_;refine nn<|bF ?_;have he:=va_end hinv4.2 (by show(P.inputs.list.map InputV.inp).length≤i;rw [List.length_map];omega);rw [he];refine iI kT1 fun hvc=>?_;refine cS kT1 ?_;exact bV (A1,c1) rfl (bG rfl) .nil ⟨(Has.of mT0),Has.pure hvc,trivial⟩ rfl
def bEr.v (x:bEr):Value:= .agg #[.slice x.sides.addr x.sides.list.length x.sides.cap,.slice x.data.addr x.data.list.length x.data.cap]
section
variable {p : Prog} {dims : List Int} {ins : List Arr} {x : gG}
theorem bAc(h:(dQ p).2=true):(iC p.inputs).length≤256:=by
 have hf:=oD h
 have key: ∀l:List gG,(∀x∈l,x.sides.length≤4)→(iC l).length≤4*l.length:=by
  intro l
  induction l with
  | nil=>intro _;simp [iC]
  | cons x r ih=>
   intro hx;have e:iC (x::r)=x.sides++iC r:=rfl;have h1:=hx x (List.mem_cons_self ..);have h2:=ih fun y hy=>hx y (List.mem_cons_of_mem _ hy);rw [e,List.length_append,List.length_cons];omega
 have:=key p.inputs fun x hx=>(hf.input x hx).2.1;have:=hf.ins;omega
end
def zL (vars:List Bs)(d:qM):Bool:=(d.name==[]&&bGb d.n) || decide (6≤jR d.name vars 0)
section
variable {vars : List Bs} {l : List gG} {x : gG} {ds : List qM} {d : qM} {i j : Nat}
def zB (vars:List Bs)(l:List gG)(i:Nat):Prop:=l.find? (rN vars)=(l.drop i).find? (rN vars)
def bEm (vars:List Bs)(ds:List qM)(j:Nat):Prop:=ds.any (zL vars)=(ds.drop j).any (zL vars)
theorem few_start:zB vars l 0:=by simp [zB]
theorem few_in:bEm vars ds 0:=by simp [bEm]
theorem bFp(h:zB vars l i)(hx:l[i]?=some x)(k:bEm vars x.sides j)(hd:x.sides[j]?=some d)(hs:zL vars d=true):l.find? (rN vars)=some x:=by
 have e:rN vars x=true:=by
  show x.sides.any (zL vars)=true;rw [k,mD hd,List.any_cons,hs];rfl
 rw [h,mD hx,List.find?_cons,e]
theorem few_next(k:bEm vars ds j)(hd:ds[j]?=some d)(hs:zL vars d=false):bEm vars ds (j+1):=by
 unfold bEm at k⊢;rw [k,mD hd,List.any_cons,hs,Bool.false_or]
theorem few_out(h:zB vars l i)(hx:l[i]?=some x)(k:bEm vars x.sides j)(hj:x.sides.length≤j):zB vars l (i+1):=by
 have e:rN vars x=false:=by
  show x.sides.any (zL vars)=false;rw [k,qX hj];rfl
 unfold zB at h⊢;rw [h,mD hx,List.find?_cons,e]
theorem few_end(h:zB vars l i)(hi:l.length≤i):l.find? (rN vars)=none:=by
 unfold zB at h;rw [h,qX hi];rfl
theorem fs_a(hn:d.name=[])(hb:bGb d.n=true):zL vars d=true:=by simp [zL,hn,hb]
theorem fs_b(h:6≤jR d.name vars 0):zL vars d=true:=by simp [zL,h]
theorem fs_c(hb:bGb d.n=false)(h:jR d.name vars 0<6):zL vars d=false:=by
 have: ¬6≤jR d.name vars 0:=by omega
 simp [zL,hb,this]
theorem fs_d(hn:d.name≠[])(h:jR d.name vars 0<6):zL vars d=false:=by
 have: ¬6≤jR d.name vars 0:=by omega
 simp [zL,hn,this]
end
theorem bMh: ∀(ds:List qM) (out:List Bs),(vM ds out).length≤out.length+ds.length
 | [],out=>by simp [vM]
 | d::r,out=>by
  have ih:=bMh r (if d.name=[]∨out.contains d.name=true then out else out++[d.name]);rw [vM];split at ih
  ·rename_i h;rw [if_pos h];simp;omega
  ·rename_i h;rw [if_neg h];simp at ih⊢;omega
theorem vars_le(p:Prog):(varsP p).length≤(iC p.inputs).length:=by
 have:=bMh (iC p.inputs) []
 simpa [varsP] using this
end Go.Proofs.YtbgdphbebhjpiaaGreatDoor
