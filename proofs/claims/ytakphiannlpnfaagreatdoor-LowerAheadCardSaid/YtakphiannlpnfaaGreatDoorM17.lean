/- Texts of one proof, one behind the other: LoE, LowD, LoF, Show11, Laid8, LawG8, LawL, LoG. -/
import Derived.Test.YtakphiannlpnfaaGreatDoorM2
import Derived.Test.YtakphiannlpnfaaGreatDoorM16
import Derived.Test.YtakphiannlpnfaaGreatDoorM14
import Derived.Test.YtakphiannlpnfaaGreatDoorM15
import Derived.Test.YtakphiannlpnfaaGreatDoorRows
import Derived.Test.YtakphiannlpnfaaGreatDoorM5
import Derived.Test.YtakphiannlpnfaaGreatDoorM9
import Derived.Deep.DeepWitnessRowRef
import Derived.Lib.LaidU8
import Derived.LaidLaws
import Derived.Lib.LaidIn
import Derived.Shelf.Vars
import Derived.Test.YtakphiannlpnfaaGreatDoorM1
import Derived.ProofKit
import Derived.OpenShut
import Derived.Carry
import Derived.SizedLaws
namespace Go.Proofs.YtakphiannlpnfaaGreatDoor
section
open Go.RowKit Go.Proofs.Tryz
set_option maxRecDepth 100000
section
variable {P : Program} {β : dE} {n : Nat} {Γ : Env} {H : List bH} {F : List Fact} {Q : Exit → Act → World → Prop} {ι : Type}
def Jx (β:dE)(n:Nat)(G:ι→Env)(HH:ι→List bH)(FF:ι→List Fact)(Q:Exit→Act→World→Prop)(e:Exit)(a:Act)(w:World):Prop:=
 match e with
 | .normal=> ∃x S,Fits n (G x) a∧St β (HH x) S w∧All (FF x) S w
 | e=>Q e a w
theorem at_join{c:Code}(Δ:Env)(_hΔ:Γ.Sub Δ)(G:ι→Env)(HH:ι→List bH){H0 Hr:List bH}(_hH:sQ H H0 Hr)(FF:ι→List Fact)
  (h1:At β n Γ H F (c.wp P (Jx β n (fun x=>G x++Δ) (fun x=>HH x++Hr) (fun x=>FF x++F) Q))) (h2: ∀x,At β n (G x++Δ) (HH x++Hr) (FF x++F) (Q .normal)):At β n Γ H F (c.wp P Q):=fun a w S f s k=>
 Code.wp_mono (fun e a' w' q=>by
  cases e with
  | normal=>obtain⟨x,S',f',s',k'⟩:=q;exact h2 x a' w' S' f' s' k'
  | _=>exact q) (h1 a w S f s k)
theorem qZ{Δ:Env}{G:ι→Env}{HH:ι→List bH}{Hr:List bH}{FF:ι→List Fact}{F0:List Fact}(x:ι)(hG:Γ.Sub (G x))(hΔ:Γ.Sub Δ)(hH:Sel H (HH x++Hr))(hF:bA F (FF x))(hF0:bA F F0):
  At β n Γ H F (Jx β n (fun x=>G x++Δ) (fun x=>HH x++Hr) (fun x=>FF x++F0) Q .normal):=fun _ w S f s k=>⟨x,S,f.sub (hG.append hΔ),s.sel hH,(hF.append hF0).all S w k⟩
theorem r_join{G:ι→Env}{HH:ι→List bH}{FF:ι→List Fact}(h:At β n Γ H F (Q .ret)):At β n Γ H F (Jx β n G HH FF Q .ret):=h
end
abbrev valC(v:ValV):Value:= .agg #[.slice v.ty.sides.addr v.ty.sides.list.length v.ty.sides.cap,.bool v.ty.known,.slice v.ty.values.addr v.ty.values.list.length v.ty.values.cap,.int .i64 v.buf]
abbrev kH:=List (Bs×ValV)
def rG (k:Bs):kH→Option ValV
 | []=>none
 | p::r=>if k=p.1 then some p.2 else rG k r
def nI (NV:kH):iU:=NV.map fun p=>(p.1,p.2.v)
theorem bDf(k:Bs): ∀NV:kH,xB k (nI NV)=(rG k NV).map ValV.v
 | []=>rfl
 | p::r=>by
  have ih:=bDf k r;unfold nI at ih⊢;rw [List.map_cons,xB,rG];split
  ·rfl
  ·exact ih
theorem bJz{k:Bs}{a:ValV}: ∀{NV:kH},rG k NV=some a→ ∃p∈NV,p.2=a
 | [],h=>by cases h
 | p::r,h=>by
  rw [rG] at h;split at h
  ·injection h with h
   exact⟨p,List.mem_cons_self ..,h⟩
  ·obtain⟨q,hq,e⟩:=bJz h;exact⟨q,List.mem_cons_of_mem _ hq,e⟩
def zN (kv:KVS)(NV:kH):Prop:= ∀k,nF k kv=(rG k NV).map valC
theorem nrL_start:zN [] []:=fun _=>rfl
theorem nrL_add{kv:KVS}{NV:kH}(h:zN kv NV)(s:Bs)(a:ValV):zN (mA s (valC a) kv) ((s,a)::NV):=fun k=>by
 rw [yX,rG]
 by_cases e:k=s
 ·rw [if_pos (beq_iff_eq.2 e),if_pos e];rfl
 ·rw [if_neg (by simpa using e),if_neg e];exact h k
def noVal:ValV:=⟨⟨⟨none,0,[]⟩,false,⟨none,0,[]⟩⟩,0⟩
abbrev valF(v:ValV):Fact:=tyF v.ty
def vS (NV:kH):Fact:=Fact.each NV fun p=>valF p.2
theorem namedL_F{F:List Fact}{NV:kH}{k:Bs}{a:ValV}(h:Has F (vS NV))(e:rG k NV=some a):Has F (valF a):=by
 obtain⟨p,hp,e⟩:=bJz e;rw [←e];exact Has.each h hp
theorem mapL:prog.underlying 72=some (.map 9 82):=o0
theorem zeroVal(w:World):(zeroValue 82).run prog w= .ok (.agg #[.slice none 0 0,.bool false,.slice none 0 0,.int .i64 0]) w:=o0
theorem pD{t:TyV}(h:WfT t.t):lO t.sides.list:=by
 refine⟨?_,fun p hp=>?_⟩
 ·have:=h.len
  rwa [show t.t.sides.length=t.sides.list.length from bF _] at this
 ·exact nA (h.sr p.list (List.mem_map_of_mem hp))
def stV (hv:List ValV):List iX:=(hv.map ValV.v).reverse
theorem yD{hv:List ValV}{a:ValV}(h:hv[hv.length-1]?=some a):(stV hv).headD default=a.v:=by
 have h2:(hv.map ValV.v)[(hv.map ValV.v).length-1]?=some a.v:=by rw [List.length_map];exact tV h
 unfold stV;rw [List.headD_eq_head?_getD,List.head?_reverse,List.getLast?_eq_getElem?,h2];rfl
theorem bBy{hv:List ValV}{a:ValV}(h:hv[hv.length-2]?=some a)(h2:2≤hv.length):(stV hv).tail.headD default=a.v:=by
 have e:(stV hv)[1]?=some a.v:=by
  unfold stV;rw [List.getElem?_reverse ab2,List.length_map];have:hv.length-1-1=hv.length-2:=n9
  rw [this];exact tV h
 match stV hv,e with
 | _::b::_,e=>simpa using e
theorem stV_push{hv:List ValV}{a:ValV}{k T:Nat}(hk:k=hv.length-T):stV (hv.take k++[a])=a.v::(stV hv).drop T:=by
 unfold stV;rw [List.map_append,List.reverse_append,List.map_take];simp only [List.map_cons,List.map_nil,List.reverse_cons,List.reverse_nil,List.nil_append,List.cons_append]
 congr 1
 rw [List.drop_reverse,List.length_map,hk]
theorem stV_app{hv:List ValV}{a:ValV}:stV (hv++[a])=a.v::stV hv:=by
 unfold stV;simp
theorem vK(hv:List ValV):(stV hv).length=hv.length:=by simp [stV]
def bAn (r:Except Int (List iX×LoS))(t:TyP)(k:Nat)(hv:List ValV)(bs:List uU)(e:Int)(ls:List StepV):Prop:=
 r=if e≠0 then .error e else xZ t k (stV hv) ⟨bs,dD ls⟩
def bKc (l:List Int)(bs:List uU)(s0:LoS)(i:Nat)(sq:List StepV):Prop:=bHw 0 l s0=bHw i (l.drop i) ⟨bs,dD sq⟩
section
variable {l : List Int} {bs : List uU} {s0 : LoS} {i nb : Nat} {sq : List StepV} {T : StepV} {p : Int}
theorem nums_step(h:bKc l bs s0 i sq)(hb:nb=bs.length)(hp:l[i]?=some p)(hT:T.c=⟨1,(nb:Nat),bT (i:Nat),[],0,[oN p]⟩):bKc l bs s0 (i+1) (sq++[T]):=by
 unfold bKc at h⊢;rw [h,fV hp,bHw,jR hb hT]
theorem numsL_end(h:bKc l bs s0 i sq)(hi:l.length≤i):bHw 0 l s0=⟨bs,dD sq⟩:=by
 rw [h,List.drop_of_length_le hi];rfl
end
section
variable {N : iU} {it : cT} {t : TyP} {hv : List ValV} {s : LoS} {bs : List uU} {ls : List StepV} {a b : ValV}
theorem mid_1(h:it.how=1)(e:bHw 0 it.nums s=⟨bs,dD ls⟩):bAn (iE N it t (stV hv) s) t 0 hv bs 0 ls:=by
 unfold bAn iE;rw [if_pos h,e];rfl
theorem hit_2(h:it.how=2){NV:kH}{v:ValV}(e:rG it.name NV=some v):iE (nI NV) it t (stV hv) s= .ok (stV (hv++[v]),s):=by
 unfold iE;rw [if_neg n9,if_pos h,bDf,e,stV_app];rfl
theorem mid_2(h:it.how=2){NV:kH}(e:rG it.name NV=none){p:Pol}(hp:t.values.headD []=p)(k:(⟨bs,dD ls⟩:LoS)=kO [] [oV p] s):bAn (iE (nI NV) it t (stV hv) s) t 0 hv bs 0 ls:=by
 unfold bAn iE;rw [if_neg n9,if_pos h,bDf,e,hp,k];rfl
theorem mid_3(h:it.how=3)(ha:hv[hv.length-1]?=some a)(k:(⟨bs,dD ls⟩:LoS)=oH it.fn a.v t s):bAn (iE N it t (stV hv) s) t 1 hv bs 0 ls:=by
 unfold bAn iE;rw [if_neg n9,if_neg n9,if_pos h,yD ha,k];rfl
theorem flat_5(h:it.how=5∨it.how=6)(ha:hv[hv.length-1]?=some a)(k:a.v.t.sides=[]):iE N it t (stV hv) s= .ok (stV hv,s):=by
 unfold iE;rw [if_neg n9,if_neg n9,if_neg n9,if_pos h,yD ha,if_pos k]
theorem mid_5{how:Int}(h:it.how=5∨it.how=6)(hh:how=if it.how=6 then 3 else 2)(ha:hv[hv.length-1]?=some a)(k0:a.v.t.sides≠[])(k:(⟨bs,dD ls⟩:LoS)=xM how [] a.v.t.sides it.fn (fromL a.v 0) s):bAn (iE N it t (stV hv) s) t 1 hv bs 0 ls:=by
 unfold bAn iE;rw [if_neg n9,if_neg n9,if_neg n9,if_pos h,yD ha,if_neg k0,k,hh];rfl
theorem mid_4(h:it.how=4)(h2:2≤hv.length)(hb:hv[hv.length-2]?=some b)(ha:hv[hv.length-1]?=some a){r:Option LoS}(hr:nD it.fn b.v a.v t s=r)(k: ∀s',r=some s'→(⟨bs,dD ls⟩:LoS)=s'):bAn (iE N it t (stV hv) s) t 2 hv bs (errD r) ls:=by
 unfold bAn iE;rw [if_neg n9,if_neg n9,if_neg n9,if_neg n9,if_pos h,yD ha,bBy hb h2,hr]
 cases r with
 | none=>rfl
 | some s'=>rw [k s' rfl];rfl
theorem mid_7(_h0:1≤it.how∧it.how≤7)(h1:it.how≠1)(h3:it.how≠2)(h4:it.how≠3)(h5:it.how≠5)(h6:it.how≠6)(h7:it.how≠4)(h2:2≤hv.length)(hb:hv[hv.length-2]?=some b)(ha:hv[hv.length-1]?=some a)(k:(⟨bs,dD ls⟩:LoS)=kO t.sides [fromL b.v 0,fromL a.v b.v.t.sides.length,[oD it.fn]].flatten s):
  bAn (iE N it t (stV hv) s) t 2 hv bs 0 ls:=by
 unfold bAn iE;rw [if_neg h1,if_neg h3,if_neg h4,if_neg n9,if_neg h7,yD ha,bBy hb h2,k];rfl
end
def bPh (r:Except Int (List iX×LoS)):Int:=match r with
 | .ok _=>0
 | .error e=>e
theorem mid_err{r:Except Int (List iX×LoS)}{t:TyP}{k:Nat}{hv:List ValV}{bs:List uU}{e:Int}{ls:List StepV}(h:bAn r t k hv bs e ls)(he:e≠0):r= .error e:=by
 rw [h,if_pos he]
theorem bufs_app{l:List BufV}{y:Sl PolV}{x:Int}{S:List Pol}(h:bK y.list=S):gZ (l++[⟨y,x⟩])=gZ l++[⟨S,x⟩]:=by
 subst h;exact List.map_append
section
variable {r : Except Int (List iX × LoS)} {t : TyV} {n k : Nat} {hv : List ValV} {bl : List BufV} {ls : List StepV} {y : Sl PolV}
theorem mid_many(h:bAn r t.t k hv (gZ bl) 0 ls)(hm:1024<bl.length+1∨1024<ls.length):r= .error 111:=by
 rw [h,if_neg o9];unfold xZ;rw [if_pos (by rw [dI,gW];exact hm)]
theorem mid_ok(h:bAn r t.t k hv (gZ bl) 0 ls)(hm:bl.length+1≤1024)(hm':ls.length≤1024)(hk:n=hv.length-k)(hy:bK y.list=bK t.sides.list):r= .ok (stV (hv.take n++[⟨t,(bl.length:Nat)⟩]),⟨gZ (bl++[⟨y,-1⟩]),dD ls⟩):=by
 rw [h,if_neg o9];unfold xZ;rw [if_neg (by rw [dI,gW];omega),stV_push hk,bufs_app hy,dI];rfl
end
theorem bDd{r:Except Int (List iX×LoS)}{x:List iX×LoS}(h:r= .ok x): ∀y,r= .ok y→y=x:=fun y e=>by
 rw [h] at e;cases e;rfl
theorem bde{p:Prop}(h:p:=by first | (simp;done) | (have h1:=gL (first:=0) hSa;simp;omega) | (have h1:=gL (first:=0) hSb;have h2:=gL (first:=b.ty.sides.list.length) hSa;simp;omega)):p:=h
theorem dT:(prog.info? 82).bind (·.zero)=some (.agg #[.slice none 0 0,.bool false,.slice none 0 0,.int .i64 0]):=o0
theorem tI(v0_0 v0_1 v0_2:Value)(z1:Int):prog.built 82 [(0,.agg #[v0_0,v0_1,v0_2]),(1,.int .i64 z1)]=some #[v0_0,v0_1,v0_2,.int .i64 z1]:=o0
theorem uY(a0:Option Addr)(l0 c0:Nat)(z1:Int):prog.built 45 [(0,.slice a0 l0 c0),(1,.int .i64 z1)]=some #[.slice a0 l0 c0,.int .i64 z1]:=o0
set_option maxHeartbeats 1000000 in
theorem itemL_spec(mb nm:Nat)(vars:Int)(BA:Option Addr)(bc:Nat)(bl:List BufV)(SA:Option Addr)(sc:Nat)(sq:List StepV)(O:Value)(kv:KVS)(NV:kH)(hN:zN kv NV)(it:ItemV)(t:TyV)(hWt:WfT t.t)(HA:Option Addr)(hc:Nat)(hv:List ValV)(hW: ∀v∈hv,WfT v.ty.t)(hbl:bl.length≤1024)(hss:sq.length≤1024)(hhv:hv.length≤300)(hd:dF it.it≤hv.length)(h17:1≤it.how∧it.how≤7)(hnum:it.how=1→it.nums.list.length≤65536)(hnm:it.how=2→it.name.length≤140737488355328∧(rG it.name NV=none→0<t.values.list.length))(hdv: ∀b,hv[hv.length-2]?=some b→it.how=4→it.fn=38∨it.fn=39→0<b.ty.values.list.length):cN prog 20 [.pointer (some ⟨mb,0,none⟩),.agg #[.int .i64 it.how,.int .i64 it.at_,.int .u8 it.fn,.string (bs it.name),.slice it.nums.addr it.nums.list.length it.nums.cap],.agg #[.slice t.sides.addr t.sides.list.length t.sides.cap,.bool t.known,.slice t.values.addr t.values.list.length t.values.cap],.slice HA hv.length hc] [mO mb nm vars (.slice BA bl.length bc) (.slice SA sq.length sc) O,xH.row (.slice BA bl.length bc) 45 bl,jS.row (.slice SA sq.length sc) 65 sq,pB nm kv,bLq.row (.slice HA hv.length hc) 82 hv] [rJ.sl (.slice it.nums.addr it.nums.list.length it.nums.cap) it.nums.list,tyF t,Fact.each bl bAo,Fact.each sq fJ,Fact.each hv valF,vS NV] (fun(x:Option Addr×Nat×List BufV×Option Addr×Nat×List StepV×Option Addr×Nat×List ValV)=> .tuple #[.slice x.2.2.2.2.2.2.1 x.2.2.2.2.2.2.2.2.length x.2.2.2.2.2.2.2.1,.int .i64 (bPh (iE (nI NV) it.it t.t (stV hv) ⟨gZ bl,dD sq⟩))]) (fun(x:Option Addr×Nat×List BufV×Option Addr×Nat×List StepV×Option Addr×Nat×List ValV)=>[mO mb nm vars (.slice x.1 x.2.2.1.length x.2.1) (.slice x.2.2.2.1 x.2.2.2.2.2.1.length x.2.2.2.2.1) O,xH.row (.slice x.1 x.2.2.1.length x.2.1) 45 x.2.2.1,jS.row (.slice x.2.2.2.1 x.2.2.2.2.2.1.length x.2.2.2.2.1) 65 x.2.2.2.2.2.1,pB nm kv,bLq.row (.slice x.2.2.2.2.2.2.1 x.2.2.2.2.2.2.2.2.length x.2.2.2.2.2.2.2.1) 82 x.2.2.2.2.2.2.2.2]) (fun(x:Option Addr×Nat×List BufV×Option Addr×Nat×List StepV×Option Addr×Nat×List ValV)=>[Fact.each x.2.2.1 bAo,Fact.each x.2.2.2.2.2.1 fJ,Fact.each x.2.2.2.2.2.2.2.2 valF,Fact.pure (∀y,iE (nI NV) it.it t.t (stV hv) ⟨gZ bl,dD sq⟩= .ok y→y=(stV x.2.2.2.2.2.2.2.2,(⟨gZ x.2.2.1,dD x.2.2.2.2.2.1⟩:LoS)))]):=by
 have hT:=fX;have hSt:=pD hWt;have hTv:=fun p hp=>nA (hWt.vr p hp)
 replace hTv: ∀p∈t.values.list,p.list.length≤48:=fun p hp=>hTv p.list (List.mem_map_of_mem hp)
 generalize hR:iE (nI NV) it.it t.t (stV hv) ⟨gZ bl,dD sq⟩=r;generalize hTk:dF it.it=T at hd;refine k8 func20 ntmps20 ?_;intro β hM;refine g2 ?_;refine j9 fun b1=>?_;refine j9 fun b2=>?_;refine g5 ?_;refine fI kT1 ?_;refine fI .head ?_;refine bB (listF t.sides) (kZ e6)<|bB (listF t.values) (lC e7)<|cF t.sides mT1 fun hc_ts=>cF t.values mT2 fun hc_tv=>?_;refine g15 ?_;refine ss (j7 hT (bJ (off:=0) f3)) ?_;refine g2 ?_;refine at_join (ι:=Nat×Int×Option Addr×Nat×List StepV) [(0,_),(3,_),(5,_),(6,_)] ⟨rfl,rfl,rfl,rfl,j2⟩ (fun⟨n1,e1,A1,c1,ls⟩=>[(10,.int .i64 (n1:Nat)),(11,.int .i64 e1)]) (fun⟨n1,e1,A1,c1,ls⟩=>[mO mb nm vars (.slice BA bl.length bc) (.slice A1 ls.length c1) O,jS.row (.slice A1 ls.length c1) 65 ls]) (.c0 (.c1 .nil)) (fun⟨n1,e1,A1,c1,ls⟩=>[Fact.pure (n1=hv.length-T∧bAn r t.t T hv (gZ bl) e1 ls),Fact.each ls fJ]) ?_ ?_
 ·refine g7 ?_;refine fE (fun hc25=>?_) fun hc25=>?_
  ·refine cL ?_;have htk:T=0:=hTk.symm.trans (sJ o7);subst htk;refine g2 ?_;refine ss (j7 hT (bJ (off:=4) f3)) ?_;refine g5 ?_;refine cE (ι:=Nat×Option Addr×Nat×List StepV) [(0,_),(3,_),(5,_),(6,_),(10,_),(11,_),(28,_),(29,_)] ⟨rfl,rfl,rfl,rfl,rfl,rfl,rfl,rfl,j2⟩ (fun⟨i,A1,c1,ls⟩=>[(30,.int .i64 (i:Nat))]) (fun⟨i,A1,c1,ls⟩=>[mO mb nm vars (.slice BA bl.length bc) (.slice A1 ls.length c1) O,jS.row (.slice A1 ls.length c1) 65 ls]) (fun⟨i,A1,c1,ls⟩=>[Fact.pure (i≤it.nums.list.length∧ls.length=sq.length+i∧bKc it.nums.list (gZ bl) ⟨gZ bl,dD sq⟩ i ls),Fact.each ls fJ]) (fun⟨i,A1,c1,ls⟩=>it.nums.list.length-i) (0,SA,sc,sq) ⟨rfl,j2⟩ (.c0 (.c1 .nil)) ⟨j3 (⟨n9,rfl,rfl⟩),i6,j2⟩ ?_;rintro⟨i,A1,c1,ls⟩;dsimp only;refine bC d7 fun hinv6=>?_;have hlsn:=hinv6.2.1;refine g6 ?_;refine dM (fun hc31=>?_) fun hc31=>?_
   ·refine g7 ?_;obtain⟨x3,hx4⟩:=gx it.nums.list i;refine ss (ixs i) ?_;refine ss (dH hx4 0) ?_;refine g7 ?_;refine j5 func16 (wP (((i:Nat):Int))) j2 fun⟨A5,c6⟩=>?_;refine one ?_;refine j5 func37 (pR (x3)) j2 fun y7=>?_;refine bC d8 fun h39=>bV .head fun hc8=>bE .head<|bB (dB y7) (cO d7 (d8) hc8 h39 o9) ?_;refine gH (m:=y7) rfl rfl rfl rfl rfl fun b9=>?_;refine bQ (E:=gJ) (xs:=[y7]) .head q8<|bE .head<|bB (Fact.each [y7] dB) ((Has.each_cons d8 Has.each_nil)) ?_;have hq40:([y7].map fun s=>dU s.list).flatten=[oN (x3)]:=by simp only [List.map_cons,List.map_nil,List.flatten_cons,List.flatten_nil,List.append_nil,h39]
    refine bD func36 (pV mb nm vars BA bl.length bc A1 c1 ls O q9 (1) (⟨A5,c6,bT (((i:Nat):Int))⟩:PolV) (⟨none,0,[]⟩:Sl PolV) bFj (0) (some ⟨b9,0,none⟩) 1 [y7] r9 (fO hq40 bde)) rfl rfl (.c0 (.c0 .nil)) ⟨e9,cI,d8,d7,j2⟩ fun⟨A10,c11,T12⟩=>?_;refine bC d8 fun ht13=>?_;rw [hq40] at ht13;refine bB (Fact.each (ls++[T12]) fJ) (Has.each_snoc f9 d7) ?_;refine g5 ?_;refine inc (i+1) ?_;refine g3 ?_;exact bk2 (i+1,A10,c11,(ls++[T12])) ⟨j3 (⟨by dsimp only;omega,by dsimp only;simp;omega,nums_step hinv6.2.2 (dI _).symm hx4 ht13⟩),d7,j2⟩
   refine g5 ?_;exact qZ (hv.length,0,A1,c1,ls) ⟨rfl,rfl,j2⟩ ⟨rfl,rfl,rfl,rfl,j2⟩ (.c0 (.c0 (.c0 (.c0 (.c0 .nil))))) ⟨j3 (⟨n9,hR▸mid_1 (it:=it.it) ‹_› (numsL_end (l:=it.nums.list) hinv6.2.2 n9)⟩),d8,j2⟩ (bA.drop 2)
  refine g6 ?_;refine fE (fun hc43=>?_) fun hc43=>?_
  ·refine g2 ?_;have htk:T=0:=hTk.symm.trans (sJ o7);subst htk
   rcases hlk:rG it.name NV with _ | v
   ·refine bU _ _ [(true,0),(true,1),(true,2),(true,3),(true,4),(true,5),(true,6),(true,7),(true,8),(true,9),(false,10),(false,11),(true,12)] bX o6 (.c0 (.c0 (.c0 (.c0 (.c0 .nil))))) bA.self ?_;refine g5 ?_;refine stM rfl (j7 hT (bJ (off:=3) f3)) ?_;refine stM rfl (kF (kC kT3) rfl mapL underlying9 zeroVal rfl rfl (v:= .tuple #[valC noVal,.bool false]) (by rw [hN,hlk];rfl)) ?_;refine g4 ?_;refine j6 dT fun b14=>?_;refine g15 ?_;have hv1:=(hnm ‹_›).2 hlk;obtain⟨vp,hvp⟩:=gx t.values.list 0 hv1;refine g3 ?_;refine ss (j7 hT (bJ (off:=2) e9)) ?_;refine ss (ixs 0) ?_;refine ss (dH hvp 0) ?_;refine bD func39 (sI vp (hTv _ (j4 hvp))) rfl rfl .nil ⟨(Has.each d7 (j4 hvp)),j2⟩ fun y15=>?_;refine bC d8 fun h65=>bV .head fun hc16=>bE .head<|bB (dB y15) (cO d7 (d8) hc16 h65 o9) ?_;refine gH (m:=y15) rfl rfl rfl rfl rfl fun b17=>?_;refine bQ (E:=gJ) (xs:=[y15]) .head q8<|bE .head<|bB (Fact.each [y15] dB) ((Has.each_cons d8 Has.each_nil)) ?_;have hq66:([y15].map fun s=>dU s.list).flatten=[oV vp.list]:=by simp only [List.map_cons,List.map_nil,List.flatten_cons,List.flatten_nil,List.append_nil,h65]
    refine bD func38 (fH mb nm vars BA bl.length bc SA sc sq O q9 (⟨none,0,[]⟩:Sl PolV) bFj (some ⟨b17,0,none⟩) 1 [y15] r9 (fO hq66 bde)) rfl rfl (.c1 (.c2 .nil)) ⟨cI,d8,d7,j2⟩ fun⟨A18,c19,T20⟩=>?_;refine bC d8 fun ht21=>?_;rw [hq66] at ht21;refine bB (Fact.each (sq++[T20]) fJ) (Has.each_snoc (Has.of (u8 (u8 mT3))) d7) ?_;refine g2 ?_;exact qZ (hv.length,0,A18,c19,(sq++[T20])) ⟨rfl,rfl,j2⟩ ⟨rfl,rfl,rfl,rfl,j2⟩ (.c0 (.c0 (.c1 (.c1 (.c1 .nil))))) ⟨j3 (⟨n9,hR▸mid_2 (it:=it.it) ‹_› hlk (headP hvp) (jR (dI _).symm ht21)⟩),d7,j2⟩ (bA.drop 9)
   refine bB (valF v) (namedL_F j0 hlk) ?_;refine bU _ _ [(true,0),(true,1),(true,2),(true,3),(true,4),(true,5),(true,6),(true,7),(true,8),(true,9),(false,10),(false,11),(true,12)] bX o6 (.c0 (.c0 (.c0 (.c0 (.c0 .nil))))) bA.self ?_;refine g5 ?_;refine stM rfl (j7 hT (bJ (off:=3) f5)) ?_;refine stM rfl (kF (kC kT3) rfl mapL underlying9 zeroVal rfl rfl (v:= .tuple #[valC v,.bool true]) (by rw [hN,hlk];rfl)) ?_;refine g4 ?_;refine j6 dT fun b22=>?_;refine g17 ?_;refine bBj (m:=v) rfl rfl rfl rfl rfl fun b23=>?_;refine bBu kT6 (cA .head rfl) rfl rfl rfl rfl rfl rfl rfl r8 fun A24 c25=>?_;refine g7 ?_;refine r_join ?_;refine r_then ?_;have hr:=hR.symm.trans (hit_2 (it:=it.it) ‹_› hlk);have he0:bPh r=0:=by rw [hr];rfl
   rw [he0];exact rs2 (BA,bc,bl,SA,sc,sq,A24,c25,(hv++[v])) ⟨i6,i7,Has.each_snoc j0 d7,j3 (bDd hr),j2⟩
  refine g6 ?_;refine fE (fun hc68=>?_) fun hc68=>?_
  ·refine cL ?_;have htk:T=1:=hTk.symm.trans (oJ ac0);subst htk;obtain⟨a,ha⟩:=gx hv (hv.length-1);refine bB (tyF a.ty) (Has.each i7 (j4 ha)) ?_;have hSa:=pD (hW a (j4 ha));refine bB (listF a.ty.sides) (kZ d7)<|bB (listF a.ty.values) (lC d8)<|cF a.ty.sides mT1 fun hc_as=>?_;refine bU _ _ [(true,0),(true,1),(true,2),(true,3),(true,4),(true,5),(true,6),(true,7),(true,8),(false,9)] bX o6 (.c1 (.c2 (.c2 .nil))) bA.self ?_;refine g2 ?_;refine stM rfl (j7 hT (bJ (off:=2) i7)) ?_;refine g3 ?_;refine inc (hv.length-1) ?_;refine stM rfl (ixs (hv.length-1)) ?_;refine stM rfl (lY ha 0) ?_;refine stM rfl (fA hT (bJ (off:=0) i6) rfl rfl rfl rfl rfl) ?_;refine one ?_;refine bD func40 (monadL_spec mb nm vars BA bl.length bc SA sc sq O n9 (gZ bl) (dI _).symm it.fn a hSa t hSt) rfl rfl (.c0 (.c1 .nil)) ⟨e6,f9,(Has.of (u8 (u8 mT0))),j2⟩ fun⟨A26,c27,ls28⟩=>?_;refine bC d8 fun hme=>?_;refine g6 ?_;refine inc (hv.length-1) ?_;refine g3 ?_;exact qZ ((hv.length-1),0,A26,c27,ls28) ⟨rfl,rfl,j2⟩ ⟨rfl,rfl,rfl,rfl,j2⟩ (.c0 (.c0 (.c0 (.c0 (.c0 .nil))))) ⟨j3 (⟨n9,hR▸mid_3 (it:=it.it) ‹_› ha hme⟩),d7,j2⟩ (bA.drop 7)
  refine g7 ?_;refine fE (fun hc82=>?_) fun hc82=>?_
  ·refine bL (t':=true) (beq_iff_eq.2 ‹_›) ?_;refine g4 ?_;have htk:T=1:=hTk.symm.trans (oJ ac0);subst htk;obtain⟨a,ha⟩:=gx hv (hv.length-1);refine bB (tyF a.ty) (Has.each i7 (j4 ha)) ?_;have hSa:=pD (hW a (j4 ha));refine bB (listF a.ty.sides) (kZ d7)<|bB (listF a.ty.values) (lC d8)<|cF a.ty.sides mT1 fun hc_as=>?_;refine g4 ?_;refine inc (hv.length-1) ?_;refine ss (ixs (hv.length-1)) ?_;refine ss (lY ha 0) ?_;refine j6 dT fun b29=>?_;refine g13 ?_;refine fE (fun hc94=>?_) fun hc94=>?_
   ·refine g10 ?_;refine r_join ?_;refine r_then ?_;have hr:=hR.symm.trans (flat_5 (it:=it.it) o7 ha (nilL n9));have he0:bPh r=0:=by rw [hr];rfl
    rw [he0];exact rs2 (BA,bc,bl,SA,sc,sq,HA,hc,hv) ⟨(Has.of (u8 mT7)),(Has.of (u8 (u8 mT0))),(Has.of (u8 (u8 mT1))),j3 (bDd hr),j2⟩
   refine g11 ?_;refine ss (j7 hT (bJ (off:=0) i7)) ?_;refine one ?_;refine bL (t':=false) (by rw [hc82];rfl) ?_;refine g6 ?_;refine bU _ _ [(true,0),(true,1),(true,2),(true,3),(true,4),(true,5),(true,6),(true,7),(false,8),(false,9),(false,10)] bX o6 (.c0 (.c1 (.c2 (.c2 .nil)))) bA.self ?_;refine g6 ?_;refine stM rfl (j7 hT (bJ (off:=2) i7)) ?_;refine g2 ?_;refine j5 func41 (gR a hSa (0) n9) ⟨e6,j2⟩ fun y30=>?_;refine bC d8 fun h107=>?_;refine g2 ?_;refine bV .head fun hc31=>bE .head<|bB (dB y30) (cO d7 (d8) hc31 h107 ac6) ?_;refine gH (m:=y30) rfl rfl rfl rfl rfl fun b32=>?_;refine bQ (E:=gJ) (xs:=[y30]) .head q8<|bE .head<|bB (Fact.each [y30] dB) ((Has.each_cons d8 Has.each_nil)) ?_;have hq108:([y30].map fun s=>dU s.list).flatten=fromL a.v (0):=by simp only [List.map_cons,List.map_nil,List.flatten_cons,List.flatten_nil,List.append_nil,h107]
   refine g2 ?_;refine bD func36 (pV mb nm vars BA bl.length bc SA sc sq O q9 (2) (⟨none,0,[]⟩:PolV) a.ty.sides hSa (it.fn) (some ⟨b32,0,none⟩) 1 [y30] r9 (fO hq108 bde)) rfl rfl (.c1 (.c2 .nil)) ⟨hZ,f7,d8,d7,j2⟩ fun⟨A33,c34,T35⟩=>?_;refine bC d8 fun ht36=>?_;rw [hq108] at ht36;refine bB (Fact.each (sq++[T35]) fJ) (Has.each_snoc (Has.of (u8 (u8 (u8 mT0)))) d7) ?_;refine g6 ?_;refine inc (hv.length-1) ?_;refine g3 ?_;exact qZ ((hv.length-1),0,A33,c34,(sq++[T35])) ⟨rfl,rfl,j2⟩ ⟨rfl,rfl,rfl,rfl,j2⟩ (.c0 (.c0 (.c1 (.c1 (.c1 .nil))))) ⟨j3 (⟨n9,hR▸mid_5 (it:=it.it) o7 ac9 ha (bPj n9) (jR (dI _).symm ht36)⟩),d7,j2⟩ (bA.drop 14)
  refine g5 ?_;refine fE (fun hc82_37=>?_) fun hc82_37=>?_
  ·refine bL (t':=true) (beq_iff_eq.2 ‹_›) ?_;refine cL ?_;have htk:T=1:=hTk.symm.trans (oJ ac0);subst htk;obtain⟨a,ha⟩:=gx hv (hv.length-1);refine bB (tyF a.ty) (Has.each i7 (j4 ha)) ?_;have hSa:=pD (hW a (j4 ha));refine bB (listF a.ty.sides) (kZ d7)<|bB (listF a.ty.values) (lC d8)<|cF a.ty.sides mT1 fun hc_as=>?_;refine g4 ?_;refine inc (hv.length-1) ?_;refine ss (ixs (hv.length-1)) ?_;refine ss (lY ha 0) ?_;refine j6 dT fun b38=>?_;refine g13 ?_;refine fE (fun hc94=>?_) fun hc94=>?_
   ·refine g10 ?_;refine r_join ?_;refine r_then ?_;have hr:=hR.symm.trans (flat_5 (it:=it.it) o7 ha (nilL n9));have he0:bPh r=0:=by rw [hr];rfl
    rw [he0];exact rs2 (BA,bc,bl,SA,sc,sq,HA,hc,hv) ⟨(Has.of (u8 mT7)),(Has.of (u8 (u8 mT0))),(Has.of (u8 (u8 mT1))),j3 (bDd hr),j2⟩
   refine g11 ?_;refine ss (j7 hT (bJ (off:=0) i7)) ?_;refine one ?_;refine bL (t':=true) (by rw [hc82_37];rfl) ?_;refine g8 ?_;refine bU _ _ [(true,0),(true,1),(true,2),(true,3),(true,4),(true,5),(true,6),(true,7),(false,8),(false,9),(false,10)] bX o6 (.c0 (.c1 (.c2 (.c2 .nil)))) bA.self ?_;refine g6 ?_;refine stM rfl (j7 hT (bJ (off:=2) i7)) ?_;refine g2 ?_;refine j5 func41 (gR a hSa (0) n9) ⟨e6,j2⟩ fun y39=>?_;refine bC d8 fun h107=>?_;refine g2 ?_;refine bV .head fun hc40=>bE .head<|bB (dB y39) (cO d7 (d8) hc40 h107 ac6) ?_;refine gH (m:=y39) rfl rfl rfl rfl rfl fun b41=>?_;refine bQ (E:=gJ) (xs:=[y39]) .head q8<|bE .head<|bB (Fact.each [y39] dB) ((Has.each_cons d8 Has.each_nil)) ?_;have hq108:([y39].map fun s=>dU s.list).flatten=fromL a.v (0):=by simp only [List.map_cons,List.map_nil,List.flatten_cons,List.flatten_nil,List.append_nil,h107]
   refine g2 ?_;refine bD func36 (pV mb nm vars BA bl.length bc SA sc sq O q9 (3) (⟨none,0,[]⟩:PolV) a.ty.sides hSa (it.fn) (some ⟨b41,0,none⟩) 1 [y39] r9 (fO hq108 bde)) rfl rfl (.c1 (.c2 .nil)) ⟨hZ,f7,d8,d7,j2⟩ fun⟨A42,c43,T44⟩=>?_;refine bC d8 fun ht45=>?_;rw [hq108] at ht45;refine bB (Fact.each (sq++[T44]) fJ) (Has.each_snoc (Has.of (u8 (u8 (u8 mT0)))) d7) ?_;refine g6 ?_;refine inc (hv.length-1) ?_;refine g3 ?_;exact qZ ((hv.length-1),0,A42,c43,(sq++[T44])) ⟨rfl,rfl,j2⟩ ⟨rfl,rfl,rfl,rfl,j2⟩ (.c0 (.c0 (.c1 (.c1 (.c1 .nil))))) ⟨j3 (⟨n9,hR▸mid_5 (it:=it.it) o7 ac9 ha (bPj n9) (jR (dI _).symm ht45)⟩),d7,j2⟩ (bA.drop 14)
  refine g6 ?_;refine fE (fun hc112=>?_) fun hc112=>?_
  ·refine cL ?_;have htk:T=2:=hTk.symm.trans (qF af6);subst htk;obtain⟨b,hb⟩:=gx hv (hv.length-2);refine bB (tyF b.ty) (Has.each i7 (j4 hb)) ?_;have hSb:=pD (hW b (j4 hb));refine bB (listF b.ty.sides) (kZ d7)<|bB (listF b.ty.values) (lC d8)<|cF b.ty.sides mT1 fun hc_bs=>?_;have h4b:=hSb.1;obtain⟨a,ha⟩:=gx hv (hv.length-1);refine bB (tyF a.ty) (Has.each (Has.of (u8 (u8 mT1))) (j4 ha)) ?_;have hSa:=pD (hW a (j4 ha));refine bB (listF a.ty.sides) (kZ d7)<|bB (listF a.ty.values) (lC d8)<|cF a.ty.sides mT1 fun hc_as=>?_;have h4a:=hSa.1;refine bU _ _ [(true,0),(true,1),(true,2),(true,3),(true,4),(true,5),(true,6),(true,7),(true,8),(true,9),(true,10),(true,11),(true,12),(true,13),(false,14),(true,15)] bX o6 (.c1 (.c2 (.c2 .nil))) bA.self ?_;refine g2 ?_;refine stM rfl (j7 hT (bJ (off:=2) (Has.of (u8 (u8 mT1))))) ?_;refine g3 ?_;refine inc (hv.length-2) ?_;refine stM rfl (ixs (hv.length-2)) ?_;refine stM rfl (lY hb 0) ?_;refine g3 ?_;refine inc (hv.length-1) ?_;refine stM rfl (ixs (hv.length-1)) ?_;refine stM rfl (lY ha 0) ?_;refine stM rfl (fA hT (bJ (off:=0) (Has.of (u8 (u8 mT0)))) rfl rfl rfl rfl rfl) ?_;refine one ?_;refine bD func42 (dyadL_spec mb nm vars BA bl.length bc SA sc sq O n9 (gZ bl) (dI _).symm it.fn b a hSb hSa t hSt (hdv b hb ‹_›)) rfl rfl (.c0 (.c1 .nil)) ⟨f5,f3,e6,(Has.of (u8 mT7)),(Has.of (u8 (u8 mT5))),j2⟩ fun⟨A46,c47,ls48⟩=>?_;refine bC d8 fun hme=>?_;refine g7 ?_;refine inc (hv.length-2) ?_;refine g3 ?_;exact qZ ((hv.length-2),(errD (nD it.fn b.v a.v t.t ⟨gZ bl,dD sq⟩)),A46,c47,ls48) ⟨rfl,rfl,j2⟩ ⟨rfl,rfl,rfl,rfl,j2⟩ (.c0 (.c0 (.c0 (.c0 (.c0 .nil))))) ⟨j3 (⟨n9,hR▸mid_4 (it:=it.it) ‹_› n9 hb ha rfl hme⟩),d7,j2⟩ (bA.drop 12)
  refine g6 ?_;refine fE (fun hc131=>?_) fun hc131=>?_
  ·refine cL ?_;have htk:T=2:=hTk.symm.trans (qF af6);subst htk;obtain⟨b,hb⟩:=gx hv (hv.length-2);refine bB (tyF b.ty) (Has.each i7 (j4 hb)) ?_;have hSb:=pD (hW b (j4 hb));refine bB (listF b.ty.sides) (kZ d7)<|bB (listF b.ty.values) (lC d8)<|cF b.ty.sides mT1 fun hc_bs=>?_;have h4b:=hSb.1;obtain⟨a,ha⟩:=gx hv (hv.length-1);refine bB (tyF a.ty) (Has.each (Has.of (u8 (u8 mT1))) (j4 ha)) ?_;have hSa:=pD (hW a (j4 ha));refine bB (listF a.ty.sides) (kZ d7)<|bB (listF a.ty.values) (lC d8)<|cF a.ty.sides mT1 fun hc_as=>?_;have h4a:=hSa.1;refine lL _ _ (.fl 0 (.fl 1 (.fl 2 (.fl 3 (.fl 4 (.fl 5 (.fl 6 (.fl 7 (.fl 8 (.fl 9 (.two 10 11 (.op 11 (.op 12 (.op 13 .nil))) (.op 10 (.op 12 (.op 13 .nil)))))))))))))) bX o6 (.c0 (.c0 (.c0 (.c0 (.c0 .nil))))) bA.self ?_;refine g3 ?_;refine inc (hv.length-2) ?_;refine sqT rfl (ixs (hv.length-2)) ?_;refine sqT rfl (lY hb 0) ?_;refine g3 ?_;refine inc (hv.length-1) ?_;refine sqT rfl (ixs (hv.length-1)) ?_;refine sqT rfl (lY ha 0) ?_;refine jD (o:=_) (o':=_) rfl rfl ?_ ?_
   ·refine j6 dT fun b49=>?_;refine g2 ?_;refine j6 dT fun b50=>?_;refine g10 ?_;refine bU _ _ [(true,0),(true,1),(true,2),(true,3),(true,5),(true,6),(true,7),(true,8),(true,9),(true,11),(true,12),(false,4),(false,10),(false,13),(false,14),(false,15)] bX o6 (.c0 (.c0 (.c1 (.c2 (.c2 .nil))))) bA.self ?_;refine g2 ?_;refine stM rfl (j7 hT (bJ (off:=0) (Has.of (u8 (u8 mT0))))) ?_;refine g7 ?_;refine stM rfl (j7 hT (bJ (off:=2) (Has.of (u8 (u8 mT1))))) ?_;refine one ?_;refine j5 func41 (gR b hSb (0) n9) ⟨f5,j2⟩ fun y51=>?_;refine bC d8 fun h147=>?_;refine g2 ?_;refine j5 func41 (gR a hSa (b.ty.sides.list.length) n9) ⟨e8,j2⟩ fun y52=>?_;refine bC d8 fun h153=>?_;refine g2 ?_;refine j5 func43 (iW (it.fn)) j2 fun y53=>?_;refine bC d8 fun h156=>?_;refine g2 ?_;refine bV kT2 fun hc54=>bE kT2<|bB (dB y51) (cO d7 (e8) hc54 h147 ad3)<|bV kT1 fun hc55=>bE kT1<|bB (dB y52) (cO d7 (e8) hc55 h153 ah0)<|bV .head fun hc56=>bE .head<|bB (dB y53) (cO d7 (e8) hc56 h156 o9) ?_;refine qK y51 y52 y53 rfl rfl rfl rfl rfl rfl rfl fun b57=>?_;refine bQ (E:=gJ) (xs:=[y51,y52,y53]) .head q8<|bE .head<|bB (Fact.each [y51,y52,y53] dB) ((Has.each_cons e8 (Has.each_cons e6 (Has.each_cons d8 Has.each_nil)))) ?_;have hq157:([y51,y52,y53].map fun s=>dU s.list).flatten=[fromL b.v (0),fromL a.v (b.ty.sides.list.length),[oD (it.fn)]].flatten:=by simp only [List.map_cons,List.map_nil,h147,h153,h156]
    refine g2 ?_;refine bD func38 (fH mb nm vars BA bl.length bc SA sc sq O q9 t.sides hSt (some ⟨b57,0,none⟩) 3 [y51,y52,y53] r9 (fO hq157 bde)) rfl rfl (.c2 (.c3 .nil)) ⟨(Has.of (u8 (u8 (u8 mT5)))),d8,d7,j2⟩ fun⟨A58,c59,T60⟩=>?_;refine bC d8 fun ht61=>?_;rw [hq157] at ht61;refine bB (Fact.each (sq++[T60]) fJ) (Has.each_snoc (Has.of (u8 (u8 (u8 (u8 mT5))))) d7) ?_;refine g6 ?_;refine inc (hv.length-2) ?_;refine g3 ?_;exact qZ ((hv.length-2),0,A58,c59,(sq++[T60])) ⟨rfl,rfl,j2⟩ ⟨rfl,rfl,rfl,rfl,j2⟩ (.c0 (.c0 (.c2 (.c2 (.c2 .nil))))) ⟨j3 (⟨n9,hR▸mid_7 (it:=it.it) h17 ‹_› ‹_› ‹_› ‹_› ‹_› ‹_› n9 hb ha (by rw [show b.v.t.sides.length=b.ty.sides.list.length from bF _];exact jR (dI _).symm ht61)⟩),d7,j2⟩ (bA.drop 27)
   refine j6 dT fun b62=>?_;refine g2 ?_;refine j6 dT fun b63=>?_;refine g10 ?_;refine bU _ _ [(true,0),(true,1),(true,2),(true,3),(true,5),(true,6),(true,7),(true,8),(true,9),(true,11),(true,12),(false,4),(false,10),(false,13),(false,14),(false,15)] bX o6 (.c0 (.c0 (.c1 (.c2 (.c2 .nil))))) bA.self ?_;refine g2 ?_;refine stM rfl (j7 hT (bJ (off:=0) (Has.of (u8 (u8 mT0))))) ?_;refine g7 ?_;refine stM rfl (j7 hT (bJ (off:=2) (Has.of (u8 (u8 mT1))))) ?_;refine one ?_;refine j5 func41 (gR b hSb (0) n9) ⟨f5,j2⟩ fun y64=>?_;refine bC d8 fun h147=>?_;refine g2 ?_;refine j5 func41 (gR a hSa (b.ty.sides.list.length) n9) ⟨e8,j2⟩ fun y65=>?_;refine bC d8 fun h153=>?_;refine g2 ?_;refine j5 func43 (iW (it.fn)) j2 fun y66=>?_;refine bC d8 fun h156=>?_;refine g2 ?_;refine bV kT2 fun hc67=>bE kT2<|bB (dB y64) (cO d7 (e8) hc67 h147 ad3)<|bV kT1 fun hc68=>bE kT1<|bB (dB y65) (cO d7 (e8) hc68 h153 ah0)<|bV .head fun hc69=>bE .head<|bB (dB y66) (cO d7 (e8) hc69 h156 o9) ?_;refine qK y64 y65 y66 rfl rfl rfl rfl rfl rfl rfl fun b70=>?_;refine bQ (E:=gJ) (xs:=[y64,y65,y66]) .head q8<|bE .head<|bB (Fact.each [y64,y65,y66] dB) ((Has.each_cons e8 (Has.each_cons e6 (Has.each_cons d8 Has.each_nil)))) ?_;have hq157:([y64,y65,y66].map fun s=>dU s.list).flatten=[fromL b.v (0),fromL a.v (b.ty.sides.list.length),[oD (it.fn)]].flatten:=by simp only [List.map_cons,List.map_nil,h147,h153,h156]
   refine g2 ?_;refine bD func38 (fH mb nm vars BA bl.length bc SA sc sq O q9 t.sides hSt (some ⟨b70,0,none⟩) 3 [y64,y65,y66] r9 (fO hq157 bde)) rfl rfl (.c2 (.c3 .nil)) ⟨(Has.of (u8 (u8 (u8 mT5)))),d8,d7,j2⟩ fun⟨A71,c72,T73⟩=>?_;refine bC d8 fun ht74=>?_;rw [hq157] at ht74;refine bB (Fact.each (sq++[T73]) fJ) (Has.each_snoc (Has.of (u8 (u8 (u8 (u8 mT5))))) d7) ?_;refine g6 ?_;refine inc (hv.length-2) ?_;refine g3 ?_;exact qZ ((hv.length-2),0,A71,c72,(sq++[T73])) ⟨rfl,rfl,j2⟩ ⟨rfl,rfl,rfl,rfl,j2⟩ (.c0 (.c0 (.c2 (.c2 (.c2 .nil))))) ⟨j3 (⟨n9,hR▸mid_7 (it:=it.it) h17 ‹_› ‹_› ‹_› ‹_› ‹_› ‹_› n9 hb ha (by rw [show b.v.t.sides.length=b.ty.sides.list.length from bF _];exact jR (dI _).symm ht74)⟩),d7,j2⟩ (bA.drop 27)
  exact absurd h17 n9
 rintro⟨n1,e1,A1,c1,ls⟩;dsimp only;refine bC d7 fun hjn=>?_;refine g8 ?_;refine vC (fun hc162=>?_) fun hc162=>?_
 ·refine g9 ?_;have hr:r= .error e1:=mid_err hjn.2 ‹_›;subst hr;refine cH (t:=82) bLq ?_;exact rs2 (BA,bc,bl,A1,c1,ls,none,0,[]) ⟨i7,d8,Has.each_nil,j3 (fun _ h=>by cases h),j2⟩
 refine g3 ?_;refine bU _ _ [(true,0),(true,1),(true,2),(true,3),(true,4),(true,5),(true,6),(true,7),(false,8),(false,9)] bX o6 (.c0 (.c0 (.c0 (.c0 (.c0 .nil))))) bA.self ?_;refine stM rfl (fA hT (bJ (off:=0) f5) rfl rfl rfl rfl rfl) ?_;refine g6 ?_;refine stM rfl (k7 (tI _ _ _ _)) ?_;refine one ?_;refine j6 dT fun b75=>?_;refine g7 ?_;refine nX 15 _ _ [(true,0),(true,1),(true,2),(true,3),(true,4),(true,5),(true,6),(true,7),(false,8),(true,9),(false,10),(false,11),(true,12),(true,13),(true,14)] bX o6 (.c0 (.c0 (.c0 (.c1 (.c1 .nil))))) bA.self ?_;refine g7 ?_;refine stL rfl (j7 hT (bJ (off:=0) f5)) ?_;refine one ?_;refine j5 func19 (bFp t.sides hSt) ⟨f3,j2⟩ fun lp76=>?_;refine bC d8 fun hlp=>?_;refine one ?_;refine stL rfl (k7 (uY _ _ _ _)) ?_;refine one ?_;refine bKb (m:=(⟨lp76,-1⟩:BufV)) rfl rfl rfl rfl rfl fun b77=>?_;refine g2 ?_;refine bJt kT4 (cA .head rfl) rfl rfl rfl rfl rfl rfl rfl r8 fun A78 c79=>?_;refine g10 ?_;refine bB (Fact.each (bl++[(⟨lp76,-1⟩:BufV)]) bAo) (Has.each_snoc j1 d7) ?_;refine g9 ?_;refine lR (fun hg194=>?_) fun hg194=>?_
 ·refine g19 ?_;have hr:r= .error 111:=mid_many ad4 ab3;subst hr;refine cH (t:=82) bLq ?_;exact rs2 (A78,c79,(bl++[(⟨lp76,-1⟩:BufV)]),A1,c1,ls,none,0,[]) ⟨d7,e7,Has.each_nil,j3 (fun _ h=>by cases h),j2⟩
 refine g10 ?_;refine dM (fun hc202=>?_) fun hc202=>?_
 ·refine g8 ?_;have hr:r= .error 111:=mid_many ad4 ab3;subst hr;refine cH (t:=82) bLq ?_;exact rs2 (A78,c79,(bl++[(⟨lp76,-1⟩:BufV)]),A1,c1,ls,none,0,[]) ⟨d7,e7,Has.each_nil,j3 (fun _ h=>by cases h),j2⟩
 refine g3 ?_;refine lL _ _ (.fl 0 (.fl 1 (.fl 3 (.two 2 4 (.op 4 (.op 5 (.fl 6 (.fl 7 .nil)))) (.op 2 (.op 5 (.fl 6 (.fl 7 .nil)))))))) bX o6 (.c0 (.c0 (.c0 (.c0 (.c0 (.c0 .nil)))))) bA.self ?_;refine g3 ?_;refine jD (o:=_) (o':=_) rfl rfl ?_ ?_
 ·refine gX hT (k:=n1) kT6 rfl rfl rfl rfl rfl rfl rfl rfl rfl n9 ?_;refine g2 ?_;refine bBj (m:=(⟨t,(bl.length:Nat)⟩:ValV)) rfl rfl rfl rfl rfl fun b80=>?_;refine g2 ?_;refine bBu kT1 (cA .head rfl) rfl rfl rfl rfl rfl rfl rfl r8 fun A81 c82=>?_;refine g6 ?_;have hr:=mid_ok ad4 ab3 n9 hjn.1 hlp;have he0:bPh r=0:=by rw [hr];rfl
  rw [he0];exact rs2 (A78,c79,(bl++[(⟨lp76,-1⟩:BufV)]),A1,c1,ls,A81,c82,((hv.take n1)++[(⟨t,(bl.length:Nat)⟩:ValV)])) ⟨d7,e7,Has.each_snoc (each_take (Has.of (u8 (u8 mT1))) _) j1,j3 (bDd hr),j2⟩
 refine bBj (m:=(⟨t,(bl.length:Nat)⟩:ValV)) rfl rfl rfl rfl rfl fun b83=>?_;refine g2 ?_;refine gX hT (k:=n1) kT7 rfl rfl rfl rfl rfl rfl rfl rfl rfl n9 ?_;refine g2 ?_;refine bBu .head (cA kT1 rfl) rfl rfl rfl rfl rfl rfl rfl r8 fun A84 c85=>?_;refine g6 ?_;have hr:=mid_ok ad4 ab3 n9 hjn.1 hlp;have he0:bPh r=0:=by rw [hr];rfl
 rw [he0];exact rs2 (A78,c79,(bl++[(⟨lp76,-1⟩:BufV)]),A1,c1,ls,A84,c85,((hv.take n1)++[(⟨t,(bl.length:Nat)⟩:ValV)])) ⟨d7,e7,Has.each_snoc (each_take (Has.of (u8 (u8 mT1))) _) j1,j3 (bDd hr),j2⟩
structure iK (N:iU) (NT:fM) (l:List cT) (R fin:List TyP) (r:Except Flt (List iX×LoS)) (j:Nat) (hv:List ValV) (s:LoS):Prop where
 run:r=rC N (l.drop j) (R.drop j) (stV hv) s
 ty:lE NT (l.drop j) (kQ (stV hv)) (R.take j)= .ok (fin,R)
 dep:lX (l.drop j) hv.length=some 1
 wf: ∀v∈hv,WfT v.ty.t
 len:hv.length≤j
 fb:s.bufs.length≤1024
 fs:s.steps.length≤1024
section
variable {N : iU} {NT : fM} {l : List cT} {R fin : List TyP} {r : Except Flt (List iX × LoS)} {j : Nat} {hv hv' : List ValV} {s s' : LoS} {x : cT}
theorem il_start(hl:lE NT l [] []= .ok (fin,R))(hd:lX l 0=some 1)(hb:s.bufs.length≤1024)(hs:s.steps.length≤1024):iK N NT l R fin (rC N l R [] s) 0 [] s:=
 ⟨rfl,hl,hd,fun v hv=>(by cases hv),Nat.le_refl _,hb,hs⟩
theorem stV_wf(h: ∀v∈hv,WfT v.ty.t): ∀t∈kQ (stV hv),WfT t:=fun t ht=>by
 obtain⟨v,hv',rfl⟩:=List.mem_map.1 ht;obtain⟨w,hw,rfl⟩:=List.mem_map.1 (List.mem_reverse.1 hv');exact h w hw
theorem typs_wf(h: ∀t∈kQ (stV hv),WfT t): ∀v∈hv,WfT v.ty.t:=fun v hm=>h _ (List.mem_map.2 ⟨v.v,List.mem_reverse.2 (List.mem_map_of_mem hm),rfl⟩)
theorem bMg:(kQ (stV hv)).length=hv.length:=by simp [vK]
theorem iK.at(h:iK N NT l R fin r j hv s)(hx:l[j]?=some x):
  (dF x≤hv.length∧1≤x.how∧x.how≤7∧(x.how=1→x.nums≠[]∧x.nums.length≤65536))∧(dR NT x (kQ (stV hv))).2=0∧R[j]?=some (dR NT x (kQ (stV hv))).1∧
  R.drop j=(dR NT x (kQ (stV hv))).1::R.drop (j+1)∧lE NT (l.drop (j+1)) ((dR NT x (kQ (stV hv))).1::(kQ (stV hv)).drop (dF x)) (R.take (j+1))= .ok (fin,R)∧lX (l.drop (j+1)) (hv.length-dF x+1)=some 1:=by
 have ht:=h.ty;have hd:=h.dep;rw [fV hx] at ht hd;obtain⟨d1,d2⟩:=depth_at hd;obtain⟨y,hy,hyl⟩:=bGd ht;have hR:R=R.take j++y:=hy
 have hj:(R.take j).length=j:=by
  have:=congrArg List.length hR;rw [List.length_append,hyl,List.length_take,List.length_cons] at this;rw [List.length_take];omega
 obtain⟨h1,h2,h3⟩:=lineT_at ht;rw [hj] at h2;have h2:R.drop j=(dR NT x (kQ (stV hv))).1::R.drop (j+1):=h2
 have h4:R[j]?=some (dR NT x (kQ (stV hv))).1:=by
  have:(R.drop j)[0]?=some (dR NT x (kQ (stV hv))).1:=by rw [h2];rfl
  rwa [List.getElem?_drop,Nat.add_zero] at this
 refine⟨d1,h1,h4,h2,?_,d2⟩;obtain⟨hi,e⟩:=List.getElem?_eq_some_iff.1 h4;rw [List.take_succ_eq_append_getElem hi,e];exact h3
theorem iK.tyw(h:iK N NT l R fin r j hv s)(hW:nK NT)(hx:l[j]?=some x):WfT (dR NT x (kQ (stV hv))).1:=by
 obtain⟨⟨d1,d2,d3,d4⟩,h1,_⟩:=h.at hx;exact item_wf hW (stV_wf h.wf) (by rw [bMg];exact d1) (fun e=>(d4 e).1) ⟨d2,d3⟩ h1
theorem iK.err(h:iK N NT l R fin r j hv s)(hx:l[j]?=some x){t:TyP}(ht:R[j]?=some t){e:Int}(hr:iE N x t (stV hv) s= .error e):r= .error (x.at_,e):=by
 rw [h.run,fV hx,fV ht,rC];simp only [List.headD_cons];rw [hr]
theorem iK.step(h:iK N NT l R fin r j hv s)(hN:bAw N NT)(hW:nK NT)(hx:l[j]?=some x)(hp:x.how=2→sZ x.name){t:TyP}(ht:R[j]?=some t)(hr:iE N x t (stV hv) s= .ok (stV hv',s')):iK N NT l R fin r (j+1) hv' s':=by
 obtain⟨⟨d1,d2,d3,d4⟩,h1,h2,h3,h4,h5⟩:=h.at hx;have et:t=(dR NT x (kQ (stV hv))).1:=by rw [h2] at ht;injection ht with ht;exact ht.symm
 subst et;have hs:=item_sync hN hp (by rw [vK];exact d1) ⟨d2,d3⟩ h1 hr;have hs:kQ (stV hv')=(dR NT x (kQ (stV hv))).1::(kQ (stV hv)).drop (dF x):=hs
 have hl:hv'.length=hv.length-dF x+1:=by
  have:=congrArg List.length hs;rw [bMg,List.length_cons,List.length_drop,bMg] at this;exact this
 have hf:=item_fits hr h.fb h.fs;refine⟨?_,by rw [hs];exact h4,by rw [hl];exact h5,typs_wf fun q hq=>?_,by have:=h.len;omega,hf.1,hf.2⟩
 ·rw [h.run,fV hx,h3,rC];simp only [List.headD_cons,List.tail_cons];rw [hr]
 ·rw [hs] at hq
  rcases List.mem_cons.1 hq with rfl | hq
  ·exact h.tyw hW hx
  ·exact stV_wf h.wf q (List.mem_of_mem_drop hq)
theorem iK.last(h:iK N NT l R fin r j hv s)(hj:l.length≤j): ∃a,hv=[a]∧r= .ok ([a.v],s)∧fin=[a.v.t]∧WfT a.ty.t:=by
 have h2:=h.dep;have h3:=h.ty;rw [List.drop_of_length_le hj] at h2 h3;rw [lX] at h2;injection h2 with h2
 match hv,h2,h with
 | [a],_,h=>
  refine⟨a,rfl,?_,?_,h.wf a (List.mem_cons_self ..)⟩
  ·rw [h.run,List.drop_of_length_le hj];rfl
  ·rw [lE] at h3;injection h3 with h3
   injection h3 with h3 _
   exact h3.symm
theorem iK.val(h:iK N NT l R fin r j hv s)(hN:bAw N NT)(hx:l[j]?=some x)(hp:x.how=2→sZ x.name){t:TyV}(ht:R[j]?=some t.t)(k:x.how=2)(hl:xB x.name N=none):0<t.values.list.length:=by
 obtain⟨_,h1,h2,_⟩:=h.at hx;rw [ht] at h2;injection h2 with h2
 have:=name_val hN (hp k) k h1 hl;rw [←h2] at this
 rwa [show t.t.values.length=t.values.list.length from bF _] at this
theorem iK.part(h:iK N NT l R fin r j hv s)(hx:l[j]?=some x){b:ValV}(hb:hv[hv.length-2]?=some b)(k:x.how=4)(hf:x.fn=38∨x.fn=39):0<b.ty.values.list.length:=by
 obtain⟨⟨d1,_⟩,h1,_⟩:=h.at hx;have h2:2≤hv.length:=by rw [qF (.inl k)] at d1;exact d1
 have e:(kQ (stV hv)).tail.headD default=b.ty.t:=by
  have:=bBy hb h2
  match hs:stV hv with
  | []=>have:=congrArg List.length hs;rw [vK] at this;simp only [List.length_nil] at this;omega
  | [_]=>have:=congrArg List.length hs;rw [vK] at this;simp only [List.length_nil,List.length_cons] at this;omega
  | _::c::_=>
   rw [hs] at this;have hc:c=b.v:=by simpa using this
   subst hc;rfl
 have:=part_val (by rw [e];exact h.wf b (j4 hb)) k hf h1;rw [e] at this
 rwa [show b.ty.t.values.length=b.ty.values.list.length from bF _] at this
end
structure mL (ls:List kY) (Rs:List (List TyP)) (r:Except Flt (LoS×List Int)) (i:Nat) (kv:KVS) (NV:kH) (NT:fM) (s:LoS) (o:List Int):Prop where
 nr:zN kv NV
 sy:bAw (nI NV) NT
 nw:nK NT
 run:r=jU (nI NV) (ls.drop i) (Rs.drop i) s o
 ty:jA NT (ls.drop i) (Rs.take i)=(Rs,(0,0))
 fb:s.bufs.length≤1024
 fs:s.steps.length≤1024
 len:o.length=i
section
variable {ls : List kY} {Rs : List (List TyP)} {r : Except Flt (LoS × List Int)} {i : Nat} {kv : KVS} {NV : kH} {NT : fM} {s s' : LoS} {o : List Int} {l : kY}
theorem mL.at(h:mL ls Rs r i kv NV NT s o)(hx:ls[i]?=some l): ∃fin R,Rs[i]?=some R∧lE NT l.items [] []= .ok (fin,R)∧jA ((jN++l.name,fin.getLastD default)::NT) (ls.drop (i+1)) (Rs.take (i+1))=(Rs,(0,0)):=by
 have ht:=h.ty;rw [fV hx,jA] at ht
 cases e:lE NT l.items [] [] with
 | error f=>
  rw [e] at ht;have:=vB e;injection ht with _ h2
  have h2:f=(0,0):=h2;rw [h2] at this;exact absurd rfl this
 | ok q=>
  obtain⟨fin,R⟩:=q;rw [e] at ht;have ht:jA ((jN++l.name,fin.getLastD default)::NT) (ls.drop (i+1)) (Rs.take i++[R])=(Rs,(0,0)):=ht;obtain⟨⟨z,hz⟩,hl⟩:=sL ht
  have hi:(Rs.take i).length=i:=by
   rw [List.length_append,List.length_take,List.length_singleton] at hl;rw [List.length_take];omega
  have hg:Rs[i]?=some R:=by
   have:(Rs.take i++[R]++z)[i]?=some R:=by
    rw [List.append_assoc,List.getElem?_append_right n9,hi];simp
   rwa [hz] at this
  refine⟨fin,R,hg,rfl,?_⟩;obtain⟨hi2,e2⟩:=List.getElem?_eq_some_iff.1 hg;rw [List.take_succ_eq_append_getElem hi2,e2];exact ht
theorem mL.err(h:mL ls Rs r i kv NV NT s o)(hx:ls[i]?=some l){R:List TyP}(hR:Rs[i]?=some R){f:Flt}(hf:rC (nI NV) l.items R [] s= .error f):r= .error f:=by
 rw [h.run,fV hx,fV hR,jU];simp only [List.headD_cons];rw [hf]
theorem mL.step(h:mL ls Rs r i kv NV NT s o)(hx:ls[i]?=some l){fin R:List TyP}(hR:Rs[i]?=some R)(hT:jA ((jN++l.name,fin.getLastD default)::NT) (ls.drop (i+1)) (Rs.take (i+1))=(Rs,(0,0))){a:ValV}(hf:rC (nI NV) l.items R [] s= .ok ([a.v],s'))(hfin:fin=[a.v.t])(ha:WfT a.ty.t)(fb:s'.bufs.length≤1024)(fs:s'.steps.length≤1024):
  mL ls Rs r (i+1) (mA l.name (valC a) kv) ((l.name,a)::NV) ((jN++l.name,a.v.t)::NT) s' (o++[a.buf]):=by
 subst hfin;refine⟨nrL_add h.nr _ a,sync_add h.sy l.name a.v,fun p hp=>?_,?_,hT,fb,fs,by rw [List.length_append,h.len];rfl⟩
 ·rcases List.mem_cons.1 hp with rfl | hp
  ·exact ha
  ·exact h.nw p hp
 ·rw [h.run,fV hx,fV hR,jU];simp only [List.headD_cons,List.tail_cons];rw [hf];rfl
theorem mL.fin(h:mL ls Rs r i kv NV NT s o)(hi:ls.length≤i):r= .ok (s,o):=by
 rw [h.run,List.drop_of_length_le hi];rfl
end
structure yJ (p:gQ) (i:Nat) (kv:KVS) (NV:kH) (bl:List BufV):Prop where
 nr:zN kv NV
 run:bBv (cW p) 0 p.inputs []=bBv (cW p) i (p.inputs.drop i) (nI NV)
 bufs:bIt (cW p) 0 p.inputs=gZ bl++bIt (cW p) i (p.inputs.drop i)
 len:bl.length=i
section
variable {p : gQ} {i : Nat} {kv : KVS} {NV : kH} {bl : List BufV} {x : hO}
theorem ilA_start(p:gQ):yJ p 0 [] [] []:=⟨nrL_start,rfl,rfl,rfl⟩
theorem yJ.step(h:yJ p i kv NV bl)(hx:p.inputs[i]?=some x){a:ValV}{b:BufV}(ha:a.v=⟨inT (cW p) x,(i:Nat)⟩)(hb:b.c=⟨(inT (cW p) x).sides,(i:Nat)⟩):yJ p (i+1) (mA x.name (valC a) kv) ((x.name,a)::NV) (bl++[b]):=by
 refine⟨nrL_add h.nr _ a,?_,?_,by rw [List.length_append,h.len];rfl⟩
 ·rw [h.run,fV hx,bBv,←ha];rfl
 ·rw [h.bufs,fV hx,bIt,←hb];unfold gZ;rw [List.map_append,List.append_assoc];rfl
theorem yJ.fin(h:yJ p i kv NV bl)(hi:p.inputs.length≤i):bBv (cW p) 0 p.inputs []=nI NV∧bIt (cW p) 0 p.inputs=gZ bl:=by
 refine⟨?_,?_⟩
 ·rw [h.run,List.drop_of_length_le hi];rfl
 ·rw [h.bufs,List.drop_of_length_le hi];exact List.append_nil _
theorem lines_start(hrt:(cX p).2=true)(h:yJ p i kv NV bl)(hi:p.inputs.length≤i)(hb:bl.length≤1024){Rs:List (List TyP)}(hT:jA (oA p) p.lines []=(Rs,(0,0))):
  mL p.lines Rs (jU (bBv (cW p) 0 p.inputs []) p.lines Rs ⟨bIt (cW p) 0 p.inputs,[]⟩ []) 0 kv NV (oA p) ⟨gZ bl,[]⟩ []:=by
 obtain⟨e1,e2⟩:=h.fin hi;refine⟨h.nr,?_,check_wf hrt,by rw [e1,e2];rfl,hT,by rw [dI];exact hb,Nat.zero_le _,rfl⟩;rw [←e1];exact start_sync (bHd hrt).2
theorem low_types(h:(fP p).2≠(0,0)):dX p=(noCore,(fP p).2):=if_pos h
theorem low_bad(h:(fP p).2=(0,0)){f:Flt}(hf:jU (bBv (cW p) 0 p.inputs []) p.lines (fP p).1 ⟨bIt (cW p) 0 p.inputs,[]⟩ []= .error f):dX p=(noCore,f):=by
 unfold dX;rw [if_neg (fun k=>k h),hf]
theorem low_ok(h:(fP p).2=(0,0)){s:LoS}{o:List Int}(hf:jU (bBv (cW p) 0 p.inputs []) p.lines (fP p).1 ⟨bIt (cW p) 0 p.inputs,[]⟩ []= .ok (s,o)):dX p=(⟨(cW p).length,s.bufs,s.steps,o⟩,(0,0)):=by
 unfold dX;rw [if_neg (fun k=>k h),hf]
theorem types_right(h:(fP p).2=(0,0)):(cX p).2=true:=by
 cases e:(cX p).2 with
 | true=>rfl
 | false=>
  rw [show fP p=([],(0,50)) from if_pos e] at h;cases h
end
theorem iintInfo: ∃i:TypeInfo,prog.info? 3=some i∧i.zero=some (.int .i64 0)∧i.size=1∧i.bytes=8:=by
 have h:(prog.info? 3).map (fun i=>(i.zero,i.size,i.bytes))=some (some (.int .i64 0),1,8):=o0
 cases hi:prog.info? 3 with
 | none=>simp [hi] at h
 | some i=>simp [hi] at h;exact⟨i,rfl,h.1,h.2.1,h.2.2⟩
theorem at_one_iint{β:dE}{n:Nat}{Γ:Env}{H:List bH}{F:List Fact}{Q:Exit→Act→World→Prop}{ops:Array Oper}{rest:List Oper}{o:Oper}{d:Nat}{x:Operand}{m:Int}(hw:want ops Γ o=some true)(ho:o.op= .buildSlice 29 1 #[(0,x)])(hd:o.dst=some d)(hn:Nat.blt d n=true)
  (hx:Γ.ev x=some (.int .i64 m)) (k: ∀b,At β n ((d,.slice (some ⟨b,0,none⟩) 1 1)::Γ) (.obj b (.cells (rJ.all [m]).toArray 3)::H) F (wpList prog ops Q rest)):At β n Γ H F (wpList prog ops Q (o::rest)):=by
 obtain⟨i,hi,hz,hs,_⟩:=iintInfo;refine gD hw ho hd hn hx underlying29 hi hz n9 n9 ?_ k;rw [hs]
 kernel_rfl
theorem at_app_iint{β:dE}{n:Nat}{Γ:Env}{H:List bH}{F:List Fact}{Q:Exit→Act→World→Prop}{ops:Array Oper}{rest:List Oper}{o:Oper}{d:Nat}{x y:Operand}{c q:Nat}{v:Value}{A:Option Addr}{xs ys:List Int}{H':List bH}(hH:cB H (rJ.row v 3 xs) H')(hr:dQ β H F rJ A ys)(hg:o.guard=none)
  (ho:o.op= .call {callee:= .builtin .append,args:= #[x,y],argTypes:= #[29,29]}) (hd:o.dst=some d) (hn:Nat.blt d n=true)
  (hx:Γ.ev x=some v) (hy:Γ.ev y=some (.slice A q c)) (hq:q=ys.length) (hl:xs.length+ys.length≤17592186044416)
  (k: ∀A' cap',At β n ((d,.slice A' (xs++ys).length cap')::Γ) (rJ.row (.slice A' (xs++ys).length cap') 3 (xs++ys)::H') F (wpList prog ops Q rest)):At β n Γ H F (wpList prog ops Q (o::rest)):=by
 obtain⟨i,hi,hz,hs,hb⟩:=iintInfo;exact dK hH hr hg ho hd hn underlying29 hi hz hs hb rfl hx hy hq n9 p7 k
theorem mk_built(v:Int)(m:Nat):prog.built 74 [(0,.agg #[.int .i64 v,.slice none 0 0,.slice none 0 0,.slice none 0 0]),(1,.map (some m))]=some #[.int .i64 v,.slice none 0 0,.slice none 0 0,.slice none 0 0,.map (some m)]:=o0
theorem inT_wf{vars:List Bs}{x:hO}(h:x.sides.length≤4):WfT (inT vars x):=insT_wf (l:=[x]) (N:=[]) (fun y hy=>by rw [List.mem_singleton.1 hy];exact h) (fun q hq=>by cases hq) (nIn++x.name,inT vars x) (List.mem_singleton.2 rfl)
theorem rows_at{xs:List (Sl TyV)}{Rs:List (List TyP)}(h:xs.map rowT=Rs){i:Nat}{R:List TyP}(hR:Rs[i]?=some R): ∃X,xs[i]?=some X∧rowT X=R:=by
 subst h;rw [List.getElem?_map] at hR
 cases e:xs[i]? with
 | none=>rw [e] at hR;cases hR
 | some X=>rw [e] at hR;cases hR;exact⟨X,rfl,rfl⟩
theorem row_at{X:Sl TyV}{R:List TyP}(h:rowT X=R){j:Nat}{t:TyP}(ht:R[j]?=some t): ∃y,X.list[j]?=some y∧y.t=t:=by
 subst h;have ht:(X.list.map TyV.t)[j]?=some t:=ht;rw [List.getElem?_map] at ht
 cases e:X.list[j]? with
 | none=>rw [e] at ht;cases ht
 | some y=>rw [e] at ht;cases ht;exact⟨y,rfl,rfl⟩
theorem errI_bad{r:Except Int (List iX×LoS)}(h:bPh r≠0):r= .error (bPh r):=by
 cases r with
 | ok _=>exact absurd rfl h
 | error e=>rfl
theorem errI_ok{N:iU}{it:cT}{t:TyP}{st:List iX}{s:LoS}(h:bPh (iE N it t st s)=0): ∃y,iE N it t st s= .ok y:=by
 cases e:iE N it t st s with
 | ok y=>exact⟨y,rfl⟩
 | error k=>
  rw [e] at h;have h:k=0:=h;have:=item_bad e;omega
abbrev noCoreV:CoreV:=⟨0,⟨none,0,[]⟩,⟨none,0,[]⟩,⟨none,0,[]⟩⟩
abbrev bNk(x:CoreV):Value:= .agg #[.int .i64 x.vars,.slice x.bufs.addr x.bufs.list.length x.bufs.cap,.slice x.steps.addr x.steps.list.length x.steps.cap,.slice x.outs.addr x.outs.list.length x.outs.cap]
section
variable {F : List Fact} {A B C : Option Addr} {a b c : Nat} {bl : List BufV} {sq : List StepV} {ob : List Int} {v : Int}
theorem coreF_mk(h1:Has F (xH.sl (.slice A bl.length a) bl))(h2:Has F (Fact.each bl bAo))(h3:Has F (jS.sl (.slice B sq.length b) sq))(h4:Has F (Fact.each sq fJ))(h5:Has F (rJ.sl (.slice C ob.length c) ob))(c1:bl.length≤a)(c2:sq.length≤b)(c3:ob.length≤c)
  (l1:bl.length≤1024) (l2:sq.length≤1024) (l3:ob.length≤1024):Has F (bAt ⟨v,⟨A,a,bl⟩,⟨B,b,sq⟩,⟨C,c,ob⟩⟩):=
 Has.and (Has.and (Has.and h1 h2) (j3 ⟨c1,by dsimp only;omega⟩)) (Has.and (Has.and (Has.and h3 h4) (j3 ⟨c2,by dsimp only;omega⟩)) (Has.and h5 (j3 ⟨c3,by dsimp only;omega⟩)))
theorem bMw:Has F (bAt noCoreV):=coreF_mk pH Has.each_nil pH Has.each_nil pH (Nat.le_refl _) (Nat.le_refl _) (Nat.le_refl _) (Nat.zero_le _) (Nat.zero_le _) (Nat.zero_le _)
end
theorem bAm:(prog.info? 31).bind (·.zero)=some (.agg #[.int .i64 0,.slice none 0 0,.slice none 0 0,.slice none 0 0]):=o0
theorem pP:prog.built 31 []=some #[.int .i64 0,.slice none 0 0,.slice none 0 0,.slice none 0 0]:=o0
theorem wQ(z0:Int):prog.built 31 [(0,.int .i64 z0)]=some #[.int .i64 z0,.slice none 0 0,.slice none 0 0,.slice none 0 0]:=o0
set_option maxHeartbeats 1000000 in
theorem zI(P:ProgV)(hP:qA P)(hl1:P.inputs.list.length≤140737488355328)(hl2:P.lines.list.length≤140737488355328):cN prog 8 [.agg #[.slice P.inputs.addr P.inputs.list.length P.inputs.cap,.slice P.lines.addr P.lines.list.length P.lines.cap]] [] [iD,jT.sl (.slice P.inputs.addr P.inputs.list.length P.inputs.cap) P.inputs.list,iO P.inputs.list,nM.sl (.slice P.lines.addr P.lines.list.length P.lines.cap) P.lines.list,kK P.lines.list] (fun(x:CoreV)=> .tuple #[bNk x,.agg #[.int .i64 (dX P.pr).2.1,.int .i64 (dX P.pr).2.2]]) (fun _=>[]) (fun(x:CoreV)=>[bAt x,Fact.pure (x.c=(dX P.pr).1)]):=by
 have hT:=fX;refine k8 func8 ntmps8 ?_;intro β hM;refine g2 ?_;refine j9 fun b1=>?_;refine j6 bAm fun b2=>?_;refine j6 bCd fun b3=>?_;refine g5 ?_;refine j5 func9 (types_spec P hP hl1 hl2) ⟨d7,d8,d9,e6,e7,j2⟩ fun⟨RA,rc,xs⟩=>?_;refine bC d9 fun hxs=>?_;refine g3 ?_;refine j6 bCd fun b4=>?_;refine g8 ?_;refine ss (k7 (yN)) ?_;refine ss (fK ⟨(fP P.pr).2.1,(fP P.pr).2.2⟩ ⟨0,0⟩ rfl rfl rfl) ?_;refine g2 ?_;refine jB (fun hc29=>?_) fun hc29=>?_
 ·refine cL ?_;have hty:=flt_not (by assumption:nU ⟨(fP P.pr).2.1,(fP P.pr).2.2⟩ ⟨0,0⟩=false);refine bU _ _ [(true,0),(true,1),(false,2),(false,3)] bX o6 (.c0 (.c2 .nil)) bA.self ?_;refine stM rfl (k7 (pP)) ?_;refine g11 ?_;have hr:=low_types hty;rw [hr];exact rs2 noCoreV ⟨bMw,j3 rfl,j2⟩
 refine g3 ?_;have hty:=flt_of (by assumption:nU ⟨(fP P.pr).2.1,(fP P.pr).2.2⟩ ⟨0,0⟩=true);have hrt:=types_right hty;have hrt:(cX P.pr).2=true:=by assumption
 have hfine:=wH hrt;have hs: ∀x∈P.inputs.list,x.sides.list.length≤4:=fun x hx=>by have h1:=(hfine.input x.inp (tQ hx)).2.1;have h2:x.inp.sides.length=x.sides.list.length:=List.length_map _;omega
 have hTT:=vG hrt;have hpl:P.pr.inputs.length=P.inputs.list.length:=List.length_map _;refine g2 ?_;refine j5 func15 (bFv P hl1 (fun x hx=>Nat.le_trans (hs x hx) p7) n9) ⟨e7,e8,j2⟩ fun⟨V,cv⟩=>?_;have hvl:(cW P.pr).length≤256:=Nat.le_trans (vars_le P.pr) hTT;refine g7 ?_;refine ss (k7 (wQ _)) ?_;refine yB rfl rfl rfl rfl fun r5=>?_;refine ss (k7 (mk_built _ _)) ?_;refine j9 fun b6=>?_;refine g5 ?_;refine cH (t:=45) xH<|cH (t:=65) jS<|cH (t:=3) rJ<|bB (vS []) (Has.each_nil)<|bB (Fact.each ([]:List BufV) bAo) (Has.each_nil)<|bB (Fact.each ([]:List StepV) fJ) (Has.each_nil) ?_;refine g8 ?_;refine cE (ι:=Nat×KVS×kH×List BufV×Option Addr×Nat) [(1,_),(2,_),(3,_),(4,_),(6,_),(7,_),(41,_),(42,_)] ⟨rfl,rfl,rfl,rfl,rfl,rfl,rfl,rfl,j2⟩ (fun⟨i,kv,NV,bl,BA,bc⟩=>[(43,.int .i64 (i:Nat))]) (fun⟨i,kv,NV,bl,BA,bc⟩=>[mO b6 r5 ((cW P.pr).length:Nat) (.slice BA bl.length bc) (.slice none ([]:List StepV).length 0) (.slice none ([]:List Int).length 0),xH.row (.slice BA bl.length bc) 45 bl,pB r5 kv]) (fun⟨i,kv,NV,bl,BA,bc⟩=>[Fact.pure (i≤P.inputs.list.length∧yJ P.pr i kv NV bl),vS NV,Fact.each bl bAo]) (fun⟨i,kv,NV,bl,BA,bc⟩=>P.inputs.list.length-i) (0,[],[],[],none,0) ⟨rfl,j2⟩ (.c3 (.c2 (.c2 .nil))) ⟨j3 (⟨n9,ilA_start _⟩),d9,d8,j2⟩ ?_;rintro⟨i,kv,NV,bl,BA,bc⟩;dsimp only;refine bC d7 fun hinv7=>?_;have hbl:=hinv7.2.len;have h64:=hfine.ins;refine g6 ?_;refine dM (fun hc44=>?_) fun hc44=>?_
 ·refine g7 ?_;obtain⟨x7,hx8⟩:=gx P.inputs.list i;refine ss (ixs i) ?_;refine ss (lY hx8 0) ?_;refine j6 kD fun b9=>?_;refine g5 ?_;have hx0:P.pr.inputs[i]?=some x7.inp:=rM hx8;have hxs:=hs x7 (j4 hx8);refine bB (qQ x7) (Has.each j0 (j4 hx8)) ?_;have hxn:=(hfine.input x7.inp (tQ (j4 hx8))).1;have hxs4:x7.sides.list.length≤4:=hs x7 (j4 hx8);have hxn:x7.name.length≤16:=hxn;refine one ?_;refine j6 pO fun b10=>?_;refine g12 ?_;refine cH (t:=47) bP<|bB (cK []) (Has.each_nil) ?_;refine cE (ι:=Nat×List PolV×Option Addr×Nat) [(1,_),(2,_),(3,_),(4,_),(6,_),(7,_),(8,_),(9,_),(10,_),(41,_),(42,_),(43,_),(49,_),(50,_)] ⟨rfl,rfl,rfl,rfl,rfl,rfl,rfl,rfl,rfl,rfl,rfl,rfl,rfl,rfl,j2⟩ (fun⟨j,vs,V2,cv2⟩=>[(51,.int .i64 (j:Nat))]) (fun⟨j,vs,V2,cv2⟩=>[.obj b10 (.cells [.slice V2 vs.length cv2,.bool false,.slice none 0 0].toArray 43),bP.row (.slice V2 vs.length cv2) 47 vs]) (fun⟨j,vs,V2,cv2⟩=>[Fact.pure (j≤x7.sides.list.length∧SdAt (cW P.pr) x7.sides.list vs j),cK vs]) (fun⟨j,vs,V2,cv2⟩=>x7.sides.list.length-j) (0,[],none,0) ⟨rfl,j2⟩ (.c1 (.c0 .nil)) ⟨j3 (⟨n9,bPk _ _⟩),d7,j2⟩ ?_;rintro⟨j,vs,V2,cv2⟩;dsimp only;refine bC d7 fun hinv11=>?_;have hvl2:=sdT_len hinv11.2 hinv11.1;refine g6 ?_;refine dM (fun hc52=>?_) fun hc52=>?_
  ·refine g6 ?_;obtain⟨x11,hx12⟩:=gx x7.sides.list j;refine ss (ixs j) ?_;refine ss (lY hx12 0) ?_;refine j6 wS fun b13=>?_;refine g7 ?_;refine j5 func16 (wP (x11.n)) j2 fun⟨A14,c15⟩=>?_;refine g9 ?_;refine bD func17 (tK _ _ _ n9 x11.name) rfl rfl .nil ⟨i6,j2⟩ fun _=>?_;refine g9 ?_;refine c_le (fun hc63=>?_) fun hc63=>?_
   ·refine g2 ?_;refine j5 func18 (bKi ((iJ x11.name (cW P.pr) 0))) j2 fun⟨A16,c17⟩=>?_;refine g10 ?_;refine cU (m:=⟨A16,c17,(sV ((iJ x11.name (cW P.pr) 0))).1⟩) rfl rfl rfl rfl rfl fun b18=>?_;refine bB (cK (vs++[(⟨A16,c17,(sV ((iJ x11.name (cW P.pr) 0))).1⟩:PolV)])) (Has.each_snoc e6 d7) ?_;refine fD kT3 (cA .head rfl) rfl rfl rfl rfl rfl rfl rfl r8 fun A19 c20=>?_;refine g7 ?_;refine inc (j+1) ?_;refine g3 ?_;exact bk2 (j+1,vs++[(⟨A16,c17,(sV ((iJ x11.name (cW P.pr) 0))).1⟩:PolV)],A19,c20) ⟨j3 (⟨by dsimp only;omega,bCw hinv11.2 hx12 ((if_pos ‹_›).symm)⟩),d7,j2⟩
   refine g6 ?_;refine cU (m:=(⟨A14,c15,bT (x11.n)⟩:PolV)) rfl rfl rfl rfl rfl fun b21=>?_;refine bB (cK (vs++[((⟨A14,c15,bT (x11.n)⟩:PolV):PolV)])) (Has.each_snoc d9 d7) ?_;refine fD kT3 (cA .head rfl) rfl rfl rfl rfl rfl rfl rfl r8 fun A22 c23=>?_;refine g7 ?_;refine inc (j+1) ?_;refine g3 ?_;exact bk2 (j+1,vs++[((⟨A14,c15,bT (x11.n)⟩:PolV):PolV)],A22,c23) ⟨j3 (⟨by dsimp only;omega,bCw hinv11.2 hx12 ((if_neg (show ¬(0:Int)≤iJ x11.name (cW P.pr) 0 by omega)).symm)⟩),d7,j2⟩
  refine g6 ?_;refine bV kT1 fun hc_out=>bE kT1 ?_;have hsd:(⟨⟨V2,cv2,vs⟩,false,⟨none,0,[]⟩⟩:TyV).t=inT (cW P.pr) x7.inp:=sdT_end hinv11.2 n9;have hsm:lO vs:=pD (t:=(⟨⟨V2,cv2,vs⟩,false,⟨none,0,[]⟩⟩:TyV)) (by rw [hsd];exact inT_wf (hfine.input x7.inp (tQ (j4 hx8))).2.1);refine bB (listF (⟨V2,cv2,vs⟩:Sl PolV)) (cG d7 d9 hc_out)<|bB (vS ((x7.name,(⟨(⟨⟨V2,cv2,vs⟩,false,⟨none,0,[]⟩⟩:TyV),(i:Nat)⟩:ValV))::NV)) (Has.each_cons (bW d7 cI) f3) ?_;refine bU _ _ [(true,0),(true,1),(true,2),(true,3),(true,4),(true,5),(true,6),(true,7),(true,8),(false,9)] bX o6 (.c0 (.c0 (.c0 (.c0 (.c1 (.c1 (.c1 (.c1 (.c1 (.c1 .nil)))))))))) bA.self ?_;refine g8 ?_;refine stM rfl (k7 (tI _ _ _ _)) ?_;refine one ?_;refine kL kT4 rfl (.inl rfl) rfl mapL underlying9 rfl rfl rfl ?_;refine g3 ?_;refine nX 16 _ _ [(true,0),(true,1),(true,2),(true,3),(true,4),(true,5),(true,6),(true,7),(true,9),(false,8),(true,10),(false,11),(false,12),(true,13),(true,14),(true,15)] bX o6 (.c0 (.c0 (.c0 (.c0 (.c1 (.c1 (.c1 (.c1 (.c1 (.c1 .nil)))))))))) bA.self ?_;refine g10 ?_;refine j5 func19 (bFp (⟨V2,cv2,vs⟩:Sl PolV) hsm) ⟨d8,j2⟩ fun lp24=>?_;refine bC d8 fun hlp=>?_;refine one ?_;refine stL rfl (k7 (uY _ _ _ _)) ?_;refine one ?_;refine bKb (m:=(⟨lp24,(i:Nat)⟩:BufV)) rfl rfl rfl rfl rfl fun b25=>?_;refine g2 ?_;refine bJt kT5 (cA .head rfl) rfl rfl rfl rfl rfl rfl rfl r8 fun A26 c27=>?_;refine bB (Fact.each (bl++[(⟨lp24,(i:Nat)⟩:BufV)]) bAo) (Has.each_snoc i6 d7) ?_;refine g11 ?_;refine inc (i+1) ?_;refine g3 ?_;exact bk2 (i+1,_,(x7.name,(⟨(⟨⟨V2,cv2,vs⟩,false,⟨none,0,[]⟩⟩:TyV),(i:Nat)⟩:ValV))::NV,bl++[(⟨lp24,(i:Nat)⟩:BufV)],A26,c27) ⟨j3 (⟨by dsimp only;omega,hinv7.2.step hx0 (congrArg (fun t=>(⟨t,(i:Nat)⟩:iX)) hsd) (congrArg (fun l=>(⟨l,(i:Nat)⟩:uU)) (hlp.trans (congrArg TyP.sides hsd)))⟩),e6,d7,j2⟩
 refine g7 ?_;have htg:jA (oA P.pr) P.pr.lines []=((fP P.pr).1,(0,0)):=(bFq hty).symm.trans (Prod.ext rfl hty);have hLs:=lines_start hrt hinv7.2 n9 (by have h64:=hfine.ins;omega) htg;generalize hr0:jU (bBv (cW P.pr) 0 P.pr.inputs []) P.pr.lines (fP P.pr).1 ⟨bIt (cW P.pr) 0 P.pr.inputs,[]⟩ []=r0 at hLs;have hpl2:P.pr.lines.length=P.lines.list.length:=List.length_map _;have hdep:=bHs hrt;have hnames:=(bHd hrt).1;refine g8 ?_;refine cE (ι:=Nat×KVS×kH×fM×List BufV×Option Addr×Nat×List StepV×Option Addr×Nat×List Int×Option Addr×Nat) [(2,_),(3,_),(4,_),(7,_),(103,_),(104,_)] ⟨rfl,rfl,rfl,rfl,rfl,rfl,j2⟩ (fun⟨i,kv,NV,NT,bl,BA,bc,sq,SA,sc,ob,OA,oc⟩=>[(105,.int .i64 (i:Nat))]) (fun⟨i,kv,NV,NT,bl,BA,bc,sq,SA,sc,ob,OA,oc⟩=>[mO b6 r5 ((cW P.pr).length:Nat) (.slice BA bl.length bc) (.slice SA sq.length sc) (.slice OA ob.length oc),xH.row (.slice BA bl.length bc) 45 bl,jS.row (.slice SA sq.length sc) 65 sq,rJ.row (.slice OA ob.length oc) 3 ob,pB r5 kv]) (fun⟨i,kv,NV,NT,bl,BA,bc,sq,SA,sc,ob,OA,oc⟩=>[Fact.pure (i≤P.lines.list.length∧mL P.pr.lines (fP P.pr).1 r0 i kv NV NT ⟨gZ bl,dD sq⟩ ob),vS NV,Fact.each bl bAo,Fact.each sq fJ]) (fun⟨i,kv,NV,NT,bl,BA,bc,sq,SA,sc,ob,OA,oc⟩=>P.lines.list.length-i) (0,kv,NV,oA P.pr,bl,BA,bc,[],none,0,[],none,0) ⟨rfl,j2⟩ (.c0 (.c0 (.c2 (.c1 (.c0 .nil))))) ⟨j3 (⟨n9,hLs⟩),d8,d9,e6,j2⟩ ?_;rintro⟨i,kv,NV,NT,bl,BA,bc,sq,SA,sc,ob,OA,oc⟩;dsimp only;refine bC d7 fun hinv23=>?_;have hfb:=hinv23.2.fb;have hfs:=hinv23.2.fs;have hol:=hinv23.2.len;refine g6 ?_;refine dM (fun hc106=>?_) fun hc106=>?_
 ·refine g7 ?_;obtain⟨x28,hx29⟩:=gx P.lines.list i;refine ss (ixs i) ?_;refine ss (lY hx29 0) ?_;refine j6 rT fun b30=>?_;refine g5 ?_;have hx0:P.pr.lines[i]?=some x28.ln:=rM hx29;have hdp:=hdep x28.ln (j4 hx0);have hnmx:=hnames x28.ln (j4 hx0);have hfl:=hfine.line x28.ln (j4 hx0);have hlnm:x28.name.length≤16:=hfl.1;have hil:=hfl.2.1;have hie:x28.ln.items.length=x28.items.list.length:=List.length_map _;obtain⟨fin,R,hRi,hTl,hTi⟩:=hinv23.2.at hx0;obtain⟨X,hX,hXR⟩:=rows_at hxs.1 hRi;have hXl:i<xs.length:=(List.getElem?_eq_some_iff.1 hX).1;refine bB (rowF X) (Has.each j0 (j4 hX))<|bB (tyE.sl (.slice X.addr X.list.length X.cap) X.list) (Has.left (Has.left d7))<|bB (Fact.each X.list tyF) (Has.right (Has.left d8))<|bB (jZ.sl (.slice x28.items.addr x28.items.list.length x28.items.cap) x28.items.list) (Has.left (Has.each (Has.of (u8 (u8 mT6))) (j4 hx29)))<|bB (lH x28.items.list) (Has.right (Has.each (Has.of (u8 (u8 mT7))) (j4 hx29))) ?_;refine g14 ?_;refine cH (t:=82) bLq<|bB (Fact.each ([]:List ValV) valF) (Has.each_nil) ?_;refine cE (ι:=Nat×List BufV×Option Addr×Nat×List StepV×Option Addr×Nat×List ValV×Option Addr×Nat) [(2,_),(3,_),(4,_),(7,_),(15,_),(16,_),(103,_),(104,_),(105,_),(111,_),(112,_)] ⟨rfl,rfl,rfl,rfl,rfl,rfl,rfl,rfl,rfl,rfl,rfl,j2⟩ (fun⟨j,bl2,BA2,bc2,sq2,SA2,sc2,hv,HA,hc⟩=>[(17,.slice HA hv.length hc),(113,.int .i64 (j:Nat))]) (fun⟨j,bl2,BA2,bc2,sq2,SA2,sc2,hv,HA,hc⟩=>[mO b6 r5 ((cW P.pr).length:Nat) (.slice BA2 bl2.length bc2) (.slice SA2 sq2.length sc2) (.slice OA ob.length oc),xH.row (.slice BA2 bl2.length bc2) 45 bl2,jS.row (.slice SA2 sq2.length sc2) 65 sq2,pB r5 kv,bLq.row (.slice HA hv.length hc) 82 hv]) (fun⟨j,bl2,BA2,bc2,sq2,SA2,sc2,hv,HA,hc⟩=>[Fact.pure (j≤x28.items.list.length∧iK (nI NV) NT x28.ln.items R fin (rC (nI NV) x28.ln.items R [] ⟨gZ bl,dD sq⟩) j hv ⟨gZ bl2,dD sq2⟩),Fact.each bl2 bAo,Fact.each sq2 fJ,Fact.each hv valF]) (fun⟨j,bl2,BA2,bc2,sq2,SA2,sc2,hv,HA,hc⟩=>x28.items.list.length-j) (0,bl,BA,bc,sq,SA,sc,[],none,0) ⟨rfl,rfl,j2⟩ (.c2 (.c2 (.c2 (.c3 (.c0 .nil))))) ⟨j3 (⟨n9,il_start hTl hdp hfb hfs⟩),f5,f7,d7,j2⟩ ?_;rintro⟨j,bl2,BA2,bc2,sq2,SA2,sc2,hv,HA,hc⟩;dsimp only;refine bC d7 fun hinv27=>?_;have hfb2:=hinv27.2.fb;have hfs2:=hinv27.2.fs;have hvj:=hinv27.2.len;refine g6 ?_;refine dM (fun hc114=>?_) fun hc114=>?_
  ·refine g7 ?_;obtain⟨x31,hx32⟩:=gx x28.items.list j;refine ss (ixs j) ?_;refine ss (lY hx32 0) ?_;refine j6 nC fun b33=>?_;refine g5 ?_;have hi0:x28.ln.items[j]?=some x31.it:=rM hx32;have hit:=hinv27.2.at hi0;have hitn:=(hfl.2.2 x31.it (j4 hi0)).1;obtain⟨tv,htv,htt⟩:=row_at hXR hit.2.2.1;have htl:j<X.list.length:=(List.getElem?_eq_some_iff.1 htv).1;have htj:=hit.2.2.1.trans (congrArg some htt.symm);have hwt:WfT tv.t:=by rw [htt];exact hinv27.2.tyw hinv23.2.nw hi0
   refine bB (numF x31) (Has.each e8 (j4 hx32))<|bB (tyF tv) (Has.each f5 (j4 htv)) ?_;refine bU _ _ [(true,0),(true,1),(true,2),(true,3),(true,4),(true,5),(true,6),(true,7),(true,8),(true,9),(false,10),(true,11),(true,12),(true,13),(true,14),(true,15)] bX o6 (.c0 (.c5 (.c5 (.c5 (.c5 (.c5 (.c5 .nil))))))) bA.self ?_;refine g4 ?_;refine stM rfl (ixs i) ?_;refine stM rfl (dH hX 0) ?_;refine one ?_;refine stM rfl (ixs j) ?_;refine stM rfl (lY htv 0) ?_;refine g2 ?_;refine bD func20 (itemL_spec b6 r5 ((cW P.pr).length:Nat) BA2 bc2 bl2 SA2 sc2 sq2 (.slice OA ob.length oc) kv NV hinv23.2.nr x31 tv hwt HA hc hv hinv27.2.wf (by rw [←dI];exact hfb2) (by rw [←gW];exact hfs2) n9 hit.1.1 ⟨hit.1.2.1,hit.1.2.2.1⟩ (fun h=>(hit.1.2.2.2 h).2) (fun h=>⟨Nat.le_trans hitn p7,fun hl=>hinv27.2.val hinv23.2.sy hi0 (hnmx _ (j4 hi0)) htj h (by rw [bDf];exact congrArg (Option.map ValV.v) hl)⟩) (fun b hb h4 hf=>hinv27.2.part hi0 hb h4 hf)) rfl rfl (.c1 (.c1 (.c1 (.c1 (.c1 .nil))))) ⟨d8,d7,e6,e7,e8,j0,j2⟩ fun⟨BA3,bc3,bl3,SA3,sc3,sq3,HA3,hc3,hv3⟩=>?_;refine bC e6 fun hie3=>?_;refine g15 ?_;refine vC (fun hc133=>?_) fun hc133=>?_
   ·refine cL<|bU _ _ [(true,0),(true,1),(true,2),(true,3),(true,4),(false,5),(false,6)] bX o6 (.c0 (.c0 (.c0 (.c0 (.c0 (.c0 (.c0 (.c0 (.c0 (.c2 .nil)))))))))) bA.self ?_;refine stM rfl (k7 (pP)) ?_;refine g3 ?_;refine stM rfl (k7 (vN _ _)) ?_;refine g20 ?_;have hr:=low_bad hty (hr0.trans (hinv23.2.err hx0 hRi (hinv27.2.err hi0 htj (errI_bad ‹_›))));rw [hr];exact rs2 noCoreV ⟨bMw,j3 rfl,j2⟩
   refine g2 ?_;obtain⟨y3,hy3⟩:=errI_ok (by assumption:bPh (iE (nI NV) x31.it tv.t (stV hv) ⟨gZ bl2,dD sq2⟩)=0);have hio:=hy3.trans (congrArg Except.ok (hie3 y3 hy3));refine g8 ?_;refine inc (j+1) ?_;refine g3 ?_;exact bk2 (j+1,bl3,BA3,bc3,sq3,SA3,sc3,hv3,HA3,hc3) ⟨j3 (⟨by dsimp only;omega,hinv27.2.step hinv23.2.sy hinv23.2.nw hi0 (hnmx _ (j4 hi0)) htj hio⟩),d7,d8,d9,j2⟩
  refine g6 ?_;obtain⟨a,hva,hlr,hfin,hwa⟩:=hinv27.2.last n9;have hv0:hv[0]?=some a:=by rw [hva];rfl
  have hvl:hv.length=1:=by rw [hva];rfl
  have hfln:=hfine.lns;refine bB (valF a) (Has.each e6 (j4 hv0))<|bB (vS ((x28.name,a)::NV)) (Has.each_cons d7 i7) ?_;refine bU _ _ [(true,0),(true,1),(true,2),(true,3),(true,4),(true,5),(true,6),(true,7),(true,8),(false,9)] bX o6 (.c0 (.c0 (.c0 (.c1 (.c1 (.c1 (.c1 (.c1 (.c1 (.c1 .nil)))))))))) bA.self ?_;refine g7 ?_;refine stM rfl (ixs 0) ?_;refine stM rfl (lY hv0 0) ?_;refine one ?_;refine kL kT3 rfl (.inl rfl) rfl mapL underlying9 rfl rfl rfl ?_;refine g3 ?_;refine nX 15 _ _ [(true,0),(true,1),(true,2),(true,3),(true,4),(true,5),(true,6),(true,7),(true,8),(true,9),(false,10),(false,11),(true,12),(true,13),(true,14)] bX o6 (.c0 (.c0 (.c0 (.c0 (.c0 (.c0 (.c1 (.c1 (.c1 (.c1 .nil)))))))))) bA.self ?_;refine g7 ?_;refine stL rfl (ixs 0) ?_;refine one ?_;refine stL rfl (dH hv0 3) ?_;refine one ?_;refine at_one_iint (m:=a.buf) rfl rfl rfl rfl rfl fun b34=>?_;refine g2 ?_;refine at_app_iint (xs:=ob) (ys:=[a.buf]) kT7 (cA .head rfl) rfl rfl rfl rfl rfl rfl rfl r8 fun A35 c36=>?_;refine g11 ?_;refine inc (i+1) ?_;refine g3 ?_;exact bk2 (i+1,_,(x28.name,a)::NV,(jN++x28.name,a.v.t)::NT,bl2,BA2,bc2,sq2,SA2,sc2,ob++[a.buf],A35,c36) ⟨j3 (⟨by dsimp only;omega,hinv23.2.step hx0 hRi hTi hlr hfin hwa hinv27.2.fb hinv27.2.fs⟩),d7,e6,e7,j2⟩
 refine g11 ?_;refine ss (k7 (yN)) ?_;refine g5 ?_;have hr:=low_ok hty (hr0.trans (hinv23.2.fin (by rw [hpl2];omega)));rw [hr];have hbL:bl.length≤1024:=by rw [←dI];exact hfb
 have hsL:sq.length≤1024:=by rw [←gW];exact hfs
 have hfln:=hfine.lns;refine bV kT3 fun hc_b=>bE kT3<|bV kT3 fun hc_s=>bE kT3<|bV kT3 fun hc_o=>bE kT3 ?_;exact rs2 (⟨((cW P.pr).length:Nat),⟨BA,bc,bl⟩,⟨SA,sc,sq⟩,⟨OA,oc,ob⟩⟩:CoreV) ⟨coreF_mk d9 e8 d8 e9 d7 hc_b hc_s hc_o hbL hsL n9,j3 rfl,j2⟩
def s111:Bs:=[105,110,32,120,32,110,10,111,117,116,32,120,32,43,32,49]
def s112:Bs:=[105,110,32,120,32,110,10,111,117,116,32,95,49,32,116,97,107,101,32,120]
theorem p111:(jV s111).2=(0,0):=by decide+kernel
theorem p112:(jV s112).2=(0,0):=by decide+kernel
def probe (C:bCx):Bool:=C.bufs.length==3&&C.steps.length==2&&C.outs==[2]&&
 (match C.steps[1]? with
 | some s=>s.ops.length==5&&(match s.ops[4]? with
  | some o=>o.how==6&&o.fn==1
  | none=>false)
 | none=>false)&&(match C.bufs[0]? with
 | some b=>b.input==0
 | none=>false)
theorem q111:(dX (jV s111).1).2=(0,0)∧probe (dX (jV s111).1).1=true:=by decide+kernel
theorem q112:(dX (jV s112).1).2=(14,93):=by decide+kernel
theorem probed{c:CoreV}(h:probe c.c=true): ∃s o b,c.bufs.list.length=3∧c.steps.list.length=2∧c.outs.list=[2]∧c.steps.list[1]?=some s∧s.ops.list.length=5∧s.ops.list[4]?=some o∧o.how=6∧o.fn=1∧c.bufs.list[0]?=some b∧b.input=0:=by
 unfold probe at h;simp only [Bool.and_eq_true,beq_iff_eq] at h;obtain⟨⟨⟨⟨h1,h2⟩,h3⟩,h4⟩,h5⟩:=h;have h1:(gZ c.bufs.list).length=3:=h1;have h2:(dD c.steps.list).length=2:=h2
 have h4:(match (c.steps.list.map StepV.c)[1]? with
  | some s=>s.ops.length==5&&(match s.ops[4]? with
   | some o=>o.how==6&&o.fn==1
   | none=>false)
  | none=>false)=true:=h4
 have h5:(match (c.bufs.list.map BufV.c)[0]? with
  | some b=>b.input==0
  | none=>false)=true:=h5
 rw [List.getElem?_map] at h4 h5;rw [dI] at h1;rw [gW] at h2
 cases e:c.steps.list[1]? with
 | none=>rw [e] at h4;cases h4
 | some s=>
  rw [e] at h4
  have h4:((dU s.ops.list).length==5&&(match (s.ops.list.map OpV.c)[4]? with
   | some o=>o.how==6&&o.fn==1
   | none=>false))=true:=h4
  rw [List.getElem?_map,Bool.and_eq_true,beq_iff_eq,fL] at h4
  cases e2:s.ops.list[4]? with
  | none=>rw [e2] at h4;cases h4.2
  | some o=>
   rw [e2] at h4;have h6:(o.how==6&&o.fn==1)=true:=h4.2;rw [Bool.and_eq_true,beq_iff_eq,beq_iff_eq] at h6
   cases e3:c.bufs.list[0]? with
   | none=>rw [e3] at h5;cases h5
   | some b=>
    rw [e3] at h5;have h7:(b.input==0)=true:=h5;exact⟨s,o,b,h1,h2,h3,rfl,h4.1,e2,h6.1,h6.2,rfl,beq_iff_eq.1 h7⟩
theorem shown11_spec:cN prog 7 [] [] [iD] (fun(_:Unit)=> .bool true) (fun _=>[]) (fun _=>[]):=by
 have hT:=fX;refine k8 func7 ntmps7 ?_;intro β hM;refine g7 ?_;have psp:=bMt s111 p7;rw [p111] at psp;refine j5 func13 psp ⟨d7,j2⟩ fun X1=>?_;refine bC d8 fun hpr=>bB (jT.sl (.slice X1.inputs.addr X1.inputs.list.length X1.inputs.cap) X1.inputs.list) (Has.left (Has.left d7))<|bB (iO X1.inputs.list) (Has.right (Has.left d8))<|bB (nM.sl (.slice X1.lines.addr X1.lines.list.length X1.lines.cap) X1.lines.list) (Has.left (Has.right d9))<|bB (kK X1.lines.list) (Has.right (Has.right e6)) ?_;have hrd:=bPl p111;rw [←hpr] at hrd;have hfine:=wH hrd.1;have hok:=hfine.ok hrd.2;refine g3 ?_;refine j6 pA fun b2=>?_;refine j6 bCd fun b3=>?_;refine g7 ?_;have lsp:=zI X1 hok.1 hok.2.1 hok.2.2;rw [hpr,(Prod.ext rfl q111.1:dX (jV s111).1=(_,_))] at lsp;refine j5 func8 lsp ⟨e9,e6,d9,d8,d7,j2⟩ fun c1=>?_;refine jO (v':= .tuple #[bNk c1,.agg #[.int .i64 0,.int .i64 0]]) rfl<|bC d8 fun hc1=>?_;obtain⟨s1,o4,b0,hb3,hs2,ho1,hs1,ho5,ho4,how,hfn,hb0,hin⟩:=probed (c:=c1) (by rw [hc1];exact q111.2);have hol:c1.outs.list.length=1:=by rw [ho1];rfl
 refine bB (xH.sl (.slice c1.bufs.addr c1.bufs.list.length c1.bufs.cap) c1.bufs.list) (bAj (lK d7))<|bB (jS.sl (.slice c1.steps.addr c1.steps.list.length c1.steps.cap) c1.steps.list) (uN (lN d8))<|bB (rJ.sl (.slice c1.outs.addr c1.outs.list.length c1.outs.cap) c1.outs.list) (zK (rV d9))<|bB (Fact.each c1.bufs.list bAo) (bAd (lK e6))<|bB (Fact.each c1.steps.list fJ) (uO (lN e7))<|bB (opE.sl (.slice s1.ops.addr s1.ops.list.length s1.ops.cap) s1.ops.list) (bMk (zQ (Has.each d7 (j4 hs1)))) ?_;refine g3 ?_;refine j6 bAm fun b4=>?_;refine j6 bCd fun b5=>?_;refine g6 ?_;have psp:=bMt s112 p7;rw [p112] at psp;refine j5 func13 psp ⟨j1,j2⟩ fun X6=>?_;refine bC d8 fun hpr=>bB (jT.sl (.slice X6.inputs.addr X6.inputs.list.length X6.inputs.cap) X6.inputs.list) (Has.left (Has.left d7))<|bB (iO X6.inputs.list) (Has.right (Has.left d8))<|bB (nM.sl (.slice X6.lines.addr X6.lines.list.length X6.lines.cap) X6.lines.list) (Has.left (Has.right d9))<|bB (kK X6.lines.list) (Has.right (Has.right e6)) ?_;have hrd:=bPl p112;rw [←hpr] at hrd;have hfine:=wH hrd.1;have hok:=hfine.ok hrd.2;refine g3 ?_;refine j6 pA fun b7=>?_;refine j6 bCd fun b8=>?_;refine g7 ?_;have lsp:=zI X6 hok.1 hok.2.1 hok.2.2;rw [hpr,(Prod.ext rfl q112:dX (jV s112).1=(_,_))] at lsp;refine j5 func8 lsp ⟨(Has.of (u8 (u8 mT4))),e6,d9,d8,d7,j2⟩ fun c2=>?_;refine jO (v':= .tuple #[bNk c2,.agg #[.int .i64 14,.int .i64 93]]) rfl<|bC d8 fun hc2=>?_;refine g3 ?_;refine j6 bAm fun b9=>?_;refine j6 bCd fun b10=>?_;refine g8 ?_;refine ss (k7 (yN)) ?_;refine ss (fK ⟨0,0⟩ ⟨0,0⟩ rfl rfl rfl) ?_;refine bL (t':=false) (by first | decide | rfl | simp) ?_;refine g5 ?_;refine bL (t':=false) (bne_eq_false_iff_eq.2 n9) ?_;refine g6 ?_;refine bL (t':=false) (bne_eq_false_iff_eq.2 n9) ?_;refine g6 ?_;refine bL (t':=false) (bne_eq_false_iff_eq.2 n9) ?_;refine g4 ?_;refine ss (ixs 1) ?_;refine one ?_;refine ss (dH hs1 5) ?_;refine g2 ?_;refine bL (t':=false) (bne_eq_false_iff_eq.2 n9) ?_;refine g10 ?_;refine ss (ixs 1) ?_;refine one ?_;refine ss (dH hs1 5) ?_;refine ss (ixs 4) ?_;refine one ?_;refine ss (dH ho4 0) ?_;refine one ?_;refine bL (t':=true) (by simp [how]) ?_;refine g3 ?_;refine ss (ixs 1) ?_;refine one ?_;refine ss (dH hs1 5) ?_;refine ss (ixs 4) ?_;refine one ?_;refine ss (dH ho4 4) ?_;refine one ?_;refine bL (t':=true) (by simp [hfn]) ?_;refine g10 ?_;refine ss (ixs 0) ?_;refine ss (bO hT (dQ.knows (cD i6) (k:=0) (x:=2) (by rw [ho1];rfl) 0) rfl rfl rfl rfl rfl) ?_;refine one ?_;refine bL (t':=true) (by first | decide | rfl) ?_;refine g4 ?_;refine ss (ixs 0) ?_;refine one ?_;refine ss (dH hb0 1) ?_;refine one ?_;refine bL (t':=true) (by simp [hin]) ?_;refine g3 ?_;refine ss (k7 (vN _ _)) ?_;refine ss (bHy ⟨14,93⟩ ⟨14,93⟩ rfl rfl rfl) ?_;refine bL (t':=true) (by first | decide | rfl | simp) ?_;refine g5 ?_;exact rs1 () trivial
abbrev bKg:List (String×DataW Unit):=Rows.lowerSidesRow.laid
theorem yP{P:Program}{W:World}{name:String}{k:IntKind}{zs:List Int}{g:Nat}{t e:TypeId}{n:Nat}
  (hg:P.globalNamed name=some g) (hty:(P.globals[g]?).map (·.type)=some t) (ht:P.underlying t=some (.array n e)) (he:P.underlying e=some (.int k)) (hce:P.cellsOf e=1) (hct:P.cellsOf t=n)
  (h:Lib.VarReads P W name (Lib.tabData k zs)):Lib.TabIs P W name k zs:=by
 obtain⟨g',t',cs,fuel,p,hg',ht',hvar,hd⟩:=h;obtain rfl:=Option.some.inj (hg.symm.trans hg');obtain rfl:=Option.some.inj (hty.symm.trans ht');unfold Lib.TabIs;rw [hvar,←Lib.cells_of_tab ht he hce hct hd]
theorem var_lt{P:Program}{W:World}{name:String}{g:Nat}{cs:Array Value}(hg:P.globalNamed name=some g)(h:W.var? P name=some cs):g<W.heap.size:=by
 unfold World.var? at h;rw [hg] at h;simp only [Option.bind_some] at h
 cases hh:W.heap[g]? with
 | none=>rw [hh] at h;cases h
 | some o=>exact(Array.getElem?_eq_some_iff.1 hh).1
theorem cell_lt'{W:World}{g i:Nat}{v:Value}(h:W.cell? ⟨g,i,none⟩=some v):g<W.heap.size:=by
 unfold World.cell? at h
 cases hh:W.heap[g]? with
 | none=>rw [hh] at h;cases h
 | some o=>exact(Array.getElem?_eq_some_iff.1 hh).1
set_option maxRecDepth 1000000 in
theorem globF_of{W:World}(hL:laidMetH prog bKg W)(hsh:W.ShapedOpen prog):iD.p (fun b=>b<W.heap.size) W:=by
 have hL':laidMet prog bKg W:=hL;have h0:Lib.TabIs prog W "strings.asciiSpace" .u8 Lib.asciiSpaceTab:=yP (t:=210) (e:=5) (n:=256) named0 o0 underlying210 underlying5 o0 o0
  (Lib.laidMet.reads hL' (.tail _ (.tail _ (.tail _ (.tail _ (.tail _ (.tail _ (.tail _ (.head _)))))))))
 have h7:Lib.TabIs prog W "internal/strconv.uint64pow10" .u64 Lib.pow10Tab:=yP (t:=315) (e:=255) (n:=20) named7 o0 underlying315 underlying255 o0 o0
  (Lib.laidMet.reads hL' (.tail _ (.tail _ (.head _))))
 obtain⟨m,h4⟩:=cell_of_shapedOpen_int (P:=prog) (g:=4) (t:=3) (zero:= #[.int .i64 0]) hsh (of_decide_eq_true o0) o0 rfl o0 o0 underlying3;obtain⟨g',t',cs,fuel,p,hg',ht',hvar,hd⟩:=Lib.laidMet.reads hL' (n:= "strconv.ErrRange") (.tail _ (.tail _ (.tail _ (.tail _ (.head _)))));have hnE:prog.globalNamed "strconv.ErrRange" =some 3:=o0
 obtain rfl:=Option.some.inj (hnE.symm.trans hg');obtain rfl:216=t':=Option.some.inj ((show(prog.globals[3]?).map (·.type)=some 216 by kernel_rfl).symm.trans ht');obtain⟨f',u,v,hcs,_,_⟩:=iface_of_trod underlying216 hd
 have hcs':cs= #[.iface u v]:=by
  cases cs;simp only at hcs;rw [hcs]
 subst hcs';have h3:W.cell? ⟨3,0,none⟩=some (.iface u v):=by simpa using World.var?_cell hnE hvar 0
 exact⟨⟨var_lt named0 h0,var_lt named7 h7,cell_lt' h4,cell_lt' h3⟩,h0,h7,⟨m,h4⟩,_,h3,.inr ⟨u,v,rfl⟩⟩
def flat1:DataW Unit→List Value
 | .lit (.int k n)=>[.int k n]
 | _=>[]
def flat2:DataW Unit→List Value
 | .agg l=>l.flatMap flat1
 | d=>flat1 d
def bRz:DataW Unit→Array Value
 | .agg l=>(l.flatMap flat2).toArray
 | _=> #[]
def whiteNums:List Int:=[9,13,1,32,133,101,160,5760,5600,8192,8202,1,8232,8233,1,8239,8287,48,12288,12288,1]
noncomputable def laidWorld (os:Os):World:=
 let N:=(World.settled prog os).heap.size
 let w0:=World.holding prog os ⟨#[.cells (whiteNums.map fun z=>Value.int .u16 z).toArray 264,.cells #[.slice (some ⟨N,0,none⟩) 7 7,.slice none 0 0,.int .i64 2] 261,
  .cells #[.string ⟨#[118,97,108,117,101,32,111,117,116,32,111,102,32,114,97,110,103,101]⟩] 319,.cells #[.string ⟨#[105,110,118,97,108,105,100,32,115,121,110,116,97,120]⟩] 319],#[],[]⟩
 let put (h:Array Obj) (g:Nat) (cs:Array Value):Array Obj:=h.modify g fun
  | .cells _ t frozen=> .cells cs t frozen
  | o=>o
 let h1:=put w0.heap 8 (bRz Rows.laid_math_bits_deBruijn32tab)
 let h2:=put h1 9 (bRz Rows.laid_math_bits_deBruijn64tab)
 let h3:=put h2 7 (bRz Rows.laid_internal_strconv_uint64pow10)
 let h4:=put h3 6 (bRz Rows.laid_unicode_utf8_acceptRanges)
 let h5:=put h4 3 #[.iface 317 (.pointer (some ⟨N+2,0,none⟩))]
 let h6:=put h5 2 #[.iface 317 (.pointer (some ⟨N+3,0,none⟩))]
 let h7:=put h6 1 #[.pointer (some ⟨N+1,0,none⟩)]
 let h8:=put h7 0 (bRz Rows.laid_strings_asciiSpace)
 let h9:=put h8 5 (bRz Rows.laid_unicode_utf8_first)
 {w0 with heap:=h9}
noncomputable abbrev N0:Nat:=(World.settled prog default).heap.size
set_option maxRecDepth 1000000 in
theorem piece0(os:Os)(args:Array Value):LaidIn prog ((laidWorld os).forCall (fun _ _=>0) ⟨#[],args,[]⟩).memory [("math/bits.deBruijn32tab",Rows.laid_math_bits_deBruijn32tab)] [8]:=
 LaidIn.of_run [8] 10 o0 o0 o0 o0
set_option maxRecDepth 1000000 in
theorem piece1(os:Os)(args:Array Value):LaidIn prog ((laidWorld os).forCall (fun _ _=>0) ⟨#[],args,[]⟩).memory [("math/bits.deBruijn64tab",Rows.laid_math_bits_deBruijn64tab)] [9]:=
 LaidIn.of_run [9] 10 o0 o0 o0 o0
set_option maxRecDepth 1000000 in
theorem piece2(os:Os)(args:Array Value):LaidIn prog ((laidWorld os).forCall (fun _ _=>0) ⟨#[],args,[]⟩).memory [("internal/strconv.uint64pow10",Rows.laid_internal_strconv_uint64pow10)] [7]:=
 LaidIn.of_run [7] 10 o0 o0 o0 o0
set_option maxRecDepth 1000000 in
theorem piece3(os:Os)(args:Array Value):LaidIn prog ((laidWorld os).forCall (fun _ _=>0) ⟨#[],args,[]⟩).memory [("unicode/utf8.acceptRanges",Rows.laid_unicode_utf8_acceptRanges)] [6]:=
 LaidIn.of_run [6] 10 o0 o0 o0 o0
set_option maxRecDepth 1000000 in
theorem piece4(os:Os)(args:Array Value):LaidIn prog ((laidWorld os).forCall (fun _ _=>0) ⟨#[],args,[]⟩).memory [("strconv.ErrRange",Rows.laid_strconv_ErrRange)] [3,N0+2]:=
 LaidIn.of_run [3,N0+2] 10 o0 o0 o0 o0
set_option maxRecDepth 1000000 in
theorem piece5(os:Os)(args:Array Value):LaidIn prog ((laidWorld os).forCall (fun _ _=>0) ⟨#[],args,[]⟩).memory [("strconv.ErrSyntax",Rows.laid_strconv_ErrSyntax)] [2,N0+3]:=
 LaidIn.of_run [2,N0+3] 10 o0 o0 o0 o0
set_option maxRecDepth 1000000 in
theorem piece6(os:Os)(args:Array Value):LaidIn prog ((laidWorld os).forCall (fun _ _=>0) ⟨#[],args,[]⟩).memory [("unicode.White_Space",Rows.laid_unicode_White_Space)] [1,N0,N0+1]:=
 LaidIn.of_run [1,N0,N0+1] 10 o0 o0 o0 o0
set_option maxRecDepth 1000000 in
theorem piece7(os:Os)(args:Array Value):LaidIn prog ((laidWorld os).forCall (fun _ _=>0) ⟨#[],args,[]⟩).memory [("strings.asciiSpace",Rows.laid_strings_asciiSpace)] [0]:=
 LaidIn.of_run [0] 10 o0 o0 o0 o0
set_option maxRecDepth 1000000 in
theorem piece8(os:Os)(args:Array Value):LaidIn prog ((laidWorld os).forCall (fun _ _=>0) ⟨#[],args,[]⟩).memory [("unicode/utf8.first",Rows.laid_unicode_utf8_first)] [5]:=
 LaidIn.of_run [5] 10 o0 o0 o0 o0
set_option maxRecDepth 1000000 in
theorem laid_met(os:Os)(args:Array Value):laidMet prog bKg ((laidWorld os).forCall (fun _ _=>0) ⟨#[],args,[]⟩).memory:=
 (((((((((piece0 os args).append (piece1 os args) o0).append (piece2 os args) o0).append (piece3 os args) o0).append (piece4 os args) o0).append (piece5 os args) o0).append (piece6 os args) o0).append (piece7 os args) o0).append (piece8 os args) o0).met
theorem wf_i64{z:Int}(h:(Lit.int .i64 z).wf=true): -9223372036854775808≤z∧z≤9223372036854775807:=by
 simp [Lit.wf,IntKind.min,IntKind.max,IntKind.bits,IntKind.signed] at h;omega
theorem prog_of{a:ProgV}{S:Nat→Prop}{w:World}(h:(progTy.deep a).p S w):
  ((jT.sl (.slice a.inputs.addr a.inputs.list.length a.inputs.cap) a.inputs.list).p S w∧(iO a.inputs.list).p S w∧(nM.sl (.slice a.lines.addr a.lines.list.length a.lines.cap) a.lines.list).p S w∧(kK a.lines.list).p S w)∧
   qA a∧a.inputs.list.length≤140737488355328∧a.lines.list.length≤140737488355328:=by
 obtain⟨⟨⟨i1,i2⟩,i3⟩,⟨⟨l1,l2⟩,l3⟩,_⟩:=h;have i2: ∀x∈a.inputs.list,(bJc.deep x).p S w:=i2;have l2: ∀x∈a.lines.list,(lineTy.deep x).p S w:=l2;have i3:a.inputs.list.length*48≤140737488355328:=i3;have l3:a.lines.list.length*48≤140737488355328:=l3;refine⟨⟨i1,fun x hx=>?_,l1,fun x hx=>?_⟩,⟨fun x hx=>?_,fun x hx=>?_⟩,n9,n9⟩
 ·exact(i2 x hx).2.2.1.1.1
 ·exact⟨(l2 x hx).2.2.1.1.1,fun y hy=>by
   have:=(l2 x hx).2.2.1.1.2 y hy
   exact this.2.2.2.2.1.1.1⟩
 ·refine⟨(i2 x hx).1,fun d hd=>?_⟩;have:=(i2 x hx).2.2.1.1.2 d hd;exact⟨this.1,wf_i64 this.2.1⟩
 ·refine⟨(l2 x hx).1,fun it hit=>?_⟩;have:=(l2 x hx).2.2.1.1.2 it hit;refine⟨this.2.2.2.1,fun z hz=>?_⟩;exact wf_i64 (this.2.2.2.2.1.1.2 z hz)
end
section
open Go.RowKit Go.ChangeShapes Go.WideShapes Go.Proofs.Tryz
section
variable {H : Type} {enc : TypeId × Value → H} {P : Program}
theorem bAr(hl:laidOutB P=true){W W':World}(hb:Below W.heap.size W W'): ∀{ts:List TypeId} {vs:List Value} {ds:List (DataW H)} {ps:List MemPlace},
  (∀t∈ts,P.readableRec t=true∧t<P.types.size)→(∀x∈ps,x.block<W.heap.size)→DataW.TrodAll enc P W 0 (fun _=>true) true ts vs ds ps→
  DataW.TrodAll enc P W' 0 (fun b=>decide (b<W.heap.size)) true ts vs ds ps
 | [],_,_,_,_,_,h=>by
  obtain⟨rfl,rfl,rfl⟩:=trodAll_nil h;exact trodAll_mk0
 | t::ts,_,_,_,ht,hlt,h=>by
  obtain⟨v,vs,d,ds,p,q,rfl,rfl,rfl,h1,h2⟩:=trodAll_cons h;have hr:=ht t o9;exact trodAll_cons_mk (Below.trod hl hr.1 hr.2 h1 hb (fun x hx=>hlt x ae4)) (bAr hl hb (fun t h=>ht t ai3) (fun x hx=>hlt x ae4) h2)
theorem law_post{f:Func}{s:ChangeSpec}{W W':World}{args:Array Value}{ds:List (DataW H)}{before:List MemPlace}{tb:TypeId}
  (hW:DataW.Whole enc P f.params.toList s.vars false W args.toList ds [] before) (hv:s.vars=[]) (hfn:s.fn H (ds++[])={results:=[.lit (.bool true)],args:=ds})
  (hr:f.resultTypes= #[tb]) (hb:P.underlying tb=some .bool) (hl:laidOutB P=true) (hread: ∀t∈f.params.toList,P.readableRec t=true∧t<P.types.size) (h:Below W.heap.size W W'):
  s.post enc P f false true false false W args (.bool true) W':=by
 have hlt: ∀p∈before,p.block<W.heap.size:=fun p hp=>hW.lt p hp;have hW':=hW;obtain⟨p,q,hA,hV,rfl,_,_⟩:=hW;rw [hv] at hV;have hq:q=[]:=hV;subst hq;refine⟨ds,[],_,[],p,[],hW',?_,?_,?_,?_,fun h=>by cases h⟩
 ·rw [hfn,hr];exact trodAll_mk1 (shut_bool hb true)
 ·rw [hfn];exact bAr hl h hread (fun x hx=>hlt x ae4) hA
 ·rw [hfn,hv];rfl
 ·exact h.frame _
end
theorem bOy{ι:Type}{f:FuncId}{args:List Value}{Pre:List Fact}{v:Value}(h:cN prog f args [] Pre (fun _:ι=>v) (fun _=>[]) (fun _=>[])){w:World}(hp:All Pre (fun b=>b<w.heap.size) w):
  Calls prog f args.toArray w fun e w'=>e= .returned v∧Below w.heap.size w w':=by
 refine(h (fun b=>b<w.heap.size) w ⟨nV.refl _ _,fun c hc=>by simp at hc,fun c hc=>by simp at hc,List.Pairwise.nil,fun b hb=>⟨hb,.inl hb⟩⟩ hp).mono ?_;rintro e w' ⟨_,_,rfl,s,_⟩;refine⟨rfl,s.kept.os,s.kept.tape,s.kept.output,s.kept.size,fun k hk=>s.kept.block k hk fun⟨c,hc,_⟩=>by simp at hc⟩
theorem own:ownKnob prog.godebug=none:=o0
theorem laid:laidOutB prog=true:=o0
end
section
open Go.RowKit Go.Proofs.Tryz
theorem pols_eq{a b:List PolV}(h:bK a=bK b){j:Nat}{p q:PolV}(hp:a[j]?=some p)(hq:b[j]?=some q):p.list=q.list:=by
 have h1:=fZ hp;rw [h,fZ hq] at h1;injection h1 with h1
 exact h1.symm
theorem pols_len{a b:List PolV}(h:bK a=bK b):a.length=b.length:=by
 have:=congrArg List.length h
 rwa [bF,bF] at this
theorem opsL_len'{a b:List OpV}(h:dU a=dU b):a.length=b.length:=by
 have:=congrArg List.length h
 rwa [fL,fL] at this
theorem stepsL_len'{a b:List StepV}(h:dD a=dD b):a.length=b.length:=by
 have:=congrArg List.length h
 rwa [gW,gW] at this
theorem bufsL_len'{a b:List BufV}(h:gZ a=gZ b):a.length=b.length:=by
 have:=congrArg List.length h
 rwa [dI,dI] at this
theorem ops_eq{a b:List OpV}(h:dU a=dU b){j:Nat}{p q:OpV}(hp:a[j]?=some p)(hq:b[j]?=some q):p.c=q.c:=by
 have h1:=opsL_at hp;rw [h,opsL_at hq] at h1;injection h1 with h1
 exact h1.symm
theorem steps_eq{a b:List StepV}(h:dD a=dD b){j:Nat}{p q:StepV}(hp:a[j]?=some p)(hq:b[j]?=some q):p.c=q.c:=by
 have h1:=bRm hp;rw [h,bRm hq] at h1;injection h1 with h1
 exact h1.symm
theorem bufs_eq{a b:List BufV}(h:gZ a=gZ b){j:Nat}{p q:BufV}(hp:a[j]?=some p)(hq:b[j]?=some q):p.c=q.c:=by
 have h1:=bufsL_at hp;rw [h,bufsL_at hq] at h1;injection h1 with h1
 exact h1.symm
theorem bHg(A B:Option Addr)(ca cb:Nat)(a b:List PolV)(hl:a.length≤140737488355328)(he:bK a=bK b):cN prog 26 [.slice A a.length ca,.slice B b.length cb] [] [bP.sl (.slice A a.length ca) a,cK a,bP.sl (.slice B b.length cb) b,cK b] (fun(_:Unit)=> .bool true) (fun _=>[]) (fun _=>[]):=by
 have hT:=fX;have hle:=pols_len he;refine k8 func26 ntmps26 ?_;intro β hM;refine g13 ?_;refine bL (t':=false) (bne_eq_false_iff_eq.2 n9) ?_;refine g12 ?_;refine cE (ι:=Nat) [(0,_),(1,_)] ⟨rfl,rfl,j2⟩ (fun i=>[(5,.int .i64 (i:Nat))]) (fun _=>[]) (fun i=>[Fact.pure (i≤a.length)]) (fun i=>a.length-i) 0 ⟨rfl,j2⟩ .nil ⟨j3 n9,j2⟩ ?_;rintro i;refine bC d7 fun hinv4=>?_;refine g9 ?_;refine dM (fun hc14=>?_) fun hc14=>?_
 ·refine g5 ?_;obtain⟨x,hx⟩:=gx a i;obtain⟨y,hy⟩:=gx b i;have hxe:=pols_eq he hx hy;refine bU _ _ [(true,0),(true,1),(true,2),(true,3),(true,4),(true,5),(true,6),(true,7),(false,8),(true,9)] bX o6 .nil bA.self ?_;refine g2 ?_;refine stM rfl (ixs i) ?_;refine stM rfl (dH hx 0) ?_;refine g2 ?_;refine stM rfl (ixs i) ?_;refine stM rfl (dH hy 0) ?_;refine one ?_;refine bC (cS ((Has.each d9 (j4 hx)))) fun hpl=>?_;refine j5 func10 (bCj x y hpl) ⟨(Has.each d9 (j4 hx)),(Has.each e7 (j4 hy)),j2⟩ fun _=>?_;refine bL (t':=true) (decide_eq_true (hxe)) ?_;refine g11 ?_;refine inc (i+1) ?_;refine g3 ?_;exact bk2 (i+1) ⟨j3 n9,j2⟩
 refine g11 ?_;exact rs1 () trivial
theorem ops11_spec(A B:Option Addr)(ca cb:Nat)(a b:List OpV)(hl:a.length≤140737488355328)(he:dU a=dU b):cN prog 53 [.slice A a.length ca,.slice B b.length cb] [] [opE.sl (.slice A a.length ca) a,Fact.each a opF,opE.sl (.slice B b.length cb) b,Fact.each b opF] (fun(_:Unit)=> .bool true) (fun _=>[]) (fun _=>[]):=by
 have hT:=fX;have hle:=opsL_len' he;refine k8 func53 ntmps53 ?_;intro β hM;refine g13 ?_;refine bL (t':=false) (bne_eq_false_iff_eq.2 n9) ?_;refine g12 ?_;refine cE (ι:=Nat) [(0,_),(1,_)] ⟨rfl,rfl,j2⟩ (fun i=>[(5,.int .i64 (i:Nat))]) (fun _=>[]) (fun i=>[Fact.pure (i≤a.length)]) (fun i=>a.length-i) 0 ⟨rfl,j2⟩ .nil ⟨j3 n9,j2⟩ ?_;rintro i;refine bC d7 fun hinv4=>?_;refine g9 ?_;refine dM (fun hc14=>?_) fun hc14=>?_
 ·refine g5 ?_;obtain⟨x,hx⟩:=gx a i;obtain⟨y,hy⟩:=gx b i;have hxe:=ops_eq he hx hy;have e0:=congrArg OpC.how hxe;have e1:=congrArg OpC.k hxe;have e2:=congrArg OpC.n hxe;have e3:=congrArg OpC.p hxe;have e4:=congrArg OpC.fn hxe;dsimp only [OpV.c,StepV.c] at e0 e1 e2 e3 e4;refine bU _ _ [(true,0),(true,1),(true,2),(true,3),(true,4),(true,5),(true,6),(true,7),(true,8),(true,9),(true,10),(true,11),(true,12),(true,13),(true,14),(true,15),(true,16),(true,17),(true,18),(true,19),(true,20),(true,21),(true,22),(true,23),(true,24),(true,25),(true,26),(true,27),(true,28),(true,29),(true,30),(true,31),(true,32),(true,33),(true,34),(true,35),(true,36),(true,37),(true,38),(true,39),(true,40),(true,41),(true,42),(true,43),(true,44),(true,45),(true,46),(true,47),(true,48),(true,49),(true,50),(true,51),(true,52),(true,53),(true,54),(true,55),(true,56),(true,57),(true,58),(true,59),(true,60),(false,61),(true,62),(true,63)] bX o6 .nil bA.self ?_;refine g2 ?_;refine stM rfl (ixs i) ?_;refine one ?_;refine stM rfl (dH hx 0) ?_;refine g2 ?_;refine stM rfl (ixs i) ?_;refine one ?_;refine stM rfl (dH hy 0) ?_;refine one ?_;refine bL (t':=false) (by simp [e0]) ?_;refine g3 ?_;refine stM rfl (ixs i) ?_;refine one ?_;refine stM rfl (dH hx 1) ?_;refine g2 ?_;refine stM rfl (ixs i) ?_;refine one ?_;refine stM rfl (dH hy 1) ?_;refine one ?_;refine bL (t':=false) (by simp [e1]) ?_;refine g4 ?_;refine stM rfl (ixs i) ?_;refine one ?_;refine stM rfl (dH hx 2) ?_;refine g2 ?_;refine stM rfl (ixs i) ?_;refine one ?_;refine stM rfl (dH hy 2) ?_;refine one ?_;refine bL (t':=false) (by simp [e2]) ?_;refine g4 ?_;refine stM rfl (ixs i) ?_;refine one ?_;refine stM rfl (dH hx 4) ?_;refine g2 ?_;refine stM rfl (ixs i) ?_;refine one ?_;refine stM rfl (dH hy 4) ?_;refine one ?_;refine bL (t':=false) (by simp [e4]) ?_;refine g4 ?_;refine stM rfl (ixs i) ?_;refine one ?_;refine stM rfl (dH hx 3) ?_;refine g2 ?_;refine stM rfl (ixs i) ?_;refine one ?_;refine stM rfl (dH hy 3) ?_;refine one ?_;refine bC (cS ((Has.each d9 (j4 hx)))) fun hpl=>?_;refine j5 func10 (bCj x.p y.p hpl) ⟨(Has.each d9 (j4 hx)),(Has.each e7 (j4 hy)),j2⟩ fun _=>?_;refine bL (t':=true) (decide_eq_true (e3)) ?_;refine g12 ?_;refine inc (i+1) ?_;refine g3 ?_;exact bk2 (i+1) ⟨j3 n9,j2⟩
 refine g11 ?_;exact rs1 () trivial
theorem steps11_spec(A B:Option Addr)(ca cb:Nat)(a b:List StepV)(hl:a.length≤140737488355328)(he:dD a=dD b):cN prog 25 [.slice A a.length ca,.slice B b.length cb] [] [jS.sl (.slice A a.length ca) a,Fact.each a fJ,jS.sl (.slice B b.length cb) b,Fact.each b fJ] (fun(_:Unit)=> .bool true) (fun _=>[]) (fun _=>[]):=by
 have hT:=fX;have hle:=stepsL_len' he;refine k8 func25 ntmps25 ?_;intro β hM;refine g13 ?_;refine bL (t':=false) (bne_eq_false_iff_eq.2 n9) ?_;refine g12 ?_;refine cE (ι:=Nat) [(0,_),(1,_)] ⟨rfl,rfl,j2⟩ (fun i=>[(5,.int .i64 (i:Nat))]) (fun _=>[]) (fun i=>[Fact.pure (i≤a.length)]) (fun i=>a.length-i) 0 ⟨rfl,j2⟩ .nil ⟨j3 n9,j2⟩ ?_;rintro i;refine bC d7 fun hinv4=>?_;refine g9 ?_;refine dM (fun hc14=>?_) fun hc14=>?_
 ·refine g5 ?_;obtain⟨x,hx⟩:=gx a i;obtain⟨y,hy⟩:=gx b i;have hxe:=steps_eq he hx hy;have e0:=congrArg bAz.how hxe;have e1:=congrArg bAz.buf hxe;have e2:=congrArg bAz.at_ hxe;have e3:=congrArg bAz.loops hxe;have e4:=congrArg bAz.fn hxe;have e5:=congrArg bAz.ops hxe;dsimp only [OpV.c,StepV.c] at e0 e1 e2 e3 e4 e5;refine bB (bP.sl (.slice x.loops.addr x.loops.list.length x.loops.cap) x.loops.list) (Has.left (Has.left (bEu (Has.each d9 (j4 hx)))))<|bB (cK x.loops.list) (Has.right (Has.left (bEu (Has.each e6 (j4 hx)))))<|bC (Has.right (bEu (Has.each e7 (j4 hx)))) fun hzlo=>bB (bP.sl (.slice y.loops.addr y.loops.list.length y.loops.cap) y.loops.list) (Has.left (Has.left (bEu (Has.each e9 (j4 hy)))))<|bB (cK y.loops.list) (Has.right (Has.left (bEu (Has.each f3 (j4 hy)))))<|bB (opE.sl (.slice x.ops.addr x.ops.list.length x.ops.cap) x.ops.list) (bMk (zQ (Has.each e9 (j4 hx))))<|bB (Fact.each x.ops.list opF) (opsF_e (zQ (Has.each f3 (j4 hx))))<|bC (opsF_c (zQ (Has.each f5 (j4 hx)))) fun hzop=>bB (opE.sl (.slice y.ops.addr y.ops.list.length y.ops.cap) y.ops.list) (bMk (zQ (Has.each f9 (j4 hy))))<|bB (Fact.each y.ops.list opF) (opsF_e (zQ (Has.each i6 (j4 hy)))) ?_;refine bU _ _ [(true,0),(true,1),(true,2),(true,3),(true,4),(true,5),(true,6),(true,7),(true,8),(true,9),(true,10),(true,11),(true,12),(true,13),(true,14),(true,15),(true,16),(true,17),(true,18),(true,19),(true,20),(true,21),(true,22),(true,23),(true,24),(true,25),(true,26),(true,27),(true,28),(true,29),(true,30),(true,31),(true,32),(true,33),(true,34),(true,35),(true,36),(true,37),(true,38),(true,39),(true,40),(true,41),(true,42),(true,43),(true,44),(true,45),(true,46),(true,47),(false,48),(true,49),(true,50),(true,51),(true,52),(true,53),(true,54),(true,55),(true,56),(true,57),(true,58),(true,59),(true,60),(true,61),(false,62),(true,63),(true,64),(true,65),(true,66),(true,67),(true,68),(true,69),(true,70),(true,71),(true,72),(true,73),(true,74),(true,75),(false,76),(true,77),(true,78)] bX o6 .nil bA.self ?_;refine g2 ?_;refine stM rfl (ixs i) ?_;refine one ?_;refine stM rfl (dH hx 0) ?_;refine g2 ?_;refine stM rfl (ixs i) ?_;refine one ?_;refine stM rfl (dH hy 0) ?_;refine one ?_;refine bL (t':=false) (by simp [e0]) ?_;refine g3 ?_;refine stM rfl (ixs i) ?_;refine one ?_;refine stM rfl (dH hx 1) ?_;refine g2 ?_;refine stM rfl (ixs i) ?_;refine one ?_;refine stM rfl (dH hy 1) ?_;refine one ?_;refine bL (t':=false) (by simp [e1]) ?_;refine g4 ?_;refine stM rfl (ixs i) ?_;refine one ?_;refine stM rfl (dH hx 4) ?_;refine g2 ?_;refine stM rfl (ixs i) ?_;refine one ?_;refine stM rfl (dH hy 4) ?_;refine one ?_;refine bL (t':=false) (by simp [e4]) ?_;refine g4 ?_;refine stM rfl (ixs i) ?_;refine one ?_;refine stM rfl (dH hx 2) ?_;refine g2 ?_;refine stM rfl (ixs i) ?_;refine one ?_;refine stM rfl (dH hy 2) ?_;refine one ?_;refine bC (cS (stepF_a (Has.each f9 (j4 hx)))) fun hpl=>?_;refine j5 func10 (bCj x.at_ y.at_ hpl) ⟨stepF_a (Has.each f9 (j4 hx)),stepF_a (Has.each i7 (j4 hy)),j2⟩ fun _=>?_;refine bL (t':=true) (decide_eq_true (e2)) ?_;refine g6 ?_;refine stM rfl (ixs i) ?_;refine one ?_;refine stM rfl (dH hx 3) ?_;refine g2 ?_;refine stM rfl (ixs i) ?_;refine one ?_;refine stM rfl (dH hy 3) ?_;refine one ?_;refine j5 func26 (bHg x.loops.addr y.loops.addr x.loops.cap y.loops.cap x.loops.list y.loops.list n9 e3) ⟨f3,e9,e8,e7,j2⟩ fun _=>?_;refine g6 ?_;refine stM rfl (ixs i) ?_;refine one ?_;refine stM rfl (dH hx 5) ?_;refine g2 ?_;refine stM rfl (ixs i) ?_;refine one ?_;refine stM rfl (dH hy 5) ?_;refine one ?_;refine j5 func53 (ops11_spec x.ops.addr y.ops.addr x.ops.cap y.ops.cap x.ops.list y.ops.list n9 e5) ⟨e6,d9,d8,d7,j2⟩ fun _=>?_;refine g12 ?_;refine inc (i+1) ?_;refine g3 ?_;exact bk2 (i+1) ⟨j3 n9,j2⟩
 refine g11 ?_;exact rs1 () trivial
theorem same11_spec(c d:CoreV)(he:c.c=d.c):cN prog 11 [.agg #[.int .i64 c.vars,.slice c.bufs.addr c.bufs.list.length c.bufs.cap,.slice c.steps.addr c.steps.list.length c.steps.cap,.slice c.outs.addr c.outs.list.length c.outs.cap],.agg #[.int .i64 d.vars,.slice d.bufs.addr d.bufs.list.length d.bufs.cap,.slice d.steps.addr d.steps.list.length d.steps.cap,.slice d.outs.addr d.outs.list.length d.outs.cap]] [] [bAt c,bAt d] (fun(_:Unit)=> .bool true) (fun _=>[]) (fun _=>[]):=by
 have hT:=fX;have e0:c.vars=d.vars:=congrArg bCx.vars he;have e1:gZ c.bufs.list=gZ d.bufs.list:=congrArg bCx.bufs he;have e2:dD c.steps.list=dD d.steps.list:=congrArg bCx.steps he;have e3:c.outs.list=d.outs.list:=congrArg bCx.outs he;refine k8 func11 ntmps11 ?_;intro β hM;refine cL<|bB (xH.sl (.slice c.bufs.addr c.bufs.list.length c.bufs.cap) c.bufs.list) (bAj (lK d7)) ?_;refine bB (jS.sl (.slice c.steps.addr c.steps.list.length c.steps.cap) c.steps.list) (uN (lN d8))<|bB (rJ.sl (.slice c.outs.addr c.outs.list.length c.outs.cap) c.outs.list) (zK (rV d9))<|bB (Fact.each c.bufs.list bAo) (bAd (lK e6))<|bB (Fact.each c.steps.list fJ) (uO (lN e7))<|bB (xH.sl (.slice d.bufs.addr d.bufs.list.length d.bufs.cap) d.bufs.list) (bAj (lK e9))<|bB (jS.sl (.slice d.steps.addr d.steps.list.length d.steps.cap) d.steps.list) (uN (lN f3))<|bB (rJ.sl (.slice d.outs.addr d.outs.list.length d.outs.cap) d.outs.list) (zK (rV f5))<|bB (Fact.each d.bufs.list bAo) (bAd (lK f7))<|bB (Fact.each d.steps.list fJ) (uO (lN f9))<|bC (bufsF_c (lK f9)) fun hzb=>bC (bMp (lN f9)) fun hzs=>bC (outsF_c (rV f9)) fun hzo=>?_;have hzb2:=hzb.2;have hzs2:=hzs.2;have hzo2:=hzo.2;have hlb:=bufsL_len' e1;have hlo:c.outs.list.length=d.outs.list.length:=congrArg List.length e3;refine one ?_;refine j9 fun b1=>?_;refine j9 fun b2=>?_;refine g11 ?_;refine bL (t':=false) (by simp [e0]) ?_;refine g8 ?_;refine bL (t':=false) (bne_eq_false_iff_eq.2 n9) ?_;refine g9 ?_;refine bL (t':=false) (bne_eq_false_iff_eq.2 n9) ?_;refine g6 ?_;refine j5 func25 (steps11_spec c.steps.addr d.steps.addr c.steps.cap d.steps.cap c.steps.list d.steps.list n9 e2) ⟨f5,e8,e6,d7,j2⟩ fun _=>?_;refine g14 ?_;refine cE (ι:=Nat) [(2,_),(3,_)] ⟨rfl,rfl,j2⟩ (fun i=>[(5,.int .i64 (i:Nat))]) (fun _=>[]) (fun i=>[Fact.pure (i≤c.bufs.list.length)]) (fun i=>c.bufs.list.length-i) 0 ⟨rfl,j2⟩ .nil ⟨j3 n9,j2⟩ ?_;rintro i;refine bC d7 fun hinv4=>?_;refine g10 ?_;refine dM (fun hc42=>?_) fun hc42=>?_
 ·refine g5 ?_;obtain⟨x,hx⟩:=gx c.bufs.list i;obtain⟨y,hy⟩:=gx d.bufs.list i;have hxe:=bufs_eq e1 hx hy;have g0:x.input=y.input:=congrArg uU.input hxe;have g1:bK x.sides.list=bK y.sides.list:=congrArg uU.sides hxe;refine bB (bP.sl (.slice x.sides.addr x.sides.list.length x.sides.cap) x.sides.list) (Has.left (Has.left (Has.each f3 (j4 hx))))<|bB (cK x.sides.list) (Has.right (Has.left (Has.each f5 (j4 hx))))<|bC (Has.right (Has.each f7 (j4 hx))) fun hzsd=>bB (bP.sl (.slice y.sides.addr y.sides.list.length y.sides.cap) y.sides.list) (Has.left (Has.left (Has.each e7 (j4 hy))))<|bB (cK y.sides.list) (Has.right (Has.left (Has.each e8 (j4 hy)))) ?_;refine bU _ _ [(true,0),(true,1),(true,2),(true,3),(true,4),(true,5),(true,6),(true,7),(true,8),(true,9),(true,10),(true,11),(true,12),(true,13),(true,14),(true,15),(true,16),(true,17),(true,18),(true,19),(true,20),(true,21),(true,22),(true,23),(true,24),(true,25),(false,26),(true,27),(true,28)] bX o6 (.c0 (.c0 .nil)) bA.self ?_;refine g3 ?_;refine stM rfl (ixs i) ?_;refine one ?_;refine stM rfl (dH hx 1) ?_;refine g3 ?_;refine stM rfl (ixs i) ?_;refine one ?_;refine stM rfl (dH hy 1) ?_;refine one ?_;refine bL (t':=false) (by simp [g0]) ?_;refine g4 ?_;refine stM rfl (ixs i) ?_;refine one ?_;refine stM rfl (dH hx 0) ?_;refine g3 ?_;refine stM rfl (ixs i) ?_;refine one ?_;refine stM rfl (dH hy 0) ?_;refine one ?_;refine j5 func26 (bHg x.sides.addr y.sides.addr x.sides.cap y.sides.cap x.sides.list y.sides.list n9 g1) ⟨e6,d9,d8,d7,j2⟩ fun _=>?_;refine g12 ?_;refine inc (i+1) ?_;refine g3 ?_;exact bk2 (i+1) ⟨j3 n9,j2⟩
 refine g12 ?_;refine cE (ι:=Nat) [(2,_),(3,_)] ⟨rfl,rfl,j2⟩ (fun n=>[(6,.int .i64 (n:Nat))]) (fun _=>[]) (fun n=>[Fact.pure (n≤c.outs.list.length)]) (fun n=>c.outs.list.length-n) 0 ⟨rfl,j2⟩ .nil ⟨j3 n9,j2⟩ ?_;rintro n;refine bC d7 fun hinv9=>?_;refine g10 ?_;refine dM (fun hc78=>?_) fun hc78=>?_
 ·refine g5 ?_;obtain⟨x,hx⟩:=gx c.outs.list n;obtain⟨y,hy⟩:=gx d.outs.list n;have g2:x=y:=by have h1:=hx;rw [e3,hy] at h1;injection h1 with h1;exact h1.symm
  refine bU _ _ [(true,0),(true,1),(true,2),(true,3),(true,4),(true,5),(true,6),(true,7),(true,8),(true,9),(true,10)] bX o6 (.c0 (.c0 .nil)) bA.self ?_;refine g3 ?_;refine stM rfl (ixs n) ?_;refine stM rfl (dH hx 0) ?_;refine g3 ?_;refine stM rfl (ixs n) ?_;refine stM rfl (dH hy 0) ?_;refine one ?_;refine bL (t':=false) (by simp [g2]) ?_;refine g9 ?_;refine inc (n+1) ?_;refine g3 ?_;exact bk2 (n+1) ⟨j3 n9,j2⟩
 refine g11 ?_;exact rs1 () trivial
end
end Go.Proofs.YtakphiannlpnfaaGreatDoor
