/- Texts of one proof, one behind the other: LoE, LowD, LoF, Show11, Laid8, LawG8, LawL, Alg. -/
import Derived.Test.YtakphiannlpnfaaGreatDoorM2
import Derived.Test.YtakphiannlpnfaaGreatDoorM16
import Derived.Test.YtakphiannlpnfaaGreatDoorM14
import Derived.Test.YtakphiannlpnfaaGreatDoorM15
import Derived.Test.YtakphiannlpnfaaGreatDoorRows
import Derived.Test.YtakphiannlpnfaaGreatDoorM5
import Derived.Test.YtakphiannlpnfaaGreatDoorM9
import Derived.Deep.DeepWitnessRowRef
import Derived.Lib.LaidU8
import Derived.LaidLaws
import Derived.Lib.LaidIn
import Derived.Shelf.Vars
import Derived.Test.YtakphiannlpnfaaGreatDoorM1
import Derived.ProofKit
import Derived.OpenShut
import Derived.Carry
import Derived.SizedLaws
import Derived.Test.YtakphiannlpnfaaGreatDoorM3
namespace Go.Proofs.YtakphiannlpnfaaGreatDoor
section
open Go.RowKit Go.Proofs.Tryz
set_option maxRecDepth 100000
section
variable {P : Program} {β : dF} {n : Nat} {Γ : Env} {H : List bH} {F : List Fact} {Q : Exit → Act → World → Prop} {ι : Type}
def Jx (β:dF)(n:Nat)(G:ι→Env)(HH:ι→List bH)(FF:ι→List Fact)(Q:Exit→Act→World→Prop)(e:Exit)(a:Act)(w:World):Prop:=
 match e with
 | .normal=> ∃x S,Fits n (G x) a∧St β (HH x) S w∧All (FF x) S w
 | e=>Q e a w
theorem at_join{c:Code}(Δ:Env)(_hΔ:Γ.Sub Δ)(G:ι→Env)(HH:ι→List bH){H0 Hr:List bH}(_hH:sJ H H0 Hr)(FF:ι→List Fact)
  (h1:At β n Γ H F (c.wp P (Jx β n (fun x=>G x++Δ) (fun x=>HH x++Hr) (fun x=>FF x++F) Q))) (h2: ∀x,At β n (G x++Δ) (HH x++Hr) (FF x++F) (Q .normal)):At β n Γ H F (c.wp P Q):=fun a w S f s k=>
 Code.wp_mono (fun e a' w' q=>by
  cases e with
  | normal=>obtain⟨x,S',f',s',k'⟩:=q;exact h2 x a' w' S' f' s' k'
  | _=>exact q) (h1 a w S f s k)
theorem sF{Δ:Env}{G:ι→Env}{HH:ι→List bH}{Hr:List bH}{FF:ι→List Fact}{F0:List Fact}(x:ι)(hG:Γ.Sub (G x))(hΔ:Γ.Sub Δ)(hH:Sel H (HH x++Hr))(hF:bA F (FF x))(hF0:bA F F0):
  At β n Γ H F (Jx β n (fun x=>G x++Δ) (fun x=>HH x++Hr) (fun x=>FF x++F0) Q .normal):=fun _ w S f s k=>⟨x,S,f.sub (hG.append hΔ),s.sel hH,(hF.append hF0).all S w k⟩
theorem r_join{G:ι→Env}{HH:ι→List bH}{FF:ι→List Fact}(h:At β n Γ H F (Q .ret)):At β n Γ H F (Jx β n G HH FF Q .ret):=h
end
abbrev valC(v:ValV):Value:= .agg #[.slice v.ty.sides.addr v.ty.sides.list.length v.ty.sides.cap,.bool v.ty.known,.slice v.ty.values.addr v.ty.values.list.length v.ty.values.cap,.int .i64 v.buf]
abbrev lG:=List (Bs×ValV)
def sY (k:Bs):lG→Option ValV
 | []=>none
 | p::r=>if k=p.1 then some p.2 else sY k r
def oT (NV:lG):iI:=NV.map fun p=>(p.1,p.2.v)
theorem bHz(k:Bs): ∀NV:lG,uV k (oT NV)=(sY k NV).map ValV.v
 | []=>rfl
 | p::r=>by
  have ih:=bHz k r;unfold oT at ih⊢;rw [List.map_cons,uV,sY];split
  ·rfl
  ·exact ih
theorem bTb{k:Bs}{a:ValV}: ∀{NV:lG},sY k NV=some a→ ∃p∈NV,p.2=a
 | [],h=>by cases h
 | p::r,h=>by
  rw [sY] at h;split at h
  ·injection h with h
   exact⟨p,List.mem_cons_self ..,h⟩
  ·obtain⟨q,hq,e⟩:=bTb h;exact⟨q,List.mem_cons_of_mem _ hq,e⟩
def bCz (kv:KVS)(NV:lG):Prop:= ∀k,oR k kv=(sY k NV).map valC
theorem nrL_start:bCz [] []:=fun _=>rfl
theorem nrL_add{kv:KVS}{NV:lG}(h:bCz kv NV)(s:Bs)(a:ValV):bCz (nG s (valC a) kv) ((s,a)::NV):=fun k=>by
 rw [bBy,sY]
 by_cases e:k=s
 ·rw [if_pos (beq_iff_eq.2 e),if_pos e];rfl
 ·rw [if_neg (by simpa using e),if_neg e];exact h k
def noVal:ValV:=⟨⟨⟨none,0,[]⟩,false,⟨none,0,[]⟩⟩,0⟩
abbrev valF(v:ValV):Fact:=tyF v.ty
def yF (NV:lG):Fact:=Fact.each NV fun p=>valF p.2
theorem namedL_F{F:List Fact}{NV:lG}{k:Bs}{a:ValV}(h:Has F (yF NV))(e:sY k NV=some a):Has F (valF a):=by
 obtain⟨p,hp,e⟩:=bTb e;rw [←e];exact Has.each h hp
theorem mapL:prog.underlying 72=some (.map 9 82):=n9
theorem zeroVal(w:World):(zeroValue 82).run prog w= .ok (.agg #[.slice none 0 0,.bool false,.slice none 0 0,.int .i64 0]) w:=n9
theorem qE{t:TyV}(h:WfT t.t):mP t.sides.list:=by
 refine⟨?_,fun p hp=>?_⟩
 ·have:=h.len
  rwa [show t.t.sides.length=t.sides.list.length from bF _] at this
 ·exact oB (h.sr p.list (List.mem_map_of_mem hp))
def stV (hv:List ValV):List iA:=(hv.map ValV.v).reverse
theorem bAt{hv:List ValV}{a:ValV}(h:hv[hv.length-1]?=some a):(stV hv).headD default=a.v:=by
 have h2:(hv.map ValV.v)[(hv.map ValV.v).length-1]?=some a.v:=by rw [List.length_map];exact vS h
 unfold stV;rw [List.headD_eq_head?_getD,List.head?_reverse,List.getLast?_eq_getElem?,h2];rfl
theorem bFx{hv:List ValV}{a:ValV}(h:hv[hv.length-2]?=some a)(h2:2≤hv.length):(stV hv).tail.headD default=a.v:=by
 have e:(stV hv)[1]?=some a.v:=by
  unfold stV;rw [List.getElem?_reverse ab3,List.length_map];have:hv.length-1-1=hv.length-2:=n7
  rw [this];exact vS h
 match stV hv,e with
 | _::b::_,e=>simpa using e
theorem stV_push{hv:List ValV}{a:ValV}{k T:Nat}(hk:k=hv.length-T):stV (hv.take k++[a])=a.v::(stV hv).drop T:=by
 unfold stV;rw [List.map_append,List.reverse_append,List.map_take];simp only [List.map_cons,List.map_nil,List.reverse_cons,List.reverse_nil,List.nil_append,List.cons_append]
 congr 1
 rw [List.drop_reverse,List.length_map,hk]
theorem stV_app{hv:List ValV}{a:ValV}:stV (hv++[a])=a.v::stV hv:=by
 unfold stV;simp
theorem xO(hv:List ValV):(stV hv).length=hv.length:=by simp [stV]
def bDt (r:Except Int (List iA×LoS))(t:TyP)(k:Nat)(hv:List ValV)(bs:List rG)(e:Int)(ls:List StepV):Prop:=
 r=if e≠0 then .error e else yV t k (stV hv) ⟨bs,dX ls⟩
def bPw (l:List Int)(bs:List rG)(s0:LoS)(i:Nat)(sq:List StepV):Prop:=zH 0 l s0=zH i (l.drop i) ⟨bs,dX sq⟩
section
variable {l : List Int} {bs : List rG} {s0 : LoS} {i nb : Nat} {sq : List StepV} {T : StepV} {p : Int}
theorem nums_step(h:bPw l bs s0 i sq)(hb:nb=bs.length)(hp:l[i]?=some p)(hT:T.c=⟨1,(nb:Nat),bT (i:Nat),[],0,[oN p]⟩):bPw l bs s0 (i+1) (sq++[T]):=by
 unfold bPw at h⊢;rw [h,gE hp,zH,jZ hb hT]
theorem numsL_end(h:bPw l bs s0 i sq)(hi:l.length≤i):zH 0 l s0=⟨bs,dX sq⟩:=by
 rw [h,List.drop_of_length_le hi];rfl
end
section
variable {N : iI} {it : cT} {t : TyP} {hv : List ValV} {s : LoS} {bs : List rG} {ls : List StepV} {a b : ValV}
theorem mid_1(h:it.how=1)(e:zH 0 it.nums s=⟨bs,dX ls⟩):bDt (iJ N it t (stV hv) s) t 0 hv bs 0 ls:=by
 unfold bDt iJ;rw [if_pos h,e];rfl
theorem hit_2(h:it.how=2){NV:lG}{v:ValV}(e:sY it.name NV=some v):iJ (oT NV) it t (stV hv) s= .ok (stV (hv++[v]),s):=by
 unfold iJ;rw [if_neg n7,if_pos h,bHz,e,stV_app];rfl
theorem mid_2(h:it.how=2){NV:lG}(e:sY it.name NV=none){p:Pol}(hp:t.values.headD []=p)(k:(⟨bs,dX ls⟩:LoS)=iQ [] [oV p] s):bDt (iJ (oT NV) it t (stV hv) s) t 0 hv bs 0 ls:=by
 unfold bDt iJ;rw [if_neg n7,if_pos h,bHz,e,hp,k];rfl
theorem mid_3(h:it.how=3)(ha:hv[hv.length-1]?=some a)(k:(⟨bs,dX ls⟩:LoS)=mL it.fn a.v t s):bDt (iJ N it t (stV hv) s) t 1 hv bs 0 ls:=by
 unfold bDt iJ;rw [if_neg n7,if_neg n7,if_pos h,bAt ha,k];rfl
theorem flat_5(h:it.how=5∨it.how=6)(ha:hv[hv.length-1]?=some a)(k:a.v.t.sides=[]):iJ N it t (stV hv) s= .ok (stV hv,s):=by
 unfold iJ;rw [if_neg n7,if_neg n7,if_neg n7,if_pos h,bAt ha,if_pos k]
theorem mid_5{how:Int}(h:it.how=5∨it.how=6)(hh:how=if it.how=6 then 3 else 2)(ha:hv[hv.length-1]?=some a)(k0:a.v.t.sides≠[])(k:(⟨bs,dX ls⟩:LoS)=tC how [] a.v.t.sides it.fn (fromL a.v 0) s):bDt (iJ N it t (stV hv) s) t 1 hv bs 0 ls:=by
 unfold bDt iJ;rw [if_neg n7,if_neg n7,if_neg n7,if_pos h,bAt ha,if_neg k0,k,hh];rfl
theorem mid_4(h:it.how=4)(h2:2≤hv.length)(hb:hv[hv.length-2]?=some b)(ha:hv[hv.length-1]?=some a){r:Option LoS}(hr:mX it.fn b.v a.v t s=r)(k: ∀s',r=some s'→(⟨bs,dX ls⟩:LoS)=s'):bDt (iJ N it t (stV hv) s) t 2 hv bs (errD r) ls:=by
 unfold bDt iJ;rw [if_neg n7,if_neg n7,if_neg n7,if_neg n7,if_pos h,bAt ha,bFx hb h2,hr]
 cases r with
 | none=>rfl
 | some s'=>rw [k s' rfl];rfl
theorem mid_7(_h0:1≤it.how∧it.how≤7)(h1:it.how≠1)(h3:it.how≠2)(h4:it.how≠3)(h5:it.how≠5)(h6:it.how≠6)(h7:it.how≠4)(h2:2≤hv.length)(hb:hv[hv.length-2]?=some b)(ha:hv[hv.length-1]?=some a)(k:(⟨bs,dX ls⟩:LoS)=iQ t.sides [fromL b.v 0,fromL a.v b.v.t.sides.length,[oD it.fn]].flatten s):
  bDt (iJ N it t (stV hv) s) t 2 hv bs 0 ls:=by
 unfold bDt iJ;rw [if_neg h1,if_neg h3,if_neg h4,if_neg n7,if_neg h7,bAt ha,bFx hb h2,k];rfl
end
def bTt (r:Except Int (List iA×LoS)):Int:=match r with
 | .ok _=>0
 | .error e=>e
theorem mid_err{r:Except Int (List iA×LoS)}{t:TyP}{k:Nat}{hv:List ValV}{bs:List rG}{e:Int}{ls:List StepV}(h:bDt r t k hv bs e ls)(he:e≠0):r= .error e:=by
 rw [h,if_pos he]
theorem bufs_app{l:List BufV}{y:Sl PolV}{x:Int}{S:List Pol}(h:bJ y.list=S):iM (l++[⟨y,x⟩])=iM l++[⟨S,x⟩]:=by
 subst h;exact List.map_append
section
variable {r : Except Int (List iA × LoS)} {t : TyV} {n k : Nat} {hv : List ValV} {bl : List BufV} {ls : List StepV} {y : Sl PolV}
theorem mid_many(h:bDt r t.t k hv (iM bl) 0 ls)(hm:1024<bl.length+1∨1024<ls.length):r= .error 111:=by
 rw [h,if_neg o6];unfold yV;rw [if_pos (by rw [cR,iG];exact hm)]
theorem mid_ok(h:bDt r t.t k hv (iM bl) 0 ls)(hm:bl.length+1≤1024)(hm':ls.length≤1024)(hk:n=hv.length-k)(hy:bJ y.list=bJ t.sides.list):r= .ok (stV (hv.take n++[⟨t,(bl.length:Nat)⟩]),⟨iM (bl++[⟨y,-1⟩]),dX ls⟩):=by
 rw [h,if_neg o6];unfold yV;rw [if_neg (by rw [cR,iG];omega),stV_push hk,bufs_app hy,cR];rfl
end
theorem bGu{r:Except Int (List iA×LoS)}{x:List iA×LoS}(h:r= .ok x): ∀y,r= .ok y→y=x:=fun y e=>by
 rw [h] at e;cases e;rfl
theorem bde{p:Prop}(h:p:=by first | (simp;done) | (have h1:=gV (first:=0) hSa;simp;omega) | (have h1:=gV (first:=0) hSb;have h2:=gV (first:=b.ty.sides.list.length) hSa;simp;omega)):p:=h
theorem dZ:(prog.info? 82).bind (·.zero)=some (.agg #[.slice none 0 0,.bool false,.slice none 0 0,.int .i64 0]):=n9
theorem uY(v0_0 v0_1 v0_2:Value)(z1:Int):prog.built 82 [(0,.agg #[v0_0,v0_1,v0_2]),(1,.int .i64 z1)]=some #[v0_0,v0_1,v0_2,.int .i64 z1]:=n9
theorem wT(a0:Option Addr)(l0 c0:Nat)(z1:Int):prog.built 45 [(0,.slice a0 l0 c0),(1,.int .i64 z1)]=some #[.slice a0 l0 c0,.int .i64 z1]:=n9
set_option maxHeartbeats 1000000 in
theorem itemL_spec(mb nm:Nat)(vars:Int)(BA:Option Addr)(bc:Nat)(bl:List BufV)(SA:Option Addr)(sc:Nat)(sq:List StepV)(O:Value)(kv:KVS)(NV:lG)(hN:bCz kv NV)(it:ItemV)(t:TyV)(hWt:WfT t.t)(HA:Option Addr)(hc:Nat)(hv:List ValV)(hW: ∀v∈hv,WfT v.ty.t)(hbl:bl.length≤1024)(hss:sq.length≤1024)(hhv:hv.length≤300)(hd:dG it.it≤hv.length)(h17:1≤it.how∧it.how≤7)(hnum:it.how=1→it.nums.list.length≤65536)(hnm:it.how=2→it.name.length≤140737488355328∧(sY it.name NV=none→0<t.values.list.length))(hdv: ∀b,hv[hv.length-2]?=some b→it.how=4→it.fn=38∨it.fn=39→0<b.ty.values.list.length):cM prog 20 [.pointer (some ⟨mb,0,none⟩),.agg #[.int .i64 it.how,.int .i64 it.at_,.int .u8 it.fn,.string (bs it.name),.slice it.nums.addr it.nums.list.length it.nums.cap],.agg #[.slice t.sides.addr t.sides.list.length t.sides.cap,.bool t.known,.slice t.values.addr t.values.list.length t.values.cap],.slice HA hv.length hc] [mO mb nm vars (.slice BA bl.length bc) (.slice SA sq.length sc) O,bBl.row (.slice BA bl.length bc) 45 bl,mJ.row (.slice SA sq.length sc) 65 sq,qS nm kv,bRu.row (.slice HA hv.length hc) 82 hv] [sZ.sl (.slice it.nums.addr it.nums.list.length it.nums.cap) it.nums.list,tyF t,Fact.each bl bHu,Fact.each sq fZ,Fact.each hv valF,yF NV] (fun(x:Option Addr×Nat×List BufV×Option Addr×Nat×List StepV×Option Addr×Nat×List ValV)=> .tuple #[.slice x.2.2.2.2.2.2.1 x.2.2.2.2.2.2.2.2.length x.2.2.2.2.2.2.2.1,.int .i64 (bTt (iJ (oT NV) it.it t.t (stV hv) ⟨iM bl,dX sq⟩))]) (fun(x:Option Addr×Nat×List BufV×Option Addr×Nat×List StepV×Option Addr×Nat×List ValV)=>[mO mb nm vars (.slice x.1 x.2.2.1.length x.2.1) (.slice x.2.2.2.1 x.2.2.2.2.2.1.length x.2.2.2.2.1) O,bBl.row (.slice x.1 x.2.2.1.length x.2.1) 45 x.2.2.1,mJ.row (.slice x.2.2.2.1 x.2.2.2.2.2.1.length x.2.2.2.2.1) 65 x.2.2.2.2.2.1,qS nm kv,bRu.row (.slice x.2.2.2.2.2.2.1 x.2.2.2.2.2.2.2.2.length x.2.2.2.2.2.2.2.1) 82 x.2.2.2.2.2.2.2.2]) (fun(x:Option Addr×Nat×List BufV×Option Addr×Nat×List StepV×Option Addr×Nat×List ValV)=>[Fact.each x.2.2.1 bHu,Fact.each x.2.2.2.2.2.1 fZ,Fact.each x.2.2.2.2.2.2.2.2 valF,Fact.pure (∀y,iJ (oT NV) it.it t.t (stV hv) ⟨iM bl,dX sq⟩= .ok y→y=(stV x.2.2.2.2.2.2.2.2,(⟨iM x.2.2.1,dX x.2.2.2.2.2.1⟩:LoS)))]):=by
 have hT:=iC;have hSt:=qE hWt;have hTv:=fun p hp=>oB (hWt.vr p hp)
 replace hTv: ∀p∈t.values.list,p.list.length≤48:=fun p hp=>hTv p.list (List.mem_map_of_mem hp)
 generalize hR:iJ (oT NV) it.it t.t (stV hv) ⟨iM bl,dX sq⟩=r;generalize hTk:dG it.it=T at hd;refine k6 func20 ntmps20 ?_;intro β hM;refine g2 ?_;refine j9 fun b1=>?_;refine j9 fun b2=>?_;refine g5 ?_;refine fR kT1 ?_;refine fR .head ?_;refine bB (listF t.sides) (mA e6)<|bB (listF t.values) (mD e7)<|cG t.sides mT1 fun hc_ts=>cG t.values mT2 fun hc_tv=>?_;refine g15 ?_;refine ss (j7 hT (bK (off:=0) f3)) ?_;refine g2 ?_;refine at_join (ι:=Nat×Int×Option Addr×Nat×List StepV) [(0,_),(3,_),(5,_),(6,_)] ⟨rfl,rfl,rfl,rfl,j0⟩ (fun⟨n1,e1,A1,c1,ls⟩=>[(10,.int .i64 (n1:Nat)),(11,.int .i64 e1)]) (fun⟨n1,e1,A1,c1,ls⟩=>[mO mb nm vars (.slice BA bl.length bc) (.slice A1 ls.length c1) O,mJ.row (.slice A1 ls.length c1) 65 ls]) (.c0 (.c1 .nil)) (fun⟨n1,e1,A1,c1,ls⟩=>[Fact.pure (n1=hv.length-T∧bDt r t.t T hv (iM bl) e1 ls),Fact.each ls fZ]) ?_ ?_
 ·refine g7 ?_;refine fN (fun hc25=>?_) fun hc25=>?_
  ·refine cO ?_;have htk:T=0:=hTk.symm.trans (tU o7);subst htk;refine g2 ?_;refine ss (j7 hT (bK (off:=4) f3)) ?_;refine g5 ?_;refine cB (ι:=Nat×Option Addr×Nat×List StepV) [(0,_),(3,_),(5,_),(6,_),(10,_),(11,_),(28,_),(29,_)] ⟨rfl,rfl,rfl,rfl,rfl,rfl,rfl,rfl,j0⟩ (fun⟨i,A1,c1,ls⟩=>[(30,.int .i64 (i:Nat))]) (fun⟨i,A1,c1,ls⟩=>[mO mb nm vars (.slice BA bl.length bc) (.slice A1 ls.length c1) O,mJ.row (.slice A1 ls.length c1) 65 ls]) (fun⟨i,A1,c1,ls⟩=>[Fact.pure (i≤it.nums.list.length∧ls.length=sq.length+i∧bPw it.nums.list (iM bl) ⟨iM bl,dX sq⟩ i ls),Fact.each ls fZ]) (fun⟨i,A1,c1,ls⟩=>it.nums.list.length-i) (0,SA,sc,sq) ⟨rfl,j0⟩ (.c0 (.c1 .nil)) ⟨j3 (⟨n7,rfl,rfl⟩),f9,j0⟩ ?_;rintro⟨i,A1,c1,ls⟩;dsimp only;refine bC d7 fun hinv6=>?_;have hlsn:=hinv6.2.1;refine g6 ?_;refine dJ (fun hc31=>?_) fun hc31=>?_
   ·refine g7 ?_;obtain⟨x3,hx4⟩:=gx it.nums.list i;refine ss (ixs i) ?_;refine ss (fL hx4 0) ?_;refine g7 ?_;refine j5 func16 (zE (((i:Nat):Int))) j0 fun⟨A5,c6⟩=>?_;refine one ?_;refine j5 func37 (rP (x3)) j0 fun y7=>?_;refine bC d8 fun h39=>bX .head fun hc8=>bE .head<|bB (dH y7) (cS d7 (d8) hc8 h39 o6) ?_;refine gS (m:=y7) rfl rfl rfl rfl rfl fun b9=>?_;refine bR (E:=gR) (xs:=[y7]) .head q7<|bE .head<|bB (Fact.each [y7] dH) ((Has.each_cons d8 Has.each_nil)) ?_;have hq40:([y7].map fun s=>dW s.list).flatten=[oN (x3)]:=by simp only [List.map_cons,List.map_nil,List.flatten_cons,List.flatten_nil,List.append_nil,h39]
    refine bD func36 (rJ mb nm vars BA bl.length bc A1 c1 ls O q9 (1) (⟨A5,c6,bT (((i:Nat):Int))⟩:PolV) (⟨none,0,[]⟩:Sl PolV) bJq (0) (some ⟨b9,0,none⟩) 1 [y7] s8 (fX hq40 bde)) rfl rfl (.c0 (.c0 .nil)) ⟨e9,cL,d8,d7,j0⟩ fun⟨A10,c11,T12⟩=>?_;refine bC d8 fun ht13=>?_;rw [hq40] at ht13;refine bB (Fact.each (ls++[T12]) fZ) (Has.each_snoc f7 d7) ?_;refine g5 ?_;refine inc (i+1) ?_;refine g3 ?_;exact bk2 (i+1,A10,c11,(ls++[T12])) ⟨j3 (⟨by dsimp only;omega,by dsimp only;simp;omega,nums_step hinv6.2.2 (cR _).symm hx4 ht13⟩),d7,j0⟩
   refine g5 ?_;exact sF (hv.length,0,A1,c1,ls) ⟨rfl,rfl,j0⟩ ⟨rfl,rfl,rfl,rfl,j0⟩ (.c0 (.c0 (.c0 (.c0 (.c0 .nil))))) ⟨j3 (⟨n7,hR▸mid_1 (it:=it.it) ‹_› (numsL_end (l:=it.nums.list) hinv6.2.2 n7)⟩),d8,j0⟩ (bA.drop 2)
  refine g6 ?_;refine fN (fun hc43=>?_) fun hc43=>?_
  ·refine g2 ?_;have htk:T=0:=hTk.symm.trans (tU o7);subst htk
   rcases hlk:sY it.name NV with _ | v
   ·refine bU _ _ [(true,0),(true,1),(true,2),(true,3),(true,4),(true,5),(true,6),(true,7),(true,8),(true,9),(false,10),(false,11),(true,12)] bV o5 (.c0 (.c0 (.c0 (.c0 (.c0 .nil))))) bA.self ?_;refine g5 ?_;refine stM rfl (j7 hT (bK (off:=3) f3)) ?_;refine stM rfl (lI (lA kT3) rfl mapL underlying9 zeroVal rfl rfl (v:= .tuple #[valC noVal,.bool false]) (by rw [hN,hlk];rfl)) ?_;refine g4 ?_;refine j6 dZ fun b14=>?_;refine g15 ?_;have hv1:=(hnm ‹_›).2 hlk;obtain⟨vp,hvp⟩:=gx t.values.list 0 hv1;refine g3 ?_;refine ss (j7 hT (bK (off:=2) e9)) ?_;refine ss (ixs 0) ?_;refine ss (fL hvp 0) ?_;refine bD func39 (uE vp (hTv _ (j4 hvp))) rfl rfl .nil ⟨(Has.each d7 (j4 hvp)),j0⟩ fun y15=>?_;refine bC d8 fun h65=>bX .head fun hc16=>bE .head<|bB (dH y15) (cS d7 (d8) hc16 h65 o6) ?_;refine gS (m:=y15) rfl rfl rfl rfl rfl fun b17=>?_;refine bR (E:=gR) (xs:=[y15]) .head q7<|bE .head<|bB (Fact.each [y15] dH) ((Has.each_cons d8 Has.each_nil)) ?_;have hq66:([y15].map fun s=>dW s.list).flatten=[oV vp.list]:=by simp only [List.map_cons,List.map_nil,List.flatten_cons,List.flatten_nil,List.append_nil,h65]
    refine bD func38 (fO mb nm vars BA bl.length bc SA sc sq O q9 (⟨none,0,[]⟩:Sl PolV) bJq (some ⟨b17,0,none⟩) 1 [y15] s8 (fX hq66 bde)) rfl rfl (.c1 (.c2 .nil)) ⟨cL,d8,d7,j0⟩ fun⟨A18,c19,T20⟩=>?_;refine bC d8 fun ht21=>?_;rw [hq66] at ht21;refine bB (Fact.each (sq++[T20]) fZ) (Has.each_snoc (Has.of (u8 (u8 mT3))) d7) ?_;refine g2 ?_;exact sF (hv.length,0,A18,c19,(sq++[T20])) ⟨rfl,rfl,j0⟩ ⟨rfl,rfl,rfl,rfl,j0⟩ (.c0 (.c0 (.c1 (.c1 (.c1 .nil))))) ⟨j3 (⟨n7,hR▸mid_2 (it:=it.it) ‹_› hlk (headP hvp) (jZ (cR _).symm ht21)⟩),d7,j0⟩ (bA.drop 9)
   refine bB (valF v) (namedL_F i7 hlk) ?_;refine bU _ _ [(true,0),(true,1),(true,2),(true,3),(true,4),(true,5),(true,6),(true,7),(true,8),(true,9),(false,10),(false,11),(true,12)] bV o5 (.c0 (.c0 (.c0 (.c0 (.c0 .nil))))) bA.self ?_;refine g5 ?_;refine stM rfl (j7 hT (bK (off:=3) f4)) ?_;refine stM rfl (lI (lA kT3) rfl mapL underlying9 zeroVal rfl rfl (v:= .tuple #[valC v,.bool true]) (by rw [hN,hlk];rfl)) ?_;refine g4 ?_;refine j6 dZ fun b22=>?_;refine g17 ?_;refine bFn (m:=v) rfl rfl rfl rfl rfl fun b23=>?_;refine bEw kT6 (bW .head rfl) rfl rfl rfl rfl rfl rfl rfl q8 fun A24 c25=>?_;refine g7 ?_;refine r_join ?_;refine r_then ?_;have hr:=hR.symm.trans (hit_2 (it:=it.it) ‹_› hlk);have he0:bTt r=0:=by rw [hr];rfl
   rw [he0];exact rs2 (BA,bc,bl,SA,sc,sq,A24,c25,(hv++[v])) ⟨f9,i6,Has.each_snoc i7 d7,j3 (bGu hr),j0⟩
  refine g6 ?_;refine fN (fun hc68=>?_) fun hc68=>?_
  ·refine cO ?_;have htk:T=1:=hTk.symm.trans (oF ac0);subst htk;obtain⟨a,ha⟩:=gx hv (hv.length-1);refine bB (tyF a.ty) (Has.each i6 (j4 ha)) ?_;have hSa:=qE (hW a (j4 ha));refine bB (listF a.ty.sides) (mA d7)<|bB (listF a.ty.values) (mD d8)<|cG a.ty.sides mT1 fun hc_as=>?_;refine bU _ _ [(true,0),(true,1),(true,2),(true,3),(true,4),(true,5),(true,6),(true,7),(true,8),(false,9)] bV o5 (.c1 (.c2 (.c2 .nil))) bA.self ?_;refine g2 ?_;refine stM rfl (j7 hT (bK (off:=2) i6)) ?_;refine g3 ?_;refine inc (hv.length-1) ?_;refine stM rfl (ixs (hv.length-1)) ?_;refine stM rfl (lS ha 0) ?_;refine stM rfl (fJ hT (bK (off:=0) f9) rfl rfl rfl rfl rfl) ?_;refine one ?_;refine bD func40 (monadL_spec mb nm vars BA bl.length bc SA sc sq O n7 (iM bl) (cR _).symm it.fn a hSa t hSt) rfl rfl (.c0 (.c1 .nil)) ⟨e6,f7,(Has.of (u8 (u8 mT0))),j0⟩ fun⟨A26,c27,ls28⟩=>?_;refine bC d8 fun hme=>?_;refine g6 ?_;refine inc (hv.length-1) ?_;refine g3 ?_;exact sF ((hv.length-1),0,A26,c27,ls28) ⟨rfl,rfl,j0⟩ ⟨rfl,rfl,rfl,rfl,j0⟩ (.c0 (.c0 (.c0 (.c0 (.c0 .nil))))) ⟨j3 (⟨n7,hR▸mid_3 (it:=it.it) ‹_› ha hme⟩),d7,j0⟩ (bA.drop 7)
  refine g7 ?_;refine fN (fun hc82=>?_) fun hc82=>?_
  ·refine bM (t':=true) (beq_iff_eq.2 ‹_›) ?_;refine g4 ?_;have htk:T=1:=hTk.symm.trans (oF ac0);subst htk;obtain⟨a,ha⟩:=gx hv (hv.length-1);refine bB (tyF a.ty) (Has.each i6 (j4 ha)) ?_;have hSa:=qE (hW a (j4 ha));refine bB (listF a.ty.sides) (mA d7)<|bB (listF a.ty.values) (mD d8)<|cG a.ty.sides mT1 fun hc_as=>?_;refine g4 ?_;refine inc (hv.length-1) ?_;refine ss (ixs (hv.length-1)) ?_;refine ss (lS ha 0) ?_;refine j6 dZ fun b29=>?_;refine g13 ?_;refine fN (fun hc94=>?_) fun hc94=>?_
   ·refine g10 ?_;refine r_join ?_;refine r_then ?_;have hr:=hR.symm.trans (flat_5 (it:=it.it) o7 ha (nilL n7));have he0:bTt r=0:=by rw [hr];rfl
    rw [he0];exact rs2 (BA,bc,bl,SA,sc,sq,HA,hc,hv) ⟨(Has.of (u8 mT7)),(Has.of (u8 (u8 mT0))),(Has.of (u8 (u8 mT1))),j3 (bGu hr),j0⟩
   refine g11 ?_;refine ss (j7 hT (bK (off:=0) i6)) ?_;refine one ?_;refine bM (t':=false) (by rw [hc82];rfl) ?_;refine g6 ?_;refine bU _ _ [(true,0),(true,1),(true,2),(true,3),(true,4),(true,5),(true,6),(true,7),(false,8),(false,9),(false,10)] bV o5 (.c0 (.c1 (.c2 (.c2 .nil)))) bA.self ?_;refine g6 ?_;refine stM rfl (j7 hT (bK (off:=2) i6)) ?_;refine g2 ?_;refine j5 func41 (hO a hSa (0) n7) ⟨e6,j0⟩ fun y30=>?_;refine bC d8 fun h107=>?_;refine g2 ?_;refine bX .head fun hc31=>bE .head<|bB (dH y30) (cS d7 (d8) hc31 h107 ac8) ?_;refine gS (m:=y30) rfl rfl rfl rfl rfl fun b32=>?_;refine bR (E:=gR) (xs:=[y30]) .head q7<|bE .head<|bB (Fact.each [y30] dH) ((Has.each_cons d8 Has.each_nil)) ?_;have hq108:([y30].map fun s=>dW s.list).flatten=fromL a.v (0):=by simp only [List.map_cons,List.map_nil,List.flatten_cons,List.flatten_nil,List.append_nil,h107]
   refine g2 ?_;refine bD func36 (rJ mb nm vars BA bl.length bc SA sc sq O q9 (2) (⟨none,0,[]⟩:PolV) a.ty.sides hSa (it.fn) (some ⟨b32,0,none⟩) 1 [y30] s8 (fX hq108 bde)) rfl rfl (.c1 (.c2 .nil)) ⟨iP,f5,d8,d7,j0⟩ fun⟨A33,c34,T35⟩=>?_;refine bC d8 fun ht36=>?_;rw [hq108] at ht36;refine bB (Fact.each (sq++[T35]) fZ) (Has.each_snoc (Has.of (u8 (u8 (u8 mT0)))) d7) ?_;refine g6 ?_;refine inc (hv.length-1) ?_;refine g3 ?_;exact sF ((hv.length-1),0,A33,c34,(sq++[T35])) ⟨rfl,rfl,j0⟩ ⟨rfl,rfl,rfl,rfl,j0⟩ (.c0 (.c0 (.c1 (.c1 (.c1 .nil))))) ⟨j3 (⟨n7,hR▸mid_5 (it:=it.it) o7 ad1 ha (bUq n7) (jZ (cR _).symm ht36)⟩),d7,j0⟩ (bA.drop 14)
  refine g5 ?_;refine fN (fun hc82_37=>?_) fun hc82_37=>?_
  ·refine bM (t':=true) (beq_iff_eq.2 ‹_›) ?_;refine cO ?_;have htk:T=1:=hTk.symm.trans (oF ac0);subst htk;obtain⟨a,ha⟩:=gx hv (hv.length-1);refine bB (tyF a.ty) (Has.each i6 (j4 ha)) ?_;have hSa:=qE (hW a (j4 ha));refine bB (listF a.ty.sides) (mA d7)<|bB (listF a.ty.values) (mD d8)<|cG a.ty.sides mT1 fun hc_as=>?_;refine g4 ?_;refine inc (hv.length-1) ?_;refine ss (ixs (hv.length-1)) ?_;refine ss (lS ha 0) ?_;refine j6 dZ fun b38=>?_;refine g13 ?_;refine fN (fun hc94=>?_) fun hc94=>?_
   ·refine g10 ?_;refine r_join ?_;refine r_then ?_;have hr:=hR.symm.trans (flat_5 (it:=it.it) o7 ha (nilL n7));have he0:bTt r=0:=by rw [hr];rfl
    rw [he0];exact rs2 (BA,bc,bl,SA,sc,sq,HA,hc,hv) ⟨(Has.of (u8 mT7)),(Has.of (u8 (u8 mT0))),(Has.of (u8 (u8 mT1))),j3 (bGu hr),j0⟩
   refine g11 ?_;refine ss (j7 hT (bK (off:=0) i6)) ?_;refine one ?_;refine bM (t':=true) (by rw [hc82_37];rfl) ?_;refine g8 ?_;refine bU _ _ [(true,0),(true,1),(true,2),(true,3),(true,4),(true,5),(true,6),(true,7),(false,8),(false,9),(false,10)] bV o5 (.c0 (.c1 (.c2 (.c2 .nil)))) bA.self ?_;refine g6 ?_;refine stM rfl (j7 hT (bK (off:=2) i6)) ?_;refine g2 ?_;refine j5 func41 (hO a hSa (0) n7) ⟨e6,j0⟩ fun y39=>?_;refine bC d8 fun h107=>?_;refine g2 ?_;refine bX .head fun hc40=>bE .head<|bB (dH y39) (cS d7 (d8) hc40 h107 ac8) ?_;refine gS (m:=y39) rfl rfl rfl rfl rfl fun b41=>?_;refine bR (E:=gR) (xs:=[y39]) .head q7<|bE .head<|bB (Fact.each [y39] dH) ((Has.each_cons d8 Has.each_nil)) ?_;have hq108:([y39].map fun s=>dW s.list).flatten=fromL a.v (0):=by simp only [List.map_cons,List.map_nil,List.flatten_cons,List.flatten_nil,List.append_nil,h107]
   refine g2 ?_;refine bD func36 (rJ mb nm vars BA bl.length bc SA sc sq O q9 (3) (⟨none,0,[]⟩:PolV) a.ty.sides hSa (it.fn) (some ⟨b41,0,none⟩) 1 [y39] s8 (fX hq108 bde)) rfl rfl (.c1 (.c2 .nil)) ⟨iP,f5,d8,d7,j0⟩ fun⟨A42,c43,T44⟩=>?_;refine bC d8 fun ht45=>?_;rw [hq108] at ht45;refine bB (Fact.each (sq++[T44]) fZ) (Has.each_snoc (Has.of (u8 (u8 (u8 mT0)))) d7) ?_;refine g6 ?_;refine inc (hv.length-1) ?_;refine g3 ?_;exact sF ((hv.length-1),0,A42,c43,(sq++[T44])) ⟨rfl,rfl,j0⟩ ⟨rfl,rfl,rfl,rfl,j0⟩ (.c0 (.c0 (.c1 (.c1 (.c1 .nil))))) ⟨j3 (⟨n7,hR▸mid_5 (it:=it.it) o7 ad1 ha (bUq n7) (jZ (cR _).symm ht45)⟩),d7,j0⟩ (bA.drop 14)
  refine g6 ?_;refine fN (fun hc112=>?_) fun hc112=>?_
  ·refine cO ?_;have htk:T=2:=hTk.symm.trans (qB af9);subst htk;obtain⟨b,hb⟩:=gx hv (hv.length-2);refine bB (tyF b.ty) (Has.each i6 (j4 hb)) ?_;have hSb:=qE (hW b (j4 hb));refine bB (listF b.ty.sides) (mA d7)<|bB (listF b.ty.values) (mD d8)<|cG b.ty.sides mT1 fun hc_bs=>?_;have h4b:=hSb.1;obtain⟨a,ha⟩:=gx hv (hv.length-1);refine bB (tyF a.ty) (Has.each (Has.of (u8 (u8 mT1))) (j4 ha)) ?_;have hSa:=qE (hW a (j4 ha));refine bB (listF a.ty.sides) (mA d7)<|bB (listF a.ty.values) (mD d8)<|cG a.ty.sides mT1 fun hc_as=>?_;have h4a:=hSa.1;refine bU _ _ [(true,0),(true,1),(true,2),(true,3),(true,4),(true,5),(true,6),(true,7),(true,8),(true,9),(true,10),(true,11),(true,12),(true,13),(false,14),(true,15)] bV o5 (.c1 (.c2 (.c2 .nil))) bA.self ?_;refine g2 ?_;refine stM rfl (j7 hT (bK (off:=2) (Has.of (u8 (u8 mT1))))) ?_;refine g3 ?_;refine inc (hv.length-2) ?_;refine stM rfl (ixs (hv.length-2)) ?_;refine stM rfl (lS hb 0) ?_;refine g3 ?_;refine inc (hv.length-1) ?_;refine stM rfl (ixs (hv.length-1)) ?_;refine stM rfl (lS ha 0) ?_;refine stM rfl (fJ hT (bK (off:=0) (Has.of (u8 (u8 mT0)))) rfl rfl rfl rfl rfl) ?_;refine one ?_;refine bD func42 (dyadL_spec mb nm vars BA bl.length bc SA sc sq O n7 (iM bl) (cR _).symm it.fn b a hSb hSa t hSt (hdv b hb ‹_›)) rfl rfl (.c0 (.c1 .nil)) ⟨f4,f3,e6,(Has.of (u8 mT7)),(Has.of (u8 (u8 mT5))),j0⟩ fun⟨A46,c47,ls48⟩=>?_;refine bC d8 fun hme=>?_;refine g7 ?_;refine inc (hv.length-2) ?_;refine g3 ?_;exact sF ((hv.length-2),(errD (mX it.fn b.v a.v t.t ⟨iM bl,dX sq⟩)),A46,c47,ls48) ⟨rfl,rfl,j0⟩ ⟨rfl,rfl,rfl,rfl,j0⟩ (.c0 (.c0 (.c0 (.c0 (.c0 .nil))))) ⟨j3 (⟨n7,hR▸mid_4 (it:=it.it) ‹_› n7 hb ha rfl hme⟩),d7,j0⟩ (bA.drop 12)
  refine g6 ?_;refine fN (fun hc131=>?_) fun hc131=>?_
  ·refine cO ?_;have htk:T=2:=hTk.symm.trans (qB af9);subst htk;obtain⟨b,hb⟩:=gx hv (hv.length-2);refine bB (tyF b.ty) (Has.each i6 (j4 hb)) ?_;have hSb:=qE (hW b (j4 hb));refine bB (listF b.ty.sides) (mA d7)<|bB (listF b.ty.values) (mD d8)<|cG b.ty.sides mT1 fun hc_bs=>?_;have h4b:=hSb.1;obtain⟨a,ha⟩:=gx hv (hv.length-1);refine bB (tyF a.ty) (Has.each (Has.of (u8 (u8 mT1))) (j4 ha)) ?_;have hSa:=qE (hW a (j4 ha));refine bB (listF a.ty.sides) (mA d7)<|bB (listF a.ty.values) (mD d8)<|cG a.ty.sides mT1 fun hc_as=>?_;have h4a:=hSa.1;refine mV _ _ (.fl 0 (.fl 1 (.fl 2 (.fl 3 (.fl 4 (.fl 5 (.fl 6 (.fl 7 (.fl 8 (.fl 9 (.two 10 11 (.op 11 (.op 12 (.op 13 .nil))) (.op 10 (.op 12 (.op 13 .nil)))))))))))))) bV o5 (.c0 (.c0 (.c0 (.c0 (.c0 .nil))))) bA.self ?_;refine g3 ?_;refine inc (hv.length-2) ?_;refine sqT rfl (ixs (hv.length-2)) ?_;refine sqT rfl (lS hb 0) ?_;refine g3 ?_;refine inc (hv.length-1) ?_;refine sqT rfl (ixs (hv.length-1)) ?_;refine sqT rfl (lS ha 0) ?_;refine jP (o:=_) (o':=_) rfl rfl ?_ ?_
   ·refine j6 dZ fun b49=>?_;refine g2 ?_;refine j6 dZ fun b50=>?_;refine g10 ?_;refine bU _ _ [(true,0),(true,1),(true,2),(true,3),(true,5),(true,6),(true,7),(true,8),(true,9),(true,11),(true,12),(false,4),(false,10),(false,13),(false,14),(false,15)] bV o5 (.c0 (.c0 (.c1 (.c2 (.c2 .nil))))) bA.self ?_;refine g2 ?_;refine stM rfl (j7 hT (bK (off:=0) (Has.of (u8 (u8 mT0))))) ?_;refine g7 ?_;refine stM rfl (j7 hT (bK (off:=2) (Has.of (u8 (u8 mT1))))) ?_;refine one ?_;refine j5 func41 (hO b hSb (0) n7) ⟨f4,j0⟩ fun y51=>?_;refine bC d8 fun h147=>?_;refine g2 ?_;refine j5 func41 (hO a hSa (b.ty.sides.list.length) n7) ⟨e8,j0⟩ fun y52=>?_;refine bC d8 fun h153=>?_;refine g2 ?_;refine j5 func43 (jN (it.fn)) j0 fun y53=>?_;refine bC d8 fun h156=>?_;refine g2 ?_;refine bX kT2 fun hc54=>bE kT2<|bB (dH y51) (cS d7 (e8) hc54 h147 ad6)<|bX kT1 fun hc55=>bE kT1<|bB (dH y52) (cS d7 (e8) hc55 h153 ah4)<|bX .head fun hc56=>bE .head<|bB (dH y53) (cS d7 (e8) hc56 h156 o6) ?_;refine rH y51 y52 y53 rfl rfl rfl rfl rfl rfl rfl fun b57=>?_;refine bR (E:=gR) (xs:=[y51,y52,y53]) .head q7<|bE .head<|bB (Fact.each [y51,y52,y53] dH) ((Has.each_cons e8 (Has.each_cons e6 (Has.each_cons d8 Has.each_nil)))) ?_;have hq157:([y51,y52,y53].map fun s=>dW s.list).flatten=[fromL b.v (0),fromL a.v (b.ty.sides.list.length),[oD (it.fn)]].flatten:=by simp only [List.map_cons,List.map_nil,h147,h153,h156]
    refine g2 ?_;refine bD func38 (fO mb nm vars BA bl.length bc SA sc sq O q9 t.sides hSt (some ⟨b57,0,none⟩) 3 [y51,y52,y53] s8 (fX hq157 bde)) rfl rfl (.c2 (.c3 .nil)) ⟨(Has.of (u8 (u8 (u8 mT5)))),d8,d7,j0⟩ fun⟨A58,c59,T60⟩=>?_;refine bC d8 fun ht61=>?_;rw [hq157] at ht61;refine bB (Fact.each (sq++[T60]) fZ) (Has.each_snoc (Has.of (u8 (u8 (u8 (u8 mT5))))) d7) ?_;refine g6 ?_;refine inc (hv.length-2) ?_;refine g3 ?_;exact sF ((hv.length-2),0,A58,c59,(sq++[T60])) ⟨rfl,rfl,j0⟩ ⟨rfl,rfl,rfl,rfl,j0⟩ (.c0 (.c0 (.c2 (.c2 (.c2 .nil))))) ⟨j3 (⟨n7,hR▸mid_7 (it:=it.it) h17 ‹_› ‹_› ‹_› ‹_› ‹_› ‹_› n7 hb ha (by rw [show b.v.t.sides.length=b.ty.sides.list.length from bF _];exact jZ (cR _).symm ht61)⟩),d7,j0⟩ (bA.drop 27)
   refine j6 dZ fun b62=>?_;refine g2 ?_;refine j6 dZ fun b63=>?_;refine g10 ?_;refine bU _ _ [(true,0),(true,1),(true,2),(true,3),(true,5),(true,6),(true,7),(true,8),(true,9),(true,11),(true,12),(false,4),(false,10),(false,13),(false,14),(false,15)] bV o5 (.c0 (.c0 (.c1 (.c2 (.c2 .nil))))) bA.self ?_;refine g2 ?_;refine stM rfl (j7 hT (bK (off:=0) (Has.of (u8 (u8 mT0))))) ?_;refine g7 ?_;refine stM rfl (j7 hT (bK (off:=2) (Has.of (u8 (u8 mT1))))) ?_;refine one ?_;refine j5 func41 (hO b hSb (0) n7) ⟨f4,j0⟩ fun y64=>?_;refine bC d8 fun h147=>?_;refine g2 ?_;refine j5 func41 (hO a hSa (b.ty.sides.list.length) n7) ⟨e8,j0⟩ fun y65=>?_;refine bC d8 fun h153=>?_;refine g2 ?_;refine j5 func43 (jN (it.fn)) j0 fun y66=>?_;refine bC d8 fun h156=>?_;refine g2 ?_;refine bX kT2 fun hc67=>bE kT2<|bB (dH y64) (cS d7 (e8) hc67 h147 ad6)<|bX kT1 fun hc68=>bE kT1<|bB (dH y65) (cS d7 (e8) hc68 h153 ah4)<|bX .head fun hc69=>bE .head<|bB (dH y66) (cS d7 (e8) hc69 h156 o6) ?_;refine rH y64 y65 y66 rfl rfl rfl rfl rfl rfl rfl fun b70=>?_;refine bR (E:=gR) (xs:=[y64,y65,y66]) .head q7<|bE .head<|bB (Fact.each [y64,y65,y66] dH) ((Has.each_cons e8 (Has.each_cons e6 (Has.each_cons d8 Has.each_nil)))) ?_;have hq157:([y64,y65,y66].map fun s=>dW s.list).flatten=[fromL b.v (0),fromL a.v (b.ty.sides.list.length),[oD (it.fn)]].flatten:=by simp only [List.map_cons,List.map_nil,h147,h153,h156]
   refine g2 ?_;refine bD func38 (fO mb nm vars BA bl.length bc SA sc sq O q9 t.sides hSt (some ⟨b70,0,none⟩) 3 [y64,y65,y66] s8 (fX hq157 bde)) rfl rfl (.c2 (.c3 .nil)) ⟨(Has.of (u8 (u8 (u8 mT5)))),d8,d7,j0⟩ fun⟨A71,c72,T73⟩=>?_;refine bC d8 fun ht74=>?_;rw [hq157] at ht74;refine bB (Fact.each (sq++[T73]) fZ) (Has.each_snoc (Has.of (u8 (u8 (u8 (u8 mT5))))) d7) ?_;refine g6 ?_;refine inc (hv.length-2) ?_;refine g3 ?_;exact sF ((hv.length-2),0,A71,c72,(sq++[T73])) ⟨rfl,rfl,j0⟩ ⟨rfl,rfl,rfl,rfl,j0⟩ (.c0 (.c0 (.c2 (.c2 (.c2 .nil))))) ⟨j3 (⟨n7,hR▸mid_7 (it:=it.it) h17 ‹_› ‹_› ‹_› ‹_› ‹_› ‹_› n7 hb ha (by rw [show b.v.t.sides.length=b.ty.sides.list.length from bF _];exact jZ (cR _).symm ht74)⟩),d7,j0⟩ (bA.drop 27)
  exact absurd h17 n7
 rintro⟨n1,e1,A1,c1,ls⟩;dsimp only;refine bC d7 fun hjn=>?_;refine g8 ?_;refine wG (fun hc162=>?_) fun hc162=>?_
 ·refine g9 ?_;have hr:r= .error e1:=mid_err hjn.2 ‹_›;subst hr;refine cK (t:=82) bRu ?_;exact rs2 (BA,bc,bl,A1,c1,ls,none,0,[]) ⟨i6,d8,Has.each_nil,j3 (fun _ h=>by cases h),j0⟩
 refine g3 ?_;refine bU _ _ [(true,0),(true,1),(true,2),(true,3),(true,4),(true,5),(true,6),(true,7),(false,8),(false,9)] bV o5 (.c0 (.c0 (.c0 (.c0 (.c0 .nil))))) bA.self ?_;refine stM rfl (fJ hT (bK (off:=0) f4) rfl rfl rfl rfl rfl) ?_;refine g6 ?_;refine stM rfl (k7 (uY _ _ _ _)) ?_;refine one ?_;refine j6 dZ fun b75=>?_;refine g7 ?_;refine lC 15 _ _ [(true,0),(true,1),(true,2),(true,3),(true,4),(true,5),(true,6),(true,7),(false,8),(true,9),(false,10),(false,11),(true,12),(true,13),(true,14)] bV o5 (.c0 (.c0 (.c0 (.c1 (.c1 .nil))))) bA.self ?_;refine g7 ?_;refine stL rfl (j7 hT (bK (off:=0) f4)) ?_;refine one ?_;refine j5 func19 (bJi t.sides hSt) ⟨f3,j0⟩ fun lp76=>?_;refine bC d8 fun hlp=>?_;refine one ?_;refine stL rfl (k7 (wT _ _ _ _)) ?_;refine one ?_;refine bOv (m:=(⟨lp76,-1⟩:BufV)) rfl rfl rfl rfl rfl fun b77=>?_;refine g2 ?_;refine bSp kT4 (bW .head rfl) rfl rfl rfl rfl rfl rfl rfl q8 fun A78 c79=>?_;refine g10 ?_;refine bB (Fact.each (bl++[(⟨lp76,-1⟩:BufV)]) bHu) (Has.each_snoc (Has.of tJ) d7) ?_;refine g9 ?_;refine jX (fun hg194=>?_) fun hg194=>?_
 ·refine g19 ?_;have hr:r= .error 111:=mid_many ad7 ab4;subst hr;refine cK (t:=82) bRu ?_;exact rs2 (A78,c79,(bl++[(⟨lp76,-1⟩:BufV)]),A1,c1,ls,none,0,[]) ⟨d7,e7,Has.each_nil,j3 (fun _ h=>by cases h),j0⟩
 refine g10 ?_;refine dJ (fun hc202=>?_) fun hc202=>?_
 ·refine g8 ?_;have hr:r= .error 111:=mid_many ad7 ab4;subst hr;refine cK (t:=82) bRu ?_;exact rs2 (A78,c79,(bl++[(⟨lp76,-1⟩:BufV)]),A1,c1,ls,none,0,[]) ⟨d7,e7,Has.each_nil,j3 (fun _ h=>by cases h),j0⟩
 refine g3 ?_;refine mV _ _ (.fl 0 (.fl 1 (.fl 3 (.two 2 4 (.op 4 (.op 5 (.fl 6 (.fl 7 .nil)))) (.op 2 (.op 5 (.fl 6 (.fl 7 .nil)))))))) bV o5 (.c0 (.c0 (.c0 (.c0 (.c0 (.c0 .nil)))))) bA.self ?_;refine g3 ?_;refine jP (o:=_) (o':=_) rfl rfl ?_ ?_
 ·refine iK hT (k:=n1) kT6 rfl rfl rfl rfl rfl rfl rfl rfl rfl n7 ?_;refine g2 ?_;refine bFn (m:=(⟨t,(bl.length:Nat)⟩:ValV)) rfl rfl rfl rfl rfl fun b80=>?_;refine g2 ?_;refine bEw kT1 (bW .head rfl) rfl rfl rfl rfl rfl rfl rfl q8 fun A81 c82=>?_;refine g6 ?_;have hr:=mid_ok ad7 ab4 n7 hjn.1 hlp;have he0:bTt r=0:=by rw [hr];rfl
  rw [he0];exact rs2 (A78,c79,(bl++[(⟨lp76,-1⟩:BufV)]),A1,c1,ls,A81,c82,((hv.take n1)++[(⟨t,(bl.length:Nat)⟩:ValV)])) ⟨d7,e7,Has.each_snoc (bDm (Has.of (u8 (u8 mT1))) _) (Has.of tJ),j3 (bGu hr),j0⟩
 refine bFn (m:=(⟨t,(bl.length:Nat)⟩:ValV)) rfl rfl rfl rfl rfl fun b83=>?_;refine g2 ?_;refine iK hT (k:=n1) kT7 rfl rfl rfl rfl rfl rfl rfl rfl rfl n7 ?_;refine g2 ?_;refine bEw .head (bW kT1 rfl) rfl rfl rfl rfl rfl rfl rfl q8 fun A84 c85=>?_;refine g6 ?_;have hr:=mid_ok ad7 ab4 n7 hjn.1 hlp;have he0:bTt r=0:=by rw [hr];rfl
 rw [he0];exact rs2 (A78,c79,(bl++[(⟨lp76,-1⟩:BufV)]),A1,c1,ls,A84,c85,((hv.take n1)++[(⟨t,(bl.length:Nat)⟩:ValV)])) ⟨d7,e7,Has.each_snoc (bDm (Has.of (u8 (u8 mT1))) _) (Has.of tJ),j3 (bGu hr),j0⟩
structure jB (N:iI) (NT:dT) (l:List cT) (R fin:List TyP) (r:Except Flt (List iA×LoS)) (j:Nat) (hv:List ValV) (s:LoS):Prop where
 run:r=qY N (l.drop j) (R.drop j) (stV hv) s
 ty:mE NT (l.drop j) (gI (stV hv)) (R.take j)= .ok (fin,R)
 dep:lL (l.drop j) hv.length=some 1
 wf: ∀v∈hv,WfT v.ty.t
 len:hv.length≤j
 fb:s.bufs.length≤1024
 fs:s.steps.length≤1024
section
variable {N : iI} {NT : dT} {l : List cT} {R fin : List TyP} {r : Except Flt (List iA × LoS)} {j : Nat} {hv hv' : List ValV} {s s' : LoS} {x : cT}
theorem il_start(hl:mE NT l [] []= .ok (fin,R))(hd:lL l 0=some 1)(hb:s.bufs.length≤1024)(hs:s.steps.length≤1024):jB N NT l R fin (qY N l R [] s) 0 [] s:=
 ⟨rfl,hl,hd,fun v hv=>(by cases hv),Nat.le_refl _,hb,hs⟩
theorem stV_wf(h: ∀v∈hv,WfT v.ty.t): ∀t∈gI (stV hv),WfT t:=fun t ht=>by
 obtain⟨v,hv',rfl⟩:=List.mem_map.1 ht;obtain⟨w,hw,rfl⟩:=List.mem_map.1 (List.mem_reverse.1 hv');exact h w hw
theorem typs_wf(h: ∀t∈gI (stV hv),WfT t): ∀v∈hv,WfT v.ty.t:=fun v hm=>h _ (List.mem_map.2 ⟨v.v,List.mem_reverse.2 (List.mem_map_of_mem hm),rfl⟩)
theorem bPk:(gI (stV hv)).length=hv.length:=by simp [xO]
theorem jB.at(h:jB N NT l R fin r j hv s)(hx:l[j]?=some x):
  (dG x≤hv.length∧1≤x.how∧x.how≤7∧(x.how=1→x.nums≠[]∧x.nums.length≤65536))∧(dB NT x (gI (stV hv))).2=0∧R[j]?=some (dB NT x (gI (stV hv))).1∧
  R.drop j=(dB NT x (gI (stV hv))).1::R.drop (j+1)∧mE NT (l.drop (j+1)) ((dB NT x (gI (stV hv))).1::(gI (stV hv)).drop (dG x)) (R.take (j+1))= .ok (fin,R)∧lL (l.drop (j+1)) (hv.length-dG x+1)=some 1:=by
 have ht:=h.ty;have hd:=h.dep;rw [gE hx] at ht hd;obtain⟨d1,d2⟩:=depth_at hd;obtain⟨y,hy,hyl⟩:=bKi ht;have hR:R=R.take j++y:=hy
 have hj:(R.take j).length=j:=by
  have:=congrArg List.length hR;rw [List.length_append,hyl,List.length_take,List.length_cons] at this;rw [List.length_take];omega
 obtain⟨h1,h2,h3⟩:=lineT_at ht;rw [hj] at h2;have h2:R.drop j=(dB NT x (gI (stV hv))).1::R.drop (j+1):=h2
 have h4:R[j]?=some (dB NT x (gI (stV hv))).1:=by
  have:(R.drop j)[0]?=some (dB NT x (gI (stV hv))).1:=by rw [h2];rfl
  rwa [List.getElem?_drop,Nat.add_zero] at this
 refine⟨d1,h1,h4,h2,?_,d2⟩;obtain⟨hi,e⟩:=List.getElem?_eq_some_iff.1 h4;rw [List.take_succ_eq_append_getElem hi,e];exact h3
theorem jB.tyw(h:jB N NT l R fin r j hv s)(hW:nC NT)(hx:l[j]?=some x):WfT (dB NT x (gI (stV hv))).1:=by
 obtain⟨⟨d1,d2,d3,d4⟩,h1,_⟩:=h.at hx;exact item_wf hW (stV_wf h.wf) (by rw [bPk];exact d1) (fun e=>(d4 e).1) ⟨d2,d3⟩ h1
theorem jB.err(h:jB N NT l R fin r j hv s)(hx:l[j]?=some x){t:TyP}(ht:R[j]?=some t){e:Int}(hr:iJ N x t (stV hv) s= .error e):r= .error (x.at_,e):=by
 rw [h.run,gE hx,gE ht,qY];simp only [List.headD_cons];rw [hr]
theorem jB.step(h:jB N NT l R fin r j hv s)(hN:zG N NT)(hW:nC NT)(hx:l[j]?=some x)(hp:x.how=2→rE x.name){t:TyP}(ht:R[j]?=some t)(hr:iJ N x t (stV hv) s= .ok (stV hv',s')):jB N NT l R fin r (j+1) hv' s':=by
 obtain⟨⟨d1,d2,d3,d4⟩,h1,h2,h3,h4,h5⟩:=h.at hx;have et:t=(dB NT x (gI (stV hv))).1:=by rw [h2] at ht;injection ht with ht;exact ht.symm
 subst et;have hs:=bVy hN hp (by rw [xO];exact d1) ⟨d2,d3⟩ h1 hr;have hs:gI (stV hv')=(dB NT x (gI (stV hv))).1::(gI (stV hv)).drop (dG x):=hs
 have hl:hv'.length=hv.length-dG x+1:=by
  have:=congrArg List.length hs;rw [bPk,List.length_cons,List.length_drop,bPk] at this;exact this
 have hf:=bWr hr h.fb h.fs;refine⟨?_,by rw [hs];exact h4,by rw [hl];exact h5,typs_wf fun q hq=>?_,by have:=h.len;omega,hf.1,hf.2⟩
 ·rw [h.run,gE hx,h3,qY];simp only [List.headD_cons,List.tail_cons];rw [hr]
 ·rw [hs] at hq
  rcases List.mem_cons.1 hq with rfl | hq
  ·exact h.tyw hW hx
  ·exact stV_wf h.wf q (List.mem_of_mem_drop hq)
theorem jB.last(h:jB N NT l R fin r j hv s)(hj:l.length≤j): ∃a,hv=[a]∧r= .ok ([a.v],s)∧fin=[a.v.t]∧WfT a.ty.t:=by
 have h2:=h.dep;have h3:=h.ty;rw [List.drop_of_length_le hj] at h2 h3;rw [lL] at h2;injection h2 with h2
 match hv,h2,h with
 | [a],_,h=>
  refine⟨a,rfl,?_,?_,h.wf a (List.mem_cons_self ..)⟩
  ·rw [h.run,List.drop_of_length_le hj];rfl
  ·rw [mE] at h3;injection h3 with h3
   injection h3 with h3 _
   exact h3.symm
theorem jB.val(h:jB N NT l R fin r j hv s)(hN:zG N NT)(hx:l[j]?=some x)(hp:x.how=2→rE x.name){t:TyV}(ht:R[j]?=some t.t)(k:x.how=2)(hl:uV x.name N=none):0<t.values.list.length:=by
 obtain⟨_,h1,h2,_⟩:=h.at hx;rw [ht] at h2;injection h2 with h2
 have:=name_val hN (hp k) k h1 hl;rw [←h2] at this
 rwa [show t.t.values.length=t.values.list.length from bF _] at this
theorem jB.part(h:jB N NT l R fin r j hv s)(hx:l[j]?=some x){b:ValV}(hb:hv[hv.length-2]?=some b)(k:x.how=4)(hf:x.fn=38∨x.fn=39):0<b.ty.values.list.length:=by
 obtain⟨⟨d1,_⟩,h1,_⟩:=h.at hx;have h2:2≤hv.length:=by rw [qB (.inl k)] at d1;exact d1
 have e:(gI (stV hv)).tail.headD default=b.ty.t:=by
  have:=bFx hb h2
  match hs:stV hv with
  | []=>have:=congrArg List.length hs;rw [xO] at this;simp only [List.length_nil] at this;omega
  | [_]=>have:=congrArg List.length hs;rw [xO] at this;simp only [List.length_nil,List.length_cons] at this;omega
  | _::c::_=>
   rw [hs] at this;have hc:c=b.v:=by simpa using this
   subst hc;rfl
 have:=part_val (by rw [e];exact h.wf b (j4 hb)) k hf h1;rw [e] at this
 rwa [show b.ty.t.values.length=b.ty.values.list.length from bF _] at this
end
structure nK (ls:List mT) (Rs:List (List TyP)) (r:Except Flt (LoS×List Int)) (i:Nat) (kv:KVS) (NV:lG) (NT:dT) (s:LoS) (o:List Int):Prop where
 nr:bCz kv NV
 sy:zG (oT NV) NT
 nw:nC NT
 run:r=lO (oT NV) (ls.drop i) (Rs.drop i) s o
 ty:kS NT (ls.drop i) (Rs.take i)=(Rs,(0,0))
 fb:s.bufs.length≤1024
 fs:s.steps.length≤1024
 len:o.length=i
section
variable {ls : List mT} {Rs : List (List TyP)} {r : Except Flt (LoS × List Int)} {i : Nat} {kv : KVS} {NV : lG} {NT : dT} {s s' : LoS} {o : List Int} {l : mT}
theorem nK.at(h:nK ls Rs r i kv NV NT s o)(hx:ls[i]?=some l): ∃fin R,Rs[i]?=some R∧mE NT l.items [] []= .ok (fin,R)∧kS ((jL++l.name,fin.getLastD default)::NT) (ls.drop (i+1)) (Rs.take (i+1))=(Rs,(0,0)):=by
 have ht:=h.ty;rw [gE hx,kS] at ht
 cases e:mE NT l.items [] [] with
 | error f=>
  rw [e] at ht;have:=bDo e;injection ht with _ h2
  have h2:f=(0,0):=h2;rw [h2] at this;exact absurd rfl this
 | ok q=>
  obtain⟨fin,R⟩:=q;rw [e] at ht;have ht:kS ((jL++l.name,fin.getLastD default)::NT) (ls.drop (i+1)) (Rs.take i++[R])=(Rs,(0,0)):=ht;obtain⟨⟨z,hz⟩,hl⟩:=bEy ht
  have hi:(Rs.take i).length=i:=by
   rw [List.length_append,List.length_take,List.length_singleton] at hl;rw [List.length_take];omega
  have hg:Rs[i]?=some R:=by
   have:(Rs.take i++[R]++z)[i]?=some R:=by
    rw [List.append_assoc,List.getElem?_append_right n7,hi];simp
   rwa [hz] at this
  refine⟨fin,R,hg,rfl,?_⟩;obtain⟨hi2,e2⟩:=List.getElem?_eq_some_iff.1 hg;rw [List.take_succ_eq_append_getElem hi2,e2];exact ht
theorem nK.err(h:nK ls Rs r i kv NV NT s o)(hx:ls[i]?=some l){R:List TyP}(hR:Rs[i]?=some R){f:Flt}(hf:qY (oT NV) l.items R [] s= .error f):r= .error f:=by
 rw [h.run,gE hx,gE hR,lO];simp only [List.headD_cons];rw [hf]
theorem nK.step(h:nK ls Rs r i kv NV NT s o)(hx:ls[i]?=some l){fin R:List TyP}(hR:Rs[i]?=some R)(hT:kS ((jL++l.name,fin.getLastD default)::NT) (ls.drop (i+1)) (Rs.take (i+1))=(Rs,(0,0))){a:ValV}(hf:qY (oT NV) l.items R [] s= .ok ([a.v],s'))(hfin:fin=[a.v.t])(ha:WfT a.ty.t)(fb:s'.bufs.length≤1024)(fs:s'.steps.length≤1024):
  nK ls Rs r (i+1) (nG l.name (valC a) kv) ((l.name,a)::NV) ((jL++l.name,a.v.t)::NT) s' (o++[a.buf]):=by
 subst hfin;refine⟨nrL_add h.nr _ a,sync_add h.sy l.name a.v,fun p hp=>?_,?_,hT,fb,fs,by rw [List.length_append,h.len];rfl⟩
 ·rcases List.mem_cons.1 hp with rfl | hp
  ·exact ha
  ·exact h.nw p hp
 ·rw [h.run,gE hx,gE hR,lO];simp only [List.headD_cons,List.tail_cons];rw [hf];rfl
theorem nK.fin(h:nK ls Rs r i kv NV NT s o)(hi:ls.length≤i):r= .ok (s,o):=by
 rw [h.run,List.drop_of_length_le hi];rfl
end
structure bAu (p:gN) (i:Nat) (kv:KVS) (NV:lG) (bl:List BufV):Prop where
 nr:bCz kv NV
 run:zT (cJ p) 0 p.inputs []=zT (cJ p) i (p.inputs.drop i) (oT NV)
 bufs:rB (cJ p) 0 p.inputs=iM bl++rB (cJ p) i (p.inputs.drop i)
 len:bl.length=i
section
variable {p : gN} {i : Nat} {kv : KVS} {NV : lG} {bl : List BufV} {x : gM}
theorem ilA_start(p:gN):bAu p 0 [] [] []:=⟨nrL_start,rfl,rfl,rfl⟩
theorem bAu.step(h:bAu p i kv NV bl)(hx:p.inputs[i]?=some x){a:ValV}{b:BufV}(ha:a.v=⟨inT (cJ p) x,(i:Nat)⟩)(hb:b.c=⟨(inT (cJ p) x).sides,(i:Nat)⟩):bAu p (i+1) (nG x.name (valC a) kv) ((x.name,a)::NV) (bl++[b]):=by
 refine⟨nrL_add h.nr _ a,?_,?_,by rw [List.length_append,h.len];rfl⟩
 ·rw [h.run,gE hx,zT,←ha];rfl
 ·rw [h.bufs,gE hx,rB,←hb];unfold iM;rw [List.map_append,List.append_assoc];rfl
theorem bAu.fin(h:bAu p i kv NV bl)(hi:p.inputs.length≤i):zT (cJ p) 0 p.inputs []=oT NV∧rB (cJ p) 0 p.inputs=iM bl:=by
 refine⟨?_,?_⟩
 ·rw [h.run,List.drop_of_length_le hi];rfl
 ·rw [h.bufs,List.drop_of_length_le hi];exact List.append_nil _
theorem lines_start(hrt:(cV p).2=true)(h:bAu p i kv NV bl)(hi:p.inputs.length≤i)(hb:bl.length≤1024){Rs:List (List TyP)}(hT:kS (pM p) p.lines []=(Rs,(0,0))):
  nK p.lines Rs (lO (zT (cJ p) 0 p.inputs []) p.lines Rs ⟨rB (cJ p) 0 p.inputs,[]⟩ []) 0 kv NV (pM p) ⟨iM bl,[]⟩ []:=by
 obtain⟨e1,e2⟩:=h.fin hi;refine⟨h.nr,?_,bSi hrt,by rw [e1,e2];rfl,hT,by rw [cR];exact hb,Nat.zero_le _,rfl⟩;rw [←e1];exact bOw (bBc hrt).2
theorem low_types(h:(fI p).2≠(0,0)):gT p=(noCore,(fI p).2):=if_pos h
theorem low_bad(h:(fI p).2=(0,0)){f:Flt}(hf:lO (zT (cJ p) 0 p.inputs []) p.lines (fI p).1 ⟨rB (cJ p) 0 p.inputs,[]⟩ []= .error f):gT p=(noCore,f):=by
 unfold gT;rw [if_neg (fun k=>k h),hf]
theorem low_ok(h:(fI p).2=(0,0)){s:LoS}{o:List Int}(hf:lO (zT (cJ p) 0 p.inputs []) p.lines (fI p).1 ⟨rB (cJ p) 0 p.inputs,[]⟩ []= .ok (s,o)):gT p=(⟨(cJ p).length,s.bufs,s.steps,o⟩,(0,0)):=by
 unfold gT;rw [if_neg (fun k=>k h),hf]
theorem types_right(h:(fI p).2=(0,0)):(cV p).2=true:=by
 cases e:(cV p).2 with
 | true=>rfl
 | false=>
  rw [show fI p=([],(0,50)) from if_pos e] at h;cases h
end
theorem iintInfo: ∃i:TypeInfo,prog.info? 3=some i∧i.zero=some (.int .i64 0)∧i.size=1∧i.bytes=8:=by
 have h:(prog.info? 3).map (fun i=>(i.zero,i.size,i.bytes))=some (some (.int .i64 0),1,8):=n9
 cases hi:prog.info? 3 with
 | none=>simp [hi] at h
 | some i=>simp [hi] at h;exact⟨i,rfl,h.1,h.2.1,h.2.2⟩
theorem at_one_iint{β:dF}{n:Nat}{Γ:Env}{H:List bH}{F:List Fact}{Q:Exit→Act→World→Prop}{ops:Array Oper}{rest:List Oper}{o:Oper}{d:Nat}{x:Operand}{m:Int}(hw:want ops Γ o=some true)(ho:o.op= .buildSlice 29 1 #[(0,x)])(hd:o.dst=some d)(hn:Nat.blt d n=true)
  (hx:Γ.ev x=some (.int .i64 m)) (k: ∀b,At β n ((d,.slice (some ⟨b,0,none⟩) 1 1)::Γ) (.obj b (.cells (sZ.all [m]).toArray 3)::H) F (wpList prog ops Q rest)):At β n Γ H F (wpList prog ops Q (o::rest)):=by
 obtain⟨i,hi,hz,hs,_⟩:=iintInfo;refine gG hw ho hd hn hx underlying29 hi hz n7 n7 ?_ k;rw [hs]
 kernel_rfl
theorem at_app_iint{β:dF}{n:Nat}{Γ:Env}{H:List bH}{F:List Fact}{Q:Exit→Act→World→Prop}{ops:Array Oper}{rest:List Oper}{o:Oper}{d:Nat}{x y:Operand}{c q:Nat}{v:Value}{A:Option Addr}{xs ys:List Int}{H':List bH}(hH:cD H (sZ.row v 3 xs) H')(hr:dQ β H F sZ A ys)(hg:o.guard=none)
  (ho:o.op= .call {callee:= .builtin .append,args:= #[x,y],argTypes:= #[29,29]}) (hd:o.dst=some d) (hn:Nat.blt d n=true)
  (hx:Γ.ev x=some v) (hy:Γ.ev y=some (.slice A q c)) (hq:q=ys.length) (hl:xs.length+ys.length≤17592186044416)
  (k: ∀A' cap',At β n ((d,.slice A' (xs++ys).length cap')::Γ) (sZ.row (.slice A' (xs++ys).length cap') 3 (xs++ys)::H') F (wpList prog ops Q rest)):At β n Γ H F (wpList prog ops Q (o::rest)):=by
 obtain⟨i,hi,hz,hs,hb⟩:=iintInfo;exact dK hH hr hg ho hd hn underlying29 hi hz hs hb rfl hx hy hq n7 o9 k
theorem mk_built(v:Int)(m:Nat):prog.built 74 [(0,.agg #[.int .i64 v,.slice none 0 0,.slice none 0 0,.slice none 0 0]),(1,.map (some m))]=some #[.int .i64 v,.slice none 0 0,.slice none 0 0,.slice none 0 0,.map (some m)]:=n9
theorem inT_wf{vars:List Bs}{x:gM}(h:x.sides.length≤4):WfT (inT vars x):=bMz (l:=[x]) (N:=[]) (fun y hy=>by rw [List.mem_singleton.1 hy];exact h) (fun q hq=>by cases hq) (nIn++x.name,inT vars x) (List.mem_singleton.2 rfl)
theorem rows_at{xs:List (Sl TyV)}{Rs:List (List TyP)}(h:xs.map rowT=Rs){i:Nat}{R:List TyP}(hR:Rs[i]?=some R): ∃X,xs[i]?=some X∧rowT X=R:=by
 subst h;rw [List.getElem?_map] at hR
 cases e:xs[i]? with
 | none=>rw [e] at hR;cases hR
 | some X=>rw [e] at hR;cases hR;exact⟨X,rfl,rfl⟩
theorem row_at{X:Sl TyV}{R:List TyP}(h:rowT X=R){j:Nat}{t:TyP}(ht:R[j]?=some t): ∃y,X.list[j]?=some y∧y.t=t:=by
 subst h;have ht:(X.list.map TyV.t)[j]?=some t:=ht;rw [List.getElem?_map] at ht
 cases e:X.list[j]? with
 | none=>rw [e] at ht;cases ht
 | some y=>rw [e] at ht;cases ht;exact⟨y,rfl,rfl⟩
theorem errI_bad{r:Except Int (List iA×LoS)}(h:bTt r≠0):r= .error (bTt r):=by
 cases r with
 | ok _=>exact absurd rfl h
 | error e=>rfl
theorem errI_ok{N:iI}{it:cT}{t:TyP}{st:List iA}{s:LoS}(h:bTt (iJ N it t st s)=0): ∃y,iJ N it t st s= .ok y:=by
 cases e:iJ N it t st s with
 | ok y=>exact⟨y,rfl⟩
 | error k=>
  rw [e] at h;have h:k=0:=h;have:=item_bad e;omega
abbrev noCoreV:CoreV:=⟨0,⟨none,0,[]⟩,⟨none,0,[]⟩,⟨none,0,[]⟩⟩
abbrev coreC(x:CoreV):Value:= .agg #[.int .i64 x.vars,.slice x.bufs.addr x.bufs.list.length x.bufs.cap,.slice x.steps.addr x.steps.list.length x.steps.cap,.slice x.outs.addr x.outs.list.length x.outs.cap]
section
variable {F : List Fact} {A B C : Option Addr} {a b c : Nat} {bl : List BufV} {sq : List StepV} {ob : List Int} {v : Int}
theorem coreF_mk(h1:Has F (bBl.sl (.slice A bl.length a) bl))(h2:Has F (Fact.each bl bHu))(h3:Has F (mJ.sl (.slice B sq.length b) sq))(h4:Has F (Fact.each sq fZ))(h5:Has F (sZ.sl (.slice C ob.length c) ob))(c1:bl.length≤a)(c2:sq.length≤b)(c3:ob.length≤c)
  (l1:bl.length≤1024) (l2:sq.length≤1024) (l3:ob.length≤1024):Has F (bRo ⟨v,⟨A,a,bl⟩,⟨B,b,sq⟩,⟨C,c,ob⟩⟩):=
 Has.and (Has.and (Has.and h1 h2) (j3 ⟨c1,by dsimp only;omega⟩)) (Has.and (Has.and (Has.and h3 h4) (j3 ⟨c2,by dsimp only;omega⟩)) (Has.and h5 (j3 ⟨c3,by dsimp only;omega⟩)))
theorem bOj:Has F (bRo noCoreV):=coreF_mk qN Has.each_nil qN Has.each_nil qN (Nat.le_refl _) (Nat.le_refl _) (Nat.le_refl _) (Nat.zero_le _) (Nat.zero_le _) (Nat.zero_le _)
end
theorem bDu:(prog.info? 31).bind (·.zero)=some (.agg #[.int .i64 0,.slice none 0 0,.slice none 0 0,.slice none 0 0]):=n9
theorem qX:prog.built 31 []=some #[.int .i64 0,.slice none 0 0,.slice none 0 0,.slice none 0 0]:=n9
theorem xL(z0:Int):prog.built 31 [(0,.int .i64 z0)]=some #[.int .i64 z0,.slice none 0 0,.slice none 0 0,.slice none 0 0]:=n9
set_option maxHeartbeats 1000000 in
theorem bKb(P:ProgV)(hP:uN P)(hl1:P.inputs.list.length≤140737488355328)(hl2:P.lines.list.length≤140737488355328):cM prog 8 [.agg #[.slice P.inputs.addr P.inputs.list.length P.inputs.cap,.slice P.lines.addr P.lines.list.length P.lines.cap]] [] [iW,kR.sl (.slice P.inputs.addr P.inputs.list.length P.inputs.cap) P.inputs.list,jE P.inputs.list,pV.sl (.slice P.lines.addr P.lines.list.length P.lines.cap) P.lines.list,nE P.lines.list] (fun(x:CoreV)=> .tuple #[coreC x,.agg #[.int .i64 (gT P.pr).2.1,.int .i64 (gT P.pr).2.2]]) (fun _=>[]) (fun(x:CoreV)=>[bRo x,Fact.pure (x.c=(gT P.pr).1)]):=by
 have hT:=iC;refine k6 func8 ntmps8 ?_;intro β hM;refine g2 ?_;refine j9 fun b1=>?_;refine j6 bDu fun b2=>?_;refine j6 bFo fun b3=>?_;refine g5 ?_;refine j5 func9 (types_spec P hP hl1 hl2) ⟨d7,d8,d9,e6,e7,j0⟩ fun⟨RA,rc,xs⟩=>?_;refine bC d9 fun hxs=>?_;refine g3 ?_;refine j6 bFo fun b4=>?_;refine g8 ?_;refine ss (k7 (bAb)) ?_;refine ss (gC ⟨(fI P.pr).2.1,(fI P.pr).2.2⟩ ⟨0,0⟩ rfl rfl rfl) ?_;refine g2 ?_;refine jJ (fun hc29=>?_) fun hc29=>?_
 ·refine cO ?_;have hty:=flt_not (by assumption:pB ⟨(fI P.pr).2.1,(fI P.pr).2.2⟩ ⟨0,0⟩=false);refine bU _ _ [(true,0),(true,1),(false,2),(false,3)] bV o5 (.c0 (.c2 .nil)) bA.self ?_;refine stM rfl (k7 (qX)) ?_;refine g11 ?_;have hr:=low_types hty;rw [hr];exact rs2 noCoreV ⟨bOj,j3 rfl,j0⟩
 refine g3 ?_;have hty:=flt_of (by assumption:pB ⟨(fI P.pr).2.1,(fI P.pr).2.2⟩ ⟨0,0⟩=true);have hrt:=types_right hty;have hrt:(cV P.pr).2=true:=by assumption
 have hfine:=vB hrt;have hs: ∀x∈P.inputs.list,x.sides.list.length≤4:=fun x hx=>by have h1:=(hfine.input x.inp (vC hx)).2.1;have h2:x.inp.sides.length=x.sides.list.length:=List.length_map _;omega
 have hTT:=xW hrt;have hpl:P.pr.inputs.length=P.inputs.list.length:=List.length_map _;refine g2 ?_;refine j5 func15 (bJv P hl1 (fun x hx=>Nat.le_trans (hs x hx) o9) n7) ⟨e7,e8,j0⟩ fun⟨V,cv⟩=>?_;have hvl:(cJ P.pr).length≤256:=Nat.le_trans (vars_le P.pr) hTT;refine g7 ?_;refine ss (k7 (xL _)) ?_;refine bAf rfl rfl rfl rfl fun r5=>?_;refine ss (k7 (mk_built _ _)) ?_;refine j9 fun b6=>?_;refine g5 ?_;refine cK (t:=45) bBl<|cK (t:=65) mJ<|cK (t:=3) sZ<|bB (yF []) (Has.each_nil)<|bB (Fact.each ([]:List BufV) bHu) (Has.each_nil)<|bB (Fact.each ([]:List StepV) fZ) (Has.each_nil) ?_;refine g8 ?_;refine cB (ι:=Nat×KVS×lG×List BufV×Option Addr×Nat) [(1,_),(2,_),(3,_),(4,_),(6,_),(7,_),(41,_),(42,_)] ⟨rfl,rfl,rfl,rfl,rfl,rfl,rfl,rfl,j0⟩ (fun⟨i,kv,NV,bl,BA,bc⟩=>[(43,.int .i64 (i:Nat))]) (fun⟨i,kv,NV,bl,BA,bc⟩=>[mO b6 r5 ((cJ P.pr).length:Nat) (.slice BA bl.length bc) (.slice none ([]:List StepV).length 0) (.slice none ([]:List Int).length 0),bBl.row (.slice BA bl.length bc) 45 bl,qS r5 kv]) (fun⟨i,kv,NV,bl,BA,bc⟩=>[Fact.pure (i≤P.inputs.list.length∧bAu P.pr i kv NV bl),yF NV,Fact.each bl bHu]) (fun⟨i,kv,NV,bl,BA,bc⟩=>P.inputs.list.length-i) (0,[],[],[],none,0) ⟨rfl,j0⟩ (.c3 (.c2 (.c2 .nil))) ⟨j3 (⟨n7,ilA_start _⟩),d9,d8,j0⟩ ?_;rintro⟨i,kv,NV,bl,BA,bc⟩;dsimp only;refine bC d7 fun hinv7=>?_;have hbl:=hinv7.2.len;have h64:=hfine.ins;refine g6 ?_;refine dJ (fun hc44=>?_) fun hc44=>?_
 ·refine g7 ?_;obtain⟨x7,hx8⟩:=gx P.inputs.list i;refine ss (ixs i) ?_;refine ss (lS hx8 0) ?_;refine j6 lD fun b9=>?_;refine g5 ?_;have hx0:P.pr.inputs[i]?=some x7.inp:=sT hx8;have hxs:=hs x7 (j4 hx8);refine bB (sM x7) (Has.each i7 (j4 hx8)) ?_;have hxn:=(hfine.input x7.inp (vC (j4 hx8))).1;have hxs4:x7.sides.list.length≤4:=hs x7 (j4 hx8);have hxn:x7.name.length≤16:=hxn;refine one ?_;refine j6 qV fun b10=>?_;refine g12 ?_;refine cK (t:=47) bS<|bB (cQ []) (Has.each_nil) ?_;refine cB (ι:=Nat×List PolV×Option Addr×Nat) [(1,_),(2,_),(3,_),(4,_),(6,_),(7,_),(8,_),(9,_),(10,_),(41,_),(42,_),(43,_),(49,_),(50,_)] ⟨rfl,rfl,rfl,rfl,rfl,rfl,rfl,rfl,rfl,rfl,rfl,rfl,rfl,rfl,j0⟩ (fun⟨j,vs,V2,cv2⟩=>[(51,.int .i64 (j:Nat))]) (fun⟨j,vs,V2,cv2⟩=>[.obj b10 (.cells [.slice V2 vs.length cv2,.bool false,.slice none 0 0].toArray 43),bS.row (.slice V2 vs.length cv2) 47 vs]) (fun⟨j,vs,V2,cv2⟩=>[Fact.pure (j≤x7.sides.list.length∧SdAt (cJ P.pr) x7.sides.list vs j),cQ vs]) (fun⟨j,vs,V2,cv2⟩=>x7.sides.list.length-j) (0,[],none,0) ⟨rfl,j0⟩ (.c1 (.c0 .nil)) ⟨j3 (⟨n7,bVf _ _⟩),d7,j0⟩ ?_;rintro⟨j,vs,V2,cv2⟩;dsimp only;refine bC d7 fun hinv11=>?_;have hvl2:=sdT_len hinv11.2 hinv11.1;refine g6 ?_;refine dJ (fun hc52=>?_) fun hc52=>?_
  ·refine g6 ?_;obtain⟨x11,hx12⟩:=gx x7.sides.list j;refine ss (ixs j) ?_;refine ss (lS hx12 0) ?_;refine j6 yN fun b13=>?_;refine g7 ?_;refine j5 func16 (zE (x11.n)) j0 fun⟨A14,c15⟩=>?_;refine g9 ?_;refine bD func17 (vJ _ _ _ n7 x11.name) rfl rfl .nil ⟨f9,j0⟩ fun _=>?_;refine g9 ?_;refine bQy (fun hc63=>?_) fun hc63=>?_
   ·refine g2 ?_;refine j5 func18 (bRp ((gF x11.name (cJ P.pr) 0))) j0 fun⟨A16,c17⟩=>?_;refine g10 ?_;refine dA (m:=⟨A16,c17,(rC ((gF x11.name (cJ P.pr) 0))).1⟩) rfl rfl rfl rfl rfl fun b18=>?_;refine bB (cQ (vs++[(⟨A16,c17,(rC ((gF x11.name (cJ P.pr) 0))).1⟩:PolV)])) (Has.each_snoc e6 d7) ?_;refine fM kT3 (bW .head rfl) rfl rfl rfl rfl rfl rfl rfl q8 fun A19 c20=>?_;refine g7 ?_;refine inc (j+1) ?_;refine g3 ?_;exact bk2 (j+1,vs++[(⟨A16,c17,(rC ((gF x11.name (cJ P.pr) 0))).1⟩:PolV)],A19,c20) ⟨j3 (⟨by dsimp only;omega,bIj hinv11.2 hx12 ((if_pos ‹_›).symm)⟩),d7,j0⟩
   refine g6 ?_;refine dA (m:=(⟨A14,c15,bT (x11.n)⟩:PolV)) rfl rfl rfl rfl rfl fun b21=>?_;refine bB (cQ (vs++[((⟨A14,c15,bT (x11.n)⟩:PolV):PolV)])) (Has.each_snoc d9 d7) ?_;refine fM kT3 (bW .head rfl) rfl rfl rfl rfl rfl rfl rfl q8 fun A22 c23=>?_;refine g7 ?_;refine inc (j+1) ?_;refine g3 ?_;exact bk2 (j+1,vs++[((⟨A14,c15,bT (x11.n)⟩:PolV):PolV)],A22,c23) ⟨j3 (⟨by dsimp only;omega,bIj hinv11.2 hx12 ((if_neg (show ¬(0:Int)≤gF x11.name (cJ P.pr) 0 by omega)).symm)⟩),d7,j0⟩
  refine g6 ?_;refine bX kT1 fun hc_out=>bE kT1 ?_;have hsd:(⟨⟨V2,cv2,vs⟩,false,⟨none,0,[]⟩⟩:TyV).t=inT (cJ P.pr) x7.inp:=sdT_end hinv11.2 n7;have hsm:mP vs:=qE (t:=(⟨⟨V2,cv2,vs⟩,false,⟨none,0,[]⟩⟩:TyV)) (by rw [hsd];exact inT_wf (hfine.input x7.inp (vC (j4 hx8))).2.1);refine bB (listF (⟨V2,cv2,vs⟩:Sl PolV)) (cH d7 d9 hc_out)<|bB (yF ((x7.name,(⟨(⟨⟨V2,cv2,vs⟩,false,⟨none,0,[]⟩⟩:TyV),(i:Nat)⟩:ValV))::NV)) (Has.each_cons (bZ d7 cL) f3) ?_;refine bU _ _ [(true,0),(true,1),(true,2),(true,3),(true,4),(true,5),(true,6),(true,7),(true,8),(false,9)] bV o5 (.c0 (.c0 (.c0 (.c0 (.c1 (.c1 (.c1 (.c1 (.c1 (.c1 .nil)))))))))) bA.self ?_;refine g8 ?_;refine stM rfl (k7 (uY _ _ _ _)) ?_;refine one ?_;refine lN kT4 rfl (.inl rfl) rfl mapL underlying9 rfl rfl rfl ?_;refine g3 ?_;refine lC 16 _ _ [(true,0),(true,1),(true,2),(true,3),(true,4),(true,5),(true,6),(true,7),(true,9),(false,8),(true,10),(false,11),(false,12),(true,13),(true,14),(true,15)] bV o5 (.c0 (.c0 (.c0 (.c0 (.c1 (.c1 (.c1 (.c1 (.c1 (.c1 .nil)))))))))) bA.self ?_;refine g10 ?_;refine j5 func19 (bJi (⟨V2,cv2,vs⟩:Sl PolV) hsm) ⟨d8,j0⟩ fun lp24=>?_;refine bC d8 fun hlp=>?_;refine one ?_;refine stL rfl (k7 (wT _ _ _ _)) ?_;refine one ?_;refine bOv (m:=(⟨lp24,(i:Nat)⟩:BufV)) rfl rfl rfl rfl rfl fun b25=>?_;refine g2 ?_;refine bSp kT5 (bW .head rfl) rfl rfl rfl rfl rfl rfl rfl q8 fun A26 c27=>?_;refine bB (Fact.each (bl++[(⟨lp24,(i:Nat)⟩:BufV)]) bHu) (Has.each_snoc f9 d7) ?_;refine g11 ?_;refine inc (i+1) ?_;refine g3 ?_;exact bk2 (i+1,_,(x7.name,(⟨(⟨⟨V2,cv2,vs⟩,false,⟨none,0,[]⟩⟩:TyV),(i:Nat)⟩:ValV))::NV,bl++[(⟨lp24,(i:Nat)⟩:BufV)],A26,c27) ⟨j3 (⟨by dsimp only;omega,hinv7.2.step hx0 (congrArg (fun t=>(⟨t,(i:Nat)⟩:iA)) hsd) (congrArg (fun l=>(⟨l,(i:Nat)⟩:rG)) (hlp.trans (congrArg TyP.sides hsd)))⟩),e6,d7,j0⟩
 refine g7 ?_;have htg:kS (pM P.pr) P.pr.lines []=((fI P.pr).1,(0,0)):=(bXx hty).symm.trans (Prod.ext rfl hty);have hLs:=lines_start hrt hinv7.2 n7 (by have h64:=hfine.ins;omega) htg;generalize hr0:lO (zT (cJ P.pr) 0 P.pr.inputs []) P.pr.lines (fI P.pr).1 ⟨rB (cJ P.pr) 0 P.pr.inputs,[]⟩ []=r0 at hLs;have hpl2:P.pr.lines.length=P.lines.list.length:=List.length_map _;have hdep:=bBk hrt;have hnames:=(bBc hrt).1;refine g8 ?_;refine cB (ι:=Nat×KVS×lG×dT×List BufV×Option Addr×Nat×List StepV×Option Addr×Nat×List Int×Option Addr×Nat) [(2,_),(3,_),(4,_),(7,_),(103,_),(104,_)] ⟨rfl,rfl,rfl,rfl,rfl,rfl,j0⟩ (fun⟨i,kv,NV,NT,bl,BA,bc,sq,SA,sc,ob,OA,oc⟩=>[(105,.int .i64 (i:Nat))]) (fun⟨i,kv,NV,NT,bl,BA,bc,sq,SA,sc,ob,OA,oc⟩=>[mO b6 r5 ((cJ P.pr).length:Nat) (.slice BA bl.length bc) (.slice SA sq.length sc) (.slice OA ob.length oc),bBl.row (.slice BA bl.length bc) 45 bl,mJ.row (.slice SA sq.length sc) 65 sq,sZ.row (.slice OA ob.length oc) 3 ob,qS r5 kv]) (fun⟨i,kv,NV,NT,bl,BA,bc,sq,SA,sc,ob,OA,oc⟩=>[Fact.pure (i≤P.lines.list.length∧nK P.pr.lines (fI P.pr).1 r0 i kv NV NT ⟨iM bl,dX sq⟩ ob),yF NV,Fact.each bl bHu,Fact.each sq fZ]) (fun⟨i,kv,NV,NT,bl,BA,bc,sq,SA,sc,ob,OA,oc⟩=>P.lines.list.length-i) (0,kv,NV,pM P.pr,bl,BA,bc,[],none,0,[],none,0) ⟨rfl,j0⟩ (.c0 (.c0 (.c2 (.c1 (.c0 .nil))))) ⟨j3 (⟨n7,hLs⟩),d8,d9,e6,j0⟩ ?_;rintro⟨i,kv,NV,NT,bl,BA,bc,sq,SA,sc,ob,OA,oc⟩;dsimp only;refine bC d7 fun hinv23=>?_;have hfb:=hinv23.2.fb;have hfs:=hinv23.2.fs;have hol:=hinv23.2.len;refine g6 ?_;refine dJ (fun hc106=>?_) fun hc106=>?_
 ·refine g7 ?_;obtain⟨x28,hx29⟩:=gx P.lines.list i;refine ss (ixs i) ?_;refine ss (lS hx29 0) ?_;refine j6 tD fun b30=>?_;refine g5 ?_;have hx0:P.pr.lines[i]?=some x28.ln:=sT hx29;have hdp:=hdep x28.ln (j4 hx0);have hnmx:=hnames x28.ln (j4 hx0);have hfl:=hfine.line x28.ln (j4 hx0);have hlnm:x28.name.length≤16:=hfl.1;have hil:=hfl.2.1;have hie:x28.ln.items.length=x28.items.list.length:=List.length_map _;obtain⟨fin,R,hRi,hTl,hTi⟩:=hinv23.2.at hx0;obtain⟨X,hX,hXR⟩:=rows_at hxs.1 hRi;have hXl:i<xs.length:=(List.getElem?_eq_some_iff.1 hX).1;refine bB (rowF X) (Has.each i7 (j4 hX))<|bB (tyE.sl (.slice X.addr X.list.length X.cap) X.list) (Has.left (Has.left d7))<|bB (Fact.each X.list tyF) (Has.right (Has.left d8))<|bB (mK.sl (.slice x28.items.addr x28.items.list.length x28.items.cap) x28.items.list) (Has.left (Has.each (Has.of (u8 (u8 mT6))) (j4 hx29)))<|bB (nY x28.items.list) (Has.right (Has.each (Has.of (u8 (u8 mT7))) (j4 hx29))) ?_;refine g14 ?_;refine cK (t:=82) bRu<|bB (Fact.each ([]:List ValV) valF) (Has.each_nil) ?_;refine cB (ι:=Nat×List BufV×Option Addr×Nat×List StepV×Option Addr×Nat×List ValV×Option Addr×Nat) [(2,_),(3,_),(4,_),(7,_),(15,_),(16,_),(103,_),(104,_),(105,_),(111,_),(112,_)] ⟨rfl,rfl,rfl,rfl,rfl,rfl,rfl,rfl,rfl,rfl,rfl,j0⟩ (fun⟨j,bl2,BA2,bc2,sq2,SA2,sc2,hv,HA,hc⟩=>[(17,.slice HA hv.length hc),(113,.int .i64 (j:Nat))]) (fun⟨j,bl2,BA2,bc2,sq2,SA2,sc2,hv,HA,hc⟩=>[mO b6 r5 ((cJ P.pr).length:Nat) (.slice BA2 bl2.length bc2) (.slice SA2 sq2.length sc2) (.slice OA ob.length oc),bBl.row (.slice BA2 bl2.length bc2) 45 bl2,mJ.row (.slice SA2 sq2.length sc2) 65 sq2,qS r5 kv,bRu.row (.slice HA hv.length hc) 82 hv]) (fun⟨j,bl2,BA2,bc2,sq2,SA2,sc2,hv,HA,hc⟩=>[Fact.pure (j≤x28.items.list.length∧jB (oT NV) NT x28.ln.items R fin (qY (oT NV) x28.ln.items R [] ⟨iM bl,dX sq⟩) j hv ⟨iM bl2,dX sq2⟩),Fact.each bl2 bHu,Fact.each sq2 fZ,Fact.each hv valF]) (fun⟨j,bl2,BA2,bc2,sq2,SA2,sc2,hv,HA,hc⟩=>x28.items.list.length-j) (0,bl,BA,bc,sq,SA,sc,[],none,0) ⟨rfl,rfl,j0⟩ (.c2 (.c2 (.c2 (.c3 (.c0 .nil))))) ⟨j3 (⟨n7,il_start hTl hdp hfb hfs⟩),f4,f5,d7,j0⟩ ?_;rintro⟨j,bl2,BA2,bc2,sq2,SA2,sc2,hv,HA,hc⟩;dsimp only;refine bC d7 fun hinv27=>?_;have hfb2:=hinv27.2.fb;have hfs2:=hinv27.2.fs;have hvj:=hinv27.2.len;refine g6 ?_;refine dJ (fun hc114=>?_) fun hc114=>?_
  ·refine g7 ?_;obtain⟨x31,hx32⟩:=gx x28.items.list j;refine ss (ixs j) ?_;refine ss (lS hx32 0) ?_;refine j6 oG fun b33=>?_;refine g5 ?_;have hi0:x28.ln.items[j]?=some x31.it:=sT hx32;have hit:=hinv27.2.at hi0;have hitn:=(hfl.2.2 x31.it (j4 hi0)).1;obtain⟨tv,htv,htt⟩:=row_at hXR hit.2.2.1;have htl:j<X.list.length:=(List.getElem?_eq_some_iff.1 htv).1;have htj:=hit.2.2.1.trans (congrArg some htt.symm);have hwt:WfT tv.t:=by rw [htt];exact hinv27.2.tyw hinv23.2.nw hi0
   refine bB (numF x31) (Has.each e8 (j4 hx32))<|bB (tyF tv) (Has.each f4 (j4 htv)) ?_;refine bU _ _ [(true,0),(true,1),(true,2),(true,3),(true,4),(true,5),(true,6),(true,7),(true,8),(true,9),(false,10),(true,11),(true,12),(true,13),(true,14),(true,15)] bV o5 (.c0 (.c5 (.c5 (.c5 (.c5 (.c5 (.c5 .nil))))))) bA.self ?_;refine g4 ?_;refine stM rfl (ixs i) ?_;refine stM rfl (fL hX 0) ?_;refine one ?_;refine stM rfl (ixs j) ?_;refine stM rfl (lS htv 0) ?_;refine g2 ?_;refine bD func20 (itemL_spec b6 r5 ((cJ P.pr).length:Nat) BA2 bc2 bl2 SA2 sc2 sq2 (.slice OA ob.length oc) kv NV hinv23.2.nr x31 tv hwt HA hc hv hinv27.2.wf (by rw [←cR];exact hfb2) (by rw [←iG];exact hfs2) n7 hit.1.1 ⟨hit.1.2.1,hit.1.2.2.1⟩ (fun h=>(hit.1.2.2.2 h).2) (fun h=>⟨Nat.le_trans hitn o9,fun hl=>hinv27.2.val hinv23.2.sy hi0 (hnmx _ (j4 hi0)) htj h (by rw [bHz];exact congrArg (Option.map ValV.v) hl)⟩) (fun b hb h4 hf=>hinv27.2.part hi0 hb h4 hf)) rfl rfl (.c1 (.c1 (.c1 (.c1 (.c1 .nil))))) ⟨d8,d7,e6,e7,e8,i7,j0⟩ fun⟨BA3,bc3,bl3,SA3,sc3,sq3,HA3,hc3,hv3⟩=>?_;refine bC e6 fun hie3=>?_;refine g15 ?_;refine wG (fun hc133=>?_) fun hc133=>?_
   ·refine cO<|bU _ _ [(true,0),(true,1),(true,2),(true,3),(true,4),(false,5),(false,6)] bV o5 (.c0 (.c0 (.c0 (.c0 (.c0 (.c0 (.c0 (.c0 (.c0 (.c2 .nil)))))))))) bA.self ?_;refine stM rfl (k7 (qX)) ?_;refine g3 ?_;refine stM rfl (k7 (zF _ _)) ?_;refine g20 ?_;have hr:=low_bad hty (hr0.trans (hinv23.2.err hx0 hRi (hinv27.2.err hi0 htj (errI_bad ‹_›))));rw [hr];exact rs2 noCoreV ⟨bOj,j3 rfl,j0⟩
   refine g2 ?_;obtain⟨y3,hy3⟩:=errI_ok (by assumption:bTt (iJ (oT NV) x31.it tv.t (stV hv) ⟨iM bl2,dX sq2⟩)=0);have hio:=hy3.trans (congrArg Except.ok (hie3 y3 hy3));refine g8 ?_;refine inc (j+1) ?_;refine g3 ?_;exact bk2 (j+1,bl3,BA3,bc3,sq3,SA3,sc3,hv3,HA3,hc3) ⟨j3 (⟨by dsimp only;omega,hinv27.2.step hinv23.2.sy hinv23.2.nw hi0 (hnmx _ (j4 hi0)) htj hio⟩),d7,d8,d9,j0⟩
  refine g6 ?_;obtain⟨a,hva,hlr,hfin,hwa⟩:=hinv27.2.last n7;have hv0:hv[0]?=some a:=by rw [hva];rfl
  have hvl:hv.length=1:=by rw [hva];rfl
  have hfln:=hfine.lns;refine bB (valF a) (Has.each e6 (j4 hv0))<|bB (yF ((x28.name,a)::NV)) (Has.each_cons d7 i6) ?_;refine bU _ _ [(true,0),(true,1),(true,2),(true,3),(true,4),(true,5),(true,6),(true,7),(true,8),(false,9)] bV o5 (.c0 (.c0 (.c0 (.c1 (.c1 (.c1 (.c1 (.c1 (.c1 (.c1 .nil)))))))))) bA.self ?_;refine g7 ?_;refine stM rfl (ixs 0) ?_;refine stM rfl (lS hv0 0) ?_;refine one ?_;refine lN kT3 rfl (.inl rfl) rfl mapL underlying9 rfl rfl rfl ?_;refine g3 ?_;refine lC 15 _ _ [(true,0),(true,1),(true,2),(true,3),(true,4),(true,5),(true,6),(true,7),(true,8),(true,9),(false,10),(false,11),(true,12),(true,13),(true,14)] bV o5 (.c0 (.c0 (.c0 (.c0 (.c0 (.c0 (.c1 (.c1 (.c1 (.c1 .nil)))))))))) bA.self ?_;refine g7 ?_;refine stL rfl (ixs 0) ?_;refine one ?_;refine stL rfl (fL hv0 3) ?_;refine one ?_;refine at_one_iint (m:=a.buf) rfl rfl rfl rfl rfl fun b34=>?_;refine g2 ?_;refine at_app_iint (xs:=ob) (ys:=[a.buf]) kT7 (bW .head rfl) rfl rfl rfl rfl rfl rfl rfl q8 fun A35 c36=>?_;refine g11 ?_;refine inc (i+1) ?_;refine g3 ?_;exact bk2 (i+1,_,(x28.name,a)::NV,(jL++x28.name,a.v.t)::NT,bl2,BA2,bc2,sq2,SA2,sc2,ob++[a.buf],A35,c36) ⟨j3 (⟨by dsimp only;omega,hinv23.2.step hx0 hRi hTi hlr hfin hwa hinv27.2.fb hinv27.2.fs⟩),d7,e6,e7,j0⟩
 refine g11 ?_;refine ss (k7 (bAb)) ?_;refine g5 ?_;have hr:=low_ok hty (hr0.trans (hinv23.2.fin (by rw [hpl2];omega)));rw [hr];have hbL:bl.length≤1024:=by rw [←cR];exact hfb
 have hsL:sq.length≤1024:=by rw [←iG];exact hfs
 have hfln:=hfine.lns;refine bX kT3 fun hc_b=>bE kT3<|bX kT3 fun hc_s=>bE kT3<|bX kT3 fun hc_o=>bE kT3 ?_;exact rs2 (⟨((cJ P.pr).length:Nat),⟨BA,bc,bl⟩,⟨SA,sc,sq⟩,⟨OA,oc,ob⟩⟩:CoreV) ⟨coreF_mk d9 e8 d8 e9 d7 hc_b hc_s hc_o hbL hsL n7,j3 rfl,j0⟩
def s111:Bs:=[105,110,32,120,32,110,10,111,117,116,32,120,32,43,32,49]
def s112:Bs:=[105,110,32,120,32,110,10,111,117,116,32,95,49,32,116,97,107,101,32,120]
theorem p111:(kP s111).2=(0,0):=by decide+kernel
theorem p112:(kP s112).2=(0,0):=by decide+kernel
def probe (C:wY):Bool:=C.bufs.length==3&&C.steps.length==2&&C.outs==[2]&&
 (match C.steps[1]? with
 | some s=>s.ops.length==5&&(match s.ops[4]? with
  | some o=>o.how==6&&o.fn==1
  | none=>false)
 | none=>false)&&(match C.bufs[0]? with
 | some b=>b.input==0
 | none=>false)
theorem q111:(gT (kP s111).1).2=(0,0)∧probe (gT (kP s111).1).1=true:=by decide+kernel
theorem q112:(gT (kP s112).1).2=(14,93):=by decide+kernel
theorem probed{c:CoreV}(h:probe c.c=true): ∃s o b,c.bufs.list.length=3∧c.steps.list.length=2∧c.outs.list=[2]∧c.steps.list[1]?=some s∧s.ops.list.length=5∧s.ops.list[4]?=some o∧o.how=6∧o.fn=1∧c.bufs.list[0]?=some b∧b.input=0:=by
 unfold probe at h;simp only [Bool.and_eq_true,beq_iff_eq] at h;obtain⟨⟨⟨⟨h1,h2⟩,h3⟩,h4⟩,h5⟩:=h;have h1:(iM c.bufs.list).length=3:=h1;have h2:(dX c.steps.list).length=2:=h2
 have h4:(match (c.steps.list.map StepV.c)[1]? with
  | some s=>s.ops.length==5&&(match s.ops[4]? with
   | some o=>o.how==6&&o.fn==1
   | none=>false)
  | none=>false)=true:=h4
 have h5:(match (c.bufs.list.map BufV.c)[0]? with
  | some b=>b.input==0
  | none=>false)=true:=h5
 rw [List.getElem?_map] at h4 h5;rw [cR] at h1;rw [iG] at h2
 cases e:c.steps.list[1]? with
 | none=>rw [e] at h4;cases h4
 | some s=>
  rw [e] at h4
  have h4:((dW s.ops.list).length==5&&(match (s.ops.list.map OpV.c)[4]? with
   | some o=>o.how==6&&o.fn==1
   | none=>false))=true:=h4
  rw [List.getElem?_map,Bool.and_eq_true,beq_iff_eq,fU] at h4
  cases e2:s.ops.list[4]? with
  | none=>rw [e2] at h4;cases h4.2
  | some o=>
   rw [e2] at h4;have h6:(o.how==6&&o.fn==1)=true:=h4.2;rw [Bool.and_eq_true,beq_iff_eq,beq_iff_eq] at h6
   cases e3:c.bufs.list[0]? with
   | none=>rw [e3] at h5;cases h5
   | some b=>
    rw [e3] at h5;have h7:(b.input==0)=true:=h5;exact⟨s,o,b,h1,h2,h3,rfl,h4.1,e2,h6.1,h6.2,rfl,beq_iff_eq.1 h7⟩
theorem shown11_spec:cM prog 7 [] [] [iW] (fun(_:Unit)=> .bool true) (fun _=>[]) (fun _=>[]):=by
 have hT:=iC;refine k6 func7 ntmps7 ?_;intro β hM;refine g7 ?_;have psp:=bNp s111 o9;rw [p111] at psp;refine j5 func13 psp ⟨d7,j0⟩ fun X1=>?_;refine bC d8 fun hpr=>bB (kR.sl (.slice X1.inputs.addr X1.inputs.list.length X1.inputs.cap) X1.inputs.list) (Has.left (Has.left d7))<|bB (jE X1.inputs.list) (Has.right (Has.left d8))<|bB (pV.sl (.slice X1.lines.addr X1.lines.list.length X1.lines.cap) X1.lines.list) (Has.left (Has.right d9))<|bB (nE X1.lines.list) (Has.right (Has.right e6)) ?_;have hrd:=bUl p111;rw [←hpr] at hrd;have hfine:=vB hrd.1;have hok:=hfine.ok hrd.2;refine g3 ?_;refine j6 qH fun b2=>?_;refine j6 bFo fun b3=>?_;refine g7 ?_;have lsp:=bKb X1 hok.1 hok.2.1 hok.2.2;rw [hpr,(Prod.ext rfl q111.1:gT (kP s111).1=(_,_))] at lsp;refine j5 func8 lsp ⟨e9,e6,d9,d8,d7,j0⟩ fun c1=>?_;refine lX (v':= .tuple #[coreC c1,.agg #[.int .i64 0,.int .i64 0]]) rfl<|bC d8 fun hc1=>?_;obtain⟨s1,o4,b0,hb3,hs2,ho1,hs1,ho5,ho4,how,hfn,hb0,hin⟩:=probed (c:=c1) (by rw [hc1];exact q111.2);have hol:c1.outs.list.length=1:=by rw [ho1];rfl
 refine bB (bBl.sl (.slice c1.bufs.addr c1.bufs.list.length c1.bufs.cap) c1.bufs.list) (bMw (xM d7))<|bB (mJ.sl (.slice c1.steps.addr c1.steps.list.length c1.steps.cap) c1.steps.list) (bNz (bCg d8))<|bB (sZ.sl (.slice c1.outs.addr c1.outs.list.length c1.outs.cap) c1.outs.list) (outsF_s (coreF_o d9))<|bB (Fact.each c1.bufs.list bHu) (bufsF_e (xM e6))<|bB (Fact.each c1.steps.list fZ) (bSy (bCg e7))<|bB (opE.sl (.slice s1.ops.addr s1.ops.list.length s1.ops.cap) s1.ops.list) (opsF_s (bMp (Has.each d7 (j4 hs1)))) ?_;refine g3 ?_;refine j6 bDu fun b4=>?_;refine j6 bFo fun b5=>?_;refine g6 ?_;have psp:=bNp s112 o9;rw [p112] at psp;refine j5 func13 psp ⟨(Has.of tJ),j0⟩ fun X6=>?_;refine bC d8 fun hpr=>bB (kR.sl (.slice X6.inputs.addr X6.inputs.list.length X6.inputs.cap) X6.inputs.list) (Has.left (Has.left d7))<|bB (jE X6.inputs.list) (Has.right (Has.left d8))<|bB (pV.sl (.slice X6.lines.addr X6.lines.list.length X6.lines.cap) X6.lines.list) (Has.left (Has.right d9))<|bB (nE X6.lines.list) (Has.right (Has.right e6)) ?_;have hrd:=bUl p112;rw [←hpr] at hrd;have hfine:=vB hrd.1;have hok:=hfine.ok hrd.2;refine g3 ?_;refine j6 qH fun b7=>?_;refine j6 bFo fun b8=>?_;refine g7 ?_;have lsp:=bKb X6 hok.1 hok.2.1 hok.2.2;rw [hpr,(Prod.ext rfl q112:gT (kP s112).1=(_,_))] at lsp;refine j5 func8 lsp ⟨(Has.of (u8 (u8 mT4))),e6,d9,d8,d7,j0⟩ fun c2=>?_;refine lX (v':= .tuple #[coreC c2,.agg #[.int .i64 14,.int .i64 93]]) rfl<|bC d8 fun hc2=>?_;refine g3 ?_;refine j6 bDu fun b9=>?_;refine j6 bFo fun b10=>?_;refine g8 ?_;refine ss (k7 (bAb)) ?_;refine ss (gC ⟨0,0⟩ ⟨0,0⟩ rfl rfl rfl) ?_;refine bM (t':=false) (by first | decide | rfl | simp) ?_;refine g5 ?_;refine bM (t':=false) (bne_eq_false_iff_eq.2 n7) ?_;refine g6 ?_;refine bM (t':=false) (bne_eq_false_iff_eq.2 n7) ?_;refine g6 ?_;refine bM (t':=false) (bne_eq_false_iff_eq.2 n7) ?_;refine g4 ?_;refine ss (ixs 1) ?_;refine one ?_;refine ss (fL hs1 5) ?_;refine g2 ?_;refine bM (t':=false) (bne_eq_false_iff_eq.2 n7) ?_;refine g10 ?_;refine ss (ixs 1) ?_;refine one ?_;refine ss (fL hs1 5) ?_;refine ss (ixs 4) ?_;refine one ?_;refine ss (fL ho4 0) ?_;refine one ?_;refine bM (t':=true) (by simp [how]) ?_;refine g3 ?_;refine ss (ixs 1) ?_;refine one ?_;refine ss (fL hs1 5) ?_;refine ss (ixs 4) ?_;refine one ?_;refine ss (fL ho4 4) ?_;refine one ?_;refine bM (t':=true) (by simp [hfn]) ?_;refine g10 ?_;refine ss (ixs 0) ?_;refine ss (bP hT (dQ.knows (cE f9) (k:=0) (x:=2) (by rw [ho1];rfl) 0) rfl rfl rfl rfl rfl) ?_;refine one ?_;refine bM (t':=true) (by first | decide | rfl) ?_;refine g4 ?_;refine ss (ixs 0) ?_;refine one ?_;refine ss (fL hb0 1) ?_;refine one ?_;refine bM (t':=true) (by simp [hin]) ?_;refine g3 ?_;refine ss (k7 (zF _ _)) ?_;refine ss (bLu ⟨14,93⟩ ⟨14,93⟩ rfl rfl rfl) ?_;refine bM (t':=true) (by first | decide | rfl | simp) ?_;refine g5 ?_;exact rs1 () trivial
abbrev bOy:List (String×DataW Unit):=Rows.lowerSidesRow.laid
theorem bBw{P:Program}{W:World}{name:String}{k:IntKind}{zs:List Int}{g:Nat}{t e:TypeId}{n:Nat}
  (hg:P.globalNamed name=some g) (hty:(P.globals[g]?).map (·.type)=some t) (ht:P.underlying t=some (.array n e)) (he:P.underlying e=some (.int k)) (hce:P.cellsOf e=1) (hct:P.cellsOf t=n)
  (h:Lib.VarReads P W name (Lib.tabData k zs)):Lib.TabIs P W name k zs:=by
 obtain⟨g',t',cs,fuel,p,hg',ht',hvar,hd⟩:=h;obtain rfl:=Option.some.inj (hg.symm.trans hg');obtain rfl:=Option.some.inj (hty.symm.trans ht');unfold Lib.TabIs;rw [hvar,←Lib.cells_of_tab ht he hce hct hd]
theorem var_lt{P:Program}{W:World}{name:String}{g:Nat}{cs:Array Value}(hg:P.globalNamed name=some g)(h:W.var? P name=some cs):g<W.heap.size:=by
 unfold World.var? at h;rw [hg] at h;simp only [Option.bind_some] at h
 cases hh:W.heap[g]? with
 | none=>rw [hh] at h;cases h
 | some o=>exact(Array.getElem?_eq_some_iff.1 hh).1
theorem cell_lt'{W:World}{g i:Nat}{v:Value}(h:W.cell? ⟨g,i,none⟩=some v):g<W.heap.size:=by
 unfold World.cell? at h
 cases hh:W.heap[g]? with
 | none=>rw [hh] at h;cases h
 | some o=>exact(Array.getElem?_eq_some_iff.1 hh).1
set_option maxRecDepth 1000000 in
theorem globF_of{W:World}(hL:laidMetH prog bOy W)(hsh:W.ShapedOpen prog):iW.p (fun b=>b<W.heap.size) W:=by
 have hL':laidMet prog bOy W:=hL;have h0:Lib.TabIs prog W "strings.asciiSpace" .u8 Lib.asciiSpaceTab:=bBw (t:=210) (e:=5) (n:=256) named0 n9 underlying210 underlying5 n9 n9
  (Lib.laidMet.reads hL' (.tail _ (.tail _ (.tail _ (.tail _ (.tail _ (.tail _ (.tail _ (.head _)))))))))
 have h7:Lib.TabIs prog W "internal/strconv.uint64pow10" .u64 Lib.pow10Tab:=bBw (t:=315) (e:=255) (n:=20) named7 n9 underlying315 underlying255 n9 n9
  (Lib.laidMet.reads hL' (.tail _ (.tail _ (.head _))))
 obtain⟨m,h4⟩:=cell_of_shapedOpen_int (P:=prog) (g:=4) (t:=3) (zero:= #[.int .i64 0]) hsh (of_decide_eq_true n9) n9 rfl n9 n9 underlying3;obtain⟨g',t',cs,fuel,p,hg',ht',hvar,hd⟩:=Lib.laidMet.reads hL' (n:= "strconv.ErrRange") (.tail _ (.tail _ (.tail _ (.tail _ (.head _)))));have hnE:prog.globalNamed "strconv.ErrRange" =some 3:=n9
 obtain rfl:=Option.some.inj (hnE.symm.trans hg');obtain rfl:216=t':=Option.some.inj ((show(prog.globals[3]?).map (·.type)=some 216 by kernel_rfl).symm.trans ht');obtain⟨f',u,v,hcs,_,_⟩:=iface_of_trod underlying216 hd
 have hcs':cs= #[.iface u v]:=by
  cases cs;simp only at hcs;rw [hcs]
 subst hcs';have h3:W.cell? ⟨3,0,none⟩=some (.iface u v):=by simpa using World.var?_cell hnE hvar 0
 exact⟨⟨var_lt named0 h0,var_lt named7 h7,cell_lt' h4,cell_lt' h3⟩,h0,h7,⟨m,h4⟩,_,h3,.inr ⟨u,v,rfl⟩⟩
def flat1:DataW Unit→List Value
 | .lit (.int k n)=>[.int k n]
 | _=>[]
def flat2:DataW Unit→List Value
 | .agg l=>l.flatMap flat1
 | d=>flat1 d
def bXc:DataW Unit→Array Value
 | .agg l=>(l.flatMap flat2).toArray
 | _=> #[]
def whiteNums:List Int:=[9,13,1,32,133,101,160,5760,5600,8192,8202,1,8232,8233,1,8239,8287,48,12288,12288,1]
noncomputable def laidWorld (os:Os):World:=
 let N:=(World.settled prog os).heap.size
 let w0:=World.holding prog os ⟨#[.cells (whiteNums.map fun z=>Value.int .u16 z).toArray 264,.cells #[.slice (some ⟨N,0,none⟩) 7 7,.slice none 0 0,.int .i64 2] 261,
  .cells #[.string ⟨#[118,97,108,117,101,32,111,117,116,32,111,102,32,114,97,110,103,101]⟩] 319,.cells #[.string ⟨#[105,110,118,97,108,105,100,32,115,121,110,116,97,120]⟩] 319],#[],[]⟩
 let put (h:Array Obj) (g:Nat) (cs:Array Value):Array Obj:=h.modify g fun
  | .cells _ t frozen=> .cells cs t frozen
  | o=>o
 let h1:=put w0.heap 8 (bXc Rows.laid_math_bits_deBruijn32tab)
 let h2:=put h1 9 (bXc Rows.laid_math_bits_deBruijn64tab)
 let h3:=put h2 7 (bXc Rows.laid_internal_strconv_uint64pow10)
 let h4:=put h3 6 (bXc Rows.laid_unicode_utf8_acceptRanges)
 let h5:=put h4 3 #[.iface 317 (.pointer (some ⟨N+2,0,none⟩))]
 let h6:=put h5 2 #[.iface 317 (.pointer (some ⟨N+3,0,none⟩))]
 let h7:=put h6 1 #[.pointer (some ⟨N+1,0,none⟩)]
 let h8:=put h7 0 (bXc Rows.laid_strings_asciiSpace)
 let h9:=put h8 5 (bXc Rows.laid_unicode_utf8_first)
 {w0 with heap:=h9}
noncomputable abbrev N0:Nat:=(World.settled prog default).heap.size
set_option maxRecDepth 1000000 in
theorem piece0(os:Os)(args:Array Value):LaidIn prog ((laidWorld os).forCall (fun _ _=>0) ⟨#[],args,[]⟩).memory [("math/bits.deBruijn32tab",Rows.laid_math_bits_deBruijn32tab)] [8]:=
 LaidIn.of_run [8] 10 n9 n9 n9 n9
set_option maxRecDepth 1000000 in
theorem piece1(os:Os)(args:Array Value):LaidIn prog ((laidWorld os).forCall (fun _ _=>0) ⟨#[],args,[]⟩).memory [("math/bits.deBruijn64tab",Rows.laid_math_bits_deBruijn64tab)] [9]:=
 LaidIn.of_run [9] 10 n9 n9 n9 n9
set_option maxRecDepth 1000000 in
theorem piece2(os:Os)(args:Array Value):LaidIn prog ((laidWorld os).forCall (fun _ _=>0) ⟨#[],args,[]⟩).memory [("internal/strconv.uint64pow10",Rows.laid_internal_strconv_uint64pow10)] [7]:=
 LaidIn.of_run [7] 10 n9 n9 n9 n9
set_option maxRecDepth 1000000 in
theorem piece3(os:Os)(args:Array Value):LaidIn prog ((laidWorld os).forCall (fun _ _=>0) ⟨#[],args,[]⟩).memory [("unicode/utf8.acceptRanges",Rows.laid_unicode_utf8_acceptRanges)] [6]:=
 LaidIn.of_run [6] 10 n9 n9 n9 n9
set_option maxRecDepth 1000000 in
theorem piece4(os:Os)(args:Array Value):LaidIn prog ((laidWorld os).forCall (fun _ _=>0) ⟨#[],args,[]⟩).memory [("strconv.ErrRange",Rows.laid_strconv_ErrRange)] [3,N0+2]:=
 LaidIn.of_run [3,N0+2] 10 n9 n9 n9 n9
set_option maxRecDepth 1000000 in
theorem piece5(os:Os)(args:Array Value):LaidIn prog ((laidWorld os).forCall (fun _ _=>0) ⟨#[],args,[]⟩).memory [("strconv.ErrSyntax",Rows.laid_strconv_ErrSyntax)] [2,N0+3]:=
 LaidIn.of_run [2,N0+3] 10 n9 n9 n9 n9
set_option maxRecDepth 1000000 in
theorem piece6(os:Os)(args:Array Value):LaidIn prog ((laidWorld os).forCall (fun _ _=>0) ⟨#[],args,[]⟩).memory [("unicode.White_Space",Rows.laid_unicode_White_Space)] [1,N0,N0+1]:=
 LaidIn.of_run [1,N0,N0+1] 10 n9 n9 n9 n9
set_option maxRecDepth 1000000 in
theorem piece7(os:Os)(args:Array Value):LaidIn prog ((laidWorld os).forCall (fun _ _=>0) ⟨#[],args,[]⟩).memory [("strings.asciiSpace",Rows.laid_strings_asciiSpace)] [0]:=
 LaidIn.of_run [0] 10 n9 n9 n9 n9
set_option maxRecDepth 1000000 in
theorem piece8(os:Os)(args:Array Value):LaidIn prog ((laidWorld os).forCall (fun _ _=>0) ⟨#[],args,[]⟩).memory [("unicode/utf8.first",Rows.laid_unicode_utf8_first)] [5]:=
 LaidIn.of_run [5] 10 n9 n9 n9 n9
set_option maxRecDepth 1000000 in
theorem laid_met(os:Os)(args:Array Value):laidMet prog bOy ((laidWorld os).forCall (fun _ _=>0) ⟨#[],args,[]⟩).memory:=
 (((((((((piece0 os args).append (piece1 os args) n9).append (piece2 os args) n9).append (piece3 os args) n9).append (piece4 os args) n9).append (piece5 os args) n9).append (piece6 os args) n9).append (piece7 os args) n9).append (piece8 os args) n9).met
theorem wf_i64{z:Int}(h:(Lit.int .i64 z).wf=true): -9223372036854775808≤z∧z≤9223372036854775807:=by
 simp [Lit.wf,IntKind.min,IntKind.max,IntKind.bits,IntKind.signed] at h;omega
theorem prog_of{a:ProgV}{S:Nat→Prop}{w:World}(h:(progTy.deep a).p S w):
  ((kR.sl (.slice a.inputs.addr a.inputs.list.length a.inputs.cap) a.inputs.list).p S w∧(jE a.inputs.list).p S w∧(pV.sl (.slice a.lines.addr a.lines.list.length a.lines.cap) a.lines.list).p S w∧(nE a.lines.list).p S w)∧
   uN a∧a.inputs.list.length≤140737488355328∧a.lines.list.length≤140737488355328:=by
 obtain⟨⟨⟨i1,i2⟩,i3⟩,⟨⟨l1,l2⟩,l3⟩,_⟩:=h;have i2: ∀x∈a.inputs.list,(bMt.deep x).p S w:=i2;have l2: ∀x∈a.lines.list,(lineTy.deep x).p S w:=l2;have i3:a.inputs.list.length*48≤140737488355328:=i3;have l3:a.lines.list.length*48≤140737488355328:=l3;refine⟨⟨i1,fun x hx=>?_,l1,fun x hx=>?_⟩,⟨fun x hx=>?_,fun x hx=>?_⟩,n7,n7⟩
 ·exact(i2 x hx).2.2.1.1.1
 ·exact⟨(l2 x hx).2.2.1.1.1,fun y hy=>by
   have:=(l2 x hx).2.2.1.1.2 y hy
   exact this.2.2.2.2.1.1.1⟩
 ·refine⟨(i2 x hx).1,fun d hd=>?_⟩;have:=(i2 x hx).2.2.1.1.2 d hd;exact⟨this.1,wf_i64 this.2.1⟩
 ·refine⟨(l2 x hx).1,fun it hit=>?_⟩;have:=(l2 x hx).2.2.1.1.2 it hit;refine⟨this.2.2.2.1,fun z hz=>?_⟩;exact wf_i64 (this.2.2.2.2.1.1.2 z hz)
end
section
open Go.RowKit Go.ChangeShapes Go.WideShapes Go.Proofs.Tryz
section
variable {H : Type} {enc : TypeId × Value → H} {P : Program}
theorem bEf(hl:laidOutB P=true){W W':World}(hb:Below W.heap.size W W'): ∀{ts:List TypeId} {vs:List Value} {ds:List (DataW H)} {ps:List MemPlace},
  (∀t∈ts,P.readableRec t=true∧t<P.types.size)→(∀x∈ps,x.block<W.heap.size)→DataW.TrodAll enc P W 0 (fun _=>true) true ts vs ds ps→
  DataW.TrodAll enc P W' 0 (fun b=>decide (b<W.heap.size)) true ts vs ds ps
 | [],_,_,_,_,_,h=>by
  obtain⟨rfl,rfl,rfl⟩:=trodAll_nil h;exact trodAll_mk0
 | t::ts,_,_,_,ht,hlt,h=>by
  obtain⟨v,vs,d,ds,p,q,rfl,rfl,rfl,h1,h2⟩:=trodAll_cons h;have hr:=ht t o6;exact trodAll_cons_mk (Below.trod hl hr.1 hr.2 h1 hb (fun x hx=>hlt x ad2)) (bEf hl hb (fun t h=>ht t ag7) (fun x hx=>hlt x ad2) h2)
theorem law_post{f:Func}{s:ChangeSpec}{W W':World}{args:Array Value}{ds:List (DataW H)}{before:List MemPlace}{tb:TypeId}
  (hW:DataW.Whole enc P f.params.toList s.vars false W args.toList ds [] before) (hv:s.vars=[]) (hfn:s.fn H (ds++[])={results:=[.lit (.bool true)],args:=ds})
  (hr:f.resultTypes= #[tb]) (hb:P.underlying tb=some .bool) (hl:laidOutB P=true) (hread: ∀t∈f.params.toList,P.readableRec t=true∧t<P.types.size) (h:Below W.heap.size W W'):
  s.post enc P f false true false false W args (.bool true) W':=by
 have hlt: ∀p∈before,p.block<W.heap.size:=fun p hp=>hW.lt p hp;have hW':=hW;obtain⟨p,q,hA,hV,rfl,_,_⟩:=hW;rw [hv] at hV;have hq:q=[]:=hV;subst hq;refine⟨ds,[],_,[],p,[],hW',?_,?_,?_,?_,fun h=>by cases h⟩
 ·rw [hfn,hr];exact trodAll_mk1 (shut_bool hb true)
 ·rw [hfn];exact bEf hl h hread (fun x hx=>hlt x ad2) hA
 ·rw [hfn,hv];rfl
 ·exact h.frame _
end
theorem bTr{ι:Type}{f:FuncId}{args:List Value}{Pre:List Fact}{v:Value}(h:cM prog f args [] Pre (fun _:ι=>v) (fun _=>[]) (fun _=>[])){w:World}(hp:All Pre (fun b=>b<w.heap.size) w):
  Calls prog f args.toArray w fun e w'=>e= .returned v∧Below w.heap.size w w':=by
 refine(h (fun b=>b<w.heap.size) w ⟨oW.refl _ _,fun c hc=>by simp at hc,fun c hc=>by simp at hc,List.Pairwise.nil,fun b hb=>⟨hb,.inl hb⟩⟩ hp).mono ?_;rintro e w' ⟨_,_,rfl,s,_⟩;refine⟨rfl,s.kept.os,s.kept.tape,s.kept.output,s.kept.size,fun k hk=>s.kept.block k hk fun⟨c,hc,_⟩=>by simp at hc⟩
theorem own:ownKnob prog.godebug=none:=n9
theorem laid:laidOutB prog=true:=n9
end
section
open Go.RowKit Go.Proofs.Tryz
end
section
open Go.RowKit Go.Sort Go.Proofs.Tryz
def dV (a b:Int):Prop:=(18446744073709551616:Int)∣a-b
theorem dV.refl(a:Int):dV a a:=by unfold dV;omega
theorem dV.of_eq{a b:Int}(h:a=b):dV a b:=by unfold dV;omega
theorem dV.symm{a b:Int}(h:dV a b):dV b a:=by unfold dV at*;omega
theorem dV.trans{a b c:Int}(h:dV a b)(h2:dV b c):dV a c:=by unfold dV at*;omega
theorem dV.add{a b c d:Int}(h:dV a b)(h2:dV c d):dV (a+c) (b+d):=by unfold dV at*;omega
theorem dV.sub{a b c d:Int}(h:dV a b)(h2:dV c d):dV (a-c) (b-d):=by unfold dV at*;omega
theorem dV.mul{a b:Int}(h:dV a b)(c:Int):dV (a*c) (b*c):=by
 unfold dV at*;rw [←Int.sub_mul];exact Int.dvd_trans h (Int.dvd_mul_right _ _)
theorem bKq(a:Int):dV (wrap64 a) a:=by unfold dV wrap64;omega
theorem wrap_range(a:Int): -9223372036854775808≤wrap64 a∧wrap64 a<9223372036854775808:=by unfold wrap64;omega
theorem dV.eq{a b:Int}(h:dV a b)(h1: -9223372036854775808≤a∧a<9223372036854775808)(h2: -9223372036854775808≤b∧b<9223372036854775808):a=b:=by
 unfold dV at h;omega
def bDw (F:Mono→Int):Prop:= ∀a b:Mono,a.key=b.key→F a=F b
def dS (f:Mono→Int):List Mono→Int
 | []=>0
 | m::l=>f m+dS f l
def lin (F:Mono→Int)(L:List Mono):Int:=dS (fun m=>m.n*F m) L
theorem sumOf_perm(f:Mono→Int){l m:List Mono}(h:l.Perm m):dS f l=dS f m:=by
 induction h with
 | nil=>rfl
 | cons x _ ih=>simp only [dS,ih]
 | swap x y l=>simp only [dS];omega
 | trans _ _ ih1 ih2=>rw [ih1,ih2]
theorem bUf(f g:Mono→Int): ∀l,dS (fun m=>f m+g m) l=dS f l+dS g l
 | []=>rfl
 | m::l=>by simp only [dS,bUf f g l];omega
theorem bPl: ∀l,dS (fun _=>0) l=0
 | []=>rfl
 | m::l=>by simp only [dS,bPl l];omega
theorem bWg(f:Mono→Int)(c:Int): ∀l,dS (fun m=>f m*c) l=dS f l*c
 | []=>by simp [dS]
 | m::l=>by simp only [dS,bWg f c l,Int.add_mul]
theorem bSh(f:Mono→Mono→Int)(q:List Mono): ∀p,dS (fun a=>dS (fun b=>f a b) q) p=dS (fun b=>dS (fun a=>f a b) p) q
 | []=>by simp only [dS,bPl]
 | a::p=>by simp only [dS,bSh f q p,bUf]
theorem bBp{f g:Mono→Int}: ∀{l:List Mono},(∀m∈l,f m=g m)→dS f l=dS g l
 | [],_=>rfl
 | m::l,h=>by simp only [dS];rw [h m o6,bBp fun x hx=>h x ad2]
theorem bQl{f g:Mono→Int}: ∀{l:List Mono},(∀m∈l,dV (f m) (g m))→dV (dS f l) (dS g l)
 | [],_=>dV.refl _
 | m::l,h=>(h m o6).add (bQl fun x hx=>h x ad2)
theorem bWx(F:Mono→Int)(L:List Mono):lin F (oP L)=lin F L:=by
 unfold lin oP;rw [sumOf_perm _ (List.mergeSort_perm _ _)]
 induction L with
 | nil=>rfl
 | cons m l ih=>
  by_cases h:m.n=0
  ·rw [List.filter_cons_of_neg ag7,ih];simp [dS,h]
  ·rw [List.filter_cons_of_pos ag7];simp only [dS,ih]
theorem bIy{F:Mono→Int}(hF:bDw F)(k:Mono)(x:Int): ∀L,lin F (setTo k x L)=lin F L+(x-qC k L)*F k
 | []=>by
  have:F {k with n:=x}=F k:=hF _ _ rfl;simp only [lin,setTo,qC,dS,this];simp
 | m::L=>by
  have hk:F {k with n:=x}=F k:=hF _ _ rfl;have ih:=bIy hF k x L;unfold lin at ih;unfold setTo qC lin
  by_cases h:k.sameE m=true
  ·have h2:F m=F k:=hF _ _ (bNc.1 h).symm;simp only [if_pos h,dS,hk,h2,Int.sub_mul];omega
  ·simp only [if_neg h,dS,ih];omega
theorem bXt{F:Mono→Int}(hF:bDw F)(m:Mono)(v:Int)(L:List Mono):dV (lin F (tX m v L)) (lin F L+v*F m):=by
 unfold tX;rw [bIy hF];refine(dV.refl _).add (dV.mul ?_ _);have:=bKq (qC m L+v);unfold dV at*;omega
theorem bEx{F:Mono→Int}(hF:bDw F)(g:Mono→Int): ∀(p L:List Mono),dV (lin F (gQ g L p)) (lin F L+dS (fun m=>g m*F m) p)
 | [],L=>by simp only [gQ,dS,Int.add_zero];exact dV.refl _
 | m::p,L=>by
  refine(bEx hF g p (tX m (g m) L)).trans ?_;refine((bXt hF m (g m) L).add (dV.refl _)).trans (dV.of_eq ?_);simp only [dS];omega
theorem bPd{F:Mono→Int}(hF:bDw F)(a:Mono): ∀(q L:List Mono),dV (lin F (lQ a L q)) (lin F L+dS (fun b=>a.n*b.n*F (mulM a b)) q)
 | [],L=>by simp only [lQ,dS,Int.add_zero];exact dV.refl _
 | b::q,L=>by
  refine(bPd hF a q _).trans ?_;refine(((bXt hF (mulM a b) _ L).trans ((dV.refl _).add ((bKq _).mul _))).add (dV.refl _)).trans (dV.of_eq ?_);simp only [dS];omega
theorem bOu{F:Mono→Int}(hF:bDw F)(q:List Mono): ∀(p L:List Mono),dV (lin F (iT q L p)) (lin F L+dS (fun a=>dS (fun b=>a.n*b.n*F (mulM a b)) q) p)
 | [],L=>by simp only [iT,dS,Int.add_zero];exact dV.refl _
 | a::p,L=>by
  refine(bOu hF q p _).trans ?_;refine((bPd hF a q L).add (dV.refl _)).trans (dV.of_eq ?_);simp only [dS];omega
def Fit (L:List Mono):Prop:= ∀m∈L,-9223372036854775808≤m.n∧m.n<9223372036854775808
theorem bUb(m:Mono)(v:Int){L:List Mono}(h:Fit L):Fit (tX m v L):=fun y hy=>by
 rcases wO hy with rfl | hy
 ·exact wrap_range _
 ·exact h y hy
theorem bFb(g:Mono→Int): ∀(p:List Mono) {L:List Mono},Fit L→Fit (gQ g L p)
 | [],_,h=>h
 | _::p,_,h=>bFb g p (bUb _ _ h)
theorem bPc(a:Mono): ∀(q:List Mono) {L:List Mono},Fit L→Fit (lQ a L q)
 | [],_,h=>h
 | _::q,_,h=>bPc a q (bUb _ _ h)
theorem bSc(q:List Mono): ∀(p:List Mono) {L:List Mono},Fit L→Fit (iT q L p)
 | [],_,h=>h
 | a::p,_,h=>bSc q p (bPc a q h)
theorem fit_nil:Fit []:=fun _ h=>by simp at h
def ind (k:Nat)(m:Mono):Int:=if m.key=k then 1 else 0
theorem bGs(k:Nat):bDw (ind k):=fun a b h=>by unfold ind;rw [h]
theorem bRb(F:Mono→Int)(m:Mono)(L:List Mono):lin F (m::L)=m.n*F m+lin F L:=rfl
theorem ind_ne{k:Nat}{m:Mono}(h:m.key≠k):ind k m=0:=if_neg h
theorem ind_self(m:Mono):ind m.key m=1:=if_pos rfl
theorem xV{k:Nat}: ∀{L:List Mono},(∀y∈L,y.key≠k)→lin (ind k) L=0
 | [],_=>rfl
 | m::L,h=>by
  rw [bRb,xV (L:=L) (k:=k) fun y hy=>h y ae3,ind_ne (h m o6)];simp
theorem bCq{x:Mono}: ∀{L:List Mono},kN L→x∈L→lin (ind x.key) L=x.n
 | [],_,h=>by simp at h
 | m::L,hA,h=>by
  obtain⟨h1,h2⟩:=List.pairwise_cons.1 hA;rw [bRb]
  rcases List.mem_cons.1 h with rfl | h
  ·rw [xV (L:=L) (k:=x.key) fun y hy=>Ne.symm (h1 y hy),ind_self];simp
  ·rw [bCq h2 h,ind_ne (h1 x h)];simp
theorem bWz{L L':List Mono}(hA:kN L)(hf:Fit L)(hA':kN L')(hf':Fit L')(h: ∀F,bDw F→dV (lin F L) (lin F L')){x:Mono}(hx:x∈oP L):x∈oP L':=by
 obtain⟨hx,h0⟩:=bDd.1 hx;have e:=h _ (bGs x.key);rw [bCq hA hx] at e;have hfx:=hf x hx
 by_cases hy: ∃y∈L',y.key=x.key
 ·obtain⟨y,hy,hk⟩:=hy;rw [←hk,bCq hA' hy] at e;have hn:=e.eq hfx (hf' y hy);rw [eq_of_key hk.symm hn] at h0⊢;exact bDd.2 ⟨hy,h0⟩
 ·rw [xV fun y h1 h2=>hy ⟨y,h1,h2⟩] at e;exact absurd (e.eq hfx n7) h0
theorem bPy{L L':List Mono}(hA:kN L)(hf:Fit L)(hA':kN L')(hf':Fit L')(h: ∀F,bDw F→dV (lin F L) (lin F L')):oP L=oP L':=
 xH.ext (bAq hA) (bAq hA') fun _=>⟨bWz hA hf hA' hf' h,bWz hA' hf' hA hf fun F hF=>(h F hF).symm⟩
theorem vQ: ∀{l:List Mono} {o:Option Mono},iB o l=true→xH l∧(∀a,o=some a→ ∀m∈l,m.key<a.key)∧(∀m∈l,nU m=true)
 | [],_,_=>⟨by simp [xH],o6,o6⟩
 | m::l,none,h=>by
  rw [iB,Bool.and_eq_true] at h;obtain⟨h1,h2,h3⟩:=vQ h.2;refine⟨List.pairwise_cons.2 ⟨fun b hb=>h2 m rfl b hb,h1⟩,o6,?_⟩;intro x hx
  rcases List.mem_cons.1 hx with rfl | hx
  ·exact h.1
  ·exact h3 x hx
 | m::l,some a,h=>by
  rw [iB,Bool.and_eq_true,Bool.and_eq_true,decide_eq_true_eq] at h;obtain⟨h1,h2,h3⟩:=vQ h.2.2;have hk:=(ord_lt _ _).1 h.2.1;refine⟨List.pairwise_cons.2 ⟨fun b hb=>h2 m rfl b hb,h1⟩,?_,?_⟩
  ·intro a' ha x hx;obtain rfl:a=a':=Option.some.inj ha
   rcases List.mem_cons.1 hx with rfl | hx
   ·exact hk
   ·exact Nat.lt_trans (h2 m rfl x hx) hk
  ·intro x hx
   rcases List.mem_cons.1 hx with rfl | hx
   ·exact h.1
   ·exact h3 x hx
theorem xE{p:List Mono}(h:cU p=true):xH p∧(∀m∈p,nU m=true)∧p.length≤48:=by
 simp only [cU,Bool.and_eq_true,decide_eq_true_eq] at h;exact⟨(vQ h.2).1,(vQ h.2).2.2,h.1⟩
theorem bBf{p:List Mono}(h:cU p=true):kN p:=(xE h).1.apart
def bLq (p q:List Mono)(s:Int):List Mono:=gQ (fun m=>wrap64 (s*m.n)) (gQ Mono.n [] p) q
theorem bVb:kN []:=by simp [kN]
theorem bKy(p q:List Mono)(s:Int):kN (bLq p q s):=qF _ _ (qF _ _ bVb)
theorem bWp(p q:List Mono)(s:Int):Fit (bLq p q s):=bFb _ _ (bFb _ _ fit_nil)
theorem bXh{F:Mono→Int}(hF:bDw F)(p q:List Mono)(s:Int):dV (lin F (bLq p q s)) (lin F p+s*lin F q):=by
 refine(bEx hF _ q _).trans ?_;refine dV.add ((bEx hF _ p _).trans (dV.of_eq ?_)) ?_
 ·simp only [lin,dS,Int.zero_add]
 ·unfold lin;rw [Int.mul_comm,←bWg];refine bQl fun m _=>((bKq _).mul _).trans (dV.of_eq ?_);rw [Int.mul_comm s,Int.mul_assoc,Int.mul_comm s,Int.mul_assoc]
theorem lin_mulL{F:Mono→Int}(hF:bDw F)(p q:List Mono):dV (lin F (iT q [] p)) (dS (fun a=>dS (fun b=>a.n*b.n*F (mulM a b)) q) p):=by
 refine(bOu hF q p []).trans (dV.of_eq ?_);simp only [lin,dS,Int.zero_add]
theorem bPf(p q:List Mono):kN (iT q [] p):=yO _ _ bVb
theorem fit_mulL(p q:List Mono):Fit (iT q [] p):=bSc _ _ fit_nil
theorem mulM_comm(a b:Mono):mulM a b=mulM b a:=by
 simp only [mulM,Int.mul_comm a.n,UInt8.add_comm a.e0,UInt8.add_comm a.e1,UInt8.add_comm a.e2,UInt8.add_comm a.e3,UInt8.add_comm a.e4,UInt8.add_comm a.e5]
theorem bothP_L(p q:List Mono)(s:Int):bY p q s=if cU p&&cU q then iO (bLq p q s) else ([],20):=rfl
theorem add_comm(p q:List Mono):bY p q 1=bY q p 1:=by
 have h:oP (bLq p q 1)=oP (bLq q p 1):=bPy (bKy _ _ _) (bWp _ _ _) (bKy _ _ _) (bWp _ _ _) fun F hF=>
  (bXh hF p q 1).trans ((dV.of_eq n7).trans (bXh hF q p 1).symm)
 rw [bothP_L,bothP_L,Bool.and_comm];unfold iO;rw [h]
theorem mul_comm(p q:List Mono):nJ p q=nJ q p:=by
 have h:oP (iT q [] p)=oP (iT p [] q):=bPy (bPf _ _) (fit_mulL _ _) (bPf _ _) (fit_mulL _ _) fun F hF=>
  (lin_mulL hF p q).trans ((dV.of_eq (by
   rw [bSh];refine bBp fun b _=>bBp fun a _=>?_
   rw [mulM_comm,Int.mul_comm a.n])).trans (lin_mulL hF q p).symm)
 unfold nJ;rw [Bool.and_comm];unfold iO;rw [h]
theorem both_ok{p q a:List Mono}{s:Int}(h:bY p q s=(a,0)):cU p=true∧cU q=true∧a=oP (bLq p q s)∧cU a=true:=by
 unfold bY iO at h;split at h
 ·rename_i h1;simp only [Bool.and_eq_true] at h1;split at h
  ·rename_i h2;injection h with h _
   refine⟨h1.1,h1.2,h.symm,?_⟩;rw [←h];exact h2
  ·simp at h
 ·simp at h
theorem mul_ok{p q a:List Mono}(h:nJ p q=(a,0)):cU p=true∧cU q=true∧a=oP (iT q [] p)∧cU a=true:=by
 unfold nJ iO at h;split at h
 ·rename_i h1;simp only [Bool.and_eq_true] at h1;split at h
  ·rename_i h2;injection h with h _
   refine⟨h1.1,h1.2,h.symm,?_⟩;rw [←h];exact h2
  ·simp at h
 ·simp at h
end
end Go.Proofs.YtakphiannlpnfaaGreatDoor
