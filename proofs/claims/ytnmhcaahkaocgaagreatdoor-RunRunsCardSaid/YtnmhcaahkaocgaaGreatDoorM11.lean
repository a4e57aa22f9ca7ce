/- Texts of one proof, one behind the other: UD, MixP, UE, UF, RnE. -/
import Derived.Test.YtnmhcaahkaocgaaGreatDoorM10
import Derived.Test.YtnmhcaahkaocgaaGreatDoorM2
import Derived.Test.YtnmhcaahkaocgaaGreatDoorM9
namespace Go.Proofs.YtnmhcaahkaocgaaGreatDoor
open Go.RowKit
theorem vS{α β:Type}{f:α→β}{l:List α}{i:Nat}{x:α}(h:l[i]?=some x):(l.take (i+1)).map f=(l.take i).map f++[f x]:=by
 obtain⟨hlt,e⟩:=List.getElem?_eq_some_iff.1 h;subst e;rw [List.take_succ_eq_append_getElem hlt,List.map_append];rfl
set_option maxRecDepth 100000 in
theorem pW(mb:Nat)(m:gF)(p:PolV)(e:Int)(hdl:m.dims.list.length≤140737488355328):rC Tryz.prog 89 [.pointer (some ⟨mb,0,none⟩),.slice p.addr p.list.length p.cap,.int .i64 e] [maO mb m] [lS p,cQ.sl (.slice m.dims.addr m.dims.list.length m.dims.cap) m.dims.list] (fun(_:Unit)=>fR (rnVal m.dims.list p.list e)) (fun(_:Unit)=> .int .i64 (rval 0 (rnVal m.dims.list p.list e))) (fun(_:Unit)=>[maO mb m]) (fun _=>[]):=by
 have hT:=cZ;refine mX Tryz.func89 rfl Tryz.ntmps89 rfl ?_;intro β hM;refine bE<|bB<|bK rfl rfl rfl (bG hT rfl) ?_;refine cA<|bC<|bE<|bB<|bK rfl rfl rfl (bG hT rfl) ?_;refine bK rfl rfl rfl (bG hT rfl) ?_;refine bK rfl rfl rfl (bG hT rfl) ?_;refine bK rfl rfl rfl (bG hT rfl) ?_;refine bK rfl rfl rfl (bR hT (mZ .head) rfl rfl rfl rfl rfl) ?_;refine cD (jH (Has.of (.head _))) fun hpl=>?_;refine cK Tryz.func142 (bCw p m.dims.addr m.dims.cap m.dims.list hpl hdl) rfl rfl .nil ⟨(Has.of (.head _)),(Has.of (.tail _ (.head _))),trivial⟩ fun _=>?_;refine bK rfl rfl rfl (bG hT rfl) ?_;refine bK rfl rfl rfl (bG hT rfl) ?_;refine bK rfl rfl rfl (bG hT rfl) ?_;refine bK rfl rfl rfl (bG hT rfl) ?_;refine bK rfl rfl rfl (bG hT rfl) ?_;refine cA<|bC<|bE<|bE<|bB<|bK rfl rfl rfl (bG hT rfl) ?_;refine bK rfl rfl rfl (bG hT rfl) ?_;refine cA<|bC<|bL rfl (fun hc19=>?_) (fun hc19=>?_)
 ·have hc19:=bne_iff_ne.1 hc19;refine bB<|bK rfl rfl rfl (bG hT rfl) ?_;refine bK rfl rfl rfl (kO rfl Tryz.underlying32 (fun _ e=>by cases e) rfl) ?_;refine kQ rfl rfl rfl ?_;refine dK ?_;exact gJ () (by unfold rnVal;rw [if_neg hc19];rfl)
 ·have hc19:=bne_eq_false_iff_eq.1 hc19;refine bO<|bC<|bE<|bB<|bK rfl rfl rfl (bG hT rfl) ?_;refine bK rfl rfl rfl (bG hT rfl) ?_;refine cA<|bC<|bI ?_;exact wZ () rfl (bD rfl) (.cons .head .nil) trivial (by unfold rnVal;rw [if_pos hc19];rfl) (by unfold rnVal;rw [if_pos hc19];rfl)
set_option maxRecDepth 100000 in
theorem bAq(mb:Nat)(m:gF)(k:Int)(u:kX)(hk:0≤k)(hu:m.core.bufs.list[k.toNat]?=some u)(hv: ∀p∈polsL u.sides.list,(evalP p m.dims.list).2=0)(hdl:m.dims.list.length≤140737488355328):dM Tryz.prog 42 [.pointer (some ⟨mb,0,none⟩),.int .i64 k] [maO mb m] [lY m.core,cQ.sl (.slice m.dims.addr m.dims.list.length m.dims.cap) m.dims.list] (fun(x:Option Addr×Nat)=> .slice x.1 ((polsL u.sides.list).map fun p=>(evalP p m.dims.list).1).length x.2) (fun(x:Option Addr×Nat)=>[maO mb m,cQ.row (.slice x.1 ((polsL u.sides.list).map fun p=>(evalP p m.dims.list).1).length x.2) 2 ((polsL u.sides.list).map fun p=>(evalP p m.dims.list).1)]) (fun _=>[]):=by
 have hT:=cZ;refine cO Tryz.func42 rfl Tryz.ntmps42 rfl ?_;intro β hM;refine sr<|sp hT ?_;refine nn<|sr<|sp hT ?_;refine nn<|bE<|bE<|cL (uB.sl (.slice m.core.bufs.addr m.core.bufs.list.length m.core.bufs.cap) m.core.bufs.list) (nS (iY (Has.of mT0))) ?_;refine dN (t:=2) cQ ?_;refine bB<|sp4 hT ?_;refine ss (ldO hT (fE kT1)) ?_;refine sp hT ?_;refine ss (bV hT (k:=k.toNat) (bP (Has.of mT0)) rfl rfl rfl rfl rfl rfl (by omega) ((List.getElem?_eq_some_iff.1 hu).1)) ?_;refine sp hT ?_;refine ss (bR hT (cM.knows (bP (Has.of mT0)) (k:=k.toNat) (x:=u) hu 0) rfl rfl rfl rfl rfl) ?_;refine cL (bufF u) (Has.each (tA (iY (Has.of mT1))) (List.mem_of_getElem? hu)) ?_;refine cL (pX.sl (.slice u.sides.addr u.sides.list.length u.sides.cap) u.sides.list) (sJ (Has.of mT0)) ?_;refine cD (xS (Has.of mT1)) fun hsc=>?_;have hsc1:=hsc.1;have hsc2:=hsc.2;refine sp2 hT ?_;refine nn<|bW<|cX (ι:=Option Addr×Nat×List Int×Nat) [(0,_),(16,_),(17,_)] ⟨rfl,rfl,rfl,trivial⟩ (fun⟨LA,lc,acc,i⟩=>[(5,.slice LA acc.length lc),(18,.int .i64 (i:Nat))]) (fun⟨LA,lc,acc,i⟩=>[cQ.row (.slice LA acc.length lc) 2 acc]) (fun⟨LA,lc,acc,i⟩=>[bU.pure (i≤u.sides.list.length∧acc.length=i∧acc=(((polsL u.sides.list).take i).map fun p=>(evalP p m.dims.list).1))]) (fun⟨LA,lc,acc,i⟩=>u.sides.list.length-i) (none,0,[],0) ⟨rfl,rfl,trivial⟩ (.cons .head .nil) ⟨Has.pure (⟨by omega,rfl,rfl⟩),trivial⟩ ?_;rintro⟨LA,lc,acc,i⟩;dsimp only;refine cD (Has.of mT0) fun hinv3=>?_;have hal:=hinv3.2.1;refine sr<|sp hT ?_;refine nn<|bE<|bL rfl (fun hc19=>?_) (fun hc19=>?_)
 ·have hc19:=of_decide_eq_true hc19;refine bO<|bC<|bE<|bW<|bE ?_
  obtain⟨x,hx⟩: ∃x',u.sides.list[i]?=some x':=⟨_,List.getElem?_eq_getElem (by omega)⟩
  refine cL (lS x) (Has.each (sN (Has.of mT2)) (List.mem_of_getElem? hx)) ?_;refine bB<|ss (bV hT (k:=i) (bP (Has.of mT2)) rfl rfl rfl rfl rfl rfl rfl (by omega)) ?_;refine ss (bR hT (cM.knows (bP (Has.of mT2)) (k:=i) (x:=x) hx 0) rfl rfl rfl rfl rfl) ?_;refine sp hT ?_;refine nn<|bB<|sp3 hT ?_;have hvx:(evalP x.list m.dims.list).2=0:=hv x.list (List.mem_of_getElem? (dQ hx));refine cK Tryz.func89 (bGs (fun _=>by unfold rnVal;rw [if_pos hvx];rfl) (pW mb m x 102 hdl)) rfl rfl (.cons kT1 .nil) ⟨(Has.of mT0),(Has.of mT6),trivial⟩ fun _=>?_;refine bZ (z':=(evalP x.list m.dims.list).1) (by unfold rnVal;rw [if_pos hvx];rfl) ?_;refine fF (m:=(evalP x.list m.dims.list).1) rfl rfl rfl rfl rfl fun b1=>?_;refine dH kT2 (dP .head rfl) rfl rfl rfl rfl rfl rfl rfl (by simp only [List.length_singleton];omega) fun A2 c3=>?_;refine sp hT ?_;refine cA<|bY<|bC<|bB<|sp hT ?_;refine bZ (z':=(((i+1):Nat):Int)) (cV (by omega) (by omega)) ?_;refine sp hT ?_;refine nn ?_;exact cJ (A2,c3,acc++[(evalP x.list m.dims.list).1],i+1) (by dsimp only;omega) ⟨rfl,rfl,trivial⟩ ⟨rfl,rfl,rfl,trivial⟩ (.cons .head (.cons kT1 .nil)) ⟨Has.pure (⟨by dsimp only;omega,by dsimp only;rw [List.length_append,List.length_singleton];omega,by dsimp only;rw [hinv3.2.2];exact(vS (dQ hx)).symm⟩),trivial⟩ (bQ.drop 2)
 have hc19:=Int.not_lt.1 (of_decide_eq_false hc19);refine cU<|cI<|cI<|cT<|bC<|sr<|sp2 hT ?_;refine nn<|bI ?_;have he:acc=((polsL u.sides.list).map fun p=>(evalP p m.dims.list).1):=by rw [hinv3.2.2,List.take_of_length_le (by rw [dC];omega)]
 subst he;exact bN (LA,lc) rfl (bD rfl) (.cons kT1 (.cons .head .nil)) trivial rfl
set_option maxRecDepth 100000 in
theorem nF(mb:Nat)(m:gF)(a:Option Addr×Nat)(t:List Int)(n:Int)(hl:t.length≤1000000):dM Tryz.prog 145 [.pointer (some ⟨mb,0,none⟩),.int .i64 n] [maO mb (m.st a t.reverse),maS (m.st a t.reverse)] [] (fun(_:Option Addr×Nat)=> .tuple #[]) (fun(x:Option Addr×Nat)=>[maO mb (m.st x (n::t).reverse),maS (m.st x (n::t).reverse)]) (fun _=>[]):=by
 have hT:=cZ;refine cO Tryz.func145 rfl Tryz.ntmps145 rfl ?_;intro β hM;refine bB<|sp4 hT ?_;refine ss (ldO hT (kwO7 .head)) ?_;refine sp hT ?_;refine fF (m:=n) rfl rfl rfl rfl rfl fun b1=>?_;refine dH kT2 (dP .head rfl) rfl rfl rfl rfl rfl rfl rfl (by simp only [gF.st,List.length_reverse,List.length_singleton];omega) fun A2 c3=>?_;refine sp2 hT ?_;refine sto hT kT2 ?_;refine cA ?_;have he:(m.st a t.reverse).stack.list++[n]=(n::t).reverse:=(List.reverse_cons ..).symm;rw [he];exact at_off0 (A2,c3) rfl (.cons .head (.cons .head .nil)) trivial rfl
set_option maxRecDepth 100000 in
theorem rE(mb:Nat)(m:gF)(a:Option Addr×Nat)(t:List Int)(v:Int)(hl:t.length≤1000000):dM Tryz.prog 146 [.pointer (some ⟨mb,0,none⟩)] [maO mb (m.st a (v::t).reverse),maS (m.st a (v::t).reverse)] [] (fun(_:Unit)=> .int .i64 v) (fun(_:Unit)=>[maO mb (m.st a t.reverse),maS (m.st a t.reverse)]) (fun _=>[]):=by
 have hT:=cZ;have hv:(v::t).reverse[t.length]?=some v:=by rw [List.reverse_cons,List.getElem?_append_right (by simp),List.length_reverse,Nat.sub_self];rfl
 refine cO Tryz.func146 rfl Tryz.ntmps146 rfl ?_;intro β hM;refine sr<|sp hT ?_;refine nn<|bE<|fJ _ _ [(true,0),(true,1),(true,2),(true,3),(true,4),(true,5),(true,6),(true,7),(true,8),(true,9),(true,10),(true,11),(true,12)] dS (by decide+kernel) (.cons .head (.cons .head .nil)) bQ.self ?_;refine puM hT ?_;refine puM hT ?_;refine puM hT ?_;refine stM rfl (ldO hT (kwO7 .head)) ?_;refine puM hT ?_;refine puM hT ?_;refine puM hT ?_;refine stM rfl (ldO hT (kwO7 .head)) ?_;refine puM hT ?_;refine puM hT ?_;refine bZ (z':=((t.length:Nat):Int)) (by show IntKind.i64.wrap ((((v::t).reverse.length:Nat):Int)-1)=_;rw [List.length_reverse,List.length_cons,show((t.length+1:Nat):Int)-1=(t.length:Nat) by omega];exact cV rfl (by omega)) ?_;refine stM rfl (bV hT (k:=t.length) (cF kT1) rfl rfl rfl rfl rfl rfl rfl (by simp only [gF.st,List.length_reverse,List.length_cons];omega)) ?_;refine stM rfl (bR hT (cM.knows (cF kT1) (k:=t.length) (x:=v) hv 0) rfl rfl rfl rfl rfl) ?_;refine puM hT ?_;refine cW<|bC<|bE<|jG 14 _ _ [(true,0),(true,1),(true,2),(true,3),(true,4),(true,5),(true,6),(true,7),(true,8),(true,9),(true,10),(false,11),(true,12),(true,13)] dS (by decide+kernel) (.cons .head .nil) bQ.self ?_;refine puL hT ?_;refine puL hT ?_;refine puL hT ?_;refine puL hT ?_;refine stL rfl (ldO hT (kwO7 .head)) ?_;refine puL hT ?_;refine puL hT ?_;refine puL hT ?_;refine stL rfl (ldO hT (kwO7 .head)) ?_;refine puL hT ?_;refine puL hT ?_;refine bZ (z':=((t.length:Nat):Int)) (by show IntKind.i64.wrap ((((v::t).reverse.length:Nat):Int)-1)=_;rw [List.length_reverse,List.length_cons,show((t.length+1:Nat):Int)-1=(t.length:Nat) by omega];exact cV rfl (by omega)) ?_;refine hY (o:=_) rfl ?_;refine xN (E:=cQ) (k:=t.length) hT kT1 rfl rfl rfl rfl rfl rfl rfl rfl rfl (by simp only [gF.st,List.length_reverse,List.length_cons];omega) ?_;rw [show(m.st a (v::t).reverse).stack.list.take t.length=t.reverse by show(v::t).reverse.take t.length=t.reverse;rw [List.reverse_cons,List.take_left' (List.length_reverse)]];refine gZ (.cons kT1 .nil) trivial ?_;refine puL hT ?_;refine puL hT ?_;refine hU (o:=_) rfl ?_;refine sto hT kT1 ?_;refine iX<|bC<|sr<|sp2 hT ?_;refine nn<|bI ?_;exact bN () rfl (bD rfl) (.cons .head (.cons .head .nil)) trivial (by first | rfl | simp_all)
set_option maxRecDepth 100000 in
theorem uR(n e:Int):rC Tryz.prog 93 [.int .i64 n,.int .i64 e] [] [] (fun(_:Unit)=>fR (rnMust (n,e))) (fun(_:Unit)=> .int .i64 (rval 0 (rnMust (n,e)))) (fun _=>[]) (fun _=>[]):=by
 have hT:=cZ;refine mX Tryz.func93 rfl Tryz.ntmps93 rfl ?_;intro β hM;refine bE<|bB<|bK rfl rfl rfl (bG hT rfl) ?_;refine cA<|bC<|bE<|bE<|bB<|bK rfl rfl rfl (bG hT rfl) ?_;refine bK rfl rfl rfl (bG hT rfl) ?_;refine cA<|bC<|bL rfl (fun hc6=>?_) (fun hc6=>?_)
 ·have hc6:=bne_iff_ne.1 hc6;refine bB<|bK rfl rfl rfl (bG hT rfl) ?_;refine bK rfl rfl rfl (kO rfl Tryz.underlying32 (fun _ e=>by cases e) rfl) ?_;refine kQ rfl rfl rfl ?_;refine dK ?_;exact gJ () (by unfold rnMust;rw [if_neg hc6];rfl)
 ·have hc6:=bne_eq_false_iff_eq.1 hc6;refine bO<|bC<|bE<|bB<|bK rfl rfl rfl (bG hT rfl) ?_;refine bK rfl rfl rfl (bG hT rfl) ?_;refine cA<|bC<|bI ?_;exact wZ () rfl (bD rfl) .nil trivial (by unfold rnMust;rw [if_pos hc6];rfl) (by unfold rnMust;rw [if_pos hc6];rfl)
section
variable {P : Program} {ops : Array Oper} {md : Region.Mode} {C : World → Prop} {Q : Exit → Act → World → Prop} {R : List PanicEntry → World → Prop}
def NmP (R:List PanicEntry→World→Prop)(K:Act→World→Prop):Exit→Act→World→Prop:=fun e a w=>(e= .normal∧K a w)∨ ∃ch,e= .panic ch∧R ch w
theorem NmP.out{K:Act→World→Prop}(h:LetsOut (NmP R K)):False:=by
 obtain⟨_,_,h⟩:=h
 rcases h with ⟨h,_⟩ | ⟨_,h,_⟩<;>cases h
theorem NmP.nm{K:Act→World→Prop}{a:Act}{w:World}(h:NmP R K .normal a w):K a w:=by
 rcases h with h | ⟨_,h,_⟩
 ·exact h.2
 ·cases h
theorem NmP.pn{K:Act→World→Prop}{a:Act}{w:World}{ch:List PanicEntry}(h:NmP R K (.panic ch) a w):R ch w:=by
 rcases h with ⟨h,_⟩ | ⟨_,h,h'⟩
 ·cases h
 ·cases h;exact h'
def fOpP (P:Program)(ops:Array Oper)(R:List PanicEntry→World→Prop)(i:Nat)(K:Act→World→Prop)(a:Act)(w:World):Prop:= ∀o,ops[i]?=some o→wpList P ops (NmP R K) [o] a w
theorem wpNmP{o:Oper}{K:Act→World→Prop}{a:Act}{w:World}(h:wpList P ops (NmP R K) [o] a w):if Region.wanted o (yielded ops a.tmps) then o.wp P a w K (NmP R K) else K (a.put o.dst undef) w:=by
 unfold wpList at h;split
 ·rename_i hw;simp only [hw,if_true] at h
  rcases h with h | ⟨_,h⟩
  ·exact Oper.wp_mono (fun a w h=>NmP.nm h) h
  ·exact(NmP.out h).elim
 ·rename_i hw;simp only [hw] at h;exact NmP.nm h
theorem bEy{o:Oper}{K:Act→World→Prop}{a:Act}{w:World}(h:if Region.wanted o (yielded ops a.tmps) then o.wp P a w K (NmP R K) else K (a.put o.dst undef) w):wpList P ops (NmP R K) [o] a w:=by
 unfold wpList;split
 ·rename_i hw;simp only [hw,if_true] at h;exact .inl (Oper.wp_mono (fun a w h=> .inl ⟨rfl,h⟩) h)
 ·rename_i hw;simp only [hw] at h;exact .inl ⟨rfl,h⟩
theorem zJ{o:Oper}{a a':Act}{w:World}{K K':Act→World→Prop}{Q':Exit→Act→World→Prop}(he:execOp a'.eval o=execOp a.eval o)(hK: ∀u w',K (a.put o.dst u) w'→K' (a'.put o.dst u) w')
  (hD: ∀d w',K ({a with defers:=d::a.defers}.put o.dst undef) w'→K' ({a' with defers:=d::a'.defers}.put o.dst undef) w') (hR: ∀ch w',R ch w'→Q' (.panic ch) a' w') (h:o.wp P a w K (NmP R K)):o.wp P a' w K' Q':=by
 unfold Oper.wp at*;rw [he];generalize (execOp a.eval o).run P w=r at*
 cases r with
 | ok n w'=>
  cases n<;>simp only [Oper.upon] at h⊢
  case value u=>exact hK _ _ h
  case skip=>exact hK _ _ h
  case defer d=>exact hD _ _ h
  case enter f args=>
   refine h.mono fun e w'' he=>?_
   cases e with
   | returned v=>exact hK _ _ he
   | panicked c=>exact hR _ _ (NmP.pn he)
   | outgrown=>exact(NmP.out he).elim
  case row row args=>exact h.mono fun _ _ he=>hK _ _ he
 | halt x w'=>
  cases x<;>simp only [Oper.upon] at h⊢
  exact hR _ _ (NmP.pn h)
def bGf (P:Program)(md:Region.Mode)(ops:Array Oper)(C:World→Prop)(R:List PanicEntry→World→Prop)(Q:Exit→Act→World→Prop):Nat→Array Bool→Act→World→Prop
 | 0,listed,a,w=>a.defers=[]∧C w∧Region.ready md ops listed=[]∧Q .normal a w
 | fuel+1,listed,a,w=>a.defers=[]∧C w∧(Region.ready md ops listed=[]→Q .normal a w)∧ ∀i∈Region.ready md ops listed,fOpP P ops R i (bGf P md ops C R Q fuel (listed.setIfInBounds i true)) a w
theorem tB(hQ: ∀ch a w,a.defers=[]→R ch w→Q (.panic ch) a w): ∀(fuel:Nat) (listed:Array Bool) (a:Act) (w:World),bGf P md ops C R Q fuel listed a w→wpAny P md ops Q fuel listed a w
 | 0,_,_,_,h=>h.2.2
 | fuel+1,listed,a,w,h=>by
  refine⟨h.2.2.1,fun i hi=>?_⟩;have hf:=h.2.2.2 i hi;unfold wpOp;split
  ·rename_i ho;obtain⟨_,oi,hoi,_⟩:=mem_ready.1 hi;rw [ho] at hoi;cases hoi
  ·rename_i o ho;have h1:=wpNmP (hf o ho);split
   ·rename_i hw;simp only [hw,if_true] at h1;exact .inl (zJ rfl (fun u w' h'=>tB hQ fuel _ _ _ h') (fun d w' h'=>tB hQ fuel _ _ _ h') (fun ch w' hr=>hQ ch _ _ h.1 hr) h1)
   ·rename_i hw;simp only [hw] at h1;exact tB hQ fuel _ _ _ h1
theorem Fl.fOpP{i:Nat}{o:Oper}{v:Value}{a:Act}{w:World}(hi:ops[i]?=some o)(hy:Fl P ops C o v a)(hC:C w){K:Act→World→Prop}(h:K (a.put o.dst v) w):fOpP P ops R i K a w:=fun o' ho'=>by
 have:o'=o:=Option.some.inj (ho'.symm.trans hi);subst this;apply bEy
 rcases hy with ⟨hw,hv⟩ | ⟨hw,rfl⟩
 ·simp only [hw,if_true,Oper.wp,hv w hC,Oper.upon];exact h
 ·simp only [hw,Bool.false_eq_true,if_false];exact h
theorem fOpP_put{j:Nat}{oi oj:Oper}{v:Value}(hj:ops[j]?=some oj)(hap:oi.apart ops oj=true)
  (hsi: ∀cs b,oi.op≠ .select cs b) (hsj: ∀cs b,oj.op≠ .select cs b) {K:Act→World→Prop} {a:Act} {w:World}
  (hy:Fl P ops C oi v a) (h:fOpP P ops R j K (a.put oi.dst v) w):fOpP P ops R j (fun a' w'=>Fl P ops C oi v a'∧K (a'.put oi.dst v) w') a w:=fun o ho=>by
 have:o=oj:=Option.some.inj (ho.symm.trans hj);subst this;obtain⟨h1,h2,h3⟩:=Oper.apart_spec hap
 have keep: ∀(a:Act),Fl P ops C oi v a→ ∀u,Fl P ops C oi v (a.put o.dst u):=fun a hy u=>
  hy.of_same (execOp_put oi hsi a o.dst u h3) (wanted_put oi a o.dst u h3)
 have h:=wpNmP (h o ho);rw [wanted_put o a oi.dst v h1] at h;apply bEy;split
 ·rename_i hw;simp only [hw,if_true] at h;refine zJ (execOp_put o hsj a oi.dst v h1).symm (fun u w' h'=>⟨keep a hy u,by rw [←Act.put_comm a v u h2];exact h'⟩) (fun d w' h'=>?_) (fun ch w' hr=> .inr ⟨ch,rfl,hr⟩) h;refine⟨keep {a with defers:=d::a.defers} hy undef,?_⟩;rw [←Act.put_comm {a with defers:=d::a.defers} v undef h2]
  have:({a.put oi.dst v with defers:=d::(a.put oi.dst v).defers}:Act)=({a with defers:=d::a.defers}:Act).put oi.dst v:=by
   cases oi.dst<;>rfl
  rw [←this];exact h'
 ·rename_i hw;simp only [hw] at h;exact⟨keep a hy _,by rw [←Act.put_comm a v undef h2];exact h⟩
theorem bJu{i:Nat}{K K':Act→World→Prop}{a:Act}{w:World}(hk: ∀a w,K a w→K' a w)(h:fOpP P ops R i K a w):fOpP P ops R i K' a w:=fun o ho=>by
 have h:=wpNmP (h o ho);apply bEy;split
 ·rename_i hw;simp only [hw,if_true] at h;exact zJ rfl (fun u w' h'=>hk _ _ h') (fun d w' h'=>hk _ _ h') (fun ch w' hr=> .inr ⟨ch,rfl,hr⟩) h
 ·rename_i hw;simp only [hw] at h;exact hk _ _ h
theorem put_nod{a:Act}{d:Option Tmp}{v:Value}(h:(a.put d v).defers=[]):a.defers=[]:=by cases d<;>exact h
theorem wpAnyP_first{i:Nat}{oi:Oper}{v:Value}(hi:ops[i]?=some oi)(hsel: ∀(j:Nat) (o:Oper) cs b,ops[j]?=some o→o.op≠ .select cs b):
  ∀(fuel:Nat) (listed:Array Bool) (a:Act) (w:World),
   (∀j oj,ops[j]?=some oj→j≠i→listed.getD j true=false→(∀e∈oj.after,Region.binds md e=true→e.on≠i)→oi.apart ops oj=true)→
   i∈Region.ready md ops listed→Fl P ops C oi v a→
   bGf P md ops C R Q fuel (listed.setIfInBounds i true) (a.put oi.dst v) w→bGf P md ops C R Q (fuel+1) listed a w:=by
 intro fuel
 induction fuel with
 | zero=>
  intro listed a w _ hr hy H;refine⟨put_nod H.1,H.2.1,fun h=>(by rw [h] at hr;cases hr),fun j hj=>?_⟩
  by_cases hji:j=i
  ·subst hji;exact hy.fOpP hi H.2.1 H
  ·have:=ready_mono hj hji;rw [H.2.2.1] at this;cases this
 | succ fuel ih=>
  intro listed a w hfree hr hy H;refine⟨put_nod H.1,H.2.1,fun h=>(by rw [h] at hr;cases hr),fun j hj=>?_⟩
  by_cases hji:j=i
  ·subst hji;exact hy.fOpP hi H.2.1 H
  ·have h1:=H.2.2.2 j (ready_mono hj hji);obtain⟨hjun,oj,hoj,hall⟩:=mem_ready.1 hj
   have hnot: ∀e∈oj.after,Region.binds md e=true→e.on≠i:=fun e he hb heq=>by
    have h1:=hall e he hb;have h0:=(mem_ready.1 hr).1;rw [heq] at h1
    rcases Nat.lt_or_ge i listed.size with h' | h'
    ·simp [h'] at h0 h1;rw [h0] at h1;cases h1
    ·simp [Array.getElem?_eq_none h'] at h1
   have h2:=fOpP_put hoj (hfree j oj hoj hji hjun hnot) (fun cs b=>hsel i oi cs b hi) (fun cs b=>hsel j oj cs b hoj) hy h1;have hfree': ∀k ok,ops[k]?=some ok→k≠i→(listed.setIfInBounds j true).getD k true=false→
     (∀e∈ok.after,Region.binds md e=true→e.on≠i)→oi.apart ops ok=true:=fun k ok hk hki hun hno=>by
    refine hfree k ok hk hki ?_ hno
    by_cases hjk:j=k
    ·subst hjk;exact hjun
    ·rw [getD_set_ne true hjk] at hun;exact hun
   refine bJu (fun a' w' h3=>ih (listed.setIfInBounds j true) a' w' hfree' (ready_mono hr (Ne.symm hji)) h3.1 ?_) h2;rw [Array.setIfInBounds_comm _ _ hji];exact h3.2
def pP (P:Program)(ops:Array Oper)(C:World→Prop)(R:List PanicEntry→World→Prop)(Q:Exit→Act→World→Prop):List (Bool×Nat)→Act→World→Prop
 | [],a,w=>a.defers=[]∧Q .normal a w
 | (true,k)::r,a,w=> ∃o v,ops[k]?=some o∧Fl P ops C o v a∧pP P ops C R Q r (a.put o.dst v) w
 | (false,k)::r,a,w=>a.defers=[]∧fOpP P ops R k (fun a w=>C w∧pP P ops C R Q r a w) a w
theorem wN(hs:Region.noSelect ops=true): ∀(l:List (Bool×Nat)) (listed:Array Bool) (a:Act) (w:World),bCv md ops l listed=true→C w→pP P ops C R Q l a w→bGf P md ops C R Q l.length listed a w
 | [],listed,a,w,hB,hC,h=>⟨h.1,hC,by simpa [bCv] using hB,h.2⟩
 | (true,k)::r,listed,a,w,hB,hC,h=>by
  simp only [bCv,Bool.and_eq_true] at hB;obtain⟨o,v,ho,hy,hK⟩:=h;exact wpAnyP_first ho (Region.noSelect_spec hs) r.length listed a w (Region.free_spec ho hB.1.2) (by simpa using hB.1.1) hy (wN hs r _ _ _ hB.2 hC hK)
 | (false,k)::r,listed,a,w,hB,hC,h=>by
  simp only [bCv,Bool.and_eq_true,beq_iff_eq] at hB;refine⟨h.1,hC,fun h0=>(by rw [hB.1] at h0;cases h0),fun i hi=>?_⟩;rw [hB.1] at hi;have:i=k:=by simpa using hi
  subst this;exact bJu (fun a' w' h'=>wN hs r _ _ _ hB.2 h'.1 h'.2) h.2
end
section
variable {P : Program} {β : fY} {n : Nat} {Γ : Env} {H : List bX} {F : List bU} {Q : Exit → Act → World → Prop} {K : Act → World → Prop} {Hk : List bX} {F0 : List bU} {ops : Array Oper} {R : List PanicEntry → World → Prop}
def Pans (Q:Exit→Act→World→Prop)(R:List PanicEntry→World→Prop):Prop:= ∀ch a w,a.defers=[]→R ch w→Q (.panic ch) a w
theorem bKh(h:Pans Q R):Pans (Exit.then K Q) R:=h
theorem bDp{i:Nat}(h:Pans Q R):Pans (Exit.inBlock i Q) R:=h
theorem bDi(h:Pans Q R):Pans (Exit.noGoto Q) R:=h
def PanE {ι:Type}(β:fY)(p:ι→Option Value)(ch:List PanicEntry)(w':World):Prop:= ∃x S' u,p x=some u∧ch=raise u∧St β [] S' w'
theorem bIw{ι:Type}{fn:Func}{p:ι→Option Value}{val:ι→Value}{Hout:ι→List bX}{post:ι→List bU}:Pans (bodyPost P fn (bFy β p val Hout post)) (PanE β p):=by
 rintro ch a w hd ⟨x,S',u,hp,rfl,s⟩;exact⟨hd,x,S',.inr ⟨u,hp,rfl,s⟩⟩
theorem at_mixP{id:Nat}{l:List Oper}(Hk:List bX)(F0:List bU)(od:List (Bool×Nat))(hQ:Pans Q R)(hm:P.follows .mixedOrders=true)(hB:mixOk od l.toArray=true)(hH:Sel H Hk)(hF:bQ F F0)
  (h:At β n Γ H F (pP P l.toArray (StF β Hk F0) R Q od)):At β n Γ H F ((Code.region id l.toArray true).wp P Q):=fun a w S f s k=>by
 simp only [mixOk,Bool.and_eq_true] at hB;have hw:=StF.drew ⟨S,s,k⟩;obtain⟨S',s',k'⟩:=hw;refine wp_region_any hm (tB (C:=StF β Hk F0) hQ _ _ _ _ ?_);have:=wN (P:=P) (md:= .any) (C:=StF β Hk F0) (Q:=Q) hB.1.1 od (Array.replicate l.toArray.size false) a _ hB.2 (StF.sel hH hF ⟨S',s',k'⟩) (h a _ S' f s' k')
 rwa [Nat.eq_of_beq_eq_true hB.1.2] at this
theorem atp_nil{C:World→Prop}(h:At β n Γ H F (Q .normal)):At β n Γ H F (pP P ops C R Q []):=fun a w S f s k=>⟨f.defers,h a w S f s k⟩
theorem iR{r:List (Bool×Nat)}{o:Oper}{k d:Nat}{v:Value}(hk:ops[k]?=some o)(hw:want ops Γ o=some true)(hd:o.dst=some d)(hn:Nat.blt d n=true)(h:Sti P β n Γ Hk F0 o v)
  (K:At β n ((d,v)::Γ) H F (pP P ops (StF β Hk F0) R Q r)):At β n Γ H F (pP P ops (StF β Hk F0) R Q ((true,k)::r)):=fun a w S f s hF=>by
 refine⟨o,v,hk,.inl ⟨f.want hw,fun w' ⟨S',s',k'⟩=>h a w' S' f s' k'⟩,?_⟩;rw [hd];exact K _ _ S (f.put (by simpa [Nat.blt_eq] using hn) v) s hF
theorem tY{r:List (Bool×Nat)}{o:Oper}{k:Nat}{C:World→Prop}(hk:ops[k]?=some o)(h:At β n Γ H F (wpList P ops (NmP R fun a w=>C w∧pP P ops C R Q r a w) [o])):At β n Γ H F (pP P ops C R Q ((false,k)::r)):=fun a w S f s hF=>⟨f.defers,fun o' ho'=>by
 have:o'=o:=Option.some.inj (ho'.symm.trans hk);subst this
 exact h a w S f s hF⟩
theorem uK{r:List (Bool×Nat)}(hH:Sel H Hk)(hF:bQ F F0)(h:At β n Γ H F (pP P ops (StF β Hk F0) R Q r)):At β n Γ H F (wpList P ops (NmP R fun a w=>StF β Hk F0 w∧pP P ops (StF β Hk F0) R Q r a w) []):=fun a w S f s k=>
 .inl ⟨rfl,StF.sel hH hF ⟨S,s,k⟩,h a w S f s k⟩
theorem atp_pan{ι:Type}{p:ι→Option Value}{u:Value}(x:ι)(he:p x=some u):At β n Γ H F (NmP (PanE β p) K (.panic (raise u))):=fun _ _ S _ s _=> .inr ⟨_,rfl,x,S,u,he,rfl,s.sel .nil⟩
end
def vU (l:List OpC)(loops mem:Nat):Prop:= ∀o∈l,(o.how=3→0≤o.k∧o.k.toNat<loops)∧(o.how=4→0≤o.k∧o.k.toNat<mem)
theorem rK{α β:Type}{r:Rn α}{f:α→β}:fR (r.map f)=fR r:=by cases r<;>rfl
theorem jN{α β:Type}{r:Rn α}{f:α→Rn β}{u:Value}(h:fR r=some u):fR (r.bind f)=some u:=by
 cases r with
 | ok v=>cases h
 | error e=>exact h
section
variable {ds at_ : List Int} {mem : List (List Int)} {l : List OpC} {i n : Nat} {x : OpC} {t t' d : List Int} {R : Rn (List Int)} {u : Value} {v y z : Int}
theorem ops_at(h:R=rnOps ds mem at_ (l.drop i) t)(hx:l[i]?=some x):R=(jX ds mem at_ x t).bind (rnOps ds mem at_ (l.drop (i+1))):=by
 obtain⟨hlt,e⟩:=List.getElem?_eq_some_iff.1 hx;rw [h,←List.getElem_cons_drop hlt,e];rfl
theorem oP(h:R=rnOps ds mem at_ (l.drop i) t)(hx:l[i]?=some x)(hs:jX ds mem at_ x t= .ok t'):R=rnOps ds mem at_ (l.drop (i+1)) t':=by
 rw [ops_at h hx,hs];rfl
theorem xG(hR:rnOps ds mem at_ l []=R)(h:R=rnOps ds mem at_ (l.drop i) t)(hx:l[i]?=some x)(hp:fR (jX ds mem at_ x t)=some u):fR (dR ds mem at_ l)=some u:=by
 unfold dR;rw [rK,hR,ops_at h hx];exact jN hp
theorem one_end(hR:rnOps ds mem at_ l []=R)(h:R=rnOps ds mem at_ (l.drop i) [v])(hi:l.length≤i):dR ds mem at_ l= .ok v:=by
 unfold dR;rw [hR,h,List.drop_of_length_le hi];rfl
theorem op1(h:x.how=1):jX ds mem at_ x t= .ok (x.n::t):=by unfold jX;rw [if_pos h]
theorem op2p(h:x.how=2):fR (jX ds mem at_ x t)=fR (rnVal ds x.p 121):=by
 unfold jX;rw [if_neg (by omega),if_pos h,rK]
theorem op2(h:x.how=2)(hp:fR (rnVal ds x.p 121)=none):jX ds mem at_ x t= .ok (rval 0 (rnVal ds x.p 121)::t):=by
 unfold jX;rw [if_neg (by omega),if_pos h];obtain⟨w,e⟩:=mU hp;rw [e];rfl
theorem op3(h:x.how=3)(hk:at_[x.k.toNat]?=some v):jX ds mem at_ x t= .ok (v::t):=by
 unfold jX;rw [if_neg (by omega),if_neg (by omega),if_pos h,List.getD_eq_getElem?_getD,hk];rfl
theorem op4p(h:x.how=4)(hv:v<0∨ ∃d,mem[x.k.toNat]?=some d∧(d.length:Int)≤v):fR (jX ds mem at_ x (v::t))=some (bDb 121):=by
 unfold jX;rw [if_neg (by omega),if_neg (by omega),if_neg (by omega),if_pos h];show fR (if v<0∨((mem.getD x.k.toNat []).length:Int)≤v then _ else _)=_;rw [if_pos]
 ·rfl
 ·rcases hv with hv | ⟨d,hd,hv⟩
  ·exact .inl hv
  ·rw [List.getD_eq_getElem?_getD,hd];exact .inr hv
theorem op4(h:x.how=4)(h0:0≤v)(hd:mem[x.k.toNat]?=some d)(hy:d[v.toNat]?=some y):jX ds mem at_ x (v::t)= .ok (y::t):=by
 unfold jX;rw [if_neg (by omega),if_neg (by omega),if_neg (by omega),if_pos h];have hlt:=(List.getElem?_eq_some_iff.1 hy).1;have hg:mem.getD x.k.toNat []=d:=by rw [List.getD_eq_getElem?_getD,hd];rfl
 show(if v<0∨((mem.getD x.k.toNat []).length:Int)≤v then _ else Except.ok ((mem.getD x.k.toNat []).getD v.toNat 0::t))=_;rw [hg,if_neg (by omega),List.getD_eq_getElem?_getD,hy];rfl
theorem op5p(h:x.how=5):fR (jX ds mem at_ x (v::t))=fR (rnMust (monadW x.fn v)):=by
 unfold jX;rw [if_neg (by omega),if_neg (by omega),if_neg (by omega),if_neg (by omega),if_pos h];exact rK
theorem op5(h:x.how=5)(hp:fR (rnMust (monadW x.fn v))=none):jX ds mem at_ x (v::t)= .ok (rval 0 (rnMust (monadW x.fn v))::t):=by
 unfold jX;rw [if_neg (by omega),if_neg (by omega),if_neg (by omega),if_neg (by omega),if_pos h];obtain⟨w,e⟩:=mU hp;show(rnMust (monadW x.fn v)).map _=_;rw [e];rfl
theorem op6p(h:x.how=6):fR (jX ds mem at_ x (y::v::t))=fR (rnMust (dyadW x.fn v y)):=by
 unfold jX;rw [if_neg (by omega),if_neg (by omega),if_neg (by omega),if_neg (by omega),if_neg (by omega)];exact rK
theorem op6(h:x.how=6)(hp:fR (rnMust (dyadW x.fn v y))=none):jX ds mem at_ x (y::v::t)= .ok (rval 0 (rnMust (dyadW x.fn v y))::t):=by
 unfold jX;rw [if_neg (by omega),if_neg (by omega),if_neg (by omega),if_neg (by omega),if_neg (by omega)];obtain⟨w,e⟩:=mU hp;show(rnMust (dyadW x.fn v y)).map _=_;rw [e];rfl
theorem xD(h:Deep (l.drop i) n)(hx:l[i]?=some x):0≤dB x.how∧dB x.how≤n∧Deep (l.drop (i+1)) (n+1-(dB x.how).toNat):=by
 obtain⟨hlt,e⟩:=List.getElem?_eq_some_iff.1 hx;rw [←List.getElem_cons_drop hlt,e] at h;exact h
theorem bJg(h:Deep (l.drop i) n)(hx:l[i]?=some x)(hh:x.how=1∨x.how=2∨x.how=3):Deep (l.drop (i+1)) (n+1):=by
 have h1:=xD h hx;have e:dB x.how=0:=by unfold dB;rw [if_pos hh]
 rw [e] at h1;exact h1.2.2
theorem deep1(h:Deep (l.drop i) t.length)(hx:l[i]?=some x)(hh:x.how=4∨x.how=5): ∃v t',t=v::t'∧Deep (l.drop (i+1)) (t'.length+1):=by
 have h1:=xD h hx;have e:dB x.how=1:=by unfold dB;rw [if_neg (by omega),if_pos hh]
 rw [e] at h1
 cases t with
 | nil=>have:=h1.2.1;simp at this
 | cons v t'=>exact⟨v,t',rfl,by simpa using h1.2.2⟩
theorem deep2(h:Deep (l.drop i) t.length)(hx:l[i]?=some x)(hh:x.how=6): ∃b a t',t=b::a::t'∧Deep (l.drop (i+1)) (t'.length+1):=by
 have h1:=xD h hx;have e:dB x.how=2:=by unfold dB;rw [if_neg (by omega),if_neg (by omega),if_pos hh]
 rw [e] at h1
 match t,h1 with
 | [],h1=>have:=h1.2.1;simp at this
 | [_],h1=>have:=h1.2.1;simp at this
 | b::a::t',h1=>exact⟨b,a,t',rfl,by simpa using h1.2.2⟩
theorem deepE(h:Deep (l.drop i) t.length)(hi:l.length≤i): ∃v,t=[v]:=by
 rw [List.drop_of_length_le hi] at h;exact List.length_eq_one_iff.1 h
end
set_option maxHeartbeats 1000000 in
set_option maxRecDepth 100000 in
theorem bJk(mb:Nat)(m:gF)(a:Option Addr×Nat)(l:Sl OpV)(aA:Option Addr)(an ac:Nat)(at_:List Int)(han:an=at_.length)(hl:l.list.length≤1000)(hO:vU (opsL l.list) at_.length m.mem.list.length)(hD:Deep (opsL l.list) 0)(hdl:m.dims.list.length≤140737488355328):rC Tryz.prog 92 [.pointer (some ⟨mb,0,none⟩),.slice l.addr l.list.length l.cap,.slice aA an ac] (cQ.row (.slice aA an ac) 2 at_::maH mb (m.st a [])) [bDg l,cQ.sl (.slice m.dims.addr m.dims.list.length m.dims.cap) m.dims.list] (fun(_:Option Addr×Nat)=>fR (dR m.dims.list (memL m) at_ (opsL l.list))) (fun(_:Option Addr×Nat)=> .int .i64 (rval 0 (dR m.dims.list (memL m) at_ (opsL l.list)))) (fun(x:Option Addr×Nat)=>cQ.row (.slice aA an ac) 2 at_::maH mb (m.st x [])) (fun _=>[]):=by
 have hT:=cZ;subst han
 obtain⟨R,hR⟩: ∃R,rnOps m.dims.list (memL m) at_ (opsL l.list) []=R:=⟨_,rfl⟩
 refine mX Tryz.func92 rfl Tryz.ntmps92 rfl ?_;intro β hM;refine bE<|cL (opE.sl (.slice l.addr l.list.length l.cap) l.list) (opsF_s (Has.of (.head _))) ?_;refine cL (bU.each l.list opF) (opsF_e (Has.of (.tail _ (.head _)))) ?_;refine bB<|bK rfl rfl rfl (bG hT rfl) ?_;refine cA<|bC<|bE<|bE<|bB<|bK rfl rfl rfl (bG hT rfl) ?_;refine bK rfl rfl rfl (bG hT rfl) ?_;refine bK rfl rfl rfl (bG hT rfl) ?_;refine cA<|bC<|bW<|mJ (ι:=(Option Addr×Nat)×List Int×Nat) [(0,_),(1,_),(2,_),(12,_)] ⟨rfl,rfl,rfl,rfl,trivial⟩ (fun⟨a,t,i⟩=>[(13,.int .i64 (i:Nat))]) (fun⟨a,t,i⟩=>cQ.row (.slice aA at_.length ac) 2 at_::maH mb (m.st a t.reverse)) (fun⟨a,t,i⟩=>[bU.pure (i≤l.list.length∧t.length≤i∧Deep ((opsL l.list).drop i) t.length∧R=rnOps m.dims.list (memL m) at_ ((opsL l.list).drop i) t)]) (fun⟨a,t,i⟩=>l.list.length-i) (a,[],0) ⟨rfl,trivial⟩ (List.Perm.refl _) ⟨Has.pure (⟨by omega,by simp,hD,hR.symm⟩),trivial⟩ ?_;rintro⟨a,t,i⟩;dsimp only;refine cD (Has.of (.head _)) fun hinv2=>?_;have hR2:=hinv2.2.2.2;have hD2:=hinv2.2.2.1;have ht2:=hinv2.2.1;refine bE<|bB<|bK rfl rfl rfl (bG hT rfl) ?_;refine cA<|bC<|bE<|bL rfl (fun hc14=>?_) (fun hc14=>?_)
 ·have hc14:=of_decide_eq_true hc14;refine bO<|bC<|bE<|bW<|bE<|bB<|bK rfl rfl rfl (bG hT rfl) ?_;refine bK rfl rfl rfl (bG hT rfl) ?_;refine cA<|bC<|bE<|bB<|bK rfl rfl rfl (bG hT rfl) ?_;refine bK rfl rfl rfl (bG hT rfl) ?_
  obtain⟨x1,hx2⟩: ∃x',l.list[i]?=some x':=⟨_,List.getElem?_eq_getElem (by omega)⟩
  refine bK rfl rfl rfl (bV hT (k:=i) (bP (Has.of (.tail _ (.tail _ (.head _))))) rfl rfl rfl rfl rfl rfl rfl (by omega)) ?_;refine bK rfl rfl rfl (bG hT rfl) ?_;refine cA<|bC<|bE<|bB<|bK rfl rfl rfl (bG hT rfl) ?_;refine bK rfl rfl rfl (bG hT rfl) ?_;refine bK rfl rfl rfl (bG hT rfl) ?_;refine bK rfl rfl rfl (bR hT (cM.knows (bP (Has.of (.tail _ (.tail _ (.head _))))) (k:=i) (x:=x1) hx2 0) rfl rfl rfl rfl rfl) ?_;refine cA<|bC<|bW<|bE<|bB<|bK rfl rfl rfl (bG hT rfl) ?_;refine bK rfl rfl rfl (bG hT rfl) ?_;refine cA<|bC<|bL rfl (fun hc23=>?_) (fun hc23=>?_)
  ·have hc23:=eq_of_beq hc23;have hh:x1.c.how=1:=hc23;refine bB<|bK rfl rfl rfl (bG hT rfl) ?_;refine bK rfl rfl rfl (bG hT rfl) ?_;refine bK rfl rfl rfl (bG hT rfl) ?_;refine bK rfl rfl rfl (bG hT rfl) ?_;refine bK rfl rfl rfl (bR hT (cM.knows (bP (Has.of (.tail _ (.tail _ (.head _))))) (k:=i) (x:=x1) hx2 2) rfl rfl rfl rfl rfl) ?_;refine cK Tryz.func145 (nF mb m a t (x1.n) (by first | omega | (simp only [List.length_cons] at*;omega) | (simp only [List.length_nil] at*;omega))) rfl rfl (.cons (.tail .head) (.cons (.tail .head) .nil)) trivial fun a3=>?_;refine cA<|bY<|bY<|bC<|bB<|bK rfl rfl rfl (bG hT rfl) ?_;refine bZ (z':=(((i+1):Nat):Int)) (cV (by omega) (by omega)) ?_;refine bK rfl rfl rfl (bG hT rfl) ?_;refine cA<|bC<|gB (.cons (.tail (.tail .head)) (.cons .head (.cons .head (.cons .head Sel.self)))) ?_;exact gH (a3,((x1.n)::t),i+1) (by dsimp only;omega) ⟨rfl,trivial⟩ ⟨rfl,rfl,rfl,rfl,trivial⟩ (List.Perm.refl _) ⟨Has.pure (⟨by dsimp only;omega,by dsimp only;first | omega | (simp only [List.length_cons] at*;omega) | (simp only [List.length_nil] at*;omega),by dsimp only;exact bJg hD2 (dL hx2) (.inl hh),by dsimp only;exact oP hR2 (dL hx2) (op1 hh)⟩),trivial⟩ (bQ.drop 1)
  ·have hc23:=beq_eq_false_iff_ne.1 hc23;refine bE<|bB<|bK rfl rfl rfl (bG hT rfl) ?_;refine bK rfl rfl rfl (bG hT rfl) ?_;refine cA<|bC<|bL rfl (fun hc31=>?_) (fun hc31=>?_)
   ·have hc31:=eq_of_beq hc31;have hh:x1.c.how=2:=hc31;refine bB<|bK rfl rfl rfl (bG hT rfl) ?_;refine bK rfl rfl rfl (bG hT rfl) ?_;refine bK rfl rfl rfl (bG hT rfl) ?_;refine bK rfl rfl rfl (bG hT rfl) ?_;refine bK rfl rfl rfl (bG hT rfl) ?_;refine bK rfl rfl rfl (bR hT (cM.knows (bP (Has.of (.tail _ (.tail _ (.head _))))) (k:=i) (x:=x1) hx2 3) rfl rfl rfl rfl rfl) ?_;refine cL (opF x1) (Has.each (Has.of (.tail _ (.head _))) (List.mem_of_getElem? hx2)) ?_;refine jK (cE Tryz.func89 rfl rfl) (pW mb (m.st a t.reverse) x1.p 121 hdl) rfl rfl rfl rfl rfl (.cons (.tail .head) .nil) ⟨Has.of (.head _),Has.of (.tail _ (.tail _ (.tail _ (.tail _ (.tail _ (.head _)))))),trivial⟩ ?_ ?_
    ·intro y5 u4 hp6;refine gQ ?_;refine gQ ?_;refine dK ?_;refine dK ?_;refine gQ ?_;refine dK ?_;exact gJ a (xG hR hR2 (dL hx2) ((op2p hh).trans hp6))
    rintro _ hp7;refine cK Tryz.func145 (nF mb m a t (rval 0 (rnVal m.dims.list x1.p.list 121)) (by first | omega | (simp only [List.length_cons] at*;omega) | (simp only [List.length_nil] at*;omega))) rfl rfl (.cons .head (.cons (.tail .head) .nil)) trivial fun a8=>?_;refine cA<|bY<|bY<|bC<|bB<|bK rfl rfl rfl (bG hT rfl) ?_;refine bZ (z':=(((i+1):Nat):Int)) (cV (by omega) (by omega)) ?_;refine bK rfl rfl rfl (bG hT rfl) ?_;refine cA<|bC<|gB (.cons (.tail (.tail .head)) (.cons .head (.cons .head (.cons .head Sel.self)))) ?_;exact gH (a8,((rval 0 (rnVal m.dims.list x1.p.list 121))::t),i+1) (by dsimp only;omega) ⟨rfl,trivial⟩ ⟨rfl,rfl,rfl,rfl,trivial⟩ (List.Perm.refl _) ⟨Has.pure (⟨by dsimp only;omega,by dsimp only;first | omega | (simp only [List.length_cons] at*;omega) | (simp only [List.length_nil] at*;omega),by dsimp only;exact bJg hD2 (dL hx2) (.inr (.inl hh)),by dsimp only;exact oP hR2 (dL hx2) (op2 hh hp7)⟩),trivial⟩ (bQ.drop 2)
   ·have hc31:=beq_eq_false_iff_ne.1 hc31;refine bE<|bB<|bK rfl rfl rfl (bG hT rfl) ?_;refine bK rfl rfl rfl (bG hT rfl) ?_;refine cA<|bC<|bL rfl (fun hc41=>?_) (fun hc41=>?_)
    ·have hc41:=eq_of_beq hc41;have hh:x1.c.how=3:=hc41;have hk3:=(hO x1.c (List.mem_of_getElem? (dL hx2))).1 hh;have hk30:0≤x1.k:=hk3.1;have hk31:x1.k.toNat<at_.length:=hk3.2
     obtain⟨z,hz⟩: ∃z,at_[x1.k.toNat]?=some z:=⟨_,List.getElem?_eq_getElem hk31⟩
     refine bB<|bK rfl rfl rfl (bG hT rfl) ?_;refine bK rfl rfl rfl (bG hT rfl) ?_;refine bK rfl rfl rfl (bG hT rfl) ?_;refine bK rfl rfl rfl (bG hT rfl) ?_;refine bK rfl rfl rfl (bG hT rfl) ?_;refine bK rfl rfl rfl (bR hT (cM.knows (bP (Has.of (.tail _ (.tail _ (.head _))))) (k:=i) (x:=x1) hx2 1) rfl rfl rfl rfl rfl) ?_;refine bK rfl rfl rfl (bV hT (k:=x1.k.toNat) (cF .head) rfl rfl rfl rfl rfl rfl (by omega) (hk31)) ?_;refine bK rfl rfl rfl (bR hT (cM.knows (cF .head) (k:=x1.k.toNat) (x:=z) hz 0) rfl rfl rfl rfl rfl) ?_;refine cK Tryz.func145 (nF mb m a t (z) (by first | omega | (simp only [List.length_cons] at*;omega) | (simp only [List.length_nil] at*;omega))) rfl rfl (.cons (.tail .head) (.cons (.tail .head) .nil)) trivial fun a9=>?_;refine cA<|bY<|bY<|bC<|bB<|bK rfl rfl rfl (bG hT rfl) ?_;refine bZ (z':=(((i+1):Nat):Int)) (cV (by omega) (by omega)) ?_;refine bK rfl rfl rfl (bG hT rfl) ?_;refine cA<|bC<|gB (.cons (.tail (.tail .head)) (.cons .head (.cons .head (.cons .head Sel.self)))) ?_;exact gH (a9,((z)::t),i+1) (by dsimp only;omega) ⟨rfl,trivial⟩ ⟨rfl,rfl,rfl,rfl,trivial⟩ (List.Perm.refl _) ⟨Has.pure (⟨by dsimp only;omega,by dsimp only;first | omega | (simp only [List.length_cons] at*;omega) | (simp only [List.length_nil] at*;omega),by dsimp only;exact bJg hD2 (dL hx2) (.inr (.inr hh)),by dsimp only;exact oP hR2 (dL hx2) (op3 hh hz)⟩),trivial⟩ (bQ.drop 1)
    ·have hc41:=beq_eq_false_iff_ne.1 hc41;refine bE<|bB<|bK rfl rfl rfl (bG hT rfl) ?_;refine bK rfl rfl rfl (bG hT rfl) ?_;refine cA<|bC<|bL rfl (fun hc52=>?_) (fun hc52=>?_)
     ·have hc52:=eq_of_beq hc52;have hh:x1.c.how=4:=hc52;refine bE ?_;obtain⟨v,t',rfl,hD3⟩:=deep1 hD2 (dL hx2) (.inl hh)
      obtain⟨y4,hy4⟩: ∃y,m.mem.list[x1.k.toNat]?=some y:=⟨_,List.getElem?_eq_getElem ((hO x1.c (List.mem_of_getElem? (dL hx2))).2 hh).2⟩
      have hk0:0≤x1.k:=((hO x1.c (List.mem_of_getElem? (dL hx2))).2 hh).1;refine bB<|bK rfl rfl rfl (bG hT rfl) ?_;refine cK Tryz.func146 (rE mb m a t' v (by first | omega | (simp only [List.length_cons] at*;omega) | (simp only [List.length_nil] at*;omega))) rfl rfl (.cons (.tail .head) (.cons (.tail .head) .nil)) trivial fun _=>?_;refine bK rfl rfl rfl (bG hT rfl) ?_;refine cA<|bC<|bE<|bE<|fJ _ _ [(true,0),(true,1),(true,2),(true,3),(true,4),(true,5),(true,6),(true,7),(true,8),(true,9),(true,10),(true,11),(true,12),(true,13),(true,14),(true,15),(true,16)] dS (by decide+kernel) (.cons .head (.cons .head (.cons .head (.cons .head Sel.self)))) bQ.self ?_;refine puM hT ?_;refine puM hT ?_;refine puM hT ?_;refine cB (fun hg58=>?_) (fun hg58=>?_)
      ·have hg58:=of_decide_eq_true hg58;refine bF rfl rfl rfl rfl ?_;refine bF rfl rfl rfl rfl ?_;refine bF rfl rfl rfl rfl ?_;refine bF rfl rfl rfl rfl ?_;refine bF rfl rfl rfl rfl ?_;refine bF rfl rfl rfl rfl ?_;refine bF rfl rfl rfl rfl ?_;refine bF rfl rfl rfl rfl ?_;refine bF rfl rfl rfl rfl ?_;refine bF rfl rfl rfl rfl ?_;refine bF rfl rfl rfl rfl ?_;refine bF rfl rfl rfl rfl ?_;refine bF rfl rfl rfl rfl ?_;refine puM hT ?_;refine cW<|bC<|cG rfl rfl ?_;refine bB<|bK rfl rfl rfl (kO rfl Tryz.underlying32 (fun _ e=>by cases e) rfl) ?_;refine kQ rfl rfl rfl ?_;refine dK ?_;refine gQ ?_;refine gQ ?_;refine dK ?_;refine dK ?_;refine gQ ?_;refine dK ?_;exact gJ a (xG hR hR2 (dL hx2) (op4p hh (by first | exact .inl ‹_› | exact .inr ⟨_,lB hy4,by assumption⟩)))
      ·have hg58:=Int.not_lt.1 (of_decide_eq_false hg58);refine puM hT ?_;refine puM hT ?_;refine puM hT ?_;refine puM hT ?_;refine stM rfl (bR hT (jD .head) rfl rfl rfl rfl rfl) ?_;refine puM hT ?_;refine puM hT ?_;refine puM hT ?_;refine stM rfl (bR hT (cM.knows (bP (Has.of (.tail _ (.tail _ (.head _))))) (k:=i) (x:=x1) hx2 1) rfl rfl rfl rfl rfl) ?_;refine stM rfl (bV hT (k:=x1.k.toNat) (cF (.tail (.tail (.tail .head)))) rfl rfl rfl rfl rfl rfl (by omega) ((List.getElem?_eq_some_iff.1 hy4).1)) ?_;refine stM rfl (bR hT (cM.knows (cF (.tail (.tail (.tail .head)))) (k:=x1.k.toNat) (x:=y4) hy4 0) rfl rfl rfl rfl rfl) ?_;refine puM hT ?_;refine puM hT ?_;refine puM hT ?_;refine cW<|bC<|bL rfl (fun hc72=>?_) (fun hc72=>?_)
       ·have hc72:=of_decide_eq_true hc72;refine bB<|bK rfl rfl rfl (kO rfl Tryz.underlying32 (fun _ e=>by cases e) rfl) ?_;refine kQ rfl rfl rfl ?_;refine dK ?_;refine gQ ?_;refine gQ ?_;refine dK ?_;refine dK ?_;refine gQ ?_;refine dK ?_;exact gJ a (xG hR hR2 (dL hx2) (op4p hh (by first | exact .inl ‹_› | exact .inr ⟨_,lB hy4,by assumption⟩)))
       ·have hc72:=Int.not_le.1 (of_decide_eq_false hc72);refine bO<|bC<|fJ _ _ [(true,0),(true,1),(true,2),(true,3),(true,5),(true,6),(true,7),(true,8),(true,11),(false,4),(true,9),(true,10),(true,12),(true,13),(false,14)] dS (by decide+kernel) (.cons (.tail (.tail .head)) (.cons (.tail (.tail .head)) (Sel.skip (Sel.skip Sel.self)))) bQ.self ?_;refine puM hT ?_;refine puM hT ?_;refine puM hT ?_;refine puM hT ?_;refine puM hT ?_;refine puM hT ?_;refine puM hT ?_;refine stM rfl (bR hT (cM.knows (bP (Has.of (.tail _ (.tail _ (.head _))))) (k:=i) (x:=x1) hx2 1) rfl rfl rfl rfl rfl) ?_;refine puM hT ?_;refine fN (o:=_) rfl ?_;refine bK rfl rfl rfl (bR hT (jD .head) rfl rfl rfl rfl rfl) ?_;refine fO (.cons (.tail (.tail .head)) (.cons (.tail (.tail .head)) (Sel.skip (Sel.skip Sel.self)))) (bQ.drop 0) ?_;refine stM rfl (bV hT (k:=x1.k.toNat) (cF (.tail .head)) rfl rfl rfl rfl rfl rfl (by omega) ((List.getElem?_eq_some_iff.1 hy4).1)) ?_;refine stM rfl (bR hT (cM.knows (cF (.tail .head)) (k:=x1.k.toNat) (x:=y4) hy4 0) rfl rfl rfl rfl rfl) ?_
        obtain⟨x10,hx11⟩: ∃x',y4.list[v.toNat]?=some x':=⟨_,List.getElem?_eq_getElem (by omega)⟩
        refine stM rfl (bV hT (k:=v.toNat) (pB (x:=y4) (List.mem_cons_of_mem _ (List.mem_cons_of_mem _ (vA hy4)))) rfl rfl rfl rfl rfl rfl (by omega) (by omega)) ?_;refine stM rfl (bR hT (cM.knows (pB (x:=y4) (List.mem_cons_of_mem _ (List.mem_cons_of_mem _ (vA hy4)))) (k:=v.toNat) (x:=x10) hx11 0) rfl rfl rfl rfl rfl) ?_;refine fN (o:=_) rfl ?_;refine cK Tryz.func145 (nF mb m a t' (x10) (by first | omega | (simp only [List.length_cons] at*;omega) | (simp only [List.length_nil] at*;omega))) rfl rfl (.cons .head (.cons .head .nil)) trivial fun a12=>?_;refine fO (.cons (.tail (.tail .head)) (.cons (.tail (.tail .head)) (Sel.skip (Sel.skip Sel.self)))) (bQ.drop 0) ?_;refine cW<|bY<|bY<|bC<|bB<|bK rfl rfl rfl (bG hT rfl) ?_;refine bZ (z':=(((i+1):Nat):Int)) (cV (by omega) (by omega)) ?_;refine bK rfl rfl rfl (bG hT rfl) ?_;refine cA<|bC<|gB (.cons (.tail (.tail .head)) (.cons .head (.cons .head (.cons .head Sel.self)))) ?_;exact gH (a12,((x10)::t'),i+1) (by dsimp only;omega) ⟨rfl,trivial⟩ ⟨rfl,rfl,rfl,rfl,trivial⟩ (List.Perm.refl _) ⟨Has.pure (⟨by dsimp only;omega,by dsimp only;first | omega | (simp only [List.length_cons] at*;omega) | (simp only [List.length_nil] at*;omega),by dsimp only;exact hD3,by dsimp only;exact oP hR2 (dL hx2) (op4 hh (by omega) (lB hy4) hx11)⟩),trivial⟩ (bQ.drop 1)
     ·have hc52:=beq_eq_false_iff_ne.1 hc52;refine bE<|bB<|bK rfl rfl rfl (bG hT rfl) ?_;refine bK rfl rfl rfl (bG hT rfl) ?_;refine cA<|bC<|bL rfl (fun hc89=>?_) (fun hc89=>?_)
      ·have hc89:=eq_of_beq hc89;have hh:x1.c.how=5:=hc89;obtain⟨v,t',rfl,hD3⟩:=deep1 hD2 (dL hx2) (.inr hh);refine at_mixP (R:=PanE β (fun(_:Option Addr×Nat)=>fR (dR m.dims.list (memL m) at_ (opsL l.list)))) _ _ [(true,0),(true,1),(true,2),(true,3),(true,4),(true,5),(false,6),(false,7),(true,8),(true,9),(false,10),(false,11)] (by(repeat (first | refine bKh ?_ | refine bDp ?_ | refine bDi ?_));exact bIw) dS (by decide+kernel) (.cons .head (.cons (.tail (.tail .head)) (Sel.skip (Sel.skip Sel.self)))) bQ.self ?_;refine iR rfl rfl rfl rfl (bG hT rfl) ?_;refine iR rfl rfl rfl rfl (bG hT rfl) ?_;refine iR rfl rfl rfl rfl (bG hT rfl) ?_;refine iR rfl rfl rfl rfl (bG hT rfl) ?_;refine iR rfl rfl rfl rfl (bR hT (cM.knows (bP (Has.of (.tail _ (.tail _ (.head _))))) (k:=i) (x:=x1) hx2 4) rfl rfl rfl rfl rfl) ?_;refine iR rfl rfl rfl rfl (bG hT rfl) ?_;refine tY (o:=_) rfl ?_;refine cK Tryz.func146 (rE mb m a t' v (by first | omega | (simp only [List.length_cons] at*;omega) | (simp only [List.length_nil] at*;omega))) rfl rfl (.cons (.tail .head) (.cons (.tail .head) .nil)) trivial fun _=>?_;refine uK (.cons (.tail (.tail .head)) (.cons (.tail (.tail .head)) (Sel.skip (Sel.skip Sel.self)))) (bQ.drop 0) ?_;refine tY (o:=_) rfl ?_;refine cK Tryz.func147 (Monad_spec x1.fn v) rfl rfl .nil trivial fun _=>?_;refine uK (.cons (.tail (.tail .head)) (.cons (.tail (.tail .head)) (Sel.skip (Sel.skip Sel.self)))) (bQ.drop 0) ?_;refine iR rfl rfl rfl rfl (bG hT rfl) ?_;refine iR rfl rfl rfl rfl (bG hT rfl) ?_;refine tY (o:=_) rfl ?_;refine jK (cE Tryz.func93 rfl rfl) (uR (monadW x1.fn v).1 (monadW x1.fn v).2) rfl rfl rfl rfl rfl .nil trivial ?_ ?_
       ·intro y14 u13 hp15;exact atp_pan a (xG hR hR2 (dL hx2) ((op5p hh).trans hp15))
       rintro _ hp16;refine uK (.cons (.tail (.tail .head)) (.cons (.tail (.tail .head)) (Sel.skip (Sel.skip Sel.self)))) (bQ.drop 0) ?_;refine tY (o:=_) rfl ?_;refine cK Tryz.func145 (nF mb m a t' ((rval 0 (rnMust (monadW x1.fn v)))) (by first | omega | (simp only [List.length_cons] at*;omega) | (simp only [List.length_nil] at*;omega))) rfl rfl (.cons .head (.cons .head .nil)) trivial fun a17=>?_;refine uK (.cons (.tail (.tail .head)) (.cons (.tail (.tail .head)) (Sel.skip (Sel.skip Sel.self)))) (bQ.drop 0) ?_;refine atp_nil ?_;refine bY<|bY<|bC<|bB<|bK rfl rfl rfl (bG hT rfl) ?_;refine bZ (z':=(((i+1):Nat):Int)) (cV (by omega) (by omega)) ?_;refine bK rfl rfl rfl (bG hT rfl) ?_;refine cA<|bC<|gB (.cons (.tail (.tail .head)) (.cons .head (.cons .head (.cons .head Sel.self)))) ?_;exact gH (a17,(((rval 0 (rnMust (monadW x1.fn v))))::t'),i+1) (by dsimp only;omega) ⟨rfl,trivial⟩ ⟨rfl,rfl,rfl,rfl,trivial⟩ (List.Perm.refl _) ⟨Has.pure (⟨by dsimp only;omega,by dsimp only;first | omega | (simp only [List.length_cons] at*;omega) | (simp only [List.length_nil] at*;omega),by dsimp only;exact hD3,by dsimp only;exact oP hR2 (dL hx2) (op5 hh hp16)⟩),trivial⟩ (bQ.drop 1)
      ·have hc89:=beq_eq_false_iff_ne.1 hc89;refine bE<|bB<|bK rfl rfl rfl (bG hT rfl) ?_;refine bK rfl rfl rfl (bG hT rfl) ?_;refine cA<|bC<|bL rfl (fun hc103=>?_) (fun hc103=>?_)
       ·have hc103:=eq_of_beq hc103;have hh:x1.c.how=6:=hc103;refine bE ?_;obtain⟨b,v,t',rfl,hD3⟩:=deep2 hD2 (dL hx2) hh;refine bB<|bK rfl rfl rfl (bG hT rfl) ?_;refine cK Tryz.func146 (rE mb m a (v::t') b (by first | omega | (simp only [List.length_cons] at*;omega) | (simp only [List.length_nil] at*;omega))) rfl rfl (.cons (.tail .head) (.cons (.tail .head) .nil)) trivial fun _=>?_;refine bK rfl rfl rfl (bG hT rfl) ?_;refine cA<|bC<|at_mixP (R:=PanE β (fun(_:Option Addr×Nat)=>fR (dR m.dims.list (memL m) at_ (opsL l.list)))) _ _ [(true,0),(true,1),(true,2),(true,3),(true,4),(true,5),(true,7),(false,6),(false,8),(true,9),(true,10),(false,11),(false,12)] (by(repeat (first | refine bKh ?_ | refine bDp ?_ | refine bDi ?_));exact bIw) dS (by decide+kernel) (.cons (.tail (.tail .head)) (.cons (.tail (.tail .head)) (Sel.skip (Sel.skip Sel.self)))) bQ.self ?_;refine iR rfl rfl rfl rfl (bG hT rfl) ?_;refine iR rfl rfl rfl rfl (bG hT rfl) ?_;refine iR rfl rfl rfl rfl (bG hT rfl) ?_;refine iR rfl rfl rfl rfl (bG hT rfl) ?_;refine iR rfl rfl rfl rfl (bR hT (cM.knows (bP (Has.of (.tail _ (.tail _ (.head _))))) (k:=i) (x:=x1) hx2 4) rfl rfl rfl rfl rfl) ?_;refine iR rfl rfl rfl rfl (bG hT rfl) ?_;refine iR rfl rfl rfl rfl (bG hT rfl) ?_;refine tY (o:=_) rfl ?_;refine cK Tryz.func146 (rE mb m a t' v (by first | omega | (simp only [List.length_cons] at*;omega) | (simp only [List.length_nil] at*;omega))) rfl rfl (.cons .head (.cons .head .nil)) trivial fun _=>?_;refine uK (.cons (.tail (.tail .head)) (.cons (.tail (.tail .head)) (Sel.skip (Sel.skip Sel.self)))) (bQ.drop 0) ?_;refine tY (o:=_) rfl ?_;refine cK Tryz.func94 (uL x1.fn v b) rfl rfl .nil trivial fun _=>?_;refine uK (.cons (.tail (.tail .head)) (.cons (.tail (.tail .head)) (Sel.skip (Sel.skip Sel.self)))) (bQ.drop 0) ?_;refine iR rfl rfl rfl rfl (bG hT rfl) ?_;refine iR rfl rfl rfl rfl (bG hT rfl) ?_;refine tY (o:=_) rfl ?_;refine jK (cE Tryz.func93 rfl rfl) (uR (dyadW x1.fn v b).1 (dyadW x1.fn v b).2) rfl rfl rfl rfl rfl .nil trivial ?_ ?_
        ·intro y19 u18 hp20;exact atp_pan a (xG hR hR2 (dL hx2) ((op6p hh).trans hp20))
        rintro _ hp21;refine uK (.cons (.tail (.tail .head)) (.cons (.tail (.tail .head)) (Sel.skip (Sel.skip Sel.self)))) (bQ.drop 0) ?_;refine tY (o:=_) rfl ?_;refine cK Tryz.func145 (nF mb m a t' ((rval 0 (rnMust (dyadW x1.fn v b)))) (by first | omega | (simp only [List.length_cons] at*;omega) | (simp only [List.length_nil] at*;omega))) rfl rfl (.cons .head (.cons .head .nil)) trivial fun a22=>?_;refine uK (.cons (.tail (.tail .head)) (.cons (.tail (.tail .head)) (Sel.skip (Sel.skip Sel.self)))) (bQ.drop 0) ?_;refine atp_nil ?_;refine bY<|bY<|bC<|bB<|bK rfl rfl rfl (bG hT rfl) ?_;refine bZ (z':=(((i+1):Nat):Int)) (cV (by omega) (by omega)) ?_;refine bK rfl rfl rfl (bG hT rfl) ?_;refine cA<|bC<|gB (.cons (.tail (.tail .head)) (.cons .head (.cons .head (.cons .head Sel.self)))) ?_;exact gH (a22,(((rval 0 (rnMust (dyadW x1.fn v b))))::t'),i+1) (by dsimp only;omega) ⟨rfl,trivial⟩ ⟨rfl,rfl,rfl,rfl,trivial⟩ (List.Perm.refl _) ⟨Has.pure (⟨by dsimp only;omega,by dsimp only;first | omega | (simp only [List.length_cons] at*;omega) | (simp only [List.length_nil] at*;omega),by dsimp only;exact hD3,by dsimp only;exact oP hR2 (dL hx2) (op6 hh hp21)⟩),trivial⟩ (bQ.drop 1)
       ·have hc103:=beq_eq_false_iff_ne.1 hc103
        exfalso
        have hdt:=bJn (xD hD2 (dL hx2)).1;have hho:x1.c.how=x1.how:=rfl;omega
 ·have hc14:=Int.not_lt.1 (of_decide_eq_false hc14);refine cU<|cI<|cI<|cT<|bC<|bE ?_;obtain⟨v,rfl⟩:=deepE hD2 (by rw [dV];omega);refine bB<|bK rfl rfl rfl (bG hT rfl) ?_;refine cK Tryz.func146 (rE mb m a [] v (by first | omega | (simp only [List.length_cons] at*;omega) | (simp only [List.length_nil] at*;omega))) rfl rfl (.cons (.tail .head) (.cons (.tail .head) .nil)) trivial fun _=>?_;refine bK rfl rfl rfl (bG hT rfl) ?_;refine cA<|bC<|bI ?_;have he:=one_end hR hR2 (by rw [dV];omega);exact wZ a rfl (bD rfl) (.cons (.tail (.tail .head)) (.cons .head (.cons .head (.cons .head Sel.self)))) trivial (by rw [he];rfl) (by rw [he];rfl)
theorem val_ok{ds:List Int}{p:List Mono}{e:Int}(h:fR (rnVal ds p e)=none):(evalP p ds).2=0∧rval 0 (rnVal ds p e)=(evalP p ds).1:=by
 unfold rnVal at h⊢;split at h
 ·rename_i h0;rw [if_pos h0];exact⟨h0,rfl⟩
 ·cases h
theorem bHj(C:Int): ∀(ks:List Int) (k n:Int),capN C (ks++[k]) n=min (capN C ks n*k) C
 | [],_,_=>rfl
 | j::ks,k,n=>bHj C ks k (min (n*j) C)
def kkF (how:Int)(N:Nat)(acc:List Int):List Int:=if how=2∧acc.length=N then acc.dropLast++[acc.getLastD 0+1] else acc
theorem kkF_lt{how:Int}{N:Nat}{acc:List Int}(h:acc.length<N):kkF how N acc=acc:=by
 have h1: ¬(how=2∧acc.length=N):=fun e=>absurd e.2 (Nat.ne_of_lt h);unfold kkF;rw [if_neg h1]
theorem kkF_snoc{how:Int}{N:Nat}{acc:List Int}{k:Int}:kkF how N (acc++[k])=acc++[if how=2∧acc.length+1=N then k+1 else k]:=by
 unfold kkF;rw [List.length_append,List.length_singleton];split
 ·rw [List.dropLast_concat];simp
 ·rfl
theorem kkF_end{x:fG}{acc:List Int}(h:acc.length=x.loops.length):gT (kkF x.how x.loops.length acc)*x.ops.length=fH x acc:=by
 unfold fH kkF
 by_cases hh:x.how=2
 ·rw [if_pos ⟨hh,h⟩,if_pos hh]
 ·rw [if_neg (fun e=>hh e.1),if_neg hh]
theorem kkF_pos{how:Int}{N:Nat}{acc:List Int}(h: ∀k∈acc,0≤k): ∀k∈kkF how N acc,0≤k:=by
 unfold kkF;split
 ·intro k hk
  rcases List.mem_append.1 hk with hk | hk
  ·exact h k (List.dropLast_subset _ hk)
  ·have e:k=acc.getLastD 0+1:=by simpa using hk
   cases hl:acc.getLast? with
   | none=>
    have:acc.getLastD 0=0:=by rw [List.getLastD_eq_getLast?,hl];rfl
    omega
   | some z=>
    have hz:acc.getLastD 0=z:=by rw [List.getLastD_eq_getLast?,hl];rfl
    have:=h z (List.mem_of_getLast? hl);omega
 ·exact h
section
variable {ds acc : List Int} {l : List (List Mono)} {p : List Mono} {i : Nat} {Q : Rn (List Int)} {u : Value} {k : Int}
theorem bCr(h:Q=rnLoops ds (l.drop i) acc)(hp:l[i]?=some p):Q=(rnVal ds p 122).bind fun k=>if 65536<k then .error 122 else rnLoops ds (l.drop (i+1)) (acc++[k]):=by
 obtain⟨hlt,e⟩:=List.getElem?_eq_some_iff.1 hp;rw [h,←List.getElem_cons_drop hlt,e];rfl
theorem loops_errV(h:Q=rnLoops ds (l.drop i) acc)(hp:l[i]?=some p)(hu:fR (rnVal ds p 122)=some u):fR Q=some u:=by
 rw [bCr h hp];exact jN hu
theorem loops_big(h:Q=rnLoops ds (l.drop i) acc)(hp:l[i]?=some p)(h0:fR (rnVal ds p 122)=none)(hk:65536<rval 0 (rnVal ds p 122)):fR Q=some (bDb 122):=by
 obtain⟨k,e⟩:=mU h0;rw [e] at hk
 replace hk:65536<k:=hk
 rw [bCr h hp,e];show fR (if 65536<k then _ else _)=_;rw [if_pos hk];rfl
theorem rO(h:Q=rnLoops ds (l.drop i) acc)(hp:l[i]?=some p)(h0:fR (rnVal ds p 122)=none)(hk: ¬65536<rval 0 (rnVal ds p 122)):Q=rnLoops ds (l.drop (i+1)) (acc++[rval 0 (rnVal ds p 122)]):=by
 obtain⟨k,e⟩:=mU h0;rw [e] at hk⊢
 replace hk: ¬65536<k:=hk
 rw [bCr h hp,e];show(if 65536<k then _ else _)=_;rw [if_neg hk];rfl
theorem loops_end(h:Q=rnLoops ds (l.drop i) acc)(hi:l.length≤i):Q= .ok acc:=by
 rw [h,List.drop_of_length_le hi];rfl
end
def gX (ds:List Int)(x:fG)(turns:Int):Rn (List Int):=(rnLoops ds x.loops []).bind fun l=>if 2097152<turns+fH x l then .error 122 else .ok l
theorem bHr{ds:List Int}{x:fG}{t:Int}{Q:Rn (List Int)}{u:Value}(hQ:rnLoops ds x.loops []=Q)(h:fR Q=some u):fR (gX ds x t)=some u:=by
 unfold gX;rw [hQ];exact jN h
theorem bIh{x:fG}{acc:List Int}{n t:Int}(hl:acc.length=x.loops.length)(h0: ∀k∈acc,0≤k)(hL:x.ops.length≤256)(hn:n=capN 4194304 (kkF x.how x.loops.length acc) x.ops.length)(ht:0≤t):
  (¬2097152<t+n→n=fH x acc)∧(2097152<t+n→2097152<t+fH x acc):=by
 have hc:=capN_is (M:=2097152) (C:=4194304) (by decide) (by decide) (ks:=kkF x.how x.loops.length acc) (n:=(x.ops.length:Int)) (kkF_pos h0) (by omega) (by omega);have e:=kkF_end hl;rw [Int.mul_comm] at e;rw [e,←hn] at hc;obtain⟨h1,h2,h3,h4⟩:=hc;refine⟨fun h=>?_,fun h=>?_⟩
 ·by_cases hle:fH x acc≤2097152
  ·exact h3 hle
  ·have:=h4 (by omega);omega
 ·by_cases hle:fH x acc≤2097152
  ·rw [←h3 hle];exact h
  ·omega
theorem count_ok{ds:List Int}{x:fG}{t:Int}{acc:List Int}(hQ:rnLoops ds x.loops []= .ok acc)(h: ¬2097152<t+fH x acc):gX ds x t= .ok acc:=by
 unfold gX;rw [hQ];show(if 2097152<t+fH x acc then _ else _)=_;rw [if_neg h]
theorem count_big{ds:List Int}{x:fG}{t:Int}{acc:List Int}(hQ:rnLoops ds x.loops []= .ok acc)(h:2097152<t+fH x acc):fR (gX ds x t)=some (bDb 122):=by
 unfold gX;rw [hQ];show fR (if 2097152<t+fH x acc then _ else _)=_;rw [if_pos h];rfl
theorem lT{n k:Int}(h0:0≤n)(h1:n≤4194304)(h2:0≤k)(h3:k≤65537):0≤n*k∧n*k≤274882101248:=by
 have a:=Int.mul_nonneg h0 h2;have b:n*k≤4194304*k:=Int.mul_le_mul_of_nonneg_right h1 h2;omega
theorem minI{a:Int}:(if (4194304:Int)<a then (4194304:Int) else a)=min a 4194304:=by
 split<;>omega
theorem rF{acc:List Int}{k:Int}(h: ∀k∈acc,0≤k)(hk:0≤k): ∀j∈acc++[k],0≤j:=fun j hj=>by
 rcases List.mem_append.1 hj with hj | hj
 ·exact h j hj
 ·have:j=k:=by simpa using hj
  omega
theorem count0{how:Int}{l:List PolV}{L:Nat}(hne:how=2→l≠[])(_hL:L≤256):capN 4194304 (kkF how l.length []) L=L:=by
 unfold kkF;rw [if_neg (fun e=>hne e.1 (List.eq_nil_of_length_eq_zero e.2.symm))];rfl
theorem nH{how n n' k k':Int}{N i:Nat}{acc:List Int}{L:Nat}(h:n=capN 4194304 (kkF how N acc) L)(hl:acc.length=i)(hi:i<N)(hk:k'=if how=2∧acc.length+1=N then k+1 else k)(hn:n'=n∨(k'=0∧n'=0)):min (n'*k') 4194304=capN 4194304 (kkF how N (acc++[k])) L:=by
 rw [kkF_snoc,←hk,bHj,←kkF_lt (how:=how) (N:=N) (acc:=acc) (by omega),←h]
 rcases hn with rfl | ⟨rfl,rfl⟩
 ·rfl
 ·rw [Int.mul_zero,Int.mul_zero]
set_option maxRecDepth 100000 in
theorem foldR_spec(x:fV):dM Tryz.prog 87 [.agg #[.int .i64 x.how,.int .i64 x.buf,.slice x.at_.addr x.at_.list.length x.at_.cap,.slice x.loops.addr x.loops.list.length x.loops.cap,.int .u8 x.fn,.slice x.ops.addr x.ops.list.length x.ops.cap]] [] [] (fun(_:Unit)=> .int .i64 (if x.how=2 then 1 else 0)) (fun _=>[]) (fun _=>[]):=by
 have hT:=cZ;refine cO Tryz.func87 rfl Tryz.ntmps87 rfl ?_;intro β hM;refine sr<|gG rfl rfl rfl rfl rfl rfl fun b1=>?_;refine sp hT ?_;refine nn<|bE<|sr<|sp hT ?_;refine ss (ldO hT (dO .head)) ?_;refine sp hT ?_;refine nn<|bL rfl (fun hc5=>?_) (fun hc5=>?_)
 ·have hc5:=eq_of_beq hc5;refine sr<|sp hT ?_;refine nn<|bI<|bH ?_;exact bN () rfl (bD rfl) .nil trivial (by first | rw [if_pos ‹_›] | rw [if_neg ‹_›])
 have hc5:=beq_eq_false_iff_ne.1 hc5;refine bO<|bC<|sr<|sp hT ?_;refine nn<|bI ?_;exact bN () rfl (bD rfl) .nil trivial (by first | rw [if_pos ‹_›] | rw [if_neg ‹_›])
set_option maxHeartbeats 1000000 in
set_option maxRecDepth 100000 in
theorem countR_spec(mb:Nat)(m:gF)(x:fV)(hN: ∀p∈polsL x.loops.list,(evalP p m.dims.list).2=0→0≤(evalP p m.dims.list).1)(hL:x.ops.list.length≤256)(hll:x.loops.list.length≤4)(hne:x.how=2→x.loops.list≠[])(ht0:0≤m.turns)(ht1:m.turns≤2097152)(hdl:m.dims.list.length≤140737488355328):rC Tryz.prog 86 [.pointer (some ⟨mb,0,none⟩),.agg #[.int .i64 x.how,.int .i64 x.buf,.slice x.at_.addr x.at_.list.length x.at_.cap,.slice x.loops.addr x.loops.list.length x.loops.cap,.int .u8 x.fn,.slice x.ops.addr x.ops.list.length x.ops.cap]] [maO mb m] [kB x,cQ.sl (.slice m.dims.addr m.dims.list.length m.dims.cap) m.dims.list] (fun(_:Option Addr×Nat×List Int)=>fR (gX m.dims.list x.c m.turns)) (fun(x':Option Addr×Nat×List Int)=> .slice x'.1 x'.2.2.length x'.2.1) (fun(x':Option Addr×Nat×List Int)=>[maO mb (m.tu (m.turns+fH x.c x'.2.2)),cQ.row (.slice x'.1 x'.2.2.length x'.2.1) 2 x'.2.2]) (fun(x':Option Addr×Nat×List Int)=>[bU.pure ((gX m.dims.list x.c m.turns)= .ok x'.2.2)]):=by
 have hT:=cZ
 obtain⟨Q,hQ⟩: ∃Q,rnLoops m.dims.list x.c.loops []=Q:=⟨_,rfl⟩
 refine mX Tryz.func86 rfl Tryz.ntmps86 rfl ?_;intro β hM;refine bE<|bB<|gG rfl rfl rfl rfl rfl rfl fun b1=>?_;refine bK rfl rfl rfl (bG hT rfl) ?_;refine cA<|bC<|bE<|bB<|bK rfl rfl rfl (bG hT rfl) ?_;refine cA<|bC<|bE<|bB<|bK rfl rfl rfl (bG hT rfl) ?_;refine bK rfl rfl rfl (bR hT (jD .head) rfl rfl rfl rfl rfl) ?_;refine bK rfl rfl rfl (bG hT rfl) ?_;refine bK rfl rfl rfl (bG hT rfl) ?_;refine cA<|bC<|bE<|bE<|cL (pX.sl (.slice x.loops.addr x.loops.list.length x.loops.cap) x.loops.list) (sJ (vL (Has.of (.head _)))) ?_;refine cD (opsF_c (nV (Has.of (.tail _ (.head _))))) fun hoc=>?_;have hoc2:=hoc.2;refine dN (t:=2) cQ ?_;refine bB<|bK rfl rfl rfl (bG hT rfl) ?_;refine bK rfl rfl rfl (bR hT (kA (.tail .head)) rfl rfl rfl rfl rfl) ?_;refine bK rfl rfl rfl (bG hT rfl) ?_;refine bK rfl rfl rfl (bG hT rfl) ?_;refine cA<|bC<|bW<|cX (ι:=Option Addr×Nat×List Int×Nat×Int) [(0,_),(3,_),(14,_),(15,_)] ⟨rfl,rfl,rfl,rfl,trivial⟩ (fun⟨LA,lc,acc,i,n⟩=>[(5,.slice LA acc.length lc),(6,.int .i64 n),(16,.int .i64 (i:Nat))]) (fun⟨LA,lc,acc,i,n⟩=>[cQ.row (.slice LA acc.length lc) 2 acc]) (fun⟨LA,lc,acc,i,n⟩=>[bU.pure (i≤x.loops.list.length∧acc.length=i∧(∀k∈acc,0≤k)∧Q=rnLoops m.dims.list ((polsL x.loops.list).drop i) acc∧n=capN 4194304 (kkF x.how x.loops.list.length acc) x.ops.list.length∧0≤n∧n≤4194304)]) (fun⟨LA,lc,acc,i,n⟩=>x.loops.list.length-i) (none,0,[],0,(x.ops.list.length:Int)) ⟨rfl,rfl,rfl,trivial⟩ (.cons .head .nil) ⟨Has.pure (⟨by omega,rfl,fun _ h=>(by cases h),hQ.symm,(count0 hne hL).symm,by omega,by omega⟩),trivial⟩ ?_;rintro⟨LA,lc,acc,i,n⟩;dsimp only;refine cD (Has.of (.head _)) fun hinv4=>?_;have hal:=hinv4.2.1;have hn1:=hinv4.2.2.2.2.2.1;have hn2:=hinv4.2.2.2.2.2.2;refine bE<|bB<|bK rfl rfl rfl (bG hT rfl) ?_;refine cA<|bC<|bE<|bL rfl (fun hc17=>?_) (fun hc17=>?_)
 ·have hc17:=of_decide_eq_true hc17;refine bO<|bC<|bE<|bW<|bE ?_
  obtain⟨p,hp⟩: ∃x',x.loops.list[i]?=some x':=⟨_,List.getElem?_eq_getElem (by omega)⟩
  refine cL (lS p) (Has.each (sN (vL (Has.of (.tail _ (.tail _ (.head _)))))) (List.mem_of_getElem? hp)) ?_;refine bB<|bK rfl rfl rfl (bG hT rfl) ?_;refine bK rfl rfl rfl (bV hT (k:=i) (bP (Has.of (.tail _ (.tail _ (.head _))))) rfl rfl rfl rfl rfl rfl rfl (by omega)) ?_;refine bK rfl rfl rfl (bR hT (cM.knows (bP (Has.of (.tail _ (.tail _ (.head _))))) (k:=i) (x:=p) hp 0) rfl rfl rfl rfl rfl) ?_;refine bK rfl rfl rfl (bG hT rfl) ?_;refine bK rfl rfl rfl (bG hT rfl) ?_;refine cA<|bC<|bE<|bB<|bK rfl rfl rfl (bG hT rfl) ?_;refine bK rfl rfl rfl (bG hT rfl) ?_;refine jK (cE Tryz.func89 rfl rfl) (pW mb m p 122 hdl) rfl rfl rfl rfl rfl (.cons (.tail (.tail .head)) .nil) ⟨Has.of (.head _),Has.of (.tail _ (.tail _ (.tail _ (.tail _ (.head _))))),trivial⟩ ?_ ?_
  ·intro y3 u2 hpv4;refine dK ?_;refine gQ ?_;refine dK ?_;refine dK ?_;refine gQ ?_;refine dK ?_;exact gJ (none,0,[]) (bHr hQ (loops_errV hinv4.2.2.2.1 (dQ hp) hpv4))
  rintro _ hpv5;have hvk:=val_ok hpv5;have hv0:0≤(rval 0 (rnVal m.dims.list p.list 122)):=by rw [hvk.2];exact hN p.list (List.mem_of_getElem? (dQ hp)) hvk.1
  obtain⟨kv,hkv⟩: ∃kv,(rval 0 (rnVal m.dims.list p.list 122))=kv:=⟨_,rfl⟩
  rw [hkv] at hv0;refine bZ hkv ?_;refine bK rfl rfl rfl (bG hT rfl) ?_;refine cA<|bC<|bE<|bE<|bB<|bK rfl rfl rfl (bG hT rfl) ?_;refine bK rfl rfl rfl (bG hT rfl) ?_;refine cA<|bC<|bL rfl (fun hc25=>?_) (fun hc25=>?_)
  ·have hc25:=of_decide_eq_true hc25;refine bB<|bK rfl rfl rfl (kO rfl Tryz.underlying32 (fun _ e=>by cases e) rfl) ?_;refine kQ rfl rfl rfl ?_;refine dK ?_;refine gQ ?_;refine dK ?_;refine dK ?_;refine gQ ?_;refine dK ?_;exact gJ (none,0,[]) (bHr hQ (loops_big hinv4.2.2.2.1 (dQ hp) hpv5 (by rw [hkv];omega)))
  ·have hc25:=Int.not_lt.1 (of_decide_eq_false hc25);refine bO<|bC<|bE<|bB<|bK rfl rfl rfl (bG hT rfl) ?_;refine bK rfl rfl rfl (bG hT rfl) ?_;refine fF (m:=kv) rfl rfl rfl rfl rfl fun b6=>?_;refine dH (.tail (.tail .head)) (dP .head rfl) rfl rfl rfl rfl rfl rfl rfl (by simp only [List.length_singleton];omega) fun A7 c8=>?_;refine bK rfl rfl rfl (bG hT rfl) ?_;refine cA<|bC<|bE<|bE<|bB<|bK rfl rfl rfl (bG hT rfl) ?_;refine bK rfl rfl rfl (bR hT (dO (.tail (.tail (.tail .head)))) rfl rfl rfl rfl rfl) ?_;refine bK rfl rfl rfl (bG hT rfl) ?_;refine bK rfl rfl rfl (bG hT rfl) ?_;refine cB (fun hg34=>?_) (fun hg34=>?_)
   ·have hg34:=eq_of_beq hg34;refine bK rfl rfl rfl (bG hT rfl) ?_;refine bK rfl rfl rfl (bG hT rfl) ?_;refine bK rfl rfl rfl (bR hT (kA (.tail (.tail (.tail .head)))) rfl rfl rfl rfl rfl) ?_;refine bK rfl rfl rfl (bG hT rfl) ?_;refine bK rfl rfl rfl (bG hT rfl) ?_;refine bZ (gK (by omega) (by omega)) ?_;refine bK rfl rfl rfl (bG hT rfl) ?_;refine bK rfl rfl rfl (bG hT rfl) ?_;refine cA<|bC<|bL rfl (fun hc41=>?_) (fun hc41=>?_)
    ·have hc41:=eq_of_beq hc41;refine bB<|bK rfl rfl rfl (bG hT rfl) ?_;refine bK rfl rfl rfl (bG hT rfl) ?_;refine bZ (gK (by omega) (by omega)) ?_;refine bK rfl rfl rfl (bG hT rfl) ?_;refine cA<|bC<|bE<|bE<|bB<|bK rfl rfl rfl (bG hT rfl) ?_;refine bK rfl rfl rfl (bG hT rfl) ?_;refine cA<|bC<|bL rfl (fun hc45=>?_) (fun hc45=>?_)
     ·have hc45:=eq_of_beq hc45;refine bB<|bK rfl rfl rfl (bG hT rfl) ?_;refine cA<|bC ?_;have hmc:0≤0*(kv+1)∧0*(kv+1)≤274882101248:=lT (by omega) (by omega) (by omega) (by omega);refine bB<|bK rfl rfl rfl (bG hT rfl) ?_;refine bK rfl rfl rfl (bG hT rfl) ?_;refine bK rfl rfl rfl (bG hT rfl) ?_;refine bZ (z':=0*(kv+1)) (gK (by omega) (by omega)) ?_;refine bK rfl rfl rfl (bG hT rfl) ?_;refine bZ (z':=min (0*(kv+1)) 4194304) minI ?_;refine bK rfl rfl rfl (bG hT rfl) ?_;refine cA<|bY<|bC<|bB<|bK rfl rfl rfl (bG hT rfl) ?_;refine bZ (z':=(((i+1):Nat):Int)) (cV (by omega) (by omega)) ?_;refine bK rfl rfl rfl (bG hT rfl) ?_;refine cA<|bC ?_;exact cJ (A7,c8,acc++[kv],i+1,min (0*(kv+1)) 4194304) (by dsimp only;omega) ⟨rfl,rfl,rfl,trivial⟩ ⟨rfl,rfl,rfl,rfl,trivial⟩ (.cons .head (.cons (.tail (.tail .head)) (.cons (.tail .head) .nil))) ⟨Has.pure (⟨by dsimp only;omega,by dsimp only;rw [List.length_append,List.length_singleton];omega,rF hinv4.2.2.1 hv0,by dsimp only;have:=rO hinv4.2.2.2.1 (dQ hp) hpv5 (by rw [hkv];omega);rw [hkv] at this;exact this,by dsimp only;exact nH (k':=(kv+1)) hinv4.2.2.2.2.1 hal (by omega) (by split<;>omega) (by omega),by dsimp only;have:=lT hn1 hn2 hv0 (by omega);have h0:(0:Int)≤0*(kv+1):=Int.mul_nonneg (by omega) (by omega);omega,by dsimp only;omega⟩),trivial⟩ (bQ.drop 2)
     ·have hc45:=beq_eq_false_iff_ne.1 hc45;refine bO<|bC ?_;have hmc:0≤n*(kv+1)∧n*(kv+1)≤274882101248:=lT (by omega) (by omega) (by omega) (by omega);refine bB<|bK rfl rfl rfl (bG hT rfl) ?_;refine bK rfl rfl rfl (bG hT rfl) ?_;refine bK rfl rfl rfl (bG hT rfl) ?_;refine bZ (z':=n*(kv+1)) (gK (by omega) (by omega)) ?_;refine bK rfl rfl rfl (bG hT rfl) ?_;refine bZ (z':=min (n*(kv+1)) 4194304) minI ?_;refine bK rfl rfl rfl (bG hT rfl) ?_;refine cA<|bY<|bC<|bB<|bK rfl rfl rfl (bG hT rfl) ?_;refine bZ (z':=(((i+1):Nat):Int)) (cV (by omega) (by omega)) ?_;refine bK rfl rfl rfl (bG hT rfl) ?_;refine cA<|bC ?_;exact cJ (A7,c8,acc++[kv],i+1,min (n*(kv+1)) 4194304) (by dsimp only;omega) ⟨rfl,rfl,rfl,trivial⟩ ⟨rfl,rfl,rfl,rfl,trivial⟩ (.cons .head (.cons (.tail (.tail .head)) (.cons (.tail .head) .nil))) ⟨Has.pure (⟨by dsimp only;omega,by dsimp only;rw [List.length_append,List.length_singleton];omega,rF hinv4.2.2.1 hv0,by dsimp only;have:=rO hinv4.2.2.2.1 (dQ hp) hpv5 (by rw [hkv];omega);rw [hkv] at this;exact this,by dsimp only;exact nH (k':=(kv+1)) hinv4.2.2.2.2.1 hal (by omega) (by split<;>omega) (by omega),by dsimp only;have:=lT hn1 hn2 hv0 (by omega);have h0:(0:Int)≤n*(kv+1):=Int.mul_nonneg (by omega) (by omega);omega,by dsimp only;omega⟩),trivial⟩ (bQ.drop 2)
    ·have hc41:=beq_eq_false_iff_ne.1 hc41;refine bO<|bC<|bE<|bE<|bB<|bK rfl rfl rfl (bG hT rfl) ?_;refine bK rfl rfl rfl (bG hT rfl) ?_;refine cA<|bC<|bL rfl (fun hc45=>?_) (fun hc45=>?_)
     ·have hc45:=eq_of_beq hc45;refine bB<|bK rfl rfl rfl (bG hT rfl) ?_;refine cA<|bC ?_;have hmc:0≤0*kv∧0*kv≤274882101248:=lT (by omega) (by omega) (by omega) (by omega);refine bB<|bK rfl rfl rfl (bG hT rfl) ?_;refine bK rfl rfl rfl (bG hT rfl) ?_;refine bK rfl rfl rfl (bG hT rfl) ?_;refine bZ (z':=0*kv) (gK (by omega) (by omega)) ?_;refine bK rfl rfl rfl (bG hT rfl) ?_;refine bZ (z':=min (0*kv) 4194304) minI ?_;refine bK rfl rfl rfl (bG hT rfl) ?_;refine cA<|bY<|bC<|bB<|bK rfl rfl rfl (bG hT rfl) ?_;refine bZ (z':=(((i+1):Nat):Int)) (cV (by omega) (by omega)) ?_;refine bK rfl rfl rfl (bG hT rfl) ?_;refine cA<|bC ?_;exact cJ (A7,c8,acc++[kv],i+1,min (0*kv) 4194304) (by dsimp only;omega) ⟨rfl,rfl,rfl,trivial⟩ ⟨rfl,rfl,rfl,rfl,trivial⟩ (.cons .head (.cons (.tail (.tail .head)) (.cons (.tail .head) .nil))) ⟨Has.pure (⟨by dsimp only;omega,by dsimp only;rw [List.length_append,List.length_singleton];omega,rF hinv4.2.2.1 hv0,by dsimp only;have:=rO hinv4.2.2.2.1 (dQ hp) hpv5 (by rw [hkv];omega);rw [hkv] at this;exact this,by dsimp only;exact nH (k':=kv) hinv4.2.2.2.2.1 hal (by omega) (by split<;>omega) (by omega),by dsimp only;have:=lT hn1 hn2 hv0 (by omega);have h0:(0:Int)≤0*kv:=Int.mul_nonneg (by omega) (by omega);omega,by dsimp only;omega⟩),trivial⟩ (bQ.drop 2)
     ·have hc45:=beq_eq_false_iff_ne.1 hc45;refine bO<|bC ?_;have hmc:0≤n*kv∧n*kv≤274882101248:=lT (by omega) (by omega) (by omega) (by omega);refine bB<|bK rfl rfl rfl (bG hT rfl) ?_;refine bK rfl rfl rfl (bG hT rfl) ?_;refine bK rfl rfl rfl (bG hT rfl) ?_;refine bZ (z':=n*kv) (gK (by omega) (by omega)) ?_;refine bK rfl rfl rfl (bG hT rfl) ?_;refine bZ (z':=min (n*kv) 4194304) minI ?_;refine bK rfl rfl rfl (bG hT rfl) ?_;refine cA<|bY<|bC<|bB<|bK rfl rfl rfl (bG hT rfl) ?_;refine bZ (z':=(((i+1):Nat):Int)) (cV (by omega) (by omega)) ?_;refine bK rfl rfl rfl (bG hT rfl) ?_;refine cA<|bC ?_;exact cJ (A7,c8,acc++[kv],i+1,min (n*kv) 4194304) (by dsimp only;omega) ⟨rfl,rfl,rfl,trivial⟩ ⟨rfl,rfl,rfl,rfl,trivial⟩ (.cons .head (.cons (.tail (.tail .head)) (.cons (.tail .head) .nil))) ⟨Has.pure (⟨by dsimp only;omega,by dsimp only;rw [List.length_append,List.length_singleton];omega,rF hinv4.2.2.1 hv0,by dsimp only;have:=rO hinv4.2.2.2.1 (dQ hp) hpv5 (by rw [hkv];omega);rw [hkv] at this;exact this,by dsimp only;exact nH (k':=kv) hinv4.2.2.2.2.1 hal (by omega) (by split<;>omega) (by omega),by dsimp only;have:=lT hn1 hn2 hv0 (by omega);have h0:(0:Int)≤n*kv:=Int.mul_nonneg (by omega) (by omega);omega,by dsimp only;omega⟩),trivial⟩ (bQ.drop 2)
   ·have hg34:=beq_eq_false_iff_ne.1 hg34;refine fM rfl rfl rfl ?_;refine fM rfl rfl rfl ?_;refine fM rfl rfl rfl ?_;refine fM rfl rfl rfl ?_;refine fM rfl rfl rfl ?_;refine fM rfl rfl rfl ?_;refine bK rfl rfl rfl (bG hT rfl) ?_;refine cA<|bC<|bS rfl rfl ?_;refine bO<|bC<|bE<|bE<|bB<|bK rfl rfl rfl (bG hT rfl) ?_;refine bK rfl rfl rfl (bG hT rfl) ?_;refine cA<|bC<|bL rfl (fun hc45=>?_) (fun hc45=>?_)
    ·have hc45:=eq_of_beq hc45;refine bB<|bK rfl rfl rfl (bG hT rfl) ?_;refine cA<|bC ?_;have hmc:0≤0*kv∧0*kv≤274882101248:=lT (by omega) (by omega) (by omega) (by omega);refine bB<|bK rfl rfl rfl (bG hT rfl) ?_;refine bK rfl rfl rfl (bG hT rfl) ?_;refine bK rfl rfl rfl (bG hT rfl) ?_;refine bZ (z':=0*kv) (gK (by omega) (by omega)) ?_;refine bK rfl rfl rfl (bG hT rfl) ?_;refine bZ (z':=min (0*kv) 4194304) minI ?_;refine bK rfl rfl rfl (bG hT rfl) ?_;refine cA<|bY<|bC<|bB<|bK rfl rfl rfl (bG hT rfl) ?_;refine bZ (z':=(((i+1):Nat):Int)) (cV (by omega) (by omega)) ?_;refine bK rfl rfl rfl (bG hT rfl) ?_;refine cA<|bC ?_;exact cJ (A7,c8,acc++[kv],i+1,min (0*kv) 4194304) (by dsimp only;omega) ⟨rfl,rfl,rfl,trivial⟩ ⟨rfl,rfl,rfl,rfl,trivial⟩ (.cons .head (.cons (.tail (.tail .head)) (.cons (.tail .head) .nil))) ⟨Has.pure (⟨by dsimp only;omega,by dsimp only;rw [List.length_append,List.length_singleton];omega,rF hinv4.2.2.1 hv0,by dsimp only;have:=rO hinv4.2.2.2.1 (dQ hp) hpv5 (by rw [hkv];omega);rw [hkv] at this;exact this,by dsimp only;exact nH (k':=kv) hinv4.2.2.2.2.1 hal (by omega) (by split<;>omega) (by omega),by dsimp only;have:=lT hn1 hn2 hv0 (by omega);have h0:(0:Int)≤0*kv:=Int.mul_nonneg (by omega) (by omega);omega,by dsimp only;omega⟩),trivial⟩ (bQ.drop 2)
    ·have hc45:=beq_eq_false_iff_ne.1 hc45;refine bO<|bC ?_;have hmc:0≤n*kv∧n*kv≤274882101248:=lT (by omega) (by omega) (by omega) (by omega);refine bB<|bK rfl rfl rfl (bG hT rfl) ?_;refine bK rfl rfl rfl (bG hT rfl) ?_;refine bK rfl rfl rfl (bG hT rfl) ?_;refine bZ (z':=n*kv) (gK (by omega) (by omega)) ?_;refine bK rfl rfl rfl (bG hT rfl) ?_;refine bZ (z':=min (n*kv) 4194304) minI ?_;refine bK rfl rfl rfl (bG hT rfl) ?_;refine cA<|bY<|bC<|bB<|bK rfl rfl rfl (bG hT rfl) ?_;refine bZ (z':=(((i+1):Nat):Int)) (cV (by omega) (by omega)) ?_;refine bK rfl rfl rfl (bG hT rfl) ?_;refine cA<|bC ?_;exact cJ (A7,c8,acc++[kv],i+1,min (n*kv) 4194304) (by dsimp only;omega) ⟨rfl,rfl,rfl,trivial⟩ ⟨rfl,rfl,rfl,rfl,trivial⟩ (.cons .head (.cons (.tail (.tail .head)) (.cons (.tail .head) .nil))) ⟨Has.pure (⟨by dsimp only;omega,by dsimp only;rw [List.length_append,List.length_singleton];omega,rF hinv4.2.2.1 hv0,by dsimp only;have:=rO hinv4.2.2.2.1 (dQ hp) hpv5 (by rw [hkv];omega);rw [hkv] at this;exact this,by dsimp only;exact nH (k':=kv) hinv4.2.2.2.2.1 hal (by omega) (by split<;>omega) (by omega),by dsimp only;have:=lT hn1 hn2 hv0 (by omega);have h0:(0:Int)≤n*kv:=Int.mul_nonneg (by omega) (by omega);omega,by dsimp only;omega⟩),trivial⟩ (bQ.drop 2)
 ·have hc17:=Int.not_lt.1 (of_decide_eq_false hc17);refine cU<|cI<|cI<|cT<|bC<|bE<|bE ?_;have hi4:i=x.loops.list.length:=by omega
  have hlen:acc.length=x.c.loops.length:=by show _=(polsL x.loops.list).length;rw [dC];omega
  have hQe:rnLoops m.dims.list x.c.loops []= .ok acc:=hQ.trans (loops_end hinv4.2.2.2.1 (by rw [dC];omega));have hn:n=capN 4194304 (kkF x.c.how x.c.loops.length acc) x.c.ops.length:=by show n=capN 4194304 (kkF x.how (polsL x.loops.list).length acc) (opsL x.ops.list).length;rw [dC,dV];exact hinv4.2.2.2.2.1
  refine bB<|bK rfl rfl rfl (bG hT rfl) ?_;refine bK rfl rfl rfl (bG hT rfl) ?_;refine bK rfl rfl rfl (bG hT rfl) ?_;refine bK rfl rfl rfl (bR hT (bGt (.tail (.tail .head))) rfl rfl rfl rfl rfl) ?_;refine bK rfl rfl rfl (bG hT rfl) ?_;refine bK rfl rfl rfl (bG hT rfl) ?_;refine bZ (gK (by omega) (by omega)) ?_;refine bK rfl rfl rfl (bG hT rfl) ?_;refine bK rfl rfl rfl (bG hT rfl) ?_;refine hZ hT rfl rfl rfl rfl rfl (.tail (.tail .head)) rfl rfl rfl rfl rfl ?_;refine cA<|bC<|bE<|bB<|bK rfl rfl rfl (bG hT rfl) ?_;refine bK rfl rfl rfl (bG hT rfl) ?_;refine bK rfl rfl rfl (bG hT rfl) ?_;refine bK rfl rfl rfl (bR hT (bGt .head) rfl rfl rfl rfl rfl) ?_;refine bK rfl rfl rfl (bG hT rfl) ?_;refine cA<|bC<|bL rfl (fun hc63=>?_) (fun hc63=>?_)
  ·have hc63:=of_decide_eq_true hc63;refine bB<|bK rfl rfl rfl (kO rfl Tryz.underlying32 (fun _ e=>by cases e) rfl) ?_;refine kQ rfl rfl rfl ?_;refine dK ?_;exact gJ (none,0,[]) (count_big hQe ((bIh (x:=x.c) hlen hinv4.2.2.1 (by show(opsL x.ops.list).length≤256;rw [dV];exact hL) hn ht0).2 (by omega)))
  ·have hc63:=Int.not_lt.1 (of_decide_eq_false hc63);refine bO<|bC<|bE<|bB<|bK rfl rfl rfl (bG hT rfl) ?_;refine bK rfl rfl rfl (bG hT rfl) ?_;refine cA<|bC<|bI ?_;have hne2:=(bIh (x:=x.c) (t:=m.turns) hlen hinv4.2.2.1 (by show(opsL x.ops.list).length≤256;rw [dV];exact hL) hn ht0).1 (by omega);have hCT:=count_ok (t:=m.turns) hQe (by omega);subst hne2;exact wZ (LA,lc,acc) rfl (bD rfl) (.cons .head (.cons .head .nil)) ⟨Has.pure hCT,trivial⟩ (by rw [hCT];rfl) rfl
end Go.Proofs.YtnmhcaahkaocgaaGreatDoor
namespace Go.Proofs.YtnmhcaahkaocgaaGreatDoor
section
variable {f n : Int} {l : List Int}
theorem tS{a b:Bool}(h:(a&&b)=true):a=true∧b=true:=Bool.and_eq_true_iff.1 h
end
end Go.Proofs.YtnmhcaahkaocgaaGreatDoor
