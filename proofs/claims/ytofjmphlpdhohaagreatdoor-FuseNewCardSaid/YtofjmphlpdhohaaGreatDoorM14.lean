/- Texts of one proof, one behind the other: PutP, RefI, MixS, FuH, NewS. -/
import Derived.Test.YtofjmphlpdhohaaGreatDoorM12
import Derived.Test.YtofjmphlpdhohaaGreatDoorM13
import Derived.Test.YtofjmphlpdhohaaGreatDoorM7
import Derived.Test.YtofjmphlpdhohaaGreatDoorM4
import Derived.Test.YtofjmphlpdhohaaGreatDoorM8
namespace Go.Proofs.YtofjmphlpdhohaaGreatDoor
open Go.RowKit
section
variable {α : Type} {l st : List α} {t y : α} {i j m : Nat}
theorem er_snoc(h:l[m]?=some y)(hm:m≠i)(hs:st=(l.take m).eraseIdx i):st++[y]=(l.take (m+1)).eraseIdx i:=by
 have hlt:=(List.getElem?_eq_some_iff.1 h).1;have ht:l.take (m+1)=l.take m++[y]:=by rw [List.take_add_one,h];rfl
 have hl:(l.take m).length=m:=by rw [List.length_take];omega
 rw [hs,ht]
 rcases Nat.lt_or_ge i m with h1 | h1
 ·rw [List.eraseIdx_append_of_lt_length (by omega)]
 ·rw [List.eraseIdx_of_length_le (by omega),List.eraseIdx_of_length_le (by rw [List.length_append,hl];simp;omega)]
theorem er_no(hi:i<l.length)(hm:m=i)(hs:st=(l.take m).eraseIdx i):st=(l.take (m+1)).eraseIdx i:=by
 subst hm;have ht:l.take (m+1)=l.take m++[l[m]]:=by rw [List.take_add_one,List.getElem?_eq_getElem hi];rfl
 have hl:(l.take m).length=m:=by rw [List.length_take];omega
 rw [hs,ht,List.eraseIdx_of_length_le (by omega),List.eraseIdx_append_of_length_le (by omega),hl,Nat.sub_self];simp
theorem er_in(hj:j<l.length)(hm:m=j)(hij:i<j)(hs:st=((l.set j t).take m).eraseIdx i):st++[t]=((l.set j t).take (m+1)).eraseIdx i:=
 er_snoc (by subst hm;simp [hj]) (by omega) hs
theorem er_cp(h:l[m]?=some y)(hm:m≠j)(hi:m≠i)(hs:st=((l.set j t).take m).eraseIdx i):st++[y]=((l.set j t).take (m+1)).eraseIdx i:=
 er_snoc (by rw [List.getElem?_set_ne (Ne.symm hm)];exact h) hi hs
theorem er_skip(hi:i<l.length)(hm:m=i)(hs:st=((l.set j t).take m).eraseIdx i):st=((l.set j t).take (m+1)).eraseIdx i:=er_no (by simpa using hi) hm hs
theorem er_end(hm:l.length≤m)(hs:st=((l.set j t).take m).eraseIdx i):st=(l.set j t).eraseIdx i:=by rw [hs,List.take_of_length_le (by simpa using hm)]
theorem lN{g:α→bN}{F:List bN}{k:Nat}{x:α}(h:Has F (bN.each l g))(hx:Has F (g x)):Has F (bN.each (l.set k x) g):=fun S w q y hy=>by
 rcases List.mem_or_eq_of_mem_set hy with h1 | rfl
 ·exact h S w q y h1
 ·exact hx S w q
theorem gO{g:α→bN}{F:List bN}{m:List α}(h:Has F (bN.each l g))(k:Has F (bN.each m g)):Has F (bN.each (l++m) g):=fun S w q y hy=>by
 rcases List.mem_append.1 hy with h1 | h1
 ·exact h S w q y h1
 ·exact k S w q y h1
theorem modify_set{f:α→α}{u:α}{k:Nat}(h:l[k]?=some u):l.modify k f=l.set k (f u):=by
 apply List.ext_getElem?;intro n;rw [List.getElem?_modify,List.getElem?_set]
 by_cases hn:k=n
 ·subst hn;have:=(List.getElem?_eq_some_iff.1 h).1;rw [h];simp [this]
 ·rw [if_neg hn];cases l[n]?<;>simp [hn]
end
theorem bAb{α:Type}{E:Flat α}{F:List bN}{A:Option Addr}{n m c:Nat}{l:List α}(h:Has F (E.sl (.slice A n c) l))(e:n=m):Has F (E.sl (.slice A m c) l):=e▸h
theorem bDj{α β:Type}(f:α→β): ∀(l:List α) (i:Nat),(l.eraseIdx i).map f=(l.map f).eraseIdx i
 | [],_=>rfl
 | _::_,0=>rfl
 | x::l,i+1=>by simp [bDj f l i]
def kZ (x xt:cN)(n k:Nat):List OpV:=(([]++xt.ops.list.take (k+1-n))++x.ops.list)++xt.ops.list.drop (k+1)
theorem zT{x xt:cN}{n k:Nat}:(kZ x xt n k).length=(xt.ops.list.take (k+1-n)).length+x.ops.list.length+(xt.ops.list.drop (k+1)).length:=by
 unfold kZ;simp;omega
theorem putV_c{c:CoreV}{i j k:Nat}{x xt:cN}{ub:fS}{A D B:Option Addr}{oc b e:Nat}(h:qJ c.c i j k x.c xt.c)(hb:c.bufs.list[x.buf.toNat]?=some ub){y:CoreV}
  (h0:y.vars=c.vars) (h3:y.outs.list=c.outs.list) (h2:y.steps.list=(c.steps.list.set j ⟨xt.how,xt.buf,xt.at_,xt.loops,xt.fn,⟨A,oc,kZ x xt (dL x.loops.list x.buf).length k⟩⟩).eraseIdx i)
  (h1:y.bufs.list=c.bufs.list.set x.buf.toNat ⟨⟨D,e,[⟨B,b,[]⟩]⟩,ub.input⟩):y.c=bBp c.c i j k:=by
 have hn:(ownC (dF x.loops.list) x.buf).length=(dL x.loops.list x.buf).length:=pH.symm;rw [putC_eq h];unfold CoreV.c;rw [h0,h1,h2,h3]
 congr 1
 ·unfold jH;rw [List.map_set,modify_set (show(List.map fS.c c.bufs.list)[x.c.buf.toNat]?=some ub.c from fI hb)];rfl
 ·unfold iJ;rw [bDj,List.map_set]
  congr 2
  show StepC.mk _ _ _ _ _ _=StepC.mk _ _ _ _ _ _
  congr 1
  show dY (kZ x xt _ k)=_;show _=List.take (k+1-(ownC (dF x.loops.list) x.buf).length) (dY xt.ops.list)++(dY x.ops.list++List.drop (k+1) (dY xt.ops.list));rw [hn];unfold kZ dY;simp [List.map_take,List.map_drop]
theorem can_all{c:CoreV}{i j k:Nat}{x xt:cN}(hr:dV c.c=true)(hx:c.steps.list[i]?=some x)(hxt:c.steps.list[j]?=some xt)(hq:qJ c.c i j k x.c xt.c):
  ((dL x.loops.list x.buf).length≤k+1∧xt.ops.list.length+x.ops.list.length≤256+(dL x.loops.list x.buf).length∧k<xt.ops.list.length∧i<j)∧(i<c.steps.list.length∧j<c.steps.list.length∧c.steps.list.length≤1024)∧(0≤x.buf∧x.buf<(c.bufs.list.length:Nat)∧c.bufs.list.length≤1024∧x.loops.list.length≤4):=by
 obtain⟨hbz,hst,hou⟩:=lO hr;have hnb:c.c.bufs.length=c.bufs.list.length:=dB _;have hns:c.c.steps.length=c.steps.list.length:=cY _;obtain⟨q1,q2,_⟩:=zE hq hq.ld hxt;obtain⟨h0,h1,_⟩:=hst x.c (List.mem_of_getElem? (cM hx));have hl:=(gJ hr x.c (List.mem_of_getElem? (cM hx))).2;obtain⟨t,o,ht,ho⟩:=ld_at hq.ld;have e:t=xt.c:=Option.some.inj (ht.symm.trans (cM hxt));have hk:=(List.getElem?_eq_some_iff.1 ho).1;rw [e,show xt.c.ops.length=xt.ops.list.length from cW _] at hk;rw [show x.c.loops.length=x.loops.list.length from cP _] at hl;rw [hnb] at h1;have h0:0≤x.buf:=h0;have h1:x.buf<(c.bufs.list.length:Nat):=h1;exact⟨⟨q1,q2,hk,hq.lt⟩,⟨(List.getElem?_eq_some_iff.1 hx).1,(List.getElem?_eq_some_iff.1 hxt).1,by omega⟩,h0,h1,by omega,hl⟩
def fuW (c:fL):fL:=if dV c=true then sJ c else ⟨0,[],[],[]⟩
theorem next_at{c:CoreV}{i j k:Nat}(h:jG c.c=some (i,j,k)): ∃x xt:cN,c.steps.list[i]?=some x∧c.steps.list[j]?=some xt∧qJ c.c i j k x.c xt.c:=by
 obtain⟨s,t,hq⟩:=next_can h;have h1:=hq.si;have h2:=hq.tj;have e:c.c.steps=c.steps.list.map cN.c:=rfl;rw [e,List.getElem?_map] at h1 h2
 cases hx:c.steps.list[i]? with
 | none=>rw [hx] at h1;cases h1
 | some x=>
  cases hxt:c.steps.list[j]? with
  | none=>rw [hxt] at h2;cases h2
  | some xt=>
   rw [hx] at h1;rw [hxt] at h2;obtain rfl:x.c=s:=by simpa using h1
   obtain rfl:xt.c=t:=by simpa using h2
   exact⟨x,xt,rfl,rfl,hq⟩
theorem bCi{c y:CoreV}{i j k:Nat}{s t:StepC}(hq:qJ c.c i j k s t)(hy:y.c=bBp c.c i j k):y.steps.list.length<c.steps.list.length:=by
 have h:=put_len hq;rw [←hy,show y.c.steps.length=y.steps.list.length from cY _,show c.c.steps.length=c.steps.list.length from cY _] at h;omega
theorem nil_sl{α:Type}{E:Flat α}{F:List bN}:Has F (E.sl (.slice none 0 0) []):=fun _ _ _=>⟨none,0,rfl,fun k x hk=>by simp at hk⟩
theorem wZ{F:List bN}:Has F (iE ⟨0,⟨none,0,[]⟩,⟨none,0,[]⟩,⟨none,0,[]⟩⟩):=
 Has.and (Has.and (Has.and nil_sl Has.each_nil) (Has.pure ⟨Nat.le_refl _,by decide⟩)) (Has.and (Has.and (Has.and nil_sl Has.each_nil) (Has.pure ⟨Nat.le_refl _,by decide⟩)) (Has.and nil_sl (Has.pure ⟨Nat.le_refl _,by decide⟩)))
theorem nx_none{c:CoreV}(hr:dV c.c=true)(h:(nxV c.c).isSome=false):jG c.c=none:=by
 unfold nxV at h;rw [if_pos hr] at h
 cases hn:jG c.c with
 | none=>rfl
 | some q=>rw [hn] at h;cases h
theorem nU:(Tryz.prog.info? 26).bind (·.zero)=some (.agg #[.int .i64 0,.slice none 0 0,.slice none 0 0,.slice none 0 0]):=by kernel_rfl
theorem rP:Tryz.prog.built 26 []=some #[.int .i64 0,.slice none 0 0,.slice none 0 0,.slice none 0 0]:=by kernel_rfl
set_option maxRecDepth 100000 in
theorem put14_spec(c:CoreV)(i j k:Nat)(x xt:cN)(hr:dV c.c=true)(hx:c.steps.list[i]?=some x)(hxt:c.steps.list[j]?=some xt)(hq:qJ c.c i j k x.c xt.c):dT Tryz.prog 38 [.agg #[.int .i64 c.vars,.slice c.bufs.addr c.bufs.list.length c.bufs.cap,.slice c.steps.addr c.steps.list.length c.steps.cap,.slice c.outs.addr c.outs.list.length c.outs.cap],.int .i64 (i:Nat),.int .i64 (j:Nat),.int .i64 (k:Nat)] [] [iE c] (fun(y:CoreV)=> .agg #[.int .i64 y.vars,.slice y.bufs.addr y.bufs.list.length y.bufs.cap,.slice y.steps.addr y.steps.list.length y.steps.cap,.slice y.outs.addr y.outs.list.length y.outs.cap]) (fun _=>[]) (fun(y:CoreV)=>[iE y,bN.pure (y.c=bBp c.c i j k)]):=by
 have hT:=dA;obtain⟨⟨q1,q2,q3,hij⟩,⟨hin,hjn,hns⟩,hb0,hb1,hbz,hll⟩:=can_all hr hx hxt hq;refine cQ Tryz.func38 rfl Tryz.ntmps38 rfl ?_;intro β hM;refine bE<|bH (fW.sl (.slice c.steps.addr c.steps.list.length c.steps.cap) c.steps.list) (jR (fB (Has.of mT0))) ?_;refine bH (kO.sl (.slice c.bufs.addr c.bufs.list.length c.bufs.cap) c.bufs.list) (nL (hZ (Has.of mT1))) ?_;refine bH (iK.sl (.slice c.outs.addr c.outs.list.length c.outs.cap) c.outs.list) (oL (mY (Has.of mT2))) ?_;refine bH (dQ x) (Has.each (gW (fB (Has.of mT3))) (List.mem_of_getElem? hx)) ?_;refine bH (dQ xt) (Has.each (gW (fB (Has.of mT4))) (List.mem_of_getElem? hxt)) ?_;refine bH (opE.sl (.slice x.ops.addr x.ops.list.length x.ops.cap) x.ops.list) (jM (dD (Has.of mT1))) ?_;refine bH (fN.sl (.slice x.loops.addr x.loops.list.length x.loops.cap) x.loops.list) (gE (dW (Has.of mT2))) ?_;refine bH (bN.each x.ops.list opF) (kU (dD (Has.of mT3))) ?_;refine bH (opE.sl (.slice xt.ops.addr xt.ops.list.length xt.ops.cap) xt.ops.list) (jM (dD (Has.of mT3))) ?_;refine bH (fN.sl (.slice xt.loops.addr xt.loops.list.length xt.loops.cap) xt.loops.list) (gE (dW (Has.of mT4))) ?_;refine bH (bN.each xt.ops.list opF) (kU (dD (Has.of mT5))) ?_;refine bT (lX (dD (Has.of mT6))) fun hz1=>?_;have hzt:=hz1.1;refine bT (lX (dD (Has.of mT7))) fun hz2=>?_;have hzx:=hz2.1;refine bC<|gL rfl rfl rfl rfl rfl rfl fun b3=>?_;refine cV rfl rfl rfl rfl nU rfl fun b4=>?_;refine nn<|sr<|sp hT ?_;refine ss (ldO hT (gA kT1)) ?_;refine sp hT ?_;refine ss (bM hT (k:=i) (bB (Has.of bCp)) rfl rfl rfl rfl rfl rfl rfl (by omega)) ?_;refine ss (cO hT (cB.knows (bB (Has.of bCp)) (k:=i) (x:=x) hx 0) rfl rfl rfl rfl rfl) ?_;refine cV rfl rfl rfl rfl rY rfl fun b5=>?_;refine sto hT .head ?_;refine nn<|sr<|sp hT ?_;refine ss (ldO hT (iC .head)) ?_;refine sp hT ?_;refine ss (ldO hT (dO .head)) ?_;refine cR Tryz.func78 (bBt x.loops x.buf hll) rfl rfl .nil ⟨dW (Has.of mT7),trivial⟩ fun⟨A6,c7⟩=>?_;have hon:=pH (l:=x.loops.list) (b:=x.buf);have hon2:=own_len (l:=dF x.loops.list) (b:=x.buf);rw [cP] at hon2;refine sp2 hT ?_;refine nn<|sr<|sp hT ?_;refine ss (ldO hT (gA kT2)) ?_;refine sp hT ?_;refine ss (bM hT (k:=j) (bB (Has.of mT12)) rfl rfl rfl rfl rfl rfl rfl (by omega)) ?_;refine ss (cO hT (cB.knows (bB (Has.of mT12)) (k:=j) (x:=xt) hxt 0) rfl rfl rfl rfl rfl) ?_;refine cV rfl rfl rfl rfl rY rfl fun b8=>?_;refine sto hT .head ?_;refine nn<|sr<|sp hT ?_;refine nn<|bE<|dS (t:=42) opE ?_;refine bC<|sp2 hT ?_;refine ss (ldO hT (iI kT1)) ?_;refine sp2 hT ?_;refine bW (z':=(((k+1):Nat):Int)) (cH (by omega) (by omega)) ?_;refine sp2 hT ?_;refine bW (z':=((((k+1)-(dL x.loops.list x.buf).length):Nat):Int)) (cH (by omega) (by omega)) ?_;refine ss (lD hT (k:=(k+1-(dL x.loops.list x.buf).length)) rfl rfl rfl rfl rfl (by omega) (by omega)) ?_;refine bH (opE.sl (.slice xt.ops.addr (k+1-(dL x.loops.list x.buf).length) xt.ops.cap) (xt.ops.list.take (k+1-(dL x.loops.list x.buf).length))) (mP (Has.of mT4) (by omega)) ?_;refine lA .head (bB (Has.of mT0)) rfl rfl rfl rfl rfl rfl (by rw [List.length_take];omega) (by simp;omega) fun A9 c10=>?_;refine sp hT ?_;refine nn<|sr<|sp2 hT ?_;refine ss (ldO hT (iI kT2)) ?_;refine lA .head (bB (Has.of mT8)) rfl rfl rfl rfl rfl rfl rfl (by simp;omega) fun A11 c12=>?_;refine sp hT ?_;refine nn<|sr<|sp2 hT ?_;refine ss (ldO hT (iI kT1)) ?_;refine sp2 hT ?_;refine bW (z':=(((k+1):Nat):Int)) (cH (by omega) (by omega)) ?_;refine ss (jW hT (k:=k+1) rfl rfl rfl rfl rfl (by omega) (by omega)) ?_;refine bH (opE.sl (.slice (kN xt.ops.addr (k+1) 5 xt.ops.cap) (xt.ops.list.length-(k+1)) (xt.ops.cap-(k+1))) (xt.ops.list.drop (k+1))) (nS (Has.of mT5) (by omega) (by omega)) ?_;refine lA .head (bB (Has.of mT0)) rfl rfl rfl rfl rfl rfl (by rw [List.length_drop]) (by simp;omega) fun A13 c14=>?_;refine sp hT ?_;refine nn<|bE ?_;rw [show((([]++(xt.ops.list.take (k+1-(dL x.loops.list x.buf).length)))++x.ops.list)++(xt.ops.list.drop (k+1)))=kZ x xt (dL x.loops.list x.buf).length k from rfl];have hpl:=zT (x:=x) (xt:=xt) (n:=(dL x.loops.list x.buf).length) (k:=k);rw [List.length_take,List.length_drop] at hpl;refine gB .head fun hoc=>?_;refine cZ .head ?_;refine bH (bN.each (kZ x xt (dL x.loops.list x.buf).length k) opF) (gO (gO (gO Has.each_nil (jO (Has.of mT5) (fun _ h=>List.mem_of_mem_take h))) (Has.of mT8)) (jO (Has.of mT5) (fun _ h=>List.mem_of_mem_drop h))) ?_;refine bH (dQ (⟨xt.how,xt.buf,xt.at_,xt.loops,xt.fn,⟨A13,c14,(kZ x xt (dL x.loops.list x.buf).length k)⟩⟩:cN)) (Has.and (jK (s:=xt) (Has.of mT12)) (Has.and (dW (s:=xt) (Has.of mT12)) (Has.and (Has.and (Has.of mT1) (Has.of mT0)) (Has.pure ⟨hoc,by dsimp only;omega⟩)))) ?_;refine bC<|sp2 hT ?_;refine sto hT .head ?_;refine nn<|sr<|sp hT ?_;refine nn<|bE<|bE<|dS (t:=40) fW ?_;refine bC<|sp hT ?_;refine nn<|bR<|bH (bN.each ([]:List cN) dQ) (Has.each_nil) ?_;refine cG (ι:=Nat×List cN×Option Addr×Nat) [(1,_),(2,_),(4,_),(8,_),(9,_),(11,_)] ⟨rfl,rfl,rfl,rfl,rfl,rfl,trivial⟩ (fun⟨m,st,SA,sc⟩=>[(13,.slice SA st.length sc),(14,.int .i64 (m:Nat))]) (fun⟨m,st,SA,sc⟩=>[fW.row (.slice SA st.length sc) 40 st]) (fun⟨m,st,SA,sc⟩=>[bN.pure (m≤c.steps.list.length∧st=((c.steps.list.set j (⟨xt.how,xt.buf,xt.at_,xt.loops,xt.fn,⟨A13,c14,(kZ x xt (dL x.loops.list x.buf).length k)⟩⟩:cN)).take m).eraseIdx i∧st.length≤m),bN.each st dQ]) (fun⟨m,st,SA,sc⟩=>c.steps.list.length-m) (0,[],none,0) ⟨rfl,rfl,trivial⟩ (.cons .head .nil) ⟨Has.pure (⟨by omega,rfl,by simp⟩),Has.of mT0,trivial⟩ ?_;rintro⟨m,st,SA,sc⟩;dsimp only;refine bT (Has.of mT0) fun hinv11=>?_;refine bE<|sr<|sp2 hT ?_;refine ss (ldO hT (gA kT4)) ?_;refine sp2 hT ?_;refine nn<|bP rfl (fun hc58=>?_) (fun hc58=>?_)
 ·have hc58:=of_decide_eq_true hc58;refine bQ<|bD<|bE<|bR<|sr<|sp3 hT ?_;refine nn<|bP rfl (fun hc63=>?_) (fun hc63=>?_)
  ·have hc63:=eq_of_beq hc63;refine bC<|sp hT ?_;refine ss (ldN hT (dK kT1)) ?_;refine mJ (m:=(⟨xt.how,xt.buf,xt.at_,xt.loops,xt.fn,⟨A13,c14,(kZ x xt (dL x.loops.list x.buf).length k)⟩⟩:cN)) rfl rfl rfl rfl rfl fun b15=>?_;refine mK kT1 (dI .head rfl) rfl rfl rfl rfl rfl rfl rfl (by first | (simp only [List.length_singleton];omega) | (simp;omega)) fun A16 c17=>?_;refine bH (bN.each (st++[(⟨xt.how,xt.buf,xt.at_,xt.loops,xt.fn,⟨A13,c14,(kZ x xt (dL x.loops.list x.buf).length k)⟩⟩:cN)]) dQ) (Has.each_snoc (Has.of mT1) (Has.of mT3)) ?_;refine sp hT ?_;refine cS<|cA<|bD<|bC<|sp2 hT ?_;refine bW (z':=(((m+1):Nat):Int)) (cH (by omega) (by omega)) ?_;refine sp hT ?_;refine nn ?_;exact bU (m+1,st++[(⟨xt.how,xt.buf,xt.at_,xt.loops,xt.fn,⟨A13,c14,(kZ x xt (dL x.loops.list x.buf).length k)⟩⟩:cN)],_,_) (by dsimp only;omega) ⟨rfl,rfl,trivial⟩ ⟨rfl,rfl,rfl,rfl,rfl,rfl,trivial⟩ (.cons .head (.cons kT1 (.cons kT1 (.cons kT1 (.cons kT1 .nil))))) ⟨Has.pure (⟨by dsimp only;omega,er_in (by omega) (by omega) (by omega) hinv11.2.1,by first | (dsimp only;simp;omega) | (dsimp only;omega)⟩),Has.of mT0,trivial⟩ (bF.drop 3)
  have hc63:=beq_eq_false_iff_ne.1 hc63;refine sr<|sp3 hT ?_;refine nn<|bP rfl (fun hc70=>?_) (fun hc70=>?_)
  ·have hc70:=bne_iff_ne.1 hc70
   obtain⟨x18,hx19⟩: ∃x',c.steps.list[m]?=some x':=⟨_,List.getElem?_eq_getElem (by omega)⟩
   refine bH (dQ x18) (Has.each (gW (fB (Has.of (.tail _ (.tail _ (.tail _ (.tail _ (.tail _ (.tail _ (.tail _ (.tail _ (.tail _ (.tail _ (.tail _ (.tail _ (.tail _ (.tail _ (.tail _ (.tail _ (.tail _ (.tail _ (.tail _ (.tail _ (.tail _ mT0)))))))))))))))))))))))) (List.mem_of_getElem? hx19)) ?_;refine bC<|sp2 hT ?_;refine ss (ldO hT (gA kT4)) ?_;refine sp hT ?_;refine ss (bM hT (k:=m) (bB (Has.of (.tail _ (.tail _ (.tail _ (.tail _ (.tail _ (.tail _ (.tail _ (.tail _ (.tail _ (.tail _ (.tail _ (.tail _ (.tail _ (.tail _ (.tail _ (.tail _ (.tail _ (.tail _ (.tail _ (.tail _ (.tail _ mT0))))))))))))))))))))))) rfl rfl rfl rfl rfl rfl rfl (by omega)) ?_;refine ss (cO hT (cB.knows (bB (Has.of (.tail _ (.tail _ (.tail _ (.tail _ (.tail _ (.tail _ (.tail _ (.tail _ (.tail _ (.tail _ (.tail _ (.tail _ (.tail _ (.tail _ (.tail _ (.tail _ (.tail _ (.tail _ (.tail _ (.tail _ (.tail _ mT0))))))))))))))))))))))) (k:=m) (x:=x18) hx19 0) rfl rfl rfl rfl rfl) ?_;refine mJ (m:=x18) rfl rfl rfl rfl rfl fun b20=>?_;refine mK kT1 (dI .head rfl) rfl rfl rfl rfl rfl rfl rfl (by first | (simp only [List.length_singleton];omega) | (simp;omega)) fun A21 c22=>?_;refine bH (bN.each (st++[x18]) dQ) (Has.each_snoc (Has.of mT2) (Has.of mT0)) ?_;refine sp hT ?_;refine cS<|cA<|bD<|bC<|sp2 hT ?_;refine bW (z':=(((m+1):Nat):Int)) (cH (by omega) (by omega)) ?_;refine sp hT ?_;refine nn ?_;exact bU (m+1,st++[x18],_,_) (by dsimp only;omega) ⟨rfl,rfl,trivial⟩ ⟨rfl,rfl,rfl,rfl,rfl,rfl,trivial⟩ (.cons .head (.cons kT1 (.cons kT1 (.cons kT1 (.cons kT1 .nil))))) ⟨Has.pure (⟨by dsimp only;omega,er_cp hx19 (by omega) (by omega) hinv11.2.1,by first | (dsimp only;simp;omega) | (dsimp only;omega)⟩),Has.of mT0,trivial⟩ (bF.drop 4)
  have hc70:=bne_eq_false_iff_eq.1 hc70;refine bH (bN.each st dQ) ((Has.of mT1)) ?_;refine bQ<|cA<|bD<|bC<|sp2 hT ?_;refine bW (z':=(((m+1):Nat):Int)) (cH (by omega) (by omega)) ?_;refine sp hT ?_;refine nn ?_;exact bU (m+1,st,_,_) (by dsimp only;omega) ⟨rfl,rfl,trivial⟩ ⟨rfl,rfl,rfl,rfl,rfl,rfl,trivial⟩ (.cons .head (.cons .head (.cons .head (.cons .head (.cons .head .nil))))) ⟨Has.pure (⟨by dsimp only;omega,er_skip (by omega) (by omega) hinv11.2.1,by first | (dsimp only;simp;omega) | (dsimp only;omega)⟩),Has.of mT0,trivial⟩ (bF.drop 3)
 have hc58:=Int.not_lt.1 (of_decide_eq_false hc58);refine cE<|bX<|bX<|cF<|bD<|sr<|at_none_buf rfl rfl rfl rfl fun bfb=>?_;refine sp hT ?_;refine ss (ldO hT (dO kT5)) ?_;refine oX .head (bB (Has.of (.tail _ (.tail _ (.tail _ (.tail _ (.tail _ (.tail _ (.tail _ (.tail _ (.tail _ (.tail _ (.tail _ (.tail _ (.tail _ (.tail _ (.tail _ (.tail _ (.tail _ (.tail _ (.tail _ mT0))))))))))))))))))))) rfl rfl rfl rfl rfl rfl rfl (by simp;omega) fun A23 c24=>?_;rw [List.nil_append];refine sp hT ?_;refine nn<|bE ?_
 obtain⟨ub,hub⟩: ∃u,c.bufs.list[x.buf.toNat]?=some u:=⟨_,List.getElem?_eq_getElem (by omega)⟩
 refine bC<|sp2 hT ?_;refine ss (ldO hT (dO kT3)) ?_;refine mI (m:=⟨none,0,[]⟩) rfl rfl rfl rfl rfl fun b25=>?_;refine mG .head (by show 1≤maxLen;decide) ?_;refine cZ .head ?_;refine ss (bM hT (k:=x.buf.toNat) (dM .head) rfl rfl rfl rfl rfl rfl (by omega) ((by omega))) ?_;refine sp hT ?_;refine fR hT (k:=x.buf.toNat) (fo:=0) (y':=(⟨⟨some ⟨b25,0,none⟩,1,[⟨none,0,[]⟩]⟩,ub.input⟩:fS)) .head rfl rfl rfl rfl rfl rfl rfl rfl rfl hub rfl ?_;refine nn<|sr<|sp2 hT ?_;refine sto hT kT5 ?_;refine nn<|sr<|sp2 hT ?_;refine sto hT .head ?_;refine nn<|sr<|ss (ldN hT (dK .head)) ?_;refine sto hT kT5 ?_;refine nn<|bL ?_;have hst2:=er_end (by omega) hinv11.2.1;refine bT (bufsF_c (hZ (Has.of (.tail _ (.tail _ (.tail _ (.tail _ (.tail _ (.tail _ (.tail _ (.tail _ (.tail _ (.tail _ (.tail _ (.tail _ (.tail _ (.tail _ (.tail _ (.tail _ (.tail _ (.tail _ (.tail _ (.tail _ (.tail _ (.tail _ mT0))))))))))))))))))))))))) fun hz26=>?_;have hzb:=hz26.2;refine gB kT3 fun hsc=>?_;refine cZ kT3 ?_;refine gB kT2 fun hbc=>?_;refine cZ kT2 ?_;rw [List.length_set] at hbc;refine bH (lJ (⟨⟨some ⟨b25,0,none⟩,1,[⟨none,0,[]⟩]⟩,ub.input⟩:fS)) (uB (Has.of mT2) polF_nil) ?_;refine bH (bN.each (c.bufs.list.set x.buf.toNat (⟨⟨some ⟨b25,0,none⟩,1,[⟨none,0,[]⟩]⟩,ub.input⟩:fS)) lJ) (lN (oJ (hZ (Has.of (.tail _ (.tail _ (.tail _ (.tail _ (.tail _ (.tail _ (.tail _ (.tail _ (.tail _ (.tail _ (.tail _ (.tail _ (.tail _ (.tail _ (.tail _ (.tail _ (.tail _ (.tail _ (.tail _ (.tail _ (.tail _ (.tail _ (.tail _ (.tail _ (.tail _ mT0)))))))))))))))))))))))))))) (Has.of mT0)) ?_;exact bJ (⟨c.vars,⟨A23,c24,c.bufs.list.set x.buf.toNat (⟨⟨some ⟨b25,0,none⟩,1,[⟨none,0,[]⟩]⟩,ub.input⟩:fS)⟩,⟨SA,sc,st⟩,c.outs⟩:CoreV) rfl (kY hT (dK .head) rfl rfl rfl rfl) .nil ⟨Has.and (Has.and (Has.and (bAb (Has.of mT2) (List.length_set ..).symm) (Has.of mT0)) (Has.pure ⟨by show List.length _≤_;rw [List.length_set];exact hbc,by show List.length _*32≤_;rw [List.length_set];exact hzb⟩)) (Has.and (Has.and (Has.and (Has.of mT3) (Has.of mT6)) (Has.pure ⟨hsc,by dsimp only;omega⟩)) (mY (c:=c) (Has.of (.tail _ (.tail _ (.tail _ (.tail _ (.tail _ (.tail _ (.tail _ (.tail _ (.tail _ (.tail _ (.tail _ (.tail _ (.tail _ (.tail _ (.tail _ (.tail _ (.tail _ (.tail _ (.tail _ (.tail _ (.tail _ (.tail _ (.tail _ (.tail _ (.tail _ (.tail _ mT0))))))))))))))))))))))))))))),Has.pure (putV_c hq hub rfl rfl hst2 rfl),trivial⟩ (by dsimp only;rw [List.length_set])
set_option maxRecDepth 100000 in
theorem Fuse14_spec(c:CoreV):dT Tryz.prog 15 [.agg #[.int .i64 c.vars,.slice c.bufs.addr c.bufs.list.length c.bufs.cap,.slice c.steps.addr c.steps.list.length c.steps.cap,.slice c.outs.addr c.outs.list.length c.outs.cap]] [] [iE c] (fun(y:CoreV)=> .tuple #[.agg #[.int .i64 y.vars,.slice y.bufs.addr y.bufs.list.length y.bufs.cap,.slice y.steps.addr y.steps.list.length y.steps.cap,.slice y.outs.addr y.outs.list.length y.outs.cap],.int .i64 (if dV c.c=true then 0 else 100)]) (fun _=>[]) (fun(y:CoreV)=>[iE y,bN.pure (y.c=fuW c.c)]):=by
 have hT:=dA;refine cQ Tryz.func15 rfl Tryz.ntmps15 rfl ?_;intro β hM;refine sr<|gL rfl rfl rfl rfl rfl rfl fun b1=>?_;refine cV rfl rfl rfl rfl nU rfl fun b2=>?_;refine sp hT ?_;refine nn<|bE<|sr<|ss (ldN hT (dK kT1)) ?_;refine cR Tryz.func33 (wK c) rfl rfl .nil ⟨(Has.of mT0),trivial⟩ fun _=>?_;refine sp hT ?_;refine nn<|bP rfl (fun hc10=>?_) (fun hc10=>?_)
 ·have hc10:=gV hc10;refine sr<|ss (dU rfl rfl (rP)) ?_;refine sto hT .head ?_;refine sp hT ?_;refine nn<|bL<|bK ?_;have hr:dV c.c=false:=by simp_all
  exact oM (⟨0,⟨none,0,[]⟩,⟨none,0,[]⟩,⟨none,0,[]⟩⟩:CoreV) rfl (kY hT (dK .head) rfl rfl rfl rfl) (bI rfl) .nil ⟨wZ,Has.pure (by unfold fuW;rw [if_neg (by rw [hr];simp)];rfl),trivial⟩ (by rw [if_neg (by rw [hr];simp)];rfl)
 have hc10:=gZ hc10;refine bQ<|bD<|sr<|ss (ldN hT (dK kT1)) ?_;refine cR Tryz.func13 (yO c) rfl rfl .nil ⟨(Has.of mT0),trivial⟩ fun _=>?_;refine sp4 hT ?_;refine sp4 hT ?_;refine sp hT ?_;refine nn<|bE<|bR ?_;have hr:dV c.c=true:=by simp_all
 refine bH (iE c) ((Has.of mT0)) ?_;refine cG (ι:=CoreV) [(1,_),(2,_)] ⟨rfl,rfl,trivial⟩ (fun cur=>[(4,.int .i64 (fiI (nxV cur.c):Nat)),(5,.int .i64 (nxJ (nxV cur.c):Nat)),(6,.int .i64 (nxK (nxV cur.c):Nat)),(7,.bool (nxV cur.c).isSome)]) (fun cur=>[.obj b1 (.cells ([.int .i64 cur.vars,.slice cur.bufs.addr cur.bufs.list.length cur.bufs.cap,.slice cur.steps.addr cur.steps.list.length cur.steps.cap,.slice cur.outs.addr cur.outs.list.length cur.outs.cap]:List Value).toArray 26)]) (fun cur=>[bN.pure (dV cur.c=true∧sJ c.c=sJ cur.c),iE cur]) (fun cur=>cur.steps.list.length) c ⟨rfl,rfl,rfl,rfl,trivial⟩ (.cons kT1 .nil) ⟨Has.pure (⟨hr,rfl⟩),Has.of mT0,trivial⟩ ?_;rintro cur;refine bT (Has.of mT0) fun hinv4=>?_;refine bE<|sr<|sp hT ?_;refine nn<|bP rfl (fun hc19=>?_) (fun hc19=>?_)
 ·refine bQ<|bD<|bR<|bE ?_;have hsm:(nxV cur.c).isSome=true:=by assumption
  have hnv:nxV cur.c=jG cur.c:=by unfold nxV;rw [if_pos hinv4.1]
  obtain⟨⟨i,j,k⟩,hnq⟩:=Option.isSome_iff_exists.1 hsm;have hnx:jG cur.c=some (i,j,k):=hnv.symm.trans hnq;obtain⟨x,xt,hx,hxt,hq⟩:=next_at hnx;rw [hnq];refine bC<|ss (ldN hT (dK .head)) ?_;refine sp3 hT ?_;refine cR Tryz.func38 (put14_spec cur i j k x xt hinv4.1 hx hxt hq) rfl rfl .nil ⟨(Has.of mT1),trivial⟩ fun y=>?_;refine bT (Has.of mT1) fun hy=>?_;refine sto hT .head ?_;refine nn<|bC<|ss (ldN hT (dK .head)) ?_;refine cR Tryz.func13 (yO y) rfl rfl .nil ⟨(Has.of mT0),trivial⟩ fun _=>?_;refine sp4 hT ?_;refine sp4 hT ?_;refine sp hT ?_;refine cS<|cA<|bD ?_;exact bU y (by exact bCi hq hy) ⟨rfl,rfl,rfl,rfl,trivial⟩ ⟨rfl,rfl,trivial⟩ (.cons .head (.cons .head .nil)) ⟨Has.pure (⟨by rw [hy];exact xG hinv4.1 hq,by rw [hinv4.2,hy];exact xL hnx⟩),Has.of mT0,trivial⟩ (bF.drop 4)
 refine cE<|bX<|bX<|cF<|bD<|sr<|ss (ldN hT (dK .head)) ?_;refine sto hT kT1 ?_;refine sp hT ?_;refine nn<|bL ?_;have hnn:=nx_none hinv4.1 ‹_›;exact oM cur rfl (kY hT (dK .head) rfl rfl rfl rfl) (bI rfl) .nil ⟨(Has.of mT1),Has.pure (by unfold fuW;rw [if_pos hr,hinv4.2,bCn hnn]),trivial⟩ (by rw [if_pos hr])
section
variable {P : Program} {ops : Array Oper} {md : Region.Mode} {C : World → Prop} {R : Array Bool → Act → World → Prop}
def bEo (md:Region.Mode)(ops:Array Oper):List Nat→Array Bool→Bool
 | [],listed=>(Region.ready md ops listed).isEmpty
 | l::r,listed=>(Region.ready md ops listed==[l])&&bEo md ops r (listed.setIfInBounds l true)
def rV (P:Program)(ops:Array Oper)(K:Act→World→Prop):List Nat→Act→World→Prop
 | [],a,w=>K a w
 | l::r,a,w=>fOp P ops l (rV P ops K r) a w
def EndS (P:Program)(md:Region.Mode)(ops:Array Oper)(Q:Exit→Act→World→Prop)(ls:List Nat)(listed:Array Bool)(a:Act)(w:World):Prop:=bEo md ops ls listed=true∧rV P ops (Q .normal) ls a w
theorem end_s{Q:Exit→Act→World→Prop}: ∀(ls:List Nat) (listed:Array Bool) (a:Act) (w:World),EndS P md ops Q ls listed a w→wpAny P md ops Q ls.length listed a w
 | [],listed,a,w,h=>⟨by simpa [bEo] using h.1,h.2⟩
 | l::r,listed,a,w,h=>by
  obtain⟨h1,h2⟩:=h;simp only [bEo,Bool.and_eq_true,beq_iff_eq] at h1;refine⟨fun e=>(by rw [h1.1] at e;cases e),fun i hi=>?_⟩;rw [h1.1] at hi;have:i=l:=by simpa using hi
  subst this;unfold wpOp;split
  ·rename_i ho;have hl:i∈Region.ready md ops listed:=by rw [h1.1];simp
   obtain⟨_,oi,hoi,_⟩:=mem_ready.1 hl;rw [ho] at hoi;cases hoi
  ·rename_i o ho;have h3:=bCc (h2 o ho);split
   ·rename_i hw;simp only [hw,if_true] at h3;exact .inl (kP rfl (fun u w' h'=>end_s r _ _ _ ⟨h1.2,h'⟩) (fun d w' h'=>end_s r _ _ _ ⟨h1.2,h'⟩) h3)
   ·rename_i hw;simp only [hw] at h3;exact end_s r _ _ _ ⟨h1.2,h3⟩
theorem rE{Q:Exit→Act→World→Prop}(m:Nat)(hR: ∀listed a w,R listed a w→wpAny P md ops Q m listed a w): ∀(fuel:Nat) (listed:Array Bool) (a:Act) (w:World),rI P md ops C R fuel listed a w→wpAny P md ops Q (fuel+m) listed a w
 | 0,_,_,_,h=>by
  rw [Nat.zero_add];exact hR _ _ _ h.2
 | fuel+1,listed,a,w,h=>by
  rw [Nat.succ_add];refine⟨fun e=>absurd e h.2.1,fun i hi=>?_⟩;have hf:=h.2.2 i hi;unfold wpOp;split
  ·rename_i ho;obtain⟨_,oi,hoi,_⟩:=mem_ready.1 hi;rw [ho] at hoi;cases hoi
  ·rename_i o ho;have h1:=bCc (hf o ho);split
   ·rename_i hw;simp only [hw,if_true] at h1;exact .inl (kP rfl (fun u w' h'=>rE m hR fuel _ _ _ h') (fun d w' h'=>rE m hR fuel _ _ _ h') h1)
   ·rename_i hw;simp only [hw] at h1;exact rE m hR fuel _ _ _ h1
theorem wpAnyS_first{i:Nat}{oi:Oper}{v:Value}(hi:ops[i]?=some oi)(hsel: ∀(j:Nat) (o:Oper) cs b,ops[j]?=some o→o.op≠ .select cs b)(hR: ∀listed a w,R listed a w→ ∀j∈Region.ready md ops listed,bBb md ops j i=true):
  ∀(fuel:Nat) (listed:Array Bool) (a:Act) (w:World),kJ md ops listed→
   (∀j oj,ops[j]?=some oj→j≠i→listed.getD j true=false→(∀e∈oj.after,Region.binds md e=true→e.on≠i)→oi.apart ops oj=true)→
   i∈Region.ready md ops listed→Fl P ops C oi v a→
   rI P md ops C R fuel (listed.setIfInBounds i true) (a.put oi.dst v) w→rI P md ops C R (fuel+1) listed a w:=by
 have hun: ∀{listed:Array Bool},i∈Region.ready md ops listed→listed.getD i false≠true:=fun{listed} hr e=>by
  have h0:=(mem_ready.1 hr).1
  rcases Nat.lt_or_ge i listed.size with h' | h'
  ·simp [h'] at h0 e;rw [h0] at e;cases e
  ·simp [Array.getElem?_eq_none h'] at e
 intro fuel
 induction fuel with
 | zero=>
  intro listed a w hc _ hr hy H;refine⟨H.1,fun h=>(by rw [h] at hr;cases hr),fun j hj=>?_⟩
  by_cases hji:j=i
  ·subst hji;exact hy.fOp hi H.1 H
  ·exact absurd hj (wX hc (hR _ _ _ H.2 j (ready_mono hj hji)) (hun hr))
 | succ fuel ih=>
  intro listed a w hc hfree hr hy H;refine⟨H.1,fun h=>(by rw [h] at hr;cases hr),fun j hj=>?_⟩
  by_cases hji:j=i
  ·subst hji;exact hy.fOp hi H.1 H
  ·have h1:=H.2.2 j (ready_mono hj hji);obtain⟨hjun,oj,hoj,hall⟩:=mem_ready.1 hj
   have hnot: ∀e∈oj.after,Region.binds md e=true→e.on≠i:=fun e he hb heq=>by
    have h1:=hall e he hb;rw [heq] at h1;exact hun hr h1
   have h2:=fOp_put hoj (hfree j oj hoj hji hjun hnot) (fun cs b=>hsel i oi cs b hi) (fun cs b=>hsel j oj cs b hoj) hy h1;have hfree': ∀k ok,ops[k]?=some ok→k≠i→(listed.setIfInBounds j true).getD k true=false→
     (∀e∈ok.after,Region.binds md e=true→e.on≠i)→oi.apart ops ok=true:=fun k ok hk hki hun hno=>by
    refine hfree k ok hk hki ?_ hno
    by_cases hjk:j=k
    ·subst hjk;exact hjun
    ·rw [getD_set_ne true hjk] at hun;exact hun
   refine hI (fun a' w' h3=>ih (listed.setIfInBounds j true) a' w' (hc.set hj) hfree' (ready_mono hr (Ne.symm hji)) h3.1 ?_) h2;rw [Array.setIfInBounds_comm _ _ hji];exact h3.2
def waitsS(md:Region.Mode)(ops:Array Oper)(ls:List Nat)(k:Nat):Bool:=match ls with
 | []=>true
 | l::_=>bBb md ops l k
def pG (P:Program)(ops:Array Oper)(C:World→Prop)(Q:Exit→Act→World→Prop)(ls:List Nat):List (Bool×Nat)→Act→World→Prop
 | [],a,w=>rV P ops (Q .normal) ls a w
 | (true,k)::r,a,w=> ∃o v,ops[k]?=some o∧Fl P ops C o v a∧pG P ops C Q ls r (a.put o.dst v) w
 | (false,k)::r,a,w=>fOp P ops k (fun a w=>C w∧pG P ops C Q ls r a w) a w
def bDk (md:Region.Mode)(ops:Array Oper)(ls:List Nat):List (Bool×Nat)→Array Bool→Bool
 | [],listed=>bEo md ops ls listed
 | (true,k)::r,listed=>(Region.ready md ops listed).contains k&&(Region.free md ops listed k&&(waitsS md ops ls k&&bDk md ops ls r (listed.setIfInBounds k true)))
 | (false,k)::r,listed=>(Region.ready md ops listed==[k])&&bDk md ops ls r (listed.setIfInBounds k true)
theorem vG{Q:Exit→Act→World→Prop}{ls:List Nat}(hs:Region.noSelect ops=true): ∀(od:List (Bool×Nat)) (listed:Array Bool) (a:Act) (w:World),kJ md ops listed→bDk md ops ls od listed=true→C w→pG P ops C Q ls od a w→rI P md ops C (EndS P md ops Q ls) od.length listed a w
 | [],listed,a,w,_,hB,hC,h=>⟨hC,hB,h⟩
 | (true,k)::r,listed,a,w,hc,hB,hC,h=>by
  simp only [bDk,Bool.and_eq_true] at hB;obtain⟨o,v,ho,hy,hK⟩:=h
  exact wpAnyS_first ho (Region.noSelect_spec hs) (fun listed' _ _ h j hj=>by
   have h1:=h.1;have h2:=hB.2.2.1
   revert h1 h2
   cases ls with
   | nil=>
    intro h1 _;have h1:(Region.ready md ops listed').isEmpty=true:=h1;rw [List.isEmpty_iff.1 h1] at hj;cases hj
   | cons l ls=>
    intro h1 h2;simp only [bEo,Bool.and_eq_true,beq_iff_eq] at h1;rw [h1.1] at hj;obtain rfl:j=l:=by simpa using hj
    exact h2) r.length listed a w hc (Region.free_spec ho hB.2.1) (by simpa using hB.1) hy (vG hs r _ _ _ (hc.set (by simpa using hB.1)) hB.2.2.2 hC hK)
 | (false,k)::r,listed,a,w,hc,hB,hC,h=>by
  simp only [bDk,Bool.and_eq_true,beq_iff_eq] at hB;refine⟨hC,fun h0=>(by rw [hB.1] at h0;cases h0),fun i hi=>?_⟩;rw [hB.1] at hi;have:i=k:=by simpa using hi
  subst this;exact hI (fun a' w' h'=>vG hs r _ _ _ (hc.set (by rw [hB.1];simp)) hB.2 h'.1 h'.2) h
def mixSOk(ls:List Nat)(od:List (Bool×Nat))(ops:Array Oper):Bool:=Region.noSelect ops&&Nat.beq (od.length+ls.length) ops.size&&bDk .any ops ls od (Array.replicate ops.size false)
end
section
variable {P : Program} {β : gD} {n : Nat} {Γ : Env} {H : List bZ} {F : List bN} {Q : Exit → Act → World → Prop} {Hk : List bZ} {F0 : List bN} {ops : Array Oper} {ls : List Nat}
theorem zK{id:Nat}{l:List Oper}(ls:List Nat)(Hk:List bZ)(F0:List bN)(od:List (Bool×Nat))(hm:P.follows .mixedOrders=true)(hB:mixSOk ls od l.toArray=true)(hH:Sel H Hk)(hF:bF F F0)
  (h:At β n Γ H F (pG P l.toArray (StF β Hk F0) Q ls od)):At β n Γ H F ((Code.region id l.toArray true).wp P Q):=fun a w S f s k=>by
 simp only [mixSOk,Bool.and_eq_true] at hB;have hw:=StF.drew ⟨S,s,k⟩;obtain⟨S',s',k'⟩:=hw;refine wp_region_any hm ?_;have h1:=vG (P:=P) (md:= .any) (C:=StF β Hk F0) (Q:=Q) hB.1.1 od (Array.replicate l.toArray.size false) a _ kJ.none hB.2 (StF.sel hH hF ⟨S',s',k'⟩) (h a _ S' f s' k');have h2:=rE (Q:=Q) ls.length (end_s ls) _ _ _ _ h1
 rwa [Nat.eq_of_beq_eq_true hB.1.2] at h2
theorem fX{r:List (Bool×Nat)}{o:Oper}{k d:Nat}{v:Value}(hk:ops[k]?=some o)(hw:want ops Γ o=some true)(hd:o.dst=some d)(hn:Nat.blt d n=true)(h:Sti P β n Γ Hk F0 o v)
  (K:At β n ((d,v)::Γ) H F (pG P ops (StF β Hk F0) Q ls r)):At β n Γ H F (pG P ops (StF β Hk F0) Q ls ((true,k)::r)):=fun a w S f s hF=>by
 refine⟨o,v,hk,.inl ⟨f.want hw,fun w' ⟨S',s',k'⟩=>h a w' S' f s' k'⟩,?_⟩;rw [hd];exact K _ _ S (f.put (by simpa [Nat.blt_eq] using hn) v) s hF
theorem oA{r:List (Bool×Nat)}{o:Oper}{k:Nat}{C:World→Prop}(hk:ops[k]?=some o)(h:At β n Γ H F (wpList P ops (Nm fun a w=>C w∧pG P ops C Q ls r a w) [o])):At β n Γ H F (pG P ops C Q ls ((false,k)::r)):=fun a w S f s hF o' ho'=>by
 have:o'=o:=Option.some.inj (ho'.symm.trans hk);subst this;exact h a w S f s hF
theorem nZ{r:List (Bool×Nat)}(hH:Sel H Hk)(hF:bF F F0)(h:At β n Γ H F (pG P ops (StF β Hk F0) Q ls r)):At β n Γ H F (wpList P ops (Nm fun a w=>StF β Hk F0 w∧pG P ops (StF β Hk F0) Q ls r a w) []):=fun a w S f s k=>
 ⟨rfl,StF.sel hH hF ⟨S,s,k⟩,h a w S f s k⟩
theorem vZ{C:World→Prop}(h:At β n Γ H F (rV P ops (Q .normal) ls)):At β n Γ H F (pG P ops C Q ls []):=h
theorem gK{K:Act→World→Prop}{o:Oper}{l:Nat}(hk:ops[l]?=some o)(h:At β n Γ H F (wpList P ops (Nm (rV P ops K ls)) [o])):At β n Γ H F (rV P ops K (l::ls)):=fun a w S f s hF o' ho'=>by
 have:o'=o:=Option.some.inj (ho'.symm.trans hk);subst this;exact h a w S f s hF
theorem zJ{K:Act→World→Prop}(h:At β n Γ H F K):At β n Γ H F (rV P ops K []):=h
end
theorem nJ{α γ:Type}{l:List α}{f:List γ→List α}{out:List γ}{i:Nat}{y:α}{z:γ}(h:f out=l.take i)(hy:l[i]?=some y)(hf:f (out++[z])=f out++[y]):f (out++[z])=l.take (i+1):=by
 rw [hf,h,List.take_add_one,hy];rfl
theorem qI{α:Type}{l m:List α}{i:Nat}(h:m=l.take i)(hi:l.length≤i):m=l:=by rw [h,List.take_of_length_le hi]
theorem tX{l:List fS}{sd:Sl PolV}{u:fS}(h:dF sd.list=dF u.sides.list):jH (l++[⟨sd,u.input⟩])=jH l++[u.c]:=by
 unfold jH;rw [List.map_append];show _++[BufC.mk (dF sd.list) u.input]=_;rw [h];rfl
theorem rF{l:List cN}{lp:Sl PolV}{x:cN}{A B:Option Addr}{a b:Nat}{ol:List OpV}(h:dF lp.list=dF x.loops.list)(ho:dY ol=dY x.ops.list):iJ (l++[⟨x.how,x.buf,⟨A,a,x.at_.list⟩,lp,x.fn,⟨B,b,ol⟩⟩])=iJ l++[x.c]:=by
 unfold iJ;rw [List.map_append];show _++[StepC.mk x.how x.buf x.at_.list (dF lp.list) x.fn (dY ol)]=_;rw [h,ho];rfl
theorem zF{l:List OpV}{k:Nat}{o o':OpV}(h:l[k]?=some o)(e:o'.c=o.c):dY (l.set k o')=dY l:=by
 unfold dY;rw [List.map_set,e];apply List.ext_getElem?;intro n;rw [List.getElem?_set];split
 ·rename_i hn;subst hn;obtain⟨hl,rfl⟩:=List.getElem?_eq_some_iff.1 h;simp [hl]
 ·rfl
theorem zN{c y:CoreV}(h0:y.vars=c.vars)(h1:jH y.bufs.list=jH c.bufs.list)(h2:iJ y.steps.list=iJ c.steps.list)(h3:y.outs.list=c.outs.list):y.c=c.c:=by
 unfold CoreV.c;rw [h0,h1,h2,h3]
theorem bufs_all{vars:Int}: ∀{l:List BufC} {seen:List Int},mO vars l seen=true→ ∀b∈l,b.sides.length≤4
 | [],_,_,b,hb=>by cases hb
 | y::l,seen,h,b,hb=>by
  rw [mO,Bool.and_eq_true] at h
  rcases List.mem_cons.1 hb with rfl | hb
  ·have h1:=h.1;unfold gI at h1;rw [Bool.and_eq_true,decide_eq_true_eq] at h1;exact h1.2
  ·have h2:=h.2;rw [Bool.and_eq_true,Bool.and_eq_true] at h2;exact bufs_all h2.2.2 b hb
theorem sides_small{c:fL}(h:dV c=true): ∀b∈c.bufs,b.sides.length≤4:=bufs_all (qC h).2.1
theorem tT{c:CoreV}(hr:dV c.c=true){u:fS}(h:u∈c.bufs.list):u.sides.list.length≤4:=by
 have h1:=sides_small hr u.c (List.mem_map_of_mem h)
 rwa [show u.c.sides.length=u.sides.list.length from cP _] at h1
theorem lG(z0:Int)(a3:Option Addr)(l3 c3:Nat):Tryz.prog.built 26 [(0,.int .i64 z0),(3,.slice a3 l3 c3)]=some #[.int .i64 z0,.slice none 0 0,.slice none 0 0,.slice a3 l3 c3]:=by kernel_rfl
theorem lQ(a0:Option Addr)(l0 c0:Nat)(z1:Int):Tryz.prog.built 47 [(0,.slice a0 l0 c0),(1,.int .i64 z1)]=some #[.slice a0 l0 c0,.int .i64 z1]:=by kernel_rfl
set_option maxRecDepth 100000 in
theorem pY(l:Sl Int)(hl:l.list.length≤1000000):dT Tryz.prog 81 [.slice l.addr l.list.length l.cap] [] [iK.sl (.slice l.addr l.list.length l.cap) l.list] (fun(x:Option Addr×Nat)=> .slice x.1 l.list.length x.2) (fun _=>[]) (fun(x:Option Addr×Nat)=>[sI ⟨x.1,x.2,l.list⟩]):=by
 have hT:=dA;refine cQ Tryz.func81 rfl Tryz.ntmps81 rfl ?_;intro β hM;refine sr<|sp hT ?_;refine nn<|bE<|sr<|sp hT ?_;refine ss (pD Tryz.underlying24 rfl rfl) ?_;refine nn<|bP rfl (fun hc4=>?_) (fun hc4=>?_)
 ·refine bE<|bH (bN.pure (l.addr.isNone=true→l.list=[])) (qQ (Has.of mT0)) ?_;refine bT (Has.of mT0) fun hnil=>?_;have hl0:=hnil ‹_›;refine dS (t:=3) iK ?_;refine bC<|sp hT ?_;refine nn<|bL<|bK ?_;obtain⟨la,lc,ll⟩:=l;obtain rfl:ll=[]:=hl0;refine gB .head fun hc=>?_;refine cZ .head ?_;exact bJ (_,_) rfl (bI rfl) .nil ⟨Has.and (Has.of mT0) (Has.pure ⟨hc,by dsimp only;first | omega | (simp;done)⟩),trivial⟩ rfl
 refine bQ<|bD<|sr<|iZ rfl rfl rfl rfl fun b1=>?_;refine sp hT ?_;refine cT .head (bB (Has.of mT0)) rfl rfl rfl rfl rfl rfl rfl (by simp;omega) fun A2 c3=>?_;rw [List.nil_append];refine sp hT ?_;refine nn<|bL<|gB .head fun hc=>?_;refine cZ .head ?_;exact bJ (_,_) rfl (bI rfl) .nil ⟨Has.and (Has.of mT0) (Has.pure ⟨hc,by dsimp only;first | omega | (simp;done)⟩),trivial⟩ rfl
set_option maxRecDepth 100000 in
theorem kQ(l:PolV)(hl:l.list.length≤8796093022208):dT Tryz.prog 49 [.slice l.addr l.list.length l.cap] [] [iB.sl (.slice l.addr l.list.length l.cap) l.list] (fun(x:Option Addr×Nat)=> .slice x.1 l.list.length x.2) (fun _=>[]) (fun(x:Option Addr×Nat)=>[lW ⟨x.1,x.2,l.list⟩]):=by
 have hT:=dA;refine cQ Tryz.func49 rfl Tryz.ntmps49 rfl ?_;intro β hM;refine sr<|sp hT ?_;refine nn<|bE<|sr<|sp hT ?_;refine ss (pD Tryz.underlying35 rfl rfl) ?_;refine nn<|bP rfl (fun hc4=>?_) (fun hc4=>?_)
 ·refine bE<|bH (bN.pure (l.addr.isNone=true→l.list=[])) (qQ (Has.of mT0)) ?_;refine bT (Has.of mT0) fun hnil=>?_;have hl0:=hnil ‹_›;refine dS (t:=45) iB ?_;refine bC<|sp hT ?_;refine nn<|bL<|bK ?_;obtain⟨la,lc,ll⟩:=l;obtain rfl:ll=[]:=hl0;refine gB .head fun hc=>?_;refine cZ .head ?_;exact bJ (_,_) rfl (bI rfl) .nil ⟨Has.and (Has.of mT0) (Has.pure (by dsimp only;first | omega | (simp;done))),trivial⟩ rfl
 refine bQ<|bD<|sr<|wF rfl rfl rfl rfl fun b1=>?_;refine sp hT ?_;refine yJ .head (bB (Has.of mT0)) rfl rfl rfl rfl rfl rfl rfl (by simp;omega) fun A2 c3=>?_;rw [List.nil_append];refine sp hT ?_;refine nn<|bL<|gB .head fun hc=>?_;refine cZ .head ?_;exact bJ (_,_) rfl (bI rfl) .nil ⟨Has.and (Has.of mT0) (Has.pure (by dsimp only;first | omega | (simp;done))),trivial⟩ rfl
set_option maxRecDepth 100000 in
theorem pW(l:Sl OpV)(hl:l.list.length≤1000000):dT Tryz.prog 83 [.slice l.addr l.list.length l.cap] [] [opE.sl (.slice l.addr l.list.length l.cap) l.list] (fun(x:Option Addr×Nat)=> .slice x.1 l.list.length x.2) (fun(x:Option Addr×Nat)=>[opE.row (.slice x.1 l.list.length x.2) 42 l.list]) (fun _=>[]):=by
 have hT:=dA;refine cQ Tryz.func83 rfl Tryz.ntmps83 rfl ?_;intro β hM;refine sr<|sp hT ?_;refine nn<|bE<|sr<|sp hT ?_;refine ss (pD Tryz.underlying38 rfl rfl) ?_;refine nn<|bP rfl (fun hc4=>?_) (fun hc4=>?_)
 ·refine bE<|bH (bN.pure (l.addr.isNone=true→l.list=[])) (qQ (Has.of mT0)) ?_;refine bT (Has.of mT0) fun hnil=>?_;have hl0:=hnil ‹_›;refine dS (t:=42) opE ?_;refine bC<|sp hT ?_;refine nn<|bL<|bK ?_;obtain⟨la,lc,ll⟩:=l;obtain rfl:ll=[]:=hl0;exact bJ (_,_) rfl (bI rfl) (.cons .head .nil) trivial rfl
 refine bQ<|bD<|sr<|at_none_op rfl rfl rfl rfl fun b1=>?_;refine sp hT ?_;refine lA .head (bB (Has.of mT0)) rfl rfl rfl rfl rfl rfl rfl (by simp;omega) fun A2 c3=>?_;rw [List.nil_append];refine sp hT ?_;refine nn<|bL ?_;exact bJ (_,_) rfl (bI rfl) (.cons .head .nil) trivial rfl
set_option maxRecDepth 100000 in
theorem iT(l:Sl PolV)(hl:l.list.length≤1000000):dT Tryz.prog 82 [.slice l.addr l.list.length l.cap] [] [fN.sl (.slice l.addr l.list.length l.cap) l.list,gP l.list] (fun(x:Sl PolV)=> .slice x.addr x.list.length x.cap) (fun _=>[]) (fun(x:Sl PolV)=>[nR x,bN.pure (dF x.list=dF l.list)]):=by
 have hT:=dA;refine cQ Tryz.func82 rfl Tryz.ntmps82 rfl ?_;intro β hM;refine sr<|sp hT ?_;refine nn<|sr<|sp hT ?_;refine nn<|bE<|bE<|dS (t:=35) fN ?_;refine bC<|sp3 hT ?_;refine nn<|bR<|bH (gP []) (Has.each_nil) ?_;refine cG (ι:=Nat×List PolV×Option Addr×Nat) [(6,_),(7,_)] ⟨rfl,rfl,trivial⟩ (fun⟨i,out,OA,oc⟩=>[(3,.slice OA out.length oc),(8,.int .i64 (i:Nat))]) (fun⟨i,out,OA,oc⟩=>[fN.row (.slice OA out.length oc) 35 out]) (fun⟨i,out,OA,oc⟩=>[bN.pure (i≤l.list.length∧out.length=i∧dF out=(dF l.list).take i),gP out]) (fun⟨i,out,OA,oc⟩=>l.list.length-i) (0,[],none,0) ⟨rfl,rfl,trivial⟩ (.cons .head .nil) ⟨Has.pure (⟨by omega,rfl,rfl⟩),Has.of mT0,trivial⟩ ?_;rintro⟨i,out,OA,oc⟩;dsimp only;refine bT (Has.of mT0) fun hinv3=>?_;refine sr<|sp hT ?_;refine nn<|bE<|bP rfl (fun hc9=>?_) (fun hc9=>?_)
 ·have hc9:=of_decide_eq_true hc9;refine bQ<|bD<|bE<|bR<|bE ?_
  obtain⟨x1,hx2⟩: ∃x',l.list[i]?=some x':=⟨_,List.getElem?_eq_getElem (by omega)⟩
  refine bC<|ss (bM hT (k:=i) (bB (Has.of mT3)) rfl rfl rfl rfl rfl rfl rfl (by omega)) ?_;refine ss (bO hT (cB.knows (bB (Has.of mT3)) (k:=i) (x:=x1) hx2 0) rfl rfl rfl rfl rfl) ?_;refine sp hT ?_;refine nn<|bC<|sp2 hT ?_;refine bT (iU (Has.each (Has.of mT4) (List.mem_of_getElem? hx2))) fun hxl=>?_;refine cR Tryz.func49 (kQ x1 hxl) rfl rfl .nil ⟨fU (Has.each (Has.of mT4) (List.mem_of_getElem? hx2)),trivial⟩ fun⟨A3,c4⟩=>?_;refine mI (m:=(⟨A3,c4,x1.list⟩:PolV)) rfl rfl rfl rfl rfl fun b5=>?_;refine xZ kT1 (dI .head rfl) rfl rfl rfl rfl rfl rfl rfl (by first | (simp only [List.length_singleton];omega) | (simp;omega)) fun A6 c7=>?_;refine bH (gP (out++[(⟨A3,c4,x1.list⟩:PolV)])) (Has.each_snoc (Has.of mT2) (Has.of mT0)) ?_;refine sp hT ?_;refine cS<|cA<|bD<|bC<|sp hT ?_;refine bW (z':=(((i+1):Nat):Int)) (cH (by omega) (by omega)) ?_;refine sp hT ?_;refine nn ?_;exact bU (i+1,out++[(⟨A3,c4,x1.list⟩:PolV)],_,_) (by dsimp only;omega) ⟨rfl,rfl,trivial⟩ ⟨rfl,rfl,trivial⟩ (.cons .head .nil) ⟨Has.pure (⟨by dsimp only;omega,by dsimp only;simp;omega,nJ hinv3.2.2 (gX hx2) (by simp [dF])⟩),Has.of mT0,trivial⟩ (bF.drop 4)
 have hc9:=Int.not_lt.1 (of_decide_eq_false hc9);refine cE<|bX<|bX<|cF<|bD<|sr<|sp2 hT ?_;refine nn<|bL ?_;have hce:=qI hinv3.2.2 (by rw [cP];omega);refine gB .head fun hoc=>?_;refine cZ .head ?_;exact bJ (⟨OA,oc,out⟩:Sl PolV) rfl (bI rfl) .nil ⟨Has.and (Has.and (Has.of mT0) (Has.of mT2)) (Has.pure ⟨hoc,by dsimp only;omega⟩),Has.pure hce,trivial⟩ rfl
set_option maxRecDepth 100000 in
theorem copied_spec(c:CoreV)(hr:dV c.c=true):dT Tryz.prog 35 [.agg #[.int .i64 c.vars,.slice c.bufs.addr c.bufs.list.length c.bufs.cap,.slice c.steps.addr c.steps.list.length c.steps.cap,.slice c.outs.addr c.outs.list.length c.outs.cap]] [] [iE c] (fun(y:CoreV)=> .agg #[.int .i64 y.vars,.slice y.bufs.addr y.bufs.list.length y.bufs.cap,.slice y.steps.addr y.steps.list.length y.steps.cap,.slice y.outs.addr y.outs.list.length y.outs.cap]) (fun(y:CoreV)=>[kO.row (.slice y.bufs.addr y.bufs.list.length y.bufs.cap) 47 y.bufs.list,fW.row (.slice y.steps.addr y.steps.list.length y.steps.cap) 40 y.steps.list]) (fun(y:CoreV)=>[bN.each y.bufs.list lJ,bN.each y.steps.list dQ,sI y.outs,bN.pure (y.c=c.c)]):=by
 have hT:=dA;obtain⟨hbz,hst,hou⟩:=lO hr;have hnb:c.c.bufs.length=c.bufs.list.length:=dB _;have hns:c.c.steps.length=c.steps.list.length:=cY _;have hno:c.c.outs.length=c.outs.list.length:=rfl;refine cQ Tryz.func35 rfl Tryz.ntmps35 rfl ?_;intro β hM;refine bE<|bH (fW.sl (.slice c.steps.addr c.steps.list.length c.steps.cap) c.steps.list) (jR (fB (Has.of mT0))) ?_;refine bH (kO.sl (.slice c.bufs.addr c.bufs.list.length c.bufs.cap) c.bufs.list) (nL (hZ (Has.of mT1))) ?_;refine bH (iK.sl (.slice c.outs.addr c.outs.list.length c.outs.cap) c.outs.list) (oL (mY (Has.of mT2))) ?_;refine bC<|gL rfl rfl rfl rfl rfl rfl fun b1=>?_;refine cV rfl rfl rfl rfl nU rfl fun b2=>?_;refine nn<|bE<|uD _ _ (.fl 0 (.fl 1 (.fl 2 (.fl 3 (.two 4 6 (.fl 5 (.op 6 (.op 7 .nil))) (.op 4 (.fl 5 (.op 7 .nil)))))))) fK (by decide+kernel) (.cons .head (.cons .head .nil)) bF.self ?_;refine pvT hT ?_;refine sqT rfl (ldO hT (dK kT1)) ?_;refine pvT hT ?_;refine sqT rfl (ldO hT (iC kT1)) ?_;refine nM (o:=_) (o':=_) rfl rfl ?_ ?_
 ·refine cR Tryz.func81 (pY c.outs (by omega)) rfl rfl .nil ⟨(Has.of mT0),trivial⟩ fun⟨A3,c4⟩=>?_;refine cX (.cons .head (.cons .head .nil)) (bF.drop 1) ?_;refine sqT rfl (dU rfl rfl (lG _ _ _ _)) ?_;refine dR (o:=_) rfl ?_;refine cV rfl rfl rfl rfl nU rfl fun b5=>?_;refine cX (.cons kT1 (.cons kT1 .nil)) (bF.drop 1) ?_;refine dR (o:=_) rfl ?_;refine sto hT .head ?_;refine cX (.cons kT1 (.cons kT1 .nil)) (bF.drop 1) ?_;refine jJ<|bD<|bE<|sr<|sp hT ?_;refine ss (ldO hT (dO kT2)) ?_;refine sp2 hT ?_;refine nn<|bR<|dS (t:=47) kO ?_;refine bH (bN.each ([]:List fS) lJ) (Has.each_nil) ?_;refine cG (ι:=Nat×List fS×Option Addr×Nat) [(1,_),(2,_),(3,_),(16,_),(17,_)] ⟨rfl,rfl,rfl,rfl,rfl,trivial⟩ (fun⟨i,bfl,BA,bc⟩=>[(18,.int .i64 (i:Nat))]) (fun⟨i,bfl,BA,bc⟩=>[.obj b5 (.cells ([.int .i64 c.vars,.slice BA bfl.length bc,.slice none 0 0,.slice A3 c.outs.list.length c4]:List Value).toArray 26),kO.row (.slice BA bfl.length bc) 47 bfl]) (fun⟨i,bfl,BA,bc⟩=>[bN.pure (i≤c.bufs.list.length∧bfl.length=i∧jH bfl=(jH c.bufs.list).take i),bN.each bfl lJ]) (fun⟨i,bfl,BA,bc⟩=>c.bufs.list.length-i) (0,[],none,0) ⟨rfl,trivial⟩ (.cons kT1 (.cons .head .nil)) ⟨Has.pure (⟨by omega,rfl,rfl⟩),Has.of mT0,trivial⟩ ?_;rintro⟨i,bfl,BA,bc⟩;dsimp only;refine bT (Has.of mT0) fun hinv3=>?_;refine sr<|sp hT ?_;refine nn<|bE<|bP rfl (fun hc19=>?_) (fun hc19=>?_)
  ·have hc19:=of_decide_eq_true hc19;refine bQ<|bD<|bE<|bR<|bE ?_
   obtain⟨x6,hx7⟩: ∃x',c.bufs.list[i]?=some x':=⟨_,List.getElem?_eq_getElem (by omega)⟩
   refine bH (lJ x6) (Has.each (oJ (hZ (Has.of mT7))) (List.mem_of_getElem? hx7)) ?_;refine bH (fN.sl (.slice x6.sides.addr x6.sides.list.length x6.sides.cap) x6.sides.list) (gE (Has.of mT0)) ?_;refine bH (gP x6.sides.list) (iF (Has.of mT1)) ?_;refine bT (pX (Has.of mT2)) fun hz8=>?_;have hzs:=hz8.2;have hsl:=tT hr (List.mem_of_getElem? hx7);refine bC<|ss (bM hT (k:=i) (bB (Has.of mT8)) rfl rfl rfl rfl rfl rfl rfl (by omega)) ?_;refine ss (cO hT (cB.knows (bB (Has.of mT8)) (k:=i) (x:=x6) hx7 0) rfl rfl rfl rfl rfl) ?_;refine cV rfl rfl rfl rfl sO rfl fun b9=>?_;refine sto hT .head ?_;refine nn<|jY 11 _ _ [(true,0),(true,1),(true,2),(true,3),(true,5),(true,6),(false,4),(true,7),(false,8),(false,9),(true,10)] fK (by decide+kernel) (.cons .head (.cons .head (.cons kT1 (.cons kT1 .nil)))) bF.self ?_;refine puL hT ?_;refine stL rfl (ldO hT (dO kT1)) ?_;refine puL hT ?_;refine stL rfl (ldO hT (dK .head)) ?_;refine puL hT ?_;refine stL rfl (ldO hT (dO .head)) ?_;refine gS (o:=_) rfl ?_;refine cR Tryz.func82 (iT x6.sides (by omega)) rfl rfl .nil ⟨(Has.of mT1),(Has.of mT0),trivial⟩ fun sd=>?_;refine bT (Has.of mT1) fun hsd=>?_;refine gU (.cons .head (.cons .head (.cons kT1 (.cons kT1 .nil)))) (bF.drop 2) ?_;refine stL rfl (dU rfl rfl (lQ _ _ _ _)) ?_;refine gS (o:=_) rfl ?_;refine sC (m:=(⟨sd,x6.input⟩:fS)) rfl rfl rfl rfl rfl fun b10=>?_;refine gU (.cons kT1 (.cons kT1 (.cons kT2 (.cons kT2 .nil)))) (bF.drop 2) ?_;refine gS (o:=_) rfl ?_;refine oX kT3 (dI .head rfl) rfl rfl rfl rfl rfl rfl rfl (by first | (simp only [List.length_singleton];omega) | (simp;omega)) fun A11 c12=>?_;refine bH (bN.each (bfl++[(⟨sd,x6.input⟩:fS)]) lJ) (Has.each_snoc (Has.of mT6) (Has.of mT0)) ?_;refine gU (.cons kT2 (.cons kT2 (.cons kT2 (.cons kT2 .nil)))) (bF.drop 3) ?_;refine puL hT ?_;refine iV (o:=_) rfl ?_;refine sto hT kT3 ?_;refine dX<|cA<|bD<|bC<|sp hT ?_;refine bW (z':=(((i+1):Nat):Int)) (cH (by omega) (by omega)) ?_;refine sp hT ?_;refine nn ?_;exact bU (i+1,bfl++[(⟨sd,x6.input⟩:fS)],_,_) (by dsimp only;omega) ⟨rfl,trivial⟩ ⟨rfl,rfl,rfl,rfl,rfl,trivial⟩ (.cons .head (.cons .head (.cons kT2 (.cons kT2 .nil)))) ⟨Has.pure (⟨by dsimp only;omega,by dsimp only;simp;omega,nJ hinv3.2.2 (fI hx7) (tX hsd)⟩),Has.of mT0,trivial⟩ (bF.drop 8)
  have hc19:=Int.not_lt.1 (of_decide_eq_false hc19);refine cE<|bX<|bX<|cF<|bD<|bE<|sr<|sp hT ?_;refine ss (ldO hT (gA kT3)) ?_;refine sp2 hT ?_;refine nn<|bR ?_;have hbe:=qI hinv3.2.2 (by rw [dB];omega);refine dS (t:=40) fW ?_;refine bH (bN.each ([]:List cN) dQ) (Has.each_nil) ?_;refine cG (ι:=Nat×List cN×Option Addr×Nat) [(2,_),(3,_),(35,_),(36,_)] ⟨rfl,rfl,rfl,rfl,trivial⟩ (fun⟨i,ssl,SA,sc⟩=>[(37,.int .i64 (i:Nat))]) (fun⟨i,ssl,SA,sc⟩=>[.obj b5 (.cells ([.int .i64 c.vars,.slice BA bfl.length bc,.slice SA ssl.length sc,.slice A3 c.outs.list.length c4]:List Value).toArray 26),fW.row (.slice SA ssl.length sc) 40 ssl]) (fun⟨i,ssl,SA,sc⟩=>[bN.pure (i≤c.steps.list.length∧ssl.length=i∧iJ ssl=(iJ c.steps.list).take i),bN.each ssl dQ]) (fun⟨i,ssl,SA,sc⟩=>c.steps.list.length-i) (0,[],none,0) ⟨rfl,trivial⟩ (.cons kT1 (.cons .head .nil)) ⟨Has.pure (⟨by omega,rfl,rfl⟩),Has.of mT0,trivial⟩ ?_;rintro⟨i,ssl,SA,sc⟩;dsimp only;refine bT (Has.of mT0) fun hinv8=>?_;refine sr<|sp hT ?_;refine nn<|bE<|bP rfl (fun hc38=>?_) (fun hc38=>?_)
  ·have hc38:=of_decide_eq_true hc38;refine bQ<|bD<|bE<|bR<|bE ?_
   obtain⟨x13,hx14⟩: ∃x',c.steps.list[i]?=some x':=⟨_,List.getElem?_eq_getElem (by omega)⟩
   refine bH (dQ x13) (Has.each (gW (fB (Has.of bCp))) (List.mem_of_getElem? hx14)) ?_;refine bH (iB.sl (.slice x13.at_.addr x13.at_.list.length x13.at_.cap) x13.at_.list) (fU (jK (Has.of mT0))) ?_;refine bH (fN.sl (.slice x13.loops.addr x13.loops.list.length x13.loops.cap) x13.loops.list) (gE (dW (Has.of mT1))) ?_;refine bH (opE.sl (.slice x13.ops.addr x13.ops.list.length x13.ops.cap) x13.ops.list) (jM (dD (Has.of mT2))) ?_;refine bH (gP x13.loops.list) (iF (dW (Has.of mT3))) ?_;refine bT (iU (jK (Has.of mT4))) fun hal=>?_;refine bT (lX (dD (Has.of mT4))) fun hz15=>?_;have hzo:=hz15.2;obtain⟨hno,hll⟩:=gJ hr x13.c (List.mem_of_getElem? (cM hx14))
   replace hno:x13.ops.list.length≤256:=by rwa [show x13.c.ops.length=x13.ops.list.length from cW _] at hno
   replace hll:x13.loops.list.length≤4:=by rwa [show x13.c.loops.length=x13.loops.list.length from cP _] at hll
   refine bC<|ss (bM hT (k:=i) (bB (Has.of zA)) rfl rfl rfl rfl rfl rfl rfl (by omega)) ?_;refine ss (cO hT (cB.knows (bB (Has.of zA)) (k:=i) (x:=x13) hx14 0) rfl rfl rfl rfl rfl) ?_;refine cV rfl rfl rfl rfl rY rfl fun b16=>?_;refine sto hT .head ?_;refine nn<|bE<|zK [10,11,12,13,14] _ _ [(true,0),(true,1),(true,3),(true,4),(true,6),(true,7),(false,2),(true,9),(false,5),(false,8)] fK (by decide+kernel) (.cons .head (.cons .head (.cons .head (.cons .head (.cons .head (.cons .head .nil)))))) bF.self ?_;refine fX rfl rfl rfl rfl (bY hT rfl) ?_;refine fX rfl rfl rfl rfl (ldO hT (gA .head)) ?_;refine fX rfl rfl rfl rfl (bY hT rfl) ?_;refine fX rfl rfl rfl rfl (ldO hT (iC .head)) ?_;refine fX rfl rfl rfl rfl (bY hT rfl) ?_;refine fX rfl rfl rfl rfl (ldO hT (iI .head)) ?_;refine oA (o:=_) rfl ?_;refine cR Tryz.func49 (kQ x13.at_ hal) rfl rfl .nil ⟨(Has.of mT3),trivial⟩ fun⟨A17,c18⟩=>?_;refine nZ (.cons .head (.cons .head (.cons .head (.cons .head (.cons .head (.cons .head .nil)))))) (bF.drop 1) ?_;refine fX rfl rfl rfl rfl (bY hT rfl) ?_;refine oA (o:=_) rfl ?_;refine cR Tryz.func82 (iT x13.loops (by omega)) rfl rfl .nil ⟨(Has.of mT3),(Has.of mT1),trivial⟩ fun lp=>?_;refine bT (Has.of mT1) fun hlp=>?_;refine nZ (.cons .head (.cons .head (.cons .head (.cons .head (.cons .head (.cons .head .nil)))))) (bF.drop 3) ?_;refine oA (o:=_) rfl ?_;refine cR Tryz.func83 (pW x13.ops (by omega)) rfl rfl .nil ⟨(Has.of mT4),trivial⟩ fun⟨A19,c20⟩=>?_;refine nZ (.cons kT1 (.cons kT1 (.cons kT1 (.cons kT1 (.cons kT1 (.cons kT1 .nil)))))) (bF.drop 3) ?_;refine vZ ?_;refine gK (o:=_) rfl ?_;refine sto hT kT1 ?_;refine dX<|gK (o:=_) rfl ?_;refine sp hT ?_;refine dX<|gK (o:=_) rfl ?_;refine sto hT .head ?_;refine dX<|gK (o:=_) rfl ?_;refine sp hT ?_;refine dX<|gK (o:=_) rfl ?_;refine sto hT .head ?_;refine dX<|zJ ?_;refine bD<|bE<|sr<|sp hT ?_;refine ss (ldO hT (iI .head)) ?_;refine sp2 hT ?_;refine nn<|bR<|bH (bN.each x13.ops.list opF) (kU (dD (Has.of mT7))) ?_;refine cG (ι:=Nat×List OpV) [(2,_),(3,_),(7,_),(35,_),(36,_),(37,_),(55,_)] ⟨rfl,rfl,rfl,rfl,rfl,rfl,rfl,trivial⟩ (fun⟨k,ol⟩=>[(56,.int .i64 (k:Nat))]) (fun⟨k,ol⟩=>[opE.row (.slice A19 x13.ops.list.length c20) 42 ol]) (fun⟨k,ol⟩=>[bN.pure (k≤x13.ops.list.length∧ol.length=x13.ops.list.length∧dY ol=dY x13.ops.list),bN.each ol opF]) (fun⟨k,ol⟩=>x13.ops.list.length-k) (0,x13.ops.list) ⟨rfl,trivial⟩ (.cons kT1 .nil) ⟨Has.pure (⟨by omega,rfl,rfl⟩),Has.of mT0,trivial⟩ ?_;rintro⟨k,ol⟩;dsimp only;refine bT (Has.of mT0) fun hinv12=>?_;have hoL:ol.length=x13.ops.list.length:=hinv12.2.1;refine sr<|sp hT ?_;refine nn<|bE<|bP rfl (fun hc57=>?_) (fun hc57=>?_)
   ·have hc57:=of_decide_eq_true hc57;refine bQ<|bD<|bE<|bR<|bE ?_
    obtain⟨ok,hok⟩: ∃o,ol[k]?=some o:=⟨_,List.getElem?_eq_getElem (by omega)⟩
    refine bH (opF ok) (Has.each (Has.of mT1) (List.mem_of_getElem? hok)) ?_;refine bC<|sp2 hT ?_;refine nn<|jY 12 _ _ [(true,0),(true,1),(true,2),(true,3),(true,4),(true,5),(true,6),(true,7),(true,8),(false,9),(true,10),(true,11)] fK (by decide+kernel) (.cons .head (.cons .head (.cons .head (.cons .head (.cons .head (.cons .head (.cons .head .nil))))))) bF.self ?_;refine puL hT ?_;refine stL rfl (ldO hT (iI kT1)) ?_;refine puL hT ?_;refine puL hT ?_;refine stL rfl (ldO hT (iI kT1)) ?_;refine puL hT ?_;refine stL rfl (bM hT (k:=k) (dM .head) rfl rfl rfl rfl rfl hoL.symm rfl (by omega)) ?_;refine puL hT ?_;refine stL rfl (bO hT (cB.knows (dM .head) (k:=k) (x:=ok) hok 3) rfl rfl rfl rfl rfl) ?_;refine gS (o:=_) rfl ?_;refine bT (iU (Has.of mT0)) fun hpl=>?_;refine cR Tryz.func49 (kQ ok.p hpl) rfl rfl .nil ⟨fU (Has.of mT0),trivial⟩ fun⟨A21,c22⟩=>?_;refine gU (.cons .head (.cons .head (.cons .head (.cons .head (.cons .head (.cons .head (.cons .head .nil))))))) (bF.drop 1) ?_;refine stL rfl (bM hT (k:=k) (dM .head) rfl rfl rfl rfl rfl hoL.symm rfl (by omega)) ?_;refine puL hT ?_;refine iV (o:=_) rfl ?_;refine fR hT (k:=k) (fo:=3) (y':=(⟨ok.how,ok.k,ok.n,⟨A21,c22,ok.p.list⟩,ok.fn⟩:OpV)) .head rfl rfl rfl rfl rfl rfl rfl rfl rfl hok rfl ?_;refine dX<|cA<|bD<|bH (bN.each (ol.set k (⟨ok.how,ok.k,ok.n,⟨A21,c22,ok.p.list⟩,ok.fn⟩:OpV)) opF) (lN (Has.of mT3) (show Has _ (lW _) from (Has.of mT0))) ?_;refine bC<|sp hT ?_;refine bW (z':=(((k+1):Nat):Int)) (cH (by omega) (by omega)) ?_;refine sp hT ?_;refine nn ?_;exact bU (k+1,(ol.set k (⟨ok.how,ok.k,ok.n,⟨A21,c22,ok.p.list⟩,ok.fn⟩:OpV))) (by dsimp only;omega) ⟨rfl,trivial⟩ ⟨rfl,rfl,rfl,rfl,rfl,rfl,rfl,trivial⟩ (.cons .head (.cons .head (.cons .head (.cons .head (.cons .head (.cons .head (.cons .head .nil))))))) ⟨Has.pure (⟨by dsimp only;omega,by dsimp only;rw [List.length_set];omega,(zF (o':=(⟨ok.how,ok.k,ok.n,⟨A21,c22,ok.p.list⟩,ok.fn⟩:OpV)) hok rfl).trans hinv12.2.2⟩),Has.of mT0,trivial⟩ (bF.drop 5)
   have hc57:=Int.not_lt.1 (of_decide_eq_false hc57);refine cE<|bX<|bX<|cF<|bD ?_;have hol:=hinv12.2.2;have hoN:ol.length=x13.ops.list.length:=hinv12.2.1;rw [←hoN];refine gB .head fun hoc=>?_;refine cZ .head ?_;refine bH (dQ (⟨x13.how,x13.buf,⟨A17,c18,x13.at_.list⟩,lp,x13.fn,⟨A19,c20,ol⟩⟩:cN)) (Has.and (Has.of mT6) (Has.and (Has.of mT4) (Has.and (Has.and (Has.of mT0) (Has.of mT2)) (Has.pure ⟨hoc,by dsimp only;omega⟩)))) ?_;refine bC<|sp hT ?_;refine ss (ldO hT (gA kT1)) ?_;refine ss (ldN hT (dK .head)) ?_;refine mJ (m:=(⟨x13.how,x13.buf,⟨A17,c18,x13.at_.list⟩,lp,x13.fn,⟨A19,c20,ol⟩⟩:cN)) rfl rfl rfl rfl rfl fun b23=>?_;refine mK kT3 (dI .head rfl) rfl rfl rfl rfl rfl rfl rfl (by first | (simp only [List.length_singleton];omega) | (simp;omega)) fun A24 c25=>?_;refine bH (bN.each (ssl++[(⟨x13.how,x13.buf,⟨A17,c18,x13.at_.list⟩,lp,x13.fn,⟨A19,c20,ol⟩⟩:cN)]) dQ) (Has.each_snoc (Has.of zA) (Has.of mT0)) ?_;refine sp hT ?_;refine sto hT kT3 ?_;refine cS<|cA<|bD<|bC<|sp hT ?_;refine bW (z':=(((i+1):Nat):Int)) (cH (by omega) (by omega)) ?_;refine sp hT ?_;refine nn ?_;exact bU (i+1,ssl++[(⟨x13.how,x13.buf,⟨A17,c18,x13.at_.list⟩,lp,x13.fn,⟨A19,c20,ol⟩⟩:cN)],_,_) (by dsimp only;omega) ⟨rfl,trivial⟩ ⟨rfl,rfl,rfl,rfl,trivial⟩ (.cons .head (.cons .head (.cons kT2 (.cons kT2 (.cons kT2 .nil))))) ⟨Has.pure (⟨by dsimp only;omega,by dsimp only;simp;omega,nJ hinv8.2.2 (cM hx14) (rF hlp hol)⟩),Has.of mT0,trivial⟩ (bF.drop 16)
  have hc38:=Int.not_lt.1 (of_decide_eq_false hc38);refine cE<|bX<|bX<|cF<|bD<|sr<|ss (ldN hT (dK .head)) ?_;refine sto hT kT3 ?_;refine nn<|bL ?_;have hse:=qI hinv8.2.2 (by rw [cY];omega);exact bJ (⟨c.vars,⟨BA,bc,bfl⟩,⟨SA,sc,ssl⟩,⟨A3,c4,c.outs.list⟩⟩:CoreV) rfl (kY hT (dK .head) rfl rfl rfl rfl) (.cons kT3 (.cons kT2 .nil)) ⟨(Has.of mT4),(Has.of mT1),(Has.of mT6),Has.pure (zN rfl hbe hse rfl),trivial⟩ rfl
 refine cV rfl rfl rfl rfl nU rfl fun b26=>?_;refine cX (.cons kT1 (.cons kT1 .nil)) (bF.drop 0) ?_;refine dR (o:=_) rfl ?_;refine cR Tryz.func81 (pY c.outs (by omega)) rfl rfl .nil ⟨(Has.of mT0),trivial⟩ fun⟨A27,c28⟩=>?_;refine cX (.cons kT1 (.cons kT1 .nil)) (bF.drop 1) ?_;refine sqT rfl (dU rfl rfl (lG _ _ _ _)) ?_;refine dR (o:=_) rfl ?_;refine sto hT .head ?_;refine cX (.cons kT1 (.cons kT1 .nil)) (bF.drop 1) ?_;refine jJ<|bD<|bE<|sr<|sp hT ?_;refine ss (ldO hT (dO kT2)) ?_;refine sp2 hT ?_;refine nn<|bR<|dS (t:=47) kO ?_;refine bH (bN.each ([]:List fS) lJ) (Has.each_nil) ?_;refine cG (ι:=Nat×List fS×Option Addr×Nat) [(1,_),(2,_),(3,_),(16,_),(17,_)] ⟨rfl,rfl,rfl,rfl,rfl,trivial⟩ (fun⟨i,bfl,BA,bc⟩=>[(18,.int .i64 (i:Nat))]) (fun⟨i,bfl,BA,bc⟩=>[.obj b26 (.cells ([.int .i64 c.vars,.slice BA bfl.length bc,.slice none 0 0,.slice A27 c.outs.list.length c28]:List Value).toArray 26),kO.row (.slice BA bfl.length bc) 47 bfl]) (fun⟨i,bfl,BA,bc⟩=>[bN.pure (i≤c.bufs.list.length∧bfl.length=i∧jH bfl=(jH c.bufs.list).take i),bN.each bfl lJ]) (fun⟨i,bfl,BA,bc⟩=>c.bufs.list.length-i) (0,[],none,0) ⟨rfl,trivial⟩ (.cons kT1 (.cons .head .nil)) ⟨Has.pure (⟨by omega,rfl,rfl⟩),Has.of mT0,trivial⟩ ?_;rintro⟨i,bfl,BA,bc⟩;dsimp only;refine bT (Has.of mT0) fun hinv3=>?_;refine sr<|sp hT ?_;refine nn<|bE<|bP rfl (fun hc19=>?_) (fun hc19=>?_)
 ·have hc19:=of_decide_eq_true hc19;refine bQ<|bD<|bE<|bR<|bE ?_
  obtain⟨x29,hx30⟩: ∃x',c.bufs.list[i]?=some x':=⟨_,List.getElem?_eq_getElem (by omega)⟩
  refine bH (lJ x29) (Has.each (oJ (hZ (Has.of mT7))) (List.mem_of_getElem? hx30)) ?_;refine bH (fN.sl (.slice x29.sides.addr x29.sides.list.length x29.sides.cap) x29.sides.list) (gE (Has.of mT0)) ?_;refine bH (gP x29.sides.list) (iF (Has.of mT1)) ?_;refine bT (pX (Has.of mT2)) fun hz31=>?_;have hzs:=hz31.2;have hsl:=tT hr (List.mem_of_getElem? hx30);refine bC<|ss (bM hT (k:=i) (bB (Has.of mT8)) rfl rfl rfl rfl rfl rfl rfl (by omega)) ?_;refine ss (cO hT (cB.knows (bB (Has.of mT8)) (k:=i) (x:=x29) hx30 0) rfl rfl rfl rfl rfl) ?_;refine cV rfl rfl rfl rfl sO rfl fun b32=>?_;refine sto hT .head ?_;refine nn<|jY 11 _ _ [(true,0),(true,1),(true,2),(true,3),(true,5),(true,6),(false,4),(true,7),(false,8),(false,9),(true,10)] fK (by decide+kernel) (.cons .head (.cons .head (.cons kT1 (.cons kT1 .nil)))) bF.self ?_;refine puL hT ?_;refine stL rfl (ldO hT (dO kT1)) ?_;refine puL hT ?_;refine stL rfl (ldO hT (dK .head)) ?_;refine puL hT ?_;refine stL rfl (ldO hT (dO .head)) ?_;refine gS (o:=_) rfl ?_;refine cR Tryz.func82 (iT x29.sides (by omega)) rfl rfl .nil ⟨(Has.of mT1),(Has.of mT0),trivial⟩ fun sd=>?_;refine bT (Has.of mT1) fun hsd=>?_;refine gU (.cons .head (.cons .head (.cons kT1 (.cons kT1 .nil)))) (bF.drop 2) ?_;refine stL rfl (dU rfl rfl (lQ _ _ _ _)) ?_;refine gS (o:=_) rfl ?_;refine sC (m:=(⟨sd,x29.input⟩:fS)) rfl rfl rfl rfl rfl fun b33=>?_;refine gU (.cons kT1 (.cons kT1 (.cons kT2 (.cons kT2 .nil)))) (bF.drop 2) ?_;refine gS (o:=_) rfl ?_;refine oX kT3 (dI .head rfl) rfl rfl rfl rfl rfl rfl rfl (by first | (simp only [List.length_singleton];omega) | (simp;omega)) fun A34 c35=>?_;refine bH (bN.each (bfl++[(⟨sd,x29.input⟩:fS)]) lJ) (Has.each_snoc (Has.of mT6) (Has.of mT0)) ?_;refine gU (.cons kT2 (.cons kT2 (.cons kT2 (.cons kT2 .nil)))) (bF.drop 3) ?_;refine puL hT ?_;refine iV (o:=_) rfl ?_;refine sto hT kT3 ?_;refine dX<|cA<|bD<|bC<|sp hT ?_;refine bW (z':=(((i+1):Nat):Int)) (cH (by omega) (by omega)) ?_;refine sp hT ?_;refine nn ?_;exact bU (i+1,bfl++[(⟨sd,x29.input⟩:fS)],_,_) (by dsimp only;omega) ⟨rfl,trivial⟩ ⟨rfl,rfl,rfl,rfl,rfl,trivial⟩ (.cons .head (.cons .head (.cons kT2 (.cons kT2 .nil)))) ⟨Has.pure (⟨by dsimp only;omega,by dsimp only;simp;omega,nJ hinv3.2.2 (fI hx30) (tX hsd)⟩),Has.of mT0,trivial⟩ (bF.drop 8)
 have hc19:=Int.not_lt.1 (of_decide_eq_false hc19);refine cE<|bX<|bX<|cF<|bD<|bE<|sr<|sp hT ?_;refine ss (ldO hT (gA kT3)) ?_;refine sp2 hT ?_;refine nn<|bR ?_;have hbe:=qI hinv3.2.2 (by rw [dB];omega);refine dS (t:=40) fW ?_;refine bH (bN.each ([]:List cN) dQ) (Has.each_nil) ?_;refine cG (ι:=Nat×List cN×Option Addr×Nat) [(2,_),(3,_),(35,_),(36,_)] ⟨rfl,rfl,rfl,rfl,trivial⟩ (fun⟨i,ssl,SA,sc⟩=>[(37,.int .i64 (i:Nat))]) (fun⟨i,ssl,SA,sc⟩=>[.obj b26 (.cells ([.int .i64 c.vars,.slice BA bfl.length bc,.slice SA ssl.length sc,.slice A27 c.outs.list.length c28]:List Value).toArray 26),fW.row (.slice SA ssl.length sc) 40 ssl]) (fun⟨i,ssl,SA,sc⟩=>[bN.pure (i≤c.steps.list.length∧ssl.length=i∧iJ ssl=(iJ c.steps.list).take i),bN.each ssl dQ]) (fun⟨i,ssl,SA,sc⟩=>c.steps.list.length-i) (0,[],none,0) ⟨rfl,trivial⟩ (.cons kT1 (.cons .head .nil)) ⟨Has.pure (⟨by omega,rfl,rfl⟩),Has.of mT0,trivial⟩ ?_;rintro⟨i,ssl,SA,sc⟩;dsimp only;refine bT (Has.of mT0) fun hinv8=>?_;refine sr<|sp hT ?_;refine nn<|bE<|bP rfl (fun hc38=>?_) (fun hc38=>?_)
 ·have hc38:=of_decide_eq_true hc38;refine bQ<|bD<|bE<|bR<|bE ?_
  obtain⟨x36,hx37⟩: ∃x',c.steps.list[i]?=some x':=⟨_,List.getElem?_eq_getElem (by omega)⟩
  refine bH (dQ x36) (Has.each (gW (fB (Has.of bCp))) (List.mem_of_getElem? hx37)) ?_;refine bH (iB.sl (.slice x36.at_.addr x36.at_.list.length x36.at_.cap) x36.at_.list) (fU (jK (Has.of mT0))) ?_;refine bH (fN.sl (.slice x36.loops.addr x36.loops.list.length x36.loops.cap) x36.loops.list) (gE (dW (Has.of mT1))) ?_;refine bH (opE.sl (.slice x36.ops.addr x36.ops.list.length x36.ops.cap) x36.ops.list) (jM (dD (Has.of mT2))) ?_;refine bH (gP x36.loops.list) (iF (dW (Has.of mT3))) ?_;refine bT (iU (jK (Has.of mT4))) fun hal=>?_;refine bT (lX (dD (Has.of mT4))) fun hz38=>?_;have hzo:=hz38.2;obtain⟨hno,hll⟩:=gJ hr x36.c (List.mem_of_getElem? (cM hx37))
  replace hno:x36.ops.list.length≤256:=by rwa [show x36.c.ops.length=x36.ops.list.length from cW _] at hno
  replace hll:x36.loops.list.length≤4:=by rwa [show x36.c.loops.length=x36.loops.list.length from cP _] at hll
  refine bC<|ss (bM hT (k:=i) (bB (Has.of zA)) rfl rfl rfl rfl rfl rfl rfl (by omega)) ?_;refine ss (cO hT (cB.knows (bB (Has.of zA)) (k:=i) (x:=x36) hx37 0) rfl rfl rfl rfl rfl) ?_;refine cV rfl rfl rfl rfl rY rfl fun b39=>?_;refine sto hT .head ?_;refine nn<|bE<|zK [10,11,12,13,14] _ _ [(true,0),(true,1),(true,3),(true,4),(true,6),(true,7),(false,2),(true,9),(false,5),(false,8)] fK (by decide+kernel) (.cons .head (.cons .head (.cons .head (.cons .head (.cons .head (.cons .head .nil)))))) bF.self ?_;refine fX rfl rfl rfl rfl (bY hT rfl) ?_;refine fX rfl rfl rfl rfl (ldO hT (gA .head)) ?_;refine fX rfl rfl rfl rfl (bY hT rfl) ?_;refine fX rfl rfl rfl rfl (ldO hT (iC .head)) ?_;refine fX rfl rfl rfl rfl (bY hT rfl) ?_;refine fX rfl rfl rfl rfl (ldO hT (iI .head)) ?_;refine oA (o:=_) rfl ?_;refine cR Tryz.func49 (kQ x36.at_ hal) rfl rfl .nil ⟨(Has.of mT3),trivial⟩ fun⟨A40,c41⟩=>?_;refine nZ (.cons .head (.cons .head (.cons .head (.cons .head (.cons .head (.cons .head .nil)))))) (bF.drop 1) ?_;refine fX rfl rfl rfl rfl (bY hT rfl) ?_;refine oA (o:=_) rfl ?_;refine cR Tryz.func82 (iT x36.loops (by omega)) rfl rfl .nil ⟨(Has.of mT3),(Has.of mT1),trivial⟩ fun lp=>?_;refine bT (Has.of mT1) fun hlp=>?_;refine nZ (.cons .head (.cons .head (.cons .head (.cons .head (.cons .head (.cons .head .nil)))))) (bF.drop 3) ?_;refine oA (o:=_) rfl ?_;refine cR Tryz.func83 (pW x36.ops (by omega)) rfl rfl .nil ⟨(Has.of mT4),trivial⟩ fun⟨A42,c43⟩=>?_;refine nZ (.cons kT1 (.cons kT1 (.cons kT1 (.cons kT1 (.cons kT1 (.cons kT1 .nil)))))) (bF.drop 3) ?_;refine vZ ?_;refine gK (o:=_) rfl ?_;refine sto hT kT1 ?_;refine dX<|gK (o:=_) rfl ?_;refine sp hT ?_;refine dX<|gK (o:=_) rfl ?_;refine sto hT .head ?_;refine dX<|gK (o:=_) rfl ?_;refine sp hT ?_;refine dX<|gK (o:=_) rfl ?_;refine sto hT .head ?_;refine dX<|zJ ?_;refine bD<|bE<|sr<|sp hT ?_;refine ss (ldO hT (iI .head)) ?_;refine sp2 hT ?_;refine nn<|bR<|bH (bN.each x36.ops.list opF) (kU (dD (Has.of mT7))) ?_;refine cG (ι:=Nat×List OpV) [(2,_),(3,_),(7,_),(35,_),(36,_),(37,_),(55,_)] ⟨rfl,rfl,rfl,rfl,rfl,rfl,rfl,trivial⟩ (fun⟨k,ol⟩=>[(56,.int .i64 (k:Nat))]) (fun⟨k,ol⟩=>[opE.row (.slice A42 x36.ops.list.length c43) 42 ol]) (fun⟨k,ol⟩=>[bN.pure (k≤x36.ops.list.length∧ol.length=x36.ops.list.length∧dY ol=dY x36.ops.list),bN.each ol opF]) (fun⟨k,ol⟩=>x36.ops.list.length-k) (0,x36.ops.list) ⟨rfl,trivial⟩ (.cons kT1 .nil) ⟨Has.pure (⟨by omega,rfl,rfl⟩),Has.of mT0,trivial⟩ ?_;rintro⟨k,ol⟩;dsimp only;refine bT (Has.of mT0) fun hinv12=>?_;have hoL:ol.length=x36.ops.list.length:=hinv12.2.1;refine sr<|sp hT ?_;refine nn<|bE<|bP rfl (fun hc57=>?_) (fun hc57=>?_)
  ·have hc57:=of_decide_eq_true hc57;refine bQ<|bD<|bE<|bR<|bE ?_
   obtain⟨ok,hok⟩: ∃o,ol[k]?=some o:=⟨_,List.getElem?_eq_getElem (by omega)⟩
   refine bH (opF ok) (Has.each (Has.of mT1) (List.mem_of_getElem? hok)) ?_;refine bC<|sp2 hT ?_;refine nn<|jY 12 _ _ [(true,0),(true,1),(true,2),(true,3),(true,4),(true,5),(true,6),(true,7),(true,8),(false,9),(true,10),(true,11)] fK (by decide+kernel) (.cons .head (.cons .head (.cons .head (.cons .head (.cons .head (.cons .head (.cons .head .nil))))))) bF.self ?_;refine puL hT ?_;refine stL rfl (ldO hT (iI kT1)) ?_;refine puL hT ?_;refine puL hT ?_;refine stL rfl (ldO hT (iI kT1)) ?_;refine puL hT ?_;refine stL rfl (bM hT (k:=k) (dM .head) rfl rfl rfl rfl rfl hoL.symm rfl (by omega)) ?_;refine puL hT ?_;refine stL rfl (bO hT (cB.knows (dM .head) (k:=k) (x:=ok) hok 3) rfl rfl rfl rfl rfl) ?_;refine gS (o:=_) rfl ?_;refine bT (iU (Has.of mT0)) fun hpl=>?_;refine cR Tryz.func49 (kQ ok.p hpl) rfl rfl .nil ⟨fU (Has.of mT0),trivial⟩ fun⟨A44,c45⟩=>?_;refine gU (.cons .head (.cons .head (.cons .head (.cons .head (.cons .head (.cons .head (.cons .head .nil))))))) (bF.drop 1) ?_;refine stL rfl (bM hT (k:=k) (dM .head) rfl rfl rfl rfl rfl hoL.symm rfl (by omega)) ?_;refine puL hT ?_;refine iV (o:=_) rfl ?_;refine fR hT (k:=k) (fo:=3) (y':=(⟨ok.how,ok.k,ok.n,⟨A44,c45,ok.p.list⟩,ok.fn⟩:OpV)) .head rfl rfl rfl rfl rfl rfl rfl rfl rfl hok rfl ?_;refine dX<|cA<|bD<|bH (bN.each (ol.set k (⟨ok.how,ok.k,ok.n,⟨A44,c45,ok.p.list⟩,ok.fn⟩:OpV)) opF) (lN (Has.of mT3) (show Has _ (lW _) from (Has.of mT0))) ?_;refine bC<|sp hT ?_;refine bW (z':=(((k+1):Nat):Int)) (cH (by omega) (by omega)) ?_;refine sp hT ?_;refine nn ?_;exact bU (k+1,(ol.set k (⟨ok.how,ok.k,ok.n,⟨A44,c45,ok.p.list⟩,ok.fn⟩:OpV))) (by dsimp only;omega) ⟨rfl,trivial⟩ ⟨rfl,rfl,rfl,rfl,rfl,rfl,rfl,trivial⟩ (.cons .head (.cons .head (.cons .head (.cons .head (.cons .head (.cons .head (.cons .head .nil))))))) ⟨Has.pure (⟨by dsimp only;omega,by dsimp only;rw [List.length_set];omega,(zF (o':=(⟨ok.how,ok.k,ok.n,⟨A44,c45,ok.p.list⟩,ok.fn⟩:OpV)) hok rfl).trans hinv12.2.2⟩),Has.of mT0,trivial⟩ (bF.drop 5)
  have hc57:=Int.not_lt.1 (of_decide_eq_false hc57);refine cE<|bX<|bX<|cF<|bD ?_;have hol:=hinv12.2.2;have hoN:ol.length=x36.ops.list.length:=hinv12.2.1;rw [←hoN];refine gB .head fun hoc=>?_;refine cZ .head ?_;refine bH (dQ (⟨x36.how,x36.buf,⟨A40,c41,x36.at_.list⟩,lp,x36.fn,⟨A42,c43,ol⟩⟩:cN)) (Has.and (Has.of mT6) (Has.and (Has.of mT4) (Has.and (Has.and (Has.of mT0) (Has.of mT2)) (Has.pure ⟨hoc,by dsimp only;omega⟩)))) ?_;refine bC<|sp hT ?_;refine ss (ldO hT (gA kT1)) ?_;refine ss (ldN hT (dK .head)) ?_;refine mJ (m:=(⟨x36.how,x36.buf,⟨A40,c41,x36.at_.list⟩,lp,x36.fn,⟨A42,c43,ol⟩⟩:cN)) rfl rfl rfl rfl rfl fun b46=>?_;refine mK kT3 (dI .head rfl) rfl rfl rfl rfl rfl rfl rfl (by first | (simp only [List.length_singleton];omega) | (simp;omega)) fun A47 c48=>?_;refine bH (bN.each (ssl++[(⟨x36.how,x36.buf,⟨A40,c41,x36.at_.list⟩,lp,x36.fn,⟨A42,c43,ol⟩⟩:cN)]) dQ) (Has.each_snoc (Has.of zA) (Has.of mT0)) ?_;refine sp hT ?_;refine sto hT kT3 ?_;refine cS<|cA<|bD<|bC<|sp hT ?_;refine bW (z':=(((i+1):Nat):Int)) (cH (by omega) (by omega)) ?_;refine sp hT ?_;refine nn ?_;exact bU (i+1,ssl++[(⟨x36.how,x36.buf,⟨A40,c41,x36.at_.list⟩,lp,x36.fn,⟨A42,c43,ol⟩⟩:cN)],_,_) (by dsimp only;omega) ⟨rfl,trivial⟩ ⟨rfl,rfl,rfl,rfl,trivial⟩ (.cons .head (.cons .head (.cons kT2 (.cons kT2 (.cons kT2 .nil))))) ⟨Has.pure (⟨by dsimp only;omega,by dsimp only;simp;omega,nJ hinv8.2.2 (cM hx37) (rF hlp hol)⟩),Has.of mT0,trivial⟩ (bF.drop 16)
 have hc38:=Int.not_lt.1 (of_decide_eq_false hc38);refine cE<|bX<|bX<|cF<|bD<|sr<|ss (ldN hT (dK .head)) ?_;refine sto hT kT3 ?_;refine nn<|bL ?_;have hse:=qI hinv8.2.2 (by rw [cY];omega);exact bJ (⟨c.vars,⟨BA,bc,bfl⟩,⟨SA,sc,ssl⟩,⟨A27,c28,c.outs.list⟩⟩:CoreV) rfl (kY hT (dK .head) rfl rfl rfl rfl) (.cons kT3 (.cons kT2 .nil)) ⟨(Has.of mT4),(Has.of mT1),(Has.of mT6),Has.pure (zN rfl hbe hse rfl),trivial⟩ rfl
section
variable {P : Program} {β : gD} {n : Nat} {Γ : Env} {H : List bZ} {F : List bN} {Q : Exit → Act → World → Prop} {K : Act → World → Prop} {T : Tab} {α : Type} {E : Flat α} {m : Nat} {D : gT}
def bN.on (D:gT)(f:bN):bN where
 p S w:=f.p (fun b=>S b∧D b) w
 mono:=fun hs ha h=>f.mono (fun b hb=>⟨hs b hb.1,hb.2⟩) (fun b hb=>ha b hb.1) h
theorem Has.on{D:gT}{f:bN}(h:Has F (bN.on D f)):Has F f:=fun S w k=>f.mono (fun _ hb=>hb.1) (fun _ _=>rfl) (h S w k)
def bAd (m:Nat){ι:Type}(P:Program)(f:FuncId)(args:List Value)(Hin:List bZ)(Pre:List bN)(val:ι→Value)(Hout:ι→List bZ)(post:ι→List bN):Prop:=
 ∀S w,m≤w.heap.size→St ⟨w,pL Hin,S⟩ Hin S w→All Pre S w→Calls P f args.toArray w fun e w'=> ∃x S',e= .returned (val x)∧St ⟨w,pL Hin,S⟩ (Hout x) S' w'∧All (post x) S' w'
theorem wE{ι:Type}{f:FuncId}{fn:Func}{c:Code}{args:List Value}{Hin:List bZ}{Pre:List bN}{val:ι→Value}{Hout:ι→List bZ}{post:ι→List bN}(hf:P.funcs[f]?=some fn)(hb:fn.body=some c)(hn:fn.ntmps=n)
  (hl:Nat.ble args.length n=true) (h: ∀β,β.M=pL Hin→m≤β.w.heap.size→At β n (bDt 0 args) Hin Pre (c.wp P (bodyPost P fn (Done β val Hout post)))):bAd m P f args Hin Pre val Hout post:=fun S w hm s k=>by
 refine calls_of_wp hf hb (h ⟨w,pL Hin,S⟩ rfl hm _ w S ⟨rfl,?_,fun i v hi=>?_⟩ s k)
 ·have:=Nat.le_of_ble_eq_true hl;simp;omega
 ·obtain⟨_,h2⟩:=xV 0 args i v hi;simp only [Nat.sub_zero] at h2;have hlt:i<args.length:=(List.getElem?_eq_some_iff.1 h2).1;simp only [Array.getElem?_append];rw [if_pos (by simpa using hlt)]
  simpa using h2
theorem qR{ι:Type}{ops:Array Oper}{rest:List Oper}{o:Oper}{d:Nat}{f:FuncId}{ars:Array Operand}{ts:Array TypeId}{vs:List Value}{Hin H2:List bZ}{Pre:List bN}{val:ι→Value}{Hout:ι→List bZ}{post:ι→List bN}(hm:m≤β.w.heap.size)
  (hcf: ∀(args:Array Value) (w:World),(callFunc f args).run P w= .ok (.enter f args) w) (hs:bAd m P f vs Hin Pre val Hout post) (hw:want ops Γ o=some true) (ho:o.op= .call ⟨.value (.func f),ars,ts⟩) (hd:o.dst=some d) (hn:Nat.blt d n=true)
  (hv:Γ.evs ars.toList=some vs) (hH:qB H Hin H2) (hF:bF F Pre) (k: ∀x,At β n ((d,val x)::Γ) (Hout x++H2) (post x++F) (wpList P ops Q rest)):At β n Γ H F (wpList P ops Q (o::rest)):=
 iN hw fun a w S f s hk=>by
  unfold Oper.wp;rw [sW hcf ho f hv w,Oper.upon_enter];have s1:=s.perm hH.perm;refine(hs S w (Nat.le_trans hm s.kept.size) s1.enter (hF.all S w hk)).mono ?_;rintro e w' ⟨x,S',rfl,s',k'⟩;show wpList P ops Q rest (a.put o.dst (val x)) w';rw [hd];exact k x _ _ _ (f.put (by simpa [Nat.blt_eq] using hn) _) (s1.leave s') ((All.mono (fun _ h=> .inr h) (fun _ _=>rfl) k').append (All.leave s1 s' hk))
theorem at_call_new{ι:Type}{ops:Array Oper}{rest:List Oper}{o:Oper}{d:Nat}{f:FuncId}{ars:Array Operand}{ts:Array TypeId}{vs:List Value}{Pre:List bN}{val:ι→Value}{Hout:ι→List bZ}{post:Nat→ι→List bN}
  (hcf: ∀(args:Array Value) (w:World),(callFunc f args).run P w= .ok (.enter f args) w) (hs: ∀m,bAd m P f vs [] Pre val Hout (post m)) (hw:want ops Γ o=some true) (ho:o.op= .call ⟨.value (.func f),ars,ts⟩) (hd:o.dst=some d) (hn:Nat.blt d n=true)
  (hv:Γ.evs ars.toList=some vs) (hF:bF F Pre) (k: ∀m x,β.w.heap.size≤m→At β n ((d,val x)::Γ) (Hout x++H) (post m x++F.map (bN.on fun b=>b<m)) (wpList P ops Q rest)):At β n Γ H F (wpList P ops Q (o::rest)):=
 iN hw fun a w S f s hk=>by
  unfold Oper.wp;rw [sW hcf ho f hv w,Oper.upon_enter];have s1:St β ([]++H) S w:=s
  have hlow:All (F.map (bN.on fun b=>b<w.heap.size)) S w:=fun g hg=>by
   obtain⟨f0,hf0,rfl⟩:=List.mem_map.1 hg;exact f0.mono (fun b hb=>⟨hb,(s.zone b hb).1⟩) (fun _ _=>rfl) (hk f0 hf0)
  refine(hs w.heap.size S w (Nat.le_refl _) s1.enter (hF.all S w hk)).mono ?_;rintro e w' ⟨x,S',rfl,s',k'⟩;show wpList P ops Q rest (a.put o.dst (val x)) w';rw [hd];exact k _ x s.kept.size _ _ _ (f.put (by simpa [Nat.blt_eq] using hn) _) (s1.leave s') ((All.mono (fun _ h=> .inr h) (fun _ _=>rfl) k').append (All.leave s1 s' hlow))
theorem bCx{ι:Type}{ops:Array Oper}{rest:List Oper}{o:Oper}{d:Nat}{f:FuncId}{ars:Array Operand}{ts:Array TypeId}{vs:List Value}{Pre:List bN}{val:ι→Value}{Hout:ι→List bZ}{post:ι→List bN}{Fn:Nat→List bN}
  (hcf: ∀(args:Array Value) (w:World),(callFunc f args).run P w= .ok (.enter f args) w) (hs:dT P f vs [] Pre val Hout post) (hw:want ops Γ o=some true) (ho:o.op= .call ⟨.value (.func f),ars,ts⟩) (hd:o.dst=some d) (hn:Nat.blt d n=true)
  (hv:Γ.evs ars.toList=some vs) (hF:bF F (Pre.map (bN.on fun b=>b<m))) (hup: ∀m2 S w,(∀b,S b→b<m2)→All F S w→All (Fn m2) S w)
  (k: ∀m2 x,At β n ((d,val x)::Γ) (Hout x++H) ((post x).map (bN.on fun b=>b<m∨m2≤b)++Fn m2) (wpList P ops Q rest)):At β n Γ H F (wpList P ops Q (o::rest)):=
 iN hw fun a w S f s hk=>by
  unfold Oper.wp;rw [sW hcf ho f hv w,Oper.upon_enter];have s1:St β ([]++H) S w:=s;have hlow:All Pre (fun b=>S b∧b<m) w:=fun g hg=>hF.all S w hk (bN.on (fun b=>b<m) g) (List.mem_map_of_mem hg)
  have s0:St ⟨w,pL [],fun b=>S b∧b<m⟩ [] (fun b=>S b∧b<m) w:=⟨mL.refl _ _,(fun c hc=>by cases hc),(fun c hc=>by cases hc),List.Pairwise.nil,fun b hb=>⟨(s.zone b hb.1).1,.inl hb⟩⟩
  refine(hs _ w s0 hlow).mono ?_;rintro e w' ⟨x,S',rfl,s',k'⟩;show wpList P ops Q rest (a.put o.dst (val x)) w';rw [hd]
  have s2:St ⟨w,pL [],S⟩ (Hout x) S' w':=⟨s'.kept,s'.ok,s'.own,s'.sep,fun b hb=>⟨(s'.zone b hb).1,by
   rcases (s'.zone b hb).2 with h | h | h
   ·exact .inl h.1
   ·exact .inr (.inl h)
   ·exact .inr (.inr h)⟩⟩
  refine k w.heap.size x _ _ _ (f.put (by simpa [Nat.blt_eq] using hn) _) (s1.leave s2) (All.append (fun g hg=>?_) (All.leave s1 s2 (hup _ S w (fun b hb=>(s.zone b hb).1) hk)));obtain⟨g0,hg0,rfl⟩:=List.mem_map.1 hg;refine g0.mono (S:=S') (fun b hb=>⟨.inr hb,?_⟩) (fun _ _=>rfl) (k' g0 hg0)
  rcases (s'.zone b hb).2 with h | ⟨c,hc,_⟩ | h
  ·exact .inl h.2
  ·cases hc
  ·exact .inr h
def Flat.newF(E:Flat α)(W:gT)(t:TypeId)(v:Value)(R:List α→Prop):bN where
 p S w:= ∃xs,R xs∧w.ownsRow 0 t E.size v xs.length (E.all xs)∧ ∀b,v.ownBlock=some b→W b∧S b
 mono:=fun hs ha ⟨xs,h1,h2,h3⟩=>⟨xs,h1,(bZ.ok_of (c:= .row v t E.size xs.length (E.all xs)) h2 fun b hb=>ha b (h3 b hb).2),fun b hb=>⟨(h3 b hb).1,hs b (h3 b hb).2⟩⟩
theorem lY{v:Value}{t:TypeId}{xs:List α}{H':List bZ}{R:List α→Prop}(hM:β.M=pL [])(hm:m≤β.w.heap.size)(hR:R xs)(hH:fT H (E.row v t xs) H')(h:At β n Γ H' (E.newF (fun b=>m≤b) t v R::E.sl v xs::F) K):At β n Γ H F K:=fun a w S f s k=>by
 have s2:=s.perm hH.perm;have hok:w.ownsRow 0 t E.size v xs.length (E.all xs):=s2.ok _ (List.mem_cons_self ..);have hsep:=List.pairwise_cons.1 s2.sep;have hown:=s2.own _ (List.mem_cons_self ..);have hmono:All F (fun b=>S b∨v.ownBlock=some b) w:=All.mono (fun _ h=> .inl h) (fun _ _=>rfl) k;refine h a w (fun b=>S b∨v.ownBlock=some b) f ⟨s2.kept,fun c hc=>s2.ok c (List.mem_cons_of_mem _ hc),fun c hc b hb=>?_,hsep.2,fun b hb=>?_⟩ (All.cons ⟨xs,hR,hok,fun b hb=>?_⟩ (All.cons ?_ hmono))
 ·obtain⟨h1,h2,h3⟩:=s2.own c (List.mem_cons_of_mem _ hc) b hb;refine⟨h1,h2,fun h=>?_⟩
  rcases h with h | h
  ·exact h3 h
  ·exact hsep.1 c hc b h hb
 ·rcases hb with hb | hb
  ·exact s2.zone b hb
  ·obtain⟨h1,h2,_⟩:=hown b hb;exact⟨h1,.inr h2⟩
 ·obtain⟨_,h2,_⟩:=hown b hb;refine⟨?_,.inr hb⟩
  rcases h2 with h2 | h2
  ·rw [hM] at h2;obtain⟨c,hc,_⟩:=h2;cases hc
  ·exact Nat.le_trans hm h2
 ·exact cZ.row_slice hok fun b hb=> .inr hb
theorem jN{W:gT}{v:Value}{t:TypeId}{R:List α→Prop}(hN:Has F (E.newF W t v R))(h: ∀xs,R xs→At β n Γ H (E.sl v xs::F) K):At β n Γ H F K:=fun a w S f s k=>by
 obtain⟨xs,h1,h2,h3⟩:=hN S w k;exact h xs h1 a w S f s (All.cons (cZ.row_slice h2 fun b hb=>(h3 b hb).2) k)
def sim (u u':Value):Prop:=u'=u∨ ∃a b,u= .int .i64 a∧u'= .int .i64 b
structure Near (D:gT) (w w':World):Prop where
 low: ∀b:Nat,D b→w'.heap[b]?=w.heap[b]?
 cells: ∀(b:Nat) (cs:Array Value) (t:TypeId) (z:Nat×Nat),w.heap[b]?=some (Obj.cells cs t z)→ ∃cs':Array Value,w'.heap[b]?=some (Obj.cells cs' t z)∧cs'.size=cs.size∧ ∀(i:Nat) (u:Value),cs[i]?=some u→ ∃u',cs'[i]?=some u'∧sim u u'
def dP (D:gT)(f:bN):Prop:= ∀S w w',Near D w w'→f.p S w→f.p S w'
theorem dP.on{f:bN}:dP D (bN.on D f):=fun _ _ _ hn h=>f.mono (fun _ hb=>hb) (fun b hb=>hn.low b hb.2) h
theorem dP.pure{c:Prop}:dP D (bN.pure c):=fun _ _ _ _ h=>h
theorem dP.and{f g:bN}(hf:dP D f)(hg:dP D g):dP D (f.and g):=fun S w w' hn h=>⟨hf S w w' hn h.1,hg S w w' hn h.2⟩
theorem dP.each{γ:Type}{g:γ→bN}{l:List γ}(hg: ∀x∈l,dP D (g x)):dP D (bN.each l g):=fun S w w' hn h x hx=>hg x hx S w w' hn (h x hx)
theorem near_set{w:World}{g off:Nat}{a z:Int}(hg: ¬D g)(hc:w.cell? ⟨g,off,none⟩=some (.int .i64 a)):Near D w (w.setCells g off [.int .i64 z]) where
 low:=fun b hb=>by
  have:g≠b:=fun e=>hg (e▸hb);simp [World.setCells,World.setCell,Array.getElem?_modify,this]
 cells:=fun b cs t fz hb=>by
  by_cases e:g=b
  ·subst e;refine⟨qE cs off [.int .i64 z],qK _ _ _ _ hb,by simp [qE],fun i u hi=>?_⟩;unfold World.cell? at hc;rw [hb] at hc;have hc:cs[off]?=some (.int .i64 a):=hc
   by_cases e:off=i
   ·subst e;rw [hc] at hi;cases hi;have:=(Array.getElem?_eq_some_iff.1 hc).1;exact⟨.int .i64 z,by simp [qE,this],.inr ⟨a,z,rfl,rfl⟩⟩
   ·exact⟨u,by simp [qE,Array.getElem?_setIfInBounds_ne,e,hi],.inl rfl⟩
  ·exact⟨cs,by simp [World.setCells,World.setCell,Array.getElem?_modify,e,hb],rfl,fun i u hi=>⟨u,hi,.inl rfl⟩⟩
def Flat.Sim(E:Flat α)(R:α→α→Prop):Prop:= ∀x (cs:List Value),cs.length=E.size→(∀(i:Nat) u u',(E.cells x)[i]?=some u→cs[i]?=some u'→sim u u')→ ∃x',E.cells x'=cs∧R x x'
theorem Flat.Sim.all{R:α→α→Prop}(hS:E.Sim R): ∀(xs:List α) (cs:List Value),cs.length=(E.all xs).length→(∀(i:Nat) u u',(E.all xs)[i]?=some u→cs[i]?=some u'→sim u u')→
  ∃xs',E.all xs'=cs∧xs'.length=xs.length∧ ∀(i:Nat) x x',xs[i]?=some x→xs'[i]?=some x'→R x x'
 | [],cs,hl,_=>⟨[],by rw [List.eq_nil_of_length_eq_zero hl];rfl,rfl,fun i x x' h=>by simp at h⟩
 | x::xs,cs,hl,hs=>by
  have ha:E.all (x::xs)=E.cells x++E.all xs:=rfl;have hx:(E.cells x).length=E.size:=E.len x;rw [ha,List.length_append] at hl;rw [ha] at hs
  obtain⟨x',hx',hr⟩:=hS x (cs.take E.size) (by rw [List.length_take];omega) fun i u u' hu hu'=>by
   have hi:=(List.getElem?_eq_some_iff.1 hu).1;refine hs i u u' (by rw [List.getElem?_append_left hi];exact hu) ?_;rw [List.getElem?_take] at hu';split at hu'
   ·exact hu'
   ·cases hu'
  obtain⟨xs',h1,h2,h3⟩:=Flat.Sim.all hS xs (cs.drop E.size) (by rw [List.length_drop];omega) fun i u u' hu hu'=>by
   refine hs (E.size+i) u u' ?_ (by rw [List.getElem?_drop] at hu';exact hu');rw [List.getElem?_append_right (by omega),hx,Nat.add_sub_cancel_left];exact hu
  refine⟨x'::xs',?_,by simp [h2],fun i y y' hy hy'=>?_⟩
  ·show E.cells x'++E.all xs'=cs;rw [hx',h1,List.take_append_drop]
  ·cases i with
   | zero=>
    simp at hy hy';subst hy hy';exact hr
   | succ i=>
    simp at hy hy';exact h3 i y y' hy hy'
theorem dP.newF{W:gT}{t:TypeId}{v:Value}{R:List α→Prop}{Rel:α→α→Prop}(hS:E.Sim Rel)(hR: ∀xs xs':List α,xs'.length=xs.length→(∀(i:Nat) x x',xs[i]?=some x→xs'[i]?=some x'→Rel x x')→R xs→R xs'):dP D (E.newF W t v R):=fun S w w' hn ⟨xs,h1,h2,h3⟩=>by
 obtain⟨hl,h2⟩:=h2
 rcases h2 with ⟨e,e0⟩ | ⟨g,cap,cur,e,hb,hh,hc1,hc2,hc3,hc4⟩
 ·exact⟨xs,h1,⟨hl,.inl ⟨e,e0⟩⟩,h3⟩
 ·obtain⟨cur',k1,k2,k3⟩:=hn.cells g cur t (0,0) hh
  obtain⟨xs',x1,x2,x3⟩:=hS.all xs (cur'.toList.take (xs.length*E.size)) (by
   rw [←hc4]
   simp only [List.length_take,Array.length_toList,k2]) fun i u u' hu hu'=>by
   rw [←hc4,List.getElem?_take] at hu;rw [List.getElem?_take] at hu';split at hu
   ·rename_i hi;rw [if_pos hi] at hu';rw [Array.getElem?_toList] at hu hu';obtain⟨u2,q1,q2⟩:=k3 i u hu;rw [hu'] at q1;cases q1;exact q2
   ·cases hu
  refine⟨xs',hR xs xs' x2 x3 h1,⟨by rw [E.all_length],.inr ⟨g,cap,cur',by rw [x2];exact e,hb,k1,by rw [x2];exact hc1,hc2,by rw [k2];exact hc3,by rw [x2];exact x1.symm⟩⟩,h3⟩
theorem dP.sl{v:Value}{xs:List α}(hE: ∀x,∀u∈E.cells x,∀a,u≠ .int .i64 a):dP D (E.sl v xs):=fun S w w' hn ⟨A,cap,e,h⟩=>⟨A,cap,e,fun k x hk=>by
 obtain⟨b,o,cs,e1,e2,e3,e4⟩:=h k x hk;have e4':cs=E.cells x:=e4;refine⟨b,o,cs,e1,e2,fun j u hj=>?_,e4⟩;have h1:=e3 j u hj;unfold World.cell? at h1⊢
 cases hb:w.heap[b]? with
 | none=>rw [hb] at h1;cases h1
 | some ob=>
  rw [hb] at h1
  cases ob with
  | cells c t fz=>
   obtain⟨c',k1,_,k3⟩:=hn.cells b c t fz hb;have h1:c[o+k*E.size+j]?=some u:=h1;obtain⟨u',q1,q2⟩:=k3 _ u h1;simp only [k1];show c'[o+k*E.size+j]?=some u;rw [q1]
   rcases q2 with rfl | ⟨a,_,rfl,_⟩
   ·rfl
   ·exact absurd rfl (hE x _ (by rw [←e4'];exact List.mem_of_getElem? hj) a)
  | _=>cases h1⟩
def wO (D:gT):List bN→Prop
 | []=>True
 | f::F=>dP D f∧wO D F
theorem wO.all: ∀{F:List bN},wO D F→ ∀f∈F,dP D f
 | [],_,f,hf=>by cases hf
 | g::F,h,f,hf=>by
  rcases List.mem_cons.1 hf with rfl | hf
  ·exact h.1
  ·exact wO.all h.2 f hf
theorem oN{ops:Array Oper}{rest:List Oper}{o:Oper}(hT:fO P T){t t' k fo len cap:Nat}{p x:Operand}{z:Int}{A:Option Addr}{R:List α→Prop}{F':List bN}{W:gT}(hW: ∀b,W b→ ¬D b∧β.w.heap.size≤b)(hN:Has F (E.newF W t' (.slice A len cap) R))(hF:bF F F')(hst:wO D F')
  (hw:want ops Γ o=some true) (ho:o.op= .store t p x) (hd:o.dst=none) (hp:Γ.ev p=some (.pointer (some ⟨bCu A,bCv A+k*E.size+fo,none⟩))) (hx:Γ.ev x=some (.int .i64 z)) (ht:T.get t=some ⟨.int .i64,1⟩) (hk:k<len) (hc: ∀y:α,∃a,(E.cells y)[fo]?=some (.int .i64 a))
  (K:At β n Γ H F' (wpList P ops Q rest)):At β n Γ H F (wpList P ops Q (o::rest)):=
 iN hw fun a w S f s hF0=>by
  obtain⟨xs,_,hown,hg⟩:=hN S w hF0;obtain⟨hl,h2⟩:=id hown
  rcases h2 with ⟨e,e0⟩ | ⟨g,cap',cur,e,hb,hh,hc1,hc2,hc3,hc4⟩
  ·injection e with _ e2
   omega
  ·injection e with e1 e2 e3
   subst e1 e2 e3;obtain⟨hm,hSg⟩:=hg g rfl
   obtain⟨y,hy⟩: ∃y,xs[k]?=some y:=⟨_,List.getElem?_eq_getElem hk⟩
   obtain⟨a0,ha0⟩:=hc y;have hfo:fo<E.size:=by have:=(List.getElem?_eq_some_iff.1 ha0).1;rwa [E.len] at this
   have hmul:(k+1)*E.size≤xs.length*E.size:=Nat.mul_le_mul_right _ hk;rw [Nat.add_mul,Nat.one_mul] at hmul
   have hcell:w.cell? ⟨g,k*E.size+fo,none⟩=some (.int .i64 a0):=by
    rw [World.ownsRow.cellAt hown _ (by omega)];exact E.all_get hy ha0
   have hsto:=run_storeCells_cells (P:=P) g (k*E.size+fo) [Value.int .i64 z] 0 w (fun j hj=>by
    have:j=0:=by simpa using hj
    subst this
    simpa using (by rw [hcell];rfl:(w.cell? ⟨g,k*E.size+fo,none⟩).isSome=true)) (fun j hj=>by simpa using World.ownsRow.frozenAt hown _) (fun u hu=>by
    have:u= .int .i64 z:=by simpa using hu
    subst this
    rfl)
   rw [Nat.add_zero] at hsto
   have hr:(execOp a.eval o).run P w= .ok .skip (w.setCells g (k*E.size+fo) [.int .i64 z]):=by
    have hp':a.eval p= .pointer (some ⟨g,k*E.size+fo,none⟩):=by
     rw [f.ev hp];simp [bCu,bCv]
    unfold execOp;simp only [ho,hp',f.ev hx,Instr.storeAt,Instr.sureAddr,storeVar,Sem.run_bind,Sem.run_pure,Result.andThen_ok,hT.size ht];simp [Value.cells,hsto]
   unfold Oper.wp;rw [hr,Oper.upon_skip,hd];refine K _ _ S (f.put_none _) (s.grow (gM g _ _ w) (fun b hb=>by subst hb;exact .inr (hW _ hm).2) (fun d hd b2 hb2 e2=>by subst e2;exact(s.own d hd _ hb2).2.2 hSg)) (fun q hq=>hst.all q hq S w _ (near_set (hW _ hm).1 hcell) (hF.all S w hF0 q hq))
end
end Go.Proofs.YtofjmphlpdhohaaGreatDoor
