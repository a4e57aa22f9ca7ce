/- Texts of one proof, one behind the other: MeanA, MeanB, NameT, OwnT, MeanC, ItemT, NewT, WfP, LowB, LowC, LowS, MeanD. -/
import Derived.Test.YtakphiannlpnfaaGreatDoorM2
import Derived.Test.YtakphiannlpnfaaGreatDoorM13
import Derived.Test.YtakphiannlpnfaaGreatDoorM11
namespace Go.Proofs.YtakphiannlpnfaaGreatDoor
open Go.RowKit Go.Proofs.Tryz
set_option maxRecDepth 100000
theorem bBy(k k':Bs)(v:Value): ∀kv:KVS,oR k (nG k' v kv)=if k==k' then some v else oR k kv
 | []=>by
  unfold nG oR;rfl
 | p::r=>by
  have ih:=bBy k k' v r;unfold nG
  by_cases h':k'=p.1
  ·rw [if_pos (beq_iff_eq.2 h')]
   by_cases h:k=k'
   ·rw [if_pos (beq_iff_eq.2 h),oR,if_pos (beq_iff_eq.2 h)]
   ·rw [if_neg ac1,oR,if_neg ac1,oR,if_neg (by simpa [h'] using fun e=>h (e.trans h'.symm))]
  ·rw [if_neg (by simpa using h')]
   by_cases h:k=p.1
   ·have hk: ¬k=k':=fun e=>h' (e.symm.trans h);rw [if_neg (by simpa using hk),oR,if_pos (beq_iff_eq.2 h),oR,if_pos (beq_iff_eq.2 h)]
   ·rw [oR,if_neg ac1,ih];split
    ·rfl
    ·rw [oR,if_neg ac1]
def SeenR (kv:KVS)(out:List Bs):Prop:= ∀k,(oR k kv).getD (.bool false)= .bool (k==[] || out.contains k)
theorem seen_start:SeenR (nG [] (.bool true) []) []:=fun k=>by
 rw [bBy];cases hk:k==[]
 ·rfl
 ·rfl
theorem seen_add{kv:KVS}{out:List Bs}(h:SeenR kv out)(s:Bs):SeenR (nG s (.bool true) kv) (out++[s]):=fun k=>by
 rw [bBy];cases hk:k==s
 ·have hk': ¬k=s:=by simpa using hk
  have e:(out++[s]).contains k=out.contains k:=by simp [hk']
  rw [e];exact h k
 ·have hk':k=s:=by simpa using hk
  subst hk';simp
theorem zeroB(w:World):(zeroValue 4).run prog w= .ok (.bool false) w:=n9
theorem mapSB:prog.underlying 123=some (.map 9 4):=n9
def wS (p:gN)(rest:List pN)(out:List Bs)(kv:KVS):Prop:=SeenR kv out∧nD rest out=cJ p∧out.length+rest.length≤8000000000000
section
variable {p : gN} {l : List gM} {x : gM} {ds R : List pN} {d : pN} {out : List Bs} {kv : KVS} {i j : Nat}
theorem va_start(h:(jM p.inputs).length≤8000000000000):wS p (jM (p.inputs.drop 0)) [] (nG [] (.bool true) []):=⟨seen_start,rfl,by simpa using h⟩
theorem va_in(h:wS p (jM (l.drop i)) out kv)(hx:l[i]?=some x):wS p (x.sides.drop 0++jM (l.drop (i+1))) out kv:=by
 rw [gE hx] at h;exact h
theorem va_skip(h:wS p (ds.drop j++R) out kv)(hd:ds[j]?=some d)(hs:(d.name==[] || out.contains d.name)=true):wS p (ds.drop (j+1)++R) out kv:=by
 rw [gE hd,List.cons_append] at h;obtain⟨a,b,c⟩:=h;refine⟨a,?_,by simp at c⊢;omega⟩;rw [nD,if_pos (by simpa using hs)] at b;exact b
theorem va_add(h:wS p (ds.drop j++R) out kv)(hd:ds[j]?=some d)(hs:(d.name==[] || out.contains d.name)=false):wS p (ds.drop (j+1)++R) (out++[d.name]) (nG d.name (.bool true) kv):=by
 rw [gE hd,List.cons_append] at h;obtain⟨a,b,c⟩:=h;refine⟨seen_add a _,?_,by simp at c⊢;omega⟩;rw [nD,if_neg (by simpa using hs)] at b;exact b
theorem va_len(h:wS p (ds.drop j++R) out kv)(hd:ds[j]?=some d):out.length+1≤8000000000000:=by
 rw [gE hd,List.cons_append] at h;have:=h.2.2;simp at this;omega
theorem va_out(h:wS p (ds.drop j++R) out kv)(hj:ds.length≤j):wS p R out kv:=by
 rw [uH hj] at h;exact h
theorem va_end(h:wS p (jM (l.drop i)) out kv)(hi:l.length≤i):cJ p=out:=by
 rw [uH hi] at h;exact h.2.1.symm
end
theorem bJv(P:ProgV)(hl1:P.inputs.list.length≤140737488355328)(hs: ∀x∈P.inputs.list,x.sides.list.length≤140737488355328)(hTT:(jM P.pr.inputs).length≤8000000000000):cM prog 15 [.agg #[.slice P.inputs.addr P.inputs.list.length P.inputs.cap,.slice P.lines.addr P.lines.list.length P.lines.cap]] [] [kR.sl (.slice P.inputs.addr P.inputs.list.length P.inputs.cap) P.inputs.list,jE P.inputs.list] (fun(x:Option Addr×Nat)=> .slice x.1 (cJ P.pr).length x.2) (fun _=>[]) (fun(x:Option Addr×Nat)=>[nM.sl (.slice x.1 (cJ P.pr).length x.2) (cJ P.pr),Fact.pure ((cJ P.pr).length≤x.2)]):=by
 have hT:=meanT_ok;refine k6 func15 ntmps15 ?_;intro β hM;refine g2 ?_;refine j9 fun b1=>?_;refine g10 ?_;refine bAf rfl rfl rfl rfl fun r2=>?_;refine lN .head rfl (.inr rfl) rfl mapSB underlying9 rfl rfl rfl ?_;refine g6 ?_;refine cK (t:=9) nM ?_;refine g8 ?_;refine cB (ι:=Nat×KVS×List Bs×Option Addr×Nat) [(4,_),(12,_),(13,_)] ⟨rfl,rfl,rfl,j0⟩ (fun⟨i,kv,vs,A1,c1⟩=>[(3,.slice A1 vs.length c1),(14,.int .i64 (i:Nat))]) (fun⟨i,kv,vs,A1,c1⟩=>[qS r2 kv,nM.row (.slice A1 vs.length c1) 9 vs]) (fun⟨i,kv,vs,A1,c1⟩=>[Fact.pure (i≤P.inputs.list.length∧wS P.pr (jM (P.pr.inputs.drop i)) vs kv)]) (fun⟨i,kv,vs,A1,c1⟩=>P.inputs.list.length-i) (0,nG [] (.bool true) [],[],none,0) ⟨rfl,rfl,j0⟩ (.c1 (.c0 .nil)) ⟨j3 (⟨n7,va_start hTT⟩),j0⟩ ?_;rintro⟨i,kv,vs,A1,c1⟩;dsimp only;refine bC d7 fun hinv4=>?_;refine g6 ?_;refine dJ (fun hc15=>?_) fun hc15=>?_
 ·refine g6 ?_;obtain⟨x3,hx4⟩:=gx P.inputs.list i;refine ss (ixs i) ?_;refine ss (lS hx4 0) ?_;refine j6 lD fun b5=>?_;refine g4 ?_;have hx0:P.pr.inputs[i]?=some x3.inp:=sT hx4;have hxs:=hs x3 (j4 hx4);refine bB (sM x3) (Has.each d9 (j4 hx4)) ?_;refine g8 ?_;refine cB (ι:=Nat×KVS×List Bs×Option Addr×Nat) [(4,_),(12,_),(13,_),(14,_),(19,_),(20,_)] ⟨rfl,rfl,rfl,rfl,rfl,rfl,j0⟩ (fun⟨j,kv2,vs2,A2,c2⟩=>[(3,.slice A2 vs2.length c2),(21,.int .i64 (j:Nat))]) (fun⟨j,kv2,vs2,A2,c2⟩=>[qS r2 kv2,nM.row (.slice A2 vs2.length c2) 9 vs2]) (fun⟨j,kv2,vs2,A2,c2⟩=>[Fact.pure (j≤x3.sides.list.length∧wS P.pr (x3.inp.sides.drop j++jM (P.pr.inputs.drop (i+1))) vs2 kv2)]) (fun⟨j,kv2,vs2,A2,c2⟩=>x3.sides.list.length-j) (0,kv,vs,A1,c1) ⟨rfl,rfl,j0⟩ (.c1 (.c1 .nil)) ⟨j3 (⟨n7,va_in hinv4.2 hx0⟩),j0⟩ ?_;rintro⟨j,kv2,vs2,A2,c2⟩;dsimp only;refine bC d7 fun hinv7=>?_;refine g6 ?_;refine dJ (fun hc22=>?_) fun hc22=>?_
  ·refine g6 ?_;obtain⟨x6,hx7⟩:=gx x3.sides.list j;refine ss (ixs j) ?_;refine ss (lS hx7 0) ?_;refine j6 yN fun b8=>?_;refine g4 ?_;have hd0:x3.inp.sides[j]?=some x6.sd:=sT hx7;have hvl:=va_len hinv7.2 hd0;refine g4 ?_;refine ss (sti_lookupS (lA kT1) rfl mapSB underlying9 zeroB rfl rfl (hinv7.2.1 x6.name)) ?_;refine g3 ?_;refine jJ (fun hc29=>?_) fun hc29=>?_
   ·refine g5 ?_;refine lN kT1 rfl (.inl rfl) rfl mapSB underlying9 rfl rfl rfl ?_;refine g6 ?_;refine jW (m:=x6.name) rfl rfl rfl rfl rfl fun b9=>?_;refine mQ kT3 (bW .head rfl) rfl rfl rfl rfl rfl rfl rfl q8 fun A10 c11=>?_;refine g6 ?_;refine inc (j+1) ?_;refine g3 ?_;exact bk2 (j+1,(nG x6.name (.bool true) kv2),(vs2++[x6.name]),A10,c11) ⟨j3 (⟨by dsimp only;omega,va_add hinv7.2 hd0 (by first | assumption | (simpa using ‹_›))⟩),j0⟩
   refine g5 ?_;refine inc (j+1) ?_;refine g3 ?_;exact bk2 (j+1,kv2,vs2,A2,c2) ⟨j3 (⟨by dsimp only;omega,va_skip hinv7.2 hd0 (by first | assumption | (simpa using ‹_›))⟩),j0⟩
  refine g8 ?_;refine inc (i+1) ?_;refine g3 ?_;exact bk2 (i+1,kv2,vs2,A2,c2) ⟨j3 (⟨by dsimp only;omega,va_out hinv7.2 af5⟩),j0⟩
 refine g12 ?_;have he:=va_end hinv4.2 (by show(P.inputs.list.map InputV.inp).length≤i;rw [List.length_map];omega);rw [he];refine bX kT1 fun hvc=>bE kT1 ?_;exact rs1 (A1,c1) ⟨d7,j3 hvc,j0⟩
def ArrV.v(x:ArrV):Value:= .agg #[.slice x.sides.addr x.sides.list.length x.sides.cap,.slice x.data.addr x.data.list.length x.data.cap]
section
variable {p : gN} {dims : List Int} {ins : List Arr} {x : gM}
theorem xW(h:(cV p).2=true):(jM p.inputs).length≤256:=by
 have hf:=vB h
 have key: ∀l:List gM,(∀x∈l,x.sides.length≤4)→(jM l).length≤4*l.length:=by
  intro l
  induction l with
  | nil=>intro _;simp [jM]
  | cons x r ih=>
   intro hx;have e:jM (x::r)=x.sides++jM r:=rfl;have h1:=hx x (List.mem_cons_self ..);have h2:=ih fun y hy=>hx y (List.mem_cons_of_mem _ hy);rw [e,List.length_append,List.length_cons];omega
 have:=key p.inputs fun x hx=>(hf.input x hx).2.1;have:=hf.ins;omega
end
def bIk (vars:List Bs)(d:pN):Bool:=(d.name==[]&&bGz d.n) || decide (6≤gF d.name vars 0)
section
variable {vars : List Bs} {l : List gM} {x : gM} {ds : List pN} {d : pN} {i j : Nat}
def bGk (vars:List Bs)(l:List gM)(i:Nat):Prop:=l.find? (bDv vars)=(l.drop i).find? (bDv vars)
def bLw (vars:List Bs)(ds:List pN)(j:Nat):Prop:=ds.any (bIk vars)=(ds.drop j).any (bIk vars)
theorem few_start:bGk vars l 0:=by simp [bGk]
theorem few_in:bLw vars ds 0:=by simp [bLw]
theorem bNg(h:bGk vars l i)(hx:l[i]?=some x)(k:bLw vars x.sides j)(hd:x.sides[j]?=some d)(hs:bIk vars d=true):l.find? (bDv vars)=some x:=by
 have e:bDv vars x=true:=by
  show x.sides.any (bIk vars)=true;rw [k,gE hd,List.any_cons,hs];rfl
 rw [h,gE hx,List.find?_cons,e]
theorem few_next(k:bLw vars ds j)(hd:ds[j]?=some d)(hs:bIk vars d=false):bLw vars ds (j+1):=by
 unfold bLw at k⊢;rw [k,gE hd,List.any_cons,hs,Bool.false_or]
theorem few_out(h:bGk vars l i)(hx:l[i]?=some x)(k:bLw vars x.sides j)(hj:x.sides.length≤j):bGk vars l (i+1):=by
 have e:bDv vars x=false:=by
  show x.sides.any (bIk vars)=false;rw [k,uH hj];rfl
 unfold bGk at h⊢;rw [h,gE hx,List.find?_cons,e]
theorem few_end(h:bGk vars l i)(hi:l.length≤i):l.find? (bDv vars)=none:=by
 unfold bGk at h;rw [h,uH hi];rfl
theorem fs_a(hn:d.name=[])(hb:bGz d.n=true):bIk vars d=true:=by simp [bIk,hn,hb]
theorem fs_b(h:6≤gF d.name vars 0):bIk vars d=true:=by simp [bIk,h]
theorem fs_c(hb:bGz d.n=false)(h:gF d.name vars 0<6):bIk vars d=false:=by
 have: ¬6≤gF d.name vars 0:=n7
 simp [bIk,hb,this]
theorem fs_d(hn:d.name≠[])(h:gF d.name vars 0<6):bIk vars d=false:=by
 have: ¬6≤gF d.name vars 0:=n7
 simp [bIk,hn,this]
end
theorem bBn(k:Bs): ∀(l:List Bs) (i:Nat),gF k l i= -1∨ ∃j:Nat,gF k l i=((i+j:Nat):Int)∧j<l.length∧l[j]?=some k
 | [],i=> .inl rfl
 | s::r,i=>by
  rw [gF];split
  ·rename_i h;exact .inr ⟨0,o6,o6,by simp [h]⟩
  ·have:=bBn k r (i+1);have e:((i:Nat):Int)+1=((i+1:Nat):Int):=n7
   rw [e]
   rcases this with h | ⟨j,h1,h2,h3⟩
   ·exact .inl h
   ·exact .inr ⟨j+1,by rw [h1];congr 1;omega,by simp;omega,by simpa using h3⟩
theorem bVq{k:Bs}: ∀{l:List Bs} {i:Nat},k∈l→gF k l i≠ -1
 | s::r,i,h=>by
  rw [gF];split
  ·omega
  ·rename_i hh
   rcases List.mem_cons.1 h with e | h
   ·exact absurd e.symm hh
   ·have e:((i:Nat):Int)+1=((i+1:Nat):Int):=n7
    rw [e];exact bVq h
theorem vars_all: ∀{ds:List pN} {out:List Bs},(∀s∈out,s∈nD ds out)∧ ∀d∈ds,d.name≠[]→d.name∈nD ds out
 | [],out=>⟨fun s h=>h,fun d h=>by simp at h⟩
 | d::r,out=>by
  have ih:= @vars_all r (if d.name=[]∨out.contains d.name=true then out else out++[d.name]);rw [nD];refine⟨fun s hs=>ih.1 s ?_,fun e he hn=>?_⟩
  ·split
   ·exact hs
   ·exact List.mem_append_left _ hs
  ·rcases List.mem_cons.1 he with rfl | he
   ·refine ih.1 _ ?_;split
    ·rename_i h
     rcases h with h | h
     ·exact absurd h hn
     ·simpa using h
    ·simp
   ·exact ih.2 e he hn
theorem side_var{p:gN}{x:gM}{d:pN}{n:Nat}(hx:x∈p.inputs)(hd:d∈x.sides)(hn:d.name≠[])(h:n=(cJ p).length): ∃k:Nat,k<n∧gF d.name (cJ p) 0=(k:Int):=by
 have hm:d.name∈cJ p:=vars_all.2 d (List.mem_flatMap.2 ⟨x,hx,hd⟩) hn;have h1:=bVq (i:=0) hm
 rcases bBn d.name (cJ p) 0 with h2 | ⟨j,h2,h3,_⟩
 ·exact absurd h2 h1
 ·exact⟨j,n7,by rw [Nat.zero_add] at h2;exact h2⟩
theorem bWn: ∀(ds:List pN) (out:List Bs),(nD ds out).length≤out.length+ds.length
 | [],out=>by simp [nD]
 | d::r,out=>by
  have ih:=bWn r (if d.name=[]∨out.contains d.name=true then out else out++[d.name]);rw [nD];split at ih
  ·rename_i h;rw [if_pos h];simp;omega
  ·rename_i h;rw [if_neg h];simp at ih⊢;omega
theorem vars_le(p:gN):(cJ p).length≤(jM p.inputs).length:=by
 have:=bWn (jM p.inputs) []
 simpa [cJ] using this
abbrev NamesTV:=List (Bs×TyV)
def mF (k:Bs):NamesTV→Option TyV
 | []=>none
 | p::r=>if k=p.1 then some p.2 else mF k r
def jY (NV:NamesTV):dT:=NV.map fun p=>(p.1,p.2.t)
theorem pD(k:Bs): ∀NV:NamesTV,nA k (jY NV)=(mF k NV).map TyV.t
 | []=>rfl
 | p::r=>by
  have ih:=pD k r;unfold jY at ih⊢;rw [List.map_cons,nA,mF];split
  ·rfl
  ·exact ih
theorem bOt{k:Bs}{a:TyV}: ∀{NV:NamesTV},mF k NV=some a→ ∃p∈NV,p.2=a
 | [],h=>by cases h
 | p::r,h=>by
  rw [mF] at h;split at h
  ·injection h with h
   exact⟨p,List.mem_cons_self ..,h⟩
  ·obtain⟨q,hq,e⟩:=bOt h;exact⟨q,List.mem_cons_of_mem _ hq,e⟩
def tN (kv:KVS)(NV:NamesTV):Prop:= ∀k,oR k kv=(mF k NV).map tyC
theorem nrT_start:tN [] []:=fun _=>rfl
theorem nrT_add{kv:KVS}{NV:NamesTV}(h:tN kv NV)(s:Bs)(a:TyV):tN (nG s (tyC a) kv) ((s,a)::NV):=fun k=>by
 rw [bBy,mF]
 by_cases e:k=s
 ·rw [if_pos (beq_iff_eq.2 e),if_pos e];rfl
 ·rw [if_neg (by simpa using e),if_neg e];exact h k
def qM (NV:NamesTV):Fact:=Fact.each NV fun p=>tyF p.2
theorem bSr{F:List Fact}{NV:NamesTV}{k:Bs}{a:TyV}(h:Has F (qM NV))(e:mF k NV=some a):Has F (tyF a):=by
 obtain⟨p,hp,e⟩:=bOt e;rw [←e];exact Has.each h hp
theorem mapT:prog.underlying 95=some (.map 9 43):=n9
theorem bKr(w:World):(zeroValue 43).run prog w= .ok (.agg #[.slice none 0 0,.bool false,.slice none 0 0]) w:=n9
theorem bTv{β:dF}{n:Nat}{Γ:Env}{H:List bH}{F:List Fact}{Q:Exit→Act→World→Prop}{ops:Array Oper}{rest:List Oper}{o:Oper}{d:Nat}{x y z:Operand}{u v q:Bs}(hw:want ops Γ o=some true)(ho:o.op= .buildSlice 69 3 #[(0,x),(1,y),(2,z)])(hd:o.dst=some d)(hn:Nat.blt d n=true)
  (hx:Γ.ev x=some (.string (bs u))) (hy:Γ.ev y=some (.string (bs v))) (hz':Γ.ev z=some (.string (bs q))) (k: ∀b,At β n ((d,.slice (some ⟨b,0,none⟩) 3 3)::Γ) (.obj b (.cells (nM.all [u,v,q]).toArray 9)::H) F (wpList prog ops Q rest)):At β n Γ H F (wpList prog ops Q (o::rest)):=by
 obtain⟨i,hi,hz,hs,_⟩:=strInfo;refine sH (m:=3) hw ho hd hn (fun a w f=>?_) k
 have:=run_buildSlice (P:=prog) w 69 9 3 #[(0,a.eval x),(1,a.eval y),(2,a.eval z)] (nM.all [u,v,q]).toArray i (.string (bs [])) underlying69 hi hz n7 n7 (by
  rw [f.ev hx,f.ev hy,f.ev hz',hs]
  kernel_rfl)
 simpa using this
section
variable {s : Bs} {NV : NamesTV} {a : TyV}
theorem name_0(h:mF (jL++s) NV=some a):nameT (jY NV) s=some a.t:=by
 unfold nameT;rw [pD,h];rfl
theorem name_1(h0:mF (jL++s) NV=none)(h:mF (nIn++s) NV=some a):nameT (jY NV) s=some a.t:=by
 unfold nameT;rw [pD,h0,pD,h];rfl
theorem name_2(h0:mF (jL++s) NV=none)(h1:mF (nIn++s) NV=none)(h:mF s NV=some a):nameT (jY NV) s=some a.t:=by
 unfold nameT;rw [pD,h0,pD,h1,pD,h];rfl
theorem name_3(h0:mF (jL++s) NV=none)(h1:mF (nIn++s) NV=none)(h:mF s NV=none):nameT (jY NV) s=none:=by
 unfold nameT;rw [pD,h0,pD,h1,pD,h];rfl
end
def chkO (cb mb:Nat):bH:= .obj cb (.cells [.map (some mb)].toArray 97)
def noTy:TyV:=⟨⟨none,0,[]⟩,false,⟨none,0,[]⟩⟩
theorem noTy_F{F:List Fact}:Has F (tyF noTy):=bZ cL cL
theorem yE:prog.built 43 []=some #[.slice none 0 0,.bool false,.slice none 0 0]:=n9
theorem nameT_spec(cb mb:Nat)(kv:KVS)(NV:NamesTV)(hN:tN kv NV)(s:Bs)(hs:s.length≤140737488355328):cM prog 48 [.pointer (some ⟨cb,0,none⟩),.string (bs s)] [chkO cb mb,qS mb kv] [qM NV] (fun(x:TyV)=> .tuple #[tyC x,.bool (nameT (jY NV) s).isSome]) (fun _=>[chkO cb mb,qS mb kv]) (fun(x:TyV)=>[tyF x,Fact.pure (x.t=(nameT (jY NV) s).getD ⟨[],false,[]⟩)]):=by
 have hT:=fK;generalize hR:nameT (jY NV) s=r;refine k6 func48 ntmps48 ?_;intro β hM;refine g2 ?_;refine j6 qV fun b1=>?_;refine g7 ?_;refine ss (jF rfl rfl rfl q8) ?_;refine one ?_;refine ss (jF rfl rfl rfl q8) ?_;refine one ?_;refine bTv (u:=jL++s) (v:=nIn++s) (q:=s) rfl rfl rfl rfl rfl rfl rfl fun b2=>?_;refine bR (E:=nM) (xs:=[jL++s,nIn++s,s]) .head q7<|bE .head ?_;refine g5 ?_;refine at_rounds 4 ?_;refine bGn ?_;refine g3 ?_;refine bM (t':=true) o9 ?_;refine g10 ?_;refine ss (cF hT (k:=0) (cE d7) rfl rfl rfl rfl rfl rfl rfl o6) ?_;refine ss (j7 hT (dQ.knows (cE d7) (k:=0) (x:=(jL++s)) rfl 0)) ?_;refine g4 ?_
 rcases hlk0:mF (jL++s) NV with _ | a
 ·refine g6 ?_;refine ss (lI (lA kT2) rfl mapT underlying9 bKr rfl rfl (v:= .tuple #[tyC noTy,.bool false]) (by rw [hN,hlk0];rfl)) ?_;refine g3 ?_;refine j6 qV fun b3=>?_;refine g15 ?_;refine inc 1 ?_;refine g3 ?_;refine bGn ?_;refine g3 ?_;refine bM (t':=true) o9 ?_;refine g10 ?_;refine ss (cF hT (k:=1) (cE d7) rfl rfl rfl rfl rfl rfl rfl o6) ?_;refine ss (j7 hT (dQ.knows (cE d7) (k:=1) (x:=(nIn++s)) rfl 0)) ?_;refine g4 ?_
  rcases hlk1:mF (nIn++s) NV with _ | a
  ·refine g6 ?_;refine ss (lI (lA kT3) rfl mapT underlying9 bKr rfl rfl (v:= .tuple #[tyC noTy,.bool false]) (by rw [hN,hlk1];rfl)) ?_;refine g3 ?_;refine j6 qV fun b4=>?_;refine g15 ?_;refine inc 2 ?_;refine g3 ?_;refine bGn ?_;refine g3 ?_;refine bM (t':=true) o9 ?_;refine g10 ?_;refine ss (cF hT (k:=2) (cE d7) rfl rfl rfl rfl rfl rfl rfl o6) ?_;refine ss (j7 hT (dQ.knows (cE d7) (k:=2) (x:=s) rfl 0)) ?_;refine g4 ?_
   rcases hlk2:mF s NV with _ | a
   ·refine g6 ?_;refine ss (lI (lA kT4) rfl mapT underlying9 bKr rfl rfl (v:= .tuple #[tyC noTy,.bool false]) (by rw [hN,hlk2];rfl)) ?_;refine g3 ?_;refine j6 qV fun b5=>?_;refine g15 ?_;refine inc 3 ?_;refine g3 ?_;refine bGn ?_;refine g3 ?_;refine bM (t':=false) o9 ?_;refine g11 ?_;refine ss (k7 (yE)) ?_;refine g5 ?_;obtain rfl:=hR.symm.trans (name_3 hlk0 hlk1 hlk2);exact rs2 (noTy:TyV) ⟨noTy_F,j3 rfl,j0⟩
   refine g6 ?_;refine ss (lI (lA kT4) rfl mapT underlying9 bKr rfl rfl (v:= .tuple #[tyC a,.bool true]) (by rw [hN,hlk2];rfl)) ?_;refine g3 ?_;refine j6 qV fun b6=>?_;refine g23 ?_;refine bB (tyF a) (bSr d8 hlk2) ?_;obtain rfl:=hR.symm.trans (name_2 hlk0 hlk1 hlk2);exact rs2 (a:TyV) ⟨d7,j3 rfl,j0⟩
  refine g6 ?_;refine ss (lI (lA kT3) rfl mapT underlying9 bKr rfl rfl (v:= .tuple #[tyC a,.bool true]) (by rw [hN,hlk1];rfl)) ?_;refine g3 ?_;refine j6 qV fun b7=>?_;refine g23 ?_;refine bB (tyF a) (bSr d8 hlk1) ?_;obtain rfl:=hR.symm.trans (name_1 hlk0 hlk1);exact rs2 (a:TyV) ⟨d7,j3 rfl,j0⟩
 refine g6 ?_;refine ss (lI (lA kT2) rfl mapT underlying9 bKr rfl rfl (v:= .tuple #[tyC a,.bool true]) (by rw [hN,hlk0];rfl)) ?_;refine g3 ?_;refine j6 qV fun b8=>?_;refine g23 ?_;refine bB (tyF a) (bSr d8 hlk0) ?_;obtain rfl:=hR.symm.trans (name_0 hlk0);exact rs2 (a:TyV) ⟨d7,j3 rfl,j0⟩
def bGr (l vs:List PolV)(i:Nat):Prop:=bJ vs=(bJ l).take i
theorem bRf(l:List PolV):bGr l [] 0:=rfl
theorem bUs{l vs:List PolV}{i:Nat}{p q:PolV}(h:bGr l vs i)(hp:l[i]?=some p)(hq:q.list=p.list):bGr l (vs++[q]) (i+1):=by
 obtain⟨hi,e⟩:=List.getElem?_eq_some_iff.1 (gD hp);unfold bGr at*;rw [List.take_succ_eq_append_getElem hi,e,←h,←hq,rQ];rfl
theorem ownT_end{l vs:List PolV}{i:Nat}(h:bGr l vs i)(hi:l.length≤i):bJ vs=bJ l:=by
 unfold bGr at h
 rwa [List.take_of_length_le ai8] at h
theorem bQw{l vs:List PolV}{i:Nat}(h:bGr l vs i)(hi:i≤l.length):vs.length=i:=by
 have:=congrArg List.length h;rw [bF,List.length_take,bF] at this;omega
theorem polF_mk{F:List Fact}{A:Option Addr}{c:Nat}{l:List Mono}(h:Has F (nH.sl (.slice A l.length c) l))(k:l.length≤48):Has F (kT ⟨A,c,l⟩):=h.and (j3 (Nat.le_trans k o9))
theorem wf_sr{a:TyV}(h:WfT a.t): ∀p∈a.sides.list,p.list.length≤48:=fun _ hp=>oB (h.sr _ (List.mem_map_of_mem hp))
theorem wf_vr{a:TyV}(h:WfT a.t): ∀p∈a.values.list,p.list.length≤48:=fun _ hp=>oB (h.vr _ (List.mem_map_of_mem hp))
theorem ownT_t{a x:TyV}(hs:bJ x.sides.list=bJ a.sides.list)(hv:bJ x.values.list=bJ a.values.list)(hk:x.known=a.known):x.t=a.t:=by
 unfold TyV.t;rw [hs,hv,hk]
theorem bOg(l:Sl PolV)(hl:l.list.length≤4)(hr: ∀p∈l.list,p.list.length≤48):cM prog 52 [.slice l.addr l.list.length l.cap] [] [listF l] (fun(x:Sl PolV)=> .slice x.addr x.list.length x.cap) (fun _=>[]) (fun(x:Sl PolV)=>[listF x,Fact.pure (bJ x.list=bJ l.list)]):=by
 have hT:=fK;refine k6 func52 ntmps52 ?_;intro β hM;refine cO<|cG l mT0 fun hc_l=>?_;refine g18 ?_;refine cK (t:=47) bS<|bB (cQ []) (Has.each_nil) ?_;refine cB (ι:=Nat×List PolV×Option Addr×Nat) [(6,_),(7,_)] ⟨rfl,rfl,j0⟩ (fun⟨i,vs,V,cv⟩=>[(3,.slice V vs.length cv),(8,.int .i64 (i:Nat))]) (fun⟨i,vs,V,cv⟩=>[bS.row (.slice V vs.length cv) 47 vs]) (fun⟨i,vs,V,cv⟩=>[Fact.pure (i≤l.list.length∧bGr l.list vs i),cQ vs]) (fun⟨i,vs,V,cv⟩=>l.list.length-i) (0,[],none,0) ⟨rfl,rfl,j0⟩ (.c0 .nil) ⟨j3 (⟨n7,bRf _⟩),d7,j0⟩ ?_;rintro⟨i,vs,V,cv⟩;dsimp only;refine bC d7 fun hinv3=>?_;have hvl:=bQw hinv3.2 hinv3.1;refine g6 ?_;refine dJ (fun hc9=>?_) fun hc9=>?_
 ·refine g6 ?_;obtain⟨x1,hx2⟩:=gx l.list i;refine ss (ixs i) ?_;refine ss (fL hx2 0) ?_;refine g6 ?_;have hpl:=hr x1 (j4 hx2);refine j5 func35 (bBb x1.addr x1.cap x1.list n7) ⟨qI (Has.each e6 (j4 hx2)),j0⟩ fun⟨A3,c4⟩=>?_;refine bE .head<|bB (kT ⟨A3,c4,x1.list⟩) (polF_mk d7 hpl) ?_;refine dA (m:=⟨A3,c4,x1.list⟩) rfl rfl rfl rfl rfl fun b5=>?_;refine bB (cQ (vs++[(⟨A3,c4,x1.list⟩:PolV)])) (Has.each_snoc e6 d7) ?_;refine fM kT1 (bW .head rfl) rfl rfl rfl rfl rfl rfl rfl q8 fun A6 c7=>?_;refine g6 ?_;refine inc (i+1) ?_;refine g3 ?_;exact bk2 (i+1,vs++[(⟨A3,c4,x1.list⟩:PolV)],A6,c7) ⟨j3 (⟨by dsimp only;omega,bUs hinv3.2 hx2 rfl⟩),d7,j0⟩
 refine g12 ?_;have he:=ownT_end hinv3.2 n7;refine bX .head fun hcv=>bE .head ?_;exact rs1 (⟨V,cv,vs⟩:Sl PolV) ⟨cH d7 d9 hcv,j3 he,j0⟩
theorem ownT_spec(a:TyV)(ha:WfT a.t):cM prog 24 [.agg #[.slice a.sides.addr a.sides.list.length a.sides.cap,.bool a.known,.slice a.values.addr a.values.list.length a.values.cap]] [] [tyF a] (fun(x:TyV)=>tyC x) (fun _=>[]) (fun(x:TyV)=>[tyF x,Fact.pure (x.t=a.t)]):=by
 have hT:=fK;have hsa:=bCd ha;have hva:=bTs ha;refine k6 func24 ntmps24 ?_;intro β hM;refine cO<|bB (listF a.sides) (mA d7) ?_;refine cG a.sides mT0 fun hc_as=>bB (listF a.values) (mD e6)<|cG a.values mT0 fun hc_av=>?_;refine one ?_;refine j9 fun b1=>?_;refine j6 qV fun b2=>?_;refine g8 ?_;refine bU _ _ [(true,0),(true,1),(true,2),(true,4),(true,5),(true,6),(true,7),(true,8),(false,3),(false,9),(true,10),(false,11)] bV o5 (.c1 .nil) bA.self ?_;refine g9 ?_;refine fV (bO func52 rfl rfl) (bOg a.sides n7 (wf_sr ha)) rfl rfl rfl rfl rfl rfl rfl .nil ⟨e8,j0⟩ fun y3=>?_;refine bC d8 fun hos=>?_;refine g2 ?_;refine fV (bO func52 rfl rfl) (bOg a.values n7 (wf_vr ha)) rfl rfl rfl rfl rfl rfl rfl .nil ⟨e7,j0⟩ fun y4=>?_;refine bC d8 fun hov=>?_;refine one ?_;refine stM rfl (k7 (uR _ _ _ _ _ _ _)) ?_;refine g6 ?_;exact rs1 (⟨y3,a.known,y4⟩:TyV) ⟨(bZ (x:=⟨y3,a.known,y4⟩) d9 d7),j3 (ownT_t (a:=a) hos hov rfl),j0⟩
section
variable {P : Program} {β : dF} {n : Nat} {Γ : Env} {H : List bH} {F : List Fact} {T : Tab}
theorem bDm{α:Type}{g:α→Fact}{xs:List α}(h:Has F (Fact.each xs g))(k:Nat):Has F (Fact.each (xs.take k) g):=fun S w q x hx=>h S w q x (List.mem_of_mem_take hx)
end
def stT (hv:List TyV):List TyP:=(hv.map TyV.t).reverse
theorem zU{hv:List TyV}{a:TyV}(h:hv[hv.length-1]?=some a):(stT hv).headD default=a.t:=by
 have h2:(hv.map TyV.t)[(hv.map TyV.t).length-1]?=some a.t:=by rw [List.length_map];exact vS h
 unfold stT;rw [List.headD_eq_head?_getD,List.head?_reverse,List.getLast?_eq_getElem?,h2];rfl
theorem bSz{hv:List TyV}{a:TyV}(h:hv[hv.length-2]?=some a)(h2:2≤hv.length):(stT hv).tail.headD default=a.t:=by
 have e:(stT hv)[1]?=some a.t:=by
  unfold stT;rw [List.getElem?_reverse ab3,List.length_map];have:hv.length-1-1=hv.length-2:=n7
  rw [this];exact vS h
 match stT hv,e with
 | _::b::_,e=>simpa using e
theorem stT_push{hv:List TyV}{a:TyV}{k T:Nat}(hk:k=hv.length-T):stT (hv.take k++[a])=a.t::(stT hv).drop T:=by
 unfold stT;rw [List.map_append,List.reverse_append,List.map_take];simp only [List.map_cons,List.map_nil,List.reverse_cons,List.reverse_nil,List.nil_append,List.cons_append]
 congr 1
 rw [List.drop_reverse,List.length_map,hk]
section
variable {N : dT} {it : ItemV} {hv : List TyV} {x u : TyV}
theorem itT_lit(h:it.how=1):dB N it.it (stT hv)=(jC it.nums.list,0):=if_pos h
theorem itT_name(h:it.how=2)(k:(nameT N it.name).isSome=true):dB N it.it (stT hv)=((nameT N it.name).getD ⟨[],false,[]⟩,0):=by
 unfold dB;rw [if_neg (show ¬it.it.how=1 from (show ¬it.how=1 by omega)),if_pos (show it.it.how=_ from h)]
 cases e:nameT N it.name with
 | none=>rw [e] at k;cases k
 | some t=>rw [show nameT N it.it.name=some t from e];rfl
theorem itT_none(h:it.how=2)(k:(nameT N it.name).isSome=false):dB N it.it (stT hv)=((nameT N it.name).getD ⟨[],false,[]⟩,83):=by
 unfold dB;rw [if_neg (show ¬it.it.how=1 from (show ¬it.how=1 by omega)),if_pos (show it.it.how=_ from h)]
 cases e:nameT N it.name with
 | none=>rw [show nameT N it.it.name=none from e];rfl
 | some t=>rw [e] at k;cases k
theorem itT_mon(h:it.how=3)(hx:hv[hv.length-1]?=some x):dB N it.it (stT hv)=fA it.fn x.t:=by
 unfold dB;rw [if_neg (show ¬it.it.how=1 from (show ¬it.how=1 by omega)),if_neg (show ¬it.it.how=2 from (show ¬it.how=2 by omega)),if_pos (show it.it.how=_ from h),zU hx];rfl
theorem itT_5(h:it.how=5)(hx:hv[hv.length-1]?=some x):dB N it.it (stT hv)=(if x.t.sides=[] then x.t else ⟨x.t.sides.take (x.t.sides.length-1),false,[]⟩,0):=by
 unfold dB;rw [if_neg (show ¬it.it.how=1 from (show ¬it.how=1 by omega)),if_neg (show ¬it.it.how=2 from (show ¬it.how=2 by omega)),if_neg (show ¬it.it.how=3 from (show ¬it.how=3 by omega)),if_pos (show it.it.how=_ from h),zU hx]
theorem itT_6(h:it.how=6)(hx:hv[hv.length-1]?=some x):dB N it.it (stT hv)=(if x.t.sides=[] then x.t else ⟨x.t.sides,false,[]⟩,0):=by
 unfold dB;rw [if_neg (show ¬it.it.how=1 from (show ¬it.how=1 by omega)),if_neg (show ¬it.it.how=2 from (show ¬it.how=2 by omega)),if_neg (show ¬it.it.how=3 from (show ¬it.how=3 by omega)),if_neg (show ¬it.it.how=5 from (show ¬it.how=5 by omega)),if_pos (show it.it.how=_ from h),zU hx]
theorem itT_flat(h:it.how=5∨it.how=6)(hx:hv[hv.length-1]?=some x)(hs:x.sides.list.length=0):dB N it.it (stT hv)=(x.t,0):=by
 rcases h with h | h
 ·rw [itT_5 h hx,if_pos (show x.t.sides=[] from dI hs)]
 ·rw [itT_6 h hx,if_pos (show x.t.sides=[] from dI hs)]
theorem itT_fold(h:it.how=5)(hx:hv[hv.length-1]?=some x)(hs:0<x.sides.list.length):dB N it.it (stT hv)=(⟨bJ (x.sides.list.take (x.sides.list.length-1)),false,[]⟩,0):=by
 rw [itT_5 h hx,if_neg (show ¬x.t.sides=[] from fE hs),bOo,show x.t.sides.length=x.sides.list.length from bF _];rfl
theorem itT_scan(h:it.how=6)(hx:hv[hv.length-1]?=some x)(hs:0<x.sides.list.length):dB N it.it (stT hv)=(⟨bJ (x.sides.list.take x.sides.list.length),false,[]⟩,0):=by
 rw [itT_6 h hx,if_neg (show ¬x.t.sides=[] from fE hs),List.take_length];rfl
theorem itT_dy(h:it.how=4)(hx:hv[hv.length-2]?=some x)(hu:hv[hv.length-1]?=some u)(h2:2≤hv.length):dB N it.it (stT hv)=kI it.fn x.t u.t:=by
 unfold dB;rw [if_neg (show ¬it.it.how=1 from (show ¬it.how=1 by omega)),if_neg (show ¬it.it.how=2 from (show ¬it.how=2 by omega)),if_neg (show ¬it.it.how=3 from (show ¬it.how=3 by omega)),if_neg (show ¬it.it.how=5 from (show ¬it.how=5 by omega)),if_neg (show ¬it.it.how=6 from (show ¬it.how=6 by omega)),if_pos (show it.it.how=_ from h),zU hu,bSz hx h2];rfl
theorem itT_out{e:Int}(h1:it.how≠1)(h2:it.how≠2)(h3:it.how≠3)(h5:it.how≠5)(h6:it.how≠6)(h4:it.how≠4)(hx:hv[hv.length-2]?=some x)(hu:hv[hv.length-1]?=some u)(hl:2≤hv.length)(he:e=if 4<x.sides.list.length+u.sides.list.length then 90 else 0):dB N it.it (stT hv)=(⟨bJ (x.sides.list++u.sides.list),false,[]⟩,e):=by
 unfold dB;rw [if_neg (show ¬it.it.how=1 from h1),if_neg (show ¬it.it.how=2 from h2),if_neg (show ¬it.it.how=3 from h3),if_neg (show ¬it.it.how=5 from h5),if_neg (show ¬it.it.how=6 from h6),if_neg (show ¬it.it.how=4 from h4),zU hu,bSz hx hl,he,rQ,show x.t.sides.length=x.sides.list.length from bF _,show u.t.sides.length=u.sides.list.length from bF _];rfl
end
theorem itemTS_spec(cb mb:Nat)(kv:KVS)(NV:NamesTV)(hN:tN kv NV)(it:ItemV)(A:Option Addr)(c:Nat)(hv:List TyV)(hW: ∀t∈hv,WfT t.t)(hl:hv.length≤300)(hd:dG it.it≤hv.length)(h17:1≤it.how∧it.how≤7)(hnum:it.how=1→it.nums.list.length≤65536)(hnm:it.how=2→it.name.length≤140737488355328):cM prog 23 [.pointer (some ⟨cb,0,none⟩),.agg #[.int .i64 it.how,.int .i64 it.at_,.int .u8 it.fn,.string (bs it.name),.slice it.nums.addr it.nums.list.length it.nums.cap],.slice A hv.length c] [chkO cb mb,qS mb kv,tyE.row (.slice A hv.length c) 43 hv] [sZ.sl (.slice it.nums.addr it.nums.list.length it.nums.cap) it.nums.list,Fact.each hv tyF,qM NV] (fun(x:TyV)=> .tuple #[tyC x,.int .i64 (dG it.it:Nat),.int .i64 (dB (jY NV) it.it (stT hv)).2]) (fun _=>[chkO cb mb,qS mb kv,tyE.row (.slice A hv.length c) 43 hv]) (fun(x:TyV)=>[tyF x,Fact.pure (x.t=(dB (jY NV) it.it (stT hv)).1)]):=by
 have hT:=fK;generalize hR:dB (jY NV) it.it (stT hv)=r;generalize hTk:dG it.it=T at hd⊢;refine k6 func23 ntmps23 ?_;intro β hM;refine g2 ?_;refine j9 fun b1=>?_;refine j6 qV fun b2=>?_;refine g25 ?_;refine fN (fun hc17=>?_) fun hc17=>?_
 ·refine cO ?_;have htk:T=0:=hTk.symm.trans (tU ae2);subst htk;refine g3 ?_;refine j5 func47 (bTk it.nums.addr it.nums.cap it.nums.list (Nat.le_trans (hnum asd) o9)) ⟨d7,j0⟩ fun y3=>?_;refine bC d8 fun hy=>?_;refine g8 ?_;obtain rfl:=hR.symm.trans (itT_lit asd);exact rs3 (y3:TyV) ⟨d7,j3 hy,j0⟩
 refine g6 ?_;refine fN (fun hc22=>?_) fun hc22=>?_
 ·refine cO ?_;have htk:T=0:=hTk.symm.trans (tU ae2);subst htk;refine g4 ?_;refine bD func48 (nameT_spec cb mb kv NV hN it.name (hnm asd)) rfl rfl (.c2 (.c2 .nil)) ⟨d9,j0⟩ fun y4=>?_;refine bC d8 fun hy=>?_;refine g3 ?_;refine j6 qV fun b5=>?_;refine g11 ?_;refine jJ (fun hc32=>?_) fun hc32=>?_
  ·refine g16 ?_;obtain rfl:=hR.symm.trans (itT_none asd asd);exact rs3 (y4:TyV) ⟨d7,j3 hy,j0⟩
  refine g14 ?_;obtain rfl:=hR.symm.trans (itT_name asd asd);exact rs3 (y4:TyV) ⟨d7,j3 hy,j0⟩
 refine g6 ?_;refine fN (fun hc35=>?_) fun hc35=>?_
 ·refine cO ?_;have htk:T=1:=hTk.symm.trans (oF v8);subst htk;obtain⟨x,hx⟩:=gx hv (hv.length-1);have hwx:=hW x (j4 hx);refine bB (tyF x) (Has.each d8 (j4 hx)) ?_;have hsx:=bCd hwx;refine bB (listF x.sides) (mA d7)<|cG x.sides mT0 fun hc_xs=>bB (listF x.values) (mD e6)<|cG x.values mT0 fun hc_xv=>?_;refine bU _ _ [(true,0),(true,1),(true,2),(true,3),(true,4),(true,5),(true,6),(false,7),(true,8),(true,9),(true,10),(false,11),(true,12)] bV o5 (.c1 (.c1 (.c1 (.c1 .nil)))) bA.self ?_;refine g5 ?_;refine inc (hv.length-1) ?_;refine stM rfl (ixs (hv.length-1)) ?_;refine stM rfl (lS hx 0) ?_;refine one ?_;refine j5 func49 (monT_spec it.fn x hwx) ⟨e9,j0⟩ fun y6=>?_;refine bC d8 fun hy=>?_;refine g22 ?_;obtain rfl:=hR.symm.trans (itT_mon asd hx);exact rs3 (y6:TyV) ⟨d7,j3 hy,j0⟩
 refine g7 ?_;refine fN (fun hc50=>?_) fun hc50=>?_
 ·refine bM (t':=true) asd ?_;refine g4 ?_;have htk:T=1:=hTk.symm.trans (oF v8);subst htk;obtain⟨x,hx⟩:=gx hv (hv.length-1);have hwx:=hW x (j4 hx);refine bB (tyF x) (Has.each d8 (j4 hx)) ?_;have hsx:=bCd hwx;refine bB (listF x.sides) (mA d7)<|cG x.sides mT0 fun hc_xs=>bB (listF x.values) (mD e6)<|cG x.values mT0 fun hc_xv=>?_;refine g4 ?_;refine inc (hv.length-1) ?_;refine ss (ixs (hv.length-1)) ?_;refine ss (lS hx 0) ?_;refine g18 ?_;refine dJ (fun hc62=>?_) fun hc62=>?_
  ·refine g6 ?_;refine bM (t':=true) (by rw [hc50];rfl) ?_;refine g6 ?_;refine inc (x.sides.list.length-1) ?_;refine g7 ?_;have hkl:(x.sides.list.length-1)≤x.sides.list.length:=n7
   refine ss (mC hT (k:=(x.sides.list.length-1)) rfl rfl rfl rfl rfl rfl n7) ?_;refine lX (v':= .slice x.sides.addr (x.sides.list.take ((x.sides.list.length-1))).length x.sides.cap) ab9<|bB (listF ⟨x.sides.addr,x.sides.cap,(x.sides.list.take ((x.sides.list.length-1)))⟩) (rA e8 hc_xs hkl) ?_;refine j5 func46 (dE x.sides.addr ((x.sides.list.take ((x.sides.list.length-1))).length) x.sides.cap) j0 fun _=>?_;refine g14 ?_;have hr:=hR.symm.trans (itT_fold asd hx n7);subst hr;exact rs3 (⟨⟨x.sides.addr,x.sides.cap,(x.sides.list.take ((x.sides.list.length-1)))⟩,false,⟨none,0,[]⟩⟩:TyV) ⟨(bZ (x:=⟨⟨x.sides.addr,x.sides.cap,(x.sides.list.take ((x.sides.list.length-1)))⟩,false,⟨none,0,[]⟩⟩) d7 cL),j3 rfl,j0⟩
  refine g13 ?_;have hr:=hR.symm.trans (itT_flat ae2 hx n7);subst hr;exact rs3 (⟨x.sides,x.known,x.values⟩:TyV) ⟨(bZ (x:=⟨x.sides,x.known,x.values⟩) e8 d9),j3 rfl,j0⟩
 refine g5 ?_;refine fN (fun hc50_7=>?_) fun hc50_7=>?_
 ·refine bM (t':=true) asd ?_;refine cO ?_;have htk:T=1:=hTk.symm.trans (oF v8);subst htk;obtain⟨x,hx⟩:=gx hv (hv.length-1);have hwx:=hW x (j4 hx);refine bB (tyF x) (Has.each d8 (j4 hx)) ?_;have hsx:=bCd hwx;refine bB (listF x.sides) (mA d7)<|cG x.sides mT0 fun hc_xs=>bB (listF x.values) (mD e6)<|cG x.values mT0 fun hc_xv=>?_;refine g4 ?_;refine inc (hv.length-1) ?_;refine ss (ixs (hv.length-1)) ?_;refine ss (lS hx 0) ?_;refine g18 ?_;refine dJ (fun hc62=>?_) fun hc62=>?_
  ·refine g6 ?_;refine bM (t':=false) (by rw [hc50_7];rfl) ?_;refine g9 ?_;have hkl:x.sides.list.length≤x.sides.list.length:=n7
   refine ss (mC hT (k:=x.sides.list.length) rfl rfl rfl rfl rfl rfl n7) ?_;refine lX (v':= .slice x.sides.addr (x.sides.list.take (x.sides.list.length)).length x.sides.cap) ab9<|bB (listF ⟨x.sides.addr,x.sides.cap,(x.sides.list.take (x.sides.list.length))⟩) (rA e8 hc_xs hkl) ?_;refine j5 func46 (dE x.sides.addr ((x.sides.list.take (x.sides.list.length)).length) x.sides.cap) j0 fun _=>?_;refine g14 ?_;have hr:=hR.symm.trans (itT_scan asd hx n7);subst hr;exact rs3 (⟨⟨x.sides.addr,x.sides.cap,(x.sides.list.take (x.sides.list.length))⟩,false,⟨none,0,[]⟩⟩:TyV) ⟨(bZ (x:=⟨⟨x.sides.addr,x.sides.cap,(x.sides.list.take (x.sides.list.length))⟩,false,⟨none,0,[]⟩⟩) d7 cL),j3 rfl,j0⟩
  refine g13 ?_;have hr:=hR.symm.trans (itT_flat ae2 hx n7);subst hr;exact rs3 (⟨x.sides,x.known,x.values⟩:TyV) ⟨(bZ (x:=⟨x.sides,x.known,x.values⟩) e8 d9),j3 rfl,j0⟩
 refine g6 ?_;refine fN (fun hc74=>?_) fun hc74=>?_
 ·refine cO ?_;have htk:T=2:=hTk.symm.trans (qB v8);subst htk;obtain⟨x,hx⟩:=gx hv (hv.length-2);have hwx:=hW x (j4 hx);refine bB (tyF x) (Has.each d8 (j4 hx)) ?_;have hsx:=bCd hwx;refine bB (listF x.sides) (mA d7)<|cG x.sides mT0 fun hc_xs=>bB (listF x.values) (mD e6)<|cG x.values mT0 fun hc_xv=>?_;obtain⟨u,hu⟩:=gx hv (hv.length-1);have hwu:=hW u (j4 hu);refine bB (tyF u) (Has.each f4 (j4 hu)) ?_;have hsu:=bCd hwu;refine bB (listF u.sides) (mA d7)<|cG u.sides mT0 fun hc_us=>bB (listF u.values) (mD e6)<|cG u.values mT0 fun hc_uv=>?_;refine bU _ _ [(true,0),(true,1),(true,2),(true,3),(true,4),(true,5),(true,6),(true,7),(true,8),(true,9),(true,10),(true,11),(false,12),(true,13),(true,14),(true,15),(false,16),(true,17)] bV o5 (.c1 (.c1 (.c1 (.c1 .nil)))) bA.self ?_;refine g5 ?_;refine inc (hv.length-2) ?_;refine stM rfl (ixs (hv.length-2)) ?_;refine stM rfl (lS hx 0) ?_;refine g3 ?_;refine inc (hv.length-1) ?_;refine stM rfl (ixs (hv.length-1)) ?_;refine stM rfl (lS hu 0) ?_;refine one ?_;refine j5 func50 (dyT_spec it.fn x u hwx hwu) ⟨i7,e9,j0⟩ fun y8=>?_;refine bC d8 fun hy=>?_;refine g22 ?_;have hr:=hR.symm.trans (itT_dy asd hx hu n7);subst hr;exact rs3 (y8:TyV) ⟨d7,j3 hy,j0⟩
 refine g4 ?_;have htk:T=2:=hTk.symm.trans (qB v8);subst htk;obtain⟨x,hx⟩:=gx hv (hv.length-2);have hwx:=hW x (j4 hx);refine bB (tyF x) (Has.each d8 (j4 hx)) ?_;have hsx:=bCd hwx;refine bB (listF x.sides) (mA d7)<|cG x.sides mT0 fun hc_xs=>bB (listF x.values) (mD e6)<|cG x.values mT0 fun hc_xv=>?_;obtain⟨u,hu⟩:=gx hv (hv.length-1);have hwu:=hW u (j4 hu);refine bB (tyF u) (Has.each f4 (j4 hu)) ?_;have hsu:=bCd hwu;refine bB (listF u.sides) (mA d7)<|cG u.sides mT0 fun hc_us=>bB (listF u.values) (mD e6)<|cG u.values mT0 fun hc_uv=>?_;refine bU _ _ [(true,0),(true,1),(true,2),(true,3),(true,4),(true,5),(true,6),(true,7),(true,8),(true,9),(true,10),(true,11),(false,12),(false,13),(false,14),(false,15)] bV o5 (.c1 (.c1 (.c1 (.c1 .nil)))) bA.self ?_;refine g3 ?_;refine inc (hv.length-2) ?_;refine stM rfl (ixs (hv.length-2)) ?_;refine one ?_;refine stM rfl (fL hx 0) ?_;refine g3 ?_;refine inc (hv.length-1) ?_;refine stM rfl (ixs (hv.length-1)) ?_;refine one ?_;refine stM rfl (fL hu 0) ?_;refine one ?_;refine qQ (u:=x.sides) (v:=u.sides) rfl rfl rfl rfl rfl rfl fun b9=>?_;refine bR (E:=bBg) (xs:=[x.sides,u.sides]) .head q7<|bE .head<|bB (Fact.each [x.sides,u.sides] listF) (Has.each_cons i7 (Has.each_cons e9 Has.each_nil)) ?_;refine g2 ?_;have csp:=qO (some ⟨b9,0,none⟩) 2 [x.sides,u.sides] o6 ad9;rw [nB] at csp;refine j5 func51 csp ⟨d8,d7,j0⟩ fun⟨A10,c11⟩=>?_;refine bX .head fun hc_cc=>bE .head<|bB (cQ (x.sides.list++u.sides.list)) (oC i7 e9) ?_;refine g2 ?_;refine j5 func46 (dE A10 ((x.sides.list++u.sides.list).length) c11) j0 fun _=>?_;refine g15 ?_;refine dJ (fun hc112=>?_) fun hc112=>?_
 ·refine g14 ?_;have hr:=hR.symm.trans (itT_out (e:=90) asd asd asd asd asd asd hx hu n7 (by rw [if_pos (by simp only [List.length_append] at*;omega)]));subst hr;exact rs3 (⟨⟨A10,c11,(x.sides.list++u.sides.list)⟩,false,⟨none,0,[]⟩⟩:TyV) ⟨(bZ (x:=⟨⟨A10,c11,(x.sides.list++u.sides.list)⟩,false,⟨none,0,[]⟩⟩) (cH d8 d7 (hc_cc)) cL),j3 rfl,j0⟩
 refine g12 ?_;have hr:=hR.symm.trans (itT_out (e:=0) asd asd asd asd asd asd hx hu n7 (by rw [if_neg (by simp only [List.length_append] at*;omega)]));subst hr;exact rs3 (⟨⟨A10,c11,(x.sides.list++u.sides.list)⟩,false,⟨none,0,[]⟩⟩:TyV) ⟨(bZ (x:=⟨⟨A10,c11,(x.sides.list++u.sides.list)⟩,false,⟨none,0,[]⟩⟩) (cH d8 d7 (hc_cc)) cL),j3 rfl,j0⟩
theorem chk_built(m:Nat):prog.built 97 [(0,.map (some m))]=some #[.map (some m)]:=n9
def VTAt (vars:List Bs)(i:Nat)(NV:NamesTV)(kv:KVS):Prop:=tN kv NV∧vR vars 0 []=vR (vars.drop i) i (jY NV)
theorem vtT_start(vars:List Bs):VTAt vars 0 [] []:=⟨nrT_start,rfl⟩
theorem vtT_step{vars:List Bs}{i:Nat}{NV:NamesTV}{kv:KVS}{s:Bs}{a:TyV}(h:VTAt vars i NV kv)(hs:vars[i]?=some s)(ha:a.t=varT i):VTAt vars (i+1) ((s,a)::NV) (nG s (tyC a) kv):=by
 obtain⟨hi,e⟩:=List.getElem?_eq_some_iff.1 hs;refine⟨nrT_add h.1 s a,?_⟩;rw [h.2,List.drop_eq_getElem_cons hi,e];show vR _ (i+1) ((s,varT i)::_)=_;rw [←ha];rfl
theorem vtT_end{vars:List Bs}{i:Nat}{NV:NamesTV}{kv:KVS}(h:VTAt vars i NV kv)(hi:vars.length≤i):vR vars 0 []=jY NV:=by
 rw [h.2,List.drop_of_length_le hi];rfl
def ITAt (p:gN)(i:Nat)(NV:NamesTV)(kv:KVS):Prop:=tN kv NV∧pM p=bOi (cJ p) (p.inputs.drop i) (jY NV)
theorem itT_start{p:gN}{i:Nat}{NV:NamesTV}{kv:KVS}(h:VTAt (cJ p) i NV kv)(hi:(cJ p).length≤i):ITAt p 0 NV kv:=⟨h.1,by
 unfold pM;rw [vtT_end h hi]
 rfl⟩
theorem itT_step{p:gN}{i:Nat}{NV:NamesTV}{kv:KVS}{x:gM}{a:TyV}(h:ITAt p i NV kv)(hx:p.inputs[i]?=some x)(ha:a.t=inT (cJ p) x):ITAt p (i+1) ((nIn++x.name,a)::NV) (nG (nIn++x.name) (tyC a) kv):=by
 obtain⟨hi,e⟩:=List.getElem?_eq_some_iff.1 hx;refine⟨nrT_add h.1 _ a,?_⟩;rw [h.2,List.drop_eq_getElem_cons hi,e];show bOi _ _ ((nIn++x.name,inT (cJ p) x)::_)=_;rw [←ha];rfl
theorem itT_end{p:gN}{i:Nat}{NV:NamesTV}{kv:KVS}(h:ITAt p i NV kv)(hi:p.inputs.length≤i):jY NV=pM p:=by
 rw [h.2,List.drop_of_length_le hi];rfl
def SdAt (vars:List Bs)(l:List jQ)(vs:List PolV)(j:Nat):Prop:=bJ vs=(l.take j).map (fun d=>bPo vars d.sd)
theorem bVf(vars:List Bs)(l:List jQ):SdAt vars l [] 0:=rfl
theorem bIj{vars:List Bs}{l:List jQ}{vs:List PolV}{j:Nat}{d:jQ}{p:PolV}(h:SdAt vars l vs j)(hd:l[j]?=some d)(hp:p.list=bPo vars d.sd):SdAt vars l (vs++[p]) (j+1):=by
 obtain⟨hi,e⟩:=List.getElem?_eq_some_iff.1 hd;unfold SdAt at*;rw [List.take_succ_eq_append_getElem hi,e,List.map_append,←h,rQ];show _++[p.list]=_++[_];rw [hp]
theorem sdT_len{vars:List Bs}{l:List jQ}{vs:List PolV}{j:Nat}(h:SdAt vars l vs j)(hj:j≤l.length):vs.length=j:=by
 have:=congrArg List.length h;rw [bF,List.length_map,List.length_take] at this;omega
theorem sdT_end{vars:List Bs}{x:InputV}{vs:List PolV}{j:Nat}{A:Option Addr}{c:Nat}(h:SdAt vars x.sides.list vs j)(hj:x.sides.list.length≤j):(⟨⟨A,c,vs⟩,false,⟨none,0,[]⟩⟩:TyV).t=inT vars x.inp:=by
 unfold SdAt at h;rw [List.take_of_length_le hj] at h;show(⟨bJ vs,false,[]⟩:TyP)=_;rw [h];unfold inT
 congr 1
 show _=List.map _ (x.sides.list.map jQ.sd);rw [List.map_map];rfl
theorem newT_spec(P:ProgV)(hl1:P.inputs.list.length≤140737488355328)(hrt:(cV P.pr).2=true):cM prog 22 [.agg #[.slice P.inputs.addr P.inputs.list.length P.inputs.cap,.slice P.lines.addr P.lines.list.length P.lines.cap]] [] [iW,kR.sl (.slice P.inputs.addr P.inputs.list.length P.inputs.cap) P.inputs.list,jE P.inputs.list] (fun(x:Nat×Nat×KVS×NamesTV)=> .pointer (some ⟨x.1,0,none⟩)) (fun(x:Nat×Nat×KVS×NamesTV)=>[chkO x.1 x.2.1,qS x.2.1 x.2.2.1]) (fun(x:Nat×Nat×KVS×NamesTV)=>[qM x.2.2.2,Fact.pure (tN x.2.2.1 x.2.2.2∧jY x.2.2.2=pM P.pr)]):=by
 have hT:=fK;refine k6 func22 ntmps22 ?_;intro β hM;refine g2 ?_;refine j9 fun b1=>?_;refine g5 ?_;refine bAf rfl rfl rfl rfl fun r2=>?_;refine ss (k7 (chk_built r2)) ?_;refine j9 fun b3=>?_;refine g4 ?_;have hrt:(cV P.pr).2=true:=by assumption
 have hfine:=vB hrt;have hs: ∀x∈P.inputs.list,x.sides.list.length≤4:=fun x hx=>by have h1:=(hfine.input x.inp (vC hx)).2.1;have h2:x.inp.sides.length=x.sides.list.length:=List.length_map _;omega
 have hTT:=xW hrt;have hpl:P.pr.inputs.length=P.inputs.list.length:=List.length_map _;refine g2 ?_;refine j5 func15 (bJv P hl1 (fun x hx=>Nat.le_trans (hs x hx) o9) n7) ⟨d8,d9,j0⟩ fun⟨V,cv⟩=>?_;have hvl:(cJ P.pr).length≤256:=Nat.le_trans (vars_le P.pr) hTT;refine bB (qM []) (Has.each_nil) ?_;refine g12 ?_;refine cB (ι:=Nat×KVS×NamesTV) [(1,_),(3,_),(4,_),(22,_),(23,_)] ⟨rfl,rfl,rfl,rfl,rfl,j0⟩ (fun⟨i,kv,NV⟩=>[(24,.int .i64 (i:Nat))]) (fun⟨i,kv,NV⟩=>[qS r2 kv]) (fun⟨i,kv,NV⟩=>[Fact.pure (i≤(cJ P.pr).length∧VTAt (cJ P.pr) i NV kv),qM NV]) (fun⟨i,kv,NV⟩=>(cJ P.pr).length-i) (0,[],[]) ⟨rfl,j0⟩ (.c1 .nil) ⟨j3 (⟨n7,vtT_start _⟩),d7,j0⟩ ?_;rintro⟨i,kv,NV⟩;dsimp only;refine bC d7 fun hinv4=>?_;refine g6 ?_;refine dJ (fun hc25=>?_) fun hc25=>?_
 ·refine g7 ?_;obtain⟨x4,hx5⟩:=gx (cJ P.pr) i;refine ss (ixs i) ?_;refine ss (fL hx5 0) ?_;refine g7 ?_;refine j5 func18 (bRp (((i:Nat):Int))) j0 fun⟨A6,c7⟩=>?_;refine g7 ?_;refine bU _ _ [(true,0),(true,1),(true,2),(true,3),(true,4),(true,5),(false,6),(false,7),(false,8)] bV o5 (.c1 (.c1 .nil)) bA.self ?_;refine g7 ?_;refine dA (m:=⟨A6,c7,(rC (((i:Nat):Int))).1⟩) rfl rfl rfl rfl rfl fun b8=>?_;refine bR (E:=bS) (xs:=[(⟨A6,c7,(rC (((i:Nat):Int))).1⟩:PolV)]) .head q7<|bE .head<|bB (cQ [(⟨A6,c7,(rC (((i:Nat):Int))).1⟩:PolV)]) (jH d8)<|bB (qM ((x4,(⟨⟨none,0,[]⟩,true,⟨(some ⟨b8,0,none⟩),1,[(⟨A6,c7,(rC (((i:Nat):Int))).1⟩:PolV)]⟩⟩:TyV))::NV)) (Has.each_cons (bZ cL (cH d8 d7 (Nat.le_refl 1))) e7) ?_;refine g2 ?_;refine j5 func44 (jD none (some ⟨b8,0,none⟩) (0) (1) 0 1) j0 fun _=>?_;refine g2 ?_;refine lN .head rfl (.inl rfl) rfl mapT underlying9 rfl rfl rfl ?_;refine g6 ?_;refine inc (i+1) ?_;refine g3 ?_;exact bk2 (i+1,_,(x4,(⟨⟨none,0,[]⟩,true,⟨(some ⟨b8,0,none⟩),1,[(⟨A6,c7,(rC (((i:Nat):Int))).1⟩:PolV)]⟩⟩:TyV))::NV) ⟨j3 (⟨by dsimp only;omega,vtT_step hinv4.2 hx5 rfl⟩),d7,j0⟩
 refine g15 ?_;refine cB (ι:=Nat×KVS×NamesTV) [(3,_),(4,_),(44,_),(45,_)] ⟨rfl,rfl,rfl,rfl,j0⟩ (fun⟨i,kv,NV⟩=>[(46,.int .i64 (i:Nat))]) (fun⟨i,kv,NV⟩=>[qS r2 kv]) (fun⟨i,kv,NV⟩=>[Fact.pure (i≤P.inputs.list.length∧ITAt P.pr i NV kv),qM NV]) (fun⟨i,kv,NV⟩=>P.inputs.list.length-i) (0,kv,NV) ⟨rfl,j0⟩ (.c0 .nil) ⟨j3 (⟨n7,itT_start hinv4.2 n7⟩),d8,j0⟩ ?_;rintro⟨i,kv,NV⟩;dsimp only;refine bC d7 fun hinv10=>?_;refine g6 ?_;refine dJ (fun hc47=>?_) fun hc47=>?_
 ·refine g6 ?_;obtain⟨x9,hx10⟩:=gx P.inputs.list i;refine ss (ixs i) ?_;refine ss (lS hx10 0) ?_;refine j6 lD fun b11=>?_;refine g10 ?_;have hx0:P.pr.inputs[i]?=some x9.inp:=sT hx10;have hxs:=hs x9 (j4 hx10);refine bB (sM x9) (Has.each f5 (j4 hx10)) ?_;have hxn:=(hfine.input x9.inp (vC (j4 hx10))).1;have hxs4:x9.sides.list.length≤4:=hs x9 (j4 hx10);have hxn:x9.name.length≤16:=hxn;refine g8 ?_;refine cK (t:=47) bS<|bB (cQ []) (Has.each_nil) ?_;refine cB (ι:=Nat×List PolV×Option Addr×Nat) [(3,_),(4,_),(10,_),(44,_),(45,_),(46,_),(51,_),(52,_)] ⟨rfl,rfl,rfl,rfl,rfl,rfl,rfl,rfl,j0⟩ (fun⟨j,vs,V2,cv2⟩=>[(11,.slice V2 vs.length cv2),(53,.int .i64 (j:Nat))]) (fun⟨j,vs,V2,cv2⟩=>[bS.row (.slice V2 vs.length cv2) 47 vs]) (fun⟨j,vs,V2,cv2⟩=>[Fact.pure (j≤x9.sides.list.length∧SdAt (cJ P.pr) x9.sides.list vs j),cQ vs]) (fun⟨j,vs,V2,cv2⟩=>x9.sides.list.length-j) (0,[],none,0) ⟨rfl,rfl,j0⟩ (.c0 .nil) ⟨j3 (⟨n7,bVf _ _⟩),d7,j0⟩ ?_;rintro⟨j,vs,V2,cv2⟩;dsimp only;refine bC d7 fun hinv14=>?_;have hvl2:=sdT_len hinv14.2 hinv14.1;refine g6 ?_;refine dJ (fun hc54=>?_) fun hc54=>?_
  ·refine g6 ?_;obtain⟨x12,hx13⟩:=gx x9.sides.list j;refine ss (ixs j) ?_;refine ss (lS hx13 0) ?_;refine j6 yN fun b14=>?_;refine g8 ?_;refine bD func17 (vJ _ _ _ n7 x12.name) rfl rfl .nil ⟨f5,j0⟩ fun _=>?_;refine g9 ?_;refine bQy (fun hc62=>?_) fun hc62=>?_
   ·refine g3 ?_;refine j5 func18 (bRp ((gF x12.name (cJ P.pr) 0))) j0 fun⟨A15,c16⟩=>?_;refine g10 ?_;refine dA (m:=⟨A15,c16,(rC ((gF x12.name (cJ P.pr) 0))).1⟩) rfl rfl rfl rfl rfl fun b17=>?_;refine bB (cQ (vs++[(⟨A15,c16,(rC ((gF x12.name (cJ P.pr) 0))).1⟩:PolV)])) (Has.each_snoc d9 d7) ?_;refine fM kT2 (bW .head rfl) rfl rfl rfl rfl rfl rfl rfl q8 fun A18 c19=>?_;refine g6 ?_;refine inc (j+1) ?_;refine g3 ?_;exact bk2 (j+1,vs++[(⟨A15,c16,(rC ((gF x12.name (cJ P.pr) 0))).1⟩:PolV)],A18,c19) ⟨j3 (⟨by dsimp only;omega,bIj hinv14.2 hx13 ((if_pos ‹_›).symm)⟩),d7,j0⟩
   refine g4 ?_;refine j5 func45 (jO (x12.n)) j0 fun⟨A20,c21⟩=>?_;refine dA (m:=⟨A20,c21,bT (x12.n)⟩) rfl rfl rfl rfl rfl fun b22=>?_;refine bB (cQ (vs++[(⟨A20,c21,bT (x12.n)⟩:PolV)])) (Has.each_snoc d9 d7) ?_;refine fM kT2 (bW .head rfl) rfl rfl rfl rfl rfl rfl rfl q8 fun A23 c24=>?_;refine g6 ?_;refine inc (j+1) ?_;refine g3 ?_;exact bk2 (j+1,vs++[(⟨A20,c21,bT (x12.n)⟩:PolV)],A23,c24) ⟨j3 (⟨by dsimp only;omega,bIj hinv14.2 hx13 ((if_neg (show ¬(0:Int)≤gF x12.name (cJ P.pr) 0 by omega)).symm)⟩),d7,j0⟩
  refine g5 ?_;refine bX .head fun hc_out=>bE .head<|bB (qM ((nIn++x9.name,(⟨⟨V2,cv2,vs⟩,false,⟨none,0,[]⟩⟩:TyV))::NV)) (Has.each_cons (bZ (cH d7 d9 hc_out) cL) e9) ?_;refine bU _ _ [(true,0),(true,1),(true,2),(true,3),(true,4),(true,5),(true,6),(true,7),(false,8),(false,9)] bV o5 (.c0 (.c1 (.c1 .nil))) bA.self ?_;refine g6 ?_;refine stM rfl (jF rfl rfl rfl q8) ?_;refine g2 ?_;refine j5 func46 (dE V2 (vs.length) cv2) j0 fun _=>?_;refine g2 ?_;refine lN kT1 rfl (.inl rfl) rfl mapT underlying9 rfl rfl rfl ?_;refine g6 ?_;refine inc (i+1) ?_;refine g3 ?_;exact bk2 (i+1,_,(nIn++x9.name,(⟨⟨V2,cv2,vs⟩,false,⟨none,0,[]⟩⟩:TyV))::NV) ⟨j3 (⟨by dsimp only;omega,itT_step hinv10.2 hx0 (sdT_end hinv14.2 n7)⟩),d7,j0⟩
 refine g12 ?_;exact rs1 (b3,r2,kv,NV) ⟨d8,j3 ⟨hinv10.2.1,itT_end hinv10.2 (by rw [hpl];omega)⟩,j0⟩
theorem mN(n:Int):cU (bT n)=true:=bBi n
theorem zipT_len{op:pF}: ∀{X Y l:List Pol},yU op X Y=some l→l.length=X.length
 | [],_,l,h=>by cases h;rfl
 | _::_,[],_,h=>by cases h
 | p::x,q::y,l,h=>by
  unfold yU at h;split at h
  ·cases h
  ·cases e:yU op x y with
   | none=>rw [e] at h;cases h
   | some k=>
    rw [e] at h;cases h;simp [zipT_len e]
theorem zipT_all{op:pF}{g:Pol→Prop}(ho: ∀p q,g (op p q).1): ∀{X Y l:List Pol},yU op X Y=some l→ ∀v∈l,g v
 | [],_,l,h=>by cases h;intro v hv;cases hv
 | _::_,[],_,h=>by cases h
 | p::x,q::y,l,h=>by
  unfold yU at h;split at h
  ·cases h
  ·cases e:yU op x y with
   | none=>rw [e] at h;cases h
   | some k=>
    rw [e] at h;cases h;intro v hv
    rcases List.mem_cons.1 hv with rfl | hv
    ·exact ho p q
    ·exact zipT_all ho e v hv
def bGi (op:pF):Prop:= ∀p q,cU (op p q).1=true
theorem addR:bGi addO:=fun p q=>rM p q 1
theorem subR:bGi bBv:=fun p q=>rM p q (-1)
theorem mulR:bGi nJ:=fun p q=>bJk p q
theorem opR{f:Int}{op:pF}(h:xF f=some op):bGi op:=by
 unfold xF at h;split at h
 ·cases h;exact addR
 ·split at h
  ·cases h;exact subR
  ·split at h
   ·cases h;exact mulR
   ·cases h
theorem repT_len(x:List Pol)(n:Nat)(h:x.length=1):(repT x n).length=n:=by
 unfold repT;rw [List.length_flatten];simp [h]
theorem leftT_len{a b:TyP}(ha:WfT a)(h1:a.known=true):(xI a b).length=if a.sides=[]∧b.sides≠[] then b.values.length else a.values.length:=by
 unfold xI;split
 ·rename_i h;exact repT_len _ _ (bCi ha h1 h.1)
 ·rfl
theorem eachT_wf{op:Option pF}{a b:TyP}(ho: ∀o,op=some o→bGi o)(ha:WfT a):
  (∀v∈(lR op a b).1,cU v=true)∧((lR op a b).2=true→a.known=true∧b.known=true∧(lR op a b).1.length=if a.sides=[]∧b.sides≠[] then b.values.length else a.values.length)∧((lR op a b).2=false→(lR op a b).1=[]):=by
 cases op with
 | none=>exact⟨fun v h=>(by cases h),fun h=>(by cases h),fun _=>rfl⟩
 | some o=>
  by_cases hk:a.known=false∨b.known=false
  ·rw [bJg hk];exact⟨fun v h=>(by cases h),fun h=>(by cases h),fun _=>rfl⟩
  ·have h1:a.known=true:=by cases h:a.known;exact absurd (.inl h) hk;rfl
   have h2:b.known=true:=by cases h:b.known;exact absurd (.inr h) hk;rfl
   cases e:yU o (xI a b) (uF a b) with
   | none=>
    rw [uK e h1 h2];exact⟨fun v h=>(by cases h),fun h=>(by cases h),fun _=>rfl⟩
   | some l=>
    rw [uS e h1 h2];exact⟨zipT_all (g:=fun v=>cU v=true) (ho o rfl) e,fun _=>⟨h1,h2,by rw [zipT_len e,leftT_len ha h1]⟩,fun h=>(by cases h)⟩
theorem nS{S:List Pol}(h:S.length≤4)(k: ∀s∈S,cU s=true):WfT ⟨S,false,[]⟩:=⟨h,k,fun _ h=>(by cases h),fun h=>(by cases h),fun _=>rfl⟩
theorem literal_wf{nums:List Int}(h:nums≠[]):WfT (jC nums):=by
 have hs:(if 1<nums.length then [bT nums.length] else ([]:List Pol)).length≤4∧ ∀s∈(if 1<nums.length then [bT nums.length] else ([]:List Pol)),cU s=true:=by
  split
  ·exact⟨o6,fun s hs=>by rw [List.mem_singleton.1 hs];exact mN _⟩
  ·exact⟨o6,fun s hs=>(by cases hs)⟩
 unfold jC;split
 ·exact nS hs.1 hs.2
 ·rename_i hn;rw [not_or] at hn;refine⟨hs.1,hs.2,fun v hv=>?_,fun _=>⟨by simp;omega,?_⟩,fun h=>(by cases h)⟩
  ·obtain⟨n,_,rfl⟩:=List.mem_map.1 hv;exact mN n
  ·show(if _ then _ else _)=_∧_∨(if _ then _ else _)=_;rw [List.length_map];split
   ·exact .inr rfl
   ·refine .inl ⟨rfl,?_⟩
    cases nums with
    | nil=>exact absurd rfl h
    | cons a l=>simp at*;omega
theorem mul1: ∀k:Fin 5,nJ (bT 1) (bT (k.1:Nat))=(bT (k.1:Nat),0):=by decide+kernel
theorem add_num: ∀j k:Fin 5,(bY (bT (j.1:Nat)) (bT (k.1:Nat)) 1).1=bT ((j.1+k.1:Nat):Int):=by decide+kernel
theorem sub_num: ∀j k:Fin 5,k.1≤j.1→(bY (bT (j.1:Nat)) (bT (k.1:Nat)) (-1)).1=bT ((j.1-k.1:Nat):Int):=by decide+kernel
theorem bBr: ∀{S:List Pol} {p q:Pol},cU p=true→lK p S=some q→cU q=true
 | [],p,q,hp,h=>by cases h;exact hp
 | s::r,p,q,hp,h=>by
  unfold lK at h;split at h
  ·cases h
  ·exact bBr (bJk p s) h
theorem wf_head{a:TyP}(h:WfT a)(k:a.known=true)(hs:a.sides=[]):cU (a.values.headD [])=true:=by
 have:=bCi h k hs
 match hv:a.values,this with
 | [v],_=>exact h.vr v (by rw [hv];exact List.mem_singleton.2 rfl)
theorem negW:WfT ⟨[],true,[[]]⟩:=⟨o6,fun _ h=>(by cases h),fun v h=>by rw [List.mem_singleton.1 h];rfl,fun _=>⟨o6,.inl ⟨rfl,rfl⟩⟩,fun h=>(by cases h)⟩
theorem monad_wf{f:Int}{a:TyP}(ha:WfT a):WfT (fA f a).1:=by
 unfold fA;split
 ·split
  ·exact ha
  ·rename_i hs;split
   ·exact ha
   ·rename_i hk;split
    ·exact ha
    ·exact nS o6 (fun s h=>by rw [List.mem_singleton.1 h];exact wf_head ha (by simpa using hk) (by simpa using hs))
 ·split
  ·refine⟨o6,fun s h=>?_,ha.sr,fun _=>⟨ha.len,.inr rfl⟩,fun h=>(by cases h)⟩;rw [List.mem_singleton.1 h];exact mN _
  ·split
   ·split
    ·exact ha
    ·rename_i p hp;refine⟨o6,fun s h=>?_,ha.vr,fun k=>⟨(ha.kn k).1,.inr ?_⟩,ha.un⟩
     ·rw [List.mem_singleton.1 h];exact bBr (mN 1) hp
     ·have hl:=(ha.kn k).1
      rcases (ha.kn k).2 with h | h
      ·rw [h.1] at hp;cases hp;show [bT 1]=[bT _];rw [h.2];rfl
      ·rw [h] at hp;have hm:=mul1 ⟨a.values.length,n7⟩;unfold lK at hp;dsimp only at hm;rw [hm] at hp;cases hp;rfl
   ·split
    ·dsimp only;split
     ·refine⟨ha.len,ha.sr,fun v h=>ha.vr v (List.mem_reverse.1 h),fun k=>?_,fun k=>by show a.values.reverse=[];rw [ha.un k];rfl⟩;show a.values.reverse.length≤4∧(a.sides=[]∧a.values.reverse.length=1∨a.sides=[bT a.values.reverse.length]);rw [List.length_reverse];exact ha.kn k
     ·exact ha
    ·split
     ·refine⟨by show a.sides.reverse.length≤4;rw [List.length_reverse];exact ha.len,fun s h=>ha.sr s (List.mem_reverse.1 h),ha.vr,fun k=>⟨(ha.kn k).1,?_⟩,ha.un⟩
      rcases (ha.kn k).2 with h | h
      ·exact .inl ⟨by show a.sides.reverse=[];rw [h.1];rfl,h.2⟩
      ·exact .inr (by show a.sides.reverse=_;rw [h];rfl)
     ·split
      ·exact ha
      ·split
       ·obtain⟨e1,e2,e3⟩:=eachT_wf (op:=some bBv) (b:=a) (fun o h=>by cases h;exact subR) negW;refine⟨ha.len,ha.sr,e1,fun k=>?_,e3⟩;obtain⟨_,k2,k3⟩:=e2 k;show(lR (some bBv) ⟨[],true,[[]]⟩ a).1.length≤4∧(a.sides=[]∧(lR (some bBv) ⟨[],true,[[]]⟩ a).1.length=1∨a.sides=[bT (lR (some bBv) ⟨[],true,[[]]⟩ a).1.length]);rw [k3];split
        ·exact⟨sD ha,(ha.kn k2).2⟩
        ·rename_i hs;refine⟨o6,.inl ⟨?_,rfl⟩⟩
         simpa using hs
       ·exact nS ha.len ha.sr
theorem rho_wf{a b:TyP}(ha:WfT a):WfT (bBj a b).1:=by
 unfold bBj;split
 ·exact ha
 ·split
  ·exact ha
  ·split
   ·exact ha
   ·split
    ·exact ha
    ·exact nS (sD ha) ha.vr
theorem cut_all{tk:Bool}{n:Int}{l:List Pol}{g:Pol→Prop}(h: ∀v∈l,g v): ∀v∈yX tk n l,g v:=by
 unfold yX;split
 ·exact fun v hv=>h v (List.mem_of_mem_take hv)
 ·exact fun v hv=>h v (List.mem_of_mem_drop hv)
theorem cut_len{tk:Bool}{n:Int}{l:List Pol}(h:max n (-n)≤l.length):(yX tk n l).length=if tk=true then (max n (-n)).toNat else l.length-(max n (-n)).toNat:=by
 unfold yX;cases tk
 ·rw [if_neg (show ¬(false=true) by decide)]
  by_cases hn:(0:Int)≤n
  ·rw [decide_eq_true hn,if_neg o9,List.length_drop,if_neg n7];omega
  ·rw [decide_eq_false hn,if_pos rfl,List.length_take,if_pos n7];omega
 ·rw [if_pos (show true=true from rfl)]
  by_cases hn:(0:Int)≤n
  ·rw [decide_eq_true hn,if_pos rfl,List.length_take,if_neg n7];omega
  ·rw [decide_eq_false hn,if_neg o9,List.length_drop,if_pos n7];omega
theorem xG{S:List Pol}{s:Pol}(h:s∈S.tail):s∈S:=List.mem_of_mem_tail h
theorem part_wf{tk:Bool}{a b:TyP}(ha:WfT a)(hb:WfT b):WfT (kO tk a b).1:=by
 unfold kO;split
 ·exact ha
 ·rename_i hs;rw [not_or] at hs;split
  ·exact ha
  ·split
   ·exact ha
   ·rename_i n hn;split
    ·exact ha
    ·rename_i hc;have hc:gA (b.sides.headD []) (max n (-n))=true:=by simpa using hc
     have hlen: ∀p:Pol,(p::b.sides.tail).length≤4:=fun p=>by
      have:=hb.len;have h0:b.sides≠[]:=hs.2
      cases e:b.sides with
      | nil=>exact absurd e h0
      | cons s l=>rw [e] at this;exact this
     have hm:b.known=true→b.sides=[bT b.values.length]∧max n (-n)≤b.values.length∧b.values.length≤4:=fun k=>by
      rcases (hb.kn k).2 with h | h
      ·exact absurd h.1 hs.2
      ·rw [h] at hc;exact⟨h,bNy hc,(hb.kn k).1⟩
     have hun:b.known=false→(if b.known=true then yX tk n b.values else b.values)=[]:=fun k=>by rw [k];exact hb.un k
     have hvr: ∀v∈(if b.known=true then yX tk n b.values else b.values),cU v=true:=by
      split
      ·exact cut_all hb.vr
      ·exact hb.vr
     split
     ·rename_i ht;subst ht;refine⟨hlen _,fun s h=>?_,hvr,fun k=>?_,hun⟩
      ·rcases List.mem_cons.1 h with rfl | h
       ·exact mN _
       ·exact hb.sr s (xG h)
      ·have k:b.known=true:=k;obtain⟨h1,h2,h3⟩:=hm k;show(if b.known=true then yX true n b.values else b.values).length≤4∧(_∨bT (max n (-n))::b.sides.tail=[bT (if b.known=true then yX true n b.values else b.values).length]);rw [if_pos k,cut_len h2,if_pos rfl,h1];refine⟨n7,.inr ?_⟩;rw [show(((max n (-n)).toNat:Nat):Int)=max n (-n) by omega];rfl
     ·rename_i ht;have ht:tk=false:=by simpa using ht
      subst ht;split
      ·exact ha
      ·refine⟨hlen _,fun s h=>?_,hvr,fun k=>?_,hun⟩
       ·rcases List.mem_cons.1 h with rfl | h
        ·exact rM _ _ _
        ·exact hb.sr s (xG h)
       ·have k:b.known=true:=k;obtain⟨h1,h2,h3⟩:=hm k;show(if b.known=true then yX false n b.values else b.values).length≤4∧(_∨(bY (b.sides.headD []) (bT (max n (-n))) (-1)).1::b.sides.tail=[bT (if b.known=true then yX false n b.values else b.values).length]);rw [if_pos k,cut_len h2,if_neg o9,h1];refine⟨n7,.inr ?_⟩;have hx:=sub_num ⟨b.values.length,n7⟩ ⟨(max n (-n)).toNat,n7⟩ (by show(max n (-n)).toNat≤b.values.length;omega);dsimp only at hx;rw [show(((max n (-n)).toNat:Nat):Int)=max n (-n) by omega] at hx;show(bY (bT b.values.length) _ _).1::[]=_;rw [hx]
theorem oneT_num{a:TyP}(ha:WfT a)(k:a.known=true):cX a.sides=[bT a.values.length]:=by
 unfold cX
 rcases (ha.kn k).2 with h | h
 ·rw [if_pos h.1,h.2];rfl
 ·rw [h,if_neg o6]
theorem oneT_right{a:TyP}(ha:WfT a): ∀s∈cX a.sides,cU s=true:=by
 unfold cX;split
 ·exact fun s h=>by rw [List.mem_singleton.1 h];exact mN _
 ·exact ha.sr
theorem oneT_len{a:TyP}(ha:WfT a)(p:Pol):(p::(cX a.sides).tail).length≤4:=by
 unfold cX;split
 ·simp
 ·rename_i h0;have:=ha.len
  cases e:a.sides with
  | nil=>exact absurd e h0
  | cons s l=>rw [e] at this;exact this
theorem cat_wf{a b:TyP}(ha:WfT a)(hb:WfT b):WfT (bAs a b).1:=by
 unfold bAs;split
 ·exact ha
 ·split
  ·exact ha
  ·have hsr: ∀s∈(bY ((cX a.sides).headD []) ((cX b.sides).headD []) 1).1::(cX b.sides).tail,cU s=true:=fun s h=>by
    rcases List.mem_cons.1 h with rfl | h
    ·exact rM _ _ _
    ·exact oneT_right hb s (xG h)
   split
   ·rename_i hk;refine⟨oneT_len hb _,hsr,fun v h=>?_,fun _=>⟨?_,.inr ?_⟩,fun h=>(by cases h)⟩
    ·rcases List.mem_append.1 h with h | h
     ·exact ha.vr v h
     ·exact hb.vr v h
    ·show(a.values++b.values).length≤4;rw [List.length_append];exact hk.2.2
    ·show(bY ((cX a.sides).headD []) ((cX b.sides).headD []) 1).1::(cX b.sides).tail=[bT (a.values++b.values).length];rw [oneT_num ha hk.1,oneT_num hb hk.2.1,List.length_append];have hx:=add_num ⟨a.values.length,n7⟩ ⟨b.values.length,n7⟩;dsimp only at hx;show(bY (bT a.values.length) (bT b.values.length) 1).1::[]=_;rw [hx]
   ·exact nS (oneT_len hb _) hsr
theorem dyad_wf{f:Int}{a b:TyP}(ha:WfT a)(hb:WfT b):WfT (kI f a b).1:=by
 unfold kI;split
 ·exact rho_wf ha
 ·split
  ·exact part_wf ha hb
  ·split
   ·exact part_wf ha hb
   ·split
    ·exact cat_wf ha hb
    ·split
     ·exact nS ha.len ha.sr
     ·obtain⟨e1,e2,e3⟩:=eachT_wf (op:=xF f) (b:=b) (fun o h=>opR h) ha
      by_cases hs:a.sides=[]
      ·rw [if_pos hs];refine⟨hb.len,hb.sr,e1,fun k=>?_,e3⟩;obtain⟨k1,k2,k3⟩:=e2 k;show(lR (xF f) a b).1.length≤4∧(b.sides=[]∧(lR (xF f) a b).1.length=1∨b.sides=[bT (lR (xF f) a b).1.length]);rw [k3];split
       ·exact⟨sD hb,(hb.kn k2).2⟩
       ·rename_i h
        have hbs:b.sides=[]:=by
         by_cases e:b.sides=[]
         ·exact e
         ·exact absurd ⟨hs,e⟩ h
        exact⟨sD ha,.inl ⟨hbs,bCi ha k1 hs⟩⟩
      ·rw [if_neg hs];refine⟨ha.len,ha.sr,e1,fun k=>?_,e3⟩;obtain⟨k1,k2,k3⟩:=e2 k;show(lR (xF f) a b).1.length≤4∧(a.sides=[]∧(lR (xF f) a b).1.length=1∨a.sides=[bT (lR (xF f) a b).1.length]);rw [k3,if_neg (fun h=>hs h.1)];exact⟨sD ha,(ha.kn k1).2⟩
theorem bKc{k:Bs}{t:TyP}: ∀{N:dT},nA k N=some t→ ∃p∈N,p.2=t
 | [],h=>by cases h
 | p::r,h=>by
  rw [nA] at h;split at h
  ·injection h with h
   exact⟨p,List.mem_cons_self ..,h⟩
  ·obtain⟨q,hq,e⟩:=bKc h;exact⟨q,List.mem_cons_of_mem _ hq,e⟩
def nC (N:dT):Prop:= ∀q∈N,WfT q.2
theorem look_wf{N:dT}(h:nC N){k:Bs}{t:TyP}(e:nA k N=some t):WfT t:=by
 obtain⟨p,hp,rfl⟩:=bKc e;exact h p hp
theorem name_wf{N:dT}(h:nC N){s:Bs}{t:TyP}(e:nameT N s=some t):WfT t:=by
 unfold nameT at e;split at e
 ·rename_i h1;cases e;exact look_wf h h1
 ·split at e
  ·rename_i h1;cases e;exact look_wf h h1
  ·exact look_wf h e
theorem none_wf:WfT ⟨[],false,[]⟩:=nS o6 (fun s h=>(by cases h))
theorem headW{st:List TyP}(h: ∀t∈st,WfT t)(k:1≤st.length):WfT (st.headD default):=by
 match st,k with
 | a::l,_=>exact h a (List.mem_cons_self ..)
theorem secondW{st:List TyP}(h: ∀t∈st,WfT t)(k:2≤st.length):WfT (st.tail.headD default):=by
 match st,k with
 | a::b::l,_=>exact h b (List.mem_cons_of_mem _ (List.mem_cons_self ..))
theorem item_wf{N:dT}(hN:nC N){it:cT}{st:List TyP}(hs: ∀t∈st,WfT t)(hd:dG it≤st.length)(hnum:it.how=1→it.nums≠[])(h17:1≤it.how∧it.how≤7)(h0:(dB N it st).2=0):WfT (dB N it st).1:=by
 have h1:it.how=3∨it.how=5∨it.how=6→1≤st.length:=fun h=>by rw [oF h] at hd;exact hd
 have h2:it.how=4∨it.how=7→2≤st.length:=fun h=>by rw [qB h] at hd;exact hd
 unfold dB at h0⊢;split
 ·exact literal_wf (hnum ‹_›)
 ·split
  ·split
   ·rename_i e;exact name_wf hN e
   ·exact none_wf
  ·split
   ·exact monad_wf (headW hs (h1 n7))
   ·split
    ·have hw:=headW hs (h1 n7);dsimp only;split
     ·exact hw
     ·exact nS (by rw [List.length_take];have:=hw.len;omega) (fun s h=>hw.sr s (List.mem_of_mem_take h))
    ·split
     ·have hw:=headW hs (h1 n7);dsimp only;split
      ·exact hw
      ·exact nS hw.len hw.sr
     ·split
      ·exact dyad_wf (secondW hs (h2 n7)) (headW hs (h2 n7 |>Nat.le_of_succ_le))
      ·rename_i n1 n2 n3 n5 n6 n4;rw [if_neg n1,if_neg n2,if_neg n3,if_neg n5,if_neg n6,if_neg n4] at h0;have hx:=secondW hs (h2 n7);have hu:=headW hs (h2 n7 |>Nat.le_of_succ_le);refine nS ?_ (fun s h=>?_)
       ·rw [List.length_append];dsimp only at h0;split at h0
        ·cases h0
        ·omega
       ·rcases List.mem_append.1 h with h | h
        ·exact hx.sr s h
        ·exact hu.sr s h
theorem varT_wf(k:Nat):WfT (varT k):=⟨by simp [varT],fun s h=>(by cases h),fun v h=>by rw [List.mem_singleton.1 h];exact bCt _,fun _=>⟨by simp [varT],.inl ⟨rfl,rfl⟩⟩,fun h=>(by cases h)⟩
theorem varsT_wf: ∀{vars:List Bs} {k:Nat} {N:dT},nC N→nC (vR vars k N)
 | [],_,_,h=>h
 | s::r,k,N,h=>by
  show nC (vR r (k+1) ((s,varT k)::N));refine varsT_wf (fun q hq=>?_)
  rcases List.mem_cons.1 hq with rfl | hq
  ·exact varT_wf k
  ·exact h q hq
theorem bMz{vars:List Bs}: ∀{l:List gM} {N:dT},(∀x∈l,x.sides.length≤4)→nC N→nC (bOi vars l N)
 | [],_,_,h=>h
 | x::r,N,hl,h=>by
  show nC (bOi vars r ((nIn++x.name,inT vars x)::N));refine bMz (fun y hy=>hl y (List.mem_cons_of_mem _ hy)) (fun q hq=>?_)
  rcases List.mem_cons.1 hq with rfl | hq
  ·refine nS ?_ (fun s hs=>?_)
   ·rw [List.length_map];exact hl x (List.mem_cons_self ..)
   ·obtain⟨d,_,rfl⟩:=List.mem_map.1 hs;unfold bPo;split
    ·exact bCt _
    ·exact mN _
  ·exact h q hq
theorem bSi{p:gN}(h:(cV p).2=true):nC (pM p):=
 bMz (fun x hx=>((vB h).input x hx).2.1) (varsT_wf (fun q hq=>(by cases hq)))
def rE (k:Bs):Prop:= ∀r,k≠jL++r∧k≠nIn++r
def zG (N:iI)(NT:dT):Prop:= ∀k,rE k→(∀v,uV k N=some v→nameT NT k=some v.t)∧(uV k N=none→ ∀t,nameT NT k=some t→ ∃p,t=⟨[],true,[p]⟩)
abbrev gI (st:List iA):List TyP:=st.map iA.t
theorem put_ok{t:TyP}{n:Nat}{st:List iA}{s:LoS}{x:List iA×LoS}(h:yV t n st s= .ok x):x.1=⟨t,(s.bufs.length:Nat)⟩::st.drop n∧x.2=⟨s.bufs++[⟨t.sides,-1⟩],s.steps⟩∧s.bufs.length+1≤1024∧s.steps.length≤1024:=by
 unfold yV at h;split at h
 ·cases h
 ·cases h;exact⟨rfl,rfl,n7,n7⟩
theorem headD_t{st:List iA}(h:1≤st.length):(gI st).headD default=(st.headD default).t:=by
 cases st with
 | nil=>simp at h
 | cons a l=>rfl
theorem bVy{N:iI}{NT:dT}{it:cT}{st:List iA}{s:LoS}{x:List iA×LoS}(hN:zG N NT)(hk:it.how=2→rE it.name)(hd:dG it≤st.length)(h17:1≤it.how∧it.how≤7)
  (_he:(dB NT it (gI st)).2=0) (h:iJ N it (dB NT it (gI st)).1 st s= .ok x):gI x.1=(dB NT it (gI st)).1::(gI st).drop (dG it):=by
 have fin: ∀{t n s},yV t n st s= .ok x→n=dG it→gI x.1=t::(gI st).drop (dG it):=fun{t n s} h e=>by
  rw [(put_ok h).1,e];simp [gI]
 generalize hq:dB NT it (gI st)=q at h⊢;have h1:it.how=1∨it.how=2∨it.how=3∨it.how=4∨it.how=5∨it.how=6∨it.how=7:=n7
 unfold iJ at h
 rcases h1 with e | e | e | e | e | e | e
 ·rw [if_pos e] at h;exact fin h ah0
 ·rw [if_neg n7,if_pos e] at h
  cases ev:uV it.name N with
  | none=>rw [ev] at h;exact fin h ah0
  | some v=>
   rw [ev] at h;cases h;have:=(hN it.name (hk e)).1 v ev
   have e2:q.1=v.t:=by
    rw [←hq];unfold dB;rw [if_neg n7,if_pos e,this]
   rw [e2];simp [dG,e]
 ·rw [if_neg n7,if_neg n7,if_pos e] at h;exact fin h ah0
 ·rw [if_neg n7,if_neg n7,if_neg n7,if_neg n7,if_pos e] at h
  cases ev:mX it.fn (st.tail.headD default) (st.headD default) q.1 s with
  | none=>rw [ev] at h;cases h
  | some s'=>rw [ev] at h;exact fin h ah0
 ·rw [if_neg n7,if_neg n7,if_neg n7,if_pos (.inl e)] at h;have h1:1≤st.length:=by simpa [dG,e] using hd
  split at h
  ·rename_i hs;cases h
   have e2:q.1=(st.headD default).t:=by
    rw [←hq];unfold dB;rw [if_neg n7,if_neg n7,if_neg n7,if_pos e,headD_t h1,if_pos hs]
   match st,h1 with
   | a::r,_=>rw [e2];simp [dG,e]
  ·exact fin h ah0
 ·rw [if_neg n7,if_neg n7,if_neg n7,if_pos (.inr e)] at h;have h1:1≤st.length:=by simpa [dG,e] using hd
  split at h
  ·rename_i hs;cases h
   have e2:q.1=(st.headD default).t:=by
    rw [←hq];unfold dB;rw [if_neg n7,if_neg n7,if_neg n7,if_neg n7,if_pos e,headD_t h1,if_pos hs]
   match st,h1 with
   | a::r,_=>rw [e2];simp [dG,e]
  ·exact fin h ah0
 ·rw [if_neg n7,if_neg n7,if_neg n7,if_neg n7,if_neg n7] at h;exact fin h ah0
theorem bKi{NT:dT}: ∀{l:List cT} {st done:List TyP} {r:List TyP×List TyP},mE NT l st done= .ok r→ ∃x,r.2=done++x∧x.length=l.length
 | [],_,_,_,h=>by cases h;exact⟨[],o6,rfl⟩
 | it::l,st,done,r,h=>by
  rw [mE] at h;split at h
  ·cases h
  ·obtain⟨x,e,hx⟩:=bKi h;exact⟨_::x,by rw [e,List.append_assoc];rfl,by simp [hx]⟩
theorem lineT_at{NT:dT}{it:cT}{l:List cT}{st done:List TyP}{r:List TyP×List TyP}(h:mE NT (it::l) st done= .ok r):
  (dB NT it st).2=0∧r.2.drop done.length=(dB NT it st).1::r.2.drop (done.length+1)∧mE NT l ((dB NT it st).1::st.drop (dG it)) (done++[(dB NT it st).1])= .ok r:=by
 rw [mE] at h;split at h
 ·cases h
 ·rename_i he;refine⟨by simpa using he,?_,h⟩;obtain⟨x,e,_⟩:=bKi h;rw [e,List.append_assoc,List.drop_left,List.singleton_append]
  congr 1
  rw [show done++((dB NT it st).1::x)=(done++[(dB NT it st).1])++x by simp];have:done.length+1=(done++[(dB NT it st).1]).length:=by simp
  rw [this,List.drop_left]
theorem depth_at{x:cT}{l:List cT}{n:Nat}(h:lL (x::l) n=some 1):(dG x≤n∧1≤x.how∧x.how≤7∧(x.how=1→x.nums≠[]∧x.nums.length≤65536))∧lL l (n-dG x+1)=some 1:=by
 rw [lL] at h;split at h
 ·rename_i hb;exact⟨hb,h⟩
 ·cases h
theorem bSv{a b:Bs}:jL++a≠nIn++b:=fun h=>by simp [jL,nIn] at h
theorem sync_add{N:iI}{NT:dT}(h:zG N NT)(s:Bs)(v:iA):zG ((s,v)::N) ((jL++s,v.t)::NT):=fun k hk=>by
 have e1:nameT ((jL++s,v.t)::NT) k=if k=s then some v.t else nameT NT k:=by
  unfold nameT;rw [nA,nA,nA]
  by_cases e:k=s
  ·subst e;simp
  ·rw [if_neg (show ¬jL++k=jL++s from fun h=>e (List.append_cancel_left h)),if_neg (show ¬nIn++k=jL++s from fun h=>bSv h.symm),if_neg (hk s).1,if_neg e]
 rw [e1,uV]
 by_cases e:k=s
 ·rw [if_pos e,if_pos e];exact⟨fun w hw=>(by cases hw;rfl),fun hw=>(by cases hw)⟩
 ·rw [if_neg e,if_neg e];exact h k hk
theorem bCn: ∀{l:List Bs} {k:Nat} {N:dT} {q:Bs},(∀s∈l,rE s)→(∃r,q=jL++r∨q=nIn++r)→nA q (vR l k N)=nA q N
 | [],_,_,_,_,_=>rfl
 | s::l,k,N,q,h,hq=>by
  rw [vR,bCn (fun x hx=>h x (List.mem_cons_of_mem _ hx)) hq,nA,if_neg];rintro rfl;obtain⟨r,e | e⟩:=hq
  ·exact(h q (List.mem_cons_self ..) r).1 e
  ·exact(h q (List.mem_cons_self ..) r).2 e
theorem bXm: ∀{l:List Bs} {k:Nat} {N:dT} {q:Bs} {t:TyP},(∀t,nA q N=some t→ ∃p,t=⟨[],true,[p]⟩)→nA q (vR l k N)=some t→ ∃p,t=⟨[],true,[p]⟩
 | [],_,_,_,_,hN,h=>hN _ h
 | s::l,k,N,q,t,hN,h=>by
  rw [vR] at h;refine bXm (fun u hu=>?_) h;rw [nA] at hu;split at hu
  ·cases hu;exact⟨_,rfl⟩
  ·exact hN u hu
theorem ins_sync{vars:List Bs}: ∀{l:List gM} {i:Nat} {N:iI} {NT:dT},zG N NT→(∀r,nA (jL++r) NT=none)→zG (zT vars i l N) (bOi vars l NT)∧ ∀r,nA (jL++r) (bOi vars l NT)=none
 | [],_,_,_,h,k=>⟨h,k⟩
 | x::l,i,N,NT,h,k=>by
  rw [zT,bOi];refine ins_sync (fun q hq=>?_) (fun r=>by rw [nA,if_neg bSv];exact k r)
  have e1:nameT ((nIn++x.name,inT vars x)::NT) q=if q=x.name then some (inT vars x) else nameT NT q:=by
   unfold nameT;rw [nA,nA,nA,if_neg bSv,k q]
   by_cases e:q=x.name
   ·subst e;simp
   ·rw [if_neg (show ¬nIn++q=nIn++x.name from fun h=>e (List.append_cancel_left h)),if_neg (hq x.name).2,if_neg e]
  rw [e1,uV]
  by_cases e:q=x.name
  ·rw [if_pos e,if_pos e];exact⟨fun w hw=>(by cases hw;rfl),fun hw=>(by cases hw)⟩
  ·rw [if_neg e,if_neg e];exact h q hq
theorem bOw{p:gN}(hv: ∀s∈cJ p,rE s):zG (zT (cJ p) 0 p.inputs []) (pM p):=by
 refine(ins_sync (fun k hk=>⟨fun v hv=>(by cases hv),fun _ t ht=>?_⟩) (fun r=>by rw [bCn hv ⟨r,.inl rfl⟩];rfl)).1;unfold nameT at ht;rw [bCn hv ⟨k,.inl rfl⟩,bCn hv ⟨k,.inr rfl⟩] at ht;exact bXm (fun t h=>by cases h) ht
theorem word_plain{s:Bs}(h:WordB s):rE s:=fun r=>by
 have hb:oQ 32=false:=o9
 constructor
 all_goals
  intro e;have:=h.all 32 (by rw [e];simp [jL,nIn]);rw [hb] at this;cases this
theorem bSf{s:Bs}(h:dD s=true):rE s:=word_plain (tS h)
theorem step_name{st st':List fC}{x:cT}(h:iF st x=some st')(k:x.how=2):dD x.name=true:=by
 unfold iF at h;rw [if_pos (.inr k)] at h;unfold operandS at h;split at h
 ·split at h
  ·rename_i hb;exact hb.2.2
  ·simp at h
 ·rename_i h2;exact absurd k h2
theorem bRv: ∀{l:List cT} {st st':List fC},fT l st=some st'→ ∀x∈l,x.how=2→dD x.name=true
 | [],_,_,_,x,hx=>by simp at hx
 | y::l,st,st',h,x,hx=>by
  rw [fT] at h
  cases h1:iF st y with
  | none=>rw [h1] at h;cases h
  | some s1=>
   rw [h1] at h
   rcases List.mem_cons.1 hx with rfl | hx
   ·exact step_name h1
   ·exact bRv h x hx
theorem bVw{l:List cT}{m:Nat}{t:Bs}(h:gH l m=some t): ∀x∈l,x.how=2→dD x.name=true:=by
 unfold gH at h;split at h
 ·cases h
 ·split at h
  ·rename_i hq;exact bRv hq
  ·cases h
theorem bRm: ∀{ls:List mT} {o o':Bs},fB ls o=(o',true)→ ∀l∈ls,∀x∈l.items,x.how=2→dD x.name=true
 | [],_,_,_,l,hl=>by simp at hl
 | [m],o,o',h,l,hl=>by
  rw [List.mem_singleton.1 hl];simp only [fB] at h
  cases hx:gH m.items 255 with
  | none=>rw [hx] at h;simp at h
  | some t=>exact bVw hx
 | m::n::ls,o,o',h,l,hl=>by
  have h':(match gH m.items 254 with
    | none=>(o,false)
    | some t=>if dD m.name=false then (o,false) else fB (n::ls) (o++(((m.name++[58,32])++t)++[10])))=(o',true):=h
  cases hx:gH m.items 254 with
  | none=>rw [hx] at h';simp at h'
  | some t=>
   rw [hx] at h';simp only at h';split at h'
   ·simp at h'
   ·rcases List.mem_cons.1 hl with rfl | hl
    ·exact bVw hx
    ·exact bRm h' l hl
theorem zY: ∀{ds:List pN} {acc t:Bs},lW ds acc=some t→ ∀d∈ds,d.name=[]∨dD d.name=true
 | [],_,_,_,d,hd=>by simp at hd
 | e::ds,acc,t,h,d,hd=>by
  rw [lW] at h;split at h
  ·rename_i he
   rcases List.mem_cons.1 hd with rfl | hd
   ·exact .inl he
   ·exact zY h d hd
  ·split at h
   ·rename_i hb
    rcases List.mem_cons.1 hd with rfl | hd
    ·exact .inr hb.2
    ·exact zY h d hd
   ·cases h
theorem bHi: ∀{xs:List gM} {o o':Bs},mU xs o=(o',true)→ ∀x∈xs,∀d∈x.sides,d.name=[]∨dD d.name=true
 | [],_,_,_,x,hx=>by simp at hx
 | y::xs,o,o',h,x,hx=>by
  rw [mU] at h
  cases hi:qD y with
  | none=>rw [hi] at h;simp at h
  | some t=>
   rw [hi] at h;simp only at h
   rcases List.mem_cons.1 hx with rfl | hx
   ·unfold qD at hi;split at hi
    ·cases hi
    ·exact zY hi
   ·exact bHi h x hx
theorem bSo: ∀{ds:List pN} {out:List Bs},(∀s∈out,dD s=true)→(∀d∈ds,d.name=[]∨dD d.name=true)→ ∀s∈nD ds out,dD s=true
 | [],_,h,_=>h
 | d::ds,out,h,k=>by
  rw [nD];refine bSo (fun s hs=>?_) (fun x hx=>k x (List.mem_cons_of_mem _ hx));split at hs
  ·exact h s hs
  ·rename_i hn
   rcases List.mem_append.1 hs with hs | hs
   ·exact h s hs
   ·rw [List.mem_singleton.1 hs]
    rcases k d (List.mem_cons_self ..) with e | e
    ·exact absurd (.inl e) hn
    ·exact e
theorem bBc{p:gN}(h:(cV p).2=true):(∀l∈p.lines,∀x∈l.items,x.how=2→rE x.name)∧ ∀s∈cJ p,rE s:=by
 unfold cV at h;split at h
 ·cases h
 ·cases hi:mU p.inputs [] with
  | mk o b=>
   rw [hi] at h
   cases b with
   | false=>cases h
   | true=>
    refine⟨fun l hl x hx k=>bSf (bRm (o':=(fB p.lines o).1) (Prod.ext rfl h) l hl x hx k),fun s hs=>bSf (bSo (fun s hs=>(by cases hs)) (fun d hd=>?_) s hs)⟩;obtain⟨x,hx,hd⟩:=List.mem_flatMap.1 hd;exact bHi hi x hx d hd
theorem name_val{N:iI}{NT:dT}{it:cT}{st:List TyP}(hN:zG N NT)(hp:rE it.name)(h2:it.how=2)(he:(dB NT it st).2=0)(hl:uV it.name N=none):0<(dB NT it st).1.values.length:=by
 unfold dB at he⊢;rw [if_neg n7,if_pos h2] at he⊢
 cases e:nameT NT it.name with
 | none=>rw [e] at he;simp at he
 | some t=>
  obtain⟨p,rfl⟩:=(hN _ hp).2 hl t e;simp
theorem bOq{take:Bool}{a b:TyP}(ha:WfT a)(h:(kO take a b).2=0):0<a.values.length:=by
 unfold kO at h;split at h
 ·simp at h
 ·rename_i h1;split at h
  ·simp at h
  ·rename_i h2;have hk:a.known=true:=by simpa using h2
   have h1:a.sides=[]:=by
    cases hs:a.sides with
    | nil=>rfl
    | cons x r=>exact absurd (.inl (by rw [hs];simp)) h1
   rcases (ha.kn hk).2 with ⟨_,e⟩ | e
   ·omega
   ·rw [h1] at e;cases e
theorem part_val{NT:dT}{it:cT}{st:List TyP}(hs:WfT (st.tail.headD default))(h4:it.how=4)(hf:it.fn=38∨it.fn=39)(he:(dB NT it st).2=0):0<(st.tail.headD default).values.length:=by
 unfold dB at he;rw [if_neg n7,if_neg n7,if_neg n7,if_neg n7,if_neg n7,if_pos h4] at he;unfold kI at he;rw [if_neg n7] at he;split at he
 ·exact bOq hs he
 ·rw [if_pos n7] at he;exact bOq hs he
theorem bWr{N:iI}{it:cT}{t:TyP}{st:List iA}{s:LoS}{x:List iA×LoS}(h:iJ N it t st s= .ok x)(hb:s.bufs.length≤1024)(hs:s.steps.length≤1024):x.2.bufs.length≤1024∧x.2.steps.length≤1024:=by
 have fin: ∀{n s},yV t n st s= .ok x→x.2.bufs.length≤1024∧x.2.steps.length≤1024:=fun{n s} k=>by
  obtain⟨_,e,h1,h2⟩:=put_ok k;rw [e];exact⟨by simpa using h1,h2⟩
 unfold iJ at h;split at h
 ·exact fin h
 ·split at h
  ·split at h
   ·cases h;exact⟨hb,hs⟩
   ·exact fin h
  ·split at h
   ·exact fin h
   ·split at h
    ·split at h
     ·cases h;exact⟨hb,hs⟩
     ·exact fin h
    ·split at h
     ·split at h
      ·cases h
      ·exact fin h
     ·exact fin h
def OkV (s:LoS)(v:iA):Prop:= ∃k:Nat,v.buf=(k:Int)∧ ∃b,s.bufs[k]?=some b∧b.sides=v.t.sides
theorem pre_get{α:Type}{a b:List α}(h:a<+:b){k:Nat}{x:α}(e:a[k]?=some x):b[k]?=some x:=by
 obtain⟨r,rfl⟩:=h;rw [List.getElem?_append_left (List.getElem?_eq_some_iff.1 e).1];exact e
theorem OkV.ext{s s':LoS}{v:iA}(h:OkV s v)(e:Ext s s'):OkV s' v:=by
 obtain⟨k,hk,b,hb,hs⟩:=h;exact⟨k,hk,b,pre_get e.1 hb,hs⟩
theorem linesT_head{NT:dT}{l:mT}{ls:List mT}{o R:List (List TyP)}(h:kS NT (l::ls) o=(R,(0,0))):
  ∃fin row,mE NT l.items [] []= .ok (fin,row)∧R.drop o.length=row::R.drop (o.length+1)∧R[o.length]?=some row∧kS ((jL++l.name,fin.getLastD default)::NT) ls (o++[row])=(R,(0,0)):=by
 rw [kS] at h
 cases e:mE NT l.items [] [] with
 | error f=>
  rw [e] at h;have:=bDo e;injection h with _ h2
  have h2:f=(0,0):=h2;rw [h2] at this;exact absurd rfl this
 | ok q=>
  obtain⟨fin,row⟩:=q;rw [e] at h;have h:kS ((jL++l.name,fin.getLastD default)::NT) ls (o++[row])=(R,(0,0)):=h;obtain⟨⟨z,hz⟩,_⟩:=bEy h;refine⟨fin,row,rfl,?_,?_,h⟩
  ·rw [←hz,List.append_assoc,List.drop_left,List.singleton_append]
   congr 1
   rw [show o++(row::z)=(o++[row])++z by simp,show o.length+1=(o++[row]).length by simp,List.drop_left]
  ·rw [←hz,List.append_assoc,List.getElem?_append_right (Nat.le_refl _)];simp
theorem insB_len{vars:List Bs}: ∀{l:List gM} {i:Nat},(rB vars i l).length=l.length
 | [],_=>rfl
 | x::l,i=>by rw [rB,List.length_cons,insB_len,List.length_cons]
end Go.Proofs.YtakphiannlpnfaaGreatDoor
