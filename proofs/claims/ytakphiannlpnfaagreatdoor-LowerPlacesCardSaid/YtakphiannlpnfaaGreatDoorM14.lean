/- Texts of one proof, one behind the other: MeanA, MeanB, NameT, OwnT, MeanC, ItemT, NewT, WfP, LowB, LowC, LowS, MeanD. -/
import Derived.Test.YtakphiannlpnfaaGreatDoorM2
import Derived.Test.YtakphiannlpnfaaGreatDoorM13
import Derived.Test.YtakphiannlpnfaaGreatDoorM11
namespace Go.Proofs.YtakphiannlpnfaaGreatDoor
open Go.RowKit Go.Proofs.Tryz
set_option maxRecDepth 100000
theorem yX(k k':Bs)(v:Value): ∀kv:KVS,nM k (mH k' v kv)=if k==k' then some v else nM k kv
 | []=>by
  unfold mH nM;rfl
 | p::r=>by
  have ih:=yX k k' v r;unfold mH
  by_cases h':k'=p.1
  ·rw [if_pos (beq_iff_eq.2 h')]
   by_cases h:k=k'
   ·rw [if_pos (beq_iff_eq.2 h),nM,if_pos (beq_iff_eq.2 h)]
   ·rw [if_neg ab5,nM,if_neg ab5,nM,if_neg (by simpa [h'] using fun e=>h (e.trans h'.symm))]
  ·rw [if_neg (by simpa using h')]
   by_cases h:k=p.1
   ·have hk: ¬k=k':=fun e=>h' (e.symm.trans h);rw [if_neg (by simpa using hk),nM,if_pos (beq_iff_eq.2 h),nM,if_pos (beq_iff_eq.2 h)]
   ·rw [nM,if_neg ab5,ih];split
    ·rfl
    ·rw [nM,if_neg ab5]
def SeenR (kv:KVS)(out:List Bs):Prop:= ∀k,(nM k kv).getD (.bool false)= .bool (k==[] || out.contains k)
theorem seen_start:SeenR (mH [] (.bool true) []) []:=fun k=>by
 rw [yX];cases hk:k==[]
 ·rfl
 ·rfl
theorem seen_add{kv:KVS}{out:List Bs}(h:SeenR kv out)(s:Bs):SeenR (mH s (.bool true) kv) (out++[s]):=fun k=>by
 rw [yX];cases hk:k==s
 ·have hk': ¬k=s:=by simpa using hk
  have e:(out++[s]).contains k=out.contains k:=by simp [hk']
  rw [e];exact h k
 ·have hk':k=s:=by simpa using hk
  subst hk';simp
theorem zeroB(w:World):(zeroValue 4).run prog w= .ok (.bool false) w:=n7
theorem mapSB:prog.underlying 123=some (.map 9 4):=n7
def uW (p:fT)(rest:List oA)(out:List Bs)(kv:KVS):Prop:=SeenR kv out∧uG rest out=cW p∧out.length+rest.length≤8000000000000
section
variable {p : fT} {l : List dQ} {x : dQ} {ds R : List oA} {d : oA} {out : List Bs} {kv : KVS} {i j : Nat}
theorem va_start(h:(hU p.inputs).length≤8000000000000):uW p (hU (p.inputs.drop 0)) [] (mH [] (.bool true) []):=⟨seen_start,rfl,by simpa using h⟩
theorem va_in(h:uW p (hU (l.drop i)) out kv)(hx:l[i]?=some x):uW p (x.sides.drop 0++hU (l.drop (i+1))) out kv:=by
 rw [fY hx] at h;exact h
theorem va_skip(h:uW p (ds.drop j++R) out kv)(hd:ds[j]?=some d)(hs:(d.name==[] || out.contains d.name)=true):uW p (ds.drop (j+1)++R) out kv:=by
 rw [fY hd,List.cons_append] at h;obtain⟨a,b,c⟩:=h;refine⟨a,?_,by simp at c⊢;omega⟩;rw [uG,if_pos (by simpa using hs)] at b;exact b
theorem va_add(h:uW p (ds.drop j++R) out kv)(hd:ds[j]?=some d)(hs:(d.name==[] || out.contains d.name)=false):uW p (ds.drop (j+1)++R) (out++[d.name]) (mH d.name (.bool true) kv):=by
 rw [fY hd,List.cons_append] at h;obtain⟨a,b,c⟩:=h;refine⟨seen_add a _,?_,by simp at c⊢;omega⟩;rw [uG,if_neg (by simpa using hs)] at b;exact b
theorem va_len(h:uW p (ds.drop j++R) out kv)(hd:ds[j]?=some d):out.length+1≤8000000000000:=by
 rw [fY hd,List.cons_append] at h;have:=h.2.2;simp at this;omega
theorem va_out(h:uW p (ds.drop j++R) out kv)(hj:ds.length≤j):uW p R out kv:=by
 rw [tF hj] at h;exact h
theorem va_end(h:uW p (hU (l.drop i)) out kv)(hi:l.length≤i):cW p=out:=by
 rw [tF hi] at h;exact h.2.1.symm
end
theorem bFx(P:ProgV)(hl1:P.inputs.list.length≤140737488355328)(hs: ∀x∈P.inputs.list,x.sides.list.length≤140737488355328)(hTT:(hU P.pr.inputs).length≤8000000000000):cO prog 15 [.agg #[.slice P.inputs.addr P.inputs.list.length P.inputs.cap,.slice P.lines.addr P.lines.list.length P.lines.cap]] [] [jJ.sl (.slice P.inputs.addr P.inputs.list.length P.inputs.cap) P.inputs.list,hZ P.inputs.list] (fun(x:Option Addr×Nat)=> .slice x.1 (cW P.pr).length x.2) (fun _=>[]) (fun(x:Option Addr×Nat)=>[mN.sl (.slice x.1 (cW P.pr).length x.2) (cW P.pr),Fact.pure ((cW P.pr).length≤x.2)]):=by
 have hT:=meanT_ok;refine k6 func15 ntmps15 ?_;intro β hM;refine g2 ?_;refine j8 fun b1=>?_;refine g10 ?_;refine xH rfl rfl rfl rfl fun r2=>?_;refine kQ .head rfl (.inr rfl) rfl mapSB underlying9 rfl rfl rfl ?_;refine g6 ?_;refine cH (t:=9) mN ?_;refine g8 ?_;refine cD (ι:=Nat×KVS×List Bs×Option Addr×Nat) [(4,_),(12,_),(13,_)] ⟨rfl,rfl,rfl,j1⟩ (fun⟨i,kv,vs,A1,c1⟩=>[(3,.slice A1 vs.length c1),(14,.int .i64 (i:Nat))]) (fun⟨i,kv,vs,A1,c1⟩=>[pE r2 kv,mN.row (.slice A1 vs.length c1) 9 vs]) (fun⟨i,kv,vs,A1,c1⟩=>[Fact.pure (i≤P.inputs.list.length∧uW P.pr (hU (P.pr.inputs.drop i)) vs kv)]) (fun⟨i,kv,vs,A1,c1⟩=>P.inputs.list.length-i) (0,mH [] (.bool true) [],[],none,0) ⟨rfl,rfl,j1⟩ (.c1 (.c0 .nil)) ⟨j2 (⟨n0,va_start hTT⟩),j1⟩ ?_;rintro⟨i,kv,vs,A1,c1⟩;dsimp only;refine bC d7 fun hinv4=>?_;refine g6 ?_;refine dO (fun hc15=>?_) fun hc15=>?_
 ·refine g6 ?_;obtain⟨x3,hx4⟩:=gx P.inputs.list i;refine ss (ixs i) ?_;refine ss (mB hx4 0) ?_;refine j5 kD fun b5=>?_;refine g4 ?_;have hx0:P.pr.inputs[i]?=some x3.inp:=rQ hx4;have hxs:=hs x3 (j3 hx4);refine bB (rF x3) (Has.each d9 (j3 hx4)) ?_;refine g8 ?_;refine cD (ι:=Nat×KVS×List Bs×Option Addr×Nat) [(4,_),(12,_),(13,_),(14,_),(19,_),(20,_)] ⟨rfl,rfl,rfl,rfl,rfl,rfl,j1⟩ (fun⟨j,kv2,vs2,A2,c2⟩=>[(3,.slice A2 vs2.length c2),(21,.int .i64 (j:Nat))]) (fun⟨j,kv2,vs2,A2,c2⟩=>[pE r2 kv2,mN.row (.slice A2 vs2.length c2) 9 vs2]) (fun⟨j,kv2,vs2,A2,c2⟩=>[Fact.pure (j≤x3.sides.list.length∧uW P.pr (x3.inp.sides.drop j++hU (P.pr.inputs.drop (i+1))) vs2 kv2)]) (fun⟨j,kv2,vs2,A2,c2⟩=>x3.sides.list.length-j) (0,kv,vs,A1,c1) ⟨rfl,rfl,j1⟩ (.c1 (.c1 .nil)) ⟨j2 (⟨n0,va_in hinv4.2 hx0⟩),j1⟩ ?_;rintro⟨j,kv2,vs2,A2,c2⟩;dsimp only;refine bC d7 fun hinv7=>?_;refine g6 ?_;refine dO (fun hc22=>?_) fun hc22=>?_
  ·refine g6 ?_;obtain⟨x6,hx7⟩:=gx x3.sides.list j;refine ss (ixs j) ?_;refine ss (mB hx7 0) ?_;refine j5 wH fun b8=>?_;refine g4 ?_;have hd0:x3.inp.sides[j]?=some x6.sd:=rQ hx7;have hvl:=va_len hinv7.2 hd0;refine g4 ?_;refine ss (sti_lookupS (kI kT1) rfl mapSB underlying9 zeroB rfl rfl (hinv7.2.1 x6.name)) ?_;refine g3 ?_;refine jG (fun hc29=>?_) fun hc29=>?_
   ·refine g5 ?_;refine kQ kT1 rfl (.inl rfl) rfl mapSB underlying9 rfl rfl rfl ?_;refine g6 ?_;refine jS (m:=x6.name) rfl rfl rfl rfl rfl fun b9=>?_;refine lU kT3 (cA .head rfl) rfl rfl rfl rfl rfl rfl rfl q9 fun A10 c11=>?_;refine g6 ?_;refine inc (j+1) ?_;refine g3 ?_;exact bk2 (j+1,(mH x6.name (.bool true) kv2),(vs2++[x6.name]),A10,c11) ⟨j2 (⟨by dsimp only;omega,va_add hinv7.2 hd0 (by first | assumption | (simpa using ‹_›))⟩),j1⟩
   refine g5 ?_;refine inc (j+1) ?_;refine g3 ?_;exact bk2 (j+1,kv2,vs2,A2,c2) ⟨j2 (⟨by dsimp only;omega,va_skip hinv7.2 hd0 (by first | assumption | (simpa using ‹_›))⟩),j1⟩
  refine g8 ?_;refine inc (i+1) ?_;refine g3 ?_;exact bk2 (i+1,kv2,vs2,A2,c2) ⟨j2 (⟨by dsimp only;omega,va_out hinv7.2 af1⟩),j1⟩
 refine g12 ?_;have he:=va_end hinv4.2 (by show(P.inputs.list.map InputV.inp).length≤i;rw [List.length_map];omega);rw [he];refine bV kT1 fun hvc=>bE kT1 ?_;exact rs1 (A1,c1) ⟨d7,j2 hvc,j1⟩
def ArrV.v(x:ArrV):Value:= .agg #[.slice x.sides.addr x.sides.list.length x.sides.cap,.slice x.data.addr x.data.list.length x.data.cap]
section
variable {p : fT} {dims : List Int} {ins : List Arr} {x : dQ}
theorem wC(h:(cI p).2=true):(hU p.inputs).length≤256:=by
 have hf:=tN h
 have key: ∀l:List dQ,(∀x∈l,x.sides.length≤4)→(hU l).length≤4*l.length:=by
  intro l
  induction l with
  | nil=>intro _;simp [hU]
  | cons x r ih=>
   intro hx;have e:hU (x::r)=x.sides++hU r:=rfl;have h1:=hx x (List.mem_cons_self ..);have h2:=ih fun y hy=>hx y (List.mem_cons_of_mem _ hy);rw [e,List.length_append,List.length_cons];omega
 have:=key p.inputs fun x hx=>(hf.input x hx).2.1;have:=hf.ins;omega
end
def bEu (vars:List Bs)(d:oA):Bool:=(d.name==[]&&bLt d.n) || decide (6≤iL d.name vars 0)
section
variable {vars : List Bs} {l : List dQ} {x : dQ} {ds : List oA} {d : oA} {i j : Nat}
def bDp (vars:List Bs)(l:List dQ)(i:Nat):Prop:=l.find? (yY vars)=(l.drop i).find? (yY vars)
def bHm (vars:List Bs)(ds:List oA)(j:Nat):Prop:=ds.any (bEu vars)=(ds.drop j).any (bEu vars)
theorem few_start:bDp vars l 0:=by simp [bDp]
theorem few_in:bHm vars ds 0:=by simp [bHm]
theorem bJg(h:bDp vars l i)(hx:l[i]?=some x)(k:bHm vars x.sides j)(hd:x.sides[j]?=some d)(hs:bEu vars d=true):l.find? (yY vars)=some x:=by
 have e:yY vars x=true:=by
  show x.sides.any (bEu vars)=true;rw [k,fY hd,List.any_cons,hs];rfl
 rw [h,fY hx,List.find?_cons,e]
theorem few_next(k:bHm vars ds j)(hd:ds[j]?=some d)(hs:bEu vars d=false):bHm vars ds (j+1):=by
 unfold bHm at k⊢;rw [k,fY hd,List.any_cons,hs,Bool.false_or]
theorem few_out(h:bDp vars l i)(hx:l[i]?=some x)(k:bHm vars x.sides j)(hj:x.sides.length≤j):bDp vars l (i+1):=by
 have e:yY vars x=false:=by
  show x.sides.any (bEu vars)=false;rw [k,tF hj];rfl
 unfold bDp at h⊢;rw [h,fY hx,List.find?_cons,e]
theorem few_end(h:bDp vars l i)(hi:l.length≤i):l.find? (yY vars)=none:=by
 unfold bDp at h;rw [h,tF hi];rfl
theorem fs_a(hn:d.name=[])(hb:bLt d.n=true):bEu vars d=true:=by simp [bEu,hn,hb]
theorem fs_b(h:6≤iL d.name vars 0):bEu vars d=true:=by simp [bEu,h]
theorem fs_c(hb:bLt d.n=false)(h:iL d.name vars 0<6):bEu vars d=false:=by
 have: ¬6≤iL d.name vars 0:=n0
 simp [bEu,hb,this]
theorem fs_d(hn:d.name≠[])(h:iL d.name vars 0<6):bEu vars d=false:=by
 have: ¬6≤iL d.name vars 0:=n0
 simp [bEu,hn,this]
end
theorem bQk: ∀(ds:List oA) (out:List Bs),(uG ds out).length≤out.length+ds.length
 | [],out=>by simp [uG]
 | d::r,out=>by
  have ih:=bQk r (if d.name=[]∨out.contains d.name=true then out else out++[d.name]);rw [uG];split at ih
  ·rename_i h;rw [if_pos h];simp;omega
  ·rename_i h;rw [if_neg h];simp at ih⊢;omega
theorem vars_le(p:fT):(cW p).length≤(hU p.inputs).length:=by
 have:=bQk (hU p.inputs) []
 simpa [cW] using this
abbrev NamesTV:=List (Bs×TyV)
def lH (k:Bs):NamesTV→Option TyV
 | []=>none
 | p::r=>if k=p.1 then some p.2 else lH k r
def jP (NV:NamesTV):fI:=NV.map fun p=>(p.1,p.2.t)
theorem nV(k:Bs): ∀NV:NamesTV,mI k (jP NV)=(lH k NV).map TyV.t
 | []=>rfl
 | p::r=>by
  have ih:=nV k r;unfold jP at ih⊢;rw [List.map_cons,mI,lH];split
  ·rfl
  ·exact ih
theorem bOo{k:Bs}{a:TyV}: ∀{NV:NamesTV},lH k NV=some a→ ∃p∈NV,p.2=a
 | [],h=>by cases h
 | p::r,h=>by
  rw [lH] at h;split at h
  ·injection h with h
   exact⟨p,List.mem_cons_self ..,h⟩
  ·obtain⟨q,hq,e⟩:=bOo h;exact⟨q,List.mem_cons_of_mem _ hq,e⟩
def sA (kv:KVS)(NV:NamesTV):Prop:= ∀k,nM k kv=(lH k NV).map tyC
theorem nrT_start:sA [] []:=fun _=>rfl
theorem nrT_add{kv:KVS}{NV:NamesTV}(h:sA kv NV)(s:Bs)(a:TyV):sA (mH s (tyC a) kv) ((s,a)::NV):=fun k=>by
 rw [yX,lH]
 by_cases e:k=s
 ·rw [if_pos (beq_iff_eq.2 e),if_pos e];rfl
 ·rw [if_neg (by simpa using e),if_neg e];exact h k
def pQ (NV:NamesTV):Fact:=Fact.each NV fun p=>tyF p.2
theorem bMc{F:List Fact}{NV:NamesTV}{k:Bs}{a:TyV}(h:Has F (pQ NV))(e:lH k NV=some a):Has F (tyF a):=by
 obtain⟨p,hp,e⟩:=bOo e;rw [←e];exact Has.each h hp
theorem mapT:prog.underlying 95=some (.map 9 43):=n7
theorem bGr(w:World):(zeroValue 43).run prog w= .ok (.agg #[.slice none 0 0,.bool false,.slice none 0 0]) w:=n7
theorem bPk{β:dG}{n:Nat}{Γ:Env}{H:List bI}{F:List Fact}{Q:Exit→Act→World→Prop}{ops:Array Oper}{rest:List Oper}{o:Oper}{d:Nat}{x y z:Operand}{u v q:Bs}(hw:want ops Γ o=some true)(ho:o.op= .buildSlice 69 3 #[(0,x),(1,y),(2,z)])(hd:o.dst=some d)(hn:Nat.blt d n=true)
  (hx:Γ.ev x=some (.string (bs u))) (hy:Γ.ev y=some (.string (bs v))) (hz':Γ.ev z=some (.string (bs q))) (k: ∀b,At β n ((d,.slice (some ⟨b,0,none⟩) 3 3)::Γ) (.obj b (.cells (mN.all [u,v,q]).toArray 9)::H) F (wpList prog ops Q rest)):At β n Γ H F (wpList prog ops Q (o::rest)):=by
 obtain⟨i,hi,hz,hs,_⟩:=strInfo;refine rD (m:=3) hw ho hd hn (fun a w f=>?_) k
 have:=run_buildSlice (P:=prog) w 69 9 3 #[(0,a.eval x),(1,a.eval y),(2,a.eval z)] (mN.all [u,v,q]).toArray i (.string (bs [])) underlying69 hi hz n0 n0 (by
  rw [f.ev hx,f.ev hy,f.ev hz',hs]
  kernel_rfl)
 simpa using this
section
variable {s : Bs} {NV : NamesTV} {a : TyV}
theorem name_0(h:lH (jL++s) NV=some a):nameT (jP NV) s=some a.t:=by
 unfold nameT;rw [nV,h];rfl
theorem name_1(h0:lH (jL++s) NV=none)(h:lH (nIn++s) NV=some a):nameT (jP NV) s=some a.t:=by
 unfold nameT;rw [nV,h0,nV,h];rfl
theorem name_2(h0:lH (jL++s) NV=none)(h1:lH (nIn++s) NV=none)(h:lH s NV=some a):nameT (jP NV) s=some a.t:=by
 unfold nameT;rw [nV,h0,nV,h1,nV,h];rfl
theorem name_3(h0:lH (jL++s) NV=none)(h1:lH (nIn++s) NV=none)(h:lH s NV=none):nameT (jP NV) s=none:=by
 unfold nameT;rw [nV,h0,nV,h1,nV,h];rfl
end
def chkO (cb mb:Nat):bI:= .obj cb (.cells [.map (some mb)].toArray 97)
def noTy:TyV:=⟨⟨none,0,[]⟩,false,⟨none,0,[]⟩⟩
theorem noTy_F{F:List Fact}:Has F (tyF noTy):=bW cJ cJ
theorem vO:prog.built 43 []=some #[.slice none 0 0,.bool false,.slice none 0 0]:=n7
theorem nameT_spec(cb mb:Nat)(kv:KVS)(NV:NamesTV)(hN:sA kv NV)(s:Bs)(hs:s.length≤140737488355328):cO prog 48 [.pointer (some ⟨cb,0,none⟩),.string (bs s)] [chkO cb mb,pE mb kv] [pQ NV] (fun(x:TyV)=> .tuple #[tyC x,.bool (nameT (jP NV) s).isSome]) (fun _=>[chkO cb mb,pE mb kv]) (fun(x:TyV)=>[tyF x,Fact.pure (x.t=(nameT (jP NV) s).getD ⟨[],false,[]⟩)]):=by
 have hT:=fH;generalize hR:nameT (jP NV) s=r;refine k6 func48 ntmps48 ?_;intro β hM;refine g2 ?_;refine j5 pW fun b1=>?_;refine g7 ?_;refine ss (iO rfl rfl rfl q9) ?_;refine one ?_;refine ss (iO rfl rfl rfl q9) ?_;refine one ?_;refine bPk (u:=jL++s) (v:=nIn++s) (q:=s) rfl rfl rfl rfl rfl rfl rfl fun b2=>?_;refine bQ (E:=mN) (xs:=[jL++s,nIn++s,s]) .head p8<|bE .head ?_;refine g5 ?_;refine at_rounds 4 ?_;refine bDc ?_;refine g3 ?_;refine bM (t':=true) o8 ?_;refine g10 ?_;refine ss (cK hT (k:=0) (cF d7) rfl rfl rfl rfl rfl rfl rfl o3) ?_;refine ss (j6 hT (dU.knows (cF d7) (k:=0) (x:=(jL++s)) rfl 0)) ?_;refine g4 ?_
 rcases hlk0:lH (jL++s) NV with _ | a
 ·refine g6 ?_;refine ss (kG (kI kT2) rfl mapT underlying9 bGr rfl rfl (v:= .tuple #[tyC noTy,.bool false]) (by rw [hN,hlk0];rfl)) ?_;refine g3 ?_;refine j5 pW fun b3=>?_;refine g15 ?_;refine inc 1 ?_;refine g3 ?_;refine bDc ?_;refine g3 ?_;refine bM (t':=true) o8 ?_;refine g10 ?_;refine ss (cK hT (k:=1) (cF d7) rfl rfl rfl rfl rfl rfl rfl o3) ?_;refine ss (j6 hT (dU.knows (cF d7) (k:=1) (x:=(nIn++s)) rfl 0)) ?_;refine g4 ?_
  rcases hlk1:lH (nIn++s) NV with _ | a
  ·refine g6 ?_;refine ss (kG (kI kT3) rfl mapT underlying9 bGr rfl rfl (v:= .tuple #[tyC noTy,.bool false]) (by rw [hN,hlk1];rfl)) ?_;refine g3 ?_;refine j5 pW fun b4=>?_;refine g15 ?_;refine inc 2 ?_;refine g3 ?_;refine bDc ?_;refine g3 ?_;refine bM (t':=true) o8 ?_;refine g10 ?_;refine ss (cK hT (k:=2) (cF d7) rfl rfl rfl rfl rfl rfl rfl o3) ?_;refine ss (j6 hT (dU.knows (cF d7) (k:=2) (x:=s) rfl 0)) ?_;refine g4 ?_
   rcases hlk2:lH s NV with _ | a
   ·refine g6 ?_;refine ss (kG (kI kT4) rfl mapT underlying9 bGr rfl rfl (v:= .tuple #[tyC noTy,.bool false]) (by rw [hN,hlk2];rfl)) ?_;refine g3 ?_;refine j5 pW fun b5=>?_;refine g15 ?_;refine inc 3 ?_;refine g3 ?_;refine bDc ?_;refine g3 ?_;refine bM (t':=false) o8 ?_;refine g11 ?_;refine ss (j9 (vO)) ?_;refine g5 ?_;obtain rfl:=hR.symm.trans (name_3 hlk0 hlk1 hlk2);exact rs2 (noTy:TyV) ⟨noTy_F,j2 rfl,j1⟩
   refine g6 ?_;refine ss (kG (kI kT4) rfl mapT underlying9 bGr rfl rfl (v:= .tuple #[tyC a,.bool true]) (by rw [hN,hlk2];rfl)) ?_;refine g3 ?_;refine j5 pW fun b6=>?_;refine g23 ?_;refine bB (tyF a) (bMc d8 hlk2) ?_;obtain rfl:=hR.symm.trans (name_2 hlk0 hlk1 hlk2);exact rs2 (a:TyV) ⟨d7,j2 rfl,j1⟩
  refine g6 ?_;refine ss (kG (kI kT3) rfl mapT underlying9 bGr rfl rfl (v:= .tuple #[tyC a,.bool true]) (by rw [hN,hlk1];rfl)) ?_;refine g3 ?_;refine j5 pW fun b7=>?_;refine g23 ?_;refine bB (tyF a) (bMc d8 hlk1) ?_;obtain rfl:=hR.symm.trans (name_1 hlk0 hlk1);exact rs2 (a:TyV) ⟨d7,j2 rfl,j1⟩
 refine g6 ?_;refine ss (kG (kI kT2) rfl mapT underlying9 bGr rfl rfl (v:= .tuple #[tyC a,.bool true]) (by rw [hN,hlk0];rfl)) ?_;refine g3 ?_;refine j5 pW fun b8=>?_;refine g23 ?_;refine bB (tyF a) (bMc d8 hlk0) ?_;obtain rfl:=hR.symm.trans (name_0 hlk0);exact rs2 (a:TyV) ⟨d7,j2 rfl,j1⟩
def bDs (l vs:List PolV)(i:Nat):Prop:=bK vs=(bK l).take i
theorem bMf(l:List PolV):bDs l [] 0:=rfl
theorem bSx{l vs:List PolV}{i:Nat}{p q:PolV}(h:bDs l vs i)(hp:l[i]?=some p)(hq:q.list=p.list):bDs l (vs++[q]) (i+1):=by
 obtain⟨hi,e⟩:=List.getElem?_eq_some_iff.1 (gC hp);unfold bDs at*;rw [List.take_succ_eq_append_getElem hi,e,←h,←hq,qR];rfl
theorem ownT_end{l vs:List PolV}{i:Nat}(h:bDs l vs i)(hi:l.length≤i):bK vs=bK l:=by
 unfold bDs at h
 rwa [List.take_of_length_le ai0] at h
theorem bNk{l vs:List PolV}{i:Nat}(h:bDs l vs i)(hi:i≤l.length):vs.length=i:=by
 have:=congrArg List.length h;rw [bF,List.length_take,bF] at this;omega
theorem polF_mk{F:List Fact}{A:Option Addr}{c:Nat}{l:List Mono}(h:Has F (mL.sl (.slice A l.length c) l))(k:l.length≤48):Has F (kV ⟨A,c,l⟩):=h.and (j2 (Nat.le_trans k o8))
theorem wf_sr{a:TyV}(h:WfT a.t): ∀p∈a.sides.list,p.list.length≤48:=fun _ hp=>nD (h.sr _ (List.mem_map_of_mem hp))
theorem wf_vr{a:TyV}(h:WfT a.t): ∀p∈a.values.list,p.list.length≤48:=fun _ hp=>nD (h.vr _ (List.mem_map_of_mem hp))
theorem ownT_t{a x:TyV}(hs:bK x.sides.list=bK a.sides.list)(hv:bK x.values.list=bK a.values.list)(hk:x.known=a.known):x.t=a.t:=by
 unfold TyV.t;rw [hs,hv,hk]
theorem bMp(l:Sl PolV)(hl:l.list.length≤4)(hr: ∀p∈l.list,p.list.length≤48):cO prog 52 [.slice l.addr l.list.length l.cap] [] [listF l] (fun(x:Sl PolV)=> .slice x.addr x.list.length x.cap) (fun _=>[]) (fun(x:Sl PolV)=>[listF x,Fact.pure (bK x.list=bK l.list)]):=by
 have hT:=fH;refine k6 func52 ntmps52 ?_;intro β hM;refine cN<|cE l mT0 fun hc_l=>?_;refine g18 ?_;refine cH (t:=47) bP<|bB (cL []) (Has.each_nil) ?_;refine cD (ι:=Nat×List PolV×Option Addr×Nat) [(6,_),(7,_)] ⟨rfl,rfl,j1⟩ (fun⟨i,vs,V,cv⟩=>[(3,.slice V vs.length cv),(8,.int .i64 (i:Nat))]) (fun⟨i,vs,V,cv⟩=>[bP.row (.slice V vs.length cv) 47 vs]) (fun⟨i,vs,V,cv⟩=>[Fact.pure (i≤l.list.length∧bDs l.list vs i),cL vs]) (fun⟨i,vs,V,cv⟩=>l.list.length-i) (0,[],none,0) ⟨rfl,rfl,j1⟩ (.c0 .nil) ⟨j2 (⟨n0,bMf _⟩),d7,j1⟩ ?_;rintro⟨i,vs,V,cv⟩;dsimp only;refine bC d7 fun hinv3=>?_;have hvl:=bNk hinv3.2 hinv3.1;refine g6 ?_;refine dO (fun hc9=>?_) fun hc9=>?_
 ·refine g6 ?_;obtain⟨x1,hx2⟩:=gx l.list i;refine ss (ixs i) ?_;refine ss (dH hx2 0) ?_;refine g6 ?_;have hpl:=hr x1 (j3 hx2);refine j4 func35 (xX x1.addr x1.cap x1.list n0) ⟨rI (Has.each e6 (j3 hx2)),j1⟩ fun⟨A3,c4⟩=>?_;refine bE .head<|bB (kV ⟨A3,c4,x1.list⟩) (polF_mk d7 hpl) ?_;refine cX (m:=⟨A3,c4,x1.list⟩) rfl rfl rfl rfl rfl fun b5=>?_;refine bB (cL (vs++[(⟨A3,c4,x1.list⟩:PolV)])) (Has.each_snoc e6 d7) ?_;refine fJ kT1 (cA .head rfl) rfl rfl rfl rfl rfl rfl rfl q9 fun A6 c7=>?_;refine g6 ?_;refine inc (i+1) ?_;refine g3 ?_;exact bk2 (i+1,vs++[(⟨A3,c4,x1.list⟩:PolV)],A6,c7) ⟨j2 (⟨by dsimp only;omega,bSx hinv3.2 hx2 rfl⟩),d7,j1⟩
 refine g12 ?_;have he:=ownT_end hinv3.2 n0;refine bV .head fun hcv=>bE .head ?_;exact rs1 (⟨V,cv,vs⟩:Sl PolV) ⟨cG d7 d9 hcv,j2 he,j1⟩
theorem ownT_spec(a:TyV)(ha:WfT a.t):cO prog 24 [.agg #[.slice a.sides.addr a.sides.list.length a.sides.cap,.bool a.known,.slice a.values.addr a.values.list.length a.values.cap]] [] [tyF a] (fun(x:TyV)=>tyC x) (fun _=>[]) (fun(x:TyV)=>[tyF x,Fact.pure (x.t=a.t)]):=by
 have hT:=fH;have hsa:=xI ha;have hva:=bPn ha;refine k6 func24 ntmps24 ?_;intro β hM;refine cN<|bB (listF a.sides) (lK d7) ?_;refine cE a.sides mT0 fun hc_as=>bB (listF a.values) (lJ e6)<|cE a.values mT0 fun hc_av=>?_;refine one ?_;refine j8 fun b1=>?_;refine j5 pW fun b2=>?_;refine g8 ?_;refine bU _ _ [(true,0),(true,1),(true,2),(true,4),(true,5),(true,6),(true,7),(true,8),(false,3),(false,9),(true,10),(false,11)] bX o5 (.c1 .nil) bA.self ?_;refine g9 ?_;refine fX (bS func52 rfl rfl) (bMp a.sides n0 (wf_sr ha)) rfl rfl rfl rfl rfl rfl rfl .nil ⟨e8,j1⟩ fun y3=>?_;refine bC d8 fun hos=>?_;refine g2 ?_;refine fX (bS func52 rfl rfl) (bMp a.values n0 (wf_vr ha)) rfl rfl rfl rfl rfl rfl rfl .nil ⟨e7,j1⟩ fun y4=>?_;refine bC d8 fun hov=>?_;refine one ?_;refine stM rfl (j9 (sN _ _ _ _ _ _ _)) ?_;refine g6 ?_;exact rs1 (⟨y3,a.known,y4⟩:TyV) ⟨(bW (x:=⟨y3,a.known,y4⟩) d9 d7),j2 (ownT_t (a:=a) hos hov rfl),j1⟩
section
variable {P : Program} {β : dG} {n : Nat} {Γ : Env} {H : List bI} {F : List Fact} {T : Tab}
theorem zX{α:Type}{g:α→Fact}{xs:List α}(h:Has F (Fact.each xs g))(k:Nat):Has F (Fact.each (xs.take k) g):=fun S w q x hx=>h S w q x (List.mem_of_mem_take hx)
end
def stT (hv:List TyV):List TyP:=(hv.map TyV.t).reverse
theorem yD{hv:List TyV}{a:TyV}(h:hv[hv.length-1]?=some a):(stT hv).headD default=a.t:=by
 have h2:(hv.map TyV.t)[(hv.map TyV.t).length-1]?=some a.t:=by rw [List.length_map];exact tQ h
 unfold stT;rw [List.headD_eq_head?_getD,List.head?_reverse,List.getLast?_eq_getElem?,h2];rfl
theorem bLf{hv:List TyV}{a:TyV}(h:hv[hv.length-2]?=some a)(h2:2≤hv.length):(stT hv).tail.headD default=a.t:=by
 have e:(stT hv)[1]?=some a.t:=by
  unfold stT;rw [List.getElem?_reverse ab0,List.length_map];have:hv.length-1-1=hv.length-2:=n0
  rw [this];exact tQ h
 match stT hv,e with
 | _::b::_,e=>simpa using e
theorem stT_push{hv:List TyV}{a:TyV}{k T:Nat}(hk:k=hv.length-T):stT (hv.take k++[a])=a.t::(stT hv).drop T:=by
 unfold stT;rw [List.map_append,List.reverse_append,List.map_take];simp only [List.map_cons,List.map_nil,List.reverse_cons,List.reverse_nil,List.nil_append,List.cons_append]
 congr 1
 rw [List.drop_reverse,List.length_map,hk]
section
variable {N : fI} {it : ItemV} {hv : List TyV} {x u : TyV}
theorem itT_lit(h:it.how=1):dL N it.it (stT hv)=(jT it.nums.list,0):=if_pos h
theorem itT_name(h:it.how=2)(k:(nameT N it.name).isSome=true):dL N it.it (stT hv)=((nameT N it.name).getD ⟨[],false,[]⟩,0):=by
 unfold dL;rw [if_neg (show ¬it.it.how=1 from (show ¬it.how=1 by omega)),if_pos (show it.it.how=_ from h)]
 cases e:nameT N it.name with
 | none=>rw [e] at k;cases k
 | some t=>rw [show nameT N it.it.name=some t from e];rfl
theorem itT_none(h:it.how=2)(k:(nameT N it.name).isSome=false):dL N it.it (stT hv)=((nameT N it.name).getD ⟨[],false,[]⟩,83):=by
 unfold dL;rw [if_neg (show ¬it.it.how=1 from (show ¬it.how=1 by omega)),if_pos (show it.it.how=_ from h)]
 cases e:nameT N it.name with
 | none=>rw [show nameT N it.it.name=none from e];rfl
 | some t=>rw [e] at k;cases k
theorem itT_mon(h:it.how=3)(hx:hv[hv.length-1]?=some x):dL N it.it (stT hv)=gI it.fn x.t:=by
 unfold dL;rw [if_neg (show ¬it.it.how=1 from (show ¬it.how=1 by omega)),if_neg (show ¬it.it.how=2 from (show ¬it.how=2 by omega)),if_pos (show it.it.how=_ from h),yD hx];rfl
theorem itT_5(h:it.how=5)(hx:hv[hv.length-1]?=some x):dL N it.it (stT hv)=(if x.t.sides=[] then x.t else ⟨x.t.sides.take (x.t.sides.length-1),false,[]⟩,0):=by
 unfold dL;rw [if_neg (show ¬it.it.how=1 from (show ¬it.how=1 by omega)),if_neg (show ¬it.it.how=2 from (show ¬it.how=2 by omega)),if_neg (show ¬it.it.how=3 from (show ¬it.how=3 by omega)),if_pos (show it.it.how=_ from h),yD hx]
theorem itT_6(h:it.how=6)(hx:hv[hv.length-1]?=some x):dL N it.it (stT hv)=(if x.t.sides=[] then x.t else ⟨x.t.sides,false,[]⟩,0):=by
 unfold dL;rw [if_neg (show ¬it.it.how=1 from (show ¬it.how=1 by omega)),if_neg (show ¬it.it.how=2 from (show ¬it.how=2 by omega)),if_neg (show ¬it.it.how=3 from (show ¬it.how=3 by omega)),if_neg (show ¬it.it.how=5 from (show ¬it.how=5 by omega)),if_pos (show it.it.how=_ from h),yD hx]
theorem itT_flat(h:it.how=5∨it.how=6)(hx:hv[hv.length-1]?=some x)(hs:x.sides.list.length=0):dL N it.it (stT hv)=(x.t,0):=by
 rcases h with h | h
 ·rw [itT_5 h hx,if_pos (show x.t.sides=[] from dF hs)]
 ·rw [itT_6 h hx,if_pos (show x.t.sides=[] from dF hs)]
theorem itT_fold(h:it.how=5)(hx:hv[hv.length-1]?=some x)(hs:0<x.sides.list.length):dL N it.it (stT hv)=(⟨bK (x.sides.list.take (x.sides.list.length-1)),false,[]⟩,0):=by
 rw [itT_5 h hx,if_neg (show ¬x.t.sides=[] from fD hs),bOf,show x.t.sides.length=x.sides.list.length from bF _];rfl
theorem itT_scan(h:it.how=6)(hx:hv[hv.length-1]?=some x)(hs:0<x.sides.list.length):dL N it.it (stT hv)=(⟨bK (x.sides.list.take x.sides.list.length),false,[]⟩,0):=by
 rw [itT_6 h hx,if_neg (show ¬x.t.sides=[] from fD hs),List.take_length];rfl
theorem itT_dy(h:it.how=4)(hx:hv[hv.length-2]?=some x)(hu:hv[hv.length-1]?=some u)(h2:2≤hv.length):dL N it.it (stT hv)=pV it.fn x.t u.t:=by
 unfold dL;rw [if_neg (show ¬it.it.how=1 from (show ¬it.how=1 by omega)),if_neg (show ¬it.it.how=2 from (show ¬it.how=2 by omega)),if_neg (show ¬it.it.how=3 from (show ¬it.how=3 by omega)),if_neg (show ¬it.it.how=5 from (show ¬it.how=5 by omega)),if_neg (show ¬it.it.how=6 from (show ¬it.how=6 by omega)),if_pos (show it.it.how=_ from h),yD hu,bLf hx h2];rfl
theorem itT_out{e:Int}(h1:it.how≠1)(h2:it.how≠2)(h3:it.how≠3)(h5:it.how≠5)(h6:it.how≠6)(h4:it.how≠4)(hx:hv[hv.length-2]?=some x)(hu:hv[hv.length-1]?=some u)(hl:2≤hv.length)(he:e=if 4<x.sides.list.length+u.sides.list.length then 90 else 0):dL N it.it (stT hv)=(⟨bK (x.sides.list++u.sides.list),false,[]⟩,e):=by
 unfold dL;rw [if_neg (show ¬it.it.how=1 from h1),if_neg (show ¬it.it.how=2 from h2),if_neg (show ¬it.it.how=3 from h3),if_neg (show ¬it.it.how=5 from h5),if_neg (show ¬it.it.how=6 from h6),if_neg (show ¬it.it.how=4 from h4),yD hu,bLf hx hl,he,qR,show x.t.sides.length=x.sides.list.length from bF _,show u.t.sides.length=u.sides.list.length from bF _];rfl
end
theorem itemTS_spec(cb mb:Nat)(kv:KVS)(NV:NamesTV)(hN:sA kv NV)(it:ItemV)(A:Option Addr)(c:Nat)(hv:List TyV)(hW: ∀t∈hv,WfT t.t)(hl:hv.length≤300)(hd:dE it.it≤hv.length)(h17:1≤it.how∧it.how≤7)(hnum:it.how=1→it.nums.list.length≤65536)(hnm:it.how=2→it.name.length≤140737488355328):cO prog 23 [.pointer (some ⟨cb,0,none⟩),.agg #[.int .i64 it.how,.int .i64 it.at_,.int .u8 it.fn,.string (bs it.name),.slice it.nums.addr it.nums.list.length it.nums.cap],.slice A hv.length c] [chkO cb mb,pE mb kv,tyE.row (.slice A hv.length c) 43 hv] [tA.sl (.slice it.nums.addr it.nums.list.length it.nums.cap) it.nums.list,Fact.each hv tyF,pQ NV] (fun(x:TyV)=> .tuple #[tyC x,.int .i64 (dE it.it:Nat),.int .i64 (dL (jP NV) it.it (stT hv)).2]) (fun _=>[chkO cb mb,pE mb kv,tyE.row (.slice A hv.length c) 43 hv]) (fun(x:TyV)=>[tyF x,Fact.pure (x.t=(dL (jP NV) it.it (stT hv)).1)]):=by
 have hT:=fH;generalize hR:dL (jP NV) it.it (stT hv)=r;generalize hTk:dE it.it=T at hd⊢;refine k6 func23 ntmps23 ?_;intro β hM;refine g2 ?_;refine j8 fun b1=>?_;refine j5 pW fun b2=>?_;refine g25 ?_;refine fM (fun hc17=>?_) fun hc17=>?_
 ·refine cN ?_;have htk:T=0:=hTk.symm.trans (sK ae0);subst htk;refine g3 ?_;refine j4 func47 (bPo it.nums.addr it.nums.cap it.nums.list (Nat.le_trans (hnum asd) o8)) ⟨d7,j1⟩ fun y3=>?_;refine bC d8 fun hy=>?_;refine g8 ?_;obtain rfl:=hR.symm.trans (itT_lit asd);exact rs3 (y3:TyV) ⟨d7,j2 hy,j1⟩
 refine g6 ?_;refine fM (fun hc22=>?_) fun hc22=>?_
 ·refine cN ?_;have htk:T=0:=hTk.symm.trans (sK ae0);subst htk;refine g4 ?_;refine bD func48 (nameT_spec cb mb kv NV hN it.name (hnm asd)) rfl rfl (.c2 (.c2 .nil)) ⟨d9,j1⟩ fun y4=>?_;refine bC d8 fun hy=>?_;refine g3 ?_;refine j5 pW fun b5=>?_;refine g11 ?_;refine jG (fun hc32=>?_) fun hc32=>?_
  ·refine g16 ?_;obtain rfl:=hR.symm.trans (itT_none asd asd);exact rs3 (y4:TyV) ⟨d7,j2 hy,j1⟩
  refine g14 ?_;obtain rfl:=hR.symm.trans (itT_name asd asd);exact rs3 (y4:TyV) ⟨d7,j2 hy,j1⟩
 refine g6 ?_;refine fM (fun hc35=>?_) fun hc35=>?_
 ·refine cN ?_;have htk:T=1:=hTk.symm.trans (oT u9);subst htk;obtain⟨x,hx⟩:=gx hv (hv.length-1);have hwx:=hW x (j3 hx);refine bB (tyF x) (Has.each d8 (j3 hx)) ?_;have hsx:=xI hwx;refine bB (listF x.sides) (lK d7)<|cE x.sides mT0 fun hc_xs=>bB (listF x.values) (lJ e6)<|cE x.values mT0 fun hc_xv=>?_;refine bU _ _ [(true,0),(true,1),(true,2),(true,3),(true,4),(true,5),(true,6),(false,7),(true,8),(true,9),(true,10),(false,11),(true,12)] bX o5 (.c1 (.c1 (.c1 (.c1 .nil)))) bA.self ?_;refine g5 ?_;refine inc (hv.length-1) ?_;refine stM rfl (ixs (hv.length-1)) ?_;refine stM rfl (mB hx 0) ?_;refine one ?_;refine j4 func49 (monT_spec it.fn x hwx) ⟨e9,j1⟩ fun y6=>?_;refine bC d8 fun hy=>?_;refine g22 ?_;obtain rfl:=hR.symm.trans (itT_mon asd hx);exact rs3 (y6:TyV) ⟨d7,j2 hy,j1⟩
 refine g7 ?_;refine fM (fun hc50=>?_) fun hc50=>?_
 ·refine bM (t':=true) asd ?_;refine g4 ?_;have htk:T=1:=hTk.symm.trans (oT u9);subst htk;obtain⟨x,hx⟩:=gx hv (hv.length-1);have hwx:=hW x (j3 hx);refine bB (tyF x) (Has.each d8 (j3 hx)) ?_;have hsx:=xI hwx;refine bB (listF x.sides) (lK d7)<|cE x.sides mT0 fun hc_xs=>bB (listF x.values) (lJ e6)<|cE x.values mT0 fun hc_xv=>?_;refine g4 ?_;refine inc (hv.length-1) ?_;refine ss (ixs (hv.length-1)) ?_;refine ss (mB hx 0) ?_;refine g18 ?_;refine dO (fun hc62=>?_) fun hc62=>?_
  ·refine g6 ?_;refine bM (t':=true) (by rw [hc50];rfl) ?_;refine g6 ?_;refine inc (x.sides.list.length-1) ?_;refine g7 ?_;have hkl:(x.sides.list.length-1)≤x.sides.list.length:=n0
   refine ss (lC hT (k:=(x.sides.list.length-1)) rfl rfl rfl rfl rfl rfl n0) ?_;refine jY (v':= .slice x.sides.addr (x.sides.list.take ((x.sides.list.length-1))).length x.sides.cap) ab7<|bB (listF ⟨x.sides.addr,x.sides.cap,(x.sides.list.take ((x.sides.list.length-1)))⟩) (qO e8 hc_xs hkl) ?_;refine j4 func46 (dB x.sides.addr ((x.sides.list.take ((x.sides.list.length-1))).length) x.sides.cap) j1 fun _=>?_;refine g14 ?_;have hr:=hR.symm.trans (itT_fold asd hx n0);subst hr;exact rs3 (⟨⟨x.sides.addr,x.sides.cap,(x.sides.list.take ((x.sides.list.length-1)))⟩,false,⟨none,0,[]⟩⟩:TyV) ⟨(bW (x:=⟨⟨x.sides.addr,x.sides.cap,(x.sides.list.take ((x.sides.list.length-1)))⟩,false,⟨none,0,[]⟩⟩) d7 cJ),j2 rfl,j1⟩
  refine g13 ?_;have hr:=hR.symm.trans (itT_flat ae0 hx n0);subst hr;exact rs3 (⟨x.sides,x.known,x.values⟩:TyV) ⟨(bW (x:=⟨x.sides,x.known,x.values⟩) e8 d9),j2 rfl,j1⟩
 refine g5 ?_;refine fM (fun hc50_7=>?_) fun hc50_7=>?_
 ·refine bM (t':=true) asd ?_;refine cN ?_;have htk:T=1:=hTk.symm.trans (oT u9);subst htk;obtain⟨x,hx⟩:=gx hv (hv.length-1);have hwx:=hW x (j3 hx);refine bB (tyF x) (Has.each d8 (j3 hx)) ?_;have hsx:=xI hwx;refine bB (listF x.sides) (lK d7)<|cE x.sides mT0 fun hc_xs=>bB (listF x.values) (lJ e6)<|cE x.values mT0 fun hc_xv=>?_;refine g4 ?_;refine inc (hv.length-1) ?_;refine ss (ixs (hv.length-1)) ?_;refine ss (mB hx 0) ?_;refine g18 ?_;refine dO (fun hc62=>?_) fun hc62=>?_
  ·refine g6 ?_;refine bM (t':=false) (by rw [hc50_7];rfl) ?_;refine g9 ?_;have hkl:x.sides.list.length≤x.sides.list.length:=n0
   refine ss (lC hT (k:=x.sides.list.length) rfl rfl rfl rfl rfl rfl n0) ?_;refine jY (v':= .slice x.sides.addr (x.sides.list.take (x.sides.list.length)).length x.sides.cap) ab7<|bB (listF ⟨x.sides.addr,x.sides.cap,(x.sides.list.take (x.sides.list.length))⟩) (qO e8 hc_xs hkl) ?_;refine j4 func46 (dB x.sides.addr ((x.sides.list.take (x.sides.list.length)).length) x.sides.cap) j1 fun _=>?_;refine g14 ?_;have hr:=hR.symm.trans (itT_scan asd hx n0);subst hr;exact rs3 (⟨⟨x.sides.addr,x.sides.cap,(x.sides.list.take (x.sides.list.length))⟩,false,⟨none,0,[]⟩⟩:TyV) ⟨(bW (x:=⟨⟨x.sides.addr,x.sides.cap,(x.sides.list.take (x.sides.list.length))⟩,false,⟨none,0,[]⟩⟩) d7 cJ),j2 rfl,j1⟩
  refine g13 ?_;have hr:=hR.symm.trans (itT_flat ae0 hx n0);subst hr;exact rs3 (⟨x.sides,x.known,x.values⟩:TyV) ⟨(bW (x:=⟨x.sides,x.known,x.values⟩) e8 d9),j2 rfl,j1⟩
 refine g6 ?_;refine fM (fun hc74=>?_) fun hc74=>?_
 ·refine cN ?_;have htk:T=2:=hTk.symm.trans (qP u9);subst htk;obtain⟨x,hx⟩:=gx hv (hv.length-2);have hwx:=hW x (j3 hx);refine bB (tyF x) (Has.each d8 (j3 hx)) ?_;have hsx:=xI hwx;refine bB (listF x.sides) (lK d7)<|cE x.sides mT0 fun hc_xs=>bB (listF x.values) (lJ e6)<|cE x.values mT0 fun hc_xv=>?_;obtain⟨u,hu⟩:=gx hv (hv.length-1);have hwu:=hW u (j3 hu);refine bB (tyF u) (Has.each f4 (j3 hu)) ?_;have hsu:=xI hwu;refine bB (listF u.sides) (lK d7)<|cE u.sides mT0 fun hc_us=>bB (listF u.values) (lJ e6)<|cE u.values mT0 fun hc_uv=>?_;refine bU _ _ [(true,0),(true,1),(true,2),(true,3),(true,4),(true,5),(true,6),(true,7),(true,8),(true,9),(true,10),(true,11),(false,12),(true,13),(true,14),(true,15),(false,16),(true,17)] bX o5 (.c1 (.c1 (.c1 (.c1 .nil)))) bA.self ?_;refine g5 ?_;refine inc (hv.length-2) ?_;refine stM rfl (ixs (hv.length-2)) ?_;refine stM rfl (mB hx 0) ?_;refine g3 ?_;refine inc (hv.length-1) ?_;refine stM rfl (ixs (hv.length-1)) ?_;refine stM rfl (mB hu 0) ?_;refine one ?_;refine j4 func50 (dyT_spec it.fn x u hwx hwu) ⟨j0,e9,j1⟩ fun y8=>?_;refine bC d8 fun hy=>?_;refine g22 ?_;have hr:=hR.symm.trans (itT_dy asd hx hu n0);subst hr;exact rs3 (y8:TyV) ⟨d7,j2 hy,j1⟩
 refine g4 ?_;have htk:T=2:=hTk.symm.trans (qP u9);subst htk;obtain⟨x,hx⟩:=gx hv (hv.length-2);have hwx:=hW x (j3 hx);refine bB (tyF x) (Has.each d8 (j3 hx)) ?_;have hsx:=xI hwx;refine bB (listF x.sides) (lK d7)<|cE x.sides mT0 fun hc_xs=>bB (listF x.values) (lJ e6)<|cE x.values mT0 fun hc_xv=>?_;obtain⟨u,hu⟩:=gx hv (hv.length-1);have hwu:=hW u (j3 hu);refine bB (tyF u) (Has.each f4 (j3 hu)) ?_;have hsu:=xI hwu;refine bB (listF u.sides) (lK d7)<|cE u.sides mT0 fun hc_us=>bB (listF u.values) (lJ e6)<|cE u.values mT0 fun hc_uv=>?_;refine bU _ _ [(true,0),(true,1),(true,2),(true,3),(true,4),(true,5),(true,6),(true,7),(true,8),(true,9),(true,10),(true,11),(false,12),(false,13),(false,14),(false,15)] bX o5 (.c1 (.c1 (.c1 (.c1 .nil)))) bA.self ?_;refine g3 ?_;refine inc (hv.length-2) ?_;refine stM rfl (ixs (hv.length-2)) ?_;refine one ?_;refine stM rfl (dH hx 0) ?_;refine g3 ?_;refine inc (hv.length-1) ?_;refine stM rfl (ixs (hv.length-1)) ?_;refine one ?_;refine stM rfl (dH hu 0) ?_;refine one ?_;refine pM (u:=x.sides) (v:=u.sides) rfl rfl rfl rfl rfl rfl fun b9=>?_;refine bQ (E:=xW) (xs:=[x.sides,u.sides]) .head p8<|bE .head<|bB (Fact.each [x.sides,u.sides] listF) (Has.each_cons j0 (Has.each_cons e9 Has.each_nil)) ?_;refine g2 ?_;have csp:=pG (some ⟨b9,0,none⟩) 2 [x.sides,u.sides] o3 ad6;rw [mA] at csp;refine j4 func51 csp ⟨d8,d7,j1⟩ fun⟨A10,c11⟩=>?_;refine bV .head fun hc_cc=>bE .head<|bB (cL (x.sides.list++u.sides.list)) (nI j0 e9) ?_;refine g2 ?_;refine j4 func46 (dB A10 ((x.sides.list++u.sides.list).length) c11) j1 fun _=>?_;refine g15 ?_;refine dO (fun hc112=>?_) fun hc112=>?_
 ·refine g14 ?_;have hr:=hR.symm.trans (itT_out (e:=90) asd asd asd asd asd asd hx hu n0 (by rw [if_pos (by simp only [List.length_append] at*;omega)]));subst hr;exact rs3 (⟨⟨A10,c11,(x.sides.list++u.sides.list)⟩,false,⟨none,0,[]⟩⟩:TyV) ⟨(bW (x:=⟨⟨A10,c11,(x.sides.list++u.sides.list)⟩,false,⟨none,0,[]⟩⟩) (cG d8 d7 (hc_cc)) cJ),j2 rfl,j1⟩
 refine g12 ?_;have hr:=hR.symm.trans (itT_out (e:=0) asd asd asd asd asd asd hx hu n0 (by rw [if_neg (by simp only [List.length_append] at*;omega)]));subst hr;exact rs3 (⟨⟨A10,c11,(x.sides.list++u.sides.list)⟩,false,⟨none,0,[]⟩⟩:TyV) ⟨(bW (x:=⟨⟨A10,c11,(x.sides.list++u.sides.list)⟩,false,⟨none,0,[]⟩⟩) (cG d8 d7 (hc_cc)) cJ),j2 rfl,j1⟩
theorem chk_built(m:Nat):prog.built 97 [(0,.map (some m))]=some #[.map (some m)]:=n7
def VTAt (vars:List Bs)(i:Nat)(NV:NamesTV)(kv:KVS):Prop:=sA kv NV∧xB vars 0 []=xB (vars.drop i) i (jP NV)
theorem vtT_start(vars:List Bs):VTAt vars 0 [] []:=⟨nrT_start,rfl⟩
theorem vtT_step{vars:List Bs}{i:Nat}{NV:NamesTV}{kv:KVS}{s:Bs}{a:TyV}(h:VTAt vars i NV kv)(hs:vars[i]?=some s)(ha:a.t=varT i):VTAt vars (i+1) ((s,a)::NV) (mH s (tyC a) kv):=by
 obtain⟨hi,e⟩:=List.getElem?_eq_some_iff.1 hs;refine⟨nrT_add h.1 s a,?_⟩;rw [h.2,List.drop_eq_getElem_cons hi,e];show xB _ (i+1) ((s,varT i)::_)=_;rw [←ha];rfl
theorem vtT_end{vars:List Bs}{i:Nat}{NV:NamesTV}{kv:KVS}(h:VTAt vars i NV kv)(hi:vars.length≤i):xB vars 0 []=jP NV:=by
 rw [h.2,List.drop_of_length_le hi];rfl
def ITAt (p:fT)(i:Nat)(NV:NamesTV)(kv:KVS):Prop:=sA kv NV∧nS p=bHc (cW p) (p.inputs.drop i) (jP NV)
theorem itT_start{p:fT}{i:Nat}{NV:NamesTV}{kv:KVS}(h:VTAt (cW p) i NV kv)(hi:(cW p).length≤i):ITAt p 0 NV kv:=⟨h.1,by
 unfold nS;rw [vtT_end h hi]
 rfl⟩
theorem itT_step{p:fT}{i:Nat}{NV:NamesTV}{kv:KVS}{x:dQ}{a:TyV}(h:ITAt p i NV kv)(hx:p.inputs[i]?=some x)(ha:a.t=inT (cW p) x):ITAt p (i+1) ((nIn++x.name,a)::NV) (mH (nIn++x.name) (tyC a) kv):=by
 obtain⟨hi,e⟩:=List.getElem?_eq_some_iff.1 hx;refine⟨nrT_add h.1 _ a,?_⟩;rw [h.2,List.drop_eq_getElem_cons hi,e];show bHc _ _ ((nIn++x.name,inT (cW p) x)::_)=_;rw [←ha];rfl
theorem itT_end{p:fT}{i:Nat}{NV:NamesTV}{kv:KVS}(h:ITAt p i NV kv)(hi:p.inputs.length≤i):jP NV=nS p:=by
 rw [h.2,List.drop_of_length_le hi];rfl
def SdAt (vars:List Bs)(l:List jK)(vs:List PolV)(j:Nat):Prop:=bK vs=(l.take j).map (fun d=>sideT' vars d.sd)
theorem bRo(vars:List Bs)(l:List jK):SdAt vars l [] 0:=rfl
theorem bDm{vars:List Bs}{l:List jK}{vs:List PolV}{j:Nat}{d:jK}{p:PolV}(h:SdAt vars l vs j)(hd:l[j]?=some d)(hp:p.list=sideT' vars d.sd):SdAt vars l (vs++[p]) (j+1):=by
 obtain⟨hi,e⟩:=List.getElem?_eq_some_iff.1 hd;unfold SdAt at*;rw [List.take_succ_eq_append_getElem hi,e,List.map_append,←h,qR];show _++[p.list]=_++[_];rw [hp]
theorem sdT_len{vars:List Bs}{l:List jK}{vs:List PolV}{j:Nat}(h:SdAt vars l vs j)(hj:j≤l.length):vs.length=j:=by
 have:=congrArg List.length h;rw [bF,List.length_map,List.length_take] at this;omega
theorem sdT_end{vars:List Bs}{x:InputV}{vs:List PolV}{j:Nat}{A:Option Addr}{c:Nat}(h:SdAt vars x.sides.list vs j)(hj:x.sides.list.length≤j):(⟨⟨A,c,vs⟩,false,⟨none,0,[]⟩⟩:TyV).t=inT vars x.inp:=by
 unfold SdAt at h;rw [List.take_of_length_le hj] at h;show(⟨bK vs,false,[]⟩:TyP)=_;rw [h];unfold inT
 congr 1
 show _=List.map _ (x.sides.list.map jK.sd);rw [List.map_map];rfl
theorem newT_spec(P:ProgV)(hl1:P.inputs.list.length≤140737488355328)(hrt:(cI P.pr).2=true):cO prog 22 [.agg #[.slice P.inputs.addr P.inputs.list.length P.inputs.cap,.slice P.lines.addr P.lines.list.length P.lines.cap]] [] [iB,jJ.sl (.slice P.inputs.addr P.inputs.list.length P.inputs.cap) P.inputs.list,hZ P.inputs.list] (fun(x:Nat×Nat×KVS×NamesTV)=> .pointer (some ⟨x.1,0,none⟩)) (fun(x:Nat×Nat×KVS×NamesTV)=>[chkO x.1 x.2.1,pE x.2.1 x.2.2.1]) (fun(x:Nat×Nat×KVS×NamesTV)=>[pQ x.2.2.2,Fact.pure (sA x.2.2.1 x.2.2.2∧jP x.2.2.2=nS P.pr)]):=by
 have hT:=fH;refine k6 func22 ntmps22 ?_;intro β hM;refine g2 ?_;refine j8 fun b1=>?_;refine g5 ?_;refine xH rfl rfl rfl rfl fun r2=>?_;refine ss (j9 (chk_built r2)) ?_;refine j8 fun b3=>?_;refine g4 ?_;have hrt:(cI P.pr).2=true:=by assumption
 have hfine:=tN hrt;have hs: ∀x∈P.inputs.list,x.sides.list.length≤4:=fun x hx=>by have h1:=(hfine.input x.inp (tS hx)).2.1;have h2:x.inp.sides.length=x.sides.list.length:=List.length_map _;omega
 have hTT:=wC hrt;have hpl:P.pr.inputs.length=P.inputs.list.length:=List.length_map _;refine g2 ?_;refine j4 func15 (bFx P hl1 (fun x hx=>Nat.le_trans (hs x hx) o8) n0) ⟨d8,d9,j1⟩ fun⟨V,cv⟩=>?_;have hvl:(cW P.pr).length≤256:=Nat.le_trans (vars_le P.pr) hTT;refine bB (pQ []) (Has.each_nil) ?_;refine g12 ?_;refine cD (ι:=Nat×KVS×NamesTV) [(1,_),(3,_),(4,_),(22,_),(23,_)] ⟨rfl,rfl,rfl,rfl,rfl,j1⟩ (fun⟨i,kv,NV⟩=>[(24,.int .i64 (i:Nat))]) (fun⟨i,kv,NV⟩=>[pE r2 kv]) (fun⟨i,kv,NV⟩=>[Fact.pure (i≤(cW P.pr).length∧VTAt (cW P.pr) i NV kv),pQ NV]) (fun⟨i,kv,NV⟩=>(cW P.pr).length-i) (0,[],[]) ⟨rfl,j1⟩ (.c1 .nil) ⟨j2 (⟨n0,vtT_start _⟩),d7,j1⟩ ?_;rintro⟨i,kv,NV⟩;dsimp only;refine bC d7 fun hinv4=>?_;refine g6 ?_;refine dO (fun hc25=>?_) fun hc25=>?_
 ·refine g7 ?_;obtain⟨x4,hx5⟩:=gx (cW P.pr) i;refine ss (ixs i) ?_;refine ss (dH hx5 0) ?_;refine g7 ?_;refine j4 func18 (bLr (((i:Nat):Int))) j1 fun⟨A6,c7⟩=>?_;refine g7 ?_;refine bU _ _ [(true,0),(true,1),(true,2),(true,3),(true,4),(true,5),(false,6),(false,7),(false,8)] bX o5 (.c1 (.c1 .nil)) bA.self ?_;refine g7 ?_;refine cX (m:=⟨A6,c7,(tD (((i:Nat):Int))).1⟩) rfl rfl rfl rfl rfl fun b8=>?_;refine bQ (E:=bP) (xs:=[(⟨A6,c7,(tD (((i:Nat):Int))).1⟩:PolV)]) .head p8<|bE .head<|bB (cL [(⟨A6,c7,(tD (((i:Nat):Int))).1⟩:PolV)]) (iR d8)<|bB (pQ ((x4,(⟨⟨none,0,[]⟩,true,⟨(some ⟨b8,0,none⟩),1,[(⟨A6,c7,(tD (((i:Nat):Int))).1⟩:PolV)]⟩⟩:TyV))::NV)) (Has.each_cons (bW cJ (cG d8 d7 (Nat.le_refl 1))) e7) ?_;refine g2 ?_;refine j4 func44 (iM none (some ⟨b8,0,none⟩) (0) (1) 0 1) j1 fun _=>?_;refine g2 ?_;refine kQ .head rfl (.inl rfl) rfl mapT underlying9 rfl rfl rfl ?_;refine g6 ?_;refine inc (i+1) ?_;refine g3 ?_;exact bk2 (i+1,_,(x4,(⟨⟨none,0,[]⟩,true,⟨(some ⟨b8,0,none⟩),1,[(⟨A6,c7,(tD (((i:Nat):Int))).1⟩:PolV)]⟩⟩:TyV))::NV) ⟨j2 (⟨by dsimp only;omega,vtT_step hinv4.2 hx5 rfl⟩),d7,j1⟩
 refine g15 ?_;refine cD (ι:=Nat×KVS×NamesTV) [(3,_),(4,_),(44,_),(45,_)] ⟨rfl,rfl,rfl,rfl,j1⟩ (fun⟨i,kv,NV⟩=>[(46,.int .i64 (i:Nat))]) (fun⟨i,kv,NV⟩=>[pE r2 kv]) (fun⟨i,kv,NV⟩=>[Fact.pure (i≤P.inputs.list.length∧ITAt P.pr i NV kv),pQ NV]) (fun⟨i,kv,NV⟩=>P.inputs.list.length-i) (0,kv,NV) ⟨rfl,j1⟩ (.c0 .nil) ⟨j2 (⟨n0,itT_start hinv4.2 n0⟩),d8,j1⟩ ?_;rintro⟨i,kv,NV⟩;dsimp only;refine bC d7 fun hinv10=>?_;refine g6 ?_;refine dO (fun hc47=>?_) fun hc47=>?_
 ·refine g6 ?_;obtain⟨x9,hx10⟩:=gx P.inputs.list i;refine ss (ixs i) ?_;refine ss (mB hx10 0) ?_;refine j5 kD fun b11=>?_;refine g10 ?_;have hx0:P.pr.inputs[i]?=some x9.inp:=rQ hx10;have hxs:=hs x9 (j3 hx10);refine bB (rF x9) (Has.each f7 (j3 hx10)) ?_;have hxn:=(hfine.input x9.inp (tS (j3 hx10))).1;have hxs4:x9.sides.list.length≤4:=hs x9 (j3 hx10);have hxn:x9.name.length≤16:=hxn;refine g8 ?_;refine cH (t:=47) bP<|bB (cL []) (Has.each_nil) ?_;refine cD (ι:=Nat×List PolV×Option Addr×Nat) [(3,_),(4,_),(10,_),(44,_),(45,_),(46,_),(51,_),(52,_)] ⟨rfl,rfl,rfl,rfl,rfl,rfl,rfl,rfl,j1⟩ (fun⟨j,vs,V2,cv2⟩=>[(11,.slice V2 vs.length cv2),(53,.int .i64 (j:Nat))]) (fun⟨j,vs,V2,cv2⟩=>[bP.row (.slice V2 vs.length cv2) 47 vs]) (fun⟨j,vs,V2,cv2⟩=>[Fact.pure (j≤x9.sides.list.length∧SdAt (cW P.pr) x9.sides.list vs j),cL vs]) (fun⟨j,vs,V2,cv2⟩=>x9.sides.list.length-j) (0,[],none,0) ⟨rfl,rfl,j1⟩ (.c0 .nil) ⟨j2 (⟨n0,bRo _ _⟩),d7,j1⟩ ?_;rintro⟨j,vs,V2,cv2⟩;dsimp only;refine bC d7 fun hinv14=>?_;have hvl2:=sdT_len hinv14.2 hinv14.1;refine g6 ?_;refine dO (fun hc54=>?_) fun hc54=>?_
  ·refine g6 ?_;obtain⟨x12,hx13⟩:=gx x9.sides.list j;refine ss (ixs j) ?_;refine ss (mB hx13 0) ?_;refine j5 wH fun b14=>?_;refine g8 ?_;refine bD func17 (tR _ _ _ n0 x12.name) rfl rfl .nil ⟨f7,j1⟩ fun _=>?_;refine g9 ?_;refine c_le (fun hc62=>?_) fun hc62=>?_
   ·refine g3 ?_;refine j4 func18 (bLr ((iL x12.name (cW P.pr) 0))) j1 fun⟨A15,c16⟩=>?_;refine g10 ?_;refine cX (m:=⟨A15,c16,(tD ((iL x12.name (cW P.pr) 0))).1⟩) rfl rfl rfl rfl rfl fun b17=>?_;refine bB (cL (vs++[(⟨A15,c16,(tD ((iL x12.name (cW P.pr) 0))).1⟩:PolV)])) (Has.each_snoc d9 d7) ?_;refine fJ kT2 (cA .head rfl) rfl rfl rfl rfl rfl rfl rfl q9 fun A18 c19=>?_;refine g6 ?_;refine inc (j+1) ?_;refine g3 ?_;exact bk2 (j+1,vs++[(⟨A15,c16,(tD ((iL x12.name (cW P.pr) 0))).1⟩:PolV)],A18,c19) ⟨j2 (⟨by dsimp only;omega,bDm hinv14.2 hx13 ((if_pos ‹_›).symm)⟩),d7,j1⟩
   refine g4 ?_;refine j4 func45 (jI (x12.n)) j1 fun⟨A20,c21⟩=>?_;refine cX (m:=⟨A20,c21,bT (x12.n)⟩) rfl rfl rfl rfl rfl fun b22=>?_;refine bB (cL (vs++[(⟨A20,c21,bT (x12.n)⟩:PolV)])) (Has.each_snoc d9 d7) ?_;refine fJ kT2 (cA .head rfl) rfl rfl rfl rfl rfl rfl rfl q9 fun A23 c24=>?_;refine g6 ?_;refine inc (j+1) ?_;refine g3 ?_;exact bk2 (j+1,vs++[(⟨A20,c21,bT (x12.n)⟩:PolV)],A23,c24) ⟨j2 (⟨by dsimp only;omega,bDm hinv14.2 hx13 ((if_neg (show ¬(0:Int)≤iL x12.name (cW P.pr) 0 by omega)).symm)⟩),d7,j1⟩
  refine g5 ?_;refine bV .head fun hc_out=>bE .head<|bB (pQ ((nIn++x9.name,(⟨⟨V2,cv2,vs⟩,false,⟨none,0,[]⟩⟩:TyV))::NV)) (Has.each_cons (bW (cG d7 d9 hc_out) cJ) e9) ?_;refine bU _ _ [(true,0),(true,1),(true,2),(true,3),(true,4),(true,5),(true,6),(true,7),(false,8),(false,9)] bX o5 (.c0 (.c1 (.c1 .nil))) bA.self ?_;refine g6 ?_;refine stM rfl (iO rfl rfl rfl q9) ?_;refine g2 ?_;refine j4 func46 (dB V2 (vs.length) cv2) j1 fun _=>?_;refine g2 ?_;refine kQ kT1 rfl (.inl rfl) rfl mapT underlying9 rfl rfl rfl ?_;refine g6 ?_;refine inc (i+1) ?_;refine g3 ?_;exact bk2 (i+1,_,(nIn++x9.name,(⟨⟨V2,cv2,vs⟩,false,⟨none,0,[]⟩⟩:TyV))::NV) ⟨j2 (⟨by dsimp only;omega,itT_step hinv10.2 hx0 (sdT_end hinv14.2 n0)⟩),d7,j1⟩
 refine g12 ?_;exact rs1 (b3,r2,kv,NV) ⟨d8,j2 ⟨hinv10.2.1,itT_end hinv10.2 (by rw [hpl];omega)⟩,j1⟩
theorem oK(n:Int):dR (bT n)=true:=bHw n
theorem zipT_len{op:qY}: ∀{X Y l:List Pol},bAg op X Y=some l→l.length=X.length
 | [],_,l,h=>by cases h;rfl
 | _::_,[],_,h=>by cases h
 | p::x,q::y,l,h=>by
  unfold bAg at h;split at h
  ·cases h
  ·cases e:bAg op x y with
   | none=>rw [e] at h;cases h
   | some k=>
    rw [e] at h;cases h;simp [zipT_len e]
theorem zipT_all{op:qY}{g:Pol→Prop}(ho: ∀p q,g (op p q).1): ∀{X Y l:List Pol},bAg op X Y=some l→ ∀v∈l,g v
 | [],_,l,h=>by cases h;intro v hv;cases hv
 | _::_,[],_,h=>by cases h
 | p::x,q::y,l,h=>by
  unfold bAg at h;split at h
  ·cases h
  ·cases e:bAg op x y with
   | none=>rw [e] at h;cases h
   | some k=>
    rw [e] at h;cases h;intro v hv
    rcases List.mem_cons.1 hv with rfl | hv
    ·exact ho p q
    ·exact zipT_all ho e v hv
def bCu (op:qY):Prop:= ∀p q,dR (op p q).1=true
theorem addR:bCu addO:=fun p q=>qC p q 1
theorem subR:bCu yI:=fun p q=>qC p q (-1)
theorem mulR:bCu qB:=fun p q=>bGf p q
theorem opR{f:Int}{op:qY}(h:xG f=some op):bCu op:=by
 unfold xG at h;split at h
 ·cases h;exact addR
 ·split at h
  ·cases h;exact subR
  ·split at h
   ·cases h;exact mulR
   ·cases h
theorem repT_len(x:List Pol)(n:Nat)(h:x.length=1):(repT x n).length=n:=by
 unfold repT;rw [List.length_flatten];simp [h]
theorem leftT_len{a b:TyP}(ha:WfT a)(h1:a.known=true):(xA a b).length=if a.sides=[]∧b.sides≠[] then b.values.length else a.values.length:=by
 unfold xA;split
 ·rename_i h;exact repT_len _ _ (zI ha h1 h.1)
 ·rfl
theorem eachT_wf{op:Option qY}{a b:TyP}(ho: ∀o,op=some o→bCu o)(ha:WfT a):
  (∀v∈(lL op a b).1,dR v=true)∧((lL op a b).2=true→a.known=true∧b.known=true∧(lL op a b).1.length=if a.sides=[]∧b.sides≠[] then b.values.length else a.values.length)∧((lL op a b).2=false→(lL op a b).1=[]):=by
 cases op with
 | none=>exact⟨fun v h=>(by cases h),fun h=>(by cases h),fun _=>rfl⟩
 | some o=>
  by_cases hk:a.known=false∨b.known=false
  ·rw [bGc hk];exact⟨fun v h=>(by cases h),fun h=>(by cases h),fun _=>rfl⟩
  ·have h1:a.known=true:=by cases h:a.known;exact absurd (.inl h) hk;rfl
   have h2:b.known=true:=by cases h:b.known;exact absurd (.inr h) hk;rfl
   cases e:bAg o (xA a b) (uF a b) with
   | none=>
    rw [sL e h1 h2];exact⟨fun v h=>(by cases h),fun h=>(by cases h),fun _=>rfl⟩
   | some l=>
    rw [tG e h1 h2];exact⟨zipT_all (g:=fun v=>dR v=true) (ho o rfl) e,fun _=>⟨h1,h2,by rw [zipT_len e,leftT_len ha h1]⟩,fun h=>(by cases h)⟩
theorem mM{S:List Pol}(h:S.length≤4)(k: ∀s∈S,dR s=true):WfT ⟨S,false,[]⟩:=⟨h,k,fun _ h=>(by cases h),fun h=>(by cases h),fun _=>rfl⟩
theorem literal_wf{nums:List Int}(h:nums≠[]):WfT (jT nums):=by
 have hs:(if 1<nums.length then [bT nums.length] else ([]:List Pol)).length≤4∧ ∀s∈(if 1<nums.length then [bT nums.length] else ([]:List Pol)),dR s=true:=by
  split
  ·exact⟨o3,fun s hs=>by rw [List.mem_singleton.1 hs];exact oK _⟩
  ·exact⟨o3,fun s hs=>(by cases hs)⟩
 unfold jT;split
 ·exact mM hs.1 hs.2
 ·rename_i hn;rw [not_or] at hn;refine⟨hs.1,hs.2,fun v hv=>?_,fun _=>⟨by simp;omega,?_⟩,fun h=>(by cases h)⟩
  ·obtain⟨n,_,rfl⟩:=List.mem_map.1 hv;exact oK n
  ·show(if _ then _ else _)=_∧_∨(if _ then _ else _)=_;rw [List.length_map];split
   ·exact .inr rfl
   ·refine .inl ⟨rfl,?_⟩
    cases nums with
    | nil=>exact absurd rfl h
    | cons a l=>simp at*;omega
theorem mul1: ∀k:Fin 5,qB (bT 1) (bT (k.1:Nat))=(bT (k.1:Nat),0):=by decide+kernel
theorem add_num: ∀j k:Fin 5,(cC (bT (j.1:Nat)) (bT (k.1:Nat)) 1).1=bT ((j.1+k.1:Nat):Int):=by decide+kernel
theorem sub_num: ∀j k:Fin 5,k.1≤j.1→(cC (bT (j.1:Nat)) (bT (k.1:Nat)) (-1)).1=bT ((j.1-k.1:Nat):Int):=by decide+kernel
theorem bIu: ∀{S:List Pol} {p q:Pol},dR p=true→nT p S=some q→dR q=true
 | [],p,q,hp,h=>by cases h;exact hp
 | s::r,p,q,hp,h=>by
  unfold nT at h;split at h
  ·cases h
  ·exact bIu (bGf p s) h
theorem wf_head{a:TyP}(h:WfT a)(k:a.known=true)(hs:a.sides=[]):dR (a.values.headD [])=true:=by
 have:=zI h k hs
 match hv:a.values,this with
 | [v],_=>exact h.vr v (by rw [hv];exact List.mem_singleton.2 rfl)
theorem negW:WfT ⟨[],true,[[]]⟩:=⟨o3,fun _ h=>(by cases h),fun v h=>by rw [List.mem_singleton.1 h];rfl,fun _=>⟨o3,.inl ⟨rfl,rfl⟩⟩,fun h=>(by cases h)⟩
theorem monad_wf{f:Int}{a:TyP}(ha:WfT a):WfT (gI f a).1:=by
 unfold gI;split
 ·split
  ·exact ha
  ·rename_i hs;split
   ·exact ha
   ·rename_i hk;split
    ·exact ha
    ·exact mM o3 (fun s h=>by rw [List.mem_singleton.1 h];exact wf_head ha (by simpa using hk) (by simpa using hs))
 ·split
  ·refine⟨o3,fun s h=>?_,ha.sr,fun _=>⟨ha.len,.inr rfl⟩,fun h=>(by cases h)⟩;rw [List.mem_singleton.1 h];exact oK _
  ·split
   ·split
    ·exact ha
    ·rename_i p hp;refine⟨o3,fun s h=>?_,ha.vr,fun k=>⟨(ha.kn k).1,.inr ?_⟩,ha.un⟩
     ·rw [List.mem_singleton.1 h];exact bIu (oK 1) hp
     ·have hl:=(ha.kn k).1
      rcases (ha.kn k).2 with h | h
      ·rw [h.1] at hp;cases hp;show [bT 1]=[bT _];rw [h.2];rfl
      ·rw [h] at hp;have hm:=mul1 ⟨a.values.length,n0⟩;unfold nT at hp;dsimp only at hm;rw [hm] at hp;cases hp;rfl
   ·split
    ·dsimp only;split
     ·refine⟨ha.len,ha.sr,fun v h=>ha.vr v (List.mem_reverse.1 h),fun k=>?_,fun k=>by show a.values.reverse=[];rw [ha.un k];rfl⟩;show a.values.reverse.length≤4∧(a.sides=[]∧a.values.reverse.length=1∨a.sides=[bT a.values.reverse.length]);rw [List.length_reverse];exact ha.kn k
     ·exact ha
    ·split
     ·refine⟨by show a.sides.reverse.length≤4;rw [List.length_reverse];exact ha.len,fun s h=>ha.sr s (List.mem_reverse.1 h),ha.vr,fun k=>⟨(ha.kn k).1,?_⟩,ha.un⟩
      rcases (ha.kn k).2 with h | h
      ·exact .inl ⟨by show a.sides.reverse=[];rw [h.1];rfl,h.2⟩
      ·exact .inr (by show a.sides.reverse=_;rw [h];rfl)
     ·split
      ·exact ha
      ·split
       ·obtain⟨e1,e2,e3⟩:=eachT_wf (op:=some yI) (b:=a) (fun o h=>by cases h;exact subR) negW;refine⟨ha.len,ha.sr,e1,fun k=>?_,e3⟩;obtain⟨_,k2,k3⟩:=e2 k;show(lL (some yI) ⟨[],true,[[]]⟩ a).1.length≤4∧(a.sides=[]∧(lL (some yI) ⟨[],true,[[]]⟩ a).1.length=1∨a.sides=[bT (lL (some yI) ⟨[],true,[[]]⟩ a).1.length]);rw [k3];split
        ·exact⟨qW ha,(ha.kn k2).2⟩
        ·rename_i hs;refine⟨o3,.inl ⟨?_,rfl⟩⟩
         simpa using hs
       ·exact mM ha.len ha.sr
theorem rho_wf{a b:TyP}(ha:WfT a):WfT (bCf a b).1:=by
 unfold bCf;split
 ·exact ha
 ·split
  ·exact ha
  ·split
   ·exact ha
   ·split
    ·exact ha
    ·exact mM (qW ha) ha.vr
theorem cut_all{tk:Bool}{n:Int}{l:List Pol}{g:Pol→Prop}(h: ∀v∈l,g v): ∀v∈xD tk n l,g v:=by
 unfold xD;split
 ·exact fun v hv=>h v (List.mem_of_mem_take hv)
 ·exact fun v hv=>h v (List.mem_of_mem_drop hv)
theorem cut_len{tk:Bool}{n:Int}{l:List Pol}(h:max n (-n)≤l.length):(xD tk n l).length=if tk=true then (max n (-n)).toNat else l.length-(max n (-n)).toNat:=by
 unfold xD;cases tk
 ·rw [if_neg (show ¬(false=true) by decide)]
  by_cases hn:(0:Int)≤n
  ·rw [decide_eq_true hn,if_neg o8,List.length_drop,if_neg n0];omega
  ·rw [decide_eq_false hn,if_pos rfl,List.length_take,if_pos n0];omega
 ·rw [if_pos (show true=true from rfl)]
  by_cases hn:(0:Int)≤n
  ·rw [decide_eq_true hn,if_pos rfl,List.length_take,if_neg n0];omega
  ·rw [decide_eq_false hn,if_neg o8,List.length_drop,if_pos n0];omega
theorem bOu{S:List Pol}{s:Pol}(h:s∈S.tail):s∈S:=List.mem_of_mem_tail h
theorem part_wf{tk:Bool}{a b:TyP}(ha:WfT a)(hb:WfT b):WfT (lX tk a b).1:=by
 unfold lX;split
 ·exact ha
 ·rename_i hs;rw [not_or] at hs;split
  ·exact ha
  ·split
   ·exact ha
   ·rename_i n hn;split
    ·exact ha
    ·rename_i hc;have hc:gL (b.sides.headD []) (max n (-n))=true:=by simpa using hc
     have hlen: ∀p:Pol,(p::b.sides.tail).length≤4:=fun p=>by
      have:=hb.len;have h0:b.sides≠[]:=hs.2
      cases e:b.sides with
      | nil=>exact absurd e h0
      | cons s l=>rw [e] at this;exact this
     have hm:b.known=true→b.sides=[bT b.values.length]∧max n (-n)≤b.values.length∧b.values.length≤4:=fun k=>by
      rcases (hb.kn k).2 with h | h
      ·exact absurd h.1 hs.2
      ·rw [h] at hc;exact⟨h,bKk hc,(hb.kn k).1⟩
     have hun:b.known=false→(if b.known=true then xD tk n b.values else b.values)=[]:=fun k=>by rw [k];exact hb.un k
     have hvr: ∀v∈(if b.known=true then xD tk n b.values else b.values),dR v=true:=by
      split
      ·exact cut_all hb.vr
      ·exact hb.vr
     split
     ·rename_i ht;subst ht;refine⟨hlen _,fun s h=>?_,hvr,fun k=>?_,hun⟩
      ·rcases List.mem_cons.1 h with rfl | h
       ·exact oK _
       ·exact hb.sr s (bOu h)
      ·have k:b.known=true:=k;obtain⟨h1,h2,h3⟩:=hm k;show(if b.known=true then xD true n b.values else b.values).length≤4∧(_∨bT (max n (-n))::b.sides.tail=[bT (if b.known=true then xD true n b.values else b.values).length]);rw [if_pos k,cut_len h2,if_pos rfl,h1];refine⟨n0,.inr ?_⟩;rw [show(((max n (-n)).toNat:Nat):Int)=max n (-n) by omega];rfl
     ·rename_i ht;have ht:tk=false:=by simpa using ht
      subst ht;split
      ·exact ha
      ·refine⟨hlen _,fun s h=>?_,hvr,fun k=>?_,hun⟩
       ·rcases List.mem_cons.1 h with rfl | h
        ·exact qC _ _ _
        ·exact hb.sr s (bOu h)
       ·have k:b.known=true:=k;obtain⟨h1,h2,h3⟩:=hm k;show(if b.known=true then xD false n b.values else b.values).length≤4∧(_∨(cC (b.sides.headD []) (bT (max n (-n))) (-1)).1::b.sides.tail=[bT (if b.known=true then xD false n b.values else b.values).length]);rw [if_pos k,cut_len h2,if_neg o8,h1];refine⟨n0,.inr ?_⟩;have hx:=sub_num ⟨b.values.length,n0⟩ ⟨(max n (-n)).toNat,n0⟩ (by show(max n (-n)).toNat≤b.values.length;omega);dsimp only at hx;rw [show(((max n (-n)).toNat:Nat):Int)=max n (-n) by omega] at hx;show(cC (bT b.values.length) _ _).1::[]=_;rw [hx]
theorem oneT_num{a:TyP}(ha:WfT a)(k:a.known=true):dA a.sides=[bT a.values.length]:=by
 unfold dA
 rcases (ha.kn k).2 with h | h
 ·rw [if_pos h.1,h.2];rfl
 ·rw [h,if_neg o3]
theorem oneT_right{a:TyP}(ha:WfT a): ∀s∈dA a.sides,dR s=true:=by
 unfold dA;split
 ·exact fun s h=>by rw [List.mem_singleton.1 h];exact oK _
 ·exact ha.sr
theorem oneT_len{a:TyP}(ha:WfT a)(p:Pol):(p::(dA a.sides).tail).length≤4:=by
 unfold dA;split
 ·simp
 ·rename_i h0;have:=ha.len
  cases e:a.sides with
  | nil=>exact absurd e h0
  | cons s l=>rw [e] at this;exact this
theorem cat_wf{a b:TyP}(ha:WfT a)(hb:WfT b):WfT (bCo a b).1:=by
 unfold bCo;split
 ·exact ha
 ·split
  ·exact ha
  ·have hsr: ∀s∈(cC ((dA a.sides).headD []) ((dA b.sides).headD []) 1).1::(dA b.sides).tail,dR s=true:=fun s h=>by
    rcases List.mem_cons.1 h with rfl | h
    ·exact qC _ _ _
    ·exact oneT_right hb s (bOu h)
   split
   ·rename_i hk;refine⟨oneT_len hb _,hsr,fun v h=>?_,fun _=>⟨?_,.inr ?_⟩,fun h=>(by cases h)⟩
    ·rcases List.mem_append.1 h with h | h
     ·exact ha.vr v h
     ·exact hb.vr v h
    ·show(a.values++b.values).length≤4;rw [List.length_append];exact hk.2.2
    ·show(cC ((dA a.sides).headD []) ((dA b.sides).headD []) 1).1::(dA b.sides).tail=[bT (a.values++b.values).length];rw [oneT_num ha hk.1,oneT_num hb hk.2.1,List.length_append];have hx:=add_num ⟨a.values.length,n0⟩ ⟨b.values.length,n0⟩;dsimp only at hx;show(cC (bT a.values.length) (bT b.values.length) 1).1::[]=_;rw [hx]
   ·exact mM (oneT_len hb _) hsr
theorem dyad_wf{f:Int}{a b:TyP}(ha:WfT a)(hb:WfT b):WfT (pV f a b).1:=by
 unfold pV;split
 ·exact rho_wf ha
 ·split
  ·exact part_wf ha hb
  ·split
   ·exact part_wf ha hb
   ·split
    ·exact cat_wf ha hb
    ·split
     ·exact mM ha.len ha.sr
     ·obtain⟨e1,e2,e3⟩:=eachT_wf (op:=xG f) (b:=b) (fun o h=>opR h) ha
      by_cases hs:a.sides=[]
      ·rw [if_pos hs];refine⟨hb.len,hb.sr,e1,fun k=>?_,e3⟩;obtain⟨k1,k2,k3⟩:=e2 k;show(lL (xG f) a b).1.length≤4∧(b.sides=[]∧(lL (xG f) a b).1.length=1∨b.sides=[bT (lL (xG f) a b).1.length]);rw [k3];split
       ·exact⟨qW hb,(hb.kn k2).2⟩
       ·rename_i h
        have hbs:b.sides=[]:=by
         by_cases e:b.sides=[]
         ·exact e
         ·exact absurd ⟨hs,e⟩ h
        exact⟨qW ha,.inl ⟨hbs,zI ha k1 hs⟩⟩
      ·rw [if_neg hs];refine⟨ha.len,ha.sr,e1,fun k=>?_,e3⟩;obtain⟨k1,k2,k3⟩:=e2 k;show(lL (xG f) a b).1.length≤4∧(a.sides=[]∧(lL (xG f) a b).1.length=1∨a.sides=[bT (lL (xG f) a b).1.length]);rw [k3,if_neg (fun h=>hs h.1)];exact⟨qW ha,(ha.kn k1).2⟩
theorem bRc{k:Bs}{t:TyP}: ∀{N:fI},mI k N=some t→ ∃p∈N,p.2=t
 | [],h=>by cases h
 | p::r,h=>by
  rw [mI] at h;split at h
  ·injection h with h
   exact⟨p,List.mem_cons_self ..,h⟩
  ·obtain⟨q,hq,e⟩:=bRc h;exact⟨q,List.mem_cons_of_mem _ hq,e⟩
def nR (N:fI):Prop:= ∀q∈N,WfT q.2
theorem look_wf{N:fI}(h:nR N){k:Bs}{t:TyP}(e:mI k N=some t):WfT t:=by
 obtain⟨p,hp,rfl⟩:=bRc e;exact h p hp
theorem name_wf{N:fI}(h:nR N){s:Bs}{t:TyP}(e:nameT N s=some t):WfT t:=by
 unfold nameT at e;split at e
 ·rename_i h1;cases e;exact look_wf h h1
 ·split at e
  ·rename_i h1;cases e;exact look_wf h h1
  ·exact look_wf h e
theorem none_wf:WfT ⟨[],false,[]⟩:=mM o3 (fun s h=>(by cases h))
theorem headW{st:List TyP}(h: ∀t∈st,WfT t)(k:1≤st.length):WfT (st.headD default):=by
 match st,k with
 | a::l,_=>exact h a (List.mem_cons_self ..)
theorem secondW{st:List TyP}(h: ∀t∈st,WfT t)(k:2≤st.length):WfT (st.tail.headD default):=by
 match st,k with
 | a::b::l,_=>exact h b (List.mem_cons_of_mem _ (List.mem_cons_self ..))
theorem item_wf{N:fI}(hN:nR N){it:cM}{st:List TyP}(hs: ∀t∈st,WfT t)(hd:dE it≤st.length)(hnum:it.how=1→it.nums≠[])(h17:1≤it.how∧it.how≤7)(h0:(dL N it st).2=0):WfT (dL N it st).1:=by
 have h1:it.how=3∨it.how=5∨it.how=6→1≤st.length:=fun h=>by rw [oT h] at hd;exact hd
 have h2:it.how=4∨it.how=7→2≤st.length:=fun h=>by rw [qP h] at hd;exact hd
 unfold dL at h0⊢;split
 ·exact literal_wf (hnum ‹_›)
 ·split
  ·split
   ·rename_i e;exact name_wf hN e
   ·exact none_wf
  ·split
   ·exact monad_wf (headW hs (h1 n0))
   ·split
    ·have hw:=headW hs (h1 n0);dsimp only;split
     ·exact hw
     ·exact mM (by rw [List.length_take];have:=hw.len;omega) (fun s h=>hw.sr s (List.mem_of_mem_take h))
    ·split
     ·have hw:=headW hs (h1 n0);dsimp only;split
      ·exact hw
      ·exact mM hw.len hw.sr
     ·split
      ·exact dyad_wf (secondW hs (h2 n0)) (headW hs (h2 n0 |>Nat.le_of_succ_le))
      ·rename_i n1 n2 n3 n5 n6 n4;rw [if_neg n1,if_neg n2,if_neg n3,if_neg n5,if_neg n6,if_neg n4] at h0;have hx:=secondW hs (h2 n0);have hu:=headW hs (h2 n0 |>Nat.le_of_succ_le);refine mM ?_ (fun s h=>?_)
       ·rw [List.length_append];dsimp only at h0;split at h0
        ·cases h0
        ·omega
       ·rcases List.mem_append.1 h with h | h
        ·exact hx.sr s h
        ·exact hu.sr s h
theorem varT_wf(k:Nat):WfT (varT k):=⟨by simp [varT],fun s h=>(by cases h),fun v h=>by rw [List.mem_singleton.1 h];exact bFq _,fun _=>⟨by simp [varT],.inl ⟨rfl,rfl⟩⟩,fun h=>(by cases h)⟩
theorem varsT_wf: ∀{vars:List Bs} {k:Nat} {N:fI},nR N→nR (xB vars k N)
 | [],_,_,h=>h
 | s::r,k,N,h=>by
  show nR (xB r (k+1) ((s,varT k)::N));refine varsT_wf (fun q hq=>?_)
  rcases List.mem_cons.1 hq with rfl | hq
  ·exact varT_wf k
  ·exact h q hq
theorem insT_wf{vars:List Bs}: ∀{l:List dQ} {N:fI},(∀x∈l,x.sides.length≤4)→nR N→nR (bHc vars l N)
 | [],_,_,h=>h
 | x::r,N,hl,h=>by
  show nR (bHc vars r ((nIn++x.name,inT vars x)::N));refine insT_wf (fun y hy=>hl y (List.mem_cons_of_mem _ hy)) (fun q hq=>?_)
  rcases List.mem_cons.1 hq with rfl | hq
  ·refine mM ?_ (fun s hs=>?_)
   ·rw [List.length_map];exact hl x (List.mem_cons_self ..)
   ·obtain⟨d,_,rfl⟩:=List.mem_map.1 hs;unfold sideT';split
    ·exact bFq _
    ·exact oK _
  ·exact h q hq
theorem check_wf{p:fT}(h:(cI p).2=true):nR (nS p):=
 insT_wf (fun x hx=>((tN h).input x hx).2.1) (varsT_wf (fun q hq=>(by cases hq)))
def tJ (k:Bs):Prop:= ∀r,k≠jL++r∧k≠nIn++r
def bAl (N:kO)(NT:fI):Prop:= ∀k,tJ k→(∀v,xV k N=some v→nameT NT k=some v.t)∧(xV k N=none→ ∀t,nameT NT k=some t→ ∃p,t=⟨[],true,[p]⟩)
abbrev kT (st:List kY):List TyP:=st.map kY.t
theorem put_ok{t:TyP}{n:Nat}{st:List kY}{s:LoS}{x:List kY×LoS}(h:bAy t n st s= .ok x):x.1=⟨t,(s.bufs.length:Nat)⟩::st.drop n∧x.2=⟨s.bufs++[⟨t.sides,-1⟩],s.steps⟩∧s.bufs.length+1≤1024∧s.steps.length≤1024:=by
 unfold bAy at h;split at h
 ·cases h
 ·cases h;exact⟨rfl,rfl,n0,n0⟩
theorem headD_t{st:List kY}(h:1≤st.length):(kT st).headD default=(st.headD default).t:=by
 cases st with
 | nil=>simp at h
 | cons a l=>rfl
theorem item_sync{N:kO}{NT:fI}{it:cM}{st:List kY}{s:LoS}{x:List kY×LoS}(hN:bAl N NT)(hk:it.how=2→tJ it.name)(hd:dE it≤st.length)(h17:1≤it.how∧it.how≤7)
  (_he:(dL NT it (kT st)).2=0) (h:iS N it (dL NT it (kT st)).1 st s= .ok x):kT x.1=(dL NT it (kT st)).1::(kT st).drop (dE it):=by
 have fin: ∀{t n s},bAy t n st s= .ok x→n=dE it→kT x.1=t::(kT st).drop (dE it):=fun{t n s} h e=>by
  rw [(put_ok h).1,e];simp [kT]
 generalize hq:dL NT it (kT st)=q at h⊢;have h1:it.how=1∨it.how=2∨it.how=3∨it.how=4∨it.how=5∨it.how=6∨it.how=7:=n0
 unfold iS at h
 rcases h1 with e | e | e | e | e | e | e
 ·rw [if_pos e] at h;exact fin h ag5
 ·rw [if_neg n0,if_pos e] at h
  cases ev:xV it.name N with
  | none=>rw [ev] at h;exact fin h ag5
  | some v=>
   rw [ev] at h;cases h;have:=(hN it.name (hk e)).1 v ev
   have e2:q.1=v.t:=by
    rw [←hq];unfold dL;rw [if_neg n0,if_pos e,this]
   rw [e2];simp [dE,e]
 ·rw [if_neg n0,if_neg n0,if_pos e] at h;exact fin h ag5
 ·rw [if_neg n0,if_neg n0,if_neg n0,if_neg n0,if_pos e] at h
  cases ev:pK it.fn (st.tail.headD default) (st.headD default) q.1 s with
  | none=>rw [ev] at h;cases h
  | some s'=>rw [ev] at h;exact fin h ag5
 ·rw [if_neg n0,if_neg n0,if_neg n0,if_pos (.inl e)] at h;have h1:1≤st.length:=by simpa [dE,e] using hd
  split at h
  ·rename_i hs;cases h
   have e2:q.1=(st.headD default).t:=by
    rw [←hq];unfold dL;rw [if_neg n0,if_neg n0,if_neg n0,if_pos e,headD_t h1,if_pos hs]
   match st,h1 with
   | a::r,_=>rw [e2];simp [dE,e]
  ·exact fin h ag5
 ·rw [if_neg n0,if_neg n0,if_neg n0,if_pos (.inr e)] at h;have h1:1≤st.length:=by simpa [dE,e] using hd
  split at h
  ·rename_i hs;cases h
   have e2:q.1=(st.headD default).t:=by
    rw [←hq];unfold dL;rw [if_neg n0,if_neg n0,if_neg n0,if_neg n0,if_pos e,headD_t h1,if_pos hs]
   match st,h1 with
   | a::r,_=>rw [e2];simp [dE,e]
  ·exact fin h ag5
 ·rw [if_neg n0,if_neg n0,if_neg n0,if_neg n0,if_neg n0] at h;exact fin h ag5
theorem bGg{NT:fI}: ∀{l:List cM} {st done:List TyP} {r:List TyP×List TyP},jN NT l st done= .ok r→ ∃x,r.2=done++x∧x.length=l.length
 | [],_,_,_,h=>by cases h;exact⟨[],o3,rfl⟩
 | it::l,st,done,r,h=>by
  rw [jN] at h;split at h
  ·cases h
  ·obtain⟨x,e,hx⟩:=bGg h;exact⟨_::x,by rw [e,List.append_assoc];rfl,by simp [hx]⟩
theorem lineT_at{NT:fI}{it:cM}{l:List cM}{st done:List TyP}{r:List TyP×List TyP}(h:jN NT (it::l) st done= .ok r):
  (dL NT it st).2=0∧r.2.drop done.length=(dL NT it st).1::r.2.drop (done.length+1)∧jN NT l ((dL NT it st).1::st.drop (dE it)) (done++[(dL NT it st).1])= .ok r:=by
 rw [jN] at h;split at h
 ·cases h
 ·rename_i he;refine⟨by simpa using he,?_,h⟩;obtain⟨x,e,_⟩:=bGg h;rw [e,List.append_assoc,List.drop_left,List.singleton_append]
  congr 1
  rw [show done++((dL NT it st).1::x)=(done++[(dL NT it st).1])++x by simp];have:done.length+1=(done++[(dL NT it st).1]).length:=by simp
  rw [this,List.drop_left]
theorem depth_at{x:cM}{l:List cM}{n:Nat}(h:mF (x::l) n=some 1):(dE x≤n∧1≤x.how∧x.how≤7∧(x.how=1→x.nums≠[]∧x.nums.length≤65536))∧mF l (n-dE x+1)=some 1:=by
 rw [mF] at h;split at h
 ·rename_i hb;exact⟨hb,h⟩
 ·cases h
theorem bNi{a b:Bs}:jL++a≠nIn++b:=fun h=>by simp [jL,nIn] at h
theorem sync_add{N:kO}{NT:fI}(h:bAl N NT)(s:Bs)(v:kY):bAl ((s,v)::N) ((jL++s,v.t)::NT):=fun k hk=>by
 have e1:nameT ((jL++s,v.t)::NT) k=if k=s then some v.t else nameT NT k:=by
  unfold nameT;rw [mI,mI,mI]
  by_cases e:k=s
  ·subst e;simp
  ·rw [if_neg (show ¬jL++k=jL++s from fun h=>e (List.append_cancel_left h)),if_neg (show ¬nIn++k=jL++s from fun h=>bNi h.symm),if_neg (hk s).1,if_neg e]
 rw [e1,xV]
 by_cases e:k=s
 ·rw [if_pos e,if_pos e];exact⟨fun w hw=>(by cases hw;rfl),fun hw=>(by cases hw)⟩
 ·rw [if_neg e,if_neg e];exact h k hk
theorem zV: ∀{l:List Bs} {k:Nat} {N:fI} {q:Bs},(∀s∈l,tJ s)→(∃r,q=jL++r∨q=nIn++r)→mI q (xB l k N)=mI q N
 | [],_,_,_,_,_=>rfl
 | s::l,k,N,q,h,hq=>by
  rw [xB,zV (fun x hx=>h x (List.mem_cons_of_mem _ hx)) hq,mI,if_neg];rintro rfl;obtain⟨r,e | e⟩:=hq
  ·exact(h q (List.mem_cons_self ..) r).1 e
  ·exact(h q (List.mem_cons_self ..) r).2 e
theorem bQn: ∀{l:List Bs} {k:Nat} {N:fI} {q:Bs} {t:TyP},(∀t,mI q N=some t→ ∃p,t=⟨[],true,[p]⟩)→mI q (xB l k N)=some t→ ∃p,t=⟨[],true,[p]⟩
 | [],_,_,_,_,hN,h=>hN _ h
 | s::l,k,N,q,t,hN,h=>by
  rw [xB] at h;refine bQn (fun u hu=>?_) h;rw [mI] at hu;split at hu
  ·cases hu;exact⟨_,rfl⟩
  ·exact hN u hu
theorem ins_sync{vars:List Bs}: ∀{l:List dQ} {i:Nat} {N:kO} {NT:fI},bAl N NT→(∀r,mI (jL++r) NT=none)→bAl (xC vars i l N) (bHc vars l NT)∧ ∀r,mI (jL++r) (bHc vars l NT)=none
 | [],_,_,_,h,k=>⟨h,k⟩
 | x::l,i,N,NT,h,k=>by
  rw [xC,bHc];refine ins_sync (fun q hq=>?_) (fun r=>by rw [mI,if_neg bNi];exact k r)
  have e1:nameT ((nIn++x.name,inT vars x)::NT) q=if q=x.name then some (inT vars x) else nameT NT q:=by
   unfold nameT;rw [mI,mI,mI,if_neg bNi,k q]
   by_cases e:q=x.name
   ·subst e;simp
   ·rw [if_neg (show ¬nIn++q=nIn++x.name from fun h=>e (List.append_cancel_left h)),if_neg (hq x.name).2,if_neg e]
  rw [e1,xV]
  by_cases e:q=x.name
  ·rw [if_pos e,if_pos e];exact⟨fun w hw=>(by cases hw;rfl),fun hw=>(by cases hw)⟩
  ·rw [if_neg e,if_neg e];exact h q hq
theorem start_sync{p:fT}(hv: ∀s∈cW p,tJ s):bAl (xC (cW p) 0 p.inputs []) (nS p):=by
 refine(ins_sync (fun k hk=>⟨fun v hv=>(by cases hv),fun _ t ht=>?_⟩) (fun r=>by rw [zV hv ⟨r,.inl rfl⟩];rfl)).1;unfold nameT at ht;rw [zV hv ⟨k,.inl rfl⟩,zV hv ⟨k,.inr rfl⟩] at ht;exact bQn (fun t h=>by cases h) ht
theorem word_plain{s:Bs}(h:bSs s):tJ s:=fun r=>by
 have hb:mG 32=false:=o8
 constructor
 all_goals
  intro e;have:=h.all 32 (by rw [e];simp [jL,nIn]);rw [hb] at this;cases this
theorem bNt{s:Bs}(h:cT s=true):tJ s:=word_plain (lZ h)
theorem step_name{st st':List dY}{x:cM}(h:gS st x=some st')(k:x.how=2):cT x.name=true:=by
 unfold gS at h;rw [if_pos (.inr k)] at h;unfold operandS at h;split at h
 ·split at h
  ·rename_i hb;exact hb.2.2
  ·simp at h
 ·rename_i h2;exact absurd k h2
theorem bOi: ∀{l:List cM} {st st':List dY},dZ l st=some st'→ ∀x∈l,x.how=2→cT x.name=true
 | [],_,_,_,x,hx=>by simp at hx
 | y::l,st,st',h,x,hx=>by
  rw [dZ] at h
  cases h1:gS st y with
  | none=>rw [h1] at h;cases h
  | some s1=>
   rw [h1] at h
   rcases List.mem_cons.1 hx with rfl | hx
   ·exact step_name h1
   ·exact bOi h x hx
theorem bPx{l:List cM}{m:Nat}{t:Bs}(h:fO l m=some t): ∀x∈l,x.how=2→cT x.name=true:=by
 unfold fO at h;split at h
 ·cases h
 ·split at h
  ·rename_i hq;exact bOi hq
  ·cases h
theorem bOr: ∀{ls:List iD} {o o':Bs},dN ls o=(o',true)→ ∀l∈ls,∀x∈l.items,x.how=2→cT x.name=true
 | [],_,_,_,l,hl=>by simp at hl
 | [m],o,o',h,l,hl=>by
  rw [List.mem_singleton.1 hl];simp only [dN] at h
  cases hx:fO m.items 255 with
  | none=>rw [hx] at h;simp at h
  | some t=>exact bPx hx
 | m::n::ls,o,o',h,l,hl=>by
  have h':(match fO m.items 254 with
    | none=>(o,false)
    | some t=>if cT m.name=false then (o,false) else dN (n::ls) (o++(((m.name++[58,32])++t)++[10])))=(o',true):=h
  cases hx:fO m.items 254 with
  | none=>rw [hx] at h';simp at h'
  | some t=>
   rw [hx] at h';simp only at h';split at h'
   ·simp at h'
   ·rcases List.mem_cons.1 hl with rfl | hl
    ·exact bPx hx
    ·exact bOr h' l hl
theorem xJ: ∀{ds:List oA} {acc t:Bs},jZ ds acc=some t→ ∀d∈ds,d.name=[]∨cT d.name=true
 | [],_,_,_,d,hd=>by simp at hd
 | e::ds,acc,t,h,d,hd=>by
  rw [jZ] at h;split at h
  ·rename_i he
   rcases List.mem_cons.1 hd with rfl | hd
   ·exact .inl he
   ·exact xJ h d hd
  ·split at h
   ·rename_i hb
    rcases List.mem_cons.1 hd with rfl | hd
    ·exact .inr hb.2
    ·exact xJ h d hd
   ·cases h
theorem bEm: ∀{xs:List dQ} {o o':Bs},gZ xs o=(o',true)→ ∀x∈xs,∀d∈x.sides,d.name=[]∨cT d.name=true
 | [],_,_,_,x,hx=>by simp at hx
 | y::xs,o,o',h,x,hx=>by
  rw [gZ] at h
  cases hi:mD y with
  | none=>rw [hi] at h;simp at h
  | some t=>
   rw [hi] at h;simp only at h
   rcases List.mem_cons.1 hx with rfl | hx
   ·unfold mD at hi;split at hi
    ·cases hi
    ·exact xJ hi
   ·exact bEm h x hx
theorem bLo: ∀{ds:List oA} {out:List Bs},(∀s∈out,cT s=true)→(∀d∈ds,d.name=[]∨cT d.name=true)→ ∀s∈uG ds out,cT s=true
 | [],_,h,_=>h
 | d::ds,out,h,k=>by
  rw [uG];refine bLo (fun s hs=>?_) (fun x hx=>k x (List.mem_cons_of_mem _ hx));split at hs
  ·exact h s hs
  ·rename_i hn
   rcases List.mem_append.1 hs with hs | hs
   ·exact h s hs
   ·rw [List.mem_singleton.1 hs]
    rcases k d (List.mem_cons_self ..) with e | e
    ·exact absurd (.inl e) hn
    ·exact e
theorem bHp{p:fT}(h:(cI p).2=true):(∀l∈p.lines,∀x∈l.items,x.how=2→tJ x.name)∧ ∀s∈cW p,tJ s:=by
 unfold cI at h;split at h
 ·cases h
 ·cases hi:gZ p.inputs [] with
  | mk o b=>
   rw [hi] at h
   cases b with
   | false=>cases h
   | true=>
    refine⟨fun l hl x hx k=>bNt (bOr (o':=(dN p.lines o).1) (Prod.ext rfl h) l hl x hx k),fun s hs=>bNt (bLo (fun s hs=>(by cases hs)) (fun d hd=>?_) s hs)⟩;obtain⟨x,hx,hd⟩:=List.mem_flatMap.1 hd;exact bEm hi x hx d hd
theorem name_val{N:kO}{NT:fI}{it:cM}{st:List TyP}(hN:bAl N NT)(hp:tJ it.name)(h2:it.how=2)(he:(dL NT it st).2=0)(hl:xV it.name N=none):0<(dL NT it st).1.values.length:=by
 unfold dL at he⊢;rw [if_neg n0,if_pos h2] at he⊢
 cases e:nameT NT it.name with
 | none=>rw [e] at he;simp at he
 | some t=>
  obtain⟨p,rfl⟩:=(hN _ hp).2 hl t e;simp
theorem bKg{take:Bool}{a b:TyP}(ha:WfT a)(h:(lX take a b).2=0):0<a.values.length:=by
 unfold lX at h;split at h
 ·simp at h
 ·rename_i h1;split at h
  ·simp at h
  ·rename_i h2;have hk:a.known=true:=by simpa using h2
   have h1:a.sides=[]:=by
    cases hs:a.sides with
    | nil=>rfl
    | cons x r=>exact absurd (.inl (by rw [hs];simp)) h1
   rcases (ha.kn hk).2 with ⟨_,e⟩ | e
   ·omega
   ·rw [h1] at e;cases e
theorem part_val{NT:fI}{it:cM}{st:List TyP}(hs:WfT (st.tail.headD default))(h4:it.how=4)(hf:it.fn=38∨it.fn=39)(he:(dL NT it st).2=0):0<(st.tail.headD default).values.length:=by
 unfold dL at he;rw [if_neg n0,if_neg n0,if_neg n0,if_neg n0,if_neg n0,if_pos h4] at he;unfold pV at he;rw [if_neg n0] at he;split at he
 ·exact bKg hs he
 ·rw [if_pos n0] at he;exact bKg hs he
theorem item_fits{N:kO}{it:cM}{t:TyP}{st:List kY}{s:LoS}{x:List kY×LoS}(h:iS N it t st s= .ok x)(hb:s.bufs.length≤1024)(hs:s.steps.length≤1024):x.2.bufs.length≤1024∧x.2.steps.length≤1024:=by
 have fin: ∀{n s},bAy t n st s= .ok x→x.2.bufs.length≤1024∧x.2.steps.length≤1024:=fun{n s} k=>by
  obtain⟨_,e,h1,h2⟩:=put_ok k;rw [e];exact⟨by simpa using h1,h2⟩
 unfold iS at h;split at h
 ·exact fin h
 ·split at h
  ·split at h
   ·cases h;exact⟨hb,hs⟩
   ·exact fin h
  ·split at h
   ·exact fin h
   ·split at h
    ·split at h
     ·cases h;exact⟨hb,hs⟩
     ·exact fin h
    ·split at h
     ·split at h
      ·cases h
      ·exact fin h
     ·exact fin h
def OkV (s:LoS)(v:kY):Prop:= ∃k:Nat,v.buf=(k:Int)∧ ∃b,s.bufs[k]?=some b∧b.sides=v.t.sides
theorem pre_get{α:Type}{a b:List α}(h:a<+:b){k:Nat}{x:α}(e:a[k]?=some x):b[k]?=some x:=by
 obtain⟨r,rfl⟩:=h;rw [List.getElem?_append_left (List.getElem?_eq_some_iff.1 e).1];exact e
theorem OkV.ext{s s':LoS}{v:kY}(h:OkV s v)(e:Ext s s'):OkV s' v:=by
 obtain⟨k,hk,b,hb,hs⟩:=h;exact⟨k,hk,b,pre_get e.1 hb,hs⟩
end Go.Proofs.YtakphiannlpnfaaGreatDoor
