/- Texts of one proof, one behind the other: MeanA, MeanB, NameT, OwnT, MeanC, ItemT, NewT, WfP, LowB, LowC, LowS, MeanD. -/
import Derived.Test.YtakphiannlpnfaaGreatDoorM2
import Derived.Test.YtakphiannlpnfaaGreatDoorM13
import Derived.Test.YtakphiannlpnfaaGreatDoorM11
namespace Go.Proofs.YtakphiannlpnfaaGreatDoor
open Go.RowKit Go.Proofs.Tryz
set_option maxRecDepth 100000
theorem yX(k k':Bs)(v:Value): ∀kv:KVS,nF k (mA k' v kv)=if k==k' then some v else nF k kv
 | []=>by
  unfold mA nF;rfl
 | p::r=>by
  have ih:=yX k k' v r;unfold mA
  by_cases h':k'=p.1
  ·rw [if_pos (beq_iff_eq.2 h')]
   by_cases h:k=k'
   ·rw [if_pos (beq_iff_eq.2 h),nF,if_pos (beq_iff_eq.2 h)]
   ·rw [if_neg ab4,nF,if_neg ab4,nF,if_neg (by simpa [h'] using fun e=>h (e.trans h'.symm))]
  ·rw [if_neg (by simpa using h')]
   by_cases h:k=p.1
   ·have hk: ¬k=k':=fun e=>h' (e.symm.trans h);rw [if_neg (by simpa using hk),nF,if_pos (beq_iff_eq.2 h),nF,if_pos (beq_iff_eq.2 h)]
   ·rw [nF,if_neg ab4,ih];split
    ·rfl
    ·rw [nF,if_neg ab4]
def SeenR (kv:KVS)(out:List Bs):Prop:= ∀k,(nF k kv).getD (.bool false)= .bool (k==[] || out.contains k)
theorem seen_start:SeenR (mA [] (.bool true) []) []:=fun k=>by
 rw [yX];cases hk:k==[]
 ·rfl
 ·rfl
theorem seen_add{kv:KVS}{out:List Bs}(h:SeenR kv out)(s:Bs):SeenR (mA s (.bool true) kv) (out++[s]):=fun k=>by
 rw [yX];cases hk:k==s
 ·have hk': ¬k=s:=by simpa using hk
  have e:(out++[s]).contains k=out.contains k:=by simp [hk']
  rw [e];exact h k
 ·have hk':k=s:=by simpa using hk
  subst hk';simp
theorem zeroB(w:World):(zeroValue 4).run prog w= .ok (.bool false) w:=o0
theorem mapSB:prog.underlying 123=some (.map 9 4):=o0
def uX (p:gQ)(rest:List rE)(out:List Bs)(kv:KVS):Prop:=SeenR kv out∧tZ rest out=cW p∧out.length+rest.length≤8000000000000
section
variable {p : gQ} {l : List hO} {x : hO} {ds R : List rE} {d : rE} {out : List Bs} {kv : KVS} {i j : Nat}
theorem va_start(h:(iZ p.inputs).length≤8000000000000):uX p (iZ (p.inputs.drop 0)) [] (mA [] (.bool true) []):=⟨seen_start,rfl,by simpa using h⟩
theorem va_in(h:uX p (iZ (l.drop i)) out kv)(hx:l[i]?=some x):uX p (x.sides.drop 0++iZ (l.drop (i+1))) out kv:=by
 rw [fV hx] at h;exact h
theorem va_skip(h:uX p (ds.drop j++R) out kv)(hd:ds[j]?=some d)(hs:(d.name==[] || out.contains d.name)=true):uX p (ds.drop (j+1)++R) out kv:=by
 rw [fV hd,List.cons_append] at h;obtain⟨a,b,c⟩:=h;refine⟨a,?_,by simp at c⊢;omega⟩;rw [tZ,if_pos (by simpa using hs)] at b;exact b
theorem va_add(h:uX p (ds.drop j++R) out kv)(hd:ds[j]?=some d)(hs:(d.name==[] || out.contains d.name)=false):uX p (ds.drop (j+1)++R) (out++[d.name]) (mA d.name (.bool true) kv):=by
 rw [fV hd,List.cons_append] at h;obtain⟨a,b,c⟩:=h;refine⟨seen_add a _,?_,by simp at c⊢;omega⟩;rw [tZ,if_neg (by simpa using hs)] at b;exact b
theorem va_len(h:uX p (ds.drop j++R) out kv)(hd:ds[j]?=some d):out.length+1≤8000000000000:=by
 rw [fV hd,List.cons_append] at h;have:=h.2.2;simp at this;omega
theorem va_out(h:uX p (ds.drop j++R) out kv)(hj:ds.length≤j):uX p R out kv:=by
 rw [sK hj] at h;exact h
theorem va_end(h:uX p (iZ (l.drop i)) out kv)(hi:l.length≤i):cW p=out:=by
 rw [sK hi] at h;exact h.2.1.symm
end
theorem bFv(P:ProgV)(hl1:P.inputs.list.length≤140737488355328)(hs: ∀x∈P.inputs.list,x.sides.list.length≤140737488355328)(hTT:(iZ P.pr.inputs).length≤8000000000000):cN prog 15 [.agg #[.slice P.inputs.addr P.inputs.list.length P.inputs.cap,.slice P.lines.addr P.lines.list.length P.lines.cap]] [] [jT.sl (.slice P.inputs.addr P.inputs.list.length P.inputs.cap) P.inputs.list,iO P.inputs.list] (fun(x:Option Addr×Nat)=> .slice x.1 (cW P.pr).length x.2) (fun _=>[]) (fun(x:Option Addr×Nat)=>[mJ.sl (.slice x.1 (cW P.pr).length x.2) (cW P.pr),Fact.pure ((cW P.pr).length≤x.2)]):=by
 have hT:=meanT_ok;refine k8 func15 ntmps15 ?_;intro β hM;refine g2 ?_;refine j9 fun b1=>?_;refine g10 ?_;refine yB rfl rfl rfl rfl fun r2=>?_;refine kL .head rfl (.inr rfl) rfl mapSB underlying9 rfl rfl rfl ?_;refine g6 ?_;refine cH (t:=9) mJ ?_;refine g8 ?_;refine cE (ι:=Nat×KVS×List Bs×Option Addr×Nat) [(4,_),(12,_),(13,_)] ⟨rfl,rfl,rfl,j2⟩ (fun⟨i,kv,vs,A1,c1⟩=>[(3,.slice A1 vs.length c1),(14,.int .i64 (i:Nat))]) (fun⟨i,kv,vs,A1,c1⟩=>[pB r2 kv,mJ.row (.slice A1 vs.length c1) 9 vs]) (fun⟨i,kv,vs,A1,c1⟩=>[Fact.pure (i≤P.inputs.list.length∧uX P.pr (iZ (P.pr.inputs.drop i)) vs kv)]) (fun⟨i,kv,vs,A1,c1⟩=>P.inputs.list.length-i) (0,mA [] (.bool true) [],[],none,0) ⟨rfl,rfl,j2⟩ (.c1 (.c0 .nil)) ⟨j3 (⟨n9,va_start hTT⟩),j2⟩ ?_;rintro⟨i,kv,vs,A1,c1⟩;dsimp only;refine bC d7 fun hinv4=>?_;refine g6 ?_;refine dM (fun hc15=>?_) fun hc15=>?_
 ·refine g6 ?_;obtain⟨x3,hx4⟩:=gx P.inputs.list i;refine ss (ixs i) ?_;refine ss (lY hx4 0) ?_;refine j6 kD fun b5=>?_;refine g4 ?_;have hx0:P.pr.inputs[i]?=some x3.inp:=rM hx4;have hxs:=hs x3 (j4 hx4);refine bB (qQ x3) (Has.each d9 (j4 hx4)) ?_;refine g8 ?_;refine cE (ι:=Nat×KVS×List Bs×Option Addr×Nat) [(4,_),(12,_),(13,_),(14,_),(19,_),(20,_)] ⟨rfl,rfl,rfl,rfl,rfl,rfl,j2⟩ (fun⟨j,kv2,vs2,A2,c2⟩=>[(3,.slice A2 vs2.length c2),(21,.int .i64 (j:Nat))]) (fun⟨j,kv2,vs2,A2,c2⟩=>[pB r2 kv2,mJ.row (.slice A2 vs2.length c2) 9 vs2]) (fun⟨j,kv2,vs2,A2,c2⟩=>[Fact.pure (j≤x3.sides.list.length∧uX P.pr (x3.inp.sides.drop j++iZ (P.pr.inputs.drop (i+1))) vs2 kv2)]) (fun⟨j,kv2,vs2,A2,c2⟩=>x3.sides.list.length-j) (0,kv,vs,A1,c1) ⟨rfl,rfl,j2⟩ (.c1 (.c1 .nil)) ⟨j3 (⟨n9,va_in hinv4.2 hx0⟩),j2⟩ ?_;rintro⟨j,kv2,vs2,A2,c2⟩;dsimp only;refine bC d7 fun hinv7=>?_;refine g6 ?_;refine dM (fun hc22=>?_) fun hc22=>?_
  ·refine g6 ?_;obtain⟨x6,hx7⟩:=gx x3.sides.list j;refine ss (ixs j) ?_;refine ss (lY hx7 0) ?_;refine j6 wS fun b8=>?_;refine g4 ?_;have hd0:x3.inp.sides[j]?=some x6.sd:=rM hx7;have hvl:=va_len hinv7.2 hd0;refine g4 ?_;refine ss (sti_lookupS (kC kT1) rfl mapSB underlying9 zeroB rfl rfl (hinv7.2.1 x6.name)) ?_;refine g3 ?_;refine jB (fun hc29=>?_) fun hc29=>?_
   ·refine g5 ?_;refine kL kT1 rfl (.inl rfl) rfl mapSB underlying9 rfl rfl rfl ?_;refine g6 ?_;refine jJ (m:=x6.name) rfl rfl rfl rfl rfl fun b9=>?_;refine lI kT3 (cA .head rfl) rfl rfl rfl rfl rfl rfl rfl r8 fun A10 c11=>?_;refine g6 ?_;refine inc (j+1) ?_;refine g3 ?_;exact bk2 (j+1,(mA x6.name (.bool true) kv2),(vs2++[x6.name]),A10,c11) ⟨j3 (⟨by dsimp only;omega,va_add hinv7.2 hd0 (by first | assumption | (simpa using ‹_›))⟩),j2⟩
   refine g5 ?_;refine inc (j+1) ?_;refine g3 ?_;exact bk2 (j+1,kv2,vs2,A2,c2) ⟨j3 (⟨by dsimp only;omega,va_skip hinv7.2 hd0 (by first | assumption | (simpa using ‹_›))⟩),j2⟩
  refine g8 ?_;refine inc (i+1) ?_;refine g3 ?_;exact bk2 (i+1,kv2,vs2,A2,c2) ⟨j3 (⟨by dsimp only;omega,va_out hinv7.2 af2⟩),j2⟩
 refine g12 ?_;have he:=va_end hinv4.2 (by show(P.inputs.list.map InputV.inp).length≤i;rw [List.length_map];omega);rw [he];refine bV kT1 fun hvc=>bE kT1 ?_;exact rs1 (A1,c1) ⟨d7,j3 hvc,j2⟩
def ArrV.v(x:ArrV):Value:= .agg #[.slice x.sides.addr x.sides.list.length x.sides.cap,.slice x.data.addr x.data.list.length x.data.cap]
section
variable {p : gQ} {dims : List Int} {ins : List Arr} {x : hO}
theorem vG(h:(cX p).2=true):(iZ p.inputs).length≤256:=by
 have hf:=wH h
 have key: ∀l:List hO,(∀x∈l,x.sides.length≤4)→(iZ l).length≤4*l.length:=by
  intro l
  induction l with
  | nil=>intro _;simp [iZ]
  | cons x r ih=>
   intro hx;have e:iZ (x::r)=x.sides++iZ r:=rfl;have h1:=hx x (List.mem_cons_self ..);have h2:=ih fun y hy=>hx y (List.mem_cons_of_mem _ hy);rw [e,List.length_append,List.length_cons];omega
 have:=key p.inputs fun x hx=>(hf.input x hx).2.1;have:=hf.ins;omega
end
def bCo (vars:List Bs)(d:rE):Bool:=(d.name==[]&&bNu d.n) || decide (6≤iJ d.name vars 0)
section
variable {vars : List Bs} {l : List hO} {x : hO} {ds : List rE} {d : rE} {i j : Nat}
def bDu (vars:List Bs)(l:List hO)(i:Nat):Prop:=l.find? (bOv vars)=(l.drop i).find? (bOv vars)
def bIl (vars:List Bs)(ds:List rE)(j:Nat):Prop:=ds.any (bCo vars)=(ds.drop j).any (bCo vars)
theorem few_start:bDu vars l 0:=by simp [bDu]
theorem few_in:bIl vars ds 0:=by simp [bIl]
theorem bJr(h:bDu vars l i)(hx:l[i]?=some x)(k:bIl vars x.sides j)(hd:x.sides[j]?=some d)(hs:bCo vars d=true):l.find? (bOv vars)=some x:=by
 have e:bOv vars x=true:=by
  show x.sides.any (bCo vars)=true;rw [k,fV hd,List.any_cons,hs];rfl
 rw [h,fV hx,List.find?_cons,e]
theorem few_next(k:bIl vars ds j)(hd:ds[j]?=some d)(hs:bCo vars d=false):bIl vars ds (j+1):=by
 unfold bIl at k⊢;rw [k,fV hd,List.any_cons,hs,Bool.false_or]
theorem few_out(h:bDu vars l i)(hx:l[i]?=some x)(k:bIl vars x.sides j)(hj:x.sides.length≤j):bDu vars l (i+1):=by
 have e:bOv vars x=false:=by
  show x.sides.any (bCo vars)=false;rw [k,sK hj];rfl
 unfold bDu at h⊢;rw [h,fV hx,List.find?_cons,e]
theorem few_end(h:bDu vars l i)(hi:l.length≤i):l.find? (bOv vars)=none:=by
 unfold bDu at h;rw [h,sK hi];rfl
theorem fs_a(hn:d.name=[])(hb:bNu d.n=true):bCo vars d=true:=by simp [bCo,hn,hb]
theorem fs_b(h:6≤iJ d.name vars 0):bCo vars d=true:=by simp [bCo,h]
theorem fs_c(hb:bNu d.n=false)(h:iJ d.name vars 0<6):bCo vars d=false:=by
 have: ¬6≤iJ d.name vars 0:=n9
 simp [bCo,hb,this]
theorem fs_d(hn:d.name≠[])(h:iJ d.name vars 0<6):bCo vars d=false:=by
 have: ¬6≤iJ d.name vars 0:=n9
 simp [bCo,hn,this]
end
theorem bRt: ∀(ds:List rE) (out:List Bs),(tZ ds out).length≤out.length+ds.length
 | [],out=>by simp [tZ]
 | d::r,out=>by
  have ih:=bRt r (if d.name=[]∨out.contains d.name=true then out else out++[d.name]);rw [tZ];split at ih
  ·rename_i h;rw [if_pos h];simp;omega
  ·rename_i h;rw [if_neg h];simp at ih⊢;omega
theorem vars_le(p:gQ):(cW p).length≤(iZ p.inputs).length:=by
 have:=bRt (iZ p.inputs) []
 simpa [cW] using this
abbrev NamesTV:=List (Bs×TyV)
def lA (k:Bs):NamesTV→Option TyV
 | []=>none
 | p::r=>if k=p.1 then some p.2 else lA k r
def jM (NV:NamesTV):fM:=NV.map fun p=>(p.1,p.2.t)
theorem nR(k:Bs): ∀NV:NamesTV,mB k (jM NV)=(lA k NV).map TyV.t
 | []=>rfl
 | p::r=>by
  have ih:=nR k r;unfold jM at ih⊢;rw [List.map_cons,mB,lA];split
  ·rfl
  ·exact ih
theorem bLb{k:Bs}{a:TyV}: ∀{NV:NamesTV},lA k NV=some a→ ∃p∈NV,p.2=a
 | [],h=>by cases h
 | p::r,h=>by
  rw [lA] at h;split at h
  ·injection h with h
   exact⟨p,List.mem_cons_self ..,h⟩
  ·obtain⟨q,hq,e⟩:=bLb h;exact⟨q,List.mem_cons_of_mem _ hq,e⟩
def rU (kv:KVS)(NV:NamesTV):Prop:= ∀k,nF k kv=(lA k NV).map tyC
theorem nrT_start:rU [] []:=fun _=>rfl
theorem nrT_add{kv:KVS}{NV:NamesTV}(h:rU kv NV)(s:Bs)(a:TyV):rU (mA s (tyC a) kv) ((s,a)::NV):=fun k=>by
 rw [yX,lA]
 by_cases e:k=s
 ·rw [if_pos (beq_iff_eq.2 e),if_pos e];rfl
 ·rw [if_neg (by simpa using e),if_neg e];exact h k
def oZ (NV:NamesTV):Fact:=Fact.each NV fun p=>tyF p.2
theorem bNb{F:List Fact}{NV:NamesTV}{k:Bs}{a:TyV}(h:Has F (oZ NV))(e:lA k NV=some a):Has F (tyF a):=by
 obtain⟨p,hp,e⟩:=bLb e;rw [←e];exact Has.each h hp
theorem mapT:prog.underlying 95=some (.map 9 43):=o0
theorem bGj(w:World):(zeroValue 43).run prog w= .ok (.agg #[.slice none 0 0,.bool false,.slice none 0 0]) w:=o0
theorem bOw{β:dE}{n:Nat}{Γ:Env}{H:List bH}{F:List Fact}{Q:Exit→Act→World→Prop}{ops:Array Oper}{rest:List Oper}{o:Oper}{d:Nat}{x y z:Operand}{u v q:Bs}(hw:want ops Γ o=some true)(ho:o.op= .buildSlice 69 3 #[(0,x),(1,y),(2,z)])(hd:o.dst=some d)(hn:Nat.blt d n=true)
  (hx:Γ.ev x=some (.string (bs u))) (hy:Γ.ev y=some (.string (bs v))) (hz':Γ.ev z=some (.string (bs q))) (k: ∀b,At β n ((d,.slice (some ⟨b,0,none⟩) 3 3)::Γ) (.obj b (.cells (mJ.all [u,v,q]).toArray 9)::H) F (wpList prog ops Q rest)):At β n Γ H F (wpList prog ops Q (o::rest)):=by
 obtain⟨i,hi,hz,hs,_⟩:=strInfo;refine qS (m:=3) hw ho hd hn (fun a w f=>?_) k
 have:=run_buildSlice (P:=prog) w 69 9 3 #[(0,a.eval x),(1,a.eval y),(2,a.eval z)] (mJ.all [u,v,q]).toArray i (.string (bs [])) underlying69 hi hz n9 n9 (by
  rw [f.ev hx,f.ev hy,f.ev hz',hs]
  kernel_rfl)
 simpa using this
section
variable {s : Bs} {NV : NamesTV} {a : TyV}
theorem name_0(h:lA (jN++s) NV=some a):nameT (jM NV) s=some a.t:=by
 unfold nameT;rw [nR,h];rfl
theorem name_1(h0:lA (jN++s) NV=none)(h:lA (nIn++s) NV=some a):nameT (jM NV) s=some a.t:=by
 unfold nameT;rw [nR,h0,nR,h];rfl
theorem name_2(h0:lA (jN++s) NV=none)(h1:lA (nIn++s) NV=none)(h:lA s NV=some a):nameT (jM NV) s=some a.t:=by
 unfold nameT;rw [nR,h0,nR,h1,nR,h];rfl
theorem name_3(h0:lA (jN++s) NV=none)(h1:lA (nIn++s) NV=none)(h:lA s NV=none):nameT (jM NV) s=none:=by
 unfold nameT;rw [nR,h0,nR,h1,nR,h];rfl
end
def chkO (cb mb:Nat):bH:= .obj cb (.cells [.map (some mb)].toArray 97)
def noTy:TyV:=⟨⟨none,0,[]⟩,false,⟨none,0,[]⟩⟩
theorem noTy_F{F:List Fact}:Has F (tyF noTy):=bW cI cI
theorem wA:prog.built 43 []=some #[.slice none 0 0,.bool false,.slice none 0 0]:=o0
theorem nameT_spec(cb mb:Nat)(kv:KVS)(NV:NamesTV)(hN:rU kv NV)(s:Bs)(hs:s.length≤140737488355328):cN prog 48 [.pointer (some ⟨cb,0,none⟩),.string (bs s)] [chkO cb mb,pB mb kv] [oZ NV] (fun(x:TyV)=> .tuple #[tyC x,.bool (nameT (jM NV) s).isSome]) (fun _=>[chkO cb mb,pB mb kv]) (fun(x:TyV)=>[tyF x,Fact.pure (x.t=(nameT (jM NV) s).getD ⟨[],false,[]⟩)]):=by
 have hT:=fC;generalize hR:nameT (jM NV) s=r;refine k8 func48 ntmps48 ?_;intro β hM;refine g2 ?_;refine j6 pO fun b1=>?_;refine g7 ?_;refine ss (iN rfl rfl rfl r8) ?_;refine one ?_;refine ss (iN rfl rfl rfl r8) ?_;refine one ?_;refine bOw (u:=jN++s) (v:=nIn++s) (q:=s) rfl rfl rfl rfl rfl rfl rfl fun b2=>?_;refine bQ (E:=mJ) (xs:=[jN++s,nIn++s,s]) .head q8<|bE .head ?_;refine g5 ?_;refine at_rounds 4 ?_;refine bEp ?_;refine g3 ?_;refine bL (t':=true) p7 ?_;refine g10 ?_;refine ss (cJ hT (k:=0) (cD d7) rfl rfl rfl rfl rfl rfl rfl o9) ?_;refine ss (j7 hT (dQ.knows (cD d7) (k:=0) (x:=(jN++s)) rfl 0)) ?_;refine g4 ?_
 rcases hlk0:lA (jN++s) NV with _ | a
 ·refine g6 ?_;refine ss (kF (kC kT2) rfl mapT underlying9 bGj rfl rfl (v:= .tuple #[tyC noTy,.bool false]) (by rw [hN,hlk0];rfl)) ?_;refine g3 ?_;refine j6 pO fun b3=>?_;refine g15 ?_;refine inc 1 ?_;refine g3 ?_;refine bEp ?_;refine g3 ?_;refine bL (t':=true) p7 ?_;refine g10 ?_;refine ss (cJ hT (k:=1) (cD d7) rfl rfl rfl rfl rfl rfl rfl o9) ?_;refine ss (j7 hT (dQ.knows (cD d7) (k:=1) (x:=(nIn++s)) rfl 0)) ?_;refine g4 ?_
  rcases hlk1:lA (nIn++s) NV with _ | a
  ·refine g6 ?_;refine ss (kF (kC kT3) rfl mapT underlying9 bGj rfl rfl (v:= .tuple #[tyC noTy,.bool false]) (by rw [hN,hlk1];rfl)) ?_;refine g3 ?_;refine j6 pO fun b4=>?_;refine g15 ?_;refine inc 2 ?_;refine g3 ?_;refine bEp ?_;refine g3 ?_;refine bL (t':=true) p7 ?_;refine g10 ?_;refine ss (cJ hT (k:=2) (cD d7) rfl rfl rfl rfl rfl rfl rfl o9) ?_;refine ss (j7 hT (dQ.knows (cD d7) (k:=2) (x:=s) rfl 0)) ?_;refine g4 ?_
   rcases hlk2:lA s NV with _ | a
   ·refine g6 ?_;refine ss (kF (kC kT4) rfl mapT underlying9 bGj rfl rfl (v:= .tuple #[tyC noTy,.bool false]) (by rw [hN,hlk2];rfl)) ?_;refine g3 ?_;refine j6 pO fun b5=>?_;refine g15 ?_;refine inc 3 ?_;refine g3 ?_;refine bEp ?_;refine g3 ?_;refine bL (t':=false) p7 ?_;refine g11 ?_;refine ss (k7 (wA)) ?_;refine g5 ?_;obtain rfl:=hR.symm.trans (name_3 hlk0 hlk1 hlk2);exact rs2 (noTy:TyV) ⟨noTy_F,j3 rfl,j2⟩
   refine g6 ?_;refine ss (kF (kC kT4) rfl mapT underlying9 bGj rfl rfl (v:= .tuple #[tyC a,.bool true]) (by rw [hN,hlk2];rfl)) ?_;refine g3 ?_;refine j6 pO fun b6=>?_;refine g23 ?_;refine bB (tyF a) (bNb d8 hlk2) ?_;obtain rfl:=hR.symm.trans (name_2 hlk0 hlk1 hlk2);exact rs2 (a:TyV) ⟨d7,j3 rfl,j2⟩
  refine g6 ?_;refine ss (kF (kC kT3) rfl mapT underlying9 bGj rfl rfl (v:= .tuple #[tyC a,.bool true]) (by rw [hN,hlk1];rfl)) ?_;refine g3 ?_;refine j6 pO fun b7=>?_;refine g23 ?_;refine bB (tyF a) (bNb d8 hlk1) ?_;obtain rfl:=hR.symm.trans (name_1 hlk0 hlk1);exact rs2 (a:TyV) ⟨d7,j3 rfl,j2⟩
 refine g6 ?_;refine ss (kF (kC kT2) rfl mapT underlying9 bGj rfl rfl (v:= .tuple #[tyC a,.bool true]) (by rw [hN,hlk0];rfl)) ?_;refine g3 ?_;refine j6 pO fun b8=>?_;refine g23 ?_;refine bB (tyF a) (bNb d8 hlk0) ?_;obtain rfl:=hR.symm.trans (name_0 hlk0);exact rs2 (a:TyV) ⟨d7,j3 rfl,j2⟩
def bDc (l vs:List PolV)(i:Nat):Prop:=bK vs=(bK l).take i
theorem bMi(l:List PolV):bDc l [] 0:=rfl
theorem bRr{l vs:List PolV}{i:Nat}{p q:PolV}(h:bDc l vs i)(hp:l[i]?=some p)(hq:q.list=p.list):bDc l (vs++[q]) (i+1):=by
 obtain⟨hi,e⟩:=List.getElem?_eq_some_iff.1 (fZ hp);unfold bDc at*;rw [List.take_succ_eq_append_getElem hi,e,←h,←hq,pT];rfl
theorem ownT_end{l vs:List PolV}{i:Nat}(h:bDc l vs i)(hi:l.length≤i):bK vs=bK l:=by
 unfold bDc at h
 rwa [List.take_of_length_le ai1] at h
theorem bMs{l vs:List PolV}{i:Nat}(h:bDc l vs i)(hi:i≤l.length):vs.length=i:=by
 have:=congrArg List.length h;rw [bF,List.length_take,bF] at this;omega
theorem polF_mk{F:List Fact}{A:Option Addr}{c:Nat}{l:List Mono}(h:Has F (mN.sl (.slice A l.length c) l))(k:l.length≤48):Has F (kR ⟨A,c,l⟩):=h.and (j3 (Nat.le_trans k p7))
theorem wf_sr{a:TyV}(h:WfT a.t): ∀p∈a.sides.list,p.list.length≤48:=fun _ hp=>nA (h.sr _ (List.mem_map_of_mem hp))
theorem wf_vr{a:TyV}(h:WfT a.t): ∀p∈a.values.list,p.list.length≤48:=fun _ hp=>nA (h.vr _ (List.mem_map_of_mem hp))
theorem ownT_t{a x:TyV}(hs:bK x.sides.list=bK a.sides.list)(hv:bK x.values.list=bK a.values.list)(hk:x.known=a.known):x.t=a.t:=by
 unfold TyV.t;rw [hs,hv,hk]
theorem bLr(l:Sl PolV)(hl:l.list.length≤4)(hr: ∀p∈l.list,p.list.length≤48):cN prog 52 [.slice l.addr l.list.length l.cap] [] [listF l] (fun(x:Sl PolV)=> .slice x.addr x.list.length x.cap) (fun _=>[]) (fun(x:Sl PolV)=>[listF x,Fact.pure (bK x.list=bK l.list)]):=by
 have hT:=fC;refine k8 func52 ntmps52 ?_;intro β hM;refine cL<|cF l mT0 fun hc_l=>?_;refine g18 ?_;refine cH (t:=47) bP<|bB (cK []) (Has.each_nil) ?_;refine cE (ι:=Nat×List PolV×Option Addr×Nat) [(6,_),(7,_)] ⟨rfl,rfl,j2⟩ (fun⟨i,vs,V,cv⟩=>[(3,.slice V vs.length cv),(8,.int .i64 (i:Nat))]) (fun⟨i,vs,V,cv⟩=>[bP.row (.slice V vs.length cv) 47 vs]) (fun⟨i,vs,V,cv⟩=>[Fact.pure (i≤l.list.length∧bDc l.list vs i),cK vs]) (fun⟨i,vs,V,cv⟩=>l.list.length-i) (0,[],none,0) ⟨rfl,rfl,j2⟩ (.c0 .nil) ⟨j3 (⟨n9,bMi _⟩),d7,j2⟩ ?_;rintro⟨i,vs,V,cv⟩;dsimp only;refine bC d7 fun hinv3=>?_;have hvl:=bMs hinv3.2 hinv3.1;refine g6 ?_;refine dM (fun hc9=>?_) fun hc9=>?_
 ·refine g6 ?_;obtain⟨x1,hx2⟩:=gx l.list i;refine ss (ixs i) ?_;refine ss (dH hx2 0) ?_;refine g6 ?_;have hpl:=hr x1 (j4 hx2);refine j5 func35 (xO x1.addr x1.cap x1.list n9) ⟨rA (Has.each e6 (j4 hx2)),j2⟩ fun⟨A3,c4⟩=>?_;refine bE .head<|bB (kR ⟨A3,c4,x1.list⟩) (polF_mk d7 hpl) ?_;refine cU (m:=⟨A3,c4,x1.list⟩) rfl rfl rfl rfl rfl fun b5=>?_;refine bB (cK (vs++[(⟨A3,c4,x1.list⟩:PolV)])) (Has.each_snoc e6 d7) ?_;refine fD kT1 (cA .head rfl) rfl rfl rfl rfl rfl rfl rfl r8 fun A6 c7=>?_;refine g6 ?_;refine inc (i+1) ?_;refine g3 ?_;exact bk2 (i+1,vs++[(⟨A3,c4,x1.list⟩:PolV)],A6,c7) ⟨j3 (⟨by dsimp only;omega,bRr hinv3.2 hx2 rfl⟩),d7,j2⟩
 refine g12 ?_;have he:=ownT_end hinv3.2 n9;refine bV .head fun hcv=>bE .head ?_;exact rs1 (⟨V,cv,vs⟩:Sl PolV) ⟨cG d7 d9 hcv,j3 he,j2⟩
theorem ownT_spec(a:TyV)(ha:WfT a.t):cN prog 24 [.agg #[.slice a.sides.addr a.sides.list.length a.sides.cap,.bool a.known,.slice a.values.addr a.values.list.length a.values.cap]] [] [tyF a] (fun(x:TyV)=>tyC x) (fun _=>[]) (fun(x:TyV)=>[tyF x,Fact.pure (x.t=a.t)]):=by
 have hT:=fC;have hsa:=yC ha;have hva:=bPf ha;refine k8 func24 ntmps24 ?_;intro β hM;refine cL<|bB (listF a.sides) (kZ d7) ?_;refine cF a.sides mT0 fun hc_as=>bB (listF a.values) (lC e6)<|cF a.values mT0 fun hc_av=>?_;refine one ?_;refine j9 fun b1=>?_;refine j6 pO fun b2=>?_;refine g8 ?_;refine bU _ _ [(true,0),(true,1),(true,2),(true,4),(true,5),(true,6),(true,7),(true,8),(false,3),(false,9),(true,10),(false,11)] bX o6 (.c1 .nil) bA.self ?_;refine g9 ?_;refine fU (bS func52 rfl rfl) (bLr a.sides n9 (wf_sr ha)) rfl rfl rfl rfl rfl rfl rfl .nil ⟨e8,j2⟩ fun y3=>?_;refine bC d8 fun hos=>?_;refine g2 ?_;refine fU (bS func52 rfl rfl) (bLr a.values n9 (wf_vr ha)) rfl rfl rfl rfl rfl rfl rfl .nil ⟨e7,j2⟩ fun y4=>?_;refine bC d8 fun hov=>?_;refine one ?_;refine stM rfl (k7 (tB _ _ _ _ _ _ _)) ?_;refine g6 ?_;exact rs1 (⟨y3,a.known,y4⟩:TyV) ⟨(bW (x:=⟨y3,a.known,y4⟩) d9 d7),j3 (ownT_t (a:=a) hos hov rfl),j2⟩
section
variable {P : Program} {β : dE} {n : Nat} {Γ : Env} {H : List bH} {F : List Fact} {T : Tab}
theorem each_take{α:Type}{g:α→Fact}{xs:List α}(h:Has F (Fact.each xs g))(k:Nat):Has F (Fact.each (xs.take k) g):=fun S w q x hx=>h S w q x (List.mem_of_mem_take hx)
end
def stT (hv:List TyV):List TyP:=(hv.map TyV.t).reverse
theorem yV{hv:List TyV}{a:TyV}(h:hv[hv.length-1]?=some a):(stT hv).headD default=a.t:=by
 have h2:(hv.map TyV.t)[(hv.map TyV.t).length-1]?=some a.t:=by rw [List.length_map];exact tV h
 unfold stT;rw [List.headD_eq_head?_getD,List.head?_reverse,List.getLast?_eq_getElem?,h2];rfl
theorem bMc{hv:List TyV}{a:TyV}(h:hv[hv.length-2]?=some a)(h2:2≤hv.length):(stT hv).tail.headD default=a.t:=by
 have e:(stT hv)[1]?=some a.t:=by
  unfold stT;rw [List.getElem?_reverse ab2,List.length_map];have:hv.length-1-1=hv.length-2:=n9
  rw [this];exact tV h
 match stT hv,e with
 | _::b::_,e=>simpa using e
theorem stT_push{hv:List TyV}{a:TyV}{k T:Nat}(hk:k=hv.length-T):stT (hv.take k++[a])=a.t::(stT hv).drop T:=by
 unfold stT;rw [List.map_append,List.reverse_append,List.map_take];simp only [List.map_cons,List.map_nil,List.reverse_cons,List.reverse_nil,List.nil_append,List.cons_append]
 congr 1
 rw [List.drop_reverse,List.length_map,hk]
section
variable {N : fM} {it : ItemV} {hv : List TyV} {x u : TyV}
theorem itT_lit(h:it.how=1):dR N it.it (stT hv)=(jP it.nums.list,0):=if_pos h
theorem itT_name(h:it.how=2)(k:(nameT N it.name).isSome=true):dR N it.it (stT hv)=((nameT N it.name).getD ⟨[],false,[]⟩,0):=by
 unfold dR;rw [if_neg (show ¬it.it.how=1 from (show ¬it.how=1 by omega)),if_pos (show it.it.how=_ from h)]
 cases e:nameT N it.name with
 | none=>rw [e] at k;cases k
 | some t=>rw [show nameT N it.it.name=some t from e];rfl
theorem itT_none(h:it.how=2)(k:(nameT N it.name).isSome=false):dR N it.it (stT hv)=((nameT N it.name).getD ⟨[],false,[]⟩,83):=by
 unfold dR;rw [if_neg (show ¬it.it.how=1 from (show ¬it.how=1 by omega)),if_pos (show it.it.how=_ from h)]
 cases e:nameT N it.name with
 | none=>rw [show nameT N it.it.name=none from e];rfl
 | some t=>rw [e] at k;cases k
theorem itT_mon(h:it.how=3)(hx:hv[hv.length-1]?=some x):dR N it.it (stT hv)=gG it.fn x.t:=by
 unfold dR;rw [if_neg (show ¬it.it.how=1 from (show ¬it.how=1 by omega)),if_neg (show ¬it.it.how=2 from (show ¬it.how=2 by omega)),if_pos (show it.it.how=_ from h),yV hx];rfl
theorem itT_5(h:it.how=5)(hx:hv[hv.length-1]?=some x):dR N it.it (stT hv)=(if x.t.sides=[] then x.t else ⟨x.t.sides.take (x.t.sides.length-1),false,[]⟩,0):=by
 unfold dR;rw [if_neg (show ¬it.it.how=1 from (show ¬it.how=1 by omega)),if_neg (show ¬it.it.how=2 from (show ¬it.how=2 by omega)),if_neg (show ¬it.it.how=3 from (show ¬it.how=3 by omega)),if_pos (show it.it.how=_ from h),yV hx]
theorem itT_6(h:it.how=6)(hx:hv[hv.length-1]?=some x):dR N it.it (stT hv)=(if x.t.sides=[] then x.t else ⟨x.t.sides,false,[]⟩,0):=by
 unfold dR;rw [if_neg (show ¬it.it.how=1 from (show ¬it.how=1 by omega)),if_neg (show ¬it.it.how=2 from (show ¬it.how=2 by omega)),if_neg (show ¬it.it.how=3 from (show ¬it.how=3 by omega)),if_neg (show ¬it.it.how=5 from (show ¬it.how=5 by omega)),if_pos (show it.it.how=_ from h),yV hx]
theorem itT_flat(h:it.how=5∨it.how=6)(hx:hv[hv.length-1]?=some x)(hs:x.sides.list.length=0):dR N it.it (stT hv)=(x.t,0):=by
 rcases h with h | h
 ·rw [itT_5 h hx,if_pos (show x.t.sides=[] from dC hs)]
 ·rw [itT_6 h hx,if_pos (show x.t.sides=[] from dC hs)]
theorem itT_fold(h:it.how=5)(hx:hv[hv.length-1]?=some x)(hs:0<x.sides.list.length):dR N it.it (stT hv)=(⟨bK (x.sides.list.take (x.sides.list.length-1)),false,[]⟩,0):=by
 rw [itT_5 h hx,if_neg (show ¬x.t.sides=[] from dW hs),bKo,show x.t.sides.length=x.sides.list.length from bF _];rfl
theorem itT_scan(h:it.how=6)(hx:hv[hv.length-1]?=some x)(hs:0<x.sides.list.length):dR N it.it (stT hv)=(⟨bK (x.sides.list.take x.sides.list.length),false,[]⟩,0):=by
 rw [itT_6 h hx,if_neg (show ¬x.t.sides=[] from dW hs),List.take_length];rfl
theorem itT_dy(h:it.how=4)(hx:hv[hv.length-2]?=some x)(hu:hv[hv.length-1]?=some u)(h2:2≤hv.length):dR N it.it (stT hv)=pN it.fn x.t u.t:=by
 unfold dR;rw [if_neg (show ¬it.it.how=1 from (show ¬it.how=1 by omega)),if_neg (show ¬it.it.how=2 from (show ¬it.how=2 by omega)),if_neg (show ¬it.it.how=3 from (show ¬it.how=3 by omega)),if_neg (show ¬it.it.how=5 from (show ¬it.how=5 by omega)),if_neg (show ¬it.it.how=6 from (show ¬it.how=6 by omega)),if_pos (show it.it.how=_ from h),yV hu,bMc hx h2];rfl
theorem itT_out{e:Int}(h1:it.how≠1)(h2:it.how≠2)(h3:it.how≠3)(h5:it.how≠5)(h6:it.how≠6)(h4:it.how≠4)(hx:hv[hv.length-2]?=some x)(hu:hv[hv.length-1]?=some u)(hl:2≤hv.length)(he:e=if 4<x.sides.list.length+u.sides.list.length then 90 else 0):dR N it.it (stT hv)=(⟨bK (x.sides.list++u.sides.list),false,[]⟩,e):=by
 unfold dR;rw [if_neg (show ¬it.it.how=1 from h1),if_neg (show ¬it.it.how=2 from h2),if_neg (show ¬it.it.how=3 from h3),if_neg (show ¬it.it.how=5 from h5),if_neg (show ¬it.it.how=6 from h6),if_neg (show ¬it.it.how=4 from h4),yV hu,bMc hx hl,he,pT,show x.t.sides.length=x.sides.list.length from bF _,show u.t.sides.length=u.sides.list.length from bF _];rfl
end
theorem itemTS_spec(cb mb:Nat)(kv:KVS)(NV:NamesTV)(hN:rU kv NV)(it:ItemV)(A:Option Addr)(c:Nat)(hv:List TyV)(hW: ∀t∈hv,WfT t.t)(hl:hv.length≤300)(hd:dF it.it≤hv.length)(h17:1≤it.how∧it.how≤7)(hnum:it.how=1→it.nums.list.length≤65536)(hnm:it.how=2→it.name.length≤140737488355328):cN prog 23 [.pointer (some ⟨cb,0,none⟩),.agg #[.int .i64 it.how,.int .i64 it.at_,.int .u8 it.fn,.string (bs it.name),.slice it.nums.addr it.nums.list.length it.nums.cap],.slice A hv.length c] [chkO cb mb,pB mb kv,tyE.row (.slice A hv.length c) 43 hv] [rJ.sl (.slice it.nums.addr it.nums.list.length it.nums.cap) it.nums.list,Fact.each hv tyF,oZ NV] (fun(x:TyV)=> .tuple #[tyC x,.int .i64 (dF it.it:Nat),.int .i64 (dR (jM NV) it.it (stT hv)).2]) (fun _=>[chkO cb mb,pB mb kv,tyE.row (.slice A hv.length c) 43 hv]) (fun(x:TyV)=>[tyF x,Fact.pure (x.t=(dR (jM NV) it.it (stT hv)).1)]):=by
 have hT:=fC;generalize hR:dR (jM NV) it.it (stT hv)=r;generalize hTk:dF it.it=T at hd⊢;refine k8 func23 ntmps23 ?_;intro β hM;refine g2 ?_;refine j9 fun b1=>?_;refine j6 pO fun b2=>?_;refine g25 ?_;refine fE (fun hc17=>?_) fun hc17=>?_
 ·refine cL ?_;have htk:T=0:=hTk.symm.trans (sJ ad9);subst htk;refine g3 ?_;refine j5 func47 (bOs it.nums.addr it.nums.cap it.nums.list (Nat.le_trans (hnum asd) p7)) ⟨d7,j2⟩ fun y3=>?_;refine bC d8 fun hy=>?_;refine g8 ?_;obtain rfl:=hR.symm.trans (itT_lit asd);exact rs3 (y3:TyV) ⟨d7,j3 hy,j2⟩
 refine g6 ?_;refine fE (fun hc22=>?_) fun hc22=>?_
 ·refine cL ?_;have htk:T=0:=hTk.symm.trans (sJ ad9);subst htk;refine g4 ?_;refine bD func48 (nameT_spec cb mb kv NV hN it.name (hnm asd)) rfl rfl (.c2 (.c2 .nil)) ⟨d9,j2⟩ fun y4=>?_;refine bC d8 fun hy=>?_;refine g3 ?_;refine j6 pO fun b5=>?_;refine g11 ?_;refine jB (fun hc32=>?_) fun hc32=>?_
  ·refine g16 ?_;obtain rfl:=hR.symm.trans (itT_none asd asd);exact rs3 (y4:TyV) ⟨d7,j3 hy,j2⟩
  refine g14 ?_;obtain rfl:=hR.symm.trans (itT_name asd asd);exact rs3 (y4:TyV) ⟨d7,j3 hy,j2⟩
 refine g6 ?_;refine fE (fun hc35=>?_) fun hc35=>?_
 ·refine cL ?_;have htk:T=1:=hTk.symm.trans (oJ v7);subst htk;obtain⟨x,hx⟩:=gx hv (hv.length-1);have hwx:=hW x (j4 hx);refine bB (tyF x) (Has.each d8 (j4 hx)) ?_;have hsx:=yC hwx;refine bB (listF x.sides) (kZ d7)<|cF x.sides mT0 fun hc_xs=>bB (listF x.values) (lC e6)<|cF x.values mT0 fun hc_xv=>?_;refine bU _ _ [(true,0),(true,1),(true,2),(true,3),(true,4),(true,5),(true,6),(false,7),(true,8),(true,9),(true,10),(false,11),(true,12)] bX o6 (.c1 (.c1 (.c1 (.c1 .nil)))) bA.self ?_;refine g5 ?_;refine inc (hv.length-1) ?_;refine stM rfl (ixs (hv.length-1)) ?_;refine stM rfl (lY hx 0) ?_;refine one ?_;refine j5 func49 (monT_spec it.fn x hwx) ⟨e9,j2⟩ fun y6=>?_;refine bC d8 fun hy=>?_;refine g22 ?_;obtain rfl:=hR.symm.trans (itT_mon asd hx);exact rs3 (y6:TyV) ⟨d7,j3 hy,j2⟩
 refine g7 ?_;refine fE (fun hc50=>?_) fun hc50=>?_
 ·refine bL (t':=true) asd ?_;refine g4 ?_;have htk:T=1:=hTk.symm.trans (oJ v7);subst htk;obtain⟨x,hx⟩:=gx hv (hv.length-1);have hwx:=hW x (j4 hx);refine bB (tyF x) (Has.each d8 (j4 hx)) ?_;have hsx:=yC hwx;refine bB (listF x.sides) (kZ d7)<|cF x.sides mT0 fun hc_xs=>bB (listF x.values) (lC e6)<|cF x.values mT0 fun hc_xv=>?_;refine g4 ?_;refine inc (hv.length-1) ?_;refine ss (ixs (hv.length-1)) ?_;refine ss (lY hx 0) ?_;refine g18 ?_;refine dM (fun hc62=>?_) fun hc62=>?_
  ·refine g6 ?_;refine bL (t':=true) (by rw [hc50];rfl) ?_;refine g6 ?_;refine inc (x.sides.list.length-1) ?_;refine g7 ?_;have hkl:(x.sides.list.length-1)≤x.sides.list.length:=n9
   refine ss (iQ hT (k:=(x.sides.list.length-1)) rfl rfl rfl rfl rfl rfl n9) ?_;refine jO (v':= .slice x.sides.addr (x.sides.list.take ((x.sides.list.length-1))).length x.sides.cap) ab9<|bB (listF ⟨x.sides.addr,x.sides.cap,(x.sides.list.take ((x.sides.list.length-1)))⟩) (pX e8 hc_xs hkl) ?_;refine j5 func46 (dA x.sides.addr ((x.sides.list.take ((x.sides.list.length-1))).length) x.sides.cap) j2 fun _=>?_;refine g14 ?_;have hr:=hR.symm.trans (itT_fold asd hx n9);subst hr;exact rs3 (⟨⟨x.sides.addr,x.sides.cap,(x.sides.list.take ((x.sides.list.length-1)))⟩,false,⟨none,0,[]⟩⟩:TyV) ⟨(bW (x:=⟨⟨x.sides.addr,x.sides.cap,(x.sides.list.take ((x.sides.list.length-1)))⟩,false,⟨none,0,[]⟩⟩) d7 cI),j3 rfl,j2⟩
  refine g13 ?_;have hr:=hR.symm.trans (itT_flat ad9 hx n9);subst hr;exact rs3 (⟨x.sides,x.known,x.values⟩:TyV) ⟨(bW (x:=⟨x.sides,x.known,x.values⟩) e8 d9),j3 rfl,j2⟩
 refine g5 ?_;refine fE (fun hc50_7=>?_) fun hc50_7=>?_
 ·refine bL (t':=true) asd ?_;refine cL ?_;have htk:T=1:=hTk.symm.trans (oJ v7);subst htk;obtain⟨x,hx⟩:=gx hv (hv.length-1);have hwx:=hW x (j4 hx);refine bB (tyF x) (Has.each d8 (j4 hx)) ?_;have hsx:=yC hwx;refine bB (listF x.sides) (kZ d7)<|cF x.sides mT0 fun hc_xs=>bB (listF x.values) (lC e6)<|cF x.values mT0 fun hc_xv=>?_;refine g4 ?_;refine inc (hv.length-1) ?_;refine ss (ixs (hv.length-1)) ?_;refine ss (lY hx 0) ?_;refine g18 ?_;refine dM (fun hc62=>?_) fun hc62=>?_
  ·refine g6 ?_;refine bL (t':=false) (by rw [hc50_7];rfl) ?_;refine g9 ?_;have hkl:x.sides.list.length≤x.sides.list.length:=n9
   refine ss (iQ hT (k:=x.sides.list.length) rfl rfl rfl rfl rfl rfl n9) ?_;refine jO (v':= .slice x.sides.addr (x.sides.list.take (x.sides.list.length)).length x.sides.cap) ab9<|bB (listF ⟨x.sides.addr,x.sides.cap,(x.sides.list.take (x.sides.list.length))⟩) (pX e8 hc_xs hkl) ?_;refine j5 func46 (dA x.sides.addr ((x.sides.list.take (x.sides.list.length)).length) x.sides.cap) j2 fun _=>?_;refine g14 ?_;have hr:=hR.symm.trans (itT_scan asd hx n9);subst hr;exact rs3 (⟨⟨x.sides.addr,x.sides.cap,(x.sides.list.take (x.sides.list.length))⟩,false,⟨none,0,[]⟩⟩:TyV) ⟨(bW (x:=⟨⟨x.sides.addr,x.sides.cap,(x.sides.list.take (x.sides.list.length))⟩,false,⟨none,0,[]⟩⟩) d7 cI),j3 rfl,j2⟩
  refine g13 ?_;have hr:=hR.symm.trans (itT_flat ad9 hx n9);subst hr;exact rs3 (⟨x.sides,x.known,x.values⟩:TyV) ⟨(bW (x:=⟨x.sides,x.known,x.values⟩) e8 d9),j3 rfl,j2⟩
 refine g6 ?_;refine fE (fun hc74=>?_) fun hc74=>?_
 ·refine cL ?_;have htk:T=2:=hTk.symm.trans (qF v7);subst htk;obtain⟨x,hx⟩:=gx hv (hv.length-2);have hwx:=hW x (j4 hx);refine bB (tyF x) (Has.each d8 (j4 hx)) ?_;have hsx:=yC hwx;refine bB (listF x.sides) (kZ d7)<|cF x.sides mT0 fun hc_xs=>bB (listF x.values) (lC e6)<|cF x.values mT0 fun hc_xv=>?_;obtain⟨u,hu⟩:=gx hv (hv.length-1);have hwu:=hW u (j4 hu);refine bB (tyF u) (Has.each f5 (j4 hu)) ?_;have hsu:=yC hwu;refine bB (listF u.sides) (kZ d7)<|cF u.sides mT0 fun hc_us=>bB (listF u.values) (lC e6)<|cF u.values mT0 fun hc_uv=>?_;refine bU _ _ [(true,0),(true,1),(true,2),(true,3),(true,4),(true,5),(true,6),(true,7),(true,8),(true,9),(true,10),(true,11),(false,12),(true,13),(true,14),(true,15),(false,16),(true,17)] bX o6 (.c1 (.c1 (.c1 (.c1 .nil)))) bA.self ?_;refine g5 ?_;refine inc (hv.length-2) ?_;refine stM rfl (ixs (hv.length-2)) ?_;refine stM rfl (lY hx 0) ?_;refine g3 ?_;refine inc (hv.length-1) ?_;refine stM rfl (ixs (hv.length-1)) ?_;refine stM rfl (lY hu 0) ?_;refine one ?_;refine j5 func50 (dyT_spec it.fn x u hwx hwu) ⟨j0,e9,j2⟩ fun y8=>?_;refine bC d8 fun hy=>?_;refine g22 ?_;have hr:=hR.symm.trans (itT_dy asd hx hu n9);subst hr;exact rs3 (y8:TyV) ⟨d7,j3 hy,j2⟩
 refine g4 ?_;have htk:T=2:=hTk.symm.trans (qF v7);subst htk;obtain⟨x,hx⟩:=gx hv (hv.length-2);have hwx:=hW x (j4 hx);refine bB (tyF x) (Has.each d8 (j4 hx)) ?_;have hsx:=yC hwx;refine bB (listF x.sides) (kZ d7)<|cF x.sides mT0 fun hc_xs=>bB (listF x.values) (lC e6)<|cF x.values mT0 fun hc_xv=>?_;obtain⟨u,hu⟩:=gx hv (hv.length-1);have hwu:=hW u (j4 hu);refine bB (tyF u) (Has.each f5 (j4 hu)) ?_;have hsu:=yC hwu;refine bB (listF u.sides) (kZ d7)<|cF u.sides mT0 fun hc_us=>bB (listF u.values) (lC e6)<|cF u.values mT0 fun hc_uv=>?_;refine bU _ _ [(true,0),(true,1),(true,2),(true,3),(true,4),(true,5),(true,6),(true,7),(true,8),(true,9),(true,10),(true,11),(false,12),(false,13),(false,14),(false,15)] bX o6 (.c1 (.c1 (.c1 (.c1 .nil)))) bA.self ?_;refine g3 ?_;refine inc (hv.length-2) ?_;refine stM rfl (ixs (hv.length-2)) ?_;refine one ?_;refine stM rfl (dH hx 0) ?_;refine g3 ?_;refine inc (hv.length-1) ?_;refine stM rfl (ixs (hv.length-1)) ?_;refine one ?_;refine stM rfl (dH hu 0) ?_;refine one ?_;refine pC (u:=x.sides) (v:=u.sides) rfl rfl rfl rfl rfl rfl fun b9=>?_;refine bQ (E:=zA) (xs:=[x.sides,u.sides]) .head q8<|bE .head<|bB (Fact.each [x.sides,u.sides] listF) (Has.each_cons j0 (Has.each_cons e9 Has.each_nil)) ?_;refine g2 ?_;have csp:=pI (some ⟨b9,0,none⟩) 2 [x.sides,u.sides] o9 ad6;rw [lU] at csp;refine j5 func51 csp ⟨d8,d7,j2⟩ fun⟨A10,c11⟩=>?_;refine bV .head fun hc_cc=>bE .head<|bB (cK (x.sides.list++u.sides.list)) (nB j0 e9) ?_;refine g2 ?_;refine j5 func46 (dA A10 ((x.sides.list++u.sides.list).length) c11) j2 fun _=>?_;refine g15 ?_;refine dM (fun hc112=>?_) fun hc112=>?_
 ·refine g14 ?_;have hr:=hR.symm.trans (itT_out (e:=90) asd asd asd asd asd asd hx hu n9 (by rw [if_pos (by simp only [List.length_append] at*;omega)]));subst hr;exact rs3 (⟨⟨A10,c11,(x.sides.list++u.sides.list)⟩,false,⟨none,0,[]⟩⟩:TyV) ⟨(bW (x:=⟨⟨A10,c11,(x.sides.list++u.sides.list)⟩,false,⟨none,0,[]⟩⟩) (cG d8 d7 (hc_cc)) cI),j3 rfl,j2⟩
 refine g12 ?_;have hr:=hR.symm.trans (itT_out (e:=0) asd asd asd asd asd asd hx hu n9 (by rw [if_neg (by simp only [List.length_append] at*;omega)]));subst hr;exact rs3 (⟨⟨A10,c11,(x.sides.list++u.sides.list)⟩,false,⟨none,0,[]⟩⟩:TyV) ⟨(bW (x:=⟨⟨A10,c11,(x.sides.list++u.sides.list)⟩,false,⟨none,0,[]⟩⟩) (cG d8 d7 (hc_cc)) cI),j3 rfl,j2⟩
theorem chk_built(m:Nat):prog.built 97 [(0,.map (some m))]=some #[.map (some m)]:=o0
def VTAt (vars:List Bs)(i:Nat)(NV:NamesTV)(kv:KVS):Prop:=rU kv NV∧wW vars 0 []=wW (vars.drop i) i (jM NV)
theorem vtT_start(vars:List Bs):VTAt vars 0 [] []:=⟨nrT_start,rfl⟩
theorem vtT_step{vars:List Bs}{i:Nat}{NV:NamesTV}{kv:KVS}{s:Bs}{a:TyV}(h:VTAt vars i NV kv)(hs:vars[i]?=some s)(ha:a.t=varT i):VTAt vars (i+1) ((s,a)::NV) (mA s (tyC a) kv):=by
 obtain⟨hi,e⟩:=List.getElem?_eq_some_iff.1 hs;refine⟨nrT_add h.1 s a,?_⟩;rw [h.2,List.drop_eq_getElem_cons hi,e];show wW _ (i+1) ((s,varT i)::_)=_;rw [←ha];rfl
theorem vtT_end{vars:List Bs}{i:Nat}{NV:NamesTV}{kv:KVS}(h:VTAt vars i NV kv)(hi:vars.length≤i):wW vars 0 []=jM NV:=by
 rw [h.2,List.drop_of_length_le hi];rfl
def ITAt (p:gQ)(i:Nat)(NV:NamesTV)(kv:KVS):Prop:=rU kv NV∧oA p=insT (cW p) (p.inputs.drop i) (jM NV)
theorem itT_start{p:gQ}{i:Nat}{NV:NamesTV}{kv:KVS}(h:VTAt (cW p) i NV kv)(hi:(cW p).length≤i):ITAt p 0 NV kv:=⟨h.1,by
 unfold oA;rw [vtT_end h hi]
 rfl⟩
theorem itT_step{p:gQ}{i:Nat}{NV:NamesTV}{kv:KVS}{x:hO}{a:TyV}(h:ITAt p i NV kv)(hx:p.inputs[i]?=some x)(ha:a.t=inT (cW p) x):ITAt p (i+1) ((nIn++x.name,a)::NV) (mA (nIn++x.name) (tyC a) kv):=by
 obtain⟨hi,e⟩:=List.getElem?_eq_some_iff.1 hx;refine⟨nrT_add h.1 _ a,?_⟩;rw [h.2,List.drop_eq_getElem_cons hi,e];show insT _ _ ((nIn++x.name,inT (cW p) x)::_)=_;rw [←ha];rfl
theorem itT_end{p:gQ}{i:Nat}{NV:NamesTV}{kv:KVS}(h:ITAt p i NV kv)(hi:p.inputs.length≤i):jM NV=oA p:=by
 rw [h.2,List.drop_of_length_le hi];rfl
def SdAt (vars:List Bs)(l:List jF)(vs:List PolV)(j:Nat):Prop:=bK vs=(l.take j).map (fun d=>sideT' vars d.sd)
theorem bPk(vars:List Bs)(l:List jF):SdAt vars l [] 0:=rfl
theorem bCw{vars:List Bs}{l:List jF}{vs:List PolV}{j:Nat}{d:jF}{p:PolV}(h:SdAt vars l vs j)(hd:l[j]?=some d)(hp:p.list=sideT' vars d.sd):SdAt vars l (vs++[p]) (j+1):=by
 obtain⟨hi,e⟩:=List.getElem?_eq_some_iff.1 hd;unfold SdAt at*;rw [List.take_succ_eq_append_getElem hi,e,List.map_append,←h,pT];show _++[p.list]=_++[_];rw [hp]
theorem sdT_len{vars:List Bs}{l:List jF}{vs:List PolV}{j:Nat}(h:SdAt vars l vs j)(hj:j≤l.length):vs.length=j:=by
 have:=congrArg List.length h;rw [bF,List.length_map,List.length_take] at this;omega
theorem sdT_end{vars:List Bs}{x:InputV}{vs:List PolV}{j:Nat}{A:Option Addr}{c:Nat}(h:SdAt vars x.sides.list vs j)(hj:x.sides.list.length≤j):(⟨⟨A,c,vs⟩,false,⟨none,0,[]⟩⟩:TyV).t=inT vars x.inp:=by
 unfold SdAt at h;rw [List.take_of_length_le hj] at h;show(⟨bK vs,false,[]⟩:TyP)=_;rw [h];unfold inT
 congr 1
 show _=List.map _ (x.sides.list.map jF.sd);rw [List.map_map];rfl
theorem newT_spec(P:ProgV)(hl1:P.inputs.list.length≤140737488355328)(hrt:(cX P.pr).2=true):cN prog 22 [.agg #[.slice P.inputs.addr P.inputs.list.length P.inputs.cap,.slice P.lines.addr P.lines.list.length P.lines.cap]] [] [iD,jT.sl (.slice P.inputs.addr P.inputs.list.length P.inputs.cap) P.inputs.list,iO P.inputs.list] (fun(x:Nat×Nat×KVS×NamesTV)=> .pointer (some ⟨x.1,0,none⟩)) (fun(x:Nat×Nat×KVS×NamesTV)=>[chkO x.1 x.2.1,pB x.2.1 x.2.2.1]) (fun(x:Nat×Nat×KVS×NamesTV)=>[oZ x.2.2.2,Fact.pure (rU x.2.2.1 x.2.2.2∧jM x.2.2.2=oA P.pr)]):=by
 have hT:=fC;refine k8 func22 ntmps22 ?_;intro β hM;refine g2 ?_;refine j9 fun b1=>?_;refine g5 ?_;refine yB rfl rfl rfl rfl fun r2=>?_;refine ss (k7 (chk_built r2)) ?_;refine j9 fun b3=>?_;refine g4 ?_;have hrt:(cX P.pr).2=true:=by assumption
 have hfine:=wH hrt;have hs: ∀x∈P.inputs.list,x.sides.list.length≤4:=fun x hx=>by have h1:=(hfine.input x.inp (tQ hx)).2.1;have h2:x.inp.sides.length=x.sides.list.length:=List.length_map _;omega
 have hTT:=vG hrt;have hpl:P.pr.inputs.length=P.inputs.list.length:=List.length_map _;refine g2 ?_;refine j5 func15 (bFv P hl1 (fun x hx=>Nat.le_trans (hs x hx) p7) n9) ⟨d8,d9,j2⟩ fun⟨V,cv⟩=>?_;have hvl:(cW P.pr).length≤256:=Nat.le_trans (vars_le P.pr) hTT;refine bB (oZ []) (Has.each_nil) ?_;refine g12 ?_;refine cE (ι:=Nat×KVS×NamesTV) [(1,_),(3,_),(4,_),(22,_),(23,_)] ⟨rfl,rfl,rfl,rfl,rfl,j2⟩ (fun⟨i,kv,NV⟩=>[(24,.int .i64 (i:Nat))]) (fun⟨i,kv,NV⟩=>[pB r2 kv]) (fun⟨i,kv,NV⟩=>[Fact.pure (i≤(cW P.pr).length∧VTAt (cW P.pr) i NV kv),oZ NV]) (fun⟨i,kv,NV⟩=>(cW P.pr).length-i) (0,[],[]) ⟨rfl,j2⟩ (.c1 .nil) ⟨j3 (⟨n9,vtT_start _⟩),d7,j2⟩ ?_;rintro⟨i,kv,NV⟩;dsimp only;refine bC d7 fun hinv4=>?_;refine g6 ?_;refine dM (fun hc25=>?_) fun hc25=>?_
 ·refine g7 ?_;obtain⟨x4,hx5⟩:=gx (cW P.pr) i;refine ss (ixs i) ?_;refine ss (dH hx5 0) ?_;refine g7 ?_;refine j5 func18 (bKi (((i:Nat):Int))) j2 fun⟨A6,c7⟩=>?_;refine g7 ?_;refine bU _ _ [(true,0),(true,1),(true,2),(true,3),(true,4),(true,5),(false,6),(false,7),(false,8)] bX o6 (.c1 (.c1 .nil)) bA.self ?_;refine g7 ?_;refine cU (m:=⟨A6,c7,(sV (((i:Nat):Int))).1⟩) rfl rfl rfl rfl rfl fun b8=>?_;refine bQ (E:=bP) (xs:=[(⟨A6,c7,(sV (((i:Nat):Int))).1⟩:PolV)]) .head q8<|bE .head<|bB (cK [(⟨A6,c7,(sV (((i:Nat):Int))).1⟩:PolV)]) (iS d8)<|bB (oZ ((x4,(⟨⟨none,0,[]⟩,true,⟨(some ⟨b8,0,none⟩),1,[(⟨A6,c7,(sV (((i:Nat):Int))).1⟩:PolV)]⟩⟩:TyV))::NV)) (Has.each_cons (bW cI (cG d8 d7 (Nat.le_refl 1))) e7) ?_;refine g2 ?_;refine j5 func44 (iI none (some ⟨b8,0,none⟩) (0) (1) 0 1) j2 fun _=>?_;refine g2 ?_;refine kL .head rfl (.inl rfl) rfl mapT underlying9 rfl rfl rfl ?_;refine g6 ?_;refine inc (i+1) ?_;refine g3 ?_;exact bk2 (i+1,_,(x4,(⟨⟨none,0,[]⟩,true,⟨(some ⟨b8,0,none⟩),1,[(⟨A6,c7,(sV (((i:Nat):Int))).1⟩:PolV)]⟩⟩:TyV))::NV) ⟨j3 (⟨by dsimp only;omega,vtT_step hinv4.2 hx5 rfl⟩),d7,j2⟩
 refine g15 ?_;refine cE (ι:=Nat×KVS×NamesTV) [(3,_),(4,_),(44,_),(45,_)] ⟨rfl,rfl,rfl,rfl,j2⟩ (fun⟨i,kv,NV⟩=>[(46,.int .i64 (i:Nat))]) (fun⟨i,kv,NV⟩=>[pB r2 kv]) (fun⟨i,kv,NV⟩=>[Fact.pure (i≤P.inputs.list.length∧ITAt P.pr i NV kv),oZ NV]) (fun⟨i,kv,NV⟩=>P.inputs.list.length-i) (0,kv,NV) ⟨rfl,j2⟩ (.c0 .nil) ⟨j3 (⟨n9,itT_start hinv4.2 n9⟩),d8,j2⟩ ?_;rintro⟨i,kv,NV⟩;dsimp only;refine bC d7 fun hinv10=>?_;refine g6 ?_;refine dM (fun hc47=>?_) fun hc47=>?_
 ·refine g6 ?_;obtain⟨x9,hx10⟩:=gx P.inputs.list i;refine ss (ixs i) ?_;refine ss (lY hx10 0) ?_;refine j6 kD fun b11=>?_;refine g10 ?_;have hx0:P.pr.inputs[i]?=some x9.inp:=rM hx10;have hxs:=hs x9 (j4 hx10);refine bB (qQ x9) (Has.each f7 (j4 hx10)) ?_;have hxn:=(hfine.input x9.inp (tQ (j4 hx10))).1;have hxs4:x9.sides.list.length≤4:=hs x9 (j4 hx10);have hxn:x9.name.length≤16:=hxn;refine g8 ?_;refine cH (t:=47) bP<|bB (cK []) (Has.each_nil) ?_;refine cE (ι:=Nat×List PolV×Option Addr×Nat) [(3,_),(4,_),(10,_),(44,_),(45,_),(46,_),(51,_),(52,_)] ⟨rfl,rfl,rfl,rfl,rfl,rfl,rfl,rfl,j2⟩ (fun⟨j,vs,V2,cv2⟩=>[(11,.slice V2 vs.length cv2),(53,.int .i64 (j:Nat))]) (fun⟨j,vs,V2,cv2⟩=>[bP.row (.slice V2 vs.length cv2) 47 vs]) (fun⟨j,vs,V2,cv2⟩=>[Fact.pure (j≤x9.sides.list.length∧SdAt (cW P.pr) x9.sides.list vs j),cK vs]) (fun⟨j,vs,V2,cv2⟩=>x9.sides.list.length-j) (0,[],none,0) ⟨rfl,rfl,j2⟩ (.c0 .nil) ⟨j3 (⟨n9,bPk _ _⟩),d7,j2⟩ ?_;rintro⟨j,vs,V2,cv2⟩;dsimp only;refine bC d7 fun hinv14=>?_;have hvl2:=sdT_len hinv14.2 hinv14.1;refine g6 ?_;refine dM (fun hc54=>?_) fun hc54=>?_
  ·refine g6 ?_;obtain⟨x12,hx13⟩:=gx x9.sides.list j;refine ss (ixs j) ?_;refine ss (lY hx13 0) ?_;refine j6 wS fun b14=>?_;refine g8 ?_;refine bD func17 (tK _ _ _ n9 x12.name) rfl rfl .nil ⟨f7,j2⟩ fun _=>?_;refine g9 ?_;refine c_le (fun hc62=>?_) fun hc62=>?_
   ·refine g3 ?_;refine j5 func18 (bKi ((iJ x12.name (cW P.pr) 0))) j2 fun⟨A15,c16⟩=>?_;refine g10 ?_;refine cU (m:=⟨A15,c16,(sV ((iJ x12.name (cW P.pr) 0))).1⟩) rfl rfl rfl rfl rfl fun b17=>?_;refine bB (cK (vs++[(⟨A15,c16,(sV ((iJ x12.name (cW P.pr) 0))).1⟩:PolV)])) (Has.each_snoc d9 d7) ?_;refine fD kT2 (cA .head rfl) rfl rfl rfl rfl rfl rfl rfl r8 fun A18 c19=>?_;refine g6 ?_;refine inc (j+1) ?_;refine g3 ?_;exact bk2 (j+1,vs++[(⟨A15,c16,(sV ((iJ x12.name (cW P.pr) 0))).1⟩:PolV)],A18,c19) ⟨j3 (⟨by dsimp only;omega,bCw hinv14.2 hx13 ((if_pos ‹_›).symm)⟩),d7,j2⟩
   refine g4 ?_;refine j5 func45 (jE (x12.n)) j2 fun⟨A20,c21⟩=>?_;refine cU (m:=⟨A20,c21,bT (x12.n)⟩) rfl rfl rfl rfl rfl fun b22=>?_;refine bB (cK (vs++[(⟨A20,c21,bT (x12.n)⟩:PolV)])) (Has.each_snoc d9 d7) ?_;refine fD kT2 (cA .head rfl) rfl rfl rfl rfl rfl rfl rfl r8 fun A23 c24=>?_;refine g6 ?_;refine inc (j+1) ?_;refine g3 ?_;exact bk2 (j+1,vs++[(⟨A20,c21,bT (x12.n)⟩:PolV)],A23,c24) ⟨j3 (⟨by dsimp only;omega,bCw hinv14.2 hx13 ((if_neg (show ¬(0:Int)≤iJ x12.name (cW P.pr) 0 by omega)).symm)⟩),d7,j2⟩
  refine g5 ?_;refine bV .head fun hc_out=>bE .head<|bB (oZ ((nIn++x9.name,(⟨⟨V2,cv2,vs⟩,false,⟨none,0,[]⟩⟩:TyV))::NV)) (Has.each_cons (bW (cG d7 d9 hc_out) cI) e9) ?_;refine bU _ _ [(true,0),(true,1),(true,2),(true,3),(true,4),(true,5),(true,6),(true,7),(false,8),(false,9)] bX o6 (.c0 (.c1 (.c1 .nil))) bA.self ?_;refine g6 ?_;refine stM rfl (iN rfl rfl rfl r8) ?_;refine g2 ?_;refine j5 func46 (dA V2 (vs.length) cv2) j2 fun _=>?_;refine g2 ?_;refine kL kT1 rfl (.inl rfl) rfl mapT underlying9 rfl rfl rfl ?_;refine g6 ?_;refine inc (i+1) ?_;refine g3 ?_;exact bk2 (i+1,_,(nIn++x9.name,(⟨⟨V2,cv2,vs⟩,false,⟨none,0,[]⟩⟩:TyV))::NV) ⟨j3 (⟨by dsimp only;omega,itT_step hinv10.2 hx0 (sdT_end hinv14.2 n9)⟩),d7,j2⟩
 refine g12 ?_;exact rs1 (b3,r2,kv,NV) ⟨d8,j3 ⟨hinv10.2.1,itT_end hinv10.2 (by rw [hpl];omega)⟩,j2⟩
theorem oG(n:Int):dO (bT n)=true:=bHc n
theorem zipT_len{op:rD}: ∀{X Y l:List Pol},bAl op X Y=some l→l.length=X.length
 | [],_,l,h=>by cases h;rfl
 | _::_,[],_,h=>by cases h
 | p::x,q::y,l,h=>by
  unfold bAl at h;split at h
  ·cases h
  ·cases e:bAl op x y with
   | none=>rw [e] at h;cases h
   | some k=>
    rw [e] at h;cases h;simp [zipT_len e]
theorem zipT_all{op:rD}{g:Pol→Prop}(ho: ∀p q,g (op p q).1): ∀{X Y l:List Pol},bAl op X Y=some l→ ∀v∈l,g v
 | [],_,l,h=>by cases h;intro v hv;cases hv
 | _::_,[],_,h=>by cases h
 | p::x,q::y,l,h=>by
  unfold bAl at h;split at h
  ·cases h
  ·cases e:bAl op x y with
   | none=>rw [e] at h;cases h
   | some k=>
    rw [e] at h;cases h;intro v hv
    rcases List.mem_cons.1 hv with rfl | hv
    ·exact ho p q
    ·exact zipT_all ho e v hv
def bDn (op:rD):Prop:= ∀p q,dO (op p q).1=true
theorem addR:bDn addO:=fun p q=>pU p q 1
theorem subR:bDn xV:=fun p q=>pU p q (-1)
theorem mulR:bDn qD:=fun p q=>bGk p q
theorem opR{f:Int}{op:rD}(h:xI f=some op):bDn op:=by
 unfold xI at h;split at h
 ·cases h;exact addR
 ·split at h
  ·cases h;exact subR
  ·split at h
   ·cases h;exact mulR
   ·cases h
theorem repT_len(x:List Pol)(n:Nat)(h:x.length=1):(repT x n).length=n:=by
 unfold repT;rw [List.length_flatten];simp [h]
theorem leftT_len{a b:TyP}(ha:WfT a)(h1:a.known=true):(xA a b).length=if a.sides=[]∧b.sides≠[] then b.values.length else a.values.length:=by
 unfold xA;split
 ·rename_i h;exact repT_len _ _ (bAb ha h1 h.1)
 ·rfl
theorem eachT_wf{op:Option rD}{a b:TyP}(ho: ∀o,op=some o→bDn o)(ha:WfT a):
  (∀v∈(lF op a b).1,dO v=true)∧((lF op a b).2=true→a.known=true∧b.known=true∧(lF op a b).1.length=if a.sides=[]∧b.sides≠[] then b.values.length else a.values.length)∧((lF op a b).2=false→(lF op a b).1=[]):=by
 cases op with
 | none=>exact⟨fun v h=>(by cases h),fun h=>(by cases h),fun _=>rfl⟩
 | some o=>
  by_cases hk:a.known=false∨b.known=false
  ·rw [bFs hk];exact⟨fun v h=>(by cases h),fun h=>(by cases h),fun _=>rfl⟩
  ·have h1:a.known=true:=by cases h:a.known;exact absurd (.inl h) hk;rfl
   have h2:b.known=true:=by cases h:b.known;exact absurd (.inr h) hk;rfl
   cases e:bAl o (xA a b) (uC a b) with
   | none=>
    rw [sW e h1 h2];exact⟨fun v h=>(by cases h),fun h=>(by cases h),fun _=>rfl⟩
   | some l=>
    rw [tF e h1 h2];exact⟨zipT_all (g:=fun v=>dO v=true) (ho o rfl) e,fun _=>⟨h1,h2,by rw [zipT_len e,leftT_len ha h1]⟩,fun h=>(by cases h)⟩
theorem mS{S:List Pol}(h:S.length≤4)(k: ∀s∈S,dO s=true):WfT ⟨S,false,[]⟩:=⟨h,k,fun _ h=>(by cases h),fun h=>(by cases h),fun _=>rfl⟩
theorem literal_wf{nums:List Int}(h:nums≠[]):WfT (jP nums):=by
 have hs:(if 1<nums.length then [bT nums.length] else ([]:List Pol)).length≤4∧ ∀s∈(if 1<nums.length then [bT nums.length] else ([]:List Pol)),dO s=true:=by
  split
  ·exact⟨o9,fun s hs=>by rw [List.mem_singleton.1 hs];exact oG _⟩
  ·exact⟨o9,fun s hs=>(by cases hs)⟩
 unfold jP;split
 ·exact mS hs.1 hs.2
 ·rename_i hn;rw [not_or] at hn;refine⟨hs.1,hs.2,fun v hv=>?_,fun _=>⟨by simp;omega,?_⟩,fun h=>(by cases h)⟩
  ·obtain⟨n,_,rfl⟩:=List.mem_map.1 hv;exact oG n
  ·show(if _ then _ else _)=_∧_∨(if _ then _ else _)=_;rw [List.length_map];split
   ·exact .inr rfl
   ·refine .inl ⟨rfl,?_⟩
    cases nums with
    | nil=>exact absurd rfl h
    | cons a l=>simp at*;omega
theorem mul1: ∀k:Fin 5,qD (bT 1) (bT (k.1:Nat))=(bT (k.1:Nat),0):=by decide+kernel
theorem add_num: ∀j k:Fin 5,(cC (bT (j.1:Nat)) (bT (k.1:Nat)) 1).1=bT ((j.1+k.1:Nat):Int):=by decide+kernel
theorem sub_num: ∀j k:Fin 5,k.1≤j.1→(cC (bT (j.1:Nat)) (bT (k.1:Nat)) (-1)).1=bT ((j.1-k.1:Nat):Int):=by decide+kernel
theorem bIf: ∀{S:List Pol} {p q:Pol},dO p=true→mG p S=some q→dO q=true
 | [],p,q,hp,h=>by cases h;exact hp
 | s::r,p,q,hp,h=>by
  unfold mG at h;split at h
  ·cases h
  ·exact bIf (bGk p s) h
theorem wf_head{a:TyP}(h:WfT a)(k:a.known=true)(hs:a.sides=[]):dO (a.values.headD [])=true:=by
 have:=bAb h k hs
 match hv:a.values,this with
 | [v],_=>exact h.vr v (by rw [hv];exact List.mem_singleton.2 rfl)
theorem negW:WfT ⟨[],true,[[]]⟩:=⟨o9,fun _ h=>(by cases h),fun v h=>by rw [List.mem_singleton.1 h];rfl,fun _=>⟨o9,.inl ⟨rfl,rfl⟩⟩,fun h=>(by cases h)⟩
theorem monad_wf{f:Int}{a:TyP}(ha:WfT a):WfT (gG f a).1:=by
 unfold gG;split
 ·split
  ·exact ha
  ·rename_i hs;split
   ·exact ha
   ·rename_i hk;split
    ·exact ha
    ·exact mS o9 (fun s h=>by rw [List.mem_singleton.1 h];exact wf_head ha (by simpa using hk) (by simpa using hs))
 ·split
  ·refine⟨o9,fun s h=>?_,ha.sr,fun _=>⟨ha.len,.inr rfl⟩,fun h=>(by cases h)⟩;rw [List.mem_singleton.1 h];exact oG _
  ·split
   ·split
    ·exact ha
    ·rename_i p hp;refine⟨o9,fun s h=>?_,ha.vr,fun k=>⟨(ha.kn k).1,.inr ?_⟩,ha.un⟩
     ·rw [List.mem_singleton.1 h];exact bIf (oG 1) hp
     ·have hl:=(ha.kn k).1
      rcases (ha.kn k).2 with h | h
      ·rw [h.1] at hp;cases hp;show [bT 1]=[bT _];rw [h.2];rfl
      ·rw [h] at hp;have hm:=mul1 ⟨a.values.length,n9⟩;unfold mG at hp;dsimp only at hm;rw [hm] at hp;cases hp;rfl
   ·split
    ·dsimp only;split
     ·refine⟨ha.len,ha.sr,fun v h=>ha.vr v (List.mem_reverse.1 h),fun k=>?_,fun k=>by show a.values.reverse=[];rw [ha.un k];rfl⟩;show a.values.reverse.length≤4∧(a.sides=[]∧a.values.reverse.length=1∨a.sides=[bT a.values.reverse.length]);rw [List.length_reverse];exact ha.kn k
     ·exact ha
    ·split
     ·refine⟨by show a.sides.reverse.length≤4;rw [List.length_reverse];exact ha.len,fun s h=>ha.sr s (List.mem_reverse.1 h),ha.vr,fun k=>⟨(ha.kn k).1,?_⟩,ha.un⟩
      rcases (ha.kn k).2 with h | h
      ·exact .inl ⟨by show a.sides.reverse=[];rw [h.1];rfl,h.2⟩
      ·exact .inr (by show a.sides.reverse=_;rw [h];rfl)
     ·split
      ·exact ha
      ·split
       ·obtain⟨e1,e2,e3⟩:=eachT_wf (op:=some xV) (b:=a) (fun o h=>by cases h;exact subR) negW;refine⟨ha.len,ha.sr,e1,fun k=>?_,e3⟩;obtain⟨_,k2,k3⟩:=e2 k;show(lF (some xV) ⟨[],true,[[]]⟩ a).1.length≤4∧(a.sides=[]∧(lF (some xV) ⟨[],true,[[]]⟩ a).1.length=1∨a.sides=[bT (lF (some xV) ⟨[],true,[[]]⟩ a).1.length]);rw [k3];split
        ·exact⟨qL ha,(ha.kn k2).2⟩
        ·rename_i hs;refine⟨o9,.inl ⟨?_,rfl⟩⟩
         simpa using hs
       ·exact mS ha.len ha.sr
theorem rho_wf{a b:TyP}(ha:WfT a):WfT (bBw a b).1:=by
 unfold bBw;split
 ·exact ha
 ·split
  ·exact ha
  ·split
   ·exact ha
   ·split
    ·exact ha
    ·exact mS (qL ha) ha.vr
theorem cut_all{tk:Bool}{n:Int}{l:List Pol}{g:Pol→Prop}(h: ∀v∈l,g v): ∀v∈xG tk n l,g v:=by
 unfold xG;split
 ·exact fun v hv=>h v (List.mem_of_mem_take hv)
 ·exact fun v hv=>h v (List.mem_of_mem_drop hv)
theorem cut_len{tk:Bool}{n:Int}{l:List Pol}(h:max n (-n)≤l.length):(xG tk n l).length=if tk=true then (max n (-n)).toNat else l.length-(max n (-n)).toNat:=by
 unfold xG;cases tk
 ·rw [if_neg (show ¬(false=true) by decide)]
  by_cases hn:(0:Int)≤n
  ·rw [decide_eq_true hn,if_neg p7,List.length_drop,if_neg n9];omega
  ·rw [decide_eq_false hn,if_pos rfl,List.length_take,if_pos n9];omega
 ·rw [if_pos (show true=true from rfl)]
  by_cases hn:(0:Int)≤n
  ·rw [decide_eq_true hn,if_pos rfl,List.length_take,if_neg n9];omega
  ·rw [decide_eq_false hn,if_neg p7,List.length_drop,if_pos n9];omega
theorem bLn{S:List Pol}{s:Pol}(h:s∈S.tail):s∈S:=List.mem_of_mem_tail h
theorem part_wf{tk:Bool}{a b:TyP}(ha:WfT a)(hb:WfT b):WfT (lT tk a b).1:=by
 unfold lT;split
 ·exact ha
 ·rename_i hs;rw [not_or] at hs;split
  ·exact ha
  ·split
   ·exact ha
   ·rename_i n hn;split
    ·exact ha
    ·rename_i hc;have hc:gI (b.sides.headD []) (max n (-n))=true:=by simpa using hc
     have hlen: ∀p:Pol,(p::b.sides.tail).length≤4:=fun p=>by
      have:=hb.len;have h0:b.sides≠[]:=hs.2
      cases e:b.sides with
      | nil=>exact absurd e h0
      | cons s l=>rw [e] at this;exact this
     have hm:b.known=true→b.sides=[bT b.values.length]∧max n (-n)≤b.values.length∧b.values.length≤4:=fun k=>by
      rcases (hb.kn k).2 with h | h
      ·exact absurd h.1 hs.2
      ·rw [h] at hc;exact⟨h,bKm hc,(hb.kn k).1⟩
     have hun:b.known=false→(if b.known=true then xG tk n b.values else b.values)=[]:=fun k=>by rw [k];exact hb.un k
     have hvr: ∀v∈(if b.known=true then xG tk n b.values else b.values),dO v=true:=by
      split
      ·exact cut_all hb.vr
      ·exact hb.vr
     split
     ·rename_i ht;subst ht;refine⟨hlen _,fun s h=>?_,hvr,fun k=>?_,hun⟩
      ·rcases List.mem_cons.1 h with rfl | h
       ·exact oG _
       ·exact hb.sr s (bLn h)
      ·have k:b.known=true:=k;obtain⟨h1,h2,h3⟩:=hm k;show(if b.known=true then xG true n b.values else b.values).length≤4∧(_∨bT (max n (-n))::b.sides.tail=[bT (if b.known=true then xG true n b.values else b.values).length]);rw [if_pos k,cut_len h2,if_pos rfl,h1];refine⟨n9,.inr ?_⟩;rw [show(((max n (-n)).toNat:Nat):Int)=max n (-n) by omega];rfl
     ·rename_i ht;have ht:tk=false:=by simpa using ht
      subst ht;split
      ·exact ha
      ·refine⟨hlen _,fun s h=>?_,hvr,fun k=>?_,hun⟩
       ·rcases List.mem_cons.1 h with rfl | h
        ·exact pU _ _ _
        ·exact hb.sr s (bLn h)
       ·have k:b.known=true:=k;obtain⟨h1,h2,h3⟩:=hm k;show(if b.known=true then xG false n b.values else b.values).length≤4∧(_∨(cC (b.sides.headD []) (bT (max n (-n))) (-1)).1::b.sides.tail=[bT (if b.known=true then xG false n b.values else b.values).length]);rw [if_pos k,cut_len h2,if_neg p7,h1];refine⟨n9,.inr ?_⟩;have hx:=sub_num ⟨b.values.length,n9⟩ ⟨(max n (-n)).toNat,n9⟩ (by show(max n (-n)).toNat≤b.values.length;omega);dsimp only at hx;rw [show(((max n (-n)).toNat:Nat):Int)=max n (-n) by omega] at hx;show(cC (bT b.values.length) _ _).1::[]=_;rw [hx]
theorem oneT_num{a:TyP}(ha:WfT a)(k:a.known=true):cY a.sides=[bT a.values.length]:=by
 unfold cY
 rcases (ha.kn k).2 with h | h
 ·rw [if_pos h.1,h.2];rfl
 ·rw [h,if_neg o9]
theorem oneT_right{a:TyP}(ha:WfT a): ∀s∈cY a.sides,dO s=true:=by
 unfold cY;split
 ·exact fun s h=>by rw [List.mem_singleton.1 h];exact oG _
 ·exact ha.sr
theorem oneT_len{a:TyP}(ha:WfT a)(p:Pol):(p::(cY a.sides).tail).length≤4:=by
 unfold cY;split
 ·simp
 ·rename_i h0;have:=ha.len
  cases e:a.sides with
  | nil=>exact absurd e h0
  | cons s l=>rw [e] at this;exact this
theorem cat_wf{a b:TyP}(ha:WfT a)(hb:WfT b):WfT (bBn a b).1:=by
 unfold bBn;split
 ·exact ha
 ·split
  ·exact ha
  ·have hsr: ∀s∈(cC ((cY a.sides).headD []) ((cY b.sides).headD []) 1).1::(cY b.sides).tail,dO s=true:=fun s h=>by
    rcases List.mem_cons.1 h with rfl | h
    ·exact pU _ _ _
    ·exact oneT_right hb s (bLn h)
   split
   ·rename_i hk;refine⟨oneT_len hb _,hsr,fun v h=>?_,fun _=>⟨?_,.inr ?_⟩,fun h=>(by cases h)⟩
    ·rcases List.mem_append.1 h with h | h
     ·exact ha.vr v h
     ·exact hb.vr v h
    ·show(a.values++b.values).length≤4;rw [List.length_append];exact hk.2.2
    ·show(cC ((cY a.sides).headD []) ((cY b.sides).headD []) 1).1::(cY b.sides).tail=[bT (a.values++b.values).length];rw [oneT_num ha hk.1,oneT_num hb hk.2.1,List.length_append];have hx:=add_num ⟨a.values.length,n9⟩ ⟨b.values.length,n9⟩;dsimp only at hx;show(cC (bT a.values.length) (bT b.values.length) 1).1::[]=_;rw [hx]
   ·exact mS (oneT_len hb _) hsr
theorem dyad_wf{f:Int}{a b:TyP}(ha:WfT a)(hb:WfT b):WfT (pN f a b).1:=by
 unfold pN;split
 ·exact rho_wf ha
 ·split
  ·exact part_wf ha hb
  ·split
   ·exact part_wf ha hb
   ·split
    ·exact cat_wf ha hb
    ·split
     ·exact mS ha.len ha.sr
     ·obtain⟨e1,e2,e3⟩:=eachT_wf (op:=xI f) (b:=b) (fun o h=>opR h) ha
      by_cases hs:a.sides=[]
      ·rw [if_pos hs];refine⟨hb.len,hb.sr,e1,fun k=>?_,e3⟩;obtain⟨k1,k2,k3⟩:=e2 k;show(lF (xI f) a b).1.length≤4∧(b.sides=[]∧(lF (xI f) a b).1.length=1∨b.sides=[bT (lF (xI f) a b).1.length]);rw [k3];split
       ·exact⟨qL hb,(hb.kn k2).2⟩
       ·rename_i h
        have hbs:b.sides=[]:=by
         by_cases e:b.sides=[]
         ·exact e
         ·exact absurd ⟨hs,e⟩ h
        exact⟨qL ha,.inl ⟨hbs,bAb ha k1 hs⟩⟩
      ·rw [if_neg hs];refine⟨ha.len,ha.sr,e1,fun k=>?_,e3⟩;obtain⟨k1,k2,k3⟩:=e2 k;show(lF (xI f) a b).1.length≤4∧(a.sides=[]∧(lF (xI f) a b).1.length=1∨a.sides=[bT (lF (xI f) a b).1.length]);rw [k3,if_neg (fun h=>hs h.1)];exact⟨qL ha,(ha.kn k1).2⟩
theorem bQi{k:Bs}{t:TyP}: ∀{N:fM},mB k N=some t→ ∃p∈N,p.2=t
 | [],h=>by cases h
 | p::r,h=>by
  rw [mB] at h;split at h
  ·injection h with h
   exact⟨p,List.mem_cons_self ..,h⟩
  ·obtain⟨q,hq,e⟩:=bQi h;exact⟨q,List.mem_cons_of_mem _ hq,e⟩
def nK (N:fM):Prop:= ∀q∈N,WfT q.2
theorem look_wf{N:fM}(h:nK N){k:Bs}{t:TyP}(e:mB k N=some t):WfT t:=by
 obtain⟨p,hp,rfl⟩:=bQi e;exact h p hp
theorem name_wf{N:fM}(h:nK N){s:Bs}{t:TyP}(e:nameT N s=some t):WfT t:=by
 unfold nameT at e;split at e
 ·rename_i h1;cases e;exact look_wf h h1
 ·split at e
  ·rename_i h1;cases e;exact look_wf h h1
  ·exact look_wf h e
theorem none_wf:WfT ⟨[],false,[]⟩:=mS o9 (fun s h=>(by cases h))
theorem headW{st:List TyP}(h: ∀t∈st,WfT t)(k:1≤st.length):WfT (st.headD default):=by
 match st,k with
 | a::l,_=>exact h a (List.mem_cons_self ..)
theorem secondW{st:List TyP}(h: ∀t∈st,WfT t)(k:2≤st.length):WfT (st.tail.headD default):=by
 match st,k with
 | a::b::l,_=>exact h b (List.mem_cons_of_mem _ (List.mem_cons_self ..))
theorem item_wf{N:fM}(hN:nK N){it:cT}{st:List TyP}(hs: ∀t∈st,WfT t)(hd:dF it≤st.length)(hnum:it.how=1→it.nums≠[])(h17:1≤it.how∧it.how≤7)(h0:(dR N it st).2=0):WfT (dR N it st).1:=by
 have h1:it.how=3∨it.how=5∨it.how=6→1≤st.length:=fun h=>by rw [oJ h] at hd;exact hd
 have h2:it.how=4∨it.how=7→2≤st.length:=fun h=>by rw [qF h] at hd;exact hd
 unfold dR at h0⊢;split
 ·exact literal_wf (hnum ‹_›)
 ·split
  ·split
   ·rename_i e;exact name_wf hN e
   ·exact none_wf
  ·split
   ·exact monad_wf (headW hs (h1 n9))
   ·split
    ·have hw:=headW hs (h1 n9);dsimp only;split
     ·exact hw
     ·exact mS (by rw [List.length_take];have:=hw.len;omega) (fun s h=>hw.sr s (List.mem_of_mem_take h))
    ·split
     ·have hw:=headW hs (h1 n9);dsimp only;split
      ·exact hw
      ·exact mS hw.len hw.sr
     ·split
      ·exact dyad_wf (secondW hs (h2 n9)) (headW hs (h2 n9 |>Nat.le_of_succ_le))
      ·rename_i n1 n2 n3 n5 n6 n4;rw [if_neg n1,if_neg n2,if_neg n3,if_neg n5,if_neg n6,if_neg n4] at h0;have hx:=secondW hs (h2 n9);have hu:=headW hs (h2 n9 |>Nat.le_of_succ_le);refine mS ?_ (fun s h=>?_)
       ·rw [List.length_append];dsimp only at h0;split at h0
        ·cases h0
        ·omega
       ·rcases List.mem_append.1 h with h | h
        ·exact hx.sr s h
        ·exact hu.sr s h
theorem varT_wf(k:Nat):WfT (varT k):=⟨by simp [varT],fun s h=>(by cases h),fun v h=>by rw [List.mem_singleton.1 h];exact bFx _,fun _=>⟨by simp [varT],.inl ⟨rfl,rfl⟩⟩,fun h=>(by cases h)⟩
theorem varsT_wf: ∀{vars:List Bs} {k:Nat} {N:fM},nK N→nK (wW vars k N)
 | [],_,_,h=>h
 | s::r,k,N,h=>by
  show nK (wW r (k+1) ((s,varT k)::N));refine varsT_wf (fun q hq=>?_)
  rcases List.mem_cons.1 hq with rfl | hq
  ·exact varT_wf k
  ·exact h q hq
theorem insT_wf{vars:List Bs}: ∀{l:List hO} {N:fM},(∀x∈l,x.sides.length≤4)→nK N→nK (insT vars l N)
 | [],_,_,h=>h
 | x::r,N,hl,h=>by
  show nK (insT vars r ((nIn++x.name,inT vars x)::N));refine insT_wf (fun y hy=>hl y (List.mem_cons_of_mem _ hy)) (fun q hq=>?_)
  rcases List.mem_cons.1 hq with rfl | hq
  ·refine mS ?_ (fun s hs=>?_)
   ·rw [List.length_map];exact hl x (List.mem_cons_self ..)
   ·obtain⟨d,_,rfl⟩:=List.mem_map.1 hs;unfold sideT';split
    ·exact bFx _
    ·exact oG _
  ·exact h q hq
theorem check_wf{p:gQ}(h:(cX p).2=true):nK (oA p):=
 insT_wf (fun x hx=>((wH h).input x hx).2.1) (varsT_wf (fun q hq=>(by cases hq)))
def sZ (k:Bs):Prop:= ∀r,k≠jN++r∧k≠nIn++r
def bAw (N:iU)(NT:fM):Prop:= ∀k,sZ k→(∀v,xB k N=some v→nameT NT k=some v.t)∧(xB k N=none→ ∀t,nameT NT k=some t→ ∃p,t=⟨[],true,[p]⟩)
abbrev kQ (st:List iX):List TyP:=st.map iX.t
theorem put_ok{t:TyP}{n:Nat}{st:List iX}{s:LoS}{x:List iX×LoS}(h:xZ t n st s= .ok x):x.1=⟨t,(s.bufs.length:Nat)⟩::st.drop n∧x.2=⟨s.bufs++[⟨t.sides,-1⟩],s.steps⟩∧s.bufs.length+1≤1024∧s.steps.length≤1024:=by
 unfold xZ at h;split at h
 ·cases h
 ·cases h;exact⟨rfl,rfl,n9,n9⟩
theorem headD_t{st:List iX}(h:1≤st.length):(kQ st).headD default=(st.headD default).t:=by
 cases st with
 | nil=>simp at h
 | cons a l=>rfl
theorem item_sync{N:iU}{NT:fM}{it:cT}{st:List iX}{s:LoS}{x:List iX×LoS}(hN:bAw N NT)(hk:it.how=2→sZ it.name)(hd:dF it≤st.length)(h17:1≤it.how∧it.how≤7)
  (_he:(dR NT it (kQ st)).2=0) (h:iE N it (dR NT it (kQ st)).1 st s= .ok x):kQ x.1=(dR NT it (kQ st)).1::(kQ st).drop (dF it):=by
 have fin: ∀{t n s},xZ t n st s= .ok x→n=dF it→kQ x.1=t::(kQ st).drop (dF it):=fun{t n s} h e=>by
  rw [(put_ok h).1,e];simp [kQ]
 generalize hq:dR NT it (kQ st)=q at h⊢;have h1:it.how=1∨it.how=2∨it.how=3∨it.how=4∨it.how=5∨it.how=6∨it.how=7:=n9
 unfold iE at h
 rcases h1 with e | e | e | e | e | e | e
 ·rw [if_pos e] at h;exact fin h ag7
 ·rw [if_neg n9,if_pos e] at h
  cases ev:xB it.name N with
  | none=>rw [ev] at h;exact fin h ag7
  | some v=>
   rw [ev] at h;cases h;have:=(hN it.name (hk e)).1 v ev
   have e2:q.1=v.t:=by
    rw [←hq];unfold dR;rw [if_neg n9,if_pos e,this]
   rw [e2];simp [dF,e]
 ·rw [if_neg n9,if_neg n9,if_pos e] at h;exact fin h ag7
 ·rw [if_neg n9,if_neg n9,if_neg n9,if_neg n9,if_pos e] at h
  cases ev:nD it.fn (st.tail.headD default) (st.headD default) q.1 s with
  | none=>rw [ev] at h;cases h
  | some s'=>rw [ev] at h;exact fin h ag7
 ·rw [if_neg n9,if_neg n9,if_neg n9,if_pos (.inl e)] at h;have h1:1≤st.length:=by simpa [dF,e] using hd
  split at h
  ·rename_i hs;cases h
   have e2:q.1=(st.headD default).t:=by
    rw [←hq];unfold dR;rw [if_neg n9,if_neg n9,if_neg n9,if_pos e,headD_t h1,if_pos hs]
   match st,h1 with
   | a::r,_=>rw [e2];simp [dF,e]
  ·exact fin h ag7
 ·rw [if_neg n9,if_neg n9,if_neg n9,if_pos (.inr e)] at h;have h1:1≤st.length:=by simpa [dF,e] using hd
  split at h
  ·rename_i hs;cases h
   have e2:q.1=(st.headD default).t:=by
    rw [←hq];unfold dR;rw [if_neg n9,if_neg n9,if_neg n9,if_neg n9,if_pos e,headD_t h1,if_pos hs]
   match st,h1 with
   | a::r,_=>rw [e2];simp [dF,e]
  ·exact fin h ag7
 ·rw [if_neg n9,if_neg n9,if_neg n9,if_neg n9,if_neg n9] at h;exact fin h ag7
theorem bGd{NT:fM}: ∀{l:List cT} {st done:List TyP} {r:List TyP×List TyP},lE NT l st done= .ok r→ ∃x,r.2=done++x∧x.length=l.length
 | [],_,_,_,h=>by cases h;exact⟨[],o9,rfl⟩
 | it::l,st,done,r,h=>by
  rw [lE] at h;split at h
  ·cases h
  ·obtain⟨x,e,hx⟩:=bGd h;exact⟨_::x,by rw [e,List.append_assoc];rfl,by simp [hx]⟩
theorem lineT_at{NT:fM}{it:cT}{l:List cT}{st done:List TyP}{r:List TyP×List TyP}(h:lE NT (it::l) st done= .ok r):
  (dR NT it st).2=0∧r.2.drop done.length=(dR NT it st).1::r.2.drop (done.length+1)∧lE NT l ((dR NT it st).1::st.drop (dF it)) (done++[(dR NT it st).1])= .ok r:=by
 rw [lE] at h;split at h
 ·cases h
 ·rename_i he;refine⟨by simpa using he,?_,h⟩;obtain⟨x,e,_⟩:=bGd h;rw [e,List.append_assoc,List.drop_left,List.singleton_append]
  congr 1
  rw [show done++((dR NT it st).1::x)=(done++[(dR NT it st).1])++x by simp];have:done.length+1=(done++[(dR NT it st).1]).length:=by simp
  rw [this,List.drop_left]
theorem depth_at{x:cT}{l:List cT}{n:Nat}(h:lX (x::l) n=some 1):(dF x≤n∧1≤x.how∧x.how≤7∧(x.how=1→x.nums≠[]∧x.nums.length≤65536))∧lX l (n-dF x+1)=some 1:=by
 rw [lX] at h;split at h
 ·rename_i hb;exact⟨hb,h⟩
 ·cases h
theorem bKj{a b:Bs}:jN++a≠nIn++b:=fun h=>by simp [jN,nIn] at h
theorem sync_add{N:iU}{NT:fM}(h:bAw N NT)(s:Bs)(v:iX):bAw ((s,v)::N) ((jN++s,v.t)::NT):=fun k hk=>by
 have e1:nameT ((jN++s,v.t)::NT) k=if k=s then some v.t else nameT NT k:=by
  unfold nameT;rw [mB,mB,mB]
  by_cases e:k=s
  ·subst e;simp
  ·rw [if_neg (show ¬jN++k=jN++s from fun h=>e (List.append_cancel_left h)),if_neg (show ¬nIn++k=jN++s from fun h=>bKj h.symm),if_neg (hk s).1,if_neg e]
 rw [e1,xB]
 by_cases e:k=s
 ·rw [if_pos e,if_pos e];exact⟨fun w hw=>(by cases hw;rfl),fun hw=>(by cases hw)⟩
 ·rw [if_neg e,if_neg e];exact h k hk
theorem zF: ∀{l:List Bs} {k:Nat} {N:fM} {q:Bs},(∀s∈l,sZ s)→(∃r,q=jN++r∨q=nIn++r)→mB q (wW l k N)=mB q N
 | [],_,_,_,_,_=>rfl
 | s::l,k,N,q,h,hq=>by
  rw [wW,zF (fun x hx=>h x (List.mem_cons_of_mem _ hx)) hq,mB,if_neg];rintro rfl;obtain⟨r,e | e⟩:=hq
  ·exact(h q (List.mem_cons_self ..) r).1 e
  ·exact(h q (List.mem_cons_self ..) r).2 e
theorem bSd: ∀{l:List Bs} {k:Nat} {N:fM} {q:Bs} {t:TyP},(∀t,mB q N=some t→ ∃p,t=⟨[],true,[p]⟩)→mB q (wW l k N)=some t→ ∃p,t=⟨[],true,[p]⟩
 | [],_,_,_,_,hN,h=>hN _ h
 | s::l,k,N,q,t,hN,h=>by
  rw [wW] at h;refine bSd (fun u hu=>?_) h;rw [mB] at hu;split at hu
  ·cases hu;exact⟨_,rfl⟩
  ·exact hN u hu
theorem ins_sync{vars:List Bs}: ∀{l:List hO} {i:Nat} {N:iU} {NT:fM},bAw N NT→(∀r,mB (jN++r) NT=none)→bAw (bBv vars i l N) (insT vars l NT)∧ ∀r,mB (jN++r) (insT vars l NT)=none
 | [],_,_,_,h,k=>⟨h,k⟩
 | x::l,i,N,NT,h,k=>by
  rw [bBv,insT];refine ins_sync (fun q hq=>?_) (fun r=>by rw [mB,if_neg bKj];exact k r)
  have e1:nameT ((nIn++x.name,inT vars x)::NT) q=if q=x.name then some (inT vars x) else nameT NT q:=by
   unfold nameT;rw [mB,mB,mB,if_neg bKj,k q]
   by_cases e:q=x.name
   ·subst e;simp
   ·rw [if_neg (show ¬nIn++q=nIn++x.name from fun h=>e (List.append_cancel_left h)),if_neg (hq x.name).2,if_neg e]
  rw [e1,xB]
  by_cases e:q=x.name
  ·rw [if_pos e,if_pos e];exact⟨fun w hw=>(by cases hw;rfl),fun hw=>(by cases hw)⟩
  ·rw [if_neg e,if_neg e];exact h q hq
theorem start_sync{p:gQ}(hv: ∀s∈cW p,sZ s):bAw (bBv (cW p) 0 p.inputs []) (oA p):=by
 refine(ins_sync (fun k hk=>⟨fun v hv=>(by cases hv),fun _ t ht=>?_⟩) (fun r=>by rw [zF hv ⟨r,.inl rfl⟩];rfl)).1;unfold nameT at ht;rw [zF hv ⟨k,.inl rfl⟩,zF hv ⟨k,.inr rfl⟩] at ht;exact bSd (fun t h=>by cases h) ht
theorem word_plain{s:Bs}(h:WordB s):sZ s:=fun r=>by
 have hb:nE 32=false:=p7
 constructor
 all_goals
  intro e;have:=h.all 32 (by rw [e];simp [jN,nIn]);rw [hb] at this;cases this
theorem bLi{s:Bs}(h:cZ s=true):sZ s:=word_plain (sD h)
theorem step_name{st st':List dZ}{x:cT}(h:hY st x=some st')(k:x.how=2):cZ x.name=true:=by
 unfold hY at h;rw [if_pos (.inr k)] at h;unfold operandS at h;split at h
 ·split at h
  ·rename_i hb;exact hb.2.2
  ·simp at h
 ·rename_i h2;exact absurd k h2
theorem bLz: ∀{l:List cT} {st st':List dZ},fR l st=some st'→ ∀x∈l,x.how=2→cZ x.name=true
 | [],_,_,_,x,hx=>by simp at hx
 | y::l,st,st',h,x,hx=>by
  rw [fR] at h
  cases h1:hY st y with
  | none=>rw [h1] at h;cases h
  | some s1=>
   rw [h1] at h
   rcases List.mem_cons.1 hx with rfl | hx
   ·exact step_name h1
   ·exact bLz h x hx
theorem bRy{l:List cT}{m:Nat}{t:Bs}(h:gP l m=some t): ∀x∈l,x.how=2→cZ x.name=true:=by
 unfold gP at h;split at h
 ·cases h
 ·split at h
  ·rename_i hq;exact bLz hq
  ·cases h
theorem bNi: ∀{ls:List kY} {o o':Bs},fF ls o=(o',true)→ ∀l∈ls,∀x∈l.items,x.how=2→cZ x.name=true
 | [],_,_,_,l,hl=>by simp at hl
 | [m],o,o',h,l,hl=>by
  rw [List.mem_singleton.1 hl];simp only [fF] at h
  cases hx:gP m.items 255 with
  | none=>rw [hx] at h;simp at h
  | some t=>exact bRy hx
 | m::n::ls,o,o',h,l,hl=>by
  have h':(match gP m.items 254 with
    | none=>(o,false)
    | some t=>if cZ m.name=false then (o,false) else fF (n::ls) (o++(((m.name++[58,32])++t)++[10])))=(o',true):=h
  cases hx:gP m.items 254 with
  | none=>rw [hx] at h';simp at h'
  | some t=>
   rw [hx] at h';simp only at h';split at h'
   ·simp at h'
   ·rcases List.mem_cons.1 hl with rfl | hl
    ·exact bRy hx
    ·exact bNi h' l hl
theorem xU: ∀{ds:List rE} {acc t:Bs},lD ds acc=some t→ ∀d∈ds,d.name=[]∨cZ d.name=true
 | [],_,_,_,d,hd=>by simp at hd
 | e::ds,acc,t,h,d,hd=>by
  rw [lD] at h;split at h
  ·rename_i he
   rcases List.mem_cons.1 hd with rfl | hd
   ·exact .inl he
   ·exact xU h d hd
  ·split at h
   ·rename_i hb
    rcases List.mem_cons.1 hd with rfl | hd
    ·exact .inr hb.2
    ·exact xU h d hd
   ·cases h
theorem bDs: ∀{xs:List hO} {o o':Bs},mC xs o=(o',true)→ ∀x∈xs,∀d∈x.sides,d.name=[]∨cZ d.name=true
 | [],_,_,_,x,hx=>by simp at hx
 | y::xs,o,o',h,x,hx=>by
  rw [mC] at h
  cases hi:pE y with
  | none=>rw [hi] at h;simp at h
  | some t=>
   rw [hi] at h;simp only at h
   rcases List.mem_cons.1 hx with rfl | hx
   ·unfold pE at hi;split at hi
    ·cases hi
    ·exact xU hi
   ·exact bDs h x hx
theorem bJu: ∀{ds:List rE} {out:List Bs},(∀s∈out,cZ s=true)→(∀d∈ds,d.name=[]∨cZ d.name=true)→ ∀s∈tZ ds out,cZ s=true
 | [],_,h,_=>h
 | d::ds,out,h,k=>by
  rw [tZ];refine bJu (fun s hs=>?_) (fun x hx=>k x (List.mem_cons_of_mem _ hx));split at hs
  ·exact h s hs
  ·rename_i hn
   rcases List.mem_append.1 hs with hs | hs
   ·exact h s hs
   ·rw [List.mem_singleton.1 hs]
    rcases k d (List.mem_cons_self ..) with e | e
    ·exact absurd (.inl e) hn
    ·exact e
theorem bHd{p:gQ}(h:(cX p).2=true):(∀l∈p.lines,∀x∈l.items,x.how=2→sZ x.name)∧ ∀s∈cW p,sZ s:=by
 unfold cX at h;split at h
 ·cases h
 ·cases hi:mC p.inputs [] with
  | mk o b=>
   rw [hi] at h
   cases b with
   | false=>cases h
   | true=>
    refine⟨fun l hl x hx k=>bLi (bNi (o':=(fF p.lines o).1) (Prod.ext rfl h) l hl x hx k),fun s hs=>bLi (bJu (fun s hs=>(by cases hs)) (fun d hd=>?_) s hs)⟩;obtain⟨x,hx,hd⟩:=List.mem_flatMap.1 hd;exact bDs hi x hx d hd
theorem name_val{N:iU}{NT:fM}{it:cT}{st:List TyP}(hN:bAw N NT)(hp:sZ it.name)(h2:it.how=2)(he:(dR NT it st).2=0)(hl:xB it.name N=none):0<(dR NT it st).1.values.length:=by
 unfold dR at he⊢;rw [if_neg n9,if_pos h2] at he⊢
 cases e:nameT NT it.name with
 | none=>rw [e] at he;simp at he
 | some t=>
  obtain⟨p,rfl⟩:=(hN _ hp).2 hl t e;simp
theorem bMx{take:Bool}{a b:TyP}(ha:WfT a)(h:(lT take a b).2=0):0<a.values.length:=by
 unfold lT at h;split at h
 ·simp at h
 ·rename_i h1;split at h
  ·simp at h
  ·rename_i h2;have hk:a.known=true:=by simpa using h2
   have h1:a.sides=[]:=by
    cases hs:a.sides with
    | nil=>rfl
    | cons x r=>exact absurd (.inl (by rw [hs];simp)) h1
   rcases (ha.kn hk).2 with ⟨_,e⟩ | e
   ·omega
   ·rw [h1] at e;cases e
theorem part_val{NT:fM}{it:cT}{st:List TyP}(hs:WfT (st.tail.headD default))(h4:it.how=4)(hf:it.fn=38∨it.fn=39)(he:(dR NT it st).2=0):0<(st.tail.headD default).values.length:=by
 unfold dR at he;rw [if_neg n9,if_neg n9,if_neg n9,if_neg n9,if_neg n9,if_pos h4] at he;unfold pN at he;rw [if_neg n9] at he;split at he
 ·exact bMx hs he
 ·rw [if_pos n9] at he;exact bMx hs he
theorem item_fits{N:iU}{it:cT}{t:TyP}{st:List iX}{s:LoS}{x:List iX×LoS}(h:iE N it t st s= .ok x)(hb:s.bufs.length≤1024)(hs:s.steps.length≤1024):x.2.bufs.length≤1024∧x.2.steps.length≤1024:=by
 have fin: ∀{n s},xZ t n st s= .ok x→x.2.bufs.length≤1024∧x.2.steps.length≤1024:=fun{n s} k=>by
  obtain⟨_,e,h1,h2⟩:=put_ok k;rw [e];exact⟨by simpa using h1,h2⟩
 unfold iE at h;split at h
 ·exact fin h
 ·split at h
  ·split at h
   ·cases h;exact⟨hb,hs⟩
   ·exact fin h
  ·split at h
   ·exact fin h
   ·split at h
    ·split at h
     ·cases h;exact⟨hb,hs⟩
     ·exact fin h
    ·split at h
     ·split at h
      ·cases h
      ·exact fin h
     ·exact fin h
def OkV (s:LoS)(v:iX):Prop:= ∃k:Nat,v.buf=(k:Int)∧ ∃b,s.bufs[k]?=some b∧b.sides=v.t.sides
theorem pre_get{α:Type}{a b:List α}(h:a<+:b){k:Nat}{x:α}(e:a[k]?=some x):b[k]?=some x:=by
 obtain⟨r,rfl⟩:=h;rw [List.getElem?_append_left (List.getElem?_eq_some_iff.1 e).1];exact e
theorem OkV.ext{s s':LoS}{v:iX}(h:OkV s v)(e:Ext s s'):OkV s' v:=by
 obtain⟨k,hk,b,hb,hs⟩:=h;exact⟨k,hk,b,pre_get e.1 hb,hs⟩
end Go.Proofs.YtakphiannlpnfaaGreatDoor
