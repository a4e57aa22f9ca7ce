/- Texts of one proof, one behind the other: TypeS, SamT, TypU, MeanE, Shown8, Shown9, TypL, TysK, CorF, TysL, LoA, LoB. -/
import Derived.Test.YtakphiannlpnfaaGreatDoorM2
import Derived.Test.YtakphiannlpnfaaGreatDoorM14
import Derived.Test.YtakphiannlpnfaaGreatDoorM13
import Derived.Test.YtakphiannlpnfaaGreatDoorM7
import Derived.Test.YtakphiannlpnfaaGreatDoorM11
import Derived.Test.YtakphiannlpnfaaGreatDoorM4
import Derived.Lib.AppendZeros
namespace Go.Proofs.YtakphiannlpnfaaGreatDoor
section
open Go.RowKit Go.Proofs.Tryz
set_option maxRecDepth 100000
theorem badT_a{n:Int}(h:n<0):bGz n=true:=by simp [bGz,h]
theorem badT_b{n:Int}(h:65536<n):bGz n=true:=by simp [bGz,h]
theorem badT_c{n:Int}(h: ¬n<0)(k: ¬65536<n):bGz n=false:=by simp [bGz,h,k]
def rowT (s:Sl TyV):List TyP:=s.list.map TyV.t
def rowF (s:Sl TyV):Fact:=((tyE.sl (.slice s.addr s.list.length s.cap) s.list).and (Fact.each s.list tyF)).and (Fact.pure (s.list.length≤s.cap))
def sO (N:dT)(l:List cT)(j:Nat)(hv ow:List TyV):Prop:=mE N l [] []=mE N (l.drop j) (stT hv) (ow.map TyV.t)∧lL (l.drop j) hv.length=some 1∧(∀a∈hv,WfT a.t)∧hv.length≤j∧ow.length=j
section
variable {N : dT} {l : List cT} {j : Nat} {hv ow : List TyV} {x : cT} {y z : TyV}
theorem tsT_start(hd:lL l 0=some 1):sO N l 0 [] []:=⟨rfl,hd,fun a ha=>(by simp at ha),Nat.le_refl _,rfl⟩
theorem tsT_dep(h:sO N l j hv ow)(hx:l[j]?=some x):(dG x≤hv.length∧1≤x.how∧x.how≤7∧(x.how=1→x.nums≠[]∧x.nums.length≤65536))∧lL (l.drop (j+1)) (hv.length-dG x+1)=some 1:=by
 have hd:=h.2.1;rw [gE hx,lL] at hd;split at hd
 ·rename_i hb;exact⟨hb,hd⟩
 ·cases hd
theorem stT_wf(h: ∀a∈hv,WfT a.t): ∀t∈stT hv,WfT t:=fun t ht=>by
 unfold stT at ht;rw [List.mem_reverse] at ht;obtain⟨b,hb,rfl⟩:=List.mem_map.1 ht;exact h b hb
theorem stT_length(hv:List TyV):(stT hv).length=hv.length:=by simp [stT]
theorem tsT_err(h:sO N l j hv ow)(hx:l[j]?=some x)(he:(dB N x (stT hv)).2≠0):mE N l [] []= .error (x.at_,(dB N x (stT hv)).2):=by
 rw [h.1,gE hx,mE,if_pos he]
theorem tsT_wf(hN:nC N)(h:sO N l j hv ow)(hx:l[j]?=some x)(he:(dB N x (stT hv)).2=0)(hy:y.t=(dB N x (stT hv)).1):WfT y.t:=by
 obtain⟨⟨h1,h2,h3,h4⟩,_⟩:=tsT_dep h hx;rw [hy];exact item_wf hN (stT_wf h.2.2.1) (by rw [stT_length];exact h1) (fun e=>(h4 e).1) ⟨h2,h3⟩ he
theorem tsT_step(h:sO N l j hv ow)(hx:l[j]?=some x)(he:(dB N x (stT hv)).2=0)(hy:y.t=(dB N x (stT hv)).1)(hw:WfT y.t)(hz:z.t=y.t):sO N l (j+1) (hv.take (hv.length-dG x)++[y]) (ow++[z]):=by
 obtain⟨⟨h1,_⟩,hd⟩:=tsT_dep h hx;have hl:(hv.take (hv.length-dG x)++[y]).length=hv.length-dG x+1:=by rw [List.length_append,List.length_take];simp
 refine⟨?_,by rw [hl];exact hd,fun a ha=>?_,by rw [hl];have:=h.2.2.2.1;omega,by rw [List.length_append,h.2.2.2.2];rfl⟩
 ·rw [h.1,gE hx,mE,if_neg (by simp [he]),stT_push (T:=dG x) rfl,List.map_append,List.map_singleton,hz,hy]
 ·rcases List.mem_append.1 ha with ha | ha
  ·exact h.2.2.1 a (List.mem_of_mem_take ha)
  ·rw [List.mem_singleton.1 ha];exact hw
theorem tsT_end(h:sO N l j hv ow)(hj:l.length≤j): ∃a,hv=[a]∧mE N l [] []= .ok ([a.t],ow.map TyV.t)∧WfT a.t:=by
 obtain⟨h1,h2,h3,_,_⟩:=h;rw [uH hj,lL] at h2;injection h2 with h2
 match hv,h2 with
 | [a],_=>
  refine⟨a,rfl,?_,h3 a (List.mem_cons_self ..)⟩;rw [h1,uH hj];rfl
end
def bCb (ls:List mT)(i:Nat)(kv:KVS)(NV:NamesTV)(xs:List (Sl TyV))(r:List (List TyP)×Flt):Prop:=tN kv NV∧nC (jY NV)∧r=kS (jY NV) (ls.drop i) (xs.map rowT)∧xs.length=i
section
variable {ls : List mT} {i : Nat} {kv : KVS} {NV : NamesTV} {xs : List (Sl TyV)} {r : List (List TyP) × Flt} {l : mT} {a : TyV} {s : Sl TyV} {f : Flt}
theorem lsT_err(h:bCb ls i kv NV xs r)(hx:ls[i]?=some l)(hl:mE (jY NV) l.items [] []= .error f):r=([],f):=by
 rw [h.2.2.1,gE hx,kS,hl]
theorem lsT_step(h:bCb ls i kv NV xs r)(hx:ls[i]?=some l)(hl:mE (jY NV) l.items [] []= .ok ([a.t],s.list.map TyV.t))(ha:WfT a.t):bCb ls (i+1) (nG (jL++l.name) (tyC a) kv) ((jL++l.name,a)::NV) (xs++[s]) r:=by
 refine⟨nrT_add h.1 _ a,fun p hp=>?_,?_,by rw [List.length_append,h.2.2.2];rfl⟩
 ·rcases List.mem_cons.1 hp with rfl | hp
  ·exact ha
  ·exact h.2.1 p hp
 ·rw [h.2.2.1,gE hx,kS,hl,List.map_append];rfl
theorem lsT_end(h:bCb ls i kv NV xs r)(hi:ls.length≤i):r=(xs.map rowT,(0,0)):=by
 rw [h.2.2.1,uH hi];rfl
end
theorem ty_no{p:gN}(h:(cV p).2=false):fI p=([],(0,50)):=if_pos h
theorem ty_few{p:gN}{x:gM}(h:(cV p).2=true)(hf:p.inputs.find? (bDv (cJ p))=some x):fI p=([],(x.at_,80)):=by
 unfold fI;rw [if_neg ag7,hf]
theorem ty_go{p:gN}(h:(cV p).2=true)(hf:p.inputs.find? (bDv (cJ p))=none):fI p=kS (pM p) p.lines []:=by
 unfold fI;rw [if_neg ag7,hf]
theorem types_spec(P:ProgV)(hP:uN P)(hl1:P.inputs.list.length≤140737488355328)(hl2:P.lines.list.length≤140737488355328):cM prog 9 [.agg #[.slice P.inputs.addr P.inputs.list.length P.inputs.cap,.slice P.lines.addr P.lines.list.length P.lines.cap]] [] [iW,kR.sl (.slice P.inputs.addr P.inputs.list.length P.inputs.cap) P.inputs.list,jE P.inputs.list,pV.sl (.slice P.lines.addr P.lines.list.length P.lines.cap) P.lines.list,nE P.lines.list] (fun(x:Option Addr×Nat×List (Sl TyV))=> .tuple #[.slice x.1 x.2.2.length x.2.1,.agg #[.int .i64 (fI P.pr).2.1,.int .i64 (fI P.pr).2.2]]) (fun _=>[]) (fun(x:Option Addr×Nat×List (Sl TyV))=>[bSb.sl (.slice x.1 x.2.2.length x.2.1) x.2.2,Fact.each x.2.2 rowF,Fact.pure (x.2.2.map rowT=(fI P.pr).1∧x.2.2.length≤x.2.1)]):=by
 have hT:=fK;generalize hR:fI P.pr=r;refine k6 func9 ntmps9 ?_;intro β hM;refine g2 ?_;refine j9 fun b1=>?_;refine one ?_;refine j6 bFo fun b2=>?_;refine g6 ?_;refine j5 func21 (sRight_spec P hP hl1 hl2) ⟨d7,d8,d9,e6,e7,j0⟩ fun _=>?_;refine g3 ?_;refine jJ (fun hc22=>?_) fun hc22=>?_
 ·refine g2 ?_;refine ss (k7 (zS _)) ?_;refine g6 ?_;obtain rfl:=hR.symm.trans (ty_no ‹_›);exact rs2 (none,0,[]) ⟨qN,Has.each_nil,j3 ⟨rfl,Nat.le_refl 0⟩,j0⟩
 refine g3 ?_;have hrt:(cV P.pr).2=true:=by assumption
 have hfine:=vB hrt;have hs: ∀x∈P.inputs.list,x.sides.list.length≤4:=fun x hx=>by have h1:=(hfine.input x.inp (vC hx)).2.1;have h2:x.inp.sides.length=x.sides.list.length:=List.length_map _;omega
 have hTT:=xW hrt;have hpl:P.pr.inputs.length=P.inputs.list.length:=List.length_map _;refine g2 ?_;refine j5 func15 (bJv P hl1 (fun x hx=>Nat.le_trans (hs x hx) o9) n7) ⟨d8,d9,j0⟩ fun⟨V,cv⟩=>?_;have hvl:(cJ P.pr).length≤256:=Nat.le_trans (vars_le P.pr) hTT;refine g13 ?_;refine cB (ι:=Nat) [(1,_),(3,_),(4,_),(27,_),(28,_)] ⟨rfl,rfl,rfl,rfl,rfl,j0⟩ (fun i=>[(29,.int .i64 (i:Nat))]) (fun _=>[]) (fun i=>[Fact.pure (i≤P.inputs.list.length∧bGk (cJ P.pr) P.pr.inputs i)]) (fun i=>P.inputs.list.length-i) 0 ⟨rfl,j0⟩ .nil ⟨j3 (⟨n7,few_start⟩),j0⟩ ?_;rintro i;refine bC d7 fun hinv5=>?_;refine g6 ?_;refine dJ (fun hc30=>?_) fun hc30=>?_
 ·refine g6 ?_;obtain⟨x3,hx4⟩:=gx P.inputs.list i;refine ss (ixs i) ?_;refine ss (lS hx4 0) ?_;refine j6 lD fun b5=>?_;refine g4 ?_;have hx0:P.pr.inputs[i]?=some x3.inp:=sT hx4;have hxs:=hs x3 (j4 hx4);refine bB (sM x3) (Has.each e8 (j4 hx4)) ?_;refine g8 ?_;refine cB (ι:=Nat) [(1,_),(3,_),(4,_),(6,_),(27,_),(28,_),(29,_),(34,_),(35,_)] ⟨rfl,rfl,rfl,rfl,rfl,rfl,rfl,rfl,rfl,j0⟩ (fun j=>[(36,.int .i64 (j:Nat))]) (fun _=>[]) (fun j=>[Fact.pure (j≤x3.sides.list.length∧bLw (cJ P.pr) x3.inp.sides j)]) (fun j=>x3.sides.list.length-j) 0 ⟨rfl,j0⟩ .nil ⟨j3 (⟨n7,few_in⟩),j0⟩ ?_;rintro j;refine bC d7 fun hinv8=>?_;refine g6 ?_;refine dJ (fun hc37=>?_) fun hc37=>?_
  ·refine g6 ?_;obtain⟨x6,hx7⟩:=gx x3.sides.list j;refine ss (ixs j) ?_;refine ss (lS hx7 0) ?_;refine j6 yN fun b8=>?_;refine g4 ?_;have hd0:x3.inp.sides[j]?=some x6.sd:=sT hx7;refine g5 ?_;refine cI (fun hg43=>?_) (fun hg43=>?_)
   ·have hg43:x6.name=([]:Bs):=eq_of_beq hg43;refine g4 ?_;refine jX (fun hg47=>?_) fun hg47=>?_
    ·refine g16 ?_;refine bU _ _ [(true,0),(true,1),(true,2),(true,3),(false,4)] bV o5 (.c0 (.c0 (.c1 .nil))) bA.self ?_;refine g2 ?_;refine stM rfl (k7 (zF _ _)) ?_;refine g16 ?_;have hr:=hR.symm.trans (ty_few hrt (bNg hinv5.2 hx0 hinv8.2 hd0 v6));subst hr;exact rs2 (none,0,[]) ⟨qN,Has.each_nil,j3 ⟨rfl,Nat.le_refl 0⟩,j0⟩
    refine g6 ?_;refine jX (fun hg53=>?_) fun hg53=>?_
    ·refine g10 ?_;refine bU _ _ [(true,0),(true,1),(true,2),(true,3),(false,4)] bV o5 (.c0 (.c0 (.c1 .nil))) bA.self ?_;refine g2 ?_;refine stM rfl (k7 (zF _ _)) ?_;refine g16 ?_;have hr:=hR.symm.trans (ty_few hrt (bNg hinv5.2 hx0 hinv8.2 hd0 v6));subst hr;exact rs2 (none,0,[]) ⟨qN,Has.each_nil,j3 ⟨rfl,Nat.le_refl 0⟩,j0⟩
    refine g3 ?_;refine bD func17 (vJ _ _ _ n7 x6.name) rfl rfl .nil ⟨e6,j0⟩ fun _=>?_;refine g4 ?_;refine bQy (fun hc59=>?_) fun hc59=>?_
    ·refine cO<|bU _ _ [(true,0),(true,1),(true,2),(true,3),(false,4)] bV o5 (.c0 (.c0 (.c1 .nil))) bA.self ?_;refine g2 ?_;refine stM rfl (k7 (zF _ _)) ?_;refine g16 ?_;have hr:=hR.symm.trans (ty_few hrt (bNg hinv5.2 hx0 hinv8.2 hd0 v6));subst hr;exact rs2 (none,0,[]) ⟨qN,Has.each_nil,j3 ⟨rfl,Nat.le_refl 0⟩,j0⟩
    refine g5 ?_;refine inc (j+1) ?_;refine g3 ?_;exact bk2 (j+1) ⟨j3 (⟨n7,few_next hinv8.2 hd0 aa9⟩),j0⟩
   have hg43:x6.name≠([]:Bs):=fun h=>absurd (beq_iff_eq.2 h) (by rw [show(x6.name==([]:Bs))=false from hg43];simp);refine g13 ?_;refine bD func17 (vJ _ _ _ n7 x6.name) rfl rfl .nil ⟨e6,j0⟩ fun _=>?_;refine g4 ?_;refine bQy (fun hc59=>?_) fun hc59=>?_
   ·refine cO<|bU _ _ [(true,0),(true,1),(true,2),(true,3),(false,4)] bV o5 (.c0 (.c0 (.c1 .nil))) bA.self ?_;refine g2 ?_;refine stM rfl (k7 (zF _ _)) ?_;refine g16 ?_;have hr:=hR.symm.trans (ty_few hrt (bNg hinv5.2 hx0 hinv8.2 hd0 v6));subst hr;exact rs2 (none,0,[]) ⟨qN,Has.each_nil,j3 ⟨rfl,Nat.le_refl 0⟩,j0⟩
   refine g5 ?_;refine inc (j+1) ?_;refine g3 ?_;exact bk2 (j+1) ⟨j3 (⟨n7,few_next hinv8.2 hd0 aa9⟩),j0⟩
  refine g8 ?_;refine inc (i+1) ?_;refine g3 ?_;exact bk2 (i+1) ⟨j3 (⟨n7,few_out hinv5.2 hx0 hinv8.2 af5⟩),j0⟩
 refine g8 ?_;refine j5 func22 (newT_spec P hl1 hrt) ⟨e6,e7,e8,j0⟩ fun⟨cb,mb,kv0,NV0⟩=>?_;refine bC d8 fun hnr=>?_;refine g10 ?_;have hfn:=few_end hinv5.2 n7;have hbg:=hR.symm.trans (ty_go hrt hfn);rw [←hnr.2] at hbg;have hNW:nC (jY NV0):=by rw [hnr.2];exact bSi hrt
 have hdep:=bBk hrt;have hpl2:P.pr.lines.length=P.lines.list.length:=List.length_map _;refine cK (t:=40) bSb<|bB (Fact.each ([]:List (Sl TyV)) rowF) (Has.each_nil) ?_;refine g8 ?_;refine cB (ι:=Nat×KVS×NamesTV×List (Sl TyV)×Option Addr×Nat) [(3,_),(9,_),(68,_),(69,_)] ⟨rfl,rfl,rfl,rfl,j0⟩ (fun⟨i,kv,NV,xs,A1,c1⟩=>[(10,.slice A1 xs.length c1),(70,.int .i64 (i:Nat))]) (fun⟨i,kv,NV,xs,A1,c1⟩=>[qS mb kv,bSb.row (.slice A1 xs.length c1) 40 xs]) (fun⟨i,kv,NV,xs,A1,c1⟩=>[Fact.pure (i≤P.lines.list.length∧bCb P.pr.lines i kv NV xs r),qM NV,Fact.each xs rowF]) (fun⟨i,kv,NV,xs,A1,c1⟩=>P.lines.list.length-i) (0,kv0,NV0,[],none,0) ⟨rfl,rfl,j0⟩ (.c2 (.c0 .nil)) ⟨j3 (⟨n7,hnr.1,hNW,hbg,rfl⟩),d8,d7,j0⟩ ?_;rintro⟨i,kv,NV,xs,A1,c1⟩;dsimp only;refine bC d7 fun hinv17=>?_;refine g6 ?_;refine dJ (fun hc71=>?_) fun hc71=>?_
 ·refine g6 ?_;obtain⟨x9,hx10⟩:=gx P.lines.list i;refine ss (ixs i) ?_;refine ss (lS hx10 0) ?_;refine j6 tD fun b11=>?_;refine g11 ?_;have hx0:P.pr.lines[i]?=some x9.ln:=sT hx10;have hdp:=hdep x9.ln (j4 hx0);have hfl:=hfine.line x9.ln (j4 hx0);have hlnm:x9.name.length≤16:=hfl.1;have hil:=hfl.2.1;have hie:x9.ln.items.length=x9.items.list.length:=List.length_map _;refine bB (mK.sl (.slice x9.items.addr x9.items.list.length x9.items.cap) x9.items.list) (Has.left (Has.each i7 (j4 hx10)))<|bB (nY x9.items.list) (Has.right (Has.each (Has.of tJ) (j4 hx10)))<|cK (t:=43) tyE<|bB (Fact.each ([]:List TyV) tyF) (Has.each_nil)<|cK (t:=43) tyE<|bB (Fact.each ([]:List TyV) tyF) (Has.each_nil) ?_;refine g8 ?_;refine cB (ι:=Nat×List TyV×Option Addr×Nat×List TyV×Option Addr×Nat) [(3,_),(9,_),(10,_),(12,_),(68,_),(69,_),(70,_),(75,_),(76,_)] ⟨rfl,rfl,rfl,rfl,rfl,rfl,rfl,rfl,rfl,j0⟩ (fun⟨j,hv,A2,c2,ow,A4,c4⟩=>[(13,.slice A2 hv.length c2),(14,.slice A4 ow.length c4),(77,.int .i64 (j:Nat))]) (fun⟨j,hv,A2,c2,ow,A4,c4⟩=>[tyE.row (.slice A2 hv.length c2) 43 hv,tyE.row (.slice A4 ow.length c4) 43 ow]) (fun⟨j,hv,A2,c2,ow,A4,c4⟩=>[Fact.pure (j≤x9.items.list.length∧sO (jY NV) x9.ln.items j hv ow),Fact.each hv tyF,Fact.each ow tyF]) (fun⟨j,hv,A2,c2,ow,A4,c4⟩=>x9.items.list.length-j) (0,[],none,0,[],none,0) ⟨rfl,rfl,rfl,j0⟩ (.c1 (.c0 .nil)) ⟨j3 (⟨n7,tsT_start hdp⟩),d8,d7,j0⟩ ?_;rintro⟨j,hv,A2,c2,ow,A4,c4⟩;dsimp only;refine bC d7 fun hinv21=>?_;have hvj:=hinv21.2.2.2.2.1;have hwj:=hinv21.2.2.2.2.2;refine g6 ?_;refine dJ (fun hc78=>?_) fun hc78=>?_
  ·refine g6 ?_;obtain⟨x12,hx13⟩:=gx x9.items.list j;refine ss (ixs j) ?_;refine ss (lS hx13 0) ?_;refine j6 oG fun b14=>?_;refine g4 ?_;have hi0:x9.ln.items[j]?=some x12.it:=sT hx13;have hdd:=(tsT_dep hinv21.2 hi0).1;have hitn:=(hfl.2.2 x12.it (j4 hi0)).1;have htk0:=hdd.1;refine bB (numF x12) (Has.each e8 (j4 hx13)) ?_;refine g4 ?_;refine bD func23 (itemTS_spec cb mb kv NV hinv17.2.1 x12 A2 c2 hv hinv21.2.2.2.1 n7 hdd.1 ⟨hdd.2.1,hdd.2.2.1⟩ (fun h=>(hdd.2.2.2 h).2) (fun _=>Nat.le_trans hitn o9)) rfl rfl (.c6 (.c4 (.c1 .nil))) ⟨d7,d9,f5,j0⟩ fun y15=>?_;refine bC d8 fun hy=>?_;refine g4 ?_;refine j6 qV fun b16=>?_;refine g12 ?_;refine wG (fun hc90=>?_) fun hc90=>?_
   ·refine cO<|bU _ _ [(true,0),(true,1),(true,2),(true,3),(true,4),(false,5)] bV o5 (.c0 (.c0 (.c0 (.c0 (.c0 (.c0 (.c0 (.c0 (.c1 .nil))))))))) bA.self ?_;refine g3 ?_;refine stM rfl (k7 (zF _ _)) ?_;refine g18 ?_;obtain rfl:=lsT_err hinv17.2 hx0 (tsT_err hinv21.2 hi0 ‹_›);exact rs2 (none,0,[]) ⟨qN,Has.each_nil,j3 ⟨rfl,Nat.le_refl 0⟩,j0⟩
   refine g6 ?_;have hwy:=tsT_wf hinv17.2.2.1 hinv21.2 hi0 n7 hy;refine j5 func24 (ownT_spec y15 hwy) ⟨d7,j0⟩ fun z17=>?_;refine bC d8 fun hz=>?_;refine bKs (m:=z17) rfl rfl rfl rfl rfl fun b18=>?_;refine bJc kT6 (bW .head rfl) rfl rfl rfl rfl rfl rfl rfl q8 fun A19 c20=>?_;refine bB (Fact.each (ow++[z17]) tyF) (Has.each_snoc f3 d7) ?_;refine g3 ?_;refine mV _ _ (.fl 0 (.fl 1 (.fl 2 (.fl 3 (.fl 4 (.fl 6 (.two 5 7 (.op 7 (.op 8 (.fl 9 .nil))) (.op 5 (.op 8 (.fl 9 .nil)))))))))) bV o5 (.c0 (.c0 (.c0 (.c0 (.c0 (.c1 (.c1 (.c1 (.c1 (.c1 .nil)))))))))) bA.self ?_;refine g5 ?_;refine inc (hv.length-(dG x12.it)) ?_;refine one ?_;refine jP (o:=_) (o':=_) rfl rfl ?_ ?_
   ·refine iK hT (k:=(hv.length-dG x12.it)) kT5 rfl rfl rfl rfl rfl rfl rfl rfl rfl n7 ?_;refine g2 ?_;refine bKs (m:=y15) rfl rfl rfl rfl rfl fun b21=>?_;refine g2 ?_;refine bJc kT1 (bW .head rfl) rfl rfl rfl rfl rfl rfl rfl q8 fun A22 c23=>?_;refine bB (Fact.each (hv.take (hv.length-dG x12.it)++[y15]) tyF) (Has.each_snoc (bDm f3 _) e6) ?_;refine g7 ?_;refine inc (j+1) ?_;refine g3 ?_;exact bk2 (j+1,hv.take (hv.length-dG x12.it)++[y15],A22,c23,ow++[z17],A19,c20) ⟨j3 (⟨by dsimp only;omega,tsT_step hinv21.2 hi0 n7 hy hwy hz⟩),d7,d8,j0⟩
   refine bKs (m:=y15) rfl rfl rfl rfl rfl fun b24=>?_;refine g2 ?_;refine iK hT (k:=(hv.length-dG x12.it)) kT6 rfl rfl rfl rfl rfl rfl rfl rfl rfl n7 ?_;refine g2 ?_;refine bJc .head (bW kT1 rfl) rfl rfl rfl rfl rfl rfl rfl q8 fun A25 c26=>?_;refine bB (Fact.each (hv.take (hv.length-dG x12.it)++[y15]) tyF) (Has.each_snoc (bDm f3 _) e6) ?_;refine g7 ?_;refine inc (j+1) ?_;refine g3 ?_;exact bk2 (j+1,hv.take (hv.length-dG x12.it)++[y15],A25,c26,ow++[z17],A19,c20) ⟨j3 (⟨by dsimp only;omega,tsT_step hinv21.2 hi0 n7 hy hwy hz⟩),d7,d8,j0⟩
  refine g6 ?_;obtain⟨a,hva,hle,hra⟩:=tsT_end hinv21.2 n7;have hv0:hv[0]?=some a:=by rw [hva];rfl
  have hvl:hv.length=1:=by rw [hva];rfl
  have hxl:=hinv17.2.2.2.2;have hfln:=hfine.lns;refine bB (tyF a) (Has.each d8 (j4 hv0))<|bX kT1 fun hc_ow=>bE kT1<|bB (rowF (⟨A4,c4,ow⟩:Sl TyV)) ((Has.and (Has.and d7 e7) (j3 hc_ow)))<|bB (qM ((jL++x9.name,a)::NV)) (Has.each_cons d9 f9) ?_;refine g3 ?_;refine at_one_rows (m:=(⟨A4,c4,ow⟩:Sl TyV)) rfl rfl rfl rfl rfl fun b27=>?_;refine at_app_rows kT4 (bW .head rfl) rfl rfl rfl rfl rfl rfl rfl q8 fun A28 c29=>?_;refine bB (Fact.each (xs++[(⟨A4,c4,ow⟩:Sl TyV)]) rowF) (Has.each_snoc i7 d8) ?_;refine g3 ?_;refine bU _ _ [(true,0),(true,1),(true,2),(true,3),(true,4),(true,5),(true,6),(true,7),(true,8),(true,9),(false,10)] bV o5 (.c0 (.c0 (.c0 (.c0 (.c1 (.c1 (.c1 .nil))))))) bA.self ?_;refine g6 ?_;refine stM rfl (jF rfl rfl rfl q8) ?_;refine one ?_;refine stM rfl (ixs 0) ?_;refine stM rfl (lS hv0 0) ?_;refine one ?_;refine lN kT4 rfl (.inl rfl) rfl mapT underlying9 rfl rfl rfl ?_;refine g6 ?_;refine inc (i+1) ?_;refine g3 ?_;exact bk2 (i+1,_,(jL++x9.name,a)::NV,xs++[(⟨A4,c4,ow⟩:Sl TyV)],A28,c29) ⟨j3 (⟨by dsimp only;omega,lsT_step (s:=(⟨A4,c4,ow⟩:Sl TyV)) hinv17.2 hx0 hle hra⟩),d8,d7,j0⟩
 refine g8 ?_;refine ss (k7 (bAb)) ?_;refine g5 ?_;have hr:=lsT_end hinv17.2 (by rw [hpl2];omega);subst hr;refine bX kT2 fun hc_o=>bE kT2 ?_;exact rs2 (A1,c1,xs) ⟨d7,e6,j3 ⟨rfl,hc_o⟩,j0⟩
def x8:Arr:=⟨[3],[1,2,3]⟩
def okB (p:gN):Bool:=
 (p.inputs.all fun x=>decide (x.name.length≤140737488355328)&&x.sides.all fun d=>decide (d.name.length≤140737488355328∧ -9223372036854775808≤d.n∧d.n≤9223372036854775807))&&
 (p.lines.all fun x=>decide (x.name.length≤140737488355328)&&x.items.all fun it=>decide (it.name.length≤140737488355328)&&it.nums.all fun z=>decide (-9223372036854775808≤z∧z≤9223372036854775807))&&
 decide (p.inputs.length≤140737488355328∧p.lines.length≤140737488355328)&&p.inputs.all fun x=>decide (x.sides.length≤4)
theorem ok_of{x:ProgV}(h:okB x.pr=true):(uN x∧x.inputs.list.length≤140737488355328∧x.lines.list.length≤140737488355328)∧ ∀y∈x.inputs.list,y.sides.list.length≤140737488355328:=by
 unfold okB at h;simp only [Bool.and_eq_true,List.all_eq_true,decide_eq_true_eq] at h;obtain⟨⟨⟨h1,h2⟩,h3,h4⟩,h5⟩:=h;refine⟨⟨⟨fun y hy=>?_,fun y hy=>?_⟩,by have:x.pr.inputs.length=x.inputs.list.length:=List.length_map _;omega,by have:x.pr.lines.length=x.lines.list.length:=List.length_map _;omega⟩,fun y hy=>?_⟩
 ·obtain⟨a,b⟩:=h1 y.inp (List.mem_map.2 ⟨y,hy,rfl⟩);exact⟨a,fun d hd=>b d.sd (List.mem_map.2 ⟨d,hd,rfl⟩)⟩
 ·obtain⟨a,b⟩:=h2 y.ln (List.mem_map.2 ⟨y,hy,rfl⟩);exact⟨a,fun d hd=>b d.it (List.mem_map.2 ⟨d,hd,rfl⟩)⟩
 ·have h6:=h5 y.inp (List.mem_map.2 ⟨y,hy,rfl⟩);have h7:y.inp.sides.length=y.sides.list.length:=List.length_map _;omega
end
section
open Go.RowKit Go.ChangeShapes Go.WideShapes Go.Proofs.Tryz
def nW:Flat Bool where
 size:=1
 cells:=fun x=>[.bool x]
 len:=fun _=>rfl
 one:=fun x u hu=>by simp at hu;subst hu;rfl
 pos:=o9
structure OpV where
 how:Int
 k:Int
 n:Int
 p:PolV
 fn:Int
 deriving Inhabited
def opE:Flat OpV where
 size:=5
 cells:=fun x=>[.int .i64 x.how,.int .i64 x.k,.int .i64 x.n,.slice x.p.addr x.p.list.length x.p.cap,.int .u8 x.fn]
 len:=fun _=>rfl
 one:=fun x u hu=>by
  simp at hu
  rcases hu with rfl | rfl | rfl | rfl | rfl<;>rfl
 pos:=o9
structure BufV where
 sides:(Sl PolV)
 input:Int
 deriving Inhabited
def bBl:Flat BufV where
 size:=2
 cells:=fun x=>[.slice x.sides.addr x.sides.list.length x.sides.cap,.int .i64 x.input]
 len:=fun _=>rfl
 one:=fun x u hu=>by
  simp at hu
  rcases hu with rfl | rfl<;>rfl
 pos:=o9
structure StepV where
 how:Int
 buf:Int
 at_:PolV
 loops:(Sl PolV)
 fn:Int
 ops:(Sl OpV)
 deriving Inhabited
def mJ:Flat StepV where
 size:=6
 cells:=fun x=>[.int .i64 x.how,.int .i64 x.buf,.slice x.at_.addr x.at_.list.length x.at_.cap,.slice x.loops.addr x.loops.list.length x.loops.cap,.int .u8 x.fn,.slice x.ops.addr x.ops.list.length x.ops.cap]
 len:=fun _=>rfl
 one:=fun x u hu=>by
  simp at hu
  rcases hu with rfl | rfl | rfl | rfl | rfl | rfl<;>rfl
 pos:=o9
structure CoreV where
 vars:Int
 bufs:(Sl BufV)
 steps:(Sl StepV)
 outs:(Sl Int)
 deriving Inhabited
def coreT:Tab:=[(3,⟨.int .i64,1⟩),(2,⟨.int .i64,1⟩),(5,⟨.int .u8,1⟩),(4,⟨.bool,1⟩),(62,⟨.int .u8,1⟩),(32,⟨.int .i64,1⟩),(47,⟨.slice 100,1⟩),(41,⟨.slice 47,1⟩),(68,⟨.struct [(3,0),(3,1),(2,2),(47,3),(62,4)],5⟩),(63,⟨.slice 68,1⟩),(45,⟨.struct [(41,0),(3,1)],2⟩),(27,⟨.slice 45,1⟩),(65,⟨.struct [(3,0),(3,1),(47,2),(41,3),(62,4),(63,5)],6⟩),(28,⟨.slice 65,1⟩),(29,⟨.slice 3,1⟩),(61,⟨.slice 4,1⟩),(31,⟨.struct [(3,0),(27,1),(28,2),(29,3)],4⟩),(118,⟨.struct [(3,0),(3,1),(3,2),(61,3)],4⟩),(115,⟨.array 64 4,64⟩),(100,⟨.struct [(2,0),(98,1)],7⟩),(98,⟨.array 6 5,6⟩),(150,⟨.slice 5,1⟩),(235,⟨.int .u64,1⟩),(116,⟨.other,1⟩),(172,⟨.other,1⟩),(122,⟨.other,1⟩)]
theorem kZ:fD prog coreT:=wC.ok
 ⟨⟨by rw [underlying3];rfl,n9⟩,
  ⟨by rw [underlying2];rfl,n9⟩,
  ⟨by rw [underlying5];rfl,n9⟩,
  ⟨by rw [underlying4];rfl,n9⟩,
  ⟨by rw [underlying62];rfl,n9⟩,
  ⟨by rw [underlying32];rfl,n9⟩,
  ⟨by rw [underlying47];rfl,n9⟩,
  ⟨by rw [underlying41];rfl,n9⟩,
  ⟨by rw [underlying68];rfl,n9⟩,
  ⟨by rw [underlying63];rfl,n9⟩,
  ⟨by rw [underlying45];rfl,n9⟩,
  ⟨by rw [underlying27];rfl,n9⟩,
  ⟨by rw [underlying65];rfl,n9⟩,
  ⟨by rw [underlying28];rfl,n9⟩,
  ⟨by rw [underlying29];rfl,n9⟩,
  ⟨by rw [underlying61];rfl,n9⟩,
  ⟨by rw [underlying31];rfl,n9⟩,
  ⟨by rw [underlying118];rfl,n9⟩,
  ⟨by rw [underlying115];rfl,n9⟩,
  ⟨by rw [underlying100];rfl,n9⟩,
  ⟨by rw [underlying98];rfl,n9⟩,
  ⟨by rw [underlying150];rfl,n9⟩,
  ⟨by rw [underlying235];rfl,n9⟩,
  ⟨by rw [underlying116];rfl,n9⟩,
  ⟨by rw [underlying172];rfl,n9⟩,
  ⟨by rw [underlying122];rfl,n9⟩,j0⟩
end
section
open Go.RowKit Go.Proofs.Tryz
def OpV.c (o:OpV):OpC:=⟨o.how,o.k,o.n,o.p.list,o.fn⟩
def dW (l:List OpV):List OpC:=l.map OpV.c
def BufV.c(b:BufV):rG:=⟨bJ b.sides.list,b.input⟩
def StepV.c(s:StepV):zI:=⟨s.how,s.buf,s.at_.list,bJ s.loops.list,s.fn,dW s.ops.list⟩
def dX (l:List StepV):List zI:=l.map StepV.c
def iM (l:List BufV):List rG:=l.map BufV.c
def CoreV.c(c:CoreV):wY:=⟨c.vars,iM c.bufs.list,dX c.steps.list,c.outs.list⟩
theorem fU(l:List OpV):(dW l).length=l.length:=List.length_map _
theorem iG(l:List StepV):(dX l).length=l.length:=List.length_map _
theorem cR(l:List BufV):(iM l).length=l.length:=List.length_map _
theorem opsL_at{l:List OpV}{i:Nat}{x:OpV}(h:l[i]?=some x):(dW l)[i]?=some x.c:=by
 unfold dW;rw [List.getElem?_map,h];rfl
theorem rD{l:List StepV}{i:Nat}{x:StepV}(h:l[i]?=some x):(dX l)[i]?=some x.c:=by
 unfold dX;rw [List.getElem?_map,h];rfl
theorem lH{l:List BufV}{i:Nat}{x:BufV}(h:l[i]?=some x):(iM l)[i]?=some x.c:=by
 unfold iM;rw [List.getElem?_map,h];rfl
theorem bEp{F:List Fact}{p:PolV}(h:Has F (kT p)):Has F (Fact.pure (p.list.length≤140737488355328)):=h.right
def bRh {α:Type}(b:Nat)(l:Sl α):Fact:=Fact.pure (l.list.length≤l.cap∧l.list.length*b≤140737488355328)
def xU (l:Sl PolV):Fact:=((bS.sl (.slice l.addr l.list.length l.cap) l.list).and (cQ l.list)).and (bRh 24 l)
def opF (x:OpV):Fact:=kT x.p
def dH (l:Sl OpV):Fact:=((opE.sl (.slice l.addr l.list.length l.cap) l.list).and (Fact.each l.list opF)).and (bRh 56 l)
def fZ (x:StepV):Fact:=(kT x.at_).and ((xU x.loops).and (dH x.ops))
def stepsF(l:Sl StepV):Fact:=((mJ.sl (.slice l.addr l.list.length l.cap) l.list).and (Fact.each l.list fZ)).and (bRh 96 l)
def bHu (x:BufV):Fact:=xU x.sides
def bufsF (l:Sl BufV):Fact:=((bBl.sl (.slice l.addr l.list.length l.cap) l.list).and (Fact.each l.list bHu)).and (bRh 32 l)
def outsF (l:Sl Int):Fact:=(sZ.sl (.slice l.addr l.list.length l.cap) l.list).and (bRh 8 l)
def bRo (c:CoreV):Fact:=(bufsF c.bufs).and ((stepsF c.steps).and (outsF c.outs))
section
variable {F : List Fact} {c : CoreV} {s : StepV} {l : Sl PolV} {ol : Sl OpV} {bl : Sl BufV} {xl : Sl StepV} {il : Sl Int}
theorem xM(h:Has F (bRo c)):Has F (bufsF c.bufs):=h.left
theorem bCg(h:Has F (bRo c)):Has F (stepsF c.steps):=h.right.left
theorem coreF_o(h:Has F (bRo c)):Has F (outsF c.outs):=h.right.right
theorem stepF_a(h:Has F (fZ s)):Has F (kT s.at_):=h.left
theorem stepF_l(h:Has F (fZ s)):Has F (xU s.loops):=h.right.left
theorem bMp(h:Has F (fZ s)):Has F (dH s.ops):=h.right.right
theorem listF_sK(h:Has F (xU l)):Has F (bS.sl (.slice l.addr l.list.length l.cap) l.list):=h.left.left
theorem listF_eK(h:Has F (xU l)):Has F (cQ l.list):=h.left.right
theorem listF_cK(h:Has F (xU l)):Has F (bRh 24 l):=h.right
theorem opsF_s(h:Has F (dH ol)):Has F (opE.sl (.slice ol.addr ol.list.length ol.cap) ol.list):=h.left.left
theorem opsF_e(h:Has F (dH ol)):Has F (Fact.each ol.list opF):=h.left.right
theorem opsF_c(h:Has F (dH ol)):Has F (bRh 56 ol):=h.right
theorem bNz(h:Has F (stepsF xl)):Has F (mJ.sl (.slice xl.addr xl.list.length xl.cap) xl.list):=h.left.left
theorem bSy(h:Has F (stepsF xl)):Has F (Fact.each xl.list fZ):=h.left.right
theorem bMw(h:Has F (bufsF bl)):Has F (bBl.sl (.slice bl.addr bl.list.length bl.cap) bl.list):=h.left.left
theorem bufsF_e(h:Has F (bufsF bl)):Has F (Fact.each bl.list bHu):=h.left.right
theorem outsF_s(h:Has F (outsF il)):Has F (sZ.sl (.slice il.addr il.list.length il.cap) il.list):=h.left
end
end
section
open Go.RowKit Go.ChangeShapes Go.WideShapes Go.Proofs.Tryz
structure ValV where
 ty:TyV
 buf:Int
 deriving Inhabited
def bRu:Flat ValV where
 size:=4
 cells:=fun x=>[.slice x.ty.sides.addr x.ty.sides.list.length x.ty.sides.cap,.bool x.ty.known,.slice x.ty.values.addr x.ty.values.list.length x.ty.values.cap,.int .i64 x.buf]
 len:=fun _=>rfl
 one:=fun x u hu=>by
  simp at hu
  rcases hu with rfl | rfl | rfl | rfl<;>rfl
 pos:=o9
def lowT:Tab:=[(3,⟨.int .i64,1⟩),(2,⟨.int .i64,1⟩),(5,⟨.int .u8,1⟩),(9,⟨.string,1⟩),(4,⟨.bool,1⟩),(62,⟨.int .u8,1⟩),(32,⟨.int .i64,1⟩),(85,⟨.slice 2,1⟩),(69,⟨.slice 9,1⟩),(112,⟨.struct [(3,0),(3,1),(9,2),(2,3)],4⟩),(105,⟨.slice 112,1⟩),(34,⟨.struct [(3,0),(32,1)],2⟩),(76,⟨.struct [(9,0),(2,1)],2⟩),(48,⟨.slice 76,1⟩),(50,⟨.struct [(9,0),(3,1),(48,2)],3⟩),(22,⟨.slice 50,1⟩),(87,⟨.struct [(3,0),(3,1),(62,2),(9,3),(85,4)],5⟩),(52,⟨.slice 87,1⟩),(54,⟨.struct [(9,0),(3,1),(52,2)],3⟩),(23,⟨.slice 54,1⟩),(25,⟨.struct [(22,0),(23,1)],2⟩),(110,⟨.struct [(105,0),(3,1),(3,2)],3⟩),(47,⟨.slice 100,1⟩),(41,⟨.slice 47,1⟩),(43,⟨.struct [(41,0),(4,1),(41,2)],3⟩),(40,⟨.slice 43,1⟩),(37,⟨.slice 40,1⟩),(68,⟨.struct [(3,0),(3,1),(2,2),(47,3),(62,4)],5⟩),(63,⟨.slice 68,1⟩),(174,⟨.slice 63,1⟩),(45,⟨.struct [(41,0),(3,1)],2⟩),(27,⟨.slice 45,1⟩),(65,⟨.struct [(3,0),(3,1),(47,2),(41,3),(62,4),(63,5)],6⟩),(28,⟨.slice 65,1⟩),(29,⟨.slice 3,1⟩),(31,⟨.struct [(3,0),(27,1),(28,2),(29,3)],4⟩),(82,⟨.struct [(43,0),(3,3)],4⟩),(84,⟨.slice 82,1⟩),(108,⟨.other,1⟩),(196,⟨.slice 1,1⟩),(1,⟨.other,1⟩),(255,⟨.int .u64,1⟩),(123,⟨.map 9 4,1⟩),(100,⟨.struct [(2,0),(98,1)],7⟩),(98,⟨.array 6 5,6⟩),(90,⟨.other,1⟩),(95,⟨.map 9 43,1⟩),(97,⟨.struct [(95,0)],1⟩),(178,⟨.other,1⟩),(235,⟨.int .u64,1⟩),(183,⟨.slice 41,1⟩),(71,⟨.other,1⟩),(72,⟨.map 9 82,1⟩),(74,⟨.struct [(31,0),(72,4)],5⟩),(132,⟨.other,1⟩)]
theorem iC:fD prog lowT:=wC.ok
 ⟨⟨by rw [underlying3];rfl,n9⟩,
  ⟨by rw [underlying2];rfl,n9⟩,
  ⟨by rw [underlying5];rfl,n9⟩,
  ⟨by rw [underlying9];rfl,n9⟩,
  ⟨by rw [underlying4];rfl,n9⟩,
  ⟨by rw [underlying62];rfl,n9⟩,
  ⟨by rw [underlying32];rfl,n9⟩,
  ⟨by rw [underlying85];rfl,n9⟩,
  ⟨by rw [underlying69];rfl,n9⟩,
  ⟨by rw [underlying112];rfl,n9⟩,
  ⟨by rw [underlying105];rfl,n9⟩,
  ⟨by rw [underlying34];rfl,n9⟩,
  ⟨by rw [underlying76];rfl,n9⟩,
  ⟨by rw [underlying48];rfl,n9⟩,
  ⟨by rw [underlying50];rfl,n9⟩,
  ⟨by rw [underlying22];rfl,n9⟩,
  ⟨by rw [underlying87];rfl,n9⟩,
  ⟨by rw [underlying52];rfl,n9⟩,
  ⟨by rw [underlying54];rfl,n9⟩,
  ⟨by rw [underlying23];rfl,n9⟩,
  ⟨by rw [underlying25];rfl,n9⟩,
  ⟨by rw [underlying110];rfl,n9⟩,
  ⟨by rw [underlying47];rfl,n9⟩,
  ⟨by rw [underlying41];rfl,n9⟩,
  ⟨by rw [underlying43];rfl,n9⟩,
  ⟨by rw [underlying40];rfl,n9⟩,
  ⟨by rw [underlying37];rfl,n9⟩,
  ⟨by rw [underlying68];rfl,n9⟩,
  ⟨by rw [underlying63];rfl,n9⟩,
  ⟨by rw [underlying174];rfl,n9⟩,
  ⟨by rw [underlying45];rfl,n9⟩,
  ⟨by rw [underlying27];rfl,n9⟩,
  ⟨by rw [underlying65];rfl,n9⟩,
  ⟨by rw [underlying28];rfl,n9⟩,
  ⟨by rw [underlying29];rfl,n9⟩,
  ⟨by rw [underlying31];rfl,n9⟩,
  ⟨by rw [underlying82];rfl,n9⟩,
  ⟨by rw [underlying84];rfl,n9⟩,
  ⟨by rw [underlying108];rfl,n9⟩,
  ⟨by rw [underlying196];rfl,n9⟩,
  ⟨by rw [underlying1];rfl,n9⟩,
  ⟨by rw [underlying255];rfl,n9⟩,
  ⟨by rw [underlying123];rfl,n9⟩,
  ⟨by rw [underlying100];rfl,n9⟩,
  ⟨by rw [underlying98];rfl,n9⟩,
  ⟨by rw [underlying90];rfl,n9⟩,
  ⟨by rw [underlying95];rfl,n9⟩,
  ⟨by rw [underlying97];rfl,n9⟩,
  ⟨by rw [underlying178];rfl,n9⟩,
  ⟨by rw [underlying235];rfl,n9⟩,
  ⟨by rw [underlying183];rfl,n9⟩,
  ⟨by rw [underlying71];rfl,n9⟩,
  ⟨by rw [underlying72];rfl,n9⟩,
  ⟨by rw [underlying74];rfl,n9⟩,
  ⟨by rw [underlying132];rfl,n9⟩,j0⟩
def gR:Flat (Sl OpV):=slE OpV
theorem opInfo: ∃i:TypeInfo,prog.info? 68=some i∧i.zero=some (.agg #[.int .i64 0,.int .i64 0,.int .i64 0,.slice none 0 0,.int .u8 0])∧i.size=5∧i.bytes=56:=by
 have h:(prog.info? 68).map (fun i=>(i.zero,i.size,i.bytes))=some (some (.agg #[.int .i64 0,.int .i64 0,.int .i64 0,.slice none 0 0,.int .u8 0]),5,56):=n9
 cases hi:prog.info? 68 with
 | none=>simp [hi] at h
 | some i=>simp [hi] at h;exact⟨i,rfl,h.1,h.2.1,h.2.2⟩
theorem jR{β:dF}{n:Nat}{Γ:Env}{H:List bH}{F:List Fact}{Q:Exit→Act→World→Prop}{ops:Array Oper}{rest:List Oper}{o:Oper}{d:Nat}{x:Operand}{m:OpV}(hw:want ops Γ o=some true)(ho:o.op= .buildSlice 63 1 #[(0,x)])(hd:o.dst=some d)(hn:Nat.blt d n=true)
  (hx:Γ.ev x=some (.agg #[.int .i64 m.how,.int .i64 m.k,.int .i64 m.n,.slice m.p.addr m.p.list.length m.p.cap,.int .u8 m.fn])) (k: ∀b,At β n ((d,.slice (some ⟨b,0,none⟩) 1 1)::Γ) (.obj b (.cells (opE.all [m]).toArray 68)::H) F (wpList prog ops Q rest)):At β n Γ H F (wpList prog ops Q (o::rest)):=by
 obtain⟨i,hi,hz,hs,_⟩:=opInfo;refine gG hw ho hd hn hx underlying63 hi hz n7 n7 ?_ k;rw [hs]
 kernel_rfl
theorem bJw{β:dF}{n:Nat}{Γ:Env}{H:List bH}{F:List Fact}{Q:Exit→Act→World→Prop}{ops:Array Oper}{rest:List Oper}{o:Oper}{d:Nat}{x y:Operand}{c q:Nat}{v:Value}{A:Option Addr}{xs ys:List OpV}{H':List bH}(hH:cD H (opE.row v 68 xs) H')(hr:dQ β H F opE A ys)(hg:o.guard=none)
  (ho:o.op= .call {callee:= .builtin .append,args:= #[x,y],argTypes:= #[63,63]}) (hd:o.dst=some d) (hn:Nat.blt d n=true)
  (hx:Γ.ev x=some v) (hy:Γ.ev y=some (.slice A q c)) (hq:q=ys.length) (hl:xs.length+ys.length≤2513169434916)
  (k: ∀A' cap',At β n ((d,.slice A' (xs++ys).length cap')::Γ) (opE.row (.slice A' (xs++ys).length cap') 68 (xs++ys)::H') F (wpList prog ops Q rest)):At β n Γ H F (wpList prog ops Q (o::rest)):=by
 obtain⟨i,hi,hz,hs,hb⟩:=opInfo;exact dK hH hr hg ho hd hn underlying63 hi hz hs hb rfl hx hy hq n7 o9 k
theorem bCf: ∃i:TypeInfo,prog.info? 63=some i∧i.zero=some (.slice none 0 0)∧i.size=1∧i.bytes=24:=by
 have h:(prog.info? 63).map (fun i=>(i.zero,i.size,i.bytes))=some (some (.slice none 0 0),1,24):=n9
 cases hi:prog.info? 63 with
 | none=>simp [hi] at h
 | some i=>simp [hi] at h;exact⟨i,rfl,h.1,h.2.1,h.2.2⟩
theorem gS{β:dF}{n:Nat}{Γ:Env}{H:List bH}{F:List Fact}{Q:Exit→Act→World→Prop}{ops:Array Oper}{rest:List Oper}{o:Oper}{d:Nat}{x:Operand}{m:(Sl OpV)}(hw:want ops Γ o=some true)(ho:o.op= .buildSlice 174 1 #[(0,x)])(hd:o.dst=some d)(hn:Nat.blt d n=true)
  (hx:Γ.ev x=some (.slice m.addr m.list.length m.cap)) (k: ∀b,At β n ((d,.slice (some ⟨b,0,none⟩) 1 1)::Γ) (.obj b (.cells (gR.all [m]).toArray 63)::H) F (wpList prog ops Q rest)):At β n Γ H F (wpList prog ops Q (o::rest)):=by
 obtain⟨i,hi,hz,hs,_⟩:=bCf;refine gG hw ho hd hn hx underlying174 hi hz n7 n7 ?_ k;rw [hs]
 kernel_rfl
theorem stepInfo: ∃i:TypeInfo,prog.info? 65=some i∧i.zero=some (.agg #[.int .i64 0,.int .i64 0,.slice none 0 0,.slice none 0 0,.int .u8 0,.slice none 0 0])∧i.size=6∧i.bytes=96:=by
 have h:(prog.info? 65).map (fun i=>(i.zero,i.size,i.bytes))=some (some (.agg #[.int .i64 0,.int .i64 0,.slice none 0 0,.slice none 0 0,.int .u8 0,.slice none 0 0]),6,96):=n9
 cases hi:prog.info? 65 with
 | none=>simp [hi] at h
 | some i=>simp [hi] at h;exact⟨i,rfl,h.1,h.2.1,h.2.2⟩
theorem at_one_step{β:dF}{n:Nat}{Γ:Env}{H:List bH}{F:List Fact}{Q:Exit→Act→World→Prop}{ops:Array Oper}{rest:List Oper}{o:Oper}{d:Nat}{x:Operand}{m:StepV}(hw:want ops Γ o=some true)(ho:o.op= .buildSlice 28 1 #[(0,x)])(hd:o.dst=some d)(hn:Nat.blt d n=true)
  (hx:Γ.ev x=some (.agg #[.int .i64 m.how,.int .i64 m.buf,.slice m.at_.addr m.at_.list.length m.at_.cap,.slice m.loops.addr m.loops.list.length m.loops.cap,.int .u8 m.fn,.slice m.ops.addr m.ops.list.length m.ops.cap])) (k: ∀b,At β n ((d,.slice (some ⟨b,0,none⟩) 1 1)::Γ) (.obj b (.cells (mJ.all [m]).toArray 65)::H) F (wpList prog ops Q rest)):At β n Γ H F (wpList prog ops Q (o::rest)):=by
 obtain⟨i,hi,hz,hs,_⟩:=stepInfo;refine gG hw ho hd hn hx underlying28 hi hz n7 n7 ?_ k;rw [hs]
 kernel_rfl
theorem at_app_step{β:dF}{n:Nat}{Γ:Env}{H:List bH}{F:List Fact}{Q:Exit→Act→World→Prop}{ops:Array Oper}{rest:List Oper}{o:Oper}{d:Nat}{x y:Operand}{c q:Nat}{v:Value}{A:Option Addr}{xs ys:List StepV}{H':List bH}(hH:cD H (mJ.row v 65 xs) H')(hr:dQ β H F mJ A ys)(hg:o.guard=none)
  (ho:o.op= .call {callee:= .builtin .append,args:= #[x,y],argTypes:= #[28,28]}) (hd:o.dst=some d) (hn:Nat.blt d n=true)
  (hx:Γ.ev x=some v) (hy:Γ.ev y=some (.slice A q c)) (hq:q=ys.length) (hl:xs.length+ys.length≤1466015503701)
  (k: ∀A' cap',At β n ((d,.slice A' (xs++ys).length cap')::Γ) (mJ.row (.slice A' (xs++ys).length cap') 65 (xs++ys)::H') F (wpList prog ops Q rest)):At β n Γ H F (wpList prog ops Q (o::rest)):=by
 obtain⟨i,hi,hz,hs,hb⟩:=stepInfo;exact dK hH hr hg ho hd hn underlying28 hi hz hs hb rfl hx hy hq n7 o9 k
theorem bufInfo: ∃i:TypeInfo,prog.info? 45=some i∧i.zero=some (.agg #[.slice none 0 0,.int .i64 0])∧i.size=2∧i.bytes=32:=by
 have h:(prog.info? 45).map (fun i=>(i.zero,i.size,i.bytes))=some (some (.agg #[.slice none 0 0,.int .i64 0]),2,32):=n9
 cases hi:prog.info? 45 with
 | none=>simp [hi] at h
 | some i=>simp [hi] at h;exact⟨i,rfl,h.1,h.2.1,h.2.2⟩
theorem bOv{β:dF}{n:Nat}{Γ:Env}{H:List bH}{F:List Fact}{Q:Exit→Act→World→Prop}{ops:Array Oper}{rest:List Oper}{o:Oper}{d:Nat}{x:Operand}{m:BufV}(hw:want ops Γ o=some true)(ho:o.op= .buildSlice 27 1 #[(0,x)])(hd:o.dst=some d)(hn:Nat.blt d n=true)
  (hx:Γ.ev x=some (.agg #[.slice m.sides.addr m.sides.list.length m.sides.cap,.int .i64 m.input])) (k: ∀b,At β n ((d,.slice (some ⟨b,0,none⟩) 1 1)::Γ) (.obj b (.cells (bBl.all [m]).toArray 45)::H) F (wpList prog ops Q rest)):At β n Γ H F (wpList prog ops Q (o::rest)):=by
 obtain⟨i,hi,hz,hs,_⟩:=bufInfo;refine gG hw ho hd hn hx underlying27 hi hz n7 n7 ?_ k;rw [hs]
 kernel_rfl
theorem bSp{β:dF}{n:Nat}{Γ:Env}{H:List bH}{F:List Fact}{Q:Exit→Act→World→Prop}{ops:Array Oper}{rest:List Oper}{o:Oper}{d:Nat}{x y:Operand}{c q:Nat}{v:Value}{A:Option Addr}{xs ys:List BufV}{H':List bH}(hH:cD H (bBl.row v 45 xs) H')(hr:dQ β H F bBl A ys)(hg:o.guard=none)
  (ho:o.op= .call {callee:= .builtin .append,args:= #[x,y],argTypes:= #[27,27]}) (hd:o.dst=some d) (hn:Nat.blt d n=true)
  (hx:Γ.ev x=some v) (hy:Γ.ev y=some (.slice A q c)) (hq:q=ys.length) (hl:xs.length+ys.length≤4398046511104)
  (k: ∀A' cap',At β n ((d,.slice A' (xs++ys).length cap')::Γ) (bBl.row (.slice A' (xs++ys).length cap') 45 (xs++ys)::H') F (wpList prog ops Q rest)):At β n Γ H F (wpList prog ops Q (o::rest)):=by
 obtain⟨i,hi,hz,hs,hb⟩:=bufInfo;exact dK hH hr hg ho hd hn underlying27 hi hz hs hb rfl hx hy hq n7 o9 k
theorem valInfo: ∃i:TypeInfo,prog.info? 82=some i∧i.zero=some (.agg #[.slice none 0 0,.bool false,.slice none 0 0,.int .i64 0])∧i.size=4∧i.bytes=64:=by
 have h:(prog.info? 82).map (fun i=>(i.zero,i.size,i.bytes))=some (some (.agg #[.slice none 0 0,.bool false,.slice none 0 0,.int .i64 0]),4,64):=n9
 cases hi:prog.info? 82 with
 | none=>simp [hi] at h
 | some i=>simp [hi] at h;exact⟨i,rfl,h.1,h.2.1,h.2.2⟩
theorem bFn{β:dF}{n:Nat}{Γ:Env}{H:List bH}{F:List Fact}{Q:Exit→Act→World→Prop}{ops:Array Oper}{rest:List Oper}{o:Oper}{d:Nat}{x:Operand}{m:ValV}(hw:want ops Γ o=some true)(ho:o.op= .buildSlice 84 1 #[(0,x)])(hd:o.dst=some d)(hn:Nat.blt d n=true)
  (hx:Γ.ev x=some (.agg #[.slice m.ty.sides.addr m.ty.sides.list.length m.ty.sides.cap,.bool m.ty.known,.slice m.ty.values.addr m.ty.values.list.length m.ty.values.cap,.int .i64 m.buf])) (k: ∀b,At β n ((d,.slice (some ⟨b,0,none⟩) 1 1)::Γ) (.obj b (.cells (bRu.all [m]).toArray 82)::H) F (wpList prog ops Q rest)):At β n Γ H F (wpList prog ops Q (o::rest)):=by
 obtain⟨i,hi,hz,hs,_⟩:=valInfo;refine gG hw ho hd hn hx underlying84 hi hz n7 n7 ?_ k;rw [hs]
 kernel_rfl
theorem bEw{β:dF}{n:Nat}{Γ:Env}{H:List bH}{F:List Fact}{Q:Exit→Act→World→Prop}{ops:Array Oper}{rest:List Oper}{o:Oper}{d:Nat}{x y:Operand}{c q:Nat}{v:Value}{A:Option Addr}{xs ys:List ValV}{H':List bH}(hH:cD H (bRu.row v 82 xs) H')(hr:dQ β H F bRu A ys)(hg:o.guard=none)
  (ho:o.op= .call {callee:= .builtin .append,args:= #[x,y],argTypes:= #[84,84]}) (hd:o.dst=some d) (hn:Nat.blt d n=true)
  (hx:Γ.ev x=some v) (hy:Γ.ev y=some (.slice A q c)) (hq:q=ys.length) (hl:xs.length+ys.length≤2199023255552)
  (k: ∀A' cap',At β n ((d,.slice A' (xs++ys).length cap')::Γ) (bRu.row (.slice A' (xs++ys).length cap') 82 (xs++ys)::H') F (wpList prog ops Q rest)):At β n Γ H F (wpList prog ops Q (o::rest)):=by
 obtain⟨i,hi,hz,hs,hb⟩:=valInfo;exact dK hH hr hg ho hd hn underlying84 hi hz hs hb rfl hx hy hq n7 o9 k
end
section
open Go.RowKit Go.Proofs.Tryz
def bCc:OpV:=⟨0,0,0,⟨none,0,[]⟩,0⟩
def vY:Value:= .agg #[.int .i64 0,.int .i64 0,.int .i64 0,.slice none 0 0,.int .u8 0]
theorem bUt{α:Type} [Inhabited α](l:List α)(hl:0<l.length): ∀m:Nat,(List.range (m*l.length)).map (fun i=>l[i%l.length]!)=(List.replicate m l).flatten
 | 0=>by simp
 | m+1=>by
  rw [Nat.succ_mul,List.range_add,List.map_append,bUt l hl m,List.replicate_succ',List.flatten_append]
  congr 1
  rw [List.map_map];show _=List.flatten [l];rw [List.flatten_singleton];apply List.ext_getElem
  ·simp
  ·intro i h1 h2;simp only [List.getElem_map,List.getElem_range,Function.comp_apply];rw [show(m*l.length+i)%l.length=i by rw [Nat.mul_comm,Nat.mul_add_mod,Nat.mod_eq_of_lt h2]];simp [h2]
theorem zeros_op5(m:Nat):(Builtin.zeroCells vY.cells m).toList=opE.all (List.replicate m bCc):=by
 have h:=bUt vY.cells.toList o9 m
 have e:opE.all (List.replicate m bCc)=(List.replicate m vY.cells.toList).flatten:=by
  unfold Flat.all;rw [List.flatMap_replicate];rfl
 rw [e,←h];unfold Builtin.zeroCells;simp;intro a _;rw [getElem!_def];cases vY.cells[a%vY.cells.size]?<;>rfl
theorem bTl{β:dF}{n:Nat}{Γ:Env}{H:List bH}{F:List Fact}{Q:Exit→Act→World→Prop}{ops:Array Oper}{rest:List Oper}{o:Oper}{d m:Nat}{x y:Operand}(hw:want ops Γ o=some true)(ho:o.op= .call {callee:= .builtin .append,args:= #[x,y],argTypes:= #[63,3]})(hd:o.dst=some d)(hn:Nat.blt d n=true)
  (hx:Γ.ev x=some (.slice none 0 0)) (hy:Γ.ev y=some (.int .i64 (m:Nat))) (h0:0<m) (hm:m≤1000000)
  (k: ∀A' cap',At β n ((d,.slice A' (List.replicate m bCc).length cap')::Γ) (opE.row (.slice A' (List.replicate m bCc).length cap') 68 (List.replicate m bCc)::H) F (wpList prog ops Q rest)):At β n Γ H F (wpList prog ops Q (o::rest)):=by
 obtain⟨i,hi,hz,hs,hb⟩:=opInfo;refine cK (t:=68) opE ?_;refine iY hw fun a w S f s hF=>?_;have hrun:=Lib.run_append_nil_zeros (P:=prog) w 63 3 o.type 68 i vY .i64 .i64 underlying63 underlying3 hi hz m h0 n7 n7 (by rw [hb];omega)
 have hr':(execOp a.eval o).run prog w= .ok (.value (.slice (some ⟨w.heap.size,0,none⟩) m (grownCap w m 0 68))) (w.drew.alloc (.cells (Builtin.zeroCells vY.cells m++Builtin.zeroCells vY.cells (grownCap w m 0 68-m)) 68)):=by
  unfold execOp;simp only [ho,resolve,invoke,builtin,Sem.run_bind,Sem.run_pure,Result.andThen_ok,List.map_toArray,List.map_cons,List.map_nil,f.ev hx,f.ev hy,hrun]
 have h63:m≤maxLen:=by simp only [maxLen];omega
 have hge:=grownCap_ge w m 0 68;have hcm:=grownCap_le_maxLen w m 0 68 h63;have hl:(List.replicate m bCc).length=m:=List.length_replicate;unfold Oper.wp;rw [hr',Oper.upon_value,hd];have hK:=k (some ⟨w.heap.size,0,none⟩) (grownCap w m 0 68);rw [hl] at hK;refine hK _ _ S (f.put t6 _) ?_ ?_
 ·refine s.swap_row (v':= .slice (some ⟨w.heap.size,0,none⟩) m (grownCap w m 0 68)) (nR ⟨rfl,rfl,rfl,o6,fun k hk _=>qT w.drew _ hk⟩) (.inr rfl) ?_;show World.ownsRow _ 0 68 opE.size _ (List.replicate m bCc).length (opE.all (List.replicate m bCc));rw [hl];have e0:(opE.all (List.replicate m bCc)).length=m*5:=by rw [opE.all_length,hl];rfl
  have e1:opE.size=5:=rfl;refine⟨by rw [e0,e1],.inr ⟨w.heap.size,_,_,rfl,Nat.zero_le _,heap_alloc_new w.drew _,hge,hcm,?_,?_⟩⟩
  ·have hz1:vY.cells.size=5:=rfl;simp only [Array.size_append,size_zeroCells,hz1,e1];omega
  ·have ez:(Builtin.zeroCells vY.cells m).toList=opE.all (List.replicate m bCc):=zeros_op5 m;rw [Array.toList_append,ez];have:m*opE.size=(opE.all (List.replicate m bCc)).length:=by rw [e0,e1]
   rw [this];exact List.take_left
 ·exact All.mono (w:=w) (fun _ h=>h) (fun b hb=>qT w.drew _ (s.zone b hb).1) hF
theorem bCv{β:dF}{n:Nat}{Γ:Env}{H:List bH}{F:List Fact}{Q:Exit→Act→World→Prop}{ops:Array Oper}{rest:List Oper}{o:Oper}{d:Nat}{x0 x1:Operand}(u0 u1:Sl OpV)(hw:want ops Γ o=some true)(ho:o.op= .buildSlice 174 2 #[(0,x0),(1,x1)])(hd:o.dst=some d)(hn:Nat.blt d n=true)
  (h0:Γ.ev x0=some (.slice u0.addr u0.list.length u0.cap)) (h1:Γ.ev x1=some (.slice u1.addr u1.list.length u1.cap)) (k: ∀b,At β n ((d,.slice (some ⟨b,0,none⟩) 2 2)::Γ) (.obj b (.cells (gR.all [u0,u1]).toArray 63)::H) F (wpList prog ops Q rest)):At β n Γ H F (wpList prog ops Q (o::rest)):=by
 obtain⟨i,hi,hz,hs,_⟩:=bCf;refine sH (m:=2) hw ho hd hn (fun a w f=>?_) k
 have:=run_buildSlice (P:=prog) w 174 63 2 #[(0,a.eval x0),(1,a.eval x1)] (gR.all [u0,u1]).toArray i (.slice none 0 0) underlying174 hi hz n7 n7 (by
  rw [f.ev h0,f.ev h1,hs]
  kernel_rfl)
 simpa using this
theorem rH{β:dF}{n:Nat}{Γ:Env}{H:List bH}{F:List Fact}{Q:Exit→Act→World→Prop}{ops:Array Oper}{rest:List Oper}{o:Oper}{d:Nat}{x0 x1 x2:Operand}(u0 u1 u2:Sl OpV)(hw:want ops Γ o=some true)(ho:o.op= .buildSlice 174 3 #[(0,x0),(1,x1),(2,x2)])(hd:o.dst=some d)(hn:Nat.blt d n=true)
  (h0:Γ.ev x0=some (.slice u0.addr u0.list.length u0.cap)) (h1:Γ.ev x1=some (.slice u1.addr u1.list.length u1.cap)) (h2:Γ.ev x2=some (.slice u2.addr u2.list.length u2.cap)) (k: ∀b,At β n ((d,.slice (some ⟨b,0,none⟩) 3 3)::Γ) (.obj b (.cells (gR.all [u0,u1,u2]).toArray 63)::H) F (wpList prog ops Q rest)):At β n Γ H F (wpList prog ops Q (o::rest)):=by
 obtain⟨i,hi,hz,hs,_⟩:=bCf;refine sH (m:=3) hw ho hd hn (fun a w f=>?_) k
 have:=run_buildSlice (P:=prog) w 174 63 3 #[(0,a.eval x0),(1,a.eval x1),(2,a.eval x2)] (gR.all [u0,u1,u2]).toArray i (.slice none 0 0) underlying174 hi hz n7 n7 (by
  rw [f.ev h0,f.ev h1,f.ev h2,hs]
  kernel_rfl)
 simpa using this
theorem bJu{β:dF}{n:Nat}{Γ:Env}{H:List bH}{F:List Fact}{Q:Exit→Act→World→Prop}{ops:Array Oper}{rest:List Oper}{o:Oper}{d:Nat}{x0 x1 x2 x3:Operand}(u0 u1 u2 u3:Sl OpV)(hw:want ops Γ o=some true)(ho:o.op= .buildSlice 174 4 #[(0,x0),(1,x1),(2,x2),(3,x3)])(hd:o.dst=some d)(hn:Nat.blt d n=true)
  (h0:Γ.ev x0=some (.slice u0.addr u0.list.length u0.cap)) (h1:Γ.ev x1=some (.slice u1.addr u1.list.length u1.cap)) (h2:Γ.ev x2=some (.slice u2.addr u2.list.length u2.cap)) (h3:Γ.ev x3=some (.slice u3.addr u3.list.length u3.cap)) (k: ∀b,At β n ((d,.slice (some ⟨b,0,none⟩) 4 4)::Γ) (.obj b (.cells (gR.all [u0,u1,u2,u3]).toArray 63)::H) F (wpList prog ops Q rest)):At β n Γ H F (wpList prog ops Q (o::rest)):=by
 obtain⟨i,hi,hz,hs,_⟩:=bCf;refine sH (m:=4) hw ho hd hn (fun a w f=>?_) k
 have:=run_buildSlice (P:=prog) w 174 63 4 #[(0,a.eval x0),(1,a.eval x1),(2,a.eval x2),(3,a.eval x3)] (gR.all [u0,u1,u2,u3]).toArray i (.slice none 0 0) underlying174 hi hz n7 n7 (by
  rw [f.ev h0,f.ev h1,f.ev h2,f.ev h3,hs]
  kernel_rfl)
 simpa using this
theorem bJl{β:dF}{n:Nat}{Γ:Env}{H:List bH}{F:List Fact}{Q:Exit→Act→World→Prop}{ops:Array Oper}{rest:List Oper}{o:Oper}{d:Nat}{x0 x1 x2 x3 x4:Operand}(u0 u1 u2 u3 u4:Sl OpV)(hw:want ops Γ o=some true)(ho:o.op= .buildSlice 174 5 #[(0,x0),(1,x1),(2,x2),(3,x3),(4,x4)])(hd:o.dst=some d)(hn:Nat.blt d n=true)
  (h0:Γ.ev x0=some (.slice u0.addr u0.list.length u0.cap)) (h1:Γ.ev x1=some (.slice u1.addr u1.list.length u1.cap)) (h2:Γ.ev x2=some (.slice u2.addr u2.list.length u2.cap)) (h3:Γ.ev x3=some (.slice u3.addr u3.list.length u3.cap)) (h4:Γ.ev x4=some (.slice u4.addr u4.list.length u4.cap)) (k: ∀b,At β n ((d,.slice (some ⟨b,0,none⟩) 5 5)::Γ) (.obj b (.cells (gR.all [u0,u1,u2,u3,u4]).toArray 63)::H) F (wpList prog ops Q rest)):At β n Γ H F (wpList prog ops Q (o::rest)):=by
 obtain⟨i,hi,hz,hs,_⟩:=bCf;refine sH (m:=5) hw ho hd hn (fun a w f=>?_) k
 have:=run_buildSlice (P:=prog) w 174 63 5 #[(0,a.eval x0),(1,a.eval x1),(2,a.eval x2),(3,a.eval x3),(4,a.eval x4)] (gR.all [u0,u1,u2,u3,u4]).toArray i (.slice none 0 0) underlying174 hi hz n7 n7 (by
  rw [f.ev h0,f.ev h1,f.ev h2,f.ev h3,f.ev h4,hs]
  kernel_rfl)
 simpa using this
theorem bK{β:dF}{H:List bH}{F:List Fact}{b off:Nat}{cs:List Value}(h:Has F (Fact.cells b 0 cs)):qA β H F b off (cs.drop off):=fun w S _ k j u hj=>by
 rw [List.getElem?_drop] at hj;have:=(h S w k).2 (off+j) u hj
 rwa [Nat.zero_add] at this
abbrev tE (x:Sl OpV):bH:=opE.row (.slice x.addr x.list.length x.cap) 68 x.list
abbrev nF (x:Sl OpV):Fact:=Fact.each x.list opF
section
variable {F : List Fact} {x : Sl OpV} {m : OpV} {xs : List (Sl OpV)}
theorem opsF_mk(h:Has F (opE.sl (.slice x.addr x.list.length x.cap) x.list))(k:Has F (nF x))(hc:x.list.length≤x.cap)(hl:x.list.length≤100000):Has F (dH x):=Has.and (Has.and h k) (j3 ⟨hc,n7⟩)
theorem cS{L:List OpC}(h:Has F (opE.sl (.slice x.addr x.list.length x.cap) x.list))(k:Has F (nF x))(hc:x.list.length≤x.cap)(e:dW x.list=L)(hl:L.length≤100000):Has F (dH x):=opsF_mk h k hc (by rw [←fU,e];exact hl)
theorem lZ{α:Type}{f:α→Fact}{m:α}(h:Has F (f m)):Has F (Fact.each [m] f):=Has.each_cons h Has.each_nil
theorem each_flat(h:Has F (Fact.each xs dH)):Has F (Fact.each (xs.map (·.list)).flatten opF):=fun S w k q hq=>by
 obtain⟨l,hl,hq⟩:=List.mem_flatten.1 hq;obtain⟨s,hs,rfl⟩:=List.mem_map.1 hl;exact(h S w k s hs).1.2 q hq
theorem each_app{α:Type}{f:α→Fact}{a b:List α}(h:Has F (Fact.each a f))(k:Has F (Fact.each b f)):Has F (Fact.each (a++b) f):=fun S w q x hx=>by
 rcases List.mem_append.1 hx with hx | hx
 ·exact h S w q x hx
 ·exact k S w q x hx
theorem opsL_app(a b:List OpV):dW (a++b)=dW a++dW b:=List.map_append
theorem bKn(xs:List (Sl OpV)):dW (xs.map (·.list)).flatten=(xs.map fun s=>dW s.list).flatten:=by
 unfold dW;rw [List.map_flatten,List.map_map];rfl
end
theorem fX{xs:List (Sl OpV)}{L:List OpC}(h:(xs.map fun s=>dW s.list).flatten=L)(hl:L.length≤10000):(xs.map (·.list)).flatten.length≤10000:=by
 rw [←fU,bKn,h];exact hl
def ValV.v(x:ValV):iA:=⟨x.ty.t,x.buf⟩
def mP (S:List PolV):Prop:=S.length≤4∧ ∀p∈S,p.list.length≤48
def bRk (S:List Pol)(I:bDr)(k:Nat)(o:List OpV):Prop:=spotL S I=yI I k (S.drop k) (dW o)∧(dW o).length≤14*k
section
variable {S : List Pol} {I : bDr} {k : Nat} {o : List OpV} {p : Pol}
theorem spot_start(h:0<S.length)(ho:dW o=I 0)(hl:(I 0).length≤10):bRk S I 1 o:=by
 match S,h with
 | a::S,_=>exact⟨by rw [ho];rfl,by rw [ho];omega⟩
theorem spot_step{o':List OpV}(h:bRk S I k o)(hp:S[k]?=some p)(ho:dW o'=[dW o,[oV p],[oD 3],I k,[oD 1]].flatten)(hl:(I k).length≤10):bRk S I (k+1) o':=by
 refine⟨?_,?_⟩
 ·rw [h.1,gE hp,yI,ho]
 ·have:=h.2;rw [ho];simp;omega
theorem spot_end(h:bRk S I k o)(hk:S.length≤k):dW o=spotL S I:=by
 rw [h.1,List.drop_of_length_le hk];rfl
theorem bQh(hI: ∀k,(I k).length≤10): ∀(r:List Pol) (k:Nat) (o:List OpC),(yI I k r o).length≤o.length+13*r.length
 | [],_,o=>Nat.le_refl _
 | p::r,k,o=>by
  rw [yI];refine Nat.le_trans (bQh hI r (k+1) _) ?_;have:=hI k;simp;omega
theorem pE(h:S.length≤4)(hI: ∀k,(I k).length≤10):(spotL S I).length≤200:=by
 match S,h with
 | [],_=>simp [spotL]
 | a::S,h=>
  have:=bQh hI S 1 (I 0);have:=hI 0;simp only [List.length_cons] at h;show(yI I 1 S (I 0)).length≤200;omega
theorem at_L{v:ValV}{o:List OpV}(h:dW o=spotL v.v.t.sides I):dW (o++[⟨4,v.buf,0,⟨none,0,[]⟩,0⟩])=atL v.v I:=by
 rw [opsL_app,h];rfl
theorem spot_none(h:S.length=0):spotL S I=[oN 0]:=by
 rw [List.length_eq_zero_iff.1 h];rfl
end
theorem yQ(z0:Int)(z2:Int):prog.built 68 [(0,.int .i64 z0),(2,.int .i64 z2)]=some #[.int .i64 z0,.int .i64 0,.int .i64 z2,.slice none 0 0,.int .u8 0]:=n9
theorem xR(z0:Int)(z1:Int):prog.built 68 [(0,.int .i64 z0),(1,.int .i64 z1)]=some #[.int .i64 z0,.int .i64 z1,.int .i64 0,.slice none 0 0,.int .u8 0]:=n9
theorem yY(z0:Int)(z4:Int):prog.built 68 [(0,.int .i64 z0),(4,.int .u8 z4)]=some #[.int .i64 z0,.int .i64 0,.int .i64 0,.slice none 0 0,.int .u8 z4]:=n9
theorem yG(z0:Int)(a3:Option Addr)(l3 c3:Nat):prog.built 68 [(0,.int .i64 z0),(3,.slice a3 l3 c3)]=some #[.int .i64 z0,.int .i64 0,.int .i64 0,.slice a3 l3 c3,.int .u8 0]:=n9
theorem growL_spec(n:Nat)(hn:n≤1000000):cM prog 137 [.slice none 0 0,.int .i64 (n:Nat)] [] [] (fun(x:Option Addr×Nat)=> .slice x.1 0 x.2) (fun(x:Option Addr×Nat)=>[opE.row (.slice x.1 0 x.2) 68 ([])]) (fun _=>[]):=by
 have hT:=iC;refine k6 func137 ntmps137 ?_;intro β hM;refine g10 ?_;refine bM (t':=false) (decide_eq_false n7) ?_;refine g10 ?_;refine ss (bNl underlying63 rfl rfl) ?_;refine g3 ?_;refine cP (z':=((0:Nat):Int)) o9 ?_;refine one ?_;refine inc n ?_;refine g9 ?_;refine dJ (fun hc16=>?_) fun hc16=>?_
 ·refine g3 ?_;refine ss (bNl underlying63 rfl rfl) ?_;refine ss (mC hT (k:=0) rfl rfl rfl rfl rfl rfl n7) ?_;refine one ?_;refine bTl rfl rfl rfl rfl rfl rfl n7 n7 fun A1 c2=>?_;refine g2 ?_;refine iK hT (k:=0) .head rfl rfl rfl rfl rfl rfl rfl rfl rfl n7 ?_;refine g10 ?_;exact rs1 (A1,c2) trivial
 refine g9 ?_;refine cK (t:=68) opE ?_;exact rs1 (none,0) trivial
theorem concL_spec(A:Option Addr)(c:Nat)(xs:List (Sl OpV))(hx:xs.length≤1000000)(ht:(xs.map (·.list)).flatten.length≤1000000):cM prog 112 [.slice A xs.length c] [] [gR.sl (.slice A xs.length c) xs,Fact.each xs dH] (fun(x:Option Addr×Nat)=> .slice x.1 (xs.map (·.list)).flatten.length x.2) (fun(x:Option Addr×Nat)=>[opE.row (.slice x.1 (xs.map (·.list)).flatten.length x.2) 68 ((xs.map (·.list)).flatten)]) (fun _=>[]):=by
 have hT:=iC;refine k6 func112 ntmps112 ?_;intro β hM;refine g19 ?_;refine cB (ι:=Nat×Nat) [(0,_),(9,_),(10,_)] ⟨rfl,rfl,rfl,j0⟩ (fun⟨i,n⟩=>[(3,.int .i64 (n:Nat)),(11,.int .i64 (i:Nat))]) (fun _=>[]) (fun⟨i,n⟩=>[Fact.pure (i≤xs.length∧n=((xs.map (·.list)).take i).flatten.length)]) (fun⟨i,n⟩=>xs.length-i) (0,0) ⟨rfl,rfl,j0⟩ .nil ⟨j3 (⟨n7,rfl⟩),j0⟩ ?_;rintro⟨i,n⟩;dsimp only;refine bC d7 fun hinv3=>?_;refine g6 ?_;refine dJ (fun hc12=>?_) fun hc12=>?_
 ·refine g6 ?_;obtain⟨x1,hx2⟩:=gx xs i;refine ss (ixs i) ?_;refine ss (fL hx2 0) ?_;have hL:=vS (f:=fun s:Sl OpV=>s.list) hx2;have hfl:=zB hL;have hfn:=congrArg List.length hfl;rw [List.length_append] at hfn;have hfm:=wW (L:=(xs.map (·.list))) (i+1);refine bB (opE.sl (.slice x1.addr x1.list.length x1.cap) x1.list) (opsF_s (Has.each d9 (j4 hx2))) ?_;refine g9 ?_;refine inc (n+x1.list.length) ?_;refine g7 ?_;refine bM (t':=false) (decide_eq_false n7) ?_;refine g8 ?_;refine inc (i+1) ?_;refine g3 ?_;exact bk2 (i+1,n+x1.list.length) ⟨j3 (⟨by dsimp only;omega,by dsimp only;omega⟩),j0⟩
 refine g8 ?_;refine j5 func137 (growL_spec n (by have:=wW (L:=(xs.map (·.list))) i;omega)) j0 fun⟨A3,c4⟩=>?_;refine g12 ?_;refine cB (ι:=Nat×Option Addr×Nat) [(25,_),(26,_)] ⟨rfl,rfl,j0⟩ (fun⟨i,A1,c1⟩=>[(6,.slice A1 ((xs.map (·.list)).take i).flatten.length c1),(27,.int .i64 (i:Nat))]) (fun⟨i,A1,c1⟩=>[opE.row (.slice A1 ((xs.map (·.list)).take i).flatten.length c1) 68 (((xs.map (·.list)).take i).flatten)]) (fun⟨i,A1,c1⟩=>[Fact.pure (i≤xs.length)]) (fun⟨i,A1,c1⟩=>xs.length-i) (0,A3,c4) ⟨rfl,rfl,j0⟩ (.c0 .nil) ⟨j3 (Nat.zero_le _),j0⟩ ?_;rintro⟨i,A1,c1⟩;dsimp only;refine bC d7 fun hinv11=>?_;refine g6 ?_;refine dJ (fun hc28=>?_) fun hc28=>?_
 ·refine g6 ?_;obtain⟨x5,hx6⟩:=gx xs i;refine ss (ixs i) ?_;refine ss (fL hx6 0) ?_;have hL:=vS (f:=fun s:Sl OpV=>s.list) hx6;have hfl:=zB hL;have hfn:=congrArg List.length hfl;rw [List.length_append] at hfn;have hfm:=wW (L:=(xs.map (·.list))) (i+1);refine bB (opE.sl (.slice x5.addr x5.list.length x5.cap) x5.list) (opsF_s (Has.each e6 (j4 hx6))) ?_;refine g6 ?_;refine bJw .head (cE d7) rfl rfl rfl rfl rfl rfl rfl n7 fun A7 c8=>?_;rw [hfl];refine g6 ?_;refine inc (i+1) ?_;refine g3 ?_;exact bk2 (i+1,A7,c8) ⟨j3 n7,j0⟩
 refine g12 ?_;rw [List.take_of_length_le q8];exact rs1 (A1,c1) trivial
theorem rP(n:Int):cM prog 37 [.int .i64 n] [] [] (fun(x:Sl OpV)=> .slice x.addr x.list.length x.cap) (fun(x:Sl OpV)=>[tE x]) (fun(x:Sl OpV)=>[nF x,Fact.pure (dW x.list=[oN n])]):=by
 have hT:=iC;refine k6 func37 ntmps37 ?_;intro β hM;refine g8 ?_;refine ss (k7 (yQ _ _)) ?_;refine jR (m:=(⟨1,0,n,⟨none,0,[]⟩,0⟩:OpV)) rfl rfl rfl rfl rfl fun b1=>?_;refine bR (E:=opE) (xs:=[(⟨1,0,n,⟨none,0,[]⟩,0⟩:OpV)]) .head q7 ?_;refine g4 ?_;exact rs1 (⟨some ⟨b1,0,none⟩,1,[(⟨1,0,n,⟨none,0,[]⟩,0⟩:OpV)]⟩:Sl OpV) ⟨lZ iP,j3 rfl,j0⟩
theorem fP(k:Int):cM prog 74 [.int .i64 k] [] [] (fun(x:Sl OpV)=> .slice x.addr x.list.length x.cap) (fun(x:Sl OpV)=>[tE x]) (fun(x:Sl OpV)=>[nF x,Fact.pure (dW x.list=[oI k])]):=by
 have hT:=iC;refine k6 func74 ntmps74 ?_;intro β hM;refine g8 ?_;refine ss (k7 (xR _ _)) ?_;refine jR (m:=(⟨3,k,0,⟨none,0,[]⟩,0⟩:OpV)) rfl rfl rfl rfl rfl fun b1=>?_;refine bR (E:=opE) (xs:=[(⟨3,k,0,⟨none,0,[]⟩,0⟩:OpV)]) .head q7 ?_;refine g4 ?_;exact rs1 (⟨some ⟨b1,0,none⟩,1,[(⟨3,k,0,⟨none,0,[]⟩,0⟩:OpV)]⟩:Sl OpV) ⟨lZ iP,j3 rfl,j0⟩
theorem jN(f:Int):cM prog 43 [.int .u8 f] [] [] (fun(x:Sl OpV)=> .slice x.addr x.list.length x.cap) (fun(x:Sl OpV)=>[tE x]) (fun(x:Sl OpV)=>[nF x,Fact.pure (dW x.list=[oD f])]):=by
 have hT:=iC;refine k6 func43 ntmps43 ?_;intro β hM;refine g8 ?_;refine ss (k7 (yY _ _)) ?_;refine jR (m:=(⟨6,0,0,⟨none,0,[]⟩,f⟩:OpV)) rfl rfl rfl rfl rfl fun b1=>?_;refine bR (E:=opE) (xs:=[(⟨6,0,0,⟨none,0,[]⟩,f⟩:OpV)]) .head q7 ?_;refine g4 ?_;exact rs1 (⟨some ⟨b1,0,none⟩,1,[(⟨6,0,0,⟨none,0,[]⟩,f⟩:OpV)]⟩:Sl OpV) ⟨lZ iP,j3 rfl,j0⟩
theorem uE(p:PolV)(hp:p.list.length≤48):cM prog 39 [.slice p.addr p.list.length p.cap] [] [kT p] (fun(x:Sl OpV)=> .slice x.addr x.list.length x.cap) (fun(x:Sl OpV)=>[tE x]) (fun(x:Sl OpV)=>[nF x,Fact.pure (dW x.list=[oV p.list])]):=by
 have hT:=iC;refine k6 func39 ntmps39 ?_;intro β hM;refine g8 ?_;refine j5 func35 (bBb p.addr p.cap p.list n7) ⟨qI d7,j0⟩ fun⟨A1,c2⟩=>?_;refine bE .head<|bB (kT ⟨A1,c2,p.list⟩) (polF_mk d7 hp) ?_;refine ss (k7 (yG _ _ _ _)) ?_;refine jR (m:=(⟨2,0,0,⟨A1,c2,p.list⟩,0⟩:OpV)) rfl rfl rfl rfl rfl fun b3=>?_;refine bR (E:=opE) (xs:=[(⟨2,0,0,⟨A1,c2,p.list⟩,0⟩:OpV)]) .head q7 ?_;refine g4 ?_;exact rs1 (⟨some ⟨b3,0,none⟩,1,[(⟨2,0,0,⟨A1,c2,p.list⟩,0⟩:OpV)]⟩:Sl OpV) ⟨lZ d7,j3 rfl,j0⟩
theorem zE(n:Int):cM prog 16 [.int .i64 n] [] [] (fun(x:Option Addr×Nat)=> .slice x.1 (bT n).length x.2) (fun _=>[]) (fun(x:Option Addr×Nat)=>[kT ⟨x.1,x.2,bT n⟩]):=by
 have hT:=iC;refine k6 func16 ntmps16 ?_;intro β hM;refine g8 ?_;refine j5 func34 (yZ n) j0 fun⟨A1,c2⟩=>?_;refine g14 ?_;exact rs1 (A1,c2) ⟨d7,j0⟩
theorem qZ(A:Option Addr)(c:Nat)(xs:List (Sl OpV))(hx:xs.length≤1000)(ht:(xs.map (·.list)).flatten.length≤10000):cM prog 73 [.slice A xs.length c] [] [gR.sl (.slice A xs.length c) xs,Fact.each xs dH] (fun(x:Sl OpV)=> .slice x.addr x.list.length x.cap) (fun(x:Sl OpV)=>[tE x]) (fun(x:Sl OpV)=>[nF x,Fact.pure (dW x.list=(xs.map fun s=>dW s.list).flatten)]):=by
 have hT:=iC;refine k6 func73 ntmps73 ?_;intro β hM;refine g8 ?_;refine j5 func112 (concL_spec A c xs n7 n7) ⟨d7,d8,j0⟩ fun⟨A1,c2⟩=>?_;refine g4 ?_;exact rs1 (⟨A1,c2,(xs.map (fun s:Sl OpV=>s.list)).flatten⟩:Sl OpV) ⟨each_flat d8,j3 (bKn xs),j0⟩
theorem bJi(l:Sl PolV)(hS:mP l.list):cM prog 19 [.slice l.addr l.list.length l.cap] [] [listF l] (fun(x:Sl PolV)=> .slice x.addr x.list.length x.cap) (fun _=>[]) (fun(x:Sl PolV)=>[xU x,Fact.pure (bJ x.list=bJ l.list)]):=by
 have hT:=iC;obtain⟨hl,hr⟩:=hS;refine k6 func19 ntmps19 ?_;intro β hM;refine cO<|cG l mT0 fun hc_l=>?_;refine g18 ?_;refine cK (t:=47) bS<|bB (cQ []) (Has.each_nil) ?_;refine cB (ι:=Nat×List PolV×Option Addr×Nat) [(6,_),(7,_)] ⟨rfl,rfl,j0⟩ (fun⟨i,vs,V,cv⟩=>[(3,.slice V vs.length cv),(8,.int .i64 (i:Nat))]) (fun⟨i,vs,V,cv⟩=>[bS.row (.slice V vs.length cv) 47 vs]) (fun⟨i,vs,V,cv⟩=>[Fact.pure (i≤l.list.length∧bGr l.list vs i),cQ vs]) (fun⟨i,vs,V,cv⟩=>l.list.length-i) (0,[],none,0) ⟨rfl,rfl,j0⟩ (.c0 .nil) ⟨j3 (⟨n7,bRf _⟩),d7,j0⟩ ?_;rintro⟨i,vs,V,cv⟩;dsimp only;refine bC d7 fun hinv3=>?_;have hvl:=bQw hinv3.2 hinv3.1;refine g6 ?_;refine dJ (fun hc9=>?_) fun hc9=>?_
 ·refine g6 ?_;obtain⟨x1,hx2⟩:=gx l.list i;refine ss (ixs i) ?_;refine ss (fL hx2 0) ?_;refine g6 ?_;have hpl:=hr x1 (j4 hx2);refine j5 func35 (bBb x1.addr x1.cap x1.list n7) ⟨qI (Has.each e6 (j4 hx2)),j0⟩ fun⟨A3,c4⟩=>?_;refine bE .head<|bB (kT ⟨A3,c4,x1.list⟩) (polF_mk d7 hpl) ?_;refine dA (m:=⟨A3,c4,x1.list⟩) rfl rfl rfl rfl rfl fun b5=>?_;refine bB (cQ (vs++[(⟨A3,c4,x1.list⟩:PolV)])) (Has.each_snoc e6 d7) ?_;refine fM kT1 (bW .head rfl) rfl rfl rfl rfl rfl rfl rfl q8 fun A6 c7=>?_;refine g6 ?_;refine inc (i+1) ?_;refine g3 ?_;exact bk2 (i+1,vs++[(⟨A3,c4,x1.list⟩:PolV)],A6,c7) ⟨j3 (⟨by dsimp only;omega,bUs hinv3.2 hx2 rfl⟩),d7,j0⟩
 refine g12 ?_;have he:=ownT_end hinv3.2 n7;have hle:vs.length≤4:=by have:=bQw hinv3.2 hinv3.1;omega
 refine bX .head fun hcv=>bE .head ?_;exact rs1 (⟨V,cv,vs⟩:Sl PolV) ⟨Has.and (Has.and d7 d9) (j3 ⟨hcv,by dsimp only;omega⟩),j3 he,j0⟩
theorem yT(S:Sl PolV)(hS:mP S.list)(f:FuncId)(cap:List Value)(G:List Fact)(I:bDr)(hcf: ∀(args:Array Value) (w:World),(callFunc f args).run prog w= .ok (.enter f args) w)(hI: ∀k,(I k).length≤10)(hf: ∀k:Nat,k<S.list.length→cM prog f (.int .i64 (k:Nat)::cap) [] G (fun x:Sl OpV=> .slice x.addr x.list.length x.cap) (fun x=>[tE x]) (fun x=>[nF x,Fact.pure (dW x.list=I k)])):cM prog 79 [.slice S.addr S.list.length S.cap,.func (.func f) #[] cap.toArray] [] (listF S::G) (fun(x:Sl OpV)=> .slice x.addr x.list.length x.cap) (fun(x:Sl OpV)=>[tE x]) (fun(x:Sl OpV)=>[nF x,Fact.pure (dW x.list=spotL (bJ S.list) I)]):=by
 have hT:=iC;obtain⟨hl,hr⟩:=hS;refine k6 func79 ntmps79 ?_;intro β hM;refine cO<|cG S mT0 fun hc_l=>?_;refine g12 ?_;refine fN (fun hc9=>?_) fun hc9=>?_
 ·refine g2 ?_;refine j5 func37 (rP (0)) j0 fun y1=>?_;refine bC d8 fun h10=>?_;refine g5 ?_;exact rs1 y1 ⟨d7,j3 (h10.trans (spot_none af0).symm),j0⟩
 refine g5 ?_;refine fV hcf (hf 0 n7) rfl rfl rfl rfl rfl rfl rfl .nil (bA.drop 3) fun y2=>?_;refine bC d8 fun h12=>?_;refine g10 ?_;refine cB (ι:=Nat×Sl OpV) [(0,_),(1,_)] ⟨rfl,rfl,j0⟩ (fun⟨k,o⟩=>[(5,.slice o.addr o.list.length o.cap),(6,.int .i64 (k:Nat))]) (fun⟨k,o⟩=>[tE o]) (fun⟨k,o⟩=>[Fact.pure (1≤k∧k≤S.list.length∧bRk (bJ S.list) I k o.list),nF o]) (fun⟨k,o⟩=>S.list.length-k) (1,y2) ⟨rfl,rfl,j0⟩ (.c0 .nil) ⟨j3 (⟨Nat.le_refl _,n7,spot_start af0 h12 (hI 0)⟩),d7,j0⟩ ?_;rintro⟨k,o⟩;dsimp only;refine bC d7 fun hinv5=>?_;have hob:=hinv5.2.2.2;have hik:=hI k;refine g9 ?_;refine dJ (fun hc16=>?_) fun hc16=>?_
 ·refine g8 ?_;obtain⟨x3,hx4⟩:=gx S.list k;refine ss (ixs k) ?_;refine ss (fL hx4 0) ?_;refine bD func39 (uE x3 (hr _ (j4 hx4))) rfl rfl .nil ⟨(Has.each e7 (j4 hx4)),j0⟩ fun y5=>?_;refine bC d8 fun h24=>?_;refine j5 func43 (jN (3)) j0 fun y6=>?_;refine bC d8 fun h25=>?_;refine g2 ?_;refine fV hcf (hf k n7) rfl rfl rfl rfl rfl rfl rfl .nil (bA.drop 11) fun y7=>?_;refine bC d8 fun h28=>?_;refine j5 func43 (jN (1)) j0 fun y8=>?_;refine bC d8 fun h29=>bX kT4 fun hc9=>bE kT4<|bB (dH o) (cS d7 (f7) hc9 rfl (by have:=hinv5.2.2.2;omega))<|bX kT3 fun hc10=>bE kT3<|bB (dH y5) (cS d7 (f5) hc10 h24 o6)<|bX kT2 fun hc11=>bE kT2<|bB (dH y6) (cS d7 (f5) hc11 h25 o6)<|bX kT1 fun hc12=>bE kT1<|bB (dH y7) (cS d7 (f5) hc12 h28 (by have:=hI k;omega))<|bX .head fun hc13=>bE .head<|bB (dH y8) (cS d7 (f5) hc13 h29 o6) ?_;refine bJl o y5 y6 y7 y8 rfl rfl rfl rfl rfl rfl rfl rfl rfl fun b14=>?_;refine bR (E:=gR) (xs:=[o,y5,y6,y7,y8]) .head q7<|bE .head<|bB (Fact.each [o,y5,y6,y7,y8] dH) ((Has.each_cons f5 (Has.each_cons f3 (Has.each_cons e8 (Has.each_cons e6 (Has.each_cons d8 Has.each_nil)))))) ?_;have hq30:([o,y5,y6,y7,y8].map fun s=>dW s.list).flatten=[dW o.list,[oV x3.list],[oD (3)],I k,[oD (1)]].flatten:=by simp only [List.map_cons,List.map_nil,h24,h25,h28,h29]
  refine j5 func73 (qZ (some ⟨b14,0,none⟩) 5 [o,y5,y6,y7,y8] o6 (fX hq30 (by simp only [List.flatten_cons,List.flatten_nil,List.length_append,List.length_cons,List.length_nil];omega))) ⟨d8,d7,j0⟩ fun y15=>?_;refine bC d8 fun h31=>?_;rw [hq30] at h31;refine g7 ?_;refine inc (k+1) ?_;refine g3 ?_;exact bk2 (k+1,y15) ⟨j3 (⟨by dsimp only;omega,by dsimp only;omega,spot_step hinv5.2.2 (gD hx4) h31 (hI k)⟩),d7,j0⟩
 refine g12 ?_;exact rs1 o ⟨d8,j3 (spot_end hinv5.2.2 af0),j0⟩
theorem fromI_spec(b:Nat)(first:Nat)(hfi:first≤1000)(k:Nat)(hk:k≤1000):cM prog 78 [.int .i64 (k:Nat),.pointer (some ⟨b,0,none⟩)] [] [Fact.cells b 0 [.int .i64 (first:Nat)]] (fun(x:Sl OpV)=> .slice x.addr x.list.length x.cap) (fun(x:Sl OpV)=>[tE x]) (fun(x:Sl OpV)=>[nF x,Fact.pure (dW x.list=bVp first k)]):=by
 have hT:=iC;refine k6 func78 ntmps78 ?_;intro β hM;refine g7 ?_;refine ss (j7 hT (bK (off:=0) d7)) ?_;refine g2 ?_;refine inc (first+k) ?_;refine j5 func74 (fP ((((first+k):Nat):Int))) j0 fun y1=>?_;refine bC d8 fun h7=>?_;refine g4 ?_;exact rs1 y1 ⟨d7,j3 h7,j0⟩
theorem bBd(v:ValV)(hS:mP v.ty.sides.list)(f:FuncId)(cap:List Value)(G:List Fact)(I:bDr)(hcf: ∀(args:Array Value) (w:World),(callFunc f args).run prog w= .ok (.enter f args) w)(hI: ∀k,(I k).length≤10)(hf: ∀k:Nat,k<v.ty.sides.list.length→cM prog f (.int .i64 (k:Nat)::cap) [] G (fun x:Sl OpV=> .slice x.addr x.list.length x.cap) (fun x=>[tE x]) (fun x=>[nF x,Fact.pure (dW x.list=I k)])):cM prog 75 [.agg #[.slice v.ty.sides.addr v.ty.sides.list.length v.ty.sides.cap,.bool v.ty.known,.slice v.ty.values.addr v.ty.values.list.length v.ty.values.cap,.int .i64 v.buf],.func (.func f) #[] cap.toArray] [] (listF v.ty.sides::G) (fun(x:Sl OpV)=> .slice x.addr x.list.length x.cap) (fun(x:Sl OpV)=>[tE x]) (fun(x:Sl OpV)=>[nF x,Fact.pure (dW x.list=atL v.v I)]):=by
 have hT:=iC;refine k6 func75 ntmps75 ?_;intro β hM;refine g2 ?_;refine j9 fun b1=>?_;refine g4 ?_;refine mV _ _ (.fl 0 (.fl 1 (.fl 2 (.fl 3 (.fl 5 (.fl 6 (.fl 7 (.two 4 8 (.op 8 (.op 9 (.fl 10 .nil))) (.op 4 (.op 9 (.fl 10 .nil))))))))))) bV o5 (.c0 .nil) bA.self ?_;refine g6 ?_;refine sqT rfl (k7 (xR _ _)) ?_;refine jP (o:=_) (o':=_) rfl rfl ?_ ?_
 ·refine j5 func79 (yT v.ty.sides hS f cap G I hcf hI hf) ⟨d7,bA.drop 1⟩ fun y2=>?_;refine bC d8 fun h9=>?_;have hsl:=pE (S:=v.v.t.sides) ag9 hI;refine g2 ?_;refine jR (m:=(⟨4,v.buf,0,⟨none,0,[]⟩,0⟩:OpV)) rfl rfl rfl rfl rfl fun b3=>?_;refine g2 ?_;have hyl:y2.list.length≤200:=by rw [←fU,h9];exact hsl
  refine bJw kT1 (bW .head rfl) rfl rfl rfl rfl rfl rfl rfl q8 fun A4 c5=>?_;refine g5 ?_;exact rs1 (⟨A4,c5,y2.list++[(⟨4,v.buf,0,⟨none,0,[]⟩,0⟩:OpV)]⟩:Sl OpV) ⟨each_app d7 (lZ iP),j3 (at_L h9),j0⟩
 refine jR (m:=(⟨4,v.buf,0,⟨none,0,[]⟩,0⟩:OpV)) rfl rfl rfl rfl rfl fun b6=>?_;refine g2 ?_;refine j5 func79 (yT v.ty.sides hS f cap G I hcf hI hf) ⟨d7,bA.drop 1⟩ fun y7=>?_;refine bC d8 fun h9=>?_;have hsl:=pE (S:=v.v.t.sides) ag9 hI;refine g2 ?_;have hyl:y7.list.length≤200:=by rw [←fU,h9];exact hsl
 refine bJw .head (bW kT1 rfl) rfl rfl rfl rfl rfl rfl rfl q8 fun A8 c9=>?_;refine g5 ?_;exact rs1 (⟨A8,c9,y7.list++[(⟨4,v.buf,0,⟨none,0,[]⟩,0⟩:OpV)]⟩:Sl OpV) ⟨each_app d7 (lZ iP),j3 (at_L h9),j0⟩
theorem hO(v:ValV)(hS:mP v.ty.sides.list)(first:Nat)(hfi:first≤900):cM prog 41 [.agg #[.slice v.ty.sides.addr v.ty.sides.list.length v.ty.sides.cap,.bool v.ty.known,.slice v.ty.values.addr v.ty.values.list.length v.ty.values.cap,.int .i64 v.buf],.int .i64 (first:Nat)] [] [listF v.ty.sides] (fun(x:Sl OpV)=> .slice x.addr x.list.length x.cap) (fun(x:Sl OpV)=>[tE x]) (fun(x:Sl OpV)=>[nF x,Fact.pure (dW x.list=fromL v.v first)]):=by
 have hT:=iC;refine k6 func41 ntmps41 ?_;intro β hM;refine g2 ?_;refine j9 fun b1=>?_;refine j9 fun b2=>?_;refine g4 ?_;refine fR .head ?_;refine g3 ?_;refine bD func75 (bBd v hS 78 [.pointer (some ⟨b2,0,none⟩)] [Fact.cells b2 0 [.int .i64 (first:Nat)]] (bVp first) (bO func78 rfl rfl) (fun _=>by simp [bVp]) (fun k hk=>fromI_spec b2 first n7 k (by have:=hS.1;omega))) rfl rfl .nil ⟨d8,d7,j0⟩ fun y3=>?_;refine bC d8 fun h7=>?_;refine g4 ?_;exact rs1 y3 ⟨d7,j3 h7,j0⟩
end
end Go.Proofs.YtakphiannlpnfaaGreatDoor
