/- Texts of one proof, one behind the other: RunW, RunX, RunY, RunZ, RunM, Open, Held. -/
import Derived.Test.YtofjmphlpdhohaaGreatDoorM2
import Derived.Deep.AppendSrc
import Derived.Laws.CopyRow
import Derived.Deep.Upon
import Derived.Great.BuildSlice
import Derived.Laws.MakeOwn
import Derived.MapKept
import Derived.Lib.OthersKept
import Derived.Carry
import Derived.Lib.AppendZeros
import Derived.Test.YtofjmphlpdhohaaGreatDoorM1
import Derived.ProofKit
import Derived.OpenShut
import Derived.SizedLaws
import Derived.Deep.Slices
namespace Go.Proofs.YtofjmphlpdhohaaGreatDoor
namespace X
open Go.RowKit
theorem cH{P:Program}{S:Sem Value}{v:Value}{w w':World}(h:S.run P w= .ok v w'):(do pure (Next.value (←S)):Sem Next).run P w= .ok (.value v) w':=by
 rw [Sem.run_bind,h];rfl
theorem iH(f:Operand→Value)(b:Builtin)(args:Array Operand)(ts:Array TypeId)(ty:TypeId){P:Program}(w:World):(do let d←resolve f ⟨.builtin b,args,ts⟩ ty;invoke d.target d.args:Sem Next).run P w=(builtin b ts ty (args.map fun | .const _=>true | _=>false) (args.map f)).run P w:=by
 simp only [resolve,Sem.run_bind,Sem.run_pure,Result.andThen_ok,invoke];rfl
theorem vO{args:Array Operand}{x:Operand}(h:args.toList=[x])(f:Operand→Value):args.map f= #[f x]:=by
 have:args= #[x]:=by apply Array.ext';simpa using h
 subst this;simp
theorem nL{args:Array Operand}{x y:Operand}(h:args.toList=[x,y])(f:Operand→Value):args.map f= #[f x,f y]:=by
 have:args= #[x,y]:=by apply Array.ext';simpa using h
 subst this;simp
section
variable [Ctx] {α : As} {s : St} {w : World} {N : Nat} {e : E} {a : Act}
theorem call_run(hs:Sim α s w)(he:EOk α s N e a){b:Builtin}{args:Array Operand}{ts:Array TypeId}{v:V}(h:pCall b args.toList ts.toList s e=some v)(ty:TypeId):
  (do let d←resolve a.eval ⟨.builtin b,args,ts⟩ ty;invoke d.target d.args:Sem Next).run Ctx.P w= .ok (.value (v.inst α)) w:=by
 rw [iH];cases b<;>try cases h
 case len=>
  have h:(match args.toList,ts.toList with
   | [x],[t]=>pLen e x t s
   | _,_=>none)=some v:=h
  split at h
  ·rename_i x t hx ht;have et:ts= #[t]:=by apply Array.ext';simpa using ht
   obtain⟨u,hu,h1⟩:=bA h;obtain⟨d,hd,h2⟩:=bA h1;obtain⟨n,hn,h3⟩:=bA h2;cases h3;rw [vO hx,(bY hs he hu).1,et];exact cH (len_run hs hd hn ty)
  ·cases h
 case cap=>
  have h:(match args.toList,ts.toList with
   | [x],[t]=>ob (evX x e) fun u=>gd (isSl t) (capX u)
   | _,_=>none)=some v:=h
  split at h
  ·rename_i x t hx ht;have et:ts= #[t]:=by apply Array.ext';simpa using ht
   obtain⟨u,hu,h1⟩:=bA h;obtain⟨h2,h3⟩:=bT h1
   have hsl: ∃el,Ctx.P.underlying t=some (.slice el):=by
    unfold isSl at h2;split at h2
    ·exact⟨_,by assumption⟩
    ·cases h2
   obtain⟨el,hel⟩:=hsl;rw [vO hx,(bY hs he hu).1,et];refine cH ?_
   cases u with
   | l0=>
    cases h3;simp [Builtin.cap_,run_underlying hel,V.inst,goInt]
   | l k o n c=>
    cases c<;>cases h3
    simp [Builtin.cap_,run_underlying hel,V.inst,goInt,Cap.inst]
   | _=>cases h3
  ·cases h
 case unsafeSliceData=>
  have h:(match args.toList with
   | [x]=>ob (evX x e) dataX
   | _=>none)=some v:=h
  split at h
  ·rename_i x hx;obtain⟨u,hu,h1⟩:=bA h;rw [vO hx,(bY hs he hu).1];refine cH ?_
   cases u with
   | l0=>
    cases h1;exact Lib.run_unsafeSliceData_nil w ts ty 0 0
   | l k o n c=>
    obtain⟨h2,h3⟩:=bT (show gd _ _=some v from h1);cases h3;refine Lib.run_unsafeSliceData_row w ts ty ⟨α.blk k,o,none⟩ n (c.inst α) ?_;have:=sV c α;intro e0;rw [e0] at this;have:c.least=0:=by omega
    rw [this] at h2;cases h2
   | _=>cases h1
  ·cases h
 case max=>
  have h:(match args.toList with
   | [x,y]=>pMost e true x y
   | _=>none)=some v:=h
  split at h
  ·rename_i x y hx;obtain⟨u,hu,h1⟩:=bA h;obtain⟨u',hu',h2⟩:=bA h1;obtain⟨k,p,rfl,h3⟩:=iF h2;obtain⟨k',q,rfl,h4⟩:=iF h3;cases h4;rw [nL hx,(bY hs he hu).1,(bY hs he hu').1];refine cH ?_;simp only [V.inst,cE,ilt_eq];simp [Builtin.max_,Builtin.max2]
  ·cases h
 case min=>
  have h:(match args.toList with
   | [x,y]=>pMost e false x y
   | _=>none)=some v:=h
  split at h
  ·rename_i x y hx;obtain⟨u,hu,h1⟩:=bA h;obtain⟨u',hu',h2⟩:=bA h1;obtain⟨k,p,rfl,h3⟩:=iF h2;obtain⟨k',q,rfl,h4⟩:=iF h3;cases h4;rw [nL hx,(bY hs he hu).1,(bY hs he hu').1];refine cH ?_;simp only [V.inst,cE,ilt_eq];simp [Builtin.min_,Builtin.min2]
  ·cases h
theorem xL{t:TypeId}{q:Bool}(h:isIf t=some q)(hq:(!q)=true): ∃d,Ctx.P.underlying t=some d∧ ∀ms,d≠ .interface ms:=by
 obtain⟨d,hd,h1⟩:=bA h;refine⟨d,hd,fun ms e0=>?_⟩;subst e0;cases h1;cases hq
theorem pure_run(hs:Sim α s w)(he:EOk α s N e a){o:Oper}{v:V}(h:pureX o.op s e=some v):(execOp a.eval o).run Ctx.P w= .ok (.value (v.inst α)) w:=by
 unfold execOp;cases ho:o.op<;>rw [ho] at h<;>simp only
 case move x=>
  rw [(bY hs he (show evX x e=some v from h)).1];rfl
 case assign x=>
  rw [(bY hs he (show evX x e=some v from h)).1];rfl
 case pick c x y=>
  obtain⟨u,hu,h1⟩:=bA (show ob (evX c e) _=some v from h);obtain⟨t,rfl,h2⟩:=wO h1;rw [cE] at h2;rw [(bY hs he hu).1];cases t
  ·simp at h2;simp [V.inst,asBool,(bY hs he h2).1]
  ·simp at h2;simp [V.inst,asBool,(bY hs he h2).1]
 case binOp op t x y t'=>
  obtain⟨u,hu,h1⟩:=bA (show ob (evX x e) _=some v from h);obtain⟨u',hu',h2⟩:=bA h1;rw [(bY hs he hu).1,(bY hs he hu').1];exact cH (bin_run h2)
 case unOp op t x=>
  obtain⟨u,hu,h1⟩:=bA (show ob (evX x e) _=some v from h);rw [(bY hs he hu).1];refine cH ?_;cases op<;>try cases h1
  case neg=>
   obtain⟨k,z,rfl,h2⟩:=iF (show asI u _=some v from h1);cases h2;simp [Op.unary,Op.intArith,V.inst,sZ]
   congr 1
   exact(Int.zero_sub z).symm
  case not=>
   obtain⟨z,rfl,h2⟩:=wO (show asB u _=some v from h1);cases h2;simp [Op.unary,V.inst]
 case convert src d x=>
  obtain⟨u,hu,h1⟩:=bA (show ob (evX x e) _=some v from h);rw [(bY hs he hu).1];exact cH (conv_run hs h1)
 case extract x i=>
  obtain⟨u,hu,h1⟩:=bA (show ob (evX x e) _=some v from h);obtain⟨vs,rfl,h2⟩:=asT_some h1;rw [gP] at h2;rw [(bY hs he hu).1];refine cH ?_;rw [inst_t];simp [Instr.extract,List.getElem?_map,h2]
 case load t x=>
  obtain⟨u,hu,h1⟩:=bA (show ob (evX x e) _=some v from h);obtain⟨k,q,rfl,h2⟩:=jM h1;rw [(bY hs he hu).1];refine cH ?_;simp only [V.inst,Instr.loadAt,Instr.sureAddr,Sem.run_bind,Sem.run_pure,Result.andThen_ok,xM hs h2]
 case fieldAddr t x f=>
  obtain⟨fo,hf,h1⟩:=bA (show ob (fieldAt t f) _=some v from h);obtain⟨u,hu,h2⟩:=bA h1;obtain⟨k,q,rfl,h3⟩:=jM h2;cases h3;rw [(bY hs he hu).1];exact cH (yL hf)
 case field t x f=>
  obtain⟨⟨ft,fo⟩,hf,h1⟩:=bA (show ob (sH t f) _=some v from h);obtain⟨u,hu,h2⟩:=bA h1;obtain⟨cs,rfl,h3⟩:=pN h2;rw [(bY hs he hu).1];exact cH (field_run hf h3)
 case indexAddr t x i=>
  obtain⟨z,hz,h1⟩:=bA (show ob (evX i e) _=some v from h);obtain⟨k,n,rfl,h2⟩:=mE h1;obtain⟨q,hq,h3⟩:=bA h2;obtain⟨u,hu,h4⟩:=bA h3;rw [(bY hs he hz).1,(bY hs he hu).1];exact cH (yI hq h4)
 case index t x i=>
  obtain⟨z,hz,h1⟩:=bA (show ob (evX i e) _=some v from h);obtain⟨k,n,rfl,h2⟩:=mE h1;obtain⟨u,hu,h3⟩:=bA h2;rw [(bY hs he hz).1,(bY hs he hu).1];exact cH (index_run h3)
 case slice t x lo hi mx=>
  obtain⟨u,hu,h1⟩:=bA (show ob (evX x e) _=some v from h);rw [(bY hs he hu).1];exact cH (slice_run hs he h1)
 case nilCheck x=>
  obtain⟨u,hu,h1⟩:=bA (show ob (evX x e) _=some v from h);rw [(bY hs he hu).1]
  cases u with
  | p k q=>
   cases h1;rfl
  | f fn x y=>
   cases fn<;>cases h1
   rw [tR];rfl
  | _=>cases h1
 case makeFunc fn first cap=>
  obtain⟨x,hx,h1⟩:=bA (show ob (evsX first.toList e) _=some v from h);obtain⟨y,hy,h2⟩:=bA h1;cases h2;have e1:first.map a.eval=(x.map (V.inst α)).toArray:=by apply Array.ext';simpa using (qG hs he hx).1
  have e2:cap.map a.eval=(y.map (V.inst α)).toArray:=by apply Array.ext';simpa using (qG hs he hy).1
  rw [e1,e2,tR];rfl
 case makeInterface t x=>
  obtain⟨q,hq,h1⟩:=bA (show ob (isIf t) _=some v from h);obtain⟨h2,h3⟩:=bT h1;obtain⟨u,hu,h4⟩:=bA h3;cases h4;obtain⟨d,hd,hne⟩:=xL hq h2;rw [(bY hs he hu).1];refine cH ?_;unfold Instr.makeInterface;rw [Sem.run_bind,run_underlying hd,Result.andThen_ok];cases d<;>first | exact absurd rfl (hne _) | rfl
 case typeAssert x xt t ok=>
  obtain⟨q,hq,h1⟩:=bA (show ob (isIf t) _=some v from h);obtain⟨h2,h3⟩:=bT h1;obtain⟨u,hu,h4⟩:=bA h3;obtain⟨t',u',rfl,h5⟩:=asE_some h4;obtain⟨h6,h7⟩:=bT h5;cases h7;have h6:t'=t:=by simpa [Nat.beq_eq] using h6
  subst h6;obtain⟨d,hd,hne⟩:=xL hq h2;rw [(bY hs he hu).1];refine cH ?_;unfold Instr.typeAssert;rw [Sem.run_bind,run_underlying hd,Result.andThen_ok];cases d<;>first | exact absurd rfl (hne _) | (cases ok<;>simp [V.inst,cE,V.instL])
 case build t parts=>
  obtain⟨z,hz,h1⟩:=bA (show ob (zeroX t) _=some v from h);obtain⟨pl,hp,h2⟩:=bA h1;obtain⟨ps,hps,h3⟩:=bA h2;obtain⟨cs,hc,h4⟩:=bA h3;cases h4;exact cH (build_run hz hp hc (by simpa using (mN hs he hps).1))
 case call c=>
  obtain⟨callee,args,ts⟩:=c
  cases callee with
  | builtin b=>exact call_run hs he h o.type
  | _=>cases h
 case lookup t x ix ok=>
  obtain⟨⟨kt,et⟩,ht,h1⟩:=bA (show ob (xO t) _=some v from h);obtain⟨u,hu,h2⟩:=bA h1;obtain⟨k,hk,h3⟩:=bA h2;obtain⟨h4,h5⟩:=bT h3;obtain⟨es,hes,h6⟩:=bA h5;obtain⟨f,hf,h7⟩:=bA h6;rw [(bY hs he hu).1,(bY hs he hk).1];exact cH (lookup_run hs ht h4 hes hf h7)
 all_goals cases h
end
end X
end Go.Proofs.YtofjmphlpdhohaaGreatDoor
namespace Go.Proofs.YtofjmphlpdhohaaGreatDoor
namespace X
open Go.RowKit
def Blk.ro:Blk→Bool
 | .cells _ _ _ ro=>ro
 | .win _=>true
 | .know _=>true
 | _=>false
structure Fr (α:As) (s:St) (w w':World):Prop where
 os:w'.os=w.os
 tape:w'.tape=w.tape
 output:w'.output=w.output
 size:w.heap.size≤w'.heap.size
 block: ∀b,b<w.heap.size→(∀k x,s.h.get k=some x→x.ro=false→α.blk k≠b)→w'.heap[b]?=w.heap[b]?
section
variable [Ctx]
structure Stp (α:As) (s:St) (w:World) (α':As) (s':St) (w':World):Prop where
 same:jZ s.n s.c α α'
 n:s.n≤s'.n
 c:s.c≤s'.c
 sim:Sim α' s' w'
 fr:Fr α s w w'
 new: ∀k x,s'.h.get k=some x→(∃k0 x0,s.h.get k0=some x0∧(x.ro=false→x0.ro=false)∧α.blk k0=α'.blk k)∨w.heap.size≤α'.blk k
section
variable {α α' α'' : As} {s s' s'' : St} {w w' w'' : World}
theorem Blk.Is.ext{x:Blk}{n c r r':Nat}(hx:x.Sc n c)(hs:jZ n c α α')(hr:w'.heap[r']?=w.heap[r]?)(h:x.Is α w r):x.Is α' w' r':=by
 cases x with
 | cells cs t ext ro=>
  have hm:cs.map (V.inst α)=cs.map (V.inst α'):=List.map_congr_left fun v hv=>(hx.1 v hv).1.ext hs
  cases ext with
  | none=>
   show w'.heap[r']?=_;rw [hr,←hm];exact h
  | some k=>
   obtain⟨rest,h1,h2⟩:=h;refine⟨rest,?_,?_⟩
   ·rw [h1,hs.room k (hx.2 k rfl)]
   ·rw [hr,←hm];exact h2
 | map es clock=>
  have hm:es.map (entI α)=es.map (entI α'):=List.map_congr_left fun y hy=>by
   simp only [entI,(hx y hy).1.ext hs,(hx y hy).2.ext hs]
  show w'.heap[r']?=_;rw [hr,←hm];exact h
 | sit y pos=>
  show w'.heap[r']?=_;rw [hr];exact h
 | mit m since seen last=>
  have hm:m.map α.blk=m.map α'.blk:=by
   cases m with
   | none=>rfl
   | some k=>simp [hs.blk k (hx k rfl)]
  show w'.heap[r']?=_;rw [hr,←hm];exact h
 | win cs=>
  obtain⟨h1,h2⟩:=h;refine⟨?_,fun i v hi=>?_⟩
  ·have:w'.heap[r']?=some w.heap[r]:=by rw [hr];exact Array.getElem?_eq_getElem h1
   exact(Array.getElem?_eq_some_iff.1 this).1
  ·rw [←(hx v (List.mem_of_getElem? hi)).1.ext hs,←h2 i v hi];unfold World.cell?;simp only [hr]
 | know n=>
  obtain⟨o,h1,h2⟩:=h;exact⟨o,hr.trans h1,h2⟩
theorem Blk.Is.lt{x:Blk}{r:Nat}(h:x.Is α w r):r<w.heap.size:=by
 have key: ∀o:Obj,w.heap[r]?=some o→r<w.heap.size:=fun o ho=>(Array.getElem?_eq_some_iff.1 ho).1
 cases x with
 | cells cs t ext ro=>
  cases ext with
  | none=>exact key _ h
  | some k=>exact h.elim fun rest h=>key _ h.2
 | map es clock=>exact key _ h
 | sit y pos=>exact key _ h
 | mit m since seen last=>exact key _ h
 | win cs=>exact h.1
 | know n=>exact h.elim fun o h=>key _ h.1
omit [Ctx] in
theorem Blk.Sc.mono{x:Blk}{n c n' c':Nat}(h:x.Sc n c)(hn:n≤n')(hc:c≤c'):x.Sc n' c':=by
 cases x with
 | cells cs t ext ro=>exact⟨fun v hv=>⟨(h.1 v hv).1.mono hn hc,(h.1 v hv).2⟩,fun k hk=>Nat.lt_of_lt_of_le (h.2 k hk) hc⟩
 | map es clock=>exact fun y hy=>⟨(h y hy).1.mono hn hc,(h y hy).2.mono hn hc⟩
 | sit y pos=>trivial
 | mit m since seen last=>exact fun k hk=>Nat.lt_of_lt_of_le (h k hk) hn
 | win cs=>exact fun v hv=>⟨(h v hv).1.mono hn hc,(h v hv).2⟩
 | know n=>trivial
theorem Sim.grow(h:Sim α s w)(hb:Below w.heap.size w w'):Sim α s w':=
 ⟨h.gl,h.lt,h.sc,fun k x hk=>(h.is k x hk).ext (h.sc k x hk) (jZ.refl _ _ _) (hb.block _ (h.is k x hk).lt),h.ne⟩
omit [Ctx] in
theorem Fr.refl:Fr α s w w:=⟨rfl,rfl,rfl,Nat.le_refl _,fun _ _ _=>rfl⟩
theorem Stp.refl(h:Sim α s w):Stp α s w α s w:=⟨jZ.refl _ _ _,Nat.le_refl _,Nat.le_refl _,h,Fr.refl,fun k x hk=> .inl ⟨k,x,hk,id,rfl⟩⟩
theorem Stp.trans(h:Stp α s w α' s' w')(k:Stp α' s' w' α'' s'' w''):Stp α s w α'' s'' w'' where
 same:=h.same.trans k.same h.n h.c
 n:=Nat.le_trans h.n k.n
 c:=Nat.le_trans h.c k.c
 sim:=k.sim
 fr:=⟨k.fr.os.trans h.fr.os,k.fr.tape.trans h.fr.tape,k.fr.output.trans h.fr.output,Nat.le_trans h.fr.size k.fr.size,fun b hb hn=>by
  refine(k.fr.block b (Nat.lt_of_lt_of_le hb h.fr.size) fun i x hi hr e=>?_).trans (h.fr.block b hb hn)
  rcases h.new i x hi with ⟨k0,x0,h1,h2,h3⟩ | h1
  ·exact hn k0 x0 h1 (h2 hr) (h3.trans e)
  ·omega⟩
 new:=fun i x hi=>by
  rcases k.new i x hi with ⟨k0,x0,h1,h2,h3⟩ | h1
  ·rcases h.new k0 x0 h1 with ⟨k1,x1,h4,h5,h6⟩ | h4
   ·exact .inl ⟨k1,x1,h4,fun hr=>h5 (h2 hr),h6.trans h3⟩
   ·exact .inr (by rw [←h3];exact h4)
  ·exact .inr (Nat.le_trans h.fr.size h1)
theorem Stp.make(hs:Sim α s w)(M:Nat→Prop)(same:jZ s.n s.c α α')(hn:s.n≤s'.n)(hc:s.c≤s'.c)(ho:w'.os=w.os)(ht:w'.tape=w.tape)(hp:w'.output=w.output)(hz:w.heap.size≤w'.heap.size)
  (kept: ∀b,b<w.heap.size→ ¬M b→w'.heap[b]?=w.heap[b]?) (hM: ∀b,M b→b<w.heap.size→ ∃k x,s.h.get k=some x∧x.ro=false∧α.blk k=b)
  (old: ∀k x,s'.h.get k=some x→(s.h.get k=some x∧ ¬M (α.blk k))∨(k<s'.n∧x.Sc s'.n s'.c∧x.Is α' w' (α'.blk k)∧(w.heap.size≤α'.blk k∨ ∃k0 x0,s.h.get k0=some x0∧x0.ro=false∧α.blk k0=α'.blk k)))
  (ne: ∀k k' x x',s'.h.get k=some x→s'.h.get k'=some x'→α'.blk k=α'.blk k'→k=k'):Stp α s w α' s' w' where
 same:=same
 n:=hn
 c:=hc
 sim:=⟨fun g k hk=>by
   obtain⟨h1,h2⟩:=hs.gl g k hk
   exact⟨Nat.lt_of_lt_of_le h1 hn,by rw [←same.blk k h1];exact h2⟩,
  fun k x hk=>by
   rcases old k x hk with ⟨h1,_⟩ | h1
   ·exact Nat.lt_of_lt_of_le (hs.lt k x h1) hn
   ·exact h1.1,
  fun k x hk=>by
   rcases old k x hk with ⟨h1,_⟩ | h1
   ·exact(hs.sc k x h1).mono hn hc
   ·exact h1.2.1,
  fun k x hk=>by
   rcases old k x hk with ⟨h1,h2⟩ | h1
   ·have h3:=hs.is k x h1;rw [←same.blk k (hs.lt k x h1)];exact h3.ext (hs.sc k x h1) same (kept _ h3.lt h2)
   ·exact h1.2.2.1,
  ne⟩
 fr:=⟨ho,ht,hp,hz,fun b hb hnb=>kept b hb fun hm=>by
  obtain⟨k,x,h1,h2,h3⟩:=hM b hm hb
  exact hnb k x h1 h2 h3⟩
 new:=fun k x hk=>by
  rcases old k x hk with ⟨h1,_⟩ | h1
  ·exact .inl ⟨k,x,h1,id,same.blk k (hs.lt k x h1)⟩
  ·rcases h1.2.2.2 with h2 | ⟨k0,x0,h2,h3,h4⟩
   ·exact .inr h2
   ·exact .inl ⟨k0,x0,h2,fun _=>h3,h4⟩
omit [Ctx] in
theorem fL{t:T Blk}{v:Option Blk}{n j:Nat}{u:Blk}(h:(t.set v fuelT n).get j=some u):(j=n∧v=some u)∨(j≠n∧t.get j=some u):=T.get_set_fuel v fuelT t n j u h
def As.new(α:As)(n r c m:Nat):As:={α with blk:=fun k=>if k=n then r else α.blk k,room:=fun k=>if k=c then m else α.room k}
omit [Ctx] in
theorem jT(α:As)(n r c m:Nat):jZ n c α (α.new n r c m):=
 ⟨fun k hk=>by simp [As.new];omega,fun k hk=>by simp [As.new];omega,fun _ _=>rfl⟩
theorem Stp.alloc(hs:Sim α s w){x:Blk}{c' r m:Nat}(hw:Below w.heap.size w w')(hr:w.heap.size≤r)(hc:s.c≤c')(hx:x.Sc (s.n+1) c')(hi:x.Is (α.new s.n r s.c m) w' r):
  Stp α s w (α.new s.n r s.c m) {h:=s.h.set (some x) fuelT s.n,n:=s.n+1,c:=c'} w':=by
 have hb: ∀k y,s.h.get k=some y→(α.new s.n r s.c m).blk k=α.blk k∧α.blk k<w.heap.size:=fun k y hk=>by
  have:=hs.lt k y hk;refine⟨by simp [As.new];omega,(hs.is k y hk).lt⟩
 have hb0:(α.new s.n r s.c m).blk s.n=r:=by simp [As.new]
 refine Stp.make hs (fun _=>False) (jT _ _ _ _ _) (Nat.le_succ _) hc hw.os hw.tape hw.output hw.size (fun b hb _=>hw.block b hb) (fun _ h=>h.elim) (fun k y hk=>?_) (fun k k' y y' hk hk' e=>?_)
 ·rcases fL hk with ⟨rfl,e⟩ | ⟨_,h⟩
  ·injection e with e
   subst e;exact .inr ⟨Nat.lt_succ_self _,hx,by rw [hb0];exact hi,.inl (by rw [hb0];exact hr)⟩
  ·exact .inl ⟨h,fun h=>h⟩
 ·rcases fL hk with ⟨rfl,_⟩ | ⟨h1,h⟩<;>rcases fL hk' with ⟨rfl,_⟩ | ⟨h1',h'⟩
  ·rfl
  ·have:=hb k' y' h';rw [hb0] at e;omega
  ·have:=hb k y h;rw [hb0] at e;omega
  ·rw [(hb k y h).1,(hb k' y' h').1] at e;exact hs.ne k k' y y' h h' e
theorem Stp.put(hs:Sim α s w){k:Nat}{x0 x:Blk}(hk:s.h.get k=some x0)(hro:x0.ro=false)(ho:w'.os=w.os)(ht:w'.tape=w.tape)(hp:w'.output=w.output)(hz:w.heap.size≤w'.heap.size)
  (kept: ∀b,b<w.heap.size→b≠α.blk k→w'.heap[b]?=w.heap[b]?) (hx:x.Sc s.n s.c) (hi:x.Is α w' (α.blk k)):Stp α s w α (s.put k x) w':=by
 refine Stp.make hs (fun b=>b=α.blk k) (jZ.refl _ _ _) (Nat.le_refl _) (Nat.le_refl _) ho ht hp hz kept (fun b hb _=>⟨k,x0,hk,hro,hb.symm⟩) (fun j y hj=>?_) (fun j j' y y' hj hj' e=>?_)
 ·rcases fL hj with ⟨rfl,e⟩ | ⟨h1,h⟩
  ·injection e with e
   subst e;exact .inr ⟨hs.lt _ _ hk,hx,hi,.inr ⟨_,x0,hk,hro,rfl⟩⟩
  ·exact .inl ⟨h,fun e=>h1 (hs.ne j k y x0 h hk e)⟩
 ·rcases fL hj with ⟨rfl,_⟩ | ⟨h1,h⟩<;>rcases fL hj' with ⟨rfl,_⟩ | ⟨h1',h'⟩
  ·rfl
  ·exact hs.ne _ _ _ _ hk h' e
  ·exact hs.ne _ _ _ _ h hk e
  ·exact hs.ne _ _ _ _ h h' e
theorem Stp.drop(hs:Sim α s w){k:Nat}{x0:Blk}(hk:s.h.get k=some x0)(hro:x0.ro=false)(ho:w'.os=w.os)(ht:w'.tape=w.tape)(hp:w'.output=w.output)(hz:w.heap.size≤w'.heap.size)
  (kept: ∀b,b<w.heap.size→b≠α.blk k→w'.heap[b]?=w.heap[b]?):Stp α s w α (s.drop k) w':=by
 refine Stp.make hs (fun b=>b=α.blk k) (jZ.refl _ _ _) (Nat.le_refl _) (Nat.le_refl _) ho ht hp hz kept (fun b hb _=>⟨k,x0,hk,hro,hb.symm⟩) (fun j y hj=>?_) (fun j j' y y' hj hj' e=>?_)
 ·rcases fL hj with ⟨_,e⟩ | ⟨h1,h⟩
  ·cases e
  ·exact .inl ⟨h,fun e=>h1 (hs.ne j k y x0 h hk e)⟩
 ·rcases fL hj with ⟨_,e1⟩ | ⟨_,h⟩
  ·cases e1
  ·rcases fL hj' with ⟨_,e1⟩ | ⟨_,h'⟩
   ·cases e1
   ·exact hs.ne _ _ _ _ h h' e
theorem Stp.move(hs:Sim α s w){k m c':Nat}{x0 x:Blk}(hk:s.h.get k=some x0)(hro:x0.ro=false)(ho:w'.os=w.os)(ht:w'.tape=w.tape)(hp:w'.output=w.output)(hz:w.heap.size≤w'.heap.size)
  (kept: ∀b,b<w.heap.size→b≠α.blk k→w'.heap[b]?=w.heap[b]?) (hc:s.c≤c') (hx:x.Sc (s.n+1) c') (hi:x.Is (α.new s.n (α.blk k) s.c m) w' (α.blk k)):
  Stp α s w (α.new s.n (α.blk k) s.c m) {h:=(s.h.set none fuelT k).set (some x) fuelT s.n,n:=s.n+1,c:=c'} w':=by
 have hb: ∀j y,s.h.get j=some y→(α.new s.n (α.blk k) s.c m).blk j=α.blk j:=fun j y hj=>by
  have:=hs.lt j y hj;simp [As.new];omega
 have hb0:(α.new s.n (α.blk k) s.c m).blk s.n=α.blk k:=by simp [As.new]
 refine Stp.make hs (fun b=>b=α.blk k) (jT _ _ _ _ _) (Nat.le_succ _) hc ho ht hp hz kept (fun b hb _=>⟨k,x0,hk,hro,hb.symm⟩) (fun j y hj=>?_) (fun j j' y y' hj hj' e=>?_)
 ·rcases fL hj with ⟨rfl,e⟩ | ⟨_,h⟩
  ·injection e with e
   subst e;exact .inr ⟨Nat.lt_succ_self _,hx,by rw [hb0];exact hi,.inr ⟨k,x0,hk,hro,hb0.symm⟩⟩
  ·rcases fL h with ⟨_,e⟩ | ⟨h1,h⟩
   ·cases e
   ·exact .inl ⟨h,fun e=>h1 (hs.ne j k y x0 h hk e)⟩
 ·have two: ∀j y,(s.h.set none fuelT k).get j=some y→j≠k∧s.h.get j=some y:=fun j y h=>by
   rcases fL h with ⟨_,e⟩ | h
   ·cases e
   ·exact h
  rcases fL hj with ⟨rfl,_⟩ | ⟨_,h⟩<;>rcases fL hj' with ⟨rfl,_⟩ | ⟨_,h'⟩
  ·rfl
  ·obtain⟨h1,h2⟩:=two _ _ h';rw [hb0,hb _ _ h2] at e;exact absurd (hs.ne _ _ _ _ hk h2 e).symm h1
  ·obtain⟨h1,h2⟩:=two _ _ h;rw [hb0,hb _ _ h2] at e;exact absurd (hs.ne _ _ _ _ h2 hk e) h1
  ·obtain⟨_,h2⟩:=two _ _ h;obtain⟨_,h2'⟩:=two _ _ h';rw [hb _ _ h2,hb _ _ h2'] at e;exact hs.ne _ _ _ _ h2 h2' e
end
end
end X
end Go.Proofs.YtofjmphlpdhohaaGreatDoor
namespace Go.Proofs.YtofjmphlpdhohaaGreatDoor
namespace X
open Go.RowKit
theorem range_rep(z:List Value): ∀n:Nat,((Array.range (n*z.length)).map fun i=>z.toArray[i%z.length]!)=(lE n z).toArray:=by
 intro n;apply Array.ext';simp only [Array.toList_map,Array.toList_range];rw [vG]
 induction n with
 | zero=>simp
 | succ n ih=>
  rw [List.replicate_succ,List.flatten_cons,←ih,Nat.succ_mul,Nat.add_comm,List.range_add,List.map_append]
  congr 1
  ·apply List.ext_getElem
   ·simp
   ·intro i h1 h2;simp at h1;simp [Nat.mod_eq_of_lt h1,h1]
  ·simp [List.map_map,Function.comp_def]
section
variable [Ctx] {α : As} {s : St} {w : World} {N : Nat} {e : E} {a : Act}
theorem mT{t:TypeId}{z:V}(h:zeroX t=some z)(n c:Nat):z.Sc n c:=by
 obtain⟨i,_,h1⟩:=bA h;obtain⟨u,_,h2⟩:=bA h1;exact ofV_sc h2 n c
theorem nI(hs:Sim α s w){cs:List V}(t:TypeId)(hc: ∀v∈cs,v.Sc s.n s.c∧v.one=true): ∃α',Stp α s w α' (s.new (.cells cs t none false)) (w.alloc (.cells (cs.map (V.inst α)).toArray t))∧α'.blk s.n=w.heap.size:=by
 refine⟨α.new s.n w.heap.size s.c 0,Stp.alloc hs (c':=s.c) ((Below.refl _ _).alloc (Nat.le_refl _) _) (Nat.le_refl _) (Nat.le_refl _) ⟨fun v hv=>⟨(hc v hv).1.mono (Nat.le_succ _) (Nat.le_refl _),(hc v hv).2⟩,fun k hk=>by cases hk⟩ ?_,by simp [As.new]⟩;show(w.alloc _).heap[w.heap.size]?=_;rw [heap_alloc_new];have:cs.map (V.inst α)=cs.map (V.inst (α.new s.n w.heap.size s.c 0)):=List.map_congr_left fun v hv=>(hc v hv).1.ext (jT _ _ _ _ _);rw [this]
theorem new_obj(hs:Sim α s w){x:Blk}{o:Obj}(hx:x.Sc s.n s.c)(hi: ∀β w' r,w'.heap[r]?=some o→x.Is β w' r): ∃α',Stp α s w α' (s.new x) (w.alloc o)∧α'.blk s.n=w.heap.size:=by
 refine⟨α.new s.n w.heap.size s.c 0,Stp.alloc hs (c':=s.c) ((Below.refl _ _).alloc (Nat.le_refl _) _) (Nat.le_refl _) (Nat.le_refl _) (hx.mono (Nat.le_succ _) (Nat.le_refl _)) (hi _ _ _ (heap_alloc_new _ _)),by simp [As.new]⟩
def vE (o:Oper)(a:Act)(α:As)(s:St)(w:World):R→Prop
 | .v v s'=> ∃α' w',(execOp a.eval o).run Ctx.P w= .ok (.value (v.inst α')) w'∧Stp α s w α' s' w'
 | .sk s'=> ∃α' w',(execOp a.eval o).run Ctx.P w= .ok .skip w'∧Stp α s w α' s' w'
 | .call f args s'=>s'=s∧(execOp a.eval o).run Ctx.P w=(callFunc f (args.map (V.inst α)).toArray).run Ctx.P w∧ ∀v∈args,v.Sc s.n s.c
omit [Ctx] in
theorem sQ{P:Program}{S:Sem Unit}{w w':World}(h:S.run P w= .ok () w'):(do S;pure Next.skip:Sem Next).run P w= .ok .skip w':=by
 rw [Sem.run_bind,h];rfl
theorem nG(hs:Sim α s w){k o:Nat}{vs:List V}{s':St}(h:rT k o vs s=some s')(hv: ∀v∈vs,v.Sc s.n s.c)(h1: ∀v∈vs,v.one=true):
  ∃w',(storeCells ⟨α.blk k,o,none⟩ (vs.map (V.inst α))).run Ctx.P w= .ok () w'∧Stp α s w α s' w':=by
 obtain⟨x,hx,h2⟩:=bA h;obtain⟨cs,t,ext,ro,rfl,h3⟩:=pR h2;obtain⟨hro,h4⟩:=bT h3;obtain⟨cs',hc,h5⟩:=bA h4;cases h5;have hro:ro=false:=by simpa using hro
 subst hro;obtain⟨h6,h7⟩:=kY _ _ _ _ hc;obtain⟨rest,hr,h0⟩:=hs.cells hx
 have hst:=run_storeCells_at (P:=Ctx.P) (α.blk k) o t (vs.map (V.inst α)) 0 (cs.map (V.inst α)++rest).toArray w hr (by simp;omega) (fun u hu=>by
  obtain⟨v,hv,rfl⟩:=List.mem_map.1 hu
  exact one_inst α (h1 v hv))
 simp only [Nat.add_zero,List.length_map] at hst
 have hcells:((cs.map (V.inst α)++rest).toArray.toList.take o++vs.map (V.inst α)++(cs.map (V.inst α)++rest).toArray.toList.drop (o+vs.length))=cs'.map (V.inst α)++rest:=by
  rw [h7];simp only [List.map_append,List.map_take,List.map_drop];rw [List.take_append_of_le_length (by simp;omega),List.drop_append_of_le_length (by simp;omega)];simp
 rw [hcells] at hst;refine⟨_,hst,Stp.put hs hx rfl rfl rfl rfl (by simp) (fun b hb hne=>setRow_other _ _ _ _ hne) ⟨fun v hm=>?_,(hs.sc _ _ hx).2⟩ ?_⟩
 ·rw [h7] at hm
  rcases List.mem_append.1 hm with hm | hm
  ·rcases List.mem_append.1 hm with hm | hm
   ·exact(hs.sc _ _ hx).1 v (List.mem_of_mem_take hm)
   ·exact⟨hv v hm,h1 v hm⟩
  ·exact(hs.sc _ _ hx).1 v (List.mem_of_mem_drop hm)
 ·have hb:=setRow_heap w (α.blk k) _ (cs'.map (V.inst α)++rest).toArray t _ hr
  cases ext with
  | none=>
   have:=h0 rfl;subst this
   simpa [Blk.Is] using hb
  | some c=>
   obtain⟨rest',hl,hr'⟩:=hs.is _ _ hx;rw [hr] at hr';have:rest=rest':=by simpa using hr'
   subst this;exact⟨rest,hl,hb⟩
theorem src_run(hs:Sim α s w){sz n:Nat}{u:V}{news:List V}{tx:TypeId}(ht:(∃q,Ctx.P.underlying tx=some (.slice q))∨Ctx.P.underlying tx=some .string)(h:newsX sz u s=some (n,news)):
  Src Ctx.P sz tx (u.inst α) n (news.map (V.inst α)) w∧(∀v∈news,v.Sc s.n s.c∧v.one=true)∧news.length=n*sz:=by
 have hsD:Sim α s w.drew:=hs.grow ((Below.refl _ _).drew)
 have nil: ∀v:Value,(∀w':World,(Builtin.lenOf v).run Ctx.P w'= .ok 0 w')→(∀w':World,(Builtin.firstCells sz 0 v).run Ctx.P w'= .ok #[] w')→Src Ctx.P sz tx v 0 (([]:List V).map (V.inst α)) w∧(∀v∈([]:List V),v.Sc s.n s.c∧v.one=true)∧([]:List V).length=0*sz:=fun v h1 h2=>
  ⟨⟨ht,h1,h2 w,h2 w.drew,by simp,by simp⟩,by simp,by simp⟩
 cases u<;>try cases h
 case s x=>
  obtain⟨h1,h2⟩:=bT (show gd _ _=some (n,news) from h);cases h2;have h1:sz=1:=by simpa [Nat.beq_eq] using h1
  subst h1
  have hm:(x.map fun y=>V.i .u8 (.ofNat (y%256))).map (V.inst α)=byteCells (cA x):=by
   simp only [byteCells,cA,List.map_map];exact List.map_congr_left fun y _=>by simp [V.inst]
  have hsz:=jF x;refine⟨?_,fun v hv=>?_,by simp⟩
  ·rw [hm];refine⟨ht,fun _=>by simp [V.inst,Builtin.lenOf,hsz],?_,?_,by rw [byteCells_length,hsz,Nat.mul_one],fun u hu=>?_⟩
   ·have:=firstCells_string (P:=Ctx.P) (cA x) w;rw [hsz] at this;exact this
   ·have:=firstCells_string (P:=Ctx.P) (cA x) w.drew;rw [hsz] at this;exact this
   ·obtain⟨_,_,rfl⟩:=List.mem_map.1 hu;rfl
  ·obtain⟨y,_,rfl⟩:=List.mem_map.1 hv;exact⟨⟨1,by rw [gJ]⟩,rfl⟩
 case l0=>exact nil _ (fun _=>rfl) (fun _=>rfl)
 case z k o o' c=>exact nil _ (fun _=>rfl) (fun _=>by simp [V.inst,Builtin.firstCells,loadCells,loadCellsFrom])
 case y c=>exact nil _ (fun _=>rfl) (fun _=>by simp only [V.inst];cases α.place c<;>simp [Builtin.firstCells,loadCells,loadCellsFrom])
 case l k o m c=>
  obtain⟨cs,hc,h1⟩:=bA (show ob (uB s k o (m*sz)) _=some (n,news) from h);cases h1;obtain⟨h2,h3⟩:=kK hs hc;obtain⟨_,h3D⟩:=kK hsD hc
  have key: ∀w:World,(∀j v,news[j]?=some v→w.cell? ⟨α.blk k,o+j,none⟩=some (v.inst α))→(Builtin.firstCells sz n (.slice (some ⟨α.blk k,o,none⟩) n (c.inst α))).run Ctx.P w= .ok (news.map (V.inst α)).toArray w:=fun w h3=>by
   have:=run_loadCells_list (P:=Ctx.P) w ⟨α.blk k,o,none⟩ (news.map (V.inst α)) (fun j u hj=>by
    rw [List.getElem?_map] at hj
    cases hu:news[j]? with
    | none=>rw [hu] at hj;cases hj
    | some u'=>
     rw [hu] at hj;cases hj;rw [hI]
     exact h3 j u' hu)
   rw [List.length_map,h2] at this;exact this
  have hsc:=row_sc hs hc
  exact⟨⟨ht,fun _=>rfl,key w h3,key w.drew h3D,by rw [List.length_map,h2],fun u hu=>by
   obtain⟨v,hv,rfl⟩:=List.mem_map.1 hu
   exact one_inst α (hsc v hv).2⟩,hsc,h2⟩
theorem drop_stp(hs:Sim α s w){k:Nat}{x0:Blk}(hk:s.h.get k=some x0)(hro:x0.ro=false):Stp α s w α (s.drop k) w:=Stp.drop hs hk hro rfl rfl rfl (Nat.le_refl _) (fun _ _ _=>rfl)
section
variable {t t' ty el : TypeId} {i : TypeInfo} {z0 : Value}
theorem tL(hs:Sim α s w)(hu:Ctx.P.underlying t=some (.slice el))(hi:Ctx.P.info? el=some i)(hz0:i.zero=some z0)(hzc:z0.cells.size=i.size){base:Option Addr}{m cap n:Nat}{olds news:List V}{x:Value}
  (hold:(Builtin.firstCells i.size m (.slice base m cap)).run Ctx.P w.drew= .ok (olds.map (V.inst α)).toArray w.drew) (hsrc:Src Ctx.P i.size t' x n (news.map (V.inst α)) w)
  (ho: ∀v∈olds,v.Sc s.n s.c∧v.one=true) (hn: ∀v∈news,v.Sc s.n s.c∧v.one=true) (hg:cap<m+n) (h63:m+n≤pow47) (hb:(m+n)*i.bytes≤pow47):
  ∃α' w',(Builtin.append_ #[t,t'] ty #[.slice base m cap,x]).run Ctx.P w= .ok ((V.l s.n 0 (m+n) (.s s.c (m+n))).inst α') w'∧
   Stp α s w α' {h:=s.h.set (some (.cells (olds++news) el (some s.c) false)) fuelT s.n,n:=s.n+1,c:=s.c+1} w':=by
 have hr:=run_append_grow_src (P:=Ctx.P) w t t' ty el i z0 hu hi hz0 base m cap (olds.map (V.inst α)) hold x n (news.map (V.inst α)) hsrc hg (by simp only [pow47] at h63;omega) (growslice_fits hg hb);have hge:=grownCap_ge w (m+n) cap el;generalize grownCap w (m+n) cap el=C at hr hge
 have hnew: ∀v∈olds++news,v.Sc s.n s.c∧v.one=true:=fun v hv=>by
  rcases List.mem_append.1 hv with hv | hv
  ·exact ho v hv
  ·exact hn v hv
 have hbl:Below w.heap.size w (w.drew.alloc (.cells ((olds.map (V.inst α)++news.map (V.inst α)).toArray++Builtin.zeroCells z0.cells (C-(m+n))) el)):=(Below.refl _ _).drew.alloc (Nat.le_refl _) _;refine⟨α.new s.n w.heap.size s.c (C-(m+n)),_,?_,Stp.alloc hs (c':=s.c+1) hbl (Nat.le_refl _) (Nat.le_succ _) ⟨fun v hv=>⟨(hnew v hv).1.mono (Nat.le_succ _) (Nat.le_succ _),(hnew v hv).2⟩,fun k hk=>by cases hk;exact Nat.lt_succ_self _⟩ ?_⟩
 ·rw [hr];simp only [V.inst,Cap.inst,As.new,if_true]
  congr 2
  omega
 ·refine⟨(Builtin.zeroCells z0.cells (C-(m+n))).toList,?_,?_⟩
  ·simp only [Array.length_toList,size_zeroCells,hzc,As.new,if_true,Program.cellsOf,hi,Option.map_some,Option.getD_some]
  ·have hm:(olds++news).map (V.inst (α.new s.n w.heap.size s.c (C-(m+n))))=olds.map (V.inst α)++news.map (V.inst α):=by
    rw [←List.map_append];exact(List.map_congr_left fun v hv=>(hnew v hv).1.ext (jT _ _ _ _ _)).symm
   rw [hm];show(w.drew.alloc _).heap[w.drew.heap.size]?=_;rw [heap_alloc_new]
   congr 2
   apply Array.ext';simp
theorem nothing_run(hu:Ctx.P.underlying t=some (.slice el))(hi:Ctx.P.info? el=some i){base:Option Addr}{m cap:Nat}{x:Value}(hm:m≤cap)(hsrc:Src Ctx.P i.size t' x 0 [] w):
  (Builtin.append_ #[t,t'] ty #[.slice base m cap,x]).run Ctx.P w= .ok (.slice base m cap) w:=by
 rcases hsrc.kind with ⟨e',hk⟩ | hk<;>cases base<;>simp [Builtin.append_,run_underlying hu,run_underlying hk,sizeOf,typeInfo,hi,hsrc.len,hm,hsrc.cells,storeCells]
theorem append_run(hs:Sim α s w){sz by_:Nat}{u v z:V}{r:R}(hu:Ctx.P.underlying t=some (.slice el))(hsz:sizeX el=some sz)(hz:zeroX el=some z)(hzl:z.cells.length=sz)(hby:bytesOf el=some by_)
  (ht:(∃q,Ctx.P.underlying t'=some (.slice q))∨Ctx.P.underlying t'=some .string) (h:appendX el sz by_ u v s=some r):
  ∃α' w' x s',r= .v x s'∧(Builtin.append_ #[t,t'] ty #[u.inst α,v.inst α]).run Ctx.P w= .ok (x.inst α') w'∧Stp α s w α' s' w':=by
 obtain⟨i,hi,rfl⟩:=fW hsz
 obtain⟨i',hi',h1⟩:=bA hby
 obtain rfl:i=i':=Option.some.inj (hi.symm.trans hi');cases h1;obtain⟨i',hi',h1⟩:=bA hz;obtain rfl:i=i':=Option.some.inj (hi.symm.trans hi');obtain⟨z0,hz0,h2⟩:=bA h1
 have hzc:z0.cells.size=i.size:=by
  rw [←nD (α:=α) h2,fP,←hzl];simp
 clear h1 h2 hi';obtain⟨⟨n,news⟩,hn,h1⟩:=bA h;obtain⟨hsrc,hnews,hnl⟩:=src_run hs ht hn;have h1:apX el i.size i.bytes u n news s=some r:=h1
 have zero: ∀{base:Option Addr} {m cap:Nat},n=0→m≤cap→(Builtin.append_ #[t,t'] ty #[.slice base m cap,v.inst α]).run Ctx.P w= .ok (.slice base m cap) w:=fun{base m cap} hn0 hm=>by
  subst hn0;have:news=[]:=List.eq_nil_of_length_eq_zero (by simpa using hnl);subst this;exact nothing_run hu hi hm hsrc
 have hsD:Sim α s w.drew:=hs.grow ((Below.refl _ _).drew)
 have olds_of: ∀{k o m cap:Nat} {olds:List V},uB s k o (m*i.size)=some olds→(Builtin.firstCells i.size m (.slice (some ⟨α.blk k,o,none⟩) m cap)).run Ctx.P w.drew= .ok (olds.map (V.inst α)).toArray w.drew:=fun{k o m cap olds} ho=>by
  obtain⟨h2,h3⟩:=kK hsD ho
  have:=run_loadCells_list (P:=Ctx.P) w.drew ⟨α.blk k,o,none⟩ (olds.map (V.inst α)) (fun j u hj=>by
   rw [List.getElem?_map] at hj
   cases hu:olds[j]? with
   | none=>rw [hu] at hj;cases hj
   | some u'=>
    rw [hu] at hj;cases hj;rw [hI]
    exact h3 j u' hu)
  rw [List.length_map,h2] at this;exact this
 cases u with
 | l0=>
  have h1:sel (Nat.beq n 0) (some (R.v .l0 s)) (gd (Nat.ble n pow47&&Nat.ble (n*i.bytes) pow47) (some (wY el n news s)))=some r:=h1;rw [cE] at h1
  by_cases hn0:Nat.beq n 0=true
  ·rw [if_pos hn0] at h1;cases h1;exact⟨α,w,_,_,rfl,zero (by simpa [Nat.beq_eq] using hn0) (Nat.le_refl _),Stp.refl hs⟩
  ·rw [if_neg hn0] at h1;obtain⟨h2,h3⟩:=bT h1;cases h3;rw [Bool.and_eq_true] at h2;have hn0:n≠0:=fun e0=>hn0 (by rw [e0];rfl);obtain⟨α',w',h4,h5⟩:=tL (ty:=ty) (t:=t) (t':=t') hs hu hi hz0 hzc (base:=none) (m:=0) (cap:=0) (olds:=[]) rfl hsrc (by simp) hnews (by omega) (by simpa using dO h2.1) (by simpa using dO h2.2);simp only [Nat.zero_add,List.nil_append] at h4 h5;exact⟨α',w',_,_,rfl,h4,h5⟩
 | l k o m c=>
  have h1:apL el i.bytes i.size k o m n news c s=some r:=h1
  cases c with
  | n c=>
   have h1:sel (Nat.ble (m+n) c) (apFits k o m (.n c) i.size n news) (apGrows el i.bytes k o m i.size n news) s=some r:=h1;rw [cE] at h1
   by_cases hfit:Nat.ble (m+n) c=true
   ·rw [if_pos hfit] at h1;have hfit:=dO hfit;have h1:sel (Nat.beq n 0) (some (R.v (.l k o m (.n c)) s)) (ob (rT k (o+m*i.size) news s) fun s'=>some (.v (.l k o (m+n) (.n c)) s'))=some r:=h1;rw [cE] at h1
    by_cases hn0:Nat.beq n 0=true
    ·rw [if_pos hn0] at h1;cases h1;exact⟨α,w,_,_,rfl,zero (by simpa [Nat.beq_eq] using hn0) (show m≤c by omega),Stp.refl hs⟩
    ·rw [if_neg hn0] at h1;obtain⟨s',hst,h2⟩:=bA h1;cases h2;obtain⟨w',hw,hstp⟩:=nG hs hst (fun v hv=>(hnews v hv).1) (fun v hv=>(hnews v hv).2);refine⟨α,w',_,_,rfl,?_,hstp⟩;have hadd:(⟨α.blk k,o,none⟩:Addr).add (m*i.size)=⟨α.blk k,o+m*i.size,none⟩:=hI _ _ _
     rcases hsrc.kind with ⟨e',hk⟩ | hk<;>simp [Builtin.append_,run_underlying hu,run_underlying hk,sizeOf,typeInfo,hi,hsrc.len,hfit,hsrc.cells,V.inst,Cap.inst,hadd,hw]
   ·rw [if_neg hfit] at h1;obtain⟨h2,h3⟩:=bT (show gd _ _=some r from h1);obtain⟨olds,ho,h4⟩:=bA h3;cases h4;rw [Bool.and_eq_true] at h2
    have hlt:c<m+n:=by
     rcases Nat.lt_or_ge c (m+n) with hh | hh
     ·exact hh
     ·exact absurd (show Nat.ble (m+n) c=true by rw [Nat.ble_eq];exact hh) hfit
    obtain⟨α',w',h5,h6⟩:=tL (ty:=ty) (t:=t) (t':=t') hs hu hi hz0 hzc (base:=some ⟨α.blk k,o,none⟩) (m:=m) (cap:=c) (olds_of ho) hsrc (row_sc hs ho) hnews hlt (dO h2.1) (dO h2.2);exact⟨α',w',_,_,rfl,h5,h6⟩
  | s cn d=>
   have h1:sel (Nat.ble (m+n) d) (apFits k o m (.s cn d) i.size n news) (fun s=>gd (Nat.beq o 0) (apRow el i.bytes k m cn d i.size n news s)) s=some r:=h1;rw [cE] at h1
   by_cases hfit:Nat.ble (m+n) d=true
   ·rw [if_pos hfit] at h1;have hfit:=dO hfit;have hfit2:m+n≤d+α.room cn:=by omega
    have h1:sel (Nat.beq n 0) (some (R.v (.l k o m (.s cn d)) s)) (ob (rT k (o+m*i.size) news s) fun s'=>some (.v (.l k o (m+n) (.s cn d)) s'))=some r:=h1;rw [cE] at h1
    by_cases hn0:Nat.beq n 0=true
    ·rw [if_pos hn0] at h1;cases h1;exact⟨α,w,_,_,rfl,zero (by simpa [Nat.beq_eq] using hn0) (show m≤d+α.room cn by omega),Stp.refl hs⟩
    ·rw [if_neg hn0] at h1;obtain⟨s',hst,h2⟩:=bA h1;cases h2;obtain⟨w',hw,hstp⟩:=nG hs hst (fun v hv=>(hnews v hv).1) (fun v hv=>(hnews v hv).2);refine⟨α,w',_,_,rfl,?_,hstp⟩;have hadd:(⟨α.blk k,o,none⟩:Addr).add (m*i.size)=⟨α.blk k,o+m*i.size,none⟩:=hI _ _ _
     rcases hsrc.kind with ⟨e',hk⟩ | hk<;>simp [Builtin.append_,run_underlying hu,run_underlying hk,sizeOf,typeInfo,hi,hsrc.len,hfit2,hsrc.cells,V.inst,Cap.inst,hadd,hw]
   rw [if_neg hfit] at h1;obtain⟨ho0,h2⟩:=bT (show gd _ _=some r from h1);have ho0:o=0:=by simpa [Nat.beq_eq] using ho0
   subst ho0;obtain⟨x,hx,h3⟩:=bA h2;obtain⟨cs,el',ext,ro,rfl,h4⟩:=pR h3
   cases ext with
   | none=>cases h4
   | some cn'=>
    obtain⟨h5,h6⟩:=bT (show gd _ _=some r from h4);obtain⟨olds,holds,h7⟩:=bA h6;cases h7;simp only [Bool.and_eq_true,Bool.not_eq_true',Nat.beq_eq] at h5;obtain⟨hro,rfl,rfl,hd,hmd,h63,hb⟩:=h5;have hmd:=dO hmd
    have hrow:uB s k 0 (m*i.size)=some olds:=by
     show ob (s.h.get k) _=_;rw [hx];exact holds
    obtain⟨rest,hrl,hheap⟩:=hs.is _ _ hx;have hco:Ctx.P.cellsOf el=i.size:=by simp [Program.cellsOf,hi]
    rw [hco] at hrl;obtain⟨hoe,hol⟩:=iL _ _ _ _ holds;have holen:olds.length=m*i.size:=by rw [hoe];simp;omega
    have hosc:=row_sc hs hrow
    by_cases hroom:m+n≤d+α.room cn
    ·
     have htot:(cs.map (V.inst α)++rest).length=(d+α.room cn)*i.size:=by
      rw [List.length_append,List.length_map,hrl,←hd,Nat.add_mul]
     have hmn:(m+n)*i.size≤(d+α.room cn)*i.size:=Nat.mul_le_mul_right _ hroom
     have hle:0+m*i.size+(news.map (V.inst α)).length≤(cs.map (V.inst α)++rest).toArray.size:=by
      rw [List.size_toArray,htot,List.length_map,hnl,Nat.zero_add,←Nat.add_mul];exact hmn
     have hst:=run_storeCells_at (P:=Ctx.P) (α.blk k) (0+m*i.size) el (news.map (V.inst α)) 0 (cs.map (V.inst α)++rest).toArray w hheap (by simpa using hle) hsrc.one;simp only [Nat.add_zero,List.length_map] at hst;generalize hcs:((cs.map (V.inst α)++rest).toArray.toList.take (0+m*i.size)++news.map (V.inst α)++(cs.map (V.inst α)++rest).toArray.toList.drop (0+m*i.size+news.length))=L at hst;have hadd:(⟨α.blk k,0,none⟩:Addr).add (m*i.size)=⟨α.blk k,0+m*i.size,none⟩:=hI _ _ _;simp only [Nat.zero_add] at hst hadd;have hdc:(s.drop k).c=s.c:=rfl;have hdn:(s.drop k).n=s.n:=rfl
     have hrun:(Builtin.append_ #[t,t'] ty #[(V.l k 0 m (.s cn d)).inst α,v.inst α]).run Ctx.P w= .ok (.slice (some ⟨α.blk k,0,none⟩) (m+n) (d+α.room cn)) (w.setRow (α.blk k) L.toArray):=by
      rcases hsrc.kind with ⟨e',hk⟩ | hk<;>simp [Builtin.append_,run_underlying hu,run_underlying hk,sizeOf,typeInfo,hi,hsrc.len,hroom,hsrc.cells,V.inst,Cap.inst,hadd,hst]
     have hnew: ∀v∈olds++news,v.Sc s.n s.c∧v.one=true:=fun v hv=>by
      rcases List.mem_append.1 hv with hv | hv
      ·exact hosc v hv
      ·exact hnews v hv
     refine⟨α.new s.n (α.blk k) s.c (d+α.room cn-(m+n)),_,_,_,rfl,?_,Stp.move hs hx hro (w':=w.setRow (α.blk k) L.toArray) rfl rfl rfl (by simp) (fun b hb hne=>setRow_other _ _ _ _ hne) (Nat.le_succ _) ⟨fun v hv=>⟨(hnew v hv).1.mono (Nat.le_succ _) (Nat.le_succ _),(hnew v hv).2⟩,fun j hj=>by cases hj;exact Nat.lt_succ_self _⟩ ?_⟩
     ·rw [hrun];simp only [V.inst,Cap.inst,As.new,hdc,hdn,if_true]
      congr 2
      omega
     ·refine⟨(cs.map (V.inst α)++rest).drop (m*i.size+news.length),?_,?_⟩
      ·rw [List.length_drop,htot,hco,hnl,←Nat.add_mul,←Nat.sub_mul];simp [As.new,hdc]
      ·have hm:(olds++news).map (V.inst (α.new s.n (α.blk k) s.c (d+α.room cn-(m+n))))=olds.map (V.inst α)++news.map (V.inst α):=by
        rw [←List.map_append];exact(List.map_congr_left fun v hv=>(hnew v hv).1.ext (jT _ _ _ _ _)).symm
       rw [hm,setRow_heap w (α.blk k) _ L.toArray el _ hheap]
       congr 3
       rw [←hcs,hoe];simp only [Nat.zero_add,List.drop_zero,List.map_take];rw [List.take_append_of_le_length (by simp;omega)]
    ·obtain⟨α',w',h5,h6⟩:=tL (ty:=ty) (t:=t) (t':=t') (s:=s.drop k) (drop_stp hs hx hro).sim hu hi hz0 hzc (base:=some ⟨α.blk k,0,none⟩) (m:=m) (cap:=d+α.room cn) (olds_of hrow) hsrc hosc hnews (by omega) (dO h63) (dO hb);exact⟨α',w',_,_,rfl,h5,(drop_stp hs hx hro).trans h6⟩
 | _=>cases h1
end
end
end X
end Go.Proofs.YtofjmphlpdhohaaGreatDoor
namespace Go.Proofs.YtofjmphlpdhohaaGreatDoor
namespace X
open Go.RowKit
section
variable [Ctx] {α : As} {s : St} {w : World} {N : Nat} {e : E} {a : Act}
omit [Ctx] in
theorem all_one{l:List V}(h:allL V.one l=true): ∀v∈l,v.one=true:=by
 rw [fM,List.all_eq_true] at h;exact h
omit [Ctx] in
theorem fill_sc{P:V→Prop}{place:Nat→Option (Nat×Nat)}: ∀{l:List (Nat×V)} {cs r:List V},wZ place cs l=some r→(∀v∈cs,P v)→(∀x∈l,∀v∈x.2.cells,P v)→ ∀v∈r,P v
 | [],cs,r,h,hc,_=>by
  have h:some cs=some r:=h;cases h;exact hc
 | (i,u)::l,cs,r,h,hc,hl=>by
  obtain⟨⟨o,sz⟩,hp,h1⟩:=bA (show ob (place i) _=some r from h);obtain⟨_,h3⟩:=bT h1;obtain⟨cs',hcs,h4⟩:=bA h3;obtain⟨_,h6⟩:=kY _ _ _ _ hcs;refine fill_sc (l:=l) h4 (fun v hv=>?_) (fun x hx=>hl x (List.mem_cons_of_mem _ hx));rw [h6] at hv
  rcases List.mem_append.1 hv with hv | hv
  ·rcases List.mem_append.1 hv with hv | hv
   ·exact hc v (List.mem_of_mem_take hv)
   ·exact hl (i,u) (List.mem_cons_self ..) v hv
  ·exact hc v (List.mem_of_mem_drop hv)
omit [Ctx] in
theorem mP{n:Nat}{z:List V}{v:V}(h:v∈lE n z):v∈z:=by
 rw [vG,List.mem_flatten] at h;obtain⟨l,hl,hv⟩:=h;rw [(List.mem_replicate.1 hl).2] at hv;exact hv
omit [Ctx] in
theorem rep_map(n:Nat)(z:List V):(lE n z).map (V.inst α)=lE n (z.map (V.inst α)):=by
 rw [vG,vG];simp [List.map_flatten]
omit [Ctx] in
theorem pX{z:V}{sz:Nat}(hl:z.cells.length=sz)(n:Nat):((Array.range (n*sz)).map fun i=>((z.inst α).cells)[i%(z.inst α).cells.size]!)=((lE n z.cells).map (V.inst α)).toArray:=by
 rw [rep_map,←range_rep,fP];simp [hl]
theorem alloc_run(hs:Sim α s w){o:Oper}{t:TypeId}{r:R}(ho:o.op= .alloc t)(h:oAlloc t s e=some r):vE o a α s w r:=by
 obtain⟨z,hz,h1⟩:=bA h;obtain⟨h2,h3⟩:=bT h1;cases h3;obtain⟨α',hst,hb⟩:=nI hs t (fun v hv=>⟨(mT hz _ _).cells v hv,all_one h2 v hv⟩);refine⟨α',_,?_,hst⟩;unfold execOp;simp only [ho];refine cH ?_;simp only [Instr.alloc,Sem.run_bind,nK hz w α,Result.andThen_ok,newVar,newRow,run_newObj,Sem.run_pure,fP,V.inst,hb];rfl
theorem box_run(hs:Sim α s w)(he:EOk α s N e a){o:Oper}{t:TypeId}{x:Operand}{r:R}(ho:o.op= .box t x)(h:oBox t x s e=some r):vE o a α s w r:=by
 obtain⟨v,hv,h1⟩:=bA h;obtain⟨h2,h3⟩:=bT h1;cases h3;obtain⟨hx,hsc⟩:=bY hs he hv;obtain⟨α',hst,hb⟩:=nI hs t (fun u hu=>⟨hsc.cells u hu,all_one h2 u hu⟩);refine⟨α',_,?_,hst⟩;unfold execOp;simp only [ho,hx];refine cH ?_;simp only [Instr.box,Sem.run_bind,Result.andThen_ok,newVar,newRow,run_newObj,Sem.run_pure,fP,V.inst,hb];rfl
omit [Ctx] in
theorem repL_len{β:Type}(n:Nat)(z:List β):(lE n z).length=n*z.length:=by
 induction n with
 | zero=>show([]:List β).length=_;simp
 | succ n ih=>
  show(z++lE n z).length=_;rw [List.length_append,ih,Nat.succ_mul,Nat.add_comm]
theorem qC{t:TypeId}{z:V}(h:zeroX t=some z){i:TypeInfo}(hi:Ctx.P.info? t=some i):i.zero=some (z.inst α):=by
 obtain⟨j,hj,h1⟩:=bA h;obtain⟨u,hu,h2⟩:=bA h1;obtain rfl:i=j:=Option.some.inj (hi.symm.trans hj);rw [hu,nD (α:=α) h2]
theorem xV(hs:Sim α s w)(he:EOk α s N e a){o:Oper}{t:TypeId}{n:Nat}{parts:Array (Nat×Operand)}{r:R}(ho:o.op= .buildSlice t n parts)(h:mV t n parts s e=some r):vE o a α s w r:=by
 obtain⟨⟨q,el,sz⟩,hq,h1⟩:=bA h
 cases q with
 | some _=>cases h1
 | none=>
  obtain⟨z,hz,h2⟩:=bA (show ob (zeroX el) _=some r from h1);obtain⟨ps,hps,h3⟩:=bA h2;obtain⟨h4,h5⟩:=bT h3;obtain⟨cs,hc,h6⟩:=bA h5;obtain⟨h7,h8⟩:=bT h6;cases h8;rw [Bool.and_eq_true] at h4;obtain⟨hu,hsz⟩:=gQ hq;obtain⟨i,hi,rfl⟩:=fW hsz;obtain⟨hpe,hpsc⟩:=mN hs he hps;have hzl:z.cells.length=i.size:=by simpa [Nat.beq_eq] using h4.2
  have hle: ¬(n*i.size>2^24):=by have:=dO h4.1;simp at this⊢;omega
  have hsc: ∀v∈cs,v.Sc s.n s.c:=fill_sc hc (fun v hv=>(mT hz _ _).cells v (mP hv)) (fun x hx v hv=>(hpsc x hx).cells v hv);obtain⟨α',hst,hb⟩:=nI hs el (fun u hu=>⟨hsc u hu,all_one h7 u hu⟩);refine⟨α',_,?_,hst⟩;have hfill:=pI (α:=α) hc;unfold execOp;simp only [ho];refine cH ?_;have hparts:(parts.map fun(i,x)=>(i,a.eval x)).toList=ps.map fun x=>(x.1,x.2.inst α):=by simpa using hpe
  have hval:(V.l s.n 0 n (.n n)).inst α'= .slice (some ⟨w.heap.size,0,none⟩) n n:=by simp [V.inst,Cap.inst,hb]
  rw [hval]
  by_cases h0:n*i.size=0
  ·have hr:lE n z.cells=[]:=List.eq_nil_of_length_eq_zero (by rw [repL_len,hzl,h0]);rw [hr,←hparts] at hfill;simp only [List.map_nil] at hfill;unfold Instr.buildSlice;have hr0:Array.range 0= #[]:=rfl;have hle0: ¬((0:Nat)>2^24):=by decide
   simp only [Sem.run_bind,run_underlying hu,Result.andThen_ok,fQ hsz,h0,if_neg hle0,if_true,Sem.run_pure,hr0,Array.map_empty];rw [show(#[]:Array Value)=([]:List Value).toArray from rfl,hfill];simp only [Sem.run_bind,newRow,run_newObj,Result.andThen_ok,Sem.run_pure];rfl
  ·refine run_buildSlice w t el n _ _ i (z.inst α) hu hi (qC hz hi) hle h0 ?_;rw [hparts,pX hzl n];exact hfill
def vJ (g:Nat):Option Nat→Value
 | none=> .pointer (some ⟨g,0,none⟩)
 | some n=> .slice (some ⟨g,0,none⟩) n n
theorem bs_some{t:TypeId}{n:Nat}{parts:Array (Nat×Operand)}{b:TypeId×Option Nat×List V}(h:bsX (.buildSlice t n parts) e=some b):mV t n parts s e=some (.v (lateV s.n b.2.1) (s.new (.cells b.2.2 b.1 none false))):=by
 obtain⟨⟨q,el,sz⟩,hq,h1⟩:=bA h
 cases q with
 | some _=>cases h1
 | none=>
  obtain⟨z,hz,h2⟩:=bA (show ob (zeroX el) _=some b from h1);obtain⟨ps,hps,h3⟩:=bA h2;obtain⟨h4,h5⟩:=bT h3;obtain⟨cs,hc,h6⟩:=bA h5;obtain⟨h7,h8⟩:=bT h6;cases h8;unfold mV;rw [hq];show ob (zeroX el) _=_;rw [hz];show ob (partsX parts.toList e) _=_;rw [hps];show gd (Nat.ble (n*sz) 16777216&&Nat.beq z.cells.length sz) _=_;rw [h4];show ob (wZ (fun i=>some (i*sz,sz)) (lE n z.cells) ps) _=_;rw [hc];show gd (allL V.one cs) _=_;rw [h7];rfl
theorem build_alloc(hs:Sim α s w)(he:EOk α s N e a){o:Oper}{t:TypeId}{n:Nat}{parts:Array (Nat×Operand)}{b:TypeId×Option Nat×List V}(ho:o.op= .buildSlice t n parts)(h:bsX (.buildSlice t n parts) e=some b):
  (execOp a.eval o).run Ctx.P w= .ok (.value (vJ w.heap.size b.2.1)) (w.alloc (.cells (b.2.2.map (V.inst α)).toArray b.1))∧ ∀v∈b.2.2,v.Sc s.n s.c∧v.one=true:=by
 obtain⟨⟨q,el,sz⟩,hq,h1⟩:=bA h
 cases q with
 | some _=>cases h1
 | none=>
  obtain⟨z,hz,h2⟩:=bA (show ob (zeroX el) _=some b from h1);obtain⟨ps,hps,h3⟩:=bA h2;obtain⟨h4,h5⟩:=bT h3;obtain⟨cs,hc,h6⟩:=bA h5;obtain⟨h7,h8⟩:=bT h6;cases h8;rw [Bool.and_eq_true] at h4;obtain⟨hu,hsz⟩:=gQ hq;obtain⟨i,hi,rfl⟩:=fW hsz;obtain⟨hpe,hpsc⟩:=mN hs he hps;have hzl:z.cells.length=i.size:=by simpa [Nat.beq_eq] using h4.2
  have hle: ¬(n*i.size>2^24):=by have:=dO h4.1;simp at this⊢;omega
  have hsc: ∀v∈cs,v.Sc s.n s.c:=fill_sc hc (fun v hv=>(mT hz _ _).cells v (mP hv)) (fun x hx v hv=>(hpsc x hx).cells v hv);refine⟨?_,fun u hu=>⟨hsc u hu,all_one h7 u hu⟩⟩;have hfill:=pI (α:=α) hc;unfold execOp;simp only [ho];refine cH ?_;have hparts:(parts.map fun(i,x)=>(i,a.eval x)).toList=ps.map fun x=>(x.1,x.2.inst α):=by simpa using hpe
  by_cases h0:n*i.size=0
  ·have hr:lE n z.cells=[]:=List.eq_nil_of_length_eq_zero (by rw [repL_len,hzl,h0]);rw [hr,←hparts] at hfill;simp only [List.map_nil] at hfill;unfold Instr.buildSlice;have hr0:Array.range 0= #[]:=rfl;have hle0: ¬((0:Nat)>2^24):=by decide
   simp only [Sem.run_bind,run_underlying hu,Result.andThen_ok,fQ hsz,h0,if_neg hle0,if_true,Sem.run_pure,hr0,Array.map_empty];rw [show(#[]:Array Value)=([]:List Value).toArray from rfl,hfill];simp only [Sem.run_bind,newRow,run_newObj,Result.andThen_ok,Sem.run_pure];rfl
  ·refine run_buildSlice w t el n _ _ i (z.inst α) hu hi (qC hz hi) hle h0 ?_;rw [hparts,pX hzl n];exact hfill
theorem late_op{o:Op}{b:TypeId×Option Nat×List V}(h:bsX o e=some b):opX o s e=some (.v (lateV s.n b.2.1) (s.new (.cells b.2.2 b.1 none false))):=by
 cases o with
 | buildSlice t n parts=>exact bs_some h
 | alloc t=>
  obtain⟨z,hz,h1⟩:=bA h;obtain⟨h2,h3⟩:=bT h1;cases h3;show ob (zeroX t) _=_;rw [hz];show gd (allL V.one z.cells) _=_;rw [h2];rfl
 | box t x=>
  obtain⟨v,hv,h1⟩:=bA h;obtain⟨h2,h3⟩:=bT h1;cases h3;show ob (evX x e) _=_;rw [hv];show gd (allL V.one v.cells) _=_;rw [h2];rfl
 | _=>cases h
theorem late_alloc(hs:Sim α s w)(he:EOk α s N e a){o:Oper}{b:TypeId×Option Nat×List V}(h:bsX o.op e=some b):
  (execOp a.eval o).run Ctx.P w= .ok (.value (vJ w.heap.size b.2.1)) (w.alloc (.cells (b.2.2.map (V.inst α)).toArray b.1))∧ ∀v∈b.2.2,v.Sc s.n s.c∧v.one=true:=by
 cases ho:o.op with
 | buildSlice t n parts=>
  rw [ho] at h;exact build_alloc hs he ho h
 | alloc t=>
  rw [ho] at h;obtain⟨z,hz,h1⟩:=bA h;obtain⟨h2,h3⟩:=bT h1;cases h3;refine⟨?_,fun v hv=>⟨(mT hz _ _).cells v hv,all_one h2 v hv⟩⟩;unfold execOp;simp only [ho];refine cH ?_;simp only [Instr.alloc,Sem.run_bind,nK hz w α,Result.andThen_ok,newVar,newRow,run_newObj,Sem.run_pure,fP];rfl
 | box t x=>
  rw [ho] at h;obtain⟨v,hv,h1⟩:=bA h;obtain⟨h2,h3⟩:=bT h1;cases h3;obtain⟨hx,hsc⟩:=bY hs he hv;refine⟨?_,fun u hu=>⟨hsc.cells u hu,all_one h2 u hu⟩⟩;unfold execOp;simp only [ho,hx];refine cH ?_;simp only [Instr.box,Sem.run_bind,Result.andThen_ok,newVar,newRow,run_newObj,Sem.run_pure,fP];rfl
 | _=>rw [ho] at h;cases h
theorem storeOp_run(hs:Sim α s w)(he:EOk α s N e a){o:Oper}{t:TypeId}{x y:Operand}{r:R}(ho:o.op= .store t x y)(h:oStore t x y s e=some r):vE o a α s w r:=by
 obtain⟨u,hu,h1⟩:=bA h;obtain⟨k,q,rfl,h2⟩:=jM h1;obtain⟨v,hv,h3⟩:=bA h2;obtain⟨sz,hsz,h4⟩:=bA h3;obtain⟨h5,h6⟩:=bT h4;obtain⟨s',hst,h7⟩:=bA h6;cases h7;rw [Bool.and_eq_true] at h5;obtain⟨hx,hsc⟩:=bY hs he hv;obtain⟨w',hw,hstp⟩:=nG hs hst (fun v hm=>hsc.cells v hm) (all_one h5.2);refine⟨α,w',?_,hstp⟩;unfold execOp;simp only [ho];refine sQ ?_;have hl:(v.inst α).cells.size=sz:=by rw [fP];simpa [Nat.beq_eq] using h5.1
 have hne: ¬((v.inst α).cells.size≠sz):=by omega
 rw [(bY hs he hu).1,hx];simp only [V.inst,Instr.storeAt,Instr.sureAddr,Sem.run_bind,Sem.run_pure,Result.andThen_ok,storeVar,fQ hsz,if_neg hne];rw [fP];exact hw
theorem yH(hs:Sim α s w)(he:EOk α s N e a){o:Oper}{t:TypeId}{l c:Operand}{r:R}(ho:o.op= .makeSlice t l c)(h:xB t l c s e=some r):vE o a α s w r:=by
 obtain⟨⟨q,el,sz⟩,hq,h1⟩:=bA h
 cases q with
 | some _=>cases h1
 | none=>
  obtain⟨z,hz,h2⟩:=bA (show ob (zeroX el) _=some r from h1);obtain⟨by_,hby,h3⟩:=bA h2;obtain⟨u,hu,h4⟩:=bA h3;obtain⟨k,n,rfl,h5⟩:=mE h4;obtain⟨u',hu',h6⟩:=bA h5;obtain⟨k',m,rfl,h7⟩:=mE h6;obtain⟨h8,h9⟩:=bT h7;cases h9;simp only [Bool.and_eq_true] at h8;obtain⟨hnm,hroom,h63,hzl,h1c⟩:=h8;obtain⟨hu0,hsz⟩:=gQ hq;obtain⟨i,hi,rfl⟩:=fW hsz
  obtain⟨i',hi',hb'⟩:=bA hby
  obtain rfl:i=i':=Option.some.inj (hi.symm.trans hi');cases hb';have hzl:z.cells.length=i.size:=by simpa [Nat.beq_eq] using hzl
  have hnm:=dO hnm;have hroom:=dO hroom;have h63:m<9223372036854775808:=by simpa [Nat.blt_eq] using h63
  obtain⟨α',hst,hb⟩:=nI (cs:=lE m z.cells) hs el (fun u hu=>⟨(mT hz _ _).cells u (mP hu),all_one h1c u (mP hu)⟩);refine⟨α',_,?_,hst⟩;unfold execOp;simp only [ho];refine cH ?_;rw [(bY hs he hu).1,(bY hs he hu').1];have hval:(V.l s.n 0 n (.n m)).inst α'= .slice (some ⟨w.heap.size,0,none⟩) n m:=by simp [V.inst,Cap.inst,hb]
  rw [hval]
  have hrun:=run_make (P:=Ctx.P) w t el i (z.inst α) hu0 hi (qC hz hi) k k' (Int.ofNat n) (Int.ofNat m) (Int.natCast_nonneg n) (Int.ofNat_le.2 hnm) (by
   have:((i.bytes*m:Nat):Int)≤((pow47:Nat):Int):=Int.ofNat_le.2 hroom;rw [Int.natCast_mul] at this;simp only [pow47] at this;show(i.bytes:Int)*((m:Nat):Int)≤_
   omega) (by show((m:Nat):Int)≤_;omega)
  have em:madeCells (z.inst α).cells ((Int.ofNat m).toNat*i.size)=((lE m z.cells).map (V.inst α)).toArray:=pX hzl m;rw [em] at hrun;exact hrun
theorem makeMap_run(hs:Sim α s w)(he:EOk α s N e a){o:Oper}{t:TypeId}{x:Option Operand}{r:R}(ho:o.op= .makeMap t x)(h:oMakeMap t x s e=some r):vE o a α s w r:=by
 have key:r= .v (.m s.n) (s.new (.map [] 0))∧(Instr.makeMap t (x.map a.eval)).run Ctx.P w= .ok (.map (some w.heap.size)) (w.alloc (.map #[] 0)):=by
  cases x with
  | none=>
   cases h;exact⟨rfl,run_makeMap t w⟩
  | some x=>
   obtain⟨⟨kt,et⟩,hq,h1⟩:=bA (show ob (xO t) _=some r from h);obtain⟨u,hu,h2⟩:=bA h1;obtain⟨k,n,rfl,h3⟩:=iF h2;cases h3;refine⟨rfl,?_⟩;have hx:=(bY hs he hu).1;simp only [Option.map_some,hx,V.inst,Instr.makeMap,Sem.run_bind,run_underlying (wU hq),Result.andThen_ok,asInt,asIntOf,Sem.run_pure,run_newObj];rfl
 obtain⟨rfl,hrun⟩:=key;obtain⟨α',hst,hb⟩:=new_obj hs (x:= .map [] 0) (o:= .map #[] 0) (by intro y hy;cases hy) (fun β w' r h=>h);refine⟨α',_,?_,hst⟩;unfold execOp;simp only [ho];refine cH ?_;rw [hrun];simp [V.inst,hb]
theorem find_at{kt:TypeId}{k:V}(hk:oU kt k=true): ∀(es:List Ent) (i j:Nat) (v:V),sN kt k es i=some (some (j,v))→ ∃m x,j=i+m∧es[m]?=some x∧x.2.1=v∧x.1.inst α=k.inst α
 | [],_,_,_,h=>by cases h
 | x::es,i,j,v,h=>by
  obtain⟨c,hc,h1⟩:=bA (show ob (eqX 1 kt k x.1) _=some (some (j,v)) from h);rw [cE] at h1
  cases c with
  | true=>
   simp only [if_true,Option.some.injEq,Prod.mk.injEq] at h1;obtain⟨rfl,rfl⟩:=h1;refine⟨0,x,rfl,rfl,rfl,?_⟩;unfold oU at hk
   cases hd:Ctx.P.underlying kt with
   | none=>rw [hd] at hk;cases hk
   | some d=>
    rw [hd] at hk;simp only [eqX,hd] at hc
    cases d with
    | int kk=>
     cases k with
     | i k1 n1=>
      cases hx:x.1 with
      | i k2 n2=>
       rw [hx] at hc;obtain⟨h2,h3⟩:=bT (show gd (sameKind k1 k2) (some (ieq n1 n2))=some true from hc);injection h3 with h3
       rw [tJ] at h3;rw [iD h2,beq_iff_eq.1 h3]
      | _=>rw [hx] at hc;cases hc
     | _=>cases hk
    | string=>
     cases k with
     | s n1=>
      cases hx:x.1 with
      | s n2=>
       rw [hx] at hc;have hc:some (seq n1 n2)=some true:=hc;injection hc with hc
       rw [xC] at hc;have:=beq_iff_eq.1 hc;rw [ByteArray.toList_eq,ByteArray.toList_eq] at this;simp only [V.inst]
       congr 1
       apply ByteArray.ext;apply Array.ext';exact this.symm
      | _=>rw [hx] at hc;cases hc
     | _=>cases hk
    | _=>cases hk
  | false=>
   simp only [Bool.false_eq_true,if_false] at h1;obtain⟨m,y,h2,h3,h4,h5⟩:=find_at hk es (i+1) j v h1;exact⟨m+1,y,by omega,by simpa using h3,h4,h5⟩
theorem zT{kt:TypeId}{k:V}(hk:oU kt k=true):(Instr.keyThatStays (k.inst α) (k.inst α)).run Ctx.P w= .ok (k.inst α) w:=by
 unfold oU at hk
 cases hd:Ctx.P.underlying kt with
 | none=>rw [hd] at hk;cases hk
 | some d=>
  rw [hd] at hk
  cases d with
  | int kk=>
   cases k with
   | i k1 n1=>exact MapKept.run_keyThatStays (d:= .int k1) rfl
   | _=>cases hk
  | string=>
   cases k with
   | s n1=>exact MapKept.run_keyThatStays (d:= .string) trivial
   | _=>cases hk
  | _=>cases hk
theorem rN{t:TypeId}{m k:Operand}{f:Found}(hs:Sim α s w)(he:EOk α s N e a)(h:mapAt t m k s e=some f): ∃kt,Ctx.P.underlying t=some (.map kt f.et)∧a.eval m= .map (some (α.blk f.r))∧a.eval k=f.k.inst α∧f.k.Sc s.n s.c∧
  s.h.get f.r=some (.map f.es f.clock)∧oU kt f.k=true∧sN kt f.k f.es 0=some f.at_:=by
 obtain⟨⟨kt,et⟩,hq,h1⟩:=bA h;obtain⟨u,hu,h2⟩:=bA h1;obtain⟨r,rfl,h3⟩:=asM_some h2;obtain⟨kv,hk,h4⟩:=bA h3;obtain⟨x,hx,h5⟩:=bA h4;obtain⟨es,c,rfl,h6⟩:=oE h5;obtain⟨h7,h8⟩:=bT h6;obtain⟨g,hg,h9⟩:=bA h8;cases h9;have e1:=(bY hs he hu).1;exact⟨kt,wU hq,by rw [e1];rfl,(bY hs he hk).1,(bY hs he hk).2,hx,h7,hg⟩
theorem pT(hs:Sim α s w){k:Nat}{es:List Ent}{c:Nat}(hk:s.h.get k=some (.map es c)):w.heap[α.blk k]?=some (.map (es.map (entI α)).toArray c):=hs.is _ _ hk
theorem qB(hs:Sim α s w){k:Nat}{es es':List Ent}{c c':Nat}(hk:s.h.get k=some (.map es c))(hsc: ∀x∈es',x.1.Sc s.n s.c∧x.2.1.Sc s.n s.c):
  Stp α s w α (s.put k (.map es' c')) {w with heap:=w.heap.setIfInBounds (α.blk k) (.map (es'.map (entI α)).toArray c')}:=by
 have hb:=pT hs hk;have hlt:α.blk k<w.heap.size:=(Array.getElem?_eq_some_iff.1 hb).1;refine Stp.put hs hk rfl rfl rfl rfl (by simp) (fun b hb hne=>?_) hsc ?_
 ·simp [Ne.symm hne]
 ·show(w.heap.setIfInBounds (α.blk k) _)[α.blk k]?=_;simp [hlt]
omit [Ctx] in
theorem setV_map: ∀(es:List Ent) (i:Nat) (v:V),(es.map (entI α)).toArray.modify i (fun e=>{e with val:=v.inst α})=((setV es i v).map (entI α)).toArray:=by
 intro es i v;apply Array.ext';rw [Array.toList_modify]
 induction es generalizing i with
 | nil=>simp [setV]
 | cons x es ih=>
  obtain⟨k,u,b⟩:=x
  cases i with
  | zero=>simp [setV,entI]
  | succ i=>simpa [setV,entI] using ih i
omit [Ctx] in
theorem setV_sc{P:Ent→Prop}: ∀{es:List Ent} {i:Nat} {v:V},(∀x∈es,P x)→(∀x∈es,P (x.1,v,x.2.2))→ ∀x∈setV es i v,P x
 | [],_,_,_,_,x,hx=>by cases hx
 | (k,u,b)::es,0,v,h1,h2,x,hx=>by
  rcases List.mem_cons.1 hx with rfl | hx
  ·exact h2 _ (List.mem_cons_self ..)
  ·exact h1 _ (List.mem_cons_of_mem _ hx)
 | y::es,i+1,v,h1,h2,x,hx=>by
  rcases List.mem_cons.1 hx with rfl | hx
  ·exact h1 _ (List.mem_cons_self ..)
  ·exact setV_sc (fun z hz=>h1 z (List.mem_cons_of_mem _ hz)) (fun z hz=>h2 z (List.mem_cons_of_mem _ hz)) x hx
omit [Ctx] in
theorem xP{A:Array MapEntry}{i:Nat}{x:MapEntry}(hi:A[i]?=some x){g:MapEntry→MapEntry}:A.modify i (fun e=>{g e with key:=x.key})=A.modify i (fun e=>{g e with key:=e.key}):=by
 apply Array.ext (by simp);intro j h1 h2;simp only [Array.getElem_modify];split
 ·rename_i hij;subst hij;simp at h1;have:A[i]=x:=(Array.getElem?_eq_some_iff.1 hi).2;rw [this]
 ·rfl
theorem wK(hs:Sim α s w)(he:EOk α s N e a){t:TypeId}{m k x:Operand}{r:R}(h:wE t m k x s e=some r): ∃s' w',r= .sk s'∧(Instr.mapUpdate t (a.eval m) (a.eval k) (a.eval x)).run Ctx.P w= .ok () w'∧Stp α s w α s' w':=by
 obtain⟨f,hf,h1⟩:=bA h;obtain⟨v,hv,h2⟩:=bA h1;cases h2;obtain⟨kt,hu,hm,hk,hksc,hget,hok,hfind⟩:=rN hs he hf;obtain⟨hx,hvsc⟩:=bY hs he hv;have hb:=pT hs hget;have hsc:=hs.sc _ _ hget;have hfr:=sF (w:=w) (α:=α) hok hfind;rw [hm,hk,hx];rw [lY]
 cases ha:f.at_ with
 | none=>
  rw [ha] at hfr;refine⟨_,_,rfl,?_,qB hs hget (es':=f.es++[(f.k,v,f.clock)]) (c':=f.clock+1) (fun y hy=>?_)⟩
  ·simp only [Instr.mapUpdate,Sem.run_bind,run_underlying hu,MapKept.run_getObj_map hb,jC hok,hfr,Result.andThen_ok,Option.map_none,MapKept.run_setObj_map _ hb]
   congr 2
   simp [entI]
  ·rcases List.mem_append.1 hy with hy | hy
   ·exact hsc y hy
   ·rw [List.mem_singleton.1 hy];exact⟨hksc,hvsc⟩
 | some q=>
  rw [ha] at hfr;obtain⟨j,v0⟩:=q;rw [ha] at hfind;obtain⟨i,y,hj,hy,hv0,hkey⟩:=find_at (α:=α) hok _ _ _ _ hfind;rw [Nat.zero_add] at hj;subst hj;refine⟨_,_,rfl,?_,qB hs hget (es':=setV f.es j v) (c':=f.clock) (setV_sc hsc fun z hz=>⟨(hsc z hz).1,hvsc⟩)⟩;have hA:(f.es.map (entI α)).toArray[j]?=some (entI α y):=by simp [hy]
  have hst:(Instr.keyThatStays ((((f.es.map (entI α)).toArray[j]?).map (·.key)).getD (f.k.inst α)) (f.k.inst α)).run Ctx.P w= .ok (f.k.inst α) w:=by
   rw [hA];simp only [Option.map_some,Option.getD_some,entI,hkey];exact zT hok
  simp only [Instr.mapUpdate,Sem.run_bind,run_underlying hu,MapKept.run_getObj_map hb,jC hok,hfr,Result.andThen_ok,Option.map_some,hst,MapKept.run_setObj_map _ hb]
  congr 3
  have hk2:f.k.inst α=(entI α y).key:=by simp [entI,hkey]
  rw [hk2];have:=xP hA (g:=fun e=>{e with val:=v.inst α});simp only at this;rw [←setV_map,this]
theorem mapEntry_run(hs:Sim α s w)(he:EOk α s N e a){o:Oper}{t:TypeId}{m k:Operand}{r:R}(ho:o.op= .mapEntry t m k)(h:zW t m k s e=some r):vE o a α s w r:=by
 obtain⟨f,hf,h1⟩:=bA h;obtain⟨kt,hu,hm,hk,hksc,hget,hok,hfind⟩:=rN hs he hf;have hb:=pT hs hget;have hsc:=hs.sc _ _ hget;have hfr:=sF (w:=w) (α:=α) hok hfind;rw [lY] at h1
 have go: ∀v w',(Instr.mapEntry t (a.eval m) (a.eval k)).run Ctx.P w= .ok v w'→(execOp a.eval o).run Ctx.P w= .ok (.value v) w':=fun v w' hv=>by
  unfold execOp;simp only [ho];exact cH hv
 cases ha:f.at_ with
 | none=>
  rw [ha] at h1 hfr;obtain⟨z,hz,h2⟩:=bA (show ob (zeroX f.et) _=some r from h1);cases h2;refine⟨α,_,go _ _ ?_,qB hs hget (es':=f.es++[(f.k,z,f.clock)]) (c':=f.clock+1) (fun y hy=>?_)⟩
  ·rw [hm,hk];simp only [Instr.mapEntry,Sem.run_bind,run_underlying hu,MapKept.run_getObj_map hb,jC hok,hfr,Result.andThen_ok,Option.map_none,nK hz w α,MapKept.run_setObj_map _ hb,Sem.run_pure]
   congr 1
   simp [entI]
  ·rcases List.mem_append.1 hy with hy | hy
   ·exact hsc y hy
   ·rw [List.mem_singleton.1 hy];exact⟨hksc,mT hz _ _⟩
 | some q=>
  rw [ha] at h1 hfr hfind;obtain⟨j,v0⟩:=q;obtain⟨i,y,hj,hy,hv0,hkey⟩:=find_at (α:=α) hok _ _ _ _ hfind;rw [Nat.zero_add] at hj;subst hj;obtain⟨y',hy',h2⟩:=bA (show ob (nthL f.es j) _=some r from h1);cases h2;rw [gP,hy] at hy';injection hy' with hy'
  subst hy';refine⟨α,w,go _ _ ?_,Stp.refl hs⟩;have hA:(f.es.map (entI α)).toArray[j]?=some (entI α y):=by simp [hy]
  have hst:(Instr.keyThatStays (entI α y).key (f.k.inst α)).run Ctx.P w= .ok (f.k.inst α) w:=by
   rw [show(entI α y).key=f.k.inst α from hkey];exact zT hok
  have hsame:({w with heap:=w.heap.setIfInBounds (α.blk f.r) (.map ((f.es.map (entI α)).toArray.modify j fun e=>{e with key:=f.k.inst α}) f.clock)}:World)=w:=by
   have hk2:f.k.inst α=(entI α y).key:=by simp [entI,hkey]
   have e1:=xP hA (g:=fun e=>e);simp only at e1
   have e2:(f.es.map (entI α)).toArray.modify j (fun e=>{e with key:=e.key})=(f.es.map (entI α)).toArray:=by
    apply Array.ext (by simp);intro i h1 h2;simp only [Array.getElem_modify];split<;>rfl
   rw [hk2,e1,e2]
   have:w.heap.setIfInBounds (α.blk f.r) (.map (f.es.map (entI α)).toArray f.clock)=w.heap:=by
    apply Array.ext (by simp);intro i h1 h2;rw [Array.getElem_setIfInBounds];split
    ·rename_i hi;subst hi;exact(Array.getElem?_eq_some_iff.1 hb).2.symm
    ·rfl
   rw [this]
  rw [hm,hk];simp only [Instr.mapEntry,Sem.run_bind,run_underlying hu,MapKept.run_getObj_map hb,jC hok,hfr,Result.andThen_ok,Option.map_some,hst,MapKept.run_setObj_map _ hb,Sem.run_pure,hA,Option.getD_some];rw [hsame,inst_t];simp [V.inst,goInt,entI]
omit [Ctx] in
theorem vZ: ∀(es:List Ent) (j i r:Nat),findB es j i=some r→ ∃m,r=i+m∧m<es.length∧(es.map (entI α)).findIdx? (fun e=>(e.born:Int)==(j:Int))=some m
 | [],_,_,_,h=>by cases h
 | x::es,j,i,r,h=>by
  have h:sel (Nat.beq x.2.2 j) (some i) (findB es j (i+1))=some r:=h;rw [cE] at h
  by_cases hb:Nat.beq x.2.2 j=true
  ·rw [if_pos hb] at h;cases h;refine⟨0,rfl,by simp,?_⟩;have hb:x.2.2=j:=by simpa [Nat.beq_eq] using hb
   simp [List.findIdx?_cons,entI,hb]
  ·rw [if_neg hb] at h;obtain⟨m,h1,h2,h3⟩:=vZ es j (i+1) r h;have hb: ¬x.2.2=j:=by simpa [Nat.beq_eq] using hb
   have hb':((x.2.2:Int)==(j:Int))=false:=by
    rw [beq_eq_false_iff_ne];intro e0;exact hb (by exact_mod_cast e0)
   refine⟨m+1,by omega,by simp;omega,?_⟩;rw [List.map_cons,List.findIdx?_cons];simp only [entI,hb',Bool.false_eq_true,if_false];rw [h3];rfl
theorem wW(hs:Sim α s w)(he:EOk α s N e a){o:Oper}{t:TypeId}{m st x:Operand}{r:R}(ho:o.op= .entryStore t m st x)(h:uO m st x s e=some r):vE o a α s w r:=by
 obtain⟨u,hu,h1⟩:=bA h;obtain⟨k,rfl,h2⟩:=asM_some h1;obtain⟨b,hb,h3⟩:=bA h2;obtain⟨kk,n,rfl,h4⟩:=mE h3;obtain⟨v,hv,h5⟩:=bA h4;obtain⟨y,hy,h6⟩:=bA h5;obtain⟨es,c,rfl,h7⟩:=oE h6;obtain⟨i,hi,h8⟩:=bA h7;cases h8;obtain⟨hx,hvsc⟩:=bY hs he hv;have hbl:=pT hs hy;have hsc:=hs.sc _ _ hy;obtain⟨q,h9,h10,h11⟩:=vZ (α:=α) es n 0 i hi;rw [Nat.zero_add] at h9;subst h9;refine⟨α,_,?_,qB hs hy (es':=setV es i v) (c':=c) (setV_sc hsc fun z hz=>⟨(hsc z hz).1,hvsc⟩)⟩;unfold execOp;simp only [ho];refine sQ ?_;rw [(bY hs he hu).1,(bY hs he hb).1,hx]
 have hfi:(es.map (entI α)).toArray.findIdx? (fun e=>(e.born:Int)==Int.ofNat n)=some i:=by
  rw [List.findIdx?_toArray];exact h11
 simp only [V.inst,Instr.entryStore,Sem.run_bind,MapKept.run_getObj_map hbl,Result.andThen_ok,asInt,asIntOf,Sem.run_pure,hfi,MapKept.run_setObj_map _ hbl,setV_map]
theorem range_run(hs:Sim α s w)(he:EOk α s N e a){o:Oper}{t:TypeId}{x:Operand}{r:R}(ho:o.op= .range t x)(h:oRange t x s e=some r):vE o a α s w r:=by
 obtain⟨u,hu,h1⟩:=bA h;obtain⟨ht,h2⟩:=bT h1;obtain⟨y,rfl,h3⟩:=kU h2;cases h3;obtain⟨α',hst,hb⟩:=new_obj hs (x:= .sit y 0) (o:= .stringIter (cA y) 0) trivial (fun β w' r h=>h);refine⟨α',_,?_,hst⟩;unfold execOp;simp only [ho];refine cH ?_;rw [(bY hs he hu).1];have:=run_range_string (P:=Ctx.P) w t (cA y) (sK ht);simp only [V.inst];rw [this];simp [hb,World.iter]
theorem next_run(hs:Sim α s w)(he:EOk α s N e a){o:Oper}{it:Operand}{str:Bool}{r:R}(ho:o.op= .next it str)(h:oNext it str s e=some r):vE o a α s w r:=by
 obtain⟨hstr,h1⟩:=bT h;subst hstr;obtain⟨u,hu,h2⟩:=bA h1;obtain⟨k,q,rfl,h3⟩:=jM h2;obtain⟨hq,h4⟩:=bT h3;have hq:q=0:=by simpa [Nat.beq_eq] using hq
 subst hq;obtain⟨x,hx,h5⟩:=bA h4
 have go: ∀v w',(Instr.next (.pointer (some ⟨α.blk k,0,none⟩)) true o.type).run Ctx.P w= .ok v w'→(execOp a.eval o).run Ctx.P w= .ok (.value v) w':=fun v w' hv=>by
  unfold execOp;simp only [ho];rw [(bY hs he hu).1];exact cH hv
 cases x with
 | sit y p=>
  have h5:nxStr k y p s=some r:=h5;have hb:w.heap[α.blk k]?=some (.stringIter (cA y) p):=hs.is _ _ hx;unfold nxStr at h5;rw [cE] at h5
  by_cases hp:Nat.blt p y.length=true
  ·rw [if_pos hp] at h5;obtain⟨c,hc,h6⟩:=bA h5;cases h6;have hp:p<y.length:=by simpa [Nat.blt_eq] using hp
   obtain⟨b,hnb,h7⟩:=bA hc;obtain⟨h8,h9⟩:=bT h7;cases h9;have h8:b%256<128:=by simpa [Nat.blt_eq] using h8
   have hsz:p<(cA y).size:=by rw [jF];exact hp
   have eb:(cA y)[p]'hsz=UInt8.ofNat b:=by
    rw [gP] at hnb;have:y[p]=b:=(List.getElem?_eq_some_iff.1 hnb).2;simp [cA,ByteArray.getElem_eq_getElem_data,this]
   have en:((cA y)[p]'hsz).toNat=b%256:=by rw [eb];simp
   refine⟨α,_,go _ _ ?_,Stp.put hs hx (x:= .sit y (p+1)) (w':=w.iterAt (α.blk k) (cA y) (p+1)) rfl rfl rfl rfl (Nat.le_of_eq (Go.Lib.iterAt_size _ _ _ _).symm) (fun b hb hne=>Go.Lib.iterAt_other _ _ _ _ _ hne) trivial (Go.Lib.iterAt_heap _ _ _ _ _ hb)⟩;rw [Go.Lib.run_next_ascii_at w (α.blk k) (cA y) p o.type hb hsz (by rw [en];exact h8),en,inst_t];simp [V.inst]
  ·rw [if_neg hp] at h5;cases h5;have hp: ¬p<y.length:=by simpa [Nat.blt_eq] using hp
   refine⟨α,w,go _ _ ?_,Stp.refl hs⟩;rw [Go.Lib.run_next_end_at w (α.blk k) (cA y) p o.type hb (by rw [jF];exact hp),inst_t];simp [V.inst]
 | _=>cases h5
omit [Ctx] in
theorem sL{args:List Operand}{ts:List TypeId}{f:Operand→Operand→TypeId→TypeId→St→E→Option R}{r:R}(h:two args ts f s e=some r): ∃x y t t',args=[x,y]∧ts=[t,t']∧f x y t t' s e=some r:=by
 unfold two at h;split at h
 ·exact⟨_,_,_,_,rfl,rfl,h⟩
 ·cases h
omit [Ctx] in
theorem ts_two{ts:Array TypeId}{t t':TypeId}(h:ts.toList=[t,t']):ts= #[t,t']:=by
 apply Array.ext'
 simpa using h
theorem ustr_run(hs:Sim α s w)(he:EOk α s N e a){x y:Operand}{t t' ty:TypeId}{r:R}(h:vR x y t s e=some r): ∃v s' w',r= .v v s'∧(Builtin.unsafeString_ #[t,t'] ty #[a.eval x,a.eval y]).run Ctx.P w= .ok (v.inst α) w'∧Stp α s w α s' w':=by
 obtain⟨u,hu,h1⟩:=bA h;obtain⟨v,hv,h2⟩:=bA h1;rw [(bY hs he hu).1,(bY hs he hv).1]
 have hn: ∃n,v= .i .i64 (.ofNat n)∧sel (Nat.beq n 0) (usNil u s) (asP u fun k o=>gd (Nat.beq o 0) (ob (ptrTo t) fun q=>ob (sizeX q) fun z=>gd (Nat.beq z 1) (ustrX q k n s)))=some r:=by
  unfold asN6 at h2;split at h2
  ·exact⟨_,rfl,h2⟩
  ·cases h2
 obtain⟨n,rfl,h3⟩:=hn;rw [cE] at h3
 by_cases h0:Nat.beq n 0=true
 ·rw [if_pos h0] at h3;have h0:n=0:=by simpa [Nat.beq_eq] using h0
  subst h0
  cases u with
  | p0=>
   cases h3;exact⟨_,_,w,rfl,Go.Lib.run_unsafeString_none (P:=Ctx.P) w t t' ty none,Stp.refl hs⟩
  | p k o=>
   cases h3;exact⟨_,_,w,rfl,Go.Lib.run_unsafeString_none (P:=Ctx.P) w t t' ty (some ⟨α.blk k,o,none⟩),Stp.refl hs⟩
  | _=>cases h3
 ·rw [if_neg h0] at h3;have h0:n≠0:=fun e0=>h0 (by rw [e0];rfl);obtain⟨k,o,rfl,h4⟩:=jM h3;obtain⟨ho,h5⟩:=bT h4;have ho:o=0:=by simpa [Nat.beq_eq] using ho
  subst ho;obtain⟨q,hq,h6⟩:=bA h5;obtain⟨z,hz,h7⟩:=bA h6;obtain⟨hz1,h8⟩:=bT h7;have hz1:z=1:=by simpa [Nat.beq_eq] using hz1
  subst hz1;obtain⟨b,hb,h9⟩:=bA h8;obtain⟨cs,el,ext,ro,rfl,h10⟩:=pR h9;obtain⟨h11,h12⟩:=bT h10;simp only [Bool.and_eq_true,Bool.not_eq_true',Nat.beq_eq] at h11;obtain⟨hro,rfl,h8',hn47⟩:=h11;obtain⟨l,hl,h13⟩:=bA (show ob (cutL cs 0 n) _=some r from h12);obtain⟨xs,hxs,h14⟩:=bA h13;cases h14;obtain⟨e1,e2⟩:=iL _ _ _ _ hl;obtain⟨h15,h16⟩:=rX (α:=α) hxs;obtain⟨rest,hrest,_⟩:=hs.cells hb;have hshape:w.shape? (α.blk k)=some (q,(cs.map (V.inst α)++rest).length):=by simp [World.shape?,hrest]
  have hll:l.length=n:=by rw [e1];simp;omega
  have hlen:(xs.map UInt8.ofNat).length=n:=by rw [List.length_map,h16,hll]
  have hrun:=Go.Lib.run_unsafeString_row (P:=Ctx.P) w t t' ty q (ptrTo_eq hq) (wG hz) (α.blk k) (cs.map (V.inst α)++rest).length hshape (xs.map UInt8.ofNat) (fun e0=>h0 (by rw [←hlen,e0];rfl)) (by rw [hlen,List.length_append,List.length_map];omega) (by rw [hlen];have:=dO hn47;simp only [pow47] at this;omega) (fun j c hj=>by
   rw [hI]
   have hjl:j<l.length:=by
    have:=(List.getElem?_eq_some_iff.1 hj).1;rw [hlen] at this;omega
   obtain⟨lj,hlj⟩: ∃x,l[j]?=some x:=⟨_,List.getElem?_eq_getElem hjl⟩
   have hc:=hs.cell_of hb (i:=0+j) (v:=lj) (by
    have h17:=hlj;rw [e1,List.drop_zero,List.getElem?_take,if_pos (by omega)] at h17;rw [Nat.zero_add]
    exact h17)
   rw [hc];have h18:=congrArg (fun q:List Value=>q[j]?) h15;simp only [List.getElem?_map,hlj,Option.map_some] at h18;rw [h18];rw [List.getElem?_map] at hj
   cases hx:xs[j]? with
   | none=>rw [hx] at hj;cases hj
   | some x'=>
    rw [hx] at hj;cases hj
    rfl)
  rw [hlen] at hrun;refine⟨_,_,_,rfl,?_,Stp.drop hs hb hro (w':=w.freeze ⟨α.blk k,0,none⟩ n) ?_ ?_ ?_ ?_ (fun i hi hne=>?_)⟩
  ·simpa [V.inst,cA] using hrun
  ·unfold World.freeze;split<;>rfl
  ·unfold World.freeze;split<;>rfl
  ·unfold World.freeze;split<;>rfl
  ·unfold World.freeze;split<;>simp
  ·unfold World.freeze;split
   ·rfl
   ·simp only [Array.getElem?_modify];rw [if_neg (fun e0=>hne e0.symm)]
theorem append_op0(hs:Sim α s w)(he:EOk α s N e a){x y:Operand}{t t' ty:TypeId}{r:R}(h:oAppend0 x y t t' s e=some r): ∃α' w' v s',r= .v v s'∧(Builtin.append_ #[t,t'] ty #[a.eval x,a.eval y]).run Ctx.P w= .ok (v.inst α') w'∧Stp α s w α' s' w':=by
 obtain⟨ht,h1⟩:=bT h;obtain⟨⟨q,el,sz⟩,hq,h2⟩:=bA h1
 cases q with
 | some _=>cases h2
 | none=>
  obtain⟨z,hz,h3⟩:=bA (show ob (zeroX el) _=some r from h2);obtain⟨hzl,h4⟩:=bT h3;obtain⟨by_,hby,h5⟩:=bA h4;obtain⟨u,hu,h6⟩:=bA h5;obtain⟨v,hv,h7⟩:=bA h6;obtain⟨hu0,hsz⟩:=gQ hq;rw [(bY hs he hu).1,(bY hs he hv).1];refine append_run hs hu0 hsz hz (by simpa [Nat.beq_eq] using hzl) hby ?_ h7;rw [Bool.or_eq_true] at ht
  rcases ht with ht | ht
  ·unfold isSl at ht;split at ht
   ·exact .inl ⟨_,by assumption⟩
   ·cases ht
  ·exact .inr (sK ht)
theorem zeros_op(hs:Sim α s w)(he:EOk α s N e a){x y:Operand}{t t' ty:TypeId}{r:R}(hi':isIntT t'=true)(h:oZeros x y t s e=some r): ∃α' w' v s',r= .v v s'∧(Builtin.append_ #[t,t'] ty #[a.eval x,a.eval y]).run Ctx.P w= .ok (v.inst α') w'∧Stp α s w α' s' w':=by
 obtain⟨kn,hkn⟩: ∃kn,Ctx.P.underlying t'=some (.int kn):=by
  unfold isIntT at hi';split at hi'
  ·exact⟨_,by assumption⟩
  ·cases hi'
 obtain⟨⟨q,el,sz⟩,hq,h2⟩:=bA h
 cases q with
 | some _=>cases h2
 | none=>
  obtain⟨z,hz,h3⟩:=bA (show ob (zeroX el) _=some r from h2);obtain⟨by_,hby,h5⟩:=bA h3;obtain⟨u,hu,h6⟩:=bA h5;obtain⟨v,hv,h7⟩:=bA h6;obtain⟨k,n,rfl,h8⟩:=mE h7;obtain⟨h9,h10⟩:=bT h8;cases h10;simp only [Bool.and_eq_true] at h9;obtain⟨g1,g2,g3,g4,g5,g6,g7⟩:=h9;obtain⟨hu0,hsz⟩:=gQ hq;obtain⟨i,hi,rfl⟩:=fW hsz
  obtain⟨i',hi2,hb'⟩:=bA hby
  obtain rfl:i=i':=Option.some.inj (hi.symm.trans hi2);cases hb';have hu':u= .l0:=by cases u<;>first | rfl | cases g1
  subst hu';have g2:0<n:=by simpa [Nat.blt_eq] using g2
  have g3:0<i.size:=by simpa [Nat.blt_eq] using g3
  have g4:z.cells.length=i.size:=by simpa [Nat.beq_eq] using g4
  have g6:=dO g6;have g7:=dO g7;rw [(bY hs he hu).1,(bY hs he hv).1];have hr:=Lib.run_append_nil_zeros (P:=Ctx.P) w t t' ty el i (z.inst α) k kn hu0 hkn hi (qC hz hi) n g2 g3 (by simp only [pow47] at g6;omega) (by simp only [pow47] at g7;omega);have hge:=grownCap_ge w n 0 el;generalize grownCap w n 0 el=C at hr hge
  have hsc: ∀v∈lE n z.cells,v.Sc s.n s.c∧v.one=true:=fun v hv=>⟨(mT hz _ _).cells v (mP hv),all_one g5 v (mP hv)⟩
  have hzs:((z.inst α).cells).size=i.size:=by rw [fP,←g4];simp
  have hbl:Below w.heap.size w (w.drew.alloc (.cells (Builtin.zeroCells (z.inst α).cells n++Builtin.zeroCells (z.inst α).cells (C-n)) el)):=(Below.refl _ _).drew.alloc (Nat.le_refl _) _;refine⟨α.new s.n w.heap.size s.c (C-n),_,_,_,rfl,?_,Stp.alloc hs (c':=s.c+1) hbl (Nat.le_refl _) (Nat.le_succ _) ⟨fun v hv=>⟨(hsc v hv).1.mono (Nat.le_succ _) (Nat.le_succ _),(hsc v hv).2⟩,fun k hk=>by cases hk;exact Nat.lt_succ_self _⟩ ?_⟩
  ·show(Builtin.append_ #[t,t'] ty #[.slice none 0 0,.int k (n:Int)]).run Ctx.P w=_;rw [hr];simp only [V.inst,Cap.inst,As.new,if_true]
   congr 2
   omega
  ·refine⟨(Builtin.zeroCells (z.inst α).cells (C-n)).toList,?_,?_⟩
   ·simp only [Array.length_toList,size_zeroCells,hzs,As.new,if_true,Program.cellsOf,hi,Option.map_some,Option.getD_some]
   ·have hm:(lE n z.cells).map (V.inst (α.new s.n w.heap.size s.c (C-n)))=(lE n z.cells).map (V.inst α):=(List.map_congr_left fun v hv=>(hsc v hv).1.ext (jT _ _ _ _ _)).symm
    have hzc:(Builtin.zeroCells (z.inst α).cells n)=((lE n z.cells).map (V.inst α)).toArray:=by
     have e1:=pX (α:=α) g4 n;unfold Builtin.zeroCells;rw [hzs] at e1⊢;exact e1
    rw [hm];show(w.drew.alloc _).heap[w.drew.heap.size]?=_;rw [heap_alloc_new,hzc]
    congr 2
    apply Array.ext';simp
theorem append_op(hs:Sim α s w)(he:EOk α s N e a){x y:Operand}{t t' ty:TypeId}{r:R}(h:oAppend x y t t' s e=some r): ∃α' w' v s',r= .v v s'∧(Builtin.append_ #[t,t'] ty #[a.eval x,a.eval y]).run Ctx.P w= .ok (v.inst α') w'∧Stp α s w α' s' w':=by
 unfold oAppend at h;rw [cE] at h;split at h
 ·rename_i hi;exact zeros_op hs he hi h
 ·exact append_op0 hs he h
theorem bAb(hs:Sim α s w)(he:EOk α s N e a){f:Operand}{args:Array Operand}{ts:Array TypeId}{ty:TypeId}{r:R}(h:oCallV f args.toList s e=some r):
  ∃g vs,r= .call g vs s∧(do let d←resolve a.eval ⟨.value f,args,ts⟩ ty;invoke d.target d.args:Sem Next).run Ctx.P w=(callFunc g (vs.map (V.inst α)).toArray).run Ctx.P w∧ ∀v∈vs,v.Sc s.n s.c:=by
 obtain⟨u,hu,h1⟩:=bA h
 cases u with
 | f fn first cap=>
  cases fn with
  | func g=>
   obtain⟨vs,hvs,h2⟩:=bA (show ob (evsX args.toList e) _=some r from h1);cases h2;obtain⟨h3,h4⟩:=qG hs he hvs;obtain⟨h5,h6⟩:=bY hs he hu;have hargs:args.map a.eval=(vs.map (V.inst α)).toArray:=by apply Array.ext';simpa using h3
   refine⟨g,first++(vs++cap),rfl,?_,fun v hv=>?_⟩
   ·simp only [resolve,h5,tR,Deferred.ofValue,Sem.run_bind,Sem.run_pure,Result.andThen_ok,invoke,hargs]
    congr 1
    simp
   ·obtain⟨d,hd⟩:=h6
    cases d with
    | zero=>cases hd
    | succ d=>
     rw [gJ] at hd;simp only [Bool.and_eq_true,fM,List.all_eq_true] at hd
     rcases List.mem_append.1 hv with hv | hv
     ·exact⟨d,hd.1 v hv⟩
     ·rcases List.mem_append.1 hv with hv | hv
      ·exact h4 v hv
      ·exact⟨d,hd.2 v hv⟩
  | _=>cases h1
 | _=>cases h1
class Meths:Prop where
 ok: ∀t name f,Ctx.meth t name=some (f,none)→ ∀(v:Value) (w:World),(method (Ctx.P.types.size+Made.depth) t v name).run Ctx.P w= .ok (f,v) w
 deref: ∀t name f el,Ctx.meth t name=some (f,some el)→ ∀(b o:Nat) (r:Value) (w:World),(loadVar el ⟨b,o,none⟩).run Ctx.P w= .ok r w→(method (Ctx.P.types.size+Made.depth) t (.pointer (some ⟨b,o,none⟩)) name).run Ctx.P w= .ok (f,r) w
theorem invoke_run [Meths](hs:Sim α s w)(he:EOk α s N e a){x:Operand}{name:String}{args:Array Operand}{ts:Array TypeId}{ty:TypeId}{r:R}(h:oInvoke x name args.toList s e=some r):
  ∃g vs,r= .call g vs s∧(do let d←resolve a.eval ⟨.invoke x name,args,ts⟩ ty;invoke d.target d.args:Sem Next).run Ctx.P w=(callFunc g (vs.map (V.inst α)).toArray).run Ctx.P w∧ ∀v∈vs,v.Sc s.n s.c:=by
 obtain⟨u,hu,h1⟩:=bA h;obtain⟨t,v,rfl,h2⟩:=asE_some h1;obtain⟨⟨f,el⟩,hf,h3⟩:=bA h2;obtain⟨q,hq,h4⟩:=bA h3;obtain⟨vs,hvs,h5⟩:=bA h4;cases h5;obtain⟨h5,h6⟩:=bY hs he hu;obtain⟨h7,h8⟩:=qG hs he hvs;have hargs:args.map a.eval=(vs.map (V.inst α)).toArray:=by apply Array.ext';simpa using h7
 have hrecv:a.eval x= .iface t (v.inst α):=h5
 have hm:(method (Ctx.P.types.size+Made.depth) t (v.inst α) name).run Ctx.P w= .ok (f,q.inst α) w∧q.Sc s.n s.c:=by
  have hq:recvX el v s=some q:=hq;unfold recvX at hq;rw [lY] at hq
  cases el with
  | none=>
   cases hq;refine⟨Meths.ok t name f hf _ w,?_⟩;obtain⟨d,hd⟩:=h6
   cases d with
   | zero=>cases hd
   | succ d=>exact⟨d,hd⟩
  | some el=>
   obtain⟨k,o,rfl,h9⟩:=jM hq;obtain⟨r,hr,h10⟩:=bA h9;obtain⟨h11,h12⟩:=bT h10;cases h12;exact⟨Meths.deref t name f el hf _ _ _ w (xM hs hr),V.Sc.of h11⟩
 refine⟨f,q::vs,rfl,?_,fun y hy=>?_⟩
 ·have e0:(#[a.eval x]++args.map a.eval)[0]?=some (.iface t (v.inst α)):=by
   rw [Array.getElem?_append_left (by simp),hrecv];rfl
  have e1:(#[a.eval x]++args.map a.eval).extract 1 (#[a.eval x]++args.map a.eval).size=(vs.map (V.inst α)).toArray:=by
   rw [hargs];apply Array.ext';simp only [List.size_toArray,Array.size_append];simp [List.take_of_length_le]
  simp only [resolve,Sem.run_bind,Sem.run_pure,Result.andThen_ok,invoke,e0,e1,callMethod,run_program,hm.1]
  congr 1
  simp
 ·rcases List.mem_cons.1 hy with rfl | hy
  ·exact hm.2
  ·exact h8 y hy
omit [Ctx] in
theorem delE_map: ∀(es:List Ent) (i:Nat),((es.map (entI α)).toArray.eraseIdxIfInBounds i)=((delE es i).map (entI α)).toArray:=by
 intro es i;apply Array.ext';rw [Array.toList_eraseIdxIfInBounds]
 induction es generalizing i with
 | nil=>simp [delE]
 | cons x es ih=>
  cases i with
  | zero=>simp [delE]
  | succ i=>simpa [delE] using ih i
omit [Ctx] in
theorem delE_mem: ∀{es:List Ent} {i:Nat} {x:Ent},x∈delE es i→x∈es
 | [],_,_,h=>h
 | _::_,0,_,h=>List.mem_cons_of_mem _ h
 | y::es,i+1,x,h=>by
  rcases List.mem_cons.1 h with rfl | h
  ·exact List.mem_cons_self ..
  ·exact List.mem_cons_of_mem _ (delE_mem h)
omit [Ctx] in
theorem one1_some{args:List Operand}{ts:List TypeId}{f:Operand→TypeId→St→E→Option R}{r:R}(h:one1 args ts f s e=some r): ∃x t,args=[x]∧ts=[t]∧f x t s e=some r:=by
 unfold one1 at h;split at h
 ·exact⟨_,_,rfl,rfl,h⟩
 ·cases h
theorem delete_run(hs:Sim α s w)(he:EOk α s N e a){m k:Operand}{t t' ty:TypeId}{r:R}(h:oDelete m k t s e=some r): ∃v s' w',r= .v v s'∧(Builtin.delete_ #[t,t'] ty #[a.eval m,a.eval k]).run Ctx.P w= .ok (v.inst α) w'∧Stp α s w α s' w':=by
 obtain⟨f,hf,h1⟩:=bA h;cases h1;obtain⟨kt,hu,hm,hk,hksc,hget,hok,hfind⟩:=rN hs he hf;have hb:=pT hs hget;have hsc:=hs.sc _ _ hget;have hfr:=sF (w:=w) (α:=α) hok hfind;rw [hm,hk,lY];have hv:(V.t []).inst α= .tuple #[]:=by simp [inst_t]
 cases ha:f.at_ with
 | none=>
  rw [ha] at hfr;refine⟨_,_,_,rfl,?_,qB hs hget (es':=f.es) (c':=f.clock) hsc⟩;rw [hv];simp [Builtin.delete_,run_underlying hu,MapKept.run_getObj_map hb,jC hok,hfr,Result.andThen_ok,MapKept.run_setObj_map _ hb]
 | some q=>
  obtain⟨j,v0⟩:=q;rw [ha] at hfr;refine⟨_,_,_,rfl,?_,qB hs hget (es':=delE f.es j) (c':=f.clock) (fun x hx=>hsc x (delE_mem hx))⟩;rw [hv,←delE_map];simp [Builtin.delete_,run_underlying hu,MapKept.run_getObj_map hb,jC hok,hfr,Result.andThen_ok,MapKept.run_setObj_map _ hb]
theorem clear_run(hs:Sim α s w)(he:EOk α s N e a){x:Operand}{t ty:TypeId}{r:R}(h:oClear x t s e=some r): ∃v s' w',r= .v v s'∧(Builtin.clear_ #[t] ty #[a.eval x]).run Ctx.P w= .ok (v.inst α) w'∧Stp α s w α s' w':=by
 obtain⟨⟨q,el,sz⟩,hq,h1⟩:=bA h
 cases q with
 | some _=>cases h1
 | none=>
  obtain⟨u,hu,h2⟩:=bA (show ob (evX x e) _=some r from h1);obtain⟨hu0,hsz⟩:=gQ hq;rw [(bY hs he hu).1];have hv:(V.t []).inst α= .tuple #[]:=by simp [inst_t]
  have h2:clearV el sz u s=some r:=h2
  cases u with
  | l0=>
   cases h2;refine⟨_,_,w,rfl,?_,Stp.refl hs⟩;rw [hv];simp [Builtin.clear_,run_underlying hu0,V.inst]
  | z k o o' c=>
   cases h2;refine⟨_,_,w,rfl,?_,Stp.refl hs⟩;rw [hv];simp [Builtin.clear_,run_underlying hu0,V.inst]
  | l k o n c=>
   have h2:sel (Nat.beq n 0) (some (R.v (.t []) s)) (clearX el sz k o n s)=some r:=h2;rw [cE] at h2
   by_cases hn0:Nat.beq n 0=true
   ·rw [if_pos hn0] at h2;cases h2;have hn0:n=0:=by simpa [Nat.beq_eq] using hn0
    subst hn0;refine⟨_,_,w,rfl,?_,Stp.refl hs⟩;rw [hv];simp [Builtin.clear_,run_underlying hu0,V.inst]
   ·rw [if_neg hn0] at h2;have hn0:n≠0:=fun e0=>hn0 (by rw [e0];rfl);obtain⟨z,hz,h3⟩:=bA h2;obtain⟨h4,h5⟩:=bT h3;obtain⟨s',hst,h6⟩:=bA h5;cases h6;rw [Bool.and_eq_true] at h4;obtain⟨hzl,h1c⟩:=h4;have hzl:z.cells.length=sz:=by simpa [Nat.beq_eq] using hzl
    obtain⟨w',hw,hstp⟩:=nG hs hst (fun v hv=>(mT hz _ _).cells v (mP hv)) (fun v hv=>all_one h1c v (mP hv));refine⟨_,_,w',rfl,?_,hstp⟩;rw [hv]
    have hzc:(Builtin.zeroCells (z.inst α).cells n).toList=(lE n z.cells).map (V.inst α):=by
     have e1:=pX (α:=α) hzl n;have e2:(z.inst α).cells.size=sz:=by rw [fP,←hzl];simp
     unfold Builtin.zeroCells;rw [e2] at e1⊢;rw [e1]
    obtain⟨n,rfl⟩: ∃m,n=m+1:=⟨n-1,by omega⟩
    simp [Builtin.clear_,run_underlying hu0,V.inst,nK hz w α,hzc,hw]
  | _=>cases h2
theorem copy_run(hs:Sim α s w)(he:EOk α s N e a){x y:Operand}{t t' ty:TypeId}{r:R}(h:oCopy x y t s e=some r): ∃v s' w',r= .v v s'∧(Builtin.copy_ #[t,t'] ty #[a.eval x,a.eval y]).run Ctx.P w= .ok (v.inst α) w'∧Stp α s w α s' w':=by
 obtain⟨⟨q,el,sz⟩,hq,h1⟩:=bA h
 cases q with
 | some _=>cases h1
 | none=>
  obtain⟨u,hu,h2⟩:=bA (show ob (evX x e) _=some r from h1);obtain⟨v,hv,h3⟩:=bA h2;obtain⟨hu0,hsz⟩:=gQ hq;rw [(bY hs he hu).1,(bY hs he hv).1]
  cases u with
  | l k o m c=>
   have h3:copyX sz k o m v s=some r:=h3
   cases v with
   | l0=>
    cases h3;refine⟨_,_,w,rfl,?_,Stp.refl hs⟩;simp [Builtin.copy_,run_underlying hu0,V.inst,Builtin.lenOf,Builtin.firstCells,fQ hsz,storeCells,goInt]
   | l k' o' m' c'=>
    obtain⟨cs,hc,h4⟩:=bA (show ob (uB s k' o' ((Nat.min m' m)*sz)) _=some r from h3);obtain⟨s',hst,h5⟩:=bA h4;cases h5;have hsc:=row_sc hs hc;obtain⟨w',hw,hstp⟩:=nG hs hst (fun u hu=>(hsc u hu).1) (fun u hu=>(hsc u hu).2);refine⟨_,_,w',rfl,?_,hstp⟩;obtain⟨h6,h7⟩:=kK hs hc
    have hl:=run_loadCells_list (P:=Ctx.P) w ⟨α.blk k',o',none⟩ (cs.map (V.inst α)) (fun j u hj=>by
     rw [List.getElem?_map] at hj
     cases hu:cs[j]? with
     | none=>rw [hu] at hj;cases hj
     | some u'=>
      rw [hu] at hj;cases hj;rw [hI]
      exact h7 j u' hu)
    rw [List.length_map,h6] at hl;simp [Builtin.copy_,run_underlying hu0,V.inst,Builtin.lenOf,Builtin.firstCells,fQ hsz,hl,hw,goInt]
   | _=>cases h3
  | _=>cases h3
theorem builtin_run(hs:Sim α s w)(he:EOk α s N e a){b:Builtin}{args:Array Operand}{ts:Array TypeId}{ty:TypeId}{r:R}(h:oBuiltin b args.toList ts.toList s e=some r):
  ∃α' w' v s',r= .v v s'∧(do let d←resolve a.eval ⟨.builtin b,args,ts⟩ ty;invoke d.target d.args:Sem Next).run Ctx.P w= .ok (.value (v.inst α')) w'∧Stp α s w α' s' w':=by
 have other:(ob (pCall b args.toList ts.toList s e) fun v=>some (R.v v s))=some r→ ∃α' w' v s',r= .v v s'∧(do let d←resolve a.eval ⟨.builtin b,args,ts⟩ ty;invoke d.target d.args:Sem Next).run Ctx.P w= .ok (.value (v.inst α')) w'∧Stp α s w α' s' w':=fun h=>by
  obtain⟨v,hv,h1⟩:=bA h;cases h1;exact⟨α,w,v,s,rfl,call_run hs he hv ty,Stp.refl hs⟩
 cases b with
 | append=>
  obtain⟨x,y,t,t',h1,h2,h3⟩:=sL (show two args.toList ts.toList oAppend s e=some r from h);obtain⟨α',w',v,s',h4,h5,h6⟩:=append_op (t':=t') (ty:=ty) hs he h3;refine⟨α',w',v,s',h4,?_,h6⟩;rw [iH,nL h1,ts_two h2];exact cH h5
 | unsafeString=>
  obtain⟨x,y,t,t',h1,h2,h3⟩:=sL (show two args.toList ts.toList (fun x y t _=>vR x y t) s e=some r from h);obtain⟨v,s',w',h4,h5,h6⟩:=ustr_run (t':=t') (ty:=ty) hs he h3;refine⟨α,w',v,s',h4,?_,h6⟩;rw [iH,nL h1,ts_two h2];exact cH h5
 | delete=>
  obtain⟨x,y,t,t',h1,h2,h3⟩:=sL (show two args.toList ts.toList (fun m k t _=>oDelete m k t) s e=some r from h);obtain⟨v,s',w',h4,h5,h6⟩:=delete_run (t':=t') (ty:=ty) hs he h3;refine⟨α,w',v,s',h4,?_,h6⟩;rw [iH,nL h1,ts_two h2];exact cH h5
 | copy=>
  obtain⟨x,y,t,t',h1,h2,h3⟩:=sL (show two args.toList ts.toList (fun x y t _=>oCopy x y t) s e=some r from h);obtain⟨v,s',w',h4,h5,h6⟩:=copy_run (t':=t') (ty:=ty) hs he h3;refine⟨α,w',v,s',h4,?_,h6⟩;rw [iH,nL h1,ts_two h2];exact cH h5
 | clear=>
  obtain⟨x,t,h1,h2,h3⟩:=one1_some (show one1 args.toList ts.toList oClear s e=some r from h);obtain⟨v,s',w',h4,h5,h6⟩:=clear_run (ty:=ty) hs he h3;refine⟨α,w',v,s',h4,?_,h6⟩;have ets:ts= #[t]:=by apply Array.ext';simpa using h2
  rw [iH,vO h1,ets];exact cH h5
 | _=>exact other h
theorem oPure_run(hs:Sim α s w)(he:EOk α s N e a){o:Oper}{r:R}(h:oPure o.op s e=some r):vE o a α s w r:=by
 obtain⟨v,hv,h1⟩:=bA h;cases h1;exact⟨α,w,pure_run hs he hv,Stp.refl hs⟩
theorem op_run [Meths](hs:Sim α s w)(he:EOk α s N e a){o:Oper}{r:R}(h:opX o.op s e=some r):vE o a α s w r:=by
 cases ho:o.op with
 | alloc t=>rw [ho] at h;exact alloc_run (e:=e) hs ho h
 | box t x=>rw [ho] at h;exact box_run hs he ho h
 | buildSlice t n parts=>rw [ho] at h;exact xV hs he ho h
 | store t x y=>rw [ho] at h;exact storeOp_run hs he ho h
 | makeSlice t l c=>rw [ho] at h;exact yH hs he ho h
 | makeMap t x=>rw [ho] at h;exact makeMap_run hs he ho h
 | mapUpdate t m k x=>
  rw [ho] at h;obtain⟨s',w',rfl,h1,h2⟩:=wK hs he (show wE t m k x s e=some r from h);refine⟨α,w',?_,h2⟩;unfold execOp;simp only [ho];exact sQ h1
 | insert t m k x=>
  rw [ho] at h;obtain⟨s',w',rfl,h1,h2⟩:=wK hs he (show wE t m k x s e=some r from h);refine⟨α,w',?_,h2⟩;unfold execOp;simp only [ho];exact sQ h1
 | mapEntry t m k=>rw [ho] at h;exact mapEntry_run hs he ho h
 | entryStore t m k x=>rw [ho] at h;exact wW hs he ho h
 | range t x=>rw [ho] at h;exact range_run hs he ho h
 | next x str=>rw [ho] at h;exact next_run hs he ho h
 | call c=>
  rw [ho] at h;obtain⟨callee,args,ts⟩:=c
  cases callee with
  | builtin b=>
   obtain⟨α',w',v,s',rfl,h1,h2⟩:=builtin_run (ty:=o.type) hs he (show oBuiltin b args.toList ts.toList s e=some r from h);refine⟨α',w',?_,h2⟩;unfold execOp;simp only [ho];exact h1
  | value f=>
   obtain⟨g,vs,rfl,h1,h2⟩:=bAb (ts:=ts) (ty:=o.type) hs he (show oCallV f args.toList s e=some r from h);refine⟨rfl,?_,h2⟩;unfold execOp;simp only [ho];exact h1
  | invoke x name=>
   obtain⟨g,vs,rfl,h1,h2⟩:=invoke_run (ts:=ts) (ty:=o.type) hs he (show oInvoke x name args.toList s e=some r from h);refine⟨rfl,?_,h2⟩;unfold execOp;simp only [ho];exact h1
 | _=>exact oPure_run hs he (show oPure o.op s e=some r by rw [ho] at h⊢;exact h)
end
end X
end Go.Proofs.YtofjmphlpdhohaaGreatDoor
namespace Go.Proofs.YtofjmphlpdhohaaGreatDoor
namespace X
open Go.RowKit
section
variable {P : Program} {ops : Array Oper} {md : Region.Mode} {C : World → Prop} {R : Array Bool → Act → World → Prop}
def zJ (P:Program)(w:World)(v:Value):Result Next→Prop
 | .ok (.value u) w'=>w'=w∧u=v
 | .ok (.enter f args) w'=>w'=w∧Calls P f args w fun e w''=>e= .returned v∧Below w.heap.size w w''
 | _=>False
def looksAt(P:Program)(o:Oper)(a:Act)(C:World→Prop)(v:Value):Prop:= ∀w,C w→zJ P w v ((execOp a.eval o).run P w)
def Fq (P:Program)(ops:Array Oper)(C:World→Prop)(o:Oper)(v:Value)(a:Act):Prop:=
 (Region.wanted o (yielded ops a.tmps)=true∧looksAt P o a C v)∨(Region.wanted o (yielded ops a.tmps)=false∧v=undef)
theorem Fq.of_same{o:Oper}{v:Value}{a a':Act}(hy:Fq P ops C o v a)(he:execOp a'.eval o=execOp a.eval o)
  (hw:Region.wanted o (yielded ops a'.tmps)=Region.wanted o (yielded ops a.tmps)):Fq P ops C o v a':=by
 unfold Fq looksAt at*;rw [he,hw];exact hy
theorem Fq.fOp{i:Nat}{o:Oper}{v:Value}{a:Act}{w:World}(hi:ops[i]?=some o)(hy:Fq P ops C o v a)(hC:C w){K:Act→World→Prop}(h: ∀w',Below w.heap.size w w'→K (a.put o.dst v) w'):fOp P ops i K a w:=fun o' ho'=>by
 have:o'=o:=Option.some.inj (ho'.symm.trans hi);subst this;apply iR
 rcases hy with ⟨hw,hv⟩ | ⟨hw,rfl⟩
 ·simp only [hw,if_true];have h1:=hv w hC;unfold Oper.wp;generalize (execOp a.eval o').run P w=r at*
  cases r with
  | ok n w'=>
   cases n<;>simp only [zJ] at h1<;>simp only [Oper.upon]
   case value u=>
    obtain⟨rfl,rfl⟩:=h1;exact h _ (Below.refl _ _)
   case enter f args=>
    obtain⟨rfl,h2⟩:=h1
    exact h2.mono fun e w'' ⟨he,hb⟩=>by
     subst he;exact h _ hb
  | halt x w'=>exact h1.elim
 ·simp only [hw,Bool.false_eq_true,if_false];exact h _ (Below.refl _ _)
theorem fOp_putq{j:Nat}{oi oj:Oper}{v:Value}(hj:ops[j]?=some oj)(hap:oi.apart ops oj=true)
  (hsi: ∀cs b,oi.op≠ .select cs b) (hsj: ∀cs b,oj.op≠ .select cs b) {K:Act→World→Prop} {a:Act} {w:World}
  (hy:Fq P ops C oi v a) (h:fOp P ops j K (a.put oi.dst v) w):fOp P ops j (fun a' w'=>Fq P ops C oi v a'∧K (a'.put oi.dst v) w') a w:=fun o ho=>by
 have:o=oj:=Option.some.inj (ho.symm.trans hj);subst this;obtain⟨h1,h2,h3⟩:=Oper.apart_spec hap
 have keep: ∀(a:Act),Fq P ops C oi v a→ ∀u,Fq P ops C oi v (a.put o.dst u):=fun a hy u=>
  hy.of_same (execOp_put oi hsi a o.dst u h3) (wanted_put oi a o.dst u h3)
 have h:=wpNm (h o ho);rw [wanted_put o a oi.dst v h1] at h;apply iR;split
 ·rename_i hw;simp only [hw,if_true] at h;refine jS (execOp_put o hsj a oi.dst v h1).symm (fun u w' h'=>⟨keep a hy u,by rw [←Act.put_comm a v u h2];exact h'⟩) (fun d w' h'=>?_) h;refine⟨keep {a with defers:=d::a.defers} hy undef,?_⟩;rw [←Act.put_comm {a with defers:=d::a.defers} v undef h2]
  have:({a.put oi.dst v with defers:=d::(a.put oi.dst v).defers}:Act)=({a with defers:=d::a.defers}:Act).put oi.dst v:=by
   cases oi.dst<;>rfl
  rw [←this];exact h'
 ·rename_i hw;simp only [hw] at h;exact⟨keep a hy _,by rw [←Act.put_comm a v undef h2];exact h⟩
def mW (P:Program)(md:Region.Mode)(ops:Array Oper)(C:World→Prop)(R:Array Bool→Act→World→Prop):Nat→Array Bool→Act→World→Prop
 | 0,listed,a,w=> ∀w',Below w.heap.size w w'→C w'∧R listed a w'
 | fuel+1,listed,a,w=> ∀w',Below w.heap.size w w'→C w'∧Region.ready md ops listed≠[]∧ ∀i∈Region.ready md ops listed,fOp P ops i (mW P md ops C R fuel (listed.setIfInBounds i true)) a w'
theorem kV{a b c:World}(h:Below a.heap.size a b)(k:Below b.heap.size b c):Below a.heap.size a c:=h.trans (k.mono h.size)
theorem mW.grow: ∀{fuel:Nat} {listed:Array Bool} {a:Act} {w w':World},mW P md ops C R fuel listed a w→Below w.heap.size w w'→mW P md ops C R fuel listed a w'
 | 0,_,_,_,_,h,hb=>fun w'' hb'=>h w'' (kV hb hb')
 | _+1,_,_,_,_,h,hb=>fun w'' hb'=>h w'' (kV hb hb')
theorem nT{Q:Exit→Act→World→Prop}(m:Nat)(hR: ∀listed a w,R listed a w→wpAny P md ops Q m listed a w): ∀(fuel:Nat) (listed:Array Bool) (a:Act) (w:World),mW P md ops C R fuel listed a w→wpAny P md ops Q (fuel+m) listed a w
 | 0,listed,a,w,h=>by
  rw [Nat.zero_add];exact hR _ _ _ (h w (Below.refl _ _)).2
 | fuel+1,listed,a,w,h=>by
  rw [Nat.succ_add];obtain⟨_,h1,h2⟩:=h w (Below.refl _ _);refine⟨fun e=>absurd e h1,fun i hi=>?_⟩;have hf:=h2 i hi;unfold wpOp;split
  ·rename_i ho;obtain⟨_,oi,hoi,_⟩:=mem_ready.1 hi;rw [ho] at hoi;cases hoi
  ·rename_i o ho;have h1:=wpNm (hf o ho);split
   ·rename_i hw;simp only [hw,if_true] at h1;exact .inl (jS rfl (fun u w' h'=>nT m hR fuel _ _ _ h') (fun d w' h'=>nT m hR fuel _ _ _ h') h1)
   ·rename_i hw;simp only [hw] at h1;exact nT m hR fuel _ _ _ h1
theorem wpAnyG_first{i:Nat}{oi:Oper}{v:Value}(hi:ops[i]?=some oi)(hsel: ∀(j:Nat) (o:Oper) cs b,ops[j]?=some o→o.op≠ .select cs b)(hR: ∀listed a w,R listed a w→ ∀j∈Region.ready md ops listed,waits md ops j i=true):
  ∀(fuel:Nat) (listed:Array Bool) (a:Act) (w:World),iX md ops listed→
   (∀j oj,ops[j]?=some oj→j≠i→listed.getD j true=false→(∀e∈oj.after,Region.binds md e=true→e.on≠i)→oi.apart ops oj=true)→
   i∈Region.ready md ops listed→Fq P ops C oi v a→
   mW P md ops C R fuel (listed.setIfInBounds i true) (a.put oi.dst v) w→mW P md ops C R (fuel+1) listed a w:=by
 have hun: ∀{listed:Array Bool},i∈Region.ready md ops listed→listed.getD i false≠true:=fun{listed} hr e=>by
  have h0:=(mem_ready.1 hr).1
  rcases Nat.lt_or_ge i listed.size with h' | h'
  ·simp [h'] at h0 e;rw [h0] at e;cases e
  ·simp [Array.getElem?_eq_none h'] at e
 intro fuel
 induction fuel with
 | zero=>
  intro listed a w hc _ hr hy H w' hb;obtain⟨hC,hend⟩:=H w' hb;refine⟨hC,fun h=>(by rw [h] at hr;cases hr),fun j hj=>?_⟩
  by_cases hji:j=i
  ·subst hji;exact hy.fOp hi hC fun w'' hb'=>H.grow (kV hb hb')
  ·exact absurd hj (yN hc (hR _ _ _ hend j (ready_mono hj hji)) (hun hr))
 | succ fuel ih=>
  intro listed a w hc hfree hr hy H w' hb;obtain⟨hC,_,hall⟩:=H w' hb;refine⟨hC,fun h=>(by rw [h] at hr;cases hr),fun j hj=>?_⟩
  by_cases hji:j=i
  ·subst hji;exact hy.fOp hi hC fun w'' hb'=>H.grow (kV hb hb')
  ·have h1:=hall j (ready_mono hj hji);obtain⟨hjun,oj,hoj,hafter⟩:=mem_ready.1 hj
   have hnot: ∀e∈oj.after,Region.binds md e=true→e.on≠i:=fun e he hb heq=>by
    have h1:=hafter e he hb;rw [heq] at h1;exact hun hr h1
   have h2:=fOp_putq hoj (hfree j oj hoj hji hjun hnot) (fun cs b=>hsel i oi cs b hi) (fun cs b=>hsel j oj cs b hoj) hy h1;have hfree': ∀k ok,ops[k]?=some ok→k≠i→(listed.setIfInBounds j true).getD k true=false→
     (∀e∈ok.after,Region.binds md e=true→e.on≠i)→oi.apart ops ok=true:=fun k ok hk hki hun hno=>by
    refine hfree k ok hk hki ?_ hno
    by_cases hjk:j=k
    ·subst hjk;exact hjun
    ·rw [getD_set_ne true hjk] at hun;exact hun
   refine iP (fun a' w' h3=>ih (listed.setIfInBounds j true) a' w' (hc.set hj) hfree' (ready_mono hr (Ne.symm hji)) h3.1 ?_) h2;rw [Array.setIfInBounds_comm _ _ hji];exact h3.2
def rQ (P:Program)(ops:Array Oper)(C:World→Prop)(K:Act→World→Prop):List (Bool×Nat)→Act→World→Prop
 | [],a,w=> ∀w',Below w.heap.size w w'→C w'∧K a w'
 | (true,k)::r,a,w=> ∃o v,ops[k]?=some o∧Fq P ops C o v a∧rQ P ops C K r (a.put o.dst v) w
 | (false,k)::r,a,w=> ∀w',Below w.heap.size w w'→C w'∧(if k<4096 then fOp P ops k (fun a w=>rQ P ops C K r a w) a w'
   else fOp P ops (k%4096) (fun a w=> ∀w',Below w.heap.size w w'→C w'∧fOp P ops (k/4096-1) (fun a w=>rQ P ops C K r a w) a w') a w'∧
    fOp P ops (k/4096-1) (fun a w=> ∀w',Below w.heap.size w w'→C w'∧fOp P ops (k%4096) (fun a w=>rQ P ops C K r a w) a w') a w')
def wT (P:Program)(ops:Array Oper)(K:Act→World→Prop):List Nat→Act→World→Prop
 | [],a,w=>K a w
 | l::r,a,w=>fOp P ops l (wT P ops K r) a w
def EndT (P:Program)(md:Region.Mode)(ops:Array Oper)(Q:Exit→Act→World→Prop)(ls:List Nat)(listed:Array Bool)(a:Act)(w:World):Prop:=yU md ops ls listed=true∧wT P ops (Q .normal) ls a w
theorem sD{Q:Exit→Act→World→Prop}: ∀(ls:List Nat) (listed:Array Bool) (a:Act) (w:World),EndT P md ops Q ls listed a w→wpAny P md ops Q ls.length listed a w
 | [],listed,a,w,h=>⟨by simpa [yU] using h.1,h.2⟩
 | l::r,listed,a,w,h=>by
  obtain⟨h1,h2⟩:=h;simp only [yU,Bool.and_eq_true,beq_iff_eq] at h1;refine⟨fun e=>(by rw [h1.1] at e;cases e),fun i hi=>?_⟩;rw [h1.1] at hi;have:i=l:=by simpa using hi
  subst this;unfold wpOp;split
  ·rename_i ho;have hl:i∈Region.ready md ops listed:=by rw [h1.1];simp
   obtain⟨_,oi,hoi,_⟩:=mem_ready.1 hl;rw [ho] at hoi;cases hoi
  ·rename_i o ho;have h3:=wpNm (h2 o ho);split
   ·rename_i hw;simp only [hw,if_true] at h3;exact .inl (jS rfl (fun u w' h'=>sD r _ _ _ ⟨h1.2,h'⟩) (fun d w' h'=>sD r _ _ _ ⟨h1.2,h'⟩) h3)
   ·rename_i hw;simp only [hw] at h3;exact sD r _ _ _ ⟨h1.2,h3⟩
theorem zZ{j l:Nat}(h:wQ ops j l=true): ∃oj ol,ops[j]?=some oj∧ops[l]?=some ol∧lateO ol=true∧ol.apart ops oj=true∧j≠l:=by
 unfold wQ at h;rw [lY] at h
 cases hj:ops[j]? with
 | none=>rw [hj] at h;cases h
 | some oj=>
  rw [hj] at h;simp only at h;rw [lY] at h
  cases hl:ops[l]? with
  | none=>rw [hl] at h;cases h
  | some ol=>
   rw [hl] at h;simp only [Bool.and_eq_true,Bool.not_eq_true'] at h;refine⟨oj,ol,rfl,rfl,h.1,h.2.1,fun e=>?_⟩;rw [e,Nat.beq_refl] at h;cases h.2.2.2
theorem rU{j l:Nat}{listed:Array Bool}(h:pairB md ops j l listed=true):wQ ops j l=true∧Region.ready md ops listed≠[]∧(∀i∈Region.ready md ops listed,i=j∨i=l)∧j∈Region.ready md ops listed∧l∈Region.ready md ops listed∧Region.ready md ops (listed.setIfInBounds j true)=[l]∧Region.ready md ops (listed.setIfInBounds l true)=[j]:=by
 unfold pairB at h;simp only [Bool.and_eq_true,Bool.or_eq_true,beq_iff_eq] at h;obtain⟨h1,h2,h3,h4⟩:=h
 rcases h2 with h2 | h2
 ·refine⟨h1,by rw [h2];simp,fun i hi=>?_,by rw [h2];simp,by rw [h2];simp,h3,h4⟩;rw [h2] at hi
  simpa using hi
 ·refine⟨h1,by rw [h2];simp,fun i hi=>?_,by rw [h2];simp,by rw [h2];simp,h3,h4⟩;rw [h2] at hi;simp at hi;exact hi.symm
theorem wpAnyG_pair{j l n:Nat}{R:Array Bool→Act→World→Prop}{K:Act→World→Prop}{listed:Array Bool}{a:Act}{w':World}(hp:pairB md ops j l listed=true)
  (hk: ∀a w,K a w→mW P md ops C R n ((listed.setIfInBounds j true).setIfInBounds l true) a w)
  (h:C w'∧fOp P ops j (fun a w=> ∀w',Below w.heap.size w w'→C w'∧fOp P ops l K a w') a w'∧fOp P ops l (fun a w=> ∀w',Below w.heap.size w w'→C w'∧fOp P ops j K a w') a w'):
  C w'∧Region.ready md ops listed≠[]∧ ∀i∈Region.ready md ops listed,fOp P ops i (mW P md ops C R (n+1) (listed.setIfInBounds i true)) a w':=by
 obtain⟨hlate,hne,hall,_,_,r1,r2⟩:=rU hp;obtain⟨_,_,_,_,_,_,hjl⟩:=zZ hlate;obtain⟨hC,h1,h2⟩:=h;refine⟨hC,hne,fun i hi=>?_⟩
 rcases hall i hi with rfl | rfl
 ·refine iP (fun a1 w1 k1=>?_) h1;intro w2 hb2;obtain⟨c2,f2⟩:=k1 w2 hb2;refine⟨c2,by rw [r1];simp,fun m hm=>?_⟩;rw [r1] at hm;obtain rfl:m=l:=by simpa using hm
  exact iP hk f2
 ·refine iP (fun a1 w1 k1=>?_) h2;intro w2 hb2;obtain⟨c2,f2⟩:=k1 w2 hb2;refine⟨c2,by rw [r2];simp,fun m hm=>?_⟩;rw [r2] at hm;obtain rfl:m=j:=by simpa using hm
  rw [Array.setIfInBounds_comm _ _ (Ne.symm hjl)];exact iP hk f2
theorem pair_closed{j l:Nat}{listed:Array Bool}(hc:iX md ops listed)(hp:pairB md ops j l listed=true):iX md ops ((listed.setIfInBounds j true).setIfInBounds l true):=by
 obtain⟨_,_,_,hj,_,r1,_⟩:=rU hp;exact(hc.set hj).set (by rw [r1];simp)
theorem mM{Q:Exit→Act→World→Prop}{ls:List Nat}(hs:Region.noSelect ops=true): ∀(od:List (Bool×Nat)) (listed:Array Bool) (a:Act) (w:World),iX md ops listed→jK md ops ls od listed=true→rQ P ops C (wT P ops (Q .normal) ls) od a w→mW P md ops C (EndT P md ops Q ls) (yF od) listed a w
 | [],listed,a,w,_,hB,h=>fun w' hb=>⟨(h w' hb).1,hB,(h w' hb).2⟩
 | (true,k)::r,listed,a,w,hc,hB,h=>by
  simp only [jK,Bool.and_eq_true] at hB;obtain⟨o,v,ho,hy,hK⟩:=h
  exact wpAnyG_first ho (Region.noSelect_spec hs) (fun listed' _ _ h j hj=>by
   have h1:=h.1;have h2:=hB.2.2.1
   revert h1 h2
   cases ls with
   | nil=>
    intro h1 _;have h1:(Region.ready md ops listed').isEmpty=true:=h1;rw [List.isEmpty_iff.1 h1] at hj;cases hj
   | cons l ls=>
    intro h1 h2;simp only [yU,Bool.and_eq_true,beq_iff_eq] at h1;rw [h1.1] at hj;obtain rfl:j=l:=by simpa using hj
    exact h2) (yF r) listed a w hc (Region.free_spec ho hB.2.1) (by simpa using hB.1) hy (mM hs r _ _ _ (hc.set (by simpa using hB.1)) hB.2.2.2 hK)
 | (false,k)::r,listed,a,w,hc,hB,h=>by
  by_cases hk:k<4096
  ·simp only [jK,hk,if_true,Bool.and_eq_true,beq_iff_eq] at hB;simp only [yF,hk,if_true];intro w' hb;obtain⟨hC,hf⟩:=h w' hb;rw [if_pos hk] at hf;refine⟨hC,fun h0=>(by rw [hB.1] at h0;cases h0),fun i hi=>?_⟩;rw [hB.1] at hi;have:i=k:=by simpa using hi
   subst this;exact iP (fun a' w' h'=>mM hs r _ _ _ (hc.set (by rw [hB.1];simp)) hB.2 h') hf
  ·simp only [jK,hk,if_false,Bool.and_eq_true] at hB;simp only [yF,hk,if_false];intro w' hb;have hf:=h w' hb;rw [if_neg hk] at hf;exact wpAnyG_pair hB.1 (fun a1 w1 h1=>mM hs r _ _ _ (pair_closed hc hB.1) hB.2 h1) hf
theorem region_tail{Q:Exit→Act→World→Prop}{id:Nat}{ls:List Nat}{od:List (Bool×Nat)}{a:Act}{w:World}(hm:P.follows .mixedOrders=true)(hB:tK ls od ops=true)(h:rQ P ops C (wT P ops (Q .normal) ls) od a w.drew):(Code.region id ops true).wp P Q a w:=by
 simp only [tK,Bool.and_eq_true] at hB;refine wp_region_any hm ?_;have:=nT (P:=P) (md:= .any) (C:=C) (R:=EndT P .any ops Q ls) (Q:=Q) ls.length (sD ls) (yF od) (Array.replicate ops.size false) a _ (mM hB.1 od _ a _ iX.none hB.2.2 h);rw [Nat.eq_of_beq_eq_true hB.2.1] at this;exact this
theorem fOp_unput{j:Nat}{oi oj:Oper}{v:Value}(hj:ops[j]?=some oj)(hap:oi.apart ops oj=true)(hsj: ∀cs b,oj.op≠ .select cs b){K:Act→World→Prop}{a:Act}{w:World}
  (h:fOp P ops j (fun a' w'=>K (a'.put oi.dst v) w') a w):fOp P ops j K (a.put oi.dst v) w:=fun o ho=>by
 have:o=oj:=Option.some.inj (ho.symm.trans hj);subst this;obtain⟨h1,h2,h3⟩:=Oper.apart_spec hap;have h:=wpNm (h o ho);apply iR;rw [wanted_put o a oi.dst v h1];split
 ·rename_i hw;simp only [hw,if_true] at h;refine jS (execOp_put o hsj a oi.dst v h1) (fun u w' h'=>by rw [Act.put_comm a v u h2];exact h') (fun d w' h'=>?_) h;have h':K (({a with defers:=d::a.defers}.put o.dst undef).put oi.dst v) w':=h';rw [←Act.put_comm {a with defers:=d::a.defers} v undef h2] at h'
  have:({a.put oi.dst v with defers:=d::(a.put oi.dst v).defers}:Act)=({a with defers:=d::a.defers}:Act).put oi.dst v:=by
   cases oi.dst<;>rfl
  rw [this];exact h'
 ·rename_i hw;simp only [hw] at h;rw [Act.put_comm a v undef h2];exact h
end
end X
end Go.Proofs.YtofjmphlpdhohaaGreatDoor
namespace Go.Proofs.YtofjmphlpdhohaaGreatDoor
open Go.RowKit Go.ChangeShapes Go.WideShapes
structure Sl (α:Type) where
 addr:Option Addr
 cap:Nat
 list:List α
instance {α : Type} : Inhabited (Sl α) := ⟨none, 0, []⟩
def Sl.v {α:Type}(s:Sl α):Value:= .slice s.addr s.list.length s.cap
def bR.and(f g:bR):bR:=⟨fun S w=>f.p S w∧g.p S w,fun hs ha h=>⟨f.mono hs ha h.1,g.mono hs ha h.2⟩⟩
def bR.each{α:Type}(xs:List α)(g:α→bR):bR:=⟨fun S w=> ∀x∈xs,(g x).p S w,fun hs ha h x hx=>(g x).mono hs ha (h x hx)⟩
def bR.true:bR:=⟨fun _ _=>True,fun _ _ h=>h⟩
section
variable {F : List bR} {f g : bR} {α : Type}
theorem Has.left(h:Has F (f.and g)):Has F f:=fun S w k=>(h S w k).1
theorem Has.right(h:Has F (f.and g)):Has F g:=fun S w k=>(h S w k).2
theorem Has.and(h:Has F f)(k:Has F g):Has F (f.and g):=fun S w q=>⟨h S w q,k S w q⟩
theorem Has.each{xs:List α}{g:α→bR}(h:Has F (bR.each xs g)){x:α}(hx:x∈xs):Has F (g x):=fun S w k=>h S w k x hx
theorem Has.true:Has F bR.true:=fun _ _ _=>trivial
end
structure Ty (α:Type) where
 E:Flat α
 deep:α→bR
def Ty.sl {α:Type}(T:Ty α)(s:Sl α):bR:=(T.E.sl s.v s.list).and (bR.each s.list T.deep)
section
variable {F : List bR} {α : Type} {T : Ty α}
theorem Has.cells{s:Sl α}(h:Has F (T.sl s)):Has F (T.E.sl (.slice s.addr s.list.length s.cap) s.list):=h.left
theorem Has.at{s:Sl α}(h:Has F (T.sl s)){k:Nat}{x:α}(hx:s.list[k]?=some x):Has F (T.deep x):=h.right.each (List.mem_of_getElem? hx)
end
def mB {α H:Type}(enc:TypeId×Value→H)(P:Program)(w:World)(t:TypeId)(cells:α→List Value)(deep:α→bR):Prop:=
 ∀fuel cs x,DataW.trod enc P w 0 (fun _=>true) true fuel t cs=some x→(∀n∈x.1.weights P t,n≤reachBytes)→ ∃a,cs=cells a∧(deep a).p (fun b=>b<w.heap.size) w
section
variable {H : Type} {enc : TypeId × Value → H} {P : Program} {w : World} {t e : TypeId}
theorem spotOf{a:Addr}{v:Value}(h:w.cell? a=some v):a.spot=none:=by
 unfold World.cell? at h;split at h
 ·cases hs:a.spot with
  | none=>rfl
  | some x=>rw [hs] at h;simp at h
 ·cases h
theorem gV{k:IntKind}(hu:P.underlying t=some (.int k)):mB enc P w t (fun z:Int=>[.int k z]) (fun z=>bR.pure ((Lit.int k z).wf=true)):=fun fuel cs x h _=>by
 obtain⟨n,e,_,hw⟩:=DataW.trod_int hu h;exact⟨n,e,hw⟩
theorem uH{d:DataW H}: ∀{ds:List (DataW H)},d∈ds→ ∀n∈d.weights P e,n∈DataW.weightsAll P e ds
 | [],h,_,_=>by simp at h
 | d0::ds,h,n,hn=>by
  rw [DataW.weightsAll,List.mem_append]
  rcases List.mem_cons.1 h with rfl | h
  ·exact .inl hn
  ·exact .inr (uH h n hn)
theorem opens_slice{α:Type} [Inhabited α]{T:Ty α}(hu:P.underlying t=some (.slice e))(hc:P.cellsOf e=T.E.size)(he:mB enc P w e T.E.cells T.deep):
  mB enc P w t (fun s:Sl α=>[s.v]) (fun s=>(T.sl s).and (bR.pure (s.list.length*P.bytesOf e≤140737488355328))):=fun fuel cs x h hw=>by
 rcases Deep.open_slice hu h with ⟨rfl,_⟩ | ⟨a,len,cap,m,n,D,Pl,rfl,_,hl,_,hm,rfl,hi⟩
 ·exact⟨⟨none,0,[]⟩,rfl,⟨⟨none,0,rfl,fun k x hk=>by simp at hk⟩,fun x hx=>by simp at hx⟩,by show 0*_≤_;omega⟩
 ·have hlm:len≤m:=by rw [hm];simp;exact hl
  have hwl:len*P.bytesOf e≤140737488355328:=by
   have:=hw ((((List.range len).map D).length+((List.range (m-len)).map fun j=>D (len+j)).length)*P.bytesOf e) (by simp [DataW.weights,hu]);have h2:len*P.bytesOf e≤(len+(m-len))*P.bytesOf e:=Nat.mul_le_mul_right _ (by omega);simp only [List.length_map,List.length_range] at this;unfold reachBytes at this;omega
  have hel: ∀i,i<len→ ∃q:α,(∀j,j<T.E.size→w.cell? ((a.add (i*T.E.size)).add j)=(T.E.cells q)[j]?)∧(T.deep q).p (fun b=>b<w.heap.size) w:=fun i hil=>by
   obtain⟨cs',hc',ht⟩:=hi i (by omega);rw [hc] at hc';obtain⟨_,hcl,hat⟩:=World.cells?_some hc'
   obtain⟨q,hq,hd⟩:=he _ _ _ ht (fun n hn=>hw n (by
    simp only [DataW.weights,hu,List.mem_cons,List.mem_append]
    exact .inr (.inl (uH (List.mem_map.2 ⟨i,by simpa using hil,rfl⟩) n hn))))
   exact⟨q,fun j hj=>by rw [hat j hj,hq],hd⟩
  obtain⟨f,hf⟩: ∃f:Nat→α,∀i,i<len→(∀j,j<T.E.size→w.cell? ((a.add (i*T.E.size)).add j)=(T.E.cells (f i))[j]?)∧(T.deep (f i)).p (fun b=>b<w.heap.size) w:=
   ⟨fun i=>if h:i<len then (hel i h).choose else default,fun i hil=>by simp only [dif_pos hil];exact(hel i hil).choose_spec⟩
  refine⟨⟨some a,cap,(List.range len).map f⟩,by simp [Sl.v],⟨⟨some a,cap,rfl,fun k q hk=>?_⟩,fun q hq=>?_⟩,by show((List.range len).map f).length*_≤_;simpa using hwl⟩
  ·have hkl:k<len:=by simpa using (List.getElem?_eq_some_iff.1 hk).1
   have hq:q=f k:=by
    have:=(List.getElem?_eq_some_iff.1 hk).2
    simpa using this.symm
   subst hq;have hc:=(hf k hkl).1;obtain⟨ab,ao,asp⟩:=a
   have hsp:asp=none:=by
    have h0:=(hf 0 (by omega)).1 0 T.E.pos;have hlt:0<(T.E.cells (f 0)).length:=by rw [T.E.len];exact T.E.pos
    rw [List.getElem?_eq_getElem hlt,Nat.zero_mul] at h0;have h1:w.cell? ⟨ab,ao,asp⟩=some ((T.E.cells (f 0))[0]):=by simpa [Addr.add] using h0
    exact spotOf h1
   subst hsp
   have ea: ∀o i,(⟨ab,o,none⟩:Addr).add i=⟨ab,o+i,none⟩:=fun o i=>by
    unfold Addr.add;split<;>simp_all
   refine⟨ab,ao,T.E.cells (f k),rfl,?_,fun j u hj=>?_,rfl⟩
   ·have hlt:0<(T.E.cells (f k)).length:=by rw [T.E.len];exact T.E.pos
    have h0:=hc 0 T.E.pos;rw [List.getElem?_eq_getElem hlt,ea,ea] at h0
    rcases Nat.lt_or_ge ab w.heap.size with hlt | hge
    ·exact hlt
    ·simp [World.cell?,Array.getElem?_eq_none hge] at h0
   ·have hjl:j<T.E.size:=by
     have:=(List.getElem?_eq_some_iff.1 hj).1
     rwa [T.E.len] at this
    have:=hc j hjl;rw [ea,ea] at this;exact this.trans hj
  ·obtain⟨i,hil,rfl⟩:=List.mem_map.1 hq;exact(hf i (by simpa using hil)).2
def slE (α:Type):Flat (Sl α) where
 size:=1
 cells:=fun s=>[.slice s.addr s.list.length s.cap]
 len:=fun _=>rfl
 one:=fun x u hu=>by simp at hu;subst hu;rfl
 pos:=by decide
def Ty.slice{α:Type}(T:Ty α)(b:Nat):Ty (Sl α):=⟨slE α,fun s=>(T.sl s).and (bR.pure (s.list.length*b≤140737488355328))⟩
theorem fF{α:Type} [Inhabited α]{T:Ty α}{b:Nat}(hu:P.underlying t=some (.slice e))(hc:P.cellsOf e=T.E.size)(hb:P.bytesOf e=b)(he:mB enc P w e T.E.cells T.deep):mB enc P w t (T.slice b).E.cells (T.slice b).deep:=by
 subst hb;exact opens_slice hu hc he
theorem cQ{fs:Array Field}{ds:List (DataW H)}{R:Nat}(hu:P.underlying t=some (.struct fs))(hw: ∀n∈(DataW.agg ds).weights P t,n≤R){j:Nat}{f:Field}(hf:fs[j]?=some f){d:DataW H}(hd:ds[j]?=some d): ∀n∈d.weights P f.type,n≤R:=fun n hn=>by
 refine hw n ?_;simp only [DataW.weights,hu];refine DataW.weights_mem_each (j:=j) (t:=f.type) (d:=d) ?_ hd n hn;have:fs.toList[j]?=some f:=by simpa using hf
 simp [this]
theorem mB.arg{α:Type}{cells:α→List Value}{deep:α→bR}(h:mB enc P w t cells deep){v:Value}{d:DataW H}{p:List MemPlace}(ht:DataW.Trod enc P w 0 (fun _=>true) true t v d p){ts:List TypeId}{ds:List (DataW H)}{j:Nat}
  (hsz:(DataW.weightsEach P ts ds).all (· ≤reachBytes)=true) (hj:ts[j]?=some t) (hd:ds[j]?=some d): ∃a,v.cells.toList=cells a∧(deep a).p (fun b=>b<w.heap.size) w:=by
 obtain⟨fuel,hf⟩:=ht
 exact h fuel _ _ hf fun n hn=>by
  have:=List.all_eq_true.1 hsz _ (DataW.weights_mem_each hj hd n hn)
  simpa using this
end
def intTy:Ty Int:=⟨hY,fun z=>bR.pure ((Lit.int .i64 z).wf=true)⟩
end Go.Proofs.YtofjmphlpdhohaaGreatDoor
namespace Go.Proofs.YtofjmphlpdhohaaGreatDoor
open Go.RowKit
def tM:Array Value→Nat→List Value→Array Value
 | cs,_,[]=>cs
 | cs,o,v::r=>tM (cs.setIfInBounds o v) (o+1) r
theorem uT: ∀(vs:List Value) (cs:Array Value) (o:Nat),(tM cs o vs).toList=gT cs.toList o vs
 | [],_,_=>rfl
 | v::r,cs,o=>by rw [tM,gT,uT r];simp
theorem uW: ∀(vs xs:List Value) (j:Nat),(gT xs j vs).length=xs.length
 | [],_,_=>rfl
 | v::r,xs,j=>by rw [gT,uW r];simp
theorem qZ{g:Nat}{t:TypeId}{fz:Nat×Nat}: ∀(vs:List Value) (o:Nat) (w:World) (cs:Array Value),w.heap[g]?=some (.cells cs t fz)→(w.setCells g o vs).heap[g]?=some (.cells (tM cs o vs) t fz)
 | [],_,_,_,h=>h
 | v::r,o,w,cs,h=>by
  rw [World.setCells,tM];refine qZ r (o+1) _ _ ?_;simp [World.setCell,Array.getElem?_modify,h]
theorem zY{off:Nat}: ∀(vs bs cs:List Value) (p:Nat),(∀j u,bs[j]?=some u→cs[off+j]?=some u)→ ∀j u,(gT bs p vs)[j]?=some u→(gT cs (off+p) vs)[off+j]?=some u
 | [],_,_,_,h=>h
 | v::r,bs,cs,p,h=>by
  rw [gT,gT];refine zY r (bs.set p v) (cs.set (off+p) v) (p+1) fun j u hj=>?_
  by_cases e:p=j
  ·subst e;have hlt:=(List.getElem?_eq_some_iff.1 hj).1;rw [List.length_set] at hlt;rw [List.getElem?_set_self hlt] at hj;have:=h p _ (List.getElem?_eq_getElem hlt);rw [List.getElem?_set_self (List.getElem?_eq_some_iff.1 this).1];exact hj
  ·rw [List.getElem?_set_ne e] at hj;rw [List.getElem?_set_ne (by omega)];exact h j u hj
section
variable {P : Program} {β : fZ} {n : Nat} {Γ : Env} {H : List bS} {F : List bR} {Q : Exit → Act → World → Prop} {K : Act → World → Prop} {T : Tab} {α : Type} {E : Flat α}
def heldBlk(v:Value):List α→Option Nat
 | []=>none
 | _::_=>v.ownBlock
def Flat.held(E:Flat α)(v:Value)(xs:List α):bS:= .gen (heldBlk v xs) fun o=> ∃A cap,v= .slice A xs.length cap∧(xs=[]∨ ∃g off cs t fz,A=some ⟨g,off,none⟩∧o=some (.cells cs t fz)∧ ∀j u,(E.all xs)[j]?=some u→cs.toList[off+j]?=some u∧(fz.1≤off+j&&off+j<fz.2)=false)
theorem nF{w:World}{v:Value}{xs:List α}(h:(E.held v xs).ok w){k:Nat}(hk:k<xs.length): ∃g off cap cs t fz,v= .slice (some ⟨g,off,none⟩) xs.length cap∧(E.held v xs).blk=some g∧w.heap[g]?=some (.cells cs t fz)∧
  ∀j u,(E.all xs)[j]?=some u→cs.toList[off+j]?=some u∧(fz.1≤off+j&&off+j<fz.2)=false:=by
 obtain⟨A,cap,e,h⟩:=h
 rcases h with h | ⟨g,off,cs,t,fz,e1,e2,h⟩
 ·subst h;simp at hk
 ·subst e;subst e1
  cases xs with
  | nil=>simp at hk
  | cons x r=>exact⟨g,off,cap,cs,t,fz,rfl,rfl,e2,h⟩
theorem xQ{w:World}{v:Value}{xs:List α}(h:(E.held v xs).ok w){S:gZ}(hS: ∀b,(E.held v xs).blk=some b→S b):(E.sl v xs).p S w:=by
 have h0:=h;obtain⟨A,cap,e,_⟩:=h;refine⟨A,cap,e,fun k x hk=>?_⟩;obtain⟨g,off,cap',cs,t,fz,e1,hb,hh,hc⟩:=nF h0 (List.getElem?_eq_some_iff.1 hk).1;rw [e] at e1;injection e1 with e1
 subst e1;refine⟨g,off,E.cells x,rfl,hS g hb,fun j u hj=>?_,rfl⟩;have:=(hc _ _ (E.all_get hk hj)).1;show w.cell? ⟨g,off+k*E.size+j,none⟩=some u;unfold World.cell?;rw [hh];rw [Nat.add_assoc]
 simpa using this
theorem reads_held{A:Option Addr}{m cap:Nat}{xs:List α}{H':List bS}(hH:fC H (E.held (.slice A m cap) xs) H'):cD β H F E A xs:=fun w S s _ i x hi=>by
 have h:=xQ (S:=fun _=>True) (s.ok _ hH.mem) (fun _ _=>trivial);obtain⟨A',c',e,h⟩:=h;obtain⟨b,o,cs,e1,e2,e3,e4⟩:=h i x hi;injection e with e
 subst e;subst e1;have e4:cs=E.cells x:=e4;subst e4;exact⟨⟨b,o,rfl⟩,e3⟩
theorem rA{ops:Array Oper}{rest:List Oper}{o:Oper}(hT:dV P T){t k fo m cap:Nat}{p x:Operand}{v:Value}{vs:List Value}{i:TI}{A:Option Addr}{xs:List α}{y y':α}{H':List bS}(hH:fC H (E.held (.slice A m cap) xs) H')(hw:want ops Γ o=some true)(ho:o.op= .store t p x)(hd:o.dst=none)
  (hp:Γ.ev p=some (.pointer (some ⟨ablk A,aoff A+k*E.size+fo,none⟩))) (hx:Γ.ev x=some v) (ht:T.get t=some i) (hc:v.cells=vs.toArray) (hs:Nat.beq vs.length i.size=true)
  (h1:vs.all (·.oneCell')=true) (hk:xs[k]?=some y) (hput:mA (E.cells y) fo vs=some (E.cells y')) (K:At β n Γ (E.held (.slice A m cap) (xs.set k y')::H') F (wpList P ops Q rest)):At β n Γ H F (wpList P ops Q (o::rest)):=
 iT hw fun a w S f s hF=>by
  have hlt:k<xs.length:=(List.getElem?_eq_some_iff.1 hk).1;have hok:=s.ok _ hH.mem;obtain⟨g,off,cap',cs,t',fz,e,hblk,hh,hcs⟩:=nF hok hlt;injection e with e1 e2 e3
  subst e1 e2 e3;have hb:=(kO hput).1;rw [E.len] at hb;have hmul:(k+1)*E.size≤xs.length*E.size:=Nat.mul_le_mul_right _ hlt;rw [Nat.add_mul,Nat.one_mul] at hmul
  have hal: ∀j,j<vs.length→ ∃u,(E.all xs)[k*E.size+fo+j]?=some u:=fun j hj=>⟨_,List.getElem?_eq_getElem (by rw [E.all_length];omega)⟩
  have hth:w.there g (off+k*E.size+fo) vs.length:=fun j hj=>by
   obtain⟨u,hu⟩:=hal j hj;obtain⟨q1,q2⟩:=hcs _ _ hu;have e:off+k*E.size+fo+j=off+(k*E.size+fo+j):=by omega
   refine⟨?_,?_⟩
   ·rw [e];unfold World.cell?;rw [hh];have:cs[off+(k*E.size+fo+j)]?=some u:=by simpa using q1
    simp [this]
   ·rw [e];unfold World.frozen?;rw [hh];exact q2
  have hst:=run_storeCells_cells (P:=P) g (off+k*E.size+fo) vs 0 w (fun j hj=>by simpa using (hth j hj).1) (fun j hj=>by simpa using (hth j hj).2) (fun u hu=>by simpa using (List.all_eq_true.1 h1) u hu);rw [Nat.add_zero] at hst;have hsz:v.cells.size=i.size:=by rw [hc];simpa using Nat.eq_of_beq_eq_true hs
  have hr:(execOp a.eval o).run P w= .ok .skip (w.setCells g (off+k*E.size+fo) vs):=by
   unfold execOp;simp only [ho,f.ev hp,f.ev hx,Instr.storeAt,Instr.sureAddr,storeVar,Sem.run_bind,Sem.run_pure,Result.andThen_ok,hT.size ht,hsz,ablk,aoff];simp [hc,hst]
  unfold Oper.wp;rw [hr,Oper.upon_skip,hd];have s2:=s.perm hH.perm
  have hblk':(E.held (.slice (some ⟨g,off,none⟩) xs.length cap) (xs.set k y')).blk=some g:=by
   cases xs with
   | nil=>simp at hlt
   | cons x0 r=>cases k<;>rfl
  refine K _ _ S (f.put_none _) (s2.swap (gG g vs _ w) hblk hblk' ?_) (All.mono (fun _ h=>h) (s.agree (gG g vs _ w) (fun c hc e=>by subst e;exact(s2.own _ (List.mem_cons_self ..) _ hblk).2.2 hc)) hF);refine⟨_,cap,by rw [List.length_set],.inr ⟨g,off,tM cs (off+k*E.size+fo) vs,t',fz,rfl,?_,fun j u hj=>?_⟩⟩
  ·have:heldBlk (Value.slice (some ⟨g,off,none⟩) xs.length cap) (xs.set k y')=some g:=hblk';rw [this];exact qZ vs _ w cs hh
  ·rw [←E.all_set hk hput] at hj;rw [uT];have e:off+k*E.size+fo=off+(k*E.size+fo):=by omega
   rw [e];refine⟨zY vs (E.all xs) cs.toList _ (fun j u hj=>(hcs j u hj).1) j u hj,?_⟩
   have hjl:j<(E.all xs).length:=by
    have:=(List.getElem?_eq_some_iff.1 hj).1;rw [uW] at this;exact this
   exact(hcs _ _ (List.getElem?_eq_getElem hjl)).2
theorem mX{ops:Array Oper}{rest:List Oper}{o:Oper}{d:Nat}{x y:Operand}{t e:TypeId}{i:TypeInfo}{z:Value}{by_ c q:Nat}{v:Value}{A:Option Addr}{xs ys:List α}{H':List bS}(hH:fC H (E.row v e xs) H')(hr:cD β H F E A ys)(hg:o.guard=none)
  (ho:o.op= .call {callee:= .builtin .append,args:= #[x,y],argTypes:= #[t,t]}) (hd:o.dst=some d) (hn:Nat.blt d n=true) (hu:P.underlying t=some (.slice e)) (hi:P.info? e=some i) (hz:i.zero=some z) (hsize:i.size=E.size) (hby:i.bytes=by_) (hzs:z.cells.size=E.size)
  (hx:Γ.ev x=some v) (hy:Γ.ev y=some (.slice A q c)) (hq:q=ys.length) (hbytes:(xs.length+ys.length)*by_≤140737488355328) (hpos:0<by_)
  (k: ∀A' cap',At β n ((d,.slice A' (xs++ys).length cap')::Γ) (E.row (.slice A' (xs++ys).length cap') e (xs++ys)::H') F (wpList P ops Q rest)):At β n Γ H F (wpList P ops Q (o::rest)):=by
 by_cases hne:0<ys.length
 ·exact vC hH hr hg ho hd hn hu hi hz hsize hby hzs hx hy hq hne hbytes hpos k
 ·have h0:ys=[]:=List.eq_nil_of_length_eq_zero (by omega);subst h0;subst hq;simp only [List.append_nil] at k;refine at_rowv hH fun A' cap' e=>?_;subst e
  cases A with
  | none=>
   have hw:want ops Γ o=some true:=by unfold want;rw [hg]
   refine iT hw fun a w S f s hF=>?_;have hown:w.ownsRow 0 e E.size (.slice A' xs.length cap') xs.length (E.all xs):=s.ok _ hH.mem
   have hr':(Builtin.append_ #[t,t] o.type #[.slice A' xs.length cap',.slice none 0 c]).run P w= .ok (.slice A' xs.length cap') w:=by
    rcases hown.2 with ⟨e,e0⟩ | ⟨g,cap,cur,e,_,_,hnc,_⟩
    ·injection e with e1 e2 e3
     subst e1 e3;rw [e2];simp [Builtin.append_,run_underlying hu,sizeOf,typeInfo,hi,Builtin.lenOf,Builtin.firstCells]
    ·injection e with e1 e2 e3
     subst e1 e3;simp [Builtin.append_,run_underlying hu,sizeOf,typeInfo,hi,Builtin.lenOf,Builtin.firstCells,hnc,storeCells]
   have hx2:(execOp a.eval o).run P w= .ok (.value (.slice A' xs.length cap')) w:=by
    unfold execOp;simp only [ho,resolve,invoke,builtin,Sem.run_bind,Sem.run_pure,Result.andThen_ok,List.map_toArray,List.map_cons,List.map_nil,f.ev hx,f.ev hy,List.length_nil,hr']
   unfold Oper.wp;rw [hx2,Oper.upon_value,hd];exact k A' cap' _ _ S (f.put (by simpa [Nat.blt_eq] using hn) _) (s.perm hH.perm) hF
  | some ad=>
   intro a w S f s hF;have hown:w.ownsRow 0 e E.size (.slice A' xs.length cap') xs.length (E.all xs):=s.ok _ hH.mem;have hb':xs.length*by_≤140737488355328:=by simpa using hbytes
   have h63:xs.length≤maxLen:=by
    have:xs.length≤xs.length*by_:=Nat.le_mul_of_pos_right _ hpos;simp [maxLen];omega
   refine wpList_append_own_at w hg x y t ho 0 e i z E.size by_ hu hi hz hsize hby hzs E.pos _ xs.length (E.all xs) (f.ev hx) hown ad 0 c [] (f.ev hy) (by simp) (fun j u hj=>by simp at hj) (by simp) h63 hb' (Nat.zero_le _) ?_;intro v' w' hown' hgrow _ hat;rw [List.append_nil] at hown';have s2:=s.perm hH.perm;rw [hd];have s3:=s2.swap_row (oQ hgrow) hat hown';refine at_row (β:=β) (n:=n) (Γ:=(d,v')::Γ) (H:= .row v' e E.size (xs.length+0) (E.all xs)::H') (F:=F) (K:=wpList P ops Q rest) .head (fun _ ⟨A2,cap2,e2,_⟩=>?_) _ _ S (f.put (by simpa [Nat.blt_eq] using hn) _) s3 (All.mono (fun _ h=>h) (s.agree (oQ hgrow) (fun b hb e=>(s2.own _ (List.mem_cons_self ..) b e.symm).2.2 hb)) hF);subst e2;exact k A2 cap2
end
end Go.Proofs.YtofjmphlpdhohaaGreatDoor
