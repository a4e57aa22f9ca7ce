/- Texts of one proof, one behind the other: Open, Held, Str, Fun, MixL, MixT, MixS, Dns. -/
import Derived.Test.YtakphiannlpnfaaGreatDoorM1
import Derived.ProofKit
import Derived.OpenShut
import Derived.Carry
import Derived.SizedLaws
import Derived.Deep.Slices
import Derived.Scope
namespace Go.Proofs.YtakphiannlpnfaaGreatDoor
section
open Go.RowKit Go.ChangeShapes Go.WideShapes
structure Sl (α:Type) where
 addr:Option Addr
 cap:Nat
 list:List α
instance {α : Type} : Inhabited (Sl α) := ⟨none, 0, []⟩
def Sl.v {α:Type}(s:Sl α):Value:= .slice s.addr s.list.length s.cap
def Fact.and(f g:Fact):Fact:=⟨fun S w=>f.p S w∧g.p S w,fun hs ha h=>⟨f.mono hs ha h.1,g.mono hs ha h.2⟩⟩
def Fact.each{α:Type}(xs:List α)(g:α→Fact):Fact:=⟨fun S w=> ∀x∈xs,(g x).p S w,fun hs ha h x hx=>(g x).mono hs ha (h x hx)⟩
def Fact.true:Fact:=⟨fun _ _=>True,fun _ _ h=>h⟩
section
variable {F : List Fact} {f g : Fact} {α : Type}
theorem Has.left(h:Has F (f.and g)):Has F f:=fun S w k=>(h S w k).1
theorem Has.right(h:Has F (f.and g)):Has F g:=fun S w k=>(h S w k).2
theorem Has.and(h:Has F f)(k:Has F g):Has F (f.and g):=fun S w q=>⟨h S w q,k S w q⟩
theorem Has.each{xs:List α}{g:α→Fact}(h:Has F (Fact.each xs g)){x:α}(hx:x∈xs):Has F (g x):=fun S w k=>h S w k x hx
theorem Has.true:Has F Fact.true:=fun _ _ _=>trivial
end
structure Ty (α:Type) where
 E:Flat α
 deep:α→Fact
def Ty.sl {α:Type}(T:Ty α)(s:Sl α):Fact:=(T.E.sl s.v s.list).and (Fact.each s.list T.deep)
section
variable {F : List Fact} {α : Type} {T : Ty α}
theorem Has.cells{s:Sl α}(h:Has F (T.sl s)):Has F (T.E.sl (.slice s.addr s.list.length s.cap) s.list):=h.left
theorem Has.at{s:Sl α}(h:Has F (T.sl s)){k:Nat}{x:α}(hx:s.list[k]?=some x):Has F (T.deep x):=h.right.each (j4 hx)
end
def uL {α H:Type}(enc:TypeId×Value→H)(P:Program)(w:World)(t:TypeId)(cells:α→List Value)(deep:α→Fact):Prop:=
 ∀fuel cs x,DataW.trod enc P w 0 (fun _=>true) true fuel t cs=some x→(∀n∈x.1.weights P t,n≤reachBytes)→ ∃a,cs=cells a∧(deep a).p (fun b=>b<w.heap.size) w
section
variable {H : Type} {enc : TypeId × Value → H} {P : Program} {w : World} {t e : TypeId}
theorem spotOf{a:Addr}{v:Value}(h:w.cell? a=some v):a.spot=none:=by
 unfold World.cell? at h;split at h
 ·cases hs:a.spot with
  | none=>rfl
  | some x=>rw [hs] at h;simp at h
 ·cases h
theorem rL{k:IntKind}(hu:P.underlying t=some (.int k)):uL enc P w t (fun z:Int=>[.int k z]) (fun z=>Fact.pure ((Lit.int k z).wf=true)):=fun fuel cs x h _=>by
 obtain⟨n,e,_,hw⟩:=DataW.trod_int hu h;exact⟨n,e,hw⟩
theorem opens_string(hu:P.underlying t=some .string):uL enc P w t (fun s:ByteArray=>[.string s]) (fun s=>Fact.pure (s.size≤140737488355328)):=fun fuel cs x h hw=>by
 obtain⟨s,e,hx,_⟩:=DataW.trod_string hu h;refine⟨s,e,?_⟩;have:=hw s.data.toList.length (by rw [hx];simp only [DataW.weights,List.mem_singleton]);have e2:s.data.toList.length=s.size:=by rw [Array.length_toList];rfl
 rw [e2] at this;show s.size≤_;exact Nat.le_trans this o9
theorem bLd{d:DataW H}: ∀{ds:List (DataW H)},d∈ds→ ∀n∈d.weights P e,n∈DataW.weightsAll P e ds
 | [],h,_,_=>by simp at h
 | d0::ds,h,n,hn=>by
  rw [DataW.weightsAll,List.mem_append]
  rcases List.mem_cons.1 h with rfl | h
  ·exact .inl hn
  ·exact .inr (bLd h n hn)
theorem opens_slice{α:Type} [Inhabited α]{T:Ty α}(hu:P.underlying t=some (.slice e))(hc:P.cellsOf e=T.E.size)(he:uL enc P w e T.E.cells T.deep):
  uL enc P w t (fun s:Sl α=>[s.v]) (fun s=>(T.sl s).and (Fact.pure (s.list.length*P.bytesOf e≤140737488355328))):=fun fuel cs x h hw=>by
 rcases Deep.open_slice hu h with ⟨rfl,_⟩ | ⟨a,len,cap,m,n,D,Pl,rfl,_,hl,_,hm,rfl,hi⟩
 ·exact⟨⟨none,0,[]⟩,rfl,⟨⟨none,0,rfl,fun k x hk=>by simp at hk⟩,fun x hx=>by simp at hx⟩,by show 0*_≤_;omega⟩
 ·have hlm:len≤m:=by rw [hm];simp;exact hl
  have hwl:len*P.bytesOf e≤140737488355328:=by
   have:=hw ((((List.range len).map D).length+((List.range (m-len)).map fun j=>D (len+j)).length)*P.bytesOf e) (by simp [DataW.weights,hu]);have h2:len*P.bytesOf e≤(len+(m-len))*P.bytesOf e:=Nat.mul_le_mul_right _ n7;simp only [List.length_map,List.length_range] at this;unfold reachBytes at this;omega
  have hel: ∀i,i<len→ ∃q:α,(∀j,j<T.E.size→w.cell? ((a.add (i*T.E.size)).add j)=(T.E.cells q)[j]?)∧(T.deep q).p (fun b=>b<w.heap.size) w:=fun i hil=>by
   obtain⟨cs',hc',ht⟩:=hi i n7;rw [hc] at hc';obtain⟨_,hcl,hat⟩:=World.cells?_some hc'
   obtain⟨q,hq,hd⟩:=he _ _ _ ht (fun n hn=>hw n (by
    simp only [DataW.weights,hu,List.mem_cons,List.mem_append]
    exact .inr (.inl (bLd (List.mem_map.2 ⟨i,by simpa using hil,rfl⟩) n hn))))
   exact⟨q,fun j hj=>by rw [hat j hj,hq],hd⟩
  obtain⟨f,hf⟩: ∃f:Nat→α,∀i,i<len→(∀j,j<T.E.size→w.cell? ((a.add (i*T.E.size)).add j)=(T.E.cells (f i))[j]?)∧(T.deep (f i)).p (fun b=>b<w.heap.size) w:=
   ⟨fun i=>if h:i<len then (hel i h).choose else default,fun i hil=>by simp only [dif_pos hil];exact(hel i hil).choose_spec⟩
  refine⟨⟨some a,cap,(List.range len).map f⟩,by simp [Sl.v],⟨⟨some a,cap,rfl,fun k q hk=>?_⟩,fun q hq=>?_⟩,by show((List.range len).map f).length*_≤_;simpa using hwl⟩
  ·have hkl:k<len:=by simpa using (List.getElem?_eq_some_iff.1 hk).1
   have hq:q=f k:=by
    have:=(List.getElem?_eq_some_iff.1 hk).2
    simpa using this.symm
   subst hq;have hc:=(hf k hkl).1;obtain⟨ab,ao,asp⟩:=a
   have hsp:asp=none:=by
    have h0:=(hf 0 n7).1 0 T.E.pos;have hlt:0<(T.E.cells (f 0)).length:=by rw [T.E.len];exact T.E.pos
    rw [List.getElem?_eq_getElem hlt,Nat.zero_mul] at h0;have h1:w.cell? ⟨ab,ao,asp⟩=some ((T.E.cells (f 0))[0]):=by simpa [Addr.add] using h0
    exact spotOf h1
   subst hsp
   have ea: ∀o i,(⟨ab,o,none⟩:Addr).add i=⟨ab,o+i,none⟩:=fun o i=>by
    unfold Addr.add;split<;>simp_all
   refine⟨ab,ao,T.E.cells (f k),rfl,?_,fun j u hj=>?_,rfl⟩
   ·have hlt:0<(T.E.cells (f k)).length:=by rw [T.E.len];exact T.E.pos
    have h0:=hc 0 T.E.pos;rw [List.getElem?_eq_getElem hlt,ea,ea] at h0
    rcases Nat.lt_or_ge ab w.heap.size with hlt | hge
    ·exact hlt
    ·simp [World.cell?,Array.getElem?_eq_none hge] at h0
   ·have hjl:j<T.E.size:=by
     have:=(List.getElem?_eq_some_iff.1 hj).1
     rwa [T.E.len] at this
    have:=hc j hjl;rw [ea,ea] at this;exact this.trans hj
  ·obtain⟨i,hil,rfl⟩:=List.mem_map.1 hq;exact(hf i (by simpa using hil)).2
def slE (α:Type):Flat (Sl α) where
 size:=1
 cells:=fun s=>[.slice s.addr s.list.length s.cap]
 len:=fun _=>rfl
 one:=fun x u hu=>by simp at hu;subst hu;rfl
 pos:=o9
def Ty.slice{α:Type}(T:Ty α)(b:Nat):Ty (Sl α):=⟨slE α,fun s=>(T.sl s).and (Fact.pure (s.list.length*b≤140737488355328))⟩
theorem qL{α:Type} [Inhabited α]{T:Ty α}{b:Nat}(hu:P.underlying t=some (.slice e))(hc:P.cellsOf e=T.E.size)(hb:P.bytesOf e=b)(he:uL enc P w e T.E.cells T.deep):uL enc P w t (T.slice b).E.cells (T.slice b).deep:=by
 subst hb;exact opens_slice hu hc he
theorem dY{fs:Array Field}{ds:List (DataW H)}{R:Nat}(hu:P.underlying t=some (.struct fs))(hw: ∀n∈(DataW.agg ds).weights P t,n≤R){j:Nat}{f:Field}(hf:fs[j]?=some f){d:DataW H}(hd:ds[j]?=some d): ∀n∈d.weights P f.type,n≤R:=fun n hn=>by
 refine hw n ?_;simp only [DataW.weights,hu];refine DataW.weights_mem_each (j:=j) (t:=f.type) (d:=d) ?_ hd n hn;have:fs.toList[j]?=some f:=by simpa using hf
 simp [this]
theorem uL.arg{α:Type}{cells:α→List Value}{deep:α→Fact}(h:uL enc P w t cells deep){v:Value}{d:DataW H}{p:List MemPlace}(ht:DataW.Trod enc P w 0 (fun _=>true) true t v d p){ts:List TypeId}{ds:List (DataW H)}{j:Nat}
  (hsz:(DataW.weightsEach P ts ds).all (· ≤reachBytes)=true) (hj:ts[j]?=some t) (hd:ds[j]?=some d): ∃a,v.cells.toList=cells a∧(deep a).p (fun b=>b<w.heap.size) w:=by
 obtain⟨fuel,hf⟩:=ht
 exact h fuel _ _ hf fun n hn=>by
  have:=List.all_eq_true.1 hsz _ (DataW.weights_mem_each hj hd n hn)
  simpa using this
end
def intTy:Ty Int:=⟨sZ,fun z=>Fact.pure ((Lit.int .i64 z).wf=true)⟩
end
section
open Go.RowKit
def bKg:Array Value→Nat→List Value→Array Value
 | cs,_,[]=>cs
 | cs,o,v::r=>bKg (cs.setIfInBounds o v) (o+1) r
theorem bLh: ∀(vs:List Value) (cs:Array Value) (o:Nat),(bKg cs o vs).toList=mS cs.toList o vs
 | [],_,_=>rfl
 | v::r,cs,o=>by rw [bKg,mS,bLh r];simp
theorem bLf: ∀(vs xs:List Value) (j:Nat),(mS xs j vs).length=xs.length
 | [],_,_=>rfl
 | v::r,xs,j=>by rw [mS,bLf r];simp
theorem bEl{g:Nat}{t:TypeId}{fz:Nat×Nat}: ∀(vs:List Value) (o:Nat) (w:World) (cs:Array Value),w.heap[g]?=some (.cells cs t fz)→(w.setCells g o vs).heap[g]?=some (.cells (bKg cs o vs) t fz)
 | [],_,_,_,h=>h
 | v::r,o,w,cs,h=>by
  rw [World.setCells,bKg];refine bEl r (o+1) _ _ ?_;simp [World.setCell,Array.getElem?_modify,h]
theorem bUd{off:Nat}: ∀(vs bs cs:List Value) (p:Nat),(∀j u,bs[j]?=some u→cs[off+j]?=some u)→ ∀j u,(mS bs p vs)[j]?=some u→(mS cs (off+p) vs)[off+j]?=some u
 | [],_,_,_,h=>h
 | v::r,bs,cs,p,h=>by
  rw [mS,mS];refine bUd r (bs.set p v) (cs.set (off+p) v) (p+1) fun j u hj=>?_
  by_cases e:p=j
  ·subst e;have hlt:=(List.getElem?_eq_some_iff.1 hj).1;rw [List.length_set] at hlt;rw [List.getElem?_set_self hlt] at hj;have:=h p _ (List.getElem?_eq_getElem hlt);rw [List.getElem?_set_self (List.getElem?_eq_some_iff.1 this).1];exact hj
  ·rw [List.getElem?_set_ne e] at hj;rw [List.getElem?_set_ne n7];exact h j u hj
section
variable {P : Program} {β : dF} {n : Nat} {Γ : Env} {H : List bH} {F : List Fact} {Q : Exit → Act → World → Prop} {K : Act → World → Prop} {T : Tab} {α : Type} {E : Flat α}
def heldBlk(v:Value):List α→Option Nat
 | []=>none
 | _::_=>v.ownBlock
def Flat.held(E:Flat α)(v:Value)(xs:List α):bH:= .gen (heldBlk v xs) fun o=> ∃A cap,v= .slice A xs.length cap∧(xs=[]∨ ∃g off cs t fz,A=some ⟨g,off,none⟩∧o=some (.cells cs t fz)∧ ∀j u,(E.all xs)[j]?=some u→cs.toList[off+j]?=some u∧(fz.1≤off+j&&off+j<fz.2)=false)
theorem bXf{w:World}{v:Value}{xs:List α}(h:(E.held v xs).ok w){k:Nat}(hk:k<xs.length): ∃g off cap cs t fz,v= .slice (some ⟨g,off,none⟩) xs.length cap∧(E.held v xs).blk=some g∧w.heap[g]?=some (.cells cs t fz)∧
  ∀j u,(E.all xs)[j]?=some u→cs.toList[off+j]?=some u∧(fz.1≤off+j&&off+j<fz.2)=false:=by
 obtain⟨A,cap,e,h⟩:=h
 rcases h with h | ⟨g,off,cs,t,fz,e1,e2,h⟩
 ·subst h;simp at hk
 ·subst e;subst e1
  cases xs with
  | nil=>simp at hk
  | cons x r=>exact⟨g,off,cap,cs,t,fz,rfl,rfl,e2,h⟩
theorem held_reads{w:World}{v:Value}{xs:List α}(h:(E.held v xs).ok w){S:mG}(hS: ∀b,(E.held v xs).blk=some b→S b):(E.sl v xs).p S w:=by
 have h0:=h;obtain⟨A,cap,e,_⟩:=h;refine⟨A,cap,e,fun k x hk=>?_⟩;obtain⟨g,off,cap',cs,t,fz,e1,hb,hh,hc⟩:=bXf h0 (List.getElem?_eq_some_iff.1 hk).1;rw [e] at e1;injection e1 with e1
 subst e1;refine⟨g,off,E.cells x,rfl,hS g hb,fun j u hj=>?_,rfl⟩;have:=(hc _ _ (E.all_get hk hj)).1;show w.cell? ⟨g,off+k*E.size+j,none⟩=some u;unfold World.cell?;rw [hh];rw [Nat.add_assoc]
 simpa using this
theorem reads_held{A:Option Addr}{m cap:Nat}{xs:List α}{H':List bH}(hH:cD H (E.held (.slice A m cap) xs) H'):dQ β H F E A xs:=fun w S s _ i x hi=>by
 have h:=held_reads (S:=fun _=>True) (s.ok _ hH.mem) (fun _ _=>trivial);obtain⟨A',c',e,h⟩:=h;obtain⟨b,o,cs,e1,e2,e3,e4⟩:=h i x hi;injection e with e
 subst e;subst e1;have e4:cs=E.cells x:=e4;subst e4;exact⟨⟨b,o,rfl⟩,e3⟩
theorem bEc{ops:Array Oper}{rest:List Oper}{o:Oper}(hT:fD P T){t k fo m cap:Nat}{p x:Operand}{v:Value}{vs:List Value}{i:TI}{A:Option Addr}{xs:List α}{y y':α}{H':List bH}(hH:cD H (E.held (.slice A m cap) xs) H')(hw:want ops Γ o=some true)(ho:o.op= .store t p x)(hd:o.dst=none)
  (hp:Γ.ev p=some (.pointer (some ⟨bTn A,bTj A+k*E.size+fo,none⟩))) (hx:Γ.ev x=some v) (ht:T.get t=some i) (hc:v.cells=vs.toArray) (hs:Nat.beq vs.length i.size=true)
  (h1:vs.all (·.oneCell')=true) (hk:xs[k]?=some y) (hput:uB (E.cells y) fo vs=some (E.cells y')) (K:At β n Γ (E.held (.slice A m cap) (xs.set k y')::H') F (wpList P ops Q rest)):At β n Γ H F (wpList P ops Q (o::rest)):=
 iY hw fun a w S f s hF=>by
  have hlt:k<xs.length:=(List.getElem?_eq_some_iff.1 hk).1;have hok:=s.ok _ hH.mem;obtain⟨g,off,cap',cs,t',fz,e,hblk,hh,hcs⟩:=bXf hok hlt;injection e with e1 e2 e3
  subst e1 e2 e3;have hb:=(rN hput).1;rw [E.len] at hb;have hmul:(k+1)*E.size≤xs.length*E.size:=Nat.mul_le_mul_right _ hlt;rw [Nat.add_mul,Nat.one_mul] at hmul
  have hal: ∀j,j<vs.length→ ∃u,(E.all xs)[k*E.size+fo+j]?=some u:=fun j hj=>⟨_,List.getElem?_eq_getElem (by rw [E.all_length];omega)⟩
  have hth:w.there g (off+k*E.size+fo) vs.length:=fun j hj=>by
   obtain⟨u,hu⟩:=hal j hj;obtain⟨q1,q2⟩:=hcs _ _ hu;have e:off+k*E.size+fo+j=off+(k*E.size+fo+j):=n7
   refine⟨?_,?_⟩
   ·rw [e];unfold World.cell?;rw [hh];have:cs[off+(k*E.size+fo+j)]?=some u:=by simpa using q1
    simp [this]
   ·rw [e];unfold World.frozen?;rw [hh];exact q2
  have hst:=run_storeCells_cells (P:=P) g (off+k*E.size+fo) vs 0 w (fun j hj=>by simpa using (hth j hj).1) (fun j hj=>by simpa using (hth j hj).2) (fun u hu=>by simpa using (List.all_eq_true.1 h1) u hu);rw [Nat.add_zero] at hst;have hsz:v.cells.size=i.size:=by rw [hc];simpa using Nat.eq_of_beq_eq_true hs
  have hr:(execOp a.eval o).run P w= .ok .skip (w.setCells g (off+k*E.size+fo) vs):=by
   unfold execOp;simp only [ho,f.ev hp,f.ev hx,Instr.storeAt,Instr.sureAddr,storeVar,Sem.run_bind,Sem.run_pure,Result.andThen_ok,hT.size ht,hsz,bTn,bTj];simp [hc,hst]
  unfold Oper.wp;rw [hr,Oper.upon_skip,hd];have s2:=s.perm hH.perm
  have hblk':(E.held (.slice (some ⟨g,off,none⟩) xs.length cap) (xs.set k y')).blk=some g:=by
   cases xs with
   | nil=>simp at hlt
   | cons x0 r=>cases k<;>rfl
  refine K _ _ S (f.put_none _) (s2.swap (lM g vs _ w) hblk hblk' ?_) (All.mono (fun _ h=>h) (s.agree (lM g vs _ w) (fun c hc e=>by subst e;exact(s2.own _ (List.mem_cons_self ..) _ hblk).2.2 hc)) hF);refine⟨_,cap,by rw [List.length_set],.inr ⟨g,off,bKg cs (off+k*E.size+fo) vs,t',fz,rfl,?_,fun j u hj=>?_⟩⟩
  ·have:heldBlk (Value.slice (some ⟨g,off,none⟩) xs.length cap) (xs.set k y')=some g:=hblk';rw [this];exact bEl vs _ w cs hh
  ·rw [←E.all_set hk hput] at hj;rw [bLh];have e:off+k*E.size+fo=off+(k*E.size+fo):=n7
   rw [e];refine⟨bUd vs (E.all xs) cs.toList _ (fun j u hj=>(hcs j u hj).1) j u hj,?_⟩
   have hjl:j<(E.all xs).length:=by
    have:=(List.getElem?_eq_some_iff.1 hj).1;rw [bLf] at this;exact this
   exact(hcs _ _ (List.getElem?_eq_getElem hjl)).2
theorem dK{ops:Array Oper}{rest:List Oper}{o:Oper}{d:Nat}{x y:Operand}{t e:TypeId}{i:TypeInfo}{z:Value}{by_ c q:Nat}{v:Value}{A:Option Addr}{xs ys:List α}{H':List bH}(hH:cD H (E.row v e xs) H')(hr:dQ β H F E A ys)(hg:o.guard=none)
  (ho:o.op= .call {callee:= .builtin .append,args:= #[x,y],argTypes:= #[t,t]}) (hd:o.dst=some d) (hn:Nat.blt d n=true) (hu:P.underlying t=some (.slice e)) (hi:P.info? e=some i) (hz:i.zero=some z) (hsize:i.size=E.size) (hby:i.bytes=by_) (hzs:z.cells.size=E.size)
  (hx:Γ.ev x=some v) (hy:Γ.ev y=some (.slice A q c)) (hq:q=ys.length) (hbytes:(xs.length+ys.length)*by_≤140737488355328) (hpos:0<by_)
  (k: ∀A' cap',At β n ((d,.slice A' (xs++ys).length cap')::Γ) (E.row (.slice A' (xs++ys).length cap') e (xs++ys)::H') F (wpList P ops Q rest)):At β n Γ H F (wpList P ops Q (o::rest)):=by
 by_cases hne:0<ys.length
 ·exact bMi hH hr hg ho hd hn hu hi hz hsize hby hzs hx hy hq hne hbytes hpos k
 ·have h0:ys=[]:=List.eq_nil_of_length_eq_zero n7;subst h0;subst hq;simp only [List.append_nil] at k;refine at_rowv hH fun A' cap' e=>?_;subst e
  cases A with
  | none=>
   have hw:want ops Γ o=some true:=by unfold want;rw [hg]
   refine iY hw fun a w S f s hF=>?_;have hown:w.ownsRow 0 e E.size (.slice A' xs.length cap') xs.length (E.all xs):=s.ok _ hH.mem
   have hr':(Builtin.append_ #[t,t] o.type #[.slice A' xs.length cap',.slice none 0 c]).run P w= .ok (.slice A' xs.length cap') w:=by
    rcases hown.2 with ⟨e,e0⟩ | ⟨g,cap,cur,e,_,_,hnc,_⟩
    ·injection e with e1 e2 e3
     subst e1 e3;rw [e2];simp [Builtin.append_,run_underlying hu,sizeOf,typeInfo,hi,Builtin.lenOf,Builtin.firstCells]
    ·injection e with e1 e2 e3
     subst e1 e3;simp [Builtin.append_,run_underlying hu,sizeOf,typeInfo,hi,Builtin.lenOf,Builtin.firstCells,hnc,storeCells]
   have hx2:(execOp a.eval o).run P w= .ok (.value (.slice A' xs.length cap')) w:=by
    unfold execOp;simp only [ho,resolve,invoke,builtin,Sem.run_bind,Sem.run_pure,Result.andThen_ok,List.map_toArray,List.map_cons,List.map_nil,f.ev hx,f.ev hy,List.length_nil,hr']
   unfold Oper.wp;rw [hx2,Oper.upon_value,hd];exact k A' cap' _ _ S (f.put t6 _) (s.perm hH.perm) hF
  | some ad=>
   intro a w S f s hF;have hown:w.ownsRow 0 e E.size (.slice A' xs.length cap') xs.length (E.all xs):=s.ok _ hH.mem;have hb':xs.length*by_≤140737488355328:=by simpa using hbytes
   have h63:xs.length≤maxLen:=by
    have:xs.length≤xs.length*by_:=Nat.le_mul_of_pos_right _ hpos;simp [maxLen];omega
   refine wpList_append_own_at w hg x y t ho 0 e i z E.size by_ hu hi hz hsize hby hzs E.pos _ xs.length (E.all xs) (f.ev hx) hown ad 0 c [] (f.ev hy) o6 (fun j u hj=>by simp at hj) o6 h63 hb' (Nat.zero_le _) ?_;intro v' w' hown' hgrow _ hat;rw [List.append_nil] at hown';have s2:=s.perm hH.perm;rw [hd];have s3:=s2.swap_row (nR hgrow) hat hown';refine bNw (β:=β) (n:=n) (Γ:=(d,v')::Γ) (H:= .row v' e E.size (xs.length+0) (E.all xs)::H') (F:=F) (K:=wpList P ops Q rest) .head (fun _ ⟨A2,cap2,e2,_⟩=>?_) _ _ S (f.put t6 _) s3 (All.mono (fun _ h=>h) (s.agree (nR hgrow) (fun b hb e=>(s2.own _ (List.mem_cons_self ..) b e.symm).2.2 hb)) hF);subst e2;exact k A2 cap2
theorem bWf{ops:Array Oper}{rest:List Oper}{o:Oper}{d:Nat}{t e:TypeId}{ie:TypeInfo}(E:Flat α)(hw:want ops Γ o=some true)(ho:o.op= .buildSlice t 0 #[])(hd:o.dst=some d)(hn:Nat.blt d n=true)
  (hu:P.underlying t=some (.slice e)) (hie:P.info? e=some ie)
  (k: ∀b,At β n ((d,.slice (some ⟨b,0,none⟩) 0 0)::Γ) (E.row (.slice (some ⟨b,0,none⟩) 0 0) e []::H) F (wpList P ops Q rest)):At β n Γ H F (wpList P ops Q (o::rest)):=by
 refine sH (m:=0) (parts:= #[]) (e:=e) (cs:=[]) hw ho hd hn (fun a w f=>?_) fun b=>?_
 ·simp [Instr.buildSlice,run_underlying hu,sizeOf,typeInfo,hie,newRow,Instr.fill,Array.range_zero']
 ·intro a w S f s hF;have hok:w.heap[b]?=some (.cells #[] e (0,0)):=s.ok _ (List.mem_cons_self ..);refine k b a w S f ⟨s.kept,fun c hc=>?_,fun c hc b' hb=>?_,?_,s.zone⟩ hF
  ·rcases List.mem_cons.1 hc with rfl | hc
   ·exact⟨by simp [Flat.all],.inr ⟨b,0,#[],rfl,Nat.zero_le _,hok,Nat.le_refl _,by simp [maxLen],o6,by simp [Flat.all]⟩⟩
   ·exact s.ok c (List.mem_cons_of_mem _ hc)
  ·rcases List.mem_cons.1 hc with rfl | hc
   ·exact s.own (.obj b (.cells #[] e)) (List.mem_cons_self ..) b' hb
   ·exact s.own c (List.mem_cons_of_mem _ hc) b' hb
  ·have hp:=List.pairwise_cons.1 s.sep;exact List.pairwise_cons.2 ⟨fun d hd b hb=>hp.1 d hd b hb,hp.2⟩
end
end
section
open Go.RowKit
abbrev Bs:=List UInt8
def bs (l:Bs):ByteArray:=⟨l.toArray⟩
theorem lU(l:Bs):(bs l).size=l.length:=rfl
theorem bs_data(l:Bs):(bs l).data.toList=l:=rfl
section
variable {P : Program} {β : dF} {n : Nat} {Γ : Env} {H : List bH} {F : List Fact} {Q : Exit → Act → World → Prop} {K : Act → World → Prop} {T : Tab} {α : Type} {E : Flat α}
theorem jF{o:Oper}{t tt:TypeId}{x y:Operand}{a b:Bs}(ho:o.op= .binOp .add t x y tt)(hx:Γ.ev x=some (.string (bs a)))(hy:Γ.ev y=some (.string (bs b)))(hl:a.length+b.length≤9223372036854775807):Sti P β n Γ H F o (.string (bs (a++b))):=fun c w S f s k=>by
 have hl': ¬(((bs a).size+(bs b).size:Nat):Int)>IntKind.i64.max:=by
  rw [lU,lU];simp [IntKind.max,IntKind.signed,IntKind.bits];omega
 have e:bs a++bs b=bs (a++b):=by
  apply ByteArray.ext;simp [bs]
 unfold execOp;simp only [ho,f.ev hx,f.ev hy,eqGuard,binOp,Op.stringOp,if_neg hl',e];rfl
theorem rR(hT:fD P T){o:Oper}{t k sz:Nat}{x i:Operand}{kk:IntKind}{z:Int}{a:Bs}{b:UInt8}(ho:o.op= .index t x i)(hx:Γ.ev x=some (.string (bs a)))(hi:Γ.ev i=some (.int kk z))(ht:T.get t=some ⟨.string,sz⟩)(hz:z=(k:Nat))(hb:a[k]?=some b):
  Sti P β n Γ H F o (.int .u8 b.toNat):=fun c w S f s _=>by
 subst hz;obtain⟨hk,hb⟩:=List.getElem?_eq_some_iff.1 hb
 have hr:=run_index_string (P:=P) w t (bs a) kk (k:Int) (by
  have:=hT.string ht w;obtain⟨d,hu,hd⟩:=hT.any ht;cases d<;>simp [TD.of] at hd
  exact hu)
 rw [dif_pos ⟨n7,by rw [lU];omega⟩] at hr
 have e:(bs a)[(k:Int).toNat]'(by rw [lU];simpa using hk)=b:=by
  rw [←hb];simp [bs,ByteArray.getElem_eq_getElem_data]
 unfold execOp;simp only [ho,f.ev hx,f.ev hi];rw [Sem.run_bind,hr,e];rfl
theorem fD.str(hT:fD P T){t sz:Nat}(ht:T.get t=some ⟨.string,sz⟩):P.underlying t=some .string:=by
 obtain⟨d,hu,hd⟩:=hT.any ht;cases d<;>simp [TD.of] at hd
 exact hu
theorem bKz(hT:fD P T){t sz:Nat}(ht:T.get t=some ⟨.string,sz⟩)(a:Bs)(lo hi mx:Option Value)(w:World):(Instr.sliceAt t (.string (bs a)) lo hi mx).run P w=(Instr.slice t (.string (bs a)) lo hi mx).run P w:=by
 have hu:=hT.str ht;simp [Instr.sliceAt,run_underlying hu]
theorem bUw(hT:fD P T){o:Oper}{t k sz:Nat}{x i:Operand}{kk:IntKind}{z:Int}{a:Bs}(ho:o.op= .slice t x (some i) none none)(hx:Γ.ev x=some (.string (bs a)))(hi:Γ.ev i=some (.int kk z))(ht:T.get t=some ⟨.string,sz⟩)(hz:z=(k:Nat))(hk:k≤a.length):
  Sti P β n Γ H F o (.string (bs (a.drop k))):=fun c w S f s _=>by
 subst hz;have hr:=run_slice_string_l (P:=P) w t (bs a) (hT.str ht) kk (k:Int) n7 (by rw [lU];omega)
 have e:(bs a).extract (k:Int).toNat (bs a).size=bs (a.drop k):=by
  rw [lU];show(ByteArray.mk a.toArray).extract _ _=_;rw [ByteArray.extract_mk,List.take_of_length_le o6];rfl
 unfold execOp;simp only [ho,f.ev hx,Option.map_some,Option.map_none,f.ev hi];rw [Sem.run_bind,bKz hT ht,hr,e];rfl
theorem bDq(hT:fD P T){o:Oper}{t k sz:Nat}{x i:Operand}{kk:IntKind}{z:Int}{a:Bs}(ho:o.op= .slice t x none (some i) none)(hx:Γ.ev x=some (.string (bs a)))(hi:Γ.ev i=some (.int kk z))(ht:T.get t=some ⟨.string,sz⟩)(hz:z=(k:Nat))(hk:k≤a.length):
  Sti P β n Γ H F o (.string (bs (a.take k))):=fun c w S f s _=>by
 subst hz;have hr:=run_slice_string_h (P:=P) w t (bs a) (hT.str ht) kk (k:Int) n7 (by rw [lU];omega)
 have e:(bs a).extract 0 (k:Int).toNat=bs (a.take k):=by
  show(ByteArray.mk a.toArray).extract _ _=_;rw [ByteArray.extract_mk];rfl
 unfold execOp;simp only [ho,f.ev hx,Option.map_some,Option.map_none,f.ev hi];rw [Sem.run_bind,bKz hT ht,hr,e];rfl
def iE (A:Option Addr)(l size c:Nat):Option Addr:=if c=l then A else A.map (·.add (l*size))
end
end
section
open Go.RowKit
section
variable {P : Program} {β : dF} {n : Nat} {Γ : Env} {H : List bH} {F : List Fact} {Q : Exit → Act → World → Prop} {K : Act → World → Prop} {T : Tab} {α : Type} {E : Flat α}
theorem at_scope{c:Code}(h:At β n Γ H F (c.wp P (Exit.noGoto Q))):At β n Γ H F ((Code.scope c).wp P Q):=fun a w S f s k=>wp_scope_straight (h a w S f s k)
theorem at_label{l:Nat}(h:At β n Γ H F (Q .normal)):At β n Γ H F ((Code.label l).wp P Q):=fun a w S f s k=>wp_label (h a w S f s k)
theorem n_scope(h:At β n Γ H F (Q .normal)):At β n Γ H F (Exit.noGoto Q .normal):=h
theorem r_scope(h:At β n Γ H F (Q .ret)):At β n Γ H F (Exit.noGoto Q .ret):=h
theorem x_scope{i:Nat}(h:At β n Γ H F (Q (.exit i))):At β n Γ H F (Exit.noGoto Q (.exit i)):=h
theorem run_callv{o:Oper}{f:FuncId}{x:Operand}{first cap:Array Value}{ars:Array Operand}{ts:Array TypeId}{vs:List Value}{a:Act}(hcf: ∀(args:Array Value) (w:World),(callFunc f args).run P w= .ok (.enter f args) w)(ho:o.op= .call ⟨.value x,ars,ts⟩)(fi:Fits n Γ a)
  (hx:Γ.ev x=some (.func (.func f) first cap)) (hv:Γ.evs ars.toList=some vs) (w:World):(execOp a.eval o).run P w= .ok (.enter f (first++vs.toArray++cap)) w:=by
 have hm:ars.map a.eval=vs.toArray:=by
  apply Array.ext'
  simpa using fi.evs hv
 unfold execOp;simp only [ho,resolve,fi.ev hx,Deferred.ofValue,Sem.run_bind,Sem.run_pure,Result.andThen_ok,invoke];simp [hm,hcf]
theorem fV{ι:Type}{ops:Array Oper}{rest:List Oper}{o:Oper}{d:Nat}{f:FuncId}{x:Operand}{first cap:Array Value}{ars:Array Operand}{ts:Array TypeId}{vs all:List Value}{Hin H2:List bH}{Pre:List Fact}{val:ι→Value}{Hout:ι→List bH}{post:ι→List Fact}
  (hcf: ∀(args:Array Value) (w:World),(callFunc f args).run P w= .ok (.enter f args) w) (hs:cM P f all Hin Pre val Hout post) (hw:want ops Γ o=some true) (ho:o.op= .call ⟨.value x,ars,ts⟩) (hx:Γ.ev x=some (.func (.func f) first cap)) (hd:o.dst=some d) (hn:Nat.blt d n=true)
  (hv:Γ.evs ars.toList=some vs) (hall:first.toList++vs++cap.toList=all) (hH:sJ H Hin H2) (hF:bA F Pre) (k: ∀x,At β n ((d,val x)::Γ) (Hout x++H2) (post x++F) (wpList P ops Q rest)):At β n Γ H F (wpList P ops Q (o::rest)):=
 iY hw fun a w S f s hk=>by
  unfold Oper.wp;rw [run_callv hcf ho f hx hv w,Oper.upon_enter]
  have e:first++vs.toArray++cap=all.toArray:=by
   rw [←hall];apply Array.ext';simp
  rw [e];have s1:=s.perm hH.perm;refine(hs S w s1.enter (hF.all S w hk)).mono ?_;rintro e w' ⟨x,S',rfl,s',k'⟩;show wpList P ops Q rest (a.put o.dst (val x)) w';rw [hd];exact k x _ _ _ (f.put t6 _) (s1.leave s') ((All.mono (fun _ h=> .inr h) (fun _ _=>rfl) k').append (All.leave s1 s' hk))
def resVal(a:Act):ResultVar→Sem Value
 | .tmp t=>pure (a.tmps.getD t undef)
 | .cell ad t=>do loadVar t (←asAddr (a.tmps.getD ad undef))
def RV (P:Program)(β:dF)(n:Nat)(Γ:Env)(H:List bH)(F:List Fact)(r:ResultVar)(v:Value):Prop:= ∀a w S,Fits n Γ a→St β H S w→All F S w→(resVal a r).run P w= .ok v w
theorem rv_tmp{t:Nat}{v:Value}(h:Γ.get t=some v):RV P β n Γ H F (.tmp t) v:=fun a w S f _ _=>by
 have:=f.get t v h;simp [resVal,Array.getD_eq_getD_getElem?,this]
theorem rv_cell(hT:fD P T){t ty b q:Nat}{i:TI}{cs l:List Value}(hk:qA β H F b q cs)(h:Γ.get t=some (.pointer (some ⟨b,q,none⟩)))(ht:T.get ty=some i)(ha:aggD i.desc=true)(hv:cut cs 0 i.size=some l):RV P β n Γ H F (.cell t ty) (.agg l.toArray):=fun a w S f s k=>by
 have:=f.get t _ h;obtain⟨h1,h2,h3⟩:=zX hv;have hl:=run_loadCells_list (P:=P) w ⟨b,q,none⟩ l (fun j u hj=>by rw [Addr.add_mid];exact hk w S s k j u (by simpa using h3 j u hj));rw [h2] at hl;unfold resVal;simp only [Array.getD_eq_getD_getElem?,this,Option.getD_some,asAddr,Sem.run_bind,Sem.run_pure,Result.andThen_ok,loadVar,hT.agg ht,ha,if_true,hT.size ht,hl]
theorem rv_cell1(hT:fD P T){t ty b q:Nat}{i:TI}{cs:List Value}{v:Value}(hk:qA β H F b q cs)(h:Γ.get t=some (.pointer (some ⟨b,q,none⟩)))(ht:T.get ty=some i)(ha:aggD i.desc=false)(hv:cs[0]?=some v):RV P β n Γ H F (.cell t ty) v:=fun a w S f s k=>by
 have:=f.get t _ h;have hc:=hk w S s k 0 v hv;rw [Nat.add_zero] at hc;unfold resVal;simp only [Array.getD_eq_getD_getElem?,this,Option.getD_some,asAddr,Sem.run_bind,Sem.run_pure,Result.andThen_ok,loadVar,hT.agg ht,ha,Bool.false_eq_true,if_false,run_load,hc]
theorem xN(fn:Func)(a:Act):results fn a.tmps=(do let vs←fn.results.mapM (resVal a);pure (if h:vs.size=1 then vs[0] else .tuple vs)):=by
 have e:(fun x:ResultVar=>(match x with | .tmp t=>pure (a.tmps.getD t undef) | .cell ad t=>do loadVar t (←asAddr (a.tmps.getD ad undef)):Sem Value))=resVal a:=by
  funext x
  cases x<;>rfl
 unfold results;rw [←e];rfl
section
variable {ι : Type} {fn : Func} {val : ι → Value} {Hout : ι → List bH} {post : ι → List Fact} {r1 r2 r3 : ResultVar} {v1 v2 v3 : Value}
theorem kC(x:ι)(hr:fn.results= #[])(hH:Sel H (Hout x))(hF:bA F (post x))(he: .tuple #[]=val x):At β n Γ H F (bodyPost P fn (Done β val Hout post) .normal):=fun a w S f s k=>by
 refine⟨f.defers,.tuple #[],?_,x,S,by rw [he],s.sel hH,hF.all S w k⟩;rw [xN,hr];simp
theorem at_res1(x:ι)(hr:fn.results= #[r1])(h1:RV P β n Γ H F r1 v1)(hH:Sel H (Hout x))(hF:bA F (post x))(he:v1=val x):At β n Γ H F (bodyPost P fn (Done β val Hout post) .ret):=fun a w S f s k=>by
 refine⟨f.defers,v1,?_,x,S,by rw [he],s.sel hH,hF.all S w k⟩;rw [xN,hr];simp [h1 a w S f s k]
theorem at_res2(x:ι)(hr:fn.results= #[r1,r2])(h1:RV P β n Γ H F r1 v1)(h2:RV P β n Γ H F r2 v2)(hH:Sel H (Hout x))(hF:bA F (post x))(he: .tuple #[v1,v2]=val x):At β n Γ H F (bodyPost P fn (Done β val Hout post) .ret):=fun a w S f s k=>by
 refine⟨f.defers,.tuple #[v1,v2],?_,x,S,by rw [he],s.sel hH,hF.all S w k⟩;rw [xN,hr];simp [h1 a w S f s k,h2 a w S f s k]
theorem at_res3(x:ι)(hr:fn.results= #[r1,r2,r3])(h1:RV P β n Γ H F r1 v1)(h2:RV P β n Γ H F r2 v2)(h3:RV P β n Γ H F r3 v3)(hH:Sel H (Hout x))(hF:bA F (post x))(he: .tuple #[v1,v2,v3]=val x):At β n Γ H F (bodyPost P fn (Done β val Hout post) .ret):=fun a w S f s k=>by
 refine⟨f.defers,.tuple #[v1,v2,v3],?_,x,S,by rw [he],s.sel hH,hF.all S w k⟩;rw [xN,hr];simp [h1 a w S f s k,h2 a w S f s k,h3 a w S f s k]
end
end
theorem or_u8(a b:UInt8):IntKind.u8.wrap (((BitVec.ofInt IntKind.u8.bits (a.toNat:Int) ||| BitVec.ofInt IntKind.u8.bits (b.toNat:Int)).toNat:Nat):Int)=(((a ||| b).toNat:Nat):Int):=by
 show IntKind.u8.wrap (((BitVec.ofInt 8 (a.toNat:Int) ||| BitVec.ofInt 8 (b.toNat:Int)).toNat:Nat):Int)=_
 have h1: ∀c:UInt8,BitVec.ofInt 8 (c.toNat:Int)=c.toBitVec:=fun c=>by
  apply BitVec.eq_of_toNat_eq;simp
 rw [h1,h1];have h2:(a.toBitVec ||| b.toBitVec).toNat=(a ||| b).toNat:=rfl;have h3:=(a ||| b).toNat_lt;rw [h2];generalize (a ||| b).toNat=c at*;simp only [IntKind.wrap,IntKind.signed,IntKind.bits];simp;omega
theorem bDg{H:Type}{enc:TypeId×Value→H}{P:Program}{w:World}{t:TypeId}(hu:P.underlying t=some .string):uL enc P w t (fun s:Bs=>[.string (bs s)]) (fun s=>Fact.pure (s.length≤140737488355328)):=fun fuel cs x h hw=>by
 obtain⟨s,e,hs⟩:=opens_string hu fuel cs x h hw;exact⟨s.data.toList,e,hs⟩
end
section
open Go.RowKit
section
variable {P : Program} {ops : Array Oper} {md : Region.Mode} {C : World → Prop} {R : Array Bool → Act → World → Prop}
def bRg (P:Program)(md:Region.Mode)(ops:Array Oper)(C:World→Prop)(R:Array Bool→Act→World→Prop):Nat→Array Bool→Act→World→Prop
 | 0,listed,a,w=>C w∧R listed a w
 | fuel+1,listed,a,w=>C w∧Region.ready md ops listed≠[]∧ ∀i∈Region.ready md ops listed,fOp P ops i (bRg P md ops C R fuel (listed.setIfInBounds i true)) a w
theorem xX{Q:Exit→Act→World→Prop}(hR: ∀listed a w,R listed a w→wpAny P md ops Q 1 listed a w): ∀(fuel:Nat) (listed:Array Bool) (a:Act) (w:World),bRg P md ops C R fuel listed a w→wpAny P md ops Q (fuel+1) listed a w
 | 0,_,_,_,h=>hR _ _ _ h.2
 | fuel+1,listed,a,w,h=>by
  refine⟨fun e=>absurd e h.2.1,fun i hi=>?_⟩;have hf:=h.2.2 i hi;unfold wpOp;split
  ·rename_i ho;obtain⟨_,oi,hoi,_⟩:=mem_ready.1 hi;rw [ho] at hoi;cases hoi
  ·rename_i o ho;have h1:=wpNm (hf o ho);split
   ·rename_i hw;simp only [hw,if_true] at h1;exact .inl (bAn rfl (fun u w' h'=>xX hR fuel _ _ _ h') (fun d w' h'=>xX hR fuel _ _ _ h') h1)
   ·rename_i hw;simp only [hw] at h1;exact xX hR fuel _ _ _ h1
def depsIn(md:Region.Mode)(ops:Array Oper)(listed:Array Bool)(l:Nat):Prop:= ∀o,ops[l]?=some o→ ∀e∈o.after,Region.binds md e=true→listed.getD e.on false=true
def wK (md:Region.Mode)(ops:Array Oper)(listed:Array Bool):Prop:= ∀j,listed.getD j false=true→depsIn md ops listed j
def waitsN(md:Region.Mode)(ops:Array Oper):Nat→Nat→Nat→Bool
 | 0,_,_=>false
 | n+1,l,i=>match ops[l]? with
  | some o=>o.after.any fun e=>Region.binds md e&&(e.on==i || waitsN md ops n e.on i)
  | none=>false
def waits (md:Region.Mode)(ops:Array Oper)(l i:Nat):Bool:=waitsN md ops 4 l i
theorem bVt{listed:Array Bool}(hc:wK md ops listed): ∀(n l i:Nat),waitsN md ops n l i=true→depsIn md ops listed l→listed.getD i false=true
 | 0,_,_,h,_=>by cases h
 | n+1,l,i,h,hd=>by
  unfold waitsN at h
  cases ho:ops[l]? with
  | none=>rw [ho] at h;cases h
  | some o=>
   rw [ho] at h;obtain⟨e,he,hb⟩:=Array.any_eq_true'.1 h;rw [Bool.and_eq_true,Bool.or_eq_true] at hb;have h1:=hd o ho e he hb.1
   rcases hb.2 with h2 | h2
   ·have h2:e.on=i:=by simpa using h2
    rw [←h2];exact h1
   ·exact bVt hc n e.on i h2 (hc _ h1)
theorem bQu{listed:Array Bool}{l:Nat}(h:l∈Region.ready md ops listed):depsIn md ops listed l:=fun o ho e he hb=>by
 obtain⟨_,o',ho',hall⟩:=mem_ready.1 h;have:o=o':=Option.some.inj (ho.symm.trans ho');subst this;exact hall e he hb
theorem waits_not{l i:Nat}{listed:Array Bool}(hc:wK md ops listed)(h:waits md ops l i=true)(hi:listed.getD i false≠true):l∉Region.ready md ops listed:=fun hl=>hi (bVt hc 4 l i h (bQu hl))
theorem getD_set{listed:Array Bool}{j k:Nat}(h:listed.getD k false=true):(listed.setIfInBounds j true).getD k false=true:=by
 by_cases e:j=k
 ·subst e
  rcases Nat.lt_or_ge j listed.size with h' | h'
  ·simp [h']
  ·simp [Array.getElem?_eq_none h'] at h
 ·rw [getD_set_ne false e];exact h
theorem wK.set{listed:Array Bool}(hc:wK md ops listed){j:Nat}(hj:j∈Region.ready md ops listed):wK md ops (listed.setIfInBounds j true):=fun k hk o ho e he hb=>by
 by_cases e':j=k
 ·subst e';exact getD_set (bQu hj o ho e he hb)
 ·rw [getD_set_ne false e'] at hk;exact getD_set (hc k hk o ho e he hb)
theorem wK.none{n:Nat}:wK md ops (Array.replicate n false):=fun j hj=>by
 simp at hj
 rcases Nat.lt_or_ge j n with h | h<;>simp [h] at hj
theorem wpAnyR_first{i l:Nat}{oi:Oper}{v:Value}(hi:ops[i]?=some oi)(hw:waits md ops l i=true)(hsel: ∀(j:Nat) (o:Oper) cs b,ops[j]?=some o→o.op≠ .select cs b)(hR: ∀listed a w,R listed a w→Region.ready md ops listed=[l]):
  ∀(fuel:Nat) (listed:Array Bool) (a:Act) (w:World),wK md ops listed→
   (∀j oj,ops[j]?=some oj→j≠i→listed.getD j true=false→(∀e∈oj.after,Region.binds md e=true→e.on≠i)→oi.apart ops oj=true)→
   i∈Region.ready md ops listed→Fl P ops C oi v a→
   bRg P md ops C R fuel (listed.setIfInBounds i true) (a.put oi.dst v) w→bRg P md ops C R (fuel+1) listed a w:=by
 have hun: ∀{listed:Array Bool},i∈Region.ready md ops listed→listed.getD i false≠true:=fun{listed} hr e=>by
  have h0:=(mem_ready.1 hr).1
  rcases Nat.lt_or_ge i listed.size with h' | h'
  ·simp [h'] at h0 e;rw [h0] at e;cases e
  ·simp [Array.getElem?_eq_none h'] at e
 intro fuel
 induction fuel with
 | zero=>
  intro listed a w hc _ hr hy H;refine⟨H.1,fun h=>ah9,fun j hj=>?_⟩
  by_cases hji:j=i
  ·subst hji;exact hy.fOp hi H.1 H
  ·have h1:=ready_mono hj hji;rw [hR _ _ _ H.2] at h1;have h2:j=l:=by simpa using h1
   subst h2;exact absurd hj (waits_not hc hw (hun hr))
 | succ fuel ih=>
  intro listed a w hc hfree hr hy H;refine⟨H.1,fun h=>ah9,fun j hj=>?_⟩
  by_cases hji:j=i
  ·subst hji;exact hy.fOp hi H.1 H
  ·have h1:=H.2.2 j (ready_mono hj hji);obtain⟨hjun,oj,hoj,hall⟩:=mem_ready.1 hj
   have hnot: ∀e∈oj.after,Region.binds md e=true→e.on≠i:=fun e he hb heq=>by
    have h1:=hall e he hb;rw [heq] at h1;exact hun hr h1
   have h2:=fOp_put hoj (hfree j oj hoj hji hjun hnot) (fun cs b=>hsel i oi cs b hi) (fun cs b=>hsel j oj cs b hoj) hy h1;have hfree': ∀k ok,ops[k]?=some ok→k≠i→(listed.setIfInBounds j true).getD k true=false→
     (∀e∈ok.after,Region.binds md e=true→e.on≠i)→oi.apart ops ok=true:=fun k ok hk hki hun hno=>by
    refine hfree k ok hk hki ?_ hno
    by_cases hjk:j=k
    ·subst hjk;exact hjun
    ·rw [getD_set_ne true hjk] at hun;exact hun
   refine uA (fun a' w' h3=>ih (listed.setIfInBounds j true) a' w' (hc.set hj) hfree' (ready_mono hr (Ne.symm hji)) h3.1 ?_) h2;rw [Array.setIfInBounds_comm _ _ hji];exact h3.2
def pP (P:Program)(ops:Array Oper)(C:World→Prop)(Q:Exit→Act→World→Prop)(l:Nat):List (Bool×Nat)→Act→World→Prop
 | [],a,w=>fOp P ops l (Q .normal) a w
 | (true,k)::r,a,w=> ∃o v,ops[k]?=some o∧Fl P ops C o v a∧pP P ops C Q l r (a.put o.dst v) w
 | (false,k)::r,a,w=>fOp P ops k (fun a w=>C w∧pP P ops C Q l r a w) a w
def bRq (md:Region.Mode)(ops:Array Oper)(l:Nat):List (Bool×Nat)→Array Bool→Bool
 | [],listed=>(Region.ready md ops listed==[l])&&(Region.ready md ops (listed.setIfInBounds l true)).isEmpty
 | (true,k)::r,listed=>(Region.ready md ops listed).contains k&&Region.free md ops listed k&&waits md ops l k&&bRq md ops l r (listed.setIfInBounds k true)
 | (false,k)::r,listed=>(Region.ready md ops listed==[k])&&bRq md ops l r (listed.setIfInBounds k true)
def EndL (P:Program)(md:Region.Mode)(ops:Array Oper)(Q:Exit→Act→World→Prop)(l:Nat)(listed:Array Bool)(a:Act)(w:World):Prop:=
 Region.ready md ops listed=[l]∧Region.ready md ops (listed.setIfInBounds l true)=[]∧fOp P ops l (Q .normal) a w
theorem bFd{Q:Exit→Act→World→Prop}{l:Nat}(hs:Region.noSelect ops=true): ∀(od:List (Bool×Nat)) (listed:Array Bool) (a:Act) (w:World),wK md ops listed→bRq md ops l od listed=true→C w→pP P ops C Q l od a w→bRg P md ops C (EndL P md ops Q l) od.length listed a w
 | [],listed,a,w,_,hB,hC,h=>by
  simp only [bRq,Bool.and_eq_true,beq_iff_eq] at hB;exact⟨hC,hB.1,by simpa using hB.2,h⟩
 | (true,k)::r,listed,a,w,hc,hB,hC,h=>by
  simp only [bRq,Bool.and_eq_true] at hB;obtain⟨o,v,ho,hy,hK⟩:=h;exact wpAnyR_first ho hB.1.2 (Region.noSelect_spec hs) (fun _ _ _ h=>h.1) r.length listed a w hc (Region.free_spec ho hB.1.1.2) (by simpa using hB.1.1.1) hy (bFd hs r _ _ _ (hc.set (by simpa using hB.1.1.1)) hB.2 hC hK)
 | (false,k)::r,listed,a,w,hc,hB,hC,h=>by
  simp only [bRq,Bool.and_eq_true,beq_iff_eq] at hB;refine⟨hC,fun h0=>ai5,fun i hi=>?_⟩;rw [hB.1] at hi;have:i=k:=by simpa using hi
  subst this;exact uA (fun a' w' h'=>bFd hs r _ _ _ (hc.set (by rw [hB.1];simp)) hB.2 h'.1 h'.2) h
theorem end_any{Q:Exit→Act→World→Prop}{l:Nat}(listed:Array Bool)(a:Act)(w:World)(h:EndL P md ops Q l listed a w):wpAny P md ops Q 1 listed a w:=by
 refine⟨fun e=>(by rw [h.1] at e;cases e),fun i hi=>?_⟩;rw [h.1] at hi;have:i=l:=by simpa using hi
 subst this;have hf:=h.2.2;unfold wpOp;split
 ·rename_i ho;have hl:i∈Region.ready md ops listed:=by rw [h.1];simp
  obtain⟨_,oi,hoi,_⟩:=mem_ready.1 hl;rw [ho] at hoi;cases hoi
 ·rename_i o ho;have h1:=wpNm (hf o ho);split
  ·rename_i hw;simp only [hw,if_true] at h1;exact .inl (bAn rfl (fun u w' h'=>⟨h.2.1,h'⟩) (fun d w' h'=>⟨h.2.1,h'⟩) h1)
  ·rename_i hw;simp only [hw] at h1;exact⟨h.2.1,h1⟩
def mixLOk(l:Nat)(od:List (Bool×Nat))(ops:Array Oper):Bool:=Region.noSelect ops&&Nat.beq (od.length+1) ops.size&&bRq .any ops l od (Array.replicate ops.size false)
end
section
variable {P : Program} {β : dF} {n : Nat} {Γ : Env} {H : List bH} {F : List Fact} {Q : Exit → Act → World → Prop} {Hk : List bH} {F0 : List Fact} {ops : Array Oper}
theorem lC{id:Nat}{l:List Oper}(last:Nat)(Hk:List bH)(F0:List Fact)(od:List (Bool×Nat))(hm:P.follows .mixedOrders=true)(hB:mixLOk last od l.toArray=true)(hH:Sel H Hk)(hF:bA F F0)
  (h:At β n Γ H F (pP P l.toArray (StF β Hk F0) Q last od)):At β n Γ H F ((Code.region id l.toArray true).wp P Q):=fun a w S f s k=>by
 simp only [mixLOk,Bool.and_eq_true] at hB;have hw:=StF.drew ⟨S,s,k⟩;obtain⟨S',s',k'⟩:=hw;refine wp_region_any hm ?_;have h1:=bFd (P:=P) (md:= .any) (C:=StF β Hk F0) (Q:=Q) hB.1.1 od (Array.replicate l.toArray.size false) a _ wK.none hB.2 (StF.sel hH hF ⟨S',s',k'⟩) (h a _ S' f s' k');have h2:=xX (Q:=Q) end_any _ _ _ _ h1
 rwa [Nat.eq_of_beq_eq_true hB.1.2] at h2
theorem bNn{r:List (Bool×Nat)}{o:Oper}{l k d:Nat}{v:Value}(hk:ops[k]?=some o)(hw:want ops Γ o=some true)(hd:o.dst=some d)(hn:Nat.blt d n=true)(h:Sti P β n Γ Hk F0 o v)
  (K:At β n ((d,v)::Γ) H F (pP P ops (StF β Hk F0) Q l r)):At β n Γ H F (pP P ops (StF β Hk F0) Q l ((true,k)::r)):=fun a w S f s hF=>by
 refine⟨o,v,hk,.inl ⟨f.want hw,fun w' ⟨S',s',k'⟩=>h a w' S' f s' k'⟩,?_⟩;rw [hd];exact K _ _ S (f.put t6 v) s hF
theorem stL{r:List (Bool×Nat)}{o:Oper}{l k d:Nat}{v:Value}(hk:ops[k]?=some o)(h:Sti P β n Γ Hk F0 o v)(K:At β n ((d,v)::Γ) H F (pP P ops (StF β Hk F0) Q l r))(hw:want ops Γ o=some true:=by exact rfl)(hd:o.dst=some d:=by exact rfl)(hn:Nat.blt d n=true:=by exact rfl):At β n Γ H F (pP P ops (StF β Hk F0) Q l ((true,k)::r)):=bNn hk hw hd hn h K
theorem atl_op{r:List (Bool×Nat)}{o:Oper}{l k:Nat}{C:World→Prop}(hk:ops[k]?=some o)(h:At β n Γ H F (wpList P ops (Nm fun a w=>C w∧pP P ops C Q l r a w) [o])):At β n Γ H F (pP P ops C Q l ((false,k)::r)):=fun a w S f s hF o' ho'=>by
 have:o'=o:=Option.some.inj (ho'.symm.trans hk);subst this;exact h a w S f s hF
theorem atl_go{r:List (Bool×Nat)}{l:Nat}(hH:Sel H Hk)(hF:bA F F0)(h:At β n Γ H F (pP P ops (StF β Hk F0) Q l r)):At β n Γ H F (wpList P ops (Nm fun a w=>StF β Hk F0 w∧pP P ops (StF β Hk F0) Q l r a w) []):=fun a w S f s k=>
 ⟨rfl,StF.sel hH hF ⟨S,s,k⟩,h a w S f s k⟩
theorem atl_last{o:Oper}{l:Nat}{C:World→Prop}(hk:ops[l]?=some o)(h:At β n Γ H F (wpList P ops (Nm (Q .normal)) [o])):At β n Γ H F (pP P ops C Q l []):=fun a w S f s hF o' ho'=>by
 have:o'=o:=Option.some.inj (ho'.symm.trans hk);subst this;exact h a w S f s hF
theorem atl_end{K:Act→World→Prop}(h:At β n Γ H F K):At β n Γ H F (wpList P ops (Nm K) []):=fun a w S f s k=>⟨rfl,h a w S f s k⟩
end
end
section
open Go.RowKit
inductive Tr where
 | nil
 | fl (k:Nat) (r:Tr)
 | op (k:Nat) (r:Tr)
 | two (k l:Nat) (r s:Tr)
def Tr.len:Tr→Nat
 | .nil=>0
 | .fl _ r=>r.len+1
 | .op _ r=>r.len+1
 | .two _ _ r _=>r.len+1
section
variable {P : Program} {ops : Array Oper} {md : Region.Mode} {C : World → Prop} {Q : Exit → Act → World → Prop}
def kQ (P:Program)(ops:Array Oper)(C:World→Prop)(Q:Exit→Act→World→Prop):Tr→Act→World→Prop
 | .nil,a,w=>Q .normal a w
 | .fl k r,a,w=> ∃o v,ops[k]?=some o∧Fl P ops C o v a∧kQ P ops C Q r (a.put o.dst v) w
 | .op k r,a,w=>fOp P ops k (fun a w=>C w∧kQ P ops C Q r a w) a w
 | .two k l r s,a,w=>fOp P ops k (fun a w=>C w∧kQ P ops C Q r a w) a w∧fOp P ops l (fun a w=>C w∧kQ P ops C Q s a w) a w
def bEk (md:Region.Mode)(ops:Array Oper):Tr→Array Bool→Bool
 | .nil,listed=>(Region.ready md ops listed).isEmpty
 | .fl k r,listed=>(Region.ready md ops listed).contains k&&Region.free md ops listed k&&bEk md ops r (listed.setIfInBounds k true)
 | .op k r,listed=>(Region.ready md ops listed==[k])&&bEk md ops r (listed.setIfInBounds k true)
 | .two k l r s,listed=>(Region.ready md ops listed==[k,l])&&Nat.beq r.len s.len&&bEk md ops r (listed.setIfInBounds k true)&&bEk md ops s (listed.setIfInBounds l true)
theorem sP(hs:Region.noSelect ops=true): ∀(l:Tr) (listed:Array Bool) (a:Act) (w:World),bEk md ops l listed=true→C w→kQ P ops C Q l a w→bJr P md ops C Q l.len listed a w
 | .nil,listed,a,w,hB,hC,h=>⟨hC,by simpa [bEk] using hB,h⟩
 | .fl k r,listed,a,w,hB,hC,h=>by
  simp only [bEk,Bool.and_eq_true] at hB;obtain⟨o,v,ho,hy,hK⟩:=h;exact bIn ho (Region.noSelect_spec hs) r.len listed a w (Region.free_spec ho hB.1.2) (by simpa using hB.1.1) hy (sP hs r _ _ _ hB.2 hC hK)
 | .op k r,listed,a,w,hB,hC,h=>by
  simp only [bEk,Bool.and_eq_true,beq_iff_eq] at hB;refine⟨hC,fun h0=>ai5,fun i hi=>?_⟩;rw [hB.1] at hi;have:i=k:=by simpa using hi
  subst this;exact uA (fun a' w' h'=>sP hs r _ _ _ hB.2 h'.1 h'.2) h
 | .two k l r s,listed,a,w,hB,hC,h=>by
  simp only [bEk,Bool.and_eq_true,beq_iff_eq] at hB;obtain⟨⟨⟨h1,h2⟩,h3⟩,h4⟩:=hB;refine⟨hC,fun h0=>(by rw [h1] at h0;cases h0),fun i hi=>?_⟩;rw [h1] at hi;have hi:i=k∨i=l:=by simpa using hi
  rcases hi with rfl | rfl
  ·exact uA (fun a' w' h'=>sP hs r _ _ _ h3 h'.1 h'.2) h.1
  ·have e:Tr.len (.two k i r s)=s.len+1:=by simp only [Tr.len,Nat.eq_of_beq_eq_true h2]
   have e':r.len=s.len:=Nat.eq_of_beq_eq_true h2;rw [e'];exact uA (fun a' w' h'=>sP hs s _ _ _ h4 h'.1 h'.2) h.2
def mixTOk(l:Tr)(ops:Array Oper):Bool:=Region.noSelect ops&&Nat.beq l.len ops.size&&bEk .any ops l (Array.replicate ops.size false)
end
section
variable {P : Program} {β : dF} {n : Nat} {Γ : Env} {H : List bH} {F : List Fact} {Q : Exit → Act → World → Prop} {Hk : List bH} {F0 : List Fact} {ops : Array Oper}
theorem mV{id:Nat}{l:List Oper}(Hk:List bH)(F0:List Fact)(od:Tr)(hm:P.follows .mixedOrders=true)(hB:mixTOk od l.toArray=true)(hH:Sel H Hk)(hF:bA F F0)
  (h:At β n Γ H F (kQ P l.toArray (StF β Hk F0) Q od)):At β n Γ H F ((Code.region id l.toArray true).wp P Q):=fun a w S f s k=>by
 simp only [mixTOk,Bool.and_eq_true] at hB;have hw:=StF.drew ⟨S,s,k⟩;obtain⟨S',s',k'⟩:=hw;refine wp_region_any hm (tZ (C:=StF β Hk F0) _ _ _ _ ?_);have:=sP (P:=P) (md:= .any) (C:=StF β Hk F0) (Q:=Q) hB.1.1 od (Array.replicate l.toArray.size false) a _ hB.2 (StF.sel hH hF ⟨S',s',k'⟩) (h a _ S' f s' k')
 rwa [Nat.eq_of_beq_eq_true hB.1.2] at this
theorem att_nil{C:World→Prop}(h:At β n Γ H F (Q .normal)):At β n Γ H F (kQ P ops C Q .nil):=h
theorem bNm{r:Tr}{o:Oper}{k d:Nat}{v:Value}(hk:ops[k]?=some o)(hw:want ops Γ o=some true)(hd:o.dst=some d)(hn:Nat.blt d n=true)(h:Sti P β n Γ Hk F0 o v)
  (K:At β n ((d,v)::Γ) H F (kQ P ops (StF β Hk F0) Q r)):At β n Γ H F (kQ P ops (StF β Hk F0) Q (.fl k r)):=fun a w S f s hF=>by
 refine⟨o,v,hk,.inl ⟨f.want hw,fun w' ⟨S',s',k'⟩=>h a w' S' f s' k'⟩,?_⟩;rw [hd];exact K _ _ S (f.put t6 v) s hF
theorem sqT{r:Tr}{o:Oper}{k d:Nat}{v:Value}(hk:ops[k]?=some o)(h:Sti P β n Γ Hk F0 o v)(K:At β n ((d,v)::Γ) H F (kQ P ops (StF β Hk F0) Q r))(hw:want ops Γ o=some true:=by exact rfl)(hd:o.dst=some d:=by exact rfl)(hn:Nat.blt d n=true:=by exact rfl):At β n Γ H F (kQ P ops (StF β Hk F0) Q (.fl k r)):=bNm hk hw hd hn h K
theorem att_skipped{r:Tr}{o:Oper}{k d:Nat}{C:World→Prop}(hk:ops[k]?=some o)(hw:want ops Γ o=some false)(hd:o.dst=some d)(hn:Nat.blt d n=true)
  (K:At β n ((d,undef)::Γ) H F (kQ P ops C Q r)):At β n Γ H F (kQ P ops C Q (.fl k r)):=fun a w S f s hF=>by
 refine⟨o,undef,hk,.inr ⟨f.want hw,rfl⟩,?_⟩;rw [hd];exact K _ _ S (f.put t6 undef) s hF
theorem fOp_of{o:Oper}{k:Nat}{K:Act→World→Prop}(hk:ops[k]?=some o)(h:At β n Γ H F (wpList P ops (Nm K) [o])):At β n Γ H F (fOp P ops k K):=fun a w S f s hF o' ho'=>by
 have:o'=o:=Option.some.inj (ho'.symm.trans hk);subst this;exact h a w S f s hF
theorem att_op{r:Tr}{o:Oper}{k:Nat}{C:World→Prop}(hk:ops[k]?=some o)(h:At β n Γ H F (wpList P ops (Nm fun a w=>C w∧kQ P ops C Q r a w) [o])):At β n Γ H F (kQ P ops C Q (.op k r)):=fOp_of hk h
theorem jP{r s:Tr}{o o':Oper}{k l:Nat}{C:World→Prop}(hk:ops[k]?=some o)(hl:ops[l]?=some o')(h:At β n Γ H F (wpList P ops (Nm fun a w=>C w∧kQ P ops C Q r a w) [o]))(h':At β n Γ H F (wpList P ops (Nm fun a w=>C w∧kQ P ops C Q s a w) [o'])):
  At β n Γ H F (kQ P ops C Q (.two k l r s)):=fun a w S f st hF=>⟨fOp_of hk h a w S f st hF,fOp_of hl h' a w S f st hF⟩
theorem hQ{r:Tr}(hH:Sel H Hk)(hF:bA F F0)(h:At β n Γ H F (kQ P ops (StF β Hk F0) Q r)):At β n Γ H F (wpList P ops (Nm fun a w=>StF β Hk F0 w∧kQ P ops (StF β Hk F0) Q r a w) []):=fun a w S f s k=>
 ⟨rfl,StF.sel hH hF ⟨S,s,k⟩,h a w S f s k⟩
end
end
section
open Go.RowKit
section
variable {P : Program} {ops : Array Oper} {md : Region.Mode} {C : World → Prop} {R : Array Bool → Act → World → Prop}
def bCu (P:Program)(ops:Array Oper)(K:Act→World→Prop):List Nat→Act→World→Prop
 | [],a,w=>K a w
 | l::r,a,w=>fOp P ops l (bCu P ops K r) a w
def uI (P:Program)(ops:Array Oper)(C:World→Prop)(Q:Exit→Act→World→Prop)(ls:List Nat):List (Bool×Nat)→Act→World→Prop
 | [],a,w=>bCu P ops (Q .normal) ls a w
 | (true,k)::r,a,w=> ∃o v,ops[k]?=some o∧Fl P ops C o v a∧uI P ops C Q ls r (a.put o.dst v) w
 | (false,k)::r,a,w=>fOp P ops k (fun a w=>C w∧uI P ops C Q ls r a w) a w
end
section
variable {P : Program} {β : dF} {n : Nat} {Γ : Env} {H : List bH} {F : List Fact} {Q : Exit → Act → World → Prop} {Hk : List bH} {F0 : List Fact} {ops : Array Oper} {ls : List Nat}
theorem ats_sti{r:List (Bool×Nat)}{o:Oper}{k d:Nat}{v:Value}(hk:ops[k]?=some o)(hw:want ops Γ o=some true)(hd:o.dst=some d)(hn:Nat.blt d n=true)(h:Sti P β n Γ Hk F0 o v)
  (K:At β n ((d,v)::Γ) H F (uI P ops (StF β Hk F0) Q ls r)):At β n Γ H F (uI P ops (StF β Hk F0) Q ls ((true,k)::r)):=fun a w S f s hF=>by
 refine⟨o,v,hk,.inl ⟨f.want hw,fun w' ⟨S',s',k'⟩=>h a w' S' f s' k'⟩,?_⟩;rw [hd];exact K _ _ S (f.put t6 v) s hF
theorem ats_op{r:List (Bool×Nat)}{o:Oper}{k:Nat}{C:World→Prop}(hk:ops[k]?=some o)(h:At β n Γ H F (wpList P ops (Nm fun a w=>C w∧uI P ops C Q ls r a w) [o])):At β n Γ H F (uI P ops C Q ls ((false,k)::r)):=fun a w S f s hF o' ho'=>by
 have:o'=o:=Option.some.inj (ho'.symm.trans hk);subst this;exact h a w S f s hF
theorem ats_go{r:List (Bool×Nat)}(hH:Sel H Hk)(hF:bA F F0)(h:At β n Γ H F (uI P ops (StF β Hk F0) Q ls r)):At β n Γ H F (wpList P ops (Nm fun a w=>StF β Hk F0 w∧uI P ops (StF β Hk F0) Q ls r a w) []):=fun a w S f s k=>
 ⟨rfl,StF.sel hH hF ⟨S,s,k⟩,h a w S f s k⟩
theorem ats_tail{C:World→Prop}(h:At β n Γ H F (bCu P ops (Q .normal) ls)):At β n Γ H F (uI P ops C Q ls []):=h
theorem ats_last{K:Act→World→Prop}{o:Oper}{l:Nat}(hk:ops[l]?=some o)(h:At β n Γ H F (wpList P ops (Nm (bCu P ops K ls)) [o])):At β n Γ H F (bCu P ops K (l::ls)):=fun a w S f s hF o' ho'=>by
 have:o'=o:=Option.some.inj (ho'.symm.trans hk);subst this;exact h a w S f s hF
theorem ats_nil{K:Act→World→Prop}(h:At β n Γ H F K):At β n Γ H F (bCu P ops K []):=h
end
end
section
open Go.RowKit
section
variable {P : Program} {β : dF} {n : Nat} {Γ : Env} {H : List bH} {F : List Fact} {Q : Exit → Act → World → Prop} {K : Act → World → Prop} {T : Tab} {ops : Array Oper} {rest : List Oper} {o : Oper} {d : Nat} {v : Value}
theorem ldqO(hT:fD P T){t b q:Nat}{p:Operand}{cs:List Value}{i:TI}(ho:o.op= .load t p:=by exact rfl)(hp:Γ.ev p=some (.pointer (some ⟨b,q,none⟩)):=by exact rfl)(ht:T.get t=some i:=by exact rfl)(ha:aggD i.desc=false:=by exact rfl)(hk:qA β H F b q cs:=by first | exact cA cD.head | exact cA kT1 | exact cA kT2 | exact cA kT3 | exact cA kT4 | exact cA kT5 | exact cA kT6 | exact cA kT7 | exact cA kT8 | exact cA kT9 | exact cA bKh | exact cA bIu | exact cA bKl | exact cA bIs)(hv:cs[0]?=some v:=by exact rfl):Sti P β n Γ H F o v:=bP hT hk ho hp ht ha hv
theorem ldqN(hT:fD P T){t b q:Nat}{p:Operand}{cs l:List Value}{i:TI}(ho:o.op= .load t p:=by exact rfl)(hp:Γ.ev p=some (.pointer (some ⟨b,q,none⟩)):=by exact rfl)(ht:T.get t=some i:=by exact rfl)(ha:aggD i.desc=true:=by exact rfl)(hk:qA β H F b q cs:=by first | exact cA cD.head | exact cA kT1 | exact cA kT2 | exact cA kT3 | exact cA kT4 | exact cA kT5 | exact cA kT6 | exact cA kT7 | exact cA kT8 | exact cA kT9 | exact cA bKh | exact cA bIu | exact cA bKl | exact cA bIs)(hv:cut cs 0 i.size=some l:=by exact rfl):Sti P β n Γ H F o (.agg l.toArray):=fJ hT hk ho hp ht ha hv
theorem stoq(hT:fD P T){t t' b off:Nat}{p x:Operand}{vs cs cs':List Value}{i:TI}{H':List bH}(k:At β n Γ (.obj b (.cells cs'.toArray t')::H') F (wpList P ops Q rest))(ho:o.op= .store t p x:=by exact rfl)(hp:Γ.ev p=some (.pointer (some ⟨b,off,none⟩)):=by exact rfl)(hx:Γ.ev x=some v:=by exact rfl)(hH:cD H (.obj b (.cells cs.toArray t')) H':=by first | exact cD.head | exact kT1 | exact kT2 | exact kT3 | exact kT4 | exact kT5 | exact kT6 | exact kT7 | exact kT8 | exact kT9 | exact bKh | exact bIu | exact bKl | exact bIs)(ht:T.get t=some i:=by exact rfl)(hc:v.cells=vs.toArray:=by exact rfl)(hs:Nat.beq vs.length i.size=true:=by exact rfl)(h1:vs.all (·.oneCell')=true:=by exact rfl)(hput:uB cs off vs=some cs':=by exact rfl)(hw:want ops Γ o=some true:=by exact rfl)(hd:o.dst=none:=by exact rfl):At β n Γ H F (wpList P ops Q (o::rest)):=at_store hT hw ho hd hp hx hH ht hc hs h1 hput k
theorem gdC{c:Code}(h:At β n Γ H F (c.wp P Q)):At β n Γ H F (c.wp P Q):=h
theorem gdW{l:List Oper}(h:At β n Γ H F (wpList P ops Q l)):At β n Γ H F (wpList P ops Q l):=h
theorem gdN(h:At β n Γ H F (wpList P ops Q [])):At β n Γ H F (wpList P ops Q []):=h
theorem gdT{e:Exit}(h:At β n Γ H F (Exit.then K Q e)):At β n Γ H F (Exit.then K Q e):=h
theorem gdB{i:Nat}{e:Exit}(h:At β n Γ H F (Exit.inBlock i Q e)):At β n Γ H F (Exit.inBlock i Q e):=h
theorem gdS{e:Exit}(h:At β n Γ H F (Exit.noGoto Q e)):At β n Γ H F (Exit.noGoto Q e):=h
theorem gdM{C:World→Prop}{r:List (Bool×Nat)}(h:At β n Γ H F (sN P ops C Q r)):At β n Γ H F (sN P ops C Q r):=h
theorem gdL{C:World→Prop}{r:List (Bool×Nat)}{l:Nat}(h:At β n Γ H F (pP P ops C Q l r)):At β n Γ H F (pP P ops C Q l r):=h
theorem gdX{C:World→Prop}{r:Tr}(h:At β n Γ H F (kQ P ops C Q r)):At β n Γ H F (kQ P ops C Q r):=h
theorem gdY{C:World→Prop}{ls:List Nat}{r:List (Bool×Nat)}(h:At β n Γ H F (uI P ops C Q ls r)):At β n Γ H F (uI P ops C Q ls r):=h
theorem one{R G:Prop}(k:R)(h:R→G:=by
  intro k_
  first
  | ((with_reducible refine gdC ?_);first | with_reducible exact cO k_ | with_reducible exact bVv k_ | with_reducible exact at_ret k_ | with_reducible exact at_skip k_ | with_reducible exact at_block k_ | with_reducible exact at_exit k_ | with_reducible exact at_scope k_ | with_reducible exact at_label k_ | exact pK rfl rfl k_ | exact at_false rfl rfl k_)
  | ((with_reducible refine gdW ?_);first | ((with_reducible refine gdN ?_);first | ((with_reducible refine gO ?_ ?_ k_);(repeat (first | exact Sel.nil | refine Sel.cons cD.head ?_ | refine Sel.cons kT1 ?_ | refine Sel.cons kT2 ?_ | refine Sel.cons kT3 ?_ | refine Sel.cons kT4 ?_ | refine Sel.cons kT5 ?_ | refine Sel.cons kT6 ?_ | refine Sel.cons kT7 ?_ | refine Sel.cons kT8 ?_ | refine Sel.cons kT9 ?_ | refine Sel.cons bKh ?_ | refine Sel.cons bIu ?_ | refine Sel.cons bKl ?_ | refine Sel.cons bIs ?_));(first | exact trivial | exact bA.drop 0 | exact bA.drop 1 | exact bA.drop 2 | exact bA.drop 3 | exact bA.drop 4 | exact bA.drop 5 | exact bA.drop 6 | exact bA.drop 7 | exact bA.drop 8 | exact bA.drop 9 | exact bA.drop 10 | exact bA.drop 11 | exact bA.drop 12 | exact bA.drop 13 | exact bA.drop 14 | exact bA.drop 15 | exact bA.drop 16 | exact bA.drop 17 | exact bA.drop 18 | exact bA.drop 19 | exact bA.drop 20 | exact bA.drop 21 | exact bA.drop 22 | exact bA.drop 23 | exact bA.drop 24 | exact bA.drop 25 | exact bA.drop 26 | exact bA.drop 27 | exact bA.drop 28 | exact bA.drop 29 | exact bA.drop 30 | exact bA.drop 31 | exact bA.drop 32 | exact bA.drop 33 | exact bA.drop 34 | exact bA.drop 35 | exact bA.drop 36 | exact bA.drop 37 | exact bA.drop 38 | exact bA.drop 39 | exact bA.drop 40 | exact bA.drop 41 | exact bA.drop 42 | exact bA.drop 43 | exact bA.drop 44 | exact bA.drop 45 | exact bA.drop 46 | exact bA.drop 47 | exact bA.drop 48 | exact bA.drop 49 | exact bA.drop 50 | exact bA.drop 51 | exact bA.drop 52 | exact bA.drop 53 | exact bA.drop 54 | exact bA.drop 55 | exact bA.drop 56 | exact bA.drop 57 | exact bA.drop 58 | exact bA.drop 59 | exact bA.drop 60 | exact bA.drop 61 | exact bA.drop 62 | exact bA.drop 63 | exact bA.drop 64 | exact bA.drop 65 | exact bA.drop 66 | exact bA.drop 67 | exact bA.drop 68 | exact bA.drop 69)) | ((with_reducible refine atl_go ?_ ?_ k_);(repeat (first | exact Sel.nil | refine Sel.cons cD.head ?_ | refine Sel.cons kT1 ?_ | refine Sel.cons kT2 ?_ | refine Sel.cons kT3 ?_ | refine Sel.cons kT4 ?_ | refine Sel.cons kT5 ?_ | refine Sel.cons kT6 ?_ | refine Sel.cons kT7 ?_ | refine Sel.cons kT8 ?_ | refine Sel.cons kT9 ?_ | refine Sel.cons bKh ?_ | refine Sel.cons bIu ?_ | refine Sel.cons bKl ?_ | refine Sel.cons bIs ?_));(first | exact trivial | exact bA.drop 0 | exact bA.drop 1 | exact bA.drop 2 | exact bA.drop 3 | exact bA.drop 4 | exact bA.drop 5 | exact bA.drop 6 | exact bA.drop 7 | exact bA.drop 8 | exact bA.drop 9 | exact bA.drop 10 | exact bA.drop 11 | exact bA.drop 12 | exact bA.drop 13 | exact bA.drop 14 | exact bA.drop 15 | exact bA.drop 16 | exact bA.drop 17 | exact bA.drop 18 | exact bA.drop 19 | exact bA.drop 20 | exact bA.drop 21 | exact bA.drop 22 | exact bA.drop 23 | exact bA.drop 24 | exact bA.drop 25 | exact bA.drop 26 | exact bA.drop 27 | exact bA.drop 28 | exact bA.drop 29 | exact bA.drop 30 | exact bA.drop 31 | exact bA.drop 32 | exact bA.drop 33 | exact bA.drop 34 | exact bA.drop 35 | exact bA.drop 36 | exact bA.drop 37 | exact bA.drop 38 | exact bA.drop 39 | exact bA.drop 40 | exact bA.drop 41 | exact bA.drop 42 | exact bA.drop 43 | exact bA.drop 44 | exact bA.drop 45 | exact bA.drop 46 | exact bA.drop 47 | exact bA.drop 48 | exact bA.drop 49 | exact bA.drop 50 | exact bA.drop 51 | exact bA.drop 52 | exact bA.drop 53 | exact bA.drop 54 | exact bA.drop 55 | exact bA.drop 56 | exact bA.drop 57 | exact bA.drop 58 | exact bA.drop 59 | exact bA.drop 60 | exact bA.drop 61 | exact bA.drop 62 | exact bA.drop 63 | exact bA.drop 64 | exact bA.drop 65 | exact bA.drop 66 | exact bA.drop 67 | exact bA.drop 68 | exact bA.drop 69)) | ((with_reducible refine hQ ?_ ?_ k_);(repeat (first | exact Sel.nil | refine Sel.cons cD.head ?_ | refine Sel.cons kT1 ?_ | refine Sel.cons kT2 ?_ | refine Sel.cons kT3 ?_ | refine Sel.cons kT4 ?_ | refine Sel.cons kT5 ?_ | refine Sel.cons kT6 ?_ | refine Sel.cons kT7 ?_ | refine Sel.cons kT8 ?_ | refine Sel.cons kT9 ?_ | refine Sel.cons bKh ?_ | refine Sel.cons bIu ?_ | refine Sel.cons bKl ?_ | refine Sel.cons bIs ?_));(first | exact trivial | exact bA.drop 0 | exact bA.drop 1 | exact bA.drop 2 | exact bA.drop 3 | exact bA.drop 4 | exact bA.drop 5 | exact bA.drop 6 | exact bA.drop 7 | exact bA.drop 8 | exact bA.drop 9 | exact bA.drop 10 | exact bA.drop 11 | exact bA.drop 12 | exact bA.drop 13 | exact bA.drop 14 | exact bA.drop 15 | exact bA.drop 16 | exact bA.drop 17 | exact bA.drop 18 | exact bA.drop 19 | exact bA.drop 20 | exact bA.drop 21 | exact bA.drop 22 | exact bA.drop 23 | exact bA.drop 24 | exact bA.drop 25 | exact bA.drop 26 | exact bA.drop 27 | exact bA.drop 28 | exact bA.drop 29 | exact bA.drop 30 | exact bA.drop 31 | exact bA.drop 32 | exact bA.drop 33 | exact bA.drop 34 | exact bA.drop 35 | exact bA.drop 36 | exact bA.drop 37 | exact bA.drop 38 | exact bA.drop 39 | exact bA.drop 40 | exact bA.drop 41 | exact bA.drop 42 | exact bA.drop 43 | exact bA.drop 44 | exact bA.drop 45 | exact bA.drop 46 | exact bA.drop 47 | exact bA.drop 48 | exact bA.drop 49 | exact bA.drop 50 | exact bA.drop 51 | exact bA.drop 52 | exact bA.drop 53 | exact bA.drop 54 | exact bA.drop 55 | exact bA.drop 56 | exact bA.drop 57 | exact bA.drop 58 | exact bA.drop 59 | exact bA.drop 60 | exact bA.drop 61 | exact bA.drop 62 | exact bA.drop 63 | exact bA.drop 64 | exact bA.drop 65 | exact bA.drop 66 | exact bA.drop 67 | exact bA.drop 68 | exact bA.drop 69)) | ((with_reducible refine ats_go ?_ ?_ k_);(repeat (first | exact Sel.nil | refine Sel.cons cD.head ?_ | refine Sel.cons kT1 ?_ | refine Sel.cons kT2 ?_ | refine Sel.cons kT3 ?_ | refine Sel.cons kT4 ?_ | refine Sel.cons kT5 ?_ | refine Sel.cons kT6 ?_ | refine Sel.cons kT7 ?_ | refine Sel.cons kT8 ?_ | refine Sel.cons kT9 ?_ | refine Sel.cons bKh ?_ | refine Sel.cons bIu ?_ | refine Sel.cons bKl ?_ | refine Sel.cons bIs ?_));(first | exact trivial | exact bA.drop 0 | exact bA.drop 1 | exact bA.drop 2 | exact bA.drop 3 | exact bA.drop 4 | exact bA.drop 5 | exact bA.drop 6 | exact bA.drop 7 | exact bA.drop 8 | exact bA.drop 9 | exact bA.drop 10 | exact bA.drop 11 | exact bA.drop 12 | exact bA.drop 13 | exact bA.drop 14 | exact bA.drop 15 | exact bA.drop 16 | exact bA.drop 17 | exact bA.drop 18 | exact bA.drop 19 | exact bA.drop 20 | exact bA.drop 21 | exact bA.drop 22 | exact bA.drop 23 | exact bA.drop 24 | exact bA.drop 25 | exact bA.drop 26 | exact bA.drop 27 | exact bA.drop 28 | exact bA.drop 29 | exact bA.drop 30 | exact bA.drop 31 | exact bA.drop 32 | exact bA.drop 33 | exact bA.drop 34 | exact bA.drop 35 | exact bA.drop 36 | exact bA.drop 37 | exact bA.drop 38 | exact bA.drop 39 | exact bA.drop 40 | exact bA.drop 41 | exact bA.drop 42 | exact bA.drop 43 | exact bA.drop 44 | exact bA.drop 45 | exact bA.drop 46 | exact bA.drop 47 | exact bA.drop 48 | exact bA.drop 49 | exact bA.drop 50 | exact bA.drop 51 | exact bA.drop 52 | exact bA.drop 53 | exact bA.drop 54 | exact bA.drop 55 | exact bA.drop 56 | exact bA.drop 57 | exact bA.drop 58 | exact bA.drop 59 | exact bA.drop 60 | exact bA.drop 61 | exact bA.drop 62 | exact bA.drop 63 | exact bA.drop 64 | exact bA.drop 65 | exact bA.drop 66 | exact bA.drop 67 | exact bA.drop 68 | exact bA.drop 69)) | with_reducible exact atl_end k_ | with_reducible exact at_nil k_) | exact bOm rfl rfl rfl (xJ hT rfl) k_ | exact at_skipped rfl rfl rfl k_ | exact bOm rfl rfl rfl (ldqO hT) k_ | exact bOm rfl rfl rfl (ldqN hT) k_ | exact stoq hT k_)
  | ((with_reducible refine gdT ?_);first | with_reducible exact n_then k_ | with_reducible exact r_then k_ | with_reducible exact x_then k_)
  | ((with_reducible refine gdB ?_);first | with_reducible exact n_block k_ | with_reducible exact r_block k_ | with_reducible exact x_block k_ | ((with_reducible refine x_pass ?_ k_);exact rfl))
  | ((with_reducible refine gdS ?_);first | with_reducible exact n_scope k_ | with_reducible exact r_scope k_ | with_reducible exact x_scope k_)
  | ((with_reducible refine gdM ?_);first | with_reducible exact atm_nil k_ | exact bNi rfl rfl rfl rfl (xJ hT rfl) k_ | exact atm_skipped rfl rfl rfl rfl k_ | with_reducible exact atm_op rfl k_ | exact bNi rfl rfl rfl rfl (ldqO hT) k_ | exact bNi rfl rfl rfl rfl (ldqN hT) k_)
  | ((with_reducible refine gdL ?_);first | exact bNn rfl rfl rfl rfl (xJ hT rfl) k_ | with_reducible exact atl_op rfl k_ | with_reducible exact atl_last rfl k_ | exact bNn rfl rfl rfl rfl (ldqO hT) k_ | exact bNn rfl rfl rfl rfl (ldqN hT) k_)
  | ((with_reducible refine gdX ?_);first | with_reducible exact att_nil k_ | exact bNm rfl rfl rfl rfl (xJ hT rfl) k_ | exact att_skipped rfl rfl rfl rfl k_ | with_reducible exact att_op rfl k_ | exact bNm rfl rfl rfl rfl (ldqO hT) k_ | exact bNm rfl rfl rfl rfl (ldqN hT) k_)
  | ((with_reducible refine gdY ?_);first | with_reducible exact ats_tail k_ | exact ats_sti rfl rfl rfl rfl (xJ hT rfl) k_ | with_reducible exact ats_op rfl k_ | exact ats_sti rfl rfl rfl rfl (ldqO hT) k_ | exact ats_sti rfl rfl rfl rfl (ldqN hT) k_)
  | with_reducible exact ats_last rfl k_
  | with_reducible exact ats_nil k_):G:=h k
theorem g2{R G:Prop}(k:R)(h:R→G:=by intro k_;(iterate 2 refine one ?_);exact k_):G:=h k
theorem g3{R G:Prop}(k:R)(h:R→G:=by intro k_;(iterate 3 refine one ?_);exact k_):G:=h k
theorem g4{R G:Prop}(k:R)(h:R→G:=by intro k_;(iterate 4 refine one ?_);exact k_):G:=h k
theorem g5{R G:Prop}(k:R)(h:R→G:=by intro k_;(iterate 5 refine one ?_);exact k_):G:=h k
theorem g6{R G:Prop}(k:R)(h:R→G:=by intro k_;(iterate 6 refine one ?_);exact k_):G:=h k
theorem g7{R G:Prop}(k:R)(h:R→G:=by intro k_;(iterate 7 refine one ?_);exact k_):G:=h k
theorem g8{R G:Prop}(k:R)(h:R→G:=by intro k_;(iterate 8 refine one ?_);exact k_):G:=h k
theorem g9{R G:Prop}(k:R)(h:R→G:=by intro k_;(iterate 9 refine one ?_);exact k_):G:=h k
theorem g10{R G:Prop}(k:R)(h:R→G:=by intro k_;(iterate 10 refine one ?_);exact k_):G:=h k
theorem g11{R G:Prop}(k:R)(h:R→G:=by intro k_;(iterate 11 refine one ?_);exact k_):G:=h k
theorem g12{R G:Prop}(k:R)(h:R→G:=by intro k_;(iterate 12 refine one ?_);exact k_):G:=h k
theorem g13{R G:Prop}(k:R)(h:R→G:=by intro k_;(iterate 13 refine one ?_);exact k_):G:=h k
theorem g14{R G:Prop}(k:R)(h:R→G:=by intro k_;(iterate 14 refine one ?_);exact k_):G:=h k
theorem g15{R G:Prop}(k:R)(h:R→G:=by intro k_;(iterate 15 refine one ?_);exact k_):G:=h k
theorem g16{R G:Prop}(k:R)(h:R→G:=by intro k_;(iterate 16 refine one ?_);exact k_):G:=h k
theorem g17{R G:Prop}(k:R)(h:R→G:=by intro k_;(iterate 17 refine one ?_);exact k_):G:=h k
theorem g18{R G:Prop}(k:R)(h:R→G:=by intro k_;(iterate 18 refine one ?_);exact k_):G:=h k
theorem g19{R G:Prop}(k:R)(h:R→G:=by intro k_;(iterate 19 refine one ?_);exact k_):G:=h k
theorem g20{R G:Prop}(k:R)(h:R→G:=by intro k_;(iterate 20 refine one ?_);exact k_):G:=h k
theorem g21{R G:Prop}(k:R)(h:R→G:=by intro k_;(iterate 21 refine one ?_);exact k_):G:=h k
theorem g22{R G:Prop}(k:R)(h:R→G:=by intro k_;(iterate 22 refine one ?_);exact k_):G:=h k
theorem g23{R G:Prop}(k:R)(h:R→G:=by intro k_;(iterate 23 refine one ?_);exact k_):G:=h k
theorem g24{R G:Prop}(k:R)(h:R→G:=by intro k_;(iterate 24 refine one ?_);exact k_):G:=h k
theorem g25{R G:Prop}(k:R)(h:R→G:=by intro k_;(iterate 25 refine one ?_);exact k_):G:=h k
theorem g26{R G:Prop}(k:R)(h:R→G:=by intro k_;(iterate 26 refine one ?_);exact k_):G:=h k
theorem g27{R G:Prop}(k:R)(h:R→G:=by intro k_;(iterate 27 refine one ?_);exact k_):G:=h k
theorem g29{R G:Prop}(k:R)(h:R→G:=by intro k_;(iterate 29 refine one ?_);exact k_):G:=h k
theorem g30{R G:Prop}(k:R)(h:R→G:=by intro k_;(iterate 30 refine one ?_);exact k_):G:=h k
theorem g31{R G:Prop}(k:R)(h:R→G:=by intro k_;(iterate 31 refine one ?_);exact k_):G:=h k
theorem g32{R G:Prop}(k:R)(h:R→G:=by intro k_;(iterate 32 refine one ?_);exact k_):G:=h k
theorem g33{R G:Prop}(k:R)(h:R→G:=by intro k_;(iterate 33 refine one ?_);exact k_):G:=h k
theorem g34{R G:Prop}(k:R)(h:R→G:=by intro k_;(iterate 34 refine one ?_);exact k_):G:=h k
theorem g35{R G:Prop}(k:R)(h:R→G:=by intro k_;(iterate 35 refine one ?_);exact k_):G:=h k
theorem g37{R G:Prop}(k:R)(h:R→G:=by intro k_;(iterate 37 refine one ?_);exact k_):G:=h k
theorem g38{R G:Prop}(k:R)(h:R→G:=by intro k_;(iterate 38 refine one ?_);exact k_):G:=h k
theorem g40{R G:Prop}(k:R)(h:R→G:=by intro k_;(iterate 40 refine one ?_);exact k_):G:=h k
end
section
variable {P : Program} {β : dF} {n : Nat} {Γ : Env} {H : List bH} {F : List Fact} {Q : Exit → Act → World → Prop} {K : Act → World → Prop} {T : Tab} {c : Operand} {x y : Code} {d : Nat}
theorem dJ{a b:Int}(ht:a<b→At β n Γ H F (x.wp P Q))(hf:b≤a→At β n Γ H F (y.wp P Q))(hc:Γ.ev c=some (.bool (decide (a<b))):=by exact rfl):At β n Γ H F ((Code.cond c x y).wp P Q):=dP hc (fun h=>ht (of_decide_eq_true h)) (fun h=>hf (Int.not_lt.1 (of_decide_eq_false h)))
theorem jX{a b:Int}(ht:a<b→At β n ((d,.bool true)::Γ) H F K)(hf:b≤a→At β n ((d,.bool false)::Γ) H F K):At β n ((d,.bool (decide (a<b)))::Γ) H F K:=cI (fun h=>ht (of_decide_eq_true h)) (fun h=>hf (Int.not_lt.1 (of_decide_eq_false h)))
theorem bQy{a b:Int}(ht:a≤b→At β n Γ H F (x.wp P Q))(hf:b<a→At β n Γ H F (y.wp P Q))(hc:Γ.ev c=some (.bool (decide (a≤b))):=by exact rfl):At β n Γ H F ((Code.cond c x y).wp P Q):=dP hc (fun h=>ht (of_decide_eq_true h)) (fun h=>hf (Int.not_le.1 (of_decide_eq_false h)))
theorem k_le{a b:Int}(ht:a≤b→At β n ((d,.bool true)::Γ) H F K)(hf:b<a→At β n ((d,.bool false)::Γ) H F K):At β n ((d,.bool (decide (a≤b)))::Γ) H F K:=cI (fun h=>ht (of_decide_eq_true h)) (fun h=>hf (Int.not_le.1 (of_decide_eq_false h)))
theorem fN{α:Type} [BEq α] [LawfulBEq α]{a b:α}(ht:a=b→At β n Γ H F (x.wp P Q))(hf:a≠b→At β n Γ H F (y.wp P Q))(hc:Γ.ev c=some (.bool (a==b)):=by exact rfl):At β n Γ H F ((Code.cond c x y).wp P Q):=dP hc (fun h=>ht (eq_of_beq h)) (fun h=>hf (beq_eq_false_iff_ne.1 h))
theorem oX{α:Type} [BEq α] [LawfulBEq α]{a b:α}(ht:a=b→At β n ((d,.bool true)::Γ) H F K)(hf:a≠b→At β n ((d,.bool false)::Γ) H F K):At β n ((d,.bool (a==b))::Γ) H F K:=cI (fun h=>ht (eq_of_beq h)) (fun h=>hf (beq_eq_false_iff_ne.1 h))
theorem wG{α:Type} [BEq α] [LawfulBEq α]{a b:α}(ht:a≠b→At β n Γ H F (x.wp P Q))(hf:a=b→At β n Γ H F (y.wp P Q))(hc:Γ.ev c=some (.bool (a !=b)):=by exact rfl):At β n Γ H F ((Code.cond c x y).wp P Q):=dP hc (fun h=>ht (bne_iff_ne.1 h)) (fun h=>hf (bne_eq_false_iff_eq.1 h))
theorem bHo{α:Type} [BEq α] [LawfulBEq α]{a b:α}(ht:a≠b→At β n ((d,.bool true)::Γ) H F K)(hf:a=b→At β n ((d,.bool false)::Γ) H F K):At β n ((d,.bool (a !=b))::Γ) H F K:=cI (fun h=>ht (bne_iff_ne.1 h)) (fun h=>hf (bne_eq_false_iff_eq.1 h))
theorem jJ{b:Bool}(ht:b=false→At β n Γ H F (x.wp P Q))(hf:b=true→At β n Γ H F (y.wp P Q))(hc:Γ.ev c=some (.bool (!b)):=by exact rfl):At β n Γ H F ((Code.cond c x y).wp P Q):=dP hc (fun h=>ht (bSk h)) (fun h=>hf (zM h))
theorem k_nt{b:Bool}(ht:b=false→At β n ((d,.bool true)::Γ) H F K)(hf:b=true→At β n ((d,.bool false)::Γ) H F K):At β n ((d,.bool (!b))::Γ) H F K:=cI (fun h=>ht (bSk h)) (fun h=>hf (zM h))
theorem jA{b:Bool}(ht:b=true→At β n Γ H F (x.wp P Q))(hf:b=false→At β n Γ H F (y.wp P Q))(hc:Γ.ev c=some (.bool b):=by exact rfl):At β n Γ H F ((Code.cond c x y).wp P Q):=dP hc ht hf
theorem inc{k:IntKind}{z:Int}(m:Nat)(h:At β n ((d,.int k m)::Γ) H F K)(hz:z=(m:Int):=by exact wrapN n7 n7):At β n ((d,.int k z)::Γ) H F K:=cP hz h
theorem gx{α:Type}(l:List α)(i:Nat)(h:i<l.length:=by omega): ∃x,l[i]?=some x:=⟨_,List.getElem?_eq_getElem h⟩
theorem rvcq(hT:fD P T){t ty b q:Nat}{i:TI}{cs l:List Value}(h:Γ.get t=some (.pointer (some ⟨b,q,none⟩)):=by exact rfl)(ht:T.get ty=some i:=by exact rfl)(ha:aggD i.desc=true:=by exact rfl)(hk:qA β H F b q cs:=by first | exact cA cD.head | exact cA kT1 | exact cA kT2 | exact cA kT3 | exact cA kT4 | exact cA kT5 | exact cA kT6 | exact cA kT7 | exact cA kT8 | exact cA kT9 | exact cA bKh | exact cA bIu | exact cA bKl | exact cA bIs)(hv:cut cs 0 i.size=some l:=by exact rfl):RV P β n Γ H F (.cell t ty) (.agg l.toArray):=rv_cell hT hk h ht ha hv
theorem rvc1q(hT:fD P T){t ty b q:Nat}{i:TI}{cs:List Value}{v:Value}(h:Γ.get t=some (.pointer (some ⟨b,q,none⟩)):=by exact rfl)(ht:T.get ty=some i:=by exact rfl)(ha:aggD i.desc=false:=by exact rfl)(hk:qA β H F b q cs:=by first | exact cA cD.head | exact cA kT1 | exact cA kT2 | exact cA kT3 | exact cA kT4 | exact cA kT5 | exact cA kT6 | exact cA kT7 | exact cA kT8 | exact cA kT9 | exact cA bKh | exact cA bIu | exact cA bKl | exact cA bIs)(hv:cs[0]?=some v:=by exact rfl):RV P β n Γ H F (.cell t ty) v:=rv_cell1 hT hk h ht ha hv
theorem rvt{r:ResultVar}{v:Value}(h:RV P β n Γ H F r v:=by first | exact rv_tmp rfl | exact rvcq hT | exact rvc1q hT):RV P β n Γ H F r v:=h
theorem selt{R:List bH}(h:Sel H R:=by repeat (first | exact Sel.nil | refine Sel.cons cD.head ?_ | refine Sel.cons kT1 ?_ | refine Sel.cons kT2 ?_ | refine Sel.cons kT3 ?_ | refine Sel.cons kT4 ?_ | refine Sel.cons kT5 ?_ | refine Sel.cons kT6 ?_ | refine Sel.cons kT7 ?_ | refine Sel.cons kT8 ?_ | refine Sel.cons kT9 ?_ | refine Sel.cons bKh ?_ | refine Sel.cons bIu ?_ | refine Sel.cons bKl ?_ | refine Sel.cons bIs ?_)):Sel H R:=h
theorem subt{Δ:Env}(h:Γ.Sub Δ:=by repeat (first | exact trivial | refine And.intro rfl ?_)):Γ.Sub Δ:=h
theorem hdt{G:List Fact}(h:bA F G:=by first | exact trivial | exact bA.drop 0 | exact bA.drop 1 | exact bA.drop 2 | exact bA.drop 3 | exact bA.drop 4 | exact bA.drop 5 | exact bA.drop 6 | exact bA.drop 7 | exact bA.drop 8 | exact bA.drop 9 | exact bA.drop 10 | exact bA.drop 11 | exact bA.drop 12 | exact bA.drop 13 | exact bA.drop 14 | exact bA.drop 15 | exact bA.drop 16 | exact bA.drop 17 | exact bA.drop 18 | exact bA.drop 19 | exact bA.drop 20 | exact bA.drop 21 | exact bA.drop 22 | exact bA.drop 23 | exact bA.drop 24 | exact bA.drop 25 | exact bA.drop 26 | exact bA.drop 27 | exact bA.drop 28 | exact bA.drop 29 | exact bA.drop 30 | exact bA.drop 31 | exact bA.drop 32 | exact bA.drop 33 | exact bA.drop 34 | exact bA.drop 35 | exact bA.drop 36 | exact bA.drop 37 | exact bA.drop 38 | exact bA.drop 39 | exact bA.drop 40 | exact bA.drop 41 | exact bA.drop 42 | exact bA.drop 43 | exact bA.drop 44 | exact bA.drop 45 | exact bA.drop 46 | exact bA.drop 47 | exact bA.drop 48 | exact bA.drop 49 | exact bA.drop 50 | exact bA.drop 51 | exact bA.drop 52 | exact bA.drop 53 | exact bA.drop 54 | exact bA.drop 55 | exact bA.drop 56 | exact bA.drop 57 | exact bA.drop 58 | exact bA.drop 59 | exact bA.drop 60 | exact bA.drop 61 | exact bA.drop 62 | exact bA.drop 63 | exact bA.drop 64 | exact bA.drop 65 | exact bA.drop 66 | exact bA.drop 67 | exact bA.drop 68 | exact bA.drop 69):bA F G:=h
section
variable {ι : Type} {fn : Func} {val : ι → Value} {Hout : ι → List bH} {post : ι → List Fact} {r1 r2 r3 : ResultVar} {v1 v2 v3 : Value}
theorem rs1(x:ι)(hF:bA F (post x))(hr:fn.results= #[r1]:=by exact rfl)(h1:RV P β n Γ H F r1 v1:=by exact rvt)(hH:Sel H (Hout x):=by exact selt)(he:v1=val x:=by exact rfl):At β n Γ H F (bodyPost P fn (Done β val Hout post) .ret):=at_res1 x hr h1 hH hF he
theorem rs2(x:ι)(hF:bA F (post x))(hr:fn.results= #[r1,r2]:=by exact rfl)(h1:RV P β n Γ H F r1 v1:=by exact rvt)(h2:RV P β n Γ H F r2 v2:=by exact rvt)(hH:Sel H (Hout x):=by exact selt)(he: .tuple #[v1,v2]=val x:=by exact rfl):At β n Γ H F (bodyPost P fn (Done β val Hout post) .ret):=at_res2 x hr h1 h2 hH hF he
theorem rs3(x:ι)(hF:bA F (post x))(hr:fn.results= #[r1,r2,r3]:=by exact rfl)(h1:RV P β n Γ H F r1 v1:=by exact rvt)(h2:RV P β n Γ H F r2 v2:=by exact rvt)(h3:RV P β n Γ H F r3 v3:=by exact rvt)(hH:Sel H (Hout x):=by exact selt)(he: .tuple #[v1,v2,v3]=val x:=by exact rfl):At β n Γ H F (bodyPost P fn (Done β val Hout post) .ret):=at_res3 x hr h1 h2 h3 hH hF he
theorem bk2{G:ι→Env}{Δ:Env}{HH:ι→List bH}{Hr:List bH}{FF:ι→List Fact}{F0:List Fact}{μ:ι→Nat}{m:Nat}(x:ι)(hF:bA F (FF x))(hμ:μ x<m:=by first | omega | (dsimp only;omega))(hG:Γ.Sub (G x):=by exact subt)(hΔ:Γ.Sub Δ:=by exact subt)(hH:Sel H (HH x++Hr):=by exact selt)(hF0:bA F F0:=by exact hdt):At β n Γ H F (Back β n (fun x=>G x++Δ) (fun x=>HH x++Hr) (fun x=>FF x++F0) μ m):=dM x hμ hG hΔ hH hF hF0
end
end
section
variable {P : Program} {β : dF} {n : Nat} {Γ : Env} {H : List bH} {F : List Fact} {T : Tab} {α : Type} {E : Flat α}
theorem Ho{g:Fact}(h:g∈F:=by repeat (first | exact List.Mem.head _ | refine List.Mem.tail _ ?_)):Has F g:=Has.of h
theorem rdt{A:Option Addr}{xs:List α}(h:dQ β H F E A xs:=by first | exact cE Ho | exact cN w8 | exact reads_held w8 | exact bW w8 rfl):dQ β H F E A xs:=h
theorem ixs{o:Oper}{t e l c:Nat}{x i:Operand}{kk:IntKind}{z:Int}{sz:Nat}{de:TD}{A:Option Addr}{xs:List α}(k:Nat)(hT:fD P T:=by exact hT)(ho:o.op= .indexAddr t x i:=by exact rfl)(hx:Γ.ev x=some (.slice A l c):=by exact rfl)(hi:Γ.ev i=some (.int kk z):=by exact rfl)(hr:dQ β H F E A xs:=by exact rdt)(ht:T.get t=some ⟨.slice e,sz⟩:=by exact rfl)(he:T.get e=some ⟨de,E.size⟩:=by exact rfl)(hl:l=xs.length:=by exact rfl)(hz:z=(k:Nat):=by exact rfl)(hk:k<xs.length:=by omega):Sti P β n Γ H F o (.pointer (some ⟨bTn A,bTj A+k*E.size,none⟩)):=cF hT hr ho hx hi ht he hl hz hk
theorem fL{o:Oper}{t:Nat}{p:Operand}{i:TI}{A:Option Addr}{xs:List α}{k:Nat}{x:α}{v:Value}(hx:xs[k]?=some x)(fo:Nat)(hT:fD P T:=by exact hT)(ho:o.op= .load t p:=by exact rfl)(hr:dQ β H F E A xs:=by exact rdt)(hp:Γ.ev p=some (.pointer (some ⟨bTn A,bTj A+k*E.size+fo,none⟩)):=by exact rfl)(ht:T.get t=some i:=by exact rfl)(ha:aggD i.desc=false:=by exact rfl)(hv:((E.cells x).drop fo)[0]?=some v:=by exact rfl):Sti P β n Γ H F o (v):=bP hT (hr.knows hx fo) ho hp ht ha hv
theorem lS{o:Oper}{t:Nat}{p:Operand}{i:TI}{A:Option Addr}{xs:List α}{k:Nat}{x:α}{l:List Value}(hx:xs[k]?=some x)(fo:Nat)(hT:fD P T:=by exact hT)(ho:o.op= .load t p:=by exact rfl)(hr:dQ β H F E A xs:=by exact rdt)(hp:Γ.ev p=some (.pointer (some ⟨bTn A,bTj A+k*E.size+fo,none⟩)):=by exact rfl)(ht:T.get t=some i:=by exact rfl)(ha:aggD i.desc=true:=by exact rfl)(hv:cut ((E.cells x).drop fo) 0 i.size=some l:=by exact rfl):Sti P β n Γ H F o (.agg l.toArray):=fJ hT (hr.knows hx fo) ho hp ht ha hv
theorem u8{α:Type}{a0 a1 a2 a3 a4 a5 a6 a7 x:α}{l:List α}(h:x∈l):x∈a0::a1::a2::a3::a4::a5::a6::a7::l:= .tail _ (.tail _ (.tail _ (.tail _ (.tail _ (.tail _ (.tail _ (.tail _ h)))))))
theorem asd{p:Prop}(h:p:=by first | assumption | (simp only [Bool.not_eq_true',Bool.not_eq_false',beq_iff_eq];assumption)):p:=h
end
end
end Go.Proofs.YtakphiannlpnfaaGreatDoor
