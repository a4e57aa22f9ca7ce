/- Texts of one proof, one behind the other: Open, Held, Str, Fun, Tys, Txt, LexA, Eq, LexS, LexB. -/
import Derived.Test.YtbgdphbebhjpiaaGreatDoorM1
import Derived.ProofKit
import Derived.OpenShut
import Derived.Carry
import Derived.SizedLaws
import Derived.Deep.Slices
import Derived.Scope
import Derived.Test.YtbgdphbebhjpiaaGreatDoorRows
import Derived.ChangeKeysEq
import Derived.Test.YtbgdphbebhjpiaaGreatDoorShelf
import Derived.Lib.SmallJoins
namespace Go.Proofs.YtbgdphbebhjpiaaGreatDoor
open Go.RowKit Go.ChangeShapes Go.WideShapes
structure Sl (α:Type) where
  addr:Option Addr
  cap:Nat
  list:List α
instance {α : Type} : Inhabited (Sl α) := ⟨none, 0, []⟩
def Sl.v {α:Type}(s:Sl α):Value:= .slice s.addr s.list.length s.cap
def Fact.and(f g:Fact):Fact:=⟨fun S w=>f.p S w∧g.p S w,fun hs ha h=>⟨f.mono hs ha h.1,g.mono hs ha h.2⟩⟩
def Fact.each{α:Type}(xs:List α)(g:α→Fact):Fact:=⟨fun S w=> ∀x∈xs,(g x).p S w,fun hs ha h x hx=>(g x).mono hs ha (h x hx)⟩
def Fact.true:Fact:=⟨fun _ _=>True,fun _ _ h=>h⟩
section
variable {F : List Fact} {f g : Fact} {α : Type}
theorem Has.left(h:Has F (f.and g)):Has F f:=fun S w k=>(h S w k).1
theorem Has.right(h:Has F (f.and g)):Has F g:=fun S w k=>(h S w k).2
theorem Has.and(h:Has F f)(k:Has F g):Has F (f.and g):=fun S w q=>⟨h S w q,k S w q⟩
theorem Has.each{xs:List α}{g:α→Fact}(h:Has F (Fact.each xs g)){x:α}(hx:x∈xs):Has F (g x):=fun S w k=>h S w k x hx
theorem Has.true:Has F Fact.true:=fun _ _ _=>trivial
end
structure Ty (α:Type) where
  E:Flat α
  deep:α→Fact
def Ty.sl {α:Type}(T:Ty α)(s:Sl α):Fact:=(T.E.sl s.v s.list).and (Fact.each s.list T.deep)
section
variable {F : List Fact} {α : Type} {T : Ty α}
theorem Has.cells{s:Sl α}(h:Has F (T.sl s)):Has F (T.E.sl (.slice s.addr s.list.length s.cap) s.list):=h.left
theorem Has.at{s:Sl α}(h:Has F (T.sl s)){k:Nat}{x:α}(hx:s.list[k]?=some x):Has F (T.deep x):=h.right.each (List.mem_of_getElem? hx)
end
def rI {α H:Type}(enc:TypeId×Value→H)(P:Program)(w:World)(t:TypeId)(cells:α→List Value)(deep:α→Fact):Prop:=
  ∀fuel cs x,DataW.trod enc P w 0 (fun _=>true) true fuel t cs=some x→(∀n∈x.1.weights P t,n≤reachBytes)→ ∃a,cs=cells a∧(deep a).p (fun b=>b<w.heap.size) w
section
variable {H : Type} {enc : TypeId × Value → H} {P : Program} {w : World} {t e : TypeId}
theorem spotOf{a:Addr}{v:Value}(h:w.cell? a=some v):a.spot=none:=by
  unfold World.cell? at h;split at h
  · cases hs:a.spot with
    | none=>rfl
    | some x=>rw [hs] at h;simp at h
  · cases h
theorem bNt{k:IntKind}(hu:P.underlying t=some (.int k)):rI enc P w t (fun z:Int=>[.int k z]) (fun z=>Fact.pure ((Lit.int k z).wf=true)):=fun fuel cs x h _=>by
  obtain⟨n,e,_,hw⟩:=DataW.trod_int hu h;exact⟨n,e,hw⟩
theorem opens_string(hu:P.underlying t=some .string):rI enc P w t (fun s:ByteArray=>[.string s]) (fun s=>Fact.pure (s.size≤140737488355328)):=fun fuel cs x h hw=>by
  obtain⟨s,e,hx,_⟩:=DataW.trod_string hu h;refine⟨s,e,?_⟩;have:=hw s.data.toList.length (by rw [hx];simp only [DataW.weights,List.mem_singleton]);have e2:s.data.toList.length=s.size:=by rw [Array.length_toList];rfl
  rw [e2] at this;show s.size≤_;exact Nat.le_trans this (by decide)
theorem bCs{d:DataW H}: ∀{ds:List (DataW H)},d∈ds→ ∀n∈d.weights P e,n∈DataW.weightsAll P e ds
  | [],h,_,_=>by simp at h
  | d0::ds,h,n,hn=>by
    rw [DataW.weightsAll,List.mem_append]
    rcases List.mem_cons.1 h with rfl | h
    · exact .inl hn
    · exact .inr (bCs h n hn)
theorem opens_slice{α:Type} [Inhabited α]{T:Ty α}(hu:P.underlying t=some (.slice e))(hc:P.cellsOf e=T.E.size)(he:rI enc P w e T.E.cells T.deep):
    rI enc P w t (fun s:Sl α=>[s.v]) (fun s=>(T.sl s).and (Fact.pure (s.list.length*P.bytesOf e≤140737488355328))):=fun fuel cs x h hw=>by
  rcases Deep.open_slice hu h with ⟨rfl,_⟩ | ⟨a,len,cap,m,n,D,Pl,rfl,_,hl,_,hm,rfl,hi⟩
  · exact⟨⟨none,0,[]⟩,rfl,⟨⟨none,0,rfl,fun k x hk=>by simp at hk⟩,fun x hx=>by simp at hx⟩,by show 0*_≤_;omega⟩
  · have hlm:len≤m:=by rw [hm];simp;exact hl
    have hwl:len*P.bytesOf e≤140737488355328:=by
      have:=hw ((((List.range len).map D).length+((List.range (m-len)).map fun j=>D (len+j)).length)*P.bytesOf e) (by simp [DataW.weights,hu]);have h2:len*P.bytesOf e≤(len+(m-len))*P.bytesOf e:=Nat.mul_le_mul_right _ (by omega);simp only [List.length_map,List.length_range] at this;unfold reachBytes at this;omega
    have hel: ∀i,i<len→ ∃q:α,(∀j,j<T.E.size→w.cell? ((a.add (i*T.E.size)).add j)=(T.E.cells q)[j]?)∧(T.deep q).p (fun b=>b<w.heap.size) w:=fun i hil=>by
      obtain⟨cs',hc',ht⟩:=hi i (by omega);rw [hc] at hc';obtain⟨_,hcl,hat⟩:=World.cells?_some hc'
      obtain⟨q,hq,hd⟩:=he _ _ _ ht (fun n hn=>hw n (by
        simp only [DataW.weights,hu,List.mem_cons,List.mem_append]
        exact .inr (.inl (bCs (List.mem_map.2 ⟨i,by simpa using hil,rfl⟩) n hn))))
      exact⟨q,fun j hj=>by rw [hat j hj,hq],hd⟩
    obtain⟨f,hf⟩: ∃f:Nat→α,∀i,i<len→(∀j,j<T.E.size→w.cell? ((a.add (i*T.E.size)).add j)=(T.E.cells (f i))[j]?)∧(T.deep (f i)).p (fun b=>b<w.heap.size) w:=
      ⟨fun i=>if h:i<len then (hel i h).choose else default,fun i hil=>by simp only [dif_pos hil];exact(hel i hil).choose_spec⟩
    refine⟨⟨some a,cap,(List.range len).map f⟩,by simp [Sl.v],⟨⟨some a,cap,rfl,fun k q hk=>?_⟩,fun q hq=>?_⟩,by show((List.range len).map f).length*_≤_;simpa using hwl⟩
    · have hkl:k<len:=by simpa using (List.getElem?_eq_some_iff.1 hk).1
      have hq:q=f k:=by
        have:=(List.getElem?_eq_some_iff.1 hk).2
        simpa using this.symm
      subst hq;have hc:=(hf k hkl).1;obtain⟨ab,ao,asp⟩:=a
      have hsp:asp=none:=by
        have h0:=(hf 0 (by omega)).1 0 T.E.pos;have hlt:0<(T.E.cells (f 0)).length:=by rw [T.E.len];exact T.E.pos
        rw [List.getElem?_eq_getElem hlt,Nat.zero_mul] at h0;have h1:w.cell? ⟨ab,ao,asp⟩=some ((T.E.cells (f 0))[0]):=by simpa [Addr.add] using h0
        exact spotOf h1
      subst hsp
      have ea: ∀o i,(⟨ab,o,none⟩:Addr).add i=⟨ab,o+i,none⟩:=fun o i=>by
        unfold Addr.add;split<;>simp_all
      refine⟨ab,ao,T.E.cells (f k),rfl,?_,fun j u hj=>?_,rfl⟩
      · have hlt:0<(T.E.cells (f k)).length:=by rw [T.E.len];exact T.E.pos
        have h0:=hc 0 T.E.pos;rw [List.getElem?_eq_getElem hlt,ea,ea] at h0
        rcases Nat.lt_or_ge ab w.heap.size with hlt | hge
        · exact hlt
        · simp [World.cell?,Array.getElem?_eq_none hge] at h0
      · have hjl:j<T.E.size:=by
          have:=(List.getElem?_eq_some_iff.1 hj).1
          rwa [T.E.len] at this
        have:=hc j hjl;rw [ea,ea] at this;exact this.trans hj
    · obtain⟨i,hil,rfl⟩:=List.mem_map.1 hq;exact(hf i (by simpa using hil)).2
def slE (α:Type):Flat (Sl α) where
  size:=1
  cells:=fun s=>[.slice s.addr s.list.length s.cap]
  len:=fun _=>rfl
  one:=fun x u hu=>by simp at hu;subst hu;rfl
  pos:=by decide
def Ty.slice{α:Type}(T:Ty α)(b:Nat):Ty (Sl α):=⟨slE α,fun s=>(T.sl s).and (Fact.pure (s.list.length*b≤140737488355328))⟩
theorem zU{α:Type} [Inhabited α]{T:Ty α}{b:Nat}(hu:P.underlying t=some (.slice e))(hc:P.cellsOf e=T.E.size)(hb:P.bytesOf e=b)(he:rI enc P w e T.E.cells T.deep):rI enc P w t (T.slice b).E.cells (T.slice b).deep:=by
  subst hb;exact opens_slice hu hc he
theorem wB{fs:Array Field}{ds:List (DataW H)}{R:Nat}(hu:P.underlying t=some (.struct fs))(hw: ∀n∈(DataW.agg ds).weights P t,n≤R){j:Nat}{f:Field}(hf:fs[j]?=some f){d:DataW H}(hd:ds[j]?=some d): ∀n∈d.weights P f.type,n≤R:=fun n hn=>by
  refine hw n ?_;simp only [DataW.weights,hu];refine DataW.weights_mem_each (j:=j) (t:=f.type) (d:=d) ?_ hd n hn;have:fs.toList[j]?=some f:=by simpa using hf
  simp [this]
theorem rI.arg{α:Type}{cells:α→List Value}{deep:α→Fact}(h:rI enc P w t cells deep){v:Value}{d:DataW H}{p:List MemPlace}(ht:DataW.Trod enc P w 0 (fun _=>true) true t v d p){ts:List TypeId}{ds:List (DataW H)}{j:Nat}
    (hsz:(DataW.weightsEach P ts ds).all (· ≤reachBytes)=true) (hj:ts[j]?=some t) (hd:ds[j]?=some d): ∃a,v.cells.toList=cells a∧(deep a).p (fun b=>b<w.heap.size) w:=by
  obtain⟨fuel,hf⟩:=ht
  exact h fuel _ _ hf fun n hn=>by
    have:=List.all_eq_true.1 hsz _ (DataW.weights_mem_each hj hd n hn)
    simpa using this
end
def intTy:Ty Int:=⟨cT,fun z=>Fact.pure ((Lit.int .i64 z).wf=true)⟩
end Go.Proofs.YtbgdphbebhjpiaaGreatDoor
namespace Go.Proofs.YtbgdphbebhjpiaaGreatDoor
open Go.RowKit
section
variable {P : Program} {β : fG} {n : Nat} {Γ : Env} {H : List bW} {F : List Fact} {Q : Exit → Act → World → Prop} {K : Act → World → Prop} {T : Tab} {α : Type} {E : Flat α}
theorem gP{ops:Array Oper}{rest:List Oper}{o:Oper}{d:Nat}{x y:Operand}{t e:TypeId}{i:TypeInfo}{z:Value}{by_ c q:Nat}{v:Value}{A:Option Addr}{xs ys:List α}{H':List bW}(hH:dM H (E.row v e xs) H')(hr:cR β H F E A ys)(hg:o.guard=none)
    (ho:o.op= .call {callee:= .builtin .append,args:= #[x,y],argTypes:= #[t,t]}) (hd:o.dst=some d) (hn:Nat.blt d n=true) (hu:P.underlying t=some (.slice e)) (hi:P.info? e=some i) (hz:i.zero=some z) (hsize:i.size=E.size) (hby:i.bytes=by_) (hzs:z.cells.size=E.size)
    (hx:Γ.ev x=some v) (hy:Γ.ev y=some (.slice A q c)) (hq:q=ys.length) (hbytes:(xs.length+ys.length)*by_≤140737488355328) (hpos:0<by_)
    (k: ∀A' cap',At β n ((d,.slice A' (xs++ys).length cap')::Γ) (E.row (.slice A' (xs++ys).length cap') e (xs++ys)::H') F (wpList P ops Q rest)):At β n Γ H F (wpList P ops Q (o::rest)):=by
  by_cases hne:0<ys.length
  · exact bEn hH hr hg ho hd hn hu hi hz hsize hby hzs hx hy hq hne hbytes hpos k
  · have h0:ys=[]:=List.eq_nil_of_length_eq_zero (by omega);subst h0;subst hq;simp only [List.append_nil] at k;refine at_rowv hH fun A' cap' e=>?_;subst e
    cases A with
    | none=>
      have hw:want ops Γ o=some true:=by unfold want;rw [hg]
      refine iM hw fun a w S f s hF=>?_;have hown:w.ownsRow 0 e E.size (.slice A' xs.length cap') xs.length (E.all xs):=s.ok _ hH.mem
      have hr':(Builtin.append_ #[t,t] o.type #[.slice A' xs.length cap',.slice none 0 c]).run P w= .ok (.slice A' xs.length cap') w:=by
        rcases hown.2 with ⟨e,e0⟩ | ⟨g,cap,cur,e,_,_,hnc,_⟩
        · injection e with e1 e2 e3
          subst e1 e3;rw [e2];simp [Builtin.append_,run_underlying hu,sizeOf,typeInfo,hi,Builtin.lenOf,Builtin.firstCells]
        · injection e with e1 e2 e3
          subst e1 e3;simp [Builtin.append_,run_underlying hu,sizeOf,typeInfo,hi,Builtin.lenOf,Builtin.firstCells,hnc,storeCells]
      have hx2:(execOp a.eval o).run P w= .ok (.value (.slice A' xs.length cap')) w:=by
        unfold execOp;simp only [ho,resolve,invoke,builtin,Sem.run_bind,Sem.run_pure,Result.andThen_ok,List.map_toArray,List.map_cons,List.map_nil,f.ev hx,f.ev hy,List.length_nil,hr']
      unfold Oper.wp;rw [hx2,Oper.upon_value,hd];exact k A' cap' _ _ S (f.put (by simpa [Nat.blt_eq] using hn) _) (s.perm hH.perm) hF
    | some ad=>
      intro a w S f s hF;have hown:w.ownsRow 0 e E.size (.slice A' xs.length cap') xs.length (E.all xs):=s.ok _ hH.mem;have hb':xs.length*by_≤140737488355328:=by simpa using hbytes
      have h63:xs.length≤maxLen:=by
        have:xs.length≤xs.length*by_:=Nat.le_mul_of_pos_right _ hpos;simp [maxLen];omega
      refine wpList_append_own_at w hg x y t ho 0 e i z E.size by_ hu hi hz hsize hby hzs E.pos _ xs.length (E.all xs) (f.ev hx) hown ad 0 c [] (f.ev hy) (by simp) (fun j u hj=>by simp at hj) (by simp) h63 hb' (Nat.zero_le _) ?_;intro v' w' hown' hgrow _ hat;rw [List.append_nil] at hown';have s2:=s.perm hH.perm;rw [hd];have s3:=s2.swap_row (lW hgrow) hat hown';refine bHq (β:=β) (n:=n) (Γ:=(d,v')::Γ) (H:= .row v' e E.size (xs.length+0) (E.all xs)::H') (F:=F) (K:=wpList P ops Q rest) .head (fun _ ⟨A2,cap2,e2,_⟩=>?_) _ _ S (f.put (by simpa [Nat.blt_eq] using hn) _) s3 (All.mono (fun _ h=>h) (s.agree (lW hgrow) (fun b hb e=>(s2.own _ (List.mem_cons_self ..) b e.symm).2.2 hb)) hF);subst e2;exact k A2 cap2
theorem at_build0{ops:Array Oper}{rest:List Oper}{o:Oper}{d:Nat}{t e:TypeId}{ie:TypeInfo}(E:Flat α)(hw:want ops Γ o=some true)(ho:o.op= .buildSlice t 0 #[])(hd:o.dst=some d)(hn:Nat.blt d n=true)
    (hu:P.underlying t=some (.slice e)) (hie:P.info? e=some ie)
    (k: ∀b,At β n ((d,.slice (some ⟨b,0,none⟩) 0 0)::Γ) (E.row (.slice (some ⟨b,0,none⟩) 0 0) e []::H) F (wpList P ops Q rest)):At β n Γ H F (wpList P ops Q (o::rest)):=by
  refine vQ (m:=0) (parts:= #[]) (e:=e) (cs:=[]) hw ho hd hn (fun a w f=>?_) fun b=>?_
  · simp [Instr.buildSlice,run_underlying hu,sizeOf,typeInfo,hie,newRow,Instr.fill,Array.range_zero']
  · intro a w S f s hF;have hok:w.heap[b]?=some (.cells #[] e (0,0)):=s.ok _ (List.mem_cons_self ..);refine k b a w S f ⟨s.kept,fun c hc=>?_,fun c hc b' hb=>?_,?_,s.zone⟩ hF
    · rcases List.mem_cons.1 hc with rfl | hc
      · exact⟨by simp [Flat.all],.inr ⟨b,0,#[],rfl,Nat.zero_le _,hok,Nat.le_refl _,by simp [maxLen],by simp,by simp [Flat.all]⟩⟩
      · exact s.ok c (List.mem_cons_of_mem _ hc)
    · rcases List.mem_cons.1 hc with rfl | hc
      · exact s.own (.obj b (.cells #[] e)) (List.mem_cons_self ..) b' hb
      · exact s.own c (List.mem_cons_of_mem _ hc) b' hb
    · have hp:=List.pairwise_cons.1 s.sep;exact List.pairwise_cons.2 ⟨fun d hd b hb=>hp.1 d hd b hb,hp.2⟩
end
end Go.Proofs.YtbgdphbebhjpiaaGreatDoor
namespace Go.Proofs.YtbgdphbebhjpiaaGreatDoor
open Go.RowKit
abbrev Bs:=List UInt8
def bs (l:Bs):ByteArray:=⟨l.toArray⟩
theorem jZ(l:Bs):(bs l).size=l.length:=rfl
theorem bs_data(l:Bs):(bs l).data.toList=l:=rfl
section
variable {P : Program} {β : fG} {n : Nat} {Γ : Env} {H : List bW} {F : List Fact} {Q : Exit → Act → World → Prop} {K : Act → World → Prop} {T : Tab} {α : Type} {E : Flat α}
theorem gV{o:Oper}{t tt:TypeId}{x y:Operand}{a b:Bs}(ho:o.op= .binOp .add t x y tt)(hx:Γ.ev x=some (.string (bs a)))(hy:Γ.ev y=some (.string (bs b)))(hl:a.length+b.length≤9223372036854775807):Sti P β n Γ H F o (.string (bs (a++b))):=fun c w S f s k=>by
  have hl': ¬(((bs a).size+(bs b).size:Nat):Int)>IntKind.i64.max:=by
    rw [jZ,jZ];simp [IntKind.max,IntKind.signed,IntKind.bits];omega
  have e:bs a++bs b=bs (a++b):=by
    apply ByteArray.ext;simp [bs]
  unfold execOp;simp only [ho,f.ev hx,f.ev hy,eqGuard,binOp,Op.stringOp,if_neg hl',e];rfl
theorem oX(hT:gA P T){o:Oper}{t k sz:Nat}{x i:Operand}{kk:IntKind}{z:Int}{a:Bs}{b:UInt8}(ho:o.op= .index t x i)(hx:Γ.ev x=some (.string (bs a)))(hi:Γ.ev i=some (.int kk z))(ht:T.get t=some ⟨.string,sz⟩)(hz:z=(k:Nat))(hb:a[k]?=some b):
    Sti P β n Γ H F o (.int .u8 b.toNat):=fun c w S f s _=>by
  subst hz;obtain⟨hk,hb⟩:=List.getElem?_eq_some_iff.1 hb
  have hr:=run_index_string (P:=P) w t (bs a) kk (k:Int) (by
    have:=hT.string ht w;obtain⟨d,hu,hd⟩:=hT.any ht;cases d<;>simp [TD.of] at hd
    exact hu)
  rw [dif_pos ⟨by omega,by rw [jZ];omega⟩] at hr
  have e:(bs a)[(k:Int).toNat]'(by rw [jZ];simpa using hk)=b:=by
    rw [←hb];simp [bs,ByteArray.getElem_eq_getElem_data]
  unfold execOp;simp only [ho,f.ev hx,f.ev hi];rw [Sem.run_bind,hr,e];rfl
theorem gA.str(hT:gA P T){t sz:Nat}(ht:T.get t=some ⟨.string,sz⟩):P.underlying t=some .string:=by
  obtain⟨d,hu,hd⟩:=hT.any ht;cases d<;>simp [TD.of] at hd
  exact hu
theorem bDr(hT:gA P T){t sz:Nat}(ht:T.get t=some ⟨.string,sz⟩)(a:Bs)(lo hi mx:Option Value)(w:World):(Instr.sliceAt t (.string (bs a)) lo hi mx).run P w=(Instr.slice t (.string (bs a)) lo hi mx).run P w:=by
  have hu:=hT.str ht;simp [Instr.sliceAt,run_underlying hu]
theorem bLz(hT:gA P T){o:Oper}{t k sz:Nat}{x i:Operand}{kk:IntKind}{z:Int}{a:Bs}(ho:o.op= .slice t x (some i) none none)(hx:Γ.ev x=some (.string (bs a)))(hi:Γ.ev i=some (.int kk z))(ht:T.get t=some ⟨.string,sz⟩)(hz:z=(k:Nat))(hk:k≤a.length):
    Sti P β n Γ H F o (.string (bs (a.drop k))):=fun c w S f s _=>by
  subst hz;have hr:=run_slice_string_l (P:=P) w t (bs a) (hT.str ht) kk (k:Int) (by omega) (by rw [jZ];omega)
  have e:(bs a).extract (k:Int).toNat (bs a).size=bs (a.drop k):=by
    rw [jZ];show(ByteArray.mk a.toArray).extract _ _=_;rw [ByteArray.extract_mk,List.take_of_length_le (by simp)];rfl
  unfold execOp;simp only [ho,f.ev hx,Option.map_some,Option.map_none,f.ev hi];rw [Sem.run_bind,bDr hT ht,hr,e];rfl
theorem xD(hT:gA P T){o:Oper}{t k sz:Nat}{x i:Operand}{kk:IntKind}{z:Int}{a:Bs}(ho:o.op= .slice t x none (some i) none)(hx:Γ.ev x=some (.string (bs a)))(hi:Γ.ev i=some (.int kk z))(ht:T.get t=some ⟨.string,sz⟩)(hz:z=(k:Nat))(hk:k≤a.length):
    Sti P β n Γ H F o (.string (bs (a.take k))):=fun c w S f s _=>by
  subst hz;have hr:=run_slice_string_h (P:=P) w t (bs a) (hT.str ht) kk (k:Int) (by omega) (by rw [jZ];omega)
  have e:(bs a).extract 0 (k:Int).toNat=bs (a.take k):=by
    show(ByteArray.mk a.toArray).extract _ _=_;rw [ByteArray.extract_mk];rfl
  unfold execOp;simp only [ho,f.ev hx,Option.map_some,Option.map_none,f.ev hi];rw [Sem.run_bind,bDr hT ht,hr,e];rfl
def jP (A:Option Addr)(l size c:Nat):Option Addr:=if c=l then A else A.map (·.add (l*size))
end
end Go.Proofs.YtbgdphbebhjpiaaGreatDoor
namespace Go.Proofs.YtbgdphbebhjpiaaGreatDoor
open Go.RowKit
section
variable {P : Program} {β : fG} {n : Nat} {Γ : Env} {H : List bW} {F : List Fact} {Q : Exit → Act → World → Prop} {K : Act → World → Prop} {T : Tab} {α : Type} {E : Flat α}
theorem at_scope{c:Code}(h:At β n Γ H F (c.wp P (Exit.noGoto Q))):At β n Γ H F ((Code.scope c).wp P Q):=fun a w S f s k=>wp_scope_straight (h a w S f s k)
theorem at_label{l:Nat}(h:At β n Γ H F (Q .normal)):At β n Γ H F ((Code.label l).wp P Q):=fun a w S f s k=>wp_label (h a w S f s k)
theorem r_scope(h:At β n Γ H F (Q .ret)):At β n Γ H F (Exit.noGoto Q .ret):=h
theorem run_callv{o:Oper}{f:FuncId}{x:Operand}{first cap:Array Value}{ars:Array Operand}{ts:Array TypeId}{vs:List Value}{a:Act}(hcf: ∀(args:Array Value) (w:World),(callFunc f args).run P w= .ok (.enter f args) w)(ho:o.op= .call ⟨.value x,ars,ts⟩)(fi:kX n Γ a)
    (hx:Γ.ev x=some (.func (.func f) first cap)) (hv:Γ.evs ars.toList=some vs) (w:World):(execOp a.eval o).run P w= .ok (.enter f (first++vs.toArray++cap)) w:=by
  have hm:ars.map a.eval=vs.toArray:=by
    apply Array.ext'
    simpa using fi.evs hv
  unfold execOp;simp only [ho,resolve,fi.ev hx,Deferred.ofValue,Sem.run_bind,Sem.run_pure,Result.andThen_ok,invoke];simp [hm,hcf]
theorem gZ{ι:Type}{ops:Array Oper}{rest:List Oper}{o:Oper}{d:Nat}{f:FuncId}{x:Operand}{first cap:Array Value}{ars:Array Operand}{ts:Array TypeId}{vs all:List Value}{Hin H2:List bW}{Pre:List Fact}{val:ι→Value}{Hout:ι→List bW}{post:ι→List Fact}
    (hcf: ∀(args:Array Value) (w:World),(callFunc f args).run P w= .ok (.enter f args) w) (hs:dH P f all Hin Pre val Hout post) (hw:want ops Γ o=some true) (ho:o.op= .call ⟨.value x,ars,ts⟩) (hx:Γ.ev x=some (.func (.func f) first cap)) (hd:o.dst=some d) (hn:Nat.blt d n=true)
    (hv:Γ.evs ars.toList=some vs) (hall:first.toList++vs++cap.toList=all) (hH:nU H Hin H2) (hF:bF F Pre) (k: ∀x,At β n ((d,val x)::Γ) (Hout x++H2) (post x++F) (wpList P ops Q rest)):At β n Γ H F (wpList P ops Q (o::rest)):=
  iM hw fun a w S f s hk=>by
    unfold Oper.wp;rw [run_callv hcf ho f hx hv w,Oper.upon_enter]
    have e:first++vs.toArray++cap=all.toArray:=by
      rw [←hall];apply Array.ext';simp
    rw [e];have s1:=s.perm hH.perm;refine(hs S w s1.enter (hF.all S w hk)).mono ?_;rintro e w' ⟨x,S',rfl,s',k'⟩;show wpList P ops Q rest (a.put o.dst (val x)) w';rw [hd];exact k x _ _ _ (f.put (by simpa [Nat.blt_eq] using hn) _) (s1.leave s') ((All.mono (fun _ h=> .inr h) (fun _ _=>rfl) k').append (All.leave s1 s' hk))
def resVal(a:Act):ResultVar→Sem Value
  | .tmp t=>pure (a.tmps.getD t undef)
  | .cell ad t=>do loadVar t (←asAddr (a.tmps.getD ad undef))
def RV (P:Program)(β:fG)(n:Nat)(Γ:Env)(H:List bW)(F:List Fact)(r:ResultVar)(v:Value):Prop:= ∀a w S,kX n Γ a→St β H S w→All F S w→(resVal a r).run P w= .ok v w
theorem bD{t:Nat}{v:Value}(h:Γ.get t=some v):RV P β n Γ H F (.tmp t) v:=fun a w S f _ _=>by
  have:=f.get t v h;simp [resVal,Array.getD_eq_getD_getElem?,this]
theorem bN(hT:gA P T){t ty b q:Nat}{i:TI}{cs l:List Value}(hk:nY β H F b q cs)(h:Γ.get t=some (.pointer (some ⟨b,q,none⟩)))(ht:T.get ty=some i)(ha:aggD i.desc=true)(hv:cut cs 0 i.size=some l):RV P β n Γ H F (.cell t ty) (.agg l.toArray):=fun a w S f s k=>by
  have:=f.get t _ h;obtain⟨h1,h2,h3⟩:=wI hv;have hl:=run_loadCells_list (P:=P) w ⟨b,q,none⟩ l (fun j u hj=>by rw [Addr.add_mid];exact hk w S s k j u (by simpa using h3 j u hj));rw [h2] at hl;unfold resVal;simp only [Array.getD_eq_getD_getElem?,this,Option.getD_some,asAddr,Sem.run_bind,Sem.run_pure,Result.andThen_ok,loadVar,hT.agg ht,ha,if_true,hT.size ht,hl]
theorem tO(fn:Func)(a:Act):results fn a.tmps=(do let vs←fn.results.mapM (resVal a);pure (if h:vs.size=1 then vs[0] else .tuple vs)):=by
  have e:(fun x:ResultVar=>(match x with | .tmp t=>pure (a.tmps.getD t undef) | .cell ad t=>do loadVar t (←asAddr (a.tmps.getD ad undef)):Sem Value))=resVal a:=by
    funext x
    cases x<;>rfl
  unfold results;rw [←e];rfl
section
variable {ι : Type} {fn : Func} {val : ι → Value} {Hout : ι → List bW} {post : ι → List Fact} {r1 r2 r3 : ResultVar} {v1 v2 v3 : Value}
theorem uE(x:ι)(hr:fn.results= #[])(hH:Sel H (Hout x))(hF:bF F (post x))(he: .tuple #[]=val x):At β n Γ H F (bodyPost P fn (Done β val Hout post) .normal):=fun a w S f s k=>by
  refine⟨f.defers,.tuple #[],?_,x,S,by rw [he],s.sel hH,hF.all S w k⟩;rw [tO,hr];simp
theorem bR(x:ι)(hr:fn.results= #[r1])(h1:RV P β n Γ H F r1 v1)(hH:Sel H (Hout x))(hF:bF F (post x))(he:v1=val x):At β n Γ H F (bodyPost P fn (Done β val Hout post) .ret):=fun a w S f s k=>by
  refine⟨f.defers,v1,?_,x,S,by rw [he],s.sel hH,hF.all S w k⟩;rw [tO,hr];simp [h1 a w S f s k]
theorem bM(x:ι)(hr:fn.results= #[r1,r2])(h1:RV P β n Γ H F r1 v1)(h2:RV P β n Γ H F r2 v2)(hH:Sel H (Hout x))(hF:bF F (post x))(he: .tuple #[v1,v2]=val x):At β n Γ H F (bodyPost P fn (Done β val Hout post) .ret):=fun a w S f s k=>by
  refine⟨f.defers,.tuple #[v1,v2],?_,x,S,by rw [he],s.sel hH,hF.all S w k⟩;rw [tO,hr];simp [h1 a w S f s k,h2 a w S f s k]
theorem mF(x:ι)(hr:fn.results= #[r1,r2,r3])(h1:RV P β n Γ H F r1 v1)(h2:RV P β n Γ H F r2 v2)(h3:RV P β n Γ H F r3 v3)(hH:Sel H (Hout x))(hF:bF F (post x))(he: .tuple #[v1,v2,v3]=val x):At β n Γ H F (bodyPost P fn (Done β val Hout post) .ret):=fun a w S f s k=>by
  refine⟨f.defers,.tuple #[v1,v2,v3],?_,x,S,by rw [he],s.sel hH,hF.all S w k⟩;rw [tO,hr];simp [h1 a w S f s k,h2 a w S f s k,h3 a w S f s k]
end
end
theorem or_u8(a b:UInt8):IntKind.u8.wrap (((BitVec.ofInt IntKind.u8.bits (a.toNat:Int) ||| BitVec.ofInt IntKind.u8.bits (b.toNat:Int)).toNat:Nat):Int)=(((a ||| b).toNat:Nat):Int):=by
  show IntKind.u8.wrap (((BitVec.ofInt 8 (a.toNat:Int) ||| BitVec.ofInt 8 (b.toNat:Int)).toNat:Nat):Int)=_
  have h1: ∀c:UInt8,BitVec.ofInt 8 (c.toNat:Int)=c.toBitVec:=fun c=>by
    apply BitVec.eq_of_toNat_eq;simp
  rw [h1,h1];have h2:(a.toBitVec ||| b.toBitVec).toNat=(a ||| b).toNat:=rfl;have h3:=(a ||| b).toNat_lt;rw [h2];generalize (a ||| b).toNat=c at*;simp only [IntKind.wrap,IntKind.signed,IntKind.bits];simp;omega
theorem bNm{H:Type}{enc:TypeId×Value→H}{P:Program}{w:World}{t:TypeId}(hu:P.underlying t=some .string):rI enc P w t (fun s:Bs=>[.string (bs s)]) (fun s=>Fact.pure (s.length≤140737488355328)):=fun fuel cs x h hw=>by
  obtain⟨s,e,hs⟩:=opens_string hu fuel cs x h hw;exact⟨s.data.toList,e,hs⟩
end Go.Proofs.YtbgdphbebhjpiaaGreatDoor
namespace Go.Proofs.YtbgdphbebhjpiaaGreatDoor
open Go.RowKit Go.ChangeShapes Go.WideShapes
def lP:Flat Bs where
  size:=1
  cells:=fun x=>[.string (bs x)]
  len:=fun _=>rfl
  one:=fun x u hu=>by simp at hu;subst hu;rfl
  pos:=by decide
structure TokV where
  kind:Int
  at_:Int
  word:Bs
  n:Int
  deriving Inhabited
def lC:Flat TokV where
  size:=4
  cells:=fun x=>[.int .i64 x.kind,.int .i64 x.at_,.string (bs x.word),.int .i64 x.n]
  len:=fun _=>rfl
  one:=fun x u hu=>by
    simp at hu
    rcases hu with rfl | rfl | rfl | rfl<;>rfl
  pos:=by decide
structure FltV where
  at_:Int
  code:Int
  deriving Inhabited
structure jH where
  name:Bs
  n:Int
  deriving Inhabited
def bIy:Flat jH where
  size:=2
  cells:=fun x=>[.string (bs x.name),.int .i64 x.n]
  len:=fun _=>rfl
  one:=fun x u hu=>by
    simp at hu
    rcases hu with rfl | rfl<;>rfl
  pos:=by decide
structure InputV where
  name:Bs
  at_:Int
  sides:(Sl jH)
  deriving Inhabited
def jT:Flat InputV where
  size:=3
  cells:=fun x=>[.string (bs x.name),.int .i64 x.at_,.slice x.sides.addr x.sides.list.length x.sides.cap]
  len:=fun _=>rfl
  one:=fun x u hu=>by
    simp at hu
    rcases hu with rfl | rfl | rfl<;>rfl
  pos:=by decide
structure ItemV where
  how:Int
  at_:Int
  fn:Int
  name:Bs
  nums:(Sl Int)
  deriving Inhabited
def lL:Flat ItemV where
  size:=5
  cells:=fun x=>[.int .i64 x.how,.int .i64 x.at_,.int .u8 x.fn,.string (bs x.name),.slice x.nums.addr x.nums.list.length x.nums.cap]
  len:=fun _=>rfl
  one:=fun x u hu=>by
    simp at hu
    rcases hu with rfl | rfl | rfl | rfl | rfl<;>rfl
  pos:=by decide
structure LineV where
  name:Bs
  at_:Int
  items:(Sl ItemV)
  deriving Inhabited
def nR:Flat LineV where
  size:=3
  cells:=fun x=>[.string (bs x.name),.int .i64 x.at_,.slice x.items.addr x.items.list.length x.items.cap]
  len:=fun _=>rfl
  one:=fun x u hu=>by
    simp at hu
    rcases hu with rfl | rfl | rfl<;>rfl
  pos:=by decide
structure ProgV where
  inputs:(Sl InputV)
  lines:(Sl LineV)
  deriving Inhabited
def showT:Tab:=[(3,⟨.int .i64,1⟩),(2,⟨.int .i64,1⟩),(5,⟨.int .u8,1⟩),(9,⟨.string,1⟩),(4,⟨.bool,1⟩),(50,⟨.int .u8,1⟩),(34,⟨.int .i64,1⟩),(30,⟨.slice 2,1⟩),(27,⟨.slice 9,1⟩),(104,⟨.struct [(3,0),(3,1),(9,2),(2,3)],4⟩),(97,⟨.slice 104,1⟩),(36,⟨.struct [(3,0),(34,1)],2⟩),(63,⟨.struct [(9,0),(2,1)],2⟩),(59,⟨.slice 63,1⟩),(61,⟨.struct [(9,0),(3,1),(59,2)],3⟩),(22,⟨.slice 61,1⟩),(52,⟨.struct [(3,0),(3,1),(50,2),(9,3),(30,4)],5⟩),(47,⟨.slice 52,1⟩),(49,⟨.struct [(9,0),(3,1),(47,2)],3⟩),(23,⟨.slice 49,1⟩),(25,⟨.struct [(22,0),(23,1)],2⟩),(102,⟨.struct [(97,0),(3,1),(3,2)],3⟩),(100,⟨.other,1⟩),(208,⟨.slice 1,1⟩),(1,⟨.other,1⟩)]
theorem fH:gA Tryz.prog showT:=vP.ok
  ⟨⟨by rw [Tryz.underlying3];rfl,by kernel_rfl⟩,
    ⟨by rw [Tryz.underlying2];rfl,by kernel_rfl⟩,
    ⟨by rw [Tryz.underlying5];rfl,by kernel_rfl⟩,
    ⟨by rw [Tryz.underlying9];rfl,by kernel_rfl⟩,
    ⟨by rw [Tryz.underlying4];rfl,by kernel_rfl⟩,
    ⟨by rw [Tryz.underlying50];rfl,by kernel_rfl⟩,
    ⟨by rw [Tryz.underlying34];rfl,by kernel_rfl⟩,
    ⟨by rw [Tryz.underlying30];rfl,by kernel_rfl⟩,
    ⟨by rw [Tryz.underlying27];rfl,by kernel_rfl⟩,
    ⟨by rw [Tryz.underlying104];rfl,by kernel_rfl⟩,
    ⟨by rw [Tryz.underlying97];rfl,by kernel_rfl⟩,
    ⟨by rw [Tryz.underlying36];rfl,by kernel_rfl⟩,
    ⟨by rw [Tryz.underlying63];rfl,by kernel_rfl⟩,
    ⟨by rw [Tryz.underlying59];rfl,by kernel_rfl⟩,
    ⟨by rw [Tryz.underlying61];rfl,by kernel_rfl⟩,
    ⟨by rw [Tryz.underlying22];rfl,by kernel_rfl⟩,
    ⟨by rw [Tryz.underlying52];rfl,by kernel_rfl⟩,
    ⟨by rw [Tryz.underlying47];rfl,by kernel_rfl⟩,
    ⟨by rw [Tryz.underlying49];rfl,by kernel_rfl⟩,
    ⟨by rw [Tryz.underlying23];rfl,by kernel_rfl⟩,
    ⟨by rw [Tryz.underlying25];rfl,by kernel_rfl⟩,
    ⟨by rw [Tryz.underlying102];rfl,by kernel_rfl⟩,
    ⟨by rw [Tryz.underlying100];rfl,by kernel_rfl⟩,
    ⟨by rw [Tryz.underlying208];rfl,by kernel_rfl⟩,
    ⟨by rw [Tryz.underlying1];rfl,by kernel_rfl⟩,trivial⟩
theorem tokInfo: ∃i:TypeInfo,Tryz.prog.info? 104=some i∧i.zero=some (.agg #[.int .i64 0,.int .i64 0,.string (bs []),.int .i64 0])∧i.size=4∧i.bytes=40:=by
  have h:(Tryz.prog.info? 104).map (fun i=>(i.zero,i.size,i.bytes))=some (some (.agg #[.int .i64 0,.int .i64 0,.string (bs []),.int .i64 0]),4,40):=by kernel_rfl
  cases hi:Tryz.prog.info? 104 with
  | none=>simp [hi] at h
  | some i=>simp [hi] at h;exact⟨i,rfl,h.1,h.2.1,h.2.2⟩
theorem at_one_tok{β:fG}{n:Nat}{Γ:Env}{H:List bW}{F:List Fact}{Q:Exit→Act→World→Prop}{ops:Array Oper}{rest:List Oper}{o:Oper}{d:Nat}{x:Operand}{m:TokV}(hw:want ops Γ o=some true)(ho:o.op= .buildSlice 97 1 #[(0,x)])(hd:o.dst=some d)(hn:Nat.blt d n=true)
    (hx:Γ.ev x=some (.agg #[.int .i64 m.kind,.int .i64 m.at_,.string (bs m.word),.int .i64 m.n])) (k: ∀b,At β n ((d,.slice (some ⟨b,0,none⟩) 1 1)::Γ) (.obj b (.cells (lC.all [m]).toArray 104)::H) F (wpList Tryz.prog ops Q rest)):At β n Γ H F (wpList Tryz.prog ops Q (o::rest)):=by
  obtain⟨i,hi,hz,hs,_⟩:=tokInfo;refine kI hw ho hd hn hx Tryz.underlying97 hi hz (by omega) (by omega) ?_ k;rw [hs]
  kernel_rfl
theorem at_app_tok{β:fG}{n:Nat}{Γ:Env}{H:List bW}{F:List Fact}{Q:Exit→Act→World→Prop}{ops:Array Oper}{rest:List Oper}{o:Oper}{d:Nat}{x y:Operand}{c q:Nat}{v:Value}{A:Option Addr}{xs ys:List TokV}{H':List bW}(hH:dM H (lC.row v 104 xs) H')(hr:cR β H F lC A ys)(hg:o.guard=none)
    (ho:o.op= .call {callee:= .builtin .append,args:= #[x,y],argTypes:= #[97,97]}) (hd:o.dst=some d) (hn:Nat.blt d n=true)
    (hx:Γ.ev x=some v) (hy:Γ.ev y=some (.slice A q c)) (hq:q=ys.length) (hl:xs.length+ys.length≤3518437208883)
    (k: ∀A' cap',At β n ((d,.slice A' (xs++ys).length cap')::Γ) (lC.row (.slice A' (xs++ys).length cap') 104 (xs++ys)::H') F (wpList Tryz.prog ops Q rest)):At β n Γ H F (wpList Tryz.prog ops Q (o::rest)):=by
  obtain⟨i,hi,hz,hs,hb⟩:=tokInfo;exact gP hH hr hg ho hd hn Tryz.underlying97 hi hz hs hb rfl hx hy hq (by omega) (by decide) k
theorem intInfo: ∃i:TypeInfo,Tryz.prog.info? 2=some i∧i.zero=some (.int .i64 0)∧i.size=1∧i.bytes=8:=by
  have h:(Tryz.prog.info? 2).map (fun i=>(i.zero,i.size,i.bytes))=some (some (.int .i64 0),1,8):=by kernel_rfl
  cases hi:Tryz.prog.info? 2 with
  | none=>simp [hi] at h
  | some i=>simp [hi] at h;exact⟨i,rfl,h.1,h.2.1,h.2.2⟩
theorem fT{β:fG}{n:Nat}{Γ:Env}{H:List bW}{F:List Fact}{Q:Exit→Act→World→Prop}{ops:Array Oper}{rest:List Oper}{o:Oper}{d:Nat}{x:Operand}{m:Int}(hw:want ops Γ o=some true)(ho:o.op= .buildSlice 30 1 #[(0,x)])(hd:o.dst=some d)(hn:Nat.blt d n=true)
    (hx:Γ.ev x=some (.int .i64 m)) (k: ∀b,At β n ((d,.slice (some ⟨b,0,none⟩) 1 1)::Γ) (.obj b (.cells (cT.all [m]).toArray 2)::H) F (wpList Tryz.prog ops Q rest)):At β n Γ H F (wpList Tryz.prog ops Q (o::rest)):=by
  obtain⟨i,hi,hz,hs,_⟩:=intInfo;refine kI hw ho hd hn hx Tryz.underlying30 hi hz (by omega) (by omega) ?_ k;rw [hs]
  kernel_rfl
theorem bCw{β:fG}{n:Nat}{Γ:Env}{H:List bW}{F:List Fact}{Q:Exit→Act→World→Prop}{ops:Array Oper}{rest:List Oper}{o:Oper}{d:Nat}(hw:want ops Γ o=some true)(ho:o.op= .buildSlice 30 0 #[])(hd:o.dst=some d)(hn:Nat.blt d n=true)
    (k: ∀b,At β n ((d,.slice (some ⟨b,0,none⟩) 0 0)::Γ) (cT.row (.slice (some ⟨b,0,none⟩) 0 0) 2 []::H) F (wpList Tryz.prog ops Q rest)):At β n Γ H F (wpList Tryz.prog ops Q (o::rest)):=by
  obtain⟨i,hi,_⟩:=intInfo;exact at_build0 cT hw ho hd hn Tryz.underlying30 hi k
theorem jW{β:fG}{n:Nat}{Γ:Env}{H:List bW}{F:List Fact}{Q:Exit→Act→World→Prop}{ops:Array Oper}{rest:List Oper}{o:Oper}{d:Nat}{x y:Operand}{c q:Nat}{v:Value}{A:Option Addr}{xs ys:List Int}{H':List bW}(hH:dM H (cT.row v 2 xs) H')(hr:cR β H F cT A ys)(hg:o.guard=none)
    (ho:o.op= .call {callee:= .builtin .append,args:= #[x,y],argTypes:= #[30,30]}) (hd:o.dst=some d) (hn:Nat.blt d n=true)
    (hx:Γ.ev x=some v) (hy:Γ.ev y=some (.slice A q c)) (hq:q=ys.length) (hl:xs.length+ys.length≤17592186044416)
    (k: ∀A' cap',At β n ((d,.slice A' (xs++ys).length cap')::Γ) (cT.row (.slice A' (xs++ys).length cap') 2 (xs++ys)::H') F (wpList Tryz.prog ops Q rest)):At β n Γ H F (wpList Tryz.prog ops Q (o::rest)):=by
  obtain⟨i,hi,hz,hs,hb⟩:=intInfo;exact gP hH hr hg ho hd hn Tryz.underlying30 hi hz hs hb rfl hx hy hq (by omega) (by decide) k
theorem strInfo: ∃i:TypeInfo,Tryz.prog.info? 9=some i∧i.zero=some (.string (bs []))∧i.size=1∧i.bytes=16:=by
  have h:(Tryz.prog.info? 9).map (fun i=>(i.zero,i.size,i.bytes))=some (some (.string (bs [])),1,16):=by kernel_rfl
  cases hi:Tryz.prog.info? 9 with
  | none=>simp [hi] at h
  | some i=>simp [hi] at h;exact⟨i,rfl,h.1,h.2.1,h.2.2⟩
theorem jB{β:fG}{n:Nat}{Γ:Env}{H:List bW}{F:List Fact}{Q:Exit→Act→World→Prop}{ops:Array Oper}{rest:List Oper}{o:Oper}{d:Nat}{x:Operand}{m:Bs}(hw:want ops Γ o=some true)(ho:o.op= .buildSlice 27 1 #[(0,x)])(hd:o.dst=some d)(hn:Nat.blt d n=true)
    (hx:Γ.ev x=some (.string (bs m))) (k: ∀b,At β n ((d,.slice (some ⟨b,0,none⟩) 1 1)::Γ) (.obj b (.cells (lP.all [m]).toArray 9)::H) F (wpList Tryz.prog ops Q rest)):At β n Γ H F (wpList Tryz.prog ops Q (o::rest)):=by
  obtain⟨i,hi,hz,hs,_⟩:=strInfo;refine kI hw ho hd hn hx Tryz.underlying27 hi hz (by omega) (by omega) ?_ k;rw [hs]
  kernel_rfl
theorem kV{β:fG}{n:Nat}{Γ:Env}{H:List bW}{F:List Fact}{Q:Exit→Act→World→Prop}{ops:Array Oper}{rest:List Oper}{o:Oper}{d:Nat}{x y:Operand}{c q:Nat}{v:Value}{A:Option Addr}{xs ys:List Bs}{H':List bW}(hH:dM H (lP.row v 9 xs) H')(hr:cR β H F lP A ys)(hg:o.guard=none)
    (ho:o.op= .call {callee:= .builtin .append,args:= #[x,y],argTypes:= #[27,27]}) (hd:o.dst=some d) (hn:Nat.blt d n=true)
    (hx:Γ.ev x=some v) (hy:Γ.ev y=some (.slice A q c)) (hq:q=ys.length) (hl:xs.length+ys.length≤8796093022208)
    (k: ∀A' cap',At β n ((d,.slice A' (xs++ys).length cap')::Γ) (lP.row (.slice A' (xs++ys).length cap') 9 (xs++ys)::H') F (wpList Tryz.prog ops Q rest)):At β n Γ H F (wpList Tryz.prog ops Q (o::rest)):=by
  obtain⟨i,hi,hz,hs,hb⟩:=strInfo;exact gP hH hr hg ho hd hn Tryz.underlying27 hi hz hs hb rfl hx hy hq (by omega) (by decide) k
theorem sideInfo: ∃i:TypeInfo,Tryz.prog.info? 63=some i∧i.zero=some (.agg #[.string (bs []),.int .i64 0])∧i.size=2∧i.bytes=24:=by
  have h:(Tryz.prog.info? 63).map (fun i=>(i.zero,i.size,i.bytes))=some (some (.agg #[.string (bs []),.int .i64 0]),2,24):=by kernel_rfl
  cases hi:Tryz.prog.info? 63 with
  | none=>simp [hi] at h
  | some i=>simp [hi] at h;exact⟨i,rfl,h.1,h.2.1,h.2.2⟩
theorem bEb{β:fG}{n:Nat}{Γ:Env}{H:List bW}{F:List Fact}{Q:Exit→Act→World→Prop}{ops:Array Oper}{rest:List Oper}{o:Oper}{d:Nat}{x:Operand}{m:jH}(hw:want ops Γ o=some true)(ho:o.op= .buildSlice 59 1 #[(0,x)])(hd:o.dst=some d)(hn:Nat.blt d n=true)
    (hx:Γ.ev x=some (.agg #[.string (bs m.name),.int .i64 m.n])) (k: ∀b,At β n ((d,.slice (some ⟨b,0,none⟩) 1 1)::Γ) (.obj b (.cells (bIy.all [m]).toArray 63)::H) F (wpList Tryz.prog ops Q rest)):At β n Γ H F (wpList Tryz.prog ops Q (o::rest)):=by
  obtain⟨i,hi,hz,hs,_⟩:=sideInfo;refine kI hw ho hd hn hx Tryz.underlying59 hi hz (by omega) (by omega) ?_ k;rw [hs]
  kernel_rfl
theorem bDf{β:fG}{n:Nat}{Γ:Env}{H:List bW}{F:List Fact}{Q:Exit→Act→World→Prop}{ops:Array Oper}{rest:List Oper}{o:Oper}{d:Nat}{x y:Operand}{c q:Nat}{v:Value}{A:Option Addr}{xs ys:List jH}{H':List bW}(hH:dM H (bIy.row v 63 xs) H')(hr:cR β H F bIy A ys)(hg:o.guard=none)
    (ho:o.op= .call {callee:= .builtin .append,args:= #[x,y],argTypes:= #[59,59]}) (hd:o.dst=some d) (hn:Nat.blt d n=true)
    (hx:Γ.ev x=some v) (hy:Γ.ev y=some (.slice A q c)) (hq:q=ys.length) (hl:xs.length+ys.length≤5864062014805)
    (k: ∀A' cap',At β n ((d,.slice A' (xs++ys).length cap')::Γ) (bIy.row (.slice A' (xs++ys).length cap') 63 (xs++ys)::H') F (wpList Tryz.prog ops Q rest)):At β n Γ H F (wpList Tryz.prog ops Q (o::rest)):=by
  obtain⟨i,hi,hz,hs,hb⟩:=sideInfo;exact gP hH hr hg ho hd hn Tryz.underlying59 hi hz hs hb rfl hx hy hq (by omega) (by decide) k
theorem bLs: ∃i:TypeInfo,Tryz.prog.info? 61=some i∧i.zero=some (.agg #[.string (bs []),.int .i64 0,.slice none 0 0])∧i.size=3∧i.bytes=48:=by
  have h:(Tryz.prog.info? 61).map (fun i=>(i.zero,i.size,i.bytes))=some (some (.agg #[.string (bs []),.int .i64 0,.slice none 0 0]),3,48):=by kernel_rfl
  cases hi:Tryz.prog.info? 61 with
  | none=>simp [hi] at h
  | some i=>simp [hi] at h;exact⟨i,rfl,h.1,h.2.1,h.2.2⟩
theorem bAh{β:fG}{n:Nat}{Γ:Env}{H:List bW}{F:List Fact}{Q:Exit→Act→World→Prop}{ops:Array Oper}{rest:List Oper}{o:Oper}{d:Nat}{x:Operand}{m:InputV}(hw:want ops Γ o=some true)(ho:o.op= .buildSlice 22 1 #[(0,x)])(hd:o.dst=some d)(hn:Nat.blt d n=true)
    (hx:Γ.ev x=some (.agg #[.string (bs m.name),.int .i64 m.at_,.slice m.sides.addr m.sides.list.length m.sides.cap])) (k: ∀b,At β n ((d,.slice (some ⟨b,0,none⟩) 1 1)::Γ) (.obj b (.cells (jT.all [m]).toArray 61)::H) F (wpList Tryz.prog ops Q rest)):At β n Γ H F (wpList Tryz.prog ops Q (o::rest)):=by
  obtain⟨i,hi,hz,hs,_⟩:=bLs;refine kI hw ho hd hn hx Tryz.underlying22 hi hz (by omega) (by omega) ?_ k;rw [hs]
  kernel_rfl
theorem zJ{β:fG}{n:Nat}{Γ:Env}{H:List bW}{F:List Fact}{Q:Exit→Act→World→Prop}{ops:Array Oper}{rest:List Oper}{o:Oper}{d:Nat}{x y:Operand}{c q:Nat}{v:Value}{A:Option Addr}{xs ys:List InputV}{H':List bW}(hH:dM H (jT.row v 61 xs) H')(hr:cR β H F jT A ys)(hg:o.guard=none)
    (ho:o.op= .call {callee:= .builtin .append,args:= #[x,y],argTypes:= #[22,22]}) (hd:o.dst=some d) (hn:Nat.blt d n=true)
    (hx:Γ.ev x=some v) (hy:Γ.ev y=some (.slice A q c)) (hq:q=ys.length) (hl:xs.length+ys.length≤2932031007402)
    (k: ∀A' cap',At β n ((d,.slice A' (xs++ys).length cap')::Γ) (jT.row (.slice A' (xs++ys).length cap') 61 (xs++ys)::H') F (wpList Tryz.prog ops Q rest)):At β n Γ H F (wpList Tryz.prog ops Q (o::rest)):=by
  obtain⟨i,hi,hz,hs,hb⟩:=bLs;exact gP hH hr hg ho hd hn Tryz.underlying22 hi hz hs hb rfl hx hy hq (by omega) (by decide) k
theorem itemInfo: ∃i:TypeInfo,Tryz.prog.info? 52=some i∧i.zero=some (.agg #[.int .i64 0,.int .i64 0,.int .u8 0,.string (bs []),.slice none 0 0])∧i.size=5∧i.bytes=64:=by
  have h:(Tryz.prog.info? 52).map (fun i=>(i.zero,i.size,i.bytes))=some (some (.agg #[.int .i64 0,.int .i64 0,.int .u8 0,.string (bs []),.slice none 0 0]),5,64):=by kernel_rfl
  cases hi:Tryz.prog.info? 52 with
  | none=>simp [hi] at h
  | some i=>simp [hi] at h;exact⟨i,rfl,h.1,h.2.1,h.2.2⟩
theorem wE{β:fG}{n:Nat}{Γ:Env}{H:List bW}{F:List Fact}{Q:Exit→Act→World→Prop}{ops:Array Oper}{rest:List Oper}{o:Oper}{d:Nat}{x:Operand}{m:ItemV}(hw:want ops Γ o=some true)(ho:o.op= .buildSlice 47 1 #[(0,x)])(hd:o.dst=some d)(hn:Nat.blt d n=true)
    (hx:Γ.ev x=some (.agg #[.int .i64 m.how,.int .i64 m.at_,.int .u8 m.fn,.string (bs m.name),.slice m.nums.addr m.nums.list.length m.nums.cap])) (k: ∀b,At β n ((d,.slice (some ⟨b,0,none⟩) 1 1)::Γ) (.obj b (.cells (lL.all [m]).toArray 52)::H) F (wpList Tryz.prog ops Q rest)):At β n Γ H F (wpList Tryz.prog ops Q (o::rest)):=by
  obtain⟨i,hi,hz,hs,_⟩:=itemInfo;refine kI hw ho hd hn hx Tryz.underlying47 hi hz (by omega) (by omega) ?_ k;rw [hs]
  kernel_rfl
theorem wD{β:fG}{n:Nat}{Γ:Env}{H:List bW}{F:List Fact}{Q:Exit→Act→World→Prop}{ops:Array Oper}{rest:List Oper}{o:Oper}{d:Nat}{x y:Operand}{c q:Nat}{v:Value}{A:Option Addr}{xs ys:List ItemV}{H':List bW}(hH:dM H (lL.row v 52 xs) H')(hr:cR β H F lL A ys)(hg:o.guard=none)
    (ho:o.op= .call {callee:= .builtin .append,args:= #[x,y],argTypes:= #[47,47]}) (hd:o.dst=some d) (hn:Nat.blt d n=true)
    (hx:Γ.ev x=some v) (hy:Γ.ev y=some (.slice A q c)) (hq:q=ys.length) (hl:xs.length+ys.length≤2199023255552)
    (k: ∀A' cap',At β n ((d,.slice A' (xs++ys).length cap')::Γ) (lL.row (.slice A' (xs++ys).length cap') 52 (xs++ys)::H') F (wpList Tryz.prog ops Q rest)):At β n Γ H F (wpList Tryz.prog ops Q (o::rest)):=by
  obtain⟨i,hi,hz,hs,hb⟩:=itemInfo;exact gP hH hr hg ho hd hn Tryz.underlying47 hi hz hs hb rfl hx hy hq (by omega) (by decide) k
theorem lineInfo: ∃i:TypeInfo,Tryz.prog.info? 49=some i∧i.zero=some (.agg #[.string (bs []),.int .i64 0,.slice none 0 0])∧i.size=3∧i.bytes=48:=by
  have h:(Tryz.prog.info? 49).map (fun i=>(i.zero,i.size,i.bytes))=some (some (.agg #[.string (bs []),.int .i64 0,.slice none 0 0]),3,48):=by kernel_rfl
  cases hi:Tryz.prog.info? 49 with
  | none=>simp [hi] at h
  | some i=>simp [hi] at h;exact⟨i,rfl,h.1,h.2.1,h.2.2⟩
theorem bDd{β:fG}{n:Nat}{Γ:Env}{H:List bW}{F:List Fact}{Q:Exit→Act→World→Prop}{ops:Array Oper}{rest:List Oper}{o:Oper}{d:Nat}{x:Operand}{m:LineV}(hw:want ops Γ o=some true)(ho:o.op= .buildSlice 23 1 #[(0,x)])(hd:o.dst=some d)(hn:Nat.blt d n=true)
    (hx:Γ.ev x=some (.agg #[.string (bs m.name),.int .i64 m.at_,.slice m.items.addr m.items.list.length m.items.cap])) (k: ∀b,At β n ((d,.slice (some ⟨b,0,none⟩) 1 1)::Γ) (.obj b (.cells (nR.all [m]).toArray 49)::H) F (wpList Tryz.prog ops Q rest)):At β n Γ H F (wpList Tryz.prog ops Q (o::rest)):=by
  obtain⟨i,hi,hz,hs,_⟩:=lineInfo;refine kI hw ho hd hn hx Tryz.underlying23 hi hz (by omega) (by omega) ?_ k;rw [hs]
  kernel_rfl
theorem bCv{β:fG}{n:Nat}{Γ:Env}{H:List bW}{F:List Fact}{Q:Exit→Act→World→Prop}{ops:Array Oper}{rest:List Oper}{o:Oper}{d:Nat}{x y:Operand}{c q:Nat}{v:Value}{A:Option Addr}{xs ys:List LineV}{H':List bW}(hH:dM H (nR.row v 49 xs) H')(hr:cR β H F nR A ys)(hg:o.guard=none)
    (ho:o.op= .call {callee:= .builtin .append,args:= #[x,y],argTypes:= #[23,23]}) (hd:o.dst=some d) (hn:Nat.blt d n=true)
    (hx:Γ.ev x=some v) (hy:Γ.ev y=some (.slice A q c)) (hq:q=ys.length) (hl:xs.length+ys.length≤2932031007402)
    (k: ∀A' cap',At β n ((d,.slice A' (xs++ys).length cap')::Γ) (nR.row (.slice A' (xs++ys).length cap') 49 (xs++ys)::H') F (wpList Tryz.prog ops Q rest)):At β n Γ H F (wpList Tryz.prog ops Q (o::rest)):=by
  obtain⟨i,hi,hz,hs,hb⟩:=lineInfo;exact gP hH hr hg ho hd hn Tryz.underlying23 hi hz hs hb rfl hx hy hq (by omega) (by decide) k
theorem cY:Tryz.prog.follows .mixedOrders=true:=by kernel_rfl
end Go.Proofs.YtbgdphbebhjpiaaGreatDoor
namespace Go.Proofs.YtbgdphbebhjpiaaGreatDoor
def jY (b:UInt8):Bool:=decide (97≤(b ||| 32).toNat)&&decide ((b ||| 32).toNat≤122)
def dG (b:UInt8):Bool:=decide (48≤b.toNat)&&decide (b.toNat≤57)
def jG (b:UInt8):Bool:=jY b || dG b
abbrev Tok:=TokV
abbrev Flt:=Int×Int
def runB (p:UInt8→Bool):Bs→Nat
  | []=>0
  | b::r=>if p b then runB p r+1 else 0
theorem iU(p:UInt8→Bool): ∀s:Bs,runB p s≤s.length
  | []=>Nat.le_refl _
  | b::r=>by
    unfold runB;split
    · have:=iU p r;simp;omega
    · simp
def decV:Bs→Nat→Nat
  | [],v=>v
  | b::r,v=>decV r (10*v+(b.toNat-48))
def pP (neg:Bool)(ds:Bs):Option Int:=
  if neg then (if decV ds 0≤9223372036854775808 then some (-(decV ds 0:Int)) else none)
  else (if decV ds 0≤9223372036854775807 then some (decV ds 0:Int) else none)
def signs:Bs:=[43,45,42,37,124,61,126,60,62,47,92,46,58,40,41]
def signP:Bs→Nat
  | []=>0
  | b::r=>if (b==60 || b==62)&&r.head?==some 61 then 2 else if signs.contains b then 1 else 0
abbrev TokR:=Int×Bs×Int×Nat
def gK (b:UInt8)(r:Bs):Except Int (Option TokR):=
  let ds:=if b==95 then r else b::r
  let k:=runB dG ds
  if k=0 then .ok none else match pP (b==95) (ds.take k) with
    | none=> .error 32
    | some v=> .ok (some (2,[],v,k+if b==95 then 1 else 0))
def fA:Bs→Except Int TokR
  | []=> .error 31
  | b::r=>
    if b==10 then .ok (4,[],0,1)
    else if jY b then (if 16<runB jG (b::r) then .error 33 else .ok (1,(b::r).take (runB jG (b::r)),0,runB jG (b::r)))
    else match gK b r with
      | .error e=> .error e
      | .ok (some t)=> .ok t
      | .ok none=>if signP (b::r)=0 then .error 31 else .ok (3,(b::r).take (signP (b::r)),0,signP (b::r))
def iS (b:UInt8):Bool:=b==32 || b==9
def lexGo:Nat→Nat→Bs→List Tok→List Tok×Flt
  | 0,_,_,out=>(out,(0,0))
  | _+1,_,[],out=>(out,(0,0))
  | f+1,i,b::r,out=>
    if iS b then lexGo f (i+1) r out
    else if b==35 then lexGo f (i+runB (· !=10) (b::r)) ((b::r).drop (runB (· !=10) (b::r))) out
    else match fA (b::r) with
      | .error e=>([],(i,e))
      | .ok (k,wd,v,m)=>lexGo f (i+m) ((b::r).drop m) (out++[⟨k,i,wd,v⟩])
def lexP (s:Bs):List Tok×Flt:=if 65536<s.length then ([],(0,30)) else lexGo s.length 0 s []
theorem bGt{b:UInt8}{r:Bs}{t:TokR}(h:gK b r= .ok (some t)):1≤t.2.2.2∧t.2.2.2≤r.length+1:=by
  unfold gK at h
  by_cases hb:(b==95)=true
  · simp only [hb,if_true] at h;have hl:=iU dG r;split at h
    · cases h
    · split at h
      · cases h
      · simp only [Except.ok.injEq,Option.some.injEq] at h;subst h;simp;omega
  · simp only [hb,Bool.false_eq_true,if_false] at h;have hl:=iU dG (b::r);simp only [List.length_cons] at hl;split at h
    · cases h
    · split at h
      · cases h
      · simp only [Except.ok.injEq,Option.some.injEq] at h;subst h;simp only;omega
theorem signP_le: ∀s:Bs,signP s≤s.length
  | []=>Nat.le_refl _
  | [b]=>by
    have e:(none==some (61:UInt8))=false:=rfl;simp only [signP,List.head?_nil,e,Bool.and_false,Bool.false_eq_true,if_false];split<;>simp
  | b::c::r=>by
    simp only [signP];split
    · simp
    · split
      · simp only [List.length_cons];omega
      · omega
theorem pE{s:Bs}{t:TokR}(h:fA s= .ok t):1≤t.2.2.2∧t.2.2.2≤s.length:=by
  cases s with
  | nil=>cases h
  | cons b r=>
    simp only [fA] at h;split at h
    · cases h;simp
    · split at h
      · rename_i hlt;split at h
        · cases h
        · cases h;have:=iU jG (b::r);refine⟨?_,this⟩;simp only [runB,jG,hlt,Bool.true_or,if_true];omega
      · split at h
        · cases h
        · rename_i t' ht;cases h;exact bGt ht
        · split at h
          · cases h
          · cases h;have:=signP_le (b::r);simp only;omega
theorem bAj{p:UInt8→Bool}{b:UInt8}{r:Bs}(h:p b=true):1≤runB p (b::r):=by
  simp only [runB,h,if_true];omega
theorem bJc{b:UInt8}(h:(b==35)=true):(b !=10)=true:=by
  have:b=35:=by simpa using h
  subst this;decide
theorem rG: ∀(f g i:Nat) (s:Bs) (out:List Tok),s.length≤f→s.length≤g→lexGo f i s out=lexGo g i s out
  | 0,0,_,_,_,_,_=>rfl
  | 0,g+1,_,[],_,_,_=>rfl
  | f+1,0,_,[],_,_,_=>rfl
  | 0,_,_,b::r,_,h,_=>by simp at h
  | _,0,_,b::r,_,_,h=>by simp at h
  | f+1,g+1,_,[],_,_,_=>rfl
  | f+1,g+1,i,b::r,out,h,k=>by
    simp only [List.length_cons] at h k;unfold lexGo;split
    · exact rG f g _ _ _ (by omega) (by omega)
    · split
      · rename_i h35;have:1≤runB (· !=10) (b::r):=bAj (bJc h35);exact rG f g _ _ _ (by simp;omega) (by simp;omega)
      · split
        · rfl
        · rename_i ht;have:=(pE ht).1;exact rG f g _ _ _ (by simp at this⊢;omega) (by simp at this⊢;omega)
theorem iR{i:Nat}{b:UInt8}{r:Bs}{out:List Tok}:lexGo (b::r).length i (b::r) out=
    if iS b then lexGo r.length (i+1) r out
    else if b==35 then lexGo ((b::r).drop (runB (· !=10) (b::r))).length (i+runB (· !=10) (b::r)) ((b::r).drop (runB (· !=10) (b::r))) out
    else match fA (b::r) with
      | .error e=>([],(i,e))
      | .ok (k,wd,v,m)=>lexGo ((b::r).drop m).length (i+m) ((b::r).drop m) (out++[⟨k,i,wd,v⟩]):=by
  rw [List.length_cons,lexGo];split
  · rfl
  · split
    · rename_i h35;have:1≤runB (· !=10) (b::r):=bAj (bJc h35);exact rG _ _ _ _ _ (by simp;omega) (by simp)
    · split
      · rfl
      · rename_i ht;have:=(pE ht).1;exact rG _ _ _ _ _ (by simp at this⊢;omega) (by simp)
end Go.Proofs.YtbgdphbebhjpiaaGreatDoor
namespace Go.Proofs.YtbgdphbebhjpiaaGreatDoor
open Go.RowKit
theorem run_more{p:UInt8→Bool}{s:Bs}{i:Nat}{b:UInt8}(hb:s[i]?=some b)(hp:p b=true)(h:runB p s=i+runB p (s.drop i)):runB p s=(i+1)+runB p (s.drop (i+1)):=by
  obtain⟨hi,hb⟩:=List.getElem?_eq_some_iff.1 hb;rw [List.drop_eq_getElem_cons hi,hb,runB,if_pos hp] at h;omega
theorem run_end{p:UInt8→Bool}{s:Bs}{i:Nat}(hc:s.length≤i∨ ∃b,s[i]?=some b∧p b=false)(h:runB p s=i+runB p (s.drop i)):runB p s=i:=by
  rcases hc with hc | ⟨b,hb,hp⟩
  · rw [List.drop_of_length_le hc] at h
    simpa [runB] using h
  · obtain⟨hi,hb⟩:=List.getElem?_eq_some_iff.1 hb;rw [List.drop_eq_getElem_cons hi,hb,runB,hp] at h
    simpa using h
theorem or32(a:UInt8):IntKind.u8.wrap (((BitVec.ofInt IntKind.u8.bits (a.toNat:Int) ||| BitVec.ofInt IntKind.u8.bits 32).toNat:Nat):Int)=(((a ||| 32).toNat:Nat):Int):=or_u8 a 32
set_option maxRecDepth 100000 in
theorem bDt(b:UInt8):dH Tryz.prog 129 [.int .u8 b.toNat] [] [] (fun(_:Unit)=> .bool (jY b)) (fun _=>[]) (fun _=>[]):=by
  have hT:=fH;refine cQ Tryz.func129 rfl Tryz.ntmps129 rfl ?_;intro β hM;refine sr<|sp hT ?_;refine nn<|sr<|sp2 hT ?_;refine bP (z':=((((b ||| 32):UInt8).toNat:Nat):Int)) (or32 _) ?_;refine sp2 hT ?_;refine cF (fun hg6=>?_) (fun hg6=>?_)
  · have hg6:=of_decide_eq_true hg6;refine sp2 hT ?_;refine bP (z':=((((b ||| 32):UInt8).toNat:Nat):Int)) (or32 _) ?_;refine sp3 hT ?_;refine nn<|bG ?_;exact bR () rfl (bD rfl) .nil trivial (by congr 1;unfold jY;generalize (b ||| 32).toNat=c at*;rw [Bool.eq_iff_iff];simp;omega)
  have hg6:=Int.not_le.1 (of_decide_eq_false hg6);refine sk3 ?_;refine sp2 hT ?_;refine nn<|bG ?_;exact bR () rfl (bD rfl) .nil trivial (by congr 1;unfold jY;generalize (b ||| 32).toNat=c at*;rw [Bool.eq_iff_iff];simp;omega)
set_option maxRecDepth 100000 in
theorem yH(b:UInt8):dH Tryz.prog 131 [.int .u8 b.toNat] [] [] (fun(_:Unit)=> .bool (dG b)) (fun _=>[]) (fun _=>[]):=by
  have hT:=fH;refine cQ Tryz.func131 rfl Tryz.ntmps131 rfl ?_;intro β hM;refine sr<|sp hT ?_;refine nn<|sr<|sp3 hT ?_;refine cF (fun hg5=>?_) (fun hg5=>?_)
  · have hg5:=of_decide_eq_true hg5;refine sp4 hT ?_;refine nn<|bG ?_;exact bR () rfl (bD rfl) .nil trivial (by congr 1;unfold dG;rw [Bool.eq_iff_iff];simp;omega)
  have hg5:=Int.not_le.1 (of_decide_eq_false hg5);refine sk2 ?_;refine sp2 hT ?_;refine nn<|bG ?_;exact bR () rfl (bD rfl) .nil trivial (by congr 1;unfold dG;rw [Bool.eq_iff_iff];simp;omega)
set_option maxRecDepth 100000 in
theorem word_spec(b:UInt8):dH Tryz.prog 130 [.int .u8 b.toNat] [] [] (fun(_:Unit)=> .bool (jG b)) (fun _=>[]) (fun _=>[]):=by
  have hT:=fH;refine cQ Tryz.func130 rfl Tryz.ntmps130 rfl ?_;intro β hM;refine sr<|sp hT ?_;refine nn<|sr<|sp hT ?_;refine bO Tryz.func129 (bDt _) rfl rfl .nil trivial fun _=>?_;refine sp hT ?_;refine cF (fun hg5=>?_) (fun hg5=>?_)
  · refine sk2 ?_;refine sp2 hT ?_;refine nn<|bG ?_;exact bR () rfl (bD rfl) .nil trivial (by simp [jG, *])
  refine sp hT ?_;refine bO Tryz.func131 (yH _) rfl rfl .nil trivial fun _=>?_;refine sp2 hT ?_;refine nn<|bG ?_;exact bR () rfl (bD rfl) .nil trivial (by simp [jG, *])
set_option maxRecDepth 100000 in
theorem line_spec(b:UInt8):dH Tryz.prog 71 [.int .u8 b.toNat] [] [] (fun(_:Unit)=> .bool (b !=10)) (fun _=>[]) (fun _=>[]):=by
  have hT:=fH;refine cQ Tryz.func71 rfl Tryz.ntmps71 rfl ?_;intro β hM;refine sr<|sp hT ?_;refine nn<|sr<|sp3 hT ?_;refine nn<|bG ?_;exact bR () rfl (bD rfl) .nil trivial (by congr 1;rw [Bool.eq_iff_iff];simp [bne_iff_ne,←UInt8.toNat_inj];omega)
set_option maxRecDepth 100000 in
theorem zW(s:Bs)(hs:s.length≤140737488355328)(f:FuncId)(p:UInt8→Bool)(hcf: ∀(args:Array Value) (w:World),(callFunc f args).run Tryz.prog w= .ok (.enter f args) w)(hf: ∀b:UInt8,dH Tryz.prog f [.int .u8 b.toNat] [] [] (fun _:Unit=> .bool (p b)) (fun _=>[]) (fun _=>[])):dH Tryz.prog 70 [.string (bs s),.func (.func f) #[] #[]] [] [] (fun(_:Unit)=> .int .i64 (runB p s:Nat)) (fun _=>[]) (fun _=>[]):=by
  have hT:=fH;refine cQ Tryz.func70 rfl Tryz.ntmps70 rfl ?_;intro β hM;refine sr<|sp hT ?_;refine nn<|sr<|sp hT ?_;refine nn<|bA<|bT<|dD (ι:=Nat) [(0,_),(1,_)] ⟨rfl,rfl,trivial⟩ (fun i=>[(5,.int .i64 (i:Nat))]) (fun i=>[]) (fun i=>[Fact.pure (i≤s.length∧runB p s=i+runB p (s.drop i))]) (fun i=>s.length-i) 0 ⟨rfl,trivial⟩ .nil ⟨Has.pure (⟨by omega,by simp⟩),trivial⟩ ?_;rintro i;refine cD (Has.of mT0) fun hinv2=>?_;refine bA<|sr<|sp3 hT ?_;refine bP (z':=((s.length:Nat):Int)) rfl ?_;refine sp2 hT ?_;refine cF (fun hg10=>?_) (fun hg10=>?_)
  · have hg10:=of_decide_eq_true hg10;refine sp3 hT ?_
    obtain⟨b1,hb2⟩: ∃b,s[i]?=some b:=⟨_,List.getElem?_eq_getElem (by omega)⟩
    refine ss (oX hT (k:=i) rfl rfl rfl rfl rfl hb2) ?_;refine gZ hcf (hf b1) rfl rfl rfl rfl rfl rfl rfl .nil trivial fun _=>?_;refine sp hT ?_;refine nn<|bH rfl (fun hc16=>?_) (fun hc16=>?_)
    · refine bK<|bB<|bT<|bE<|sp2 hT ?_;refine bP (z':=(((i+1):Nat):Int)) (cL (by omega) (by omega)) ?_;refine sp hT ?_;refine dU<|cA<|bB ?_;exact cP (i+1) (by omega) ⟨rfl,trivial⟩ ⟨rfl,rfl,trivial⟩ .nil ⟨Has.pure (⟨by omega,run_more hb2 hc16 hinv2.2⟩),trivial⟩ (bF.drop 1)
    refine cW<|cM<|cM<|cX<|bB<|sr<|sp2 hT ?_;refine nn<|bG ?_;exact bR () rfl (bD rfl) .nil trivial (congrArg (fun n:Nat=>Value.int .i64 (n:Int)) (run_end (.inr ⟨_,hb2,hc16⟩) hinv2.2).symm)
  have hg10:=Int.not_lt.1 (of_decide_eq_false hg10);refine sk4 ?_;refine sk ?_;refine sp hT ?_;refine nn<|cN rfl rfl ?_;refine cW<|cM<|cM<|cX<|bB<|sr<|sp2 hT ?_;refine nn<|bG ?_;exact bR () rfl (bD rfl) .nil trivial (congrArg (fun n:Nat=>Value.int .i64 (n:Int)) (run_end (.inl (by omega)) hinv2.2).symm)
end Go.Proofs.YtbgdphbebhjpiaaGreatDoor
namespace Go.Proofs.YtbgdphbebhjpiaaGreatDoor
open Go.RowKit
theorem bGm{P:Program}(w:World)(d:Nat)(t:TypeId)(a b:Bs)(ht:P.underlying t=some .string):(Op.equalIn (d+1) t (.string (bs a)) (.string (bs b))).run P w= .ok (a==b) w:=by
  rw [run_equalIn_string w d t _ _ ht];simp [bs]
section
variable {P : Program} {β : fG} {n : Nat} {Γ : Env} {H : List bW} {F : List Fact} {o : Oper} {x : Operand} {t tt : TypeId}
theorem run_eqIf{ms:Array (String×TypeId)}(ht:P.underlying t=some (.interface ms))(w:World)(u:TypeId)(v:Value):(Op.equal t (.iface u v) .nilIface).run P w= .ok false w∧(Op.equal t .nilIface .nilIface).run P w= .ok true w:=by
  have h1: ∀d,(Op.equalIn (d+1) t (.iface u v) .nilIface).run P w= .ok false w:=fun d=>by simp [Op.equalIn,run_underlying ht]
  have h2: ∀d,(Op.equalIn (d+1) t .nilIface .nilIface).run P w= .ok true w:=fun d=>by simp [Op.equalIn,run_underlying ht]
  exact⟨h1 9999,h2 9999⟩
theorem sti_err{ms:Array (String×TypeId)}(ht:P.underlying t=some (.interface ms)){u:TypeId}{v:Value}(ho:o.op= .binOp .neq t x (.const .nilIface) tt)(hx:Γ.ev x=some (.iface u v)):Sti P β n Γ H F o (.bool true):=fun c w S f s k=>by
  unfold execOp;have e:c.eval (.const .nilIface)= .nilIface:=rfl;simp only [ho,f.ev hx,e]
  have hb:(binOp .neq t (.iface u v) .nilIface).run P w= .ok (.bool true) w:=by
    simp only [binOp];rw [Sem.run_bind,(run_eqIf ht w u v).1];rfl
  rw [Sem.run_bind,Sem.run_bind];have hg:(eqGuard .neq t x (.const .nilIface) (.iface u v) .nilIface).run P w= .ok () w:=rfl;rw [hg,Result.andThen_ok,hb];rfl
theorem bLv{ms:Array (String×TypeId)}(ht:P.underlying t=some (.interface ms))(ho:o.op= .binOp .neq t x (.const .nilIface) tt)(hx:Γ.ev x=some .nilIface):Sti P β n Γ H F o (.bool false):=fun c w S f s k=>by
  unfold execOp;have e:c.eval (.const .nilIface)= .nilIface:=rfl;simp only [ho,f.ev hx,e]
  have hb:(binOp .neq t .nilIface .nilIface).run P w= .ok (.bool false) w:=by
    simp only [binOp];rw [Sem.run_bind,(run_eqIf ht w 0 .nilIface).2];rfl
  rw [Sem.run_bind,Sem.run_bind]
  have hg:(eqGuard .neq t x (.const .nilIface) .nilIface .nilIface).run P w= .ok () w:=by
    unfold eqGuard;simp
  rw [hg,Result.andThen_ok,hb];rfl
end
def mW (x y:FltV):Bool:=((x.at_==y.at_)&&(x.code==y.code))
theorem uU(d:Nat)(x y:FltV)(w:World):(Op.equalIn (d+2) 36 (.agg #[.int .i64 x.at_,.int .i64 x.code]) (.agg #[.int .i64 y.at_,.int .i64 y.code])).run Tryz.prog w= .ok (mW x y) w:=by
  have hp:Tryz.prog.stoodInHeld 36=false:=by kernel_rfl
  have p0: ∀x:FltV,(part 3 #[.int .i64 x.at_,.int .i64 x.code] 0).run Tryz.prog w= .ok (.int .i64 x.at_) w:=fun x=>by kernel_rfl
  have p1: ∀x:FltV,(part 34 #[.int .i64 x.at_,.int .i64 x.code] 1).run Tryz.prog w= .ok (.int .i64 x.code) w:=fun x=>by kernel_rfl
  have hS:Tryz.prog.underlying 36=some (.struct (Tryz.prog.fieldsOf 36)):=by kernel_rfl
  rw [run_equalIn_agg w (d+1) 36 _ _ hS hp];unfold Program.fieldsOf;rw [Tryz.underlying36];simp only [Op.eqFields,Sem.run_bind,Sem.run_ite,Sem.run_pure,p0,p1,Result.andThen_ok,run_equalIn_int w d 3 .i64 .i64 _ _ Tryz.underlying3,run_equalIn_int w d 34 .i64 .i64 _ _ Tryz.underlying34];unfold mW;cases x.at_==y.at_<;>cases x.code==y.code<;>rfl
theorem fD{β:fG}{n:Nat}{Γ:Env}{H:List bW}{F:List Fact}{o:Oper}{a b:Operand}{tt:TypeId}(x y:FltV)(ho:o.op= .binOp .neq 36 a b tt)(hx:Γ.ev a=some (.agg #[.int .i64 x.at_,.int .i64 x.code]))(hy:Γ.ev b=some (.agg #[.int .i64 y.at_,.int .i64 y.code])):Sti Tryz.prog β n Γ H F o (.bool (!mW x y)):=fun c w S f s k=>by
  have hq:Tryz.prog.eqGuardType Tryz.prog.depth 36=false:=by kernel_rfl
  have hg:(eqGuard .neq 36 a b (.agg #[.int .i64 x.at_,.int .i64 x.code]) (.agg #[.int .i64 y.at_,.int .i64 y.code])).run Tryz.prog w= .ok () w:=by
    unfold eqGuard;have hp:(program:Sem Program).run Tryz.prog w= .ok Tryz.prog w:=rfl;simp [hp,hq]
  have hb:(binOp .neq 36 (.agg #[.int .i64 x.at_,.int .i64 x.code]) (.agg #[.int .i64 y.at_,.int .i64 y.code])).run Tryz.prog w= .ok (.bool (!mW x y)) w:=by
    rw [run_neq_struct,uU 9998 x y w];rfl
  unfold execOp;simp only [ho,f.ev hx,f.ev hy];rw [Sem.run_bind,Sem.run_bind,hg,Result.andThen_ok,hb];rfl
theorem bEc{β:fG}{n:Nat}{Γ:Env}{H:List bW}{F:List Fact}{o:Oper}{a b:Operand}{tt:TypeId}(x y:FltV)(ho:o.op= .binOp .eql 36 a b tt)(hx:Γ.ev a=some (.agg #[.int .i64 x.at_,.int .i64 x.code]))(hy:Γ.ev b=some (.agg #[.int .i64 y.at_,.int .i64 y.code])):Sti Tryz.prog β n Γ H F o (.bool (mW x y)):=fun c w S f s k=>by
  have hq:Tryz.prog.eqGuardType Tryz.prog.depth 36=false:=by kernel_rfl
  have hg:(eqGuard .eql 36 a b (.agg #[.int .i64 x.at_,.int .i64 x.code]) (.agg #[.int .i64 y.at_,.int .i64 y.code])).run Tryz.prog w= .ok () w:=by
    unfold eqGuard;have hp:(program:Sem Program).run Tryz.prog w= .ok Tryz.prog w:=rfl;simp [hp,hq]
  have hb:(binOp .eql 36 (.agg #[.int .i64 x.at_,.int .i64 x.code]) (.agg #[.int .i64 y.at_,.int .i64 y.code])).run Tryz.prog w= .ok (.bool (mW x y)) w:=by
    rw [run_eql_struct,uU 9998 x y w];rfl
  unfold execOp;simp only [ho,f.ev hx,f.ev hy];rw [Sem.run_bind,Sem.run_bind,hg,Result.andThen_ok,hb];rfl
def tokEq (x y:TokV):Bool:=((x.kind==y.kind)&&((x.at_==y.at_)&&((x.word==y.word)&&(x.n==y.n))))
theorem bEu(d:Nat)(x y:TokV)(w:World):(Op.equalIn (d+2) 104 (.agg #[.int .i64 x.kind,.int .i64 x.at_,.string (bs x.word),.int .i64 x.n]) (.agg #[.int .i64 y.kind,.int .i64 y.at_,.string (bs y.word),.int .i64 y.n])).run Tryz.prog w= .ok (tokEq x y) w:=by
  have hp:Tryz.prog.stoodInHeld 104=false:=by kernel_rfl
  have p0: ∀x:TokV,(part 3 #[.int .i64 x.kind,.int .i64 x.at_,.string (bs x.word),.int .i64 x.n] 0).run Tryz.prog w= .ok (.int .i64 x.kind) w:=fun x=>by kernel_rfl
  have p1: ∀x:TokV,(part 3 #[.int .i64 x.kind,.int .i64 x.at_,.string (bs x.word),.int .i64 x.n] 1).run Tryz.prog w= .ok (.int .i64 x.at_) w:=fun x=>by kernel_rfl
  have p2: ∀x:TokV,(part 9 #[.int .i64 x.kind,.int .i64 x.at_,.string (bs x.word),.int .i64 x.n] 2).run Tryz.prog w= .ok (.string (bs x.word)) w:=fun x=>by kernel_rfl
  have p3: ∀x:TokV,(part 2 #[.int .i64 x.kind,.int .i64 x.at_,.string (bs x.word),.int .i64 x.n] 3).run Tryz.prog w= .ok (.int .i64 x.n) w:=fun x=>by kernel_rfl
  have hS:Tryz.prog.underlying 104=some (.struct (Tryz.prog.fieldsOf 104)):=by kernel_rfl
  rw [run_equalIn_agg w (d+1) 104 _ _ hS hp];unfold Program.fieldsOf;rw [Tryz.underlying104];simp only [Op.eqFields,Sem.run_bind,Sem.run_ite,Sem.run_pure,p0,p1,p2,p3,Result.andThen_ok,run_equalIn_int w d 3 .i64 .i64 _ _ Tryz.underlying3,bGm w d 9 _ _ Tryz.underlying9,run_equalIn_int w d 2 .i64 .i64 _ _ Tryz.underlying2];unfold tokEq;cases x.kind==y.kind<;>cases x.at_==y.at_<;>cases x.word==y.word<;>cases x.n==y.n<;>rfl
theorem sti_neq_tok{β:fG}{n:Nat}{Γ:Env}{H:List bW}{F:List Fact}{o:Oper}{a b:Operand}{tt:TypeId}(x y:TokV)(ho:o.op= .binOp .neq 104 a b tt)(hx:Γ.ev a=some (.agg #[.int .i64 x.kind,.int .i64 x.at_,.string (bs x.word),.int .i64 x.n]))(hy:Γ.ev b=some (.agg #[.int .i64 y.kind,.int .i64 y.at_,.string (bs y.word),.int .i64 y.n])):Sti Tryz.prog β n Γ H F o (.bool (!tokEq x y)):=fun c w S f s k=>by
  have hq:Tryz.prog.eqGuardType Tryz.prog.depth 104=false:=by kernel_rfl
  have hg:(eqGuard .neq 104 a b (.agg #[.int .i64 x.kind,.int .i64 x.at_,.string (bs x.word),.int .i64 x.n]) (.agg #[.int .i64 y.kind,.int .i64 y.at_,.string (bs y.word),.int .i64 y.n])).run Tryz.prog w= .ok () w:=by
    unfold eqGuard;have hp:(program:Sem Program).run Tryz.prog w= .ok Tryz.prog w:=rfl;simp [hp,hq]
  have hb:(binOp .neq 104 (.agg #[.int .i64 x.kind,.int .i64 x.at_,.string (bs x.word),.int .i64 x.n]) (.agg #[.int .i64 y.kind,.int .i64 y.at_,.string (bs y.word),.int .i64 y.n])).run Tryz.prog w= .ok (.bool (!tokEq x y)) w:=by
    rw [run_neq_struct,bEu 9998 x y w];rfl
  unfold execOp;simp only [ho,f.ev hx,f.ev hy];rw [Sem.run_bind,Sem.run_bind,hg,Result.andThen_ok,hb];rfl
end Go.Proofs.YtbgdphbebhjpiaaGreatDoor
namespace Go.Proofs.YtbgdphbebhjpiaaGreatDoor
open Go.RowKit
theorem named0:Tryz.prog.globalNamed "strings.asciiSpace" =some 1:=by kernel_rfl
theorem named7:Tryz.prog.globalNamed "internal/strconv.uint64pow10" =some 7:=by kernel_rfl
def iA:Fact where
  p S w:=(S 1∧S 7∧S 0∧S 4)∧Lib.TabIs Tryz.prog w "strings.asciiSpace" .u8 Lib.asciiSpaceTab∧Lib.TabIs Tryz.prog w "internal/strconv.uint64pow10" .u64 Lib.pow10Tab∧
    (∃m,w.cell? ⟨0,0,none⟩=some (.int .i64 m))∧ ∃ev,w.cell? ⟨4,0,none⟩=some ev∧(ev= .nilIface∨ ∃te pe,ev= .iface te pe)
  mono:=fun{S S' w w'} hs ha h=>by
    obtain⟨⟨s0,s7,s4,s3⟩,h0,h7,⟨m,h4⟩,ev,h3,he⟩:=h;refine⟨⟨hs _ s0,hs _ s7,hs _ s4,hs _ s3⟩,?_,?_,⟨m,?_⟩,ev,?_,he⟩
    · unfold Lib.TabIs World.var? at*;rw [named0] at*;simp only [Option.bind_some,ha _ s0] at*;exact h0
    · unfold Lib.TabIs World.var? at*;rw [named7] at*;simp only [Option.bind_some,ha _ s7] at*;exact h7
    · unfold World.cell? at*;rw [ha _ s4];exact h4
    · unfold World.cell? at*;rw [ha _ s3];exact h3
theorem bCi{P:Program}{f:FuncId}{args:List Value}{Pre:List Fact}{v:Value}(h: ∀S w,All Pre S w→Calls P f args.toArray w fun e w'=>e= .returned v∧w'=w):
    dH P f args [] Pre (fun _:Unit=>v) (fun _=>[]) (fun _=>[]):=oY fun S w _ k=>(h S w k).mono fun e w' ⟨he,hw⟩=>⟨he,by rw [hw];exact Below.refl _ _⟩
theorem wK(s p:Bs):dH Tryz.prog 197 [.string (bs s),.string (bs p)] [] [] (fun _:Unit=> .bool (p.isPrefixOf s)) (fun _=>[]) (fun _=>[]):=
  bCi fun _ w _=>Tryz.strings_HasPrefix (bs s) (bs p) w
theorem bGs(s:Bs)(b:UInt8):dH Tryz.prog 198 [.string (bs s),.int .u8 b.toNat] [] [] (fun _:Unit=> .int .i64 (Lib.indexByte s b)) (fun _=>[]) (fun _=>[]):=
  bCi fun _ w _=>by
    have h:=Tryz.strings_IndexByte (bs s) (b.toNat:Int) w;have e:((b.toNat:Int).toNat).toUInt8=b:=by simp
    rw [e] at h;exact h
theorem qJ(b:UInt8): ∀l:Bs,(decide ((0:Int)≤Lib.indexByte l b))=l.contains b∧(Lib.indexByte l b= -1∨0≤Lib.indexByte l b)
  | []=>by simp [Lib.indexByte]
  | c::l=>by
    obtain⟨h1,h2⟩:=qJ b l;unfold Lib.indexByte
    by_cases h:(c==b)=true
    · have:b=c:=(by simpa using h:c=b).symm;simp [this]
    · have hne: ¬b=c:=fun e=>h (by simp [e]);simp only [h,Bool.false_eq_true,if_false]
      rcases h2 with h2 | h2
      · rw [h2] at h1⊢;simp only [beq_self_eq_true,if_true];simp at h1;refine⟨?_,.inl trivial⟩;simp [hne,h1]
      · have: ¬Lib.indexByte l b= -1:=by omega
        have hb:(Lib.indexByte l b== -1)=false:=by simp [this]
        rw [hb];simp only [Bool.false_eq_true,if_false];refine⟨?_,.inr (by omega)⟩;have h1':l.contains b=true:=by rw [←h1];simp [h2]
        have hm:b∈l:=by simpa using h1'
        simp [hm];omega
theorem decV_ge: ∀(ds:Bs) (acc:Nat),acc≤decV ds acc
  | [],_=>Nat.le_refl _
  | b::r,acc=>by
    have:=decV_ge r (10*acc+(b.toNat-48));simp only [decV];omega
theorem bAq: ∀(ds:Bs) (acc:Nat),(∀b∈ds,dG b=true)→acc≤18446744073709551615→Lib.parseUintM 18446744073709551615 acc ds=if decV ds acc≤18446744073709551615 then .ok (decV ds acc) else .range
  | [],acc,_,h=>by simp [Lib.parseUintM,decV,h]
  | b::r,acc,hd,h=>by
    have hb:=hd b (by simp);simp only [dG,Bool.and_eq_true,decide_eq_true_eq] at hb;have hge:=decV_ge r (10*acc+(b.toNat-48));unfold Lib.parseUintM decV;rw [if_pos hb];split
    · rw [if_neg (by omega)]
    · split
      · rw [if_neg (by omega)]
      · rw [bAq r _ (fun x hx=>hd x (by simp [hx])) (by omega),show acc*10+(b.toNat-48)=10*acc+(b.toNat-48) from by omega]
theorem zF{neg:Bool}{ds:Bs}(hne:ds≠[])(hd: ∀b∈ds,dG b=true):Lib.parseIntB 64 ((if neg then [45] else [])++ds)=match pP neg ds with
    | some v=> .ok v
    | none=> .range:=by
  have hu:Lib.parseUintB 64 ds=if decV ds 0≤18446744073709551615 then .ok (decV ds 0) else .range:=by
    unfold Lib.parseUintB;rw [if_neg hne];exact bAq ds 0 hd (by omega)
  cases neg with
  | true=>
    simp only [if_true,List.singleton_append,Lib.parseIntB];have e:((45:UInt8).toNat=43∨(45:UInt8).toNat=45):=by decide
    have e2:(45:UInt8).toNat=45:=by decide
    rw [if_pos e,hu];unfold pP;simp only [if_true]
    by_cases h1:decV ds 0≤18446744073709551615
    · rw [if_pos h1]
      by_cases h2:decV ds 0≤9223372036854775808
      · simp [h2,e2]
      · have h3:9223372036854775808<decV ds 0:=by omega
        simp [e2,h2,h3]
    · rw [if_neg h1,if_neg (by omega)]
  | false=>
    cases ds with
    | nil=>exact absurd rfl hne
    | cons b r=>
      have hb:=hd b (by simp);simp only [dG,Bool.and_eq_true,decide_eq_true_eq] at hb;simp only [Bool.false_eq_true,if_false,List.nil_append,Lib.parseIntB];have e: ¬(b.toNat=43∨b.toNat=45):=by omega
      have e2: ¬b.toNat=45:=by omega
      rw [if_neg e,hu];unfold pP;simp only [Bool.false_eq_true,if_false]
      by_cases h1:decV (b::r) 0≤18446744073709551615
      · rw [if_pos h1]
        by_cases h2:decV (b::r) 0≤9223372036854775807
        · simp [h2,e2];omega
        · simp [e2,h2];omega
      · rw [if_neg h1,if_neg (by omega)]
def bBm (neg:Bool):Bs:=if neg then [45] else []
theorem bDy(neg:Bool)(ds:Bs)(hne:ds≠[])(hd: ∀b∈ds,dG b=true)(hl:ds.length≤140737488355328){v:Int}(hv:pP neg ds=some v):
    dH Tryz.prog 196 [.string (bs (bBm neg++ds)),.int .i64 10,.int .i64 64] [] [] (fun _:Unit=> .tuple #[.int .i64 v,.nilIface]) (fun _=>[]) (fun _=>[]):=
  oY fun _ w _ _=>by
    have hp:=zF (neg:=neg) hne hd;rw [hv] at hp;refine(Tryz.strconv_ParseInt_10_at64_ok (bs (bBm neg++ds)) (by rw [jZ];unfold bBm;cases neg<;>simp<;>omega) v hp w).mono ?_;rintro e w' ⟨rfl,h⟩;refine⟨rfl,?_⟩
    rcases h with rfl | ⟨t,rfl⟩
    · exact Below.refl _ _
    · exact Joins.below_bytesWorld _ _ _ _ (Nat.le_refl _)
theorem vB(neg:Bool)(ds:Bs)(hne:ds≠[])(hd: ∀b∈ds,dG b=true)(hl:ds.length≤140737488355328)(hv:pP neg ds=none):
    dH Tryz.prog 196 [.string (bs (bBm neg++ds)),.int .i64 10,.int .i64 64] [] [iA] (fun x:Int×Nat=> .tuple #[.int .i64 x.1,.iface 318 (.pointer (some ⟨x.2,0,none⟩))]) (fun _=>[]) (fun _=>[]):=fun S w s k=>by
  obtain⟨_,_,_,_,ev,h3,he⟩:=k _ (.head _);have hp:=zF (neg:=neg) hne hd;rw [hv] at hp;refine(Tryz.strconv_ParseInt_10_at64_range (bs (bBm neg++ds)) (by rw [jZ];unfold bBm;cases neg<;>simp<;>omega) hp ev w h3 he).mono ?_;rintro e w' ⟨N,rfl,_,_,hb⟩;exact⟨(_,N),S,rfl,⟨nL.of_below _ hb,fun c hc=>by simp at hc,fun c hc=>by simp at hc,List.Pairwise.nil,fun b hb'=>⟨Nat.lt_of_lt_of_le (s.zone b hb').1 hb.size,.inl hb'⟩⟩,fun g hg=>by simp at hg⟩
end Go.Proofs.YtbgdphbebhjpiaaGreatDoor
namespace Go.Proofs.YtbgdphbebhjpiaaGreatDoor
open Go.RowKit
theorem bGg{b k:UInt8}(h:(b.toNat:Int)=(k.toNat:Int)):b=k:=UInt8.toNat_inj.1 (by omega)
theorem bGl{b k:UInt8}(h:(b.toNat:Int)≠(k.toNat:Int)):b≠k:=fun e=>h (by rw [e])
theorem pre2(k b:UInt8)(r:Bs):[k,61].isPrefixOf (b::r)=(b==k&&r.head?==some 61):=by
  cases r with
  | nil=>simp [List.isPrefixOf]
  | cons c r=>
    show((k==b)&&(((61:UInt8)==c)&&true))=(b==k&&(c==61));rw [show(k==b)=(b==k) from BEq.comm,show((61:UInt8)==c)=(c==61) from BEq.comm,Bool.and_true]
section
variable {b : UInt8} {r : Bs}
theorem sign_a(h:([60,61]:Bs).isPrefixOf (b::r)=true):Value.int .i64 2=Value.int .i64 ((signP (b::r):Nat):Int):=by
  rw [pre2] at h;simp only [Bool.and_eq_true,beq_iff_eq] at h;simp [signP,h.1,h.2]
theorem sign_b(_:([60,61]:Bs).isPrefixOf (b::r)=false)(h:([62,61]:Bs).isPrefixOf (b::r)=true):Value.int .i64 2=Value.int .i64 ((signP (b::r):Nat):Int):=by
  rw [pre2] at h;simp only [Bool.and_eq_true,beq_iff_eq] at h;simp [signP,h.1,h.2]
theorem sign_no(h1:([60,61]:Bs).isPrefixOf (b::r)=false)(h2:([62,61]:Bs).isPrefixOf (b::r)=false):((b==60 || b==62)&&r.head?==some 61)=false:=by
  rw [pre2] at h1 h2;generalize (b==60)=x at*;generalize (b==62)=y at*;generalize (r.head?==some 61)=z at*;cases x<;>cases y<;>cases z<;>simp_all
theorem sign_c(h1:([60,61]:Bs).isPrefixOf (b::r)=false)(h2:([62,61]:Bs).isPrefixOf (b::r)=false)(h3:(0:Int)≤Lib.indexByte ([43,45,42,37,124,61,126,60,62,47,92,46,58,40,41]:Bs) b):Value.int .i64 1=Value.int .i64 ((signP (b::r):Nat):Int):=by
  have h4:=(qJ b ([43,45,42,37,124,61,126,60,62,47,92,46,58,40,41]:Bs)).1;rw [decide_eq_true h3] at h4;have h5:signs.contains b=true:=h4.symm;simp only [signP,sign_no h1 h2,Bool.false_eq_true,if_false,h5,if_true];rfl
theorem sign_d(h1:([60,61]:Bs).isPrefixOf (b::r)=false)(h2:([62,61]:Bs).isPrefixOf (b::r)=false)(h3:Lib.indexByte ([43,45,42,37,124,61,126,60,62,47,92,46,58,40,41]:Bs) b<0):Value.int .i64 0=Value.int .i64 ((signP (b::r):Nat):Int):=by
  have h4:=(qJ b ([43,45,42,37,124,61,126,60,62,47,92,46,58,40,41]:Bs)).1;rw [decide_eq_false (by omega)] at h4;have h5:signs.contains b=false:=h4.symm;simp only [signP,sign_no h1 h2,Bool.false_eq_true,if_false,h5];rfl
theorem bAc(p:UInt8→Bool): ∀s:Bs,∀b∈s.take (runB p s),p b=true
  | [],_,h=>by simp at h
  | c::s,b,h=>by
    unfold runB at h;split at h
    · rename_i hc;rw [List.take_succ_cons,List.mem_cons] at h
      rcases h with rfl | h
      · exact hc
      · exact bAc p s b h
    · simp at h
theorem bFc{s:Bs}{k:Nat}(h:((k:Nat):Int)≠0)(hk:k≤s.length):s.take k≠[]:=fun e=>by
  have:(s.take k).length=0:=by rw [e];rfl
  rw [List.length_take] at this;omega
def numV:Except Int (Option TokR)→Value
  | .error e=> .tuple #[.int .i64 0,.int .i64 0,.int .i64 e]
  | .ok none=> .tuple #[.int .i64 0,.int .i64 0,.int .i64 0]
  | .ok (some t)=> .tuple #[.int .i64 t.2.2.1,.int .i64 (t.2.2.2:Nat),.int .i64 0]
theorem num_m0(hb:b=95):gK b r=if runB dG r=0 then .ok none else match pP true (r.take (runB dG r)) with
    | none=> .error 32
    | some v=> .ok (some (2,[],v,runB dG r+1)):=by
  subst hb;rfl
theorem num_p0(hb:b≠95):gK b r=if runB dG (b::r)=0 then .ok none else match pP false ((b::r).take (runB dG (b::r))) with
    | none=> .error 32
    | some v=> .ok (some (2,[],v,runB dG (b::r)+0)):=by
  have:(b==95)=false:=by simp [hb]
  unfold gK;rw [this];rfl
theorem cast0{n:Nat}(h:((n:Nat):Int)=0):n=0:=by omega
theorem castn{n:Nat}(h:((n:Nat):Int)≠0):n≠0:=by omega
theorem num_mz(hb:b=95)(hk:((runB dG ((b::r).drop 1):Nat):Int)=0):Value.tuple #[.int .i64 0,.int .i64 0,.int .i64 0]=numV (gK b r):=by
  have hk:runB dG r=0:=cast0 hk;rw [num_m0 hb,if_pos hk];rfl
theorem num_me(hb:b=95)(hk:((runB dG ((b::r).drop 1):Nat):Int)≠0)(hv:pP true (((b::r).drop 1).take (runB dG ((b::r).drop 1)))=none):Value.tuple #[.int .i64 0,.int .i64 0,.int .i64 32]=numV (gK b r):=by
  have hk: ¬runB dG r=0:=castn hk;have hv:pP true (r.take (runB dG r))=none:=hv;rw [num_m0 hb,if_neg hk,hv];rfl
theorem num_mo{v:Int}(hb:b=95)(hk:((runB dG ((b::r).drop 1):Nat):Int)≠0)(hv:pP true (((b::r).drop 1).take (runB dG ((b::r).drop 1)))=some v):
    Value.tuple #[.int .i64 v,.int .i64 (((runB dG ((b::r).drop 1))+([45]:Bs).length:Nat):Int),.int .i64 0]=numV (gK b r):=by
  have hk: ¬runB dG r=0:=castn hk;have hv:pP true (r.take (runB dG r))=some v:=hv;rw [num_m0 hb,if_neg hk,hv];rfl
theorem num_pz(hb:b≠95)(hk:((runB dG (b::r):Nat):Int)=0):Value.tuple #[.int .i64 0,.int .i64 0,.int .i64 0]=numV (gK b r):=by
  rw [num_p0 hb,if_pos (cast0 hk)];rfl
theorem num_pe(hb:b≠95)(hk:((runB dG (b::r):Nat):Int)≠0)(hv:pP false ((b::r).take (runB dG (b::r)))=none):Value.tuple #[.int .i64 0,.int .i64 0,.int .i64 32]=numV (gK b r):=by
  rw [num_p0 hb,if_neg (castn hk),hv];rfl
theorem num_po{v:Int}(hb:b≠95)(hk:((runB dG (b::r):Nat):Int)≠0)(hv:pP false ((b::r).take (runB dG (b::r)))=some v):
    Value.tuple #[.int .i64 v,.int .i64 (((runB dG (b::r))+([]:Bs).length:Nat):Int),.int .i64 0]=numV (gK b r):=by
  rw [num_p0 hb,if_neg (castn hk),hv];rfl
theorem bHd{e:Int}(h:gK b r= .error e):e=32:=by
  unfold gK at h
  by_cases hb:(b==95)=true
  · simp only [hb,if_true] at h;split at h
    · cases h
    · split at h
      · cases h;rfl
      · cases h
  · simp only [hb,Bool.false_eq_true,if_false] at h;split at h
    · cases h
    · split at h
      · cases h;rfl
      · cases h
def vR:Except Int TokR→Value
  | .error e=> .tuple #[.agg #[.int .i64 (if e=32 then 2 else 0),.int .i64 0,.string (bs []),.int .i64 0],.int .i64 0,.int .i64 e]
  | .ok t=> .tuple #[.agg #[.int .i64 t.1,.int .i64 0,.string (bs t.2.1),.int .i64 t.2.2.1],.int .i64 (t.2.2.2:Nat),.int .i64 0]
section
variable (h1 : b ≠ 10) (h2 : jY b = false)
theorem uP(h:b=10):Value.tuple #[.agg #[.int .i64 4,.int .i64 0,.string (bs []),.int .i64 0],.int .i64 1,.int .i64 0]=vR (fA (b::r)):=by
  subst h;rfl
include h1
theorem tR(h2:jY b=true)(h3:((runB jG (b::r):Nat):Int)≤16):Value.tuple #[.agg #[.int .i64 1,.int .i64 0,.string (bs ((b::r).take (runB jG (b::r)))),.int .i64 0],.int .i64 (runB jG (b::r):Nat),.int .i64 0]=vR (fA (b::r)):=by
  have e:fA (b::r)= .ok (1,(b::r).take (runB jG (b::r)),0,runB jG (b::r)):=by
    simp only [fA,beq_iff_eq,h1,if_false,h2,if_true];rw [if_neg (by omega)]
  rw [e];rfl
theorem tJ(h2:jY b=true)(h3:(16:Int)<((runB jG (b::r):Nat):Int)):Value.tuple #[.agg #[.int .i64 0,.int .i64 0,.string (bs []),.int .i64 0],.int .i64 0,.int .i64 33]=vR (fA (b::r)):=by
  have e:fA (b::r)= .error 33:=by
    simp only [fA,beq_iff_eq,h1,if_false,h2,if_true];rw [if_pos (by omega)]
  rw [e];rfl
include h2
theorem uI{e:Int}(h:gK b r= .error e)(he:e=32):Value.tuple #[.agg #[.int .i64 2,.int .i64 0,.string (bs []),.int .i64 0],.int .i64 0,.int .i64 e]=vR (fA (b::r)):=by
  have q:fA (b::r)= .error e:=by
    simp only [fA,beq_iff_eq,h1,if_false,h2,Bool.false_eq_true,h]
  rw [q,he];rfl
theorem uC{kk v:Int}{ww:Bs}{m:Nat}(h:gK b r= .ok (some (kk,ww,v,m))):Value.tuple #[.agg #[.int .i64 2,.int .i64 0,.string (bs []),.int .i64 v],.int .i64 (m:Nat),.int .i64 0]=vR (fA (b::r)):=by
  have q:fA (b::r)= .ok (kk,ww,v,m):=by
    simp only [fA,beq_iff_eq,h1,if_false,h2,Bool.false_eq_true,h]
  have hk:kk=2∧ww=[]:=by
    unfold gK at h
    by_cases hb:(b==95)=true
    · simp only [hb,if_true] at h;split at h
      · cases h
      · split at h
        · cases h
        · cases h;exact⟨rfl,rfl⟩
    · simp only [hb,Bool.false_eq_true,if_false] at h;split at h
      · cases h
      · split at h
        · cases h
        · cases h;exact⟨rfl,rfl⟩
  rw [q,hk.1,hk.2];rfl
theorem uB(h:gK b r= .ok none)(h3:((signP (b::r):Nat):Int)=0):Value.tuple #[.agg #[.int .i64 0,.int .i64 0,.string (bs []),.int .i64 0],.int .i64 0,.int .i64 31]=vR (fA (b::r)):=by
  have e:fA (b::r)= .error 31:=by
    simp only [fA,beq_iff_eq,h1,if_false,h2,Bool.false_eq_true,h];rw [if_pos (cast0 h3)]
  rw [e];rfl
theorem uK(h:gK b r= .ok none)(h3:((signP (b::r):Nat):Int)≠0):Value.tuple #[.agg #[.int .i64 3,.int .i64 0,.string (bs ((b::r).take (signP (b::r)))),.int .i64 0],.int .i64 (signP (b::r):Nat),.int .i64 0]=vR (fA (b::r)):=by
  have e:fA (b::r)= .ok (3,(b::r).take (signP (b::r)),0,signP (b::r)):=by
    simp only [fA,beq_iff_eq,h1,if_false,h2,Bool.false_eq_true,h];rw [if_neg (castn h3)]
  rw [e];rfl
end
end
set_option maxRecDepth 100000 in
theorem sign_spec(b:UInt8)(r:Bs):dH Tryz.prog 133 [.string (bs (b::r))] [] [] (fun(_:Unit)=> .int .i64 (signP (b::r):Nat)) (fun _=>[]) (fun _=>[]):=by
  have hT:=fH;refine cQ Tryz.func133 rfl Tryz.ntmps133 rfl ?_;intro β hM;refine sr<|sp hT ?_;refine nn<|bA<|bT<|sr<|sp hT ?_;refine bO Tryz.func197 (wK _ ([60,61]:Bs)) rfl rfl .nil trivial fun _=>?_;refine sp hT ?_;refine cF (fun hg6=>?_) (fun hg6=>?_)
  · refine sk2 ?_;refine sp2 hT ?_;refine nn<|cI rfl rfl ?_;refine sr<|sp hT ?_;refine nn<|bG<|bI<|bC ?_;exact bR () rfl (bD rfl) .nil trivial (by first | exact sign_a hg6 | exact sign_b hg6 hc3 | exact sign_c hg6 hc3 hc10 | exact sign_d hg6 hc3 hc10)
  refine sp hT ?_;refine bO Tryz.func197 (wK _ ([62,61]:Bs)) rfl rfl .nil trivial fun _=>?_;refine sp2 hT ?_;refine nn<|bH rfl (fun hc3=>?_) (fun hc3=>?_)
  · refine sr<|sp hT ?_;refine nn<|bG<|bI<|bC ?_;exact bR () rfl (bD rfl) .nil trivial (by first | exact sign_a hg6 | exact sign_b hg6 hc3 | exact sign_c hg6 hc3 hc10 | exact sign_d hg6 hc3 hc10)
  refine sr<|sp hT ?_;refine ss (oX hT (k:=0) rfl rfl rfl rfl rfl rfl) ?_;refine bO Tryz.func198 (bGs ([43,45,42,37,124,61,126,60,62,47,92,46,58,40,41]:Bs) b) rfl rfl .nil trivial fun _=>?_;refine sp2 hT ?_;refine nn<|bH rfl (fun hc10=>?_) (fun hc10=>?_)
  · have hc10:=of_decide_eq_true hc10;refine sr<|sp hT ?_;refine nn<|bG<|bI<|bC ?_;exact bR () rfl (bD rfl) .nil trivial (by first | exact sign_a hg6 | exact sign_b hg6 hc3 | exact sign_c hg6 hc3 hc10 | exact sign_d hg6 hc3 hc10)
  have hc10:=Int.not_le.1 (of_decide_eq_false hc10);refine bK<|cA<|bB<|sr<|sp hT ?_;refine nn<|bG ?_;exact bR () rfl (bD rfl) .nil trivial (by first | exact sign_a hg6 | exact sign_b hg6 hc3 | exact sign_c hg6 hc3 hc10 | exact sign_d hg6 hc3 hc10)
set_option maxRecDepth 100000 in
theorem wN(b:UInt8)(r:Bs)(hl:(b::r).length≤65536):dH Tryz.prog 132 [.string (bs (b::r))] [] [iA] (fun(_:Unit)=>numV (gK b r)) (fun _=>[]) (fun _=>[]):=by
  have hT:=fH;refine cQ Tryz.func132 rfl Tryz.ntmps132 rfl ?_;intro β hM;refine sr<|sp3 hT ?_;refine nn<|sr<|sp3 hT ?_;refine nn<|bA<|sr<|sp hT ?_;refine ss (oX hT (k:=0) rfl rfl rfl rfl rfl rfl) ?_;refine sp hT ?_;refine nn<|bH rfl (fun hc13=>?_) (fun hc13=>?_)
  · have hc13:b=95:=bGg (k:=95) (eq_of_beq hc13);refine bE<|sp hT ?_;refine ss (bLz hT (k:=1) rfl rfl rfl rfl rfl (by simp)) ?_;refine sp2 hT ?_;refine nn<|sr<|sp hT ?_;refine bO Tryz.func70 (zW ((b::r).drop 1) (by simp at*;omega) _ dG (cS Tryz.func131 rfl rfl) yH) rfl rfl .nil trivial fun _=>?_;refine sp hT ?_;refine nn<|bA<|bA ?_;have hrl:runB dG ((b::r).drop 1)≤65536:=Nat.le_trans (iU _ _) (by simp at*;omega);refine bE<|sp2 hT ?_;refine nn<|bH rfl (fun hc19=>?_) (fun hc19=>?_)
    · have hc19:=eq_of_beq hc19;refine sr<|sp3 hT ?_;refine nn<|bG<|bC ?_;exact mF () rfl (bD rfl) (bD rfl) (bD rfl) .nil trivial (num_mz hc13 hc19)
    have hc19:=beq_eq_false_iff_ne.1 hc19;have hrl':=iU dG ((b::r).drop 1);refine bK<|bB<|bA ?_
    rcases hv:pP true (((b::r).drop 1).take (runB dG ((b::r).drop 1))) with _ | v
    · have num_ne:(((b::r).drop 1).take (runB dG ((b::r).drop 1)))≠[]:=bFc hc19 hrl';refine bE<|sp3 hT ?_;refine ss (xD hT (k:=(runB dG ((b::r).drop 1))) rfl rfl rfl rfl rfl (iU _ _)) ?_;refine ss (gV rfl rfl rfl (by simp at*;omega)) ?_;refine bO Tryz.func196 (vB true (((b::r).drop 1).take (runB dG ((b::r).drop 1))) num_ne (bAc _ _) (by simp at*;omega) hv) rfl rfl .nil ⟨Has.of mT0,trivial⟩ fun⟨z1,N2⟩=>?_;refine sp4 hT ?_;refine sp hT ?_;refine nn<|bA<|sr<|sp hT ?_;refine ss (sti_err Tryz.underlying253 rfl rfl) ?_;refine nn<|cI rfl rfl ?_;refine sr<|sp3 hT ?_;refine nn<|bG<|bC ?_;exact mF () rfl (bD rfl) (bD rfl) (bD rfl) .nil trivial (num_me hc13 hc19 hv)
    have num_ne:(((b::r).drop 1).take (runB dG ((b::r).drop 1)))≠[]:=bFc hc19 hrl';refine bE<|sp3 hT ?_;refine ss (xD hT (k:=(runB dG ((b::r).drop 1))) rfl rfl rfl rfl rfl (iU _ _)) ?_;refine ss (gV rfl rfl rfl (by simp at*;omega)) ?_;refine bO Tryz.func196 (bDy true (((b::r).drop 1).take (runB dG ((b::r).drop 1))) num_ne (bAc _ _) (by simp at*;omega) hv) rfl rfl .nil trivial fun _=>?_;refine sp4 hT ?_;refine sp hT ?_;refine nn<|bA<|sr<|sp hT ?_;refine ss (bLv Tryz.underlying253 rfl rfl) ?_;refine nn<|cN rfl rfl ?_;refine bK<|bB<|bA ?_;have hq1:([45]:Bs).length=1:=rfl;have hq0:([]:Bs).length=0:=rfl;refine bE<|sp4 hT ?_;refine bP (z':=((([45]:Bs).length:Nat):Int)) rfl ?_;refine sp hT ?_;refine bP (z':=((((runB dG ((b::r).drop 1))+([45]:Bs).length):Nat):Int)) (cL (by omega) (by omega)) ?_;refine sp3 hT ?_;refine nn<|bG ?_;exact mF () rfl (bD rfl) (bD rfl) (bD rfl) .nil trivial (num_mo hc13 hc19 hv)
  have hc13:b≠95:=bGl (k:=95) (beq_eq_false_iff_ne.1 hc13);refine bK<|bB<|sr<|sp hT ?_;refine bO Tryz.func70 (zW (b::r) (by simp at*;omega) _ dG (cS Tryz.func131 rfl rfl) yH) rfl rfl .nil trivial fun _=>?_;refine sp hT ?_;refine nn<|bA<|bA ?_;have hrl:runB dG (b::r)≤65536:=Nat.le_trans (iU _ _) (by simp at*;omega);refine bE<|sp2 hT ?_;refine nn<|bH rfl (fun hc19=>?_) (fun hc19=>?_)
  · have hc19:=eq_of_beq hc19;refine sr<|sp3 hT ?_;refine nn<|bG<|bC ?_;exact mF () rfl (bD rfl) (bD rfl) (bD rfl) .nil trivial (num_pz hc13 hc19)
  have hc19:=beq_eq_false_iff_ne.1 hc19;have hrl':=iU dG (b::r);refine bK<|bB<|bA ?_
  rcases hv:pP false ((b::r).take (runB dG (b::r))) with _ | v
  · have num_ne:((b::r).take (runB dG (b::r)))≠[]:=bFc hc19 hrl';refine bE<|sp3 hT ?_;refine ss (xD hT (k:=(runB dG (b::r))) rfl rfl rfl rfl rfl (iU _ _)) ?_;refine ss (gV rfl rfl rfl (by simp at*;omega)) ?_;refine bO Tryz.func196 (vB false ((b::r).take (runB dG (b::r))) num_ne (bAc _ _) (by simp at*;omega) hv) rfl rfl .nil ⟨Has.of mT0,trivial⟩ fun⟨z3,N4⟩=>?_;refine sp4 hT ?_;refine sp hT ?_;refine nn<|bA<|sr<|sp hT ?_;refine ss (sti_err Tryz.underlying253 rfl rfl) ?_;refine nn<|cI rfl rfl ?_;refine sr<|sp3 hT ?_;refine nn<|bG<|bC ?_;exact mF () rfl (bD rfl) (bD rfl) (bD rfl) .nil trivial (num_pe hc13 hc19 hv)
  have num_ne:((b::r).take (runB dG (b::r)))≠[]:=bFc hc19 hrl';refine bE<|sp3 hT ?_;refine ss (xD hT (k:=(runB dG (b::r))) rfl rfl rfl rfl rfl (iU _ _)) ?_;refine ss (gV rfl rfl rfl (by simp at*;omega)) ?_;refine bO Tryz.func196 (bDy false ((b::r).take (runB dG (b::r))) num_ne (bAc _ _) (by simp at*;omega) hv) rfl rfl .nil trivial fun _=>?_;refine sp4 hT ?_;refine sp hT ?_;refine nn<|bA<|sr<|sp hT ?_;refine ss (bLv Tryz.underlying253 rfl rfl) ?_;refine nn<|cN rfl rfl ?_;refine bK<|bB<|bA ?_;have hq1:([45]:Bs).length=1:=rfl;have hq0:([]:Bs).length=0:=rfl;refine bE<|sp4 hT ?_;refine bP (z':=((([]:Bs).length:Nat):Int)) rfl ?_;refine sp hT ?_;refine bP (z':=((((runB dG (b::r))+([]:Bs).length):Nat):Int)) (cL (by omega) (by omega)) ?_;refine sp3 hT ?_;refine nn<|bG ?_;exact mF () rfl (bD rfl) (bD rfl) (bD rfl) .nil trivial (num_po hc13 hc19 hv)
end Go.Proofs.YtbgdphbebhjpiaaGreatDoor
