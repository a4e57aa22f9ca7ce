/- Texts of one proof, one behind the other: Open, Held, Str, Fun, Cut, MapI, MapS, Ints, Full. -/
import Derived.Test.YtbgdphbebhjpiaaGreatDoorM1
import Derived.ProofKit
import Derived.OpenShut
import Derived.Carry
import Derived.SizedLaws
import Derived.Deep.Slices
import Derived.Scope
import Derived.Laws.Slices
import Derived.MapKept
import Derived.ChangeMaps5
import Derived.WideKeyEntry
import Derived.Lib.AppendStr
import Derived.Lib.UnsafeStr
import Derived.Lib.Builder
import Derived.Deep.AppendSrc
import Derived.Deep.Upon
namespace Go.Proofs.YtbgdphbebhjpiaaGreatDoor
open Go.RowKit Go.ChangeShapes Go.WideShapes
structure Sl (α:Type) where
 addr:Option Addr
 cap:Nat
 list:List α
instance {α : Type} : Inhabited (Sl α) := ⟨none, 0, []⟩
def Sl.v {α:Type}(s:Sl α):Value:= .slice s.addr s.list.length s.cap
def Fact.and(f g:Fact):Fact:=⟨fun S w=>f.p S w∧g.p S w,fun hs ha h=>⟨f.mono hs ha h.1,g.mono hs ha h.2⟩⟩
def Fact.each{α:Type}(xs:List α)(g:α→Fact):Fact:=⟨fun S w=> ∀x∈xs,(g x).p S w,fun hs ha h x hx=>(g x).mono hs ha (h x hx)⟩
def Fact.true:Fact:=⟨fun _ _=>True,fun _ _ h=>h⟩
section
variable {F : List Fact} {f g : Fact} {α : Type}
theorem Has.left(h:Has F (f.and g)):Has F f:=fun S w k=>(h S w k).1
theorem Has.right(h:Has F (f.and g)):Has F g:=fun S w k=>(h S w k).2
theorem Has.and(h:Has F f)(k:Has F g):Has F (f.and g):=fun S w q=>⟨h S w q,k S w q⟩
theorem Has.each{xs:List α}{g:α→Fact}(h:Has F (Fact.each xs g)){x:α}(hx:x∈xs):Has F (g x):=fun S w k=>h S w k x hx
theorem Has.true:Has F Fact.true:=fun _ _ _=>trivial
end
structure Ty (α:Type) where
 E:Flat α
 deep:α→Fact
def Ty.sl {α:Type}(T:Ty α)(s:Sl α):Fact:=(T.E.sl s.v s.list).and (Fact.each s.list T.deep)
section
variable {F : List Fact} {α : Type} {T : Ty α}
theorem Has.cells{s:Sl α}(h:Has F (T.sl s)):Has F (T.E.sl (.slice s.addr s.list.length s.cap) s.list):=h.left
theorem Has.at{s:Sl α}(h:Has F (T.sl s)){k:Nat}{x:α}(hx:s.list[k]?=some x):Has F (T.deep x):=h.right.each (List.mem_of_getElem? hx)
end
def bJt {α H:Type}(enc:TypeId×Value→H)(P:Program)(w:World)(t:TypeId)(cells:α→List Value)(deep:α→Fact):Prop:=
 ∀fuel cs x,DataW.trod enc P w 0 (fun _=>true) true fuel t cs=some x→(∀n∈x.1.weights P t,n≤reachBytes)→ ∃a,cs=cells a∧(deep a).p (fun b=>b<w.heap.size) w
section
variable {H : Type} {enc : TypeId × Value → H} {P : Program} {w : World} {t e : TypeId}
theorem opens_string(hu:P.underlying t=some .string):bJt enc P w t (fun s:ByteArray=>[.string s]) (fun s=>Fact.pure (s.size≤140737488355328)):=fun fuel cs x h hw=>by
 obtain⟨s,e,hx,_⟩:=DataW.trod_string hu h;refine⟨s,e,?_⟩;have:=hw s.data.toList.length (by rw [hx];simp only [DataW.weights,List.mem_singleton]);have e2:s.data.toList.length=s.size:=by rw [Array.length_toList];rfl
 rw [e2] at this;show s.size≤_;exact Nat.le_trans this (by decide)
def slE (α:Type):Flat (Sl α) where
 size:=1
 cells:=fun s=>[.slice s.addr s.list.length s.cap]
 len:=fun _=>rfl
 one:=fun x u hu=>by simp at hu;subst hu;rfl
 pos:=by decide
def Ty.slice{α:Type}(T:Ty α)(b:Nat):Ty (Sl α):=⟨slE α,fun s=>(T.sl s).and (Fact.pure (s.list.length*b≤140737488355328))⟩
theorem bJt.arg{α:Type}{cells:α→List Value}{deep:α→Fact}(h:bJt enc P w t cells deep){v:Value}{d:DataW H}{p:List MemPlace}(ht:DataW.Trod enc P w 0 (fun _=>true) true t v d p){ts:List TypeId}{ds:List (DataW H)}{j:Nat}
  (hsz:(DataW.weightsEach P ts ds).all (· ≤reachBytes)=true) (hj:ts[j]?=some t) (hd:ds[j]?=some d): ∃a,v.cells.toList=cells a∧(deep a).p (fun b=>b<w.heap.size) w:=by
 obtain⟨fuel,hf⟩:=ht
 exact h fuel _ _ hf fun n hn=>by
  have:=List.all_eq_true.1 hsz _ (DataW.weights_mem_each hj hd n hn)
  simpa using this
end
def intTy:Ty Int:=⟨bKh,fun z=>Fact.pure ((Lit.int .i64 z).wf=true)⟩
end Go.Proofs.YtbgdphbebhjpiaaGreatDoor
namespace Go.Proofs.YtbgdphbebhjpiaaGreatDoor
open Go.RowKit
section
variable {P : Program} {β : fV} {n : Nat} {Γ : Env} {H : List cA} {F : List Fact} {Q : Exit → Act → World → Prop} {K : Act → World → Prop} {T : Tab} {α : Type} {E : Flat α}
theorem gA{ops:Array Oper}{rest:List Oper}{o:Oper}{d:Nat}{x y:Operand}{t e:TypeId}{i:TypeInfo}{z:Value}{by_ c q:Nat}{v:Value}{A:Option Addr}{xs ys:List α}{H':List cA}(hH:dK H (E.row v e xs) H')(hr:cN β H F E A ys)(hg:o.guard=none)
  (ho:o.op= .call {callee:= .builtin .append,args:= #[x,y],argTypes:= #[t,t]}) (hd:o.dst=some d) (hn:Nat.blt d n=true) (hu:P.underlying t=some (.slice e)) (hi:P.info? e=some i) (hz:i.zero=some z) (hsize:i.size=E.size) (hby:i.bytes=by_) (hzs:z.cells.size=E.size)
  (hx:Γ.ev x=some v) (hy:Γ.ev y=some (.slice A q c)) (hq:q=ys.length) (hbytes:(xs.length+ys.length)*by_≤140737488355328) (hpos:0<by_)
  (k: ∀A' cap',At β n ((d,.slice A' (xs++ys).length cap')::Γ) (E.row (.slice A' (xs++ys).length cap') e (xs++ys)::H') F (wpList P ops Q rest)):At β n Γ H F (wpList P ops Q (o::rest)):=by
 by_cases hne:0<ys.length
 ·exact bEp hH hr hg ho hd hn hu hi hz hsize hby hzs hx hy hq hne hbytes hpos k
 ·have h0:ys=[]:=List.eq_nil_of_length_eq_zero (by omega);subst h0;subst hq;simp only [List.append_nil] at k;refine at_rowv hH fun A' cap' e=>?_;subst e
  cases A with
  | none=>
   have hw:want ops Γ o=some true:=by unfold want;rw [hg]
   refine jO hw fun a w S f s hF=>?_;have hown:w.ownsRow 0 e E.size (.slice A' xs.length cap') xs.length (E.all xs):=s.ok _ hH.mem
   have hr':(Builtin.append_ #[t,t] o.type #[.slice A' xs.length cap',.slice none 0 c]).run P w= .ok (.slice A' xs.length cap') w:=by
    rcases hown.2 with ⟨e,e0⟩ | ⟨g,cap,cur,e,_,_,hnc,_⟩
    ·injection e with e1 e2 e3
     subst e1 e3;rw [e2];simp [Builtin.append_,run_underlying hu,sizeOf,typeInfo,hi,Builtin.lenOf,Builtin.firstCells]
    ·injection e with e1 e2 e3
     subst e1 e3;simp [Builtin.append_,run_underlying hu,sizeOf,typeInfo,hi,Builtin.lenOf,Builtin.firstCells,hnc,storeCells]
   have hx2:(execOp a.eval o).run P w= .ok (.value (.slice A' xs.length cap')) w:=by
    unfold execOp;simp only [ho,resolve,invoke,builtin,Sem.run_bind,Sem.run_pure,Result.andThen_ok,List.map_toArray,List.map_cons,List.map_nil,f.ev hx,f.ev hy,List.length_nil,hr']
   unfold Oper.wp;rw [hx2,Oper.upon_value,hd];exact k A' cap' _ _ S (f.put (by simpa [Nat.blt_eq] using hn) _) (s.perm hH.perm) hF
  | some ad=>
   intro a w S f s hF;have hown:w.ownsRow 0 e E.size (.slice A' xs.length cap') xs.length (E.all xs):=s.ok _ hH.mem;have hb':xs.length*by_≤140737488355328:=by simpa using hbytes
   have h63:xs.length≤maxLen:=by
    have:xs.length≤xs.length*by_:=Nat.le_mul_of_pos_right _ hpos;simp [maxLen];omega
   refine wpList_append_own_at w hg x y t ho 0 e i z E.size by_ hu hi hz hsize hby hzs E.pos _ xs.length (E.all xs) (f.ev hx) hown ad 0 c [] (f.ev hy) (by simp) (fun j u hj=>by simp at hj) (by simp) h63 hb' (Nat.zero_le _) ?_;intro v' w' hown' hgrow _ hat;rw [List.append_nil] at hown';have s2:=s.perm hH.perm;rw [hd];have s3:=s2.swap_row (nB hgrow) hat hown';refine bGt (β:=β) (n:=n) (Γ:=(d,v')::Γ) (H:= .row v' e E.size (xs.length+0) (E.all xs)::H') (F:=F) (K:=wpList P ops Q rest) .head (fun _ ⟨A2,cap2,e2,_⟩=>?_) _ _ S (f.put (by simpa [Nat.blt_eq] using hn) _) s3 (All.mono (fun _ h=>h) (s.agree (nB hgrow) (fun b hb e=>(s2.own _ (List.mem_cons_self ..) b e.symm).2.2 hb)) hF);subst e2;exact k A2 cap2
theorem bLz{ops:Array Oper}{rest:List Oper}{o:Oper}{d:Nat}{t e:TypeId}{ie:TypeInfo}(E:Flat α)(hw:want ops Γ o=some true)(ho:o.op= .buildSlice t 0 #[])(hd:o.dst=some d)(hn:Nat.blt d n=true)
  (hu:P.underlying t=some (.slice e)) (hie:P.info? e=some ie)
  (k: ∀b,At β n ((d,.slice (some ⟨b,0,none⟩) 0 0)::Γ) (E.row (.slice (some ⟨b,0,none⟩) 0 0) e []::H) F (wpList P ops Q rest)):At β n Γ H F (wpList P ops Q (o::rest)):=by
 refine zO (m:=0) (parts:= #[]) (e:=e) (cs:=[]) hw ho hd hn (fun a w f=>?_) fun b=>?_
 ·simp [Instr.buildSlice,run_underlying hu,sizeOf,typeInfo,hie,newRow,Instr.fill,Array.range_zero']
 ·intro a w S f s hF;have hok:w.heap[b]?=some (.cells #[] e (0,0)):=s.ok _ (List.mem_cons_self ..);refine k b a w S f ⟨s.kept,fun c hc=>?_,fun c hc b' hb=>?_,?_,s.zone⟩ hF
  ·rcases List.mem_cons.1 hc with rfl | hc
   ·exact⟨by simp [Flat.all],.inr ⟨b,0,#[],rfl,Nat.zero_le _,hok,Nat.le_refl _,by simp [maxLen],by simp,by simp [Flat.all]⟩⟩
   ·exact s.ok c (List.mem_cons_of_mem _ hc)
  ·rcases List.mem_cons.1 hc with rfl | hc
   ·exact s.own (.obj b (.cells #[] e)) (List.mem_cons_self ..) b' hb
   ·exact s.own c (List.mem_cons_of_mem _ hc) b' hb
  ·have hp:=List.pairwise_cons.1 s.sep;exact List.pairwise_cons.2 ⟨fun d hd b hb=>hp.1 d hd b hb,hp.2⟩
end
end Go.Proofs.YtbgdphbebhjpiaaGreatDoor
namespace Go.Proofs.YtbgdphbebhjpiaaGreatDoor
open Go.RowKit
abbrev Bs:=List UInt8
def bs (l:Bs):ByteArray:=⟨l.toArray⟩
theorem kH(l:Bs):(bs l).size=l.length:=rfl
theorem bs_data(l:Bs):(bs l).data.toList=l:=rfl
section
variable {P : Program} {β : fV} {n : Nat} {Γ : Env} {H : List cA} {F : List Fact} {Q : Exit → Act → World → Prop} {K : Act → World → Prop} {T : Tab} {α : Type} {E : Flat α}
theorem gI{o:Oper}{t tt:TypeId}{x y:Operand}{a b:Bs}(ho:o.op= .binOp .add t x y tt)(hx:Γ.ev x=some (.string (bs a)))(hy:Γ.ev y=some (.string (bs b)))(hl:a.length+b.length≤9223372036854775807):Sti P β n Γ H F o (.string (bs (a++b))):=fun c w S f s k=>by
 have hl': ¬(((bs a).size+(bs b).size:Nat):Int)>IntKind.i64.max:=by
  rw [kH,kH];simp [IntKind.max,IntKind.signed,IntKind.bits];omega
 have e:bs a++bs b=bs (a++b):=by
  apply ByteArray.ext;simp [bs]
 unfold execOp;simp only [ho,f.ev hx,f.ev hy,eqGuard,binOp,Op.stringOp,if_neg hl',e];rfl
theorem oP(hT:gH P T){o:Oper}{t k sz:Nat}{x i:Operand}{kk:IntKind}{z:Int}{a:Bs}{b:UInt8}(ho:o.op= .index t x i)(hx:Γ.ev x=some (.string (bs a)))(hi:Γ.ev i=some (.int kk z))(ht:T.get t=some ⟨.string,sz⟩)(hz:z=(k:Nat))(hb:a[k]?=some b):
  Sti P β n Γ H F o (.int .u8 b.toNat):=fun c w S f s _=>by
 subst hz;obtain⟨hk,hb⟩:=List.getElem?_eq_some_iff.1 hb
 have hr:=run_index_string (P:=P) w t (bs a) kk (k:Int) (by
  have:=hT.string ht w;obtain⟨d,hu,hd⟩:=hT.any ht;cases d<;>simp [TD.of] at hd
  exact hu)
 rw [dif_pos ⟨by omega,by rw [kH];omega⟩] at hr
 have e:(bs a)[(k:Int).toNat]'(by rw [kH];simpa using hk)=b:=by
  rw [←hb];simp [bs,ByteArray.getElem_eq_getElem_data]
 unfold execOp;simp only [ho,f.ev hx,f.ev hi];rw [Sem.run_bind,hr,e];rfl
theorem gH.str(hT:gH P T){t sz:Nat}(ht:T.get t=some ⟨.string,sz⟩):P.underlying t=some .string:=by
 obtain⟨d,hu,hd⟩:=hT.any ht;cases d<;>simp [TD.of] at hd
 exact hu
theorem bDr(hT:gH P T){t sz:Nat}(ht:T.get t=some ⟨.string,sz⟩)(a:Bs)(lo hi mx:Option Value)(w:World):(Instr.sliceAt t (.string (bs a)) lo hi mx).run P w=(Instr.slice t (.string (bs a)) lo hi mx).run P w:=by
 have hu:=hT.str ht;simp [Instr.sliceAt,run_underlying hu]
theorem bMr(hT:gH P T){o:Oper}{t k sz:Nat}{x i:Operand}{kk:IntKind}{z:Int}{a:Bs}(ho:o.op= .slice t x (some i) none none)(hx:Γ.ev x=some (.string (bs a)))(hi:Γ.ev i=some (.int kk z))(ht:T.get t=some ⟨.string,sz⟩)(hz:z=(k:Nat))(hk:k≤a.length):
  Sti P β n Γ H F o (.string (bs (a.drop k))):=fun c w S f s _=>by
 subst hz;have hr:=run_slice_string_l (P:=P) w t (bs a) (hT.str ht) kk (k:Int) (by omega) (by rw [kH];omega)
 have e:(bs a).extract (k:Int).toNat (bs a).size=bs (a.drop k):=by
  rw [kH];show(ByteArray.mk a.toArray).extract _ _=_;rw [ByteArray.extract_mk,List.take_of_length_le (by simp)];rfl
 unfold execOp;simp only [ho,f.ev hx,Option.map_some,Option.map_none,f.ev hi];rw [Sem.run_bind,bDr hT ht,hr,e];rfl
theorem wQ(hT:gH P T){o:Oper}{t k sz:Nat}{x i:Operand}{kk:IntKind}{z:Int}{a:Bs}(ho:o.op= .slice t x none (some i) none)(hx:Γ.ev x=some (.string (bs a)))(hi:Γ.ev i=some (.int kk z))(ht:T.get t=some ⟨.string,sz⟩)(hz:z=(k:Nat))(hk:k≤a.length):
  Sti P β n Γ H F o (.string (bs (a.take k))):=fun c w S f s _=>by
 subst hz;have hr:=run_slice_string_h (P:=P) w t (bs a) (hT.str ht) kk (k:Int) (by omega) (by rw [kH];omega)
 have e:(bs a).extract 0 (k:Int).toNat=bs (a.take k):=by
  show(ByteArray.mk a.toArray).extract _ _=_;rw [ByteArray.extract_mk];rfl
 unfold execOp;simp only [ho,f.ev hx,Option.map_some,Option.map_none,f.ev hi];rw [Sem.run_bind,bDr hT ht,hr,e];rfl
def iF (A:Option Addr)(l size c:Nat):Option Addr:=if c=l then A else A.map (·.add (l*size))
end
end Go.Proofs.YtbgdphbebhjpiaaGreatDoor
namespace Go.Proofs.YtbgdphbebhjpiaaGreatDoor
open Go.RowKit
section
variable {P : Program} {β : fV} {n : Nat} {Γ : Env} {H : List cA} {F : List Fact} {Q : Exit → Act → World → Prop} {K : Act → World → Prop} {T : Tab} {α : Type} {E : Flat α}
theorem at_scope{c:Code}(h:At β n Γ H F (c.wp P (Exit.noGoto Q))):At β n Γ H F ((Code.scope c).wp P Q):=fun a w S f s k=>wp_scope_straight (h a w S f s k)
theorem at_label{l:Nat}(h:At β n Γ H F (Q .normal)):At β n Γ H F ((Code.label l).wp P Q):=fun a w S f s k=>wp_label (h a w S f s k)
theorem r_scope(h:At β n Γ H F (Q .ret)):At β n Γ H F (Exit.noGoto Q .ret):=h
theorem run_callv{o:Oper}{f:FuncId}{x:Operand}{first cap:Array Value}{ars:Array Operand}{ts:Array TypeId}{vs:List Value}{a:Act}(hcf: ∀(args:Array Value) (w:World),(callFunc f args).run P w= .ok (.enter f args) w)(ho:o.op= .call ⟨.value x,ars,ts⟩)(fi:oC n Γ a)
  (hx:Γ.ev x=some (.func (.func f) first cap)) (hv:Γ.evs ars.toList=some vs) (w:World):(execOp a.eval o).run P w= .ok (.enter f (first++vs.toArray++cap)) w:=by
 have hm:ars.map a.eval=vs.toArray:=by
  apply Array.ext'
  simpa using fi.evs hv
 unfold execOp;simp only [ho,resolve,fi.ev hx,Deferred.ofValue,Sem.run_bind,Sem.run_pure,Result.andThen_ok,invoke];simp [hm,hcf]
theorem gP{ι:Type}{ops:Array Oper}{rest:List Oper}{o:Oper}{d:Nat}{f:FuncId}{x:Operand}{first cap:Array Value}{ars:Array Operand}{ts:Array TypeId}{vs all:List Value}{Hin H2:List cA}{Pre:List Fact}{val:ι→Value}{Hout:ι→List cA}{post:ι→List Fact}
  (hcf: ∀(args:Array Value) (w:World),(callFunc f args).run P w= .ok (.enter f args) w) (hs:dX P f all Hin Pre val Hout post) (hw:want ops Γ o=some true) (ho:o.op= .call ⟨.value x,ars,ts⟩) (hx:Γ.ev x=some (.func (.func f) first cap)) (hd:o.dst=some d) (hn:Nat.blt d n=true)
  (hv:Γ.evs ars.toList=some vs) (hall:first.toList++vs++cap.toList=all) (hH:rW H Hin H2) (hF:bI F Pre) (k: ∀x,At β n ((d,val x)::Γ) (Hout x++H2) (post x++F) (wpList P ops Q rest)):At β n Γ H F (wpList P ops Q (o::rest)):=
 jO hw fun a w S f s hk=>by
  unfold Oper.wp;rw [run_callv hcf ho f hx hv w,Oper.upon_enter]
  have e:first++vs.toArray++cap=all.toArray:=by
   rw [←hall];apply Array.ext';simp
  rw [e];have s1:=s.perm hH.perm;refine(hs S w s1.enter (hF.all S w hk)).mono ?_;rintro e w' ⟨x,S',rfl,s',k'⟩;show wpList P ops Q rest (a.put o.dst (val x)) w';rw [hd];exact k x _ _ _ (f.put (by simpa [Nat.blt_eq] using hn) _) (s1.leave s') ((All.mono (fun _ h=> .inr h) (fun _ _=>rfl) k').append (All.leave s1 s' hk))
def resVal(a:Act):ResultVar→Sem Value
 | .tmp t=>pure (a.tmps.getD t undef)
 | .cell ad t=>do loadVar t (←asAddr (a.tmps.getD ad undef))
def RV (P:Program)(β:fV)(n:Nat)(Γ:Env)(H:List cA)(F:List Fact)(r:ResultVar)(v:Value):Prop:= ∀a w S,oC n Γ a→St β H S w→All F S w→(resVal a r).run P w= .ok v w
theorem bG{t:Nat}{v:Value}(h:Γ.get t=some v):RV P β n Γ H F (.tmp t) v:=fun a w S f _ _=>by
 have:=f.get t v h;simp [resVal,Array.getD_eq_getD_getElem?,this]
theorem bM(hT:gH P T){t ty b q:Nat}{i:TI}{cs l:List Value}(hk:nN β H F b q cs)(h:Γ.get t=some (.pointer (some ⟨b,q,none⟩)))(ht:T.get ty=some i)(ha:aggD i.desc=true)(hv:cut cs 0 i.size=some l):RV P β n Γ H F (.cell t ty) (.agg l.toArray):=fun a w S f s k=>by
 have:=f.get t _ h;obtain⟨h1,h2,h3⟩:=vU hv;have hl:=run_loadCells_list (P:=P) w ⟨b,q,none⟩ l (fun j u hj=>by rw [Addr.add_mid];exact hk w S s k j u (by simpa using h3 j u hj));rw [h2] at hl;unfold resVal;simp only [Array.getD_eq_getD_getElem?,this,Option.getD_some,asAddr,Sem.run_bind,Sem.run_pure,Result.andThen_ok,loadVar,hT.agg ht,ha,if_true,hT.size ht,hl]
theorem tP(fn:Func)(a:Act):results fn a.tmps=(do let vs←fn.results.mapM (resVal a);pure (if h:vs.size=1 then vs[0] else .tuple vs)):=by
 have e:(fun x:ResultVar=>(match x with | .tmp t=>pure (a.tmps.getD t undef) | .cell ad t=>do loadVar t (←asAddr (a.tmps.getD ad undef)):Sem Value))=resVal a:=by
  funext x
  cases x<;>rfl
 unfold results;rw [←e];rfl
section
variable {ι : Type} {fn : Func} {val : ι → Value} {Hout : ι → List cA} {post : ι → List Fact} {r1 r2 r3 : ResultVar} {v1 v2 v3 : Value}
theorem uM(x:ι)(hr:fn.results= #[])(hH:Sel H (Hout x))(hF:bI F (post x))(he: .tuple #[]=val x):At β n Γ H F (bodyPost P fn (Done β val Hout post) .normal):=fun a w S f s k=>by
 refine⟨f.defers,.tuple #[],?_,x,S,by rw [he],s.sel hH,hF.all S w k⟩;rw [tP,hr];simp
theorem bV(x:ι)(hr:fn.results= #[r1])(h1:RV P β n Γ H F r1 v1)(hH:Sel H (Hout x))(hF:bI F (post x))(he:v1=val x):At β n Γ H F (bodyPost P fn (Done β val Hout post) .ret):=fun a w S f s k=>by
 refine⟨f.defers,v1,?_,x,S,by rw [he],s.sel hH,hF.all S w k⟩;rw [tP,hr];simp [h1 a w S f s k]
theorem bO(x:ι)(hr:fn.results= #[r1,r2])(h1:RV P β n Γ H F r1 v1)(h2:RV P β n Γ H F r2 v2)(hH:Sel H (Hout x))(hF:bI F (post x))(he: .tuple #[v1,v2]=val x):At β n Γ H F (bodyPost P fn (Done β val Hout post) .ret):=fun a w S f s k=>by
 refine⟨f.defers,.tuple #[v1,v2],?_,x,S,by rw [he],s.sel hH,hF.all S w k⟩;rw [tP,hr];simp [h1 a w S f s k,h2 a w S f s k]
theorem hO(x:ι)(hr:fn.results= #[r1,r2,r3])(h1:RV P β n Γ H F r1 v1)(h2:RV P β n Γ H F r2 v2)(h3:RV P β n Γ H F r3 v3)(hH:Sel H (Hout x))(hF:bI F (post x))(he: .tuple #[v1,v2,v3]=val x):At β n Γ H F (bodyPost P fn (Done β val Hout post) .ret):=fun a w S f s k=>by
 refine⟨f.defers,.tuple #[v1,v2,v3],?_,x,S,by rw [he],s.sel hH,hF.all S w k⟩;rw [tP,hr];simp [h1 a w S f s k,h2 a w S f s k,h3 a w S f s k]
end
end
theorem or_u8(a b:UInt8):IntKind.u8.wrap (((BitVec.ofInt IntKind.u8.bits (a.toNat:Int) ||| BitVec.ofInt IntKind.u8.bits (b.toNat:Int)).toNat:Nat):Int)=(((a ||| b).toNat:Nat):Int):=by
 show IntKind.u8.wrap (((BitVec.ofInt 8 (a.toNat:Int) ||| BitVec.ofInt 8 (b.toNat:Int)).toNat:Nat):Int)=_
 have h1: ∀c:UInt8,BitVec.ofInt 8 (c.toNat:Int)=c.toBitVec:=fun c=>by
  apply BitVec.eq_of_toNat_eq;simp
 rw [h1,h1];have h2:(a.toBitVec ||| b.toBitVec).toNat=(a ||| b).toNat:=rfl;have h3:=(a ||| b).toNat_lt;rw [h2];generalize (a ||| b).toNat=c at*;simp only [IntKind.wrap,IntKind.signed,IntKind.bits];simp;omega
theorem bBm{H:Type}{enc:TypeId×Value→H}{P:Program}{w:World}{t:TypeId}(hu:P.underlying t=some .string):bJt enc P w t (fun s:Bs=>[.string (bs s)]) (fun s=>Fact.pure (s.length≤140737488355328)):=fun fuel cs x h hw=>by
 obtain⟨s,e,hs⟩:=opens_string hu fuel cs x h hw;exact⟨s.data.toList,e,hs⟩
end Go.Proofs.YtbgdphbebhjpiaaGreatDoor
namespace Go.Proofs.YtbgdphbebhjpiaaGreatDoor
open Go.RowKit
section
variable {P : Program} {β : fV} {n : Nat} {Γ : Env} {H : List cA} {F : List Fact} {Q : Exit → Act → World → Prop} {K : Act → World → Prop} {T : Tab} {α : Type} {E : Flat α}
theorem elem_of{t e:Nat}(hu:P.underlying t=some (.slice e)):P.elem t=e:=by simp [Program.elem,hu]
theorem bMd(hT:gH P T){t e sz:Nat}{ei:TI}(ht:T.get t=some ⟨.slice e,sz⟩)(he:T.get e=some ei){A:Option Addr}{l c k:Nat}(hk:k≤c)(kk:IntKind)(w:World):(Instr.sliceAt t (.slice A l c) none (some (.int kk (k:Nat))) none).run P w= .ok (.slice A k c) w:=by
 obtain⟨d,hu,hd⟩:=hT.any ht;cases d<;>simp [TD.of] at hd
 subst hd;have hel:=elem_of hu;rw [run_sliceAt_slice w t _ _ _ _ (by rw [hel];exact hu),run_slice_h w t A l c (by rw [hel];exact hu) kk (k:Int) (by omega) (by omega),hel,hT.size he];simp only [Result.andThen_ok,sliced,Int.toNat_natCast,Nat.zero_mul,Nat.sub_zero]
 congr 2
 split
 ·rfl
 ·cases A<;>simp [Addr.add]
theorem run_cutFrom(hT:gH P T){t e sz:Nat}{ei:TI}(ht:T.get t=some ⟨.slice e,sz⟩)(he:T.get e=some ei){A:Option Addr}{l c k:Nat}(hk:k≤l)(kk:IntKind)(w:World):(Instr.sliceAt t (.slice A l c) (some (.int kk (k:Nat))) none none).run P w= .ok (.slice (iF A k ei.size c) (l-k) (c-k)) w:=by
 obtain⟨d,hu,hd⟩:=hT.any ht;cases d<;>simp [TD.of] at hd
 subst hd;have hel:=elem_of hu;rw [run_sliceAt_slice w t _ _ _ _ (by rw [hel];exact hu),run_slice_l w t A l c (by rw [hel];exact hu) kk (k:Int) (by omega) (by omega),hel,hT.size he];simp only [Result.andThen_ok,sliced,Int.toNat_natCast,iF]
theorem iZ{ops:Array Oper}{rest:List Oper}{o:Oper}(hT:gH P T){d t e sz k m cap:Nat}{ei:TI}{x i:Operand}{kk:IntKind}{z:Int}{A:Option Addr}{xs:List α}{H':List cA}(hH:dK H (E.row (.slice A m cap) e xs) H')(hw:want ops Γ o=some true)(ho:o.op= .slice t x none (some i) none)(hd:o.dst=some d)(hn:Nat.blt d n=true)
  (hx:Γ.ev x=some (.slice A m cap)) (hi:Γ.ev i=some (.int kk z)) (ht:T.get t=some ⟨.slice e,sz⟩) (he:T.get e=some ei) (hz:z=(k:Nat)) (hk:k≤xs.length)
  (K:At β n ((d,.slice A (xs.take k).length cap)::Γ) (E.row (.slice A (xs.take k).length cap) e (xs.take k)::H') F (wpList P ops Q rest)):At β n Γ H F (wpList P ops Q (o::rest)):=
 jO hw fun a w S f s hF=>by
  subst hz;have hown:w.ownsRow 0 e E.size (.slice A m cap) xs.length (E.all xs):=s.ok _ hH.mem
  have hkc:k≤cap∧(xs.take k).length=k∧w.ownsRow 0 e E.size (.slice A (xs.take k).length cap) (xs.take k).length (E.all (xs.take k)):=by
   have hl:(xs.take k).length=k:=by simp;omega
   have hall:E.all (xs.take k)=(E.all xs).take (k*E.size):=by
    have:=E.all_append (xs.take k) (xs.drop k);rw [List.take_append_drop] at this;rw [this,List.take_left' (by rw [E.all_length,hl])]
   rcases hown.2 with ⟨e1,e0⟩ | ⟨g,cap',cur,e1,h1,h2,h3,h4,h5,h6⟩
   ·injection e1 with e1 e2 e3
    subst e1 e3;have:xs=[]:=List.eq_nil_of_length_eq_zero e0;subst this;have hk0:k=0:=by simpa using hk
    subst hk0;exact⟨Nat.le_refl _,hl,⟨by simp [Flat.all],.inl ⟨rfl,rfl⟩⟩⟩
   ·injection e1 with e1 e2 e3
    subst e1 e3;refine⟨by omega,hl,⟨by rw [E.all_length],.inr ⟨g,cap,cur,rfl,h1,h2,by omega,h4,h5,?_⟩⟩⟩;rw [hall,hl,←h6,List.take_take]
    congr 1
    exact(Nat.min_eq_left (Nat.mul_le_mul_right _ hk)).symm
  have hr:(execOp a.eval o).run P w= .ok (.value (.slice A (xs.take k).length cap)) w:=by
   unfold execOp;simp only [ho,f.ev hx,Option.map_some,Option.map_none,f.ev hi];rw [Sem.run_bind,bMd hT ht he hkc.1,hkc.2.1];rfl
  unfold Oper.wp;rw [hr,Oper.upon_value,hd];have s2:=s.perm hH.perm;have s3:=s2.swap_row (v':= .slice A (xs.take k).length cap) (w':=w) (mX.refl _ _) (.inl (by cases A<;>rfl)) hkc.2.2;exact K _ _ S (f.put (by simpa [Nat.blt_eq] using hn) _) s3 hF
theorem xM{b:Nat}{cs:List Value}{t:TypeId}{H':List cA}(hH:dK H (.obj b (.cells cs.toArray t)) H')(h:At β n Γ H' (Fact.cells b 0 cs::F) K):At β n Γ H F K:=fun a w S f s k=>by
 have s2:=s.perm hH.perm;have hok:w.heap[b]?=some (.cells cs.toArray t):=s2.ok _ (List.mem_cons_self ..);have hsep:=List.pairwise_cons.1 s2.sep;have hown:=s2.own _ (List.mem_cons_self ..);have hmono:All F (fun x=>S x∨x=b) w:=All.mono (fun _ h=> .inl h) (fun _ _=>rfl) k;refine h a w (fun x=>S x∨x=b) f ⟨s2.kept,fun c hc=>s2.ok c (List.mem_cons_of_mem _ hc),fun c hc x hx=>?_,hsep.2,fun x hx=>?_⟩ (All.cons ?_ hmono)
 ·obtain⟨h1,h2,h3⟩:=s2.own c (List.mem_cons_of_mem _ hc) x hx;refine⟨h1,h2,fun h=>?_⟩
  rcases h with h | h
  ·exact h3 h
  ·subst h;exact hsep.1 c hc _ rfl hx
 ·rcases hx with hx | hx
  ·exact s2.zone x hx
  ·subst hx;obtain⟨h1,h2,_⟩:=hown _ rfl;exact⟨h1,.inr h2⟩
 ·refine⟨.inr rfl,fun j u hj=>?_⟩;unfold World.cell?;rw [hok]
  simpa using hj
theorem sti_fn{o:Oper}{x:Operand}{t tt:TypeId}{ps rs:Array TypeId}{vr:Bool}(hu:P.underlying t=some (.func ps rs vr)){fn:Fn}{a b:Array Value}(ho:o.op= .binOp .neq t x (.const .nilFunc) tt)(hx:Γ.ev x=some (.func fn a b)):Sti P β n Γ H F o (.bool true):=fun c w S f s k=>by
 unfold execOp;have e:c.eval (.const .nilFunc)= .nilFunc:=rfl;have he: ∀d,(Op.equalIn (d+1) t (.func fn a b) .nilFunc).run P w= .ok false w:=fun d=>by simp [Op.equalIn,run_underlying hu]
 have hb:(binOp .neq t (.func fn a b) .nilFunc).run P w= .ok (.bool true) w:=by
  simp only [binOp];rw [Sem.run_bind,show Op.equal t (.func fn a b) .nilFunc=Op.equalIn 10000 t (.func fn a b) .nilFunc from rfl,he 9999];rfl
 have hg:(eqGuard .neq t x (.const .nilFunc) (.func fn a b) .nilFunc).run P w= .ok () w:=rfl;simp only [ho,f.ev hx,e];rw [Sem.run_bind,Sem.run_bind,hg,Result.andThen_ok,hb];rfl
theorem sti_nofn{o:Oper}{x:Operand}{t tt:TypeId}{ps rs:Array TypeId}{vr:Bool}(hu:P.underlying t=some (.func ps rs vr))(ho:o.op= .binOp .neq t x (.const .nilFunc) tt)(hx:Γ.ev x=some .nilFunc):Sti P β n Γ H F o (.bool false):=fun c w S f s k=>by
 unfold execOp;have e:c.eval (.const .nilFunc)= .nilFunc:=rfl;have he: ∀d,(Op.equalIn (d+1) t .nilFunc .nilFunc).run P w= .ok true w:=fun d=>by simp [Op.equalIn,run_underlying hu]
 have hb:(binOp .neq t .nilFunc .nilFunc).run P w= .ok (.bool false) w:=by
  simp only [binOp];rw [Sem.run_bind,show Op.equal t .nilFunc .nilFunc=Op.equalIn 10000 t .nilFunc .nilFunc from rfl,he 9999];rfl
 have hg:(eqGuard .neq t x (.const .nilFunc) .nilFunc .nilFunc).run P w= .ok () w:=rfl;simp only [ho,f.ev hx,e];rw [Sem.run_bind,Sem.run_bind,hg,Result.andThen_ok,hb];rfl
theorem Has.cons{f g:Fact}{F:List Fact}(h:Has F g):Has (f::F) g:=fun S w k=>h S w fun x hx=>k x (List.mem_cons_of_mem _ hx)
theorem Has.each_nil{α:Type}{g:α→Fact}{F:List Fact}:Has F (Fact.each [] g):=fun _ _ _ x hx=>by simp at hx
theorem Has.each_cons{α:Type}{g:α→Fact}{F:List Fact}{x:α}{l:List α}(hx:Has F (g x))(hl:Has F (Fact.each l g)):Has F (Fact.each (x::l) g):=fun S w k y hy=>by
 rcases List.mem_cons.1 hy with rfl | hy
 ·exact hx S w k
 ·exact hl S w k y hy
theorem Has.each_tail{α:Type}{g:α→Fact}{F:List Fact}{x:α}{l:List α}(h:Has F (Fact.each (x::l) g)):Has F (Fact.each l g):=fun S w k y hy=>h S w k y (List.mem_cons_of_mem _ hy)
theorem Has.each_snoc{α:Type}{g:α→Fact}{F:List Fact}{x:α}{l:List α}(hl:Has F (Fact.each l g))(hx:Has F (g x)):Has F (Fact.each (l++[x]) g):=fun S w k y hy=>by
 rcases List.mem_append.1 hy with hy | hy
 ·exact hl S w k y hy
 ·rw [List.mem_singleton.1 hy];exact hx S w k
theorem lC(hT:gH P T){o:Oper}{t e sz k l cap:Nat}{ei:TI}{x i:Operand}{kk:IntKind}{z:Int}{A:Option Addr}(ho:o.op= .slice t x none (some i) none)(hx:Γ.ev x=some (.slice A l cap))(hi:Γ.ev i=some (.int kk z))
  (ht:T.get t=some ⟨.slice e,sz⟩) (he:T.get e=some ei) (hz:z=(k:Nat)) (hk:k≤cap):Sti P β n Γ H F o (.slice A k cap):=fun a w S f s hF=>by
 subst hz;unfold execOp;simp only [ho,f.ev hx,Option.map_some,Option.map_none,f.ev hi];rw [Sem.run_bind,bMd hT ht he hk];rfl
theorem fJ(hT:gH P T){o:Oper}{t e sz k l cap:Nat}{ei:TI}{x i:Operand}{kk:IntKind}{z:Int}{A:Option Addr}(ho:o.op= .slice t x (some i) none none)(hx:Γ.ev x=some (.slice A l cap))(hi:Γ.ev i=some (.int kk z))
  (ht:T.get t=some ⟨.slice e,sz⟩) (he:T.get e=some ei) (hz:z=(k:Nat)) (hk:k≤l):Sti P β n Γ H F o (.slice (iF A k ei.size cap) (l-k) (cap-k)):=fun a w S f s hF=>by
 subst hz;unfold execOp;simp only [ho,f.ev hx,Option.map_some,Option.map_none,f.ev hi];rw [Sem.run_bind,run_cutFrom hT ht he hk];rfl
theorem has_take{A:Option Addr}{l c k:Nat}{xs:List α}(h:Has F (E.sl (.slice A l c) xs))(hk:k≤xs.length):Has F (E.sl (.slice A k c) (xs.take k)):=fun S w q=>by
 obtain⟨A',c',e,h⟩:=h S w q;injection e with e1 e2 e3
 subst e1 e3;refine⟨A,c,by rw [List.length_take,Nat.min_eq_left hk],fun j x hj=>?_⟩;rw [List.getElem?_take] at hj;split at hj
 ·exact h j x hj
 ·cases hj
theorem jY{A:Option Addr}{l c k:Nat}{xs:List α}(h:Has F (E.sl (.slice A l c) xs))(hc:l≤c)(hk:k≤xs.length):Has F (E.sl (.slice (iF A k E.size c) (l-k) (c-k)) (xs.drop k)):=fun S w q=>by
 obtain⟨A',c',e,h⟩:=h S w q;injection e with e1 e2 e3
 subst e1 e3;refine⟨iF A k E.size c,c-k,by rw [List.length_drop,e2],fun j x hj=>?_⟩;rw [List.getElem?_drop] at hj;obtain⟨b,o,cs,q1,q2,q3,q4⟩:=h _ x hj;have hlt:=(List.getElem?_eq_some_iff.1 hj).1;refine⟨b,o+k*E.size,cs,?_,q2,fun i u hi=>?_,q4⟩
 ·unfold iF;rw [if_neg (by omega),q1];show some ((⟨b,o,none⟩:Addr).add (k*E.size))=_;rw [Addr.add_mid]
 ·have:=q3 i u hi
  have e:o+k*E.size+j*(Enc.flat E.size E.cells).size+i=o+(k+j)*(Enc.flat E.size E.cells).size+i:=by
   show o+k*E.size+j*E.size+i=o+(k+j)*E.size+i;rw [Nat.add_mul];omega
  rw [e];exact this
theorem iI{A:Option Addr}{t:TypeId}{m cap:Nat}{xs:List α}{H':List cA}(hH:dK H (E.row (.slice A m cap) t xs) H')(h:xs.length≤cap→At β n Γ H F K):At β n Γ H F K:=fun a w S f s k=>by
 have hown:w.ownsRow 0 t E.size (.slice A m cap) xs.length (E.all xs):=s.ok _ hH.mem;refine h ?_ a w S f s k
 rcases hown.2 with ⟨_,e0⟩ | ⟨g,cap',cur,e1,h1,h2,h3,_⟩
 ·omega
 ·injection e1 with e1 e2 e3
  subst e3;omega
end
end Go.Proofs.YtbgdphbebhjpiaaGreatDoor
namespace Go.Proofs.YtbgdphbebhjpiaaGreatDoor
open Go.RowKit
open Go.ChangeMaps (setBlock)
abbrev KV:=List (Int×Value)
def kvI (kk:IntKind)(kv:KV):List (Value×Value):=kv.map fun p=>(Value.int kk p.1,p.2)
def sT (e:MapEntry):Value×Value:=(e.key,e.val)
def MapO (kk:IntKind)(kv:KV)(o:Option Obj):Prop:= ∃es clock,o=some (.map es clock)∧es.toList.map sT=kvI kk kv
def mapC (r:Nat)(kk:IntKind)(kv:KV):cA:= .gen (some r) (MapO kk kv)
def mapF (r:Nat)(kk:IntKind)(kv:KV):Fact where
 p S w:=S r∧MapO kk kv (w.heap[r]?)
 mono:=fun hs ha h=>⟨hs _ h.1,by rw [ha r h.1];exact h.2⟩
def uR (k:Int):KV→Nat→Option (Nat×Value)
 | [],_=>none
 | p::r,i=>if k==p.1 then some (i,p.2) else uR k r (i+1)
def xT (k:Int):KV→Option Value
 | []=>none
 | p::r=>if k==p.1 then some p.2 else xT k r
def xS (k:Int)(v:Value):KV→KV
 | []=>[(k,v)]
 | p::r=>if k==p.1 then (k,v)::r else p::xS k v r
theorem find_get(k:Int): ∀(kv:KV) (i:Nat),(uR k kv i).map (·.2)=xT k kv
 | [],_=>rfl
 | p::r,i=>by
  unfold uR xT;split
  ·rfl
  ·exact find_get k r (i+1)
theorem bMt{k:Int}{v:Value}: ∀{kv:KV} {i:Nat},uR k kv i=none→xS k v kv=kv++[(k,v)]
 | [],_,_=>rfl
 | p::r,i,h=>by
  unfold uR at h;unfold xS;split at h
  ·cases h
  ·rename_i hk;rw [if_neg hk,bMt h];rfl
theorem bKt{k:Int}{v:Value}{j:Nat}{u:Value}: ∀{kv:KV} {i:Nat},uR k kv i=some (j,u)→ ∃d,j=i+d∧ ∃p,kv[d]?=some p∧k=p.1∧xS k v kv=kv.set d (k,v)
 | [],_,h=>by cases h
 | p::r,i,h=>by
  unfold uR at h;split at h
  ·rename_i hk;simp only [Option.some.injEq,Prod.mk.injEq] at h;exact⟨0,by omega,p,rfl,by simpa using hk,by simp [xS,hk]⟩
  ·rename_i hk;obtain⟨d,h1,q,h2,h3,h4⟩:=bKt (v:=v) h;exact⟨d+1,by omega,q,h2,h3,by rw [xS,if_neg hk,h4];rfl⟩
section
variable {P : Program} {kk : IntKind} {k : Int} {w : World} {t kt et : TypeId}
theorem bEn(kk:IntKind)(k:Int): ∀(es:List MapEntry) (kv:KV) (i:Nat),es.map sT=kvI kk kv→Instr.findNow (.int kk) (.int kk k) es i=some (uR k kv i)
 | [],[],_,_=>rfl
 | [],_::_,_,h=>by simp [kvI] at h
 | _::_,[],_,h=>by simp [kvI] at h
 | e::es,p::kv,i,h=>by
  simp only [List.map_cons,List.cons.injEq,kvI,sT,Prod.mk.injEq] at h;obtain⟨⟨h1,h2⟩,h3⟩:=h;have ih:=bEn kk k es kv (i+1) h3;unfold Instr.findNow;rw [h1];simp only [Instr.sameNow,if_true,uR];cases hk:k==p.1
  ·simpa using ih
  ·simp [h2]
theorem tW(hk:P.underlying kt=some (.int kk)){es:List MapEntry}{kv:KV}(h:es.map sT=kvI kk kv):(Instr.findKey kt (.int kk k) es).run P w= .ok (uR k kv 0) w:=by
 unfold Instr.findKey;simp only [Sem.run_bind,run_underlying hk,Result.andThen_ok,bEn kk k es kv 0 h,Sem.run_pure]
theorem sD(hk:P.underlying kt=some (.int kk))(b:Bool):(Instr.checkKey b 10000 kt (.int kk k)).run P w= .ok () w:=by
 have: ∀n,(Instr.checkKey b (n+1) kt (.int kk k)).run P w= .ok () w:=fun n=>by simp [Instr.checkKey,run_underlying hk]
 exact this 9999
theorem run_staysI:(Instr.keyThatStays (.int kk k) (.int kk k)).run P w= .ok (.int kk k) w:=by
 have: ∀n,Instr.sameBits (n+1) (.int kk k) (.int kk k)=true:=fun n=>by simp [Instr.sameBits]
 unfold Instr.keyThatStays;rw [this 9999];simp
theorem run_lookupI(ht:P.underlying t=some (.map kt et))(hk:P.underlying kt=some (.int kk)){z:Value}(hz:(zeroValue et).run P w= .ok z w){r:Nat}{kv:KV}(h:MapO kk kv (w.heap[r]?)):
  (Instr.lookup t (.map (some r)) (.int kk k) false).run P w= .ok ((xT k kv).getD z) w:=by
 obtain⟨es,clock,hb,hkv⟩:=h;unfold Instr.lookup;simp only [Sem.run_bind,run_underlying ht,Result.andThen_ok,MapKept.run_getObj_map hb,Sem.run_pure,sD hk,tW hk hkv];rw [←find_get k kv 0]
 cases uR k kv 0 with
 | none=>simp [hz]
 | some p=>simp
theorem bHl(ht:P.underlying t=some (.map kt et))(hk:P.underlying kt=some (.int kk)){r:Nat}{kv:KV}(v:Value)(h:MapO kk kv (w.heap[r]?)):
  ∃o,(Instr.mapUpdate t (.map (some r)) (.int kk k) v).run P w= .ok () (setBlock w r o)∧MapO kk (xS k v kv) ((setBlock w r o).heap[r]?):=by
 obtain⟨es,clock,hb,hkv⟩:=h
 cases hf:uR k kv 0 with
 | none=>
  refine⟨.map (es.push ⟨.int kk k,v,clock⟩) (clock+1),?_,⟨_,_,ChangeMaps.heap_setBlock_same hb _,?_⟩⟩
  ·unfold Instr.mapUpdate;simp only [Sem.run_bind,run_underlying ht,Result.andThen_ok,MapKept.run_getObj_map hb,sD hk,tW hk hkv,hf];rw [MapKept.run_setObj_map _ hb];simp [setBlock]
  ·rw [bMt hf];simp [hkv,kvI,sT]
 | some p=>
  obtain⟨j,u⟩:=p;obtain⟨d,h1,q,h2,h3,h4⟩:=bKt (v:=v) hf;obtain rfl:j=d:=by omega
  have hlen:es.size=kv.length:=by
   have:=congrArg List.length hkv
   simpa [kvI] using this
  have hjl:j<es.size:=by rw [hlen];exact(List.getElem?_eq_some_iff.1 h2).1
  obtain⟨e,he⟩: ∃e,es[j]?=some e:=⟨es[j],Array.getElem?_eq_getElem hjl⟩
  have hek:e.key= .int kk k:=by
   have h1:(es.toList.map sT)[j]?=some (sT e):=by simp [he]
   rw [hkv,kvI,List.getElem?_map,h2] at h1;simp only [Option.map_some,Option.some.injEq,sT,Prod.mk.injEq] at h1;rw [←h1.1,h3]
  refine⟨.map (es.modify j fun e=>{e with key:= .int kk k,val:=v}) clock,?_,⟨_,_,ChangeMaps.heap_setBlock_same hb _,?_⟩⟩
  ·unfold Instr.mapUpdate;simp only [Sem.run_bind,run_underlying ht,Result.andThen_ok,MapKept.run_getObj_map hb,sD hk,tW hk hkv,hf,he,Option.map_some,Option.getD_some,hek,run_staysI];rw [MapKept.run_setObj_map _ hb];simp [setBlock]
  ·rw [h4];apply List.ext_getElem?;intro i;have hi:(es.toList.map sT)[i]?=(kvI kk kv)[i]?:=by rw [hkv]
   simp only [kvI,List.getElem?_map,Array.toList_modify,List.getElem?_modify,List.getElem?_set] at hi⊢
   by_cases e':j=i
   ·subst e';have:j<kv.length:=by omega
    have he':es.toList[j]?=some e:=by simpa using he
    simp [this,he',sT]
   ·simp only [e',if_false] at hi⊢
    simpa using hi
end
theorem pB{w:World}{r:Nat}{o:Obj}:mX (fun b=>b=r) w (setBlock w r o):=by
 refine⟨rfl,rfl,rfl,by simp [setBlock],fun b hb hne=>?_⟩;simp [setBlock,Ne.symm hne]
section
variable {P : Program} {β : fV} {n : Nat} {Γ : Env} {H : List cA} {F : List Fact} {Q : Exit → Act → World → Prop} {K : Act → World → Prop} {T : Tab} {ops : Array Oper} {rest : List Oper} {o : Oper}
theorem bJm{d:Nat}{t:TypeId}(kk:IntKind)(hw:want ops Γ o=some true)(ho:o.op= .makeMap t none)(hd:o.dst=some d)(hn:Nat.blt d n=true)(k: ∀b,At β n ((d,.map (some b))::Γ) (mapC b kk []::H) F (wpList P ops Q rest)):At β n Γ H F (wpList P ops Q (o::rest)):=
 jO hw fun a w S f s hk=>by
  have hr:(execOp a.eval o).run P w= .ok (.value (.map (some w.heap.size))) (w.alloc (.map #[] 0)):=by
   unfold execOp;simp only [ho,Instr.makeMap];rfl
  unfold Oper.wp;rw [hr,Oper.upon_value,hd];have s2:=s.alloc (.map #[] 0);refine k w.heap.size _ _ S (f.put (by simpa [Nat.blt_eq] using hn) _) ⟨s2.kept,fun c hc=>?_,fun c hc b hb=>?_,?_,s2.zone⟩ (All.alloc s hk _)
  ·rcases List.mem_cons.1 hc with rfl | hc
   ·exact⟨#[],0,heap_alloc_new _ _,rfl⟩
   ·exact s2.ok c (List.mem_cons_of_mem _ hc)
  ·rcases List.mem_cons.1 hc with rfl | hc
   ·exact s2.own (.obj w.heap.size (.map #[] 0)) (List.mem_cons_self ..) b hb
   ·exact s2.own c (List.mem_cons_of_mem _ hc) b hb
  ·have hp:=List.pairwise_cons.1 s2.sep;exact List.pairwise_cons.2 ⟨fun d hd b hb=>hp.1 d hd b hb,hp.2⟩
theorem qO{r:Nat}{kk:IntKind}{kv:KV}{H':List cA}(hH:dK H (mapC r kk kv) H'){t kt et:TypeId}{m x y:Operand}{k:Int}{v:Value}(hw:want ops Γ o=some true)(ho:o.op= .mapUpdate t m x y∨o.op= .insert t m x y)(hd:o.dst=none)(ht:P.underlying t=some (.map kt et))(hk:P.underlying kt=some (.int kk))
  (hm:Γ.ev m=some (.map (some r))) (hx:Γ.ev x=some (.int kk k)) (hy:Γ.ev y=some v) (K':At β n Γ (mapC r kk (xS k v kv)::H') F (wpList P ops Q rest)):At β n Γ H F (wpList P ops Q (o::rest)):=
 jO hw fun a w S f s hF=>by
  have hok:MapO kk kv (w.heap[r]?):=s.ok _ hH.mem;obtain⟨ob,hr0,hm0⟩:=bHl (k:=k) ht hk v hok
  have hr:(execOp a.eval o).run P w= .ok .skip (setBlock w r ob):=by
   unfold execOp
   rcases ho with ho | ho
   ·simp only [ho,f.ev hm,f.ev hx,f.ev hy,Sem.run_bind,hr0];rfl
   ·simp only [ho,f.ev hm,f.ev hx,f.ev hy,Sem.run_bind,hr0];rfl
  unfold Oper.wp;rw [hr,Oper.upon_skip,hd];have s2:=s.perm hH.perm;exact K' _ _ S (f.put_none _) (s2.swap pB rfl rfl hm0) (All.mono (fun _ h=>h) (s.agree pB (fun c hc e=>by subst e;exact(s2.own _ (List.mem_cons_self ..) _ rfl).2.2 hc)) hF)
def bJl (β:fV)(H:List cA)(F:List Fact)(r:Nat)(kk:IntKind)(kv:KV):Prop:= ∀w S,St β H S w→All F S w→MapO kk kv (w.heap[r]?)
theorem knows_mapC{r:Nat}{kk:IntKind}{kv:KV}{H':List cA}(hH:dK H (mapC r kk kv) H'):bJl β H F r kk kv:=fun _ _ s _=>s.ok _ hH.mem
theorem bGj{r:Nat}{kk:IntKind}{kv:KV}(h:Has F (mapF r kk kv)):bJl β H F r kk kv:=fun w S _ k=>(h S w k).2
theorem xX{r:Nat}{kk:IntKind}{kv:KV}{t kt et:TypeId}{m x:Operand}{k:Int}{z v:Value}(hkm:bJl β H F r kk kv)(ho:o.op= .lookup t m x false)(ht:P.underlying t=some (.map kt et))(hk:P.underlying kt=some (.int kk))(hz: ∀w,(zeroValue et).run P w= .ok z w)
  (hm:Γ.ev m=some (.map (some r))) (hx:Γ.ev x=some (.int kk k)) (hv:(xT k kv).getD z=v):Sti P β n Γ H F o v:=fun a w S f s hF=>by
 have:=run_lookupI (k:=k) ht hk (hz w) (hkm w S s hF);unfold execOp;simp only [ho,f.ev hm,f.ev hx];rw [Sem.run_bind,this,hv];rfl
theorem bKl{r:Nat}{kk:IntKind}{kv:KV}{H':List cA}(hH:dK H (mapC r kk kv) H')(h:At β n Γ H' (mapF r kk kv::F) K):At β n Γ H F K:=fun a w S f s k=>by
 have s2:=s.perm hH.perm;have hok:MapO kk kv (w.heap[r]?):=s2.ok _ (List.mem_cons_self ..);have hsep:=List.pairwise_cons.1 s2.sep;have hown:=s2.own _ (List.mem_cons_self ..);have hmono:All F (fun x=>S x∨x=r) w:=All.mono (fun _ h=> .inl h) (fun _ _=>rfl) k;refine h a w (fun x=>S x∨x=r) f ⟨s2.kept,fun c hc=>s2.ok c (List.mem_cons_of_mem _ hc),fun c hc x hx=>?_,hsep.2,fun x hx=>?_⟩ (All.cons ⟨.inr rfl,hok⟩ hmono)
 ·obtain⟨h1,h2,h3⟩:=s2.own c (List.mem_cons_of_mem _ hc) x hx;refine⟨h1,h2,fun h=>?_⟩
  rcases h with h | h
  ·exact h3 h
  ·subst h;exact hsep.1 c hc _ rfl hx
 ·rcases hx with hx | hx
  ·exact s2.zone x hx
  ·subst hx;obtain⟨h1,h2,_⟩:=hown _ rfl;exact⟨h1,.inr h2⟩
def nK:Flat UInt8 where
 size:=1
 cells:=fun b=>[.int .u8 b.toNat]
 len:=fun _=>rfl
 one:=fun x u hu=>by simp at hu;subst hu;rfl
 pos:=by decide
theorem bCt(l:Bs):nK.all l=Lib.byteCells l:=by
 unfold Flat.all Lib.byteCells
 induction l with
 | nil=>rfl
 | cons b r ih=>rw [List.flatMap_cons,ih];rfl
theorem St.swap_row'{v v':Value}{t:TypeId}{sz m m':Nat}{cs cs':List Value}{S:lJ}{w w':World}(s:St β (.row v t sz m cs::H) S w)(k:mX (fun b=>some b=v.ownBlock) w w')(hv: ∀b,v'.ownBlock=some b→some b=v.ownBlock∨w.heap.size≤b)(ok:w'.ownsRow 0 t sz v' m' cs'):
  St β (.row v' t sz m' cs'::H) S w':=by
 have hsep:=List.pairwise_cons.1 s.sep;have hown:=s.own _ (List.mem_cons_self ..);have s':St β H S w':=s.tail.grow k (fun b hb=>(hown b hb.symm).2.1) (fun d hd b hb e=>hsep.1 d hd b e.symm hb)
 have hnew: ∀b,v'.ownBlock=some b→b<w'.heap.size∧(β.M b∨β.w.heap.size≤b)∧ ¬S b:=fun b hb=>by
  refine⟨(World.ownsRow.lt ok b hb).2,?_⟩
  rcases hv b hb with h | h
  ·exact(hown b h.symm).2
  ·exact⟨.inr (Nat.le_trans s.kept.size h),fun hS=>absurd (s.zone _ hS).1 (by omega)⟩
 refine⟨s'.kept,fun d hd=>?_,fun d hd b hb=>?_,List.pairwise_cons.2 ⟨fun d hd b hb hdb=>?_,s'.sep⟩,s'.zone⟩
 ·rcases List.mem_cons.1 hd with rfl | hd
  ·exact ok
  ·exact s'.ok d hd
 ·rcases List.mem_cons.1 hd with rfl | hd
  ·exact hnew b hb
  ·exact s'.own d hd b hb
 ·rcases hv b hb with h | h
  ·exact hsep.1 d hd b h.symm hdb
  ·have:=(s.own d (List.mem_cons_of_mem _ hd) _ hdb).1;omega
theorem bEu{w:World}(t u ty e:TypeId)(i:TypeInfo)(ht:P.underlying t=some (.slice e))(hu:P.underlying u=some .string)(hi:P.info? e=some i)(hz:i.zero=some (.int .u8 0))(hsize:i.size=1)(hby:i.bytes=1)
  (v:Value) (m:Nat) (xs:List Value) (hown:w.ownsRow 0 e 1 v m xs) (s:ByteArray) (h63:m+s.size≤maxLen) (hbytes:m+s.size≤140737488355328):
  ∃v' w',(Builtin.append_ #[t,u] ty #[v,.string s]).run P w= .ok v' w'∧w'.ownsRow 0 e 1 v' (m+s.size) (xs++Lib.strCells s)∧w.grownBy w' v.ownBlock∧(∀b,v'.ownBlock=some b→some b=v.ownBlock∨w.heap.size≤b):=by
 obtain⟨v',w',hr,h2,h3,_⟩:=Lib.run_append_own_string (P:=P) w 0 t u ty e i ht hu hi hz hsize hby v m xs hown s h63 hbytes (Nat.zero_le _);refine⟨v',w',hr,h2,h3,fun b hb=>?_⟩
 rcases hown.2 with ⟨rfl,rfl⟩ | ⟨g,cap,cur,rfl,_,hg,hnc,hcm,hcs,_⟩
 ·obtain⟨v2,w2,hr2,h4,_,_⟩:=Lib.run_append_own_string (P:=P) w w.heap.size t u ty e i ht hu hi hz hsize hby (.slice none 0 0) 0 xs ⟨hown.1,.inl ⟨rfl,rfl⟩⟩ s h63 hbytes (Nat.le_refl _);rw [hr] at hr2;injection hr2 with e1 e2
  subst e1 e2;exact .inr (World.ownsRow.lt h4 b hb).1
 ·by_cases hroom:m+s.size≤cap
  ·have hcs':cur.size=cap:=by simpa using hcs
   have hr2:=Lib.run_append_room_string (P:=P) w t u ty e i ht hu hi hsize g m cap cur hg s hroom (by omega);rw [hr] at hr2;injection hr2 with e1 e2
   subst e1;exact .inl hb.symm
  ·have hxl:xs.length=m:=by simpa using hown.1
   have hsmall:m+s.size≤9223372036854775807:=by simp only [maxLen] at h63;omega
   have holds: ∀j u,xs[j]?=some u→w.cell? ((⟨g,0,none⟩:Addr).add j)=some u:=hown.cells (g:=g) rfl;have hr2:=Lib.run_append_grow_string (P:=P) w t u ty e i (.int .u8 0) ht hu hi hz ⟨g,0,none⟩ m cap xs (by rw [hsize];simpa using hxl) holds s (by omega) (by omega) (by rw [hby];exact growslice_fits (by omega) (by omega));rw [hr] at hr2;injection hr2 with e1 e2
   subst e1;injection hb with hb
   subst hb;exact .inr (Nat.le_refl _)
theorem bGs{d:Nat}{x y:Operand}{t u e:TypeId}{i:TypeInfo}{v:Value}{xs ys:Bs}{H':List cA}(hH:dK H (nK.row v e xs) H')(hw:want ops Γ o=some true)
  (ho:o.op= .call {callee:= .builtin .append,args:= #[x,y],argTypes:= #[t,u]}) (hd:o.dst=some d) (hn:Nat.blt d n=true) (ht:P.underlying t=some (.slice e)) (hu:P.underlying u=some .string) (hi:P.info? e=some i) (hz:i.zero=some (.int .u8 0)) (hsize:i.size=1) (hby:i.bytes=1)
  (hx:Γ.ev x=some v) (hy:Γ.ev y=some (.string (bs ys))) (hl:xs.length+ys.length≤140737488355328)
  (k: ∀A' cap',At β n ((d,.slice A' (xs++ys).length cap')::Γ) (nK.row (.slice A' (xs++ys).length cap') e (xs++ys)::H') F (wpList P ops Q rest)):At β n Γ H F (wpList P ops Q (o::rest)):=
 jO hw fun a w S f s hk=>by
  have hown:w.ownsRow 0 e 1 v xs.length (nK.all xs):=s.ok _ hH.mem;obtain⟨v',w',hr,h2,h3,h4⟩:=bEu (P:=P) t u o.type e i ht hu hi hz hsize hby v xs.length _ hown (bs ys) (by rw [kH];unfold maxLen;omega) (by rw [kH];exact hl)
  have hr':(execOp a.eval o).run P w= .ok (.value v') w':=by
   unfold execOp;simp only [ho,resolve,invoke,builtin,Sem.run_bind,Sem.run_pure,Result.andThen_ok,List.map_toArray,List.map_cons,List.map_nil,f.ev hx,f.ev hy,hr]
  unfold Oper.wp;rw [hr',Oper.upon_value,hd];have s2:=s.perm hH.perm;have hall:nK.all xs++Lib.strCells (bs ys)=nK.all (xs++ys):=by rw [bCt,bCt,Lib.strCells_eq,bs_data,Lib.byteCells_append]
  rw [hall,kH,←List.length_append] at h2
  obtain⟨A',cap',e',_⟩: ∃A cap,v'= .slice A (xs++ys).length cap∧True:=by
   rcases h2.2 with ⟨e',e0⟩ | ⟨g,cap,cur,e',_⟩
   ·exact⟨none,0,by rw [e',e0],trivial⟩
   ·exact⟨_,cap,e',trivial⟩
  subst e';exact k A' cap' _ _ S (f.put (by simpa [Nat.blt_eq] using hn) _) (s2.swap_row' (nB h3) h4 h2) (All.mono (fun _ h=>h) (s.agree (nB h3) (fun b hb e=>(s2.own _ (List.mem_cons_self ..) b e.symm).2.2 hb)) hk)
theorem xQ{x:Operand}{ts:Array TypeId}{A:Option Addr}{m c:Nat}(ho:o.op= .call {callee:= .builtin .unsafeSliceData,args:= #[x],argTypes:=ts})(hx:Γ.ev x=some (.slice A m c))(hc:A=none∨c≠0):Sti P β n Γ H F o (.pointer A):=fun a w S f s _=>by
 have hr:(Builtin.unsafeSliceData_ ts o.type #[.slice A m c]).run P w= .ok (.pointer A) w:=by
  cases A with
  | none=>exact Lib.run_unsafeSliceData_nil w ts o.type m c
  | some ad=>exact Lib.run_unsafeSliceData_row w ts o.type ad m c (hc.resolve_left (by simp))
 unfold execOp;simp only [ho,resolve,invoke,builtin,Sem.run_bind,Sem.run_pure,Result.andThen_ok,List.map_toArray,List.map_cons,List.map_nil,f.ev hx,hr]
theorem bEt{d g m cap:Nat}{x y:Operand}{pt it e:TypeId}{xs:Bs}{H':List cA}(hH:dK H (nK.row (.slice (some ⟨g,0,none⟩) m cap) e xs) H')(hw:want ops Γ o=some true)(ho:o.op= .call {callee:= .builtin .unsafeString,args:= #[x,y],argTypes:= #[pt,it]})(hd:o.dst=some d)(hn:Nat.blt d n=true)
  (hp:P.underlying pt=some (.pointer e)) (hc:P.cellsOf e=1) (hx:Γ.ev x=some (.pointer (some ⟨g,0,none⟩))) (hy:Γ.ev y=some (.int .i64 m)) (hm:m=xs.length) (h0:xs≠[])
  (k:At β n ((d,.string (bs xs))::Γ) H' F (wpList P ops Q rest)):At β n Γ H F (wpList P ops Q (o::rest)):=
 jO hw fun a w S f s hk=>by
  subst hm;have hown:w.ownsRow 0 e 1 (.slice (some ⟨g,0,none⟩) xs.length cap) xs.length (nK.all xs):=s.ok _ hH.mem
  obtain⟨cur,hg,hsz,hcap⟩: ∃cur,w.heap[g]?=some (.cells cur e (0,0))∧xs.length≤cur.size∧xs.length≤maxLen:=by
   rcases hown.2 with ⟨e1,_⟩ | ⟨g',cap',cur,e1,_,hg,h1,h2,h3,_⟩
   ·cases e1
   ·injection e1 with e1 e2 e3
    injection e1 with e1
    injection e1 with e1
    subst e1 e3;exact⟨cur,hg,by omega,by omega⟩
  have hsh:w.shape? g=some (e,cur.size):=by simp [World.shape?,hg]
  have hcell: ∀j u,xs[j]?=some u→w.cell? ((⟨g,0,none⟩:Addr).add j)=some (.int .u8 u.toNat):=fun j u hj=>by
   have h1:=hown.cells (g:=g) rfl j (.int .u8 u.toNat) (by rw [bCt];simp [Lib.byteCells,hj]);exact h1
  have hr:=Lib.run_unsafeString_row (P:=P) w pt it o.type e hp hc g cur.size hsh xs h0 hsz (by simp only [maxLen] at hcap;omega) hcell
  have hr':(execOp a.eval o).run P w= .ok (.value (.string (bs xs))) (w.freeze ⟨g,0,none⟩ xs.length):=by
   unfold execOp;simp only [ho,resolve,invoke,builtin,Sem.run_bind,Sem.run_pure,Result.andThen_ok,List.map_toArray,List.map_cons,List.map_nil,f.ev hx,f.ev hy,hr];rfl
  unfold Oper.wp;rw [hr',Oper.upon_value,hd];have s2:=s.perm hH.perm
  have hkept:mX (fun b=>b=g) w (w.freeze ⟨g,0,none⟩ xs.length):=by
   unfold World.freeze;split
   ·exact mX.refl _ _
   ·refine⟨rfl,rfl,rfl,by simp,fun b hb hne=>?_⟩;simp [Array.getElem?_modify,Ne.symm hne]
  have hown2:=s2.own _ (List.mem_cons_self ..) g rfl;have hsep:=List.pairwise_cons.1 s2.sep;exact k _ _ S (f.put (by simpa [Nat.blt_eq] using hn) _) (s2.tail.grow hkept (fun b hb=>by subst hb;exact hown2.2.1) (fun c hc b hb e=>by subst e;exact hsep.1 c hc _ rfl hb)) (All.mono (fun _ h=>h) (s.agree hkept (fun b hb e=>by subst e;exact hown2.2.2 hb)) hk)
theorem sti_noString{x y:Operand}{pt it:TypeId}(ho:o.op= .call {callee:= .builtin .unsafeString,args:= #[x,y],argTypes:= #[pt,it]}){p:Option Addr}(hx:Γ.ev x=some (.pointer p))(hy:Γ.ev y=some (.int .i64 0)):Sti P β n Γ H F o (.string (bs [])):=fun a w S f s _=>by
 have hr:=Lib.run_unsafeString_none (P:=P) w pt it o.type p;unfold execOp;simp only [ho,resolve,invoke,builtin,Sem.run_bind,Sem.run_pure,Result.andThen_ok,List.map_toArray,List.map_cons,List.map_nil,f.ev hx,f.ev hy,hr];rfl
theorem run_eqPtr{t e:TypeId}(ht:P.underlying t=some (.pointer e))(p:Option Addr)(w:World):(binOp .eql t (.pointer p) (.pointer none)).run P w= .ok (.bool p.isNone) w:=by
 have h: ∀k,(Op.equalIn (k+1) t (.pointer p) (.pointer none)).run P w= .ok p.isNone w:=fun k=>by cases p<;>simp [Op.equalIn,run_underlying ht]
 simp only [binOp];rw [Sem.run_bind,show Op.equal t (.pointer p) (.pointer none)=Op.equalIn 10000 t (.pointer p) (.pointer none) from rfl,h 9999];rfl
theorem bEg{t e tt:TypeId}{x:Operand}{p:Option Addr}(ht:P.underlying t=some (.pointer e))(ho:o.op= .binOp .eql t x (.const (.pointer none)) tt)(hx:Γ.ev x=some (.pointer p)):Sti P β n Γ H F o (.bool p.isNone):=fun a w S f s _=>by
 have e1:a.eval (.const (.pointer none))= .pointer none:=rfl;have hg:(eqGuard .eql t x (.const (.pointer none)) (.pointer p) (.pointer none)).run P w= .ok () w:=rfl;unfold execOp;simp only [ho,f.ev hx,e1];rw [Sem.run_bind,Sem.run_bind,hg,Result.andThen_ok,run_eqPtr ht];rfl
theorem sti_ptr_same{t e tt:TypeId}{j:TypeInfo}{x y:Operand}{p:Addr}(ht:P.underlying t=some (.pointer e))(hj:P.info? e=some j)(ho:o.op= .binOp .neq t x y tt)(hx:Γ.ev x=some (.pointer (some p)))(hy:Γ.ev y=some (.pointer (some p))):Sti P β n Γ H F o (.bool false):=fun a w S f s _=>by
 have hg:(eqGuard .neq t x y (.pointer (some p)) (.pointer (some p))).run P w= .ok () w:=rfl;unfold execOp;simp only [ho,f.ev hx,f.ev hy];rw [Sem.run_bind,Sem.run_bind,hg,Result.andThen_ok,Lib.run_neq_ptr_same w p ht hj];rfl
theorem shape_of{b:Nat}{cs:List Value}{t:TypeId}{fz:Nat×Nat}{H':List cA}(hH:dK H (.obj b (.cells cs.toArray t fz)) H'){S:lJ}{w:World}(s:St β H S w):w.shape? b=some (t,cs.length):=by
 have h:w.heap[b]?=some (.cells cs.toArray t fz):=s.ok _ hH.mem;simp [World.shape?,h]
theorem sti_toUnsafe{src dst t e:TypeId}{j:TypeInfo}{x:Operand}{b off:Nat}{cs:List Value}{fz:Nat×Nat}{H':List cA}(hH:dK H (.obj b (.cells cs.toArray e fz)) H')(hs:P.underlying src=some (.pointer t))(hd:P.underlying dst=some .unsafePointer)(ht:P.info? t=some j)(hj:j.size≠0)
  (ho:o.op= .convert src dst x) (hx:Γ.ev x=some (.pointer (some ⟨b,off,none⟩))) (hoff:off<cs.length):Sti P β n Γ H F o (.pointer (some ⟨b,off,none⟩)):=fun a w S f s _=>by
 have:=Lib.run_to_unsafe (P:=P) w ⟨b,off,none⟩ hs hd ht hj (shape_of hH s) hoff;unfold execOp;simp only [ho,f.ev hx];rw [Sem.run_bind,this];rfl
theorem bJg{src dst u e:TypeId}{j:TypeInfo}{x:Operand}{b off:Nat}{cs:List Value}{fz:Nat×Nat}{H':List cA}(hH:dK H (.obj b (.cells cs.toArray e fz)) H')(hs:P.underlying src=some .unsafePointer)(hd:P.underlying dst=some (.pointer u))(hu:P.info? u=some j)
  (ho:o.op= .convert src dst x) (hx:Γ.ev x=some (.pointer (some ⟨b,off,none⟩))) (hl:liesAt P P.depth e (cs.length/P.cellsOf e) off u 1=true):Sti P β n Γ H F o (.pointer (some ⟨b,off,none⟩)):=fun a w S f s _=>by
 have:=Lib.run_from_unsafe (P:=P) w ⟨b,off,none⟩ hs hd hu (shape_of hH s) hl;unfold execOp;simp only [ho,f.ev hx];rw [Sem.run_bind,this];rfl
end
end Go.Proofs.YtbgdphbebhjpiaaGreatDoor
namespace Go.Proofs.YtbgdphbebhjpiaaGreatDoor
open Go.RowKit
open Go.ChangeMaps (setBlock)
theorem bs_beq(a b:Bs):(bs a==bs b)=(a==b):=by
 have h:(bs a==bs b)=(a.toArray==b.toArray):=rfl;rw [h];simp
abbrev KVS:=List (Bs×Value)
def bIx (kv:KVS):List (Value×Value):=kv.map fun p=>(Value.string (bs p.1),p.2)
def bFz (kv:KVS)(o:Option Obj):Prop:= ∃es clock,o=some (.map es clock)∧es.toList.map sT=bIx kv
def sB (r:Nat)(kv:KVS):cA:= .gen (some r) (bFz kv)
def oJ (k:Bs):KVS→Nat→Option (Nat×Value)
 | [],_=>none
 | p::r,i=>if k==p.1 then some (i,p.2) else oJ k r (i+1)
def mU (k:Bs):KVS→Option Value
 | []=>none
 | p::r=>if k==p.1 then some p.2 else mU k r
def mP (k:Bs)(v:Value):KVS→KVS
 | []=>[(k,v)]
 | p::r=>if k==p.1 then (k,v)::r else p::mP k v r
theorem bCl(k:Bs): ∀(kv:KVS) (i:Nat),(oJ k kv i).map (·.2)=mU k kv
 | [],_=>rfl
 | p::r,i=>by
  unfold oJ mU;split
  ·rfl
  ·exact bCl k r (i+1)
theorem bIr{k:Bs}{v:Value}: ∀{kv:KVS} {i:Nat},oJ k kv i=none→mP k v kv=kv++[(k,v)]
 | [],_,_=>rfl
 | p::r,i,h=>by
  unfold oJ at h;unfold mP;split at h
  ·cases h
  ·rename_i hk;rw [if_neg hk,bIr h];rfl
theorem bJn{k:Bs}{v:Value}{j:Nat}{u:Value}: ∀{kv:KVS} {i:Nat},oJ k kv i=some (j,u)→ ∃d,j=i+d∧ ∃p,kv[d]?=some p∧k=p.1∧mP k v kv=kv.set d (k,v)
 | [],_,h=>by cases h
 | p::r,i,h=>by
  unfold oJ at h;split at h
  ·rename_i hk;simp only [Option.some.injEq,Prod.mk.injEq] at h;exact⟨0,by omega,p,rfl,by simpa using hk,by simp [mP,hk]⟩
  ·rename_i hk;obtain⟨d,h1,q,h2,h3,h4⟩:=bJn (v:=v) h;exact⟨d+1,by omega,q,h2,h3,by rw [mP,if_neg hk,h4];rfl⟩
section
variable {P : Program} {k : Bs} {w : World} {t kt et : TypeId}
theorem zQ(k:Bs): ∀(es:List MapEntry) (kv:KVS) (i:Nat),es.map sT=bIx kv→Instr.findNow (.string) (.string (bs k)) es i=some (oJ k kv i)
 | [],[],_,_=>rfl
 | [],_::_,_,h=>by simp [bIx] at h
 | _::_,[],_,h=>by simp [bIx] at h
 | e::es,p::kv,i,h=>by
  simp only [List.map_cons,List.cons.injEq,bIx,sT,Prod.mk.injEq] at h;obtain⟨⟨h1,h2⟩,h3⟩:=h;have ih:=zQ k es kv (i+1) h3;unfold Instr.findNow;rw [h1];simp only [Instr.sameNow,oJ,bs_beq];cases hk:k==p.1
  ·simpa using ih
  ·simp [h2]
theorem pC(hk:P.underlying kt=some (.string)){es:List MapEntry}{kv:KVS}(h:es.map sT=bIx kv):(Instr.findKey kt (.string (bs k)) es).run P w= .ok (oJ k kv 0) w:=by
 unfold Instr.findKey;simp only [Sem.run_bind,run_underlying hk,Result.andThen_ok,zQ k es kv 0 h,Sem.run_pure]
theorem oF(hk:P.underlying kt=some (.string))(b:Bool):(Instr.checkKey b 10000 kt (.string (bs k))).run P w= .ok () w:=by
 have: ∀n,(Instr.checkKey b (n+1) kt (.string (bs k))).run P w= .ok () w:=fun n=>by simp [Instr.checkKey,run_underlying hk]
 exact this 9999
theorem run_staysIS:(Instr.keyThatStays (.string (bs k)) (.string (bs k))).run P w= .ok (.string (bs k)) w:=by
 have: ∀n,Instr.sameBits (n+1) (.string (bs k)) (.string (bs k))=true:=fun n=>by simp [Instr.sameBits,bs_beq]
 unfold Instr.keyThatStays;rw [this 9999];simp
theorem run_lookupIS(ht:P.underlying t=some (.map kt et))(hk:P.underlying kt=some (.string)){z:Value}(hz:(zeroValue et).run P w= .ok z w){r:Nat}{kv:KVS}(h:bFz kv (w.heap[r]?)):
  (Instr.lookup t (.map (some r)) (.string (bs k)) false).run P w= .ok ((mU k kv).getD z) w:=by
 obtain⟨es,clock,hb,hkv⟩:=h;unfold Instr.lookup;simp only [Sem.run_bind,run_underlying ht,Result.andThen_ok,MapKept.run_getObj_map hb,Sem.run_pure,oF hk,pC hk hkv];rw [←bCl k kv 0]
 cases oJ k kv 0 with
 | none=>simp [hz]
 | some p=>simp
theorem bEx(ht:P.underlying t=some (.map kt et))(hk:P.underlying kt=some (.string)){r:Nat}{kv:KVS}(v:Value)(h:bFz kv (w.heap[r]?)):
  ∃o,(Instr.mapUpdate t (.map (some r)) (.string (bs k)) v).run P w= .ok () (setBlock w r o)∧bFz (mP k v kv) ((setBlock w r o).heap[r]?):=by
 obtain⟨es,clock,hb,hkv⟩:=h
 cases hf:oJ k kv 0 with
 | none=>
  refine⟨.map (es.push ⟨.string (bs k),v,clock⟩) (clock+1),?_,⟨_,_,ChangeMaps.heap_setBlock_same hb _,?_⟩⟩
  ·unfold Instr.mapUpdate;simp only [Sem.run_bind,run_underlying ht,Result.andThen_ok,MapKept.run_getObj_map hb,oF hk,pC hk hkv,hf];rw [MapKept.run_setObj_map _ hb];simp [setBlock]
  ·rw [bIr hf];simp [hkv,bIx,sT]
 | some p=>
  obtain⟨j,u⟩:=p;obtain⟨d,h1,q,h2,h3,h4⟩:=bJn (v:=v) hf;obtain rfl:j=d:=by omega
  have hlen:es.size=kv.length:=by
   have:=congrArg List.length hkv
   simpa [bIx] using this
  have hjl:j<es.size:=by rw [hlen];exact(List.getElem?_eq_some_iff.1 h2).1
  obtain⟨e,he⟩: ∃e,es[j]?=some e:=⟨es[j],Array.getElem?_eq_getElem hjl⟩
  have hek:e.key= .string (bs k):=by
   have h1:(es.toList.map sT)[j]?=some (sT e):=by simp [he]
   rw [hkv,bIx,List.getElem?_map,h2] at h1;simp only [Option.map_some,Option.some.injEq,sT,Prod.mk.injEq] at h1;rw [←h1.1,h3]
  refine⟨.map (es.modify j fun e=>{e with key:= .string (bs k),val:=v}) clock,?_,⟨_,_,ChangeMaps.heap_setBlock_same hb _,?_⟩⟩
  ·unfold Instr.mapUpdate;simp only [Sem.run_bind,run_underlying ht,Result.andThen_ok,MapKept.run_getObj_map hb,oF hk,pC hk hkv,hf,he,Option.map_some,Option.getD_some,hek,run_staysIS];rw [MapKept.run_setObj_map _ hb];simp [setBlock]
  ·rw [h4];apply List.ext_getElem?;intro i;have hi:(es.toList.map sT)[i]?=(bIx kv)[i]?:=by rw [hkv]
   simp only [bIx,List.getElem?_map,Array.toList_modify,List.getElem?_modify,List.getElem?_set] at hi⊢
   by_cases e':j=i
   ·subst e';have:j<kv.length:=by omega
    have he':es.toList[j]?=some e:=by simpa using he
    simp [this,he',sT]
   ·simp only [e',if_false] at hi⊢
    simpa using hi
end
section
variable {P : Program} {β : fV} {n : Nat} {Γ : Env} {H : List cA} {F : List Fact} {Q : Exit → Act → World → Prop} {K : Act → World → Prop} {T : Tab} {ops : Array Oper} {rest : List Oper} {o : Oper}
theorem bDj{d:Nat}{t:TypeId}(hw:want ops Γ o=some true)(ho:o.op= .makeMap t none)(hd:o.dst=some d)(hn:Nat.blt d n=true)(k: ∀b,At β n ((d,.map (some b))::Γ) (sB b []::H) F (wpList P ops Q rest)):At β n Γ H F (wpList P ops Q (o::rest)):=
 jO hw fun a w S f s hk=>by
  have hr:(execOp a.eval o).run P w= .ok (.value (.map (some w.heap.size))) (w.alloc (.map #[] 0)):=by
   unfold execOp;simp only [ho,Instr.makeMap];rfl
  unfold Oper.wp;rw [hr,Oper.upon_value,hd];have s2:=s.alloc (.map #[] 0);refine k w.heap.size _ _ S (f.put (by simpa [Nat.blt_eq] using hn) _) ⟨s2.kept,fun c hc=>?_,fun c hc b hb=>?_,?_,s2.zone⟩ (All.alloc s hk _)
  ·rcases List.mem_cons.1 hc with rfl | hc
   ·exact⟨#[],0,heap_alloc_new _ _,rfl⟩
   ·exact s2.ok c (List.mem_cons_of_mem _ hc)
  ·rcases List.mem_cons.1 hc with rfl | hc
   ·exact s2.own (.obj w.heap.size (.map #[] 0)) (List.mem_cons_self ..) b hb
   ·exact s2.own c (List.mem_cons_of_mem _ hc) b hb
  ·have hp:=List.pairwise_cons.1 s2.sep;exact List.pairwise_cons.2 ⟨fun d hd b hb=>hp.1 d hd b hb,hp.2⟩
theorem mO{r:Nat}{kv:KVS}{H':List cA}(hH:dK H (sB r kv) H'){t kt et:TypeId}{m x y:Operand}{k:Bs}{v:Value}(hw:want ops Γ o=some true)(ho:o.op= .mapUpdate t m x y∨o.op= .insert t m x y)(hd:o.dst=none)(ht:P.underlying t=some (.map kt et))(hk:P.underlying kt=some (.string))
  (hm:Γ.ev m=some (.map (some r))) (hx:Γ.ev x=some (.string (bs k))) (hy:Γ.ev y=some v) (K':At β n Γ (sB r (mP k v kv)::H') F (wpList P ops Q rest)):At β n Γ H F (wpList P ops Q (o::rest)):=
 jO hw fun a w S f s hF=>by
  have hok:bFz kv (w.heap[r]?):=s.ok _ hH.mem;obtain⟨ob,hr0,hm0⟩:=bEx (k:=k) ht hk v hok
  have hr:(execOp a.eval o).run P w= .ok .skip (setBlock w r ob):=by
   unfold execOp
   rcases ho with ho | ho
   ·simp only [ho,f.ev hm,f.ev hx,f.ev hy,Sem.run_bind,hr0];rfl
   ·simp only [ho,f.ev hm,f.ev hx,f.ev hy,Sem.run_bind,hr0];rfl
  unfold Oper.wp;rw [hr,Oper.upon_skip,hd];have s2:=s.perm hH.perm;exact K' _ _ S (f.put_none _) (s2.swap pB rfl rfl hm0) (All.mono (fun _ h=>h) (s.agree pB (fun c hc e=>by subst e;exact(s2.own _ (List.mem_cons_self ..) _ rfl).2.2 hc)) hF)
def bBu (β:fV)(H:List cA)(F:List Fact)(r:Nat)(kv:KVS):Prop:= ∀w S,St β H S w→All F S w→bFz kv (w.heap[r]?)
theorem lQ{r:Nat}{kv:KVS}{H':List cA}(hH:dK H (sB r kv) H'):bBu β H F r kv:=fun _ _ s _=>s.ok _ hH.mem
theorem sti_lookupS{r:Nat}{kv:KVS}{t kt et:TypeId}{m x:Operand}{k:Bs}{z v:Value}(hkm:bBu β H F r kv)(ho:o.op= .lookup t m x false)(ht:P.underlying t=some (.map kt et))(hk:P.underlying kt=some (.string))(hz: ∀w,(zeroValue et).run P w= .ok z w)
  (hm:Γ.ev m=some (.map (some r))) (hx:Γ.ev x=some (.string (bs k))) (hv:(mU k kv).getD z=v):Sti P β n Γ H F o v:=fun a w S f s hF=>by
 have:=run_lookupIS (k:=k) ht hk (hz w) (hkm w S s hF);unfold execOp;simp only [ho,f.ev hm,f.ev hx];rw [Sem.run_bind,this,hv];rfl
end
section
variable {P : Program} {β : fV} {n : Nat} {Γ : Env} {H : List cA} {F : List Fact} {o : Oper}
theorem run_lookupOk{w:World}{t kt et:TypeId}{k:Bs}(ht:P.underlying t=some (.map kt et))(hk:P.underlying kt=some .string){z:Value}(hz:(zeroValue et).run P w= .ok z w){r:Nat}{kv:KVS}(h:bFz kv (w.heap[r]?)):
  (Instr.lookup t (.map (some r)) (.string (bs k)) true).run P w= .ok (.tuple #[(mU k kv).getD z,.bool (mU k kv).isSome]) w:=by
 obtain⟨es,clock,hb,hkv⟩:=h;unfold Instr.lookup;simp only [Sem.run_bind,run_underlying ht,Result.andThen_ok,MapKept.run_getObj_map hb,Sem.run_pure,oF hk,pC hk hkv];rw [←bCl k kv 0]
 cases oJ k kv 0 with
 | none=>simp [hz]
 | some p=>simp
theorem mF{r:Nat}{kv:KVS}{t kt et:TypeId}{m x:Operand}{k:Bs}{z v:Value}(hkm:bBu β H F r kv)(ho:o.op= .lookup t m x true)(ht:P.underlying t=some (.map kt et))(hk:P.underlying kt=some .string)(hz: ∀w,(zeroValue et).run P w= .ok z w)
  (hm:Γ.ev m=some (.map (some r))) (hx:Γ.ev x=some (.string (bs k))) (hv:(.tuple #[(mU k kv).getD z,.bool (mU k kv).isSome]:Value)=v):Sti P β n Γ H F o v:=fun a w S f s hF=>by
 have:=run_lookupOk (k:=k) ht hk (hz w) (hkm w S s hF);unfold execOp;simp only [ho,f.ev hm,f.ev hx];rw [Sem.run_bind,this,hv];rfl
end
end Go.Proofs.YtbgdphbebhjpiaaGreatDoor
namespace Go.Proofs.YtbgdphbebhjpiaaGreatDoor
open Go.RowKit
end Go.Proofs.YtbgdphbebhjpiaaGreatDoor
namespace Go.Proofs.YtbgdphbebhjpiaaGreatDoor
open Go.RowKit
section
variable {P : Program} {β : fV} {n : Nat} {Γ : Env} {H : List cA} {F : List Fact} {Q : Exit → Act → World → Prop} {K : Act → World → Prop} {T : Tab} {α : Type} {E : Flat α}
theorem cN.cells{A:Option Addr}{xs:List α}{w:World}{S:lJ}(hr:cN β H F E A xs)(s:St β H S w)(hF:All F S w)(h0:0<xs.length):
  ∃b off,A=some ⟨b,off,none⟩∧ ∀j u,(E.all xs)[j]?=some u→w.cell? ((⟨b,off,none⟩:Addr).add j)=some u:=by
 obtain⟨⟨b,off,rfl⟩,_⟩:=hr w S s hF 0 _ (List.getElem?_eq_getElem h0);refine⟨b,off,rfl,fun j u hj=>?_⟩;have hlt:=(List.getElem?_eq_some_iff.1 hj).1;rw [E.all_length] at hlt;have hk:j/E.size<xs.length:=Nat.div_lt_of_lt_mul (by rwa [Nat.mul_comm] at hlt);have hm:j%E.size<E.size:=Nat.mod_lt _ E.pos;have hx':=List.getElem?_eq_getElem hk;have hu':=List.getElem?_eq_getElem (l:=E.cells xs[j/E.size]) (i:=j%E.size) (by rw [E.len];exact hm);have e:j/E.size*E.size+j%E.size=j:=by rw [Nat.mul_comm];exact Nat.div_add_mod j E.size
 have h1:=(hr w S s hF _ _ hx').2 _ _ hu';have h2:=E.all_get hx' hu';rw [e,hj] at h2;injection h2 with h2
 have h3:=h1.trans (congrArg some h2.symm);rw [Nat.add_assoc,e] at h3;rw [Addr.add_mid];exact h3
theorem cN.tail{A:Option Addr}{xs:List α}{c:cA}(hr:cN β H F E A xs):cN β (c::H) F E A xs:=fun w S s hF=>hr w S s.tail hF
end
end Go.Proofs.YtbgdphbebhjpiaaGreatDoor
