/- Texts of one proof, one behind the other: Cut, MapI, MapS, Ints, Full. -/
import Derived.Test.YtakphiannlpnfaaGreatDoorM2
import Derived.Laws.Slices
import Derived.MapKept
import Derived.ChangeMaps5
import Derived.WideKeyEntry
import Derived.Lib.AppendStr
import Derived.Lib.UnsafeStr
import Derived.Lib.Builder
import Derived.Deep.AppendSrc
import Derived.Deep.Upon
namespace Go.Proofs.YtakphiannlpnfaaGreatDoor
section
open Go.RowKit
section
variable {P : Program} {β : dF} {n : Nat} {Γ : Env} {H : List bH} {F : List Fact} {Q : Exit → Act → World → Prop} {K : Act → World → Prop} {T : Tab} {α : Type} {E : Flat α}
theorem elem_of{t e:Nat}(hu:P.underlying t=some (.slice e)):P.elem t=e:=by simp [Program.elem,hu]
theorem bYb(hT:fD P T){t e sz:Nat}{ei:TI}(ht:T.get t=some ⟨.slice e,sz⟩)(he:T.get e=some ei){A:Option Addr}{l c k:Nat}(hk:k≤c)(kk:IntKind)(w:World):(Instr.sliceAt t (.slice A l c) none (some (.int kk (k:Nat))) none).run P w= .ok (.slice A k c) w:=by
 obtain⟨d,hu,hd⟩:=hT.any ht;cases d<;>simp [TD.of] at hd
 subst hd;have hel:=elem_of hu;rw [run_sliceAt_slice w t _ _ _ _ ai4,run_slice_h w t A l c ai4 kk (k:Int) n7 n7,hel,hT.size he];simp only [Result.andThen_ok,sliced,Int.toNat_natCast,Nat.zero_mul,Nat.sub_zero]
 congr 2
 split
 ·rfl
 ·cases A<;>simp [Addr.add]
theorem run_cutFrom(hT:fD P T){t e sz:Nat}{ei:TI}(ht:T.get t=some ⟨.slice e,sz⟩)(he:T.get e=some ei){A:Option Addr}{l c k:Nat}(hk:k≤l)(kk:IntKind)(w:World):(Instr.sliceAt t (.slice A l c) (some (.int kk (k:Nat))) none none).run P w= .ok (.slice (iE A k ei.size c) (l-k) (c-k)) w:=by
 obtain⟨d,hu,hd⟩:=hT.any ht;cases d<;>simp [TD.of] at hd
 subst hd;have hel:=elem_of hu;rw [run_sliceAt_slice w t _ _ _ _ ai4,run_slice_l w t A l c ai4 kk (k:Int) n7 n7,hel,hT.size he];simp only [Result.andThen_ok,sliced,Int.toNat_natCast,iE]
theorem iK{ops:Array Oper}{rest:List Oper}{o:Oper}(hT:fD P T){d t e sz k m cap:Nat}{ei:TI}{x i:Operand}{kk:IntKind}{z:Int}{A:Option Addr}{xs:List α}{H':List bH}(hH:cD H (E.row (.slice A m cap) e xs) H')(hw:want ops Γ o=some true)(ho:o.op= .slice t x none (some i) none)(hd:o.dst=some d)(hn:Nat.blt d n=true)
  (hx:Γ.ev x=some (.slice A m cap)) (hi:Γ.ev i=some (.int kk z)) (ht:T.get t=some ⟨.slice e,sz⟩) (he:T.get e=some ei) (hz:z=(k:Nat)) (hk:k≤xs.length)
  (K:At β n ((d,.slice A (xs.take k).length cap)::Γ) (E.row (.slice A (xs.take k).length cap) e (xs.take k)::H') F (wpList P ops Q rest)):At β n Γ H F (wpList P ops Q (o::rest)):=
 iY hw fun a w S f s hF=>by
  subst hz;have hown:w.ownsRow 0 e E.size (.slice A m cap) xs.length (E.all xs):=s.ok _ hH.mem
  have hkc:k≤cap∧(xs.take k).length=k∧w.ownsRow 0 e E.size (.slice A (xs.take k).length cap) (xs.take k).length (E.all (xs.take k)):=by
   have hl:(xs.take k).length=k:=by simp;omega
   have hall:E.all (xs.take k)=(E.all xs).take (k*E.size):=by
    have:=E.all_append (xs.take k) (xs.drop k);rw [List.take_append_drop] at this;rw [this,List.take_left' (by rw [E.all_length,hl])]
   rcases hown.2 with ⟨e1,e0⟩ | ⟨g,cap',cur,e1,h1,h2,h3,h4,h5,h6⟩
   ·injection e1 with e1 e2 e3
    subst e1 e3;have:xs=[]:=List.eq_nil_of_length_eq_zero e0;subst this;have hk0:k=0:=by simpa using hk
    subst hk0;exact⟨Nat.le_refl _,hl,⟨by simp [Flat.all],.inl ⟨rfl,rfl⟩⟩⟩
   ·injection e1 with e1 e2 e3
    subst e1 e3;refine⟨n7,hl,⟨by rw [E.all_length],.inr ⟨g,cap,cur,rfl,h1,h2,n7,h4,h5,?_⟩⟩⟩;rw [hall,hl,←h6,List.take_take]
    congr 1
    exact(Nat.min_eq_left (Nat.mul_le_mul_right _ hk)).symm
  have hr:(execOp a.eval o).run P w= .ok (.value (.slice A (xs.take k).length cap)) w:=by
   unfold execOp;simp only [ho,f.ev hx,Option.map_some,Option.map_none,f.ev hi];rw [Sem.run_bind,bYb hT ht he hkc.1,hkc.2.1];rfl
  unfold Oper.wp;rw [hr,Oper.upon_value,hd];have s2:=s.perm hH.perm;have s3:=s2.swap_row (v':= .slice A (xs.take k).length cap) (w':=w) (oW.refl _ _) (.inl (by cases A<;>rfl)) hkc.2.2;exact K _ _ S (f.put t6 _) s3 hF
theorem fR{b:Nat}{cs:List Value}{t:TypeId}{H':List bH}(hH:cD H (.obj b (.cells cs.toArray t)) H')(h:At β n Γ H' (Fact.cells b 0 cs::F) K):At β n Γ H F K:=fun a w S f s k=>by
 have s2:=s.perm hH.perm;have hok:w.heap[b]?=some (.cells cs.toArray t):=s2.ok _ (List.mem_cons_self ..);have hsep:=List.pairwise_cons.1 s2.sep;have hown:=s2.own _ (List.mem_cons_self ..);have hmono:All F (fun x=>S x∨x=b) w:=All.mono (fun _ h=> .inl h) (fun _ _=>rfl) k;refine h a w (fun x=>S x∨x=b) f ⟨s2.kept,fun c hc=>s2.ok c (List.mem_cons_of_mem _ hc),fun c hc x hx=>?_,hsep.2,fun x hx=>?_⟩ (All.cons ?_ hmono)
 ·obtain⟨h1,h2,h3⟩:=s2.own c (List.mem_cons_of_mem _ hc) x hx;refine⟨h1,h2,fun h=>?_⟩
  rcases h with h | h
  ·exact h3 h
  ·subst h;exact hsep.1 c hc _ rfl hx
 ·rcases hx with hx | hx
  ·exact s2.zone x hx
  ·subst hx;obtain⟨h1,h2,_⟩:=hown _ rfl;exact⟨h1,.inr h2⟩
 ·refine⟨.inr rfl,fun j u hj=>?_⟩;unfold World.cell?;rw [hok]
  simpa using hj
theorem sti_fn{o:Oper}{x:Operand}{t tt:TypeId}{ps rs:Array TypeId}{vr:Bool}(hu:P.underlying t=some (.func ps rs vr)){fn:Fn}{a b:Array Value}(ho:o.op= .binOp .neq t x (.const .nilFunc) tt)(hx:Γ.ev x=some (.func fn a b)):Sti P β n Γ H F o (.bool true):=fun c w S f s k=>by
 unfold execOp;have e:c.eval (.const .nilFunc)= .nilFunc:=rfl;have he: ∀d,(Op.equalIn (d+1) t (.func fn a b) .nilFunc).run P w= .ok false w:=fun d=>by simp [Op.equalIn,run_underlying hu]
 have hb:(binOp .neq t (.func fn a b) .nilFunc).run P w= .ok (.bool true) w:=by
  simp only [binOp];rw [Sem.run_bind,show Op.equal t (.func fn a b) .nilFunc=Op.equalIn 10000 t (.func fn a b) .nilFunc from rfl,he 9999];rfl
 have hg:(eqGuard .neq t x (.const .nilFunc) (.func fn a b) .nilFunc).run P w= .ok () w:=rfl;simp only [ho,f.ev hx,e];rw [Sem.run_bind,Sem.run_bind,hg,Result.andThen_ok,hb];rfl
theorem sti_nofn{o:Oper}{x:Operand}{t tt:TypeId}{ps rs:Array TypeId}{vr:Bool}(hu:P.underlying t=some (.func ps rs vr))(ho:o.op= .binOp .neq t x (.const .nilFunc) tt)(hx:Γ.ev x=some .nilFunc):Sti P β n Γ H F o (.bool false):=fun c w S f s k=>by
 unfold execOp;have e:c.eval (.const .nilFunc)= .nilFunc:=rfl;have he: ∀d,(Op.equalIn (d+1) t .nilFunc .nilFunc).run P w= .ok true w:=fun d=>by simp [Op.equalIn,run_underlying hu]
 have hb:(binOp .neq t .nilFunc .nilFunc).run P w= .ok (.bool false) w:=by
  simp only [binOp];rw [Sem.run_bind,show Op.equal t .nilFunc .nilFunc=Op.equalIn 10000 t .nilFunc .nilFunc from rfl,he 9999];rfl
 have hg:(eqGuard .neq t x (.const .nilFunc) .nilFunc .nilFunc).run P w= .ok () w:=rfl;simp only [ho,f.ev hx,e];rw [Sem.run_bind,Sem.run_bind,hg,Result.andThen_ok,hb];rfl
theorem Has.cons{f g:Fact}{F:List Fact}(h:Has F g):Has (f::F) g:=fun S w k=>h S w fun x hx=>k x (List.mem_cons_of_mem _ hx)
theorem Has.each_nil{α:Type}{g:α→Fact}{F:List Fact}:Has F (Fact.each [] g):=fun _ _ _ x hx=>by simp at hx
theorem Has.each_cons{α:Type}{g:α→Fact}{F:List Fact}{x:α}{l:List α}(hx:Has F (g x))(hl:Has F (Fact.each l g)):Has F (Fact.each (x::l) g):=fun S w k y hy=>by
 rcases List.mem_cons.1 hy with rfl | hy
 ·exact hx S w k
 ·exact hl S w k y hy
theorem Has.each_tail{α:Type}{g:α→Fact}{F:List Fact}{x:α}{l:List α}(h:Has F (Fact.each (x::l) g)):Has F (Fact.each l g):=fun S w k y hy=>h S w k y (List.mem_cons_of_mem _ hy)
theorem Has.each_snoc{α:Type}{g:α→Fact}{F:List Fact}{x:α}{l:List α}(hl:Has F (Fact.each l g))(hx:Has F (g x)):Has F (Fact.each (l++[x]) g):=fun S w k y hy=>by
 rcases List.mem_append.1 hy with hy | hy
 ·exact hl S w k y hy
 ·rw [List.mem_singleton.1 hy];exact hx S w k
theorem mC(hT:fD P T){o:Oper}{t e sz k l cap:Nat}{ei:TI}{x i:Operand}{kk:IntKind}{z:Int}{A:Option Addr}(ho:o.op= .slice t x none (some i) none)(hx:Γ.ev x=some (.slice A l cap))(hi:Γ.ev i=some (.int kk z))
  (ht:T.get t=some ⟨.slice e,sz⟩) (he:T.get e=some ei) (hz:z=(k:Nat)) (hk:k≤cap):Sti P β n Γ H F o (.slice A k cap):=fun a w S f s hF=>by
 subst hz;unfold execOp;simp only [ho,f.ev hx,Option.map_some,Option.map_none,f.ev hi];rw [Sem.run_bind,bYb hT ht he hk];rfl
theorem dO(hT:fD P T){o:Oper}{t e sz k l cap:Nat}{ei:TI}{x i:Operand}{kk:IntKind}{z:Int}{A:Option Addr}(ho:o.op= .slice t x (some i) none none)(hx:Γ.ev x=some (.slice A l cap))(hi:Γ.ev i=some (.int kk z))
  (ht:T.get t=some ⟨.slice e,sz⟩) (he:T.get e=some ei) (hz:z=(k:Nat)) (hk:k≤l):Sti P β n Γ H F o (.slice (iE A k ei.size cap) (l-k) (cap-k)):=fun a w S f s hF=>by
 subst hz;unfold execOp;simp only [ho,f.ev hx,Option.map_some,Option.map_none,f.ev hi];rw [Sem.run_bind,run_cutFrom hT ht he hk];rfl
theorem has_take{A:Option Addr}{l c k:Nat}{xs:List α}(h:Has F (E.sl (.slice A l c) xs))(hk:k≤xs.length):Has F (E.sl (.slice A k c) (xs.take k)):=fun S w q=>by
 obtain⟨A',c',e,h⟩:=h S w q;injection e with e1 e2 e3
 subst e1 e3;refine⟨A,c,by rw [List.length_take,Nat.min_eq_left hk],fun j x hj=>?_⟩;rw [List.getElem?_take] at hj;split at hj
 ·exact h j x hj
 ·cases hj
theorem lF{A:Option Addr}{l c k:Nat}{xs:List α}(h:Has F (E.sl (.slice A l c) xs))(hc:l≤c)(hk:k≤xs.length):Has F (E.sl (.slice (iE A k E.size c) (l-k) (c-k)) (xs.drop k)):=fun S w q=>by
 obtain⟨A',c',e,h⟩:=h S w q;injection e with e1 e2 e3
 subst e1 e3;refine⟨iE A k E.size c,c-k,by rw [List.length_drop,e2],fun j x hj=>?_⟩;rw [List.getElem?_drop] at hj;obtain⟨b,o,cs,q1,q2,q3,q4⟩:=h _ x hj;have hlt:=(List.getElem?_eq_some_iff.1 hj).1;refine⟨b,o+k*E.size,cs,?_,q2,fun i u hi=>?_,q4⟩
 ·unfold iE;rw [if_neg n7,q1];show some ((⟨b,o,none⟩:Addr).add (k*E.size))=_;rw [Addr.add_mid]
 ·have:=q3 i u hi
  have e:o+k*E.size+j*(Enc.flat E.size E.cells).size+i=o+(k+j)*(Enc.flat E.size E.cells).size+i:=by
   show o+k*E.size+j*E.size+i=o+(k+j)*E.size+i;rw [Nat.add_mul];omega
  rw [e];exact this
theorem bX{A:Option Addr}{t:TypeId}{m cap:Nat}{xs:List α}{H':List bH}(hH:cD H (E.row (.slice A m cap) t xs) H')(h:xs.length≤cap→At β n Γ H F K):At β n Γ H F K:=fun a w S f s k=>by
 have hown:w.ownsRow 0 t E.size (.slice A m cap) xs.length (E.all xs):=s.ok _ hH.mem;refine h ?_ a w S f s k
 rcases hown.2 with ⟨_,e0⟩ | ⟨g,cap',cur,e1,h1,h2,h3,_⟩
 ·omega
 ·injection e1 with e1 e2 e3
  subst e3;omega
end
open Go.ChangeMaps (setBlock)
abbrev KV:=List (Int×Value)
def kvI (kk:IntKind)(kv:KV):List (Value×Value):=kv.map fun p=>(Value.int kk p.1,p.2)
def wV (e:MapEntry):Value×Value:=(e.key,e.val)
def MapO (kk:IntKind)(kv:KV)(o:Option Obj):Prop:= ∃es clock,o=some (.map es clock)∧es.toList.map wV=kvI kk kv
def mapC (r:Nat)(kk:IntKind)(kv:KV):bH:= .gen (some r) (MapO kk kv)
def mapF (r:Nat)(kk:IntKind)(kv:KV):Fact where
 p S w:=S r∧MapO kk kv (w.heap[r]?)
 mono:=fun hs ha h=>⟨hs _ h.1,by rw [ha r h.1];exact h.2⟩
def zJ (k:Int):KV→Nat→Option (Nat×Value)
 | [],_=>none
 | p::r,i=>if k==p.1 then some (i,p.2) else zJ k r (i+1)
def bFq (k:Int):KV→Option Value
 | []=>none
 | p::r=>if k==p.1 then some p.2 else bFq k r
def bFc (k:Int)(v:Value):KV→KV
 | []=>[(k,v)]
 | p::r=>if k==p.1 then (k,v)::r else p::bFc k v r
theorem find_get(k:Int): ∀(kv:KV) (i:Nat),(zJ k kv i).map (·.2)=bFq k kv
 | [],_=>rfl
 | p::r,i=>by
  unfold zJ bFq;split
  ·rfl
  ·exact find_get k r (i+1)
theorem bWj{k:Int}{v:Value}: ∀{kv:KV} {i:Nat},zJ k kv i=none→bFc k v kv=kv++[(k,v)]
 | [],_,_=>rfl
 | p::r,i,h=>by
  unfold zJ at h;unfold bFc;split at h
  ·cases h
  ·rename_i hk;rw [if_neg hk,bWj h];rfl
theorem bWb{k:Int}{v:Value}{j:Nat}{u:Value}: ∀{kv:KV} {i:Nat},zJ k kv i=some (j,u)→ ∃d,j=i+d∧ ∃p,kv[d]?=some p∧k=p.1∧bFc k v kv=kv.set d (k,v)
 | [],_,h=>by cases h
 | p::r,i,h=>by
  unfold zJ at h;split at h
  ·rename_i hk;simp only [Option.some.injEq,Prod.mk.injEq] at h;exact⟨0,n7,p,rfl,by simpa using hk,by simp [bFc,hk]⟩
  ·rename_i hk;obtain⟨d,h1,q,h2,h3,h4⟩:=bWb (v:=v) h;exact⟨d+1,n7,q,h2,h3,by rw [bFc,if_neg hk,h4];rfl⟩
section
variable {P : Program} {kk : IntKind} {k : Int} {w : World} {t kt et : TypeId}
theorem bLy(kk:IntKind)(k:Int): ∀(es:List MapEntry) (kv:KV) (i:Nat),es.map wV=kvI kk kv→Instr.findNow (.int kk) (.int kk k) es i=some (zJ k kv i)
 | [],[],_,_=>rfl
 | [],_::_,_,h=>by simp [kvI] at h
 | _::_,[],_,h=>by simp [kvI] at h
 | e::es,p::kv,i,h=>by
  simp only [List.map_cons,List.cons.injEq,kvI,wV,Prod.mk.injEq] at h;obtain⟨⟨h1,h2⟩,h3⟩:=h;have ih:=bLy kk k es kv (i+1) h3;unfold Instr.findNow;rw [h1];simp only [Instr.sameNow,if_true,zJ];cases hk:k==p.1
  ·simpa using ih
  ·simp [h2]
theorem yM(hk:P.underlying kt=some (.int kk)){es:List MapEntry}{kv:KV}(h:es.map wV=kvI kk kv):(Instr.findKey kt (.int kk k) es).run P w= .ok (zJ k kv 0) w:=by
 unfold Instr.findKey;simp only [Sem.run_bind,run_underlying hk,Result.andThen_ok,bLy kk k es kv 0 h,Sem.run_pure]
theorem vW(hk:P.underlying kt=some (.int kk))(b:Bool):(Instr.checkKey b 10000 kt (.int kk k)).run P w= .ok () w:=by
 have: ∀n,(Instr.checkKey b (n+1) kt (.int kk k)).run P w= .ok () w:=fun n=>by simp [Instr.checkKey,run_underlying hk]
 exact this 9999
theorem run_staysI:(Instr.keyThatStays (.int kk k) (.int kk k)).run P w= .ok (.int kk k) w:=by
 have: ∀n,Instr.sameBits (n+1) (.int kk k) (.int kk k)=true:=fun n=>by simp [Instr.sameBits]
 unfold Instr.keyThatStays;rw [this 9999];simp
theorem run_lookupI(ht:P.underlying t=some (.map kt et))(hk:P.underlying kt=some (.int kk)){z:Value}(hz:(zeroValue et).run P w= .ok z w){r:Nat}{kv:KV}(h:MapO kk kv (w.heap[r]?)):
  (Instr.lookup t (.map (some r)) (.int kk k) false).run P w= .ok ((bFq k kv).getD z) w:=by
 obtain⟨es,clock,hb,hkv⟩:=h;unfold Instr.lookup;simp only [Sem.run_bind,run_underlying ht,Result.andThen_ok,MapKept.run_getObj_map hb,Sem.run_pure,vW hk,yM hk hkv];rw [←find_get k kv 0]
 cases zJ k kv 0 with
 | none=>simp [hz]
 | some p=>simp
theorem bRw(ht:P.underlying t=some (.map kt et))(hk:P.underlying kt=some (.int kk)){r:Nat}{kv:KV}(v:Value)(h:MapO kk kv (w.heap[r]?)):
  ∃o,(Instr.mapUpdate t (.map (some r)) (.int kk k) v).run P w= .ok () (setBlock w r o)∧MapO kk (bFc k v kv) ((setBlock w r o).heap[r]?):=by
 obtain⟨es,clock,hb,hkv⟩:=h
 cases hf:zJ k kv 0 with
 | none=>
  refine⟨.map (es.push ⟨.int kk k,v,clock⟩) (clock+1),?_,⟨_,_,ChangeMaps.heap_setBlock_same hb _,?_⟩⟩
  ·unfold Instr.mapUpdate;simp only [Sem.run_bind,run_underlying ht,Result.andThen_ok,MapKept.run_getObj_map hb,vW hk,yM hk hkv,hf];rw [MapKept.run_setObj_map _ hb];simp [setBlock]
  ·rw [bWj hf];simp [hkv,kvI,wV]
 | some p=>
  obtain⟨j,u⟩:=p;obtain⟨d,h1,q,h2,h3,h4⟩:=bWb (v:=v) hf;obtain rfl:j=d:=n7
  have hlen:es.size=kv.length:=by
   have:=congrArg List.length hkv
   simpa [kvI] using this
  have hjl:j<es.size:=by rw [hlen];exact(List.getElem?_eq_some_iff.1 h2).1
  obtain⟨e,he⟩: ∃e,es[j]?=some e:=⟨es[j],Array.getElem?_eq_getElem hjl⟩
  have hek:e.key= .int kk k:=by
   have h1:(es.toList.map wV)[j]?=some (wV e):=by simp [he]
   rw [hkv,kvI,List.getElem?_map,h2] at h1;simp only [Option.map_some,Option.some.injEq,wV,Prod.mk.injEq] at h1;rw [←h1.1,h3]
  refine⟨.map (es.modify j fun e=>{e with key:= .int kk k,val:=v}) clock,?_,⟨_,_,ChangeMaps.heap_setBlock_same hb _,?_⟩⟩
  ·unfold Instr.mapUpdate;simp only [Sem.run_bind,run_underlying ht,Result.andThen_ok,MapKept.run_getObj_map hb,vW hk,yM hk hkv,hf,he,Option.map_some,Option.getD_some,hek,run_staysI];rw [MapKept.run_setObj_map _ hb];simp [setBlock]
  ·rw [h4];apply List.ext_getElem?;intro i;have hi:(es.toList.map wV)[i]?=(kvI kk kv)[i]?:=by rw [hkv]
   simp only [kvI,List.getElem?_map,Array.toList_modify,List.getElem?_modify,List.getElem?_set] at hi⊢
   by_cases e':j=i
   ·subst e';have:j<kv.length:=n7
    have he':es.toList[j]?=some e:=by simpa using he
    simp [this,he',wV]
   ·simp only [e',if_false] at hi⊢
    simpa using hi
end
theorem sB{w:World}{r:Nat}{o:Obj}:oW (fun b=>b=r) w (setBlock w r o):=by
 refine⟨rfl,rfl,rfl,by simp [setBlock],fun b hb hne=>?_⟩;simp [setBlock,Ne.symm hne]
section
variable {P : Program} {β : dF} {n : Nat} {Γ : Env} {H : List bH} {F : List Fact} {Q : Exit → Act → World → Prop} {K : Act → World → Prop} {T : Tab} {ops : Array Oper} {rest : List Oper} {o : Oper}
theorem bPz{d:Nat}{t:TypeId}(kk:IntKind)(hw:want ops Γ o=some true)(ho:o.op= .makeMap t none)(hd:o.dst=some d)(hn:Nat.blt d n=true)(k: ∀b,At β n ((d,.map (some b))::Γ) (mapC b kk []::H) F (wpList P ops Q rest)):At β n Γ H F (wpList P ops Q (o::rest)):=
 iY hw fun a w S f s hk=>by
  have hr:(execOp a.eval o).run P w= .ok (.value (.map (some w.heap.size))) (w.alloc (.map #[] 0)):=by
   unfold execOp;simp only [ho,Instr.makeMap];rfl
  unfold Oper.wp;rw [hr,Oper.upon_value,hd];have s2:=s.alloc (.map #[] 0);refine k w.heap.size _ _ S (f.put t6 _) ⟨s2.kept,fun c hc=>?_,fun c hc b hb=>?_,?_,s2.zone⟩ (All.alloc s hk _)
  ·rcases List.mem_cons.1 hc with rfl | hc
   ·exact⟨#[],0,heap_alloc_new _ _,rfl⟩
   ·exact s2.ok c (List.mem_cons_of_mem _ hc)
  ·rcases List.mem_cons.1 hc with rfl | hc
   ·exact s2.own (.obj w.heap.size (.map #[] 0)) (List.mem_cons_self ..) b hb
   ·exact s2.own c (List.mem_cons_of_mem _ hc) b hb
  ·have hp:=List.pairwise_cons.1 s2.sep;exact List.pairwise_cons.2 ⟨fun d hd b hb=>hp.1 d hd b hb,hp.2⟩
theorem tL{r:Nat}{kk:IntKind}{kv:KV}{H':List bH}(hH:cD H (mapC r kk kv) H'){t kt et:TypeId}{m x y:Operand}{k:Int}{v:Value}(hw:want ops Γ o=some true)(ho:o.op= .mapUpdate t m x y∨o.op= .insert t m x y)(hd:o.dst=none)(ht:P.underlying t=some (.map kt et))(hk:P.underlying kt=some (.int kk))
  (hm:Γ.ev m=some (.map (some r))) (hx:Γ.ev x=some (.int kk k)) (hy:Γ.ev y=some v) (K':At β n Γ (mapC r kk (bFc k v kv)::H') F (wpList P ops Q rest)):At β n Γ H F (wpList P ops Q (o::rest)):=
 iY hw fun a w S f s hF=>by
  have hok:MapO kk kv (w.heap[r]?):=s.ok _ hH.mem;obtain⟨ob,hr0,hm0⟩:=bRw (k:=k) ht hk v hok
  have hr:(execOp a.eval o).run P w= .ok .skip (setBlock w r ob):=by
   unfold execOp
   rcases ho with ho | ho
   ·simp only [ho,f.ev hm,f.ev hx,f.ev hy,Sem.run_bind,hr0];rfl
   ·simp only [ho,f.ev hm,f.ev hx,f.ev hy,Sem.run_bind,hr0];rfl
  unfold Oper.wp;rw [hr,Oper.upon_skip,hd];have s2:=s.perm hH.perm;exact K' _ _ S (f.put_none _) (s2.swap sB rfl rfl hm0) (All.mono (fun _ h=>h) (s.agree sB (fun c hc e=>by subst e;exact(s2.own _ (List.mem_cons_self ..) _ rfl).2.2 hc)) hF)
def bPs (β:dF)(H:List bH)(F:List Fact)(r:Nat)(kk:IntKind)(kv:KV):Prop:= ∀w S,St β H S w→All F S w→MapO kk kv (w.heap[r]?)
theorem knows_mapC{r:Nat}{kk:IntKind}{kv:KV}{H':List bH}(hH:cD H (mapC r kk kv) H'):bPs β H F r kk kv:=fun _ _ s _=>s.ok _ hH.mem
theorem bTh{r:Nat}{kk:IntKind}{kv:KV}(h:Has F (mapF r kk kv)):bPs β H F r kk kv:=fun w S _ k=>(h S w k).2
theorem bFk{r:Nat}{kk:IntKind}{kv:KV}{t kt et:TypeId}{m x:Operand}{k:Int}{z v:Value}(hkm:bPs β H F r kk kv)(ho:o.op= .lookup t m x false)(ht:P.underlying t=some (.map kt et))(hk:P.underlying kt=some (.int kk))(hz: ∀w,(zeroValue et).run P w= .ok z w)
  (hm:Γ.ev m=some (.map (some r))) (hx:Γ.ev x=some (.int kk k)) (hv:(bFq k kv).getD z=v):Sti P β n Γ H F o v:=fun a w S f s hF=>by
 have:=run_lookupI (k:=k) ht hk (hz w) (hkm w S s hF);unfold execOp;simp only [ho,f.ev hm,f.ev hx];rw [Sem.run_bind,this,hv];rfl
theorem bTx{r:Nat}{kk:IntKind}{kv:KV}{H':List bH}(hH:cD H (mapC r kk kv) H')(h:At β n Γ H' (mapF r kk kv::F) K):At β n Γ H F K:=fun a w S f s k=>by
 have s2:=s.perm hH.perm;have hok:MapO kk kv (w.heap[r]?):=s2.ok _ (List.mem_cons_self ..);have hsep:=List.pairwise_cons.1 s2.sep;have hown:=s2.own _ (List.mem_cons_self ..);have hmono:All F (fun x=>S x∨x=r) w:=All.mono (fun _ h=> .inl h) (fun _ _=>rfl) k;refine h a w (fun x=>S x∨x=r) f ⟨s2.kept,fun c hc=>s2.ok c (List.mem_cons_of_mem _ hc),fun c hc x hx=>?_,hsep.2,fun x hx=>?_⟩ (All.cons ⟨.inr rfl,hok⟩ hmono)
 ·obtain⟨h1,h2,h3⟩:=s2.own c (List.mem_cons_of_mem _ hc) x hx;refine⟨h1,h2,fun h=>?_⟩
  rcases h with h | h
  ·exact h3 h
  ·subst h;exact hsep.1 c hc _ rfl hx
 ·rcases hx with hx | hx
  ·exact s2.zone x hx
  ·subst hx;obtain⟨h1,h2,_⟩:=hown _ rfl;exact⟨h1,.inr h2⟩
def pY:Flat UInt8 where
 size:=1
 cells:=fun b=>[.int .u8 b.toNat]
 len:=fun _=>rfl
 one:=fun x u hu=>by simp at hu;subst hu;rfl
 pos:=o9
theorem bJj(l:Bs):pY.all l=Lib.byteCells l:=by
 unfold Flat.all Lib.byteCells
 induction l with
 | nil=>rfl
 | cons b r ih=>rw [List.flatMap_cons,ih];rfl
theorem St.swap_row'{v v':Value}{t:TypeId}{sz m m':Nat}{cs cs':List Value}{S:mG}{w w':World}(s:St β (.row v t sz m cs::H) S w)(k:oW (fun b=>some b=v.ownBlock) w w')(hv: ∀b,v'.ownBlock=some b→some b=v.ownBlock∨w.heap.size≤b)(ok:w'.ownsRow 0 t sz v' m' cs'):
  St β (.row v' t sz m' cs'::H) S w':=by
 have hsep:=List.pairwise_cons.1 s.sep;have hown:=s.own _ (List.mem_cons_self ..);have s':St β H S w':=s.tail.grow k (fun b hb=>(hown b hb.symm).2.1) (fun d hd b hb e=>hsep.1 d hd b e.symm hb)
 have hnew: ∀b,v'.ownBlock=some b→b<w'.heap.size∧(β.M b∨β.w.heap.size≤b)∧ ¬S b:=fun b hb=>by
  refine⟨(World.ownsRow.lt ok b hb).2,?_⟩
  rcases hv b hb with h | h
  ·exact(hown b h.symm).2
  ·exact⟨.inr (Nat.le_trans s.kept.size h),fun hS=>absurd (s.zone _ hS).1 n7⟩
 refine⟨s'.kept,fun d hd=>?_,fun d hd b hb=>?_,List.pairwise_cons.2 ⟨fun d hd b hb hdb=>?_,s'.sep⟩,s'.zone⟩
 ·rcases List.mem_cons.1 hd with rfl | hd
  ·exact ok
  ·exact s'.ok d hd
 ·rcases List.mem_cons.1 hd with rfl | hd
  ·exact hnew b hb
  ·exact s'.own d hd b hb
 ·rcases hv b hb with h | h
  ·exact hsep.1 d hd b h.symm hdb
  ·have:=(s.own d (List.mem_cons_of_mem _ hd) _ hdb).1;omega
theorem bMm{w:World}(t u ty e:TypeId)(i:TypeInfo)(ht:P.underlying t=some (.slice e))(hu:P.underlying u=some .string)(hi:P.info? e=some i)(hz:i.zero=some (.int .u8 0))(hsize:i.size=1)(hby:i.bytes=1)
  (v:Value) (m:Nat) (xs:List Value) (hown:w.ownsRow 0 e 1 v m xs) (s:ByteArray) (h63:m+s.size≤maxLen) (hbytes:m+s.size≤140737488355328):
  ∃v' w',(Builtin.append_ #[t,u] ty #[v,.string s]).run P w= .ok v' w'∧w'.ownsRow 0 e 1 v' (m+s.size) (xs++Lib.strCells s)∧w.grownBy w' v.ownBlock∧(∀b,v'.ownBlock=some b→some b=v.ownBlock∨w.heap.size≤b):=by
 obtain⟨v',w',hr,h2,h3,_⟩:=Lib.run_append_own_string (P:=P) w 0 t u ty e i ht hu hi hz hsize hby v m xs hown s h63 hbytes (Nat.zero_le _);refine⟨v',w',hr,h2,h3,fun b hb=>?_⟩
 rcases hown.2 with ⟨rfl,rfl⟩ | ⟨g,cap,cur,rfl,_,hg,hnc,hcm,hcs,_⟩
 ·obtain⟨v2,w2,hr2,h4,_,_⟩:=Lib.run_append_own_string (P:=P) w w.heap.size t u ty e i ht hu hi hz hsize hby (.slice none 0 0) 0 xs ⟨hown.1,.inl ⟨rfl,rfl⟩⟩ s h63 hbytes (Nat.le_refl _);rw [hr] at hr2;injection hr2 with e1 e2
  subst e1 e2;exact .inr (World.ownsRow.lt h4 b hb).1
 ·by_cases hroom:m+s.size≤cap
  ·have hcs':cur.size=cap:=by simpa using hcs
   have hr2:=Lib.run_append_room_string (P:=P) w t u ty e i ht hu hi hsize g m cap cur hg s hroom n7;rw [hr] at hr2;injection hr2 with e1 e2
   subst e1;exact .inl hb.symm
  ·have hxl:xs.length=m:=by simpa using hown.1
   have hsmall:m+s.size≤9223372036854775807:=by simp only [maxLen] at h63;omega
   have holds: ∀j u,xs[j]?=some u→w.cell? ((⟨g,0,none⟩:Addr).add j)=some u:=hown.cells (g:=g) rfl;have hr2:=Lib.run_append_grow_string (P:=P) w t u ty e i (.int .u8 0) ht hu hi hz ⟨g,0,none⟩ m cap xs (by rw [hsize];simpa using hxl) holds s n7 n7 (by rw [hby];exact growslice_fits n7 n7);rw [hr] at hr2;injection hr2 with e1 e2
   subst e1;injection hb with hb
   subst hb;exact .inr (Nat.le_refl _)
theorem bPb{d:Nat}{x y:Operand}{t u e:TypeId}{i:TypeInfo}{v:Value}{xs ys:Bs}{H':List bH}(hH:cD H (pY.row v e xs) H')(hw:want ops Γ o=some true)
  (ho:o.op= .call {callee:= .builtin .append,args:= #[x,y],argTypes:= #[t,u]}) (hd:o.dst=some d) (hn:Nat.blt d n=true) (ht:P.underlying t=some (.slice e)) (hu:P.underlying u=some .string) (hi:P.info? e=some i) (hz:i.zero=some (.int .u8 0)) (hsize:i.size=1) (hby:i.bytes=1)
  (hx:Γ.ev x=some v) (hy:Γ.ev y=some (.string (bs ys))) (hl:xs.length+ys.length≤140737488355328)
  (k: ∀A' cap',At β n ((d,.slice A' (xs++ys).length cap')::Γ) (pY.row (.slice A' (xs++ys).length cap') e (xs++ys)::H') F (wpList P ops Q rest)):At β n Γ H F (wpList P ops Q (o::rest)):=
 iY hw fun a w S f s hk=>by
  have hown:w.ownsRow 0 e 1 v xs.length (pY.all xs):=s.ok _ hH.mem;obtain⟨v',w',hr,h2,h3,h4⟩:=bMm (P:=P) t u o.type e i ht hu hi hz hsize hby v xs.length _ hown (bs ys) (by rw [lU];unfold maxLen;omega) (by rw [lU];exact hl)
  have hr':(execOp a.eval o).run P w= .ok (.value v') w':=by
   unfold execOp;simp only [ho,resolve,invoke,builtin,Sem.run_bind,Sem.run_pure,Result.andThen_ok,List.map_toArray,List.map_cons,List.map_nil,f.ev hx,f.ev hy,hr]
  unfold Oper.wp;rw [hr',Oper.upon_value,hd];have s2:=s.perm hH.perm;have hall:pY.all xs++Lib.strCells (bs ys)=pY.all (xs++ys):=by rw [bJj,bJj,Lib.strCells_eq,bs_data,Lib.byteCells_append]
  rw [hall,lU,←List.length_append] at h2
  obtain⟨A',cap',e',_⟩: ∃A cap,v'= .slice A (xs++ys).length cap∧True:=by
   rcases h2.2 with ⟨e',e0⟩ | ⟨g,cap,cur,e',_⟩
   ·exact⟨none,0,by rw [e',e0],j0⟩
   ·exact⟨_,cap,e',j0⟩
  subst e';exact k A' cap' _ _ S (f.put t6 _) (s2.swap_row' (nR h3) h4 h2) (All.mono (fun _ h=>h) (s.agree (nR h3) (fun b hb e=>(s2.own _ (List.mem_cons_self ..) b e.symm).2.2 hb)) hk)
theorem bEb{x:Operand}{ts:Array TypeId}{A:Option Addr}{m c:Nat}(ho:o.op= .call {callee:= .builtin .unsafeSliceData,args:= #[x],argTypes:=ts})(hx:Γ.ev x=some (.slice A m c))(hc:A=none∨c≠0):Sti P β n Γ H F o (.pointer A):=fun a w S f s _=>by
 have hr:(Builtin.unsafeSliceData_ ts o.type #[.slice A m c]).run P w= .ok (.pointer A) w:=by
  cases A with
  | none=>exact Lib.run_unsafeSliceData_nil w ts o.type m c
  | some ad=>exact Lib.run_unsafeSliceData_row w ts o.type ad m c (hc.resolve_left o6)
 unfold execOp;simp only [ho,resolve,invoke,builtin,Sem.run_bind,Sem.run_pure,Result.andThen_ok,List.map_toArray,List.map_cons,List.map_nil,f.ev hx,hr]
theorem bMk{d g m cap:Nat}{x y:Operand}{pt it e:TypeId}{xs:Bs}{H':List bH}(hH:cD H (pY.row (.slice (some ⟨g,0,none⟩) m cap) e xs) H')(hw:want ops Γ o=some true)(ho:o.op= .call {callee:= .builtin .unsafeString,args:= #[x,y],argTypes:= #[pt,it]})(hd:o.dst=some d)(hn:Nat.blt d n=true)
  (hp:P.underlying pt=some (.pointer e)) (hc:P.cellsOf e=1) (hx:Γ.ev x=some (.pointer (some ⟨g,0,none⟩))) (hy:Γ.ev y=some (.int .i64 m)) (hm:m=xs.length) (h0:xs≠[])
  (k:At β n ((d,.string (bs xs))::Γ) H' F (wpList P ops Q rest)):At β n Γ H F (wpList P ops Q (o::rest)):=
 iY hw fun a w S f s hk=>by
  subst hm;have hown:w.ownsRow 0 e 1 (.slice (some ⟨g,0,none⟩) xs.length cap) xs.length (pY.all xs):=s.ok _ hH.mem
  obtain⟨cur,hg,hsz,hcap⟩: ∃cur,w.heap[g]?=some (.cells cur e (0,0))∧xs.length≤cur.size∧xs.length≤maxLen:=by
   rcases hown.2 with ⟨e1,_⟩ | ⟨g',cap',cur,e1,_,hg,h1,h2,h3,_⟩
   ·cases e1
   ·injection e1 with e1 e2 e3
    injection e1 with e1
    injection e1 with e1
    subst e1 e3;exact⟨cur,hg,n7,n7⟩
  have hsh:w.shape? g=some (e,cur.size):=by simp [World.shape?,hg]
  have hcell: ∀j u,xs[j]?=some u→w.cell? ((⟨g,0,none⟩:Addr).add j)=some (.int .u8 u.toNat):=fun j u hj=>by
   have h1:=hown.cells (g:=g) rfl j (.int .u8 u.toNat) (by rw [bJj];simp [Lib.byteCells,hj]);exact h1
  have hr:=Lib.run_unsafeString_row (P:=P) w pt it o.type e hp hc g cur.size hsh xs h0 hsz (by simp only [maxLen] at hcap;omega) hcell
  have hr':(execOp a.eval o).run P w= .ok (.value (.string (bs xs))) (w.freeze ⟨g,0,none⟩ xs.length):=by
   unfold execOp;simp only [ho,resolve,invoke,builtin,Sem.run_bind,Sem.run_pure,Result.andThen_ok,List.map_toArray,List.map_cons,List.map_nil,f.ev hx,f.ev hy,hr];rfl
  unfold Oper.wp;rw [hr',Oper.upon_value,hd];have s2:=s.perm hH.perm
  have hkept:oW (fun b=>b=g) w (w.freeze ⟨g,0,none⟩ xs.length):=by
   unfold World.freeze;split
   ·exact oW.refl _ _
   ·refine⟨rfl,rfl,rfl,o6,fun b hb hne=>?_⟩;simp [Array.getElem?_modify,Ne.symm hne]
  have hown2:=s2.own _ (List.mem_cons_self ..) g rfl;have hsep:=List.pairwise_cons.1 s2.sep;exact k _ _ S (f.put t6 _) (s2.tail.grow hkept (fun b hb=>by subst hb;exact hown2.2.1) (fun c hc b hb e=>by subst e;exact hsep.1 c hc _ rfl hb)) (All.mono (fun _ h=>h) (s.agree hkept (fun b hb e=>by subst e;exact hown2.2.2 hb)) hk)
theorem sti_noString{x y:Operand}{pt it:TypeId}(ho:o.op= .call {callee:= .builtin .unsafeString,args:= #[x,y],argTypes:= #[pt,it]}){p:Option Addr}(hx:Γ.ev x=some (.pointer p))(hy:Γ.ev y=some (.int .i64 0)):Sti P β n Γ H F o (.string (bs [])):=fun a w S f s _=>by
 have hr:=Lib.run_unsafeString_none (P:=P) w pt it o.type p;unfold execOp;simp only [ho,resolve,invoke,builtin,Sem.run_bind,Sem.run_pure,Result.andThen_ok,List.map_toArray,List.map_cons,List.map_nil,f.ev hx,f.ev hy,hr];rfl
theorem run_eqPtr{t e:TypeId}(ht:P.underlying t=some (.pointer e))(p:Option Addr)(w:World):(binOp .eql t (.pointer p) (.pointer none)).run P w= .ok (.bool p.isNone) w:=by
 have h: ∀k,(Op.equalIn (k+1) t (.pointer p) (.pointer none)).run P w= .ok p.isNone w:=fun k=>by cases p<;>simp [Op.equalIn,run_underlying ht]
 simp only [binOp];rw [Sem.run_bind,show Op.equal t (.pointer p) (.pointer none)=Op.equalIn 10000 t (.pointer p) (.pointer none) from rfl,h 9999];rfl
theorem bLo{t e tt:TypeId}{x:Operand}{p:Option Addr}(ht:P.underlying t=some (.pointer e))(ho:o.op= .binOp .eql t x (.const (.pointer none)) tt)(hx:Γ.ev x=some (.pointer p)):Sti P β n Γ H F o (.bool p.isNone):=fun a w S f s _=>by
 have e1:a.eval (.const (.pointer none))= .pointer none:=rfl;have hg:(eqGuard .eql t x (.const (.pointer none)) (.pointer p) (.pointer none)).run P w= .ok () w:=rfl;unfold execOp;simp only [ho,f.ev hx,e1];rw [Sem.run_bind,Sem.run_bind,hg,Result.andThen_ok,run_eqPtr ht];rfl
theorem sti_ptr_same{t e tt:TypeId}{j:TypeInfo}{x y:Operand}{p:Addr}(ht:P.underlying t=some (.pointer e))(hj:P.info? e=some j)(ho:o.op= .binOp .neq t x y tt)(hx:Γ.ev x=some (.pointer (some p)))(hy:Γ.ev y=some (.pointer (some p))):Sti P β n Γ H F o (.bool false):=fun a w S f s _=>by
 have hg:(eqGuard .neq t x y (.pointer (some p)) (.pointer (some p))).run P w= .ok () w:=rfl;unfold execOp;simp only [ho,f.ev hx,f.ev hy];rw [Sem.run_bind,Sem.run_bind,hg,Result.andThen_ok,Lib.run_neq_ptr_same w p ht hj];rfl
theorem shape_of{b:Nat}{cs:List Value}{t:TypeId}{fz:Nat×Nat}{H':List bH}(hH:cD H (.obj b (.cells cs.toArray t fz)) H'){S:mG}{w:World}(s:St β H S w):w.shape? b=some (t,cs.length):=by
 have h:w.heap[b]?=some (.cells cs.toArray t fz):=s.ok _ hH.mem;simp [World.shape?,h]
theorem sti_toUnsafe{src dst t e:TypeId}{j:TypeInfo}{x:Operand}{b off:Nat}{cs:List Value}{fz:Nat×Nat}{H':List bH}(hH:cD H (.obj b (.cells cs.toArray e fz)) H')(hs:P.underlying src=some (.pointer t))(hd:P.underlying dst=some .unsafePointer)(ht:P.info? t=some j)(hj:j.size≠0)
  (ho:o.op= .convert src dst x) (hx:Γ.ev x=some (.pointer (some ⟨b,off,none⟩))) (hoff:off<cs.length):Sti P β n Γ H F o (.pointer (some ⟨b,off,none⟩)):=fun a w S f s _=>by
 have:=Lib.run_to_unsafe (P:=P) w ⟨b,off,none⟩ hs hd ht hj (shape_of hH s) hoff;unfold execOp;simp only [ho,f.ev hx];rw [Sem.run_bind,this];rfl
theorem bQc{src dst u e:TypeId}{j:TypeInfo}{x:Operand}{b off:Nat}{cs:List Value}{fz:Nat×Nat}{H':List bH}(hH:cD H (.obj b (.cells cs.toArray e fz)) H')(hs:P.underlying src=some .unsafePointer)(hd:P.underlying dst=some (.pointer u))(hu:P.info? u=some j)
  (ho:o.op= .convert src dst x) (hx:Γ.ev x=some (.pointer (some ⟨b,off,none⟩))) (hl:liesAt P P.depth e (cs.length/P.cellsOf e) off u 1=true):Sti P β n Γ H F o (.pointer (some ⟨b,off,none⟩)):=fun a w S f s _=>by
 have:=Lib.run_from_unsafe (P:=P) w ⟨b,off,none⟩ hs hd hu (shape_of hH s) hl;unfold execOp;simp only [ho,f.ev hx];rw [Sem.run_bind,this];rfl
end
end
section
open Go.RowKit
open Go.ChangeMaps (setBlock)
theorem bs_beq(a b:Bs):(bs a==bs b)=(a==b):=by
 have h:(bs a==bs b)=(a.toArray==b.toArray):=rfl;rw [h];simp
abbrev KVS:=List (Bs×Value)
def bRz (kv:KVS):List (Value×Value):=kv.map fun p=>(Value.string (bs p.1),p.2)
def bPh (kv:KVS)(o:Option Obj):Prop:= ∃es clock,o=some (.map es clock)∧es.toList.map wV=bRz kv
def qS (r:Nat)(kv:KVS):bH:= .gen (some r) (bPh kv)
def rT (k:Bs):KVS→Nat→Option (Nat×Value)
 | [],_=>none
 | p::r,i=>if k==p.1 then some (i,p.2) else rT k r (i+1)
def oR (k:Bs):KVS→Option Value
 | []=>none
 | p::r=>if k==p.1 then some p.2 else oR k r
def nG (k:Bs)(v:Value):KVS→KVS
 | []=>[(k,v)]
 | p::r=>if k==p.1 then (k,v)::r else p::nG k v r
theorem bKf(k:Bs): ∀(kv:KVS) (i:Nat),(rT k kv i).map (·.2)=oR k kv
 | [],_=>rfl
 | p::r,i=>by
  unfold rT oR;split
  ·rfl
  ·exact bKf k r (i+1)
theorem bRj{k:Bs}{v:Value}: ∀{kv:KVS} {i:Nat},rT k kv i=none→nG k v kv=kv++[(k,v)]
 | [],_,_=>rfl
 | p::r,i,h=>by
  unfold rT at h;unfold nG;split at h
  ·cases h
  ·rename_i hk;rw [if_neg hk,bRj h];rfl
theorem bRn{k:Bs}{v:Value}{j:Nat}{u:Value}: ∀{kv:KVS} {i:Nat},rT k kv i=some (j,u)→ ∃d,j=i+d∧ ∃p,kv[d]?=some p∧k=p.1∧nG k v kv=kv.set d (k,v)
 | [],_,h=>by cases h
 | p::r,i,h=>by
  unfold rT at h;split at h
  ·rename_i hk;simp only [Option.some.injEq,Prod.mk.injEq] at h;exact⟨0,n7,p,rfl,by simpa using hk,by simp [nG,hk]⟩
  ·rename_i hk;obtain⟨d,h1,q,h2,h3,h4⟩:=bRn (v:=v) h;exact⟨d+1,n7,q,h2,h3,by rw [nG,if_neg hk,h4];rfl⟩
section
variable {P : Program} {k : Bs} {w : World} {t kt et : TypeId}
theorem bGm(k:Bs): ∀(es:List MapEntry) (kv:KVS) (i:Nat),es.map wV=bRz kv→Instr.findNow (.string) (.string (bs k)) es i=some (rT k kv i)
 | [],[],_,_=>rfl
 | [],_::_,_,h=>by simp [bRz] at h
 | _::_,[],_,h=>by simp [bRz] at h
 | e::es,p::kv,i,h=>by
  simp only [List.map_cons,List.cons.injEq,bRz,wV,Prod.mk.injEq] at h;obtain⟨⟨h1,h2⟩,h3⟩:=h;have ih:=bGm k es kv (i+1) h3;unfold Instr.findNow;rw [h1];simp only [Instr.sameNow,rT,bs_beq];cases hk:k==p.1
  ·simpa using ih
  ·simp [h2]
theorem sC(hk:P.underlying kt=some (.string)){es:List MapEntry}{kv:KVS}(h:es.map wV=bRz kv):(Instr.findKey kt (.string (bs k)) es).run P w= .ok (rT k kv 0) w:=by
 unfold Instr.findKey;simp only [Sem.run_bind,run_underlying hk,Result.andThen_ok,bGm k es kv 0 h,Sem.run_pure]
theorem qR(hk:P.underlying kt=some (.string))(b:Bool):(Instr.checkKey b 10000 kt (.string (bs k))).run P w= .ok () w:=by
 have: ∀n,(Instr.checkKey b (n+1) kt (.string (bs k))).run P w= .ok () w:=fun n=>by simp [Instr.checkKey,run_underlying hk]
 exact this 9999
theorem run_staysIS:(Instr.keyThatStays (.string (bs k)) (.string (bs k))).run P w= .ok (.string (bs k)) w:=by
 have: ∀n,Instr.sameBits (n+1) (.string (bs k)) (.string (bs k))=true:=fun n=>by simp [Instr.sameBits,bs_beq]
 unfold Instr.keyThatStays;rw [this 9999];simp
theorem run_lookupIS(ht:P.underlying t=some (.map kt et))(hk:P.underlying kt=some (.string)){z:Value}(hz:(zeroValue et).run P w= .ok z w){r:Nat}{kv:KVS}(h:bPh kv (w.heap[r]?)):
  (Instr.lookup t (.map (some r)) (.string (bs k)) false).run P w= .ok ((oR k kv).getD z) w:=by
 obtain⟨es,clock,hb,hkv⟩:=h;unfold Instr.lookup;simp only [Sem.run_bind,run_underlying ht,Result.andThen_ok,MapKept.run_getObj_map hb,Sem.run_pure,qR hk,sC hk hkv];rw [←bKf k kv 0]
 cases rT k kv 0 with
 | none=>simp [hz]
 | some p=>simp
theorem bMl(ht:P.underlying t=some (.map kt et))(hk:P.underlying kt=some (.string)){r:Nat}{kv:KVS}(v:Value)(h:bPh kv (w.heap[r]?)):
  ∃o,(Instr.mapUpdate t (.map (some r)) (.string (bs k)) v).run P w= .ok () (setBlock w r o)∧bPh (nG k v kv) ((setBlock w r o).heap[r]?):=by
 obtain⟨es,clock,hb,hkv⟩:=h
 cases hf:rT k kv 0 with
 | none=>
  refine⟨.map (es.push ⟨.string (bs k),v,clock⟩) (clock+1),?_,⟨_,_,ChangeMaps.heap_setBlock_same hb _,?_⟩⟩
  ·unfold Instr.mapUpdate;simp only [Sem.run_bind,run_underlying ht,Result.andThen_ok,MapKept.run_getObj_map hb,qR hk,sC hk hkv,hf];rw [MapKept.run_setObj_map _ hb];simp [setBlock]
  ·rw [bRj hf];simp [hkv,bRz,wV]
 | some p=>
  obtain⟨j,u⟩:=p;obtain⟨d,h1,q,h2,h3,h4⟩:=bRn (v:=v) hf;obtain rfl:j=d:=n7
  have hlen:es.size=kv.length:=by
   have:=congrArg List.length hkv
   simpa [bRz] using this
  have hjl:j<es.size:=by rw [hlen];exact(List.getElem?_eq_some_iff.1 h2).1
  obtain⟨e,he⟩: ∃e,es[j]?=some e:=⟨es[j],Array.getElem?_eq_getElem hjl⟩
  have hek:e.key= .string (bs k):=by
   have h1:(es.toList.map wV)[j]?=some (wV e):=by simp [he]
   rw [hkv,bRz,List.getElem?_map,h2] at h1;simp only [Option.map_some,Option.some.injEq,wV,Prod.mk.injEq] at h1;rw [←h1.1,h3]
  refine⟨.map (es.modify j fun e=>{e with key:= .string (bs k),val:=v}) clock,?_,⟨_,_,ChangeMaps.heap_setBlock_same hb _,?_⟩⟩
  ·unfold Instr.mapUpdate;simp only [Sem.run_bind,run_underlying ht,Result.andThen_ok,MapKept.run_getObj_map hb,qR hk,sC hk hkv,hf,he,Option.map_some,Option.getD_some,hek,run_staysIS];rw [MapKept.run_setObj_map _ hb];simp [setBlock]
  ·rw [h4];apply List.ext_getElem?;intro i;have hi:(es.toList.map wV)[i]?=(bRz kv)[i]?:=by rw [hkv]
   simp only [bRz,List.getElem?_map,Array.toList_modify,List.getElem?_modify,List.getElem?_set] at hi⊢
   by_cases e':j=i
   ·subst e';have:j<kv.length:=n7
    have he':es.toList[j]?=some e:=by simpa using he
    simp [this,he',wV]
   ·simp only [e',if_false] at hi⊢
    simpa using hi
end
section
variable {P : Program} {β : dF} {n : Nat} {Γ : Env} {H : List bH} {F : List Fact} {Q : Exit → Act → World → Prop} {K : Act → World → Prop} {T : Tab} {ops : Array Oper} {rest : List Oper} {o : Oper}
theorem bAf{d:Nat}{t:TypeId}(hw:want ops Γ o=some true)(ho:o.op= .makeMap t none)(hd:o.dst=some d)(hn:Nat.blt d n=true)(k: ∀b,At β n ((d,.map (some b))::Γ) (qS b []::H) F (wpList P ops Q rest)):At β n Γ H F (wpList P ops Q (o::rest)):=
 iY hw fun a w S f s hk=>by
  have hr:(execOp a.eval o).run P w= .ok (.value (.map (some w.heap.size))) (w.alloc (.map #[] 0)):=by
   unfold execOp;simp only [ho,Instr.makeMap];rfl
  unfold Oper.wp;rw [hr,Oper.upon_value,hd];have s2:=s.alloc (.map #[] 0);refine k w.heap.size _ _ S (f.put t6 _) ⟨s2.kept,fun c hc=>?_,fun c hc b hb=>?_,?_,s2.zone⟩ (All.alloc s hk _)
  ·rcases List.mem_cons.1 hc with rfl | hc
   ·exact⟨#[],0,heap_alloc_new _ _,rfl⟩
   ·exact s2.ok c (List.mem_cons_of_mem _ hc)
  ·rcases List.mem_cons.1 hc with rfl | hc
   ·exact s2.own (.obj w.heap.size (.map #[] 0)) (List.mem_cons_self ..) b hb
   ·exact s2.own c (List.mem_cons_of_mem _ hc) b hb
  ·have hp:=List.pairwise_cons.1 s2.sep;exact List.pairwise_cons.2 ⟨fun d hd b hb=>hp.1 d hd b hb,hp.2⟩
theorem lN{r:Nat}{kv:KVS}{H':List bH}(hH:cD H (qS r kv) H'){t kt et:TypeId}{m x y:Operand}{k:Bs}{v:Value}(hw:want ops Γ o=some true)(ho:o.op= .mapUpdate t m x y∨o.op= .insert t m x y)(hd:o.dst=none)(ht:P.underlying t=some (.map kt et))(hk:P.underlying kt=some (.string))
  (hm:Γ.ev m=some (.map (some r))) (hx:Γ.ev x=some (.string (bs k))) (hy:Γ.ev y=some v) (K':At β n Γ (qS r (nG k v kv)::H') F (wpList P ops Q rest)):At β n Γ H F (wpList P ops Q (o::rest)):=
 iY hw fun a w S f s hF=>by
  have hok:bPh kv (w.heap[r]?):=s.ok _ hH.mem;obtain⟨ob,hr0,hm0⟩:=bMl (k:=k) ht hk v hok
  have hr:(execOp a.eval o).run P w= .ok .skip (setBlock w r ob):=by
   unfold execOp
   rcases ho with ho | ho
   ·simp only [ho,f.ev hm,f.ev hx,f.ev hy,Sem.run_bind,hr0];rfl
   ·simp only [ho,f.ev hm,f.ev hx,f.ev hy,Sem.run_bind,hr0];rfl
  unfold Oper.wp;rw [hr,Oper.upon_skip,hd];have s2:=s.perm hH.perm;exact K' _ _ S (f.put_none _) (s2.swap sB rfl rfl hm0) (All.mono (fun _ h=>h) (s.agree sB (fun c hc e=>by subst e;exact(s2.own _ (List.mem_cons_self ..) _ rfl).2.2 hc)) hF)
def bJh (β:dF)(H:List bH)(F:List Fact)(r:Nat)(kv:KVS):Prop:= ∀w S,St β H S w→All F S w→bPh kv (w.heap[r]?)
theorem lA{r:Nat}{kv:KVS}{H':List bH}(hH:cD H (qS r kv) H'):bJh β H F r kv:=fun _ _ s _=>s.ok _ hH.mem
theorem sti_lookupS{r:Nat}{kv:KVS}{t kt et:TypeId}{m x:Operand}{k:Bs}{z v:Value}(hkm:bJh β H F r kv)(ho:o.op= .lookup t m x false)(ht:P.underlying t=some (.map kt et))(hk:P.underlying kt=some (.string))(hz: ∀w,(zeroValue et).run P w= .ok z w)
  (hm:Γ.ev m=some (.map (some r))) (hx:Γ.ev x=some (.string (bs k))) (hv:(oR k kv).getD z=v):Sti P β n Γ H F o v:=fun a w S f s hF=>by
 have:=run_lookupIS (k:=k) ht hk (hz w) (hkm w S s hF);unfold execOp;simp only [ho,f.ev hm,f.ev hx];rw [Sem.run_bind,this,hv];rfl
end
section
variable {P : Program} {β : dF} {n : Nat} {Γ : Env} {H : List bH} {F : List Fact} {o : Oper}
theorem run_lookupOk{w:World}{t kt et:TypeId}{k:Bs}(ht:P.underlying t=some (.map kt et))(hk:P.underlying kt=some .string){z:Value}(hz:(zeroValue et).run P w= .ok z w){r:Nat}{kv:KVS}(h:bPh kv (w.heap[r]?)):
  (Instr.lookup t (.map (some r)) (.string (bs k)) true).run P w= .ok (.tuple #[(oR k kv).getD z,.bool (oR k kv).isSome]) w:=by
 obtain⟨es,clock,hb,hkv⟩:=h;unfold Instr.lookup;simp only [Sem.run_bind,run_underlying ht,Result.andThen_ok,MapKept.run_getObj_map hb,Sem.run_pure,qR hk,sC hk hkv];rw [←bKf k kv 0]
 cases rT k kv 0 with
 | none=>simp [hz]
 | some p=>simp
theorem lI{r:Nat}{kv:KVS}{t kt et:TypeId}{m x:Operand}{k:Bs}{z v:Value}(hkm:bJh β H F r kv)(ho:o.op= .lookup t m x true)(ht:P.underlying t=some (.map kt et))(hk:P.underlying kt=some .string)(hz: ∀w,(zeroValue et).run P w= .ok z w)
  (hm:Γ.ev m=some (.map (some r))) (hx:Γ.ev x=some (.string (bs k))) (hv:(.tuple #[(oR k kv).getD z,.bool (oR k kv).isSome]:Value)=v):Sti P β n Γ H F o v:=fun a w S f s hF=>by
 have:=run_lookupOk (k:=k) ht hk (hz w) (hkm w S s hF);unfold execOp;simp only [ho,f.ev hm,f.ev hx];rw [Sem.run_bind,this,hv];rfl
end
end
section
open Go.RowKit
section
variable {P : Program} {β : dF} {n : Nat} {Γ : Env} {H : List bH} {F : List Fact} {Q : Exit → Act → World → Prop} {K : Act → World → Prop} {T : Tab} {α : Type} {E : Flat α}
theorem dQ.cells{A:Option Addr}{xs:List α}{w:World}{S:mG}(hr:dQ β H F E A xs)(s:St β H S w)(hF:All F S w)(h0:0<xs.length):
  ∃b off,A=some ⟨b,off,none⟩∧ ∀j u,(E.all xs)[j]?=some u→w.cell? ((⟨b,off,none⟩:Addr).add j)=some u:=by
 obtain⟨⟨b,off,rfl⟩,_⟩:=hr w S s hF 0 _ (List.getElem?_eq_getElem h0);refine⟨b,off,rfl,fun j u hj=>?_⟩;have hlt:=(List.getElem?_eq_some_iff.1 hj).1;rw [E.all_length] at hlt;have hk:j/E.size<xs.length:=Nat.div_lt_of_lt_mul (by rwa [Nat.mul_comm] at hlt);have hm:j%E.size<E.size:=Nat.mod_lt _ E.pos;have hx':=List.getElem?_eq_getElem hk;have hu':=List.getElem?_eq_getElem (l:=E.cells xs[j/E.size]) (i:=j%E.size) (by rw [E.len];exact hm);have e:j/E.size*E.size+j%E.size=j:=by rw [Nat.mul_comm];exact Nat.div_add_mod j E.size
 have h1:=(hr w S s hF _ _ hx').2 _ _ hu';have h2:=E.all_get hx' hu';rw [e,hj] at h2;injection h2 with h2
 have h3:=h1.trans (congrArg some h2.symm);rw [Nat.add_assoc,e] at h3;rw [Addr.add_mid];exact h3
theorem dQ.tail{A:Option Addr}{xs:List α}{c:bH}(hr:dQ β H F E A xs):dQ β (c::H) F E A xs:=fun w S s hF=>hr w S s.tail hF
end
end
end Go.Proofs.YtakphiannlpnfaaGreatDoor
