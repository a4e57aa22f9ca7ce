/- Texts of one proof, one behind the other: MapI, MapS, Ints, Full, TysU, GenO, GenB, TysG, MixP, GmA, Invo, PanF, GmB. -/
import Derived.Test.YtnfiadlonjediaaGreatDoorM7
import Derived.MapKept
import Derived.ChangeMaps5
import Derived.WideKeyEntry
import Derived.Lib.AppendStr
import Derived.Lib.UnsafeStr
import Derived.Lib.Builder
import Derived.Deep.AppendSrc
import Derived.Deep.Upon
import Derived.Test.YtnfiadlonjediaaGreatDoorM10
import Derived.Test.YtnfiadlonjediaaGreatDoorM4
import Derived.Test.YtnfiadlonjediaaGreatDoorM2
import Derived.Test.YtnfiadlonjediaaGreatDoorM1
set_option maxRecDepth 100000
namespace Go.Proofs.YtnfiadlonjediaaGreatDoor
open Instr renaming findNow->L9,findKey->L7,checkKey->L6,keyThatStays->M2,sameBits->Z5,mapUpdate->M3
open Sem renaming run_bind->E6,run_pure->E7
open Result renaming andThen_ok->E8
open MapKept renaming run_getObj_map->O4,run_setObj_map->O5
open _root_.List renaming getElem?_eq_some_iff->D9,getElem?_map->I7,mem_cons_of_mem->D1,mem_cons_self->D5,pairwise_cons->D2,getElem?_eq_getElem->D7,length_append->E0,size_toArray->K4
open _root_.Nat renaming blt->C0,le_trans->B9
open Oper renaming wp->F4,upon_value->F5,upon_enter->F7
open IntKind renaming wrap->G3,signed->G4,bits->G5
section
open Go.RowKit Go.Proofs.Tryz
open Go.ChangeMaps (setBlock)
abbrev KV:=List (Int×Value)
def kvI (kk:IntKind)(kv:KV):List (Value×Value):=kv.map λp=>(Value.int kk p.1,p.2)
def bRt (e:MapEntry):Value×Value:=(e.key,e.val)
def MapO (kk:IntKind)(kv:KV)(o:Option Obj):Prop:= ∃es clock,o=some (.map es clock)/\es.toList.map bRt=kvI kk kv
def bOx (r:Nat)(kk:IntKind)(kv:KV):bC:= .gen (some r) (MapO kk kv)
def qR (k:Int):KV->Nat->Option (Nat×Value)
 |[],_=>none
 |p::r,i=>if k==p.1 then some (i,p.2)else qR k r (i+1)
def bOl (k:Int):KV->Option Value
 |[]=>none
 |p::r=>if k==p.1 then some p.2 else bOl k r
def bCk (k:Int)(v:Value):KV->KV
 |[]=>[(k,v)]
 |p::r=>if k==p.1 then (k,v)::r else p::bCk k v r
theorem find_get(k:Int): ∀(kv:KV) (i:Nat),(qR k kv i).map (·.2)=bOl k kv
 |[],_=>rfl
 |p::r,i=>by
  unfold qR bOl;split
  .rfl
  .exact find_get k r (i+1)
theorem bSn{k:Int}{v:Value}: ∀{kv:KV} {i:Nat},qR k kv i=none->bCk k v kv=kv++[(k,v)]
 |[],_,_=>rfl
 |p::r,i,h=>by
  unfold qR at h;unfold bCk;split at h
  .cases h
  .rename_i a;rw[if_neg a,bSn h];rfl
theorem bSj{k:Int}{v:Value}{j:Nat}{u:Value}: ∀{kv:KV} {i:Nat},qR k kv i=some (j,u)-> ∃d,j=i+d/\ ∃p,kv[d]?=some p/\k=p.1/\bCk k v kv=kv.set d (k,v)
 |[],_,h=>by cases h
 |p::r,i,h=>by
  unfold qR at h;split at h
  .rename_i a;simp only[Option.some.injEq,Prod.mk.injEq]at h;exact⟨0,k9,p,rfl,by simpa using a,by simp[bCk,a]⟩
  .rename_i a;obtain⟨d,h1,q,c,b,h4⟩:=bSj (v:=v) h;exact⟨d+1,k9,q,c,b,by rw[bCk,if_neg a,h4];rfl⟩
section
variable {P : Program} {kk : IntKind} {k : Int} {w : World} {t kt et : TypeId}
theorem bKi(kk:IntKind)(k:Int): ∀(es:List MapEntry) (kv:KV) (i:Nat),es.map bRt=kvI kk kv->L9 (.int kk) (.int kk k) es i=some (qR k kv i)
 |[],[],_,_=>rfl
 |[],_::_,_,h=>by simp[kvI]at h
 |_::_,[],_,h=>by simp[kvI]at h
 |e::es,p::kv,i,h=>by
  simp only[List.map_cons,List.cons.injEq,kvI,bRt,Prod.mk.injEq]at h;obtain⟨⟨h1,c⟩,b⟩:=h;have a:=bKi kk k es kv (i+1) b;unfold L9;rw[h1];simp only[Instr.sameNow,if_true,qR];cases d:k==p.1
  .simpa using a
  .simp[c]
theorem pD(hk:P.underlying kt=some (.int kk)){es:List MapEntry}{kv:KV}(h:es.map bRt=kvI kk kv):(L7 kt (.int kk k) es).run P w= .ok (qR k kv 0) w:=by
 unfold L7;simp only[E6,run_underlying hk,E8,bKi kk k es kv 0 h,E7]
theorem nM(hk:P.underlying kt=some (.int kk))(b:Bool):(L6 b 10000 kt (.int kk k)).run P w= .ok () w:=by
 have: ∀n,(L6 b (n+1) kt (.int kk k)).run P w= .ok () w:=λn=>by simp[L6,run_underlying hk]
 exact this 9999
theorem run_staysI:(M2 (.int kk k) (.int kk k)).run P w= .ok (.int kk k) w:=by
 have: ∀n,Z5 (n+1) (.int kk k) (.int kk k)=true:=λn=>by simp[Z5]
 unfold M2;rw[this 9999];simp
theorem bNv(ht:P.underlying t=some (.map kt et))(hk:P.underlying kt=some (.int kk)){r:Nat}{kv:KV}(v:Value)(h:MapO kk kv (w.heap[r]?)):
  ∃o,(M3 t (.map (some r)) (.int kk k) v).run P w= .ok () (setBlock w r o)/\MapO kk (bCk k v kv) ((setBlock w r o).heap[r]?):=by
 obtain⟨c,a,hb,b⟩:=h
 cases g:qR k kv 0 with
 |none=>
  refine⟨.map (c.push ⟨.int kk k,v,a⟩) (a+1),?_,⟨_,_,ChangeMaps.heap_setBlock_same hb _,?_⟩⟩
  .unfold M3;simp only[E6,run_underlying ht,E8,O4 hb,nM hk,pD hk b,g];rw[O5 _ hb];simp[setBlock]
  .rw[bSn g];simp[b,kvI,bRt]
 |some p=>
  obtain⟨j,u⟩:=p;obtain⟨d,h1,q,y,A,h4⟩:=bSj (v:=v) g;obtain rfl:j=d:=k9
  have f:c.size=kv.length:=by
   have:=congrArg List.length b
   simpa[kvI]using this
  have l:j<c.size:=by rw[f];exact(D9.1 y).1
  obtain⟨e,x⟩: ∃e,c[j]?=some e:=⟨c[j],Array.getElem?_eq_getElem l⟩
  have n:e.key= .int kk k:=by
   have h1:(c.toList.map bRt)[j]?=some (bRt e):=by simp[x]
   rw[b,kvI,I7,y]at h1;simp only[Option.map_some,Option.some.injEq,bRt,Prod.mk.injEq]at h1;rw[<-h1.1,A]
  refine⟨.map (c.modify j λe=>{e with key:= .int kk k,val:=v}) a,?_,⟨_,_,ChangeMaps.heap_setBlock_same hb _,?_⟩⟩
  .unfold M3;simp only[E6,run_underlying ht,E8,O4 hb,nM hk,pD hk b,g,x,Option.map_some,Option.getD_some,n,run_staysI];rw[O5 _ hb];simp[setBlock]
  .rw[h4];apply List.ext_getElem?;intro i;have m:(c.toList.map bRt)[i]?=(kvI kk kv)[i]?:=by rw[b]
   simp only[kvI,I7,Array.toList_modify,List.getElem?_modify,List.getElem?_set]at m⊢
   by_cases z:j=i
   .subst z;have:j<kv.length:=k9
    have s:c.toList[j]?=some e:=by simpa using x
    simp[this,s,bRt]
   .simp only[z,if_false]at m⊢
    simpa using m
end
theorem iN{w:World}{r:Nat}{o:Obj}:oM (λb=>b=r) w (setBlock w r o):=by
 refine⟨rfl,rfl,rfl,by simp[setBlock],λb hb a=>?_⟩;simp[setBlock,Ne.symm a]
section
variable {P : Program} {β : dE} {n : Nat} {Γ : Env} {H : List bC} {F : List bE} {Q : Exit -> Act -> World -> Prop} {K : Act -> World -> Prop} {T : Tab} {ops : Array Oper} {rest : List Oper} {o : Oper}
theorem bPw{d:Nat}{t:TypeId}(kk:IntKind)(hw:want ops Γ o=some true)(ho:o.op= .makeMap t none)(hd:o.dst=some d)(hn:C0 d n=true)(k: ∀b,At β n ((d,.map (some b))::Γ) (bOx b kk []::H) F (wpList P ops Q rest)):At β n Γ H F (wpList P ops Q (o::rest)):=
 fV hw λa w S f s i=>by
  have hr:(execOp a.eval o).run P w= .ok (.value (.map (some w.heap.size))) (w.alloc (.map #[] 0)):=by
   unfold execOp;simp only[ho,Instr.makeMap];rfl
  unfold F4;rw[hr,F5,hd];have g:=s.alloc (.map #[] 0);refine k w.heap.size _ _ S (f.put m9 _) ⟨g.kept,λc e=>?_,λc e b hb=>?_,?_,g.zone⟩ (All.alloc s i _)
  .rcases List.mem_cons.1 e with rfl|e
   .exact⟨#[],0,heap_alloc_new _ _,rfl⟩
   .exact g.ok c (D1 _ e)
  .rcases List.mem_cons.1 e with rfl|e
   .exact g.own (.obj w.heap.size (.map #[] 0)) (D5 ..) b hb
   .exact g.own c (D1 _ e) b hb
  .have h:=D2.1 g.sep;exact D2.2 ⟨λd hd b hb=>h.1 d hd b hb,h.2⟩
theorem rQ{r:Nat}{kk:IntKind}{kv:KV}{H':List bC}(hH:bU H (bOx r kk kv) H'){t kt et:TypeId}{m x y:Operand}{k:Int}{v:Value}(hw:want ops Γ o=some true)(ho:o.op= .mapUpdate t m x y\/o.op= .insert t m x y)(hd:o.dst=none)(ht:P.underlying t=some (.map kt et))(hk:P.underlying kt=some (.int kk))
  (hm:Γ.ev m=some (.map (some r))) (hx:Γ.ev x=some (.int kk k)) (hy:Γ.ev y=some v) (K':At β n Γ (bOx r kk (bCk k v kv)::H') F (wpList P ops Q rest)):At β n Γ H F (wpList P ops Q (o::rest)):=
 fV hw λa w S f s l=>by
  have d:MapO kk kv (w.heap[r]?):=s.ok _ hH.mem;obtain⟨ob,b,g⟩:=bNv (k:=k) ht hk v d
  have hr:(execOp a.eval o).run P w= .ok .skip (setBlock w r ob):=by
   unfold execOp
   rcases ho with ho|ho
   .simp only[ho,f.ev hm,f.ev hx,f.ev hy,E6,b];rfl
   .simp only[ho,f.ev hm,f.ev hx,f.ev hy,E6,b];rfl
  unfold F4;rw[hr,Oper.upon_skip,hd];have i:=s.perm hH.perm;exact K' _ _ S (f.put_none _) (i.swap iN rfl rfl g) (All.mono (λ_ h=>h) (s.agree iN (λc j e=>by subst e;exact(i.own _ (D5 ..) _ rfl).2.2 j)) l)
def KnowsMap(β:dE)(H:List bC)(F:List bE)(r:Nat)(kk:IntKind)(kv:KV):Prop:= ∀w S,St β H S w->All F S w->MapO kk kv (w.heap[r]?)
theorem qA{r:Nat}{kk:IntKind}{kv:KV}{H':List bC}(hH:bU H (bOx r kk kv) H'):KnowsMap β H F r kk kv:=λ_ _ s _=>s.ok _ hH.mem
end
end
section
open Go.RowKit Go.Proofs.Tryz
open Go.ChangeMaps (setBlock)
end
section
open Go.RowKit Go.Proofs.Tryz
section
variable {P : Program} {β : dE} {n : Nat} {Γ : Env} {H : List bC} {F : List bE} {o : Oper}
theorem bNq{t tt:TypeId}{x y:Operand}{k:IntKind}{a b:Int}(ho:o.op= .binOp .quo t x y tt)(hx:Γ.ev x=some (.int k a))(hy:Γ.ev y=some (.int k b))(hb:b≠0):Sti P β n Γ H F o (.int k (k.wrap (a.tdiv b))):=λc w S f s _=>by
 unfold execOp;simp only[ho,f.ev hx,f.ev hy];simp[eqGuard,binOp,Op.intDiv,hb]
theorem sti_remI{t tt:TypeId}{x y:Operand}{k:IntKind}{a b:Int}(ho:o.op= .binOp .rem t x y tt)(hx:Γ.ev x=some (.int k a))(hy:Γ.ev y=some (.int k b))(hb:b≠0):Sti P β n Γ H F o (.int k (a.tmod b)):=λc w S f s _=>by
 unfold execOp;simp only[ho,f.ev hx,f.ev hy];simp[eqGuard,binOp,Op.intDiv,hb]
theorem sti_half{t tt:TypeId}{x y:Operand}{k k':IntKind}{a:Int}(ho:o.op= .binOp .shr t x y tt)(hx:Γ.ev x=some (.int k a))(hy:Γ.ev y=some (.int k' 1))(hk:1<=k.bits):Sti P β n Γ H F o (.int k (a.fdiv 2)):=λc w S f s _=>by
 unfold execOp;simp only[ho,f.ev hx,f.ev hy];have e:min 1 k.bits=1:=k9
 simp[eqGuard,binOp,Op.shift,e]
theorem sti_xorI{t tt:TypeId}{x y:Operand}{k:IntKind}{a b:Int}(ho:o.op= .binOp .xor t x y tt)(hx:Γ.ev x=some (.int k a))(hy:Γ.ev y=some (.int k b)):Sti P β n Γ H F o (.int k (k.wrap ((BitVec.ofInt k.bits a^^^BitVec.ofInt k.bits b).toNat:Nat))):=λc w S f s _=>by
 unfold execOp;simp only[ho,f.ev hx,f.ev hy];simp[eqGuard,binOp,Op.intBits]
end
theorem halfN(a:Nat):((a:Int).fdiv 2)=((a/2:Nat):Int):=by
 rw[Int.fdiv_eq_ediv_of_nonneg _ k9];omega
section
variable {P : Program} {β : dE} {n : Nat} {Γ : Env} {H : List bC} {F : List bE} {Q : Exit -> Act -> World -> Prop} {K : Act -> World -> Prop} {T : Tab} {α : Type} {E : Flat α}
theorem dO.cells{A:Option Addr}{xs:List α}{w:World}{S:jX}(hr:dO β H F E A xs)(s:St β H S w)(hF:All F S w)(h0:0<xs.length):
  ∃b off,A=some ⟨b,off,none⟩/\ ∀j u,(E.all xs)[j]?=some u->w.cell? ((⟨b,off,none⟩:Addr).add j)=some u:=by
 obtain⟨⟨b,off,rfl⟩,_⟩:=hr w S s hF 0 _ (D7 h0);refine⟨b,off,rfl,λj u f=>?_⟩;have hlt:=(D9.1 f).1;rw[E.all_length]at hlt;have k:j/E.size<xs.length:=Nat.div_lt_of_lt_mul (by rwa[Nat.mul_comm]at hlt);have h:j%E.size<E.size:=Nat.mod_lt _ E.pos;have a:=D7 k;have c:=D7 (l:=E.cells xs[j/E.size]) (i:=j%E.size) (by rw[E.len];exact h);have e:j/E.size*E.size+j%E.size=j:=by rw[Nat.mul_comm];exact Nat.div_add_mod j E.size
 have h1:=(hr w S s hF _ _ a).2 _ _ c;have d:=E.all_get a c;rw[e,f]at d;injection d with d
 have g:=h1.trans (congrArg some d.symm);rw[Nat.add_assoc,e]at g;rw[Addr.add_mid];exact g
theorem dO.tail{A:Option Addr}{xs:List α}{c:bC}(hr:dO β H F E A xs):dO β (c::H) F E A xs:=λw S s a=>hr w S s.tail a
theorem bIj{A:Option Addr}{xs:List α}{w:World}{S:jX}(hr:dO β H F E A xs)(s:St β H S w)(hF:All F S w)(c:Nat){size:Nat}(hs:size=E.size):(Builtin.firstCells size xs.length (.slice A xs.length c)).run P w.drew= .ok (E.all xs).toArray w.drew:=by
 subst hs
 by_cases h0:0<xs.length
 .obtain⟨b,d,rfl,h⟩:=hr.cells s hF h0;exact run_firstCells_some w.drew E.size xs.length ⟨b,d,none⟩ xs.length c (E.all xs) (E.all_length xs) h
 .have:xs=[]:=List.eq_nil_of_length_eq_zero k9;subst this
  cases A with
  |none=>exact run_firstCells_none w.drew E.size 0 0 c
  |some a=>exact run_firstCells_some w.drew E.size 0 a 0 c [] n4 (λj u e=>by simp at e)
theorem bMd{ops:Array Oper}{rest:List Oper}{o:Oper}{d:Nat}{x y:Operand}{t e:TypeId}{i:TypeInfo}{z:Value}{by_ c q m:Nat}{A B:Option Addr}{xs ys:List α}(hr:dO β H F E A xs)(hs:dO β H F E B ys)(hw:want ops Γ o=some true)
  (ho:o.op= .call {callee:= .builtin .append,args:= #[x,y],argTypes:= #[t,t]}) (hd:o.dst=some d) (hn:C0 d n=true) (hu:P.underlying t=some (.slice e)) (hi:P.info? e=some i) (hz:i.zero=some z) (hsize:i.size=E.size) (hby:i.bytes=by_) (hzs:z.cells.size=E.size)
  (hx:Γ.ev x=some (.slice A m m)) (hm:m=xs.length) (hy:Γ.ev y=some (.slice B q c)) (hq:q=ys.length) (h0:0<ys.length) (hbytes:(xs.length+ys.length)*by_<=140737488355328) (hpos:0<by_)
  (k: ∀A' cap',At β n ((d,.slice A' (xs++ys).length cap')::Γ) (E.row (.slice A' (xs++ys).length cap') e (xs++ys)::H) F (wpList P ops Q rest)):At β n Γ H F (wpList P ops Q (o::rest)):=by
 subst hm hq;refine cG (t:=e) E ?_;refine fV hw λa w S f s I=>?_;have M:xs.length+ys.length<=(xs.length+ys.length)*by_:=Nat.le_mul_of_pos_right _ hpos
 have u:xs.length+ys.length<=maxLen:=by
  simp only[maxLen];omega
 have K:St β H S w:=s.tail;obtain⟨b,j,rfl,hb⟩:=hs.cells K I h0;have p:=nextslicecap_le (need:=xs.length+ys.length) (old:=xs.length) k9
 have r:Builtin.nextslicecap (xs.length+ys.length) xs.length*i.bytes<=281474976710656:=by
  have:=Nat.mul_le_mul_right i.bytes p;rw[hby]at this⊢;rw[Nat.mul_assoc]at this;omega
 have D:=bIj (P:=P) hr K I xs.length hsize;have l:=run_append_grow_src (P:=P) w t t o.type e i z hu hi hz A xs.length xs.length (E.all xs) D (.slice (some ⟨b,j,none⟩) ys.length c) ys.length (E.all ys)
  (Src.ofSlice w hu ⟨b,j,none⟩ ys.length c (E.all ys) (by rw[E.all_length,hsize]) hb E.all_one) k9 (by simp only[maxLen]at u;omega) r
 have v:(execOp a.eval o).run P w= .ok (.value (.slice (some ⟨w.heap.size,0,none⟩) (xs.length+ys.length) (grownCap w (xs.length+ys.length) xs.length e)))
   (w.drew.alloc (.cells ((E.all xs++E.all ys).toArray++Builtin.zeroCells z.cells (grownCap w (xs.length+ys.length) xs.length e-(xs.length+ys.length))) e)):=by
  unfold execOp;simp only[ho,resolve,invoke,builtin,E6,E7,E8,List.map_toArray,List.map_cons,List.map_nil,f.ev hx,f.ev hy,l]
 have g:E.all xs++E.all ys=E.all (xs++ys):=by simp[Flat.all]
 have C:=grownCap_ge w (xs.length+ys.length) xs.length e;have G:=grownCap_le_maxLen w (xs.length+ys.length) xs.length e u;unfold F4;rw[v,F5,hd];have L:=k (some ⟨w.heap.size,0,none⟩) (grownCap w (xs.length+ys.length) xs.length e);rw[E0]at L;refine L _ _ S (f.put m9 _) ?_ ?_
 .refine s.swap_row (v':= .slice (some ⟨w.heap.size,0,none⟩) (xs.length+ys.length) (grownCap w (xs.length+ys.length) xs.length e)) (sQ ⟨rfl,rfl,rfl,n4,λk N _=>heap_alloc_old w.drew _ N⟩) (.inr rfl) ?_;show World.ownsRow _ 0 e E.size _ (xs++ys).length (E.all (xs++ys));rw[E0];refine⟨by rw[E.all_length,E0],.inr ⟨w.heap.size,_,_,rfl,Nat.zero_le _,heap_alloc_new w.drew _,C,G,?_,?_⟩⟩
  .have J:(E.all xs++E.all ys).length=(xs.length+ys.length)*E.size:=by rw[g,E.all_length,E0]
   simp only[Array.size_append,K4,size_zeroCells,hzs,J,<-Nat.add_mul]
   congr 1
   omega
  .have J:(E.all (xs++ys)).length=(xs.length+ys.length)*E.size:=by rw[E.all_length,E0]
   simp only[Array.toList_append];rw[g,<-J];exact List.take_left
 .exact All.mono (w:=w) (λ_ h=>h) (λb hb=>heap_alloc_old w.drew _ (s.zone b hb).1) I
end
end
section
open Go.RowKit Go.ChangeShapes Go.WideShapes Go.Proofs.Tryz
structure tN where
 sides:(Sl Int)
 data:(Sl Int)
 deriving Inhabited
def arrE:Flat tN where
 size:=2
 cells:=λx=>[.slice x.sides.addr x.sides.list.length x.sides.cap,.slice x.data.addr x.data.list.length x.data.cap]
 len:=λ_=>rfl
 one:=λx u hu=>by
  simp at hu
  rcases hu with rfl|rfl<;>rfl
 pos:=l5
structure cA where
 op:Int
 a:Int
 b:Int
 c:Int
 imm:Int
 deriving Inhabited
def lO:Flat cA where
 size:=5
 cells:=λx=>[.int .u8 x.op,.int .u8 x.a,.int .u8 x.b,.int .u8 x.c,.int .i32 x.imm]
 len:=λ_=>rfl
 one:=λx u hu=>by
  simp at hu
  rcases hu with rfl|rfl|rfl|rfl|rfl<;>rfl
 pos:=l5
structure PcV where
 mark:Int
 ins:cA
 to_:Int
 deriving Inhabited
def pcE:Flat PcV where
 size:=7
 cells:=λx=>[.int .i64 x.mark,.int .u8 x.ins.op,.int .u8 x.ins.a,.int .u8 x.ins.b,.int .u8 x.ins.c,.int .i32 x.ins.imm,.int .i64 x.to_]
 len:=λ_=>rfl
 one:=λx u hu=>by
  simp at hu
  rcases hu with rfl|rfl|rfl|rfl|rfl|rfl|rfl<;>rfl
 pos:=l5
structure MkV where
 l:(Sl PcV)
 marks:Nat
 next:Nat
 fail:Nat
 frame:Int
 core:gD
 dims:(Sl Int)
 at_:(Sl Int)
 size:(Sl Int)
 deriving Inhabited
structure MadeV where
 code:(Sl cA)
 mem:Int
 at_:(Sl Int)
 deriving Inhabited
def runT:Tab:=[(3,⟨.int .i64,1⟩),(2,⟨.int .i64,1⟩),(5,⟨.int .u8,1⟩),(4,⟨.bool,1⟩),(77,⟨.int .u8,1⟩),(32,⟨.int .i64,1⟩),(43,⟨.slice 111,1⟩),(42,⟨.slice 43,1⟩),(172,⟨.struct [(3,0),(3,1),(2,2),(43,3),(77,4)],5⟩),(78,⟨.slice 172,1⟩),(95,⟨.struct [(42,0),(3,1)],2⟩),(22,⟨.slice 95,1⟩),(80,⟨.struct [(3,0),(3,1),(43,2),(42,3),(77,4),(78,5)],6⟩),(23,⟨.slice 80,1⟩),(24,⟨.slice 3,1⟩),(99,⟨.slice 4,1⟩),(26,⟨.struct [(3,0),(22,1),(23,2),(24,3)],4⟩),(201,⟨.struct [(3,0),(3,1),(3,2),(99,3)],4⟩),(27,⟨.slice 2,1⟩),(75,⟨.struct [(27,0),(27,1)],2⟩),(37,⟨.slice 75,1⟩),(21,⟨.int .i32,1⟩),(52,⟨.struct [(5,0),(5,1),(5,2),(5,3),(21,4)],5⟩),(184,⟨.struct [(3,0),(52,1),(3,6)],7⟩),(29,⟨.slice 52,1⟩),(83,⟨.slice 184,1⟩),(85,⟨.struct [(83,0),(3,1),(3,2),(3,3),(2,4),(26,5),(27,9),(27,10),(27,11)],12⟩),(45,⟨.struct [(42,0),(43,1)],2⟩),(31,⟨.struct [(29,0),(3,1),(27,2)],3⟩),(198,⟨.array 64 4,64⟩),(111,⟨.struct [(2,0),(109,1)],7⟩),(109,⟨.array 6 5,6⟩),(290,⟨.slice 5,1⟩),(224,⟨.int .u64,1⟩),(199,⟨.other,1⟩),(274,⟨.other,1⟩),(126,⟨.other,1⟩),(261,⟨.int .u64,1⟩),(225,⟨.int .u32,1⟩),(9,⟨.string,1⟩),(82,⟨.other,1⟩),(185,⟨.map 3 3,1⟩)]
theorem cO:dU prog runT:=tA.ok
 ⟨⟨by rw[underlying3];rfl,l4⟩,
  ⟨by rw[underlying2];rfl,l4⟩,
  ⟨by rw[underlying5];rfl,l4⟩,
  ⟨by rw[underlying4];rfl,l4⟩,
  ⟨by rw[underlying77];rfl,l4⟩,
  ⟨by rw[underlying32];rfl,l4⟩,
  ⟨by rw[underlying43];rfl,l4⟩,
  ⟨by rw[underlying42];rfl,l4⟩,
  ⟨by rw[underlying172];rfl,l4⟩,
  ⟨by rw[underlying78];rfl,l4⟩,
  ⟨by rw[underlying95];rfl,l4⟩,
  ⟨by rw[underlying22];rfl,l4⟩,
  ⟨by rw[underlying80];rfl,l4⟩,
  ⟨by rw[underlying23];rfl,l4⟩,
  ⟨by rw[underlying24];rfl,l4⟩,
  ⟨by rw[underlying99];rfl,l4⟩,
  ⟨by rw[underlying26];rfl,l4⟩,
  ⟨by rw[underlying201];rfl,l4⟩,
  ⟨by rw[underlying27];rfl,l4⟩,
  ⟨by rw[underlying75];rfl,l4⟩,
  ⟨by rw[underlying37];rfl,l4⟩,
  ⟨by rw[underlying21];rfl,l4⟩,
  ⟨by rw[underlying52];rfl,l4⟩,
  ⟨by rw[underlying184];rfl,l4⟩,
  ⟨by rw[underlying29];rfl,l4⟩,
  ⟨by rw[underlying83];rfl,l4⟩,
  ⟨by rw[underlying85];rfl,l4⟩,
  ⟨by rw[underlying45];rfl,l4⟩,
  ⟨by rw[underlying31];rfl,l4⟩,
  ⟨by rw[underlying198];rfl,l4⟩,
  ⟨by rw[underlying111];rfl,l4⟩,
  ⟨by rw[underlying109];rfl,l4⟩,
  ⟨by rw[underlying290];rfl,l4⟩,
  ⟨by rw[underlying224];rfl,l4⟩,
  ⟨by rw[underlying199];rfl,l4⟩,
  ⟨by rw[underlying274];rfl,l4⟩,
  ⟨by rw[underlying126];rfl,l4⟩,
  ⟨by rw[underlying261];rfl,l4⟩,
  ⟨by rw[underlying225];rfl,l4⟩,
  ⟨by rw[underlying9];rfl,l4⟩,
  ⟨by rw[underlying82];rfl,l4⟩,
  ⟨by rw[underlying185];rfl,l4⟩,e8⟩
theorem insInfo: ∃i:TypeInfo,prog.info? 52=some i/\i.zero=some (.agg #[j6 0,j6 0,j6 0,j6 0,.int .i32 0])/\i.size=5/\i.bytes=8:=by
 have h:(prog.info? 52).map (λi=>(i.zero,i.size,i.bytes))=some (some (.agg #[.int .u8 0,.int .u8 0,.int .u8 0,.int .u8 0,.int .i32 0]),5,8):=l4
 cases a:prog.info? 52 with
 |none=>simp[a]at h
 |some i=>simp[a]at h;exact⟨i,rfl,h.1,h.2.1,h.2.2⟩
theorem pcInfo: ∃i:TypeInfo,prog.info? 184=some i/\i.zero=some (.agg #[j5 0,j6 0,j6 0,j6 0,j6 0,.int .i32 0,j5 0])/\i.size=7/\i.bytes=24:=by
 have h:(prog.info? 184).map (λi=>(i.zero,i.size,i.bytes))=some (some (.agg #[.int .i64 0,.int .u8 0,.int .u8 0,.int .u8 0,.int .u8 0,.int .i32 0,.int .i64 0]),7,24):=l4
 cases a:prog.info? 184 with
 |none=>simp[a]at h
 |some i=>simp[a]at h;exact⟨i,rfl,h.1,h.2.1,h.2.2⟩
theorem bGi{β:dE}{n:Nat}{Γ:Env}{H:List bC}{F:List bE}{Q:Exit->Act->World->Prop}{ops:Array Oper}{rest:List Oper}{o:Oper}{d:Nat}{x:Operand}{m:PcV}(hw:want ops Γ o=some true)(ho:o.op= .buildSlice 83 1 #[(0,x)])(hd:o.dst=some d)(hn:C0 d n=true)
  (hx:Γ.ev x=some (.agg #[j5 m.mark,j6 m.ins.op,j6 m.ins.a,j6 m.ins.b,j6 m.ins.c,.int .i32 m.ins.imm,j5 m.to_])) (k: ∀b,At β n ((d,.slice (some ⟨b,0,none⟩) 1 1)::Γ) (.obj b (.cells (pcE.all [m]).toArray 184)::H) F (wpList prog ops Q rest)):At β n Γ H F (wpList prog ops Q (o::rest)):=by
 obtain⟨i,f,hz,e,_⟩:=pcInfo;refine pR hw ho hd hn hx underlying83 f hz k9 k9 ?_ k;rw[e]
 kernel_rfl
theorem bGs{β:dE}{n:Nat}{Γ:Env}{H:List bC}{F:List bE}{Q:Exit->Act->World->Prop}{ops:Array Oper}{rest:List Oper}{o:Oper}{d:Nat}{x y:Operand}{c q:Nat}{v:Value}{A:Option Addr}{xs ys:List PcV}{H':List bC}(hH:bU H (pcE.row v 184 xs) H')(hr:dO β H F pcE A ys)(hg:o.guard=none)
  (ho:o.op= .call {callee:= .builtin .append,args:= #[x,y],argTypes:= #[83,83]}) (hd:o.dst=some d) (hn:C0 d n=true)
  (hx:Γ.ev x=some v) (hy:Γ.ev y=some (.slice A q c)) (hq:q=ys.length) (hl:xs.length+ys.length<=5864062014805)
  (k: ∀A' cap',At β n ((d,.slice A' (xs++ys).length cap')::Γ) (pcE.row (.slice A' (xs++ys).length cap') 184 (xs++ys)::H') F (wpList prog ops Q rest)):At β n Γ H F (wpList prog ops Q (o::rest)):=by
 obtain⟨i,b,hz,a,hb⟩:=pcInfo;exact jW hH hr hg ho hd hn underlying83 b hz a hb rfl hx hy hq k9 l5 k
def tN.arr(x:tN):Arr:=⟨x.sides.list,x.data.list⟩
def bRf (x:tN):bE:=(bIx x.sides).and (bIx x.data)
theorem arrF_s{F:List bE}{x:tN}(h:Has F (bRf x)):Has F (cK.sl (j0 x.sides) x.sides.list):=bFx h.left
theorem arrF_d{F:List bE}{x:tN}(h:Has F (bRf x)):Has F (cK.sl (j0 x.data) x.data.list):=bFx h.right
theorem arrF_sz{F:List bE}{x:tN}(h:Has F (bRf x)):Has F (bE.pure (x.sides.list.length<=17592186044416/\x.data.list.length<=17592186044416)):=λS w k=>by
 have h1:x.sides.list.length<=x.sides.cap/\x.sides.list.length*8<=140737488355328:=h.left.right S w k;have a:x.data.list.length<=x.data.cap/\x.data.list.length*8<=140737488355328:=h.right.right S w k;exact⟨k9,k9⟩
end
section
open Go.RowKit Go.Proofs.Tryz
def w32 (z:Int):Int:=(z+2147483648)%4294967296-2147483648
def hasN (op:Int):List UInt8×List UInt8:=
 if op=0 then ([104,97,108,116],[])else if op=1 then ([102,97,105,108],[105])else if op=7 then ([106,117,109,112],[105])else if op=2 then ([99,111,110,115,116],[97,105])
 else if op=3 then ([104,105,103,104],[97,105])else if op=9 then ([122,101,114,111],[97,105])else if op=4 then ([99,111,112,121],[97,98])else if op=5 then ([108,111,97,100],[97,98,105])
 else if op=6 then ([115,116,111,114,101],[97,98,105])else if op=8 then ([108,101,115,115],[97,98,105])else if op=10 then ([97,100,100],[97,98,105])
 else if 128<=op/\nG ((op-128)%256) true=true then ([116,119,111],[110,97,98,99])else if (64<=op/\op<128)/\nG ((op-64)%256) false=true then ([111,110,101],[110,97,98])else ([],[])
def bDw (i:cA)(c:UInt8):cA:=if c=97 then ⟨i.op,0,i.b,i.c,i.imm⟩else if c=98 then ⟨i.op,i.a,0,i.c,i.imm⟩else if c=99 then ⟨i.op,i.a,i.b,0,i.imm⟩else if c=105 then ⟨i.op,i.a,i.b,i.c,0⟩else i
def uR (i:cA):List UInt8->cA
 |[]=>i
 |c::r=>uR (bDw i c) r
def insEqB(x y:cA):Bool:=(x.op==y.op)&&((x.a==y.a)&&((x.b==y.b)&&((x.c==y.c)&&(x.imm==y.imm))))
def gW (i:cA):Bool:=if (hasN i.op).1=[]\/16<=i.a\/16<=i.b\/16<=i.c then false else insEqB (uR i (hasN i.op).2) ⟨i.op,0,0,0,0⟩
def xC (i:cA):Bool:=decide (i.op=7\/i.op=8\/i.op=9)
def gS (p:PcV):Bool:=if p.mark<0\/p.to_<0\/gW p.ins=false then false else decide (p.to_=0) || (xC p.ins&&decide (p.ins.imm=0))
abbrev mK:=List (Int×Int)
def gX (k:Int):mK->Option Int
 |[]=>none
 |p::r=>if k==p.1 then some p.2 else gX k r
def bIc (k z:Int):mK->mK
 |[]=>[(k,z)]
 |p::r=>if k==p.1 then (k,z)::r else p::bIc k z r
def delK (k:Int):mK->mK
 |[]=>[]
 |p::r=>if k==p.1 then r else p::delK k r
def marksGo:List PcV->Nat->mK->Except (Nat×Int) mK
 |[],_,m=> .ok m
 |p::r,i,m=>if gS p=false then .error (i,170)else match gX p.mark m with
  |some _=> .error (i,171)
  |none=>marksGo r (i+1) (delK 0 (bIc p.mark (i:Int) m))
def placeGoL(m:mK):List PcV->Nat->List cA->Except (Nat×Int) (List cA)
 |[],_,out=> .ok out
 |p::r,i,out=>if p.to_=0 then placeGoL m r (i+1) (out++[p.ins])else match gX p.to_ m with
  |none=> .error (i,172)
  |some k=>placeGoL m r (i+1) (out++[{p.ins with imm:=w32 k}])
def qY (l:List PcV):Except (Nat×Int) (List cA):=if 32768<l.length then .error (0,173)else match marksGo l 0 []with
 |.error e=> .error e
 |.ok m=>placeGoL m l 0 []
def bSm (l:List PcV):Int×Int:=match qY l with
 |.error e=>((e.1:Nat),e.2)
 |.ok _=>(0,0)
def mD (l:List PcV):List cA:=match qY l with
 |.ok o=>o
 |.error _=>[]
structure GnS where
 l:List PcV
 marks:Nat
 next:Nat
 deriving Inhabited
structure GnM where
 fail:Nat
 frame:Int
 dims:List Int
 at_:List Int
 size:List Int
def dL (i:cA)(dst:Nat)(s:GnS):GnS:=⟨s.l++[⟨(s.next:Nat),i,(dst:Nat)⟩],s.marks,0⟩
def markG (s:GnS):GnS:=⟨s.l,s.marks+1,s.next⟩
def xZ (k:Nat)(s:GnS):GnS:=⟨s.l,s.marks,k⟩
def hereG (k:Nat)(s:GnS):GnS:=xZ k (if 0<s.next then dL ⟨4,0,0,0,0⟩ 0 s else s)
def mJ (dst:Nat)(s:GnS):GnS:=dL ⟨7,0,0,0,0⟩ dst s
def pL (a b:Int)(dst:Nat)(s:GnS):GnS:=dL ⟨8,a,b,0,0⟩ dst s
def rL (a b:Int)(s:GnS):GnS:=dL ⟨4,a,b,0,0⟩ 0 s
def numG (a n:Int)(s:GnS):GnS:=if w32 n=n then dL ⟨2,a,0,0,w32 n⟩ 0 s else dL ⟨3,a,0,0,w32 n⟩ 0 (dL ⟨2,a,0,0,w32 (n/4294967296)⟩ 0 s)
def bBs (fr:Int)(k:Nat):Int:=w32 (w32 fr+w32 ((k:Int)-6))
def gG (k:Nat)(spare:Int):Int:=if k<6 then ((8+k:Nat):Int)else spare
def kT (fr:Int)(k:Nat)(spare:Int)(s:GnS):GnS:=if k<6 then s else dL ⟨5,spare,0,0,bBs fr k⟩ 0 s
def jU (fr:Int)(k:Nat)(into:Int->GnS->GnS)(s:GnS):GnS:=if k<6 then into ((8+k:Nat):Int) s else dL ⟨6,14,0,0,bBs fr k⟩ 0 (into 14 s)
def jS (fail:Nat)(a n:Int)(s:GnS):GnS:=hereG (s.marks+1) (mJ fail (pL a 6 (s.marks+1) (numG 6 n (markG s))))
def iO (how:Int)(n:Nat):Nat:=if how=5 then n else if how=6 then n-1 else if how=4 then n else n+1
def u8m (z:Int):Int:=z%256
def oB (ds:List Int)(p:List Mono):Int:=if (bD p ds).2=0 then (bD p ds).1 else 0
def opG (M:GnM)(o:OpC)(n:Nat)(s:GnS):GnS:=
 if o.how=1 then jU M.frame n (λa=>numG a o.n) s
 else if o.how=2 then jU M.frame n (λa=>numG a (oB M.dims o.p)) (if (bD o.p M.dims).2=0 then s else mJ M.fail s)
 else if o.how=3 then jU M.frame n (λa=>rL a (u8m (1+o.k))) s
 else if o.how=4 then jU M.frame (n-1) (λa=>dL ⟨5,a,gG (n-1) 14,0,w32 (M.at_.getD o.k.toNat 0)⟩ 0) (jS M.fail (gG (n-1) 14) (M.size.getD o.k.toNat 0) (pL (gG (n-1) 14) 0 M.fail (kT M.frame (n-1) 14 s)))
 else if o.how=5 then jU M.frame (n-1) (λa=>dL ⟨u8m (64+o.fn),a,gG (n-1) 14,0,0⟩ 0) (kT M.frame (n-1) 14 s)
 else if o.how=6 then jU M.frame (n-2) (λa=>dL ⟨u8m (128+o.fn),a,gG (n-2) 14,gG (n-1) 15,0⟩ 0) (kT M.frame (n-1) 15 (kT M.frame (n-2) 14 s))
 else s
def opsG (M:GnM):List OpC->Nat->GnS->GnS
 |[],_,s=>s
 |o::r,n,s=>opsG M r (iO o.how n) (opG M o n s)
def foldG (f index:Int)(s:GnS):GnS:=hereG (s.marks+2) (rL 7 8 (hereG (s.marks+1) (mJ (s.marks+2) (dL ⟨u8m (128+f),7,7,8,0⟩ 0 (dL ⟨9,index,0,0,0⟩ (s.marks+1) (markG (markG s)))))))
def againG(index n:Int)(dst:Nat)(s:GnS):GnS:=pL index 6 dst (numG 6 n (dL ⟨10,index,index,0,1⟩ 0 s))
def storeG(M:GnM)(x:bX)(a:Int)(s:GnS):GnS:=
 if (bD x.at_ M.dims).2≠0\/M.size.getD x.buf.toNat 0<=(bD x.at_ M.dims).1 then mJ M.fail s
 else dL ⟨10,5,5,0,1⟩ 0 (dL ⟨6,a,5,0,w32 (M.at_.getD x.buf.toNat 0+(bD x.at_ M.dims).1)⟩ 0 (jS M.fail 5 (M.size.getD x.buf.toNat 0-(bD x.at_ M.dims).1) s))
def zerosG:Nat->Nat->GnS->GnS
 |0,_,s=>s
 |n+1,k,s=>zerosG n (k+1) (numG ((1+k:Nat):Int) 0 s)
def endsG (outer:List Int)(top:Nat):Nat->GnS->GnS
 |0,s=>s
 |k+1,s=>endsG outer top k (numG ((1+k:Nat):Int) 0 (againG ((1+k:Nat):Int) (outer.getD k 0) top s))
def nE (M:GnM)(x:bX)(loops:List Int)(s:GnS):GnS:=
 if x.how=1 then storeG M x 8 (opsG M x.ops 0 s)
 else if x.how=3 then storeG M x 7 (foldG x.fn (loops.length:Nat) (opsG M x.ops 0 s))
 else if loops.getLastD 0=0 then storeG M x 7 (numG 7 (unitW x.fn).1 s)
 else
  let s1:=markG (numG (loops.length:Nat) 0 s)
  storeG M x 7 (againG (loops.length:Nat) (loops.getLastD 0) s1.marks (foldG x.fn (loops.length:Nat) (opsG M x.ops 0 (hereG s1.marks s1))))
def fX (x:bX)(loops:List Int):List Int:=if x.how=2 then loops.dropLast else loops
def lB (M:GnM)(x:bX)(s:GnS):GnS:=
 let loops:=x.loops.map λp=>(bD p M.dims).1
 let outer:=fX x loops
 if outer.contains 0=true then s
 else
  let s1:=markG (zerosG outer.length 0 (numG 5 0 s))
  endsG outer s1.marks outer.length (nE M x loops (hereG s1.marks s1))
def stepsG(M:GnM):List bX->GnS->GnS
 |[],s=>s
 |x::r,s=>stepsG M r (lB M x s)
def turnG (fold:Bool)(dims:List Int):List (List Mono)->Int->Option Int
 |[],n=>some n
 |p::r,n=>if (bD p dims).2≠0\/65536<(bD p dims).1 then none
  else turnG fold dims r (if (if fold=true/\r=[]then (bD p dims).1+1 else (bD p dims).1)=0 then 0 else min (n*(if fold=true/\r=[]then (bD p dims).1+1 else (bD p dims).1)) 4194304)
def turnsG(dims:List Int):List bX->Int->Bool
 |[],_=>true
 |x::r,all=>match turnG (x.how==2) dims x.loops (x.ops.length:Nat)with
  |none=>false
  |some n=>if 2097152<all+n then false else turnsG dims r (all+n)
def opsCount(c:dA):Nat:=(c.steps.map (·.ops.length)).sum
def deepGo:List bX->Int->Int
 |[],d=>d
 |x::r,d=>deepGo r (max d (pU x.ops-6))
structure GnB (n:Nat) (s:GnS):Prop where
 l:s.l.length<=n
 m:s.marks<=n
 x:s.next<=n
section
variable {n n' k : Nat} {s : GnS}
theorem GnB.le(h:GnB n s)(k:n<=n'):GnB n' s:=⟨B9 h.l k,B9 h.m k,B9 h.x k⟩
theorem fO{i:cA}{dst:Nat}(h:GnB n s):GnB (n+1) (dL i dst s):=⟨by have:=h.l;simp[dL];omega,by have:=h.m;show s.marks<=_;omega,Nat.zero_le _⟩
theorem nO(h:GnB n s):GnB (n+1) (markG s):=⟨by have:=h.l;show s.l.length<=_;omega,by have:=h.m;show s.marks+1<=_;omega,by have:=h.x;show s.next<=_;omega⟩
theorem gb_next(h:GnB n s)(hk:k<=n):GnB n (xZ k s):=⟨h.l,h.m,hk⟩
theorem nQ(h:GnB n s)(hk:k<=n+1):GnB (n+1) (hereG k s):=by
 unfold hereG;refine gb_next ?_ hk;split
 .exact fO h
 .exact h.le k9
theorem sA{dst:Nat}(h:GnB n s):GnB (n+1) (mJ dst s):=fO h
theorem zX{a b:Int}{dst:Nat}(h:GnB n s):GnB (n+1) (pL a b dst s):=fO h
theorem bLn{a b:Int}(h:GnB n s):GnB (n+1) (rL a b s):=fO h
theorem jM{a z:Int}(h:GnB n s):GnB (n+2) (numG a z s):=by
 unfold numG;split
 .exact(fO h).le k9
 .exact fO (fO h)
theorem iI{fr sp:Int}(h:GnB n s):GnB (n+1) (kT fr k sp s):=by
 unfold kT;split
 .exact h.le k9
 .exact fO h
def IntoB (I:Int->GnS->GnS):Prop:= ∀(a:Int) (n:Nat) (s:GnS),GnB n s->GnB (n+2) (I a s)
theorem pT{fr:Int}{I:Int->GnS->GnS}(hI:IntoB I)(h:GnB n s):GnB (n+3) (jU fr k I s):=by
 unfold jU;split
 .exact(hI _ _ _ h).le k9
 .exact fO (hI _ _ _ h)
theorem bAk{f:Nat}{a z:Int}(h:GnB n s):GnB (n+6) (jS f a z s):=by
 have:=h.m;exact nQ (sA (zX (jM (nO h)))) k9
theorem rA{z:Int}:IntoB λa=>numG a z:=λ_ _ _ h=>jM h
theorem bIh{z:Int}:IntoB λa=>rL a z:=λ_ _ _ h=>(bLn h).le k9
theorem pG{I:Int->cA}:IntoB λa=>dL (I a) 0:=λ_ _ _ h=>(fO h).le k9
theorem gb_op{M:GnM}{o:OpC}(h:GnB n s):GnB (n+12) (opG M o k s):=by
 unfold opG;split
 .exact(pT rA h).le k9
 .split
  .refine(pT (n:=n+1) rA ?_).le k9;split
   .exact h.le k9
   .exact sA h
  .split
   .exact(pT bIh h).le k9
   .split
    .exact(pT (n:=n+8) pG ((bAk (zX (iI h))).le k9)).le k9
    .split
     .exact(pT pG (iI h)).le k9
     .split
      .exact(pT pG (iI (iI h))).le k9
      .exact h.le k9
theorem bDc{M:GnM}: ∀{l:List OpC} {n k:Nat} {s:GnS},GnB n s->GnB (n+12*l.length) (opsG M l k s)
 |[],_,_,_,h=>h
 |o::r,n,k,s,h=>(bDc (gb_op h)).le (by rw[List.length_cons];omega)
theorem bLi{f i:Int}(h:GnB n s):GnB (n+8) (foldG f i s):=by
 have:=h.m;exact(nQ (bLn (nQ (sA (fO (fO (nO (nO h))))) k9)) k9).le k9
theorem tG{i z:Int}{dst:Nat}(h:GnB n s):GnB (n+4) (againG i z dst s):=zX (jM (fO h))
theorem qP{M:GnM}{x:bX}{a:Int}(h:GnB n s):GnB (n+8) (storeG M x a s):=by
 unfold storeG;split
 .exact(sA h).le k9
 .exact fO (fO (bAk h))
theorem gb_zeros: ∀{m k n:Nat} {s:GnS},GnB n s->GnB (n+2*m) (zerosG m k s)
 |0,_,_,_,h=>h
 |m+1,k,n,s,h=>(gb_zeros (jM h)).le k9
theorem gb_ends{o:List Int}{t:Nat}: ∀{m n:Nat} {s:GnS},GnB n s->GnB (n+6*m) (endsG o t m s)
 |0,_,_,h=>h
 |m+1,n,s,h=>(gb_ends (jM (tG h))).le k9
theorem gb_body{M:GnM}{x:bX}{lo:List Int}(h:GnB n s):GnB (n+24+12*x.ops.length) (nE M x lo s):=by
 unfold nE;split
 .exact(qP (bDc h)).le k9
 .split
  .exact(qP (bLi (bDc h))).le k9
  .split
   .exact(qP (jM h)).le k9
   .have h1:=nO (jM (a:=(lo.length:Nat)) (z:=0) h);exact(qP (tG (bLi (bDc (nQ h1 (by have:=h1.m;omega)))))).le k9
theorem gb_step{M:GnM}{x:bX}(hl:x.loops.length<=4)(h:GnB n s):GnB (n+60+12*x.ops.length) (lB M x s):=by
 unfold lB;dsimp only;split
 .exact h.le k9
 .have h1:=nO (gb_zeros (m:=(fX x (x.loops.map λp=>(bD p M.dims).1)).length) (k:=0) (jM (a:=5) (z:=0) h))
  have ho:(fX x (x.loops.map λp=>(bD p M.dims).1)).length<=4:=by
   unfold fX;split
   .simp;omega
   .simp;omega
  exact(gb_ends (gb_body (nQ h1 (by have:=h1.m;omega)))).le k9
end
theorem lF(z:Int):IntKind.i32.wrap z=w32 z:=by
 unfold w32;simp only[G3,G4,G5];simp;omega
theorem pF(z:Int):IntKind.u8.wrap z=u8m z:=by
 unfold u8m;simp only[G3,G4,G5];simp
theorem w32_in(z:Int): -2147483648<=w32 z/\w32 z<2147483648:=by unfold w32;omega
theorem w32_u(z:Int):IntKind.i32.wrap (IntKind.u32.wrap (IntKind.u64.wrap z))=w32 z:=by
 unfold w32;simp only[G3,G4,G5];simp;omega
theorem gH{z:Int}{k:Nat}(h:z=(k:Nat))(hk:k<256):IntKind.u8.wrap z=(k:Nat):=by
 subst h;rw[pF];unfold u8m;omega
section
variable {P : Program} {β : dE} {n : Nat} {Γ : Env} {H : List bC} {F : List bE} {o : Oper}
theorem sti_shr32{t tt:TypeId}{x y:Operand}{k k':IntKind}{a:Int}(ho:o.op= .binOp .shr t x y tt)(hx:Γ.ev x=some (.int k a))(hy:Γ.ev y=some (.int k' 32))(hk:32<=k.bits):Sti P β n Γ H F o (.int k (a.fdiv 4294967296)):=λc w S f s _=>by
 unfold execOp;simp only[ho,f.ev hx,f.ev hy];have e:min 32 k.bits=32:=k9
 simp[eqGuard,binOp,Op.shift,e]
end
theorem high_num(z:Int):IntKind.i32.wrap (z.fdiv 4294967296)=w32 (z/4294967296):=by
 rw[lF,Int.fdiv_eq_ediv_of_nonneg _ k9]
def MkV.st(m:MkV)(a:Option Addr×Nat)(s:GnS):MkV:=⟨⟨a.1,a.2,s.l⟩,s.marks,s.next,m.fail,m.frame,m.core,m.dims,m.at_,m.size⟩
def mkO (mb:Nat)(x:MkV):bC:= .obj mb (.cells ([.slice x.l.addr x.l.list.length x.l.cap,.int .i64 (x.marks:Nat),.int .i64 (x.next:Nat),.int .i64 (x.fail:Nat),.int .i64 x.frame,.int .i64 x.core.vars,.slice x.core.bufs.addr x.core.bufs.list.length x.core.bufs.cap,.slice x.core.steps.addr x.core.steps.list.length x.core.steps.cap,.slice x.core.outs.addr x.core.outs.list.length x.core.outs.cap,.slice x.dims.addr x.dims.list.length x.dims.cap,.slice x.at_.addr x.at_.list.length x.at_.cap,.slice x.size.addr x.size.list.length x.size.cap]:List Value).toArray 85)
def mkS (x:MkV):bC:=pcE.row (.slice x.l.addr x.l.list.length x.l.cap) 184 x.l.list
def MkV.M (m:MkV):GnM:=⟨m.fail,m.frame,m.dims.list,m.at_.list,m.size.list⟩
section
variable {P : Program} {ops : Array Oper} {md : Region.Mode} {C : World -> Prop} {Q : Exit -> Act -> World -> Prop} {R : List PanicEntry -> World -> Prop}
def NmP (R:List PanicEntry->World->Prop)(K:Act->World->Prop):Exit->Act->World->Prop:=λe a w=>(e= .normal/\K a w)\/ ∃ch,e= .panic ch/\R ch w
theorem NmP.out{K:Act->World->Prop}(h:LetsOut (NmP R K)):False:=by
 obtain⟨_,_,h⟩:=h
 rcases h with ⟨h,_⟩|⟨_,h,_⟩<;>cases h
theorem NmP.nm{K:Act->World->Prop}{a:Act}{w:World}(h:NmP R K .normal a w):K a w:=by
 rcases h with h|⟨_,h,_⟩
 .exact h.2
 .cases h
end
theorem mZ(z0:Int)(v1_0 v1_1 v1_2 v1_3 v1_4:Value)(z2:Int):prog.built 184 [(0,j5 z0),(1,.agg #[v1_0,v1_1,v1_2,v1_3,v1_4]),(2,j5 z2)]=some #[j5 z0,v1_0,v1_1,v1_2,v1_3,v1_4,j5 z2]:=l4
theorem pM(z0:Int):prog.built 52 [(0,j6 z0)]=some #[j6 z0,j6 0,j6 0,j6 0,.int .i32 0]:=l4
theorem oC(z0:Int)(z1:Int)(z2:Int):prog.built 52 [(0,j6 z0),(1,j6 z1),(2,j6 z2)]=some #[j6 z0,j6 z1,j6 z2,j6 0,.int .i32 0]:=l4
theorem gY(z0:Int)(z1:Int)(z4:Int):prog.built 52 [(0,j6 z0),(1,j6 z1),(4,.int .i32 z4)]=some #[j6 z0,j6 z1,j6 0,j6 0,.int .i32 z4]:=l4
theorem fN(mb:Nat)(m:MkV)(a:Option Addr×Nat)(s:GnS)(hB:GnB 1000000 s)(i:cA)(dst:Nat):bZ prog 28 [.pointer (some ⟨mb,0,none⟩),.agg #[j6 i.op,j6 i.a,j6 i.b,j6 i.c,.int .i32 i.imm],j5 (dst:Nat)] [mkO mb (m.st a s),mkS (m.st a s)] [] (λ(_:Option Addr×Nat)=> .tuple #[]) (λ(x:Option Addr×Nat)=>[mkO mb (m.st x (dL i dst s)),mkS (m.st x (dL i dst s))]) (λ_=>[]):=by
 have hT:=cO;have g:=hB.l;have f:=hB.m;have e:=hB.x;refine i7 func28 ntmps28 ?_;intro β hM;refine g2 ?_;refine i6 λr=>?_;refine g3 ?_;refine at_mixT _ _ (.fl 0 (.fl 1 (.fl 2 (.fl 3 (.fl 5 (.fl 6 (.fl 7 (.fl 9 (.fl 10 (.two 4 8 (.op 8 (.fl 11 (.op 12 (.op 13 (.fl 14 (.fl 15 (.op 16 .nil))))))) (.fl 11 (.two 4 12 (.op 12 (.op 13 (.fl 14 (.fl 15 (.op 16 .nil))))) (.op 4 (.op 13 (.fl 14 (.fl 15 (.op 16 .nil))))))))))))))))) dJ l8 (.c0 .nil) bA.self ?_;refine g9 ?_;refine wC (o:=_) (o':=_) rfl rfl ?_ ?_
 .refine g5 ?_;refine sqT rfl (cC rfl rfl (mZ _ _ _ _ _ _ _)) ?_;refine one ?_;refine bGi (m:=(⟨(s.next:Nat),i,(dst:Nat)⟩:PcV)) rfl rfl rfl rfl rfl λq=>?_;refine g2 ?_;refine bGs kT3 (fZ .head rfl) rfl rfl rfl rfl rfl rfl rfl t6 λk c4=>?_;refine g14 ?_;exact cT (k,c4) rfl (.c0 (.c0 .nil)) e8 rfl
 refine g2 ?_;refine sqT rfl (cC rfl rfl (mZ _ _ _ _ _ _ _)) ?_;refine wC (o:=_) (o':=_) rfl rfl ?_ ?_
 .refine g3 ?_;refine bGi (m:=(⟨(s.next:Nat),i,(dst:Nat)⟩:PcV)) rfl rfl rfl rfl rfl λp=>?_;refine g2 ?_;refine bGs kT3 (fZ .head rfl) rfl rfl rfl rfl rfl rfl rfl t6 λj c7=>?_;refine g14 ?_;exact cT (j,c7) rfl (.c0 (.c0 .nil)) e8 rfl
 refine bGi (m:=(⟨(s.next:Nat),i,(dst:Nat)⟩:PcV)) rfl rfl rfl rfl rfl λn=>?_;refine g5 ?_;refine bGs kT3 (fZ .head rfl) rfl rfl rfl rfl rfl rfl rfl t6 λh d=>?_;refine g14 ?_;exact cT (h,d) rfl (.c0 (.c0 .nil)) e8 rfl
theorem pQ(mb:Nat)(m:MkV)(a:Option Addr×Nat)(s:GnS)(hB:GnB 1000000 s):bZ prog 25 [.pointer (some ⟨mb,0,none⟩)] [mkO mb (m.st a s),mkS (m.st a s)] [] (λ(_:Option Addr×Nat)=> j5 ((s.marks+1:Nat):Int)) (λ(x:Option Addr×Nat)=>[mkO mb (m.st x (markG s)),mkS (m.st x (markG s))]) (λ_=>[]):=by
 have hT:=cO;have d:=hB.l;have c:=hB.m;have b:=hB.x;refine i7 func25 ntmps25 ?_;intro β hM;refine g11 ?_;refine bF (z':=((s.marks:Nat):Int)) rfl ?_;refine one ?_;refine inc (s.marks+1) ?_;refine g11 ?_;refine bF (z':=((s.marks+1:Nat):Int)) rfl ?_;refine g4 ?_;exact rs1 a trivial
theorem pS(mb:Nat)(m:MkV)(a:Option Addr×Nat)(s:GnS)(hB:GnB 999900 s)(k:Nat):bZ prog 29 [.pointer (some ⟨mb,0,none⟩),j5 (k:Nat)] [mkO mb (m.st a s),mkS (m.st a s)] [] (λ(_:Option Addr×Nat)=> .tuple #[]) (λ(x:Option Addr×Nat)=>[mkO mb (m.st x (hereG k s)),mkS (m.st x (hereG k s))]) (λ_=>[]):=by
 have hT:=cO;have g:=hB.l;have f:=hB.m;have e:=hB.x;refine i7 func29 ntmps29 ?_;intro β hM;refine g10 ?_;refine fD (λb=>?_) λb=>?_
 .refine g2 ?_;refine ss (cC rfl rfl (pM _)) ?_;refine bG func28 (fN mb m a _ (hB.le k9) (⟨4,0,0,0,0⟩:cA) 0) rfl rfl (.c0 (.c0 .nil)) e8 λd=>?_;have j:=fO (i:=(⟨4,0,0,0,0⟩:cA)) (dst:=0) hB;refine g9 ?_;have c:hereG k s=xZ k (dL (⟨4,0,0,0,0⟩:cA) 0 (s)):=by unfold hereG;rw[if_pos (by have h:=b;change (0:Int)<(s.next:Nat)at h;omega)]
  rw[show(λx:Option Addr×Nat=>[mkO mb (m.st x (hereG k s)),mkS (m.st x (hereG k s))])=λx=>[mkO mb (m.st x (xZ k (dL (⟨4,0,0,0,0⟩:cA) 0 (s)))),mkS (m.st x (xZ k (dL (⟨4,0,0,0,0⟩:cA) 0 (s))))] by rw[c]];exact cT d rfl (.c0 (.c0 .nil)) e8 rfl
 refine g9 ?_;have c:hereG k s=xZ k (s):=by unfold hereG;rw[if_neg (by have h:=b;change ((s.next:Nat):Int)<=0 at h;omega)]
 rw[show(λx:Option Addr×Nat=>[mkO mb (m.st x (hereG k s)),mkS (m.st x (hereG k s))])=λx=>[mkO mb (m.st x (xZ k (s))),mkS (m.st x (xZ k (s)))] by rw[c]];exact cT a rfl (.c0 (.c0 .nil)) e8 rfl
theorem vL(mb:Nat)(m:MkV)(a:Option Addr×Nat)(s:GnS)(hB:GnB 999900 s)(dst:Nat):bZ prog 132 [.pointer (some ⟨mb,0,none⟩),j5 (dst:Nat)] [mkO mb (m.st a s),mkS (m.st a s)] [] (λ(_:Option Addr×Nat)=> .tuple #[]) (λ(x:Option Addr×Nat)=>[mkO mb (m.st x (mJ dst s)),mkS (m.st x (mJ dst s))]) (λ_=>[]):=by
 have hT:=cO;refine i7 func132 ntmps132 ?_;intro β hM;refine g2 ?_;refine ss (cC rfl rfl (pM _)) ?_;refine one ?_;refine bG func28 (fN mb m a _ (hB.le k9) (⟨7,0,0,0,0⟩:cA) dst) rfl rfl (.c0 (.c0 .nil)) e8 λb=>?_;have c:=fO (i:=(⟨7,0,0,0,0⟩:cA)) (dst:=dst) hB;refine jO ?_;exact cT b rfl (.c0 (.c0 .nil)) e8 rfl
theorem bIn(mb:Nat)(m:MkV)(a:Option Addr×Nat)(s:GnS)(hB:GnB 999900 s)(p q:Int)(dst:Nat):bZ prog 137 [.pointer (some ⟨mb,0,none⟩),j6 p,j6 q,j5 (dst:Nat)] [mkO mb (m.st a s),mkS (m.st a s)] [] (λ(_:Option Addr×Nat)=> .tuple #[]) (λ(x:Option Addr×Nat)=>[mkO mb (m.st x (pL p q dst s)),mkS (m.st x (pL p q dst s))]) (λ_=>[]):=by
 have hT:=cO;refine i7 func137 ntmps137 ?_;intro β hM;refine g4 ?_;refine ss (cC rfl rfl (oC _ _ _)) ?_;refine one ?_;refine bG func28 (fN mb m a _ (hB.le k9) (⟨8,p,q,0,0⟩:cA) dst) rfl rfl (.c0 (.c0 .nil)) e8 λb=>?_;have c:=fO (i:=(⟨8,p,q,0,0⟩:cA)) (dst:=dst) hB;refine jO ?_;exact cT b rfl (.c0 (.c0 .nil)) e8 rfl
theorem bOg(mb:Nat)(m:MkV)(a:Option Addr×Nat)(s:GnS)(hB:GnB 999900 s)(p q:Int):bZ prog 135 [.pointer (some ⟨mb,0,none⟩),j6 p,j6 q] [mkO mb (m.st a s),mkS (m.st a s)] [] (λ(_:Option Addr×Nat)=> .tuple #[]) (λ(x:Option Addr×Nat)=>[mkO mb (m.st x (rL p q s)),mkS (m.st x (rL p q s))]) (λ_=>[]):=by
 have hT:=cO;refine i7 func135 ntmps135 ?_;intro β hM;refine g4 ?_;refine ss (cC rfl rfl (oC _ _ _)) ?_;refine bG func28 (fN mb m a _ (hB.le k9) (⟨4,p,q,0,0⟩:cA) 0) rfl rfl (.c0 (.c0 .nil)) e8 λb=>?_;have c:=fO (i:=(⟨4,p,q,0,0⟩:cA)) (dst:=0) hB;refine jO ?_;exact cT b rfl (.c0 (.c0 .nil)) e8 rfl
theorem fT(mb:Nat)(m:MkV)(a:Option Addr×Nat)(s:GnS)(hB:GnB 999900 s)(p z:Int):bZ prog 68 [.pointer (some ⟨mb,0,none⟩),j6 p,j5 z] [mkO mb (m.st a s),mkS (m.st a s)] [] (λ(_:Option Addr×Nat)=> .tuple #[]) (λ(x:Option Addr×Nat)=>[mkO mb (m.st x (numG p z s)),mkS (m.st x (numG p z s))]) (λ_=>[]):=by
 have hT:=cO;have j:=w32_in z;refine i7 func68 ntmps68 ?_;intro β hM;refine g5 ?_;refine bF (z':=w32 z) (lF _) ?_;refine one ?_;refine bF (z':=w32 z) (nN k9 k9) ?_;refine g4 ?_;refine fG (λb=>?_) λb=>?_
 .refine g6 ?_;refine bF (z':=w32 z) (lF _) ?_;refine ss (cC rfl rfl (gY _ _ _)) ?_;refine bG func28 (fN mb m a _ (hB.le k9) (⟨2,p,0,0,w32 z⟩:cA) 0) rfl rfl (.c0 (.c0 .nil)) e8 λf=>?_;have h:=fO (i:=(⟨2,p,0,0,w32 z⟩:cA)) (dst:=0) hB;refine g4 ?_;rw[show numG p z s=dL (⟨2,p,0,0,w32 z⟩:cA) 0 (s) by unfold numG;rw[if_pos k9]];exact cT f rfl (.c0 (.c0 .nil)) e8 rfl
 refine g7 ?_;refine ss (sti_shr32 rfl rfl rfl l5) ?_;refine one ?_;refine bF (z':=w32 (z/4294967296)) (high_num _) ?_;refine ss (cC rfl rfl (gY _ _ _)) ?_;refine bG func28 (fN mb m a _ (hB.le k9) (⟨2,p,0,0,w32 (z/4294967296)⟩:cA) 0) rfl rfl (.c0 (.c0 .nil)) e8 λe=>?_;have c:=fO (i:=(⟨2,p,0,0,w32 (z/4294967296)⟩:cA)) (dst:=0) hB;refine g9 ?_;refine bF (z':=w32 z) (w32_u _) ?_;refine ss (cC rfl rfl (gY _ _ _)) ?_;refine bG func28 (fN mb m e _ (c.le k9) (⟨3,p,0,0,w32 z⟩:cA) 0) rfl rfl (.c0 (.c0 .nil)) e8 λd=>?_;have g:=fO (i:=(⟨3,p,0,0,w32 z⟩:cA)) (dst:=0) c;refine jO ?_;rw[show numG p z s=dL (⟨3,p,0,0,w32 z⟩:cA) 0 (dL (⟨2,p,0,0,w32 (z/4294967296)⟩:cA) 0 (s)) by unfold numG;rw[if_neg k9]];exact cT d rfl (.c0 (.c0 .nil)) e8 rfl
theorem gO(mb:Nat)(m:MkV)(a:Option Addr×Nat)(s:GnS)(hB:GnB 999900 s)(k:Nat)(hk:k<=1000000)(sp:Int):bZ prog 136 [.pointer (some ⟨mb,0,none⟩),j5 (k:Nat),j6 sp] [mkO mb (m.st a s),mkS (m.st a s)] [] (λ(_:Option Addr×Nat)=> j6 (gG k sp)) (λ(x:Option Addr×Nat)=>[mkO mb (m.st x (kT m.frame k sp s)),mkS (m.st x (kT m.frame k sp s))]) (λ_=>[]):=by
 have hT:=cO;refine i7 func136 ntmps136 ?_;intro β hM;refine g12 ?_;refine fD (λb=>?_) λb=>?_
 .refine g4 ?_;refine inc (8+k) ?_;refine one ?_;refine bF (z':=((8+k:Nat):Int)) (gH k9 k9) ?_;refine g5 ?_;have d:kT m.frame k sp s=s:=by unfold kT;exact if_pos k9
  have c:gG k sp=((8+k:Nat):Int):=by unfold gG;exact if_pos k9
  rw[d,c];exact rs1 a trivial
 refine g11 ?_;refine bF (z':=w32 m.frame) (lF _) ?_;refine g2 ?_;refine bF (z':=(k:Int)-6) (nN k9 k9) ?_;refine one ?_;refine bF (z':=w32 ((k:Int)-6)) (lF _) ?_;refine one ?_;refine bF (z':=bBs m.frame k) (lF _) ?_;refine ss (cC rfl rfl (gY _ _ _)) ?_;refine bG func28 (fN mb m a _ (hB.le k9) (⟨5,sp,0,0,bBs m.frame k⟩:cA) 0) rfl rfl (.c0 (.c0 .nil)) e8 λe=>?_;have f:=fO (i:=(⟨5,sp,0,0,bBs m.frame k⟩:cA)) (dst:=0) hB;refine g9 ?_;have d:kT m.frame k sp s=dL (⟨5,sp,0,0,bBs m.frame k⟩:cA) 0 (s):=by unfold kT;exact if_neg k9
 have c:gG k sp=sp:=by unfold gG;exact if_neg k9
 rw[d,c];exact rs1 e trivial
section
variable {P : Program} {β : dE} {n : Nat} {Γ : Env} {H : List bC} {F : List bE} {Q : Exit -> Act -> World -> Prop}
theorem run_inv{o:Oper}{f:FuncId}{r:Operand}{name:String}{ars:Array Operand}{ts:Array TypeId}{us:List Value}{t:TypeId}{v q:Value}{a:Act}{w:World}(hcf: ∀(args:Array Value) (w:World),(callFunc f args).run P w= .ok (.enter f args) w)(ho:o.op= .call ⟨.invoke r name,ars,ts⟩)(fi:Fits n Γ a)
  (hr:Γ.ev r=some (.iface t v)) (hm:(method (P.types.size+Made.depth) t v name).run P w= .ok (f,q) w) (hv:Γ.evs ars.toList=some us):(execOp a.eval o).run P w= .ok (.enter f (q::us).toArray) w:=by
 have c:ars.map a.eval=us.toArray:=by
  apply Array.ext'
  simpa using fi.evs hv
 have b:a.eval r= .iface t v:=fi.ev hr
 have g:(#[a.eval r]++ars.map a.eval)[0]?=some (.iface t v):=by
  rw[Array.getElem?_append_left n4,b];rfl
 have e:(#[a.eval r]++ars.map a.eval).extract 1 (#[a.eval r]++ars.map a.eval).size=us.toArray:=by
  rw[c];apply Array.ext';simp only[K4,Array.size_append];simp[List.take_of_length_le]
 have d:(program:Sem Program).run P w= .ok P w:=rfl;unfold execOp;simp only[ho,resolve,E6,E7,E8,invoke,g,e,callMethod,d,hm];have:=hcf (q::us).toArray w
 simpa using this
theorem gQ{ι:Type}{ops:Array Oper}{rest:List Oper}{o:Oper}{d:Nat}{f:FuncId}{r:Operand}{name:String}{ars:Array Operand}{ts:Array TypeId}{us:List Value}{t:TypeId}{v q:Value}{Hin H2:List bC}{Pre:List bE}{val:ι->Value}{Hout:ι->List bC}{post:ι->List bE}
  (hcf: ∀(args:Array Value) (w:World),(callFunc f args).run P w= .ok (.enter f args) w) (hs:bZ P f (q::us) Hin Pre val Hout post) (hw:want ops Γ o=some true) (ho:o.op= .call ⟨.invoke r name,ars,ts⟩) (hd:o.dst=some d) (hn:C0 d n=true)
  (hr:Γ.ev r=some (.iface t v)) (hm: ∀w S,St β H S w->All F S w->(method (P.types.size+Made.depth) t v name).run P w= .ok (f,q) w)
  (hv:Γ.evs ars.toList=some us) (hH:Split H Hin H2) (hF:bA F Pre) (k: ∀x,At β n ((d,val x)::Γ) (Hout x++H2) (post x++F) (wpList P ops Q rest)):At β n Γ H F (wpList P ops Q (o::rest)):=
 fV hw λa w S i s c=>by
  unfold F4;rw[run_inv hcf ho i hr (hm w S s c) hv,F7];have b:=s.perm hH.perm;refine(hs S w b.enter (hF.all S w c)).mono ?_;rintro e j ⟨x,m,rfl,g,l⟩;show wpList P ops Q rest (a.put o.dst (val x)) j;rw[hd];exact k x _ _ _ (i.put m9 _) (b.leave g) ((All.mono (λ_ h=> .inr h) (λ_ _=>rfl) l).append (All.leave b g c))
theorem zL{o:Oper}{t:TypeId}{x:Operand}{v:Value}{d:TypeDesc}(ho:o.op= .makeInterface t x)(hd:P.underlying t=some d)(hne: ∀ms,d≠ .interface ms)(hx:Γ.ev x=some v):Sti P β n Γ H F o (.iface t v):=λa w S f s k=>by
 unfold execOp;simp only[ho,f.ev hx];unfold Instr.makeInterface;rw[E6,E6,run_underlying hd,E8];cases d<;>first|exact absurd rfl (hne _)|rfl
theorem bDg{o:Oper}{t st:TypeId}{x:Operand}{v:Value}{d:TypeDesc}(ho:o.op= .typeAssert x st t false)(hd:P.underlying t=some d)(hne: ∀ms,d≠ .interface ms)(hx:Γ.ev x=some (.iface t v)):Sti P β n Γ H F o v:=λa w S f s k=>by
 unfold execOp;simp only[ho,f.ev hx];unfold Instr.typeAssert;rw[E6,E6,run_underlying hd,E8];cases d<;>first|exact absurd rfl (hne _)|simp
end
def EndsF {ι:Type}(HP:List bC)(β:dE)(p:ι->Option Value)(val:ι->Value)(Hout:ι->List bC)(post:ι->List bE)(e:Ending)(w':World):Prop:=
 ∃x S',(p x=none/\e= .returned (val x)/\St β (Hout x) S' w'/\All (post x) S' w')\/(∃u,p x=some u/\e= .panicked (raise u)/\St β HP S' w')
def SpecF {ι:Type}(HP:List bC)(P:Program)(f:FuncId)(args:List Value)(Hin:List bC)(Pre:List bE)(p:ι->Option Value)(val:ι->Value)(Hout:ι->List bC)(post:ι->List bE):Prop:=
 ∀S w,St ⟨w,kZ Hin,S⟩ Hin S w->All Pre S w->Calls P f args.toArray w (EndsF HP ⟨w,kZ Hin,S⟩ p val Hout post)
theorem qF{ι:Type}{HP:List bC}{P:Program}{f:FuncId}{args:List Value}{Hin:List bC}{Pre:List bE}{p:ι->Option Value}{val:ι->Value}{Hout:ι->List bC}{post:ι->List bE}(hp: ∀x,p x=none)(h:SpecF HP P f args Hin Pre p val Hout post):bZ P f args Hin Pre val Hout post:=λS w s k=>
 (h S w s k).mono λ_ _ ⟨x,d,q⟩=>by
  rcases q with ⟨_,c,a,b⟩|⟨u,hu,_⟩
  .exact⟨x,d,c,a,b⟩
  .rw[hp]at hu;cases hu
section
variable {P : Program} {β : dE} {n : Nat} {Γ : Env} {H HP : List bC} {F : List bE} {Q : Exit -> Act -> World -> Prop}
theorem at_callF{ι:Type}{ops:Array Oper}{rest:List Oper}{o:Oper}{d:Nat}{f:FuncId}{ars:Array Operand}{ts:Array TypeId}{vs:List Value}{Hin H2:List bC}{Pre:List bE}{p:ι->Option Value}{val:ι->Value}{Hout:ι->List bC}{post:ι->List bE}
  (hcf: ∀(args:Array Value) (w:World),(callFunc f args).run P w= .ok (.enter f args) w) (hs:SpecF HP P f vs Hin Pre p val Hout post) (hw:want ops Γ o=some true) (ho:o.op= .call ⟨.value (.func f),ars,ts⟩) (hd:o.dst=some d) (hn:C0 d n=true)
  (hv:Γ.evs ars.toList=some vs) (hH:Split H Hin H2) (hF:bA F Pre) (kp: ∀x u,p x=some u->At β n Γ (HP++H2) F (Q (.panic (raise u)))) (kr: ∀x,p x=none->At β n ((d,val x)::Γ) (Hout x++H2) (post x++F) (wpList P ops Q rest)):
  At β n Γ H F (wpList P ops Q (o::rest)):=
 fV hw λa w S f s g=>by
  unfold F4;rw[bNk hcf ho f hv w,F7];have b:=s.perm hH.perm;refine(hs S w b.enter (hF.all S w g)).mono ?_;rintro e i ⟨x,k,q⟩
  rcases q with ⟨hx,rfl,c,j⟩|⟨u,hx,rfl,c⟩
  .show wpList P ops Q rest (a.put o.dst (val x)) i;rw[hd];exact kr x hx _ _ _ (f.put m9 _) (b.leave c) ((All.mono (λ_ h=> .inr h) (λ_ _=>rfl) j).append (All.leave b c g))
  .exact kp x u hx a i _ f (b.leave (Hout:=HP) c) (All.leave (Hout:=HP) b c g)
theorem specF_of{ι:Type}{f:FuncId}{fn:Func}{c:Code}{args:List Value}{Hin:List bC}{Pre:List bE}{p:ι->Option Value}{val:ι->Value}{Hout:ι->List bC}{post:ι->List bE}(hf:P.funcs[f]?=some fn)(hb:fn.body=some c)(hn:fn.ntmps=n)
  (hl:Nat.ble args.length n=true) (h: ∀β,β.M=kZ Hin->At β n (bBm 0 args) Hin Pre (c.wp P (bodyPost P fn (EndsF HP β p val Hout post)))):SpecF HP P f args Hin Pre p val Hout post:=λS w s k=>by
 refine calls_of_wp hf hb (h ⟨w,kZ Hin,S⟩ rfl _ w S ⟨rfl,?_,λi v b=>?_⟩ s k)
 .have:=Nat.le_of_ble_eq_true hl;simp;omega
 .obtain⟨_,a⟩:=sI 0 args i v b;simp only[Nat.sub_zero]at a;have hlt:i<args.length:=(D9.1 a).1;simp only[Array.getElem?_append];rw[if_pos p7]
  simpa using a
section
variable {ι : Type} {fn : Func} {p : ι -> Option Value} {val : ι -> Value} {Hout : ι -> List bC} {post : ι -> List bE} {r1 : ResultVar} {v1 u : Value}
theorem at_resPF(x:ι)(hH:Sel H HP)(he:p x=some u):At β n Γ H F (bodyPost P fn (EndsF HP β p val Hout post) (.panic (raise u))):=λ_ _ S f s _=>
 ⟨f.defers,x,S,.inr ⟨u,he,rfl,s.sel hH⟩⟩
theorem at_resF1(x:ι)(hr:fn.results= #[r1])(h1:RV P β n Γ H F r1 v1)(hH:Sel H (Hout x))(hF:bA F (post x))(hp:p x=none)(he:v1=val x):At β n Γ H F (bodyPost P fn (EndsF HP β p val Hout post) .ret):=λa w S f s k=>by
 refine⟨f.defers,v1,?_,x,S,.inl ⟨hp,by rw[he],s.sel hH,hF.all S w k⟩⟩;rw[nZ,hr];simp[h1 a w S f s k]
end
end
section
variable {P : Program} {β : dE} {n : Nat} {Γ : Env} {H : List bC} {F : List bE} {o : Oper} {x : Operand} {t tt u : TypeId} {v : Value}
theorem sti_nifnil{ms:Array (String×TypeId)}(ht:P.underlying t=some (.interface ms))(ho:o.op= .binOp .neq t x (.const .nilIface) tt)(hx:Γ.ev x=some .nilIface):Sti P β n Γ H F o (.bool false):=λc w S f s k=>by
 have b: ∀d,(Op.equalIn (d+1) t .nilIface .nilIface).run P w= .ok true w:=λd=>by simp[Op.equalIn,run_underlying ht]
 have a:(Op.equal t .nilIface .nilIface).run P w= .ok true w:=b 9999;unfold execOp;have e:c.eval (.const .nilIface)= .nilIface:=rfl;simp only[ho,f.ev hx,e]
 have hb:(binOp .neq t .nilIface .nilIface).run P w= .ok (.bool false) w:=by
  simp only[binOp];rw[E6,a];rfl
 rw[E6,E6]
 have hg:(eqGuard .neq t x (.const .nilIface) .nilIface .nilIface).run P w= .ok () w:=by
  unfold eqGuard;simp
 rw[hg,E8,hb];rfl
theorem sti_nifsome{ms:Array (String×TypeId)}(ht:P.underlying t=some (.interface ms))(ho:o.op= .binOp .neq t x (.const .nilIface) tt)(hx:Γ.ev x=some (.iface u v)):Sti P β n Γ H F o (.bool true):=λc w S f s k=>by
 have h1: ∀d,(Op.equalIn (d+1) t (.iface u v) .nilIface).run P w= .ok false w:=λd=>by simp[Op.equalIn,run_underlying ht]
 have a:(Op.equal t (.iface u v) .nilIface).run P w= .ok false w:=h1 9999;unfold execOp;have e:c.eval (.const .nilIface)= .nilIface:=rfl;simp only[ho,f.ev hx,e]
 have hb:(binOp .neq t (.iface u v) .nilIface).run P w= .ok (.bool true) w:=by
  simp only[binOp];rw[E6,a];rfl
 rw[E6,E6];have hg:(eqGuard .neq t x (.const .nilIface) (.iface u v) .nilIface).run P w= .ok () w:=rfl;rw[hg,E8,hb];rfl
end
section
variable {P : Program} {β : dE} {n : Nat} {Γ : Env} {H : List bC} {F : List bE} {ι : Type} {fn : Func} {Hout : ι -> List bC} {post : ι -> List bE}
theorem at_offD(x:ι)(hr:fn.results= #[])(hH:Sel H (Hout x))(hF:bA F (post x)):At β n Γ H F (bodyPost P fn (EndD β Hout post) .normal):=λa w S f s k=>by
 refine⟨f.defers,.tuple #[],?_,⟨_,rfl⟩,x,S,s.sel hH,hF.all S w k⟩;rw[nZ,hr];simp
end
theorem built_none:prog.built 259 []=some #[]:=l4
def noneV:Value:= .iface 259 (.agg #[])
def zK (ds:List Int)(p:List Mono):Option Value:=if (bD p ds).2=0 then none else some noneV
theorem pn_no{ds:List Int}{p:List Mono}(h:zK ds p=none):(bD p ds).2=0:=by
 unfold zK at h;split at h
 .assumption
 .cases h
theorem pn_yes{ds:List Int}{p:List Mono}{u:Value}(h:zK ds p=some u):(bD p ds).2≠0/\u=noneV:=by
 unfold zK at h;split at h
 .cases h
 .rename_i hn;cases h;exact⟨hn,rfl⟩
def cI (b:Nat)(z:Int):bC:= .obj b (.cells ([.int .i64 z]:List Value).toArray 2)
def cB (b:Nat)(t:Bool):bC:= .obj b (.cells ([.bool t]:List Value).toArray 4)
theorem zero_i64:(prog.info? 2).bind (·.zero)=some (j5 0):=l4
theorem zero_bo:(prog.info? 4).bind (·.zero)=some (.bool false):=l4
theorem sK(mb:Nat)(m:MkV)(a:Option Addr×Nat)(s:GnS)(hB:GnB 999800 s)(k:Nat)(hk:k<=1000000)(f:FuncId)(cap:List Value)(G:List bE)(I:Int->GnS->GnS)(hI:IntoB I)(hcf: ∀(args:Array Value) (w:World),(callFunc f args).run prog w= .ok (.enter f args) w)(hf: ∀(r:Int) (a:Option Addr×Nat) (s:GnS),GnB 999900 s->bZ prog f (j6 r::cap) [mkO mb (m.st a s),mkS (m.st a s)] G (λ_:Option Addr×Nat=> .tuple #[]) (λx=>[mkO mb (m.st x (I r s)),mkS (m.st x (I r s))]) (λ_=>[])):bZ prog 129 [.pointer (some ⟨mb,0,none⟩),j5 (k:Nat),.func (.func f) #[] cap.toArray] [mkO mb (m.st a s),mkS (m.st a s)] (G) (λ(_:Option Addr×Nat)=> .tuple #[]) (λ(x:Option Addr×Nat)=>[mkO mb (m.st x (jU m.frame k I s)),mkS (m.st x (jU m.frame k I s))]) (λ_=>[]):=by
 have hT:=cO;refine i7 func129 ntmps129 ?_;intro β hM;refine g7 ?_;refine fD (λc=>?_) λc=>?_
 .refine g5 ?_;refine inc (8+k) ?_;refine one ?_;refine bF (z':=((8+k:Nat):Int)) (gH k9 k9) ?_;refine lA hcf (hf ((8+k:Nat):Int) a s (hB.le k9)) rfl rfl rfl rfl rfl rfl rfl (.c0 (.c0 .nil)) (bA.drop 0) λg=>?_;have j:=hI ((8+k:Nat):Int) _ _ hB;refine g4 ?_;rw[show jU m.frame k I s=I ((8+k:Nat):Int) s by unfold jU;exact if_pos k9];exact cT g rfl (.c0 (.c0 .nil)) e8 rfl
 refine g5 ?_;refine lA hcf (hf 14 a s (hB.le k9)) rfl rfl rfl rfl rfl rfl rfl (.c0 (.c0 .nil)) (bA.drop 0) λe=>?_;have b:=hI 14 _ _ hB;refine g9 ?_;refine bF (z':=w32 m.frame) (lF _) ?_;refine g2 ?_;refine bF (z':=(k:Int)-6) (nN k9 k9) ?_;refine one ?_;refine bF (z':=w32 ((k:Int)-6)) (lF _) ?_;refine one ?_;refine bF (z':=bBs m.frame k) (lF _) ?_;refine ss (cC rfl rfl (gY _ _ _)) ?_;refine bG func28 (fN mb m e _ (b.le k9) (⟨6,14,0,0,bBs m.frame k⟩:cA) 0) rfl rfl (.c0 (.c0 .nil)) e8 λd=>?_;have h:=fO (i:=(⟨6,14,0,0,bBs m.frame k⟩:cA)) (dst:=0) b;refine jO ?_;rw[show jU m.frame k I s=dL (⟨6,14,0,0,bBs m.frame k⟩:cA) 0 (I 14 s) by unfold jU;exact if_neg k9];exact cT d rfl (.c0 (.c0 .nil)) e8 rfl
theorem bJz(mb:Nat)(m:MkV)(a:Option Addr×Nat)(s:GnS)(hB:GnB 999800 s)(p z:Int):bZ prog 138 [.pointer (some ⟨mb,0,none⟩),j6 p,j5 z] [mkO mb (m.st a s),mkS (m.st a s)] [] (λ(_:Option Addr×Nat)=> .tuple #[]) (λ(x:Option Addr×Nat)=>[mkO mb (m.st x (jS m.fail p z s)),mkS (m.st x (jS m.fail p z s))]) (λ_=>[]):=by
 have hT:=cO;have t:=hB.l;have r:=hB.m;have q:=hB.x;refine i7 func138 ntmps138 ?_;intro β hM;refine g3 ?_;refine bG func25 (pQ mb m a _ (hB.le k9)) rfl rfl (.c0 (.c0 .nil)) e8 λo=>?_;have f:=nO hB;refine g7 ?_;refine bG func68 (fT mb m o _ (f.le k9) (6) (z)) rfl rfl (.c0 (.c0 .nil)) e8 λn=>?_;have e:=jM (a:=6) (z:=z) f;refine g7 ?_;refine bG func137 (bIn mb m n _ (e.le k9) (p) (6) (((markG (s)).marks))) rfl rfl (.c0 (.c0 .nil)) e8 λj=>?_;have d:=zX (a:=p) (b:=6) (dst:=((markG (s)).marks)) e;refine g9 ?_;refine bG func132 (vL mb m j _ (d.le k9) (m.fail)) rfl rfl (.c0 (.c0 .nil)) e8 λi=>?_;have c:=sA (dst:=m.fail) d;refine g5 ?_;refine bG func29 (pS mb m i _ (c.le k9) (((markG (s)).marks))) rfl rfl (.c0 (.c0 .nil)) e8 λh=>?_;have g:=nQ (k:=((markG (s)).marks)) c (by simp only[markG];omega);refine jO ?_;exact cT h rfl (.c0 (.c0 .nil)) e8 rfl
theorem qX(mb:Nat)(m:MkV)(a:Option Addr×Nat)(s:GnS)(p:PolV)(hdl:m.dims.list.length<=140737488355328):SpecF [mkO mb (m.st a s)] prog 65 [.pointer (some ⟨mb,0,none⟩),j0 p] [mkO mb (m.st a s)] [fB p,cK.sl (j0 m.dims) m.dims.list] (λ(_:Unit)=>zK m.dims.list p.list) (λ(_:Unit)=> j5 (bD p.list m.dims.list).1) (λ(_:Unit)=>[mkO mb (m.st a s)]) (λ_=>[]):=by
 have hT:=cO;refine specF_of func65 rfl ntmps65 rfl ?_;intro β hM;refine fS<|mO<|iH rfl rfl rfl (fJ hT rfl) ?_;refine jO<|mG<|fS<|mO<|iH rfl rfl rfl (fJ hT rfl) ?_;refine iH rfl rfl rfl (fJ hT rfl) ?_;refine iH rfl rfl rfl (fJ hT rfl) ?_;refine iH rfl rfl rfl (fJ hT rfl) ?_;refine iH rfl rfl rfl (f8 hT (bO (off:=9) .head)) ?_;refine bM (gI (Has.of (.head _))) λc=>?_;refine f7 func15 (bCt p m.dims.addr m.dims.cap m.dims.list c hdl) .nil ⟨(Has.of (.head _)),(Has.of (.tail _ (.head _))),e8⟩ λ_=>?_;refine iH rfl rfl rfl (fJ hT rfl) ?_;refine iH rfl rfl rfl (fJ hT rfl) ?_;refine iH rfl rfl rfl (fJ hT rfl) ?_;refine iH rfl rfl rfl (fJ hT rfl) ?_;refine iH rfl rfl rfl (fJ hT rfl) ?_;refine jO<|mG<|fS<|fS<|mO<|iH rfl rfl rfl (fJ hT rfl) ?_;refine iH rfl rfl rfl (fJ hT rfl) ?_;refine jO<|mG<|cR rfl (λb=>?_) (λb=>?_)
 .have b:=bne_iff_ne.1 b;refine mO<|iH rfl rfl rfl (cC rfl rfl (built_none)) ?_;refine iH rfl rfl rfl (zL rfl underlying259 (λ_ e=>by cases e) rfl) ?_;refine at_panic rfl rfl rfl ?_;refine p_then ?_;exact at_resPF () (.c0 .nil) (by unfold zK;rw[if_neg b];rfl)
 .have b:=bne_eq_false_iff_eq.1 b;refine uE<|mG<|fS<|mO<|iH rfl rfl rfl (fJ hT rfl) ?_;refine iH rfl rfl rfl (fJ hT rfl) ?_;refine jO<|mG<|wR ?_;exact at_resF1 () rfl (rv_tmp rfl) (.c0 .nil) e8 (by unfold zK;rw[if_pos b]) (rfl)
theorem known1N_spec(ob eb:Nat)(z:Int)(t:Bool):bRw prog 204 [.pointer (some ⟨ob,0,none⟩),.pointer (some ⟨eb,0,none⟩)] .returning .returning [cI ob z,cB eb t] [] (λ_:Unit=>[cI ob z,cB eb t]) (λ_=>[]):=by
 have hT:=cO;refine bBp (v:= .nilIface) func204 rfl ntmps204 rfl rfl rfl rfl rfl rec_none ?_;intro β hM;refine g6 ?_;refine iH rfl rfl rfl (sti_nifnil underlying20 rfl rfl) ?_;refine g4 ?_;exact at_offD () rfl (.c0 (.c0 .nil)) trivial
theorem known1P_spec(ob eb:Nat)(z:Int)(t:Bool):bRw prog 204 [.pointer (some ⟨ob,0,none⟩),.pointer (some ⟨eb,0,none⟩)] (.panicking (raise noneV)) (.panicking [{v:=noneV,recovered:=true}]) [cI ob z,cB eb t] [] (λ_:Unit=>[cI ob 0,cB eb false]) (λ_=>[]):=by
 have hT:=cO;refine bBp (v:=noneV) func204 rfl ntmps204 rfl rfl rfl rfl rfl (rec_some _) ?_;intro β hM;refine g6 ?_;refine iH rfl rfl rfl (sti_nifsome underlying20 rfl rfl) ?_;refine g7 ?_;exact at_offD () rfl (.cons (.tail .head) (.c0 .nil)) trivial
theorem bMp(mb:Nat)(m:MkV)(a:Option Addr×Nat)(s:GnS)(p:PolV)(hdl:m.dims.list.length<=140737488355328):bZ prog 131 [.pointer (some ⟨mb,0,none⟩),j0 p] [mkO mb (m.st a s)] [fB p,cK.sl (j0 m.dims) m.dims.list] (λ(_:Unit)=> .tuple #[j5 (oB m.dims.list p.list),.bool (decide ((bD p.list m.dims.list).2=0))]) (λ(_:Unit)=>[mkO mb (m.st a s)]) (λ_=>[]):=by
 have hT:=cO;refine spec_defers func131 rfl ntmps131 rfl ?_;intro β hM;refine g2 ?_;refine f9 zero_i64 λg=>?_;refine f9 zero_bo λf=>?_;refine g5 ?_;refine at_defer rfl rfl rfl rfl rfl ?_;refine d_list ?_;refine iL ?_;refine cZ ?_;refine iE ?_;refine dK ?_;refine g2 ?_;refine at_callF (j4 func65) (qX mb m a s p hdl) rfl rfl rfl rfl rfl (.c2 .nil) ⟨d7,d8,e8⟩ ?_ ?_
 .intro y u hu;refine dp_any ?_;refine dp_then ?_;obtain⟨e,rfl⟩:=pn_yes hu;refine d_caught (j4 func204) rfl (known1P_spec g f 0 false) (.c2 (.c1 .nil)) e8 λ_=>?_;have c:oB m.dims.list p.list=0:=by unfold oB;exact if_neg e
  have b:decide ((bD p.list m.dims.list).2=0)=false:=decide_eq_false e;rw[c,b];exact rs2 () trivial
 intro _ d;refine g2 ?_;refine iL ?_;refine cZ ?_;refine d_ret ?_;refine d_leave (j4 func204) rfl (known1N_spec g f (bD p.list m.dims.list).1 true) (.c1 (.c0 .nil)) e8 λ_=>?_;have c:oB m.dims.list p.list=(bD p.list m.dims.list).1:=by unfold oB;exact if_pos (pn_no d)
 have b:decide ((bD p.list m.dims.list).2=0)=true:=decide_eq_true (pn_no d);rw[c,b];exact rs2 () trivial
end
end Go.Proofs.YtnfiadlonjediaaGreatDoor
