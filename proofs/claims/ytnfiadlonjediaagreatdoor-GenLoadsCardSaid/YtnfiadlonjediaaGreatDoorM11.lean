/- Texts of one proof, one behind the other: MapI, MapS, Ints, Full, TysU, GenO, GenB, TysG, MixP, GmA, Invo, PanF, GmB. -/
import Derived.Test.YtnfiadlonjediaaGreatDoorM7
import Derived.MapKept
import Derived.ChangeMaps5
import Derived.WideKeyEntry
import Derived.Lib.AppendStr
import Derived.Lib.UnsafeStr
import Derived.Lib.Builder
import Derived.Deep.AppendSrc
import Derived.Deep.Upon
import Derived.Test.YtnfiadlonjediaaGreatDoorM10
import Derived.Test.YtnfiadlonjediaaGreatDoorM4
import Derived.Test.YtnfiadlonjediaaGreatDoorM2
import Derived.Test.YtnfiadlonjediaaGreatDoorM1
set_option maxRecDepth 100000
namespace Go.Proofs.YtnfiadlonjediaaGreatDoor
section
open Go.RowKit Go.Proofs.Tryz
open Go.ChangeMaps (setBlock)
abbrev KV:=List (Int×Value)
def kvI (kk:IntKind)(kv:KV):List (Value×Value):=kv.map λp=>(Value.int kk p.1,p.2)
def bNy (e:MapEntry):Value×Value:=(e.key,e.val)
def MapO (kk:IntKind)(kv:KV)(o:Option Obj):Prop:= ∃es clock,o=some (.map es clock)/\es.toList.map bNy=kvI kk kv
def bIy (r:Nat)(kk:IntKind)(kv:KV):bD:= .gen (some r) (MapO kk kv)
def pS (k:Int):KV->Nat->Option (Nat×Value)
 |[],_=>none
 |p::r,i=>if k==p.1 then some (i,p.2)else pS k r (i+1)
def bJk (k:Int):KV->Option Value
 |[]=>none
 |p::r=>if k==p.1 then some p.2 else bJk k r
def zR (k:Int)(v:Value):KV->KV
 |[]=>[(k,v)]
 |p::r=>if k==p.1 then (k,v)::r else p::zR k v r
theorem find_get(k:Int): ∀(kv:KV) (i:Nat),(pS k kv i).map (·.2)=bJk k kv
 |[],_=>rfl
 |p::r,i=>by
  unfold pS bJk;split
  .rfl
  .exact find_get k r (i+1)
theorem bPg{k:Int}{v:Value}: ∀{kv:KV} {i:Nat},pS k kv i=none->zR k v kv=kv++[(k,v)]
 |[],_,_=>rfl
 |p::r,i,h=>by
  unfold pS at h;unfold zR;split at h
  .cases h
  .rename_i hk;rw[if_neg hk,bPg h];rfl
theorem bRc{k:Int}{v:Value}{j:Nat}{u:Value}: ∀{kv:KV} {i:Nat},pS k kv i=some (j,u)-> ∃d,j=i+d/\ ∃p,kv[d]?=some p/\k=p.1/\zR k v kv=kv.set d (k,v)
 |[],_,h=>by cases h
 |p::r,i,h=>by
  unfold pS at h;split at h
  .rename_i hk;simp only[Option.some.injEq,Prod.mk.injEq]at h;exact⟨0,k7,p,rfl,by simpa using hk,by simp[zR,hk]⟩
  .rename_i hk;obtain⟨d,h1,q,h2,h3,h4⟩:=bRc (v:=v) h;exact⟨d+1,k7,q,h2,h3,by rw[zR,if_neg hk,h4];rfl⟩
section
variable {P : Program} {kk : IntKind} {k : Int} {w : World} {t kt et : TypeId}
theorem bFb(kk:IntKind)(k:Int): ∀(es:List MapEntry) (kv:KV) (i:Nat),es.map bNy=kvI kk kv->Instr.findNow (.int kk) (.int kk k) es i=some (pS k kv i)
 |[],[],_,_=>rfl
 |[],_::_,_,h=>by simp[kvI]at h
 |_::_,[],_,h=>by simp[kvI]at h
 |e::es,p::kv,i,h=>by
  simp only[List.map_cons,List.cons.injEq,kvI,bNy,Prod.mk.injEq]at h;obtain⟨⟨h1,h2⟩,h3⟩:=h;have ih:=bFb kk k es kv (i+1) h3;unfold Instr.findNow;rw[h1];simp only[Instr.sameNow,if_true,pS];cases hk:k==p.1
  .simpa using ih
  .simp[h2]
theorem oA(hk:P.underlying kt=some (.int kk)){es:List MapEntry}{kv:KV}(h:es.map bNy=kvI kk kv):(Instr.findKey kt (.int kk k) es).run P w= .ok (pS k kv 0) w:=by
 unfold Instr.findKey;simp only[Sem.run_bind,run_underlying hk,Result.andThen_ok,bFb kk k es kv 0 h,Sem.run_pure]
theorem mJ(hk:P.underlying kt=some (.int kk))(b:Bool):(Instr.checkKey b 10000 kt (.int kk k)).run P w= .ok () w:=by
 have: ∀n,(Instr.checkKey b (n+1) kt (.int kk k)).run P w= .ok () w:=λn=>by simp[Instr.checkKey,run_underlying hk]
 exact this 9999
theorem run_staysI:(Instr.keyThatStays (.int kk k) (.int kk k)).run P w= .ok (.int kk k) w:=by
 have: ∀n,Instr.sameBits (n+1) (.int kk k) (.int kk k)=true:=λn=>by simp[Instr.sameBits]
 unfold Instr.keyThatStays;rw[this 9999];simp
theorem bIv(ht:P.underlying t=some (.map kt et))(hk:P.underlying kt=some (.int kk)){r:Nat}{kv:KV}(v:Value)(h:MapO kk kv (w.heap[r]?)):
  ∃o,(Instr.mapUpdate t (.map (some r)) (.int kk k) v).run P w= .ok () (setBlock w r o)/\MapO kk (zR k v kv) ((setBlock w r o).heap[r]?):=by
 obtain⟨es,clock,hb,hkv⟩:=h
 cases hf:pS k kv 0 with
 |none=>
  refine⟨.map (es.push ⟨.int kk k,v,clock⟩) (clock+1),?_,⟨_,_,ChangeMaps.heap_setBlock_same hb _,?_⟩⟩
  .unfold Instr.mapUpdate;simp only[Sem.run_bind,run_underlying ht,Result.andThen_ok,MapKept.run_getObj_map hb,mJ hk,oA hk hkv,hf];rw[MapKept.run_setObj_map _ hb];simp[setBlock]
  .rw[bPg hf];simp[hkv,kvI,bNy]
 |some p=>
  obtain⟨j,u⟩:=p;obtain⟨d,h1,q,h2,h3,h4⟩:=bRc (v:=v) hf;obtain rfl:j=d:=k7
  have hlen:es.size=kv.length:=by
   have:=congrArg List.length hkv
   simpa[kvI]using this
  have hjl:j<es.size:=by rw[hlen];exact(List.getElem?_eq_some_iff.1 h2).1
  obtain⟨e,he⟩: ∃e,es[j]?=some e:=⟨es[j],Array.getElem?_eq_getElem hjl⟩
  have hek:e.key= .int kk k:=by
   have h1:(es.toList.map bNy)[j]?=some (bNy e):=by simp[he]
   rw[hkv,kvI,List.getElem?_map,h2]at h1;simp only[Option.map_some,Option.some.injEq,bNy,Prod.mk.injEq]at h1;rw[<-h1.1,h3]
  refine⟨.map (es.modify j λe=>{e with key:= .int kk k,val:=v}) clock,?_,⟨_,_,ChangeMaps.heap_setBlock_same hb _,?_⟩⟩
  .unfold Instr.mapUpdate;simp only[Sem.run_bind,run_underlying ht,Result.andThen_ok,MapKept.run_getObj_map hb,mJ hk,oA hk hkv,hf,he,Option.map_some,Option.getD_some,hek,run_staysI];rw[MapKept.run_setObj_map _ hb];simp[setBlock]
  .rw[h4];apply List.ext_getElem?;intro i;have hi:(es.toList.map bNy)[i]?=(kvI kk kv)[i]?:=by rw[hkv]
   simp only[kvI,List.getElem?_map,Array.toList_modify,List.getElem?_modify,List.getElem?_set]at hi⊢
   by_cases e':j=i
   .subst e';have:j<kv.length:=k7
    have he':es.toList[j]?=some e:=by simpa using he
    simp[this,he',bNy]
   .simp only[e',if_false]at hi⊢
    simpa using hi
end
theorem iK{w:World}{r:Nat}{o:Obj}:nP (λb=>b=r) w (setBlock w r o):=by
 refine⟨rfl,rfl,rfl,by simp[setBlock],λb hb hne=>?_⟩;simp[setBlock,Ne.symm hne]
section
variable {P : Program} {β : dC} {n : Nat} {Γ : Env} {H : List bD} {F : List bC} {Q : Exit -> Act -> World -> Prop} {K : Act -> World -> Prop} {T : Tab} {ops : Array Oper} {rest : List Oper} {o : Oper}
theorem bMm{d:Nat}{t:TypeId}(kk:IntKind)(hw:want ops Γ o=some true)(ho:o.op= .makeMap t none)(hd:o.dst=some d)(hn:Nat.blt d n=true)(k: ∀b,At β n ((d,.map (some b))::Γ) (bIy b kk []::H) F (wpList P ops Q rest)):At β n Γ H F (wpList P ops Q (o::rest)):=
 fY hw λa w S f s hk=>by
  have hr:(execOp a.eval o).run P w= .ok (.value (.map (some w.heap.size))) (w.alloc (.map #[] 0)):=by
   unfold execOp;simp only[ho,Instr.makeMap];rfl
  unfold Oper.wp;rw[hr,Oper.upon_value,hd];have s2:=s.alloc (.map #[] 0);refine k w.heap.size _ _ S (f.put l9 _) ⟨s2.kept,λc hc=>?_,λc hc b hb=>?_,?_,s2.zone⟩ (All.alloc s hk _)
  .rcases List.mem_cons.1 hc with rfl|hc
   .exact⟨#[],0,heap_alloc_new _ _,rfl⟩
   .exact s2.ok c (List.mem_cons_of_mem _ hc)
  .rcases List.mem_cons.1 hc with rfl|hc
   .exact s2.own (.obj w.heap.size (.map #[] 0)) (List.mem_cons_self ..) b hb
   .exact s2.own c (List.mem_cons_of_mem _ hc) b hb
  .have hp:=List.pairwise_cons.1 s2.sep;exact List.pairwise_cons.2 ⟨λd hd b hb=>hp.1 d hd b hb,hp.2⟩
theorem qS{r:Nat}{kk:IntKind}{kv:KV}{H':List bD}(hH:bW H (bIy r kk kv) H'){t kt et:TypeId}{m x y:Operand}{k:Int}{v:Value}(hw:want ops Γ o=some true)(ho:o.op= .mapUpdate t m x y\/o.op= .insert t m x y)(hd:o.dst=none)(ht:P.underlying t=some (.map kt et))(hk:P.underlying kt=some (.int kk))
  (hm:Γ.ev m=some (.map (some r))) (hx:Γ.ev x=some (.int kk k)) (hy:Γ.ev y=some v) (K':At β n Γ (bIy r kk (zR k v kv)::H') F (wpList P ops Q rest)):At β n Γ H F (wpList P ops Q (o::rest)):=
 fY hw λa w S f s hF=>by
  have hok:MapO kk kv (w.heap[r]?):=s.ok _ hH.mem;obtain⟨ob,hr0,hm0⟩:=bIv (k:=k) ht hk v hok
  have hr:(execOp a.eval o).run P w= .ok .skip (setBlock w r ob):=by
   unfold execOp
   rcases ho with ho|ho
   .simp only[ho,f.ev hm,f.ev hx,f.ev hy,Sem.run_bind,hr0];rfl
   .simp only[ho,f.ev hm,f.ev hx,f.ev hy,Sem.run_bind,hr0];rfl
  unfold Oper.wp;rw[hr,Oper.upon_skip,hd];have s2:=s.perm hH.perm;exact K' _ _ S (f.put_none _) (s2.swap iK rfl rfl hm0) (All.mono (λ_ h=>h) (s.agree iK (λc hc e=>by subst e;exact(s2.own _ (List.mem_cons_self ..) _ rfl).2.2 hc)) hF)
def KnowsMap(β:dC)(H:List bD)(F:List bC)(r:Nat)(kk:IntKind)(kv:KV):Prop:= ∀w S,St β H S w->All F S w->MapO kk kv (w.heap[r]?)
theorem oY{r:Nat}{kk:IntKind}{kv:KV}{H':List bD}(hH:bW H (bIy r kk kv) H'):KnowsMap β H F r kk kv:=λ_ _ s _=>s.ok _ hH.mem
end
end
section
open Go.RowKit Go.Proofs.Tryz
open Go.ChangeMaps (setBlock)
end
section
open Go.RowKit Go.Proofs.Tryz
section
variable {P : Program} {β : dC} {n : Nat} {Γ : Env} {H : List bD} {F : List bC} {o : Oper}
theorem sti_quoI{t tt:TypeId}{x y:Operand}{k:IntKind}{a b:Int}(ho:o.op= .binOp .quo t x y tt)(hx:Γ.ev x=some (.int k a))(hy:Γ.ev y=some (.int k b))(hb:b≠0):Sti P β n Γ H F o (.int k (k.wrap (a.tdiv b))):=λc w S f s _=>by
 unfold execOp;simp only[ho,f.ev hx,f.ev hy];simp[eqGuard,binOp,Op.intDiv,hb]
end
section
variable {P : Program} {β : dC} {n : Nat} {Γ : Env} {H : List bD} {F : List bC} {Q : Exit -> Act -> World -> Prop} {K : Act -> World -> Prop} {T : Tab} {α : Type} {E : Flat α}
theorem dL.cells{A:Option Addr}{xs:List α}{w:World}{S:jF}(hr:dL β H F E A xs)(s:St β H S w)(hF:All F S w)(h0:0<xs.length):
  ∃b off,A=some ⟨b,off,none⟩/\ ∀j u,(E.all xs)[j]?=some u->w.cell? ((⟨b,off,none⟩:Addr).add j)=some u:=by
 obtain⟨⟨b,off,rfl⟩,_⟩:=hr w S s hF 0 _ (List.getElem?_eq_getElem h0);refine⟨b,off,rfl,λj u hj=>?_⟩;have hlt:=(List.getElem?_eq_some_iff.1 hj).1;rw[E.all_length]at hlt;have hk:j/E.size<xs.length:=Nat.div_lt_of_lt_mul (by rwa[Nat.mul_comm]at hlt);have hm:j%E.size<E.size:=Nat.mod_lt _ E.pos;have hx':=List.getElem?_eq_getElem hk;have hu':=List.getElem?_eq_getElem (l:=E.cells xs[j/E.size]) (i:=j%E.size) (by rw[E.len];exact hm);have e:j/E.size*E.size+j%E.size=j:=by rw[Nat.mul_comm];exact Nat.div_add_mod j E.size
 have h1:=(hr w S s hF _ _ hx').2 _ _ hu';have h2:=E.all_get hx' hu';rw[e,hj]at h2;injection h2 with h2
 have h3:=h1.trans (congrArg some h2.symm);rw[Nat.add_assoc,e]at h3;rw[Addr.add_mid];exact h3
theorem dL.tail{A:Option Addr}{xs:List α}{c:bD}(hr:dL β H F E A xs):dL β (c::H) F E A xs:=λw S s hF=>hr w S s.tail hF
theorem bDi{A:Option Addr}{xs:List α}{w:World}{S:jF}(hr:dL β H F E A xs)(s:St β H S w)(hF:All F S w)(c:Nat){size:Nat}(hs:size=E.size):(Builtin.firstCells size xs.length (.slice A xs.length c)).run P w.drew= .ok (E.all xs).toArray w.drew:=by
 subst hs
 by_cases h0:0<xs.length
 .obtain⟨b,off,rfl,h⟩:=hr.cells s hF h0;exact run_firstCells_some w.drew E.size xs.length ⟨b,off,none⟩ xs.length c (E.all xs) (E.all_length xs) h
 .have:xs=[]:=List.eq_nil_of_length_eq_zero k7;subst this
  cases A with
  |none=>exact run_firstCells_none w.drew E.size 0 0 c
  |some a=>exact run_firstCells_some w.drew E.size 0 a 0 c [] m9 (λj u hj=>by simp at hj)
theorem bJq{ops:Array Oper}{rest:List Oper}{o:Oper}{d:Nat}{x y:Operand}{t e:TypeId}{i:TypeInfo}{z:Value}{by_ c q m:Nat}{A B:Option Addr}{xs ys:List α}(hr:dL β H F E A xs)(hs:dL β H F E B ys)(hw:want ops Γ o=some true)
  (ho:o.op= .call {callee:= .builtin .append,args:= #[x,y],argTypes:= #[t,t]}) (hd:o.dst=some d) (hn:Nat.blt d n=true) (hu:P.underlying t=some (.slice e)) (hi:P.info? e=some i) (hz:i.zero=some z) (hsize:i.size=E.size) (hby:i.bytes=by_) (hzs:z.cells.size=E.size)
  (hx:Γ.ev x=some (.slice A m m)) (hm:m=xs.length) (hy:Γ.ev y=some (.slice B q c)) (hq:q=ys.length) (h0:0<ys.length) (hbytes:(xs.length+ys.length)*by_<=140737488355328) (hpos:0<by_)
  (k: ∀A' cap',At β n ((d,.slice A' (xs++ys).length cap')::Γ) (E.row (.slice A' (xs++ys).length cap') e (xs++ys)::H) F (wpList P ops Q rest)):At β n Γ H F (wpList P ops Q (o::rest)):=by
 subst hm hq;refine bZ (t:=e) E ?_;refine fY hw λa w S f s hF=>?_;have hle:xs.length+ys.length<=(xs.length+ys.length)*by_:=Nat.le_mul_of_pos_right _ hpos
 have h63:xs.length+ys.length<=maxLen:=by
  simp only[maxLen];omega
 have s1:St β H S w:=s.tail;obtain⟨b,off,rfl,hb⟩:=hs.cells s1 hF h0;have hcap:=nextslicecap_le (need:=xs.length+ys.length) (old:=xs.length) k7
 have hbig:Builtin.nextslicecap (xs.length+ys.length) xs.length*i.bytes<=281474976710656:=by
  have:=Nat.mul_le_mul_right i.bytes hcap;rw[hby]at this⊢;rw[Nat.mul_assoc]at this;omega
 have hfc:=bDi (P:=P) hr s1 hF xs.length hsize;have hrun:=run_append_grow_src (P:=P) w t t o.type e i z hu hi hz A xs.length xs.length (E.all xs) hfc (.slice (some ⟨b,off,none⟩) ys.length c) ys.length (E.all ys)
  (Src.ofSlice w hu ⟨b,off,none⟩ ys.length c (E.all ys) (by rw[E.all_length,hsize]) hb E.all_one) k7 (by simp only[maxLen]at h63;omega) hbig
 have hr':(execOp a.eval o).run P w= .ok (.value (.slice (some ⟨w.heap.size,0,none⟩) (xs.length+ys.length) (grownCap w (xs.length+ys.length) xs.length e)))
   (w.drew.alloc (.cells ((E.all xs++E.all ys).toArray++Builtin.zeroCells z.cells (grownCap w (xs.length+ys.length) xs.length e-(xs.length+ys.length))) e)):=by
  unfold execOp;simp only[ho,resolve,invoke,builtin,Sem.run_bind,Sem.run_pure,Result.andThen_ok,List.map_toArray,List.map_cons,List.map_nil,f.ev hx,f.ev hy,hrun]
 have hall:E.all xs++E.all ys=E.all (xs++ys):=by simp[Flat.all]
 have hge:=grownCap_ge w (xs.length+ys.length) xs.length e;have hcm:=grownCap_le_maxLen w (xs.length+ys.length) xs.length e h63;unfold Oper.wp;rw[hr',Oper.upon_value,hd];have hK:=k (some ⟨w.heap.size,0,none⟩) (grownCap w (xs.length+ys.length) xs.length e);rw[List.length_append]at hK;refine hK _ _ S (f.put l9 _) ?_ ?_
 .refine s.swap_row (v':= .slice (some ⟨w.heap.size,0,none⟩) (xs.length+ys.length) (grownCap w (xs.length+ys.length) xs.length e)) (rY ⟨rfl,rfl,rfl,m9,λk hk _=>heap_alloc_old w.drew _ hk⟩) (.inr rfl) ?_;show World.ownsRow _ 0 e E.size _ (xs++ys).length (E.all (xs++ys));rw[List.length_append];refine⟨by rw[E.all_length,List.length_append],.inr ⟨w.heap.size,_,_,rfl,Nat.zero_le _,heap_alloc_new w.drew _,hge,hcm,?_,?_⟩⟩
  .have e1:(E.all xs++E.all ys).length=(xs.length+ys.length)*E.size:=by rw[hall,E.all_length,List.length_append]
   simp only[Array.size_append,List.size_toArray,size_zeroCells,hzs,e1,<-Nat.add_mul]
   congr 1
   omega
  .have e1:(E.all (xs++ys)).length=(xs.length+ys.length)*E.size:=by rw[E.all_length,List.length_append]
   simp only[Array.toList_append];rw[hall,<-e1];exact List.take_left
 .exact All.mono (w:=w) (λ_ h=>h) (λb hb=>heap_alloc_old w.drew _ (s.zone b hb).1) hF
end
end
section
open Go.RowKit Go.ChangeShapes Go.WideShapes Go.Proofs.Tryz
structure rJ where
 sides:(Sl Int)
 data:(Sl Int)
 deriving Inhabited
def arrE:Flat rJ where
 size:=2
 cells:=λx=>[.slice x.sides.addr x.sides.list.length x.sides.cap,.slice x.data.addr x.data.list.length x.data.cap]
 len:=λ_=>rfl
 one:=λx u hu=>by
  simp at hu
  rcases hu with rfl|rfl<;>rfl
 pos:=m7
structure cX where
 op:Int
 a:Int
 b:Int
 c:Int
 imm:Int
 deriving Inhabited
def lO:Flat cX where
 size:=5
 cells:=λx=>[.int .u8 x.op,.int .u8 x.a,.int .u8 x.b,.int .u8 x.c,.int .i32 x.imm]
 len:=λ_=>rfl
 one:=λx u hu=>by
  simp at hu
  rcases hu with rfl|rfl|rfl|rfl|rfl<;>rfl
 pos:=m7
structure PcV where
 mark:Int
 ins:cX
 to_:Int
 deriving Inhabited
def pcE:Flat PcV where
 size:=7
 cells:=λx=>[.int .i64 x.mark,.int .u8 x.ins.op,.int .u8 x.ins.a,.int .u8 x.ins.b,.int .u8 x.ins.c,.int .i32 x.ins.imm,.int .i64 x.to_]
 len:=λ_=>rfl
 one:=λx u hu=>by
  simp at hu
  rcases hu with rfl|rfl|rfl|rfl|rfl|rfl|rfl<;>rfl
 pos:=m7
structure MkV where
 l:(Sl PcV)
 marks:Nat
 next:Nat
 fail:Nat
 frame:Int
 core:gF
 dims:(Sl Int)
 at_:(Sl Int)
 size:(Sl Int)
 deriving Inhabited
structure bQw where
 code:(Sl cX)
 mem:Int
 at_:(Sl Int)
 deriving Inhabited
def madeE:Flat bQw where
 size:=3
 cells:=λx=>[.slice x.code.addr x.code.list.length x.code.cap,.int .i64 x.mem,.slice x.at_.addr x.at_.list.length x.at_.cap]
 len:=λ_=>rfl
 one:=λx u hu=>by
  simp at hu
  rcases hu with rfl|rfl|rfl<;>rfl
 pos:=m7
def runT:Tab:=[(3,⟨.int .i64,1⟩),(2,⟨.int .i64,1⟩),(5,⟨.int .u8,1⟩),(4,⟨.bool,1⟩),(77,⟨.int .u8,1⟩),(32,⟨.int .i64,1⟩),(43,⟨.slice 111,1⟩),(42,⟨.slice 43,1⟩),(172,⟨.struct [(3,0),(3,1),(2,2),(43,3),(77,4)],5⟩),(78,⟨.slice 172,1⟩),(95,⟨.struct [(42,0),(3,1)],2⟩),(22,⟨.slice 95,1⟩),(80,⟨.struct [(3,0),(3,1),(43,2),(42,3),(77,4),(78,5)],6⟩),(23,⟨.slice 80,1⟩),(24,⟨.slice 3,1⟩),(99,⟨.slice 4,1⟩),(26,⟨.struct [(3,0),(22,1),(23,2),(24,3)],4⟩),(201,⟨.struct [(3,0),(3,1),(3,2),(99,3)],4⟩),(27,⟨.slice 2,1⟩),(75,⟨.struct [(27,0),(27,1)],2⟩),(37,⟨.slice 75,1⟩),(21,⟨.int .i32,1⟩),(52,⟨.struct [(5,0),(5,1),(5,2),(5,3),(21,4)],5⟩),(184,⟨.struct [(3,0),(52,1),(3,6)],7⟩),(29,⟨.slice 52,1⟩),(83,⟨.slice 184,1⟩),(85,⟨.struct [(83,0),(3,1),(3,2),(3,3),(2,4),(26,5),(27,9),(27,10),(27,11)],12⟩),(45,⟨.struct [(42,0),(43,1)],2⟩),(31,⟨.struct [(29,0),(3,1),(27,2)],3⟩),(198,⟨.array 64 4,64⟩),(111,⟨.struct [(2,0),(109,1)],7⟩),(109,⟨.array 6 5,6⟩),(290,⟨.slice 5,1⟩),(224,⟨.int .u64,1⟩),(199,⟨.other,1⟩),(274,⟨.other,1⟩),(126,⟨.other,1⟩),(261,⟨.int .u64,1⟩),(225,⟨.int .u32,1⟩),(9,⟨.string,1⟩),(82,⟨.other,1⟩),(185,⟨.map 3 3,1⟩)]
theorem cT:dY prog runT:=uO.ok
 ⟨⟨by rw[underlying3];rfl,k8⟩,
  ⟨by rw[underlying2];rfl,k8⟩,
  ⟨by rw[underlying5];rfl,k8⟩,
  ⟨by rw[underlying4];rfl,k8⟩,
  ⟨by rw[underlying77];rfl,k8⟩,
  ⟨by rw[underlying32];rfl,k8⟩,
  ⟨by rw[underlying43];rfl,k8⟩,
  ⟨by rw[underlying42];rfl,k8⟩,
  ⟨by rw[underlying172];rfl,k8⟩,
  ⟨by rw[underlying78];rfl,k8⟩,
  ⟨by rw[underlying95];rfl,k8⟩,
  ⟨by rw[underlying22];rfl,k8⟩,
  ⟨by rw[underlying80];rfl,k8⟩,
  ⟨by rw[underlying23];rfl,k8⟩,
  ⟨by rw[underlying24];rfl,k8⟩,
  ⟨by rw[underlying99];rfl,k8⟩,
  ⟨by rw[underlying26];rfl,k8⟩,
  ⟨by rw[underlying201];rfl,k8⟩,
  ⟨by rw[underlying27];rfl,k8⟩,
  ⟨by rw[underlying75];rfl,k8⟩,
  ⟨by rw[underlying37];rfl,k8⟩,
  ⟨by rw[underlying21];rfl,k8⟩,
  ⟨by rw[underlying52];rfl,k8⟩,
  ⟨by rw[underlying184];rfl,k8⟩,
  ⟨by rw[underlying29];rfl,k8⟩,
  ⟨by rw[underlying83];rfl,k8⟩,
  ⟨by rw[underlying85];rfl,k8⟩,
  ⟨by rw[underlying45];rfl,k8⟩,
  ⟨by rw[underlying31];rfl,k8⟩,
  ⟨by rw[underlying198];rfl,k8⟩,
  ⟨by rw[underlying111];rfl,k8⟩,
  ⟨by rw[underlying109];rfl,k8⟩,
  ⟨by rw[underlying290];rfl,k8⟩,
  ⟨by rw[underlying224];rfl,k8⟩,
  ⟨by rw[underlying199];rfl,k8⟩,
  ⟨by rw[underlying274];rfl,k8⟩,
  ⟨by rw[underlying126];rfl,k8⟩,
  ⟨by rw[underlying261];rfl,k8⟩,
  ⟨by rw[underlying225];rfl,k8⟩,
  ⟨by rw[underlying9];rfl,k8⟩,
  ⟨by rw[underlying82];rfl,k8⟩,
  ⟨by rw[underlying185];rfl,k8⟩,e8⟩
theorem insInfo: ∃i:TypeInfo,prog.info? 52=some i/\i.zero=some (.agg #[.int .u8 0,.int .u8 0,.int .u8 0,.int .u8 0,.int .i32 0])/\i.size=5/\i.bytes=8:=by
 have h:(prog.info? 52).map (λi=>(i.zero,i.size,i.bytes))=some (some (.agg #[.int .u8 0,.int .u8 0,.int .u8 0,.int .u8 0,.int .i32 0]),5,8):=k8
 cases hi:prog.info? 52 with
 |none=>simp[hi]at h
 |some i=>simp[hi]at h;exact⟨i,rfl,h.1,h.2.1,h.2.2⟩
theorem pcInfo: ∃i:TypeInfo,prog.info? 184=some i/\i.zero=some (.agg #[.int .i64 0,.int .u8 0,.int .u8 0,.int .u8 0,.int .u8 0,.int .i32 0,.int .i64 0])/\i.size=7/\i.bytes=24:=by
 have h:(prog.info? 184).map (λi=>(i.zero,i.size,i.bytes))=some (some (.agg #[.int .i64 0,.int .u8 0,.int .u8 0,.int .u8 0,.int .u8 0,.int .i32 0,.int .i64 0]),7,24):=k8
 cases hi:prog.info? 184 with
 |none=>simp[hi]at h
 |some i=>simp[hi]at h;exact⟨i,rfl,h.1,h.2.1,h.2.2⟩
theorem bEp{β:dC}{n:Nat}{Γ:Env}{H:List bD}{F:List bC}{Q:Exit->Act->World->Prop}{ops:Array Oper}{rest:List Oper}{o:Oper}{d:Nat}{x:Operand}{m:PcV}(hw:want ops Γ o=some true)(ho:o.op= .buildSlice 83 1 #[(0,x)])(hd:o.dst=some d)(hn:Nat.blt d n=true)
  (hx:Γ.ev x=some (.agg #[.int .i64 m.mark,.int .u8 m.ins.op,.int .u8 m.ins.a,.int .u8 m.ins.b,.int .u8 m.ins.c,.int .i32 m.ins.imm,.int .i64 m.to_])) (k: ∀b,At β n ((d,.slice (some ⟨b,0,none⟩) 1 1)::Γ) (.obj b (.cells (pcE.all [m]).toArray 184)::H) F (wpList prog ops Q rest)):At β n Γ H F (wpList prog ops Q (o::rest)):=by
 obtain⟨i,hi,hz,hs,_⟩:=pcInfo;refine nF hw ho hd hn hx underlying83 hi hz k7 k7 ?_ k;rw[hs]
 kernel_rfl
theorem bDj{β:dC}{n:Nat}{Γ:Env}{H:List bD}{F:List bC}{Q:Exit->Act->World->Prop}{ops:Array Oper}{rest:List Oper}{o:Oper}{d:Nat}{x y:Operand}{c q:Nat}{v:Value}{A:Option Addr}{xs ys:List PcV}{H':List bD}(hH:bW H (pcE.row v 184 xs) H')(hr:dL β H F pcE A ys)(hg:o.guard=none)
  (ho:o.op= .call {callee:= .builtin .append,args:= #[x,y],argTypes:= #[83,83]}) (hd:o.dst=some d) (hn:Nat.blt d n=true)
  (hx:Γ.ev x=some v) (hy:Γ.ev y=some (.slice A q c)) (hq:q=ys.length) (hl:xs.length+ys.length<=5864062014805)
  (k: ∀A' cap',At β n ((d,.slice A' (xs++ys).length cap')::Γ) (pcE.row (.slice A' (xs++ys).length cap') 184 (xs++ys)::H') F (wpList prog ops Q rest)):At β n Γ H F (wpList prog ops Q (o::rest)):=by
 obtain⟨i,hi,hz,hs,hb⟩:=pcInfo;exact jG hH hr hg ho hd hn underlying83 hi hz hs hb rfl hx hy hq k7 m7 k
def rJ.arr(x:rJ):Arr:=⟨x.sides.list,x.data.list⟩
def bLm (x:rJ):bC:=(bGb x.sides).and (bGb x.data)
theorem arrF_s{F:List bC}{x:rJ}(h:Has F (bLm x)):Has F (cF.sl (.slice x.sides.addr x.sides.list.length x.sides.cap) x.sides.list):=xN h.left
theorem arrF_d{F:List bC}{x:rJ}(h:Has F (bLm x)):Has F (cF.sl (.slice x.data.addr x.data.list.length x.data.cap) x.data.list):=xN h.right
theorem arrF_sz{F:List bC}{x:rJ}(h:Has F (bLm x)):Has F (bC.pure (x.sides.list.length<=17592186044416/\x.data.list.length<=17592186044416)):=λS w k=>by
 have h1:x.sides.list.length<=x.sides.cap/\x.sides.list.length*8<=140737488355328:=h.left.right S w k;have h2:x.data.list.length<=x.data.cap/\x.data.list.length*8<=140737488355328:=h.right.right S w k;exact⟨k7,k7⟩
end
section
open Go.RowKit Go.Proofs.Tryz
def w32 (z:Int):Int:=(z+2147483648)%4294967296-2147483648
def hasN (op:Int):List UInt8×List UInt8:=
 if op=0 then ([104,97,108,116],[])else if op=1 then ([102,97,105,108],[105])else if op=7 then ([106,117,109,112],[105])else if op=2 then ([99,111,110,115,116],[97,105])
 else if op=3 then ([104,105,103,104],[97,105])else if op=9 then ([122,101,114,111],[97,105])else if op=4 then ([99,111,112,121],[97,98])else if op=5 then ([108,111,97,100],[97,98,105])
 else if op=6 then ([115,116,111,114,101],[97,98,105])else if op=8 then ([108,101,115,115],[97,98,105])else if op=10 then ([97,100,100],[97,98,105])
 else if 128<=op/\nY ((op-128)%256) true=true then ([116,119,111],[110,97,98,99])else if (64<=op/\op<128)/\nY ((op-64)%256) false=true then ([111,110,101],[110,97,98])else ([],[])
def bEl (i:cX)(c:UInt8):cX:=if c=97 then ⟨i.op,0,i.b,i.c,i.imm⟩else if c=98 then ⟨i.op,i.a,0,i.c,i.imm⟩else if c=99 then ⟨i.op,i.a,i.b,0,i.imm⟩else if c=105 then ⟨i.op,i.a,i.b,i.c,0⟩else i
def vV (i:cX):List UInt8->cX
 |[]=>i
 |c::r=>vV (bEl i c) r
def insEqB(x y:cX):Bool:=(x.op==y.op)&&((x.a==y.a)&&((x.b==y.b)&&((x.c==y.c)&&(x.imm==y.imm))))
def wN (i:cX):Bool:=if (hasN i.op).1=[]\/16<=i.a\/16<=i.b\/16<=i.c then false else insEqB (vV i (hasN i.op).2) ⟨i.op,0,0,0,0⟩
def zY (i:cX):Bool:=decide (i.op=7\/i.op=8\/i.op=9)
def jO (p:PcV):Bool:=if p.mark<0\/p.to_<0\/wN p.ins=false then false else decide (p.to_=0) || (zY p.ins&&decide (p.ins.imm=0))
abbrev rT:=List (Int×Int)
def tU (k:Int):rT->Option Int
 |[]=>none
 |p::r=>if k==p.1 then some p.2 else tU k r
def setK (k z:Int):rT->rT
 |[]=>[(k,z)]
 |p::r=>if k==p.1 then (k,z)::r else p::setK k z r
def delK (k:Int):rT->rT
 |[]=>[]
 |p::r=>if k==p.1 then r else p::delK k r
def marksGo:List PcV->Nat->rT->Except (Nat×Int) rT
 |[],_,m=> .ok m
 |p::r,i,m=>if jO p=false then .error (i,170)else match tU p.mark m with
  |some _=> .error (i,171)
  |none=>marksGo r (i+1) (delK 0 (setK p.mark (i:Int) m))
def placeGoL(m:rT):List PcV->Nat->List cX->Except (Nat×Int) (List cX)
 |[],_,out=> .ok out
 |p::r,i,out=>if p.to_=0 then placeGoL m r (i+1) (out++[p.ins])else match tU p.to_ m with
  |none=> .error (i,172)
  |some k=>placeGoL m r (i+1) (out++[{p.ins with imm:=w32 k}])
def sK (l:List PcV):Except (Nat×Int) (List cX):=if 32768<l.length then .error (0,173)else match marksGo l 0 []with
 |.error e=> .error e
 |.ok m=>placeGoL m l 0 []
def bRk (l:List PcV):Int×Int:=match sK l with
 |.error e=>((e.1:Nat),e.2)
 |.ok _=>(0,0)
def yU (l:List PcV):List cX:=match sK l with
 |.ok o=>o
 |.error _=>[]
structure GnS where
 l:List PcV
 marks:Nat
 next:Nat
 deriving Inhabited
structure GnM where
 fail:Nat
 frame:Int
 dims:List Int
 at_:List Int
 size:List Int
def fL (i:cX)(dst:Nat)(s:GnS):GnS:=⟨s.l++[⟨(s.next:Nat),i,(dst:Nat)⟩],s.marks,0⟩
def markG (s:GnS):GnS:=⟨s.l,s.marks+1,s.next⟩
def bGs (k:Nat)(s:GnS):GnS:=⟨s.l,s.marks,k⟩
def hereG (k:Nat)(s:GnS):GnS:=bGs k (if 0<s.next then fL ⟨4,0,0,0,0⟩ 0 s else s)
def pU (dst:Nat)(s:GnS):GnS:=fL ⟨7,0,0,0,0⟩ dst s
def zA (a b:Int)(dst:Nat)(s:GnS):GnS:=fL ⟨8,a,b,0,0⟩ dst s
def tN (a b:Int)(s:GnS):GnS:=fL ⟨4,a,b,0,0⟩ 0 s
def numG (a n:Int)(s:GnS):GnS:=if w32 n=n then fL ⟨2,a,0,0,w32 n⟩ 0 s else fL ⟨3,a,0,0,w32 n⟩ 0 (fL ⟨2,a,0,0,w32 (n/4294967296)⟩ 0 s)
def yW (fr:Int)(k:Nat):Int:=w32 (w32 fr+w32 ((k:Int)-6))
def gL (k:Nat)(spare:Int):Int:=if k<6 then ((8+k:Nat):Int)else spare
def mH (fr:Int)(k:Nat)(spare:Int)(s:GnS):GnS:=if k<6 then s else fL ⟨5,spare,0,0,yW fr k⟩ 0 s
def lH (fr:Int)(k:Nat)(into:Int->GnS->GnS)(s:GnS):GnS:=if k<6 then into ((8+k:Nat):Int) s else fL ⟨6,14,0,0,yW fr k⟩ 0 (into 14 s)
def mR (fail:Nat)(a n:Int)(s:GnS):GnS:=hereG (s.marks+1) (pU fail (zA a 6 (s.marks+1) (numG 6 n (markG s))))
def iP (how:Int)(n:Nat):Nat:=if how=5 then n else if how=6 then n-1 else if how=4 then n else n+1
def u8m (z:Int):Int:=z%256
def nJ (ds:List Int)(p:List Mono):Int:=if (bH p ds).2=0 then (bH p ds).1 else 0
def opG (M:GnM)(o:OpC)(n:Nat)(s:GnS):GnS:=
 if o.how=1 then lH M.frame n (λa=>numG a o.n) s
 else if o.how=2 then lH M.frame n (λa=>numG a (nJ M.dims o.p)) (if (bH o.p M.dims).2=0 then s else pU M.fail s)
 else if o.how=3 then lH M.frame n (λa=>tN a (u8m (1+o.k))) s
 else if o.how=4 then lH M.frame (n-1) (λa=>fL ⟨5,a,gL (n-1) 14,0,w32 (M.at_.getD o.k.toNat 0)⟩ 0) (mR M.fail (gL (n-1) 14) (M.size.getD o.k.toNat 0) (zA (gL (n-1) 14) 0 M.fail (mH M.frame (n-1) 14 s)))
 else if o.how=5 then lH M.frame (n-1) (λa=>fL ⟨u8m (64+o.fn),a,gL (n-1) 14,0,0⟩ 0) (mH M.frame (n-1) 14 s)
 else if o.how=6 then lH M.frame (n-2) (λa=>fL ⟨u8m (128+o.fn),a,gL (n-2) 14,gL (n-1) 15,0⟩ 0) (mH M.frame (n-1) 15 (mH M.frame (n-2) 14 s))
 else s
def opsG (M:GnM):List OpC->Nat->GnS->GnS
 |[],_,s=>s
 |o::r,n,s=>opsG M r (iP o.how n) (opG M o n s)
def foldG (f index:Int)(s:GnS):GnS:=hereG (s.marks+2) (tN 7 8 (hereG (s.marks+1) (pU (s.marks+2) (fL ⟨u8m (128+f),7,7,8,0⟩ 0 (fL ⟨9,index,0,0,0⟩ (s.marks+1) (markG (markG s)))))))
def againG(index n:Int)(dst:Nat)(s:GnS):GnS:=zA index 6 dst (numG 6 n (fL ⟨10,index,index,0,1⟩ 0 s))
def storeG(M:GnM)(x:cP)(a:Int)(s:GnS):GnS:=
 if (bH x.at_ M.dims).2≠0\/M.size.getD x.buf.toNat 0<=(bH x.at_ M.dims).1 then pU M.fail s
 else fL ⟨10,5,5,0,1⟩ 0 (fL ⟨6,a,5,0,w32 (M.at_.getD x.buf.toNat 0+(bH x.at_ M.dims).1)⟩ 0 (mR M.fail 5 (M.size.getD x.buf.toNat 0-(bH x.at_ M.dims).1) s))
def zerosG:Nat->Nat->GnS->GnS
 |0,_,s=>s
 |n+1,k,s=>zerosG n (k+1) (numG ((1+k:Nat):Int) 0 s)
def endsG (outer:List Int)(top:Nat):Nat->GnS->GnS
 |0,s=>s
 |k+1,s=>endsG outer top k (numG ((1+k:Nat):Int) 0 (againG ((1+k:Nat):Int) (outer.getD k 0) top s))
def rZ (M:GnM)(x:cP)(loops:List Int)(s:GnS):GnS:=
 if x.how=1 then storeG M x 8 (opsG M x.ops 0 s)
 else if x.how=3 then storeG M x 7 (foldG x.fn (loops.length:Nat) (opsG M x.ops 0 s))
 else if loops.getLastD 0=0 then storeG M x 7 (numG 7 (unitW x.fn).1 s)
 else
  let s1:=markG (numG (loops.length:Nat) 0 s)
  storeG M x 7 (againG (loops.length:Nat) (loops.getLastD 0) s1.marks (foldG x.fn (loops.length:Nat) (opsG M x.ops 0 (hereG s1.marks s1))))
def xH (x:cP)(loops:List Int):List Int:=if x.how=2 then loops.dropLast else loops
def oK (M:GnM)(x:cP)(s:GnS):GnS:=
 let loops:=x.loops.map λp=>(bH p M.dims).1
 let outer:=xH x loops
 if outer.contains 0=true then s
 else
  let s1:=markG (zerosG outer.length 0 (numG 5 0 s))
  endsG outer s1.marks outer.length (rZ M x loops (hereG s1.marks s1))
def stepsG(M:GnM):List cP->GnS->GnS
 |[],s=>s
 |x::r,s=>stepsG M r (oK M x s)
def turnG (fold:Bool)(dims:List Int):List (List Mono)->Int->Option Int
 |[],n=>some n
 |p::r,n=>if (bH p dims).2≠0\/65536<(bH p dims).1 then none
  else turnG fold dims r (if (if fold=true/\r=[]then (bH p dims).1+1 else (bH p dims).1)=0 then 0 else min (n*(if fold=true/\r=[]then (bH p dims).1+1 else (bH p dims).1)) 4194304)
def turnsG(dims:List Int):List cP->Int->Bool
 |[],_=>true
 |x::r,all=>match turnG (x.how==2) dims x.loops (x.ops.length:Nat)with
  |none=>false
  |some n=>if 2097152<all+n then false else turnsG dims r (all+n)
def opsCount(c:dE):Nat:=(c.steps.map (·.ops.length)).sum
def deepGo:List cP->Int->Int
 |[],d=>d
 |x::r,d=>deepGo r (max d (kL x.ops-6))
structure GnB (n:Nat) (s:GnS):Prop where
 l:s.l.length<=n
 m:s.marks<=n
 x:s.next<=n
section
variable {n n' k : Nat} {s : GnS}
theorem GnB.le(h:GnB n s)(k:n<=n'):GnB n' s:=⟨Nat.le_trans h.l k,Nat.le_trans h.m k,Nat.le_trans h.x k⟩
theorem fO{i:cX}{dst:Nat}(h:GnB n s):GnB (n+1) (fL i dst s):=⟨by have:=h.l;simp[fL];omega,by have:=h.m;show s.marks<=_;omega,Nat.zero_le _⟩
theorem mQ(h:GnB n s):GnB (n+1) (markG s):=⟨by have:=h.l;show s.l.length<=_;omega,by have:=h.m;show s.marks+1<=_;omega,by have:=h.x;show s.next<=_;omega⟩
theorem gb_next(h:GnB n s)(hk:k<=n):GnB n (bGs k s):=⟨h.l,h.m,hk⟩
theorem mT(h:GnB n s)(hk:k<=n+1):GnB (n+1) (hereG k s):=by
 unfold hereG;refine gb_next ?_ hk;split
 .exact fO h
 .exact h.le k7
theorem qT{dst:Nat}(h:GnB n s):GnB (n+1) (pU dst s):=fO h
theorem yO{a b:Int}{dst:Nat}(h:GnB n s):GnB (n+1) (zA a b dst s):=fO h
theorem bHo{a b:Int}(h:GnB n s):GnB (n+1) (tN a b s):=fO h
theorem iX{a z:Int}(h:GnB n s):GnB (n+2) (numG a z s):=by
 unfold numG;split
 .exact(fO h).le k7
 .exact fO (fO h)
theorem iH{fr sp:Int}(h:GnB n s):GnB (n+1) (mH fr k sp s):=by
 unfold mH;split
 .exact h.le k7
 .exact fO h
def IntoB (I:Int->GnS->GnS):Prop:= ∀(a:Int) (n:Nat) (s:GnS),GnB n s->GnB (n+2) (I a s)
theorem oO{fr:Int}{I:Int->GnS->GnS}(hI:IntoB I)(h:GnB n s):GnB (n+3) (lH fr k I s):=by
 unfold lH;split
 .exact(hI _ _ _ h).le k7
 .exact fO (hI _ _ _ h)
theorem yB{f:Nat}{a z:Int}(h:GnB n s):GnB (n+6) (mR f a z s):=by
 have:=h.m;exact mT (qT (yO (iX (mQ h)))) k7
theorem pV{z:Int}:IntoB λa=>numG a z:=λ_ _ _ h=>iX h
theorem bEt{z:Int}:IntoB λa=>tN a z:=λ_ _ _ h=>(bHo h).le k7
theorem nZ{I:Int->cX}:IntoB λa=>fL (I a) 0:=λ_ _ _ h=>(fO h).le k7
theorem gb_op{M:GnM}{o:OpC}(h:GnB n s):GnB (n+12) (opG M o k s):=by
 unfold opG;split
 .exact(oO pV h).le k7
 .split
  .refine(oO (n:=n+1) pV ?_).le k7;split
   .exact h.le k7
   .exact qT h
  .split
   .exact(oO bEt h).le k7
   .split
    .exact(oO (n:=n+8) nZ ((yB (yO (iH h))).le k7)).le k7
    .split
     .exact(oO nZ (iH h)).le k7
     .split
      .exact(oO nZ (iH (iH h))).le k7
      .exact h.le k7
theorem bAi{M:GnM}: ∀{l:List OpC} {n k:Nat} {s:GnS},GnB n s->GnB (n+12*l.length) (opsG M l k s)
 |[],_,_,_,h=>h
 |o::r,n,k,s,h=>(bAi (gb_op h)).le (by rw[List.length_cons];omega)
theorem bHj{f i:Int}(h:GnB n s):GnB (n+8) (foldG f i s):=by
 have:=h.m;exact(mT (bHo (mT (qT (fO (fO (mQ (mQ h))))) k7)) k7).le k7
theorem rH{i z:Int}{dst:Nat}(h:GnB n s):GnB (n+4) (againG i z dst s):=yO (iX (fO h))
theorem pP{M:GnM}{x:cP}{a:Int}(h:GnB n s):GnB (n+8) (storeG M x a s):=by
 unfold storeG;split
 .exact(qT h).le k7
 .exact fO (fO (yB h))
theorem gb_zeros: ∀{m k n:Nat} {s:GnS},GnB n s->GnB (n+2*m) (zerosG m k s)
 |0,_,_,_,h=>h
 |m+1,k,n,s,h=>(gb_zeros (iX h)).le k7
theorem gb_ends{o:List Int}{t:Nat}: ∀{m n:Nat} {s:GnS},GnB n s->GnB (n+6*m) (endsG o t m s)
 |0,_,_,h=>h
 |m+1,n,s,h=>(gb_ends (iX (rH h))).le k7
theorem gb_body{M:GnM}{x:cP}{lo:List Int}(h:GnB n s):GnB (n+24+12*x.ops.length) (rZ M x lo s):=by
 unfold rZ;split
 .exact(pP (bAi h)).le k7
 .split
  .exact(pP (bHj (bAi h))).le k7
  .split
   .exact(pP (iX h)).le k7
   .have h1:=mQ (iX (a:=(lo.length:Nat)) (z:=0) h);exact(pP (rH (bHj (bAi (mT h1 (by have:=h1.m;omega)))))).le k7
theorem gb_step{M:GnM}{x:cP}(hl:x.loops.length<=4)(h:GnB n s):GnB (n+60+12*x.ops.length) (oK M x s):=by
 unfold oK;dsimp only;split
 .exact h.le k7
 .have h1:=mQ (gb_zeros (m:=(xH x (x.loops.map λp=>(bH p M.dims).1)).length) (k:=0) (iX (a:=5) (z:=0) h))
  have ho:(xH x (x.loops.map λp=>(bH p M.dims).1)).length<=4:=by
   unfold xH;split
   .simp;omega
   .simp;omega
  exact(gb_ends (gb_body (mT h1 (by have:=h1.m;omega)))).le k7
end
theorem kY(z:Int):IntKind.i32.wrap z=w32 z:=by
 unfold w32;simp only[IntKind.wrap,IntKind.signed,IntKind.bits];simp;omega
theorem rS(z:Int):IntKind.u8.wrap z=u8m z:=by
 unfold u8m;simp only[IntKind.wrap,IntKind.signed,IntKind.bits];simp
theorem w32_in(z:Int): -2147483648<=w32 z/\w32 z<2147483648:=by unfold w32;omega
theorem w32_u(z:Int):IntKind.i32.wrap (IntKind.u32.wrap (IntKind.u64.wrap z))=w32 z:=by
 unfold w32;simp only[IntKind.wrap,IntKind.signed,IntKind.bits];simp;omega
theorem gE{z:Int}{k:Nat}(h:z=(k:Nat))(hk:k<256):IntKind.u8.wrap z=(k:Nat):=by
 subst h;rw[rS];unfold u8m;omega
section
variable {P : Program} {β : dC} {n : Nat} {Γ : Env} {H : List bD} {F : List bC} {o : Oper}
theorem sti_shr32{t tt:TypeId}{x y:Operand}{k k':IntKind}{a:Int}(ho:o.op= .binOp .shr t x y tt)(hx:Γ.ev x=some (.int k a))(hy:Γ.ev y=some (.int k' 32))(hk:32<=k.bits):Sti P β n Γ H F o (.int k (a.fdiv 4294967296)):=λc w S f s _=>by
 unfold execOp;simp only[ho,f.ev hx,f.ev hy];have e:min 32 k.bits=32:=k7
 simp[eqGuard,binOp,Op.shift,e]
end
theorem high_num(z:Int):IntKind.i32.wrap (z.fdiv 4294967296)=w32 (z/4294967296):=by
 rw[kY,Int.fdiv_eq_ediv_of_nonneg _ k7]
def MkV.st(m:MkV)(a:Option Addr×Nat)(s:GnS):MkV:=⟨⟨a.1,a.2,s.l⟩,s.marks,s.next,m.fail,m.frame,m.core,m.dims,m.at_,m.size⟩
def mkO (mb:Nat)(x:MkV):bD:= .obj mb (.cells ([.slice x.l.addr x.l.list.length x.l.cap,.int .i64 (x.marks:Nat),.int .i64 (x.next:Nat),.int .i64 (x.fail:Nat),.int .i64 x.frame,.int .i64 x.core.vars,.slice x.core.bufs.addr x.core.bufs.list.length x.core.bufs.cap,.slice x.core.steps.addr x.core.steps.list.length x.core.steps.cap,.slice x.core.outs.addr x.core.outs.list.length x.core.outs.cap,.slice x.dims.addr x.dims.list.length x.dims.cap,.slice x.at_.addr x.at_.list.length x.at_.cap,.slice x.size.addr x.size.list.length x.size.cap]:List Value).toArray 85)
def mkS (x:MkV):bD:=pcE.row (.slice x.l.addr x.l.list.length x.l.cap) 184 x.l.list
def MkV.M (m:MkV):GnM:=⟨m.fail,m.frame,m.dims.list,m.at_.list,m.size.list⟩
section
variable {P : Program} {ops : Array Oper} {md : Region.Mode} {C : World -> Prop} {Q : Exit -> Act -> World -> Prop} {R : List PanicEntry -> World -> Prop}
def NmP (R:List PanicEntry->World->Prop)(K:Act->World->Prop):Exit->Act->World->Prop:=λe a w=>(e= .normal/\K a w)\/ ∃ch,e= .panic ch/\R ch w
theorem NmP.out{K:Act->World->Prop}(h:LetsOut (NmP R K)):False:=by
 obtain⟨_,_,h⟩:=h
 rcases h with ⟨h,_⟩|⟨_,h,_⟩<;>cases h
theorem NmP.nm{K:Act->World->Prop}{a:Act}{w:World}(h:NmP R K .normal a w):K a w:=by
 rcases h with h|⟨_,h,_⟩
 .exact h.2
 .cases h
end
theorem mB(z0:Int)(v1_0 v1_1 v1_2 v1_3 v1_4:Value)(z2:Int):prog.built 184 [(0,.int .i64 z0),(1,.agg #[v1_0,v1_1,v1_2,v1_3,v1_4]),(2,.int .i64 z2)]=some #[.int .i64 z0,v1_0,v1_1,v1_2,v1_3,v1_4,.int .i64 z2]:=k8
theorem oN(z0:Int):prog.built 52 [(0,.int .u8 z0)]=some #[.int .u8 z0,.int .u8 0,.int .u8 0,.int .u8 0,.int .i32 0]:=k8
theorem nI(z0:Int)(z1:Int)(z2:Int):prog.built 52 [(0,.int .u8 z0),(1,.int .u8 z1),(2,.int .u8 z2)]=some #[.int .u8 z0,.int .u8 z1,.int .u8 z2,.int .u8 0,.int .i32 0]:=k8
theorem gX(z0:Int)(z1:Int)(z4:Int):prog.built 52 [(0,.int .u8 z0),(1,.int .u8 z1),(4,.int .i32 z4)]=some #[.int .u8 z0,.int .u8 z1,.int .u8 0,.int .u8 0,.int .i32 z4]:=k8
theorem fQ(mb:Nat)(m:MkV)(a:Option Addr×Nat)(s:GnS)(hB:GnB 1000000 s)(i:cX)(dst:Nat):cE prog 28 [.pointer (some ⟨mb,0,none⟩),.agg #[.int .u8 i.op,.int .u8 i.a,.int .u8 i.b,.int .u8 i.c,.int .i32 i.imm],.int .i64 (dst:Nat)] [mkO mb (m.st a s),mkS (m.st a s)] [] (λ(_:Option Addr×Nat)=> .tuple #[]) (λ(x:Option Addr×Nat)=>[mkO mb (m.st x (fL i dst s)),mkS (m.st x (fL i dst s))]) (λ_=>[]):=by
 have hT:=cT;have hBl:=hB.l;have hBm:=hB.m;have hBx:=hB.x;refine j2 func28 ntmps28 ?_;intro β hM;refine g2 ?_;refine j0 λb1=>?_;refine g3 ?_;refine at_mixT _ _ (.fl 0 (.fl 1 (.fl 2 (.fl 3 (.fl 5 (.fl 6 (.fl 7 (.fl 9 (.fl 10 (.two 4 8 (.op 8 (.fl 11 (.op 12 (.op 13 (.fl 14 (.fl 15 (.op 16 .nil))))))) (.fl 11 (.two 4 12 (.op 12 (.op 13 (.fl 14 (.fl 15 (.op 16 .nil))))) (.op 4 (.op 13 (.fl 14 (.fl 15 (.op 16 .nil))))))))))))))))) dW l8 (.c0 .nil) bA.self ?_;refine g9 ?_;refine uL (o:=_) (o':=_) rfl rfl ?_ ?_
 .refine g5 ?_;refine sqT rfl (cK rfl rfl (mB _ _ _ _ _ _ _)) ?_;refine one ?_;refine bEp (m:=(⟨(s.next:Nat),i,(dst:Nat)⟩:PcV)) rfl rfl rfl rfl rfl λb2=>?_;refine g2 ?_;refine bDj kT3 (gB .head rfl) rfl rfl rfl rfl rfl rfl rfl s8 λA3 c4=>?_;refine g14 ?_;exact cR (A3,c4) rfl (.c0 (.c0 .nil)) e8 rfl
 refine g2 ?_;refine sqT rfl (cK rfl rfl (mB _ _ _ _ _ _ _)) ?_;refine uL (o:=_) (o':=_) rfl rfl ?_ ?_
 .refine g3 ?_;refine bEp (m:=(⟨(s.next:Nat),i,(dst:Nat)⟩:PcV)) rfl rfl rfl rfl rfl λb5=>?_;refine g2 ?_;refine bDj kT3 (gB .head rfl) rfl rfl rfl rfl rfl rfl rfl s8 λA6 c7=>?_;refine g14 ?_;exact cR (A6,c7) rfl (.c0 (.c0 .nil)) e8 rfl
 refine bEp (m:=(⟨(s.next:Nat),i,(dst:Nat)⟩:PcV)) rfl rfl rfl rfl rfl λb8=>?_;refine g5 ?_;refine bDj kT3 (gB .head rfl) rfl rfl rfl rfl rfl rfl rfl s8 λA9 c10=>?_;refine g14 ?_;exact cR (A9,c10) rfl (.c0 (.c0 .nil)) e8 rfl
theorem oU(mb:Nat)(m:MkV)(a:Option Addr×Nat)(s:GnS)(hB:GnB 1000000 s):cE prog 25 [.pointer (some ⟨mb,0,none⟩)] [mkO mb (m.st a s),mkS (m.st a s)] [] (λ(_:Option Addr×Nat)=> .int .i64 ((s.marks+1:Nat):Int)) (λ(x:Option Addr×Nat)=>[mkO mb (m.st x (markG s)),mkS (m.st x (markG s))]) (λ_=>[]):=by
 have hT:=cT;have hBl:=hB.l;have hBm:=hB.m;have hBx:=hB.x;refine j2 func25 ntmps25 ?_;intro β hM;refine g11 ?_;refine bN (z':=((s.marks:Nat):Int)) rfl ?_;refine one ?_;refine inc (s.marks+1) ?_;refine g11 ?_;refine bN (z':=((s.marks+1:Nat):Int)) rfl ?_;refine g4 ?_;exact rs1 a trivial
theorem oV(mb:Nat)(m:MkV)(a:Option Addr×Nat)(s:GnS)(hB:GnB 999900 s)(k:Nat):cE prog 29 [.pointer (some ⟨mb,0,none⟩),.int .i64 (k:Nat)] [mkO mb (m.st a s),mkS (m.st a s)] [] (λ(_:Option Addr×Nat)=> .tuple #[]) (λ(x:Option Addr×Nat)=>[mkO mb (m.st x (hereG k s)),mkS (m.st x (hereG k s))]) (λ_=>[]):=by
 have hT:=cT;have hBl:=hB.l;have hBm:=hB.m;have hBx:=hB.x;refine j2 func29 ntmps29 ?_;intro β hM;refine g10 ?_;refine dH (λhc8=>?_) λhc8=>?_
 .refine g2 ?_;refine ss (cK rfl rfl (oN _)) ?_;refine bF func28 (fQ mb m a _ (hB.le k7) (⟨4,0,0,0,0⟩:cX) 0) rfl rfl (.c0 (.c0 .nil)) e8 λy1=>?_;have hB2:=fO (i:=(⟨4,0,0,0,0⟩:cX)) (dst:=0) hB;refine g9 ?_;have hE:hereG k s=bGs k (fL (⟨4,0,0,0,0⟩:cX) 0 (s)):=by unfold hereG;rw[if_pos (by have h:=hc8;change (0:Int)<(s.next:Nat)at h;omega)]
  rw[show(λx:Option Addr×Nat=>[mkO mb (m.st x (hereG k s)),mkS (m.st x (hereG k s))])=λx=>[mkO mb (m.st x (bGs k (fL (⟨4,0,0,0,0⟩:cX) 0 (s)))),mkS (m.st x (bGs k (fL (⟨4,0,0,0,0⟩:cX) 0 (s))))] by rw[hE]];exact cR y1 rfl (.c0 (.c0 .nil)) e8 rfl
 refine g9 ?_;have hE:hereG k s=bGs k (s):=by unfold hereG;rw[if_neg (by have h:=hc8;change ((s.next:Nat):Int)<=0 at h;omega)]
 rw[show(λx:Option Addr×Nat=>[mkO mb (m.st x (hereG k s)),mkS (m.st x (hereG k s))])=λx=>[mkO mb (m.st x (bGs k (s))),mkS (m.st x (bGs k (s)))] by rw[hE]];exact cR a rfl (.c0 (.c0 .nil)) e8 rfl
theorem tX(mb:Nat)(m:MkV)(a:Option Addr×Nat)(s:GnS)(hB:GnB 999900 s)(dst:Nat):cE prog 132 [.pointer (some ⟨mb,0,none⟩),.int .i64 (dst:Nat)] [mkO mb (m.st a s),mkS (m.st a s)] [] (λ(_:Option Addr×Nat)=> .tuple #[]) (λ(x:Option Addr×Nat)=>[mkO mb (m.st x (pU dst s)),mkS (m.st x (pU dst s))]) (λ_=>[]):=by
 have hT:=cT;refine j2 func132 ntmps132 ?_;intro β hM;refine g2 ?_;refine ss (cK rfl rfl (oN _)) ?_;refine one ?_;refine bF func28 (fQ mb m a _ (hB.le k7) (⟨7,0,0,0,0⟩:cX) dst) rfl rfl (.c0 (.c0 .nil)) e8 λy1=>?_;have hB2:=fO (i:=(⟨7,0,0,0,0⟩:cX)) (dst:=dst) hB;refine iY ?_;exact cR y1 rfl (.c0 (.c0 .nil)) e8 rfl
theorem bCz(mb:Nat)(m:MkV)(a:Option Addr×Nat)(s:GnS)(hB:GnB 999900 s)(p q:Int)(dst:Nat):cE prog 137 [.pointer (some ⟨mb,0,none⟩),.int .u8 p,.int .u8 q,.int .i64 (dst:Nat)] [mkO mb (m.st a s),mkS (m.st a s)] [] (λ(_:Option Addr×Nat)=> .tuple #[]) (λ(x:Option Addr×Nat)=>[mkO mb (m.st x (zA p q dst s)),mkS (m.st x (zA p q dst s))]) (λ_=>[]):=by
 have hT:=cT;refine j2 func137 ntmps137 ?_;intro β hM;refine g4 ?_;refine ss (cK rfl rfl (nI _ _ _)) ?_;refine one ?_;refine bF func28 (fQ mb m a _ (hB.le k7) (⟨8,p,q,0,0⟩:cX) dst) rfl rfl (.c0 (.c0 .nil)) e8 λy1=>?_;have hB2:=fO (i:=(⟨8,p,q,0,0⟩:cX)) (dst:=dst) hB;refine iY ?_;exact cR y1 rfl (.c0 (.c0 .nil)) e8 rfl
theorem bKz(mb:Nat)(m:MkV)(a:Option Addr×Nat)(s:GnS)(hB:GnB 999900 s)(p q:Int):cE prog 135 [.pointer (some ⟨mb,0,none⟩),.int .u8 p,.int .u8 q] [mkO mb (m.st a s),mkS (m.st a s)] [] (λ(_:Option Addr×Nat)=> .tuple #[]) (λ(x:Option Addr×Nat)=>[mkO mb (m.st x (tN p q s)),mkS (m.st x (tN p q s))]) (λ_=>[]):=by
 have hT:=cT;refine j2 func135 ntmps135 ?_;intro β hM;refine g4 ?_;refine ss (cK rfl rfl (nI _ _ _)) ?_;refine bF func28 (fQ mb m a _ (hB.le k7) (⟨4,p,q,0,0⟩:cX) 0) rfl rfl (.c0 (.c0 .nil)) e8 λy1=>?_;have hB2:=fO (i:=(⟨4,p,q,0,0⟩:cX)) (dst:=0) hB;refine iY ?_;exact cR y1 rfl (.c0 (.c0 .nil)) e8 rfl
theorem fU(mb:Nat)(m:MkV)(a:Option Addr×Nat)(s:GnS)(hB:GnB 999900 s)(p z:Int):cE prog 68 [.pointer (some ⟨mb,0,none⟩),.int .u8 p,.int .i64 z] [mkO mb (m.st a s),mkS (m.st a s)] [] (λ(_:Option Addr×Nat)=> .tuple #[]) (λ(x:Option Addr×Nat)=>[mkO mb (m.st x (numG p z s)),mkS (m.st x (numG p z s))]) (λ_=>[]):=by
 have hT:=cT;have hw:=w32_in z;refine j2 func68 ntmps68 ?_;intro β hM;refine g5 ?_;refine bN (z':=w32 z) (kY _) ?_;refine one ?_;refine bN (z':=w32 z) (mF k7 k7) ?_;refine g4 ?_;refine jN (λhc10=>?_) λhc10=>?_
 .refine g6 ?_;refine bN (z':=w32 z) (kY _) ?_;refine ss (cK rfl rfl (gX _ _ _)) ?_;refine bF func28 (fQ mb m a _ (hB.le k7) (⟨2,p,0,0,w32 z⟩:cX) 0) rfl rfl (.c0 (.c0 .nil)) e8 λy1=>?_;have hB2:=fO (i:=(⟨2,p,0,0,w32 z⟩:cX)) (dst:=0) hB;refine g4 ?_;rw[show numG p z s=fL (⟨2,p,0,0,w32 z⟩:cX) 0 (s) by unfold numG;rw[if_pos k7]];exact cR y1 rfl (.c0 (.c0 .nil)) e8 rfl
 refine g7 ?_;refine ss (sti_shr32 rfl rfl rfl m7) ?_;refine one ?_;refine bN (z':=w32 (z/4294967296)) (high_num _) ?_;refine ss (cK rfl rfl (gX _ _ _)) ?_;refine bF func28 (fQ mb m a _ (hB.le k7) (⟨2,p,0,0,w32 (z/4294967296)⟩:cX) 0) rfl rfl (.c0 (.c0 .nil)) e8 λy3=>?_;have hB4:=fO (i:=(⟨2,p,0,0,w32 (z/4294967296)⟩:cX)) (dst:=0) hB;refine g9 ?_;refine bN (z':=w32 z) (w32_u _) ?_;refine ss (cK rfl rfl (gX _ _ _)) ?_;refine bF func28 (fQ mb m y3 _ (hB4.le k7) (⟨3,p,0,0,w32 z⟩:cX) 0) rfl rfl (.c0 (.c0 .nil)) e8 λy5=>?_;have hB6:=fO (i:=(⟨3,p,0,0,w32 z⟩:cX)) (dst:=0) hB4;refine iY ?_;rw[show numG p z s=fL (⟨3,p,0,0,w32 z⟩:cX) 0 (fL (⟨2,p,0,0,w32 (z/4294967296)⟩:cX) 0 (s)) by unfold numG;rw[if_neg k7]];exact cR y5 rfl (.c0 (.c0 .nil)) e8 rfl
theorem gO(mb:Nat)(m:MkV)(a:Option Addr×Nat)(s:GnS)(hB:GnB 999900 s)(k:Nat)(hk:k<=1000000)(sp:Int):cE prog 136 [.pointer (some ⟨mb,0,none⟩),.int .i64 (k:Nat),.int .u8 sp] [mkO mb (m.st a s),mkS (m.st a s)] [] (λ(_:Option Addr×Nat)=> .int .u8 (gL k sp)) (λ(x:Option Addr×Nat)=>[mkO mb (m.st x (mH m.frame k sp s)),mkS (m.st x (mH m.frame k sp s))]) (λ_=>[]):=by
 have hT:=cT;refine j2 func136 ntmps136 ?_;intro β hM;refine g12 ?_;refine dH (λhc8=>?_) λhc8=>?_
 .refine g4 ?_;refine inc (8+k) ?_;refine one ?_;refine bN (z':=((8+k:Nat):Int)) (gE k7 k7) ?_;refine g5 ?_;have hE:mH m.frame k sp s=s:=by unfold mH;exact if_pos k7
  have hR:gL k sp=((8+k:Nat):Int):=by unfold gL;exact if_pos k7
  rw[hE,hR];exact rs1 a trivial
 refine g11 ?_;refine bN (z':=w32 m.frame) (kY _) ?_;refine g2 ?_;refine bN (z':=(k:Int)-6) (mF k7 k7) ?_;refine one ?_;refine bN (z':=w32 ((k:Int)-6)) (kY _) ?_;refine one ?_;refine bN (z':=yW m.frame k) (kY _) ?_;refine ss (cK rfl rfl (gX _ _ _)) ?_;refine bF func28 (fQ mb m a _ (hB.le k7) (⟨5,sp,0,0,yW m.frame k⟩:cX) 0) rfl rfl (.c0 (.c0 .nil)) e8 λy1=>?_;have hB2:=fO (i:=(⟨5,sp,0,0,yW m.frame k⟩:cX)) (dst:=0) hB;refine g9 ?_;have hE:mH m.frame k sp s=fL (⟨5,sp,0,0,yW m.frame k⟩:cX) 0 (s):=by unfold mH;exact if_neg k7
 have hR:gL k sp=sp:=by unfold gL;exact if_neg k7
 rw[hE,hR];exact rs1 y1 trivial
section
variable {P : Program} {β : dC} {n : Nat} {Γ : Env} {H : List bD} {F : List bC} {Q : Exit -> Act -> World -> Prop}
theorem run_inv{o:Oper}{f:FuncId}{r:Operand}{name:String}{ars:Array Operand}{ts:Array TypeId}{us:List Value}{t:TypeId}{v q:Value}{a:Act}{w:World}(hcf: ∀(args:Array Value) (w:World),(callFunc f args).run P w= .ok (.enter f args) w)(ho:o.op= .call ⟨.invoke r name,ars,ts⟩)(fi:Fits n Γ a)
  (hr:Γ.ev r=some (.iface t v)) (hm:(method (P.types.size+Made.depth) t v name).run P w= .ok (f,q) w) (hv:Γ.evs ars.toList=some us):(execOp a.eval o).run P w= .ok (.enter f (q::us).toArray) w:=by
 have hargs:ars.map a.eval=us.toArray:=by
  apply Array.ext'
  simpa using fi.evs hv
 have hrecv:a.eval r= .iface t v:=fi.ev hr
 have e0:(#[a.eval r]++ars.map a.eval)[0]?=some (.iface t v):=by
  rw[Array.getElem?_append_left m9,hrecv];rfl
 have e1:(#[a.eval r]++ars.map a.eval).extract 1 (#[a.eval r]++ars.map a.eval).size=us.toArray:=by
  rw[hargs];apply Array.ext';simp only[List.size_toArray,Array.size_append];simp[List.take_of_length_le]
 have hp:(program:Sem Program).run P w= .ok P w:=rfl;unfold execOp;simp only[ho,resolve,Sem.run_bind,Sem.run_pure,Result.andThen_ok,invoke,e0,e1,callMethod,hp,hm];have:=hcf (q::us).toArray w
 simpa using this
theorem gP{ι:Type}{ops:Array Oper}{rest:List Oper}{o:Oper}{d:Nat}{f:FuncId}{r:Operand}{name:String}{ars:Array Operand}{ts:Array TypeId}{us:List Value}{t:TypeId}{v q:Value}{Hin H2:List bD}{Pre:List bC}{val:ι->Value}{Hout:ι->List bD}{post:ι->List bC}
  (hcf: ∀(args:Array Value) (w:World),(callFunc f args).run P w= .ok (.enter f args) w) (hs:cE P f (q::us) Hin Pre val Hout post) (hw:want ops Γ o=some true) (ho:o.op= .call ⟨.invoke r name,ars,ts⟩) (hd:o.dst=some d) (hn:Nat.blt d n=true)
  (hr:Γ.ev r=some (.iface t v)) (hm: ∀w S,St β H S w->All F S w->(method (P.types.size+Made.depth) t v name).run P w= .ok (f,q) w)
  (hv:Γ.evs ars.toList=some us) (hH:Split H Hin H2) (hF:bA F Pre) (k: ∀x,At β n ((d,val x)::Γ) (Hout x++H2) (post x++F) (wpList P ops Q rest)):At β n Γ H F (wpList P ops Q (o::rest)):=
 fY hw λa w S f' s hk=>by
  unfold Oper.wp;rw[run_inv hcf ho f' hr (hm w S s hk) hv,Oper.upon_enter];have s1:=s.perm hH.perm;refine(hs S w s1.enter (hF.all S w hk)).mono ?_;rintro e w' ⟨x,S',rfl,s',k'⟩;show wpList P ops Q rest (a.put o.dst (val x)) w';rw[hd];exact k x _ _ _ (f'.put l9 _) (s1.leave s') ((All.mono (λ_ h=> .inr h) (λ_ _=>rfl) k').append (All.leave s1 s' hk))
theorem wY{o:Oper}{t:TypeId}{x:Operand}{v:Value}{d:TypeDesc}(ho:o.op= .makeInterface t x)(hd:P.underlying t=some d)(hne: ∀ms,d≠ .interface ms)(hx:Γ.ev x=some v):Sti P β n Γ H F o (.iface t v):=λa w S f s k=>by
 unfold execOp;simp only[ho,f.ev hx];unfold Instr.makeInterface;rw[Sem.run_bind,Sem.run_bind,run_underlying hd,Result.andThen_ok];cases d<;>first|exact absurd rfl (hne _)|rfl
theorem zS{o:Oper}{t st:TypeId}{x:Operand}{v:Value}{d:TypeDesc}(ho:o.op= .typeAssert x st t false)(hd:P.underlying t=some d)(hne: ∀ms,d≠ .interface ms)(hx:Γ.ev x=some (.iface t v)):Sti P β n Γ H F o v:=λa w S f s k=>by
 unfold execOp;simp only[ho,f.ev hx];unfold Instr.typeAssert;rw[Sem.run_bind,Sem.run_bind,run_underlying hd,Result.andThen_ok];cases d<;>first|exact absurd rfl (hne _)|simp
end
def EndsF {ι:Type}(HP:List bD)(β:dC)(p:ι->Option Value)(val:ι->Value)(Hout:ι->List bD)(post:ι->List bC)(e:Ending)(w':World):Prop:=
 ∃x S',(p x=none/\e= .returned (val x)/\St β (Hout x) S' w'/\All (post x) S' w')\/(∃u,p x=some u/\e= .panicked (raise u)/\St β HP S' w')
def SpecF {ι:Type}(HP:List bD)(P:Program)(f:FuncId)(args:List Value)(Hin:List bD)(Pre:List bC)(p:ι->Option Value)(val:ι->Value)(Hout:ι->List bD)(post:ι->List bC):Prop:=
 ∀S w,St ⟨w,kV Hin,S⟩ Hin S w->All Pre S w->Calls P f args.toArray w (EndsF HP ⟨w,kV Hin,S⟩ p val Hout post)
theorem pL{ι:Type}{HP:List bD}{P:Program}{f:FuncId}{args:List Value}{Hin:List bD}{Pre:List bC}{p:ι->Option Value}{val:ι->Value}{Hout:ι->List bD}{post:ι->List bC}(hp: ∀x,p x=none)(h:SpecF HP P f args Hin Pre p val Hout post):cE P f args Hin Pre val Hout post:=λS w s k=>
 (h S w s k).mono λ_ _ ⟨x,S',q⟩=>by
  rcases q with ⟨_,he,s',k'⟩|⟨u,hu,_⟩
  .exact⟨x,S',he,s',k'⟩
  .rw[hp]at hu;cases hu
section
variable {P : Program} {β : dC} {n : Nat} {Γ : Env} {H HP : List bD} {F : List bC} {Q : Exit -> Act -> World -> Prop}
theorem at_callF{ι:Type}{ops:Array Oper}{rest:List Oper}{o:Oper}{d:Nat}{f:FuncId}{ars:Array Operand}{ts:Array TypeId}{vs:List Value}{Hin H2:List bD}{Pre:List bC}{p:ι->Option Value}{val:ι->Value}{Hout:ι->List bD}{post:ι->List bC}
  (hcf: ∀(args:Array Value) (w:World),(callFunc f args).run P w= .ok (.enter f args) w) (hs:SpecF HP P f vs Hin Pre p val Hout post) (hw:want ops Γ o=some true) (ho:o.op= .call ⟨.value (.func f),ars,ts⟩) (hd:o.dst=some d) (hn:Nat.blt d n=true)
  (hv:Γ.evs ars.toList=some vs) (hH:Split H Hin H2) (hF:bA F Pre) (kp: ∀x u,p x=some u->At β n Γ (HP++H2) F (Q (.panic (raise u)))) (kr: ∀x,p x=none->At β n ((d,val x)::Γ) (Hout x++H2) (post x++F) (wpList P ops Q rest)):
  At β n Γ H F (wpList P ops Q (o::rest)):=
 fY hw λa w S f s hk=>by
  unfold Oper.wp;rw[bLp hcf ho f hv w,Oper.upon_enter];have s1:=s.perm hH.perm;refine(hs S w s1.enter (hF.all S w hk)).mono ?_;rintro e w' ⟨x,S',q⟩
  rcases q with ⟨hx,rfl,s',k'⟩|⟨u,hx,rfl,s'⟩
  .show wpList P ops Q rest (a.put o.dst (val x)) w';rw[hd];exact kr x hx _ _ _ (f.put l9 _) (s1.leave s') ((All.mono (λ_ h=> .inr h) (λ_ _=>rfl) k').append (All.leave s1 s' hk))
  .exact kp x u hx a w' _ f (s1.leave (Hout:=HP) s') (All.leave (Hout:=HP) s1 s' hk)
theorem specF_of{ι:Type}{f:FuncId}{fn:Func}{c:Code}{args:List Value}{Hin:List bD}{Pre:List bC}{p:ι->Option Value}{val:ι->Value}{Hout:ι->List bD}{post:ι->List bC}(hf:P.funcs[f]?=some fn)(hb:fn.body=some c)(hn:fn.ntmps=n)
  (hl:Nat.ble args.length n=true) (h: ∀β,β.M=kV Hin->At β n (zG 0 args) Hin Pre (c.wp P (bodyPost P fn (EndsF HP β p val Hout post)))):SpecF HP P f args Hin Pre p val Hout post:=λS w s k=>by
 refine calls_of_wp hf hb (h ⟨w,kV Hin,S⟩ rfl _ w S ⟨rfl,?_,λi v hi=>?_⟩ s k)
 .have:=Nat.le_of_ble_eq_true hl;simp;omega
 .obtain⟨_,h2⟩:=rB 0 args i v hi;simp only[Nat.sub_zero]at h2;have hlt:i<args.length:=(List.getElem?_eq_some_iff.1 h2).1;simp only[Array.getElem?_append];rw[if_pos q7]
  simpa using h2
section
variable {ι : Type} {fn : Func} {p : ι -> Option Value} {val : ι -> Value} {Hout : ι -> List bD} {post : ι -> List bC} {r1 : ResultVar} {v1 u : Value}
theorem at_resPF(x:ι)(hH:Sel H HP)(he:p x=some u):At β n Γ H F (bodyPost P fn (EndsF HP β p val Hout post) (.panic (raise u))):=λ_ _ S f s _=>
 ⟨f.defers,x,S,.inr ⟨u,he,rfl,s.sel hH⟩⟩
theorem at_resF1(x:ι)(hr:fn.results= #[r1])(h1:RV P β n Γ H F r1 v1)(hH:Sel H (Hout x))(hF:bA F (post x))(hp:p x=none)(he:v1=val x):At β n Γ H F (bodyPost P fn (EndsF HP β p val Hout post) .ret):=λa w S f s k=>by
 refine⟨f.defers,v1,?_,x,S,.inl ⟨hp,by rw[he],s.sel hH,hF.all S w k⟩⟩;rw[mY,hr];simp[h1 a w S f s k]
end
end
section
variable {P : Program} {β : dC} {n : Nat} {Γ : Env} {H : List bD} {F : List bC} {o : Oper} {x : Operand} {t tt u : TypeId} {v : Value}
theorem sti_nifnil{ms:Array (String×TypeId)}(ht:P.underlying t=some (.interface ms))(ho:o.op= .binOp .neq t x (.const .nilIface) tt)(hx:Γ.ev x=some .nilIface):Sti P β n Γ H F o (.bool false):=λc w S f s k=>by
 have h2: ∀d,(Op.equalIn (d+1) t .nilIface .nilIface).run P w= .ok true w:=λd=>by simp[Op.equalIn,run_underlying ht]
 have h3:(Op.equal t .nilIface .nilIface).run P w= .ok true w:=h2 9999;unfold execOp;have e:c.eval (.const .nilIface)= .nilIface:=rfl;simp only[ho,f.ev hx,e]
 have hb:(binOp .neq t .nilIface .nilIface).run P w= .ok (.bool false) w:=by
  simp only[binOp];rw[Sem.run_bind,h3];rfl
 rw[Sem.run_bind,Sem.run_bind]
 have hg:(eqGuard .neq t x (.const .nilIface) .nilIface .nilIface).run P w= .ok () w:=by
  unfold eqGuard;simp
 rw[hg,Result.andThen_ok,hb];rfl
theorem sti_nifsome{ms:Array (String×TypeId)}(ht:P.underlying t=some (.interface ms))(ho:o.op= .binOp .neq t x (.const .nilIface) tt)(hx:Γ.ev x=some (.iface u v)):Sti P β n Γ H F o (.bool true):=λc w S f s k=>by
 have h1: ∀d,(Op.equalIn (d+1) t (.iface u v) .nilIface).run P w= .ok false w:=λd=>by simp[Op.equalIn,run_underlying ht]
 have h3:(Op.equal t (.iface u v) .nilIface).run P w= .ok false w:=h1 9999;unfold execOp;have e:c.eval (.const .nilIface)= .nilIface:=rfl;simp only[ho,f.ev hx,e]
 have hb:(binOp .neq t (.iface u v) .nilIface).run P w= .ok (.bool true) w:=by
  simp only[binOp];rw[Sem.run_bind,h3];rfl
 rw[Sem.run_bind,Sem.run_bind];have hg:(eqGuard .neq t x (.const .nilIface) (.iface u v) .nilIface).run P w= .ok () w:=rfl;rw[hg,Result.andThen_ok,hb];rfl
end
section
variable {P : Program} {β : dC} {n : Nat} {Γ : Env} {H : List bD} {F : List bC} {ι : Type} {fn : Func} {Hout : ι -> List bD} {post : ι -> List bC}
theorem at_offD(x:ι)(hr:fn.results= #[])(hH:Sel H (Hout x))(hF:bA F (post x)):At β n Γ H F (bodyPost P fn (EndD β Hout post) .normal):=λa w S f s k=>by
 refine⟨f.defers,.tuple #[],?_,⟨_,rfl⟩,x,S,s.sel hH,hF.all S w k⟩;rw[mY,hr];simp
end
theorem built_none:prog.built 259 []=some #[]:=k8
def noneV:Value:= .iface 259 (.agg #[])
def wH (ds:List Int)(p:List Mono):Option Value:=if (bH p ds).2=0 then none else some noneV
theorem pn_no{ds:List Int}{p:List Mono}(h:wH ds p=none):(bH p ds).2=0:=by
 unfold wH at h;split at h
 .assumption
 .cases h
theorem pn_yes{ds:List Int}{p:List Mono}{u:Value}(h:wH ds p=some u):(bH p ds).2≠0/\u=noneV:=by
 unfold wH at h;split at h
 .cases h
 .rename_i hn;cases h;exact⟨hn,rfl⟩
def cI (b:Nat)(z:Int):bD:= .obj b (.cells ([.int .i64 z]:List Value).toArray 2)
def cB (b:Nat)(t:Bool):bD:= .obj b (.cells ([.bool t]:List Value).toArray 4)
theorem zero_i64:(prog.info? 2).bind (·.zero)=some (.int .i64 0):=k8
theorem zero_bo:(prog.info? 4).bind (·.zero)=some (.bool false):=k8
theorem rO(mb:Nat)(m:MkV)(a:Option Addr×Nat)(s:GnS)(hB:GnB 999800 s)(k:Nat)(hk:k<=1000000)(f:FuncId)(cap:List Value)(G:List bC)(I:Int->GnS->GnS)(hI:IntoB I)(hcf: ∀(args:Array Value) (w:World),(callFunc f args).run prog w= .ok (.enter f args) w)(hf: ∀(r:Int) (a:Option Addr×Nat) (s:GnS),GnB 999900 s->cE prog f (.int .u8 r::cap) [mkO mb (m.st a s),mkS (m.st a s)] G (λ_:Option Addr×Nat=> .tuple #[]) (λx=>[mkO mb (m.st x (I r s)),mkS (m.st x (I r s))]) (λ_=>[])):cE prog 129 [.pointer (some ⟨mb,0,none⟩),.int .i64 (k:Nat),.func (.func f) #[] cap.toArray] [mkO mb (m.st a s),mkS (m.st a s)] (G) (λ(_:Option Addr×Nat)=> .tuple #[]) (λ(x:Option Addr×Nat)=>[mkO mb (m.st x (lH m.frame k I s)),mkS (m.st x (lH m.frame k I s))]) (λ_=>[]):=by
 have hT:=cT;refine j2 func129 ntmps129 ?_;intro β hM;refine g7 ?_;refine dH (λhc7=>?_) λhc7=>?_
 .refine g5 ?_;refine inc (8+k) ?_;refine one ?_;refine bN (z':=((8+k:Nat):Int)) (gE k7 k7) ?_;refine lJ hcf (hf ((8+k:Nat):Int) a s (hB.le k7)) rfl rfl rfl rfl rfl rfl rfl (.c0 (.c0 .nil)) (bA.drop 0) λy1=>?_;have hB2:=hI ((8+k:Nat):Int) _ _ hB;refine g4 ?_;rw[show lH m.frame k I s=I ((8+k:Nat):Int) s by unfold lH;exact if_pos k7];exact cR y1 rfl (.c0 (.c0 .nil)) e8 rfl
 refine g5 ?_;refine lJ hcf (hf 14 a s (hB.le k7)) rfl rfl rfl rfl rfl rfl rfl (.c0 (.c0 .nil)) (bA.drop 0) λy3=>?_;have hB4:=hI 14 _ _ hB;refine g9 ?_;refine bN (z':=w32 m.frame) (kY _) ?_;refine g2 ?_;refine bN (z':=(k:Int)-6) (mF k7 k7) ?_;refine one ?_;refine bN (z':=w32 ((k:Int)-6)) (kY _) ?_;refine one ?_;refine bN (z':=yW m.frame k) (kY _) ?_;refine ss (cK rfl rfl (gX _ _ _)) ?_;refine bF func28 (fQ mb m y3 _ (hB4.le k7) (⟨6,14,0,0,yW m.frame k⟩:cX) 0) rfl rfl (.c0 (.c0 .nil)) e8 λy5=>?_;have hB6:=fO (i:=(⟨6,14,0,0,yW m.frame k⟩:cX)) (dst:=0) hB4;refine iY ?_;rw[show lH m.frame k I s=fL (⟨6,14,0,0,yW m.frame k⟩:cX) 0 (I 14 s) by unfold lH;exact if_neg k7];exact cR y5 rfl (.c0 (.c0 .nil)) e8 rfl
theorem bGu(mb:Nat)(m:MkV)(a:Option Addr×Nat)(s:GnS)(hB:GnB 999800 s)(p z:Int):cE prog 138 [.pointer (some ⟨mb,0,none⟩),.int .u8 p,.int .i64 z] [mkO mb (m.st a s),mkS (m.st a s)] [] (λ(_:Option Addr×Nat)=> .tuple #[]) (λ(x:Option Addr×Nat)=>[mkO mb (m.st x (mR m.fail p z s)),mkS (m.st x (mR m.fail p z s))]) (λ_=>[]):=by
 have hT:=cT;have hBl:=hB.l;have hBm:=hB.m;have hBx:=hB.x;refine j2 func138 ntmps138 ?_;intro β hM;refine g3 ?_;refine bF func25 (oU mb m a _ (hB.le k7)) rfl rfl (.c0 (.c0 .nil)) e8 λy1=>?_;have hB2:=mQ hB;refine g7 ?_;refine bF func68 (fU mb m y1 _ (hB2.le k7) (6) (z)) rfl rfl (.c0 (.c0 .nil)) e8 λy3=>?_;have hB4:=iX (a:=6) (z:=z) hB2;refine g7 ?_;refine bF func137 (bCz mb m y3 _ (hB4.le k7) (p) (6) (((markG (s)).marks))) rfl rfl (.c0 (.c0 .nil)) e8 λy5=>?_;have hB6:=yO (a:=p) (b:=6) (dst:=((markG (s)).marks)) hB4;refine g9 ?_;refine bF func132 (tX mb m y5 _ (hB6.le k7) (m.fail)) rfl rfl (.c0 (.c0 .nil)) e8 λy7=>?_;have hB8:=qT (dst:=m.fail) hB6;refine g5 ?_;refine bF func29 (oV mb m y7 _ (hB8.le k7) (((markG (s)).marks))) rfl rfl (.c0 (.c0 .nil)) e8 λy9=>?_;have hB10:=mT (k:=((markG (s)).marks)) hB8 (by simp only[markG];omega);refine iY ?_;exact cR y9 rfl (.c0 (.c0 .nil)) e8 rfl
theorem pY(mb:Nat)(m:MkV)(a:Option Addr×Nat)(s:GnS)(p:PolV)(hdl:m.dims.list.length<=140737488355328):SpecF [mkO mb (m.st a s)] prog 65 [.pointer (some ⟨mb,0,none⟩),.slice p.addr p.list.length p.cap] [mkO mb (m.st a s)] [fC p,cF.sl (.slice m.dims.addr m.dims.list.length m.dims.cap) m.dims.list] (λ(_:Unit)=>wH m.dims.list p.list) (λ(_:Unit)=> .int .i64 (bH p.list m.dims.list).1) (λ(_:Unit)=>[mkO mb (m.st a s)]) (λ_=>[]):=by
 have hT:=cT;refine specF_of func65 rfl ntmps65 rfl ?_;intro β hM;refine fT<|lV<|iG rfl rfl rfl (fM hT rfl) ?_;refine iY<|lM<|fT<|lV<|iG rfl rfl rfl (fM hT rfl) ?_;refine iG rfl rfl rfl (fM hT rfl) ?_;refine iG rfl rfl rfl (fM hT rfl) ?_;refine iG rfl rfl rfl (fM hT rfl) ?_;refine iG rfl rfl rfl (i6 hT (bP (off:=9) .head)) ?_;refine bJ (gG (Has.of (.head _))) λhpl=>?_;refine f9 func15 (bAj p m.dims.addr m.dims.cap m.dims.list hpl hdl) .nil ⟨(Has.of (.head _)),(Has.of (.tail _ (.head _))),e8⟩ λ_=>?_;refine iG rfl rfl rfl (fM hT rfl) ?_;refine iG rfl rfl rfl (fM hT rfl) ?_;refine iG rfl rfl rfl (fM hT rfl) ?_;refine iG rfl rfl rfl (fM hT rfl) ?_;refine iG rfl rfl rfl (fM hT rfl) ?_;refine iY<|lM<|fT<|fT<|lV<|iG rfl rfl rfl (fM hT rfl) ?_;refine iG rfl rfl rfl (fM hT rfl) ?_;refine iY<|lM<|cG rfl (λhc17=>?_) (λhc17=>?_)
 .have hc17:=bne_iff_ne.1 hc17;refine lV<|iG rfl rfl rfl (cK rfl rfl (built_none)) ?_;refine iG rfl rfl rfl (wY rfl underlying259 (λ_ e=>by cases e) rfl) ?_;refine at_panic rfl rfl rfl ?_;refine p_then ?_;exact at_resPF () (.c0 .nil) (by unfold wH;rw[if_neg hc17];rfl)
 .have hc17:=bne_eq_false_iff_eq.1 hc17;refine sL<|lM<|fT<|lV<|iG rfl rfl rfl (fM hT rfl) ?_;refine iG rfl rfl rfl (fM hT rfl) ?_;refine iY<|lM<|uY ?_;exact at_resF1 () rfl (rv_tmp rfl) (.c0 .nil) e8 (by unfold wH;rw[if_pos hc17]) (rfl)
theorem known1N_spec(ob eb:Nat)(z:Int)(t:Bool):bQv prog 204 [.pointer (some ⟨ob,0,none⟩),.pointer (some ⟨eb,0,none⟩)] .returning .returning [cI ob z,cB eb t] [] (λ_:Unit=>[cI ob z,cB eb t]) (λ_=>[]):=by
 have hT:=cT;refine zB (v:= .nilIface) func204 rfl ntmps204 rfl rfl rfl rfl rfl rec_none ?_;intro β hM;refine g6 ?_;refine iG rfl rfl rfl (sti_nifnil underlying20 rfl rfl) ?_;refine g4 ?_;exact at_offD () rfl (.c0 (.c0 .nil)) trivial
theorem known1P_spec(ob eb:Nat)(z:Int)(t:Bool):bQv prog 204 [.pointer (some ⟨ob,0,none⟩),.pointer (some ⟨eb,0,none⟩)] (.panicking (raise noneV)) (.panicking [{v:=noneV,recovered:=true}]) [cI ob z,cB eb t] [] (λ_:Unit=>[cI ob 0,cB eb false]) (λ_=>[]):=by
 have hT:=cT;refine zB (v:=noneV) func204 rfl ntmps204 rfl rfl rfl rfl rfl (rec_some _) ?_;intro β hM;refine g6 ?_;refine iG rfl rfl rfl (sti_nifsome underlying20 rfl rfl) ?_;refine g7 ?_;exact at_offD () rfl (.cons (.tail .head) (.c0 .nil)) trivial
theorem bIm(mb:Nat)(m:MkV)(a:Option Addr×Nat)(s:GnS)(p:PolV)(hdl:m.dims.list.length<=140737488355328):cE prog 131 [.pointer (some ⟨mb,0,none⟩),.slice p.addr p.list.length p.cap] [mkO mb (m.st a s)] [fC p,cF.sl (.slice m.dims.addr m.dims.list.length m.dims.cap) m.dims.list] (λ(_:Unit)=> .tuple #[.int .i64 (nJ m.dims.list p.list),.bool (decide ((bH p.list m.dims.list).2=0))]) (λ(_:Unit)=>[mkO mb (m.st a s)]) (λ_=>[]):=by
 have hT:=cT;refine spec_defers func131 rfl ntmps131 rfl ?_;intro β hM;refine g2 ?_;refine i7 zero_i64 λb1=>?_;refine i7 zero_bo λb2=>?_;refine g5 ?_;refine at_defer rfl rfl rfl rfl rfl ?_;refine d_list ?_;refine iL ?_;refine cV ?_;refine iB ?_;refine dG ?_;refine g2 ?_;refine at_callF (j4 func65) (pY mb m a s p hdl) rfl rfl rfl rfl rfl (.c2 .nil) ⟨d7,d8,e8⟩ ?_ ?_
 .intro y u hu;refine dp_any ?_;refine dp_then ?_;obtain⟨hne,rfl⟩:=pn_yes hu;refine d_caught (j4 func204) rfl (known1P_spec b1 b2 0 false) (.c2 (.c1 .nil)) e8 λ_=>?_;have hk1:nJ m.dims.list p.list=0:=by unfold nJ;exact if_neg hne
  have hk2:decide ((bH p.list m.dims.list).2=0)=false:=decide_eq_false hne;rw[hk1,hk2];exact rs2 () trivial
 intro _ hpn;refine g2 ?_;refine iL ?_;refine cV ?_;refine d_ret ?_;refine d_leave (j4 func204) rfl (known1N_spec b1 b2 (bH p.list m.dims.list).1 true) (.c1 (.c0 .nil)) e8 λ_=>?_;have hk1:nJ m.dims.list p.list=(bH p.list m.dims.list).1:=by unfold nJ;exact if_pos (pn_no hpn)
 have hk2:decide ((bH p.list m.dims.list).2=0)=true:=decide_eq_true (pn_no hpn);rw[hk1,hk2];exact rs2 () trivial
end
end Go.Proofs.YtnfiadlonjediaaGreatDoor
