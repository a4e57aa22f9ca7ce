/- A part of one proof. -/
import Derived.Test.YtioekpienlhcgaaGreatDoorM3
import Derived.Deep.Upon
set_option maxRecDepth 100000
namespace Go.Proofs.YtioekpienlhcgaaGreatDoor
open Instr renaming findNow->P1,findKey->P2,checkKey->P3,keyThatStays->P4,sameBits->P5,lookup->Q7,mapUpdate->P6
open _root_.List renaming map_cons->N7,length->Q8,getElem?_eq_some_iff->F3,getElem?_map->K1,mem_cons->E2,mem_cons_of_mem->E4,mem_cons_self->E8,pairwise_cons->E5,getElem?_eq_getElem->F1,append_assoc->Q9,length_append->F4,cons_append->R0,length_drop->N9,nil_append->K5,map_append->L2,drop_eq_getElem_cons->K2,length_map->O4,append_nil->F9,tail_cons->R1,mem_append->E3,mem_singleton->K7,mem_map->R2,mem_of_mem_drop->O3,length_pos_iff->N6,sum_append->R3,map_nil->O6,sum_cons->N8,sum_nil->R4,length_singleton->R5,take_add_one->R6,take_of_length_le->F6,reverse_cons->L1
open Sem renaming run_bind->G9,run_pure->H3
open Result renaming andThen_ok->H6
open MapKept renaming run_getObj_map->P7,run_setObj_map->P8
open _root_.Nat renaming add_assoc->B8,le_refl->B0,not_lt->C3,le_trans->B1
open _root_.Bool renaming and_eq_true->J3,not_eq_false->R7
open _root_.Classical renaming byContradiction->R8,not_not->R9
section
open Go.RowKit Go.ChangeShapes Go.WideShapes Go.Proofs.Tryz
section
variable {H : Type} {enc : TypeId × Value -> H} {P : Program}
theorem bFg(hl:laidOutB P=true){W W':World}(hb:Below W.heap.size W W'): ∀{ts:List TypeId} {vs:List Value} {ds:List (DataW H)} {ps:List MemPlace},
  (∀t∈ts,P.readableRec t=true/\t<P.types.size)->(∀x∈ps,x.block<W.heap.size)->DataW.TrodAll enc P W 0 (λ_=>true) true ts vs ds ps->
  DataW.TrodAll enc P W' 0 (λb=>decide (b<W.heap.size)) true ts vs ds ps
 |[],_,_,_,_,_,h=>by
  obtain⟨rfl,rfl,rfl⟩:=trodAll_nil h;exact trodAll_mk0
 |t::ts,_,_,_,ht,hlt,h=>by obtain⟨v,vs,d,ds,p,q,rfl,rfl,rfl,h1,h2⟩:=trodAll_cons h;have hr:=ht t m9;exact trodAll_cons_mk (Below.trod hl hr.1 hr.2 h1 hb (λx hx=>hlt x af5)) (bFg hl hb (λt h=>ht t al5) (λx hx=>hlt x af5) h2)
theorem law_post{f:Func}{s:ChangeSpec}{W W':World}{args:Array Value}{ds:List (DataW H)}{before:List MemPlace}{tb:TypeId}
  (hW:DataW.Whole enc P f.params.toList s.vars false W args.toList ds [] before) (hv:s.vars=[]) (hfn:s.fn H (ds++[])={results:=[.lit (.bool true)],args:=ds})
  (hr:f.resultTypes= #[tb]) (hb:P.underlying tb=some .bool) (hl:laidOutB P=true) (hread: ∀t∈f.params.toList,P.readableRec t=true/\t<P.types.size) (h:Below W.heap.size W W'):
  s.post enc P f false true false false W args (.bool true) W':=by
 have a: ∀p∈before,p.block<W.heap.size:=λp d=>hW.lt p d;have b:=hW;obtain⟨p,q,e,c,rfl,_,_⟩:=hW;rw[hv]at c;have hq:q=[]:=c;subst hq;refine⟨ds,[],_,[],p,[],b,?_,?_,?_,?_,λh=>by cases h⟩
 .rw[hfn,hr];exact trodAll_mk1 (shut_bool hb true)
 .rw[hfn];exact bFg hl h hread (λx hx=>a x af5) e
 .rw[hfn,hv];rfl
 .exact h.frame _
end
theorem bWp{ι:Type}{f:FuncId}{args:List Value}{Pre:List Fact}{v:Value}(h:cY prog f args [] Pre (λ_:ι=>v) (λ_=>[]) (λ_=>[])){w:World}(hp:All Pre (λb=>b<w.heap.size) w):
  Calls prog f args.toArray w λe w'=>e= .returned v/\Below w.heap.size w w':=by refine(h (λb=>b<w.heap.size) w ⟨pU.refl _ _,λc a=>by simp at a,λc a=>by simp at a,List.Pairwise.nil,λb d=>⟨d,.inl d⟩⟩ hp).mono ?_;rintro e w' ⟨_,_,rfl,s,_⟩;refine⟨rfl,s.kept.os,s.kept.tape,s.kept.output,s.kept.size,λk g=>s.kept.block k g λ⟨c,a,_⟩=>by simp at a⟩
theorem own:ownKnob prog.godebug=none:=m0
theorem laid:laidOutB prog=true:=m0
end
section
open Go.RowKit Go.Proofs.Tryz
open Go.ChangeMaps (setBlock)
theorem bs_beq(a b:Bs):(bs a==bs b)=(a==b):=by have h:(bs a==bs b)=(a.toArray==b.toArray):=rfl;rw[h];simp
abbrev KVS:=List (Bs×Value)
def bRf (kv:KVS):List (Value×Value):=kv.map λp=>(Value.string (bs p.1),p.2)
def bTo (kv:KVS)(o:Option Obj):Prop:= ∃es clock,o=some (.map es clock)/\es.toList.map yI=bRf kv
def wK (r:Nat)(kv:KVS):bK:= .gen (some r) (bTo kv)
def tF (k:Bs):KVS->Nat->Option (Nat×Value)
 |[],_=>none
 |p::r,i=>if k==p.1 then some (i,p.2)else tF k r (i+1)
def qD (k:Bs):KVS->Option Value
 |[]=>none
 |p::r=>if k==p.1 then some p.2 else qD k r
def qB (k:Bs)(v:Value):KVS->KVS
 |[]=>[(k,v)]
 |p::r=>if k==p.1 then (k,v)::r else p::qB k v r
theorem bMt(k:Bs): ∀(kv:KVS) (i:Nat),(tF k kv i).map (·.2)=qD k kv
 |[],_=>rfl
 |p::r,i=>by
  unfold tF qD;split
  .rfl
  .exact bMt k r (i+1)
theorem bRq{k:Bs}{v:Value}: ∀{kv:KVS} {i:Nat},tF k kv i=none->qB k v kv=kv++[(k,v)]
 |[],_,_=>rfl
 |p::r,i,h=>by
  unfold tF at h;unfold qB;split at h
  .cases h
  .rename_i a;rw[if_neg a,bRq h];rfl
theorem bSn{k:Bs}{v:Value}{j:Nat}{u:Value}: ∀{kv:KVS} {i:Nat},tF k kv i=some (j,u)-> ∃d,j=i+d/\ ∃p,kv[d]?=some p/\k=p.1/\qB k v kv=kv.set d (k,v)
 |[],_,h=>by cases h
 |p::r,i,h=>by
  unfold tF at h;split at h
  .rename_i a;simp only[Option.some.injEq,Prod.mk.injEq]at h;exact⟨0,l7,p,rfl,by simpa using a,by simp[qB,a]⟩
  .rename_i a;obtain⟨d,h1,q,h2,b,h4⟩:=bSn (v:=v) h;exact⟨d+1,l7,q,h2,b,by rw[qB,if_neg a,h4];rfl⟩
section
variable {P : Program} {k : Bs} {w : World} {t kt et : TypeId}
theorem bIp(k:Bs): ∀(es:List MapEntry) (kv:KVS) (i:Nat),es.map yI=bRf kv->P1 (.string) (.string (bs k)) es i=some (tF k kv i)
 |[],[],_,_=>rfl
 |[],_::_,_,h=>by simp[bRf]at h
 |_::_,[],_,h=>by simp[bRf]at h
 |e::es,p::kv,i,h=>by
  simp only[N7,List.cons.injEq,bRf,yI,Prod.mk.injEq]at h;obtain⟨⟨h1,h2⟩,b⟩:=h;have a:=bIp k es kv (i+1) b;unfold P1;rw[h1];simp only[Instr.sameNow,tF,bs_beq];cases c:k==p.1
  .simpa using a
  .simp[h2]
theorem tK(hk:P.underlying kt=some (.string)){es:List MapEntry}{kv:KVS}(h:es.map yI=bRf kv):(P2 kt (.string (bs k)) es).run P w= .ok (tF k kv 0) w:=by unfold P2;simp only[G9,run_underlying hk,H6,bIp k es kv 0 h,H3]
theorem sK(hk:P.underlying kt=some (.string))(b:Bool):(P3 b 10000 kt (.string (bs k))).run P w= .ok () w:=by
 have: ∀n,(P3 b (n+1) kt (.string (bs k))).run P w= .ok () w:=λn=>by simp[P3,run_underlying hk]
 exact this 9999
theorem run_staysIS:(P4 (.string (bs k)) (.string (bs k))).run P w= .ok (.string (bs k)) w:=by
 have: ∀n,P5 (n+1) (.string (bs k)) (.string (bs k))=true:=λn=>by simp[P5,bs_beq]
 unfold P4;rw[this 9999];simp
theorem run_lookupIS(ht:P.underlying t=some (.map kt et))(hk:P.underlying kt=some (.string)){z:Value}(hz:(zeroValue et).run P w= .ok z w){r:Nat}{kv:KVS}(h:bTo kv (w.heap[r]?)):
  (Q7 t (.map (some r)) (.string (bs k)) false).run P w= .ok ((qD k kv).getD z) w:=by
 obtain⟨d,b,c,a⟩:=h;unfold Q7;simp only[G9,run_underlying ht,H6,P7 c,H3,sK hk,tK hk a];rw[<-bMt k kv 0]
 cases tF k kv 0 with
 |none=>simp[hz]
 |some p=>simp
theorem bPc(ht:P.underlying t=some (.map kt et))(hk:P.underlying kt=some (.string)){r:Nat}{kv:KVS}(v:Value)(h:bTo kv (w.heap[r]?)):
  ∃o,(P6 t (.map (some r)) (.string (bs k)) v).run P w= .ok () (setBlock w r o)/\bTo (qB k v kv) ((setBlock w r o).heap[r]?):=by
 obtain⟨c,a,f,b⟩:=h
 cases hf:tF k kv 0 with
 |none=>
  refine⟨.map (c.push ⟨.string (bs k),v,a⟩) (a+1),?_,⟨_,_,ChangeMaps.heap_setBlock_same f _,?_⟩⟩
  .unfold P6;simp only[G9,run_underlying ht,H6,P7 f,sK hk,tK hk b,hf];rw[P8 _ f];simp[setBlock]
  .rw[bRq hf];simp[b,bRf,yI]
 |some p=>
  obtain⟨j,u⟩:=p;obtain⟨d,h1,q,h2,x,h4⟩:=bSn (v:=v) hf;obtain rfl:j=d:=l7
  have g:c.size=kv.length:=by
   have:=congrArg Q8 b
   simpa[bRf]using this
  have l:j<c.size:=by rw[g];exact(F3.1 h2).1
  obtain⟨e,he⟩: ∃e,c[j]?=some e:=⟨c[j],Array.getElem?_eq_getElem l⟩
  have m:e.key= .string (bs k):=by
   have h1:(c.toList.map yI)[j]?=some (yI e):=by simp[he]
   rw[b,bRf,K1,h2]at h1;simp only[Option.map_some,Option.some.injEq,yI,Prod.mk.injEq]at h1;rw[<-h1.1,x]
  refine⟨.map (c.modify j λe=>{e with key:= .string (bs k),val:=v}) a,?_,⟨_,_,ChangeMaps.heap_setBlock_same f _,?_⟩⟩
  .unfold P6;simp only[G9,run_underlying ht,H6,P7 f,sK hk,tK hk b,hf,he,Option.map_some,Option.getD_some,m,run_staysIS];rw[P8 _ f];simp[setBlock]
  .rw[h4];apply List.ext_getElem?;intro i;have hi:(c.toList.map yI)[i]?=(bRf kv)[i]?:=by rw[b]
   simp only[bRf,K1,Array.toList_modify,List.getElem?_modify,List.getElem?_set]at hi⊢
   by_cases s:j=i
   .subst s;have:j<kv.length:=l7
    have n:c.toList[j]?=some e:=by simpa using he
    simp[this,n,yI]
   .simp only[s,if_false]at hi⊢
    simpa using hi
end
section
variable {P : Program} {β : fS} {n : Nat} {Γ : Env} {H : List bK} {F : List Fact} {Q : Exit -> Act -> World -> Prop} {K : Act -> World -> Prop} {T : Tab} {ops : Array Oper} {rest : List Oper} {o : Oper}
theorem bNk{d:Nat}{t:TypeId}(hw:want ops Γ o=some true)(ho:o.op= .makeMap t none)(hd:o.dst=some d)(hn:Nat.blt d n=true)(k: ∀b,At β n ((d,.map (some b))::Γ) (wK b []::H) F (wpList P ops Q rest)):At β n Γ H F (wpList P ops Q (o::rest)):=
 lN hw λa w S f s j=>by
  have hr:(execOp a.eval o).run P w= .ok (.value (.map (some w.heap.size))) (w.alloc (.map #[] 0)):=by unfold execOp;simp only[ho,Instr.makeMap];rfl
  unfold Oper.wp;rw[hr,Oper.upon_value,hd];have g:=s.alloc (.map #[] 0);refine k w.heap.size _ _ S (f.put w6 _) ⟨g.kept,λc e=>?_,λc e b h=>?_,?_,g.W⟩ (All.alloc s j _)
  .rcases E2.1 e with rfl|e
   .exact⟨#[],0,heap_alloc_new _ _,rfl⟩
   .exact g.ok c (E4 _ e)
  .rcases E2.1 e with rfl|e
   .exact g.own (.obj w.heap.size (.map #[] 0)) (E8 ..) b h
   .exact g.own c (E4 _ e) b h
  .have i:=E5.1 g.sep;exact E5.2 ⟨λd hd b h=>i.1 d hd b h,i.2⟩
theorem pZ{r:Nat}{kv:KVS}{H':List bK}(hH:cT H (wK r kv) H'){t kt et:TypeId}{m x y:Operand}{k:Bs}{v:Value}(hw:want ops Γ o=some true)(ho:o.op= .mapUpdate t m x y\/o.op= .insert t m x y)(hd:o.dst=none)(ht:P.underlying t=some (.map kt et))(hk:P.underlying kt=some (.string))
  (hm:Γ.ev m=some (.map (some r))) (hx:Γ.ev x=some (.string (bs k))) (hy:Γ.ev y=some v) (K':At β n Γ (wK r (qB k v kv)::H') F (wpList P ops Q rest)):At β n Γ H F (wpList P ops Q (o::rest)):=
 lN hw λa w S f s p=>by
  have d:bTo kv (w.heap[r]?):=s.ok _ hH.mem;obtain⟨j,b,g⟩:=bPc (k:=k) ht hk v d
  have hr:(execOp a.eval o).run P w= .ok .skip (setBlock w r j):=by
   unfold execOp
   rcases ho with ho|ho
   .simp only[ho,f.ev hm,f.ev hx,f.ev hy,G9,b];rfl
   .simp only[ho,f.ev hm,f.ev hx,f.ev hy,G9,b];rfl
  unfold Oper.wp;rw[hr,Oper.upon_skip,hd];have i:=s.perm hH.perm;exact K' _ _ S (f.put_none _) (i.swap tN rfl rfl g) (All.mono (λ_ h=>h) (s.agree tN (λc l e=>by subst e;exact(i.own _ (E8 ..) _ rfl).2.2 l)) p)
def bNb (β:fS)(H:List bK)(F:List Fact)(r:Nat)(kv:KVS):Prop:= ∀w S,St β H S w->All F S w->bTo kv (w.heap[r]?)
theorem oR{r:Nat}{kv:KVS}{H':List bK}(hH:cT H (wK r kv) H'):bNb β H F r kv:=λ_ _ s _=>s.ok _ hH.mem
theorem sti_lookupS{r:Nat}{kv:KVS}{t kt et:TypeId}{m x:Operand}{k:Bs}{z v:Value}(hkm:bNb β H F r kv)(ho:o.op= .lookup t m x false)(ht:P.underlying t=some (.map kt et))(hk:P.underlying kt=some (.string))(hz: ∀w,(zeroValue et).run P w= .ok z w)
  (hm:Γ.ev m=some (.map (some r))) (hx:Γ.ev x=some (.string (bs k))) (hv:(qD k kv).getD z=v):Sti P β n Γ H F o v:=λa w S f s b=>by have:=run_lookupIS (k:=k) ht hk (hz w) (hkm w S s b);unfold execOp;simp only[ho,f.ev hm,f.ev hx];rw[G9,this,hv];rfl
end
section
variable {P : Program} {β : fS} {n : Nat} {Γ : Env} {H : List bK} {F : List Fact} {o : Oper}
theorem run_lookupOk{w:World}{t kt et:TypeId}{k:Bs}(ht:P.underlying t=some (.map kt et))(hk:P.underlying kt=some .string){z:Value}(hz:(zeroValue et).run P w= .ok z w){r:Nat}{kv:KVS}(h:bTo kv (w.heap[r]?)):
  (Q7 t (.map (some r)) (.string (bs k)) true).run P w= .ok (.tuple #[(qD k kv).getD z,.bool (qD k kv).isSome]) w:=by
 obtain⟨d,b,c,a⟩:=h;unfold Q7;simp only[G9,run_underlying ht,H6,P7 c,H3,sK hk,tK hk a];rw[<-bMt k kv 0]
 cases tF k kv 0 with
 |none=>simp[hz]
 |some p=>simp
theorem pO{r:Nat}{kv:KVS}{t kt et:TypeId}{m x:Operand}{k:Bs}{z v:Value}(hkm:bNb β H F r kv)(ho:o.op= .lookup t m x true)(ht:P.underlying t=some (.map kt et))(hk:P.underlying kt=some .string)(hz: ∀w,(zeroValue et).run P w= .ok z w)
  (hm:Γ.ev m=some (.map (some r))) (hx:Γ.ev x=some (.string (bs k))) (hv:(.tuple #[(qD k kv).getD z,.bool (qD k kv).isSome]:Value)=v):Sti P β n Γ H F o v:=λa w S f s b=>by have:=run_lookupOk (k:=k) ht hk (hz w) (hkm w S s b);unfold execOp;simp only[ho,f.ev hm,f.ev hx];rw[G9,this,hv];rfl
end
end
section
open Go.RowKit Go.Proofs.Tryz
end
section
open Go.RowKit Go.Proofs.Tryz
section
variable {P : Program} {β : fS} {n : Nat} {Γ : Env} {H : List bK} {F : List Fact} {Q : Exit -> Act -> World -> Prop} {K : Act -> World -> Prop} {T : Tab} {α : Type} {E : Flat α}
theorem dD.cells{A:Option Addr}{xs:List α}{w:World}{S:nL}(hr:dD β H F E A xs)(s:St β H S w)(hF:All F S w)(h0:0<xs.length):
  ∃b off,A=some ⟨b,off,none⟩/\ ∀j u,(E.all xs)[j]?=some u->w.cell? ((⟨b,off,none⟩:Addr).add j)=some u:=by
 obtain⟨⟨b,off,rfl⟩,_⟩:=hr w S s hF 0 _ (F1 h0);refine⟨b,off,rfl,λj u f=>?_⟩;have d:=(F3.1 f).1;rw[E.all_length]at d;have k:j/E.size<xs.length:=Nat.div_lt_of_lt_mul (by rwa[Nat.mul_comm]at d);have h:j%E.size<E.size:=Nat.mod_lt _ E.pos;have a:=F1 k;have c:=F1 (l:=E.cells xs[j/E.size]) (i:=j%E.size) (by rw[E.len];exact h);have e:j/E.size*E.size+j%E.size=j:=by rw[Nat.mul_comm];exact Nat.div_add_mod j E.size
 have h1:=(hr w S s hF _ _ a).2 _ _ c;have h2:=E.all_get a c;rw[e,f]at h2;injection h2 with h2
 have g:=h1.trans (congrArg some h2.symm);rw[B8,e]at g;rw[Addr.add_mid];exact g
theorem dD.tail{A:Option Addr}{xs:List α}{c:bK}(hr:dD β H F E A xs):dD β (c::H) F E A xs:=λw S s a=>hr w S s.tail a
end
end
section
open Go.RowKit Go.Proofs.Tryz
structure Tk where
 kind:Int
 word:Bs
 n:Int
 deriving Inhabited,DecidableEq
def TokV.tk(t:TokV):Tk:=⟨t.kind,t.word,t.n⟩
def Lx (s:Bs)(T:List Tk)(rest:Bs):Prop:= ∀i out,∃L:List Tok,L.map TokV.tk=T/\lexGo (s++rest).length i (s++rest) out=lexGo rest.length (i+s.length) rest (out++L)
section
variable {a b s rest : Bs} {A B : List Tk}
theorem Lx.nil:Lx [] [] rest:=λi out=>⟨[],rfl,m9⟩
theorem Lx.append(h:Lx a A (b++rest))(k:Lx b B rest):Lx (a++b) (A++B) rest:=λi out=>by obtain⟨L,c,e⟩:=h i out;obtain⟨M,hM,d⟩:=k (i+a.length) (out++L);exact⟨L++M,by simp[c,hM],by rw[Q9,e,d,F4,B8,Q9]⟩
theorem Lx.tok{k v:Int}{wd:Bs}{b:UInt8}(h:fD ((b::s)++rest)= .ok (k,wd,v,(b::s).length))(hb:nG b=false)(h35:(b==35)=false):Lx (b::s) [⟨k,wd,v⟩] rest:=λi out=>
 ⟨[⟨k,i,wd,v⟩],rfl,by
  rw[R0,oP,hb,if_neg m9,h35,if_neg m9];rw[R0]at h;rw[h];simp only;have e:(b::(s++rest)).drop (b::s).length=rest:=by rw[<-R0,List.drop_left]
  rw[e]⟩
end
theorem bVq{p:UInt8->Bool}: ∀{s:Bs},runB p s=s.length-> ∀b∈s,p b=true
 |[],_,b,a=>by simp at a
 |c::s,h,b,a=>by
  rw[runB]at h;split at h
  .rename_i d
   rcases E2.1 a with rfl|a
   .exact d
   .exact bVq ad3 b a
  .simp at h
structure WordB (s:Bs):Prop where
 head: ∃b r,s=b::r/\lC b=true
 all: ∀b∈s,kU b=true
 len:s.length<=16
theorem numTok_kind{b:UInt8}{r:Bs}{t:TokR}(h:jE b r= .ok (some t)):t.1=2/\t.2.1=[]:=by
 unfold jE at h;dsimp only at h
 by_cases a:(b==95)=true
 .simp only[a,if_true]at h;split at h
  .cases h
  .split at h
   .cases h
   .simp only[Except.ok.injEq,Option.some.injEq]at h;subst h;exact⟨rfl,rfl⟩
 .simp only[a,Bool.false_eq_true,if_false]at h;split at h
  .cases h
  .split at h
   .cases h
   .simp only[Except.ok.injEq,Option.some.injEq]at h;subst h;exact⟨rfl,rfl⟩
structure TokIs (k:Int) (wd:Bs) (v:Int) (s:Bs):Prop where
 len:wd.length<=s.length
 num:k=2->wd=[]
 word:k=1->v=0
 spell:k=1->wd=s->WordB s
theorem take_len(n:Nat)(s:Bs):(s.take n).length<=s.length:=by simp;omega
theorem bLy{s:Bs}{k v:Int}{wd:Bs}{m:Nat}(h:fD s= .ok (k,wd,v,m)):TokIs k wd v s:=by
 cases s with
 |nil=>cases h
 |cons b r=>
  simp only[fD]at h;split at h
  .cases h;exact⟨m9,λh=>absurd h m6,λh=>absurd h m6,λh=>absurd h m6⟩
  .split at h
   .rename_i a;split at h
    .cases h
    .cases h;rename_i c;refine⟨take_len _ _,λh=>absurd h m6,λ_=>rfl,λ_ e=>?_⟩;have hr:=lB kU (b::r)
     have he:runB kU (b::r)=(b::r).length:=by have:=congrArg Q8 e;rw[List.length_take]at this;omega
     exact⟨⟨b,r,rfl,a⟩,bVq he,l7⟩
   .split at h
    .cases h
    .rename_i d ht;simp only[Except.ok.injEq]at h;subst h;obtain⟨h1,h2⟩:=numTok_kind ht;simp only at h1 h2;subst h1;subst h2;exact⟨m9,λ_=>rfl,λh=>absurd h m6,λh=>absurd h m6⟩
    .split at h
     .cases h
     .cases h;exact⟨take_len _ _,λh=>absurd h m6,λh=>absurd h m6,λh=>absurd h m6⟩
theorem rM: ∀(f i:Nat) (s:Bs) (out:List Tok),oG (lexGo f i s out).2=true-> ∃L,(lexGo f i s out).1=out++L/\ ∀t∈L,t.word.length<=s.length
 |0,_,_,out,_=>⟨[],by simp[lexGo],m9⟩
 |_+1,_,[],out,_=>⟨[],by simp[lexGo],m9⟩
 |f+1,i,b::r,out,h=>by
  unfold lexGo at h⊢;split at h
  .rename_i d;rw[if_pos d];obtain⟨L,h1,h2⟩:=rM f _ _ _ h;exact⟨L,h1,λt ht=>by have:=h2 t ht;simp;omega⟩
  .rename_i d;rw[if_neg d];split at h
   .rename_i a;rw[if_pos a];obtain⟨L,h1,h2⟩:=rM f _ _ _ h;exact⟨L,h1,λt ht=>by have:=h2 t ht;rw[N9]at this;omega⟩
   .rename_i a;rw[if_neg a];split at h
    .rename_i e he
     exact absurd h (by
      have:=bQn he
      simp[oG,nO,this])
    .rename_i k g v m ht;obtain⟨L,h1,h2⟩:=rM f _ _ _ h;refine⟨⟨k,i,g,v⟩::L,by rw[h1];simp,λt c=>?_⟩
     rcases E2.1 c with rfl|c
     .exact(bLy ht).len
     .have:=h2 t c;rw[N9]at this;omega
theorem vD{s:Bs}(h:dQ s=true):WordB s:=by
 simp only[dQ,xJ,J3]at h;obtain⟨_,_,_,hf,c⟩:=h;have a:oG (iD s).2=true:=hf;unfold iD at a c
 by_cases d:65536<s.length
 .rw[if_pos d]at a;exact absurd a m6
 .rw[if_neg d]at a c
  cases s with
  |nil=>simp[lexGo]at c
  |cons b r=>
   rw[oP]at a c
   by_cases g:nG b=true
   .rw[if_pos g]at a c;obtain⟨L,h1,h2⟩:=rM _ _ _ _ a;rw[h1]at c
    match L,c,h2 with
    |[t],c,h2=>
     simp only[K5,J3,beq_iff_eq]at c;have:=h2 t m9;rw[c.2]at this;simp at this;omega
   .rw[if_neg g]at a c
    by_cases f:(b==35)=true
    .rw[if_pos f]at a c;have l:1<=runB (· !=10) (b::r):=bKp (bRk f);obtain⟨L,h1,h2⟩:=rM _ _ _ _ a;rw[h1]at c
     match L,c,h2 with
     |[t],c,h2=>
      simp only[K5,J3,beq_iff_eq]at c;have:=h2 t m9;rw[c.2,N9]at this;simp at this;omega
    .rw[if_neg f]at a c
     cases ht:fD (b::r)with
     |error e=>
      rw[ht]at c;simp at c
     |ok q=>
      obtain⟨k,i,v,m⟩:=q;rw[ht]at a c;simp only at a c;obtain⟨L,h1,h2⟩:=rM _ _ _ _ a;rw[h1]at c
      have j:k=1/\i=b::r:=by
       cases L with
       |nil=>simpa using c
       |cons t L=>simp at c
      obtain⟨rfl,rfl⟩:=j;exact(bLy ht).spell rfl rfl
end
section
open Go.RowKit Go.Proofs.Tryz
def fF.un (x:fF):fF:=⟨x.H,0,x.fn,x.name,x.nums⟩
def bBu (l:List fF):List fF:=l.map fF.un
theorem bHv(a b:List fF):bBu (a++b)=bBu a++bBu b:=L2
def OpenT:Tk:=⟨3,[40],0⟩
def CloseT:Tk:=⟨3,[41],0⟩
def oE (toks:List TokV)(k:Nat)(T:List Tk):Prop:=k<=toks.length/\(toks.drop k).map TokV.tk=T
section
variable {toks : List TokV} {k : Nat} {t : Tk} {T R : List Tk}
theorem oE.lt(h:oE toks k (t::T)):k<toks.length:=by
 rcases Nat.lt_or_ge k toks.length with a|a
 .exact a
 .rw[oE,List.drop_of_length_le a]at h;simp at h
theorem oE.peek(h:oE toks k (t::T)):(bL toks k).tk=t:=by have a:=h.lt;rw[vX (F1 a)];have:=h.2;rw[K2 a]at this;exact(List.cons.inj this).1
theorem oE.next(h:oE toks k (t::T)):oE toks (k+1) T:=by have a:=h.lt;have:=h.2;rw[K2 a]at this;exact⟨a,(List.cons.inj this).2⟩
theorem oE.kind(h:oE toks k (t::T)):(bL toks k).kind=t.kind:=by rw[<-h.peek];rfl
theorem oE.word(h:oE toks k (t::T)):(bL toks k).word=t.word:=by rw[<-h.peek];rfl
theorem oE.num(h:oE toks k (t::T)):(bL toks k).n=t.n:=by rw[<-h.peek];rfl
theorem oE.nil(h:oE toks k []):bL toks k=⟨4,0,[],0⟩/\k=toks.length:=by
 have e:(toks.drop k).length=0:=by
  have:=congrArg Q8 h.2
  simpa using this
 rw[N9]at e;have:=h.1;exact⟨bGv l7,l7⟩
theorem oE.skip: ∀(T:List Tk) {k:Nat},oE toks k (T++R)->oE toks (k+T.length) R
 |[],_,h=>h
 |t::T,k,h=>by have:=oE.skip T (oE.next (t:=t) (T:=T++R) h);rw[List.length_cons,show k+(T.length+1)=k+1+T.length from by omega];exact this
theorem oE.kindR(h:oE toks k R){c:Int}(hc:c≠4)(hR: ∀t∈R.head?,t.kind≠c):(bL toks k).kind≠c:=by
 cases R with
 |nil=>rw[h.nil.1];exact hc.symm
 |cons t R=>rw[h.kind];exact hR t rfl
end
def Mark (t:Tk):Prop:=t.kind=3/\(t.word=[47]\/t.word=[92]\/t.word=[46])
def Ps (T:List Tk)(I:List fF)(nest:Nat)(plain:Bool):Prop:=
 ∀{toks:List TokV} {e:Int} {r:bAx} {k:Nat} {out:List fF} {st:Stk} {o:Nat} {R:List Tk},oE toks k (T++R)->(∀t∈R.head?,t.kind≠2)->o+nest<=32->bHu toks e r k out st o->
  ∃out' S,(plain=true->S=[])/\bBu (out'++S)=bBu I/\bBy toks e r (k+T.length) (out++out') (S.map some++st) o
structure Vb (T:List Tk) (it:fF) (two:Bool):Prop where
 head: ∃t T',T=t::T'/\t.kind≠2/\t.kind≠4/\nQ t.word=true/\ ¬Mark t
 phrase: ∀{toks:List TokV} {k:Nat} {e:Int} {R:List Tk},oE toks k (T++R)->(∀t∈R.head?,¬Mark t)->oG (bM toks k e two).Y=true/\(bM toks k e two).next=k+T.length/\(bM toks k e two).it.un=it.un
def Hd (T:List Tk):Prop:= ∃t T',T=t::T'/\ ¬Mark t
theorem bYu(S:List fF)(st:Stk):qO (S.map some++st)=(S++(qO st).1,(qO st).2):=by
 induction S with
 |nil=>rfl
 |cons x S ih=>rw[N7,R0,qO,ih];rfl
theorem bZf{toks:List TokV}{R:List Tk}(hR: ∀t∈R.head?,t.kind≠2): ∀(ns:List Int) {k:Nat},oE toks k (ns.map (λn=>(⟨2,[],n⟩:Tk))++R)->iR toks k=ns
 |[],k,h=>nums_end (oE.kindR (R:=R) h m6 hR)
 |n::ns,k,h=>by have a:oE toks k (⟨2,[],n⟩::(ns.map (λn=>(⟨2,[],n⟩:Tk))++R)):=h;rw[yC a.kind,bZf hR ns a.next,a.num]
theorem Ps.nums{ns:List Int}{a:Int}(h:ns≠[]):Ps (ns.map λn=>⟨2,[],n⟩) [⟨1,a,0,[],ns⟩] 0 true:=by
 intro toks e r k out g o R c f _ hE;have hn:=bZf f ns c
 obtain⟨n,b,rfl⟩: ∃n b,ns=n::b:=by
  cases ns with
  |nil=>exact absurd rfl h
  |cons n b=>exact⟨n,b,rfl⟩
 have d:(bL toks k).kind=2:=oE.kind (t:=⟨2,[],n⟩) (T:=_) c;have:=e_num hE d;rw[hn]at this;refine⟨[bEw toks k],[],λ_=>rfl,?_,?_⟩
 .simp[bBu,bEw,fF.un,hn]
 .rw[O4];exact this
theorem Ps.name{s:Bs}{a:Int}(h:dQ s=true):Ps [⟨1,s,0⟩] [⟨2,a,0,s,[]⟩] 0 true:=by intro toks e r k out d o R c f _ hE;have b:oE toks k (⟨1,s,0⟩::R):=c;have:=e_name hE b.kind (by rw[b.word];exact h);refine⟨[vO toks k],[],λ_=>rfl,?_,this⟩;simp[bBu,vO,fF.un,b.word]
theorem Ps.brk{T:List Tk}{I:List fF}{n:Nat}{p:Bool}(h:Ps T I n p):Ps (OpenT::(T++[CloseT])) I (n+1) true:=by
 intro toks e r k out g o R d i ho hE;have a:oE toks k (OpenT::(T++(CloseT::R))):=by simpa using d
 have h1:=(e_open hE a.kind a.word).1 l7;obtain⟨b,S,_,hu,hB⟩:=h a.next (by simp[CloseT]) l7 h1
 have c:=oE.skip T a.next
 have:=b_close hB l7 c.kind c.word;rw[bYu]at this;refine⟨b++S,[],λ_=>rfl,by rw[F9];exact hu,?_⟩;have f:k+1+T.length+1=k+(OpenT::(T++[CloseT])).length:=by simp;omega
 rw[f]at this;simp only[qO,F9,R1,Nat.add_sub_cancel,Q9]at this;exact this
theorem Ps.mono{V T:List Tk}{I:List fF}{it:fF}{n:Nat}{p:Bool}(hv:Vb V it false)(hd:Hd T)(h:Ps T I n p):Ps (V++T) (I++[it]) n false:=by
 intro toks e r k out s o R c m ho hE;rw[Q9]at c;obtain⟨t,q,l,h2,h4,d,_⟩:=hv.head;obtain⟨u,v,hT,j⟩:=hd;have a:oE toks k (t::(q++(T++R))):=by rw[l]at c;exact c
 obtain⟨i,g,f⟩:=hv.phrase (e:=e) c (by rw[hT];simpa using j);have h1:=(e_verb hE (by rw[a.kind];exact h2) (by rw[a.kind];exact h4) (by rw[a.word];exact d)).1 i;rw[g]at h1;obtain⟨b,S,_,hu,hB⟩:=h (oE.skip V c) m ho h1;refine⟨b,S++[(bM toks k e false).it],m9,?_,?_⟩
 .rw[<-Q9,bHv,hu,bHv];show bBu I++[_]=_;rw[f];rfl
 .rw[F4,<-B8,L2,Q9];exact hB
theorem Ps.whole{T:List Tk}{I:List fF}{n:Nat}{p:Bool}(h:Ps T I n p)(hn:n<=32){toks:List TokV}{e:Int}{k:Nat}(hF:oE toks k T):bBu (wF toks e k).1=bBu I/\(wF toks e k).2=(0,0):=by
 have a:oE toks k (T++[]):=by rw[F9];exact hF
 obtain⟨b,S,_,hu,hB⟩:=h a m9 l7 (e_start (e:=e) hF.1);have:=r_end hB (by rw[(oE.skip T a).nil.1]) l7;rw[bYu]at this;rw[this];simp only[qO,F9,K5];exact⟨hu,i6⟩
end
section
open Go.RowKit Go.Proofs.Tryz
def Sep (c:UInt8):Prop:=c=32\/c=41\/c=10
theorem Sep.word{c:UInt8}(h:Sep c):kU c=false:=by rcases h with rfl|rfl|rfl<;>decide
def NoNl (T:List Tk):Prop:= ∀t∈T,t.kind≠4
theorem NoNl.append{A B:List Tk}(h:NoNl A)(k:NoNl B):NoNl (A++B):=λt ht=>(E3.1 ht).elim (h t) (k t)
theorem NoNl.one{t:Tk}(h:t.kind≠4):NoNl [t]:=λu hu=>by rw[K7.1 hu];exact h
def Rng (n:Int):Prop:= -9223372036854775808<=n/\n<=9223372036854775807
def tokS (l:List fF):Nat:=match gO l []with
 |some [p]=>p.D
 |_=>0
end
section
open Go.RowKit Go.Proofs.Tryz
def nF.un (l:nF):nF:=⟨l.name,0,bBu l.K⟩
def hU.un (x:hU):hU:=⟨x.name,0,x.B⟩
def iL.un (p:iL):iL:=⟨p.C.map hU.un,p.G.map nF.un⟩
def costI (x:hU):Nat:=x.B.length+3
def costL (l:nF):Nat:=tokS l.K+if l.name=[]then 2 else 3
def bKy (p:iL):Nat:=(p.C.map costI).sum+(p.G.map costL).sum
structure SideOk (d:oI):Prop where
 ok:d.name=[]\/d.n=0/\dQ d.name=true
theorem name_ne{s:Bs}(h:dQ s=true):s≠[]/\s≠[105,110]/\s≠[111,117,116]:=by
 refine⟨?_,?_,?_⟩
 .rintro rfl;obtain⟨b,r,e,_⟩:=(vD h).head;cases e
 .rintro rfl;simp[dQ]at h
 .rintro rfl;simp[dQ]at h
theorem cAg(ins:List hU)(lns:List nF)(l:nF):tT ⟨ins,lns++[l]⟩=(l.name==[]):=by simp[tT]
structure RngP (p:iL):Prop where
 ins: ∀x∈p.C,∀d∈x.B,Rng d.n
 lns: ∀l∈p.G,∀x∈l.K,∀n∈x.nums,Rng n
end
section
open Go.RowKit Go.Proofs.Tryz
def sS:Stk->Nat
 |[]=>0
 |none::r=>sS r+1
 |some _::r=>sS r
def VbOk (it:fF):Prop:= ¬(it.H<3\/7<it.H\/it.nums≠[]\/it.name≠[]\/(verbS it).1=[])
inductive bIy:Stk->List gE->Nat->Prop
 |nil:bIy [] [] 0
 |brk {st P c}:bIy st P c->bIy (none::st) P (c+1)
 |one {it st P c}:VbOk it->vU it.H=false->bIy st P c->bIy (some it::st) P (c+(verbS it).2)
 |two {it st q P c}:VbOk it->vU it.H=true->(leftS q).J+sS st<=32->bIy st P c->bIy (some it::st) (q::P) (c+(verbS it).2+(leftS q).D)
theorem uR: ∀(a b:List fF) (st:List gE),gO (a++b) st=(gO a st).bind (gO b)
 |[],b,st=>rfl
 |x::a,b,st=>by
  rw[R0,gO,gO]
  cases jV st x with
  |none=>rfl
  |some s=>exact uR a b s
theorem steps_snoc{a:List fF}{x:fF}{st P P':List gE}(h:gO a st=some P)(hx:jV P x=some P'):gO (a++[x]) st=some P':=by rw[uR,h];show gO [x] P=_;rw[gO,hx];rfl
theorem bXs{it:fF}(h:VbOk it)(st:List gE):jV st it=rX it st:=by have a: ¬(it.H=1\/it.H=2):=λe=>h (.inl l7);unfold jV;rw[if_neg a,if_neg h]
theorem fin_pend{st:Stk}{P:List gE}{c:Nat}(h:bIy st P c): ∀{p:gE},p.J+sS st<=32-> ∃p' P' c',gO (qO st).1 (p::P)=some (p'::P')/\bIy (qO st).2 P' c'/\p'.D+c'=p.D+c/\p'.J+sS st<=32:=by
 induction h with
 |nil=>exact λ{p} a=>⟨p,[],0,rfl,.nil,rfl,a⟩
 |brk h _=>exact λ{p} a=>⟨p,_,_,rfl,.brk h,rfl,a⟩
 |one hv ht h ih=>
  rename_i it st P c;intro p a;obtain⟨p',P',c',h1,h2,b,h4⟩:=ih (p:=⟨(verbS it).1::p.words,p.J,p.D+(verbS it).2,false⟩) a;refine⟨p',P',c',?_,h2,by rw[b];simp only;omega,h4⟩;rw[qO];simp only[gO];rw[bXs hv];unfold rX;rw[ht];exact h1
 |two hv ht hn h ih=>
  rename_i it st q P c;intro p a
  obtain⟨p',P',c',h1,h2,b,h4⟩:=ih (p:=⟨(leftS q).words++(verbS it).1::p.words,max p.J (leftS q).J,p.D+(verbS it).2+(leftS q).D,false⟩) (by
   have:p.J+sS st<=32:=a;simp only
   omega)
  refine⟨p',P',c',?_,h2,by rw[b];simp only;omega,h4⟩;rw[qO];simp only[gO];rw[bXs hv];unfold rX;rw[ht];exact h1
theorem bUg: ∀st:Stk,((qO st).2=[]/\sS st=0)\/ ∃r,(qO st).2=none::r/\sS st=sS r+1
 |[]=> .inl ⟨rfl,rfl⟩
 |none::r=> .inr ⟨r,rfl,rfl⟩
 |some _::r=>bUg r
theorem isOk_43{a:Int}:oG (a,43)=false:=by simp[oG,nO]
theorem kK{a c:Int}(hc:c≠0):oG (a,c)=false:=by
 have:(c==0)=false:=by simpa using hc
 simp[oG,nO,this]
theorem two_mem{w:Bs}(h:jK w≠0):w∈verbWords:=by refine R8 λhn=>h ?_;simp only[verbWords,E2,not_or]at hn;unfold jK;simp only[hn,if_false]
theorem one_mem{w:Bs}(h:oJ w≠0):w∈verbWords:=by refine R8 λhn=>h ?_;simp only[verbWords,E2,not_or]at hn;unfold oJ;simp only[hn,or_self,if_false]
theorem verb_mem{w:Bs}{two:Bool}(h:gF w two≠0):w∈verbWords:=by
 cases two with
 |false=>exact one_mem h
 |true=>exact two_mem h
theorem bUp{two:Bool}{f:Int}{w:Bs}(hf:gF w two=f)(h0:f≠0): ∀l:List Bs,w∈l->(∀s∈l,s≠[])->lF two f l≠[]
 |[],h,_=>by simp at h
 |s::r,h,hne=>by
  rw[lF]
  by_cases hs:(gF s two !=0&&gF s two==f)=true
  .rw[if_pos hs];exact hne s m9
  .rw[if_neg hs];refine bUp hf h0 r ?_ λx hx=>hne x af5
   rcases E2.1 h with rfl|h
   .exact absurd (by simp[hf,h0]) hs
   .exact h
theorem bZn{two:Bool}{w:Bs}{f:Int}(hf:gF w two=f)(h0:f≠0):dR two f≠[]:=by rw[<-qY];exact bUp hf h0 _ (verb_mem (by rw[hf];exact h0)) m6
theorem bXc{toks:List TokV}{k:Nat}{e:Int}{two:Bool}(h:oG (bM toks k e two).Y=true):VbOk (bM toks k e two).it/\vU (bM toks k e two).it.H=two/\(verbS (bM toks k e two).it).2+k<=(bM toks k e two).next:=by
 unfold bM at h⊢;split at h
 .rename_i d;rw[if_pos d];split at h
  .simp only[isOk_43]at h;cases h
  .rename_i i;rw[if_neg i];rw[not_or]at i;obtain⟨b,g⟩:=i
   by_cases h0:jK (bL toks k).word=0
   .simp only[h0,if_true,isOk_43]at h;cases h
   .have ht:=bZn (two:=true) (w:=(bL toks k).word) rfl h0;have a:dR true (jK (bL toks k).word)≠[]:=ht;simp only[ne_eq,R9]at g;obtain⟨j,f⟩:=d
    rcases f with c|c|c
    all_goals
     rw[c]at g;simp only[c]at*;subst g;refine⟨?_,rfl,?_⟩
     .simp[VbOk,Phr.it,verbS,a,b]
     .simp[Phr.it,verbS,a,b];omega
 .rename_i d;rw[if_neg d]
  by_cases h0:gF (bL toks k).word two=0
  .simp only[h0,if_true,isOk_43]at h;cases h
  .have ht:=bZn (two:=two) (w:=(bL toks k).word) rfl h0
   cases two with
   |false=>
    refine⟨?_,rfl,?_⟩
    .simp[VbOk,Phr.it,verbS,ht]
    .simp[Phr.it,verbS];omega
   |true=>
    refine⟨?_,rfl,?_⟩
    .simp[VbOk,Phr.it,verbS,ht]
    .simp[Phr.it,verbS];omega
structure bVv (t:TokV):Prop where
 num:t.kind=2->t.word=[]
 word:t.kind=1->t.n=0
 rng:Rng t.n
def RngI (l:List fF):Prop:= ∀x∈l,∀n∈x.nums,Rng n
theorem RngI.append{a b:List fF}(h:RngI a)(k:RngI b):RngI (a++b):=λx hx=>(E3.1 hx).elim (h x) (k x)
def bBd (l:List fF)(m:Nat):Prop:=(∃p,gO l []=some [p]/\p.D<=m/\p.J<=32)/\RngI l
def RngS (st:Stk):Prop:= ∀x,some x∈st->x.nums=[]
theorem fin_rng: ∀{st:Stk},RngS st->RngI (qO st).1/\RngS (qO st).2
 |[],_=>⟨λx hx=>by simp[qO]at hx,λx hx=>by simp[qO]at hx⟩
 |none::r,h=>⟨λx hx=>by simp[qO]at hx,h⟩
 |some y::r,h=>by
  obtain⟨a,b⟩:=fin_rng (st:=r) λx hx=>h x (E4 _ hx);refine⟨λx hx=>?_,b⟩;rw[qO]at hx
  rcases E2.1 hx with rfl|hx
  .rw[h x (E8 ..)];simp
  .exact a x hx
theorem bCc(p:gE):p.D<=(leftS p).D/\(leftS p).D<=p.D+2/\p.J<=(leftS p).J/\(leftS p).J<=p.J+1:=by unfold leftS;split<;>simp
theorem pend_none{P:List gE}{c:Nat}(h:bIy [] P c):P=[]/\c=0:=by cases h;exact⟨rfl,rfl⟩
theorem pend_brk{st:Stk}{P:List gE}{c:Nat}(h:bIy (none::st) P c): ∃d,c=d+1/\bIy st P d:=by
 cases h with
 |brk h=>exact⟨_,rfl,h⟩
theorem nums_mem{toks:List TokV}(ht: ∀t∈toks,bVv t){k:Nat}{n:Int}(h:n∈iR toks k):Rng n:=by unfold iR at h;obtain⟨t,h1,rfl⟩:=R2.1 h;exact(ht t (O3 (List.takeWhile_sublist _ |>.subset h1))).rng
section
variable {toks : List TokV} {e : Int} {l : List fF} {flt : Flt} {k0 : Nat}
structure StB (toks:List TokV) (k0 k:Nat) (out:List fF) (st:Stk) (o:Nat) (p:gE) (P:List gE) (c:Nat):Prop where
 steps:gO out []=some (p::P)
 pend:bIy st P c
 cost:c+(leftS p).D+k0<=k
 J:sS st+(leftS p).J<=32
 opens:sS st=o
 rng:RngI out
 rngS:RngS st
 le:k<=toks.length
structure StA (toks:List TokV) (k0 k:Nat) (out:List fF) (st:Stk) (o:Nat) (P:List gE) (c:Nat):Prop where
 steps:gO out []=some P
 pend:bIy st P c
 cost:c+k0<=k
 opens:sS st=o
 rng:RngI out
 rngS:RngS st
 le:k<=toks.length
theorem bNp(toks:List TokV)(k:Nat)(e:Int)(b:Bool):(bM toks k e b).it.nums=[]:=rfl
theorem StB.verb{k:Nat}{out:List fF}{st:Stk}{o:Nat}{p:gE}{P:List gE}{c:Nat}(h:StB toks k0 k out st o p P c)(hok:oG (bM toks k e true).Y=true)(hk:k<toks.length):
  StA toks k0 (bM toks k e true).next out (some (bM toks k e true).it::st) o (p::P) (c+(verbS (bM toks k e true).it).2+(leftS p).D):=by
 obtain⟨b,a,f⟩:=bXc hok;refine⟨h.steps,.two b a (by have:=h.J;omega) h.pend,by have:=h.cost;omega,h.opens,h.rng,λx hx=>?_,bEj hk⟩
 rcases E2.1 hx with d|hx
 .cases d;exact bNp ..
 .exact h.rngS x hx
theorem StA.verb{k:Nat}{out:List fF}{st:Stk}{o:Nat}{P:List gE}{c:Nat}(h:StA toks k0 k out st o P c)(hok:oG (bM toks k e false).Y=true)(hk:k<toks.length):
  StA toks k0 (bM toks k e false).next out (some (bM toks k e false).it::st) o P (c+(verbS (bM toks k e false).it).2):=by
 obtain⟨b,a,f⟩:=bXc hok;refine⟨h.steps,.one b a h.pend,by have:=h.cost;omega,h.opens,h.rng,λx hx=>?_,bEj hk⟩
 rcases E2.1 hx with d|hx
 .cases d;exact bNp ..
 .exact h.rngS x hx
theorem StA.operand{k m:Nat}{out:List fF}{st:Stk}{o:Nat}{P:List gE}{c:Nat}{x:fF}{p:gE}(h:StA toks k0 k out st o P c)(hx:jV P x=some (p::P))(hp:p.plain=true)(hn:p.J=0)(ht:p.D<=m)(ho:o<=32)(hr: ∀n∈x.nums,Rng n)(hl:k+m<=toks.length):
  StB toks k0 (k+m) (out++[x]) st o p P c:=by
 have a:leftS p=p:=by unfold leftS;rw[if_pos hp]
 exact⟨steps_snoc h.steps hx,h.pend,by rw[a];have:=h.cost;omega,by rw[a,hn,h.opens];exact ho,h.opens,h.rng.append λy hy=>by rw[K7.1 hy];exact hr,h.rngS,hl⟩
theorem StB.close{k:Nat}{out:List fF}{st:Stk}{o:Nat}{p:gE}{P:List gE}{c:Nat}(h:StB toks k0 k out st (o+1) p P c)(hk:k<toks.length):
  ∃p' P' c',StB toks k0 (k+1) (out++(qO st).1) (qO st).2.tail o p' P' c':=by
 have hn:=h.J;have t:=h.cost;have ho:=h.opens;obtain⟨s,q,n,m⟩:=bCc p;obtain⟨p',P',c',h1,h2,u,h4⟩:=fin_pend h.pend (p:=p) l7
 rcases bUg st with ⟨_,h0⟩|⟨r,a,v⟩
 .omega
 .rw[a]at h2;obtain⟨d,rfl,f⟩:=pend_brk h2;obtain⟨l,j,i,g⟩:=bCc p';obtain⟨e,b⟩:=fin_rng h.rngS;refine⟨p',P',d,by rw[uR,h.steps];exact h1,by rw[a];exact f,l7,by rw[a];simp only[R1];omega,by rw[a];simp only[R1];omega,h.rng.append e,?_,l7⟩;intro x hx;rw[a]at b hx;exact b x (E4 _ hx)
theorem StB.done{k:Nat}{out:List fF}{st:Stk}{p:gE}{P:List gE}{c:Nat}(h:StB toks k0 k out st 0 p P c):bBd (out++(qO st).1) (toks.length-k0):=by
 have hn:=h.J;have j:=h.cost;have ho:=h.opens;have b:=h.le;obtain⟨i,g,f,e⟩:=bCc p;obtain⟨a,o,n,h1,h2,l,h4⟩:=fin_pend h.pend (p:=p) l7
 rcases bUg st with ⟨d,_⟩|⟨r,_,m⟩
 .rw[d]at h2;obtain⟨rfl,rfl⟩:=pend_none h2;exact⟨⟨a,by rw[uR,h.steps];exact h1,l7,l7⟩,h.rng.append (fin_rng h.rngS).1⟩
 .omega
theorem bYv{rec:Nat->List fF->Stk->Nat->bAx}{kk:Nat}(hrec: ∀{k out st o P c},kk<k->StA toks k0 k out st o P c->o<=32->rec k out st o=(l,flt)->bBd l (toks.length-k0))(hok:oG flt=true):
  ∀(o:Nat) {k:Nat} {out:List fF} {st:Stk} {p:gE} {P:List gE} {c:Nat},kk<=k->StB toks k0 k out st o p P c->wY toks e rec o k out st=(l,flt)->bBd l (toks.length-k0):=by
 have rest: ∀(o:Nat) {k:Nat} {out:List fF} {st:Stk} {p:gE} {P:List gE} {c:Nat},kk<=k->StB toks k0 k out st o p P c->bHz toks e rec o k out st=(l,flt)->bBd l (toks.length-k0):=by
  intro o k out st p P c a h hr;unfold bHz at hr;split at hr
  .split at hr
   .cases hr;rw[kK m6]at hok;cases hok
   .rename_i h0;cases hr;obtain rfl:o=0:=l7
    exact h.done
  .rename_i h4;split at hr
   .cases hr;rw[kK m6]at hok;cases hok
   .split at hr
    .rename_i b;have:=fA toks k e true;exact hrec l7 (h.verb b (lA h4)) (by have:=h.J;have:=h.opens;omega) hr
    .rename_i b;cases hr;exact absurd hok b
 intro o
 induction o with
 |zero=>exact λa h hr=>rest 0 a h hr
 |succ o ih=>
  intro k out st p P c a h hr;rw[wY]at hr;split at hr
  .rename_i d;obtain⟨g,j,i,f⟩:=h.close (lA (by rw[d.1];decide));exact ih l7 f hr
  .exact rest _ a h hr
theorem go_ok(ht: ∀t∈toks,bVv t)(h256:toks.length<=256)(hok:oG flt=true): ∀(f:Nat) {k:Nat} {out:List fF} {st:Stk} {o:Nat} {P:List gE} {c:Nat},toks.length+1<=f+k->StA toks k0 k out st o P c->o<=32->pG toks e f k out st o=(l,flt)->bBd l (toks.length-k0)
 |0,k,out,st,o,P,c,hf,h,_,_=>by have:=h.le;omega
 |f+1,k,out,st,o,P,c,hf,h,ho,hg=>by
  have hrec: ∀(k':Nat),k<k'-> ∀{out st o P c},StA toks k0 k' out st o P c->o<=32->pG toks e f k' out st o=(l,flt)->bBd l (toks.length-k0):=λk' hk'=>go_ok ht h256 hok f l7;rw[pG]at hg;split at hg
  .rename_i hv;split at hg
   .rename_i hp;have:=fA toks k e false;exact hrec _ l7 (h.verb hp (lA hv.2.1)) ho hg
   .rename_i hp;cases hg;exact absurd hok hp
  .split at hg
   .rename_i hb;split at hg
    .cases hg;rw[kK m6]at hok;cases hok
    .rename_i h32;have hk:=lA (toks:=toks) (k:=k) (by rw[hb.1];decide);refine hrec (k+1) l7 (P:=P) (c:=c+1) ⟨h.steps,.brk h.pend,by have:=h.cost;omega,by rw[sS,h.opens],h.rng,λx hx=>h.rngS x (by simpa using hx),hk⟩ l7 hg
   .split at hg
    .rename_i h2;have hn:=yC h2;have hl:=nums_le toks k;have hk:=lA (toks:=toks) (k:=k) (by rw[h2];decide)
     have hst:jV P (bEw toks k)=some (⟨(iR toks k).map fC,0,(iR toks k).length,true⟩::P):=by
      have hne:iR toks k≠[]:=by rw[hn];simp
      have h3: ¬256<(iR toks k).length:=l7
      simp[jV,bEw,operandS,hne,h3]
     have hB:=h.operand (m:=(iR toks k).length) hst rfl rfl (B0 _) ho (λn hn=>nums_mem ht hn) l7;exact bYv (kk:=k) (λhk'=>hrec _ hk') hok o l7 hB hg
    .split at hg
     .rename_i hnm;have hk:=lA (toks:=toks) (k:=k) (by rw[hnm.1];decide);have hst:jV P (vO toks k)=some (⟨[(bL toks k).word],0,1,true⟩::P):=by simp[jV,vO,operandS,hnm.2]
      have hB:=h.operand (m:=1) hst rfl rfl (B0 _) ho (λn hn=>by simp[vO]at hn) l7;exact bYv (kk:=k) (λhk'=>hrec _ hk') hok o l7 hB hg
     .split at hg
      .cases hg;rw[kK m6]at hok;cases hok
      .cases hg;rw[kK m6]at hok;cases hok
end
end
section
open Go.RowKit Go.Proofs.Tryz
theorem bPx: ∀(f i:Nat) (s:Bs) (out:List Tok),(∀t∈out,bVv t)-> ∀t∈(lexGo f i s out).1,bVv t
 |0,_,_,out,h=>h
 |_+1,_,[],out,h=>h
 |f+1,i,b::r,out,h=>by
  unfold lexGo;split
  .exact bPx f _ _ _ h
  .split
   .exact bPx f _ _ _ h
   .split
    .exact λt ht=>by simp at ht
    .rename_i ht;refine bPx f _ _ _ λt a=>?_
     rcases E3.1 a with a|a
     .exact h t a
     .rw[K7.1 a];have h1:=bLy ht;obtain⟨_,h2,c⟩:=cAj ht;exact⟨h1.num,h1.word,h2,c⟩
theorem tkOk(s:Bs): ∀t∈(iD s).1,bVv t:=by
 unfold iD;split
 .exact λt ht=>by simp at ht
 .exact bPx _ _ _ _ λt ht=>by simp at ht
theorem expr_ok{toks:List TokV}{e:Int}{k:Nat}(ht: ∀t∈toks,bVv t)(h256:toks.length<=256)(hk:k<=toks.length)(hok:oG (wF toks e k).2=true):bBd (wF toks e k).1 (toks.length-k):=
 go_ok (k0:=k) (e:=e) (l:=(wF toks e k).1) (flt:=(wF toks e k).2) ht h256 hok (toks.length+1) (k:=k) (o:=0) (P:=[]) (c:=0) l7 ⟨rfl,.nil,l7,rfl,λx hx=>by simp at hx,λx hx=>by simp at hx,hk⟩ l7 rfl
def InOk (x:hU):Prop:=dQ x.name=true/\x.B.length<=4/\ ∀d∈x.B,SideOk d/\Rng d.n
def LnOk (l:nF):Prop:=dQ l.name=true/\bBd l.K 254
def LastOk(l:nF):Prop:=l.name=[]/\bBd l.K 255
theorem bBd.mono{l:List fF}{a b:Nat}(h:bBd l a)(hab:a<=b):bBd l b:=by obtain⟨⟨p,h1,h2,c⟩,h4⟩:=h;exact⟨⟨p,h1,l7,c⟩,h4⟩
theorem bBd.tok{l:List fF}{a:Nat}(h:bBd l a):tokS l<=a:=by obtain⟨⟨p,h1,h2,b⟩,h4⟩:=h;unfold tokS;rw[h1];exact h2
theorem bBd.expr{l:List fF}{a:Nat}(h:bBd l a): ∃t,gX l a=some t:=by obtain⟨⟨p,h1,h2,b⟩,h4⟩:=h;have:=zV h1;simp at this;refine⟨joinSp p.words,?_⟩;unfold gX;rw[if_neg l7,h1];simp only;rw[if_neg l7]
def LinesOk(ls:List nF)(over:Bool):Prop:=(over=false/\ ∀l∈ls,LnOk l)\/(over=true/\ ∃L z,ls=L++[z]/\(∀l∈L,LnOk l)/\LastOk z)
structure PSt (p:iL) (n:Nat) (over:Bool):Prop where
 ins: ∀x∈p.C,InOk x
 lns:LinesOk p.G over
 num:p.C.length+p.G.length<=n
 le:n<=64
theorem bVl: ∀(toks:List TokV) (acc:List oI),(∀t∈toks,bVv t)->acc.length<=4->oG (oV toks acc).2=true-> ∃ds,(oV toks acc).1=acc++ds/\ds.length=toks.length/\(acc++ds).length<=4/\ ∀d∈ds,SideOk d/\Rng d.n
 |[],acc,_,ha,_=>⟨[],by simp[oV],rfl,by simpa using ha,m9⟩
 |t::r,acc,ht,ha,h=>by
  rw[oV]at h⊢;split at h
  .rw[kK m6]at h;cases h
  .rename_i c;rw[if_neg c];split at h
   .rw[kK m6]at h;cases h
   .rename_i h4;rw[if_neg h4];obtain⟨ds,h1,h2,f,e⟩:=bVl r (acc++[⟨t.word,t.n⟩]) (λx hx=>ht x af5) q9 h;refine⟨⟨t.word,t.n⟩::ds,by rw[h1];simp,by simp[h2],by simpa using f,λd b=>?_⟩
    rcases E2.1 b with rfl|b
    .have a:=ht t m9;refine⟨⟨?_⟩,a.rng⟩
     by_cases h2:t.kind=2
     .exact .inl (a.num h2)
     .have: ¬(t.kind≠1\/dQ t.word=false):=λhh=>c ⟨h2,hh⟩;simp only[not_or,ne_eq,R9,R7]at this;exact .inr ⟨a.word this.1,this.2⟩
    .exact e d b
theorem input_conv{own:List TokV}{e:Int}(h0:own≠[])(ht: ∀t∈own,bVv t)(hok:oG (mX own e).2=true):InOk (mX own e).1/\(mX own e).1.B.length+2=own.length:=by
 have c:0<own.length:=N6.2 h0;unfold mX at hok⊢;split at hok
 .rw[kK m6]at hok;cases hok
 .rename_i h1;rw[if_neg h1];split at hok
  .rw[kK m6]at hok;cases hok
  .rename_i h2;rw[if_neg h2];simp only[not_or,ne_eq,R9,R7]at h2;obtain⟨h,a,f,b,d⟩:=bVl (own.drop 2) [] (λt g=>ht t (O3 g)) m9 hok;rw[K5]at a b;refine⟨⟨h2.2,by rw[a];exact b,by rw[a];exact d⟩,?_⟩;rw[a,f,N9];omega
theorem into_conv{own:List TokV}{e:Int}{p:iL}{n:Nat}{over:Bool}(h0:own≠[])(ht: ∀t∈own,bVv t)(h:PSt p n over)(hok:oG (iV own e p n over).2=true):PSt (iV own e p n over).1 (n+1) (tT (iV own e p n over).1)/\bKy (iV own e p n over).1<=bKy p+own.length+1:=by
 have c:0<own.length:=N6.2 h0;obtain⟨f,a⟩:=p;obtain⟨h1,h2,j,h4⟩:=h;unfold iV at hok⊢;split at hok
 .rw[kK m6]at hok;cases hok
 .rename_i c1;rw[if_neg c1];split at hok
  .rw[kK m6]at hok;cases hok
  .rename_i c2;rw[if_neg c2];split at hok
   .rw[kK m6]at hok;cases hok
   .rename_i c3;rw[if_neg c3];simp only[not_or,Bool.not_eq_true,not_and,ne_eq,R9]at c3;obtain⟨rfl,c3⟩:=c3
    have m: ∀l∈a,LnOk l:=by
     rcases h2 with ⟨_,h⟩|⟨h,_⟩
     .exact h
     .cases h
    split at hok
    .rename_i c4;rw[if_pos c4];have b:a=[]:=c3 c4;subst b;obtain⟨o,q⟩:=input_conv h0 ht hok;refine⟨⟨λx hx=>?_,.inl ⟨rfl,λl b=>by simp at b⟩,by simp at j⊢;omega,l7⟩,?_⟩
     .rcases E3.1 hx with hx|hx
      .exact h1 x hx
      .rw[K7.1 hx];exact o
     .simp only[bKy,L2,R3,N7,O6,N8,R4,costI];omega
    .rename_i c4;rw[if_neg c4];split at hok
     .rename_i c5;rw[if_pos c5];have hx:bBd (wF own e 1).1 (own.length-1):=expr_ok ht l7 c hok;have g:=hx.tok;refine⟨⟨h1,.inr ⟨by rw[cAg];rfl,a,_,rfl,m,rfl,hx.mono l7⟩,by simp only[F4,R5]at j⊢;omega,l7⟩,?_⟩;simp only[bKy,L2,R3,N7,O6,N8,R4,costL,wP,if_true];omega
     .rename_i c5;rw[if_neg c5];split at hok
      .rw[kK m6]at hok;cases hok
      .rename_i c6;rw[if_neg c6];simp only[not_or,ne_eq,R9,R7]at c6;split at hok
       .rw[kK m6]at hok;cases hok
       .rename_i c7;rw[if_neg c7];simp only[not_or,ne_eq,R9]at c7;have r:=lA (toks:=own) (k:=1) (by rw[c7.1];decide);have hx:bBd (wF own e 2).1 (own.length-2):=expr_ok ht l7 l7 hok;have g:=hx.tok;have d:=(name_ne c6.2).1
        have i:tT ⟨f,a++[(wP own e (bL own 0).word 2).1]⟩=false:=by
         rw[cAg]
         simpa[wP]using d
        refine⟨⟨h1,.inl ⟨i,λl b=>?_⟩,by simp only[F4,R5]at j⊢;omega,l7⟩,?_⟩
        .rcases E3.1 b with b|b
         .exact m l b
         .rw[K7.1 b];exact⟨c6.2,hx.mono l7⟩
        .simp only[bKy,L2,R3,N7,O6,N8,R4,costL,wP,d,if_false];omega
theorem xK{len:Int}{tot:Nat}: ∀(f:Nat) {toks:List TokV} {p q:iL} {n:Nat} {over:Bool} {flt:Flt},toks.length+1<=f->(∀t∈toks,bVv t)->PSt p n over->bKy p+toks.length<=tot+(if toks=[]then 1 else 0)->uW len f toks p n over=(q,flt)->oG flt=true->PSt q 64 true/\bKy q<=tot+1
 |0,toks,_,_,_,_,_,hf,_,_,_,_,_=>by omega
 |f+1,toks,p,q,n,over,flt,hf,ht,hp,hc,h,hok=>by
  rw[uW]at h
  by_cases h0:toks=[]
  .rw[if_pos h0]at h;rw[if_pos h0]at hc;split at h
   .rename_i ho;cases h;subst ho;have:toks.length=0:=by rw[h0];rfl
    exact⟨⟨hp.ins,hp.lns,by have:=hp.num;have:=hp.le;omega,l7⟩,l7⟩
   .cases h;rw[kK m6]at hok;cases hok
  .rw[if_neg h0]at h;rw[if_neg h0]at hc;have i:0<toks.length:=N6.2 h0;split at h
   .refine xK f al6 (λt c=>ht t (O3 c)) hp ?_ h hok;rw[N9];split<;>omega
   .rename_i g;split at h
    .rename_i hi;have d: ∀t∈fQ toks,bVv t:=λt c=>ht t (by rw[<-bJp]at c;exact List.mem_of_mem_take c);obtain⟨a,b⟩:=into_conv g d hp hi;have j:=bVd toks;refine xK f al6 (λt c=>ht t (O3 c)) a ?_ h hok;rw[N9];split
     .omega
     .rename_i k;have:(toks.drop ((fQ toks).length+1)).length≠0:=λe=>k (List.eq_nil_of_length_eq_zero e);rw[N9]at this;omega
    .rename_i hi;cases h;exact absurd hok hi
theorem parse_conv{text:Bs}{p:iL}{flt:Flt}(h:jI text=(p,flt))(hok:oG flt=true):PSt p 64 true/\bKy p<=(iD text).1.length+1:=by
 unfold jI at h;split at h
 .refine xK _ (B0 _) (tkOk text) ⟨λx hx=>by simp at hx,.inl ⟨rfl,λl a=>by simp at a⟩,m9,l7⟩ ?_ h hok;simp[bKy]
 .rename_i a;cases h;exact absurd hok a
theorem bGz: ∀(ds:List oI) (acc:Bs),(∀d∈ds,SideOk d)-> ∃t,mD ds acc=some t
 |[],acc,_=>⟨acc,rfl⟩
 |d::ds,acc,h=>by
  rw[mD];split
  .exact bGz ds _ λx hx=>h x af5
  .rename_i he;rw[if_pos ((h d m9).ok.resolve_left he)];exact bGz ds _ λx hx=>h x af5
theorem bNy: ∀(xs:List hU) (o:Bs),(∀x∈xs,InOk x)-> ∃o',oM xs o=(o',true)
 |[],o,_=>⟨o,rfl⟩
 |x::xs,o,h=>by
  obtain⟨h1,h2,b⟩:=h x m9;obtain⟨t,ht⟩:=bGz x.B x.name λd a=>(b d a).1
  have hi:inputS x=some t:=by unfold inputS;rw[if_neg (by rw[h1];simp;omega),ht]
  rw[oM,hi];exact bNy xs _ λy hy=>h y ae1
theorem bTz{z:nF}(hz:LastOk z): ∀(L:List nF) (o:Bs),(∀l∈L,LnOk l)-> ∃o',gS (L++[z]) o=(o',true)
 |[],o,_=>by
  obtain⟨t,ht⟩:=hz.2.expr;refine⟨o++(([111,117,116,32]++t)++[10]),?_⟩;show gS [z] o=_;simp only[gS];rw[ht];simp only[hz.1,ne_eq,not_true_eq_false,if_false]
 |l::L,o,h=>by
  obtain⟨h1,h2⟩:=h l m9;obtain⟨t,ht⟩:=h2.expr;obtain⟨o',ho⟩:=bTz hz L (o++(((l.name++[58,32])++t)++[10])) λy hy=>h y ae1;refine⟨o',?_⟩
  obtain⟨m,M,hM⟩: ∃m M,L++[z]=m::M:=by
   cases L with
   |nil=>exact⟨z,[],rfl⟩
   |cons m M=>exact⟨m,M++[z],rfl⟩
  rw[R0];rw[hM]at ho⊢
  have:gS (l::m::M) o=match gX l.K 254 with
    |none=>(o,false)
    |some t=>if dQ l.name=false then (o,false)else gS (m::M) (o++(((l.name++[58,32])++t)++[10])):=rfl
  rw[this,ht];simp only;rw[if_neg am3];exact ho
theorem PSt.lines_ne{p:iL}{n:Nat}(h:PSt p n true):p.G≠[]:=by
 rcases h.lns with ⟨h,_⟩|⟨_,L,z,h,_⟩
 .cases h
 .rw[h];simp
theorem PSt.right{p:iL}(h:PSt p 64 true):(dU p).2=true:=by
 unfold dU;rw[if_neg]
 .obtain⟨o,ho⟩:=bNy p.C [] h.ins;rw[ho]
  rcases h.lns with ⟨h,_⟩|⟨_,L,z,c,d,b⟩
  .cases h
  .obtain⟨e,a⟩:=bTz b L o d;simp only[c,a]
 .have:=h.num;rintro(h'|h')
  .exact h.lines_ne h'
  .omega
theorem PSt.rng{p:iL}{n:Nat}(h:PSt p n true):RngP p:=by
 refine⟨λx hx d c=>((h.ins x hx).2.2 d c).2,λl a=>?_⟩
 rcases h.lns with ⟨h,_⟩|⟨_,L,z,e,f,b⟩
 .cases h
 .rw[e]at a
  rcases E3.1 a with a|a
  .exact(f l a).2.2
  .rw[K7.1 a];exact b.2.2
theorem isOk_iff{f:Flt}:oG f=true↔f=(0,0):=by
 constructor
 .intro h;simp only[oG,nO,J3,beq_iff_eq]at h;exact Prod.ext h.1 h.2
 .rintro rfl;rfl
theorem bXb{text:Bs}(h:(jI text).2=(0,0)):(dU (jI text).1).2=true/\RngP (jI text).1:=by have:=parse_conv (text:=text) (p:=(jI text).1) (flt:=(jI text).2) rfl (isOk_iff.2 h);exact⟨this.1.right,this.1.rng⟩
end
section
open Go.RowKit Go.Proofs.Tryz
end
section
open Go.RowKit Go.Proofs.Tryz
section
variable {α : Type} {f : α -> α -> Bool} {x y : α} {i : Nat}
theorem yD{a b:List α}{k:Nat}(h:a.take k=b.take k)(hx:a[k]?=some x)(hy:b[k]?=some y)(e:x=y):a.take (k+1)=b.take (k+1):=by subst e;rw[R6,R6,h,hx,hy]
theorem bBv{a b:List α}{k:Nat}(h:a.take k=b.take k)(ha:a.length<=k)(hb:b.length<=k):a=b:=by rw[F6 ha,F6 hb]at h;exact h
theorem yO{a b:List α}{k:Nat}(hx:a[k]?=some x)(hy:b[k]?=some y)(e:x≠y):a≠b:=by rintro rfl;rw[hx]at hy;exact e (Option.some.inj hy)
end
end
section
open Go.RowKit Go.Proofs.Tryz
theorem step_bound{st st':List gE}{x:fF}(h:jV st x=some st'):x.name.length<=16/\x.nums.length<=256:=by
 unfold jV at h;split at h
 .unfold operandS at h;split at h
  .split at h
   .rename_i a;rw[a.2.1];exact⟨(vD a.2.2).len,m9⟩
   .simp at h
  .split at h
   .simp at h
   .rename_i a;simp only[not_or,ne_eq,R9,C3]at a;rw[a.2.1];exact⟨m9,a.2.2.2⟩
 .split at h
  .cases h
  .rename_i a;simp only[not_or,ne_eq,R9]at a;rw[a.2.2.1,a.2.2.2.1];exact⟨m9,m9⟩
theorem bNh: ∀{l:List fF} {st st':List gE},gO l st=some st'-> ∀x∈l,x.name.length<=16/\x.nums.length<=256
 |[],_,_,_,x,hx=>by simp at hx
 |y::l,st,st',h,x,hx=>by
  rw[gO]at h
  cases h1:jV st y with
  |none=>rw[h1]at h;cases h
  |some s1=>
   rw[h1]at h
   rcases E2.1 hx with rfl|hx
   .exact step_bound h1
   .exact bNh h x hx
theorem bUq{l:List fF}{m:Nat}{t:Bs}(h:gX l m=some t):l.length<=m/\ ∀x∈l,x.name.length<=16/\x.nums.length<=256:=by
 unfold gX at h;split at h
 .cases h
 .rename_i a;split at h
  .rename_i hq;exact⟨l7,bNh hq⟩
  .cases h
theorem bCk: ∀{ds:List oI} {acc t:Bs},mD ds acc=some t-> ∀d∈ds,d.name.length<=16
 |[],_,_,_,d,a=>by simp at a
 |e::ds,acc,t,h,d,a=>by
  rw[mD]at h;split at h
  .rename_i he
   rcases E2.1 a with rfl|a
   .rw[he];simp
   .exact bCk h d a
  .split at h
   .rename_i b
    rcases E2.1 a with rfl|a
    .exact(vD b.2).len
    .exact bCk h d a
   .cases h
theorem bKx: ∀{xs:List hU} {o o':Bs},oM xs o=(o',true)-> ∀x∈xs,x.name.length<=16/\x.B.length<=4/\ ∀d∈x.B,d.name.length<=16
 |[],_,_,_,x,hx=>by simp at hx
 |y::xs,o,o',h,x,hx=>by
  rw[oM]at h
  cases hi:inputS y with
  |none=>rw[hi]at h;simp at h
  |some t=>
   rw[hi]at h;simp only at h
   rcases E2.1 hx with rfl|hx
   .unfold inputS at hi;split at hi
    .cases hi
    .rename_i a;simp only[not_or,R7,C3]at a;exact⟨(vD a.1).len,a.2,bCk hi⟩
   .exact bKx h x hx
theorem bNx: ∀{ls:List nF} {o o':Bs},gS ls o=(o',true)-> ∀l∈ls,l.name.length<=16/\l.K.length<=255/\ ∀x∈l.K,x.name.length<=16/\x.nums.length<=256
 |[],_,_,_,l,c=>by simp at c
 |[m],o,o',h,l,c=>by
  rw[K7.1 c];simp only[gS]at h
  cases hx:gX m.K 255 with
  |none=>rw[hx]at h;simp at h
  |some t=>
   rw[hx]at h;simp only at h;split at h
   .simp at h
   .rename_i hn;simp only[ne_eq,R9]at hn;obtain⟨a,b⟩:=bUq hx;exact⟨by rw[hn];simp,a,b⟩
 |m::n::ls,o,o',h,l,c=>by
  have d:(match gX m.K 254 with
    |none=>(o,false)
    |some t=>if dQ m.name=false then (o,false)else gS (n::ls) (o++(((m.name++[58,32])++t)++[10])))=(o',true):=h
  cases hx:gX m.K 254 with
  |none=>rw[hx]at d;simp at d
  |some t=>
   rw[hx]at d;simp only at d;split at d
   .simp at d
   .rename_i e;simp only[R7]at e
    rcases E2.1 c with rfl|c
    .obtain⟨a,b⟩:=bUq hx;exact⟨(vD e).len,l7,b⟩
    .exact bNx d l c
structure Fine (p:iL):Prop where
 ins:p.C.length<=64
 lns:p.G.length<=64
 input: ∀x∈p.C,x.name.length<=16/\x.B.length<=4/\ ∀d∈x.B,d.name.length<=16
 line: ∀l∈p.G,l.name.length<=16/\l.K.length<=255/\ ∀x∈l.K,x.name.length<=16/\x.nums.length<=256
theorem wS{p:iL}(h:(dU p).2=true):Fine p:=by
 unfold dU at h;split at h
 .cases h
 .rename_i a;simp only[not_or,C3]at a
  cases hi:oM p.C []with
  |mk o b=>
   rw[hi]at h
   cases b with
   |false=>cases h
   |true=>
    simp only at h;exact⟨l7,l7,bKx hi,bNx (o':=(gS p.G o).1) (Prod.ext rfl h)⟩
section
variable {x : ProgV}
theorem bEq{y:InputV}(h:y∈x.C.A):y.inp∈x.pr.C:=R2.2 ⟨y,h,rfl⟩
theorem mem_ln{y:LineV}(h:y∈x.G.A):y.ln∈x.pr.G:=R2.2 ⟨y,h,rfl⟩
theorem mem_sd{y:InputV}{d:kP}(h:d∈y.B.A):d.sd∈y.inp.B:=R2.2 ⟨d,h,rfl⟩
theorem mem_it{y:LineV}{d:ItemV}(h:d∈y.K.A):d.it∈y.ln.K:=R2.2 ⟨d,h,rfl⟩
theorem Fine.ok(h:Fine x.pr)(hr:RngP x.pr):rW x/\x.C.A.length<=140737488355328/\x.G.A.length<=140737488355328:=by
 have g:x.pr.C.length=x.C.A.length:=O4 _;have f:x.pr.G.length=x.G.A.length:=O4 _;have h1:=h.ins;have h2:=h.lns;refine⟨⟨λy hy=>?_,λy hy=>?_⟩,l7,l7⟩
 .obtain⟨a,b,c⟩:=h.input _ (bEq hy);refine⟨B1 a m6,λd e=>⟨B1 (c _ (mem_sd e)) m6,?_⟩⟩;exact hr.ins _ (bEq hy) _ (mem_sd e)
 .obtain⟨a,b,c⟩:=h.line _ (mem_ln hy);refine⟨B1 a m6,λd e=>⟨B1 (c _ (mem_it e)).1 m6,?_⟩⟩;exact hr.lns _ (mem_ln hy) _ (mem_it e)
end
end
section
open Go.RowKit Go.Proofs.Tryz
abbrev w64(z:Int):Int:=IntKind.i64.wrap z
def takesW(f:Int)(two:Bool):Bool:=if f<1\/17<f then false else if f=16 then !two else two || decide (f<=7)
def restW (a b:Int):Int:=if a.tmod b≠0/\decide (a.tmod b<0)≠decide (b<0)then w64 (a.tmod b+b)else a.tmod b
def truthW(b:Bool):Int:=if b then 1 else 0
def big1 (a:Int):Bool:=decide (1<IntKind.u64.wrap a)
def refusesW(f a b:Int):Bool:=if f=4 then b==0 else if f=17 then decide (b<0)else if f=14\/f=15 then big1 a || big1 b else false
def raisedGo:Nat->Int->Int->Nat->Int
 |0,p,_,_=>p
 |k+1,p,a,n=>if n=0 then p else raisedGo k (if n%2=1 then w64 (p*a)else p) (w64 (a*a)) (n/2)
def raisedW(a n:Int):Int:=raisedGo (n.toNat+1) 1 a n.toNat
def holdsW(f a b:Int):Bool:=if f=8 then a==b else if f=9 then a !=b else if f=10 then decide (a<b)else if f=11 then decide (a<=b)else if f=12 then decide (b<=a)else decide (b<a)
def andW (a b:Int):Int:=w64 ((BitVec.ofInt 64 a&&&BitVec.ofInt 64 b).toNat:Nat)
def orW (a b:Int):Int:=w64 ((BitVec.ofInt 64 a ||| BitVec.ofInt 64 b).toNat:Nat)
def xorW (a b:Int):Int:=w64 ((BitVec.ofInt 64 a^^^BitVec.ofInt 64 b).toNat:Nat)
def divW (a b:Int):Int:=if restW a b≠a.tmod b then w64 (w64 (a.tdiv b)-1)else w64 (a.tdiv b)
def minW (a b:Int):Int:=if b<a then b else a
def maxW (a b:Int):Int:=if b>a then b else a
def dyad0 (f a b:Int):Int:=
 if f=1 then w64 (a+b)else if f=2 then w64 (a-b)else if f=3 then w64 (a*b)else if f=4 then divW a b else if f=5 then (if a=0 then b else restW b a)
 else if f=6 then minW a b else if f=7 then maxW a b else if f=14 then andW a b else if f=15 then orW a b else if f=17 then raisedW a b else truthW (holdsW f a b)
def dyadW (f a b:Int):Int×Int:=if takesW f true=false then (0,10)else if refusesW f a b=true then (0,11)else (dyad0 f a b,0)
def monadW(f a:Int):Int×Int:=
 if takesW f false=false then (0,10)else if f=2 then (w64 (0-a),0)else if f=3 then (w64 (truthW (decide (0<a))-truthW (decide (a<0))),0)else if f=4 then dyadW f 1 a
 else if f=5 then (maxW a (w64 (0-a)),0)else if f=16 then (if big1 a=true then (0,11)else (xorW a 1,0))else (a,0)
end
section
open Go.RowKit Go.Proofs.Tryz
structure Arr where
 B:List Int
 data:List Int
 deriving Inhabited,DecidableEq
def bJb (s:Int):Bool:=decide (s<0) || decide (65536<s)
def prodGo:List Int->Int->Int×Int
 |[],n=>(n,0)
 |s::r,n=>if 65536<w64 (n*s)then (0,61)else prodGo r (w64 (n*s))
def sizeA (s:List Int):Int×Int:=if 4<s.length\/s.any bJb=true then (0,61)else if s.contains 0=true then (0,0)else prodGo s 1
def rightA(a:Arr):Bool:=(sizeA a.B).2==0&&(sizeA a.B).1==(a.data.length:Int)
def mapM (f:Int):List Int->List Int×Int
 |[]=>([],0)
 |n::r=>if (monadW f n).2≠0 then ([],(monadW f n).2)else if (mapM f r).2≠0 then ([],(mapM f r).2)else ((monadW f n).1::(mapM f r).1,0)
end
section
open Go.RowKit Go.Proofs.Tryz
def xE:List Int->Int
 |[]=>1
 |s::r=>s*xE r
theorem bKk: ∀(a b:List Int),xE (a++b)=xE a*xE b
 |[],b=>by simp[xE]
 |s::a,b=>by rw[R0,xE,xE,bKk a b,Int.mul_assoc]
theorem bFc: ∀(a:List Int),xE a.reverse=xE a
 |[]=>rfl
 |s::a=>by rw[L1,bKk,bFc a,xE,xE,xE,Int.mul_one,Int.mul_comm]
structure SidesOk (s:List Int):Prop where
 len:s.length<=4
 rng: ∀x∈s,0<=x/\x<=65536
 prod:0<=xE s/\xE s<=65536
theorem badN_no{x:Int}(h:bJb x=false):0<=x/\x<=65536:=by simp only[bJb,Bool.or_eq_false_iff,decide_eq_false_iff_not]at h;omega
theorem SidesOk.reverse{s:List Int}(h:SidesOk s):SidesOk s.reverse:=⟨by simpa using h.len,λx hx=>h.rng x (by simpa using hx),by rw[bFc];exact h.prod⟩
inductive uE:List Int->List Int->Prop
 |nil:uE [] []
 |cons {s k sides index}:0<=k->k<s->uE sides index->uE (s::sides) (k::index)
theorem uE.len{s k:List Int}(h:uE s k):k.length=s.length:=by induction h<;>simp_all
theorem uE.append{a b c d:List Int}(h:uE a b)(k:uE c d):uE (a++c) (b++d):=by
 induction h with
 |nil=>exact k
 |cons h0 h1 _ ih=>exact .cons h0 h1 ih
theorem uE.reverse{s k:List Int}(h:uE s k):uE s.reverse k.reverse:=by
 induction h with
 |nil=>exact .nil
 |cons h0 h1 _ ih=>
  rw[L1,L1];exact ih.append (.cons h0 h1 .nil)
end
section
open Go.RowKit Go.Proofs.Tryz
end
section
open Go.RowKit Go.Proofs.Tryz
def iT:List oI->List Bs->List Bs
 |[],out=>out
 |d::r,out=>iT r (if d.name=[]\/out.contains d.name=true then out else out++[d.name])
def dZ (l:List hU):List oI:=l.flatMap hU.B
def dG (p:iL):List Bs:=iT (dZ p.C) []
abbrev bFl:=List (Bs×Arr)
def look (k:Bs):bFl->Option Arr
 |[]=>none
 |p::r=>if k=p.1 then some p.2 else look k r
def idxOf (k:Bs):List Bs->Int->Int
 |[],_=> -1
 |s::r,i=>if s=k then i else idxOf k r (i+1)
def tS (vars:List Bs)(x:hU):Bool:=x.B.any λd=>(d.name==[]&&bJb d.n) || decide (6<=idxOf d.name vars 0)
def fL (it:fF):Nat:=if it.H=3\/it.H=5\/it.H=6 then 1 else if it.H=4\/it.H=7 then 2 else 0
end
section
open Go.RowKit Go.ChangeShapes Go.WideShapes Go.Proofs.Tryz
def bYn:Flat (Sl Int):=(intTy.slice 8).E
section
variable {α H : Type} {enc : TypeId × Value -> H} {P : Program} {w : World} {t e : TypeId}
def Ty.slicec(T:Ty α)(b:Nat):Ty (Sl α):=⟨slE α,λs=>((T.slice b).deep s).and (Fact.pure (s.A.length<=s.cap))⟩
theorem bXj{deep:Sl α->Fact}(hu:P.underlying t=some (.slice e))(he:uA enc P w t (slE α).cells deep):uA enc P w t (slE α).cells (λs=>(deep s).and (Fact.pure (s.A.length<=s.cap))):=λb i x h j=>by
 obtain⟨a,g,d⟩:=he b i x h j;refine⟨a,g,d,?_⟩;have f:i=[.slice a.I a.A.length a.cap]:=g;show a.A.length<=a.cap
 rcases Deep.open_slice hu h with ⟨c,_⟩|⟨l,len,cap,m,n,D,o,c,_,k,_⟩
 .rw[f]at c;simp only[List.cons.injEq,and_true,Value.slice.injEq]at c;omega
 .rw[f]at c;simp only[List.cons.injEq,and_true,Value.slice.injEq]at c;omega
end
structure ArrV where
 B:(Sl Int)
 data:(Sl Int)
 deriving Inhabited
def meanT:Tab:=[(3,⟨.int .i64,1⟩),(2,⟨.int .i64,1⟩),(5,⟨.int .u8,1⟩),(9,⟨.string,1⟩),(4,⟨.bool,1⟩),(59,⟨.int .u8,1⟩),(28,⟨.int .i64,1⟩),(60,⟨.slice 2,1⟩),(46,⟨.slice 9,1⟩),(110,⟨.struct [(3,0),(3,1),(9,2),(2,3)],4⟩),(103,⟨.slice 110,1⟩),(30,⟨.struct [(3,0),(28,1)],2⟩),(52,⟨.struct [(9,0),(2,1)],2⟩),(48,⟨.slice 52,1⟩),(50,⟨.struct [(9,0),(3,1),(48,2)],3⟩),(22,⟨.slice 50,1⟩),(62,⟨.struct [(3,0),(3,1),(59,2),(9,3),(60,4)],5⟩),(56,⟨.slice 62,1⟩),(58,⟨.struct [(9,0),(3,1),(56,2)],3⟩),(23,⟨.slice 58,1⟩),(25,⟨.struct [(22,0),(23,1)],2⟩),(108,⟨.struct [(103,0),(3,1),(3,2)],3⟩),(106,⟨.other,1⟩),(172,⟨.slice 1,1⟩),(1,⟨.other,1⟩),(221,⟨.int .u64,1⟩),(83,⟨.map 9 4,1⟩)]
theorem bJo:gA prog meanT:=zB.ok
 ⟨⟨by rw[underlying3];rfl,m0⟩,
  ⟨by rw[underlying2];rfl,m0⟩,
  ⟨by rw[underlying5];rfl,m0⟩,
  ⟨by rw[underlying9];rfl,m0⟩,
  ⟨by rw[underlying4];rfl,m0⟩,
  ⟨by rw[underlying59];rfl,m0⟩,
  ⟨by rw[underlying28];rfl,m0⟩,
  ⟨by rw[underlying60];rfl,m0⟩,
  ⟨by rw[underlying46];rfl,m0⟩,
  ⟨by rw[underlying110];rfl,m0⟩,
  ⟨by rw[underlying103];rfl,m0⟩,
  ⟨by rw[underlying30];rfl,m0⟩,
  ⟨by rw[underlying52];rfl,m0⟩,
  ⟨by rw[underlying48];rfl,m0⟩,
  ⟨by rw[underlying50];rfl,m0⟩,
  ⟨by rw[underlying22];rfl,m0⟩,
  ⟨by rw[underlying62];rfl,m0⟩,
  ⟨by rw[underlying56];rfl,m0⟩,
  ⟨by rw[underlying58];rfl,m0⟩,
  ⟨by rw[underlying23];rfl,m0⟩,
  ⟨by rw[underlying25];rfl,m0⟩,
  ⟨by rw[underlying108];rfl,m0⟩,
  ⟨by rw[underlying106];rfl,m0⟩,
  ⟨by rw[underlying172];rfl,m0⟩,
  ⟨by rw[underlying1];rfl,m0⟩,
  ⟨by rw[underlying221];rfl,m0⟩,
  ⟨by rw[underlying83];rfl,m0⟩,i6⟩
def progcE:Flat ProgV where
 size:=2
 cells:=λx=>[.slice x.C.I x.C.A.length x.C.cap,.slice x.G.I x.G.A.length x.G.cap]
 len:=λ_=>rfl
 one:=λx u hu=>by
  simp at hu
  rcases hu with rfl|rfl<;>rfl
 pos:=m6
def progcTy:Ty ProgV:=⟨progcE,λx=>(((bKn.slicec 48)).deep x.C).and ((((bQz.slicec 48)).deep x.G).and (Fact.true))⟩
theorem opens_progc{H:Type}{enc:TypeId×Value->H}{w:World}:uA enc prog w 25 progcE.cells progcTy.deep:=λp t x h o=>by
 obtain⟨e,n,_,rfl,a,f,hf⟩:=DataW.trod_struct underlying25 h;have q:prog.cellsOf 25=2:=m0
 rw[q]at a;have m:e.length=2:=f
 match t,a with
 |[c0,c1],_=>
  have h0:DataW.trod enc prog w 0 (λ_=>true) true n 22 (([c0,c1].drop 0).take (prog.cellsOf 22))=e[0]?:=hf 0 _ rfl;have h1:DataW.trod enc prog w 0 (λ_=>true) true n 23 (([c0,c1].drop 1).take (prog.cellsOf 23))=e[1]?:=hf 1 _ rfl;rw[F1 l7]at h0;obtain⟨d,k,s⟩:=(bXj underlying22 (sM (T:=bKn) (b:=48) underlying22 m0 m0 opens_input)) _ _ _ h0 (fZ underlying25 o (j:=0) rfl (by rw[K1,F1 l7];rfl))
  have l:[c0]=[.slice d.I d.A.length d.cap]:=by
   have g:prog.cellsOf 22=1:=m0
   rw[g]at k;exact k
  clear k;simp only[List.cons.injEq,and_true]at l;rw[F1 l7]at h1;obtain⟨c,i,r⟩:=(bXj underlying23 (sM (T:=bQz) (b:=48) underlying23 m0 m0 opens_line)) _ _ _ h1 (fZ underlying25 o (j:=1) rfl (by rw[K1,F1 l7];rfl))
  have q1:[c1]=[.slice c.I c.A.length c.cap]:=by
   have g:prog.cellsOf 23=1:=m0
   rw[g]at i;exact i
  clear i;simp only[List.cons.injEq,and_true]at q1;obtain rfl:=l;obtain rfl:=q1;exact⟨⟨d,c⟩,rfl,s,r,i6⟩
