/- Texts of one proof, one behind the other: MapI, TysS, MixT, BuildA. -/
import Derived.Test.YtbgdphbebhjpiaaGreatDoorM3
import Derived.MapKept
import Derived.ChangeMaps5
import Derived.WideKeyEntry
import Derived.Lib.AppendStr
import Derived.Lib.UnsafeStr
import Derived.Lib.Builder
import Derived.Test.YtbgdphbebhjpiaaGreatDoorM6
import Derived.Test.YtbgdphbebhjpiaaGreatDoorM4
import Derived.Test.YtbgdphbebhjpiaaGreatDoorM2
import Derived.Lib.Fields
namespace Go.Proofs.YtbgdphbebhjpiaaGreatDoor
open Go.RowKit
open Go.ChangeMaps (setBlock)
abbrev KV:=List (Int×Value)
def kvI (kk:IntKind)(kv:KV):List (Value×Value):=kv.map fun p=>(Value.int kk p.1,p.2)
def tH (e:MapEntry):Value×Value:=(e.key,e.val)
def MapO (kk:IntKind)(kv:KV)(o:Option Obj):Prop:= ∃es clock,o=some (.map es clock)∧es.toList.map tH=kvI kk kv
def mapC (r:Nat)(kk:IntKind)(kv:KV):bW:= .gen (some r) (MapO kk kv)
def mapF (r:Nat)(kk:IntKind)(kv:KV):Fact where
  p S w:=S r∧MapO kk kv (w.heap[r]?)
  mono:=fun hs ha h=>⟨hs _ h.1,by rw [ha r h.1];exact h.2⟩
def uT (k:Int):KV→Nat→Option (Nat×Value)
  | [],_=>none
  | p::r,i=>if k==p.1 then some (i,p.2) else uT k r (i+1)
def yQ (k:Int):KV→Option Value
  | []=>none
  | p::r=>if k==p.1 then some p.2 else yQ k r
def xU (k:Int)(v:Value):KV→KV
  | []=>[(k,v)]
  | p::r=>if k==p.1 then (k,v)::r else p::xU k v r
theorem find_get(k:Int): ∀(kv:KV) (i:Nat),(uT k kv i).map (·.2)=yQ k kv
  | [],_=>rfl
  | p::r,i=>by
    unfold uT yQ;split
    · rfl
    · exact find_get k r (i+1)
theorem bKv{k:Int}{v:Value}: ∀{kv:KV} {i:Nat},uT k kv i=none→xU k v kv=kv++[(k,v)]
  | [],_,_=>rfl
  | p::r,i,h=>by
    unfold uT at h;unfold xU;split at h
    · cases h
    · rename_i hk;rw [if_neg hk,bKv h];rfl
theorem bMz{k:Int}{v:Value}{j:Nat}{u:Value}: ∀{kv:KV} {i:Nat},uT k kv i=some (j,u)→ ∃d,j=i+d∧ ∃p,kv[d]?=some p∧k=p.1∧xU k v kv=kv.set d (k,v)
  | [],_,h=>by cases h
  | p::r,i,h=>by
    unfold uT at h;split at h
    · rename_i hk;simp only [Option.some.injEq,Prod.mk.injEq] at h;exact⟨0,by omega,p,rfl,by simpa using hk,by simp [xU,hk]⟩
    · rename_i hk;obtain⟨d,h1,q,h2,h3,h4⟩:=bMz (v:=v) h;exact⟨d+1,by omega,q,h2,h3,by rw [xU,if_neg hk,h4];rfl⟩
section
variable {P : Program} {kk : IntKind} {k : Int} {w : World} {t kt et : TypeId}
theorem bDw(kk:IntKind)(k:Int): ∀(es:List MapEntry) (kv:KV) (i:Nat),es.map tH=kvI kk kv→Instr.findNow (.int kk) (.int kk k) es i=some (uT k kv i)
  | [],[],_,_=>rfl
  | [],_::_,_,h=>by simp [kvI] at h
  | _::_,[],_,h=>by simp [kvI] at h
  | e::es,p::kv,i,h=>by
    simp only [List.map_cons,List.cons.injEq,kvI,tH,Prod.mk.injEq] at h;obtain⟨⟨h1,h2⟩,h3⟩:=h;have ih:=bDw kk k es kv (i+1) h3;unfold Instr.findNow;rw [h1];simp only [Instr.sameNow,if_true,uT];cases hk:k==p.1
    · simpa using ih
    · simp [h2]
theorem tV(hk:P.underlying kt=some (.int kk)){es:List MapEntry}{kv:KV}(h:es.map tH=kvI kk kv):(Instr.findKey kt (.int kk k) es).run P w= .ok (uT k kv 0) w:=by
  unfold Instr.findKey;simp only [Sem.run_bind,run_underlying hk,Result.andThen_ok,bDw kk k es kv 0 h,Sem.run_pure]
theorem sO(hk:P.underlying kt=some (.int kk))(b:Bool):(Instr.checkKey b 10000 kt (.int kk k)).run P w= .ok () w:=by
  have: ∀n,(Instr.checkKey b (n+1) kt (.int kk k)).run P w= .ok () w:=fun n=>by simp [Instr.checkKey,run_underlying hk]
  exact this 9999
theorem run_staysI:(Instr.keyThatStays (.int kk k) (.int kk k)).run P w= .ok (.int kk k) w:=by
  have: ∀n,Instr.sameBits (n+1) (.int kk k) (.int kk k)=true:=fun n=>by simp [Instr.sameBits]
  unfold Instr.keyThatStays;rw [this 9999];simp
theorem run_lookupI(ht:P.underlying t=some (.map kt et))(hk:P.underlying kt=some (.int kk)){z:Value}(hz:(zeroValue et).run P w= .ok z w){r:Nat}{kv:KV}(h:MapO kk kv (w.heap[r]?)):
    (Instr.lookup t (.map (some r)) (.int kk k) false).run P w= .ok ((yQ k kv).getD z) w:=by
  obtain⟨es,clock,hb,hkv⟩:=h;unfold Instr.lookup;simp only [Sem.run_bind,run_underlying ht,Result.andThen_ok,MapKept.run_getObj_map hb,Sem.run_pure,sO hk,tV hk hkv];rw [←find_get k kv 0]
  cases uT k kv 0 with
  | none=>simp [hz]
  | some p=>simp
theorem bHw(ht:P.underlying t=some (.map kt et))(hk:P.underlying kt=some (.int kk)){r:Nat}{kv:KV}(v:Value)(h:MapO kk kv (w.heap[r]?)):
    ∃o,(Instr.mapUpdate t (.map (some r)) (.int kk k) v).run P w= .ok () (setBlock w r o)∧MapO kk (xU k v kv) ((setBlock w r o).heap[r]?):=by
  obtain⟨es,clock,hb,hkv⟩:=h
  cases hf:uT k kv 0 with
  | none=>
    refine⟨.map (es.push ⟨.int kk k,v,clock⟩) (clock+1),?_,⟨_,_,ChangeMaps.heap_setBlock_same hb _,?_⟩⟩
    · unfold Instr.mapUpdate;simp only [Sem.run_bind,run_underlying ht,Result.andThen_ok,MapKept.run_getObj_map hb,sO hk,tV hk hkv,hf];rw [MapKept.run_setObj_map _ hb];simp [setBlock]
    · rw [bKv hf];simp [hkv,kvI,tH]
  | some p=>
    obtain⟨j,u⟩:=p;obtain⟨d,h1,q,h2,h3,h4⟩:=bMz (v:=v) hf;obtain rfl:j=d:=by omega
    have hlen:es.size=kv.length:=by
      have:=congrArg List.length hkv
      simpa [kvI] using this
    have hjl:j<es.size:=by rw [hlen];exact(List.getElem?_eq_some_iff.1 h2).1
    obtain⟨e,he⟩: ∃e,es[j]?=some e:=⟨es[j],Array.getElem?_eq_getElem hjl⟩
    have hek:e.key= .int kk k:=by
      have h1:(es.toList.map tH)[j]?=some (tH e):=by simp [he]
      rw [hkv,kvI,List.getElem?_map,h2] at h1;simp only [Option.map_some,Option.some.injEq,tH,Prod.mk.injEq] at h1;rw [←h1.1,h3]
    refine⟨.map (es.modify j fun e=>{e with key:= .int kk k,val:=v}) clock,?_,⟨_,_,ChangeMaps.heap_setBlock_same hb _,?_⟩⟩
    · unfold Instr.mapUpdate;simp only [Sem.run_bind,run_underlying ht,Result.andThen_ok,MapKept.run_getObj_map hb,sO hk,tV hk hkv,hf,he,Option.map_some,Option.getD_some,hek,run_staysI];rw [MapKept.run_setObj_map _ hb];simp [setBlock]
    · rw [h4];apply List.ext_getElem?;intro i;have hi:(es.toList.map tH)[i]?=(kvI kk kv)[i]?:=by rw [hkv]
      simp only [kvI,List.getElem?_map,Array.toList_modify,List.getElem?_modify,List.getElem?_set] at hi⊢
      by_cases e':j=i
      · subst e';have:j<kv.length:=by omega
        have he':es.toList[j]?=some e:=by simpa using he
        simp [this,he',tH]
      · simp only [e',if_false] at hi⊢
        simpa using hi
end
theorem pK{w:World}{r:Nat}{o:Obj}:nL (fun b=>b=r) w (setBlock w r o):=by
  refine⟨rfl,rfl,rfl,by simp [setBlock],fun b hb hne=>?_⟩;simp [setBlock,Ne.symm hne]
section
variable {P : Program} {β : fG} {n : Nat} {Γ : Env} {H : List bW} {F : List Fact} {Q : Exit → Act → World → Prop} {K : Act → World → Prop} {T : Tab} {ops : Array Oper} {rest : List Oper} {o : Oper}
theorem bIq{d:Nat}{t:TypeId}(kk:IntKind)(hw:want ops Γ o=some true)(ho:o.op= .makeMap t none)(hd:o.dst=some d)(hn:Nat.blt d n=true)(k: ∀b,At β n ((d,.map (some b))::Γ) (mapC b kk []::H) F (wpList P ops Q rest)):At β n Γ H F (wpList P ops Q (o::rest)):=
  iM hw fun a w S f s hk=>by
    have hr:(execOp a.eval o).run P w= .ok (.value (.map (some w.heap.size))) (w.alloc (.map #[] 0)):=by
      unfold execOp;simp only [ho,Instr.makeMap];rfl
    unfold Oper.wp;rw [hr,Oper.upon_value,hd];have s2:=s.alloc (.map #[] 0);refine k w.heap.size _ _ S (f.put (by simpa [Nat.blt_eq] using hn) _) ⟨s2.kept,fun c hc=>?_,fun c hc b hb=>?_,?_,s2.zone⟩ (All.alloc s hk _)
    · rcases List.mem_cons.1 hc with rfl | hc
      · exact⟨#[],0,heap_alloc_new _ _,rfl⟩
      · exact s2.ok c (List.mem_cons_of_mem _ hc)
    · rcases List.mem_cons.1 hc with rfl | hc
      · exact s2.own (.obj w.heap.size (.map #[] 0)) (List.mem_cons_self ..) b hb
      · exact s2.own c (List.mem_cons_of_mem _ hc) b hb
    · have hp:=List.pairwise_cons.1 s2.sep;exact List.pairwise_cons.2 ⟨fun d hd b hb=>hp.1 d hd b hb,hp.2⟩
theorem qL{r:Nat}{kk:IntKind}{kv:KV}{H':List bW}(hH:dM H (mapC r kk kv) H'){t kt et:TypeId}{m x y:Operand}{k:Int}{v:Value}(hw:want ops Γ o=some true)(ho:o.op= .mapUpdate t m x y∨o.op= .insert t m x y)(hd:o.dst=none)(ht:P.underlying t=some (.map kt et))(hk:P.underlying kt=some (.int kk))
    (hm:Γ.ev m=some (.map (some r))) (hx:Γ.ev x=some (.int kk k)) (hy:Γ.ev y=some v) (K':At β n Γ (mapC r kk (xU k v kv)::H') F (wpList P ops Q rest)):At β n Γ H F (wpList P ops Q (o::rest)):=
  iM hw fun a w S f s hF=>by
    have hok:MapO kk kv (w.heap[r]?):=s.ok _ hH.mem;obtain⟨ob,hr0,hm0⟩:=bHw (k:=k) ht hk v hok
    have hr:(execOp a.eval o).run P w= .ok .skip (setBlock w r ob):=by
      unfold execOp
      rcases ho with ho | ho
      · simp only [ho,f.ev hm,f.ev hx,f.ev hy,Sem.run_bind,hr0];rfl
      · simp only [ho,f.ev hm,f.ev hx,f.ev hy,Sem.run_bind,hr0];rfl
    unfold Oper.wp;rw [hr,Oper.upon_skip,hd];have s2:=s.perm hH.perm;exact K' _ _ S (f.put_none _) (s2.swap pK rfl rfl hm0) (All.mono (fun _ h=>h) (s.agree pK (fun c hc e=>by subst e;exact(s2.own _ (List.mem_cons_self ..) _ rfl).2.2 hc)) hF)
def bFu (β:fG)(H:List bW)(F:List Fact)(r:Nat)(kk:IntKind)(kv:KV):Prop:= ∀w S,St β H S w→All F S w→MapO kk kv (w.heap[r]?)
theorem knows_mapC{r:Nat}{kk:IntKind}{kv:KV}{H':List bW}(hH:dM H (mapC r kk kv) H'):bFu β H F r kk kv:=fun _ _ s _=>s.ok _ hH.mem
theorem bFy{r:Nat}{kk:IntKind}{kv:KV}(h:Has F (mapF r kk kv)):bFu β H F r kk kv:=fun w S _ k=>(h S w k).2
theorem yP{r:Nat}{kk:IntKind}{kv:KV}{t kt et:TypeId}{m x:Operand}{k:Int}{z v:Value}(hkm:bFu β H F r kk kv)(ho:o.op= .lookup t m x false)(ht:P.underlying t=some (.map kt et))(hk:P.underlying kt=some (.int kk))(hz: ∀w,(zeroValue et).run P w= .ok z w)
    (hm:Γ.ev m=some (.map (some r))) (hx:Γ.ev x=some (.int kk k)) (hv:(yQ k kv).getD z=v):Sti P β n Γ H F o v:=fun a w S f s hF=>by
  have:=run_lookupI (k:=k) ht hk (hz w) (hkm w S s hF);unfold execOp;simp only [ho,f.ev hm,f.ev hx];rw [Sem.run_bind,this,hv];rfl
theorem bJy{r:Nat}{kk:IntKind}{kv:KV}{H':List bW}(hH:dM H (mapC r kk kv) H')(h:At β n Γ H' (mapF r kk kv::F) K):At β n Γ H F K:=fun a w S f s k=>by
  have s2:=s.perm hH.perm;have hok:MapO kk kv (w.heap[r]?):=s2.ok _ (List.mem_cons_self ..);have hsep:=List.pairwise_cons.1 s2.sep;have hown:=s2.own _ (List.mem_cons_self ..);have hmono:All F (fun x=>S x∨x=r) w:=All.mono (fun _ h=> .inl h) (fun _ _=>rfl) k;refine h a w (fun x=>S x∨x=r) f ⟨s2.kept,fun c hc=>s2.ok c (List.mem_cons_of_mem _ hc),fun c hc x hx=>?_,hsep.2,fun x hx=>?_⟩ (All.cons ⟨.inr rfl,hok⟩ hmono)
  · obtain⟨h1,h2,h3⟩:=s2.own c (List.mem_cons_of_mem _ hc) x hx;refine⟨h1,h2,fun h=>?_⟩
    rcases h with h | h
    · exact h3 h
    · subst h;exact hsep.1 c hc _ rfl hx
  · rcases hx with hx | hx
    · exact s2.zone x hx
    · subst hx;obtain⟨h1,h2,_⟩:=hown _ rfl;exact⟨h1,.inr h2⟩
def nT:Flat UInt8 where
  size:=1
  cells:=fun b=>[.int .u8 b.toNat]
  len:=fun _=>rfl
  one:=fun x u hu=>by simp at hu;subst hu;rfl
  pos:=by decide
theorem bCk(l:Bs):nT.all l=Lib.byteCells l:=by
  unfold Flat.all Lib.byteCells
  induction l with
  | nil=>rfl
  | cons b r ih=>rw [List.flatMap_cons,ih];rfl
theorem St.swap_row'{v v':Value}{t:TypeId}{sz m m':Nat}{cs cs':List Value}{S:lD}{w w':World}(s:St β (.row v t sz m cs::H) S w)(k:nL (fun b=>some b=v.ownBlock) w w')(hv: ∀b,v'.ownBlock=some b→some b=v.ownBlock∨w.heap.size≤b)(ok:w'.ownsRow 0 t sz v' m' cs'):
    St β (.row v' t sz m' cs'::H) S w':=by
  have hsep:=List.pairwise_cons.1 s.sep;have hown:=s.own _ (List.mem_cons_self ..);have s':St β H S w':=s.tail.grow k (fun b hb=>(hown b hb.symm).2.1) (fun d hd b hb e=>hsep.1 d hd b e.symm hb)
  have hnew: ∀b,v'.ownBlock=some b→b<w'.heap.size∧(β.M b∨β.w.heap.size≤b)∧ ¬S b:=fun b hb=>by
    refine⟨(World.ownsRow.lt ok b hb).2,?_⟩
    rcases hv b hb with h | h
    · exact(hown b h.symm).2
    · exact⟨.inr (Nat.le_trans s.kept.size h),fun hS=>absurd (s.zone _ hS).1 (by omega)⟩
  refine⟨s'.kept,fun d hd=>?_,fun d hd b hb=>?_,List.pairwise_cons.2 ⟨fun d hd b hb hdb=>?_,s'.sep⟩,s'.zone⟩
  · rcases List.mem_cons.1 hd with rfl | hd
    · exact ok
    · exact s'.ok d hd
  · rcases List.mem_cons.1 hd with rfl | hd
    · exact hnew b hb
    · exact s'.own d hd b hb
  · rcases hv b hb with h | h
    · exact hsep.1 d hd b h.symm hdb
    · have:=(s.own d (List.mem_cons_of_mem _ hd) _ hdb).1;omega
theorem bEo{w:World}(t u ty e:TypeId)(i:TypeInfo)(ht:P.underlying t=some (.slice e))(hu:P.underlying u=some .string)(hi:P.info? e=some i)(hz:i.zero=some (.int .u8 0))(hsize:i.size=1)(hby:i.bytes=1)
    (v:Value) (m:Nat) (xs:List Value) (hown:w.ownsRow 0 e 1 v m xs) (s:ByteArray) (h63:m+s.size≤maxLen) (hbytes:m+s.size≤140737488355328):
    ∃v' w',(Builtin.append_ #[t,u] ty #[v,.string s]).run P w= .ok v' w'∧w'.ownsRow 0 e 1 v' (m+s.size) (xs++Lib.strCells s)∧w.grownBy w' v.ownBlock∧(∀b,v'.ownBlock=some b→some b=v.ownBlock∨w.heap.size≤b):=by
  obtain⟨v',w',hr,h2,h3,_⟩:=Lib.run_append_own_string (P:=P) w 0 t u ty e i ht hu hi hz hsize hby v m xs hown s h63 hbytes (Nat.zero_le _);refine⟨v',w',hr,h2,h3,fun b hb=>?_⟩
  rcases hown.2 with ⟨rfl,rfl⟩ | ⟨g,cap,cur,rfl,_,hg,hnc,hcm,hcs,_⟩
  · obtain⟨v2,w2,hr2,h4,_,_⟩:=Lib.run_append_own_string (P:=P) w w.heap.size t u ty e i ht hu hi hz hsize hby (.slice none 0 0) 0 xs ⟨hown.1,.inl ⟨rfl,rfl⟩⟩ s h63 hbytes (Nat.le_refl _);rw [hr] at hr2;injection hr2 with e1 e2
    subst e1 e2;exact .inr (World.ownsRow.lt h4 b hb).1
  · by_cases hroom:m+s.size≤cap
    · have hcs':cur.size=cap:=by simpa using hcs
      have hr2:=Lib.run_append_room_string (P:=P) w t u ty e i ht hu hi hsize g m cap cur hg s hroom (by omega);rw [hr] at hr2;injection hr2 with e1 e2
      subst e1;exact .inl hb.symm
    · have hxl:xs.length=m:=by simpa using hown.1
      have hsmall:m+s.size≤9223372036854775807:=by simp only [maxLen] at h63;omega
      have holds: ∀j u,xs[j]?=some u→w.cell? ((⟨g,0,none⟩:Addr).add j)=some u:=hown.cells (g:=g) rfl;have hr2:=Lib.run_append_grow_string (P:=P) w t u ty e i (.int .u8 0) ht hu hi hz ⟨g,0,none⟩ m cap xs (by rw [hsize];simpa using hxl) holds s (by omega) (by omega) (by rw [hby];exact growslice_fits (by omega) (by omega));rw [hr] at hr2;injection hr2 with e1 e2
      subst e1;injection hb with hb
      subst hb;exact .inr (Nat.le_refl _)
theorem bHt{d:Nat}{x y:Operand}{t u e:TypeId}{i:TypeInfo}{v:Value}{xs ys:Bs}{H':List bW}(hH:dM H (nT.row v e xs) H')(hw:want ops Γ o=some true)
    (ho:o.op= .call {callee:= .builtin .append,args:= #[x,y],argTypes:= #[t,u]}) (hd:o.dst=some d) (hn:Nat.blt d n=true) (ht:P.underlying t=some (.slice e)) (hu:P.underlying u=some .string) (hi:P.info? e=some i) (hz:i.zero=some (.int .u8 0)) (hsize:i.size=1) (hby:i.bytes=1)
    (hx:Γ.ev x=some v) (hy:Γ.ev y=some (.string (bs ys))) (hl:xs.length+ys.length≤140737488355328)
    (k: ∀A' cap',At β n ((d,.slice A' (xs++ys).length cap')::Γ) (nT.row (.slice A' (xs++ys).length cap') e (xs++ys)::H') F (wpList P ops Q rest)):At β n Γ H F (wpList P ops Q (o::rest)):=
  iM hw fun a w S f s hk=>by
    have hown:w.ownsRow 0 e 1 v xs.length (nT.all xs):=s.ok _ hH.mem;obtain⟨v',w',hr,h2,h3,h4⟩:=bEo (P:=P) t u o.type e i ht hu hi hz hsize hby v xs.length _ hown (bs ys) (by rw [jZ];unfold maxLen;omega) (by rw [jZ];exact hl)
    have hr':(execOp a.eval o).run P w= .ok (.value v') w':=by
      unfold execOp;simp only [ho,resolve,invoke,builtin,Sem.run_bind,Sem.run_pure,Result.andThen_ok,List.map_toArray,List.map_cons,List.map_nil,f.ev hx,f.ev hy,hr]
    unfold Oper.wp;rw [hr',Oper.upon_value,hd];have s2:=s.perm hH.perm;have hall:nT.all xs++Lib.strCells (bs ys)=nT.all (xs++ys):=by rw [bCk,bCk,Lib.strCells_eq,bs_data,Lib.byteCells_append]
    rw [hall,jZ,←List.length_append] at h2
    obtain⟨A',cap',e',_⟩: ∃A cap,v'= .slice A (xs++ys).length cap∧True:=by
      rcases h2.2 with ⟨e',e0⟩ | ⟨g,cap,cur,e',_⟩
      · exact⟨none,0,by rw [e',e0],trivial⟩
      · exact⟨_,cap,e',trivial⟩
    subst e';exact k A' cap' _ _ S (f.put (by simpa [Nat.blt_eq] using hn) _) (s2.swap_row' (lW h3) h4 h2) (All.mono (fun _ h=>h) (s.agree (lW h3) (fun b hb e=>(s2.own _ (List.mem_cons_self ..) b e.symm).2.2 hb)) hk)
theorem xO{x:Operand}{ts:Array TypeId}{A:Option Addr}{m c:Nat}(ho:o.op= .call {callee:= .builtin .unsafeSliceData,args:= #[x],argTypes:=ts})(hx:Γ.ev x=some (.slice A m c))(hc:A=none∨c≠0):Sti P β n Γ H F o (.pointer A):=fun a w S f s _=>by
  have hr:(Builtin.unsafeSliceData_ ts o.type #[.slice A m c]).run P w= .ok (.pointer A) w:=by
    cases A with
    | none=>exact Lib.run_unsafeSliceData_nil w ts o.type m c
    | some ad=>exact Lib.run_unsafeSliceData_row w ts o.type ad m c (hc.resolve_left (by simp))
  unfold execOp;simp only [ho,resolve,invoke,builtin,Sem.run_bind,Sem.run_pure,Result.andThen_ok,List.map_toArray,List.map_cons,List.map_nil,f.ev hx,hr]
theorem bEr{d g m cap:Nat}{x y:Operand}{pt it e:TypeId}{xs:Bs}{H':List bW}(hH:dM H (nT.row (.slice (some ⟨g,0,none⟩) m cap) e xs) H')(hw:want ops Γ o=some true)(ho:o.op= .call {callee:= .builtin .unsafeString,args:= #[x,y],argTypes:= #[pt,it]})(hd:o.dst=some d)(hn:Nat.blt d n=true)
    (hp:P.underlying pt=some (.pointer e)) (hc:P.cellsOf e=1) (hx:Γ.ev x=some (.pointer (some ⟨g,0,none⟩))) (hy:Γ.ev y=some (.int .i64 m)) (hm:m=xs.length) (h0:xs≠[])
    (k:At β n ((d,.string (bs xs))::Γ) H' F (wpList P ops Q rest)):At β n Γ H F (wpList P ops Q (o::rest)):=
  iM hw fun a w S f s hk=>by
    subst hm;have hown:w.ownsRow 0 e 1 (.slice (some ⟨g,0,none⟩) xs.length cap) xs.length (nT.all xs):=s.ok _ hH.mem
    obtain⟨cur,hg,hsz,hcap⟩: ∃cur,w.heap[g]?=some (.cells cur e (0,0))∧xs.length≤cur.size∧xs.length≤maxLen:=by
      rcases hown.2 with ⟨e1,_⟩ | ⟨g',cap',cur,e1,_,hg,h1,h2,h3,_⟩
      · cases e1
      · injection e1 with e1 e2 e3
        injection e1 with e1
        injection e1 with e1
        subst e1 e3;exact⟨cur,hg,by omega,by omega⟩
    have hsh:w.shape? g=some (e,cur.size):=by simp [World.shape?,hg]
    have hcell: ∀j u,xs[j]?=some u→w.cell? ((⟨g,0,none⟩:Addr).add j)=some (.int .u8 u.toNat):=fun j u hj=>by
      have h1:=hown.cells (g:=g) rfl j (.int .u8 u.toNat) (by rw [bCk];simp [Lib.byteCells,hj]);exact h1
    have hr:=Lib.run_unsafeString_row (P:=P) w pt it o.type e hp hc g cur.size hsh xs h0 hsz (by simp only [maxLen] at hcap;omega) hcell
    have hr':(execOp a.eval o).run P w= .ok (.value (.string (bs xs))) (w.freeze ⟨g,0,none⟩ xs.length):=by
      unfold execOp;simp only [ho,resolve,invoke,builtin,Sem.run_bind,Sem.run_pure,Result.andThen_ok,List.map_toArray,List.map_cons,List.map_nil,f.ev hx,f.ev hy,hr];rfl
    unfold Oper.wp;rw [hr',Oper.upon_value,hd];have s2:=s.perm hH.perm
    have hkept:nL (fun b=>b=g) w (w.freeze ⟨g,0,none⟩ xs.length):=by
      unfold World.freeze;split
      · exact nL.refl _ _
      · refine⟨rfl,rfl,rfl,by simp,fun b hb hne=>?_⟩;simp [Array.getElem?_modify,Ne.symm hne]
    have hown2:=s2.own _ (List.mem_cons_self ..) g rfl;have hsep:=List.pairwise_cons.1 s2.sep;exact k _ _ S (f.put (by simpa [Nat.blt_eq] using hn) _) (s2.tail.grow hkept (fun b hb=>by subst hb;exact hown2.2.1) (fun c hc b hb e=>by subst e;exact hsep.1 c hc _ rfl hb)) (All.mono (fun _ h=>h) (s.agree hkept (fun b hb e=>by subst e;exact hown2.2.2 hb)) hk)
theorem sti_noString{x y:Operand}{pt it:TypeId}(ho:o.op= .call {callee:= .builtin .unsafeString,args:= #[x,y],argTypes:= #[pt,it]}){p:Option Addr}(hx:Γ.ev x=some (.pointer p))(hy:Γ.ev y=some (.int .i64 0)):Sti P β n Γ H F o (.string (bs [])):=fun a w S f s _=>by
  have hr:=Lib.run_unsafeString_none (P:=P) w pt it o.type p;unfold execOp;simp only [ho,resolve,invoke,builtin,Sem.run_bind,Sem.run_pure,Result.andThen_ok,List.map_toArray,List.map_cons,List.map_nil,f.ev hx,f.ev hy,hr];rfl
theorem run_eqPtr{t e:TypeId}(ht:P.underlying t=some (.pointer e))(p:Option Addr)(w:World):(binOp .eql t (.pointer p) (.pointer none)).run P w= .ok (.bool p.isNone) w:=by
  have h: ∀k,(Op.equalIn (k+1) t (.pointer p) (.pointer none)).run P w= .ok p.isNone w:=fun k=>by cases p<;>simp [Op.equalIn,run_underlying ht]
  simp only [binOp];rw [Sem.run_bind,show Op.equal t (.pointer p) (.pointer none)=Op.equalIn 10000 t (.pointer p) (.pointer none) from rfl,h 9999];rfl
theorem bCp{t e tt:TypeId}{x:Operand}{p:Option Addr}(ht:P.underlying t=some (.pointer e))(ho:o.op= .binOp .eql t x (.const (.pointer none)) tt)(hx:Γ.ev x=some (.pointer p)):Sti P β n Γ H F o (.bool p.isNone):=fun a w S f s _=>by
  have e1:a.eval (.const (.pointer none))= .pointer none:=rfl;have hg:(eqGuard .eql t x (.const (.pointer none)) (.pointer p) (.pointer none)).run P w= .ok () w:=rfl;unfold execOp;simp only [ho,f.ev hx,e1];rw [Sem.run_bind,Sem.run_bind,hg,Result.andThen_ok,run_eqPtr ht];rfl
theorem sti_ptr_same{t e tt:TypeId}{j:TypeInfo}{x y:Operand}{p:Addr}(ht:P.underlying t=some (.pointer e))(hj:P.info? e=some j)(ho:o.op= .binOp .neq t x y tt)(hx:Γ.ev x=some (.pointer (some p)))(hy:Γ.ev y=some (.pointer (some p))):Sti P β n Γ H F o (.bool false):=fun a w S f s _=>by
  have hg:(eqGuard .neq t x y (.pointer (some p)) (.pointer (some p))).run P w= .ok () w:=rfl;unfold execOp;simp only [ho,f.ev hx,f.ev hy];rw [Sem.run_bind,Sem.run_bind,hg,Result.andThen_ok,Lib.run_neq_ptr_same w p ht hj];rfl
theorem shape_of{b:Nat}{cs:List Value}{t:TypeId}{fz:Nat×Nat}{H':List bW}(hH:dM H (.obj b (.cells cs.toArray t fz)) H'){S:lD}{w:World}(s:St β H S w):w.shape? b=some (t,cs.length):=by
  have h:w.heap[b]?=some (.cells cs.toArray t fz):=s.ok _ hH.mem;simp [World.shape?,h]
theorem sti_toUnsafe{src dst t e:TypeId}{j:TypeInfo}{x:Operand}{b off:Nat}{cs:List Value}{fz:Nat×Nat}{H':List bW}(hH:dM H (.obj b (.cells cs.toArray e fz)) H')(hs:P.underlying src=some (.pointer t))(hd:P.underlying dst=some .unsafePointer)(ht:P.info? t=some j)(hj:j.size≠0)
    (ho:o.op= .convert src dst x) (hx:Γ.ev x=some (.pointer (some ⟨b,off,none⟩))) (hoff:off<cs.length):Sti P β n Γ H F o (.pointer (some ⟨b,off,none⟩)):=fun a w S f s _=>by
  have:=Lib.run_to_unsafe (P:=P) w ⟨b,off,none⟩ hs hd ht hj (shape_of hH s) hoff;unfold execOp;simp only [ho,f.ev hx];rw [Sem.run_bind,this];rfl
theorem bGw{src dst u e:TypeId}{j:TypeInfo}{x:Operand}{b off:Nat}{cs:List Value}{fz:Nat×Nat}{H':List bW}(hH:dM H (.obj b (.cells cs.toArray e fz)) H')(hs:P.underlying src=some .unsafePointer)(hd:P.underlying dst=some (.pointer u))(hu:P.info? u=some j)
    (ho:o.op= .convert src dst x) (hx:Γ.ev x=some (.pointer (some ⟨b,off,none⟩))) (hl:liesAt P P.depth e (cs.length/P.cellsOf e) off u 1=true):Sti P β n Γ H F o (.pointer (some ⟨b,off,none⟩)):=fun a w S f s _=>by
  have:=Lib.run_from_unsafe (P:=P) w ⟨b,off,none⟩ hs hd hu (shape_of hH s) hl;unfold execOp;simp only [ho,f.ev hx];rw [Sem.run_bind,this];rfl
end
end Go.Proofs.YtbgdphbebhjpiaaGreatDoor
namespace Go.Proofs.YtbgdphbebhjpiaaGreatDoor
open Go.RowKit Go.ChangeShapes Go.WideShapes
structure PieceV where
  words:(Sl Bs)
  nest:Nat
  tokens:Nat
  plain:Bool
  deriving Inhabited
def bCh:Flat PieceV where
  size:=4
  cells:=fun x=>[.slice x.words.addr x.words.list.length x.words.cap,.int .i64 (x.nest:Nat),.int .i64 (x.tokens:Nat),.bool x.plain]
  len:=fun _=>rfl
  one:=fun x u hu=>by
    simp at hu
    rcases hu with rfl | rfl | rfl | rfl<;>rfl
  pos:=by decide
def show2T:Tab:=[(3,⟨.int .i64,1⟩),(2,⟨.int .i64,1⟩),(5,⟨.int .u8,1⟩),(9,⟨.string,1⟩),(4,⟨.bool,1⟩),(50,⟨.int .u8,1⟩),(34,⟨.int .i64,1⟩),(30,⟨.slice 2,1⟩),(27,⟨.slice 9,1⟩),(104,⟨.struct [(3,0),(3,1),(9,2),(2,3)],4⟩),(97,⟨.slice 104,1⟩),(36,⟨.struct [(3,0),(34,1)],2⟩),(63,⟨.struct [(9,0),(2,1)],2⟩),(59,⟨.slice 63,1⟩),(61,⟨.struct [(9,0),(3,1),(59,2)],3⟩),(22,⟨.slice 61,1⟩),(52,⟨.struct [(3,0),(3,1),(50,2),(9,3),(30,4)],5⟩),(47,⟨.slice 52,1⟩),(49,⟨.struct [(9,0),(3,1),(47,2)],3⟩),(23,⟨.slice 49,1⟩),(25,⟨.struct [(22,0),(23,1)],2⟩),(102,⟨.struct [(97,0),(3,1),(3,2)],3⟩),(280,⟨.struct [(27,0),(3,1),(3,2),(4,3)],4⟩),(278,⟨.slice 280,1⟩),(269,⟨.struct [(9,0),(4,1),(3,2),(3,3)],4⟩),(265,⟨.slice 269,1⟩),(100,⟨.other,1⟩),(208,⟨.slice 1,1⟩),(1,⟨.other,1⟩),(175,⟨.other,1⟩),(171,⟨.slice 5,1⟩),(173,⟨.map 50 9,1⟩),(312,⟨.map 3 9,1⟩),(177,⟨.struct [(175,0),(171,1)],2⟩),(179,⟨.struct [(173,0),(173,1),(177,2)],4⟩)]
theorem iW:gA Tryz.prog show2T:=vP.ok
  ⟨⟨by rw [Tryz.underlying3];rfl,by kernel_rfl⟩,
    ⟨by rw [Tryz.underlying2];rfl,by kernel_rfl⟩,
    ⟨by rw [Tryz.underlying5];rfl,by kernel_rfl⟩,
    ⟨by rw [Tryz.underlying9];rfl,by kernel_rfl⟩,
    ⟨by rw [Tryz.underlying4];rfl,by kernel_rfl⟩,
    ⟨by rw [Tryz.underlying50];rfl,by kernel_rfl⟩,
    ⟨by rw [Tryz.underlying34];rfl,by kernel_rfl⟩,
    ⟨by rw [Tryz.underlying30];rfl,by kernel_rfl⟩,
    ⟨by rw [Tryz.underlying27];rfl,by kernel_rfl⟩,
    ⟨by rw [Tryz.underlying104];rfl,by kernel_rfl⟩,
    ⟨by rw [Tryz.underlying97];rfl,by kernel_rfl⟩,
    ⟨by rw [Tryz.underlying36];rfl,by kernel_rfl⟩,
    ⟨by rw [Tryz.underlying63];rfl,by kernel_rfl⟩,
    ⟨by rw [Tryz.underlying59];rfl,by kernel_rfl⟩,
    ⟨by rw [Tryz.underlying61];rfl,by kernel_rfl⟩,
    ⟨by rw [Tryz.underlying22];rfl,by kernel_rfl⟩,
    ⟨by rw [Tryz.underlying52];rfl,by kernel_rfl⟩,
    ⟨by rw [Tryz.underlying47];rfl,by kernel_rfl⟩,
    ⟨by rw [Tryz.underlying49];rfl,by kernel_rfl⟩,
    ⟨by rw [Tryz.underlying23];rfl,by kernel_rfl⟩,
    ⟨by rw [Tryz.underlying25];rfl,by kernel_rfl⟩,
    ⟨by rw [Tryz.underlying102];rfl,by kernel_rfl⟩,
    ⟨by rw [Tryz.underlying280];rfl,by kernel_rfl⟩,
    ⟨by rw [Tryz.underlying278];rfl,by kernel_rfl⟩,
    ⟨by rw [Tryz.underlying269];rfl,by kernel_rfl⟩,
    ⟨by rw [Tryz.underlying265];rfl,by kernel_rfl⟩,
    ⟨by rw [Tryz.underlying100];rfl,by kernel_rfl⟩,
    ⟨by rw [Tryz.underlying208];rfl,by kernel_rfl⟩,
    ⟨by rw [Tryz.underlying1];rfl,by kernel_rfl⟩,
    ⟨by rw [Tryz.underlying175];rfl,by kernel_rfl⟩,
    ⟨by rw [Tryz.underlying171];rfl,by kernel_rfl⟩,
    ⟨by rw [Tryz.underlying173];rfl,by kernel_rfl⟩,
    ⟨by rw [Tryz.underlying312];rfl,by kernel_rfl⟩,
    ⟨by rw [Tryz.underlying177];rfl,by kernel_rfl⟩,
    ⟨by rw [Tryz.underlying179];rfl,by kernel_rfl⟩,trivial⟩
theorem bMi: ∃i:TypeInfo,Tryz.prog.info? 280=some i∧i.zero=some (.agg #[.slice none 0 0,.int .i64 0,.int .i64 0,.bool false])∧i.size=4∧i.bytes=48:=by
  have h:(Tryz.prog.info? 280).map (fun i=>(i.zero,i.size,i.bytes))=some (some (.agg #[.slice none 0 0,.int .i64 0,.int .i64 0,.bool false]),4,48):=by kernel_rfl
  cases hi:Tryz.prog.info? 280 with
  | none=>simp [hi] at h
  | some i=>simp [hi] at h;exact⟨i,rfl,h.1,h.2.1,h.2.2⟩
theorem gR{β:fG}{n:Nat}{Γ:Env}{H:List bW}{F:List Fact}{Q:Exit→Act→World→Prop}{ops:Array Oper}{rest:List Oper}{o:Oper}{d:Nat}{x:Operand}{m:PieceV}(hw:want ops Γ o=some true)(ho:o.op= .buildSlice 278 1 #[(0,x)])(hd:o.dst=some d)(hn:Nat.blt d n=true)
    (hx:Γ.ev x=some (.agg #[.slice m.words.addr m.words.list.length m.words.cap,.int .i64 (m.nest:Nat),.int .i64 (m.tokens:Nat),.bool m.plain])) (k: ∀b,At β n ((d,.slice (some ⟨b,0,none⟩) 1 1)::Γ) (.obj b (.cells (bCh.all [m]).toArray 280)::H) F (wpList Tryz.prog ops Q rest)):At β n Γ H F (wpList Tryz.prog ops Q (o::rest)):=by
  obtain⟨i,hi,hz,hs,_⟩:=bMi;refine kI hw ho hd hn hx Tryz.underlying278 hi hz (by omega) (by omega) ?_ k;rw [hs]
  kernel_rfl
theorem gU{β:fG}{n:Nat}{Γ:Env}{H:List bW}{F:List Fact}{Q:Exit→Act→World→Prop}{ops:Array Oper}{rest:List Oper}{o:Oper}{d:Nat}{x y:Operand}{c q:Nat}{v:Value}{A:Option Addr}{xs ys:List PieceV}{H':List bW}(hH:dM H (bCh.row v 280 xs) H')(hr:cR β H F bCh A ys)(hg:o.guard=none)
    (ho:o.op= .call {callee:= .builtin .append,args:= #[x,y],argTypes:= #[278,278]}) (hd:o.dst=some d) (hn:Nat.blt d n=true)
    (hx:Γ.ev x=some v) (hy:Γ.ev y=some (.slice A q c)) (hq:q=ys.length) (hl:xs.length+ys.length≤2932031007402)
    (k: ∀A' cap',At β n ((d,.slice A' (xs++ys).length cap')::Γ) (bCh.row (.slice A' (xs++ys).length cap') 280 (xs++ys)::H') F (wpList Tryz.prog ops Q rest)):At β n Γ H F (wpList Tryz.prog ops Q (o::rest)):=by
  obtain⟨i,hi,hz,hs,hb⟩:=bMi;exact gP hH hr hg ho hd hn Tryz.underlying278 hi hz hs hb rfl hx hy hq (by omega) (by decide) k
end Go.Proofs.YtbgdphbebhjpiaaGreatDoor
namespace Go.Proofs.YtbgdphbebhjpiaaGreatDoor
open Go.RowKit
inductive Tr where
  | nil
  | fl (k:Nat) (r:Tr)
  | op (k:Nat) (r:Tr)
  | two (k l:Nat) (r s:Tr)
def Tr.len:Tr→Nat
  | .nil=>0
  | .fl _ r=>r.len+1
  | .op _ r=>r.len+1
  | .two _ _ r _=>r.len+1
section
variable {P : Program} {ops : Array Oper} {md : Region.Mode} {C : World → Prop} {Q : Exit → Act → World → Prop}
def jI (P:Program)(ops:Array Oper)(C:World→Prop)(Q:Exit→Act→World→Prop):Tr→Act→World→Prop
  | .nil,a,w=>Q .normal a w
  | .fl k r,a,w=> ∃o v,ops[k]?=some o∧Fl P ops C o v a∧jI P ops C Q r (a.put o.dst v) w
  | .op k r,a,w=>fOp P ops k (fun a w=>C w∧jI P ops C Q r a w) a w
  | .two k l r s,a,w=>fOp P ops k (fun a w=>C w∧jI P ops C Q r a w) a w∧fOp P ops l (fun a w=>C w∧jI P ops C Q s a w) a w
def xK (md:Region.Mode)(ops:Array Oper):Tr→Array Bool→Bool
  | .nil,listed=>(Region.ready md ops listed).isEmpty
  | .fl k r,listed=>(Region.ready md ops listed).contains k&&Region.free md ops listed k&&xK md ops r (listed.setIfInBounds k true)
  | .op k r,listed=>(Region.ready md ops listed==[k])&&xK md ops r (listed.setIfInBounds k true)
  | .two k l r s,listed=>(Region.ready md ops listed==[k,l])&&Nat.beq r.len s.len&&xK md ops r (listed.setIfInBounds k true)&&xK md ops s (listed.setIfInBounds l true)
theorem pW(hs:Region.noSelect ops=true): ∀(l:Tr) (listed:Array Bool) (a:Act) (w:World),xK md ops l listed=true→C w→jI P ops C Q l a w→bBz P md ops C Q l.len listed a w
  | .nil,listed,a,w,hB,hC,h=>⟨hC,by simpa [xK] using hB,h⟩
  | .fl k r,listed,a,w,hB,hC,h=>by
    simp only [xK,Bool.and_eq_true] at hB;obtain⟨o,v,ho,hy,hK⟩:=h;exact zY ho (Region.noSelect_spec hs) r.len listed a w (Region.free_spec ho hB.1.2) (by simpa using hB.1.1) hy (pW hs r _ _ _ hB.2 hC hK)
  | .op k r,listed,a,w,hB,hC,h=>by
    simp only [xK,Bool.and_eq_true,beq_iff_eq] at hB;refine⟨hC,fun h0=>(by rw [hB.1] at h0;cases h0),fun i hi=>?_⟩;rw [hB.1] at hi;have:i=k:=by simpa using hi
    subst this;exact rL (fun a' w' h'=>pW hs r _ _ _ hB.2 h'.1 h'.2) h
  | .two k l r s,listed,a,w,hB,hC,h=>by
    simp only [xK,Bool.and_eq_true,beq_iff_eq] at hB;obtain⟨⟨⟨h1,h2⟩,h3⟩,h4⟩:=hB;refine⟨hC,fun h0=>(by rw [h1] at h0;cases h0),fun i hi=>?_⟩;rw [h1] at hi;have hi:i=k∨i=l:=by simpa using hi
    rcases hi with rfl | rfl
    · exact rL (fun a' w' h'=>pW hs r _ _ _ h3 h'.1 h'.2) h.1
    · have e:Tr.len (.two k i r s)=s.len+1:=by simp only [Tr.len,Nat.eq_of_beq_eq_true h2]
      have e':r.len=s.len:=Nat.eq_of_beq_eq_true h2;rw [e'];exact rL (fun a' w' h'=>pW hs s _ _ _ h4 h'.1 h'.2) h.2
def mixTOk(l:Tr)(ops:Array Oper):Bool:=Region.noSelect ops&&Nat.beq l.len ops.size&&xK .any ops l (Array.replicate ops.size false)
end
section
variable {P : Program} {β : fG} {n : Nat} {Γ : Env} {H : List bW} {F : List Fact} {Q : Exit → Act → World → Prop} {Hk : List bW} {F0 : List Fact} {ops : Array Oper}
theorem qQ{id:Nat}{l:List Oper}(Hk:List bW)(F0:List Fact)(od:Tr)(hm:P.follows .mixedOrders=true)(hB:mixTOk od l.toArray=true)(hH:Sel H Hk)(hF:bF F F0)
    (h:At β n Γ H F (jI P l.toArray (StF β Hk F0) Q od)):At β n Γ H F ((Code.region id l.toArray true).wp P Q):=fun a w S f s k=>by
  simp only [mixTOk,Bool.and_eq_true] at hB;have hw:=StF.drew ⟨S,s,k⟩;obtain⟨S',s',k'⟩:=hw;refine wp_region_any hm (rE (C:=StF β Hk F0) _ _ _ _ ?_);have:=pW (P:=P) (md:= .any) (C:=StF β Hk F0) (Q:=Q) hB.1.1 od (Array.replicate l.toArray.size false) a _ hB.2 (StF.sel hH hF ⟨S',s',k'⟩) (h a _ S' f s' k')
  rwa [Nat.eq_of_beq_eq_true hB.1.2] at this
theorem iF{C:World→Prop}(h:At β n Γ H F (Q .normal)):At β n Γ H F (jI P ops C Q .nil):=h
theorem att_sti{r:Tr}{o:Oper}{k d:Nat}{v:Value}(hk:ops[k]?=some o)(hw:want ops Γ o=some true)(hd:o.dst=some d)(hn:Nat.blt d n=true)(h:Sti P β n Γ Hk F0 o v)
    (K:At β n ((d,v)::Γ) H F (jI P ops (StF β Hk F0) Q r)):At β n Γ H F (jI P ops (StF β Hk F0) Q (.fl k r)):=fun a w S f s hF=>by
  refine⟨o,v,hk,.inl ⟨f.want hw,fun w' ⟨S',s',k'⟩=>h a w' S' f s' k'⟩,?_⟩;rw [hd];exact K _ _ S (f.put (by simpa [Nat.blt_eq] using hn) v) s hF
theorem stT{r:Tr}{o:Oper}{k d:Nat}{v:Value}(hk:ops[k]?=some o)(h:Sti P β n Γ Hk F0 o v)(K:At β n ((d,v)::Γ) H F (jI P ops (StF β Hk F0) Q r))(hw:want ops Γ o=some true:=by exact rfl)(hd:o.dst=some d:=by exact rfl)(hn:Nat.blt d n=true:=by exact rfl):At β n Γ H F (jI P ops (StF β Hk F0) Q (.fl k r)):=att_sti hk hw hd hn h K
theorem puT{r:Tr}{o:Oper}{k d:Nat}{v:Value}{T:Tab}(hT:gA P T)(K:At β n ((d,v)::Γ) H F (jI P ops (StF β Hk F0) Q r))(hk:ops[k]?=some o:=by exact rfl)(hw:want ops Γ o=some true:=by exact rfl)(hd:o.dst=some d:=by exact rfl)(hn:Nat.blt d n=true:=by exact rfl)(h:mN T Γ o.op=some v:=by exact rfl):At β n Γ H F (jI P ops (StF β Hk F0) Q (.fl k r)):=att_sti hk hw hd hn (fun _ w _ f _ _=>uM hT f h w) K
theorem kQ{r:Tr}{o:Oper}{k d:Nat}{C:World→Prop}(hk:ops[k]?=some o)(hw:want ops Γ o=some false)(hd:o.dst=some d)(hn:Nat.blt d n=true)
    (K:At β n ((d,undef)::Γ) H F (jI P ops C Q r)):At β n Γ H F (jI P ops C Q (.fl k r)):=fun a w S f s hF=>by
  refine⟨o,undef,hk,.inr ⟨f.want hw,rfl⟩,?_⟩;rw [hd];exact K _ _ S (f.put (by simpa [Nat.blt_eq] using hn) undef) s hF
theorem fOp_of{o:Oper}{k:Nat}{K:Act→World→Prop}(hk:ops[k]?=some o)(h:At β n Γ H F (wpList P ops (Nm K) [o])):At β n Γ H F (fOp P ops k K):=fun a w S f s hF o' ho'=>by
  have:o'=o:=Option.some.inj (ho'.symm.trans hk);subst this;exact h a w S f s hF
theorem fB{r:Tr}{o:Oper}{k:Nat}{C:World→Prop}(hk:ops[k]?=some o)(h:At β n Γ H F (wpList P ops (Nm fun a w=>C w∧jI P ops C Q r a w) [o])):At β n Γ H F (jI P ops C Q (.op k r)):=fOp_of hk h
theorem oF{r s:Tr}{o o':Oper}{k l:Nat}{C:World→Prop}(hk:ops[k]?=some o)(hl:ops[l]?=some o')(h:At β n Γ H F (wpList P ops (Nm fun a w=>C w∧jI P ops C Q r a w) [o]))(h':At β n Γ H F (wpList P ops (Nm fun a w=>C w∧jI P ops C Q s a w) [o'])):
    At β n Γ H F (jI P ops C Q (.two k l r s)):=fun a w S f st hF=>⟨fOp_of hk h a w S f st hF,fOp_of hl h' a w S f st hF⟩
theorem dE{r:Tr}(hH:Sel H Hk)(hF:bF F F0)(h:At β n Γ H F (jI P ops (StF β Hk F0) Q r)):At β n Γ H F (wpList P ops (Nm fun a w=>StF β Hk F0 w∧jI P ops (StF β Hk F0) Q r a w) []):=fun a w S f s k=>
  ⟨rfl,StF.sel hH hF ⟨S,s,k⟩,h a w S f s k⟩
end
end Go.Proofs.YtbgdphbebhjpiaaGreatDoor
namespace Go.Proofs.YtbgdphbebhjpiaaGreatDoor
open Go.RowKit
theorem Sel.skip{H R:List bW}{c:bW}(h:Sel H R):Sel (c::H) R:=by
  induction h generalizing c with
  | nil=>exact .nil
  | cons h _ ih=>exact .cons (.tail h) ih
def PieceV.pc(x:PieceV):fO:=⟨x.words.list,x.nest,x.tokens,x.plain⟩
def bJx (u:Bool)(b:Nat):Value:=if u then .pointer (some ⟨b,2,none⟩) else .pointer none
section
variable {P : Program} {β : fG} {n : Nat} {Γ : Env} {H : List bW} {F : List Fact} {Q : Exit → Act → World → Prop} {K : Act → World → Prop} {ops : Array Oper} {rest : List Oper} {o : Oper} {d : Nat} {α : Type} {E : Flat α}
theorem sti_noescape{x:Operand}{ts:Array TypeId}{v:Value}(ho:o.op= .call ⟨.value (.func 289),#[x],ts⟩)(hx:Γ.ev x=some v):Sti Tryz.prog β n Γ H F o v:=fun a w S f s _=>by
  have hr:(callFunc 289 #[v]).run Tryz.prog w= .ok (.value v) w:=by
    rw [run_callFunc_extern Tryz.func289 (by kernel_rfl) (by kernel_rfl) (by kernel_rfl) (e:=Extern.AbiNoEscape.same) (by kernel_rfl)];rw [Lib.run_noEscape];rfl
  unfold execOp;simp only [ho,resolve,Act.eval,Deferred.ofValue,Sem.run_bind,Sem.run_pure,Result.andThen_ok,invoke];simp [f.ev hx,hr]
theorem u8Info: ∃i:TypeInfo,Tryz.prog.info? 5=some i∧i.zero=some (.int .u8 0)∧i.size=1∧i.bytes=1:=by
  have h:(Tryz.prog.info? 5).map (fun i=>(i.zero,i.size,i.bytes))=some (some (.int .u8 0),1,1):=by kernel_rfl
  cases hi:Tryz.prog.info? 5 with
  | none=>simp [hi] at h
  | some i=>simp [hi] at h;exact⟨i,rfl,h.1,h.2.1,h.2.2⟩
theorem bDo{x y:Operand}{v:Value}{xs ys:Bs}{H':List bW}(hH:dM H (nT.row v 5 xs) H')(hw:want ops Γ o=some true)
    (ho:o.op= .call {callee:= .builtin .append,args:= #[x,y],argTypes:= #[171,9]}) (hd:o.dst=some d) (hn:Nat.blt d n=true) (hx:Γ.ev x=some v) (hy:Γ.ev y=some (.string (bs ys))) (hl:xs.length+ys.length≤140737488355328)
    (k: ∀A' cap',At β n ((d,.slice A' (xs++ys).length cap')::Γ) (nT.row (.slice A' (xs++ys).length cap') 5 (xs++ys)::H') F (wpList Tryz.prog ops Q rest)):At β n Γ H F (wpList Tryz.prog ops Q (o::rest)):=by
  obtain⟨i,hi,hz,hs,hb⟩:=u8Info;exact bHt hH hw ho hd hn Tryz.underlying171 Tryz.underlying9 hi hz hs hb hx hy hl k
theorem dL{b:Nat}{t:TypeId}{xs:List α}{H':List bW}(hH:dM H (.obj b (.cells (E.all xs).toArray t)) H')(hm:xs.length≤maxLen)(h:At β n Γ (E.row (.slice (some ⟨b,0,none⟩) xs.length xs.length) t xs::H') F K):At β n Γ H F K:=fun a w S f s k=>by
  have s2:=s.perm hH.perm;have hok:w.heap[b]?=some (.cells (E.all xs).toArray t):=s2.ok _ (List.mem_cons_self ..);refine h a w S f ⟨s2.kept,fun c hc=>?_,fun c hc b' hb=>?_,?_,s2.zone⟩ k
  · rcases List.mem_cons.1 hc with rfl | hc
    · refine⟨by rw [E.all_length],.inr ⟨b,_,_,rfl,Nat.zero_le _,hok,Nat.le_refl _,hm,by simp [E.all_length],?_⟩⟩;rw [List.take_of_length_le (by simp [E.all_length])]
    · exact s2.ok c (List.mem_cons_of_mem _ hc)
  · rcases List.mem_cons.1 hc with rfl | hc
    · exact s2.own (.obj b (.cells (E.all xs).toArray t)) (List.mem_cons_self ..) b' hb
    · exact s2.own c (List.mem_cons_of_mem _ hc) b' hb
  · have hp:=List.pairwise_cons.1 s2.sep;exact List.pairwise_cons.2 ⟨fun d hd b hb=>hp.1 d hd b hb,hp.2⟩
end
theorem bInfo: ∃j:TypeInfo,Tryz.prog.info? 177=some j∧j.size≠0:=by
  have h:(Tryz.prog.info? 177).map (·.size)=some 2:=by kernel_rfl
  cases hi:Tryz.prog.info? 177 with
  | none=>simp [hi] at h
  | some i=>simp [hi] at h;exact⟨i,rfl,by omega⟩
theorem bLies:liesAt Tryz.prog Tryz.prog.depth 179 (4/Tryz.prog.cellsOf 179) 2 177 1=true:=by kernel_rfl
theorem bPtr:Tryz.prog.underlying 175=some (.pointer 177):=by kernel_rfl
theorem uPtr:Tryz.prog.underlying 347=some .unsafePointer:=by kernel_rfl
theorem u8Ptr:Tryz.prog.underlying 231=some (.pointer 5):=by kernel_rfl
def putM (t:Bool):List Bs→KV→KV
  | [],kv=>kv
  | s::r,kv=>putM t r (if gG s t !=0 then xU (gG s t) (.string (bs s)) kv else kv)
def qC (t:Bool):KV:=putM t verbWords []
theorem bAo(k k':Int)(v:Value): ∀kv:KV,yQ k (xU k' v kv)=if k==k' then some v else yQ k kv
  | []=>by simp [xU,yQ]
  | p::r=>by
    unfold xU;split
    · rename_i h;have e:k'=p.1:=by simpa using h
      simp only [yQ];rw [e];split<;>rfl
    · rename_i h;simp only [yQ];rw [bAo k k' v r]
      by_cases e:k=p.1
      · subst e
        have:(p.1==k')=false:=by
          rw [beq_eq_false_iff_ne];intro e;exact h (by simp [e])
        simp [this]
      · simp [e]
theorem put_last(t:Bool)(f:Int): ∀(l:List Bs) (kv:KV) (acc:Bs),(yQ f kv).getD (.string (bs []))= .string (bs acc)→(yQ f (putM t l kv)).getD (.string (bs []))= .string (bs (bBp t f l acc))
  | [],_,_,h=>h
  | s::r,kv,acc,h=>by
    rw [putM,bBp];refine put_last t f r _ _ ?_
    by_cases hv:(gG s t !=0)=true
    · rw [if_pos hv,bAo]
      by_cases hf:gG s t=f
      · have:(gG s t !=0&&gG s t==f)=true:=by simp [hf] at hv⊢;exact hv
        rw [if_pos (by simp [hf]),if_pos this];rfl
      · have:(gG s t !=0&&gG s t==f)=false:=by simp [hf]
        rw [if_neg (by simp;exact fun e=>hf e.symm),this];exact h
    · have:(gG s t !=0&&gG s t==f)=false:=by simp [hv]
      rw [if_neg hv,this];exact h
theorem bLb(t:Bool)(f:Int):(yQ f (qC t)).getD (.string (bs []))= .string (bs (kP t f)):=put_last t f verbWords [] [] rfl
theorem zeroStr(w:World):(zeroValue 9).run Tryz.prog w= .ok (.string (bs [])) w:=by kernel_rfl
theorem mapFn:Tryz.prog.underlying 173=some (.map 50 9):=by kernel_rfl
theorem mapInt:Tryz.prog.underlying 312=some (.map 3 9):=by kernel_rfl
theorem marks_get(k:Int):(yQ k (xU 7 (.string (bs [46])) (xU 6 (.string (bs [92])) (xU 5 (.string (bs [47])) [])))).getD (.string (bs []))= .string (bs (bLf k)):=by
  rw [bAo,bAo,bAo];unfold bLf
  by_cases h5:k=5
  · subst h5;rfl
  · by_cases h6:k=6
    · subst h6;rfl
    · by_cases h7:k=7
      · subst h7;rfl
      · simp [h5,h6,h7,yQ]
theorem fields_words:Lib.fields [43,32,45,32,42,32,37,32,124,32,109,105,110,32,109,97,120,32,61,32,126,32,60,32,60,61,32,62,61,32,62,32,97,110,100,32,111,114,32,112,111,119,32,114,104,111,32,116,97,107,101,32,100,114,111,112,32,99,97,116,32,105,111,116,97,32,115,104,97,112,101,32,114,97,118,101,108,32,114,101,118,32,116,117,114,110]=verbWords:=by decide+kernel
theorem fields_spec(s:Bs)(hs:s.length<4294967281)(ha: ∀b∈s,b.toNat<128):dH Tryz.prog 165 [.string (bs s)] [] [iA] (fun x:Nat=> .slice (some ⟨x,0,none⟩) (Lib.fields s).length (Lib.fields s).length) (fun _=>[]) (fun x=>[lP.sl (.slice (some ⟨x,0,none⟩) (Lib.fields s).length (Lib.fields s).length) (Lib.fields s)]):=fun S w s0 k=>by
  obtain⟨_,h0,_⟩:=k _ (.head _);refine(Tryz.strings_Fields (bs s) w (by rw [jZ];exact hs) (fun j b hb=>ha b (List.mem_of_getElem? hb)) h0).mono ?_;rintro e w' ⟨rfl,rfl⟩;have hb:Below w.heap.size w (w.alloc (.cells ((Lib.fields (bs s).data.toList).map fun l=>Value.string ⟨l.toArray⟩).toArray 9)):=(Below.refl _ _).alloc (Nat.le_refl _) _;refine⟨w.heap.size,fun b=>S b∨b=w.heap.size,rfl,⟨nL.of_below _ hb,fun c hc=>by simp at hc,fun c hc=>by simp at hc,List.Pairwise.nil,fun b hb'=>?_⟩,All.cons ?_ (fun g hg=>by simp at hg)⟩
  · rcases hb' with h | h
    · exact⟨Nat.lt_of_lt_of_le (s0.zone b h).1 hb.size,.inl h⟩
    · subst h;exact⟨by simp,.inr (.inr (Nat.le_refl _))⟩
  · refine⟨_,_,rfl,fun i x hi=>⟨w.heap.size,0,_,rfl,.inr rfl,fun j u hj=>?_,rfl⟩⟩;have hcell:(w.alloc (.cells ((Lib.fields (bs s).data.toList).map fun l=>Value.string ⟨l.toArray⟩).toArray 9)).heap[w.heap.size]?=some (.cells ((Lib.fields (bs s).data.toList).map fun l=>Value.string ⟨l.toArray⟩).toArray 9):=heap_alloc_new _ _;show World.cell? _ ⟨w.heap.size,0+i*1+j,none⟩=_;have hj':[Value.string (bs x)][j]?=some u:=hj
    have h0:j=0:=by
      cases j with
      | zero=>rfl
      | succ j=>simp at hj'
    subst h0;unfold World.cell?;rw [hcell];have hx:(Lib.fields (bs s).data.toList)[i]?=some x:=hi;simp at hj';subst hj';simp [bs];exact hx
theorem fields_verbs:dH Tryz.prog 165 [.string (bs [43,32,45,32,42,32,37,32,124,32,109,105,110,32,109,97,120,32,61,32,126,32,60,32,60,61,32,62,61,32,62,32,97,110,100,32,111,114,32,112,111,119,32,114,104,111,32,116,97,107,101,32,100,114,111,112,32,99,97,116,32,105,111,116,97,32,115,104,97,112,101,32,114,97,118,101,108,32,114,101,118,32,116,117,114,110])] [] [iA] (fun x:Nat=> .slice (some ⟨x,0,none⟩) verbWords.length verbWords.length) (fun _=>[]) (fun x=>[lP.sl (.slice (some ⟨x,0,none⟩) verbWords.length verbWords.length) verbWords]):=by
  have:=fields_spec (s:=[43,32,45,32,42,32,37,32,124,32,109,105,110,32,109,97,120,32,61,32,126,32,60,32,60,61,32,62,61,32,62,32,97,110,100,32,111,114,32,112,111,119,32,114,104,111,32,116,97,107,101,32,100,114,111,112,32,99,97,116,32,105,111,116,97,32,115,104,97,112,101,32,114,97,118,101,108,32,114,101,118,32,116,117,114,110]) (by decide) (by decide);rw [fields_words] at this;exact this
theorem fY{α:Type}{l:List α}{i:Nat}{x:α}(h:l[i]?=some x):l.drop i=x::l.drop (i+1):=by
  obtain⟨hl,rfl⟩:=List.getElem?_eq_some_iff.1 h;exact List.drop_eq_getElem_cons hl
theorem bBt(t:Bool)(f:Int):(kP t f).length≤5:=by
  by_cases h:kP t f=[]
  · rw [h];decide
  · have:=(textF_hit h).1;have key: ∀s∈verbWords,s.length≤5:=by decide
    exact key _ this
theorem bKx(k:Int):(bLf k).length≤1:=by
  unfold bLf
  repeat' split
  all_goals simp
section
variable {it : ItemV}
theorem bGz(h:it.how=3):verbS it.it=(kP false it.fn,1):=by
  unfold verbS;rw [if_pos (show it.it.how=3 from h)];rfl
theorem bHl(h:it.how≠3)(h2:kP true it.fn=[]∨it.how=4):verbS it.it=(kP true it.fn,1):=by
  unfold verbS;rw [if_neg (show ¬it.it.how=3 from h),if_pos (show kP true it.it.fn=[]∨it.it.how=4 from h2)];rfl
theorem bIt(h:it.how≠3)(h1:kP true it.fn≠[])(h2:it.how≠4)(h3:17<it.fn):verbS it.it=([],0):=by
  unfold verbS;rw [if_neg (show ¬it.it.how=3 from h),if_neg (show ¬(kP true it.it.fn=[]∨it.it.how=4) from fun h=>h.elim h1 h2),if_pos (show 17<it.it.fn from h3)]
theorem bFv(h:it.how≠3)(h1:kP true it.fn≠[])(h2:it.how≠4)(h3:it.fn≤17):verbS it.it=(kP true it.fn++bLf it.how,2):=by
  unfold verbS;rw [if_neg (show ¬it.it.how=3 from h),if_neg (show ¬(kP true it.it.fn=[]∨it.it.how=4) from fun h=>h.elim h1 h2),if_neg (show ¬17<it.it.fn from by show ¬17<it.fn;omega)];rfl
end
theorem rT{it:ItemV}(h:it.how=2):operandS it.it=if it.fn=0∧it.nums.list=[]∧dW it.name=true then some ⟨[it.name],0,1,true⟩ else none:=by
  unfold operandS;rw [if_pos (show it.it.how=2 from h)];rfl
theorem sC{it:ItemV}(h:it.how≠2)(hb:it.fn≠0∨it.name≠[]∨it.nums.list=[]∨256<it.nums.list.length):operandS it.it=none:=by
  unfold operandS;rw [if_neg (show ¬it.it.how=2 from h),if_pos (show it.it.fn≠0∨it.it.name≠[]∨it.it.nums=[]∨256<it.it.nums.length from hb)]
theorem operand_nums{it:ItemV}(h:it.how≠2)(h0:it.fn=0)(h1:it.name=[])(h2:((it.nums.list.length:Nat):Int)≠0)(h3:((it.nums.list.length:Nat):Int)≤256):operandS it.it=some ⟨it.nums.list.map fS,0,it.nums.list.length,true⟩:=by
  unfold operandS;rw [if_neg (show ¬it.it.how=2 from h),if_neg (show ¬(it.it.fn≠0∨it.it.name≠[]∨it.it.nums=[]∨256<it.it.nums.length) from ?_)]
  · rfl
  · rintro(h | h | h | h)
    · exact h h0
    · exact h h1
    · have:it.nums.list=[]:=h;rw [this] at h2;exact h2 rfl
    · have:256<it.nums.list.length:=h;omega
theorem bKj{α β:Type}{f:α→β}{l:List α}{i:Nat}{x:α}(h:l[i]?=some x):(l.take i).map f++[f x]=(l.take (i+1)).map f:=by
  rw [List.take_add_one,h];simp
section
variable {it : ItemV}
theorem qV(h:it.how=2)(h0:it.fn=0)(h1:((it.nums.list.length:Nat):Int)=0):dW it.name=(operandS it.it).isSome:=by
  have:it.nums.list=[]:=List.eq_nil_of_length_eq_zero (by omega);rw [rT h,h0,this];cases dW it.name<;>simp
theorem pD(h:it.how=2)(h0:it.fn≠0):false=(operandS it.it).isSome:=by
  rw [rT h,if_neg (fun hh=>h0 hh.1)];rfl
theorem oU(h:it.how=2)(h1:((it.nums.list.length:Nat):Int)≠0):false=(operandS it.it).isSome:=by
  rw [rT h,if_neg (fun hh=>h1 (by rw [hh.2.1];rfl))];rfl
end
theorem mC{it:ItemV}{p:fO}(h:it.how=2)(hp:operandS it.it=some p):(⟨[it.name],0,1,true⟩:fO)=p:=by
  rw [rT h] at hp;split at hp
  · exact Option.some.inj hp
  · cases hp
theorem lO:(Tryz.prog.info? 280).bind (·.zero)=some (.agg #[.slice none 0 0,.int .i64 0,.int .i64 0,.bool false]):=by kernel_rfl
theorem dY(a0:Option Addr)(l0 c0:Nat)(z1:Int)(z2:Int)(b3:Bool):Tryz.prog.built 280 [(0,.slice a0 l0 c0),(1,.int .i64 z1),(2,.int .i64 z2),(3,.bool b3)]=some #[.slice a0 l0 c0,.int .i64 z1,.int .i64 z2,.bool b3]:=by kernel_rfl
theorem gT:Tryz.prog.built 280 []=some #[.slice none 0 0,.int .i64 0,.int .i64 0,.bool false]:=by kernel_rfl
theorem pF(z2:Int)(b3:Bool):Tryz.prog.built 280 [(2,.int .i64 z2),(3,.bool b3)]=some #[.slice none 0 0,.int .i64 0,.int .i64 z2,.bool b3]:=by kernel_rfl
set_option maxRecDepth 100000 in
theorem bEv(b r1 r2:Nat)(G:Option Addr)(m c:Nat):dH Tryz.prog 259 [.pointer (some ⟨b,2,none⟩)] [.obj b (.cells [.map (some r1),.map (some r2),.pointer none,.slice G m c].toArray 179)] [] (fun(_:Unit)=> .tuple #[]) (fun(_:Unit)=>[.obj b (.cells [.map (some r1),.map (some r2),.pointer (some ⟨b,2,none⟩),.slice G m c].toArray 179)]) (fun _=>[]):=by
  have hT:=iW;refine cQ Tryz.func259 rfl Tryz.ntmps259 rfl ?_;intro β hM;refine sr<|sp3 hT ?_;refine ss (ldO hT (fE .head)) ?_;refine ss (bCp bPtr rfl rfl) ?_;refine nn<|cI rfl rfl ?_;refine bE<|sp2 hT ?_;obtain⟨j,hj,hj0⟩:=bInfo;refine ss (sti_toUnsafe .head bPtr uPtr hj hj0 rfl rfl (by show 2<4;decide)) ?_;refine ss (sti_noescape rfl rfl) ?_;refine ss (bGw .head uPtr bPtr hj rfl rfl bLies) ?_;refine sp2 hT ?_;refine sto hT .head ?_;refine dU ?_;exact uE () rfl (.cons .head .nil) trivial (rfl)
set_option maxRecDepth 100000 in
theorem bEp(b r1 r2:Nat)(G:Option Addr)(m c:Nat):dH Tryz.prog 259 [.pointer (some ⟨b,2,none⟩)] [.obj b (.cells [.map (some r1),.map (some r2),.pointer (some ⟨b,2,none⟩),.slice G m c].toArray 179)] [] (fun(_:Unit)=> .tuple #[]) (fun(_:Unit)=>[.obj b (.cells [.map (some r1),.map (some r2),.pointer (some ⟨b,2,none⟩),.slice G m c].toArray 179)]) (fun _=>[]):=by
  have hT:=iW;refine cQ Tryz.func259 rfl Tryz.ntmps259 rfl ?_;intro β hM;refine sr<|sp3 hT ?_;refine ss (ldO hT (fE .head)) ?_;refine ss (bCp bPtr rfl rfl) ?_;refine nn<|cN rfl rfl ?_;refine sr<|sp3 hT ?_;refine ss (ldO hT (fE .head)) ?_;refine sp hT ?_;obtain⟨j,hj,_⟩:=bInfo;refine ss (sti_ptr_same bPtr hj rfl rfl rfl) ?_;refine nn<|cN rfl rfl ?_;refine bK ?_;exact uE () rfl (.cons .head .nil) trivial (rfl)
set_option maxRecDepth 100000 in
theorem bBo(b r1 r2:Nat)(u:Bool)(G:Option Addr)(c:Nat)(out s:Bs)(hl:out.length+s.length≤140737488355328):dH Tryz.prog 223 [.pointer (some ⟨b,2,none⟩),.string (bs s)] [.obj b (.cells [.map (some r1),.map (some r2),bJx u b,.slice G out.length c].toArray 179),nT.row (.slice G out.length c) 5 out] [] (fun(_:Option Addr×Nat)=> .tuple #[.int .i64 (s.length:Nat),.nilIface]) (fun(x:Option Addr×Nat)=>[.obj b (.cells [.map (some r1),.map (some r2),.pointer (some ⟨b,2,none⟩),.slice x.1 (out++s).length x.2].toArray 179),nT.row (.slice x.1 (out++s).length x.2) 5 (out++s)]) (fun _=>[]):=by
  have hT:=iW;refine cQ Tryz.func223 rfl Tryz.ntmps223 rfl ?_;intro β hM;refine sr<|sp2 hT ?_;refine nn<|bA ?_;cases u
  · skip
    refine bE<|sp hT ?_;refine bO Tryz.func259 (bEv b r1 r2 G _ c) rfl rfl (.cons .head .nil) trivial fun _=>?_;refine nn<|sr<|sp4 hT ?_;refine ss (ldO hT (tS .head)) ?_;refine sp hT ?_;refine bDo kT1 rfl rfl rfl rfl rfl rfl (by omega) fun A1 c2=>?_;refine sp2 hT ?_;refine sto hT kT1 ?_;refine nn<|sr<|sp2 hT ?_;refine bP (z':=((s.length:Nat):Int)) rfl ?_;refine sp2 hT ?_;refine nn<|bG ?_;exact bM (A1,c2) rfl (bD rfl) (bD rfl) (.cons .head (.cons .head .nil)) trivial (rfl)
  skip
  refine bE<|sp hT ?_;refine bO Tryz.func259 (bEp b r1 r2 G _ c) rfl rfl (.cons .head .nil) trivial fun _=>?_;refine nn<|sr<|sp4 hT ?_;refine ss (ldO hT (tS .head)) ?_;refine sp hT ?_;refine bDo kT1 rfl rfl rfl rfl rfl rfl (by omega) fun A3 c4=>?_;refine sp2 hT ?_;refine sto hT kT1 ?_;refine nn<|sr<|sp2 hT ?_;refine bP (z':=((s.length:Nat):Int)) rfl ?_;refine sp2 hT ?_;refine nn<|bG ?_;exact bM (A3,c4) rfl (bD rfl) (bD rfl) (.cons .head (.cons .head .nil)) trivial (rfl)
set_option maxRecDepth 100000 in
theorem yT(b r1 r2:Nat)(u:Bool)(G:Option Addr)(c:Nat)(out hd tx:Bs)(hl:out.length+hd.length+tx.length+1≤140737488355328):dH Tryz.prog 168 [.pointer (some ⟨b,0,none⟩),.string (bs hd),.string (bs tx)] [.obj b (.cells [.map (some r1),.map (some r2),bJx u b,.slice G out.length c].toArray 179),nT.row (.slice G out.length c) 5 out] [] (fun(_:Option Addr×Nat)=> .tuple #[]) (fun(x:Option Addr×Nat)=>[.obj b (.cells [.map (some r1),.map (some r2),bJx true b,.slice x.1 (out++((hd++tx)++[10])).length x.2].toArray 179),nT.row (.slice x.1 (out++((hd++tx)++[10])).length x.2) 5 (out++((hd++tx)++[10]))]) (fun _=>[]):=by
  have hT:=iW;refine cQ Tryz.func168 rfl Tryz.ntmps168 rfl ?_;intro β hM;refine bE<|sp4 hT ?_;refine sp hT ?_;refine ss (gV rfl rfl rfl (by first | omega | (simp;omega))) ?_;refine ss (gV rfl rfl rfl (by first | omega | (simp;omega))) ?_;refine bO Tryz.func223 (bBo b r1 r2 u G c out ((hd++tx)++([10]:Bs)) (by simp;omega)) rfl rfl (.cons .head (.cons .head .nil)) trivial fun⟨A1,c2⟩=>?_;refine dU ?_;exact uE (A1,c2) rfl (.cons .head (.cons .head .nil)) trivial (rfl)
set_option maxRecDepth 100000 in
theorem bFt(t:Bool):dH Tryz.prog 97 [.bool t] [] [iA] (fun(x:Nat)=> .map (some x)) (fun _=>[]) (fun(x:Nat)=>[mapF x .u8 (qC t)]):=by
  have hT:=iW;have hvl:verbWords.length=25:=rfl;refine cQ Tryz.func97 rfl Tryz.ntmps97 rfl ?_;intro β hM;refine sr<|sp hT ?_;refine nn<|sr<|bIq .u8 rfl rfl rfl rfl fun r1=>?_;refine sp hT ?_;refine nn<|bA<|sr<|bO Tryz.func165 fields_verbs rfl rfl .nil ⟨(Has.of mT0),trivial⟩ fun x2=>?_;refine sp2 hT ?_;refine nn<|bT<|dD (ι:=Nat×KV) [(0,_),(3,_),(9,_),(10,_)] ⟨rfl,rfl,rfl,rfl,trivial⟩ (fun⟨i,kv⟩=>[(11,.int .i64 (i:Nat))]) (fun⟨i,kv⟩=>[mapC r1 .u8 kv]) (fun⟨i,kv⟩=>[Fact.pure (i≤25∧putM t (verbWords.drop i) kv=qC t)]) (fun⟨i,kv⟩=>25-i) (0,[]) ⟨rfl,trivial⟩ (.cons .head .nil) ⟨Has.pure (⟨by omega,rfl⟩),trivial⟩ ?_;rintro⟨i,kv⟩;dsimp only;refine cD (Has.of mT0) fun hinv3=>?_;refine sr<|sp hT ?_;refine nn<|bA<|bH rfl (fun hc12=>?_) (fun hc12=>?_)
  · have hc12:=of_decide_eq_true hc12;refine bK<|bB<|bA<|bT<|sr ?_
    obtain⟨x3,hx4⟩: ∃x,verbWords[i]?=some x:=⟨_,List.getElem?_eq_getElem (by have:verbWords.length=25:=rfl;omega)⟩
    refine ss (bS hT (k:=i) (bJ (Has.of mT1)) rfl rfl rfl rfl rfl rfl rfl (by have:verbWords.length=25:=rfl;omega)) ?_;refine ss (bZ hT (cR.knows (bJ (Has.of mT1)) (k:=i) (x:=x3) hx4 0) rfl rfl rfl rfl rfl) ?_;refine sp hT ?_;refine nn<|sr<|sp2 hT ?_;refine bO Tryz.func166 (bCc x3 t) rfl rfl .nil trivial fun _=>?_;refine sp4 hT ?_;refine sp hT ?_;refine nn<|sr<|sp hT ?_;refine nn<|bH rfl (fun hc21=>?_) (fun hc21=>?_)
    · refine bE<|sp3 hT ?_;refine qL .head rfl (.inl rfl) rfl mapFn Tryz.underlying50 rfl rfl rfl ?_;refine dU<|cA<|bB<|bE<|sp hT ?_;refine bP (z':=(((i+1):Nat):Int)) (cL (by omega) (by omega)) ?_;refine sp hT ?_;refine nn ?_;exact cP (i+1,_) (by dsimp only;omega) ⟨rfl,trivial⟩ ⟨rfl,rfl,rfl,rfl,trivial⟩ (.cons .head .nil) ⟨Has.pure (⟨by dsimp only;omega,by have h:=hinv3.2;rw [fY hx4,putM,if_pos (by assumption)] at h;exact h⟩),trivial⟩ (bF.drop 1)
    refine bK<|cA<|bB<|bE<|sp hT ?_;refine bP (z':=(((i+1):Nat):Int)) (cL (by omega) (by omega)) ?_;refine sp hT ?_;refine nn ?_;exact cP (i+1,_) (by dsimp only;omega) ⟨rfl,trivial⟩ ⟨rfl,rfl,rfl,rfl,trivial⟩ (.cons .head .nil) ⟨Has.pure (⟨by dsimp only;omega,by have h:=hinv3.2;rw [fY hx4,putM,if_neg (by simp [*])] at h;exact h⟩),trivial⟩ (bF.drop 1)
  have hc12:=Int.not_lt.1 (of_decide_eq_false hc12);refine cW<|cM<|cM<|cX<|bB<|sr<|sp2 hT ?_;refine nn<|bG ?_;have hm:kv=qC t:=by have h:=hinv3.2;rw [show i=25 by omega] at h;exact h
  subst hm;refine bJy .head ?_;exact bR r1 rfl (bD rfl) .nil ⟨Has.of mT0,trivial⟩ rfl
set_option maxRecDepth 100000 in
theorem xW(b r1 r2:Nat)(p:Value)(G:Option Addr)(m c:Nat)(it:ItemV):dH Tryz.prog 225 [.pointer (some ⟨b,0,none⟩),.agg #[.int .i64 it.how,.int .i64 it.at_,.int .u8 it.fn,.string (bs it.name),.slice it.nums.addr it.nums.list.length it.nums.cap]] [.obj b (.cells [.map (some r1),.map (some r2),p,.slice G m c].toArray 179)] [mapF r1 .u8 (qC false),mapF r2 .u8 (qC true)] (fun(_:Unit)=> .tuple #[.string (bs (verbS it.it).1),.int .i64 ((verbS it.it).2:Nat)]) (fun(_:Unit)=>[.obj b (.cells [.map (some r1),.map (some r2),p,.slice G m c].toArray 179)]) (fun _=>[]):=by
  have hT:=iW;refine cQ Tryz.func225 rfl Tryz.ntmps225 rfl ?_;intro β hM;refine sr<|fL rfl rfl rfl rfl rfl rfl fun b1=>?_;refine sp2 hT ?_;refine nn<|bA<|sr<|sp hT ?_;refine ss (ldO hT (bL .head)) ?_;refine sp hT ?_;refine nn<|bH rfl (fun hc9=>?_) (fun hc9=>?_)
  · have hc9:=eq_of_beq hc9;refine bA<|cU _ _ [(true,0),(true,1),(true,2),(true,3),(true,4),(true,5),(true,6),(true,7),(true,8)] cY (by decide+kernel) (.cons .head (.cons .head .nil)) bF.self ?_;refine puM hT ?_;refine puM hT ?_;refine puM hT ?_;refine stM rfl (ldO hT (bL kT1)) ?_;refine puM hT ?_;refine stM rfl (ldO hT (fE .head)) ?_;refine stM rfl (yP (bFy (Has.of mT0)) rfl mapFn Tryz.underlying50 zeroStr rfl rfl (bLb _ _)) ?_;refine puM hT ?_;refine puM hT ?_;refine cK<|bB<|bG<|bC ?_;exact bM () rfl (bD rfl) (bD rfl) (.cons kT1 .nil) trivial (by first | (rw [bGz (by assumption)];first | done | rfl) | (rw [bHl (by assumption) (by first | exact .inl (by assumption) | exact .inr (by assumption))];first | done | rfl) | (rw [bIt (by assumption) (by assumption) (by assumption) (by assumption)];first | done | rfl) | (rw [bFv (by assumption) (by assumption) (by assumption) (by assumption)];first | done | rfl))
  have hc9:=beq_eq_false_iff_ne.1 hc9;refine bK<|bB<|bA<|cU _ _ [(true,0),(true,1),(true,2),(true,3),(true,4),(true,5),(true,6),(true,7)] cY (by decide+kernel) (.cons .head (.cons .head .nil)) bF.self ?_;refine puM hT ?_;refine puM hT ?_;refine puM hT ?_;refine stM rfl (ldO hT (dB kT1)) ?_;refine puM hT ?_;refine stM rfl (ldO hT (fE .head)) ?_;refine stM rfl (yP (bFy (Has.of mT1)) rfl mapFn Tryz.underlying50 zeroStr rfl rfl (bLb _ _)) ?_;refine puM hT ?_;refine cK<|bB<|bA<|sr<|sp3 hT ?_;refine cF (fun hg26=>?_) (fun hg26=>?_)
  · have hg26:(kP true it.fn)=([]:Bs):=eq_of_beq hg26;refine sk3 ?_;refine sp hT ?_;refine nn<|cI rfl rfl ?_;refine sr<|sp3 hT ?_;refine nn<|bG<|bC ?_;exact bM () rfl (bD rfl) (bD rfl) (.cons kT1 .nil) trivial (by first | (rw [bGz (by assumption)];first | done | rfl) | (rw [bHl (by assumption) (by first | exact .inl (by assumption) | exact .inr (by assumption))];first | done | rfl) | (rw [bIt (by assumption) (by assumption) (by assumption) (by assumption)];first | done | rfl) | (rw [bFv (by assumption) (by assumption) (by assumption) (by assumption)];first | done | rfl))
  have hg26:(kP true it.fn)≠([]:Bs):=fun h=>absurd (beq_iff_eq.2 h) (by rw [show((kP true it.fn)==([]:Bs))=false from hg26];simp);refine sp hT ?_;refine ss (ldO hT (bL .head)) ?_;refine sp2 hT ?_;refine nn<|bH rfl (fun hc30=>?_) (fun hc30=>?_)
  · have hc30:=eq_of_beq hc30;refine sr<|sp3 hT ?_;refine nn<|bG<|bC ?_;exact bM () rfl (bD rfl) (bD rfl) (.cons kT1 .nil) trivial (by first | (rw [bGz (by assumption)];first | done | rfl) | (rw [bHl (by assumption) (by first | exact .inl (by assumption) | exact .inr (by assumption))];first | done | rfl) | (rw [bIt (by assumption) (by assumption) (by assumption) (by assumption)];first | done | rfl) | (rw [bFv (by assumption) (by assumption) (by assumption) (by assumption)];first | done | rfl))
  have hc30:=beq_eq_false_iff_ne.1 hc30;refine bK<|bB<|bA<|sr<|sp hT ?_;refine ss (ldO hT (fE .head)) ?_;refine sp hT ?_;refine nn<|bH rfl (fun hc34=>?_) (fun hc34=>?_)
  · have hc34:=of_decide_eq_true hc34;refine sr<|sp2 hT ?_;refine nn<|bG<|bC ?_;exact bM () rfl (bD rfl) (bD rfl) (.cons kT1 .nil) trivial (by first | (rw [bGz (by assumption)];first | done | rfl) | (rw [bHl (by assumption) (by first | exact .inl (by assumption) | exact .inr (by assumption))];first | done | rfl) | (rw [bIt (by assumption) (by assumption) (by assumption) (by assumption)];first | done | rfl) | (rw [bFv (by assumption) (by assumption) (by assumption) (by assumption)];first | done | rfl))
  have hc34:=Int.not_lt.1 (of_decide_eq_false hc34);refine bK<|bB<|sr<|sp hT ?_;refine bIq .i64 rfl rfl rfl rfl fun r2=>?_;refine qL .head rfl (.inr rfl) rfl mapInt Tryz.underlying3 rfl rfl rfl ?_;refine qL .head rfl (.inr rfl) rfl mapInt Tryz.underlying3 rfl rfl rfl ?_;refine qL .head rfl (.inr rfl) rfl mapInt Tryz.underlying3 rfl rfl rfl ?_;refine sp2 hT ?_;refine ss (ldO hT (bL kT1)) ?_;refine ss (yP (knows_mapC .head) rfl mapInt Tryz.underlying3 zeroStr rfl rfl (marks_get _)) ?_;refine ss (gV rfl rfl rfl (by have:=bBt true it.fn;have:=bKx it.how;omega)) ?_;refine sp2 hT ?_;refine nn<|bG ?_;exact bM () rfl (bD rfl) (bD rfl) (.cons kT2 .nil) trivial (by first | (rw [bGz (by assumption)];first | done | rfl) | (rw [bHl (by assumption) (by first | exact .inl (by assumption) | exact .inr (by assumption))];first | done | rfl) | (rw [bIt (by assumption) (by assumption) (by assumption) (by assumption)];first | done | rfl) | (rw [bFv (by assumption) (by assumption) (by assumption) (by assumption)];first | done | rfl))
set_option maxRecDepth 100000 in
theorem yW(it:ItemV)(hn:it.name.length≤140737488355328)(hz: ∀z∈it.nums.list,-9223372036854775808≤z∧z≤9223372036854775807):dH Tryz.prog 224 [.agg #[.int .i64 it.how,.int .i64 it.at_,.int .u8 it.fn,.string (bs it.name),.slice it.nums.addr it.nums.list.length it.nums.cap]] [] [numF it,iA] (fun(x:PieceV)=> .tuple #[.agg #[.slice x.words.addr x.words.list.length x.words.cap,.int .i64 (x.nest:Nat),.int .i64 (x.tokens:Nat),.bool x.plain],.bool (operandS it.it).isSome]) (fun(x:PieceV)=>[lP.row (.slice x.words.addr x.words.list.length x.words.cap) 9 x.words.list]) (fun(x:PieceV)=>[Fact.pure (∀p,operandS it.it=some p→x.pc=p)]):=by
  have hT:=iW;refine cQ Tryz.func224 rfl Tryz.ntmps224 rfl ?_;intro β hM;refine sr<|fL rfl rfl rfl rfl rfl rfl fun b1=>?_;refine cE rfl rfl rfl rfl lO rfl fun b2=>?_;refine sp hT ?_;refine nn<|bA<|sr<|sp hT ?_;refine ss (ldO hT (bL kT1)) ?_;refine sp hT ?_;refine nn<|bH rfl (fun hc9=>?_) (fun hc9=>?_)
  · have hc9:=eq_of_beq hc9;refine bA<|qQ _ _ (.fl 0 (.fl 1 (.fl 4 (.fl 5 (.fl 6 (.fl 7 (.fl 8 (.fl 9 (.fl 10 (.fl 11 (.fl 12 (.fl 13 (.fl 14 (.fl 15 (.two 2 16 (.fl 3 (.op 16 (.fl 17 (.op 18 (.fl 19 .nil))))) (.fl 17 (.op 2 (.fl 3 (.op 18 (.fl 19 .nil)))))))))))))))))))) cY (by decide+kernel) (.cons kT1 .nil) bF.self ?_;refine puT hT ?_;refine stT rfl (ldO hT (tS .head)) ?_;refine puT hT ?_;refine stT rfl (ldO hT (fE .head)) ?_;refine puT hT ?_;refine puT hT ?_;refine cF (fun hg17=>?_) (fun hg17=>?_)
    · have hg17:=eq_of_beq hg17;refine puT hT ?_;refine stT rfl (ldO hT (bKf .head)) ?_;refine puT hT ?_;refine puT hT ?_;refine puT hT ?_;refine puT hT ?_;refine cF (fun hg23=>?_) (fun hg23=>?_)
      · have hg23:=eq_of_beq hg23;refine puT hT ?_;refine stT rfl (ldO hT (tS .head)) ?_;refine oF (o:=_) (o':=_) rfl rfl ?_ ?_
        · refine jB (m:=it.name) rfl rfl rfl rfl rfl fun b3=>?_;refine dE (.cons kT2 .nil) (bF.drop 0) ?_;refine stT rfl (bY rfl rfl (dY _ _ _ _ _ _)) ?_;refine fB (o:=_) rfl ?_;refine bO Tryz.func76 (mD _ hn) rfl rfl .nil ⟨Has.of mT1,trivial⟩ fun _=>?_;refine dE (.cons kT2 .nil) (bF.drop 0) ?_;refine puT hT ?_;refine fB (o:=_) rfl ?_;refine sto hT kT1 ?_;refine dE (.cons kT2 .nil) (bF.drop 0) ?_;refine puT hT ?_;refine iF<|bB<|bG<|bC<|dL (E:=lP) kT1 (by simp [maxLen]) ?_;exact bM (⟨⟨some ⟨b3,0,none⟩,_,[it.name]⟩,0,1,true⟩:PieceV) rfl (bN hT (bL kT1) rfl rfl rfl rfl) (bD rfl) (.cons .head .nil) ⟨Has.pure (fun p hp=>mC (by assumption) hp),trivial⟩ (congrArg (fun b:Bool=>Value.tuple #[_,.bool b]) (by first | exact qV (by assumption) (by assumption) (by assumption) | exact pD (by assumption) (by assumption) | exact oU (by assumption) (by assumption)))
        refine bO Tryz.func76 (mD _ hn) rfl rfl .nil ⟨Has.of mT1,trivial⟩ fun _=>?_;refine dE (.cons kT1 .nil) (bF.drop 0) ?_;refine puT hT ?_;refine fB (o:=_) rfl ?_;refine jB (m:=it.name) rfl rfl rfl rfl rfl fun b4=>?_;refine dE (.cons kT2 .nil) (bF.drop 0) ?_;refine stT rfl (bY rfl rfl (dY _ _ _ _ _ _)) ?_;refine fB (o:=_) rfl ?_;refine sto hT kT1 ?_;refine dE (.cons kT2 .nil) (bF.drop 0) ?_;refine puT hT ?_;refine iF<|bB<|bG<|bC<|dL (E:=lP) kT1 (by simp [maxLen]) ?_;exact bM (⟨⟨some ⟨b4,0,none⟩,_,[it.name]⟩,0,1,true⟩:PieceV) rfl (bN hT (bL kT1) rfl rfl rfl rfl) (bD rfl) (.cons .head .nil) ⟨Has.pure (fun p hp=>mC (by assumption) hp),trivial⟩ (congrArg (fun b:Bool=>Value.tuple #[_,.bool b]) (by first | exact qV (by assumption) (by assumption) (by assumption) | exact pD (by assumption) (by assumption) | exact oU (by assumption) (by assumption)))
      have hg23:=beq_eq_false_iff_ne.1 hg23;refine kQ rfl rfl rfl rfl ?_;refine kQ rfl rfl rfl rfl ?_;refine oF (o:=_) (o':=_) rfl rfl ?_ ?_
      · refine jB (m:=it.name) rfl rfl rfl rfl rfl fun b5=>?_;refine dE (.cons kT2 .nil) (bF.drop 0) ?_;refine stT rfl (bY rfl rfl (dY _ _ _ _ _ _)) ?_;refine fB (o:=_) rfl ?_;refine sk ?_;refine dE (.cons kT2 .nil) (bF.drop 0) ?_;refine puT hT ?_;refine fB (o:=_) rfl ?_;refine sto hT kT1 ?_;refine dE (.cons kT2 .nil) (bF.drop 0) ?_;refine puT hT ?_;refine iF<|bB<|bG<|bC<|dL (E:=lP) kT1 (by simp [maxLen]) ?_;exact bM (⟨⟨some ⟨b5,0,none⟩,_,[it.name]⟩,0,1,true⟩:PieceV) rfl (bN hT (bL kT1) rfl rfl rfl rfl) (bD rfl) (.cons .head .nil) ⟨Has.pure (fun p hp=>mC (by assumption) hp),trivial⟩ (congrArg (fun b:Bool=>Value.tuple #[_,.bool b]) (by first | exact qV (by assumption) (by assumption) (by assumption) | exact pD (by assumption) (by assumption) | exact oU (by assumption) (by assumption)))
      refine sk ?_;refine dE (.cons kT1 .nil) (bF.drop 0) ?_;refine puT hT ?_;refine fB (o:=_) rfl ?_;refine jB (m:=it.name) rfl rfl rfl rfl rfl fun b6=>?_;refine dE (.cons kT2 .nil) (bF.drop 0) ?_;refine stT rfl (bY rfl rfl (dY _ _ _ _ _ _)) ?_;refine fB (o:=_) rfl ?_;refine sto hT kT1 ?_;refine dE (.cons kT2 .nil) (bF.drop 0) ?_;refine puT hT ?_;refine iF<|bB<|bG<|bC<|dL (E:=lP) kT1 (by simp [maxLen]) ?_;exact bM (⟨⟨some ⟨b6,0,none⟩,_,[it.name]⟩,0,1,true⟩:PieceV) rfl (bN hT (bL kT1) rfl rfl rfl rfl) (bD rfl) (.cons .head .nil) ⟨Has.pure (fun p hp=>mC (by assumption) hp),trivial⟩ (congrArg (fun b:Bool=>Value.tuple #[_,.bool b]) (by first | exact qV (by assumption) (by assumption) (by assumption) | exact pD (by assumption) (by assumption) | exact oU (by assumption) (by assumption)))
    have hg17:=beq_eq_false_iff_ne.1 hg17;refine kQ rfl rfl rfl rfl ?_;refine kQ rfl rfl rfl rfl ?_;refine kQ rfl rfl rfl rfl ?_;refine kQ rfl rfl rfl rfl ?_;refine puT hT ?_;refine puT hT ?_;refine kQ rfl rfl rfl rfl ?_;refine kQ rfl rfl rfl rfl ?_;refine oF (o:=_) (o':=_) rfl rfl ?_ ?_
    · refine jB (m:=it.name) rfl rfl rfl rfl rfl fun b7=>?_;refine dE (.cons kT2 .nil) (bF.drop 0) ?_;refine stT rfl (bY rfl rfl (dY _ _ _ _ _ _)) ?_;refine fB (o:=_) rfl ?_;refine sk ?_;refine dE (.cons kT2 .nil) (bF.drop 0) ?_;refine puT hT ?_;refine fB (o:=_) rfl ?_;refine sto hT kT1 ?_;refine dE (.cons kT2 .nil) (bF.drop 0) ?_;refine puT hT ?_;refine iF<|bB<|bG<|bC<|dL (E:=lP) kT1 (by simp [maxLen]) ?_;exact bM (⟨⟨some ⟨b7,0,none⟩,_,[it.name]⟩,0,1,true⟩:PieceV) rfl (bN hT (bL kT1) rfl rfl rfl rfl) (bD rfl) (.cons .head .nil) ⟨Has.pure (fun p hp=>mC (by assumption) hp),trivial⟩ (congrArg (fun b:Bool=>Value.tuple #[_,.bool b]) (by first | exact qV (by assumption) (by assumption) (by assumption) | exact pD (by assumption) (by assumption) | exact oU (by assumption) (by assumption)))
    refine sk ?_;refine dE (.cons kT1 .nil) (bF.drop 0) ?_;refine puT hT ?_;refine fB (o:=_) rfl ?_;refine jB (m:=it.name) rfl rfl rfl rfl rfl fun b8=>?_;refine dE (.cons kT2 .nil) (bF.drop 0) ?_;refine stT rfl (bY rfl rfl (dY _ _ _ _ _ _)) ?_;refine fB (o:=_) rfl ?_;refine sto hT kT1 ?_;refine dE (.cons kT2 .nil) (bF.drop 0) ?_;refine puT hT ?_;refine iF<|bB<|bG<|bC<|dL (E:=lP) kT1 (by simp [maxLen]) ?_;exact bM (⟨⟨some ⟨b8,0,none⟩,_,[it.name]⟩,0,1,true⟩:PieceV) rfl (bN hT (bL kT1) rfl rfl rfl rfl) (bD rfl) (.cons .head .nil) ⟨Has.pure (fun p hp=>mC (by assumption) hp),trivial⟩ (congrArg (fun b:Bool=>Value.tuple #[_,.bool b]) (by first | exact qV (by assumption) (by assumption) (by assumption) | exact pD (by assumption) (by assumption) | exact oU (by assumption) (by assumption)))
  have hc9:=beq_eq_false_iff_ne.1 hc9;refine bK<|bB<|bA<|sr<|sp hT ?_;refine ss (ldO hT (fE kT1)) ?_;refine sp2 hT ?_;refine cF (fun hg31=>?_) (fun hg31=>?_)
  · have hg31:=bne_iff_ne.1 hg31;refine sk3 ?_;refine sp2 hT ?_;refine sk4 ?_;refine sp2 hT ?_;refine sk4 ?_;refine sp hT ?_;refine nn<|cI rfl rfl ?_;refine sr<|ss (bY rfl rfl (gT)) ?_;refine sto hT .head ?_;refine sp hT ?_;refine nn<|bG<|bC<|dQ (t:=9) lP ?_;have ho:=sC (it:=it) (by assumption) (by first | exact .inl (by assumption) | exact .inr (.inl (by assumption)) | exact .inr (.inr (.inl (List.eq_nil_of_length_eq_zero (by omega)))) | exact .inr (.inr (.inr (by omega))));exact bM (⟨⟨none,0,[]⟩,0,0,false⟩:PieceV) rfl (bN hT (bL kT1) rfl rfl rfl rfl) (bD rfl) (.cons .head .nil) ⟨Has.pure (fun p hp=>by rw [ho] at hp;cases hp),trivial⟩ (by rw [ho];rfl)
  have hg31:=bne_eq_false_iff_eq.1 hg31;refine sp hT ?_;refine ss (ldO hT (tS kT1)) ?_;refine sp3 hT ?_;refine cF (fun hg36=>?_) (fun hg36=>?_)
  · have hg36:it.name≠([]:Bs):=fun h=>by rw [h] at hg36;first | (simp at hg36;done) | exact absurd hg36 (by decide)
    refine sk4 ?_;refine sp2 hT ?_;refine sk4 ?_;refine sp hT ?_;refine nn<|cI rfl rfl ?_;refine sr<|ss (bY rfl rfl (gT)) ?_;refine sto hT .head ?_;refine sp hT ?_;refine nn<|bG<|bC<|dQ (t:=9) lP ?_;have ho:=sC (it:=it) (by assumption) (by first | exact .inl (by assumption) | exact .inr (.inl (by assumption)) | exact .inr (.inr (.inl (List.eq_nil_of_length_eq_zero (by omega)))) | exact .inr (.inr (.inr (by omega))));exact bM (⟨⟨none,0,[]⟩,0,0,false⟩:PieceV) rfl (bN hT (bL kT1) rfl rfl rfl rfl) (bD rfl) (.cons .head .nil) ⟨Has.pure (fun p hp=>by rw [ho] at hp;cases hp),trivial⟩ (by rw [ho];rfl)
  have hg36:it.name=([]:Bs):=eq_of_beq (fN hg36);refine sp hT ?_;refine ss (ldO hT (bKf kT1)) ?_;refine sp4 hT ?_;refine cF (fun hg42=>?_) (fun hg42=>?_)
  · have hg42:=eq_of_beq hg42;refine sk4 ?_;refine sp hT ?_;refine nn<|cI rfl rfl ?_;refine sr<|ss (bY rfl rfl (gT)) ?_;refine sto hT .head ?_;refine sp hT ?_;refine nn<|bG<|bC<|dQ (t:=9) lP ?_;have ho:=sC (it:=it) (by assumption) (by first | exact .inl (by assumption) | exact .inr (.inl (by assumption)) | exact .inr (.inr (.inl (List.eq_nil_of_length_eq_zero (by omega)))) | exact .inr (.inr (.inr (by omega))));exact bM (⟨⟨none,0,[]⟩,0,0,false⟩:PieceV) rfl (bN hT (bL kT1) rfl rfl rfl rfl) (bD rfl) (.cons .head .nil) ⟨Has.pure (fun p hp=>by rw [ho] at hp;cases hp),trivial⟩ (by rw [ho];rfl)
  have hg42:=beq_eq_false_iff_ne.1 hg42;refine sp hT ?_;refine ss (ldO hT (bKf kT1)) ?_;refine sp3 hT ?_;refine nn<|bH rfl (fun hc47=>?_) (fun hc47=>?_)
  · have hc47:=of_decide_eq_true hc47;refine sr<|ss (bY rfl rfl (gT)) ?_;refine sto hT .head ?_;refine sp hT ?_;refine nn<|bG<|bC<|dQ (t:=9) lP ?_;have ho:=sC (it:=it) (by assumption) (by first | exact .inl (by assumption) | exact .inr (.inl (by assumption)) | exact .inr (.inr (.inl (List.eq_nil_of_length_eq_zero (by omega)))) | exact .inr (.inr (.inr (by omega))));exact bM (⟨⟨none,0,[]⟩,0,0,false⟩:PieceV) rfl (bN hT (bL kT1) rfl rfl rfl rfl) (bD rfl) (.cons .head .nil) ⟨Has.pure (fun p hp=>by rw [ho] at hp;cases hp),trivial⟩ (by rw [ho];rfl)
  have hc47:=Int.not_lt.1 (of_decide_eq_false hc47);refine bK<|bB<|sr<|sp hT ?_;refine ss (ldO hT (bKf kT1)) ?_;refine sp hT ?_;refine ss (bY rfl rfl (pF _ _)) ?_;refine cE rfl rfl rfl rfl lO rfl fun b9=>?_;refine sto hT .head ?_;refine nn<|bA<|sr<|sp hT ?_;refine ss (ldO hT (bKf kT2)) ?_;refine sp2 hT ?_;refine nn<|bT<|dQ (t:=9) lP ?_;refine dD (ι:=Nat×List Bs×Option Addr×Nat) [(2,_),(4,_),(54,_),(55,_)] ⟨rfl,rfl,rfl,rfl,trivial⟩ (fun⟨i,ws,W,cw⟩=>[(56,.int .i64 (i:Nat))]) (fun⟨i,ws,W,cw⟩=>[.obj b9 (.cells [.slice W ws.length cw,.int .i64 0,.int .i64 (it.nums.list.length:Nat),.bool true].toArray 280),lP.row (.slice W ws.length cw) 9 ws]) (fun⟨i,ws,W,cw⟩=>[Fact.pure (i≤it.nums.list.length∧ws=(it.nums.list.take i).map fS∧ws.length=i)]) (fun⟨i,ws,W,cw⟩=>it.nums.list.length-i) (0,[],none,0) ⟨rfl,trivial⟩ (.cons kT1 (.cons .head .nil)) ⟨Has.pure (⟨by omega,rfl,rfl⟩),trivial⟩ ?_;rintro⟨i,ws,W,cw⟩;dsimp only;refine cD (Has.of mT0) fun hinv7=>?_;refine sr<|sp hT ?_;refine nn<|bA<|bH rfl (fun hc57=>?_) (fun hc57=>?_)
  · have hc57:=of_decide_eq_true hc57;refine bK<|bB<|bA<|bT<|sr ?_
    obtain⟨x10,hx11⟩: ∃x,it.nums.list[i]?=some x:=⟨_,List.getElem?_eq_getElem (by omega)⟩
    refine ss (bS hT (k:=i) (bJ (Has.of mT1)) rfl rfl rfl rfl rfl rfl rfl (by omega)) ?_;refine ss (bZ hT (cR.knows (bJ (Has.of mT1)) (k:=i) (x:=x10) hx11 0) rfl rfl rfl rfl rfl) ?_;refine sp hT ?_;refine nn<|qP 7 _ _ [(true,0),(true,1),(true,2),(false,3),(false,4),(false,5),(true,6)] cY (by decide+kernel) (.cons .head (.cons kT1 (.cons kT1 .nil))) bF.self ?_;refine puL hT ?_;refine stL rfl (ldO hT (bL .head)) ?_;refine puL hT ?_;refine jK (o:=_) rfl ?_;have hr:=hz x10 (List.mem_of_getElem? hx11);refine bO Tryz.func167 (zZ _ hr.1 hr.2) rfl rfl .nil ⟨Has.of mT2,trivial⟩ fun _=>?_;refine jL (.cons .head (.cons kT1 (.cons kT1 .nil))) (bF.drop 0) ?_;refine jK (o:=_) rfl ?_;refine jB (m:=(fS x10)) rfl rfl rfl rfl rfl fun b12=>?_;refine jL (.cons kT1 (.cons kT2 (.cons kT2 .nil))) (bF.drop 0) ?_;refine jK (o:=_) rfl ?_;refine kV kT2 (dF .head rfl) rfl rfl rfl rfl rfl rfl rfl (by simp only [List.length_singleton];omega) fun A13 c14=>?_;refine jL (.cons kT2 (.cons kT2 (.cons kT2 .nil))) (bF.drop 0) ?_;refine puL hT ?_;refine lF (o:=_) rfl ?_;refine sto hT kT2 ?_;refine nH<|cA<|bB<|bE<|sp hT ?_;refine bP (z':=(((i+1):Nat):Int)) (cL (by omega) (by omega)) ?_;refine sp hT ?_;refine nn ?_;exact cP (i+1,ws++[fS x10],_,_) (by dsimp only;omega) ⟨rfl,trivial⟩ ⟨rfl,rfl,rfl,rfl,trivial⟩ (.cons .head (.cons .head (.cons kT1 (.cons kT1 .nil)))) ⟨Has.pure (⟨by dsimp only;omega,by rw [hinv7.2.1];exact bKj hx11,by simp;omega⟩),trivial⟩ (bF.drop 1)
  have hc57:=Int.not_lt.1 (of_decide_eq_false hc57);refine cW<|cM<|cM<|cX<|bB<|sr<|ss (ldN hT (bL .head)) ?_;refine sto hT kT2 ?_;refine sp hT ?_;refine nn<|bG ?_;have ho:=operand_nums (it:=it) (by assumption) (by assumption) (by assumption) (by assumption) (by assumption);have hw:ws=it.nums.list.map fS:=by rw [hinv7.2.1,List.take_of_length_le (by omega)]
  exact bM (⟨⟨_,_,ws⟩,0,it.nums.list.length,true⟩:PieceV) rfl (bN hT (bL .head) rfl rfl rfl rfl) (bD rfl) (.cons kT2 .nil) ⟨Has.pure (fun p hp=>by rw [ho] at hp;cases hp;rw [hw];rfl),trivial⟩ (by rw [ho];rfl)
end Go.Proofs.YtbgdphbebhjpiaaGreatDoor
