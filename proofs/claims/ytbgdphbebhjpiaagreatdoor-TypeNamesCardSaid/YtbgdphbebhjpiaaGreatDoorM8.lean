/- Walks of strings.Builder's methods at the place that it has in show.shower; show.texts, show.shower.verb, show.operand. (Printed by wip/gen/show1.py.) -/
import Derived.Test.YtbgdphbebhjpiaaGreatDoorM7
import Derived.Test.YtbgdphbebhjpiaaGreatDoorM3
import Derived.Lib.Fields
namespace Go.Proofs.YtbgdphbebhjpiaaGreatDoor
open Go.RowKit
theorem Sel.skip{H R:List cA}{c:cA}(h:Sel H R):Sel (c::H) R:=by
 induction h generalizing c with
 | nil=>exact .nil
 | cons h _ ih=>exact .cons (.tail h) ih
def PieceV.pc(x:PieceV):fS:=⟨x.words.list,x.nest,x.tokens,x.plain⟩
def bJy (u:Bool)(b:Nat):Value:=if u then .pointer (some ⟨b,2,none⟩) else .pointer none
section
variable {P : Program} {β : fV} {n : Nat} {Γ : Env} {H : List cA} {F : List Fact} {Q : Exit → Act → World → Prop} {K : Act → World → Prop} {ops : Array Oper} {rest : List Oper} {o : Oper} {d : Nat} {α : Type} {E : Flat α}
theorem sti_noescape{x:Operand}{ts:Array TypeId}{v:Value}(ho:o.op= .call ⟨.value (.func 289),#[x],ts⟩)(hx:Γ.ev x=some v):Sti Tryz.prog β n Γ H F o v:=fun a w S f s _=>by
 have hr:(callFunc 289 #[v]).run Tryz.prog w= .ok (.value v) w:=by
  rw [run_callFunc_extern Tryz.func289 (by kernel_rfl) (by kernel_rfl) (by kernel_rfl) (e:=Extern.AbiNoEscape.same) (by kernel_rfl)];rw [Lib.run_noEscape];rfl
 unfold execOp;simp only [ho,resolve,Act.eval,Deferred.ofValue,Sem.run_bind,Sem.run_pure,Result.andThen_ok,invoke];simp [f.ev hx,hr]
theorem u8Info: ∃i:TypeInfo,Tryz.prog.info? 5=some i∧i.zero=some (.int .u8 0)∧i.size=1∧i.bytes=1:=by
 have h:(Tryz.prog.info? 5).map (fun i=>(i.zero,i.size,i.bytes))=some (some (.int .u8 0),1,1):=by kernel_rfl
 cases hi:Tryz.prog.info? 5 with
 | none=>simp [hi] at h
 | some i=>simp [hi] at h;exact⟨i,rfl,h.1,h.2.1,h.2.2⟩
theorem bDk{x y:Operand}{v:Value}{xs ys:Bs}{H':List cA}(hH:dK H (nK.row v 5 xs) H')(hw:want ops Γ o=some true)
  (ho:o.op= .call {callee:= .builtin .append,args:= #[x,y],argTypes:= #[171,9]}) (hd:o.dst=some d) (hn:Nat.blt d n=true) (hx:Γ.ev x=some v) (hy:Γ.ev y=some (.string (bs ys))) (hl:xs.length+ys.length≤140737488355328)
  (k: ∀A' cap',At β n ((d,.slice A' (xs++ys).length cap')::Γ) (nK.row (.slice A' (xs++ys).length cap') 5 (xs++ys)::H') F (wpList Tryz.prog ops Q rest)):At β n Γ H F (wpList Tryz.prog ops Q (o::rest)):=by
 obtain⟨i,hi,hz,hs,hb⟩:=u8Info;exact bGs hH hw ho hd hn Tryz.underlying171 Tryz.underlying9 hi hz hs hb hx hy hl k
theorem fD{b:Nat}{t:TypeId}{xs:List α}{H':List cA}(hH:dK H (.obj b (.cells (E.all xs).toArray t)) H')(hm:xs.length≤maxLen)(h:At β n Γ (E.row (.slice (some ⟨b,0,none⟩) xs.length xs.length) t xs::H') F K):At β n Γ H F K:=fun a w S f s k=>by
 have s2:=s.perm hH.perm;have hok:w.heap[b]?=some (.cells (E.all xs).toArray t):=s2.ok _ (List.mem_cons_self ..);refine h a w S f ⟨s2.kept,fun c hc=>?_,fun c hc b' hb=>?_,?_,s2.zone⟩ k
 ·rcases List.mem_cons.1 hc with rfl | hc
  ·refine⟨by rw [E.all_length],.inr ⟨b,_,_,rfl,Nat.zero_le _,hok,Nat.le_refl _,hm,by simp [E.all_length],?_⟩⟩;rw [List.take_of_length_le (by simp [E.all_length])]
  ·exact s2.ok c (List.mem_cons_of_mem _ hc)
 ·rcases List.mem_cons.1 hc with rfl | hc
  ·exact s2.own (.obj b (.cells (E.all xs).toArray t)) (List.mem_cons_self ..) b' hb
  ·exact s2.own c (List.mem_cons_of_mem _ hc) b' hb
 ·have hp:=List.pairwise_cons.1 s2.sep;exact List.pairwise_cons.2 ⟨fun d hd b hb=>hp.1 d hd b hb,hp.2⟩
end
theorem bInfo: ∃j:TypeInfo,Tryz.prog.info? 177=some j∧j.size≠0:=by
 have h:(Tryz.prog.info? 177).map (·.size)=some 2:=by kernel_rfl
 cases hi:Tryz.prog.info? 177 with
 | none=>simp [hi] at h
 | some i=>simp [hi] at h;exact⟨i,rfl,by omega⟩
theorem bLies:liesAt Tryz.prog Tryz.prog.depth 179 (4/Tryz.prog.cellsOf 179) 2 177 1=true:=by kernel_rfl
theorem bPtr:Tryz.prog.underlying 175=some (.pointer 177):=by kernel_rfl
theorem uPtr:Tryz.prog.underlying 347=some .unsafePointer:=by kernel_rfl
theorem u8Ptr:Tryz.prog.underlying 231=some (.pointer 5):=by kernel_rfl
def putM (t:Bool):List Bs→KV→KV
 | [],kv=>kv
 | s::r,kv=>putM t r (if gF s t !=0 then xS (gF s t) (.string (bs s)) kv else kv)
def qB (t:Bool):KV:=putM t verbWords []
theorem bBb(k k':Int)(v:Value): ∀kv:KV,xT k (xS k' v kv)=if k==k' then some v else xT k kv
 | []=>by simp [xS,xT]
 | p::r=>by
  unfold xS;split
  ·rename_i h;have e:k'=p.1:=by simpa using h
   simp only [xT];rw [e];split<;>rfl
  ·rename_i h;simp only [xT];rw [bBb k k' v r]
   by_cases e:k=p.1
   ·subst e
    have:(p.1==k')=false:=by
     rw [beq_eq_false_iff_ne];intro e;exact h (by simp [e])
    simp [this]
   ·simp [e]
theorem put_last(t:Bool)(f:Int): ∀(l:List Bs) (kv:KV) (acc:Bs),(xT f kv).getD (.string (bs []))= .string (bs acc)→(xT f (putM t l kv)).getD (.string (bs []))= .string (bs (bCs t f l acc))
 | [],_,_,h=>h
 | s::r,kv,acc,h=>by
  rw [putM,bCs];refine put_last t f r _ _ ?_
  by_cases hv:(gF s t !=0)=true
  ·rw [if_pos hv,bBb]
   by_cases hf:gF s t=f
   ·have:(gF s t !=0&&gF s t==f)=true:=by simp [hf] at hv⊢;exact hv
    rw [if_pos (by simp [hf]),if_pos this];rfl
   ·have:(gF s t !=0&&gF s t==f)=false:=by simp [hf]
    rw [if_neg (by simp;exact fun e=>hf e.symm),this];exact h
  ·have:(gF s t !=0&&gF s t==f)=false:=by simp [hv]
   rw [if_neg hv,this];exact h
theorem bLb(t:Bool)(f:Int):(xT f (qB t)).getD (.string (bs []))= .string (bs (kO t f)):=put_last t f verbWords [] [] rfl
theorem zeroStr(w:World):(zeroValue 9).run Tryz.prog w= .ok (.string (bs [])) w:=by kernel_rfl
theorem mapFn:Tryz.prog.underlying 173=some (.map 50 9):=by kernel_rfl
theorem mapInt:Tryz.prog.underlying 312=some (.map 3 9):=by kernel_rfl
theorem marks_get(k:Int):(xT k (xS 7 (.string (bs [46])) (xS 6 (.string (bs [92])) (xS 5 (.string (bs [47])) [])))).getD (.string (bs []))= .string (bs (bMn k)):=by
 rw [bBb,bBb,bBb];unfold bMn
 by_cases h5:k=5
 ·subst h5;rfl
 ·by_cases h6:k=6
  ·subst h6;rfl
  ·by_cases h7:k=7
   ·subst h7;rfl
   ·simp [h5,h6,h7,xT]
theorem fields_words:Lib.fields [43,32,45,32,42,32,37,32,124,32,109,105,110,32,109,97,120,32,61,32,126,32,60,32,60,61,32,62,61,32,62,32,97,110,100,32,111,114,32,112,111,119,32,114,104,111,32,116,97,107,101,32,100,114,111,112,32,99,97,116,32,105,111,116,97,32,115,104,97,112,101,32,114,97,118,101,108,32,114,101,118,32,116,117,114,110]=verbWords:=by decide+kernel
theorem fields_spec(s:Bs)(hs:s.length<4294967281)(ha: ∀b∈s,b.toNat<128):dX Tryz.prog 165 [.string (bs s)] [] [iK] (fun x:Nat=> .slice (some ⟨x,0,none⟩) (Lib.fields s).length (Lib.fields s).length) (fun _=>[]) (fun x=>[lA.sl (.slice (some ⟨x,0,none⟩) (Lib.fields s).length (Lib.fields s).length) (Lib.fields s)]):=fun S w s0 k=>by
 obtain⟨_,h0,_⟩:=k _ (.head _);refine(Tryz.strings_Fields (bs s) w (by rw [kH];exact hs) (fun j b hb=>ha b (List.mem_of_getElem? hb)) h0).mono ?_;rintro e w' ⟨rfl,rfl⟩;have hb:Below w.heap.size w (w.alloc (.cells ((Lib.fields (bs s).data.toList).map fun l=>Value.string ⟨l.toArray⟩).toArray 9)):=(Below.refl _ _).alloc (Nat.le_refl _) _;refine⟨w.heap.size,fun b=>S b∨b=w.heap.size,rfl,⟨mX.of_below _ hb,fun c hc=>by simp at hc,fun c hc=>by simp at hc,List.Pairwise.nil,fun b hb'=>?_⟩,All.cons ?_ (fun g hg=>by simp at hg)⟩
 ·rcases hb' with h | h
  ·exact⟨Nat.lt_of_lt_of_le (s0.zone b h).1 hb.size,.inl h⟩
  ·subst h;exact⟨by simp,.inr (.inr (Nat.le_refl _))⟩
 ·refine⟨_,_,rfl,fun i x hi=>⟨w.heap.size,0,_,rfl,.inr rfl,fun j u hj=>?_,rfl⟩⟩;have hcell:(w.alloc (.cells ((Lib.fields (bs s).data.toList).map fun l=>Value.string ⟨l.toArray⟩).toArray 9)).heap[w.heap.size]?=some (.cells ((Lib.fields (bs s).data.toList).map fun l=>Value.string ⟨l.toArray⟩).toArray 9):=heap_alloc_new _ _;show World.cell? _ ⟨w.heap.size,0+i*1+j,none⟩=_;have hj':[Value.string (bs x)][j]?=some u:=hj
  have h0:j=0:=by
   cases j with
   | zero=>rfl
   | succ j=>simp at hj'
  subst h0;unfold World.cell?;rw [hcell];have hx:(Lib.fields (bs s).data.toList)[i]?=some x:=hi;simp at hj';subst hj';simp [bs];exact hx
theorem fields_verbs:dX Tryz.prog 165 [.string (bs [43,32,45,32,42,32,37,32,124,32,109,105,110,32,109,97,120,32,61,32,126,32,60,32,60,61,32,62,61,32,62,32,97,110,100,32,111,114,32,112,111,119,32,114,104,111,32,116,97,107,101,32,100,114,111,112,32,99,97,116,32,105,111,116,97,32,115,104,97,112,101,32,114,97,118,101,108,32,114,101,118,32,116,117,114,110])] [] [iK] (fun x:Nat=> .slice (some ⟨x,0,none⟩) verbWords.length verbWords.length) (fun _=>[]) (fun x=>[lA.sl (.slice (some ⟨x,0,none⟩) verbWords.length verbWords.length) verbWords]):=by
 have:=fields_spec (s:=[43,32,45,32,42,32,37,32,124,32,109,105,110,32,109,97,120,32,61,32,126,32,60,32,60,61,32,62,61,32,62,32,97,110,100,32,111,114,32,112,111,119,32,114,104,111,32,116,97,107,101,32,100,114,111,112,32,99,97,116,32,105,111,116,97,32,115,104,97,112,101,32,114,97,118,101,108,32,114,101,118,32,116,117,114,110]) (by decide) (by decide);rw [fields_words] at this;exact this
theorem iV{α:Type}{l:List α}{i:Nat}{x:α}(h:l[i]?=some x):l.drop i=x::l.drop (i+1):=by
 obtain⟨hl,rfl⟩:=List.getElem?_eq_some_iff.1 h;exact List.drop_eq_getElem_cons hl
theorem bBs(t:Bool)(f:Int):(kO t f).length≤5:=by
 by_cases h:kO t f=[]
 ·rw [h];decide
 ·have:=(textF_hit h).1;have key: ∀s∈verbWords,s.length≤5:=by decide
  exact key _ this
theorem bLv(k:Int):(bMn k).length≤1:=by
 unfold bMn
 repeat' split
 all_goals simp
section
variable {it : ItemV}
theorem bFw(h:it.how=3):verbS it.it=(kO false it.fn,1):=by
 unfold verbS;rw [if_pos (show it.it.how=3 from h)];rfl
theorem bHs(h:it.how≠3)(h2:kO true it.fn=[]∨it.how=4):verbS it.it=(kO true it.fn,1):=by
 unfold verbS;rw [if_neg (show ¬it.it.how=3 from h),if_pos (show kO true it.it.fn=[]∨it.it.how=4 from h2)];rfl
theorem bIq(h:it.how≠3)(h1:kO true it.fn≠[])(h2:it.how≠4)(h3:17<it.fn):verbS it.it=([],0):=by
 unfold verbS;rw [if_neg (show ¬it.it.how=3 from h),if_neg (show ¬(kO true it.it.fn=[]∨it.it.how=4) from fun h=>h.elim h1 h2),if_pos (show 17<it.it.fn from h3)]
theorem bGh(h:it.how≠3)(h1:kO true it.fn≠[])(h2:it.how≠4)(h3:it.fn≤17):verbS it.it=(kO true it.fn++bMn it.how,2):=by
 unfold verbS;rw [if_neg (show ¬it.it.how=3 from h),if_neg (show ¬(kO true it.it.fn=[]∨it.it.how=4) from fun h=>h.elim h1 h2),if_neg (show ¬17<it.it.fn from by show ¬17<it.fn;omega)];rfl
end
theorem rO{it:ItemV}(h:it.how=2):operandS it.it=if it.fn=0∧it.nums.list=[]∧dS it.name=true then some ⟨[it.name],0,1,true⟩ else none:=by
 unfold operandS;rw [if_pos (show it.it.how=2 from h)];rfl
theorem rZ{it:ItemV}(h:it.how≠2)(hb:it.fn≠0∨it.name≠[]∨it.nums.list=[]∨256<it.nums.list.length):operandS it.it=none:=by
 unfold operandS;rw [if_neg (show ¬it.it.how=2 from h),if_pos (show it.it.fn≠0∨it.it.name≠[]∨it.it.nums=[]∨256<it.it.nums.length from hb)]
theorem operand_nums{it:ItemV}(h:it.how≠2)(h0:it.fn=0)(h1:it.name=[])(h2:((it.nums.list.length:Nat):Int)≠0)(h3:((it.nums.list.length:Nat):Int)≤256):operandS it.it=some ⟨it.nums.list.map fZ,0,it.nums.list.length,true⟩:=by
 unfold operandS;rw [if_neg (show ¬it.it.how=2 from h),if_neg (show ¬(it.it.fn≠0∨it.it.name≠[]∨it.it.nums=[]∨256<it.it.nums.length) from ?_)]
 ·rfl
 ·rintro(h | h | h | h)
  ·exact h h0
  ·exact h h1
  ·have:it.nums.list=[]:=h;rw [this] at h2;exact h2 rfl
  ·have:256<it.nums.list.length:=h;omega
theorem bKc{α β:Type}{f:α→β}{l:List α}{i:Nat}{x:α}(h:l[i]?=some x):(l.take i).map f++[f x]=(l.take (i+1)).map f:=by
 rw [List.take_add_one,h];simp
section
variable {it : ItemV}
theorem qQ(h:it.how=2)(h0:it.fn=0)(h1:((it.nums.list.length:Nat):Int)=0):dS it.name=(operandS it.it).isSome:=by
 have:it.nums.list=[]:=List.eq_nil_of_length_eq_zero (by omega);rw [rO h,h0,this];cases dS it.name<;>simp
theorem oQ(h:it.how=2)(h0:it.fn≠0):false=(operandS it.it).isSome:=by
 rw [rO h,if_neg (fun hh=>h0 hh.1)];rfl
theorem oS(h:it.how=2)(h1:((it.nums.list.length:Nat):Int)≠0):false=(operandS it.it).isSome:=by
 rw [rO h,if_neg (fun hh=>h1 (by rw [hh.2.1];rfl))];rfl
end
theorem mB{it:ItemV}{p:fS}(h:it.how=2)(hp:operandS it.it=some p):(⟨[it.name],0,1,true⟩:fS)=p:=by
 rw [rO h] at hp;split at hp
 ·exact Option.some.inj hp
 ·cases hp
theorem lK:(Tryz.prog.info? 280).bind (·.zero)=some (.agg #[.slice none 0 0,.int .i64 0,.int .i64 0,.bool false]):=by kernel_rfl
theorem fH(a0:Option Addr)(l0 c0:Nat)(z1:Int)(z2:Int)(b3:Bool):Tryz.prog.built 280 [(0,.slice a0 l0 c0),(1,.int .i64 z1),(2,.int .i64 z2),(3,.bool b3)]=some #[.slice a0 l0 c0,.int .i64 z1,.int .i64 z2,.bool b3]:=by kernel_rfl
theorem gX:Tryz.prog.built 280 []=some #[.slice none 0 0,.int .i64 0,.int .i64 0,.bool false]:=by kernel_rfl
theorem oL(z2:Int)(b3:Bool):Tryz.prog.built 280 [(2,.int .i64 z2),(3,.bool b3)]=some #[.slice none 0 0,.int .i64 0,.int .i64 z2,.bool b3]:=by kernel_rfl
set_option maxRecDepth 100000 in
theorem bEq(b r1 r2:Nat)(G:Option Addr)(m c:Nat):dX Tryz.prog 259 [.pointer (some ⟨b,2,none⟩)] [.obj b (.cells [.map (some r1),.map (some r2),.pointer none,.slice G m c].toArray 179)] [] (fun(_:Unit)=> .tuple #[]) (fun(_:Unit)=>[.obj b (.cells [.map (some r1),.map (some r2),.pointer (some ⟨b,2,none⟩),.slice G m c].toArray 179)]) (fun _=>[]):=by
 have hT:=jE;refine cW Tryz.func259 rfl Tryz.ntmps259 rfl ?_;intro β hM;refine sr<|sp3 hT ?_;refine ss (ldO hT (dI .head)) ?_;refine ss (bEg bPtr rfl rfl) ?_;refine nn<|cI rfl rfl ?_;refine bD<|sp2 hT ?_;obtain⟨j,hj,hj0⟩:=bInfo;refine ss (sti_toUnsafe .head bPtr uPtr hj hj0 rfl rfl (by show 2<4;decide)) ?_;refine ss (sti_noescape rfl rfl) ?_;refine ss (bJg .head uPtr bPtr hj rfl rfl bLies) ?_;refine sp2 hT ?_;refine sto hT .head ?_;refine dY ?_;exact uM () rfl (.cons .head .nil) trivial (rfl)
set_option maxRecDepth 100000 in
theorem bEs(b r1 r2:Nat)(G:Option Addr)(m c:Nat):dX Tryz.prog 259 [.pointer (some ⟨b,2,none⟩)] [.obj b (.cells [.map (some r1),.map (some r2),.pointer (some ⟨b,2,none⟩),.slice G m c].toArray 179)] [] (fun(_:Unit)=> .tuple #[]) (fun(_:Unit)=>[.obj b (.cells [.map (some r1),.map (some r2),.pointer (some ⟨b,2,none⟩),.slice G m c].toArray 179)]) (fun _=>[]):=by
 have hT:=jE;refine cW Tryz.func259 rfl Tryz.ntmps259 rfl ?_;intro β hM;refine sr<|sp3 hT ?_;refine ss (ldO hT (dI .head)) ?_;refine ss (bEg bPtr rfl rfl) ?_;refine nn<|cG rfl rfl ?_;refine sr<|sp3 hT ?_;refine ss (ldO hT (dI .head)) ?_;refine sp hT ?_;obtain⟨j,hj,_⟩:=bInfo;refine ss (sti_ptr_same bPtr hj rfl rfl rfl) ?_;refine nn<|cG rfl rfl ?_;refine bN ?_;exact uM () rfl (.cons .head .nil) trivial (rfl)
set_option maxRecDepth 100000 in
theorem bCb(b r1 r2:Nat)(u:Bool)(G:Option Addr)(c:Nat)(out s:Bs)(hl:out.length+s.length≤140737488355328):dX Tryz.prog 223 [.pointer (some ⟨b,2,none⟩),.string (bs s)] [.obj b (.cells [.map (some r1),.map (some r2),bJy u b,.slice G out.length c].toArray 179),nK.row (.slice G out.length c) 5 out] [] (fun(_:Option Addr×Nat)=> .tuple #[.int .i64 (s.length:Nat),.nilIface]) (fun(x:Option Addr×Nat)=>[.obj b (.cells [.map (some r1),.map (some r2),.pointer (some ⟨b,2,none⟩),.slice x.1 (out++s).length x.2].toArray 179),nK.row (.slice x.1 (out++s).length x.2) 5 (out++s)]) (fun _=>[]):=by
 have hT:=jE;refine cW Tryz.func223 rfl Tryz.ntmps223 rfl ?_;intro β hM;refine sr<|sp2 hT ?_;refine nn<|bA ?_;cases u
 ·skip
  refine bD<|sp hT ?_;refine bR Tryz.func259 (bEq b r1 r2 G _ c) rfl rfl (.cons .head .nil) trivial fun _=>?_;refine nn<|sr<|sp4 hT ?_;refine ss (ldO hT (uY .head)) ?_;refine sp hT ?_;refine bDk kT1 rfl rfl rfl rfl rfl rfl (by omega) fun A1 c2=>?_;refine sp2 hT ?_;refine sto hT kT1 ?_;refine nn<|sr<|sp2 hT ?_;refine bT (z':=((s.length:Nat):Int)) rfl ?_;refine sp2 hT ?_;refine nn<|bF ?_;exact bO (A1,c2) rfl (bG rfl) (bG rfl) (.cons .head (.cons .head .nil)) trivial (rfl)
 skip
 refine bD<|sp hT ?_;refine bR Tryz.func259 (bEs b r1 r2 G _ c) rfl rfl (.cons .head .nil) trivial fun _=>?_;refine nn<|sr<|sp4 hT ?_;refine ss (ldO hT (uY .head)) ?_;refine sp hT ?_;refine bDk kT1 rfl rfl rfl rfl rfl rfl (by omega) fun A3 c4=>?_;refine sp2 hT ?_;refine sto hT kT1 ?_;refine nn<|sr<|sp2 hT ?_;refine bT (z':=((s.length:Nat):Int)) rfl ?_;refine sp2 hT ?_;refine nn<|bF ?_;exact bO (A3,c4) rfl (bG rfl) (bG rfl) (.cons .head (.cons .head .nil)) trivial (rfl)
set_option maxRecDepth 100000 in
theorem yQ(b r1 r2:Nat)(u:Bool)(G:Option Addr)(c:Nat)(out hd tx:Bs)(hl:out.length+hd.length+tx.length+1≤140737488355328):dX Tryz.prog 168 [.pointer (some ⟨b,0,none⟩),.string (bs hd),.string (bs tx)] [.obj b (.cells [.map (some r1),.map (some r2),bJy u b,.slice G out.length c].toArray 179),nK.row (.slice G out.length c) 5 out] [] (fun(_:Option Addr×Nat)=> .tuple #[]) (fun(x:Option Addr×Nat)=>[.obj b (.cells [.map (some r1),.map (some r2),bJy true b,.slice x.1 (out++((hd++tx)++[10])).length x.2].toArray 179),nK.row (.slice x.1 (out++((hd++tx)++[10])).length x.2) 5 (out++((hd++tx)++[10]))]) (fun _=>[]):=by
 have hT:=jE;refine cW Tryz.func168 rfl Tryz.ntmps168 rfl ?_;intro β hM;refine bD<|sp4 hT ?_;refine sp hT ?_;refine ss (gI rfl rfl rfl (by first | omega | (simp;omega))) ?_;refine ss (gI rfl rfl rfl (by first | omega | (simp;omega))) ?_;refine bR Tryz.func223 (bCb b r1 r2 u G c out ((hd++tx)++([10]:Bs)) (by simp;omega)) rfl rfl (.cons .head (.cons .head .nil)) trivial fun⟨A1,c2⟩=>?_;refine dY ?_;exact uM (A1,c2) rfl (.cons .head (.cons .head .nil)) trivial (rfl)
set_option maxRecDepth 100000 in
theorem bFt(t:Bool):dX Tryz.prog 97 [.bool t] [] [iK] (fun(x:Nat)=> .map (some x)) (fun _=>[]) (fun(x:Nat)=>[mapF x .u8 (qB t)]):=by
 have hT:=jE;have hvl:verbWords.length=25:=rfl;refine cW Tryz.func97 rfl Tryz.ntmps97 rfl ?_;intro β hM;refine sr<|sp hT ?_;refine nn<|sr<|bJm .u8 rfl rfl rfl rfl fun r1=>?_;refine sp hT ?_;refine nn<|bA<|sr<|bR Tryz.func165 fields_verbs rfl rfl .nil ⟨(Has.of mT0),trivial⟩ fun x2=>?_;refine sp2 hT ?_;refine nn<|bX<|dG (ι:=Nat×KV) [(0,_),(3,_),(9,_),(10,_)] ⟨rfl,rfl,rfl,rfl,trivial⟩ (fun⟨i,kv⟩=>[(11,.int .i64 (i:Nat))]) (fun⟨i,kv⟩=>[mapC r1 .u8 kv]) (fun⟨i,kv⟩=>[Fact.pure (i≤25∧putM t (verbWords.drop i) kv=qB t)]) (fun⟨i,kv⟩=>25-i) (0,[]) ⟨rfl,trivial⟩ (.cons .head .nil) ⟨Has.pure (⟨by omega,rfl⟩),trivial⟩ ?_;rintro⟨i,kv⟩;dsimp only;refine bS (Has.of mT0) fun hinv3=>?_;refine sr<|sp hT ?_;refine nn<|bA<|bL rfl (fun hc12=>?_) (fun hc12=>?_)
 ·have hc12:=of_decide_eq_true hc12;refine bN<|bC<|bA<|bX<|sr ?_
  obtain⟨x3,hx4⟩: ∃x,verbWords[i]?=some x:=⟨_,List.getElem?_eq_getElem (by have:verbWords.length=25:=rfl;omega)⟩
  refine ss (bU hT (k:=i) (bK (Has.of mT1)) rfl rfl rfl rfl rfl rfl rfl (by have:verbWords.length=25:=rfl;omega)) ?_;refine ss (cE hT (cN.knows (bK (Has.of mT1)) (k:=i) (x:=x3) hx4 0) rfl rfl rfl rfl rfl) ?_;refine sp hT ?_;refine nn<|sr<|sp2 hT ?_;refine bR Tryz.func166 (bCc x3 t) rfl rfl .nil trivial fun _=>?_;refine sp4 hT ?_;refine sp hT ?_;refine nn<|sr<|sp hT ?_;refine nn<|bL rfl (fun hc21=>?_) (fun hc21=>?_)
  ·refine bD<|sp3 hT ?_;refine qO .head rfl (.inl rfl) rfl mapFn Tryz.underlying50 rfl rfl rfl ?_;refine dY<|cD<|bC<|bD<|sp hT ?_;refine bT (z':=(((i+1):Nat):Int)) (cP (by omega) (by omega)) ?_;refine sp hT ?_;refine nn ?_;exact cO (i+1,_) (by dsimp only;omega) ⟨rfl,trivial⟩ ⟨rfl,rfl,rfl,rfl,trivial⟩ (.cons .head .nil) ⟨Has.pure (⟨by dsimp only;omega,by have h:=hinv3.2;rw [iV hx4,putM,if_pos ‹_›] at h;exact h⟩),trivial⟩ (bI.drop 1)
  refine bN<|cD<|bC<|bD<|sp hT ?_;refine bT (z':=(((i+1):Nat):Int)) (cP (by omega) (by omega)) ?_;refine sp hT ?_;refine nn ?_;exact cO (i+1,_) (by dsimp only;omega) ⟨rfl,trivial⟩ ⟨rfl,rfl,rfl,rfl,trivial⟩ (.cons .head .nil) ⟨Has.pure (⟨by dsimp only;omega,by have h:=hinv3.2;rw [iV hx4,putM,if_neg (by simp [*])] at h;exact h⟩),trivial⟩ (bI.drop 1)
 have hc12:=Int.not_lt.1 (of_decide_eq_false hc12);refine dC<|cM<|cM<|dB<|bC<|sr<|sp2 hT ?_;refine nn<|bF ?_;have hm:kv=qB t:=by have h:=hinv3.2;rw [show i=25 by omega] at h;exact h
 subst hm;refine bKl .head ?_;exact bV r1 rfl (bG rfl) .nil ⟨Has.of mT0,trivial⟩ rfl
set_option maxRecDepth 100000 in
theorem xW(b r1 r2:Nat)(p:Value)(G:Option Addr)(m c:Nat)(it:ItemV):dX Tryz.prog 225 [.pointer (some ⟨b,0,none⟩),.agg #[.int .i64 it.how,.int .i64 it.at_,.int .u8 it.fn,.string (bs it.name),.slice it.nums.addr it.nums.list.length it.nums.cap]] [.obj b (.cells [.map (some r1),.map (some r2),p,.slice G m c].toArray 179)] [mapF r1 .u8 (qB false),mapF r2 .u8 (qB true)] (fun(_:Unit)=> .tuple #[.string (bs (verbS it.it).1),.int .i64 ((verbS it.it).2:Nat)]) (fun(_:Unit)=>[.obj b (.cells [.map (some r1),.map (some r2),p,.slice G m c].toArray 179)]) (fun _=>[]):=by
 have hT:=jE;refine cW Tryz.func225 rfl Tryz.ntmps225 rfl ?_;intro β hM;refine sr<|hQ rfl rfl rfl rfl rfl rfl fun b1=>?_;refine sp2 hT ?_;refine nn<|bA<|sr<|sp hT ?_;refine ss (ldO hT (bJ .head)) ?_;refine sp hT ?_;refine nn<|bL rfl (fun hc9=>?_) (fun hc9=>?_)
 ·have hc9:=eq_of_beq hc9;refine bA<|cZ _ _ [(true,0),(true,1),(true,2),(true,3),(true,4),(true,5),(true,6),(true,7),(true,8)] dD (by decide+kernel) (.cons .head (.cons .head .nil)) bI.self ?_;refine puM hT ?_;refine puM hT ?_;refine puM hT ?_;refine stM rfl (ldO hT (bJ kT1)) ?_;refine puM hT ?_;refine stM rfl (ldO hT (dI .head)) ?_;refine stM rfl (xX (bGj (Has.of mT0)) rfl mapFn Tryz.underlying50 zeroStr rfl rfl (bLb _ _)) ?_;refine puM hT ?_;refine puM hT ?_;refine cQ<|bC<|bF<|bB ?_;exact bO () rfl (bG rfl) (bG rfl) (.cons kT1 .nil) trivial (by first | (rw [bFw ‹_›];first | done | rfl) | (rw [bHs ‹_› (by first | exact .inl ‹_› | exact .inr ‹_›)];first | done | rfl) | (rw [bIq ‹_› ‹_› ‹_› ‹_›];first | done | rfl) | (rw [bGh ‹_› ‹_› ‹_› ‹_›];first | done | rfl))
 have hc9:=beq_eq_false_iff_ne.1 hc9;refine bN<|bC<|bA<|cZ _ _ [(true,0),(true,1),(true,2),(true,3),(true,4),(true,5),(true,6),(true,7)] dD (by decide+kernel) (.cons .head (.cons .head .nil)) bI.self ?_;refine puM hT ?_;refine puM hT ?_;refine puM hT ?_;refine stM rfl (ldO hT (fN kT1)) ?_;refine puM hT ?_;refine stM rfl (ldO hT (dI .head)) ?_;refine stM rfl (xX (bGj (Has.of mT1)) rfl mapFn Tryz.underlying50 zeroStr rfl rfl (bLb _ _)) ?_;refine puM hT ?_;refine cQ<|bC<|bA<|sr<|sp3 hT ?_;refine cF (fun hg26=>?_) (fun hg26=>?_)
 ·have hg26:(kO true it.fn)=([]:Bs):=eq_of_beq hg26;refine sk3 ?_;refine sp hT ?_;refine nn<|cI rfl rfl ?_;refine sr<|sp3 hT ?_;refine nn<|bF<|bB ?_;exact bO () rfl (bG rfl) (bG rfl) (.cons kT1 .nil) trivial (by first | (rw [bFw ‹_›];first | done | rfl) | (rw [bHs ‹_› (by first | exact .inl ‹_› | exact .inr ‹_›)];first | done | rfl) | (rw [bIq ‹_› ‹_› ‹_› ‹_›];first | done | rfl) | (rw [bGh ‹_› ‹_› ‹_› ‹_›];first | done | rfl))
 have hg26:(kO true it.fn)≠([]:Bs):=fun h=>absurd (beq_iff_eq.2 h) (by rw [show((kO true it.fn)==([]:Bs))=false from hg26];simp);refine sp hT ?_;refine ss (ldO hT (bJ .head)) ?_;refine sp2 hT ?_;refine nn<|bL rfl (fun hc30=>?_) (fun hc30=>?_)
 ·have hc30:=eq_of_beq hc30;refine sr<|sp3 hT ?_;refine nn<|bF<|bB ?_;exact bO () rfl (bG rfl) (bG rfl) (.cons kT1 .nil) trivial (by first | (rw [bFw ‹_›];first | done | rfl) | (rw [bHs ‹_› (by first | exact .inl ‹_› | exact .inr ‹_›)];first | done | rfl) | (rw [bIq ‹_› ‹_› ‹_› ‹_›];first | done | rfl) | (rw [bGh ‹_› ‹_› ‹_› ‹_›];first | done | rfl))
 have hc30:=beq_eq_false_iff_ne.1 hc30;refine bN<|bC<|bA<|sr<|sp hT ?_;refine ss (ldO hT (dI .head)) ?_;refine sp hT ?_;refine nn<|bL rfl (fun hc34=>?_) (fun hc34=>?_)
 ·have hc34:=of_decide_eq_true hc34;refine sr<|sp2 hT ?_;refine nn<|bF<|bB ?_;exact bO () rfl (bG rfl) (bG rfl) (.cons kT1 .nil) trivial (by first | (rw [bFw ‹_›];first | done | rfl) | (rw [bHs ‹_› (by first | exact .inl ‹_› | exact .inr ‹_›)];first | done | rfl) | (rw [bIq ‹_› ‹_› ‹_› ‹_›];first | done | rfl) | (rw [bGh ‹_› ‹_› ‹_› ‹_›];first | done | rfl))
 have hc34:=Int.not_lt.1 (of_decide_eq_false hc34);refine bN<|bC<|sr<|sp hT ?_;refine bJm .i64 rfl rfl rfl rfl fun r2=>?_;refine qO .head rfl (.inr rfl) rfl mapInt Tryz.underlying3 rfl rfl rfl ?_;refine qO .head rfl (.inr rfl) rfl mapInt Tryz.underlying3 rfl rfl rfl ?_;refine qO .head rfl (.inr rfl) rfl mapInt Tryz.underlying3 rfl rfl rfl ?_;refine sp2 hT ?_;refine ss (ldO hT (bJ kT1)) ?_;refine ss (xX (knows_mapC .head) rfl mapInt Tryz.underlying3 zeroStr rfl rfl (marks_get _)) ?_;refine ss (gI rfl rfl rfl (by have:=bBs true it.fn;have:=bLv it.how;omega)) ?_;refine sp2 hT ?_;refine nn<|bF ?_;exact bO () rfl (bG rfl) (bG rfl) (.cons kT2 .nil) trivial (by first | (rw [bFw ‹_›];first | done | rfl) | (rw [bHs ‹_› (by first | exact .inl ‹_› | exact .inr ‹_›)];first | done | rfl) | (rw [bIq ‹_› ‹_› ‹_› ‹_›];first | done | rfl) | (rw [bGh ‹_› ‹_› ‹_› ‹_›];first | done | rfl))
set_option maxRecDepth 100000 in
theorem bAl(it:ItemV)(hn:it.name.length≤140737488355328)(hz: ∀z∈it.nums.list,-9223372036854775808≤z∧z≤9223372036854775807):dX Tryz.prog 224 [.agg #[.int .i64 it.how,.int .i64 it.at_,.int .u8 it.fn,.string (bs it.name),.slice it.nums.addr it.nums.list.length it.nums.cap]] [] [numF it,iK] (fun(x:PieceV)=> .tuple #[.agg #[.slice x.words.addr x.words.list.length x.words.cap,.int .i64 (x.nest:Nat),.int .i64 (x.tokens:Nat),.bool x.plain],.bool (operandS it.it).isSome]) (fun(x:PieceV)=>[lA.row (.slice x.words.addr x.words.list.length x.words.cap) 9 x.words.list]) (fun(x:PieceV)=>[Fact.pure (∀p,operandS it.it=some p→x.pc=p)]):=by
 have hT:=jE;refine cW Tryz.func224 rfl Tryz.ntmps224 rfl ?_;intro β hM;refine sr<|hQ rfl rfl rfl rfl rfl rfl fun b1=>?_;refine bY rfl rfl rfl rfl lK rfl fun b2=>?_;refine sp hT ?_;refine nn<|bA<|sr<|sp hT ?_;refine ss (ldO hT (bJ kT1)) ?_;refine sp hT ?_;refine nn<|bL rfl (fun hc9=>?_) (fun hc9=>?_)
 ·have hc9:=eq_of_beq hc9;refine bA<|qH _ _ (.fl 0 (.fl 1 (.fl 4 (.fl 5 (.fl 6 (.fl 7 (.fl 8 (.fl 9 (.fl 10 (.fl 11 (.fl 12 (.fl 13 (.fl 14 (.fl 15 (.two 2 16 (.fl 3 (.op 16 (.fl 17 (.op 18 (.fl 19 .nil))))) (.fl 17 (.op 2 (.fl 3 (.op 18 (.fl 19 .nil)))))))))))))))))))) dD (by decide+kernel) (.cons kT1 .nil) bI.self ?_;refine pvT hT ?_;refine sqT rfl (ldO hT (uY .head)) ?_;refine pvT hT ?_;refine sqT rfl (ldO hT (dI .head)) ?_;refine pvT hT ?_;refine pvT hT ?_;refine cF (fun hg17=>?_) (fun hg17=>?_)
  ·have hg17:=eq_of_beq hg17;refine pvT hT ?_;refine sqT rfl (ldO hT (bKf .head)) ?_;refine pvT hT ?_;refine pvT hT ?_;refine pvT hT ?_;refine pvT hT ?_;refine cF (fun hg23=>?_) (fun hg23=>?_)
   ·have hg23:=eq_of_beq hg23;refine pvT hT ?_;refine sqT rfl (ldO hT (uY .head)) ?_;refine nA (o:=_) (o':=_) rfl rfl ?_ ?_
    ·refine jH (m:=it.name) rfl rfl rfl rfl rfl fun b3=>?_;refine dA (.cons kT2 .nil) (bI.drop 0) ?_;refine sqT rfl (cC rfl rfl (fH _ _ _ _ _ _)) ?_;refine fB (o:=_) rfl ?_;refine bR Tryz.func76 (lZ _ hn) rfl rfl .nil ⟨Has.of mT1,trivial⟩ fun _=>?_;refine dA (.cons kT2 .nil) (bI.drop 0) ?_;refine pvT hT ?_;refine fB (o:=_) rfl ?_;refine sto hT kT1 ?_;refine dA (.cons kT2 .nil) (bI.drop 0) ?_;refine pvT hT ?_;refine iD<|bC<|bF<|bB<|fD (E:=lA) kT1 (by simp [maxLen]) ?_;exact bO (⟨⟨some ⟨b3,0,none⟩,_,[it.name]⟩,0,1,true⟩:PieceV) rfl (bM hT (bJ kT1) rfl rfl rfl rfl) (bG rfl) (.cons .head .nil) ⟨Has.pure (fun p hp=>mB ‹_› hp),trivial⟩ (congrArg (fun b:Bool=>Value.tuple #[_,.bool b]) (by first | exact qQ ‹_› ‹_› ‹_› | exact oQ ‹_› ‹_› | exact oS ‹_› ‹_›))
    refine bR Tryz.func76 (lZ _ hn) rfl rfl .nil ⟨Has.of mT1,trivial⟩ fun _=>?_;refine dA (.cons kT1 .nil) (bI.drop 0) ?_;refine pvT hT ?_;refine fB (o:=_) rfl ?_;refine jH (m:=it.name) rfl rfl rfl rfl rfl fun b4=>?_;refine dA (.cons kT2 .nil) (bI.drop 0) ?_;refine sqT rfl (cC rfl rfl (fH _ _ _ _ _ _)) ?_;refine fB (o:=_) rfl ?_;refine sto hT kT1 ?_;refine dA (.cons kT2 .nil) (bI.drop 0) ?_;refine pvT hT ?_;refine iD<|bC<|bF<|bB<|fD (E:=lA) kT1 (by simp [maxLen]) ?_;exact bO (⟨⟨some ⟨b4,0,none⟩,_,[it.name]⟩,0,1,true⟩:PieceV) rfl (bM hT (bJ kT1) rfl rfl rfl rfl) (bG rfl) (.cons .head .nil) ⟨Has.pure (fun p hp=>mB ‹_› hp),trivial⟩ (congrArg (fun b:Bool=>Value.tuple #[_,.bool b]) (by first | exact qQ ‹_› ‹_› ‹_› | exact oQ ‹_› ‹_› | exact oS ‹_› ‹_›))
   have hg23:=beq_eq_false_iff_ne.1 hg23;refine kP rfl rfl rfl rfl ?_;refine kP rfl rfl rfl rfl ?_;refine nA (o:=_) (o':=_) rfl rfl ?_ ?_
   ·refine jH (m:=it.name) rfl rfl rfl rfl rfl fun b5=>?_;refine dA (.cons kT2 .nil) (bI.drop 0) ?_;refine sqT rfl (cC rfl rfl (fH _ _ _ _ _ _)) ?_;refine fB (o:=_) rfl ?_;refine sk ?_;refine dA (.cons kT2 .nil) (bI.drop 0) ?_;refine pvT hT ?_;refine fB (o:=_) rfl ?_;refine sto hT kT1 ?_;refine dA (.cons kT2 .nil) (bI.drop 0) ?_;refine pvT hT ?_;refine iD<|bC<|bF<|bB<|fD (E:=lA) kT1 (by simp [maxLen]) ?_;exact bO (⟨⟨some ⟨b5,0,none⟩,_,[it.name]⟩,0,1,true⟩:PieceV) rfl (bM hT (bJ kT1) rfl rfl rfl rfl) (bG rfl) (.cons .head .nil) ⟨Has.pure (fun p hp=>mB ‹_› hp),trivial⟩ (congrArg (fun b:Bool=>Value.tuple #[_,.bool b]) (by first | exact qQ ‹_› ‹_› ‹_› | exact oQ ‹_› ‹_› | exact oS ‹_› ‹_›))
   refine sk ?_;refine dA (.cons kT1 .nil) (bI.drop 0) ?_;refine pvT hT ?_;refine fB (o:=_) rfl ?_;refine jH (m:=it.name) rfl rfl rfl rfl rfl fun b6=>?_;refine dA (.cons kT2 .nil) (bI.drop 0) ?_;refine sqT rfl (cC rfl rfl (fH _ _ _ _ _ _)) ?_;refine fB (o:=_) rfl ?_;refine sto hT kT1 ?_;refine dA (.cons kT2 .nil) (bI.drop 0) ?_;refine pvT hT ?_;refine iD<|bC<|bF<|bB<|fD (E:=lA) kT1 (by simp [maxLen]) ?_;exact bO (⟨⟨some ⟨b6,0,none⟩,_,[it.name]⟩,0,1,true⟩:PieceV) rfl (bM hT (bJ kT1) rfl rfl rfl rfl) (bG rfl) (.cons .head .nil) ⟨Has.pure (fun p hp=>mB ‹_› hp),trivial⟩ (congrArg (fun b:Bool=>Value.tuple #[_,.bool b]) (by first | exact qQ ‹_› ‹_› ‹_› | exact oQ ‹_› ‹_› | exact oS ‹_› ‹_›))
  have hg17:=beq_eq_false_iff_ne.1 hg17;refine kP rfl rfl rfl rfl ?_;refine kP rfl rfl rfl rfl ?_;refine kP rfl rfl rfl rfl ?_;refine kP rfl rfl rfl rfl ?_;refine pvT hT ?_;refine pvT hT ?_;refine kP rfl rfl rfl rfl ?_;refine kP rfl rfl rfl rfl ?_;refine nA (o:=_) (o':=_) rfl rfl ?_ ?_
  ·refine jH (m:=it.name) rfl rfl rfl rfl rfl fun b7=>?_;refine dA (.cons kT2 .nil) (bI.drop 0) ?_;refine sqT rfl (cC rfl rfl (fH _ _ _ _ _ _)) ?_;refine fB (o:=_) rfl ?_;refine sk ?_;refine dA (.cons kT2 .nil) (bI.drop 0) ?_;refine pvT hT ?_;refine fB (o:=_) rfl ?_;refine sto hT kT1 ?_;refine dA (.cons kT2 .nil) (bI.drop 0) ?_;refine pvT hT ?_;refine iD<|bC<|bF<|bB<|fD (E:=lA) kT1 (by simp [maxLen]) ?_;exact bO (⟨⟨some ⟨b7,0,none⟩,_,[it.name]⟩,0,1,true⟩:PieceV) rfl (bM hT (bJ kT1) rfl rfl rfl rfl) (bG rfl) (.cons .head .nil) ⟨Has.pure (fun p hp=>mB ‹_› hp),trivial⟩ (congrArg (fun b:Bool=>Value.tuple #[_,.bool b]) (by first | exact qQ ‹_› ‹_› ‹_› | exact oQ ‹_› ‹_› | exact oS ‹_› ‹_›))
  refine sk ?_;refine dA (.cons kT1 .nil) (bI.drop 0) ?_;refine pvT hT ?_;refine fB (o:=_) rfl ?_;refine jH (m:=it.name) rfl rfl rfl rfl rfl fun b8=>?_;refine dA (.cons kT2 .nil) (bI.drop 0) ?_;refine sqT rfl (cC rfl rfl (fH _ _ _ _ _ _)) ?_;refine fB (o:=_) rfl ?_;refine sto hT kT1 ?_;refine dA (.cons kT2 .nil) (bI.drop 0) ?_;refine pvT hT ?_;refine iD<|bC<|bF<|bB<|fD (E:=lA) kT1 (by simp [maxLen]) ?_;exact bO (⟨⟨some ⟨b8,0,none⟩,_,[it.name]⟩,0,1,true⟩:PieceV) rfl (bM hT (bJ kT1) rfl rfl rfl rfl) (bG rfl) (.cons .head .nil) ⟨Has.pure (fun p hp=>mB ‹_› hp),trivial⟩ (congrArg (fun b:Bool=>Value.tuple #[_,.bool b]) (by first | exact qQ ‹_› ‹_› ‹_› | exact oQ ‹_› ‹_› | exact oS ‹_› ‹_›))
 have hc9:=beq_eq_false_iff_ne.1 hc9;refine bN<|bC<|bA<|sr<|sp hT ?_;refine ss (ldO hT (dI kT1)) ?_;refine sp2 hT ?_;refine cF (fun hg31=>?_) (fun hg31=>?_)
 ·have hg31:=bne_iff_ne.1 hg31;refine sk3 ?_;refine sp2 hT ?_;refine sk4 ?_;refine sp2 hT ?_;refine sk4 ?_;refine sp hT ?_;refine nn<|cI rfl rfl ?_;refine sr<|ss (cC rfl rfl (gX)) ?_;refine sto hT .head ?_;refine sp hT ?_;refine nn<|bF<|bB<|dR (t:=9) lA ?_;have ho:=rZ (it:=it) ‹_› (by first | exact .inl ‹_› | exact .inr (.inl ‹_›) | exact .inr (.inr (.inl (List.eq_nil_of_length_eq_zero (by omega)))) | exact .inr (.inr (.inr (by omega))));exact bO (⟨⟨none,0,[]⟩,0,0,false⟩:PieceV) rfl (bM hT (bJ kT1) rfl rfl rfl rfl) (bG rfl) (.cons .head .nil) ⟨Has.pure (fun p hp=>by rw [ho] at hp;cases hp),trivial⟩ (by rw [ho];rfl)
 have hg31:=bne_eq_false_iff_eq.1 hg31;refine sp hT ?_;refine ss (ldO hT (uY kT1)) ?_;refine sp3 hT ?_;refine cF (fun hg36=>?_) (fun hg36=>?_)
 ·have hg36:it.name≠([]:Bs):=fun h=>by rw [h] at hg36;first | (simp at hg36;done) | exact absurd hg36 (by decide)
  refine sk4 ?_;refine sp2 hT ?_;refine sk4 ?_;refine sp hT ?_;refine nn<|cI rfl rfl ?_;refine sr<|ss (cC rfl rfl (gX)) ?_;refine sto hT .head ?_;refine sp hT ?_;refine nn<|bF<|bB<|dR (t:=9) lA ?_;have ho:=rZ (it:=it) ‹_› (by first | exact .inl ‹_› | exact .inr (.inl ‹_›) | exact .inr (.inr (.inl (List.eq_nil_of_length_eq_zero (by omega)))) | exact .inr (.inr (.inr (by omega))));exact bO (⟨⟨none,0,[]⟩,0,0,false⟩:PieceV) rfl (bM hT (bJ kT1) rfl rfl rfl rfl) (bG rfl) (.cons .head .nil) ⟨Has.pure (fun p hp=>by rw [ho] at hp;cases hp),trivial⟩ (by rw [ho];rfl)
 have hg36:it.name=([]:Bs):=eq_of_beq (fP hg36);refine sp hT ?_;refine ss (ldO hT (bKf kT1)) ?_;refine sp4 hT ?_;refine cF (fun hg42=>?_) (fun hg42=>?_)
 ·have hg42:=eq_of_beq hg42;refine sk4 ?_;refine sp hT ?_;refine nn<|cI rfl rfl ?_;refine sr<|ss (cC rfl rfl (gX)) ?_;refine sto hT .head ?_;refine sp hT ?_;refine nn<|bF<|bB<|dR (t:=9) lA ?_;have ho:=rZ (it:=it) ‹_› (by first | exact .inl ‹_› | exact .inr (.inl ‹_›) | exact .inr (.inr (.inl (List.eq_nil_of_length_eq_zero (by omega)))) | exact .inr (.inr (.inr (by omega))));exact bO (⟨⟨none,0,[]⟩,0,0,false⟩:PieceV) rfl (bM hT (bJ kT1) rfl rfl rfl rfl) (bG rfl) (.cons .head .nil) ⟨Has.pure (fun p hp=>by rw [ho] at hp;cases hp),trivial⟩ (by rw [ho];rfl)
 have hg42:=beq_eq_false_iff_ne.1 hg42;refine sp hT ?_;refine ss (ldO hT (bKf kT1)) ?_;refine sp3 hT ?_;refine nn<|bL rfl (fun hc47=>?_) (fun hc47=>?_)
 ·have hc47:=of_decide_eq_true hc47;refine sr<|ss (cC rfl rfl (gX)) ?_;refine sto hT .head ?_;refine sp hT ?_;refine nn<|bF<|bB<|dR (t:=9) lA ?_;have ho:=rZ (it:=it) ‹_› (by first | exact .inl ‹_› | exact .inr (.inl ‹_›) | exact .inr (.inr (.inl (List.eq_nil_of_length_eq_zero (by omega)))) | exact .inr (.inr (.inr (by omega))));exact bO (⟨⟨none,0,[]⟩,0,0,false⟩:PieceV) rfl (bM hT (bJ kT1) rfl rfl rfl rfl) (bG rfl) (.cons .head .nil) ⟨Has.pure (fun p hp=>by rw [ho] at hp;cases hp),trivial⟩ (by rw [ho];rfl)
 have hc47:=Int.not_lt.1 (of_decide_eq_false hc47);refine bN<|bC<|sr<|sp hT ?_;refine ss (ldO hT (bKf kT1)) ?_;refine sp hT ?_;refine ss (cC rfl rfl (oL _ _)) ?_;refine bY rfl rfl rfl rfl lK rfl fun b9=>?_;refine sto hT .head ?_;refine nn<|bA<|sr<|sp hT ?_;refine ss (ldO hT (bKf kT2)) ?_;refine sp2 hT ?_;refine nn<|bX<|dR (t:=9) lA ?_;refine dG (ι:=Nat×List Bs×Option Addr×Nat) [(2,_),(4,_),(54,_),(55,_)] ⟨rfl,rfl,rfl,rfl,trivial⟩ (fun⟨i,ws,W,cw⟩=>[(56,.int .i64 (i:Nat))]) (fun⟨i,ws,W,cw⟩=>[.obj b9 (.cells [.slice W ws.length cw,.int .i64 0,.int .i64 (it.nums.list.length:Nat),.bool true].toArray 280),lA.row (.slice W ws.length cw) 9 ws]) (fun⟨i,ws,W,cw⟩=>[Fact.pure (i≤it.nums.list.length∧ws=(it.nums.list.take i).map fZ∧ws.length=i)]) (fun⟨i,ws,W,cw⟩=>it.nums.list.length-i) (0,[],none,0) ⟨rfl,trivial⟩ (.cons kT1 (.cons .head .nil)) ⟨Has.pure (⟨by omega,rfl,rfl⟩),trivial⟩ ?_;rintro⟨i,ws,W,cw⟩;dsimp only;refine bS (Has.of mT0) fun hinv7=>?_;refine sr<|sp hT ?_;refine nn<|bA<|bL rfl (fun hc57=>?_) (fun hc57=>?_)
 ·have hc57:=of_decide_eq_true hc57;refine bN<|bC<|bA<|bX<|sr ?_
  obtain⟨x10,hx11⟩: ∃x,it.nums.list[i]?=some x:=⟨_,List.getElem?_eq_getElem (by omega)⟩
  refine ss (bU hT (k:=i) (bK (Has.of mT1)) rfl rfl rfl rfl rfl rfl rfl (by omega)) ?_;refine ss (cE hT (cN.knows (bK (Has.of mT1)) (k:=i) (x:=x10) hx11 0) rfl rfl rfl rfl rfl) ?_;refine sp hT ?_;refine nn<|pA 7 _ _ [(true,0),(true,1),(true,2),(false,3),(false,4),(false,5),(true,6)] dD (by decide+kernel) (.cons .head (.cons kT1 (.cons kT1 .nil))) bI.self ?_;refine puL hT ?_;refine stL rfl (ldO hT (bJ .head)) ?_;refine puL hT ?_;refine mK (o:=_) rfl ?_;have hr:=hz x10 (List.mem_of_getElem? hx11);refine bR Tryz.func167 (zD _ hr.1 hr.2) rfl rfl .nil ⟨Has.of mT2,trivial⟩ fun _=>?_;refine mL (.cons .head (.cons kT1 (.cons kT1 .nil))) (bI.drop 0) ?_;refine mK (o:=_) rfl ?_;refine jH (m:=(fZ x10)) rfl rfl rfl rfl rfl fun b12=>?_;refine mL (.cons kT1 (.cons kT2 (.cons kT2 .nil))) (bI.drop 0) ?_;refine mK (o:=_) rfl ?_;refine kT kT2 (dF .head rfl) rfl rfl rfl rfl rfl rfl rfl (by simp only [List.length_singleton];omega) fun A13 c14=>?_;refine mL (.cons kT2 (.cons kT2 (.cons kT2 .nil))) (bI.drop 0) ?_;refine puL hT ?_;refine mW (o:=_) rfl ?_;refine sto hT kT2 ?_;refine oZ<|cD<|bC<|bD<|sp hT ?_;refine bT (z':=(((i+1):Nat):Int)) (cP (by omega) (by omega)) ?_;refine sp hT ?_;refine nn ?_;exact cO (i+1,ws++[fZ x10],_,_) (by dsimp only;omega) ⟨rfl,trivial⟩ ⟨rfl,rfl,rfl,rfl,trivial⟩ (.cons .head (.cons .head (.cons kT1 (.cons kT1 .nil)))) ⟨Has.pure (⟨by dsimp only;omega,by rw [hinv7.2.1];exact bKc hx11,by simp;omega⟩),trivial⟩ (bI.drop 1)
 have hc57:=Int.not_lt.1 (of_decide_eq_false hc57);refine dC<|cM<|cM<|dB<|bC<|sr<|ss (ldN hT (bJ .head)) ?_;refine sto hT kT2 ?_;refine sp hT ?_;refine nn<|bF ?_;have ho:=operand_nums (it:=it) ‹_› ‹_› ‹_› ‹_› ‹_›;have hw:ws=it.nums.list.map fZ:=by rw [hinv7.2.1,List.take_of_length_le (by omega)]
 exact bO (⟨⟨_,_,ws⟩,0,it.nums.list.length,true⟩:PieceV) rfl (bM hT (bJ .head) rfl rfl rfl rfl) (bG rfl) (.cons kT2 .nil) ⟨Has.pure (fun p hp=>by rw [ho] at hp;cases hp;rw [hw];rfl),trivial⟩ (by rw [ho];rfl)
end Go.Proofs.YtbgdphbebhjpiaaGreatDoor
