/- Texts of one proof, one behind the other: MixL, ExprA, ExprP, ExprB. -/
import Derived.Test.YtbgdphbebhjpiaaGreatDoorM1
import Derived.Test.YtbgdphbebhjpiaaGreatDoorM3
namespace Go.Proofs.YtbgdphbebhjpiaaGreatDoor
open Go.RowKit
section
variable {P : Program} {ops : Array Oper} {md : Region.Mode} {C : World → Prop} {R : Array Bool → Act → World → Prop}
def bIb (P:Program)(md:Region.Mode)(ops:Array Oper)(C:World→Prop)(R:Array Bool→Act→World→Prop):Nat→Array Bool→Act→World→Prop
  | 0,listed,a,w=>C w∧R listed a w
  | fuel+1,listed,a,w=>C w∧Region.ready md ops listed≠[]∧ ∀i∈Region.ready md ops listed,fOp P ops i (bIb P md ops C R fuel (listed.setIfInBounds i true)) a w
theorem rJ{Q:Exit→Act→World→Prop}(hR: ∀listed a w,R listed a w→wpAny P md ops Q 1 listed a w): ∀(fuel:Nat) (listed:Array Bool) (a:Act) (w:World),bIb P md ops C R fuel listed a w→wpAny P md ops Q (fuel+1) listed a w
  | 0,_,_,_,h=>hR _ _ _ h.2
  | fuel+1,listed,a,w,h=>by
    refine⟨fun e=>absurd e h.2.1,fun i hi=>?_⟩;have hf:=h.2.2 i hi;unfold wpOp;split
    · rename_i ho;obtain⟨_,oi,hoi,_⟩:=mem_ready.1 hi;rw [ho] at hoi;cases hoi
    · rename_i o ho;have h1:=wpNm (hf o ho);split
      · rename_i hw;simp only [hw,if_true] at h1;exact .inl (vF rfl (fun u w' h'=>rJ hR fuel _ _ _ h') (fun d w' h'=>rJ hR fuel _ _ _ h') h1)
      · rename_i hw;simp only [hw] at h1;exact rJ hR fuel _ _ _ h1
def depsIn(md:Region.Mode)(ops:Array Oper)(listed:Array Bool)(l:Nat):Prop:= ∀o,ops[l]?=some o→ ∀e∈o.after,Region.binds md e=true→listed.getD e.on false=true
def qZ (md:Region.Mode)(ops:Array Oper)(listed:Array Bool):Prop:= ∀j,listed.getD j false=true→depsIn md ops listed j
def waitsN(md:Region.Mode)(ops:Array Oper):Nat→Nat→Nat→Bool
  | 0,_,_=>false
  | n+1,l,i=>match ops[l]? with
    | some o=>o.after.any fun e=>Region.binds md e&&(e.on==i || waitsN md ops n e.on i)
    | none=>false
def waits (md:Region.Mode)(ops:Array Oper)(l i:Nat):Bool:=waitsN md ops 4 l i
theorem bNh{listed:Array Bool}(hc:qZ md ops listed): ∀(n l i:Nat),waitsN md ops n l i=true→depsIn md ops listed l→listed.getD i false=true
  | 0,_,_,h,_=>by cases h
  | n+1,l,i,h,hd=>by
    unfold waitsN at h
    cases ho:ops[l]? with
    | none=>rw [ho] at h;cases h
    | some o=>
      rw [ho] at h;obtain⟨e,he,hb⟩:=Array.any_eq_true'.1 h;rw [Bool.and_eq_true,Bool.or_eq_true] at hb;have h1:=hd o ho e he hb.1
      rcases hb.2 with h2 | h2
      · have h2:e.on=i:=by simpa using h2
        rw [←h2];exact h1
      · exact bNh hc n e.on i h2 (hc _ h1)
theorem bGc{listed:Array Bool}{l:Nat}(h:l∈Region.ready md ops listed):depsIn md ops listed l:=fun o ho e he hb=>by
  obtain⟨_,o',ho',hall⟩:=mem_ready.1 h;have:o=o':=Option.some.inj (ho.symm.trans ho');subst this;exact hall e he hb
theorem waits_not{l i:Nat}{listed:Array Bool}(hc:qZ md ops listed)(h:waits md ops l i=true)(hi:listed.getD i false≠true):l∉Region.ready md ops listed:=fun hl=>hi (bNh hc 4 l i h (bGc hl))
theorem getD_set{listed:Array Bool}{j k:Nat}(h:listed.getD k false=true):(listed.setIfInBounds j true).getD k false=true:=by
  by_cases e:j=k
  · subst e
    rcases Nat.lt_or_ge j listed.size with h' | h'
    · simp [h']
    · simp [Array.getElem?_eq_none h'] at h
  · rw [getD_set_ne false e];exact h
theorem qZ.set{listed:Array Bool}(hc:qZ md ops listed){j:Nat}(hj:j∈Region.ready md ops listed):qZ md ops (listed.setIfInBounds j true):=fun k hk o ho e he hb=>by
  by_cases e':j=k
  · subst e';exact getD_set (bGc hj o ho e he hb)
  · rw [getD_set_ne false e'] at hk;exact getD_set (hc k hk o ho e he hb)
theorem qZ.none{n:Nat}:qZ md ops (Array.replicate n false):=fun j hj=>by
  simp at hj
  rcases Nat.lt_or_ge j n with h | h<;>simp [h] at hj
theorem wpAnyR_first{i l:Nat}{oi:Oper}{v:Value}(hi:ops[i]?=some oi)(hw:waits md ops l i=true)(hsel: ∀(j:Nat) (o:Oper) cs b,ops[j]?=some o→o.op≠ .select cs b)(hR: ∀listed a w,R listed a w→Region.ready md ops listed=[l]):
    ∀(fuel:Nat) (listed:Array Bool) (a:Act) (w:World),qZ md ops listed→
      (∀j oj,ops[j]?=some oj→j≠i→listed.getD j true=false→(∀e∈oj.after,Region.binds md e=true→e.on≠i)→oi.apart ops oj=true)→
      i∈Region.ready md ops listed→Fl P ops C oi v a→
      bIb P md ops C R fuel (listed.setIfInBounds i true) (a.put oi.dst v) w→bIb P md ops C R (fuel+1) listed a w:=by
  have hun: ∀{listed:Array Bool},i∈Region.ready md ops listed→listed.getD i false≠true:=fun{listed} hr e=>by
    have h0:=(mem_ready.1 hr).1
    rcases Nat.lt_or_ge i listed.size with h' | h'
    · simp [h'] at h0 e;rw [h0] at e;cases e
    · simp [Array.getElem?_eq_none h'] at e
  intro fuel
  induction fuel with
  | zero=>
    intro listed a w hc _ hr hy H;refine⟨H.1,fun h=>(by rw [h] at hr;cases hr),fun j hj=>?_⟩
    by_cases hji:j=i
    · subst hji;exact hy.fOp hi H.1 H
    · have h1:=ready_mono hj hji;rw [hR _ _ _ H.2] at h1;have h2:j=l:=by simpa using h1
      subst h2;exact absurd hj (waits_not hc hw (hun hr))
  | succ fuel ih=>
    intro listed a w hc hfree hr hy H;refine⟨H.1,fun h=>(by rw [h] at hr;cases hr),fun j hj=>?_⟩
    by_cases hji:j=i
    · subst hji;exact hy.fOp hi H.1 H
    · have h1:=H.2.2 j (ready_mono hj hji);obtain⟨hjun,oj,hoj,hall⟩:=mem_ready.1 hj
      have hnot: ∀e∈oj.after,Region.binds md e=true→e.on≠i:=fun e he hb heq=>by
        have h1:=hall e he hb;rw [heq] at h1;exact hun hr h1
      have h2:=fOp_put hoj (hfree j oj hoj hji hjun hnot) (fun cs b=>hsel i oi cs b hi) (fun cs b=>hsel j oj cs b hoj) hy h1;have hfree': ∀k ok,ops[k]?=some ok→k≠i→(listed.setIfInBounds j true).getD k true=false→
          (∀e∈ok.after,Region.binds md e=true→e.on≠i)→oi.apart ops ok=true:=fun k ok hk hki hun hno=>by
        refine hfree k ok hk hki ?_ hno
        by_cases hjk:j=k
        · subst hjk;exact hjun
        · rw [getD_set_ne true hjk] at hun;exact hun
      refine rL (fun a' w' h3=>ih (listed.setIfInBounds j true) a' w' (hc.set hj) hfree' (ready_mono hr (Ne.symm hji)) h3.1 ?_) h2;rw [Array.setIfInBounds_comm _ _ hji];exact h3.2
def mK (P:Program)(ops:Array Oper)(C:World→Prop)(Q:Exit→Act→World→Prop)(l:Nat):List (Bool×Nat)→Act→World→Prop
  | [],a,w=>fOp P ops l (Q .normal) a w
  | (true,k)::r,a,w=> ∃o v,ops[k]?=some o∧Fl P ops C o v a∧mK P ops C Q l r (a.put o.dst v) w
  | (false,k)::r,a,w=>fOp P ops k (fun a w=>C w∧mK P ops C Q l r a w) a w
def bHs (md:Region.Mode)(ops:Array Oper)(l:Nat):List (Bool×Nat)→Array Bool→Bool
  | [],listed=>(Region.ready md ops listed==[l])&&(Region.ready md ops (listed.setIfInBounds l true)).isEmpty
  | (true,k)::r,listed=>(Region.ready md ops listed).contains k&&Region.free md ops listed k&&waits md ops l k&&bHs md ops l r (listed.setIfInBounds k true)
  | (false,k)::r,listed=>(Region.ready md ops listed==[k])&&bHs md ops l r (listed.setIfInBounds k true)
def EndL (P:Program)(md:Region.Mode)(ops:Array Oper)(Q:Exit→Act→World→Prop)(l:Nat)(listed:Array Bool)(a:Act)(w:World):Prop:=
  Region.ready md ops listed=[l]∧Region.ready md ops (listed.setIfInBounds l true)=[]∧fOp P ops l (Q .normal) a w
theorem tW{Q:Exit→Act→World→Prop}{l:Nat}(hs:Region.noSelect ops=true): ∀(od:List (Bool×Nat)) (listed:Array Bool) (a:Act) (w:World),qZ md ops listed→bHs md ops l od listed=true→C w→mK P ops C Q l od a w→bIb P md ops C (EndL P md ops Q l) od.length listed a w
  | [],listed,a,w,_,hB,hC,h=>by
    simp only [bHs,Bool.and_eq_true,beq_iff_eq] at hB;exact⟨hC,hB.1,by simpa using hB.2,h⟩
  | (true,k)::r,listed,a,w,hc,hB,hC,h=>by
    simp only [bHs,Bool.and_eq_true] at hB;obtain⟨o,v,ho,hy,hK⟩:=h;exact wpAnyR_first ho hB.1.2 (Region.noSelect_spec hs) (fun _ _ _ h=>h.1) r.length listed a w hc (Region.free_spec ho hB.1.1.2) (by simpa using hB.1.1.1) hy (tW hs r _ _ _ (hc.set (by simpa using hB.1.1.1)) hB.2 hC hK)
  | (false,k)::r,listed,a,w,hc,hB,hC,h=>by
    simp only [bHs,Bool.and_eq_true,beq_iff_eq] at hB;refine⟨hC,fun h0=>(by rw [hB.1] at h0;cases h0),fun i hi=>?_⟩;rw [hB.1] at hi;have:i=k:=by simpa using hi
    subst this;exact rL (fun a' w' h'=>tW hs r _ _ _ (hc.set (by rw [hB.1];simp)) hB.2 h'.1 h'.2) h
theorem end_any{Q:Exit→Act→World→Prop}{l:Nat}(listed:Array Bool)(a:Act)(w:World)(h:EndL P md ops Q l listed a w):wpAny P md ops Q 1 listed a w:=by
  refine⟨fun e=>(by rw [h.1] at e;cases e),fun i hi=>?_⟩;rw [h.1] at hi;have:i=l:=by simpa using hi
  subst this;have hf:=h.2.2;unfold wpOp;split
  · rename_i ho;have hl:i∈Region.ready md ops listed:=by rw [h.1];simp
    obtain⟨_,oi,hoi,_⟩:=mem_ready.1 hl;rw [ho] at hoi;cases hoi
  · rename_i o ho;have h1:=wpNm (hf o ho);split
    · rename_i hw;simp only [hw,if_true] at h1;exact .inl (vF rfl (fun u w' h'=>⟨h.2.1,h'⟩) (fun d w' h'=>⟨h.2.1,h'⟩) h1)
    · rename_i hw;simp only [hw] at h1;exact⟨h.2.1,h1⟩
def mixLOk(l:Nat)(od:List (Bool×Nat))(ops:Array Oper):Bool:=Region.noSelect ops&&Nat.beq (od.length+1) ops.size&&bHs .any ops l od (Array.replicate ops.size false)
end
section
variable {P : Program} {β : fG} {n : Nat} {Γ : Env} {H : List bW} {F : List Fact} {Q : Exit → Act → World → Prop} {Hk : List bW} {F0 : List Fact} {ops : Array Oper}
theorem qP{id:Nat}{l:List Oper}(last:Nat)(Hk:List bW)(F0:List Fact)(od:List (Bool×Nat))(hm:P.follows .mixedOrders=true)(hB:mixLOk last od l.toArray=true)(hH:Sel H Hk)(hF:bF F F0)
    (h:At β n Γ H F (mK P l.toArray (StF β Hk F0) Q last od)):At β n Γ H F ((Code.region id l.toArray true).wp P Q):=fun a w S f s k=>by
  simp only [mixLOk,Bool.and_eq_true] at hB;have hw:=StF.drew ⟨S,s,k⟩;obtain⟨S',s',k'⟩:=hw;refine wp_region_any hm ?_;have h1:=tW (P:=P) (md:= .any) (C:=StF β Hk F0) (Q:=Q) hB.1.1 od (Array.replicate l.toArray.size false) a _ qZ.none hB.2 (StF.sel hH hF ⟨S',s',k'⟩) (h a _ S' f s' k');have h2:=rJ (Q:=Q) end_any _ _ _ _ h1
  rwa [Nat.eq_of_beq_eq_true hB.1.2] at h2
theorem atl_sti{r:List (Bool×Nat)}{o:Oper}{l k d:Nat}{v:Value}(hk:ops[k]?=some o)(hw:want ops Γ o=some true)(hd:o.dst=some d)(hn:Nat.blt d n=true)(h:Sti P β n Γ Hk F0 o v)
    (K:At β n ((d,v)::Γ) H F (mK P ops (StF β Hk F0) Q l r)):At β n Γ H F (mK P ops (StF β Hk F0) Q l ((true,k)::r)):=fun a w S f s hF=>by
  refine⟨o,v,hk,.inl ⟨f.want hw,fun w' ⟨S',s',k'⟩=>h a w' S' f s' k'⟩,?_⟩;rw [hd];exact K _ _ S (f.put (by simpa [Nat.blt_eq] using hn) v) s hF
theorem stL{r:List (Bool×Nat)}{o:Oper}{l k d:Nat}{v:Value}(hk:ops[k]?=some o)(h:Sti P β n Γ Hk F0 o v)(K:At β n ((d,v)::Γ) H F (mK P ops (StF β Hk F0) Q l r))(hw:want ops Γ o=some true:=by exact rfl)(hd:o.dst=some d:=by exact rfl)(hn:Nat.blt d n=true:=by exact rfl):At β n Γ H F (mK P ops (StF β Hk F0) Q l ((true,k)::r)):=atl_sti hk hw hd hn h K
theorem puL{r:List (Bool×Nat)}{o:Oper}{l k d:Nat}{v:Value}{T:Tab}(hT:gA P T)(K:At β n ((d,v)::Γ) H F (mK P ops (StF β Hk F0) Q l r))(hk:ops[k]?=some o:=by exact rfl)(hw:want ops Γ o=some true:=by exact rfl)(hd:o.dst=some d:=by exact rfl)(hn:Nat.blt d n=true:=by exact rfl)(h:mN T Γ o.op=some v:=by exact rfl):At β n Γ H F (mK P ops (StF β Hk F0) Q l ((true,k)::r)):=atl_sti hk hw hd hn (fun _ w _ f _ _=>uM hT f h w) K
theorem jK{r:List (Bool×Nat)}{o:Oper}{l k:Nat}{C:World→Prop}(hk:ops[k]?=some o)(h:At β n Γ H F (wpList P ops (Nm fun a w=>C w∧mK P ops C Q l r a w) [o])):At β n Γ H F (mK P ops C Q l ((false,k)::r)):=fun a w S f s hF o' ho'=>by
  have:o'=o:=Option.some.inj (ho'.symm.trans hk);subst this;exact h a w S f s hF
theorem jL{r:List (Bool×Nat)}{l:Nat}(hH:Sel H Hk)(hF:bF F F0)(h:At β n Γ H F (mK P ops (StF β Hk F0) Q l r)):At β n Γ H F (wpList P ops (Nm fun a w=>StF β Hk F0 w∧mK P ops (StF β Hk F0) Q l r a w) []):=fun a w S f s k=>
  ⟨rfl,StF.sel hH hF ⟨S,s,k⟩,h a w S f s k⟩
theorem lF{o:Oper}{l:Nat}{C:World→Prop}(hk:ops[l]?=some o)(h:At β n Γ H F (wpList P ops (Nm (Q .normal)) [o])):At β n Γ H F (mK P ops C Q l []):=fun a w S f s hF o' ho'=>by
  have:o'=o:=Option.some.inj (ho'.symm.trans hk);subst this;exact h a w S f s hF
theorem nH{K:Act→World→Prop}(h:At β n Γ H F K):At β n Γ H F (wpList P ops (Nm K) []):=fun a w S f s k=>⟨rfl,h a w S f s k⟩
end
end Go.Proofs.YtbgdphbebhjpiaaGreatDoor
namespace Go.Proofs.YtbgdphbebhjpiaaGreatDoor
open Go.RowKit
abbrev kZ:=Option (Nat×ItemV)
def fnV (b4:Nat):kZ→Value
  | none=> .nilFunc
  | some x=> .func (.func 139) #[] #[.pointer (some ⟨b4,0,none⟩),.pointer (some ⟨x.1,0,none⟩)]
def fnE (b4:Nat):Flat kZ where
  size:=1
  cells:=fun x=>[fnV b4 x]
  len:=fun _=>rfl
  one:=fun x u hu=>by
    simp at hu;subst hu;cases x<;>rfl
  pos:=by decide
theorem fnInfo: ∃i:TypeInfo,Tryz.prog.info? 1=some i∧i.zero=some .nilFunc∧i.size=1∧i.bytes=8:=by
  have h:(Tryz.prog.info? 1).map (fun i=>(i.zero,i.size,i.bytes))=some (some .nilFunc,1,8):=by kernel_rfl
  cases hi:Tryz.prog.info? 1 with
  | none=>simp [hi] at h
  | some i=>simp [hi] at h;exact⟨i,rfl,h.1,h.2.1,h.2.2⟩
section
variable {β : fG} {n : Nat} {Γ : Env} {H : List bW} {F : List Fact} {Q : Exit → Act → World → Prop} {ops : Array Oper} {rest : List Oper} {o : Oper} {d : Nat}
theorem bBi{b4:Nat}{x:Operand}{m:kZ}(hw:want ops Γ o=some true)(ho:o.op= .buildSlice 208 1 #[(0,x)])(hd:o.dst=some d)(hn:Nat.blt d n=true)
    (hx:Γ.ev x=some (fnV b4 m)) (k: ∀b,At β n ((d,.slice (some ⟨b,0,none⟩) 1 1)::Γ) (.obj b (.cells ((fnE b4).all [m]).toArray 1)::H) F (wpList Tryz.prog ops Q rest)):At β n Γ H F (wpList Tryz.prog ops Q (o::rest)):=by
  obtain⟨i,hi,hz,hs,_⟩:=fnInfo;refine kI hw ho hd hn hx Tryz.underlying208 hi hz (by omega) (by omega) ?_ k;rw [hs];cases m<;>kernel_rfl
theorem bCo{b4:Nat}{x y:Operand}{c q:Nat}{v:Value}{A:Option Addr}{xs ys:List kZ}{H':List bW}(hH:dM H ((fnE b4).row v 1 xs) H')(hr:cR β H F (fnE b4) A ys)(hg:o.guard=none)
    (ho:o.op= .call {callee:= .builtin .append,args:= #[x,y],argTypes:= #[208,208]}) (hd:o.dst=some d) (hn:Nat.blt d n=true)
    (hx:Γ.ev x=some v) (hy:Γ.ev y=some (.slice A q c)) (hq:q=ys.length) (hl:xs.length+ys.length≤10000000)
    (k: ∀A' cap',At β n ((d,.slice A' (xs++ys).length cap')::Γ) ((fnE b4).row (.slice A' (xs++ys).length cap') 1 (xs++ys)::H') F (wpList Tryz.prog ops Q rest)):At β n Γ H F (wpList Tryz.prog ops Q (o::rest)):=by
  obtain⟨i,hi,hz,hs,hb⟩:=fnInfo;exact gP hH hr hg ho hd hn Tryz.underlying208 hi hz hs hb rfl hx hy hq (by omega) (by decide) k
end
def lU (st:List kZ):Fact:=Fact.each st fun o=>match o with
  | none=>Fact.true
  | some x=>Fact.cells x.1 0 (lL.cells x.2)
def finP:List kZ→List ItemV×List kZ
  | some x::r=>(x.2::(finP r).1,(finP r).2)
  | none::r=>([],none::r)
  | []=>([],[])
theorem itemZ:(Tryz.prog.info? 47).bind (·.zero)=some (.slice none 0 0):=by kernel_rfl
theorem funcZ:(Tryz.prog.info? 208).bind (·.zero)=some (.slice none 0 0):=by kernel_rfl
theorem bBs{x:kZ}{r:List kZ}:(x::r).reverse[(r.length+1)-1]?=some x:=by
  simp
theorem bCn{x:kZ}{r:List kZ}:(x::r).reverse.take ((r.length+1)-1)=r.reverse:=by
  simp
theorem jQ(x:kZ)(r:List kZ):(x::r).reverse.length=r.length+1:=by simp
section
variable {F : List Fact} {x : Nat × ItemV} {o : kZ} {r : List kZ}
theorem todo_head(h:Has F (lU (some x::r))):Has F (Fact.cells x.1 0 (lL.cells x.2)):=fun S w k=>h S w k (some x) (List.mem_cons_self ..)
theorem bBj(h:Has F (lU (o::r))):Has F (lU r):=fun S w k y hy=>h S w k y (List.mem_cons_of_mem _ hy)
theorem todo_nil:Has F (lU []):=fun _ _ _ y hy=>by simp at hy
theorem todo_none(h:Has F (lU r)):Has F (lU (none::r)):=fun S w k y hy=>by
  rcases List.mem_cons.1 hy with rfl | hy
  · trivial
  · exact h S w k y hy
theorem bMg(hx:Has F (Fact.cells x.1 0 (lL.cells x.2)))(h:Has F (lU r)):Has F (lU (some x::r)):=fun S w k y hy=>by
  rcases List.mem_cons.1 hy with rfl | hy
  · exact hx S w k
  · exact h S w k y hy
end
def qK (p:Phr):ItemV:=⟨p.how,p.at_,p.fn,[],⟨none,0,[]⟩⟩
set_option maxRecDepth 100000 in
theorem push_spec(b4 bi:Nat)(C:Option Addr)(e:Nat)(out:List ItemV)(it:ItemV)(ho:out.length≤1000000):dH Tryz.prog 139 [.pointer (some ⟨b4,0,none⟩),.pointer (some ⟨bi,0,none⟩)] [.obj b4 (.cells [.slice C out.length e].toArray 47),lL.row (.slice C out.length e) 52 out] [Fact.cells bi 0 (lL.cells it)] (fun(_:Option Addr×Nat)=> .tuple #[]) (fun(x:Option Addr×Nat)=>[.obj b4 (.cells [.slice x.1 (out++[it]).length x.2].toArray 47),lL.row (.slice x.1 (out++[it]).length x.2) 52 (out++[it])]) (fun _=>[]):=by
  have hT:=fH;refine cQ Tryz.func139 rfl Tryz.ntmps139 rfl ?_;intro β hM;refine bE<|ss (ldO hT (bL .head)) ?_;refine ss (dP hT (iQ (Has.of mT0)) rfl rfl rfl rfl rfl) ?_;refine wE (m:=it) rfl rfl rfl rfl rfl fun b1=>?_;refine wD kT2 (dF .head rfl) rfl rfl rfl rfl rfl rfl rfl (by simp only [List.length_singleton];omega) fun A2 c3=>?_;refine sto hT kT2 ?_;refine dU ?_;exact uE (A2,c3) rfl (.cons .head (.cons .head .nil)) trivial (rfl)
set_option maxRecDepth 100000 in
theorem oC(b5 b4:Nat)(D:Option Addr)(f:Nat)(st0:List kZ)(C:Option Addr)(e:Nat)(out0:List ItemV)(hs:out0.length+st0.length≤100000):dH Tryz.prog 136 [.pointer (some ⟨b5,0,none⟩)] [.obj b5 (.cells [.slice D st0.reverse.length f].toArray 208),(fnE b4).row (.slice D st0.reverse.length f) 1 st0.reverse,.obj b4 (.cells [.slice C out0.length e].toArray 47),lL.row (.slice C out0.length e) 52 out0] [lU st0] (fun(_:(Option Addr×Nat)×(Option Addr×Nat))=> .tuple #[]) (fun(x:(Option Addr×Nat)×(Option Addr×Nat))=>[.obj b5 (.cells [.slice x.1.1 (finP st0).2.reverse.length x.1.2].toArray 208),(fnE b4).row (.slice x.1.1 (finP st0).2.reverse.length x.1.2) 1 (finP st0).2.reverse,.obj b4 (.cells [.slice x.2.1 (out0++(finP st0).1).length x.2.2].toArray 47),lL.row (.slice x.2.1 (out0++(finP st0).1).length x.2.2) 52 (out0++(finP st0).1)]) (fun _=>[lU (finP st0).2]):=by
  have hT:=fH;refine cQ Tryz.func136 rfl Tryz.ntmps136 rfl ?_;intro β hM;refine bT<|dD (ι:=List kZ×List ItemV×Option Addr×Nat×Option Addr×Nat) [(0,_)] ⟨rfl,trivial⟩ (fun _=>[]) (fun⟨st,out,D,f,C,e⟩=>[.obj b5 (.cells [.slice D st.reverse.length f].toArray 208),(fnE b4).row (.slice D st.reverse.length f) 1 st.reverse,.obj b4 (.cells [.slice C out.length e].toArray 47),lL.row (.slice C out.length e) 52 out]) (fun⟨st,out,D,f,C,e⟩=>[Fact.pure (out0++(finP st0).1=out++(finP st).1∧(finP st0).2=(finP st).2∧out.length+st.length≤100000),lU st]) (fun⟨st,out,D,f,C,e⟩=>st.length) (st0,out0,D,f,C,e) trivial (.cons .head (.cons .head (.cons .head (.cons .head .nil)))) ⟨Has.pure (⟨rfl,rfl,hs⟩),Has.of mT0,trivial⟩ ?_;rintro⟨st,out,D,f,C,e⟩;dsimp only;refine cD (Has.of mT0) fun hinv0=>?_;refine bA<|bA ?_
  rcases st with _ | ⟨_ | ⟨b,it⟩,r⟩
  · skip
    refine bE<|ss (ldO hT (bL .head)) ?_;refine sp3 hT ?_;refine cF (fun hg4=>?_) (fun hg4=>?_)
    · have hg4:=of_decide_eq_true hg4;simp at hg4
    have hg4:=Int.not_lt.1 (of_decide_eq_false hg4);refine sk4 ?_;refine sk3 ?_;refine sp hT ?_;refine nn<|cN rfl rfl ?_;refine cW<|cM<|cM<|cX ?_;have e1:(finP st0).2=[]:=hinv0.2.1;have e2:out0++(finP st0).1=out:=by rw [hinv0.1];simp [finP]
    rw [e1,e2];exact uE ((D,f),(C,e)) rfl (.cons .head (.cons .head (.cons .head (.cons .head .nil)))) ⟨Has.of mT1,trivial⟩ (rfl)
  · have hsl:r.length≤100000:=by have:=hinv0.2.2;simp at this;omega
    refine bE<|ss (ldO hT (bL .head)) ?_;refine sp hT ?_;refine bP (z':=(((r.length+1):Nat):Int)) (congrArg Nat.cast (jQ _ r)) ?_;refine sp2 hT ?_;refine cF (fun hg4=>?_) (fun hg4=>?_)
    · have hg4:=of_decide_eq_true hg4;refine ss (ldO hT (bL .head)) ?_;refine ss (ldO hT (bL .head)) ?_;refine sp hT ?_;refine bP (z':=(((r.length+1):Nat):Int)) (congrArg Nat.cast (jQ _ r)) ?_;refine sp hT ?_;refine bP (z':=((((r.length+1)-1):Nat):Int)) (cL (by omega) (by omega)) ?_;refine ss (bS hT (k:=((r.length+1)-1)) (cJ kT1) rfl rfl rfl rfl rfl rfl rfl (by rw [jQ];omega)) ?_;refine ss (bZ hT (cR.knows (cJ kT1) (k:=((r.length+1)-1)) (x:=(none:kZ)) bBs 0) rfl rfl rfl rfl rfl) ?_;refine ss (sti_nofn Tryz.underlying1 rfl rfl) ?_;refine sp hT ?_;refine nn<|cN rfl rfl ?_;refine cW<|cM<|cM<|cX ?_;have e1:(finP st0).2=(none:kZ)::r:=hinv0.2.1;have e2:out0++(finP st0).1=out:=by rw [hinv0.1];simp [finP]
      rw [e1,e2];exact uE ((D,f),(C,e)) rfl (.cons .head (.cons .head (.cons .head (.cons .head .nil)))) ⟨Has.of mT1,trivial⟩ (rfl)
    have hg4:=Int.not_lt.1 (of_decide_eq_false hg4);omega
  have hsl:r.length≤100000:=by have:=hinv0.2.2;simp at this;omega
  have hol:out.length≤100000:=by have:=hinv0.2.2;omega
  refine bE<|ss (ldO hT (bL .head)) ?_;refine sp hT ?_;refine bP (z':=(((r.length+1):Nat):Int)) (congrArg Nat.cast (jQ _ r)) ?_;refine sp2 hT ?_;refine cF (fun hg4=>?_) (fun hg4=>?_)
  · have hg4:=of_decide_eq_true hg4;refine ss (ldO hT (bL .head)) ?_;refine ss (ldO hT (bL .head)) ?_;refine sp hT ?_;refine bP (z':=(((r.length+1):Nat):Int)) (congrArg Nat.cast (jQ _ r)) ?_;refine sp hT ?_;refine bP (z':=((((r.length+1)-1):Nat):Int)) (cL (by omega) (by omega)) ?_;refine ss (bS hT (k:=((r.length+1)-1)) (cJ kT1) rfl rfl rfl rfl rfl rfl rfl (by rw [jQ];omega)) ?_;refine ss (bZ hT (cR.knows (cJ kT1) (k:=((r.length+1)-1)) (x:=(some (b,it):kZ)) bBs 0) rfl rfl rfl rfl rfl) ?_;refine ss (sti_fn Tryz.underlying1 rfl rfl) ?_;refine sp hT ?_;refine nn<|cI rfl rfl ?_;refine bK<|bB<|bT<|sr<|ss (ldO hT (bL .head)) ?_;refine ss (ldO hT (bL .head)) ?_;refine sp hT ?_;refine bP (z':=(((r.length+1):Nat):Int)) (congrArg Nat.cast (jQ _ r)) ?_;refine sp hT ?_;refine bP (z':=((((r.length+1)-1):Nat):Int)) (cL (by omega) (by omega)) ?_;refine ss (bS hT (k:=((r.length+1)-1)) (cJ kT1) rfl rfl rfl rfl rfl rfl rfl (by rw [jQ];omega)) ?_;refine ss (bZ hT (cR.knows (cJ kT1) (k:=((r.length+1)-1)) (x:=(some (b,it):kZ)) bBs 0) rfl rfl rfl rfl rfl) ?_;refine gZ (cS Tryz.func139 rfl rfl) (push_spec b4 b _ _ out it (by omega)) rfl rfl rfl rfl rfl rfl rfl (.cons kT2 (.cons kT2 .nil)) ⟨todo_head (Has.of mT1),trivial⟩ fun⟨C1,e2⟩=>?_;refine nn<|bE<|ss (ldO hT (bL kT2)) ?_;refine ss (ldO hT (bL kT2)) ?_;refine sp hT ?_;refine bP (z':=(((r.length+1):Nat):Int)) (congrArg Nat.cast (jQ _ r)) ?_;refine sp hT ?_;refine bP (z':=((((r.length+1)-1):Nat):Int)) (cL (by omega) (by omega)) ?_;refine jR hT (k:=((r.length+1)-1)) kT3 rfl rfl rfl rfl rfl rfl rfl rfl rfl (by rw [jQ];omega) ?_;rw [bCn];refine sto hT kT3 ?_;refine dU<|cA<|bB<|bV (lU r) (bBj (Has.of mT1)) ?_;exact cP (r,_,_,_,_,_) (by dsimp only;simp) trivial ⟨rfl,trivial⟩ (.cons .head (.cons .head (.cons .head (.cons .head .nil)))) ⟨Has.pure (⟨by rw [hinv0.1];simp [finP],by rw [hinv0.2.1];rfl,by have:=hinv0.2.2;simp at*;omega⟩),Has.of mT0,trivial⟩ (bF.drop 3)
  have hg4:=Int.not_lt.1 (of_decide_eq_false hg4);omega
set_option maxRecDepth 100000 in
theorem oB(bl:Nat)(A:Option Addr)(c:Nat)(toks:List TokV)(k:Nat)(e:Int)(b1 b5 b4:Nat)(D:Option Addr)(f:Nat)(st:List kZ)(hk:k≤1000000)(hs:st.length≤100000):dH Tryz.prog 137 [.bool true,.pointer (some ⟨b1,0,none⟩),.pointer (some ⟨b5,0,none⟩),.pointer (some ⟨b4,0,none⟩)] [.obj bl (.cells [.slice A toks.length c,.int .i64 (k:Nat),.int .i64 e].toArray 102),.obj b1 (.cells [.pointer (some ⟨bl,0,none⟩)].toArray 100),.obj b5 (.cells [.slice D st.reverse.length f].toArray 208),(fnE b4).row (.slice D st.reverse.length f) 1 st.reverse] [lC.sl (.slice A toks.length c) toks,lU st] (fun(_:(Option Addr×Nat)×Nat)=> .agg #[.int .i64 (bU toks (k) e true).flt.1,.int .i64 (bU toks (k) e true).flt.2]) (fun(x:(Option Addr×Nat)×Nat)=>[.obj bl (.cells [.slice A toks.length c,.int .i64 ((bU toks (k) e true).next:Nat),.int .i64 e].toArray 102),.obj b1 (.cells [.pointer (some ⟨bl,0,none⟩)].toArray 100),.obj b5 (.cells [.slice x.1.1 (some (x.2,(qK (bU toks (k) e true)))::st).reverse.length x.1.2].toArray 208),(fnE b4).row (.slice x.1.1 (some (x.2,(qK (bU toks (k) e true)))::st).reverse.length x.1.2) 1 (some (x.2,(qK (bU toks (k) e true)))::st).reverse]) (fun(x:(Option Addr×Nat)×Nat)=>[lU (some (x.2,(qK (bU toks (k) e true)))::st)]):=by
  have hT:=fH;refine cQ Tryz.func137 rfl Tryz.ntmps137 rfl ?_;intro β hM;refine sr<|cE rfl rfl rfl rfl yC rfl fun b1=>?_;refine nn<|sr<|ss (ldO hT (bL kT2)) ?_;refine sp hT ?_;refine bO Tryz.func138 (phraseT_spec bl A c toks (k) e (by omega)) rfl rfl (.cons kT1 .nil) ⟨Has.of mT0,trivial⟩ fun _=>?_;refine sp3 hT ?_;refine cE rfl rfl rfl rfl lZ rfl fun b2=>?_;refine cE rfl rfl rfl rfl yC rfl fun b3=>?_;refine sto hT kT1 ?_;refine sto hT kT1 ?_;refine nn<|sr<|ss (ldO hT (bL kT5)) ?_;refine sp hT ?_;refine bBi (b4:=b4) (m:=(some (b2,(qK (bU toks (k) e true))):kZ)) rfl rfl rfl rfl rfl fun b4=>?_;refine bCo kT7 (dF .head rfl) rfl rfl rfl rfl rfl rfl rfl (by simp only [List.length_singleton,List.length_reverse];omega) fun A5 c6=>?_;rw [←List.reverse_cons];refine sto hT kT7 ?_;refine nn<|sr<|ss (ldN hT (bL kT3)) ?_;refine sto hT kT6 ?_;refine nn<|bG<|iV kT5 ?_;exact bR ((A5,c6),b2) rfl (bN hT (bL .head) rfl rfl rfl rfl) (.cons kT5 (.cons kT5 (.cons kT1 (.cons kT1 .nil)))) ⟨bMg (Has.of mT0) (Has.of mT2),trivial⟩ (rfl)
set_option maxRecDepth 100000 in
theorem laterF_spec(bl:Nat)(A:Option Addr)(c:Nat)(toks:List TokV)(k:Nat)(e:Int)(b1 b5 b4:Nat)(D:Option Addr)(f:Nat)(st:List kZ)(hk:k≤1000000)(hs:st.length≤100000):dH Tryz.prog 137 [.bool false,.pointer (some ⟨b1,0,none⟩),.pointer (some ⟨b5,0,none⟩),.pointer (some ⟨b4,0,none⟩)] [.obj bl (.cells [.slice A toks.length c,.int .i64 (k:Nat),.int .i64 e].toArray 102),.obj b1 (.cells [.pointer (some ⟨bl,0,none⟩)].toArray 100),.obj b5 (.cells [.slice D st.reverse.length f].toArray 208),(fnE b4).row (.slice D st.reverse.length f) 1 st.reverse] [lC.sl (.slice A toks.length c) toks,lU st] (fun(_:(Option Addr×Nat)×Nat)=> .agg #[.int .i64 (bU toks (k) e false).flt.1,.int .i64 (bU toks (k) e false).flt.2]) (fun(x:(Option Addr×Nat)×Nat)=>[.obj bl (.cells [.slice A toks.length c,.int .i64 ((bU toks (k) e false).next:Nat),.int .i64 e].toArray 102),.obj b1 (.cells [.pointer (some ⟨bl,0,none⟩)].toArray 100),.obj b5 (.cells [.slice x.1.1 (some (x.2,(qK (bU toks (k) e false)))::st).reverse.length x.1.2].toArray 208),(fnE b4).row (.slice x.1.1 (some (x.2,(qK (bU toks (k) e false)))::st).reverse.length x.1.2) 1 (some (x.2,(qK (bU toks (k) e false)))::st).reverse]) (fun(x:(Option Addr×Nat)×Nat)=>[lU (some (x.2,(qK (bU toks (k) e false)))::st)]):=by
  have hT:=fH;refine cQ Tryz.func137 rfl Tryz.ntmps137 rfl ?_;intro β hM;refine sr<|cE rfl rfl rfl rfl yC rfl fun b1=>?_;refine nn<|sr<|ss (ldO hT (bL kT2)) ?_;refine sp hT ?_;refine bO Tryz.func138 (phraseF_spec bl A c toks (k) e (by omega)) rfl rfl (.cons kT1 .nil) ⟨Has.of mT0,trivial⟩ fun _=>?_;refine sp3 hT ?_;refine cE rfl rfl rfl rfl lZ rfl fun b2=>?_;refine cE rfl rfl rfl rfl yC rfl fun b3=>?_;refine sto hT kT1 ?_;refine sto hT kT1 ?_;refine nn<|sr<|ss (ldO hT (bL kT5)) ?_;refine sp hT ?_;refine bBi (b4:=b4) (m:=(some (b2,(qK (bU toks (k) e false))):kZ)) rfl rfl rfl rfl rfl fun b4=>?_;refine bCo kT7 (dF .head rfl) rfl rfl rfl rfl rfl rfl rfl (by simp only [List.length_singleton,List.length_reverse];omega) fun A5 c6=>?_;rw [←List.reverse_cons];refine sto hT kT7 ?_;refine nn<|sr<|ss (ldN hT (bL kT3)) ?_;refine sto hT kT6 ?_;refine nn<|bG<|iV kT5 ?_;exact bR ((A5,c6),b2) rfl (bN hT (bL .head) rfl rfl rfl rfl) (.cons kT5 (.cons kT5 (.cons kT1 (.cons kT1 .nil)))) ⟨bMg (Has.of mT0) (Has.of mT2),trivial⟩ (rfl)
end Go.Proofs.YtbgdphbebhjpiaaGreatDoor
namespace Go.Proofs.YtbgdphbebhjpiaaGreatDoor
open Go.RowKit
structure dN where
  how:Int
  at_:Int
  fn:Int
  name:Bs
  nums:List Int
  deriving Inhabited,DecidableEq
def ItemV.it(x:ItemV):dN:=⟨x.how,x.at_,x.fn,x.name,x.nums.list⟩
def Phr.it(p:Phr):dN:=⟨p.how,p.at_,p.fn,[],[]⟩
abbrev Stk:=List (Option dN)
def xM (st:List kZ):Stk:=st.map fun o=>o.map fun x=>x.2.it
def jA:Stk→List dN×Stk
  | some x::r=>(x::(jA r).1,(jA r).2)
  | none::r=>([],none::r)
  | []=>([],[])
theorem wV: ∀st:List kZ,(finP st).1.map ItemV.it=(jA (xM st)).1∧xM (finP st).2=(jA (xM st)).2
  | []=>⟨rfl,rfl⟩
  | none::r=>⟨rfl,rfl⟩
  | some x::r=>by
    obtain⟨h1,h2⟩:=wV r;exact⟨by simp [finP,jA,xM] at*;exact h1,h2⟩
def opens:List kZ→Nat
  | []=>0
  | none::r=>opens r+1
  | some _::r=>opens r
theorem uD: ∀st:List kZ,(finP st).1.length+(finP st).2.length=st.length
  | []=>rfl
  | none::r=>by simp [finP]
  | some x::r=>by have:=uD r;simp [finP];omega
theorem fin_open{st:List kZ}(h:0<opens st): ∃r,(finP st).2=none::r∧opens r+1=opens st:=by
  induction st with
  | nil=>simp [opens] at h
  | cons o st ih=>
    cases o with
    | none=>exact⟨st,rfl,rfl⟩
    | some x=>exact ih h
section
variable (toks : List TokV) (e : Int)
def fW (k:Nat):List Int:=((toks.drop k).takeWhile fun t=>t.kind==2).map (·.n)
def isOk (f:Flt):Bool:=mW ⟨f.1,f.2⟩ ⟨0,0⟩
abbrev qH:=List dN×Flt
def sS (rec:Nat→List dN→Stk→Nat→qH)(o k:Nat)(out:List dN)(st:Stk):qH:=
  if (bQ toks k).kind=4 then (if 0<o then ([],(atP toks k e,42)) else (out++(jA st).1,(0,0)))
  else if (bQ toks k).kind=2∨pS (bQ toks k).word=false then ([],(atP toks k e,46))
  else if isOk (bU toks k e true).flt then rec (bU toks k e true).next out (some (bU toks k e true).it::st) o else ([],(bU toks k e true).flt)
def nI (rec:Nat→List dN→Stk→Nat→qH):Nat→Nat→List dN→Stk→qH
  | 0,k,out,st=>sS toks e rec 0 k out st
  | o+1,k,out,st=>if (bQ toks k).kind=3∧(bQ toks k).word=[41] then nI rec o (k+1) (out++(jA st).1) (jA st).2.tail else sS toks e rec (o+1) k out st
def sD (k:Nat):dN:=⟨1,(bQ toks k).at_,0,[],fW toks k⟩
def lA (k:Nat):dN:=⟨2,(bQ toks k).at_,0,(bQ toks k).word,[]⟩
def iX:Nat→Nat→List dN→Stk→Nat→qH
  | 0,_,_,_,_=>([],(0,0))
  | f+1,k,out,st,o=>
    if (bQ toks k).kind≠2∧(bQ toks k).kind≠4∧pS (bQ toks k).word=true then
      if isOk (bU toks k e false).flt then iX f (bU toks k e false).next out (some (bU toks k e false).it::st) o else ([],(bU toks k e false).flt)
    else if (bQ toks k).kind=3∧(bQ toks k).word=[40] then
      if o=32 then ([],(atP toks k e,44)) else iX f (k+1) out (none::st) (o+1)
    else if (bQ toks k).kind=2 then nI toks e (iX f) o (k+(fW toks k).length) (out++[sD toks k]) st
    else if (bQ toks k).kind=1∧dW (bQ toks k).word=true then nI toks e (iX f) o (k+1) (out++[lA toks k]) st
    else if (bQ toks k).kind=1 then ([],(atP toks k e,41)) else ([],(atP toks k e,42))
def iK (k:Nat):qH:=iX toks e (toks.length+1) k [] [] 0
def xX (r:qH)(k:Nat)(out:List dN)(st:Stk)(o:Nat):Prop:=k≤toks.length∧ ∃f,toks.length+1≤f+k∧iX toks e f k out st o=r
def tQ (r:qH)(k:Nat)(out:List dN)(st:Stk)(o:Nat):Prop:=k≤toks.length∧ ∃f,toks.length+1≤f+k∧nI toks e (iX toks e f) o k out st=r
end
theorem iP{toks:List TokV}{k:Nat}(h:(bQ toks k).kind≠4):k<toks.length:=by
  rcases Nat.lt_or_ge k toks.length with h' | h'
  · exact h'
  · rw [xV h'] at h;exact absurd rfl h
theorem mB{toks:List TokV}{k:Nat}(h:(bQ toks k).kind=2):fW toks k=(bQ toks k).n::fW toks (k+1):=by
  have hk:=iP (toks:=toks) (k:=k) (by rw [h];decide);have e:toks[k]?=some toks[k]:=List.getElem?_eq_getElem hk;rw [qX e] at h⊢;unfold fW;rw [List.drop_eq_getElem_cons hk,List.takeWhile_cons_of_pos (by simpa using h)];rfl
theorem pZ{toks:List TokV}{k:Nat}(h:(bQ toks k).kind≠2):fW toks k=[]:=by
  unfold fW
  rcases Nat.lt_or_ge k toks.length with hk | hk
  · have e:toks[k]?=some toks[k]:=List.getElem?_eq_getElem hk;rw [qX e] at h;rw [List.drop_eq_getElem_cons hk,List.takeWhile_cons_of_neg (by simpa using h)];rfl
  · rw [List.drop_of_length_le hk];rfl
theorem nums_le(toks:List TokV)(k:Nat):(fW toks k).length≤toks.length-k:=by
  unfold fW;rw [List.length_map];have:=(List.takeWhile_sublist (fun t:TokV=>t.kind==2) (l:=toks.drop k)).length_le
  simpa using this
theorem dR(toks:List TokV)(k:Nat)(e:Int)(b:Bool):k+1≤(bU toks k e b).next∧(bU toks k e b).next≤k+2:=by
  unfold bU;split
  · split
    · exact⟨by simp,by simp⟩
    · exact⟨by simp,by simp⟩
  · exact⟨by simp,by simp⟩
theorem xA{toks:List TokV}{k:Nat}{e:Int}{b:Bool}(h:k<toks.length):(bU toks k e b).next≤toks.length:=by
  unfold bU;split
  · rename_i h3;have:=iP (toks:=toks) (k:=k+1) (by rw [h3.1];decide);split<;>(simp only;omega)
  · simp only;omega
theorem bracket_verb:pS [40]=false:=by decide
theorem name_verb{s:Bs}(h:dW s=true):pS s=false:=by
  unfold dW at h;simp only [Bool.and_eq_true,Bool.not_eq_true'] at h;exact h.1
section
variable {toks : List TokV} {e : Int} {r : qH} {k o : Nat} {out : List dN} {st : Stk}
theorem bAi(h:k≤toks.length):xX toks e (iK toks e k) k [] [] 0:=⟨h,toks.length+1,by omega,rfl⟩
theorem e_verb(h:xX toks e r k out st o)(h2:(bQ toks k).kind≠2)(h4:(bQ toks k).kind≠4)(hv:pS (bQ toks k).word=true):
    (isOk (bU toks k e false).flt=true→xX toks e r (bU toks k e false).next out (some (bU toks k e false).it::st) o)∧(isOk (bU toks k e false).flt=false→r=([],(bU toks k e false).flt)):=by
  obtain⟨hk,f,hf,h⟩:=h;have hlt:=iP h4
  obtain⟨f,rfl⟩: ∃g,f=g+1:=⟨f-1,by omega⟩
  rw [iX,if_pos ⟨h2,h4,hv⟩] at h;have:=dR toks k e false;refine⟨fun hi=>?_,fun hi=>?_⟩
  · rw [if_pos hi] at h;exact⟨xA hlt,f,by omega,h⟩
  · rw [if_neg (by rw [hi];simp)] at h;exact h.symm
theorem bCb(h:xX toks e r k out st o)(h3:(bQ toks k).kind=3)(hw:(bQ toks k).word=[40]):
    (o≠32→xX toks e r (k+1) out (none::st) (o+1))∧(o=32→r=([],(atP toks k e,44))):=by
  obtain⟨hk,f,hf,h⟩:=h;have hlt:=iP (toks:=toks) (k:=k) (by rw [h3];decide)
  obtain⟨f,rfl⟩: ∃g,f=g+1:=⟨f-1,by omega⟩
  rw [iX,if_neg (by rw [hw,bracket_verb];simp),if_pos ⟨h3,hw⟩] at h;refine⟨fun hi=>?_,fun hi=>?_⟩
  · rw [if_neg hi] at h;exact⟨hlt,f,by omega,h⟩
  · rw [if_pos hi] at h;exact h.symm
theorem e_num(h:xX toks e r k out st o)(h2:(bQ toks k).kind=2):tQ toks e r (k+(fW toks k).length) (out++[sD toks k]) st o:=by
  obtain⟨hk,f,hf,h⟩:=h;have hlt:=iP (toks:=toks) (k:=k) (by rw [h2];decide)
  obtain⟨f,rfl⟩: ∃g,f=g+1:=⟨f-1,by omega⟩
  rw [iX,if_neg (by rw [h2];simp),if_neg (by rw [h2];simp),if_pos h2] at h;have h1:=nums_le toks k;have h3:=mB h2;have h4:1≤(fW toks k).length:=by rw [h3];simp
  exact⟨by omega,f,by omega,h⟩
theorem e_name(h:xX toks e r k out st o)(h1:(bQ toks k).kind=1)(hn:dW (bQ toks k).word=true):tQ toks e r (k+1) (out++[lA toks k]) st o:=by
  obtain⟨hk,f,hf,h⟩:=h;have hlt:=iP (toks:=toks) (k:=k) (by rw [h1];decide)
  obtain⟨f,rfl⟩: ∃g,f=g+1:=⟨f-1,by omega⟩
  rw [iX,if_neg (by rw [name_verb hn];simp),if_neg (by rw [h1];simp),if_neg (by rw [h1];simp),if_pos ⟨h1,hn⟩] at h;exact⟨by omega,f,by omega,h⟩
theorem e_word(h:xX toks e r k out st o)(h1:(bQ toks k).kind=1)(hv:pS (bQ toks k).word=false)(hn:dW (bQ toks k).word=false):r=([],(atP toks k e,41)):=by
  obtain⟨hk,f,hf,h⟩:=h;have hlt:=iP (toks:=toks) (k:=k) (by rw [h1];decide)
  obtain⟨f,rfl⟩: ∃g,f=g+1:=⟨f-1,by omega⟩
  rw [iX,if_neg (by rw [hv];simp),if_neg (by rw [h1];simp),if_neg (by rw [h1];simp),if_neg (by rw [hn];simp),if_pos h1] at h;exact h.symm
theorem e_want(h:xX toks e r k out st o)(h1:(bQ toks k).kind≠1)(h2:(bQ toks k).kind≠2)(hv:(bQ toks k).kind=4∨pS (bQ toks k).word=false)(hw:(bQ toks k).kind≠3∨(bQ toks k).word≠[40]):r=([],(atP toks k e,42)):=by
  obtain⟨hk,f,hf,h⟩:=h
  obtain⟨f,rfl⟩: ∃g,f=g+1:=⟨f-1,by omega⟩
  rw [iX,if_neg (by rcases hv with hv | hv<;>simp [hv]),if_neg (by rcases hw with hw | hw<;>simp [hw]),if_neg h2,if_neg (by simp [h1]),if_neg h1] at h;exact h.symm
theorem bFl(h:tQ toks e r k out st o)(ho:0<o)(h3:(bQ toks k).kind=3)(hw:(bQ toks k).word=[41]):tQ toks e r (k+1) (out++(jA st).1) (jA st).2.tail (o-1):=by
  obtain⟨hk,f,hf,h⟩:=h;have hlt:=iP (toks:=toks) (k:=k) (by rw [h3];decide)
  obtain⟨o,rfl⟩: ∃g,o=g+1:=⟨o-1,by omega⟩
  rw [nI,if_pos ⟨h3,hw⟩] at h;exact⟨hlt,f,by omega,h⟩
theorem b_rest(h:tQ toks e r k out st o)(hn:o=0∨(bQ toks k).kind≠3∨(bQ toks k).word≠[41]):k≤toks.length∧ ∃f,toks.length+1≤f+k∧sS toks e (iX toks e f) o k out st=r:=by
  obtain⟨hk,f,hf,h⟩:=h;refine⟨hk,f,hf,?_⟩
  cases o with
  | zero=>exact h
  | succ o=>
    rw [nI,if_neg (by
      rintro⟨a,b⟩
      rcases hn with hn | hn | hn
      · omega
      · exact hn a
      · exact hn b)] at h
    exact h
theorem bJp(h:tQ toks e r k out st o)(h4:(bQ toks k).kind=4)(ho:0<o):r=([],(atP toks k e,42)):=by
  obtain⟨_,f,_,h⟩:=b_rest h (.inr (.inl (by rw [h4];decide)));rw [sS,if_pos h4,if_pos ho] at h;exact h.symm
theorem r_end(h:tQ toks e r k out st o)(h4:(bQ toks k).kind=4)(ho: ¬0<o):r=(out++(jA st).1,(0,0)):=by
  obtain⟨_,f,_,h⟩:=b_rest h (.inr (.inl (by rw [h4];decide)));rw [sS,if_pos h4,if_neg ho] at h;exact h.symm
theorem sM(h:tQ toks e r k out st o)(hn:o=0∨(bQ toks k).kind≠3∨(bQ toks k).word≠[41])(h4:(bQ toks k).kind≠4)(hm:(bQ toks k).kind=2∨pS (bQ toks k).word=false):r=([],(atP toks k e,46)):=by
  obtain⟨_,f,_,h⟩:=b_rest h hn;rw [sS,if_neg h4,if_pos hm] at h;exact h.symm
theorem pG(h:tQ toks e r k out st o)(hn:o=0∨(bQ toks k).kind≠3∨(bQ toks k).word≠[41])(h4:(bQ toks k).kind≠4)(h2:(bQ toks k).kind≠2)(hv:pS (bQ toks k).word=true):
    (isOk (bU toks k e true).flt=true→xX toks e r (bU toks k e true).next out (some (bU toks k e true).it::st) o)∧(isOk (bU toks k e true).flt=false→r=([],(bU toks k e true).flt)):=by
  obtain⟨_,f,hf,h⟩:=b_rest h hn;have hlt:=iP h4;rw [sS,if_neg h4,if_neg (by rw [hv];simp [h2])] at h;have:=dR toks k e true;refine⟨fun hi=>?_,fun hi=>?_⟩
  · rw [if_pos hi] at h;exact⟨xA hlt,f,by omega,h⟩
  · rw [if_neg (by rw [hi];simp)] at h;exact h.symm
end
end Go.Proofs.YtbgdphbebhjpiaaGreatDoor
namespace Go.Proofs.YtbgdphbebhjpiaaGreatDoor
open Go.RowKit
def numF (it:ItemV):Fact:=cT.sl (.slice it.nums.addr it.nums.list.length it.nums.cap) it.nums.list
def mI (l:List ItemV):Fact:=Fact.each l numF
def tnF (st:List kZ):Fact:=Fact.each st fun o=>match o with
  | none=>Fact.true
  | some x=>numF x.2
section
variable {F : List Fact} {b : Nat} {it : ItemV} {o : kZ} {l : List ItemV} {st : List kZ}
theorem tn_none(h:Has F (tnF st)):Has F (tnF (none::st)):=Has.each_cons Has.true h
theorem uN(h:Has F (tnF st))(hx:Has F (numF it)):Has F (tnF (some (b,it)::st)):=Has.each_cons hx h
theorem bFo(h:Has F (tnF (o::st))):Has F (tnF st):=Has.each_tail h
theorem bHf(h:Has F (mI l))(hx:Has F (numF it)):Has F (mI (l++[it])):=Has.each_snoc h hx
theorem sR(hn:Has F (mI l))(h:Has F (tnF st)):Has F (mI (l++(finP st).1)):=by
  induction st generalizing l with
  | nil=>rw [finP,List.append_nil];exact hn
  | cons o st ih=>
    cases o with
    | none=>rw [finP,List.append_nil];exact hn
    | some x=>
      have:=ih (bHf hn (fun S w k=>h S w k (some x) (List.mem_cons_self ..))) (bFo h);rw [List.append_assoc] at this;exact this
theorem bBh(h:Has F (tnF st)):Has F (tnF (finP st).2):=by
  induction st with
  | nil=>exact h
  | cons o st ih=>
    cases o with
    | none=>exact h
    | some x=>exact ih (bFo h)
end
section
variable {toks : List TokV} {e : Int} {r : qH} {k o : Nat} {out : List ItemV} {st s2 : List kZ}
theorem b_num{s:Stk}(h:xX toks e r k (out.map ItemV.it) s o)(h2:(bQ toks k).kind=2){j:Nat}{cur:List Int}{C:Option Addr}{c:Nat}(hj:j=k+cur.length)(hc:fW toks k=cur):
    tQ toks e r j ((out++[(⟨1,(bQ toks k).at_,0,[],⟨C,c,cur⟩⟩:ItemV)]).map ItemV.it) s o:=by
  have:=e_num h h2;subst hc;subst hj;rw [List.map_append];exact this
theorem b_name{s:Stk}(h:xX toks e r k (out.map ItemV.it) s o)(h1:(bQ toks k).kind=1)(hn:dW (bQ toks k).word=true):
    tQ toks e r (k+1) ((out++[(⟨2,(bQ toks k).at_,0,(bQ toks k).word,⟨none,0,[]⟩⟩:ItemV)]).map ItemV.it) s o:=by
  rw [List.map_append];exact e_name h h1 hn
theorem b_closed(h:tQ toks e r k (out.map ItemV.it) (xM st) o)(ho:0<o)(h3:(bQ toks k).kind=3)(hw:(bQ toks k).word=[41])(hs:(finP st).2=none::s2):
    tQ toks e r (k+1) ((out++(finP st).1).map ItemV.it) (xM s2) (o-1):=by
  have h1:=bFl h ho h3 hw;rw [←(wV st).2,hs] at h1;rw [List.map_append,(wV st).1];exact h1
theorem bFi(h:tQ toks e r k (out.map ItemV.it) (xM st) o)(h4:(bQ toks k).kind=4)(ho: ¬0<o):r=((out++(finP st).1).map ItemV.it,(0,0)):=by
  rw [List.map_append,(wV st).1];exact r_end h h4 ho
end
theorem sX(z0:Int)(z1:Int)(s3:ByteArray):Tryz.prog.built 52 [(0,.int .i64 z0),(1,.int .i64 z1),(3,.string s3)]=some #[.int .i64 z0,.int .i64 z1,.int .u8 0,.string s3,.slice none 0 0]:=by kernel_rfl
set_option maxRecDepth 100000 in
theorem bNg(bl:Nat)(A:Option Addr)(c:Nat)(toks:List TokV)(k0:Nat)(e:Int)(hk:k0≤toks.length)(hl:toks.length≤1000)(hw: ∀k,(bQ toks k).word.length≤65536):dH Tryz.prog 77 [.pointer (some ⟨bl,0,none⟩)] [.obj bl (.cells [.slice A toks.length c,.int .i64 (k0:Nat),.int .i64 e].toArray 102)] [lC.sl (.slice A toks.length c) toks,iA] (fun(x:Option Addr×Nat×List ItemV×Nat)=> .tuple #[.slice x.1 x.2.2.1.length x.2.1,.agg #[.int .i64 (iK toks e k0).2.1,.int .i64 (iK toks e k0).2.2]]) (fun(x:Option Addr×Nat×List ItemV×Nat)=>[.obj bl (.cells [.slice A toks.length c,.int .i64 (x.2.2.2:Nat),.int .i64 e].toArray 102)]) (fun(x:Option Addr×Nat×List ItemV×Nat)=>[lL.sl (.slice x.1 x.2.2.1.length x.2.1) x.2.2.1,mI x.2.2.1,Fact.pure (x.2.2.1.map ItemV.it=(iK toks e k0).1)]):=by
  have hT:=fH;have he0:=bAi (e:=e) hk;generalize iK toks e k0=r at he0⊢;refine cQ Tryz.func77 rfl Tryz.ntmps77 rfl ?_;intro β hM;refine sr<|fL rfl rfl rfl rfl rfl rfl fun b1=>?_;refine sp hT ?_;refine cE rfl rfl rfl rfl yC rfl fun b2=>?_;refine nn<|sr<|cE rfl rfl rfl rfl itemZ rfl fun b4=>?_;refine nn<|sr<|cE rfl rfl rfl rfl funcZ rfl fun b5=>?_;refine nn<|sr<|sp hT ?_;refine nn<|sr<|sp2 hT ?_;refine nn<|sr<|sp2 hT ?_;refine nn<|bT<|dQ (t:=52) lL ?_;refine dQ (t:=1) (fnE b4) ?_;refine bV (mI []) (Has.each_nil) ?_;refine bV (tnF []) (Has.each_nil) ?_;refine bV (lU []) (todo_nil) ?_;refine dD (ι:=Nat×Nat×List ItemV×List kZ×Option Addr×Nat×Option Addr×Nat) [(1,_),(3,_),(4,_),(5,_),(7,_),(8,_)] ⟨rfl,rfl,rfl,rfl,rfl,rfl,trivial⟩ (fun⟨k,o,out,st,C,e1,D,f⟩=>[(6,.int .i64 (o:Nat))]) (fun⟨k,o,out,st,C,e1,D,f⟩=>[.obj bl (.cells [.slice A toks.length c,.int .i64 (k:Nat),.int .i64 e].toArray 102),.obj b4 (.cells [.slice C out.length e1].toArray 47),lL.row (.slice C out.length e1) 52 out,.obj b5 (.cells [.slice D st.reverse.length f].toArray 208),(fnE b4).row (.slice D st.reverse.length f) 1 st.reverse]) (fun⟨k,o,out,st,C,e1,D,f⟩=>[Fact.pure (xX toks e r k (out.map ItemV.it) (xM st) o∧opens st=o∧o≤32∧out.length+st.length≤k∧k≤toks.length),lU st,tnF st,mI out]) (fun⟨k,o,out,st,C,e1,D,f⟩=>toks.length-k) (k0,0,[],[],none,0,none,0) ⟨rfl,trivial⟩ (.cons kT6 (.cons kT3 (.cons kT1 (.cons kT1 (.cons .head .nil))))) ⟨Has.pure (⟨he0,rfl,by omega,by simp,hk⟩),Has.of mT0,Has.of mT1,Has.of mT2,trivial⟩ ?_;rintro⟨k,o,out,st,C,e1,D,f⟩;dsimp only;refine cD (Has.of mT0) fun hinv6=>?_;refine bT<|sr<|ss (ldO hT (bL kT6)) ?_;refine bO Tryz.func73 (iD bl A c toks (k) e) rfl rfl (.cons .head .nil) ⟨Has.of mT7,trivial⟩ fun _=>?_;refine cE rfl rfl rfl rfl wC rfl fun b3=>?_;refine sto hT .head ?_;refine nn<|bA<|bT<|sr<|sp hT ?_;refine ss (ldO hT (bL .head)) ?_;refine sp2 hT ?_;refine cF (fun hg23=>?_) (fun hg23=>?_)
  · have hg23:=bne_iff_ne.1 hg23;refine sp hT ?_;refine ss (ldO hT (bL .head)) ?_;refine sp3 hT ?_;refine cF (fun hg28=>?_) (fun hg28=>?_)
    · have hg28:=bne_iff_ne.1 hg28;refine sp hT ?_;refine ss (ldO hT (fE .head)) ?_;refine bO Tryz.func135 (nS _) rfl rfl .nil trivial fun _=>?_;refine sp2 hT ?_;refine nn<|bH rfl (fun hc19=>?_) (fun hc19=>?_)
      · refine bA<|sr<|sp hT ?_;refine gZ (cS Tryz.func137 rfl rfl) (laterF_spec bl A c toks (k) e b1 b5 b4 _ _ st (by omega) (by omega)) rfl rfl rfl rfl rfl rfl rfl (.cons kT1 (.cons kT6 (.cons kT3 (.cons kT3 .nil)))) ⟨(Has.of mT7),(Has.of mT1),trivial⟩ fun⟨⟨A4,c5⟩,b6⟩=>?_;refine bV (tnF (some (b6,(qK (bU toks (k) e false)))::st)) (uN (Has.of mT3) dO) ?_;refine cE rfl rfl rfl rfl yC rfl fun b7=>?_;refine sto hT .head ?_;refine nn<|sr<|ss (ldN hT (bL .head)) ?_;refine ss (bY rfl rfl (vU)) ?_;refine ss (fD ⟨(bU toks (k) e false).flt.1,(bU toks (k) e false).flt.2⟩ ⟨0,0⟩ rfl rfl rfl) ?_;refine nn<|bH rfl (fun hc37=>?_) (fun hc37=>?_)
        · have hc37:=gC hc37;refine bA<|cU _ _ [(true,0),(true,1),(false,2)] cY (by decide+kernel) (.cons .head (.cons .head (.cons .head (.cons .head (.cons .head (.cons .head (.cons .head (.cons .head .nil)))))))) bF.self ?_;refine stM rfl (ldN hT (bL .head)) ?_;refine puM hT ?_;refine cC (o:=_) rfl ?_;refine sto hT kT8 ?_;refine cB (.cons kT1 (.cons kT1 (.cons kT1 (.cons kT1 (.cons kT1 (.cons kT1 (.cons kT1 (.cons kT1 .nil)))))))) (bF.drop 0) ?_;refine cK<|bB<|bG<|bC<|bI<|bC<|bI<|bC<|bI ?_;have hr:=(e_verb hinv6.1 (by assumption) (by assumption) (by assumption)).2 hc37;subst hr;exact bM (none,0,[],_) rfl (bD rfl) (bN hT (bL .head) rfl rfl rfl rfl) (.cons kT2 .nil) ⟨dO,Has.each_nil,Has.pure rfl,trivial⟩ rfl
        have hc37:=fN hc37;have he:=(e_verb hinv6.1 (by assumption) (by assumption) (by assumption)).1 hc37;refine bK<|bB<|cW<|bJd rfl ?_;refine cM<|cX<|bB ?_;exact cP ((bU toks (k) e false).next,o,out,(some (b6,(qK (bU toks (k) e false)))::st),_,_,_,_) (by have:=he.1;first | (have:=dR toks k e false;dsimp only;omega) | (have:=dR toks k e true;dsimp only;omega)) ⟨rfl,trivial⟩ ⟨rfl,rfl,rfl,rfl,rfl,rfl,trivial⟩ (.cons kT1 (.cons kT5 (.cons kT5 (.cons kT2 (.cons kT2 (.cons kT3 (.cons kT1 .nil))))))) ⟨Has.pure (⟨he,hinv6.2.1,hinv6.2.2.1,by have:=dR toks k e false;first | omega | (simp;omega),he.1⟩),Has.of mT1,Has.of mT0,Has.of mT5,trivial⟩ (bF.drop 6)
      refine sr<|sp hT ?_;refine ss (ldO hT (bL .head)) ?_;refine sp2 hT ?_;refine cF (fun hg43=>?_) (fun hg43=>?_)
      · have hg43:=eq_of_beq hg43;refine sp hT ?_;refine ss (ldO hT (fE .head)) ?_;refine sp3 hT ?_;refine nn<|bH rfl (fun hc39=>?_) (fun hc39=>?_)
        · have hc39:(bQ toks (k)).word=([40]:Bs):=eq_of_beq hc39;refine bA<|sr<|sp2 hT ?_;refine nn<|bH rfl (fun hc49=>?_) (fun hc49=>?_)
          · have hc49:=eq_of_beq hc49;refine sr<|ss (ldO hT (bL kT7)) ?_;refine bO Tryz.func74 (cV bl A c toks (k) e _) rfl rfl (.cons kT1 .nil) ⟨Has.of mT7,trivial⟩ fun _=>?_;refine sp hT ?_;refine sto hT kT6 ?_;refine nn<|bG<|bC<|bI<|bC<|bI<|bC<|bI ?_;have hr:=(bCb hinv6.1 (by assumption) (by assumption)).2 (by omega);subst hr;exact bM (none,0,[],_) rfl (bD rfl) (bN hT (bL .head) rfl rfl rfl rfl) (.cons kT1 .nil) ⟨dO,Has.each_nil,Has.pure rfl,trivial⟩ rfl
          have hc49:=beq_eq_false_iff_ne.1 hc49;have he:=(bCb hinv6.1 (by assumption) (by assumption)).1 (by omega);refine bK<|bB<|sr<|sp2 hT ?_;refine bP (z':=(((o+1):Nat):Int)) (cL (by omega) (by omega)) ?_;refine sp hT ?_;refine nn<|sr<|ss (ldO hT (bL kT7)) ?_;refine sp2 hT ?_;refine ss (ldO hT (dB kT1)) ?_;refine sp hT ?_;refine bP (z':=(((k+1):Nat):Int)) (cL (by omega) (by omega)) ?_;refine sp2 hT ?_;refine sto hT kT1 ?_;refine nn<|sr<|ss (ldO hT (bL kT4)) ?_;refine bBi (b4:=b4) (m:=(none:kZ)) rfl rfl rfl rfl rfl fun b8=>?_;refine bCo kT6 (dF .head rfl) rfl rfl rfl rfl rfl rfl rfl (by simp only [List.length_singleton,List.length_reverse];omega) fun A9 c10=>?_;rw [←List.reverse_cons];refine bV (lU (none::st)) (todo_none (Has.of mT1)) ?_;refine bV (tnF (none::st)) (tn_none (Has.of mT3)) ?_;refine sto hT kT6 ?_;refine nn<|cW<|bJd rfl ?_;refine cM<|cX<|bB ?_;exact cP ((k+1),(o+1),out,(none::st),_,_,_,_) (by have:=he.1;first | (have:=dR toks k e false;dsimp only;omega) | (have:=dR toks k e true;dsimp only;omega)) ⟨rfl,trivial⟩ ⟨rfl,rfl,rfl,rfl,rfl,rfl,trivial⟩ (.cons kT3 (.cons kT4 (.cons kT4 (.cons .head (.cons .head (.cons kT2 (.cons kT2 .nil))))))) ⟨Has.pure (⟨he,by show opens st+1=_;rw [hinv6.2.1],by dsimp only;omega,by first | omega | (simp;omega),he.1⟩),Has.of mT1,Has.of mT0,Has.of mT5,trivial⟩ (bF.drop 6)
        have hc39:(bQ toks (k)).word≠([40]:Bs):=fun h=>absurd (beq_iff_eq.2 h) (by rw [show((bQ toks (k)).word==([40]:Bs))=false from hc39];simp);refine sr<|sp hT ?_;refine ss (ldO hT (bL .head)) ?_;refine sp hT ?_;refine cH (t':=false) (by rw [hg43];rfl) ?_;refine sp hT ?_;refine nn<|cN rfl rfl ?_;refine sr<|sp hT ?_;refine ss (ldO hT (bL .head)) ?_;refine sp hT ?_;refine cH (t':=false) (by rw [hg43];rfl) ?_;refine sp hT ?_;refine sk3 ?_;refine sp2 hT ?_;refine nn<|cN rfl rfl ?_;refine sr<|sp hT ?_;refine ss (ldO hT (bL .head)) ?_;refine sp hT ?_;refine cH (t':=false) (by rw [hg43];rfl) ?_;refine sp hT ?_;refine nn<|cN rfl rfl ?_;refine sr<|ss (ldO hT (bL kT7)) ?_;refine bO Tryz.func74 (cV bl A c toks (k) e _) rfl rfl (.cons kT1 .nil) ⟨Has.of mT7,trivial⟩ fun _=>?_;refine sp hT ?_;refine sto hT kT6 ?_;refine nn<|bG<|bI<|bC<|bI<|bC<|bI ?_;have hr:=e_want hinv6.1 (by omega) (by omega) (by first | exact .inl (by assumption) | exact .inr (by assumption)) (by first | exact .inr (by assumption) | exact .inl (by omega));subst hr;exact bM (none,0,[],_) rfl (bD rfl) (bN hT (bL .head) rfl rfl rfl rfl) (.cons kT1 .nil) ⟨dO,Has.each_nil,Has.pure rfl,trivial⟩ rfl
      have hg43:=beq_eq_false_iff_ne.1 hg43;refine sk3 ?_;refine sp2 hT ?_;refine nn<|cN rfl rfl ?_;refine sr<|sp hT ?_;refine ss (ldO hT (bL .head)) ?_;refine sp hT ?_;refine cH (t':=false) (beq_eq_false_iff_ne.2 hg23) ?_;refine sp hT ?_;refine nn<|cN rfl rfl ?_;refine sr<|sp hT ?_;refine ss (ldO hT (bL .head)) ?_;refine sp2 hT ?_;refine cF (fun hg98=>?_) (fun hg98=>?_)
      · have hg98:=eq_of_beq hg98;refine sp hT ?_;refine ss (ldO hT (fE .head)) ?_;refine bO Tryz.func76 (mD _ (by have:=hw k;omega)) rfl rfl .nil ⟨Has.of mT8,trivial⟩ fun _=>?_;refine sp2 hT ?_;refine nn<|bH rfl (fun hc94=>?_) (fun hc94=>?_)
        · refine bA ?_;have hbi:=b_name hinv6.1 (by assumption) (by assumption);refine bE<|ss (ldO hT (bL kT2)) ?_;refine sp hT ?_;refine ss (ldO hT (dB .head)) ?_;refine sp hT ?_;refine ss (ldO hT (fE .head)) ?_;refine ss (bY rfl rfl (sX _ _ _)) ?_;refine wE (m:=(⟨2,(bQ toks k).at_,0,(bQ toks k).word,⟨none,0,[]⟩⟩:ItemV)) rfl rfl rfl rfl rfl fun b11=>?_;refine wD kT4 (dF .head rfl) rfl rfl rfl rfl rfl rfl rfl (by simp only [List.length_singleton];omega) fun A12 c13=>?_;refine bV (mI (out++[(⟨2,(bQ toks k).at_,0,(bQ toks k).word,⟨none,0,[]⟩⟩:ItemV)])) (bHf (Has.of mT3) dO) ?_;refine sto hT kT4 ?_;refine nn<|bE<|ss (ldO hT (bL kT8)) ?_;refine sp2 hT ?_;refine ss (ldO hT (dB kT4)) ?_;refine sp hT ?_;refine bP (z':=(((k+1):Nat):Int)) (cL (by omega) (by omega)) ?_;refine sp2 hT ?_;refine sto hT kT4 ?_;refine dU<|cA<|bB<|bA<|sr<|ss (ldO hT (bL kT8)) ?_;refine bO Tryz.func73 (iD bl A c toks ((k+1)) e) rfl rfl (.cons .head .nil) ⟨Has.of mT8,trivial⟩ fun _=>?_;refine sto hT kT4 ?_;refine nn<|bT ?_
          obtain⟨kk,hkk⟩: ∃kk,kk=k:=⟨_,rfl⟩
          refine dD (ι:=Nat×Nat×List ItemV×List kZ×Option Addr×Nat×Option Addr×Nat) [(1,_),(3,_),(4,_),(5,_),(7,_),(8,_),(9,_),(24,_),(25,_),(26,_),(29,_),(30,_),(31,_),(44,_),(45,_),(46,_),(99,_),(100,_),(101,_)] ⟨rfl,rfl,rfl,rfl,rfl,rfl,rfl,rfl,rfl,rfl,rfl,rfl,rfl,rfl,rfl,rfl,rfl,rfl,rfl,trivial⟩ (fun⟨k,o,out,st,C,e1,D,f⟩=>[(6,.int .i64 (o:Nat))]) (fun⟨k,o,out,st,C,e1,D,f⟩=>[.obj bl (.cells [.slice A toks.length c,.int .i64 (k:Nat),.int .i64 e].toArray 102),.obj b4 (.cells [.slice C out.length e1].toArray 47),lL.row (.slice C out.length e1) 52 out,.obj b5 (.cells [.slice D st.reverse.length f].toArray 208),(fnE b4).row (.slice D st.reverse.length f) 1 st.reverse,.obj b3 (.cells [.int .i64 (bQ toks k).kind,.int .i64 (bQ toks k).at_,.string (bs (bQ toks k).word),.int .i64 (bQ toks k).n].toArray 104)]) (fun⟨k,o,out,st,C,e1,D,f⟩=>[Fact.pure (tQ toks e r k (out.map ItemV.it) (xM st) o∧opens st=o∧o≤32∧out.length+st.length≤k∧k≤toks.length∧kk<k),lU st,tnF st,mI out]) (fun⟨k,o,out,st,C,e1,D,f⟩=>toks.length-k) ((k+1),o,(out++[(⟨2,(bQ toks k).at_,0,(bQ toks k).word,⟨none,0,[]⟩⟩:ItemV)]),st,_,_,_,_) ⟨rfl,trivial⟩ (.cons kT1 (.cons kT1 (.cons kT1 (.cons kT2 (.cons kT2 (.cons .head .nil)))))) ⟨Has.pure (⟨hbi,hinv6.2.1,hinv6.2.2.1,by first | omega | (simp;omega),hbi.1,by omega⟩),Has.of mT2,Has.of mT3,Has.of mT0,trivial⟩ ?_;rintro⟨k,o,out,st,C,e1,D,f⟩;dsimp only;refine cD (Has.of mT0) fun hinv30=>?_;refine bA<|sr<|sp3 hT ?_;refine cF (fun hg128=>?_) (fun hg128=>?_)
          · have hg128:=of_decide_eq_true hg128;refine sp hT ?_;refine ss (ldO hT (bL kT5)) ?_;refine sp3 hT ?_;refine cF (fun hg133=>?_) (fun hg133=>?_)
            · have hg133:=eq_of_beq hg133;refine sp hT ?_;refine ss (ldO hT (fE kT5)) ?_;refine sp2 hT ?_;refine nn<|bH rfl (fun hc137=>?_) (fun hc137=>?_)
              · have hc137:(bQ toks k).word=([41]:Bs):=eq_of_beq hc137;refine bK<|bB<|bA<|bT<|sr<|sp hT ?_;refine gZ (cS Tryz.func136 rfl rfl) (oC b5 b4 _ _ st _ _ out (by omega)) rfl rfl rfl rfl rfl rfl rfl (.cons kT3 (.cons kT3 (.cons kT1 (.cons kT1 .nil)))) ⟨(Has.of mT1),trivial⟩ fun⟨⟨D14,f15⟩,⟨C16,e17⟩⟩=>?_;refine bV (mI (out++(finP st).1)) (sR (Has.of mT4) (Has.of mT3)) ?_;refine bV (tnF (finP st).2) (bBh (Has.of mT4)) ?_;have hfl:=uD st;obtain⟨s2,hs2,ho2⟩:=fin_open (st:=st) (by omega);have hb2:=b_closed hinv30.1 (by omega) (by assumption) (by assumption) hs2;rw [hs2] at hfl⊢;simp only [List.length_cons] at hfl;refine bV (lU s2) (bBj (Has.of mT2)) ?_;refine bV (tnF s2) (bFo (Has.of mT1)) ?_;refine nn<|sr<|ss (ldO hT (bL .head)) ?_;refine ss (ldO hT (bL .head)) ?_;refine sp hT ?_;refine bP (z':=(((s2.length+1):Nat):Int)) (congrArg Nat.cast (jQ _ s2)) ?_;refine sp hT ?_;refine bP (z':=((((s2.length+1)-1):Nat):Int)) (cL (by omega) (by omega)) ?_;refine jR hT (k:=((s2.length+1)-1)) kT1 rfl rfl rfl rfl rfl rfl rfl rfl rfl (by rw [jQ];omega) ?_;rw [bCn];refine sto hT kT1 ?_;refine nn<|sr<|sp2 hT ?_;refine bP (z':=(((o-1):Nat):Int)) (cL (by omega) (by omega)) ?_;refine sp hT ?_;refine nn<|bE<|ss (ldO hT (bL kT8)) ?_;refine sp2 hT ?_;refine ss (ldO hT (dB kT4)) ?_;refine sp hT ?_;refine bP (z':=(((k+1):Nat):Int)) (cL (by omega) (by omega)) ?_;refine sp2 hT ?_;refine sto hT kT4 ?_;refine dU<|cA<|bB<|bE<|ss (ldO hT (bL kT8)) ?_;refine bO Tryz.func73 (iD bl A c toks ((k+1)) e) rfl rfl (.cons .head .nil) ⟨Has.of (.tail _ (.tail _ (.tail _ (.tail _ (.tail _ (.tail _ (.tail _ (.tail _ (.tail _ (.tail _ (.tail _ (.tail _ (.tail _ (.tail _ (.tail _ (.tail _ (.tail _ mT0))))))))))))))))),trivial⟩ fun _=>?_;refine sto hT kT5 ?_;refine nn ?_;exact cP ((k+1),(o-1),(out++(finP st).1),s2,_,_,_,_) (by have:=hb2.1;dsimp only;omega) ⟨rfl,trivial⟩ ⟨rfl,rfl,rfl,rfl,rfl,rfl,rfl,rfl,rfl,rfl,rfl,rfl,rfl,rfl,rfl,rfl,rfl,rfl,rfl,trivial⟩ (.cons kT1 (.cons kT3 (.cons kT3 (.cons kT1 (.cons kT1 (.cons .head (.cons .head (.cons .head (.cons .head .nil))))))))) ⟨Has.pure (⟨hb2,by dsimp only;omega,by dsimp only;omega,by first | omega | (simp;omega),hb2.1,by dsimp only;omega⟩),Has.of mT1,Has.of mT0,Has.of mT3,trivial⟩ (bF.drop 9)
              have hc137:(bQ toks k).word≠([41]:Bs):=fun h=>absurd (beq_iff_eq.2 h) (by rw [show((bQ toks k).word==([41]:Bs))=false from hc137];simp);refine cW<|cM<|cM<|cX<|bB<|bA<|bT<|sr<|sp hT ?_;refine ss (ldO hT (bL kT5)) ?_;refine sp hT ?_;refine cH (t':=false) (by rw [hg133];rfl) ?_;refine sp hT ?_;refine sk2 ?_;refine sp2 hT ?_;refine nn<|cN rfl rfl ?_;refine sr<|sp hT ?_;refine ss (ldO hT (bL kT5)) ?_;refine sp hT ?_;refine cH (t':=false) (by rw [hg133];rfl) ?_;refine sp hT ?_;refine nn<|cN rfl rfl ?_;refine sr<|sp hT ?_;refine ss (ldO hT (bL kT5)) ?_;refine sp hT ?_;refine cH (t':=false) (by rw [hg133];rfl) ?_;refine sp2 hT ?_;refine ss (ldO hT (fE kT5)) ?_;refine bO Tryz.func135 (nS _) rfl rfl .nil trivial fun _=>?_;refine sp3 hT ?_;refine nn<|bH rfl (fun hc174=>?_) (fun hc174=>?_)
              · have hc174:=gC hc174;refine sr<|ss (ldO hT (bL kT8)) ?_;refine bO Tryz.func74 (cV bl A c toks (k) e _) rfl rfl (.cons .head .nil) ⟨Has.of vX,trivial⟩ fun _=>?_;refine sp hT ?_;refine sto hT kT7 ?_;refine nn<|bG<|bI<|bC<|bI<|bC<|bI ?_;have hr:=sM hinv30.1 (by first | exact .inl (by omega) | exact .inr (.inl (by assumption)) | exact .inr (.inr (by assumption))) (by omega) (by first | exact .inr (by assumption) | exact .inl (by omega));subst hr;exact bM (none,0,[],_) rfl (bD rfl) (bN hT (bL .head) rfl rfl rfl rfl) (.cons kT1 .nil) ⟨dO,Has.each_nil,Has.pure rfl,trivial⟩ rfl
              have hc174:=fN hc174;refine bK<|cA<|bB<|sr<|sp hT ?_;refine gZ (cS Tryz.func137 rfl rfl) (oB bl A c toks (k) e b1 b5 b4 _ _ st (by omega) (by omega)) rfl rfl rfl rfl rfl rfl rfl (.cons .head (.cons kT7 (.cons kT2 (.cons kT2 .nil)))) ⟨(Has.of vX),(Has.of mT1),trivial⟩ fun⟨⟨A18,c19⟩,b20⟩=>?_;refine bV (tnF (some (b20,(qK (bU toks (k) e true)))::st)) (uN (Has.of mT3) dO) ?_;refine cE rfl rfl rfl rfl yC rfl fun b21=>?_;refine sto hT .head ?_;refine nn<|sr<|ss (ldN hT (bL .head)) ?_;refine ss (bY rfl rfl (vU)) ?_;refine ss (fD ⟨(bU toks (k) e true).flt.1,(bU toks (k) e true).flt.2⟩ ⟨0,0⟩ rfl rfl rfl) ?_;refine nn<|bH rfl (fun hc190=>?_) (fun hc190=>?_)
              · have hc190:=gC hc190;refine bA<|cU _ _ [(true,0),(true,1),(false,2)] cY (by decide+kernel) (.cons .head (.cons .head (.cons .head (.cons .head (.cons .head (.cons .head (.cons .head (.cons .head (.cons .head .nil))))))))) bF.self ?_;refine stM rfl (ldN hT (bL .head)) ?_;refine puM hT ?_;refine cC (o:=_) rfl ?_;refine sto hT kT9 ?_;refine cB (.cons kT1 (.cons kT1 (.cons kT1 (.cons kT1 (.cons kT1 (.cons kT1 (.cons kT1 (.cons kT1 (.cons kT1 .nil))))))))) (bF.drop 0) ?_;refine cK<|bB<|bG<|bI<|bC<|bI ?_;have hr:=(pG hinv30.1 (by first | exact .inl (by omega) | exact .inr (.inl (by assumption)) | exact .inr (.inr (by assumption))) (by omega) (by omega) (by assumption)).2 hc190;subst hr;exact bM (none,0,[],_) rfl (bD rfl) (bN hT (bL .head) rfl rfl rfl rfl) (.cons kT2 .nil) ⟨dO,Has.each_nil,Has.pure rfl,trivial⟩ rfl
              have hc190:=fN hc190;have he:=(pG hinv30.1 (by first | exact .inl (by omega) | exact .inr (.inl (by assumption)) | exact .inr (.inr (by assumption))) (by omega) (by omega) (by assumption)).1 hc190;refine bK<|cA<|bB ?_;exact cP ((bU toks (k) e true).next,o,out,(some (b20,(qK (bU toks (k) e true)))::st),_,_,_,_) (by have:=he.1;first | (have:=dR toks k e false;dsimp only;omega) | (have:=dR toks k e true;dsimp only;omega)) ⟨rfl,trivial⟩ ⟨rfl,rfl,rfl,rfl,rfl,rfl,trivial⟩ (.cons kT1 (.cons kT4 (.cons kT4 (.cons kT2 (.cons kT2 (.cons kT4 (.cons kT1 .nil))))))) ⟨Has.pure (⟨he,hinv30.2.1,hinv30.2.2.1,by have:=dR toks k e true;first | omega | (simp;omega),he.1⟩),Has.of mT1,Has.of mT0,Has.of mT5,trivial⟩ (bF.drop 11)
            have hg133:=beq_eq_false_iff_ne.1 hg133;refine sk3 ?_;refine sp hT ?_;refine nn<|cN rfl rfl ?_;refine cW<|cM<|cM<|cX<|bB<|bA<|bT<|sr<|sp hT ?_;refine ss (ldO hT (bL kT5)) ?_;refine sp2 hT ?_;refine cF (fun hg160=>?_) (fun hg160=>?_)
            · have hg160:=eq_of_beq hg160;refine sp4 hT ?_;refine nn<|bH rfl (fun hc156=>?_) (fun hc156=>?_)
              · have hc156:=of_decide_eq_true hc156;refine sr<|ss (ldO hT (bL kT8)) ?_;refine bO Tryz.func74 (cV bl A c toks (k) e _) rfl rfl (.cons .head .nil) ⟨Has.of vX,trivial⟩ fun _=>?_;refine sp hT ?_;refine sto hT kT7 ?_;refine nn<|bG<|bI<|bC<|bI<|bC<|bI ?_;have hr:=bJp hinv30.1 (by assumption) (by omega);subst hr;exact bM (none,0,[],_) rfl (bD rfl) (bN hT (bL .head) rfl rfl rfl rfl) (.cons kT1 .nil) ⟨dO,Has.each_nil,Has.pure rfl,trivial⟩ rfl
              have hc156:=Int.not_lt.1 (of_decide_eq_false hc156);refine sr<|sp hT ?_;refine ss (ldO hT (bL kT5)) ?_;refine sp hT ?_;refine cH (t':=true) (by rw [hg160];rfl) ?_;refine sp hT ?_;refine nn<|cI rfl rfl ?_;refine sr<|sp hT ?_;refine gZ (cS Tryz.func136 rfl rfl) (oC b5 b4 _ _ st _ _ out (by omega)) rfl rfl rfl rfl rfl rfl rfl (.cons kT3 (.cons kT3 (.cons kT1 (.cons kT1 .nil)))) ⟨(Has.of mT1),trivial⟩ fun⟨⟨D22,f23⟩,⟨C24,e25⟩⟩=>?_;refine bV (mI (out++(finP st).1)) (sR (Has.of mT4) (Has.of mT3)) ?_;refine bV (tnF (finP st).2) (bBh (Has.of mT4)) ?_;have hfl:=uD st;refine nn<|sr<|ss (ldO hT (bL kT2)) ?_;refine ss (bY rfl rfl (vU)) ?_;refine sp hT ?_;refine sto hT kT7 ?_;refine nn<|bG<|bI<|bC<|bI<|bC<|bI ?_;have hr:=bFi hinv30.1 (by assumption) (by omega);subst hr;refine bX kT4 ?_;exact bM (_,_,(out++(finP st).1),_) rfl (bD rfl) (bN hT (bL .head) rfl rfl rfl rfl) (.cons kT4 .nil) ⟨Has.of mT0,(Has.of mT2),Has.pure rfl,trivial⟩ rfl
            have hg160:=beq_eq_false_iff_ne.1 hg160;refine sk2 ?_;refine sp2 hT ?_;refine nn<|cN rfl rfl ?_;refine sr<|sp hT ?_;refine ss (ldO hT (bL kT5)) ?_;refine sp hT ?_;refine cH (t':=false) (beq_eq_false_iff_ne.2 hg160) ?_;refine sp hT ?_;refine nn<|cN rfl rfl ?_;refine sr<|sp hT ?_;refine ss (ldO hT (bL kT5)) ?_;refine sp2 hT ?_;refine cF (fun hg178=>?_) (fun hg178=>?_)
            · have hg178:=eq_of_beq hg178;refine sk4 ?_;refine sp2 hT ?_;refine nn<|cI rfl rfl ?_;refine sr<|ss (ldO hT (bL kT8)) ?_;refine bO Tryz.func74 (cV bl A c toks (k) e _) rfl rfl (.cons .head .nil) ⟨Has.of vX,trivial⟩ fun _=>?_;refine sp hT ?_;refine sto hT kT7 ?_;refine nn<|bG<|bI<|bC<|bI<|bC<|bI ?_;have hr:=sM hinv30.1 (by first | exact .inl (by omega) | exact .inr (.inl (by assumption)) | exact .inr (.inr (by assumption))) (by omega) (by first | exact .inr (by assumption) | exact .inl (by omega));subst hr;exact bM (none,0,[],_) rfl (bD rfl) (bN hT (bL .head) rfl rfl rfl rfl) (.cons kT1 .nil) ⟨dO,Has.each_nil,Has.pure rfl,trivial⟩ rfl
            have hg178:=beq_eq_false_iff_ne.1 hg178;refine sp hT ?_;refine ss (ldO hT (fE kT5)) ?_;refine bO Tryz.func135 (nS _) rfl rfl .nil trivial fun _=>?_;refine sp3 hT ?_;refine nn<|bH rfl (fun hc174=>?_) (fun hc174=>?_)
            · have hc174:=gC hc174;refine sr<|ss (ldO hT (bL kT8)) ?_;refine bO Tryz.func74 (cV bl A c toks (k) e _) rfl rfl (.cons .head .nil) ⟨Has.of vX,trivial⟩ fun _=>?_;refine sp hT ?_;refine sto hT kT7 ?_;refine nn<|bG<|bI<|bC<|bI<|bC<|bI ?_;have hr:=sM hinv30.1 (by first | exact .inl (by omega) | exact .inr (.inl (by assumption)) | exact .inr (.inr (by assumption))) (by omega) (by first | exact .inr (by assumption) | exact .inl (by omega));subst hr;exact bM (none,0,[],_) rfl (bD rfl) (bN hT (bL .head) rfl rfl rfl rfl) (.cons kT1 .nil) ⟨dO,Has.each_nil,Has.pure rfl,trivial⟩ rfl
            have hc174:=fN hc174;refine bK<|cA<|bB<|sr<|sp hT ?_;refine gZ (cS Tryz.func137 rfl rfl) (oB bl A c toks (k) e b1 b5 b4 _ _ st (by omega) (by omega)) rfl rfl rfl rfl rfl rfl rfl (.cons .head (.cons kT7 (.cons kT2 (.cons kT2 .nil)))) ⟨(Has.of vX),(Has.of mT1),trivial⟩ fun⟨⟨A26,c27⟩,b28⟩=>?_;refine bV (tnF (some (b28,(qK (bU toks (k) e true)))::st)) (uN (Has.of mT3) dO) ?_;refine cE rfl rfl rfl rfl yC rfl fun b29=>?_;refine sto hT .head ?_;refine nn<|sr<|ss (ldN hT (bL .head)) ?_;refine ss (bY rfl rfl (vU)) ?_;refine ss (fD ⟨(bU toks (k) e true).flt.1,(bU toks (k) e true).flt.2⟩ ⟨0,0⟩ rfl rfl rfl) ?_;refine nn<|bH rfl (fun hc190=>?_) (fun hc190=>?_)
            · have hc190:=gC hc190;refine bA<|cU _ _ [(true,0),(true,1),(false,2)] cY (by decide+kernel) (.cons .head (.cons .head (.cons .head (.cons .head (.cons .head (.cons .head (.cons .head (.cons .head (.cons .head .nil))))))))) bF.self ?_;refine stM rfl (ldN hT (bL .head)) ?_;refine puM hT ?_;refine cC (o:=_) rfl ?_;refine sto hT kT9 ?_;refine cB (.cons kT1 (.cons kT1 (.cons kT1 (.cons kT1 (.cons kT1 (.cons kT1 (.cons kT1 (.cons kT1 (.cons kT1 .nil))))))))) (bF.drop 0) ?_;refine cK<|bB<|bG<|bI<|bC<|bI ?_;have hr:=(pG hinv30.1 (by first | exact .inl (by omega) | exact .inr (.inl (by assumption)) | exact .inr (.inr (by assumption))) (by omega) (by omega) (by assumption)).2 hc190;subst hr;exact bM (none,0,[],_) rfl (bD rfl) (bN hT (bL .head) rfl rfl rfl rfl) (.cons kT2 .nil) ⟨dO,Has.each_nil,Has.pure rfl,trivial⟩ rfl
            have hc190:=fN hc190;have he:=(pG hinv30.1 (by first | exact .inl (by omega) | exact .inr (.inl (by assumption)) | exact .inr (.inr (by assumption))) (by omega) (by omega) (by assumption)).1 hc190;refine bK<|cA<|bB ?_;exact cP ((bU toks (k) e true).next,o,out,(some (b28,(qK (bU toks (k) e true)))::st),_,_,_,_) (by have:=he.1;first | (have:=dR toks k e false;dsimp only;omega) | (have:=dR toks k e true;dsimp only;omega)) ⟨rfl,trivial⟩ ⟨rfl,rfl,rfl,rfl,rfl,rfl,trivial⟩ (.cons kT1 (.cons kT4 (.cons kT4 (.cons kT2 (.cons kT2 (.cons kT4 (.cons kT1 .nil))))))) ⟨Has.pure (⟨he,hinv30.2.1,hinv30.2.2.1,by have:=dR toks k e true;first | omega | (simp;omega),he.1⟩),Has.of mT1,Has.of mT0,Has.of mT5,trivial⟩ (bF.drop 11)
          have hg128:=Int.not_lt.1 (of_decide_eq_false hg128);refine sk3 ?_;refine sp2 hT ?_;refine sk3 ?_;refine sp hT ?_;refine nn<|cN rfl rfl ?_;refine cW<|cM<|cM<|cX<|bB<|bA<|bT<|sr<|sp hT ?_;refine ss (ldO hT (bL kT5)) ?_;refine sp2 hT ?_;refine cF (fun hg160=>?_) (fun hg160=>?_)
          · have hg160:=eq_of_beq hg160;refine sp4 hT ?_;refine nn<|bH rfl (fun hc156=>?_) (fun hc156=>?_)
            · have hc156:=of_decide_eq_true hc156;refine sr<|ss (ldO hT (bL kT8)) ?_;refine bO Tryz.func74 (cV bl A c toks (k) e _) rfl rfl (.cons .head .nil) ⟨Has.of vX,trivial⟩ fun _=>?_;refine sp hT ?_;refine sto hT kT7 ?_;refine nn<|bG<|bI<|bC<|bI<|bC<|bI ?_;have hr:=bJp hinv30.1 (by assumption) (by omega);subst hr;exact bM (none,0,[],_) rfl (bD rfl) (bN hT (bL .head) rfl rfl rfl rfl) (.cons kT1 .nil) ⟨dO,Has.each_nil,Has.pure rfl,trivial⟩ rfl
            have hc156:=Int.not_lt.1 (of_decide_eq_false hc156);refine sr<|sp hT ?_;refine ss (ldO hT (bL kT5)) ?_;refine sp hT ?_;refine cH (t':=true) (by rw [hg160];rfl) ?_;refine sp hT ?_;refine nn<|cI rfl rfl ?_;refine sr<|sp hT ?_;refine gZ (cS Tryz.func136 rfl rfl) (oC b5 b4 _ _ st _ _ out (by omega)) rfl rfl rfl rfl rfl rfl rfl (.cons kT3 (.cons kT3 (.cons kT1 (.cons kT1 .nil)))) ⟨(Has.of mT1),trivial⟩ fun⟨⟨D30,f31⟩,⟨C32,e33⟩⟩=>?_;refine bV (mI (out++(finP st).1)) (sR (Has.of mT4) (Has.of mT3)) ?_;refine bV (tnF (finP st).2) (bBh (Has.of mT4)) ?_;have hfl:=uD st;refine nn<|sr<|ss (ldO hT (bL kT2)) ?_;refine ss (bY rfl rfl (vU)) ?_;refine sp hT ?_;refine sto hT kT7 ?_;refine nn<|bG<|bI<|bC<|bI<|bC<|bI ?_;have hr:=bFi hinv30.1 (by assumption) (by omega);subst hr;refine bX kT4 ?_;exact bM (_,_,(out++(finP st).1),_) rfl (bD rfl) (bN hT (bL .head) rfl rfl rfl rfl) (.cons kT4 .nil) ⟨Has.of mT0,(Has.of mT2),Has.pure rfl,trivial⟩ rfl
          have hg160:=beq_eq_false_iff_ne.1 hg160;refine sk2 ?_;refine sp2 hT ?_;refine nn<|cN rfl rfl ?_;refine sr<|sp hT ?_;refine ss (ldO hT (bL kT5)) ?_;refine sp hT ?_;refine cH (t':=false) (beq_eq_false_iff_ne.2 hg160) ?_;refine sp hT ?_;refine nn<|cN rfl rfl ?_;refine sr<|sp hT ?_;refine ss (ldO hT (bL kT5)) ?_;refine sp2 hT ?_;refine cF (fun hg178=>?_) (fun hg178=>?_)
          · have hg178:=eq_of_beq hg178;refine sk4 ?_;refine sp2 hT ?_;refine nn<|cI rfl rfl ?_;refine sr<|ss (ldO hT (bL kT8)) ?_;refine bO Tryz.func74 (cV bl A c toks (k) e _) rfl rfl (.cons .head .nil) ⟨Has.of vX,trivial⟩ fun _=>?_;refine sp hT ?_;refine sto hT kT7 ?_;refine nn<|bG<|bI<|bC<|bI<|bC<|bI ?_;have hr:=sM hinv30.1 (by first | exact .inl (by omega) | exact .inr (.inl (by assumption)) | exact .inr (.inr (by assumption))) (by omega) (by first | exact .inr (by assumption) | exact .inl (by omega));subst hr;exact bM (none,0,[],_) rfl (bD rfl) (bN hT (bL .head) rfl rfl rfl rfl) (.cons kT1 .nil) ⟨dO,Has.each_nil,Has.pure rfl,trivial⟩ rfl
          have hg178:=beq_eq_false_iff_ne.1 hg178;refine sp hT ?_;refine ss (ldO hT (fE kT5)) ?_;refine bO Tryz.func135 (nS _) rfl rfl .nil trivial fun _=>?_;refine sp3 hT ?_;refine nn<|bH rfl (fun hc174=>?_) (fun hc174=>?_)
          · have hc174:=gC hc174;refine sr<|ss (ldO hT (bL kT8)) ?_;refine bO Tryz.func74 (cV bl A c toks (k) e _) rfl rfl (.cons .head .nil) ⟨Has.of vX,trivial⟩ fun _=>?_;refine sp hT ?_;refine sto hT kT7 ?_;refine nn<|bG<|bI<|bC<|bI<|bC<|bI ?_;have hr:=sM hinv30.1 (by first | exact .inl (by omega) | exact .inr (.inl (by assumption)) | exact .inr (.inr (by assumption))) (by omega) (by first | exact .inr (by assumption) | exact .inl (by omega));subst hr;exact bM (none,0,[],_) rfl (bD rfl) (bN hT (bL .head) rfl rfl rfl rfl) (.cons kT1 .nil) ⟨dO,Has.each_nil,Has.pure rfl,trivial⟩ rfl
          have hc174:=fN hc174;refine bK<|cA<|bB<|sr<|sp hT ?_;refine gZ (cS Tryz.func137 rfl rfl) (oB bl A c toks (k) e b1 b5 b4 _ _ st (by omega) (by omega)) rfl rfl rfl rfl rfl rfl rfl (.cons .head (.cons kT7 (.cons kT2 (.cons kT2 .nil)))) ⟨(Has.of vX),(Has.of mT1),trivial⟩ fun⟨⟨A34,c35⟩,b36⟩=>?_;refine bV (tnF (some (b36,(qK (bU toks (k) e true)))::st)) (uN (Has.of mT3) dO) ?_;refine cE rfl rfl rfl rfl yC rfl fun b37=>?_;refine sto hT .head ?_;refine nn<|sr<|ss (ldN hT (bL .head)) ?_;refine ss (bY rfl rfl (vU)) ?_;refine ss (fD ⟨(bU toks (k) e true).flt.1,(bU toks (k) e true).flt.2⟩ ⟨0,0⟩ rfl rfl rfl) ?_;refine nn<|bH rfl (fun hc190=>?_) (fun hc190=>?_)
          · have hc190:=gC hc190;refine bA<|cU _ _ [(true,0),(true,1),(false,2)] cY (by decide+kernel) (.cons .head (.cons .head (.cons .head (.cons .head (.cons .head (.cons .head (.cons .head (.cons .head (.cons .head .nil))))))))) bF.self ?_;refine stM rfl (ldN hT (bL .head)) ?_;refine puM hT ?_;refine cC (o:=_) rfl ?_;refine sto hT kT9 ?_;refine cB (.cons kT1 (.cons kT1 (.cons kT1 (.cons kT1 (.cons kT1 (.cons kT1 (.cons kT1 (.cons kT1 (.cons kT1 .nil))))))))) (bF.drop 0) ?_;refine cK<|bB<|bG<|bI<|bC<|bI ?_;have hr:=(pG hinv30.1 (by first | exact .inl (by omega) | exact .inr (.inl (by assumption)) | exact .inr (.inr (by assumption))) (by omega) (by omega) (by assumption)).2 hc190;subst hr;exact bM (none,0,[],_) rfl (bD rfl) (bN hT (bL .head) rfl rfl rfl rfl) (.cons kT2 .nil) ⟨dO,Has.each_nil,Has.pure rfl,trivial⟩ rfl
          have hc190:=fN hc190;have he:=(pG hinv30.1 (by first | exact .inl (by omega) | exact .inr (.inl (by assumption)) | exact .inr (.inr (by assumption))) (by omega) (by omega) (by assumption)).1 hc190;refine bK<|cA<|bB ?_;exact cP ((bU toks (k) e true).next,o,out,(some (b36,(qK (bU toks (k) e true)))::st),_,_,_,_) (by have:=he.1;first | (have:=dR toks k e false;dsimp only;omega) | (have:=dR toks k e true;dsimp only;omega)) ⟨rfl,trivial⟩ ⟨rfl,rfl,rfl,rfl,rfl,rfl,trivial⟩ (.cons kT1 (.cons kT4 (.cons kT4 (.cons kT2 (.cons kT2 (.cons kT4 (.cons kT1 .nil))))))) ⟨Has.pure (⟨he,hinv30.2.1,hinv30.2.2.1,by have:=dR toks k e true;first | omega | (simp;omega),he.1⟩),Has.of mT1,Has.of mT0,Has.of mT5,trivial⟩ (bF.drop 11)
        refine sr<|sp hT ?_;refine ss (ldO hT (bL .head)) ?_;refine sp hT ?_;refine cH (t':=true) (by rw [hg98];rfl) ?_;refine sp hT ?_;refine nn<|cI rfl rfl ?_;refine sr<|ss (ldO hT (bL kT7)) ?_;refine bO Tryz.func74 (cV bl A c toks (k) e _) rfl rfl (.cons kT1 .nil) ⟨Has.of mT7,trivial⟩ fun _=>?_;refine sp hT ?_;refine sto hT kT6 ?_;refine nn<|bG<|bI<|bC<|bI<|bC<|bI ?_;have hr:=e_word hinv6.1 (by assumption) (by assumption) (by assumption);subst hr;exact bM (none,0,[],_) rfl (bD rfl) (bN hT (bL .head) rfl rfl rfl rfl) (.cons kT1 .nil) ⟨dO,Has.each_nil,Has.pure rfl,trivial⟩ rfl
      have hg98:=beq_eq_false_iff_ne.1 hg98;refine sk3 ?_;refine sp2 hT ?_;refine nn<|cN rfl rfl ?_;refine sr<|sp hT ?_;refine ss (ldO hT (bL .head)) ?_;refine sp hT ?_;refine cH (t':=false) (beq_eq_false_iff_ne.2 hg98) ?_;refine sp hT ?_;refine nn<|cN rfl rfl ?_;refine sr<|ss (ldO hT (bL kT7)) ?_;refine bO Tryz.func74 (cV bl A c toks (k) e _) rfl rfl (.cons kT1 .nil) ⟨Has.of mT7,trivial⟩ fun _=>?_;refine sp hT ?_;refine sto hT kT6 ?_;refine nn<|bG<|bI<|bC<|bI<|bC<|bI ?_;have hr:=e_want hinv6.1 (by omega) (by omega) (by first | exact .inl (by assumption) | exact .inr (by assumption)) (by first | exact .inr (by assumption) | exact .inl (by omega));subst hr;exact bM (none,0,[],_) rfl (bD rfl) (bN hT (bL .head) rfl rfl rfl rfl) (.cons kT1 .nil) ⟨dO,Has.each_nil,Has.pure rfl,trivial⟩ rfl
    have hg28:=bne_eq_false_iff_eq.1 hg28;refine sk3 ?_;refine sp2 hT ?_;refine nn<|cN rfl rfl ?_;refine sr<|sp hT ?_;refine ss (ldO hT (bL .head)) ?_;refine sp hT ?_;refine cH (t':=false) (by rw [hg28];rfl) ?_;refine sp hT ?_;refine sk3 ?_;refine sp2 hT ?_;refine nn<|cN rfl rfl ?_;refine sr<|sp hT ?_;refine ss (ldO hT (bL .head)) ?_;refine sp hT ?_;refine cH (t':=false) (by rw [hg28];rfl) ?_;refine sp hT ?_;refine nn<|cN rfl rfl ?_;refine sr<|sp hT ?_;refine ss (ldO hT (bL .head)) ?_;refine sp hT ?_;refine cH (t':=false) (by rw [hg28];rfl) ?_;refine sp hT ?_;refine sk3 ?_;refine sp2 hT ?_;refine nn<|cN rfl rfl ?_;refine sr<|sp hT ?_;refine ss (ldO hT (bL .head)) ?_;refine sp hT ?_;refine cH (t':=false) (by rw [hg28];rfl) ?_;refine sp hT ?_;refine nn<|cN rfl rfl ?_;refine sr<|ss (ldO hT (bL kT7)) ?_;refine bO Tryz.func74 (cV bl A c toks (k) e _) rfl rfl (.cons kT1 .nil) ⟨Has.of mT7,trivial⟩ fun _=>?_;refine sp hT ?_;refine sto hT kT6 ?_;refine nn<|bG<|bI<|bC<|bI<|bC<|bI ?_;have hr:=e_want hinv6.1 (by omega) (by omega) (by first | exact .inl (by assumption) | exact .inr (by assumption)) (by first | exact .inr (by assumption) | exact .inl (by omega));subst hr;exact bM (none,0,[],_) rfl (bD rfl) (bN hT (bL .head) rfl rfl rfl rfl) (.cons kT1 .nil) ⟨dO,Has.each_nil,Has.pure rfl,trivial⟩ rfl
  have hg23:=bne_eq_false_iff_eq.1 hg23;refine sk3 ?_;refine sp2 hT ?_;refine sk3 ?_;refine sp2 hT ?_;refine nn<|cN rfl rfl ?_;refine sr<|sp hT ?_;refine ss (ldO hT (bL .head)) ?_;refine sp hT ?_;refine cH (t':=false) (by rw [hg23];rfl) ?_;refine sp hT ?_;refine sk3 ?_;refine sp2 hT ?_;refine nn<|cN rfl rfl ?_;refine sr<|sp hT ?_;refine ss (ldO hT (bL .head)) ?_;refine sp hT ?_;refine cH (t':=true) (by rw [hg23];rfl) ?_;refine sp hT ?_;refine nn<|cI rfl rfl ?_;refine sr<|sp hT ?_;refine ss (ldO hT (dB .head)) ?_;refine ss (bY rfl rfl (qA _ _)) ?_;refine cE rfl rfl rfl rfl lZ rfl fun b38=>?_;refine sto hT .head ?_;refine nn<|bA<|bT<|dQ (t:=2) cT ?_;refine dD (ι:=Nat×List Int×Option Addr×Nat) [(1,_),(3,_),(4,_),(5,_),(6,_),(7,_),(8,_),(9,_),(11,_),(24,_),(25,_),(26,_),(29,_),(30,_),(31,_),(44,_),(45,_),(46,_)] ⟨rfl,rfl,rfl,rfl,rfl,rfl,rfl,rfl,rfl,rfl,rfl,rfl,rfl,rfl,rfl,rfl,rfl,rfl,trivial⟩ (fun _=>[]) (fun⟨j,cur,C2,e2⟩=>[.obj bl (.cells [.slice A toks.length c,.int .i64 (j:Nat),.int .i64 e].toArray 102),.obj b38 (.cells [.int .i64 1,.int .i64 (bQ toks k).at_,.int .u8 0,.string (bs []),.slice C2 cur.length e2].toArray 52),cT.row (.slice C2 cur.length e2) 2 cur]) (fun⟨j,cur,C2,e2⟩=>[Fact.pure (fW toks k=cur++fW toks j∧j=k+cur.length∧j≤toks.length)]) (fun⟨j,cur,C2,e2⟩=>toks.length-j) (k,[],none,0) trivial (.cons kT3 (.cons kT1 (.cons .head .nil))) ⟨Has.pure (⟨rfl,rfl,hinv6.2.2.2.2⟩),trivial⟩ ?_;rintro⟨j,cur,C2,e2⟩;dsimp only;refine cD (Has.of mT0) fun hinv20=>?_;refine bA<|sr<|ss (ldO hT (bL kT9)) ?_;refine bO Tryz.func73 (iD bl A c toks (j) e) rfl rfl (.cons .head .nil) ⟨Has.of mT8,trivial⟩ fun _=>?_;refine sp2 hT ?_;refine nn<|bH rfl (fun hc74=>?_) (fun hc74=>?_)
  · have hc74:=eq_of_beq hc74;refine bK<|bB<|bA<|bT<|qP 8 _ _ [(true,0),(true,1),(true,2),(false,3),(true,4),(false,5),(false,6),(true,7)] cY (by decide+kernel) (.cons .head (.cons .head (.cons kT1 (.cons kT1 (.cons kT1 (.cons kT1 (.cons kT1 (.cons kT1 (.cons kT1 .nil))))))))) bF.self ?_;refine puL hT ?_;refine stL rfl (ldO hT (bKf kT1)) ?_;refine stL rfl (ldO hT (bL kT8)) ?_;refine jK (o:=_) rfl ?_;refine bO Tryz.func73 (iD bl A c toks (j) e) rfl rfl (.cons .head .nil) ⟨Has.of mT8,trivial⟩ fun _=>?_;refine jL (.cons .head (.cons .head (.cons kT1 (.cons kT1 (.cons kT1 (.cons kT1 (.cons kT1 (.cons kT1 (.cons kT1 .nil))))))))) (bF.drop 0) ?_;refine puL hT ?_;refine jK (o:=_) rfl ?_;refine fT (m:=(bQ toks (j)).n) rfl rfl rfl rfl rfl fun b39=>?_;refine jL (.cons kT1 (.cons kT1 (.cons kT2 (.cons kT2 (.cons kT2 (.cons kT2 (.cons kT2 (.cons kT2 (.cons kT2 .nil))))))))) (bF.drop 0) ?_;refine jK (o:=_) rfl ?_;refine jW kT3 (dF .head rfl) rfl rfl rfl rfl rfl rfl rfl (by simp only [List.length_singleton];omega) fun A40 c41=>?_;refine jL (.cons kT2 (.cons kT2 (.cons kT2 (.cons kT2 (.cons kT2 (.cons kT2 (.cons kT2 (.cons kT2 (.cons kT2 .nil))))))))) (bF.drop 0) ?_;refine puL hT ?_;refine lF (o:=_) rfl ?_;refine sto hT kT3 ?_;refine nH<|cA<|bB<|bE<|ss (ldO hT (bL kT10)) ?_;refine sp2 hT ?_;refine ss (ldO hT (dB kT3)) ?_;refine sp hT ?_;refine bP (z':=(((j+1):Nat):Int)) (cL (by omega) (by omega)) ?_;refine sp2 hT ?_;refine sto hT kT3 ?_;refine nn ?_;exact cP (j+1,_,_,_) (by have:=iP (toks:=toks) (k:=j) (by rw [hc74];decide);dsimp only;omega) trivial ⟨rfl,rfl,rfl,rfl,rfl,rfl,rfl,rfl,rfl,rfl,rfl,rfl,rfl,rfl,rfl,rfl,rfl,rfl,trivial⟩ (.cons .head (.cons .head (.cons .head (.cons kT1 (.cons kT1 (.cons kT1 (.cons kT1 (.cons kT1 (.cons kT1 (.cons kT1 .nil)))))))))) ⟨Has.pure (⟨by rw [hinv20.1,mB hc74];simp,by simp;omega,iP (by rw [hc74];decide)⟩),trivial⟩ (bF.drop 1)
  have hc74:=beq_eq_false_iff_ne.1 hc74;refine cW<|cM<|cM<|cX<|bB ?_;have hcur:fW toks k=cur:=by rw [hinv20.1,pZ hc74,List.append_nil]
  have hbi:=b_num (C:=C2) (c:=e2) hinv6.1 (by assumption) hinv20.2.1 hcur;have hcl:1≤cur.length:=by rw [←hcur,mB (by assumption)];simp
  refine bX kT2 ?_;refine bE<|ss (ldO hT (bL kT3)) ?_;refine ss (ldN hT (bL kT1)) ?_;refine wE (m:=(⟨1,(bQ toks k).at_,0,[],⟨C2,e2,cur⟩⟩:ItemV)) rfl rfl rfl rfl rfl fun b42=>?_;refine wD kT5 (dF .head rfl) rfl rfl rfl rfl rfl rfl rfl (by simp only [List.length_singleton];omega) fun A43 c44=>?_;refine bV (mI (out++[(⟨1,(bQ toks k).at_,0,[],⟨C2,e2,cur⟩⟩:ItemV)])) (bHf (Has.of mT5) (Has.of mT0)) ?_;refine sto hT kT5 ?_;refine dU<|cA<|bB<|bA<|sr<|ss (ldO hT (bL kT9)) ?_;refine bO Tryz.func73 (iD bl A c toks (j) e) rfl rfl (.cons kT3 .nil) ⟨Has.of mT10,trivial⟩ fun _=>?_;refine sto hT kT5 ?_;refine nn<|bT ?_
  obtain⟨kk,hkk⟩: ∃kk,kk=k:=⟨_,rfl⟩
  refine dD (ι:=Nat×Nat×List ItemV×List kZ×Option Addr×Nat×Option Addr×Nat) [(1,_),(3,_),(4,_),(5,_),(7,_),(8,_),(9,_),(24,_),(25,_),(26,_),(29,_),(30,_),(31,_),(44,_),(45,_),(46,_)] ⟨rfl,rfl,rfl,rfl,rfl,rfl,rfl,rfl,rfl,rfl,rfl,rfl,rfl,rfl,rfl,rfl,trivial⟩ (fun⟨k,o,out,st,C,e1,D,f⟩=>[(6,.int .i64 (o:Nat))]) (fun⟨k,o,out,st,C,e1,D,f⟩=>[.obj bl (.cells [.slice A toks.length c,.int .i64 (k:Nat),.int .i64 e].toArray 102),.obj b4 (.cells [.slice C out.length e1].toArray 47),lL.row (.slice C out.length e1) 52 out,.obj b5 (.cells [.slice D st.reverse.length f].toArray 208),(fnE b4).row (.slice D st.reverse.length f) 1 st.reverse,.obj b3 (.cells [.int .i64 (bQ toks k).kind,.int .i64 (bQ toks k).at_,.string (bs (bQ toks k).word),.int .i64 (bQ toks k).n].toArray 104)]) (fun⟨k,o,out,st,C,e1,D,f⟩=>[Fact.pure (tQ toks e r k (out.map ItemV.it) (xM st) o∧opens st=o∧o≤32∧out.length+st.length≤k∧k≤toks.length∧kk<k),lU st,tnF st,mI out]) (fun⟨k,o,out,st,C,e1,D,f⟩=>toks.length-k) (j,o,(out++[(⟨1,(bQ toks k).at_,0,[],⟨C2,e2,cur⟩⟩:ItemV)]),st,_,_,_,_) ⟨rfl,trivial⟩ (.cons kT1 (.cons kT1 (.cons kT1 (.cons kT3 (.cons kT3 (.cons .head .nil)))))) ⟨Has.pure (⟨hbi,hinv6.2.1,hinv6.2.2.1,by first | omega | (simp;omega),hbi.1,by omega⟩),Has.of mT4,Has.of mT5,Has.of mT0,trivial⟩ ?_;rintro⟨k,o,out,st,C,e1,D,f⟩;dsimp only;refine cD (Has.of mT0) fun hinv30=>?_;refine bA<|sr<|sp3 hT ?_;refine cF (fun hg128=>?_) (fun hg128=>?_)
  · have hg128:=of_decide_eq_true hg128;refine sp hT ?_;refine ss (ldO hT (bL kT5)) ?_;refine sp3 hT ?_;refine cF (fun hg133=>?_) (fun hg133=>?_)
    · have hg133:=eq_of_beq hg133;refine sp hT ?_;refine ss (ldO hT (fE kT5)) ?_;refine sp2 hT ?_;refine nn<|bH rfl (fun hc137=>?_) (fun hc137=>?_)
      · have hc137:(bQ toks k).word=([41]:Bs):=eq_of_beq hc137;refine bK<|bB<|bA<|bT<|sr<|sp hT ?_;refine gZ (cS Tryz.func136 rfl rfl) (oC b5 b4 _ _ st _ _ out (by omega)) rfl rfl rfl rfl rfl rfl rfl (.cons kT3 (.cons kT3 (.cons kT1 (.cons kT1 .nil)))) ⟨(Has.of mT1),trivial⟩ fun⟨⟨D45,f46⟩,⟨C47,e48⟩⟩=>?_;refine bV (mI (out++(finP st).1)) (sR (Has.of mT4) (Has.of mT3)) ?_;refine bV (tnF (finP st).2) (bBh (Has.of mT4)) ?_;have hfl:=uD st;obtain⟨s2,hs2,ho2⟩:=fin_open (st:=st) (by omega);have hb2:=b_closed hinv30.1 (by omega) (by assumption) (by assumption) hs2;rw [hs2] at hfl⊢;simp only [List.length_cons] at hfl;refine bV (lU s2) (bBj (Has.of mT2)) ?_;refine bV (tnF s2) (bFo (Has.of mT1)) ?_;refine nn<|sr<|ss (ldO hT (bL .head)) ?_;refine ss (ldO hT (bL .head)) ?_;refine sp hT ?_;refine bP (z':=(((s2.length+1):Nat):Int)) (congrArg Nat.cast (jQ _ s2)) ?_;refine sp hT ?_;refine bP (z':=((((s2.length+1)-1):Nat):Int)) (cL (by omega) (by omega)) ?_;refine jR hT (k:=((s2.length+1)-1)) kT1 rfl rfl rfl rfl rfl rfl rfl rfl rfl (by rw [jQ];omega) ?_;rw [bCn];refine sto hT kT1 ?_;refine nn<|sr<|sp2 hT ?_;refine bP (z':=(((o-1):Nat):Int)) (cL (by omega) (by omega)) ?_;refine sp hT ?_;refine nn<|bE<|ss (ldO hT (bL kT9)) ?_;refine sp2 hT ?_;refine ss (ldO hT (dB kT4)) ?_;refine sp hT ?_;refine bP (z':=(((k+1):Nat):Int)) (cL (by omega) (by omega)) ?_;refine sp2 hT ?_;refine sto hT kT4 ?_;refine dU<|cA<|bB<|bE<|ss (ldO hT (bL kT9)) ?_;refine bO Tryz.func73 (iD bl A c toks ((k+1)) e) rfl rfl (.cons .head .nil) ⟨Has.of (.tail _ (.tail _ (.tail _ (.tail _ (.tail _ (.tail _ (.tail _ (.tail _ (.tail _ (.tail _ (.tail _ (.tail _ (.tail _ (.tail _ (.tail _ (.tail _ (.tail _ (.tail _ (.tail _ mT0))))))))))))))))))),trivial⟩ fun _=>?_;refine sto hT kT5 ?_;refine nn ?_;exact cP ((k+1),(o-1),(out++(finP st).1),s2,_,_,_,_) (by have:=hb2.1;dsimp only;omega) ⟨rfl,trivial⟩ ⟨rfl,rfl,rfl,rfl,rfl,rfl,rfl,rfl,rfl,rfl,rfl,rfl,rfl,rfl,rfl,rfl,trivial⟩ (.cons kT1 (.cons kT3 (.cons kT3 (.cons kT1 (.cons kT1 (.cons .head (.cons .head (.cons .head (.cons .head (.cons .head .nil)))))))))) ⟨Has.pure (⟨hb2,by dsimp only;omega,by dsimp only;omega,by first | omega | (simp;omega),hb2.1,by dsimp only;omega⟩),Has.of mT1,Has.of mT0,Has.of mT3,trivial⟩ (bF.drop 9)
      have hc137:(bQ toks k).word≠([41]:Bs):=fun h=>absurd (beq_iff_eq.2 h) (by rw [show((bQ toks k).word==([41]:Bs))=false from hc137];simp);refine cW<|cM<|cM<|cX<|bB<|bA<|bT<|sr<|sp hT ?_;refine ss (ldO hT (bL kT5)) ?_;refine sp hT ?_;refine cH (t':=false) (by rw [hg133];rfl) ?_;refine sp hT ?_;refine sk2 ?_;refine sp2 hT ?_;refine nn<|cN rfl rfl ?_;refine sr<|sp hT ?_;refine ss (ldO hT (bL kT5)) ?_;refine sp hT ?_;refine cH (t':=false) (by rw [hg133];rfl) ?_;refine sp hT ?_;refine nn<|cN rfl rfl ?_;refine sr<|sp hT ?_;refine ss (ldO hT (bL kT5)) ?_;refine sp hT ?_;refine cH (t':=false) (by rw [hg133];rfl) ?_;refine sp2 hT ?_;refine ss (ldO hT (fE kT5)) ?_;refine bO Tryz.func135 (nS _) rfl rfl .nil trivial fun _=>?_;refine sp3 hT ?_;refine nn<|bH rfl (fun hc174=>?_) (fun hc174=>?_)
      · have hc174:=gC hc174;refine sr<|ss (ldO hT (bL kT9)) ?_;refine bO Tryz.func74 (cV bl A c toks (k) e _) rfl rfl (.cons .head .nil) ⟨Has.of bEt,trivial⟩ fun _=>?_;refine sp hT ?_;refine sto hT kT8 ?_;refine nn<|bG<|bI<|bC<|bI<|bC<|bI ?_;have hr:=sM hinv30.1 (by first | exact .inl (by omega) | exact .inr (.inl (by assumption)) | exact .inr (.inr (by assumption))) (by omega) (by first | exact .inr (by assumption) | exact .inl (by omega));subst hr;exact bM (none,0,[],_) rfl (bD rfl) (bN hT (bL .head) rfl rfl rfl rfl) (.cons kT1 .nil) ⟨dO,Has.each_nil,Has.pure rfl,trivial⟩ rfl
      have hc174:=fN hc174;refine bK<|cA<|bB<|sr<|sp hT ?_;refine gZ (cS Tryz.func137 rfl rfl) (oB bl A c toks (k) e b1 b5 b4 _ _ st (by omega) (by omega)) rfl rfl rfl rfl rfl rfl rfl (.cons .head (.cons kT8 (.cons kT2 (.cons kT2 .nil)))) ⟨(Has.of bEt),(Has.of mT1),trivial⟩ fun⟨⟨A49,c50⟩,b51⟩=>?_;refine bV (tnF (some (b51,(qK (bU toks (k) e true)))::st)) (uN (Has.of mT3) dO) ?_;refine cE rfl rfl rfl rfl yC rfl fun b52=>?_;refine sto hT .head ?_;refine nn<|sr<|ss (ldN hT (bL .head)) ?_;refine ss (bY rfl rfl (vU)) ?_;refine ss (fD ⟨(bU toks (k) e true).flt.1,(bU toks (k) e true).flt.2⟩ ⟨0,0⟩ rfl rfl rfl) ?_;refine nn<|bH rfl (fun hc190=>?_) (fun hc190=>?_)
      · have hc190:=gC hc190;refine bA<|cU _ _ [(true,0),(true,1),(false,2)] cY (by decide+kernel) (.cons .head (.cons .head (.cons .head (.cons .head (.cons .head (.cons .head (.cons .head (.cons .head (.cons .head (.cons .head .nil)))))))))) bF.self ?_;refine stM rfl (ldN hT (bL .head)) ?_;refine puM hT ?_;refine cC (o:=_) rfl ?_;refine sto hT kT10 ?_;refine cB (.cons kT1 (.cons kT1 (.cons kT1 (.cons kT1 (.cons kT1 (.cons kT1 (.cons kT1 (.cons kT1 (.cons kT1 (.cons kT1 .nil)))))))))) (bF.drop 0) ?_;refine cK<|bB<|bG<|bI<|bC<|bI ?_;have hr:=(pG hinv30.1 (by first | exact .inl (by omega) | exact .inr (.inl (by assumption)) | exact .inr (.inr (by assumption))) (by omega) (by omega) (by assumption)).2 hc190;subst hr;exact bM (none,0,[],_) rfl (bD rfl) (bN hT (bL .head) rfl rfl rfl rfl) (.cons kT2 .nil) ⟨dO,Has.each_nil,Has.pure rfl,trivial⟩ rfl
      have hc190:=fN hc190;have he:=(pG hinv30.1 (by first | exact .inl (by omega) | exact .inr (.inl (by assumption)) | exact .inr (.inr (by assumption))) (by omega) (by omega) (by assumption)).1 hc190;refine bK<|cA<|bB ?_;exact cP ((bU toks (k) e true).next,o,out,(some (b51,(qK (bU toks (k) e true)))::st),_,_,_,_) (by have:=he.1;first | (have:=dR toks k e false;dsimp only;omega) | (have:=dR toks k e true;dsimp only;omega)) ⟨rfl,trivial⟩ ⟨rfl,rfl,rfl,rfl,rfl,rfl,trivial⟩ (.cons kT1 (.cons kT4 (.cons kT4 (.cons kT2 (.cons kT2 (.cons kT5 (.cons kT1 .nil))))))) ⟨Has.pure (⟨he,hinv30.2.1,hinv30.2.2.1,by have:=dR toks k e true;first | omega | (simp;omega),he.1⟩),Has.of mT1,Has.of mT0,Has.of mT5,trivial⟩ (bF.drop 13)
    have hg133:=beq_eq_false_iff_ne.1 hg133;refine sk3 ?_;refine sp hT ?_;refine nn<|cN rfl rfl ?_;refine cW<|cM<|cM<|cX<|bB<|bA<|bT<|sr<|sp hT ?_;refine ss (ldO hT (bL kT5)) ?_;refine sp2 hT ?_;refine cF (fun hg160=>?_) (fun hg160=>?_)
    · have hg160:=eq_of_beq hg160;refine sp4 hT ?_;refine nn<|bH rfl (fun hc156=>?_) (fun hc156=>?_)
      · have hc156:=of_decide_eq_true hc156;refine sr<|ss (ldO hT (bL kT9)) ?_;refine bO Tryz.func74 (cV bl A c toks (k) e _) rfl rfl (.cons .head .nil) ⟨Has.of bEt,trivial⟩ fun _=>?_;refine sp hT ?_;refine sto hT kT8 ?_;refine nn<|bG<|bI<|bC<|bI<|bC<|bI ?_;have hr:=bJp hinv30.1 (by assumption) (by omega);subst hr;exact bM (none,0,[],_) rfl (bD rfl) (bN hT (bL .head) rfl rfl rfl rfl) (.cons kT1 .nil) ⟨dO,Has.each_nil,Has.pure rfl,trivial⟩ rfl
      have hc156:=Int.not_lt.1 (of_decide_eq_false hc156);refine sr<|sp hT ?_;refine ss (ldO hT (bL kT5)) ?_;refine sp hT ?_;refine cH (t':=true) (by rw [hg160];rfl) ?_;refine sp hT ?_;refine nn<|cI rfl rfl ?_;refine sr<|sp hT ?_;refine gZ (cS Tryz.func136 rfl rfl) (oC b5 b4 _ _ st _ _ out (by omega)) rfl rfl rfl rfl rfl rfl rfl (.cons kT3 (.cons kT3 (.cons kT1 (.cons kT1 .nil)))) ⟨(Has.of mT1),trivial⟩ fun⟨⟨D53,f54⟩,⟨C55,e56⟩⟩=>?_;refine bV (mI (out++(finP st).1)) (sR (Has.of mT4) (Has.of mT3)) ?_;refine bV (tnF (finP st).2) (bBh (Has.of mT4)) ?_;have hfl:=uD st;refine nn<|sr<|ss (ldO hT (bL kT2)) ?_;refine ss (bY rfl rfl (vU)) ?_;refine sp hT ?_;refine sto hT kT8 ?_;refine nn<|bG<|bI<|bC<|bI<|bC<|bI ?_;have hr:=bFi hinv30.1 (by assumption) (by omega);subst hr;refine bX kT4 ?_;exact bM (_,_,(out++(finP st).1),_) rfl (bD rfl) (bN hT (bL .head) rfl rfl rfl rfl) (.cons kT4 .nil) ⟨Has.of mT0,(Has.of mT2),Has.pure rfl,trivial⟩ rfl
    have hg160:=beq_eq_false_iff_ne.1 hg160;refine sk2 ?_;refine sp2 hT ?_;refine nn<|cN rfl rfl ?_;refine sr<|sp hT ?_;refine ss (ldO hT (bL kT5)) ?_;refine sp hT ?_;refine cH (t':=false) (beq_eq_false_iff_ne.2 hg160) ?_;refine sp hT ?_;refine nn<|cN rfl rfl ?_;refine sr<|sp hT ?_;refine ss (ldO hT (bL kT5)) ?_;refine sp2 hT ?_;refine cF (fun hg178=>?_) (fun hg178=>?_)
    · have hg178:=eq_of_beq hg178;refine sk4 ?_;refine sp2 hT ?_;refine nn<|cI rfl rfl ?_;refine sr<|ss (ldO hT (bL kT9)) ?_;refine bO Tryz.func74 (cV bl A c toks (k) e _) rfl rfl (.cons .head .nil) ⟨Has.of bEt,trivial⟩ fun _=>?_;refine sp hT ?_;refine sto hT kT8 ?_;refine nn<|bG<|bI<|bC<|bI<|bC<|bI ?_;have hr:=sM hinv30.1 (by first | exact .inl (by omega) | exact .inr (.inl (by assumption)) | exact .inr (.inr (by assumption))) (by omega) (by first | exact .inr (by assumption) | exact .inl (by omega));subst hr;exact bM (none,0,[],_) rfl (bD rfl) (bN hT (bL .head) rfl rfl rfl rfl) (.cons kT1 .nil) ⟨dO,Has.each_nil,Has.pure rfl,trivial⟩ rfl
    have hg178:=beq_eq_false_iff_ne.1 hg178;refine sp hT ?_;refine ss (ldO hT (fE kT5)) ?_;refine bO Tryz.func135 (nS _) rfl rfl .nil trivial fun _=>?_;refine sp3 hT ?_;refine nn<|bH rfl (fun hc174=>?_) (fun hc174=>?_)
    · have hc174:=gC hc174;refine sr<|ss (ldO hT (bL kT9)) ?_;refine bO Tryz.func74 (cV bl A c toks (k) e _) rfl rfl (.cons .head .nil) ⟨Has.of bEt,trivial⟩ fun _=>?_;refine sp hT ?_;refine sto hT kT8 ?_;refine nn<|bG<|bI<|bC<|bI<|bC<|bI ?_;have hr:=sM hinv30.1 (by first | exact .inl (by omega) | exact .inr (.inl (by assumption)) | exact .inr (.inr (by assumption))) (by omega) (by first | exact .inr (by assumption) | exact .inl (by omega));subst hr;exact bM (none,0,[],_) rfl (bD rfl) (bN hT (bL .head) rfl rfl rfl rfl) (.cons kT1 .nil) ⟨dO,Has.each_nil,Has.pure rfl,trivial⟩ rfl
    have hc174:=fN hc174;refine bK<|cA<|bB<|sr<|sp hT ?_;refine gZ (cS Tryz.func137 rfl rfl) (oB bl A c toks (k) e b1 b5 b4 _ _ st (by omega) (by omega)) rfl rfl rfl rfl rfl rfl rfl (.cons .head (.cons kT8 (.cons kT2 (.cons kT2 .nil)))) ⟨(Has.of bEt),(Has.of mT1),trivial⟩ fun⟨⟨A57,c58⟩,b59⟩=>?_;refine bV (tnF (some (b59,(qK (bU toks (k) e true)))::st)) (uN (Has.of mT3) dO) ?_;refine cE rfl rfl rfl rfl yC rfl fun b60=>?_;refine sto hT .head ?_;refine nn<|sr<|ss (ldN hT (bL .head)) ?_;refine ss (bY rfl rfl (vU)) ?_;refine ss (fD ⟨(bU toks (k) e true).flt.1,(bU toks (k) e true).flt.2⟩ ⟨0,0⟩ rfl rfl rfl) ?_;refine nn<|bH rfl (fun hc190=>?_) (fun hc190=>?_)
    · have hc190:=gC hc190;refine bA<|cU _ _ [(true,0),(true,1),(false,2)] cY (by decide+kernel) (.cons .head (.cons .head (.cons .head (.cons .head (.cons .head (.cons .head (.cons .head (.cons .head (.cons .head (.cons .head .nil)))))))))) bF.self ?_;refine stM rfl (ldN hT (bL .head)) ?_;refine puM hT ?_;refine cC (o:=_) rfl ?_;refine sto hT kT10 ?_;refine cB (.cons kT1 (.cons kT1 (.cons kT1 (.cons kT1 (.cons kT1 (.cons kT1 (.cons kT1 (.cons kT1 (.cons kT1 (.cons kT1 .nil)))))))))) (bF.drop 0) ?_;refine cK<|bB<|bG<|bI<|bC<|bI ?_;have hr:=(pG hinv30.1 (by first | exact .inl (by omega) | exact .inr (.inl (by assumption)) | exact .inr (.inr (by assumption))) (by omega) (by omega) (by assumption)).2 hc190;subst hr;exact bM (none,0,[],_) rfl (bD rfl) (bN hT (bL .head) rfl rfl rfl rfl) (.cons kT2 .nil) ⟨dO,Has.each_nil,Has.pure rfl,trivial⟩ rfl
    have hc190:=fN hc190;have he:=(pG hinv30.1 (by first | exact .inl (by omega) | exact .inr (.inl (by assumption)) | exact .inr (.inr (by assumption))) (by omega) (by omega) (by assumption)).1 hc190;refine bK<|cA<|bB ?_;exact cP ((bU toks (k) e true).next,o,out,(some (b59,(qK (bU toks (k) e true)))::st),_,_,_,_) (by have:=he.1;first | (have:=dR toks k e false;dsimp only;omega) | (have:=dR toks k e true;dsimp only;omega)) ⟨rfl,trivial⟩ ⟨rfl,rfl,rfl,rfl,rfl,rfl,trivial⟩ (.cons kT1 (.cons kT4 (.cons kT4 (.cons kT2 (.cons kT2 (.cons kT5 (.cons kT1 .nil))))))) ⟨Has.pure (⟨he,hinv30.2.1,hinv30.2.2.1,by have:=dR toks k e true;first | omega | (simp;omega),he.1⟩),Has.of mT1,Has.of mT0,Has.of mT5,trivial⟩ (bF.drop 13)
  have hg128:=Int.not_lt.1 (of_decide_eq_false hg128);refine sk3 ?_;refine sp2 hT ?_;refine sk3 ?_;refine sp hT ?_;refine nn<|cN rfl rfl ?_;refine cW<|cM<|cM<|cX<|bB<|bA<|bT<|sr<|sp hT ?_;refine ss (ldO hT (bL kT5)) ?_;refine sp2 hT ?_;refine cF (fun hg160=>?_) (fun hg160=>?_)
  · have hg160:=eq_of_beq hg160;refine sp4 hT ?_;refine nn<|bH rfl (fun hc156=>?_) (fun hc156=>?_)
    · have hc156:=of_decide_eq_true hc156;refine sr<|ss (ldO hT (bL kT9)) ?_;refine bO Tryz.func74 (cV bl A c toks (k) e _) rfl rfl (.cons .head .nil) ⟨Has.of bEt,trivial⟩ fun _=>?_;refine sp hT ?_;refine sto hT kT8 ?_;refine nn<|bG<|bI<|bC<|bI<|bC<|bI ?_;have hr:=bJp hinv30.1 (by assumption) (by omega);subst hr;exact bM (none,0,[],_) rfl (bD rfl) (bN hT (bL .head) rfl rfl rfl rfl) (.cons kT1 .nil) ⟨dO,Has.each_nil,Has.pure rfl,trivial⟩ rfl
    have hc156:=Int.not_lt.1 (of_decide_eq_false hc156);refine sr<|sp hT ?_;refine ss (ldO hT (bL kT5)) ?_;refine sp hT ?_;refine cH (t':=true) (by rw [hg160];rfl) ?_;refine sp hT ?_;refine nn<|cI rfl rfl ?_;refine sr<|sp hT ?_;refine gZ (cS Tryz.func136 rfl rfl) (oC b5 b4 _ _ st _ _ out (by omega)) rfl rfl rfl rfl rfl rfl rfl (.cons kT3 (.cons kT3 (.cons kT1 (.cons kT1 .nil)))) ⟨(Has.of mT1),trivial⟩ fun⟨⟨D61,f62⟩,⟨C63,e64⟩⟩=>?_;refine bV (mI (out++(finP st).1)) (sR (Has.of mT4) (Has.of mT3)) ?_;refine bV (tnF (finP st).2) (bBh (Has.of mT4)) ?_;have hfl:=uD st;refine nn<|sr<|ss (ldO hT (bL kT2)) ?_;refine ss (bY rfl rfl (vU)) ?_;refine sp hT ?_;refine sto hT kT8 ?_;refine nn<|bG<|bI<|bC<|bI<|bC<|bI ?_;have hr:=bFi hinv30.1 (by assumption) (by omega);subst hr;refine bX kT4 ?_;exact bM (_,_,(out++(finP st).1),_) rfl (bD rfl) (bN hT (bL .head) rfl rfl rfl rfl) (.cons kT4 .nil) ⟨Has.of mT0,(Has.of mT2),Has.pure rfl,trivial⟩ rfl
  have hg160:=beq_eq_false_iff_ne.1 hg160;refine sk2 ?_;refine sp2 hT ?_;refine nn<|cN rfl rfl ?_;refine sr<|sp hT ?_;refine ss (ldO hT (bL kT5)) ?_;refine sp hT ?_;refine cH (t':=false) (beq_eq_false_iff_ne.2 hg160) ?_;refine sp hT ?_;refine nn<|cN rfl rfl ?_;refine sr<|sp hT ?_;refine ss (ldO hT (bL kT5)) ?_;refine sp2 hT ?_;refine cF (fun hg178=>?_) (fun hg178=>?_)
  · have hg178:=eq_of_beq hg178;refine sk4 ?_;refine sp2 hT ?_;refine nn<|cI rfl rfl ?_;refine sr<|ss (ldO hT (bL kT9)) ?_;refine bO Tryz.func74 (cV bl A c toks (k) e _) rfl rfl (.cons .head .nil) ⟨Has.of bEt,trivial⟩ fun _=>?_;refine sp hT ?_;refine sto hT kT8 ?_;refine nn<|bG<|bI<|bC<|bI<|bC<|bI ?_;have hr:=sM hinv30.1 (by first | exact .inl (by omega) | exact .inr (.inl (by assumption)) | exact .inr (.inr (by assumption))) (by omega) (by first | exact .inr (by assumption) | exact .inl (by omega));subst hr;exact bM (none,0,[],_) rfl (bD rfl) (bN hT (bL .head) rfl rfl rfl rfl) (.cons kT1 .nil) ⟨dO,Has.each_nil,Has.pure rfl,trivial⟩ rfl
  have hg178:=beq_eq_false_iff_ne.1 hg178;refine sp hT ?_;refine ss (ldO hT (fE kT5)) ?_;refine bO Tryz.func135 (nS _) rfl rfl .nil trivial fun _=>?_;refine sp3 hT ?_;refine nn<|bH rfl (fun hc174=>?_) (fun hc174=>?_)
  · have hc174:=gC hc174;refine sr<|ss (ldO hT (bL kT9)) ?_;refine bO Tryz.func74 (cV bl A c toks (k) e _) rfl rfl (.cons .head .nil) ⟨Has.of bEt,trivial⟩ fun _=>?_;refine sp hT ?_;refine sto hT kT8 ?_;refine nn<|bG<|bI<|bC<|bI<|bC<|bI ?_;have hr:=sM hinv30.1 (by first | exact .inl (by omega) | exact .inr (.inl (by assumption)) | exact .inr (.inr (by assumption))) (by omega) (by first | exact .inr (by assumption) | exact .inl (by omega));subst hr;exact bM (none,0,[],_) rfl (bD rfl) (bN hT (bL .head) rfl rfl rfl rfl) (.cons kT1 .nil) ⟨dO,Has.each_nil,Has.pure rfl,trivial⟩ rfl
  have hc174:=fN hc174;refine bK<|cA<|bB<|sr<|sp hT ?_;refine gZ (cS Tryz.func137 rfl rfl) (oB bl A c toks (k) e b1 b5 b4 _ _ st (by omega) (by omega)) rfl rfl rfl rfl rfl rfl rfl (.cons .head (.cons kT8 (.cons kT2 (.cons kT2 .nil)))) ⟨(Has.of bEt),(Has.of mT1),trivial⟩ fun⟨⟨A65,c66⟩,b67⟩=>?_;refine bV (tnF (some (b67,(qK (bU toks (k) e true)))::st)) (uN (Has.of mT3) dO) ?_;refine cE rfl rfl rfl rfl yC rfl fun b68=>?_;refine sto hT .head ?_;refine nn<|sr<|ss (ldN hT (bL .head)) ?_;refine ss (bY rfl rfl (vU)) ?_;refine ss (fD ⟨(bU toks (k) e true).flt.1,(bU toks (k) e true).flt.2⟩ ⟨0,0⟩ rfl rfl rfl) ?_;refine nn<|bH rfl (fun hc190=>?_) (fun hc190=>?_)
  · have hc190:=gC hc190;refine bA<|cU _ _ [(true,0),(true,1),(false,2)] cY (by decide+kernel) (.cons .head (.cons .head (.cons .head (.cons .head (.cons .head (.cons .head (.cons .head (.cons .head (.cons .head (.cons .head .nil)))))))))) bF.self ?_;refine stM rfl (ldN hT (bL .head)) ?_;refine puM hT ?_;refine cC (o:=_) rfl ?_;refine sto hT kT10 ?_;refine cB (.cons kT1 (.cons kT1 (.cons kT1 (.cons kT1 (.cons kT1 (.cons kT1 (.cons kT1 (.cons kT1 (.cons kT1 (.cons kT1 .nil)))))))))) (bF.drop 0) ?_;refine cK<|bB<|bG<|bI<|bC<|bI ?_;have hr:=(pG hinv30.1 (by first | exact .inl (by omega) | exact .inr (.inl (by assumption)) | exact .inr (.inr (by assumption))) (by omega) (by omega) (by assumption)).2 hc190;subst hr;exact bM (none,0,[],_) rfl (bD rfl) (bN hT (bL .head) rfl rfl rfl rfl) (.cons kT2 .nil) ⟨dO,Has.each_nil,Has.pure rfl,trivial⟩ rfl
  have hc190:=fN hc190;have he:=(pG hinv30.1 (by first | exact .inl (by omega) | exact .inr (.inl (by assumption)) | exact .inr (.inr (by assumption))) (by omega) (by omega) (by assumption)).1 hc190;refine bK<|cA<|bB ?_;exact cP ((bU toks (k) e true).next,o,out,(some (b67,(qK (bU toks (k) e true)))::st),_,_,_,_) (by have:=he.1;first | (have:=dR toks k e false;dsimp only;omega) | (have:=dR toks k e true;dsimp only;omega)) ⟨rfl,trivial⟩ ⟨rfl,rfl,rfl,rfl,rfl,rfl,trivial⟩ (.cons kT1 (.cons kT4 (.cons kT4 (.cons kT2 (.cons kT2 (.cons kT5 (.cons kT1 .nil))))))) ⟨Has.pure (⟨he,hinv30.2.1,hinv30.2.2.1,by have:=dR toks k e true;first | omega | (simp;omega),he.1⟩),Has.of mT1,Has.of mT0,Has.of mT5,trivial⟩ (bF.drop 13)
end Go.Proofs.YtbgdphbebhjpiaaGreatDoor
