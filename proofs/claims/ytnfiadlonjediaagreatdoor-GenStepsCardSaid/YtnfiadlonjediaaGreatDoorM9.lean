/- Texts of one proof, one behind the other: SortK, PlanA, CopyE. -/
import Derived.Test.YtnfiadlonjediaaGreatDoorM8
import Derived.Test.YtnfiadlonjediaaGreatDoorM7
import Derived.Test.YtnfiadlonjediaaGreatDoorShelfK
import Derived.Test.YtnfiadlonjediaaGreatDoorM6
import Derived.Test.YtnfiadlonjediaaGreatDoorM4
import Derived.Laws.IdiomCopy
set_option maxRecDepth 100000
namespace Go.Proofs.YtnfiadlonjediaaGreatDoor
open Value renaming int->V9
open World renaming cell?->j7,frozen?->W2
open _root_.List renaming getElem?_map->I7,getElem?_eq_some_iff->D9,getElem?_eq_getElem->D7,length_mergeSort->W3,mem_cons_self->D5,length_map->K3,length_filter_le->R9,replicate->T9,mem_map->K7,mem_range->W4,mem_filter->R8,mem_mergeSort->W6,take_add_one->W7,take_of_length_le->V2,length_take->W8,take_append_drop->W9,take_append_of_le_length->K8,drop_of_length_le->R5,nil_append->X0,take->X1,length_replicate->X2
open Lib renaming compact->X3,compactUpTo->X4
open _root_.Nat renaming le_trans->B9,min->X5,min_eq_left->X6,min_le_left->X7,min_le_right->X8
open Builtin renaming copy_->N5,lenOf->M8,firstCells->M9
open IntKind renaming wrap->G3,bits->G5,signed->G4
section
open Go.RowKit Go.Sort Go.Proofs.Tryz
section
variable {g off cap : Nat} {xs ys : List Int} {w w' : World}
theorem ints_all(xs:List Int):cK.all xs=xs.map (V9 .i64):=by
 induction xs with
 |nil=>rfl
 |cons x r ih=>
  rw[List.map_cons,<-ih];rfl
theorem bBt(h:Holds (V9 .i64) w g off xs.toArray):(cK.held (.slice (some ⟨g,off,none⟩) xs.length cap) xs).ok w:=by
 cases xs with
 |nil=>exact⟨_,_,rfl,.inl rfl⟩
 |cons x r=>
  obtain⟨h0,_⟩:=h 0 n4;unfold j7 at h0
  cases b:w.heap[g]? with
  |none=>simp[b]at h0
  |some o=>
   cases o with
   |cells cs t fz=>
    refine⟨_,_,rfl,.inr ⟨g,off,cs,t,fz,rfl,b,λj u a=>?_⟩⟩;rw[ints_all,I7]at a
    cases hx:(x::r)[j]? with
    |none=>rw[hx]at a;cases a
    |some z=>
     rw[hx]at a;cases a;have hlt:=(D9.1 hx).1;obtain⟨h1,c⟩:=h j p7
     have hz:(x::r).toArray[j]! =z:=by
      rw[getElem!_pos _ j p7]
      simpa using (D9.1 hx).2
     rw[hz]at h1;refine⟨?_,?_⟩
     .unfold j7 at h1;simp only[b]at h1
      simpa using h1
     .unfold W2 at c;simp only[b]at c;exact c
   |_=>simp[b]at h0
theorem bBo(h:(cK.held (.slice (some ⟨g,off,none⟩) xs.length cap) xs).ok w):Holds (V9 .i64) w g off xs.toArray:=λj d=>by
 have hlt:j<xs.length:=by simpa using d
 obtain⟨k,a,c,m,t,l,e,_,b,f⟩:=sD h hlt;injection e with e
 injection e with e
 injection e with e1 e2
 subst e1 e2
 have hz:xs.toArray[j]! =xs[j]:=by
  rw[getElem!_pos _ j p7];simp
 obtain⟨h1,i⟩:=f j (.int .i64 xs[j]) (by rw[ints_all,I7,D7 hlt];rfl);rw[hz];refine⟨?_,?_⟩
 .unfold j7;simp only[b]
  simpa using h1
 .unfold W2;simp only[b];exact i
theorem kept_put(d:Array Int)(n:Nat)(os:Array Obj):oM (λb=>b=g) w (grow (putRow (V9 .i64) (Sort.ahead w n) g off d) os) where
 os:=rfl
 tape:=rfl
 output:=rfl
 size:=by
  show w.heap.size<=((w.heap.modify g _)++os).size;simp
 block:=λb hb a=>by
  show((w.heap.modify g _)++os)[b]?=_;rw[Array.getElem?_append_left (by simpa using hb),Array.getElem?_modify,if_neg (Ne.symm a)]
theorem holds_pre(h:Holds (V9 .i64) w g off (xs++ys).toArray):Holds (V9 .i64) w g off xs.toArray:=λj a=>by
 have hlt:j<xs.length:=by simpa using a
 have:=h j n9
 have e:(xs++ys).toArray[j]! =xs.toArray[j]!:=by
  rw[getElem!_pos _ j n9,getElem!_pos _ j p7];simp[List.getElem_append_left hlt]
 rwa[e]at this
end
def leB (x y:Int):Bool:=decide (x<=y)
def yS (l:List Int):List Int:=l.mergeSort leB
theorem bAw(l:List Int):(yS l).length=l.length:=W3 l
theorem held_blk{A:Option Addr}{cap n:Nat}{x:Int}{r xs:List Int}(h:xs.length=(x::r).length):(cK.held (.slice A n cap) xs).blk=(cK.held (.slice A n cap) (x::r)).blk:=by
 cases xs with
 |nil=>cases h
 |cons y s=>rfl
theorem sort_spec(A:Option Addr)(cap:Nat)(xs:List Int)(hl:xs.length<=140737488355328):bZ prog 161 [.slice A xs.length cap] [cK.held (.slice A xs.length cap) xs] [] (λ_:Unit=> .tuple #[]) (λ_=>[cK.held (.slice A xs.length cap) (yS xs)]) (λ_=>[]):=λS w s k=>by
 cases hx:xs with
 |nil=>
  refine(Tryz.slices_Sort_int_none A cap w).mono ?_;rintro e w' ⟨rfl,rfl⟩;subst hx;rw[show yS ([]:List Int)=[] by simp[yS]];exact⟨(),S,rfl,s,λg hg=>by simp at hg⟩
 |cons x r=>
  have b:=s.ok _ (D5 ..);have h1:0<xs.length:=by rw[hx];simp
  obtain⟨g,off,j,p,t,o,e,a,l,m⟩:=sD b h1;injection e with e1 e2 e3
  subst e1 e3;have i:=bBo b;have hg:g<w.heap.size:=(s.own _ (D5 ..) g a).1;rw[<-hx];refine(Tryz.slices_Sort_int g off cap xs w i hg k9).mono ?_;rintro e w' ⟨rfl,n,h,rfl⟩;have f:=holds_grow (V9 .i64) _ h g off _ (by show g<(w.heap.modify g _).size;simpa using hg) (holds_putRow (V9 .i64) (Sort.ahead w n) g off xs.toArray (xs.mergeSort λx y=>decide (x<=y)).toArray (holds_ahead _ w n g off _ i) n4);have c:(yS xs).length=xs.length:=bAw xs
  have d:(cK.held (.slice (some ⟨g,off,none⟩) xs.length cap) (yS xs)).blk=some g:=by
   rw[<-a];subst hx;exact held_blk c
  refine⟨(),S,rfl,s.swap (kept_put _ n h) a d ?_,λg hg=>by simp at hg⟩;have:=bBt (cap:=cap) f;rw[W3]at this;exact this
theorem compact_spec(A:Option Addr)(cap:Nat)(xs:List Int)(hl:xs.length<=140737488355328)(hcap:xs.length<=cap):bZ prog 162 [.slice A xs.length cap] [cK.held (.slice A xs.length cap) xs] [] (λ_:Unit=> .slice A (X3 xs).length cap) (λ_=>[cK.held (.slice A (X3 xs).length cap) (X3 xs)]) (λ_=>[]):=λS w s k=>by
 cases hx:xs with
 |nil=>
  refine(Tryz.slices_Compact_int_empty A cap w).mono ?_;rintro e w' ⟨rfl,rfl⟩;subst hx;exact⟨(),S,rfl,s,λg hg=>by simp at hg⟩
 |cons x r=>
  have d:=s.ok _ (D5 ..);have h1:0<xs.length:=by rw[hx];simp
  obtain⟨g,off,n,v,t,u,e,c,p,j⟩:=sD d h1;injection e with e1 e2 e3
  subst e1 e3;have m:=bBo d;rw[<-hx];refine(Tryz.slices_Compact_int g off cap xs w m k9 hcap).mono ?_;rintro e w' ⟨rfl,q,rfl⟩
  have o:(X3 xs).length<=xs.length:=by
   unfold X3 X4;rw[K3];exact B9 (R9 ..) n4
  have l:=holds_putRow (V9 .i64) (Sort.ahead w q) g off xs.toArray (X3 xs++T9 (xs.length-(X3 xs).length) 0).toArray (holds_ahead _ w q g off _ m) n9
  have f:oM (λb=>b=g) w (putRow (V9 .i64) (Sort.ahead w q) g off (X3 xs++T9 (xs.length-(X3 xs).length) 0).toArray):=⟨rfl,rfl,rfl,by show w.heap.size<=(w.heap.modify g _).size;simp,λb hb i=>by show(w.heap.modify g _)[b]?=_;rw[Array.getElem?_modify,if_neg (Ne.symm i)]⟩
  have a:=bBt (cap:=cap) (holds_pre l)
  cases j:X3 xs with
  |nil=>
   rw[j]at f a;have h:=s.swap f c (c':= .gen (some g) λ_=>True) rfl trivial;refine⟨(),S,rfl,?_,λg hg=>by simp at hg⟩;exact h.recast' (λb hb=>by cases hb) a
  |cons y t'=>
   rw[j]at f a;have h:=s.swap f c (c':=cK.held (.slice (some ⟨g,off,none⟩) (y::t').length cap) (y::t')) rfl a;exact⟨(),S,rfl,h,λg hg=>by simp at hg⟩
theorem compact_sub(xs:List Int): ∀z,z∈X3 xs->z∈xs:=λz hz=>by
 unfold X3 X4 at hz;obtain⟨j,a,rfl⟩:=K7.1 hz;have hlt:=W4.1 (R8.1 a).1;rw[getElem!_pos _ j p7];simp
theorem bJy(xs:List Int): ∀(j:Nat) (z:Int),xs[j]?=some z->z∈X3 xs
 |0,z,h=>by
  have hlt:=(D9.1 h).1;refine K7.2 ⟨0,R8.2 ⟨W4.2 hlt,Lib.keeps_lt_one _ 0 l5⟩,?_⟩;rw[getElem!_pos _ 0 p7]
  simpa using (D9.1 h).2
 |j+1,z,h=>by
  have hlt:=(D9.1 h).1
  have hz:xs.toArray[j+1]! =z:=by
   rw[getElem!_pos _ (j+1) p7]
   simpa using (D9.1 h).2
  by_cases e:xs.toArray[j+1]! =xs.toArray[j]!
  .have a:xs[j]?=some z:=by
    rw[D7 k9];rw[hz,getElem!_pos _ j n9]at e;rw[e];simp
   exact bJy xs j z a
  .exact K7.2 ⟨j+1,R8.2 ⟨W4.2 hlt,Lib.keeps_pos (m:=j+1) e⟩,hz⟩
theorem mem_uses{xs:List Int}{z:Int}:z∈X3 (yS xs)↔z∈xs:=by
 constructor
 .exact λh=>W6.1 (compact_sub _ z h)
 .intro h;obtain⟨j,a⟩:=List.mem_iff_getElem?.1 (W6.2 h:z∈yS xs);exact bJy _ j z a
theorem uses_len{xs:List Int}:(X3 (yS xs)).length<=xs.length:=by
 unfold X3 X4;rw[K3];refine B9 (R9 ..) ?_;rw[List.length_range,bAw];exact Nat.le_refl _
def tX (l:List OpV):List Int:=(l.filter λo=>o.how==4).map (·.k)
def oH (l:List OpV):List Int:=X3 (yS (tX l))
theorem bVh(l:List OpV):(tX l).length<=l.length:=by
 unfold tX;rw[K3];exact R9 ..
theorem usesV_len(l:List OpV):(oH l).length<=l.length:=B9 uses_len (bVh l)
section
variable {l : List OpV} {i : Nat} {o : OpV} {us : List Int}
theorem uses_yes(h:us=tX (l.take i))(ho:l[i]?=some o)(e:o.how=4):us++[o.k]=tX (l.take (i+1)):=by
 subst h;rw[W7,ho];simp[tX,e]
theorem uses_no(h:us=tX (l.take i))(ho:l[i]?=some o)(e:o.how≠4):us=tX (l.take (i+1)):=by
 subst h;rw[W7,ho];simp[tX,e]
theorem uses_full(h:us=tX (l.take i))(hi:l.length<=i):us=tX l:=by rw[h,V2 hi]
theorem bIl{z:Int}:z∈oH l↔ ∃o∈l,o.how=4/\o.k=z:=by
 unfold oH;rw[mem_uses];simp[tX,and_assoc]
end
theorem uses_spec(A:Option Addr)(c:Nat)(l:List OpV)(hl:l.length<=17592186044416):bZ prog 89 [.slice A l.length c] [] [opE.sl (.slice A l.length c) l] (λ(x:Option Addr×Nat)=> .slice x.1 (oH l).length x.2) (λ_=>[]) (λ(x:Option Addr×Nat)=>[cK.sl (.slice x.1 (oH l).length x.2) (oH l)]):=by
 have hT:=fK;refine i7 func89 ntmps89 ?_;intro β hM;refine g19 ?_;refine cG (t:=3) cK ?_;refine bY (ι:=Nat×List Int×Option Addr×Nat) [(6,_),(7,_)] ⟨rfl,rfl,e8⟩ (λ⟨i,us,UA,uc⟩=>[(3,.slice UA us.length uc),(8,.int .i64 (i:Nat))]) (λ⟨i,us,UA,uc⟩=>[cK.row (.slice UA us.length uc) 3 us]) (λ⟨i,us,UA,uc⟩=>[bE.pure (i<=l.length/\us=tX (l.take i))]) (λ⟨i,us,UA,uc⟩=>l.length-i) (0,[],none,0) ⟨rfl,rfl,e8⟩ (.c0 .nil) ⟨e9 (⟨k9,rfl⟩),e8⟩ ?_;rintro⟨i,us,UA,uc⟩;dsimp only;refine bM d7 λa=>?_;have n:us.length<=i:=by rw[a.2];exact B9 (bVh _) (List.length_take_le ..)
 refine g6 ?_;refine fD (λf=>?_) λf=>?_
 .refine g6 ?_;obtain⟨g,b⟩:=gx l i;refine ss (ixs i) ?_;refine ss (kV b 0) ?_;refine f9 bDo λr=>?_;refine g10 ?_;refine fG (λd=>?_) λd=>?_
  .refine g4 ?_;refine at_one_int (m:=g.k) rfl rfl rfl rfl rfl λq=>?_;refine at_app_int kT2 (fZ .head rfl) rfl rfl rfl rfl rfl rfl rfl n9 λp c6=>?_;refine g6 ?_;refine inc (i+1) ?_;refine g3 ?_;exact bk2 (i+1,us++[g.k],p,c6) ⟨e9 (⟨by dsimp only;omega,uses_yes a.2 b ‹_›⟩),e8⟩
  refine g5 ?_;refine inc (i+1) ?_;refine g3 ?_;exact bk2 (i+1,us,UA,uc) ⟨e9 (⟨by dsimp only;omega,uses_no a.2 b ‹_›⟩),e8⟩
 refine g6 ?_;have e:us=tX l:=uses_full a.2 k9;refine g2 ?_;refine bHh .head λh=>bEj .head ?_;refine bG func161 (sort_spec UA uc us k9) rfl rfl (.c0 .nil) e8 λ_=>?_;have o:=bAw us;refine g5 ?_;have j:=compact_spec UA uc (yS us) k9 k9;rw[bAw]at j;refine f7 func162 j (.c0 .nil) e8 λ_=>?_;refine xP .head ?_;refine g4 ?_;subst e;exact rs1 (UA,uc) ⟨d7,e8⟩
end
section
open Go.RowKit Go.Proofs.Tryz
theorem bKu{P:Program}(w:World)(dT sT ty elem:TypeId)(z b o dLen dCap:Nat)(a:Addr)(sLen sCap:Nat)(cs:List Value)
  (hu:P.underlying dT=some (.slice elem)) (hs:(P.info? elem).map (·.size)=some z) (hn:cs.length=X5 sLen dLen*z)
  (hsrc: ∀j v,cs[j]?=some v->w.cell? (a.add j)=some v) (hc: ∀j,j<cs.length->(w.cell? ⟨b,o+j,none⟩).isSome=true) (hf: ∀j,j<cs.length->w.frozen? ⟨b,o+j,none⟩=false) (h1: ∀v∈cs,v.oneCell'=true):
  (N5 #[dT,sT] ty #[.slice (some ⟨b,o,none⟩) dLen dCap,.slice (some a) sLen sCap]).run P w= .ok (goInt (X5 sLen dLen)) (w.setCells b o cs):=by
 have hl:=run_loadCells_list (P:=P) w a cs hsrc;have c:=run_storeCells_cells (P:=P) b o cs 0 w (by simpa using hc) (by simpa using hf) h1
 cases hq:P.info? elem with
 |none=>simp[hq]at hs
 |some i=>
  have d:i.size=z:=by simpa[hq]using hs
  rw[hn]at hl;simp[N5,run_underlying hu,M8,M9,sizeOf,typeInfo,hq,d,hl,c]
theorem bOo{P:Program}(w:World)(dT sT ty elem:TypeId)(z:Nat)(d a:Option Addr)(dLen dCap sLen sCap:Nat)(hu:P.underlying dT=some (.slice elem))(hs:(P.info? elem).map (·.size)=some z)(hn:X5 sLen dLen=0):
  (N5 #[dT,sT] ty #[.slice d dLen dCap,.slice a sLen sCap]).run P w= .ok (goInt 0) w:=by
 cases hq:P.info? elem with
 |none=>simp[hq]at hs
 |some i=>
  have hl: ∀(x:Addr),(loadCells x 0).run P w= .ok #[] w:=λx=>by simpa using run_loadCells_list (P:=P) w x [] n4
  cases d<;>cases a<;>simp[N5,run_underlying hu,M8,M9,sizeOf,typeInfo,hq,hn,storeCells,hl]
section
variable {α : Type} {E : Flat α} {β : dE} {H : List bC} {F : List bE}
theorem dO.cellsE{A:Option Addr}{xs:List α}{w:World}{S:jX}(hr:dO β H F E A xs)(s:St β H S w)(hF:All F S w)(h0:0<xs.length):
  ∃b off,A=some ⟨b,off,none⟩/\ ∀j u,(E.all xs)[j]?=some u->w.cell? ((⟨b,off,none⟩:Addr).add j)=some u:=by
 obtain⟨⟨b,off,rfl⟩,_⟩:=hr w S s hF 0 _ (D7 h0);refine⟨b,off,rfl,λj u f=>?_⟩;have hlt:=(D9.1 f).1;rw[E.all_length]at hlt;have k:j/E.size<xs.length:=Nat.div_lt_of_lt_mul (by rwa[Nat.mul_comm]at hlt);have h:j%E.size<E.size:=Nat.mod_lt _ E.pos;have a:=D7 k;have c:=D7 (l:=E.cells xs[j/E.size]) (i:=j%E.size) (by rw[E.len];exact h);have e:j/E.size*E.size+j%E.size=j:=by rw[Nat.mul_comm];exact Nat.div_add_mod j E.size
 have h1:=(hr w S s hF _ _ a).2 _ _ c;have d:=E.all_get a c;rw[e,f]at d;injection d with d
 have g:=h1.trans (congrArg some d.symm);rw[Nat.add_assoc,e]at g;rw[Addr.add_mid];exact g
theorem dO.preE{A:Option Addr}{xs:List α}(h:dO β H F E A xs)(r:Nat):dO β H F E A (xs.take r):=λw S s b k x a=>by
 rw[List.getElem?_take]at a;split at a
 .exact h w S s b k x a
 .cases a
theorem all_take(xs:List α)(q:Nat)(h:q<=xs.length):(E.all xs).take (q*E.size)=E.all (xs.take q):=by
 have e:(E.all (xs.take q)).length=q*E.size:=by rw[E.all_length,W8,X6 h]
 conv=>lhs;rw[<-W9 q xs,E.all_append]
 rw[K8 k9,V2 k9]
theorem all_drop(xs:List α)(q:Nat)(h:q<=xs.length):(E.all xs).drop (q*E.size)=E.all (xs.drop q):=by
 have e:(E.all (xs.take q)).length=q*E.size:=by rw[E.all_length,W8,X6 h]
 conv=>lhs;rw[<-W9 q xs,E.all_append]
 rw[List.drop_append_of_le_length k9,R5 k9,X0]
theorem bEl{P:Program}{n:Nat}{Γ:Env}{Q:Exit->Act->World->Prop}{ops:Array Oper}{rest:List Oper}{o:Oper}{d:Nat}{x y:Operand}{t e t':TypeId}{g c cap m q off l lc s:Nat}{A:Option Addr}{xs ys:List α}{H':List bC}(hr:dO β H F E A ys)(hw:want ops Γ o=some true)
  (ho:o.op= .call {callee:= .builtin .copy,args:= #[x,y],argTypes:= #[t,t]}) (hd:o.dst=some d) (hn:Nat.blt d n=true) (hu:P.underlying t=some (.slice e)) (hs:(P.info? e).map (·.size)=some E.size)
  (hx:Γ.ev x=some (.slice (some ⟨g,off,none⟩) l lc)) (hoff:off=q*E.size) (hm:xs.length=m) (hy:Γ.ev y=some (.slice A s c)) (hmin:ys.length=X5 s l) (hq:q+ys.length<=m) (hH:bU H (E.row (.slice (some ⟨g,0,none⟩) m cap) t' xs) H')
  (k:At β n ((d,j5 (ys.length:Nat))::Γ) (E.row (.slice (some ⟨g,0,none⟩) m cap) t' (xs.take q++ys++xs.drop (q+ys.length))::H') F (wpList P ops Q rest)):At β n Γ H F (wpList P ops Q (o::rest)):=
 fV hw λa w S f st z=>by
  subst hoff;have hl:(E.all ys).length=ys.length*E.size:=E.all_length _;have p:(E.all xs).length=m*E.size:=by rw[E.all_length,hm]
  have B:q*E.size+ys.length*E.size<=m*E.size:=by rw[<-Nat.add_mul];exact Nat.mul_le_mul_right _ hq
  have v:=st.perm hH.perm;have i:w.ownsRow 0 t' E.size (.slice (some ⟨g,0,none⟩) m cap) xs.length (E.all xs):=st.ok _ hH.mem;rw[hm]at i
  have u:(N5 #[t,t] o.type #[.slice (some ⟨g,q*E.size,none⟩) l lc,.slice A s c]).run P w= .ok (goInt ys.length) (w.setCells g (q*E.size) (E.all ys)):=by
   by_cases h0:0<ys.length
   .obtain⟨b,off,rfl,hb⟩:=hr.cellsE st z h0;have:=bKu (P:=P) w t t o.type e E.size g (q*E.size) l lc ⟨b,off,none⟩ s c (E.all ys) hu hs (by rw[hl,hmin]) hb
     (λj G=>by
      rw[World.ownsRow.cellAt i _ k9,D7 (by rw[p];omega)]
      rfl) (λj _=>World.ownsRow.frozenAt i _) E.all_one
    rwa[<-hmin]at this
   .have D:ys=[]:=List.length_eq_zero_iff.1 k9;subst D;exact bOo (P:=P) w _ _ o.type e E.size _ A l lc s c hu hs hmin.symm
  have r:(execOp a.eval o).run P w= .ok (.value (.int .i64 (ys.length:Nat))) (w.setCells g (q*E.size) (E.all ys)):=by
   unfold execOp;simp only[ho,resolve,invoke,builtin,Sem.run_bind,Sem.run_pure,Result.andThen_ok,List.map_toArray,List.map_cons,List.map_nil,f.ev hx,f.ev hy,u];rfl
  unfold Oper.wp;rw[r,Oper.upon_value,hd];refine k _ _ S (f.put m9 _) (v.swap (jY g _ _ w) rfl rfl ?_) (All.mono (λ_ h=>h) (st.agree (jY g _ _ w) (λc C e=>by subst e;exact(v.own _ (D5 ..) _ rfl).2.2 C)) z);have:=tH (E.all ys) (q*E.size) w (E.all xs) i;rw[bCn _ _ _ (by rw[hl,p];omega),hl,<-Nat.add_mul,all_take xs q k9,all_drop xs _ k9,<-E.all_append,<-E.all_append]at this;show World.ownsRow _ 0 t' E.size _ _ _;have e:(xs.take q++ys++xs.drop (q+ys.length)).length=m:=by simp;omega
  rw[e];exact this
end
section
variable {α : Type} {p z : α} {n i : Nat} {cur : List α}
def bRz (z p:α)(n i:Nat)(cur:List α):Prop:=cur=T9 i p++T9 (n-i) z/\i<=n
theorem rep_len(h:bRz z p n i cur):cur.length=n:=by
 rw[h.1];have:=h.2;simp;omega
theorem rep_first(z p:α)(n r:Nat)(hr:r=X5 1 n):bRz z p n r ((T9 n z).take 0++X1 r [p]++(T9 n z).drop (0+(X1 r [p]).length)):=by
 subst hr
 cases n with
 |zero=>exact⟨rfl,Nat.le_refl _⟩
 |succ n=>
  have:X5 1 (n+1)=1:=by simp
  rw[this];exact⟨n4,k9⟩
theorem rep_step(h:bRz z p n i cur)(hi:i<n):bRz z p n (i+X5 i (n-i)) (cur.take i++cur.take (X5 i (n-i))++cur.drop (i+(cur.take (X5 i (n-i))).length)):=by
 obtain⟨rfl,f⟩:=h;have e:X5 i (n-i)<=i:=X7 _ _;have d:X5 i (n-i)<=n-i:=X8 _ _;generalize X5 i (n-i)=r at*
 have c:(T9 i p++T9 (n-i) z).take i=T9 i p:=by
  rw[K8 n4,V2 n4]
 have b:(T9 i p++T9 (n-i) z).take r=T9 r p:=by
  rw[K8 n9,List.take_replicate,X6 e]
 rw[c,b,X2];refine⟨?_,k9⟩
 have a:(T9 i p++T9 (n-i) z).drop (i+r)=T9 (n-(i+r)) z:=by
  rw[List.drop_append,R5 n4,X2,List.drop_replicate,X0]
  congr 1
  omega
 rw[a,List.replicate_append_replicate]
theorem rep_l1(p:α)(n:Nat):(X1 (X5 1 n) [p]).length=X5 1 n:=by
 rw[W8];exact X6 (X7 1 n)
theorem rep_l(h:bRz z p n i cur):(cur.take (X5 i (n-i))).length=X5 i (n-i):=by
 rw[W8,rep_len h];exact X6 (B9 (X7 _ _) h.2)
end
theorem min1_le(n:Nat):X5 1 n<=n:=X8 _ _
theorem min1_or(n:Nat):1<=X5 1 n\/n=0:=by
 cases n with
 |zero=>exact .inr rfl
 |succ n=>exact .inl n4
theorem cutA_in{b i k z cap:Nat}(h:i<cap)(hk:k=z):cutA (some ⟨b,0,none⟩) i k cap=some ⟨b,i*z,none⟩:=by
 subst hk;unfold cutA;rw[if_neg k9];have h0:(⟨b,0,none⟩:Addr).add (i*k)=⟨b,0+i*k,none⟩:=Addr.add_mid _ _ _;rw[Option.map_some,h0,Nat.zero_add]
theorem conv64{m:Nat}(h:m<9223372036854775808):IntKind.u64.wrap ((m:Nat):Int)=((m:Nat):Int):=by
 simp only[G3,G5,G4];simp;omega
theorem conv63{m:Nat}(h:m<9223372036854775808):IntKind.i64.wrap ((m:Nat):Int)=((m:Nat):Int):=by
 simp only[G3,G5,G4];simp;omega
end
end Go.Proofs.YtnfiadlonjediaaGreatDoor
