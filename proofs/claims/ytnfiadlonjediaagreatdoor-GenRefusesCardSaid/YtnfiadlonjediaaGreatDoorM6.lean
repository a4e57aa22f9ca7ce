/- A part of one proof. -/
import Derived.Test.YtnfiadlonjediaaGreatDoorM5
import Derived.Test.YtnfiadlonjediaaGreatDoorShelfK
set_option maxRecDepth 100000
namespace Go.Proofs.YtnfiadlonjediaaGreatDoor
open Value renaming int->Y9
open World renaming cell?->D8,frozen?->Z0
open _root_.List renaming getElem?_map->F7,getElem?_eq_some_iff->G3,getElem?_eq_getElem->G1,length_mergeSort->Z1,mem_cons_self->F9,length_map->I2,length_filter_le->V2,replicate->V4,mem_map->P5,mem_range->Z2,mem_filter->V1,mem_mergeSort->Z3,take_add_one->G7,take_of_length_le->Y2,length_take->Z4,take_append_drop->Z5,take_append_of_le_length->P6,drop_of_length_le->U8,nil_append->P9,take->Z6,length_replicate->Z7
open Lib renaming compact->Z8,compactUpTo->Z9
open _root_.Nat renaming le_trans->C0,min->aA,min_eq_left->aB,min_le_left->aC,min_le_right->aD
open Builtin renaming copy_->P3,lenOf->O6,firstCells->O7
open IntKind renaming wrap->M9,bits->N2,signed->N1
section
open Go.RowKit Go.Sort Go.Proofs.Tryz
section
variable {g off cap : Nat} {xs ys : List Int} {w w' : World}
theorem ints_all(xs:List Int):dA.all xs=xs.map (Y9 .i64):=by
 induction xs with
 |nil=>rfl
 |cons x r ih=>
  rw[List.map_cons,<-ih];rfl
theorem bBz(h:Holds (Y9 .i64) w g off xs.toArray):(dA.held (.slice (some ⟨g,off,none⟩) xs.length cap) xs).ok w:=by
 cases xs with
 |nil=>exact⟨_,_,rfl,.inl rfl⟩
 |cons x r=>
  obtain⟨h0,_⟩:=h 0 m9;unfold D8 at h0
  cases b:w.heap[g]? with
  |none=>simp[b]at h0
  |some o=>
   cases o with
   |cells cs t fz=>
    refine⟨_,_,rfl,.inr ⟨g,off,cs,t,fz,rfl,b,λj u a=>?_⟩⟩;rw[ints_all,F7]at a
    cases hx:(x::r)[j]? with
    |none=>rw[hx]at a;cases a
    |some z=>
     rw[hx]at a;cases a;have hlt:=(G3.1 hx).1;obtain⟨h1,h2⟩:=h j r8
     have c:(x::r).toArray[j]! =z:=by
      rw[getElem!_pos _ j r8]
      simpa using (G3.1 hx).2
     rw[c]at h1;refine⟨?_,?_⟩
     .unfold D8 at h1;simp only[b]at h1
      simpa using h1
     .unfold Z0 at h2;simp only[b]at h2;exact h2
   |_=>simp[b]at h0
theorem bCg(h:(dA.held (.slice (some ⟨g,off,none⟩) xs.length cap) xs).ok w):Holds (Y9 .i64) w g off xs.toArray:=λj f=>by
 have hlt:j<xs.length:=by simpa using f
 obtain⟨k,a,c,m,t,l,e,_,b,i⟩:=tW h hlt;injection e with e
 injection e with e
 injection e with e1 e2
 subst e1 e2
 have d:xs.toArray[j]! =xs[j]:=by rw[getElem!_pos _ j r8];simp
 obtain⟨h1,h2⟩:=i j (.int .i64 xs[j]) (by rw[ints_all,F7,G1 hlt];rfl);rw[d];refine⟨?_,?_⟩
 .unfold D8;simp only[b]
  simpa using h1
 .unfold Z0;simp only[b];exact h2
theorem kept_put(d:Array Int)(n:Nat)(os:Array Obj):pV (λb=>b=g) w (grow (putRow (Y9 .i64) (Sort.ahead w n) g off d) os) where
 os:=rfl
 tape:=rfl
 output:=rfl
 size:=by show w.heap.size<=((w.heap.modify g _)++os).size;simp
 block:=λb hb a=>by show((w.heap.modify g _)++os)[b]?=_;rw[Array.getElem?_append_left (by simpa using hb),Array.getElem?_modify,if_neg (Ne.symm a)]
theorem holds_pre(h:Holds (Y9 .i64) w g off (xs++ys).toArray):Holds (Y9 .i64) w g off xs.toArray:=λj a=>by
 have hlt:j<xs.length:=by simpa using a
 have:=h j o6
 have e:(xs++ys).toArray[j]! =xs.toArray[j]!:=by rw[getElem!_pos _ j o6,getElem!_pos _ j r8];simp[List.getElem_append_left hlt]
 rwa[e]at this
end
def leB (x y:Int):Bool:=decide (x<=y)
def bAb (l:List Int):List Int:=l.mergeSort leB
theorem bBr(l:List Int):(bAb l).length=l.length:=Z1 l
theorem held_blk{A:Option Addr}{cap n:Nat}{x:Int}{r xs:List Int}(h:xs.length=(x::r).length):(dA.held (.slice A n cap) xs).blk=(dA.held (.slice A n cap) (x::r)).blk:=by
 cases xs with
 |nil=>cases h
 |cons y s=>rfl
theorem sort_spec(A:Option Addr)(cap:Nat)(xs:List Int)(hl:xs.length<=140737488355328):cJ prog 161 [.slice A xs.length cap] [dA.held (.slice A xs.length cap) xs] [] (λ_:Unit=> .tuple #[]) (λ_=>[dA.held (.slice A xs.length cap) (bAb xs)]) (λ_=>[]):=λS w s k=>by
 cases hx:xs with
 |nil=>
  refine(Tryz.slices_Sort_int_none A cap w).mono ?_;rintro e w' ⟨rfl,rfl⟩;subst hx;rw[show bAb ([]:List Int)=[] by simp[bAb]];exact⟨(),S,rfl,s,λg hg=>by simp at hg⟩
 |cons x r=>
  have b:=s.ok _ (F9 ..);have h1:0<xs.length:=by rw[hx];simp
  obtain⟨g,off,j,p,t,o,e,a,l,m⟩:=tW b h1;injection e with e1 e2 e3
  subst e1 e3;have i:=bCg b;have hg:g<w.heap.size:=(s.own _ (F9 ..) g a).1;rw[<-hx];refine(Tryz.slices_Sort_int g off cap xs w i hg j5).mono ?_;rintro e w' ⟨rfl,n,h,rfl⟩;have f:=holds_grow (Y9 .i64) _ h g off _ (by show g<(w.heap.modify g _).size;simpa using hg) (holds_putRow (Y9 .i64) (Sort.ahead w n) g off xs.toArray (xs.mergeSort λx y=>decide (x<=y)).toArray (holds_ahead _ w n g off _ i) m9);have c:(bAb xs).length=xs.length:=bBr xs
  have d:(dA.held (.slice (some ⟨g,off,none⟩) xs.length cap) (bAb xs)).blk=some g:=by rw[<-a];subst hx;exact held_blk c
  refine⟨(),S,rfl,s.swap (kept_put _ n h) a d ?_,λg hg=>by simp at hg⟩;have:=bBz (cap:=cap) f;rw[Z1]at this;exact this
theorem compact_spec(A:Option Addr)(cap:Nat)(xs:List Int)(hl:xs.length<=140737488355328)(hcap:xs.length<=cap):cJ prog 162 [.slice A xs.length cap] [dA.held (.slice A xs.length cap) xs] [] (λ_:Unit=> .slice A (Z8 xs).length cap) (λ_=>[dA.held (.slice A (Z8 xs).length cap) (Z8 xs)]) (λ_=>[]):=λS w s k=>by
 cases hx:xs with
 |nil=>
  refine(Tryz.slices_Compact_int_empty A cap w).mono ?_;rintro e w' ⟨rfl,rfl⟩;subst hx;exact⟨(),S,rfl,s,λg hg=>by simp at hg⟩
 |cons x r=>
  have d:=s.ok _ (F9 ..);have h1:0<xs.length:=by rw[hx];simp
  obtain⟨g,off,n,v,t,u,e,c,p,j⟩:=tW d h1;injection e with e1 e2 e3
  subst e1 e3;have m:=bCg d;rw[<-hx];refine(Tryz.slices_Compact_int g off cap xs w m j5 hcap).mono ?_;rintro e w' ⟨rfl,q,rfl⟩
  have o:(Z8 xs).length<=xs.length:=by unfold Z8 Z9;rw[I2];exact C0 (V2 ..) m9
  have l:=holds_putRow (Y9 .i64) (Sort.ahead w q) g off xs.toArray (Z8 xs++V4 (xs.length-(Z8 xs).length) 0).toArray (holds_ahead _ w q g off _ m) o6
  have f:pV (λb=>b=g) w (putRow (Y9 .i64) (Sort.ahead w q) g off (Z8 xs++V4 (xs.length-(Z8 xs).length) 0).toArray):=⟨rfl,rfl,rfl,by show w.heap.size<=(w.heap.modify g _).size;simp,λb hb i=>by show(w.heap.modify g _)[b]?=_;rw[Array.getElem?_modify,if_neg (Ne.symm i)]⟩
  have a:=bBz (cap:=cap) (holds_pre l)
  cases j:Z8 xs with
  |nil=>
   rw[j]at f a;have h:=s.swap f c (c':= .gen (some g) λ_=>True) rfl trivial;refine⟨(),S,rfl,?_,λg hg=>by simp at hg⟩;exact h.recast' (λb hb=>by cases hb) a
  |cons y t'=>
   rw[j]at f a;have h:=s.swap f c (c':=dA.held (.slice (some ⟨g,off,none⟩) (y::t').length cap) (y::t')) rfl a;exact⟨(),S,rfl,h,λg hg=>by simp at hg⟩
theorem compact_sub(xs:List Int): ∀z,z∈Z8 xs->z∈xs:=λz a=>by unfold Z8 Z9 at a;obtain⟨j,b,rfl⟩:=P5.1 a;have hlt:=Z2.1 (V1.1 b).1;rw[getElem!_pos _ j r8];simp
theorem bKn(xs:List Int): ∀(j:Nat) (z:Int),xs[j]?=some z->z∈Z8 xs
 |0,z,h=>by
  have hlt:=(G3.1 h).1;refine P5.2 ⟨0,V1.2 ⟨Z2.2 hlt,Lib.keeps_lt_one _ 0 l4⟩,?_⟩;rw[getElem!_pos _ 0 r8]
  simpa using (G3.1 h).2
 |j+1,z,h=>by
  have hlt:=(G3.1 h).1
  have a:xs.toArray[j+1]! =z:=by
   rw[getElem!_pos _ (j+1) r8]
   simpa using (G3.1 h).2
  by_cases e:xs.toArray[j+1]! =xs.toArray[j]!
  .have b:xs[j]?=some z:=by rw[G1 j5];rw[a,getElem!_pos _ j o6]at e;rw[e];simp
   exact bKn xs j z b
  .exact P5.2 ⟨j+1,V1.2 ⟨Z2.2 hlt,Lib.keeps_pos (m:=j+1) e⟩,a⟩
theorem mem_uses{xs:List Int}{z:Int}:z∈Z8 (bAb xs)↔z∈xs:=by
 constructor
 .exact λh=>Z3.1 (compact_sub _ z h)
 .intro h;obtain⟨j,a⟩:=List.mem_iff_getElem?.1 (Z3.2 h:z∈bAb xs);exact bKn _ j z a
theorem uses_len{xs:List Int}:(Z8 (bAb xs)).length<=xs.length:=by unfold Z8 Z9;rw[I2];refine C0 (V2 ..) ?_;rw[List.length_range,bBr];exact Nat.le_refl _
def uZ (l:List OpV):List Int:=(l.filter λo=>o.N==4).map (·.k)
def pT (l:List OpV):List Int:=Z8 (bAb (uZ l))
theorem bSt(l:List OpV):(uZ l).length<=l.length:=by unfold uZ;rw[I2];exact V2 ..
theorem usesV_len(l:List OpV):(pT l).length<=l.length:=C0 uses_len (bSt l)
section
variable {l : List OpV} {i : Nat} {o : OpV} {us : List Int}
theorem uses_yes(h:us=uZ (l.take i))(ho:l[i]?=some o)(e:o.N=4):us++[o.k]=uZ (l.take (i+1)):=by subst h;rw[G7,ho];simp[uZ,e]
theorem uses_no(h:us=uZ (l.take i))(ho:l[i]?=some o)(e:o.N≠4):us=uZ (l.take (i+1)):=by subst h;rw[G7,ho];simp[uZ,e]
theorem uses_full(h:us=uZ (l.take i))(hi:l.length<=i):us=uZ l:=by rw[h,Y2 hi]
theorem bIq{z:Int}:z∈pT l↔ ∃o∈l,o.N=4/\o.k=z:=by unfold pT;rw[mem_uses];simp[uZ,and_assoc]
end
theorem uses_spec(A:Option Addr)(c:Nat)(l:List OpV)(hl:l.length<=17592186044416):cJ prog 89 [.slice A l.length c] [] [opE.sl (.slice A l.length c) l] (λ(x:Option Addr×Nat)=> .slice x.1 (pT l).length x.2) (λ_=>[]) (λ(x:Option Addr×Nat)=>[dA.sl (.slice x.1 (pT l).length x.2) (pT l)]):=by
 have hT:=dF;refine j1 func89 ntmps89 ?_;intro β hM;refine g19 ?_;refine cL (t:=3) dA ?_;refine bT (ι:=Nat×List Int×Option Addr×Nat) [(6,_),(7,_)] ⟨rfl,rfl,e9⟩ (λ⟨i,us,UA,uc⟩=>[(3,.slice UA us.length uc),(8,.int .i64 (i:Nat))]) (λ⟨i,us,UA,uc⟩=>[dA.row (.slice UA us.length uc) 3 us]) (λ⟨i,us,UA,uc⟩=>[bC.pure (i<=l.length/\us=uZ (l.take i))]) (λ⟨i,us,UA,uc⟩=>l.length-i) (0,[],none,0) ⟨rfl,rfl,e9⟩ (.c0 .nil) ⟨f4 (⟨j5,rfl⟩),e9⟩ ?_;rintro⟨i,us,UA,uc⟩;dsimp only;refine bG d7 λa=>?_;have n:us.length<=i:=by rw[a.2];exact C0 (bSt _) (List.length_take_le ..)
 refine g6 ?_;refine dO (λf=>?_) λf=>?_
 .refine g6 ?_;obtain⟨g,b⟩:=gx l i;refine ss (ixs i) ?_;refine ss (lI b 0) ?_;refine i7 bDl λr=>?_;refine g10 ?_;refine jU (λd=>?_) λd=>?_
  .refine g4 ?_;refine bDm (m:=g.k) rfl rfl rfl rfl rfl λq=>?_;refine uC kT2 (fD .head rfl) rfl rfl rfl rfl rfl rfl rfl o6 λp c6=>?_;refine g6 ?_;refine inc (i+1) ?_;refine g3 ?_;exact bk2 (i+1,us++[g.k],p,c6) ⟨f4 (⟨by dsimp only;omega,uses_yes a.2 b ‹_›⟩),e9⟩
  refine g5 ?_;refine inc (i+1) ?_;refine g3 ?_;exact bk2 (i+1,us,UA,uc) ⟨f4 (⟨by dsimp only;omega,uses_no a.2 b ‹_›⟩),e9⟩
 refine g6 ?_;have e:us=uZ l:=uses_full a.2 j5;refine g2 ?_;refine bAl .head λh=>bGm .head ?_;refine bL func161 (sort_spec UA uc us j5) rfl rfl (.c0 .nil) e9 λ_=>?_;have o:=bBr us;refine g5 ?_;have j:=compact_spec UA uc (bAb us) j5 j5;rw[bBr]at j;refine bL func162 j rfl rfl (.c0 .nil) e9 λ_=>?_;refine oP .head ?_;refine g4 ?_;subst e;exact rs1 (UA,uc) ⟨d7,e9⟩
end
section
open Go.RowKit Go.Proofs.Tryz
theorem bKx{P:Program}(w:World)(dT sT ty elem:TypeId)(z b o dLen dCap:Nat)(a:Addr)(sLen sCap:Nat)(cs:List Value)
  (hu:P.underlying dT=some (.slice elem)) (hs:(P.info? elem).map (·.size)=some z) (hn:cs.length=aA sLen dLen*z)
  (hsrc: ∀j v,cs[j]?=some v->w.cell? (a.add j)=some v) (hc: ∀j,j<cs.length->(w.cell? ⟨b,o+j,none⟩).isSome=true) (hf: ∀j,j<cs.length->w.frozen? ⟨b,o+j,none⟩=false) (h1: ∀v∈cs,v.oneCell'=true):
  (P3 #[dT,sT] ty #[.slice (some ⟨b,o,none⟩) dLen dCap,.slice (some a) sLen sCap]).run P w= .ok (goInt (aA sLen dLen)) (w.setCells b o cs):=by
 have hl:=run_loadCells_list (P:=P) w a cs hsrc;have c:=run_storeCells_cells (P:=P) b o cs 0 w (by simpa using hc) (by simpa using hf) h1
 cases hq:P.info? elem with
 |none=>simp[hq]at hs
 |some i=>
  have d:i.size=z:=by simpa[hq]using hs
  rw[hn]at hl;simp[P3,run_underlying hu,O6,O7,sizeOf,typeInfo,hq,d,hl,c]
theorem bPw{P:Program}(w:World)(dT sT ty elem:TypeId)(z:Nat)(d a:Option Addr)(dLen dCap sLen sCap:Nat)(hu:P.underlying dT=some (.slice elem))(hs:(P.info? elem).map (·.size)=some z)(hn:aA sLen dLen=0):
  (P3 #[dT,sT] ty #[.slice d dLen dCap,.slice a sLen sCap]).run P w= .ok (goInt 0) w:=by
 cases hq:P.info? elem with
 |none=>simp[hq]at hs
 |some i=>
  have hl: ∀(x:Addr),(loadCells x 0).run P w= .ok #[] w:=λx=>by simpa using run_loadCells_list (P:=P) w x [] m9
  cases d<;>cases a<;>simp[P3,run_underlying hu,O6,O7,sizeOf,typeInfo,hq,hn,storeCells,hl]
section
variable {α : Type} {E : Flat α} {β : dY} {H : List bD} {F : List bC}
theorem cF.cellsE{A:Option Addr}{xs:List α}{w:World}{S:kZ}(hr:cF β H F E A xs)(s:St β H S w)(hF:All F S w)(h0:0<xs.length):
  ∃b off,A=some ⟨b,off,none⟩/\ ∀j u,(E.all xs)[j]?=some u->w.cell? ((⟨b,off,none⟩:Addr).add j)=some u:=by
 obtain⟨⟨b,off,rfl⟩,_⟩:=hr w S s hF 0 _ (G1 h0);refine⟨b,off,rfl,λj u d=>?_⟩;have hlt:=(G3.1 d).1;rw[E.all_length]at hlt;have g:j/E.size<xs.length:=Nat.div_lt_of_lt_mul (by rwa[Nat.mul_comm]at hlt);have f:j%E.size<E.size:=Nat.mod_lt _ E.pos;have a:=G1 g;have c:=G1 (l:=E.cells xs[j/E.size]) (i:=j%E.size) (by rw[E.len];exact f);have e:j/E.size*E.size+j%E.size=j:=by rw[Nat.mul_comm];exact Nat.div_add_mod j E.size
 have h1:=(hr w S s hF _ _ a).2 _ _ c;have h2:=E.all_get a c;rw[e,d]at h2;injection h2 with h2
 have h3:=h1.trans (congrArg some h2.symm);rw[Nat.add_assoc,e]at h3;rw[Addr.add_mid];exact h3
theorem cF.preE{A:Option Addr}{xs:List α}(h:cF β H F E A xs)(r:Nat):cF β H F E A (xs.take r):=λw S s b k x a=>by
 rw[List.getElem?_take]at a;split at a
 .exact h w S s b k x a
 .cases a
theorem all_take(xs:List α)(q:Nat)(h:q<=xs.length):(E.all xs).take (q*E.size)=E.all (xs.take q):=by
 have e:(E.all (xs.take q)).length=q*E.size:=by rw[E.all_length,Z4,aB h]
 conv=>lhs;rw[<-Z5 q xs,E.all_append]
 rw[P6 j5,Y2 j5]
theorem all_drop(xs:List α)(q:Nat)(h:q<=xs.length):(E.all xs).drop (q*E.size)=E.all (xs.drop q):=by
 have e:(E.all (xs.take q)).length=q*E.size:=by rw[E.all_length,Z4,aB h]
 conv=>lhs;rw[<-Z5 q xs,E.all_append]
 rw[List.drop_append_of_le_length j5,U8 j5,P9]
theorem at_copyE{P:Program}{n:Nat}{Γ:Env}{Q:Exit->Act->World->Prop}{ops:Array Oper}{rest:List Oper}{o:Oper}{d:Nat}{x y:Operand}{t e t':TypeId}{g c cap m q off l lc s:Nat}{A:Option Addr}{xs ys:List α}{H':List bD}(hr:cF β H F E A ys)(hw:want ops Γ o=some true)
  (ho:o.op= .call {callee:= .builtin .copy,args:= #[x,y],argTypes:= #[t,t]}) (hd:o.dst=some d) (hn:Nat.blt d n=true) (hu:P.underlying t=some (.slice e)) (hs:(P.info? e).map (·.size)=some E.size)
  (hx:Γ.ev x=some (.slice (some ⟨g,off,none⟩) l lc)) (hoff:off=q*E.size) (hm:xs.length=m) (hy:Γ.ev y=some (.slice A s c)) (hmin:ys.length=aA s l) (hq:q+ys.length<=m) (hH:bZ H (E.row (.slice (some ⟨g,0,none⟩) m cap) t' xs) H')
  (k:At β n ((d,j3 (ys.length:Nat))::Γ) (E.row (.slice (some ⟨g,0,none⟩) m cap) t' (xs.take q++ys++xs.drop (q+ys.length))::H') F (wpList P ops Q rest)):At β n Γ H F (wpList P ops Q (o::rest)):=
 gR hw λa w S f st z=>by
  subst hoff;have hl:(E.all ys).length=ys.length*E.size:=E.all_length _;have p:(E.all xs).length=m*E.size:=by rw[E.all_length,hm]
  have B:q*E.size+ys.length*E.size<=m*E.size:=by rw[<-Nat.add_mul];exact Nat.mul_le_mul_right _ hq
  have v:=st.perm hH.perm;have i:w.ownsRow 0 t' E.size (.slice (some ⟨g,0,none⟩) m cap) xs.length (E.all xs):=st.ok _ hH.mem;rw[hm]at i
  have u:(P3 #[t,t] o.type #[.slice (some ⟨g,q*E.size,none⟩) l lc,.slice A s c]).run P w= .ok (goInt ys.length) (w.setCells g (q*E.size) (E.all ys)):=by
   by_cases h0:0<ys.length
   .obtain⟨b,off,rfl,hb⟩:=hr.cellsE st z h0;have:=bKx (P:=P) w t t o.type e E.size g (q*E.size) l lc ⟨b,off,none⟩ s c (E.all ys) hu hs (by rw[hl,hmin]) hb
     (λj G=>by
      rw[World.ownsRow.cellAt i _ j5,G1 (by rw[p];omega)]
      rfl) (λj _=>World.ownsRow.frozenAt i _) E.all_one
    rwa[<-hmin]at this
   .have D:ys=[]:=List.length_eq_zero_iff.1 j5;subst D;exact bPw (P:=P) w _ _ o.type e E.size _ A l lc s c hu hs hmin.symm
  have r:(execOp a.eval o).run P w= .ok (.value (.int .i64 (ys.length:Nat))) (w.setCells g (q*E.size) (E.all ys)):=by unfold execOp;simp only[ho,resolve,invoke,builtin,Sem.run_bind,Sem.run_pure,Result.andThen_ok,List.map_toArray,List.map_cons,List.map_nil,f.ev hx,f.ev hy,u];rfl
  unfold Oper.wp;rw[r,Oper.upon_value,hd];refine k _ _ S (f.put m8 _) (v.swap (kY g _ _ w) rfl rfl ?_) (All.mono (λ_ h=>h) (st.agree (kY g _ _ w) (λc C e=>by subst e;exact(v.own _ (F9 ..) _ rfl).2.2 C)) z);have:=uQ (E.all ys) (q*E.size) w (E.all xs) i;rw[bDc _ _ _ (by rw[hl,p];omega),hl,<-Nat.add_mul,all_take xs q j5,all_drop xs _ j5,<-E.all_append,<-E.all_append]at this;show World.ownsRow _ 0 t' E.size _ _ _;have e:(xs.take q++ys++xs.drop (q+ys.length)).length=m:=by simp;omega
  rw[e];exact this
end
section
variable {α : Type} {p z : α} {n i : Nat} {cur : List α}
def bWi (z p:α)(n i:Nat)(cur:List α):Prop:=cur=V4 i p++V4 (n-i) z/\i<=n
theorem rep_len(h:bWi z p n i cur):cur.length=n:=by rw[h.1];have:=h.2;simp;omega
theorem rep_first(z p:α)(n r:Nat)(hr:r=aA 1 n):bWi z p n r ((V4 n z).take 0++Z6 r [p]++(V4 n z).drop (0+(Z6 r [p]).length)):=by
 subst hr
 cases n with
 |zero=>exact⟨rfl,Nat.le_refl _⟩
 |succ n=>
  have:aA 1 (n+1)=1:=by simp
  rw[this];exact⟨m9,j5⟩
theorem rep_step(h:bWi z p n i cur)(hi:i<n):bWi z p n (i+aA i (n-i)) (cur.take i++cur.take (aA i (n-i))++cur.drop (i+(cur.take (aA i (n-i))).length)):=by
 obtain⟨rfl,f⟩:=h;have e:aA i (n-i)<=i:=aC _ _;have d:aA i (n-i)<=n-i:=aD _ _;generalize aA i (n-i)=r at*
 have c:(V4 i p++V4 (n-i) z).take i=V4 i p:=by rw[P6 m9,Y2 m9]
 have b:(V4 i p++V4 (n-i) z).take r=V4 r p:=by rw[P6 o6,List.take_replicate,aB e]
 rw[c,b,Z7];refine⟨?_,j5⟩
 have a:(V4 i p++V4 (n-i) z).drop (i+r)=V4 (n-(i+r)) z:=by
  rw[List.drop_append,U8 m9,Z7,List.drop_replicate,P9]
  congr 1
  omega
 rw[a,List.replicate_append_replicate]
theorem rep_l1(p:α)(n:Nat):(Z6 (aA 1 n) [p]).length=aA 1 n:=by rw[Z4];exact aB (aC 1 n)
theorem rep_l(h:bWi z p n i cur):(cur.take (aA i (n-i))).length=aA i (n-i):=by rw[Z4,rep_len h];exact aB (C0 (aC _ _) h.2)
end
theorem min1_le(n:Nat):aA 1 n<=n:=aD _ _
theorem min1_or(n:Nat):1<=aA 1 n\/n=0:=by
 cases n with
 |zero=>exact .inr rfl
 |succ n=>exact .inl m9
theorem cutA_in{b i k z cap:Nat}(h:i<cap)(hk:k=z):cutA (some ⟨b,0,none⟩) i k cap=some ⟨b,i*z,none⟩:=by subst hk;unfold cutA;rw[if_neg j5];have h0:(⟨b,0,none⟩:Addr).add (i*k)=⟨b,0+i*k,none⟩:=Addr.add_mid _ _ _;rw[Option.map_some,h0,Nat.zero_add]
theorem conv64{m:Nat}(h:m<9223372036854775808):IntKind.u64.wrap ((m:Nat):Int)=((m:Nat):Int):=by simp only[M9,N2,N1];simp;omega
theorem conv63{m:Nat}(h:m<9223372036854775808):IntKind.i64.wrap ((m:Nat):Int)=((m:Nat):Int):=by simp only[M9,N2,N1];simp;omega
