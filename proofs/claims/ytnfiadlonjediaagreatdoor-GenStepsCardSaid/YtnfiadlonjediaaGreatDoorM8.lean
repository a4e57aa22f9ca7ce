/- Texts of one proof, one behind the other: CoW, Arrs, CoX, CoY, CoZ. -/
import Derived.Test.YtnfiadlonjediaaGreatDoorM7
import Derived.Test.YtnfiadlonjediaaGreatDoorM6
set_option maxRecDepth 100000
namespace Go.Proofs.YtnfiadlonjediaaGreatDoor
open Go.RowKit Go.Proofs.Tryz
open _root_.List renaming getElem?_eq_some_iff->D9,drop_of_length_le->R5,pairwise_cons->D2,mem_cons->C9,mem_cons_of_mem->D1,mem_cons_self->D5,length_drop->U9,getElem?_drop->V0,getElem?_map->I7,take_succ_eq_append_getElem->V1,take_of_length_le->V2,isEmpty_iff->V3,length_eq_zero_iff->V4,getElem?_eq_none->V5,replicate->T9
open Value renaming bool->V6
open _root_.Nat renaming zero_add->C7,blt->C0
open _root_.Bool renaming eq_iff_iff->G8,and_eq_true->G1
open _root_.Int renaming natCast_eq_zero->V7,not_lt->V8
theorem takes_le(h:Int):cV h<=2/\ -1<=cV h:=by
 unfold cV
 repeat' split
 all_goals omega
def bSp (l:List OpV)(i:Nat)(m n r:Int):Prop:=nT ((opsL l).drop i) m n=r
theorem qH{α:Type}{l:List α}{i:Nat}{x:α}(h:l[i]?=some x):l.drop i=x::l.drop (i+1):=by
 obtain⟨a,e⟩:=D9.1 h;rw[<-e];exact List.drop_eq_getElem_cons a
section
variable {l : List OpV} {i : Nat} {m n r : Int} {x : OpV}
theorem dep_step(h:bSp l i m n r)(hx:l[i]?=some x):(cV x.how<0\/n<cV x.how->r= -1)/\(¬cV x.how<0-> ¬n<cV x.how->bSp l (i+1) (if n+(1-cV x.how)>m then n+(1-cV x.how)else m) (n+(1-cV x.how)) r):=by
 unfold bSp at*;rw[qH (gR hx),nT]at h;refine⟨λe=>?_,λb a=>?_⟩
 .rw[if_pos (show cV x.c.how<0\/n<cV x.c.how from e)]at h;exact h.symm
 .rw[if_neg (show ¬(cV x.c.how<0\/n<cV x.c.how)from λh=>h.elim b a)]at h;rw[<-h]
  congr 1
  show _=max m (n+(1-cV x.how));split<;>omega
theorem dep_end(h:bSp l i m n r)(hi:l.length<=i):(n≠1->r= -1)/\(n=1->r=m):=by
 unfold bSp at h;rw[R5 (by rw[dR];exact hi),nT]at h;exact⟨λe=>by rw[if_neg e]at h;exact h.symm,λe=>by rw[if_pos e]at h;exact h.symm⟩
end
section
variable {f : Int} {two : Bool}
theorem bBn(h:f<1\/17<f):V6 false= .bool (kG f two):=by
 unfold kG;rw[if_pos h]
theorem wtk_b(h3:f=16):V6 (!two)= .bool (kG f two):=by
 unfold kG;rw[if_neg k9,if_pos h3]
theorem wtk_c(h1:1<=f)(h2:f<=17)(h3:f≠16)(h:two=true):V6 true= .bool (kG f two):=by
 unfold kG;rw[if_neg k9,if_neg h3,h,Bool.true_or]
theorem wtk_d(h1:1<=f)(h2:f<=17)(h3:f≠16)(h:two=false):V6 (decide (f<=7))= .bool (kG f two):=by
 unfold kG;rw[if_neg k9,if_neg h3,h,Bool.false_or]
end
theorem bDo:(prog.info? 172).bind (·.zero)=some (.agg #[j5 0,j5 0,j5 0,.slice none 0 0,j6 0]):=l4
theorem takes_spec(o:OpV):bZ prog 64 [.agg #[j5 o.how,j5 o.k,j5 o.n,j0 o.p,j6 o.fn]] [] [] (λ(_:Unit)=> j5 (cV o.how)) (λ_=>[]) (λ_=>[]):=by
 have hT:=fK;refine i7 func64 ntmps64 ?_;intro β hM;refine g2 ?_;refine i6 λq=>?_;refine g18 ?_;refine cR rfl (λg=>?_) (λg=>?_)
 .have j:=g;have g:=eq_of_beq g;refine g2 ?_;refine mT rfl j ?_;refine g8 ?_;exact rs1 () e8 (he:=by simp[cV, *])
 have j:=g;have g:=beq_eq_false_iff_ne.1 g;refine g6 ?_;refine cR rfl (λc=>?_) (λc=>?_)
 .have e:=c;have c:=eq_of_beq c;refine g2 ?_;refine mT rfl e ?_;refine g8 ?_;exact rs1 () e8 (he:=by simp[cV, *])
 have e:=c;have c:=beq_eq_false_iff_ne.1 c;refine g5 ?_;refine cR rfl (λb=>?_) (λb=>?_)
 .have l:=b;have b:=eq_of_beq b;refine g8 ?_;exact rs1 () e8 (he:=by simp[cV, *])
 have l:=b;have b:=beq_eq_false_iff_ne.1 b;refine g7 ?_;refine cR rfl (λf=>?_) (λf=>?_)
 .have h:=f;have f:=eq_of_beq f;refine g2 ?_;refine mT rfl h ?_;refine g8 ?_;exact rs1 () e8 (he:=by simp[cV, *])
 have h:=f;have f:=beq_eq_false_iff_ne.1 f;refine g5 ?_;refine cR rfl (λa=>?_) (λa=>?_)
 .have i:=a;have a:=eq_of_beq a;refine g8 ?_;exact rs1 () e8 (he:=by simp[cV, *])
 have i:=a;have a:=beq_eq_false_iff_ne.1 a;refine g6 ?_;refine cR rfl (λd=>?_) (λd=>?_)
 .have m:=d;have d:=eq_of_beq d;refine g8 ?_;exact rs1 () e8 (he:=by simp[cV, *])
 have m:=d;have d:=beq_eq_false_iff_ne.1 d;refine g9 ?_;exact rs1 () e8 (he:=by simp[cV, *])
theorem bMt(A:Option Addr)(c:Nat)(l:List OpV)(hl:l.length<=140737488355328):bZ prog 23 [.slice A l.length c] [] [opE.sl (.slice A l.length c) l,bE.each l opF] (λ(_:Unit)=> j5 (pU (opsL l))) (λ_=>[]) (λ_=>[]):=by
 have hT:=fK;generalize o:pU (opsL l)=r;refine i7 func23 ntmps23 ?_;intro β hM;refine g20 ?_;refine bY (ι:=Nat×Int×Int) [(8,_),(9,_)] ⟨rfl,rfl,e8⟩ (λ⟨i,m,n⟩=>[(3,.int .i64 m),(4,.int .i64 n),(10,.int .i64 (i:Nat))]) (λ_=>[]) (λ⟨i,m,n⟩=>[bE.pure (i<=l.length/\bSp l i m n r/\0<=n/\n<=i)]) (λ⟨i,m,n⟩=>l.length-i) (0,0,0) ⟨rfl,rfl,rfl,e8⟩ .nil ⟨e9 (⟨k9,o,k9,k9⟩),e8⟩ ?_;rintro⟨i,m,n⟩;dsimp only;refine bM d7 λa=>?_;refine g6 ?_;refine fD (λh=>?_) λh=>?_
 .refine g6 ?_;obtain⟨j,d⟩:=gx l i;refine ss (ixs i) ?_;refine ss (kV d 0) ?_;refine f9 bDo λp=>?_;refine g4 ?_;have k:=takes_le j.how
  have b:=(dep_step a.2.1 d)
  refine g2 ?_;refine f7 func64 (takes_spec j) .nil e8 λ_=>?_;refine g9 ?_;refine vP (λe=>?_) λe=>?_
  .refine g19 ?_;have hr:=b.1 k9;subst hr;exact rs1 () trivial
  refine g6 ?_;refine fD (λg=>?_) λg=>?_
  .refine g12 ?_;have hr:=b.1 k9;subst hr;exact rs1 () trivial
  refine g7 ?_;refine bF (nN k9 k9) ?_;refine one ?_;refine bF (nN k9 k9) ?_;refine g13 ?_;refine inc (i+1) ?_;refine g3 ?_;exact iC (i+1,_,_) n3 ⟨rfl,rfl,rfl,e8⟩ ⟨rfl,rfl,e8⟩ .nil ⟨e9 (⟨by dsimp only;omega,b.2 k9 k9,by dsimp only;omega,by dsimp only;omega⟩),e8⟩ (bA.drop 1)
 refine g12 ?_;refine bEw (λf=>?_) λf=>?_
 .refine g7 ?_;have hr:=(dep_end a.2.1 k9).1 ‹_›;subst hr;exact rs1 () trivial
 refine g9 ?_;have hr:=(dep_end a.2.1 k9).2 ‹_›;subst hr;exact rs1 () trivial
theorem uA(f:Int)(two:Bool):bZ prog 100 [j6 f,.bool two] [] [] (λ(_:Unit)=> .bool (kG f two)) (λ_=>[]) (λ_=>[]):=by
 have hT:=fK;refine i7 func100 ntmps100 ?_;intro β hM;refine g12 ?_;refine vP (λc=>?_) λc=>?_
 .refine g15 ?_;exact rs1 () e8 (he:=by first|exact bBn (.inl k9)|exact bBn (.inr k9)|exact wtk_b k9|exact wtk_c k9 k9 k9 ‹_›|exact wtk_d k9 k9 k9 ‹_›)
 refine g6 ?_;refine fD (λd=>?_) λd=>?_
 .refine g8 ?_;exact rs1 () e8 (he:=by first|exact bBn (.inl k9)|exact bBn (.inr k9)|exact wtk_b k9|exact wtk_c k9 k9 k9 ‹_›|exact wtk_d k9 k9 k9 ‹_›)
 refine g7 ?_;refine fG (λb=>?_) λb=>?_
 .refine g10 ?_;exact rs1 () e8 (he:=by first|exact bBn (.inl k9)|exact bBn (.inr k9)|exact wtk_b k9|exact wtk_c k9 k9 k9 ‹_›|exact wtk_d k9 k9 k9 ‹_›)
 refine g7 ?_;refine dB (λa=>?_) (λa=>?_)
 .refine g7 ?_;exact rs1 () e8 (he:=by first|exact bBn (.inl k9)|exact bBn (.inr k9)|exact wtk_b k9|exact wtk_c k9 k9 k9 ‹_›|exact wtk_d k9 k9 k9 ‹_›)
 refine g7 ?_;exact rs1 () e8 (he:=by first|exact bBn (.inl k9)|exact bBn (.inr k9)|exact wtk_b k9|exact wtk_c k9 k9 k9 ‹_›|exact wtk_d k9 k9 k9 ‹_›)
section
variable {P : Program} {β : dE} {n : Nat} {Γ : Env} {H : List bC} {F : List bE} {K : Act -> World -> Prop} {T : Tab} {α : Type} {E : Flat α}
theorem St.recast'{c c':bC}{S:jX}{w:World}(s:St β (c::H) S w)(hb: ∀b,c'.blk=some b->c.blk=some b)(ok:c'.ok w):St β (c'::H) S w:=by
 have a:=D2.1 s.sep;refine⟨s.kept,λd hd=>?_,λd hd b h=>?_,D2.2 ⟨λd hd b h=>a.1 d hd b (hb b h),a.2⟩,s.zone⟩
 .rcases C9.1 hd with rfl|hd
  .exact ok
  .exact s.ok d (D1 _ hd)
 .rcases C9.1 hd with rfl|hd
  .exact s.own c (D5 ..) b (hb b h)
  .exact s.own d (D1 _ hd) b h
theorem bKl{b:Nat}{t:TypeId}{xs:List α}{H':List bC}(hH:bU H (.obj b (.cells (E.all xs).toArray t)) H')(h:At β n Γ (E.held (.slice (some ⟨b,0,none⟩) xs.length xs.length) xs::H') F K):At β n Γ H F K:=λa w S f s k=>by
 have d:=s.perm hH.perm;have c:w.heap[b]?=some (.cells (E.all xs).toArray t):=d.ok _ (D5 ..);refine h a w S f (d.recast' (λg hb=>?_) ?_) k
 .cases xs with
  |nil=>cases hb
  |cons x r=>exact hb
 .cases xs with
  |nil=>exact⟨_,_,rfl,.inl rfl⟩
  |cons x r=>
   refine⟨_,_,rfl,.inr ⟨b,0,_,t,(0,0),rfl,c,λj u e=>⟨?_,?_⟩⟩⟩
   .rw[C7];exact e
   .simp
theorem bEj{v:Value}{t:TypeId}{xs:List α}{H':List bC}(hH:bU H (E.row v t xs) H')(h:At β n Γ (E.held v xs::H') F K):At β n Γ H F K:=λa w S f s k=>by
 have m:=s.perm hH.perm;have i:w.ownsRow 0 t E.size v xs.length (E.all xs):=m.ok _ (D5 ..);refine h a w S f (m.recast' (λb hb=>?_) ?_) k
 .cases xs with
  |nil=>cases hb
  |cons x r=>exact hb
 .rcases i.2 with ⟨e,z⟩|⟨g,c,l,e,_,hg,p,y,q,o⟩
  .have:xs=[]:=List.eq_nil_of_length_eq_zero z;subst this;exact⟨none,0,e,.inl rfl⟩
  .subst e
   cases xs with
   |nil=>exact⟨_,c,rfl,.inl rfl⟩
   |cons x r=>
    refine⟨_,c,rfl,.inr ⟨g,0,l,t,(0,0),rfl,hg,λj u d=>⟨?_,?_⟩⟩⟩
    .rw[C7];rw[<-o,List.getElem?_take]at d;split at d
     .exact d
     .cases d
    .simp
theorem xP{v:Value}{xs:List α}{H':List bC}(hH:bU H (E.held v xs) H')(h:At β n Γ H' (E.sl v xs::F) K):At β n Γ H F K:=λa w S f s k=>by
 have e:=s.perm hH.perm;have l:(E.held v xs).ok w:=e.ok _ (D5 ..);have d:=D2.1 e.sep;have i:=e.own _ (D5 ..);have g:All F (λb=>S b\/(E.held v xs).blk=some b) w:=All.mono (λ_ h=> .inl h) (λ_ _=>rfl) k;refine h a w (λb=>S b\/(E.held v xs).blk=some b) f ⟨e.kept,λc j=>e.ok c (D1 _ j),λc j b hb=>?_,d.2,λb hb=>?_⟩ (All.cons (bBy l λb hb=> .inr hb) g)
 .obtain⟨h1,m,o⟩:=e.own c (D1 _ j) b hb;refine⟨h1,m,λh=>?_⟩
  rcases h with h|h
  .exact o h
  .exact d.1 c j b h hb
 .rcases hb with hb|hb
  .exact e.zone b hb
  .obtain⟨h1,m,_⟩:=i b hb;exact⟨h1,.inr m⟩
theorem mU{b:Nat}{cs:List Value}{t:TypeId}{L:List bC}{G:List bE}(h:xS L G):xS (.obj b (.cells cs.toArray t)::L) (bE.cells b 0 cs::G):=λS w a e=>
 All.cons ⟨e _ (D5 ..) b rfl,λj u f=>by
  have h0:w.heap[b]?=some (.cells cs.toArray t):=a _ (D5 ..);unfold World.cell?;rw[h0]
  simpa using f⟩ (h S w (λc d=>a c (D1 _ d)) λc d=>e c (D1 _ d))
theorem run_arrFrom(hT:dU P T){t e m sz k:Nat}{ei:TI}(ht:T.get t=some ⟨.array m e,sz⟩)(he:T.get e=some ei){b off:Nat}(hk:k<=m)(kk:IntKind)(w:World):
  (Instr.sliceAt t (.pointer (some ⟨b,off,none⟩)) (some (.int kk (k:Nat))) none none).run P w= .ok (.slice (some ⟨b,if m=k then off else off+k*ei.size,none⟩) (m-k) (m-k)) w:=by
 have c:(⟨b,off,none⟩:Addr).add (k*ei.size)=⟨b,off+k*ei.size,none⟩:=Addr.add_mid _ _ _;unfold Instr.sliceAt;rw[Sem.run_bind,hT.array ht,Result.andThen_ok]
 have h1:(Instr.sliceBound (.int kk (k:Nat)) m .sliceB).run P w= .ok k w:=by
  rw[run_sliceBound w kk (k:Int) m .sliceB k9 k9,Int.toNat_natCast]
 simp only[Instr.sureAddr,Instr.sliceBounds,Sem.run_bind,Sem.run_pure,Result.andThen_ok,Option.isSome_none,Bool.false_eq_true,if_false,h1,hT.size he,c]
 by_cases a:m=k
 .rw[if_pos a,if_pos a]
 .rw[if_neg a,if_neg a]
theorem sti_arrFrom(hT:dU P T){o:Oper}{t e m sz k b off:Nat}{ei:TI}{x i:Operand}{kk:IntKind}{z:Int}(ho:o.op= .slice t x (some i) none none)(hx:Γ.ev x=some (.pointer (some ⟨b,off,none⟩)))(hi:Γ.ev i=some (.int kk z))
  (ht:T.get t=some ⟨.array m e,sz⟩) (he:T.get e=some ei) (hz:z=(k:Nat)) (hk:k<=m):Sti P β n Γ H F o (.slice (some ⟨b,if m=k then off else off+k*ei.size,none⟩) (m-k) (m-k)):=λa w S f s c=>by
 subst hz;unfold execOp;simp only[ho,f.ev hx,Option.map_some,Option.map_none,f.ev hi];rw[Sem.run_bind,run_arrFrom hT ht he hk];rfl
end
theorem mono_zero:(prog.info? 111).bind (·.zero)=some (.agg #[j5 0,j6 0,j6 0,j6 0,j6 0,j6 0,j6 0]):=l4
def EI (m:Mono):List Int:=[m.e0.toNat,m.e1.toNat,m.e2.toNat,m.e3.toNat,m.e4.toNat,m.e5.toNat]
def u8I:Flat Int where
 size:=1
 cells:=λx=>[.int .u8 x]
 len:=λ_=>rfl
 one:=λx u hu=>by simp at hu;subst hu;rfl
 pos:=l5
theorem clamp_le(vars:Int):clampK vars<=6:=by unfold clampK;omega
theorem clamp_eq(vars:Int):(if (6:Int)<(if (0:Int)>vars then 0 else vars)then 6 else (if (0:Int)>vars then 0 else vars))=((clampK vars:Nat):Int):=by
 unfold clampK;split<;>split<;>omega
theorem ei_len(m:Mono)(vars:Int):((EI m).drop (clampK vars)).length=6-clampK vars:=by
 rw[U9];rfl
theorem bUn{β:dE}{H H':List bC}{F:List bE}{b:Nat}{t:TypeId}{m:Mono}{k:Nat}(hH:bU H (.obj b (.cells m.cells.toArray t)) H'):dO β H F u8I (some ⟨b,if 6=k then 1 else 1+k*1,none⟩) ((EI m).drop k):=λw S s d j x hx=>by
 refine⟨⟨b,_,rfl⟩,λq u hq=>?_⟩;have c:=(D9.1 hx).1;rw[U9]at c;have c:j<6-k:=c;rw[V0]at hx
 have h0:=bO (β:=β) (F:=F) (off:=0) hH w S s d (1+k+j) (.int .u8 x) (by
  show m.cells[1+k+j]?=_;have e:m.cells= .int .i64 m.n::(EI m).map (λz=>Value.int .u8 z):=rfl;rw[e,show 1+k+j=(k+j)+1 by omega,List.getElem?_cons_succ,I7,hx]
  rfl)
 have a:q=0:=by
  have:=(D9.1 hq).1;simp[u8I]at this;exact this
 subst a;cases hq;show w.cell? ⟨b,(if 6=k then 1 else 1+k*1)+j*1+0,none⟩=_;rw[if_neg k9];rw[show 1+k*1+j*1+0=0+(1+k+j) by omega];exact h0
def okM (k:Nat)(m:Mono):Bool:=(m.E.drop k).all (λe=>e==0)
theorem okM_eq(k:Nat)(m:Mono):okM k m=((EI m).drop k).all (λe=>e==0):=by
 have e:EI m=m.E.map λe=>((e.toNat:Nat):Int):=rfl;unfold okM;rw[e,<-List.map_drop,List.all_map]
 congr 1
 funext u
 rw[G8];simp[<-UInt8.toNat_inj]
theorem bIk{α:Type}{p:α->Bool}{l:List α}{i:Nat}{x:α}(h:(l.take i).all p=true)(hx:l[i]?=some x)(k:p x=true):(l.take (i+1)).all p=true:=by
 obtain⟨a,e⟩:=D9.1 hx;rw[V1 a,e,List.all_append,h];simp[k]
theorem bPn{α:Type}{p:α->Bool}{l:List α}{i:Nat}(h:(l.take i).all p=true)(hi:l.length<=i):l.all p=true:=by
 rwa[V2 hi]at h
theorem all_bad{α:Type}{p:α->Bool}{l:List α}{i:Nat}{x:α}(hx:l[i]?=some x)(k:p x=false):l.all p=false:=List.all_eq_false.2 ⟨x,List.mem_of_getElem? hx,by simp[k]⟩
theorem okM_end{k j:Nat}{m:Mono}(h:(((EI m).drop k).take j).all (λe=>e==0)=true)(hj:((EI m).drop k).length<=j):okM k m=true:=by
 rw[okM_eq];exact bPn h hj
theorem okM_bad{k j:Nat}{m:Mono}{e:Int}(hx:((EI m).drop k)[j]?=some e)(h:e≠0):okM k m=false:=by
 rw[okM_eq];exact all_bad hx w8
theorem ei_ge{k j:Nat}{m:Mono}{e:Int}(hx:((EI m).drop k)[j]?=some e):0<=e:=by
 have:=List.mem_of_mem_drop (f4 hx);simp[EI]at this;omega
theorem le_zero{e:Int}(h:e<=0)(k:0<=e):e=0:=k9
theorem of_bad{p:List Mono}{vars:Int}{i:Nat}{m:Mono}(hx:p[i]?=some m)(h:okM (clampK vars) m=false):V6 false= .bool (ofB p vars):=by
 unfold ofB;rw[show p.all (λm=>(m.E.drop (clampK vars)).all (λe=>e==0))=false from all_bad hx h];rfl
theorem of_end{p:List Mono}{vars:Int}(h:p.all (okM (clampK vars))=true):V6 (cJ p)= .bool (ofB p vars):=by
 unfold ofB;rw[show p.all (λm=>(m.E.drop (clampK vars)).all (λe=>e==0))=true from h];rfl
theorem grow_bad{l:List (List Mono)}{vars:Int}{i:Nat}{p:List Mono}(hx:l[i]?=some p)(h:(ofB p vars&&nH p)=false):V6 false= .bool (mN l vars):=by
 unfold mN;rw[all_bad hx h];rfl
theorem grow_end{l:List PolV}{vars:Int}(h:(polsL l).all (λp=>ofB p vars&&nH p)=true):V6 (decide ((l.length:Int)<=4))= .bool (mN (polsL l) vars):=by
 unfold mN;rw[h,bW,Bool.true_and]
 congr 1
 rw[decide_eq_decide];omega
theorem of_spec(p:PolV)(vars:Int):bZ prog 148 [j0 p,j5 vars] [] [fB p] (λ(_:Unit)=> .bool (ofB p.list vars)) (λ_=>[]) (λ_=>[]):=by
 have hT:=fK;refine i7 func148 ntmps148 ?_;intro β hM;refine fS<|bM (gI d7) λm=>?_;refine bP (oI.sl (.slice p.addr p.list.length p.cap) p.list) (sS d7) ?_;refine g13 ?_;refine bY (ι:=Nat) [(0,_),(1,_),(9,_),(10,_)] ⟨rfl,rfl,rfl,rfl,e8⟩ (λi=>[(11,.int .i64 (i:Nat))]) (λ_=>[]) (λi=>[bE.pure (i<=p.list.length/\(p.list.take i).all (okM (clampK vars))=true)]) (λi=>p.list.length-i) 0 ⟨rfl,e8⟩ .nil ⟨e9 (⟨k9,rfl⟩),e8⟩ ?_;rintro i;refine bM d7 λb=>?_;refine g6 ?_;refine fD (λh=>?_) λh=>?_
 .refine g6 ?_;obtain⟨l,d⟩:=gx p.list i;refine ss (ixs i) ?_;refine ss (kV d 0) ?_;refine f9 mono_zero λo=>?_;refine g9 ?_;refine bF (z':=((clampK vars:Nat):Int)) (clamp_eq vars) ?_;have n:=clamp_le vars;refine ss (sti_arrFrom hT (k:=clampK vars) rfl rfl rfl rfl rfl rfl (clamp_le vars)) ?_;refine one ?_;refine bF (z':=(((6-clampK vars):Nat):Int)) (rfl) ?_;refine g4 ?_;refine bY (ι:=Nat) [(0,_),(1,_),(9,_),(10,_),(11,_),(19,_),(20,_)] ⟨rfl,rfl,rfl,rfl,rfl,rfl,rfl,e8⟩ (λj=>[(21,.int .i64 (j:Nat))]) (λ_=>[]) (λj=>[bE.pure (j<=6-clampK vars/\(((EI l).drop (clampK vars)).take j).all (λe=>e==0)=true)]) (λj=>6-clampK vars-j) 0 ⟨rfl,e8⟩ .nil ⟨e9 (⟨k9,rfl⟩),e8⟩ ?_;rintro j;refine bM d7 λa=>?_;refine g6 ?_;refine fD (λg=>?_) λg=>?_
  .refine g6 ?_;obtain⟨x4,c⟩:=gx ((EI l).drop (clampK vars)) j (by rw[ei_len];omega);refine ss (bJ hT (k:=j) (bUn .head) rfl rfl rfl rfl rfl (ei_len l vars).symm rfl (by rw[ei_len];omega)) ?_;refine ss (f8 hT (dO.knows (bUn .head) (k:=j) (x:=x4) c 0)) ?_;refine g9 ?_;refine fD (λf=>?_) λf=>?_
   .refine g15 ?_;exact rs1 () e8 (he:=of_bad d (okM_bad c k9))
   refine g5 ?_;refine inc (j+1) ?_;refine g3 ?_;exact bk2 (j+1) ⟨e9 (⟨k9,bIk a.2 c (beq_iff_eq.2 (le_zero ‹_› (ei_ge c)))⟩),e8⟩
  refine g8 ?_;refine inc (i+1) ?_;refine g3 ?_;exact bk2 (i+1) ⟨e9 (⟨k9,bIk b.2 d (okM_end a.2 (by rw[ei_len];omega))⟩),e8⟩
 refine g8 ?_;refine f7 func43 (polR_spec p m) .nil ⟨d9,e8⟩ λ_=>?_;refine g4 ?_;exact rs1 () e8 (he:=of_end (bPn b.2 k9))
theorem bUs(l:Sl PolV)(vars:Int):bZ prog 80 [j0 l,j5 vars] [] [tV l] (λ(_:Unit)=> .bool (mN (polsL l.list) vars)) (λ_=>[]) (λ_=>[]):=by
 have hT:=fK;refine i7 func80 ntmps80 ?_;intro β hM;refine fS<|bM (wL d7) λh=>?_;have j:=h.2;refine bP (iY.sl (.slice l.addr l.list.length l.cap) l.list) (qM d7) ?_;refine g13 ?_;refine bY (ι:=Nat) [(0,_),(1,_),(7,_),(8,_)] ⟨rfl,rfl,rfl,rfl,e8⟩ (λi=>[(9,.int .i64 (i:Nat))]) (λ_=>[]) (λi=>[bE.pure (i<=l.list.length/\((polsL l.list).take i).all (λp=>ofB p vars&&nH p)=true)]) (λi=>l.list.length-i) 0 ⟨rfl,e8⟩ .nil ⟨e9 (⟨k9,rfl⟩),e8⟩ ?_;rintro i;refine bM d7 λb=>?_;refine g6 ?_;refine fD (λf=>?_) λf=>?_
 .refine g6 ?_;obtain⟨g,a⟩:=gx l.list i;refine ss (ixs i) ?_;refine ss (jB a 0) ?_;refine g4 ?_;refine bP (fB g) (Has.each (qJ d9) (f4 a))<|bM (gI d7) λc=>?_;refine g3 ?_;refine f7 func148 (of_spec g vars) .nil ⟨d7,e8⟩ λ_=>?_;refine g2 ?_;refine k_nt (λd=>?_) λd=>?_
  .refine g18 ?_;exact rs1 () e8 (he:=grow_bad (cW a) (by simp_all))
  refine one ?_;refine f7 func149 (bMu g c) .nil ⟨d7,e8⟩ λ_=>?_;refine g4 ?_;refine bBd (λe=>?_) λe=>?_
  .refine g11 ?_;exact rs1 () e8 (he:=grow_bad (cW a) (by simp_all))
  refine g5 ?_;refine inc (i+1) ?_;refine g3 ?_;exact bk2 (i+1) ⟨e9 (⟨k9,bIk b.2 (cW a) (by simp_all)⟩),e8⟩
 refine g14 ?_;exact rs1 () e8 (he:=grow_end (bPn b.2 o8))
theorem bI{β:dE}{H:List bC}{F:List bE}{b off:Nat}{cs:List Value}(h:Has F (bE.cells b 0 cs)):oU β H F b off (cs.drop off):=λw S _ k j u a=>by
 rw[V0]at a;have:=(h S w k).2 (off+j) u a
 rwa[C7]at this
def opV (vars loops buf:Int)(made:List Bool)(o:OpV):Bool:=
 if o.how=1 then (o.k==0)&&(((o.p.list.length:Int)==0)&&(o.fn==0))
 else if o.how=2 then ofB o.p.list vars&&((o.n==0)&&((o.k==0)&&(o.fn==0)))
 else if o.how=3 then decide (0<=o.k)&&(decide (o.k<loops)&&((o.n==0)&&(((o.p.list.length:Int)==0)&&(o.fn==0))))
 else if o.how=4 then decide (0<=o.k)&&(decide (o.k<(made.length:Int))&&((made[o.k.toNat]?).getD false&&((o.k !=buf)&&((o.n==0)&&(((o.p.list.length:Int)==0)&&(o.fn==0))))))
 else if o.how=5\/o.how=6 then kG o.fn (o.how==6)&&((o.n==0)&&((o.k==0)&&((o.p.list.length:Int)==0)))
 else false
theorem yB{vars loops buf:Int}{made:List Bool}{o:OpV}:opV vars loops buf made o=opB vars loops buf made o.c:=by
 have b:o.c.p.isEmpty=((o.p.list.length:Int)==0):=by
  show o.p.list.isEmpty=_;rw[G8,V3,beq_iff_eq,V7,V4]
 unfold opV opB;rw[b];show(if o.how=1 then _ else if o.how=2 then _ else if o.how=3 then _ else if o.how=4 then _ else if _ then _ else _)=(if o.how=1 then _ else if o.how=2 then _ else if o.how=3 then _ else if o.how=4 then _ else if _ then _ else _);split
 .rfl
 .split
  .rfl
  .split
   .rw[G8];simp only[G1,decide_eq_true_eq];exact and_assoc.symm
   .split
    .rw[G8];simp only[G1,decide_eq_true_eq,List.getD_eq_getElem?_getD,bne_iff_ne];show 0<=o.k/\o.k<made.length/\(made[o.k.toNat]?).getD false=true/\o.k≠buf/\_↔(0<=o.k/\o.k≠buf)/\(made[o.k.toNat]?).getD false=true/\_;constructor
     .rintro⟨a,_,c,d,e⟩;exact⟨⟨a,d⟩,c,e⟩
     .rintro⟨⟨a,d⟩,c,e⟩;refine⟨a,?_,c,d,e⟩
      rcases Int.lt_or_le o.k made.length with h|h
      .exact h
      .rw[V5 k9]at c;cases c
    .rfl
section
variable {vars loops buf : Int} {made : List Bool} {o : OpV}
theorem jF(h:o.how=1):opB vars loops buf made o.c=((o.k==0)&&(((o.p.list.length:Int)==0)&&(o.fn==0))):=by
 rw[<-yB];unfold opV;rw[if_pos h]
theorem jC(h:o.how=2):opB vars loops buf made o.c=(ofB o.p.list vars&&((o.n==0)&&((o.k==0)&&(o.fn==0)))):=by
 rw[<-yB];unfold opV;rw[if_neg k9,if_pos h]
theorem jH(h:o.how=3):opB vars loops buf made o.c=(decide (0<=o.k)&&(decide (o.k<loops)&&((o.n==0)&&(((o.p.list.length:Int)==0)&&(o.fn==0))))):=by
 rw[<-yB];unfold opV;rw[if_neg k9,if_neg k9,if_pos h]
theorem jG{x:Bool}(h:o.how=4)(hx:made[o.k.toNat]?=some x):opB vars loops buf made o.c=(decide (0<=o.k)&&(decide (o.k<(made.length:Int))&&(x&&((o.k !=buf)&&((o.n==0)&&(((o.p.list.length:Int)==0)&&(o.fn==0))))))):=by
 rw[<-yB];unfold opV;rw[if_neg k9,if_neg k9,if_neg k9,if_pos h,hx];rfl
theorem gB(h:o.how=4)(hx: ¬(0<=o.k/\o.k<made.length)):opB vars loops buf made o.c=false:=by
 rw[<-yB];unfold opV;rw[if_neg k9,if_neg k9,if_neg k9,if_pos h]
 by_cases h0:0<=o.k
 .rw[decide_eq_false (show ¬o.k<(made.length:Int)from λe=>hx ⟨h0,e⟩)];simp
 .rw[decide_eq_false h0];rfl
theorem jD(h:o.how=5):opB vars loops buf made o.c=(kG o.fn false&&((o.n==0)&&((o.k==0)&&((o.p.list.length:Int)==0)))):=by
 rw[<-yB];unfold opV;rw[if_neg k9,if_neg k9,if_neg k9,if_neg k9,if_pos (.inl h),h];rfl
theorem jI(h:o.how=6):opB vars loops buf made o.c=(kG o.fn true&&((o.n==0)&&((o.k==0)&&((o.p.list.length:Int)==0)))):=by
 rw[<-yB];unfold opV;rw[if_neg k9,if_neg k9,if_neg k9,if_neg k9,if_pos (.inr h),h];rfl
theorem jE(h1:o.how≠1)(h2:o.how≠2)(h3:o.how≠3)(h4:o.how≠4)(h5:o.how≠5)(h6:o.how≠6):opB vars loops buf made o.c=false:=by
 rw[<-yB];unfold opV;rw[if_neg h1,if_neg h2,if_neg h3,if_neg h4,if_neg (λh=>h.elim h5 h6)]
end
def oN {α:Type}(p:α->Bool):List α->Int->Int
 |[],_=> -1
 |s::r,i=>if p s=true then i else oN p r (i+1)
section
variable {α : Type} {p : α -> Bool} {x : α} {l : List α} {i : Nat} {r : Int}
theorem lK(h:r=oN p (l.drop i) i)(hx:l[i]?=some x):(p x=true->r=i)/\(p x=false->r=oN p (l.drop (i+1)) ((i+1:Nat):Int)):=by
 rw[qH hx,oN]at h;refine⟨λe=>by rw[if_pos e]at h;exact h,λe=>by rw[if_neg (by rw[e];simp)]at h;rw[h];rfl⟩
theorem zR(h:r=oN p (l.drop i) i)(hi:l.length<=i):r= -1:=by
 rw[R5 hi]at h;exact h
end
theorem zH{α:Type}(p:α->Bool): ∀(l:List α) (i:Int),0<=i->decide (0<=oN p l i)=l.any p
 |[],i,_=>rfl
 |s::r,i,h=>by
  rw[oN,List.any_cons]
  cases e:p s with
  |true=>simp[h]
  |false=>
   rw[if_neg n4,zH p r (i+1) k9];simp
def rK (vars:Int)(made:List Bool)(x:gV):Bool:=
 ofB x.at_.list vars&&(nH x.at_.list&&(mN (polsL x.loops.list) vars&&(!decide ((256:Int)<x.ops.list.length)&&(!decide (pU (opsL x.ops.list)<0)&&
  ((if x.how=1 then x.fn==0 else if x.how=2\/x.how=3 then !((x.loops.list.length:Int)==0)&&kG x.fn true else false)&& !(x.ops.list.any λo=>!opB vars x.loops.list.length x.buf made o.c))))))
theorem any_not{α:Type}(p:α->Bool)(l:List α):(!l.any λo=>!p o)=l.all p:=by
 induction l with
 |nil=>rfl
 |cons x r ih=>rw[List.any_cons,List.all_cons,Bool.not_or,Bool.not_not,ih]
theorem jR{vars:Int}{made:List Bool}{x:gV}:rK vars made x=nB vars made x.c:=by
 have h1:x.c.ops.length=x.ops.list.length:=dR _;have e:x.c.loops.length=x.loops.list.length:=bW _
 have d:x.c.loops.isEmpty=((x.loops.list.length:Int)==0):=by
  show(polsL x.loops.list).isEmpty=_;rw[G8,V3,beq_iff_eq,V7,<-V4,bW]
 have h4: ∀p:OpC->Bool,x.c.ops.all p= !(x.ops.list.any λo=>!p o.c):=λp=>by
  show(opsL x.ops.list).all p=_;unfold opsL;rw[List.all_map,any_not];rfl
 unfold rK nB;rw[h1,e,d,h4]
 have b:(!decide ((256:Int)<x.ops.list.length))=decide (x.ops.list.length<=256):=by
  rw[<-decide_not,decide_eq_decide];omega
 have a:(!decide (pU (opsL x.ops.list)<0))=decide (0<=pU (opsL x.ops.list)):=by
  rw[<-decide_not,decide_eq_decide];omega
 rw[b,a,Bool.and_assoc];rfl
theorem right_spec(bs:Nat)(vars loops buf:Int)(MA:Option Addr)(mc:Nat)(made:List Bool)(o:OpV):bZ prog 152 [.pointer (some ⟨bs,0,none⟩),.agg #[j5 o.how,j5 o.k,j5 o.n,j0 o.p,j6 o.fn]] [] [opF o,bE.cells bs 0 [j5 vars,j5 loops,j5 buf,.slice MA made.length mc],lJ.sl (.slice MA made.length mc) made] (λ(_:Unit)=> .bool (opB vars loops buf made o.c)) (λ_=>[]) (λ_=>[]):=by
 have hT:=fK;refine i7 func152 ntmps152 ?_;intro β hM;refine g2 ?_;refine i6 λA=>?_;refine g4 ?_;refine dC _ _ [(true,0),(true,1),(true,2),(true,3),(true,4),(true,5),(true,6),(true,7),(true,8),(true,9),(true,10),(true,11)] dJ l8 (.c0 .nil) bA.self ?_;refine g33 ?_;refine cR rfl (λhc20=>?_) (λhc20=>?_)
 .have w:=hc20;have hc20:=eq_of_beq hc20;refine g12 ?_;refine bQ (t':=true) l5 ?_;refine g6 ?_;refine dB (λd=>?_) (λd=>?_)
  .have d:=eq_of_beq d;refine g5 ?_;refine dB (λa=>?_) (λa=>?_)
   .have a:=eq_of_beq a;refine g7 ?_;exact rs1 () e8 (he:=by first|(rw[jF ‹_›];simp[*];done)|(rw[jC ‹_›];simp[*];done)|(rw[jH ‹_›];simp[*];done)|(rw[jG ‹_› ‹_›];simp[*];done)|(rw[gB ‹_› k9];done)|(rw[jD ‹_›];simp[*];done)|(rw[jI ‹_›];simp[*];done)|rw[jE ‹_› ‹_› ‹_› ‹_› ‹_› ‹_›])
   have a:=beq_eq_false_iff_ne.1 a;refine g7 ?_;exact rs1 () e8 (he:=by first|(rw[jF ‹_›];simp[*];done)|(rw[jC ‹_›];simp[*];done)|(rw[jH ‹_›];simp[*];done)|(rw[jG ‹_› ‹_›];simp[*];done)|(rw[gB ‹_› k9];done)|(rw[jD ‹_›];simp[*];done)|(rw[jI ‹_›];simp[*];done)|rw[jE ‹_› ‹_› ‹_› ‹_› ‹_› ‹_›])
  have d:=beq_eq_false_iff_ne.1 d;refine g12 ?_;exact rs1 () e8 (he:=by first|(rw[jF ‹_›];simp[*];done)|(rw[jC ‹_›];simp[*];done)|(rw[jH ‹_›];simp[*];done)|(rw[jG ‹_› ‹_›];simp[*];done)|(rw[gB ‹_› k9];done)|(rw[jD ‹_›];simp[*];done)|(rw[jI ‹_›];simp[*];done)|rw[jE ‹_› ‹_› ‹_› ‹_› ‹_› ‹_›])
 have w:=hc20;have hc20:=beq_eq_false_iff_ne.1 hc20;refine g6 ?_;refine cR rfl (λj=>?_) (λj=>?_)
 .have v:=j;have j:=eq_of_beq j;refine dC _ _ [(true,0),(true,1),(true,2),(true,3),(true,4),(true,5),(false,6),(true,7),(true,8)] dJ l8 (.c0 .nil) bA.self ?_;refine g5 ?_;refine stM rfl (f8 hT (bI (off:=0) d8)) ?_;refine one ?_;refine f7 func148 (of_spec o.p vars) .nil ⟨d7,e8⟩ λ_=>?_;refine g10 ?_;refine dB (λe=>?_) (λe=>?_)
  .refine g4 ?_;refine dB (λb=>?_) (λb=>?_)
   .have b:=eq_of_beq b;refine g4 ?_;refine dB (λd=>?_) (λd=>?_)
    .have d:=eq_of_beq d;refine g3 ?_;refine bQ (t':=true) l5 ?_;refine g9 ?_;exact rs1 () e8 (he:=by first|(rw[jF ‹_›];simp[*];done)|(rw[jC ‹_›];simp[*];done)|(rw[jH ‹_›];simp[*];done)|(rw[jG ‹_› ‹_›];simp[*];done)|(rw[gB ‹_› k9];done)|(rw[jD ‹_›];simp[*];done)|(rw[jI ‹_›];simp[*];done)|rw[jE ‹_› ‹_› ‹_› ‹_› ‹_› ‹_›])
    have d:=beq_eq_false_iff_ne.1 d;refine g12 ?_;exact rs1 () e8 (he:=by first|(rw[jF ‹_›];simp[*];done)|(rw[jC ‹_›];simp[*];done)|(rw[jH ‹_›];simp[*];done)|(rw[jG ‹_› ‹_›];simp[*];done)|(rw[gB ‹_› k9];done)|(rw[jD ‹_›];simp[*];done)|(rw[jI ‹_›];simp[*];done)|rw[jE ‹_› ‹_› ‹_› ‹_› ‹_› ‹_›])
   have b:=beq_eq_false_iff_ne.1 b;refine g16 ?_;exact rs1 () e8 (he:=by first|(rw[jF ‹_›];simp[*];done)|(rw[jC ‹_›];simp[*];done)|(rw[jH ‹_›];simp[*];done)|(rw[jG ‹_› ‹_›];simp[*];done)|(rw[gB ‹_› k9];done)|(rw[jD ‹_›];simp[*];done)|(rw[jI ‹_›];simp[*];done)|rw[jE ‹_› ‹_› ‹_› ‹_› ‹_› ‹_›])
  refine g20 ?_;exact rs1 () e8 (he:=by first|(rw[jF ‹_›];simp[*];done)|(rw[jC ‹_›];simp[*];done)|(rw[jH ‹_›];simp[*];done)|(rw[jG ‹_› ‹_›];simp[*];done)|(rw[gB ‹_› k9];done)|(rw[jD ‹_›];simp[*];done)|(rw[jI ‹_›];simp[*];done)|rw[jE ‹_› ‹_› ‹_› ‹_› ‹_› ‹_›])
 have v:=j;have j:=beq_eq_false_iff_ne.1 j;refine g6 ?_;refine cR rfl (λi=>?_) (λi=>?_)
 .have u:=i;have i:=eq_of_beq i;refine dC _ _ [(true,0),(true,1),(true,2),(true,3),(true,4),(true,5),(true,6),(true,7),(true,8),(true,9),(true,10),(true,11),(true,12),(true,13)] dJ l8 (.c0 .nil) bA.self ?_;refine g4 ?_;refine dB (λq=>?_) (λq=>?_)
  .have q:=of_decide_eq_true q;refine g5 ?_;refine stM rfl (f8 hT (bI (off:=1) d8)) ?_;refine g11 ?_;refine dB (λe=>?_) (λe=>?_)
   .have e:=of_decide_eq_true e;refine g4 ?_;refine dB (λb=>?_) (λb=>?_)
    .have b:=eq_of_beq b;refine g2 ?_;refine bQ (t':=true) l5 ?_;refine g7 ?_;refine dB (λa=>?_) (λa=>?_)
     .have a:=eq_of_beq a;refine g7 ?_;exact rs1 () e8 (he:=by first|(rw[jF ‹_›];simp[*];done)|(rw[jC ‹_›];simp[*];done)|(rw[jH ‹_›];simp[*];done)|(rw[jG ‹_› ‹_›];simp[*];done)|(rw[gB ‹_› k9];done)|(rw[jD ‹_›];simp[*];done)|(rw[jI ‹_›];simp[*];done)|rw[jE ‹_› ‹_› ‹_› ‹_› ‹_› ‹_›])
     have a:=beq_eq_false_iff_ne.1 a;refine g7 ?_;exact rs1 () e8 (he:=by first|(rw[jF ‹_›];simp[*];done)|(rw[jC ‹_›];simp[*];done)|(rw[jH ‹_›];simp[*];done)|(rw[jG ‹_› ‹_›];simp[*];done)|(rw[gB ‹_› k9];done)|(rw[jD ‹_›];simp[*];done)|(rw[jI ‹_›];simp[*];done)|rw[jE ‹_› ‹_› ‹_› ‹_› ‹_› ‹_›])
    have b:=beq_eq_false_iff_ne.1 b;refine g16 ?_;exact rs1 () e8 (he:=by first|(rw[jF ‹_›];simp[*];done)|(rw[jC ‹_›];simp[*];done)|(rw[jH ‹_›];simp[*];done)|(rw[jG ‹_› ‹_›];simp[*];done)|(rw[gB ‹_› k9];done)|(rw[jD ‹_›];simp[*];done)|(rw[jI ‹_›];simp[*];done)|rw[jE ‹_› ‹_› ‹_› ‹_› ‹_› ‹_›])
   have e:=V8.1 (of_decide_eq_false e);refine g20 ?_;exact rs1 () e8 (he:=by first|(rw[jF ‹_›];simp[*];done)|(rw[jC ‹_›];simp[*];done)|(rw[jH ‹_›];simp[*];done)|(rw[jG ‹_› ‹_›];simp[*];done)|(rw[gB ‹_› k9];done)|(rw[jD ‹_›];simp[*];done)|(rw[jI ‹_›];simp[*];done)|rw[jE ‹_› ‹_› ‹_› ‹_› ‹_› ‹_›])
  have q:=Int.not_le.1 (of_decide_eq_false q);refine g37 ?_;exact rs1 () e8 (he:=by first|(rw[jF ‹_›];simp[*];done)|(rw[jC ‹_›];simp[*];done)|(rw[jH ‹_›];simp[*];done)|(rw[jG ‹_› ‹_›];simp[*];done)|(rw[gB ‹_› k9];done)|(rw[jD ‹_›];simp[*];done)|(rw[jI ‹_›];simp[*];done)|rw[jE ‹_› ‹_› ‹_› ‹_› ‹_› ‹_›])
 have u:=i;have i:=beq_eq_false_iff_ne.1 i;refine g6 ?_;refine cR rfl (λh=>?_) (λh=>?_)
 .have t:=h;have h:=eq_of_beq h;refine dC _ _ [(true,0),(true,1),(true,2),(true,3),(true,4),(true,5),(true,6),(true,7),(true,8),(true,9),(true,10),(true,11),(true,12),(true,13),(true,14),(true,15),(true,16),(true,17),(true,18),(true,19),(true,20),(true,21),(true,22),(true,23),(true,24),(true,25),(true,26),(true,27),(true,28),(true,29),(true,30),(true,31),(true,32),(true,33)] dJ l8 (.c0 .nil) bA.self ?_;refine g4 ?_;refine dB (λm=>?_) (λm=>?_)
  .have m:=of_decide_eq_true m;refine g5 ?_;refine stM rfl (f8 hT (bI (off:=3) d8)) ?_;refine g4 ?_;refine dB (λl=>?_) (λl=>?_)
   .have l:=of_decide_eq_true l;refine g3 ?_;refine stM rfl (f8 hT (bI (off:=3) d8)) ?_;refine g2 ?_;obtain⟨z,y⟩:=gx made o.k.toNat;refine stM rfl (bJ hT (k:=o.k.toNat) (bV d9) rfl rfl rfl rfl rfl rfl k9 k9) ?_;refine stM rfl (jB y 0) ?_;refine g2 ?_;refine dB (λx=>?_) (λx=>?_)
    .refine g5 ?_;refine stM rfl (f8 hT (bI (off:=2) d8)) ?_;refine g11 ?_;refine dB (λe=>?_) (λe=>?_)
     .have e:=bne_iff_ne.1 e;refine g4 ?_;refine dB (λb=>?_) (λb=>?_)
      .have b:=eq_of_beq b;refine g2 ?_;refine bQ (t':=true) l5 ?_;refine g7 ?_;refine dB (λa=>?_) (λa=>?_)
       .have a:=eq_of_beq a;refine g7 ?_;exact rs1 () e8 (he:=by first|(rw[jF ‹_›];simp[*];done)|(rw[jC ‹_›];simp[*];done)|(rw[jH ‹_›];simp[*];done)|(rw[jG ‹_› ‹_›];simp[*];done)|(rw[gB ‹_› k9];done)|(rw[jD ‹_›];simp[*];done)|(rw[jI ‹_›];simp[*];done)|rw[jE ‹_› ‹_› ‹_› ‹_› ‹_› ‹_›])
       have a:=beq_eq_false_iff_ne.1 a;refine g7 ?_;exact rs1 () e8 (he:=by first|(rw[jF ‹_›];simp[*];done)|(rw[jC ‹_›];simp[*];done)|(rw[jH ‹_›];simp[*];done)|(rw[jG ‹_› ‹_›];simp[*];done)|(rw[gB ‹_› k9];done)|(rw[jD ‹_›];simp[*];done)|(rw[jI ‹_›];simp[*];done)|rw[jE ‹_› ‹_› ‹_› ‹_› ‹_› ‹_›])
      have b:=beq_eq_false_iff_ne.1 b;refine g16 ?_;exact rs1 () e8 (he:=by first|(rw[jF ‹_›];simp[*];done)|(rw[jC ‹_›];simp[*];done)|(rw[jH ‹_›];simp[*];done)|(rw[jG ‹_› ‹_›];simp[*];done)|(rw[gB ‹_› k9];done)|(rw[jD ‹_›];simp[*];done)|(rw[jI ‹_›];simp[*];done)|rw[jE ‹_› ‹_› ‹_› ‹_› ‹_› ‹_›])
     have e:=bne_eq_false_iff_eq.1 e;refine g20 ?_;exact rs1 () e8 (he:=by first|(rw[jF ‹_›];simp[*];done)|(rw[jC ‹_›];simp[*];done)|(rw[jH ‹_›];simp[*];done)|(rw[jG ‹_› ‹_›];simp[*];done)|(rw[gB ‹_› k9];done)|(rw[jD ‹_›];simp[*];done)|(rw[jI ‹_›];simp[*];done)|rw[jE ‹_› ‹_› ‹_› ‹_› ‹_› ‹_›])
    refine g37 ?_;exact rs1 () e8 (he:=by first|(rw[jF ‹_›];simp[*];done)|(rw[jC ‹_›];simp[*];done)|(rw[jH ‹_›];simp[*];done)|(rw[jG ‹_› ‹_›];simp[*];done)|(rw[gB ‹_› k9];done)|(rw[jD ‹_›];simp[*];done)|(rw[jI ‹_›];simp[*];done)|rw[jE ‹_› ‹_› ‹_› ‹_› ‹_› ‹_›])
   have l:=V8.1 (of_decide_eq_false l);refine g40 ?_;refine g7 ?_;exact rs1 () e8 (he:=by first|(rw[jF ‹_›];simp[*];done)|(rw[jC ‹_›];simp[*];done)|(rw[jH ‹_›];simp[*];done)|(rw[jG ‹_› ‹_›];simp[*];done)|(rw[gB ‹_› k9];done)|(rw[jD ‹_›];simp[*];done)|(rw[jI ‹_›];simp[*];done)|rw[jE ‹_› ‹_› ‹_› ‹_› ‹_› ‹_›])
  have m:=Int.not_le.1 (of_decide_eq_false m);refine g40 ?_;refine g17 ?_;exact rs1 () e8 (he:=by first|(rw[jF ‹_›];simp[*];done)|(rw[jC ‹_›];simp[*];done)|(rw[jH ‹_›];simp[*];done)|(rw[jG ‹_› ‹_›];simp[*];done)|(rw[gB ‹_› k9];done)|(rw[jD ‹_›];simp[*];done)|(rw[jI ‹_›];simp[*];done)|rw[jE ‹_› ‹_› ‹_› ‹_› ‹_› ‹_›])
 have t:=h;have h:=beq_eq_false_iff_ne.1 h;refine g7 ?_;refine cR rfl (λg=>?_) (λg=>?_)
 .have r:=g;have g:=eq_of_beq g;refine g2 ?_;refine mT rfl r ?_;refine g6 ?_;refine bQ (t':=false) (by rw[g];rfl) ?_;refine f7 func100 (uA _ _) .nil e8 λ_=>?_;refine g9 ?_;refine dB (λe=>?_) (λe=>?_)
  .refine g4 ?_;refine dB (λb=>?_) (λb=>?_)
   .have b:=eq_of_beq b;refine g4 ?_;refine dB (λd=>?_) (λd=>?_)
    .have d:=eq_of_beq d;refine g5 ?_;refine dB (λa=>?_) (λa=>?_)
     .have a:=eq_of_beq a;refine g2 ?_;refine bQ (t':=true) l5 ?_;refine g5 ?_;exact rs1 () e8 (he:=by first|(rw[jF ‹_›];simp[*];done)|(rw[jC ‹_›];simp[*];done)|(rw[jH ‹_›];simp[*];done)|(rw[jG ‹_› ‹_›];simp[*];done)|(rw[gB ‹_› k9];done)|(rw[jD ‹_›];simp[*];done)|(rw[jI ‹_›];simp[*];done)|rw[jE ‹_› ‹_› ‹_› ‹_› ‹_› ‹_›])
     have a:=beq_eq_false_iff_ne.1 a;refine g7 ?_;exact rs1 () e8 (he:=by first|(rw[jF ‹_›];simp[*];done)|(rw[jC ‹_›];simp[*];done)|(rw[jH ‹_›];simp[*];done)|(rw[jG ‹_› ‹_›];simp[*];done)|(rw[gB ‹_› k9];done)|(rw[jD ‹_›];simp[*];done)|(rw[jI ‹_›];simp[*];done)|rw[jE ‹_› ‹_› ‹_› ‹_› ‹_› ‹_›])
    have d:=beq_eq_false_iff_ne.1 d;refine g12 ?_;exact rs1 () e8 (he:=by first|(rw[jF ‹_›];simp[*];done)|(rw[jC ‹_›];simp[*];done)|(rw[jH ‹_›];simp[*];done)|(rw[jG ‹_› ‹_›];simp[*];done)|(rw[gB ‹_› k9];done)|(rw[jD ‹_›];simp[*];done)|(rw[jI ‹_›];simp[*];done)|rw[jE ‹_› ‹_› ‹_› ‹_› ‹_› ‹_›])
   have b:=beq_eq_false_iff_ne.1 b;refine g16 ?_;exact rs1 () e8 (he:=by first|(rw[jF ‹_›];simp[*];done)|(rw[jC ‹_›];simp[*];done)|(rw[jH ‹_›];simp[*];done)|(rw[jG ‹_› ‹_›];simp[*];done)|(rw[gB ‹_› k9];done)|(rw[jD ‹_›];simp[*];done)|(rw[jI ‹_›];simp[*];done)|rw[jE ‹_› ‹_› ‹_› ‹_› ‹_› ‹_›])
  refine g20 ?_;exact rs1 () e8 (he:=by first|(rw[jF ‹_›];simp[*];done)|(rw[jC ‹_›];simp[*];done)|(rw[jH ‹_›];simp[*];done)|(rw[jG ‹_› ‹_›];simp[*];done)|(rw[gB ‹_› k9];done)|(rw[jD ‹_›];simp[*];done)|(rw[jI ‹_›];simp[*];done)|rw[jE ‹_› ‹_› ‹_› ‹_› ‹_› ‹_›])
 have r:=g;have g:=beq_eq_false_iff_ne.1 g;refine g5 ?_;refine cR rfl (λf=>?_) (λf=>?_)
 .have s:=f;have f:=eq_of_beq f;refine g6 ?_;refine bQ (t':=true) (by rw[f];rfl) ?_;refine f7 func100 (uA _ _) .nil e8 λ_=>?_;refine g9 ?_;refine dB (λe=>?_) (λe=>?_)
  .refine g4 ?_;refine dB (λb=>?_) (λb=>?_)
   .have b:=eq_of_beq b;refine g4 ?_;refine dB (λd=>?_) (λd=>?_)
    .have d:=eq_of_beq d;refine g5 ?_;refine dB (λa=>?_) (λa=>?_)
     .have a:=eq_of_beq a;refine g2 ?_;refine bQ (t':=true) l5 ?_;refine g5 ?_;exact rs1 () e8 (he:=by first|(rw[jF ‹_›];simp[*];done)|(rw[jC ‹_›];simp[*];done)|(rw[jH ‹_›];simp[*];done)|(rw[jG ‹_› ‹_›];simp[*];done)|(rw[gB ‹_› k9];done)|(rw[jD ‹_›];simp[*];done)|(rw[jI ‹_›];simp[*];done)|rw[jE ‹_› ‹_› ‹_› ‹_› ‹_› ‹_›])
     have a:=beq_eq_false_iff_ne.1 a;refine g7 ?_;exact rs1 () e8 (he:=by first|(rw[jF ‹_›];simp[*];done)|(rw[jC ‹_›];simp[*];done)|(rw[jH ‹_›];simp[*];done)|(rw[jG ‹_› ‹_›];simp[*];done)|(rw[gB ‹_› k9];done)|(rw[jD ‹_›];simp[*];done)|(rw[jI ‹_›];simp[*];done)|rw[jE ‹_› ‹_› ‹_› ‹_› ‹_› ‹_›])
    have d:=beq_eq_false_iff_ne.1 d;refine g12 ?_;exact rs1 () e8 (he:=by first|(rw[jF ‹_›];simp[*];done)|(rw[jC ‹_›];simp[*];done)|(rw[jH ‹_›];simp[*];done)|(rw[jG ‹_› ‹_›];simp[*];done)|(rw[gB ‹_› k9];done)|(rw[jD ‹_›];simp[*];done)|(rw[jI ‹_›];simp[*];done)|rw[jE ‹_› ‹_› ‹_› ‹_› ‹_› ‹_›])
   have b:=beq_eq_false_iff_ne.1 b;refine g16 ?_;exact rs1 () e8 (he:=by first|(rw[jF ‹_›];simp[*];done)|(rw[jC ‹_›];simp[*];done)|(rw[jH ‹_›];simp[*];done)|(rw[jG ‹_› ‹_›];simp[*];done)|(rw[gB ‹_› k9];done)|(rw[jD ‹_›];simp[*];done)|(rw[jI ‹_›];simp[*];done)|rw[jE ‹_› ‹_› ‹_› ‹_› ‹_› ‹_›])
  refine g20 ?_;exact rs1 () e8 (he:=by first|(rw[jF ‹_›];simp[*];done)|(rw[jC ‹_›];simp[*];done)|(rw[jH ‹_›];simp[*];done)|(rw[jG ‹_› ‹_›];simp[*];done)|(rw[gB ‹_› k9];done)|(rw[jD ‹_›];simp[*];done)|(rw[jI ‹_›];simp[*];done)|rw[jE ‹_› ‹_› ‹_› ‹_› ‹_› ‹_›])
 have s:=f;have f:=beq_eq_false_iff_ne.1 f;refine g27 ?_;exact rs1 () e8 (he:=by first|(rw[jF ‹_›];simp[*];done)|(rw[jC ‹_›];simp[*];done)|(rw[jH ‹_›];simp[*];done)|(rw[jG ‹_› ‹_›];simp[*];done)|(rw[gB ‹_› k9];done)|(rw[jD ‹_›];simp[*];done)|(rw[jI ‹_›];simp[*];done)|rw[jE ‹_› ‹_› ‹_› ‹_› ‹_› ‹_›])
theorem bCh(bp:Nat)(bs:Nat)(vars loops buf:Int)(MA:Option Addr)(mc:Nat)(made:List Bool)(o:OpV):bZ prog 151 [.agg #[j5 o.how,j5 o.k,j5 o.n,j0 o.p,j6 o.fn],.pointer (some ⟨bp,0,none⟩)] [] [opF o,bE.cells bp 0 [.pointer (some ⟨bs,0,none⟩)],bE.cells bs 0 [j5 vars,j5 loops,j5 buf,.slice MA made.length mc],lJ.sl (.slice MA made.length mc) made] (λ(_:Unit)=> .bool (!opB vars loops buf made o.c)) (λ_=>[]) (λ_=>[]):=by
 have hT:=fK;refine i7 func151 ntmps151 ?_;intro β hM;refine g2 ?_;refine i6 λa=>?_;refine g5 ?_;refine ss (f8 hT (bI (off:=0) d8)) ?_;refine one ?_;refine f7 func152 (right_spec bs vars loops buf MA mc made o) .nil ⟨d7,d9,e6,e8⟩ λ_=>?_;refine g5 ?_;exact rs1 () trivial
theorem indexFO_spec(A:Option Addr)(c:Nat)(l:List OpV)(hl:l.length<=140737488355328)(f:FuncId)(cap:List Value)(G:List bE)(p:OpV->Bool)(hcf: ∀(args:Array Value) (w:World),(callFunc f args).run prog w= .ok (.enter f args) w)(hf: ∀o:OpV,bZ prog f (.agg #[j5 o.how,j5 o.k,j5 o.n,j0 o.p,j6 o.fn]::cap) [] (opF o::G) (λ_:Unit=> .bool (p o)) (λ_=>[]) (λ_=>[])):bZ prog 212 [.slice A l.length c,.func (.func f) #[] cap.toArray] [] (opE.sl (.slice A l.length c) l::bE.each l opF::G) (λ(_:Unit)=> j5 (oN p l 0)) (λ_=>[]) (λ_=>[]):=by
 have hT:=fK;generalize h:oN p l 0=r;refine i7 func212 ntmps212 ?_;intro β hM;refine g14 ?_;refine bY (ι:=Nat) [(0,_),(1,_),(7,_)] ⟨rfl,rfl,rfl,e8⟩ (λi=>[(8,.int .i64 (i:Nat))]) (λ_=>[]) (λi=>[bE.pure (i<=l.length/\r=oN p (l.drop i) i)]) (λi=>l.length-i) 0 ⟨rfl,e8⟩ .nil ⟨e9 (⟨k9,h.symm⟩),e8⟩ ?_;rintro i;refine bM d7 λa=>?_;refine g6 ?_;refine fD (λe=>?_) λe=>?_
 .refine g15 ?_;obtain⟨g,b⟩:=gx l i;refine ss (ixs i) ?_;refine ss (kV b 0) ?_;refine lA hcf (hf g) rfl rfl rfl rfl rfl rfl rfl .nil ⟨Has.each d9 (f4 b),bA.drop 3⟩ λ_=>?_;refine g2 ?_;refine uY (λd=>?_) λd=>?_
  .refine g12 ?_;obtain rfl:=(lK a.2 b).1 ‹_›;exact rs1 () trivial
  refine g5 ?_;refine inc (i+1) ?_;refine g3 ?_;exact bk2 (i+1) ⟨e9 (⟨k9,(lK a.2 b).2 ‹_›⟩),e8⟩
 refine g11 ?_;have hr:=zR a.2 k9;subst hr;exact rs1 () trivial
theorem rG(A:Option Addr)(c:Nat)(l:List OpV)(hl:l.length<=140737488355328)(f:FuncId)(cap:List Value)(G:List bE)(p:OpV->Bool)(hcf: ∀(args:Array Value) (w:World),(callFunc f args).run prog w= .ok (.enter f args) w)(hf: ∀o:OpV,bZ prog f (.agg #[j5 o.how,j5 o.k,j5 o.n,j0 o.p,j6 o.fn]::cap) [] (opF o::G) (λ_:Unit=> .bool (p o)) (λ_=>[]) (λ_=>[])):bZ prog 150 [.slice A l.length c,.func (.func f) #[] cap.toArray] [] (opE.sl (.slice A l.length c) l::bE.each l opF::G) (λ(_:Unit)=> .bool (l.any p)) (λ_=>[]) (λ_=>[]):=by
 have hT:=fK;refine i7 func150 ntmps150 ?_;intro β hM;refine g9 ?_;refine f7 func212 (indexFO_spec A c l hl f cap G p hcf hf) .nil bA.self λ_=>?_;refine g5 ?_;exact rs1 () e8 (he:=congrArg V6 (zH p l 0 l5))
theorem step_spec(bs:Nat)(vars loops buf:Int)(MA:Option Addr)(mc:Nat)(made:List Bool)(x:gV):bZ prog 81 [.pointer (some ⟨bs,0,none⟩),.agg #[j5 x.how,j5 x.buf,j0 x.at_,j0 x.loops,j6 x.fn,j0 x.ops]] [.obj bs (.cells [j5 vars,j5 loops,j5 buf,.slice MA made.length mc].toArray 201)] [oL x,lJ.sl (.slice MA made.length mc) made] (λ(_:Int×Int)=> .bool (nB vars made x.c)) (λ(y:Int×Int)=>[.obj bs (.cells [j5 vars,j5 y.1,j5 y.2,.slice MA made.length mc].toArray 201)]) (λ_=>[]):=by
 have hT:=fK;refine i7 func81 ntmps81 ?_;intro β hM;refine g2 ?_;refine i6 λt=>?_;refine i6 λz=>?_;refine g5 ?_;refine bP (fB x.at_) (stepF_a d7)<|bM (gI d7) λu=>bP (tV x.loops) (mV d8)<|bM (opsF_c (qK d9)) λv=>?_;have w:=v.2;refine bP (bE.each x.ops.list opF) (opsF_e (qK d9))<|bP (opE.sl (.slice x.ops.addr x.ops.list.length x.ops.cap) x.ops.list) (opsF_s (qK e6)) ?_;refine dC _ _ [(true,0),(true,1),(true,2),(true,3),(true,4),(true,5),(false,6),(true,7),(true,8),(true,9),(true,10),(false,11),(true,12),(true,13),(true,14),(true,15),(true,16),(true,17),(true,18),(true,19),(true,20),(false,21),(true,22),(true,23),(true,24),(true,25),(true,26),(true,27),(true,28),(true,29),(true,30),(true,31),(true,32),(false,33),(true,34),(true,35)] dJ l8 (.c0 (.c0 (.c0 .nil))) bA.self ?_;refine g7 ?_;refine f7 func148 (of_spec x.at_ vars) .nil ⟨e6,e8⟩ λ_=>?_;refine g3 ?_;refine dB (λm=>?_) (λm=>?_)
 .have m:=bKs m;refine g40 ?_;refine g3 ?_;exact rs1 (_,_) e8 (he:=by rw[<-jR];simp[rK, *])
 have m:=bJh m;refine g3 ?_;refine f7 func149 (bMu x.at_ u) .nil ⟨e6,e8⟩ λ_=>?_;refine g4 ?_;refine dB (λl=>?_) (λl=>?_)
 .have l:=bKs l;refine g35 ?_;exact rs1 (_,_) e8 (he:=by rw[<-jR];simp[rK, *])
 have l:=bJh l;refine g7 ?_;refine f7 func80 (bUs x.loops vars) .nil ⟨d9,e8⟩ λ_=>?_;refine g4 ?_;refine dB (λk=>?_) (λk=>?_)
 .have k:=bKs k;refine g23 ?_;exact rs1 (_,_) e8 (he:=by rw[<-jR];simp[rK, *])
 have k:=bJh k;refine g6 ?_;refine dB (λj=>?_) (λj=>?_)
 .have j:=of_decide_eq_true j;refine g17 ?_;exact rs1 (_,_) e8 (he:=by rw[<-jR];simp[rK, *])
 have j:=V8.1 (of_decide_eq_false j);refine g3 ?_;refine bG func23 (bMt x.ops.addr x.ops.cap x.ops.list k9) rfl rfl .nil ⟨d7,d8,e8⟩ λ_=>?_;refine g5 ?_;refine cR rfl (λh=>?_) (λh=>?_)
 .have s:=h;have h:=of_decide_eq_true h;refine g7 ?_;exact rs1 (_,_) e8 (he:=by rw[<-jR];simp[rK, *])
 have s:=h;have h:=V8.1 (of_decide_eq_false h);refine g16 ?_;refine cR rfl (λg=>?_) (λg=>?_)
 .have r:=g;have g:=eq_of_beq g;refine g7 ?_;refine cR rfl (λf=>?_) (λf=>?_)
  .have q:=f;have f:=bne_iff_ne.1 f;refine g8 ?_;exact rs1 (_,_) e8 (he:=by rw[<-jR];simp[rK, *])
  have q:=f;have f:=bne_eq_false_iff_eq.1 f;refine g4 ?_;refine dC _ _ [(true,0),(true,1),(true,2),(true,3),(true,4),(true,5),(true,6),(true,7),(true,8),(false,9),(true,10),(true,11),(false,12)] dJ l8 (.c0 (.c0 .nil)) bA.self ?_;refine g24 ?_;refine mY (j4 func150) (rG x.ops.addr x.ops.cap x.ops.list k9 151 [.pointer (some ⟨t,0,none⟩)] [bE.cells t 0 [.pointer (some ⟨bs,0,none⟩)],bE.cells bs 0 [.int .i64 vars,.int .i64 x.loops.list.length,.int .i64 x.buf,.slice MA made.length mc],lJ.sl (.slice MA made.length mc) made] (λo=>!opB vars x.loops.list.length x.buf made o.c) (j4 func151) (λo=>bCh t bs vars x.loops.list.length x.buf MA mc made o)) rfl rfl rfl rfl rfl .nil (.c2 (.c0 .nil)) (mU (mU sG)) ⟨d9,e6,d7,d8,Has.of mT7,e8⟩ (λ_=>True) (λ_ _ _ _=>trivial) λ_ _=>?_;refine g5 ?_;exact rs1 (_,_) e8 (he:=by rw[<-jR];simp[rK, *])
 have r:=g;have g:=beq_eq_false_iff_ne.1 g;refine g7 ?_;refine cR rfl (λe=>?_) (λe=>?_)
 .have n:=e;have e:=eq_of_beq e;refine g2 ?_;refine mT rfl n ?_;refine g7 ?_;refine dB (λd=>?_) (λd=>?_)
  .have d:=eq_of_beq d;refine g16 ?_;exact rs1 (_,_) e8 (he:=by rw[<-jR];simp[rK, *])
  have d:=beq_eq_false_iff_ne.1 d;refine g2 ?_;refine f7 func100 (uA _ _) .nil e8 λ_=>?_;refine g4 ?_;refine cR rfl (λa=>?_) (λa=>?_)
  .have i:=a;have a:=bKs a;refine g8 ?_;exact rs1 (_,_) e8 (he:=by rw[<-jR];simp[rK, *])
  have i:=a;have a:=bJh a;refine g4 ?_;refine dC _ _ [(true,0),(true,1),(true,2),(true,3),(true,4),(true,5),(true,6),(true,7),(true,8),(false,9),(true,10),(true,11),(false,12)] dJ l8 (.c0 (.c0 .nil)) bA.self ?_;refine g24 ?_;refine mY (j4 func150) (rG x.ops.addr x.ops.cap x.ops.list k9 151 [.pointer (some ⟨t,0,none⟩)] [bE.cells t 0 [.pointer (some ⟨bs,0,none⟩)],bE.cells bs 0 [.int .i64 vars,.int .i64 x.loops.list.length,.int .i64 x.buf,.slice MA made.length mc],lJ.sl (.slice MA made.length mc) made] (λo=>!opB vars x.loops.list.length x.buf made o.c) (j4 func151) (λo=>bCh t bs vars x.loops.list.length x.buf MA mc made o)) rfl rfl rfl rfl rfl .nil (.c2 (.c0 .nil)) (mU (mU sG)) ⟨d9,e6,d7,d8,Has.of mT7,e8⟩ (λ_=>True) (λ_ _ _ _=>trivial) λ_ _=>?_;refine g5 ?_;exact rs1 (_,_) e8 (he:=by rw[<-jR];simp[rK, *])
 have n:=e;have e:=beq_eq_false_iff_ne.1 e;refine g5 ?_;refine cR rfl (λb=>?_) (λb=>?_)
 .have p:=b;have b:=eq_of_beq b;refine g7 ?_;refine dB (λd=>?_) (λd=>?_)
  .have d:=eq_of_beq d;refine g16 ?_;exact rs1 (_,_) e8 (he:=by rw[<-jR];simp[rK, *])
  have d:=beq_eq_false_iff_ne.1 d;refine g2 ?_;refine f7 func100 (uA _ _) .nil e8 λ_=>?_;refine g4 ?_;refine cR rfl (λa=>?_) (λa=>?_)
  .have i:=a;have a:=bKs a;refine g8 ?_;exact rs1 (_,_) e8 (he:=by rw[<-jR];simp[rK, *])
  have i:=a;have a:=bJh a;refine g4 ?_;refine dC _ _ [(true,0),(true,1),(true,2),(true,3),(true,4),(true,5),(true,6),(true,7),(true,8),(false,9),(true,10),(true,11),(false,12)] dJ l8 (.c0 (.c0 .nil)) bA.self ?_;refine g24 ?_;refine mY (j4 func150) (rG x.ops.addr x.ops.cap x.ops.list k9 151 [.pointer (some ⟨t,0,none⟩)] [bE.cells t 0 [.pointer (some ⟨bs,0,none⟩)],bE.cells bs 0 [.int .i64 vars,.int .i64 x.loops.list.length,.int .i64 x.buf,.slice MA made.length mc],lJ.sl (.slice MA made.length mc) made] (λo=>!opB vars x.loops.list.length x.buf made o.c) (j4 func151) (λo=>bCh t bs vars x.loops.list.length x.buf MA mc made o)) rfl rfl rfl rfl rfl .nil (.c2 (.c0 .nil)) (mU (mU sG)) ⟨d9,e6,d7,d8,Has.of mT7,e8⟩ (λ_=>True) (λ_ _ _ _=>trivial) λ_ _=>?_;refine g5 ?_;exact rs1 (_,_) e8 (he:=by rw[<-jR];simp[rK, *])
 have p:=b;have b:=beq_eq_false_iff_ne.1 b;refine g8 ?_;exact rs1 (_,_) e8 (he:=by rw[<-jR];simp[rK, *])
theorem bMm: ∃i:TypeInfo,prog.info? 4=some i/\i.zero=some (.bool false)/\i.size=1/\i.bytes=1:=by
 have h:(prog.info? 4).map (λi=>(i.zero,i.size,i.bytes))=some (some (.bool false),1,1):=l4
 cases a:prog.info? 4 with
 |none=>simp[a]at h
 |some i=>simp[a]at h;exact⟨i,rfl,h.1,h.2.1,h.2.2⟩
theorem uD{β:dE}{n:Nat}{Γ:Env}{H:List bC}{F:List bE}{Q:Exit->Act->World->Prop}{ops:Array Oper}{rest:List Oper}{o:Oper}{d:Nat}{x:Operand}{m:Bool}(hw:want ops Γ o=some true)(ho:o.op= .buildSlice 99 1 #[(0,x)])(hd:o.dst=some d)(hn:C0 d n=true)
  (hx:Γ.ev x=some (.bool m)) (k: ∀b,At β n ((d,.slice (some ⟨b,0,none⟩) 1 1)::Γ) (.obj b (.cells (lJ.all [m]).toArray 4)::H) F (wpList prog ops Q rest)):At β n Γ H F (wpList prog ops Q (o::rest)):=by
 obtain⟨i,c,hz,a,_⟩:=bMm;refine pR hw ho hd hn hx underlying99 c hz k9 k9 ?_ k;rw[a]
 kernel_rfl
theorem tW{β:dE}{n:Nat}{Γ:Env}{H:List bC}{F:List bE}{Q:Exit->Act->World->Prop}{ops:Array Oper}{rest:List Oper}{o:Oper}{d:Nat}{x y:Operand}{c q:Nat}{v:Value}{A:Option Addr}{xs ys:List Bool}{H':List bC}(hH:bU H (lJ.row v 4 xs) H')(hr:dO β H F lJ A ys)(hg:o.guard=none)
  (ho:o.op= .call {callee:= .builtin .append,args:= #[x,y],argTypes:= #[99,99]}) (hd:o.dst=some d) (hn:C0 d n=true)
  (hx:Γ.ev x=some v) (hy:Γ.ev y=some (.slice A q c)) (hq:q=ys.length) (hl:xs.length+ys.length<=140737488355328)
  (k: ∀A' cap',At β n ((d,.slice A' (xs++ys).length cap')::Γ) (lJ.row (.slice A' (xs++ys).length cap') 4 (xs++ys)::H') F (wpList prog ops Q rest)):At β n Γ H F (wpList prog ops Q (o::rest)):=by
 obtain⟨i,b,hz,a,hb⟩:=bMm;exact jW hH hr hg ho hd hn underlying99 b hz a hb rfl hx hy hq k9 l5 k
theorem intInfo: ∃i:TypeInfo,prog.info? 3=some i/\i.zero=some (j5 0)/\i.size=1/\i.bytes=8:=by
 have h:(prog.info? 3).map (λi=>(i.zero,i.size,i.bytes))=some (some (.int .i64 0),1,8):=l4
 cases a:prog.info? 3 with
 |none=>simp[a]at h
 |some i=>simp[a]at h;exact⟨i,rfl,h.1,h.2.1,h.2.2⟩
theorem at_one_int{β:dE}{n:Nat}{Γ:Env}{H:List bC}{F:List bE}{Q:Exit->Act->World->Prop}{ops:Array Oper}{rest:List Oper}{o:Oper}{d:Nat}{x:Operand}{m:Int}(hw:want ops Γ o=some true)(ho:o.op= .buildSlice 24 1 #[(0,x)])(hd:o.dst=some d)(hn:C0 d n=true)
  (hx:Γ.ev x=some (j5 m)) (k: ∀b,At β n ((d,.slice (some ⟨b,0,none⟩) 1 1)::Γ) (.obj b (.cells (cK.all [m]).toArray 3)::H) F (wpList prog ops Q rest)):At β n Γ H F (wpList prog ops Q (o::rest)):=by
 obtain⟨i,c,hz,a,_⟩:=intInfo;refine pR hw ho hd hn hx underlying24 c hz k9 k9 ?_ k;rw[a]
 kernel_rfl
theorem at_app_int{β:dE}{n:Nat}{Γ:Env}{H:List bC}{F:List bE}{Q:Exit->Act->World->Prop}{ops:Array Oper}{rest:List Oper}{o:Oper}{d:Nat}{x y:Operand}{c q:Nat}{v:Value}{A:Option Addr}{xs ys:List Int}{H':List bC}(hH:bU H (cK.row v 3 xs) H')(hr:dO β H F cK A ys)(hg:o.guard=none)
  (ho:o.op= .call {callee:= .builtin .append,args:= #[x,y],argTypes:= #[24,24]}) (hd:o.dst=some d) (hn:C0 d n=true)
  (hx:Γ.ev x=some v) (hy:Γ.ev y=some (.slice A q c)) (hq:q=ys.length) (hl:xs.length+ys.length<=17592186044416)
  (k: ∀A' cap',At β n ((d,.slice A' (xs++ys).length cap')::Γ) (cK.row (.slice A' (xs++ys).length cap') 3 (xs++ys)::H') F (wpList prog ops Q rest)):At β n Γ H F (wpList prog ops Q (o::rest)):=by
 obtain⟨i,b,hz,a,hb⟩:=intInfo;exact jW hH hr hg ho hd hn underlying24 b hz a hb rfl hx hy hq k9 l5 k
theorem arr64_zero:(prog.info? 198).bind (·.zero)=some (.agg (lJ.all (T9 64 false)).toArray):=l4
theorem step_specM{m:Nat}{made:List Bool}(hm:made.length=m)(bs:Nat)(vars loops buf:Int)(MA:Option Addr)(mc:Nat)(x:gV):bZ prog 81 [.pointer (some ⟨bs,0,none⟩),.agg #[j5 x.how,j5 x.buf,j0 x.at_,j0 x.loops,j6 x.fn,j0 x.ops]]
  [.obj bs (.cells [j5 vars,j5 loops,j5 buf,.slice MA m mc].toArray 201)] [oL x,lJ.sl (.slice MA m mc) made] (λ_:Int×Int=> .bool (nB vars made x.c)) (λy=>[.obj bs (.cells [j5 vars,j5 y.1,j5 y.2,.slice MA m mc].toArray 201)]) (λ_=>[]):=by
 subst hm;exact step_spec bs vars loops buf MA mc made x
def outB (n:Nat)(k:Int):Bool:=decide (k<0) || decide ((n:Int)<=k)
def restB (c:dA):Bool:=mF c.vars c.bufs c.steps (xM c.bufs)&&c.outs.all λk=>decide (0<=k/\k<c.bufs.length)
theorem pX(l:List gP):(xM l).length=l.length:=List.length_map _
def wO (c:dA)(i:Nat)(inp made:List Bool)(r:Bool):Prop:=inp.length=64/\made=(xM c.bufs).take i/\ ∃seen:List Int,(∀z∈seen,0<=z)/\(∀k:Nat,k<64->inp[k]?=some (seen.contains (k:Int)))/\r=(sW c.vars (c.bufs.drop i) seen&&restB c)
def zZ (c:dA)(i:Nat)(made:List Bool)(r:Bool):Prop:=made.length=c.bufs.length/\r=(mF c.vars c.bufs (c.steps.drop i) made&&c.outs.all λk=>decide (0<=k/\k<c.bufs.length))
section
variable {c : gD} {r : Bool}
theorem right_sizes(h:cY c.c=r)(h1:0<=c.vars)(h2:c.vars<=6)(h3:(c.bufs.list.length:Int)<=1024)(h4:(c.steps.list.length:Int)<=1024)(h5:(c.outs.list.length:Int)<=64):r=(sW c.c.vars c.c.bufs []&&restB c.c):=by
 rw[<-h];unfold cY;rw[decide_eq_true (show 0<=c.c.vars/\c.c.vars<=6/\c.c.bufs.length<=1024/\c.c.steps.length<=1024/\c.c.outs.length<=64 from ⟨h1,h2,by show(bufsL c.bufs.list).length<=1024;rw[cD];omega,by show(bCg c.steps.list).length<=1024;rw[fC];omega,by show c.outs.list.length<=64;omega⟩),Bool.true_and];rfl
theorem sV(h:cY c.c=r)(h1: ¬(0<=c.vars/\c.vars<=6/\(c.bufs.list.length:Int)<=1024/\(c.steps.list.length:Int)<=1024/\(c.outs.list.length:Int)<=64)):r=false:=by
 rw[<-h];unfold cY;rw[decide_eq_false (show ¬(0<=c.c.vars/\c.c.vars<=6/\c.c.bufs.length<=1024/\c.c.steps.length<=1024/\c.c.outs.length<=64)from λ⟨a,b,d,e,f⟩=>h1 ⟨a,b,by have d:(bufsL c.bufs.list).length<=1024:=d;rw[cD]at d;omega,by have e:(bCg c.steps.list).length<=1024:=e;rw[fC]at e;omega,by have f:c.outs.list.length<=64:=f;omega⟩),Bool.false_and]
end
section
variable {c : dA} {i : Nat} {inp made : List Bool} {r : Bool} {u : gP}
theorem bufs_start(h:r=(sW c.vars c.bufs []&&restB c)):wO c 0 (T9 64 false) [] r:=by
 refine⟨rfl,rfl,[],?_,?_,h⟩
 .intro z hz;cases hz
 .intro k a;rw[List.getElem?_replicate,if_pos a];rfl
theorem bufs_len(h:wO c i inp made r)(hi:i<=c.bufs.length):made.length=i:=by
 rw[h.2.1,List.length_take,pX];omega
theorem bEm(h:wO c i inp made r)(hu:c.bufs[i]?=some u)(k:mN u.sides c.vars=false\/u.input< -1\/64<=u.input\/0<=u.input/\inp[u.input.toNat]?=some true):r=false:=by
 obtain⟨h1,_,a,f,b,h4⟩:=h;rw[qH hu,sW]at h4;rw[h4]
 rcases k with k|k|k|⟨k,e⟩
 .rw[k];rfl
 .rw[decide_eq_false (show ¬(-1<=u.input/\u.input<64)from λh=>by omega)];simp
 .rw[decide_eq_false (show ¬(-1<=u.input/\u.input<64)from λh=>by omega)];simp
 .have hlt:=(D9.1 e).1;rw[b _ k9]at e
  have d:a.contains u.input=true:=by
   have:((u.input.toNat:Nat):Int)=u.input:=k9
   rw[<-this];exact Option.some.inj e
  rw[d];simp
theorem bVn(h:made=(xM c.bufs).take i)(hu:c.bufs[i]?=some u):made++[decide (0<=u.input)]=(xM c.bufs).take (i+1):=by
 have a:(xM c.bufs)[i]?=some (decide (0<=u.input)):=by
  unfold xM;rw[I7,hu];rfl
 obtain⟨b,e⟩:=D9.1 a;rw[V1 b,e,h]
theorem bufs_in(h:wO c i inp made r)(hu:c.bufs[i]?=some u)(hg:mN u.sides c.vars=true)(h1: -1<=u.input)(h2:u.input<64)(h3:0<=u.input)(he:inp[u.input.toNat]?=some false):wO c (i+1) (inp.set u.input.toNat true) (made++[decide (0<=u.input)]) r:=by
 obtain⟨j,g,a,f,d,b⟩:=h;refine⟨by simpa using j,bVn g hu,u.input::a,λz hz=>?_,λk l=>?_,?_⟩
 .rcases C9.1 hz with rfl|hz
  .exact h3
  .exact f z hz
 .rw[List.getElem?_set,List.contains_cons]
  by_cases e:u.input.toNat=k
  .rw[if_pos e,if_pos k9];have:((k:Nat):Int)=u.input:=k9
   rw[this];simp
  .rw[if_neg e,d k l];have:((k:Int)==u.input)=false:=beq_eq_false_iff_ne.2 k9;rw[this];rfl
 .rw[qH hu,sW,hg,decide_eq_true ⟨h1,h2⟩,if_pos h3]at b
  have m:a.contains u.input=false:=by
   rw[d _ k9]at he;have:((u.input.toNat:Nat):Int)=u.input:=k9
   rw[<-this];exact Option.some.inj he
  rw[m]at b
  simpa using b
theorem bufs_no(h:wO c i inp made r)(hu:c.bufs[i]?=some u)(hg:mN u.sides c.vars=true)(h1: -1<=u.input)(h3:u.input<0):wO c (i+1) inp (made++[decide (0<=u.input)]) r:=by
 obtain⟨g,f,a,d,e,b⟩:=h;refine⟨g,bVn f hu,a,d,e,?_⟩;rw[qH hu,sW,hg,decide_eq_true (show-1<=u.input/\u.input<64 from ⟨h1,k9⟩),if_neg k9]at b
 have j:a.contains u.input=false:=by
  rw[List.contains_eq_mem];exact decide_eq_false λh=>by have:=d _ h;omega
 rw[j]at b
 simpa using b
theorem bufs_end(h:wO c i inp made r)(hi:c.bufs.length<=i):made=xM c.bufs/\r=restB c:=by
 obtain⟨_,d,a,_,_,b⟩:=h;rw[R5 hi]at b;refine⟨by rw[d,V2 (by rw[pX];exact hi)],by rw[b];rfl⟩
theorem steps_start(hm:made=xM c.bufs)(h:r=restB c):zZ c 0 made r:=⟨by rw[hm,pX],by rw[h,hm];rfl⟩
theorem bAq{x:bX}(h:zZ c i made r)(hx:c.steps[i]?=some x)(k:x.buf<0\/(c.bufs.length:Int)<=x.buf\/(∃u,c.bufs[x.buf.toNat]?=some u/\0<=u.input)\/nB c.vars made x=false):r=false:=by
 obtain⟨_,a⟩:=h;rw[qH hx,mF]at a;rw[a]
 rcases k with k|k|⟨u,e,k⟩|k
 .rw[decide_eq_false (show ¬0<=x.buf by omega)];rfl
 .rw[V5 (show c.bufs.length<=x.buf.toNat by omega)];simp
 .rw[e];simp only;rw[decide_eq_false (show ¬u.input<0 by omega)];simp
 .rw[k];simp
theorem steps_ok{x:bX}{u:gP}(h:zZ c i made r)(hx:c.steps[i]?=some x)(h0:0<=x.buf)(hu:c.bufs[x.buf.toNat]?=some u)(h1:u.input<0)(k:nB c.vars made x=true):zZ c (i+1) (made.set x.buf.toNat true) r:=by
 obtain⟨b,a⟩:=h;refine⟨by simpa using b,?_⟩;rw[qH hx,mF,hu,decide_eq_true h0]at a;simp only at a;rw[decide_eq_true h1,k]at a
 simpa using a
theorem steps_end(h:zZ c i made r)(hi:c.steps.length<=i):r=c.outs.all λk=>decide (0<=k/\k<c.bufs.length):=by
 obtain⟨_,a⟩:=h;rw[R5 hi]at a;rw[a];rfl
end
theorem outs_all{n m:Nat}{l:List Int}(h:n=m):(!l.any (outB m))=l.all λk=>decide (0<=k/\k<(n:Int)):=by
 subst h
 have e:outB n=λk=>!decide (0<=k/\k<(n:Int)):=by
  funext k
  unfold outB;rw[G8];simp
 rw[e,any_not]
theorem rY(z0:Int):prog.built 201 [(0,j5 z0)]=some #[j5 z0,j5 0,j5 0,.slice none 0 0]:=l4
theorem xV:(prog.info? 95).bind (·.zero)=some (.agg #[.slice none 0 0,j5 0]):=l4
theorem wT:(prog.info? 80).bind (·.zero)=some (.agg #[j5 0,j5 0,.slice none 0 0,.slice none 0 0,j6 0,.slice none 0 0]):=l4
theorem indexFI_spec(A:Option Addr)(c:Nat)(l:List Int)(hl:l.length<=140737488355328)(f:FuncId)(cap:List Value)(G:List bE)(p:Int->Bool)(hcf: ∀(args:Array Value) (w:World),(callFunc f args).run prog w= .ok (.enter f args) w)(hf: ∀k:Int,bZ prog f (j5 k::cap) [] G (λ_:Unit=> .bool (p k)) (λ_=>[]) (λ_=>[])):bZ prog 153 [.slice A l.length c,.func (.func f) #[] cap.toArray] [] (cK.sl (.slice A l.length c) l::G) (λ(_:Unit)=> j5 (oN p l 0)) (λ_=>[]) (λ_=>[]):=by
 have hT:=fK;generalize h:oN p l 0=r;refine i7 func153 ntmps153 ?_;intro β hM;refine g14 ?_;refine bY (ι:=Nat) [(0,_),(1,_),(7,_)] ⟨rfl,rfl,rfl,e8⟩ (λi=>[(8,.int .i64 (i:Nat))]) (λ_=>[]) (λi=>[bE.pure (i<=l.length/\r=oN p (l.drop i) i)]) (λi=>l.length-i) 0 ⟨rfl,e8⟩ .nil ⟨e9 (⟨k9,h.symm⟩),e8⟩ ?_;rintro i;refine bM d7 λa=>?_;refine g6 ?_;refine fD (λe=>?_) λe=>?_
 .refine g15 ?_;obtain⟨g,b⟩:=gx l i;refine ss (ixs i) ?_;refine ss (jB b 0) ?_;refine lA hcf (hf g) rfl rfl rfl rfl rfl rfl rfl .nil (bA.drop 2) λ_=>?_;refine g2 ?_;refine uY (λd=>?_) λd=>?_
  .refine g12 ?_;obtain rfl:=(lK a.2 b).1 ‹_›;exact rs1 () trivial
  refine g5 ?_;refine inc (i+1) ?_;refine g3 ?_;exact bk2 (i+1) ⟨e9 (⟨k9,(lK a.2 b).2 ‹_›⟩),e8⟩
 refine g11 ?_;have hr:=zR a.2 k9;subst hr;exact rs1 () trivial
theorem bKv(A:Option Addr)(c:Nat)(l:List Int)(hl:l.length<=140737488355328)(f:FuncId)(cap:List Value)(G:List bE)(p:Int->Bool)(hcf: ∀(args:Array Value) (w:World),(callFunc f args).run prog w= .ok (.enter f args) w)(hf: ∀k:Int,bZ prog f (j5 k::cap) [] G (λ_:Unit=> .bool (p k)) (λ_=>[]) (λ_=>[])):bZ prog 82 [.slice A l.length c,.func (.func f) #[] cap.toArray] [] (cK.sl (.slice A l.length c) l::G) (λ(_:Unit)=> .bool (l.any p)) (λ_=>[]) (λ_=>[]):=by
 have hT:=fK;refine i7 func82 ntmps82 ?_;intro β hM;refine g9 ?_;refine f7 func153 (indexFI_spec A c l hl f cap G p hcf hf) .nil bA.self λ_=>?_;refine g5 ?_;exact rs1 () e8 (he:=congrArg V6 (zH p l 0 l5))
theorem right1_spec(b:Nat)(c:gD)(k:Int):bZ prog 83 [j5 k,.pointer (some ⟨b,0,none⟩)] [] [bE.cells b 0 [j5 c.vars,j0 c.bufs,j0 c.steps,j0 c.outs]] (λ(_:Unit)=> .bool (outB c.bufs.list.length k)) (λ_=>[]) (λ_=>[]):=by
 have hT:=fK;refine i7 func83 ntmps83 ?_;intro β hM;refine g10 ?_;refine vP (λa=>?_) λa=>?_
 .refine g10 ?_;exact rs1 () e8 (he:=by first|(unfold outB;simp[*];done)|(unfold outB;simp[*];omega))
 refine g2 ?_;refine ss (f8 hT (bI (off:=1) d7)) ?_;refine g7 ?_;exact rs1 () e8 (he:=by first|(unfold outB;simp[*];done)|(unfold outB;simp[*];omega))
theorem bCm(c:gD):bZ prog 33 [.agg #[j5 c.vars,j0 c.bufs,j0 c.steps,j0 c.outs]] [] [oJ c] (λ(_:Unit)=> .bool (cY c.c)) (λ_=>[]) (λ_=>[]):=by
 have hT:=fK;generalize p:cY c.c=r;refine i7 func33 ntmps33 ?_;intro β hM;refine g2 ?_;refine i6 λW=>?_;refine g10 ?_;refine vP (λI=>?_) λI=>?_
 .refine g32 ?_;have hr:=sV p k9;subst hr;exact rs1 () trivial
 refine g5 ?_;refine vP (λG=>?_) λG=>?_
 .refine g27 ?_;have hr:=sV p k9;subst hr;exact rs1 () trivial
 refine g6 ?_;refine vP (λD=>?_) λD=>?_
 .refine g21 ?_;have hr:=sV p k9;subst hr;exact rs1 () trivial
 refine g6 ?_;refine vP (λC=>?_) λC=>?_
 .refine g15 ?_;have hr:=sV p k9;subst hr;exact rs1 () trivial
 refine g7 ?_;refine fD (λM=>?_) λM=>?_
 .refine g7 ?_;have hr:=sV p k9;subst hr;exact rs1 () trivial
 refine g3 ?_;have O:=right_sizes p k9 k9 k9 k9 k9;refine one ?_;refine f9 arr64_zero λb2=>?_;refine bKl (E:=lJ) (xs:=T9 64 false) .head ?_;refine g6 ?_;refine ss (cC rfl rfl (rY _)) ?_;refine i6 λV=>?_;refine g13 ?_;refine cG (t:=4) lJ ?_;refine bY (ι:=Nat×List Bool×List Bool×Option Addr×Nat) [(1,_),(3,_),(4,_),(40,_),(41,_)] ⟨rfl,rfl,rfl,rfl,rfl,e8⟩ (λ⟨i,inp,made,MA,mc⟩=>[(42,.int .i64 (i:Nat))]) (λ⟨i,inp,made,MA,mc⟩=>[lJ.held (.slice (some ⟨b2,0,none⟩) 64 64) inp,.obj V (.cells [.int .i64 c.vars,.int .i64 0,.int .i64 0,.slice MA made.length mc].toArray 201),lJ.row (.slice MA made.length mc) 4 made]) (λ⟨i,inp,made,MA,mc⟩=>[bE.pure (i<=c.bufs.list.length/\wO c.c i inp made r)]) (λ⟨i,inp,made,MA,mc⟩=>c.bufs.list.length-i) (0,T9 64 false,[],none,0) ⟨rfl,e8⟩ (.c2 (.c1 (.c0 .nil))) ⟨e9 (⟨k9,bufs_start O⟩),e8⟩ ?_;rintro⟨i,inp,made,MA,mc⟩;dsimp only;refine bM d7 λa=>?_;have hil:inp.length=64:=a.2.1;have hml:=bufs_len a.2 (by show i<=(bufsL c.bufs.list).length;rw[cD];omega);refine g6 ?_;refine fD (λL=>?_) λL=>?_
 .refine g6 ?_;refine bP (bBb.sl (.slice c.bufs.addr c.bufs.list.length c.bufs.cap) c.bufs.list) (rR (lQ d8)) ?_;obtain⟨x4,e⟩:=gx c.bufs.list i;refine ss (ixs i) ?_;refine ss (kV e 0) ?_;refine f9 xV λb6=>?_;refine g5 ?_;refine bP (bufF x4) (Has.each (bEg (lQ d9)) (f4 e)) ?_;refine g5 ?_;refine f7 func80 (bUs x4.sides c.vars) .nil ⟨d7,e8⟩ λ_=>?_;refine g2 ?_;refine k_nt (λB=>?_) λB=>?_
  .refine g35 ?_;have hr:=bEm a.2 (cN e) m7;subst hr;exact rs1 () trivial
  refine g5 ?_;refine vP (λA=>?_) λA=>?_
  .refine g30 ?_;have hr:=bEm a.2 (cN e) m7;subst hr;exact rs1 () trivial
  refine g5 ?_;refine k_le (λz=>?_) λz=>?_
  .refine g25 ?_;have hr:=bEm a.2 (cN e) m7;subst hr;exact rs1 () trivial
  refine g4 ?_;refine k_le (λy=>?_) λy=>?_
  .refine g2 ?_;obtain⟨x7,s⟩:=gx inp x4.input.toNat;refine ss (dZ hT (k:=x4.input.toNat) rfl rfl rfl rfl rfl k9 k9) ?_;refine ss (jB s 0) ?_;refine g4 ?_;refine uY (λK=>?_) λK=>?_
   .refine g12 ?_;have hr:=bEm a.2 (cN e) m7;subst hr;exact rs1 () trivial
   refine g10 ?_;refine bRd (λf=>?_) λf=>?_
   .refine g3 ?_;refine ss (dZ hT (k:=x4.input.toNat) rfl rfl rfl rfl rfl k9 k9) ?_;refine dV hT (k:=x4.input.toNat) (fo:=0) (y':=true) kT1 rfl rfl rfl rfl rfl rfl rfl rfl rfl s rfl ?_;refine g2 ?_;refine qN 12 _ _ [(true,0),(true,1),(true,2),(true,3),(true,4),(true,5),(true,6),(true,7),(false,8),(false,9),(true,10),(true,11)] dJ l8 (.c0 (.c0 (.c0 (.c1 .nil)))) bA.self ?_;refine g9 ?_;refine uD (m:=decide (0<=x4.input)) rfl rfl rfl rfl rfl λb9=>?_;refine g2 ?_;refine tW kT4 (fZ .head rfl) rfl rfl rfl rfl rfl rfl rfl n9 λA10 U=>?_;refine g10 ?_;refine inc (i+1) ?_;refine g3 ?_;exact bk2 (i+1,inp.set x4.input.toNat true,made++[decide (0<=x4.input)],A10,U) ⟨e9 (⟨by dsimp only;omega,bufs_in a.2 (cN e) (show mN (polsL x4.sides.list) c.vars=true by assumption) (show-1<=x4.input by omega) (show x4.input<64 by omega) (show 0<=x4.input by omega) aa1⟩),e8⟩
   refine g2 ?_;refine qN 12 _ _ [(true,0),(true,1),(true,2),(true,3),(true,4),(true,5),(true,6),(true,7),(false,8),(false,9),(true,10),(true,11)] dJ l8 (.c0 (.c0 (.c0 (.c1 .nil)))) bA.self ?_;refine g9 ?_;refine uD (m:=decide (0<=x4.input)) rfl rfl rfl rfl rfl λb12=>?_;refine g2 ?_;refine tW kT4 (fZ .head rfl) rfl rfl rfl rfl rfl rfl rfl n9 λZ R=>?_;refine g10 ?_;refine inc (i+1) ?_;refine g3 ?_;exact bk2 (i+1,inp,made++[decide (0<=x4.input)],Z,R) ⟨e9 (⟨by dsimp only;omega,bufs_no a.2 (cN e) (show mN (polsL x4.sides.list) c.vars=true by assumption) (show-1<=x4.input by omega) (show x4.input<0 by omega)⟩),e8⟩
  refine g19 ?_;refine bRd (λf=>?_) λf=>?_
  .refine g3 ?_;obtain⟨x15,v⟩:=gx inp x4.input.toNat;refine ss (dZ hT (k:=x4.input.toNat) rfl rfl rfl rfl rfl k9 k9) ?_;refine dV hT (k:=x4.input.toNat) (fo:=0) (y':=true) kT1 rfl rfl rfl rfl rfl rfl rfl rfl rfl v rfl ?_;refine g2 ?_;refine qN 12 _ _ [(true,0),(true,1),(true,2),(true,3),(true,4),(true,5),(true,6),(true,7),(false,8),(false,9),(true,10),(true,11)] dJ l8 (.c0 (.c0 (.c0 (.c1 .nil)))) bA.self ?_;refine g9 ?_;refine uD (m:=decide (0<=x4.input)) rfl rfl rfl rfl rfl λb17=>?_;refine g2 ?_;refine tW kT4 (fZ .head rfl) rfl rfl rfl rfl rfl rfl rfl n9 λY Q=>?_;refine g10 ?_;refine inc (i+1) ?_;refine g3 ?_;exact bk2 (i+1,inp.set x4.input.toNat true,made++[decide (0<=x4.input)],Y,Q) ⟨e9 (⟨by dsimp only;omega,bufs_in a.2 (cN e) (show mN (polsL x4.sides.list) c.vars=true by assumption) (show-1<=x4.input by omega) (show x4.input<64 by omega) (show 0<=x4.input by omega) aa1⟩),e8⟩
  refine g2 ?_;refine qN 12 _ _ [(true,0),(true,1),(true,2),(true,3),(true,4),(true,5),(true,6),(true,7),(false,8),(false,9),(true,10),(true,11)] dJ l8 (.c0 (.c0 (.c0 (.c1 .nil)))) bA.self ?_;refine g9 ?_;refine uD (m:=decide (0<=x4.input)) rfl rfl rfl rfl rfl λb20=>?_;refine g2 ?_;refine tW kT4 (fZ .head rfl) rfl rfl rfl rfl rfl rfl rfl n9 λX P=>?_;refine g10 ?_;refine inc (i+1) ?_;refine g3 ?_;exact bk2 (i+1,inp,made++[decide (0<=x4.input)],X,P) ⟨e9 (⟨by dsimp only;omega,bufs_no a.2 (cN e) (show mN (polsL x4.sides.list) c.vars=true by assumption) (show-1<=x4.input by omega) (show x4.input<0 by omega)⟩),e8⟩
 refine g15 ?_;obtain⟨x,N⟩:=bufs_end a.2 (by show(bufsL c.bufs.list).length<=i;rw[cD];omega);have w:made.length=c.bufs.list.length:=by rw[x,pX];exact cD _
 rw[w];refine bY (ι:=Nat×List Bool×Int×Int) [(1,_),(4,_),(93,_),(94,_)] ⟨rfl,rfl,rfl,rfl,e8⟩ (λ⟨k,made,lo,bu⟩=>[(95,.int .i64 (k:Nat))]) (λ⟨k,made,lo,bu⟩=>[.obj V (.cells [.int .i64 c.vars,.int .i64 lo,.int .i64 bu,.slice MA c.bufs.list.length mc].toArray 201),lJ.row (.slice MA c.bufs.list.length mc) 4 made]) (λ⟨k,made,lo,bu⟩=>[bE.pure (k<=c.steps.list.length/\zZ c.c k made r)]) (λ⟨k,made,lo,bu⟩=>c.steps.list.length-k) (0,made,0,0) ⟨rfl,e8⟩ (.c1 (.c1 .nil)) ⟨e9 (⟨k9,steps_start x N⟩),e8⟩ ?_;rintro⟨k,made,lo,bu⟩;dsimp only;refine bM d7 λb=>?_;have h:made.length=c.bufs.list.length:=by rw[b.2.1];exact cD _
 refine g6 ?_;refine fD (λJ=>?_) λJ=>?_
 .refine g6 ?_;refine bP (sO.sl (.slice c.steps.addr c.steps.list.length c.steps.cap) c.steps.list) (qS (iG d9)) ?_;obtain⟨x23,d⟩:=gx c.steps.list k;refine ss (ixs k) ?_;refine ss (kV d 0) ?_;refine f9 wT λb25=>?_;refine g5 ?_;refine bP (oL x23) (Has.each (qU (iG e6)) (f4 d)) ?_;refine g5 ?_;refine vP (λn=>?_) λn=>?_
  .refine g38 ?_;have hr:=bAq b.2 (dI d) l9;subst hr;exact rs1 () trivial
  refine g8 ?_;refine k_le (λl=>?_) λl=>?_
  .refine g30 ?_;have hr:=bAq b.2 (dI d) l9;subst hr;exact rs1 () trivial
  refine g4 ?_;refine bP (bBb.sl (.slice c.bufs.addr c.bufs.list.length c.bufs.cap) c.bufs.list) (rR (lQ e7)) ?_;obtain⟨x26,g⟩:=gx c.bufs.list x23.buf.toNat;refine ss (bJ hT (k:=x23.buf.toNat) (bV d7) rfl rfl rfl rfl rfl rfl k9 k9) ?_;refine one ?_;refine ss (jB g 1) ?_;refine g3 ?_;refine k_le (λj=>?_) λj=>?_
  .refine g20 ?_;have hr:=bAq b.2 (dI d) l9;subst hr;exact rs1 () trivial
  refine g2 ?_;refine mY (j4 func81) (step_specM h V c.vars lo bu MA mc x23) rfl rfl rfl rfl rfl (.c1 .nil) (.c1 .nil) (uU sG) ⟨d9,d7,e8⟩ (λ_=>True) (λ_ _ _ _=>trivial) λq _=>?_;refine g4 ?_;refine bBd (λo=>?_) λo=>?_
  .refine g12 ?_;have hr:=bAq b.2 (dI d) l9;subst hr;exact rs1 () trivial
  refine g2 ?_;refine qN 7 _ _ [(true,0),(true,1),(true,2),(true,3),(true,4),(true,5),(true,6)] dJ l8 (.c0 (.c0 (.c0 (.c0 (.c0 .nil))))) bA.self ?_;refine g6 ?_;obtain⟨x29,u⟩:=gx made x23.buf.toNat;refine stL rfl (bJ hT (k:=x23.buf.toNat) (cH kT2) rfl rfl rfl rfl rfl h.symm k9 k9) ?_;refine one ?_;refine cQ hT (k:=x23.buf.toNat) (fo:=0) (y':=true) kT2 rfl rfl rfl rfl rfl rfl rfl rfl rfl u rfl ?_;refine g5 ?_;refine inc (k+1) ?_;refine g3 ?_;exact bk2 (k+1,made.set x23.buf.toNat true,q.1,q.2) ⟨e9 (⟨by dsimp only;omega,steps_ok b.2 (dI d) (show 0<=x23.buf by omega) (cN g) (show lW.input _<0 by omega) (show nB c.vars made x23.c=true by assumption)⟩),e8⟩
 refine g10 ?_;refine bP (cK.sl (.slice c.outs.addr c.outs.list.length c.outs.cap) c.outs.list) (bFx (coreF_o d9)) ?_;refine mY (j4 func82) (bKv c.outs.addr c.outs.cap c.outs.list k9 83 [.pointer (some ⟨W,0,none⟩)] [bE.cells W 0 [.int .i64 c.vars,.slice c.bufs.addr c.bufs.list.length c.bufs.cap,.slice c.steps.addr c.steps.list.length c.steps.cap,.slice c.outs.addr c.outs.list.length c.outs.cap]] (outB c.bufs.list.length) (j4 func83) (λk=>right1_spec W c k)) rfl rfl rfl rfl rfl .nil (.c3 .nil) (mU sG) ⟨d8,d7,e8⟩ (λ_=>True) (λ_ _ _ _=>trivial) λ_ _=>?_;refine g5 ?_;have hr:=steps_end b.2 (by show(bCg c.steps.list).length<=k;rw[fC];omega);subst hr;exact rs1 () e8 (he:=congrArg V6 (outs_all (cD _)))
end Go.Proofs.YtnfiadlonjediaaGreatDoor
