/- A part of one proof. -/
import Derived.Test.YtnfiadlonjediaaGreatDoorM4
set_option maxRecDepth 100000
namespace Go.Proofs.YtnfiadlonjediaaGreatDoor
open Go.RowKit Go.Proofs.Tryz
open _root_.List renaming getElem?_eq_some_iff->G3,drop_of_length_le->U8,pairwise_cons->F4,mem_cons->F1,mem_cons_of_mem->F3,mem_cons_self->F9,length_drop->Y0,getElem?_drop->I1,getElem?_map->F7,take_succ_eq_append_getElem->Y1,take_of_length_le->Y2,isEmpty_iff->Y3,length_eq_zero_iff->Y4,getElem?_eq_none->Y5,replicate->V4
open Value renaming bool->Y6
open _root_.Nat renaming zero_add->D1,blt->C2
open _root_.Bool renaming eq_iff_iff->M2,and_eq_true->L9
open _root_.Int renaming natCast_eq_zero->Y7,not_lt->Y8
theorem takes_le(h:Int):cO h<=2/\ -1<=cO h:=by
 unfold cO
 repeat' split
 all_goals omega
def bPv (l:List OpV)(i:Nat)(m n r:Int):Prop:=oQ ((opsL l).drop i) m n=r
theorem kS{α:Type}{l:List α}{i:Nat}{x:α}(h:l[i]?=some x):l.drop i=x::l.drop (i+1):=by obtain⟨a,e⟩:=G3.1 h;rw[<-e];exact List.drop_eq_getElem_cons a
section
variable {l : List OpV} {i : Nat} {m n r : Int} {x : OpV}
theorem dep_step(h:bPv l i m n r)(hx:l[i]?=some x):(cO x.N<0\/n<cO x.N->r= -1)/\(¬cO x.N<0-> ¬n<cO x.N->bPv l (i+1) (if n+(1-cO x.N)>m then n+(1-cO x.N)else m) (n+(1-cO x.N)) r):=by
 unfold bPv at*;rw[kS (iO hx),oQ]at h;refine⟨λe=>?_,λb a=>?_⟩
 .rw[if_pos (show cO x.c.N<0\/n<cO x.c.N from e)]at h;exact h.symm
 .rw[if_neg (show ¬(cO x.c.N<0\/n<cO x.c.N)from λh=>h.elim b a)]at h;rw[<-h]
  congr 1
  show _=max m (n+(1-cO x.N));split<;>omega
theorem bLr(h:bPv l i m n r)(hi:l.length<=i):(n≠1->r= -1)/\(n=1->r=m):=by unfold bPv at h;rw[U8 (by rw[fQ];exact hi),oQ]at h;exact⟨λe=>by rw[if_neg e]at h;exact h.symm,λe=>by rw[if_pos e]at h;exact h.symm⟩
end
section
variable {f : Int} {two : Bool}
theorem sW(h:f<1\/17<f):Y6 false= .bool (gQ f two):=by unfold gQ;rw[if_pos h]
theorem wtk_b(h3:f=16):Y6 (!two)= .bool (gQ f two):=by unfold gQ;rw[if_neg j5,if_pos h3]
theorem wtk_c(h1:1<=f)(h2:f<=17)(h3:f≠16)(h:two=true):Y6 true= .bool (gQ f two):=by unfold gQ;rw[if_neg j5,if_neg h3,h,Bool.true_or]
theorem wtk_d(h1:1<=f)(h2:f<=17)(h3:f≠16)(h:two=false):Y6 (decide (f<=7))= .bool (gQ f two):=by unfold gQ;rw[if_neg j5,if_neg h3,h,Bool.false_or]
end
theorem bDl:(prog.info? 172).bind (·.zero)=some (.agg #[j3 0,j3 0,j3 0,.slice none 0 0,j4 0]):=j8
theorem takes_spec(o:OpV):cJ prog 64 [.agg #[j3 o.N,j3 o.k,j3 o.n,f9 o.p,j4 o.fn]] [] [] (λ(_:Unit)=> j3 (cO o.N)) (λ_=>[]) (λ_=>[]):=by
 have hT:=dF;refine j1 func64 ntmps64 ?_;intro β hM;refine g2 ?_;refine j0 λq=>?_;refine g18 ?_;refine cD rfl (λg=>?_) (λg=>?_)
 .have j:=g;have g:=eq_of_beq g;refine g2 ?_;refine gT rfl j ?_;refine g8 ?_;exact rs1 () e9 (he:=by simp[cO, *])
 have j:=g;have g:=beq_eq_false_iff_ne.1 g;refine g6 ?_;refine cD rfl (λc=>?_) (λc=>?_)
 .have e:=c;have c:=eq_of_beq c;refine g2 ?_;refine gT rfl e ?_;refine g8 ?_;exact rs1 () e9 (he:=by simp[cO, *])
 have e:=c;have c:=beq_eq_false_iff_ne.1 c;refine g5 ?_;refine cD rfl (λb=>?_) (λb=>?_)
 .have l:=b;have b:=eq_of_beq b;refine g8 ?_;exact rs1 () e9 (he:=by simp[cO, *])
 have l:=b;have b:=beq_eq_false_iff_ne.1 b;refine g7 ?_;refine cD rfl (λf=>?_) (λf=>?_)
 .have h:=f;have f:=eq_of_beq f;refine g2 ?_;refine gT rfl h ?_;refine g8 ?_;exact rs1 () e9 (he:=by simp[cO, *])
 have h:=f;have f:=beq_eq_false_iff_ne.1 f;refine g5 ?_;refine cD rfl (λa=>?_) (λa=>?_)
 .have i:=a;have a:=eq_of_beq a;refine g8 ?_;exact rs1 () e9 (he:=by simp[cO, *])
 have i:=a;have a:=beq_eq_false_iff_ne.1 a;refine g6 ?_;refine cD rfl (λd=>?_) (λd=>?_)
 .have m:=d;have d:=eq_of_beq d;refine g8 ?_;exact rs1 () e9 (he:=by simp[cO, *])
 have m:=d;have d:=beq_eq_false_iff_ne.1 d;refine g9 ?_;exact rs1 () e9 (he:=by simp[cO, *])
theorem bQo(A:Option Addr)(c:Nat)(l:List OpV)(hl:l.length<=140737488355328):cJ prog 23 [.slice A l.length c] [] [opE.sl (.slice A l.length c) l,bC.each l opF] (λ(_:Unit)=> j3 (mJ (opsL l))) (λ_=>[]) (λ_=>[]):=by
 have hT:=dF;generalize o:mJ (opsL l)=r;refine j1 func23 ntmps23 ?_;intro β hM;refine g20 ?_;refine bT (ι:=Nat×Int×Int) [(8,_),(9,_)] ⟨rfl,rfl,e9⟩ (λ⟨i,m,n⟩=>[(3,.int .i64 m),(4,.int .i64 n),(10,.int .i64 (i:Nat))]) (λ_=>[]) (λ⟨i,m,n⟩=>[bC.pure (i<=l.length/\bPv l i m n r/\0<=n/\n<=i)]) (λ⟨i,m,n⟩=>l.length-i) (0,0,0) ⟨rfl,rfl,rfl,e9⟩ .nil ⟨f4 (⟨j5,o,j5,j5⟩),e9⟩ ?_;rintro⟨i,m,n⟩;dsimp only;refine bG d7 λa=>?_;refine g6 ?_;refine dO (λh=>?_) λh=>?_
 .refine g6 ?_;obtain⟨j,d⟩:=gx l i;refine ss (ixs i) ?_;refine ss (lI d 0) ?_;refine i7 bDl λp=>?_;refine g4 ?_;have k:=takes_le j.N
  have b:=(dep_step a.2.1 d)
  refine g2 ?_;refine bL func64 (takes_spec j) rfl rfl .nil e9 λ_=>?_;refine g9 ?_;refine nO (λe=>?_) λe=>?_
  .refine g19 ?_;have hr:=b.1 j5;subst hr;exact rs1 () trivial
  refine g6 ?_;refine dO (λg=>?_) λg=>?_
  .refine g12 ?_;have hr:=b.1 j5;subst hr;exact rs1 () trivial
  refine g7 ?_;refine bM (jO j5 j5) ?_;refine one ?_;refine bM (jO j5 j5) ?_;refine g13 ?_;refine inc (i+1) ?_;refine g3 ?_;exact dB (i+1,_,_) k8 ⟨rfl,rfl,rfl,e9⟩ ⟨rfl,rfl,e9⟩ .nil ⟨f4 (⟨by dsimp only;omega,b.2 j5 j5,by dsimp only;omega,by dsimp only;omega⟩),e9⟩ (bA.drop 1)
 refine g12 ?_;refine bEh (λf=>?_) λf=>?_
 .refine g7 ?_;have hr:=(bLr a.2.1 j5).1 ‹_›;subst hr;exact rs1 () trivial
 refine g9 ?_;have hr:=(bLr a.2.1 j5).2 ‹_›;subst hr;exact rs1 () trivial
theorem vK(f:Int)(two:Bool):cJ prog 100 [j4 f,.bool two] [] [] (λ(_:Unit)=> .bool (gQ f two)) (λ_=>[]) (λ_=>[]):=by
 have hT:=dF;refine j1 func100 ntmps100 ?_;intro β hM;refine g12 ?_;refine nO (λc=>?_) λc=>?_
 .refine g15 ?_;exact rs1 () e9 (he:=l9)
 refine g6 ?_;refine dO (λd=>?_) λd=>?_
 .refine g8 ?_;exact rs1 () e9 (he:=l9)
 refine g7 ?_;refine jU (λb=>?_) λb=>?_
 .refine g10 ?_;exact rs1 () e9 (he:=l9)
 refine g7 ?_;refine cE (λa=>?_) (λa=>?_)
 .refine g7 ?_;exact rs1 () e9 (he:=l9)
 refine g7 ?_;exact rs1 () e9 (he:=l9)
section
variable {P : Program} {β : dY} {n : Nat} {Γ : Env} {H : List bD} {F : List bC} {K : Act -> World -> Prop} {T : Tab} {α : Type} {E : Flat α}
theorem St.recast'{c c':bD}{S:kZ}{w:World}(s:St β (c::H) S w)(hb: ∀b,c'.blk=some b->c.blk=some b)(ok:c'.ok w):St β (c'::H) S w:=by
 have a:=F4.1 s.sep;refine⟨s.kept,λd hd=>?_,λd hd b h=>?_,F4.2 ⟨λd hd b h=>a.1 d hd b (hb b h),a.2⟩,s.zb⟩
 .rcases F1.1 hd with rfl|hd
  .exact ok
  .exact s.ok d (F3 _ hd)
 .rcases F1.1 hd with rfl|hd
  .exact s.own c (F9 ..) b (hb b h)
  .exact s.own d (F3 _ hd) b h
theorem vA{b:Nat}{t:TypeId}{xs:List α}{H':List bD}(hH:bZ H (.obj b (.cells (E.all xs).toArray t)) H')(h:At β n Γ (E.held (.slice (some ⟨b,0,none⟩) xs.length xs.length) xs::H') F K):At β n Γ H F K:=λa w S f s k=>by
 have d:=s.perm hH.perm;have c:w.heap[b]?=some (.cells (E.all xs).toArray t):=d.ok _ (F9 ..);refine h a w S f (d.recast' (λg hb=>?_) ?_) k
 .cases xs with
  |nil=>cases hb
  |cons x r=>exact hb
 .cases xs with
  |nil=>exact⟨_,_,rfl,.inl rfl⟩
  |cons x r=>
   refine⟨_,_,rfl,.inr ⟨b,0,_,t,(0,0),rfl,c,λj u e=>⟨?_,?_⟩⟩⟩
   .rw[D1];exact e
   .simp
theorem bGm{v:Value}{t:TypeId}{xs:List α}{H':List bD}(hH:bZ H (E.row v t xs) H')(h:At β n Γ (E.held v xs::H') F K):At β n Γ H F K:=λa w S f s k=>by
 have m:=s.perm hH.perm;have i:w.ownsRow 0 t E.size v xs.length (E.all xs):=m.ok _ (F9 ..);refine h a w S f (m.recast' (λb hb=>?_) ?_) k
 .cases xs with
  |nil=>cases hb
  |cons x r=>exact hb
 .rcases i.2 with ⟨e,z⟩|⟨g,c,l,e,_,hg,p,y,q,o⟩
  .have:xs=[]:=List.eq_nil_of_length_eq_zero z;subst this;exact⟨none,0,e,.inl rfl⟩
  .subst e
   cases xs with
   |nil=>exact⟨_,c,rfl,.inl rfl⟩
   |cons x r=>
    refine⟨_,c,rfl,.inr ⟨g,0,l,t,(0,0),rfl,hg,λj u d=>⟨?_,?_⟩⟩⟩
    .rw[D1];rw[<-o,List.getElem?_take]at d;split at d
     .exact d
     .cases d
    .simp
theorem oP{v:Value}{xs:List α}{H':List bD}(hH:bZ H (E.held v xs) H')(h:At β n Γ H' (E.sl v xs::F) K):At β n Γ H F K:=λa w S f s k=>by
 have e:=s.perm hH.perm;have l:(E.held v xs).ok w:=e.ok _ (F9 ..);have d:=F4.1 e.sep;have i:=e.own _ (F9 ..);have g:All F (λb=>S b\/(E.held v xs).blk=some b) w:=All.mono (λ_ h=> .inl h) (λ_ _=>rfl) k;refine h a w (λb=>S b\/(E.held v xs).blk=some b) f ⟨e.kept,λc j=>e.ok c (F3 _ j),λc j b hb=>?_,d.2,λb hb=>?_⟩ (All.cons (bCx l λb hb=> .inr hb) g)
 .obtain⟨h1,h2,h3⟩:=e.own c (F3 _ j) b hb;refine⟨h1,h2,λh=>?_⟩
  rcases h with h|h
  .exact h3 h
  .exact d.1 c j b h hb
 .rcases hb with hb|hb
  .exact e.zb b hb
  .obtain⟨h1,h2,_⟩:=i b hb;exact⟨h1,.inr h2⟩
theorem nS{b:Nat}{cs:List Value}{t:TypeId}{L:List bD}{G:List bC}(h:yP L G):yP (.obj b (.cells cs.toArray t)::L) (bC.cells b 0 cs::G):=λS w a e=>
 All.cons ⟨e _ (F9 ..) b rfl,λj u f=>by
  have h0:w.heap[b]?=some (.cells cs.toArray t):=a _ (F9 ..);unfold World.cell?;rw[h0]
  simpa using f⟩ (h S w (λc d=>a c (F3 _ d)) λc d=>e c (F3 _ d))
theorem run_arrFrom(hT:fC P T){t e m sz k:Nat}{ei:TI}(ht:T.get t=some ⟨.array m e,sz⟩)(he:T.get e=some ei){b off:Nat}(hk:k<=m)(kk:IntKind)(w:World):
  (Instr.sliceAt t (.pointer (some ⟨b,off,none⟩)) (some (.int kk (k:Nat))) none none).run P w= .ok (.slice (some ⟨b,if m=k then off else off+k*ei.size,none⟩) (m-k) (m-k)) w:=by
 have c:(⟨b,off,none⟩:Addr).add (k*ei.size)=⟨b,off+k*ei.size,none⟩:=Addr.add_mid _ _ _;unfold Instr.sliceAt;rw[Sem.run_bind,hT.array ht,Result.andThen_ok]
 have h1:(Instr.sliceBound (.int kk (k:Nat)) m .sliceB).run P w= .ok k w:=by rw[run_sliceBound w kk (k:Int) m .sliceB j5 j5,Int.toNat_natCast]
 simp only[Instr.sureAddr,Instr.sliceBounds,Sem.run_bind,Sem.run_pure,Result.andThen_ok,Option.isSome_none,Bool.false_eq_true,if_false,h1,hT.size he,c]
 by_cases a:m=k
 .rw[if_pos a,if_pos a]
 .rw[if_neg a,if_neg a]
theorem sti_arrFrom(hT:fC P T){o:Oper}{t e m sz k b off:Nat}{ei:TI}{x i:Operand}{kk:IntKind}{z:Int}(ho:o.op= .slice t x (some i) none none)(hx:Γ.ev x=some (.pointer (some ⟨b,off,none⟩)))(hi:Γ.ev i=some (.int kk z))
  (ht:T.get t=some ⟨.array m e,sz⟩) (he:T.get e=some ei) (hz:z=(k:Nat)) (hk:k<=m):Sti P β n Γ H F o (.slice (some ⟨b,if m=k then off else off+k*ei.size,none⟩) (m-k) (m-k)):=λa w S f s c=>by subst hz;unfold execOp;simp only[ho,f.ev hx,Option.map_some,Option.map_none,f.ev hi];rw[Sem.run_bind,run_arrFrom hT ht he hk];rfl
end
theorem mono_zero:(prog.info? 111).bind (·.zero)=some (.agg #[j3 0,j4 0,j4 0,j4 0,j4 0,j4 0,j4 0]):=j8
def EI (m:Mono):List Int:=[m.e0.toNat,m.q.toNat,m.o.toNat,m.j.toNat,m.d.toNat,m.Z.toNat]
def u8I:Flat Int where
 size:=1
 cells:=λx=>[.int .u8 x]
 len:=λ_=>rfl
 one:=λx u hu=>by simp at hu;subst hu;rfl
 pos:=l4
theorem clamp_le(vars:Int):clampK vars<=6:=by unfold clampK;omega
theorem clamp_eq(vars:Int):(if (6:Int)<(if (0:Int)>vars then 0 else vars)then 6 else (if (0:Int)>vars then 0 else vars))=((clampK vars:Nat):Int):=by unfold clampK;split<;>split<;>omega
theorem bOq(m:Mono)(vars:Int):((EI m).drop (clampK vars)).length=6-clampK vars:=by rw[Y0];rfl
theorem bTt{β:dY}{H H':List bD}{F:List bC}{b:Nat}{t:TypeId}{m:Mono}{k:Nat}(hH:bZ H (.obj b (.cells m.cells.toArray t)) H'):cF β H F u8I (some ⟨b,if 6=k then 1 else 1+k*1,none⟩) ((EI m).drop k):=λw S s d j x hx=>by
 refine⟨⟨b,_,rfl⟩,λq u hq=>?_⟩;have c:=(G3.1 hx).1;rw[Y0]at c;have c:j<6-k:=c;rw[I1]at hx
 have h0:=bU (β:=β) (F:=F) (off:=0) hH w S s d (1+k+j) (.int .u8 x) (by
  show m.cells[1+k+j]?=_;have e:m.cells= .int .i64 m.n::(EI m).map (λz=>Value.int .u8 z):=rfl;rw[e,show 1+k+j=(k+j)+1 by omega,List.getElem?_cons_succ,F7,hx]
  rfl)
 have a:q=0:=by have:=(G3.1 hq).1;simp[u8I]at this;exact this
 subst a;cases hq;show w.cell? ⟨b,(if 6=k then 1 else 1+k*1)+j*1+0,none⟩=_;rw[if_neg j5];rw[show 1+k*1+j*1+0=0+(1+k+j) by omega];exact h0
def okM (k:Nat)(m:Mono):Bool:=(m.E.drop k).all (λe=>e==0)
theorem okM_eq(k:Nat)(m:Mono):okM k m=((EI m).drop k).all (λe=>e==0):=by
 have e:EI m=m.E.map λe=>((e.toNat:Nat):Int):=rfl;unfold okM;rw[e,<-List.map_drop,List.all_map]
 congr 1
 funext u
 rw[M2];simp[<-UInt8.toNat_inj]
theorem lS{α:Type}{p:α->Bool}{l:List α}{i:Nat}{x:α}(h:(l.take i).all p=true)(hx:l[i]?=some x)(k:p x=true):(l.take (i+1)).all p=true:=by obtain⟨a,e⟩:=G3.1 hx;rw[Y1 a,e,List.all_append,h];simp[k]
theorem sK{α:Type}{p:α->Bool}{l:List α}{i:Nat}(h:(l.take i).all p=true)(hi:l.length<=i):l.all p=true:=by rwa[Y2 hi]at h
theorem tI{α:Type}{p:α->Bool}{l:List α}{i:Nat}{x:α}(hx:l[i]?=some x)(k:p x=false):l.all p=false:=List.all_eq_false.2 ⟨x,List.mem_of_getElem? hx,by simp[k]⟩
theorem okM_end{k j:Nat}{m:Mono}(h:(((EI m).drop k).take j).all (λe=>e==0)=true)(hj:((EI m).drop k).length<=j):okM k m=true:=by rw[okM_eq];exact sK h hj
theorem okM_bad{k j:Nat}{m:Mono}{e:Int}(hx:((EI m).drop k)[j]?=some e)(h:e≠0):okM k m=false:=by rw[okM_eq];exact tI hx ab4
theorem ei_ge{k j:Nat}{m:Mono}{e:Int}(hx:((EI m).drop k)[j]?=some e):0<=e:=by have:=List.mem_of_mem_drop (f5 hx);simp[EI]at this;omega
theorem le_zero{e:Int}(h:e<=0)(k:0<=e):e=0:=j5
theorem of_bad{p:List Mono}{vars:Int}{i:Nat}{m:Mono}(hx:p[i]?=some m)(h:okM (clampK vars) m=false):Y6 false= .bool (ofB p vars):=by unfold ofB;rw[show p.all (λm=>(m.E.drop (clampK vars)).all (λe=>e==0))=false from tI hx h];rfl
theorem of_end{p:List Mono}{vars:Int}(h:p.all (okM (clampK vars))=true):Y6 (cK p)= .bool (ofB p vars):=by unfold ofB;rw[show p.all (λm=>(m.E.drop (clampK vars)).all (λe=>e==0))=true from h];rfl
theorem bFf{l:List (List Mono)}{vars:Int}{i:Nat}{p:List Mono}(hx:l[i]?=some p)(h:(ofB p vars&&jJ p)=false):Y6 false= .bool (iL l vars):=by unfold iL;rw[tI hx h];rfl
theorem grow_end{l:List PolV}{vars:Int}(h:(polsL l).all (λp=>ofB p vars&&jJ p)=true):Y6 (decide ((l.length:Int)<=4))= .bool (iL (polsL l) vars):=by
 unfold iL;rw[h,bS,Bool.true_and]
 congr 1
 rw[decide_eq_decide];omega
theorem of_spec(p:PolV)(vars:Int):cJ prog 148 [f9 p,j3 vars] [] [cR p] (λ(_:Unit)=> .bool (ofB p.B vars)) (λ_=>[]) (λ_=>[]):=by
 have hT:=dF;refine j1 func148 ntmps148 ?_;intro β hM;refine cH<|bG (dI d7) λm=>?_;refine bK (dM.sl (.slice p.O p.B.length p.cap) p.B) (fT d7) ?_;refine g13 ?_;refine bT (ι:=Nat) [(0,_),(1,_),(9,_),(10,_)] ⟨rfl,rfl,rfl,rfl,e9⟩ (λi=>[(11,.int .i64 (i:Nat))]) (λ_=>[]) (λi=>[bC.pure (i<=p.B.length/\(p.B.take i).all (okM (clampK vars))=true)]) (λi=>p.B.length-i) 0 ⟨rfl,e9⟩ .nil ⟨f4 (⟨j5,rfl⟩),e9⟩ ?_;rintro i;refine bG d7 λb=>?_;refine g6 ?_;refine dO (λh=>?_) λh=>?_
 .refine g6 ?_;obtain⟨l,d⟩:=gx p.B i;refine ss (ixs i) ?_;refine ss (lI d 0) ?_;refine i7 mono_zero λo=>?_;refine g9 ?_;refine bM (z':=((clampK vars:Nat):Int)) (clamp_eq vars) ?_;have n:=clamp_le vars;refine ss (sti_arrFrom hT (k:=clampK vars) rfl rfl rfl rfl rfl rfl (clamp_le vars)) ?_;refine one ?_;refine bM (z':=(((6-clampK vars):Nat):Int)) (rfl) ?_;refine g4 ?_;refine bT (ι:=Nat) [(0,_),(1,_),(9,_),(10,_),(11,_),(19,_),(20,_)] ⟨rfl,rfl,rfl,rfl,rfl,rfl,rfl,e9⟩ (λj=>[(21,.int .i64 (j:Nat))]) (λ_=>[]) (λj=>[bC.pure (j<=6-clampK vars/\(((EI l).drop (clampK vars)).take j).all (λe=>e==0)=true)]) (λj=>6-clampK vars-j) 0 ⟨rfl,e9⟩ .nil ⟨f4 (⟨j5,rfl⟩),e9⟩ ?_;rintro j;refine bG d7 λa=>?_;refine g6 ?_;refine dO (λg=>?_) λg=>?_
  .refine g6 ?_;obtain⟨x4,c⟩:=gx ((EI l).drop (clampK vars)) j ae1;refine ss (bE hT (k:=j) (bTt .head) rfl rfl rfl rfl rfl (bOq l vars).symm rfl ae1) ?_;refine ss (f7 hT (cF.knows (bTt .head) (k:=j) (x:=x4) c 0)) ?_;refine g9 ?_;refine dO (λf=>?_) λf=>?_
   .refine g15 ?_;exact rs1 () e9 (he:=of_bad d (okM_bad c j5))
   refine g5 ?_;refine inc (j+1) ?_;refine g3 ?_;exact bk2 (j+1) ⟨f4 (⟨j5,lS a.2 c (beq_iff_eq.2 (le_zero ‹_› (ei_ge c)))⟩),e9⟩
  refine g8 ?_;refine inc (i+1) ?_;refine g3 ?_;exact bk2 (i+1) ⟨f4 (⟨j5,lS b.2 d (okM_end a.2 ae1)⟩),e9⟩
 refine g8 ?_;refine bL func43 (polR_spec p m) rfl rfl .nil ⟨d9,e9⟩ λ_=>?_;refine g4 ?_;exact rs1 () e9 (he:=of_end (sK b.2 j5))
theorem bTx(l:Sl PolV)(vars:Int):cJ prog 80 [f9 l,j3 vars] [] [nL l] (λ(_:Unit)=> .bool (iL (polsL l.B) vars)) (λ_=>[]) (λ_=>[]):=by
 have hT:=dF;refine j1 func80 ntmps80 ?_;intro β hM;refine cH<|bG (qB d7) λh=>?_;have j:=h.2;refine bK (fF.sl (.slice l.O l.B.length l.cap) l.B) (mW d7) ?_;refine g13 ?_;refine bT (ι:=Nat) [(0,_),(1,_),(7,_),(8,_)] ⟨rfl,rfl,rfl,rfl,e9⟩ (λi=>[(9,.int .i64 (i:Nat))]) (λ_=>[]) (λi=>[bC.pure (i<=l.B.length/\((polsL l.B).take i).all (λp=>ofB p vars&&jJ p)=true)]) (λi=>l.B.length-i) 0 ⟨rfl,e9⟩ .nil ⟨f4 (⟨j5,rfl⟩),e9⟩ ?_;rintro i;refine bG d7 λb=>?_;refine g6 ?_;refine dO (λf=>?_) λf=>?_
 .refine g6 ?_;obtain⟨g,a⟩:=gx l.B i;refine ss (ixs i) ?_;refine ss (fV a 0) ?_;refine g4 ?_;refine bK (cR g) (Has.each (mY d9) (f5 a))<|bG (dI d7) λc=>?_;refine g3 ?_;refine bL func148 (of_spec g vars) rfl rfl .nil ⟨d7,e9⟩ λ_=>?_;refine g2 ?_;refine bHr (λd=>?_) λd=>?_
  .refine g18 ?_;exact rs1 () e9 (he:=bFf (cG a) (by simp_all))
  refine one ?_;refine bL func149 (bMi g c) rfl rfl .nil ⟨d7,e9⟩ λ_=>?_;refine g4 ?_;refine tQ (λe=>?_) λe=>?_
  .refine g11 ?_;exact rs1 () e9 (he:=bFf (cG a) (by simp_all))
  refine g5 ?_;refine inc (i+1) ?_;refine g3 ?_;exact bk2 (i+1) ⟨f4 (⟨j5,lS b.2 (cG a) (by simp_all)⟩),e9⟩
 refine g14 ?_;exact rs1 () e9 (he:=grow_end (sK b.2 p9))
theorem bO{β:dY}{H:List bD}{F:List bC}{b off:Nat}{cs:List Value}(h:Has F (bC.cells b 0 cs)):lT β H F b off (cs.drop off):=λw S _ k j u a=>by
 rw[I1]at a;have:=(h S w k).2 (off+j) u a
 rwa[D1]at this
def opV (vars loops buf:Int)(made:List Bool)(o:OpV):Bool:=
 if o.N=1 then (o.k==0)&&(((o.p.B.length:Int)==0)&&(o.fn==0))
 else if o.N=2 then ofB o.p.B vars&&((o.n==0)&&((o.k==0)&&(o.fn==0)))
 else if o.N=3 then decide (0<=o.k)&&(decide (o.k<loops)&&((o.n==0)&&(((o.p.B.length:Int)==0)&&(o.fn==0))))
 else if o.N=4 then decide (0<=o.k)&&(decide (o.k<(made.length:Int))&&((made[o.k.toNat]?).getD false&&((o.k !=buf)&&((o.n==0)&&(((o.p.B.length:Int)==0)&&(o.fn==0))))))
 else if o.N=5\/o.N=6 then gQ o.fn (o.N==6)&&((o.n==0)&&((o.k==0)&&((o.p.B.length:Int)==0)))
 else false
theorem zM{vars loops buf:Int}{made:List Bool}{o:OpV}:opV vars loops buf made o=opB vars loops buf made o.c:=by
 have b:o.c.p.isEmpty=((o.p.B.length:Int)==0):=by show o.p.B.isEmpty=_;rw[M2,Y3,beq_iff_eq,Y7,Y4]
 unfold opV opB;rw[b];show(if o.N=1 then _ else if o.N=2 then _ else if o.N=3 then _ else if o.N=4 then _ else if _ then _ else _)=(if o.N=1 then _ else if o.N=2 then _ else if o.N=3 then _ else if o.N=4 then _ else if _ then _ else _);split
 .rfl
 .split
  .rfl
  .split
   .rw[M2];simp only[L9,decide_eq_true_eq];exact and_assoc.symm
   .split
    .rw[M2];simp only[L9,decide_eq_true_eq,List.getD_eq_getElem?_getD,bne_iff_ne];show 0<=o.k/\o.k<made.length/\(made[o.k.toNat]?).getD false=true/\o.k≠buf/\_↔(0<=o.k/\o.k≠buf)/\(made[o.k.toNat]?).getD false=true/\_;constructor
     .rintro⟨a,_,c,d,e⟩;exact⟨⟨a,d⟩,c,e⟩
     .rintro⟨⟨a,d⟩,c,e⟩;refine⟨a,?_,c,d,e⟩
      rcases Int.lt_or_le o.k made.length with h|h
      .exact h
      .rw[Y5 j5]at c;cases c
    .rfl
section
variable {vars loops buf : Int} {made : List Bool} {o : OpV}
theorem fH(h:o.N=1):opB vars loops buf made o.c=((o.k==0)&&(((o.p.B.length:Int)==0)&&(o.fn==0))):=by rw[<-zM];unfold opV;rw[if_pos h]
theorem fI(h:o.N=2):opB vars loops buf made o.c=(ofB o.p.B vars&&((o.n==0)&&((o.k==0)&&(o.fn==0)))):=by rw[<-zM];unfold opV;rw[if_neg j5,if_pos h]
theorem fO(h:o.N=3):opB vars loops buf made o.c=(decide (0<=o.k)&&(decide (o.k<loops)&&((o.n==0)&&(((o.p.B.length:Int)==0)&&(o.fn==0))))):=by rw[<-zM];unfold opV;rw[if_neg j5,if_neg j5,if_pos h]
theorem fJ{x:Bool}(h:o.N=4)(hx:made[o.k.toNat]?=some x):opB vars loops buf made o.c=(decide (0<=o.k)&&(decide (o.k<(made.length:Int))&&(x&&((o.k !=buf)&&((o.n==0)&&(((o.p.B.length:Int)==0)&&(o.fn==0))))))):=by rw[<-zM];unfold opV;rw[if_neg j5,if_neg j5,if_neg j5,if_pos h,hx];rfl
theorem dG(h:o.N=4)(hx: ¬(0<=o.k/\o.k<made.length)):opB vars loops buf made o.c=false:=by
 rw[<-zM];unfold opV;rw[if_neg j5,if_neg j5,if_neg j5,if_pos h]
 by_cases h0:0<=o.k
 .rw[decide_eq_false (show ¬o.k<(made.length:Int)from λe=>hx ⟨h0,e⟩)];simp
 .rw[decide_eq_false h0];rfl
theorem fL(h:o.N=5):opB vars loops buf made o.c=(gQ o.fn false&&((o.n==0)&&((o.k==0)&&((o.p.B.length:Int)==0)))):=by rw[<-zM];unfold opV;rw[if_neg j5,if_neg j5,if_neg j5,if_neg j5,if_pos (.inl h),h];rfl
theorem fM(h:o.N=6):opB vars loops buf made o.c=(gQ o.fn true&&((o.n==0)&&((o.k==0)&&((o.p.B.length:Int)==0)))):=by rw[<-zM];unfold opV;rw[if_neg j5,if_neg j5,if_neg j5,if_neg j5,if_pos (.inr h),h];rfl
theorem fK(h1:o.N≠1)(h2:o.N≠2)(h3:o.N≠3)(h4:o.N≠4)(h5:o.N≠5)(h6:o.N≠6):opB vars loops buf made o.c=false:=by rw[<-zM];unfold opV;rw[if_neg h1,if_neg h2,if_neg h3,if_neg h4,if_neg (λh=>h.elim h5 h6)]
end
def rO {α:Type}(p:α->Bool):List α->Int->Int
 |[],_=> -1
 |s::r,i=>if p s=true then i else rO p r (i+1)
section
variable {α : Type} {p : α -> Bool} {x : α} {l : List α} {i : Nat} {r : Int}
theorem pH(h:r=rO p (l.drop i) i)(hx:l[i]?=some x):(p x=true->r=i)/\(p x=false->r=rO p (l.drop (i+1)) ((i+1:Nat):Int)):=by rw[kS hx,rO]at h;refine⟨λe=>by rw[if_pos e]at h;exact h,λe=>by rw[if_neg (by rw[e];simp)]at h;rw[h];rfl⟩
theorem bGl(h:r=rO p (l.drop i) i)(hi:l.length<=i):r= -1:=by rw[U8 hi]at h;exact h
end
theorem bFu{α:Type}(p:α->Bool): ∀(l:List α) (i:Int),0<=i->decide (0<=rO p l i)=l.any p
 |[],i,_=>rfl
 |s::r,i,h=>by
  rw[rO,List.any_cons]
  cases e:p s with
  |true=>simp[h]
  |false=>
   rw[if_neg m9,bFu p r (i+1) j5];simp
def sV (vars:Int)(made:List Bool)(x:gA):Bool:=
 ofB x.at_.B vars&&(jJ x.at_.B&&(iL (polsL x.H.B) vars&&(!decide ((256:Int)<x.ops.B.length)&&(!decide (mJ (opsL x.ops.B)<0)&&
  ((if x.N=1 then x.fn==0 else if x.N=2\/x.N=3 then !((x.H.B.length:Int)==0)&&gQ x.fn true else false)&& !(x.ops.B.any λo=>!opB vars x.H.B.length x.I made o.c))))))
theorem any_not{α:Type}(p:α->Bool)(l:List α):(!l.any λo=>!p o)=l.all p:=by
 induction l with
 |nil=>rfl
 |cons x r ih=>rw[List.any_cons,List.all_cons,Bool.not_or,Bool.not_not,ih]
theorem kR{vars:Int}{made:List Bool}{x:gA}:sV vars made x=mV vars made x.c:=by
 have h1:x.c.ops.length=x.ops.B.length:=fQ _;have h2:x.c.H.length=x.H.B.length:=bS _
 have h3:x.c.H.isEmpty=((x.H.B.length:Int)==0):=by show(polsL x.H.B).isEmpty=_;rw[M2,Y3,beq_iff_eq,Y7,<-Y4,bS]
 have h4: ∀p:OpC->Bool,x.c.ops.all p= !(x.ops.B.any λo=>!p o.c):=λp=>by show(opsL x.ops.B).all p=_;unfold opsL;rw[List.all_map,any_not];rfl
 unfold sV mV;rw[h1,h2,h3,h4]
 have b:(!decide ((256:Int)<x.ops.B.length))=decide (x.ops.B.length<=256):=by rw[<-decide_not,decide_eq_decide];omega
 have a:(!decide (mJ (opsL x.ops.B)<0))=decide (0<=mJ (opsL x.ops.B)):=by rw[<-decide_not,decide_eq_decide];omega
 rw[b,a,Bool.and_assoc];rfl
theorem right_spec(bs:Nat)(vars loops buf:Int)(MA:Option Addr)(mc:Nat)(made:List Bool)(o:OpV):cJ prog 152 [.pointer (some ⟨bs,0,none⟩),.agg #[j3 o.N,j3 o.k,j3 o.n,f9 o.p,j4 o.fn]] [] [opF o,bC.cells bs 0 [j3 vars,j3 loops,j3 buf,.slice MA made.length mc],gK.sl (.slice MA made.length mc) made] (λ(_:Unit)=> .bool (opB vars loops buf made o.c)) (λ_=>[]) (λ_=>[]):=by
 have hT:=dF;refine j1 func152 ntmps152 ?_;intro β hM;refine g2 ?_;refine j0 λA=>?_;refine g4 ?_;refine dK _ _ [j2,u1,u0,u2,u3,u4,u5,u6,u7,u9,A00,A01] dJ k7 (.c0 .nil) bA.self ?_;refine g33 ?_;refine cD rfl (λl=>?_) (λl=>?_)
 .have x:=l;have l:=eq_of_beq l;refine g12 ?_;refine bR (t':=true) l4 ?_;refine g6 ?_;refine cE (λd=>?_) (λd=>?_)
  .have d:=eq_of_beq d;refine g5 ?_;refine cE (λa=>?_) (λa=>?_)
   .have a:=eq_of_beq a;refine g7 ?_;exact rs1 () e9 (he:=j7)
   have a:=beq_eq_false_iff_ne.1 a;refine g7 ?_;exact rs1 () e9 (he:=j7)
  have d:=beq_eq_false_iff_ne.1 d;refine g12 ?_;exact rs1 () e9 (he:=j7)
 have x:=l;have l:=beq_eq_false_iff_ne.1 l;refine g6 ?_;refine cD rfl (λj=>?_) (λj=>?_)
 .have w:=j;have j:=eq_of_beq j;refine dK _ _ [j2,u1,u0,u2,u3,u4,A08,u6,u7] dJ k7 (.c0 .nil) bA.self ?_;refine g5 ?_;refine stM rfl (f7 hT (bO (off:=0) d8)) ?_;refine one ?_;refine bL func148 (of_spec o.p vars) rfl rfl .nil ⟨d7,e9⟩ λ_=>?_;refine g10 ?_;refine cE (λe=>?_) (λe=>?_)
  .refine g4 ?_;refine cE (λb=>?_) (λb=>?_)
   .have b:=eq_of_beq b;refine g4 ?_;refine cE (λd=>?_) (λd=>?_)
    .have d:=eq_of_beq d;refine g3 ?_;refine bR (t':=true) l4 ?_;refine g9 ?_;exact rs1 () e9 (he:=j7)
    have d:=beq_eq_false_iff_ne.1 d;refine g12 ?_;exact rs1 () e9 (he:=j7)
   have b:=beq_eq_false_iff_ne.1 b;refine g16 ?_;exact rs1 () e9 (he:=j7)
  refine g20 ?_;exact rs1 () e9 (he:=j7)
 have w:=j;have j:=beq_eq_false_iff_ne.1 j;refine g6 ?_;refine cD rfl (λi=>?_) (λi=>?_)
 .have v:=i;have i:=eq_of_beq i;refine dK _ _ [j2,u1,u0,u2,u3,u4,u5,u6,u7,u9,A00,A01,A02,A03] dJ k7 (.c0 .nil) bA.self ?_;refine g4 ?_;refine cE (λr=>?_) (λr=>?_)
  .have r:=of_decide_eq_true r;refine g5 ?_;refine stM rfl (f7 hT (bO (off:=1) d8)) ?_;refine g11 ?_;refine cE (λe=>?_) (λe=>?_)
   .have e:=of_decide_eq_true e;refine g4 ?_;refine cE (λb=>?_) (λb=>?_)
    .have b:=eq_of_beq b;refine g2 ?_;refine bR (t':=true) l4 ?_;refine g7 ?_;refine cE (λa=>?_) (λa=>?_)
     .have a:=eq_of_beq a;refine g7 ?_;exact rs1 () e9 (he:=j7)
     have a:=beq_eq_false_iff_ne.1 a;refine g7 ?_;exact rs1 () e9 (he:=j7)
    have b:=beq_eq_false_iff_ne.1 b;refine g16 ?_;exact rs1 () e9 (he:=j7)
   have e:=Y8.1 (of_decide_eq_false e);refine g20 ?_;exact rs1 () e9 (he:=j7)
  have r:=Int.not_le.1 (of_decide_eq_false r);refine g37 ?_;exact rs1 () e9 (he:=j7)
 have v:=i;have i:=beq_eq_false_iff_ne.1 i;refine g6 ?_;refine cD rfl (λh=>?_) (λh=>?_)
 .have u:=h;have h:=eq_of_beq h;refine dK _ _ [j2,u1,u0,u2,u3,u4,u5,u6,u7,u9,A00,A01,A02,A03,A04,A05,A07,A06,A20,A22,A29,(true,21),A26,A27,A28,(true,25),(true,26),(true,27),(true,28),(true,29),(true,30),(true,31),(true,32),(true,33)] dJ k7 (.c0 .nil) bA.self ?_;refine g4 ?_;refine cE (λq=>?_) (λq=>?_)
  .have q:=of_decide_eq_true q;refine g5 ?_;refine stM rfl (f7 hT (bO (off:=3) d8)) ?_;refine g4 ?_;refine cE (λm=>?_) (λm=>?_)
   .have m:=of_decide_eq_true m;refine g3 ?_;refine stM rfl (f7 hT (bO (off:=3) d8)) ?_;refine g2 ?_;obtain⟨x3,z⟩:=gx made o.k.toNat;refine stM rfl (bE hT (k:=o.k.toNat) (bH d9) rfl rfl rfl rfl rfl rfl j5 j5) ?_;refine stM rfl (fV z 0) ?_;refine g2 ?_;refine cE (λy=>?_) (λy=>?_)
    .refine g5 ?_;refine stM rfl (f7 hT (bO (off:=2) d8)) ?_;refine g11 ?_;refine cE (λe=>?_) (λe=>?_)
     .have e:=bne_iff_ne.1 e;refine g4 ?_;refine cE (λb=>?_) (λb=>?_)
      .have b:=eq_of_beq b;refine g2 ?_;refine bR (t':=true) l4 ?_;refine g7 ?_;refine cE (λa=>?_) (λa=>?_)
       .have a:=eq_of_beq a;refine g7 ?_;exact rs1 () e9 (he:=j7)
       have a:=beq_eq_false_iff_ne.1 a;refine g7 ?_;exact rs1 () e9 (he:=j7)
      have b:=beq_eq_false_iff_ne.1 b;refine g16 ?_;exact rs1 () e9 (he:=j7)
     have e:=bne_eq_false_iff_eq.1 e;refine g20 ?_;exact rs1 () e9 (he:=j7)
    refine g37 ?_;exact rs1 () e9 (he:=j7)
   have m:=Y8.1 (of_decide_eq_false m);refine g40 ?_;refine g7 ?_;exact rs1 () e9 (he:=j7)
  have q:=Int.not_le.1 (of_decide_eq_false q);refine g40 ?_;refine g17 ?_;exact rs1 () e9 (he:=j7)
 have u:=h;have h:=beq_eq_false_iff_ne.1 h;refine g7 ?_;refine cD rfl (λg=>?_) (λg=>?_)
 .have s:=g;have g:=eq_of_beq g;refine g2 ?_;refine gT rfl s ?_;refine g6 ?_;refine bR (t':=false) (by rw[g];rfl) ?_;refine bL func100 (vK _ _) rfl rfl .nil e9 λ_=>?_;refine g9 ?_;refine cE (λe=>?_) (λe=>?_)
  .refine g4 ?_;refine cE (λb=>?_) (λb=>?_)
   .have b:=eq_of_beq b;refine g4 ?_;refine cE (λd=>?_) (λd=>?_)
    .have d:=eq_of_beq d;refine g5 ?_;refine cE (λa=>?_) (λa=>?_)
     .have a:=eq_of_beq a;refine g2 ?_;refine bR (t':=true) l4 ?_;refine g5 ?_;exact rs1 () e9 (he:=j7)
     have a:=beq_eq_false_iff_ne.1 a;refine g7 ?_;exact rs1 () e9 (he:=j7)
    have d:=beq_eq_false_iff_ne.1 d;refine g12 ?_;exact rs1 () e9 (he:=j7)
   have b:=beq_eq_false_iff_ne.1 b;refine g16 ?_;exact rs1 () e9 (he:=j7)
  refine g20 ?_;exact rs1 () e9 (he:=j7)
 have s:=g;have g:=beq_eq_false_iff_ne.1 g;refine g5 ?_;refine cD rfl (λf=>?_) (λf=>?_)
 .have t:=f;have f:=eq_of_beq f;refine g6 ?_;refine bR (t':=true) (by rw[f];rfl) ?_;refine bL func100 (vK _ _) rfl rfl .nil e9 λ_=>?_;refine g9 ?_;refine cE (λe=>?_) (λe=>?_)
  .refine g4 ?_;refine cE (λb=>?_) (λb=>?_)
   .have b:=eq_of_beq b;refine g4 ?_;refine cE (λd=>?_) (λd=>?_)
    .have d:=eq_of_beq d;refine g5 ?_;refine cE (λa=>?_) (λa=>?_)
     .have a:=eq_of_beq a;refine g2 ?_;refine bR (t':=true) l4 ?_;refine g5 ?_;exact rs1 () e9 (he:=j7)
     have a:=beq_eq_false_iff_ne.1 a;refine g7 ?_;exact rs1 () e9 (he:=j7)
    have d:=beq_eq_false_iff_ne.1 d;refine g12 ?_;exact rs1 () e9 (he:=j7)
   have b:=beq_eq_false_iff_ne.1 b;refine g16 ?_;exact rs1 () e9 (he:=j7)
  refine g20 ?_;exact rs1 () e9 (he:=j7)
 have t:=f;have f:=beq_eq_false_iff_ne.1 f;refine g27 ?_;exact rs1 () e9 (he:=j7)
theorem bDg(bp:Nat)(bs:Nat)(vars loops buf:Int)(MA:Option Addr)(mc:Nat)(made:List Bool)(o:OpV):cJ prog 151 [.agg #[j3 o.N,j3 o.k,j3 o.n,f9 o.p,j4 o.fn],.pointer (some ⟨bp,0,none⟩)] [] [opF o,bC.cells bp 0 [.pointer (some ⟨bs,0,none⟩)],bC.cells bs 0 [j3 vars,j3 loops,j3 buf,.slice MA made.length mc],gK.sl (.slice MA made.length mc) made] (λ(_:Unit)=> .bool (!opB vars loops buf made o.c)) (λ_=>[]) (λ_=>[]):=by have hT:=dF;refine j1 func151 ntmps151 ?_;intro β hM;refine g2 ?_;refine j0 λa=>?_;refine g5 ?_;refine ss (f7 hT (bO (off:=0) d8)) ?_;refine one ?_;refine bL func152 (right_spec bs vars loops buf MA mc made o) rfl rfl .nil ⟨d7,d9,e6,e9⟩ λ_=>?_;refine g5 ?_;exact rs1 () trivial
theorem indexFO_spec(A:Option Addr)(c:Nat)(l:List OpV)(hl:l.length<=140737488355328)(f:FuncId)(cap:List Value)(G:List bC)(p:OpV->Bool)(hcf: ∀(args:Array Value) (w:World),(callFunc f args).run prog w= .ok (.enter f args) w)(hf: ∀o:OpV,cJ prog f (.agg #[j3 o.N,j3 o.k,j3 o.n,f9 o.p,j4 o.fn]::cap) [] (opF o::G) (λ_:Unit=> .bool (p o)) (λ_=>[]) (λ_=>[])):cJ prog 212 [.slice A l.length c,.func (.func f) #[] cap.toArray] [] (opE.sl (.slice A l.length c) l::bC.each l opF::G) (λ(_:Unit)=> j3 (rO p l 0)) (λ_=>[]) (λ_=>[]):=by
 have hT:=dF;generalize h:rO p l 0=r;refine j1 func212 ntmps212 ?_;intro β hM;refine g14 ?_;refine bT (ι:=Nat) [(0,_),(1,_),(7,_)] ⟨rfl,rfl,rfl,e9⟩ (λi=>[(8,.int .i64 (i:Nat))]) (λ_=>[]) (λi=>[bC.pure (i<=l.length/\r=rO p (l.drop i) i)]) (λi=>l.length-i) 0 ⟨rfl,e9⟩ .nil ⟨f4 (⟨j5,h.symm⟩),e9⟩ ?_;rintro i;refine bG d7 λa=>?_;refine g6 ?_;refine dO (λe=>?_) λe=>?_
 .refine g15 ?_;obtain⟨g,b⟩:=gx l i;refine ss (ixs i) ?_;refine ss (lI b 0) ?_;refine nF hcf (hf g) rfl rfl rfl rfl rfl rfl rfl .nil ⟨Has.each d9 (f5 b),bA.drop 3⟩ λ_=>?_;refine g2 ?_;refine vN (λd=>?_) λd=>?_
  .refine g12 ?_;obtain rfl:=(pH a.2 b).1 ‹_›;exact rs1 () trivial
  refine g5 ?_;refine inc (i+1) ?_;refine g3 ?_;exact bk2 (i+1) ⟨f4 (⟨j5,(pH a.2 b).2 ‹_›⟩),e9⟩
 refine g11 ?_;have hr:=bGl a.2 j5;subst hr;exact rs1 () trivial
theorem sO(A:Option Addr)(c:Nat)(l:List OpV)(hl:l.length<=140737488355328)(f:FuncId)(cap:List Value)(G:List bC)(p:OpV->Bool)(hcf: ∀(args:Array Value) (w:World),(callFunc f args).run prog w= .ok (.enter f args) w)(hf: ∀o:OpV,cJ prog f (.agg #[j3 o.N,j3 o.k,j3 o.n,f9 o.p,j4 o.fn]::cap) [] (opF o::G) (λ_:Unit=> .bool (p o)) (λ_=>[]) (λ_=>[])):cJ prog 150 [.slice A l.length c,.func (.func f) #[] cap.toArray] [] (opE.sl (.slice A l.length c) l::bC.each l opF::G) (λ(_:Unit)=> .bool (l.any p)) (λ_=>[]) (λ_=>[]):=by have hT:=dF;refine j1 func150 ntmps150 ?_;intro β hM;refine g9 ?_;refine bL func212 (indexFO_spec A c l hl f cap G p hcf hf) rfl rfl .nil bA.self λ_=>?_;refine g5 ?_;exact rs1 () e9 (he:=congrArg Y6 (bFu p l 0 l4))
theorem step_spec(bs:Nat)(vars loops buf:Int)(MA:Option Addr)(mc:Nat)(made:List Bool)(x:gA):cJ prog 81 [.pointer (some ⟨bs,0,none⟩),.agg #[j3 x.N,j3 x.I,f9 x.at_,f9 x.H,j4 x.fn,f9 x.ops]] [.obj bs (.cells [j3 vars,j3 loops,j3 buf,.slice MA made.length mc].toArray 201)] [mO x,gK.sl (.slice MA made.length mc) made] (λ(_:Int×Int)=> .bool (mV vars made x.c)) (λ(y:Int×Int)=>[.obj bs (.cells [j3 vars,j3 y.1,j3 y.2,.slice MA made.length mc].toArray 201)]) (λ_=>[]):=by
 have hT:=dF;refine j1 func81 ntmps81 ?_;intro β hM;refine g2 ?_;refine j0 λt=>?_;refine j0 λz=>?_;refine g5 ?_;refine bK (cR x.at_) (bFk d7)<|bG (dI d7) λu=>bK (nL x.H) (nA d8)<|bG (opsF_c (mA d9)) λv=>?_;have w:=v.2;refine bK (bC.each x.ops.B opF) (opsF_e (mA d9))<|bK (opE.sl (.slice x.ops.O x.ops.B.length x.ops.cap) x.ops.B) (bHk (mA e6)) ?_;refine dK _ _ [j2,u1,u0,u2,u3,u4,A08,u6,u7,u9,A00,A12,A02,A03,A04,A05,A07,A06,A20,A22,A29,(false,21),A26,A27,A28,(true,25),(true,26),(true,27),(true,28),(true,29),(true,30),(true,31),(true,32),(false,33),(true,34),(true,35)] dJ k7 (.c0 (.c0 (.c0 .nil))) bA.self ?_;refine g7 ?_;refine bL func148 (of_spec x.at_ vars) rfl rfl .nil ⟨e6,e9⟩ λ_=>?_;refine g3 ?_;refine cE (λm=>?_) (λm=>?_)
 .have m:=bEl m;refine g40 ?_;refine g3 ?_;exact rs1 (_,_) e9 (he:=by rw[<-kR];simp[sV, *])
 have m:=bFi m;refine g3 ?_;refine bL func149 (bMi x.at_ u) rfl rfl .nil ⟨e6,e9⟩ λ_=>?_;refine g4 ?_;refine cE (λl=>?_) (λl=>?_)
 .have l:=bEl l;refine g35 ?_;exact rs1 (_,_) e9 (he:=by rw[<-kR];simp[sV, *])
 have l:=bFi l;refine g7 ?_;refine bL func80 (bTx x.H vars) rfl rfl .nil ⟨d9,e9⟩ λ_=>?_;refine g4 ?_;refine cE (λk=>?_) (λk=>?_)
 .have k:=bEl k;refine g23 ?_;exact rs1 (_,_) e9 (he:=by rw[<-kR];simp[sV, *])
 have k:=bFi k;refine g6 ?_;refine cE (λj=>?_) (λj=>?_)
 .have j:=of_decide_eq_true j;refine g17 ?_;exact rs1 (_,_) e9 (he:=by rw[<-kR];simp[sV, *])
 have j:=Y8.1 (of_decide_eq_false j);refine g3 ?_;refine bL func23 (bQo x.ops.O x.ops.cap x.ops.B j5) rfl rfl .nil ⟨d7,d8,e9⟩ λ_=>?_;refine g5 ?_;refine cD rfl (λh=>?_) (λh=>?_)
 .have s:=h;have h:=of_decide_eq_true h;refine g7 ?_;exact rs1 (_,_) e9 (he:=by rw[<-kR];simp[sV, *])
 have s:=h;have h:=Y8.1 (of_decide_eq_false h);refine g16 ?_;refine cD rfl (λg=>?_) (λg=>?_)
 .have r:=g;have g:=eq_of_beq g;refine g7 ?_;refine cD rfl (λf=>?_) (λf=>?_)
  .have q:=f;have f:=bne_iff_ne.1 f;refine g8 ?_;exact rs1 (_,_) e9 (he:=by rw[<-kR];simp[sV, *])
  have q:=f;have f:=bne_eq_false_iff_eq.1 f;refine g4 ?_;refine dK _ _ [j2,u1,u0,u2,u3,u4,u5,u6,u7,A14,A00,A01,A24] dJ k7 (.c0 (.c0 .nil)) bA.self ?_;refine g24 ?_;refine fS (bJ func150 rfl rfl) (sO x.ops.O x.ops.cap x.ops.B j5 151 [.pointer (some ⟨t,0,none⟩)] [bC.cells t 0 [.pointer (some ⟨bs,0,none⟩)],bC.cells bs 0 [.int .i64 vars,.int .i64 x.H.B.length,.int .i64 x.I,.slice MA made.length mc],gK.sl (.slice MA made.length mc) made] (λo=>!opB vars x.H.B.length x.I made o.c) (bJ func151 rfl rfl) (λo=>bDg t bs vars x.H.B.length x.I MA mc made o)) rfl rfl rfl rfl rfl .nil (.c2 (.c0 .nil)) (nS (nS iF)) ⟨d9,e6,d7,d8,e8,e9⟩ (λ_=>True) (λ_ _ _ _=>trivial) λ_ _=>?_;refine g5 ?_;exact rs1 (_,_) e9 (he:=by rw[<-kR];simp[sV, *])
 have r:=g;have g:=beq_eq_false_iff_ne.1 g;refine g7 ?_;refine cD rfl (λe=>?_) (λe=>?_)
 .have n:=e;have e:=eq_of_beq e;refine g2 ?_;refine gT rfl n ?_;refine g7 ?_;refine cE (λd=>?_) (λd=>?_)
  .have d:=eq_of_beq d;refine g16 ?_;exact rs1 (_,_) e9 (he:=by rw[<-kR];simp[sV, *])
  have d:=beq_eq_false_iff_ne.1 d;refine g2 ?_;refine bL func100 (vK _ _) rfl rfl .nil e9 λ_=>?_;refine g4 ?_;refine cD rfl (λa=>?_) (λa=>?_)
  .have i:=a;have a:=bEl a;refine g8 ?_;exact rs1 (_,_) e9 (he:=by rw[<-kR];simp[sV, *])
  have i:=a;have a:=bFi a;refine g4 ?_;refine dK _ _ [j2,u1,u0,u2,u3,u4,u5,u6,u7,A14,A00,A01,A24] dJ k7 (.c0 (.c0 .nil)) bA.self ?_;refine g24 ?_;refine fS (bJ func150 rfl rfl) (sO x.ops.O x.ops.cap x.ops.B j5 151 [.pointer (some ⟨t,0,none⟩)] [bC.cells t 0 [.pointer (some ⟨bs,0,none⟩)],bC.cells bs 0 [.int .i64 vars,.int .i64 x.H.B.length,.int .i64 x.I,.slice MA made.length mc],gK.sl (.slice MA made.length mc) made] (λo=>!opB vars x.H.B.length x.I made o.c) (bJ func151 rfl rfl) (λo=>bDg t bs vars x.H.B.length x.I MA mc made o)) rfl rfl rfl rfl rfl .nil (.c2 (.c0 .nil)) (nS (nS iF)) ⟨d9,e6,d7,d8,e8,e9⟩ (λ_=>True) (λ_ _ _ _=>trivial) λ_ _=>?_;refine g5 ?_;exact rs1 (_,_) e9 (he:=by rw[<-kR];simp[sV, *])
 have n:=e;have e:=beq_eq_false_iff_ne.1 e;refine g5 ?_;refine cD rfl (λb=>?_) (λb=>?_)
 .have p:=b;have b:=eq_of_beq b;refine g7 ?_;refine cE (λd=>?_) (λd=>?_)
  .have d:=eq_of_beq d;refine g16 ?_;exact rs1 (_,_) e9 (he:=by rw[<-kR];simp[sV, *])
  have d:=beq_eq_false_iff_ne.1 d;refine g2 ?_;refine bL func100 (vK _ _) rfl rfl .nil e9 λ_=>?_;refine g4 ?_;refine cD rfl (λa=>?_) (λa=>?_)
  .have i:=a;have a:=bEl a;refine g8 ?_;exact rs1 (_,_) e9 (he:=by rw[<-kR];simp[sV, *])
  have i:=a;have a:=bFi a;refine g4 ?_;refine dK _ _ [j2,u1,u0,u2,u3,u4,u5,u6,u7,A14,A00,A01,A24] dJ k7 (.c0 (.c0 .nil)) bA.self ?_;refine g24 ?_;refine fS (bJ func150 rfl rfl) (sO x.ops.O x.ops.cap x.ops.B j5 151 [.pointer (some ⟨t,0,none⟩)] [bC.cells t 0 [.pointer (some ⟨bs,0,none⟩)],bC.cells bs 0 [.int .i64 vars,.int .i64 x.H.B.length,.int .i64 x.I,.slice MA made.length mc],gK.sl (.slice MA made.length mc) made] (λo=>!opB vars x.H.B.length x.I made o.c) (bJ func151 rfl rfl) (λo=>bDg t bs vars x.H.B.length x.I MA mc made o)) rfl rfl rfl rfl rfl .nil (.c2 (.c0 .nil)) (nS (nS iF)) ⟨d9,e6,d7,d8,e8,e9⟩ (λ_=>True) (λ_ _ _ _=>trivial) λ_ _=>?_;refine g5 ?_;exact rs1 (_,_) e9 (he:=by rw[<-kR];simp[sV, *])
 have p:=b;have b:=beq_eq_false_iff_ne.1 b;refine g8 ?_;exact rs1 (_,_) e9 (he:=by rw[<-kR];simp[sV, *])
theorem bRr: ∃i:TypeInfo,prog.info? 4=some i/\i.zero=some (.bool false)/\i.size=1/\i.bytes=1:=by
 have h:(prog.info? 4).map (λi=>(i.zero,i.size,i.bytes))=some (some (.bool false),1,1):=j8
 cases a:prog.info? 4 with
 |none=>simp[a]at h
 |some i=>simp[a]at h;exact⟨i,rfl,h.1,h.2.1,h.2.2⟩
theorem sL{β:dY}{n:Nat}{Γ:Env}{H:List bD}{F:List bC}{Q:Exit->Act->World->Prop}{ops:Array Oper}{rest:List Oper}{o:Oper}{d:Nat}{x:Operand}{m:Bool}(hw:want ops Γ o=some true)(ho:o.op= .buildSlice 99 1 #[(0,x)])(hd:o.dst=some d)(hn:C2 d n=true)
  (hx:Γ.ev x=some (.bool m)) (k: ∀b,At β n ((d,.slice (some ⟨b,0,none⟩) 1 1)::Γ) (.obj b (.cells (gK.all [m]).toArray 4)::H) F (wpList prog ops Q rest)):At β n Γ H F (wpList prog ops Q (o::rest)):=by
 obtain⟨i,e,a,c,_⟩:=bRr;refine nX hw ho hd hn hx underlying99 e a j5 j5 ?_ k;rw[c]
 kernel_rfl
theorem rX{β:dY}{n:Nat}{Γ:Env}{H:List bD}{F:List bC}{Q:Exit->Act->World->Prop}{ops:Array Oper}{rest:List Oper}{o:Oper}{d:Nat}{x y:Operand}{c q:Nat}{v:Value}{A:Option Addr}{xs ys:List Bool}{H':List bD}(hH:bZ H (gK.row v 4 xs) H')(hr:cF β H F gK A ys)(hg:o.guard=none)
  (ho:o.op= .call {callee:= .builtin .append,args:= #[x,y],argTypes:= #[99,99]}) (hd:o.dst=some d) (hn:C2 d n=true)
  (hx:Γ.ev x=some v) (hy:Γ.ev y=some (.slice A q c)) (hq:q=ys.length) (hl:xs.length+ys.length<=140737488355328)
  (k: ∀A' cap',At β n ((d,.slice A' (xs++ys).length cap')::Γ) (gK.row (.slice A' (xs++ys).length cap') 4 (xs++ys)::H') F (wpList prog ops Q rest)):At β n Γ H F (wpList prog ops Q (o::rest)):=by obtain⟨i,e,a,b,hb⟩:=bRr;exact jS hH hr hg ho hd hn underlying99 e a b hb rfl hx hy hq j5 l4 k
theorem bLv: ∃i:TypeInfo,prog.info? 3=some i/\i.zero=some (j3 0)/\i.size=1/\i.bytes=8:=by
 have h:(prog.info? 3).map (λi=>(i.zero,i.size,i.bytes))=some (some (.int .i64 0),1,8):=j8
 cases a:prog.info? 3 with
 |none=>simp[a]at h
 |some i=>simp[a]at h;exact⟨i,rfl,h.1,h.2.1,h.2.2⟩
theorem bDm{β:dY}{n:Nat}{Γ:Env}{H:List bD}{F:List bC}{Q:Exit->Act->World->Prop}{ops:Array Oper}{rest:List Oper}{o:Oper}{d:Nat}{x:Operand}{m:Int}(hw:want ops Γ o=some true)(ho:o.op= .buildSlice 24 1 #[(0,x)])(hd:o.dst=some d)(hn:C2 d n=true)
  (hx:Γ.ev x=some (j3 m)) (k: ∀b,At β n ((d,.slice (some ⟨b,0,none⟩) 1 1)::Γ) (.obj b (.cells (dA.all [m]).toArray 3)::H) F (wpList prog ops Q rest)):At β n Γ H F (wpList prog ops Q (o::rest)):=by
 obtain⟨i,e,a,c,_⟩:=bLv;refine nX hw ho hd hn hx underlying24 e a j5 j5 ?_ k;rw[c]
 kernel_rfl
theorem at_none_int{β:dY}{n:Nat}{Γ:Env}{H:List bD}{F:List bC}{Q:Exit->Act->World->Prop}{ops:Array Oper}{rest:List Oper}{o:Oper}{d:Nat}(hw:want ops Γ o=some true)(ho:o.op= .buildSlice 24 0 #[])(hd:o.dst=some d)(hn:C2 d n=true)
  (k: ∀b,At β n ((d,.slice (some ⟨b,0,none⟩) 0 0)::Γ) (dA.row (.slice (some ⟨b,0,none⟩) 0 0) 3 []::H) F (wpList prog ops Q rest)):At β n Γ H F (wpList prog ops Q (o::rest)):=by obtain⟨i,a,_⟩:=bLv;exact bIm dA hw ho hd hn underlying24 a k
theorem uC{β:dY}{n:Nat}{Γ:Env}{H:List bD}{F:List bC}{Q:Exit->Act->World->Prop}{ops:Array Oper}{rest:List Oper}{o:Oper}{d:Nat}{x y:Operand}{c q:Nat}{v:Value}{A:Option Addr}{xs ys:List Int}{H':List bD}(hH:bZ H (dA.row v 3 xs) H')(hr:cF β H F dA A ys)(hg:o.guard=none)
  (ho:o.op= .call {callee:= .builtin .append,args:= #[x,y],argTypes:= #[24,24]}) (hd:o.dst=some d) (hn:C2 d n=true)
  (hx:Γ.ev x=some v) (hy:Γ.ev y=some (.slice A q c)) (hq:q=ys.length) (hl:xs.length+ys.length<=17592186044416)
  (k: ∀A' cap',At β n ((d,.slice A' (xs++ys).length cap')::Γ) (dA.row (.slice A' (xs++ys).length cap') 3 (xs++ys)::H') F (wpList prog ops Q rest)):At β n Γ H F (wpList prog ops Q (o::rest)):=by obtain⟨i,e,a,b,hb⟩:=bLv;exact jS hH hr hg ho hd hn underlying24 e a b hb rfl hx hy hq j5 l4 k
theorem arr64_zero:(prog.info? 198).bind (·.zero)=some (.agg (gK.all (V4 64 false)).toArray):=j8
theorem step_specM{m:Nat}{made:List Bool}(hm:made.length=m)(bs:Nat)(vars loops buf:Int)(MA:Option Addr)(mc:Nat)(x:gA):cJ prog 81 [.pointer (some ⟨bs,0,none⟩),.agg #[j3 x.N,j3 x.I,f9 x.at_,f9 x.H,j4 x.fn,f9 x.ops]]
  [.obj bs (.cells [j3 vars,j3 loops,j3 buf,.slice MA m mc].toArray 201)] [mO x,gK.sl (.slice MA m mc) made] (λ_:Int×Int=> .bool (mV vars made x.c)) (λy=>[.obj bs (.cells [j3 vars,j3 y.1,j3 y.2,.slice MA m mc].toArray 201)]) (λ_=>[]):=by subst hm;exact step_spec bs vars loops buf MA mc made x
def outB (n:Nat)(k:Int):Bool:=decide (k<0) || decide ((n:Int)<=k)
def bPo (c:dR):Bool:=lQ c.vars c.C c.D (uL c.C)&&c.Q.all λk=>decide (0<=k/\k<c.C.length)
theorem rA(l:List jX):(uL l).length=l.length:=List.length_map _
def yD (c:dR)(i:Nat)(inp made:List Bool)(r:Bool):Prop:=inp.length=64/\made=(uL c.C).take i/\ ∃seen:List Int,(∀z∈seen,0<=z)/\(∀k:Nat,k<64->inp[k]?=some (seen.contains (k:Int)))/\r=(sH c.vars (c.C.drop i) seen&&bPo c)
def qP (c:dR)(i:Nat)(made:List Bool)(r:Bool):Prop:=made.length=c.C.length/\r=(lQ c.vars c.C (c.D.drop i) made&&c.Q.all λk=>decide (0<=k/\k<c.C.length))
section
variable {c : fX} {r : Bool}
theorem bJr(h:dC c.c=r)(h1:0<=c.vars)(h2:c.vars<=6)(h3:(c.C.B.length:Int)<=1024)(h4:(c.D.B.length:Int)<=1024)(h5:(c.Q.B.length:Int)<=64):r=(sH c.c.vars c.c.C []&&bPo c.c):=by rw[<-h];unfold dC;rw[decide_eq_true (show 0<=c.c.vars/\c.c.vars<=6/\c.c.C.length<=1024/\c.c.D.length<=1024/\c.c.Q.length<=64 from ⟨h1,h2,by show(vE c.C.B).length<=1024;rw[cQ];omega,by show(bAj c.D.B).length<=1024;rw[cS];omega,by show c.Q.B.length<=64;omega⟩),Bool.true_and];rfl
theorem lC(h:dC c.c=r)(h1: ¬(0<=c.vars/\c.vars<=6/\(c.C.B.length:Int)<=1024/\(c.D.B.length:Int)<=1024/\(c.Q.B.length:Int)<=64)):r=false:=by rw[<-h];unfold dC;rw[decide_eq_false (show ¬(0<=c.c.vars/\c.c.vars<=6/\c.c.C.length<=1024/\c.c.D.length<=1024/\c.c.Q.length<=64)from λ⟨a,b,d,e,f⟩=>h1 ⟨a,b,by have d:(vE c.C.B).length<=1024:=d;rw[cQ]at d;omega,by have e:(bAj c.D.B).length<=1024:=e;rw[cS]at e;omega,by have f:c.Q.B.length<=64:=f;omega⟩),Bool.false_and]
end
section
variable {c : dR} {i : Nat} {inp made : List Bool} {r : Bool} {u : jX}
theorem bufs_start(h:r=(sH c.vars c.C []&&bPo c)):yD c 0 (V4 64 false) [] r:=by
 refine⟨rfl,rfl,[],?_,?_,h⟩
 .intro z a;cases a
 .intro k b;rw[List.getElem?_replicate,if_pos b];rfl
theorem bufs_len(h:yD c i inp made r)(hi:i<=c.C.length):made.length=i:=by rw[h.2.1,List.length_take,rA];omega
theorem bFc(h:yD c i inp made r)(hu:c.C[i]?=some u)(k:iL u.K c.vars=false\/u.L< -1\/64<=u.L\/0<=u.L/\inp[u.L.toNat]?=some true):r=false:=by
 obtain⟨h1,_,a,h2,h3,h4⟩:=h;rw[kS hu,sH]at h4;rw[h4]
 rcases k with k|k|k|⟨k,e⟩
 .rw[k];rfl
 .rw[decide_eq_false (show ¬(-1<=u.L/\u.L<64)from λh=>by omega)];simp
 .rw[decide_eq_false (show ¬(-1<=u.L/\u.L<64)from λh=>by omega)];simp
 .have hlt:=(G3.1 e).1;rw[h3 _ j5]at e
  have b:a.contains u.L=true:=by
   have:((u.L.toNat:Nat):Int)=u.L:=j5
   rw[<-this];exact Option.some.inj e
  rw[b];simp
theorem bUs(h:made=(uL c.C).take i)(hu:c.C[i]?=some u):made++[decide (0<=u.L)]=(uL c.C).take (i+1):=by
 have a:(uL c.C)[i]?=some (decide (0<=u.L)):=by unfold uL;rw[F7,hu];rfl
 obtain⟨b,e⟩:=G3.1 a;rw[Y1 b,e,h]
theorem bufs_in(h:yD c i inp made r)(hu:c.C[i]?=some u)(hg:iL u.K c.vars=true)(h1: -1<=u.L)(h2:u.L<64)(h3:0<=u.L)(he:inp[u.L.toNat]?=some false):yD c (i+1) (inp.set u.L.toNat true) (made++[decide (0<=u.L)]) r:=by
 obtain⟨l,j,a,g,f,b⟩:=h;refine⟨by simpa using l,bUs j hu,u.L::a,λz d=>?_,λk m=>?_,?_⟩
 .rcases F1.1 d with rfl|d
  .exact h3
  .exact g z d
 .rw[List.getElem?_set,List.contains_cons]
  by_cases e:u.L.toNat=k
  .rw[if_pos e,if_pos j5];have:((k:Nat):Int)=u.L:=j5
   rw[this];simp
  .rw[if_neg e,f k m];have:((k:Int)==u.L)=false:=beq_eq_false_iff_ne.2 j5;rw[this];rfl
 .rw[kS hu,sH,hg,decide_eq_true ⟨h1,h2⟩,if_pos h3]at b
  have n:a.contains u.L=false:=by
   rw[f _ j5]at he;have:((u.L.toNat:Nat):Int)=u.L:=j5
   rw[<-this];exact Option.some.inj he
  rw[n]at b
  simpa using b
theorem bufs_no(h:yD c i inp made r)(hu:c.C[i]?=some u)(hg:iL u.K c.vars=true)(h1: -1<=u.L)(h3:u.L<0):yD c (i+1) inp (made++[decide (0<=u.L)]) r:=by
 obtain⟨g,f,a,d,e,b⟩:=h;refine⟨g,bUs f hu,a,d,e,?_⟩;rw[kS hu,sH,hg,decide_eq_true (show-1<=u.L/\u.L<64 from ⟨h1,j5⟩),if_neg j5]at b
 have j:a.contains u.L=false:=by rw[List.contains_eq_mem];exact decide_eq_false λh=>by have:=d _ h;omega
 rw[j]at b
 simpa using b
theorem bufs_end(h:yD c i inp made r)(hi:c.C.length<=i):made=uL c.C/\r=bPo c:=by obtain⟨_,d,a,_,_,b⟩:=h;rw[U8 hi]at b;refine⟨by rw[d,Y2 (by rw[rA];exact hi)],by rw[b];rfl⟩
theorem bKs(hm:made=uL c.C)(h:r=bPo c):qP c 0 made r:=⟨by rw[hm,rA],by rw[h,hm];rfl⟩
theorem bBt{x:cT}(h:qP c i made r)(hx:c.D[i]?=some x)(k:x.I<0\/(c.C.length:Int)<=x.I\/(∃u,c.C[x.I.toNat]?=some u/\0<=u.L)\/mV c.vars made x=false):r=false:=by
 obtain⟨_,h2⟩:=h;rw[kS hx,lQ]at h2;rw[h2]
 rcases k with k|k|⟨u,e,k⟩|k
 .rw[decide_eq_false (show ¬0<=x.I by omega)];rfl
 .rw[Y5 (show c.C.length<=x.I.toNat by omega)];simp
 .rw[e];simp only;rw[decide_eq_false (show ¬u.L<0 by omega)];simp
 .rw[k];simp
theorem steps_ok{x:cT}{u:jX}(h:qP c i made r)(hx:c.D[i]?=some x)(h0:0<=x.I)(hu:c.C[x.I.toNat]?=some u)(h1:u.L<0)(k:mV c.vars made x=true):qP c (i+1) (made.set x.I.toNat true) r:=by
 obtain⟨h2,h3⟩:=h;refine⟨by simpa using h2,?_⟩;rw[kS hx,lQ,hu,decide_eq_true h0]at h3;simp only at h3;rw[decide_eq_true h1,k]at h3
 simpa using h3
theorem bBm(h:qP c i made r)(hi:c.D.length<=i):r=c.Q.all λk=>decide (0<=k/\k<c.C.length):=by obtain⟨_,h3⟩:=h;rw[U8 hi]at h3;rw[h3];rfl
end
theorem outs_all{n m:Nat}{l:List Int}(h:n=m):(!l.any (outB m))=l.all λk=>decide (0<=k/\k<(n:Int)):=by
 subst h
 have e:outB n=λk=>!decide (0<=k/\k<(n:Int)):=by
  funext k
  unfold outB;rw[M2];simp
 rw[e,any_not]
theorem tH(z0:Int):prog.built 201 [(0,j3 z0)]=some #[j3 z0,j3 0,j3 0,.slice none 0 0]:=j8
theorem yR:(prog.info? 95).bind (·.zero)=some (.agg #[.slice none 0 0,j3 0]):=j8
theorem xE:(prog.info? 80).bind (·.zero)=some (.agg #[j3 0,j3 0,.slice none 0 0,.slice none 0 0,j4 0,.slice none 0 0]):=j8
theorem indexFI_spec(A:Option Addr)(c:Nat)(l:List Int)(hl:l.length<=140737488355328)(f:FuncId)(cap:List Value)(G:List bC)(p:Int->Bool)(hcf: ∀(args:Array Value) (w:World),(callFunc f args).run prog w= .ok (.enter f args) w)(hf: ∀k:Int,cJ prog f (j3 k::cap) [] G (λ_:Unit=> .bool (p k)) (λ_=>[]) (λ_=>[])):cJ prog 153 [.slice A l.length c,.func (.func f) #[] cap.toArray] [] (dA.sl (.slice A l.length c) l::G) (λ(_:Unit)=> j3 (rO p l 0)) (λ_=>[]) (λ_=>[]):=by
 have hT:=dF;generalize h:rO p l 0=r;refine j1 func153 ntmps153 ?_;intro β hM;refine g14 ?_;refine bT (ι:=Nat) [(0,_),(1,_),(7,_)] ⟨rfl,rfl,rfl,e9⟩ (λi=>[(8,.int .i64 (i:Nat))]) (λ_=>[]) (λi=>[bC.pure (i<=l.length/\r=rO p (l.drop i) i)]) (λi=>l.length-i) 0 ⟨rfl,e9⟩ .nil ⟨f4 (⟨j5,h.symm⟩),e9⟩ ?_;rintro i;refine bG d7 λa=>?_;refine g6 ?_;refine dO (λe=>?_) λe=>?_
 .refine g15 ?_;obtain⟨g,b⟩:=gx l i;refine ss (ixs i) ?_;refine ss (fV b 0) ?_;refine nF hcf (hf g) rfl rfl rfl rfl rfl rfl rfl .nil (bA.drop 2) λ_=>?_;refine g2 ?_;refine vN (λd=>?_) λd=>?_
  .refine g12 ?_;obtain rfl:=(pH a.2 b).1 ‹_›;exact rs1 () trivial
  refine g5 ?_;refine inc (i+1) ?_;refine g3 ?_;exact bk2 (i+1) ⟨f4 (⟨j5,(pH a.2 b).2 ‹_›⟩),e9⟩
 refine g11 ?_;have hr:=bGl a.2 j5;subst hr;exact rs1 () trivial
theorem bLc(A:Option Addr)(c:Nat)(l:List Int)(hl:l.length<=140737488355328)(f:FuncId)(cap:List Value)(G:List bC)(p:Int->Bool)(hcf: ∀(args:Array Value) (w:World),(callFunc f args).run prog w= .ok (.enter f args) w)(hf: ∀k:Int,cJ prog f (j3 k::cap) [] G (λ_:Unit=> .bool (p k)) (λ_=>[]) (λ_=>[])):cJ prog 82 [.slice A l.length c,.func (.func f) #[] cap.toArray] [] (dA.sl (.slice A l.length c) l::G) (λ(_:Unit)=> .bool (l.any p)) (λ_=>[]) (λ_=>[]):=by have hT:=dF;refine j1 func82 ntmps82 ?_;intro β hM;refine g9 ?_;refine bL func153 (indexFI_spec A c l hl f cap G p hcf hf) rfl rfl .nil bA.self λ_=>?_;refine g5 ?_;exact rs1 () e9 (he:=congrArg Y6 (bFu p l 0 l4))
theorem right1_spec(b:Nat)(c:fX)(k:Int):cJ prog 83 [j3 k,.pointer (some ⟨b,0,none⟩)] [] [bC.cells b 0 [j3 c.vars,f9 c.C,f9 c.D,f9 c.Q]] (λ(_:Unit)=> .bool (outB c.C.B.length k)) (λ_=>[]) (λ_=>[]):=by
 have hT:=dF;refine j1 func83 ntmps83 ?_;intro β hM;refine g10 ?_;refine nO (λa=>?_) λa=>?_
 .refine g10 ?_;exact rs1 () e9 (he:=aa9)
 refine g2 ?_;refine ss (f7 hT (bO (off:=1) d7)) ?_;refine g7 ?_;exact rs1 () e9 (he:=aa9)
theorem bPb(c:fX):cJ prog 33 [.agg #[j3 c.vars,f9 c.C,f9 c.D,f9 c.Q]] [] [lH c] (λ(_:Unit)=> .bool (dC c.c)) (λ_=>[]) (λ_=>[]):=by
 have hT:=dF;generalize o:dC c.c=r;refine j1 func33 ntmps33 ?_;intro β hM;refine g2 ?_;refine j0 λV=>?_;refine g10 ?_;refine nO (λG=>?_) λG=>?_
 .refine g32 ?_;have hr:=lC o j5;subst hr;exact rs1 () trivial
 refine g5 ?_;refine nO (λD=>?_) λD=>?_
 .refine g27 ?_;have hr:=lC o j5;subst hr;exact rs1 () trivial
 refine g6 ?_;refine nO (λC=>?_) λC=>?_
 .refine g21 ?_;have hr:=lC o j5;subst hr;exact rs1 () trivial
 refine g6 ?_;refine nO (λB=>?_) λB=>?_
 .refine g15 ?_;have hr:=lC o j5;subst hr;exact rs1 () trivial
 refine g7 ?_;refine dO (λL=>?_) λL=>?_
 .refine g7 ?_;have hr:=lC o j5;subst hr;exact rs1 () trivial
 refine g3 ?_;have N:=bJr o j5 j5 j5 j5 j5;refine one ?_;refine i7 arr64_zero λb2=>?_;refine vA (E:=gK) (xs:=V4 64 false) .head ?_;refine g6 ?_;refine ss (bY rfl rfl (tH _)) ?_;refine j0 λU=>?_;refine g13 ?_;refine cL (t:=4) gK ?_;refine bT (ι:=Nat×List Bool×List Bool×Option Addr×Nat) [(1,_),(3,_),(4,_),(40,_),(41,_)] ⟨rfl,rfl,rfl,rfl,rfl,e9⟩ (λ⟨i,inp,made,MA,mc⟩=>[(42,.int .i64 (i:Nat))]) (λ⟨i,inp,made,MA,mc⟩=>[gK.held (.slice (some ⟨b2,0,none⟩) 64 64) inp,.obj U (.cells [.int .i64 c.vars,.int .i64 0,.int .i64 0,.slice MA made.length mc].toArray 201),gK.row (.slice MA made.length mc) 4 made]) (λ⟨i,inp,made,MA,mc⟩=>[bC.pure (i<=c.C.B.length/\yD c.c i inp made r)]) (λ⟨i,inp,made,MA,mc⟩=>c.C.B.length-i) (0,V4 64 false,[],none,0) ⟨rfl,e9⟩ (.c2 (.c1 (.c0 .nil))) ⟨f4 (⟨j5,bufs_start N⟩),e9⟩ ?_;rintro⟨i,inp,made,MA,mc⟩;dsimp only;refine bG d7 λa=>?_;have hil:inp.length=64:=a.2.1;have hml:=bufs_len a.2 (by show i<=(vE c.C.B).length;rw[cQ];omega);refine g6 ?_;refine dO (λK=>?_) λK=>?_
 .refine g6 ?_;refine bK (sU.sl (.slice c.C.O c.C.B.length c.C.cap) c.C.B) (kG (gC d8)) ?_;obtain⟨x4,e⟩:=gx c.C.B i;refine ss (ixs i) ?_;refine ss (lI e 0) ?_;refine i7 yR λb6=>?_;refine g5 ?_;refine bK (bSc x4) (Has.each (rV (gC d9)) (f5 e)) ?_;refine g5 ?_;refine bL func80 (bTx x4.K c.vars) rfl rfl .nil ⟨d7,e9⟩ λ_=>?_;refine g2 ?_;refine bHr (λA=>?_) λA=>?_
  .refine g35 ?_;have hr:=bFc a.2 (cM e) l5;subst hr;exact rs1 () trivial
  refine g5 ?_;refine nO (λz=>?_) λz=>?_
  .refine g30 ?_;have hr:=bFc a.2 (cM e) l5;subst hr;exact rs1 () trivial
  refine g5 ?_;refine k_le (λy=>?_) λy=>?_
  .refine g25 ?_;have hr:=bFc a.2 (cM e) l5;subst hr;exact rs1 () trivial
  refine g4 ?_;refine k_le (λx=>?_) λx=>?_
  .refine g2 ?_;obtain⟨x7,q⟩:=gx inp x4.L.toNat;refine ss (cX hT (k:=x4.L.toNat) rfl rfl rfl rfl rfl j5 j5) ?_;refine ss (fV q 0) ?_;refine g4 ?_;refine vN (λJ=>?_) λJ=>?_
   .refine g12 ?_;have hr:=bFc a.2 (cM e) l5;subst hr;exact rs1 () trivial
   refine g10 ?_;refine bOr (λf=>?_) λf=>?_
   .refine g3 ?_;refine ss (cX hT (k:=x4.L.toNat) rfl rfl rfl rfl rfl j5 j5) ?_;refine fW hT (k:=x4.L.toNat) (fo:=0) (y':=true) kT1 rfl rfl rfl rfl rfl rfl rfl rfl rfl q rfl ?_;refine g2 ?_;refine mF 12 _ _ [j2,u1,u0,u2,u3,u4,u5,u6,A09,A14,A00,A01] dJ k7 (.c0 (.c0 (.c0 (.c1 .nil)))) bA.self ?_;refine g9 ?_;refine sL (m:=decide (0<=x4.L)) rfl rfl rfl rfl rfl λb9=>?_;refine g2 ?_;refine rX kT4 (fD .head rfl) rfl rfl rfl rfl rfl rfl rfl o6 λZ R=>?_;refine g10 ?_;refine inc (i+1) ?_;refine g3 ?_;exact bk2 (i+1,inp.set x4.L.toNat true,made++[decide (0<=x4.L)],Z,R) ⟨f4 (⟨by dsimp only;omega,bufs_in a.2 (cM e) (show iL (polsL x4.K.B) c.vars=true by assumption) (show-1<=x4.L by omega) (show x4.L<64 by omega) (show 0<=x4.L by omega) ac4⟩),e9⟩
   refine g2 ?_;refine mF 12 _ _ [j2,u1,u0,u2,u3,u4,u5,u6,A09,A14,A00,A01] dJ k7 (.c0 (.c0 (.c0 (.c1 .nil)))) bA.self ?_;refine g9 ?_;refine sL (m:=decide (0<=x4.L)) rfl rfl rfl rfl rfl λb12=>?_;refine g2 ?_;refine rX kT4 (fD .head rfl) rfl rfl rfl rfl rfl rfl rfl o6 λY Q=>?_;refine g10 ?_;refine inc (i+1) ?_;refine g3 ?_;exact bk2 (i+1,inp,made++[decide (0<=x4.L)],Y,Q) ⟨f4 (⟨by dsimp only;omega,bufs_no a.2 (cM e) (show iL (polsL x4.K.B) c.vars=true by assumption) (show-1<=x4.L by omega) (show x4.L<0 by omega)⟩),e9⟩
  refine g19 ?_;refine bOr (λf=>?_) λf=>?_
  .refine g3 ?_;obtain⟨x15,u⟩:=gx inp x4.L.toNat;refine ss (cX hT (k:=x4.L.toNat) rfl rfl rfl rfl rfl j5 j5) ?_;refine fW hT (k:=x4.L.toNat) (fo:=0) (y':=true) kT1 rfl rfl rfl rfl rfl rfl rfl rfl rfl u rfl ?_;refine g2 ?_;refine mF 12 _ _ [j2,u1,u0,u2,u3,u4,u5,u6,A09,A14,A00,A01] dJ k7 (.c0 (.c0 (.c0 (.c1 .nil)))) bA.self ?_;refine g9 ?_;refine sL (m:=decide (0<=x4.L)) rfl rfl rfl rfl rfl λb17=>?_;refine g2 ?_;refine rX kT4 (fD .head rfl) rfl rfl rfl rfl rfl rfl rfl o6 λX P=>?_;refine g10 ?_;refine inc (i+1) ?_;refine g3 ?_;exact bk2 (i+1,inp.set x4.L.toNat true,made++[decide (0<=x4.L)],X,P) ⟨f4 (⟨by dsimp only;omega,bufs_in a.2 (cM e) (show iL (polsL x4.K.B) c.vars=true by assumption) (show-1<=x4.L by omega) (show x4.L<64 by omega) (show 0<=x4.L by omega) ac4⟩),e9⟩
  refine g2 ?_;refine mF 12 _ _ [j2,u1,u0,u2,u3,u4,u5,u6,A09,A14,A00,A01] dJ k7 (.c0 (.c0 (.c0 (.c1 .nil)))) bA.self ?_;refine g9 ?_;refine sL (m:=decide (0<=x4.L)) rfl rfl rfl rfl rfl λb20=>?_;refine g2 ?_;refine rX kT4 (fD .head rfl) rfl rfl rfl rfl rfl rfl rfl o6 λW O=>?_;refine g10 ?_;refine inc (i+1) ?_;refine g3 ?_;exact bk2 (i+1,inp,made++[decide (0<=x4.L)],W,O) ⟨f4 (⟨by dsimp only;omega,bufs_no a.2 (cM e) (show iL (polsL x4.K.B) c.vars=true by assumption) (show-1<=x4.L by omega) (show x4.L<0 by omega)⟩),e9⟩
 refine g15 ?_;obtain⟨w,M⟩:=bufs_end a.2 (by show(vE c.C.B).length<=i;rw[cQ];omega);have v:made.length=c.C.B.length:=by rw[w,rA];exact cQ _
 rw[v];refine bT (ι:=Nat×List Bool×Int×Int) [(1,_),(4,_),(93,_),(94,_)] ⟨rfl,rfl,rfl,rfl,e9⟩ (λ⟨k,made,lo,bu⟩=>[(95,.int .i64 (k:Nat))]) (λ⟨k,made,lo,bu⟩=>[.obj U (.cells [.int .i64 c.vars,.int .i64 lo,.int .i64 bu,.slice MA c.C.B.length mc].toArray 201),gK.row (.slice MA c.C.B.length mc) 4 made]) (λ⟨k,made,lo,bu⟩=>[bC.pure (k<=c.D.B.length/\qP c.c k made r)]) (λ⟨k,made,lo,bu⟩=>c.D.B.length-k) (0,made,0,0) ⟨rfl,e9⟩ (.c1 (.c1 .nil)) ⟨f4 (⟨j5,bKs w M⟩),e9⟩ ?_;rintro⟨k,made,lo,bu⟩;dsimp only;refine bG d7 λb=>?_;have h:made.length=c.C.B.length:=by rw[b.2.1];exact cQ _
 refine g6 ?_;refine dO (λI=>?_) λI=>?_
 .refine g6 ?_;refine bK (pU.sl (.slice c.D.O c.D.B.length c.D.cap) c.D.B) (lM (gS d9)) ?_;obtain⟨x23,d⟩:=gx c.D.B k;refine ss (ixs k) ?_;refine ss (lI d 0) ?_;refine i7 xE λb25=>?_;refine g5 ?_;refine bK (mO x23) (Has.each (oM (gS e6)) (f5 d)) ?_;refine g5 ?_;refine nO (λn=>?_) λn=>?_
  .refine g38 ?_;have hr:=bBt b.2 (cN d) k9;subst hr;exact rs1 () trivial
  refine g8 ?_;refine k_le (λl=>?_) λl=>?_
  .refine g30 ?_;have hr:=bBt b.2 (cN d) k9;subst hr;exact rs1 () trivial
  refine g4 ?_;refine bK (sU.sl (.slice c.C.O c.C.B.length c.C.cap) c.C.B) (kG (gC e7)) ?_;obtain⟨x26,g⟩:=gx c.C.B x23.I.toNat;refine ss (bE hT (k:=x23.I.toNat) (bH d7) rfl rfl rfl rfl rfl rfl j5 j5) ?_;refine one ?_;refine ss (fV g 1) ?_;refine g3 ?_;refine k_le (λj=>?_) λj=>?_
  .refine g20 ?_;have hr:=bBt b.2 (cN d) k9;subst hr;exact rs1 () trivial
  refine g2 ?_;refine fS (bJ func81 rfl rfl) (step_specM h U c.vars lo bu MA mc x23) rfl rfl rfl rfl rfl (.c1 .nil) (.c1 .nil) (nR iF) ⟨d9,d7,e9⟩ (λ_=>True) (λ_ _ _ _=>trivial) λp _=>?_;refine g4 ?_;refine tQ (λhc125=>?_) λhc125=>?_
  .refine g12 ?_;have hr:=bBt b.2 (cN d) k9;subst hr;exact rs1 () trivial
  refine g2 ?_;refine mF 7 _ _ [j2,u1,u0,u2,u3,u4,u5] dJ k7 (.c0 (.c0 (.c0 (.c0 (.c0 .nil))))) bA.self ?_;refine g6 ?_;obtain⟨x29,s⟩:=gx made x23.I.toNat;refine stL rfl (bE hT (k:=x23.I.toNat) (bN kT2) rfl rfl rfl rfl rfl h.symm j5 j5) ?_;refine one ?_;refine i6 hT (k:=x23.I.toNat) (fo:=0) (y':=true) kT2 s ?_;refine g5 ?_;refine inc (k+1) ?_;refine g3 ?_;exact bk2 (k+1,made.set x23.I.toNat true,p.1,p.2) ⟨f4 (⟨by dsimp only;omega,steps_ok b.2 (cN d) (show 0<=x23.I by omega) (cM g) (show jW.L _<0 by omega) (show mV c.vars made x23.c=true by assumption)⟩),e9⟩
 refine g10 ?_;refine bK (dA.sl (.slice c.Q.O c.Q.B.length c.Q.cap) c.Q.B) (bEi (bEq d9)) ?_;refine fS (bJ func82 rfl rfl) (bLc c.Q.O c.Q.cap c.Q.B j5 83 [.pointer (some ⟨V,0,none⟩)] [bC.cells V 0 [.int .i64 c.vars,.slice c.C.O c.C.B.length c.C.cap,.slice c.D.O c.D.B.length c.D.cap,.slice c.Q.O c.Q.B.length c.Q.cap]] (outB c.C.B.length) (bJ func83 rfl rfl) (λk=>right1_spec V c k)) rfl rfl rfl rfl rfl .nil (.c3 .nil) (nS iF) ⟨d8,d7,e9⟩ (λ_=>True) (λ_ _ _ _=>trivial) λ_ _=>?_;refine g5 ?_;have hr:=bBm b.2 (by show(bAj c.D.B).length<=k;rw[cS];omega);subst hr;exact rs1 () e9 (he:=congrArg Y6 (outs_all (cQ _)))
