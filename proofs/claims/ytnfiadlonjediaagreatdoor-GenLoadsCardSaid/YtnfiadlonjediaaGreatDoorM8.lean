/- Texts of one proof, one behind the other: CoW, Arrs, CoX, CoY, CoZ. -/
import Derived.Test.YtnfiadlonjediaaGreatDoorM7
import Derived.Test.YtnfiadlonjediaaGreatDoorM6
set_option maxRecDepth 100000
namespace Go.Proofs.YtnfiadlonjediaaGreatDoor
open Go.RowKit Go.Proofs.Tryz
theorem takes_le(h:Int):cH h<=2/\ -1<=cH h:=by
 unfold cH
 repeat' split
 all_goals omega
def bLn (l:List OpV)(i:Nat)(m n r:Int):Prop:=mP ((opsL l).drop i) m n=r
theorem lC{α:Type}{l:List α}{i:Nat}{x:α}(h:l[i]?=some x):l.drop i=x::l.drop (i+1):=by
 obtain⟨hi,e⟩:=List.getElem?_eq_some_iff.1 h;rw[<-e];exact List.drop_eq_getElem_cons hi
section
variable {l : List OpV} {i : Nat} {m n r : Int} {x : OpV}
theorem dep_step(h:bLn l i m n r)(hx:l[i]?=some x):(cH x.how<0\/n<cH x.how->r= -1)/\(¬cH x.how<0-> ¬n<cH x.how->bLn l (i+1) (if n+(1-cH x.how)>m then n+(1-cH x.how)else m) (n+(1-cH x.how)) r):=by
 unfold bLn at*;rw[lC (gR hx),mP]at h;refine⟨λe=>?_,λe1 e2=>?_⟩
 .rw[if_pos (show cH x.c.how<0\/n<cH x.c.how from e)]at h;exact h.symm
 .rw[if_neg (show ¬(cH x.c.how<0\/n<cH x.c.how)from λh=>h.elim e1 e2)]at h;rw[<-h]
  congr 1
  show _=max m (n+(1-cH x.how));split<;>omega
theorem bHq(h:bLn l i m n r)(hi:l.length<=i):(n≠1->r= -1)/\(n=1->r=m):=by
 unfold bLn at h;rw[List.drop_of_length_le (by rw[fV];exact hi),mP]at h;exact⟨λe=>by rw[if_neg e]at h;exact h.symm,λe=>by rw[if_pos e]at h;exact h.symm⟩
end
section
variable {f : Int} {two : Bool}
theorem qM(h:f<1\/17<f):Value.bool false= .bool (fX f two):=by
 unfold fX;rw[if_pos h]
theorem wtk_b(h3:f=16):Value.bool (!two)= .bool (fX f two):=by
 unfold fX;rw[if_neg k7,if_pos h3]
theorem wtk_c(h1:1<=f)(h2:f<=17)(h3:f≠16)(h:two=true):Value.bool true= .bool (fX f two):=by
 unfold fX;rw[if_neg k7,if_neg h3,h,Bool.true_or]
theorem wtk_d(h1:1<=f)(h2:f<=17)(h3:f≠16)(h:two=false):Value.bool (decide (f<=7))= .bool (fX f two):=by
 unfold fX;rw[if_neg k7,if_neg h3,h,Bool.false_or]
end
theorem bAm:(prog.info? 172).bind (·.zero)=some (.agg #[.int .i64 0,.int .i64 0,.int .i64 0,.slice none 0 0,.int .u8 0]):=k8
theorem takes_spec(o:OpV):cE prog 64 [.agg #[.int .i64 o.how,.int .i64 o.k,.int .i64 o.n,.slice o.p.addr o.p.list.length o.p.cap,.int .u8 o.fn]] [] [] (λ(_:Unit)=> .int .i64 (cH o.how)) (λ_=>[]) (λ_=>[]):=by
 have hT:=dB;refine j2 func64 ntmps64 ?_;intro β hM;refine g2 ?_;refine j0 λb1=>?_;refine g18 ?_;refine cG rfl (λhc5=>?_) (λhc5=>?_)
 .have hc5_r:=hc5;have hc5:=eq_of_beq hc5;refine g2 ?_;refine kP rfl hc5_r ?_;refine g8 ?_;exact rs1 () e8 (he:=by simp[cH, *])
 have hc5_r:=hc5;have hc5:=beq_eq_false_iff_ne.1 hc5;refine g6 ?_;refine cG rfl (λhc5_2=>?_) (λhc5_2=>?_)
 .have hc5_2_r:=hc5_2;have hc5_2:=eq_of_beq hc5_2;refine g2 ?_;refine kP rfl hc5_2_r ?_;refine g8 ?_;exact rs1 () e8 (he:=by simp[cH, *])
 have hc5_2_r:=hc5_2;have hc5_2:=beq_eq_false_iff_ne.1 hc5_2;refine g5 ?_;refine cG rfl (λhc5_3=>?_) (λhc5_3=>?_)
 .have hc5_3_r:=hc5_3;have hc5_3:=eq_of_beq hc5_3;refine g8 ?_;exact rs1 () e8 (he:=by simp[cH, *])
 have hc5_3_r:=hc5_3;have hc5_3:=beq_eq_false_iff_ne.1 hc5_3;refine g7 ?_;refine cG rfl (λhc9=>?_) (λhc9=>?_)
 .have hc9_r:=hc9;have hc9:=eq_of_beq hc9;refine g2 ?_;refine kP rfl hc9_r ?_;refine g8 ?_;exact rs1 () e8 (he:=by simp[cH, *])
 have hc9_r:=hc9;have hc9:=beq_eq_false_iff_ne.1 hc9;refine g5 ?_;refine cG rfl (λhc9_4=>?_) (λhc9_4=>?_)
 .have hc9_4_r:=hc9_4;have hc9_4:=eq_of_beq hc9_4;refine g8 ?_;exact rs1 () e8 (he:=by simp[cH, *])
 have hc9_4_r:=hc9_4;have hc9_4:=beq_eq_false_iff_ne.1 hc9_4;refine g6 ?_;refine cG rfl (λhc12=>?_) (λhc12=>?_)
 .have hc12_r:=hc12;have hc12:=eq_of_beq hc12;refine g8 ?_;exact rs1 () e8 (he:=by simp[cH, *])
 have hc12_r:=hc12;have hc12:=beq_eq_false_iff_ne.1 hc12;refine g9 ?_;exact rs1 () e8 (he:=by simp[cH, *])
theorem bJm(A:Option Addr)(c:Nat)(l:List OpV)(hl:l.length<=140737488355328):cE prog 23 [.slice A l.length c] [] [opE.sl (.slice A l.length c) l,bC.each l opF] (λ(_:Unit)=> .int .i64 (kL (opsL l))) (λ_=>[]) (λ_=>[]):=by
 have hT:=dB;generalize hR:kL (opsL l)=r;refine j2 func23 ntmps23 ?_;intro β hM;refine g20 ?_;refine bU (ι:=Nat×Int×Int) [(8,_),(9,_)] ⟨rfl,rfl,e8⟩ (λ⟨i,m,n⟩=>[(3,.int .i64 m),(4,.int .i64 n),(10,.int .i64 (i:Nat))]) (λ_=>[]) (λ⟨i,m,n⟩=>[bC.pure (i<=l.length/\bLn l i m n r/\0<=n/\n<=i)]) (λ⟨i,m,n⟩=>l.length-i) (0,0,0) ⟨rfl,rfl,rfl,e8⟩ .nil ⟨e9 (⟨k7,hR,k7,k7⟩),e8⟩ ?_;rintro⟨i,m,n⟩;dsimp only;refine bJ d7 λhinv3=>?_;refine g6 ?_;refine dH (λhc11=>?_) λhc11=>?_
 .refine g6 ?_;obtain⟨x1,hx2⟩:=gx l i;refine ss (ixs i) ?_;refine ss (jQ hx2 0) ?_;refine i7 bAm λb3=>?_;refine g4 ?_;have htk:=takes_le x1.how
  have hd0:=(dep_step hinv3.2.1 hx2)
  refine g2 ?_;refine f9 func64 (takes_spec x1) .nil e8 λ_=>?_;refine g9 ?_;refine lG (λhg18=>?_) λhg18=>?_
  .refine g19 ?_;have hr:=hd0.1 k7;subst hr;exact rs1 () trivial
  refine g6 ?_;refine dH (λhc22=>?_) λhc22=>?_
  .refine g12 ?_;have hr:=hd0.1 k7;subst hr;exact rs1 () trivial
  refine g7 ?_;refine bN (mF k7 k7) ?_;refine one ?_;refine bN (mF k7 k7) ?_;refine g13 ?_;refine inc (i+1) ?_;refine g3 ?_;exact oC (i+1,_,_) n9 ⟨rfl,rfl,rfl,e8⟩ ⟨rfl,rfl,e8⟩ .nil ⟨e9 (⟨by dsimp only;omega,hd0.2 k7 k7,by dsimp only;omega,by dsimp only;omega⟩),e8⟩ (bA.drop 1)
 refine g12 ?_;refine bNw (λhc32=>?_) λhc32=>?_
 .refine g7 ?_;have hr:=(bHq hinv3.2.1 k7).1 ‹_›;subst hr;exact rs1 () trivial
 refine g9 ?_;have hr:=(bHq hinv3.2.1 k7).2 ‹_›;subst hr;exact rs1 () trivial
theorem sX(f:Int)(two:Bool):cE prog 100 [.int .u8 f,.bool two] [] [] (λ(_:Unit)=> .bool (fX f two)) (λ_=>[]) (λ_=>[]):=by
 have hT:=dB;refine j2 func100 ntmps100 ?_;intro β hM;refine g12 ?_;refine lG (λhg8=>?_) λhg8=>?_
 .refine g15 ?_;exact rs1 () e8 (he:=by first|exact qM (.inl k7)|exact qM (.inr k7)|exact wtk_b k7|exact wtk_c k7 k7 k7 ‹_›|exact wtk_d k7 k7 k7 ‹_›)
 refine g6 ?_;refine dH (λhc5=>?_) λhc5=>?_
 .refine g8 ?_;exact rs1 () e8 (he:=by first|exact qM (.inl k7)|exact qM (.inr k7)|exact wtk_b k7|exact wtk_c k7 k7 k7 ‹_›|exact wtk_d k7 k7 k7 ‹_›)
 refine g7 ?_;refine jN (λhc12=>?_) λhc12=>?_
 .refine g10 ?_;exact rs1 () e8 (he:=by first|exact qM (.inl k7)|exact qM (.inr k7)|exact wtk_b k7|exact wtk_c k7 k7 k7 ‹_›|exact wtk_d k7 k7 k7 ‹_›)
 refine g7 ?_;refine cD (λhg18=>?_) (λhg18=>?_)
 .refine g7 ?_;exact rs1 () e8 (he:=by first|exact qM (.inl k7)|exact qM (.inr k7)|exact wtk_b k7|exact wtk_c k7 k7 k7 ‹_›|exact wtk_d k7 k7 k7 ‹_›)
 refine g7 ?_;exact rs1 () e8 (he:=by first|exact qM (.inl k7)|exact qM (.inr k7)|exact wtk_b k7|exact wtk_c k7 k7 k7 ‹_›|exact wtk_d k7 k7 k7 ‹_›)
section
variable {P : Program} {β : dC} {n : Nat} {Γ : Env} {H : List bD} {F : List bC} {K : Act -> World -> Prop} {T : Tab} {α : Type} {E : Flat α}
theorem St.recast'{c c':bD}{S:jF}{w:World}(s:St β (c::H) S w)(hb: ∀b,c'.blk=some b->c.blk=some b)(ok:c'.ok w):St β (c'::H) S w:=by
 have hs:=List.pairwise_cons.1 s.sep;refine⟨s.kept,λd hd=>?_,λd hd b h=>?_,List.pairwise_cons.2 ⟨λd hd b h=>hs.1 d hd b (hb b h),hs.2⟩,s.zone⟩
 .rcases List.mem_cons.1 hd with rfl|hd
  .exact ok
  .exact s.ok d (List.mem_cons_of_mem _ hd)
 .rcases List.mem_cons.1 hd with rfl|hd
  .exact s.own c (List.mem_cons_self ..) b (hb b h)
  .exact s.own d (List.mem_cons_of_mem _ hd) b h
theorem wL{b:Nat}{t:TypeId}{xs:List α}{H':List bD}(hH:bW H (.obj b (.cells (E.all xs).toArray t)) H')(h:At β n Γ (E.held (.slice (some ⟨b,0,none⟩) xs.length xs.length) xs::H') F K):At β n Γ H F K:=λa w S f s k=>by
 have s2:=s.perm hH.perm;have hok:w.heap[b]?=some (.cells (E.all xs).toArray t):=s2.ok _ (List.mem_cons_self ..);refine h a w S f (s2.recast' (λb' hb=>?_) ?_) k
 .cases xs with
  |nil=>cases hb
  |cons x r=>exact hb
 .cases xs with
  |nil=>exact⟨_,_,rfl,.inl rfl⟩
  |cons x r=>
   refine⟨_,_,rfl,.inr ⟨b,0,_,t,(0,0),rfl,hok,λj u hj=>⟨?_,?_⟩⟩⟩
   .rw[Nat.zero_add];exact hj
   .simp
theorem bBd{v:Value}{t:TypeId}{xs:List α}{H':List bD}(hH:bW H (E.row v t xs) H')(h:At β n Γ (E.held v xs::H') F K):At β n Γ H F K:=λa w S f s k=>by
 have s2:=s.perm hH.perm;have hok:w.ownsRow 0 t E.size v xs.length (E.all xs):=s2.ok _ (List.mem_cons_self ..);refine h a w S f (s2.recast' (λb hb=>?_) ?_) k
 .cases xs with
  |nil=>cases hb
  |cons x r=>exact hb
 .rcases hok.2 with ⟨e,e0⟩|⟨g,cap,cur,e,_,hg,hnc,hcm,hcs,ht⟩
  .have:xs=[]:=List.eq_nil_of_length_eq_zero e0;subst this;exact⟨none,0,e,.inl rfl⟩
  .subst e
   cases xs with
   |nil=>exact⟨_,cap,rfl,.inl rfl⟩
   |cons x r=>
    refine⟨_,cap,rfl,.inr ⟨g,0,cur,t,(0,0),rfl,hg,λj u hj=>⟨?_,?_⟩⟩⟩
    .rw[Nat.zero_add];rw[<-ht,List.getElem?_take]at hj;split at hj
     .exact hj
     .cases hj
    .simp
theorem qG{v:Value}{xs:List α}{H':List bD}(hH:bW H (E.held v xs) H')(h:At β n Γ H' (E.sl v xs::F) K):At β n Γ H F K:=λa w S f s k=>by
 have s2:=s.perm hH.perm;have hok:(E.held v xs).ok w:=s2.ok _ (List.mem_cons_self ..);have hsep:=List.pairwise_cons.1 s2.sep;have hown:=s2.own _ (List.mem_cons_self ..);have hmono:All F (λb=>S b\/(E.held v xs).blk=some b) w:=All.mono (λ_ h=> .inl h) (λ_ _=>rfl) k;refine h a w (λb=>S b\/(E.held v xs).blk=some b) f ⟨s2.kept,λc hc=>s2.ok c (List.mem_cons_of_mem _ hc),λc hc b hb=>?_,hsep.2,λb hb=>?_⟩ (All.cons (zM hok λb hb=> .inr hb) hmono)
 .obtain⟨h1,h2,h3⟩:=s2.own c (List.mem_cons_of_mem _ hc) b hb;refine⟨h1,h2,λh=>?_⟩
  rcases h with h|h
  .exact h3 h
  .exact hsep.1 c hc b h hb
 .rcases hb with hb|hb
  .exact s2.zone b hb
  .obtain⟨h1,h2,_⟩:=hown b hb;exact⟨h1,.inr h2⟩
theorem lZ{b:Nat}{cs:List Value}{t:TypeId}{L:List bD}{G:List bC}(h:vZ L G):vZ (.obj b (.cells cs.toArray t)::L) (bC.cells b 0 cs::G):=λS w hok hS=>
 All.cons ⟨hS _ (List.mem_cons_self ..) b rfl,λj u hj=>by
  have h0:w.heap[b]?=some (.cells cs.toArray t):=hok _ (List.mem_cons_self ..);unfold World.cell?;rw[h0]
  simpa using hj⟩ (h S w (λc hc=>hok c (List.mem_cons_of_mem _ hc)) λc hc=>hS c (List.mem_cons_of_mem _ hc))
theorem run_arrFrom(hT:dY P T){t e m sz k:Nat}{ei:TI}(ht:T.get t=some ⟨.array m e,sz⟩)(he:T.get e=some ei){b off:Nat}(hk:k<=m)(kk:IntKind)(w:World):
  (Instr.sliceAt t (.pointer (some ⟨b,off,none⟩)) (some (.int kk (k:Nat))) none none).run P w= .ok (.slice (some ⟨b,if m=k then off else off+k*ei.size,none⟩) (m-k) (m-k)) w:=by
 have ha:(⟨b,off,none⟩:Addr).add (k*ei.size)=⟨b,off+k*ei.size,none⟩:=Addr.add_mid _ _ _;unfold Instr.sliceAt;rw[Sem.run_bind,hT.array ht,Result.andThen_ok]
 have h1:(Instr.sliceBound (.int kk (k:Nat)) m .sliceB).run P w= .ok k w:=by
  rw[run_sliceBound w kk (k:Int) m .sliceB k7 k7,Int.toNat_natCast]
 simp only[Instr.sureAddr,Instr.sliceBounds,Sem.run_bind,Sem.run_pure,Result.andThen_ok,Option.isSome_none,Bool.false_eq_true,if_false,h1,hT.size he,ha]
 by_cases e0:m=k
 .rw[if_pos e0,if_pos e0]
 .rw[if_neg e0,if_neg e0]
theorem sti_arrFrom(hT:dY P T){o:Oper}{t e m sz k b off:Nat}{ei:TI}{x i:Operand}{kk:IntKind}{z:Int}(ho:o.op= .slice t x (some i) none none)(hx:Γ.ev x=some (.pointer (some ⟨b,off,none⟩)))(hi:Γ.ev i=some (.int kk z))
  (ht:T.get t=some ⟨.array m e,sz⟩) (he:T.get e=some ei) (hz:z=(k:Nat)) (hk:k<=m):Sti P β n Γ H F o (.slice (some ⟨b,if m=k then off else off+k*ei.size,none⟩) (m-k) (m-k)):=λa w S f s hF=>by
 subst hz;unfold execOp;simp only[ho,f.ev hx,Option.map_some,Option.map_none,f.ev hi];rw[Sem.run_bind,run_arrFrom hT ht he hk];rfl
end
theorem mono_zero:(prog.info? 111).bind (·.zero)=some (.agg #[.int .i64 0,.int .u8 0,.int .u8 0,.int .u8 0,.int .u8 0,.int .u8 0,.int .u8 0]):=k8
def EI (m:Mono):List Int:=[m.e0.toNat,m.e1.toNat,m.e2.toNat,m.e3.toNat,m.e4.toNat,m.e5.toNat]
def u8I:Flat Int where
 size:=1
 cells:=λx=>[.int .u8 x]
 len:=λ_=>rfl
 one:=λx u hu=>by simp at hu;subst hu;rfl
 pos:=m7
theorem clamp_le(vars:Int):clampK vars<=6:=by unfold clampK;omega
theorem clamp_eq(vars:Int):(if (6:Int)<(if (0:Int)>vars then 0 else vars)then 6 else (if (0:Int)>vars then 0 else vars))=((clampK vars:Nat):Int):=by
 unfold clampK;split<;>split<;>omega
theorem bJu(m:Mono)(vars:Int):((EI m).drop (clampK vars)).length=6-clampK vars:=by
 rw[List.length_drop];rfl
theorem bQf{β:dC}{H H':List bD}{F:List bC}{b:Nat}{t:TypeId}{m:Mono}{k:Nat}(hH:bW H (.obj b (.cells m.cells.toArray t)) H'):dL β H F u8I (some ⟨b,if 6=k then 1 else 1+k*1,none⟩) ((EI m).drop k):=λw S s hF j x hx=>by
 refine⟨⟨b,_,rfl⟩,λq u hq=>?_⟩;have hj:=(List.getElem?_eq_some_iff.1 hx).1;rw[List.length_drop]at hj;have hj:j<6-k:=hj;rw[List.getElem?_drop]at hx
 have h0:=bP (β:=β) (F:=F) (off:=0) hH w S s hF (1+k+j) (.int .u8 x) (by
  show m.cells[1+k+j]?=_;have e:m.cells= .int .i64 m.n::(EI m).map (λz=>Value.int .u8 z):=rfl;rw[e,show 1+k+j=(k+j)+1 by omega,List.getElem?_cons_succ,List.getElem?_map,hx]
  rfl)
 have hq0:q=0:=by
  have:=(List.getElem?_eq_some_iff.1 hq).1;simp[u8I]at this;exact this
 subst hq0;cases hq;show w.cell? ⟨b,(if 6=k then 1 else 1+k*1)+j*1+0,none⟩=_;rw[if_neg k7];rw[show 1+k*1+j*1+0=0+(1+k+j) by omega];exact h0
def okM (k:Nat)(m:Mono):Bool:=(m.E.drop k).all (λe=>e==0)
theorem okM_eq(k:Nat)(m:Mono):okM k m=((EI m).drop k).all (λe=>e==0):=by
 have e:EI m=m.E.map λe=>((e.toNat:Nat):Int):=rfl;unfold okM;rw[e,<-List.map_drop,List.all_map]
 congr 1
 funext u
 rw[Bool.eq_iff_iff];simp[<-UInt8.toNat_inj]
theorem jW{α:Type}{p:α->Bool}{l:List α}{i:Nat}{x:α}(h:(l.take i).all p=true)(hx:l[i]?=some x)(k:p x=true):(l.take (i+1)).all p=true:=by
 obtain⟨hi,e⟩:=List.getElem?_eq_some_iff.1 hx;rw[List.take_succ_eq_append_getElem hi,e,List.all_append,h];simp[k]
theorem pR{α:Type}{p:α->Bool}{l:List α}{i:Nat}(h:(l.take i).all p=true)(hi:l.length<=i):l.all p=true:=by
 rwa[List.take_of_length_le hi]at h
theorem rA{α:Type}{p:α->Bool}{l:List α}{i:Nat}{x:α}(hx:l[i]?=some x)(k:p x=false):l.all p=false:=List.all_eq_false.2 ⟨x,List.mem_of_getElem? hx,by simp[k]⟩
theorem okM_end{k j:Nat}{m:Mono}(h:(((EI m).drop k).take j).all (λe=>e==0)=true)(hj:((EI m).drop k).length<=j):okM k m=true:=by
 rw[okM_eq];exact pR h hj
theorem okM_bad{k j:Nat}{m:Mono}{e:Int}(hx:((EI m).drop k)[j]?=some e)(h:e≠0):okM k m=false:=by
 rw[okM_eq];exact rA hx u4
theorem ei_ge{k j:Nat}{m:Mono}{e:Int}(hx:((EI m).drop k)[j]?=some e):0<=e:=by
 have:=List.mem_of_mem_drop (f5 hx);simp[EI]at this;omega
theorem le_zero{e:Int}(h:e<=0)(k:0<=e):e=0:=k7
theorem of_bad{p:List Mono}{vars:Int}{i:Nat}{m:Mono}(hx:p[i]?=some m)(h:okM (clampK vars) m=false):Value.bool false= .bool (ofB p vars):=by
 unfold ofB;rw[show p.all (λm=>(m.E.drop (clampK vars)).all (λe=>e==0))=false from rA hx h];rfl
theorem of_end{p:List Mono}{vars:Int}(h:p.all (okM (clampK vars))=true):Value.bool (cL p)= .bool (ofB p vars):=by
 unfold ofB;rw[show p.all (λm=>(m.E.drop (clampK vars)).all (λe=>e==0))=true from h];rfl
theorem bBw{l:List (List Mono)}{vars:Int}{i:Nat}{p:List Mono}(hx:l[i]?=some p)(h:(ofB p vars&&iE p)=false):Value.bool false= .bool (gK l vars):=by
 unfold gK;rw[rA hx h];rfl
theorem grow_end{l:List PolV}{vars:Int}(h:(polsL l).all (λp=>ofB p vars&&iE p)=true):Value.bool (decide ((l.length:Int)<=4))= .bool (gK (polsL l) vars):=by
 unfold gK;rw[h,cC,Bool.true_and]
 congr 1
 rw[decide_eq_decide];omega
theorem of_spec(p:PolV)(vars:Int):cE prog 148 [.slice p.addr p.list.length p.cap,.int .i64 vars] [] [fC p] (λ(_:Unit)=> .bool (ofB p.list vars)) (λ_=>[]) (λ_=>[]):=by
 have hT:=dB;refine j2 func148 ntmps148 ?_;intro β hM;refine fT<|bJ (gG d7) λhp=>?_;refine bK (mM.sl (.slice p.addr p.list.length p.cap) p.list) (pQ d7) ?_;refine g13 ?_;refine bU (ι:=Nat) [(0,_),(1,_),(9,_),(10,_)] ⟨rfl,rfl,rfl,rfl,e8⟩ (λi=>[(11,.int .i64 (i:Nat))]) (λ_=>[]) (λi=>[bC.pure (i<=p.list.length/\(p.list.take i).all (okM (clampK vars))=true)]) (λi=>p.list.length-i) 0 ⟨rfl,e8⟩ .nil ⟨e9 (⟨k7,rfl⟩),e8⟩ ?_;rintro i;refine bJ d7 λhinv2=>?_;refine g6 ?_;refine dH (λhc12=>?_) λhc12=>?_
 .refine g6 ?_;obtain⟨x1,hx2⟩:=gx p.list i;refine ss (ixs i) ?_;refine ss (jQ hx2 0) ?_;refine i7 mono_zero λb3=>?_;refine g9 ?_;refine bN (z':=((clampK vars:Nat):Int)) (clamp_eq vars) ?_;have hcl:=clamp_le vars;refine ss (sti_arrFrom hT (k:=clampK vars) rfl rfl rfl rfl rfl rfl (clamp_le vars)) ?_;refine one ?_;refine bN (z':=(((6-clampK vars):Nat):Int)) (rfl) ?_;refine g4 ?_;refine bU (ι:=Nat) [(0,_),(1,_),(9,_),(10,_),(11,_),(19,_),(20,_)] ⟨rfl,rfl,rfl,rfl,rfl,rfl,rfl,e8⟩ (λj=>[(21,.int .i64 (j:Nat))]) (λ_=>[]) (λj=>[bC.pure (j<=6-clampK vars/\(((EI x1).drop (clampK vars)).take j).all (λe=>e==0)=true)]) (λj=>6-clampK vars-j) 0 ⟨rfl,e8⟩ .nil ⟨e9 (⟨k7,rfl⟩),e8⟩ ?_;rintro j;refine bJ d7 λhinv5=>?_;refine g6 ?_;refine dH (λhc22=>?_) λhc22=>?_
  .refine g6 ?_;obtain⟨x4,hx5⟩:=gx ((EI x1).drop (clampK vars)) j ab5;refine ss (bG hT (k:=j) (bQf .head) rfl rfl rfl rfl rfl (bJu x1 vars).symm rfl ab5) ?_;refine ss (i6 hT (dL.knows (bQf .head) (k:=j) (x:=x4) hx5 0)) ?_;refine g9 ?_;refine dH (λhc26=>?_) λhc26=>?_
   .refine g15 ?_;exact rs1 () e8 (he:=of_bad hx2 (okM_bad hx5 k7))
   refine g5 ?_;refine inc (j+1) ?_;refine g3 ?_;exact bk2 (j+1) ⟨e9 (⟨k7,jW hinv5.2 hx5 (beq_iff_eq.2 (le_zero ‹_› (ei_ge hx5)))⟩),e8⟩
  refine g8 ?_;refine inc (i+1) ?_;refine g3 ?_;exact bk2 (i+1) ⟨e9 (⟨k7,jW hinv2.2 hx2 (okM_end hinv5.2 ab5)⟩),e8⟩
 refine g8 ?_;refine f9 func43 (polR_spec p hp) .nil ⟨d9,e8⟩ λ_=>?_;refine g4 ?_;exact rs1 () e8 (he:=of_end (pR hinv2.2 k7))
theorem bOz(l:Sl PolV)(vars:Int):cE prog 80 [.slice l.addr l.list.length l.cap,.int .i64 vars] [] [oL l] (λ(_:Unit)=> .bool (gK (polsL l.list) vars)) (λ_=>[]) (λ_=>[]):=by
 have hT:=dB;refine j2 func80 ntmps80 ?_;intro β hM;refine fT<|bJ (uP d7) λhlz=>?_;have hlz2:=hlz.2;refine bK (iD.sl (.slice l.addr l.list.length l.cap) l.list) (qR d7) ?_;refine g13 ?_;refine bU (ι:=Nat) [(0,_),(1,_),(7,_),(8,_)] ⟨rfl,rfl,rfl,rfl,e8⟩ (λi=>[(9,.int .i64 (i:Nat))]) (λ_=>[]) (λi=>[bC.pure (i<=l.list.length/\((polsL l.list).take i).all (λp=>ofB p vars&&iE p)=true)]) (λi=>l.list.length-i) 0 ⟨rfl,e8⟩ .nil ⟨e9 (⟨k7,rfl⟩),e8⟩ ?_;rintro i;refine bJ d7 λhinv2=>?_;refine g6 ?_;refine dH (λhc10=>?_) λhc10=>?_
 .refine g6 ?_;obtain⟨x1,hx2⟩:=gx l.list i;refine ss (ixs i) ?_;refine ss (fJ hx2 0) ?_;refine g4 ?_;refine bK (fC x1) (Has.each (qO d9) (f5 hx2))<|bJ (gG d7) λhpx1=>?_;refine g3 ?_;refine f9 func148 (of_spec x1 vars) .nil ⟨d7,e8⟩ λ_=>?_;refine g2 ?_;refine bKt (λhg17=>?_) λhg17=>?_
  .refine g18 ?_;exact rs1 () e8 (he:=bBw (dD hx2) (by simp_all))
  refine one ?_;refine f9 func149 (bJw x1 hpx1) .nil ⟨d7,e8⟩ λ_=>?_;refine g4 ?_;refine yQ (λhc21=>?_) λhc21=>?_
  .refine g11 ?_;exact rs1 () e8 (he:=bBw (dD hx2) (by simp_all))
  refine g5 ?_;refine inc (i+1) ?_;refine g3 ?_;exact bk2 (i+1) ⟨e9 (⟨k7,jW hinv2.2 (dD hx2) (by simp_all)⟩),e8⟩
 refine g14 ?_;exact rs1 () e8 (he:=grow_end (pR hinv2.2 o9))
theorem bI{β:dC}{H:List bD}{F:List bC}{b off:Nat}{cs:List Value}(h:Has F (bC.cells b 0 cs)):nE β H F b off (cs.drop off):=λw S _ k j u hj=>by
 rw[List.getElem?_drop]at hj;have:=(h S w k).2 (off+j) u hj
 rwa[Nat.zero_add]at this
def opV (vars loops buf:Int)(made:List Bool)(o:OpV):Bool:=
 if o.how=1 then (o.k==0)&&(((o.p.list.length:Int)==0)&&(o.fn==0))
 else if o.how=2 then ofB o.p.list vars&&((o.n==0)&&((o.k==0)&&(o.fn==0)))
 else if o.how=3 then decide (0<=o.k)&&(decide (o.k<loops)&&((o.n==0)&&(((o.p.list.length:Int)==0)&&(o.fn==0))))
 else if o.how=4 then decide (0<=o.k)&&(decide (o.k<(made.length:Int))&&((made[o.k.toNat]?).getD false&&((o.k !=buf)&&((o.n==0)&&(((o.p.list.length:Int)==0)&&(o.fn==0))))))
 else if o.how=5\/o.how=6 then fX o.fn (o.how==6)&&((o.n==0)&&((o.k==0)&&((o.p.list.length:Int)==0)))
 else false
theorem wG{vars loops buf:Int}{made:List Bool}{o:OpV}:opV vars loops buf made o=opB vars loops buf made o.c:=by
 have hp:o.c.p.isEmpty=((o.p.list.length:Int)==0):=by
  show o.p.list.isEmpty=_;rw[Bool.eq_iff_iff,List.isEmpty_iff,beq_iff_eq,Int.natCast_eq_zero,List.length_eq_zero_iff]
 unfold opV opB;rw[hp];show(if o.how=1 then _ else if o.how=2 then _ else if o.how=3 then _ else if o.how=4 then _ else if _ then _ else _)=(if o.how=1 then _ else if o.how=2 then _ else if o.how=3 then _ else if o.how=4 then _ else if _ then _ else _);split
 .rfl
 .split
  .rfl
  .split
   .rw[Bool.eq_iff_iff];simp only[Bool.and_eq_true,decide_eq_true_eq];exact and_assoc.symm
   .split
    .rw[Bool.eq_iff_iff];simp only[Bool.and_eq_true,decide_eq_true_eq,List.getD_eq_getElem?_getD,bne_iff_ne];show 0<=o.k/\o.k<made.length/\(made[o.k.toNat]?).getD false=true/\o.k≠buf/\_↔(0<=o.k/\o.k≠buf)/\(made[o.k.toNat]?).getD false=true/\_;constructor
     .rintro⟨a,_,c,d,e⟩;exact⟨⟨a,d⟩,c,e⟩
     .rintro⟨⟨a,d⟩,c,e⟩;refine⟨a,?_,c,d,e⟩
      rcases Int.lt_or_le o.k made.length with h|h
      .exact h
      .rw[List.getElem?_eq_none k7]at c;cases c
    .rfl
section
variable {vars loops buf : Int} {made : List Bool} {o : OpV}
theorem dN(h:o.how=1):opB vars loops buf made o.c=((o.k==0)&&(((o.p.list.length:Int)==0)&&(o.fn==0))):=by
 rw[<-wG];unfold opV;rw[if_pos h]
theorem dO(h:o.how=2):opB vars loops buf made o.c=(ofB o.p.list vars&&((o.n==0)&&((o.k==0)&&(o.fn==0)))):=by
 rw[<-wG];unfold opV;rw[if_neg k7,if_pos h]
theorem dQ(h:o.how=3):opB vars loops buf made o.c=(decide (0<=o.k)&&(decide (o.k<loops)&&((o.n==0)&&(((o.p.list.length:Int)==0)&&(o.fn==0))))):=by
 rw[<-wG];unfold opV;rw[if_neg k7,if_neg k7,if_pos h]
theorem dK{x:Bool}(h:o.how=4)(hx:made[o.k.toNat]?=some x):opB vars loops buf made o.c=(decide (0<=o.k)&&(decide (o.k<(made.length:Int))&&(x&&((o.k !=buf)&&((o.n==0)&&(((o.p.list.length:Int)==0)&&(o.fn==0))))))):=by
 rw[<-wG];unfold opV;rw[if_neg k7,if_neg k7,if_neg k7,if_pos h,hx];rfl
theorem cS(h:o.how=4)(hx: ¬(0<=o.k/\o.k<made.length)):opB vars loops buf made o.c=false:=by
 rw[<-wG];unfold opV;rw[if_neg k7,if_neg k7,if_neg k7,if_pos h]
 by_cases h0:0<=o.k
 .rw[decide_eq_false (show ¬o.k<(made.length:Int)from λe=>hx ⟨h0,e⟩)];simp
 .rw[decide_eq_false h0];rfl
theorem dP(h:o.how=5):opB vars loops buf made o.c=(fX o.fn false&&((o.n==0)&&((o.k==0)&&((o.p.list.length:Int)==0)))):=by
 rw[<-wG];unfold opV;rw[if_neg k7,if_neg k7,if_neg k7,if_neg k7,if_pos (.inl h),h];rfl
theorem dM(h:o.how=6):opB vars loops buf made o.c=(fX o.fn true&&((o.n==0)&&((o.k==0)&&((o.p.list.length:Int)==0)))):=by
 rw[<-wG];unfold opV;rw[if_neg k7,if_neg k7,if_neg k7,if_neg k7,if_pos (.inr h),h];rfl
theorem dR(h1:o.how≠1)(h2:o.how≠2)(h3:o.how≠3)(h4:o.how≠4)(h5:o.how≠5)(h6:o.how≠6):opB vars loops buf made o.c=false:=by
 rw[<-wG];unfold opV;rw[if_neg h1,if_neg h2,if_neg h3,if_neg h4,if_neg (λh=>h.elim h5 h6)]
end
def pF {α:Type}(p:α->Bool):List α->Int->Int
 |[],_=> -1
 |s::r,i=>if p s=true then i else pF p r (i+1)
section
variable {α : Type} {p : α -> Bool} {x : α} {l : List α} {i : Nat} {r : Int}
theorem nL(h:r=pF p (l.drop i) i)(hx:l[i]?=some x):(p x=true->r=i)/\(p x=false->r=pF p (l.drop (i+1)) ((i+1:Nat):Int)):=by
 rw[lC hx,pF]at h;refine⟨λe=>by rw[if_pos e]at h;exact h,λe=>by rw[if_neg (by rw[e];simp)]at h;rw[h];rfl⟩
theorem bBq(h:r=pF p (l.drop i) i)(hi:l.length<=i):r= -1:=by
 rw[List.drop_of_length_le hi]at h;exact h
end
theorem bCp{α:Type}(p:α->Bool): ∀(l:List α) (i:Int),0<=i->decide (0<=pF p l i)=l.any p
 |[],i,_=>rfl
 |s::r,i,h=>by
  rw[pF,List.any_cons]
  cases e:p s with
  |true=>simp[h]
  |false=>
   rw[if_neg m9,bCp p r (i+1) k7];simp
def qH (vars:Int)(made:List Bool)(x:fW):Bool:=
 ofB x.at_.list vars&&(iE x.at_.list&&(gK (polsL x.loops.list) vars&&(!decide ((256:Int)<x.ops.list.length)&&(!decide (kL (opsL x.ops.list)<0)&&
  ((if x.how=1 then x.fn==0 else if x.how=2\/x.how=3 then !((x.loops.list.length:Int)==0)&&fX x.fn true else false)&& !(x.ops.list.any λo=>!opB vars x.loops.list.length x.buf made o.c))))))
theorem any_not{α:Type}(p:α->Bool)(l:List α):(!l.any λo=>!p o)=l.all p:=by
 induction l with
 |nil=>rfl
 |cons x r ih=>rw[List.any_cons,List.all_cons,Bool.not_or,Bool.not_not,ih]
theorem jC{vars:Int}{made:List Bool}{x:fW}:qH vars made x=lD vars made x.c:=by
 have h1:x.c.ops.length=x.ops.list.length:=fV _;have h2:x.c.loops.length=x.loops.list.length:=cC _
 have h3:x.c.loops.isEmpty=((x.loops.list.length:Int)==0):=by
  show(polsL x.loops.list).isEmpty=_;rw[Bool.eq_iff_iff,List.isEmpty_iff,beq_iff_eq,Int.natCast_eq_zero,<-List.length_eq_zero_iff,cC]
 have h4: ∀p:OpC->Bool,x.c.ops.all p= !(x.ops.list.any λo=>!p o.c):=λp=>by
  show(opsL x.ops.list).all p=_;unfold opsL;rw[List.all_map,any_not];rfl
 unfold qH lD;rw[h1,h2,h3,h4]
 have h5:(!decide ((256:Int)<x.ops.list.length))=decide (x.ops.list.length<=256):=by
  rw[<-decide_not,decide_eq_decide];omega
 have h6:(!decide (kL (opsL x.ops.list)<0))=decide (0<=kL (opsL x.ops.list)):=by
  rw[<-decide_not,decide_eq_decide];omega
 rw[h5,h6,Bool.and_assoc];rfl
theorem right_spec(bs:Nat)(vars loops buf:Int)(MA:Option Addr)(mc:Nat)(made:List Bool)(o:OpV):cE prog 152 [.pointer (some ⟨bs,0,none⟩),.agg #[.int .i64 o.how,.int .i64 o.k,.int .i64 o.n,.slice o.p.addr o.p.list.length o.p.cap,.int .u8 o.fn]] [] [opF o,bC.cells bs 0 [.int .i64 vars,.int .i64 loops,.int .i64 buf,.slice MA made.length mc],iT.sl (.slice MA made.length mc) made] (λ(_:Unit)=> .bool (opB vars loops buf made o.c)) (λ_=>[]) (λ_=>[]):=by
 have hT:=dB;refine j2 func152 ntmps152 ?_;intro β hM;refine g2 ?_;refine j0 λb1=>?_;refine g4 ?_;refine dS _ _ [(true,0),(true,1),(true,2),(true,3),(true,4),(true,5),(true,6),(true,7),(true,8),(true,9),(true,10),(true,11)] dW l8 (.c0 .nil) bA.self ?_;refine g33 ?_;refine cG rfl (λhc20=>?_) (λhc20=>?_)
 .have hc20_r:=hc20;have hc20:=eq_of_beq hc20;refine g12 ?_;refine bS (t':=true) m7 ?_;refine g6 ?_;refine cD (λhg97=>?_) (λhg97=>?_)
  .have hg97:=eq_of_beq hg97;refine g5 ?_;refine cD (λhg102=>?_) (λhg102=>?_)
   .have hg102:=eq_of_beq hg102;refine g7 ?_;exact rs1 () e8 (he:=by first|(rw[dN ‹_›];simp[*];done)|(rw[dO ‹_›];simp[*];done)|(rw[dQ ‹_›];simp[*];done)|(rw[dK ‹_› ‹_›];simp[*];done)|(rw[cS ‹_› k7];done)|(rw[dP ‹_›];simp[*];done)|(rw[dM ‹_›];simp[*];done)|rw[dR ‹_› ‹_› ‹_› ‹_› ‹_› ‹_›])
   have hg102:=beq_eq_false_iff_ne.1 hg102;refine g7 ?_;exact rs1 () e8 (he:=by first|(rw[dN ‹_›];simp[*];done)|(rw[dO ‹_›];simp[*];done)|(rw[dQ ‹_›];simp[*];done)|(rw[dK ‹_› ‹_›];simp[*];done)|(rw[cS ‹_› k7];done)|(rw[dP ‹_›];simp[*];done)|(rw[dM ‹_›];simp[*];done)|rw[dR ‹_› ‹_› ‹_› ‹_› ‹_› ‹_›])
  have hg97:=beq_eq_false_iff_ne.1 hg97;refine g12 ?_;exact rs1 () e8 (he:=by first|(rw[dN ‹_›];simp[*];done)|(rw[dO ‹_›];simp[*];done)|(rw[dQ ‹_›];simp[*];done)|(rw[dK ‹_› ‹_›];simp[*];done)|(rw[cS ‹_› k7];done)|(rw[dP ‹_›];simp[*];done)|(rw[dM ‹_›];simp[*];done)|rw[dR ‹_› ‹_› ‹_› ‹_› ‹_› ‹_›])
 have hc20_r:=hc20;have hc20:=beq_eq_false_iff_ne.1 hc20;refine g6 ?_;refine cG rfl (λhc22=>?_) (λhc22=>?_)
 .have hc22_r:=hc22;have hc22:=eq_of_beq hc22;refine dS _ _ [(true,0),(true,1),(true,2),(true,3),(true,4),(true,5),(false,6),(true,7),(true,8)] dW l8 (.c0 .nil) bA.self ?_;refine g5 ?_;refine stM rfl (i6 hT (bI (off:=0) d8)) ?_;refine one ?_;refine f9 func148 (of_spec o.p vars) .nil ⟨d7,e8⟩ λ_=>?_;refine g10 ?_;refine cD (λhg89=>?_) (λhg89=>?_)
  .refine g4 ?_;refine cD (λhg93=>?_) (λhg93=>?_)
   .have hg93:=eq_of_beq hg93;refine g4 ?_;refine cD (λhg97=>?_) (λhg97=>?_)
    .have hg97:=eq_of_beq hg97;refine g3 ?_;refine bS (t':=true) m7 ?_;refine g9 ?_;exact rs1 () e8 (he:=by first|(rw[dN ‹_›];simp[*];done)|(rw[dO ‹_›];simp[*];done)|(rw[dQ ‹_›];simp[*];done)|(rw[dK ‹_› ‹_›];simp[*];done)|(rw[cS ‹_› k7];done)|(rw[dP ‹_›];simp[*];done)|(rw[dM ‹_›];simp[*];done)|rw[dR ‹_› ‹_› ‹_› ‹_› ‹_› ‹_›])
    have hg97:=beq_eq_false_iff_ne.1 hg97;refine g12 ?_;exact rs1 () e8 (he:=by first|(rw[dN ‹_›];simp[*];done)|(rw[dO ‹_›];simp[*];done)|(rw[dQ ‹_›];simp[*];done)|(rw[dK ‹_› ‹_›];simp[*];done)|(rw[cS ‹_› k7];done)|(rw[dP ‹_›];simp[*];done)|(rw[dM ‹_›];simp[*];done)|rw[dR ‹_› ‹_› ‹_› ‹_› ‹_› ‹_›])
   have hg93:=beq_eq_false_iff_ne.1 hg93;refine g16 ?_;exact rs1 () e8 (he:=by first|(rw[dN ‹_›];simp[*];done)|(rw[dO ‹_›];simp[*];done)|(rw[dQ ‹_›];simp[*];done)|(rw[dK ‹_› ‹_›];simp[*];done)|(rw[cS ‹_› k7];done)|(rw[dP ‹_›];simp[*];done)|(rw[dM ‹_›];simp[*];done)|rw[dR ‹_› ‹_› ‹_› ‹_› ‹_› ‹_›])
  refine g20 ?_;exact rs1 () e8 (he:=by first|(rw[dN ‹_›];simp[*];done)|(rw[dO ‹_›];simp[*];done)|(rw[dQ ‹_›];simp[*];done)|(rw[dK ‹_› ‹_›];simp[*];done)|(rw[cS ‹_› k7];done)|(rw[dP ‹_›];simp[*];done)|(rw[dM ‹_›];simp[*];done)|rw[dR ‹_› ‹_› ‹_› ‹_› ‹_› ‹_›])
 have hc22_r:=hc22;have hc22:=beq_eq_false_iff_ne.1 hc22;refine g6 ?_;refine cG rfl (λhc31=>?_) (λhc31=>?_)
 .have hc31_r:=hc31;have hc31:=eq_of_beq hc31;refine dS _ _ [(true,0),(true,1),(true,2),(true,3),(true,4),(true,5),(true,6),(true,7),(true,8),(true,9),(true,10),(true,11),(true,12),(true,13)] dW l8 (.c0 .nil) bA.self ?_;refine g4 ?_;refine cD (λhg36=>?_) (λhg36=>?_)
  .have hg36:=of_decide_eq_true hg36;refine g5 ?_;refine stM rfl (i6 hT (bI (off:=1) d8)) ?_;refine g11 ?_;refine cD (λhg89=>?_) (λhg89=>?_)
   .have hg89:=of_decide_eq_true hg89;refine g4 ?_;refine cD (λhg93=>?_) (λhg93=>?_)
    .have hg93:=eq_of_beq hg93;refine g2 ?_;refine bS (t':=true) m7 ?_;refine g7 ?_;refine cD (λhg102=>?_) (λhg102=>?_)
     .have hg102:=eq_of_beq hg102;refine g7 ?_;exact rs1 () e8 (he:=by first|(rw[dN ‹_›];simp[*];done)|(rw[dO ‹_›];simp[*];done)|(rw[dQ ‹_›];simp[*];done)|(rw[dK ‹_› ‹_›];simp[*];done)|(rw[cS ‹_› k7];done)|(rw[dP ‹_›];simp[*];done)|(rw[dM ‹_›];simp[*];done)|rw[dR ‹_› ‹_› ‹_› ‹_› ‹_› ‹_›])
     have hg102:=beq_eq_false_iff_ne.1 hg102;refine g7 ?_;exact rs1 () e8 (he:=by first|(rw[dN ‹_›];simp[*];done)|(rw[dO ‹_›];simp[*];done)|(rw[dQ ‹_›];simp[*];done)|(rw[dK ‹_› ‹_›];simp[*];done)|(rw[cS ‹_› k7];done)|(rw[dP ‹_›];simp[*];done)|(rw[dM ‹_›];simp[*];done)|rw[dR ‹_› ‹_› ‹_› ‹_› ‹_› ‹_›])
    have hg93:=beq_eq_false_iff_ne.1 hg93;refine g16 ?_;exact rs1 () e8 (he:=by first|(rw[dN ‹_›];simp[*];done)|(rw[dO ‹_›];simp[*];done)|(rw[dQ ‹_›];simp[*];done)|(rw[dK ‹_› ‹_›];simp[*];done)|(rw[cS ‹_› k7];done)|(rw[dP ‹_›];simp[*];done)|(rw[dM ‹_›];simp[*];done)|rw[dR ‹_› ‹_› ‹_› ‹_› ‹_› ‹_›])
   have hg89:=Int.not_lt.1 (of_decide_eq_false hg89);refine g20 ?_;exact rs1 () e8 (he:=by first|(rw[dN ‹_›];simp[*];done)|(rw[dO ‹_›];simp[*];done)|(rw[dQ ‹_›];simp[*];done)|(rw[dK ‹_› ‹_›];simp[*];done)|(rw[cS ‹_› k7];done)|(rw[dP ‹_›];simp[*];done)|(rw[dM ‹_›];simp[*];done)|rw[dR ‹_› ‹_› ‹_› ‹_› ‹_› ‹_›])
  have hg36:=Int.not_le.1 (of_decide_eq_false hg36);refine g37 ?_;exact rs1 () e8 (he:=by first|(rw[dN ‹_›];simp[*];done)|(rw[dO ‹_›];simp[*];done)|(rw[dQ ‹_›];simp[*];done)|(rw[dK ‹_› ‹_›];simp[*];done)|(rw[cS ‹_› k7];done)|(rw[dP ‹_›];simp[*];done)|(rw[dM ‹_›];simp[*];done)|rw[dR ‹_› ‹_› ‹_› ‹_› ‹_› ‹_›])
 have hc31_r:=hc31;have hc31:=beq_eq_false_iff_ne.1 hc31;refine g6 ?_;refine cG rfl (λhc45=>?_) (λhc45=>?_)
 .have hc45_r:=hc45;have hc45:=eq_of_beq hc45;refine dS _ _ [(true,0),(true,1),(true,2),(true,3),(true,4),(true,5),(true,6),(true,7),(true,8),(true,9),(true,10),(true,11),(true,12),(true,13),(true,14),(true,15),(true,16),(true,17),(true,18),(true,19),(true,20),(true,21),(true,22),(true,23),(true,24),(true,25),(true,26),(true,27),(true,28),(true,29),(true,30),(true,31),(true,32),(true,33)] dW l8 (.c0 .nil) bA.self ?_;refine g4 ?_;refine cD (λhg50=>?_) (λhg50=>?_)
  .have hg50:=of_decide_eq_true hg50;refine g5 ?_;refine stM rfl (i6 hT (bI (off:=3) d8)) ?_;refine g4 ?_;refine cD (λhg60=>?_) (λhg60=>?_)
   .have hg60:=of_decide_eq_true hg60;refine g3 ?_;refine stM rfl (i6 hT (bI (off:=3) d8)) ?_;refine g2 ?_;obtain⟨x3,hx4⟩:=gx made o.k.toNat;refine stM rfl (bG hT (k:=o.k.toNat) (bR d9) rfl rfl rfl rfl rfl rfl k7 k7) ?_;refine stM rfl (fJ hx4 0) ?_;refine g2 ?_;refine cD (λhg70=>?_) (λhg70=>?_)
    .refine g5 ?_;refine stM rfl (i6 hT (bI (off:=2) d8)) ?_;refine g11 ?_;refine cD (λhg89=>?_) (λhg89=>?_)
     .have hg89:=bne_iff_ne.1 hg89;refine g4 ?_;refine cD (λhg93=>?_) (λhg93=>?_)
      .have hg93:=eq_of_beq hg93;refine g2 ?_;refine bS (t':=true) m7 ?_;refine g7 ?_;refine cD (λhg102=>?_) (λhg102=>?_)
       .have hg102:=eq_of_beq hg102;refine g7 ?_;exact rs1 () e8 (he:=by first|(rw[dN ‹_›];simp[*];done)|(rw[dO ‹_›];simp[*];done)|(rw[dQ ‹_›];simp[*];done)|(rw[dK ‹_› ‹_›];simp[*];done)|(rw[cS ‹_› k7];done)|(rw[dP ‹_›];simp[*];done)|(rw[dM ‹_›];simp[*];done)|rw[dR ‹_› ‹_› ‹_› ‹_› ‹_› ‹_›])
       have hg102:=beq_eq_false_iff_ne.1 hg102;refine g7 ?_;exact rs1 () e8 (he:=by first|(rw[dN ‹_›];simp[*];done)|(rw[dO ‹_›];simp[*];done)|(rw[dQ ‹_›];simp[*];done)|(rw[dK ‹_› ‹_›];simp[*];done)|(rw[cS ‹_› k7];done)|(rw[dP ‹_›];simp[*];done)|(rw[dM ‹_›];simp[*];done)|rw[dR ‹_› ‹_› ‹_› ‹_› ‹_› ‹_›])
      have hg93:=beq_eq_false_iff_ne.1 hg93;refine g16 ?_;exact rs1 () e8 (he:=by first|(rw[dN ‹_›];simp[*];done)|(rw[dO ‹_›];simp[*];done)|(rw[dQ ‹_›];simp[*];done)|(rw[dK ‹_› ‹_›];simp[*];done)|(rw[cS ‹_› k7];done)|(rw[dP ‹_›];simp[*];done)|(rw[dM ‹_›];simp[*];done)|rw[dR ‹_› ‹_› ‹_› ‹_› ‹_› ‹_›])
     have hg89:=bne_eq_false_iff_eq.1 hg89;refine g20 ?_;exact rs1 () e8 (he:=by first|(rw[dN ‹_›];simp[*];done)|(rw[dO ‹_›];simp[*];done)|(rw[dQ ‹_›];simp[*];done)|(rw[dK ‹_› ‹_›];simp[*];done)|(rw[cS ‹_› k7];done)|(rw[dP ‹_›];simp[*];done)|(rw[dM ‹_›];simp[*];done)|rw[dR ‹_› ‹_› ‹_› ‹_› ‹_› ‹_›])
    refine g37 ?_;exact rs1 () e8 (he:=by first|(rw[dN ‹_›];simp[*];done)|(rw[dO ‹_›];simp[*];done)|(rw[dQ ‹_›];simp[*];done)|(rw[dK ‹_› ‹_›];simp[*];done)|(rw[cS ‹_› k7];done)|(rw[dP ‹_›];simp[*];done)|(rw[dM ‹_›];simp[*];done)|rw[dR ‹_› ‹_› ‹_› ‹_› ‹_› ‹_›])
   have hg60:=Int.not_lt.1 (of_decide_eq_false hg60);refine g40 ?_;refine g7 ?_;exact rs1 () e8 (he:=by first|(rw[dN ‹_›];simp[*];done)|(rw[dO ‹_›];simp[*];done)|(rw[dQ ‹_›];simp[*];done)|(rw[dK ‹_› ‹_›];simp[*];done)|(rw[cS ‹_› k7];done)|(rw[dP ‹_›];simp[*];done)|(rw[dM ‹_›];simp[*];done)|rw[dR ‹_› ‹_› ‹_› ‹_› ‹_› ‹_›])
  have hg50:=Int.not_le.1 (of_decide_eq_false hg50);refine g40 ?_;refine g17 ?_;exact rs1 () e8 (he:=by first|(rw[dN ‹_›];simp[*];done)|(rw[dO ‹_›];simp[*];done)|(rw[dQ ‹_›];simp[*];done)|(rw[dK ‹_› ‹_›];simp[*];done)|(rw[cS ‹_› k7];done)|(rw[dP ‹_›];simp[*];done)|(rw[dM ‹_›];simp[*];done)|rw[dR ‹_› ‹_› ‹_› ‹_› ‹_› ‹_›])
 have hc45_r:=hc45;have hc45:=beq_eq_false_iff_ne.1 hc45;refine g7 ?_;refine cG rfl (λhc79=>?_) (λhc79=>?_)
 .have hc79_r:=hc79;have hc79:=eq_of_beq hc79;refine g2 ?_;refine kP rfl hc79_r ?_;refine g6 ?_;refine bS (t':=false) (by rw[hc79];rfl) ?_;refine f9 func100 (sX _ _) .nil e8 λ_=>?_;refine g9 ?_;refine cD (λhg89=>?_) (λhg89=>?_)
  .refine g4 ?_;refine cD (λhg93=>?_) (λhg93=>?_)
   .have hg93:=eq_of_beq hg93;refine g4 ?_;refine cD (λhg97=>?_) (λhg97=>?_)
    .have hg97:=eq_of_beq hg97;refine g5 ?_;refine cD (λhg102=>?_) (λhg102=>?_)
     .have hg102:=eq_of_beq hg102;refine g2 ?_;refine bS (t':=true) m7 ?_;refine g5 ?_;exact rs1 () e8 (he:=by first|(rw[dN ‹_›];simp[*];done)|(rw[dO ‹_›];simp[*];done)|(rw[dQ ‹_›];simp[*];done)|(rw[dK ‹_› ‹_›];simp[*];done)|(rw[cS ‹_› k7];done)|(rw[dP ‹_›];simp[*];done)|(rw[dM ‹_›];simp[*];done)|rw[dR ‹_› ‹_› ‹_› ‹_› ‹_› ‹_›])
     have hg102:=beq_eq_false_iff_ne.1 hg102;refine g7 ?_;exact rs1 () e8 (he:=by first|(rw[dN ‹_›];simp[*];done)|(rw[dO ‹_›];simp[*];done)|(rw[dQ ‹_›];simp[*];done)|(rw[dK ‹_› ‹_›];simp[*];done)|(rw[cS ‹_› k7];done)|(rw[dP ‹_›];simp[*];done)|(rw[dM ‹_›];simp[*];done)|rw[dR ‹_› ‹_› ‹_› ‹_› ‹_› ‹_›])
    have hg97:=beq_eq_false_iff_ne.1 hg97;refine g12 ?_;exact rs1 () e8 (he:=by first|(rw[dN ‹_›];simp[*];done)|(rw[dO ‹_›];simp[*];done)|(rw[dQ ‹_›];simp[*];done)|(rw[dK ‹_› ‹_›];simp[*];done)|(rw[cS ‹_› k7];done)|(rw[dP ‹_›];simp[*];done)|(rw[dM ‹_›];simp[*];done)|rw[dR ‹_› ‹_› ‹_› ‹_› ‹_› ‹_›])
   have hg93:=beq_eq_false_iff_ne.1 hg93;refine g16 ?_;exact rs1 () e8 (he:=by first|(rw[dN ‹_›];simp[*];done)|(rw[dO ‹_›];simp[*];done)|(rw[dQ ‹_›];simp[*];done)|(rw[dK ‹_› ‹_›];simp[*];done)|(rw[cS ‹_› k7];done)|(rw[dP ‹_›];simp[*];done)|(rw[dM ‹_›];simp[*];done)|rw[dR ‹_› ‹_› ‹_› ‹_› ‹_› ‹_›])
  refine g20 ?_;exact rs1 () e8 (he:=by first|(rw[dN ‹_›];simp[*];done)|(rw[dO ‹_›];simp[*];done)|(rw[dQ ‹_›];simp[*];done)|(rw[dK ‹_› ‹_›];simp[*];done)|(rw[cS ‹_› k7];done)|(rw[dP ‹_›];simp[*];done)|(rw[dM ‹_›];simp[*];done)|rw[dR ‹_› ‹_› ‹_› ‹_› ‹_› ‹_›])
 have hc79_r:=hc79;have hc79:=beq_eq_false_iff_ne.1 hc79;refine g5 ?_;refine cG rfl (λhc79_5=>?_) (λhc79_5=>?_)
 .have hc79_5_r:=hc79_5;have hc79_5:=eq_of_beq hc79_5;refine g6 ?_;refine bS (t':=true) (by rw[hc79_5];rfl) ?_;refine f9 func100 (sX _ _) .nil e8 λ_=>?_;refine g9 ?_;refine cD (λhg89=>?_) (λhg89=>?_)
  .refine g4 ?_;refine cD (λhg93=>?_) (λhg93=>?_)
   .have hg93:=eq_of_beq hg93;refine g4 ?_;refine cD (λhg97=>?_) (λhg97=>?_)
    .have hg97:=eq_of_beq hg97;refine g5 ?_;refine cD (λhg102=>?_) (λhg102=>?_)
     .have hg102:=eq_of_beq hg102;refine g2 ?_;refine bS (t':=true) m7 ?_;refine g5 ?_;exact rs1 () e8 (he:=by first|(rw[dN ‹_›];simp[*];done)|(rw[dO ‹_›];simp[*];done)|(rw[dQ ‹_›];simp[*];done)|(rw[dK ‹_› ‹_›];simp[*];done)|(rw[cS ‹_› k7];done)|(rw[dP ‹_›];simp[*];done)|(rw[dM ‹_›];simp[*];done)|rw[dR ‹_› ‹_› ‹_› ‹_› ‹_› ‹_›])
     have hg102:=beq_eq_false_iff_ne.1 hg102;refine g7 ?_;exact rs1 () e8 (he:=by first|(rw[dN ‹_›];simp[*];done)|(rw[dO ‹_›];simp[*];done)|(rw[dQ ‹_›];simp[*];done)|(rw[dK ‹_› ‹_›];simp[*];done)|(rw[cS ‹_› k7];done)|(rw[dP ‹_›];simp[*];done)|(rw[dM ‹_›];simp[*];done)|rw[dR ‹_› ‹_› ‹_› ‹_› ‹_› ‹_›])
    have hg97:=beq_eq_false_iff_ne.1 hg97;refine g12 ?_;exact rs1 () e8 (he:=by first|(rw[dN ‹_›];simp[*];done)|(rw[dO ‹_›];simp[*];done)|(rw[dQ ‹_›];simp[*];done)|(rw[dK ‹_› ‹_›];simp[*];done)|(rw[cS ‹_› k7];done)|(rw[dP ‹_›];simp[*];done)|(rw[dM ‹_›];simp[*];done)|rw[dR ‹_› ‹_› ‹_› ‹_› ‹_› ‹_›])
   have hg93:=beq_eq_false_iff_ne.1 hg93;refine g16 ?_;exact rs1 () e8 (he:=by first|(rw[dN ‹_›];simp[*];done)|(rw[dO ‹_›];simp[*];done)|(rw[dQ ‹_›];simp[*];done)|(rw[dK ‹_› ‹_›];simp[*];done)|(rw[cS ‹_› k7];done)|(rw[dP ‹_›];simp[*];done)|(rw[dM ‹_›];simp[*];done)|rw[dR ‹_› ‹_› ‹_› ‹_› ‹_› ‹_›])
  refine g20 ?_;exact rs1 () e8 (he:=by first|(rw[dN ‹_›];simp[*];done)|(rw[dO ‹_›];simp[*];done)|(rw[dQ ‹_›];simp[*];done)|(rw[dK ‹_› ‹_›];simp[*];done)|(rw[cS ‹_› k7];done)|(rw[dP ‹_›];simp[*];done)|(rw[dM ‹_›];simp[*];done)|rw[dR ‹_› ‹_› ‹_› ‹_› ‹_› ‹_›])
 have hc79_5_r:=hc79_5;have hc79_5:=beq_eq_false_iff_ne.1 hc79_5;refine g27 ?_;exact rs1 () e8 (he:=by first|(rw[dN ‹_›];simp[*];done)|(rw[dO ‹_›];simp[*];done)|(rw[dQ ‹_›];simp[*];done)|(rw[dK ‹_› ‹_›];simp[*];done)|(rw[cS ‹_› k7];done)|(rw[dP ‹_›];simp[*];done)|(rw[dM ‹_›];simp[*];done)|rw[dR ‹_› ‹_› ‹_› ‹_› ‹_› ‹_›])
theorem bAp(bp:Nat)(bs:Nat)(vars loops buf:Int)(MA:Option Addr)(mc:Nat)(made:List Bool)(o:OpV):cE prog 151 [.agg #[.int .i64 o.how,.int .i64 o.k,.int .i64 o.n,.slice o.p.addr o.p.list.length o.p.cap,.int .u8 o.fn],.pointer (some ⟨bp,0,none⟩)] [] [opF o,bC.cells bp 0 [.pointer (some ⟨bs,0,none⟩)],bC.cells bs 0 [.int .i64 vars,.int .i64 loops,.int .i64 buf,.slice MA made.length mc],iT.sl (.slice MA made.length mc) made] (λ(_:Unit)=> .bool (!opB vars loops buf made o.c)) (λ_=>[]) (λ_=>[]):=by
 have hT:=dB;refine j2 func151 ntmps151 ?_;intro β hM;refine g2 ?_;refine j0 λb1=>?_;refine g5 ?_;refine ss (i6 hT (bI (off:=0) d8)) ?_;refine one ?_;refine f9 func152 (right_spec bs vars loops buf MA mc made o) .nil ⟨d7,d9,e6,e8⟩ λ_=>?_;refine g5 ?_;exact rs1 () trivial
theorem indexFO_spec(A:Option Addr)(c:Nat)(l:List OpV)(hl:l.length<=140737488355328)(f:FuncId)(cap:List Value)(G:List bC)(p:OpV->Bool)(hcf: ∀(args:Array Value) (w:World),(callFunc f args).run prog w= .ok (.enter f args) w)(hf: ∀o:OpV,cE prog f (.agg #[.int .i64 o.how,.int .i64 o.k,.int .i64 o.n,.slice o.p.addr o.p.list.length o.p.cap,.int .u8 o.fn]::cap) [] (opF o::G) (λ_:Unit=> .bool (p o)) (λ_=>[]) (λ_=>[])):cE prog 212 [.slice A l.length c,.func (.func f) #[] cap.toArray] [] (opE.sl (.slice A l.length c) l::bC.each l opF::G) (λ(_:Unit)=> .int .i64 (pF p l 0)) (λ_=>[]) (λ_=>[]):=by
 have hT:=dB;generalize hR:pF p l 0=r;refine j2 func212 ntmps212 ?_;intro β hM;refine g14 ?_;refine bU (ι:=Nat) [(0,_),(1,_),(7,_)] ⟨rfl,rfl,rfl,e8⟩ (λi=>[(8,.int .i64 (i:Nat))]) (λ_=>[]) (λi=>[bC.pure (i<=l.length/\r=pF p (l.drop i) i)]) (λi=>l.length-i) 0 ⟨rfl,e8⟩ .nil ⟨e9 (⟨k7,hR.symm⟩),e8⟩ ?_;rintro i;refine bJ d7 λhinv2=>?_;refine g6 ?_;refine dH (λhc9=>?_) λhc9=>?_
 .refine g15 ?_;obtain⟨x1,hx2⟩:=gx l i;refine ss (ixs i) ?_;refine ss (jQ hx2 0) ?_;refine lJ hcf (hf x1) rfl rfl rfl rfl rfl rfl rfl .nil ⟨Has.each d9 (f5 hx2),bA.drop 3⟩ λ_=>?_;refine g2 ?_;refine yS (λhc16=>?_) λhc16=>?_
  .refine g12 ?_;obtain rfl:=(nL hinv2.2 hx2).1 ‹_›;exact rs1 () trivial
  refine g5 ?_;refine inc (i+1) ?_;refine g3 ?_;exact bk2 (i+1) ⟨e9 (⟨k7,(nL hinv2.2 hx2).2 ‹_›⟩),e8⟩
 refine g11 ?_;have hr:=bBq hinv2.2 k7;subst hr;exact rs1 () trivial
theorem qF(A:Option Addr)(c:Nat)(l:List OpV)(hl:l.length<=140737488355328)(f:FuncId)(cap:List Value)(G:List bC)(p:OpV->Bool)(hcf: ∀(args:Array Value) (w:World),(callFunc f args).run prog w= .ok (.enter f args) w)(hf: ∀o:OpV,cE prog f (.agg #[.int .i64 o.how,.int .i64 o.k,.int .i64 o.n,.slice o.p.addr o.p.list.length o.p.cap,.int .u8 o.fn]::cap) [] (opF o::G) (λ_:Unit=> .bool (p o)) (λ_=>[]) (λ_=>[])):cE prog 150 [.slice A l.length c,.func (.func f) #[] cap.toArray] [] (opE.sl (.slice A l.length c) l::bC.each l opF::G) (λ(_:Unit)=> .bool (l.any p)) (λ_=>[]) (λ_=>[]):=by
 have hT:=dB;refine j2 func150 ntmps150 ?_;intro β hM;refine g9 ?_;refine f9 func212 (indexFO_spec A c l hl f cap G p hcf hf) .nil bA.self λ_=>?_;refine g5 ?_;exact rs1 () e8 (he:=congrArg Value.bool (bCp p l 0 m7))
theorem step_spec(bs:Nat)(vars loops buf:Int)(MA:Option Addr)(mc:Nat)(made:List Bool)(x:fW):cE prog 81 [.pointer (some ⟨bs,0,none⟩),.agg #[.int .i64 x.how,.int .i64 x.buf,.slice x.at_.addr x.at_.list.length x.at_.cap,.slice x.loops.addr x.loops.list.length x.loops.cap,.int .u8 x.fn,.slice x.ops.addr x.ops.list.length x.ops.cap]] [.obj bs (.cells [.int .i64 vars,.int .i64 loops,.int .i64 buf,.slice MA made.length mc].toArray 201)] [mG x,iT.sl (.slice MA made.length mc) made] (λ(_:Int×Int)=> .bool (lD vars made x.c)) (λ(y:Int×Int)=>[.obj bs (.cells [.int .i64 vars,.int .i64 y.1,.int .i64 y.2,.slice MA made.length mc].toArray 201)]) (λ_=>[]):=by
 have hT:=dB;refine j2 func81 ntmps81 ?_;intro β hM;refine g2 ?_;refine j0 λb1=>?_;refine j0 λb2=>?_;refine g5 ?_;refine bK (fC x.at_) (bHg d7)<|bJ (gG d7) λhpa=>bK (oL x.loops) (qX d8)<|bJ (opsF_c (lX d9)) λhoz=>?_;have hoz2:=hoz.2;refine bK (bC.each x.ops.list opF) (opsF_e (lX d9))<|bK (opE.sl (.slice x.ops.addr x.ops.list.length x.ops.cap) x.ops.list) (bKs (lX e6)) ?_;refine dS _ _ [(true,0),(true,1),(true,2),(true,3),(true,4),(true,5),(false,6),(true,7),(true,8),(true,9),(true,10),(false,11),(true,12),(true,13),(true,14),(true,15),(true,16),(true,17),(true,18),(true,19),(true,20),(false,21),(true,22),(true,23),(true,24),(true,25),(true,26),(true,27),(true,28),(true,29),(true,30),(true,31),(true,32),(false,33),(true,34),(true,35)] dW l8 (.c0 (.c0 (.c0 .nil))) bA.self ?_;refine g7 ?_;refine f9 func148 (of_spec x.at_ vars) .nil ⟨e6,e8⟩ λ_=>?_;refine g3 ?_;refine cD (λhg13=>?_) (λhg13=>?_)
 .have hg13:=bGl hg13;refine g40 ?_;refine g3 ?_;exact rs1 (_,_) e8 (he:=by rw[<-jC];simp[qH, *])
 have hg13:=bGp hg13;refine g3 ?_;refine f9 func149 (bJw x.at_ hpa) .nil ⟨e6,e8⟩ λ_=>?_;refine g4 ?_;refine cD (λhg19=>?_) (λhg19=>?_)
 .have hg19:=bGl hg19;refine g35 ?_;exact rs1 (_,_) e8 (he:=by rw[<-jC];simp[qH, *])
 have hg19:=bGp hg19;refine g7 ?_;refine f9 func80 (bOz x.loops vars) .nil ⟨d9,e8⟩ λ_=>?_;refine g4 ?_;refine cD (λhg29=>?_) (λhg29=>?_)
 .have hg29:=bGl hg29;refine g23 ?_;exact rs1 (_,_) e8 (he:=by rw[<-jC];simp[qH, *])
 have hg29:=bGp hg29;refine g6 ?_;refine cD (λhg35=>?_) (λhg35=>?_)
 .have hg35:=of_decide_eq_true hg35;refine g17 ?_;exact rs1 (_,_) e8 (he:=by rw[<-jC];simp[qH, *])
 have hg35:=Int.not_lt.1 (of_decide_eq_false hg35);refine g3 ?_;refine bF func23 (bJm x.ops.addr x.ops.cap x.ops.list k7) rfl rfl .nil ⟨d7,d8,e8⟩ λ_=>?_;refine g5 ?_;refine cG rfl (λhc40=>?_) (λhc40=>?_)
 .have hc40_r:=hc40;have hc40:=of_decide_eq_true hc40;refine g7 ?_;exact rs1 (_,_) e8 (he:=by rw[<-jC];simp[qH, *])
 have hc40_r:=hc40;have hc40:=Int.not_lt.1 (of_decide_eq_false hc40);refine g16 ?_;refine cG rfl (λhc43=>?_) (λhc43=>?_)
 .have hc43_r:=hc43;have hc43:=eq_of_beq hc43;refine g7 ?_;refine cG rfl (λhc47=>?_) (λhc47=>?_)
  .have hc47_r:=hc47;have hc47:=bne_iff_ne.1 hc47;refine g8 ?_;exact rs1 (_,_) e8 (he:=by rw[<-jC];simp[qH, *])
  have hc47_r:=hc47;have hc47:=bne_eq_false_iff_eq.1 hc47;refine g4 ?_;refine dS _ _ [(true,0),(true,1),(true,2),(true,3),(true,4),(true,5),(true,6),(true,7),(true,8),(false,9),(true,10),(true,11),(false,12)] dW l8 (.c0 (.c0 .nil)) bA.self ?_;refine g24 ?_;refine kC (j4 func150) (qF x.ops.addr x.ops.cap x.ops.list k7 151 [.pointer (some ⟨b1,0,none⟩)] [bC.cells b1 0 [.pointer (some ⟨bs,0,none⟩)],bC.cells bs 0 [.int .i64 vars,.int .i64 x.loops.list.length,.int .i64 x.buf,.slice MA made.length mc],iT.sl (.slice MA made.length mc) made] (λo=>!opB vars x.loops.list.length x.buf made o.c) (j4 func151) (λo=>bAp b1 bs vars x.loops.list.length x.buf MA mc made o)) rfl rfl rfl rfl rfl .nil (.c2 (.c0 .nil)) (lZ (lZ oQ)) ⟨d9,e6,d7,d8,Has.of mT7,e8⟩ (λ_=>True) (λ_ _ _ _=>trivial) λ_ _=>?_;refine g5 ?_;exact rs1 (_,_) e8 (he:=by rw[<-jC];simp[qH, *])
 have hc43_r:=hc43;have hc43:=beq_eq_false_iff_ne.1 hc43;refine g7 ?_;refine cG rfl (λhc48=>?_) (λhc48=>?_)
 .have hc48_r:=hc48;have hc48:=eq_of_beq hc48;refine g2 ?_;refine kP rfl hc48_r ?_;refine g7 ?_;refine cD (λhg55=>?_) (λhg55=>?_)
  .have hg55:=eq_of_beq hg55;refine g16 ?_;exact rs1 (_,_) e8 (he:=by rw[<-jC];simp[qH, *])
  have hg55:=beq_eq_false_iff_ne.1 hg55;refine g2 ?_;refine f9 func100 (sX _ _) .nil e8 λ_=>?_;refine g4 ?_;refine cG rfl (λhc60=>?_) (λhc60=>?_)
  .have hc60_r:=hc60;have hc60:=bGl hc60;refine g8 ?_;exact rs1 (_,_) e8 (he:=by rw[<-jC];simp[qH, *])
  have hc60_r:=hc60;have hc60:=bGp hc60;refine g4 ?_;refine dS _ _ [(true,0),(true,1),(true,2),(true,3),(true,4),(true,5),(true,6),(true,7),(true,8),(false,9),(true,10),(true,11),(false,12)] dW l8 (.c0 (.c0 .nil)) bA.self ?_;refine g24 ?_;refine kC (j4 func150) (qF x.ops.addr x.ops.cap x.ops.list k7 151 [.pointer (some ⟨b1,0,none⟩)] [bC.cells b1 0 [.pointer (some ⟨bs,0,none⟩)],bC.cells bs 0 [.int .i64 vars,.int .i64 x.loops.list.length,.int .i64 x.buf,.slice MA made.length mc],iT.sl (.slice MA made.length mc) made] (λo=>!opB vars x.loops.list.length x.buf made o.c) (j4 func151) (λo=>bAp b1 bs vars x.loops.list.length x.buf MA mc made o)) rfl rfl rfl rfl rfl .nil (.c2 (.c0 .nil)) (lZ (lZ oQ)) ⟨d9,e6,d7,d8,Has.of mT7,e8⟩ (λ_=>True) (λ_ _ _ _=>trivial) λ_ _=>?_;refine g5 ?_;exact rs1 (_,_) e8 (he:=by rw[<-jC];simp[qH, *])
 have hc48_r:=hc48;have hc48:=beq_eq_false_iff_ne.1 hc48;refine g5 ?_;refine cG rfl (λhc48_4=>?_) (λhc48_4=>?_)
 .have hc48_4_r:=hc48_4;have hc48_4:=eq_of_beq hc48_4;refine g7 ?_;refine cD (λhg55=>?_) (λhg55=>?_)
  .have hg55:=eq_of_beq hg55;refine g16 ?_;exact rs1 (_,_) e8 (he:=by rw[<-jC];simp[qH, *])
  have hg55:=beq_eq_false_iff_ne.1 hg55;refine g2 ?_;refine f9 func100 (sX _ _) .nil e8 λ_=>?_;refine g4 ?_;refine cG rfl (λhc60=>?_) (λhc60=>?_)
  .have hc60_r:=hc60;have hc60:=bGl hc60;refine g8 ?_;exact rs1 (_,_) e8 (he:=by rw[<-jC];simp[qH, *])
  have hc60_r:=hc60;have hc60:=bGp hc60;refine g4 ?_;refine dS _ _ [(true,0),(true,1),(true,2),(true,3),(true,4),(true,5),(true,6),(true,7),(true,8),(false,9),(true,10),(true,11),(false,12)] dW l8 (.c0 (.c0 .nil)) bA.self ?_;refine g24 ?_;refine kC (j4 func150) (qF x.ops.addr x.ops.cap x.ops.list k7 151 [.pointer (some ⟨b1,0,none⟩)] [bC.cells b1 0 [.pointer (some ⟨bs,0,none⟩)],bC.cells bs 0 [.int .i64 vars,.int .i64 x.loops.list.length,.int .i64 x.buf,.slice MA made.length mc],iT.sl (.slice MA made.length mc) made] (λo=>!opB vars x.loops.list.length x.buf made o.c) (j4 func151) (λo=>bAp b1 bs vars x.loops.list.length x.buf MA mc made o)) rfl rfl rfl rfl rfl .nil (.c2 (.c0 .nil)) (lZ (lZ oQ)) ⟨d9,e6,d7,d8,Has.of mT7,e8⟩ (λ_=>True) (λ_ _ _ _=>trivial) λ_ _=>?_;refine g5 ?_;exact rs1 (_,_) e8 (he:=by rw[<-jC];simp[qH, *])
 have hc48_4_r:=hc48_4;have hc48_4:=beq_eq_false_iff_ne.1 hc48_4;refine g8 ?_;exact rs1 (_,_) e8 (he:=by rw[<-jC];simp[qH, *])
theorem bJt: ∃i:TypeInfo,prog.info? 4=some i/\i.zero=some (.bool false)/\i.size=1/\i.bytes=1:=by
 have h:(prog.info? 4).map (λi=>(i.zero,i.size,i.bytes))=some (some (.bool false),1,1):=k8
 cases hi:prog.info? 4 with
 |none=>simp[hi]at h
 |some i=>simp[hi]at h;exact⟨i,rfl,h.1,h.2.1,h.2.2⟩
theorem sH{β:dC}{n:Nat}{Γ:Env}{H:List bD}{F:List bC}{Q:Exit->Act->World->Prop}{ops:Array Oper}{rest:List Oper}{o:Oper}{d:Nat}{x:Operand}{m:Bool}(hw:want ops Γ o=some true)(ho:o.op= .buildSlice 99 1 #[(0,x)])(hd:o.dst=some d)(hn:Nat.blt d n=true)
  (hx:Γ.ev x=some (.bool m)) (k: ∀b,At β n ((d,.slice (some ⟨b,0,none⟩) 1 1)::Γ) (.obj b (.cells (iT.all [m]).toArray 4)::H) F (wpList prog ops Q rest)):At β n Γ H F (wpList prog ops Q (o::rest)):=by
 obtain⟨i,hi,hz,hs,_⟩:=bJt;refine nF hw ho hd hn hx underlying99 hi hz k7 k7 ?_ k;rw[hs]
 kernel_rfl
theorem sR{β:dC}{n:Nat}{Γ:Env}{H:List bD}{F:List bC}{Q:Exit->Act->World->Prop}{ops:Array Oper}{rest:List Oper}{o:Oper}{d:Nat}{x y:Operand}{c q:Nat}{v:Value}{A:Option Addr}{xs ys:List Bool}{H':List bD}(hH:bW H (iT.row v 4 xs) H')(hr:dL β H F iT A ys)(hg:o.guard=none)
  (ho:o.op= .call {callee:= .builtin .append,args:= #[x,y],argTypes:= #[99,99]}) (hd:o.dst=some d) (hn:Nat.blt d n=true)
  (hx:Γ.ev x=some v) (hy:Γ.ev y=some (.slice A q c)) (hq:q=ys.length) (hl:xs.length+ys.length<=140737488355328)
  (k: ∀A' cap',At β n ((d,.slice A' (xs++ys).length cap')::Γ) (iT.row (.slice A' (xs++ys).length cap') 4 (xs++ys)::H') F (wpList prog ops Q rest)):At β n Γ H F (wpList prog ops Q (o::rest)):=by
 obtain⟨i,hi,hz,hs,hb⟩:=bJt;exact jG hH hr hg ho hd hn underlying99 hi hz hs hb rfl hx hy hq k7 m7 k
theorem intInfo: ∃i:TypeInfo,prog.info? 3=some i/\i.zero=some (.int .i64 0)/\i.size=1/\i.bytes=8:=by
 have h:(prog.info? 3).map (λi=>(i.zero,i.size,i.bytes))=some (some (.int .i64 0),1,8):=k8
 cases hi:prog.info? 3 with
 |none=>simp[hi]at h
 |some i=>simp[hi]at h;exact⟨i,rfl,h.1,h.2.1,h.2.2⟩
theorem at_one_int{β:dC}{n:Nat}{Γ:Env}{H:List bD}{F:List bC}{Q:Exit->Act->World->Prop}{ops:Array Oper}{rest:List Oper}{o:Oper}{d:Nat}{x:Operand}{m:Int}(hw:want ops Γ o=some true)(ho:o.op= .buildSlice 24 1 #[(0,x)])(hd:o.dst=some d)(hn:Nat.blt d n=true)
  (hx:Γ.ev x=some (.int .i64 m)) (k: ∀b,At β n ((d,.slice (some ⟨b,0,none⟩) 1 1)::Γ) (.obj b (.cells (cF.all [m]).toArray 3)::H) F (wpList prog ops Q rest)):At β n Γ H F (wpList prog ops Q (o::rest)):=by
 obtain⟨i,hi,hz,hs,_⟩:=intInfo;refine nF hw ho hd hn hx underlying24 hi hz k7 k7 ?_ k;rw[hs]
 kernel_rfl
theorem at_app_int{β:dC}{n:Nat}{Γ:Env}{H:List bD}{F:List bC}{Q:Exit->Act->World->Prop}{ops:Array Oper}{rest:List Oper}{o:Oper}{d:Nat}{x y:Operand}{c q:Nat}{v:Value}{A:Option Addr}{xs ys:List Int}{H':List bD}(hH:bW H (cF.row v 3 xs) H')(hr:dL β H F cF A ys)(hg:o.guard=none)
  (ho:o.op= .call {callee:= .builtin .append,args:= #[x,y],argTypes:= #[24,24]}) (hd:o.dst=some d) (hn:Nat.blt d n=true)
  (hx:Γ.ev x=some v) (hy:Γ.ev y=some (.slice A q c)) (hq:q=ys.length) (hl:xs.length+ys.length<=17592186044416)
  (k: ∀A' cap',At β n ((d,.slice A' (xs++ys).length cap')::Γ) (cF.row (.slice A' (xs++ys).length cap') 3 (xs++ys)::H') F (wpList prog ops Q rest)):At β n Γ H F (wpList prog ops Q (o::rest)):=by
 obtain⟨i,hi,hz,hs,hb⟩:=intInfo;exact jG hH hr hg ho hd hn underlying24 hi hz hs hb rfl hx hy hq k7 m7 k
theorem arr64_zero:(prog.info? 198).bind (·.zero)=some (.agg (iT.all (List.replicate 64 false)).toArray):=k8
theorem step_specM{m:Nat}{made:List Bool}(hm:made.length=m)(bs:Nat)(vars loops buf:Int)(MA:Option Addr)(mc:Nat)(x:fW):cE prog 81 [.pointer (some ⟨bs,0,none⟩),.agg #[.int .i64 x.how,.int .i64 x.buf,.slice x.at_.addr x.at_.list.length x.at_.cap,.slice x.loops.addr x.loops.list.length x.loops.cap,.int .u8 x.fn,.slice x.ops.addr x.ops.list.length x.ops.cap]]
  [.obj bs (.cells [.int .i64 vars,.int .i64 loops,.int .i64 buf,.slice MA m mc].toArray 201)] [mG x,iT.sl (.slice MA m mc) made] (λ_:Int×Int=> .bool (lD vars made x.c)) (λy=>[.obj bs (.cells [.int .i64 vars,.int .i64 y.1,.int .i64 y.2,.slice MA m mc].toArray 201)]) (λ_=>[]):=by
 subst hm;exact step_spec bs vars loops buf MA mc made x
def outB (n:Nat)(k:Int):Bool:=decide (k<0) || decide ((n:Int)<=k)
def bKn (c:dE):Bool:=jV c.vars c.bufs c.steps (rG c.bufs)&&c.outs.all λk=>decide (0<=k/\k<c.bufs.length)
theorem pD(l:List gQ):(rG l).length=l.length:=List.length_map _
def uV (c:dE)(i:Nat)(inp made:List Bool)(r:Bool):Prop:=inp.length=64/\made=(rG c.bufs).take i/\ ∃seen:List Int,(∀z∈seen,0<=z)/\(∀k:Nat,k<64->inp[k]?=some (seen.contains (k:Int)))/\r=(oE c.vars (c.bufs.drop i) seen&&bKn c)
def oB (c:dE)(i:Nat)(made:List Bool)(r:Bool):Prop:=made.length=c.bufs.length/\r=(jV c.vars c.bufs (c.steps.drop i) made&&c.outs.all λk=>decide (0<=k/\k<c.bufs.length))
section
variable {c : gF} {r : Bool}
theorem bFm(h:cZ c.c=r)(h1:0<=c.vars)(h2:c.vars<=6)(h3:(c.bufs.list.length:Int)<=1024)(h4:(c.steps.list.length:Int)<=1024)(h5:(c.outs.list.length:Int)<=64):r=(oE c.c.vars c.c.bufs []&&bKn c.c):=by
 rw[<-h];unfold cZ;rw[decide_eq_true (show 0<=c.c.vars/\c.c.vars<=6/\c.c.bufs.length<=1024/\c.c.steps.length<=1024/\c.c.outs.length<=64 from ⟨h1,h2,by show(bufsL c.bufs.list).length<=1024;rw[bY];omega,by show(bAn c.steps.list).length<=1024;rw[fG];omega,by show c.outs.list.length<=64;omega⟩),Bool.true_and];rfl
theorem jE(h:cZ c.c=r)(h1: ¬(0<=c.vars/\c.vars<=6/\(c.bufs.list.length:Int)<=1024/\(c.steps.list.length:Int)<=1024/\(c.outs.list.length:Int)<=64)):r=false:=by
 rw[<-h];unfold cZ;rw[decide_eq_false (show ¬(0<=c.c.vars/\c.c.vars<=6/\c.c.bufs.length<=1024/\c.c.steps.length<=1024/\c.c.outs.length<=64)from λ⟨a,b,d,e,f⟩=>h1 ⟨a,b,by have d:(bufsL c.bufs.list).length<=1024:=d;rw[bY]at d;omega,by have e:(bAn c.steps.list).length<=1024:=e;rw[fG]at e;omega,by have f:c.outs.list.length<=64:=f;omega⟩),Bool.false_and]
end
section
variable {c : dE} {i : Nat} {inp made : List Bool} {r : Bool} {u : gQ}
theorem bufs_start(h:r=(oE c.vars c.bufs []&&bKn c)):uV c 0 (List.replicate 64 false) [] r:=by
 refine⟨rfl,rfl,[],?_,?_,h⟩
 .intro z hz;cases hz
 .intro k hk;rw[List.getElem?_replicate,if_pos hk];rfl
theorem bufs_len(h:uV c i inp made r)(hi:i<=c.bufs.length):made.length=i:=by
 rw[h.2.1,List.length_take,pD];omega
theorem bBz(h:uV c i inp made r)(hu:c.bufs[i]?=some u)(k:gK u.sides c.vars=false\/u.input< -1\/64<=u.input\/0<=u.input/\inp[u.input.toNat]?=some true):r=false:=by
 obtain⟨h1,_,seen,h2,h3,h4⟩:=h;rw[lC hu,oE]at h4;rw[h4]
 rcases k with k|k|k|⟨k,e⟩
 .rw[k];rfl
 .rw[decide_eq_false (show ¬(-1<=u.input/\u.input<64)from λh=>by omega)];simp
 .rw[decide_eq_false (show ¬(-1<=u.input/\u.input<64)from λh=>by omega)];simp
 .have hlt:=(List.getElem?_eq_some_iff.1 e).1;rw[h3 _ k7]at e
  have e2:seen.contains u.input=true:=by
   have:((u.input.toNat:Nat):Int)=u.input:=k7
   rw[<-this];exact Option.some.inj e
  rw[e2];simp
theorem bOt(h:made=(rG c.bufs).take i)(hu:c.bufs[i]?=some u):made++[decide (0<=u.input)]=(rG c.bufs).take (i+1):=by
 have hm:(rG c.bufs)[i]?=some (decide (0<=u.input)):=by
  unfold rG;rw[List.getElem?_map,hu];rfl
 obtain⟨hi,e⟩:=List.getElem?_eq_some_iff.1 hm;rw[List.take_succ_eq_append_getElem hi,e,h]
theorem bufs_in(h:uV c i inp made r)(hu:c.bufs[i]?=some u)(hg:gK u.sides c.vars=true)(h1: -1<=u.input)(h2:u.input<64)(h3:0<=u.input)(he:inp[u.input.toNat]?=some false):uV c (i+1) (inp.set u.input.toNat true) (made++[decide (0<=u.input)]) r:=by
 obtain⟨k1,k2,seen,k3,k4,k5⟩:=h;refine⟨by simpa using k1,bOt k2 hu,u.input::seen,λz hz=>?_,λk hk=>?_,?_⟩
 .rcases List.mem_cons.1 hz with rfl|hz
  .exact h3
  .exact k3 z hz
 .rw[List.getElem?_set,List.contains_cons]
  by_cases e:u.input.toNat=k
  .rw[if_pos e,if_pos k7];have:((k:Nat):Int)=u.input:=k7
   rw[this];simp
  .rw[if_neg e,k4 k hk];have:((k:Int)==u.input)=false:=beq_eq_false_iff_ne.2 k7;rw[this];rfl
 .rw[lC hu,oE,hg,decide_eq_true ⟨h1,h2⟩,if_pos h3]at k5
  have e2:seen.contains u.input=false:=by
   rw[k4 _ k7]at he;have:((u.input.toNat:Nat):Int)=u.input:=k7
   rw[<-this];exact Option.some.inj he
  rw[e2]at k5
  simpa using k5
theorem bufs_no(h:uV c i inp made r)(hu:c.bufs[i]?=some u)(hg:gK u.sides c.vars=true)(h1: -1<=u.input)(h3:u.input<0):uV c (i+1) inp (made++[decide (0<=u.input)]) r:=by
 obtain⟨k1,k2,seen,k3,k4,k5⟩:=h;refine⟨k1,bOt k2 hu,seen,k3,k4,?_⟩;rw[lC hu,oE,hg,decide_eq_true (show-1<=u.input/\u.input<64 from ⟨h1,k7⟩),if_neg k7]at k5
 have e2:seen.contains u.input=false:=by
  rw[List.contains_eq_mem];exact decide_eq_false λh=>by have:=k3 _ h;omega
 rw[e2]at k5
 simpa using k5
theorem bufs_end(h:uV c i inp made r)(hi:c.bufs.length<=i):made=rG c.bufs/\r=bKn c:=by
 obtain⟨_,k2,seen,_,_,k5⟩:=h;rw[List.drop_of_length_le hi]at k5;refine⟨by rw[k2,List.take_of_length_le (by rw[pD];exact hi)],by rw[k5];rfl⟩
theorem bFi(hm:made=rG c.bufs)(h:r=bKn c):oB c 0 made r:=⟨by rw[hm,pD],by rw[h,hm];rfl⟩
theorem xQ{x:cP}(h:oB c i made r)(hx:c.steps[i]?=some x)(k:x.buf<0\/(c.bufs.length:Int)<=x.buf\/(∃u,c.bufs[x.buf.toNat]?=some u/\0<=u.input)\/lD c.vars made x=false):r=false:=by
 obtain⟨_,h2⟩:=h;rw[lC hx,jV]at h2;rw[h2]
 rcases k with k|k|⟨u,e,k⟩|k
 .rw[decide_eq_false (show ¬0<=x.buf by omega)];rfl
 .rw[List.getElem?_eq_none (show c.bufs.length<=x.buf.toNat by omega)];simp
 .rw[e];simp only;rw[decide_eq_false (show ¬u.input<0 by omega)];simp
 .rw[k];simp
theorem steps_ok{x:cP}{u:gQ}(h:oB c i made r)(hx:c.steps[i]?=some x)(h0:0<=x.buf)(hu:c.bufs[x.buf.toNat]?=some u)(h1:u.input<0)(k:lD c.vars made x=true):oB c (i+1) (made.set x.buf.toNat true) r:=by
 obtain⟨h2,h3⟩:=h;refine⟨by simpa using h2,?_⟩;rw[lC hx,jV,hu,decide_eq_true h0]at h3;simp only at h3;rw[decide_eq_true h1,k]at h3
 simpa using h3
theorem yA(h:oB c i made r)(hi:c.steps.length<=i):r=c.outs.all λk=>decide (0<=k/\k<c.bufs.length):=by
 obtain⟨_,h3⟩:=h;rw[List.drop_of_length_le hi]at h3;rw[h3];rfl
end
theorem outs_all{n m:Nat}{l:List Int}(h:n=m):(!l.any (outB m))=l.all λk=>decide (0<=k/\k<(n:Int)):=by
 subst h
 have e:outB n=λk=>!decide (0<=k/\k<(n:Int)):=by
  funext k
  unfold outB;rw[Bool.eq_iff_iff];simp
 rw[e,any_not]
theorem qY(z0:Int):prog.built 201 [(0,.int .i64 z0)]=some #[.int .i64 z0,.int .i64 0,.int .i64 0,.slice none 0 0]:=k8
theorem wC:(prog.info? 95).bind (·.zero)=some (.agg #[.slice none 0 0,.int .i64 0]):=k8
theorem vQ:(prog.info? 80).bind (·.zero)=some (.agg #[.int .i64 0,.int .i64 0,.slice none 0 0,.slice none 0 0,.int .u8 0,.slice none 0 0]):=k8
theorem indexFI_spec(A:Option Addr)(c:Nat)(l:List Int)(hl:l.length<=140737488355328)(f:FuncId)(cap:List Value)(G:List bC)(p:Int->Bool)(hcf: ∀(args:Array Value) (w:World),(callFunc f args).run prog w= .ok (.enter f args) w)(hf: ∀k:Int,cE prog f (.int .i64 k::cap) [] G (λ_:Unit=> .bool (p k)) (λ_=>[]) (λ_=>[])):cE prog 153 [.slice A l.length c,.func (.func f) #[] cap.toArray] [] (cF.sl (.slice A l.length c) l::G) (λ(_:Unit)=> .int .i64 (pF p l 0)) (λ_=>[]) (λ_=>[]):=by
 have hT:=dB;generalize hR:pF p l 0=r;refine j2 func153 ntmps153 ?_;intro β hM;refine g14 ?_;refine bU (ι:=Nat) [(0,_),(1,_),(7,_)] ⟨rfl,rfl,rfl,e8⟩ (λi=>[(8,.int .i64 (i:Nat))]) (λ_=>[]) (λi=>[bC.pure (i<=l.length/\r=pF p (l.drop i) i)]) (λi=>l.length-i) 0 ⟨rfl,e8⟩ .nil ⟨e9 (⟨k7,hR.symm⟩),e8⟩ ?_;rintro i;refine bJ d7 λhinv2=>?_;refine g6 ?_;refine dH (λhc9=>?_) λhc9=>?_
 .refine g15 ?_;obtain⟨x1,hx2⟩:=gx l i;refine ss (ixs i) ?_;refine ss (fJ hx2 0) ?_;refine lJ hcf (hf x1) rfl rfl rfl rfl rfl rfl rfl .nil (bA.drop 2) λ_=>?_;refine g2 ?_;refine yS (λhc16=>?_) λhc16=>?_
  .refine g12 ?_;obtain rfl:=(nL hinv2.2 hx2).1 ‹_›;exact rs1 () trivial
  refine g5 ?_;refine inc (i+1) ?_;refine g3 ?_;exact bk2 (i+1) ⟨e9 (⟨k7,(nL hinv2.2 hx2).2 ‹_›⟩),e8⟩
 refine g11 ?_;have hr:=bBq hinv2.2 k7;subst hr;exact rs1 () trivial
theorem bGy(A:Option Addr)(c:Nat)(l:List Int)(hl:l.length<=140737488355328)(f:FuncId)(cap:List Value)(G:List bC)(p:Int->Bool)(hcf: ∀(args:Array Value) (w:World),(callFunc f args).run prog w= .ok (.enter f args) w)(hf: ∀k:Int,cE prog f (.int .i64 k::cap) [] G (λ_:Unit=> .bool (p k)) (λ_=>[]) (λ_=>[])):cE prog 82 [.slice A l.length c,.func (.func f) #[] cap.toArray] [] (cF.sl (.slice A l.length c) l::G) (λ(_:Unit)=> .bool (l.any p)) (λ_=>[]) (λ_=>[]):=by
 have hT:=dB;refine j2 func82 ntmps82 ?_;intro β hM;refine g9 ?_;refine f9 func153 (indexFI_spec A c l hl f cap G p hcf hf) .nil bA.self λ_=>?_;refine g5 ?_;exact rs1 () e8 (he:=congrArg Value.bool (bCp p l 0 m7))
theorem right1_spec(b:Nat)(c:gF)(k:Int):cE prog 83 [.int .i64 k,.pointer (some ⟨b,0,none⟩)] [] [bC.cells b 0 [.int .i64 c.vars,.slice c.bufs.addr c.bufs.list.length c.bufs.cap,.slice c.steps.addr c.steps.list.length c.steps.cap,.slice c.outs.addr c.outs.list.length c.outs.cap]] (λ(_:Unit)=> .bool (outB c.bufs.list.length k)) (λ_=>[]) (λ_=>[]):=by
 have hT:=dB;refine j2 func83 ntmps83 ?_;intro β hM;refine g10 ?_;refine lG (λhg6=>?_) λhg6=>?_
 .refine g10 ?_;exact rs1 () e8 (he:=by first|(unfold outB;simp[*];done)|(unfold outB;simp[*];omega))
 refine g2 ?_;refine ss (i6 hT (bI (off:=1) d7)) ?_;refine g7 ?_;exact rs1 () e8 (he:=by first|(unfold outB;simp[*];done)|(unfold outB;simp[*];omega))
theorem bAo(c:gF):cE prog 33 [.agg #[.int .i64 c.vars,.slice c.bufs.addr c.bufs.list.length c.bufs.cap,.slice c.steps.addr c.steps.list.length c.steps.cap,.slice c.outs.addr c.outs.list.length c.outs.cap]] [] [nM c] (λ(_:Unit)=> .bool (cZ c.c)) (λ_=>[]) (λ_=>[]):=by
 have hT:=dB;generalize hR:cZ c.c=r;refine j2 func33 ntmps33 ?_;intro β hM;refine g2 ?_;refine j0 λb1=>?_;refine g10 ?_;refine lG (λhg12=>?_) λhg12=>?_
 .refine g32 ?_;have hr:=jE hR k7;subst hr;exact rs1 () trivial
 refine g5 ?_;refine lG (λhg17=>?_) λhg17=>?_
 .refine g27 ?_;have hr:=jE hR k7;subst hr;exact rs1 () trivial
 refine g6 ?_;refine lG (λhg23=>?_) λhg23=>?_
 .refine g21 ?_;have hr:=jE hR k7;subst hr;exact rs1 () trivial
 refine g6 ?_;refine lG (λhg29=>?_) λhg29=>?_
 .refine g15 ?_;have hr:=jE hR k7;subst hr;exact rs1 () trivial
 refine g7 ?_;refine dH (λhc34=>?_) λhc34=>?_
 .refine g7 ?_;have hr:=jE hR k7;subst hr;exact rs1 () trivial
 refine g3 ?_;have hr0:=bFm hR k7 k7 k7 k7 k7;refine one ?_;refine i7 arr64_zero λb2=>?_;refine wL (E:=iT) (xs:=List.replicate 64 false) .head ?_;refine g6 ?_;refine ss (cK rfl rfl (qY _)) ?_;refine j0 λb3=>?_;refine g13 ?_;refine bZ (t:=4) iT ?_;refine bU (ι:=Nat×List Bool×List Bool×Option Addr×Nat) [(1,_),(3,_),(4,_),(40,_),(41,_)] ⟨rfl,rfl,rfl,rfl,rfl,e8⟩ (λ⟨i,inp,made,MA,mc⟩=>[(42,.int .i64 (i:Nat))]) (λ⟨i,inp,made,MA,mc⟩=>[iT.held (.slice (some ⟨b2,0,none⟩) 64 64) inp,.obj b3 (.cells [.int .i64 c.vars,.int .i64 0,.int .i64 0,.slice MA made.length mc].toArray 201),iT.row (.slice MA made.length mc) 4 made]) (λ⟨i,inp,made,MA,mc⟩=>[bC.pure (i<=c.bufs.list.length/\uV c.c i inp made r)]) (λ⟨i,inp,made,MA,mc⟩=>c.bufs.list.length-i) (0,List.replicate 64 false,[],none,0) ⟨rfl,e8⟩ (.c2 (.c1 (.c0 .nil))) ⟨e9 (⟨k7,bufs_start hr0⟩),e8⟩ ?_;rintro⟨i,inp,made,MA,mc⟩;dsimp only;refine bJ d7 λhinv6=>?_;have hil:inp.length=64:=hinv6.2.1;have hml:=bufs_len hinv6.2 (by show i<=(bufsL c.bufs.list).length;rw[bY];omega);refine g6 ?_;refine dH (λhc43=>?_) λhc43=>?_
 .refine g6 ?_;refine bK (vE.sl (.slice c.bufs.addr c.bufs.list.length c.bufs.cap) c.bufs.list) (mO (iS d8)) ?_;obtain⟨x4,hx5⟩:=gx c.bufs.list i;refine ss (ixs i) ?_;refine ss (jQ hx5 0) ?_;refine i7 wC λb6=>?_;refine g5 ?_;refine bK (bufF x4) (Has.each (yI (iS d9)) (f5 hx5)) ?_;refine g5 ?_;refine f9 func80 (bOz x4.sides c.vars) .nil ⟨d7,e8⟩ λ_=>?_;refine g2 ?_;refine bKt (λhg52=>?_) λhg52=>?_
  .refine g35 ?_;have hr:=bBz hinv6.2 (bT hx5) l5;subst hr;exact rs1 () trivial
  refine g5 ?_;refine lG (λhg57=>?_) λhg57=>?_
  .refine g30 ?_;have hr:=bBz hinv6.2 (bT hx5) l5;subst hr;exact rs1 () trivial
  refine g5 ?_;refine k_le (λhg62=>?_) λhg62=>?_
  .refine g25 ?_;have hr:=bBz hinv6.2 (bT hx5) l5;subst hr;exact rs1 () trivial
  refine g4 ?_;refine k_le (λhg66=>?_) λhg66=>?_
  .refine g2 ?_;obtain⟨x7,hx8⟩:=gx inp x4.input.toNat;refine ss (pK hT (k:=x4.input.toNat) rfl rfl rfl rfl rfl k7 k7) ?_;refine ss (fJ hx8 0) ?_;refine g4 ?_;refine yS (λhc72=>?_) λhc72=>?_
   .refine g12 ?_;have hr:=bBz hinv6.2 (bT hx5) l5;subst hr;exact rs1 () trivial
   refine g10 ?_;refine bLl (λhc75=>?_) λhc75=>?_
   .refine g3 ?_;refine ss (pK hT (k:=x4.input.toNat) rfl rfl rfl rfl rfl k7 k7) ?_;refine dX hT (k:=x4.input.toNat) (fo:=0) (y':=true) kT1 rfl rfl rfl rfl rfl rfl rfl rfl rfl hx8 rfl ?_;refine g2 ?_;refine pJ 12 _ _ [(true,0),(true,1),(true,2),(true,3),(true,4),(true,5),(true,6),(true,7),(false,8),(false,9),(true,10),(true,11)] dW l8 (.c0 (.c0 (.c0 (.c1 .nil)))) bA.self ?_;refine g9 ?_;refine sH (m:=decide (0<=x4.input)) rfl rfl rfl rfl rfl λb9=>?_;refine g2 ?_;refine sR kT4 (gB .head rfl) rfl rfl rfl rfl rfl rfl rfl o7 λA10 c11=>?_;refine g10 ?_;refine inc (i+1) ?_;refine g3 ?_;exact bk2 (i+1,inp.set x4.input.toNat true,made++[decide (0<=x4.input)],A10,c11) ⟨e9 (⟨by dsimp only;omega,bufs_in hinv6.2 (bT hx5) (show gK (polsL x4.sides.list) c.vars=true by assumption) (show-1<=x4.input by omega) (show x4.input<64 by omega) (show 0<=x4.input by omega) v6⟩),e8⟩
   refine g2 ?_;refine pJ 12 _ _ [(true,0),(true,1),(true,2),(true,3),(true,4),(true,5),(true,6),(true,7),(false,8),(false,9),(true,10),(true,11)] dW l8 (.c0 (.c0 (.c0 (.c1 .nil)))) bA.self ?_;refine g9 ?_;refine sH (m:=decide (0<=x4.input)) rfl rfl rfl rfl rfl λb12=>?_;refine g2 ?_;refine sR kT4 (gB .head rfl) rfl rfl rfl rfl rfl rfl rfl o7 λA13 c14=>?_;refine g10 ?_;refine inc (i+1) ?_;refine g3 ?_;exact bk2 (i+1,inp,made++[decide (0<=x4.input)],A13,c14) ⟨e9 (⟨by dsimp only;omega,bufs_no hinv6.2 (bT hx5) (show gK (polsL x4.sides.list) c.vars=true by assumption) (show-1<=x4.input by omega) (show x4.input<0 by omega)⟩),e8⟩
  refine g19 ?_;refine bLl (λhc75=>?_) λhc75=>?_
  .refine g3 ?_;obtain⟨x15,hx16⟩:=gx inp x4.input.toNat;refine ss (pK hT (k:=x4.input.toNat) rfl rfl rfl rfl rfl k7 k7) ?_;refine dX hT (k:=x4.input.toNat) (fo:=0) (y':=true) kT1 rfl rfl rfl rfl rfl rfl rfl rfl rfl hx16 rfl ?_;refine g2 ?_;refine pJ 12 _ _ [(true,0),(true,1),(true,2),(true,3),(true,4),(true,5),(true,6),(true,7),(false,8),(false,9),(true,10),(true,11)] dW l8 (.c0 (.c0 (.c0 (.c1 .nil)))) bA.self ?_;refine g9 ?_;refine sH (m:=decide (0<=x4.input)) rfl rfl rfl rfl rfl λb17=>?_;refine g2 ?_;refine sR kT4 (gB .head rfl) rfl rfl rfl rfl rfl rfl rfl o7 λA18 c19=>?_;refine g10 ?_;refine inc (i+1) ?_;refine g3 ?_;exact bk2 (i+1,inp.set x4.input.toNat true,made++[decide (0<=x4.input)],A18,c19) ⟨e9 (⟨by dsimp only;omega,bufs_in hinv6.2 (bT hx5) (show gK (polsL x4.sides.list) c.vars=true by assumption) (show-1<=x4.input by omega) (show x4.input<64 by omega) (show 0<=x4.input by omega) v6⟩),e8⟩
  refine g2 ?_;refine pJ 12 _ _ [(true,0),(true,1),(true,2),(true,3),(true,4),(true,5),(true,6),(true,7),(false,8),(false,9),(true,10),(true,11)] dW l8 (.c0 (.c0 (.c0 (.c1 .nil)))) bA.self ?_;refine g9 ?_;refine sH (m:=decide (0<=x4.input)) rfl rfl rfl rfl rfl λb20=>?_;refine g2 ?_;refine sR kT4 (gB .head rfl) rfl rfl rfl rfl rfl rfl rfl o7 λA21 c22=>?_;refine g10 ?_;refine inc (i+1) ?_;refine g3 ?_;exact bk2 (i+1,inp,made++[decide (0<=x4.input)],A21,c22) ⟨e9 (⟨by dsimp only;omega,bufs_no hinv6.2 (bT hx5) (show gK (polsL x4.sides.list) c.vars=true by assumption) (show-1<=x4.input by omega) (show x4.input<0 by omega)⟩),e8⟩
 refine g15 ?_;obtain⟨hmf,hr1⟩:=bufs_end hinv6.2 (by show(bufsL c.bufs.list).length<=i;rw[bY];omega);have hml2:made.length=c.bufs.list.length:=by rw[hmf,pD];exact bY _
 rw[hml2];refine bU (ι:=Nat×List Bool×Int×Int) [(1,_),(4,_),(93,_),(94,_)] ⟨rfl,rfl,rfl,rfl,e8⟩ (λ⟨k,made,lo,bu⟩=>[(95,.int .i64 (k:Nat))]) (λ⟨k,made,lo,bu⟩=>[.obj b3 (.cells [.int .i64 c.vars,.int .i64 lo,.int .i64 bu,.slice MA c.bufs.list.length mc].toArray 201),iT.row (.slice MA c.bufs.list.length mc) 4 made]) (λ⟨k,made,lo,bu⟩=>[bC.pure (k<=c.steps.list.length/\oB c.c k made r)]) (λ⟨k,made,lo,bu⟩=>c.steps.list.length-k) (0,made,0,0) ⟨rfl,e8⟩ (.c1 (.c1 .nil)) ⟨e9 (⟨k7,bFi hmf hr1⟩),e8⟩ ?_;rintro⟨k,made,lo,bu⟩;dsimp only;refine bJ d7 λhinv15=>?_;have hml3:made.length=c.bufs.list.length:=by rw[hinv15.2.1];exact bY _
 refine g6 ?_;refine dH (λhc96=>?_) λhc96=>?_
 .refine g6 ?_;refine bK (sQ.sl (.slice c.steps.addr c.steps.list.length c.steps.cap) c.steps.list) (sE (kD d9)) ?_;obtain⟨x23,hx24⟩:=gx c.steps.list k;refine ss (ixs k) ?_;refine ss (jQ hx24 0) ?_;refine i7 vQ λb25=>?_;refine g5 ?_;refine bK (mG x23) (Has.each (rI (kD e6)) (f5 hx24)) ?_;refine g5 ?_;refine lG (λhg102=>?_) λhg102=>?_
  .refine g38 ?_;have hr:=xQ hinv15.2 (dJ hx24) l4;subst hr;exact rs1 () trivial
  refine g8 ?_;refine k_le (λhg110=>?_) λhg110=>?_
  .refine g30 ?_;have hr:=xQ hinv15.2 (dJ hx24) l4;subst hr;exact rs1 () trivial
  refine g4 ?_;refine bK (vE.sl (.slice c.bufs.addr c.bufs.list.length c.bufs.cap) c.bufs.list) (mO (iS e7)) ?_;obtain⟨x26,hx27⟩:=gx c.bufs.list x23.buf.toNat;refine ss (bG hT (k:=x23.buf.toNat) (bR d7) rfl rfl rfl rfl rfl rfl k7 k7) ?_;refine one ?_;refine ss (fJ hx27 1) ?_;refine g3 ?_;refine k_le (λhg120=>?_) λhg120=>?_
  .refine g20 ?_;have hr:=xQ hinv15.2 (dJ hx24) l4;subst hr;exact rs1 () trivial
  refine g2 ?_;refine kC (j4 func81) (step_specM hml3 b3 c.vars lo bu MA mc x23) rfl rfl rfl rfl rfl (.c1 .nil) (.c1 .nil) (rC oQ) ⟨d9,d7,e8⟩ (λ_=>True) (λ_ _ _ _=>trivial) λy28 _=>?_;refine g4 ?_;refine yQ (λhc125=>?_) λhc125=>?_
  .refine g12 ?_;have hr:=xQ hinv15.2 (dJ hx24) l4;subst hr;exact rs1 () trivial
  refine g2 ?_;refine pJ 7 _ _ [(true,0),(true,1),(true,2),(true,3),(true,4),(true,5),(true,6)] dW l8 (.c0 (.c0 (.c0 (.c0 (.c0 .nil))))) bA.self ?_;refine g6 ?_;obtain⟨x29,hx30⟩:=gx made x23.buf.toNat;refine stL rfl (bG hT (k:=x23.buf.toNat) (cM kT2) rfl rfl rfl rfl rfl hml3.symm k7 k7) ?_;refine one ?_;refine cN hT (k:=x23.buf.toNat) (fo:=0) (y':=true) kT2 rfl rfl rfl rfl rfl rfl rfl rfl rfl hx30 rfl ?_;refine g5 ?_;refine inc (k+1) ?_;refine g3 ?_;exact bk2 (k+1,made.set x23.buf.toNat true,y28.1,y28.2) ⟨e9 (⟨by dsimp only;omega,steps_ok hinv15.2 (dJ hx24) (show 0<=x23.buf by omega) (bT hx27) (show jD.input _<0 by omega) (show lD c.vars made x23.c=true by assumption)⟩),e8⟩
 refine g10 ?_;refine bK (cF.sl (.slice c.outs.addr c.outs.list.length c.outs.cap) c.outs.list) (xN (bHl d9)) ?_;refine kC (j4 func82) (bGy c.outs.addr c.outs.cap c.outs.list k7 83 [.pointer (some ⟨b1,0,none⟩)] [bC.cells b1 0 [.int .i64 c.vars,.slice c.bufs.addr c.bufs.list.length c.bufs.cap,.slice c.steps.addr c.steps.list.length c.steps.cap,.slice c.outs.addr c.outs.list.length c.outs.cap]] (outB c.bufs.list.length) (j4 func83) (λk=>right1_spec b1 c k)) rfl rfl rfl rfl rfl .nil (.c3 .nil) (lZ oQ) ⟨d8,d7,e8⟩ (λ_=>True) (λ_ _ _ _=>trivial) λ_ _=>?_;refine g5 ?_;have hr:=yA hinv15.2 (by show(bAn c.steps.list).length<=k;rw[fG];omega);subst hr;exact rs1 () e8 (he:=congrArg Value.bool (outs_all (bY _)))
end Go.Proofs.YtnfiadlonjediaaGreatDoor
