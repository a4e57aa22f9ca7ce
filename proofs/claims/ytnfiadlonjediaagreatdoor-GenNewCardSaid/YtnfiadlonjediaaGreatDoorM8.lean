/- Texts of one proof, one behind the other: CoW, Arrs, CoX, CoY, CoZ. -/
import Derived.Test.YtnfiadlonjediaaGreatDoorM7
import Derived.Test.YtnfiadlonjediaaGreatDoorM6
namespace Go.Proofs.YtnfiadlonjediaaGreatDoor
open Go.RowKit Go.Proofs.Tryz
set_option maxRecDepth 100000
theorem takes_le(h:Int):cH h≤2∧ -1≤cH h:=by
 unfold cH
 repeat' split
 all_goals omega
def bMb (l:List OpV)(i:Nat)(m n r:Int):Prop:=mB ((opsL l).drop i) m n=r
theorem oP{α:Type}{l:List α}{i:Nat}{x:α}(h:l[i]?=some x):l.drop i=x::l.drop (i+1):=by
 obtain⟨hi,e⟩:=List.getElem?_eq_some_iff.1 h;rw [←e];exact List.drop_eq_getElem_cons hi
section
variable {l : List OpV} {i : Nat} {m n r : Int} {x : OpV}
theorem dep_step(h:bMb l i m n r)(hx:l[i]?=some x):(cH x.how<0∨n<cH x.how→r= -1)∧(¬cH x.how<0→ ¬n<cH x.how→bMb l (i+1) (if n+(1-cH x.how)>m then n+(1-cH x.how) else m) (n+(1-cH x.how)) r):=by
 unfold bMb at*;rw [oP (gA hx),mB] at h;refine⟨fun e=>?_,fun e1 e2=>?_⟩
 ·rw [if_pos (show cH x.c.how<0∨n<cH x.c.how from e)] at h;exact h.symm
 ·rw [if_neg (show ¬(cH x.c.how<0∨n<cH x.c.how) from fun h=>h.elim e1 e2)] at h;rw [←h]
  congr 1
  show _=max m (n+(1-cH x.how));split<;>omega
theorem dep_end(h:bMb l i m n r)(hi:l.length≤i):(n≠1→r= -1)∧(n=1→r=m):=by
 unfold bMb at h;rw [List.drop_of_length_le (by rw [fK];exact hi),mB] at h;exact⟨fun e=>by rw [if_neg e] at h;exact h.symm,fun e=>by rw [if_pos e] at h;exact h.symm⟩
end
section
variable {f : Int} {two : Bool}
theorem xV(h:f<1∨17<f):Value.bool false= .bool (jY f two):=by
 unfold jY;rw [if_pos h]
theorem wtk_b(h3:f=16):Value.bool (!two)= .bool (jY f two):=by
 unfold jY;rw [if_neg k7,if_pos h3]
theorem wtk_c(h1:1≤f)(h2:f≤17)(h3:f≠16)(h:two=true):Value.bool true= .bool (jY f two):=by
 unfold jY;rw [if_neg k7,if_neg h3,h,Bool.true_or]
theorem wtk_d(h1:1≤f)(h2:f≤17)(h3:f≠16)(h:two=false):Value.bool (decide (f≤7))= .bool (jY f two):=by
 unfold jY;rw [if_neg k7,if_neg h3,h,Bool.false_or]
end
theorem yL:(prog.info? 172).bind (·.zero)=some (.agg #[.int .i64 0,.int .i64 0,.int .i64 0,.slice none 0 0,.int .u8 0]):=k8
theorem takes_spec(o:OpV):cA prog 64 [.agg #[.int .i64 o.how,.int .i64 o.k,.int .i64 o.n,.slice o.p.addr o.p.list.length o.p.cap,.int .u8 o.fn]] [] [] (fun(_:Unit)=> .int .i64 (cH o.how)) (fun _=>[]) (fun _=>[]):=by
 have hT:=dS;refine j1 func64 ntmps64 ?_;intro β hM;refine g2 ?_;refine j2 fun b1=>?_;refine g18 ?_;refine cL rfl (fun hc5=>?_) (fun hc5=>?_)
 ·have hc5_r:=hc5;have hc5:=eq_of_beq hc5;refine g2 ?_;refine lY rfl hc5_r ?_;refine g8 ?_;exact rs1 () e8 (he:=by simp [cH, *])
 have hc5_r:=hc5;have hc5:=beq_eq_false_iff_ne.1 hc5;refine g6 ?_;refine cL rfl (fun hc5_2=>?_) (fun hc5_2=>?_)
 ·have hc5_2_r:=hc5_2;have hc5_2:=eq_of_beq hc5_2;refine g2 ?_;refine lY rfl hc5_2_r ?_;refine g8 ?_;exact rs1 () e8 (he:=by simp [cH, *])
 have hc5_2_r:=hc5_2;have hc5_2:=beq_eq_false_iff_ne.1 hc5_2;refine g5 ?_;refine cL rfl (fun hc5_3=>?_) (fun hc5_3=>?_)
 ·have hc5_3_r:=hc5_3;have hc5_3:=eq_of_beq hc5_3;refine g8 ?_;exact rs1 () e8 (he:=by simp [cH, *])
 have hc5_3_r:=hc5_3;have hc5_3:=beq_eq_false_iff_ne.1 hc5_3;refine g7 ?_;refine cL rfl (fun hc9=>?_) (fun hc9=>?_)
 ·have hc9_r:=hc9;have hc9:=eq_of_beq hc9;refine g2 ?_;refine lY rfl hc9_r ?_;refine g8 ?_;exact rs1 () e8 (he:=by simp [cH, *])
 have hc9_r:=hc9;have hc9:=beq_eq_false_iff_ne.1 hc9;refine g5 ?_;refine cL rfl (fun hc9_4=>?_) (fun hc9_4=>?_)
 ·have hc9_4_r:=hc9_4;have hc9_4:=eq_of_beq hc9_4;refine g8 ?_;exact rs1 () e8 (he:=by simp [cH, *])
 have hc9_4_r:=hc9_4;have hc9_4:=beq_eq_false_iff_ne.1 hc9_4;refine g6 ?_;refine cL rfl (fun hc12=>?_) (fun hc12=>?_)
 ·have hc12_r:=hc12;have hc12:=eq_of_beq hc12;refine g8 ?_;exact rs1 () e8 (he:=by simp [cH, *])
 have hc12_r:=hc12;have hc12:=beq_eq_false_iff_ne.1 hc12;refine g9 ?_;exact rs1 () e8 (he:=by simp [cH, *])
theorem bKl(A:Option Addr)(c:Nat)(l:List OpV)(hl:l.length≤140737488355328):cA prog 23 [.slice A l.length c] [] [opE.sl (.slice A l.length c) l,bD.each l opF] (fun(_:Unit)=> .int .i64 (nR (opsL l))) (fun _=>[]) (fun _=>[]):=by
 have hT:=dS;generalize hR:nR (opsL l)=r;refine j1 func23 ntmps23 ?_;intro β hM;refine g20 ?_;refine bX (ι:=Nat×Int×Int) [(8,_),(9,_)] ⟨rfl,rfl,e8⟩ (fun⟨i,m,n⟩=>[(3,.int .i64 m),(4,.int .i64 n),(10,.int .i64 (i:Nat))]) (fun _=>[]) (fun⟨i,m,n⟩=>[bD.pure (i≤l.length∧bMb l i m n r∧0≤n∧n≤i)]) (fun⟨i,m,n⟩=>l.length-i) (0,0,0) ⟨rfl,rfl,rfl,e8⟩ .nil ⟨e9 (⟨k7,hR,k7,k7⟩),e8⟩ ?_;rintro⟨i,m,n⟩;dsimp only;refine bL d7 fun hinv3=>?_;refine g6 ?_;refine fJ (fun hc11=>?_) fun hc11=>?_
 ·refine g6 ?_;obtain⟨x1,hx2⟩:=gx l i;refine ss (ixs i) ?_;refine ss (lL hx2 0) ?_;refine i7 yL fun b3=>?_;refine g4 ?_;have htk:=takes_le x1.how
  have hd0:=(dep_step hinv3.2.1 hx2)
  refine g2 ?_;refine f9 func64 (takes_spec x1) .nil e8 fun _=>?_;refine g9 ?_;refine xK (fun hg18=>?_) fun hg18=>?_
  ·refine g19 ?_;have hr:=hd0.1 k7;subst hr;exact rs1 () trivial
  refine g6 ?_;refine fJ (fun hc22=>?_) fun hc22=>?_
  ·refine g12 ?_;have hr:=hd0.1 k7;subst hr;exact rs1 () trivial
  refine g7 ?_;refine bM (nQ k7 k7) ?_;refine one ?_;refine bM (nQ k7 k7) ?_;refine g13 ?_;refine inc (i+1) ?_;refine g3 ?_;exact pF (i+1,_,_) n4 ⟨rfl,rfl,rfl,e8⟩ ⟨rfl,rfl,e8⟩ .nil ⟨e9 (⟨by dsimp only;omega,hd0.2 k7 k7,by dsimp only;omega,by dsimp only;omega⟩),e8⟩ (bA.drop 1)
 refine g12 ?_;refine c_ne (fun hc32=>?_) fun hc32=>?_
 ·refine g7 ?_;have hr:=(dep_end hinv3.2.1 k7).1 ‹_›;subst hr;exact rs1 () trivial
 refine g9 ?_;have hr:=(dep_end hinv3.2.1 k7).2 ‹_›;subst hr;exact rs1 () trivial
theorem rX(f:Int)(two:Bool):cA prog 100 [.int .u8 f,.bool two] [] [] (fun(_:Unit)=> .bool (jY f two)) (fun _=>[]) (fun _=>[]):=by
 have hT:=dS;refine j1 func100 ntmps100 ?_;intro β hM;refine g12 ?_;refine xK (fun hg8=>?_) fun hg8=>?_
 ·refine g15 ?_;exact rs1 () e8 (he:=by first | exact xV (.inl k7) | exact xV (.inr k7) | exact wtk_b k7 | exact wtk_c k7 k7 k7 ‹_› | exact wtk_d k7 k7 k7 ‹_›)
 refine g6 ?_;refine fJ (fun hc5=>?_) fun hc5=>?_
 ·refine g8 ?_;exact rs1 () e8 (he:=by first | exact xV (.inl k7) | exact xV (.inr k7) | exact wtk_b k7 | exact wtk_c k7 k7 k7 ‹_› | exact wtk_d k7 k7 k7 ‹_›)
 refine g7 ?_;refine jX (fun hc12=>?_) fun hc12=>?_
 ·refine g10 ?_;exact rs1 () e8 (he:=by first | exact xV (.inl k7) | exact xV (.inr k7) | exact wtk_b k7 | exact wtk_c k7 k7 k7 ‹_› | exact wtk_d k7 k7 k7 ‹_›)
 refine g7 ?_;refine cY (fun hg18=>?_) (fun hg18=>?_)
 ·refine g7 ?_;exact rs1 () e8 (he:=by first | exact xV (.inl k7) | exact xV (.inr k7) | exact wtk_b k7 | exact wtk_c k7 k7 k7 ‹_› | exact wtk_d k7 k7 k7 ‹_›)
 refine g7 ?_;exact rs1 () e8 (he:=by first | exact xV (.inl k7) | exact xV (.inr k7) | exact wtk_b k7 | exact wtk_c k7 k7 k7 ‹_› | exact wtk_d k7 k7 k7 ‹_›)
section
variable {P : Program} {β : cX} {n : Nat} {Γ : Env} {H : List bC} {F : List bD} {K : Act → World → Prop} {T : Tab} {α : Type} {E : Flat α}
theorem St.recast'{c c':bC}{S:iU}{w:World}(s:St β (c::H) S w)(hb: ∀b,c'.blk=some b→c.blk=some b)(ok:c'.ok w):St β (c'::H) S w:=by
 have hs:=List.pairwise_cons.1 s.sep;refine⟨s.kept,fun d hd=>?_,fun d hd b h=>?_,List.pairwise_cons.2 ⟨fun d hd b h=>hs.1 d hd b (hb b h),hs.2⟩,s.zone⟩
 ·rcases List.mem_cons.1 hd with rfl | hd
  ·exact ok
  ·exact s.ok d (List.mem_cons_of_mem _ hd)
 ·rcases List.mem_cons.1 hd with rfl | hd
  ·exact s.own c (List.mem_cons_self ..) b (hb b h)
  ·exact s.own d (List.mem_cons_of_mem _ hd) b h
theorem bEv{b:Nat}{t:TypeId}{xs:List α}{H':List bC}(hH:bT H (.obj b (.cells (E.all xs).toArray t)) H')(h:At β n Γ (E.held (.slice (some ⟨b,0,none⟩) xs.length xs.length) xs::H') F K):At β n Γ H F K:=fun a w S f s k=>by
 have s2:=s.perm hH.perm;have hok:w.heap[b]?=some (.cells (E.all xs).toArray t):=s2.ok _ (List.mem_cons_self ..);refine h a w S f (s2.recast' (fun b' hb=>?_) ?_) k
 ·cases xs with
  | nil=>cases hb
  | cons x r=>exact hb
 ·cases xs with
  | nil=>exact⟨_,_,rfl,.inl rfl⟩
  | cons x r=>
   refine⟨_,_,rfl,.inr ⟨b,0,_,t,(0,0),rfl,hok,fun j u hj=>⟨?_,?_⟩⟩⟩
   ·rw [Nat.zero_add];exact hj
   ·simp
theorem bBd{v:Value}{t:TypeId}{xs:List α}{H':List bC}(hH:bT H (E.row v t xs) H')(h:At β n Γ (E.held v xs::H') F K):At β n Γ H F K:=fun a w S f s k=>by
 have s2:=s.perm hH.perm;have hok:w.ownsRow 0 t E.size v xs.length (E.all xs):=s2.ok _ (List.mem_cons_self ..);refine h a w S f (s2.recast' (fun b hb=>?_) ?_) k
 ·cases xs with
  | nil=>cases hb
  | cons x r=>exact hb
 ·rcases hok.2 with ⟨e,e0⟩ | ⟨g,cap,cur,e,_,hg,hnc,hcm,hcs,ht⟩
  ·have:xs=[]:=List.eq_nil_of_length_eq_zero e0;subst this;exact⟨none,0,e,.inl rfl⟩
  ·subst e
   cases xs with
   | nil=>exact⟨_,cap,rfl,.inl rfl⟩
   | cons x r=>
    refine⟨_,cap,rfl,.inr ⟨g,0,cur,t,(0,0),rfl,hg,fun j u hj=>⟨?_,?_⟩⟩⟩
    ·rw [Nat.zero_add];rw [←ht,List.getElem?_take] at hj;split at hj
     ·exact hj
     ·cases hj
    ·simp
theorem uZ{v:Value}{xs:List α}{H':List bC}(hH:bT H (E.held v xs) H')(h:At β n Γ H' (E.sl v xs::F) K):At β n Γ H F K:=fun a w S f s k=>by
 have s2:=s.perm hH.perm;have hok:(E.held v xs).ok w:=s2.ok _ (List.mem_cons_self ..);have hsep:=List.pairwise_cons.1 s2.sep;have hown:=s2.own _ (List.mem_cons_self ..);have hmono:All F (fun b=>S b∨(E.held v xs).blk=some b) w:=All.mono (fun _ h=> .inl h) (fun _ _=>rfl) k;refine h a w (fun b=>S b∨(E.held v xs).blk=some b) f ⟨s2.kept,fun c hc=>s2.ok c (List.mem_cons_of_mem _ hc),fun c hc b hb=>?_,hsep.2,fun b hb=>?_⟩ (All.cons (yV hok fun b hb=> .inr hb) hmono)
 ·obtain⟨h1,h2,h3⟩:=s2.own c (List.mem_cons_of_mem _ hc) b hb;refine⟨h1,h2,fun h=>?_⟩
  rcases h with h | h
  ·exact h3 h
  ·exact hsep.1 c hc b h hb
 ·rcases hb with hb | hb
  ·exact s2.zone b hb
  ·obtain⟨h1,h2,_⟩:=hown b hb;exact⟨h1,.inr h2⟩
theorem lA{b:Nat}{cs:List Value}{t:TypeId}{L:List bC}{G:List bD}(h:uW L G):uW (.obj b (.cells cs.toArray t)::L) (bD.cells b 0 cs::G):=fun S w hok hS=>
 All.cons ⟨hS _ (List.mem_cons_self ..) b rfl,fun j u hj=>by
  have h0:w.heap[b]?=some (.cells cs.toArray t):=hok _ (List.mem_cons_self ..);unfold World.cell?;rw [h0]
  simpa using hj⟩ (h S w (fun c hc=>hok c (List.mem_cons_of_mem _ hc)) fun c hc=>hS c (List.mem_cons_of_mem _ hc))
theorem run_arrFrom(hT:dH P T){t e m sz k:Nat}{ei:TI}(ht:T.get t=some ⟨.array m e,sz⟩)(he:T.get e=some ei){b off:Nat}(hk:k≤m)(kk:IntKind)(w:World):
  (Instr.sliceAt t (.pointer (some ⟨b,off,none⟩)) (some (.int kk (k:Nat))) none none).run P w= .ok (.slice (some ⟨b,if m=k then off else off+k*ei.size,none⟩) (m-k) (m-k)) w:=by
 have ha:(⟨b,off,none⟩:Addr).add (k*ei.size)=⟨b,off+k*ei.size,none⟩:=Addr.add_mid _ _ _;unfold Instr.sliceAt;rw [Sem.run_bind,hT.array ht,Result.andThen_ok]
 have h1:(Instr.sliceBound (.int kk (k:Nat)) m .sliceB).run P w= .ok k w:=by
  rw [run_sliceBound w kk (k:Int) m .sliceB k7 k7,Int.toNat_natCast]
 simp only [Instr.sureAddr,Instr.sliceBounds,Sem.run_bind,Sem.run_pure,Result.andThen_ok,Option.isSome_none,Bool.false_eq_true,if_false,h1,hT.size he,ha]
 by_cases e0:m=k
 ·rw [if_pos e0,if_pos e0]
 ·rw [if_neg e0,if_neg e0]
theorem sti_arrFrom(hT:dH P T){o:Oper}{t e m sz k b off:Nat}{ei:TI}{x i:Operand}{kk:IntKind}{z:Int}(ho:o.op= .slice t x (some i) none none)(hx:Γ.ev x=some (.pointer (some ⟨b,off,none⟩)))(hi:Γ.ev i=some (.int kk z))
  (ht:T.get t=some ⟨.array m e,sz⟩) (he:T.get e=some ei) (hz:z=(k:Nat)) (hk:k≤m):Sti P β n Γ H F o (.slice (some ⟨b,if m=k then off else off+k*ei.size,none⟩) (m-k) (m-k)):=fun a w S f s hF=>by
 subst hz;unfold execOp;simp only [ho,f.ev hx,Option.map_some,Option.map_none,f.ev hi];rw [Sem.run_bind,run_arrFrom hT ht he hk];rfl
end
theorem mono_zero:(prog.info? 111).bind (·.zero)=some (.agg #[.int .i64 0,.int .u8 0,.int .u8 0,.int .u8 0,.int .u8 0,.int .u8 0,.int .u8 0]):=k8
def EI (m:Mono):List Int:=[m.e0.toNat,m.e1.toNat,m.e2.toNat,m.e3.toNat,m.e4.toNat,m.e5.toNat]
def u8I:Flat Int where
 size:=1
 cells:=fun x=>[.int .u8 x]
 len:=fun _=>rfl
 one:=fun x u hu=>by simp at hu;subst hu;rfl
 pos:=m7
theorem clamp_le(vars:Int):clampK vars≤6:=by unfold clampK;omega
theorem clamp_eq(vars:Int):(if (6:Int)<(if (0:Int)>vars then 0 else vars) then 6 else (if (0:Int)>vars then 0 else vars))=((clampK vars:Nat):Int):=by
 unfold clampK;split<;>split<;>omega
theorem ei_len(m:Mono)(vars:Int):((EI m).drop (clampK vars)).length=6-clampK vars:=by
 rw [List.length_drop];rfl
theorem bNi{β:cX}{H H':List bC}{F:List bD}{b:Nat}{t:TypeId}{m:Mono}{k:Nat}(hH:bT H (.obj b (.cells m.cells.toArray t)) H'):dF β H F u8I (some ⟨b,if 6=k then 1 else 1+k*1,none⟩) ((EI m).drop k):=fun w S s hF j x hx=>by
 refine⟨⟨b,_,rfl⟩,fun q u hq=>?_⟩;have hj:=(List.getElem?_eq_some_iff.1 hx).1;rw [List.length_drop] at hj;have hj:j<6-k:=hj;rw [List.getElem?_drop] at hx
 have h0:=bO (β:=β) (F:=F) (off:=0) hH w S s hF (1+k+j) (.int .u8 x) (by
  show m.cells[1+k+j]?=_;have e:m.cells= .int .i64 m.n::(EI m).map (fun z=>Value.int .u8 z):=rfl;rw [e,show 1+k+j=(k+j)+1 by omega,List.getElem?_cons_succ,List.getElem?_map,hx]
  rfl)
 have hq0:q=0:=by
  have:=(List.getElem?_eq_some_iff.1 hq).1;simp [u8I] at this;exact this
 subst hq0;cases hq;show w.cell? ⟨b,(if 6=k then 1 else 1+k*1)+j*1+0,none⟩=_;rw [if_neg k7];rw [show 1+k*1+j*1+0=0+(1+k+j) by omega];exact h0
def okM (k:Nat)(m:Mono):Bool:=(m.E.drop k).all (fun e=>e==0)
theorem okM_eq(k:Nat)(m:Mono):okM k m=((EI m).drop k).all (fun e=>e==0):=by
 have e:EI m=m.E.map fun e=>((e.toNat:Nat):Int):=rfl;unfold okM;rw [e,←List.map_drop,List.all_map]
 congr 1
 funext u
 rw [Bool.eq_iff_iff];simp [←UInt8.toNat_inj]
theorem bBv{α:Type}{p:α→Bool}{l:List α}{i:Nat}{x:α}(h:(l.take i).all p=true)(hx:l[i]?=some x)(k:p x=true):(l.take (i+1)).all p=true:=by
 obtain⟨hi,e⟩:=List.getElem?_eq_some_iff.1 hx;rw [List.take_succ_eq_append_getElem hi,e,List.all_append,h];simp [k]
theorem bGc{α:Type}{p:α→Bool}{l:List α}{i:Nat}(h:(l.take i).all p=true)(hi:l.length≤i):l.all p=true:=by
 rwa [List.take_of_length_le hi] at h
theorem all_bad{α:Type}{p:α→Bool}{l:List α}{i:Nat}{x:α}(hx:l[i]?=some x)(k:p x=false):l.all p=false:=List.all_eq_false.2 ⟨x,List.mem_of_getElem? hx,by simp [k]⟩
theorem okM_end{k j:Nat}{m:Mono}(h:(((EI m).drop k).take j).all (fun e=>e==0)=true)(hj:((EI m).drop k).length≤j):okM k m=true:=by
 rw [okM_eq];exact bGc h hj
theorem okM_bad{k j:Nat}{m:Mono}{e:Int}(hx:((EI m).drop k)[j]?=some e)(h:e≠0):okM k m=false:=by
 rw [okM_eq];exact all_bad hx s8
theorem ei_ge{k j:Nat}{m:Mono}{e:Int}(hx:((EI m).drop k)[j]?=some e):0≤e:=by
 have:=List.mem_of_mem_drop (f4 hx);simp [EI] at this;omega
theorem le_zero{e:Int}(h:e≤0)(k:0≤e):e=0:=k7
theorem of_bad{p:List Mono}{vars:Int}{i:Nat}{m:Mono}(hx:p[i]?=some m)(h:okM (clampK vars) m=false):Value.bool false= .bool (ofB p vars):=by
 unfold ofB;rw [show p.all (fun m=>(m.E.drop (clampK vars)).all (fun e=>e==0))=false from all_bad hx h];rfl
theorem of_end{p:List Mono}{vars:Int}(h:p.all (okM (clampK vars))=true):Value.bool (cK p)= .bool (ofB p vars):=by
 unfold ofB;rw [show p.all (fun m=>(m.E.drop (clampK vars)).all (fun e=>e==0))=true from h];rfl
theorem grow_bad{l:List (List Mono)}{vars:Int}{i:Nat}{p:List Mono}(hx:l[i]?=some p)(h:(ofB p vars&&lM p)=false):Value.bool false= .bool (lK l vars):=by
 unfold lK;rw [all_bad hx h];rfl
theorem grow_end{l:List PolV}{vars:Int}(h:(polsL l).all (fun p=>ofB p vars&&lM p)=true):Value.bool (decide ((l.length:Int)≤4))= .bool (lK (polsL l) vars):=by
 unfold lK;rw [h,bW,Bool.true_and]
 congr 1
 rw [decide_eq_decide];omega
theorem of_spec(p:PolV)(vars:Int):cA prog 148 [.slice p.addr p.list.length p.cap,.int .i64 vars] [] [dO p] (fun(_:Unit)=> .bool (ofB p.list vars)) (fun _=>[]) (fun _=>[]):=by
 have hT:=dS;refine j1 func148 ntmps148 ?_;intro β hM;refine fI<|bL (gE d7) fun hp=>?_;refine bR (mK.sl (.slice p.addr p.list.length p.cap) p.list) (rC d7) ?_;refine g13 ?_;refine bX (ι:=Nat) [(0,_),(1,_),(9,_),(10,_)] ⟨rfl,rfl,rfl,rfl,e8⟩ (fun i=>[(11,.int .i64 (i:Nat))]) (fun _=>[]) (fun i=>[bD.pure (i≤p.list.length∧(p.list.take i).all (okM (clampK vars))=true)]) (fun i=>p.list.length-i) 0 ⟨rfl,e8⟩ .nil ⟨e9 (⟨k7,rfl⟩),e8⟩ ?_;rintro i;refine bL d7 fun hinv2=>?_;refine g6 ?_;refine fJ (fun hc12=>?_) fun hc12=>?_
 ·refine g6 ?_;obtain⟨x1,hx2⟩:=gx p.list i;refine ss (ixs i) ?_;refine ss (lL hx2 0) ?_;refine i7 mono_zero fun b3=>?_;refine g9 ?_;refine bM (z':=((clampK vars:Nat):Int)) (clamp_eq vars) ?_;have hcl:=clamp_le vars;refine ss (sti_arrFrom hT (k:=clampK vars) rfl rfl rfl rfl rfl rfl (clamp_le vars)) ?_;refine one ?_;refine bM (z':=(((6-clampK vars):Nat):Int)) (rfl) ?_;refine g4 ?_;refine bX (ι:=Nat) [(0,_),(1,_),(9,_),(10,_),(11,_),(19,_),(20,_)] ⟨rfl,rfl,rfl,rfl,rfl,rfl,rfl,e8⟩ (fun j=>[(21,.int .i64 (j:Nat))]) (fun _=>[]) (fun j=>[bD.pure (j≤6-clampK vars∧(((EI x1).drop (clampK vars)).take j).all (fun e=>e==0)=true)]) (fun j=>6-clampK vars-j) 0 ⟨rfl,e8⟩ .nil ⟨e9 (⟨k7,rfl⟩),e8⟩ ?_;rintro j;refine bL d7 fun hinv5=>?_;refine g6 ?_;refine fJ (fun hc22=>?_) fun hc22=>?_
  ·refine g6 ?_;obtain⟨x4,hx5⟩:=gx ((EI x1).drop (clampK vars)) j (by rw [ei_len];omega);refine ss (bI hT (k:=j) (bNi .head) rfl rfl rfl rfl rfl (ei_len x1 vars).symm rfl (by rw [ei_len];omega)) ?_;refine ss (i6 hT (dF.knows (bNi .head) (k:=j) (x:=x4) hx5 0)) ?_;refine g9 ?_;refine fJ (fun hc26=>?_) fun hc26=>?_
   ·refine g15 ?_;exact rs1 () e8 (he:=of_bad hx2 (okM_bad hx5 k7))
   refine g5 ?_;refine inc (j+1) ?_;refine g3 ?_;exact bk2 (j+1) ⟨e9 (⟨k7,bBv hinv5.2 hx5 (beq_iff_eq.2 (le_zero ‹_› (ei_ge hx5)))⟩),e8⟩
  refine g8 ?_;refine inc (i+1) ?_;refine g3 ?_;exact bk2 (i+1) ⟨e9 (⟨k7,bBv hinv2.2 hx2 (okM_end hinv5.2 (by rw [ei_len];omega))⟩),e8⟩
 refine g8 ?_;refine f9 func43 (polR_spec p hp) .nil ⟨d9,e8⟩ fun _=>?_;refine g4 ?_;exact rs1 () e8 (he:=of_end (bGc hinv2.2 k7))
theorem bNc(l:Sl PolV)(vars:Int):cA prog 80 [.slice l.addr l.list.length l.cap,.int .i64 vars] [] [rH l] (fun(_:Unit)=> .bool (lK (polsL l.list) vars)) (fun _=>[]) (fun _=>[]):=by
 have hT:=dS;refine j1 func80 ntmps80 ?_;intro β hM;refine fI<|bL (xD d7) fun hlz=>?_;have hlz2:=hlz.2;refine bR (iP.sl (.slice l.addr l.list.length l.cap) l.list) (rN d7) ?_;refine g13 ?_;refine bX (ι:=Nat) [(0,_),(1,_),(7,_),(8,_)] ⟨rfl,rfl,rfl,rfl,e8⟩ (fun i=>[(9,.int .i64 (i:Nat))]) (fun _=>[]) (fun i=>[bD.pure (i≤l.list.length∧((polsL l.list).take i).all (fun p=>ofB p vars&&lM p)=true)]) (fun i=>l.list.length-i) 0 ⟨rfl,e8⟩ .nil ⟨e9 (⟨k7,rfl⟩),e8⟩ ?_;rintro i;refine bL d7 fun hinv2=>?_;refine g6 ?_;refine fJ (fun hc10=>?_) fun hc10=>?_
 ·refine g6 ?_;obtain⟨x1,hx2⟩:=gx l.list i;refine ss (ixs i) ?_;refine ss (iX hx2 0) ?_;refine g4 ?_;refine bR (dO x1) (Has.each (rL d9) (f4 hx2))<|bL (gE d7) fun hpx1=>?_;refine g3 ?_;refine f9 func148 (of_spec x1 vars) .nil ⟨d7,e8⟩ fun _=>?_;refine g2 ?_;refine k_nt (fun hg17=>?_) fun hg17=>?_
  ·refine g18 ?_;exact rs1 () e8 (he:=grow_bad (dC hx2) (by simp_all))
  refine one ?_;refine f9 func149 (bGy x1 hpx1) .nil ⟨d7,e8⟩ fun _=>?_;refine g4 ?_;refine bKt (fun hc21=>?_) fun hc21=>?_
  ·refine g11 ?_;exact rs1 () e8 (he:=grow_bad (dC hx2) (by simp_all))
  refine g5 ?_;refine inc (i+1) ?_;refine g3 ?_;exact bk2 (i+1) ⟨e9 (⟨k7,bBv hinv2.2 (dC hx2) (by simp_all)⟩),e8⟩
 refine g14 ?_;exact rs1 () e8 (he:=grow_end (bGc hinv2.2 o8))
theorem bG{β:cX}{H:List bC}{F:List bD}{b off:Nat}{cs:List Value}(h:Has F (bD.cells b 0 cs)):nA β H F b off (cs.drop off):=fun w S _ k j u hj=>by
 rw [List.getElem?_drop] at hj;have:=(h S w k).2 (off+j) u hj
 rwa [Nat.zero_add] at this
def opV (vars loops buf:Int)(made:List Bool)(o:OpV):Bool:=
 if o.how=1 then (o.k==0)&&(((o.p.list.length:Int)==0)&&(o.fn==0))
 else if o.how=2 then ofB o.p.list vars&&((o.n==0)&&((o.k==0)&&(o.fn==0)))
 else if o.how=3 then decide (0≤o.k)&&(decide (o.k<loops)&&((o.n==0)&&(((o.p.list.length:Int)==0)&&(o.fn==0))))
 else if o.how=4 then decide (0≤o.k)&&(decide (o.k<(made.length:Int))&&((made[o.k.toNat]?).getD false&&((o.k !=buf)&&((o.n==0)&&(((o.p.list.length:Int)==0)&&(o.fn==0))))))
 else if o.how=5∨o.how=6 then jY o.fn (o.how==6)&&((o.n==0)&&((o.k==0)&&((o.p.list.length:Int)==0)))
 else false
theorem vS{vars loops buf:Int}{made:List Bool}{o:OpV}:opV vars loops buf made o=opB vars loops buf made o.c:=by
 have hp:o.c.p.isEmpty=((o.p.list.length:Int)==0):=by
  show o.p.list.isEmpty=_;rw [Bool.eq_iff_iff,List.isEmpty_iff,beq_iff_eq,Int.natCast_eq_zero,List.length_eq_zero_iff]
 unfold opV opB;rw [hp];show(if o.how=1 then _ else if o.how=2 then _ else if o.how=3 then _ else if o.how=4 then _ else if _ then _ else _)=(if o.how=1 then _ else if o.how=2 then _ else if o.how=3 then _ else if o.how=4 then _ else if _ then _ else _);split
 ·rfl
 ·split
  ·rfl
  ·split
   ·rw [Bool.eq_iff_iff];simp only [Bool.and_eq_true,decide_eq_true_eq];exact and_assoc.symm
   ·split
    ·rw [Bool.eq_iff_iff];simp only [Bool.and_eq_true,decide_eq_true_eq,List.getD_eq_getElem?_getD,bne_iff_ne];show 0≤o.k∧o.k<made.length∧(made[o.k.toNat]?).getD false=true∧o.k≠buf∧_↔(0≤o.k∧o.k≠buf)∧(made[o.k.toNat]?).getD false=true∧_;constructor
     ·rintro⟨a,_,c,d,e⟩;exact⟨⟨a,d⟩,c,e⟩
     ·rintro⟨⟨a,d⟩,c,e⟩;refine⟨a,?_,c,d,e⟩
      rcases Int.lt_or_le o.k made.length with h | h
      ·exact h
      ·rw [List.getElem?_eq_none k7] at c;cases c
    ·rfl
section
variable {vars loops buf : Int} {made : List Bool} {o : OpV}
theorem iE(h:o.how=1):opB vars loops buf made o.c=((o.k==0)&&(((o.p.list.length:Int)==0)&&(o.fn==0))):=by
 rw [←vS];unfold opV;rw [if_pos h]
theorem iA(h:o.how=2):opB vars loops buf made o.c=(ofB o.p.list vars&&((o.n==0)&&((o.k==0)&&(o.fn==0)))):=by
 rw [←vS];unfold opV;rw [if_neg k7,if_pos h]
theorem iB(h:o.how=3):opB vars loops buf made o.c=(decide (0≤o.k)&&(decide (o.k<loops)&&((o.n==0)&&(((o.p.list.length:Int)==0)&&(o.fn==0))))):=by
 rw [←vS];unfold opV;rw [if_neg k7,if_neg k7,if_pos h]
theorem iG{x:Bool}(h:o.how=4)(hx:made[o.k.toNat]?=some x):opB vars loops buf made o.c=(decide (0≤o.k)&&(decide (o.k<(made.length:Int))&&(x&&((o.k !=buf)&&((o.n==0)&&(((o.p.list.length:Int)==0)&&(o.fn==0))))))):=by
 rw [←vS];unfold opV;rw [if_neg k7,if_neg k7,if_neg k7,if_pos h,hx];rfl
theorem fP(h:o.how=4)(hx: ¬(0≤o.k∧o.k<made.length)):opB vars loops buf made o.c=false:=by
 rw [←vS];unfold opV;rw [if_neg k7,if_neg k7,if_neg k7,if_pos h]
 by_cases h0:0≤o.k
 ·rw [decide_eq_false (show ¬o.k<(made.length:Int) from fun e=>hx ⟨h0,e⟩)];simp
 ·rw [decide_eq_false h0];rfl
theorem iC(h:o.how=5):opB vars loops buf made o.c=(jY o.fn false&&((o.n==0)&&((o.k==0)&&((o.p.list.length:Int)==0)))):=by
 rw [←vS];unfold opV;rw [if_neg k7,if_neg k7,if_neg k7,if_neg k7,if_pos (.inl h),h];rfl
theorem iH(h:o.how=6):opB vars loops buf made o.c=(jY o.fn true&&((o.n==0)&&((o.k==0)&&((o.p.list.length:Int)==0)))):=by
 rw [←vS];unfold opV;rw [if_neg k7,if_neg k7,if_neg k7,if_neg k7,if_pos (.inr h),h];rfl
theorem iF(h1:o.how≠1)(h2:o.how≠2)(h3:o.how≠3)(h4:o.how≠4)(h5:o.how≠5)(h6:o.how≠6):opB vars loops buf made o.c=false:=by
 rw [←vS];unfold opV;rw [if_neg h1,if_neg h2,if_neg h3,if_neg h4,if_neg (fun h=>h.elim h5 h6)]
end
def nY {α:Type}(p:α→Bool):List α→Int→Int
 | [],_=> -1
 | s::r,i=>if p s=true then i else nY p r (i+1)
section
variable {α : Type} {p : α → Bool} {x : α} {l : List α} {i : Nat} {r : Int}
theorem mP(h:r=nY p (l.drop i) i)(hx:l[i]?=some x):(p x=true→r=i)∧(p x=false→r=nY p (l.drop (i+1)) ((i+1:Nat):Int)):=by
 rw [oP hx,nY] at h;refine⟨fun e=>by rw [if_pos e] at h;exact h,fun e=>by rw [if_neg (by rw [e];simp)] at h;rw [h];rfl⟩
theorem bAn(h:r=nY p (l.drop i) i)(hi:l.length≤i):r= -1:=by
 rw [List.drop_of_length_le hi] at h;exact h
end
theorem zW{α:Type}(p:α→Bool): ∀(l:List α) (i:Int),0≤i→decide (0≤nY p l i)=l.any p
 | [],i,_=>rfl
 | s::r,i,h=>by
  rw [nY,List.any_cons]
  cases e:p s with
  | true=>simp [h]
  | false=>
   rw [if_neg m8,zW p r (i+1) k7];simp
def pM (vars:Int)(made:List Bool)(x:gC):Bool:=
 ofB x.at_.list vars&&(lM x.at_.list&&(lK (polsL x.loops.list) vars&&(!decide ((256:Int)<x.ops.list.length)&&(!decide (nR (opsL x.ops.list)<0)&&
  ((if x.how=1 then x.fn==0 else if x.how=2∨x.how=3 then !((x.loops.list.length:Int)==0)&&jY x.fn true else false)&& !(x.ops.list.any fun o=>!opB vars x.loops.list.length x.buf made o.c))))))
theorem any_not{α:Type}(p:α→Bool)(l:List α):(!l.any fun o=>!p o)=l.all p:=by
 induction l with
 | nil=>rfl
 | cons x r ih=>rw [List.any_cons,List.all_cons,Bool.not_or,Bool.not_not,ih]
theorem iR{vars:Int}{made:List Bool}{x:gC}:pM vars made x=lU vars made x.c:=by
 have h1:x.c.ops.length=x.ops.list.length:=fK _;have h2:x.c.loops.length=x.loops.list.length:=bW _
 have h3:x.c.loops.isEmpty=((x.loops.list.length:Int)==0):=by
  show(polsL x.loops.list).isEmpty=_;rw [Bool.eq_iff_iff,List.isEmpty_iff,beq_iff_eq,Int.natCast_eq_zero,←List.length_eq_zero_iff,bW]
 have h4: ∀p:OpC→Bool,x.c.ops.all p= !(x.ops.list.any fun o=>!p o.c):=fun p=>by
  show(opsL x.ops.list).all p=_;unfold opsL;rw [List.all_map,any_not];rfl
 unfold pM lU;rw [h1,h2,h3,h4]
 have h5:(!decide ((256:Int)<x.ops.list.length))=decide (x.ops.list.length≤256):=by
  rw [←decide_not,decide_eq_decide];omega
 have h6:(!decide (nR (opsL x.ops.list)<0))=decide (0≤nR (opsL x.ops.list)):=by
  rw [←decide_not,decide_eq_decide];omega
 rw [h5,h6,Bool.and_assoc];rfl
theorem right_spec(bs:Nat)(vars loops buf:Int)(MA:Option Addr)(mc:Nat)(made:List Bool)(o:OpV):cA prog 152 [.pointer (some ⟨bs,0,none⟩),.agg #[.int .i64 o.how,.int .i64 o.k,.int .i64 o.n,.slice o.p.addr o.p.list.length o.p.cap,.int .u8 o.fn]] [] [opF o,bD.cells bs 0 [.int .i64 vars,.int .i64 loops,.int .i64 buf,.slice MA made.length mc],jR.sl (.slice MA made.length mc) made] (fun(_:Unit)=> .bool (opB vars loops buf made o.c)) (fun _=>[]) (fun _=>[]):=by
 have hT:=dS;refine j1 func152 ntmps152 ?_;intro β hM;refine g2 ?_;refine j2 fun b1=>?_;refine g4 ?_;refine fB _ _ [(true,0),(true,1),(true,2),(true,3),(true,4),(true,5),(true,6),(true,7),(true,8),(true,9),(true,10),(true,11)] dR l9 (.c0 .nil) bA.self ?_;refine g33 ?_;refine cL rfl (fun hc20=>?_) (fun hc20=>?_)
 ·have hc20_r:=hc20;have hc20:=eq_of_beq hc20;refine g12 ?_;refine bQ (t':=true) m7 ?_;refine g6 ?_;refine cY (fun hg97=>?_) (fun hg97=>?_)
  ·have hg97:=eq_of_beq hg97;refine g5 ?_;refine cY (fun hg102=>?_) (fun hg102=>?_)
   ·have hg102:=eq_of_beq hg102;refine g7 ?_;exact rs1 () e8 (he:=by first | (rw [iE ‹_›];simp [*];done) | (rw [iA ‹_›];simp [*];done) | (rw [iB ‹_›];simp [*];done) | (rw [iG ‹_› ‹_›];simp [*];done) | (rw [fP ‹_› k7];done) | (rw [iC ‹_›];simp [*];done) | (rw [iH ‹_›];simp [*];done) | rw [iF ‹_› ‹_› ‹_› ‹_› ‹_› ‹_›])
   have hg102:=beq_eq_false_iff_ne.1 hg102;refine g7 ?_;exact rs1 () e8 (he:=by first | (rw [iE ‹_›];simp [*];done) | (rw [iA ‹_›];simp [*];done) | (rw [iB ‹_›];simp [*];done) | (rw [iG ‹_› ‹_›];simp [*];done) | (rw [fP ‹_› k7];done) | (rw [iC ‹_›];simp [*];done) | (rw [iH ‹_›];simp [*];done) | rw [iF ‹_› ‹_› ‹_› ‹_› ‹_› ‹_›])
  have hg97:=beq_eq_false_iff_ne.1 hg97;refine g12 ?_;exact rs1 () e8 (he:=by first | (rw [iE ‹_›];simp [*];done) | (rw [iA ‹_›];simp [*];done) | (rw [iB ‹_›];simp [*];done) | (rw [iG ‹_› ‹_›];simp [*];done) | (rw [fP ‹_› k7];done) | (rw [iC ‹_›];simp [*];done) | (rw [iH ‹_›];simp [*];done) | rw [iF ‹_› ‹_› ‹_› ‹_› ‹_› ‹_›])
 have hc20_r:=hc20;have hc20:=beq_eq_false_iff_ne.1 hc20;refine g6 ?_;refine cL rfl (fun hc22=>?_) (fun hc22=>?_)
 ·have hc22_r:=hc22;have hc22:=eq_of_beq hc22;refine fB _ _ [(true,0),(true,1),(true,2),(true,3),(true,4),(true,5),(false,6),(true,7),(true,8)] dR l9 (.c0 .nil) bA.self ?_;refine g5 ?_;refine stM rfl (i6 hT (bG (off:=0) d8)) ?_;refine one ?_;refine f9 func148 (of_spec o.p vars) .nil ⟨d7,e8⟩ fun _=>?_;refine g10 ?_;refine cY (fun hg89=>?_) (fun hg89=>?_)
  ·refine g4 ?_;refine cY (fun hg93=>?_) (fun hg93=>?_)
   ·have hg93:=eq_of_beq hg93;refine g4 ?_;refine cY (fun hg97=>?_) (fun hg97=>?_)
    ·have hg97:=eq_of_beq hg97;refine g3 ?_;refine bQ (t':=true) m7 ?_;refine g9 ?_;exact rs1 () e8 (he:=by first | (rw [iE ‹_›];simp [*];done) | (rw [iA ‹_›];simp [*];done) | (rw [iB ‹_›];simp [*];done) | (rw [iG ‹_› ‹_›];simp [*];done) | (rw [fP ‹_› k7];done) | (rw [iC ‹_›];simp [*];done) | (rw [iH ‹_›];simp [*];done) | rw [iF ‹_› ‹_› ‹_› ‹_› ‹_› ‹_›])
    have hg97:=beq_eq_false_iff_ne.1 hg97;refine g12 ?_;exact rs1 () e8 (he:=by first | (rw [iE ‹_›];simp [*];done) | (rw [iA ‹_›];simp [*];done) | (rw [iB ‹_›];simp [*];done) | (rw [iG ‹_› ‹_›];simp [*];done) | (rw [fP ‹_› k7];done) | (rw [iC ‹_›];simp [*];done) | (rw [iH ‹_›];simp [*];done) | rw [iF ‹_› ‹_› ‹_› ‹_› ‹_› ‹_›])
   have hg93:=beq_eq_false_iff_ne.1 hg93;refine g16 ?_;exact rs1 () e8 (he:=by first | (rw [iE ‹_›];simp [*];done) | (rw [iA ‹_›];simp [*];done) | (rw [iB ‹_›];simp [*];done) | (rw [iG ‹_› ‹_›];simp [*];done) | (rw [fP ‹_› k7];done) | (rw [iC ‹_›];simp [*];done) | (rw [iH ‹_›];simp [*];done) | rw [iF ‹_› ‹_› ‹_› ‹_› ‹_› ‹_›])
  refine g20 ?_;exact rs1 () e8 (he:=by first | (rw [iE ‹_›];simp [*];done) | (rw [iA ‹_›];simp [*];done) | (rw [iB ‹_›];simp [*];done) | (rw [iG ‹_› ‹_›];simp [*];done) | (rw [fP ‹_› k7];done) | (rw [iC ‹_›];simp [*];done) | (rw [iH ‹_›];simp [*];done) | rw [iF ‹_› ‹_› ‹_› ‹_› ‹_› ‹_›])
 have hc22_r:=hc22;have hc22:=beq_eq_false_iff_ne.1 hc22;refine g6 ?_;refine cL rfl (fun hc31=>?_) (fun hc31=>?_)
 ·have hc31_r:=hc31;have hc31:=eq_of_beq hc31;refine fB _ _ [(true,0),(true,1),(true,2),(true,3),(true,4),(true,5),(true,6),(true,7),(true,8),(true,9),(true,10),(true,11),(true,12),(true,13)] dR l9 (.c0 .nil) bA.self ?_;refine g4 ?_;refine cY (fun hg36=>?_) (fun hg36=>?_)
  ·have hg36:=of_decide_eq_true hg36;refine g5 ?_;refine stM rfl (i6 hT (bG (off:=1) d8)) ?_;refine g11 ?_;refine cY (fun hg89=>?_) (fun hg89=>?_)
   ·have hg89:=of_decide_eq_true hg89;refine g4 ?_;refine cY (fun hg93=>?_) (fun hg93=>?_)
    ·have hg93:=eq_of_beq hg93;refine g2 ?_;refine bQ (t':=true) m7 ?_;refine g7 ?_;refine cY (fun hg102=>?_) (fun hg102=>?_)
     ·have hg102:=eq_of_beq hg102;refine g7 ?_;exact rs1 () e8 (he:=by first | (rw [iE ‹_›];simp [*];done) | (rw [iA ‹_›];simp [*];done) | (rw [iB ‹_›];simp [*];done) | (rw [iG ‹_› ‹_›];simp [*];done) | (rw [fP ‹_› k7];done) | (rw [iC ‹_›];simp [*];done) | (rw [iH ‹_›];simp [*];done) | rw [iF ‹_› ‹_› ‹_› ‹_› ‹_› ‹_›])
     have hg102:=beq_eq_false_iff_ne.1 hg102;refine g7 ?_;exact rs1 () e8 (he:=by first | (rw [iE ‹_›];simp [*];done) | (rw [iA ‹_›];simp [*];done) | (rw [iB ‹_›];simp [*];done) | (rw [iG ‹_› ‹_›];simp [*];done) | (rw [fP ‹_› k7];done) | (rw [iC ‹_›];simp [*];done) | (rw [iH ‹_›];simp [*];done) | rw [iF ‹_› ‹_› ‹_› ‹_› ‹_› ‹_›])
    have hg93:=beq_eq_false_iff_ne.1 hg93;refine g16 ?_;exact rs1 () e8 (he:=by first | (rw [iE ‹_›];simp [*];done) | (rw [iA ‹_›];simp [*];done) | (rw [iB ‹_›];simp [*];done) | (rw [iG ‹_› ‹_›];simp [*];done) | (rw [fP ‹_› k7];done) | (rw [iC ‹_›];simp [*];done) | (rw [iH ‹_›];simp [*];done) | rw [iF ‹_› ‹_› ‹_› ‹_› ‹_› ‹_›])
   have hg89:=Int.not_lt.1 (of_decide_eq_false hg89);refine g20 ?_;exact rs1 () e8 (he:=by first | (rw [iE ‹_›];simp [*];done) | (rw [iA ‹_›];simp [*];done) | (rw [iB ‹_›];simp [*];done) | (rw [iG ‹_› ‹_›];simp [*];done) | (rw [fP ‹_› k7];done) | (rw [iC ‹_›];simp [*];done) | (rw [iH ‹_›];simp [*];done) | rw [iF ‹_› ‹_› ‹_› ‹_› ‹_› ‹_›])
  have hg36:=Int.not_le.1 (of_decide_eq_false hg36);refine g37 ?_;exact rs1 () e8 (he:=by first | (rw [iE ‹_›];simp [*];done) | (rw [iA ‹_›];simp [*];done) | (rw [iB ‹_›];simp [*];done) | (rw [iG ‹_› ‹_›];simp [*];done) | (rw [fP ‹_› k7];done) | (rw [iC ‹_›];simp [*];done) | (rw [iH ‹_›];simp [*];done) | rw [iF ‹_› ‹_› ‹_› ‹_› ‹_› ‹_›])
 have hc31_r:=hc31;have hc31:=beq_eq_false_iff_ne.1 hc31;refine g6 ?_;refine cL rfl (fun hc45=>?_) (fun hc45=>?_)
 ·have hc45_r:=hc45;have hc45:=eq_of_beq hc45;refine fB _ _ [(true,0),(true,1),(true,2),(true,3),(true,4),(true,5),(true,6),(true,7),(true,8),(true,9),(true,10),(true,11),(true,12),(true,13),(true,14),(true,15),(true,16),(true,17),(true,18),(true,19),(true,20),(true,21),(true,22),(true,23),(true,24),(true,25),(true,26),(true,27),(true,28),(true,29),(true,30),(true,31),(true,32),(true,33)] dR l9 (.c0 .nil) bA.self ?_;refine g4 ?_;refine cY (fun hg50=>?_) (fun hg50=>?_)
  ·have hg50:=of_decide_eq_true hg50;refine g5 ?_;refine stM rfl (i6 hT (bG (off:=3) d8)) ?_;refine g4 ?_;refine cY (fun hg60=>?_) (fun hg60=>?_)
   ·have hg60:=of_decide_eq_true hg60;refine g3 ?_;refine stM rfl (i6 hT (bG (off:=3) d8)) ?_;refine g2 ?_;obtain⟨x3,hx4⟩:=gx made o.k.toNat;refine stM rfl (bI hT (k:=o.k.toNat) (bV d9) rfl rfl rfl rfl rfl rfl k7 k7) ?_;refine stM rfl (iX hx4 0) ?_;refine g2 ?_;refine cY (fun hg70=>?_) (fun hg70=>?_)
    ·refine g5 ?_;refine stM rfl (i6 hT (bG (off:=2) d8)) ?_;refine g11 ?_;refine cY (fun hg89=>?_) (fun hg89=>?_)
     ·have hg89:=bne_iff_ne.1 hg89;refine g4 ?_;refine cY (fun hg93=>?_) (fun hg93=>?_)
      ·have hg93:=eq_of_beq hg93;refine g2 ?_;refine bQ (t':=true) m7 ?_;refine g7 ?_;refine cY (fun hg102=>?_) (fun hg102=>?_)
       ·have hg102:=eq_of_beq hg102;refine g7 ?_;exact rs1 () e8 (he:=by first | (rw [iE ‹_›];simp [*];done) | (rw [iA ‹_›];simp [*];done) | (rw [iB ‹_›];simp [*];done) | (rw [iG ‹_› ‹_›];simp [*];done) | (rw [fP ‹_› k7];done) | (rw [iC ‹_›];simp [*];done) | (rw [iH ‹_›];simp [*];done) | rw [iF ‹_› ‹_› ‹_› ‹_› ‹_› ‹_›])
       have hg102:=beq_eq_false_iff_ne.1 hg102;refine g7 ?_;exact rs1 () e8 (he:=by first | (rw [iE ‹_›];simp [*];done) | (rw [iA ‹_›];simp [*];done) | (rw [iB ‹_›];simp [*];done) | (rw [iG ‹_› ‹_›];simp [*];done) | (rw [fP ‹_› k7];done) | (rw [iC ‹_›];simp [*];done) | (rw [iH ‹_›];simp [*];done) | rw [iF ‹_› ‹_› ‹_› ‹_› ‹_› ‹_›])
      have hg93:=beq_eq_false_iff_ne.1 hg93;refine g16 ?_;exact rs1 () e8 (he:=by first | (rw [iE ‹_›];simp [*];done) | (rw [iA ‹_›];simp [*];done) | (rw [iB ‹_›];simp [*];done) | (rw [iG ‹_› ‹_›];simp [*];done) | (rw [fP ‹_› k7];done) | (rw [iC ‹_›];simp [*];done) | (rw [iH ‹_›];simp [*];done) | rw [iF ‹_› ‹_› ‹_› ‹_› ‹_› ‹_›])
     have hg89:=bne_eq_false_iff_eq.1 hg89;refine g20 ?_;exact rs1 () e8 (he:=by first | (rw [iE ‹_›];simp [*];done) | (rw [iA ‹_›];simp [*];done) | (rw [iB ‹_›];simp [*];done) | (rw [iG ‹_› ‹_›];simp [*];done) | (rw [fP ‹_› k7];done) | (rw [iC ‹_›];simp [*];done) | (rw [iH ‹_›];simp [*];done) | rw [iF ‹_› ‹_› ‹_› ‹_› ‹_› ‹_›])
    refine g37 ?_;exact rs1 () e8 (he:=by first | (rw [iE ‹_›];simp [*];done) | (rw [iA ‹_›];simp [*];done) | (rw [iB ‹_›];simp [*];done) | (rw [iG ‹_› ‹_›];simp [*];done) | (rw [fP ‹_› k7];done) | (rw [iC ‹_›];simp [*];done) | (rw [iH ‹_›];simp [*];done) | rw [iF ‹_› ‹_› ‹_› ‹_› ‹_› ‹_›])
   have hg60:=Int.not_lt.1 (of_decide_eq_false hg60);refine g40 ?_;refine g7 ?_;exact rs1 () e8 (he:=by first | (rw [iE ‹_›];simp [*];done) | (rw [iA ‹_›];simp [*];done) | (rw [iB ‹_›];simp [*];done) | (rw [iG ‹_› ‹_›];simp [*];done) | (rw [fP ‹_› k7];done) | (rw [iC ‹_›];simp [*];done) | (rw [iH ‹_›];simp [*];done) | rw [iF ‹_› ‹_› ‹_› ‹_› ‹_› ‹_›])
  have hg50:=Int.not_le.1 (of_decide_eq_false hg50);refine g40 ?_;refine g17 ?_;exact rs1 () e8 (he:=by first | (rw [iE ‹_›];simp [*];done) | (rw [iA ‹_›];simp [*];done) | (rw [iB ‹_›];simp [*];done) | (rw [iG ‹_› ‹_›];simp [*];done) | (rw [fP ‹_› k7];done) | (rw [iC ‹_›];simp [*];done) | (rw [iH ‹_›];simp [*];done) | rw [iF ‹_› ‹_› ‹_› ‹_› ‹_› ‹_›])
 have hc45_r:=hc45;have hc45:=beq_eq_false_iff_ne.1 hc45;refine g7 ?_;refine cL rfl (fun hc79=>?_) (fun hc79=>?_)
 ·have hc79_r:=hc79;have hc79:=eq_of_beq hc79;refine g2 ?_;refine lY rfl hc79_r ?_;refine g6 ?_;refine bQ (t':=false) (by rw [hc79];rfl) ?_;refine f9 func100 (rX _ _) .nil e8 fun _=>?_;refine g9 ?_;refine cY (fun hg89=>?_) (fun hg89=>?_)
  ·refine g4 ?_;refine cY (fun hg93=>?_) (fun hg93=>?_)
   ·have hg93:=eq_of_beq hg93;refine g4 ?_;refine cY (fun hg97=>?_) (fun hg97=>?_)
    ·have hg97:=eq_of_beq hg97;refine g5 ?_;refine cY (fun hg102=>?_) (fun hg102=>?_)
     ·have hg102:=eq_of_beq hg102;refine g2 ?_;refine bQ (t':=true) m7 ?_;refine g5 ?_;exact rs1 () e8 (he:=by first | (rw [iE ‹_›];simp [*];done) | (rw [iA ‹_›];simp [*];done) | (rw [iB ‹_›];simp [*];done) | (rw [iG ‹_› ‹_›];simp [*];done) | (rw [fP ‹_› k7];done) | (rw [iC ‹_›];simp [*];done) | (rw [iH ‹_›];simp [*];done) | rw [iF ‹_› ‹_› ‹_› ‹_› ‹_› ‹_›])
     have hg102:=beq_eq_false_iff_ne.1 hg102;refine g7 ?_;exact rs1 () e8 (he:=by first | (rw [iE ‹_›];simp [*];done) | (rw [iA ‹_›];simp [*];done) | (rw [iB ‹_›];simp [*];done) | (rw [iG ‹_› ‹_›];simp [*];done) | (rw [fP ‹_› k7];done) | (rw [iC ‹_›];simp [*];done) | (rw [iH ‹_›];simp [*];done) | rw [iF ‹_› ‹_› ‹_› ‹_› ‹_› ‹_›])
    have hg97:=beq_eq_false_iff_ne.1 hg97;refine g12 ?_;exact rs1 () e8 (he:=by first | (rw [iE ‹_›];simp [*];done) | (rw [iA ‹_›];simp [*];done) | (rw [iB ‹_›];simp [*];done) | (rw [iG ‹_› ‹_›];simp [*];done) | (rw [fP ‹_› k7];done) | (rw [iC ‹_›];simp [*];done) | (rw [iH ‹_›];simp [*];done) | rw [iF ‹_› ‹_› ‹_› ‹_› ‹_› ‹_›])
   have hg93:=beq_eq_false_iff_ne.1 hg93;refine g16 ?_;exact rs1 () e8 (he:=by first | (rw [iE ‹_›];simp [*];done) | (rw [iA ‹_›];simp [*];done) | (rw [iB ‹_›];simp [*];done) | (rw [iG ‹_› ‹_›];simp [*];done) | (rw [fP ‹_› k7];done) | (rw [iC ‹_›];simp [*];done) | (rw [iH ‹_›];simp [*];done) | rw [iF ‹_› ‹_› ‹_› ‹_› ‹_› ‹_›])
  refine g20 ?_;exact rs1 () e8 (he:=by first | (rw [iE ‹_›];simp [*];done) | (rw [iA ‹_›];simp [*];done) | (rw [iB ‹_›];simp [*];done) | (rw [iG ‹_› ‹_›];simp [*];done) | (rw [fP ‹_› k7];done) | (rw [iC ‹_›];simp [*];done) | (rw [iH ‹_›];simp [*];done) | rw [iF ‹_› ‹_› ‹_› ‹_› ‹_› ‹_›])
 have hc79_r:=hc79;have hc79:=beq_eq_false_iff_ne.1 hc79;refine g5 ?_;refine cL rfl (fun hc79_5=>?_) (fun hc79_5=>?_)
 ·have hc79_5_r:=hc79_5;have hc79_5:=eq_of_beq hc79_5;refine g6 ?_;refine bQ (t':=true) (by rw [hc79_5];rfl) ?_;refine f9 func100 (rX _ _) .nil e8 fun _=>?_;refine g9 ?_;refine cY (fun hg89=>?_) (fun hg89=>?_)
  ·refine g4 ?_;refine cY (fun hg93=>?_) (fun hg93=>?_)
   ·have hg93:=eq_of_beq hg93;refine g4 ?_;refine cY (fun hg97=>?_) (fun hg97=>?_)
    ·have hg97:=eq_of_beq hg97;refine g5 ?_;refine cY (fun hg102=>?_) (fun hg102=>?_)
     ·have hg102:=eq_of_beq hg102;refine g2 ?_;refine bQ (t':=true) m7 ?_;refine g5 ?_;exact rs1 () e8 (he:=by first | (rw [iE ‹_›];simp [*];done) | (rw [iA ‹_›];simp [*];done) | (rw [iB ‹_›];simp [*];done) | (rw [iG ‹_› ‹_›];simp [*];done) | (rw [fP ‹_› k7];done) | (rw [iC ‹_›];simp [*];done) | (rw [iH ‹_›];simp [*];done) | rw [iF ‹_› ‹_› ‹_› ‹_› ‹_› ‹_›])
     have hg102:=beq_eq_false_iff_ne.1 hg102;refine g7 ?_;exact rs1 () e8 (he:=by first | (rw [iE ‹_›];simp [*];done) | (rw [iA ‹_›];simp [*];done) | (rw [iB ‹_›];simp [*];done) | (rw [iG ‹_› ‹_›];simp [*];done) | (rw [fP ‹_› k7];done) | (rw [iC ‹_›];simp [*];done) | (rw [iH ‹_›];simp [*];done) | rw [iF ‹_› ‹_› ‹_› ‹_› ‹_› ‹_›])
    have hg97:=beq_eq_false_iff_ne.1 hg97;refine g12 ?_;exact rs1 () e8 (he:=by first | (rw [iE ‹_›];simp [*];done) | (rw [iA ‹_›];simp [*];done) | (rw [iB ‹_›];simp [*];done) | (rw [iG ‹_› ‹_›];simp [*];done) | (rw [fP ‹_› k7];done) | (rw [iC ‹_›];simp [*];done) | (rw [iH ‹_›];simp [*];done) | rw [iF ‹_› ‹_› ‹_› ‹_› ‹_› ‹_›])
   have hg93:=beq_eq_false_iff_ne.1 hg93;refine g16 ?_;exact rs1 () e8 (he:=by first | (rw [iE ‹_›];simp [*];done) | (rw [iA ‹_›];simp [*];done) | (rw [iB ‹_›];simp [*];done) | (rw [iG ‹_› ‹_›];simp [*];done) | (rw [fP ‹_› k7];done) | (rw [iC ‹_›];simp [*];done) | (rw [iH ‹_›];simp [*];done) | rw [iF ‹_› ‹_› ‹_› ‹_› ‹_› ‹_›])
  refine g20 ?_;exact rs1 () e8 (he:=by first | (rw [iE ‹_›];simp [*];done) | (rw [iA ‹_›];simp [*];done) | (rw [iB ‹_›];simp [*];done) | (rw [iG ‹_› ‹_›];simp [*];done) | (rw [fP ‹_› k7];done) | (rw [iC ‹_›];simp [*];done) | (rw [iH ‹_›];simp [*];done) | rw [iF ‹_› ‹_› ‹_› ‹_› ‹_› ‹_›])
 have hc79_5_r:=hc79_5;have hc79_5:=beq_eq_false_iff_ne.1 hc79_5;refine g27 ?_;exact rs1 () e8 (he:=by first | (rw [iE ‹_›];simp [*];done) | (rw [iA ‹_›];simp [*];done) | (rw [iB ‹_›];simp [*];done) | (rw [iG ‹_› ‹_›];simp [*];done) | (rw [fP ‹_› k7];done) | (rw [iC ‹_›];simp [*];done) | (rw [iH ‹_›];simp [*];done) | rw [iF ‹_› ‹_› ‹_› ‹_› ‹_› ‹_›])
theorem zB(bp:Nat)(bs:Nat)(vars loops buf:Int)(MA:Option Addr)(mc:Nat)(made:List Bool)(o:OpV):cA prog 151 [.agg #[.int .i64 o.how,.int .i64 o.k,.int .i64 o.n,.slice o.p.addr o.p.list.length o.p.cap,.int .u8 o.fn],.pointer (some ⟨bp,0,none⟩)] [] [opF o,bD.cells bp 0 [.pointer (some ⟨bs,0,none⟩)],bD.cells bs 0 [.int .i64 vars,.int .i64 loops,.int .i64 buf,.slice MA made.length mc],jR.sl (.slice MA made.length mc) made] (fun(_:Unit)=> .bool (!opB vars loops buf made o.c)) (fun _=>[]) (fun _=>[]):=by
 have hT:=dS;refine j1 func151 ntmps151 ?_;intro β hM;refine g2 ?_;refine j2 fun b1=>?_;refine g5 ?_;refine ss (i6 hT (bG (off:=0) d8)) ?_;refine one ?_;refine f9 func152 (right_spec bs vars loops buf MA mc made o) .nil ⟨d7,d9,e6,e8⟩ fun _=>?_;refine g5 ?_;exact rs1 () trivial
theorem indexFO_spec(A:Option Addr)(c:Nat)(l:List OpV)(hl:l.length≤140737488355328)(f:FuncId)(cap:List Value)(G:List bD)(p:OpV→Bool)(hcf: ∀(args:Array Value) (w:World),(callFunc f args).run prog w= .ok (.enter f args) w)(hf: ∀o:OpV,cA prog f (.agg #[.int .i64 o.how,.int .i64 o.k,.int .i64 o.n,.slice o.p.addr o.p.list.length o.p.cap,.int .u8 o.fn]::cap) [] (opF o::G) (fun _:Unit=> .bool (p o)) (fun _=>[]) (fun _=>[])):cA prog 212 [.slice A l.length c,.func (.func f) #[] cap.toArray] [] (opE.sl (.slice A l.length c) l::bD.each l opF::G) (fun(_:Unit)=> .int .i64 (nY p l 0)) (fun _=>[]) (fun _=>[]):=by
 have hT:=dS;generalize hR:nY p l 0=r;refine j1 func212 ntmps212 ?_;intro β hM;refine g14 ?_;refine bX (ι:=Nat) [(0,_),(1,_),(7,_)] ⟨rfl,rfl,rfl,e8⟩ (fun i=>[(8,.int .i64 (i:Nat))]) (fun _=>[]) (fun i=>[bD.pure (i≤l.length∧r=nY p (l.drop i) i)]) (fun i=>l.length-i) 0 ⟨rfl,e8⟩ .nil ⟨e9 (⟨k7,hR.symm⟩),e8⟩ ?_;rintro i;refine bL d7 fun hinv2=>?_;refine g6 ?_;refine fJ (fun hc9=>?_) fun hc9=>?_
 ·refine g15 ?_;obtain⟨x1,hx2⟩:=gx l i;refine ss (ixs i) ?_;refine ss (lL hx2 0) ?_;refine kU hcf (hf x1) rfl rfl rfl rfl rfl rfl rfl .nil ⟨Has.each d9 (f4 hx2),bA.drop 3⟩ fun _=>?_;refine g2 ?_;refine xJ (fun hc16=>?_) fun hc16=>?_
  ·refine g12 ?_;obtain rfl:=(mP hinv2.2 hx2).1 ‹_›;exact rs1 () trivial
  refine g5 ?_;refine inc (i+1) ?_;refine g3 ?_;exact bk2 (i+1) ⟨e9 (⟨k7,(mP hinv2.2 hx2).2 ‹_›⟩),e8⟩
 refine g11 ?_;have hr:=bAn hinv2.2 k7;subst hr;exact rs1 () trivial
theorem pG(A:Option Addr)(c:Nat)(l:List OpV)(hl:l.length≤140737488355328)(f:FuncId)(cap:List Value)(G:List bD)(p:OpV→Bool)(hcf: ∀(args:Array Value) (w:World),(callFunc f args).run prog w= .ok (.enter f args) w)(hf: ∀o:OpV,cA prog f (.agg #[.int .i64 o.how,.int .i64 o.k,.int .i64 o.n,.slice o.p.addr o.p.list.length o.p.cap,.int .u8 o.fn]::cap) [] (opF o::G) (fun _:Unit=> .bool (p o)) (fun _=>[]) (fun _=>[])):cA prog 150 [.slice A l.length c,.func (.func f) #[] cap.toArray] [] (opE.sl (.slice A l.length c) l::bD.each l opF::G) (fun(_:Unit)=> .bool (l.any p)) (fun _=>[]) (fun _=>[]):=by
 have hT:=dS;refine j1 func150 ntmps150 ?_;intro β hM;refine g9 ?_;refine f9 func212 (indexFO_spec A c l hl f cap G p hcf hf) .nil bA.self fun _=>?_;refine g5 ?_;exact rs1 () e8 (he:=congrArg Value.bool (zW p l 0 m7))
theorem step_spec(bs:Nat)(vars loops buf:Int)(MA:Option Addr)(mc:Nat)(made:List Bool)(x:gC):cA prog 81 [.pointer (some ⟨bs,0,none⟩),.agg #[.int .i64 x.how,.int .i64 x.buf,.slice x.at_.addr x.at_.list.length x.at_.cap,.slice x.loops.addr x.loops.list.length x.loops.cap,.int .u8 x.fn,.slice x.ops.addr x.ops.list.length x.ops.cap]] [.obj bs (.cells [.int .i64 vars,.int .i64 loops,.int .i64 buf,.slice MA made.length mc].toArray 201)] [nN x,jR.sl (.slice MA made.length mc) made] (fun(_:Int×Int)=> .bool (lU vars made x.c)) (fun(y:Int×Int)=>[.obj bs (.cells [.int .i64 vars,.int .i64 y.1,.int .i64 y.2,.slice MA made.length mc].toArray 201)]) (fun _=>[]):=by
 have hT:=dS;refine j1 func81 ntmps81 ?_;intro β hM;refine g2 ?_;refine j2 fun b1=>?_;refine j2 fun b2=>?_;refine g5 ?_;refine bR (dO x.at_) (stepF_a d7)<|bL (gE d7) fun hpa=>bR (rH x.loops) (rR d8)<|bL (opsF_c (oN d9)) fun hoz=>?_;have hoz2:=hoz.2;refine bR (bD.each x.ops.list opF) (opsF_e (oN d9))<|bR (opE.sl (.slice x.ops.addr x.ops.list.length x.ops.cap) x.ops.list) (opsF_s (oN e6)) ?_;refine fB _ _ [(true,0),(true,1),(true,2),(true,3),(true,4),(true,5),(false,6),(true,7),(true,8),(true,9),(true,10),(false,11),(true,12),(true,13),(true,14),(true,15),(true,16),(true,17),(true,18),(true,19),(true,20),(false,21),(true,22),(true,23),(true,24),(true,25),(true,26),(true,27),(true,28),(true,29),(true,30),(true,31),(true,32),(false,33),(true,34),(true,35)] dR l9 (.c0 (.c0 (.c0 .nil))) bA.self ?_;refine g7 ?_;refine f9 func148 (of_spec x.at_ vars) .nil ⟨e6,e8⟩ fun _=>?_;refine g3 ?_;refine cY (fun hg13=>?_) (fun hg13=>?_)
 ·have hg13:=bDs hg13;refine g40 ?_;refine g3 ?_;exact rs1 (_,_) e8 (he:=by rw [←iR];simp [pM, *])
 have hg13:=bEq hg13;refine g3 ?_;refine f9 func149 (bGy x.at_ hpa) .nil ⟨e6,e8⟩ fun _=>?_;refine g4 ?_;refine cY (fun hg19=>?_) (fun hg19=>?_)
 ·have hg19:=bDs hg19;refine g35 ?_;exact rs1 (_,_) e8 (he:=by rw [←iR];simp [pM, *])
 have hg19:=bEq hg19;refine g7 ?_;refine f9 func80 (bNc x.loops vars) .nil ⟨d9,e8⟩ fun _=>?_;refine g4 ?_;refine cY (fun hg29=>?_) (fun hg29=>?_)
 ·have hg29:=bDs hg29;refine g23 ?_;exact rs1 (_,_) e8 (he:=by rw [←iR];simp [pM, *])
 have hg29:=bEq hg29;refine g6 ?_;refine cY (fun hg35=>?_) (fun hg35=>?_)
 ·have hg35:=of_decide_eq_true hg35;refine g17 ?_;exact rs1 (_,_) e8 (he:=by rw [←iR];simp [pM, *])
 have hg35:=Int.not_lt.1 (of_decide_eq_false hg35);refine g3 ?_;refine bH func23 (bKl x.ops.addr x.ops.cap x.ops.list k7) rfl rfl .nil ⟨d7,d8,e8⟩ fun _=>?_;refine g5 ?_;refine cL rfl (fun hc40=>?_) (fun hc40=>?_)
 ·have hc40_r:=hc40;have hc40:=of_decide_eq_true hc40;refine g7 ?_;exact rs1 (_,_) e8 (he:=by rw [←iR];simp [pM, *])
 have hc40_r:=hc40;have hc40:=Int.not_lt.1 (of_decide_eq_false hc40);refine g16 ?_;refine cL rfl (fun hc43=>?_) (fun hc43=>?_)
 ·have hc43_r:=hc43;have hc43:=eq_of_beq hc43;refine g7 ?_;refine cL rfl (fun hc47=>?_) (fun hc47=>?_)
  ·have hc47_r:=hc47;have hc47:=bne_iff_ne.1 hc47;refine g8 ?_;exact rs1 (_,_) e8 (he:=by rw [←iR];simp [pM, *])
  have hc47_r:=hc47;have hc47:=bne_eq_false_iff_eq.1 hc47;refine g4 ?_;refine fB _ _ [(true,0),(true,1),(true,2),(true,3),(true,4),(true,5),(true,6),(true,7),(true,8),(false,9),(true,10),(true,11),(false,12)] dR l9 (.c0 (.c0 .nil)) bA.self ?_;refine g24 ?_;refine iQ (j4 func150) (pG x.ops.addr x.ops.cap x.ops.list k7 151 [.pointer (some ⟨b1,0,none⟩)] [bD.cells b1 0 [.pointer (some ⟨bs,0,none⟩)],bD.cells bs 0 [.int .i64 vars,.int .i64 x.loops.list.length,.int .i64 x.buf,.slice MA made.length mc],jR.sl (.slice MA made.length mc) made] (fun o=>!opB vars x.loops.list.length x.buf made o.c) (j4 func151) (fun o=>zB b1 bs vars x.loops.list.length x.buf MA mc made o)) rfl rfl rfl rfl rfl .nil (.c2 (.c0 .nil)) (lA (lA mL)) ⟨d9,e6,d7,d8,Has.of mT7,e8⟩ (fun _=>True) (fun _ _ _ _=>trivial) fun _ _=>?_;refine g5 ?_;exact rs1 (_,_) e8 (he:=by rw [←iR];simp [pM, *])
 have hc43_r:=hc43;have hc43:=beq_eq_false_iff_ne.1 hc43;refine g7 ?_;refine cL rfl (fun hc48=>?_) (fun hc48=>?_)
 ·have hc48_r:=hc48;have hc48:=eq_of_beq hc48;refine g2 ?_;refine lY rfl hc48_r ?_;refine g7 ?_;refine cY (fun hg55=>?_) (fun hg55=>?_)
  ·have hg55:=eq_of_beq hg55;refine g16 ?_;exact rs1 (_,_) e8 (he:=by rw [←iR];simp [pM, *])
  have hg55:=beq_eq_false_iff_ne.1 hg55;refine g2 ?_;refine f9 func100 (rX _ _) .nil e8 fun _=>?_;refine g4 ?_;refine cL rfl (fun hc60=>?_) (fun hc60=>?_)
  ·have hc60_r:=hc60;have hc60:=bDs hc60;refine g8 ?_;exact rs1 (_,_) e8 (he:=by rw [←iR];simp [pM, *])
  have hc60_r:=hc60;have hc60:=bEq hc60;refine g4 ?_;refine fB _ _ [(true,0),(true,1),(true,2),(true,3),(true,4),(true,5),(true,6),(true,7),(true,8),(false,9),(true,10),(true,11),(false,12)] dR l9 (.c0 (.c0 .nil)) bA.self ?_;refine g24 ?_;refine iQ (j4 func150) (pG x.ops.addr x.ops.cap x.ops.list k7 151 [.pointer (some ⟨b1,0,none⟩)] [bD.cells b1 0 [.pointer (some ⟨bs,0,none⟩)],bD.cells bs 0 [.int .i64 vars,.int .i64 x.loops.list.length,.int .i64 x.buf,.slice MA made.length mc],jR.sl (.slice MA made.length mc) made] (fun o=>!opB vars x.loops.list.length x.buf made o.c) (j4 func151) (fun o=>zB b1 bs vars x.loops.list.length x.buf MA mc made o)) rfl rfl rfl rfl rfl .nil (.c2 (.c0 .nil)) (lA (lA mL)) ⟨d9,e6,d7,d8,Has.of mT7,e8⟩ (fun _=>True) (fun _ _ _ _=>trivial) fun _ _=>?_;refine g5 ?_;exact rs1 (_,_) e8 (he:=by rw [←iR];simp [pM, *])
 have hc48_r:=hc48;have hc48:=beq_eq_false_iff_ne.1 hc48;refine g5 ?_;refine cL rfl (fun hc48_4=>?_) (fun hc48_4=>?_)
 ·have hc48_4_r:=hc48_4;have hc48_4:=eq_of_beq hc48_4;refine g7 ?_;refine cY (fun hg55=>?_) (fun hg55=>?_)
  ·have hg55:=eq_of_beq hg55;refine g16 ?_;exact rs1 (_,_) e8 (he:=by rw [←iR];simp [pM, *])
  have hg55:=beq_eq_false_iff_ne.1 hg55;refine g2 ?_;refine f9 func100 (rX _ _) .nil e8 fun _=>?_;refine g4 ?_;refine cL rfl (fun hc60=>?_) (fun hc60=>?_)
  ·have hc60_r:=hc60;have hc60:=bDs hc60;refine g8 ?_;exact rs1 (_,_) e8 (he:=by rw [←iR];simp [pM, *])
  have hc60_r:=hc60;have hc60:=bEq hc60;refine g4 ?_;refine fB _ _ [(true,0),(true,1),(true,2),(true,3),(true,4),(true,5),(true,6),(true,7),(true,8),(false,9),(true,10),(true,11),(false,12)] dR l9 (.c0 (.c0 .nil)) bA.self ?_;refine g24 ?_;refine iQ (j4 func150) (pG x.ops.addr x.ops.cap x.ops.list k7 151 [.pointer (some ⟨b1,0,none⟩)] [bD.cells b1 0 [.pointer (some ⟨bs,0,none⟩)],bD.cells bs 0 [.int .i64 vars,.int .i64 x.loops.list.length,.int .i64 x.buf,.slice MA made.length mc],jR.sl (.slice MA made.length mc) made] (fun o=>!opB vars x.loops.list.length x.buf made o.c) (j4 func151) (fun o=>zB b1 bs vars x.loops.list.length x.buf MA mc made o)) rfl rfl rfl rfl rfl .nil (.c2 (.c0 .nil)) (lA (lA mL)) ⟨d9,e6,d7,d8,Has.of mT7,e8⟩ (fun _=>True) (fun _ _ _ _=>trivial) fun _ _=>?_;refine g5 ?_;exact rs1 (_,_) e8 (he:=by rw [←iR];simp [pM, *])
 have hc48_4_r:=hc48_4;have hc48_4:=beq_eq_false_iff_ne.1 hc48_4;refine g8 ?_;exact rs1 (_,_) e8 (he:=by rw [←iR];simp [pM, *])
theorem bHp: ∃i:TypeInfo,prog.info? 4=some i∧i.zero=some (.bool false)∧i.size=1∧i.bytes=1:=by
 have h:(prog.info? 4).map (fun i=>(i.zero,i.size,i.bytes))=some (some (.bool false),1,1):=k8
 cases hi:prog.info? 4 with
 | none=>simp [hi] at h
 | some i=>simp [hi] at h;exact⟨i,rfl,h.1,h.2.1,h.2.2⟩
theorem rM{β:cX}{n:Nat}{Γ:Env}{H:List bC}{F:List bD}{Q:Exit→Act→World→Prop}{ops:Array Oper}{rest:List Oper}{o:Oper}{d:Nat}{x:Operand}{m:Bool}(hw:want ops Γ o=some true)(ho:o.op= .buildSlice 99 1 #[(0,x)])(hd:o.dst=some d)(hn:Nat.blt d n=true)
  (hx:Γ.ev x=some (.bool m)) (k: ∀b,At β n ((d,.slice (some ⟨b,0,none⟩) 1 1)::Γ) (.obj b (.cells (jR.all [m]).toArray 4)::H) F (wpList prog ops Q rest)):At β n Γ H F (wpList prog ops Q (o::rest)):=by
 obtain⟨i,hi,hz,hs,_⟩:=bHp;refine nS hw ho hd hn hx underlying99 hi hz k7 k7 ?_ k;rw [hs]
 kernel_rfl
theorem rP{β:cX}{n:Nat}{Γ:Env}{H:List bC}{F:List bD}{Q:Exit→Act→World→Prop}{ops:Array Oper}{rest:List Oper}{o:Oper}{d:Nat}{x y:Operand}{c q:Nat}{v:Value}{A:Option Addr}{xs ys:List Bool}{H':List bC}(hH:bT H (jR.row v 4 xs) H')(hr:dF β H F jR A ys)(hg:o.guard=none)
  (ho:o.op= .call {callee:= .builtin .append,args:= #[x,y],argTypes:= #[99,99]}) (hd:o.dst=some d) (hn:Nat.blt d n=true)
  (hx:Γ.ev x=some v) (hy:Γ.ev y=some (.slice A q c)) (hq:q=ys.length) (hl:xs.length+ys.length≤140737488355328)
  (k: ∀A' cap',At β n ((d,.slice A' (xs++ys).length cap')::Γ) (jR.row (.slice A' (xs++ys).length cap') 4 (xs++ys)::H') F (wpList prog ops Q rest)):At β n Γ H F (wpList prog ops Q (o::rest)):=by
 obtain⟨i,hi,hz,hs,hb⟩:=bHp;exact iZ hH hr hg ho hd hn underlying99 hi hz hs hb rfl hx hy hq k7 m7 k
theorem intInfo: ∃i:TypeInfo,prog.info? 3=some i∧i.zero=some (.int .i64 0)∧i.size=1∧i.bytes=8:=by
 have h:(prog.info? 3).map (fun i=>(i.zero,i.size,i.bytes))=some (some (.int .i64 0),1,8):=k8
 cases hi:prog.info? 3 with
 | none=>simp [hi] at h
 | some i=>simp [hi] at h;exact⟨i,rfl,h.1,h.2.1,h.2.2⟩
theorem at_one_int{β:cX}{n:Nat}{Γ:Env}{H:List bC}{F:List bD}{Q:Exit→Act→World→Prop}{ops:Array Oper}{rest:List Oper}{o:Oper}{d:Nat}{x:Operand}{m:Int}(hw:want ops Γ o=some true)(ho:o.op= .buildSlice 24 1 #[(0,x)])(hd:o.dst=some d)(hn:Nat.blt d n=true)
  (hx:Γ.ev x=some (.int .i64 m)) (k: ∀b,At β n ((d,.slice (some ⟨b,0,none⟩) 1 1)::Γ) (.obj b (.cells (cT.all [m]).toArray 3)::H) F (wpList prog ops Q rest)):At β n Γ H F (wpList prog ops Q (o::rest)):=by
 obtain⟨i,hi,hz,hs,_⟩:=intInfo;refine nS hw ho hd hn hx underlying24 hi hz k7 k7 ?_ k;rw [hs]
 kernel_rfl
theorem at_app_int{β:cX}{n:Nat}{Γ:Env}{H:List bC}{F:List bD}{Q:Exit→Act→World→Prop}{ops:Array Oper}{rest:List Oper}{o:Oper}{d:Nat}{x y:Operand}{c q:Nat}{v:Value}{A:Option Addr}{xs ys:List Int}{H':List bC}(hH:bT H (cT.row v 3 xs) H')(hr:dF β H F cT A ys)(hg:o.guard=none)
  (ho:o.op= .call {callee:= .builtin .append,args:= #[x,y],argTypes:= #[24,24]}) (hd:o.dst=some d) (hn:Nat.blt d n=true)
  (hx:Γ.ev x=some v) (hy:Γ.ev y=some (.slice A q c)) (hq:q=ys.length) (hl:xs.length+ys.length≤17592186044416)
  (k: ∀A' cap',At β n ((d,.slice A' (xs++ys).length cap')::Γ) (cT.row (.slice A' (xs++ys).length cap') 3 (xs++ys)::H') F (wpList prog ops Q rest)):At β n Γ H F (wpList prog ops Q (o::rest)):=by
 obtain⟨i,hi,hz,hs,hb⟩:=intInfo;exact iZ hH hr hg ho hd hn underlying24 hi hz hs hb rfl hx hy hq k7 m7 k
theorem arr64_zero:(prog.info? 198).bind (·.zero)=some (.agg (jR.all (List.replicate 64 false)).toArray):=k8
theorem step_specM{m:Nat}{made:List Bool}(hm:made.length=m)(bs:Nat)(vars loops buf:Int)(MA:Option Addr)(mc:Nat)(x:gC):cA prog 81 [.pointer (some ⟨bs,0,none⟩),.agg #[.int .i64 x.how,.int .i64 x.buf,.slice x.at_.addr x.at_.list.length x.at_.cap,.slice x.loops.addr x.loops.list.length x.loops.cap,.int .u8 x.fn,.slice x.ops.addr x.ops.list.length x.ops.cap]]
  [.obj bs (.cells [.int .i64 vars,.int .i64 loops,.int .i64 buf,.slice MA m mc].toArray 201)] [nN x,jR.sl (.slice MA m mc) made] (fun _:Int×Int=> .bool (lU vars made x.c)) (fun y=>[.obj bs (.cells [.int .i64 vars,.int .i64 y.1,.int .i64 y.2,.slice MA m mc].toArray 201)]) (fun _=>[]):=by
 subst hm;exact step_spec bs vars loops buf MA mc made x
def outB (n:Nat)(k:Int):Bool:=decide (k<0) || decide ((n:Int)≤k)
def restB (c:dB):Bool:=kQ c.vars c.bufs c.steps (vC c.bufs)&&c.outs.all fun k=>decide (0≤k∧k<c.bufs.length)
theorem qB(l:List iO):(vC l).length=l.length:=List.length_map _
def uH (c:dB)(i:Nat)(inp made:List Bool)(r:Bool):Prop:=inp.length=64∧made=(vC c.bufs).take i∧ ∃seen:List Int,(∀z∈seen,0≤z)∧(∀k:Nat,k<64→inp[k]?=some (seen.contains (k:Int)))∧r=(tJ c.vars (c.bufs.drop i) seen&&restB c)
def wM (c:dB)(i:Nat)(made:List Bool)(r:Bool):Prop:=made.length=c.bufs.length∧r=(kQ c.vars c.bufs (c.steps.drop i) made&&c.outs.all fun k=>decide (0≤k∧k<c.bufs.length))
section
variable {c : iD} {r : Bool}
theorem right_sizes(h:dM c.c=r)(h1:0≤c.vars)(h2:c.vars≤6)(h3:(c.bufs.list.length:Int)≤1024)(h4:(c.steps.list.length:Int)≤1024)(h5:(c.outs.list.length:Int)≤64):r=(tJ c.c.vars c.c.bufs []&&restB c.c):=by
 rw [←h];unfold dM;rw [decide_eq_true (show 0≤c.c.vars∧c.c.vars≤6∧c.c.bufs.length≤1024∧c.c.steps.length≤1024∧c.c.outs.length≤64 from ⟨h1,h2,by show(sL c.bufs.list).length≤1024;rw [cQ];omega,by show(yT c.steps.list).length≤1024;rw [dX];omega,by show c.outs.list.length≤64;omega⟩),Bool.true_and];rfl
theorem qG(h:dM c.c=r)(h1: ¬(0≤c.vars∧c.vars≤6∧(c.bufs.list.length:Int)≤1024∧(c.steps.list.length:Int)≤1024∧(c.outs.list.length:Int)≤64)):r=false:=by
 rw [←h];unfold dM;rw [decide_eq_false (show ¬(0≤c.c.vars∧c.c.vars≤6∧c.c.bufs.length≤1024∧c.c.steps.length≤1024∧c.c.outs.length≤64) from fun⟨a,b,d,e,f⟩=>h1 ⟨a,b,by have d:(sL c.bufs.list).length≤1024:=d;rw [cQ] at d;omega,by have e:(yT c.steps.list).length≤1024:=e;rw [dX] at e;omega,by have f:c.outs.list.length≤64:=f;omega⟩),Bool.false_and]
end
section
variable {c : dB} {i : Nat} {inp made : List Bool} {r : Bool} {u : iO}
theorem bufs_start(h:r=(tJ c.vars c.bufs []&&restB c)):uH c 0 (List.replicate 64 false) [] r:=by
 refine⟨rfl,rfl,[],?_,?_,h⟩
 ·intro z hz;cases hz
 ·intro k hk;rw [List.getElem?_replicate,if_pos hk];rfl
theorem bufs_len(h:uH c i inp made r)(hi:i≤c.bufs.length):made.length=i:=by
 rw [h.2.1,List.length_take,qB];omega
theorem bAt(h:uH c i inp made r)(hu:c.bufs[i]?=some u)(k:lK u.sides c.vars=false∨u.input< -1∨64≤u.input∨0≤u.input∧inp[u.input.toNat]?=some true):r=false:=by
 obtain⟨h1,_,seen,h2,h3,h4⟩:=h;rw [oP hu,tJ] at h4;rw [h4]
 rcases k with k | k | k | ⟨k,e⟩
 ·rw [k];rfl
 ·rw [decide_eq_false (show ¬(-1≤u.input∧u.input<64) from fun h=>by omega)];simp
 ·rw [decide_eq_false (show ¬(-1≤u.input∧u.input<64) from fun h=>by omega)];simp
 ·have hlt:=(List.getElem?_eq_some_iff.1 e).1;rw [h3 _ k7] at e
  have e2:seen.contains u.input=true:=by
   have:((u.input.toNat:Nat):Int)=u.input:=k7
   rw [←this];exact Option.some.inj e
  rw [e2];simp
theorem bNm(h:made=(vC c.bufs).take i)(hu:c.bufs[i]?=some u):made++[decide (0≤u.input)]=(vC c.bufs).take (i+1):=by
 have hm:(vC c.bufs)[i]?=some (decide (0≤u.input)):=by
  unfold vC;rw [List.getElem?_map,hu];rfl
 obtain⟨hi,e⟩:=List.getElem?_eq_some_iff.1 hm;rw [List.take_succ_eq_append_getElem hi,e,h]
theorem bufs_in(h:uH c i inp made r)(hu:c.bufs[i]?=some u)(hg:lK u.sides c.vars=true)(h1: -1≤u.input)(h2:u.input<64)(h3:0≤u.input)(he:inp[u.input.toNat]?=some false):uH c (i+1) (inp.set u.input.toNat true) (made++[decide (0≤u.input)]) r:=by
 obtain⟨k1,k2,seen,k3,k4,k5⟩:=h;refine⟨by simpa using k1,bNm k2 hu,u.input::seen,fun z hz=>?_,fun k hk=>?_,?_⟩
 ·rcases List.mem_cons.1 hz with rfl | hz
  ·exact h3
  ·exact k3 z hz
 ·rw [List.getElem?_set,List.contains_cons]
  by_cases e:u.input.toNat=k
  ·rw [if_pos e,if_pos k7];have:((k:Nat):Int)=u.input:=k7
   rw [this];simp
  ·rw [if_neg e,k4 k hk];have:((k:Int)==u.input)=false:=beq_eq_false_iff_ne.2 k7;rw [this];rfl
 ·rw [oP hu,tJ,hg,decide_eq_true ⟨h1,h2⟩,if_pos h3] at k5
  have e2:seen.contains u.input=false:=by
   rw [k4 _ k7] at he;have:((u.input.toNat:Nat):Int)=u.input:=k7
   rw [←this];exact Option.some.inj he
  rw [e2] at k5
  simpa using k5
theorem bufs_no(h:uH c i inp made r)(hu:c.bufs[i]?=some u)(hg:lK u.sides c.vars=true)(h1: -1≤u.input)(h3:u.input<0):uH c (i+1) inp (made++[decide (0≤u.input)]) r:=by
 obtain⟨k1,k2,seen,k3,k4,k5⟩:=h;refine⟨k1,bNm k2 hu,seen,k3,k4,?_⟩;rw [oP hu,tJ,hg,decide_eq_true (show-1≤u.input∧u.input<64 from ⟨h1,k7⟩),if_neg k7] at k5
 have e2:seen.contains u.input=false:=by
  rw [List.contains_eq_mem];exact decide_eq_false fun h=>by have:=k3 _ h;omega
 rw [e2] at k5
 simpa using k5
theorem bufs_end(h:uH c i inp made r)(hi:c.bufs.length≤i):made=vC c.bufs∧r=restB c:=by
 obtain⟨_,k2,seen,_,_,k5⟩:=h;rw [List.drop_of_length_le hi] at k5;refine⟨by rw [k2,List.take_of_length_le (by rw [qB];exact hi)],by rw [k5];rfl⟩
theorem steps_start(hm:made=vC c.bufs)(h:r=restB c):wM c 0 made r:=⟨by rw [hm,qB],by rw [h,hm];rfl⟩
theorem wR{x:cJ}(h:wM c i made r)(hx:c.steps[i]?=some x)(k:x.buf<0∨(c.bufs.length:Int)≤x.buf∨(∃u,c.bufs[x.buf.toNat]?=some u∧0≤u.input)∨lU c.vars made x=false):r=false:=by
 obtain⟨_,h2⟩:=h;rw [oP hx,kQ] at h2;rw [h2]
 rcases k with k | k | ⟨u,e,k⟩ | k
 ·rw [decide_eq_false (show ¬0≤x.buf by omega)];rfl
 ·rw [List.getElem?_eq_none (show c.bufs.length≤x.buf.toNat by omega)];simp
 ·rw [e];simp only;rw [decide_eq_false (show ¬u.input<0 by omega)];simp
 ·rw [k];simp
theorem steps_ok{x:cJ}{u:iO}(h:wM c i made r)(hx:c.steps[i]?=some x)(h0:0≤x.buf)(hu:c.bufs[x.buf.toNat]?=some u)(h1:u.input<0)(k:lU c.vars made x=true):wM c (i+1) (made.set x.buf.toNat true) r:=by
 obtain⟨h2,h3⟩:=h;refine⟨by simpa using h2,?_⟩;rw [oP hx,kQ,hu,decide_eq_true h0] at h3;simp only at h3;rw [decide_eq_true h1,k] at h3
 simpa using h3
theorem steps_end(h:wM c i made r)(hi:c.steps.length≤i):r=c.outs.all fun k=>decide (0≤k∧k<c.bufs.length):=by
 obtain⟨_,h3⟩:=h;rw [List.drop_of_length_le hi] at h3;rw [h3];rfl
end
theorem outs_all{n m:Nat}{l:List Int}(h:n=m):(!l.any (outB m))=l.all fun k=>decide (0≤k∧k<(n:Int)):=by
 subst h
 have e:outB n=fun k=>!decide (0≤k∧k<(n:Int)):=by
  funext k
  unfold outB;rw [Bool.eq_iff_iff];simp
 rw [e,any_not]
theorem pU(z0:Int):prog.built 201 [(0,.int .i64 z0)]=some #[.int .i64 z0,.int .i64 0,.int .i64 0,.slice none 0 0]:=k8
theorem vF:(prog.info? 95).bind (·.zero)=some (.agg #[.slice none 0 0,.int .i64 0]):=k8
theorem uP:(prog.info? 80).bind (·.zero)=some (.agg #[.int .i64 0,.int .i64 0,.slice none 0 0,.slice none 0 0,.int .u8 0,.slice none 0 0]):=k8
theorem indexFI_spec(A:Option Addr)(c:Nat)(l:List Int)(hl:l.length≤140737488355328)(f:FuncId)(cap:List Value)(G:List bD)(p:Int→Bool)(hcf: ∀(args:Array Value) (w:World),(callFunc f args).run prog w= .ok (.enter f args) w)(hf: ∀k:Int,cA prog f (.int .i64 k::cap) [] G (fun _:Unit=> .bool (p k)) (fun _=>[]) (fun _=>[])):cA prog 153 [.slice A l.length c,.func (.func f) #[] cap.toArray] [] (cT.sl (.slice A l.length c) l::G) (fun(_:Unit)=> .int .i64 (nY p l 0)) (fun _=>[]) (fun _=>[]):=by
 have hT:=dS;generalize hR:nY p l 0=r;refine j1 func153 ntmps153 ?_;intro β hM;refine g14 ?_;refine bX (ι:=Nat) [(0,_),(1,_),(7,_)] ⟨rfl,rfl,rfl,e8⟩ (fun i=>[(8,.int .i64 (i:Nat))]) (fun _=>[]) (fun i=>[bD.pure (i≤l.length∧r=nY p (l.drop i) i)]) (fun i=>l.length-i) 0 ⟨rfl,e8⟩ .nil ⟨e9 (⟨k7,hR.symm⟩),e8⟩ ?_;rintro i;refine bL d7 fun hinv2=>?_;refine g6 ?_;refine fJ (fun hc9=>?_) fun hc9=>?_
 ·refine g15 ?_;obtain⟨x1,hx2⟩:=gx l i;refine ss (ixs i) ?_;refine ss (iX hx2 0) ?_;refine kU hcf (hf x1) rfl rfl rfl rfl rfl rfl rfl .nil (bA.drop 2) fun _=>?_;refine g2 ?_;refine xJ (fun hc16=>?_) fun hc16=>?_
  ·refine g12 ?_;obtain rfl:=(mP hinv2.2 hx2).1 ‹_›;exact rs1 () trivial
  refine g5 ?_;refine inc (i+1) ?_;refine g3 ?_;exact bk2 (i+1) ⟨e9 (⟨k7,(mP hinv2.2 hx2).2 ‹_›⟩),e8⟩
 refine g11 ?_;have hr:=bAn hinv2.2 k7;subst hr;exact rs1 () trivial
theorem bFl(A:Option Addr)(c:Nat)(l:List Int)(hl:l.length≤140737488355328)(f:FuncId)(cap:List Value)(G:List bD)(p:Int→Bool)(hcf: ∀(args:Array Value) (w:World),(callFunc f args).run prog w= .ok (.enter f args) w)(hf: ∀k:Int,cA prog f (.int .i64 k::cap) [] G (fun _:Unit=> .bool (p k)) (fun _=>[]) (fun _=>[])):cA prog 82 [.slice A l.length c,.func (.func f) #[] cap.toArray] [] (cT.sl (.slice A l.length c) l::G) (fun(_:Unit)=> .bool (l.any p)) (fun _=>[]) (fun _=>[]):=by
 have hT:=dS;refine j1 func82 ntmps82 ?_;intro β hM;refine g9 ?_;refine f9 func153 (indexFI_spec A c l hl f cap G p hcf hf) .nil bA.self fun _=>?_;refine g5 ?_;exact rs1 () e8 (he:=congrArg Value.bool (zW p l 0 m7))
theorem right1_spec(b:Nat)(c:iD)(k:Int):cA prog 83 [.int .i64 k,.pointer (some ⟨b,0,none⟩)] [] [bD.cells b 0 [.int .i64 c.vars,.slice c.bufs.addr c.bufs.list.length c.bufs.cap,.slice c.steps.addr c.steps.list.length c.steps.cap,.slice c.outs.addr c.outs.list.length c.outs.cap]] (fun(_:Unit)=> .bool (outB c.bufs.list.length k)) (fun _=>[]) (fun _=>[]):=by
 have hT:=dS;refine j1 func83 ntmps83 ?_;intro β hM;refine g10 ?_;refine xK (fun hg6=>?_) fun hg6=>?_
 ·refine g10 ?_;exact rs1 () e8 (he:=by first | (unfold outB;simp [*];done) | (unfold outB;simp [*];omega))
 refine g2 ?_;refine ss (i6 hT (bG (off:=1) d7)) ?_;refine g7 ?_;exact rs1 () e8 (he:=by first | (unfold outB;simp [*];done) | (unfold outB;simp [*];omega))
theorem bJf(c:iD):cA prog 33 [.agg #[.int .i64 c.vars,.slice c.bufs.addr c.bufs.list.length c.bufs.cap,.slice c.steps.addr c.steps.list.length c.steps.cap,.slice c.outs.addr c.outs.list.length c.outs.cap]] [] [rA c] (fun(_:Unit)=> .bool (dM c.c)) (fun _=>[]) (fun _=>[]):=by
 have hT:=dS;generalize hR:dM c.c=r;refine j1 func33 ntmps33 ?_;intro β hM;refine g2 ?_;refine j2 fun b1=>?_;refine g10 ?_;refine xK (fun hg12=>?_) fun hg12=>?_
 ·refine g32 ?_;have hr:=qG hR k7;subst hr;exact rs1 () trivial
 refine g5 ?_;refine xK (fun hg17=>?_) fun hg17=>?_
 ·refine g27 ?_;have hr:=qG hR k7;subst hr;exact rs1 () trivial
 refine g6 ?_;refine xK (fun hg23=>?_) fun hg23=>?_
 ·refine g21 ?_;have hr:=qG hR k7;subst hr;exact rs1 () trivial
 refine g6 ?_;refine xK (fun hg29=>?_) fun hg29=>?_
 ·refine g15 ?_;have hr:=qG hR k7;subst hr;exact rs1 () trivial
 refine g7 ?_;refine fJ (fun hc34=>?_) fun hc34=>?_
 ·refine g7 ?_;have hr:=qG hR k7;subst hr;exact rs1 () trivial
 refine g3 ?_;have hr0:=right_sizes hR k7 k7 k7 k7 k7;refine one ?_;refine i7 arr64_zero fun b2=>?_;refine bEv (E:=jR) (xs:=List.replicate 64 false) .head ?_;refine g6 ?_;refine ss (bZ rfl rfl (pU _)) ?_;refine j2 fun b3=>?_;refine g13 ?_;refine cW (t:=4) jR ?_;refine bX (ι:=Nat×List Bool×List Bool×Option Addr×Nat) [(1,_),(3,_),(4,_),(40,_),(41,_)] ⟨rfl,rfl,rfl,rfl,rfl,e8⟩ (fun⟨i,inp,made,MA,mc⟩=>[(42,.int .i64 (i:Nat))]) (fun⟨i,inp,made,MA,mc⟩=>[jR.held (.slice (some ⟨b2,0,none⟩) 64 64) inp,.obj b3 (.cells [.int .i64 c.vars,.int .i64 0,.int .i64 0,.slice MA made.length mc].toArray 201),jR.row (.slice MA made.length mc) 4 made]) (fun⟨i,inp,made,MA,mc⟩=>[bD.pure (i≤c.bufs.list.length∧uH c.c i inp made r)]) (fun⟨i,inp,made,MA,mc⟩=>c.bufs.list.length-i) (0,List.replicate 64 false,[],none,0) ⟨rfl,e8⟩ (.c2 (.c1 (.c0 .nil))) ⟨e9 (⟨k7,bufs_start hr0⟩),e8⟩ ?_;rintro⟨i,inp,made,MA,mc⟩;dsimp only;refine bL d7 fun hinv6=>?_;have hil:inp.length=64:=hinv6.2.1;have hml:=bufs_len hinv6.2 (by show i≤(sL c.bufs.list).length;rw [cQ];omega);refine g6 ?_;refine fJ (fun hc43=>?_) fun hc43=>?_
 ·refine g6 ?_;refine bR (yS.sl (.slice c.bufs.addr c.bufs.list.length c.bufs.cap) c.bufs.list) (rS (lB d8)) ?_;obtain⟨x4,hx5⟩:=gx c.bufs.list i;refine ss (ixs i) ?_;refine ss (lL hx5 0) ?_;refine i7 vF fun b6=>?_;refine g5 ?_;refine bR (bufF x4) (Has.each (zP (lB d9)) (f4 hx5)) ?_;refine g5 ?_;refine f9 func80 (bNc x4.sides c.vars) .nil ⟨d7,e8⟩ fun _=>?_;refine g2 ?_;refine k_nt (fun hg52=>?_) fun hg52=>?_
  ·refine g35 ?_;have hr:=bAt hinv6.2 (dJ hx5) l5;subst hr;exact rs1 () trivial
  refine g5 ?_;refine xK (fun hg57=>?_) fun hg57=>?_
  ·refine g30 ?_;have hr:=bAt hinv6.2 (dJ hx5) l5;subst hr;exact rs1 () trivial
  refine g5 ?_;refine k_le (fun hg62=>?_) fun hg62=>?_
  ·refine g25 ?_;have hr:=bAt hinv6.2 (dJ hx5) l5;subst hr;exact rs1 () trivial
  refine g4 ?_;refine k_le (fun hg66=>?_) fun hg66=>?_
  ·refine g2 ?_;obtain⟨x7,hx8⟩:=gx inp x4.input.toNat;refine ss (sF hT (k:=x4.input.toNat) rfl rfl rfl rfl rfl k7 k7) ?_;refine ss (iX hx8 0) ?_;refine g4 ?_;refine xJ (fun hc72=>?_) fun hc72=>?_
   ·refine g12 ?_;have hr:=bAt hinv6.2 (dJ hx5) l5;subst hr;exact rs1 () trivial
   refine g10 ?_;refine c_le (fun hc75=>?_) fun hc75=>?_
   ·refine g3 ?_;refine ss (sF hT (k:=x4.input.toNat) rfl rfl rfl rfl rfl k7 k7) ?_;refine dG hT (k:=x4.input.toNat) (fo:=0) (y':=true) kT1 rfl rfl rfl rfl rfl rfl rfl rfl rfl hx8 rfl ?_;refine g2 ?_;refine oM 12 _ _ [(true,0),(true,1),(true,2),(true,3),(true,4),(true,5),(true,6),(true,7),(false,8),(false,9),(true,10),(true,11)] dR l9 (.c0 (.c0 (.c0 (.c1 .nil)))) bA.self ?_;refine g9 ?_;refine rM (m:=decide (0≤x4.input)) rfl rfl rfl rfl rfl fun b9=>?_;refine g2 ?_;refine rP kT4 (fM .head rfl) rfl rfl rfl rfl rfl rfl rfl n5 fun A10 c11=>?_;refine g10 ?_;refine inc (i+1) ?_;refine g3 ?_;exact bk2 (i+1,inp.set x4.input.toNat true,made++[decide (0≤x4.input)],A10,c11) ⟨e9 (⟨by dsimp only;omega,bufs_in hinv6.2 (dJ hx5) (show lK (polsL x4.sides.list) c.vars=true by assumption) (show-1≤x4.input by omega) (show x4.input<64 by omega) (show 0≤x4.input by omega) u0⟩),e8⟩
   refine g2 ?_;refine oM 12 _ _ [(true,0),(true,1),(true,2),(true,3),(true,4),(true,5),(true,6),(true,7),(false,8),(false,9),(true,10),(true,11)] dR l9 (.c0 (.c0 (.c0 (.c1 .nil)))) bA.self ?_;refine g9 ?_;refine rM (m:=decide (0≤x4.input)) rfl rfl rfl rfl rfl fun b12=>?_;refine g2 ?_;refine rP kT4 (fM .head rfl) rfl rfl rfl rfl rfl rfl rfl n5 fun A13 c14=>?_;refine g10 ?_;refine inc (i+1) ?_;refine g3 ?_;exact bk2 (i+1,inp,made++[decide (0≤x4.input)],A13,c14) ⟨e9 (⟨by dsimp only;omega,bufs_no hinv6.2 (dJ hx5) (show lK (polsL x4.sides.list) c.vars=true by assumption) (show-1≤x4.input by omega) (show x4.input<0 by omega)⟩),e8⟩
  refine g19 ?_;refine c_le (fun hc75=>?_) fun hc75=>?_
  ·refine g3 ?_;obtain⟨x15,hx16⟩:=gx inp x4.input.toNat;refine ss (sF hT (k:=x4.input.toNat) rfl rfl rfl rfl rfl k7 k7) ?_;refine dG hT (k:=x4.input.toNat) (fo:=0) (y':=true) kT1 rfl rfl rfl rfl rfl rfl rfl rfl rfl hx16 rfl ?_;refine g2 ?_;refine oM 12 _ _ [(true,0),(true,1),(true,2),(true,3),(true,4),(true,5),(true,6),(true,7),(false,8),(false,9),(true,10),(true,11)] dR l9 (.c0 (.c0 (.c0 (.c1 .nil)))) bA.self ?_;refine g9 ?_;refine rM (m:=decide (0≤x4.input)) rfl rfl rfl rfl rfl fun b17=>?_;refine g2 ?_;refine rP kT4 (fM .head rfl) rfl rfl rfl rfl rfl rfl rfl n5 fun A18 c19=>?_;refine g10 ?_;refine inc (i+1) ?_;refine g3 ?_;exact bk2 (i+1,inp.set x4.input.toNat true,made++[decide (0≤x4.input)],A18,c19) ⟨e9 (⟨by dsimp only;omega,bufs_in hinv6.2 (dJ hx5) (show lK (polsL x4.sides.list) c.vars=true by assumption) (show-1≤x4.input by omega) (show x4.input<64 by omega) (show 0≤x4.input by omega) u0⟩),e8⟩
  refine g2 ?_;refine oM 12 _ _ [(true,0),(true,1),(true,2),(true,3),(true,4),(true,5),(true,6),(true,7),(false,8),(false,9),(true,10),(true,11)] dR l9 (.c0 (.c0 (.c0 (.c1 .nil)))) bA.self ?_;refine g9 ?_;refine rM (m:=decide (0≤x4.input)) rfl rfl rfl rfl rfl fun b20=>?_;refine g2 ?_;refine rP kT4 (fM .head rfl) rfl rfl rfl rfl rfl rfl rfl n5 fun A21 c22=>?_;refine g10 ?_;refine inc (i+1) ?_;refine g3 ?_;exact bk2 (i+1,inp,made++[decide (0≤x4.input)],A21,c22) ⟨e9 (⟨by dsimp only;omega,bufs_no hinv6.2 (dJ hx5) (show lK (polsL x4.sides.list) c.vars=true by assumption) (show-1≤x4.input by omega) (show x4.input<0 by omega)⟩),e8⟩
 refine g15 ?_;obtain⟨hmf,hr1⟩:=bufs_end hinv6.2 (by show(sL c.bufs.list).length≤i;rw [cQ];omega);have hml2:made.length=c.bufs.list.length:=by rw [hmf,qB];exact cQ _
 rw [hml2];refine bX (ι:=Nat×List Bool×Int×Int) [(1,_),(4,_),(93,_),(94,_)] ⟨rfl,rfl,rfl,rfl,e8⟩ (fun⟨k,made,lo,bu⟩=>[(95,.int .i64 (k:Nat))]) (fun⟨k,made,lo,bu⟩=>[.obj b3 (.cells [.int .i64 c.vars,.int .i64 lo,.int .i64 bu,.slice MA c.bufs.list.length mc].toArray 201),jR.row (.slice MA c.bufs.list.length mc) 4 made]) (fun⟨k,made,lo,bu⟩=>[bD.pure (k≤c.steps.list.length∧wM c.c k made r)]) (fun⟨k,made,lo,bu⟩=>c.steps.list.length-k) (0,made,0,0) ⟨rfl,e8⟩ (.c1 (.c1 .nil)) ⟨e9 (⟨k7,steps_start hmf hr1⟩),e8⟩ ?_;rintro⟨k,made,lo,bu⟩;dsimp only;refine bL d7 fun hinv15=>?_;have hml3:made.length=c.bufs.list.length:=by rw [hinv15.2.1];exact cQ _
 refine g6 ?_;refine fJ (fun hc96=>?_) fun hc96=>?_
 ·refine g6 ?_;refine bR (sX.sl (.slice c.steps.addr c.steps.list.length c.steps.cap) c.steps.list) (sW (lH d9)) ?_;obtain⟨x23,hx24⟩:=gx c.steps.list k;refine ss (ixs k) ?_;refine ss (lL hx24 0) ?_;refine i7 uP fun b25=>?_;refine g5 ?_;refine bR (nN x23) (Has.each (tD (lH e6)) (f4 hx24)) ?_;refine g5 ?_;refine xK (fun hg102=>?_) fun hg102=>?_
  ·refine g38 ?_;have hr:=wR hinv15.2 (dK hx24) l4;subst hr;exact rs1 () trivial
  refine g8 ?_;refine k_le (fun hg110=>?_) fun hg110=>?_
  ·refine g30 ?_;have hr:=wR hinv15.2 (dK hx24) l4;subst hr;exact rs1 () trivial
  refine g4 ?_;refine bR (yS.sl (.slice c.bufs.addr c.bufs.list.length c.bufs.cap) c.bufs.list) (rS (lB e7)) ?_;obtain⟨x26,hx27⟩:=gx c.bufs.list x23.buf.toNat;refine ss (bI hT (k:=x23.buf.toNat) (bV d7) rfl rfl rfl rfl rfl rfl k7 k7) ?_;refine one ?_;refine ss (iX hx27 1) ?_;refine g3 ?_;refine k_le (fun hg120=>?_) fun hg120=>?_
  ·refine g20 ?_;have hr:=wR hinv15.2 (dK hx24) l4;subst hr;exact rs1 () trivial
  refine g2 ?_;refine iQ (j4 func81) (step_specM hml3 b3 c.vars lo bu MA mc x23) rfl rfl rfl rfl rfl (.c1 .nil) (.c1 .nil) (oD mL) ⟨d9,d7,e8⟩ (fun _=>True) (fun _ _ _ _=>trivial) fun y28 _=>?_;refine g4 ?_;refine bKt (fun hc125=>?_) fun hc125=>?_
  ·refine g12 ?_;have hr:=wR hinv15.2 (dK hx24) l4;subst hr;exact rs1 () trivial
  refine g2 ?_;refine oM 7 _ _ [(true,0),(true,1),(true,2),(true,3),(true,4),(true,5),(true,6)] dR l9 (.c0 (.c0 (.c0 (.c0 (.c0 .nil))))) bA.self ?_;refine g6 ?_;obtain⟨x29,hx30⟩:=gx made x23.buf.toNat;refine stL rfl (bI hT (k:=x23.buf.toNat) (cC kT2) rfl rfl rfl rfl rfl hml3.symm k7 k7) ?_;refine one ?_;refine cD hT (k:=x23.buf.toNat) (fo:=0) (y':=true) kT2 rfl rfl rfl rfl rfl rfl rfl rfl rfl hx30 rfl ?_;refine g5 ?_;refine inc (k+1) ?_;refine g3 ?_;exact bk2 (k+1,made.set x23.buf.toNat true,y28.1,y28.2) ⟨e9 (⟨by dsimp only;omega,steps_ok hinv15.2 (dK hx24) (show 0≤x23.buf by omega) (dJ hx27) (show kG.input _<0 by omega) (show lU c.vars made x23.c=true by assumption)⟩),e8⟩
 refine g10 ?_;refine bR (cT.sl (.slice c.outs.addr c.outs.list.length c.outs.cap) c.outs.list) (outsF_s (coreF_o d9)) ?_;refine iQ (j4 func82) (bFl c.outs.addr c.outs.cap c.outs.list k7 83 [.pointer (some ⟨b1,0,none⟩)] [bD.cells b1 0 [.int .i64 c.vars,.slice c.bufs.addr c.bufs.list.length c.bufs.cap,.slice c.steps.addr c.steps.list.length c.steps.cap,.slice c.outs.addr c.outs.list.length c.outs.cap]] (outB c.bufs.list.length) (j4 func83) (fun k=>right1_spec b1 c k)) rfl rfl rfl rfl rfl .nil (.c3 .nil) (lA mL) ⟨d8,d7,e8⟩ (fun _=>True) (fun _ _ _ _=>trivial) fun _ _=>?_;refine g5 ?_;have hr:=steps_end hinv15.2 (by show(yT c.steps.list).length≤k;rw [dX];omega);subst hr;exact rs1 () e8 (he:=congrArg Value.bool (outs_all (cQ _)))
end Go.Proofs.YtnfiadlonjediaaGreatDoor
