/- A part of one proof. -/
import Derived.Test.YtnfiadlonjediaaGreatDoorM8
set_option maxRecDepth 100000
namespace Go.Proofs.YtnfiadlonjediaaGreatDoor
open _root_.List renaming getElem?_eq_some_iff->G3,mem_cons_self->F9,pairwise_cons->F4,length_take->Z4,getElem?_append_left->G6,mem_cons->F1,mem_cons_of_mem->F3,perm_append_comm_assoc->eS,perm_append_comm->eY,ext_getElem?->aI,getElem?_set->W3,length_set->R0,getElem?_eq_none->Y5,getElem?_eq_getElem->G1,set_set_perm->eZ,set_append_left->Aa,eq_nil_of_length_eq_zero->P8,drop_of_length_le->U8,getElem?_drop->I1,getElem?_cons_succ->W4,getElem?_map->F7,replicate->V4,contains_eq_mem->Ab,getElem?_set_self->G8,mem_of_getElem?->eN,take_succ_eq_append_getElem->Y1,take_of_length_le->Y2,take_add_one->G7,length->U7,flatMap_def->Ac,length_singleton->Ad,getElem?_toArray->Ae,getElem?_cons_zero->Af,cons_append->Ag,getElem_cons_drop->aH,take_length->Ah,append_nil->R2
open Result renaming andThen_ok->J6
open _root_.Option renaming map_some->N5
open Sem renaming run_bind->J0
open _root_.Nat renaming eq_zero_or_pos->Ai,sub_self->Aj,blt->C2,not_lt_zero->S7,le_trans->C0
open _root_.Int renaming not_lt->Y8,le_trans->eH,not_le->Ak
open Lib renaming compareBytes->U3,hid->U4
open Value renaming bool->Y6,pointer->Al
open _root_.Bool renaming and_eq_true->L9,or_eq_false_iff->aX
open MapKept renaming run_getObj_map->T5,run_setObj_map->T6
open Builtin renaming delete_->P1
section
open Go.RowKit Go.Proofs.Tryz
theorem bGb(A:Option Addr)(n c:Nat):cJ prog 165 [.slice A n c] [] [] (λ(_:Unit)=> j3 (n:Nat)) (λ_=>[]) (λ_=>[]):=by have hT:=gF;refine j1 func165 ntmps165 ?_;intro β hM;refine g13 ?_;exact rs1 () trivial
theorem Less_spec(A:Option Addr)(c i j:Nat)(l:List SpotV)(x y:SpotV)(hx:l[i]?=some x)(hy:l[j]?=some y):cJ prog 372 [.slice A l.length c,j3 (i:Nat),j3 (j:Nat)] [fR.row (.slice A l.length c) 214 l] [] (λ(_:Unit)=> .bool (decide (x.T<y.T))) (λ(_:Unit)=>[fR.row (.slice A l.length c) 214 l]) (λ_=>[]):=by have hT:=gF;refine j1 func372 ntmps372 ?_;intro β hM;refine cH ?_;have b:=(G3.1 hx).1;have a:=(G3.1 hy).1;refine g5 ?_;refine dK _ _ [j2,u1,u0,u2,u3,u4,u5,u6,u7,u9,A00,A01] dJ k7 (.c0 .nil) bA.self ?_;refine g2 ?_;refine stM rfl (bE hT (k:=i) (bN .head) rfl rfl rfl rfl rfl l7 rfl j5) ?_;refine one ?_;refine stM rfl (fV hx 2) ?_;refine g2 ?_;refine stM rfl (bE hT (k:=j) (bN .head) rfl rfl rfl rfl rfl l7 rfl j5) ?_;refine one ?_;refine stM rfl (fV hy 2) ?_;refine g5 ?_;exact rs1 () trivial
theorem Push_spec(A:Option Addr)(b c:Nat)(l:List SpotV)(x:SpotV)(hl:l.length<=100000000):cJ prog 374 [.pointer (some ⟨b,0,none⟩),.iface 214 (.agg #[f9 x.at_,f9 x.size,j3 x.T])] [.obj b (.cells ([.slice A l.length c]:List Value).toArray 330),fR.row (.slice A l.length c) 214 l] [] (λ(_:Option Addr×Nat)=> .tuple #[]) (λ(y:Option Addr×Nat)=>[.obj b (.cells ([.slice y.1 (l++[x]).length y.2]:List Value).toArray 330),fR.row (.slice y.1 (l++[x]).length y.2) 214 (l++[x])]) (λ_=>[]):=by have hT:=gF;refine j1 func374 ntmps374 ?_;intro β hM;refine mF 9 _ _ [j2,u1,u0,u2,u3,u4,A08,A16,u7] dJ k7 (.c0 .nil) bA.self ?_;refine g5 ?_;refine stL rfl (bDz rfl underlying214 (λ_ e=>by cases e) rfl) ?_;refine one ?_;refine bQq (m:=x) rfl rfl rfl rfl rfl λd=>?_;refine g2 ?_;refine at_app_row kT2 (fD .head rfl) rfl rfl rfl rfl rfl rfl rfl o8 λa c3=>?_;refine g5 ?_;exact dE (a,c3) rfl (.c0 (.c0 .nil)) e9 s8
section
variable {P : Program} {β : dY} {n : Nat} {Γ : Env} {H : List bD} {F : List bC} {Q : Exit -> Act -> World -> Prop} {K : Act -> World -> Prop} {T : Tab} {α : Type} {E : Flat α}
theorem run_cutHM(hT:fC P T){t e sz:Nat}{ei:TI}(ht:T.get t=some ⟨.slice e,sz⟩)(he:T.get e=some ei){A:Option Addr}{l c k:Nat}(hk:k<=c)(kj kk:IntKind)(w:World):(Instr.sliceAt t (.slice A l c) none (some (.int kj (k:Nat))) (some (.int kk (k:Nat)))).run P w= .ok (.slice A k k) w:=by
 obtain⟨d,hu,hd⟩:=hT.any ht;cases d<;>simp[TD.of]at hd
 subst hd;have hel:=elem_of hu;rw[run_sliceAt_slice w t _ _ _ _ ab3,run_slice_hm w t A l c ab3 kj kk (k:Int) (k:Int) j5 j5 j5,hel,hT.size he];simp only[J6,sliced,Int.toNat_natCast,Nat.zero_mul,Nat.sub_zero]
 congr 2
 split
 .rfl
 .cases A<;>simp[Addr.add]
theorem sti_cutHM(hT:fC P T){o:Oper}{t e sz k l cap:Nat}{ei:TI}{x i i':Operand}{kj kk:IntKind}{z z':Int}{A:Option Addr}(ho:o.op= .slice t x none (some i) (some i'))(hx:Γ.ev x=some (.slice A l cap))(hi:Γ.ev i=some (.int kj z))(hi':Γ.ev i'=some (.int kk z'))
  (ht:T.get t=some ⟨.slice e,sz⟩) (he:T.get e=some ei) (hz:z=(k:Nat)) (hz':z'=(k:Nat)) (hk:k<=cap):Sti P β n Γ H F o (.slice A k k):=λa w S f s b=>by subst hz hz';unfold execOp;simp only[ho,f.ev hx,N5,Option.map_none,f.ev hi,f.ev hi'];rw[J0,run_cutHM hT ht he hk];rfl
theorem at_held_cut{A:Option Addr}{m c k c':Nat}{xs:List α}{H':List bD}(hH:bZ H (E.held (.slice A m c) xs) H')(hk:k<=xs.length)(h:At β n Γ (E.held (.slice A k c') (xs.take k)::H') F K):At β n Γ H F K:=λa w S f s G=>by
 have q:=s.perm hH.perm
 have hb: ∀b,(E.held (.slice A k c') (xs.take k)).blk=some b->(E.held (.slice A m c) xs).blk=some b:=λb hb=>by
  have hb:xQ (.slice A k c') (xs.take k)=some b:=hb;show xQ (.slice A m c) xs=some b
  cases xs with
  |nil=>rw[List.take_nil]at hb;cases hb
  |cons x xs=>
   cases k with
   |zero=>cases hb
   |succ k=>cases A<;>exact hb
 have z:(E.held (.slice A m c) xs).ok w:=q.ok _ (F9 ..);have p:=F4.1 q.sep
 have r:(E.held (.slice A k c') (xs.take k)).ok w:=by
  refine⟨A,c',by rw[Z4,Nat.min_eq_left hk],?_⟩
  rcases Ai k with rfl|h0
  .exact .inl (List.take_zero ..)
  .obtain⟨g,l,L,J,t,I,e,D,C,y⟩:=tW z (k:=0) j5;injection e with e1 _ _
   subst e1
   have v:(E.held (.slice (some ⟨g,l,none⟩) k c') (xs.take k)).blk=some g:=by
    show xQ _ (xs.take k)=some g
    cases xs with
    |nil=>simp at hk;omega
    |cons x xs=>
     cases k with
     |zero=>omega
     |succ k=>rfl
   refine .inr ⟨g,l,J,t,I,rfl,?_,λj u B=>y j u ?_⟩
   .show((xQ (.slice (some ⟨g,l,none⟩) k c') (xs.take k)).bind λi=>w.heap[i]?)=_;rw[show xQ (.slice (some ⟨g,l,none⟩) k c') (xs.take k)=some g from v];exact C
   .have e:E.all xs=E.all (xs.take k)++E.all (xs.drop k):=by rw[<-E.all_append,List.take_append_drop]
    rw[e,G6 (G3.1 B).1];exact B
 exact h a w S f ⟨q.kept,λd hd=>by
  rcases F1.1 hd with rfl|hd
  .exact r
  .exact q.ok d (F3 _ hd),λd hd b o=>by
  rcases F1.1 hd with rfl|hd
  .exact q.own _ (F9 ..) b (hb b o)
  .exact q.own d (F3 _ hd) b o,F4.2 ⟨λd hd b o=>p.1 d hd b (hb b o),p.2⟩,q.zb⟩ G
end
theorem xI:(prog.info? 214).bind (·.zero)=some (.agg #[.slice none 0 0,.slice none 0 0,j3 0]):=j8
theorem LessH_spec(A:Option Addr)(c i j:Nat)(l:List SpotV)(x y:SpotV)(hx:l[i]?=some x)(hy:l[j]?=some y):cJ prog 372 [.slice A l.length c,j3 (i:Nat),j3 (j:Nat)] [fR.held (.slice A l.length c) l] [] (λ(_:Unit)=> .bool (decide (x.T<y.T))) (λ(_:Unit)=>[fR.held (.slice A l.length c) l]) (λ_=>[]):=by have hT:=gF;refine j1 func372 ntmps372 ?_;intro β hM;refine cH ?_;have b:=(G3.1 hx).1;have a:=(G3.1 hy).1;refine g5 ?_;refine dK _ _ [j2,u1,u0,u2,u3,u4,u5,u6,u7,u9,A00,A01] dJ k7 (.c0 .nil) bA.self ?_;refine g2 ?_;refine stM rfl (bE hT (k:=i) (dV .head) rfl rfl rfl rfl rfl l7 rfl j5) ?_;refine one ?_;refine stM rfl (fV hx 2) ?_;refine g2 ?_;refine stM rfl (bE hT (k:=j) (dV .head) rfl rfl rfl rfl rfl l7 rfl j5) ?_;refine one ?_;refine stM rfl (fV hy 2) ?_;refine g5 ?_;exact rs1 () trivial
theorem SwapH_spec(A:Option Addr)(c i j:Nat)(l:List SpotV)(x y:SpotV)(hx:l[i]?=some x)(hy:l[j]?=some y):cJ prog 375 [.slice A l.length c,j3 (i:Nat),j3 (j:Nat)] [fR.held (.slice A l.length c) l] [] (λ(_:Unit)=> .tuple #[]) (λ(_:Unit)=>[fR.held (.slice A l.length c) ((l.set i y).set j x)]) (λ_=>[]):=by
 have hT:=gF;refine j1 func375 ntmps375 ?_;intro β hM;have s:=(G3.1 hx).1;have r:=(G3.1 hy).1;refine at_mixT _ _ (.fl 0 (.fl 1 (.fl 2 (.fl 3 (.fl 4 (.fl 5 (.fl 8 (.fl 9 (.two 6 10 (.two 7 10 (.op 10 (.op 11 (.op 12 (.op 13 (.op 14 (.op 15 .nil)))))) (.two 7 11 (.op 11 (.op 12 (.op 13 (.op 14 (.op 15 .nil))))) (.op 7 (.op 12 (.op 13 (.op 14 (.op 15 .nil))))))) (.two 6 11 (.two 7 11 (.op 11 (.op 12 (.op 13 (.op 14 (.op 15 .nil))))) (.op 7 (.op 12 (.op 13 (.op 14 (.op 15 .nil)))))) (.op 6 (.op 7 (.op 12 (.op 13 (.op 14 (.op 15 .nil)))))))))))))))) dJ k7 .nil bA.self ?_;refine g8 ?_;refine vF (o:=_) (o':=_) rfl rfl ?_ ?_
 .refine ss (bE hT (k:=j) (dV .head) rfl rfl rfl rfl rfl l7 rfl j5) ?_;refine one ?_;refine vF (o:=_) (o':=_) rfl rfl ?_ ?_
  .refine ss (lI hy 0) ?_;refine g2 ?_;refine ss (bE hT (k:=i) (dV .head) rfl rfl rfl rfl rfl l7 rfl j5) ?_;refine g2 ?_;refine ss (lI hx 0) ?_;refine g2 ?_;refine ss (bE hT (k:=i) (dV .head) rfl rfl rfl rfl rfl l7 rfl j5) ?_;refine g2 ?_;refine fW hT (k:=i) (fo:=0) (y':=y) .head rfl rfl rfl rfl rfl rfl rfl rfl rfl hx rfl ?_;refine g2 ?_;obtain⟨q,g⟩:=gx (l.set i y) j (n9);refine ss (bE hT (k:=j) (dV .head) rfl rfl rfl rfl rfl l7 rfl (n9)) ?_;refine g2 ?_;refine fW hT (k:=j) (fo:=0) (y':=x) .head rfl rfl rfl rfl rfl rfl rfl rfl rfl g rfl ?_;refine g2 ?_;exact dE () rfl (.c0 .nil) e9 s8
  refine ss (bE hT (k:=i) (dV .head) rfl rfl rfl rfl rfl l7 rfl j5) ?_;refine one ?_;refine vF (o:=_) (o':=_) rfl rfl ?_ ?_
  .refine ss (lI hy 0) ?_;refine g2 ?_;refine ss (lI hx 0) ?_;refine g2 ?_;refine ss (bE hT (k:=i) (dV .head) rfl rfl rfl rfl rfl l7 rfl j5) ?_;refine g2 ?_;refine fW hT (k:=i) (fo:=0) (y':=y) .head rfl rfl rfl rfl rfl rfl rfl rfl rfl hx rfl ?_;refine g2 ?_;obtain⟨x3,f⟩:=gx (l.set i y) j (n9);refine ss (bE hT (k:=j) (dV .head) rfl rfl rfl rfl rfl l7 rfl (n9)) ?_;refine g2 ?_;refine fW hT (k:=j) (fo:=0) (y':=x) .head rfl rfl rfl rfl rfl rfl rfl rfl rfl f rfl ?_;refine g2 ?_;exact dE () rfl (.c0 .nil) e9 s8
  refine ss (lI hx 0) ?_;refine g2 ?_;refine ss (lI hy 0) ?_;refine g2 ?_;refine ss (bE hT (k:=i) (dV .head) rfl rfl rfl rfl rfl l7 rfl j5) ?_;refine g2 ?_;refine fW hT (k:=i) (fo:=0) (y':=y) .head rfl rfl rfl rfl rfl rfl rfl rfl rfl hx rfl ?_;refine g2 ?_;obtain⟨p,e⟩:=gx (l.set i y) j (n9);refine ss (bE hT (k:=j) (dV .head) rfl rfl rfl rfl rfl l7 rfl (n9)) ?_;refine g2 ?_;refine fW hT (k:=j) (fo:=0) (y':=x) .head rfl rfl rfl rfl rfl rfl rfl rfl rfl e rfl ?_;refine g2 ?_;exact dE () rfl (.c0 .nil) e9 s8
 refine ss (bE hT (k:=i) (dV .head) rfl rfl rfl rfl rfl l7 rfl j5) ?_;refine one ?_;refine vF (o:=_) (o':=_) rfl rfl ?_ ?_
 .refine ss (bE hT (k:=j) (dV .head) rfl rfl rfl rfl rfl l7 rfl j5) ?_;refine one ?_;refine vF (o:=_) (o':=_) rfl rfl ?_ ?_
  .refine ss (lI hy 0) ?_;refine g2 ?_;refine ss (lI hx 0) ?_;refine g2 ?_;refine ss (bE hT (k:=i) (dV .head) rfl rfl rfl rfl rfl l7 rfl j5) ?_;refine g2 ?_;refine fW hT (k:=i) (fo:=0) (y':=y) .head rfl rfl rfl rfl rfl rfl rfl rfl rfl hx rfl ?_;refine g2 ?_;obtain⟨n,d⟩:=gx (l.set i y) j (n9);refine ss (bE hT (k:=j) (dV .head) rfl rfl rfl rfl rfl l7 rfl (n9)) ?_;refine g2 ?_;refine fW hT (k:=j) (fo:=0) (y':=x) .head rfl rfl rfl rfl rfl rfl rfl rfl rfl d rfl ?_;refine g2 ?_;exact dE () rfl (.c0 .nil) e9 s8
  refine ss (lI hx 0) ?_;refine g2 ?_;refine ss (lI hy 0) ?_;refine g2 ?_;refine ss (bE hT (k:=i) (dV .head) rfl rfl rfl rfl rfl l7 rfl j5) ?_;refine g2 ?_;refine fW hT (k:=i) (fo:=0) (y':=y) .head rfl rfl rfl rfl rfl rfl rfl rfl rfl hx rfl ?_;refine g2 ?_;obtain⟨m,b⟩:=gx (l.set i y) j (n9);refine ss (bE hT (k:=j) (dV .head) rfl rfl rfl rfl rfl l7 rfl (n9)) ?_;refine g2 ?_;refine fW hT (k:=j) (fo:=0) (y':=x) .head rfl rfl rfl rfl rfl rfl rfl rfl rfl b rfl ?_;refine g2 ?_;exact dE () rfl (.c0 .nil) e9 s8
 refine ss (lI hx 0) ?_;refine g2 ?_;refine ss (bE hT (k:=j) (dV .head) rfl rfl rfl rfl rfl l7 rfl j5) ?_;refine g2 ?_;refine ss (lI hy 0) ?_;refine g2 ?_;refine ss (bE hT (k:=i) (dV .head) rfl rfl rfl rfl rfl l7 rfl j5) ?_;refine g2 ?_;refine fW hT (k:=i) (fo:=0) (y':=y) .head rfl rfl rfl rfl rfl rfl rfl rfl rfl hx rfl ?_;refine g2 ?_;obtain⟨h,a⟩:=gx (l.set i y) j (n9);refine ss (bE hT (k:=j) (dV .head) rfl rfl rfl rfl rfl l7 rfl (n9)) ?_;refine g2 ?_;refine fW hT (k:=j) (fo:=0) (y':=x) .head rfl rfl rfl rfl rfl rfl rfl rfl rfl a rfl ?_;refine g2 ?_;exact dE () rfl (.c0 .nil) e9 s8
theorem PopH_spec(A:Option Addr)(b c m:Nat)(l:List SpotV)(x:SpotV)(hlm:l.length=m+1)(hc:m+1<=c)(hx:l[m]?=some x)(hl:m<=100000000):cJ prog 373 [.pointer (some ⟨b,0,none⟩)] [.obj b (.cells ([.slice A (m+1) c]:List Value).toArray 330),fR.held (.slice A (m+1) c) l] [] (λ(_:Unit)=> .iface 214 (.agg #[f9 x.at_,f9 x.size,j3 x.T])) (λ(_:Unit)=>[.obj b (.cells ([.slice A m m]:List Value).toArray 330),fR.held (.slice A m m) (l.take m)]) (λ_=>[]):=by have hT:=gF;refine j1 func373 ntmps373 ?_;intro β hM;refine g12 ?_;refine bM (z':=((m:Nat):Int)) aa7 ?_;refine g9 ?_;refine ss (bE hT (k:=m) (dV kT1) rfl rfl rfl rfl rfl hlm.symm j5 (j5)) ?_;refine ss (lI hx 0) ?_;refine i7 xI λa=>?_;refine g11 ?_;refine ss (sti_cutHM hT (k:=m) rfl rfl rfl rfl rfl rfl rfl rfl j5) ?_;refine g7 ?_;refine ss (zI rfl underlying214 (λ_ e=>by cases e) rfl) ?_;refine g4 ?_;refine at_held_cut (k:=m) (c':=m) kT2 j5 ?_;exact rs1 () trivial
theorem load_rowbox{w:World}{b n c:Nat}{A:Option Addr}(h:w.cell? ⟨b,0,none⟩=some (.slice A n c)):(loadVar 330 ⟨b,0,none⟩).run prog w= .ok (.slice A n c) w:=by have a: ∀w,(isAgg 330).run prog w= .ok false w:=gF.agg (t:=330) (i:=⟨.slice 214,1⟩) rfl;simp only[loadVar,J0,J6,a,Bool.false_eq_true,if_false,run_load,h]
theorem mP{name:String}{f:FuncId}{w:World}{b n c:Nat}{A:Option Addr}(hm: ∀w b,(method (prog.types.size+Made.depth) 284 (.pointer (some ⟨b,0,none⟩)) name).run prog w=(do let r<-loadVar 330 ⟨b,0,none⟩;pure (f,r):Sem (FuncId×Value)).run prog w)(h:w.cell? ⟨b,0,none⟩=some (.slice A n c)):
  (method (prog.types.size+Made.depth) 284 (.pointer (some ⟨b,0,none⟩)) name).run prog w= .ok (f,.slice A n c) w:=by rw[hm,J0,load_rowbox h];rfl
theorem bQv(w:World)(b:Nat):(method (prog.types.size+Made.depth) 284 (.pointer (some ⟨b,0,none⟩)) "Len").run prog w=(do let r<-loadVar 330 ⟨b,0,none⟩;pure (165,r):Sem (FuncId×Value)).run prog w:=j8
theorem wU(w:World)(b:Nat):(method (prog.types.size+Made.depth) 284 (.pointer (some ⟨b,0,none⟩)) "Less").run prog w=(do let r<-loadVar 330 ⟨b,0,none⟩;pure (372,r):Sem (FuncId×Value)).run prog w:=j8
theorem bBq(w:World)(b:Nat):(method (prog.types.size+Made.depth) 284 (.pointer (some ⟨b,0,none⟩)) "Swap").run prog w=(do let r<-loadVar 330 ⟨b,0,none⟩;pure (375,r):Sem (FuncId×Value)).run prog w:=j8
theorem bVn(w:World)(b:Nat):(method (prog.types.size+Made.depth) 284 (.pointer (some ⟨b,0,none⟩)) "Push").run prog w= .ok (374,.pointer (some ⟨b,0,none⟩)) w:=j8
theorem meth_pop(w:World)(b:Nat):(method (prog.types.size+Made.depth) 284 (.pointer (some ⟨b,0,none⟩)) "Pop").run prog w= .ok (373,.pointer (some ⟨b,0,none⟩)) w:=j8
def rowBox(r:RowV):bD:= .obj r.b (.cells ([.slice r.A r.l.length r.c]:List Value).toArray 330)
def rowArr(r:RowV):bD:=if r.full then fR.held (.slice r.A r.l.length r.c) r.l else fR.row (.slice r.A r.l.length r.c) 214 r.l
def famR (rows:List RowV):List bD:=rows.flatMap λr=>[rowBox r,rowArr r]
def rowG (r:RowV):bC:=(bC.cells r.b 0 [.slice r.A r.l.length r.c]).and (fR.sl (.slice r.A r.l.length r.c) r.l)
theorem bVh(r:RowV)(rows:List RowV):famR (r::rows)=rowBox r::rowArr r::famR rows:=rfl
theorem sE(a b:List RowV):famR (a++b)=famR a++famR b:=List.flatMap_append
theorem fam_out{rows:List RowV}{k:Nat}{r:RowV}(h:rows[k]?=some r)(H:List bD):(H++famR rows).Perm (rowBox r::rowArr r::(H++famR (rows.take k++rows.drop (k+1)))):=by
 have e:famR rows=famR (rows.take k)++([rowBox r,rowArr r]++famR (rows.drop (k+1))):=by
  conv=>lhs;rw[bNx h]
  rw[sE,bVh];rfl
 rw[e,sE];have h1:(famR (rows.take k)++([rowBox r,rowArr r]++famR (rows.drop (k+1)))).Perm ([rowBox r,rowArr r]++(famR (rows.take k)++famR (rows.drop (k+1)))):=eS _ _ _;exact(h1.append_left H).trans (eS _ _ _)
theorem fam_back{rows:List RowV}{k:Nat}{r:RowV}(h:rows[k]?=some r)(q:RowV)(H:List bD):(rowBox q::rowArr q::(H++famR (rows.take k++rows.drop (k+1)))).Perm (H++famR (rows.set k q)):=by
 have e:famR (rows.set k q)=famR (rows.take k)++([rowBox q,rowArr q]++famR (rows.drop (k+1))):=by rw[pl_set h,sE,bVh];rfl
 rw[e,sE];have h1:(famR (rows.take k)++([rowBox q,rowArr q]++famR (rows.drop (k+1)))).Perm ([rowBox q,rowArr q]++(famR (rows.take k)++famR (rows.drop (k+1)))):=eS _ _ _;exact((h1.append_left H).trans (eS _ _ _)).symm
theorem fam_new{rows:List RowV}(q:RowV)(H:List bD):(rowBox q::rowArr q::(H++famR rows)).Perm (H++famR (rows++[q])):=by rw[sE];have h1:([rowBox q,rowArr q]++(H++famR rows)).Perm ((H++famR rows)++[rowBox q,rowArr q]):=eY;rw[List.append_assoc]at h1;exact h1
theorem lends_rowArr{r:RowV}{L:List bD}{G:List bC}(h:yP L G):yP (rowArr r::L) (fR.sl (.slice r.A r.l.length r.c) r.l::G):=by
 unfold rowArr;split
 .exact lends_held h
 .exact nR h
theorem bTm: ∀(rows:List RowV),yP (famR rows) [bC.each rows rowG]
 |[]=>λS w _ _=>All.cons (λx hx=>by cases hx) (λg hg=>by cases hg)
 |r::rows=>λS w a d=>by
  have h1:=nS (b:=r.b) (cs:=[.slice r.A r.l.length r.c]) (t:=330) (lends_rowArr (r:=r) (bTm rows)) S w a d;have h:=h1 _ (F9 ..);have f:=h1 _ (F3 _ (F9 ..));have e:=h1 _ (F3 _ (F3 _ (F9 ..)));refine All.cons (λx hx=>?_) (λg hg=>by cases hg)
  rcases F1.1 hx with rfl|hx
  .exact⟨h,f⟩
  .exact e x hx
theorem Split.front: ∀(L H:List bD),Split (L++H) L H
 |[],_=> .nil
 |_::L,H=> .c0 (Split.front L H)
section
variable {P : Program} {β : dY} {n : Nat} {Γ : Env} {H H' : List bD} {F : List bC} {K : Act -> World -> Prop}
theorem at_arr_held{r:RowV}(hH:bZ H (rowArr r) H')(h:At β n Γ (fR.held (.slice r.A r.l.length r.c) r.l::H') F K):At β n Γ H F K:=by
 unfold rowArr at hH;split at hH
 .exact λa w S f s k=>h a w S f (s.perm hH.perm) k
 .exact bGm hH h
end
theorem rowArr_full{r:RowV}(h:r.full=true):rowArr r=fR.held (.slice r.A r.l.length r.c) r.l:=by unfold rowArr;rw[if_pos h]
theorem rowArr_room{r:RowV}(h:r.full=false):rowArr r=fR.row (.slice r.A r.l.length r.c) 214 r.l:=by unfold rowArr;rw[if_neg ab4]
theorem bTp{α:Type}{l:List α}{x z:α}{N:Nat}(hl:l.length=N+1)(_hx:l[0]?=some x)(_hz:l[N]?=some z):(l.set 0 z).set N x=(l.take N).set 0 z++[x]:=by
 apply aI;intro i;rw[W3,W3,List.getElem?_append];simp only[R0,Z4,hl,W3,List.getElem?_take];have a:min N (N+1)=N:=j5
 rw[a]
 by_cases h1:i<N
 .rw[if_neg j5,if_pos h1]
  by_cases h0:0=i
  .subst h0;rw[if_pos rfl,if_pos j5,if_pos rfl,if_pos j5]
  .rw[if_neg h0,if_neg h0,if_pos h1]
 .rw[if_neg h1]
  by_cases h2:N=i
  .subst h2;rw[if_pos rfl,if_pos j5,Aj];rfl
  .rw[if_neg h2,if_neg j5,Y5 j5,Y5 o6]
theorem swap_perm{α:Type}{l m:List α}{x z:α}{N:Nat}(hl:l.length=N+1)(hx:l[0]?=some x)(hz:l[N]?=some z)(hm:m.Perm ((l.take N).set 0 z)):l.Perm (x::m):=by
 have h1:((l.set 0 z).set N x).Perm l:=by
  have h0:0<l.length:=j5
  have a:N<l.length:=j5
  have c:l[N]=z:=by have:=G1 a;rw[hz]at this;exact(Option.some.inj this).symm
  have b:l[0]=x:=by have:=G1 h0;rw[hx]at this;exact(Option.some.inj this).symm
  have:((l.set 0 l[N]).set N l[0]).Perm l:=eZ h0 a
  rwa[c,b]at this
 rw[bTp hl hx hz]at h1;exact h1.symm.trans ((hm.symm.append_right [x]).trans eY)
section
variable {α : Type} {m : List α} {i j k : Nat} {y z w : α}
theorem jZ(h:m[k]?=some y):(m++[w])[k]?=some y:=by rw[G6 (G3.1 h).1];exact h
theorem bIl(hy:m[i]?=some y)(hz:m[j]?=some z):((m++[w]).set i z).set j y=(m.set i z).set j y++[w]:=by have h1:=(G3.1 hy).1;have h2:=(G3.1 hz).1;rw[Aa _ _ h1,Aa _ _ (by simpa using h2)]
theorem bIf(hy:m[i]?=some y)(hz:m[j]?=some z):((m.set i z).set j y).Perm m:=by
 obtain⟨h1,b⟩:=G3.1 hy;obtain⟨h2,a⟩:=G3.1 hz;have:((m.set i m[j]).set j m[i]).Perm m:=eZ h1 h2
 rwa[b,a]at this
end
section
variable {m : List SpotV} {i : Nat} {y y1 y2 : SpotV}
theorem child1(h1:m[2*i+1]?=some y1)(hy:y.T<=y1.T)(hm:m.length<=2*i+2): ∀(k:Nat) b,1<=k->(k-1)/2=i->m[k]?=some b->y.T<=b.T:=λk b a he hb=>by
 have hlt:=(G3.1 hb).1;have e:k=2*i+1:=j5
 subst e;rw[h1]at hb;cases hb;exact hy
theorem child2(h1:m[2*i+1]?=some y1)(h2:m[2*i+1+1]?=some y2)(hy1:y.T<=y1.T)(hy2:y.T<=y2.T): ∀(k:Nat) b,1<=k->(k-1)/2=i->m[k]?=some b->y.T<=b.T:=λk b a he hb=>by
 have e:k=2*i+1\/k=2*i+1+1:=j5
 rcases e with rfl|rfl
 .rw[h1]at hb;cases hb;exact hy1
 .rw[h2]at hb;cases hb;exact hy2
theorem sink_none(h:bQm SpotV.T m i)(hm:m.length<=2*i+1):tB SpotV.T m:=λk a b c d hb=>by have hlt:=(G3.1 hb).1;exact h.1 k a b c j5 d hb
end
theorem lessN{A:Option Addr}{c i j n:Nat}{l:List SpotV}{x y:SpotV}(h:l.length=n)(hx:l[i]?=some x)(hy:l[j]?=some y):cJ prog 372 [.slice A n c,j3 (i:Nat),j3 (j:Nat)] [fR.held (.slice A n c) l] [] (λ(_:Unit)=> .bool (decide (x.T<y.T))) (λ(_:Unit)=>[fR.held (.slice A n c) l]) (λ_=>[]):=by subst h;exact LessH_spec A c i j l x y hx hy
theorem swapN{A:Option Addr}{c i j n:Nat}{l:List SpotV}{x y:SpotV}(h:l.length=n)(hx:l[i]?=some x)(hy:l[j]?=some y):cJ prog 375 [.slice A n c,j3 (i:Nat),j3 (j:Nat)] [fR.held (.slice A n c) l] [] (λ(_:Unit)=> .tuple #[]) (λ(_:Unit)=>[fR.held (.slice A n c) ((l.set i y).set j x)]) (λ_=>[]):=by subst h;exact SwapH_spec A c i j l x y hx hy
theorem up0_spec(A:Option Addr)(b c:Nat)(l:List SpotV):cJ prog 222 [.iface 284 (.pointer (some ⟨b,0,none⟩)),j3 0] [.obj b (.cells ([.slice A l.length c]:List Value).toArray 330),fR.row (.slice A l.length c) 214 l] [] (λ(_:Unit)=> .tuple #[]) (λ(_:Unit)=>[.obj b (.cells ([.slice A l.length c]:List Value).toArray 330),fR.row (.slice A l.length c) 214 l]) (λ_=>[]):=by have hT:=gF;refine j1 func222 ntmps222 ?_;intro β hM;refine one ?_;refine bGt 1 ?_;refine qR ?_;refine g5 ?_;refine bM (z':=(-1:Int)) l4 ?_;refine ss (sti_quoI rfl rfl rfl j5) ?_;refine bM (z':=((0:Nat):Int)) l4 ?_;refine g9 ?_;refine bR (t':=true) l4 ?_;refine g15 ?_;exact dE () rfl (.c0 (.c0 .nil)) e9 (rfl)
theorem upS_spec(A:Option Addr)(b c m:Nat)(l:List SpotV)(x y:SpotV)(hx:l[m+1]?=some x)(hy:l[m/2]?=some y)(hle:y.T<=x.T)(hm:m<=100000000):cJ prog 222 [.iface 284 (.pointer (some ⟨b,0,none⟩)),j3 ((m+1:Nat):Int)] [.obj b (.cells ([.slice A l.length c]:List Value).toArray 330),fR.row (.slice A l.length c) 214 l] [] (λ(_:Unit)=> .tuple #[]) (λ(_:Unit)=>[.obj b (.cells ([.slice A l.length c]:List Value).toArray 330),fR.row (.slice A l.length c) 214 l]) (λ_=>[]):=by have hT:=gF;refine j1 func222 ntmps222 ?_;intro β hM;refine one ?_;refine bGt 1 ?_;refine qR ?_;refine g5 ?_;refine bM (z':=((m:Nat):Int)) aa7 ?_;refine ss (sti_quoI rfl rfl rfl j5) ?_;refine bM (z':=((m/2:Nat):Int)) (by rw[Int.tdiv_eq_ediv_of_nonneg j5];exact jG j5 j5) ?_;refine g9 ?_;refine bR (t':=false) (beq_eq_false_iff_ne.2 j5) ?_;refine g4 ?_;refine iM (bJ func372 rfl rfl) (Less_spec A c (m+1) (m/2) l x y hx hy) rfl rfl rfl rfl rfl (λw S s k=>mP (λw b=>wU w b) ((sS .head) w S s k 0 _ rfl)) rfl (.c1 .nil) e9 λ_=>?_;refine bR (t':=false) (decide_eq_false j5) ?_;refine g10 ?_;exact dE () rfl (.c1 (.c0 .nil)) e9 (rfl)
theorem downS_spec(A:Option Addr)(b c N:Nat)(m0:List SpotV)(z:SpotV)(hN:m0.length=N)(hs:bQm SpotV.T m0 0)(hb:N<=100000000):cJ prog 221 [.iface 284 (.pointer (some ⟨b,0,none⟩)),j3 0,j3 (N:Nat)] [.obj b (.cells ([.slice A (N+1) c]:List Value).toArray 330),fR.held (.slice A (N+1) c) (m0++[z])] [] (λ(x:List SpotV×Bool)=> .bool x.2) (λ(x:List SpotV×Bool)=>[.obj b (.cells ([.slice A (N+1) c]:List Value).toArray 330),fR.held (.slice A (N+1) c) (x.1++[z])]) (λ(x:List SpotV×Bool)=>[bC.pure (x.1.Perm m0/\tB SpotV.T x.1)]):=by
 have hT:=gF;refine j1 func221 ntmps221 ?_;intro β hM;refine g13 ?_;refine bT (ι:=Nat×List SpotV) [(0,_),(1,_),(2,_)] ⟨rfl,rfl,rfl,e9⟩ (λ⟨i,m⟩=>[(7,.int .i64 (i:Nat))]) (λ⟨i,m⟩=>[fR.held (.slice A (N+1) c) (m++[z])]) (λ⟨i,m⟩=>[bC.pure (m.length=N/\m.Perm m0/\bQm SpotV.T m i/\(i<N\/i=0))]) (λ⟨i,m⟩=>N-i) (0,m0) ⟨rfl,e9⟩ (.c1 .nil) ⟨f4 (⟨hN,List.Perm.refl _,hs,.inr rfl⟩),e9⟩ ?_;rintro⟨i,m⟩;dsimp only;refine bG d7 λa=>?_;have E:=a.1;have G:=a.2.2.2;have f:(m++[z]).length=N+1:=by simp;omega
 refine g5 ?_;refine inc (2*i) ?_;refine one ?_;refine inc ((2*i)+1) ?_;refine g10 ?_;refine k_le (λu=>?_) λu=>?_
 .refine g21 ?_;have l:tB SpotV.T m:=sink_none a.2.2.1 j5;exact rs1 (m,_) ⟨f4 ⟨a.2.1,l⟩,e9⟩
 refine g2 ?_;refine bR (t':=false) (decide_eq_false j5) ?_;refine g17 ?_;refine inc (((2*i)+1)+1) ?_;refine g9 ?_;refine nO (λt=>?_) λt=>?_
 .refine g3 ?_;obtain⟨y1,h⟩:=gx m (2*i+1+1);obtain⟨D,g⟩:=gx m (2*i+1);refine iM (bJ func372 rfl rfl) (lessN f (jZ h) (jZ g)) rfl rfl rfl rfl rfl (λw S s k=>mP (λw b=>wU w b) ((sS kT1) w S s k 0 _ rfl)) rfl (.c0 .nil) e9 λ_=>?_;refine g3 ?_;refine dO (λv=>?_) λv=>?_
  .refine g11 ?_;obtain⟨C,o⟩:=gx m i;refine iM (bJ func372 rfl rfl) (lessN f (jZ h) (jZ o)) rfl rfl rfl rfl rfl (λw S s k=>mP (λw b=>wU w b) ((sS kT1) w S s k 0 _ rfl)) rfl (.c0 .nil) e9 λ_=>?_;refine g3 ?_;refine tQ (λd=>?_) λd=>?_
   .have d:=Y8.1 (of_decide_eq_false d);refine g15 ?_;have l:tB SpotV.T m:=bLz a.2.2.1 o λk q h1 h2 h3=>eH (show C.T<=y1.T by omega) ((child2 g h j5 j5) k q h1 h2 h3);exact rs1 (m,_) ⟨f4 ⟨a.2.1,l⟩,e9⟩
   have d:=of_decide_eq_true d;refine g7 ?_;refine iM (bJ func375 rfl rfl) (swapN f (jZ o) (jZ h)) rfl rfl rfl rfl rfl (λw S s k=>mP (λw b=>bBq w b) ((sS kT1) w S s k 0 _ rfl)) rfl (.c0 .nil) e9 λ_=>?_;have p:=bIl (w:=z) o h;rw[p];refine g8 ?_;exact bk2 ((2*i+1+1),(m.set i y1).set (2*i+1+1) C) ⟨f4 (⟨by simp only[R0];omega,(bIf o h).trans a.2.1,bGs a.2.2.1 o h j5 j5 j5 (child2 g h j5 j5),j5⟩),e9⟩
  refine g8 ?_;obtain⟨B,n⟩:=gx m i;refine iM (bJ func372 rfl rfl) (lessN f (jZ g) (jZ n)) rfl rfl rfl rfl rfl (λw S s k=>mP (λw b=>wU w b) ((sS kT1) w S s k 0 _ rfl)) rfl (.c0 .nil) e9 λ_=>?_;refine g3 ?_;refine tQ (λd=>?_) λd=>?_
  .have d:=Y8.1 (of_decide_eq_false d);refine g15 ?_;have l:tB SpotV.T m:=bLz a.2.2.1 n λk q h1 h2 h3=>eH (show B.T<=D.T by omega) ((child2 g h j5 j5) k q h1 h2 h3);exact rs1 (m,_) ⟨f4 ⟨a.2.1,l⟩,e9⟩
  have d:=of_decide_eq_true d;refine g7 ?_;refine iM (bJ func375 rfl rfl) (swapN f (jZ n) (jZ g)) rfl rfl rfl rfl rfl (λw S s k=>mP (λw b=>bBq w b) ((sS kT1) w S s k 0 _ rfl)) rfl (.c0 .nil) e9 λ_=>?_;have p:=bIl (w:=z) n g;rw[p];refine g8 ?_;exact bk2 ((2*i+1),(m.set i D).set (2*i+1) B) ⟨f4 (⟨by simp only[R0];omega,(bIf n g).trans a.2.1,bGs a.2.2.1 n g j5 j5 j5 (child2 g h j5 j5),j5⟩),e9⟩
 refine g16 ?_;obtain⟨y,e⟩:=gx m (2*i+1);obtain⟨r,j⟩:=gx m i;refine iM (bJ func372 rfl rfl) (lessN f (jZ e) (jZ j)) rfl rfl rfl rfl rfl (λw S s k=>mP (λw b=>wU w b) ((sS kT1) w S s k 0 _ rfl)) rfl (.c0 .nil) e9 λ_=>?_;refine g3 ?_;refine tQ (λd=>?_) λd=>?_
 .have d:=Y8.1 (of_decide_eq_false d);refine g15 ?_;have l:tB SpotV.T m:=bLz a.2.2.1 j λk q h1 h2 h3=>eH (show r.T<=y.T by omega) ((child1 e (Int.le_refl _) j5) k q h1 h2 h3);exact rs1 (m,_) ⟨f4 ⟨a.2.1,l⟩,e9⟩
 have d:=of_decide_eq_true d;refine g7 ?_;refine iM (bJ func375 rfl rfl) (swapN f (jZ j) (jZ e)) rfl rfl rfl rfl rfl (λw S s k=>mP (λw b=>bBq w b) ((sS kT1) w S s k 0 _ rfl)) rfl (.c0 .nil) e9 λ_=>?_;have p:=bIl (w:=z) j e;rw[p];refine g8 ?_;exact bk2 ((2*i+1),(m.set i y).set (2*i+1) r) ⟨f4 (⟨by simp only[R0];omega,(bIf j e).trans a.2.1,bGs a.2.2.1 j e j5 j5 j5 (child1 e (Int.le_refl _) j5),j5⟩),e9⟩
theorem up_any(A:Option Addr)(b c:Nat)(l:List SpotV)(x:SpotV)(ha: ∀q∈l,q.T<=x.T)(hl:l.length<=100000000):cJ prog 222 [.iface 284 (.pointer (some ⟨b,0,none⟩)),j3 (l.length:Nat)] [.obj b (.cells ([.slice A (l++[x]).length c]:List Value).toArray 330),fR.row (.slice A (l++[x]).length c) 214 (l++[x])] [] (λ(_:Unit)=> .tuple #[])
  (λ(_:Unit)=>[.obj b (.cells ([.slice A (l++[x]).length c]:List Value).toArray 330),fR.row (.slice A (l++[x]).length c) 214 (l++[x])]) (λ_=>[]):=by
 rcases Ai l.length with h0|h0
 .have e:l=[]:=P8 h0;subst e;exact up0_spec A b c [x]
 .obtain⟨m,d⟩: ∃m,l.length=m+1:=⟨l.length-1,j5⟩
  obtain⟨y,a⟩: ∃y,l[m/2]?=some y:=⟨_,G1 j5⟩
  have:=upS_spec A b c m (l++[x]) x y (by rw[<-d];simp) (jZ a) (ha y (f5 a)) j5;rw[<-d]at this;exact this
theorem at_full_row{β:dY}{n:Nat}{Γ:Env}{H:List bD}{F:List bC}{Q:Exit->Act->World->Prop}{ops:Array Oper}{rest:List Oper}{o:Oper}{d c q m:Nat}{x y:Operand}{A B:Option Addr}{xs ys:List SpotV}(hr:cF β H F fR A xs)(hs:cF β H F fR B ys)(hw:want ops Γ o=some true)
  (ho:o.op= .call {callee:= .builtin .append,args:= #[x,y],argTypes:= #[330,330]}) (hd:o.dst=some d) (hn:C2 d n=true) (hx:Γ.ev x=some (.slice A m m)) (hm:m=xs.length) (hy:Γ.ev y=some (.slice B q c)) (hq:q=ys.length) (h0:0<ys.length) (hl:xs.length+ys.length<=2000000000)
  (k: ∀A' cap',At β n ((d,.slice A' (xs++ys).length cap')::Γ) (fR.row (.slice A' (xs++ys).length cap') 214 (xs++ys)::H) F (wpList prog ops Q rest)):At β n Γ H F (wpList prog ops Q (o::rest)):=by obtain⟨i,e,b,a,hb⟩:=zO;exact bQs (E:=fR) hr hs hw ho hd hn underlying330 e b a hb rfl hx hm hy hq h0 j5 l4 k
theorem PushH_spec(A:Option Addr)(b:Nat)(l:List SpotV)(x:SpotV)(hl:l.length<=100000000):cJ prog 374 [.pointer (some ⟨b,0,none⟩),.iface 214 (.agg #[f9 x.at_,f9 x.size,j3 x.T])] [.obj b (.cells ([.slice A l.length l.length]:List Value).toArray 330),fR.held (.slice A l.length l.length) l] [] (λ(_:Option Addr×Nat)=> .tuple #[]) (λ(y:Option Addr×Nat)=>[.obj b (.cells ([.slice y.1 (l++[x]).length y.2]:List Value).toArray 330),fR.row (.slice y.1 (l++[x]).length y.2) 214 (l++[x])]) (λ_=>[]):=by have hT:=gF;refine j1 func374 ntmps374 ?_;intro β hM;refine mF 9 _ _ [j2,u1,u0,u2,u3,u4,A08,A16,u7] dJ k7 (.c0 .nil) bA.self ?_;refine g5 ?_;refine stL rfl (bDz rfl underlying214 (λ_ e=>by cases e) rfl) ?_;refine one ?_;refine bQq (m:=x) rfl rfl rfl rfl rfl λc=>?_;refine g2 ?_;refine at_full_row (dV kT2) (fD .head rfl) rfl rfl rfl rfl rfl rfl rfl rfl (Nat.succ_pos _) o8 λa c3=>?_;refine g5 ?_;exact dE (a,c3) rfl (.c0 (.c0 .nil)) e9 s8
theorem HPush_spec(A:Option Addr)(b c:Nat)(l:List SpotV)(x:SpotV)(ha: ∀q∈l,q.T<=x.T)(hl:l.length<=100000000):cJ prog 168 [.iface 284 (.pointer (some ⟨b,0,none⟩)),.iface 214 (.agg #[f9 x.at_,f9 x.size,j3 x.T])] [.obj b (.cells ([.slice A l.length c]:List Value).toArray 330),fR.row (.slice A l.length c) 214 l] [] (λ(_:Option Addr×Nat)=> .tuple #[]) (λ(y:Option Addr×Nat)=>[.obj b (.cells ([.slice y.1 (l++[x]).length y.2]:List Value).toArray 330),fR.row (.slice y.1 (l++[x]).length y.2) 214 (l++[x])]) (λ(y:Option Addr×Nat)=>[bC.pure ((l++[x]).length<=y.2)]):=by have hT:=gF;refine j1 func168 ntmps168 ?_;intro β hM;refine g4 ?_;refine iM (bJ func374 rfl rfl) (Push_spec A b c l x hl) rfl rfl rfl rfl rfl (λw S s k=>bVn w b) rfl (.c0 (.c0 .nil)) e9 λy1=>?_;refine g5 ?_;refine iM (bJ func165 rfl rfl) (bGb y1.1 (l++[x]).length y1.2) rfl rfl rfl rfl rfl (λw S s k=>mP (λw b=>bQv w b) ((sS .head) w S s k 0 _ rfl)) rfl .nil e9 λ_=>?_;refine one ?_;refine bM (z':=((l.length:Nat):Int)) q9 ?_;refine bL func222 (up_any y1.1 b y1.2 l x ha hl) rfl rfl (.c0 (.c0 .nil)) e9 λ_=>?_;refine jL<|bAl (E:=fR) (xs:=l++[x]) kT1 λa=>?_;exact dE y1 rfl (.c0 (.c0 .nil)) ⟨f4 a,e9⟩ (rfl)
theorem HPushF_spec(A:Option Addr)(b:Nat)(l:List SpotV)(x:SpotV)(ha: ∀q∈l,q.T<=x.T)(hl:l.length<=100000000):cJ prog 168 [.iface 284 (.pointer (some ⟨b,0,none⟩)),.iface 214 (.agg #[f9 x.at_,f9 x.size,j3 x.T])] [.obj b (.cells ([.slice A l.length l.length]:List Value).toArray 330),fR.held (.slice A l.length l.length) l] [] (λ(_:Option Addr×Nat)=> .tuple #[]) (λ(y:Option Addr×Nat)=>[.obj b (.cells ([.slice y.1 (l++[x]).length y.2]:List Value).toArray 330),fR.row (.slice y.1 (l++[x]).length y.2) 214 (l++[x])]) (λ(y:Option Addr×Nat)=>[bC.pure ((l++[x]).length<=y.2)]):=by have hT:=gF;refine j1 func168 ntmps168 ?_;intro β hM;refine g4 ?_;refine iM (bJ func374 rfl rfl) (PushH_spec A b l x hl) rfl rfl rfl rfl rfl (λw S s k=>bVn w b) rfl (.c0 (.c0 .nil)) e9 λy1=>?_;refine g5 ?_;refine iM (bJ func165 rfl rfl) (bGb y1.1 (l++[x]).length y1.2) rfl rfl rfl rfl rfl (λw S s k=>mP (λw b=>bQv w b) ((sS .head) w S s k 0 _ rfl)) rfl .nil e9 λ_=>?_;refine one ?_;refine bM (z':=((l.length:Nat):Int)) q9 ?_;refine bL func222 (up_any y1.1 b y1.2 l x ha hl) rfl rfl (.c0 (.c0 .nil)) e9 λ_=>?_;refine jL<|bAl (E:=fR) (xs:=l++[x]) kT1 λa=>?_;exact dE y1 rfl (.c0 (.c0 .nil)) ⟨f4 a,e9⟩ (rfl)
theorem HPop_spec(A:Option Addr)(b c N:Nat)(l:List SpotV)(x z:SpotV)(hlm:l.length=N+1)(hc:N+1<=c)(hx:l[0]?=some x)(hz:l[N]?=some z)(hs:tB SpotV.T l)(hb:N<=100000000):cJ prog 166 [.iface 284 (.pointer (some ⟨b,0,none⟩))] [.obj b (.cells ([.slice A (N+1) c]:List Value).toArray 330),fR.held (.slice A (N+1) c) l] [] (λ(_:List SpotV)=> .iface 214 (.agg #[f9 x.at_,f9 x.size,j3 x.T])) (λ(m:List SpotV)=>[.obj b (.cells ([.slice A N N]:List Value).toArray 330),fR.held (.slice A N N) m]) (λ(m:List SpotV)=>[bC.pure (l.Perm (x::m)/\tB SpotV.T m)]):=by
 have hT:=gF;refine j1 func166 ntmps166 ?_;intro β hM;refine g8 ?_;refine iM (bJ func165 rfl rfl) (bGb A (N+1) c) rfl rfl rfl rfl rfl (λw S s k=>mP (λw b=>bQv w b) ((sS .head) w S s k 0 _ rfl)) rfl .nil e9 λ_=>?_;refine one ?_;refine bM (z':=((N:Nat):Int)) (by rw[show((N+1:Nat):Int)-1=(N:Nat) by omega];exact jG rfl j5) ?_;refine g7 ?_;refine iM (bJ func375 rfl rfl) (swapN hlm hx hz) rfl rfl rfl rfl rfl (λw S s k=>mP (λw b=>bBq w b) ((sS .head) w S s k 0 _ rfl)) rfl (.c1 .nil) e9 λ_=>?_;rw[bTp hlm hx hz];refine g6 ?_;refine bL func221 (downS_spec A b c N ((l.take N).set 0 z) x o6 (sink_start hs) hb) rfl rfl (.c1 (.c0 .nil)) e9 λy1=>?_;refine bG d7 λa=>?_;have d:y1.1.length=N:=by have:=a.1.length_eq;simp at this;omega
 refine g5 ?_;refine iM (bJ func373 rfl rfl) (PopH_spec A b c N (y1.1++[x]) x o6 hc (by rw[<-d];simp) hb) rfl rfl rfl rfl rfl (λw S s k=>meth_pop w b) rfl (.c0 (.c0 .nil)) e9 λ_=>?_;have e:(y1.1++[x]).take N=y1.1:=by rw[<-d];simp
 rw[e];refine g4 ?_;exact rs1 y1.1 ⟨f4 ⟨swap_perm hlm hx hz a.1,a.2⟩,e9⟩
set_option maxRecDepth 100000
set_option maxHeartbeats 1000000 in
theorem bTi(a b:Mono)(w:World):
  Calls prog 171 #[.agg #[j3 a.n,j4 a.e0.toNat,j4 a.q.toNat,j4 a.o.toNat,j4 a.j.toNat,j4 a.d.toNat,j4 a.Z.toNat],.agg #[j3 b.n,j4 b.e0.toNat,j4 b.q.toNat,j4 b.o.toNat,j4 b.j.toNat,j4 b.d.toNat,j4 b.Z.toNat]] w λe w'=>e= .returned (j3 (bCl a b))/\Below w.heap.size w w':=by
 go_enter func171,ntmps171
 go_wp2
 refine wp_loop_rounds 7 ?_
 repeat any_goals (first|(rw[rounds_succ];go_wp2)|(go_quiet (fail);go_wp2))
 all_goals go_ret
 all_goals refine⟨bAr ?_,?_⟩
 all_goals first|((repeat refine bKb ?_ _);go_grown;done)|(go_light;simp[bCl,Mono.E,zS, *];done)|(go_light;simp[bCl,Mono.E,zS, *];rfl)
end
section
open Go.RowKit Go.Proofs.Tryz
set_option maxRecDepth 100000
theorem cmp_flip: ∀(l m:List UInt8),(U3 l m=1↔U3 m l<0)/\(U3 l m=0↔U3 m l=0)
 |[],[]=>by simp[U3]
 |[],_::_=>by simp[U3]
 |_::_,[]=>by simp[U3]
 |a::l,b::m=>by
  have c:=cmp_flip l m;rw[zS,zS]
  by_cases h1:b.toNat<a.toNat
  .rw[if_pos h1,if_neg j5,if_pos h1];simp
  .rw[if_neg h1]
   by_cases h2:a.toNat<b.toNat
   .rw[if_pos h2,if_pos h2];simp
   .rw[if_neg h2,if_neg h2,if_neg h1];exact c
theorem bVp(a b:Mono):bCl a b=1↔ord a b<0:=(cmp_flip _ _).1
theorem small_not{m:Mono}(h:hJ m=false):(m.n==0)=true\/((m.n==0)=false/\decide (16777216<m.n)=true)\/((m.n==0)=false/\decide (16777216<m.n)=false/\decide (m.n< -16777216)=true)\/
  ((m.n==0)=false/\decide (16777216<m.n)=false/\decide (m.n< -16777216)=false/\decide (8<(m.deg:Int))=true):=by have a: ¬(m.n≠0/\m.n<=16777216/\ -16777216<=m.n/\m.deg<=8):=of_decide_eq_false h;simp only[beq_iff_eq,beq_eq_false_iff_ne,decide_eq_true_eq,decide_eq_false_iff_not];omega
theorem small_all{m:Mono}(h:hJ m=true):(m.n==0)=false/\decide (16777216<m.n)=false/\decide (m.n< -16777216)=false/\decide (8<(m.deg:Int))=false:=by have a:m.n≠0/\m.n<=16777216/\ -16777216<=m.n/\m.deg<=8:=of_decide_eq_true h;simp only[beq_eq_false_iff_ne,decide_eq_false_iff_not];omega
set_option maxHeartbeats 1000000 in
theorem nN(A:Option Addr)(c:Nat)(xs:List Mono)(w:World)(ha:lR w A xs)(hx:xs.length<=140737488355328):
  Calls prog 101 #[.slice A xs.length c] w λe w'=>e= .returned (.bool (cK xs))/\Below w.heap.size w w':=by
 by_cases hl:xs.length<=48
 .have hl1:decide ((48:Int)<(xs.length:Int))=false:=by simp;omega
  have Ha:=U4 ha;clear ha
  go_enter func101,ntmps101
  go_wp2
  go_loopw [3] (λi wr=> ∃k:Nat,k<=xs.length/\i= .int .i64 k/\Hid (cK xs=fG (if k=0 then none else xs[k-1]?) (xs.drop k))/\Below w.heap.size w wr) (λi _=>xs.length-(intOf i).toNat)
  case atStart=>exact⟨0,Nat.zero_le _,rfl,by show _=_;simp[cK,hl],Below.refl _ _⟩
  case round=>
   obtain⟨k,hk,rfl,hs,hbl⟩:=hrel
   by_cases hlt:k<xs.length
   .obtain⟨m,hm,dm⟩:=mS hlt;obtain⟨b,o,rfl,hB,c0,c1,c2,c3,c4,c5,c6⟩:=Ha.out.below hbl k m hm;have HN:=U4 (show hJ m=false->cK xs=false by intro hsb;rw[hs.out,dm];split<;>(try cases xs[k-1]?)<;>simp[fG,hsb]);have HM:=U4 hm;have HD:=U4 dm;cases hsb:hJ m
    .have HN':=U4 (HN.out hsb);have HBL:=U4 hbl;clear dm hm hbl hB HN hs HM HD
     rcases small_not hsb with t0|⟨t0,t1⟩|⟨t0,t1,t2⟩|⟨t0,t1,t2,t3⟩
     all_goals go_wp2_with (go_at_call 170;refine(bMd m _).mono ?_;rintro e w1 ⟨rfl,hb1⟩)
     all_goals go_ret
     all_goals refine⟨kV HN'.out.symm,?_⟩
     all_goals first|exact HBL.out|exact HBL.out.trans (hb1.mono HBL.out.size)
    .obtain⟨t0,t1,t2,t3⟩:=small_all hsb;have HC:=U4 (Ha.out.below hbl k m hm);have HBL:=U4 hbl;clear dm hm hbl hB HN
     go_wp2_with (go_at_call 170;refine(bMd m _).mono ?_;rintro e w1 ⟨rfl,hb1⟩)
     clear c0 c1 c2 c3 c4 c5 c6 t0 t1 t2 t3;have HB1:=U4 (show Below w.heap.size w w1 from HBL.out.trans (hb1.mono HBL.out.size));clear hb1 HBL HC
     rcases Ai k with hk0|hk0
     .have hk1:decide (0<k)=false:=by simp;omega
      have HS:=U4 (show cK xs=fG (if k+1=0 then none else xs[k+1-1]?) (xs.drop (k+1)) by rw[hs.out,HD.out,if_pos hk0,if_neg j5,show k+1-1=k from rfl,HM.out];simp[fG,hsb]);clear hs hk0 HM HD;refine mN j8 j8 ?_
      repeat (go_big_quiet_step (fail))
      refine wpQuiet_nil ?_;rintro _ ⟨x,rfl⟩
      go_wp2
      go_roundw
      case rel=>exact⟨k+1,j5,by go_num,HS,HB1.out.trans (x.h.mono HB1.out.size)⟩
      case measure=>simp[intOf];omega
     .have hk1:decide (0<k)=true:=by simp;omega
      obtain⟨j,rfl⟩: ∃j,k=j+1:=⟨k-1,j5⟩
      obtain⟨q,hq⟩: ∃q,xs[j]?=some q:=⟨xs[j]'j5,G1 _⟩
      have HS:=U4 (show cK xs=(decide (ord q m<0)&&fG (some m) (xs.drop (j+1+1))) by rw[hs.out,HD.out,if_neg j5,show j+1-1=j from rfl,hq];simp[fG,hsb])
      have p0:fP w1 b (o+j*7) q/\fP w1 b (o+(j+1)*7) m:=by
       obtain⟨b1,o1,e1,hB1,hm1⟩:=Ha.out.below HB1.out j q hq;obtain⟨b2,o2,e2,hB2,hm2⟩:=Ha.out.below HB1.out (j+1) m HM.out;injection e1 with e1
       injection e1 with e1 e1'
       injection e2 with e2
       injection e2 with e2 e2'
       subst e1 e1' e2 e2';exact⟨hm1,hm2⟩
      obtain⟨r0,r1,r2,r3,r4,r5,r6⟩:=p0.2.later;obtain⟨s0,s1,s2,s3,s4,s5,s6⟩:=p0.1.later;clear hs hk0 hq p0;have Hor:=U4 (gG.calls (W0:=w1) λW _=>bTi q m W);refine mN j8 j8 ?_
      repeat (go_big_quiet_step ((go_at_call 171;exact Hor.out _)))
      refine wpQuiet_nil ?_;rintro _ ⟨x,rfl⟩;clear r0 r1 r2 r3 r4 r5 r6 s0 s1 s2 s3 s4 s5 s6 Hor;have HBX:=U4 (show Below w.heap.size w x.w from HB1.out.trans (x.h.mono HB1.out.size));clear HB1
      by_cases ho:ord q m<0
      .have ho1:(bCl q m !=1)=false:=by simp[(bVp q m).2 ho]
       go_wp2
       go_roundw
       case rel=>exact⟨j+1+1,j5,by go_num,w9,HBX.out⟩
       case measure=>simp[intOf];omega
      .have ho1:(bCl q m !=1)=true:=by rw[bne_iff_ne];intro h;exact ho ((bVp q m).1 h)
       go_wp2
       go_ret
       exact⟨kV ac0,HBX.out⟩
   .have hk':k=xs.length:=j5
    go_wp2
    go_ret
    refine⟨kV ?_,hbl⟩;rw[hs.out,U8 j5];split<;>(try cases xs[k-1]?)<;>simp[fG]
 .have hl1:decide ((48:Int)<(xs.length:Int))=true:=by simp;omega
  go_enter func101,ntmps101
  go_wp2
  go_ret
  exact⟨kV (by simp[cK,hl]),Below.refl _ _⟩
end
section
open Go.RowKit Go.Proofs.Tryz
set_option maxRecDepth 100000
set_option maxHeartbeats 1000000 in
theorem refGrows_any(A:Option Addr)(c:Nat)(xs:List Mono)(w:World)(ha:lR w A xs)(hx:xs.length<=140737488355328):
  Calls prog 155 #[.slice A xs.length c] w λe w'=>e= .returned (.bool (jJ xs))/\Below w.heap.size w w':=by
 have Ha:=U4 ha;clear ha
 go_enter func155,ntmps155
 go_wp2
 go_loop [3] (λi=> ∃k:Nat,k<=xs.length/\i= .int .i64 k/\Hid (xs.any vV=(xs.drop k).any vV)) (λi=>xs.length-(intOf i).toNat)
 case atStart=>exact⟨0,Nat.zero_le _,rfl,rfl⟩
 case round=>
  obtain⟨k,hk,rfl,hs⟩:=hrel
  by_cases hlt:k<xs.length
  .obtain⟨m,hm,dm⟩:=mS hlt;obtain⟨b,o,rfl,hB,c0,c1,c2,c3,c4,c5,c6⟩:=Ha.out k m hm;have HS:=U4 (show xs.any vV=(vV m || (xs.drop (k+1)).any vV) by rw[hs.out,dm,List.any_cons]);clear hs hm dm hB c1 c2 c3 c4 c5 c6
   by_cases hn:m.n<0
   .have hn1:decide (m.n<0)=true:=by simpa using hn
    go_wp2
    go_ret
    exact⟨kV (by unfold jJ;rw[HS.out,show vV m=true from hn1,Bool.true_or];simp),Below.refl _ _⟩
   .have hn1:decide (m.n<0)=false:=by simpa using hn
    go_wp2
    go_round
    case rel=>exact⟨k+1,j5,by go_num,(by show _=_;rw[HS.out,show vV m=false from hn1,Bool.false_or])⟩
    case measure=>simp[intOf];omega
  .have HS:=U4 (show xs.any vV=false by rw[hs.out,U8 j5];rfl);clear hs
   go_wp2_with fail
   refine(nN A c xs _ Ha.out hx).mono ?_;rintro e w1 ⟨rfl,hb1⟩
   go_wp2
   go_ret
   exact⟨kV (by unfold jJ;rw[HS.out];simp),hb1⟩
section
variable (p : PolV)
theorem refR_spec(hp:p.B.length<=140737488355328):cJ prog 101 [f9 p] [] [cR p] (λ_:Unit=> .bool (cK p.B)) (λ_=>[]) (λ_=>[]):=
 mE λ_ w a h=>nN _ _ _ w (lE a (h _ (.head _))) hp
theorem refG_spec(hp:p.B.length<=140737488355328):cJ prog 155 [f9 p] [] [cR p] (λ_:Unit=> .bool (jJ p.B)) (λ_=>[]) (λ_=>[]):=
 mE λ_ w a h=>refGrows_any _ _ _ w (lE a (h _ (.head _))) hp
end
end
section
open Go.RowKit Go.Proofs.Tryz
section
variable {f : Int} {two : Bool}
theorem bBi(h:two=true)(h1:1<=f)(h2:f<=17):Y6 (f !=16)= .bool (gQ f two):=by
 unfold gQ;rw[if_neg j5,h]
 by_cases e:f=16
 .subst e;rfl
 .rw[if_neg e];simp[e]
theorem bAt(h:two=false)(h1:1<=f)(h2:f<=7):Y6 true= .bool (gQ f two):=by unfold gQ;rw[if_neg j5,if_neg j5,h];simp[h2]
theorem bBk(h:two=false)(h1: ¬f<=7):Y6 (f==16)= .bool (gQ f two):=by
 unfold gQ
 by_cases e:f=16
 .subst e;rw[h];rfl
 .rw[if_neg e,h]
  by_cases h2:f<1\/17<f
  .rw[if_pos h2];simp[e]
  .rw[if_neg h2];simp[e,h1]
theorem bBc(h1:f<1):Y6 (f==16)= .bool (gQ f two):=by
 unfold gQ;rw[if_pos j5];have:f≠16:=j5
 simp[this]
end
theorem exp_at{m:Mono}{k:Nat}{z:Int}(h:(EI m)[k]?=some z):((m.cells.drop 1).drop (k*1))[0]?=some (j4 z):=by rw[I1,I1];have e:m.cells= .int .i64 m.n::(EI m).map (λz=>Value.int .u8 z):=rfl;rw[e,show 1+(k*1+0)=k+1 by omega,W4,F7,h];rfl
theorem own_no{l:List Mono}{vars:Int}(h:cK l=false):Y6 false= .bool (ofB l vars):=by simp[ofB,h]
theorem own_end{l:List Mono}{vars:Int}(h:cK l=true)(h2:l.all (okM (clampK vars))=true):Y6 true= .bool (ofB l vars):=by rw[<-h];exact of_end h2
theorem grow_long{l:List (List Mono)}{vars:Int}(h:4<l.length):Y6 false= .bool (iL l vars):=by
 unfold iL;have: ¬l.length<=4:=j5
 simp[this]
theorem grow_all{l:List (List Mono)}{vars:Int}(h:l.all (λp=>ofB p vars&&jJ p)=true)(h4:l.length<=4):Y6 true= .bool (iL l vars):=by unfold iL;rw[h];simp[h4]
theorem takes10_spec(o:OpV):cJ prog 213 [.agg #[j3 o.N,j3 o.k,j3 o.n,f9 o.p,j4 o.fn]] [] [] (λ(_:Unit)=> j3 (cO o.N)) (λ_=>[]) (λ_=>[]):=by
 have hT:=dF;refine j1 func213 ntmps213 ?_;intro β hM;refine g2 ?_;refine j0 λq=>?_;refine g18 ?_;refine cD rfl (λg=>?_) (λg=>?_)
 .have j:=g;have g:=eq_of_beq g;refine g2 ?_;refine gT rfl j ?_;refine g8 ?_;exact rs1 () e9 (he:=by simp[cO, *])
 have j:=g;have g:=beq_eq_false_iff_ne.1 g;refine g6 ?_;refine cD rfl (λc=>?_) (λc=>?_)
 .have e:=c;have c:=eq_of_beq c;refine g2 ?_;refine gT rfl e ?_;refine g8 ?_;exact rs1 () e9 (he:=by simp[cO, *])
 have e:=c;have c:=beq_eq_false_iff_ne.1 c;refine g5 ?_;refine cD rfl (λb=>?_) (λb=>?_)
 .have l:=b;have b:=eq_of_beq b;refine g8 ?_;exact rs1 () e9 (he:=by simp[cO, *])
 have l:=b;have b:=beq_eq_false_iff_ne.1 b;refine g7 ?_;refine cD rfl (λf=>?_) (λf=>?_)
 .have h:=f;have f:=eq_of_beq f;refine g2 ?_;refine gT rfl h ?_;refine g8 ?_;exact rs1 () e9 (he:=by simp[cO, *])
 have h:=f;have f:=beq_eq_false_iff_ne.1 f;refine g5 ?_;refine cD rfl (λa=>?_) (λa=>?_)
 .have i:=a;have a:=eq_of_beq a;refine g8 ?_;exact rs1 () e9 (he:=by simp[cO, *])
 have i:=a;have a:=beq_eq_false_iff_ne.1 a;refine g6 ?_;refine cD rfl (λd=>?_) (λd=>?_)
 .have m:=d;have d:=eq_of_beq d;refine g8 ?_;exact rs1 () e9 (he:=by simp[cO, *])
 have m:=d;have d:=beq_eq_false_iff_ne.1 d;refine g9 ?_;exact rs1 () e9 (he:=by simp[cO, *])
theorem vP(f:Int)(two:Bool):cJ prog 156 [j4 f,.bool two] [] [] (λ(_:Unit)=> .bool (gQ f two)) (λ_=>[]) (λ_=>[]):=by
 have hT:=dF;refine j1 func156 ntmps156 ?_;intro β hM;refine g11 ?_;refine cD rfl (λg=>?_) (λg=>?_)
 .have e:=g;refine g5 ?_;refine cE (λd=>?_) (λd=>?_)
  .have d:=of_decide_eq_true d;refine g4 ?_;refine cE (λc=>?_) (λc=>?_)
   .have c:=of_decide_eq_true c;refine g8 ?_;exact rs1 () e9 (he:=m7)
   have c:=Ak.1 (of_decide_eq_false c);refine g8 ?_;exact rs1 () e9 (he:=m7)
  have d:=Ak.1 (of_decide_eq_false d);refine g12 ?_;exact rs1 () e9 (he:=m7)
 have e:=g;refine g7 ?_;refine cE (λb=>?_) (λb=>?_)
 .have b:=of_decide_eq_true b;refine g4 ?_;refine cE (λa=>?_) (λa=>?_)
  .have a:=of_decide_eq_true a;refine g7 ?_;exact rs1 () e9 (he:=m7)
  have a:=Ak.1 (of_decide_eq_false a);refine g7 ?_;exact rs1 () e9 (he:=m7)
 have b:=Ak.1 (of_decide_eq_false b);refine g11 ?_;exact rs1 () e9 (he:=m7)
theorem bFz(A:Option Addr)(c:Nat)(l:List OpV)(hl:l.length<=140737488355328):cJ prog 157 [.slice A l.length c] [] [opE.sl (.slice A l.length c) l,bC.each l opF] (λ(_:Unit)=> j3 (mJ (opsL l))) (λ_=>[]) (λ_=>[]):=by
 have hT:=dF;generalize o:mJ (opsL l)=r;refine j1 func157 ntmps157 ?_;intro β hM;refine g22 ?_;refine bT (ι:=Nat×Int×Int) [(0,_)] ⟨rfl,e9⟩ (λ⟨i,m,n⟩=>[(3,.int .i64 n),(4,.int .i64 m),(5,.int .i64 (i:Nat))]) (λ_=>[]) (λ⟨i,m,n⟩=>[bC.pure (i<=l.length/\bPv l i m n r/\0<=n/\n<=i)]) (λ⟨i,m,n⟩=>l.length-i) (0,0,0) ⟨rfl,rfl,rfl,e9⟩ .nil ⟨f4 (⟨j5,o,j5,j5⟩),e9⟩ ?_;rintro⟨i,m,n⟩;dsimp only;refine bG d7 λa=>?_;refine g9 ?_;refine dO (λh=>?_) λh=>?_
 .refine g8 ?_;obtain⟨j,d⟩:=gx l i;refine ss (ixs i) ?_;refine ss (lI d 0) ?_;refine bL func213 (takes10_spec j) rfl rfl .nil e9 λ_=>?_;refine g5 ?_;have k:=takes_le j.N
  have b:=(dep_step a.2.1 d)
  refine g4 ?_;refine nO (λe=>?_) λe=>?_
  .refine g19 ?_;have hr:=b.1 j5;subst hr;exact rs1 () trivial
  refine g6 ?_;refine dO (λg=>?_) λg=>?_
  .refine g12 ?_;have hr:=b.1 j5;subst hr;exact rs1 () trivial
  refine g7 ?_;refine bM (jO j5 j5) ?_;refine one ?_;refine bM (jO j5 j5)<|bM (z':=n+(1-cO j.N)) j5 ?_;refine g14 ?_;refine inc (i+1) ?_;refine g3 ?_;exact dB (i+1,_,_) k8 ⟨rfl,rfl,rfl,e9⟩ ⟨rfl,e9⟩ .nil ⟨f4 (⟨by dsimp only;omega,b.2 j5 j5,by dsimp only;omega,by dsimp only;omega⟩),e9⟩ (bA.drop 1)
 refine g12 ?_;refine bEh (λf=>?_) λf=>?_
 .refine g7 ?_;have hr:=(bLr a.2.1 j5).1 ‹_›;subst hr;exact rs1 () trivial
 refine g9 ?_;have hr:=(bLr a.2.1 j5).2 ‹_›;subst hr;exact rs1 () trivial
theorem bPh(p:PolV)(vars:Int)(hv:0<=vars)(hv6:vars<=6):cJ prog 154 [f9 p,j3 vars] [] [cR p] (λ(_:Unit)=> .bool (ofB p.B vars)) (λ_=>[]) (λ_=>[]):=by
 have hT:=dF;have s:((clampK vars:Nat):Int)=vars:=by unfold clampK;omega
 refine j1 func154 ntmps154 ?_;intro β hM;refine cH<|bG (dI d7) λq=>?_;refine bK (dM.sl (.slice p.O p.B.length p.cap) p.B) (fT d7) ?_;refine g8 ?_;refine bL func101 (refR_spec p q) rfl rfl .nil ⟨d8,e9⟩ λ_=>?_;refine g3 ?_;refine tQ (λn=>?_) λn=>?_
 .refine g7 ?_;exact rs1 () e9 (he:=own_no (by simp_all))
 refine g9 ?_;refine bT (ι:=Nat) [(0,_),(1,_)] ⟨rfl,rfl,e9⟩ (λi=>[(5,.int .i64 (i:Nat))]) (λ_=>[]) (λi=>[bC.pure (i<=p.B.length/\(p.B.take i).all (okM (clampK vars))=true)]) (λi=>p.B.length-i) 0 ⟨rfl,e9⟩ .nil ⟨f4 (⟨j5,rfl⟩),e9⟩ ?_;rintro i;refine bG d7 λc=>?_;refine g9 ?_;refine dO (λl=>?_) λl=>?_
 .refine g5 ?_;obtain⟨m,d⟩:=gx p.B i;refine g3 ?_;refine bM (z':=((clampK vars+0:Nat):Int)) j5 ?_;refine g3 ?_;refine bT (ι:=Nat) [(0,_),(1,_),(5,_)] ⟨rfl,rfl,rfl,e9⟩ (λj=>[(6,.int .i64 ((clampK vars+j:Nat):Int))]) (λ_=>[]) (λj=>[bC.pure (clampK vars+j<=6/\(((EI m).drop (clampK vars)).take j).all (λe=>e==0)=true)]) (λj=>6-clampK vars-j) 0 ⟨rfl,e9⟩ .nil ⟨f4 (⟨j5,rfl⟩),e9⟩ ?_;rintro j;refine bG d7 λb=>?_;refine g7 ?_;refine dO (λh=>?_) λh=>?_
  .refine g9 ?_;refine ss (ixs i) ?_;refine one ?_;refine ss (cX hT (k:=(clampK vars+j)) rfl rfl rfl rfl rfl rfl j5) ?_;obtain⟨o,f⟩:=gx (EI m) (clampK vars+j) (by show _<6;omega);have a:((EI m).drop (clampK vars))[j]?=some o:=by rw[I1];exact f
   have r:=ei_ge a;refine ss (bI hT (lT.drop (cF.knows (bH d9) (k:=i) (x:=m) d 1) ((clampK vars+j)*1)) rfl rfl rfl rfl (exp_at f)) ?_;refine g3 ?_;refine dO (λg=>?_) λg=>?_
   .refine g15 ?_;exact rs1 () e9 (he:=of_bad d (okM_bad a j5))
   refine g6 ?_;refine inc ((clampK vars+j)+1) ?_;refine g3 ?_;exact bk2 (j+1) ⟨f4 (⟨j5,lS b.2 a (beq_iff_eq.2 j5)⟩),e9⟩
  refine g9 ?_;refine inc (i+1) ?_;refine g3 ?_;exact bk2 (i+1) ⟨f4 (⟨j5,lS c.2 d (okM_end b.2 ae1)⟩),e9⟩
 refine g11 ?_;exact rs1 () e9 (he:=own_end (by simp_all) (sK c.2 j5))
theorem zD(l:Sl PolV)(vars:Int)(hv:0<=vars)(hv6:vars<=6):cJ prog 84 [f9 l,j3 vars] [] [nL l] (λ(_:Unit)=> .bool (iL (polsL l.B) vars)) (λ_=>[]) (λ_=>[]):=by
 have hT:=dF;refine j1 func84 ntmps84 ?_;intro β hM;refine cH<|bG (qB d7) λh=>?_;have k:=h.2;refine bK (fF.sl (.slice l.O l.B.length l.cap) l.B) (mW d7) ?_;refine g12 ?_;refine dO (λj=>?_) λj=>?_
 .refine g7 ?_;exact rs1 () e9 (he:=grow_long p9)
 refine g9 ?_;refine bT (ι:=Nat) [(0,_),(1,_)] ⟨rfl,rfl,e9⟩ (λi=>[(5,.int .i64 (i:Nat))]) (λ_=>[]) (λi=>[bC.pure (i<=l.B.length/\((polsL l.B).take i).all (λp=>ofB p vars&&jJ p)=true)]) (λi=>l.B.length-i) 0 ⟨rfl,e9⟩ .nil ⟨f4 (⟨j5,rfl⟩),e9⟩ ?_;rintro i;refine bG d7 λb=>?_;refine g9 ?_;refine dO (λf=>?_) λf=>?_
 .refine g5 ?_;obtain⟨g,a⟩:=gx l.B i;refine bK (cR g) (Has.each (mY d9) (f5 a))<|bG (dI d7) λc=>?_;refine g3 ?_;refine ss (ixs i) ?_;refine ss (fV a 0) ?_;refine one ?_;refine bL func154 (bPh g vars hv hv6) rfl rfl .nil ⟨d7,e9⟩ λ_=>?_;refine g2 ?_;refine bHr (λd=>?_) λd=>?_
  .refine g21 ?_;exact rs1 () e9 (he:=bFf (cG a) (by simp_all))
  refine g2 ?_;refine ss (ixs i) ?_;refine ss (fV a 0) ?_;refine bL func155 (refG_spec g c) rfl rfl .nil ⟨d7,e9⟩ λ_=>?_;refine g4 ?_;refine tQ (λe=>?_) λe=>?_
  .refine g11 ?_;exact rs1 () e9 (he:=bFf (cG a) (by simp_all))
  refine g6 ?_;refine inc (i+1) ?_;refine g3 ?_;exact bk2 (i+1) ⟨f4 (⟨j5,lS b.2 (cG a) (by simp_all)⟩),e9⟩
 refine g11 ?_;exact rs1 () e9 (he:=grow_all (sK b.2 p9) p9)
theorem polsInfo: ∃i:TypeInfo,prog.info? 43=some i/\i.zero=some (.slice none 0 0)/\i.size=1/\i.bytes=24:=by
 have h:(prog.info? 43).map (λi=>(i.zero,i.size,i.bytes))=some (some (.slice none 0 0),1,24):=j8
 cases a:prog.info? 43 with
 |none=>simp[a]at h
 |some i=>simp[a]at h;exact⟨i,rfl,h.1,h.2.1,h.2.2⟩
theorem at_one_pols{β:dY}{n:Nat}{Γ:Env}{H:List bD}{F:List bC}{Q:Exit->Act->World->Prop}{ops:Array Oper}{rest:List Oper}{o:Oper}{d:Nat}{x:Operand}{m:PolV}(hw:want ops Γ o=some true)(ho:o.op= .buildSlice 42 1 #[(0,x)])(hd:o.dst=some d)(hn:C2 d n=true)
  (hx:Γ.ev x=some (f9 m)) (k: ∀b,At β n ((d,.slice (some ⟨b,0,none⟩) 1 1)::Γ) (.obj b (.cells (fF.all [m]).toArray 43)::H) F (wpList prog ops Q rest)):At β n Γ H F (wpList prog ops Q (o::rest)):=by
 obtain⟨i,e,a,c,_⟩:=polsInfo;refine nX hw ho hd hn hx underlying42 e a j5 j5 ?_ k;rw[c]
 kernel_rfl
theorem listF_one{F:List bC}{A:Option Addr}{p:PolV}(h1:Has F (fF.sl (.slice A 1 1) [p]))(h2:Has F (cR p)):Has F (nL ⟨A,1,[p]⟩):=
 Has.and (Has.and h1 (λS w k q hq=>by simp at hq;subst hq;exact h2 S w k)) (f4 ⟨Nat.le_refl 1,(by decide:1*24<=140737488355328)⟩)
def pC (c:dR)(made:List Bool)(x:cT):Bool:=(decide (0<=x.I)&&(match c.C[x.I.toNat]? with
   |some b=>decide (b.L<0)
   |none=>false))&&mV c.vars made x
def bBv (vars:Int)(x:gA)(made:List Bool)(o:OpV):Bool:=opB vars x.H.B.length (-1) made o.c&& !(o.N==4&&o.k==x.I)
structure bNr (c:fX) (made:List Bool) (x:gA):Prop where
 how1:1<=x.N
 how3:x.N<=3
 buf0:0<=x.I
 bufn:x.I<(c.C.B.length:Nat)
 inp: ∀b,c.C.B[x.I.toNat]?=some b->b.L<0
 at_:iL (polsL [x.at_]) c.vars=true
 H:iL (polsL x.H.B) c.vars=true
 ne:x.N≠1->x.H.B.length≠0
 fn1:x.N=1->x.fn=0
 fn3:x.N≠1->gQ x.fn true=true
 ops0:x.ops.B.length≠0
 ops1:(x.ops.B.length:Int)<=256
 dep:0<=mJ (opsL x.ops.B)
 ops:x.ops.B.all (bBv c.vars x made)=true
theorem op_buf{vars loops buf:Int}{made:List Bool}{o:OpV}:opB vars loops buf made o.c=(opB vars loops (-1) made o.c&& !(o.N==4&&o.k==buf)):=by
 unfold opB;show(if o.N=1 then _ else if o.N=2 then _ else if o.N=3 then _ else if o.N=4 then _ else if o.N=5\/o.N=6 then _ else _)=((if o.N=1 then _ else if o.N=2 then _ else if o.N=3 then _ else if o.N=4 then _ else if o.N=5\/o.N=6 then _ else _)&&_)
 by_cases h4:o.N=4
 .rw[if_neg j5,if_neg j5,if_neg j5,if_pos h4,if_neg j5,if_neg j5,if_neg j5,if_pos h4];show(decide (0<=o.k/\o.k≠buf)&&_)=(decide (0<=o.k/\o.k≠ -1)&&_&&_)
  by_cases h0:0<=o.k
  .by_cases a:o.k=buf
   .simp[h4,a]
   .have h1:o.k≠ -1:=j5
    simp[h4,a,h0,h1]
  .have h1:decide (0<=o.k/\o.k≠buf)=false:=decide_eq_false j5;have h2:decide (0<=o.k/\o.k≠ -1)=false:=decide_eq_false j5;rw[h1,h2];rfl
 .have e:(o.N==4)=false:=by simp[h4]
  rw[e,if_neg h4,if_neg h4];simp
theorem step_iff{c:fX}{made:List Bool}{x:gA}:pC c.c made x.c=true↔bNr c made x:=by
 have f:x.c.ops.all (opB c.vars x.H.B.length x.I made)=x.ops.B.all (bBv c.vars x made):=by
  show(x.ops.B.map OpV.c).all _=_;rw[List.all_map]
  congr 1
  funext o
  exact op_buf
 have hl:x.c.H.length=x.H.B.length:=bS _;have ho:x.c.ops.length=x.ops.B.length:=fQ _
 have he:x.c.H.isEmpty=decide (x.H.B.length=0):=by rw[<-hl];cases x.c.H<;>rfl
 have n:iL (polsL [x.at_]) c.vars=(ofB x.at_.B c.vars&&jJ x.at_.B):=by show(([x.at_.B]).all _&&decide (1<=4))=_;simp
 have hd:mJ []= -1:=l4
 constructor
 .intro h;unfold pC mV at h;simp only[L9,decide_eq_true_eq]at h;obtain⟨⟨h1,h2⟩,⟨h3,h4⟩,t,l,k,a,m⟩:=h;have h1:0<=x.I:=h1;have h2:(match (c.C.B.map jW.c)[x.I.toNat]? with|some b=>decide (b.L<0)|none=>false)=true:=h2;rw[F7]at h2;have j:x.c.ops.all (opB c.vars x.H.B.length x.I made)=true:=by rw[<-hl];exact m
  rw[f]at j;have a:(if x.N=1 then x.fn==0 else if x.N=2\/x.N=3 then !x.c.H.isEmpty&&gQ x.fn true else false)=true:=a;rw[he]at a;have l:x.c.ops.length<=256:=l
  have g:(1<=x.N/\x.N<=3)/\(x.N=1->x.fn=0)/\(x.N≠1->x.H.B.length≠0/\gQ x.fn true=true):=by
   by_cases d:x.N=1
   .rw[if_pos d]at a;exact⟨j5,λ_=>by simpa using a,λh=>absurd d h⟩
   .rw[if_neg d]at a
    by_cases q:x.N=2\/x.N=3
    .rw[if_pos q]at a;refine⟨j5,λh=>absurd h d,λ_=>by simpa using a⟩
    .rw[if_neg q]at a;cases a
  cases hb:c.C.B[x.I.toNat]? with
  |none=>rw[hb]at h2;cases h2
  |some b=>
   rw[hb]at h2;have hlt:=(G3.1 hb).1
   exact⟨g.1.1,g.1.2,h1,j5,λw i=>by rw[hb]at i;cases i;exact of_decide_eq_true h2,by rw[n];exact(L9 _ _).symm▸⟨h3,h4⟩,t,λh=>(g.2.2 h).1,g.2.1,λh=>(g.2.2 h).2,
    λe=>by
     have:x.ops.B=[]:=P8 e;have k:0<=mJ (opsL x.ops.B):=k;rw[this,show opsL []=[]from rfl,hd]at k
     omega,j5,k,j⟩
 .intro p;unfold pC mV;have m:x.c.ops.all (opB c.vars x.H.B.length x.I made)=true:=by rw[f];exact p.ops
  have h3:=p.at_;rw[n,L9]at h3
  have a:(if x.N=1 then x.fn==0 else if x.N=2\/x.N=3 then !x.c.H.isEmpty&&gQ x.fn true else false)=true:=by
   have r:=p.how1;have v:=p.how3;rw[he]
   by_cases d:x.N=1
   .rw[if_pos d,p.fn1 d];rfl
   .rw[if_neg d,if_pos j5,p.fn3 d];have:=p.ne d;simp[this]
  have h1:(decide (0<=x.c.I)&&(match c.c.C[x.c.I.toNat]? with|some b=>decide (b.L<0)|none=>false))=true:=by
   show(decide (0<=x.I)&&(match (c.C.B.map jW.c)[x.I.toNat]? with|some b=>decide (b.L<0)|none=>false))=true;have s:=p.buf0;have r:=p.bufn;rw[F7,G1 j5,decide_eq_true s];exact decide_eq_true (p.inp _ (G1 j5))
  rw[h1];have u:=p.ops1;have l:x.c.ops.length<=256:=j5
  show(true&&((ofB x.at_.B c.vars&&jJ x.at_.B)&&(iL (polsL x.H.B) c.vars&&(decide (x.c.ops.length<=256)&&(decide (0<=mJ (opsL x.ops.B))&&((if x.N=1 then x.fn==0 else if x.N=2\/x.N=3 then !x.c.H.isEmpty&&gQ x.fn true else false)&&x.c.ops.all (opB c.vars x.c.H.length x.I made)))))))=true;rw[h3.1,h3.2,p.H,decide_eq_true l,decide_eq_true p.dep,a,hl,m];rfl
theorem iX{c:fX}{made:List Bool}{x:gA}(h: ¬bNr c made x):Y6 false= .bool (pC c.c made x.c):=by
 cases e:pC c.c made x.c with
 |false=>rfl
 |true=>exact absurd (step_iff.1 e) h
theorem step_yes{c:fX}{made:List Bool}{x:gA}(h:bNr c made x):Y6 true= .bool (pC c.c made x.c):=by rw[step_iff.2 h]
theorem bVu(o:OpV)(vars loops:Int)(MA:Option Addr)(mc:Nat)(made:List Bool)(hv:0<=vars)(hv6:vars<=6):cJ prog 158 [.agg #[j3 o.N,j3 o.k,j3 o.n,f9 o.p,j4 o.fn],j3 vars,j3 loops,.slice MA made.length mc] [] [opF o,gK.sl (.slice MA made.length mc) made] (λ(_:Unit)=> .bool (opB vars loops (-1) made o.c)) (λ_=>[]) (λ_=>[]):=by
 have hT:=dF;refine j1 func158 ntmps158 ?_;intro β hM;refine g2 ?_;refine j0 λP=>?_;refine g17 ?_;refine cD rfl (λr=>?_) (λr=>?_)
 .have L:=r;have r:=eq_of_beq r;refine g6 ?_;refine cE (λD=>?_) (λD=>?_)
  .have D:=eq_of_beq D;refine g6 ?_;refine cE (λC=>?_) (λC=>?_)
   .have C:=eq_of_beq C;refine g10 ?_;exact rs1 () e9 (he:=j6)
   have C:=beq_eq_false_iff_ne.1 C;refine g10 ?_;exact rs1 () e9 (he:=j6)
  have D:=beq_eq_false_iff_ne.1 D;refine g16 ?_;exact rs1 () e9 (he:=j6)
 have L:=r;have r:=beq_eq_false_iff_ne.1 r;refine g6 ?_;refine cD rfl (λq=>?_) (λq=>?_)
 .have K:=q;have q:=eq_of_beq q;refine g6 ?_;refine cE (λB=>?_) (λB=>?_)
  .have B:=eq_of_beq B;refine g5 ?_;refine cE (λA=>?_) (λA=>?_)
   .have A:=eq_of_beq A;refine g5 ?_;refine cE (λz=>?_) (λz=>?_)
    .have z:=eq_of_beq z;refine g3 ?_;refine bL func154 (bPh o.p vars hv hv6) rfl rfl .nil ⟨d7,e9⟩ λ_=>?_;refine g7 ?_;exact rs1 () e9 (he:=j6)
    have z:=beq_eq_false_iff_ne.1 z;refine g11 ?_;exact rs1 () e9 (he:=j6)
   have A:=beq_eq_false_iff_ne.1 A;refine g16 ?_;exact rs1 () e9 (he:=j6)
  have B:=beq_eq_false_iff_ne.1 B;refine g21 ?_;exact rs1 () e9 (he:=j6)
 have K:=q;have q:=beq_eq_false_iff_ne.1 q;refine g6 ?_;refine cD rfl (λm=>?_) (λm=>?_)
 .have J:=m;have m:=eq_of_beq m;refine g6 ?_;refine cE (λy=>?_) (λy=>?_)
  .have y:=of_decide_eq_true y;refine g6 ?_;refine cE (λx=>?_) (λx=>?_)
   .have x:=of_decide_eq_true x;refine g5 ?_;refine cE (λw=>?_) (λw=>?_)
    .have w:=eq_of_beq w;refine g6 ?_;refine cE (λv=>?_) (λv=>?_)
     .have v:=eq_of_beq v;refine g10 ?_;exact rs1 () e9 (he:=j6)
     have v:=beq_eq_false_iff_ne.1 v;refine g10 ?_;exact rs1 () e9 (he:=j6)
    have w:=beq_eq_false_iff_ne.1 w;refine g16 ?_;exact rs1 () e9 (he:=j6)
   have x:=Y8.1 (of_decide_eq_false x);refine g21 ?_;exact rs1 () e9 (he:=j6)
  have y:=Ak.1 (of_decide_eq_false y);refine g27 ?_;exact rs1 () e9 (he:=j6)
 have J:=m;have m:=beq_eq_false_iff_ne.1 m;refine g6 ?_;refine cD rfl (λl=>?_) (λl=>?_)
 .have I:=l;have l:=eq_of_beq l;refine g6 ?_;refine cE (λu=>?_) (λu=>?_)
  .have u:=of_decide_eq_true u;refine g7 ?_;refine cE (λt=>?_) (λt=>?_)
   .have t:=of_decide_eq_true t;refine g3 ?_;obtain⟨O,N⟩:=gx made o.k.toNat;refine ss (bE hT (k:=o.k.toNat) (bH d8) rfl rfl rfl rfl rfl rfl j5 j5) ?_;refine ss (fV N 0) ?_;refine g2 ?_;refine cE (λM=>?_) (λM=>?_)
    .refine g5 ?_;refine cE (λs=>?_) (λs=>?_)
     .have s:=eq_of_beq s;refine g6 ?_;refine cE (λj=>?_) (λj=>?_)
      .have j:=eq_of_beq j;refine g10 ?_;exact rs1 () e9 (he:=j6)
      have j:=beq_eq_false_iff_ne.1 j;refine g10 ?_;exact rs1 () e9 (he:=j6)
     have s:=beq_eq_false_iff_ne.1 s;refine g16 ?_;exact rs1 () e9 (he:=j6)
    refine g21 ?_;exact rs1 () e9 (he:=j6)
   have t:=Y8.1 (of_decide_eq_false t);refine g28 ?_;exact rs1 () e9 (he:=j6)
  have u:=Ak.1 (of_decide_eq_false u);refine g35 ?_;exact rs1 () e9 (he:=j6)
 have I:=l;have l:=beq_eq_false_iff_ne.1 l;refine g6 ?_;refine cD rfl (λb=>?_) (λb=>?_)
 .have G:=b;have b:=eq_of_beq b;refine g6 ?_;refine cE (λi=>?_) (λi=>?_)
  .have i:=eq_of_beq i;refine g5 ?_;refine cE (λh=>?_) (λh=>?_)
   .have h:=eq_of_beq h;refine g6 ?_;refine cE (λg=>?_) (λg=>?_)
    .have g:=eq_of_beq g;refine g2 ?_;refine bL func156 (vP _ _) rfl rfl .nil e9 λ_=>?_;refine g7 ?_;exact rs1 () e9 (he:=j6)
    have g:=beq_eq_false_iff_ne.1 g;refine g10 ?_;exact rs1 () e9 (he:=j6)
   have h:=beq_eq_false_iff_ne.1 h;refine g16 ?_;exact rs1 () e9 (he:=j6)
  have i:=beq_eq_false_iff_ne.1 i;refine g21 ?_;exact rs1 () e9 (he:=j6)
 have G:=b;have b:=beq_eq_false_iff_ne.1 b;refine g6 ?_;refine cD rfl (λa=>?_) (λa=>?_)
 .have E:=a;have a:=eq_of_beq a;refine g6 ?_;refine cE (λf=>?_) (λf=>?_)
  .have f:=eq_of_beq f;refine g5 ?_;refine cE (λe=>?_) (λe=>?_)
   .have e:=eq_of_beq e;refine g6 ?_;refine cE (λd=>?_) (λd=>?_)
    .have d:=eq_of_beq d;refine g2 ?_;refine bL func156 (vP _ _) rfl rfl .nil e9 λ_=>?_;refine g7 ?_;exact rs1 () e9 (he:=j6)
    have d:=beq_eq_false_iff_ne.1 d;refine g10 ?_;exact rs1 () e9 (he:=j6)
   have e:=beq_eq_false_iff_ne.1 e;refine g16 ?_;exact rs1 () e9 (he:=j6)
  have f:=beq_eq_false_iff_ne.1 f;refine g21 ?_;exact rs1 () e9 (he:=j6)
 have E:=a;have a:=beq_eq_false_iff_ne.1 a;refine g9 ?_;exact rs1 () e9 (he:=j6)
theorem step10_spec(c:fX)(x:gA)(MA:Option Addr)(mc:Nat)(made:List Bool)(hv:0<=c.vars)(hv6:c.vars<=6):cJ prog 85 [.agg #[j3 c.vars,f9 c.C,f9 c.D,f9 c.Q],.agg #[j3 x.N,j3 x.I,f9 x.at_,f9 x.H,j4 x.fn,f9 x.ops],.slice MA made.length mc] [] [lH c,mO x,gK.sl (.slice MA made.length mc) made] (λ(_:Unit)=> .bool (pC c.c made x.c)) (λ_=>[]) (λ_=>[]):=by
 have hT:=dF;refine j1 func85 ntmps85 ?_;intro β hM;refine cH<|bK (cR x.at_) (bFk d8) ?_;refine bK (nL x.H) (nA d9)<|bG (opsF_c (mA e6)) λG=>?_;have I:=G.2;refine bK (bC.each x.ops.B opF) (opsF_e (mA e6))<|bK (opE.sl (.slice x.ops.O x.ops.B.length x.ops.cap) x.ops.B) (bHk (mA e7))<|bK (sU.sl (.slice c.C.O c.C.B.length c.C.cap) c.C.B) (kG (gC e7)) ?_;refine one ?_;refine j0 λL=>?_;refine j0 λK=>?_;refine g10 ?_;refine nO (λy=>?_) λy=>?_
 .refine g37 ?_;exact rs1 () e9 (he:=iX λp=>by first|(have:=p.how1;omega)|(have:=p.how3;omega)|(have:=p.buf0;omega)|(have:=p.bufn;omega)|(have:=p.inp _ ‹_›;omega))
 refine g5 ?_;refine nO (λw=>?_) λw=>?_
 .refine g32 ?_;exact rs1 () e9 (he:=iX λp=>by first|(have:=p.how1;omega)|(have:=p.how3;omega)|(have:=p.buf0;omega)|(have:=p.bufn;omega)|(have:=p.inp _ ‹_›;omega))
 refine g5 ?_;refine nO (λv=>?_) λv=>?_
 .refine g27 ?_;exact rs1 () e9 (he:=iX λp=>by first|(have:=p.how1;omega)|(have:=p.how3;omega)|(have:=p.buf0;omega)|(have:=p.bufn;omega)|(have:=p.inp _ ‹_›;omega))
 refine g8 ?_;refine k_le (λu=>?_) λu=>?_
 .refine g19 ?_;exact rs1 () e9 (he:=iX λp=>by first|(have:=p.how1;omega)|(have:=p.how3;omega)|(have:=p.buf0;omega)|(have:=p.bufn;omega)|(have:=p.inp _ ‹_›;omega))
 refine g4 ?_;obtain⟨x3,D⟩:=gx c.C.B x.I.toNat;refine ss (bE hT (k:=x.I.toNat) (bH d7) rfl rfl rfl rfl rfl rfl j5 j5) ?_;refine one ?_;refine ss (fV D 1) ?_;refine g4 ?_;refine bOr (λB=>?_) λB=>?_
 .refine g7 ?_;exact rs1 () e9 (he:=iX λp=>by first|(have:=p.how1;omega)|(have:=p.how3;omega)|(have:=p.buf0;omega)|(have:=p.bufn;omega)|(have:=p.inp _ ‹_›;omega))
 refine g7 ?_;refine at_one_pols (m:=x.at_) rfl rfl rfl rfl rfl λJ=>?_;refine vA (E:=fF) (xs:=[x.at_]) .head<|oP .head<|bK (nL ⟨some ⟨J,0,none⟩,1,[x.at_]⟩) (listF_one d7 (Has.of mT5)) ?_;refine g2 ?_;refine bL func84 (zD ⟨some ⟨J,0,none⟩,1,[x.at_]⟩ c.vars hv hv6) rfl rfl .nil ⟨d7,e9⟩ λ_=>?_;refine g2 ?_;refine bHr (λt=>?_) λt=>?_
 .refine g28 ?_;exact rs1 () e9 (he:=iX λp=>by first|(have:=p.at_;simp_all;done)|(have:=p.H;simp_all;done)|(have:=p.ne (by simp_all);simp_all;done))
 refine g4 ?_;refine bL func84 (zD x.H c.vars hv hv6) rfl rfl .nil ⟨(Has.of mT5),e9⟩ λ_=>?_;refine g3 ?_;refine bHr (λs=>?_) λs=>?_
 .refine g20 ?_;exact rs1 () e9 (he:=iX λp=>by first|(have:=p.at_;simp_all;done)|(have:=p.H;simp_all;done)|(have:=p.ne (by simp_all);simp_all;done))
 refine g4 ?_;refine k_ne (λf=>?_) λf=>?_
 .refine g8 ?_;refine jU (λA=>?_) λA=>?_
  .refine g7 ?_;exact rs1 () e9 (he:=iX λp=>by first|(have:=p.at_;simp_all;done)|(have:=p.H;simp_all;done)|(have:=p.ne (by simp_all);simp_all;done))
  refine g8 ?_;refine bR (t':=false) (beq_eq_false_iff_ne.2 f) ?_;refine g9 ?_;refine bR (t':=true) ((congrArg not (show(x.N==1)=false from (beq_eq_false_iff_ne.2 f)):(!_)=_)) ?_;refine g3 ?_;refine bL func156 (vP _ _) rfl rfl .nil e9 λ_=>?_;refine g5 ?_;refine tQ (λz=>?_) λz=>?_
  .refine g7 ?_;exact rs1 () e9 (he:=iX λp=>by first|(have:=p.fn1 (by simp_all);simp_all;done)|(have:=p.fn3 (by simp_all);simp_all;done))
  refine g10 ?_;refine bHb (λo=>?_) λo=>?_
  .refine g21 ?_;exact rs1 () e9 (he:=iX λp=>by first|(have:=p.ops0;simp_all;done)|(have:=p.ops1;omega)|(have:=p.dep;omega))
  refine g6 ?_;refine nO (λn=>?_) λn=>?_
  .refine g15 ?_;exact rs1 () e9 (he:=iX λp=>by first|(have:=p.ops0;simp_all;done)|(have:=p.ops1;omega)|(have:=p.dep;omega))
  refine g2 ?_;refine bL func157 (bFz x.ops.O x.ops.cap x.ops.B j5) rfl rfl .nil ⟨e6,e7,e9⟩ λ_=>?_;refine g4 ?_;refine dO (λq=>?_) λq=>?_
  .refine g7 ?_;exact rs1 () e9 (he:=iX λp=>by first|(have:=p.ops0;simp_all;done)|(have:=p.ops1;omega)|(have:=p.dep;omega))
  refine g9 ?_;refine bT (ι:=Nat) [(2,_),(3,_),(4,_)] ⟨rfl,rfl,rfl,e9⟩ (λi=>[(7,.int .i64 (i:Nat))]) (λ_=>[]) (λi=>[bC.pure (i<=x.ops.B.length/\(x.ops.B.take i).all (bBv c.vars x made)=true)]) (λi=>x.ops.B.length-i) 0 ⟨rfl,e9⟩ .nil ⟨f4 (⟨j5,rfl⟩),e9⟩ ?_;rintro i;refine bG d7 λa=>?_;refine g10 ?_;refine dO (λl=>?_) λl=>?_
  .refine g5 ?_;obtain⟨x6,e⟩:=gx x.ops.B i;refine bK (opF x6) (Has.each (Has.of mT5) (f5 e)) ?_;refine dK _ _ [j2,u1,u0,u2,u3,u4,u5,u6,u7,u9,A00,A12,A02,A03,A04,A05,A07,A06,A20,A22,A29,(true,21),A26,A27,A28,(true,25),(true,26),(true,27),(true,28),(true,29),(true,30),(true,31),(true,32)] dJ k7 (.c0 (.c0 .nil)) bA.self ?_;refine g3 ?_;refine stM rfl (ixs i) ?_;refine stM rfl (lI e 0) ?_;refine g7 ?_;refine bL func158 (bVu x6 c.vars (x.H.B.length:Nat) MA mc made hv hv6) rfl rfl .nil ⟨d7,(Has.of mT11),e9⟩ λ_=>?_;refine g3 ?_;refine bHr (λh=>?_) λh=>?_
   .refine g33 ?_;exact rs1 () e9 (he:=iX λp=>by have h1:=p.ops;rw[tI e (show bBv c.vars x made x6=false by unfold bBv;simp_all)]at h1;cases h1)
   refine g3 ?_;refine stM rfl (ixs i) ?_;refine one ?_;refine stM rfl (fV e 0) ?_;refine g2 ?_;refine bHb (λg=>?_) λg=>?_
   .refine g3 ?_;refine stM rfl (ixs i) ?_;refine one ?_;refine stM rfl (fV e 1) ?_;refine g7 ?_;refine jU (λj=>?_) λj=>?_
    .refine g11 ?_;exact rs1 () e9 (he:=iX λp=>by have h1:=p.ops;rw[tI e (show bBv c.vars x made x6=false by unfold bBv;simp_all)]at h1;cases h1)
    refine g6 ?_;refine inc (i+1) ?_;refine g3 ?_;exact bk2 (i+1) ⟨f4 (⟨j5,lS a.2 e ac9⟩),e9⟩
   refine g20 ?_;refine inc (i+1) ?_;refine g3 ?_;exact bk2 (i+1) ⟨f4 (⟨j5,lS a.2 e ac9⟩),e9⟩
  refine g11 ?_;exact rs1 () e9 (he:=step_yes ⟨j5,j5,j5,j5,λb hb=>by simp_all,by simp_all,by simp_all,by simp_all,by simp_all,by simp_all,by simp_all,j5,j5,sK a.2 j5⟩)
 refine g17 ?_;refine bR (t':=true) (by rw[f];rfl) ?_;refine g6 ?_;refine k_ne (λr=>?_) λr=>?_
 .refine g20 ?_;exact rs1 () e9 (he:=iX λp=>by first|(have:=p.fn1 (by simp_all);simp_all;done)|(have:=p.fn3 (by simp_all);simp_all;done))
 refine g3 ?_;refine bR (t':=false) ((congrArg not (show(x.N==1)=true from (by rw[f];rfl)):(!_)=_)) ?_;refine g20 ?_;refine bHb (λo=>?_) λo=>?_
 .refine g21 ?_;exact rs1 () e9 (he:=iX λp=>by first|(have:=p.ops0;simp_all;done)|(have:=p.ops1;omega)|(have:=p.dep;omega))
 refine g6 ?_;refine nO (λn=>?_) λn=>?_
 .refine g15 ?_;exact rs1 () e9 (he:=iX λp=>by first|(have:=p.ops0;simp_all;done)|(have:=p.ops1;omega)|(have:=p.dep;omega))
 refine g2 ?_;refine bL func157 (bFz x.ops.O x.ops.cap x.ops.B j5) rfl rfl .nil ⟨e6,e7,e9⟩ λ_=>?_;refine g4 ?_;refine dO (λq=>?_) λq=>?_
 .refine g7 ?_;exact rs1 () e9 (he:=iX λp=>by first|(have:=p.ops0;simp_all;done)|(have:=p.ops1;omega)|(have:=p.dep;omega))
 refine g9 ?_;refine bT (ι:=Nat) [(2,_),(3,_),(4,_)] ⟨rfl,rfl,rfl,e9⟩ (λi=>[(7,.int .i64 (i:Nat))]) (λ_=>[]) (λi=>[bC.pure (i<=x.ops.B.length/\(x.ops.B.take i).all (bBv c.vars x made)=true)]) (λi=>x.ops.B.length-i) 0 ⟨rfl,e9⟩ .nil ⟨f4 (⟨j5,rfl⟩),e9⟩ ?_;rintro i;refine bG d7 λa=>?_;refine g10 ?_;refine dO (λl=>?_) λl=>?_
 .refine g5 ?_;obtain⟨C,d⟩:=gx x.ops.B i;refine bK (opF C) (Has.each (Has.of mT5) (f5 d)) ?_;refine dK _ _ [j2,u1,u0,u2,u3,u4,u5,u6,u7,u9,A00,A12,A02,A03,A04,A05,A07,A06,A20,A22,A29,(true,21),A26,A27,A28,(true,25),(true,26),(true,27),(true,28),(true,29),(true,30),(true,31),(true,32)] dJ k7 (.c0 (.c0 .nil)) bA.self ?_;refine g3 ?_;refine stM rfl (ixs i) ?_;refine stM rfl (lI d 0) ?_;refine g7 ?_;refine bL func158 (bVu C c.vars (x.H.B.length:Nat) MA mc made hv hv6) rfl rfl .nil ⟨d7,(Has.of mT11),e9⟩ λ_=>?_;refine g3 ?_;refine bHr (λh=>?_) λh=>?_
  .refine g33 ?_;exact rs1 () e9 (he:=iX λp=>by have h1:=p.ops;rw[tI d (show bBv c.vars x made C=false by unfold bBv;simp_all)]at h1;cases h1)
  refine g3 ?_;refine stM rfl (ixs i) ?_;refine one ?_;refine stM rfl (fV d 0) ?_;refine g2 ?_;refine bHb (λg=>?_) λg=>?_
  .refine g3 ?_;refine stM rfl (ixs i) ?_;refine one ?_;refine stM rfl (fV d 1) ?_;refine g7 ?_;refine jU (λj=>?_) λj=>?_
   .refine g11 ?_;exact rs1 () e9 (he:=iX λp=>by have h1:=p.ops;rw[tI d (show bBv c.vars x made C=false by unfold bBv;simp_all)]at h1;cases h1)
   refine g6 ?_;refine inc (i+1) ?_;refine g3 ?_;exact bk2 (i+1) ⟨f4 (⟨j5,lS a.2 d ac9⟩),e9⟩
  refine g20 ?_;refine inc (i+1) ?_;refine g3 ?_;exact bk2 (i+1) ⟨f4 (⟨j5,lS a.2 d ac9⟩),e9⟩
 refine g11 ?_;exact rs1 () e9 (he:=step_yes ⟨j5,j5,j5,j5,λb hb=>by simp_all,by simp_all,by simp_all,by simp_all,by simp_all,by simp_all,by simp_all,j5,j5,sK a.2 j5⟩)
theorem step10_specM{m:Nat}{made:List Bool}(hm:made.length=m)(c:fX)(x:gA)(MA:Option Addr)(mc:Nat)(hv:0<=c.vars)(hv6:c.vars<=6):cJ prog 85 [.agg #[j3 c.vars,f9 c.C,f9 c.D,f9 c.Q],.agg #[j3 x.N,j3 x.I,f9 x.at_,f9 x.H,j4 x.fn,f9 x.ops],.slice MA m mc]
  [] [lH c,mO x,gK.sl (.slice MA m mc) made] (λ_:Unit=> .bool (pC c.c made x.c)) (λ_=>[]) (λ_=>[]):=by subst hm;exact step10_spec c x MA mc made hv hv6
section
variable {c : dR} {i j : Nat} {made : List Bool} {r : Bool} {u : jX} {x : cT}
def bHt (c:dR)(i:Nat)(made:List Bool)(r:Bool):Prop:=made.length=c.C.length/\(∀j,j<i->made[j]?=(uL c.C)[j]?)/\ ∃seen:List Int,(∀z,z∈seen->0<=z/\ ∃j u,j<i/\c.C[j]?=some u/\u.L=z)/\(∀j u,j<i->c.C[j]?=some u->0<=u.L->u.L∈seen)/\r=(sH c.vars (c.C.drop i) seen&&bPo c)
def bFs (c:dR)(u:jX)(j:Nat):Prop:= ∀k v,k<j->c.C[k]?=some v-> ¬(0<=u.L/\v.L=u.L)
theorem bufs10_start(h:r=(sH c.vars c.C []&&bPo c)):bHt c 0 (V4 c.C.length false) r:=
 ⟨List.length_replicate,λj a=>absurd a (S7 j),[],⟨λ_ b=>absurd b List.not_mem_nil,λj _ a=>absurd a (S7 j),h⟩⟩
theorem xN(h:bHt c i made r)(hu:c.C[i]?=some u)(k:iL u.K c.vars=false\/u.L< -1\/64<=u.L\/0<=u.L/\ ∃j v,j<i/\c.C[j]?=some v/\v.L=u.L):r=false:=by
 obtain⟨_,_,a,h2,h3,h4⟩:=h;rw[kS hu,sH]at h4;rw[h4]
 rcases k with k|k|k|⟨k,j,v,f,b,e⟩
 .rw[k];rfl
 .rw[decide_eq_false (show ¬(-1<=u.L/\u.L<64)from λh=>by omega)];simp
 .rw[decide_eq_false (show ¬(-1<=u.L/\u.L<64)from λh=>by omega)];simp
 .have d:u.L∈a:=by rw[<-e];exact h3 j v f b j5
  have g:a.contains u.L=true:=by rw[Ab];exact decide_eq_true d
  rw[g];simp
theorem nodup_start:bFs c u 0:=λk v a=>by omega
theorem bMw{v:jX}(h:bFs c u j)(hv:c.C[j]?=some v)(hn: ¬(0<=u.L/\v.L=u.L)):bFs c u (j+1):=λk w b a=>by
 by_cases e:k=j
 .subst e;rw[hv]at a;cases a;exact hn
 .exact h k w j5 a
theorem bufs10_next(h:bHt c i made r)(hu:c.C[i]?=some u)(hg:iL u.K c.vars=true)(h1: -1<=u.L)(h2:u.L<64)(hn:bFs c u j)(hj:i<=j):bHt c (i+1) (made.set i (decide (0<=u.L))) r:=by
 obtain⟨o,n,a,g,m,l⟩:=h;have t:=(G3.1 hu).1
 have s:a.contains u.L=false:=by rw[Ab];refine decide_eq_false λp=>?_;obtain⟨h0,k,v,f,b,e⟩:=g _ p;exact hn k v j5 b ⟨h0,e⟩
 rw[kS hu,sH,hg,decide_eq_true (show-1<=u.L/\u.L<64 from ⟨h1,h2⟩),s]at l;refine⟨by rw[R0];exact o,λk f=>?_,if 0<=u.L then u.L::a else a,λz d=>?_,λk v f b h0=>?_,by simpa using l⟩
 .by_cases e:i=k
  .subst e;rw[G8 j5];unfold uL;rw[F7,hu];rfl
  .rw[List.getElem?_set_ne e];exact n k j5
 .by_cases h0:0<=u.L
  .rw[if_pos h0]at d
   rcases F1.1 d with rfl|d
   .exact⟨h0,i,u,j5,hu,rfl⟩
   .obtain⟨q,k,v,f,b,e⟩:=g z d;exact⟨q,k,v,j5,b,e⟩
  .rw[if_neg h0]at d;obtain⟨q,k,v,f,b,e⟩:=g z d;exact⟨q,k,v,j5,b,e⟩
 .by_cases e:k=i
  .subst e;rw[hu]at b;cases b;rw[if_pos h0];exact F9 ..
  .have:=m k v j5 b h0;split
   .exact F3 _ this
   .exact this
theorem bufs10_end(h:bHt c i made r)(hi:c.C.length<=i):qP c 0 made r:=by
 obtain⟨g,d,a,_,_,b⟩:=h;rw[U8 hi]at b
 have e:made=uL c.C:=by
  apply aI;intro j
  by_cases f:j<i
  .exact d j f
  .rw[Y5 j5,Y5 (by rw[rA];omega)]
 exact bKs e (by rw[b];rfl)
theorem bKh{l:List cT}:lQ c.vars c.C (x::l) made=(pC c made x&&lQ c.vars c.C l (made.set x.I.toNat true)):=by rw[lQ];exact(Bool.and_assoc _ _ _).symm
theorem steps10_bad(h:qP c i made r)(hx:c.D[i]?=some x)(k:pC c made x=false):r=false:=by obtain⟨_,h2⟩:=h;rw[kS hx,bKh,k]at h2;rw[h2];rfl
theorem steps10_ok(h:qP c i made r)(hx:c.D[i]?=some x)(k:pC c made x=true):qP c (i+1) (made.set x.I.toNat true) r:=by obtain⟨h2,h3⟩:=h;refine⟨by simpa using h2,?_⟩;rw[kS hx,bKh,k,Bool.true_and]at h3;exact h3
theorem stepOk_in(h:pC c made x=true):0<=x.I/\x.I<c.C.length:=by
 unfold pC at h;simp only[L9,decide_eq_true_eq]at h;obtain⟨⟨h1,h2⟩,_⟩:=h
 cases hb:c.C[x.I.toNat]? with
 |none=>rw[hb]at h2;cases h2
 |some b=>
  have:=(G3.1 hb).1;exact⟨h1,j5⟩
def outOk (n:Nat)(k:Int):Bool:=decide (0<=k/\k<n)
end
theorem tG(c:fX):cJ prog 35 [.agg #[j3 c.vars,f9 c.C,f9 c.D,f9 c.Q]] [] [lH c] (λ(_:Unit)=> .bool (dC c.c)) (λ_=>[]) (λ_=>[]):=by
 have hT:=dF;generalize u:dC c.c=r;have o:c.c.C.length=c.C.B.length:=cQ _;have hns:c.c.D.length=c.D.B.length:=cS _;have W:c.c.Q.length=c.Q.B.length:=rfl;refine j1 func35 ntmps35 ?_;intro β hM;refine g2 ?_;refine j0 λb1=>?_;refine g10 ?_;refine nO (λE=>?_) λE=>?_
 .refine g32 ?_;have hr:=lC u j5;subst hr;exact rs1 () trivial
 refine g5 ?_;refine nO (λD=>?_) λD=>?_
 .refine g27 ?_;have hr:=lC u j5;subst hr;exact rs1 () trivial
 refine g6 ?_;refine nO (λC=>?_) λC=>?_
 .refine g21 ?_;have hr:=lC u j5;subst hr;exact rs1 () trivial
 refine g6 ?_;refine nO (λB=>?_) λB=>?_
 .refine g15 ?_;have hr:=lC u j5;subst hr;exact rs1 () trivial
 refine g7 ?_;refine dO (λN=>?_) λN=>?_
 .refine g7 ?_;have hr:=lC u j5;subst hr;exact rs1 () trivial
 refine g3 ?_;have P:=bJr u j5 j5 j5 j5 j5;refine g4 ?_;refine lZ (m:=c.C.B.length) rfl rfl rfl rfl rfl rfl j5 λR=>?_;refine g10 ?_;refine bT (ι:=Nat×List Bool) [(1,_),(3,_)] ⟨rfl,rfl,e9⟩ (λ⟨i,dn⟩=>[(4,.int .i64 (i:Nat))]) (λ⟨i,dn⟩=>[gK.row (.slice (some ⟨R,0,none⟩) c.C.B.length c.C.B.length) 4 dn]) (λ⟨i,dn⟩=>[bC.pure (i<=c.C.B.length/\bHt c.c i dn r)]) (λ⟨i,dn⟩=>c.C.B.length-i) (0,V4 c.C.B.length false) ⟨rfl,e9⟩ (.c0 .nil) ⟨f4 (⟨j5,by rw[<-o];exact bufs10_start P⟩),e9⟩ ?_;rintro⟨i,dn⟩;dsimp only;refine bG d7 λb=>?_;have Q:dn.length=c.C.B.length:=by rw[b.2.1];exact o
 refine g10 ?_;refine dO (λM=>?_) λM=>?_
 .refine g9 ?_;refine bK (sU.sl (.slice c.C.O c.C.B.length c.C.cap) c.C.B) (kG (gC d8)) ?_;obtain⟨x3,h⟩:=gx c.C.B i;refine ss (ixs i) ?_;refine ss (lI h 0) ?_;refine i7 yR λZ=>?_;refine g5 ?_;refine bK (bSc x3) (Has.each (rV (gC d9)) (f5 h)) ?_;refine g5 ?_;refine bL func84 (zD x3.K c.vars j5 j5) rfl rfl .nil ⟨d7,e9⟩ λ_=>?_;refine g2 ?_;refine bHr (λA=>?_) λA=>?_
  .refine g24 ?_;have hr:=xN b.2 (cM h) o5;subst hr;exact rs1 () trivial
  refine g5 ?_;refine nO (λz=>?_) λz=>?_
  .refine g19 ?_;have hr:=xN b.2 (cM h) o5;subst hr;exact rs1 () trivial
  refine g6 ?_;refine bOr (λL=>?_) λL=>?_
  .refine g12 ?_;have hr:=xN b.2 (cM h) o5;subst hr;exact rs1 () trivial
  refine g9 ?_;refine bT (ι:=Nat) [(1,_),(3,_),(4,_),(5,_),(58,_),(59,_),(60,_),(63,_),(64,_),(65,_)] ⟨rfl,rfl,rfl,rfl,rfl,rfl,rfl,rfl,rfl,rfl,e9⟩ (λj=>[(6,.int .i64 (j:Nat))]) (λ_=>[]) (λj=>[bC.pure (j<=i/\bFs c.c x3.c j)]) (λj=>i-j) 0 ⟨rfl,e9⟩ .nil ⟨f4 (⟨j5,nodup_start⟩),e9⟩ ?_;rintro j;refine bG d7 λe=>?_;refine g8 ?_;refine dO (λK=>?_) λK=>?_
  .refine g5 ?_;obtain⟨x6,n⟩:=gx c.C.B j;refine dK _ _ [j2,u1,u0,u2,u3,u4,u5,u6,u7,u9,A00,A01,A02,A03] dJ k7 (.c0 (.c0 (.c0 .nil))) bA.self ?_;refine g4 ?_;refine k_le (λy=>?_) λy=>?_
   .refine g3 ?_;refine stM rfl (ixs j) ?_;refine one ?_;refine stM rfl (fV n 1) ?_;refine g6 ?_;refine jU (λJ=>?_) λJ=>?_
    .refine g16 ?_;obtain rfl:=xN b.2 (cM h) (.inr (.inr (.inr ⟨by show 0<=x3.L;omega,j,_,j5,cM n,by show jW.L _=jW.L _;omega⟩)));exact rs1 () trivial
    refine g6 ?_;refine inc (j+1) ?_;refine g3 ?_;exact bk2 (j+1) ⟨f4 (⟨j5,bMw e.2 (cM n) ad2⟩),e9⟩
   refine g19 ?_;refine inc (j+1) ?_;refine g3 ?_;exact bk2 (j+1) ⟨f4 (⟨j5,bMw e.2 (cM n) ad2⟩),e9⟩
  refine g11 ?_;obtain⟨Y,O⟩:=gx dn i;refine ss (bE hT (k:=i) (bN kT1) rfl rfl rfl rfl rfl Q.symm rfl j5) ?_;refine i6 hT (k:=i) (fo:=0) (y':=(decide (0<=x3.L))) kT1 O ?_;refine g6 ?_;refine inc (i+1) ?_;refine g3 ?_;exact bk2 (i+1,(dn.set i (decide (0<=x3.L)))) ⟨f4 (⟨by dsimp only;omega,bufs10_next b.2 (cM h) (show iL (polsL x3.K.B) c.vars=true by simp_all) (show-1<=x3.L by omega) (show x3.L<64 by omega) e.2 j5⟩),e9⟩
 refine g12 ?_;refine bT (ι:=Nat×List Bool) [(1,_),(3,_)] ⟨rfl,rfl,e9⟩ (λ⟨k,dn⟩=>[(7,.int .i64 (k:Nat))]) (λ⟨k,dn⟩=>[gK.row (.slice (some ⟨R,0,none⟩) c.C.B.length c.C.B.length) 4 dn]) (λ⟨k,dn⟩=>[bC.pure (k<=c.D.B.length/\qP c.c k dn r)]) (λ⟨k,dn⟩=>c.D.B.length-k) (0,dn) ⟨rfl,e9⟩ (.c0 .nil) ⟨f4 (⟨j5,bufs10_end b.2 j5⟩),e9⟩ ?_;rintro⟨k,dn⟩;dsimp only;refine bG d7 λa=>?_;have G:dn.length=c.C.B.length:=by rw[a.2.1];exact o
 refine g10 ?_;refine dO (λI=>?_) λI=>?_
 .refine g6 ?_;refine bK (pU.sl (.slice c.D.O c.D.B.length c.D.cap) c.D.B) (lM (gS d9)) ?_;obtain⟨d,g⟩:=gx c.D.B k;refine bK (mO d) (Has.each (oM (gS e6)) (f5 g)) ?_;refine dK _ _ [j2,u1,u0,u2,u3,u4,u5,A16,u7] dJ k7 (.c0 (.c0 .nil)) bA.self ?_;refine g4 ?_;refine stM rfl (ixs k) ?_;refine stM rfl (lI g 0) ?_;refine g2 ?_;refine fS (bJ func85 rfl rfl) (step10_specM G c d (some ⟨R,0,none⟩) c.C.B.length j5 j5) rfl rfl rfl rfl rfl .nil (.c0 .nil) (nR iF) ⟨Has.of mT5,d8,d7,e9⟩ (λ_=>True) (λ_ _ _ _=>trivial) λ_ _=>?_;refine g4 ?_;refine tQ (λt=>?_) λt=>?_
  .refine g12 ?_;have hr:=steps10_bad a.2 (cN g) (show pC c.c dn (gA.c _)=false by simp_all);subst hr;exact rs1 () trivial
  refine g2 ?_;have w:pC c.c dn d.c=true:=by simp_all
  have x:=stepOk_in w;have hb0:0<=d.I:=x.1;have X:d.I<(c.c.C.length:Nat):=x.2;refine g5 ?_;refine ss (ixs k) ?_;refine one ?_;refine ss (fV g 1) ?_;obtain⟨V,v⟩:=gx dn d.I.toNat;refine ss (bE hT (k:=d.I.toNat) (bN .head) rfl rfl rfl rfl rfl G.symm j5 j5) ?_;refine i6 hT (k:=d.I.toNat) (fo:=0) (y':=(true)) .head v ?_;refine g6 ?_;refine inc (k+1) ?_;refine g3 ?_;exact bk2 (k+1,(dn.set d.I.toNat (true))) ⟨f4 (⟨by dsimp only;omega,steps10_ok a.2 (cN g) w⟩),e9⟩
 refine g12 ?_;refine bT (ι:=Nat) [(1,_)] ⟨rfl,e9⟩ (λj=>[(8,.int .i64 (j:Nat))]) (λ_=>[]) (λj=>[bC.pure (j<=c.Q.B.length/\(c.Q.B.take j).all (outOk c.c.C.length)=true)]) (λj=>c.Q.B.length-j) 0 ⟨rfl,e9⟩ .nil ⟨f4 (⟨j5,rfl⟩),e9⟩ ?_;rintro j;refine bG d7 λl=>?_;refine g10 ?_;refine dO (λs=>?_) λs=>?_
 .refine g5 ?_;refine bK (dA.sl (.slice c.Q.O c.Q.B.length c.Q.cap) c.Q.B) (bEi (bEq e6)) ?_;obtain⟨U,f⟩:=gx c.Q.B j;refine dK _ _ [j2,u1,u0,u2,u3,u4,u5,u6,u7,u9,A00,A01,A02,A03,A04,A05,A07] dJ k7 (.c0 (.c0 .nil)) bA.self ?_;refine g3 ?_;refine stM rfl (ixs j) ?_;refine stM rfl (fV f 0) ?_;refine g2 ?_;refine nO (λp=>?_) λp=>?_
  .refine g24 ?_;have hr:=(bBm a.2 j5).trans (tI f (decide_eq_false j5));subst hr;exact rs1 () trivial
  refine g3 ?_;refine stM rfl (ixs j) ?_;refine stM rfl (fV f 0) ?_;refine g7 ?_;refine bOr (λq=>?_) λq=>?_
  .refine g11 ?_;have hr:=(bBm a.2 j5).trans (tI f (decide_eq_false j5));subst hr;exact rs1 () trivial
  refine g6 ?_;refine inc (j+1) ?_;refine g3 ?_;exact bk2 (j+1) ⟨f4 (⟨j5,lS l.2 f (decide_eq_true j5)⟩),e9⟩
 refine g11 ?_;have hr:=(bBm a.2 j5).trans (sK l.2 j5);subst hr;exact rs1 () trivial
theorem bJk{β:dY}{n:Nat}{Γ:Env}{H:List bD}{F:List bC}{Q:Exit->Act->World->Prop}{ops:Array Oper}{rest:List Oper}{o:Oper}{d:Nat}{x:Operand}{m:dX}(hw:want ops Γ o=some true)(ho:o.op= .buildSlice 97 1 #[(0,x)])(hd:o.dst=some d)(hn:C2 d n=true)
  (hx:Γ.ev x=some (.agg #[j3 m.from_,j3 m.za])) (k: ∀b,At β n ((d,.slice (some ⟨b,0,none⟩) 1 1)::Γ) (.obj b (.cells (kI.all [m]).toArray 114)::H) F (wpList prog ops Q rest)):At β n Γ H F (wpList prog ops Q (o::rest)):=by
 obtain⟨i,e,a,c,_⟩:=bMz;refine nX hw ho hd hn hx underlying97 e a j5 j5 ?_ k;rw[c]
 kernel_rfl
theorem lives_spec(c:fX)(hr:dC c.c=true):cJ prog 37 [.agg #[j3 c.vars,f9 c.C,f9 c.D,f9 c.Q]] [] [lH c,bC.cells 0 0 [j3 0,j3 (-1)]] (λ(x:Option Addr×Nat)=> .slice x.1 c.C.B.length x.2) (λ(x:Option Addr×Nat)=>[kI.row (.slice x.1 c.C.B.length x.2) 114 (lv (livesC c.c))]) (λ_=>[]):=by
 have hT:=dF;generalize hR:livesC c.c=r;obtain⟨hbz,X,Y⟩:=qI hr;have l:c.c.C.length=c.C.B.length:=cQ _;have hns:c.c.D.length=c.D.B.length:=cS _;have hno:c.c.Q.length=c.Q.B.length:=rfl;refine j1 func37 ntmps37 ?_;intro β hM;refine g2 ?_;refine j0 λb1=>?_;refine g5 ?_;refine ss (iC hT (bO (off:=0) d8) rfl rfl rfl rfl rfl) ?_;refine bJk (m:=⟨0,-1⟩) rfl rfl rfl rfl rfl λb2=>?_;refine vA (E:=kI) (xs:=[⟨0,-1⟩]) .head<|oP .head ?_;refine g3 ?_;refine bL func87 (repeatL_spec (some ⟨b2,0,none⟩) 1 ⟨0,-1⟩ c.C.B.length j5) rfl rfl .nil ⟨d7,e9⟩ λ⟨LA,lcp⟩=>?_;refine g8 ?_;refine lZ (m:=c.C.B.length) rfl rfl rfl rfl rfl rfl j5 λb3=>?_;refine g12 ?_;refine bT (ι:=Nat×List dX) [(1,_),(3,_),(4,_),(23,_)] ⟨rfl,rfl,rfl,rfl,e9⟩ (λ⟨i,li⟩=>[(24,.int .i64 (i:Nat))]) (λ⟨i,li⟩=>[kI.row (.slice LA c.C.B.length lcp) 114 li]) (λ⟨i,li⟩=>[bC.pure (i<=c.C.B.length/\bKo c.c i li)]) (λ⟨i,li⟩=>c.C.B.length-i) (0,V4 c.C.B.length ⟨0,-1⟩) ⟨rfl,e9⟩ (.c1 .nil) ⟨f4 (⟨j5,by rw[<-l];exact live_start⟩),e9⟩ ?_;rintro⟨i,li⟩;dsimp only;refine bG d7 λe=>?_;have hll:li.length=c.C.B.length:=by rw[e.2.1];exact l
 refine g6 ?_;refine dO (λR=>?_) λR=>?_
 .refine g15 ?_;refine bK (sU.sl (.slice c.C.O c.C.B.length c.C.cap) c.C.B) (kG (gC d9)) ?_;obtain⟨x4,u⟩:=gx c.C.B i;refine ss (ixs i) ?_;refine one ?_;refine ss (fV u 1) ?_;refine g2 ?_;refine k_le (λK=>?_) λK=>?_
  .refine g11 ?_;obtain⟨x6,J⟩:=gx li i;refine ss (bE hT (k:=i) (bN .head) rfl rfl rfl rfl rfl hll.symm rfl j5) ?_;refine one ?_;refine i6 hT (k:=i) (fo:=0) (y':=(⟨-1,x6.za⟩:dX)) .head J ?_;refine g5 ?_;refine inc (i+1) ?_;refine g3 ?_;exact bk2 (i+1,(li.set i (⟨-1,x6.za⟩:dX))) ⟨f4 (⟨by dsimp only;omega,live_yes e.2 (cM u) J ab1⟩),e9⟩
  refine g3 ?_;refine bK (dA.sl (.slice c.Q.O c.Q.B.length c.Q.cap) c.Q.B) (bEi (bEq e6)) ?_;refine bL func88 (bRy c.Q.O c.Q.cap c.Q.B j5 (i:Nat)) rfl rfl .nil ⟨d7,e9⟩ λ_=>?_;refine g3 ?_;refine vN (λQ=>?_) λQ=>?_
  .refine g3 ?_;obtain⟨x8,I⟩:=gx li i;refine ss (bE hT (k:=i) (bN .head) rfl rfl rfl rfl rfl hll.symm rfl j5) ?_;refine one ?_;refine i6 hT (k:=i) (fo:=0) (y':=(⟨-1,x8.za⟩:dX)) .head I ?_;refine g5 ?_;refine inc (i+1) ?_;refine g3 ?_;exact bk2 (i+1,(li.set i (⟨-1,x8.za⟩:dX))) ⟨f4 (⟨by dsimp only;omega,live_yes e.2 (cM u) I ab1⟩),e9⟩
  refine g5 ?_;refine inc (i+1) ?_;refine g3 ?_;exact bk2 (i+1,li) ⟨f4 (⟨by dsimp only;omega,live_no e.2 (cM u) (by show jW.L _<0;omega) ‹_›⟩),e9⟩
 refine g15 ?_;refine bT (ι:=Nat×List dX×List Bool) [(1,_),(3,_),(4,_),(46,_),(47,_)] ⟨rfl,rfl,rfl,rfl,rfl,e9⟩ (λ⟨k,li,dn⟩=>[(48,.int .i64 (k:Nat))]) (λ⟨k,li,dn⟩=>[kI.row (.slice LA c.C.B.length lcp) 114 li,gK.row (.slice (some ⟨b3,0,none⟩) c.C.B.length c.C.B.length) 4 dn]) (λ⟨k,li,dn⟩=>[bC.pure (k<=c.D.B.length/\StepI c.c k li dn r)]) (λ⟨k,li,dn⟩=>c.D.B.length-k) (0,li,V4 c.C.B.length false) ⟨rfl,e9⟩ (.c0 (.c0 .nil)) ⟨f4 (⟨j5,by rw[<-hR,<-l];exact step_start e.2 j5⟩),e9⟩ ?_;rintro⟨k,li,dn⟩;dsimp only;refine bG d7 λb=>?_;have hl2:li.length=c.C.B.length:=by rw[b.2.1];exact l
 have L:dn.length=c.C.B.length:=by rw[b.2.2.1];exact l
 refine g6 ?_;refine dO (λP=>?_) λP=>?_
 .refine g7 ?_;refine bK (pU.sl (.slice c.D.O c.D.B.length c.D.cap) c.D.B) (lM (gS e6)) ?_;obtain⟨a,h⟩:=gx c.D.B k;refine ss (ixs k) ?_;refine ss (lI h 0) ?_;refine i7 xE λb12=>?_;refine g6 ?_;obtain⟨hb0,U,Z⟩:=X a.c (f5 (cN h))
  replace hb0:0<=a.I:=hb0
  replace U:a.I<(c.c.C.length:Nat):=U
  have hul:=usesV_len a.ops.B;refine g3 ?_;refine bK (mO a) (Has.each (oM (gS e7)) (f5 h))<|bK (opE.sl (.slice a.ops.O a.ops.B.length a.ops.cap) a.ops.B) (bHk (mA d7))<|bG (opsF_c (mA d8)) λG=>?_;have W:=G.2;refine bL func89 (uses_spec a.ops.O a.ops.cap a.ops.B j5) rfl rfl .nil ⟨d7,e9⟩ λ⟨UA,uc⟩=>?_;refine g5 ?_;refine bT (ι:=Nat×List dX) [(1,_),(3,_),(4,_),(6,_),(7,_),(46,_),(47,_),(48,_),(55,_),(56,_)] ⟨rfl,rfl,rfl,rfl,rfl,rfl,rfl,rfl,rfl,rfl,e9⟩ (λ⟨j,lj⟩=>[(57,.int .i64 (j:Nat))]) (λ⟨j,lj⟩=>[kI.row (.slice LA c.C.B.length lcp) 114 lj]) (λ⟨j,lj⟩=>[bC.pure (j<=(pT a.ops.B).length/\lj.length=c.C.B.length/\UseI (k:Nat) (pT a.ops.B) j (((pT a.ops.B).map Int.toNat).foldl (iZ (k:Nat)) (lc li)) lj)]) (λ⟨j,lj⟩=>(pT a.ops.B).length-j) (0,li) ⟨rfl,e9⟩ (.c1 .nil) ⟨f4 (⟨j5,hl2,rfl⟩),e9⟩ ?_;rintro⟨j,lj⟩;dsimp only;refine bG d7 λd=>?_;have v:=d.2.1;refine g6 ?_;refine dO (λO=>?_) λO=>?_
  .refine g6 ?_;obtain⟨t,q⟩:=gx (pT a.ops.B) j;refine ss (ixs j) ?_;refine ss (fV q 0) ?_;refine g3 ?_;have V:=uses_in Z (f5 q);refine g4 ?_;obtain⟨D,A⟩:=gx lj t.toNat j9;refine ss (bE hT (k:=t.toNat) (bN .head) rfl rfl rfl rfl rfl v.symm j5 j9) ?_;refine one ?_;refine i6 hT (k:=t.toNat) (fo:=1) (y':=(⟨D.from_,(k:Nat)⟩:dX)) .head A ?_;refine g5 ?_;refine inc (j+1) ?_;refine g3 ?_;exact bk2 (j+1,(lj.set t.toNat (⟨D.from_,(k:Nat)⟩:dX))) ⟨f4 (⟨by dsimp only;omega,by rw[R0];exact v,use_step d.2.2 q A⟩),e9⟩
  refine g11 ?_;obtain⟨x18,g⟩:=gx dn a.I.toNat j9;refine ss (bE hT (k:=a.I.toNat) (bN kT2) rfl rfl rfl rfl rfl L.symm j5 j9) ?_;refine ss (fV g 0) ?_;refine g3 ?_;refine tQ (λN=>?_) λN=>?_
  .refine g5 ?_;refine ss (bE hT (k:=a.I.toNat) (bN kT2) rfl rfl rfl rfl rfl L.symm j5 j9) ?_;refine i6 hT (k:=a.I.toNat) (fo:=0) (y':=(true)) kT2 g ?_;refine g7 ?_;obtain⟨s,z⟩:=gx lj a.I.toNat j9;refine ss (bE hT (k:=a.I.toNat) (bN kT1) rfl rfl rfl rfl rfl v.symm j5 j9) ?_;refine one ?_;refine i6 hT (k:=a.I.toNat) (fo:=0) (y':=(⟨(k:Nat),s.za⟩:dX)) kT1 z ?_;refine g7 ?_;refine ss (bE hT (k:=a.I.toNat) (bN .head) rfl rfl rfl rfl rfl n9 j5 j9) ?_;refine one ?_;refine bV hT (k:=a.I.toNat) (fo:=1) (y':=(⟨(⟨(k:Nat),s.za⟩:dX).from_,(k:Nat)⟩:dX)) .head rfl rfl rfl rfl rfl rfl rfl rfl rfl (G8 j9) rfl ?_;refine g5 ?_;refine inc (k+1) ?_;refine g3 ?_;exact bk2 (k+1,((lj.set a.I.toNat (⟨(k:Nat),s.za⟩:dX)).set a.I.toNat (⟨(⟨(k:Nat),s.za⟩:dX).from_,(k:Nat)⟩:dX)),(dn.set a.I.toNat (true))) ⟨f4 (⟨by dsimp only;omega,bUm b.2 (cN h) (made_new d.2.2 j5 rfl (show dn[_]?=some false by rw[g];simp_all) z) rfl⟩),e9⟩
  refine g7 ?_;obtain⟨C,p⟩:=gx lj a.I.toNat j9;refine ss (bE hT (k:=a.I.toNat) (bN .head) rfl rfl rfl rfl rfl v.symm j5 j9) ?_;refine one ?_;refine i6 hT (k:=a.I.toNat) (fo:=1) (y':=(⟨C.from_,(k:Nat)⟩:dX)) .head p ?_;refine g5 ?_;refine inc (k+1) ?_;refine g3 ?_;exact bk2 (k+1,(lj.set a.I.toNat (⟨C.from_,(k:Nat)⟩:dX)),dn) ⟨f4 (⟨by dsimp only;omega,bUm b.2 (cN h) (made_old d.2.2 j5 rfl (show dn[_]?=some true by rw[g];simp_all) p).1 (made_old (y:=_) d.2.2 j5 rfl (show dn[_]?=some true by rw[g];simp_all) p).2⟩),e9⟩
 refine g15 ?_;refine bT (ι:=Nat×List dX) [(1,_),(3,_),(91,_),(92,_)] ⟨rfl,rfl,rfl,rfl,e9⟩ (λ⟨j,lo⟩=>[(93,.int .i64 (j:Nat))]) (λ⟨j,lo⟩=>[kI.row (.slice LA c.C.B.length lcp) 114 lo]) (λ⟨j,lo⟩=>[bC.pure (j<=c.Q.B.length/\OutI c.c j lo r)]) (λ⟨j,lo⟩=>c.Q.B.length-j) (0,li) ⟨rfl,e9⟩ (.c0 .nil) ⟨f4 (⟨j5,b.2.1,stepI_end b.2 j5⟩),e9⟩ ?_;rintro⟨j,lo⟩;dsimp only;refine bG d7 λf=>?_;have hl4:lo.length=c.C.B.length:=by rw[f.2.1];exact l
 refine g6 ?_;refine dO (λM=>?_) λM=>?_
 .refine g6 ?_;refine bK (dA.sl (.slice c.Q.O c.Q.B.length c.Q.cap) c.Q.B) (bEi (bEq e7)) ?_;obtain⟨n,o⟩:=gx c.Q.B j;refine ss (ixs j) ?_;refine ss (fV o 0) ?_;refine g3 ?_;have V:=Y n (f5 o);refine g6 ?_;obtain⟨B,w⟩:=gx lo n.toNat j9;refine ss (bE hT (k:=n.toNat) (bN .head) rfl rfl rfl rfl rfl hl4.symm j5 j9) ?_;refine one ?_;refine i6 hT (k:=n.toNat) (fo:=1) (y':=(⟨B.from_,(c.D.B.length:Nat)⟩:dX)) .head w ?_;refine g5 ?_;refine inc (j+1) ?_;refine g3 ?_;exact bk2 (j+1,(lo.set n.toNat (⟨B.from_,(c.D.B.length:Nat)⟩:dX))) ⟨f4 (⟨by dsimp only;omega,out_stepN hns f.2 o w⟩),e9⟩
 refine g12 ?_;have hlv:=out_end f.2 j5;subst hlv;exact rs1 (LA,lcp) trivial
end
section
open Go.Proofs.Tryz
end
section
open Go.RowKit Go.Proofs.Tryz
def askO (b:Int)(o:OpV):Bool:=o.N==4&&o.k==b
section
variable {x : gA} {b : Int}
theorem asks_eq:sX x.c b=(x.ops.B.any (askO b) || x.I==b):=by unfold sX;show((x.ops.B.map OpV.c).any _ || _)=_;rw[List.any_map];rfl
theorem any_bad{α:Type}{p:α->Bool}{l:List α}{i:Nat}{x:α}(hx:l[i]?=some x)(k:p x=true):l.any p=true:=List.any_eq_true.2 ⟨x,eN hx,k⟩
theorem bWh{α:Type}{p:α->Bool}{l:List α}{i:Nat}{x:α}(h:(l.take i).any p=false)(hx:l[i]?=some x)(k:p x=false):(l.take (i+1)).any p=false:=by obtain⟨a,e⟩:=G3.1 hx;rw[Y1 a,e,List.any_append,h];simp[k]
theorem any_full{α:Type}{p:α->Bool}{l:List α}{i:Nat}(h:(l.take i).any p=false)(hi:l.length<=i):l.any p=false:=by rwa[Y2 hi]at h
theorem asks_yes{i:Nat}{o:OpV}(ho:x.ops.B[i]?=some o)(h4:o.N=4)(hk:o.k=b):Y6 true= .bool (sX x.c b):=by rw[asks_eq,any_bad ho (by simp[askO,h4,hk])];rfl
theorem asks_end(h:x.ops.B.any (askO b)=false):Y6 (x.I==b)= .bool (sX x.c b):=by rw[asks_eq,h,Bool.false_or]
theorem askO_no{o:OpV}(h: ¬(o.N=4/\o.k=b)):askO b o=false:=by unfold askO;rw[Bool.and_eq_false_iff,beq_eq_false_iff_ne,beq_eq_false_iff_ne];omega
end
section
variable {c : dR} {b m : Nat} {fi la fi' la' : Int} {ak ak' : Bool} {x : cT} {u : jX}
def bCf (c:dR)(b m:Nat)(fi la:Int)(ak:Bool):Prop:=fi=kU b m (c.D.drop m) (-1)/\la=mX b m (c.D.drop m) (-1)/\ak=rN b (c.D.drop m)
theorem life_start(h:c.D.length<=m):bCf c b m (-1) (-1) false:=by unfold bCf;rw[U8 h];exact⟨rfl,rfl,rfl⟩
theorem tT{p:Nat}(hm:m=p+1)(h:bCf c b m fi la ak)(hx:c.D[p]?=some x)(h1:(x.I=b/\fi'=p)\/(x.I≠b/\fi'=fi))(h2:(sX x b=true/\ak=false/\la'=p/\ak'=true)\/(¬(sX x b=true/\ak=false)/\la'=la/\ak'=ak)):bCf c b p fi' la' ak':=by
 subst hm;obtain⟨i,g,a⟩:=h;unfold bCf;rw[kS hx];refine⟨?_,?_,?_⟩
 .rw[kU]
  rcases h1 with ⟨e,rfl⟩|⟨e,rfl⟩
  .rw[if_pos e]
  .rw[if_neg e,i];rfl
 .rw[mX]
  rcases h2 with ⟨e,f,rfl,_⟩|⟨e,rfl,_⟩
  .rw[if_pos e];rw[f]at a;exact(qE a.symm).symm
  .rw[g]
   cases d:ak with
   |true=>exact lastAsk_any (a.symm.trans d)
   |false=>
    have: ¬sX x b=true:=λq=>e ⟨q,d⟩;rw[if_neg this];rfl
 .show _=(sX x b || rN b (c.D.drop (p+1)));rw[<-a]
  rcases h2 with ⟨e,f,_,rfl⟩|⟨e,_,rfl⟩
  .rw[e];rfl
  .cases d:sX x b with
   |false=>rfl
   |true=>
    cases j:ak' with
    |true=>rfl
    |false=>exact absurd ⟨d,j⟩ e
theorem life_none(h:bCf c b m fi la ak)(hm:m=0)(h1:ak=false)(h2:c.Q.contains (b:Int)=false)(h3:u.L<0):pO c b u=⟨0,-1⟩:=by subst hm;obtain⟨_,_,a⟩:=h;rw[h1]at a;have a:false=rN b c.D:=a;unfold pO;rw[<-a,h2,decide_eq_false (show ¬0<=u.L by omega)];rfl
theorem life_some(h:bCf c b m fi la ak)(hm:m=0)(h1: ¬(ak=false/\c.Q.contains (b:Int)=false/\u.L<0)):pO c b u=⟨fi,if c.Q.contains (b:Int)=true then c.D.length else la⟩:=by subst hm;obtain⟨f,d,a⟩:=h;have f:fi=kU b 0 c.D (-1):=f;have d:la=mX b 0 c.D (-1):=d;have a:ak=rN b c.D:=a;unfold pO;rw[if_neg,f,d];rw[<-a];intro e;rw[aX,aX,decide_eq_false_iff_not]at e;exact h1 ⟨e.1,e.2.1,j5⟩
end
section
variable {l : List Int} {i : Nat} {z b : Int}
theorem cont_snoc(h:(l.take i).contains b=false)(hz:l[i]?=some z)(e:z≠b):(l.take (i+1)).contains b=false:=by
 obtain⟨a,c⟩:=G3.1 hz;rw[Ab]at*;rw[decide_eq_false_iff_not]at*;rw[Y1 a,c,List.mem_append];rintro(k|k)
 .exact h k
 .exact e (List.mem_singleton.1 k).symm
theorem cont_yes(hz:l[i]?=some z)(e:z=b):Y6 true= .bool (l.contains b):=by subst e;rw[Ab,decide_eq_true (f5 hz)]
theorem cont_no(h:(l.take i).contains b=false)(hi:l.length<=i):Y6 false= .bool (l.contains b):=by rw[Y2 hi]at h;rw[h]
end
section
variable {c : fX} {b m : Nat} {fi la : Int} {ak : Bool} {ub : jW}
theorem life_noneV(h:bCf c.c b m fi la ak)(hm:m=0)(h1:ak=false)(h2:c.Q.B.contains (b:Int)=false)(h3:ub.L<0):pO c.c b ub.c=⟨0,-1⟩:=life_none h hm h1 h2 h3
theorem rH(h:bCf c.c b m fi la ak)(hm:m=0)(h1: ¬(ak=false/\c.Q.B.contains (b:Int)=false/\ub.L<0)):pO c.c b ub.c=⟨fi,if c.Q.B.contains (b:Int)=true then (c.D.B.length:Nat)else la⟩:=by have:=life_some (u:=ub.c) h hm h1;rw[this];show(⟨fi,if c.Q.B.contains (b:Int)=true then ((bAj c.D.B).length:Int)else la⟩:LifeC)=_;rw[cS]
end
theorem yT:(prog.info? 114).bind (·.zero)=some (.agg #[j3 0,j3 0]):=j8
theorem fB(z0:Int)(z1:Int):prog.built 114 [(0,j3 z0),(1,j3 z1)]=some #[j3 z0,j3 z1]:=j8
theorem bJo(x:gA)(b:Int):cJ prog 205 [.agg #[j3 x.N,j3 x.I,f9 x.at_,f9 x.H,j4 x.fn,f9 x.ops],j3 b] [] [mO x] (λ(_:Unit)=> .bool (sX x.c b)) (λ_=>[]) (λ_=>[]):=by
 have hT:=dF;refine j1 func205 ntmps205 ?_;intro β hM;refine cH<|bG (opsF_c (mA d7)) λh=>?_;have j:=h.2;refine bK (opE.sl (.slice x.ops.O x.ops.B.length x.ops.cap) x.ops.B) (bHk (mA d7)) ?_;refine one ?_;refine j0 λl=>?_;refine g10 ?_;refine bT (ι:=Nat) [(1,_),(2,_)] ⟨rfl,rfl,e9⟩ (λi=>[(5,.int .i64 (i:Nat))]) (λ_=>[]) (λi=>[bC.pure (i<=x.ops.B.length/\(x.ops.B.take i).any (askO b)=false)]) (λi=>x.ops.B.length-i) 0 ⟨rfl,e9⟩ .nil ⟨f4 (⟨j5,rfl⟩),e9⟩ ?_;rintro i;refine bG d7 λa=>?_;refine g10 ?_;refine dO (λg=>?_) λg=>?_
 .refine g9 ?_;obtain⟨k,d⟩:=gx x.ops.B i;refine ss (ixs i) ?_;refine one ?_;refine ss (fV d 0) ?_;refine g2 ?_;refine bHb (λe=>?_) λe=>?_
  .refine g3 ?_;refine ss (ixs i) ?_;refine one ?_;refine ss (fV d 1) ?_;refine g5 ?_;refine jU (λf=>?_) λf=>?_
   .refine g11 ?_;exact rs1 () e9 (he:=asks_yes d j5 j5)
   refine g6 ?_;refine inc (i+1) ?_;refine g3 ?_;exact bk2 (i+1) ⟨f4 (⟨j5,bWh a.2 d (askO_no j5)⟩),e9⟩
  refine g18 ?_;refine inc (i+1) ?_;refine g3 ?_;exact bk2 (i+1) ⟨f4 (⟨j5,bWh a.2 d (askO_no j5)⟩),e9⟩
 refine g15 ?_;exact rs1 () e9 (he:=asks_end (any_full a.2 j5))
theorem out15_spec(c:fX)(b:Int)(hoz:c.Q.B.length<=64):cJ prog 206 [.agg #[j3 c.vars,f9 c.C,f9 c.D,f9 c.Q],j3 b] [] [lH c] (λ(_:Unit)=> .bool (c.Q.B.contains b)) (λ_=>[]) (λ_=>[]):=by
 have hT:=dF;refine j1 func206 ntmps206 ?_;intro β hM;refine cH<|bK (dA.sl (.slice c.Q.O c.Q.B.length c.Q.cap) c.Q.B) (bEi (bEq d7)) ?_;refine one ?_;refine j0 λh=>?_;refine g10 ?_;refine bT (ι:=Nat) [(1,_),(2,_)] ⟨rfl,rfl,e9⟩ (λi=>[(5,.int .i64 (i:Nat))]) (λ_=>[]) (λi=>[bC.pure (i<=c.Q.B.length/\(c.Q.B.take i).contains b=false)]) (λi=>c.Q.B.length-i) 0 ⟨rfl,e9⟩ .nil ⟨f4 (⟨j5,rfl⟩),e9⟩ ?_;rintro i;refine bG d7 λa=>?_;refine g10 ?_;refine dO (λf=>?_) λf=>?_
 .refine g9 ?_;obtain⟨g,d⟩:=gx c.Q.B i;refine ss (ixs i) ?_;refine ss (fV d 0) ?_;refine g4 ?_;refine jU (λe=>?_) λe=>?_
  .refine g11 ?_;exact rs1 () e9 (he:=cont_yes d j5)
  refine g6 ?_;refine inc (i+1) ?_;refine g3 ?_;exact bk2 (i+1) ⟨f4 (⟨j5,cont_snoc a.2 d j5⟩),e9⟩
 refine g11 ?_;exact rs1 () e9 (he:=cont_no a.2 j5)
theorem life15_spec(c:fX)(b:Nat)(ub:jW)(hb:c.C.B[b]?=some ub)(hsz:c.D.B.length<=1024)(hoz:c.Q.B.length<=64):cJ prog 143 [.agg #[j3 c.vars,f9 c.C,f9 c.D,f9 c.Q],j3 (b:Nat)] [] [lH c] (λ(_:Unit)=> .agg #[j3 (pO c.c b ub.c).from_,j3 (pO c.c b ub.c).za]) (λ_=>[]) (λ_=>[]):=by
 have hT:=dF;generalize h:pO c.c b ub.c=r;have hns:c.c.D.length=c.D.B.length:=cS _;have p:=(G3.1 hb).1;refine j1 func143 ntmps143 ?_;intro β hM;refine cH<|bK (sU.sl (.slice c.C.O c.C.B.length c.C.cap) c.C.B) (kG (gC d7)) ?_;refine bK (pU.sl (.slice c.D.O c.D.B.length c.D.cap) c.D.B) (lM (gS d8)) ?_;refine one ?_;refine j0 λs=>?_;refine i7 yT λq=>?_;refine g24 ?_;refine bM (jO j5 j5) ?_;refine g4 ?_;refine bT (ι:=Nat×Int×Int×Bool) [(1,_),(2,_),(4,_)] ⟨rfl,rfl,rfl,e9⟩ (λ⟨m,fi,la,ak⟩=>[(5,.int .i64 fi),(6,.int .i64 la),(7,.bool ak),(8,.int .i64 ((m:Nat)-1:Int))]) (λ_=>[]) (λ⟨m,fi,la,ak⟩=>[bC.pure (m<=c.D.B.length/\bCf c.c b m fi la ak)]) (λ⟨m,fi,la,ak⟩=>m) (c.D.B.length,-1,-1,false) ⟨rfl,rfl,rfl,rfl,e9⟩ .nil ⟨f4 (⟨j5,life_start j5⟩),e9⟩ ?_;rintro⟨m,fi,la,ak⟩;dsimp only;refine bG d7 λa=>?_;refine g7 ?_;refine bOr (λo=>?_) λo=>?_
 .refine g6 ?_;obtain⟨x3,d⟩:=gx c.D.B (m-1);refine bK (mO x3) (Has.each (oM (gS e6)) (f5 d)) ?_;refine g4 ?_;refine ss (bE hT (k:=(m-1)) (bH d9) rfl rfl rfl rfl rfl rfl j5 j5) ?_;refine one ?_;refine ss (fV d 1) ?_;refine g4 ?_;refine jU (λn=>?_) λn=>?_
  .refine g10 ?_;refine ss (bE hT (k:=(m-1)) (bH d9) rfl rfl rfl rfl rfl rfl j5 j5) ?_;refine ss (lI d 0) ?_;refine one ?_;refine bL func205 (bJo x3 (b:Nat)) rfl rfl .nil ⟨d7,e9⟩ λ_=>?_;refine one ?_;refine cE (λf=>?_) (λf=>?_)
   .refine g5 ?_;refine tQ (λg=>?_) λg=>?_
    .refine g14 ?_;refine bM (jO j5 j5)<|bM (z':=((m-1:Nat):Int)-1) j5 ?_;refine g3 ?_;exact dB (m-1,_,_,_) k8 ⟨rfl,rfl,rfl,rfl,e9⟩ ⟨rfl,rfl,rfl,e9⟩ (.c0 (.c0 .nil)) ⟨f4 (⟨by dsimp only;omega,tT (show m=(m-1)+1 by omega) a.2 (cN d) (.inl ⟨by show gA.I _=_;simp_all,by dsimp only;omega⟩) (.inl ⟨by simp_all,by simp_all,by dsimp only;omega,rfl⟩)⟩),e9⟩ (bA.drop 2)
    refine g6 ?_;refine bM (jO j5 j5)<|bM (z':=((m-1:Nat):Int)-1) j5 ?_;refine g3 ?_;exact dB (m-1,_,_,_) k8 ⟨rfl,rfl,rfl,rfl,e9⟩ ⟨rfl,rfl,rfl,e9⟩ (.c0 (.c0 .nil)) ⟨f4 (⟨by dsimp only;omega,tT (show m=(m-1)+1 by omega) a.2 (cN d) (.inl ⟨by show gA.I _=_;simp_all,by dsimp only;omega⟩) (.inr ⟨by simp_all,rfl,rfl⟩)⟩),e9⟩ (bA.drop 2)
   refine g12 ?_;refine bM (jO j5 j5)<|bM (z':=((m-1:Nat):Int)-1) j5 ?_;refine g3 ?_;exact dB (m-1,_,_,_) k8 ⟨rfl,rfl,rfl,rfl,e9⟩ ⟨rfl,rfl,rfl,e9⟩ (.c0 (.c0 .nil)) ⟨f4 (⟨by dsimp only;omega,tT (show m=(m-1)+1 by omega) a.2 (cN d) (.inl ⟨by show gA.I _=_;simp_all,by dsimp only;omega⟩) (.inr ⟨by simp_all,rfl,rfl⟩)⟩),e9⟩ (bA.drop 2)
  refine g7 ?_;refine ss (bE hT (k:=(m-1)) (bH d9) rfl rfl rfl rfl rfl rfl j5 j5) ?_;refine ss (lI d 0) ?_;refine one ?_;refine bL func205 (bJo x3 (b:Nat)) rfl rfl .nil ⟨d7,e9⟩ λ_=>?_;refine one ?_;refine cE (λf=>?_) (λf=>?_)
  .refine g5 ?_;refine tQ (λg=>?_) λg=>?_
   .refine g14 ?_;refine bM (jO j5 j5)<|bM (z':=((m-1:Nat):Int)-1) j5 ?_;refine g3 ?_;exact dB (m-1,_,_,_) k8 ⟨rfl,rfl,rfl,rfl,e9⟩ ⟨rfl,rfl,rfl,e9⟩ (.c0 (.c0 .nil)) ⟨f4 (⟨by dsimp only;omega,tT (show m=(m-1)+1 by omega) a.2 (cN d) (.inr ⟨by show gA.I _≠_;simp_all,rfl⟩) (.inl ⟨by simp_all,by simp_all,by dsimp only;omega,rfl⟩)⟩),e9⟩ (bA.drop 2)
   refine g6 ?_;refine bM (jO j5 j5)<|bM (z':=((m-1:Nat):Int)-1) j5 ?_;refine g3 ?_;exact dB (m-1,_,_,_) k8 ⟨rfl,rfl,rfl,rfl,e9⟩ ⟨rfl,rfl,rfl,e9⟩ (.c0 (.c0 .nil)) ⟨f4 (⟨by dsimp only;omega,tT (show m=(m-1)+1 by omega) a.2 (cN d) (.inr ⟨by show gA.I _≠_;simp_all,rfl⟩) (.inr ⟨by simp_all,rfl,rfl⟩)⟩),e9⟩ (bA.drop 2)
  refine g12 ?_;refine bM (jO j5 j5)<|bM (z':=((m-1:Nat):Int)-1) j5 ?_;refine g3 ?_;exact dB (m-1,_,_,_) k8 ⟨rfl,rfl,rfl,rfl,e9⟩ ⟨rfl,rfl,rfl,e9⟩ (.c0 (.c0 .nil)) ⟨f4 (⟨by dsimp only;omega,tT (show m=(m-1)+1 by omega) a.2 (cN d) (.inr ⟨by show gA.I _≠_;simp_all,rfl⟩) (.inr ⟨by simp_all,rfl,rfl⟩)⟩),e9⟩ (bA.drop 2)
 refine g9 ?_;refine bL func206 (out15_spec c (b:Nat) j5) rfl rfl .nil ⟨e6,e9⟩ λ_=>?_;refine g9 ?_;refine bHr (λj=>?_) λj=>?_
 .refine g4 ?_;refine bHr (λi=>?_) λi=>?_
  .refine g3 ?_;refine ss (ixs b) ?_;refine one ?_;refine ss (fV hb 1) ?_;refine g4 ?_;refine dO (λl=>?_) λl=>?_
   .refine g2 ?_;refine ss (bY rfl rfl (fB _ _)) ?_;refine g5 ?_;have hl:=life_noneV (ub:=ub) a.2 j5 (by simp_all) (by simp_all) j5;exact rs1 () e9 (he:=by rw[<-h,hl])
   refine g8 ?_;refine vN (λe=>?_) λe=>?_
   .refine g11 ?_;refine ss (bY rfl rfl (fB _ _)) ?_;refine g4 ?_;have hl:=rH (ub:=ub) a.2 j5 (by simp_all);exact rs1 () e9 (he:=by rw[<-h,hl];simp_all)
   refine g6 ?_;refine ss (bY rfl rfl (fB _ _)) ?_;refine g4 ?_;have hl:=rH (ub:=ub) a.2 j5 (by simp_all);exact rs1 () e9 (he:=by rw[<-h,hl];simp_all)
  refine g19 ?_;refine vN (λe=>?_) λe=>?_
  .refine g11 ?_;refine ss (bY rfl rfl (fB _ _)) ?_;refine g4 ?_;have hl:=rH (ub:=ub) a.2 j5 (by simp_all);exact rs1 () e9 (he:=by rw[<-h,hl];simp_all)
  refine g6 ?_;refine ss (bY rfl rfl (fB _ _)) ?_;refine g4 ?_;have hl:=rH (ub:=ub) a.2 j5 (by simp_all);exact rs1 () e9 (he:=by rw[<-h,hl];simp_all)
 refine g23 ?_;refine vN (λe=>?_) λe=>?_
 .refine g11 ?_;refine ss (bY rfl rfl (fB _ _)) ?_;refine g4 ?_;have hl:=rH (ub:=ub) a.2 j5 (by simp_all);exact rs1 () e9 (he:=by rw[<-h,hl];simp_all)
 refine g6 ?_;refine ss (bY rfl rfl (fB _ _)) ?_;refine g4 ?_;have hl:=rH (ub:=ub) a.2 j5 (by simp_all);exact rs1 () e9 (he:=by rw[<-h,hl];simp_all)
theorem at_app_life{β:dY}{n:Nat}{Γ:Env}{H:List bD}{F:List bC}{Q:Exit->Act->World->Prop}{ops:Array Oper}{rest:List Oper}{o:Oper}{d:Nat}{x y:Operand}{c q:Nat}{v:Value}{A:Option Addr}{xs ys:List dX}{H':List bD}(hH:bZ H (kI.row v 114 xs) H')(hr:cF β H F kI A ys)(hg:o.guard=none)
  (ho:o.op= .call {callee:= .builtin .append,args:= #[x,y],argTypes:= #[97,97]}) (hd:o.dst=some d) (hn:C2 d n=true)
  (hx:Γ.ev x=some v) (hy:Γ.ev y=some (.slice A q c)) (hq:q=ys.length) (hl:xs.length+ys.length<=8796093022208)
  (k: ∀A' cap',At β n ((d,.slice A' (xs++ys).length cap')::Γ) (kI.row (.slice A' (xs++ys).length cap') 114 (xs++ys)::H') F (wpList prog ops Q rest)):At β n Γ H F (wpList prog ops Q (o::rest)):=by obtain⟨i,e,a,b,hb⟩:=bMz;exact jS hH hr hg ho hd hn underlying97 e a b hb rfl hx hy hq j5 l4 k
def bAd (c:fX):List dX:=if dC c.c=true then lv (vW c.c)else []
theorem livesR_len{c:dR}:(vW c).length=c.C.length:=List.length_mapIdx
section
variable {c : fX} {i : Nat} {ub : jW} {ls : List dX}
theorem livesR_at(hb:c.C.B[i]?=some ub):(lv (vW c.c))[i]?=some ⟨(pO c.c i ub.c).from_,(pO c.c i ub.c).za⟩:=by unfold lv vW;rw[F7,List.getElem?_mapIdx,show c.c.C[i]?=some ub.c from cM hb];rfl
theorem lives_snoc(h:ls=(lv (vW c.c)).take i)(hb:c.C.B[i]?=some ub):ls++[⟨(pO c.c i ub.c).from_,(pO c.c i ub.c).za⟩]=(lv (vW c.c)).take (i+1):=by subst h;rw[G7,livesR_at hb];rfl
end
theorem Lives15_spec(c:fX):cJ prog 77 [.agg #[j3 c.vars,f9 c.C,f9 c.D,f9 c.Q]] [] [lH c] (λ(x:Option Addr×Nat)=> .tuple #[.slice x.1 (bAd c).length x.2,j3 (if dC c.c=true then 0 else 100)]) (λ_=>[]) (λ(x:Option Addr×Nat)=>[kI.sl (.slice x.1 (bAd c).length x.2) (bAd c)]):=by
 have hT:=dF;generalize g:bAd c=V;have l:c.c.C.length=c.C.B.length:=cQ _;have hns:c.c.D.length=c.D.B.length:=cS _;have k:c.c.Q.length=c.Q.B.length:=rfl;refine j1 func77 ntmps77 ?_;intro β hM;refine cH<|bK (sU.sl (.slice c.C.O c.C.B.length c.C.cap) c.C.B) (kG (gC d7)) ?_;refine one ?_;refine j0 λq=>?_;refine g8 ?_;refine bL func35 (tG c) rfl rfl .nil ⟨d8,e9⟩ λ_=>?_;refine g3 ?_;refine tQ (λf=>?_) λf=>?_
 .refine g8 ?_;have hr:dC c.c=false:=by simp_all
  obtain rfl:V=[]:=by rw[<-g];simp[bAd,hr]
  exact rs2 (none,0) ⟨nil_pol,e9⟩ (he:=by rw[hr];rfl)
 refine g14 ?_;refine cL (t:=114) kI ?_;have hr:dC c.c=true:=by simp_all
 obtain⟨n,h,j⟩:=qI hr;refine bT (ι:=Nat×List dX×Option Addr×Nat) [(1,_)] ⟨rfl,e9⟩ (λ⟨i,ls,LA,lp⟩=>[(4,.slice LA ls.length lp),(5,.int .i64 (i:Nat))]) (λ⟨i,ls,LA,lp⟩=>[kI.row (.slice LA ls.length lp) 114 ls]) (λ⟨i,ls,LA,lp⟩=>[bC.pure (i<=c.C.B.length/\ls=(lv (vW c.c)).take i)]) (λ⟨i,ls,LA,lp⟩=>c.C.B.length-i) (0,[],none,0) ⟨rfl,rfl,e9⟩ (.c0 .nil) ⟨f4 (⟨j5,rfl⟩),e9⟩ ?_;rintro⟨i,ls,LA,lp⟩;dsimp only;refine bG d7 λa=>?_;have hll:ls.length<=i:=by rw[a.2];exact List.length_take_le ..
 refine g10 ?_;refine dO (λe=>?_) λe=>?_
 .refine g4 ?_;obtain⟨b,d⟩:=gx c.C.B i;refine g4 ?_;refine bL func143 (life15_spec c i b d j5 j5) rfl rfl .nil ⟨d9,e9⟩ λ_=>?_;refine bJk (m:=⟨(pO c.c i b.c).from_,(pO c.c i b.c).za⟩) rfl rfl rfl rfl rfl λp=>?_;refine at_app_life kT1 (fD .head rfl) rfl rfl rfl rfl rfl rfl rfl o6 λo c6=>?_;refine g7 ?_;refine inc (i+1) ?_;refine g3 ?_;exact bk2 (i+1,(ls++[⟨(pO c.c i b.c).from_,(pO c.c i b.c).za⟩]),o,c6) ⟨f4 (⟨by dsimp only;omega,lives_snoc a.2 d⟩),e9⟩
 refine g13 ?_;obtain rfl:ls=V:=by rw[a.2,<-g,Y2 (by rw[bAg,livesR_len];omega)];simp[bAd,hr]
 refine gP .head ?_;exact rs2 (_,_) ⟨d7,e9⟩ (he:=by rw[hr];rfl)
section
variable {α : Type} {x y : α}
theorem bIg{a b:List α}{k:Nat}(h:a.take k=b.take k)(hx:a[k]?=some x)(hy:b[k]?=some y)(e:x=y):a.take (k+1)=b.take (k+1):=by subst e;rw[G7,G7,h,hx,hy]
theorem bPs{a b:List α}{k:Nat}(h:a.take k=b.take k)(ha:a.length<=k)(hb:b.length<=k):a=b:=by rw[Y2 ha,Y2 hb]at h;exact h
theorem bNq{a b:List α}{k:Nat}(hx:a[k]?=some x)(hy:b[k]?=some y)(e:x≠y):a≠b:=by rintro rfl;rw[hx]at hy;exact e (Option.some.inj hy)
end
theorem sC(p q:PolV)(hl:p.B.length<=140737488355328):cJ prog 146 [f9 p,f9 q] [] [dM.sl (f9 p) p.B,dM.sl (f9 q) q.B] (λ(_:Unit)=> .bool (decide (p.B=q.B))) (λ_=>[]) (λ_=>[]):=by
 have hT:=dF;refine j1 func146 ntmps146 ?_;intro β hM;refine sr<|sp hT ?_;refine nn<|cH<|sr<|sp4 hT ?_;refine sp hT ?_;refine nn<|cD rfl (λb=>?_) (λb=>?_)
 .have b:=bne_iff_ne.1 b;refine sr<|sp hT ?_;refine nn<|lX<|iT ?_;exact mU () rfl (rv_tmp rfl) .nil e9 (bIw (λe=>by have:=congrArg U7 e;omega))
 have b:=bne_eq_false_iff_eq.1 b;refine dS<|cZ<|cH<|sr<|sp hT ?_;refine nn<|gY<|bT (ι:=Nat) [(0,_),(1,_)] ⟨rfl,rfl,e9⟩ (λi=>[(5,.int .i64 (i:Nat))]) (λ_=>[]) (λi=>[bC.pure (i<=p.B.length/\p.B.take i=q.B.take i)]) (λi=>p.B.length-i) 0 ⟨rfl,e9⟩ .nil ⟨f4 (⟨j5,rfl⟩),e9⟩ ?_;rintro i;refine bG d7 λc=>?_;refine cH<|sr<|sp4 hT ?_;refine nn<|cD rfl (λa=>?_) (λa=>?_)
 .have a:=of_decide_eq_true a;refine dS<|cZ<|cH<|gY<|cH<|dK _ _ [j2,u1,u0,u2,u3,u4,u5,u6,u7] dJ k7 .nil bA.self ?_;refine puM hT ?_;refine puM hT ?_
  obtain⟨h,f⟩: ∃x',p.B[i]?=some x':=⟨_,G1 j5⟩
  refine stM rfl (bE hT (k:=i) (bH d8) rfl rfl rfl rfl rfl rfl rfl j5) ?_;refine stM rfl (iC hT (cF.knows (bH d8) (k:=i) (x:=h) f 0) rfl rfl rfl rfl rfl) ?_;refine puM hT ?_;refine puM hT ?_
  obtain⟨x3,d⟩: ∃x',q.B[i]?=some x':=⟨_,G1 j5⟩
  refine stM rfl (bE hT (k:=i) (bH d9) rfl rfl rfl rfl rfl rfl rfl j5) ?_;refine stM rfl (iC hT (cF.knows (bH d9) (k:=i) (x:=x3) d 0) rfl rfl rfl rfl rfl) ?_;refine stM rfl (bGi h x3 rfl rfl rfl) ?_;refine atm_nil<|cZ<|cD rfl (λg=>?_) (λg=>?_)
  .refine sr<|sp hT ?_;refine nn<|lX<|mC<|iT<|iT<|mC<|iT ?_;exact mU () rfl (rv_tmp rfl) .nil e9 (bIw (bNq f d (mono_t ‹_›)))
  refine dS<|gX<|cZ<|bX<|sp2 hT ?_;refine bM (z':=(((i+1):Nat):Int)) (jG j5 j5) ?_;refine sp hT ?_;refine nn ?_;exact dB (i+1) j5 ⟨rfl,e9⟩ ⟨rfl,rfl,e9⟩ .nil ⟨f4 (⟨j5,bIg c.2 f d (mono_f ‹_›)⟩),e9⟩ (bA.drop 1)
 have a:=Y8.1 (of_decide_eq_false a);refine oR<|lA<|lA<|oO<|cZ<|sr<|sp hT ?_;refine nn<|lX ?_;exact mU () rfl (rv_tmp rfl) .nil e9 (eqT_of (bPs c.2 j5 j5))
theorem bIy(p q:PolV)(hl:p.B.length<=140737488355328):cJ prog 92 [f9 p,f9 q] [] [dM.sl (f9 p) p.B,dM.sl (f9 q) q.B] (λ(_:Unit)=> .bool (decide (p.B=q.B))) (λ_=>[]) (λ_=>[]):=by
 have hT:=dF;refine j1 func92 ntmps92 ?_;intro β hM;refine sr<|sp hT ?_;refine nn<|cH<|sr<|sp4 hT ?_;refine sp hT ?_;refine nn<|cD rfl (λb=>?_) (λb=>?_)
 .have b:=bne_iff_ne.1 b;refine sr<|sp hT ?_;refine nn<|lX<|iT ?_;exact mU () rfl (rv_tmp rfl) .nil e9 (bIw (λe=>by have:=congrArg U7 e;omega))
 have b:=bne_eq_false_iff_eq.1 b;refine dS<|cZ<|cH<|sr<|sp3 hT ?_;refine nn<|gY<|bT (ι:=Nat) [(0,_),(1,_),(12,_)] ⟨rfl,rfl,rfl,e9⟩ (λi=>[(13,.int .i64 (i:Nat))]) (λ_=>[]) (λi=>[bC.pure (i<=p.B.length/\p.B.take i=q.B.take i)]) (λi=>p.B.length-i) 0 ⟨rfl,e9⟩ .nil ⟨f4 (⟨j5,rfl⟩),e9⟩ ?_;rintro i;refine bG d7 λc=>?_;refine sr<|sp hT ?_;refine nn<|cH<|cD rfl (λa=>?_) (λa=>?_)
 .have a:=of_decide_eq_true a;refine dS<|cZ<|cH<|gY<|sr<|sp2 hT ?_;refine nn<|cH<|dK _ _ [j2,u1,u0,u2,u3,u4,u5,u6,u7] dJ k7 .nil bA.self ?_;refine puM hT ?_;refine puM hT ?_
  obtain⟨h,f⟩: ∃x',p.B[i]?=some x':=⟨_,G1 j5⟩
  refine stM rfl (bE hT (k:=i) (bH d8) rfl rfl rfl rfl rfl rfl rfl j5) ?_;refine stM rfl (iC hT (cF.knows (bH d8) (k:=i) (x:=h) f 0) rfl rfl rfl rfl rfl) ?_;refine puM hT ?_;refine puM hT ?_
  obtain⟨x3,d⟩: ∃x',q.B[i]?=some x':=⟨_,G1 j5⟩
  refine stM rfl (bE hT (k:=i) (bH d9) rfl rfl rfl rfl rfl rfl rfl j5) ?_;refine stM rfl (iC hT (cF.knows (bH d9) (k:=i) (x:=x3) d 0) rfl rfl rfl rfl rfl) ?_;refine stM rfl (bGi h x3 rfl rfl rfl) ?_;refine atm_nil<|cZ<|cD rfl (λg=>?_) (λg=>?_)
  .refine sr<|sp hT ?_;refine nn<|lX<|mC<|iT<|iT<|mC<|iT ?_;exact mU () rfl (rv_tmp rfl) .nil e9 (bIw (bNq f d (mono_t ‹_›)))
  refine dS<|gX<|cZ<|bX<|sp hT ?_;refine bM (z':=(((i+1):Nat):Int)) (jG j5 j5) ?_;refine sp hT ?_;refine nn ?_;exact dB (i+1) j5 ⟨rfl,e9⟩ ⟨rfl,rfl,rfl,e9⟩ .nil ⟨f4 (⟨j5,bIg c.2 f d (mono_f ‹_›)⟩),e9⟩ (bA.drop 1)
 have a:=Y8.1 (of_decide_eq_false a);refine oR<|lA<|lA<|oO<|cZ<|sr<|sp hT ?_;refine nn<|lX ?_;exact mU () rfl (rv_tmp rfl) .nil e9 (eqT_of (bPs c.2 j5 j5))
theorem full1_spec(p q:PolV)(hl:p.B.length<=140737488355328):cJ prog 91 [f9 p,f9 q] [] [dM.sl (f9 p) p.B,dM.sl (f9 q) q.B] (λ(_:Unit)=> .bool (decide (p.B=q.B))) (λ_=>[]) (λ_=>[]):=by have hT:=dF;refine j1 func91 ntmps91 ?_;intro β hM;refine sr<|sp hT ?_;refine nn<|sr<|sp2 hT ?_;refine bL func92 (bIy p q hl) rfl rfl .nil ⟨d7,d8,e9⟩ λ_=>?_;refine sp hT ?_;refine nn<|lX ?_;exact mU () rfl (rv_tmp rfl) .nil e9 (rfl)
theorem bJp(A B:Option Addr)(ca cb:Nat)(a b:List PolV)(hl:a.length<=140737488355328):cJ prog 90 [.slice A a.length ca,.slice B b.length cb,.func (.func 91) #[] #[]] [] [fF.sl (.slice A a.length ca) a,yG a,fF.sl (.slice B b.length cb) b,yG b] (λ(_:Unit)=> .bool (decide (polsL a=polsL b))) (λ_=>[]) (λ_=>[]):=by
 have hT:=dF;refine j1 func90 ntmps90 ?_;intro β hM;refine sr<|sp hT ?_;refine nn<|cH<|sr<|sp4 hT ?_;refine sp hT ?_;refine nn<|cD rfl (λf=>?_) (λf=>?_)
 .have f:=bne_iff_ne.1 f;refine sr<|sp hT ?_;refine nn<|lX<|iT ?_;exact mU () rfl (rv_tmp rfl) .nil e9 (bIw (λe=>by have:=congrArg U7 e;rw[bS,bS]at this;omega))
 have f:=bne_eq_false_iff_eq.1 f;refine dS<|cZ<|cH<|sr<|sp3 hT ?_;refine nn<|gY<|bT (ι:=Nat) [(1,_),(2,_),(15,_),(16,_)] ⟨rfl,rfl,rfl,rfl,e9⟩ (λi=>[(17,.int .i64 (i:Nat))]) (λ_=>[]) (λi=>[bC.pure (i<=a.length/\(polsL a).take i=(polsL b).take i)]) (λi=>a.length-i) 0 ⟨rfl,e9⟩ .nil ⟨f4 (⟨j5,rfl⟩),e9⟩ ?_;rintro i;refine bG d7 λh=>?_;refine sr<|sp hT ?_;refine nn<|cH<|cD rfl (λd=>?_) (λd=>?_)
 .have d:=of_decide_eq_true d;refine dS<|cZ<|cH<|gY<|sr<|sp hT ?_
  obtain⟨m,g⟩: ∃x',a[i]?=some x':=⟨_,G1 j5⟩
  refine ss (bE hT (k:=i) (bH d8) rfl rfl rfl rfl rfl rfl rfl j5) ?_;refine ss (f7 hT (cF.knows (bH d8) (k:=i) (x:=m) g 0)) ?_;refine sp2 hT ?_;refine nn<|sr<|sp2 hT ?_
  obtain⟨x3,j⟩: ∃x',b[i]?=some x':=⟨_,G1 j5⟩
  refine ss (bE hT (k:=i) (bH e6) rfl rfl rfl rfl rfl rfl rfl j5) ?_;refine ss (f7 hT (cF.knows (bH e6) (k:=i) (x:=x3) j 0)) ?_;refine sp hT ?_;refine nn<|sr<|sp3 hT ?_;refine bG (dI (Has.each d9 (f5 g))) λl=>?_;refine nF (bJ func91 rfl rfl) (full1_spec m x3 l) rfl rfl rfl rfl rfl rfl rfl .nil ⟨fT (Has.each d9 (f5 g)),fT (Has.each e7 (f5 j)),e9⟩ λ_=>?_;refine sp hT ?_;refine nn<|cD rfl (λc=>?_) (λc=>?_)
  .have c:=bEl c;refine sr<|sp hT ?_;refine nn<|lX<|mC<|iT<|iT<|mC<|iT ?_;exact mU () rfl (rv_tmp rfl) .nil e9 (bIw (bNq (cG g) (cG j) (of_decide_eq_false (by simpa using (by assumption:(!decide _)=true)))))
  have c:=bFi c;refine dS<|gX<|cZ<|bX<|sp hT ?_;refine bM (z':=(((i+1):Nat):Int)) (jG j5 j5) ?_;refine sp hT ?_;refine nn ?_;exact dB (i+1) j5 ⟨rfl,e9⟩ ⟨rfl,rfl,rfl,rfl,e9⟩ .nil ⟨f4 (⟨j5,bIg h.2 (cG g) (cG j) (of_decide_eq_true (by simpa using (by assumption:(!decide _)=false)))⟩),e9⟩ (bA.drop 1)
 have d:=Y8.1 (of_decide_eq_false d);refine oR<|lA<|lA<|oO<|cZ<|sr<|sp hT ?_;refine nn<|lX ?_;exact mU () rfl (rv_tmp rfl) .nil e9 (eqT_of (bPs h.2 p9 p9))
def sM:Flat RowV where
 size:=1
 cells:=λr=>[.pointer (some ⟨r.b,0,none⟩)]
 len:=λ_=>rfl
 one:=λx u hu=>by simp at hu;subst hu;rfl
 pos:=l4
def nJ (x:SpotV):bC:=(cR x.at_).and (cR x.size)
abbrev plBox(p m:Nat)(st:PSt):bD:= .obj p (.cells ([.slice st.J.O st.J.B.length st.J.cap,.slice st.fA st.rows.length st.fc,.int .i64 st.T,.map (some m)]:List Value).toArray 105)
abbrev plRow(st:PSt):bD:=sM.row (.slice st.fA st.rows.length st.fc) 284 st.rows
abbrev plMap(m:Nat)(st:PSt):bD:=bOv m .i64 (kvV st.kv)
abbrev plH(p m:Nat)(st:PSt):List bD:=plBox p m st::plRow st::plMap m st::famR st.rows
def yH (n:List Mono)(r:RowV):Bool:=match r.l[0]? with
 |some x=>decide (sz x=n)
 |none=>false
theorem bWb{n:List Mono}{r:RowV}{x:SpotV}(h:r.l[0]?=some x):yH n r=decide (sz x=n):=by unfold yH;rw[h]
theorem pick_none{n:List Mono}{r:RowV}(h:r.l.length=0):yH n r=false:=by unfold yH;rw[Y5 j5]
theorem bRc{α:Type}(p:α->Bool): ∀(l:List α) (i:Nat),(rO p l (i:Int)<0-> ∀x∈l,p x=false)/\(0<=rO p l (i:Int)-> ∃(k:Nat) (x:α),rO p l (i:Int)=((i+k:Nat):Int)/\l[k]?=some x/\p x=true)
 |[],i=>⟨λ_ x hx=>(by cases hx),λh=>absurd h (by show ¬(0:Int)<= -1;decide)⟩
 |s::r,i=>by
  have b:=bRc p r (i+1);have c:((i+1:Nat):Int)=(i:Int)+1:=j5
  rw[c]at b;unfold rO
  by_cases a:p s=true
  .rw[if_pos a];exact⟨λh=>by omega,λ_=>⟨0,s,m9,rfl,a⟩⟩
  .rw[if_neg a];refine⟨λh x hx=>?_,λh=>?_⟩
   .rcases F1.1 hx with rfl|hx
    .simpa using a
    .exact b.1 h x hx
   .obtain⟨k,x,h1,h2,h3⟩:=b.2 h;exact⟨k+1,x,by rw[h1];omega,h2,h3⟩
theorem idxG_at{α:Type}(p:α->Bool)(l:List α):(rO p l 0<0-> ∀x∈l,p x=false)/\(0<=rO p l 0-> ∃(k:Nat) (x:α),rO p l 0=(k:Nat)/\l[k]?=some x/\p x=true):=by
 have:=bRc p l 0
 simpa using this
theorem pick_no{n:List Mono}{l:List RowV}(h: ∀r∈l,yH n r=false): ∀(j:Nat) (r:RowV) (x:SpotV),l[j]?=some r->r.l[0]?=some x->sz x≠n:=λj r x a hx=>by
 have:=h r (f5 a);rw[bWb hx]at this
 simpa using this
theorem pick_yes{n:List Mono}{r:RowV}(h:yH n r=true): ∃x,r.l[0]?=some x/\sz x=n:=by
 unfold yH at h
 cases hx:r.l[0]? with
 |none=>rw[hx]at h;cases h
 |some x=>rw[hx]at h;exact⟨x,rfl,by simpa using h⟩
theorem pl_front(a p fr mp:bD)(fam:List bD):(a::p::fr::mp::fam).Perm ((a::fr::fam)++[p,mp]):=by refine List.Perm.cons a ?_;have h1:(p::fr::mp::fam).Perm (fr::p::mp::fam):=List.Perm.swap _ _ _;have h2:([p,mp]++fam).Perm (fam++[p,mp]):=eY;exact h1.trans (h2.cons fr)
def spotO:Option SpotV->Array Value
 |some x=>(fR.cells x).toArray
 |none=> #[.slice none 0 0,.slice none 0 0,.int .i64 0]
def TakeO (st:PSt)(pool:List SpotV)(s:PlC)(fs:List SpotV)(M:Nat)(n:List Mono):Option SpotV->Prop
 |none=>iG st pool s fs M/\s.free.findIdx? (λy=>decide (y.size=n))=none
 |some q=>q∈pool/\ ∃i,s.free[i]?=some q.c/\s.free.findIdx? (λy=>decide (y.size=n))=some i/\iG st pool {s with free:=s.free.eraseIdx i} fs M
theorem Sel.skip{H R:List bD}{c:bD}(h:Sel H R):Sel (c::H) R:=by
 induction h generalizing c with
 |nil=>exact .nil
 |cons h _ ih=>exact .cons (.tail h) ih
theorem Split.all: ∀{L:List bD},Split L L []
 |[]=> .nil
 |_::_=> .cons .head Split.all
theorem cJ.pre{ι:Type}{P:Program}{f:FuncId}{args:List Value}{Hin:List bD}{Pre Pre':List bC}{val:ι->Value}{Hout:ι->List bD}{post:ι->List bC}(h:cJ P f args Hin Pre val Hout post)(hp:bA Pre' Pre):cJ P f args Hin Pre' val Hout post:=λS w s k=>h S w s (bA.all hp S w k)
section
variable {β : dY} {n : Nat} {Γ : Env} {H H' : List bD} {F : List bC} {K : Act -> World -> Prop} {Q : Exit -> Act -> World -> Prop}
theorem fY(p:H.Perm H')(h:At β n Γ H' F K):At β n Γ H F K:=λa w S f s k=>h a w S f (s.perm p) k
theorem ptrInfo: ∃i:TypeInfo,prog.info? 284=some i/\i.zero=some (.pointer none)/\i.size=1/\i.bytes=8:=by
 have h:(prog.info? 284).map (λi=>(i.zero,i.size,i.bytes))=some (some (.pointer none),1,8):=j8
 cases a:prog.info? 284 with
 |none=>simp[a]at h
 |some i=>simp[a]at h;exact⟨i,rfl,h.1,h.2.1,h.2.2⟩
theorem at_one_ptr{ops:Array Oper}{rest:List Oper}{o:Oper}{d:Nat}{x:Operand}{m:RowV}(hw:want ops Γ o=some true)(ho:o.op= .buildSlice 103 1 #[(0,x)])(hd:o.dst=some d)(hn:C2 d n=true)
  (hx:Γ.ev x=some (.pointer (some ⟨m.b,0,none⟩))) (k: ∀b,At β n ((d,.slice (some ⟨b,0,none⟩) 1 1)::Γ) (.obj b (.cells (sM.all [m]).toArray 284)::H) F (wpList prog ops Q rest)):At β n Γ H F (wpList prog ops Q (o::rest)):=by
 obtain⟨i,e,a,c,_⟩:=ptrInfo;refine nX hw ho hd hn hx underlying103 e a j5 j5 ?_ k;rw[c]
 kernel_rfl
theorem at_app_ptr{ops:Array Oper}{rest:List Oper}{o:Oper}{d:Nat}{x y:Operand}{c q:Nat}{v:Value}{A:Option Addr}{xs ys:List RowV}{H':List bD}(hH:bZ H (sM.row v 284 xs) H')(hr:cF β H F sM A ys)(hg:o.guard=none)
  (ho:o.op= .call {callee:= .builtin .append,args:= #[x,y],argTypes:= #[103,103]}) (hd:o.dst=some d) (hn:C2 d n=true)
  (hx:Γ.ev x=some v) (hy:Γ.ev y=some (.slice A q c)) (hq:q=ys.length) (hl:xs.length+ys.length<=17592186044416)
  (k: ∀A' cap',At β n ((d,.slice A' (xs++ys).length cap')::Γ) (sM.row (.slice A' (xs++ys).length cap') 284 (xs++ys)::H') F (wpList prog ops Q rest)):At β n Γ H F (wpList prog ops Q (o::rest)):=by obtain⟨i,e,a,b,hb⟩:=ptrInfo;exact jS hH hr hg ho hd hn underlying103 e a b hb rfl hx hy hq j5 l4 k
theorem row_setP{rows:List RowV}{k:Nat}{r q:RowV}(v:Value)(h:rows[k]?=some r)(hb:q.b=r.b):sM.row v 284 (rows.set k q)=sM.row v 284 rows:=by
 have e:sM.all (rows.set k q)=sM.all rows:=by
  have e:sM.cells q=sM.cells r:=by show [Al (some ⟨q.b,0,none⟩)]=[Al (some ⟨r.b,0,none⟩)];rw[hb]
  unfold Flat.all;rw[Ac,Ac,List.map_set,e]
  congr 1
  have hx:(rows.map sM.cells)[k]?=some (sM.cells r):=by rw[F7,h];rfl
  obtain⟨hlt,a⟩:=G3.1 hx;rw[<-a];exact List.set_getElem_self hlt
 unfold Flat.row;rw[e,R0]
theorem bJi{p m k:Nat}{st:PSt}{r:RowV}{H:List bD}(q:RowV)(hk:st.rows[k]?=some r)(hb:q.b=r.b)(h:At β n Γ (H++plH p m {st with rows:=st.rows.set k q}) F K):At β n Γ (rowBox q::rowArr q::((H++[plBox p m st,plRow st,plMap m st])++famR (st.rows.take k++st.rows.drop (k+1)))) F K:=by
 refine fY (fam_back hk q _) ?_
 have e:H++plH p m {st with rows:=st.rows.set k q}=(H++[plBox p m st,plRow st,plMap m st])++famR (st.rows.set k q):=by
  show H++(plBox p m {st with rows:=st.rows.set k q}::plRow {st with rows:=st.rows.set k q}::plMap m {st with rows:=st.rows.set k q}::famR (st.rows.set k q))=_
  have c:plRow {st with rows:=st.rows.set k q}=plRow st:=by show sM.row (.slice st.fA (st.rows.set k q).length st.fc) _ (st.rows.set k q)=sM.row (.slice st.fA st.rows.length st.fc) _ st.rows;rw[row_setP _ hk hb,R0]
  have a:plBox p m {st with rows:=st.rows.set k q}=plBox p m st:=by show bD.obj _ _=bD.obj _ _;simp only[R0]
  rw[c,a];simp
 rw[<-e];exact h
theorem bNo{p m k:Nat}{st:PSt}{r:RowV}{H:List bD}(hk:st.rows[k]?=some r)(h:At β n Γ (rowBox r::rowArr r::((H++[plBox p m st,plRow st,plMap m st])++famR (st.rows.take k++st.rows.drop (k+1)))) F K):At β n Γ (H++plH p m st) F K:=by
 refine fY ?_ h;have e:H++plH p m st=(H++[plBox p m st,plRow st,plMap m st])++famR st.rows:=by simp
 rw[e];exact fam_out hk _
end
theorem at_in_row{β:dY}{n:Nat}{Γ:Env}{F:List bC}{K:Act->World->Prop}{p m k:Nat}{st:PSt}{r:RowV}{H:List bD}(hk:st.rows[k]?=some r)(h:At β n Γ (H++plH p m st) F K):At β n Γ (rowBox r::rowArr r::((H++[plBox p m st,plRow st,plMap m st])++famR (st.rows.take k++st.rows.drop (k+1)))) F K:=by
 refine fY ?_ h;have e:H++plH p m st=(H++[plBox p m st,plRow st,plMap m st])++famR st.rows:=by simp
 rw[e];exact(fam_out hk _).symm
theorem popR(r:RowV)(x:SpotV)(hok:RowOk r)(hx:r.l[0]?=some x)(hb:r.l.length<=100000000):cJ prog 166 [.iface 284 (.pointer (some ⟨r.b,0,none⟩))] [rowBox r,fR.held (.slice r.A r.l.length r.c) r.l] [] (λ(_:List SpotV)=> .iface 214 (.agg (fR.cells x).toArray)) (λm=>[rowBox ⟨r.b,r.A,m.length,true,m⟩,rowArr ⟨r.b,r.A,m.length,true,m⟩]) (λm=>[bC.pure (r.l.Perm (x::m)/\tB SpotV.T m)]):=by
 obtain⟨N,d⟩: ∃N,r.l.length=N+1:=⟨r.l.length-1,by have:=(G3.1 hx).1;omega⟩
 obtain⟨z,g⟩: ∃z,r.l[N]?=some z:=⟨_,G1 j5⟩
 have h:=HPop_spec r.A r.b r.c N r.l x z d (by have:=hok.2.1;omega) hx g hok.2.2.1 j5;rw[<-d]at h;intro S w s k;refine(h S w s k).mono ?_;rintro e n ⟨m,j,he,f,a⟩;have i:=a _ (F9 ..)
 have hl:m.length=N:=by have:=i.1.length_eq;simp at this;omega
 refine⟨m,j,he,?_,a⟩;subst hl;exact f
theorem pushR(r:RowV)(x:SpotV)(hok:RowOk r)(ha: ∀q∈r.l,q.T<=x.T)(hb:r.l.length<=100000000):cJ prog 168 [.iface 284 (.pointer (some ⟨r.b,0,none⟩)),.iface 214 (.agg (fR.cells x).toArray)] [rowBox r,rowArr r] [] (λ(_:Option Addr×Nat)=> .tuple #[])
  (λy=>[rowBox ⟨r.b,y.1,y.2,false,r.l++[x]⟩,rowArr ⟨r.b,y.1,y.2,false,r.l++[x]⟩]) (λy=>[bC.pure ((r.l++[x]).length<=y.2)]):=by
 cases a:r.full with
 |false=>
  rw[rowArr_room a];exact HPush_spec r.A r.b r.c r.l x ha hb
 |true=>
  rw[rowArr_full a];have d:=hok.1 a;have h:=HPushF_spec r.A r.b r.l x ha hb;unfold rowBox;rw[d];exact h
theorem spotsF_at{F:List bC}{pool:List SpotV}{x:SpotV}(h:Has F (bC.each pool nJ))(hx:x∈pool):Has F (cR x.at_):=λS w k=>(h S w k x hx).1
theorem spotsF_size{F:List bC}{pool:List SpotV}{x:SpotV}(h:Has F (bC.each pool nJ))(hx:x∈pool):Has F (cR x.size):=λS w k=>(h S w k x hx).2
theorem indexR_spec(A:Option Addr)(c:Nat)(l:List RowV)(hl:l.length<=140737488355328)(f:FuncId)(cap:List Value)(G:List bC)(p:RowV->Bool)(hcf: ∀(args:Array Value) (w:World),(callFunc f args).run prog w= .ok (.enter f args) w)(hf: ∀r∈l,cJ prog f (.pointer (some ⟨r.b,0,none⟩)::cap) [] G (λ_:Unit=> .bool (p r)) (λ_=>[]) (λ_=>[])):cJ prog 219 [.slice A l.length c,.func (.func f) #[] cap.toArray] [] (sM.sl (.slice A l.length c) l::G) (λ(_:Unit)=> j3 (rO p l 0)) (λ_=>[]) (λ_=>[]):=by
 have hT:=gF;generalize j:rO p l 0=r;refine j1 func219 ntmps219 ?_;intro β hM;refine g14 ?_;refine bT (ι:=Nat) [(0,_),(1,_),(7,_)] ⟨rfl,rfl,rfl,e9⟩ (λi=>[(8,.int .i64 (i:Nat))]) (λ_=>[]) (λi=>[bC.pure (i<=l.length/\r=rO p (l.drop i) i)]) (λi=>l.length-i) 0 ⟨rfl,e9⟩ .nil ⟨f4 (⟨j5,j.symm⟩),e9⟩ ?_;rintro i;refine bG d7 λa=>?_;refine g6 ?_;refine dO (λg=>?_) λg=>?_
 .refine g15 ?_;obtain⟨h,d⟩:=gx l i;refine ss (ixs i) ?_;refine ss (fV d 0) ?_;refine nF hcf (hf h (f5 d)) rfl rfl rfl rfl rfl rfl rfl .nil (bA.drop 2) λ_=>?_;refine g2 ?_;refine vN (λe=>?_) λe=>?_
  .refine g12 ?_;obtain rfl:=(pH a.2 d).1 ‹_›;exact rs1 () trivial
  refine g5 ?_;refine inc (i+1) ?_;refine g3 ?_;exact bk2 (i+1) ⟨f4 (⟨j5,(pH a.2 d).2 ‹_›⟩),e9⟩
 refine g11 ?_;have hr:=bGl a.2 j5;subst hr;exact rs1 () trivial
theorem rowOf1_spec(r:RowV)(sb:Nat)(size:PolV)(pool:List SpotV)(hin: ∀x∈r.l,x∈pool):cJ prog 220 [.pointer (some ⟨r.b,0,none⟩),.pointer (some ⟨sb,0,none⟩)] [] [bC.cells r.b 0 [.slice r.A r.l.length r.c],fR.sl (.slice r.A r.l.length r.c) r.l,bC.cells sb 0 [f9 size],cR size,bC.each pool nJ] (λ(_:Unit)=> .bool (yH size.B r)) (λ_=>[]) (λ_=>[]):=by
 have hT:=gF;refine j1 func220 ntmps220 ?_;intro β hM;refine g6 ?_;refine dK _ _ [j2,u1,u0,u2,u3,u4,u5,u6,u7,u9,A00,A01,A02,A25,A04,A05] dJ k7 .nil bA.self ?_;refine g2 ?_;refine stM rfl (f7 hT (bO (off:=0) d7)) ?_;refine g3 ?_;refine nO (λf=>?_) λf=>?_
 .refine g2 ?_;refine stM rfl (f7 hT (bO (off:=0) d7)) ?_;obtain⟨d,a⟩:=gx r.l 0;refine stM rfl (ixs 0) ?_;refine one ?_;refine stM rfl (fV a 1) ?_;refine stM rfl (f7 hT (bO (off:=0) d9)) ?_;refine one ?_;refine bK (cR d.size) (spotsF_size e7 (hin d (f5 a)))<|bG (dI d7) λe=>?_;refine bL func92 (bIy d.size size e) rfl rfl .nil ⟨fT d7,fT e7,e9⟩ λ_=>?_;refine g6 ?_;exact rs1 () e9 (he:=by rw[bWb a];rfl)
 refine g15 ?_;exact rs1 () e9 (he:=by rw[pick_none j5])
theorem bMc(pb mb:Nat)(st:PSt)(pool fs:List SpotV)(s:PlC)(M:Nat)(h:iG st pool s fs M)(hM:M<=90000000)(size:PolV):cJ prog 164 [.pointer (some ⟨pb,0,none⟩),f9 size] (plH pb mb st) [cR size,bC.each pool nJ] (λ(x:PSt×Nat×RowV)=> .pointer (some ⟨x.2.2.b,0,none⟩)) (λ(x:PSt×Nat×RowV)=>plH pb mb x.1) (λ(x:PSt×Nat×RowV)=>[bC.pure (iG x.1 pool s fs (M+1)/\Picked size.B x.1 x.2.1 x.2.2/\x.1.J=st.J/\x.1.T=st.T)]):=by
 have hT:=gF;refine j1 func164 ntmps164 ?_;intro β hM;refine g2 ?_;refine j0 λn=>?_;refine g10 ?_;refine fY (pl_front _ _ _ _ _) ?_;refine fS (bJ func219 rfl rfl) (indexR_spec st.fA st.fc st.rows (by have:=h.many;omega) 220 [.pointer (some ⟨n,0,none⟩)] [bC.each st.rows rowG,bC.cells n 0 [.slice size.O size.B.length size.cap],cR size,bC.each pool nJ] (yH size.B) (bJ func220 rfl rfl) (λr hr=>(rowOf1_spec r n size pool (λx hx=>by obtain⟨k,f⟩:=List.getElem?_of_mem hr;exact h.inPool f hx)).pre ⟨(Has.each d7 hr).left,(Has.each d7 hr).right,d8,d9,e6,e9⟩)) rfl rfl rfl rfl rfl .nil (Split.front _ _) (nS (nR (bTm _))) ⟨d8,d9,d7,e6,e7,e9⟩ (λ_=>True) (λ_ _ _ _=>trivial) λ_ _=>?_;refine fY (pl_front _ _ _ _ _).symm ?_;have c:=idxG_at (yH size.B) st.rows;generalize rO (yH size.B) st.rows 0=z at c⊢;refine g10 ?_;refine dO (λe=>?_) λe=>?_
 .refine g7 ?_;refine at_none_row rfl rfl rfl rfl λa=>?_;refine j0 λg=>?_;refine at_one_ptr (m:=(⟨g,some ⟨a,0,none⟩,0,false,[]⟩:RowV)) rfl rfl rfl rfl rfl λt=>?_;refine at_app_ptr kT5 (fD .head rfl) rfl rfl rfl rfl rfl rfl rfl (by have:=h.many;simp only[Ad];omega) λo c6=>?_;refine g12 ?_;refine bM (z':=((st.rows.length:Nat):Int)) (by rw[List.length_append,Ad,show((st.rows.length+1:Nat):Int)-1=(st.rows.length:Nat) by omega];exact jG rfl (by have:=h.many;omega)) ?_;refine g10 ?_;refine ss (bE hT (k:=st.rows.length) (bN kT1) rfl rfl rfl rfl rfl rfl rfl m9) ?_;refine ss (bI hT (cF.knows (bN kT1) (k:=st.rows.length) (x:=(⟨g,some ⟨a,0,none⟩,0,false,[]⟩:RowV)) m9 0) rfl rfl rfl rfl rfl) ?_;refine g4 ?_;have d:=picked_new (q:=(⟨g,some ⟨a,0,none⟩,0,false,[]⟩:RowV)) h rfl (pick_no (c.1 e)) o c6 rfl;refine rD (.c0 (.c0 (.c4 (.c1 (.c1 (Sel.skip (Sel.skip Sel.self))))))) ?_;refine fY ((((fam_new (⟨g,some ⟨a,0,none⟩,0,false,[]⟩:RowV) []).cons _).cons _).cons _) ?_;exact mU (_,st.rows.length,(⟨g,some ⟨a,0,none⟩,0,false,[]⟩:RowV)) rfl (rv_tmp rfl) Sel.self ⟨f4 ⟨d.1,d.2,rfl,rfl⟩,e9⟩ rfl
 obtain⟨k,r,i,f,hpk⟩:=c.2 j5;refine g9 ?_;refine ss (bE hT (k:=k) (bN kT2) rfl rfl rfl rfl rfl rfl i ((G3.1 f).1)) ?_;refine ss (fV f 0) ?_;refine g4 ?_;obtain⟨p,j,l⟩:=pick_yes hpk;exact mU (st,k,r) rfl (rv_tmp rfl) (.c1 (.c1 (.c1 (Sel.skip Sel.self)))) ⟨f4 ⟨h.more j5,picked_old h f j l,rfl,rfl⟩,e9⟩ rfl
theorem wE:prog.built 214 []=some #[.slice none 0 0,.slice none 0 0,j3 0]:=j8
theorem take_spec(pb mb:Nat)(st:PSt)(pool fs:List SpotV)(s:PlC)(M:Nat)(h:iG st pool s fs M)(hM:M<=80000000)(size:PolV):cJ prog 95 [.pointer (some ⟨pb,0,none⟩),f9 size] (plH pb mb st) [cR size,bC.each pool nJ] (λ(x:PSt×List SpotV×Option SpotV)=> .tuple #[.agg (spotO x.2.2),.bool x.2.2.isSome]) (λ(x:PSt×List SpotV×Option SpotV)=>plH pb mb x.1) (λ(x:PSt×List SpotV×Option SpotV)=>[bC.pure (TakeO x.1 pool s x.2.1 (M+1) size.B x.2.2/\x.1.J=st.J/\x.1.T=st.T)]):=by
 have hT:=gF;refine j1 func95 ntmps95 ?_;intro β hM;refine g2 ?_;refine i7 xI λp=>?_;refine g7 ?_;refine fY (eY (l₁:=[_])) ?_;refine bL func164 (bMc pb mb st pool fs s M h j5 size) rfl rfl (Split.front _ _) ⟨d7,d8,e9⟩ λy2=>?_;refine fY eY ?_;refine bG d7 λa=>?_;refine bNo (H:=[_]) a.2.1.at_ ?_;refine g9 ?_;refine bL func165 (bGb y2.2.2.A y2.2.2.l.length y2.2.2.c) rfl rfl .nil e9 λ_=>?_;refine g3 ?_;refine jU (λg=>?_) λg=>?_
 .refine g2 ?_;refine ss (bY rfl rfl (wE)) ?_;refine g6 ?_;have k:y2.2.2.l=[]:=P8 j5;refine rD (.c1 (.c1 (.c0 (.c0 (.c0 (.cons .head Sel.self)))))) ?_;refine at_in_row (H:=[_]) a.2.1.at_ ?_;exact lK (y2.1,fs,none) rfl (rR hT (sS .head) rfl rfl rfl rfl) (rv_tmp rfl) (.c1 (.c1 (.c1 (Sel.skip Sel.self)))) ⟨f4 ⟨⟨a.1,picked_none a.1 a.2.1 k⟩,a.2.2⟩,e9⟩ rfl
 refine g5 ?_;refine ss (zI rfl underlying284 (λ_ e=>by cases e) rfl) ?_;have m:=a.1.ok _ _ a.2.1.at_;obtain⟨x,hx⟩:=gx y2.2.2.l 0;refine at_arr_held kT1 ?_;refine bL func166 (popR y2.2.2 x m hx (by have:=a.1.rlen a.2.1.at_;omega)) rfl rfl (.c1 (.c0 .nil)) e9 λj=>?_;refine bG d7 λd=>?_;refine ss (bDz rfl underlying214 (λ_ e=>by cases e) rfl) ?_;refine g5 ?_;obtain⟨i,o,n,f⟩:=rel_take (q:=⟨y2.2.2.b,y2.2.2.A,j.length,true,j⟩) a.1 a.2.1 hx d.1 d.2 rfl;refine rD (.c1 (.c1 (.c0 (.c0 (.c0 (.cons .head Sel.self)))))) ?_;refine bJi (H:=[_]) ⟨y2.2.2.b,y2.2.2.A,j.length,true,j⟩ a.2.1.at_ rfl ?_;exact lK (_,fs.eraseIdx i,some x) rfl (rR hT (sS .head) rfl rfl rfl rfl) (rv_tmp rfl) (.c1 (.c1 (.c1 (Sel.skip Sel.self)))) ⟨f4 ⟨⟨a.1.inPool a.2.1.at_ (f5 hx),i,o,n,f⟩,a.2.2⟩,e9⟩ rfl
theorem give_spec(pb mb:Nat)(st:PSt)(pool fs:List SpotV)(s:PlC)(M:Nat)(h:iG st pool s fs M)(hM:M<=80000000)(x:SpotV)(hx:x∈pool)(hne:sz x≠[]):cJ prog 97 [.pointer (some ⟨pb,0,none⟩),.agg #[f9 x.at_,f9 x.size,j3 x.T]] (plH pb mb st) [bC.each pool nJ] (λ(_:PSt)=> .tuple #[]) (λ(y:PSt)=>plH pb mb y) (λ(y:PSt)=>[bC.each ((⟨x.at_,x.size,st.T+1⟩:SpotV)::pool) nJ,bC.pure (iG y ((⟨x.at_,x.size,st.T+1⟩:SpotV)::pool) {s with free:=s.free++[x.c]} (fs++[(⟨x.at_,x.size,st.T+1⟩:SpotV)]) (M+3)/\y.J=st.J)]):=by
 have hT:=gF;have n:=h.low;have m:=h.high;refine j1 func97 ntmps97 ?_;intro β hM;refine cH ?_;have d: ∀f∈fs,f.T<st.T+1:=λf o=>by have:=h.top f o;omega
 refine one ?_;refine j0 λp=>?_;refine g9 ?_;refine bM (jO j5 j5) ?_;refine g15 ?_;refine dK _ _ [j2,u1,u0,u4,u5,(false,3),u3,A16] dJ k7 (.c0 .nil) bA.self ?_;refine g4 ?_;refine stM rfl (zI rfl underlying214 (λ_ e=>by cases e) rfl) ?_;refine one ?_;refine fY (eY (l₁:=[_])) ?_;refine bL func164 (bMc pb mb ({st with T:=st.T+1}:PSt) pool fs s (M+1) h.later j5 x.size) rfl rfl (Split.front _ _) ⟨spotsF_size d7 hx,d7,e9⟩ λy2=>?_;refine fY eY ?_;refine bG d7 λa=>?_;refine bNo (H:=[_]) a.2.1.at_ ?_;refine one ?_;refine stM rfl (zI rfl underlying284 (λ_ e=>by cases e) rfl) ?_;refine one ?_;have k:=a.1.ok _ _ a.2.1.at_;refine bL func168 (pushR y2.2.2 (⟨x.at_,x.size,st.T+1⟩:SpotV) k (λq hq=>Int.le_of_lt (d q (a.1.mem a.2.1.at_ hq))) (by have:=a.1.rlen a.2.1.at_;omega)) rfl rfl (.c0 (.c0 .nil)) e9 λi=>?_;refine bG d7 λj=>?_;refine g2 ?_;refine bJi (H:=[_]) ⟨y2.2.2.b,i.1,i.2,false,y2.2.2.l++[(⟨x.at_,x.size,st.T+1⟩:SpotV)]⟩ a.2.1.at_ rfl ?_;have g:=rel_give (q:=⟨y2.2.2.b,i.1,i.2,false,y2.2.2.l++[(⟨x.at_,x.size,st.T+1⟩:SpotV)]⟩) (x:=(⟨x.at_,x.size,st.T+1⟩:SpotV)) (a.1.wide (⟨x.at_,x.size,st.T+1⟩:SpotV)) ⟨a.2.1.at_,a.2.1.all,a.2.1.rest⟩ hne rfl rfl j a.2.2.2.symm d (F9 ..);refine bK (bC.each ((⟨x.at_,x.size,st.T+1⟩:SpotV)::pool) nJ) (Has.each_cons (Has.and (spotsF_at (x:=x) d9 hx) (spotsF_size (x:=x) d9 hx)) d9) ?_;exact dE _ rfl (.c1 (.c1 (.c1 (Sel.skip Sel.self)))) ⟨d7,f4 ⟨g.more j5,a.2.2.1⟩,e9⟩ (rfl)
open Go.ChangeMaps (setBlock)
def bKz (k:Int):KV->KV
 |[]=>[]
 |p::r=>if k==p.1 then r else p::bKz k r
theorem md_mape{α β:Type}(f:α->β): ∀(l:List α) (i:Nat),(l.eraseIdx i).map f=(l.map f).eraseIdx i
 |[],_=>rfl
 |_::_,0=>rfl
 |x::l,i+1=>by simp[md_mape f l i]
theorem bQt{k:Int}: ∀{kv:KV} {i:Nat},sI k kv i=none->bKz k kv=kv
 |[],_,_=>rfl
 |p::r,i,h=>by
  unfold sI at h;unfold bKz;split at h
  .cases h
  .rename_i a;rw[if_neg a,bQt h]
theorem bQj{k:Int}{j:Nat}{u:Value}: ∀{kv:KV} {i:Nat},sI k kv i=some (j,u)-> ∃d,j=i+d/\bKz k kv=kv.eraseIdx d
 |[],_,h=>by cases h
 |p::r,i,h=>by
  unfold sI at h;split at h
  .rename_i a;simp only[Option.some.injEq,Prod.mk.injEq]at h;exact⟨0,j5,by simp[bKz,a]⟩
  .rename_i a;obtain⟨d,h1,h2⟩:=bQj h;exact⟨d+1,j5,by rw[bKz,if_neg a,h2];rfl⟩
section
variable {P : Program} {kk : IntKind} {k : Int} {w : World} {t kt et : TypeId}
theorem bRu(ht:P.underlying t=some (.map kt et))(hk:P.underlying kt=some (.int kk)){z:Value}(hz:(zeroValue et).run P w= .ok z w){r:Nat}{kv:KV}(h:MapO kk kv (w.heap[r]?)):
  (Instr.lookup t (.map (some r)) (.int kk k) true).run P w= .ok (.tuple #[(bPk k kv).getD z,.bool (bPk k kv).isSome]) w:=by
 obtain⟨c,b,hb,a⟩:=h;unfold Instr.lookup;simp only[J0,run_underlying ht,J6,T5 hb,Sem.run_pure,oI hk,qT hk a];rw[<-find_get k kv 0]
 cases sI k kv 0 with
 |none=>simp[hz]
 |some p=>simp
theorem run_deleteI(ht:P.underlying t=some (.map kt et))(hk:P.underlying kt=some (.int kk)){r:Nat}{kv:KV}{kt2 ty:TypeId}(h:MapO kk kv (w.heap[r]?)):
  ∃o,(P1 #[t,kt2] ty #[.map (some r),.int kk k]).run P w= .ok (.tuple #[]) (setBlock w r o)/\MapO kk (bKz k kv) ((setBlock w r o).heap[r]?):=by
 obtain⟨f,a,hb,b⟩:=h
 cases c:sI k kv 0 with
 |none=>
  refine⟨.map f a,?_,⟨_,_,ChangeMaps.heap_setBlock_same hb _,?_⟩⟩
  .unfold P1;simp only[Ae,Af,W4,J0,run_underlying ht,J6,T5 hb,oI hk,qT hk b,c];rw[T6 _ hb];simp[setBlock]
  .rw[bQt c];exact b
 |some p=>
  obtain⟨j,u⟩:=p;obtain⟨d,h1,h2⟩:=bQj c;obtain rfl:j=d:=j5
  refine⟨.map (f.eraseIdxIfInBounds j) a,?_,⟨_,_,ChangeMaps.heap_setBlock_same hb _,?_⟩⟩
  .unfold P1;simp only[Ae,Af,W4,J0,run_underlying ht,J6,T5 hb,oI hk,qT hk b,c];rw[T6 _ hb];simp[setBlock]
  .rw[h2];have e:(f.eraseIdxIfInBounds j).toList=f.toList.eraseIdx j:=by simp
   rw[e,md_mape,b];unfold kvI;rw[md_mape]
end
section
variable {P : Program} {β : dY} {n : Nat} {Γ : Env} {H : List bD} {F : List bC} {Q : Exit -> Act -> World -> Prop} {K : Act -> World -> Prop} {ops : Array Oper} {rest : List Oper} {o : Oper}
theorem mT{r:Nat}{kk:IntKind}{kv:KV}{t kt et:TypeId}{m x:Operand}{k:Int}{z v:Value}(hkm:KnowsMap β H F r kk kv)(ho:o.op= .lookup t m x true)(ht:P.underlying t=some (.map kt et))(hk:P.underlying kt=some (.int kk))(hz: ∀w,(zeroValue et).run P w= .ok z w)
  (hm:Γ.ev m=some (.map (some r))) (hx:Γ.ev x=some (.int kk k)) (hv:(.tuple #[(bPk k kv).getD z,.bool (bPk k kv).isSome]:Value)=v):Sti P β n Γ H F o v:=λa w S f s b=>by have:=bRu (k:=k) ht hk (hz w) (hkm w S s b);unfold execOp;simp only[ho,f.ev hm,f.ev hx];rw[J0,this,hv];rfl
theorem bSz{r:Nat}{kk:IntKind}{kv:KV}{H':List bD}(hH:bZ H (bOv r kk kv) H'){t kt et kt2:TypeId}{m x:Operand}{k:Int}(hw:want ops Γ o=some true)(ho:o.op= .call {callee:= .builtin .delete,args:= #[m,x],argTypes:= #[t,kt2]})(hd:o.dst=none)(ht:P.underlying t=some (.map kt et))(hk:P.underlying kt=some (.int kk))
  (hm:Γ.ev m=some (.map (some r))) (hx:Γ.ev x=some (.int kk k)) (K':At β n Γ (bOv r kk (bKz k kv)::H') F (wpList P ops Q rest)):At β n Γ H F (wpList P ops Q (o::rest)):=
 gR hw λa w S f s l=>by
  have d:MapO kk kv (w.heap[r]?):=s.ok _ hH.mem;obtain⟨ob,b,g⟩:=run_deleteI (k:=k) (kt2:=kt2) (ty:=o.type) ht hk d
  have hr:(execOp a.eval o).run P w= .ok (.value (.tuple #[])) (setBlock w r ob):=by unfold execOp;simp only[ho,resolve,invoke,builtin,J0,Sem.run_pure,J6,List.map_toArray,List.map_cons,List.map_nil,f.ev hm,f.ev hx,b]
  unfold Oper.wp;rw[hr,Oper.upon_value,hd];have i:=s.perm hH.perm;exact K' _ _ S (f.put_none _) (i.swap jR rfl rfl g) (All.mono (λ_ h=>h) (s.agree jR (λc j e=>by subst e;exact(i.own _ (F9 ..) _ rfl).2.2 j)) l)
end
end
section
open Go.RowKit Go.Proofs.Tryz
def oneK (i:Int)(y:LifeC)(k:Nat)(s:PlC):PlC:=match (s.laid[k]?).bind id with
 |some q=>if y.za<i then {s with laid:=s.laid.set k none,free:=if q.size=[]then s.free else s.free++[q]}else s
 |none=>s
def relK (i:Int)(l:List LifeC)(s:PlC):Nat->PlC
 |0=>s
 |k+1=>match l[k]? with
  |some y=>oneK i y k (relK i l s k)
  |none=>relK i l s k
theorem bAs(i:Int): ∀(ys:List LifeC) (r:List (Option SpC)),(relGo i ys r).1.length=r.length
 |[],l=>rfl
 |y::ys,[]=>by simp[relGo]
 |y::ys,none::r=>by simp[relGo,bAs i ys r]
 |y::ys,some q::r=>by have:=bAs i ys r;simp only[relGo];split<;>simp[this]
theorem bRj(i:Int)(y:LifeC)(o:Option SpC): ∀(ys:List LifeC) (r:List (Option SpC)),ys.length=r.length->relGo i (ys++[y]) (r++[o])=
  match o with
  |some q=>if y.za<i then ((relGo i ys r).1++[none],(relGo i ys r).2++(if q.size=[]then []else [q]))else ((relGo i ys r).1++[some q],(relGo i ys r).2)
  |none=>((relGo i ys r).1++[none],(relGo i ys r).2)
 |[],[],_=>by
  cases o with
  |none=>simp[relGo]
  |some q=>
   by_cases h:y.za<i
   .by_cases h2:q.size=[]<;>simp[relGo,h,h2]
   .simp[relGo,h]
 |[],_::_,h=>by simp at h
 |_::_,[],h=>by simp at h
 |z::ys,p::r,h=>by
  have a:=bRj i y o ys r ab6
  cases p with
  |none=>
   simp only[Ag,relGo,a]
   cases o with
   |none=>rfl
   |some q=>by_cases h1:y.za<i<;>simp[h1]
  |some p=>
   simp only[Ag,relGo,a]
   cases o with
   |none=>
    by_cases h2:z.za<i
    .simp only[h2,if_true]
     by_cases h3:p.size=[]<;>simp[h3]
    .simp[h2]
   |some q=>
    by_cases h1:y.za<i<;>by_cases h2:z.za<i<;>by_cases h3:p.size=[]<;>by_cases h4:q.size=[]<;>simp[h1,h2,h3,h4]
theorem relK_at(i:Int)(l:List LifeC)(s:PlC)(hl:l.length=s.laid.length): ∀k,k<=l.length->relK i l s k={s with laid:=(relGo i (l.take k) (s.laid.take k)).1++s.laid.drop k,free:=s.free++(relGo i (l.take k) (s.laid.take k)).2}
 |0,_=>by simp[relK,relGo]
 |k+1,h=>by
  have j:=relK_at i l s hl k j5
  obtain⟨y,f⟩: ∃y,l[k]?=some y:=⟨_,G1 j5⟩
  obtain⟨o,ho⟩: ∃o,s.laid[k]?=some o:=⟨_,G1 j5⟩
  have n:l.take (k+1)=l.take k++[y]:=by rw[G7,f];rfl
  have m:s.laid.take (k+1)=s.laid.take k++[o]:=by rw[G7,ho];rfl
  have c:s.laid.drop k=o::s.laid.drop (k+1):=by obtain⟨hlt,e⟩:=G3.1 ho;rw[<-e,aH hlt]
  have a:((relGo i (l.take k) (s.laid.take k)).1).length=k:=by rw[bAs];simp;omega
  rw[n,m,bRj i y o _ _ o6];simp only[relK,f];rw[j];generalize relGo i (l.take k) (s.laid.take k)=g at a
  have d:(g.1++s.laid.drop k)[k]?=some o:=by rw[List.getElem?_append_right j5,a,Aj,c];rfl
  have b: ∀z,(g.1++s.laid.drop k).set k z=g.1++z::s.laid.drop (k+1):=λz=>by rw[List.set_append_right _ _ j5,a,Aj,c];rfl
  unfold oneK;simp only[d,Option.bind_some,id]
  cases o with
  |none=>simp[c]
  |some q=>
   by_cases h1:y.za<i
   .simp only[h1,if_true,b]
    by_cases h2:q.size=[]<;>simp[h2]
   .simp[h1,c]
theorem relK_eq(i:Int)(l:List LifeC)(s:PlC)(hl:l.length=s.laid.length):relK i l s l.length=relC i l s:=by rw[relK_at i l s hl _ (Nat.le_refl _),Ah,hl,Ah,List.drop_length,R2];rfl
theorem relK_len(i:Int)(l:List LifeC)(s:PlC): ∀k,(relK i l s k).laid.length=s.laid.length
 |0=>rfl
 |k+1=>by
  have a:=relK_len i l s k;unfold relK;split
  .unfold oneK;split
   .split
    .show(((relK i l s k).laid).set k none).length=_;rw[R0,a]
    .exact a
   .exact a
  .exact a
theorem bCz{f:FuncId}{args:List Value}{Pre:List bC}{r:List Mono×Int}(hl:r.1.length<=8796093022208)(h: ∀S w,(∀b,S b->b<w.heap.size)->All Pre S w->Calls prog f args.toArray w (bKj w r)):
  cJ prog f args [] Pre (λx:Option Addr×Nat=> .tuple #[.slice x.1 r.1.length x.2,j3 r.2]) (λ_=>[]) (λx=>[cR ⟨x.1,x.2,r.1⟩]):=λS w s k=>by
 refine(h S w (λb hb=>(s.zb b hb).1) k).mono ?_;intro e p hg;obtain⟨v,rfl,hb,A,c,rfl,hr⟩:=hg;refine⟨(A,c),λb=>S b\/(w.heap.size<=b/\b<p.heap.size),rfl,⟨pV.of_below _ hb,λc i=>by simp at i,λc i=>by simp at i,List.Pairwise.nil,λb j=>?_⟩,All.cons ⟨?_,hl⟩ (λg hg=>by simp at hg)⟩
 .rcases j with h|h
  .exact⟨Nat.lt_of_lt_of_le (s.zb b h).1 hb.size,.inl h⟩
  .exact⟨h.2,.inr (.inr h.1)⟩
 .rcases hr with hr|⟨g,rfl,hg,hr⟩
  .exact⟨A,c,rfl,λk m d=>by
    have hr:r.1=[]:=hr
    simp[hr]at d⟩
  .have q:=hr.monos;obtain⟨z,y,e,h⟩:=sl_of (c:=c) q;injection e with a n l
   subst a;refine⟨_,c,rfl,λk m d=>?_⟩;obtain⟨b,o,u,a,n,l,t⟩:=h k m d;injection a with a
   injection a with a e5
   subst a;exact⟨_,o,u,by rw[e5],.inr ⟨hg,n⟩,l,t⟩
theorem wL{p:List Mono}(h:cK p=true):p.length<=48:=by simp only[cK,L9,decide_eq_true_eq]at h;exact h.1
theorem bFm(L:List Mono):cK (gV L).1=true/\((gV L).2≠0->(gV L).1=[]):=by
 unfold gV;split
 .rename_i h;exact⟨h,λh=>absurd rfl h⟩
 .exact⟨rfl,λ_=>rfl⟩
theorem bPq(p q:List Mono)(s:Int):cK (bothP p q s).1=true:=by
 unfold bothP;split
 .exact(bFm _).1
 .rfl
theorem bUj(p q:List Mono):cK (nD p q).1=true:=by
 unfold nD;split
 .exact(bFm _).1
 .rfl
theorem const_right(n:Int):cK (kC n).1=true:=by
 unfold kC;split
 .rfl
 .split
  .rfl
  .rename_i h0 h1;simp only[not_or,Y8]at h1;simp[cK,fG,bRz,hJ,h0,Mono.deg,h1]
section
variable (p q : PolV)
theorem add_spec(hp:p.B.length<=140737488355328)(hq:q.B.length<=140737488355328):cJ prog 96 [f9 p,f9 q] [] [cR p,cR q] (λx:Option Addr×Nat=> .tuple #[.slice x.1 (bothP p.B q.B 1).1.length x.2,j3 (bothP p.B q.B 1).2]) (λ_=>[]) (λx=>[cR ⟨x.1,x.2,(bothP p.B q.B 1).1⟩]):=
 bCz (C0 (wL (bPq _ _ _)) l4) λ_ w a h=>add_any _ _ _ _ _ _ w (lE a (h _ (.head _))) (lE a (h _ (.tail _ (.head _)))) hp hq
theorem mul_spec(hp:p.B.length<=140737488355328)(hq:q.B.length<=140737488355328):cJ prog 94 [f9 p,f9 q] [] [cR p,cR q] (λx:Option Addr×Nat=> .tuple #[.slice x.1 (nD p.B q.B).1.length x.2,j3 (nD p.B q.B).2]) (λ_=>[]) (λx=>[cR ⟨x.1,x.2,(nD p.B q.B).1⟩]):=
 bCz (C0 (wL (bUj _ _)) l4) λ_ w a h=>mul_any _ _ _ _ _ _ w (lE a (h _ (.head _))) (lE a (h _ (.tail _ (.head _)))) hp hq
theorem const_spec(n:Int):cJ prog 93 [j3 n] [] [] (λx:Option Addr×Nat=> .tuple #[.slice x.1 (kC n).1.length x.2,j3 (kC n).2]) (λ_=>[]) (λx=>[cR ⟨x.1,x.2,(kC n).1⟩]):=
 bCz (C0 (wL (const_right n)) l4) λ_ w _ _=>const_any n w
end
section
variable {R : Option (List Mono)} {l : List (List Mono)} {n p : List Mono} {i : Nat}
theorem size_ok'(h:R=oY (l.drop i) n)(hx:l[i]?=some p)(he:(nD n p).2=0):R=oY (l.drop (i+1)) (nD n p).1:=by obtain⟨hlt,e⟩:=G3.1 hx;rw[h,<-aH hlt,e,oY,if_pos he]
theorem bUp(h:R=oY (l.drop i) n)(hx:l[i]?=some p)(he:(nD n p).2≠0):R=none:=by obtain⟨hlt,e⟩:=G3.1 hx;rw[h,<-aH hlt,e,oY,if_neg he]
theorem tV(h:R=oY (l.drop i) n)(hi:l.length<=i):R=some n:=by rw[h,U8 hi,oY]
end
section
variable {sides : List (List Mono)} {b i : Nat} {again : Bool} {s : PlC} {n : List Mono} {q : SpC}
theorem bMl(h:sizeC sides=none):layC sides b again s=none:=by unfold layC;rw[h]
theorem lay_take(h:sizeC sides=some n)(ha:again=true)(hn:n≠[])(hi:s.free.findIdx? (λy=>decide (y.size=n))=some i)(hq:s.free[i]?=some q):layC sides b again s=some {s with free:=s.free.eraseIdx i,laid:=s.laid.set b (some q),Y:=s.Y.set b q.at_}:=by unfold layC oC;rw[h];simp only[ha,hn,ne_eq,not_false_eq_true,and_self,if_true,hi,hq]
theorem bIo(hf:again=false\/s.free.findIdx? (λy=>decide (y.size=n))=none):oC n again s.free=none:=by
 unfold oC
 rcases hf with hf|hf
 .rw[if_neg (by simp[hf])]
 .split
  .rw[hf]
  .rfl
theorem lay_new(h:sizeC sides=some n)(hf:again=false\/s.free.findIdx? (λy=>decide (y.size=n))=none)(he:(bothP s.J n 1).2=0):layC sides b again s=some {s with J:=(bothP s.J n 1).1,laid:=s.laid.set b (some ⟨s.J,n⟩),Y:=s.Y.set b s.J}:=by unfold layC;rw[h];simp only[bIo hf,he,if_true]
theorem bVc(h:sizeC sides=some n)(hf:again=false\/s.free.findIdx? (λy=>decide (y.size=n))=none)(he:(bothP s.J n 1).2≠0):layC sides b again s=none:=by unfold layC;rw[h];simp only[bIo hf,he,if_false]
end
section
variable {st : PSt} {pool fs : List SpotV} {s : PlC} {M i : Nat} {x : SpotV} {n : List Mono}
theorem iG.ne(h:iG st pool s fs M)(hx:x∈fs):sz x≠[]:=by obtain⟨k,r,a,hr⟩:=bGh.1 (h.flat.mem_iff.2 hx);exact(h.ok k r a).2.2.2.2 x hr
theorem iG.free_ne(h:iG st pool s fs M){q:SpC}(hi:s.free.findIdx? (λy=>decide (y.size=n))=some i)(hq:s.free[i]?=some q):n≠[]:=by
 have h1:=List.findIdx?_eq_some_iff_getElem.1 hi;obtain⟨hlt,b,_⟩:=h1;obtain⟨_,e⟩:=G3.1 hq;rw[e]at b;have hn:q.size=n:=by simpa using b
 have d:q∈fs.map SpotV.c:=by rw[h.free];exact eN hq
 obtain⟨x,hx,a⟩:=List.mem_map.1 d;have:=h.ne hx;rw[<-hn,<-a];exact this
theorem rel_new(h:iG st pool s fs M)(b:Nat)(hb:b<s.laid.length)(n e:PolV)(he:e.B=(bothP s.J n.B 1).1):iG {st with kv:=setS b ⟨st.J,n,0⟩ st.kv,J:=e} (⟨st.J,n,0⟩::pool) {s with J:=(bothP s.J n.B 1).1,laid:=s.laid.set b (some ⟨s.J,n.B⟩),Y:=s.Y.set b s.J} fs M:=by
 have h1:=rel_end (rel_laid (h.wide ⟨st.J,n,0⟩) b hb (F9 ..) (s.Y.set b s.J)) e _ he
 have a:(⟨st.J,n,0⟩:SpotV).c=⟨s.J,n.B⟩:=by show SpC.mk st.J.B n.B=_;rw[h.J]
 rw[a]at h1;exact h1
end
section
variable {P : Program} {β : dY} {n : Nat} {Γ : Env} {H : List bD} {F : List bC} {Q : Exit -> Act -> World -> Prop}
theorem bRp{ι:Type}{c:Code}(Δ:Env)(hΔ:Γ.Sub Δ)(G:ι->Env)(HH:ι->List bD)(FF:ι->List bC)(μ:ι->Nat)(x0:ι)(hG:Γ.Sub (G x0))(hH:H.Perm (HH x0))(hF:bA F (FF x0))
  (round: ∀x,At β n (G x++Δ) (HH x) (FF x++F) (c.wp P (Exit.then (Back β n (λx=>G x++Δ) HH (λx=>FF x++F) μ (μ x)) Q))):At β n Γ H F ((Code.loop c).wp P Q):=
 fY hH (rU (λx=>G x++Δ) HH (λx=>FF x++F) μ x0 (hG.append hΔ) Sel.self (hF.append bA.self) round)
theorem qM{ι:Type}{G:ι->Env}{Δ:Env}{HH:ι->List bD}{FF:ι->List bC}{F0:List bC}{μ:ι->Nat}{m:Nat}(x:ι)(hμ:μ x<m)(hG:Γ.Sub (G x))(hΔ:Γ.Sub Δ)(hH:H.Perm (HH x))(hF:bA F (FF x))(hF0:bA F F0):
  At β n Γ H F (Back β n (λx=>G x++Δ) HH (λx=>FF x++F0) μ m):=
 fY hH (qL (G:=λx=>G x++Δ) (FF:=λx=>FF x++F0) x hμ (hG.append hΔ) Sel.self (hF.append hF0))
end
section
variable {st : PSt} {pool fs : List SpotV} {s : PlC} {M b : Nat} {i : Int} {y : LifeC} {q : SpotV}
theorem one_none(h:iG st pool s fs M)(hg:tE b st.kv=none):oneK i y b s=s:=by have:=h.laid b;rw[hg]at this;unfold oneK;rw[<-this];rfl
theorem one_stay(h:iG st pool s fs M)(hg:tE b st.kv=some q)(hi: ¬y.za<i):oneK i y b s=s:=by have:=h.laid b;rw[hg]at this;unfold oneK;rw[<-this];simp only[N5];rw[if_neg hi]
theorem one_gone(h:iG st pool s fs M)(hg:tE b st.kv=some q)(hi:y.za<i):oneK i y b s={s with laid:=s.laid.set b none,free:=if sz q=[]then s.free else s.free++[q.c]}:=by have:=h.laid b;rw[hg]at this;unfold oneK;rw[<-this];simp only[N5];rw[if_pos hi];rfl
theorem iE{ls:List LifeC}{k:Nat}(h:ls[k]?=some y):relK i ls s (k+1)=oneK i y k (relK i ls s k):=by
 show(match ls[k]? with|some y=>oneK i y k (relK i ls s k)|none=>relK i ls s k)=_;rw[h]
theorem lc_at{l:List dX}{k:Nat}{u:dX}(h:l[k]?=some u):(lc l)[k]?=some u.c:=by show(l.map dX.c)[k]?=_;rw[F7,h];rfl
end
theorem delS_V(k:Int): ∀kv,bKz k (kvV kv)=kvV (delS k kv)
 |[]=>rfl
 |p::r=>by
  show(if k==p.1 then kvV r else (p.1,spV p.2)::bKz k (kvV r))=_;unfold delS;split
  .rfl
  .rw[delS_V k r];rfl
theorem spotZero(w:World):(zeroValue 214).run prog w= .ok (.agg #[.slice none 0 0,.slice none 0 0,j3 0]) w:=by obtain⟨i,b,a,_⟩:=zO;simp[zeroValue,typeInfo,b,a]
theorem oG(a0:Option Addr)(l0 c0:Nat)(a1:Option Addr)(l1 c1:Nat):prog.built 214 [(0,.slice a0 l0 c0),(1,.slice a1 l1 c1)]=some #[.slice a0 l0 c0,.slice a1 l1 c1,j3 0]:=j8
theorem lay_spec(pb mb:Nat)(st:PSt)(pool fs:List SpotV)(s:PlC)(M:Nat)(h:iG st pool s fs M)(hM:M<=70000000)(b:Nat)(hb:b<s.laid.length)(sides:Sl PolV)(again:Bool):cJ prog 40 [.pointer (some ⟨pb,0,none⟩),j3 (b:Nat),f9 sides,.bool again] (plH pb mb st) [cR st.J,bC.each pool nJ,nL sides] (λ(x:PSt×List SpotV×List SpotV×PolV)=> .tuple #[f9 x.2.2.2,j3 (if (layC (polsL sides.B) b again s).isSome then 0 else 140)]) (λ(x:PSt×List SpotV×List SpotV×PolV)=>plH pb mb x.1) (λ(x:PSt×List SpotV×List SpotV×PolV)=>[cR x.1.J,bC.each x.2.1 nJ,cR x.2.2.2,bC.pure (∀s',layC (polsL sides.B) b again s=some s'->iG x.1 x.2.1 s' x.2.2.1 (M+2)/\s'.Y=s.Y.set b x.2.2.2.B)]):=by
 have hT:=gF;generalize o:sizeC (polsL sides.B)=R;refine j1 func40 ntmps40 ?_;intro β hM;refine cH<|bK (fF.sl (.slice sides.O sides.B.length sides.cap) sides.B) (mW d9) ?_;refine bG (qB e6) λr=>?_;have G:=r.1;have E:=r.2;refine g7 ?_;refine bL func93 (const_spec 1) rfl rfl .nil e9 λy1=>?_;refine g16 ?_;refine bT (ι:=PolV×Nat) [(0,_),(1,_),(3,_),(24,_),(25,_)] ⟨rfl,rfl,rfl,rfl,rfl,e9⟩ (λ⟨cur,i⟩=>[(10,.slice cur.O cur.B.length cur.cap),(26,.int .i64 (i:Nat))]) (λ_=>[]) (λ⟨cur,i⟩=>[bC.pure (i<=sides.B.length/\R=oY ((polsL sides.B).drop i) cur.B),cR cur]) (λ⟨cur,i⟩=>sides.B.length-i) (⟨y1.1,y1.2,(kC 1).1⟩,0) ⟨rfl,rfl,e9⟩ .nil ⟨f4 (⟨j5,by rw[<-o];rfl⟩),d7,e9⟩ ?_;rintro⟨cur,i⟩;dsimp only;refine bG d7 λd=>?_;refine g6 ?_;refine dO (λz=>?_) λz=>?_
 .refine g5 ?_;obtain⟨x,hx⟩:=gx sides.B i;refine bK (cR x) (Has.each (mY (Has.of mT6)) (f5 hx)) ?_;refine one ?_;refine ss (ixs i) ?_;refine ss (fV hx 0) ?_;refine g12 ?_;refine bG (dI d9) λk=>bG (dI d7) λD=>?_;refine bL func94 (mul_spec (p:=cur) (q:=x) k D) rfl rfl .nil ⟨d9,d7,e9⟩ λy2=>?_;refine g13 ?_;refine bEh (λy=>?_) λy=>?_
  .refine g12 ?_;have hl:layC (polsL sides.B) b again s=none:=bMl (o.trans (bUp d.2 (cG hx) ‹_›));exact lK (st,pool,fs,⟨none,0,[]⟩) rfl (rv_tmp rfl) (rv_tmp rfl) (.c0 (.c0 (.cons .head Sel.self))) ⟨Has.of mT6,e8,polF_nil,f4 (λs' c=>by rw[hl]at c;cases c),e9⟩ ad0
  refine g5 ?_;refine inc (i+1) ?_;refine g3 ?_;exact dB (⟨y2.1,y2.2,(nD cur.B x.B).1⟩,i+1) k8 ⟨rfl,rfl,e9⟩ ⟨rfl,rfl,rfl,rfl,rfl,e9⟩ (.c0 (.c0 (.cons .head Sel.self))) ⟨f4 (⟨by dsimp only;omega,size_ok' d.2 (cG hx) ‹_›⟩),d7,e9⟩ (bA.drop 4)
 refine g11 ?_;refine vN (λm=>?_) λm=>?_
 .refine g4 ?_;refine bL func95 (take_spec pb mb st pool fs s M h j5 cur) rfl rfl Split.all ⟨d8,Has.of mT5,e9⟩ λI=>?_;rw[R2];refine bG d7 λe=>?_;obtain⟨a,A,_|q⟩:=I
  .dsimp only at e⊢;have j:a.J=st.J:=e.2.1;refine bK (cR a.J) (j.symm▸(Has.of mT5)) ?_;refine g3 ?_;refine i7 xI λO=>?_;refine g19 ?_;refine ss (bY rfl rfl (oG _ _ _ _ _ _)) ?_;refine i7 xI λN=>?_;refine g4 ?_;refine dK _ _ [j2,u1,u0,u2,u3,u4,A08] dJ k7 (.c0 (.c0 (.c0 (.c0 (Sel.skip Sel.self))))) bA.self ?_;refine g7 ?_;refine tF kT4 rfl (.inl rfl) rfl underlying102 underlying3 rfl rfl rfl ?_;have g:=setS_V (b:Nat) (⟨a.J,cur,0⟩:SpotV) a.kv;unfold spV at g;rw[show bCu ((b:Nat):Int) (.agg #[.slice a.J.O a.J.B.length a.J.cap,.slice cur.O cur.B.length cur.cap,.int .i64 0]) (kvV a.kv)=kvV (setS ((b:Nat):Int) (⟨a.J,cur,0⟩:SpotV) a.kv)from g];refine kP (.c1 (.c1 (.c1 (.c1 (Sel.skip Sel.self))))) (bA.drop 0) ?_;refine g9 ?_;refine bG (dI d7) λhel=>bG (dI e6) λk=>?_;refine bL func96 (add_spec (p:=a.J) (q:=cur) hel k) rfl rfl .nil ⟨d7,e6,e9⟩ λC=>?_;refine g14 ?_;refine bEh (λl=>?_) λl=>?_
   .refine g8 ?_;have f:sizeC (polsL sides.B)=some cur.B:=o.trans (tV d.2 p9);have hl:=bVc (b:=b) (again:=again) f (.inr e.1.2) (by rw[<-e.1.1.J];assumption);exact lK ({a with kv:=setS ((b:Nat):Int) (⟨a.J,cur,0⟩:SpotV) a.kv},pool,fs,⟨none,0,[]⟩) rfl (rv_tmp rfl) (rv_tmp rfl) (.c3 (.c3 (.c0 (Sel.skip (Sel.skip Sel.self))))) ⟨d8,Has.of mT8,polF_nil,f4 (λs' c=>by rw[hl]at c;cases c),e9⟩ ad0
   refine g20 ?_;have f:sizeC (polsL sides.B)=some cur.B:=o.trans (tV d.2 p9);have hl:=lay_new (b:=b) (again:=again) f (.inr e.1.2) (by rw[<-e.1.1.J];assumption);have n:=rel_new e.1.1 b hb cur ⟨C.1,C.2,(bothP a.J.B cur.B 1).1⟩ (by rw[e.1.1.J]);refine bK (bC.each ((⟨a.J,cur,0⟩:SpotV)::pool) nJ) (Has.each_cons (Has.and d8 e7) (Has.of mT8)) ?_;exact lK ({{a with kv:=setS ((b:Nat):Int) (⟨a.J,cur,0⟩:SpotV) a.kv}with J:=⟨C.1,C.2,(bothP a.J.B cur.B 1).1⟩},((⟨a.J,cur,0⟩:SpotV)::pool),A,a.J) rfl (rv_tmp rfl) (rv_tmp rfl) (.c0 (.c3 (.c0 (Sel.skip (Sel.skip Sel.self))))) ⟨d8,d7,d9,f4 (λs' c=>by rw[hl]at c;cases c;exact⟨n.more j5,by rw[e.1.1.J]⟩),e9⟩ ad0
  dsimp only at e⊢;have j:a.J=st.J:=e.2.1;refine bK (cR a.J) (j.symm▸(Has.of mT5)) ?_;obtain⟨u,J,w,v,t⟩:=e.1;refine g3 ?_;refine i7 xI λL=>?_;refine g11 ?_;refine dK _ _ [j2,u1,u0,u2,u3,u4,A08] dJ k7 (.c0 (.c0 (.c0 (Sel.skip Sel.self)))) bA.self ?_;refine g7 ?_;refine tF kT3 rfl (.inl rfl) rfl underlying102 underlying3 rfl rfl rfl ?_;have g:=setS_V (b:Nat) q a.kv;unfold spV at g;rw[show bCu ((b:Nat):Int) (.agg #[.slice q.at_.O q.at_.B.length q.at_.cap,.slice q.size.O q.size.B.length q.size.cap,.int .i64 q.T]) (kvV a.kv)=kvV (setS ((b:Nat):Int) q a.kv)from g];refine kP (.c1 (.c1 (.c1 (Sel.skip Sel.self)))) (bA.drop 0) ?_;refine g12 ?_;have f:sizeC (polsL sides.B)=some cur.B:=o.trans (tV d.2 p9);have hl:=lay_take (b:=b) (again:=again) f ‹_› (h.free_ne v w) v w;exact lK ({a with kv:=setS ((b:Nat):Int) q a.kv},pool,A,q.at_) rfl (rv_tmp rfl) (rv_tmp rfl) (.c2 (.c2 (.c0 (Sel.skip Sel.self)))) ⟨d7,e8,spotsF_at e8 u,f4 (λs' c=>by rw[hl]at c;cases c;exact⟨(rel_laid t b hb u _).more j5,rfl⟩),e9⟩ ad0
 refine g9 ?_;refine ss (bY rfl rfl (oG _ _ _ _ _ _)) ?_;refine i7 xI λK=>?_;refine g4 ?_;refine dK _ _ [j2,u1,u0,u2,u3,u4,A08] dJ k7 (.c0 (.c0 (.c0 (Sel.skip Sel.self)))) bA.self ?_;refine g7 ?_;refine tF kT3 rfl (.inl rfl) rfl underlying102 underlying3 rfl rfl rfl ?_;have g:=setS_V (b:Nat) (⟨st.J,cur,0⟩:SpotV) st.kv;unfold spV at g;rw[show bCu ((b:Nat):Int) (.agg #[.slice st.J.O st.J.B.length st.J.cap,.slice cur.O cur.B.length cur.cap,.int .i64 0]) (kvV st.kv)=kvV (setS ((b:Nat):Int) (⟨st.J,cur,0⟩:SpotV) st.kv)from g];refine kP (.c1 (.c1 (.c1 (Sel.skip Sel.self)))) (bA.drop 0) ?_;refine g9 ?_;refine bG (dI e7) λhel=>bG (dI d8) λk=>?_;refine bL func96 (add_spec (p:=st.J) (q:=cur) hel k) rfl rfl .nil ⟨e7,d8,e9⟩ λB=>?_;refine g14 ?_;refine bEh (λl=>?_) λl=>?_
 .refine g8 ?_;have f:sizeC (polsL sides.B)=some cur.B:=o.trans (tV d.2 p9);have hl:=bVc (b:=b) (again:=again) f (.inl (by simpa using m)) (by rw[<-h.J];assumption);exact lK ({st with kv:=setS ((b:Nat):Int) (⟨st.J,cur,0⟩:SpotV) st.kv},pool,fs,⟨none,0,[]⟩) rfl (rv_tmp rfl) (rv_tmp rfl) (.c2 (.c2 (.c0 (Sel.skip Sel.self)))) ⟨Has.of mT5,Has.of mT6,polF_nil,f4 (λs' c=>by rw[hl]at c;cases c),e9⟩ ad0
 refine g20 ?_;have f:sizeC (polsL sides.B)=some cur.B:=o.trans (tV d.2 p9);have hl:=lay_new (b:=b) (again:=again) f (.inl (by simpa using m)) (by rw[<-h.J];assumption);have n:=rel_new h b hb cur ⟨B.1,B.2,(bothP st.J.B cur.B 1).1⟩ (by rw[h.J]);refine bK (bC.each ((⟨st.J,cur,0⟩:SpotV)::pool) nJ) (Has.each_cons (Has.and (Has.of mT5) d9) (Has.of mT6)) ?_;exact lK ({{st with kv:=setS ((b:Nat):Int) (⟨st.J,cur,0⟩:SpotV) st.kv}with J:=⟨B.1,B.2,(bothP st.J.B cur.B 1).1⟩},((⟨st.J,cur,0⟩:SpotV)::pool),fs,st.J) rfl (rv_tmp rfl) (rv_tmp rfl) (.c0 (.c2 (.c0 (Sel.skip Sel.self)))) ⟨d8,d7,Has.of mT6,f4 (λs' c=>by rw[hl]at c;cases c;exact⟨n.more j5,by rw[h.J]⟩),e9⟩ ad0
theorem release_spec(pb mb:Nat)(st:PSt)(pool fs:List SpotV)(s:PlC)(M:Nat)(h:iG st pool s fs M)(LA:Option Addr)(lcap:Nat)(ls:List dX)(hM:M+3*ls.length<=70000000)(hn:ls.length=s.laid.length)(stp:Int):cJ prog 42 [.pointer (some ⟨pb,0,none⟩),.slice LA ls.length lcap,j3 stp] (plH pb mb st) [cR st.J,bC.each pool nJ,kI.sl (.slice LA ls.length lcap) ls] (λ(_:PSt×List SpotV×List SpotV)=> .tuple #[]) (λ(x:PSt×List SpotV×List SpotV)=>plH pb mb x.1) (λ(x:PSt×List SpotV×List SpotV)=>[cR x.1.J,bC.each x.2.1 nJ,bC.pure (iG x.1 x.2.1 (relC stp (lc ls) s) x.2.2 (M+3*ls.length))]):=by
 have hT:=gF;refine j1 func42 ntmps42 ?_;intro β hM;refine g8 ?_;refine bRp (ι:=PSt×List SpotV×List SpotV×Nat) [(0,_),(1,_),(2,_),(10,_)] ⟨rfl,rfl,rfl,rfl,e9⟩ (λ⟨st,pool,fs,i⟩=>[(11,.int .i64 (i:Nat))]) (λ⟨st,pool,fs,i⟩=>plH pb mb st) (λ⟨st,pool,fs,i⟩=>[bC.pure (i<=ls.length/\iG st pool (relK stp (lc ls) s i) fs (M+3*i)),cR st.J,bC.each pool nJ]) (λ⟨st,pool,fs,i⟩=>ls.length-i) (st,pool,fs,0) ⟨rfl,e9⟩ (List.Perm.refl _) ⟨f4 (⟨j5,h⟩),d7,d8,e9⟩ ?_;rintro⟨st,pool,fs,i⟩;dsimp only;refine bG d7 λa=>?_;refine g6 ?_;refine dO (λl=>?_) λl=>?_
 .refine g11 ?_
  rcases hg:tE (i:Nat) st.kv with _|q
  .refine g6 ?_;refine ss (mT (v:= .tuple #[.agg #[.slice none 0 0,.slice none 0 0,.int .i64 0],.bool false]) (qY kT2) rfl underlying102 underlying3 spotZero rfl rfl (by rw[getS_V,hg];rfl)) ?_;refine g3 ?_;refine i7 xI λy=>?_;refine g24 ?_;refine inc (i+1) ?_;refine g3 ?_;refine rD (.c1 (.c1 (.c1 (Sel.skip Sel.self)))) ?_;exact qM (st,pool,fs,i+1) k8 ⟨rfl,e9⟩ ⟨rfl,rfl,rfl,rfl,e9⟩ (List.Perm.refl _) ⟨f4 (⟨by dsimp only;omega,(by obtain⟨u,hu⟩: ∃u,ls[i]?=some u:=⟨_,G1 j5⟩;rw[iE (lc_at hu),one_none a.2 hg];exact a.2.more k8)⟩),d8,d9,e9⟩ (bA.drop 3)
  refine g6 ?_;refine ss (mT (v:= .tuple #[.agg #[.slice q.at_.O q.at_.B.length q.at_.cap,.slice q.size.O q.size.B.length q.size.cap,.int .i64 q.T],.bool true]) (qY kT2) rfl underlying102 underlying3 spotZero rfl rfl (by rw[getS_V,hg];rfl)) ?_;refine g3 ?_;refine i7 xI λw=>?_;refine g10 ?_;obtain⟨x3,b⟩:=gx ls i;refine ss (ixs i) ?_;refine one ?_;refine ss (fV b 1) ?_;refine g5 ?_;refine dO (λk=>?_) λk=>?_
  .refine g7 ?_;refine bSz kT3 rfl rfl rfl underlying102 underlying3 rfl rfl ?_;rw[delS_V];have n:q∈pool:=by obtain⟨p,o,e⟩:=getS_mem hg;rw[<-e];exact a.2.poolL p o
   have f:=rel_gone a.2 i (by rw[relK_len];omega);refine g10 ?_;refine dO (λj=>?_) λj=>?_
   .refine g3 ?_;have c:sz q≠[]:=λe=>by have t:q.size.B.length=0:=congrArg U7 e;omega
    refine rD (.c1 (.c1 (.c1 (.cons .head Sel.self)))) ?_;refine fY (eY (l₁:=[_])) ?_;refine bL func97 (give_spec pb mb _ pool fs _ _ f j5 q n c) rfl rfl (Split.front _ _) ⟨d9,e9⟩ λm=>?_;refine fY eY ?_;refine bG d8 λd=>bK (cR m.J) ((show m.J=st.J from d.2)▸e6) ?_;refine g5 ?_;refine inc (i+1) ?_;refine g3 ?_;refine rD (.c1 (.c1 (.c1 (Sel.skip Sel.self)))) ?_;exact qM (m,(⟨q.at_,q.size,st.T+1⟩:SpotV)::pool,fs++[(⟨q.at_,q.size,st.T+1⟩:SpotV)],i+1) k8 ⟨rfl,e9⟩ ⟨rfl,rfl,rfl,rfl,e9⟩ (List.Perm.refl _) ⟨f4 (⟨by dsimp only;omega,(by rw[iE (lc_at b),one_gone a.2 hg ‹_›,if_neg c];exact(d.1).more k8)⟩),d7,d8,e9⟩ (bA.drop 6)
   refine g5 ?_;refine inc (i+1) ?_;refine g3 ?_;refine rD (.c2 (.c2 (.c0 (Sel.skip Sel.self)))) ?_;exact qM (({st with kv:=delS ((i:Nat):Int) st.kv}:PSt),pool,fs,i+1) k8 ⟨rfl,e9⟩ ⟨rfl,rfl,rfl,rfl,e9⟩ (List.Perm.refl _) ⟨f4 (⟨by dsimp only;omega,(by rw[iE (lc_at b),one_gone a.2 hg ‹_›,if_pos (P8 (by show q.size.B.length=0;omega))];exact f.more k8)⟩),d8,d9,e9⟩ (bA.drop 3)
  refine g5 ?_;refine inc (i+1) ?_;refine g3 ?_;refine rD (.c1 (.c1 (.c1 (Sel.skip Sel.self)))) ?_;exact qM (st,pool,fs,i+1) k8 ⟨rfl,e9⟩ ⟨rfl,rfl,rfl,rfl,e9⟩ (List.Perm.refl _) ⟨f4 (⟨by dsimp only;omega,(by rw[iE (lc_at b),one_stay a.2 hg (λhlt=>by have:x3.za<stp:=hlt;omega)];exact a.2.more k8)⟩),d8,d9,e9⟩ (bA.drop 3)
 refine g4 ?_;have r:i=ls.length:=j5
 have g:iG st pool (relC stp (lc ls) s) fs (M+3*ls.length):=by rw[<-relK_eq stp (lc ls) s (by rw[lc_len];exact hn),lc_len,<-r];exact a.2
 exact dE (st,pool,fs) rfl (.c0 (.c0 (.cons .head Sel.self))) ⟨d8,d9,f4 g,e9⟩ (rfl)
end
section
open Go.RowKit Go.ChangeShapes Go.WideShapes Go.Proofs.Tryz
def fuseT:Tab:=[(3,⟨.int .i64,1⟩),(2,⟨.int .i64,1⟩),(5,⟨.int .u8,1⟩),(4,⟨.bool,1⟩),(77,⟨.int .u8,1⟩),(32,⟨.int .i64,1⟩),(43,⟨.slice 111,1⟩),(42,⟨.slice 43,1⟩),(172,⟨.struct [(3,0),(3,1),(2,2),(43,3),(77,4)],5⟩),(78,⟨.slice 172,1⟩),(95,⟨.struct [(42,0),(3,1)],2⟩),(22,⟨.slice 95,1⟩),(80,⟨.struct [(3,0),(3,1),(43,2),(42,3),(77,4),(78,5)],6⟩),(23,⟨.slice 80,1⟩),(24,⟨.slice 3,1⟩),(99,⟨.slice 4,1⟩),(26,⟨.struct [(3,0),(22,1),(23,2),(24,3)],4⟩),(114,⟨.struct [(3,0),(3,1)],2⟩),(97,⟨.slice 114,1⟩),(201,⟨.struct [(3,0),(3,1),(3,2),(99,3)],4⟩),(198,⟨.array 64 4,64⟩),(111,⟨.struct [(2,0),(109,1)],7⟩),(109,⟨.array 6 5,6⟩),(290,⟨.slice 5,1⟩),(224,⟨.int .u64,1⟩),(199,⟨.other,1⟩),(274,⟨.other,1⟩),(126,⟨.other,1⟩),(314,⟨.slice 78,1⟩)]
theorem fuseT_ok:fC prog fuseT:=uM.ok
 ⟨⟨by rw[underlying3];rfl,j8⟩,
  ⟨by rw[underlying2];rfl,j8⟩,
  ⟨by rw[underlying5];rfl,j8⟩,
  ⟨by rw[underlying4];rfl,j8⟩,
  ⟨by rw[underlying77];rfl,j8⟩,
  ⟨by rw[underlying32];rfl,j8⟩,
  ⟨by rw[underlying43];rfl,j8⟩,
  ⟨by rw[underlying42];rfl,j8⟩,
  ⟨by rw[underlying172];rfl,j8⟩,
  ⟨by rw[underlying78];rfl,j8⟩,
  ⟨by rw[underlying95];rfl,j8⟩,
  ⟨by rw[underlying22];rfl,j8⟩,
  ⟨by rw[underlying80];rfl,j8⟩,
  ⟨by rw[underlying23];rfl,j8⟩,
  ⟨by rw[underlying24];rfl,j8⟩,
  ⟨by rw[underlying99];rfl,j8⟩,
  ⟨by rw[underlying26];rfl,j8⟩,
  ⟨by rw[underlying114];rfl,j8⟩,
  ⟨by rw[underlying97];rfl,j8⟩,
  ⟨by rw[underlying201];rfl,j8⟩,
  ⟨by rw[underlying198];rfl,j8⟩,
  ⟨by rw[underlying111];rfl,j8⟩,
  ⟨by rw[underlying109];rfl,j8⟩,
  ⟨by rw[underlying290];rfl,j8⟩,
  ⟨by rw[underlying224];rfl,j8⟩,
  ⟨by rw[underlying199];rfl,j8⟩,
  ⟨by rw[underlying274];rfl,j8⟩,
  ⟨by rw[underlying126];rfl,j8⟩,
  ⟨by rw[underlying314];rfl,j8⟩,e9⟩
end
section
open Go.RowKit Go.ChangeShapes Go.WideShapes Go.Proofs.Tryz
theorem zB: ∃i:TypeInfo,prog.info? 111=some i/\i.zero=some (.agg #[j3 0,j4 0,j4 0,j4 0,j4 0,j4 0,j4 0])/\i.size=7/\i.bytes=16:=by
 have h:(prog.info? 111).map (λi=>(i.zero,i.size,i.bytes))=some (some (.agg #[.int .i64 0,.int .u8 0,.int .u8 0,.int .u8 0,.int .u8 0,.int .u8 0,.int .u8 0]),7,16):=j8
 cases a:prog.info? 111 with
 |none=>simp[a]at h
 |some i=>simp[a]at h;exact⟨i,rfl,h.1,h.2.1,h.2.2⟩
theorem at_none_mono{β:dY}{n:Nat}{Γ:Env}{H:List bD}{F:List bC}{Q:Exit->Act->World->Prop}{ops:Array Oper}{rest:List Oper}{o:Oper}{d:Nat}(hw:want ops Γ o=some true)(ho:o.op= .buildSlice 43 0 #[])(hd:o.dst=some d)(hn:C2 d n=true)
  (k: ∀b,At β n ((d,.slice (some ⟨b,0,none⟩) 0 0)::Γ) (dM.row (.slice (some ⟨b,0,none⟩) 0 0) 111 []::H) F (wpList prog ops Q rest)):At β n Γ H F (wpList prog ops Q (o::rest)):=by obtain⟨i,a,_⟩:=zB;exact bIm dM hw ho hd hn underlying43 a k
theorem at_app_mono{β:dY}{n:Nat}{Γ:Env}{H:List bD}{F:List bC}{Q:Exit->Act->World->Prop}{ops:Array Oper}{rest:List Oper}{o:Oper}{d:Nat}{x y:Operand}{c q:Nat}{v:Value}{A:Option Addr}{xs ys:List Mono}{H':List bD}(hH:bZ H (dM.row v 111 xs) H')(hr:cF β H F dM A ys)(hg:o.guard=none)
  (ho:o.op= .call {callee:= .builtin .append,args:= #[x,y],argTypes:= #[43,43]}) (hd:o.dst=some d) (hn:C2 d n=true)
  (hx:Γ.ev x=some v) (hy:Γ.ev y=some (.slice A q c)) (hq:q=ys.length) (hl:xs.length+ys.length<=8796093022208)
  (k: ∀A' cap',At β n ((d,.slice A' (xs++ys).length cap')::Γ) (dM.row (.slice A' (xs++ys).length cap') 111 (xs++ys)::H') F (wpList prog ops Q rest)):At β n Γ H F (wpList prog ops Q (o::rest)):=by obtain⟨i,e,a,b,hb⟩:=zB;exact jS hH hr hg ho hd hn underlying43 e a b hb rfl hx hy hq j5 l4 k
end
section
open Go.RowKit Go.Proofs.Tryz
theorem sti_isnilS{P:Program}{β:dY}{n:Nat}{Γ:Env}{H:List bD}{F:List bC}{o:Oper}{x:Operand}{t e tt:TypeId}{A:Option Addr}{l c:Nat}(hu:P.underlying t=some (.slice e))(ho:o.op= .binOp .eql t x (.const (.slice none 0 0)) tt)(hx:Γ.ev x=some (.slice A l c)):Sti P β n Γ H F o (.bool A.isNone):=λa w S f s k=>by
 unfold execOp;simp only[ho,f.ev hx];rw[J0,J0]
 have hg:(eqGuard .eql t x (.const (.slice none 0 0)) (.slice A l c) (.slice none 0 0)).run P w= .ok () w:=by unfold eqGuard;simp
 have he:(Act.eval a (.const (.slice none 0 0)))= .slice none 0 0:=rfl;rw[he,hg,J6,Lib.run_eql_slice_nil w t e A l c 0 0 hu];rfl
theorem has_isnilH{α:Type}{E:Flat α}{F:List bC}{A:Option Addr}{l c:Nat}{xs:List α}(h:Has F (E.sl (.slice A l c) xs)):Has F (bC.pure (A.isNone=true->xs=[])):=λS w k hn=>by
 obtain⟨f,d,e,h⟩:=h S w k;injection e with e1
 subst e1
 cases xs with
 |nil=>rfl
 |cons x r=>
  obtain⟨b,o,a,e,_⟩:=h 0 x rfl;rw[e]at hn;cases hn
theorem cloneM_spec(l:PolV)(hl:l.B.length<=8796093022208):cJ prog 41 [f9 l] [] [dM.sl (f9 l) l.B] (λ(x:Option Addr×Nat)=> .slice x.1 l.B.length x.2) (λ_=>[]) (λ(x:Option Addr×Nat)=>[cR ⟨x.1,x.2,l.B⟩]):=by
 have hT:=fuseT_ok;refine j1 func41 ntmps41 ?_;intro β hM;refine g9 ?_;refine ss (sti_isnilS underlying43 rfl rfl) ?_;refine g2 ?_;refine vN (λc=>?_) λc=>?_
 .refine cH<|bK (bC.pure (l.O.isNone=true->l.B=[])) (has_isnilH d7) ?_;refine bG d7 λa=>?_;have b:=a ‹_›;refine cL (t:=111) dM ?_;refine g6 ?_;obtain⟨la,lc,d⟩:=l;obtain rfl:d=[]:=b;refine bAl .head λe=>gP .head ?_;exact rs1 (_,_) ⟨Has.and d7 (f4 (by dsimp only;first|omega|(simp;done))),e9⟩
 refine g4 ?_;refine at_none_mono rfl rfl rfl rfl λf=>?_;refine one ?_;refine at_app_mono .head (bH d7) rfl rfl rfl rfl rfl rfl rfl o6 λg c3=>?_;rw[List.nil_append];refine g4 ?_;refine bAl .head λe=>gP .head ?_;exact rs1 (_,_) ⟨Has.and d7 (f4 (by dsimp only;first|omega|(simp;done))),e9⟩
section
variable {α : Type} {l : List α}
theorem oK{g:α->bC}{F:List bC}{k:Nat}{x:α}(h:Has F (bC.each l g))(hx:Has F (g x)):Has F (bC.each (l.set k x) g):=λS w q y a=>by
 rcases List.mem_or_eq_of_mem_set a with h1|rfl
 .exact h S w q y h1
 .exact hx S w q
