/- Texts of one proof, one behind the other: GmK, IsaE, RngT, GmH, GmI, DfrB, GmJ, GenP, GenQ, GenR, GmL, RunOg, RunRg. -/
import Derived.Test.YtnfiadlonjediaaGreatDoorM7
import Derived.Test.YtnfiadlonjediaaGreatDoorM13
import Derived.Test.YtnfiadlonjediaaGreatDoorM16
import Derived.Test.YtnfiadlonjediaaGreatDoorM11
import Derived.ChangeKeysEq
import Derived.Lib.OthersKept
import Derived.Test.YtnfiadlonjediaaGreatDoorM10
import Derived.Test.YtnfiadlonjediaaGreatDoorM15
import Derived.Test.YtnfiadlonjediaaGreatDoorM12
import Derived.Test.YtnfiadlonjediaaGreatDoorM6
set_option maxRecDepth 100000
namespace Go.Proofs.YtnfiadlonjediaaGreatDoor
open _root_.List renaming length_append->E0,length_singleton->eE,take_of_length_le->V2,getElem?_eq_some_iff->D9,mem_cons_self->D5,take_succ_eq_append_getElem->V1,getElem?_eq_getElem->D7,replicate->T9,getElem?_append_left->aL,getElem?_append_right->eK,ext_getElem?->Y3,getElem?_eq_none->V5,getElem_cons_drop->Y2,drop_of_length_le->R5,length_set->P6,mem_cons->C9,getElem?_of_mem->aQ,mem_append_left->D3,drop_zero->L0,mem_map->K7,length_map->K3,getElem?_map->I7,getElem?_zipIdx->eL
open Sem renaming run_bind->E6
open Result renaming andThen_ok->E8
open _root_.Nat renaming blt->C0,zero_le->P2,lt_or_ge->H3,le_refl->B8,zero_add->C7,beq->B5,pos_of_ne_zero->eM,eq_of_beq_eq_true->B7
open Oper renaming wp->F4,upon_value->F5
open _root_.Array renaming getElem?_eq_some_iff->N6,replicate->A8
open _root_.Classical renaming em->eN
open Value renaming int->V9
open _root_.Bool renaming and_eq_true->G1
section
open Go.RowKit Go.Proofs.Tryz
def MkV.ly(m:MkV)(p q:Option Addr×Nat)(A S:List Int):MkV:=⟨m.l,m.marks,m.next,m.fail,m.frame,m.core,m.dims,⟨p.1,p.2,A⟩,⟨q.1,q.2,S⟩⟩
def MkV.fr(m:MkV)(z:Int):MkV:=⟨m.l,m.marks,m.next,m.fail,z,m.core,m.dims,m.at_,m.size⟩
def mkA (m:MkV):bC:=cK.row (.slice m.at_.addr m.at_.list.length m.at_.cap) 2 m.at_.list
def mkZ (m:MkV):bC:=cK.row (.slice m.size.addr m.size.list.length m.size.cap) 2 m.size.list
def uQ (ds:List Int)(u:lW):Int:=(nJ ((polsL u.sides.list).map λp=>(bD p ds).1)).1
theorem zero_buf:(prog.info? 95).bind (·.zero)=some (.agg #[.slice none 0 0,j5 0]):=l4
set_option maxHeartbeats 1000000 in
theorem layM_spec(mb:Nat)(m:MkV)(a:Option Addr×Nat)(s:GnS)(y:LayV)(hbuf: ∀u∈m.core.bufs.list,(∀p∈polsL u.sides.list,(bD p m.dims.list).2=0)/\u.sides.list.length<=4)(hlen:y.at_.list.length=m.core.bufs.list.length)(hbl:m.core.bufs.list.length<=1024)(hat: ∀p∈polsL y.at_.list,(bD p m.dims.list).2=0)(hfr:(bD y.size.list m.dims.list).2=0)(hdl:m.dims.list.length<=140737488355328):bZ prog 26 [.pointer (some ⟨mb,0,none⟩),.agg #[j0 y.at_,j0 y.size]] [mkO mb ((m.ly (none,0) (none,0) [] []).st a s),mkA (m.ly (none,0) (none,0) [] []),mkZ (m.ly (none,0) (none,0) [] [])] [oJ m.core,cK.sl (j0 m.dims) m.dims.list,iY.sl (j0 y.at_) y.at_.list,bE.each y.at_.list fB,fB y.size] (λ(_:(Option Addr×Nat)×(Option Addr×Nat))=> .tuple #[]) (λ(x:(Option Addr×Nat)×(Option Addr×Nat))=>[mkO mb (((m.ly x.1 x.2 ((polsL y.at_.list).map (λp=>(bD p m.dims.list).1)) (m.core.bufs.list.map (uQ m.dims.list))).fr (bD y.size.list m.dims.list).1).st a s),mkA ((m.ly x.1 x.2 ((polsL y.at_.list).map (λp=>(bD p m.dims.list).1)) (m.core.bufs.list.map (uQ m.dims.list))).fr (bD y.size.list m.dims.list).1),mkZ ((m.ly x.1 x.2 ((polsL y.at_.list).map (λp=>(bD p m.dims.list).1)) (m.core.bufs.list.map (uQ m.dims.list))).fr (bD y.size.list m.dims.list).1)]) (λ_=>[]):=by
 have hT:=cO;refine i7 func26 ntmps26 ?_;intro β hM;refine g2 ?_;refine i6 λU=>?_;refine g4 ?_;refine bP (bBb.sl (.slice m.core.bufs.addr m.core.bufs.list.length m.core.bufs.cap) m.core.bufs.list) (rR (lQ d7)) ?_;refine g7 ?_;refine bF (z':=((m.core.bufs.list.length:Nat):Int)) rfl ?_;refine g4 ?_;refine bY (ι:=(Option Addr×Nat)×(Option Addr×Nat)×List Int×List Int×Nat) [(0,_),(3,_),(15,_),(16,_)] ⟨rfl,rfl,rfl,rfl,e8⟩ (λ⟨p,q,AT,SZ,i⟩=>[(17,.int .i64 (i:Nat))]) (λ⟨p,q,AT,SZ,i⟩=>[mkO mb ((m.ly p q AT SZ).st a s),mkA (m.ly p q AT SZ),mkZ (m.ly p q AT SZ)]) (λ⟨p,q,AT,SZ,i⟩=>[bE.pure (i<=m.core.bufs.list.length/\(AT.length=i/\SZ.length=i)/\AT=((polsL y.at_.list).take i).map (λp=>(bD p m.dims.list).1)/\SZ=(m.core.bufs.list.take i).map (uQ m.dims.list))]) (λ⟨p,q,AT,SZ,i⟩=>m.core.bufs.list.length-i) ((none,0),(none,0),[],[],0) ⟨rfl,e8⟩ (.c1 (.c1 (.c1 .nil))) ⟨e9 (⟨k9,⟨rfl,rfl⟩,rfl,rfl⟩),e8⟩ ?_;rintro⟨p,q,AT,SZ,i⟩;dsimp only;refine bM d7 λb=>?_;have K:=b.2.1.1;have J:=b.2.1.2;refine g6 ?_;refine fD (λo=>?_) λo=>?_
 .refine g5 ?_;obtain⟨u,hu⟩:=gx m.core.bufs.list i;refine bP (bufF u) (Has.each (bEg (lQ d9)) (f4 hu)) ?_;have r:=hbuf u (f4 hu);refine g2 ?_;refine ss (ixs i) ?_;refine ss (kV hu 0) ?_;refine f9 zero_buf λR=>?_;refine g11 ?_;refine cG (t:=2) cK<|bP (iY.sl (.slice u.sides.addr u.sides.list.length u.sides.cap) u.sides.list) (qM d7)<|bM (wL d8) λl=>?_;have D:=l.1;have C:=l.2;refine g8 ?_;refine bY (ι:=Option Addr×Nat×List Int×Nat) [(0,_),(3,_),(4,_),(15,_),(16,_),(17,_),(23,_),(24,_)] ⟨rfl,rfl,rfl,rfl,rfl,rfl,rfl,rfl,e8⟩ (λ⟨LA,lc,acc,j⟩=>[(6,.slice LA acc.length lc),(25,.int .i64 (j:Nat))]) (λ⟨LA,lc,acc,j⟩=>[cK.row (.slice LA acc.length lc) 2 acc]) (λ⟨LA,lc,acc,j⟩=>[bE.pure (j<=u.sides.list.length/\acc.length=j/\acc=((polsL u.sides.list).take j).map (λp=>(bD p m.dims.list).1))]) (λ⟨LA,lc,acc,j⟩=>u.sides.list.length-j) (none,0,[],0) ⟨rfl,rfl,e8⟩ (.c0 .nil) ⟨e9 (⟨k9,rfl,rfl⟩),e8⟩ ?_;rintro⟨LA,lc,acc,j⟩;dsimp only;refine bM d7 λc=>?_;have L:=c.2.1;refine g6 ?_;refine fD (λn=>?_) λn=>?_
  .refine g5 ?_;obtain⟨x,hx⟩:=gx u.sides.list j;refine bP (fB x) (Has.each (qJ d9) (f4 hx)) ?_;refine one ?_;refine ss (ixs j) ?_;refine ss (jB hx 0) ?_;refine g7 ?_;have h:(bD x.list m.dims.list).2=0:=r.1 x.list (f4 (cW hx));refine bG func65 (qF (λ_=>by unfold zK;exact if_pos h) (qX mb (m.ly p q AT SZ) a s x hdl)) rfl rfl (.c2 .nil) ⟨d7,(Has.of mT7),e8⟩ λ_=>?_;refine pC (m:=(bD x.list m.dims.list).1) rfl rfl rfl rfl rfl λQ=>?_;refine mP kT2 (fZ .head rfl) rfl rfl rfl rfl rfl rfl rfl p8 λN c5=>?_;refine g6 ?_;refine inc (j+1) ?_;refine g3 ?_;exact bk2 (N,c5,acc++[(bD x.list m.dims.list).1],j+1) ⟨e9 (⟨by dsimp only;omega,by dsimp only;rw[E0,eE];omega,by dsimp only;rw[c.2.2];exact(wQ (f:=(λp=>(bD p m.dims.list).1)) (cW hx)).symm⟩),e8⟩
  refine g6 ?_;have M:(polsL u.sides.list).map (λp=>(bD p m.dims.list).1)=acc:=by rw[c.2.2,V2 o8]
  have v:(nJ acc).1=uQ m.dims.list u:=by rw[<-M];rfl
  refine iQ (E:=cK) .head ?_;refine g2 ?_;refine bG func66 (bSd LA lc acc k9) rfl rfl .nil ⟨d7,e8⟩ λ_=>?_;refine g2 ?_;refine bF (z':=uQ m.dims.list u) v ?_;refine g13 ?_;refine pC (m:=(uQ m.dims.list u)) rfl rfl rfl rfl rfl λP=>?_;refine mP kT4 (fZ .head rfl) rfl rfl rfl rfl rfl rfl rfl aa4 λI G=>?_;refine g5 ?_;obtain⟨k,d⟩:=gx y.at_.list i;refine bP (fB k) (Has.each (Has.of mT9) (f4 d)) ?_;refine qN 16 _ _ [(true,0),(true,1),(true,2),(true,3),(true,4),(true,5),(true,6),(true,7),(true,8),(true,9),(true,10),(false,11),(false,12),(false,13),(true,14),(true,15)] dJ l8 (.c0 (.c0 (.c0 (.c0 (.c1 .nil))))) bA.self ?_;refine g9 ?_;refine stL rfl (ixs i) ?_;refine stL rfl (jB d 0) ?_;refine one ?_;have g:(bD k.list m.dims.list).2=0:=hat k.list (f4 (cW d));refine bG func65 (qF (λ_=>by unfold zK;exact if_pos g) (qX mb (m.ly p (I,G) AT (SZ++[uQ m.dims.list u])) a s k hdl)) rfl rfl (.c0 .nil) ⟨d7,(Has.of mT8),e8⟩ λ_=>?_;refine g2 ?_;refine pC (m:=(bD k.list m.dims.list).1) rfl rfl rfl rfl rfl λO=>?_;refine g2 ?_;refine mP kT5 (fZ .head rfl) rfl rfl rfl rfl rfl rfl rfl aa4 λB A=>?_;refine g10 ?_;refine inc (i+1) ?_;refine g3 ?_;exact bk2 ((B,A),(I,G),AT++[(bD k.list m.dims.list).1],SZ++[uQ m.dims.list u],i+1) ⟨e9 (⟨by dsimp only;omega,⟨by dsimp only;rw[E0,eE];omega,by dsimp only;rw[E0,eE];omega⟩,by dsimp only;rw[b.2.2.1];exact(wQ (f:=(λp=>(bD p m.dims.list).1)) (cW d)).symm,by dsimp only;rw[b.2.2.2];exact(wQ (f:=uQ m.dims.list) hu).symm⟩),e8⟩
 refine g10 ?_;have e:(bD y.size.list m.dims.list).2=0:=hfr;refine bG func65 (qF (λ_=>by unfold zK;exact if_pos e) (qX mb (m.ly p q AT SZ) a s y.size hdl)) rfl rfl (.c0 .nil) ⟨(Has.of mT6),e6,e8⟩ λ_=>?_;refine g4 ?_;have z:AT=((polsL y.at_.list).map (λp=>(bD p m.dims.list).1)):=by rw[b.2.2.1,V2 o8]
 have w:SZ=(m.core.bufs.list.map (uQ m.dims.list)):=by rw[b.2.2.2,V2 k9]
 rw[<-z,<-w];exact cT (p,q) rfl (.c0 (.c0 (.c0 .nil))) e8 rfl
def insEq (x y:cA):Bool:=((x.op==y.op)&&((x.a==y.a)&&((x.b==y.b)&&((x.c==y.c)&&(x.imm==y.imm)))))
theorem bKt(d:Nat)(x y:cA)(w:World):(Op.equalIn (d+2) 52 (.agg #[j6 x.op,j6 x.a,j6 x.b,j6 x.c,.int .i32 x.imm]) (.agg #[j6 y.op,j6 y.a,j6 y.b,j6 y.c,.int .i32 y.imm])).run prog w= .ok (insEq x y) w:=by
 have j:prog.stoodInHeld 52=false:=l4
 have i: ∀x:cA,(part 5 #[.int .u8 x.op,.int .u8 x.a,.int .u8 x.b,.int .u8 x.c,.int .i32 x.imm] 0).run prog w= .ok (.int .u8 x.op) w:=λx=>by kernel_rfl
 have h: ∀x:cA,(part 5 #[.int .u8 x.op,.int .u8 x.a,.int .u8 x.b,.int .u8 x.c,.int .i32 x.imm] 1).run prog w= .ok (.int .u8 x.a) w:=λx=>by kernel_rfl
 have g: ∀x:cA,(part 5 #[.int .u8 x.op,.int .u8 x.a,.int .u8 x.b,.int .u8 x.c,.int .i32 x.imm] 2).run prog w= .ok (.int .u8 x.b) w:=λx=>by kernel_rfl
 have f: ∀x:cA,(part 5 #[.int .u8 x.op,.int .u8 x.a,.int .u8 x.b,.int .u8 x.c,.int .i32 x.imm] 3).run prog w= .ok (.int .u8 x.c) w:=λx=>by kernel_rfl
 have e: ∀x:cA,(part 21 #[.int .u8 x.op,.int .u8 x.a,.int .u8 x.b,.int .u8 x.c,.int .i32 x.imm] 4).run prog w= .ok (.int .i32 x.imm) w:=λx=>by kernel_rfl
 have k:prog.underlying 52=some (.struct (prog.fieldsOf 52)):=l4
 rw[run_equalIn_agg w (d+1) 52 _ _ k j];unfold Program.fieldsOf;rw[underlying52];simp only[Op.eqFields,E6,Sem.run_ite,Sem.run_pure,i,h,g,f,e,E8,run_equalIn_int w d 5 .u8 .u8 _ _ underlying5,run_equalIn_int w d 21 .i32 .i32 _ _ underlying21];unfold insEq;cases x.op==y.op<;>cases x.a==y.a<;>cases x.b==y.b<;>cases x.c==y.c<;>cases x.imm==y.imm<;>rfl
theorem sti_eql_ins{β:dE}{n:Nat}{Γ:Env}{H:List bC}{F:List bE}{o:Oper}{a b:Operand}{tt:TypeId}(x y:cA)(ho:o.op= .binOp .eql 52 a b tt)(hx:Γ.ev a=some (.agg #[j6 x.op,j6 x.a,j6 x.b,j6 x.c,.int .i32 x.imm]))(hy:Γ.ev b=some (.agg #[j6 y.op,j6 y.a,j6 y.b,j6 y.c,.int .i32 y.imm])):Sti prog β n Γ H F o (.bool (insEq x y)):=λc w S f s k=>by
 have hq:prog.eqGuardType prog.depth 52=false:=l4
 have hg:(eqGuard .eql 52 a b (.agg #[.int .u8 x.op,.int .u8 x.a,.int .u8 x.b,.int .u8 x.c,.int .i32 x.imm]) (.agg #[.int .u8 y.op,.int .u8 y.a,.int .u8 y.b,.int .u8 y.c,.int .i32 y.imm])).run prog w= .ok () w:=by
  unfold eqGuard;have d:(program:Sem Program).run prog w= .ok prog w:=rfl;simp[d,hq]
 have hb:(binOp .eql 52 (.agg #[.int .u8 x.op,.int .u8 x.a,.int .u8 x.b,.int .u8 x.c,.int .i32 x.imm]) (.agg #[.int .u8 y.op,.int .u8 y.a,.int .u8 y.b,.int .u8 y.c,.int .i32 y.imm])).run prog w= .ok (.bool (insEq x y)) w:=by
  rw[run_eql_struct,bKt 9998 x y w];rfl
 unfold execOp;simp only[ho,f.ev hx,f.ev hy];rw[E6,E6,hg,E8,hb];rfl
open Go.ChangeMaps (setBlock)
def iterC (b:Nat)(l:Bs)(pos:Nat):bC:= .obj b (.stringIter (bs l) pos)
section
variable {P : Program} {β : dE} {n : Nat} {Γ : Env} {H : List bC} {F : List bE} {Q : Exit -> Act -> World -> Prop} {ops : Array Oper} {rest : List Oper} {o : Oper}
theorem at_range{d:Nat}{t:TypeId}{x:Operand}{l:Bs}(hw:want ops Γ o=some true)(ho:o.op= .range t x)(hd:o.dst=some d)(hn:C0 d n=true)(ht:P.underlying t=some .string)(hx:Γ.ev x=some (.string (bs l)))
  (k: ∀b,At β n ((d,.pointer (some ⟨b,0,none⟩))::Γ) (iterC b l 0::H) F (wpList P ops Q rest)):At β n Γ H F (wpList P ops Q (o::rest)):=
 fV hw λa w S f s c=>by
  have hr:(execOp a.eval o).run P w= .ok (.value (.pointer (some ⟨w.heap.size,0,none⟩))) (w.alloc (.stringIter (bs l) 0)):=by
   unfold execOp;simp only[ho,f.ev hx,E6,run_range_string w t (bs l) ht];rfl
  unfold F4;rw[hr,F5,hd];exact k _ _ _ S (f.put m9 _) (s.alloc _) (All.alloc s c _)
theorem at_next_end{d b:Nat}{x:Operand}{l:Bs}{pos:Nat}{H':List bC}(hH:bU H (iterC b l pos) H')(hp:l.length<=pos)(hw:want ops Γ o=some true)(ho:o.op= .next x true)(hd:o.dst=some d)(hn:C0 d n=true)(hx:Γ.ev x=some (.pointer (some ⟨b,0,none⟩)))
  (k:At β n ((d,.tuple #[.bool false])::Γ) H F (wpList P ops Q rest)):At β n Γ H F (wpList P ops Q (o::rest)):=
 fV hw λa w S f s c=>by
  have hb:w.heap[b]?=some (.stringIter (bs l) pos):=s.ok _ hH.mem
  have hr:(execOp a.eval o).run P w= .ok (.value (.tuple #[.bool false])) w:=by
   unfold execOp;simp only[ho,f.ev hx,E6,Lib.run_next_end_at w b (bs l) pos _ hb (by rw[bs_size];omega)];rfl
  unfold F4;rw[hr,F5,hd];exact k _ _ S (f.put m9 _) s c
theorem at_next_at{d b:Nat}{x:Operand}{l:Bs}{pos:Nat}{c:UInt8}{H':List bC}(hH:bU H (iterC b l pos) H')(hp:l[pos]?=some c)(hc:c.toNat<128)(hw:want ops Γ o=some true)(ho:o.op= .next x true)(hd:o.dst=some d)(hn:C0 d n=true)(hx:Γ.ev x=some (.pointer (some ⟨b,0,none⟩)))
  (k:At β n ((d,.tuple #[.bool true,j5 (pos:Nat),.int .i32 (c.toNat:Nat)])::Γ) (iterC b l (pos+1)::H') F (wpList P ops Q rest)):At β n Γ H F (wpList P ops Q (o::rest)):=
 fV hw λa w S f s p=>by
  have hb:w.heap[b]?=some (.stringIter (bs l) pos):=s.ok _ hH.mem;obtain⟨hlt,q⟩:=D9.1 hp;have m:pos<(bs l).size:=by rw[bs_size];exact hlt
  have i:(bs l)[pos]'m=c:=by
   rw[<-q];simp[bs,ByteArray.getElem_eq_getElem_data]
  have hr:(execOp a.eval o).run P w= .ok (.value (.tuple #[.bool true,.int .i64 (pos:Nat),.int .i32 (c.toNat:Nat)])) (setBlock w b (.stringIter (bs l) (pos+1))):=by
   unfold execOp;simp only[ho,f.ev hx,E6,Lib.run_next_ascii_at w b (bs l) pos _ hb m (by rw[i];exact hc),i];rfl
  unfold F4;rw[hr,F5,hd];have j:=s.perm hH.perm;have g:b<w.heap.size:=(N6.1 hb).1;refine k _ _ S (f.put m9 _) (j.swap iN rfl rfl ?_) (All.mono (λ_ h=>h) (s.agree iN (λc hc e=>by subst e;exact(j.own _ (D5 ..) _ rfl).2.2 hc)) p);show(setBlock w b _).heap[b]?=_;simp[setBlock,g]
end
end
section
open Go.RowKit Go.Proofs.Tryz
theorem iteP{α:Type}{Q:α->Prop}{p:Prop} [Decidable p]{a b:α}(ha:Q a)(hb:Q b):Q (if p then a else b):=by
 by_cases h:p
 .rw[if_pos h];exact ha
 .rw[if_neg h];exact hb
def SmallB(r:List UInt8×List UInt8):Prop:= ∀c∈r.2,c.toNat<128
theorem hasN_small(op:Int):SmallB (hasN op):=by
 unfold hasN
 repeat' refine iteP (Q:=SmallB) ?_ ?_
 all_goals (unfold SmallB;decide)
theorem bPc{c:UInt8}: ∀{l:List UInt8} {x:cA},uR x (l++[c])=bDw (uR x l) c
 |[],_=>rfl
 |_::l,_=>bPc (l:=l)
theorem zM{x:cA}{l:List UInt8}{k:Nat}{c:UInt8}(h:l[k]?=some c):uR x (l.take (k+1))=bDw (uR x (l.take k)) c:=by
 obtain⟨hlt,e⟩:=D9.1 h;subst e;rw[V1 hlt,bPc]
theorem u8_ofH{c d:UInt8}{k:Nat}(h:((c.toNat:Nat):Int)=(k:Nat))(hd:d.toNat=k):c=d:=UInt8.toNat_inj.1 k9
theorem bBh{c d:UInt8}{k:Nat}(h:((c.toNat:Nat):Int)≠(k:Nat))(hd:d.toNat=k):c≠d:=λe=>h (by rw[e,hd])
theorem rt_four(n:List UInt8)(a b c:Int):n=[]\/(n≠[]/\16<=a)\/(n≠[]/\ ¬16<=a/\16<=b)\/(n≠[]/\ ¬16<=a/\ ¬16<=b/\16<=c)\/(n≠[]/\ ¬16<=a/\ ¬16<=b/\ ¬16<=c):=by
 rcases eN (n=[])with h|h
 .exact .inl h
 .rcases eN (16<=a)with h1|h1
  .exact .inr (.inl ⟨h,h1⟩)
  .rcases eN (16<=b)with d|d
   .exact .inr (.inr (.inl ⟨h,h1,d⟩))
   .rcases eN (16<=c)with e|e
    .exact .inr (.inr (.inr (.inl ⟨h,h1,d,e⟩)))
    .exact .inr (.inr (.inr (.inr ⟨h,h1,d,e⟩)))
theorem bCo:(prog.info? 52).bind (·.zero)=some (.agg #[j6 0,j6 0,j6 0,j6 0,.int .i32 0]):=l4
set_option maxHeartbeats 1000000 in
theorem has_spec(op:Int):bZ prog 45 [j6 op] [] [] (λ(_:Unit)=> .tuple #[.string (bs (hasN op).1),.string (bs (hasN op).2)]) (λ_=>[]) (λ_=>[]):=by
 have hT:=cO;refine i7 func45 ntmps45 ?_;intro β hM;refine g19 ?_;refine fG (λd=>?_) λd=>?_
 .refine g9 ?_;have j:hasN op=([104,97,108,116],[]):=by unfold hasN;rw[if_pos d]
  rw[j];exact rs2 () trivial
 refine g6 ?_;refine fG (λg=>?_) λg=>?_
 .refine g9 ?_;have j:hasN op=([102,97,105,108],[105]):=by unfold hasN;rw[if_neg d,if_pos g]
  rw[j];exact rs2 () trivial
 refine g6 ?_;refine fG (λi=>?_) λi=>?_
 .refine g9 ?_;have j:hasN op=([106,117,109,112],[105]):=by unfold hasN;rw[if_neg d,if_neg g,if_pos i]
  rw[j];exact rs2 () trivial
 refine g6 ?_;refine fG (λa=>?_) λa=>?_
 .refine g9 ?_;have j:hasN op=([99,111,110,115,116],[97,105]):=by unfold hasN;rw[if_neg d,if_neg g,if_neg i,if_pos a]
  rw[j];exact rs2 () trivial
 refine g6 ?_;refine fG (λb=>?_) λb=>?_
 .refine g9 ?_;have j:hasN op=([104,105,103,104],[97,105]):=by unfold hasN;rw[if_neg d,if_neg g,if_neg i,if_neg a,if_pos b]
  rw[j];exact rs2 () trivial
 refine g6 ?_;refine fG (λc=>?_) λc=>?_
 .refine g9 ?_;have j:hasN op=([122,101,114,111],[97,105]):=by unfold hasN;rw[if_neg d,if_neg g,if_neg i,if_neg a,if_neg b,if_pos c]
  rw[j];exact rs2 () trivial
 refine g6 ?_;refine fG (λf=>?_) λf=>?_
 .refine g9 ?_;have j:hasN op=([99,111,112,121],[97,98]):=by unfold hasN;rw[if_neg d,if_neg g,if_neg i,if_neg a,if_neg b,if_neg c,if_pos f]
  rw[j];exact rs2 () trivial
 refine g6 ?_;refine fG (λh=>?_) λh=>?_
 .refine g9 ?_;have j:hasN op=([108,111,97,100],[97,98,105]):=by unfold hasN;rw[if_neg d,if_neg g,if_neg i,if_neg a,if_neg b,if_neg c,if_neg f,if_pos h]
  rw[j];exact rs2 () trivial
 refine g6 ?_;refine fG (λk=>?_) λk=>?_
 .refine g9 ?_;have j:hasN op=([115,116,111,114,101],[97,98,105]):=by unfold hasN;rw[if_neg d,if_neg g,if_neg i,if_neg a,if_neg b,if_neg c,if_neg f,if_neg h,if_pos k]
  rw[j];exact rs2 () trivial
 refine g6 ?_;refine fG (λl=>?_) λl=>?_
 .refine g9 ?_;have j:hasN op=([108,101,115,115],[97,98,105]):=by unfold hasN;rw[if_neg d,if_neg g,if_neg i,if_neg a,if_neg b,if_neg c,if_neg f,if_neg h,if_neg k,if_pos l]
  rw[j];exact rs2 () trivial
 refine g6 ?_;refine fG (λm=>?_) λm=>?_
 .refine g9 ?_;have j:hasN op=([97,100,100],[97,98,105]):=by unfold hasN;rw[if_neg d,if_neg g,if_neg i,if_neg a,if_neg b,if_neg c,if_neg f,if_neg h,if_neg k,if_neg l,if_pos m]
  rw[j];exact rs2 () trivial
 refine g6 ?_
 by_cases n:128<=op
 .refine g3 ?_;refine bQ (t':=true) (decide_eq_true n) ?_;refine g3 ?_;refine bF (z':=(op-128)%256) (pF _) ?_;refine f7 func100 (oX ((op-128)%256) true) .nil e8 λ_=>?_;refine g4 ?_;refine uY (λq=>?_) λq=>?_
  .refine g9 ?_;have j:hasN op=([116,119,111],[110,97,98,99]):=by unfold hasN;rw[if_neg d,if_neg g,if_neg i,if_neg a,if_neg b,if_neg c,if_neg f,if_neg h,if_neg k,if_neg l,if_neg m,if_pos ⟨n,q⟩]
   rw[j];exact rs2 () trivial
  refine fS ?_;have o:64<=op:=k9
  refine g3 ?_;refine bQ (t':=true) (decide_eq_true o) ?_;refine g3 ?_;refine bQ (t':=false) (decide_eq_false k9) ?_;refine g20 ?_;have j:hasN op=([],[]):=by unfold hasN;rw[if_neg d,if_neg g,if_neg i,if_neg a,if_neg b,if_neg c,if_neg f,if_neg h,if_neg k,if_neg l,if_neg m,if_neg (λe=>by have:=e.2;rw[q]at this;cases this),if_neg (λe=>by omega)]
  rw[j];exact rs2 () trivial
 refine g3 ?_;refine bQ (t':=false) (decide_eq_false n) ?_;refine g10 ?_
 by_cases o:64<=op
 .refine g3 ?_;refine bQ (t':=true) (decide_eq_true o) ?_;refine g3 ?_;refine bQ (t':=true) (decide_eq_true k9) ?_;refine g4 ?_;refine bF (z':=(op-64)%256) (pF _) ?_;refine f7 func100 (oX ((op-64)%256) false) .nil e8 λ_=>?_;refine g4 ?_;refine uY (λp=>?_) λp=>?_
  .refine g9 ?_;have j:hasN op=([111,110,101],[110,97,98]):=by unfold hasN;rw[if_neg d,if_neg g,if_neg i,if_neg a,if_neg b,if_neg c,if_neg f,if_neg h,if_neg k,if_neg l,if_neg m,if_neg (λe=>n e.1),if_pos ⟨⟨o,k9⟩,p⟩]
   rw[j];exact rs2 () trivial
  refine g10 ?_;have j:hasN op=([],[]):=by unfold hasN;rw[if_neg d,if_neg g,if_neg i,if_neg a,if_neg b,if_neg c,if_neg f,if_neg h,if_neg k,if_neg l,if_neg m,if_neg (λe=>n e.1),if_neg (λe=>by have:=e.2;rw[p]at this;cases this)]
  rw[j];exact rs2 () trivial
 refine g3 ?_;refine bQ (t':=false) (decide_eq_false o) ?_;refine g23 ?_;have j:hasN op=([],[]):=by unfold hasN;rw[if_neg d,if_neg g,if_neg i,if_neg a,if_neg b,if_neg c,if_neg f,if_neg h,if_neg k,if_neg l,if_neg m,if_neg (λe=>n e.1),if_neg (λe=>o e.1.1)]
 rw[j];exact rs2 () trivial
set_option maxHeartbeats 1000000 in
theorem zF(i:cA):bZ prog 16 [.agg #[j6 i.op,j6 i.a,j6 i.b,j6 i.c,.int .i32 i.imm]] [] [] (λ(_:Unit)=> .bool (gW i)) (λ_=>[]) (λ_=>[]):=by
 have hT:=cO;refine i7 func16 ntmps16 ?_;intro β hM;refine g2 ?_;refine i6 λt=>?_;refine g7 ?_;refine f7 func45 (has_spec i.op) .nil e8 λ_=>?_;refine g9 ?_
 rcases rt_four (hasN i.op).1 i.a i.b i.c with h0|⟨h0,h1⟩|⟨h0,h1,o⟩|⟨h0,h1,o,p⟩|⟨h0,h1,o,p⟩
 .refine g3 ?_;refine bQ (t':=true) (by show((hasN i.op).1==[])=_;rw[h0];rfl) ?_;refine g25 ?_;have h:gW i=false:=if_pos (.inl h0);rw[h];exact rs1 () trivial
 .refine g3 ?_;refine bQ (t':=false) p6 ?_;refine g4 ?_;refine bQ (t':=true) (decide_eq_true h1) ?_;refine g21 ?_;have h:gW i=false:=if_pos (.inr (.inl h1));rw[h];exact rs1 () trivial
 .refine g3 ?_;refine bQ (t':=false) p6 ?_;refine g4 ?_;refine bQ (t':=false) (decide_eq_false h1) ?_;refine g5 ?_;refine bQ (t':=true) (decide_eq_true o) ?_;refine g16 ?_;have h:gW i=false:=if_pos (.inr (.inr (.inl o)));rw[h];exact rs1 () trivial
 .refine g3 ?_;refine bQ (t':=false) p6 ?_;refine g4 ?_;refine bQ (t':=false) (decide_eq_false h1) ?_;refine g5 ?_;refine bQ (t':=false) (decide_eq_false o) ?_;refine g5 ?_;refine bQ (t':=true) (decide_eq_true p) ?_;refine g11 ?_;have h:gW i=false:=if_pos (.inr (.inr (.inr p)));rw[h];exact rs1 () trivial
 refine g3 ?_;refine bQ (t':=false) p6 ?_;refine g4 ?_;refine bQ (t':=false) (decide_eq_false h1) ?_;refine g5 ?_;refine bQ (t':=false) (decide_eq_false o) ?_;refine g5 ?_;refine bQ (t':=false) (decide_eq_false p) ?_;refine g9 ?_;refine f9 bCo λs=>?_;refine g7 ?_;refine at_range rfl rfl rfl rfl underlying9 rfl λr=>?_;refine g3 ?_;refine bY (ι:=Nat×cA) [(1,_),(5,_),(33,_)] ⟨rfl,rfl,rfl,e8⟩ (λ_=>[]) (λ⟨k,y⟩=>[iterC r (hasN i.op).2 k,.obj s (.cells ([.int .u8 y.op,.int .u8 y.a,.int .u8 y.b,.int .u8 y.c,.int .i32 y.imm]:List Value).toArray 52)]) (λ⟨k,y⟩=>[bE.pure (k<=(hasN i.op).2.length/\y=(uR i ((hasN i.op).2.take k)))]) (λ⟨k,y⟩=>(hasN i.op).2.length-k) (0,i) e8 (.c0 (.c0 .nil)) ⟨e9 (⟨P2 _,rfl⟩),e8⟩ ?_;rintro⟨k,y⟩;dsimp only;refine bM d7 λf=>?_;refine fS ?_
 rcases H3 k (hasN i.op).2.length with q|q
 .obtain⟨c,n⟩: ∃c,(hasN i.op).2[k]?=some c:=⟨_,D7 q⟩
  refine one ?_;refine at_next_at .head n (hasN_small i.op c (f4 n)) rfl rfl rfl rfl rfl ?_;refine g26 ?_;refine fG (λg=>?_) λg=>?_
  .refine g7 ?_;have h:(⟨y.op,0,y.b,y.c,y.imm⟩:cA)=uR i ((hasN i.op).2.take (k+1)):=by rw[zM n,<-f.2];exact(show bDw y c=⟨y.op,0,y.b,y.c,y.imm⟩ by unfold bDw;rw[if_pos (u8_ofH (d:=97) g rfl)]).symm
   exact bk2 (k+1,⟨y.op,0,y.b,y.c,y.imm⟩) ⟨e9 (⟨by dsimp only;omega,h⟩),e8⟩
  refine g6 ?_;refine fG (λj=>?_) λj=>?_
  .refine g7 ?_;have h:(⟨y.op,y.a,0,y.c,y.imm⟩:cA)=uR i ((hasN i.op).2.take (k+1)):=by rw[zM n,<-f.2];exact(show bDw y c=⟨y.op,y.a,0,y.c,y.imm⟩ by unfold bDw;rw[if_neg (bBh (d:=97) g rfl),if_pos (u8_ofH (d:=98) j rfl)]).symm
   exact bk2 (k+1,⟨y.op,y.a,0,y.c,y.imm⟩) ⟨e9 (⟨by dsimp only;omega,h⟩),e8⟩
  refine g6 ?_;refine fG (λl=>?_) λl=>?_
  .refine g7 ?_;have h:(⟨y.op,y.a,y.b,0,y.imm⟩:cA)=uR i ((hasN i.op).2.take (k+1)):=by rw[zM n,<-f.2];exact(show bDw y c=⟨y.op,y.a,y.b,0,y.imm⟩ by unfold bDw;rw[if_neg (bBh (d:=97) g rfl),if_neg (bBh (d:=98) j rfl),if_pos (u8_ofH (d:=99) l rfl)]).symm
   exact bk2 (k+1,⟨y.op,y.a,y.b,0,y.imm⟩) ⟨e9 (⟨by dsimp only;omega,h⟩),e8⟩
  refine g6 ?_;refine fG (λm=>?_) λm=>?_
  .refine g7 ?_;have h:(⟨y.op,y.a,y.b,y.c,0⟩:cA)=uR i ((hasN i.op).2.take (k+1)):=by rw[zM n,<-f.2];exact(show bDw y c=⟨y.op,y.a,y.b,y.c,0⟩ by unfold bDw;rw[if_neg (bBh (d:=97) g rfl),if_neg (bBh (d:=98) j rfl),if_neg (bBh (d:=99) l rfl),if_pos (u8_ofH (d:=105) m rfl)]).symm
   exact bk2 (k+1,⟨y.op,y.a,y.b,y.c,0⟩) ⟨e9 (⟨by dsimp only;omega,h⟩),e8⟩
  refine g4 ?_;have h:(y:cA)=uR i ((hasN i.op).2.take (k+1)):=by rw[zM n,<-f.2];exact(show bDw y c=y by unfold bDw;rw[if_neg (bBh (d:=97) g rfl),if_neg (bBh (d:=98) j rfl),if_neg (bBh (d:=99) l rfl),if_neg (bBh (d:=105) m rfl)]).symm
  exact bk2 (k+1,y) ⟨e9 (⟨by dsimp only;omega,h⟩),e8⟩
 refine one ?_;refine at_next_end .head k9 rfl rfl rfl rfl rfl ?_;refine g15 ?_;refine ss (cC rfl rfl (pM _)) ?_;refine ss (sti_eql_ins y ⟨i.op,0,0,0,0⟩ rfl rfl rfl) ?_;refine g4 ?_;have h:gW i=insEq y ⟨i.op,0,0,0,0⟩:=by rw[f.2,V2 q];exact if_neg (λe=>e.elim h0 (λe=>e.elim h1 (λe=>e.elim o p)))
 rw[h];exact rs1 () trivial
theorem lk_three(z:Int):z=7\/(z≠7/\z=8)\/(z≠7/\z≠8/\z=9)\/(z≠7/\z≠8/\z≠9):=k9
theorem rp_three(a b:Int)(t:Bool):a<0\/(¬a<0/\b<0)\/(¬a<0/\ ¬b<0/\t=false)\/(¬a<0/\ ¬b<0/\t=true):=by
 rcases eN (a<0)with h|h
 .exact .inl h
 .rcases eN (b<0)with h1|h1
  .exact .inr (.inl ⟨h,h1⟩)
  .cases t
   .exact .inr (.inr (.inl ⟨h,h1,rfl⟩))
   .exact .inr (.inr (.inr ⟨h,h1,rfl⟩))
theorem rp_to(a:Int)(t:Bool):a=0\/(a≠0/\t=true)\/(a≠0/\t=false):=by
 rcases eN (a=0)with h|h
 .exact .inl h
 .cases t
  .exact .inr (.inr ⟨h,rfl⟩)
  .exact .inr (.inl ⟨h,rfl⟩)
theorem decide_imm(z:Int):decide (z=0)=(z==0):=by
 by_cases h:z=0
 .rw[h];rfl
 .rw[decide_eq_false h,beq_eq_false_iff_ne.2 h]
theorem bQi(i:cA):bZ prog 142 [.agg #[j6 i.op,j6 i.a,j6 i.b,j6 i.c,.int .i32 i.imm]] [] [] (λ(_:Unit)=> .bool (xC i)) (λ_=>[]) (λ_=>[]):=by
 have hT:=cO;refine i7 func142 ntmps142 ?_;intro β hM;refine g2 ?_;refine i6 λj=>?_;refine g4 ?_
 rcases lk_three i.op with d|⟨d,g⟩|⟨d,g,h⟩|⟨d,g,h⟩
 .refine g4 ?_;refine bQ (t':=true) (by rw[d];rfl) ?_;refine g14 ?_;have f:xC i=true:=decide_eq_true (.inl d);rw[f];exact rs1 () trivial
 .refine g4 ?_;refine bQ (t':=false) (by simpa using d) ?_;refine g4 ?_;refine bQ (t':=true) (by rw[g];rfl) ?_;refine g10 ?_;have f:xC i=true:=decide_eq_true (.inr (.inl g));rw[f];exact rs1 () trivial
 .refine g4 ?_;refine bQ (t':=false) (by simpa using d) ?_;refine g4 ?_;refine bQ (t':=false) (by simpa using g) ?_;refine g5 ?_;refine bQ (t':=true) (by rw[h];rfl) ?_;refine g5 ?_;have f:xC i=true:=decide_eq_true (.inr (.inr h));rw[f];exact rs1 () trivial
 refine g4 ?_;refine bQ (t':=false) (by simpa using d) ?_;refine g4 ?_;refine bQ (t':=false) (by simpa using g) ?_;refine g5 ?_;refine bQ (t':=false) (by simpa using h) ?_;refine g5 ?_;have f:xC i=false:=decide_eq_false (λe=>e.elim d (λe=>e.elim g h));rw[f];exact rs1 () trivial
theorem bFq(p:PcV):bZ prog 74 [.agg #[j5 p.mark,j6 p.ins.op,j6 p.ins.a,j6 p.ins.b,j6 p.ins.c,.int .i32 p.ins.imm,j5 p.to_]] [] [] (λ(_:Unit)=> .bool (gS p)) (λ_=>[]) (λ_=>[]):=by
 have hT:=cO;refine i7 func74 ntmps74 ?_;intro β hM;refine g2 ?_;refine i6 λh=>?_;refine g5 ?_
 rcases rp_three p.mark p.to_ (gW p.ins)with h0|⟨h0,h1⟩|⟨h0,h1,g⟩|⟨h0,h1,g⟩
 .refine g4 ?_;refine bQ (t':=true) (decide_eq_true h0) ?_;refine g21 ?_;have d:gS p=false:=if_pos (.inl h0);rw[d];exact rs1 () trivial
 .refine g4 ?_;refine bQ (t':=false) (decide_eq_false h0) ?_;refine g4 ?_;refine bQ (t':=true) (decide_eq_true h1) ?_;refine g17 ?_;have d:gS p=false:=if_pos (.inr (.inl h1));rw[d];exact rs1 () trivial
 .refine g4 ?_;refine bQ (t':=false) (decide_eq_false h0) ?_;refine g4 ?_;refine bQ (t':=false) (decide_eq_false h1) ?_;refine g4 ?_;refine f7 func16 (zF p.ins) .nil e8 λ_=>?_;refine bQ (t':=false) (g) ?_;refine g12 ?_;have d:gS p=false:=if_pos (.inr (.inr g));rw[d];exact rs1 () trivial
 refine g4 ?_;refine bQ (t':=false) (decide_eq_false h0) ?_;refine g4 ?_;refine bQ (t':=false) (decide_eq_false h1) ?_;refine g4 ?_;refine f7 func16 (zF p.ins) .nil e8 λ_=>?_;refine bQ (t':=true) (g) ?_;refine g8 ?_
 rcases rp_to p.to_ (xC p.ins)with f|⟨f,h4⟩|⟨f,h4⟩
 .refine g4 ?_;refine bQ (t':=true) (by rw[f];rfl) ?_;refine g15 ?_;have d:gS p=true:=by unfold gS;rw[if_neg (λe=>e.elim h0 (λe=>e.elim h1 (λe=>by rw[g]at e;cases e))),decide_eq_true f,Bool.true_or]
  rw[d];exact rs1 () trivial
 .refine g4 ?_;refine bQ (t':=false) (by simpa using f) ?_;refine g3 ?_;refine f7 func142 (bQi p.ins) .nil e8 λ_=>?_;refine bQ (t':=true) (h4) ?_;refine g11 ?_;have d:gS p=(p.ins.imm==0):=by unfold gS;rw[if_neg (λe=>e.elim h0 (λe=>e.elim h1 (λe=>by rw[g]at e;cases e))),decide_eq_false f,Bool.false_or,h4,Bool.true_and];exact decide_imm _
  rw[d];exact rs1 () trivial
 refine g4 ?_;refine bQ (t':=false) (by simpa using f) ?_;refine g3 ?_;refine f7 func142 (bQi p.ins) .nil e8 λ_=>?_;refine bQ (t':=false) (h4) ?_;refine g11 ?_;have d:gS p=false:=by unfold gS;rw[if_neg (λe=>e.elim h0 (λe=>e.elim h1 (λe=>by rw[g]at e;cases e))),decide_eq_false f,Bool.false_or,h4,Bool.false_and]
 rw[d];exact rs1 () trivial
open Go.ChangeMaps (setBlock)
def bEi (P:Program)(fn:Func)(tmps:Array Value)(R:Ending->World->Prop):List Deferred->World->Prop
 |[],w=> ∃v,(results fn tmps).run P w= .ok v w/\R (.returned v) w
 |d::ds,w=> ∃b ts t cs v w',d.target= .builtin b ts t cs/\(invoke d.target d.args).run P w= .ok (.value v) w'/\bEi P fn tmps R ds w'
def bAd (P:Program)(fn:Func)(R:Ending->World->Prop):Exit->Act->World->Prop
 |.normal,a,w|.ret,a,w=>bEi P fn a.tmps R a.defers w
 |.outgrown,_,w=>R .outgrown w
 |_,_,_=>False
section
variable {P : Program}
theorem step_deferB{fr:Frame}{cs:List Frame}{w w':World}{d:Deferred}{ds:List Deferred}{b:Builtin}{ts:Array TypeId}{t:TypeId}{ks:Array Bool}{v:Value}(hm:fr.mode= .returning)(hd:fr.defers=d::ds)(ht:d.target= .builtin b ts t ks)
  (hi:(invoke d.target d.args).run P w= .ok (.value v) w'):step P (lone fr cs w)= .next (lone {fr with defers:=ds} cs w'):=by
 obtain⟨g,a⟩:=d;simp only at ht hi;subst ht;refine step_lone_go ?_;simp[stepG,unwind,callDeferred,hm,hd,hi]
theorem uM{fn:Func}{tmps:Array Value}{R:Ending->World->Prop}: ∀(ds:List Deferred) (w:World) (fr:Frame) (cs:List Frame),fr.mode= .returning->fr.defers=ds->fr.tmps=tmps->P.funcs[fr.fn]?=some fn->fr.kind= .normal->bEi P fn tmps R ds w->
  ∃e w' fr',R e w'/\Comes P (lone fr cs w) (lone fr' cs w') e/\fr'.fn=fr.fn/\fr'.leaving P w' e
 |[],w,fr,cs,hu,hd,ht,hf,hk,⟨v,hr,hR⟩=>⟨.returned v,w,fr,hR,Steps.refl P _,rfl,hu,hd,hk,fn,hf,ht▸hr⟩
 |d::ds,w,fr,cs,hu,hd,ht,hf,hk,⟨b,ts,t,ks,v,w',htar,hinv,h⟩=>by
  have h1:=step_deferB (cs:=cs) hu hd htar hinv;obtain⟨j,c,fr',i,f,a,g⟩:=uM ds w' {fr with defers:=ds} cs hu rfl ht hf hk h;exact⟨j,c,fr',i,Comes.of_steps (.one h1) f,a,g⟩
theorem bGr{f:FuncId}{fn:Func}{c:Code}{args:Array Value}{w:World}{R:Ending->World->Prop}(hf:P.funcs[f]?=some fn)(hb:fn.body=some c)
  (h:c.wp P (bAd P fn R) {tmps:=args++A8 (fn.ntmps-args.size) undef,defers:=[]} w):Calls P f args w R:=by
 intro q
 let b:Frame:={(default:Frame)with fn:=f,kind:= .normal}
 have d:Frame.enter P f args .normal=b.at {tmps:=args++A8 (fn.ntmps-args.size) undef,defers:=[]} [.code c]:=by
  simp[Frame.enter,Frame.at,hf,hb,b]
 obtain⟨e,m,w',hq,a⟩:=h b [] q;rw[<-d]at a
 cases e with
 |normal=>
  obtain⟨p,g,j,o,n,i,hl⟩:=uM m.defers w' {b.at m []with mode:= .returning} q rfl rfl rfl hf rfl hq;exact⟨p,g,j,o,Comes.of_steps (Steps.trans a (.one step_end)) n,i,hl⟩
 |ret=>
  obtain⟨k,hs₀⟩:=a;obtain⟨p,g,j,o,n,i,hl⟩:=uM m.defers w' {b.at m k with mode:= .returning} q rfl rfl rfl hf rfl hq;exact⟨p,g,j,o,Comes.of_steps hs₀ n,i,hl⟩
 |panic chain=>exact hq.elim
 |exit id=>exact hq.elim
 |goto l=>exact hq.elim
 |outgrown=>exact⟨.outgrown,w',b,hq,a.resolve_left (by simp[b]),rfl,e8⟩
end
section
variable {P : Program} {β : dE} {n : Nat} {Γ : Env} {H H' : List bC} {F : List bE} {Q : Exit -> Act -> World -> Prop} {fn : Func} {R : Ending -> World -> Prop}
theorem at_deferB{ops:Array Oper}{rest:List Oper}{o:Oper}{x:Operand}{b:Builtin}{t:TypeId}{v:Value}(hw:want ops Γ o=some true)(ho:o.op= .defer ⟨.builtin b,#[x],#[t]⟩)(hx:Γ.ev x=some v)(hd:o.dst=none)
  (k: ∀ty ks,At β n Γ H F (Df [{target:= .builtin b #[t] ty ks,args:= #[v]}] (wpList P ops Q rest))):At β n Γ H F (wpList P ops Q (o::rest)):=
 fV hw λa w S f s c=>by
  unfold F4
  have hr: ∃ty ks,(execOp a.eval o).run P w= .ok (.defer {target:= .builtin b #[t] ty ks,args:= #[v]}) w:=by
   unfold execOp;simp only[ho,resolve,E6,Sem.run_pure,E8];simp[f.ev hx]
  obtain⟨ty,ks,hr⟩:=hr;rw[hr,Oper.upon_defer,hd];have:=k ty ks a w S f s c;unfold Df dfA at this;rw[f.defers]at this⊢;exact this
theorem retB_before(h:At β n Γ H F (bodyPost P fn R .ret)):At β n Γ H F (bAd P fn R .ret):=λa w S f s k=>by
 obtain⟨hd,v,b⟩:=h a w S f s k;show bEi P fn a.tmps R a.defers w;rw[hd];exact⟨v,b⟩
theorem bLo{t kt et ty:TypeId}{ks:Array Bool}{r:Nat}{kk:IntKind}{kv:KV}(ht:P.underlying t=some (.map kt et))(hH:bU H (bOx r kk kv) H')
  (k:At β n Γ (bOx r kk []::H') F (bodyPost P fn R .ret)):At β n Γ H F (Df [{target:= .builtin .clear #[t] ty ks,args:= #[.map (some r)]}] (bAd P fn R .ret)):=λa w S f s j=>by
 obtain⟨q,b,ho,p⟩:MapO kk kv (w.heap[r]?):=s.ok _ hH.mem;show bEi P fn a.tmps R (a.defers++[{target:= .builtin .clear #[t] ty ks,args:= #[.map (some r)]}]) w;rw[f.defers];have hlt:r<w.heap.size:=(N6.1 ho).1
 have hr:(invoke (.builtin .clear #[t] ty ks) #[.map (some r)]).run P w= .ok (.value (.tuple #[])) (setBlock w r (.map #[] b)):=by
  unfold invoke builtin Builtin.clear_;simp[E6,run_underlying ht,getObj,setObj,Sem.run,ho,Result.andThen,setBlock]
 have d:=s.perm hH.perm;have g:=d.swap (c':=bOx r kk []) (iN (w:=w) (r:=r) (o:= .map #[] b)) rfl rfl (show MapO kk [] ((setBlock w r (.map #[] b)).heap[r]?)from ⟨#[],b,by simp[setBlock,hlt],rfl⟩);obtain⟨hd,v,i,m⟩:=k a _ _ f g (All.mono (λ_ h=>h) (s.agree iN (λc l e=>by subst e;exact(d.own _ (D5 ..) _ rfl).2.2 l)) j);exact⟨.clear,#[t],ty,ks,_,_,rfl,hr,v,i,m⟩
theorem spec_defB{ι:Type}{f:FuncId}{c:Code}{args:List Value}{Hin:List bC}{Pre:List bE}{val:ι->Value}{Hout:ι->List bC}{post:ι->List bE}(hf:P.funcs[f]?=some fn)(hb:fn.body=some c)(hn:fn.ntmps=n)
  (hl:Nat.ble args.length n=true) (h: ∀β,β.M=kZ Hin->At β n (bBm 0 args) Hin Pre (c.wp P (bAd P fn (bRo β val Hout post)))):bZ P f args Hin Pre val Hout post:=λS w s k=>by
 refine bGr hf hb (h ⟨w,kZ Hin,S⟩ rfl _ w S ⟨rfl,?_,λi v b=>?_⟩ s k)
 .have:=Nat.le_of_ble_eq_true hl;simp;omega
 .obtain⟨_,a⟩:=sI 0 args i v b;simp only[Nat.sub_zero]at a;have hlt:i<args.length:=(D9.1 a).1;simp only[Array.getElem?_append];rw[if_pos p7]
  simpa using a
end
end
section
open Go.RowKit Go.Proofs.Tryz
def bQl (m:mK):KV:=m.map λp=>(p.1,V9 .i64 p.2)
theorem bMs(k:Int): ∀m:mK,bOl k (bQl m)=(gX k m).map (V9 .i64 ·)
 |[]=>rfl
 |p::r=>by
  show(if k==p.1 then some (V9 .i64 p.2)else bOl k (bQl r))=_;unfold gX;split
  .rfl
  .exact bMs k r
theorem setM_V(k z:Int): ∀m:mK,bCk k (j5 z) (bQl m)=bQl (bIc k z m)
 |[]=>rfl
 |p::r=>by
  show(if k==p.1 then (k,V9 .i64 z)::bQl r else (p.1,V9 .i64 p.2)::bCk k (.int .i64 z) (bQl r))=_;unfold bIc;split
  .rfl
  .rw[setM_V k z r];rfl
theorem delM_V(k:Int): ∀m:mK,bKy k (bQl m)=bQl (delK k m)
 |[]=>rfl
 |p::r=>by
  show(if k==p.1 then bQl r else (p.1,V9 .i64 p.2)::bKy k (bQl r))=_;unfold delK;split
  .rfl
  .rw[delM_V k r];rfl
theorem intInfoG: ∃i:TypeInfo,prog.info? 3=some i/\i.zero=some (j5 0):=by
 have h:(prog.info? 3).map (λi=>i.zero)=some (some (.int .i64 0)):=l4
 cases a:prog.info? 3 with
 |none=>simp[a]at h
 |some i=>simp[a]at h;exact⟨i,rfl,h⟩
theorem bFv(w:World):(zeroValue 3).run prog w= .ok (j5 0) w:=by
 obtain⟨i,a,hz⟩:=intInfoG;simp[zeroValue,typeInfo,a,hz]
def sP:cA:=⟨0,0,0,0,0⟩
theorem all_rep(m:Nat):lO.all (T9 (m+1) sP)=lO.cells sP++lO.all (T9 m sP):=rfl
theorem made_len(m:Nat):(lO.all (T9 m sP)).length=m*5:=by
 induction m with
 |zero=>rfl
 |succ m ih=>rw[all_rep,E0,ih];show 5+m*5=_;omega
theorem all_at: ∀(m i:Nat),i<m*5->(lO.all (T9 m sP))[i]?=(lO.cells sP)[i%5]?
 |0,i,h=>by omega
 |m+1,i,h=>by
  rw[all_rep]
  rcases H3 i 5 with h1|h1
  .rw[aL (by exact h1),Nat.mod_eq_of_lt h1]
  .rw[eK (by exact h1),show(lO.cells sP).length=5 from rfl,all_at m (i-5) k9,show i%5=(i-5)%5 by omega]
theorem madeInsns(m:Nat):(madeCells (Value.agg #[j6 0,j6 0,j6 0,j6 0,.int .i32 0]).cells (m*5)).toList=lO.all (T9 m sP):=by
 apply Y3;intro i
 rcases H3 i (m*5)with h|h
 .rw[all_at m i h];have a:i%5<5:=Nat.mod_lt _ l5;unfold madeCells
  rcases (by omega:i%5=0\/i%5=1\/i%5=2\/i%5=3\/i%5=4)with e|e|e|e|e<;>simp[Value.cells,e,h,lO,sP]
 .rw[V5 (by unfold madeCells;simpa using h),V5 (by rw[made_len];exact h)]
section
variable {β : dE} {n : Nat} {Γ : Env} {H : List bC} {F : List bE} {Q : Exit -> Act -> World -> Prop} {ops : Array Oper} {rest : List Oper} {o : Oper} {d : Nat}
theorem at_makeInsns{m:Nat}{x y:Operand}(hw:want ops Γ o=some true)(ho:o.op= .makeSlice 29 x y)(hd:o.dst=some d)(hn:C0 d n=true)
  (hx:Γ.ev x=some (j5 (m:Nat))) (hy:Γ.ev y=some (j5 (m:Nat))) (hm:m<=1000000)
  (k: ∀b,At β n ((d,.slice (some ⟨b,0,none⟩) m m)::Γ) (lO.row (.slice (some ⟨b,0,none⟩) m m) 52 (T9 m sP)::H) F (wpList prog ops Q rest)):At β n Γ H F (wpList prog ops Q (o::rest)):=by
 obtain⟨i,c,hz,a,hb⟩:=insInfo;exact bAr (E:=lO) hw ho hd hn hx hy underlying29 c hz a aa2 v6 (madeInsns m) n4 k
end
section
variable {l : List PcV} {i : Nat} {m : mK} {X : Except (Nat × Int) mK} {Y : Except (Nat × Int) (List cA)} {p : PcV} {o : List cA} {q : Int}
theorem bNx(h:X=marksGo (l.drop i) i m)(hx:l[i]?=some p):X=if gS p=false then .error (i,170)else match gX p.mark m with
  |some _=> .error (i,171)
  |none=>marksGo (l.drop (i+1)) (i+1) (delK 0 (bIc p.mark (i:Int) m)):=by
 obtain⟨hlt,e⟩:=D9.1 hx;rw[h,<-Y2 hlt,e];rfl
theorem marks_bad(h:X=marksGo (l.drop i) i m)(hx:l[i]?=some p)(hr:gS p=false):X= .error (i,170):=by rw[bNx h hx,if_pos hr]
theorem marks_two(h:X=marksGo (l.drop i) i m)(hx:l[i]?=some p)(hr:gS p=true)(hg:gX p.mark m=some q):X= .error (i,171):=by rw[bNx h hx,if_neg (by rw[hr];decide),hg]
theorem marks_go(h:X=marksGo (l.drop i) i m)(hx:l[i]?=some p)(hr:gS p=true)(hg:gX p.mark m=none):X=marksGo (l.drop (i+1)) (i+1) (delK 0 (bIc p.mark (i:Int) m)):=by rw[bNx h hx,if_neg (by rw[hr];decide),hg]
theorem marks_end(h:X=marksGo (l.drop i) i m)(hi:l.length<=i):X= .ok m:=by
 rw[h,R5 hi];rfl
theorem bLx(h:Y=placeGoL m (l.drop i) i o)(hx:l[i]?=some p):Y=if p.to_=0 then placeGoL m (l.drop (i+1)) (i+1) (o++[p.ins])else match gX p.to_ m with
  |none=> .error (i,172)
  |some k=>placeGoL m (l.drop (i+1)) (i+1) (o++[{p.ins with imm:=w32 k}]):=by
 obtain⟨hlt,e⟩:=D9.1 hx;rw[h,<-Y2 hlt,e];rfl
theorem place_none(h:Y=placeGoL m (l.drop i) i o)(hx:l[i]?=some p)(h0:p.to_≠0)(hg:gX p.to_ m=none):Y= .error (i,172):=by rw[bLx h hx,if_neg h0,hg]
theorem place_end(h:Y=placeGoL m (l.drop i) i o)(hi:l.length<=i):Y= .ok o:=by
 rw[h,R5 hi];rfl
theorem takeI(o:List cA)(v:cA)(h:i<o.length):(o.set i v).take (i+1)=o.take i++[v]:=by
 rw[V1 (by rw[P6];exact h),List.getElem_set_self,List.take_set_of_le (B8 _)]
theorem place_go0(h:Y=placeGoL m (l.drop i) i (o.take i))(hx:l[i]?=some p)(h0:p.to_=0)(hi:i<o.length):Y=placeGoL m (l.drop (i+1)) (i+1) ((o.set i p.ins).take (i+1)):=by rw[bLx h hx,if_pos h0,takeI o _ hi]
theorem place_go1(h:Y=placeGoL m (l.drop i) i (o.take i))(hx:l[i]?=some p)(h0:p.to_≠0)(hg:gX p.to_ m=some q)(hi:i<o.length):Y=placeGoL m (l.drop (i+1)) (i+1) (((o.set i p.ins).set i ⟨p.ins.op,p.ins.a,p.ins.b,p.ins.c,w32 q⟩).take (i+1)):=by rw[bLx h hx,if_neg h0,hg,List.set_set,takeI o _ hi]
theorem link_many(h:32768<l.length):qY l= .error (0,173):=if_pos h
theorem link_bad(h: ¬32768<l.length){e:Nat×Int}(hx:marksGo l 0 []= .error e):qY l= .error e:=by unfold qY;rw[if_neg h,hx]
theorem link_go(h: ¬32768<l.length)(hx:marksGo l 0 []= .ok m):qY l=placeGoL m l 0 []:=by unfold qY;rw[if_neg h,hx]
theorem bAj{e:Nat×Int}(h:qY l= .error e):mD l=[]/\bSm l=(((e.1:Nat):Int),e.2):=by unfold mD bSm;rw[h];exact⟨rfl,rfl⟩
theorem linkC_ok(h:qY l= .ok o):mD l=o/\bSm l=(0,0):=by unfold mD bSm;rw[h];exact⟨rfl,rfl⟩
end
theorem pK:(prog.info? 184).bind (·.zero)=some (.agg #[j5 0,j6 0,j6 0,j6 0,j6 0,.int .i32 0,j5 0]):=l4
set_option maxHeartbeats 1000000 in
theorem Link_spec(A:Option Addr)(c:Nat)(l:List PcV)(hl:l.length<=1000000):bZ prog 30 [.slice A l.length c] [] [pcE.sl (.slice A l.length c) l] (λ(x:Option Addr×Nat)=> .tuple #[.slice x.1 (mD l).length x.2,j5 (bSm l).1,j5 (bSm l).2]) (λ(x:Option Addr×Nat)=>[lO.row (.slice x.1 (mD l).length x.2) 52 (mD l)]) (λ_=>[]):=by
 have hT:=cO
 obtain⟨X,z⟩: ∃X,marksGo l 0 []=X:=⟨_,rfl⟩
 refine spec_defB func30 rfl ntmps30 rfl ?_;intro β hM;refine g15 ?_;refine fD (λw=>?_) λw=>?_
 .refine g9 ?_;refine retB_before ?_;have e:qY l= .error (0,173):=link_many k9;obtain⟨s,r⟩:=bAj e;rw[s,r];refine cG (t:=52) lO ?_;exact rs3 (none,0) trivial
 refine g4 ?_;refine bPw .i64 rfl rfl rfl rfl λB=>?_;refine g6 ?_;refine at_deferB rfl rfl rfl rfl λJ K=>?_;refine d_list ?_;refine iL ?_;refine cZ ?_;refine iE ?_;refine iE ?_;refine dK ?_;refine g3 ?_;refine iL ?_;refine cZ ?_;refine d_blk ?_;refine d_loop2 (ι:=mK×Nat) [(0,_),(5,_),(20,_),(21,_)] ⟨rfl,rfl,rfl,rfl,e8⟩ (λ⟨m,i⟩=>[(22,.int .i64 (i:Nat))]) (λ⟨m,i⟩=>[bOx B .i64 (bQl m)]) (λ⟨m,i⟩=>[bE.pure (i<=l.length/\X=marksGo (l.drop i) i m)]) (λ⟨m,i⟩=>l.length-i) ([],0) ⟨rfl,e8⟩ (.c0 .nil) ⟨e9 (⟨k9,z.symm⟩),e8⟩ ?_;rintro⟨m,i⟩;dsimp only;refine bM d7 λg=>?_;refine iE ?_;refine dK ?_;refine one ?_;refine iL ?_;refine cZ ?_;refine iE ?_;refine bOb rfl (λj=>?_) (λj=>?_)
 .have j:=of_decide_eq_true j;refine bHn ?_;refine cZ ?_;refine iE ?_;refine d_blk ?_;refine iE ?_;obtain⟨p,n⟩:=gx l i;refine dK ?_;refine one ?_;refine ss (ixs i) ?_;refine ss (kV n 0) ?_;refine f9 pK λM=>?_;refine g2 ?_;refine iL ?_;refine cZ ?_;refine iE ?_;refine iE ?_
  rcases hr:gS p with _|_
  .refine dK ?_;refine one ?_;refine f7 func74 (bFq p) .nil e8 λ_=>?_;refine one ?_;refine bQ (t':=true) (by rw[hr];rfl) ?_;refine iL ?_;refine cZ ?_;refine d_true rfl rfl ?_;refine iE ?_;refine dK ?_;refine g4 ?_;refine iL ?_;refine cZ ?_;refine d_ret ?_;refine nS ?_;refine uZ ?_;refine nS ?_;refine nS ?_;refine uZ ?_;refine nS ?_;refine bLo underlying185 kT1 ?_;have e:qY l= .error (i,170):=link_bad k9 (z.trans (marks_bad g.2 n hr));obtain⟨s,r⟩:=bAj e;rw[s,r];refine cG (t:=52) lO ?_;exact rs3 (none,0) trivial
  refine dK ?_;refine one ?_;refine f7 func74 (bFq p) .nil e8 λ_=>?_;refine one ?_;refine bQ (t':=false) (by rw[hr];rfl) ?_;refine iL ?_;refine cZ ?_;refine d_false rfl rfl ?_;refine bHn ?_;refine cZ ?_;refine iE ?_;refine iE ?_
  rcases hg:gX p.mark m with _|q
  .refine dK ?_;refine g3 ?_;refine ss (lL (v:= .tuple #[.int .i64 0,.bool false]) (qA kT1) rfl underlying185 underlying3 bFv rfl rfl ab5) ?_;refine g5 ?_;refine iL ?_;refine cZ ?_;refine iE ?_;refine dK ?_;refine one ?_;refine iL ?_;refine cZ ?_;refine d_false rfl rfl ?_;refine bHn ?_;refine cZ ?_;refine iE ?_;refine dK ?_;refine g4 ?_;refine rQ kT1 rfl (.inl rfl) rfl underlying185 underlying3 rfl rfl rfl ?_;rw[setM_V];refine iL ?_;refine cZ ?_;refine dK ?_;refine one ?_;refine bUi .head rfl rfl rfl underlying185 underlying3 rfl rfl ?_;rw[delM_V];refine iL ?_;refine dn_block ?_;refine cZ ?_;refine dK ?_;refine one ?_;refine inc (i+1) ?_;refine one ?_;refine iL ?_;refine cZ ?_;exact d_back (iC (delK 0 (bIc p.mark (i:Nat) m),i+1) n3 ⟨rfl,e8⟩ ⟨rfl,rfl,rfl,rfl,e8⟩ (.c0 .nil) ⟨e9 (⟨by dsimp only;omega,by dsimp only;exact marks_go g.2 n hr hg⟩),e8⟩ (bA.drop 1))
  refine dK ?_;refine g3 ?_;refine ss (lL (v:= .tuple #[.int .i64 q,.bool true]) (qA kT1) rfl underlying185 underlying3 bFv rfl rfl ab5) ?_;refine g5 ?_;refine iL ?_;refine cZ ?_;refine iE ?_;refine dK ?_;refine one ?_;refine iL ?_;refine cZ ?_;refine d_true rfl rfl ?_;refine iE ?_;refine dK ?_;refine g4 ?_;refine iL ?_;refine cZ ?_;refine d_ret ?_;refine nS ?_;refine uZ ?_;refine nS ?_;refine nS ?_;refine uZ ?_;refine nS ?_;refine bLo underlying185 kT1 ?_;have e:qY l= .error (i,171):=link_bad k9 (z.trans (marks_two g.2 n hr hg));obtain⟨s,r⟩:=bAj e;rw[s,r];refine cG (t:=52) lO ?_;exact rs3 (none,0) trivial
 have j:=Int.not_lt.1 (of_decide_eq_false j);refine d_exit ?_;refine bFu ?_;refine bFu ?_;refine bNw ?_;refine cZ ?_;refine iE ?_;have D:=marks_end g.2 k9
 obtain⟨Y,E⟩: ∃Y,placeGoL m l 0 []=Y:=⟨_,rfl⟩
 have y:=(link_go k9 (z.trans D)).trans E;refine dK ?_;refine g2 ?_;refine at_makeInsns (m:=l.length) rfl rfl rfl rfl rfl rfl k9 λG=>?_;refine one ?_;refine iL ?_;refine cZ ?_;refine iE ?_;refine iE ?_;refine dK ?_;refine g3 ?_;refine iL ?_;refine cZ ?_;refine d_blk ?_;refine d_loop2 (ι:=List cA×Nat) [(5,_),(10,_),(49,_),(50,_)] ⟨rfl,rfl,rfl,rfl,e8⟩ (λ⟨o,i⟩=>[(51,.int .i64 (i:Nat))]) (λ⟨o,i⟩=>[lO.row (.slice (some ⟨G,0,none⟩) l.length l.length) 52 o]) (λ⟨o,i⟩=>[bE.pure (i<=l.length/\o.length=l.length/\Y=placeGoL m (l.drop i) i (o.take i))]) (λ⟨o,i⟩=>l.length-i) (T9 l.length sP,0) ⟨rfl,e8⟩ (.c0 .nil) ⟨e9 (⟨k9,List.length_replicate,E.symm⟩),e8⟩ ?_;rintro⟨o,i⟩;dsimp only;refine bM d7 λd=>?_;have u:=d.2.1;refine iE ?_;refine dK ?_;refine one ?_;refine iL ?_;refine cZ ?_;refine iE ?_;refine bOb rfl (λh=>?_) (λh=>?_)
 .have h:=of_decide_eq_true h;refine bHn ?_;refine cZ ?_;refine iE ?_;refine d_blk ?_;refine iE ?_;obtain⟨p,n⟩:=gx l i;refine dK ?_;refine one ?_;refine ss (ixs i) ?_;refine ss (kV n 0) ?_;refine f9 pK λL=>?_;refine g2 ?_;refine iL ?_;refine cZ ?_;refine iE ?_;refine dK ?_;refine g4 ?_;obtain⟨I,C⟩:=gx o i;refine ss (bJ hT (k:=i) (cH kT1) rfl rfl rfl rfl rfl k9 rfl k9) ?_;refine cQ hT (k:=i) (fo:=0) (y':=p.ins) kT1 rfl rfl rfl rfl rfl rfl rfl rfl rfl C rfl ?_;refine iL ?_;refine cZ ?_;refine iE ?_;refine iE ?_;refine dK ?_;refine g3 ?_;refine iL ?_;refine cZ ?_;refine bOb rfl (λf=>?_) (λf=>?_)
  .have f:=eq_of_beq f;refine d_exit ?_;refine bFu ?_;refine bNw ?_;refine cZ ?_;refine dK ?_;refine one ?_;refine inc (i+1) ?_;refine one ?_;refine iL ?_;refine cZ ?_;exact d_back (iC (o.set i p.ins,i+1) n3 ⟨rfl,e8⟩ ⟨rfl,rfl,rfl,rfl,e8⟩ (.c0 (.c1 .nil)) ⟨e9 (⟨by dsimp only;omega,by dsimp only;simp only[P6];exact u,by dsimp only;exact place_go0 d.2.2 n f k9⟩),e8⟩ (bA.drop 1))
  have f:=beq_eq_false_iff_ne.1 f;refine bHn ?_;refine cZ ?_;refine iE ?_
  rcases hg:gX p.to_ m with _|q
  .refine dK ?_;refine g3 ?_;refine ss (lL (v:= .tuple #[.int .i64 0,.bool false]) (qA kT2) rfl underlying185 underlying3 bFv rfl rfl ab5) ?_;refine g5 ?_;refine iL ?_;refine cZ ?_;refine iE ?_;refine iE ?_;refine dK ?_;refine g2 ?_;refine iL ?_;refine cZ ?_;refine d_true rfl rfl ?_;refine iE ?_;refine dK ?_;refine g4 ?_;refine iL ?_;refine cZ ?_;refine d_ret ?_;refine nS ?_;refine uZ ?_;refine nS ?_;refine nS ?_;refine uZ ?_;refine nS ?_;refine bLo underlying185 kT2 ?_;have e:qY l= .error (i,172):=y.trans (place_none d.2.2 n f hg);obtain⟨s,r⟩:=bAj e;rw[s,r];refine cG (t:=52) lO ?_;exact rs3 (none,0) trivial
  refine dK ?_;refine g3 ?_;refine ss (lL (v:= .tuple #[.int .i64 q,.bool true]) (qA kT2) rfl underlying185 underlying3 bFv rfl rfl ab5) ?_;refine g5 ?_;refine iL ?_;refine cZ ?_;refine iE ?_;refine iE ?_;refine dK ?_;refine g2 ?_;refine iL ?_;refine cZ ?_;refine d_false rfl rfl ?_;refine bHn ?_;refine cZ ?_;refine dK ?_;refine g4 ?_;refine bF (z':=w32 q) (lF _) ?_;refine ss (bJ hT (k:=i) (cH .head) rfl rfl rfl rfl rfl n7 rfl (by rw[P6];omega)) ?_;refine one ?_;refine cQ hT (k:=i) (fo:=4) (y':=(⟨p.ins.op,p.ins.a,p.ins.b,p.ins.c,w32 q⟩:cA)) .head rfl rfl rfl rfl rfl rfl rfl rfl rfl (List.getElem?_set_self l7) rfl ?_;refine iL ?_;refine dn_block ?_;refine cZ ?_;refine dK ?_;refine one ?_;refine inc (i+1) ?_;refine one ?_;refine iL ?_;refine cZ ?_;exact d_back (iC ((o.set i p.ins).set i ⟨p.ins.op,p.ins.a,p.ins.b,p.ins.c,w32 q⟩,i+1) n3 ⟨rfl,e8⟩ ⟨rfl,rfl,rfl,rfl,e8⟩ (.c0 (.c1 .nil)) ⟨e9 (⟨by dsimp only;omega,by dsimp only;simp only[P6];exact u,by dsimp only;exact place_go1 d.2.2 n f hg k9⟩),e8⟩ (bA.drop 1))
 have h:=Int.not_lt.1 (of_decide_eq_false h);refine d_exit ?_;refine bFu ?_;refine bFu ?_;refine bNw ?_;refine cZ ?_;refine iE ?_;refine dK ?_;refine g4 ?_;refine iL ?_;refine cZ ?_;refine d_ret ?_;refine bLo underlying185 kT1 ?_;have e:qY l= .ok o:=y.trans ((place_end d.2.2 k9).trans (by rw[V2 k9]));obtain⟨s,r⟩:=linkC_ok e;rw[s,r,u];exact rs3 (some ⟨G,0,none⟩,l.length) trivial
def iB (c:dA)(dims:List Int):Int:=
 if (dX c dims).2≠0 then (dX c dims).2 else if (iK c).2≠0 then (iK c).2 else if 384<opsCount c then 180 else if turnsG dims c.steps 0=false then 122 else 0
structure MadeP where
 code:List cA
 mem:Int
 at_:List Int
def mL (c:dA)(dims:List Int):GnM:=⟨1,(bD (iK c).1.2 dims).1,dims,(iK c).1.1.map λp=>(bD p dims).1,c.bufs.map λb=>(nJ (b.sides.map λp=>(bD p dims).1)).1⟩
def bNh (c:dA)(dims:List Int):List PcV:=(dL ⟨1,0,0,0,121⟩ 0 (hereG 1 (dL ⟨0,0,0,0,0⟩ 0 (stepsG (mL c dims) c.steps ⟨[],1,0⟩)))).l
def gF (c:dA)(dims:List Int):MadeP×Int:=
 if iB c dims≠0 then (⟨[],0,[]⟩,iB c dims)else (⟨mD (bNh c dims),(mL c dims).frame+deepGo c.steps 0,(mL c dims).at_⟩,0)
end
section
open Go.RowKit Go.Sort Go.Proofs.Tryz
theorem gq_lay{sides:List (List Mono)}{b:Nat}{again:Bool}{s s':PlC}(h:layC sides b again s=some s'):s'.ats.length=s.ats.length:=by
 unfold layC at h;split at h
 .cases h
 .split at h
  .cases h;simp
  .split at h
   .cases h;simp
   .cases h
theorem bQs{bufs:List gP}{l:List LifeC}: ∀(m b:Nat) {s s':PlC},kL bufs l m b s=some s'->s'.ats.length=s.ats.length
 |0,_,_,_,h=>by cases h;rfl
 |m+1,b,s,s',h=>by
  unfold kL at h;split at h
  .split at h
   .split at h
    .cases h
    .rename_i c a;rw[bQs m (b+1) h,gq_lay a]
   .exact bQs m (b+1) h
  .cases h
theorem gq_go{c:dA}{l:List LifeC}{w:List Bool}: ∀(xs:List bX) (i:Nat) {s s':PlC},goC c l w xs i s=some s'->s'.ats.length=s.ats.length
 |[],_,_,_,h=>by cases h;rfl
 |x::xs,i,s,s',h=>by
  unfold goC at h;split at h
  .split at h
   .split at h
    .cases h
    .rename_i b a;rw[gq_go xs (i+1) h,gq_lay a];rfl
   .exact gq_go xs (i+1) h
  .cases h
theorem yT{c:dA}{dims:List Int}(h:(dX c dims).2=0):dX c dims=((dX c dims).1,0):=by rw[<-h]
theorem bMo{vars:Int}: ∀{l:List gP} {seen:List Int},sW vars l seen=true-> ∀u∈l,u.sides.length<=4
 |[],_,_,u,hu=>by cases hu
 |b::l,seen,h,u,hu=>by
  rw[sW,G1,G1,G1]at h
  rcases C9.1 hu with rfl|hu
  .have h1:=h.1;unfold mN at h1;rw[G1,decide_eq_true_eq]at h1;exact h1.2
  .exact bMo h.2.2.2 u hu
section
variable {c : dA} {ds : List Int}
theorem bDd{al:Int}{ats:List (List Mono)}{e:List Mono}(hr:cY c=true)(hc:dX c ds=(al,0))(hp:tS c=some (ats,e)):
  ats.length=c.bufs.length/\(∀a∈ats,(bD a ds).2=0/\0<=(bD a ds).1/\(bD a ds).1<=134217728)/\(bD e ds).2=0/\0<=(bD e ds).1/\(bD e ds).1<=134217728:=by
 have hs:=bJg hr hc;unfold tS at hp;split at hp
 .cases hp
 .rename_i s hb;split at hp
  .cases hp
  .rename_i t hg;cases hp;have h1:=bFh hr hs k9 ((ag_start c.bufs.length).less (L':=LB c 0) (λk hk=>by have:=hk.1;omega) (B8 0)) hb
   have h2:=go_ag hr hs (r:=c.steps) (i:=0) rfl (h1.less (L':=LG c 0) (λk hk=>by
    obtain⟨z,hz,hk⟩:=hk;refine⟨?_,z,hz,?_⟩
    .have:=(D9.1 hz).1
     rwa[lX]at this
    .rcases hk with hk|⟨j,x,_,h,_⟩
     .exact hk
     .omega) (B8 _)) hg
   have hn:0+c.bufs.length+c.steps.length<=2048:=by have:=(fL hr).1;omega
   have hev:=h2.endV;have hE:VD ds t.end_<=134217728:=k9
   refine⟨((gq_go _ _ hg).trans (bQs _ _ hb)).trans (by simp[tJ]),λa ha=>?_,?_⟩
   .obtain⟨b,hb⟩:=aQ ha;obtain⟨g1,g2⟩:=h2.ats b a hb;rw[eval_is g1 hs.dims (by unfold gE;omega)];exact⟨rfl,gr_pos g1 hs.dims,by show VD ds a<=_;omega⟩
   .rw[eval_is h2.endG hs.dims (by unfold gE;omega)];exact⟨rfl,gr_pos h2.endG hs.dims,hE⟩
theorem bNd: ∀{l:List (List Mono)} {acc r:List Int},sidesGo ds l acc=some r->(∀p∈l,(bD p ds).2=0/\0<=(bD p ds).1/\(bD p ds).1<=65536)/\r=acc++l.map λp=>(bD p ds).1
 |[],acc,r,h=>by
  cases h;exact⟨λp b=>(by cases b),n4⟩
 |p::l,acc,r,h=>by
  rw[sidesGo]at h;split at h
  .rename_i a;have a:(bD p ds).2=0/\0<=(bD p ds).1/\(bD p ds).1<=65536:=by simpa[bUt,and_assoc]using a
   obtain⟨h1,c⟩:=bNd h;refine⟨λq hq=>?_,by rw[c];simp⟩
   rcases C9.1 hq with rfl|hq
   .exact a
   .exact h1 q hq
  .cases h
theorem buf_evals{al:Int}(hr:cY c=true)(hc:dX c ds=(al,0)){u:gP}(hu:u∈c.bufs):(∀p∈u.sides,(bD p ds).2=0/\0<=(bD p ds).1/\(bD p ds).1<=65536)/\u.sides.length<=4:=by
 refine⟨?_,?_⟩
 .unfold dX at hc;rw[if_pos hr]at hc;split at hc
  .obtain⟨n,hn⟩:=bCq hc u hu;unfold sizeB at hn;split at hn
   .cases hn
   .rename_i l hl;exact(bNd hl).1
  .cases hc
 .exact bMo (fL hr).2.1 u hu
end
end
section
open Go.RowKit Go.Proofs.Tryz
theorem bTf: ∀(s:List Int) (n:Int),(∀z∈s,0<=z/\z<=65536)->0<=n->n<=65536->0<=(qE s n).1/\(qE s n).1<=65536
 |[],n,_,h0,h1=>⟨h0,h1⟩
 |z::s,n,hz,h0,h1=>by
  have a:=hz z (D5 ..);have c:0<=n*z:=Int.mul_nonneg h0 a.1;have hq:n*z<=65536*65536:=Int.mul_le_mul h1 a.2 a.1 k9;unfold qE;rw[rn_w64 (z:=n*z) k9 k9];split
  .exact⟨l5,l5⟩
  .rename_i d;exact bTf s _ (λy b=>hz y (List.mem_cons_of_mem _ b)) c k9
theorem sizeA_in(s:List Int):0<=(nJ s).1/\(nJ s).1<=65536:=by
 unfold nJ;split
 .exact⟨l5,l5⟩
 .rename_i b;split
  .exact⟨l5,l5⟩
  .refine bTf s 1 (λz hz=>?_) l5 l5;have h1: ¬s.any bGw=true:=λe=>b (.inr e);rw[List.any_eq_true]at h1;have a: ¬bGw z=true:=λe=>h1 ⟨z,hz,e⟩;unfold bGw at a;simp only[decide_eq_true_eq,Bool.or_eq_true]at a;exact⟨k9,k9⟩
theorem bQc: ∀(l:List OpC) (most now b:Int),most<=b->now+l.length<=b-> -1<=b->nT l most now<=b/\(-1<=most-> -1<=nT l most now)
 |[],most,now,b,h1,a,h3=>by
  unfold nT;split
  .exact⟨h1,λh=>h⟩
  .exact⟨h3,λ_=>by omega⟩
 |o::r,most,now,b,h1,a,h3=>by
  unfold nT;have a:now+((r.length+1:Nat):Int)<=b:=a;split
  .exact⟨h3,λ_=>by omega⟩
  .rename_i c;have h:=bQc r (max most (now+(1-cV o.how))) (now+(1-cV o.how)) b k9 k9 h3;exact⟨h.1,λh4=>h.2 k9⟩
theorem bSo(l:List OpC): -1<=pU l/\pU l<=l.length:=by
 have h:=bQc l 0 0 l.length k9 k9 k9;exact⟨h.2 k9,h.1⟩
theorem bJq{ds:List Int}{f:Bool}: ∀{l:List (List Mono)} {n m:Int},turnG f ds l n=some m-> ∀p∈l,(bD p ds).2=0
 |[],_,_,_,p,a=>by cases a
 |q::l,n,m,h,p,a=>by
  unfold turnG at h;split at h
  .cases h
  .rename_i b
   rcases C9.1 a with rfl|a
   .exact Classical.not_not.1 λe=>b (.inl e)
   .exact bJq h p a
theorem bFo{ds:List Int}: ∀{l:List bX} {a:Int},turnsG ds l a=true-> ∀x∈l,∀p∈x.loops,(bD p ds).2=0
 |[],_,_,x,hx=>by cases hx
 |y::l,a,h,x,hx=>by
  unfold turnsG at h;split at h
  .cases h
  .rename_i n hn;split at h
   .cases h
   .rcases C9.1 hx with rfl|hx
    .exact bJq hn
    .exact bFo h x hx
theorem stepsG_at{M:GnM}{R t:GnS}{l:List bX}{i:Nat}{x:bX}(h:R=stepsG M (l.drop i) t)(hx:l[i]?=some x):R=stepsG M (l.drop (i+1)) (lB M x t):=by
 obtain⟨hlt,e⟩:=D9.1 hx;rw[h,<-Y2 hlt,e];rfl
theorem stepsG_end{M:GnM}{R t:GnS}{l:List bX}{i:Nat}(h:R=stepsG M (l.drop i) t)(hi:l.length<=i):R=t:=by
 rw[h,R5 hi];rfl
theorem deepGo_at{D d:Int}{l:List bX}{i:Nat}{x:bX}(h:D=deepGo (l.drop i) d)(hx:l[i]?=some x):D=deepGo (l.drop (i+1)) (max d (pU x.ops-6)):=by
 obtain⟨hlt,e⟩:=D9.1 hx;rw[h,<-Y2 hlt,e];rfl
theorem deepGo_end{D d:Int}{l:List bX}{i:Nat}(h:D=deepGo (l.drop i) d)(hi:l.length<=i):D=d:=by
 rw[h,R5 hi];rfl
def opsSum(l:List bX):Nat:=(l.map (·.ops.length)).sum
theorem bIq{K k:Nat}{l:List bX}{i:Nat}{x:bX}(h:K=k+opsSum (l.drop i))(hx:l[i]?=some x):K=(k+x.ops.length)+opsSum (l.drop (i+1)):=by
 obtain⟨hlt,e⟩:=D9.1 hx;rw[h,<-Y2 hlt,e];show k+(x.ops.length+opsSum (l.drop (i+1)))=_;omega
theorem opsSum_end{K k:Nat}{l:List bX}{i:Nat}(h:K=k+opsSum (l.drop i))(hi:l.length<=i):K=k:=by
 rw[h,R5 hi];rfl
section
variable {P : Program} {β : dE} {n : Nat} {Γ : Env} {H : List bC} {F : List bE} {Q : Exit -> Act -> World -> Prop}
theorem bRg{ι:Type}{ops:Array Oper}{rest:List Oper}{o:Oper}{d:Nat}{f:FuncId}{x:Operand}{first cap:Array Value}{ars:Array Operand}{ts:Array TypeId}{vs all:List Value}{Hin H1 L H2:List bC}{G Pre:List bE}{val:ι->Value}{Hout:ι->List bC}{post:ι->List bE}
  (hcf: ∀(args:Array Value) (w:World),(callFunc f args).run P w= .ok (.enter f args) w) (hs:bZ P f all Hin Pre val Hout post) (hw:want ops Γ o=some true) (ho:o.op= .call ⟨.value x,ars,ts⟩) (hx:Γ.ev x=some (.func (.func f) first cap)) (hd:o.dst=some d) (hn:C0 d n=true)
  (hv:Γ.evs ars.toList=some vs) (hall:first.toList++vs++cap.toList=all) (hH:Split H Hin H1) (hL:Split H1 L H2) (hG:xS L G) (hF:bA (G++F) Pre)
  (k: ∀x,At β n ((d,val x)::Γ) (Hout x++H1) F (wpList P ops Q rest)):At β n Γ H F (wpList P ops Q (o::rest)):=
 fV hw λa w S f s m=>by
  unfold F4;rw[bTz hcf ho f hx hv w,Oper.upon_enter]
  have e:first++vs.toArray++cap=all.toArray:=by
   rw[<-hall];apply Array.ext';simp
  rw[e];have j:=s.perm hH.perm;have l:=j.perm (hL.perm.append_left Hin);have g:All (G++F) (λb=>S b\/kZ L b) w:=(hG _ w (λc i=>l.ok c (List.mem_append_right _ (D3 _ i))) (λc i b hb=> .inr ⟨c,i,hb⟩)).append (All.mono (λ_ h=> .inl h) (λ_ _=>rfl) m);refine(hs _ w l.lend (hF.all _ w g)).mono ?_;rintro e w' ⟨x,q,rfl,s',p⟩;show wpList P ops Q rest (a.put o.dst (val x)) w';rw[hd];exact k x _ _ S (f.put m9 _) (j.leave' s') (All.mono (λ_ h=>h) (λb hb=>s'.kept.block b (s.zone b hb).1 (λ⟨c,i,h⟩=>(j.own c (D3 _ i) b h).2.2 hb)) m)
end
theorem maxG{a b:Int}:(if b>a then b else a)=max a b:=by
 split<;>omega
section
variable {c : dA} {ds : List Int} {e : Int}
theorem wY(h:(dX c ds).2=0):cY c=true:=by
 unfold dX at h;split at h
 .assumption
 .cases h
theorem ref1(h:(dX c ds).2≠0):gF c ds=(⟨[],0,[]⟩,(dX c ds).2):=by
 have e:iB c ds=(dX c ds).2:=if_pos h;unfold gF;rw[e,if_pos h]
theorem ref2(h:(dX c ds).2=0)(h2:(iK c).2≠0):gF c ds=(⟨[],0,[]⟩,(iK c).2):=by
 have e:iB c ds=(iK c).2:=by unfold iB;rw[if_neg (λk=>k h),if_pos h2]
 unfold gF;rw[e,if_pos h2]
theorem ref3(h:(dX c ds).2=0)(h2:(iK c).2=0)(h3:384<opsSum c.steps):gF c ds=(⟨[],0,[]⟩,180):=by
 have e:iB c ds=180:=by unfold iB;rw[if_neg (λk=>k h),if_neg (λk=>k h2)];exact if_pos h3
 unfold gF;rw[e,if_pos l5]
theorem ref4(h:(dX c ds).2=0)(h2:(iK c).2=0)(h3: ¬384<opsSum c.steps)(h4:turnsG ds c.steps 0=false):gF c ds=(⟨[],0,[]⟩,122):=by
 have e:iB c ds=122:=by unfold iB;rw[if_neg (λk=>k h),if_neg (λk=>k h2)];exact(if_neg h3).trans (if_pos h4)
 unfold gF;rw[e,if_pos l5]
theorem ref0(h:(dX c ds).2=0)(h2:(iK c).2=0)(h3: ¬384<opsSum c.steps)(h4:turnsG ds c.steps 0=true):gF c ds=(⟨mD (bNh c ds),(mL c ds).frame+deepGo c.steps 0,(mL c ds).at_⟩,0):=by
 have e:iB c ds=0:=by unfold iB;rw[if_neg (λk=>k h),if_neg (λk=>k h2)];exact(if_neg h3).trans (if_neg (by rw[h4];decide))
 unfold gF;rw[e,if_neg l5]
theorem bGm(h:(iK c).2=0):tS c=some (iK c).1:=by
 unfold iK at h⊢;split at h
 .rename_i hr;rw[if_pos hr];split at h
  .rename_i r a;rw[a]
  .cases h
 .cases h
end
def GM0 (c:gD)(d:Sl Int):MkV:=⟨⟨none,0,[]⟩,0,0,0,0,c,d,⟨none,0,[]⟩,⟨none,0,[]⟩⟩
def GM1 (c:gD)(d:Sl Int):MkV:=⟨⟨none,0,[]⟩,0,0,1,0,c,d,⟨none,0,[]⟩,⟨none,0,[]⟩⟩
def GM2 (c:gD)(d:Sl Int)(y:LayV)(x:(Option Addr×Nat)×(Option Addr×Nat)):MkV:=((GM1 c d).ly x.1 x.2 ((polsL y.at_.list).map λp=>(bD p d.list).1) (c.bufs.list.map (uQ d.list))).fr (bD y.size.list d.list).1
theorem gm2_M{c:gD}{d:Sl Int}{y:LayV}{x:(Option Addr×Nat)×(Option Addr×Nat)}(h:(polsL y.at_.list,y.size.list)=(iK c.c).1):(GM2 c d y x).M=mL c.c d.list:=by
 unfold mL;rw[<-h];show(⟨1,(bD y.size.list d.list).1,d.list,_,c.bufs.list.map (uQ d.list)⟩:GnM)=⟨1,_,_,_,(c.bufs.list.map (·.c)).map _⟩;rw[List.map_map];rfl
theorem bAz:(prog.info? 31).bind (·.zero)=some (.agg #[.slice none 0 0,j5 0,.slice none 0 0]):=l4
theorem jA:prog.built 31 []=some #[.slice none 0 0,j5 0,.slice none 0 0]:=l4
theorem uN(v5_0 v5_1 v5_2 v5_3:Value)(a6:Option Addr)(l6 c6:Nat):prog.built 85 [(5,.agg #[v5_0,v5_1,v5_2,v5_3]),(6,.slice a6 l6 c6)]=some #[.slice none 0 0,j5 0,j5 0,j5 0,j5 0,v5_0,v5_1,v5_2,v5_3,.slice a6 l6 c6,.slice none 0 0,.slice none 0 0]:=l4
theorem xK(z0:Int)(z4:Int):prog.built 52 [(0,j6 z0),(4,.int .i32 z4)]=some #[j6 z0,j6 0,j6 0,j6 0,.int .i32 z4]:=l4
theorem uG(a0:Option Addr)(l0 c0:Nat)(z1:Int)(a2:Option Addr)(l2 c2:Nat):prog.built 31 [(0,.slice a0 l0 c0),(1,j5 z1),(2,.slice a2 l2 c2)]=some #[.slice a0 l0 c0,j5 z1,.slice a2 l2 c2]:=l4
set_option maxHeartbeats 2000000 in
theorem bTw(c:gD)(DA:Option Addr)(dcap:Nat)(dims:List Int)(hdl:dims.length<=140737488355328):bZ prog 9 [.agg #[j5 c.vars,j0 c.bufs,j0 c.steps,j0 c.outs],.slice DA dims.length dcap] [] [oJ c,cK.sl (.slice DA dims.length dcap) dims,bE.cells 0 0 [j5 0,j5 (-1)]] (λ(x:(Option Addr×Nat)×(Option Addr×Nat))=> .tuple #[.agg #[.slice x.1.1 (gF c.c dims).1.code.length x.1.2,j5 (gF c.c dims).1.mem,.slice x.2.1 (gF c.c dims).1.at_.length x.2.2],j5 (gF c.c dims).2]) (λ(x:(Option Addr×Nat)×(Option Addr×Nat))=>[lO.row (.slice x.1.1 (gF c.c dims).1.code.length x.1.2) 52 (gF c.c dims).1.code,cK.row (.slice x.2.1 (gF c.c dims).1.at_.length x.2.2) 2 (gF c.c dims).1.at_]) (λ_=>[]):=by
 have hT:=cO;refine i7 func9 ntmps9 ?_;intro β hM;refine g2 ?_;refine i6 λb1=>?_;refine f9 bAz λb2=>?_;refine g8 ?_;refine f7 func22 (Cells_spec c DA dcap dims hdl) .nil ⟨d7,d8,e8⟩ λ_=>?_;refine g13 ?_;refine bEw (λo=>?_) λo=>?_
 .refine g2 ?_;refine ss (cC rfl rfl (jA)) ?_;refine g7 ?_;have w:gF c.c dims=_:=ref1 o;rw[w];refine cG (t:=52) lO<|cG (t:=2) cK ?_;exact rs2 ((none,0),(none,0)) trivial
 refine g5 ?_;refine f7 func14 (PlanF_spec c) .nil ⟨d7,d9,e8⟩ λy=>?_;refine bM e6 λhy=>?_;refine g3 ?_;refine f9 oG λb3=>?_;refine g11 ?_;refine bEw (λn=>?_) λn=>?_
 .refine g2 ?_;refine ss (cC rfl rfl (jA)) ?_;refine g7 ?_;have w:gF c.c dims=_:=ref2 k9 n;rw[w];refine cG (t:=52) lO<|cG (t:=2) cK ?_;exact rs2 ((none,0),(none,0)) trivial
 refine g3 ?_;have j:(dX c.c dims).2=0:=o;have r:(iK c.c).2=0:=n;have g:=wY j;obtain⟨⟨_,_,N,hns,_⟩,_⟩:=fL g;rw[show c.c.bufs.length=c.bufs.list.length from cD _]at N;rw[show c.c.steps.length=c.steps.list.length from fC _]at hns
 obtain⟨K,hK⟩: ∃K,opsSum c.c.steps=K:=⟨_,rfl⟩
 obtain⟨D,hD⟩: ∃D,deepGo c.c.steps 0=D:=⟨_,rfl⟩
 refine bP (sO.sl (.slice c.steps.addr c.steps.list.length c.steps.cap) c.steps.list) (qS (iG e7)) ?_;refine g15 ?_;refine bY (ι:=Int×Nat×Nat) [(1,_),(2,_),(4,_),(8,_),(41,_),(42,_)] ⟨rfl,rfl,rfl,rfl,rfl,rfl,e8⟩ (λ⟨d,k,i⟩=>[(10,.int .i64 (k:Nat)),(11,.int .i64 d),(43,.int .i64 (i:Nat))]) (λ_=>[]) (λ⟨d,k,i⟩=>[bE.pure (i<=c.steps.list.length/\(0<=d/\d<=1000/\k<=256*i)/\K=k+opsSum (c.c.steps.drop i)/\D=deepGo (c.c.steps.drop i) d)]) (λ⟨d,k,i⟩=>c.steps.list.length-i) (0,0,0) ⟨rfl,rfl,rfl,e8⟩ .nil ⟨e9 (⟨k9,k9,by rw[<-hK,L0,C7],hD.symm⟩),e8⟩ ?_;rintro⟨d,k,i⟩;dsimp only;refine bM d7 λe=>?_;refine g6 ?_;refine fD (λU=>?_) λU=>?_
 .refine g5 ?_;obtain⟨x,hx⟩:=gx c.steps.list i;have hg:=bDk g dims (f4 hx);refine bP (oL x) (Has.each (qU (iG (Has.of mT6))) (f4 hx)) ?_;have hlo:=hg.hlo;refine one ?_;refine ss (ixs i) ?_;refine ss (kV hx 0) ?_;refine f9 wT λb4=>?_;refine g10 ?_;refine inc (k+x.ops.list.length) ?_;refine g3 ?_;refine bP (opE.sl (.slice x.ops.addr x.ops.list.length x.ops.cap) x.ops.list) (opsF_s (qK d7))<|bP (bE.each x.ops.list opF) (opsF_e (qK d8)) ?_;have hdc:=bSo (opsL x.ops.list);rw[dR]at hdc;refine g4 ?_;refine bG func23 (bMt x.ops.addr x.ops.cap x.ops.list k9) rfl rfl .nil ⟨d8,d7,e8⟩ λ_=>?_;refine one ?_;refine bF (z':=pU (opsL x.ops.list)-6) (jJ rfl k9 k9) ?_;refine one ?_;refine bF (z':=max d (pU (opsL x.ops.list)-6)) maxG ?_;refine g6 ?_;refine inc (i+1) ?_;refine g3 ?_;exact bk2 (max d (pU (opsL x.ops.list)-6),k+x.ops.list.length,i+1) ⟨e9 (⟨by dsimp only;omega,by dsimp only;omega,by dsimp only;rw[bIq e.2.2.1 (dI hx),show x.c.ops.length=x.ops.list.length from dR _],by dsimp only;exact deepGo_at e.2.2.2 (dI hx)⟩),e8⟩
 refine g8 ?_;have hKk:opsSum c.c.steps=k:=hK.trans (opsSum_end e.2.2.1 o5);have hDd:deepGo c.c.steps 0=d:=hD.trans (deepGo_end e.2.2.2 o5);refine g6 ?_;refine fD (λR=>?_) λR=>?_
 .refine g2 ?_;refine ss (cC rfl rfl (jA)) ?_;refine g7 ?_;have w:gF c.c dims=_:=ref3 j r k9;rw[w];refine cG (t:=52) lO<|cG (t:=2) cK ?_;exact rs2 ((none,0),(none,0)) trivial
 refine g4 ?_;refine f7 func24 (turnsF_spec c g DA dcap dims hdl) .nil ⟨(Has.of mT6),(Has.of mT7),e8⟩ λ_=>?_;refine g4 ?_;refine bBd (λm=>?_) λm=>?_
 .refine g2 ?_;refine ss (cC rfl rfl (jA)) ?_;refine g7 ?_;have w:gF c.c dims=_:=ref4 j r k9 (by simpa using m);rw[w];refine cG (t:=52) lO<|cG (t:=2) cK ?_;exact rs2 ((none,0),(none,0)) trivial
 refine g4 ?_;have G:turnsG dims c.c.steps 0=true:=by simpa using m
 have hev:=bFo G;have P:=yT j;obtain⟨s,q,O,hf0,hf1⟩:=bDd g P (bGm r);have hy1:(iK c.c).1.1=polsL y.at_.list:=(congrArg Prod.fst hy).symm;have hy2:(iK c.c).1.2=y.size.list:=(congrArg Prod.snd hy).symm;rw[hy1]at s q;rw[hy2]at O hf0 hf1;rw[bW,show c.c.bufs.length=c.bufs.list.length from cD _]at s;have V: ∀u∈c.bufs.list,(∀p∈polsL u.sides.list,(bD p dims).2=0)/\u.sides.list.length<=4:=λu hu=>by have h:=buf_evals g P (u:=u.c) (K7.2 ⟨u,hu,rfl⟩);exact⟨λp L=>(h.1 p L).1,by have h2:=h.2;rw[show u.c.sides.length=u.sides.list.length from bW _]at h2;exact h2⟩
 refine g3 ?_;refine ss (cC rfl rfl (uN _ _ _ _ _ _ _)) ?_;refine i6 λB=>?_;refine g4 ?_;refine cG (t:=184) pcE<|cG (t:=2) cK<|cG (t:=2) cK ?_
 have gb0:GnB 10 (⟨[],0,0⟩:GnS):=⟨P2 _,P2 _,P2 _⟩
 refine g3 ?_;refine bG func25 (pQ B (GM0 c (⟨DA,dcap,dims⟩:Sl Int)) (none,0) (⟨[],0,0⟩:GnS) (gb0.le k9)) rfl rfl (.c3 (.c2 .nil)) e8 λa75=>?_;refine bF (z':=((1:Nat):Int)) rfl ?_;have gb1:GnB 11 (markG (⟨[],0,0⟩:GnS)):=nO gb0;refine g9 ?_;refine f7 func26 (layM_spec B (GM1 c (⟨DA,dcap,dims⟩:Sl Int)) a75 (markG (⟨[],0,0⟩:GnS)) y V s N (λp L=>(q p L).1) O hdl) (.c0 (.c2 (.c1 .nil))) ⟨(Has.of mT6),(Has.of mT7),d9,e6,e7,e8⟩ λb=>?_
 obtain⟨RR,W⟩: ∃RR,stepsG (GM2 c (⟨DA,dcap,dims⟩:Sl Int) y b).M c.c.steps (markG (⟨[],0,0⟩:GnS))=RR:=⟨_,rfl⟩
 have I:(GM2 c (⟨DA,dcap,dims⟩:Sl Int) y b).size.list.length=(GM2 c (⟨DA,dcap,dims⟩:Sl Int) y b).at_.list.length:=by show(c.bufs.list.map _).length=((polsL y.at_.list).map _).length;rw[K3,K3,bW];exact s.symm
 have J:(GM2 c (⟨DA,dcap,dims⟩:Sl Int) y b).size.list.length=c.bufs.list.length:=K3 _;have hSz: ∀z∈(GM2 c (⟨DA,dcap,dims⟩:Sl Int) y b).size.list,0<=z/\z<=1000000:=λz hz=>by obtain⟨u,_,rfl⟩:=K7.1 hz;have h:=sizeA_in ((polsL u.sides.list).map λp=>(bD p dims).1);exact⟨h.1,Int.le_trans h.2 l5⟩
 have hAz: ∀z∈(GM2 c (⟨DA,dcap,dims⟩:Sl Int) y b).at_.list,0<=z/\z<=200000000:=λz hz=>by obtain⟨p,L,rfl⟩:=K7.1 hz;have h:=q p L;exact⟨h.2.1,Int.le_trans h.2.2 l5⟩
 refine g19 ?_;refine bY (ι:=(Option Addr×Nat)×GnS×Nat×Nat) [(4,_),(11,_),(14,_),(15,_),(84,_),(85,_)] ⟨rfl,rfl,rfl,rfl,rfl,rfl,e8⟩ (λ⟨a1,t,k1,i⟩=>[(86,.int .i64 (i:Nat))]) (λ⟨a1,t,k1,i⟩=>[mkO B ((GM2 c (⟨DA,dcap,dims⟩:Sl Int) y b).st a1 t),mkS ((GM2 c (⟨DA,dcap,dims⟩:Sl Int) y b).st a1 t)]) (λ⟨a1,t,k1,i⟩=>[bE.pure (i<=c.steps.list.length/\K=k1+opsSum (c.c.steps.drop i)/\RR=stepsG (GM2 c (⟨DA,dcap,dims⟩:Sl Int) y b).M (c.c.steps.drop i) t/\GnB (20+60*i+12*k1) t)]) (λ⟨a1,t,k1,i⟩=>c.steps.list.length-i) (a75,markG (⟨[],0,0⟩:GnS),0,0) ⟨rfl,e8⟩ (.c0 (.c2 .nil)) ⟨e9 (⟨k9,by rw[<-hK,L0,C7],W.symm,gb1.le k9⟩),e8⟩ ?_;rintro⟨a1,t,k1,i⟩;dsimp only;refine bM d7 λa=>?_;have hk1:k1<=384:=by have:=a.2.1;omega
 refine g6 ?_;refine fD (λQ=>?_) λQ=>?_
 .refine g5 ?_;obtain⟨x,hx⟩:=gx c.steps.list i;have hg:=bDk g dims (f4 hx);refine bP (oL x) (Has.each (qU (iG (Has.of mT7))) (f4 hx)) ?_;have hlo:=hg.hlo;have hk2:k1+x.ops.list.length<=384:=by have h:=bIq a.2.1 (dI hx);rw[show x.c.ops.length=x.ops.list.length from dR _]at h;omega
  have hsx:=hev x.c (K7.2 ⟨x,List.mem_of_getElem? hx,rfl⟩);refine one ?_;refine ss (ixs i) ?_;refine ss (kV hx 0) ?_;refine f9 wT λb5=>?_;refine g6 ?_;refine bRg (j4 func27) (stepM_spec B (GM2 c (⟨DA,dcap,dims⟩:Sl Int) y b) a1 t _ a.2.2.2 x k9 hg.hh hsx hg.hll hg.hne (by rw[<-I,J];exact hg.hO) hg.hD hg.hb0 (by rw[J];exact hg.hb1) I hg.hA hSz hAz hdl) rfl rfl rfl rfl rfl rfl rfl (.c1 (.c1 .nil)) (.c1 (.c1 .nil)) (uU (uU sG)) ⟨d9,Has.of mT11,d7,d8,e8⟩ λa92=>?_;have hBs:=gb_step (M:=(GM2 c (⟨DA,dcap,dims⟩:Sl Int) y b).M) (x:=x.c) (by rw[show x.c.loops.length=x.loops.list.length from bW _];exact hg.hll) a.2.2.2;refine g5 ?_;refine inc (i+1) ?_;refine g3 ?_;exact bk2 (a92,lB (GM2 c (⟨DA,dcap,dims⟩:Sl Int) y b).M x.c t,k1+x.ops.list.length,i+1) ⟨e9 (⟨by dsimp only;omega,by dsimp only;rw[bIq a.2.1 (dI hx),show x.c.ops.length=x.ops.list.length from dR _],by dsimp only;exact stepsG_at a.2.2.1 (dI hx),by dsimp only;exact hBs.le (by rw[show x.c.ops.length=x.ops.list.length from dR _];omega)⟩),e8⟩
 refine g6 ?_;have Z:=a.2.2.2;have hRt:=W.trans (stepsG_end a.2.2.1 o5);refine g2 ?_;refine ss (cC rfl rfl (pM _)) ?_;refine bG func28 (fN B (GM2 c (⟨DA,dcap,dims⟩:Sl Int) y b) a1 t (Z.le k9) ⟨0,0,0,0,0⟩ 0) rfl rfl (.c0 (.c0 .nil)) e8 λa96=>?_;have A:=fO (i:=(⟨0,0,0,0,0⟩:cA)) (dst:=0) Z;refine g9 ?_;refine bG func29 (pS B (GM2 c (⟨DA,dcap,dims⟩:Sl Int) y b) a96 (dL ⟨0,0,0,0,0⟩ 0 t) (A.le k9) 1) rfl rfl (.c0 (.c0 .nil)) e8 λa102=>?_;have Y:=nQ (k:=1) A k9;refine g5 ?_;refine ss (cC rfl rfl (xK _ _)) ?_;refine bG func28 (fN B (GM2 c (⟨DA,dcap,dims⟩:Sl Int) y b) a102 (hereG 1 (dL ⟨0,0,0,0,0⟩ 0 t)) (Y.le k9) ⟨1,0,0,0,121⟩ 0) rfl rfl (.c0 (.c0 .nil)) e8 λf=>?_;have C:=fO (i:=(⟨1,0,0,0,121⟩:cA)) (dst:=0) Y;refine g3 ?_;refine iQ (E:=pcE) (v:= .slice f.1 (dL ⟨1,0,0,0,121⟩ 0 (hereG 1 (dL ⟨0,0,0,0,0⟩ 0 t))).l.length f.2) (xs:=(dL ⟨1,0,0,0,121⟩ 0 (hereG 1 (dL ⟨0,0,0,0,0⟩ 0 t))).l) kT1 ?_;refine g5 ?_;refine bG func30 (Link_spec f.1 f.2 (dL ⟨1,0,0,0,121⟩ 0 (hereG 1 (dL ⟨0,0,0,0,0⟩ 0 t))).l (Nat.le_trans C.l k9)) rfl rfl .nil ⟨d7,e8⟩ λlk=>?_;refine g10 ?_;refine dC _ _ [(true,0),(true,1),(true,2),(true,3),(true,4),(true,5),(true,6),(true,7),(true,8),(true,9),(true,10),(true,11),(false,12),(true,13)] dJ l8 (.c0 (.c0 (.c0 (.c0 (.c0 (.c1 .nil)))))) bA.self ?_;refine g5 ?_;refine bF (z':=(bD y.size.list dims).1) rfl ?_;refine g2 ?_;refine bF (z':=(bD y.size.list dims).1+d) (jJ rfl k9 k9) ?_;refine g4 ?_;refine stM rfl (cC rfl rfl (uG _ _ _ _ _ _ _)) ?_;refine g7 ?_;have X:=gm2_M (d:=(⟨DA,dcap,dims⟩:Sl Int)) (x:=b) hy;have w:=ref0 j r k9 G;have hcd:bNh c.c dims=(dL ⟨1,0,0,0,121⟩ 0 (hereG 1 (dL ⟨0,0,0,0,0⟩ 0 t))).l:=by unfold bNh;rw[show mL c.c dims=(GM2 c (⟨DA,dcap,dims⟩:Sl Int) y b).M from X.symm,show(⟨[],1,0⟩:GnS)=markG (⟨[],0,0⟩:GnS)from rfl,hRt]
 rw[w,hcd,show mL c.c dims=(GM2 c (⟨DA,dcap,dims⟩:Sl Int) y b).M from X.symm,hDd];exact rs2 (lk,b.1) trivial
end
section
open Go.Proofs.Tryz
namespace X
open Go.RowKit Go.Proofs.Tryz
noncomputable section
def i64O (v:V):Option Int:=asI v λk z=>gd (isI64 k) (some z)
def u8O (v:V):Option Int:=asI v λk z=>gd (sameKind k .u8) (some z)
section
variable {γ : Type}
def listO (one:List V->Option γ)(sz:Nat):Nat->List V->Option (List γ)
 |0,_=>some []
 |n+1,cs=>ob (cutL cs 0 sz) λh=>ob (one h) λg=>ob (listO one sz n (cs.drop sz)) λr=>some (g::r)
def slO (one:List V->Option γ)(sz:Nat)(v:V)(s:St):Option (List γ):=match v with
 |.l0=>some []
 |.l k o n c=>gd (Nat.ble n 1000&&Nat.ble n c.least) (ob (rowX0 s k o (n*sz)) (listO one sz n))
 |_=>none
end
def one1O {γ:Type}(f:V->Option γ)(cs:List V):Option γ:=match cs with
 |[v]=>f v
 |_=>none
def polP (s:St)(v:V):Option (List Mono):=slO monoO 7 v s
def polsP (s:St)(v:V):Option (List (List Mono)):=slO (one1O (polP s)) 1 v s
def opP (s:St)(cs:List V):Option OpC:=match cs with
 |[a,b,c,p,f]=>ob (i64O a) λa=>ob (i64O b) λb=>ob (i64O c) λc=>ob (polP s p) λp=>ob (u8O f) λf=>some ⟨a,b,c,p,f⟩
 |_=>none
def bufP (s:St)(cs:List V):Option gP:=match cs with
 |[a,b]=>ob (polsP s a) λa=>ob (i64O b) λb=>some ⟨a,b⟩
 |_=>none
def stepP (s:St)(cs:List V):Option bX:=match cs with
 |[a,b,p,l,f,o]=>ob (i64O a) λa=>ob (i64O b) λb=>ob (polP s p) λp=>ob (polsP s l) λl=>ob (u8O f) λf=>ob (slO (opP s) 5 o s) λo=>some ⟨a,b,p,l,f,o⟩
 |_=>none
def coreO (s:St)(v:V):Option dA:=asG v λcs=>match cs with
 |[a,b,t,o]=>ob (i64O a) λa=>ob (slO (bufP s) 2 b s) λb=>ob (slO (stepP s) 6 t s) λt=>ob (slO (one1O i64O) 1 o s) λo=>some ⟨a,b,t,o⟩
 |_=>none
def intsO (s:St)(v:V):Option (List Int):=slO (one1O i64O) 1 v s
def iV (z:Int):V:= .i .i64 z
def bLl:List (List Mono)->List Mono->Option (List Mono)
 |[],n=>some n
 |p::r,n=>if (mulF n p).2=0 then bLl r (mulF n p).1 else none
def layK (sides:List (List Mono))(b:Nat)(again:Bool)(s:PlC):Option PlC:=match bLl sides (kP 1).1 with
 |none=>none
 |some n=>match bDb n again s.free with
  |some (i,q)=>some {s with free:=s.free.eraseIdx i,laid:=s.laid.set b (some q),ats:=s.ats.set b q.at_}
  |none=>if (bothF s.end_ n 1).2=0 then some {s with end_:=(bothF s.end_ n 1).1,laid:=s.laid.set b (some ⟨s.end_,n⟩),ats:=s.ats.set b s.end_}else none
def bOi (bufs:List gP)(l:List LifeC):Nat->Nat->PlC->Option PlC
 |0,_,s=>some s
 |m+1,b,s=>match bufs[b]?,l[b]? with
  |some u,some y=>if y.from_<0 then match layK u.sides b false s with
    |none=>none
    |some s'=>bOi bufs l m (b+1) s'
   else bOi bufs l m (b+1) s
  |_,_=>none
def goK (c:dA)(l:List LifeC)(w:List Bool):List bX->Nat->PlC->Option PlC
 |[],_,s=>some s
 |x::r,i,s=>match c.bufs[x.buf.toNat]?,l[x.buf.toNat]?,w[x.buf.toNat]? with
  |some u,some y,some t=>if y.from_=(i:Int)then match layK u.sides x.buf.toNat t (relC i l s)with
    |none=>none
    |some s'=>goK c l w r (i+1) s'
   else goK c l w r (i+1) s
  |_,_,_=>none
def planK (c:dA):Option (List (List Mono)×List Mono):=match bOi c.bufs (cX c) c.bufs.length 0 (tJ c.bufs.length)with
 |none=>none
 |some s=>match goK c (cX c) (nC c) c.steps 0 s with
  |none=>none
  |some s=>some (s.ats,s.end_)
def planWK(c:dA):(List (List Mono)×List Mono)×Int:=if cY c=true then match planK c with
 |some r=>(r,0)
 |none=>(([],[]),140)
 else (([],[]),100)
def refusedQ(w:(List (List Mono)×List Mono)×Int)(c:dA)(dims:List Int):Int:=
 if (dX c dims).2≠0 then (dX c dims).2 else if w.2≠0 then w.2 else if 384<opsCount c then 180 else if turnsG dims c.steps 0=false then 122 else 0
def makerQ(w:(List (List Mono)×List Mono)×Int)(c:dA)(dims:List Int):GnM:=⟨1,(bD w.1.2 dims).1,dims,w.1.1.map λp=>(bD p dims).1,c.bufs.map λb=>(nJ (b.sides.map λp=>(bD p dims).1)).1⟩
def codeQ (w:(List (List Mono)×List Mono)×Int)(c:dA)(dims:List Int):List PcV:=(dL ⟨1,0,0,0,121⟩ 0 (hereG 1 (dL ⟨0,0,0,0,0⟩ 0 (stepsG (makerQ w c dims) c.steps ⟨[],1,0⟩)))).l
def genQ (w:(List (List Mono)×List Mono)×Int)(c:dA)(dims:List Int):MadeP×Int:=
 if refusedQ w c dims≠0 then (⟨[],0,[]⟩,refusedQ w c dims)else (⟨mD (codeQ w c dims),(makerQ w c dims).frame+deepGo c.steps 0,(makerQ w c dims).at_⟩,0)
def insW (i:cA):List V:=[.i .u8 i.op,.i .u8 i.a,.i .u8 i.b,.i .u8 i.c,.i .i32 i.imm]
def genV (r:MadeP×Int)(s:St):Option (V×St):=sel (B5 r.1.code.length 0&&B5 r.1.at_.length 0) (some (.t [.g [.y s.c,iV r.1.mem,.y (s.c+1)],iV r.2],{s with c:=s.c+2}))
 (gd (!(B5 r.1.code.length 0)&& !(B5 r.1.at_.length 0)) (some (.t [.g [.l s.n 0 r.1.code.length (.s s.c 0),iV r.1.mem,.l (s.n+1) 0 r.1.at_.length (.s (s.c+1) 0)],iV r.2],
   {h:=(s.h.set (some (.win (r.1.code.flatMap insW))) fuelT s.n).set (some (.win (r.1.at_.map iV))) fuelT (s.n+1),n:=s.n+2,c:=s.c+2})))
def genO (kN:Nat):Orc:=λargs s=>match args with
 |[c,d]=>ob (coreO s c) λc=>ob (intsO s d) λd=>gd (isKnow 2 (s.h.get kN)) (genV (genQ (planWK c) c d) s)
 |_=>none
end
theorem sizeK_eq: ∀(l:List (List Mono)) (n:List Mono),bLl l n=pI l n
 |[],_=>rfl
 |p::r,n=>by rw[bLl,pI,mulF_eq,sizeK_eq r]
theorem layK_eq(sides:List (List Mono))(b:Nat)(again:Bool)(s:PlC):layK sides b again s=layC sides b again s:=by
 unfold layK layC qZ;rw[sizeK_eq];simp only[bothF_eq];rfl
theorem bTk(bufs:List gP)(l:List LifeC): ∀(m b:Nat) (s:PlC),bOi bufs l m b s=kL bufs l m b s
 |0,_,_=>rfl
 |m+1,b,s=>by
  unfold bOi kL;simp only[layK_eq,bTk bufs l m];rfl
theorem goK_eq(c:dA)(l:List LifeC)(w:List Bool): ∀(xs:List bX) (i:Nat) (s:PlC),goK c l w xs i s=goC c l w xs i s
 |[],_,_=>rfl
 |x::r,i,s=>by
  unfold goK goC;simp only[layK_eq,goK_eq c l w r];rfl
theorem genQ_eq(c:dA)(ds:List Int):genQ (planWK c) c ds=gF c ds:=by
 have e:planWK c=iK c:=by
  unfold planWK iK planK tS;simp only[bTk,goK_eq];rfl
 rw[e];rfl
section
variable [Ctx] {α : As} {s s' : St} {w w' : World}
def Zn (w:World):jX:=λb=>b<w.heap.size
omit [Ctx]in
theorem i64_is{v:V}{z:Int}(h:i64O v=some z):v= .i .i64 z:=by
 obtain⟨k,x,rfl,h1⟩:=lG h;obtain⟨b,a⟩:=bN h1;cases a;cases k<;>first|rfl|cases b
omit [Ctx]in
theorem u8_is{v:V}{z:Int}(h:u8O v=some z):v= .i .u8 z:=by
 obtain⟨k,x,rfl,h1⟩:=lG h;obtain⟨b,a⟩:=bN h1;cases a;rw[kJ b]
omit [Ctx]in
theorem listO_is{γ:Type}{one:List V->Option γ}{sz:Nat}: ∀(n:Nat) (cs:List V) (l:List γ),listO one sz n cs=some l->l.length=n/\ ∀k g,l[k]?=some g-> ∃h,one h=some g/\h.length=sz/\ ∀j,j<sz->cs[k*sz+j]?=h[j]?
 |0,_,_,h=>by cases h;exact⟨rfl,λk m h=>by cases h⟩
 |n+1,cs,l,h=>by
  obtain⟨q,hq,h1⟩:=bB (show ob (cutL cs 0 sz) _=some l from h);obtain⟨m,e,s⟩:=bB h1;obtain⟨r,hr,p⟩:=bB s;cases p;obtain⟨h4,o⟩:=listO_is n _ _ hr;obtain⟨d,t⟩:=mS _ _ _ _ hq;have hl:q.length=sz:=by rw[d];simp;omega
  refine⟨by simp[h4],λk x c=>?_⟩
  cases k with
  |zero=>
   cases c;refine⟨q,e,hl,λj a=>?_⟩;rw[d,L0,List.getElem?_take,if_pos a];simp
  |succ k=>
   obtain⟨g,i,f,b⟩:=o k x c;refine⟨g,i,f,λj a=>?_⟩;rw[<-b j a,List.getElem?_drop]
   congr 1
   rw[Nat.succ_mul];omega
omit [Ctx]in
theorem bSv{γ β:Type}{P:γ->β->Prop}: ∀(l:List γ),(∀(k:Nat) (g:γ),l[k]?=some g-> ∃x,P g x)-> ∃m:List β,m.length=l.length/\ ∀(k:Nat) (g:γ) (x:β),l[k]?=some g->m[k]?=some x->P g x
 |[],_=>⟨[],rfl,λk g x h=>by cases h⟩
 |g::l,h=>by
  obtain⟨x,hx⟩:=h 0 g rfl;obtain⟨m,d,c⟩:=bSv l λk g e=>h (k+1) g e;refine⟨x::m,by simp[d],λk f b h1 a=>?_⟩
  cases k with
  |zero=>cases h1;cases a;exact hx
  |succ k=>exact c k f b h1 a
theorem bIs{γ β:Type}{one:List V->Option γ}{E:Flat β}{f:β->γ}{G:β->Prop}(hs:Sim α s w)(hone: ∀cs g,cs.length=E.size->one cs=some g-> ∃x:β,f x=g/\cs.map (V.inst α)=E.cells x/\G x){v:V}{gs:List γ}(h:slO one E.size v s=some gs):
  ∃l:Sl β,l.list.map f=gs/\v.inst α= j0 l/\(E.sl (j0 l) l.list).p (Zn w) w/\(∀x∈l.list,G x)/\l.list.length<=l.cap/\l.list.length<=1000:=by
 unfold slO at h;split at h
 .cases h;exact⟨⟨none,0,[]⟩,rfl,rfl,⟨none,0,rfl,λk x R=>(by cases R)⟩,λx hx=>(by cases hx),B8 _,by show 0<=1000;decide⟩
 .rename_i k o n c;obtain⟨h1,Y⟩:=bN h;rw[G1]at h1;obtain⟨cs,C,X⟩:=bB Y;obtain⟨h4,W⟩:=listO_is _ _ _ X;obtain⟨Z,U⟩:=qB hs (row0_row C);obtain⟨b,hb,_⟩:=bB C
  obtain⟨m,Q,O⟩:=bSv (P:=λ(q:Nat×γ) x=>f x=q.2/\(∃h:List V,h.length=E.size/\h.map (V.inst α)=E.cells x/\ ∀j,j<E.size->cs[q.1*E.size+j]?=h[j]?)/\G x) (gs.zipIdx.map λq=>(q.2,q.1)) λi q a=>by
   rw[I7,eL]at a
   cases hg:gs[i]? with
   |none=>rw[hg]at a;cases a
   |some g=>
    rw[hg]at a;have a:some (0+i,g)=some q:=a;cases a;obtain⟨J,z,M,t⟩:=W i g hg;obtain⟨x,N,I,D⟩:=hone J g M z;exact⟨x,N,⟨J,M,I,λj L=>by simpa using t j L⟩,D⟩
  have A:m.length=gs.length:=by rw[Q];simp
  have r: ∀i x,m[i]?=some x-> ∃g,gs[i]?=some g/\f x=g/\(∃h:List V,h.length=E.size/\h.map (V.inst α)=E.cells x/\ ∀j,j<E.size->cs[i*E.size+j]?=h[j]?)/\G x:=λi x hx=>by
   have hlt:i<gs.length:=by rw[<-A];exact(D9.1 hx).1
   have hq:(gs.zipIdx.map λq=>(q.2,q.1))[i]?=some (i,gs[i]):=by
    rw[I7,eL,D7 hlt];simp
   obtain⟨N,I,D⟩:=O i _ x hq hx;exact⟨gs[i],D7 hlt,N,I,D⟩
  have B:m.map f=gs:=by
   apply Y3;intro i;rw[I7]
   cases hx:m[i]? with
   |none=>
    have:=List.getElem?_eq_none_iff.1 hx;rw[V5 k9];rfl
   |some x=>
    obtain⟨g,hg,e,_⟩:=r i x hx;rw[hg,<-e];rfl
  have hn:m.length=n:=by rw[A];exact h4
  refine⟨⟨some ⟨α.blk k,o,none⟩,c.inst α,m⟩,B,by rw[<-hn];rfl,⟨some ⟨α.blk k,o,none⟩,c.inst α,rfl,λi x hx=>?_⟩,λx hx=>?_,?_,by have:=fH h1.1;show m.length<=1000;omega⟩
  .obtain⟨g,hg,_,⟨J,M,I,t⟩,_⟩:=r i x hx;refine⟨α.blk k,o,E.cells x,rfl,(hs.is k b hb).lt,λj u hu=>?_,rfl⟩;have L:j<E.size:=by have:=(D9.1 hu).1;rwa[E.len]at this
   rw[<-I,I7]at hu
   cases K:J[j]? with
   |none=>rw[K]at hu;cases hu
   |some y=>
    rw[K]at hu;cases hu;have:=U _ _ ((t j L).trans K);show w.cell? ⟨α.blk k,o+i*E.size+j,none⟩=_;rw[Nat.add_assoc];exact this
  .obtain⟨i,a⟩:=aQ hx;obtain⟨_,_,_,_,D⟩:=r i x a;exact D
  .have z:=fH h1.2;show m.length<=c.inst α
   cases c with
   |n q=>have z:n<=q:=z;show m.length<=q;omega
   |s q d=>have z:n<=d:=z;show m.length<=d+α.room q;omega
 .cases h
theorem polP_is(hs:Sim α s w){v:V}{p:List Mono}(h:polP s v=some p): ∃q:PolV,q.list=p/\v.inst α= j0 q/\(fB q).p (Zn w) w:=by
 obtain⟨l,h1,b,a,_,_,h4⟩:=bIs (E:=oI) (f:=id) (G:=λ_=>True) (γ:=Mono) hs (λc g _ hg=>⟨g,rfl,by rw[mono_is hg];rfl,e8⟩) (show slO monoO oI.size v s=some p from h);exact⟨l,by rw[<-h1,List.map_id],b,a,Nat.le_trans h4 l5⟩
theorem polsP_is(hs:Sim α s w){v:V}{p:List (List Mono)}(h:polsP s v=some p): ∃q:Sl PolV,polsL q.list=p/\v.inst α= j0 q/\(tV q).p (Zn w) w:=by
 obtain⟨l,h1,c,b,h4,a,k⟩:=bIs (E:=iY) (f:=λq:PolV=>q.list) (G:=λq=>(fB q).p (Zn w) w) (γ:=List Mono) hs (λj g hl hg=>by
  match j,hl,hg with
  |[u],_,hg=>
   obtain⟨q,i,e,d⟩:=polP_is hs hg
   exact⟨q,i,by show [u.inst α]=[_];rw[e],d⟩) (show slO (one1O (polP s)) iY.size v s=some p from h)
 exact⟨l,h1,c,⟨⟨b,h4⟩,a,k9⟩⟩
theorem opP_is(hs:Sim α s w){cs:List V}{o:OpC}(h:opP s cs=some o): ∃x:OpV,x.c=o/\cs.map (V.inst α)=opE.cells x/\(opF x).p (Zn w) w:=by
 unfold opP at h;split at h
 .rename_i a b c p f;obtain⟨t,i,h⟩:=bB h;obtain⟨r,hb,h⟩:=bB h;obtain⟨n,g,h⟩:=bB h;obtain⟨u,d,h⟩:=bB h;obtain⟨j,e,h⟩:=bB h;cases h;obtain⟨q,m,l,k⟩:=polP_is hs d;rw[i64_is i,i64_is hb,i64_is g,u8_is e];refine⟨⟨t,r,n,q,j⟩,by subst m;rfl,?_,k⟩;show [_,_,_,p.inst α,_]=_;rw[l];rfl
 .cases h
theorem bufP_is(hs:Sim α s w){cs:List V}{o:gP}(h:bufP s cs=some o): ∃x:lW,x.c=o/\cs.map (V.inst α)=bBb.cells x/\(bufF x).p (Zn w) w:=by
 unfold bufP at h;split at h
 .rename_i a b;obtain⟨j,d,h⟩:=bB h;obtain⟨i,hb,h⟩:=bB h;cases h;obtain⟨q,g,f,e⟩:=polsP_is hs d;rw[i64_is hb];refine⟨⟨q,i⟩,by subst g;rfl,?_,e⟩;show [a.inst α,_]=_;rw[f];rfl
 .cases h
theorem stepP_is(hs:Sim α s w){cs:List V}{o:bX}(h:stepP s cs=some o): ∃x:gV,x.c=o/\cs.map (V.inst α)=sO.cells x/\(oL x).p (Zn w) w:=by
 unfold stepP at h;split at h
 .rename_i a b p l f t;obtain⟨K,z,h⟩:=bB h;obtain⟨J,hb,h⟩:=bB h;obtain⟨L,u,h⟩:=bB h;obtain⟨M,hl,h⟩:=bB h;obtain⟨B,v,h⟩:=bB h;obtain⟨d,n,h⟩:=bB h;cases h;obtain⟨q,I,D,C⟩:=polP_is hs u;obtain⟨r,A,g2,g3⟩:=polsP_is hs hl;obtain⟨y,m,k,j,i,e,N⟩:=bIs (E:=opE) (f:=OpV.c) (G:=λx=>(opF x).p (Zn w) w) (γ:=OpC) hs (λcs g _ hg=>opP_is hs hg) (show slO (opP s) opE.size t s=some d from n);rw[i64_is z,i64_is hb,u8_is v];refine⟨⟨K,J,q,r,B,y⟩,by subst I A m;rfl,?_,C,g3,⟨⟨j,i⟩,e,by show y.list.length*56<=140737488355328;omega⟩⟩;show [_,_,p.inst α,l.inst α,_,t.inst α]=_;rw[D,g2,k];rfl
 .cases h
omit [Ctx]in
theorem ints1_is{cs:List V}{g:Int}(hl:cs.length=cK.size)(hg:one1O i64O cs=some g): ∃x:Int,id x=g/\cs.map (V.inst α)=cK.cells x/\True:=by
 match cs,hl,hg with
 |[u],_,hg=>exact⟨g,rfl,by rw[i64_is (show i64O u=some g from hg)];rfl,e8⟩
theorem ints_is(hs:Sim α s w){v:V}{p:List Int}(h:intsO s v=some p): ∃q:Sl Int,q.list=p/\v.inst α= j0 q/\(bIx q).p (Zn w) w:=by
 obtain⟨l,h1,b,a,_,h4,c⟩:=bIs (E:=cK) (f:=id) (G:=λ_=>True) (γ:=Int) hs (λd g hl hg=>ints1_is hl hg) (show slO (one1O i64O) cK.size v s=some p from h);exact⟨l,by rw[<-h1,List.map_id],b,a,h4,k9⟩
theorem core_is(hs:Sim α s w){v:V}{c:dA}(h:coreO s v=some c): ∃x:gD,x.c=c/\v.inst α= .agg #[j5 x.vars,j0 x.bufs,j0 x.steps,j0 x.outs]/\(oJ x).p (Zn w) w:=by
 obtain⟨d,rfl,h⟩:=vB h
 match d,h with
 |[a,b,t,o],h=>
  have h:(ob (i64O a) λa=>ob (slO (bufP s) 2 b s) λb=>ob (slO (stepP s) 6 t s) λt=>ob (slO (one1O i64O) 1 o s) λo=>some (⟨a,b,t,o⟩:dA))=some c:=h;obtain⟨M,D,h⟩:=bB h;obtain⟨L,hb,h⟩:=bB h;obtain⟨e,C,h⟩:=bB h;obtain⟨N,ho,h⟩:=bB h;cases h;obtain⟨y,B,A,u,r,n,P⟩:=bIs (E:=bBb) (f:=lW.c) (G:=λx=>(bufF x).p (Zn w) w) (γ:=gP) hs (λd g _ hg=>bufP_is hs hg) (show slO (bufP s) bBb.size b s=some L from hb);obtain⟨z,m,l,k,j,i,O⟩:=bIs (E:=sO) (f:=gV.c) (G:=λx=>(oL x).p (Zn w) w) (γ:=bX) hs (λd g _ hg=>stepP_is hs hg) (show slO (stepP s) sO.size t s=some e from C);obtain⟨q,K,J,I⟩:=ints_is hs ho;rw[i64_is D];refine⟨⟨M,y,z,q⟩,by subst B m K;rfl,?_,⟨⟨u,r⟩,n,by show y.list.length*32<=140737488355328;omega⟩,⟨⟨k,j⟩,i,by show z.list.length*96<=140737488355328;omega⟩,I⟩;rw[oR];show Value.agg #[_,b.inst α,t.inst α,o.inst α]=_;rw[A,l,J];rfl
end
end X
end
section
open Go.Proofs.Tryz
namespace X
open Go.RowKit Go.Proofs.Tryz
theorem own_at{w:World}{v:Value}{t:TypeId}{sz m:Nat}{cs:List Value}(hok:w.ownsRow 0 t sz v m cs)(h0:0<m): ∃g cap,v= .slice (some ⟨g,0,none⟩) m cap/\v.ownBlock=some g/\ ∀j u,cs[j]?=some u->w.cell? ⟨g,j,none⟩=some u:=by
 have h1:=hok
 rcases hok.2 with ⟨e,c⟩|⟨g,cap,b,e,_⟩
 .omega
 .subst e;refine⟨g,cap,rfl,rfl,λj u a=>?_⟩;have hlt:=(D9.1 a).1;rw[h1.1]at hlt;rw[World.ownsRow.cellAt h1 j hlt];exact a
section
variable [Ctx] {α : As} {s s' : St} {w w' : World}
omit [Ctx]in
theorem below_of{H:List bC}{S':jX}(st:Go.Proofs.YtnfiadlonjediaaGreatDoor.St ⟨w,kZ [],Zn w⟩ H S' w'):Below w.heap.size w w':=⟨st.kept.os,st.kept.tape,st.kept.output,st.kept.size,λk a=>st.kept.block k a λ⟨c,hc,_⟩=>by cases hc⟩
def NoneIs:Prop:= ∀o,Ctx.G 2 o-> ∃t z,o= .cells #[.int .i64 0,.int .i64 (-1)] t z
theorem none_cells(hs:Sim α s w){k:Nat}(hg:Ctx.gl 0=some k)(hG:NoneIs)(h:isKnow 2 (s.h.get k)=true):(bE.cells 0 0 [j5 0,j5 (-1)]).p (Zn w) w:=by
 obtain⟨o,b,c⟩:=know_at hs hg h;obtain⟨t,z,rfl⟩:=hG o c;refine⟨(N6.1 b).1,λj u a=>?_⟩;unfold World.cell?;rw[C7];dsimp only;rw[b]
 match j,a with
 |0,a=>cases a;rfl
 |1,a=>cases a;rfl
 |j+2,a=>cases a
def As.two(α:As)(n c g0 g1 c0 c1:Nat)(A0 A1:Option Addr):As:={α with blk:=λk=>if k=n then g0 else if k=n+1 then g1 else α.blk k,room:=λk=>if k=c then c0 else if k=c+1 then c1 else α.room k,place:=λk=>if k=c then A0 else if k=c+1 then A1 else α.place k}
omit [Ctx]in
theorem two_same{n c g0 g1 c0 c1:Nat}{A0 A1:Option Addr}:mI n c α (α.two n c g0 g1 c0 c1 A0 A1):=⟨λk a=>by unfold As.two;simp only;rw[if_neg k9,if_neg k9],λk a=>by unfold As.two;simp only;rw[if_neg k9,if_neg k9],λk a=>by unfold As.two;simp only;rw[if_neg k9,if_neg k9]⟩
omit [Ctx]in
theorem ins_all{l:List cA}: ∀{j:Nat} {v:V},(l.flatMap insW)[j]?=some v->(v.Sc s.n s.c/\v.one=true)/\(lO.all l)[j]?=some (v.inst α):=by
 induction l with
 |nil=>intro j v h;cases h
 |cons i r ih=>
  intro j v h;rw[List.flatMap_cons]at h;have e:lO.all (i::r)=lO.cells i++lO.all r:=rfl;rw[e]
  by_cases a:j<5
  .rw[aL (by exact a)]at h;rw[aL (by show j<(lO.cells i).length;rw[lO.len];exact a)]
   match j,h with
   |0,h=>cases h;exact⟨⟨⟨1,by rw[iU]⟩,rfl⟩,rfl⟩
   |1,h=>cases h;exact⟨⟨⟨1,by rw[iU]⟩,rfl⟩,rfl⟩
   |2,h=>cases h;exact⟨⟨⟨1,by rw[iU]⟩,rfl⟩,rfl⟩
   |3,h=>cases h;exact⟨⟨⟨1,by rw[iU]⟩,rfl⟩,rfl⟩
   |4,h=>cases h;exact⟨⟨⟨1,by rw[iU]⟩,rfl⟩,rfl⟩
   |j+5,_=>omega
  .rw[eK (by show 5<=j;omega)]at h;rw[eK (by rw[lO.len];show 5<=j;omega),lO.len];exact ih h
theorem gen_nil(hs:Sim α s w){mem e:Int}(hb:Below w.heap.size w w')(A0 A1:Option Addr)(c0 c1:Nat): ∃α',Value.tuple #[.agg #[.slice A0 0 c0,j5 mem,.slice A1 0 c1],j5 e]=(V.t [.g [.y s.c,iV mem,.y (s.c+1)],iV e]).inst α'/\Stp α s w α' {s with c:=s.c+2} w':=by
 refine⟨α.two (s.n+1) s.c 0 0 c0 c1 A0 A1,by rw[inst_t];simp[V.inst,V.instL,iV,As.two],?_⟩
 have a:mI s.n s.c α (α.two (s.n+1) s.c 0 0 c0 c1 A0 A1):=⟨λk d=>by unfold As.two;simp only;rw[if_neg k9,if_neg k9],λk d=>by unfold As.two;simp only;rw[if_neg k9,if_neg k9],λk d=>by unfold As.two;simp only;rw[if_neg k9,if_neg k9]⟩
 refine Stp.make hs (λ_=>False) a (B8 _) (by show s.c<=s.c+2;omega) hb.os hb.tape hb.output hb.size (λb h _=>hb.block b h) (λ_ h=>h.elim) (λk y d=> .inl ⟨d,λh=>h⟩) (λk f y j d i e=>?_);have h1:=hs.lt k y d;have l:=hs.lt f j i;have o:(α.two (s.n+1) s.c 0 0 c0 c1 A0 A1).blk k=α.blk k:=(a.blk k h1).symm;have m:(α.two (s.n+1) s.c 0 0 c0 c1 A0 A1).blk f=α.blk f:=(a.blk f l).symm;rw[o,m]at e;exact hs.ne k f y j d i e
theorem gen_row(hs:Sim α s w){code:List cA}{at_:List Int}{mem e:Int}{x:(Option Addr×Nat)×(Option Addr×Nat)}{S':jX}(hn1:code.length≠0)(hn2:at_.length≠0)
  (st:Go.Proofs.YtnfiadlonjediaaGreatDoor.St ⟨w,kZ [],Zn w⟩ [lO.row (.slice x.1.1 code.length x.1.2) 52 code,cK.row (.slice x.2.1 at_.length x.2.2) 2 at_] S' w'):
  ∃α',Value.tuple #[.agg #[.slice x.1.1 code.length x.1.2,j5 mem,.slice x.2.1 at_.length x.2.2],j5 e]=(V.t [.g [.l s.n 0 code.length (.s s.c 0),iV mem,.l (s.n+1) 0 at_.length (.s (s.c+1) 0)],iV e]).inst α'/\Stp α s w α' {h:=(s.h.set (some (.win (code.flatMap insW))) fuelT s.n).set (some (.win (at_.map iV))) fuelT (s.n+1),n:=s.n+2,c:=s.c+2} w':=by
 have hb:=below_of st;have Y:w'.ownsRow 0 52 lO.size (.slice x.1.1 code.length x.1.2) code.length (lO.all code):=st.ok _ (.head _);have X:w'.ownsRow 0 2 cK.size (.slice x.2.1 at_.length x.2.2) at_.length (cK.all at_):=st.ok _ (.tail _ (.head _));obtain⟨d,c0,e0,O,a0⟩:=own_at Y (eM hn1);obtain⟨m,c1,e1,N,a1⟩:=own_at X (eM hn2);injection e0 with e01 _ e02
 injection e1 with e11 _ e12
 have o0:=st.own _ (.head _) d O;have M:=st.own _ (.tail _ (.head _)) m N;have hM: ∀b,kZ [] b->False:=λb ⟨c,hc,_⟩=>by cases hc
 have W:w.heap.size<=d:=o0.2.1.resolve_left (hM _);have U:w.heap.size<=m:=M.2.1.resolve_left (hM _);have A:=List.pairwise_cons.1 st.sep;have y:d≠m:=λe=>A.1 _ (.head _) d O (by rw[e];exact N);have o:mI s.n s.c α (α.two s.n s.c d m c0 c1 none none):=two_same;have r:(α.two s.n s.c d m c0 c1 none none).blk s.n=d:=by simp[As.two]
 have q:(α.two s.n s.c d m c0 c1 none none).blk (s.n+1)=m:=by simp[As.two]
 have R:(α.two s.n s.c d m c0 c1 none none).room s.c=c0:=by simp[As.two]
 have Q:(α.two s.n s.c d m c0 c1 none none).room (s.c+1)=c1:=by simp[As.two]
 have f: ∀k x,s.h.get k=some x->(α.two s.n s.c d m c0 c1 none none).blk k=α.blk k/\α.blk k<w.heap.size:=λk x a=>by
  have:=hs.lt k x a;exact⟨(o.blk k this).symm,(hs.is k x a).lt⟩
 refine⟨α.two s.n s.c d m c0 c1 none none,?_,?_⟩
 .rw[inst_t];simp only[V.inst,V.instL,iV,List.map_cons,List.map_nil,r,q,Cap.inst,R,Q,C7,e01,e02,e11,e12]
 .have B: ∀v∈at_.map iV,v.Sc (s.n+2) (s.c+2)/\v.one=true:=λv I=>by
   obtain⟨z,_,rfl⟩:=K7.1 I;exact⟨⟨1,by rw[iU];rfl⟩,rfl⟩
  have K: ∀(i:Nat) (v:V),(at_.map iV)[i]?=some v->w'.cell? ⟨m,i,none⟩=some (v.inst (α.two s.n s.c d m c0 c1 none none)):=λi v p=>by
   rw[I7]at p
   cases hz:at_[i]? with
   |none=>rw[hz]at p;cases p
   |some z=>
    rw[hz]at p;cases p;have h1:=cK.all_get hz (show(cK.cells z)[0]?=some (.int .i64 z)from rfl);have h1:(cK.all at_)[i*1+0]?=some (.int .i64 z):=h1;rw[Nat.mul_one,Nat.add_zero]at h1;exact a1 i _ h1
  have C: ∀v∈code.flatMap insW,v.Sc (s.n+2) (s.c+2)/\v.one=true:=λv I=>by
   obtain⟨j,Z⟩:=aQ I;exact(ins_all (s:={s with n:=s.n+2,c:=s.c+2}) (α:=α) Z).1
  have L: ∀(i:Nat) (v:V),(code.flatMap insW)[i]?=some v->w'.cell? ⟨d,i,none⟩=some (v.inst (α.two s.n s.c d m c0 c1 none none)):=λi v p=>a0 i _ (ins_all (s:=s) p).2;refine Stp.make hs (λ_=>False) o (by show s.n<=s.n+2;omega) (by show s.c<=s.c+2;omega) hb.os hb.tape hb.output hb.size (λb h _=>hb.block b h) (λ_ h=>h.elim) (λk x a=>?_) (λk E x P a J e=>?_)
  .have a:((s.h.set (some (.win (code.flatMap insW))) fuelT s.n).set (some (.win (at_.map iV))) fuelT (s.n+1)).get k=some x:=a
   rcases gA a with ⟨rfl,e⟩|⟨_,a⟩
   .injection e with e
    subst e;exact .inr ⟨by show s.n+1<s.n+2;omega,B,by rw[q];exact⟨M.1,K⟩,.inl (by rw[q];exact U)⟩
   .rcases gA a with ⟨rfl,e⟩|⟨_,a⟩
    .injection e with e
     subst e;exact .inr ⟨by show s.n<s.n+2;omega,C,by rw[r];exact⟨o0.1,L⟩,.inl (by rw[r];exact W)⟩
    .exact .inl ⟨a,λh=>h⟩
  .have key: ∀k x,((s.h.set (some (.win (code.flatMap insW))) fuelT s.n).set (some (.win (at_.map iV))) fuelT (s.n+1)).get k=some x->(k=s.n\/k=s.n+1)\/ ∃z,s.h.get k=some z:=λk x a=>by
    rcases gA a with ⟨rfl,_⟩|⟨_,a⟩
    .exact .inl (.inr rfl)
    .rcases gA a with ⟨rfl,_⟩|⟨_,a⟩
     .exact .inl (.inl rfl)
     .exact .inr ⟨x,a⟩
   rcases key k x a with h1|⟨z,h1⟩<;>rcases key E P J with u|⟨G,u⟩
   .rcases h1 with rfl|rfl<;>rcases u with rfl|rfl<;>simp only[r,q]at e<;>first|rfl|exact absurd e y|exact absurd e.symm y
   .obtain⟨D,h4⟩:=f E G u;rw[D]at e
    rcases h1 with rfl|rfl<;>simp only[r,q]at e<;>omega
   .obtain⟨D,h4⟩:=f k z h1;rw[D]at e
    rcases u with rfl|rfl<;>simp only[r,q]at e<;>omega
   .obtain⟨D,_⟩:=f k z h1;obtain⟨h5,_⟩:=f E G u;rw[D,h5]at e;exact hs.ne k E z G h1 u e
theorem gen_orc(hP:Ctx.P=prog){kN:Nat}(hg:Ctx.gl 0=some kN)(hG:NoneIs):uC 9 (genO kN):=λk s v s' h α w i _=>by
 match k,h with
 |[a,b],h=>
  obtain⟨c,j,h1⟩:=bB (show ob (coreO s a) _=some (v,s')from h);obtain⟨d,hd,A⟩:=bB h1;obtain⟨z,f⟩:=bN A;rw[genQ_eq]at f;obtain⟨x,rfl,u,t⟩:=core_is i j;obtain⟨y,rfl,q,p⟩:=ints_is i hd;refine .inr ⟨by rw[hP];exact j4 func9 _ _,?_⟩;rw[hP];have hr:=bTw x y.addr y.cap y.list (by have l:y.list.length*8<=140737488355328:=p.2.2;omega) (Zn w) w ⟨oM.refl _ _,λc j=>(by cases j),λc j=>(by cases j),List.Pairwise.nil,λb hb=>⟨hb,.inl hb⟩⟩ (All.cons t (All.cons p.1 (All.cons (none_cells i hg hG z) λg hg=>by cases hg)));show Calls prog _ ([a.inst α,b.inst α]:List Value).toArray w _;rw[u,q];refine hr.mono ?_;rintro e w' ⟨o,D,rfl,st,_⟩;refine⟨_,rfl,?_⟩;generalize gF x.c y.list=r at f st⊢;unfold genV at f;rw[cF]at f;split at f
  .rename_i h4;rw[G1]at h4;have C:r.1.code.length=0:=B7 h4.1;have B:r.1.at_.length=0:=B7 h4.2;cases f;rw[C,B];exact gen_nil i (below_of st) o.1.1 o.2.1 o.1.2 o.2.2
  .obtain⟨l,f⟩:=bN f;cases f;simp only[G1,Bool.not_eq_true']at l
   have n:r.1.code.length≠0:=λe=>by
    have h1:B5 r.1.code.length 0=false:=l.1;rw[e]at h1;cases h1
   have m:r.1.at_.length≠0:=λe=>by
    have h1:B5 r.1.at_.length 0=false:=l.2;rw[e]at h1;cases h1
   exact gen_row i n m st
end
end X
end
end Go.Proofs.YtnfiadlonjediaaGreatDoor
