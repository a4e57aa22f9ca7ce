/- Texts of one proof, one behind the other: GmK, IsaE, RngT, GmH, GmI, DfrB, GmJ, GenP, GenQ, GenR, GmL, RunOg, RunRg. -/
import Derived.Test.YtnfiadlonjediaaGreatDoorM7
import Derived.Test.YtnfiadlonjediaaGreatDoorM13
import Derived.Test.YtnfiadlonjediaaGreatDoorM16
import Derived.Test.YtnfiadlonjediaaGreatDoorM11
import Derived.ChangeKeysEq
import Derived.Lib.OthersKept
import Derived.Test.YtnfiadlonjediaaGreatDoorM10
import Derived.Test.YtnfiadlonjediaaGreatDoorM15
import Derived.Test.YtnfiadlonjediaaGreatDoorM12
import Derived.Test.YtnfiadlonjediaaGreatDoorM6
set_option maxRecDepth 100000
namespace Go.Proofs.YtnfiadlonjediaaGreatDoor
section
open Go.RowKit Go.Proofs.Tryz
def MkV.ly(m:MkV)(p q:Option Addr×Nat)(A S:List Int):MkV:=⟨m.l,m.marks,m.next,m.fail,m.frame,m.core,m.dims,⟨p.1,p.2,A⟩,⟨q.1,q.2,S⟩⟩
def MkV.fr(m:MkV)(z:Int):MkV:=⟨m.l,m.marks,m.next,m.fail,z,m.core,m.dims,m.at_,m.size⟩
def mkA (m:MkV):bD:=cF.row (.slice m.at_.addr m.at_.list.length m.at_.cap) 2 m.at_.list
def mkZ (m:MkV):bD:=cF.row (.slice m.size.addr m.size.list.length m.size.cap) 2 m.size.list
def uA (ds:List Int)(u:jD):Int:=(jL ((polsL u.sides.list).map λp=>(bH p ds).1)).1
theorem zero_buf:(prog.info? 95).bind (·.zero)=some (.agg #[.slice none 0 0,.int .i64 0]):=k8
set_option maxHeartbeats 1000000 in
theorem layM_spec(mb:Nat)(m:MkV)(a:Option Addr×Nat)(s:GnS)(y:LayV)(hbuf: ∀u∈m.core.bufs.list,(∀p∈polsL u.sides.list,(bH p m.dims.list).2=0)/\u.sides.list.length<=4)(hlen:y.at_.list.length=m.core.bufs.list.length)(hbl:m.core.bufs.list.length<=1024)(hat: ∀p∈polsL y.at_.list,(bH p m.dims.list).2=0)(hfr:(bH y.size.list m.dims.list).2=0)(hdl:m.dims.list.length<=140737488355328):cE prog 26 [.pointer (some ⟨mb,0,none⟩),.agg #[.slice y.at_.addr y.at_.list.length y.at_.cap,.slice y.size.addr y.size.list.length y.size.cap]] [mkO mb ((m.ly (none,0) (none,0) [] []).st a s),mkA (m.ly (none,0) (none,0) [] []),mkZ (m.ly (none,0) (none,0) [] [])] [nM m.core,cF.sl (.slice m.dims.addr m.dims.list.length m.dims.cap) m.dims.list,iD.sl (.slice y.at_.addr y.at_.list.length y.at_.cap) y.at_.list,bC.each y.at_.list fC,fC y.size] (λ(_:(Option Addr×Nat)×(Option Addr×Nat))=> .tuple #[]) (λ(x:(Option Addr×Nat)×(Option Addr×Nat))=>[mkO mb (((m.ly x.1 x.2 ((polsL y.at_.list).map (λp=>(bH p m.dims.list).1)) (m.core.bufs.list.map (uA m.dims.list))).fr (bH y.size.list m.dims.list).1).st a s),mkA ((m.ly x.1 x.2 ((polsL y.at_.list).map (λp=>(bH p m.dims.list).1)) (m.core.bufs.list.map (uA m.dims.list))).fr (bH y.size.list m.dims.list).1),mkZ ((m.ly x.1 x.2 ((polsL y.at_.list).map (λp=>(bH p m.dims.list).1)) (m.core.bufs.list.map (uA m.dims.list))).fr (bH y.size.list m.dims.list).1)]) (λ_=>[]):=by
 have hT:=cT;refine j2 func26 ntmps26 ?_;intro β hM;refine g2 ?_;refine j0 λb1=>?_;refine g4 ?_;refine bK (vE.sl (.slice m.core.bufs.addr m.core.bufs.list.length m.core.bufs.cap) m.core.bufs.list) (mO (iS d7)) ?_;refine g7 ?_;refine bN (z':=((m.core.bufs.list.length:Nat):Int)) rfl ?_;refine g4 ?_;refine bU (ι:=(Option Addr×Nat)×(Option Addr×Nat)×List Int×List Int×Nat) [(0,_),(3,_),(15,_),(16,_)] ⟨rfl,rfl,rfl,rfl,e8⟩ (λ⟨p,q,AT,SZ,i⟩=>[(17,.int .i64 (i:Nat))]) (λ⟨p,q,AT,SZ,i⟩=>[mkO mb ((m.ly p q AT SZ).st a s),mkA (m.ly p q AT SZ),mkZ (m.ly p q AT SZ)]) (λ⟨p,q,AT,SZ,i⟩=>[bC.pure (i<=m.core.bufs.list.length/\(AT.length=i/\SZ.length=i)/\AT=((polsL y.at_.list).take i).map (λp=>(bH p m.dims.list).1)/\SZ=(m.core.bufs.list.take i).map (uA m.dims.list))]) (λ⟨p,q,AT,SZ,i⟩=>m.core.bufs.list.length-i) ((none,0),(none,0),[],[],0) ⟨rfl,e8⟩ (.c1 (.c1 (.c1 .nil))) ⟨e9 (⟨k7,⟨rfl,rfl⟩,rfl,rfl⟩),e8⟩ ?_;rintro⟨p,q,AT,SZ,i⟩;dsimp only;refine bJ d7 λhinv2=>?_;have hl1:=hinv2.2.1.1;have hl2:=hinv2.2.1.2;refine g6 ?_;refine dH (λhc18=>?_) λhc18=>?_
 .refine g5 ?_;obtain⟨u,hu⟩:=gx m.core.bufs.list i;refine bK (bufF u) (Has.each (yI (iS d9)) (f5 hu)) ?_;have hub:=hbuf u (f5 hu);refine g2 ?_;refine ss (ixs i) ?_;refine ss (jQ hu 0) ?_;refine i7 zero_buf λb2=>?_;refine g11 ?_;refine bZ (t:=2) cF<|bK (iD.sl (.slice u.sides.addr u.sides.list.length u.sides.cap) u.sides.list) (qR d7)<|bJ (uP d8) λhsc=>?_;have hsc1:=hsc.1;have hsc2:=hsc.2;refine g8 ?_;refine bU (ι:=Option Addr×Nat×List Int×Nat) [(0,_),(3,_),(4,_),(15,_),(16,_),(17,_),(23,_),(24,_)] ⟨rfl,rfl,rfl,rfl,rfl,rfl,rfl,rfl,e8⟩ (λ⟨LA,lc,acc,j⟩=>[(6,.slice LA acc.length lc),(25,.int .i64 (j:Nat))]) (λ⟨LA,lc,acc,j⟩=>[cF.row (.slice LA acc.length lc) 2 acc]) (λ⟨LA,lc,acc,j⟩=>[bC.pure (j<=u.sides.list.length/\acc.length=j/\acc=((polsL u.sides.list).take j).map (λp=>(bH p m.dims.list).1))]) (λ⟨LA,lc,acc,j⟩=>u.sides.list.length-j) (none,0,[],0) ⟨rfl,rfl,e8⟩ (.c0 .nil) ⟨e9 (⟨k7,rfl,rfl⟩),e8⟩ ?_;rintro⟨LA,lc,acc,j⟩;dsimp only;refine bJ d7 λhinv6=>?_;have hal:=hinv6.2.1;refine g6 ?_;refine dH (λhc26=>?_) λhc26=>?_
  .refine g5 ?_;obtain⟨x,hx⟩:=gx u.sides.list j;refine bK (fC x) (Has.each (qO d9) (f5 hx)) ?_;refine one ?_;refine ss (ixs j) ?_;refine ss (fJ hx 0) ?_;refine g7 ?_;have hvx32:(bH x.list m.dims.list).2=0:=hub.1 x.list (f5 (dD hx));refine bF func65 (pL (λ_=>by unfold wH;exact if_pos hvx32) (pY mb (m.ly p q AT SZ) a s x hdl)) rfl rfl (.c2 .nil) ⟨d7,(Has.of mT7),e8⟩ λ_=>?_;refine nX (m:=(bH x.list m.dims.list).1) rfl rfl rfl rfl rfl λb3=>?_;refine nS kT2 (gB .head rfl) rfl rfl rfl rfl rfl rfl rfl q9 λA4 c5=>?_;refine g6 ?_;refine inc (j+1) ?_;refine g3 ?_;exact bk2 (A4,c5,acc++[(bH x.list m.dims.list).1],j+1) ⟨e9 (⟨by dsimp only;omega,by dsimp only;rw[List.length_append,List.length_singleton];omega,by dsimp only;rw[hinv6.2.2];exact(vO (f:=(λp=>(bH p m.dims.list).1)) (dD hx)).symm⟩),e8⟩
  refine g6 ?_;have hL:(polsL u.sides.list).map (λp=>(bH p m.dims.list).1)=acc:=by rw[hinv6.2.2,List.take_of_length_le o9]
  have hsg:(jL acc).1=uA m.dims.list u:=by rw[<-hL];rfl
  refine jA (E:=cF) .head ?_;refine g2 ?_;refine bF func66 (bRd LA lc acc k7) rfl rfl .nil ⟨d7,e8⟩ λ_=>?_;refine g2 ?_;refine bN (z':=uA m.dims.list u) hsg ?_;refine g13 ?_;refine nX (m:=(uA m.dims.list u)) rfl rfl rfl rfl rfl λb6=>?_;refine nS kT4 (gB .head rfl) rfl rfl rfl rfl rfl rfl rfl z7 λA7 c8=>?_;refine g5 ?_;obtain⟨y1,hy1⟩:=gx y.at_.list i;refine bK (fC y1) (Has.each (Has.of mT9) (f5 hy1)) ?_;refine pJ 16 _ _ [(true,0),(true,1),(true,2),(true,3),(true,4),(true,5),(true,6),(true,7),(true,8),(true,9),(true,10),(false,11),(false,12),(false,13),(true,14),(true,15)] dW l8 (.c0 (.c0 (.c0 (.c0 (.c1 .nil))))) bA.self ?_;refine g9 ?_;refine stL rfl (ixs i) ?_;refine stL rfl (fJ hy1 0) ?_;refine one ?_;have hvx62:(bH y1.list m.dims.list).2=0:=hat y1.list (f5 (dD hy1));refine bF func65 (pL (λ_=>by unfold wH;exact if_pos hvx62) (pY mb (m.ly p (A7,c8) AT (SZ++[uA m.dims.list u])) a s y1 hdl)) rfl rfl (.c0 .nil) ⟨d7,(Has.of mT8),e8⟩ λ_=>?_;refine g2 ?_;refine nX (m:=(bH y1.list m.dims.list).1) rfl rfl rfl rfl rfl λb9=>?_;refine g2 ?_;refine nS kT5 (gB .head rfl) rfl rfl rfl rfl rfl rfl rfl z7 λA10 c11=>?_;refine g10 ?_;refine inc (i+1) ?_;refine g3 ?_;exact bk2 ((A10,c11),(A7,c8),AT++[(bH y1.list m.dims.list).1],SZ++[uA m.dims.list u],i+1) ⟨e9 (⟨by dsimp only;omega,⟨by dsimp only;rw[List.length_append,List.length_singleton];omega,by dsimp only;rw[List.length_append,List.length_singleton];omega⟩,by dsimp only;rw[hinv2.2.2.1];exact(vO (f:=(λp=>(bH p m.dims.list).1)) (dD hy1)).symm,by dsimp only;rw[hinv2.2.2.2];exact(vO (f:=uA m.dims.list) hu).symm⟩),e8⟩
 refine g10 ?_;have hvx72:(bH y.size.list m.dims.list).2=0:=hfr;refine bF func65 (pL (λ_=>by unfold wH;exact if_pos hvx72) (pY mb (m.ly p q AT SZ) a s y.size hdl)) rfl rfl (.c0 .nil) ⟨(Has.of mT6),e6,e8⟩ λ_=>?_;refine g4 ?_;have hAT:AT=((polsL y.at_.list).map (λp=>(bH p m.dims.list).1)):=by rw[hinv2.2.2.1,List.take_of_length_le o9]
 have hSZ:SZ=(m.core.bufs.list.map (uA m.dims.list)):=by rw[hinv2.2.2.2,List.take_of_length_le k7]
 rw[<-hAT,<-hSZ];exact cR (p,q) rfl (.c0 (.c0 (.c0 .nil))) e8 rfl
def insEq (x y:cX):Bool:=((x.op==y.op)&&((x.a==y.a)&&((x.b==y.b)&&((x.c==y.c)&&(x.imm==y.imm)))))
theorem bGw(d:Nat)(x y:cX)(w:World):(Op.equalIn (d+2) 52 (.agg #[.int .u8 x.op,.int .u8 x.a,.int .u8 x.b,.int .u8 x.c,.int .i32 x.imm]) (.agg #[.int .u8 y.op,.int .u8 y.a,.int .u8 y.b,.int .u8 y.c,.int .i32 y.imm])).run prog w= .ok (insEq x y) w:=by
 have hp:prog.stoodInHeld 52=false:=k8
 have p0: ∀x:cX,(part 5 #[.int .u8 x.op,.int .u8 x.a,.int .u8 x.b,.int .u8 x.c,.int .i32 x.imm] 0).run prog w= .ok (.int .u8 x.op) w:=λx=>by kernel_rfl
 have p1: ∀x:cX,(part 5 #[.int .u8 x.op,.int .u8 x.a,.int .u8 x.b,.int .u8 x.c,.int .i32 x.imm] 1).run prog w= .ok (.int .u8 x.a) w:=λx=>by kernel_rfl
 have p2: ∀x:cX,(part 5 #[.int .u8 x.op,.int .u8 x.a,.int .u8 x.b,.int .u8 x.c,.int .i32 x.imm] 2).run prog w= .ok (.int .u8 x.b) w:=λx=>by kernel_rfl
 have p3: ∀x:cX,(part 5 #[.int .u8 x.op,.int .u8 x.a,.int .u8 x.b,.int .u8 x.c,.int .i32 x.imm] 3).run prog w= .ok (.int .u8 x.c) w:=λx=>by kernel_rfl
 have p4: ∀x:cX,(part 21 #[.int .u8 x.op,.int .u8 x.a,.int .u8 x.b,.int .u8 x.c,.int .i32 x.imm] 4).run prog w= .ok (.int .i32 x.imm) w:=λx=>by kernel_rfl
 have hS:prog.underlying 52=some (.struct (prog.fieldsOf 52)):=k8
 rw[run_equalIn_agg w (d+1) 52 _ _ hS hp];unfold Program.fieldsOf;rw[underlying52];simp only[Op.eqFields,Sem.run_bind,Sem.run_ite,Sem.run_pure,p0,p1,p2,p3,p4,Result.andThen_ok,run_equalIn_int w d 5 .u8 .u8 _ _ underlying5,run_equalIn_int w d 21 .i32 .i32 _ _ underlying21];unfold insEq;cases x.op==y.op<;>cases x.a==y.a<;>cases x.b==y.b<;>cases x.c==y.c<;>cases x.imm==y.imm<;>rfl
theorem sti_eql_ins{β:dC}{n:Nat}{Γ:Env}{H:List bD}{F:List bC}{o:Oper}{a b:Operand}{tt:TypeId}(x y:cX)(ho:o.op= .binOp .eql 52 a b tt)(hx:Γ.ev a=some (.agg #[.int .u8 x.op,.int .u8 x.a,.int .u8 x.b,.int .u8 x.c,.int .i32 x.imm]))(hy:Γ.ev b=some (.agg #[.int .u8 y.op,.int .u8 y.a,.int .u8 y.b,.int .u8 y.c,.int .i32 y.imm])):Sti prog β n Γ H F o (.bool (insEq x y)):=λc w S f s k=>by
 have hq:prog.eqGuardType prog.depth 52=false:=k8
 have hg:(eqGuard .eql 52 a b (.agg #[.int .u8 x.op,.int .u8 x.a,.int .u8 x.b,.int .u8 x.c,.int .i32 x.imm]) (.agg #[.int .u8 y.op,.int .u8 y.a,.int .u8 y.b,.int .u8 y.c,.int .i32 y.imm])).run prog w= .ok () w:=by
  unfold eqGuard;have hp:(program:Sem Program).run prog w= .ok prog w:=rfl;simp[hp,hq]
 have hb:(binOp .eql 52 (.agg #[.int .u8 x.op,.int .u8 x.a,.int .u8 x.b,.int .u8 x.c,.int .i32 x.imm]) (.agg #[.int .u8 y.op,.int .u8 y.a,.int .u8 y.b,.int .u8 y.c,.int .i32 y.imm])).run prog w= .ok (.bool (insEq x y)) w:=by
  rw[run_eql_struct,bGw 9998 x y w];rfl
 unfold execOp;simp only[ho,f.ev hx,f.ev hy];rw[Sem.run_bind,Sem.run_bind,hg,Result.andThen_ok,hb];rfl
open Go.ChangeMaps (setBlock)
def iterC (b:Nat)(l:Bs)(pos:Nat):bD:= .obj b (.stringIter (bs l) pos)
section
variable {P : Program} {β : dC} {n : Nat} {Γ : Env} {H : List bD} {F : List bC} {Q : Exit -> Act -> World -> Prop} {ops : Array Oper} {rest : List Oper} {o : Oper}
theorem at_range{d:Nat}{t:TypeId}{x:Operand}{l:Bs}(hw:want ops Γ o=some true)(ho:o.op= .range t x)(hd:o.dst=some d)(hn:Nat.blt d n=true)(ht:P.underlying t=some .string)(hx:Γ.ev x=some (.string (bs l)))
  (k: ∀b,At β n ((d,.pointer (some ⟨b,0,none⟩))::Γ) (iterC b l 0::H) F (wpList P ops Q rest)):At β n Γ H F (wpList P ops Q (o::rest)):=
 fY hw λa w S f s hk=>by
  have hr:(execOp a.eval o).run P w= .ok (.value (.pointer (some ⟨w.heap.size,0,none⟩))) (w.alloc (.stringIter (bs l) 0)):=by
   unfold execOp;simp only[ho,f.ev hx,Sem.run_bind,run_range_string w t (bs l) ht];rfl
  unfold Oper.wp;rw[hr,Oper.upon_value,hd];exact k _ _ _ S (f.put l9 _) (s.alloc _) (All.alloc s hk _)
theorem at_next_end{d b:Nat}{x:Operand}{l:Bs}{pos:Nat}{H':List bD}(hH:bW H (iterC b l pos) H')(hp:l.length<=pos)(hw:want ops Γ o=some true)(ho:o.op= .next x true)(hd:o.dst=some d)(hn:Nat.blt d n=true)(hx:Γ.ev x=some (.pointer (some ⟨b,0,none⟩)))
  (k:At β n ((d,.tuple #[.bool false])::Γ) H F (wpList P ops Q rest)):At β n Γ H F (wpList P ops Q (o::rest)):=
 fY hw λa w S f s hk=>by
  have hb:w.heap[b]?=some (.stringIter (bs l) pos):=s.ok _ hH.mem
  have hr:(execOp a.eval o).run P w= .ok (.value (.tuple #[.bool false])) w:=by
   unfold execOp;simp only[ho,f.ev hx,Sem.run_bind,Lib.run_next_end_at w b (bs l) pos _ hb (by rw[bs_size];omega)];rfl
  unfold Oper.wp;rw[hr,Oper.upon_value,hd];exact k _ _ S (f.put l9 _) s hk
theorem at_next_at{d b:Nat}{x:Operand}{l:Bs}{pos:Nat}{c:UInt8}{H':List bD}(hH:bW H (iterC b l pos) H')(hp:l[pos]?=some c)(hc:c.toNat<128)(hw:want ops Γ o=some true)(ho:o.op= .next x true)(hd:o.dst=some d)(hn:Nat.blt d n=true)(hx:Γ.ev x=some (.pointer (some ⟨b,0,none⟩)))
  (k:At β n ((d,.tuple #[.bool true,.int .i64 (pos:Nat),.int .i32 (c.toNat:Nat)])::Γ) (iterC b l (pos+1)::H') F (wpList P ops Q rest)):At β n Γ H F (wpList P ops Q (o::rest)):=
 fY hw λa w S f s hk=>by
  have hb:w.heap[b]?=some (.stringIter (bs l) pos):=s.ok _ hH.mem;obtain⟨hlt,he⟩:=List.getElem?_eq_some_iff.1 hp;have hs:pos<(bs l).size:=by rw[bs_size];exact hlt
  have he2:(bs l)[pos]'hs=c:=by
   rw[<-he];simp[bs,ByteArray.getElem_eq_getElem_data]
  have hr:(execOp a.eval o).run P w= .ok (.value (.tuple #[.bool true,.int .i64 (pos:Nat),.int .i32 (c.toNat:Nat)])) (setBlock w b (.stringIter (bs l) (pos+1))):=by
   unfold execOp;simp only[ho,f.ev hx,Sem.run_bind,Lib.run_next_ascii_at w b (bs l) pos _ hb hs (by rw[he2];exact hc),he2];rfl
  unfold Oper.wp;rw[hr,Oper.upon_value,hd];have s2:=s.perm hH.perm;have hlt2:b<w.heap.size:=(Array.getElem?_eq_some_iff.1 hb).1;refine k _ _ S (f.put l9 _) (s2.swap iK rfl rfl ?_) (All.mono (λ_ h=>h) (s.agree iK (λc hc e=>by subst e;exact(s2.own _ (List.mem_cons_self ..) _ rfl).2.2 hc)) hk);show(setBlock w b _).heap[b]?=_;simp[setBlock,hlt2]
end
end
section
open Go.RowKit Go.Proofs.Tryz
theorem iteP{α:Type}{Q:α->Prop}{p:Prop} [Decidable p]{a b:α}(ha:Q a)(hb:Q b):Q (if p then a else b):=by
 by_cases h:p
 .rw[if_pos h];exact ha
 .rw[if_neg h];exact hb
def SmallB(r:List UInt8×List UInt8):Prop:= ∀c∈r.2,c.toNat<128
theorem hasN_small(op:Int):SmallB (hasN op):=by
 unfold hasN
 repeat' refine iteP (Q:=SmallB) ?_ ?_
 all_goals (unfold SmallB;decide)
theorem bIu{c:UInt8}: ∀{l:List UInt8} {x:cX},vV x (l++[c])=bEl (vV x l) c
 |[],_=>rfl
 |_::l,_=>bIu (l:=l)
theorem wP{x:cX}{l:List UInt8}{k:Nat}{c:UInt8}(h:l[k]?=some c):vV x (l.take (k+1))=bEl (vV x (l.take k)) c:=by
 obtain⟨hlt,e⟩:=List.getElem?_eq_some_iff.1 h;subst e;rw[List.take_succ_eq_append_getElem hlt,bIu]
theorem u8_ofH{c d:UInt8}{k:Nat}(h:((c.toNat:Nat):Int)=(k:Nat))(hd:d.toNat=k):c=d:=UInt8.toNat_inj.1 k7
theorem zH{c d:UInt8}{k:Nat}(h:((c.toNat:Nat):Int)≠(k:Nat))(hd:d.toNat=k):c≠d:=λe=>h (by rw[e,hd])
theorem rt_four(n:List UInt8)(a b c:Int):n=[]\/(n≠[]/\16<=a)\/(n≠[]/\ ¬16<=a/\16<=b)\/(n≠[]/\ ¬16<=a/\ ¬16<=b/\16<=c)\/(n≠[]/\ ¬16<=a/\ ¬16<=b/\ ¬16<=c):=by
 rcases Classical.em (n=[])with h|h
 .exact .inl h
 .rcases Classical.em (16<=a)with h1|h1
  .exact .inr (.inl ⟨h,h1⟩)
  .rcases Classical.em (16<=b)with h2|h2
   .exact .inr (.inr (.inl ⟨h,h1,h2⟩))
   .rcases Classical.em (16<=c)with h3|h3
    .exact .inr (.inr (.inr (.inl ⟨h,h1,h2,h3⟩)))
    .exact .inr (.inr (.inr (.inr ⟨h,h1,h2,h3⟩)))
theorem bAf:(prog.info? 52).bind (·.zero)=some (.agg #[.int .u8 0,.int .u8 0,.int .u8 0,.int .u8 0,.int .i32 0]):=k8
set_option maxHeartbeats 1000000 in
theorem has_spec(op:Int):cE prog 45 [.int .u8 op] [] [] (λ(_:Unit)=> .tuple #[.string (bs (hasN op).1),.string (bs (hasN op).2)]) (λ_=>[]) (λ_=>[]):=by
 have hT:=cT;refine j2 func45 ntmps45 ?_;intro β hM;refine g19 ?_;refine jN (λhc5=>?_) λhc5=>?_
 .refine g9 ?_;have hE:hasN op=([104,97,108,116],[]):=by unfold hasN;rw[if_pos hc5]
  rw[hE];exact rs2 () trivial
 refine g6 ?_;refine jN (λhc7=>?_) λhc7=>?_
 .refine g9 ?_;have hE:hasN op=([102,97,105,108],[105]):=by unfold hasN;rw[if_neg hc5,if_pos hc7]
  rw[hE];exact rs2 () trivial
 refine g6 ?_;refine jN (λhc9=>?_) λhc9=>?_
 .refine g9 ?_;have hE:hasN op=([106,117,109,112],[105]):=by unfold hasN;rw[if_neg hc5,if_neg hc7,if_pos hc9]
  rw[hE];exact rs2 () trivial
 refine g6 ?_;refine jN (λhc11=>?_) λhc11=>?_
 .refine g9 ?_;have hE:hasN op=([99,111,110,115,116],[97,105]):=by unfold hasN;rw[if_neg hc5,if_neg hc7,if_neg hc9,if_pos hc11]
  rw[hE];exact rs2 () trivial
 refine g6 ?_;refine jN (λhc13=>?_) λhc13=>?_
 .refine g9 ?_;have hE:hasN op=([104,105,103,104],[97,105]):=by unfold hasN;rw[if_neg hc5,if_neg hc7,if_neg hc9,if_neg hc11,if_pos hc13]
  rw[hE];exact rs2 () trivial
 refine g6 ?_;refine jN (λhc15=>?_) λhc15=>?_
 .refine g9 ?_;have hE:hasN op=([122,101,114,111],[97,105]):=by unfold hasN;rw[if_neg hc5,if_neg hc7,if_neg hc9,if_neg hc11,if_neg hc13,if_pos hc15]
  rw[hE];exact rs2 () trivial
 refine g6 ?_;refine jN (λhc17=>?_) λhc17=>?_
 .refine g9 ?_;have hE:hasN op=([99,111,112,121],[97,98]):=by unfold hasN;rw[if_neg hc5,if_neg hc7,if_neg hc9,if_neg hc11,if_neg hc13,if_neg hc15,if_pos hc17]
  rw[hE];exact rs2 () trivial
 refine g6 ?_;refine jN (λhc19=>?_) λhc19=>?_
 .refine g9 ?_;have hE:hasN op=([108,111,97,100],[97,98,105]):=by unfold hasN;rw[if_neg hc5,if_neg hc7,if_neg hc9,if_neg hc11,if_neg hc13,if_neg hc15,if_neg hc17,if_pos hc19]
  rw[hE];exact rs2 () trivial
 refine g6 ?_;refine jN (λhc21=>?_) λhc21=>?_
 .refine g9 ?_;have hE:hasN op=([115,116,111,114,101],[97,98,105]):=by unfold hasN;rw[if_neg hc5,if_neg hc7,if_neg hc9,if_neg hc11,if_neg hc13,if_neg hc15,if_neg hc17,if_neg hc19,if_pos hc21]
  rw[hE];exact rs2 () trivial
 refine g6 ?_;refine jN (λhc23=>?_) λhc23=>?_
 .refine g9 ?_;have hE:hasN op=([108,101,115,115],[97,98,105]):=by unfold hasN;rw[if_neg hc5,if_neg hc7,if_neg hc9,if_neg hc11,if_neg hc13,if_neg hc15,if_neg hc17,if_neg hc19,if_neg hc21,if_pos hc23]
  rw[hE];exact rs2 () trivial
 refine g6 ?_;refine jN (λhc25=>?_) λhc25=>?_
 .refine g9 ?_;have hE:hasN op=([97,100,100],[97,98,105]):=by unfold hasN;rw[if_neg hc5,if_neg hc7,if_neg hc9,if_neg hc11,if_neg hc13,if_neg hc15,if_neg hc17,if_neg hc19,if_neg hc21,if_neg hc23,if_pos hc25]
  rw[hE];exact rs2 () trivial
 refine g6 ?_
 by_cases h128:128<=op
 .refine g3 ?_;refine bS (t':=true) (decide_eq_true h128) ?_;refine g3 ?_;refine bN (z':=(op-128)%256) (rS _) ?_;refine f9 func100 (vD ((op-128)%256) true) .nil e8 λ_=>?_;refine g4 ?_;refine yS (λhc27=>?_) λhc27=>?_
  .refine g9 ?_;have hE:hasN op=([116,119,111],[110,97,98,99]):=by unfold hasN;rw[if_neg hc5,if_neg hc7,if_neg hc9,if_neg hc11,if_neg hc13,if_neg hc15,if_neg hc17,if_neg hc19,if_neg hc21,if_neg hc23,if_neg hc25,if_pos ⟨h128,hc27⟩]
   rw[hE];exact rs2 () trivial
  refine fT ?_;have h64:64<=op:=k7
  refine g3 ?_;refine bS (t':=true) (decide_eq_true h64) ?_;refine g3 ?_;refine bS (t':=false) (decide_eq_false k7) ?_;refine g20 ?_;have hE:hasN op=([],[]):=by unfold hasN;rw[if_neg hc5,if_neg hc7,if_neg hc9,if_neg hc11,if_neg hc13,if_neg hc15,if_neg hc17,if_neg hc19,if_neg hc21,if_neg hc23,if_neg hc25,if_neg (λe=>by have:=e.2;rw[hc27]at this;cases this),if_neg (λe=>by omega)]
  rw[hE];exact rs2 () trivial
 refine g3 ?_;refine bS (t':=false) (decide_eq_false h128) ?_;refine g10 ?_
 by_cases h64:64<=op
 .refine g3 ?_;refine bS (t':=true) (decide_eq_true h64) ?_;refine g3 ?_;refine bS (t':=true) (decide_eq_true k7) ?_;refine g4 ?_;refine bN (z':=(op-64)%256) (rS _) ?_;refine f9 func100 (vD ((op-64)%256) false) .nil e8 λ_=>?_;refine g4 ?_;refine yS (λhc35=>?_) λhc35=>?_
  .refine g9 ?_;have hE:hasN op=([111,110,101],[110,97,98]):=by unfold hasN;rw[if_neg hc5,if_neg hc7,if_neg hc9,if_neg hc11,if_neg hc13,if_neg hc15,if_neg hc17,if_neg hc19,if_neg hc21,if_neg hc23,if_neg hc25,if_neg (λe=>h128 e.1),if_pos ⟨⟨h64,k7⟩,hc35⟩]
   rw[hE];exact rs2 () trivial
  refine g10 ?_;have hE:hasN op=([],[]):=by unfold hasN;rw[if_neg hc5,if_neg hc7,if_neg hc9,if_neg hc11,if_neg hc13,if_neg hc15,if_neg hc17,if_neg hc19,if_neg hc21,if_neg hc23,if_neg hc25,if_neg (λe=>h128 e.1),if_neg (λe=>by have:=e.2;rw[hc35]at this;cases this)]
  rw[hE];exact rs2 () trivial
 refine g3 ?_;refine bS (t':=false) (decide_eq_false h64) ?_;refine g23 ?_;have hE:hasN op=([],[]):=by unfold hasN;rw[if_neg hc5,if_neg hc7,if_neg hc9,if_neg hc11,if_neg hc13,if_neg hc15,if_neg hc17,if_neg hc19,if_neg hc21,if_neg hc23,if_neg hc25,if_neg (λe=>h128 e.1),if_neg (λe=>h64 e.1.1)]
 rw[hE];exact rs2 () trivial
set_option maxHeartbeats 1000000 in
theorem bFc(i:cX):cE prog 16 [.agg #[.int .u8 i.op,.int .u8 i.a,.int .u8 i.b,.int .u8 i.c,.int .i32 i.imm]] [] [] (λ(_:Unit)=> .bool (wN i)) (λ_=>[]) (λ_=>[]):=by
 have hT:=cT;refine j2 func16 ntmps16 ?_;intro β hM;refine g2 ?_;refine j0 λb1=>?_;refine g7 ?_;refine f9 func45 (has_spec i.op) .nil e8 λ_=>?_;refine g9 ?_
 rcases rt_four (hasN i.op).1 i.a i.b i.c with h0|⟨h0,h1⟩|⟨h0,h1,h2⟩|⟨h0,h1,h2,h3⟩|⟨h0,h1,h2,h3⟩
 .refine g3 ?_;refine bS (t':=true) (by show((hasN i.op).1==[])=_;rw[h0];rfl) ?_;refine g25 ?_;have hE:wN i=false:=if_pos (.inl h0);rw[hE];exact rs1 () trivial
 .refine g3 ?_;refine bS (t':=false) p9 ?_;refine g4 ?_;refine bS (t':=true) (decide_eq_true h1) ?_;refine g21 ?_;have hE:wN i=false:=if_pos (.inr (.inl h1));rw[hE];exact rs1 () trivial
 .refine g3 ?_;refine bS (t':=false) p9 ?_;refine g4 ?_;refine bS (t':=false) (decide_eq_false h1) ?_;refine g5 ?_;refine bS (t':=true) (decide_eq_true h2) ?_;refine g16 ?_;have hE:wN i=false:=if_pos (.inr (.inr (.inl h2)));rw[hE];exact rs1 () trivial
 .refine g3 ?_;refine bS (t':=false) p9 ?_;refine g4 ?_;refine bS (t':=false) (decide_eq_false h1) ?_;refine g5 ?_;refine bS (t':=false) (decide_eq_false h2) ?_;refine g5 ?_;refine bS (t':=true) (decide_eq_true h3) ?_;refine g11 ?_;have hE:wN i=false:=if_pos (.inr (.inr (.inr h3)));rw[hE];exact rs1 () trivial
 refine g3 ?_;refine bS (t':=false) p9 ?_;refine g4 ?_;refine bS (t':=false) (decide_eq_false h1) ?_;refine g5 ?_;refine bS (t':=false) (decide_eq_false h2) ?_;refine g5 ?_;refine bS (t':=false) (decide_eq_false h3) ?_;refine g9 ?_;refine i7 bAf λb2=>?_;refine g7 ?_;refine at_range rfl rfl rfl rfl underlying9 rfl λb3=>?_;refine g3 ?_;refine bU (ι:=Nat×cX) [(1,_),(5,_),(33,_)] ⟨rfl,rfl,rfl,e8⟩ (λ_=>[]) (λ⟨k,y⟩=>[iterC b3 (hasN i.op).2 k,.obj b2 (.cells ([.int .u8 y.op,.int .u8 y.a,.int .u8 y.b,.int .u8 y.c,.int .i32 y.imm]:List Value).toArray 52)]) (λ⟨k,y⟩=>[bC.pure (k<=(hasN i.op).2.length/\y=(vV i ((hasN i.op).2.take k)))]) (λ⟨k,y⟩=>(hasN i.op).2.length-k) (0,i) e8 (.c0 (.c0 .nil)) ⟨e9 (⟨Nat.zero_le _,rfl⟩),e8⟩ ?_;rintro⟨k,y⟩;dsimp only;refine bJ d7 λhinv6=>?_;refine fT ?_
 rcases Nat.lt_or_ge k (hasN i.op).2.length with hk|hk
 .obtain⟨c,hc⟩: ∃c,(hasN i.op).2[k]?=some c:=⟨_,List.getElem?_eq_getElem hk⟩
  refine one ?_;refine at_next_at .head hc (hasN_small i.op c (f5 hc)) rfl rfl rfl rfl rfl ?_;refine g26 ?_;refine jN (λhc38=>?_) λhc38=>?_
  .refine g7 ?_;have hE:(⟨y.op,0,y.b,y.c,y.imm⟩:cX)=vV i ((hasN i.op).2.take (k+1)):=by rw[wP hc,<-hinv6.2];exact(show bEl y c=⟨y.op,0,y.b,y.c,y.imm⟩ by unfold bEl;rw[if_pos (u8_ofH (d:=97) hc38 rfl)]).symm
   exact bk2 (k+1,⟨y.op,0,y.b,y.c,y.imm⟩) ⟨e9 (⟨by dsimp only;omega,hE⟩),e8⟩
  refine g6 ?_;refine jN (λhc41=>?_) λhc41=>?_
  .refine g7 ?_;have hE:(⟨y.op,y.a,0,y.c,y.imm⟩:cX)=vV i ((hasN i.op).2.take (k+1)):=by rw[wP hc,<-hinv6.2];exact(show bEl y c=⟨y.op,y.a,0,y.c,y.imm⟩ by unfold bEl;rw[if_neg (zH (d:=97) hc38 rfl),if_pos (u8_ofH (d:=98) hc41 rfl)]).symm
   exact bk2 (k+1,⟨y.op,y.a,0,y.c,y.imm⟩) ⟨e9 (⟨by dsimp only;omega,hE⟩),e8⟩
  refine g6 ?_;refine jN (λhc44=>?_) λhc44=>?_
  .refine g7 ?_;have hE:(⟨y.op,y.a,y.b,0,y.imm⟩:cX)=vV i ((hasN i.op).2.take (k+1)):=by rw[wP hc,<-hinv6.2];exact(show bEl y c=⟨y.op,y.a,y.b,0,y.imm⟩ by unfold bEl;rw[if_neg (zH (d:=97) hc38 rfl),if_neg (zH (d:=98) hc41 rfl),if_pos (u8_ofH (d:=99) hc44 rfl)]).symm
   exact bk2 (k+1,⟨y.op,y.a,y.b,0,y.imm⟩) ⟨e9 (⟨by dsimp only;omega,hE⟩),e8⟩
  refine g6 ?_;refine jN (λhc47=>?_) λhc47=>?_
  .refine g7 ?_;have hE:(⟨y.op,y.a,y.b,y.c,0⟩:cX)=vV i ((hasN i.op).2.take (k+1)):=by rw[wP hc,<-hinv6.2];exact(show bEl y c=⟨y.op,y.a,y.b,y.c,0⟩ by unfold bEl;rw[if_neg (zH (d:=97) hc38 rfl),if_neg (zH (d:=98) hc41 rfl),if_neg (zH (d:=99) hc44 rfl),if_pos (u8_ofH (d:=105) hc47 rfl)]).symm
   exact bk2 (k+1,⟨y.op,y.a,y.b,y.c,0⟩) ⟨e9 (⟨by dsimp only;omega,hE⟩),e8⟩
  refine g4 ?_;have hE:(y:cX)=vV i ((hasN i.op).2.take (k+1)):=by rw[wP hc,<-hinv6.2];exact(show bEl y c=y by unfold bEl;rw[if_neg (zH (d:=97) hc38 rfl),if_neg (zH (d:=98) hc41 rfl),if_neg (zH (d:=99) hc44 rfl),if_neg (zH (d:=105) hc47 rfl)]).symm
  exact bk2 (k+1,y) ⟨e9 (⟨by dsimp only;omega,hE⟩),e8⟩
 refine one ?_;refine at_next_end .head k7 rfl rfl rfl rfl rfl ?_;refine g15 ?_;refine ss (cK rfl rfl (oN _)) ?_;refine ss (sti_eql_ins y ⟨i.op,0,0,0,0⟩ rfl rfl rfl) ?_;refine g4 ?_;have hE:wN i=insEq y ⟨i.op,0,0,0,0⟩:=by rw[hinv6.2,List.take_of_length_le hk];exact if_neg (λe=>e.elim h0 (λe=>e.elim h1 (λe=>e.elim h2 h3)))
 rw[hE];exact rs1 () trivial
theorem lk_three(z:Int):z=7\/(z≠7/\z=8)\/(z≠7/\z≠8/\z=9)\/(z≠7/\z≠8/\z≠9):=k7
theorem rp_three(a b:Int)(t:Bool):a<0\/(¬a<0/\b<0)\/(¬a<0/\ ¬b<0/\t=false)\/(¬a<0/\ ¬b<0/\t=true):=by
 rcases Classical.em (a<0)with h|h
 .exact .inl h
 .rcases Classical.em (b<0)with h1|h1
  .exact .inr (.inl ⟨h,h1⟩)
  .cases t
   .exact .inr (.inr (.inl ⟨h,h1,rfl⟩))
   .exact .inr (.inr (.inr ⟨h,h1,rfl⟩))
theorem rp_to(a:Int)(t:Bool):a=0\/(a≠0/\t=true)\/(a≠0/\t=false):=by
 rcases Classical.em (a=0)with h|h
 .exact .inl h
 .cases t
  .exact .inr (.inr ⟨h,rfl⟩)
  .exact .inr (.inl ⟨h,rfl⟩)
theorem decide_imm(z:Int):decide (z=0)=(z==0):=by
 by_cases h:z=0
 .rw[h];rfl
 .rw[decide_eq_false h,beq_eq_false_iff_ne.2 h]
theorem bMp(i:cX):cE prog 142 [.agg #[.int .u8 i.op,.int .u8 i.a,.int .u8 i.b,.int .u8 i.c,.int .i32 i.imm]] [] [] (λ(_:Unit)=> .bool (zY i)) (λ_=>[]) (λ_=>[]):=by
 have hT:=cT;refine j2 func142 ntmps142 ?_;intro β hM;refine g2 ?_;refine j0 λb1=>?_;refine g4 ?_
 rcases lk_three i.op with h7|⟨h7,h8⟩|⟨h7,h8,h9⟩|⟨h7,h8,h9⟩
 .refine g4 ?_;refine bS (t':=true) (by rw[h7];rfl) ?_;refine g14 ?_;have hE:zY i=true:=decide_eq_true (.inl h7);rw[hE];exact rs1 () trivial
 .refine g4 ?_;refine bS (t':=false) (by simpa using h7) ?_;refine g4 ?_;refine bS (t':=true) (by rw[h8];rfl) ?_;refine g10 ?_;have hE:zY i=true:=decide_eq_true (.inr (.inl h8));rw[hE];exact rs1 () trivial
 .refine g4 ?_;refine bS (t':=false) (by simpa using h7) ?_;refine g4 ?_;refine bS (t':=false) (by simpa using h8) ?_;refine g5 ?_;refine bS (t':=true) (by rw[h9];rfl) ?_;refine g5 ?_;have hE:zY i=true:=decide_eq_true (.inr (.inr h9));rw[hE];exact rs1 () trivial
 refine g4 ?_;refine bS (t':=false) (by simpa using h7) ?_;refine g4 ?_;refine bS (t':=false) (by simpa using h8) ?_;refine g5 ?_;refine bS (t':=false) (by simpa using h9) ?_;refine g5 ?_;have hE:zY i=false:=decide_eq_false (λe=>e.elim h7 (λe=>e.elim h8 h9));rw[hE];exact rs1 () trivial
theorem bBh(p:PcV):cE prog 74 [.agg #[.int .i64 p.mark,.int .u8 p.ins.op,.int .u8 p.ins.a,.int .u8 p.ins.b,.int .u8 p.ins.c,.int .i32 p.ins.imm,.int .i64 p.to_]] [] [] (λ(_:Unit)=> .bool (jO p)) (λ_=>[]) (λ_=>[]):=by
 have hT:=cT;refine j2 func74 ntmps74 ?_;intro β hM;refine g2 ?_;refine j0 λb1=>?_;refine g5 ?_
 rcases rp_three p.mark p.to_ (wN p.ins)with h0|⟨h0,h1⟩|⟨h0,h1,h2⟩|⟨h0,h1,h2⟩
 .refine g4 ?_;refine bS (t':=true) (decide_eq_true h0) ?_;refine g21 ?_;have hE:jO p=false:=if_pos (.inl h0);rw[hE];exact rs1 () trivial
 .refine g4 ?_;refine bS (t':=false) (decide_eq_false h0) ?_;refine g4 ?_;refine bS (t':=true) (decide_eq_true h1) ?_;refine g17 ?_;have hE:jO p=false:=if_pos (.inr (.inl h1));rw[hE];exact rs1 () trivial
 .refine g4 ?_;refine bS (t':=false) (decide_eq_false h0) ?_;refine g4 ?_;refine bS (t':=false) (decide_eq_false h1) ?_;refine g4 ?_;refine f9 func16 (bFc p.ins) .nil e8 λ_=>?_;refine bS (t':=false) (h2) ?_;refine g12 ?_;have hE:jO p=false:=if_pos (.inr (.inr h2));rw[hE];exact rs1 () trivial
 refine g4 ?_;refine bS (t':=false) (decide_eq_false h0) ?_;refine g4 ?_;refine bS (t':=false) (decide_eq_false h1) ?_;refine g4 ?_;refine f9 func16 (bFc p.ins) .nil e8 λ_=>?_;refine bS (t':=true) (h2) ?_;refine g8 ?_
 rcases rp_to p.to_ (zY p.ins)with h3|⟨h3,h4⟩|⟨h3,h4⟩
 .refine g4 ?_;refine bS (t':=true) (by rw[h3];rfl) ?_;refine g15 ?_;have hE:jO p=true:=by unfold jO;rw[if_neg (λe=>e.elim h0 (λe=>e.elim h1 (λe=>by rw[h2]at e;cases e))),decide_eq_true h3,Bool.true_or]
  rw[hE];exact rs1 () trivial
 .refine g4 ?_;refine bS (t':=false) (by simpa using h3) ?_;refine g3 ?_;refine f9 func142 (bMp p.ins) .nil e8 λ_=>?_;refine bS (t':=true) (h4) ?_;refine g11 ?_;have hE:jO p=(p.ins.imm==0):=by unfold jO;rw[if_neg (λe=>e.elim h0 (λe=>e.elim h1 (λe=>by rw[h2]at e;cases e))),decide_eq_false h3,Bool.false_or,h4,Bool.true_and];exact decide_imm _
  rw[hE];exact rs1 () trivial
 refine g4 ?_;refine bS (t':=false) (by simpa using h3) ?_;refine g3 ?_;refine f9 func142 (bMp p.ins) .nil e8 λ_=>?_;refine bS (t':=false) (h4) ?_;refine g11 ?_;have hE:jO p=false:=by unfold jO;rw[if_neg (λe=>e.elim h0 (λe=>e.elim h1 (λe=>by rw[h2]at e;cases e))),decide_eq_false h3,Bool.false_or,h4,Bool.false_and]
 rw[hE];exact rs1 () trivial
open Go.ChangeMaps (setBlock)
def bBs (P:Program)(fn:Func)(tmps:Array Value)(R:Ending->World->Prop):List Deferred->World->Prop
 |[],w=> ∃v,(results fn tmps).run P w= .ok v w/\R (.returned v) w
 |d::ds,w=> ∃b ts t cs v w',d.target= .builtin b ts t cs/\(invoke d.target d.args).run P w= .ok (.value v) w'/\bBs P fn tmps R ds w'
def xU (P:Program)(fn:Func)(R:Ending->World->Prop):Exit->Act->World->Prop
 |.normal,a,w|.ret,a,w=>bBs P fn a.tmps R a.defers w
 |.outgrown,_,w=>R .outgrown w
 |_,_,_=>False
section
variable {P : Program}
theorem step_deferB{fr:Frame}{cs:List Frame}{w w':World}{d:Deferred}{ds:List Deferred}{b:Builtin}{ts:Array TypeId}{t:TypeId}{ks:Array Bool}{v:Value}(hm:fr.mode= .returning)(hd:fr.defers=d::ds)(ht:d.target= .builtin b ts t ks)
  (hi:(invoke d.target d.args).run P w= .ok (.value v) w'):step P (lone fr cs w)= .next (lone {fr with defers:=ds} cs w'):=by
 obtain⟨g,a⟩:=d;simp only at ht hi;subst ht;refine step_lone_go ?_;simp[stepG,unwind,callDeferred,hm,hd,hi]
theorem tF{fn:Func}{tmps:Array Value}{R:Ending->World->Prop}: ∀(ds:List Deferred) (w:World) (fr:Frame) (cs:List Frame),fr.mode= .returning->fr.defers=ds->fr.tmps=tmps->P.funcs[fr.fn]?=some fn->fr.kind= .normal->bBs P fn tmps R ds w->
  ∃e w' fr',R e w'/\Comes P (lone fr cs w) (lone fr' cs w') e/\fr'.fn=fr.fn/\fr'.leaving P w' e
 |[],w,fr,cs,hu,hd,ht,hf,hk,⟨v,hr,hR⟩=>⟨.returned v,w,fr,hR,Steps.refl P _,rfl,hu,hd,hk,fn,hf,ht▸hr⟩
 |d::ds,w,fr,cs,hu,hd,ht,hf,hk,⟨b,ts,t,ks,v,w',htar,hinv,h⟩=>by
  have h1:=step_deferB (cs:=cs) hu hd htar hinv;obtain⟨e',w'',fr',hR',hs',hfn',hl'⟩:=tF ds w' {fr with defers:=ds} cs hu rfl ht hf hk h;exact⟨e',w'',fr',hR',Comes.of_steps (.one h1) hs',hfn',hl'⟩
theorem bDk{f:FuncId}{fn:Func}{c:Code}{args:Array Value}{w:World}{R:Ending->World->Prop}(hf:P.funcs[f]?=some fn)(hb:fn.body=some c)
  (h:c.wp P (xU P fn R) {tmps:=args++Array.replicate (fn.ntmps-args.size) undef,defers:=[]} w):Calls P f args w R:=by
 intro cs
 let b:Frame:={(default:Frame)with fn:=f,kind:= .normal}
 have henter:Frame.enter P f args .normal=b.at {tmps:=args++Array.replicate (fn.ntmps-args.size) undef,defers:=[]} [.code c]:=by
  simp[Frame.enter,Frame.at,hf,hb,b]
 obtain⟨e,a',w',hq,harr⟩:=h b [] cs;rw[<-henter]at harr
 cases e with
 |normal=>
  obtain⟨e',w'',fr',hR,hs,hfn,hl⟩:=tF a'.defers w' {b.at a' []with mode:= .returning} cs rfl rfl rfl hf rfl hq;exact⟨e',w'',fr',hR,Comes.of_steps (Steps.trans harr (.one step_end)) hs,hfn,hl⟩
 |ret=>
  obtain⟨todo,hs₀⟩:=harr;obtain⟨e',w'',fr',hR,hs,hfn,hl⟩:=tF a'.defers w' {b.at a' todo with mode:= .returning} cs rfl rfl rfl hf rfl hq;exact⟨e',w'',fr',hR,Comes.of_steps hs₀ hs,hfn,hl⟩
 |panic chain=>exact hq.elim
 |exit id=>exact hq.elim
 |goto l=>exact hq.elim
 |outgrown=>exact⟨.outgrown,w',b,hq,harr.resolve_left (by simp[b]),rfl,e8⟩
end
section
variable {P : Program} {β : dC} {n : Nat} {Γ : Env} {H H' : List bD} {F : List bC} {Q : Exit -> Act -> World -> Prop} {fn : Func} {R : Ending -> World -> Prop}
theorem at_deferB{ops:Array Oper}{rest:List Oper}{o:Oper}{x:Operand}{b:Builtin}{t:TypeId}{v:Value}(hw:want ops Γ o=some true)(ho:o.op= .defer ⟨.builtin b,#[x],#[t]⟩)(hx:Γ.ev x=some v)(hd:o.dst=none)
  (k: ∀ty ks,At β n Γ H F (Df [{target:= .builtin b #[t] ty ks,args:= #[v]}] (wpList P ops Q rest))):At β n Γ H F (wpList P ops Q (o::rest)):=
 fY hw λa w S f s hk=>by
  unfold Oper.wp
  have hr: ∃ty ks,(execOp a.eval o).run P w= .ok (.defer {target:= .builtin b #[t] ty ks,args:= #[v]}) w:=by
   unfold execOp;simp only[ho,resolve,Sem.run_bind,Sem.run_pure,Result.andThen_ok];simp[f.ev hx]
  obtain⟨ty,ks,hr⟩:=hr;rw[hr,Oper.upon_defer,hd];have:=k ty ks a w S f s hk;unfold Df dfA at this;rw[f.defers]at this⊢;exact this
theorem retB_before(h:At β n Γ H F (bodyPost P fn R .ret)):At β n Γ H F (xU P fn R .ret):=λa w S f s k=>by
 obtain⟨hd,v,hv⟩:=h a w S f s k;show bBs P fn a.tmps R a.defers w;rw[hd];exact⟨v,hv⟩
theorem bHk{t kt et ty:TypeId}{ks:Array Bool}{r:Nat}{kk:IntKind}{kv:KV}(ht:P.underlying t=some (.map kt et))(hH:bW H (bIy r kk kv) H')
  (k:At β n Γ (bIy r kk []::H') F (bodyPost P fn R .ret)):At β n Γ H F (Df [{target:= .builtin .clear #[t] ty ks,args:= #[.map (some r)]}] (xU P fn R .ret)):=λa w S fi s hk=>by
 obtain⟨es,clock,ho,he⟩:MapO kk kv (w.heap[r]?):=s.ok _ hH.mem;show bBs P fn a.tmps R (a.defers++[{target:= .builtin .clear #[t] ty ks,args:= #[.map (some r)]}]) w;rw[fi.defers];have hlt:r<w.heap.size:=(Array.getElem?_eq_some_iff.1 ho).1
 have hr:(invoke (.builtin .clear #[t] ty ks) #[.map (some r)]).run P w= .ok (.value (.tuple #[])) (setBlock w r (.map #[] clock)):=by
  unfold invoke builtin Builtin.clear_;simp[Sem.run_bind,run_underlying ht,getObj,setObj,Sem.run,ho,Result.andThen,setBlock]
 have s2:=s.perm hH.perm;have s3:=s2.swap (c':=bIy r kk []) (iK (w:=w) (r:=r) (o:= .map #[] clock)) rfl rfl (show MapO kk [] ((setBlock w r (.map #[] clock)).heap[r]?)from ⟨#[],clock,by simp[setBlock,hlt],rfl⟩);obtain⟨hd,v,hv,hR⟩:=k a _ _ fi s3 (All.mono (λ_ h=>h) (s.agree iK (λc hc e=>by subst e;exact(s2.own _ (List.mem_cons_self ..) _ rfl).2.2 hc)) hk);exact⟨.clear,#[t],ty,ks,_,_,rfl,hr,v,hv,hR⟩
theorem spec_defB{ι:Type}{f:FuncId}{c:Code}{args:List Value}{Hin:List bD}{Pre:List bC}{val:ι->Value}{Hout:ι->List bD}{post:ι->List bC}(hf:P.funcs[f]?=some fn)(hb:fn.body=some c)(hn:fn.ntmps=n)
  (hl:Nat.ble args.length n=true) (h: ∀β,β.M=kV Hin->At β n (zG 0 args) Hin Pre (c.wp P (xU P fn (bNl β val Hout post)))):cE P f args Hin Pre val Hout post:=λS w s k=>by
 refine bDk hf hb (h ⟨w,kV Hin,S⟩ rfl _ w S ⟨rfl,?_,λi v hi=>?_⟩ s k)
 .have:=Nat.le_of_ble_eq_true hl;simp;omega
 .obtain⟨_,h2⟩:=rB 0 args i v hi;simp only[Nat.sub_zero]at h2;have hlt:i<args.length:=(List.getElem?_eq_some_iff.1 h2).1;simp only[Array.getElem?_append];rw[if_pos q7]
  simpa using h2
end
end
section
open Go.RowKit Go.Proofs.Tryz
def bKy (m:rT):KV:=m.map λp=>(p.1,Value.int .i64 p.2)
theorem bNb(k:Int): ∀m:rT,bJk k (bKy m)=(tU k m).map (Value.int .i64 ·)
 |[]=>rfl
 |p::r=>by
  show(if k==p.1 then some (Value.int .i64 p.2)else bJk k (bKy r))=_;unfold tU;split
  .rfl
  .exact bNb k r
theorem setM_V(k z:Int): ∀m:rT,zR k (.int .i64 z) (bKy m)=bKy (setK k z m)
 |[]=>rfl
 |p::r=>by
  show(if k==p.1 then (k,Value.int .i64 z)::bKy r else (p.1,Value.int .i64 p.2)::zR k (.int .i64 z) (bKy r))=_;unfold setK;split
  .rfl
  .rw[setM_V k z r];rfl
theorem delM_V(k:Int): ∀m:rT,bGx k (bKy m)=bKy (delK k m)
 |[]=>rfl
 |p::r=>by
  show(if k==p.1 then bKy r else (p.1,Value.int .i64 p.2)::bGx k (bKy r))=_;unfold delK;split
  .rfl
  .rw[delM_V k r];rfl
theorem intInfoG: ∃i:TypeInfo,prog.info? 3=some i/\i.zero=some (.int .i64 0):=by
 have h:(prog.info? 3).map (λi=>i.zero)=some (some (.int .i64 0)):=k8
 cases hi:prog.info? 3 with
 |none=>simp[hi]at h
 |some i=>simp[hi]at h;exact⟨i,rfl,h⟩
theorem bCt(w:World):(zeroValue 3).run prog w= .ok (.int .i64 0) w:=by
 obtain⟨i,hi,hz⟩:=intInfoG;simp[zeroValue,typeInfo,hi,hz]
def sB:cX:=⟨0,0,0,0,0⟩
theorem all_rep(m:Nat):lO.all (List.replicate (m+1) sB)=lO.cells sB++lO.all (List.replicate m sB):=rfl
theorem made_len(m:Nat):(lO.all (List.replicate m sB)).length=m*5:=by
 induction m with
 |zero=>rfl
 |succ m ih=>rw[all_rep,List.length_append,ih];show 5+m*5=_;omega
theorem all_at: ∀(m i:Nat),i<m*5->(lO.all (List.replicate m sB))[i]?=(lO.cells sB)[i%5]?
 |0,i,h=>by omega
 |m+1,i,h=>by
  rw[all_rep]
  rcases Nat.lt_or_ge i 5 with h1|h1
  .rw[List.getElem?_append_left (by exact h1),Nat.mod_eq_of_lt h1]
  .rw[List.getElem?_append_right (by exact h1),show(lO.cells sB).length=5 from rfl,all_at m (i-5) k7,show i%5=(i-5)%5 by omega]
theorem madeInsns(m:Nat):(madeCells (Value.agg #[.int .u8 0,.int .u8 0,.int .u8 0,.int .u8 0,.int .i32 0]).cells (m*5)).toList=lO.all (List.replicate m sB):=by
 apply List.ext_getElem?;intro i
 rcases Nat.lt_or_ge i (m*5)with h|h
 .rw[all_at m i h];have h5:i%5<5:=Nat.mod_lt _ m7;unfold madeCells
  rcases (by omega:i%5=0\/i%5=1\/i%5=2\/i%5=3\/i%5=4)with e|e|e|e|e<;>simp[Value.cells,e,h,lO,sB]
 .rw[List.getElem?_eq_none (by unfold madeCells;simpa using h),List.getElem?_eq_none (by rw[made_len];exact h)]
section
variable {β : dC} {n : Nat} {Γ : Env} {H : List bD} {F : List bC} {Q : Exit -> Act -> World -> Prop} {ops : Array Oper} {rest : List Oper} {o : Oper} {d : Nat}
theorem at_makeInsns{m:Nat}{x y:Operand}(hw:want ops Γ o=some true)(ho:o.op= .makeSlice 29 x y)(hd:o.dst=some d)(hn:Nat.blt d n=true)
  (hx:Γ.ev x=some (.int .i64 (m:Nat))) (hy:Γ.ev y=some (.int .i64 (m:Nat))) (hm:m<=1000000)
  (k: ∀b,At β n ((d,.slice (some ⟨b,0,none⟩) m m)::Γ) (lO.row (.slice (some ⟨b,0,none⟩) m m) 52 (List.replicate m sB)::H) F (wpList prog ops Q rest)):At β n Γ H F (wpList prog ops Q (o::rest)):=by
 obtain⟨i,hi,hz,hs,hb⟩:=insInfo;exact yG (E:=lO) hw ho hd hn hx hy underlying29 hi hz hs v7 t7 (madeInsns m) m9 k
end
section
variable {l : List PcV} {i : Nat} {m : rT} {X : Except (Nat × Int) rT} {Y : Except (Nat × Int) (List cX)} {p : PcV} {o : List cX} {q : Int}
theorem bMu(h:X=marksGo (l.drop i) i m)(hx:l[i]?=some p):X=if jO p=false then .error (i,170)else match tU p.mark m with
  |some _=> .error (i,171)
  |none=>marksGo (l.drop (i+1)) (i+1) (delK 0 (setK p.mark (i:Int) m)):=by
 obtain⟨hlt,e⟩:=List.getElem?_eq_some_iff.1 hx;rw[h,<-List.getElem_cons_drop hlt,e];rfl
theorem marks_bad(h:X=marksGo (l.drop i) i m)(hx:l[i]?=some p)(hr:jO p=false):X= .error (i,170):=by rw[bMu h hx,if_pos hr]
theorem marks_two(h:X=marksGo (l.drop i) i m)(hx:l[i]?=some p)(hr:jO p=true)(hg:tU p.mark m=some q):X= .error (i,171):=by rw[bMu h hx,if_neg (by rw[hr];decide),hg]
theorem marks_go(h:X=marksGo (l.drop i) i m)(hx:l[i]?=some p)(hr:jO p=true)(hg:tU p.mark m=none):X=marksGo (l.drop (i+1)) (i+1) (delK 0 (setK p.mark (i:Int) m)):=by rw[bMu h hx,if_neg (by rw[hr];decide),hg]
theorem marks_end(h:X=marksGo (l.drop i) i m)(hi:l.length<=i):X= .ok m:=by
 rw[h,List.drop_of_length_le hi];rfl
theorem bJh(h:Y=placeGoL m (l.drop i) i o)(hx:l[i]?=some p):Y=if p.to_=0 then placeGoL m (l.drop (i+1)) (i+1) (o++[p.ins])else match tU p.to_ m with
  |none=> .error (i,172)
  |some k=>placeGoL m (l.drop (i+1)) (i+1) (o++[{p.ins with imm:=w32 k}]):=by
 obtain⟨hlt,e⟩:=List.getElem?_eq_some_iff.1 hx;rw[h,<-List.getElem_cons_drop hlt,e];rfl
theorem place_none(h:Y=placeGoL m (l.drop i) i o)(hx:l[i]?=some p)(h0:p.to_≠0)(hg:tU p.to_ m=none):Y= .error (i,172):=by rw[bJh h hx,if_neg h0,hg]
theorem place_end(h:Y=placeGoL m (l.drop i) i o)(hi:l.length<=i):Y= .ok o:=by
 rw[h,List.drop_of_length_le hi];rfl
theorem takeI(o:List cX)(v:cX)(h:i<o.length):(o.set i v).take (i+1)=o.take i++[v]:=by
 rw[List.take_succ_eq_append_getElem (by rw[List.length_set];exact h),List.getElem_set_self,List.take_set_of_le (Nat.le_refl _)]
theorem place_go0(h:Y=placeGoL m (l.drop i) i (o.take i))(hx:l[i]?=some p)(h0:p.to_=0)(hi:i<o.length):Y=placeGoL m (l.drop (i+1)) (i+1) ((o.set i p.ins).take (i+1)):=by rw[bJh h hx,if_pos h0,takeI o _ hi]
theorem place_go1(h:Y=placeGoL m (l.drop i) i (o.take i))(hx:l[i]?=some p)(h0:p.to_≠0)(hg:tU p.to_ m=some q)(hi:i<o.length):Y=placeGoL m (l.drop (i+1)) (i+1) (((o.set i p.ins).set i ⟨p.ins.op,p.ins.a,p.ins.b,p.ins.c,w32 q⟩).take (i+1)):=by rw[bJh h hx,if_neg h0,hg,List.set_set,takeI o _ hi]
theorem link_many(h:32768<l.length):sK l= .error (0,173):=if_pos h
theorem link_bad(h: ¬32768<l.length){e:Nat×Int}(hx:marksGo l 0 []= .error e):sK l= .error e:=by unfold sK;rw[if_neg h,hx]
theorem link_go(h: ¬32768<l.length)(hx:marksGo l 0 []= .ok m):sK l=placeGoL m l 0 []:=by unfold sK;rw[if_neg h,hx]
theorem xM{e:Nat×Int}(h:sK l= .error e):yU l=[]/\bRk l=(((e.1:Nat):Int),e.2):=by unfold yU bRk;rw[h];exact⟨rfl,rfl⟩
theorem linkC_ok(h:sK l= .ok o):yU l=o/\bRk l=(0,0):=by unfold yU bRk;rw[h];exact⟨rfl,rfl⟩
end
theorem oM:(prog.info? 184).bind (·.zero)=some (.agg #[.int .i64 0,.int .u8 0,.int .u8 0,.int .u8 0,.int .u8 0,.int .i32 0,.int .i64 0]):=k8
set_option maxHeartbeats 1000000 in
theorem Link_spec(A:Option Addr)(c:Nat)(l:List PcV)(hl:l.length<=1000000):cE prog 30 [.slice A l.length c] [] [pcE.sl (.slice A l.length c) l] (λ(x:Option Addr×Nat)=> .tuple #[.slice x.1 (yU l).length x.2,.int .i64 (bRk l).1,.int .i64 (bRk l).2]) (λ(x:Option Addr×Nat)=>[lO.row (.slice x.1 (yU l).length x.2) 52 (yU l)]) (λ_=>[]):=by
 have hT:=cT
 obtain⟨X,hX⟩: ∃X,marksGo l 0 []=X:=⟨_,rfl⟩
 refine spec_defB func30 rfl ntmps30 rfl ?_;intro β hM;refine g15 ?_;refine dH (λhc17=>?_) λhc17=>?_
 .refine g9 ?_;refine retB_before ?_;have hLR2:sK l= .error (0,173):=link_many k7;obtain⟨hC,hE⟩:=xM hLR2;rw[hC,hE];refine bZ (t:=52) lO ?_;exact rs3 (none,0) trivial
 refine g4 ?_;refine bMm .i64 rfl rfl rfl rfl λmb1=>?_;refine g6 ?_;refine at_deferB rfl rfl rfl rfl λty ks=>?_;refine d_list ?_;refine iL ?_;refine cV ?_;refine iB ?_;refine iB ?_;refine dG ?_;refine g3 ?_;refine iL ?_;refine cV ?_;refine d_blk ?_;refine d_loop2 (ι:=rT×Nat) [(0,_),(5,_),(20,_),(21,_)] ⟨rfl,rfl,rfl,rfl,e8⟩ (λ⟨m,i⟩=>[(22,.int .i64 (i:Nat))]) (λ⟨m,i⟩=>[bIy mb1 .i64 (bKy m)]) (λ⟨m,i⟩=>[bC.pure (i<=l.length/\X=marksGo (l.drop i) i m)]) (λ⟨m,i⟩=>l.length-i) ([],0) ⟨rfl,e8⟩ (.c0 .nil) ⟨e9 (⟨k7,hX.symm⟩),e8⟩ ?_;rintro⟨m,i⟩;dsimp only;refine bJ d7 λhinv6=>?_;refine iB ?_;refine dG ?_;refine one ?_;refine iL ?_;refine cV ?_;refine iB ?_;refine bId rfl (λhc23=>?_) (λhc23=>?_)
 .have hc23:=of_decide_eq_true hc23;refine bDb ?_;refine cV ?_;refine iB ?_;refine d_blk ?_;refine iB ?_;obtain⟨p,hp⟩:=gx l i;refine dG ?_;refine one ?_;refine ss (ixs i) ?_;refine ss (jQ hp 0) ?_;refine i7 oM λb2=>?_;refine g2 ?_;refine iL ?_;refine cV ?_;refine iB ?_;refine iB ?_
  rcases hr:jO p with _|_
  .refine dG ?_;refine one ?_;refine f9 func74 (bBh p) .nil e8 λ_=>?_;refine one ?_;refine bS (t':=true) (by rw[hr];rfl) ?_;refine iL ?_;refine cV ?_;refine d_true rfl rfl ?_;refine iB ?_;refine dG ?_;refine g4 ?_;refine iL ?_;refine cV ?_;refine d_ret ?_;refine mS ?_;refine tL ?_;refine mS ?_;refine mS ?_;refine tL ?_;refine mS ?_;refine bHk underlying185 kT1 ?_;have hLR2:sK l= .error (i,170):=link_bad k7 (hX.trans (marks_bad hinv6.2 hp hr));obtain⟨hC,hE⟩:=xM hLR2;rw[hC,hE];refine bZ (t:=52) lO ?_;exact rs3 (none,0) trivial
  refine dG ?_;refine one ?_;refine f9 func74 (bBh p) .nil e8 λ_=>?_;refine one ?_;refine bS (t':=false) (by rw[hr];rfl) ?_;refine iL ?_;refine cV ?_;refine d_false rfl rfl ?_;refine bDb ?_;refine cV ?_;refine iB ?_;refine iB ?_
  rcases hg:tU p.mark m with _|q
  .refine dG ?_;refine g3 ?_;refine ss (kZ (v:= .tuple #[.int .i64 0,.bool false]) (oY kT1) rfl underlying185 underlying3 bCt rfl rfl ab4) ?_;refine g5 ?_;refine iL ?_;refine cV ?_;refine iB ?_;refine dG ?_;refine one ?_;refine iL ?_;refine cV ?_;refine d_false rfl rfl ?_;refine bDb ?_;refine cV ?_;refine iB ?_;refine dG ?_;refine g4 ?_;refine qS kT1 rfl (.inl rfl) rfl underlying185 underlying3 rfl rfl rfl ?_;rw[setM_V];refine iL ?_;refine cV ?_;refine dG ?_;refine one ?_;refine bQx .head rfl rfl rfl underlying185 underlying3 rfl rfl ?_;rw[delM_V];refine iL ?_;refine dn_block ?_;refine cV ?_;refine dG ?_;refine one ?_;refine inc (i+1) ?_;refine one ?_;refine iL ?_;refine cV ?_;exact d_back (oC (delK 0 (setK p.mark (i:Nat) m),i+1) n9 ⟨rfl,e8⟩ ⟨rfl,rfl,rfl,rfl,e8⟩ (.c0 .nil) ⟨e9 (⟨by dsimp only;omega,by dsimp only;exact marks_go hinv6.2 hp hr hg⟩),e8⟩ (bA.drop 1))
  refine dG ?_;refine g3 ?_;refine ss (kZ (v:= .tuple #[.int .i64 q,.bool true]) (oY kT1) rfl underlying185 underlying3 bCt rfl rfl ab4) ?_;refine g5 ?_;refine iL ?_;refine cV ?_;refine iB ?_;refine dG ?_;refine one ?_;refine iL ?_;refine cV ?_;refine d_true rfl rfl ?_;refine iB ?_;refine dG ?_;refine g4 ?_;refine iL ?_;refine cV ?_;refine d_ret ?_;refine mS ?_;refine tL ?_;refine mS ?_;refine mS ?_;refine tL ?_;refine mS ?_;refine bHk underlying185 kT1 ?_;have hLR2:sK l= .error (i,171):=link_bad k7 (hX.trans (marks_two hinv6.2 hp hr hg));obtain⟨hC,hE⟩:=xM hLR2;rw[hC,hE];refine bZ (t:=52) lO ?_;exact rs3 (none,0) trivial
 have hc23:=Int.not_lt.1 (of_decide_eq_false hc23);refine d_exit ?_;refine bCh ?_;refine bCh ?_;refine bIq ?_;refine cV ?_;refine iB ?_;have hXm:=marks_end hinv6.2 k7
 obtain⟨Y,hY⟩: ∃Y,placeGoL m l 0 []=Y:=⟨_,rfl⟩
 have hLR:=(link_go k7 (hX.trans hXm)).trans hY;refine dG ?_;refine g2 ?_;refine at_makeInsns (m:=l.length) rfl rfl rfl rfl rfl rfl k7 λb3=>?_;refine one ?_;refine iL ?_;refine cV ?_;refine iB ?_;refine iB ?_;refine dG ?_;refine g3 ?_;refine iL ?_;refine cV ?_;refine d_blk ?_;refine d_loop2 (ι:=List cX×Nat) [(5,_),(10,_),(49,_),(50,_)] ⟨rfl,rfl,rfl,rfl,e8⟩ (λ⟨o,i⟩=>[(51,.int .i64 (i:Nat))]) (λ⟨o,i⟩=>[lO.row (.slice (some ⟨b3,0,none⟩) l.length l.length) 52 o]) (λ⟨o,i⟩=>[bC.pure (i<=l.length/\o.length=l.length/\Y=placeGoL m (l.drop i) i (o.take i))]) (λ⟨o,i⟩=>l.length-i) (List.replicate l.length sB,0) ⟨rfl,e8⟩ (.c0 .nil) ⟨e9 (⟨k7,List.length_replicate,hY.symm⟩),e8⟩ ?_;rintro⟨o,i⟩;dsimp only;refine bJ d7 λhinv18=>?_;have hol:=hinv18.2.1;refine iB ?_;refine dG ?_;refine one ?_;refine iL ?_;refine cV ?_;refine iB ?_;refine bId rfl (λhc52=>?_) (λhc52=>?_)
 .have hc52:=of_decide_eq_true hc52;refine bDb ?_;refine cV ?_;refine iB ?_;refine d_blk ?_;refine iB ?_;obtain⟨p,hp⟩:=gx l i;refine dG ?_;refine one ?_;refine ss (ixs i) ?_;refine ss (jQ hp 0) ?_;refine i7 oM λb4=>?_;refine g2 ?_;refine iL ?_;refine cV ?_;refine iB ?_;refine dG ?_;refine g4 ?_;obtain⟨x5,hx6⟩:=gx o i;refine ss (bG hT (k:=i) (cM kT1) rfl rfl rfl rfl rfl k7 rfl k7) ?_;refine cN hT (k:=i) (fo:=0) (y':=p.ins) kT1 rfl rfl rfl rfl rfl rfl rfl rfl rfl hx6 rfl ?_;refine iL ?_;refine cV ?_;refine iB ?_;refine iB ?_;refine dG ?_;refine g3 ?_;refine iL ?_;refine cV ?_;refine bId rfl (λhc63=>?_) (λhc63=>?_)
  .have hc63:=eq_of_beq hc63;refine d_exit ?_;refine bCh ?_;refine bIq ?_;refine cV ?_;refine dG ?_;refine one ?_;refine inc (i+1) ?_;refine one ?_;refine iL ?_;refine cV ?_;exact d_back (oC (o.set i p.ins,i+1) n9 ⟨rfl,e8⟩ ⟨rfl,rfl,rfl,rfl,e8⟩ (.c0 (.c1 .nil)) ⟨e9 (⟨by dsimp only;omega,by dsimp only;simp only[List.length_set];exact hol,by dsimp only;exact place_go0 hinv18.2.2 hp hc63 k7⟩),e8⟩ (bA.drop 1))
  have hc63:=beq_eq_false_iff_ne.1 hc63;refine bDb ?_;refine cV ?_;refine iB ?_
  rcases hg:tU p.to_ m with _|q
  .refine dG ?_;refine g3 ?_;refine ss (kZ (v:= .tuple #[.int .i64 0,.bool false]) (oY kT2) rfl underlying185 underlying3 bCt rfl rfl ab4) ?_;refine g5 ?_;refine iL ?_;refine cV ?_;refine iB ?_;refine iB ?_;refine dG ?_;refine g2 ?_;refine iL ?_;refine cV ?_;refine d_true rfl rfl ?_;refine iB ?_;refine dG ?_;refine g4 ?_;refine iL ?_;refine cV ?_;refine d_ret ?_;refine mS ?_;refine tL ?_;refine mS ?_;refine mS ?_;refine tL ?_;refine mS ?_;refine bHk underlying185 kT2 ?_;have hLR2:sK l= .error (i,172):=hLR.trans (place_none hinv18.2.2 hp hc63 hg);obtain⟨hC,hE⟩:=xM hLR2;rw[hC,hE];refine bZ (t:=52) lO ?_;exact rs3 (none,0) trivial
  refine dG ?_;refine g3 ?_;refine ss (kZ (v:= .tuple #[.int .i64 q,.bool true]) (oY kT2) rfl underlying185 underlying3 bCt rfl rfl ab4) ?_;refine g5 ?_;refine iL ?_;refine cV ?_;refine iB ?_;refine iB ?_;refine dG ?_;refine g2 ?_;refine iL ?_;refine cV ?_;refine d_false rfl rfl ?_;refine bDb ?_;refine cV ?_;refine dG ?_;refine g4 ?_;refine bN (z':=w32 q) (kY _) ?_;refine ss (bG hT (k:=i) (cM .head) rfl rfl rfl rfl rfl n4 rfl (by rw[List.length_set];omega)) ?_;refine one ?_;refine cN hT (k:=i) (fo:=4) (y':=(⟨p.ins.op,p.ins.a,p.ins.b,p.ins.c,w32 q⟩:cX)) .head rfl rfl rfl rfl rfl rfl rfl rfl rfl (List.getElem?_set_self k9) rfl ?_;refine iL ?_;refine dn_block ?_;refine cV ?_;refine dG ?_;refine one ?_;refine inc (i+1) ?_;refine one ?_;refine iL ?_;refine cV ?_;exact d_back (oC ((o.set i p.ins).set i ⟨p.ins.op,p.ins.a,p.ins.b,p.ins.c,w32 q⟩,i+1) n9 ⟨rfl,e8⟩ ⟨rfl,rfl,rfl,rfl,e8⟩ (.c0 (.c1 .nil)) ⟨e9 (⟨by dsimp only;omega,by dsimp only;simp only[List.length_set];exact hol,by dsimp only;exact place_go1 hinv18.2.2 hp hc63 hg k7⟩),e8⟩ (bA.drop 1))
 have hc52:=Int.not_lt.1 (of_decide_eq_false hc52);refine d_exit ?_;refine bCh ?_;refine bCh ?_;refine bIq ?_;refine cV ?_;refine iB ?_;refine dG ?_;refine g4 ?_;refine iL ?_;refine cV ?_;refine d_ret ?_;refine bHk underlying185 kT1 ?_;have hLR2:sK l= .ok o:=hLR.trans ((place_end hinv18.2.2 k7).trans (by rw[List.take_of_length_le k7]));obtain⟨hC,hE⟩:=linkC_ok hLR2;rw[hC,hE,hol];exact rs3 (some ⟨b3,0,none⟩,l.length) trivial
def lI (c:dE)(dims:List Int):Int:=
 if (fH c dims).2≠0 then (fH c dims).2 else if (jR c).2≠0 then (jR c).2 else if 384<opsCount c then 180 else if turnsG dims c.steps 0=false then 122 else 0
structure MadeP where
 code:List cX
 mem:Int
 at_:List Int
def uJ (c:dE)(dims:List Int):GnM:=⟨1,(bH (jR c).1.2 dims).1,dims,(jR c).1.1.map λp=>(bH p dims).1,c.bufs.map λb=>(jL (b.sides.map λp=>(bH p dims).1)).1⟩
def codeG (c:dE)(dims:List Int):List PcV:=(fL ⟨1,0,0,0,121⟩ 0 (hereG 1 (fL ⟨0,0,0,0,0⟩ 0 (stepsG (uJ c dims) c.steps ⟨[],1,0⟩)))).l
def qQ (c:dE)(dims:List Int):MadeP×Int:=
 if lI c dims≠0 then (⟨[],0,[]⟩,lI c dims)else (⟨yU (codeG c dims),(uJ c dims).frame+deepGo c.steps 0,(uJ c dims).at_⟩,0)
end
section
open Go.RowKit Go.Sort Go.Proofs.Tryz
theorem gq_lay{sides:List (List Mono)}{b:Nat}{again:Bool}{s s':PlC}(h:layC sides b again s=some s'):s'.ats.length=s.ats.length:=by
 unfold layC at h;split at h
 .cases h
 .split at h
  .cases h;simp
  .split at h
   .cases h;simp
   .cases h
theorem bJl{bufs:List gQ}{l:List LifeC}: ∀(m b:Nat) {s s':PlC},lQ bufs l m b s=some s'->s'.ats.length=s.ats.length
 |0,_,_,_,h=>by cases h;rfl
 |m+1,b,s,s',h=>by
  unfold lQ at h;split at h
  .split at h
   .split at h
    .cases h
    .rename_i s2 hs2;rw[bJl m (b+1) h,gq_lay hs2]
   .exact bJl m (b+1) h
  .cases h
theorem gq_go{c:dE}{l:List LifeC}{w:List Bool}: ∀(xs:List cP) (i:Nat) {s s':PlC},goC c l w xs i s=some s'->s'.ats.length=s.ats.length
 |[],_,_,_,h=>by cases h;rfl
 |x::xs,i,s,s',h=>by
  unfold goC at h;split at h
  .split at h
   .split at h
    .cases h
    .rename_i s2 hs2;rw[gq_go xs (i+1) h,gq_lay hs2];rfl
   .exact gq_go xs (i+1) h
  .cases h
theorem cells_pairQ{c:dE}{dims:List Int}(h:(fH c dims).2=0):fH c dims=((fH c dims).1,0):=by rw[<-h]
theorem bMl{vars:Int}: ∀{l:List gQ} {seen:List Int},oE vars l seen=true-> ∀u∈l,u.sides.length<=4
 |[],_,_,u,hu=>by cases hu
 |b::l,seen,h,u,hu=>by
  rw[oE,Bool.and_eq_true,Bool.and_eq_true,Bool.and_eq_true]at h
  rcases List.mem_cons.1 hu with rfl|hu
  .have h1:=h.1;unfold gK at h1;rw[Bool.and_eq_true,decide_eq_true_eq]at h1;exact h1.2
  .exact bMl h.2.2.2 u hu
section
variable {c : dE} {ds : List Int}
theorem plan_evals{al:Int}{ats:List (List Mono)}{e:List Mono}(hr:cZ c=true)(hc:fH c ds=(al,0))(hp:zD c=some (ats,e)):
  ats.length=c.bufs.length/\(∀a∈ats,(bH a ds).2=0/\0<=(bH a ds).1/\(bH a ds).1<=134217728)/\(bH e ds).2=0/\0<=(bH e ds).1/\(bH e ds).1<=134217728:=by
 have hs:=cells_sized hr hc;unfold zD at hp;split at hp
 .cases hp
 .rename_i s hb;split at hp
  .cases hp
  .rename_i t hg;cases hp;have h1:=bNf hr hs k7 ((ag_start c.bufs.length).less (L':=LB c 0) (λk hk=>by have:=hk.1;omega) (Nat.le_refl 0)) hb
   have h2:=go_ag hr hs (r:=c.steps) (i:=0) rfl (h1.less (L':=LG c 0) (λk hk=>by
    obtain⟨z,hz,hk⟩:=hk;refine⟨?_,z,hz,?_⟩
    .have:=(List.getElem?_eq_some_iff.1 hz).1
     rwa[nA]at this
    .rcases hk with hk|⟨j,x,_,h,_⟩
     .exact hk
     .omega) (Nat.le_refl _)) hg
   have hn:0+c.bufs.length+c.steps.length<=2048:=by have:=(gJ hr).1;omega
   have hev:=h2.endV;have hE:VD ds t.end_<=134217728:=k7
   refine⟨((gq_go _ _ hg).trans (bJl _ _ hb)).trans (by simp[tE]),λa ha=>?_,?_⟩
   .obtain⟨b,hb⟩:=List.getElem?_of_mem ha;obtain⟨g1,g2⟩:=h2.ats b a hb;rw[eval_is g1 hs.dims (by unfold kR;omega)];exact⟨rfl,gr_pos g1 hs.dims,by show VD ds a<=_;omega⟩
   .rw[eval_is h2.endG hs.dims (by unfold kR;omega)];exact⟨rfl,gr_pos h2.endG hs.dims,hE⟩
theorem bMk: ∀{l:List (List Mono)} {acc r:List Int},sidesGo ds l acc=some r->(∀p∈l,(bH p ds).2=0/\0<=(bH p ds).1/\(bH p ds).1<=65536)/\r=acc++l.map λp=>(bH p ds).1
 |[],acc,r,h=>by
  cases h;exact⟨λp hp=>(by cases hp),m9⟩
 |p::l,acc,r,h=>by
  rw[sidesGo]at h;split at h
  .rename_i hv;have hv:(bH p ds).2=0/\0<=(bH p ds).1/\(bH p ds).1<=65536:=by simpa[bQl,and_assoc]using hv
   obtain⟨h1,h2⟩:=bMk h;refine⟨λq hq=>?_,by rw[h2];simp⟩
   rcases List.mem_cons.1 hq with rfl|hq
   .exact hv
   .exact h1 q hq
  .cases h
theorem buf_evals{al:Int}(hr:cZ c=true)(hc:fH c ds=(al,0)){u:gQ}(hu:u∈c.bufs):(∀p∈u.sides,(bH p ds).2=0/\0<=(bH p ds).1/\(bH p ds).1<=65536)/\u.sides.length<=4:=by
 refine⟨?_,?_⟩
 .unfold fH at hc;rw[if_pos hr]at hc;split at hc
  .obtain⟨n,hn⟩:=bAb hc u hu;unfold sizeB at hn;split at hn
   .cases hn
   .rename_i l hl;exact(bMk hl).1
  .cases hc
 .exact bMl (gJ hr).2.1 u hu
end
end
section
open Go.RowKit Go.Proofs.Tryz
theorem bOj: ∀(s:List Int) (n:Int),(∀z∈s,0<=z/\z<=65536)->0<=n->n<=65536->0<=(mX s n).1/\(mX s n).1<=65536
 |[],n,_,h0,h1=>⟨h0,h1⟩
 |z::s,n,hz,h0,h1=>by
  have hz0:=hz z (List.mem_cons_self ..);have hp:0<=n*z:=Int.mul_nonneg h0 hz0.1;have hq:n*z<=65536*65536:=Int.mul_le_mul h1 hz0.2 hz0.1 k7;unfold mX;rw[rn_w64 (z:=n*z) k7 k7];split
  .exact⟨m7,m7⟩
  .rename_i hc;exact bOj s _ (λy hy=>hz y (List.mem_cons_of_mem _ hy)) hp k7
theorem sizeA_in(s:List Int):0<=(jL s).1/\(jL s).1<=65536:=by
 unfold jL;split
 .exact⟨m7,m7⟩
 .rename_i hc;split
  .exact⟨m7,m7⟩
  .refine bOj s 1 (λz hz=>?_) m7 m7;have h1: ¬s.any tI=true:=λe=>hc (.inr e);rw[List.any_eq_true]at h1;have h2: ¬tI z=true:=λe=>h1 ⟨z,hz,e⟩;unfold tI at h2;simp only[decide_eq_true_eq,Bool.or_eq_true]at h2;exact⟨k7,k7⟩
theorem bIb: ∀(l:List OpC) (most now b:Int),most<=b->now+l.length<=b-> -1<=b->mP l most now<=b/\(-1<=most-> -1<=mP l most now)
 |[],most,now,b,h1,h2,h3=>by
  unfold mP;split
  .exact⟨h1,λh=>h⟩
  .exact⟨h3,λ_=>by omega⟩
 |o::r,most,now,b,h1,h2,h3=>by
  unfold mP;have h2:now+((r.length+1:Nat):Int)<=b:=h2;split
  .exact⟨h3,λ_=>by omega⟩
  .rename_i hc;have h:=bIb r (max most (now+(1-cH o.how))) (now+(1-cH o.how)) b k7 k7 h3;exact⟨h.1,λh4=>h.2 k7⟩
theorem depthC_in(l:List OpC): -1<=kL l/\kL l<=l.length:=by
 have h:=bIb l 0 0 l.length k7 k7 k7;exact⟨h.2 k7,h.1⟩
theorem bGm{ds:List Int}{f:Bool}: ∀{l:List (List Mono)} {n m:Int},turnG f ds l n=some m-> ∀p∈l,(bH p ds).2=0
 |[],_,_,_,p,hp=>by cases hp
 |q::l,n,m,h,p,hp=>by
  unfold turnG at h;split at h
  .cases h
  .rename_i hc
   rcases List.mem_cons.1 hp with rfl|hp
   .exact Classical.not_not.1 λe=>hc (.inl e)
   .exact bGm h p hp
theorem bAs{ds:List Int}: ∀{l:List cP} {a:Int},turnsG ds l a=true-> ∀x∈l,∀p∈x.loops,(bH p ds).2=0
 |[],_,_,x,hx=>by cases hx
 |y::l,a,h,x,hx=>by
  unfold turnsG at h;split at h
  .cases h
  .rename_i n hn;split at h
   .cases h
   .rcases List.mem_cons.1 hx with rfl|hx
    .exact bGm hn
    .exact bAs h x hx
theorem stepsG_at{M:GnM}{R t:GnS}{l:List cP}{i:Nat}{x:cP}(h:R=stepsG M (l.drop i) t)(hx:l[i]?=some x):R=stepsG M (l.drop (i+1)) (oK M x t):=by
 obtain⟨hlt,e⟩:=List.getElem?_eq_some_iff.1 hx;rw[h,<-List.getElem_cons_drop hlt,e];rfl
theorem stepsG_end{M:GnM}{R t:GnS}{l:List cP}{i:Nat}(h:R=stepsG M (l.drop i) t)(hi:l.length<=i):R=t:=by
 rw[h,List.drop_of_length_le hi];rfl
theorem deepGo_at{D d:Int}{l:List cP}{i:Nat}{x:cP}(h:D=deepGo (l.drop i) d)(hx:l[i]?=some x):D=deepGo (l.drop (i+1)) (max d (kL x.ops-6)):=by
 obtain⟨hlt,e⟩:=List.getElem?_eq_some_iff.1 hx;rw[h,<-List.getElem_cons_drop hlt,e];rfl
theorem deepGo_end{D d:Int}{l:List cP}{i:Nat}(h:D=deepGo (l.drop i) d)(hi:l.length<=i):D=d:=by
 rw[h,List.drop_of_length_le hi];rfl
def opsSum(l:List cP):Nat:=(l.map (·.ops.length)).sum
theorem bEs{K k:Nat}{l:List cP}{i:Nat}{x:cP}(h:K=k+opsSum (l.drop i))(hx:l[i]?=some x):K=(k+x.ops.length)+opsSum (l.drop (i+1)):=by
 obtain⟨hlt,e⟩:=List.getElem?_eq_some_iff.1 hx;rw[h,<-List.getElem_cons_drop hlt,e];show k+(x.ops.length+opsSum (l.drop (i+1)))=_;omega
theorem opsSum_end{K k:Nat}{l:List cP}{i:Nat}(h:K=k+opsSum (l.drop i))(hi:l.length<=i):K=k:=by
 rw[h,List.drop_of_length_le hi];rfl
section
variable {P : Program} {β : dC} {n : Nat} {Γ : Env} {H : List bD} {F : List bC} {Q : Exit -> Act -> World -> Prop}
theorem bNz{ι:Type}{ops:Array Oper}{rest:List Oper}{o:Oper}{d:Nat}{f:FuncId}{x:Operand}{first cap:Array Value}{ars:Array Operand}{ts:Array TypeId}{vs all:List Value}{Hin H1 L H2:List bD}{G Pre:List bC}{val:ι->Value}{Hout:ι->List bD}{post:ι->List bC}
  (hcf: ∀(args:Array Value) (w:World),(callFunc f args).run P w= .ok (.enter f args) w) (hs:cE P f all Hin Pre val Hout post) (hw:want ops Γ o=some true) (ho:o.op= .call ⟨.value x,ars,ts⟩) (hx:Γ.ev x=some (.func (.func f) first cap)) (hd:o.dst=some d) (hn:Nat.blt d n=true)
  (hv:Γ.evs ars.toList=some vs) (hall:first.toList++vs++cap.toList=all) (hH:Split H Hin H1) (hL:Split H1 L H2) (hG:vZ L G) (hF:bA (G++F) Pre)
  (k: ∀x,At β n ((d,val x)::Γ) (Hout x++H1) F (wpList P ops Q rest)):At β n Γ H F (wpList P ops Q (o::rest)):=
 fY hw λa w S f s hk=>by
  unfold Oper.wp;rw[bRn hcf ho f hx hv w,Oper.upon_enter]
  have e:first++vs.toArray++cap=all.toArray:=by
   rw[<-hall];apply Array.ext';simp
  rw[e];have s1:=s.perm hH.perm;have s2:=s1.perm (hL.perm.append_left Hin);have hallF:All (G++F) (λb=>S b\/kV L b) w:=(hG _ w (λc hc=>s2.ok c (List.mem_append_right _ (List.mem_append_left _ hc))) (λc hc b hb=> .inr ⟨c,hc,hb⟩)).append (All.mono (λ_ h=> .inl h) (λ_ _=>rfl) hk);refine(hs _ w s2.lend (hF.all _ w hallF)).mono ?_;rintro e w' ⟨x,S',rfl,s',k'⟩;show wpList P ops Q rest (a.put o.dst (val x)) w';rw[hd];exact k x _ _ S (f.put l9 _) (s1.leave' s') (All.mono (λ_ h=>h) (λb hb=>s'.kept.block b (s.zone b hb).1 (λ⟨c,hc,h⟩=>(s1.own c (List.mem_append_left _ hc) b h).2.2 hb)) hk)
end
theorem maxG{a b:Int}:(if b>a then b else a)=max a b:=by
 split<;>omega
section
variable {c : dE} {ds : List Int} {e : Int}
theorem cells_rightG(h:(fH c ds).2=0):cZ c=true:=by
 unfold fH at h;split at h
 .assumption
 .cases h
theorem ref1(h:(fH c ds).2≠0):qQ c ds=(⟨[],0,[]⟩,(fH c ds).2):=by
 have e:lI c ds=(fH c ds).2:=if_pos h;unfold qQ;rw[e,if_pos h]
theorem ref2(h:(fH c ds).2=0)(h2:(jR c).2≠0):qQ c ds=(⟨[],0,[]⟩,(jR c).2):=by
 have e:lI c ds=(jR c).2:=by unfold lI;rw[if_neg (λk=>k h),if_pos h2]
 unfold qQ;rw[e,if_pos h2]
theorem ref3(h:(fH c ds).2=0)(h2:(jR c).2=0)(h3:384<opsSum c.steps):qQ c ds=(⟨[],0,[]⟩,180):=by
 have e:lI c ds=180:=by unfold lI;rw[if_neg (λk=>k h),if_neg (λk=>k h2)];exact if_pos h3
 unfold qQ;rw[e,if_pos m7]
theorem ref4(h:(fH c ds).2=0)(h2:(jR c).2=0)(h3: ¬384<opsSum c.steps)(h4:turnsG ds c.steps 0=false):qQ c ds=(⟨[],0,[]⟩,122):=by
 have e:lI c ds=122:=by unfold lI;rw[if_neg (λk=>k h),if_neg (λk=>k h2)];exact(if_neg h3).trans (if_pos h4)
 unfold qQ;rw[e,if_pos m7]
theorem ref0(h:(fH c ds).2=0)(h2:(jR c).2=0)(h3: ¬384<opsSum c.steps)(h4:turnsG ds c.steps 0=true):qQ c ds=(⟨yU (codeG c ds),(uJ c ds).frame+deepGo c.steps 0,(uJ c ds).at_⟩,0):=by
 have e:lI c ds=0:=by unfold lI;rw[if_neg (λk=>k h),if_neg (λk=>k h2)];exact(if_neg h3).trans (if_neg (by rw[h4];decide))
 unfold qQ;rw[e,if_neg m7]
theorem plan_some(h:(jR c).2=0):zD c=some (jR c).1:=by
 unfold jR at h⊢;split at h
 .rename_i hr;rw[if_pos hr];split at h
  .rename_i r hp;rw[hp]
  .cases h
 .cases h
end
def GM0 (c:gF)(d:Sl Int):MkV:=⟨⟨none,0,[]⟩,0,0,0,0,c,d,⟨none,0,[]⟩,⟨none,0,[]⟩⟩
def GM1 (c:gF)(d:Sl Int):MkV:=⟨⟨none,0,[]⟩,0,0,1,0,c,d,⟨none,0,[]⟩,⟨none,0,[]⟩⟩
def GM2 (c:gF)(d:Sl Int)(y:LayV)(x:(Option Addr×Nat)×(Option Addr×Nat)):MkV:=((GM1 c d).ly x.1 x.2 ((polsL y.at_.list).map λp=>(bH p d.list).1) (c.bufs.list.map (uA d.list))).fr (bH y.size.list d.list).1
theorem gm2_M{c:gF}{d:Sl Int}{y:LayV}{x:(Option Addr×Nat)×(Option Addr×Nat)}(h:(polsL y.at_.list,y.size.list)=(jR c.c).1):(GM2 c d y x).M=uJ c.c d.list:=by
 unfold uJ;rw[<-h];show(⟨1,(bH y.size.list d.list).1,d.list,_,c.bufs.list.map (uA d.list)⟩:GnM)=⟨1,_,_,_,(c.bufs.list.map (·.c)).map _⟩;rw[List.map_map];rfl
theorem yP:(prog.info? 31).bind (·.zero)=some (.agg #[.slice none 0 0,.int .i64 0,.slice none 0 0]):=k8
theorem iR:prog.built 31 []=some #[.slice none 0 0,.int .i64 0,.slice none 0 0]:=k8
theorem tD(v5_0 v5_1 v5_2 v5_3:Value)(a6:Option Addr)(l6 c6:Nat):prog.built 85 [(5,.agg #[v5_0,v5_1,v5_2,v5_3]),(6,.slice a6 l6 c6)]=some #[.slice none 0 0,.int .i64 0,.int .i64 0,.int .i64 0,.int .i64 0,v5_0,v5_1,v5_2,v5_3,.slice a6 l6 c6,.slice none 0 0,.slice none 0 0]:=k8
theorem vF(z0:Int)(z4:Int):prog.built 52 [(0,.int .u8 z0),(4,.int .i32 z4)]=some #[.int .u8 z0,.int .u8 0,.int .u8 0,.int .u8 0,.int .i32 z4]:=k8
theorem tA(a0:Option Addr)(l0 c0:Nat)(z1:Int)(a2:Option Addr)(l2 c2:Nat):prog.built 31 [(0,.slice a0 l0 c0),(1,.int .i64 z1),(2,.slice a2 l2 c2)]=some #[.slice a0 l0 c0,.int .i64 z1,.slice a2 l2 c2]:=k8
set_option maxHeartbeats 2000000 in
theorem GenF_spec(c:gF)(DA:Option Addr)(dcap:Nat)(dims:List Int)(hdl:dims.length<=140737488355328):cE prog 9 [.agg #[.int .i64 c.vars,.slice c.bufs.addr c.bufs.list.length c.bufs.cap,.slice c.steps.addr c.steps.list.length c.steps.cap,.slice c.outs.addr c.outs.list.length c.outs.cap],.slice DA dims.length dcap] [] [nM c,cF.sl (.slice DA dims.length dcap) dims,bC.cells 0 0 [.int .i64 0,.int .i64 (-1)]] (λ(x:(Option Addr×Nat)×(Option Addr×Nat))=> .tuple #[.agg #[.slice x.1.1 (qQ c.c dims).1.code.length x.1.2,.int .i64 (qQ c.c dims).1.mem,.slice x.2.1 (qQ c.c dims).1.at_.length x.2.2],.int .i64 (qQ c.c dims).2]) (λ(x:(Option Addr×Nat)×(Option Addr×Nat))=>[lO.row (.slice x.1.1 (qQ c.c dims).1.code.length x.1.2) 52 (qQ c.c dims).1.code,cF.row (.slice x.2.1 (qQ c.c dims).1.at_.length x.2.2) 2 (qQ c.c dims).1.at_]) (λ_=>[]):=by
 have hT:=cT;refine j2 func9 ntmps9 ?_;intro β hM;refine g2 ?_;refine j0 λb1=>?_;refine i7 yP λb2=>?_;refine g8 ?_;refine f9 func22 (Cells_spec c DA dcap dims hdl) .nil ⟨d7,d8,e8⟩ λ_=>?_;refine g13 ?_;refine bNw (λhc28=>?_) λhc28=>?_
 .refine g2 ?_;refine ss (cK rfl rfl (iR)) ?_;refine g7 ?_;have hG:qQ c.c dims=_:=ref1 hc28;rw[hG];refine bZ (t:=52) lO<|bZ (t:=2) cF ?_;exact rs2 ((none,0),(none,0)) trivial
 refine g5 ?_;refine f9 func14 (PlanF_spec c) .nil ⟨d7,d9,e8⟩ λy=>?_;refine bJ e6 λhy=>?_;refine g3 ?_;refine i7 nB λb3=>?_;refine g11 ?_;refine bNw (λhc37=>?_) λhc37=>?_
 .refine g2 ?_;refine ss (cK rfl rfl (iR)) ?_;refine g7 ?_;have hG:qQ c.c dims=_:=ref2 k7 hc37;rw[hG];refine bZ (t:=52) lO<|bZ (t:=2) cF ?_;exact rs2 ((none,0),(none,0)) trivial
 refine g3 ?_;have hcz:(fH c.c dims).2=0:=hc28;have hpz:(jR c.c).2=0:=hc37;have hrc:=cells_rightG hcz;obtain⟨⟨_,_,hnb,hns,_⟩,_⟩:=gJ hrc;rw[show c.c.bufs.length=c.bufs.list.length from bY _]at hnb;rw[show c.c.steps.length=c.steps.list.length from fG _]at hns
 obtain⟨K,hK⟩: ∃K,opsSum c.c.steps=K:=⟨_,rfl⟩
 obtain⟨D,hD⟩: ∃D,deepGo c.c.steps 0=D:=⟨_,rfl⟩
 refine bK (sQ.sl (.slice c.steps.addr c.steps.list.length c.steps.cap) c.steps.list) (sE (kD e7)) ?_;refine g15 ?_;refine bU (ι:=Int×Nat×Nat) [(1,_),(2,_),(4,_),(8,_),(41,_),(42,_)] ⟨rfl,rfl,rfl,rfl,rfl,rfl,e8⟩ (λ⟨d,k,i⟩=>[(10,.int .i64 (k:Nat)),(11,.int .i64 d),(43,.int .i64 (i:Nat))]) (λ_=>[]) (λ⟨d,k,i⟩=>[bC.pure (i<=c.steps.list.length/\(0<=d/\d<=1000/\k<=256*i)/\K=k+opsSum (c.c.steps.drop i)/\D=deepGo (c.c.steps.drop i) d)]) (λ⟨d,k,i⟩=>c.steps.list.length-i) (0,0,0) ⟨rfl,rfl,rfl,e8⟩ .nil ⟨e9 (⟨k7,k7,by rw[<-hK,List.drop_zero,Nat.zero_add],hD.symm⟩),e8⟩ ?_;rintro⟨d,k,i⟩;dsimp only;refine bJ d7 λhinv9=>?_;refine g6 ?_;refine dH (λhc44=>?_) λhc44=>?_
 .refine g5 ?_;obtain⟨x,hx⟩:=gx c.steps.list i;have hg:=step_g hrc dims (f5 hx);refine bK (mG x) (Has.each (rI (kD (Has.of mT6))) (f5 hx)) ?_;have hlo:=hg.hlo;refine one ?_;refine ss (ixs i) ?_;refine ss (jQ hx 0) ?_;refine i7 vQ λb4=>?_;refine g10 ?_;refine inc (k+x.ops.list.length) ?_;refine g3 ?_;refine bK (opE.sl (.slice x.ops.addr x.ops.list.length x.ops.cap) x.ops.list) (bKs (lX d7))<|bK (bC.each x.ops.list opF) (opsF_e (lX d8)) ?_;have hdc:=depthC_in (opsL x.ops.list);rw[fV]at hdc;refine g4 ?_;refine bF func23 (bJm x.ops.addr x.ops.cap x.ops.list k7) rfl rfl .nil ⟨d8,d7,e8⟩ λ_=>?_;refine one ?_;refine bN (z':=kL (opsL x.ops.list)-6) (qI rfl k7 k7) ?_;refine one ?_;refine bN (z':=max d (kL (opsL x.ops.list)-6)) maxG ?_;refine g6 ?_;refine inc (i+1) ?_;refine g3 ?_;exact bk2 (max d (kL (opsL x.ops.list)-6),k+x.ops.list.length,i+1) ⟨e9 (⟨by dsimp only;omega,by dsimp only;omega,by dsimp only;rw[bEs hinv9.2.2.1 (dJ hx),show x.c.ops.length=x.ops.list.length from fV _],by dsimp only;exact deepGo_at hinv9.2.2.2 (dJ hx)⟩),e8⟩
 refine g8 ?_;have hKk:opsSum c.c.steps=k:=hK.trans (opsSum_end hinv9.2.2.1 p6);have hDd:deepGo c.c.steps 0=d:=hD.trans (deepGo_end hinv9.2.2.2 p6);refine g6 ?_;refine dH (λhc59=>?_) λhc59=>?_
 .refine g2 ?_;refine ss (cK rfl rfl (iR)) ?_;refine g7 ?_;have hG:qQ c.c dims=_:=ref3 hcz hpz k7;rw[hG];refine bZ (t:=52) lO<|bZ (t:=2) cF ?_;exact rs2 ((none,0),(none,0)) trivial
 refine g4 ?_;refine f9 func24 (turnsF_spec c hrc DA dcap dims hdl) .nil ⟨(Has.of mT6),(Has.of mT7),e8⟩ λ_=>?_;refine g4 ?_;refine yQ (λhc63=>?_) λhc63=>?_
 .refine g2 ?_;refine ss (cK rfl rfl (iR)) ?_;refine g7 ?_;have hG:qQ c.c dims=_:=ref4 hcz hpz k7 (by simpa using hc63);rw[hG];refine bZ (t:=52) lO<|bZ (t:=2) cF ?_;exact rs2 ((none,0),(none,0)) trivial
 refine g4 ?_;have htu:turnsG dims c.c.steps 0=true:=by simpa using hc63
 have hev:=bAs htu;have hcp:=cells_pairQ hcz;obtain⟨hal,hats,hf2,hf0,hf1⟩:=plan_evals hrc hcp (plan_some hpz);have hy1:(jR c.c).1.1=polsL y.at_.list:=(congrArg Prod.fst hy).symm;have hy2:(jR c.c).1.2=y.size.list:=(congrArg Prod.snd hy).symm;rw[hy1]at hal hats;rw[hy2]at hf2 hf0 hf1;rw[cC,show c.c.bufs.length=c.bufs.list.length from bY _]at hal;have hbuf: ∀u∈c.bufs.list,(∀p∈polsL u.sides.list,(bH p dims).2=0)/\u.sides.list.length<=4:=λu hu=>by have h:=buf_evals hrc hcp (u:=u.c) (List.mem_map.2 ⟨u,hu,rfl⟩);exact⟨λp hp=>(h.1 p hp).1,by have h2:=h.2;rw[show u.c.sides.length=u.sides.list.length from cC _]at h2;exact h2⟩
 refine g3 ?_;refine ss (cK rfl rfl (tD _ _ _ _ _ _ _)) ?_;refine j0 λmb=>?_;refine g4 ?_;refine bZ (t:=184) pcE<|bZ (t:=2) cF<|bZ (t:=2) cF ?_
 have gb0:GnB 10 (⟨[],0,0⟩:GnS):=⟨Nat.zero_le _,Nat.zero_le _,Nat.zero_le _⟩
 refine g3 ?_;refine bF func25 (oU mb (GM0 c (⟨DA,dcap,dims⟩:Sl Int)) (none,0) (⟨[],0,0⟩:GnS) (gb0.le k7)) rfl rfl (.c3 (.c2 .nil)) e8 λa75=>?_;refine bN (z':=((1:Nat):Int)) rfl ?_;have gb1:GnB 11 (markG (⟨[],0,0⟩:GnS)):=mQ gb0;refine g9 ?_;refine f9 func26 (layM_spec mb (GM1 c (⟨DA,dcap,dims⟩:Sl Int)) a75 (markG (⟨[],0,0⟩:GnS)) y hbuf hal hnb (λp hp=>(hats p hp).1) hf2 hdl) (.c0 (.c2 (.c1 .nil))) ⟨(Has.of mT6),(Has.of mT7),d9,e6,e7,e8⟩ λpq=>?_
 obtain⟨RR,hRR⟩: ∃RR,stepsG (GM2 c (⟨DA,dcap,dims⟩:Sl Int) y pq).M c.c.steps (markG (⟨[],0,0⟩:GnS))=RR:=⟨_,rfl⟩
 have hsz:(GM2 c (⟨DA,dcap,dims⟩:Sl Int) y pq).size.list.length=(GM2 c (⟨DA,dcap,dims⟩:Sl Int) y pq).at_.list.length:=by show(c.bufs.list.map _).length=((polsL y.at_.list).map _).length;rw[List.length_map,List.length_map,cC];exact hal.symm
 have hsl:(GM2 c (⟨DA,dcap,dims⟩:Sl Int) y pq).size.list.length=c.bufs.list.length:=List.length_map _;have hSz: ∀z∈(GM2 c (⟨DA,dcap,dims⟩:Sl Int) y pq).size.list,0<=z/\z<=1000000:=λz hz=>by obtain⟨u,_,rfl⟩:=List.mem_map.1 hz;have h:=sizeA_in ((polsL u.sides.list).map λp=>(bH p dims).1);exact⟨h.1,Int.le_trans h.2 m7⟩
 have hAz: ∀z∈(GM2 c (⟨DA,dcap,dims⟩:Sl Int) y pq).at_.list,0<=z/\z<=200000000:=λz hz=>by obtain⟨p,hp,rfl⟩:=List.mem_map.1 hz;have h:=hats p hp;exact⟨h.2.1,Int.le_trans h.2.2 m7⟩
 refine g19 ?_;refine bU (ι:=(Option Addr×Nat)×GnS×Nat×Nat) [(4,_),(11,_),(14,_),(15,_),(84,_),(85,_)] ⟨rfl,rfl,rfl,rfl,rfl,rfl,e8⟩ (λ⟨a1,t,k1,i⟩=>[(86,.int .i64 (i:Nat))]) (λ⟨a1,t,k1,i⟩=>[mkO mb ((GM2 c (⟨DA,dcap,dims⟩:Sl Int) y pq).st a1 t),mkS ((GM2 c (⟨DA,dcap,dims⟩:Sl Int) y pq).st a1 t)]) (λ⟨a1,t,k1,i⟩=>[bC.pure (i<=c.steps.list.length/\K=k1+opsSum (c.c.steps.drop i)/\RR=stepsG (GM2 c (⟨DA,dcap,dims⟩:Sl Int) y pq).M (c.c.steps.drop i) t/\GnB (20+60*i+12*k1) t)]) (λ⟨a1,t,k1,i⟩=>c.steps.list.length-i) (a75,markG (⟨[],0,0⟩:GnS),0,0) ⟨rfl,e8⟩ (.c0 (.c2 .nil)) ⟨e9 (⟨k7,by rw[<-hK,List.drop_zero,Nat.zero_add],hRR.symm,gb1.le k7⟩),e8⟩ ?_;rintro⟨a1,t,k1,i⟩;dsimp only;refine bJ d7 λhinv23=>?_;have hk1:k1<=384:=by have:=hinv23.2.1;omega
 refine g6 ?_;refine dH (λhc87=>?_) λhc87=>?_
 .refine g5 ?_;obtain⟨x,hx⟩:=gx c.steps.list i;have hg:=step_g hrc dims (f5 hx);refine bK (mG x) (Has.each (rI (kD (Has.of mT7))) (f5 hx)) ?_;have hlo:=hg.hlo;have hk2:k1+x.ops.list.length<=384:=by have h:=bEs hinv23.2.1 (dJ hx);rw[show x.c.ops.length=x.ops.list.length from fV _]at h;omega
  have hsx:=hev x.c (List.mem_map.2 ⟨x,List.mem_of_getElem? hx,rfl⟩);refine one ?_;refine ss (ixs i) ?_;refine ss (jQ hx 0) ?_;refine i7 vQ λb5=>?_;refine g6 ?_;refine bNz (j4 func27) (stepM_spec mb (GM2 c (⟨DA,dcap,dims⟩:Sl Int) y pq) a1 t _ hinv23.2.2.2 x k7 hg.hh hsx hg.hll hg.hne (by rw[<-hsz,hsl];exact hg.hO) hg.hD hg.hb0 (by rw[hsl];exact hg.hb1) hsz hg.hA hSz hAz hdl) rfl rfl rfl rfl rfl rfl rfl (.c1 (.c1 .nil)) (.c1 (.c1 .nil)) (rC (rC oQ)) ⟨d9,Has.of mT11,d7,d8,e8⟩ λa92=>?_;have hBs:=gb_step (M:=(GM2 c (⟨DA,dcap,dims⟩:Sl Int) y pq).M) (x:=x.c) (by rw[show x.c.loops.length=x.loops.list.length from cC _];exact hg.hll) hinv23.2.2.2;refine g5 ?_;refine inc (i+1) ?_;refine g3 ?_;exact bk2 (a92,oK (GM2 c (⟨DA,dcap,dims⟩:Sl Int) y pq).M x.c t,k1+x.ops.list.length,i+1) ⟨e9 (⟨by dsimp only;omega,by dsimp only;rw[bEs hinv23.2.1 (dJ hx),show x.c.ops.length=x.ops.list.length from fV _],by dsimp only;exact stepsG_at hinv23.2.2.1 (dJ hx),by dsimp only;exact hBs.le (by rw[show x.c.ops.length=x.ops.list.length from fV _];omega)⟩),e8⟩
 refine g6 ?_;have hBe:=hinv23.2.2.2;have hRt:=hRR.trans (stepsG_end hinv23.2.2.1 p6);refine g2 ?_;refine ss (cK rfl rfl (oN _)) ?_;refine bF func28 (fQ mb (GM2 c (⟨DA,dcap,dims⟩:Sl Int) y pq) a1 t (hBe.le k7) ⟨0,0,0,0,0⟩ 0) rfl rfl (.c0 (.c0 .nil)) e8 λa96=>?_;have hB96:=fO (i:=(⟨0,0,0,0,0⟩:cX)) (dst:=0) hBe;refine g9 ?_;refine bF func29 (oV mb (GM2 c (⟨DA,dcap,dims⟩:Sl Int) y pq) a96 (fL ⟨0,0,0,0,0⟩ 0 t) (hB96.le k7) 1) rfl rfl (.c0 (.c0 .nil)) e8 λa102=>?_;have hBh:=mT (k:=1) hB96 k7;refine g5 ?_;refine ss (cK rfl rfl (vF _ _)) ?_;refine bF func28 (fQ mb (GM2 c (⟨DA,dcap,dims⟩:Sl Int) y pq) a102 (hereG 1 (fL ⟨0,0,0,0,0⟩ 0 t)) (hBh.le k7) ⟨1,0,0,0,121⟩ 0) rfl rfl (.c0 (.c0 .nil)) e8 λa105=>?_;have hB105:=fO (i:=(⟨1,0,0,0,121⟩:cX)) (dst:=0) hBh;refine g3 ?_;refine jA (E:=pcE) (v:= .slice a105.1 (fL ⟨1,0,0,0,121⟩ 0 (hereG 1 (fL ⟨0,0,0,0,0⟩ 0 t))).l.length a105.2) (xs:=(fL ⟨1,0,0,0,121⟩ 0 (hereG 1 (fL ⟨0,0,0,0,0⟩ 0 t))).l) kT1 ?_;refine g5 ?_;refine bF func30 (Link_spec a105.1 a105.2 (fL ⟨1,0,0,0,121⟩ 0 (hereG 1 (fL ⟨0,0,0,0,0⟩ 0 t))).l (Nat.le_trans hB105.l k7)) rfl rfl .nil ⟨d7,e8⟩ λlk=>?_;refine g10 ?_;refine dS _ _ [(true,0),(true,1),(true,2),(true,3),(true,4),(true,5),(true,6),(true,7),(true,8),(true,9),(true,10),(true,11),(false,12),(true,13)] dW l8 (.c0 (.c0 (.c0 (.c0 (.c0 (.c1 .nil)))))) bA.self ?_;refine g5 ?_;refine bN (z':=(bH y.size.list dims).1) rfl ?_;refine g2 ?_;refine bN (z':=(bH y.size.list dims).1+d) (qI rfl k7 k7) ?_;refine g4 ?_;refine stM rfl (cK rfl rfl (tA _ _ _ _ _ _ _)) ?_;refine g7 ?_;have hMM:=gm2_M (d:=(⟨DA,dcap,dims⟩:Sl Int)) (x:=pq) hy;have hG:=ref0 hcz hpz k7 htu;have hcd:codeG c.c dims=(fL ⟨1,0,0,0,121⟩ 0 (hereG 1 (fL ⟨0,0,0,0,0⟩ 0 t))).l:=by unfold codeG;rw[show uJ c.c dims=(GM2 c (⟨DA,dcap,dims⟩:Sl Int) y pq).M from hMM.symm,show(⟨[],1,0⟩:GnS)=markG (⟨[],0,0⟩:GnS)from rfl,hRt]
 rw[hG,hcd,show uJ c.c dims=(GM2 c (⟨DA,dcap,dims⟩:Sl Int) y pq).M from hMM.symm,hDd];exact rs2 (lk,pq.1) trivial
end
section
open Go.Proofs.Tryz
namespace X
open Go.RowKit Go.Proofs.Tryz
noncomputable section
def i64O (v:V):Option Int:=asI v λk z=>gd (isI64 k) (some z)
def u8O (v:V):Option Int:=asI v λk z=>gd (sameKind k .u8) (some z)
section
variable {γ : Type}
def listO (one:List V->Option γ)(sz:Nat):Nat->List V->Option (List γ)
 |0,_=>some []
 |n+1,cs=>ob (cutL cs 0 sz) λh=>ob (one h) λg=>ob (listO one sz n (cs.drop sz)) λr=>some (g::r)
def slO (one:List V->Option γ)(sz:Nat)(v:V)(s:St):Option (List γ):=match v with
 |.l0=>some []
 |.l k o n c=>gd (Nat.ble n 1000&&Nat.ble n c.least) (ob (rowX0 s k o (n*sz)) (listO one sz n))
 |_=>none
end
def one1O {γ:Type}(f:V->Option γ)(cs:List V):Option γ:=match cs with
 |[v]=>f v
 |_=>none
def polP (s:St)(v:V):Option (List Mono):=slO monoO 7 v s
def polsP (s:St)(v:V):Option (List (List Mono)):=slO (one1O (polP s)) 1 v s
def opP (s:St)(cs:List V):Option OpC:=match cs with
 |[a,b,c,p,f]=>ob (i64O a) λa=>ob (i64O b) λb=>ob (i64O c) λc=>ob (polP s p) λp=>ob (u8O f) λf=>some ⟨a,b,c,p,f⟩
 |_=>none
def bufP (s:St)(cs:List V):Option gQ:=match cs with
 |[a,b]=>ob (polsP s a) λa=>ob (i64O b) λb=>some ⟨a,b⟩
 |_=>none
def stepP (s:St)(cs:List V):Option cP:=match cs with
 |[a,b,p,l,f,o]=>ob (i64O a) λa=>ob (i64O b) λb=>ob (polP s p) λp=>ob (polsP s l) λl=>ob (u8O f) λf=>ob (slO (opP s) 5 o s) λo=>some ⟨a,b,p,l,f,o⟩
 |_=>none
def coreO (s:St)(v:V):Option dE:=asG v λcs=>match cs with
 |[a,b,t,o]=>ob (i64O a) λa=>ob (slO (bufP s) 2 b s) λb=>ob (slO (stepP s) 6 t s) λt=>ob (slO (one1O i64O) 1 o s) λo=>some ⟨a,b,t,o⟩
 |_=>none
def intsO (s:St)(v:V):Option (List Int):=slO (one1O i64O) 1 v s
def iV (z:Int):V:= .i .i64 z
def bHy:List (List Mono)->List Mono->Option (List Mono)
 |[],n=>some n
 |p::r,n=>if (mulF n p).2=0 then bHy r (mulF n p).1 else none
def layK (sides:List (List Mono))(b:Nat)(again:Bool)(s:PlC):Option PlC:=match bHy sides (kO 1).1 with
 |none=>none
 |some n=>match bAq n again s.free with
  |some (i,q)=>some {s with free:=s.free.eraseIdx i,laid:=s.laid.set b (some q),ats:=s.ats.set b q.at_}
  |none=>if (bothF s.end_ n 1).2=0 then some {s with end_:=(bothF s.end_ n 1).1,laid:=s.laid.set b (some ⟨s.end_,n⟩),ats:=s.ats.set b s.end_}else none
def bJd (bufs:List gQ)(l:List LifeC):Nat->Nat->PlC->Option PlC
 |0,_,s=>some s
 |m+1,b,s=>match bufs[b]?,l[b]? with
  |some u,some y=>if y.from_<0 then match layK u.sides b false s with
    |none=>none
    |some s'=>bJd bufs l m (b+1) s'
   else bJd bufs l m (b+1) s
  |_,_=>none
def goK (c:dE)(l:List LifeC)(w:List Bool):List cP->Nat->PlC->Option PlC
 |[],_,s=>some s
 |x::r,i,s=>match c.bufs[x.buf.toNat]?,l[x.buf.toNat]?,w[x.buf.toNat]? with
  |some u,some y,some t=>if y.from_=(i:Int)then match layK u.sides x.buf.toNat t (relC i l s)with
    |none=>none
    |some s'=>goK c l w r (i+1) s'
   else goK c l w r (i+1) s
  |_,_,_=>none
def planK (c:dE):Option (List (List Mono)×List Mono):=match bJd c.bufs (cW c) c.bufs.length 0 (tE c.bufs.length)with
 |none=>none
 |some s=>match goK c (cW c) (mL c) c.steps 0 s with
  |none=>none
  |some s=>some (s.ats,s.end_)
def planWK(c:dE):(List (List Mono)×List Mono)×Int:=if cZ c=true then match planK c with
 |some r=>(r,0)
 |none=>(([],[]),140)
 else (([],[]),100)
def refusedQ(w:(List (List Mono)×List Mono)×Int)(c:dE)(dims:List Int):Int:=
 if (fH c dims).2≠0 then (fH c dims).2 else if w.2≠0 then w.2 else if 384<opsCount c then 180 else if turnsG dims c.steps 0=false then 122 else 0
def makerQ(w:(List (List Mono)×List Mono)×Int)(c:dE)(dims:List Int):GnM:=⟨1,(bH w.1.2 dims).1,dims,w.1.1.map λp=>(bH p dims).1,c.bufs.map λb=>(jL (b.sides.map λp=>(bH p dims).1)).1⟩
def codeQ (w:(List (List Mono)×List Mono)×Int)(c:dE)(dims:List Int):List PcV:=(fL ⟨1,0,0,0,121⟩ 0 (hereG 1 (fL ⟨0,0,0,0,0⟩ 0 (stepsG (makerQ w c dims) c.steps ⟨[],1,0⟩)))).l
def genQ (w:(List (List Mono)×List Mono)×Int)(c:dE)(dims:List Int):MadeP×Int:=
 if refusedQ w c dims≠0 then (⟨[],0,[]⟩,refusedQ w c dims)else (⟨yU (codeQ w c dims),(makerQ w c dims).frame+deepGo c.steps 0,(makerQ w c dims).at_⟩,0)
def insW (i:cX):List V:=[.i .u8 i.op,.i .u8 i.a,.i .u8 i.b,.i .u8 i.c,.i .i32 i.imm]
def genV (r:MadeP×Int)(s:St):Option (V×St):=sel (Nat.beq r.1.code.length 0&&Nat.beq r.1.at_.length 0) (some (.t [.g [.y s.c,iV r.1.mem,.y (s.c+1)],iV r.2],{s with c:=s.c+2}))
 (gd (!(Nat.beq r.1.code.length 0)&& !(Nat.beq r.1.at_.length 0)) (some (.t [.g [.l s.n 0 r.1.code.length (.s s.c 0),iV r.1.mem,.l (s.n+1) 0 r.1.at_.length (.s (s.c+1) 0)],iV r.2],
   {h:=(s.h.set (some (.win (r.1.code.flatMap insW))) fuelT s.n).set (some (.win (r.1.at_.map iV))) fuelT (s.n+1),n:=s.n+2,c:=s.c+2})))
def genO (kN:Nat):Orc:=λargs s=>match args with
 |[c,d]=>ob (coreO s c) λc=>ob (intsO s d) λd=>gd (isKnow 2 (s.h.get kN)) (genV (genQ (planWK c) c d) s)
 |_=>none
end
theorem sizeK_eq: ∀(l:List (List Mono)) (n:List Mono),bHy l n=oD l n
 |[],_=>rfl
 |p::r,n=>by rw[bHy,oD,mulF_eq,sizeK_eq r]
theorem layK_eq(sides:List (List Mono))(b:Nat)(again:Bool)(s:PlC):layK sides b again s=layC sides b again s:=by
 unfold layK layC qJ;rw[sizeK_eq];simp only[bothF_eq];rfl
theorem bQt(bufs:List gQ)(l:List LifeC): ∀(m b:Nat) (s:PlC),bJd bufs l m b s=lQ bufs l m b s
 |0,_,_=>rfl
 |m+1,b,s=>by
  unfold bJd lQ;simp only[layK_eq,bQt bufs l m];rfl
theorem goK_eq(c:dE)(l:List LifeC)(w:List Bool): ∀(xs:List cP) (i:Nat) (s:PlC),goK c l w xs i s=goC c l w xs i s
 |[],_,_=>rfl
 |x::r,i,s=>by
  unfold goK goC;simp only[layK_eq,goK_eq c l w r];rfl
theorem genQ_eq(c:dE)(ds:List Int):genQ (planWK c) c ds=qQ c ds:=by
 have e:planWK c=jR c:=by
  unfold planWK jR planK zD;simp only[bQt,goK_eq];rfl
 rw[e];rfl
section
variable [Ctx] {α : As} {s s' : St} {w w' : World}
def Zn (w:World):jF:=λb=>b<w.heap.size
omit [Ctx]in
theorem i64_is{v:V}{z:Int}(h:i64O v=some z):v= .i .i64 z:=by
 obtain⟨k,x,rfl,h1⟩:=kT h;obtain⟨h2,h3⟩:=bL h1;cases h3;cases k<;>first|rfl|cases h2
omit [Ctx]in
theorem u8_is{v:V}{z:Int}(h:u8O v=some z):v= .i .u8 z:=by
 obtain⟨k,x,rfl,h1⟩:=kT h;obtain⟨h2,h3⟩:=bL h1;cases h3;rw[jZ h2]
omit [Ctx]in
theorem listO_is{γ:Type}{one:List V->Option γ}{sz:Nat}: ∀(n:Nat) (cs:List V) (l:List γ),listO one sz n cs=some l->l.length=n/\ ∀k g,l[k]?=some g-> ∃h,one h=some g/\h.length=sz/\ ∀j,j<sz->cs[k*sz+j]?=h[j]?
 |0,_,_,h=>by cases h;exact⟨rfl,λk m h=>by cases h⟩
 |n+1,cs,l,h=>by
  obtain⟨q,hq,h1⟩:=bB (show ob (cutL cs 0 sz) _=some l from h);obtain⟨m,hm,h2⟩:=bB h1;obtain⟨r,hr,h3⟩:=bB h2;cases h3;obtain⟨h4,h5⟩:=listO_is n _ _ hr;obtain⟨h6,h7⟩:=lY _ _ _ _ hq;have hl:q.length=sz:=by rw[h6];simp;omega
  refine⟨by simp[h4],λk x hk=>?_⟩
  cases k with
  |zero=>
   cases hk;refine⟨q,hm,hl,λj hj=>?_⟩;rw[h6,List.drop_zero,List.getElem?_take,if_pos hj];simp
  |succ k=>
   obtain⟨g,h8,h9,h10⟩:=h5 k x hk;refine⟨g,h8,h9,λj hj=>?_⟩;rw[<-h10 j hj,List.getElem?_drop]
   congr 1
   rw[Nat.succ_mul];omega
omit [Ctx]in
theorem bQr{γ β:Type}{P:γ->β->Prop}: ∀(l:List γ),(∀(k:Nat) (g:γ),l[k]?=some g-> ∃x,P g x)-> ∃m:List β,m.length=l.length/\ ∀(k:Nat) (g:γ) (x:β),l[k]?=some g->m[k]?=some x->P g x
 |[],_=>⟨[],rfl,λk g x h=>by cases h⟩
 |g::l,h=>by
  obtain⟨x,hx⟩:=h 0 g rfl;obtain⟨m,hm,hp⟩:=bQr l λk g hk=>h (k+1) g hk;refine⟨x::m,by simp[hm],λk g' x' h1 h2=>?_⟩
  cases k with
  |zero=>cases h1;cases h2;exact hx
  |succ k=>exact hp k g' x' h1 h2
theorem bEi{γ β:Type}{one:List V->Option γ}{E:Flat β}{f:β->γ}{G:β->Prop}(hs:Sim α s w)(hone: ∀cs g,cs.length=E.size->one cs=some g-> ∃x:β,f x=g/\cs.map (V.inst α)=E.cells x/\G x){v:V}{gs:List γ}(h:slO one E.size v s=some gs):
  ∃l:Sl β,l.list.map f=gs/\v.inst α= .slice l.addr l.list.length l.cap/\(E.sl (.slice l.addr l.list.length l.cap) l.list).p (Zn w) w/\(∀x∈l.list,G x)/\l.list.length<=l.cap/\l.list.length<=1000:=by
 unfold slO at h;split at h
 .cases h;exact⟨⟨none,0,[]⟩,rfl,rfl,⟨none,0,rfl,λk x hk=>(by cases hk)⟩,λx hx=>(by cases hx),Nat.le_refl _,by show 0<=1000;decide⟩
 .rename_i k o n c;obtain⟨h1,h2⟩:=bL h;rw[Bool.and_eq_true]at h1;obtain⟨cs,hcs,h3⟩:=bB h2;obtain⟨h4,h5⟩:=listO_is _ _ _ h3;obtain⟨h6,h7⟩:=oP hs (row0_row hcs);obtain⟨b,hb,_⟩:=bB hcs
  obtain⟨m,hm,hp⟩:=bQr (P:=λ(q:Nat×γ) x=>f x=q.2/\(∃h:List V,h.length=E.size/\h.map (V.inst α)=E.cells x/\ ∀j,j<E.size->cs[q.1*E.size+j]?=h[j]?)/\G x) (gs.zipIdx.map λq=>(q.2,q.1)) λi q hi=>by
   rw[List.getElem?_map,List.getElem?_zipIdx]at hi
   cases hg:gs[i]? with
   |none=>rw[hg]at hi;cases hi
   |some g=>
    rw[hg]at hi;have hi:some (0+i,g)=some q:=hi;cases hi;obtain⟨hh,h8,h9,h10⟩:=h5 i g hg;obtain⟨x,e1,e2,e3⟩:=hone hh g h9 h8;exact⟨x,e1,⟨hh,h9,e2,λj hj=>by simpa using h10 j hj⟩,e3⟩
  have hml:m.length=gs.length:=by rw[hm];simp
  have hp3: ∀i x,m[i]?=some x-> ∃g,gs[i]?=some g/\f x=g/\(∃h:List V,h.length=E.size/\h.map (V.inst α)=E.cells x/\ ∀j,j<E.size->cs[i*E.size+j]?=h[j]?)/\G x:=λi x hx=>by
   have hlt:i<gs.length:=by rw[<-hml];exact(List.getElem?_eq_some_iff.1 hx).1
   have hq:(gs.zipIdx.map λq=>(q.2,q.1))[i]?=some (i,gs[i]):=by
    rw[List.getElem?_map,List.getElem?_zipIdx,List.getElem?_eq_getElem hlt];simp
   obtain⟨e1,e2,e3⟩:=hp i _ x hq hx;exact⟨gs[i],List.getElem?_eq_getElem hlt,e1,e2,e3⟩
  have hmap:m.map f=gs:=by
   apply List.ext_getElem?;intro i;rw[List.getElem?_map]
   cases hx:m[i]? with
   |none=>
    have:=List.getElem?_eq_none_iff.1 hx;rw[List.getElem?_eq_none k7];rfl
   |some x=>
    obtain⟨g,hg,e,_⟩:=hp3 i x hx;rw[hg,<-e];rfl
  have hn:m.length=n:=by rw[hml];exact h4
  refine⟨⟨some ⟨α.blk k,o,none⟩,c.inst α,m⟩,hmap,by rw[<-hn];rfl,⟨some ⟨α.blk k,o,none⟩,c.inst α,rfl,λi x hx=>?_⟩,λx hx=>?_,?_,by have:=fI h1.1;show m.length<=1000;omega⟩
  .obtain⟨g,hg,_,⟨hh,h9,e2,h10⟩,_⟩:=hp3 i x hx;refine⟨α.blk k,o,E.cells x,rfl,(hs.is k b hb).lt,λj u hu=>?_,rfl⟩;have hj:j<E.size:=by have:=(List.getElem?_eq_some_iff.1 hu).1;rwa[E.len]at this
   rw[<-e2,List.getElem?_map]at hu
   cases hv:hh[j]? with
   |none=>rw[hv]at hu;cases hu
   |some y=>
    rw[hv]at hu;cases hu;have:=h7 _ _ ((h10 j hj).trans hv);show w.cell? ⟨α.blk k,o+i*E.size+j,none⟩=_;rw[Nat.add_assoc];exact this
  .obtain⟨i,hi⟩:=List.getElem?_of_mem hx;obtain⟨_,_,_,_,e3⟩:=hp3 i x hi;exact e3
  .have h8:=fI h1.2;show m.length<=c.inst α
   cases c with
   |n q=>have h8:n<=q:=h8;show m.length<=q;omega
   |s q d=>have h8:n<=d:=h8;show m.length<=d+α.room q;omega
 .cases h
theorem polP_is(hs:Sim α s w){v:V}{p:List Mono}(h:polP s v=some p): ∃q:PolV,q.list=p/\v.inst α= .slice q.addr q.list.length q.cap/\(fC q).p (Zn w) w:=by
 obtain⟨l,h1,h2,h3,_,_,h4⟩:=bEi (E:=mM) (f:=id) (G:=λ_=>True) (γ:=Mono) hs (λcs g _ hg=>⟨g,rfl,by rw[mono_is hg];rfl,e8⟩) (show slO monoO mM.size v s=some p from h);exact⟨l,by rw[<-h1,List.map_id],h2,h3,Nat.le_trans h4 m7⟩
theorem polsP_is(hs:Sim α s w){v:V}{p:List (List Mono)}(h:polsP s v=some p): ∃q:Sl PolV,polsL q.list=p/\v.inst α= .slice q.addr q.list.length q.cap/\(oL q).p (Zn w) w:=by
 obtain⟨l,h1,h2,h3,h4,h5,h6⟩:=bEi (E:=iD) (f:=λq:PolV=>q.list) (G:=λq=>(fC q).p (Zn w) w) (γ:=List Mono) hs (λcs g hl hg=>by
  match cs,hl,hg with
  |[u],_,hg=>
   obtain⟨q,e1,e2,e3⟩:=polP_is hs hg
   exact⟨q,e1,by show [u.inst α]=[_];rw[e2],e3⟩) (show slO (one1O (polP s)) iD.size v s=some p from h)
 exact⟨l,h1,h2,⟨⟨h3,h4⟩,h5,k7⟩⟩
theorem opP_is(hs:Sim α s w){cs:List V}{o:OpC}(h:opP s cs=some o): ∃x:OpV,x.c=o/\cs.map (V.inst α)=opE.cells x/\(opF x).p (Zn w) w:=by
 unfold opP at h;split at h
 .rename_i a b c p f;obtain⟨a',ha,h⟩:=bB h;obtain⟨b',hb,h⟩:=bB h;obtain⟨c',hc,h⟩:=bB h;obtain⟨p',hp,h⟩:=bB h;obtain⟨f',hf,h⟩:=bB h;cases h;obtain⟨q,e1,e2,e3⟩:=polP_is hs hp;rw[i64_is ha,i64_is hb,i64_is hc,u8_is hf];refine⟨⟨a',b',c',q,f'⟩,by subst e1;rfl,?_,e3⟩;show [_,_,_,p.inst α,_]=_;rw[e2];rfl
 .cases h
theorem bufP_is(hs:Sim α s w){cs:List V}{o:gQ}(h:bufP s cs=some o): ∃x:jD,x.c=o/\cs.map (V.inst α)=vE.cells x/\(bufF x).p (Zn w) w:=by
 unfold bufP at h;split at h
 .rename_i a b;obtain⟨a',ha,h⟩:=bB h;obtain⟨b',hb,h⟩:=bB h;cases h;obtain⟨q,e1,e2,e3⟩:=polsP_is hs ha;rw[i64_is hb];refine⟨⟨q,b'⟩,by subst e1;rfl,?_,e3⟩;show [a.inst α,_]=_;rw[e2];rfl
 .cases h
theorem stepP_is(hs:Sim α s w){cs:List V}{o:cP}(h:stepP s cs=some o): ∃x:fW,x.c=o/\cs.map (V.inst α)=sQ.cells x/\(mG x).p (Zn w) w:=by
 unfold stepP at h;split at h
 .rename_i a b p l f t;obtain⟨a',ha,h⟩:=bB h;obtain⟨b',hb,h⟩:=bB h;obtain⟨p',hp,h⟩:=bB h;obtain⟨l',hl,h⟩:=bB h;obtain⟨f',hf,h⟩:=bB h;obtain⟨t',ht,h⟩:=bB h;cases h;obtain⟨q,e1,e2,e3⟩:=polP_is hs hp;obtain⟨r,g1,g2,g3⟩:=polsP_is hs hl;obtain⟨y,k1,k2,k3,k4,k5,k6⟩:=bEi (E:=opE) (f:=OpV.c) (G:=λx=>(opF x).p (Zn w) w) (γ:=OpC) hs (λcs g _ hg=>opP_is hs hg) (show slO (opP s) opE.size t s=some t' from ht);rw[i64_is ha,i64_is hb,u8_is hf];refine⟨⟨a',b',q,r,f',y⟩,by subst e1 g1 k1;rfl,?_,e3,g3,⟨⟨k3,k4⟩,k5,by show y.list.length*56<=140737488355328;omega⟩⟩;show [_,_,p.inst α,l.inst α,_,t.inst α]=_;rw[e2,g2,k2];rfl
 .cases h
omit [Ctx]in
theorem ints1_is{cs:List V}{g:Int}(hl:cs.length=cF.size)(hg:one1O i64O cs=some g): ∃x:Int,id x=g/\cs.map (V.inst α)=cF.cells x/\True:=by
 match cs,hl,hg with
 |[u],_,hg=>exact⟨g,rfl,by rw[i64_is (show i64O u=some g from hg)];rfl,e8⟩
theorem ints_is(hs:Sim α s w){v:V}{p:List Int}(h:intsO s v=some p): ∃q:Sl Int,q.list=p/\v.inst α= .slice q.addr q.list.length q.cap/\(bGb q).p (Zn w) w:=by
 obtain⟨l,h1,h2,h3,_,h4,h5⟩:=bEi (E:=cF) (f:=id) (G:=λ_=>True) (γ:=Int) hs (λcs g hl hg=>ints1_is hl hg) (show slO (one1O i64O) cF.size v s=some p from h);exact⟨l,by rw[<-h1,List.map_id],h2,h3,h4,k7⟩
theorem core_is(hs:Sim α s w){v:V}{c:dE}(h:coreO s v=some c): ∃x:gF,x.c=c/\v.inst α= .agg #[.int .i64 x.vars,.slice x.bufs.addr x.bufs.list.length x.bufs.cap,.slice x.steps.addr x.steps.list.length x.steps.cap,.slice x.outs.addr x.outs.list.length x.outs.cap]/\(nM x).p (Zn w) w:=by
 obtain⟨cs,rfl,h⟩:=tR h
 match cs,h with
 |[a,b,t,o],h=>
  have h:(ob (i64O a) λa=>ob (slO (bufP s) 2 b s) λb=>ob (slO (stepP s) 6 t s) λt=>ob (slO (one1O i64O) 1 o s) λo=>some (⟨a,b,t,o⟩:dE))=some c:=h;obtain⟨a',ha,h⟩:=bB h;obtain⟨b',hb,h⟩:=bB h;obtain⟨t',ht,h⟩:=bB h;obtain⟨o',ho,h⟩:=bB h;cases h;obtain⟨y,k1,k2,k3,k4,k5,k6⟩:=bEi (E:=vE) (f:=jD.c) (G:=λx=>(bufF x).p (Zn w) w) (γ:=gQ) hs (λcs g _ hg=>bufP_is hs hg) (show slO (bufP s) vE.size b s=some b' from hb);obtain⟨z,m1,m2,m3,m4,m5,m6⟩:=bEi (E:=sQ) (f:=fW.c) (G:=λx=>(mG x).p (Zn w) w) (γ:=cP) hs (λcs g _ hg=>stepP_is hs hg) (show slO (stepP s) sQ.size t s=some t' from ht);obtain⟨q,e1,e2,e3⟩:=ints_is hs ho;rw[i64_is ha];refine⟨⟨a',y,z,q⟩,by subst k1 m1 e1;rfl,?_,⟨⟨k3,k4⟩,k5,by show y.list.length*32<=140737488355328;omega⟩,⟨⟨m3,m4⟩,m5,by show z.list.length*96<=140737488355328;omega⟩,e3⟩;rw[oH];show Value.agg #[_,b.inst α,t.inst α,o.inst α]=_;rw[k2,m2,e2];rfl
end
end X
end
section
open Go.Proofs.Tryz
namespace X
open Go.RowKit Go.Proofs.Tryz
theorem own_at{w:World}{v:Value}{t:TypeId}{sz m:Nat}{cs:List Value}(hok:w.ownsRow 0 t sz v m cs)(h0:0<m): ∃g cap,v= .slice (some ⟨g,0,none⟩) m cap/\v.ownBlock=some g/\ ∀j u,cs[j]?=some u->w.cell? ⟨g,j,none⟩=some u:=by
 have h1:=hok
 rcases hok.2 with ⟨e,e0⟩|⟨g,cap,cur,e,_⟩
 .omega
 .subst e;refine⟨g,cap,rfl,rfl,λj u hj=>?_⟩;have hlt:=(List.getElem?_eq_some_iff.1 hj).1;rw[h1.1]at hlt;rw[World.ownsRow.cellAt h1 j hlt];exact hj
section
variable [Ctx] {α : As} {s s' : St} {w w' : World}
omit [Ctx]in
theorem below_of{H:List bD}{S':jF}(st:Go.Proofs.YtnfiadlonjediaaGreatDoor.St ⟨w,kV [],Zn w⟩ H S' w'):Below w.heap.size w w':=⟨st.kept.os,st.kept.tape,st.kept.output,st.kept.size,λk hk=>st.kept.block k hk λ⟨c,hc,_⟩=>by cases hc⟩
def NoneIs:Prop:= ∀o,Ctx.G 2 o-> ∃t z,o= .cells #[.int .i64 0,.int .i64 (-1)] t z
theorem none_cells(hs:Sim α s w){k:Nat}(hg:Ctx.gl 0=some k)(hG:NoneIs)(h:isKnow 2 (s.h.get k)=true):(bC.cells 0 0 [.int .i64 0,.int .i64 (-1)]).p (Zn w) w:=by
 obtain⟨o,h7,h8⟩:=know_at hs hg h;obtain⟨t,z,rfl⟩:=hG o h8;refine⟨(Array.getElem?_eq_some_iff.1 h7).1,λj u hj=>?_⟩;unfold World.cell?;rw[Nat.zero_add];dsimp only;rw[h7]
 match j,hj with
 |0,hj=>cases hj;rfl
 |1,hj=>cases hj;rfl
 |j+2,hj=>cases hj
def As.two(α:As)(n c g0 g1 c0 c1:Nat)(A0 A1:Option Addr):As:={α with blk:=λk=>if k=n then g0 else if k=n+1 then g1 else α.blk k,room:=λk=>if k=c then c0 else if k=c+1 then c1 else α.room k,place:=λk=>if k=c then A0 else if k=c+1 then A1 else α.place k}
omit [Ctx]in
theorem two_same{n c g0 g1 c0 c1:Nat}{A0 A1:Option Addr}:lT n c α (α.two n c g0 g1 c0 c1 A0 A1):=⟨λk hk=>by unfold As.two;simp only;rw[if_neg k7,if_neg k7],λk hk=>by unfold As.two;simp only;rw[if_neg k7,if_neg k7],λk hk=>by unfold As.two;simp only;rw[if_neg k7,if_neg k7]⟩
omit [Ctx]in
theorem ins_all{l:List cX}: ∀{j:Nat} {v:V},(l.flatMap insW)[j]?=some v->(v.Sc s.n s.c/\v.one=true)/\(lO.all l)[j]?=some (v.inst α):=by
 induction l with
 |nil=>intro j v h;cases h
 |cons i r ih=>
  intro j v h;rw[List.flatMap_cons]at h;have e:lO.all (i::r)=lO.cells i++lO.all r:=rfl;rw[e]
  by_cases hj:j<5
  .rw[List.getElem?_append_left (by exact hj)]at h;rw[List.getElem?_append_left (by show j<(lO.cells i).length;rw[lO.len];exact hj)]
   match j,h with
   |0,h=>cases h;exact⟨⟨⟨1,by rw[iN]⟩,rfl⟩,rfl⟩
   |1,h=>cases h;exact⟨⟨⟨1,by rw[iN]⟩,rfl⟩,rfl⟩
   |2,h=>cases h;exact⟨⟨⟨1,by rw[iN]⟩,rfl⟩,rfl⟩
   |3,h=>cases h;exact⟨⟨⟨1,by rw[iN]⟩,rfl⟩,rfl⟩
   |4,h=>cases h;exact⟨⟨⟨1,by rw[iN]⟩,rfl⟩,rfl⟩
   |j+5,_=>omega
  .rw[List.getElem?_append_right (by show 5<=j;omega)]at h;rw[List.getElem?_append_right (by rw[lO.len];show 5<=j;omega),lO.len];exact ih h
theorem gen_nil(hs:Sim α s w){mem e:Int}(hb:Below w.heap.size w w')(A0 A1:Option Addr)(c0 c1:Nat): ∃α',Value.tuple #[.agg #[.slice A0 0 c0,.int .i64 mem,.slice A1 0 c1],.int .i64 e]=(V.t [.g [.y s.c,iV mem,.y (s.c+1)],iV e]).inst α'/\Stp α s w α' {s with c:=s.c+2} w':=by
 refine⟨α.two (s.n+1) s.c 0 0 c0 c1 A0 A1,by rw[inst_t];simp[V.inst,V.instL,iV,As.two],?_⟩
 have hsame:lT s.n s.c α (α.two (s.n+1) s.c 0 0 c0 c1 A0 A1):=⟨λk hk=>by unfold As.two;simp only;rw[if_neg k7,if_neg k7],λk hk=>by unfold As.two;simp only;rw[if_neg k7,if_neg k7],λk hk=>by unfold As.two;simp only;rw[if_neg k7,if_neg k7]⟩
 refine Stp.make hs (λ_=>False) hsame (Nat.le_refl _) (by show s.c<=s.c+2;omega) hb.os hb.tape hb.output hb.size (λb h _=>hb.block b h) (λ_ h=>h.elim) (λk y hk=> .inl ⟨hk,λh=>h⟩) (λk k' y y' hk hk' e=>?_);have h1:=hs.lt k y hk;have h2:=hs.lt k' y' hk';have e1:(α.two (s.n+1) s.c 0 0 c0 c1 A0 A1).blk k=α.blk k:=(hsame.blk k h1).symm;have e2:(α.two (s.n+1) s.c 0 0 c0 c1 A0 A1).blk k'=α.blk k':=(hsame.blk k' h2).symm;rw[e1,e2]at e;exact hs.ne k k' y y' hk hk' e
theorem gen_row(hs:Sim α s w){code:List cX}{at_:List Int}{mem e:Int}{x:(Option Addr×Nat)×(Option Addr×Nat)}{S':jF}(hn1:code.length≠0)(hn2:at_.length≠0)
  (st:Go.Proofs.YtnfiadlonjediaaGreatDoor.St ⟨w,kV [],Zn w⟩ [lO.row (.slice x.1.1 code.length x.1.2) 52 code,cF.row (.slice x.2.1 at_.length x.2.2) 2 at_] S' w'):
  ∃α',Value.tuple #[.agg #[.slice x.1.1 code.length x.1.2,.int .i64 mem,.slice x.2.1 at_.length x.2.2],.int .i64 e]=(V.t [.g [.l s.n 0 code.length (.s s.c 0),iV mem,.l (s.n+1) 0 at_.length (.s (s.c+1) 0)],iV e]).inst α'/\Stp α s w α' {h:=(s.h.set (some (.win (code.flatMap insW))) fuelT s.n).set (some (.win (at_.map iV))) fuelT (s.n+1),n:=s.n+2,c:=s.c+2} w':=by
 have hb:=below_of st;have k0:w'.ownsRow 0 52 lO.size (.slice x.1.1 code.length x.1.2) code.length (lO.all code):=st.ok _ (.head _);have k1:w'.ownsRow 0 2 cF.size (.slice x.2.1 at_.length x.2.2) at_.length (cF.all at_):=st.ok _ (.tail _ (.head _));obtain⟨g0,c0,e0,b0,a0⟩:=own_at k0 (Nat.pos_of_ne_zero hn1);obtain⟨g1,c1,e1,b1,a1⟩:=own_at k1 (Nat.pos_of_ne_zero hn2);injection e0 with e01 _ e02
 injection e1 with e11 _ e12
 have o0:=st.own _ (.head _) g0 b0;have o1:=st.own _ (.tail _ (.head _)) g1 b1;have hM: ∀b,kV [] b->False:=λb ⟨c,hc,_⟩=>by cases hc
 have l0:w.heap.size<=g0:=o0.2.1.resolve_left (hM _);have l1:w.heap.size<=g1:=o1.2.1.resolve_left (hM _);have hsep:=List.pairwise_cons.1 st.sep;have n01:g0≠g1:=λe=>hsep.1 _ (.head _) g0 b0 (by rw[e];exact b1);have hsame:lT s.n s.c α (α.two s.n s.c g0 g1 c0 c1 none none):=two_same;have q0:(α.two s.n s.c g0 g1 c0 c1 none none).blk s.n=g0:=by simp[As.two]
 have q1:(α.two s.n s.c g0 g1 c0 c1 none none).blk (s.n+1)=g1:=by simp[As.two]
 have p0:(α.two s.n s.c g0 g1 c0 c1 none none).room s.c=c0:=by simp[As.two]
 have p1:(α.two s.n s.c g0 g1 c0 c1 none none).room (s.c+1)=c1:=by simp[As.two]
 have hold: ∀k x,s.h.get k=some x->(α.two s.n s.c g0 g1 c0 c1 none none).blk k=α.blk k/\α.blk k<w.heap.size:=λk x hk=>by
  have:=hs.lt k x hk;exact⟨(hsame.blk k this).symm,(hs.is k x hk).lt⟩
 refine⟨α.two s.n s.c g0 g1 c0 c1 none none,?_,?_⟩
 .rw[inst_t];simp only[V.inst,V.instL,iV,List.map_cons,List.map_nil,q0,q1,Cap.inst,p0,p1,Nat.zero_add,e01,e02,e11,e12]
 .have hsc1: ∀v∈at_.map iV,v.Sc (s.n+2) (s.c+2)/\v.one=true:=λv hv=>by
   obtain⟨z,_,rfl⟩:=List.mem_map.1 hv;exact⟨⟨1,by rw[iN];rfl⟩,rfl⟩
  have hc1: ∀(i:Nat) (v:V),(at_.map iV)[i]?=some v->w'.cell? ⟨g1,i,none⟩=some (v.inst (α.two s.n s.c g0 g1 c0 c1 none none)):=λi v hi=>by
   rw[List.getElem?_map]at hi
   cases hz:at_[i]? with
   |none=>rw[hz]at hi;cases hi
   |some z=>
    rw[hz]at hi;cases hi;have h1:=cF.all_get hz (show(cF.cells z)[0]?=some (.int .i64 z)from rfl);have h1:(cF.all at_)[i*1+0]?=some (.int .i64 z):=h1;rw[Nat.mul_one,Nat.add_zero]at h1;exact a1 i _ h1
  have hsc0: ∀v∈code.flatMap insW,v.Sc (s.n+2) (s.c+2)/\v.one=true:=λv hv=>by
   obtain⟨j,hj⟩:=List.getElem?_of_mem hv;exact(ins_all (s:={s with n:=s.n+2,c:=s.c+2}) (α:=α) hj).1
  have hc0: ∀(i:Nat) (v:V),(code.flatMap insW)[i]?=some v->w'.cell? ⟨g0,i,none⟩=some (v.inst (α.two s.n s.c g0 g1 c0 c1 none none)):=λi v hi=>a0 i _ (ins_all (s:=s) hi).2;refine Stp.make hs (λ_=>False) hsame (by show s.n<=s.n+2;omega) (by show s.c<=s.c+2;omega) hb.os hb.tape hb.output hb.size (λb h _=>hb.block b h) (λ_ h=>h.elim) (λk x hk=>?_) (λk k' x x' hk hk' e=>?_)
  .have hk:((s.h.set (some (.win (code.flatMap insW))) fuelT s.n).set (some (.win (at_.map iV))) fuelT (s.n+1)).get k=some x:=hk
   rcases gC hk with ⟨rfl,e⟩|⟨_,hk⟩
   .injection e with e
    subst e;exact .inr ⟨by show s.n+1<s.n+2;omega,hsc1,by rw[q1];exact⟨o1.1,hc1⟩,.inl (by rw[q1];exact l1)⟩
   .rcases gC hk with ⟨rfl,e⟩|⟨_,hk⟩
    .injection e with e
     subst e;exact .inr ⟨by show s.n<s.n+2;omega,hsc0,by rw[q0];exact⟨o0.1,hc0⟩,.inl (by rw[q0];exact l0)⟩
    .exact .inl ⟨hk,λh=>h⟩
  .have key: ∀k x,((s.h.set (some (.win (code.flatMap insW))) fuelT s.n).set (some (.win (at_.map iV))) fuelT (s.n+1)).get k=some x->(k=s.n\/k=s.n+1)\/ ∃z,s.h.get k=some z:=λk x hk=>by
    rcases gC hk with ⟨rfl,_⟩|⟨_,hk⟩
    .exact .inl (.inr rfl)
    .rcases gC hk with ⟨rfl,_⟩|⟨_,hk⟩
     .exact .inl (.inl rfl)
     .exact .inr ⟨x,hk⟩
   rcases key k x hk with h1|⟨z,h1⟩<;>rcases key k' x' hk' with h2|⟨z',h2⟩
   .rcases h1 with rfl|rfl<;>rcases h2 with rfl|rfl<;>simp only[q0,q1]at e<;>first|rfl|exact absurd e n01|exact absurd e.symm n01
   .obtain⟨h3,h4⟩:=hold k' z' h2;rw[h3]at e
    rcases h1 with rfl|rfl<;>simp only[q0,q1]at e<;>omega
   .obtain⟨h3,h4⟩:=hold k z h1;rw[h3]at e
    rcases h2 with rfl|rfl<;>simp only[q0,q1]at e<;>omega
   .obtain⟨h3,_⟩:=hold k z h1;obtain⟨h5,_⟩:=hold k' z' h2;rw[h3,h5]at e;exact hs.ne k k' z z' h1 h2 e
theorem gen_orc(hP:Ctx.P=prog){kN:Nat}(hg:Ctx.gl 0=some kN)(hG:NoneIs):sJ 9 (genO kN):=λargs s v s' h α w hs _=>by
 match args,h with
 |[a,b],h=>
  obtain⟨c,hc,h1⟩:=bB (show ob (coreO s a) _=some (v,s')from h);obtain⟨d,hd,h2⟩:=bB h1;obtain⟨hk,h3⟩:=bL h2;rw[genQ_eq]at h3;obtain⟨x,rfl,x2,x3⟩:=core_is hs hc;obtain⟨y,rfl,y2,y3⟩:=ints_is hs hd;refine .inr ⟨by rw[hP];exact j4 func9 _ _,?_⟩;rw[hP];have hr:=GenF_spec x y.addr y.cap y.list (by have h5:y.list.length*8<=140737488355328:=y3.2.2;omega) (Zn w) w ⟨nP.refl _ _,λc hc=>(by cases hc),λc hc=>(by cases hc),List.Pairwise.nil,λb hb=>⟨hb,.inl hb⟩⟩ (All.cons x3 (All.cons y3.1 (All.cons (none_cells hs hg hG hk) λg hg=>by cases hg)));show Calls prog _ ([a.inst α,b.inst α]:List Value).toArray w _;rw[x2,y2];refine hr.mono ?_;rintro e w' ⟨o,S',rfl,st,_⟩;refine⟨_,rfl,?_⟩;generalize qQ x.c y.list=r at h3 st⊢;unfold genV at h3;rw[cJ]at h3;split at h3
  .rename_i h4;rw[Bool.and_eq_true]at h4;have e1:r.1.code.length=0:=Nat.eq_of_beq_eq_true h4.1;have e2:r.1.at_.length=0:=Nat.eq_of_beq_eq_true h4.2;cases h3;rw[e1,e2];exact gen_nil hs (below_of st) o.1.1 o.2.1 o.1.2 o.2.2
  .obtain⟨h5,h3⟩:=bL h3;cases h3;simp only[Bool.and_eq_true,Bool.not_eq_true']at h5
   have hn1:r.1.code.length≠0:=λe=>by
    have h1:Nat.beq r.1.code.length 0=false:=h5.1;rw[e]at h1;cases h1
   have hn2:r.1.at_.length≠0:=λe=>by
    have h1:Nat.beq r.1.at_.length 0=false:=h5.2;rw[e]at h1;cases h1
   exact gen_row hs hn1 hn2 st
end
end X
end
end Go.Proofs.YtnfiadlonjediaaGreatDoor
