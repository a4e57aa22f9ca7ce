/- A part of one proof. -/
import Derived.Test.YtioekpienlhcgaaGreatDoorM6
import Derived.Test.YtioekpienlhcgaaGreatDoorShelfB
import Derived.Lib.AppendZeros
set_option maxRecDepth 100000
namespace Go.Proofs.YtioekpienlhcgaaGreatDoor
open Go.RowKit Go.Proofs.Tryz
open Value renaming slice->W3
open _root_.List renaming replicate->W4,replicate_succ->W6,length_eq_zero_iff->W7,map_toArray->O5,mem_cons_self->E8,take_append_drop->W8,take_append_of_le_length->W9,take_of_length_le->F6,drop_of_length_le->K3,nil_append->K5,take->X0,length_replicate->X1,length_take->K6,append_nil->F9,mem_singleton->K7,length->Q8,getElem?_eq_some_iff->F3,map_append->L2,length_append->F4,drop_eq_getElem_cons->K2,getElem?_map->K1,take_succ_eq_append_getElem->V8,flatten_append->X2,length_drop->N9,length_set->X4,flatMap_def->X5,cons_append->R0
open _root_.Nat renaming blt->B2,min->X6,mul_one->X7,le_refl->B0,min_le_left->X8,min_le_right->X9,min_eq_left->L3,le_trans->B1,eq_zero_or_pos->S8
open Sem renaming run_bind->G9
open Result renaming andThen_ok->H6
open IntKind renaming wrap->J5,bits->J7,signed->J6
open Op renaming equalIn->H7
open Builtin renaming zeroCells->Y0
theorem bitsMul_spec(x y:Nat)(hx:x<18446744073709551616)(hy:y<18446744073709551616):cY prog 134 [.int .u64 (x:Nat),.int .u64 (y:Nat)] [] [] (λ_:Unit=> .tuple #[.int .u64 ((x*y/18446744073709551616:Nat):Int),.int .u64 ((x*y%18446744073709551616:Nat):Int)]) (λ_=>[]) (λ_=>[]):=
 bEp λ_ w _=>Tryz.bits_Mul x y hx hy w
def mZ:PolV:=⟨none,0,[]⟩
theorem polsize:(prog.info? 40).map (·.size)=some 1:=m0
theorem madePols(m:Nat):(madeCells (W3 none 0 0).cells (m*1)).toList=bT.all (W4 m mZ):=by
 have e: ∀m,bT.all (W4 m mZ)=W4 m (.slice none 0 0):=λm=>by
  induction m with
  |zero=>rfl
  |succ m ih=>rw[W6,W6,<-ih];rfl
 rw[e];unfold madeCells;apply List.ext_getElem
 .simp
 .intro i h1 h2;simp[Value.cells,Nat.mod_one]
theorem dD.pre{β:fS}{H:List bK}{F:List Fact}{α:Type}{E:Flat α}{A:Option Addr}{xs:List α}(h:dD β H F E A xs)(r:Nat):dD β H F E A (xs.take r):=λw S s b k x a=>by
 rw[List.getElem?_take]at a;split at a
 .exact h w S s b k x a
 .cases a
section
variable {β : fS} {n : Nat} {Γ : Env} {H : List bK} {F : List Fact} {Q : Exit -> Act -> World -> Prop} {ops : Array Oper} {rest : List Oper} {o : Oper} {d : Nat}
theorem at_makePols{m:Nat}{x y:Operand}(hw:want ops Γ o=some true)(ho:o.op= .makeSlice 36 x y)(hd:o.dst=some d)(hn:B2 d n=true)
  (hx:Γ.ev x=some (k6 (m:Nat))) (hy:Γ.ev y=some (k6 (m:Nat))) (hm:m<=1000000)
  (k: ∀b,At β n ((d,.slice (some ⟨b,0,none⟩) m m)::Γ) (bT.row (.slice (some ⟨b,0,none⟩) m m) 40 (W4 m mZ)::H) F (wpList prog ops Q rest)):At β n Γ H F (wpList prog ops Q (o::rest)):=by obtain⟨i,hi,a,hs,c⟩:=bCb;exact at_make (E:=bT) hw ho hd hn hx hy underlying36 hi a hs (by rw[c];omega) (by simp[maxLen];omega) (madePols m) m9 k
theorem bOl{x y:Operand}{t':TypeId}{g c cap m q l lc s:Nat}{A:Option Addr}{xs ys:List PolV}{H':List bK}(hr:dD β H F bT A ys)(hw:want ops Γ o=some true)
  (ho:o.op= .call {callee:= .builtin .copy,args:= #[x,y],argTypes:= #[36,36]}) (hd:o.dst=some d) (hn:B2 d n=true)
  (hx:Γ.ev x=some (.slice (some ⟨g,q,none⟩) l lc)) (hm:xs.length=m) (hy:Γ.ev y=some (.slice A s c)) (hmin:ys.length=X6 s l) (hq:q+ys.length<=m) (hH:cT H (bT.row (.slice (some ⟨g,0,none⟩) m cap) t' xs) H')
  (k:At β n ((d,k6 (ys.length:Nat))::Γ) (bT.row (.slice (some ⟨g,0,none⟩) m cap) t' (xs.take q++ys++xs.drop (q+ys.length))::H') F (wpList prog ops Q rest)):At β n Γ H F (wpList prog ops Q (o::rest)):=
 lN hw λa w S f r D=>by
  have t:(bT.all ys).length=ys.length:=by rw[bT.all_length];exact X7 _
  have p:(bT.all xs).length=m:=by rw[bT.all_length,hm];exact X7 _
  have C:=r.perm hH.perm;have i:w.ownsRow 0 t' 1 (.slice (some ⟨g,0,none⟩) m cap) xs.length (bT.all xs):=r.ok _ hH.mem;rw[hm]at i
  have B:(Builtin.copy_ #[36,36] o.type #[.slice (some ⟨g,q,none⟩) l lc,.slice A s c]).run prog w= .ok (goInt ys.length) (w.setCells g q (bT.all ys)):=by
   by_cases h0:0<ys.length
   .obtain⟨b,u,rfl,G⟩:=hr.cells r D h0;have:=run_copy_cells (P:=prog) w 36 36 o.type 40 g q l lc ⟨b,u,none⟩ s c (bT.all ys) underlying36 polsize (by rw[t];exact hmin) G
     (λj J=>by
      rw[World.ownsRow.cellAt i _ l7,List.getElem?_eq_getElem (by rw[p];omega)]
      rfl) (λj _=>World.ownsRow.frozenAt i _) bT.all_one
    rwa[t]at this
   .have I:ys=[]:=W7.1 l7;subst I;exact run_copy_none (P:=prog) w _ _ o.type 40 _ A l lc s c underlying36 polsize hmin.symm
  have v:(execOp a.eval o).run prog w= .ok (.value (.int .i64 (ys.length:Nat))) (w.setCells g q (bT.all ys)):=by unfold execOp;simp only[ho,resolve,invoke,builtin,G9,Sem.run_pure,H6,O5,List.map_cons,List.map_nil,f.ev hx,f.ev hy,B];rfl
  unfold Oper.wp;rw[v,Oper.upon_value,hd];refine k _ _ S (f.put w6 _) (C.swap (qC g _ q w) rfl rfl ?_) (All.mono (λ_ h=>h) (r.agree (qC g _ q w) (λc E e=>by subst e;exact(C.own _ (E8 ..) _ rfl).2.2 E)) D);have:=vV (bT.all ys) q w (bT.all xs) i;rw[bHi _ _ _ (by rw[t,p];omega),t]at this
  have ht:(bT.all xs).take q=bT.all (xs.take q):=by
   conv=>lhs;rw[<-W8 q xs,bT.all_append]
   rw[W9 (by rw[bT.all_length];simp;show q<=_*1;omega),F6 (by rw[bT.all_length];simp;show _*1<=q;omega)]
  have z:(bT.all xs).drop (q+ys.length)=bT.all (xs.drop (q+ys.length)):=by
   conv=>lhs;rw[<-W8 (q+ys.length) xs,bT.all_append]
   have e:(bT.all (xs.take (q+ys.length))).length=q+ys.length:=by rw[bT.all_length];simp;show _*1=_;omega
   rw[List.drop_append_of_le_length l7,K3 l7,K5]
  rw[ht,z,<-bT.all_append,<-bT.all_append]at this;show World.ownsRow _ 0 t' 1 _ _ _;have e:(xs.take q++ys++xs.drop (q+ys.length)).length=m:=by simp;omega
  rw[e];exact this
end
def bXt (p:PolV)(n i:Nat)(cur:List PolV):Prop:=cur=W4 i p++W4 (n-i) mZ/\i<=n
theorem rep_len{p:PolV}{n i:Nat}{cur:List PolV}(h:bXt p n i cur):cur.length=n:=by rw[h.1];have:=h.2;simp;omega
theorem rep_first(p:PolV)(n r:Nat)(hr:r=X6 1 n):bXt p n r ((W4 n mZ).take 0++X0 r [p]++(W4 n mZ).drop (0+(X0 r [p]).length)):=by
 subst hr
 cases n with
 |zero=>exact⟨rfl,B0 _⟩
 |succ n=>
  have:X6 1 (n+1)=1:=by simp
  rw[this];exact⟨m9,l7⟩
theorem rep_step{p:PolV}{n i:Nat}{cur:List PolV}(h:bXt p n i cur)(hi:i<n):bXt p n (i+X6 i (n-i)) (cur.take i++cur.take (X6 i (n-i))++cur.drop (i+(cur.take (X6 i (n-i))).length)):=by
 obtain⟨rfl,f⟩:=h;have e:X6 i (n-i)<=i:=X8 _ _;have d:X6 i (n-i)<=n-i:=X9 _ _;generalize X6 i (n-i)=r at*
 have c:(W4 i p++W4 (n-i) mZ).take i=W4 i p:=by rw[W9 m9,F6 m9]
 have b:(W4 i p++W4 (n-i) mZ).take r=W4 r p:=by rw[W9 q9,List.take_replicate,L3 e]
 rw[c,b,X1];refine⟨?_,l7⟩
 have a:(W4 i p++W4 (n-i) mZ).drop (i+r)=W4 (n-(i+r)) mZ:=by
  rw[List.drop_append,K3 m9,X1,List.drop_replicate,K5]
  congr 1
  omega
 rw[a,List.replicate_append_replicate]
theorem rep_l1(p:PolV)(n:Nat):(X0 (X6 1 n) [p]).length=X6 1 n:=by rw[K6];exact L3 (X8 1 n)
theorem rep_l{p:PolV}{n i:Nat}{cur:List PolV}(h:bXt p n i cur):(cur.take (X6 i (n-i))).length=X6 i (n-i):=by rw[K6,rep_len h];exact L3 (B1 (X8 _ _) h.2)
theorem min1_le(n:Nat):X6 1 n<=n:=X9 _ _
theorem min1_or(n:Nat):1<=X6 1 n\/n=0:=by
 cases n with
 |zero=>exact .inr rfl
 |succ n=>exact .inl m9
theorem cutA_in{b i k cap:Nat}(h:i<cap)(hk:k=1):iS (some ⟨b,0,none⟩) i k cap=some ⟨b,i,none⟩:=by subst hk;unfold iS;rw[if_neg l7];simp[Addr.add];omega
theorem conv64{m:Nat}(h:m<9223372036854775808):IntKind.u64.wrap ((m:Nat):Int)=((m:Nat):Int):=by simp only[J5,J7,J6];simp;omega
theorem conv63{m:Nat}(h:m<9223372036854775808):IntKind.i64.wrap ((m:Nat):Int)=((m:Nat):Int):=by simp only[J5,J7,J6];simp;omega
theorem repeatP_spec(A:Option Addr)(c:Nat)(p:PolV)(n:Nat)(hn:n<=1000000):cY prog 96 [.slice A 1 c,k6 (n:Nat)] [] [bT.sl (.slice A 1 c) [p]] (λ(x:Option Addr×Nat)=> .slice x.1 n x.2) (λ(x:Option Addr×Nat)=>[bT.row (.slice x.1 n x.2) 40 (W4 n p)]) (λ_=>[]):=by
 have hT:=dK;refine j5 func96 ntmps96 ?_;intro β hM;refine g10 ?_;refine bC (t':=false) (decide_eq_false l7) ?_;refine g10 ?_;refine bJ (z':=((1:Nat):Int)) rfl ?_;refine g2 ?_;refine bJ (z':=((n:Nat):Int)) (conv64 l7) ?_;refine j2 func134 (bitsMul_spec 1 n m6 l7) i6 λ_=>?_;refine hZ (v':= .tuple #[.int .u64 ((0:Nat):Int),.int .u64 ((n:Nat):Int)]) (by rw[Nat.one_mul,Nat.div_eq_of_lt l7,Nat.mod_eq_of_lt l7]) ?_;refine g12 ?_;refine bC (t':=false) m6 ?_;refine g3 ?_;refine bC (t':=false) (decide_eq_false l7) ?_;refine g10 ?_;refine bJ (z':=((n:Nat):Int)) (conv63 l7) ?_;refine at_makePols (m:=n) rfl rfl rfl rfl rfl rfl l7 λg=>?_;refine g7 ?_;refine bOl (ys:=X0 (X6 1 n) [p]) (q:=0) (dD.pre (bG d7) _) rfl rfl rfl rfl rfl m9 rfl (rep_l1 p n) (by rw[rep_l1];have:=min1_le n;omega) .head ?_;have e:=rep_first p n _ rfl;refine bJ (z':=((X6 1 n:Nat):Int)) (congrArg Nat.cast (rep_l1 p n)) ?_;refine g5 ?_;refine cF (ι:=Nat×List PolV) [(7,_)] ⟨rfl,i6⟩ (λ⟨i,cur⟩=>[(8,.int .i64 (i:Nat))]) (λ⟨i,cur⟩=>[bT.row (.slice (some ⟨g,0,none⟩) n n) 40 cur]) (λ⟨i,cur⟩=>[Fact.pure (bXt p n i cur/\(1<=i\/n=0))]) (λ⟨i,cur⟩=>n-i) (X6 1 n,_) ⟨rfl,i6⟩ (.c0 .nil) ⟨i7 (⟨e,min1_or n⟩),i6⟩ ?_;rintro⟨i,cur⟩;dsimp only;refine bF d7 λhinv8=>?_;refine g9 ?_;refine dP (λa=>?_) λa=>?_
 .refine g3 ?_;refine cL _ _ [j9,u0,u5,u9,A00,u6,A02,A75,A03,A04] cN o0 .nil bA.self ?_;refine g3 ?_;refine stM rfl (dV hT (k:=i) rfl rfl rfl rfl rfl rfl l7) ?_;refine hZ (v':= .slice (some ⟨g,i,none⟩) (n-i) (n-i)) (by rw[cutA_in l7 rfl]) ?_;refine g2 ?_;refine stM rfl (iY hT (k:=i) rfl rfl rfl rfl rfl rfl l7) ?_;refine one ?_;refine bOl (ys:=cur.take (X6 i (n-i))) (q:=i) (dD.pre (cI .head) _) rfl rfl rfl rfl rfl (rep_len hinv8.1) rfl (rep_l hinv8.1) (by rw[rep_l hinv8.1];have:X6 i (n-i)<=n-i:=X9 _ _;omega) .head ?_;have b:=rep_step hinv8.1 l7;have d:=rep_l hinv8.1;refine bJ (z':=((X6 i (n-i):Nat):Int)) (congrArg Nat.cast d) ?_
  have h:X6 i (n-i)<=n-i/\1<=X6 i (n-i):=⟨X9 _ _,Nat.le_min.2 ⟨l7,l7⟩⟩
  refine g2 ?_;refine inc (i+(X6 i (n-i))) ?_;refine g4 ?_;exact bk2 (i+X6 i (n-i),_) ⟨i7 (⟨b,by dsimp only;omega⟩),i6⟩
 refine g12 ?_;obtain rfl:i=n:=by have:=hinv8.1.2;omega
 have f:cur=W4 i p:=by rw[hinv8.1.1,Nat.sub_self,List.replicate_zero,F9]
 subst f;exact rs1 (_,_) trivial
section
variable {P : Program} {β : fS} {n : Nat} {Γ : Env} {H : List bK} {F : List Fact}
theorem sti_fneq{o:Oper}{x:Operand}{t tt:TypeId}{ps rs:Array TypeId}{vr:Bool}(hu:P.underlying t=some (.func ps rs vr)){fn:Fn}{a b:Array Value}(ho:o.op= .binOp .eql t x (.const .nilFunc) tt)(hx:Γ.ev x=some (.func fn a b)):Sti P β n Γ H F o (.bool false):=λc w S f s k=>by
 unfold execOp;have e:c.eval (.const .nilFunc)= .nilFunc:=rfl;have he: ∀d,(H7 (d+1) t (.func fn a b) .nilFunc).run P w= .ok false w:=λd=>by simp[H7,run_underlying hu]
 have g:(binOp .eql t (.func fn a b) .nilFunc).run P w= .ok (.bool false) w:=by simp only[binOp];rw[G9,show Op.equal t (.func fn a b) .nilFunc=H7 10000 t (.func fn a b) .nilFunc from rfl,he 9999];rfl
 have hg:(eqGuard .eql t x (.const .nilFunc) (.func fn a b) .nilFunc).run P w= .ok () w:=rfl;simp only[ho,f.ev hx,e];rw[G9,G9,hg,H6,g];rfl
theorem sti_nofneq{o:Oper}{x:Operand}{t tt:TypeId}{ps rs:Array TypeId}{vr:Bool}(hu:P.underlying t=some (.func ps rs vr))(ho:o.op= .binOp .eql t x (.const .nilFunc) tt)(hx:Γ.ev x=some .nilFunc):Sti P β n Γ H F o (.bool true):=λc w S f s k=>by
 unfold execOp;have e:c.eval (.const .nilFunc)= .nilFunc:=rfl;have he: ∀d,(H7 (d+1) t .nilFunc .nilFunc).run P w= .ok true w:=λd=>by simp[H7,run_underlying hu]
 have a:(binOp .eql t .nilFunc .nilFunc).run P w= .ok (.bool true) w:=by simp only[binOp];rw[G9,show Op.equal t .nilFunc .nilFunc=H7 10000 t .nilFunc .nilFunc from rfl,he 9999];rfl
 have hg:(eqGuard .eql t x (.const .nilFunc) .nilFunc .nilFunc).run P w= .ok () w:=rfl;simp only[ho,f.ev hx,e];rw[G9,G9,hg,H6,a];rfl
end
def PolFn (f:FuncId)(op:pQ):Prop:= ∀p q:PolV,p.A.length<=140737488355328->q.A.length<=140737488355328->cY prog f [.slice p.I p.A.length p.cap,.slice q.I q.A.length q.cap] [] [kI p,kI q] (λx:Option Addr×Nat=> .tuple #[.slice x.1 (op p.A q.A).1.length x.2,.int .i64 (op p.A q.A).2]) (λ_=>[]) (λx=>[kI ⟨x.1,x.2,(op p.A q.A).1⟩])
structure bBw (a b:TyP):Prop where
 la:a.values.length<=1000000
 lb:b.values.length<=1000000
 one:a.known=true->b.known=true->a.B=[]->a.values.length=1
 two:a.known=true->b.known=true->b.B=[]->b.values.length=1
 same:a.known=true->b.known=true->a.B≠[]->b.B≠[]->a.values.length=b.values.length
theorem bJf(A:Option Addr)(c:Nat)(xs:List PolV)(p:PolV)(n:Nat)(h:xs=[p])(hn:n<=1000000):cY prog 96 [.slice A xs.length c,k6 (n:Nat)] [] [bT.sl (.slice A xs.length c) xs] (λ(x:Option Addr×Nat)=> .slice x.1 n x.2) (λ(x:Option Addr×Nat)=>[bT.row (.slice x.1 n x.2) 40 (W4 n p)]) (λ_=>[]):=by subst h;exact repeatP_spec A c p n hn
theorem bXv{F:List Fact}{p:PolV}(n:Nat){xs:List PolV}(e:xs=[p])(h:Has F (polsF xs)):Has F (polsF (W4 n p)):=λS w k q hq=>by subst e;rw[List.eq_of_mem_replicate hq];exact h S w k p (K7.2 rfl)
theorem oneP_of{xs:List PolV}(h:(bN xs).length=1): ∃p,xs=[p]:=by
 rw[bI]at h
 match xs,h with
 |[p],_=>exact⟨p,rfl⟩
theorem repL(xs:List PolV)(p:PolV)(n:Nat)(h:xs=[p]):repT (bN xs) n=bN (W4 n p):=by
 subst h;unfold repT bN
 induction n with
 |zero=>rfl
 |succ n ih=>rw[W6,W6,List.flatten_cons,ih];rfl
theorem dY{l:List PolV}(h:l.length=0):bN l=[]:=by rw[W7.1 h];rfl
theorem gI{l:List PolV}(h:0<l.length):bN l≠[]:=λe=>by have:=congrArg Q8 e;rw[bI,List.length_nil]at this;omega
def xV (op:pQ)(X Y out:List Pol)(i:Nat):Prop:=out.length=i/\xH op X Y=(xH op (X.drop i) (Y.drop i)).map (out++ ·)
theorem vS(op:pQ)(X Y:List Pol):xV op X Y [] 0:=⟨rfl,by cases h:xH op X Y<;>simp[h]⟩
section
variable {op : pQ} {X Y : List Pol} {xs ys out : List PolV} {i : Nat} {p q r : PolV}
theorem yR(h:xV op (bN xs) (bN ys) (bN out) i)(hp:xs[i]?=some p)(hq:ys[i]?=some q)(hr:r.A=(op p.A q.A).1)(h0:(op p.A q.A).2=0):xV op (bN xs) (bN ys) (bN (out++[r])) (i+1):=by
 obtain⟨b,h⟩:=h;obtain⟨hi,e⟩:=F3.1 (jX hp);obtain⟨c,d⟩:=F3.1 (jX hq);have a:bN (out++[r])=bN out++[(op p.A q.A).1]:=by unfold bN;rw[L2,List.map_singleton,hr]
 refine⟨by rw[a,F4,b];rfl,?_⟩;rw[h,K2 hi,K2 c,e,d,a];show Option.map _ (if (op p.A q.A).2≠0 then none else _)=_;rw[if_neg (by simpa using h0),Option.map_map]
 congr 1
 funext l
 simp
theorem bCm(h:xV op (bN xs) (bN ys) (bN out) i)(hp:xs[i]?=some p)(hq:ys[i]?=some q)(h0:(op p.A q.A).2≠0):xH op (bN xs) (bN ys)=none:=by obtain⟨d,h⟩:=h;obtain⟨hi,c⟩:=F3.1 (jX hp);obtain⟨a,b⟩:=F3.1 (jX hq);rw[h,K2 hi,K2 a,c,b];show Option.map _ (if (op p.A q.A).2≠0 then none else _)=_;rw[if_pos h0];rfl
theorem bDf(h:xV op (bN xs) (bN ys) (bN out) i)(hi:xs.length<=i):xH op (bN xs) (bN ys)=some (bN out):=by obtain⟨a,h⟩:=h;rw[h,K3 am4];show some (bN out++[])=_;rw[F9]
theorem sU{a b:TyP}(h:xH op (tR a b) (qV a b)=some X)(ha:a.known=true)(hb:b.known=true):lK (some op) a b=(X,true):=by show(if _ then _ else _)=_;rw[if_neg (by rw[ha,hb];simp),h]
theorem sT{a b:TyP}(h:xH op (tR a b) (qV a b)=none)(ha:a.known=true)(hb:b.known=true):lK (some op) a b=([],false):=by show(if _ then _ else _)=_;rw[if_neg (by rw[ha,hb];simp),h]
theorem bEh{a b:TyP}(h:a.known=false\/b.known=false):lK (some op) a b=([],false):=if_pos h
end
theorem left_rep{a b:TyV}{p:PolV}(h:a.values.A=[p])(ha:a.B.A.length=0)(hb:0<b.B.A.length):tR a.t b.t=bN (W4 b.values.A.length p)/\qV a.t b.t=bN b.values.A:=by
 constructor
 .unfold tR;rw[if_pos ⟨dY ha,gI hb⟩,<-repL _ p _ h];show repT _ (bN b.values.A).length=_;rw[bI];rfl
 .unfold qV;rw[if_neg (λk=>gI hb k.1)];rfl
theorem bXw{a b:TyV}{p:PolV}(h:b.values.A=[p])(hb:b.B.A.length=0)(ha:0<a.B.A.length):tR a.t b.t=bN a.values.A/\qV a.t b.t=bN (W4 a.values.A.length p):=by
 constructor
 .unfold tR;rw[if_neg (λk=>gI ha k.1)];rfl
 .unfold qV;rw[if_pos ⟨dY hb,gI ha⟩,<-repL _ p _ h];show repT _ (bN a.values.A).length=_;rw[bI];rfl
theorem bSg{a b:TyV}(h:a.B.A.length=0/\b.B.A.length=0\/0<a.B.A.length/\0<b.B.A.length):tR a.t b.t=bN a.values.A/\qV a.t b.t=bN b.values.A:=by
 constructor
 .unfold tR;rw[if_neg]
  .rfl
  .rintro⟨k,l⟩
   rcases h with h|h
   .exact l (dY h.2)
   .exact gI h.1 k
 .unfold qV;rw[if_neg]
  .rfl
  .rintro⟨k,l⟩
   rcases h with h|h
   .exact l (dY h.1)
   .exact gI h.2 k
theorem bIi{a:TyV}(h:a.t.values.length=1): ∃p,a.values.A=[p]:=oneP_of h
theorem bLf{a b:TyV}(h:bBw a.t b.t)(ha:a.known=true)(hb:b.known=true)(hs:a.B.A.length=0/\b.B.A.length=0\/0<a.B.A.length/\0<b.B.A.length):a.values.A.length=b.values.A.length:=by
 have e:(bN a.values.A).length=(bN b.values.A).length:=by
  rcases hs with hs|hs
  .exact(h.one ha hb (dY hs.1)).trans (h.two ha hb (dY hs.2)).symm
  .exact h.same ha hb (gI hs.1) (gI hs.2)
 rwa[bI,bI]at e
structure EachV where
 l:Sl PolV
 k:Bool
theorem bHm(a b:TyV):cY prog 57 [.nilFunc,.agg #[j8 a.B,.bool a.known,j8 a.values],.agg #[j8 b.B,.bool b.known,j8 b.values]] [] [] (λ(x:EachV)=> .tuple #[j8 x.l,.bool x.k]) (λ_=>[]) (λ(x:EachV)=>[cM x.l,Fact.pure ((bN x.l.A,x.k)=lK none a.t b.t)]):=by have hT:=dK;refine j5 func57 ntmps57 ?_;intro β hM;refine g2 ?_;refine j4 λd=>?_;refine j4 λc=>?_;refine g8 ?_;refine ss (sti_nofneq underlying123 rfl rfl) ?_;refine g21 ?_;exact rs2 (⟨⟨none,0,[]⟩,false⟩:EachV) ⟨bO,i7 (rfl),i6⟩
theorem lI(f:FuncId)(op:pQ)(hcf: ∀(args:Array Value) (w:World),(callFunc f args).run prog w= .ok (.enter f args) w)(hf:PolFn f op)(a b:TyV)(hab:bBw a.t b.t):cY prog 57 [.func (.func f) #[] #[],.agg #[j8 a.B,.bool a.known,j8 a.values],.agg #[j8 b.B,.bool b.known,j8 b.values]] [] [tyF a,tyF b] (λ(x:EachV)=> .tuple #[j8 x.l,.bool x.k]) (λ_=>[]) (λ(x:EachV)=>[cM x.l,Fact.pure ((bN x.l.A,x.k)=lK (some op) a.t b.t)]):=by
 have hT:=dK;have hla:a.values.A.length<=1000000:=by have:=hab.la;unfold TyV.t at this;rwa[bI]at this
 have hlb:b.values.A.length<=1000000:=by have:=hab.lb;unfold TyV.t at this;rwa[bI]at this
 refine j5 func57 ntmps57 ?_;intro β hM;refine bP<|bB (cM a.B) (jR d7) ?_;refine cE a.B mT0 λY=>bB (cM a.values) (jS e6)<|cE a.values mT0 λX=>bB (cM b.B) (jR f3)<|cE b.B mT0 λhc_bs=>bB (cM b.values) (jS f7)<|cE b.values mT0 λW=>?_;refine one ?_;refine j4 λb1=>?_;refine j4 λb2=>?_;refine g8 ?_;refine ss (sti_fneq underlying123 rfl rfl) ?_;refine g6 ?_;refine bTi (λL=>?_) λL=>?_
 .refine g15 ?_;exact rs2 (⟨⟨none,0,[]⟩,false⟩:EachV) ⟨bO,i7 ((bEh (by show a.known=false\/b.known=false;simp_all)).symm),i6⟩
 have d:=L;refine g6 ?_;refine iQ (λM=>?_) λM=>?_
 .refine g8 ?_;exact rs2 (⟨⟨none,0,[]⟩,false⟩:EachV) ⟨bO,i7 ((bEh (by show a.known=false\/b.known=false;simp_all)).symm),i6⟩
 have c:=M;refine g3 ?_;refine cL _ _ [j9,u0,u5,u9,A00,u6] cN o0 (.c0 (.c0 .nil)) bA.self ?_;refine g10 ?_
 rcases S8 a.B.A.length with u|u<;>rcases S8 b.B.A.length with s|s
 .have hlr:=bSg (a:=a) (b:=b) (.inl ⟨u,s⟩);have U:=bLf hab d c (.inl ⟨u,s⟩);refine g5 ?_;refine bC (t':=true) (decide_eq_true l7) ?_;refine g5 ?_;refine bC (t':=false) (decide_eq_false l7) ?_;refine g13 ?_;refine bC (t':=true) (decide_eq_true l7) ?_;refine g5 ?_;refine bC (t':=false) (decide_eq_false l7) ?_;refine g20 ?_;refine bQ (t:=40) bT<|bB (polsF []) (Has.each_nil) ?_;have N:a.values.A.length=b.values.A.length:=by first|(simp;done)|(simp;omega)|omega
  have P:a.values.A.length=a.values.A.length:=by first|rfl|simp
  have O:a.values.A.length<=1000000:=l7
  refine cF (ι:=Nat×List PolV×Option Addr×Nat) [(0,_),(8,_),(9,_),(59,_)] ⟨rfl,rfl,rfl,rfl,i6⟩ (λ⟨i,vs,V,cv⟩=>[(10,.slice V vs.length cv),(60,.int .i64 (i:Nat))]) (λ⟨i,vs,V,cv⟩=>[bT.row (.slice V vs.length cv) 40 vs]) (λ⟨i,vs,V,cv⟩=>[Fact.pure (i<=a.values.A.length/\xV op (bN a.values.A) (bN b.values.A) (bN vs) i),polsF vs]) (λ⟨i,vs,V,cv⟩=>a.values.A.length-i) (0,[],none,0) ⟨rfl,rfl,i6⟩ (.c0 .nil) ⟨i7 (⟨l7,vS op _ _⟩),d7,i6⟩ ?_;rintro⟨i,vs,V,cv⟩;dsimp only;refine bF d7 λhinv10=>?_;have v:=hinv10.2.1;rw[bI]at v;refine g6 ?_;refine dP (λg=>?_) λg=>?_
  .refine g11 ?_;refine cL _ _ [j9,u0,u5,u9,A00,u6,A02,A01,A03,(false,9),A08,A07,A09,A24,A61] cN o0 (.c0 (.c0 (.c0 .nil))) bA.self ?_;refine g3 ?_;obtain⟨x3,B⟩:=gx a.values.A i;refine stM rfl (ixs i) ?_;refine stM rfl (fG B 0) ?_;refine g2 ?_;obtain⟨R,A⟩:=gx b.values.A i;refine stM rfl (ixs i) ?_;refine stM rfl (fG A 0) ?_;refine one ?_;refine bF (dC (Has.each f6 (j0 B))) λhpl=>bF (dC (Has.each e6 (j0 A))) λy=>?_;refine jA hcf (hf x3 R hpl y) rfl rfl rfl rfl rfl rfl rfl .nil ⟨(Has.each f6 (j0 B)),(Has.each e6 (j0 A)),i6⟩ λ⟨A7,c8⟩=>?_;refine g15 ?_;refine uD (λe=>?_) λe=>?_
   .refine g13 ?_;exact rs2 (⟨⟨none,0,[]⟩,false⟩:EachV) ⟨bO,i7 ((sT (by rw[hlr.1,hlr.2];exact bCm hinv10.2 B A ‹_›) d c).symm),i6⟩
   refine g5 ?_;refine j7 (m:=⟨A7,c8,(op x3.A R.A).1⟩) λb9=>?_;refine bB (polsF (vs++[(⟨A7,c8,(op x3.A R.A).1⟩:PolV)])) (Has.each_snoc d9 d7) ?_;refine cU kT1 (bU .head rfl) rfl rfl rfl rfl rfl rfl rfl q9 λA10 c11=>?_;refine g6 ?_;refine inc (i+1) ?_;refine g3 ?_;exact bk2 (i+1,vs++[(⟨A7,c8,(op x3.A R.A).1⟩:PolV)],A10,c11) ⟨i7 (⟨by dsimp only;omega,yR hinv10.2 B A rfl ae6⟩),d7,i6⟩
  refine g13 ?_;refine fW .head λz=>bR .head ?_;exact rs2 (⟨⟨V,cv,vs⟩,true⟩:EachV) ⟨cB d7 d9 z,i7 ((sU af8 d c).symm),i6⟩
 .have C:=hab.one d c (dY u);obtain⟨p,Q⟩:=bIi C;have hlr:=left_rep (b:=b) Q u s;refine g5 ?_;refine bC (t':=true) (decide_eq_true l7) ?_;refine g5 ?_;refine bC (t':=true) (decide_eq_true l7) ?_;refine g8 ?_;refine bD func96 (bJf a.values.I a.values.cap a.values.A p _ Q l7) rfl rfl .nil ⟨f3,i6⟩ λ⟨A12,c13⟩=>?_;refine bR .head<|bB (polsF (W4 b.values.A.length p)) (bXv _ Q f3) ?_;refine g10 ?_;refine bC (t':=false) (decide_eq_false l7) ?_;refine g25 ?_;refine bQ (t:=40) bT<|bB (polsF []) (Has.each_nil) ?_;have N:(W4 b.values.A.length p).length=b.values.A.length:=by first|(simp;done)|(simp;omega)|omega
  have P:(W4 b.values.A.length p).length=b.values.A.length:=by first|rfl|simp
  have O:(W4 b.values.A.length p).length<=1000000:=l7
  refine cF (ι:=Nat×List PolV×Option Addr×Nat) [(0,_),(8,_),(9,_),(59,_)] ⟨rfl,rfl,rfl,rfl,i6⟩ (λ⟨i,vs,V,cv⟩=>[(10,.slice V vs.length cv),(60,.int .i64 (i:Nat))]) (λ⟨i,vs,V,cv⟩=>[bT.row (.slice V vs.length cv) 40 vs]) (λ⟨i,vs,V,cv⟩=>[Fact.pure (i<=b.values.A.length/\xV op (bN (W4 b.values.A.length p)) (bN b.values.A) (bN vs) i),polsF vs]) (λ⟨i,vs,V,cv⟩=>b.values.A.length-i) (0,[],none,0) ⟨rfl,rfl,i6⟩ (.c0 .nil) ⟨i7 (⟨l7,vS op _ _⟩),d7,i6⟩ ?_;rintro⟨i,vs,V,cv⟩;dsimp only;refine bF d7 λhinv10=>?_;have v:=hinv10.2.1;rw[bI]at v;refine g6 ?_;refine dP (λg=>?_) λg=>?_
  .refine g11 ?_;refine cL _ _ [j9,u0,u5,u9,A00,u6,A02,A01,A03,(false,9),A08,A07,A09,A24,A61] cN o0 (.c0 (.c0 (.c0 .nil))) bA.self ?_;refine g3 ?_;obtain⟨K,r⟩:=gx (W4 b.values.A.length p) i q9;refine stM rfl (cA hT (k:=i) (bG e7) rfl rfl rfl rfl rfl m9 rfl q9) ?_;refine stM rfl (fG r 0) ?_;refine g2 ?_;obtain⟨J,q⟩:=gx b.values.A i;refine stM rfl (ixs i) ?_;refine stM rfl (fG q 0) ?_;refine one ?_;refine bF (dC (Has.each e6 (j0 r))) λhpl=>bF (dC (Has.each e8 (j0 q))) λy=>?_;refine jA hcf (hf K J hpl y) rfl rfl rfl rfl rfl rfl rfl .nil ⟨(Has.each e6 (j0 r)),(Has.each e8 (j0 q)),i6⟩ λ⟨A18,c19⟩=>?_;refine g15 ?_;refine uD (λe=>?_) λe=>?_
   .refine g13 ?_;exact rs2 (⟨⟨none,0,[]⟩,false⟩:EachV) ⟨bO,i7 ((sT (by rw[hlr.1,hlr.2];exact bCm hinv10.2 r q ‹_›) d c).symm),i6⟩
   refine g5 ?_;refine j7 (m:=⟨A18,c19,(op K.A J.A).1⟩) λb20=>?_;refine bB (polsF (vs++[(⟨A18,c19,(op K.A J.A).1⟩:PolV)])) (Has.each_snoc d9 d7) ?_;refine cU kT1 (bU .head rfl) rfl rfl rfl rfl rfl rfl rfl q9 λA21 c22=>?_;refine g6 ?_;refine inc (i+1) ?_;refine g3 ?_;exact bk2 (i+1,vs++[(⟨A18,c19,(op K.A J.A).1⟩:PolV)],A21,c22) ⟨i7 (⟨by dsimp only;omega,yR hinv10.2 r q rfl ae6⟩),d7,i6⟩
  refine g13 ?_;refine fW .head λz=>bR .head ?_;exact rs2 (⟨⟨V,cv,vs⟩,true⟩:EachV) ⟨cB d7 d9 z,i7 ((sU af8 d c).symm),i6⟩
 .have C:=hab.two d c (dY s);obtain⟨p,Q⟩:=bIi C;have hlr:=bXw (a:=a) Q s u;refine g5 ?_;refine bC (t':=false) (decide_eq_false l7) ?_;refine g18 ?_;refine bC (t':=true) (decide_eq_true l7) ?_;refine g5 ?_;refine bC (t':=true) (decide_eq_true l7) ?_;refine g8 ?_;refine bD func96 (bJf b.values.I b.values.cap b.values.A p _ Q l7) rfl rfl .nil ⟨d8,i6⟩ λ⟨A23,c24⟩=>?_;refine bR .head<|bB (polsF (W4 a.values.A.length p)) (bXv _ Q d8) ?_;refine g17 ?_;refine bQ (t:=40) bT<|bB (polsF []) (Has.each_nil) ?_;have N:a.values.A.length=(W4 a.values.A.length p).length:=by first|(simp;done)|(simp;omega)|omega
  have P:a.values.A.length=a.values.A.length:=by first|rfl|simp
  have O:a.values.A.length<=1000000:=l7
  refine cF (ι:=Nat×List PolV×Option Addr×Nat) [(0,_),(8,_),(9,_),(59,_)] ⟨rfl,rfl,rfl,rfl,i6⟩ (λ⟨i,vs,V,cv⟩=>[(10,.slice V vs.length cv),(60,.int .i64 (i:Nat))]) (λ⟨i,vs,V,cv⟩=>[bT.row (.slice V vs.length cv) 40 vs]) (λ⟨i,vs,V,cv⟩=>[Fact.pure (i<=a.values.A.length/\xV op (bN a.values.A) (bN (W4 a.values.A.length p)) (bN vs) i),polsF vs]) (λ⟨i,vs,V,cv⟩=>a.values.A.length-i) (0,[],none,0) ⟨rfl,rfl,i6⟩ (.c0 .nil) ⟨i7 (⟨l7,vS op _ _⟩),d7,i6⟩ ?_;rintro⟨i,vs,V,cv⟩;dsimp only;refine bF d7 λhinv10=>?_;have v:=hinv10.2.1;rw[bI]at v;refine g6 ?_;refine dP (λg=>?_) λg=>?_
  .refine g11 ?_;refine cL _ _ [j9,u0,u5,u9,A00,u6,A02,A01,A03,(false,9),A08,A07,A09,A24,A61] cN o0 (.c0 (.c0 (.c0 .nil))) bA.self ?_;refine g3 ?_;obtain⟨I,o⟩:=gx a.values.A i;refine stM rfl (ixs i) ?_;refine stM rfl (fG o 0) ?_;refine g2 ?_;obtain⟨G,n⟩:=gx (W4 a.values.A.length p) i q9;refine stM rfl (cA hT (k:=i) (bG e7) rfl rfl rfl rfl rfl m9 rfl q9) ?_;refine stM rfl (fG n 0) ?_;refine one ?_;refine bF (dC (Has.each f8 (j0 o))) λhpl=>bF (dC (Has.each e6 (j0 n))) λy=>?_;refine jA hcf (hf I G hpl y) rfl rfl rfl rfl rfl rfl rfl .nil ⟨(Has.each f8 (j0 o)),(Has.each e6 (j0 n)),i6⟩ λ⟨A29,c30⟩=>?_;refine g15 ?_;refine uD (λe=>?_) λe=>?_
   .refine g13 ?_;exact rs2 (⟨⟨none,0,[]⟩,false⟩:EachV) ⟨bO,i7 ((sT (by rw[hlr.1,hlr.2];exact bCm hinv10.2 o n ‹_›) d c).symm),i6⟩
   refine g5 ?_;refine j7 (m:=⟨A29,c30,(op I.A G.A).1⟩) λb31=>?_;refine bB (polsF (vs++[(⟨A29,c30,(op I.A G.A).1⟩:PolV)])) (Has.each_snoc d9 d7) ?_;refine cU kT1 (bU .head rfl) rfl rfl rfl rfl rfl rfl rfl q9 λA32 c33=>?_;refine g6 ?_;refine inc (i+1) ?_;refine g3 ?_;exact bk2 (i+1,vs++[(⟨A29,c30,(op I.A G.A).1⟩:PolV)],A32,c33) ⟨i7 (⟨by dsimp only;omega,yR hinv10.2 o n rfl ae6⟩),d7,i6⟩
  refine g13 ?_;refine fW .head λz=>bR .head ?_;exact rs2 (⟨⟨V,cv,vs⟩,true⟩:EachV) ⟨cB d7 d9 z,i7 ((sU af8 d c).symm),i6⟩
 have hlr:=bSg (a:=a) (b:=b) (.inr ⟨u,s⟩);have U:=bLf hab d c (.inr ⟨u,s⟩);refine g5 ?_;refine bC (t':=false) (decide_eq_false l7) ?_;refine g18 ?_;refine bC (t':=false) (decide_eq_false l7) ?_;refine g25 ?_;refine bQ (t:=40) bT<|bB (polsF []) (Has.each_nil) ?_;have N:a.values.A.length=b.values.A.length:=by first|(simp;done)|(simp;omega)|omega
 have P:a.values.A.length=a.values.A.length:=by first|rfl|simp
 have O:a.values.A.length<=1000000:=l7
 refine cF (ι:=Nat×List PolV×Option Addr×Nat) [(0,_),(8,_),(9,_),(59,_)] ⟨rfl,rfl,rfl,rfl,i6⟩ (λ⟨i,vs,V,cv⟩=>[(10,.slice V vs.length cv),(60,.int .i64 (i:Nat))]) (λ⟨i,vs,V,cv⟩=>[bT.row (.slice V vs.length cv) 40 vs]) (λ⟨i,vs,V,cv⟩=>[Fact.pure (i<=a.values.A.length/\xV op (bN a.values.A) (bN b.values.A) (bN vs) i),polsF vs]) (λ⟨i,vs,V,cv⟩=>a.values.A.length-i) (0,[],none,0) ⟨rfl,rfl,i6⟩ (.c0 .nil) ⟨i7 (⟨l7,vS op _ _⟩),d7,i6⟩ ?_;rintro⟨i,vs,V,cv⟩;dsimp only;refine bF d7 λhinv10=>?_;have v:=hinv10.2.1;rw[bI]at v;refine g6 ?_;refine dP (λg=>?_) λg=>?_
 .refine g11 ?_;refine cL _ _ [j9,u0,u5,u9,A00,u6,A02,A01,A03,(false,9),A08,A07,A09,A24,A61] cN o0 (.c0 (.c0 (.c0 .nil))) bA.self ?_;refine g3 ?_;obtain⟨E,j⟩:=gx a.values.A i;refine stM rfl (ixs i) ?_;refine stM rfl (fG j 0) ?_;refine g2 ?_;obtain⟨D,h⟩:=gx b.values.A i;refine stM rfl (ixs i) ?_;refine stM rfl (fG h 0) ?_;refine one ?_;refine bF (dC (Has.each f6 (j0 j))) λhpl=>bF (dC (Has.each e6 (j0 h))) λy=>?_;refine jA hcf (hf E D hpl y) rfl rfl rfl rfl rfl rfl rfl .nil ⟨(Has.each f6 (j0 j)),(Has.each e6 (j0 h)),i6⟩ λ⟨A38,c39⟩=>?_;refine g15 ?_;refine uD (λe=>?_) λe=>?_
  .refine g13 ?_;exact rs2 (⟨⟨none,0,[]⟩,false⟩:EachV) ⟨bO,i7 ((sT (by rw[hlr.1,hlr.2];exact bCm hinv10.2 j h ‹_›) d c).symm),i6⟩
  refine g5 ?_;refine j7 (m:=⟨A38,c39,(op E.A D.A).1⟩) λb40=>?_;refine bB (polsF (vs++[(⟨A38,c39,(op E.A D.A).1⟩:PolV)])) (Has.each_snoc d9 d7) ?_;refine cU kT1 (bU .head rfl) rfl rfl rfl rfl rfl rfl rfl q9 λA41 Z=>?_;refine g6 ?_;refine inc (i+1) ?_;refine g3 ?_;exact bk2 (i+1,vs++[(⟨A38,c39,(op E.A D.A).1⟩:PolV)],A41,Z) ⟨i7 (⟨by dsimp only;omega,yR hinv10.2 j h rfl ae6⟩),d7,i6⟩
 refine g13 ?_;refine fW .head λz=>bR .head ?_;exact rs2 (⟨⟨V,cv,vs⟩,true⟩:EachV) ⟨cB d7 d9 z,i7 ((sU af8 d c).symm),i6⟩
section
variable {P : Program} {β : fS} {n : Nat} {Γ : Env} {H H' : List bK} {F : List Fact} {K : Act -> World -> Prop}
theorem pR.self: ∀(R H2:List bK),pR (R++H2) R H2
 |[],_=> .nil
 |_::R,H2=> .c0 (pR.self R H2)
end
theorem lE{α:Type}{l:List α}{i:Nat}{x:α}(h:l[i]?=some x):l.drop i=x::l.drop (i+1):=by obtain⟨a,e⟩:=F3.1 h;rw[K2 a,e]
theorem qK{α:Type}{l:List α}{i:Nat}(h:l.length<=i):l.drop i=[]:=List.drop_eq_nil_iff.2 h
theorem tJ{α β:Type}{f:α->β}{l:List α}{i:Nat}{x:α}(h:l[i]?=some x):(l.map f)[i]?=some (f x):=by rw[K1,h];rfl
section
variable {P : Program} {β : fS} {n : Nat} {Γ : Env} {H : List bK} {F : List Fact} {o : Oper} {x : Operand} {t e : TypeId}
theorem sti_cap{A:Option Addr}{l c:Nat}(ht:P.underlying t=some (.slice e))(ho:o.op= .call ⟨.builtin .cap,#[x],#[t]⟩)(hx:Γ.ev x=some (.slice A l c)):Sti P β n Γ H F o (k6 (c:Nat)):=λa w S f s k=>by unfold execOp;simp[ho,resolve,invoke,builtin,Builtin.cap_,f.ev hx,run_underlying ht,goInt]
end
theorem bBh(w:World)(o:Obj){k:Nat}(h:k<w.heap.size):(w.alloc o).heap[k]?=w.heap[k]?:=(bHc w o).block k h λe=>e
def bCd:Flat (Sl PolV):=slE PolV
theorem polssInfo: ∃i:TypeInfo,prog.info? 36=some i/\i.zero=some (.slice none 0 0)/\i.size=1/\i.bytes=24:=by
 have h:(prog.info? 36).map (λi=>(i.zero,i.size,i.bytes))=some (some (.slice none 0 0),1,24):=m0
 cases hi:prog.info? 36 with
 |none=>simp[hi]at h
 |some i=>simp[hi]at h;exact⟨i,rfl,h.1,h.2.1,h.2.2⟩
theorem zeros_pol(m:Nat):(Y0 (W3 none 0 0).cells m).toList=bT.all (W4 m mZ):=madePols m
theorem bSl{α:Type}{L:List (List α)}{i:Nat}{l:List α}(h:L[i]?=some l):(L.take i).flatten++l=(L.take (i+1)).flatten:=by obtain⟨hi,e⟩:=F3.1 h;rw[V8 hi,e,X2];simp
theorem bQh{α:Type}{L:List (List α)}(i:Nat):(L.take i).flatten.length<=L.flatten.length:=by
 conv=>rhs;rw[<-W8 i L]
 rw[X2,F4];omega
theorem bWr{β:fS}{n:Nat}{Γ:Env}{H:List bK}{F:List Fact}{Q:Exit->Act->World->Prop}{ops:Array Oper}{rest:List Oper}{o:Oper}{d m:Nat}{x y:Operand}(hw:want ops Γ o=some true)(ho:o.op= .call {callee:= .builtin .append,args:= #[x,y],argTypes:= #[36,3]})(hd:o.dst=some d)(hn:B2 d n=true)
  (hx:Γ.ev x=some (.slice none 0 0)) (hy:Γ.ev y=some (k6 (m:Nat))) (h0:0<m) (hm:m<=1000000)
  (k: ∀A' cap',At β n ((d,.slice A' (W4 m mZ).length cap')::Γ) (bT.row (.slice A' (W4 m mZ).length cap') 40 (W4 m mZ)::H) F (wpList prog ops Q rest)):At β n Γ H F (wpList prog ops Q (o::rest)):=by
 obtain⟨i,hi,A,hs,q⟩:=bCb;refine bQ (t:=40) bT ?_;refine lN hw λa w S f s C=>?_;have c:=Lib.run_append_nil_zeros (P:=prog) w 36 3 o.type 40 i (.slice none 0 0) .i64 .i64 underlying36 underlying3 hi A m h0 l7 l7 (by rw[q];omega)
 have g:(execOp a.eval o).run prog w= .ok (.value (.slice (some ⟨w.heap.size,0,none⟩) m (grownCap w m 0 40))) (w.drew.alloc (.cells (Y0 (W3 none 0 0).cells m++Y0 (W3 none 0 0).cells (grownCap w m 0 40-m)) 40)):=by unfold execOp;simp only[ho,resolve,invoke,builtin,G9,Sem.run_pure,H6,O5,List.map_cons,List.map_nil,f.ev hx,f.ev hy,c]
 have r:m<=maxLen:=by simp only[maxLen];omega
 have l:=grownCap_ge w m 0 40;have p:=grownCap_le_maxLen w m 0 40 r;have j:(W4 m mZ).length=m:=X1;unfold Oper.wp;rw[g,Oper.upon_value,hd];have v:=k (some ⟨w.heap.size,0,none⟩) (grownCap w m 0 40);rw[j]at v;refine v _ _ S (f.put w6 _) ?_ ?_
 .refine s.swap_row (v':= .slice (some ⟨w.heap.size,0,none⟩) m (grownCap w m 0 40)) (qU ⟨rfl,rfl,rfl,m9,λk B _=>bBh w.drew _ B⟩) (.inr rfl) ?_;show World.ownsRow _ 0 40 bT.size _ (W4 m mZ).length (bT.all (W4 m mZ));rw[j];have z:(bT.all (W4 m mZ)).length=m:=by rw[bT.all_length,j];exact X7 m
  have u:bT.size=1:=rfl;refine⟨by rw[z,u];omega,.inr ⟨w.heap.size,_,_,rfl,Nat.zero_le _,heap_alloc_new w.drew _,l,p,?_,?_⟩⟩
  .have e:(W3 none 0 0).cells.size=1:=rfl;simp only[Array.size_append,size_zeroCells,e,u];omega
  .have D:(Y0 (W3 none 0 0).cells m).toList=bT.all (W4 m mZ):=zeros_pol m;rw[Array.toList_append,D];have:m*bT.size=(bT.all (W4 m mZ)).length:=by rw[z,u];omega
   rw[this];exact List.take_left
 .exact All.mono (w:=w) (λ_ h=>h) (λb q=>bBh w.drew _ (s.W b q).1) C
theorem sF{β:fS}{n:Nat}{Γ:Env}{H:List bK}{F:List Fact}{Q:Exit->Act->World->Prop}{ops:Array Oper}{rest:List Oper}{o:Oper}{d:Nat}{x y:Operand}{u v:Sl PolV}(hw:want ops Γ o=some true)(ho:o.op= .buildSlice 128 2 #[(0,x),(1,y)])(hd:o.dst=some d)(hn:B2 d n=true)
  (hx:Γ.ev x=some (j8 u)) (hy:Γ.ev y=some (j8 v)) (k: ∀b,At β n ((d,.slice (some ⟨b,0,none⟩) 2 2)::Γ) (.obj b (.cells (bCd.all [u,v]).toArray 36)::H) F (wpList prog ops Q rest)):At β n Γ H F (wpList prog ops Q (o::rest)):=by
 obtain⟨i,hi,c,hs,_⟩:=polssInfo;refine bDh (m:=2) hw ho hd hn (λa w f=>?_) k
 have:=run_buildSlice (P:=prog) w 128 36 2 #[(0,a.eval x),(1,a.eval y)] (bCd.all [u,v]).toArray i (.slice none 0 0) underlying128 hi c l7 l7 (by
  rw[f.ev hx,f.ev hy,hs]
  kernel_rfl)
 simpa using this
theorem iE{F:List Fact}{xs ys:List PolV}(h:Has F (polsF xs))(k:Has F (polsF ys)):Has F (polsF (xs++ys)):=λS w q x hx=>by
 rcases List.mem_append.1 hx with hx|hx
 .exact h S w q x hx
 .exact k S w q x hx
theorem growP_spec(n:Nat)(hn:n<=1000000):cY prog 64 [.slice none 0 0,k6 (n:Nat)] [] [] (λ(x:Option Addr×Nat)=> .slice x.1 0 x.2) (λ(x:Option Addr×Nat)=>[bT.row (.slice x.1 0 x.2) 40 []]) (λ_=>[]):=by
 have hT:=dK;refine j5 func64 ntmps64 ?_;intro β hM;refine g10 ?_;refine bC (t':=false) (decide_eq_false l7) ?_;refine g10 ?_;refine ss (sti_cap underlying36 rfl rfl) ?_;refine g3 ?_;refine bJ (z':=((0:Nat):Int)) m6 ?_;refine one ?_;refine inc n ?_;refine g9 ?_;refine dP (λa=>?_) λa=>?_
 .refine g3 ?_;refine ss (sti_cap underlying36 rfl rfl) ?_;refine ss (iY hT (k:=0) rfl rfl rfl rfl rfl rfl l7) ?_;refine one ?_;refine bWr rfl rfl rfl rfl rfl rfl l7 l7 λb c2=>?_;refine g2 ?_;refine jH hT (k:=0) .head rfl rfl rfl rfl rfl rfl rfl rfl rfl l7 ?_;refine g10 ?_;exact rs1 (b,c2) trivial
 refine g9 ?_;refine bQ (t:=40) bT ?_;exact rs1 (none,0) trivial
theorem rZ(A:Option Addr)(c:Nat)(xs:List (Sl PolV))(hx:xs.length<=1000000)(ht:(xs.map (·.A)).flatten.length<=1000000):cY prog 37 [.slice A xs.length c] [] [bCd.sl (.slice A xs.length c) xs,Fact.each xs cM] (λ(x:Option Addr×Nat)=> .slice x.1 (xs.map (·.A)).flatten.length x.2) (λ(x:Option Addr×Nat)=>[bT.row (.slice x.1 (xs.map (·.A)).flatten.length x.2) 40 (xs.map (·.A)).flatten]) (λ_=>[]):=by
 have hT:=dK;refine j5 func37 ntmps37 ?_;intro β hM;refine g19 ?_;refine cF (ι:=Nat×Nat) [(0,_),(9,_),(10,_)] ⟨rfl,rfl,rfl,i6⟩ (λ⟨i,n⟩=>[(3,.int .i64 (n:Nat)),(11,.int .i64 (i:Nat))]) (λ_=>[]) (λ⟨i,n⟩=>[Fact.pure (i<=xs.length/\n=((xs.map (·.A)).take i).flatten.length)]) (λ⟨i,n⟩=>xs.length-i) (0,0) ⟨rfl,rfl,i6⟩ .nil ⟨i7 (⟨l7,rfl⟩),i6⟩ ?_;rintro⟨i,n⟩;dsimp only;refine bF d7 λk=>?_;refine g6 ?_;refine dP (λh=>?_) λh=>?_
 .refine g6 ?_;obtain⟨x1,d⟩:=gx xs i;refine ss (ixs i) ?_;refine ss (fG d 0) ?_;have m:=tJ (f:=λs:Sl PolV=>s.A) d;have a:=bSl m;have e:=congrArg Q8 a;rw[F4]at e;have l:=bQh (L:=(xs.map (·.A))) (i+1);refine bB (bT.sl (.slice x1.I x1.A.length x1.cap) x1.A) (oL (Has.each d9 (j0 d))) ?_;refine g9 ?_;refine inc (n+x1.A.length) ?_;refine g7 ?_;refine bC (t':=false) (decide_eq_false l7) ?_;refine g8 ?_;refine inc (i+1) ?_;refine g3 ?_;exact bk2 (i+1,n+x1.A.length) ⟨i7 (⟨by dsimp only;omega,by dsimp only;omega⟩),i6⟩
 refine g8 ?_;refine j2 func64 (growP_spec n (by have:=bQh (L:=(xs.map (·.A))) i;omega)) i6 λ⟨A3,c4⟩=>?_;refine g12 ?_;refine cF (ι:=Nat×Option Addr×Nat) [(25,_),(26,_)] ⟨rfl,rfl,i6⟩ (λ⟨i,A1,c1⟩=>[(6,.slice A1 ((xs.map (·.A)).take i).flatten.length c1),(27,.int .i64 (i:Nat))]) (λ⟨i,A1,c1⟩=>[bT.row (.slice A1 ((xs.map (·.A)).take i).flatten.length c1) 40 ((xs.map (·.A)).take i).flatten]) (λ⟨i,A1,c1⟩=>[Fact.pure (i<=xs.length)]) (λ⟨i,A1,c1⟩=>xs.length-i) (0,A3,c4) ⟨rfl,rfl,i6⟩ (.c0 .nil) ⟨i7 (Nat.zero_le _),i6⟩ ?_;rintro⟨i,A1,c1⟩;dsimp only;refine bF d7 λhinv11=>?_;refine g6 ?_;refine dP (λg=>?_) λg=>?_
 .refine g6 ?_;obtain⟨j,b⟩:=gx xs i;refine ss (ixs i) ?_;refine ss (fG b 0) ?_;have m:=tJ (f:=λs:Sl PolV=>s.A) b;have a:=bSl m;have e:=congrArg Q8 a;rw[F4]at e;have l:=bQh (L:=(xs.map (·.A))) (i+1);refine bB (bT.sl (.slice j.I j.A.length j.cap) j.A) (oL (Has.each e6 (j0 b))) ?_;refine g6 ?_;refine cU .head (bG d7) rfl rfl rfl rfl rfl rfl rfl l7 λp o=>?_;rw[a];refine g6 ?_;refine inc (i+1) ?_;refine g3 ?_;exact bk2 (i+1,p,o) ⟨i7 l7,i6⟩
 refine g12 ?_;rw[F6 q9];exact rs1 (A1,c1) trivial
theorem oF{a:TyV}(h:WfT a.t):a.B.A.length<=4:=by
 have:=h.len;unfold TyV.t at this
 rwa[bI]at this
theorem wA{a:TyV}(h:WfT a.t):a.values.A.length<=4:=by
 have e:a.t.values.length<=4:=by
  cases k:a.t.known
  .rw[h.un k];decide
  .exact(h.kn k).1
 unfold TyV.t at e
 rwa[bI]at e
def bFp (f:Pol->Bool)(l:List PolV)(i:Nat):Prop:=((bN l).take i).any f=false
theorem zX(f:Pol->Bool)(l:List PolV):bFp f l 0:=rfl
theorem bDm{f:Pol->Bool}{l:List PolV}{i:Nat}{p:PolV}(h:bFp f l i)(hp:l[i]?=some p)(k:f p.A=false):bFp f l (i+1):=by obtain⟨hi,e⟩:=F3.1 (jX hp);unfold bFp at*;rw[V8 hi,e,List.any_append,h];simp[k]
theorem bIl{f:Pol->Bool}{l:List PolV}{i:Nat}{p:PolV}(hp:l[i]?=some p)(k:f p.A=true):(bN l).any f=true:=
 List.any_eq_true.2 ⟨p.A,List.mem_of_getElem? (jX hp),k⟩
theorem bKi{f:Pol->Bool}{l:List PolV}{i:Nat}(h:bFp f l i)(hi:l.length<=i):(bN l).any f=false:=by
 unfold bFp at h
 rwa[F6 am4]at h
theorem lenT(l:List PolV){n:Nat}(h:n<l.length):n<(bN l).length:=by rwa[bI]
theorem bOi(l:List PolV){n:Nat}(h:l.length<=n): ¬n<(bN l).length:=by rw[bI];omega
theorem rhT_a{a b:TyP}(h:1<a.B.length):xP a b=(a,90):=if_pos h
theorem rhT_b{a b:TyP}(h: ¬1<a.B.length)(k:a.known=false):xP a b=(a,92):=(if_neg h).trans (if_pos k)
theorem rhT_c{a b:TyP}(h: ¬1<a.B.length)(k:a.known=true)(g:(a.values.any λv=>!gL v)=true):xP a b=(a,93):=by unfold xP;rw[if_neg h,if_neg (by simp[k]),if_pos g]
theorem rhT_d{a b:TyP}(h: ¬1<a.B.length)(k:a.known=true)(g:(a.values.any λv=>!gL v)=false)(c:(b.B.any λs=>!fO s 1)=true):xP a b=(a,94):=by unfold xP;rw[if_neg h,if_neg (by simp[k]),if_neg (by simp[g]),if_pos c]
theorem rhT_e{a b:TyP}(h: ¬1<a.B.length)(k:a.known=true)(g:(a.values.any λv=>!gL v)=false)(c:(b.B.any λs=>!fO s 1)=false):xP a b=(⟨a.values,false,[]⟩,0):=by unfold xP;rw[if_neg h,if_neg (by simp[k]),if_neg (by simp[g]),if_neg (by simp[c])]
theorem rhoT_spec(a b:TyV)(ha:WfT a.t)(hb:WfT b.t):cY prog 59 [.agg #[j8 a.B,.bool a.known,j8 a.values],.agg #[j8 b.B,.bool b.known,j8 b.values]] [] [tyF a,tyF b] (λ(x:TyV)=> .tuple #[tyC x,k6 (xP a.t b.t).2]) (λ_=>[]) (λ(x:TyV)=>[tyF x,Fact.pure (x.t=(xP a.t b.t).1)]):=by
 have hT:=dK;have C:=oF ha;have A:=wA ha;have B:=oF hb;have z:=wA hb;generalize o:xP a.t b.t=r;refine j5 func59 ntmps59 ?_;intro β hM;refine bP<|bB (cM a.B) (jR d7) ?_;refine cE a.B mT0 λw=>bB (cM a.values) (jS e6)<|cE a.values mT0 λu=>bB (cM b.B) (jR f3)<|cE b.B mT0 λhc_bs=>bB (cM b.values) (jS f7)<|cE b.values mT0 λq=>?_;refine one ?_;refine j4 λG=>?_;refine j4 λE=>?_;refine j1 sQ λD=>?_;refine g14 ?_;refine dP (λhc10=>?_) λhc10=>?_
 .refine g10 ?_;have hr:=o.symm.trans (rhT_a (lenT _ l7));subst hr;exact rs2 (⟨a.B,a.known,a.values⟩:TyV) ⟨(bS (x:=⟨a.B,a.known,a.values⟩) f8 f5),i7 rfl,i6⟩
 refine g8 ?_;refine iQ (λn=>?_) λn=>?_
 .refine g10 ?_;have hr:=o.symm.trans (rhT_b (bOi _ l7) asd);subst hr;exact rs2 (⟨a.B,a.known,a.values⟩:TyV) ⟨(bS (x:=⟨a.B,a.known,a.values⟩) f8 f5),i7 rfl,i6⟩
 refine g13 ?_;refine cF (ι:=Nat) [(2,_),(3,_),(4,_),(22,_),(23,_)] ⟨rfl,rfl,rfl,rfl,rfl,i6⟩ (λi=>[(24,.int .i64 (i:Nat))]) (λ_=>[]) (λi=>[Fact.pure (i<=a.values.A.length/\bFp (λv=>!gL v) a.values.A i)]) (λi=>a.values.A.length-i) 0 ⟨rfl,i6⟩ .nil ⟨i7 (⟨l7,zX _ _⟩),i6⟩ ?_;rintro i;refine bF d7 λg=>?_;refine g6 ?_;refine dP (λm=>?_) λm=>?_
 .refine g6 ?_;obtain⟨x4,e⟩:=gx a.values.A i;refine ss (ixs i) ?_;refine ss (fG e 0) ?_;refine g6 ?_;refine bF (dC (Has.each f3 (j0 e))) λj=>?_;refine j2 func9 (sY (p:=x4) j) ⟨(Has.each f3 (j0 e)),i6⟩ λ_=>?_;refine g3 ?_;refine iQ (λhc30=>?_) λhc30=>?_
  .refine g13 ?_;have hr:=o.symm.trans (rhT_c (bOi _ l7) asd (bIl (f:=(λv=>!gL v)) e asd));subst hr;exact rs2 (⟨a.B,a.known,a.values⟩:TyV) ⟨(bS (x:=⟨a.B,a.known,a.values⟩) f9 f6),i7 rfl,i6⟩
  refine g5 ?_;refine inc (i+1) ?_;refine g3 ?_;exact bk2 (i+1) ⟨i7 (⟨l7,bDm g.2 e (by simpa using (asd:(!_)=false))⟩),i6⟩
 refine g7 ?_;have k:=bKi g.2 l7;refine g8 ?_;refine cF (ι:=Nat) [(2,_),(4,_),(34,_),(35,_)] ⟨rfl,rfl,rfl,rfl,i6⟩ (λi=>[(36,.int .i64 (i:Nat))]) (λ_=>[]) (λi=>[Fact.pure (i<=b.B.A.length/\bFp (λs=>!fO s 1) b.B.A i)]) (λi=>b.B.A.length-i) 0 ⟨rfl,i6⟩ .nil ⟨i7 (⟨l7,zX _ _⟩),i6⟩ ?_;rintro i;refine bF d7 λc=>?_;refine g6 ?_;refine dP (λl=>?_) λl=>?_
 .refine g6 ?_;obtain⟨y,d⟩:=gx b.B.A i;refine ss (ixs i) ?_;refine ss (fG d 0) ?_;refine g6 ?_;refine bF (dC (Has.each e8 (j0 d))) λh=>?_;refine j2 func98 (wR (p:=y) 1 h) ⟨(Has.each e8 (j0 d)),i6⟩ λ_=>?_;refine g3 ?_;refine iQ (λhc42=>?_) λhc42=>?_
  .refine g13 ?_;have hr:=o.symm.trans (rhT_d (bOi _ l7) asd k (bIl (f:=(λs=>!fO s 1)) d asd));subst hr;exact rs2 (⟨a.B,a.known,a.values⟩:TyV) ⟨(bS (x:=⟨a.B,a.known,a.values⟩) g0 f7),i7 rfl,i6⟩
  refine g5 ?_;refine inc (i+1) ?_;refine g3 ?_;exact bk2 (i+1) ⟨i7 (⟨l7,bDm c.2 d (by simpa using (asd:(!_)=false))⟩),i6⟩
 refine g9 ?_;refine j2 func32 (fI a.values.I (a.values.A.length) a.values.cap) i6 λ_=>?_;refine g5 ?_;have hr:=o.symm.trans (rhT_e (bOi _ l7) asd k (bKi c.2 l7));subst hr;exact rs2 (⟨a.values,false,⟨none,0,[]⟩⟩:TyV) ⟨(bS (x:=⟨a.values,false,⟨none,0,[]⟩⟩) f7 bO),i7 rfl,i6⟩
theorem qG{a:TyV}(h:a.B.A.length=0):dT a.t.B=[bZ 1]:=if_pos (dY h)
theorem nX{a:TyV}(h: ¬a.B.A.length=0):dT a.t.B=bN a.B.A:=if_neg (gI (Nat.pos_of_ne_zero h))
theorem oT(l:List PolV)(n:Nat):bN (l.drop n)=(bN l).drop n:=List.map_drop
theorem bVz(l:List PolV)(n:Nat):bN (l.take n)=(bN l).take n:=List.map_take
theorem rI(l k:List PolV):bN (l++k)=bN l++bN k:=L2
theorem iI{F:List Fact}{xs:List PolV}(n:Nat)(h:Has F (polsF xs)):Has F (polsF (xs.drop n)):=λS w k p a=>h S w k p (List.mem_of_mem_drop a)
theorem polsF_take{F:List Fact}{xs:List PolV}(n:Nat)(h:Has F (polsF xs)):Has F (polsF (xs.take n)):=λS w k p a=>h S w k p (List.mem_of_mem_take a)
theorem oB(u v:Sl PolV):([u,v].map (·.A)).flatten=u.A++v.A:=by simp
theorem kS{l:List PolV}{p:PolV}(h:l[0]?=some p):(bN l).headD []=p.A:=by
 cases l with
 |nil=>simp at h
 |cons a l=>simp at h;subst h;rfl
section
variable {a b : TyP} {X Y : List PolV} {p q : PolV}
theorem zM(hl:dT a.B=bN X)(hr:dT b.B=bN Y)(h:X.length≠Y.length\/bN (X.drop 1)≠bN (Y.drop 1)):xZ a b=(a,91):=by
 unfold xZ;rw[if_pos];rw[hl,hr,bI,bI];rw[oT,oT]at h
 simpa using h
theorem cat_in(hl:dT a.B=bN X)(hr:dT b.B=bN Y)(h:X.length=Y.length)(k:bN (X.drop 1)=bN (Y.drop 1)): ¬((dT a.B).length≠(dT b.B).length\/(dT a.B).tail≠(dT b.B).tail):=by
 rw[hl,hr,bI,bI];rw[oT,oT]at k;rintro(e|e)
 .exact e h
 .exact e (by simpa using k)
theorem bUk(hl:dT a.B=bN X)(hr:dT b.B=bN Y)(h:X.length=Y.length)(k:bN (X.drop 1)=bN (Y.drop 1))(hp:X[0]?=some p)(hq:Y[0]?=some q)(e:(cD p.A q.A 1).2≠0):xZ a b=(a,95):=by unfold xZ;rw[if_neg (cat_in hl hr h k),if_pos];rw[hl,hr,kS hp,kS hq];exact e
theorem bTn(hl:dT a.B=bN X)(hr:dT b.B=bN Y)(h:X.length=Y.length)(k:bN (X.drop 1)=bN (Y.drop 1))(hp:X[0]?=some p)(hq:Y[0]?=some q)(e:(cD p.A q.A 1).2=0)(h1:a.known=true)(h2:b.known=true)(h4:a.values.length+b.values.length<=4):xZ a b=(⟨(cD p.A q.A 1).1::bN (Y.drop 1),true,a.values++b.values⟩,0):=by unfold xZ;rw[if_neg (cat_in hl hr h k),if_neg (by rw[hl,hr,kS hp,kS hq];simp[e]),if_pos ⟨h1,h2,h4⟩,hl,hr,kS hp,kS hq,oT];simp
theorem rB(hl:dT a.B=bN X)(hr:dT b.B=bN Y)(h:X.length=Y.length)(k:bN (X.drop 1)=bN (Y.drop 1))(hp:X[0]?=some p)(hq:Y[0]?=some q)(e:(cD p.A q.A 1).2=0)(h1: ¬(a.known=true/\b.known=true/\a.values.length+b.values.length<=4)):xZ a b=(⟨(cD p.A q.A 1).1::bN (Y.drop 1),false,[]⟩,0):=by unfold xZ;rw[if_neg (cat_in hl hr h k),if_neg (by rw[hl,hr,kS hp,kS hq];simp[e]),if_neg h1,hl,hr,kS hp,kS hq,oT];simp
end
theorem bWg{p:Prop} [Decidable p](h:(!decide p)=true): ¬p:=by simpa using h
theorem sH{p:Prop} [Decidable p](h:(!decide p)=false):p:=by simpa using h
theorem catT_spec(a b:TyV)(ha:WfT a.t)(hb:WfT b.t):cY prog 61 [.agg #[j8 a.B,.bool a.known,j8 a.values],.agg #[j8 b.B,.bool b.known,j8 b.values]] [] [tyF a,tyF b] (λ(x:TyV)=> .tuple #[tyC x,k6 (xZ a.t b.t).2]) (λ_=>[]) (λ(x:TyV)=>[tyF x,Fact.pure (x.t=(xZ a.t b.t).1)]):=by
 have hT:=dK;have hsa:=oF ha;have hva:=wA ha;have hsb:=oF hb;have hvb:=wA hb;generalize s:xZ a.t b.t=r;refine j5 func61 ntmps61 ?_;intro β hM;refine bP<|bB (cM a.B) (jR d7) ?_;refine cE a.B mT0 λhc_as=>bB (cM a.values) (jS e6)<|cE a.values mT0 λhc_av=>bB (cM b.B) (jR f3)<|cE b.B mT0 λhc_bs=>bB (cM b.values) (jS f7)<|cE b.values mT0 λhc_bv=>?_;refine one ?_;refine j4 λb1=>?_;refine j4 λb2=>?_;refine j1 sQ λb3=>?_;refine g4 ?_;refine cL _ _ [j9,u0,u5,u9,A00,u6] cN o0 (.c0 (.c0 (.c0 .nil))) bA.self ?_;refine g16 ?_;refine gN (λhc17=>?_) λhc17=>?_
 .refine one ?_;refine j2 func31 (lO (((1:Nat):Int))) i6 λ⟨A4,c5⟩=>?_;refine j7 (m:=⟨A4,c5,bZ (((1:Nat):Int))⟩) λb6=>?_;refine dO (E:=bT) (xs:=[(⟨A4,c5,bZ (((1:Nat):Int))⟩:PolV)]) .head aa1<|bR .head<|bB (polsF [(⟨A4,c5,bZ (((1:Nat):Int))⟩:PolV)]) (gP d8) ?_;refine g5 ?_;have e:dT a.t.B=bN [(⟨A4,c5,bZ (((1:Nat):Int))⟩:PolV)]:=by first|exact qG l7|exact nX l7
  refine g6 ?_;refine gN (λhc22=>?_) λhc22=>?_
  .refine one ?_;refine j2 func31 (lO (((1:Nat):Int))) i6 λ⟨A7,c8⟩=>?_;refine j7 (m:=⟨A7,c8,bZ (((1:Nat):Int))⟩) λb9=>?_;refine dO (E:=bT) (xs:=[(⟨A7,c8,bZ (((1:Nat):Int))⟩:PolV)]) .head aa1<|bR .head<|bB (polsF [(⟨A7,c8,bZ (((1:Nat):Int))⟩:PolV)]) (gP d8) ?_;refine g5 ?_;have d:dT b.t.B=bN [(⟨A7,c8,bZ (((1:Nat):Int))⟩:PolV)]:=by first|exact qG l7|exact nX l7
   refine cL _ _ [j9,u0,u5,u9,A00,u6,A02,A01,A03,A04,A73,A07,A09] cN o0 (.c0 (.c0 (.c0 .nil))) bA.self ?_;refine g5 ?_;refine bC (t':=false) m6 ?_;refine g2 ?_;refine stM rfl (dV hT (k:=1) rfl rfl rfl rfl rfl rfl l7) ?_;refine one ?_;refine stM rfl (dV hT (k:=1) rfl rfl rfl rfl rfl rfl l7) ?_;refine one ?_;refine bB (bT.sl (.slice (iS (some ⟨b6,0,none⟩) 1 bT.size 1) (1-1) (1-1)) ([(⟨A4,c5,bZ (((1:Nat):Int))⟩:PolV)].drop 1)) (kC e7 ac9 ab5)<|bB (polsF ([(⟨A4,c5,bZ (((1:Nat):Int))⟩:PolV)].drop 1)) (iI 1 e7)<|bB (bT.sl (.slice (iS (some ⟨b9,0,none⟩) 1 bT.size 1) (1-1) (1-1)) ([(⟨A7,c8,bZ (((1:Nat):Int))⟩:PolV)].drop 1)) (kC e6 ac9 ab5)<|bB (polsF ([(⟨A7,c8,bZ (((1:Nat):Int))⟩:PolV)].drop 1)) (iI 1 e6) ?_;have X:=vZ (iS (some ⟨b6,0,none⟩) 1 bT.size 1) (iS (some ⟨b9,0,none⟩) 1 bT.size 1) (1-1) (1-1) ([(⟨A4,c5,bZ (((1:Nat):Int))⟩:PolV)].drop 1) ([(⟨A7,c8,bZ (((1:Nat):Int))⟩:PolV)].drop 1) ae4;simp only[N9]at X;refine j2 func62 X ⟨e6,d9,d8,d7,i6⟩ λ_=>?_;refine g5 ?_;refine iQ (λW=>?_) λW=>?_
   .refine g9 ?_;have hr:=s.symm.trans (zM e d z8);subst hr;exact rs2 (⟨a.B,a.known,a.values⟩:TyV) ⟨(bS (x:=⟨a.B,a.known,a.values⟩) (Has.of (u8 (u8 mT5))) (Has.of (u8 (u8 mT2)))),i7 rfl,i6⟩
   refine g3 ?_;refine cL _ _ [j9,u0,u5,u9,A00,u6,A17,A01,A03,A04,A08,A07] cN o0 (.c0 (.c0 (.c0 .nil))) bA.self ?_;refine one ?_;obtain⟨x10,G⟩:=gx [(⟨A4,c5,bZ (((1:Nat):Int))⟩:PolV)] 0 ac6;refine stM rfl (cA hT (k:=0) (bG f5) rfl rfl rfl rfl rfl rfl rfl ac6) ?_;refine stM rfl (fG G 0) ?_;refine one ?_;obtain⟨n,D⟩:=gx [(⟨A7,c8,bZ (((1:Nat):Int))⟩:PolV)] 0 ac6;refine stM rfl (cA hT (k:=0) (bG e8) rfl rfl rfl rfl rfl rfl rfl ac6) ?_;refine stM rfl (fG D 0) ?_;refine one ?_;refine bF (dC (Has.each f3 (j0 G))) λhpl16=>bF (dC (Has.each e7 (j0 D))) λhql17=>?_;refine j2 func63 (bBj (p:=x10) (q:=n) hpl16 hql17) ⟨(Has.each f3 (j0 G)),(Has.each e7 (j0 D)),i6⟩ λ⟨A14,c15⟩=>?_;refine g15 ?_;refine uD (λV=>?_) λV=>?_
   .refine g9 ?_;have hr:=s.symm.trans (bUk e d p6 (sH asd) G D asd);subst hr;exact rs2 (⟨a.B,a.known,a.values⟩:TyV) ⟨(bS (x:=⟨a.B,a.known,a.values⟩) (Has.of (u8 (u8 mT6))) (Has.of (u8 (u8 mT3)))),i7 rfl,i6⟩
   refine g5 ?_;refine j7 (m:=⟨A14,c15,(cD x10.A n.A 1).1⟩) λb18=>?_;refine dO (E:=bT) (xs:=[(⟨A14,c15,(cD x10.A n.A 1).1⟩:PolV)]) .head aa1 ?_;refine one ?_;refine ss (dV hT (k:=1) rfl rfl rfl rfl rfl rfl l7) ?_;refine bB (bT.sl (.slice (iS (some ⟨b9,0,none⟩) 1 bT.size 1) (1-1) (1-1)) ([(⟨A7,c8,bZ (((1:Nat):Int))⟩:PolV)].drop 1)) (kC e9 ac9 ab5)<|bB (polsF ([(⟨A7,c8,bZ (((1:Nat):Int))⟩:PolV)].drop 1)) (iI 1 e9) ?_;refine cU .head (bG d8) rfl rfl rfl rfl rfl rfl r7 o6 λP L=>?_;refine fW .head λc=>bR .head<|bB (polsF ([(⟨A14,c15,(cD x10.A n.A 1).1⟩:PolV)]++([(⟨A7,c8,bZ (((1:Nat):Int))⟩:PolV)].drop 1))) (iE (gP e6) d8) ?_;refine g9 ?_;refine cG (λR=>?_) (λR=>?_)
   .refine g4 ?_;refine cG (λQ=>?_) (λQ=>?_)
    .refine g7 ?_;refine inc (a.values.A.length+b.values.A.length) ?_;refine g4 ?_;refine bLv (λU=>?_) λU=>?_
     .refine g7 ?_;refine sF (u:=a.values) (v:=b.values) rfl rfl rfl rfl rfl rfl λb21=>?_;refine dO (E:=bCd) (xs:=[a.values,b.values]) .head aa1<|bR .head<|bB (Fact.each [a.values,b.values] cM) (Has.each_cons (Has.of (u8 (u8 (u8 mT0)))) (Has.each_cons (Has.of (u8 (u8 mT2))) Has.each_nil)) ?_;have Y:=rZ (some ⟨b21,0,none⟩) 2 [a.values,b.values] m9 ag7;rw[oB]at Y;refine j2 func37 Y ⟨d8,d7,i6⟩ λ⟨A22,c23⟩=>?_;refine fW .head λo=>bR .head<|bB (polsF (a.values.A++b.values.A)) (iE (Has.of (u8 (u8 (u8 mT0)))) (Has.of (u8 (u8 mT2)))) ?_;refine j2 func30 (kV P A22 (([(⟨A14,c15,(cD x10.A n.A 1).1⟩:PolV)]++([(⟨A7,c8,bZ (((1:Nat):Int))⟩:PolV)].drop 1)).length) ((a.values.A++b.values.A).length) L c23) i6 λ_=>?_;refine g6 ?_;have hr:=s.symm.trans ((bTn e d p6 (sH asd) G D l7 asd asd ae3).trans ad0);subst hr;exact rs2 (⟨⟨P,L,([(⟨A14,c15,(cD x10.A n.A 1).1⟩:PolV)]++([(⟨A7,c8,bZ (((1:Nat):Int))⟩:PolV)].drop 1))⟩,true,⟨A22,c23,(a.values.A++b.values.A)⟩⟩:TyV) ⟨(bS (x:=⟨⟨P,L,([(⟨A14,c15,(cD x10.A n.A 1).1⟩:PolV)]++([(⟨A7,c8,bZ (((1:Nat):Int))⟩:PolV)].drop 1))⟩,true,⟨A22,c23,(a.values.A++b.values.A)⟩⟩) (cB e8 e7 (c)) (cB d8 d7 (o))),i7 rfl,i6⟩
     refine g5 ?_;refine j2 func32 (fI P (([(⟨A14,c15,(cD x10.A n.A 1).1⟩:PolV)]++([(⟨A7,c8,bZ (((1:Nat):Int))⟩:PolV)].drop 1)).length) L) i6 λ_=>?_;refine g5 ?_;have hr:=s.symm.trans (rB e d p6 (sH asd) G D l7 n8);subst hr;exact rs2 (⟨⟨P,L,([(⟨A14,c15,(cD x10.A n.A 1).1⟩:PolV)]++([(⟨A7,c8,bZ (((1:Nat):Int))⟩:PolV)].drop 1))⟩,false,⟨none,0,[]⟩⟩:TyV) ⟨(bS (x:=⟨⟨P,L,([(⟨A14,c15,(cD x10.A n.A 1).1⟩:PolV)]++([(⟨A7,c8,bZ (((1:Nat):Int))⟩:PolV)].drop 1))⟩,false,⟨none,0,[]⟩⟩) (cB d8 d7 (c)) bO),i7 rfl,i6⟩
    refine g17 ?_;refine j2 func32 (fI P (([(⟨A14,c15,(cD x10.A n.A 1).1⟩:PolV)]++([(⟨A7,c8,bZ (((1:Nat):Int))⟩:PolV)].drop 1)).length) L) i6 λ_=>?_;refine g5 ?_;have hr:=s.symm.trans (rB e d p6 (sH asd) G D l7 n8);subst hr;exact rs2 (⟨⟨P,L,([(⟨A14,c15,(cD x10.A n.A 1).1⟩:PolV)]++([(⟨A7,c8,bZ (((1:Nat):Int))⟩:PolV)].drop 1))⟩,false,⟨none,0,[]⟩⟩:TyV) ⟨(bS (x:=⟨⟨P,L,([(⟨A14,c15,(cD x10.A n.A 1).1⟩:PolV)]++([(⟨A7,c8,bZ (((1:Nat):Int))⟩:PolV)].drop 1))⟩,false,⟨none,0,[]⟩⟩) (cB d8 d7 (c)) bO),i7 rfl,i6⟩
   refine g21 ?_;refine j2 func32 (fI P (([(⟨A14,c15,(cD x10.A n.A 1).1⟩:PolV)]++([(⟨A7,c8,bZ (((1:Nat):Int))⟩:PolV)].drop 1)).length) L) i6 λ_=>?_;refine g5 ?_;have hr:=s.symm.trans (rB e d p6 (sH asd) G D l7 n8);subst hr;exact rs2 (⟨⟨P,L,([(⟨A14,c15,(cD x10.A n.A 1).1⟩:PolV)]++([(⟨A7,c8,bZ (((1:Nat):Int))⟩:PolV)].drop 1))⟩,false,⟨none,0,[]⟩⟩:TyV) ⟨(bS (x:=⟨⟨P,L,([(⟨A14,c15,(cD x10.A n.A 1).1⟩:PolV)]++([(⟨A7,c8,bZ (((1:Nat):Int))⟩:PolV)].drop 1))⟩,false,⟨none,0,[]⟩⟩) (cB d8 d7 (c)) bO),i7 rfl,i6⟩
  refine g4 ?_;have d:dT b.t.B=bN b.B.A:=by first|exact qG l7|exact nX l7
  refine cL _ _ [j9,u0,u5,u9,A00,u6,A02,A01,A03,A04,A73,A07,A09] cN o0 (.c0 (.c0 (.c0 .nil))) bA.self ?_;refine g6 ?_;refine yQ (λZ=>?_) λZ=>?_
  .refine g21 ?_;have hr:=s.symm.trans (zM e d z8);subst hr;exact rs2 (⟨a.B,a.known,a.values⟩:TyV) ⟨(bS (x:=⟨a.B,a.known,a.values⟩) (Has.of wH) f8),i7 rfl,i6⟩
  refine one ?_;refine stM rfl (dV hT (k:=1) rfl rfl rfl rfl rfl rfl l7) ?_;refine one ?_;refine stM rfl (dV hT (k:=1) rfl rfl rfl rfl rfl rfl l7) ?_;refine one ?_;refine bB (bT.sl (.slice (iS (some ⟨b6,0,none⟩) 1 bT.size 1) (1-1) (1-1)) ([(⟨A4,c5,bZ (((1:Nat):Int))⟩:PolV)].drop 1)) (kC d8 ac9 ab5)<|bB (polsF ([(⟨A4,c5,bZ (((1:Nat):Int))⟩:PolV)].drop 1)) (iI 1 d8)<|bB (bT.sl (.slice (iS b.B.I 1 bT.size b.B.cap) (b.B.A.length-1) (b.B.cap-1)) (b.B.A.drop 1)) (kC f6 ag5 ab5)<|bB (polsF (b.B.A.drop 1)) (iI 1 f6) ?_;have X:=vZ (iS (some ⟨b6,0,none⟩) 1 bT.size 1) (iS b.B.I 1 bT.size b.B.cap) (1-1) (b.B.cap-1) ([(⟨A4,c5,bZ (((1:Nat):Int))⟩:PolV)].drop 1) (b.B.A.drop 1) ae4;simp only[N9]at X;refine j2 func62 X ⟨e6,d9,d8,d7,i6⟩ λ_=>?_;refine g5 ?_;refine iQ (λW=>?_) λW=>?_
  .refine g9 ?_;have hr:=s.symm.trans (zM e d z8);subst hr;exact rs2 (⟨a.B,a.known,a.values⟩:TyV) ⟨(bS (x:=⟨a.B,a.known,a.values⟩) (Has.of (u8 (u8 mT2))) (Has.of (u8 mT7))),i7 rfl,i6⟩
  refine g3 ?_;refine cL _ _ [j9,u0,u5,u9,A00,u6,A17,A01,A03,A04,A08,A07] cN o0 (.c0 (.c0 (.c0 .nil))) bA.self ?_;refine one ?_;obtain⟨l,C⟩:=gx [(⟨A4,c5,bZ (((1:Nat):Int))⟩:PolV)] 0 ac6;refine stM rfl (cA hT (k:=0) (bG e8) rfl rfl rfl rfl rfl rfl rfl ac6) ?_;refine stM rfl (fG C 0) ?_;refine one ?_;obtain⟨j,B⟩:=gx b.B.A 0 ac6;refine stM rfl (cA hT (k:=0) (bG f8) rfl rfl rfl rfl rfl rfl rfl ac6) ?_;refine stM rfl (fG B 0) ?_;refine one ?_;refine bF (dC (Has.each e7 (j0 C))) λhpl30=>bF (dC (Has.each f7 (j0 B))) λhql31=>?_;refine j2 func63 (bBj (p:=l) (q:=j) hpl30 hql31) ⟨(Has.each e7 (j0 C)),(Has.each f7 (j0 B)),i6⟩ λ⟨A28,c29⟩=>?_;refine g15 ?_;refine uD (λV=>?_) λV=>?_
  .refine g9 ?_;have hr:=s.symm.trans (bUk e d p6 (sH asd) C B asd);subst hr;exact rs2 (⟨a.B,a.known,a.values⟩:TyV) ⟨(bS (x:=⟨a.B,a.known,a.values⟩) (Has.of (u8 (u8 mT3))) (Has.of (u8 (u8 mT0)))),i7 rfl,i6⟩
  refine g5 ?_;refine j7 (m:=⟨A28,c29,(cD l.A j.A 1).1⟩) λb32=>?_;refine dO (E:=bT) (xs:=[(⟨A28,c29,(cD l.A j.A 1).1⟩:PolV)]) .head aa1 ?_;refine one ?_;refine ss (dV hT (k:=1) rfl rfl rfl rfl rfl rfl l7) ?_;refine bB (bT.sl (.slice (iS b.B.I 1 bT.size b.B.cap) (b.B.A.length-1) (b.B.cap-1)) (b.B.A.drop 1)) (kC f9 ag5 ab5)<|bB (polsF (b.B.A.drop 1)) (iI 1 f9) ?_;refine cU .head (bG d8) rfl rfl rfl rfl rfl rfl r7 o6 λO K=>?_;refine fW .head λc=>bR .head<|bB (polsF ([(⟨A28,c29,(cD l.A j.A 1).1⟩:PolV)]++(b.B.A.drop 1))) (iE (gP e6) d8) ?_;refine g9 ?_;refine cG (λR=>?_) (λR=>?_)
  .refine g4 ?_;refine cG (λQ=>?_) (λQ=>?_)
   .refine g7 ?_;refine inc (a.values.A.length+b.values.A.length) ?_;refine g4 ?_;refine bLv (λU=>?_) λU=>?_
    .refine g7 ?_;refine sF (u:=a.values) (v:=b.values) rfl rfl rfl rfl rfl rfl λb35=>?_;refine dO (E:=bCd) (xs:=[a.values,b.values]) .head aa1<|bR .head<|bB (Fact.each [a.values,b.values] cM) (Has.each_cons (Has.of (u8 (u8 mT5))) (Has.each_cons (Has.of (u8 mT7)) Has.each_nil)) ?_;have Y:=rZ (some ⟨b35,0,none⟩) 2 [a.values,b.values] m9 ag7;rw[oB]at Y;refine j2 func37 Y ⟨d8,d7,i6⟩ λ⟨A36,c37⟩=>?_;refine fW .head λo=>bR .head<|bB (polsF (a.values.A++b.values.A)) (iE (Has.of (u8 (u8 mT5))) (Has.of (u8 mT7))) ?_;refine j2 func30 (kV O A36 (([(⟨A28,c29,(cD l.A j.A 1).1⟩:PolV)]++(b.B.A.drop 1)).length) ((a.values.A++b.values.A).length) K c37) i6 λ_=>?_;refine g6 ?_;have hr:=s.symm.trans ((bTn e d p6 (sH asd) C B l7 asd asd ae3).trans ad0);subst hr;exact rs2 (⟨⟨O,K,([(⟨A28,c29,(cD l.A j.A 1).1⟩:PolV)]++(b.B.A.drop 1))⟩,true,⟨A36,c37,(a.values.A++b.values.A)⟩⟩:TyV) ⟨(bS (x:=⟨⟨O,K,([(⟨A28,c29,(cD l.A j.A 1).1⟩:PolV)]++(b.B.A.drop 1))⟩,true,⟨A36,c37,(a.values.A++b.values.A)⟩⟩) (cB e8 e7 (c)) (cB d8 d7 (o))),i7 rfl,i6⟩
    refine g5 ?_;refine j2 func32 (fI O (([(⟨A28,c29,(cD l.A j.A 1).1⟩:PolV)]++(b.B.A.drop 1)).length) K) i6 λ_=>?_;refine g5 ?_;have hr:=s.symm.trans (rB e d p6 (sH asd) C B l7 n8);subst hr;exact rs2 (⟨⟨O,K,([(⟨A28,c29,(cD l.A j.A 1).1⟩:PolV)]++(b.B.A.drop 1))⟩,false,⟨none,0,[]⟩⟩:TyV) ⟨(bS (x:=⟨⟨O,K,([(⟨A28,c29,(cD l.A j.A 1).1⟩:PolV)]++(b.B.A.drop 1))⟩,false,⟨none,0,[]⟩⟩) (cB d8 d7 (c)) bO),i7 rfl,i6⟩
   refine g17 ?_;refine j2 func32 (fI O (([(⟨A28,c29,(cD l.A j.A 1).1⟩:PolV)]++(b.B.A.drop 1)).length) K) i6 λ_=>?_;refine g5 ?_;have hr:=s.symm.trans (rB e d p6 (sH asd) C B l7 n8);subst hr;exact rs2 (⟨⟨O,K,([(⟨A28,c29,(cD l.A j.A 1).1⟩:PolV)]++(b.B.A.drop 1))⟩,false,⟨none,0,[]⟩⟩:TyV) ⟨(bS (x:=⟨⟨O,K,([(⟨A28,c29,(cD l.A j.A 1).1⟩:PolV)]++(b.B.A.drop 1))⟩,false,⟨none,0,[]⟩⟩) (cB d8 d7 (c)) bO),i7 rfl,i6⟩
  refine g21 ?_;refine j2 func32 (fI O (([(⟨A28,c29,(cD l.A j.A 1).1⟩:PolV)]++(b.B.A.drop 1)).length) K) i6 λ_=>?_;refine g5 ?_;have hr:=s.symm.trans (rB e d p6 (sH asd) C B l7 n8);subst hr;exact rs2 (⟨⟨O,K,([(⟨A28,c29,(cD l.A j.A 1).1⟩:PolV)]++(b.B.A.drop 1))⟩,false,⟨none,0,[]⟩⟩:TyV) ⟨(bS (x:=⟨⟨O,K,([(⟨A28,c29,(cD l.A j.A 1).1⟩:PolV)]++(b.B.A.drop 1))⟩,false,⟨none,0,[]⟩⟩) (cB d8 d7 (c)) bO),i7 rfl,i6⟩
 refine g4 ?_;have e:dT a.t.B=bN a.B.A:=by first|exact qG l7|exact nX l7
 refine g6 ?_;refine gN (λhc22=>?_) λhc22=>?_
 .refine one ?_;refine j2 func31 (lO (((1:Nat):Int))) i6 λ⟨A38,c39⟩=>?_;refine j7 (m:=⟨A38,c39,bZ (((1:Nat):Int))⟩) λb40=>?_;refine dO (E:=bT) (xs:=[(⟨A38,c39,bZ (((1:Nat):Int))⟩:PolV)]) .head aa1<|bR .head<|bB (polsF [(⟨A38,c39,bZ (((1:Nat):Int))⟩:PolV)]) (gP d8) ?_;refine g5 ?_;have d:dT b.t.B=bN [(⟨A38,c39,bZ (((1:Nat):Int))⟩:PolV)]:=by first|exact qG l7|exact nX l7
  refine cL _ _ [j9,u0,u5,u9,A00,u6,A02,A01,A03,A04,A73,A07,A09] cN o0 (.c0 (.c0 (.c0 .nil))) bA.self ?_;refine g6 ?_;refine yQ (λZ=>?_) λZ=>?_
  .refine g21 ?_;have hr:=s.symm.trans (zM e d z8);subst hr;exact rs2 (⟨a.B,a.known,a.values⟩:TyV) ⟨(bS (x:=⟨a.B,a.known,a.values⟩) (Has.of wH) f8),i7 rfl,i6⟩
  refine one ?_;refine stM rfl (dV hT (k:=1) rfl rfl rfl rfl rfl rfl l7) ?_;refine one ?_;refine stM rfl (dV hT (k:=1) rfl rfl rfl rfl rfl rfl l7) ?_;refine one ?_;refine bB (bT.sl (.slice (iS a.B.I 1 bT.size a.B.cap) (a.B.A.length-1) (a.B.cap-1)) (a.B.A.drop 1)) (kC g0 (by first|exact hc_as|omega) ab5)<|bB (polsF (a.B.A.drop 1)) (iI 1 g0)<|bB (bT.sl (.slice (iS (some ⟨b40,0,none⟩) 1 bT.size 1) (1-1) (1-1)) ([(⟨A38,c39,bZ (((1:Nat):Int))⟩:PolV)].drop 1)) (kC e6 ac9 ab5)<|bB (polsF ([(⟨A38,c39,bZ (((1:Nat):Int))⟩:PolV)].drop 1)) (iI 1 e6) ?_;have X:=vZ (iS a.B.I 1 bT.size a.B.cap) (iS (some ⟨b40,0,none⟩) 1 bT.size 1) (a.B.cap-1) (1-1) (a.B.A.drop 1) ([(⟨A38,c39,bZ (((1:Nat):Int))⟩:PolV)].drop 1) ae4;simp only[N9]at X;refine j2 func62 X ⟨e6,d9,d8,d7,i6⟩ λ_=>?_;refine g5 ?_;refine iQ (λW=>?_) λW=>?_
  .refine g9 ?_;have hr:=s.symm.trans (zM e d z8);subst hr;exact rs2 (⟨a.B,a.known,a.values⟩:TyV) ⟨(bS (x:=⟨a.B,a.known,a.values⟩) (Has.of (u8 (u8 mT2))) (Has.of (u8 mT7))),i7 rfl,i6⟩
  refine g3 ?_;refine cL _ _ [j9,u0,u5,u9,A00,u6,A17,A01,A03,A04,A08,A07] cN o0 (.c0 (.c0 (.c0 .nil))) bA.self ?_;refine one ?_;obtain⟨i,A⟩:=gx a.B.A 0 ac6;refine stM rfl (cA hT (k:=0) (bG (Has.of (u8 (u8 mT1)))) rfl rfl rfl rfl rfl rfl rfl ac6) ?_;refine stM rfl (fG A 0) ?_;refine one ?_;obtain⟨h,z⟩:=gx [(⟨A38,c39,bZ (((1:Nat):Int))⟩:PolV)] 0 ac6;refine stM rfl (cA hT (k:=0) (bG e8) rfl rfl rfl rfl rfl rfl rfl ac6) ?_;refine stM rfl (fG z 0) ?_;refine one ?_;refine bF (dC (Has.each (Has.of (u8 (u8 mT0))) (j0 A))) λhpl47=>bF (dC (Has.each e7 (j0 z))) λhql48=>?_;refine j2 func63 (bBj (p:=i) (q:=h) hpl47 hql48) ⟨(Has.each (Has.of (u8 (u8 mT0))) (j0 A)),(Has.each e7 (j0 z)),i6⟩ λ⟨A45,c46⟩=>?_;refine g15 ?_;refine uD (λV=>?_) λV=>?_
  .refine g9 ?_;have hr:=s.symm.trans (bUk e d p6 (sH asd) A z asd);subst hr;exact rs2 (⟨a.B,a.known,a.values⟩:TyV) ⟨(bS (x:=⟨a.B,a.known,a.values⟩) (Has.of (u8 (u8 mT3))) (Has.of (u8 (u8 mT0)))),i7 rfl,i6⟩
  refine g5 ?_;refine j7 (m:=⟨A45,c46,(cD i.A h.A 1).1⟩) λb49=>?_;refine dO (E:=bT) (xs:=[(⟨A45,c46,(cD i.A h.A 1).1⟩:PolV)]) .head aa1 ?_;refine one ?_;refine ss (dV hT (k:=1) rfl rfl rfl rfl rfl rfl l7) ?_;refine bB (bT.sl (.slice (iS (some ⟨b40,0,none⟩) 1 bT.size 1) (1-1) (1-1)) ([(⟨A38,c39,bZ (((1:Nat):Int))⟩:PolV)].drop 1)) (kC e9 ac9 ab5)<|bB (polsF ([(⟨A38,c39,bZ (((1:Nat):Int))⟩:PolV)].drop 1)) (iI 1 e9) ?_;refine cU .head (bG d8) rfl rfl rfl rfl rfl rfl r7 o6 λN J=>?_;refine fW .head λc=>bR .head<|bB (polsF ([(⟨A45,c46,(cD i.A h.A 1).1⟩:PolV)]++([(⟨A38,c39,bZ (((1:Nat):Int))⟩:PolV)].drop 1))) (iE (gP e6) d8) ?_;refine g9 ?_;refine cG (λR=>?_) (λR=>?_)
  .refine g4 ?_;refine cG (λQ=>?_) (λQ=>?_)
   .refine g7 ?_;refine inc (a.values.A.length+b.values.A.length) ?_;refine g4 ?_;refine bLv (λU=>?_) λU=>?_
    .refine g7 ?_;refine sF (u:=a.values) (v:=b.values) rfl rfl rfl rfl rfl rfl λb52=>?_;refine dO (E:=bCd) (xs:=[a.values,b.values]) .head aa1<|bR .head<|bB (Fact.each [a.values,b.values] cM) (Has.each_cons (Has.of (u8 (u8 mT5))) (Has.each_cons (Has.of (u8 mT7)) Has.each_nil)) ?_;have Y:=rZ (some ⟨b52,0,none⟩) 2 [a.values,b.values] m9 ag7;rw[oB]at Y;refine j2 func37 Y ⟨d8,d7,i6⟩ λ⟨A53,c54⟩=>?_;refine fW .head λo=>bR .head<|bB (polsF (a.values.A++b.values.A)) (iE (Has.of (u8 (u8 mT5))) (Has.of (u8 mT7))) ?_;refine j2 func30 (kV N A53 (([(⟨A45,c46,(cD i.A h.A 1).1⟩:PolV)]++([(⟨A38,c39,bZ (((1:Nat):Int))⟩:PolV)].drop 1)).length) ((a.values.A++b.values.A).length) J c54) i6 λ_=>?_;refine g6 ?_;have hr:=s.symm.trans ((bTn e d p6 (sH asd) A z l7 asd asd ae3).trans ad0);subst hr;exact rs2 (⟨⟨N,J,([(⟨A45,c46,(cD i.A h.A 1).1⟩:PolV)]++([(⟨A38,c39,bZ (((1:Nat):Int))⟩:PolV)].drop 1))⟩,true,⟨A53,c54,(a.values.A++b.values.A)⟩⟩:TyV) ⟨(bS (x:=⟨⟨N,J,([(⟨A45,c46,(cD i.A h.A 1).1⟩:PolV)]++([(⟨A38,c39,bZ (((1:Nat):Int))⟩:PolV)].drop 1))⟩,true,⟨A53,c54,(a.values.A++b.values.A)⟩⟩) (cB e8 e7 (c)) (cB d8 d7 (o))),i7 rfl,i6⟩
    refine g5 ?_;refine j2 func32 (fI N (([(⟨A45,c46,(cD i.A h.A 1).1⟩:PolV)]++([(⟨A38,c39,bZ (((1:Nat):Int))⟩:PolV)].drop 1)).length) J) i6 λ_=>?_;refine g5 ?_;have hr:=s.symm.trans (rB e d p6 (sH asd) A z l7 n8);subst hr;exact rs2 (⟨⟨N,J,([(⟨A45,c46,(cD i.A h.A 1).1⟩:PolV)]++([(⟨A38,c39,bZ (((1:Nat):Int))⟩:PolV)].drop 1))⟩,false,⟨none,0,[]⟩⟩:TyV) ⟨(bS (x:=⟨⟨N,J,([(⟨A45,c46,(cD i.A h.A 1).1⟩:PolV)]++([(⟨A38,c39,bZ (((1:Nat):Int))⟩:PolV)].drop 1))⟩,false,⟨none,0,[]⟩⟩) (cB d8 d7 (c)) bO),i7 rfl,i6⟩
   refine g17 ?_;refine j2 func32 (fI N (([(⟨A45,c46,(cD i.A h.A 1).1⟩:PolV)]++([(⟨A38,c39,bZ (((1:Nat):Int))⟩:PolV)].drop 1)).length) J) i6 λ_=>?_;refine g5 ?_;have hr:=s.symm.trans (rB e d p6 (sH asd) A z l7 n8);subst hr;exact rs2 (⟨⟨N,J,([(⟨A45,c46,(cD i.A h.A 1).1⟩:PolV)]++([(⟨A38,c39,bZ (((1:Nat):Int))⟩:PolV)].drop 1))⟩,false,⟨none,0,[]⟩⟩:TyV) ⟨(bS (x:=⟨⟨N,J,([(⟨A45,c46,(cD i.A h.A 1).1⟩:PolV)]++([(⟨A38,c39,bZ (((1:Nat):Int))⟩:PolV)].drop 1))⟩,false,⟨none,0,[]⟩⟩) (cB d8 d7 (c)) bO),i7 rfl,i6⟩
  refine g21 ?_;refine j2 func32 (fI N (([(⟨A45,c46,(cD i.A h.A 1).1⟩:PolV)]++([(⟨A38,c39,bZ (((1:Nat):Int))⟩:PolV)].drop 1)).length) J) i6 λ_=>?_;refine g5 ?_;have hr:=s.symm.trans (rB e d p6 (sH asd) A z l7 n8);subst hr;exact rs2 (⟨⟨N,J,([(⟨A45,c46,(cD i.A h.A 1).1⟩:PolV)]++([(⟨A38,c39,bZ (((1:Nat):Int))⟩:PolV)].drop 1))⟩,false,⟨none,0,[]⟩⟩:TyV) ⟨(bS (x:=⟨⟨N,J,([(⟨A45,c46,(cD i.A h.A 1).1⟩:PolV)]++([(⟨A38,c39,bZ (((1:Nat):Int))⟩:PolV)].drop 1))⟩,false,⟨none,0,[]⟩⟩) (cB d8 d7 (c)) bO),i7 rfl,i6⟩
 refine g4 ?_;have d:dT b.t.B=bN b.B.A:=by first|exact qG l7|exact nX l7
 refine cL _ _ [j9,u0,u5,u9,A00,u6,A02,A01,A03,A04,A73,A07,A09] cN o0 (.c0 (.c0 (.c0 .nil))) bA.self ?_;refine g6 ?_;refine yQ (λZ=>?_) λZ=>?_
 .refine g21 ?_;have hr:=s.symm.trans (zM e d z8);subst hr;exact rs2 (⟨a.B,a.known,a.values⟩:TyV) ⟨(bS (x:=⟨a.B,a.known,a.values⟩) f8 f5),i7 rfl,i6⟩
 refine one ?_;refine stM rfl (dV hT (k:=1) rfl rfl rfl rfl rfl rfl l7) ?_;refine one ?_;refine stM rfl (dV hT (k:=1) rfl rfl rfl rfl rfl rfl l7) ?_;refine one ?_;refine bB (bT.sl (.slice (iS a.B.I 1 bT.size a.B.cap) (a.B.A.length-1) (a.B.cap-1)) (a.B.A.drop 1)) (kC f7 (by first|exact hc_as|omega) ab5)<|bB (polsF (a.B.A.drop 1)) (iI 1 f7)<|bB (bT.sl (.slice (iS b.B.I 1 bT.size b.B.cap) (b.B.A.length-1) (b.B.cap-1)) (b.B.A.drop 1)) (kC e9 ag5 ab5)<|bB (polsF (b.B.A.drop 1)) (iI 1 e9) ?_;have X:=vZ (iS a.B.I 1 bT.size a.B.cap) (iS b.B.I 1 bT.size b.B.cap) (a.B.cap-1) (b.B.cap-1) (a.B.A.drop 1) (b.B.A.drop 1) ae4;simp only[N9]at X;refine j2 func62 X ⟨e6,d9,d8,d7,i6⟩ λ_=>?_;refine g5 ?_;refine iQ (λW=>?_) λW=>?_
 .refine g9 ?_;have hr:=s.symm.trans (zM e d z8);subst hr;exact rs2 (⟨a.B,a.known,a.values⟩:TyV) ⟨(bS (x:=⟨a.B,a.known,a.values⟩) (Has.of (u8 mT7)) f9),i7 rfl,i6⟩
 refine g3 ?_;refine cL _ _ [j9,u0,u5,u9,A00,u6,A17,A01,A03,A04,A08,A07] cN o0 (.c0 (.c0 (.c0 .nil))) bA.self ?_;refine one ?_;obtain⟨g,y⟩:=gx a.B.A 0 ac6;refine stM rfl (cA hT (k:=0) (bG (Has.of wH)) rfl rfl rfl rfl rfl rfl rfl ac6) ?_;refine stM rfl (fG y 0) ?_;refine one ?_;obtain⟨f,w⟩:=gx b.B.A 0 ac6;refine stM rfl (cA hT (k:=0) (bG f5) rfl rfl rfl rfl rfl rfl rfl ac6) ?_;refine stM rfl (fG w 0) ?_;refine one ?_;refine bF (dC (Has.each g0 (j0 y))) λhpl61=>bF (dC (Has.each f3 (j0 w))) λhql62=>?_;refine j2 func63 (bBj (p:=g) (q:=f) hpl61 hql62) ⟨(Has.each g0 (j0 y)),(Has.each f3 (j0 w)),i6⟩ λ⟨A59,c60⟩=>?_;refine g15 ?_;refine uD (λV=>?_) λV=>?_
 .refine g9 ?_;have hr:=s.symm.trans (bUk e d p6 (sH asd) y w asd);subst hr;exact rs2 (⟨a.B,a.known,a.values⟩:TyV) ⟨(bS (x:=⟨a.B,a.known,a.values⟩) (Has.of (u8 (u8 mT0))) g0),i7 rfl,i6⟩
 refine g5 ?_;refine j7 (m:=⟨A59,c60,(cD g.A f.A 1).1⟩) λb63=>?_;refine dO (E:=bT) (xs:=[(⟨A59,c60,(cD g.A f.A 1).1⟩:PolV)]) .head aa1 ?_;refine one ?_;refine ss (dV hT (k:=1) rfl rfl rfl rfl rfl rfl l7) ?_;refine bB (bT.sl (.slice (iS b.B.I 1 bT.size b.B.cap) (b.B.A.length-1) (b.B.cap-1)) (b.B.A.drop 1)) (kC f6 ag5 ab5)<|bB (polsF (b.B.A.drop 1)) (iI 1 f6) ?_;refine cU .head (bG d8) rfl rfl rfl rfl rfl rfl r7 o6 λM I=>?_;refine fW .head λc=>bR .head<|bB (polsF ([(⟨A59,c60,(cD g.A f.A 1).1⟩:PolV)]++(b.B.A.drop 1))) (iE (gP e6) d8) ?_;refine g9 ?_;refine cG (λR=>?_) (λR=>?_)
 .refine g4 ?_;refine cG (λQ=>?_) (λQ=>?_)
  .refine g7 ?_;refine inc (a.values.A.length+b.values.A.length) ?_;refine g4 ?_;refine bLv (λU=>?_) λU=>?_
   .refine g7 ?_;refine sF (u:=a.values) (v:=b.values) rfl rfl rfl rfl rfl rfl λb66=>?_;refine dO (E:=bCd) (xs:=[a.values,b.values]) .head aa1<|bR .head<|bB (Fact.each [a.values,b.values] cM) (Has.each_cons (Has.of (u8 (u8 mT2))) (Has.each_cons f9 Has.each_nil)) ?_;have Y:=rZ (some ⟨b66,0,none⟩) 2 [a.values,b.values] m9 ag7;rw[oB]at Y;refine j2 func37 Y ⟨d8,d7,i6⟩ λ⟨A67,c68⟩=>?_;refine fW .head λo=>bR .head<|bB (polsF (a.values.A++b.values.A)) (iE (Has.of (u8 (u8 mT2))) f9) ?_;refine j2 func30 (kV M A67 (([(⟨A59,c60,(cD g.A f.A 1).1⟩:PolV)]++(b.B.A.drop 1)).length) ((a.values.A++b.values.A).length) I c68) i6 λ_=>?_;refine g6 ?_;have hr:=s.symm.trans ((bTn e d p6 (sH asd) y w l7 asd asd ae3).trans ad0);subst hr;exact rs2 (⟨⟨M,I,([(⟨A59,c60,(cD g.A f.A 1).1⟩:PolV)]++(b.B.A.drop 1))⟩,true,⟨A67,c68,(a.values.A++b.values.A)⟩⟩:TyV) ⟨(bS (x:=⟨⟨M,I,([(⟨A59,c60,(cD g.A f.A 1).1⟩:PolV)]++(b.B.A.drop 1))⟩,true,⟨A67,c68,(a.values.A++b.values.A)⟩⟩) (cB e8 e7 (c)) (cB d8 d7 (o))),i7 rfl,i6⟩
   refine g5 ?_;refine j2 func32 (fI M (([(⟨A59,c60,(cD g.A f.A 1).1⟩:PolV)]++(b.B.A.drop 1)).length) I) i6 λ_=>?_;refine g5 ?_;have hr:=s.symm.trans (rB e d p6 (sH asd) y w l7 n8);subst hr;exact rs2 (⟨⟨M,I,([(⟨A59,c60,(cD g.A f.A 1).1⟩:PolV)]++(b.B.A.drop 1))⟩,false,⟨none,0,[]⟩⟩:TyV) ⟨(bS (x:=⟨⟨M,I,([(⟨A59,c60,(cD g.A f.A 1).1⟩:PolV)]++(b.B.A.drop 1))⟩,false,⟨none,0,[]⟩⟩) (cB d8 d7 (c)) bO),i7 rfl,i6⟩
  refine g17 ?_;refine j2 func32 (fI M (([(⟨A59,c60,(cD g.A f.A 1).1⟩:PolV)]++(b.B.A.drop 1)).length) I) i6 λ_=>?_;refine g5 ?_;have hr:=s.symm.trans (rB e d p6 (sH asd) y w l7 n8);subst hr;exact rs2 (⟨⟨M,I,([(⟨A59,c60,(cD g.A f.A 1).1⟩:PolV)]++(b.B.A.drop 1))⟩,false,⟨none,0,[]⟩⟩:TyV) ⟨(bS (x:=⟨⟨M,I,([(⟨A59,c60,(cD g.A f.A 1).1⟩:PolV)]++(b.B.A.drop 1))⟩,false,⟨none,0,[]⟩⟩) (cB d8 d7 (c)) bO),i7 rfl,i6⟩
 refine g21 ?_;refine j2 func32 (fI M (([(⟨A59,c60,(cD g.A f.A 1).1⟩:PolV)]++(b.B.A.drop 1)).length) I) i6 λ_=>?_;refine g5 ?_;have hr:=s.symm.trans (rB e d p6 (sH asd) y w l7 n8);subst hr;exact rs2 (⟨⟨M,I,([(⟨A59,c60,(cD g.A f.A 1).1⟩:PolV)]++(b.B.A.drop 1))⟩,false,⟨none,0,[]⟩⟩:TyV) ⟨(bS (x:=⟨⟨M,I,([(⟨A59,c60,(cD g.A f.A 1).1⟩:PolV)]++(b.B.A.drop 1))⟩,false,⟨none,0,[]⟩⟩) (cB d8 d7 (c)) bO),i7 rfl,i6⟩
theorem builtM_ne(z:Int)(a b c d e f:Value):prog.built 43 [(0,k6 z),(1,.agg #[a,b,c,d,e,f])]=some #[k6 z,a,b,c,d,e,f]:=m0
theorem at_one_mono{β:fS}{n:Nat}{Γ:Env}{H:List bK}{F:List Fact}{Q:Exit->Act->World->Prop}{ops:Array Oper}{rest:List Oper}{o:Oper}{d:Nat}{x:Operand}{m:Mono}(hw:want ops Γ o=some true)(ho:o.op= .buildSlice 40 1 #[(0,x)])(hd:o.dst=some d)(hn:B2 d n=true)
  (hx:Γ.ev x=some (.agg #[k6 m.n,k7 m.U.toNat,k7 m.T.toNat,k7 m.R.toNat,k7 m.Q.toNat,k7 m.O.toNat,k7 m.N.toNat])) (k: ∀b,At β n ((d,.slice (some ⟨b,0,none⟩) 1 1)::Γ) (.obj b (.cells (fE.all [m]).toArray 43)::H) F (wpList prog ops Q rest)):At β n Γ H F (wpList prog ops Q (o::rest)):=by
 obtain⟨i,hi,a,hs,_⟩:=bXi;refine kD hw ho hd hn hx underlying40 hi a l7 l7 ?_ k;rw[hs]
 kernel_rfl
theorem polF_own{F:List Fact}{b:Nat}{m:Mono}(h:Has F (fE.sl (.slice (some ⟨b,0,none⟩) 1 1) [m])):Has F (kI ⟨some ⟨b,0,none⟩,1,[m]⟩):=h.and (i7 m9)
theorem bQd(t:Bool):t=true\/t=false:=by cases t<;>simp
theorem maxZ(a b:Int):(if b>a then b else a)=max a b:=by split<;>omega
theorem wf_one{a:TyV}(h:WfT a.t)(k:a.known=true)(hs:a.B.A.length=0):a.values.A.length=1:=by
 have e:a.t.values.length=1:=by
  rcases (h.kn k).2 with h|h
  .exact h.2
  .have h:bN a.B.A=_:=h;rw[dY hs]at h;cases h
 have e:(bN a.values.A).length=1:=e
 rwa[bI]at e
theorem wf_val{a:TyV}(h:WfT a.t){p:PolV}{i:Nat}(hp:a.values.A[i]?=some p):dE p.A=true:=h.vr _ (j0 (jX hp))
theorem bPm{p:List Mono}(h:dE p=true){i:Nat}{m:Mono}(hm:p[i]?=some m): -16777216<=m.n/\m.n<=16777216:=by simp only[dE,Bool.and_eq_true]at h;have:=zU h.2 m (j0 hm);simp only[mH,decide_eq_true_eq]at this;omega
theorem bVu{k:Nat}{n:Int}(h:fO (bZ k) n=true):n<=k:=by
 unfold bZ gU at h;split at h
 .simp[fO]at h;omega
 .split at h
  .simp[fO]at h;omega
  .simp[fO,bAp]at h;omega
section
variable {v : List Mono} {m : Mono}
theorem cnt0(h:v.length=0):pV v=some 0:=by rw[W7.1 h];rfl
theorem cnt2(h:1<v.length):pV v=none:=by
 match v,h with
 |_::_::_,_=>rfl
theorem cnt1(h:v.length=1)(hm:v[0]?=some m)(c:fO [bKu m] 1=true):pV v=some m.n:=by
 match v,h with
 |[x],_=>
  simp at hm;subst hm;simp[pV,c]
theorem cnt1b(h:v.length=1)(hm:v[0]?=some m)(c:fO [bKu m] 1=false):pV v=none:=by
 match v,h with
 |[x],_=>
  simp at hm;subst hm;simp[pV,c]
end
theorem bMq{tk:Bool}{n:Int}{l:List PolV}{k:Nat}(h:tk=decide (0<=n))(hk:(k:Int)=if n<0 then n+l.length else n):xF tk n (bN l)=bN (l.take k):=by unfold xF;rw[if_pos h,bI,<-hk,bVz];rfl
theorem bLs{tk:Bool}{n:Int}{l:List PolV}{k:Nat}(h:tk≠decide (0<=n))(hk:(k:Int)=if n<0 then n+l.length else n):xF tk n (bN l)=bN (l.drop k):=by unfold xF;rw[if_neg h,bI,<-hk,oT];rfl
theorem bGc{l:List PolV}{y p:PolV}(h:l[0]?=some y):bN (l.set 0 p)=p.A::(bN l).tail:=by
 cases l with
 |nil=>simp at h
 |cons a l=>rfl
section
variable {F : List Fact} {l : Sl PolV} {k : Nat}
theorem nJ(h:Has F (cM l))(hc:l.A.length<=l.cap)(hk:k<=l.A.length):Has F (cM ⟨l.I,l.cap,l.A.take k⟩):=
 cB (by rw[K6,L3 hk];exact bBq (oL h) hk) (polsF_take k (pK h)) (by rw[K6];omega)
theorem sX(h:Has F (cM l))(hc:l.A.length<=l.cap)(hk:k<=l.A.length):Has F (cM ⟨iS l.I k bT.size l.cap,l.cap-k,l.A.drop k⟩):=
 cB (by have:=kC (oL h) hc hk;rwa[<-N9]at this) (iI k (pK h)) al6
theorem bEv{xs:List PolV}{p:PolV}(n:Nat)(h:Has F (polsF xs))(hp:Has F (kI p)):Has F (polsF (xs.set n p)):=λS w k q hq=>by
 rcases List.mem_or_eq_of_mem_set hq with hq|rfl
 .exact h S w k q hq
 .exact hp S w k
end
section
variable {tk : Bool} {a b : TyV} {x y : PolV} {n : Int}
theorem ptT_a(h:0<a.B.A.length\/b.B.A.length=0):lT tk a.t b.t=(a.t,90):=by
 unfold lT;rw[if_pos]
 rcases h with h|h
 .exact .inl (gI h)
 .exact .inr (dY h)
theorem bLk(h:a.B.A.length=0)(k:0<b.B.A.length): ¬(a.t.B≠[]\/b.t.B=[]):=by
 rintro(e|e)
 .exact e (dY h)
 .exact gI k e
theorem ptT_b(h:a.B.A.length=0)(k:0<b.B.A.length)(g:a.known=false):lT tk a.t b.t=(a.t,92):=by unfold lT;rw[if_neg (bLk h k)];exact if_pos g
theorem ptT_c(h:a.B.A.length=0)(k:0<b.B.A.length)(g:a.known=true)(hx:a.values.A[0]?=some x)(hc:pV x.A=none):lT tk a.t b.t=(a.t,93):=by
 have c:a.t.values.headD []=x.A:=kS hx;have g: ¬a.t.known=false:=by show ¬a.known=false;simp[g]
 unfold lT;rw[if_neg (bLk h k),if_neg g,c,hc]
theorem ptT_d(h:a.B.A.length=0)(k:0<b.B.A.length)(g:a.known=true)(hx:a.values.A[0]?=some x)(hc:pV x.A=some n)(hy:b.B.A[0]?=some y)(c:fO y.A (max n (-n))=false):lT tk a.t b.t=(a.t,93):=by
 have e:a.t.values.headD []=x.A:=kS hx;have d:b.t.B.headD []=y.A:=kS hy;have g: ¬a.t.known=false:=by show ¬a.known=false;simp[g]
 unfold lT;rw[if_neg (bLk h k),if_neg g,e,hc];dsimp only;rw[d,if_pos c]
theorem ptT_e(h:a.B.A.length=0)(k:0<b.B.A.length)(g:a.known=true)(hx:a.values.A[0]?=some x)(hc:pV x.A=some n)(hy:b.B.A[0]?=some y)(c:fO y.A (max n (-n))=true)(e:(cD y.A (bZ (max n (-n))) (-1)).2≠0):lT false a.t b.t=(a.t,95):=by
 have f:a.t.values.headD []=x.A:=kS hx;have d:b.t.B.headD []=y.A:=kS hy;have g: ¬a.t.known=false:=by show ¬a.known=false;simp[g]
 unfold lT;rw[if_neg (bLk h k),if_neg g,f,hc];dsimp only;rw[d,if_neg (by simp[c]),if_neg m9,if_pos e]
theorem bRc{A:Option Addr}{q:Nat}{p:PolV}{V:Sl PolV}(h:a.B.A.length=0)(k:0<b.B.A.length)(g:a.known=true)(hx:a.values.A[0]?=some x)(hc:pV x.A=some n)(hy:b.B.A[0]?=some y)(c:fO y.A (max n (-n))=true)(hp:p.A=bZ (max n (-n)))
  (hV:bN V.A=if b.known=true then xF true n (bN b.values.A)else bN b.values.A):lT true a.t b.t=((⟨⟨A,q,b.B.A.set 0 p⟩,b.known,V⟩:TyV).t,0):=by
 have e:a.t.values.headD []=x.A:=kS hx;have d:b.t.B.headD []=y.A:=kS hy;have g: ¬a.t.known=false:=by show ¬a.known=false;simp[g]
 unfold lT;rw[if_neg (bLk h k),if_neg g,e,hc];dsimp only;rw[d,if_neg (by simp[c]),if_pos rfl];show _=((⟨bN (b.B.A.set 0 p),b.known,bN V.A⟩:TyP),(0:Int));rw[bGc hy,hp,hV];rfl
theorem bVb{A:Option Addr}{q:Nat}{p:PolV}{V:Sl PolV}(h:a.B.A.length=0)(k:0<b.B.A.length)(g:a.known=true)(hx:a.values.A[0]?=some x)(hc:pV x.A=some n)(hy:b.B.A[0]?=some y)(c:fO y.A (max n (-n))=true)(e:(cD y.A (bZ (max n (-n))) (-1)).2=0)(hp:p.A=(cD y.A (bZ (max n (-n))) (-1)).1)
  (hV:bN V.A=if b.known=true then xF false n (bN b.values.A)else bN b.values.A):lT false a.t b.t=((⟨⟨A,q,b.B.A.set 0 p⟩,b.known,V⟩:TyV).t,0):=by
 have f:a.t.values.headD []=x.A:=kS hx;have d:b.t.B.headD []=y.A:=kS hy;have g: ¬a.t.known=false:=by show ¬a.known=false;simp[g]
 unfold lT;rw[if_neg (bLk h k),if_neg g,f,hc];dsimp only;rw[d,if_neg (by simp[c]),if_neg m9,if_neg al9];show _=((⟨bN (b.B.A.set 0 p),b.known,bN V.A⟩:TyP),(0:Int));rw[bGc hy,hp,hV];rfl
theorem bLw(hb:WfT b.t)(k:0<b.B.A.length)(hk:b.known=true)(hy:b.B.A[0]?=some y){m:Int}(c:fO y.A m=true):m<=b.values.A.length:=by
 have a:=jX hy
 rcases (hb.kn hk).2 with h|h
 .exact absurd h.1 (gI k)
 .have h:bN b.B.A=[bZ (bN b.values.A).length]:=h;rw[h,bI]at a;simp at a;rw[<-a]at c;exact bVu c
end
theorem bVm(tk:Bool)(a b:TyV)(ha:WfT a.t)(hb:WfT b.t):cY prog 60 [.bool tk,.agg #[j8 a.B,.bool a.known,j8 a.values],.agg #[j8 b.B,.bool b.known,j8 b.values]] [] [tyF a,tyF b] (λ(x:TyV)=> .tuple #[tyC x,k6 (lT tk a.t b.t).2]) (λ_=>[]) (λ(x:TyV)=>[tyF x,Fact.pure (x.t=(lT tk a.t b.t).1)]):=by
 have hT:=dK;have hsa:=oF ha;have Z:=wA ha;have hsb:=oF hb;have Y:=wA hb;generalize s:lT tk a.t b.t=r;refine j5 func60 ntmps60 ?_;intro β hM;refine bP<|bB (cM a.B) (jR d7) ?_;refine cE a.B mT0 λW=>bB (cM a.values) (jS e6)<|cE a.values mT0 λU=>bB (cM b.B) (jR f3)<|cE b.B mT0 λhc_bs=>bB (cM b.values) (jS f7)<|cE b.values mT0 λh=>?_;refine one ?_;refine j4 λb1=>?_;refine j4 λb2=>?_;refine j1 sQ λb3=>?_;refine g12 ?_;refine lR (λP=>?_) λP=>?_
 .refine g19 ?_;have hr:=s.symm.trans (ptT_a l7);subst hr;exact rs2 (⟨a.B,a.known,a.values⟩:TyV) ⟨(bS (x:=⟨a.B,a.known,a.values⟩) f8 f5),i7 rfl,i6⟩
 refine g8 ?_;refine gN (λhc14=>?_) λhc14=>?_
 .refine g10 ?_;have hr:=s.symm.trans (ptT_a l7);subst hr;exact rs2 (⟨a.B,a.known,a.values⟩:TyV) ⟨(bS (x:=⟨a.B,a.known,a.values⟩) f8 f5),i7 rfl,i6⟩
 refine g8 ?_;refine iQ (λhc26=>?_) λhc26=>?_
 .refine g10 ?_;have hr:=s.symm.trans (ptT_b l7 l7 asd);subst hr;exact rs2 (⟨a.B,a.known,a.values⟩:TyV) ⟨(bS (x:=⟨a.B,a.known,a.values⟩) f8 f5),i7 rfl,i6⟩
 refine g10 ?_;have hv1:=wf_one ha asd l7;refine g3 ?_;obtain⟨x4,f⟩:=gx a.values.A 0;refine ss (cA hT (k:=0) (bG f3) rfl rfl rfl rfl rfl rfl rfl l7) ?_;refine ss (j6 hT (dD.knows (bG f3) (k:=0) (x:=x4) f 0)) ?_;refine bB (kI x4) (Has.each e9 (j0 f))<|bB (fE.sl (.slice x4.I x4.A.length x4.cap) x4.A) (yK d7) ?_;have Q:=wf_val ha f;refine g9 ?_;refine lR (λO=>?_) λO=>?_
 .refine g26 ?_;have hr:=s.symm.trans (ptT_c l7 l7 asd f (cnt2 l7));subst hr;exact rs2 (⟨a.B,a.known,a.values⟩:TyV) ⟨(bS (x:=⟨a.B,a.known,a.values⟩) g0 f7),i7 rfl,i6⟩
 refine g4 ?_;refine sD (λN=>?_) λN=>?_
 .refine one ?_;obtain⟨x6,w⟩:=gx x4.A 0;refine ss (cA hT (k:=0) (bG d7) rfl rfl rfl rfl rfl rfl rfl l7) ?_;refine one ?_;refine ss (fP hT (dD.knows (bG d7) (k:=0) (x:=x6) w 1) rfl rfl rfl rfl rfl) ?_;refine ss (j3 (builtM_ne _ _ _ _ _ _ _)) ?_;refine at_one_mono (m:=(bKu x6)) rfl rfl rfl rfl rfl λX=>?_;refine dO (E:=fE) (xs:=[(bKu x6)]) .head aa1<|bR .head<|bB (kI ⟨some ⟨X,0,none⟩,1,[(bKu x6)]⟩) (polF_own d7)<|bF (dC d7) λM=>?_;refine j2 func98 (wR (p:=⟨some ⟨X,0,none⟩,1,[(bKu x6)]⟩) 1 M) ⟨d7,i6⟩ λ_=>?_;refine g5 ?_;refine iQ (λB=>?_) λB=>?_
  .refine g9 ?_;have hr:=s.symm.trans (ptT_c l7 l7 asd f (cnt1b l7 w (by simpa using B)));subst hr;exact rs2 (⟨a.B,a.known,a.values⟩:TyV) ⟨(bS (x:=⟨a.B,a.known,a.values⟩) (Has.of (u8 mT7)) f9),i7 rfl,i6⟩
  refine g5 ?_;refine bC (t':=true) (decide_eq_true l7) ?_;refine g5 ?_;refine ss (cA hT (k:=0) (bG d9) rfl rfl rfl rfl rfl rfl rfl l7) ?_;refine one ?_;refine ss (j6 hT (dD.knows (bG d9) (k:=0) (x:=x6) w 0)) ?_;refine g4 ?_;have g:=cnt1 l7 w (by simpa using B);have R:=bPm Q w;refine g4 ?_;refine bJ (z':= -x6.n) ah8 ?_;refine one ?_;refine bJ (z':=max x6.n (-x6.n)) (maxZ _ _) ?_;refine g8 ?_;obtain⟨x10,e⟩:=gx b.B.A 0;refine ss (cA hT (k:=0) (bG f5) rfl rfl rfl rfl rfl rfl rfl l7) ?_;refine ss (j6 hT (dD.knows (bG f5) (k:=0) (x:=x10) e 0)) ?_;refine one ?_;refine bF (dC (Has.each f3 (j0 e))) λK=>?_;refine j2 func98 (wR (p:=x10) (max x6.n (-x6.n)) K) ⟨(Has.each f3 (j0 e)),i6⟩ λ_=>?_;refine g3 ?_;refine iQ (λz=>?_) λz=>?_
  .refine g9 ?_;have hr:=s.symm.trans (ptT_d l7 l7 asd f g e asd);subst hr;exact rs2 (⟨a.B,a.known,a.values⟩:TyV) ⟨(bS (x:=⟨a.B,a.known,a.values⟩) (Has.of (u8 mT7)) f9),i7 rfl,i6⟩
  refine g6 ?_;refine j2 func94 (bCi b.B.I b.B.cap b.B.A l7) ⟨f5,i6⟩ λ⟨A13,c14⟩=>?_;refine bB (polsF b.B.A) f3 ?_;refine g7 ?_;refine j2 func31 (lO ((max x6.n (-x6.n)))) i6 λ⟨A15,c16⟩=>?_;refine g5 ?_
  rcases bQd tk with u|u
  .subst u;refine g9 ?_;refine uL kT1 l7 λg17 hg=>?_;subst hg;refine g4 ?_;refine ss (gB hT (k:=0) rfl rfl rfl rfl rfl rfl l7) ?_;refine fN hT (k:=0) (fo:=0) (y':=(⟨A15,c16,bZ ((max x6.n (-x6.n)))⟩:PolV)) kT1 rfl rfl rfl rfl rfl rfl rfl rfl rfl e rfl ?_;refine g4 ?_;rw[show b.B.A.length=(b.B.A.set 0 (⟨A15,c16,bZ ((max x6.n (-x6.n)))⟩:PolV)).length from X4.symm];refine bB (polsF (b.B.A.set 0 (⟨A15,c16,bZ ((max x6.n (-x6.n)))⟩:PolV))) (bEv 0 d8 d7)<|fW .head λc=>bR .head ?_;refine g5 ?_;refine fX (λo=>?_) λo=>?_
   .refine bP ?_;have L:=bLw hb l7 asd e asd;refine g12 ?_;refine dP (λj=>?_) λj=>?_
    .refine g6 ?_;refine bJ (z':=(x6.n+(b.values.A.length:Nat))) (yW l7 l7) ?_;refine g8 ?_;refine bC (t':=false) (decide_eq_false l7) ?_;refine one ?_;refine bC (t':=false) m6 ?_;refine g7 ?_;have hkl:(x6.n+(b.values.A.length:Nat)).toNat<=b.values.A.length:=l7
     refine ss (dV hT (k:=(x6.n+(b.values.A.length:Nat)).toNat) rfl rfl rfl rfl rfl l7 l7) ?_;refine hZ (v':= .slice (iS b.values.I ((x6.n+(b.values.A.length:Nat)).toNat) bT.size b.values.cap) (b.values.A.drop ((x6.n+(b.values.A.length:Nat)).toNat)).length (b.values.cap-(x6.n+(b.values.A.length:Nat)).toNat)) ad8<|bB (cM ⟨iS b.values.I ((x6.n+(b.values.A.length:Nat)).toNat) bT.size b.values.cap,b.values.cap-(x6.n+(b.values.A.length:Nat)).toNat,b.values.A.drop ((x6.n+(b.values.A.length:Nat)).toNat)⟩) (sX f7 h hkl) ?_;refine g12 ?_;have hr:=s.symm.trans (bRc (A:=(some ⟨g17,0,none⟩)) (q:=c14) (p:=⟨A15,c16,bZ ((max x6.n (-x6.n)))⟩) (V:=⟨iS b.values.I ((x6.n+(b.values.A.length:Nat)).toNat) bT.size b.values.cap,b.values.cap-(x6.n+(b.values.A.length:Nat)).toNat,b.values.A.drop ((x6.n+(b.values.A.length:Nat)).toNat)⟩) l7 l7 asd f g e asd rfl (((if_pos (show b.known=true from by assumption)).trans (bLs (k:=(x6.n+(b.values.A.length:Nat)).toNat) (tk:=true) (n:=x6.n) (l:=b.values.A) aj3 (by split<;>omega))).symm));subst hr;exact rs2 (⟨⟨(some ⟨g17,0,none⟩),c14,(b.B.A.set 0 (⟨A15,c16,bZ ((max x6.n (-x6.n)))⟩:PolV))⟩,b.known,⟨iS b.values.I ((x6.n+(b.values.A.length:Nat)).toNat) bT.size b.values.cap,b.values.cap-(x6.n+(b.values.A.length:Nat)).toNat,b.values.A.drop ((x6.n+(b.values.A.length:Nat)).toNat)⟩⟩:TyV) ⟨(bS (x:=⟨⟨(some ⟨g17,0,none⟩),c14,(b.B.A.set 0 (⟨A15,c16,bZ ((max x6.n (-x6.n)))⟩:PolV))⟩,b.known,⟨iS b.values.I ((x6.n+(b.values.A.length:Nat)).toNat) bT.size b.values.cap,b.values.cap-(x6.n+(b.values.A.length:Nat)).toNat,b.values.A.drop ((x6.n+(b.values.A.length:Nat)).toNat)⟩⟩) (cB d8 d9 (c)) d7),i7 rfl,i6⟩
    refine g7 ?_;refine bC (t':=true) (decide_eq_true l7) ?_;refine one ?_;refine bC (t':=true) m6 ?_;refine g7 ?_;have hkl:x6.n.toNat<=b.values.A.length:=l7
    refine ss (iY hT (k:=x6.n.toNat) rfl rfl rfl rfl rfl l7 l7) ?_;refine hZ (v':= .slice b.values.I (b.values.A.take (x6.n.toNat)).length b.values.cap) ab9<|bB (cM ⟨b.values.I,b.values.cap,b.values.A.take (x6.n.toNat)⟩) (nJ f7 h hkl) ?_;refine g12 ?_;have hr:=s.symm.trans (bRc (A:=(some ⟨g17,0,none⟩)) (q:=c14) (p:=⟨A15,c16,bZ ((max x6.n (-x6.n)))⟩) (V:=⟨b.values.I,b.values.cap,b.values.A.take (x6.n.toNat)⟩) l7 l7 asd f g e asd rfl (((if_pos (show b.known=true from by assumption)).trans (bMq (k:=x6.n.toNat) (tk:=true) (n:=x6.n) (l:=b.values.A) (decide_eq_true l7).symm (by split<;>omega))).symm));subst hr;exact rs2 (⟨⟨(some ⟨g17,0,none⟩),c14,(b.B.A.set 0 (⟨A15,c16,bZ ((max x6.n (-x6.n)))⟩:PolV))⟩,b.known,⟨b.values.I,b.values.cap,b.values.A.take (x6.n.toNat)⟩⟩:TyV) ⟨(bS (x:=⟨⟨(some ⟨g17,0,none⟩),c14,(b.B.A.set 0 (⟨A15,c16,bZ ((max x6.n (-x6.n)))⟩:PolV))⟩,b.known,⟨b.values.I,b.values.cap,b.values.A.take (x6.n.toNat)⟩⟩) (cB d8 d9 (c)) d7),i7 rfl,i6⟩
   refine g10 ?_;have hr:=s.symm.trans (bRc (A:=(some ⟨g17,0,none⟩)) (q:=c14) (p:=⟨A15,c16,bZ ((max x6.n (-x6.n)))⟩) (V:=b.values) l7 l7 asd f g e asd rfl ((if_neg ag3).symm));subst hr;exact rs2 (⟨⟨(some ⟨g17,0,none⟩),c14,(b.B.A.set 0 (⟨A15,c16,bZ ((max x6.n (-x6.n)))⟩:PolV))⟩,b.known,b.values⟩:TyV) ⟨(bS (x:=⟨⟨(some ⟨g17,0,none⟩),c14,(b.B.A.set 0 (⟨A15,c16,bZ ((max x6.n (-x6.n)))⟩:PolV))⟩,b.known,b.values⟩) (cB d7 d8 (c)) f7),i7 rfl,i6⟩
  subst u;refine g15 ?_;refine ss (cA hT (k:=0) (cI kT1) rfl rfl rfl rfl rfl rfl rfl l7) ?_;refine ss (j6 hT (dD.knows (cI kT1) (k:=0) (x:=x10) e 0)) ?_;refine one ?_;refine bF (dC (Has.each f6 (j0 e))) λJ=>bF (dC d7) λD=>?_;refine j2 func58 (bRt (p:=x10) (q:=⟨A15,c16,bZ ((max x6.n (-x6.n)))⟩) J D) ⟨(Has.each f6 (j0 e)),d7,i6⟩ λ⟨A18,c19⟩=>?_;refine g13 ?_;refine uD (λy=>?_) λy=>?_
  .refine g9 ?_;have hr:=s.symm.trans (ptT_e l7 l7 asd f g e asd asd);subst hr;exact rs2 (⟨a.B,a.known,a.values⟩:TyV) ⟨(bS (x:=⟨a.B,a.known,a.values⟩) (Has.of (u8 (u8 mT2))) (Has.of (u8 mT7))),i7 rfl,i6⟩
  refine g3 ?_;refine uL kT1 l7 λg22 hg=>?_;subst hg;refine g4 ?_;refine ss (gB hT (k:=0) rfl rfl rfl rfl rfl rfl l7) ?_;refine fN hT (k:=0) (fo:=0) (y':=(⟨A18,c19,(cD x10.A (bZ ((max x6.n (-x6.n)))) (-1)).1⟩:PolV)) kT1 rfl rfl rfl rfl rfl rfl rfl rfl rfl e rfl ?_;refine g4 ?_;rw[show b.B.A.length=(b.B.A.set 0 (⟨A18,c19,(cD x10.A (bZ ((max x6.n (-x6.n)))) (-1)).1⟩:PolV)).length from X4.symm];refine bB (polsF (b.B.A.set 0 (⟨A18,c19,(cD x10.A (bZ ((max x6.n (-x6.n)))) (-1)).1⟩:PolV))) (bEv 0 d9 d7)<|fW .head λc=>bR .head ?_;refine g5 ?_;refine fX (λo=>?_) λo=>?_
  .refine bP ?_;have L:=bLw hb l7 asd e asd;refine g12 ?_;refine dP (λj=>?_) λj=>?_
   .refine g6 ?_;refine bJ (z':=(x6.n+(b.values.A.length:Nat))) (yW l7 l7) ?_;refine g8 ?_;refine bC (t':=false) (decide_eq_false l7) ?_;refine one ?_;refine bC (t':=true) m6 ?_;refine g7 ?_;have hkl:(x6.n+(b.values.A.length:Nat)).toNat<=b.values.A.length:=l7
    refine ss (iY hT (k:=(x6.n+(b.values.A.length:Nat)).toNat) rfl rfl rfl rfl rfl l7 l7) ?_;refine hZ (v':= .slice b.values.I (b.values.A.take ((x6.n+(b.values.A.length:Nat)).toNat)).length b.values.cap) ab9<|bB (cM ⟨b.values.I,b.values.cap,b.values.A.take ((x6.n+(b.values.A.length:Nat)).toNat)⟩) (nJ f8 h hkl) ?_;refine g12 ?_;have hr:=s.symm.trans (bVb (A:=(some ⟨g22,0,none⟩)) (q:=c14) (p:=⟨A18,c19,(cD x10.A (bZ ((max x6.n (-x6.n)))) (-1)).1⟩) (V:=⟨b.values.I,b.values.cap,b.values.A.take ((x6.n+(b.values.A.length:Nat)).toNat)⟩) l7 l7 asd f g e asd l7 rfl (((if_pos (show b.known=true from by assumption)).trans (bMq (k:=(x6.n+(b.values.A.length:Nat)).toNat) (tk:=false) (n:=x6.n) (l:=b.values.A) (decide_eq_false l7).symm (by split<;>omega))).symm));subst hr;exact rs2 (⟨⟨(some ⟨g22,0,none⟩),c14,(b.B.A.set 0 (⟨A18,c19,(cD x10.A (bZ ((max x6.n (-x6.n)))) (-1)).1⟩:PolV))⟩,b.known,⟨b.values.I,b.values.cap,b.values.A.take ((x6.n+(b.values.A.length:Nat)).toNat)⟩⟩:TyV) ⟨(bS (x:=⟨⟨(some ⟨g22,0,none⟩),c14,(b.B.A.set 0 (⟨A18,c19,(cD x10.A (bZ ((max x6.n (-x6.n)))) (-1)).1⟩:PolV))⟩,b.known,⟨b.values.I,b.values.cap,b.values.A.take ((x6.n+(b.values.A.length:Nat)).toNat)⟩⟩) (cB d8 d9 (c)) d7),i7 rfl,i6⟩
   refine g7 ?_;refine bC (t':=true) (decide_eq_true l7) ?_;refine one ?_;refine bC (t':=false) m6 ?_;refine g7 ?_;have hkl:x6.n.toNat<=b.values.A.length:=l7
   refine ss (dV hT (k:=x6.n.toNat) rfl rfl rfl rfl rfl l7 l7) ?_;refine hZ (v':= .slice (iS b.values.I (x6.n.toNat) bT.size b.values.cap) (b.values.A.drop (x6.n.toNat)).length (b.values.cap-x6.n.toNat)) ad8<|bB (cM ⟨iS b.values.I (x6.n.toNat) bT.size b.values.cap,b.values.cap-x6.n.toNat,b.values.A.drop (x6.n.toNat)⟩) (sX f8 h hkl) ?_;refine g12 ?_;have hr:=s.symm.trans (bVb (A:=(some ⟨g22,0,none⟩)) (q:=c14) (p:=⟨A18,c19,(cD x10.A (bZ ((max x6.n (-x6.n)))) (-1)).1⟩) (V:=⟨iS b.values.I (x6.n.toNat) bT.size b.values.cap,b.values.cap-x6.n.toNat,b.values.A.drop (x6.n.toNat)⟩) l7 l7 asd f g e asd l7 rfl (((if_pos (show b.known=true from by assumption)).trans (bLs (k:=x6.n.toNat) (tk:=false) (n:=x6.n) (l:=b.values.A) aj4 (by split<;>omega))).symm));subst hr;exact rs2 (⟨⟨(some ⟨g22,0,none⟩),c14,(b.B.A.set 0 (⟨A18,c19,(cD x10.A (bZ ((max x6.n (-x6.n)))) (-1)).1⟩:PolV))⟩,b.known,⟨iS b.values.I (x6.n.toNat) bT.size b.values.cap,b.values.cap-x6.n.toNat,b.values.A.drop (x6.n.toNat)⟩⟩:TyV) ⟨(bS (x:=⟨⟨(some ⟨g22,0,none⟩),c14,(b.B.A.set 0 (⟨A18,c19,(cD x10.A (bZ ((max x6.n (-x6.n)))) (-1)).1⟩:PolV))⟩,b.known,⟨iS b.values.I (x6.n.toNat) bT.size b.values.cap,b.values.cap-x6.n.toNat,b.values.A.drop (x6.n.toNat)⟩⟩) (cB d8 d9 (c)) d7),i7 rfl,i6⟩
  refine g10 ?_;have hr:=s.symm.trans (bVb (A:=(some ⟨g22,0,none⟩)) (q:=c14) (p:=⟨A18,c19,(cD x10.A (bZ ((max x6.n (-x6.n)))) (-1)).1⟩) (V:=b.values) l7 l7 asd f g e asd l7 rfl ((if_neg ag3).symm));subst hr;exact rs2 (⟨⟨(some ⟨g22,0,none⟩),c14,(b.B.A.set 0 (⟨A18,c19,(cD x10.A (bZ ((max x6.n (-x6.n)))) (-1)).1⟩:PolV))⟩,b.known,b.values⟩:TyV) ⟨(bS (x:=⟨⟨(some ⟨g22,0,none⟩),c14,(b.B.A.set 0 (⟨A18,c19,(cD x10.A (bZ ((max x6.n (-x6.n)))) (-1)).1⟩:PolV))⟩,b.known,b.values⟩) (cB d7 d8 (c)) f8),i7 rfl,i6⟩
 refine g18 ?_;refine bC (t':=false) (decide_eq_false l7) ?_;refine g6 ?_;have g:=cnt0 (v:=x4.A) l7;have R: -16777216<=(0:Int)/\(0:Int)<=16777216:=m6
 refine g4 ?_;refine bJ (z':= -(0:Int)) ah8 ?_;refine one ?_;refine bJ (z':=max (0:Int) (-(0:Int))) (maxZ _ _) ?_;refine g8 ?_;obtain⟨i,d⟩:=gx b.B.A 0;refine ss (cA hT (k:=0) (bG e9) rfl rfl rfl rfl rfl rfl rfl l7) ?_;refine ss (j6 hT (dD.knows (bG e9) (k:=0) (x:=i) d 0)) ?_;refine one ?_;refine bF (dC (Has.each e8 (j0 d))) λI=>?_;refine j2 func98 (wR (p:=i) (max (0:Int) (-(0:Int))) I) ⟨(Has.each e8 (j0 d)),i6⟩ λ_=>?_;refine g3 ?_;refine iQ (λz=>?_) λz=>?_
 .refine g9 ?_;have hr:=s.symm.trans (ptT_d l7 l7 asd f g d asd);subst hr;exact rs2 (⟨a.B,a.known,a.values⟩:TyV) ⟨(bS (x:=⟨a.B,a.known,a.values⟩) g0 f7),i7 rfl,i6⟩
 refine g6 ?_;refine j2 func94 (bCi b.B.I b.B.cap b.B.A l7) ⟨e9,i6⟩ λ⟨A26,c27⟩=>?_;refine bB (polsF b.B.A) e8 ?_;refine g7 ?_;refine j2 func31 (lO ((max (0:Int) (-(0:Int))))) i6 λ⟨A28,c29⟩=>?_;refine g5 ?_
 rcases bQd tk with u|u
 .subst u;refine g9 ?_;refine uL kT1 l7 λg30 hg=>?_;subst hg;refine g4 ?_;refine ss (gB hT (k:=0) rfl rfl rfl rfl rfl rfl l7) ?_;refine fN hT (k:=0) (fo:=0) (y':=(⟨A28,c29,bZ ((max (0:Int) (-(0:Int))))⟩:PolV)) kT1 rfl rfl rfl rfl rfl rfl rfl rfl rfl d rfl ?_;refine g4 ?_;rw[show b.B.A.length=(b.B.A.set 0 (⟨A28,c29,bZ ((max (0:Int) (-(0:Int))))⟩:PolV)).length from X4.symm];refine bB (polsF (b.B.A.set 0 (⟨A28,c29,bZ ((max (0:Int) (-(0:Int))))⟩:PolV))) (bEv 0 d8 d7)<|fW .head λc=>bR .head ?_;refine g5 ?_;refine fX (λo=>?_) λo=>?_
  .refine bP ?_;have L:=bLw hb l7 asd d asd;refine g12 ?_;refine dP (λj=>?_) λj=>?_
   .refine g6 ?_;refine bJ (z':=((0:Int)+(b.values.A.length:Nat))) (yW l7 l7) ?_;refine g8 ?_;refine bC (t':=false) (decide_eq_false l7) ?_;refine one ?_;refine bC (t':=false) m6 ?_;refine g7 ?_;have hkl:((0:Int)+(b.values.A.length:Nat)).toNat<=b.values.A.length:=l7
    refine ss (dV hT (k:=((0:Int)+(b.values.A.length:Nat)).toNat) rfl rfl rfl rfl rfl l7 l7) ?_;refine hZ (v':= .slice (iS b.values.I (((0:Int)+(b.values.A.length:Nat)).toNat) bT.size b.values.cap) (b.values.A.drop (((0:Int)+(b.values.A.length:Nat)).toNat)).length (b.values.cap-((0:Int)+(b.values.A.length:Nat)).toNat)) ad8<|bB (cM ⟨iS b.values.I (((0:Int)+(b.values.A.length:Nat)).toNat) bT.size b.values.cap,b.values.cap-((0:Int)+(b.values.A.length:Nat)).toNat,b.values.A.drop (((0:Int)+(b.values.A.length:Nat)).toNat)⟩) (sX f5 h hkl) ?_;refine g12 ?_;have hr:=s.symm.trans (bRc (A:=(some ⟨g30,0,none⟩)) (q:=c27) (p:=⟨A28,c29,bZ ((max (0:Int) (-(0:Int))))⟩) (V:=⟨iS b.values.I (((0:Int)+(b.values.A.length:Nat)).toNat) bT.size b.values.cap,b.values.cap-((0:Int)+(b.values.A.length:Nat)).toNat,b.values.A.drop (((0:Int)+(b.values.A.length:Nat)).toNat)⟩) l7 l7 asd f g d asd rfl (((if_pos (show b.known=true from by assumption)).trans (bLs (k:=((0:Int)+(b.values.A.length:Nat)).toNat) (tk:=true) (n:=(0:Int)) (l:=b.values.A) aj3 (by split<;>omega))).symm));subst hr;exact rs2 (⟨⟨(some ⟨g30,0,none⟩),c27,(b.B.A.set 0 (⟨A28,c29,bZ ((max (0:Int) (-(0:Int))))⟩:PolV))⟩,b.known,⟨iS b.values.I (((0:Int)+(b.values.A.length:Nat)).toNat) bT.size b.values.cap,b.values.cap-((0:Int)+(b.values.A.length:Nat)).toNat,b.values.A.drop (((0:Int)+(b.values.A.length:Nat)).toNat)⟩⟩:TyV) ⟨(bS (x:=⟨⟨(some ⟨g30,0,none⟩),c27,(b.B.A.set 0 (⟨A28,c29,bZ ((max (0:Int) (-(0:Int))))⟩:PolV))⟩,b.known,⟨iS b.values.I (((0:Int)+(b.values.A.length:Nat)).toNat) bT.size b.values.cap,b.values.cap-((0:Int)+(b.values.A.length:Nat)).toNat,b.values.A.drop (((0:Int)+(b.values.A.length:Nat)).toNat)⟩⟩) (cB d8 d9 (c)) d7),i7 rfl,i6⟩
   refine g7 ?_;refine bC (t':=true) (decide_eq_true l7) ?_;refine one ?_;refine bC (t':=true) m6 ?_;refine g7 ?_;have hkl:(0:Int).toNat<=b.values.A.length:=l7
   refine ss (iY hT (k:=(0:Int).toNat) rfl rfl rfl rfl rfl l7 l7) ?_;refine hZ (v':= .slice b.values.I (b.values.A.take ((0:Int).toNat)).length b.values.cap) ab9<|bB (cM ⟨b.values.I,b.values.cap,b.values.A.take ((0:Int).toNat)⟩) (nJ f5 h hkl) ?_;refine g12 ?_;have hr:=s.symm.trans (bRc (A:=(some ⟨g30,0,none⟩)) (q:=c27) (p:=⟨A28,c29,bZ ((max (0:Int) (-(0:Int))))⟩) (V:=⟨b.values.I,b.values.cap,b.values.A.take ((0:Int).toNat)⟩) l7 l7 asd f g d asd rfl (((if_pos (show b.known=true from by assumption)).trans (bMq (k:=(0:Int).toNat) (tk:=true) (n:=(0:Int)) (l:=b.values.A) (decide_eq_true l7).symm (by split<;>omega))).symm));subst hr;exact rs2 (⟨⟨(some ⟨g30,0,none⟩),c27,(b.B.A.set 0 (⟨A28,c29,bZ ((max (0:Int) (-(0:Int))))⟩:PolV))⟩,b.known,⟨b.values.I,b.values.cap,b.values.A.take ((0:Int).toNat)⟩⟩:TyV) ⟨(bS (x:=⟨⟨(some ⟨g30,0,none⟩),c27,(b.B.A.set 0 (⟨A28,c29,bZ ((max (0:Int) (-(0:Int))))⟩:PolV))⟩,b.known,⟨b.values.I,b.values.cap,b.values.A.take ((0:Int).toNat)⟩⟩) (cB d8 d9 (c)) d7),i7 rfl,i6⟩
  refine g10 ?_;have hr:=s.symm.trans (bRc (A:=(some ⟨g30,0,none⟩)) (q:=c27) (p:=⟨A28,c29,bZ ((max (0:Int) (-(0:Int))))⟩) (V:=b.values) l7 l7 asd f g d asd rfl ((if_neg ag3).symm));subst hr;exact rs2 (⟨⟨(some ⟨g30,0,none⟩),c27,(b.B.A.set 0 (⟨A28,c29,bZ ((max (0:Int) (-(0:Int))))⟩:PolV))⟩,b.known,b.values⟩:TyV) ⟨(bS (x:=⟨⟨(some ⟨g30,0,none⟩),c27,(b.B.A.set 0 (⟨A28,c29,bZ ((max (0:Int) (-(0:Int))))⟩:PolV))⟩,b.known,b.values⟩) (cB d7 d8 (c)) f5),i7 rfl,i6⟩
 subst u;refine g15 ?_;refine ss (cA hT (k:=0) (cI kT1) rfl rfl rfl rfl rfl rfl rfl l7) ?_;refine ss (j6 hT (dD.knows (cI kT1) (k:=0) (x:=i) d 0)) ?_;refine one ?_;refine bF (dC (Has.each f3 (j0 d))) λG=>bF (dC d7) λC=>?_;refine j2 func58 (bRt (p:=i) (q:=⟨A28,c29,bZ ((max (0:Int) (-(0:Int))))⟩) G C) ⟨(Has.each f3 (j0 d)),d7,i6⟩ λ⟨A31,c32⟩=>?_;refine g13 ?_;refine uD (λy=>?_) λy=>?_
 .refine g9 ?_;have hr:=s.symm.trans (ptT_e l7 l7 asd f g d asd asd);subst hr;exact rs2 (⟨a.B,a.known,a.values⟩:TyV) ⟨(bS (x:=⟨a.B,a.known,a.values⟩) (Has.of (u8 (u8 mT0))) g0),i7 rfl,i6⟩
 refine g3 ?_;refine uL kT1 l7 λg35 hg=>?_;subst hg;refine g4 ?_;refine ss (gB hT (k:=0) rfl rfl rfl rfl rfl rfl l7) ?_;refine fN hT (k:=0) (fo:=0) (y':=(⟨A31,c32,(cD i.A (bZ ((max (0:Int) (-(0:Int))))) (-1)).1⟩:PolV)) kT1 rfl rfl rfl rfl rfl rfl rfl rfl rfl d rfl ?_;refine g4 ?_;rw[show b.B.A.length=(b.B.A.set 0 (⟨A31,c32,(cD i.A (bZ ((max (0:Int) (-(0:Int))))) (-1)).1⟩:PolV)).length from X4.symm];refine bB (polsF (b.B.A.set 0 (⟨A31,c32,(cD i.A (bZ ((max (0:Int) (-(0:Int))))) (-1)).1⟩:PolV))) (bEv 0 d9 d7)<|fW .head λc=>bR .head ?_;refine g5 ?_;refine fX (λo=>?_) λo=>?_
 .refine bP ?_;have L:=bLw hb l7 asd d asd;refine g12 ?_;refine dP (λj=>?_) λj=>?_
  .refine g6 ?_;refine bJ (z':=((0:Int)+(b.values.A.length:Nat))) (yW l7 l7) ?_;refine g8 ?_;refine bC (t':=false) (decide_eq_false l7) ?_;refine one ?_;refine bC (t':=true) m6 ?_;refine g7 ?_;have hkl:((0:Int)+(b.values.A.length:Nat)).toNat<=b.values.A.length:=l7
   refine ss (iY hT (k:=((0:Int)+(b.values.A.length:Nat)).toNat) rfl rfl rfl rfl rfl l7 l7) ?_;refine hZ (v':= .slice b.values.I (b.values.A.take (((0:Int)+(b.values.A.length:Nat)).toNat)).length b.values.cap) ab9<|bB (cM ⟨b.values.I,b.values.cap,b.values.A.take (((0:Int)+(b.values.A.length:Nat)).toNat)⟩) (nJ f6 h hkl) ?_;refine g12 ?_;have hr:=s.symm.trans (bVb (A:=(some ⟨g35,0,none⟩)) (q:=c27) (p:=⟨A31,c32,(cD i.A (bZ ((max (0:Int) (-(0:Int))))) (-1)).1⟩) (V:=⟨b.values.I,b.values.cap,b.values.A.take (((0:Int)+(b.values.A.length:Nat)).toNat)⟩) l7 l7 asd f g d asd l7 rfl (((if_pos (show b.known=true from by assumption)).trans (bMq (k:=((0:Int)+(b.values.A.length:Nat)).toNat) (tk:=false) (n:=(0:Int)) (l:=b.values.A) (decide_eq_false l7).symm (by split<;>omega))).symm));subst hr;exact rs2 (⟨⟨(some ⟨g35,0,none⟩),c27,(b.B.A.set 0 (⟨A31,c32,(cD i.A (bZ ((max (0:Int) (-(0:Int))))) (-1)).1⟩:PolV))⟩,b.known,⟨b.values.I,b.values.cap,b.values.A.take (((0:Int)+(b.values.A.length:Nat)).toNat)⟩⟩:TyV) ⟨(bS (x:=⟨⟨(some ⟨g35,0,none⟩),c27,(b.B.A.set 0 (⟨A31,c32,(cD i.A (bZ ((max (0:Int) (-(0:Int))))) (-1)).1⟩:PolV))⟩,b.known,⟨b.values.I,b.values.cap,b.values.A.take (((0:Int)+(b.values.A.length:Nat)).toNat)⟩⟩) (cB d8 d9 (c)) d7),i7 rfl,i6⟩
  refine g7 ?_;refine bC (t':=true) (decide_eq_true l7) ?_;refine one ?_;refine bC (t':=false) m6 ?_;refine g7 ?_;have hkl:(0:Int).toNat<=b.values.A.length:=l7
  refine ss (dV hT (k:=(0:Int).toNat) rfl rfl rfl rfl rfl l7 l7) ?_;refine hZ (v':= .slice (iS b.values.I ((0:Int).toNat) bT.size b.values.cap) (b.values.A.drop ((0:Int).toNat)).length (b.values.cap-(0:Int).toNat)) ad8<|bB (cM ⟨iS b.values.I ((0:Int).toNat) bT.size b.values.cap,b.values.cap-(0:Int).toNat,b.values.A.drop ((0:Int).toNat)⟩) (sX f6 h hkl) ?_;refine g12 ?_;have hr:=s.symm.trans (bVb (A:=(some ⟨g35,0,none⟩)) (q:=c27) (p:=⟨A31,c32,(cD i.A (bZ ((max (0:Int) (-(0:Int))))) (-1)).1⟩) (V:=⟨iS b.values.I ((0:Int).toNat) bT.size b.values.cap,b.values.cap-(0:Int).toNat,b.values.A.drop ((0:Int).toNat)⟩) l7 l7 asd f g d asd l7 rfl (((if_pos (show b.known=true from by assumption)).trans (bLs (k:=(0:Int).toNat) (tk:=false) (n:=(0:Int)) (l:=b.values.A) aj4 (by split<;>omega))).symm));subst hr;exact rs2 (⟨⟨(some ⟨g35,0,none⟩),c27,(b.B.A.set 0 (⟨A31,c32,(cD i.A (bZ ((max (0:Int) (-(0:Int))))) (-1)).1⟩:PolV))⟩,b.known,⟨iS b.values.I ((0:Int).toNat) bT.size b.values.cap,b.values.cap-(0:Int).toNat,b.values.A.drop ((0:Int).toNat)⟩⟩:TyV) ⟨(bS (x:=⟨⟨(some ⟨g35,0,none⟩),c27,(b.B.A.set 0 (⟨A31,c32,(cD i.A (bZ ((max (0:Int) (-(0:Int))))) (-1)).1⟩:PolV))⟩,b.known,⟨iS b.values.I ((0:Int).toNat) bT.size b.values.cap,b.values.cap-(0:Int).toNat,b.values.A.drop ((0:Int).toNat)⟩⟩) (cB d8 d9 (c)) d7),i7 rfl,i6⟩
 refine g10 ?_;have hr:=s.symm.trans (bVb (A:=(some ⟨g35,0,none⟩)) (q:=c27) (p:=⟨A31,c32,(cD i.A (bZ ((max (0:Int) (-(0:Int))))) (-1)).1⟩) (V:=b.values) l7 l7 asd f g d asd l7 rfl ((if_neg ag3).symm));subst hr;exact rs2 (⟨⟨(some ⟨g35,0,none⟩),c27,(b.B.A.set 0 (⟨A31,c32,(cD i.A (bZ ((max (0:Int) (-(0:Int))))) (-1)).1⟩:PolV))⟩,b.known,b.values⟩:TyV) ⟨(bS (x:=⟨⟨(some ⟨g35,0,none⟩),c27,(b.B.A.set 0 (⟨A31,c32,(cD i.A (bZ ((max (0:Int) (-(0:Int))))) (-1)).1⟩:PolV))⟩,b.known,b.values⟩) (cB d7 d8 (c)) f6),i7 rfl,i6⟩
theorem addFn:PolFn 63 addO:=λp q a hq=>bBj p q a hq
theorem bXx:PolFn 58 zJ:=λp q a hq=>bRt p q a hq
theorem mulFn:PolFn 55 mF:=λp q a hq=>mul_spec p q a hq
theorem tP{t:TyP}(h:WfT t):t.values.length<=4:=by
 cases k:t.known
 .rw[h.un k];decide
 .exact(h.kn k).1
theorem bEm{t:TyP}(h:WfT t)(k:t.known=true)(hs:t.B=[]):t.values.length=1:=by
 rcases (h.kn k).2 with h|h
 .exact h.2
 .rw[hs]at h;cases h
theorem bIt{t:TyP}(h:WfT t):bBw ⟨[],true,[[]]⟩ t where
 la:=by simp
 lb:=B1 (tP h) m6
 one:=λ_ _ _=>rfl
 two:=λ_ k e=>bEm h k e
 same:=λ_ _ e=>absurd rfl e
def bFh (S:List Pol)(p:Pol)(i:Nat):Prop:=rC (bZ 1) S=rC p (S.drop i)
theorem bWx(S:List Pol):bFh S (bZ 1) 0:=rfl
section
variable {l : List PolV} {p : Pol} {x : PolV} {i : Nat}
theorem rav_step(h:bFh (bN l) p i)(hx:l[i]?=some x)(e:(mF p x.A).2=0):bFh (bN l) (mF p x.A).1 (i+1):=by obtain⟨hi,a⟩:=F3.1 (jX hx);unfold bFh at*;rw[h,K2 hi,a];exact if_neg al9
theorem rav_bad(h:bFh (bN l) p i)(hx:l[i]?=some x)(e:(mF p x.A).2≠0):rC (bZ 1) (bN l)=none:=by obtain⟨hi,a⟩:=F3.1 (jX hx);unfold bFh at*;rw[h,K2 hi,a];exact if_pos e
theorem rav_end(h:bFh (bN l) p i)(hi:l.length<=i):rC (bZ 1) (bN l)=some p:=by unfold bFh at*;rw[h,K3 am4];rfl
end
theorem bZg(l:List PolV):bN l.reverse=(bN l).reverse:=List.map_reverse
section
variable {f : Int} {a : TyV}
theorem mo_a(h:f=32)(k:0<a.B.A.length):gZ f a.t=(a.t,90):=by unfold gZ;rw[if_pos h];exact if_pos (gI k)
theorem mo_b(h:f=32)(k:a.B.A.length=0)(g:a.known=false):gZ f a.t=(a.t,92):=by unfold gZ;rw[if_pos h,if_neg (show ¬a.t.B≠[]from λe=>e (dY k))];exact if_pos g
theorem mo_c{x:PolV}(h:f=32)(k:a.B.A.length=0)(g:a.known=true)(hx:a.values.A[0]?=some x)(e:gL x.A=false):gZ f a.t=(a.t,93):=by have b:a.t.values.headD []=x.A:=kS hx;unfold gZ;rw[if_pos h,if_neg (show ¬a.t.B≠[]from λe=>e (dY k)),if_neg (show ¬a.t.known=false by show ¬a.known=false;simp[g]),b,if_pos e]
theorem mo_d{x:PolV}(h:f=32)(k:a.B.A.length=0)(g:a.known=true)(hx:a.values.A[0]?=some x)(e:gL x.A=true):gZ f a.t=(⟨[x.A],false,[]⟩,0):=by have b:a.t.values.headD []=x.A:=kS hx;unfold gZ;rw[if_pos h,if_neg (show ¬a.t.B≠[]from λe=>e (dY k)),if_neg (show ¬a.t.known=false by show ¬a.known=false;simp[g]),b,if_neg al9]
theorem mo_e(h:f=33):gZ f a.t=(⟨[bZ (a.B.A.length:Nat)],true,bN a.B.A⟩,0):=by subst h;unfold gZ;rw[if_neg (show ¬(33:Int)=32 by decide),if_pos rfl,show a.t.B.length=a.B.A.length from bI _];rfl
theorem mo_f(h:f=34)(e:rC (bZ 1) (bN a.B.A)=none):gZ f a.t=(a.t,95):=by subst h;unfold gZ;rw[if_neg (show ¬(34:Int)=32 by decide),if_neg (show ¬(34:Int)=33 by decide),if_pos rfl,show rC (bZ 1) a.t.B=none from e]
theorem mo_g{p:Pol}(h:f=34)(e:rC (bZ 1) (bN a.B.A)=some p):gZ f a.t=(⟨[p],a.known,bN a.values.A⟩,0):=by subst h;unfold gZ;rw[if_neg (show ¬(34:Int)=32 by decide),if_neg (show ¬(34:Int)=33 by decide),if_pos rfl,show rC (bZ 1) a.t.B=some p from e];rfl
theorem mo_35:gZ 35 a.t=(if a.t.B≠[]then ⟨a.t.B,a.t.known,a.t.values.reverse⟩else a.t,0):=by unfold gZ;rw[if_neg (show ¬(35:Int)=32 by decide),if_neg (show ¬(35:Int)=33 by decide),if_neg (show ¬(35:Int)=34 by decide),if_pos rfl]
theorem mo_h(h:f=35)(k:0<a.B.A.length):gZ f a.t=(⟨bN a.B.A,a.known,bN a.values.A.reverse⟩,0):=by subst h;rw[mo_35,if_pos (show a.t.B≠[]from gI k),bZg];rfl
theorem mo_i(h:f=35)(k:a.B.A.length=0):gZ f a.t=(a.t,0):=by subst h;rw[mo_35,if_neg (show ¬a.t.B≠[]from λe=>e (dY k))]
theorem mo_j(h:f=36):gZ f a.t=(⟨bN a.B.A.reverse,a.known,bN a.values.A⟩,0):=by subst h;unfold gZ;rw[if_neg (show ¬(36:Int)=32 by decide),if_neg (show ¬(36:Int)=33 by decide),if_neg (show ¬(36:Int)=34 by decide),if_neg (show ¬(36:Int)=35 by decide),if_pos rfl,bZg];rfl
theorem mo_k(h:f=1):gZ f a.t=(a.t,0):=by subst h;unfold gZ;rw[if_neg (show ¬(1:Int)=32 by decide),if_neg (show ¬(1:Int)=33 by decide),if_neg (show ¬(1:Int)=34 by decide),if_neg (show ¬(1:Int)=35 by decide),if_neg (show ¬(1:Int)=36 by decide),if_pos rfl]
theorem mo_l{y:List PolV}{k:Bool}(h:f=2)(e:(bN y,k)=lK (some zJ) ⟨[],true,[[]]⟩ a.t):gZ f a.t=(⟨bN a.B.A,k,bN y⟩,0):=by subst h;unfold gZ;rw[if_neg (show ¬(2:Int)=32 by decide),if_neg (show ¬(2:Int)=33 by decide),if_neg (show ¬(2:Int)=34 by decide),if_neg (show ¬(2:Int)=35 by decide),if_neg (show ¬(2:Int)=36 by decide),if_neg (show ¬(2:Int)=1 by decide),if_pos rfl,<-e];rfl
theorem mo_m(h1:f≠32)(h2:f≠33)(h3:f≠34)(h4:f≠35)(h5:f≠36)(h6:f≠1)(h7:f≠2):gZ f a.t=(⟨bN a.B.A,false,[]⟩,0):=by unfold gZ;rw[if_neg h1,if_neg h2,if_neg h3,if_neg h4,if_neg h5,if_neg h6,if_neg h7];rfl
end
theorem monT_spec(f:Int)(a:TyV)(ha:WfT a.t):cY prog 35 [k7 f,.agg #[j8 a.B,.bool a.known,j8 a.values]] [] [tyF a] (λ(x:TyV)=> .tuple #[tyC x,k6 (gZ f a.t).2]) (λ_=>[]) (λ(x:TyV)=>[tyF x,Fact.pure (x.t=(gZ f a.t).1)]):=by
 have hT:=dK;have X:=oF ha;have V:=wA ha;generalize e:gZ f a.t=r;refine j5 func35 ntmps35 ?_;intro β hM;refine bP<|bB (cM a.B) (jR d7) ?_;refine cE a.B mT0 λQ=>bB (cM a.values) (jS e6)<|cE a.values mT0 λP=>?_;refine one ?_;refine j4 λZ=>?_;refine j1 sQ λY=>?_;refine g16 ?_;refine gN (λhc14=>?_) λhc14=>?_
 .refine g11 ?_;refine dP (λN=>?_) λN=>?_
  .refine g12 ?_;have hr:=e.symm.trans (mo_a asd l7);subst hr;exact rs2 (⟨a.B,a.known,a.values⟩:TyV) ⟨(bS (x:=⟨a.B,a.known,a.values⟩) e8 d9),i7 rfl,i6⟩
  refine g8 ?_;refine iQ (λM=>?_) λM=>?_
  .refine g12 ?_;have hr:=e.symm.trans (mo_b asd l7 asd);subst hr;exact rs2 (⟨a.B,a.known,a.values⟩:TyV) ⟨(bS (x:=⟨a.B,a.known,a.values⟩) e8 d9),i7 rfl,i6⟩
  refine bP ?_;have W:=wf_one ha asd l7;refine g3 ?_;obtain⟨x3,d⟩:=gx a.values.A 0;refine ss (ixs 0) ?_;refine ss (fG d 0) ?_;refine bF (dC (Has.each d7 (j0 d))) λy=>?_;refine j2 func9 (sY (p:=x3) y) ⟨(Has.each d7 (j0 d)),i6⟩ λ_=>?_;refine g4 ?_;refine iQ (λL=>?_) λL=>?_
  .refine g12 ?_;have hr:=e.symm.trans (mo_c asd l7 asd d (by simpa using (asd:(!gL _)=true)));subst hr;exact rs2 (⟨a.B,a.known,a.values⟩:TyV) ⟨(bS (x:=⟨a.B,a.known,a.values⟩) e8 d9),i7 rfl,i6⟩
  refine g7 ?_;refine ss (ixs 0) ?_;refine ss (fG d 0) ?_;refine j7 (m:=x3) λU=>?_;refine dO (E:=bT) (xs:=[(x3:PolV)]) .head aa1<|bR .head<|bB (polsF [(x3:PolV)]) (gP (Has.each d8 (j0 d))) ?_;refine j2 func32 (fI (some ⟨U,0,none⟩) (1) 1) i6 λ_=>?_;refine g7 ?_;have hr:=e.symm.trans (mo_d asd l7 asd d (by simpa using (asd:(!gL _)=false)));subst hr;exact rs2 (⟨⟨(some ⟨U,0,none⟩),1,[(x3:PolV)]⟩,false,⟨none,0,[]⟩⟩:TyV) ⟨(bS (x:=⟨⟨(some ⟨U,0,none⟩),1,[(x3:PolV)]⟩,false,⟨none,0,[]⟩⟩) (cB d8 d7 (B0 1)) bO),i7 rfl,i6⟩
 refine g6 ?_;refine gN (λK=>?_) λK=>?_
 .refine bP<|cL _ _ [j9,u0,u5,u6,A02,A06,A42,A75,A68,A04] cN o0 (.c1 .nil) bA.self ?_;refine g6 ?_;refine j2 func31 (lO (((a.B.A.length:Nat):Int))) i6 λ⟨A7,c8⟩=>?_;refine g2 ?_;refine j7 (m:=⟨A7,c8,bZ (((a.B.A.length:Nat):Int))⟩) λR=>?_;refine dO (E:=bT) (xs:=[(⟨A7,c8,bZ (((a.B.A.length:Nat):Int))⟩:PolV)]) .head aa1<|bR .head<|bB (polsF [(⟨A7,c8,bZ (((a.B.A.length:Nat):Int))⟩:PolV)]) (gP d8) ?_;refine g2 ?_;refine j2 func30 (kV (some ⟨R,0,none⟩) a.B.I (1) (a.B.A.length) 1 a.B.cap) i6 λ_=>?_;refine g10 ?_;obtain rfl:=e.symm.trans (mo_e asd);exact rs2 (⟨⟨(some ⟨R,0,none⟩),1,[(⟨A7,c8,bZ (((a.B.A.length:Nat):Int))⟩:PolV)]⟩,true,a.B⟩:TyV) ⟨(bS (x:=⟨⟨(some ⟨R,0,none⟩),1,[(⟨A7,c8,bZ (((a.B.A.length:Nat):Int))⟩:PolV)]⟩,true,a.B⟩) (cB d8 d7 (B0 1)) f5),i7 rfl,i6⟩
 refine g6 ?_;refine gN (λJ=>?_) λJ=>?_
 .refine g2 ?_;refine j2 func31 (lO (((1:Nat):Int))) i6 λ⟨A10,c11⟩=>?_;refine g13 ?_;refine cF (ι:=Nat×PolV) [(3,_),(4,_),(55,_),(56,_)] ⟨rfl,rfl,rfl,rfl,i6⟩ (λ⟨i,p⟩=>[(6,.slice p.I p.A.length p.cap),(57,.int .i64 (i:Nat))]) (λ_=>[]) (λ⟨i,p⟩=>[Fact.pure (i<=a.B.A.length/\bFh (bN a.B.A) p.A i),kI p]) (λ⟨i,p⟩=>a.B.A.length-i) (0,⟨A10,c11,bZ (((1:Nat):Int))⟩) ⟨rfl,rfl,i6⟩ .nil ⟨i7 (⟨l7,bWx _⟩),d7,i6⟩ ?_;rintro⟨i,p⟩;dsimp only;refine bF d7 λb=>?_;refine g6 ?_;refine dP (λI=>?_) λI=>?_
  .refine g6 ?_;obtain⟨w,c⟩:=gx a.B.A i;refine ss (ixs i) ?_;refine ss (fG c 0) ?_;refine g12 ?_;refine bF (dC d8) λu=>bF (dC (Has.each e9 (j0 c))) λs=>?_;refine j2 func55 (mul_spec (p:=p) (q:=w) u s) ⟨d8,(Has.each e9 (j0 c)),i6⟩ λ⟨A14,c15⟩=>?_;refine g13 ?_;refine uD (λG=>?_) λG=>?_
   .refine g15 ?_;obtain rfl:=e.symm.trans (mo_f asd (rav_bad b.2 c asd));exact rs2 (⟨a.B,a.known,a.values⟩:TyV) ⟨(bS (x:=⟨a.B,a.known,a.values⟩) f6 e9),i7 rfl,i6⟩
   refine g5 ?_;refine inc (i+1) ?_;refine g3 ?_;exact bk2 (i+1,⟨A14,c15,(mF p.A w.A).1⟩) ⟨i7 (⟨by dsimp only;omega,rav_step b.2 c ae6⟩),d7,i6⟩
  refine g7 ?_;refine j7 (m:=p) λO=>?_;refine dO (E:=bT) (xs:=[(p:PolV)]) .head aa1<|bR .head<|bB (polsF [(p:PolV)]) (gP d9) ?_;refine g13 ?_;have hr:=e.symm.trans (mo_g asd (rav_end b.2 l7));subst hr;exact rs2 (⟨⟨(some ⟨O,0,none⟩),1,[(p:PolV)]⟩,a.known,a.values⟩:TyV) ⟨(bS (x:=⟨⟨(some ⟨O,0,none⟩),1,[(p:PolV)]⟩,a.known,a.values⟩) (cB d8 d7 (B0 1)) f3),i7 rfl,i6⟩
 refine g6 ?_;refine gN (λD=>?_) λD=>?_
 .refine g8 ?_;refine dP (λC=>?_) λC=>?_
  .refine g3 ?_;refine j2 func56 (bVo a.values l7) ⟨d9,i6⟩ λ⟨A19,c20⟩=>?_;refine g13 ?_;have hr:=e.symm.trans (mo_h asd l7);subst hr;exact rs2 (⟨a.B,a.known,⟨A19,c20,a.values.A.reverse⟩⟩:TyV) ⟨(bS (x:=⟨a.B,a.known,⟨A19,c20,a.values.A.reverse⟩⟩) e9 d7),i7 rfl,i6⟩
  refine g11 ?_;have hr:=e.symm.trans (mo_i asd l7);subst hr;exact rs2 (⟨a.B,a.known,a.values⟩:TyV) ⟨(bS (x:=⟨a.B,a.known,a.values⟩) e8 d9),i7 rfl,i6⟩
 refine g6 ?_;refine gN (λB=>?_) λB=>?_
 .refine g3 ?_;refine j2 func56 (bVo a.B l7) ⟨e8,i6⟩ λ⟨A21,c22⟩=>?_;refine g13 ?_;obtain rfl:=e.symm.trans (mo_j asd);exact rs2 (⟨⟨A21,c22,a.B.A.reverse⟩,a.known,a.values⟩:TyV) ⟨(bS (x:=⟨⟨A21,c22,a.B.A.reverse⟩,a.known,a.values⟩) d7 e6),i7 rfl,i6⟩
 refine g6 ?_;refine gN (λA=>?_) λA=>?_
 .refine g11 ?_;obtain rfl:=e.symm.trans (mo_k asd);exact rs2 (⟨a.B,a.known,a.values⟩:TyV) ⟨(bS (x:=⟨a.B,a.known,a.values⟩) e8 d9),i7 rfl,i6⟩
 refine g6 ?_;refine gN (λz=>?_) λz=>?_
 .refine kZ _ _ (.two 0 2 (.two 1 2 (.op 2 (.op 3 (.fl 4 (.fl 5 (.fl 6 (.fl 7 (.op 8 (.fl 9 (.op 10 .nil))))))))) (.op 1 (.op 3 (.fl 4 (.fl 5 (.fl 6 (.fl 7 (.op 8 (.fl 9 (.op 10 .nil)))))))))) (.op 0 (.op 1 (.op 3 (.fl 4 (.fl 5 (.fl 6 (.fl 7 (.op 8 (.fl 9 (.op 10 .nil))))))))))) cN o0 (.c0 .nil) bA.self ?_;refine gT (o:=_) (o':=_) rfl rfl ?_ ?_
  .refine j7 (m:=⟨none,0,[]⟩) λg=>?_;refine dO (E:=bT) (xs:=[(⟨none,0,[]⟩:PolV)]) .head aa1<|bR .head<|bB (polsF [(⟨none,0,[]⟩:PolV)]) (gP bKo) ?_;refine one ?_;refine gT (o:=_) (o':=_) rfl rfl ?_ ?_
   .refine j2 func30 (kV none (some ⟨g,0,none⟩) (0) (1) 0 1) i6 λ_=>?_;refine g5 ?_;refine j2 func57 (lI 58 zJ (bY func58 rfl rfl) bXx (⟨⟨none,0,[]⟩,true,⟨(some ⟨g,0,none⟩),1,[(⟨none,0,[]⟩:PolV)]⟩⟩:TyV) a (bIt ha)) ⟨(bS (x:=⟨⟨none,0,[]⟩,true,⟨(some ⟨g,0,none⟩),1,[(⟨none,0,[]⟩:PolV)]⟩⟩) bO (cB d8 d7 (B0 1))),f5,i6⟩ λn=>?_;refine bF d8 λhE=>?_;refine g23 ?_;obtain rfl:=e.symm.trans (mo_l asd hE);exact rs2 (⟨a.B,n.k,n.l⟩:TyV) ⟨(bS (x:=⟨a.B,n.k,n.l⟩) f6 d7),i7 rfl,i6⟩
   refine g3 ?_;refine j2 func30 (kV none (some ⟨g,0,none⟩) (0) (1) 0 1) i6 λ_=>?_;refine g2 ?_;refine j2 func57 (lI 58 zJ (bY func58 rfl rfl) bXx (⟨⟨none,0,[]⟩,true,⟨(some ⟨g,0,none⟩),1,[(⟨none,0,[]⟩:PolV)]⟩⟩:TyV) a (bIt ha)) ⟨(bS (x:=⟨⟨none,0,[]⟩,true,⟨(some ⟨g,0,none⟩),1,[(⟨none,0,[]⟩:PolV)]⟩⟩) bO (cB d8 d7 (B0 1))),f5,i6⟩ λj=>?_;refine bF d8 λhE=>?_;refine g23 ?_;obtain rfl:=e.symm.trans (mo_l asd hE);exact rs2 (⟨a.B,j.k,j.l⟩:TyV) ⟨(bS (x:=⟨a.B,j.k,j.l⟩) f6 d7),i7 rfl,i6⟩
  refine g3 ?_;refine j7 (m:=⟨none,0,[]⟩) λv=>?_;refine dO (E:=bT) (xs:=[(⟨none,0,[]⟩:PolV)]) .head aa1<|bR .head<|bB (polsF [(⟨none,0,[]⟩:PolV)]) (gP bKo) ?_;refine g2 ?_;refine j2 func30 (kV none (some ⟨v,0,none⟩) (0) (1) 0 1) i6 λ_=>?_;refine g2 ?_;refine j2 func57 (lI 58 zJ (bY func58 rfl rfl) bXx (⟨⟨none,0,[]⟩,true,⟨(some ⟨v,0,none⟩),1,[(⟨none,0,[]⟩:PolV)]⟩⟩:TyV) a (bIt ha)) ⟨(bS (x:=⟨⟨none,0,[]⟩,true,⟨(some ⟨v,0,none⟩),1,[(⟨none,0,[]⟩:PolV)]⟩⟩) bO (cB d8 d7 (B0 1))),f5,i6⟩ λh=>?_;refine bF d8 λhE=>?_;refine g23 ?_;obtain rfl:=e.symm.trans (mo_l asd hE);exact rs2 (⟨a.B,h.k,h.l⟩:TyV) ⟨(bS (x:=⟨a.B,h.k,h.l⟩) f6 d7),i7 rfl,i6⟩
 refine g4 ?_;refine j2 func32 (fI a.B.I (a.B.A.length) a.B.cap) i6 λ_=>?_;refine g7 ?_;obtain rfl:=e.symm.trans (mo_m asd asd asd asd asd asd asd);exact rs2 (⟨a.B,false,⟨none,0,[]⟩⟩:TyV) ⟨(bS (x:=⟨a.B,false,⟨none,0,[]⟩⟩) e8 bO),i7 rfl,i6⟩
theorem numT_inj{j k:Nat}(hj:j<=4)(hk:k<=4)(h:bZ (j:Nat)=bZ (k:Nat)):j=k:=by
 have e: ∀n:Nat,n<=4->bZ (n:Nat)=if n=0 then []else [bAp n]:=λn hn=>by
  unfold bZ gU
  by_cases h0:n=0
  .subst h0;rfl
  .rw[if_neg l7,if_neg l7,if_neg h0]
 rw[e j hj,e k hk]at h;split at h<;>split at h<;>simp[bAp]at h<;>omega
theorem qN{a b:TyP}(ha:WfT a)(hb:WfT b)(h:a.B=[]\/b.B=[]\/a.B=b.B):bBw a b where
 la:=B1 (tP ha) m6
 lb:=B1 (tP hb) m6
 one:=λk _ e=>bEm ha k e
 two:=λ_ k e=>bEm hb k e
 same:=λk l e g=>by
  rcases h with h|h|h
  .exact absurd h e
  .exact absurd h g
  .rcases (ha.kn k).2 with x|x
   .exact absurd x.1 e
   .rcases (hb.kn l).2 with y|y
    .exact absurd y.1 g
    .rw[x,y]at h;exact numT_inj (tP ha) (tP hb) (List.cons.inj h).1
theorem bPh{f:Int}(h1:f≠1)(h2:f≠2)(h3:f≠3):rS f=none:=by unfold rS;rw[if_neg h1,if_neg h2,if_neg h3]
theorem op_1{f:Int}(h:f=1):rS f=some addO:=by rw[h];rfl
theorem op_2{f:Int}(h:f=2):rS f=some zJ:=by rw[h];rfl
theorem op_3{f:Int}(h:f=3):rS f=some mF:=by rw[h];rfl
section
variable {f : Int} {a b : TyV}
theorem dy_a(h:f=37):oQ f a.t b.t=xP a.t b.t:=by rw[h];rfl
theorem dy_b(h:f=38):oQ f a.t b.t=lT true a.t b.t:=by rw[h];rfl
theorem dy_c(h:f=39):oQ f a.t b.t=lT false a.t b.t:=by rw[h];rfl
theorem dy_d(h:f=40):oQ f a.t b.t=xZ a.t b.t:=by rw[h];rfl
theorem dy_e(h1:f≠37)(h2:f≠38)(h3:f≠39)(h4:f≠40)(ha:0<a.B.A.length)(hb:0<b.B.A.length)(h:bN a.B.A≠bN b.B.A):oQ f a.t b.t=(⟨bN a.B.A,false,[]⟩,91):=by unfold oQ;rw[if_neg h1,if_neg h2,if_neg h3,if_neg h4];exact if_pos ⟨gI ha,gI hb,h⟩
theorem dy_f{op:Option pQ}{y:List PolV}{k:Bool}(ho:rS f=op)(h1:f≠37)(h2:f≠38)(h3:f≠39)(h4:f≠40)(ha:a.B.A.length=0)(e:(bN y,k)=lK op a.t b.t):oQ f a.t b.t=(⟨bN b.B.A,k,bN y⟩,0):=by unfold oQ;rw[if_neg h1,if_neg h2,if_neg h3,if_neg h4,if_neg (show ¬(a.t.B≠[]/\b.t.B≠[]/\a.t.B≠b.t.B)from λh=>h.1 (dY ha)),if_pos (show a.t.B=[]from dY ha),ho,<-e];rfl
theorem dy_g{op:Option pQ}{y:List PolV}{k:Bool}(ho:rS f=op)(h1:f≠37)(h2:f≠38)(h3:f≠39)(h4:f≠40)(ha:0<a.B.A.length)(h:b.B.A.length=0\/bN a.B.A=bN b.B.A)(e:(bN y,k)=lK op a.t b.t):oQ f a.t b.t=(⟨bN a.B.A,k,bN y⟩,0):=by unfold oQ;rw[if_neg h1,if_neg h2,if_neg h3,if_neg h4,if_neg (show ¬(a.t.B≠[]/\b.t.B≠[]/\a.t.B≠b.t.B)from λg=>h.elim (λh=>g.2.1 (dY h)) (λh=>g.2.2 h)),if_neg (show ¬a.t.B=[]from gI ha),ho,<-e];rfl
end
theorem dyT_spec(f:Int)(a b:TyV)(ha:WfT a.t)(hb:WfT b.t):cY prog 36 [k7 f,.agg #[j8 a.B,.bool a.known,j8 a.values],.agg #[j8 b.B,.bool b.known,j8 b.values]] [] [tyF a,tyF b] (λ(x:TyV)=> .tuple #[tyC x,k6 (oQ f a.t b.t).2]) (λ_=>[]) (λ(x:TyV)=>[tyF x,Fact.pure (x.t=(oQ f a.t b.t).1)]):=by
 have hT:=dK;have Q:=oF ha;have O:=wA ha;have P:=oF hb;have N:=wA hb;generalize g:oQ f a.t b.t=r;refine j5 func36 ntmps36 ?_;intro β hM;refine bP<|bB (cM a.B) (jR d7) ?_;refine cE a.B mT0 λI=>bB (cM a.values) (jS e6)<|cE a.values mT0 λG=>bB (cM b.B) (jR f3)<|cE b.B mT0 λhc_bs=>bB (cM b.values) (jS f7)<|cE b.values mT0 λE=>?_;refine one ?_;refine j4 λW=>?_;refine j4 λV=>?_;refine j1 sQ λU=>?_;refine g16 ?_;refine gN (λhc11=>?_) λhc11=>?_
 .refine g4 ?_;refine j2 func59 (rhoT_spec a b ha hb) ⟨f9,g0,i6⟩ λM=>?_;refine bF d8 λhy=>?_;refine g9 ?_;obtain rfl:=g.symm.trans (dy_a asd);exact rs2 (M:TyV) ⟨d7,i7 hy,i6⟩
 refine g7 ?_;refine gN (λz=>?_) λz=>?_
 .refine bC (t':=true) asd ?_;refine g7 ?_;refine bC (t':=true) (by rw[z];rfl) ?_;refine g2 ?_;refine j2 func60 (bVm true a b ha hb) ⟨f9,g0,i6⟩ λL=>?_;refine bF d8 λhy=>?_;refine g9 ?_;obtain rfl:=g.symm.trans (dy_b asd);exact rs2 (L:TyV) ⟨d7,i7 hy,i6⟩
 refine g5 ?_;refine gN (λh=>?_) λh=>?_
 .refine bC (t':=true) asd ?_;refine g4 ?_;refine bC (t':=false) (by rw[h];rfl) ?_;refine g2 ?_;refine j2 func60 (bVm false a b ha hb) ⟨f9,g0,i6⟩ λK=>?_;refine bF d8 λhy=>?_;refine g9 ?_;obtain rfl:=g.symm.trans (dy_c asd);exact rs2 (K:TyV) ⟨d7,i7 hy,i6⟩
 refine g6 ?_;refine gN (λD=>?_) λD=>?_
 .refine g4 ?_;refine j2 func61 (catT_spec a b ha hb) ⟨f9,g0,i6⟩ λJ=>?_;refine bF d8 λhy=>?_;refine g9 ?_;obtain rfl:=g.symm.trans (dy_d asd);exact rs2 (J:TyV) ⟨d7,i7 hy,i6⟩
 refine g7 ?_;refine j2 func32 (fI a.B.I (a.B.A.length) a.B.cap) i6 λ_=>?_;refine j1 sQ λR=>?_;refine g14 ?_;refine gN (λC=>?_) λC=>?_
 .refine g3 ?_;refine j2 func32 (fI b.B.I (b.B.A.length) b.B.cap) i6 λ_=>?_;refine g22 ?_;refine gN (λe=>?_) λe=>?_
  .refine g10 ?_;refine j2 func57 (lI 63 addO (bY func63 rfl rfl) addFn a b (qN ha hb (.inl (dY l7)))) ⟨f9,g0,i6⟩ λy=>?_;refine bF d8 λhE=>?_;refine g17 ?_;have hr:=g.symm.trans (dy_f (op_1 asd) asd asd asd asd l7 hE);subst hr;exact rs2 (⟨b.B,y.k,y.l⟩:TyV) ⟨(bS (x:=⟨b.B,y.k,y.l⟩) f3 d7),i7 rfl,i6⟩
  refine g6 ?_;refine gN (λd=>?_) λd=>?_
  .refine g10 ?_;refine j2 func57 (lI 58 zJ (bY func58 rfl rfl) bXx a b (qN ha hb (.inl (dY l7)))) ⟨f9,g0,i6⟩ λw=>?_;refine bF d8 λhE=>?_;refine g17 ?_;have hr:=g.symm.trans (dy_f (op_2 asd) asd asd asd asd l7 hE);subst hr;exact rs2 (⟨b.B,w.k,w.l⟩:TyV) ⟨(bS (x:=⟨b.B,w.k,w.l⟩) f3 d7),i7 rfl,i6⟩
  refine g6 ?_;refine gN (λc=>?_) λc=>?_
  .refine g10 ?_;refine j2 func57 (lI 55 mF (bY func55 rfl rfl) mulFn a b (qN ha hb (.inl (dY l7)))) ⟨f9,g0,i6⟩ λv=>?_;refine bF d8 λhE=>?_;refine g17 ?_;have hr:=g.symm.trans (dy_f (op_3 asd) asd asd asd asd l7 hE);subst hr;exact rs2 (⟨b.B,v.k,v.l⟩:TyV) ⟨(bS (x:=⟨b.B,v.k,v.l⟩) f3 d7),i7 rfl,i6⟩
  refine g8 ?_;refine j2 func57 (bHm a b) i6 λu=>?_;refine bF d8 λhE=>?_;refine g17 ?_;have hr:=g.symm.trans (dy_f (bPh asd asd asd) asd asd asd asd l7 hE);subst hr;exact rs2 (⟨b.B,u.k,u.l⟩:TyV) ⟨(bS (x:=⟨b.B,u.k,u.l⟩) f3 d7),i7 rfl,i6⟩
 refine g7 ?_;refine lR (λA=>?_) λA=>?_
 .refine g4 ?_;refine j2 func62 (vZ a.B.I b.B.I a.B.cap b.B.cap a.B.A b.B.A l7) ⟨f7,f6,e7,e6,i6⟩ λ_=>?_;refine g5 ?_;refine iQ (λB=>?_) λB=>?_
  .refine g10 ?_;have hr:=g.symm.trans (dy_e asd asd asd asd l7 l7 (bWg asd));subst hr;exact rs2 (⟨a.B,false,⟨none,0,[]⟩⟩:TyV) ⟨(bS (x:=⟨a.B,false,⟨none,0,[]⟩⟩) f8 bO),i7 rfl,i6⟩
  refine g21 ?_;refine gN (λe=>?_) λe=>?_
  .refine g10 ?_;refine j2 func57 (lI 63 addO (bY func63 rfl rfl) addFn a b (qN ha hb (.inr (.inr (sH asd))))) ⟨f9,g0,i6⟩ λs=>?_;refine bF d8 λhE=>?_;refine g17 ?_;have hr:=g.symm.trans (dy_g (op_1 asd) asd asd asd asd l7 (.inr (sH asd)) hE);subst hr;exact rs2 (⟨a.B,s.k,s.l⟩:TyV) ⟨(bS (x:=⟨a.B,s.k,s.l⟩) g0 d7),i7 rfl,i6⟩
  refine g6 ?_;refine gN (λd=>?_) λd=>?_
  .refine g10 ?_;refine j2 func57 (lI 58 zJ (bY func58 rfl rfl) bXx a b (qN ha hb (.inr (.inr (sH asd))))) ⟨f9,g0,i6⟩ λq=>?_;refine bF d8 λhE=>?_;refine g17 ?_;have hr:=g.symm.trans (dy_g (op_2 asd) asd asd asd asd l7 (.inr (sH asd)) hE);subst hr;exact rs2 (⟨a.B,q.k,q.l⟩:TyV) ⟨(bS (x:=⟨a.B,q.k,q.l⟩) g0 d7),i7 rfl,i6⟩
  refine g6 ?_;refine gN (λc=>?_) λc=>?_
  .refine g10 ?_;refine j2 func57 (lI 55 mF (bY func55 rfl rfl) mulFn a b (qN ha hb (.inr (.inr (sH asd))))) ⟨f9,g0,i6⟩ λp=>?_;refine bF d8 λhE=>?_;refine g17 ?_;have hr:=g.symm.trans (dy_g (op_3 asd) asd asd asd asd l7 (.inr (sH asd)) hE);subst hr;exact rs2 (⟨a.B,p.k,p.l⟩:TyV) ⟨(bS (x:=⟨a.B,p.k,p.l⟩) g0 d7),i7 rfl,i6⟩
  refine g8 ?_;refine j2 func57 (bHm a b) i6 λo=>?_;refine bF d8 λhE=>?_;refine g17 ?_;have hr:=g.symm.trans (dy_g (bPh asd asd asd) asd asd asd asd l7 (.inr (sH asd)) hE);subst hr;exact rs2 (⟨a.B,o.k,o.l⟩:TyV) ⟨(bS (x:=⟨a.B,o.k,o.l⟩) g0 d7),i7 rfl,i6⟩
 refine g32 ?_;refine gN (λe=>?_) λe=>?_
 .refine g10 ?_;refine j2 func57 (lI 63 addO (bY func63 rfl rfl) addFn a b (qN ha hb (.inr (.inl (dY l7))))) ⟨f9,g0,i6⟩ λn=>?_;refine bF d8 λhE=>?_;refine g17 ?_;have hr:=g.symm.trans (dy_g (op_1 asd) asd asd asd asd l7 (.inl l7) hE);subst hr;exact rs2 (⟨a.B,n.k,n.l⟩:TyV) ⟨(bS (x:=⟨a.B,n.k,n.l⟩) g0 d7),i7 rfl,i6⟩
 refine g6 ?_;refine gN (λd=>?_) λd=>?_
 .refine g10 ?_;refine j2 func57 (lI 58 zJ (bY func58 rfl rfl) bXx a b (qN ha hb (.inr (.inl (dY l7))))) ⟨f9,g0,i6⟩ λm=>?_;refine bF d8 λhE=>?_;refine g17 ?_;have hr:=g.symm.trans (dy_g (op_2 asd) asd asd asd asd l7 (.inl l7) hE);subst hr;exact rs2 (⟨a.B,m.k,m.l⟩:TyV) ⟨(bS (x:=⟨a.B,m.k,m.l⟩) g0 d7),i7 rfl,i6⟩
 refine g6 ?_;refine gN (λc=>?_) λc=>?_
 .refine g10 ?_;refine j2 func57 (lI 55 mF (bY func55 rfl rfl) mulFn a b (qN ha hb (.inr (.inl (dY l7))))) ⟨f9,g0,i6⟩ λj=>?_;refine bF d8 λhE=>?_;refine g17 ?_;have hr:=g.symm.trans (dy_g (op_3 asd) asd asd asd asd l7 (.inl l7) hE);subst hr;exact rs2 (⟨a.B,j.k,j.l⟩:TyV) ⟨(bS (x:=⟨a.B,j.k,j.l⟩) g0 d7),i7 rfl,i6⟩
 refine g8 ?_;refine j2 func57 (bHm a b) i6 λi=>?_;refine bF d8 λhE=>?_;refine g17 ?_;have hr:=g.symm.trans (dy_g (bPh asd asd asd) asd asd asd asd l7 (.inl l7) hE);subst hr;exact rs2 (⟨a.B,i.k,i.l⟩:TyV) ⟨(bS (x:=⟨a.B,i.k,i.l⟩) g0 d7),i7 rfl,i6⟩
section
variable {P : Program} {β : fS} {n : Nat} {Γ : Env} {H : List bK} {F : List Fact} {Q : Exit -> Act -> World -> Prop} {K : Act -> World -> Prop}
theorem Perm.last{A B:List bK}:(A++B).Perm (B++A):=List.perm_append_comm
theorem all_set{xs:List (Sl Int)}{x y:Sl Int}{i:Nat}(h:xs[i]?=some x)(h1:y.I=x.I)(h2:y.cap=x.cap)(h3:y.A.length=x.A.length):bYn.all (xs.set i y)=bYn.all xs:=by
 have e:bYn.cells y=bYn.cells x:=by show [W3 y.I y.A.length y.cap]=[W3 x.I x.A.length x.cap];rw[h1,h2,h3]
 unfold Flat.all;rw[X5,X5,List.map_set,e]
 congr 1
 have hx:(xs.map bYn.cells)[i]?=some (bYn.cells x):=by rw[K1,h];rfl
 obtain⟨a,b⟩:=F3.1 hx;rw[<-b];exact List.set_getElem_self a
end
def rD:List fF->Nat->Option Nat
 |[],n=>some n
 |x::r,n=>if fL x<=n/\1<=x.H/\x.H<=7/\(x.H=1->x.nums≠[]/\x.nums.length<=65536)then rD r (n-fL x+1)else none
theorem vQ{x:fF}(h:x.H=1\/x.H=2):fL x=0:=by unfold fL;rw[if_neg l7,if_neg l7]
theorem vF{x:fF}(h:x.H=4\/x.H=7):fL x=2:=by unfold fL;rw[if_neg l7,if_pos h]
theorem rK{x:fF}(h:x.H=3\/x.H=5\/x.H=6):fL x=1:=by unfold fL;rw[if_pos h]
theorem step_depth{st st':List gE}{x:fF}(h:jV st x=some st'):fL x<=st.length/\st'.length=st.length-fL x+1/\1<=x.H/\x.H<=7/\(x.H=1->x.nums≠[]/\x.nums.length<=65536):=by
 unfold jV at h;split at h
 .rename_i hh;rw[vQ hh]
  cases ho:operandS x with
  |none=>simp[ho]at h
  |some p=>
   simp only[ho,Option.map_some,Option.some.injEq]at h;subst h;refine⟨l7,m9,l7,l7,λh1=>?_⟩;unfold operandS at ho;rw[if_neg l7]at ho;split at ho
   .cases ho
   .rename_i b;simp only[not_or,ne_eq,Classical.not_not,Nat.not_lt]at b;exact⟨b.2.2.1,l7⟩
 .split at h
  .cases h
  .rename_i a c;simp only[not_or,Int.not_lt]at c a;unfold rX at h
   by_cases h2:x.H=4\/x.H=7
   .have e:vU x.H=true:=by unfold vU;rcases h2 with h2|h2<;>rw[h2]<;>rfl
    rw[if_pos e]at h;rw[vF h2]
    match st,h with
    |p::q::r,h=>
     simp only[Option.some.injEq]at h;subst h;exact⟨m9,m9,l7,l7,λh1=>by omega⟩
    |[p],h=>cases h
    |[],h=>cases h
   .have e:vU x.H=false:=by unfold vU;simp only[Bool.or_eq_false_iff,beq_eq_false_iff_ne,ne_eq];omega
    rw[if_neg (by rw[e];simp)]at h;rw[rK l7]
    match st,h with
    |p::r,h=>
     simp only[Option.some.injEq]at h;subst h;exact⟨m9,m9,l7,l7,λh1=>by omega⟩
    |[],h=>cases h
theorem bNo: ∀{l:List fF} {st st':List gE},gO l st=some st'->rD l st.length=some st'.length
 |[],st,st',h=>by
  simp only[gO,Option.some.injEq]at h;subst h;rfl
 |x::l,st,st',h=>by
  rw[gO]at h
  cases h1:jV st x with
  |none=>rw[h1]at h;cases h
  |some s1=>
   rw[h1]at h;obtain⟨a,b,c,d,e⟩:=step_depth h1;rw[rD,if_pos ⟨a,c,d,e⟩,<-b];exact bNo h
theorem bUr{l:List fF}{m:Nat}{t:Bs}(h:gX l m=some t):rD l 0=some 1:=by
 unfold gX at h;split at h
 .cases h
 .split at h
  .rename_i hq;exact bNo (st:=[]) hq
  .cases h
theorem bNu: ∀{ls:List nF} {o o':Bs},gS ls o=(o',true)-> ∀l∈ls,rD l.K 0=some 1
 |[],_,_,_,l,a=>by simp at a
 |[m],o,o',h,l,a=>by
  rw[K7.1 a];simp only[gS]at h
  cases hx:gX m.K 255 with
  |none=>rw[hx]at h;simp at h
  |some t=>exact bUr hx
 |m::n::ls,o,o',h,l,a=>by
  have b:(match gX m.K 254 with
    |none=>(o,false)
    |some t=>if dQ m.name=false then (o,false)else gS (n::ls) (o++(((m.name++[58,32])++t)++[10])))=(o',true):=h
  cases hx:gX m.K 254 with
  |none=>rw[hx]at b;simp at b
  |some t=>
   rw[hx]at b;simp only at b;split at b
   .simp at b
   .rcases List.mem_cons.1 a with rfl|a
    .exact bUr hx
    .exact bNu b l a
theorem bCj{p:iL}(h:(dU p).2=true): ∀l∈p.G,rD l.K 0=some 1:=by
 unfold dU at h;split at h
 .cases h
 .cases hi:oM p.C []with
  |mk o b=>
   rw[hi]at h
   cases b with
   |false=>cases h
   |true=>exact bNu (o':=(gS p.G o).1) (Prod.ext rfl h)
def bHw (N:bFl):Prop:= ∀p∈N,rightA p.2=true
theorem look_mem{k:Bs}{a:Arr}: ∀{N:bFl},look k N=some a-> ∃p∈N,p.2=a
 |[],h=>by cases h
 |p::r,h=>by
  unfold look at h;split at h
  .injection h with h
   exact⟨p,E8 ..,h⟩
  .obtain⟨q,hq,e⟩:=look_mem h;exact⟨q,List.mem_cons_of_mem _ hq,e⟩
theorem bHw.look{N:bFl}(h:bHw N){k:Bs}{a:Arr}(hk:look k N=some a):rightA a=true:=by obtain⟨p,b,e⟩:=look_mem hk;rw[<-e];exact h p b
theorem bHw.cons{N:bFl}(h:bHw N){k:Bs}{a:Arr}(ha:rightA a=true):bHw ((k,a)::N):=λp b=>by
 rcases List.mem_cons.1 b with rfl|b
 .exact ha
 .exact h p b
def nUnused:Bs:=[117,110,117,115,101,100]
def SameBut(N' N:bFl):Prop:= ∀k,k≠nUnused->look k N'=look k N
theorem SameBut.cons{N' N:bFl}(h:SameBut N' N)(s:Bs)(a:Arr):SameBut ((s,a)::N') ((s,a)::N):=λk b=>by
 unfold look;split
 .rfl
 .exact h k b
theorem bJn(k k':Bs)(v:Value): ∀kv:KVS,qD k (qB k' v kv)=if k==k' then some v else qD k kv
 |[]=>by
  unfold qB qD;rfl
 |p::r=>by
  have b:=bJn k k' v r;unfold qB
  by_cases a:k'=p.1
  .rw[if_pos (beq_iff_eq.2 a)]
   by_cases h:k=k'
   .rw[if_pos (beq_iff_eq.2 h),qD,if_pos (beq_iff_eq.2 h)]
   .rw[if_neg ad3,qD,if_neg ad3,qD,if_neg (by simpa[a]using λe=>h (e.trans a.symm))]
  .rw[if_neg (by simpa using a)]
   by_cases h:k=p.1
   .have c: ¬k=k':=λe=>a (e.symm.trans h);rw[if_neg (by simpa using c),qD,if_pos (beq_iff_eq.2 h),qD,if_pos (beq_iff_eq.2 h)]
   .rw[qD,if_neg ad3,b];split
    .rfl
    .rw[qD,if_neg ad3]
def SeenR (kv:KVS)(out:List Bs):Prop:= ∀k,(qD k kv).getD (.bool false)= .bool (k==[] || out.contains k)
theorem seen_start:SeenR (qB [] (.bool true) []) []:=λk=>by
 rw[bJn];cases a:k==[]
 .rfl
 .rfl
theorem seen_add{kv:KVS}{out:List Bs}(h:SeenR kv out)(s:Bs):SeenR (qB s (.bool true) kv) (out++[s]):=λk=>by
 rw[bJn];cases b:k==s
 .have a: ¬k=s:=by simpa using b
  have e:(out++[s]).contains k=out.contains k:=by simp[a]
  rw[e];exact h k
 .have a:k=s:=by simpa using b
  subst a;simp
theorem zeroB(w:World):(zeroValue 4).run prog w= .ok (.bool false) w:=m0
theorem mapSB:prog.underlying 83=some (.map 9 4):=m0
def yU (p:iL)(rest:List oI)(out:List Bs)(kv:KVS):Prop:=SeenR kv out/\iT rest out=dG p/\out.length+rest.length<=8000000000000
section
variable {p : iL} {l : List hU} {x : hU} {ds R : List oI} {d : oI} {out : List Bs} {kv : KVS} {i j : Nat}
theorem va_start(h:(dZ p.C).length<=8000000000000):yU p (dZ (p.C.drop 0)) [] (qB [] (.bool true) []):=⟨seen_start,rfl,by simpa using h⟩
theorem va_in(h:yU p (dZ (l.drop i)) out kv)(hx:l[i]?=some x):yU p (x.B.drop 0++dZ (l.drop (i+1))) out kv:=by rw[lE hx]at h;exact h
theorem va_skip(h:yU p (ds.drop j++R) out kv)(hd:ds[j]?=some d)(hs:(d.name==[] || out.contains d.name)=true):yU p (ds.drop (j+1)++R) out kv:=by rw[lE hd,R0]at h;obtain⟨a,b,c⟩:=h;refine⟨a,?_,by simp at c⊢;omega⟩;rw[iT,if_pos (by simpa using hs)]at b;exact b
theorem va_add(h:yU p (ds.drop j++R) out kv)(hd:ds[j]?=some d)(hs:(d.name==[] || out.contains d.name)=false):yU p (ds.drop (j+1)++R) (out++[d.name]) (qB d.name (.bool true) kv):=by rw[lE hd,R0]at h;obtain⟨a,b,c⟩:=h;refine⟨seen_add a _,?_,by simp at c⊢;omega⟩;rw[iT,if_neg (by simpa using hs)]at b;exact b
theorem va_len(h:yU p (ds.drop j++R) out kv)(hd:ds[j]?=some d):out.length+1<=8000000000000:=by rw[lE hd,R0]at h;have:=h.2.2;simp at this;omega
theorem va_out(h:yU p (ds.drop j++R) out kv)(hj:ds.length<=j):yU p R out kv:=by rw[qK hj]at h;exact h
theorem va_end(h:yU p (dZ (l.drop i)) out kv)(hi:l.length<=i):dG p=out:=by rw[qK hi]at h;exact h.2.1.symm
end
theorem bWv(P:ProgV)(hl1:P.C.A.length<=140737488355328)(hs: ∀x∈P.C.A,x.B.A.length<=140737488355328)(hTT:(dZ P.pr.C).length<=8000000000000):cY prog 13 [.agg #[j8 P.C,j8 P.G]] [] [jP.sl (j8 P.C) P.C.A,iW P.C.A] (λ(x:Option Addr×Nat)=> .slice x.1 (dG P.pr).length x.2) (λ_=>[]) (λ(x:Option Addr×Nat)=>[lZ.sl (.slice x.1 (dG P.pr).length x.2) (dG P.pr),Fact.pure ((dG P.pr).length<=x.2)]):=by
 have hT:=bJo;refine j5 func13 ntmps13 ?_;intro β hM;refine g2 ?_;refine j4 λs=>?_;refine g10 ?_;refine bNk rfl rfl rfl rfl λl=>?_;refine pZ .head rfl (.inr rfl) rfl mapSB underlying9 rfl rfl rfl ?_;refine g6 ?_;refine bQ (t:=9) lZ ?_;refine g8 ?_;refine cF (ι:=Nat×KVS×List Bs×Option Addr×Nat) [(4,_),(12,_),(13,_)] ⟨rfl,rfl,rfl,i6⟩ (λ⟨i,kv,vs,A1,c1⟩=>[(3,.slice A1 vs.length c1),(14,.int .i64 (i:Nat))]) (λ⟨i,kv,vs,A1,c1⟩=>[wK l kv,lZ.row (.slice A1 vs.length c1) 9 vs]) (λ⟨i,kv,vs,A1,c1⟩=>[Fact.pure (i<=P.C.A.length/\yU P.pr (dZ (P.pr.C.drop i)) vs kv)]) (λ⟨i,kv,vs,A1,c1⟩=>P.C.A.length-i) (0,qB [] (.bool true) [],[],none,0) ⟨rfl,rfl,i6⟩ (.c1 (.c0 .nil)) ⟨i7 (⟨l7,va_start hTT⟩),i6⟩ ?_;rintro⟨i,kv,vs,A1,c1⟩;dsimp only;refine bF d7 λb=>?_;refine g6 ?_;refine dP (λhc15=>?_) λhc15=>?_
 .refine g6 ?_;obtain⟨x3,c⟩:=gx P.C.A i;refine ss (ixs i) ?_;refine ss (pF c 0) ?_;refine j1 mN λr=>?_;refine g4 ?_;have hx0:P.pr.C[i]?=some x3.inp:=mP c;have n:=hs x3 (j0 c);refine bB (nS x3) (Has.each d9 (j0 c)) ?_;refine g8 ?_;refine cF (ι:=Nat×KVS×List Bs×Option Addr×Nat) [(4,_),(12,_),(13,_),(14,_),(19,_),(20,_)] ⟨rfl,rfl,rfl,rfl,rfl,rfl,i6⟩ (λ⟨j,kv2,vs2,A2,c2⟩=>[(3,.slice A2 vs2.length c2),(21,.int .i64 (j:Nat))]) (λ⟨j,kv2,vs2,A2,c2⟩=>[wK l kv2,lZ.row (.slice A2 vs2.length c2) 9 vs2]) (λ⟨j,kv2,vs2,A2,c2⟩=>[Fact.pure (j<=x3.B.A.length/\yU P.pr (x3.inp.B.drop j++dZ (P.pr.C.drop (i+1))) vs2 kv2)]) (λ⟨j,kv2,vs2,A2,c2⟩=>x3.B.A.length-j) (0,kv,vs,A1,c1) ⟨rfl,rfl,i6⟩ (.c1 (.c1 .nil)) ⟨i7 (⟨l7,va_in b.2 hx0⟩),i6⟩ ?_;rintro⟨j,kv2,vs2,A2,c2⟩;dsimp only;refine bF d7 λa=>?_;refine g6 ?_;refine dP (λf=>?_) λf=>?_
  .refine g6 ?_;obtain⟨x6,d⟩:=gx x3.B.A j;refine ss (ixs j) ?_;refine ss (pF d 0) ?_;refine j1 zE λq=>?_;refine g4 ?_;have hd0:x3.inp.B[j]?=some x6.sd:=mP d;have o:=va_len a.2 hd0;refine g4 ?_;refine ss (sti_lookupS (oR kT1) rfl mapSB underlying9 zeroB rfl rfl (a.2.1 x6.name)) ?_;refine g3 ?_;refine iQ (λe=>?_) λe=>?_
   .refine g5 ?_;refine pZ kT1 rfl (.inl rfl) rfl mapSB underlying9 rfl rfl rfl ?_;refine g6 ?_;refine lH (m:=x6.name) rfl rfl rfl rfl rfl λp=>?_;refine mR kT3 (bU .head rfl) rfl rfl rfl rfl rfl rfl rfl q9 λk h=>?_;refine g6 ?_;refine inc (j+1) ?_;refine g3 ?_;exact bk2 (j+1,(qB x6.name (.bool true) kv2),(vs2++[x6.name]),k,h) ⟨i7 (⟨by dsimp only;omega,va_add a.2 hd0 (by first|assumption|(simpa using ‹_›))⟩),i6⟩
   refine g5 ?_;refine inc (j+1) ?_;refine g3 ?_;exact bk2 (j+1,kv2,vs2,A2,c2) ⟨i7 (⟨by dsimp only;omega,va_skip a.2 hd0 (by first|assumption|(simpa using ‹_›))⟩),i6⟩
  refine g8 ?_;refine inc (i+1) ?_;refine g3 ?_;exact bk2 (i+1,kv2,vs2,A2,c2) ⟨i7 (⟨by dsimp only;omega,va_out a.2 ai8⟩),i6⟩
 refine g12 ?_;have he:=va_end b.2 af4;rw[he];refine fW kT1 λg=>bR kT1 ?_;exact rs1 (A1,c1) ⟨d7,i7 g,i6⟩
