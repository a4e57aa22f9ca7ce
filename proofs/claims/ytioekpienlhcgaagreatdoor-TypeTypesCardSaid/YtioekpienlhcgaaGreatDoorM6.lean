/- A part of one proof. -/
import Derived.Test.YtioekpienlhcgaaGreatDoorM5
import Derived.Test.YtioekpienlhcgaaGreatDoorShelfB
import Derived.Lib.AppendZeros
set_option maxRecDepth 100000
namespace Go.Proofs.YtioekpienlhcgaaGreatDoor
open Go.RowKit Go.Proofs.Tryz
open Value renaming slice->V7
open _root_.List renaming replicate->V8,replicate_succ->V9,length_eq_zero_iff->W2,map_toArray->O5,mem_cons_self->E8,take_append_drop->W3,take_append_of_le_length->W4,take_of_length_le->F6,drop_of_length_le->K3,nil_append->K5,take->W6,length_replicate->W7,length_take->K6,append_nil->F9,mem_singleton->K7,length->Q8,getElem?_eq_some_iff->F3,map_append->L2,length_append->F4,drop_eq_getElem_cons->K2,getElem?_map->K1,take_succ_eq_append_getElem->T8,flatten_append->W8,length_drop->N9,length_set->W9,flatMap_def->X0,cons_append->R0
open _root_.Nat renaming blt->B2,min->X1,mul_one->X2,le_refl->B0,min_le_left->X4,min_le_right->X5,min_eq_left->L3,le_trans->B1,eq_zero_or_pos->S8
open Sem renaming run_bind->G9
open Result renaming andThen_ok->H6
open IntKind renaming wrap->J5,bits->J7,signed->J6
open Op renaming equalIn->H7
open Builtin renaming zeroCells->X6
theorem bitsMul_spec(x y:Nat)(hx:x<18446744073709551616)(hy:y<18446744073709551616):cY prog 134 [.int .u64 (x:Nat),.int .u64 (y:Nat)] [] [] (λ_:Unit=> .tuple #[.int .u64 ((x*y/18446744073709551616:Nat):Int),.int .u64 ((x*y%18446744073709551616:Nat):Int)]) (λ_=>[]) (λ_=>[]):=
 bCu λ_ w _=>Tryz.bits_Mul x y hx hy w
def mP:PolV:=⟨none,0,[]⟩
theorem polsize:(prog.info? 40).map (·.size)=some 1:=m7
theorem madePols(m:Nat):(madeCells (V7 none 0 0).cells (m*1)).toList=bV.all (V8 m mP):=by
 have e: ∀m,bV.all (V8 m mP)=V8 m (.slice none 0 0):=λm=>by
  induction m with
  |zero=>rfl
  |succ m ih=>rw[V9,V9,<-ih];rfl
 rw[e];unfold madeCells;apply List.ext_getElem
 .simp
 .intro i h1 h2;simp[Value.cells,Nat.mod_one]
theorem dC.pre{β:fR}{H:List bL}{F:List Fact}{α:Type}{E:Flat α}{A:Option Addr}{xs:List α}(h:dC β H F E A xs)(r:Nat):dC β H F E A (xs.take r):=λw S s b k x a=>by
 rw[List.getElem?_take]at a;split at a
 .exact h w S s b k x a
 .cases a
section
variable {β : fR} {n : Nat} {Γ : Env} {H : List bL} {F : List Fact} {Q : Exit -> Act -> World -> Prop} {ops : Array Oper} {rest : List Oper} {o : Oper} {d : Nat}
theorem at_makePols{m:Nat}{x y:Operand}(hw:want ops Γ o=some true)(ho:o.op= .makeSlice 36 x y)(hd:o.dst=some d)(hn:B2 d n=true)
  (hx:Γ.ev x=some (k9 (m:Nat))) (hy:Γ.ev y=some (k9 (m:Nat))) (hm:m<=1000000)
  (k: ∀b,At β n ((d,.slice (some ⟨b,0,none⟩) m m)::Γ) (bV.row (.slice (some ⟨b,0,none⟩) m m) 40 (V8 m mP)::H) F (wpList prog ops Q rest)):At β n Γ H F (wpList prog ops Q (o::rest)):=by obtain⟨i,hi,a,hs,c⟩:=bBj;exact at_make (E:=bV) hw ho hd hn hx hy underlying36 hi a hs (by rw[c];omega) (by simp[maxLen];omega) (madePols m) n9 k
theorem bMs{x y:Operand}{t':TypeId}{g c cap m q l lc s:Nat}{A:Option Addr}{xs ys:List PolV}{H':List bL}(hr:dC β H F bV A ys)(hw:want ops Γ o=some true)
  (ho:o.op= .call {callee:= .builtin .copy,args:= #[x,y],argTypes:= #[36,36]}) (hd:o.dst=some d) (hn:B2 d n=true)
  (hx:Γ.ev x=some (.slice (some ⟨g,q,none⟩) l lc)) (hm:xs.length=m) (hy:Γ.ev y=some (.slice A s c)) (hmin:ys.length=X1 s l) (hq:q+ys.length<=m) (hH:cU H (bV.row (.slice (some ⟨g,0,none⟩) m cap) t' xs) H')
  (k:At β n ((d,k9 (ys.length:Nat))::Γ) (bV.row (.slice (some ⟨g,0,none⟩) m cap) t' (xs.take q++ys++xs.drop (q+ys.length))::H') F (wpList prog ops Q rest)):At β n Γ H F (wpList prog ops Q (o::rest)):=
 lG hw λa w S f r D=>by
  have t:(bV.all ys).length=ys.length:=by rw[bV.all_length];exact X2 _
  have p:(bV.all xs).length=m:=by rw[bV.all_length,hm];exact X2 _
  have C:=r.perm hH.perm;have i:w.ownsRow 0 t' 1 (.slice (some ⟨g,0,none⟩) m cap) xs.length (bV.all xs):=r.ok _ hH.mem;rw[hm]at i
  have B:(Builtin.copy_ #[36,36] o.type #[.slice (some ⟨g,q,none⟩) l lc,.slice A s c]).run prog w= .ok (goInt ys.length) (w.setCells g q (bV.all ys)):=by
   by_cases h0:0<ys.length
   .obtain⟨b,u,rfl,G⟩:=hr.cells r D h0;have:=run_copy_cells (P:=prog) w 36 36 o.type 40 g q l lc ⟨b,u,none⟩ s c (bV.all ys) underlying36 polsize (by rw[t];exact hmin) G
     (λj J=>by
      rw[World.ownsRow.cellAt i _ m0,List.getElem?_eq_getElem (by rw[p];omega)]
      rfl) (λj _=>World.ownsRow.frozenAt i _) bV.all_one
    rwa[t]at this
   .have I:ys=[]:=W2.1 m0;subst I;exact run_copy_none (P:=prog) w _ _ o.type 40 _ A l lc s c underlying36 polsize hmin.symm
  have v:(execOp a.eval o).run prog w= .ok (.value (.int .i64 (ys.length:Nat))) (w.setCells g q (bV.all ys)):=by unfold execOp;simp only[ho,resolve,invoke,builtin,G9,Sem.run_pure,H6,O5,List.map_cons,List.map_nil,f.ev hx,f.ev hy,B];rfl
  unfold Oper.wp;rw[v,Oper.upon_value,hd];refine k _ _ S (f.put w9 _) (C.swap (pQ g _ q w) rfl rfl ?_) (All.mono (λ_ h=>h) (r.agree (pQ g _ q w) (λc E e=>by subst e;exact(C.own _ (E8 ..) _ rfl).2.2 E)) D);have:=vH (bV.all ys) q w (bV.all xs) i;rw[bGg _ _ _ (by rw[t,p];omega),t]at this
  have ht:(bV.all xs).take q=bV.all (xs.take q):=by
   conv=>lhs;rw[<-W3 q xs,bV.all_append]
   rw[W4 (by rw[bV.all_length];simp;show q<=_*1;omega),F6 (by rw[bV.all_length];simp;show _*1<=q;omega)]
  have z:(bV.all xs).drop (q+ys.length)=bV.all (xs.drop (q+ys.length)):=by
   conv=>lhs;rw[<-W3 (q+ys.length) xs,bV.all_append]
   have e:(bV.all (xs.take (q+ys.length))).length=q+ys.length:=by rw[bV.all_length];simp;show _*1=_;omega
   rw[List.drop_append_of_le_length m0,K3 m0,K5]
  rw[ht,z,<-bV.all_append,<-bV.all_append]at this;show World.ownsRow _ 0 t' 1 _ _ _;have e:(xs.take q++ys++xs.drop (q+ys.length)).length=m:=by simp;omega
  rw[e];exact this
end
def bXs (p:PolV)(n i:Nat)(cur:List PolV):Prop:=cur=V8 i p++V8 (n-i) mP/\i<=n
theorem rep_len{p:PolV}{n i:Nat}{cur:List PolV}(h:bXs p n i cur):cur.length=n:=by rw[h.1];have:=h.2;simp;omega
theorem rep_first(p:PolV)(n r:Nat)(hr:r=X1 1 n):bXs p n r ((V8 n mP).take 0++W6 r [p]++(V8 n mP).drop (0+(W6 r [p]).length)):=by
 subst hr
 cases n with
 |zero=>exact⟨rfl,B0 _⟩
 |succ n=>
  have:X1 1 (n+1)=1:=by simp
  rw[this];exact⟨n9,m0⟩
theorem rep_step{p:PolV}{n i:Nat}{cur:List PolV}(h:bXs p n i cur)(hi:i<n):bXs p n (i+X1 i (n-i)) (cur.take i++cur.take (X1 i (n-i))++cur.drop (i+(cur.take (X1 i (n-i))).length)):=by
 obtain⟨rfl,f⟩:=h;have e:X1 i (n-i)<=i:=X4 _ _;have d:X1 i (n-i)<=n-i:=X5 _ _;generalize X1 i (n-i)=r at*
 have c:(V8 i p++V8 (n-i) mP).take i=V8 i p:=by rw[W4 n9,F6 n9]
 have b:(V8 i p++V8 (n-i) mP).take r=V8 r p:=by rw[W4 s8,List.take_replicate,L3 e]
 rw[c,b,W7];refine⟨?_,m0⟩
 have a:(V8 i p++V8 (n-i) mP).drop (i+r)=V8 (n-(i+r)) mP:=by
  rw[List.drop_append,K3 n9,W7,List.drop_replicate,K5]
  congr 1
  omega
 rw[a,List.replicate_append_replicate]
theorem rep_l1(p:PolV)(n:Nat):(W6 (X1 1 n) [p]).length=X1 1 n:=by rw[K6];exact L3 (X4 1 n)
theorem rep_l{p:PolV}{n i:Nat}{cur:List PolV}(h:bXs p n i cur):(cur.take (X1 i (n-i))).length=X1 i (n-i):=by rw[K6,rep_len h];exact L3 (B1 (X4 _ _) h.2)
theorem min1_le(n:Nat):X1 1 n<=n:=X5 _ _
theorem min1_or(n:Nat):1<=X1 1 n\/n=0:=by
 cases n with
 |zero=>exact .inr rfl
 |succ n=>exact .inl n9
theorem cutA_in{b i k cap:Nat}(h:i<cap)(hk:k=1):iJ (some ⟨b,0,none⟩) i k cap=some ⟨b,i,none⟩:=by subst hk;unfold iJ;rw[if_neg m0];simp[Addr.add];omega
theorem conv64{m:Nat}(h:m<9223372036854775808):IntKind.u64.wrap ((m:Nat):Int)=((m:Nat):Int):=by simp only[J5,J7,J6];simp;omega
theorem conv63{m:Nat}(h:m<9223372036854775808):IntKind.i64.wrap ((m:Nat):Int)=((m:Nat):Int):=by simp only[J5,J7,J6];simp;omega
theorem repeatP_spec(A:Option Addr)(c:Nat)(p:PolV)(n:Nat)(hn:n<=1000000):cY prog 96 [.slice A 1 c,k9 (n:Nat)] [] [bV.sl (.slice A 1 c) [p]] (λ(x:Option Addr×Nat)=> .slice x.1 n x.2) (λ(x:Option Addr×Nat)=>[bV.row (.slice x.1 n x.2) 40 (V8 n p)]) (λ_=>[]):=by
 have hT:=dL;refine j8 func96 ntmps96 ?_;intro β hM;refine g10 ?_;refine bF (t':=false) (decide_eq_false m0) ?_;refine g10 ?_;refine bJ (z':=((1:Nat):Int)) rfl ?_;refine g2 ?_;refine bJ (z':=((n:Nat):Int)) (conv64 m0) ?_;refine j5 func134 (bitsMul_spec 1 n m9 m0) j1 λ_=>?_;refine iC (v':= .tuple #[.int .u64 ((0:Nat):Int),.int .u64 ((n:Nat):Int)]) (by rw[Nat.one_mul,Nat.div_eq_of_lt m0,Nat.mod_eq_of_lt m0]) ?_;refine g12 ?_;refine bF (t':=false) m9 ?_;refine g3 ?_;refine bF (t':=false) (decide_eq_false m0) ?_;refine g10 ?_;refine bJ (z':=((n:Nat):Int)) (conv63 m0) ?_;refine at_makePols (m:=n) rfl rfl rfl rfl rfl rfl m0 λg=>?_;refine g7 ?_;refine bMs (ys:=W6 (X1 1 n) [p]) (q:=0) (dC.pre (bE d7) _) rfl rfl rfl rfl rfl n9 rfl (rep_l1 p n) (by rw[rep_l1];have:=min1_le n;omega) .head ?_;have e:=rep_first p n _ rfl;refine bJ (z':=((X1 1 n:Nat):Int)) (congrArg Nat.cast (rep_l1 p n)) ?_;refine g5 ?_;refine cI (ι:=Nat×List PolV) [(7,_)] ⟨rfl,j1⟩ (λ⟨i,cur⟩=>[(8,.int .i64 (i:Nat))]) (λ⟨i,cur⟩=>[bV.row (.slice (some ⟨g,0,none⟩) n n) 40 cur]) (λ⟨i,cur⟩=>[Fact.pure (bXs p n i cur/\(1<=i\/n=0))]) (λ⟨i,cur⟩=>n-i) (X1 1 n,_) ⟨rfl,j1⟩ (.c0 .nil) ⟨j2 (⟨e,min1_or n⟩),j1⟩ ?_;rintro⟨i,cur⟩;dsimp only;refine bG d7 λhinv8=>?_;refine g9 ?_;refine fA (λa=>?_) λa=>?_
 .refine g3 ?_;refine cK _ _ [k8,u0,u5,u9,A00,u6,A02,A75,A03,A04] cN o8 .nil bA.self ?_;refine g3 ?_;refine stM rfl (dU hT (k:=i) rfl rfl rfl rfl rfl rfl m0) ?_;refine iC (v':= .slice (some ⟨g,i,none⟩) (n-i) (n-i)) (by rw[cutA_in m0 rfl]) ?_;refine g2 ?_;refine stM rfl (iQ hT (k:=i) rfl rfl rfl rfl rfl rfl m0) ?_;refine one ?_;refine bMs (ys:=cur.take (X1 i (n-i))) (q:=i) (dC.pre (cM .head) _) rfl rfl rfl rfl rfl (rep_len hinv8.1) rfl (rep_l hinv8.1) (by rw[rep_l hinv8.1];have:X1 i (n-i)<=n-i:=X5 _ _;omega) .head ?_;have b:=rep_step hinv8.1 m0;have d:=rep_l hinv8.1;refine bJ (z':=((X1 i (n-i):Nat):Int)) (congrArg Nat.cast d) ?_
  have h:X1 i (n-i)<=n-i/\1<=X1 i (n-i):=⟨X5 _ _,Nat.le_min.2 ⟨m0,m0⟩⟩
  refine g2 ?_;refine inc (i+(X1 i (n-i))) ?_;refine g4 ?_;exact bk2 (i+X1 i (n-i),_) ⟨j2 (⟨b,by dsimp only;omega⟩),j1⟩
 refine g12 ?_;obtain rfl:i=n:=by have:=hinv8.1.2;omega
 have f:cur=V8 i p:=by rw[hinv8.1.1,Nat.sub_self,List.replicate_zero,F9]
 subst f;exact rs1 (_,_) trivial
section
variable {P : Program} {β : fR} {n : Nat} {Γ : Env} {H : List bL} {F : List Fact}
theorem sti_fneq{o:Oper}{x:Operand}{t tt:TypeId}{ps rs:Array TypeId}{vr:Bool}(hu:P.underlying t=some (.func ps rs vr)){fn:Fn}{a b:Array Value}(ho:o.op= .binOp .eql t x (.const .nilFunc) tt)(hx:Γ.ev x=some (.func fn a b)):Sti P β n Γ H F o (.bool false):=λc w S f s k=>by
 unfold execOp;have e:c.eval (.const .nilFunc)= .nilFunc:=rfl;have he: ∀d,(H7 (d+1) t (.func fn a b) .nilFunc).run P w= .ok false w:=λd=>by simp[H7,run_underlying hu]
 have g:(binOp .eql t (.func fn a b) .nilFunc).run P w= .ok (.bool false) w:=by simp only[binOp];rw[G9,show Op.equal t (.func fn a b) .nilFunc=H7 10000 t (.func fn a b) .nilFunc from rfl,he 9999];rfl
 have hg:(eqGuard .eql t x (.const .nilFunc) (.func fn a b) .nilFunc).run P w= .ok () w:=rfl;simp only[ho,f.ev hx,e];rw[G9,G9,hg,H6,g];rfl
theorem sti_nofneq{o:Oper}{x:Operand}{t tt:TypeId}{ps rs:Array TypeId}{vr:Bool}(hu:P.underlying t=some (.func ps rs vr))(ho:o.op= .binOp .eql t x (.const .nilFunc) tt)(hx:Γ.ev x=some .nilFunc):Sti P β n Γ H F o (.bool true):=λc w S f s k=>by
 unfold execOp;have e:c.eval (.const .nilFunc)= .nilFunc:=rfl;have he: ∀d,(H7 (d+1) t .nilFunc .nilFunc).run P w= .ok true w:=λd=>by simp[H7,run_underlying hu]
 have a:(binOp .eql t .nilFunc .nilFunc).run P w= .ok (.bool true) w:=by simp only[binOp];rw[G9,show Op.equal t .nilFunc .nilFunc=H7 10000 t .nilFunc .nilFunc from rfl,he 9999];rfl
 have hg:(eqGuard .eql t x (.const .nilFunc) .nilFunc .nilFunc).run P w= .ok () w:=rfl;simp only[ho,f.ev hx,e];rw[G9,G9,hg,H6,a];rfl
end
def PolFn (f:FuncId)(op:rU):Prop:= ∀p q:PolV,p.A.length<=140737488355328->q.A.length<=140737488355328->cY prog f [.slice p.I p.A.length p.cap,.slice q.I q.A.length q.cap] [] [jU p,jU q] (λx:Option Addr×Nat=> .tuple #[.slice x.1 (op p.A q.A).1.length x.2,.int .i64 (op p.A q.A).2]) (λ_=>[]) (λx=>[jU ⟨x.1,x.2,(op p.A q.A).1⟩])
structure bBr (a b:TyP):Prop where
 la:a.values.length<=1000000
 lb:b.values.length<=1000000
 one:a.known=true->b.known=true->a.B=[]->a.values.length=1
 two:a.known=true->b.known=true->b.B=[]->b.values.length=1
 same:a.known=true->b.known=true->a.B≠[]->b.B≠[]->a.values.length=b.values.length
theorem bIh(A:Option Addr)(c:Nat)(xs:List PolV)(p:PolV)(n:Nat)(h:xs=[p])(hn:n<=1000000):cY prog 96 [.slice A xs.length c,k9 (n:Nat)] [] [bV.sl (.slice A xs.length c) xs] (λ(x:Option Addr×Nat)=> .slice x.1 n x.2) (λ(x:Option Addr×Nat)=>[bV.row (.slice x.1 n x.2) 40 (V8 n p)]) (λ_=>[]):=by subst h;exact repeatP_spec A c p n hn
theorem bWq{F:List Fact}{p:PolV}(n:Nat){xs:List PolV}(e:xs=[p])(h:Has F (cL xs)):Has F (cL (V8 n p)):=λS w k q hq=>by subst e;rw[List.eq_of_mem_replicate hq];exact h S w k p (K7.2 rfl)
theorem oneP_of{xs:List PolV}(h:(bO xs).length=1): ∃p,xs=[p]:=by
 rw[bI]at h
 match xs,h with
 |[p],_=>exact⟨p,rfl⟩
theorem repL(xs:List PolV)(p:PolV)(n:Nat)(h:xs=[p]):repT (bO xs) n=bO (V8 n p):=by
 subst h;unfold repT bO
 induction n with
 |zero=>rfl
 |succ n ih=>rw[V9,V9,List.flatten_cons,ih];rfl
theorem dW{l:List PolV}(h:l.length=0):bO l=[]:=by rw[W2.1 h];rfl
theorem gE{l:List PolV}(h:0<l.length):bO l≠[]:=λe=>by have:=congrArg Q8 e;rw[bI,List.length_nil]at this;omega
def wN (op:rU)(X Y out:List Pol)(i:Nat):Prop:=out.length=i/\bAd op X Y=(bAd op (X.drop i) (Y.drop i)).map (out++ ·)
theorem uU(op:rU)(X Y:List Pol):wN op X Y [] 0:=⟨rfl,by cases h:bAd op X Y<;>simp[h]⟩
section
variable {op : rU} {X Y : List Pol} {xs ys out : List PolV} {i : Nat} {p q r : PolV}
theorem wY(h:wN op (bO xs) (bO ys) (bO out) i)(hp:xs[i]?=some p)(hq:ys[i]?=some q)(hr:r.A=(op p.A q.A).1)(h0:(op p.A q.A).2=0):wN op (bO xs) (bO ys) (bO (out++[r])) (i+1):=by
 obtain⟨b,h⟩:=h;obtain⟨hi,e⟩:=F3.1 (jR hp);obtain⟨c,d⟩:=F3.1 (jR hq);have a:bO (out++[r])=bO out++[(op p.A q.A).1]:=by unfold bO;rw[L2,List.map_singleton,hr]
 refine⟨by rw[a,F4,b];rfl,?_⟩;rw[h,K2 hi,K2 c,e,d,a];show Option.map _ (if (op p.A q.A).2≠0 then none else _)=_;rw[if_neg (by simpa using h0),Option.map_map]
 congr 1
 funext l
 simp
theorem bBu(h:wN op (bO xs) (bO ys) (bO out) i)(hp:xs[i]?=some p)(hq:ys[i]?=some q)(h0:(op p.A q.A).2≠0):bAd op (bO xs) (bO ys)=none:=by obtain⟨d,h⟩:=h;obtain⟨hi,c⟩:=F3.1 (jR hp);obtain⟨a,b⟩:=F3.1 (jR hq);rw[h,K2 hi,K2 a,c,b];show Option.map _ (if (op p.A q.A).2≠0 then none else _)=_;rw[if_pos h0];rfl
theorem bBm(h:wN op (bO xs) (bO ys) (bO out) i)(hi:xs.length<=i):bAd op (bO xs) (bO ys)=some (bO out):=by obtain⟨a,h⟩:=h;rw[h,K3 am5];show some (bO out++[])=_;rw[F9]
theorem sA{a b:TyP}(h:bAd op (tT a b) (rB a b)=some X)(ha:a.known=true)(hb:b.known=true):lP (some op) a b=(X,true):=by show(if _ then _ else _)=_;rw[if_neg (by rw[ha,hb];simp),h]
theorem sO{a b:TyP}(h:bAd op (tT a b) (rB a b)=none)(ha:a.known=true)(hb:b.known=true):lP (some op) a b=([],false):=by show(if _ then _ else _)=_;rw[if_neg (by rw[ha,hb];simp),h]
theorem bDc{a b:TyP}(h:a.known=false\/b.known=false):lP (some op) a b=([],false):=if_pos h
end
theorem left_rep{a b:TyV}{p:PolV}(h:a.values.A=[p])(ha:a.B.A.length=0)(hb:0<b.B.A.length):tT a.t b.t=bO (V8 b.values.A.length p)/\rB a.t b.t=bO b.values.A:=by
 constructor
 .unfold tT;rw[if_pos ⟨dW ha,gE hb⟩,<-repL _ p _ h];show repT _ (bO b.values.A).length=_;rw[bI];rfl
 .unfold rB;rw[if_neg (λk=>gE hb k.1)];rfl
theorem bXd{a b:TyV}{p:PolV}(h:b.values.A=[p])(hb:b.B.A.length=0)(ha:0<a.B.A.length):tT a.t b.t=bO a.values.A/\rB a.t b.t=bO (V8 a.values.A.length p):=by
 constructor
 .unfold tT;rw[if_neg (λk=>gE ha k.1)];rfl
 .unfold rB;rw[if_pos ⟨dW hb,gE ha⟩,<-repL _ p _ h];show repT _ (bO a.values.A).length=_;rw[bI];rfl
theorem bOl{a b:TyV}(h:a.B.A.length=0/\b.B.A.length=0\/0<a.B.A.length/\0<b.B.A.length):tT a.t b.t=bO a.values.A/\rB a.t b.t=bO b.values.A:=by
 constructor
 .unfold tT;rw[if_neg]
  .rfl
  .rintro⟨k,l⟩
   rcases h with h|h
   .exact l (dW h.2)
   .exact gE h.1 k
 .unfold rB;rw[if_neg]
  .rfl
  .rintro⟨k,l⟩
   rcases h with h|h
   .exact l (dW h.1)
   .exact gE h.2 k
theorem bHl{a:TyV}(h:a.t.values.length=1): ∃p,a.values.A=[p]:=oneP_of h
theorem bLm{a b:TyV}(h:bBr a.t b.t)(ha:a.known=true)(hb:b.known=true)(hs:a.B.A.length=0/\b.B.A.length=0\/0<a.B.A.length/\0<b.B.A.length):a.values.A.length=b.values.A.length:=by
 have e:(bO a.values.A).length=(bO b.values.A).length:=by
  rcases hs with hs|hs
  .exact(h.one ha hb (dW hs.1)).trans (h.two ha hb (dW hs.2)).symm
  .exact h.same ha hb (gE hs.1) (gE hs.2)
 rwa[bI,bI]at e
structure EachV where
 l:Sl PolV
 k:Bool
theorem bEz(a b:TyV):cY prog 57 [.nilFunc,.agg #[k7 a.B,.bool a.known,k7 a.values],.agg #[k7 b.B,.bool b.known,k7 b.values]] [] [] (λ(x:EachV)=> .tuple #[k7 x.l,.bool x.k]) (λ_=>[]) (λ(x:EachV)=>[cO x.l,Fact.pure ((bO x.l.A,x.k)=lP none a.t b.t)]):=by have hT:=dL;refine j8 func57 ntmps57 ?_;intro β hM;refine g2 ?_;refine j6 λd=>?_;refine j6 λc=>?_;refine g8 ?_;refine ss (sti_nofneq underlying123 rfl rfl) ?_;refine g21 ?_;exact rs2 (⟨⟨none,0,[]⟩,false⟩:EachV) ⟨bN,j2 (rfl),j1⟩
theorem lE(f:FuncId)(op:rU)(hcf: ∀(args:Array Value) (w:World),(callFunc f args).run prog w= .ok (.enter f args) w)(hf:PolFn f op)(a b:TyV)(hab:bBr a.t b.t):cY prog 57 [.func (.func f) #[] #[],.agg #[k7 a.B,.bool a.known,k7 a.values],.agg #[k7 b.B,.bool b.known,k7 b.values]] [] [tyF a,tyF b] (λ(x:EachV)=> .tuple #[k7 x.l,.bool x.k]) (λ_=>[]) (λ(x:EachV)=>[cO x.l,Fact.pure ((bO x.l.A,x.k)=lP (some op) a.t b.t)]):=by
 have hT:=dL;have hla:a.values.A.length<=1000000:=by have:=hab.la;unfold TyV.t at this;rwa[bI]at this
 have hlb:b.values.A.length<=1000000:=by have:=hab.lb;unfold TyV.t at this;rwa[bI]at this
 refine j8 func57 ntmps57 ?_;intro β hM;refine bP<|bB (cO a.B) (jK d7) ?_;refine cE a.B mT0 λY=>bB (cO a.values) (jM e6)<|cE a.values mT0 λX=>bB (cO b.B) (jK f4)<|cE b.B mT0 λhc_bs=>bB (cO b.values) (jM f9)<|cE b.values mT0 λW=>?_;refine one ?_;refine j6 λb1=>?_;refine j6 λb2=>?_;refine g8 ?_;refine ss (sti_fneq underlying123 rfl rfl) ?_;refine g6 ?_;refine k_nt (λL=>?_) λL=>?_
 .refine g15 ?_;exact rs2 (⟨⟨none,0,[]⟩,false⟩:EachV) ⟨bN,j2 ((bDc (by show a.known=false\/b.known=false;simp_all)).symm),j1⟩
 have d:=L;refine g6 ?_;refine iK (λM=>?_) λM=>?_
 .refine g8 ?_;exact rs2 (⟨⟨none,0,[]⟩,false⟩:EachV) ⟨bN,j2 ((bDc (by show a.known=false\/b.known=false;simp_all)).symm),j1⟩
 have c:=M;refine g3 ?_;refine cK _ _ [k8,u0,u5,u9,A00,u6] cN o8 (.c0 (.c0 .nil)) bA.self ?_;refine g10 ?_
 rcases S8 a.B.A.length with u|u<;>rcases S8 b.B.A.length with s|s
 .have hlr:=bOl (a:=a) (b:=b) (.inl ⟨u,s⟩);have U:=bLm hab d c (.inl ⟨u,s⟩);refine g5 ?_;refine bF (t':=true) (decide_eq_true m0) ?_;refine g5 ?_;refine bF (t':=false) (decide_eq_false m0) ?_;refine g13 ?_;refine bF (t':=true) (decide_eq_true m0) ?_;refine g5 ?_;refine bF (t':=false) (decide_eq_false m0) ?_;refine g20 ?_;refine bQ (t:=40) bV<|bB (cL []) (Has.each_nil) ?_;have N:a.values.A.length=b.values.A.length:=by first|(simp;done)|(simp;omega)|omega
  have P:a.values.A.length=a.values.A.length:=by first|rfl|simp
  have O:a.values.A.length<=1000000:=m0
  refine cI (ι:=Nat×List PolV×Option Addr×Nat) [(0,_),(8,_),(9,_),(59,_)] ⟨rfl,rfl,rfl,rfl,j1⟩ (λ⟨i,vs,V,cv⟩=>[(10,.slice V vs.length cv),(60,.int .i64 (i:Nat))]) (λ⟨i,vs,V,cv⟩=>[bV.row (.slice V vs.length cv) 40 vs]) (λ⟨i,vs,V,cv⟩=>[Fact.pure (i<=a.values.A.length/\wN op (bO a.values.A) (bO b.values.A) (bO vs) i),cL vs]) (λ⟨i,vs,V,cv⟩=>a.values.A.length-i) (0,[],none,0) ⟨rfl,rfl,j1⟩ (.c0 .nil) ⟨j2 (⟨m0,uU op _ _⟩),d7,j1⟩ ?_;rintro⟨i,vs,V,cv⟩;dsimp only;refine bG d7 λhinv10=>?_;have v:=hinv10.2.1;rw[bI]at v;refine g6 ?_;refine fA (λg=>?_) λg=>?_
  .refine g11 ?_;refine cK _ _ [k8,u0,u5,u9,A00,u6,A02,A01,A03,(false,9),A08,A07,A09,A24,A61] cN o8 (.c0 (.c0 (.c0 .nil))) bA.self ?_;refine g3 ?_;obtain⟨x3,B⟩:=gx a.values.A i;refine stM rfl (ixs i) ?_;refine stM rfl (gI B 0) ?_;refine g2 ?_;obtain⟨R,A⟩:=gx b.values.A i;refine stM rfl (ixs i) ?_;refine stM rfl (gI A 0) ?_;refine one ?_;refine bG (dG (Has.each f7 (j3 B))) λhpl=>bG (dG (Has.each e6 (j3 A))) λy=>?_;refine iS hcf (hf x3 R hpl y) rfl rfl rfl rfl rfl rfl rfl .nil ⟨(Has.each f7 (j3 B)),(Has.each e6 (j3 A)),j1⟩ λ⟨A7,c8⟩=>?_;refine g15 ?_;refine tL (λe=>?_) λe=>?_
   .refine g13 ?_;exact rs2 (⟨⟨none,0,[]⟩,false⟩:EachV) ⟨bN,j2 ((sO (by rw[hlr.1,hlr.2];exact bBu hinv10.2 B A ‹_›) d c).symm),j1⟩
   refine g5 ?_;refine k6 (m:=⟨A7,c8,(op x3.A R.A).1⟩) λb9=>?_;refine bB (cL (vs++[(⟨A7,c8,(op x3.A R.A).1⟩:PolV)])) (Has.each_snoc d9 d7) ?_;refine cV kT1 (bT .head rfl) rfl rfl rfl rfl rfl rfl rfl s8 λA10 c11=>?_;refine g6 ?_;refine inc (i+1) ?_;refine g3 ?_;exact bk2 (i+1,vs++[(⟨A7,c8,(op x3.A R.A).1⟩:PolV)],A10,c11) ⟨j2 (⟨by dsimp only;omega,wY hinv10.2 B A rfl ae9⟩),d7,j1⟩
  refine g13 ?_;refine fS .head λz=>bS .head ?_;exact rs2 (⟨⟨V,cv,vs⟩,true⟩:EachV) ⟨bZ d7 d9 z,j2 ((sA af9 d c).symm),j1⟩
 .have C:=hab.one d c (dW u);obtain⟨p,Q⟩:=bHl C;have hlr:=left_rep (b:=b) Q u s;refine g5 ?_;refine bF (t':=true) (decide_eq_true m0) ?_;refine g5 ?_;refine bF (t':=true) (decide_eq_true m0) ?_;refine g8 ?_;refine bC func96 (bIh a.values.I a.values.cap a.values.A p _ Q m0) rfl rfl .nil ⟨f4,j1⟩ λ⟨A12,c13⟩=>?_;refine bS .head<|bB (cL (V8 b.values.A.length p)) (bWq _ Q f4) ?_;refine g10 ?_;refine bF (t':=false) (decide_eq_false m0) ?_;refine g25 ?_;refine bQ (t:=40) bV<|bB (cL []) (Has.each_nil) ?_;have N:(V8 b.values.A.length p).length=b.values.A.length:=by first|(simp;done)|(simp;omega)|omega
  have P:(V8 b.values.A.length p).length=b.values.A.length:=by first|rfl|simp
  have O:(V8 b.values.A.length p).length<=1000000:=m0
  refine cI (ι:=Nat×List PolV×Option Addr×Nat) [(0,_),(8,_),(9,_),(59,_)] ⟨rfl,rfl,rfl,rfl,j1⟩ (λ⟨i,vs,V,cv⟩=>[(10,.slice V vs.length cv),(60,.int .i64 (i:Nat))]) (λ⟨i,vs,V,cv⟩=>[bV.row (.slice V vs.length cv) 40 vs]) (λ⟨i,vs,V,cv⟩=>[Fact.pure (i<=b.values.A.length/\wN op (bO (V8 b.values.A.length p)) (bO b.values.A) (bO vs) i),cL vs]) (λ⟨i,vs,V,cv⟩=>b.values.A.length-i) (0,[],none,0) ⟨rfl,rfl,j1⟩ (.c0 .nil) ⟨j2 (⟨m0,uU op _ _⟩),d7,j1⟩ ?_;rintro⟨i,vs,V,cv⟩;dsimp only;refine bG d7 λhinv10=>?_;have v:=hinv10.2.1;rw[bI]at v;refine g6 ?_;refine fA (λg=>?_) λg=>?_
  .refine g11 ?_;refine cK _ _ [k8,u0,u5,u9,A00,u6,A02,A01,A03,(false,9),A08,A07,A09,A24,A61] cN o8 (.c0 (.c0 (.c0 .nil))) bA.self ?_;refine g3 ?_;obtain⟨K,r⟩:=gx (V8 b.values.A.length p) i s8;refine stM rfl (cC hT (k:=i) (bE e7) rfl rfl rfl rfl rfl n9 rfl s8) ?_;refine stM rfl (gI r 0) ?_;refine g2 ?_;obtain⟨J,q⟩:=gx b.values.A i;refine stM rfl (ixs i) ?_;refine stM rfl (gI q 0) ?_;refine one ?_;refine bG (dG (Has.each e6 (j3 r))) λhpl=>bG (dG (Has.each e8 (j3 q))) λy=>?_;refine iS hcf (hf K J hpl y) rfl rfl rfl rfl rfl rfl rfl .nil ⟨(Has.each e6 (j3 r)),(Has.each e8 (j3 q)),j1⟩ λ⟨A18,c19⟩=>?_;refine g15 ?_;refine tL (λe=>?_) λe=>?_
   .refine g13 ?_;exact rs2 (⟨⟨none,0,[]⟩,false⟩:EachV) ⟨bN,j2 ((sO (by rw[hlr.1,hlr.2];exact bBu hinv10.2 r q ‹_›) d c).symm),j1⟩
   refine g5 ?_;refine k6 (m:=⟨A18,c19,(op K.A J.A).1⟩) λb20=>?_;refine bB (cL (vs++[(⟨A18,c19,(op K.A J.A).1⟩:PolV)])) (Has.each_snoc d9 d7) ?_;refine cV kT1 (bT .head rfl) rfl rfl rfl rfl rfl rfl rfl s8 λA21 c22=>?_;refine g6 ?_;refine inc (i+1) ?_;refine g3 ?_;exact bk2 (i+1,vs++[(⟨A18,c19,(op K.A J.A).1⟩:PolV)],A21,c22) ⟨j2 (⟨by dsimp only;omega,wY hinv10.2 r q rfl ae9⟩),d7,j1⟩
  refine g13 ?_;refine fS .head λz=>bS .head ?_;exact rs2 (⟨⟨V,cv,vs⟩,true⟩:EachV) ⟨bZ d7 d9 z,j2 ((sA af9 d c).symm),j1⟩
 .have C:=hab.two d c (dW s);obtain⟨p,Q⟩:=bHl C;have hlr:=bXd (a:=a) Q s u;refine g5 ?_;refine bF (t':=false) (decide_eq_false m0) ?_;refine g18 ?_;refine bF (t':=true) (decide_eq_true m0) ?_;refine g5 ?_;refine bF (t':=true) (decide_eq_true m0) ?_;refine g8 ?_;refine bC func96 (bIh b.values.I b.values.cap b.values.A p _ Q m0) rfl rfl .nil ⟨d8,j1⟩ λ⟨A23,c24⟩=>?_;refine bS .head<|bB (cL (V8 a.values.A.length p)) (bWq _ Q d8) ?_;refine g17 ?_;refine bQ (t:=40) bV<|bB (cL []) (Has.each_nil) ?_;have N:a.values.A.length=(V8 a.values.A.length p).length:=by first|(simp;done)|(simp;omega)|omega
  have P:a.values.A.length=a.values.A.length:=by first|rfl|simp
  have O:a.values.A.length<=1000000:=m0
  refine cI (ι:=Nat×List PolV×Option Addr×Nat) [(0,_),(8,_),(9,_),(59,_)] ⟨rfl,rfl,rfl,rfl,j1⟩ (λ⟨i,vs,V,cv⟩=>[(10,.slice V vs.length cv),(60,.int .i64 (i:Nat))]) (λ⟨i,vs,V,cv⟩=>[bV.row (.slice V vs.length cv) 40 vs]) (λ⟨i,vs,V,cv⟩=>[Fact.pure (i<=a.values.A.length/\wN op (bO a.values.A) (bO (V8 a.values.A.length p)) (bO vs) i),cL vs]) (λ⟨i,vs,V,cv⟩=>a.values.A.length-i) (0,[],none,0) ⟨rfl,rfl,j1⟩ (.c0 .nil) ⟨j2 (⟨m0,uU op _ _⟩),d7,j1⟩ ?_;rintro⟨i,vs,V,cv⟩;dsimp only;refine bG d7 λhinv10=>?_;have v:=hinv10.2.1;rw[bI]at v;refine g6 ?_;refine fA (λg=>?_) λg=>?_
  .refine g11 ?_;refine cK _ _ [k8,u0,u5,u9,A00,u6,A02,A01,A03,(false,9),A08,A07,A09,A24,A61] cN o8 (.c0 (.c0 (.c0 .nil))) bA.self ?_;refine g3 ?_;obtain⟨I,o⟩:=gx a.values.A i;refine stM rfl (ixs i) ?_;refine stM rfl (gI o 0) ?_;refine g2 ?_;obtain⟨G,n⟩:=gx (V8 a.values.A.length p) i s8;refine stM rfl (cC hT (k:=i) (bE e7) rfl rfl rfl rfl rfl n9 rfl s8) ?_;refine stM rfl (gI n 0) ?_;refine one ?_;refine bG (dG (Has.each i6 (j3 o))) λhpl=>bG (dG (Has.each e6 (j3 n))) λy=>?_;refine iS hcf (hf I G hpl y) rfl rfl rfl rfl rfl rfl rfl .nil ⟨(Has.each i6 (j3 o)),(Has.each e6 (j3 n)),j1⟩ λ⟨A29,c30⟩=>?_;refine g15 ?_;refine tL (λe=>?_) λe=>?_
   .refine g13 ?_;exact rs2 (⟨⟨none,0,[]⟩,false⟩:EachV) ⟨bN,j2 ((sO (by rw[hlr.1,hlr.2];exact bBu hinv10.2 o n ‹_›) d c).symm),j1⟩
   refine g5 ?_;refine k6 (m:=⟨A29,c30,(op I.A G.A).1⟩) λb31=>?_;refine bB (cL (vs++[(⟨A29,c30,(op I.A G.A).1⟩:PolV)])) (Has.each_snoc d9 d7) ?_;refine cV kT1 (bT .head rfl) rfl rfl rfl rfl rfl rfl rfl s8 λA32 c33=>?_;refine g6 ?_;refine inc (i+1) ?_;refine g3 ?_;exact bk2 (i+1,vs++[(⟨A29,c30,(op I.A G.A).1⟩:PolV)],A32,c33) ⟨j2 (⟨by dsimp only;omega,wY hinv10.2 o n rfl ae9⟩),d7,j1⟩
  refine g13 ?_;refine fS .head λz=>bS .head ?_;exact rs2 (⟨⟨V,cv,vs⟩,true⟩:EachV) ⟨bZ d7 d9 z,j2 ((sA af9 d c).symm),j1⟩
 have hlr:=bOl (a:=a) (b:=b) (.inr ⟨u,s⟩);have U:=bLm hab d c (.inr ⟨u,s⟩);refine g5 ?_;refine bF (t':=false) (decide_eq_false m0) ?_;refine g18 ?_;refine bF (t':=false) (decide_eq_false m0) ?_;refine g25 ?_;refine bQ (t:=40) bV<|bB (cL []) (Has.each_nil) ?_;have N:a.values.A.length=b.values.A.length:=by first|(simp;done)|(simp;omega)|omega
 have P:a.values.A.length=a.values.A.length:=by first|rfl|simp
 have O:a.values.A.length<=1000000:=m0
 refine cI (ι:=Nat×List PolV×Option Addr×Nat) [(0,_),(8,_),(9,_),(59,_)] ⟨rfl,rfl,rfl,rfl,j1⟩ (λ⟨i,vs,V,cv⟩=>[(10,.slice V vs.length cv),(60,.int .i64 (i:Nat))]) (λ⟨i,vs,V,cv⟩=>[bV.row (.slice V vs.length cv) 40 vs]) (λ⟨i,vs,V,cv⟩=>[Fact.pure (i<=a.values.A.length/\wN op (bO a.values.A) (bO b.values.A) (bO vs) i),cL vs]) (λ⟨i,vs,V,cv⟩=>a.values.A.length-i) (0,[],none,0) ⟨rfl,rfl,j1⟩ (.c0 .nil) ⟨j2 (⟨m0,uU op _ _⟩),d7,j1⟩ ?_;rintro⟨i,vs,V,cv⟩;dsimp only;refine bG d7 λhinv10=>?_;have v:=hinv10.2.1;rw[bI]at v;refine g6 ?_;refine fA (λg=>?_) λg=>?_
 .refine g11 ?_;refine cK _ _ [k8,u0,u5,u9,A00,u6,A02,A01,A03,(false,9),A08,A07,A09,A24,A61] cN o8 (.c0 (.c0 (.c0 .nil))) bA.self ?_;refine g3 ?_;obtain⟨E,j⟩:=gx a.values.A i;refine stM rfl (ixs i) ?_;refine stM rfl (gI j 0) ?_;refine g2 ?_;obtain⟨D,h⟩:=gx b.values.A i;refine stM rfl (ixs i) ?_;refine stM rfl (gI h 0) ?_;refine one ?_;refine bG (dG (Has.each f7 (j3 j))) λhpl=>bG (dG (Has.each e6 (j3 h))) λy=>?_;refine iS hcf (hf E D hpl y) rfl rfl rfl rfl rfl rfl rfl .nil ⟨(Has.each f7 (j3 j)),(Has.each e6 (j3 h)),j1⟩ λ⟨A38,c39⟩=>?_;refine g15 ?_;refine tL (λe=>?_) λe=>?_
  .refine g13 ?_;exact rs2 (⟨⟨none,0,[]⟩,false⟩:EachV) ⟨bN,j2 ((sO (by rw[hlr.1,hlr.2];exact bBu hinv10.2 j h ‹_›) d c).symm),j1⟩
  refine g5 ?_;refine k6 (m:=⟨A38,c39,(op E.A D.A).1⟩) λb40=>?_;refine bB (cL (vs++[(⟨A38,c39,(op E.A D.A).1⟩:PolV)])) (Has.each_snoc d9 d7) ?_;refine cV kT1 (bT .head rfl) rfl rfl rfl rfl rfl rfl rfl s8 λA41 Z=>?_;refine g6 ?_;refine inc (i+1) ?_;refine g3 ?_;exact bk2 (i+1,vs++[(⟨A38,c39,(op E.A D.A).1⟩:PolV)],A41,Z) ⟨j2 (⟨by dsimp only;omega,wY hinv10.2 j h rfl ae9⟩),d7,j1⟩
 refine g13 ?_;refine fS .head λz=>bS .head ?_;exact rs2 (⟨⟨V,cv,vs⟩,true⟩:EachV) ⟨bZ d7 d9 z,j2 ((sA af9 d c).symm),j1⟩
section
variable {P : Program} {β : fR} {n : Nat} {Γ : Env} {H H' : List bL} {F : List Fact} {K : Act -> World -> Prop}
theorem tG.self: ∀(R H2:List bL),tG (R++H2) R H2
 |[],_=> .nil
 |_::R,H2=> .c0 (tG.self R H2)
end
theorem kR{α:Type}{l:List α}{i:Nat}{x:α}(h:l[i]?=some x):l.drop i=x::l.drop (i+1):=by obtain⟨a,e⟩:=F3.1 h;rw[K2 a,e]
theorem pK{α:Type}{l:List α}{i:Nat}(h:l.length<=i):l.drop i=[]:=List.drop_eq_nil_iff.2 h
theorem sU{α β:Type}{f:α->β}{l:List α}{i:Nat}{x:α}(h:l[i]?=some x):(l.map f)[i]?=some (f x):=by rw[K1,h];rfl
section
variable {P : Program} {β : fR} {n : Nat} {Γ : Env} {H : List bL} {F : List Fact} {o : Oper} {x : Operand} {t e : TypeId}
theorem sti_cap{A:Option Addr}{l c:Nat}(ht:P.underlying t=some (.slice e))(ho:o.op= .call ⟨.builtin .cap,#[x],#[t]⟩)(hx:Γ.ev x=some (.slice A l c)):Sti P β n Γ H F o (k9 (c:Nat)):=λa w S f s k=>by unfold execOp;simp[ho,resolve,invoke,builtin,Builtin.cap_,f.ev hx,run_underlying ht,goInt]
end
theorem bAr(w:World)(o:Obj){k:Nat}(h:k<w.heap.size):(w.alloc o).heap[k]?=w.heap[k]?:=(bFy w o).block k h λe=>e
def bBo:Flat (Sl PolV):=slE PolV
theorem polssInfo: ∃i:TypeInfo,prog.info? 36=some i/\i.zero=some (.slice none 0 0)/\i.size=1/\i.bytes=24:=by
 have h:(prog.info? 36).map (λi=>(i.zero,i.size,i.bytes))=some (some (.slice none 0 0),1,24):=m7
 cases hi:prog.info? 36 with
 |none=>simp[hi]at h
 |some i=>simp[hi]at h;exact⟨i,rfl,h.1,h.2.1,h.2.2⟩
theorem zeros_pol(m:Nat):(X6 (V7 none 0 0).cells m).toList=bV.all (V8 m mP):=madePols m
theorem bSz{α:Type}{L:List (List α)}{i:Nat}{l:List α}(h:L[i]?=some l):(L.take i).flatten++l=(L.take (i+1)).flatten:=by obtain⟨hi,e⟩:=F3.1 h;rw[T8 hi,e,W8];simp
theorem bSh{α:Type}{L:List (List α)}(i:Nat):(L.take i).flatten.length<=L.flatten.length:=by
 conv=>rhs;rw[<-W3 i L]
 rw[W8,F4];omega
theorem bUi{β:fR}{n:Nat}{Γ:Env}{H:List bL}{F:List Fact}{Q:Exit->Act->World->Prop}{ops:Array Oper}{rest:List Oper}{o:Oper}{d m:Nat}{x y:Operand}(hw:want ops Γ o=some true)(ho:o.op= .call {callee:= .builtin .append,args:= #[x,y],argTypes:= #[36,3]})(hd:o.dst=some d)(hn:B2 d n=true)
  (hx:Γ.ev x=some (.slice none 0 0)) (hy:Γ.ev y=some (k9 (m:Nat))) (h0:0<m) (hm:m<=1000000)
  (k: ∀A' cap',At β n ((d,.slice A' (V8 m mP).length cap')::Γ) (bV.row (.slice A' (V8 m mP).length cap') 40 (V8 m mP)::H) F (wpList prog ops Q rest)):At β n Γ H F (wpList prog ops Q (o::rest)):=by
 obtain⟨i,hi,A,hs,q⟩:=bBj;refine bQ (t:=40) bV ?_;refine lG hw λa w S f s C=>?_;have c:=Lib.run_append_nil_zeros (P:=prog) w 36 3 o.type 40 i (.slice none 0 0) .i64 .i64 underlying36 underlying3 hi A m h0 m0 m0 (by rw[q];omega)
 have g:(execOp a.eval o).run prog w= .ok (.value (.slice (some ⟨w.heap.size,0,none⟩) m (grownCap w m 0 40))) (w.drew.alloc (.cells (X6 (V7 none 0 0).cells m++X6 (V7 none 0 0).cells (grownCap w m 0 40-m)) 40)):=by unfold execOp;simp only[ho,resolve,invoke,builtin,G9,Sem.run_pure,H6,O5,List.map_cons,List.map_nil,f.ev hx,f.ev hy,c]
 have r:m<=maxLen:=by simp only[maxLen];omega
 have l:=grownCap_ge w m 0 40;have p:=grownCap_le_maxLen w m 0 40 r;have j:(V8 m mP).length=m:=W7;unfold Oper.wp;rw[g,Oper.upon_value,hd];have v:=k (some ⟨w.heap.size,0,none⟩) (grownCap w m 0 40);rw[j]at v;refine v _ _ S (f.put w9 _) ?_ ?_
 .refine s.swap_row (v':= .slice (some ⟨w.heap.size,0,none⟩) m (grownCap w m 0 40)) (qL ⟨rfl,rfl,rfl,n9,λk B _=>bAr w.drew _ B⟩) (.inr rfl) ?_;show World.ownsRow _ 0 40 bV.size _ (V8 m mP).length (bV.all (V8 m mP));rw[j];have z:(bV.all (V8 m mP)).length=m:=by rw[bV.all_length,j];exact X2 m
  have u:bV.size=1:=rfl;refine⟨by rw[z,u];omega,.inr ⟨w.heap.size,_,_,rfl,Nat.zero_le _,heap_alloc_new w.drew _,l,p,?_,?_⟩⟩
  .have e:(V7 none 0 0).cells.size=1:=rfl;simp only[Array.size_append,size_zeroCells,e,u];omega
  .have D:(X6 (V7 none 0 0).cells m).toList=bV.all (V8 m mP):=zeros_pol m;rw[Array.toList_append,D];have:m*bV.size=(bV.all (V8 m mP)).length:=by rw[z,u];omega
   rw[this];exact List.take_left
 .exact All.mono (w:=w) (λ_ h=>h) (λb q=>bAr w.drew _ (s.W b q).1) C
theorem rA{β:fR}{n:Nat}{Γ:Env}{H:List bL}{F:List Fact}{Q:Exit->Act->World->Prop}{ops:Array Oper}{rest:List Oper}{o:Oper}{d:Nat}{x y:Operand}{u v:Sl PolV}(hw:want ops Γ o=some true)(ho:o.op= .buildSlice 128 2 #[(0,x),(1,y)])(hd:o.dst=some d)(hn:B2 d n=true)
  (hx:Γ.ev x=some (k7 u)) (hy:Γ.ev y=some (k7 v)) (k: ∀b,At β n ((d,.slice (some ⟨b,0,none⟩) 2 2)::Γ) (.obj b (.cells (bBo.all [u,v]).toArray 36)::H) F (wpList prog ops Q rest)):At β n Γ H F (wpList prog ops Q (o::rest)):=by
 obtain⟨i,hi,c,hs,_⟩:=polssInfo;refine bBg (m:=2) hw ho hd hn (λa w f=>?_) k
 have:=run_buildSlice (P:=prog) w 128 36 2 #[(0,a.eval x),(1,a.eval y)] (bBo.all [u,v]).toArray i (.slice none 0 0) underlying128 hi c m0 m0 (by
  rw[f.ev hx,f.ev hy,hs]
  kernel_rfl)
 simpa using this
theorem hU{F:List Fact}{xs ys:List PolV}(h:Has F (cL xs))(k:Has F (cL ys)):Has F (cL (xs++ys)):=λS w q x hx=>by
 rcases List.mem_append.1 hx with hx|hx
 .exact h S w q x hx
 .exact k S w q x hx
theorem growP_spec(n:Nat)(hn:n<=1000000):cY prog 64 [.slice none 0 0,k9 (n:Nat)] [] [] (λ(x:Option Addr×Nat)=> .slice x.1 0 x.2) (λ(x:Option Addr×Nat)=>[bV.row (.slice x.1 0 x.2) 40 []]) (λ_=>[]):=by
 have hT:=dL;refine j8 func64 ntmps64 ?_;intro β hM;refine g10 ?_;refine bF (t':=false) (decide_eq_false m0) ?_;refine g10 ?_;refine ss (sti_cap underlying36 rfl rfl) ?_;refine g3 ?_;refine bJ (z':=((0:Nat):Int)) m9 ?_;refine one ?_;refine inc n ?_;refine g9 ?_;refine fA (λa=>?_) λa=>?_
 .refine g3 ?_;refine ss (sti_cap underlying36 rfl rfl) ?_;refine ss (iQ hT (k:=0) rfl rfl rfl rfl rfl rfl m0) ?_;refine one ?_;refine bUi rfl rfl rfl rfl rfl rfl m0 m0 λb c2=>?_;refine g2 ?_;refine jA hT (k:=0) .head rfl rfl rfl rfl rfl rfl rfl rfl rfl m0 ?_;refine g10 ?_;exact rs1 (b,c2) trivial
 refine g9 ?_;refine bQ (t:=40) bV ?_;exact rs1 (none,0) trivial
theorem rL(A:Option Addr)(c:Nat)(xs:List (Sl PolV))(hx:xs.length<=1000000)(ht:(xs.map (·.A)).flatten.length<=1000000):cY prog 37 [.slice A xs.length c] [] [bBo.sl (.slice A xs.length c) xs,Fact.each xs cO] (λ(x:Option Addr×Nat)=> .slice x.1 (xs.map (·.A)).flatten.length x.2) (λ(x:Option Addr×Nat)=>[bV.row (.slice x.1 (xs.map (·.A)).flatten.length x.2) 40 (xs.map (·.A)).flatten]) (λ_=>[]):=by
 have hT:=dL;refine j8 func37 ntmps37 ?_;intro β hM;refine g19 ?_;refine cI (ι:=Nat×Nat) [(0,_),(9,_),(10,_)] ⟨rfl,rfl,rfl,j1⟩ (λ⟨i,n⟩=>[(3,.int .i64 (n:Nat)),(11,.int .i64 (i:Nat))]) (λ_=>[]) (λ⟨i,n⟩=>[Fact.pure (i<=xs.length/\n=((xs.map (·.A)).take i).flatten.length)]) (λ⟨i,n⟩=>xs.length-i) (0,0) ⟨rfl,rfl,j1⟩ .nil ⟨j2 (⟨m0,rfl⟩),j1⟩ ?_;rintro⟨i,n⟩;dsimp only;refine bG d7 λk=>?_;refine g6 ?_;refine fA (λh=>?_) λh=>?_
 .refine g6 ?_;obtain⟨x1,d⟩:=gx xs i;refine ss (ixs i) ?_;refine ss (gI d 0) ?_;have m:=sU (f:=λs:Sl PolV=>s.A) d;have a:=bSz m;have e:=congrArg Q8 a;rw[F4]at e;have l:=bSh (L:=(xs.map (·.A))) (i+1);refine bB (bV.sl (.slice x1.I x1.A.length x1.cap) x1.A) (nY (Has.each d9 (j3 d))) ?_;refine g9 ?_;refine inc (n+x1.A.length) ?_;refine g7 ?_;refine bF (t':=false) (decide_eq_false m0) ?_;refine g8 ?_;refine inc (i+1) ?_;refine g3 ?_;exact bk2 (i+1,n+x1.A.length) ⟨j2 (⟨by dsimp only;omega,by dsimp only;omega⟩),j1⟩
 refine g8 ?_;refine j5 func64 (growP_spec n (by have:=bSh (L:=(xs.map (·.A))) i;omega)) j1 λ⟨A3,c4⟩=>?_;refine g12 ?_;refine cI (ι:=Nat×Option Addr×Nat) [(25,_),(26,_)] ⟨rfl,rfl,j1⟩ (λ⟨i,A1,c1⟩=>[(6,.slice A1 ((xs.map (·.A)).take i).flatten.length c1),(27,.int .i64 (i:Nat))]) (λ⟨i,A1,c1⟩=>[bV.row (.slice A1 ((xs.map (·.A)).take i).flatten.length c1) 40 ((xs.map (·.A)).take i).flatten]) (λ⟨i,A1,c1⟩=>[Fact.pure (i<=xs.length)]) (λ⟨i,A1,c1⟩=>xs.length-i) (0,A3,c4) ⟨rfl,rfl,j1⟩ (.c0 .nil) ⟨j2 (Nat.zero_le _),j1⟩ ?_;rintro⟨i,A1,c1⟩;dsimp only;refine bG d7 λhinv11=>?_;refine g6 ?_;refine fA (λg=>?_) λg=>?_
 .refine g6 ?_;obtain⟨j,b⟩:=gx xs i;refine ss (ixs i) ?_;refine ss (gI b 0) ?_;have m:=sU (f:=λs:Sl PolV=>s.A) b;have a:=bSz m;have e:=congrArg Q8 a;rw[F4]at e;have l:=bSh (L:=(xs.map (·.A))) (i+1);refine bB (bV.sl (.slice j.I j.A.length j.cap) j.A) (nY (Has.each e6 (j3 b))) ?_;refine g6 ?_;refine cV .head (bE d7) rfl rfl rfl rfl rfl rfl rfl m0 λp o=>?_;rw[a];refine g6 ?_;refine inc (i+1) ?_;refine g3 ?_;exact bk2 (i+1,p,o) ⟨j2 m0,j1⟩
 refine g12 ?_;rw[F6 s8];exact rs1 (A1,c1) trivial
theorem oV{a:TyV}(h:WfT a.t):a.B.A.length<=4:=by
 have:=h.len;unfold TyV.t at this
 rwa[bI]at this
theorem wZ{a:TyV}(h:WfT a.t):a.values.A.length<=4:=by
 have e:a.t.values.length<=4:=by
  cases k:a.t.known
  .rw[h.un k];decide
  .exact(h.kn k).1
 unfold TyV.t at e
 rwa[bI]at e
def bDx (f:Pol->Bool)(l:List PolV)(i:Nat):Prop:=((bO l).take i).any f=false
theorem yZ(f:Pol->Bool)(l:List PolV):bDx f l 0:=rfl
theorem bCv{f:Pol->Bool}{l:List PolV}{i:Nat}{p:PolV}(h:bDx f l i)(hp:l[i]?=some p)(k:f p.A=false):bDx f l (i+1):=by obtain⟨hi,e⟩:=F3.1 (jR hp);unfold bDx at*;rw[T8 hi,e,List.any_append,h];simp[k]
theorem bIx{f:Pol->Bool}{l:List PolV}{i:Nat}{p:PolV}(hp:l[i]?=some p)(k:f p.A=true):(bO l).any f=true:=
 List.any_eq_true.2 ⟨p.A,List.mem_of_getElem? (jR hp),k⟩
theorem bIy{f:Pol->Bool}{l:List PolV}{i:Nat}(h:bDx f l i)(hi:l.length<=i):(bO l).any f=false:=by
 unfold bDx at h
 rwa[F6 am5]at h
theorem lenT(l:List PolV){n:Nat}(h:n<l.length):n<(bO l).length:=by rwa[bI]
theorem bLq(l:List PolV){n:Nat}(h:l.length<=n): ¬n<(bO l).length:=by rw[bI];omega
theorem rhT_a{a b:TyP}(h:1<a.B.length):zC a b=(a,90):=if_pos h
theorem rhT_b{a b:TyP}(h: ¬1<a.B.length)(k:a.known=false):zC a b=(a,92):=(if_neg h).trans (if_pos k)
theorem rhT_c{a b:TyP}(h: ¬1<a.B.length)(k:a.known=true)(g:(a.values.any λv=>!lC v)=true):zC a b=(a,93):=by unfold zC;rw[if_neg h,if_neg (by simp[k]),if_pos g]
theorem rhT_d{a b:TyP}(h: ¬1<a.B.length)(k:a.known=true)(g:(a.values.any λv=>!lC v)=false)(c:(b.B.any λs=>!fU s 1)=true):zC a b=(a,94):=by unfold zC;rw[if_neg h,if_neg (by simp[k]),if_neg (by simp[g]),if_pos c]
theorem rhT_e{a b:TyP}(h: ¬1<a.B.length)(k:a.known=true)(g:(a.values.any λv=>!lC v)=false)(c:(b.B.any λs=>!fU s 1)=false):zC a b=(⟨a.values,false,[]⟩,0):=by unfold zC;rw[if_neg h,if_neg (by simp[k]),if_neg (by simp[g]),if_neg (by simp[c])]
theorem rhoT_spec(a b:TyV)(ha:WfT a.t)(hb:WfT b.t):cY prog 59 [.agg #[k7 a.B,.bool a.known,k7 a.values],.agg #[k7 b.B,.bool b.known,k7 b.values]] [] [tyF a,tyF b] (λ(x:TyV)=> .tuple #[tyC x,k9 (zC a.t b.t).2]) (λ_=>[]) (λ(x:TyV)=>[tyF x,Fact.pure (x.t=(zC a.t b.t).1)]):=by
 have hT:=dL;have C:=oV ha;have A:=wZ ha;have B:=oV hb;have z:=wZ hb;generalize o:zC a.t b.t=r;refine j8 func59 ntmps59 ?_;intro β hM;refine bP<|bB (cO a.B) (jK d7) ?_;refine cE a.B mT0 λw=>bB (cO a.values) (jM e6)<|cE a.values mT0 λu=>bB (cO b.B) (jK f4)<|cE b.B mT0 λhc_bs=>bB (cO b.values) (jM f9)<|cE b.values mT0 λq=>?_;refine one ?_;refine j6 λG=>?_;refine j6 λE=>?_;refine j4 rW λD=>?_;refine g14 ?_;refine fA (λhc10=>?_) λhc10=>?_
 .refine g10 ?_;have hr:=o.symm.trans (rhT_a (lenT _ m0));subst hr;exact rs2 (⟨a.B,a.known,a.values⟩:TyV) ⟨(bR (x:=⟨a.B,a.known,a.values⟩) i6 f5),j2 rfl,j1⟩
 refine g8 ?_;refine iK (λn=>?_) λn=>?_
 .refine g10 ?_;have hr:=o.symm.trans (rhT_b (bLq _ m0) asd);subst hr;exact rs2 (⟨a.B,a.known,a.values⟩:TyV) ⟨(bR (x:=⟨a.B,a.known,a.values⟩) i6 f5),j2 rfl,j1⟩
 refine g13 ?_;refine cI (ι:=Nat) [(2,_),(3,_),(4,_),(22,_),(23,_)] ⟨rfl,rfl,rfl,rfl,rfl,j1⟩ (λi=>[(24,.int .i64 (i:Nat))]) (λ_=>[]) (λi=>[Fact.pure (i<=a.values.A.length/\bDx (λv=>!lC v) a.values.A i)]) (λi=>a.values.A.length-i) 0 ⟨rfl,j1⟩ .nil ⟨j2 (⟨m0,yZ _ _⟩),j1⟩ ?_;rintro i;refine bG d7 λg=>?_;refine g6 ?_;refine fA (λm=>?_) λm=>?_
 .refine g6 ?_;obtain⟨x4,e⟩:=gx a.values.A i;refine ss (ixs i) ?_;refine ss (gI e 0) ?_;refine g6 ?_;refine bG (dG (Has.each f4 (j3 e))) λj=>?_;refine j5 func9 (bQs (p:=x4) j) ⟨(Has.each f4 (j3 e)),j1⟩ λ_=>?_;refine g3 ?_;refine iK (λhc30=>?_) λhc30=>?_
  .refine g13 ?_;have hr:=o.symm.trans (rhT_c (bLq _ m0) asd (bIx (f:=(λv=>!lC v)) e asd));subst hr;exact rs2 (⟨a.B,a.known,a.values⟩:TyV) ⟨(bR (x:=⟨a.B,a.known,a.values⟩) i7 f7),j2 rfl,j1⟩
  refine g5 ?_;refine inc (i+1) ?_;refine g3 ?_;exact bk2 (i+1) ⟨j2 (⟨m0,bCv g.2 e (by simpa using (asd:(!_)=false))⟩),j1⟩
 refine g7 ?_;have k:=bIy g.2 m0;refine g8 ?_;refine cI (ι:=Nat) [(2,_),(4,_),(34,_),(35,_)] ⟨rfl,rfl,rfl,rfl,j1⟩ (λi=>[(36,.int .i64 (i:Nat))]) (λ_=>[]) (λi=>[Fact.pure (i<=b.B.A.length/\bDx (λs=>!fU s 1) b.B.A i)]) (λi=>b.B.A.length-i) 0 ⟨rfl,j1⟩ .nil ⟨j2 (⟨m0,yZ _ _⟩),j1⟩ ?_;rintro i;refine bG d7 λc=>?_;refine g6 ?_;refine fA (λl=>?_) λl=>?_
 .refine g6 ?_;obtain⟨y,d⟩:=gx b.B.A i;refine ss (ixs i) ?_;refine ss (gI d 0) ?_;refine g6 ?_;refine bG (dG (Has.each e8 (j3 d))) λh=>?_;refine j5 func98 (vU (p:=y) 1 h) ⟨(Has.each e8 (j3 d)),j1⟩ λ_=>?_;refine g3 ?_;refine iK (λhc42=>?_) λhc42=>?_
  .refine g13 ?_;have hr:=o.symm.trans (rhT_d (bLq _ m0) asd k (bIx (f:=(λs=>!fU s 1)) d asd));subst hr;exact rs2 (⟨a.B,a.known,a.values⟩:TyV) ⟨(bR (x:=⟨a.B,a.known,a.values⟩) j0 f9),j2 rfl,j1⟩
  refine g5 ?_;refine inc (i+1) ?_;refine g3 ?_;exact bk2 (i+1) ⟨j2 (⟨m0,bCv c.2 d (by simpa using (asd:(!_)=false))⟩),j1⟩
 refine g9 ?_;refine j5 func32 (fG a.values.I (a.values.A.length) a.values.cap) j1 λ_=>?_;refine g5 ?_;have hr:=o.symm.trans (rhT_e (bLq _ m0) asd k (bIy c.2 m0));subst hr;exact rs2 (⟨a.values,false,⟨none,0,[]⟩⟩:TyV) ⟨(bR (x:=⟨a.values,false,⟨none,0,[]⟩⟩) f9 bN),j2 rfl,j1⟩
theorem pI{a:TyV}(h:a.B.A.length=0):fD a.t.B=[bY 1]:=if_pos (dW h)
theorem nP{a:TyV}(h: ¬a.B.A.length=0):fD a.t.B=bO a.B.A:=if_neg (gE (Nat.pos_of_ne_zero h))
theorem oC(l:List PolV)(n:Nat):bO (l.drop n)=(bO l).drop n:=List.map_drop
theorem bOx(l:List PolV)(n:Nat):bO (l.take n)=(bO l).take n:=List.map_take
theorem qS(l k:List PolV):bO (l++k)=bO l++bO k:=L2
theorem iB{F:List Fact}{xs:List PolV}(n:Nat)(h:Has F (cL xs)):Has F (cL (xs.drop n)):=λS w k p a=>h S w k p (List.mem_of_mem_drop a)
theorem polsF_take{F:List Fact}{xs:List PolV}(n:Nat)(h:Has F (cL xs)):Has F (cL (xs.take n)):=λS w k p a=>h S w k p (List.mem_of_mem_take a)
theorem nQ(u v:Sl PolV):([u,v].map (·.A)).flatten=u.A++v.A:=by simp
theorem kH{l:List PolV}{p:PolV}(h:l[0]?=some p):(bO l).headD []=p.A:=by
 cases l with
 |nil=>simp at h
 |cons a l=>simp at h;subst h;rfl
section
variable {a b : TyP} {X Y : List PolV} {p q : PolV}
theorem yQ(hl:fD a.B=bO X)(hr:fD b.B=bO Y)(h:X.length≠Y.length\/bO (X.drop 1)≠bO (Y.drop 1)):zQ a b=(a,91):=by
 unfold zQ;rw[if_pos];rw[hl,hr,bI,bI];rw[oC,oC]at h
 simpa using h
theorem cat_in(hl:fD a.B=bO X)(hr:fD b.B=bO Y)(h:X.length=Y.length)(k:bO (X.drop 1)=bO (Y.drop 1)): ¬((fD a.B).length≠(fD b.B).length\/(fD a.B).tail≠(fD b.B).tail):=by
 rw[hl,hr,bI,bI];rw[oC,oC]at k;rintro(e|e)
 .exact e h
 .exact e (by simpa using k)
theorem bTj(hl:fD a.B=bO X)(hr:fD b.B=bO Y)(h:X.length=Y.length)(k:bO (X.drop 1)=bO (Y.drop 1))(hp:X[0]?=some p)(hq:Y[0]?=some q)(e:(cD p.A q.A 1).2≠0):zQ a b=(a,95):=by unfold zQ;rw[if_neg (cat_in hl hr h k),if_pos];rw[hl,hr,kH hp,kH hq];exact e
theorem bSr(hl:fD a.B=bO X)(hr:fD b.B=bO Y)(h:X.length=Y.length)(k:bO (X.drop 1)=bO (Y.drop 1))(hp:X[0]?=some p)(hq:Y[0]?=some q)(e:(cD p.A q.A 1).2=0)(h1:a.known=true)(h2:b.known=true)(h4:a.values.length+b.values.length<=4):zQ a b=(⟨(cD p.A q.A 1).1::bO (Y.drop 1),true,a.values++b.values⟩,0):=by unfold zQ;rw[if_neg (cat_in hl hr h k),if_neg (by rw[hl,hr,kH hp,kH hq];simp[e]),if_pos ⟨h1,h2,h4⟩,hl,hr,kH hp,kH hq,oC];simp
theorem qJ(hl:fD a.B=bO X)(hr:fD b.B=bO Y)(h:X.length=Y.length)(k:bO (X.drop 1)=bO (Y.drop 1))(hp:X[0]?=some p)(hq:Y[0]?=some q)(e:(cD p.A q.A 1).2=0)(h1: ¬(a.known=true/\b.known=true/\a.values.length+b.values.length<=4)):zQ a b=(⟨(cD p.A q.A 1).1::bO (Y.drop 1),false,[]⟩,0):=by unfold zQ;rw[if_neg (cat_in hl hr h k),if_neg (by rw[hl,hr,kH hp,kH hq];simp[e]),if_neg h1,hl,hr,kH hp,kH hq,oC];simp
end
theorem bUn{p:Prop} [Decidable p](h:(!decide p)=true): ¬p:=by simpa using h
theorem rH{p:Prop} [Decidable p](h:(!decide p)=false):p:=by simpa using h
theorem catT_spec(a b:TyV)(ha:WfT a.t)(hb:WfT b.t):cY prog 61 [.agg #[k7 a.B,.bool a.known,k7 a.values],.agg #[k7 b.B,.bool b.known,k7 b.values]] [] [tyF a,tyF b] (λ(x:TyV)=> .tuple #[tyC x,k9 (zQ a.t b.t).2]) (λ_=>[]) (λ(x:TyV)=>[tyF x,Fact.pure (x.t=(zQ a.t b.t).1)]):=by
 have hT:=dL;have hsa:=oV ha;have hva:=wZ ha;have hsb:=oV hb;have hvb:=wZ hb;generalize s:zQ a.t b.t=r;refine j8 func61 ntmps61 ?_;intro β hM;refine bP<|bB (cO a.B) (jK d7) ?_;refine cE a.B mT0 λhc_as=>bB (cO a.values) (jM e6)<|cE a.values mT0 λhc_av=>bB (cO b.B) (jK f4)<|cE b.B mT0 λhc_bs=>bB (cO b.values) (jM f9)<|cE b.values mT0 λhc_bv=>?_;refine one ?_;refine j6 λb1=>?_;refine j6 λb2=>?_;refine j4 rW λb3=>?_;refine g4 ?_;refine cK _ _ [k8,u0,u5,u9,A00,u6] cN o8 (.c0 (.c0 (.c0 .nil))) bA.self ?_;refine g16 ?_;refine gJ (λhc17=>?_) λhc17=>?_
 .refine one ?_;refine j5 func31 (lH (((1:Nat):Int))) j1 λ⟨A4,c5⟩=>?_;refine k6 (m:=⟨A4,c5,bY (((1:Nat):Int))⟩) λb6=>?_;refine dN (E:=bV) (xs:=[(⟨A4,c5,bY (((1:Nat):Int))⟩:PolV)]) .head aa5<|bS .head<|bB (cL [(⟨A4,c5,bY (((1:Nat):Int))⟩:PolV)]) (gL d8) ?_;refine g5 ?_;have e:fD a.t.B=bO [(⟨A4,c5,bY (((1:Nat):Int))⟩:PolV)]:=by first|exact pI m0|exact nP m0
  refine g6 ?_;refine gJ (λhc22=>?_) λhc22=>?_
  .refine one ?_;refine j5 func31 (lH (((1:Nat):Int))) j1 λ⟨A7,c8⟩=>?_;refine k6 (m:=⟨A7,c8,bY (((1:Nat):Int))⟩) λb9=>?_;refine dN (E:=bV) (xs:=[(⟨A7,c8,bY (((1:Nat):Int))⟩:PolV)]) .head aa5<|bS .head<|bB (cL [(⟨A7,c8,bY (((1:Nat):Int))⟩:PolV)]) (gL d8) ?_;refine g5 ?_;have d:fD b.t.B=bO [(⟨A7,c8,bY (((1:Nat):Int))⟩:PolV)]:=by first|exact pI m0|exact nP m0
   refine cK _ _ [k8,u0,u5,u9,A00,u6,A02,A01,A03,A04,A73,A07,A09] cN o8 (.c0 (.c0 (.c0 .nil))) bA.self ?_;refine g5 ?_;refine bF (t':=false) m9 ?_;refine g2 ?_;refine stM rfl (dU hT (k:=1) rfl rfl rfl rfl rfl rfl m0) ?_;refine one ?_;refine stM rfl (dU hT (k:=1) rfl rfl rfl rfl rfl rfl m0) ?_;refine one ?_;refine bB (bV.sl (.slice (iJ (some ⟨b6,0,none⟩) 1 bV.size 1) (1-1) (1-1)) ([(⟨A4,c5,bY (((1:Nat):Int))⟩:PolV)].drop 1)) (jQ e7 ad3 ab9)<|bB (cL ([(⟨A4,c5,bY (((1:Nat):Int))⟩:PolV)].drop 1)) (iB 1 e7)<|bB (bV.sl (.slice (iJ (some ⟨b9,0,none⟩) 1 bV.size 1) (1-1) (1-1)) ([(⟨A7,c8,bY (((1:Nat):Int))⟩:PolV)].drop 1)) (jQ e6 ad3 ab9)<|bB (cL ([(⟨A7,c8,bY (((1:Nat):Int))⟩:PolV)].drop 1)) (iB 1 e6) ?_;have X:=uY (iJ (some ⟨b6,0,none⟩) 1 bV.size 1) (iJ (some ⟨b9,0,none⟩) 1 bV.size 1) (1-1) (1-1) ([(⟨A4,c5,bY (((1:Nat):Int))⟩:PolV)].drop 1) ([(⟨A7,c8,bY (((1:Nat):Int))⟩:PolV)].drop 1) ae7;simp only[N9]at X;refine j5 func62 X ⟨e6,d9,d8,d7,j1⟩ λ_=>?_;refine g5 ?_;refine iK (λW=>?_) λW=>?_
   .refine g9 ?_;have hr:=s.symm.trans (yQ e d aa3);subst hr;exact rs2 (⟨a.B,a.known,a.values⟩:TyV) ⟨(bR (x:=⟨a.B,a.known,a.values⟩) (Has.of (u8 (u8 mT5))) (Has.of (u8 (u8 mT2)))),j2 rfl,j1⟩
   refine g3 ?_;refine cK _ _ [k8,u0,u5,u9,A00,u6,A17,A01,A03,A04,A08,A07] cN o8 (.c0 (.c0 (.c0 .nil))) bA.self ?_;refine one ?_;obtain⟨x10,G⟩:=gx [(⟨A4,c5,bY (((1:Nat):Int))⟩:PolV)] 0 ad0;refine stM rfl (cC hT (k:=0) (bE f5) rfl rfl rfl rfl rfl rfl rfl ad0) ?_;refine stM rfl (gI G 0) ?_;refine one ?_;obtain⟨n,D⟩:=gx [(⟨A7,c8,bY (((1:Nat):Int))⟩:PolV)] 0 ad0;refine stM rfl (cC hT (k:=0) (bE e8) rfl rfl rfl rfl rfl rfl rfl ad0) ?_;refine stM rfl (gI D 0) ?_;refine one ?_;refine bG (dG (Has.each f4 (j3 G))) λhpl16=>bG (dG (Has.each e7 (j3 D))) λhql17=>?_;refine j5 func63 (bBx (p:=x10) (q:=n) hpl16 hql17) ⟨(Has.each f4 (j3 G)),(Has.each e7 (j3 D)),j1⟩ λ⟨A14,c15⟩=>?_;refine g15 ?_;refine tL (λV=>?_) λV=>?_
   .refine g9 ?_;have hr:=s.symm.trans (bTj e d q8 (rH asd) G D asd);subst hr;exact rs2 (⟨a.B,a.known,a.values⟩:TyV) ⟨(bR (x:=⟨a.B,a.known,a.values⟩) (Has.of (u8 (u8 mT6))) (Has.of (u8 (u8 mT3)))),j2 rfl,j1⟩
   refine g5 ?_;refine k6 (m:=⟨A14,c15,(cD x10.A n.A 1).1⟩) λb18=>?_;refine dN (E:=bV) (xs:=[(⟨A14,c15,(cD x10.A n.A 1).1⟩:PolV)]) .head aa5 ?_;refine one ?_;refine ss (dU hT (k:=1) rfl rfl rfl rfl rfl rfl m0) ?_;refine bB (bV.sl (.slice (iJ (some ⟨b9,0,none⟩) 1 bV.size 1) (1-1) (1-1)) ([(⟨A7,c8,bY (((1:Nat):Int))⟩:PolV)].drop 1)) (jQ e9 ad3 ab9)<|bB (cL ([(⟨A7,c8,bY (((1:Nat):Int))⟩:PolV)].drop 1)) (iB 1 e9) ?_;refine cV .head (bE d8) rfl rfl rfl rfl rfl rfl s9 p6 λP L=>?_;refine fS .head λc=>bS .head<|bB (cL ([(⟨A14,c15,(cD x10.A n.A 1).1⟩:PolV)]++([(⟨A7,c8,bY (((1:Nat):Int))⟩:PolV)].drop 1))) (hU (gL e6) d8) ?_;refine g9 ?_;refine cF (λR=>?_) (λR=>?_)
   .refine g4 ?_;refine cF (λQ=>?_) (λQ=>?_)
    .refine g7 ?_;refine inc (a.values.A.length+b.values.A.length) ?_;refine g4 ?_;refine bKs (λU=>?_) λU=>?_
     .refine g7 ?_;refine rA (u:=a.values) (v:=b.values) rfl rfl rfl rfl rfl rfl λb21=>?_;refine dN (E:=bBo) (xs:=[a.values,b.values]) .head aa5<|bS .head<|bB (Fact.each [a.values,b.values] cO) (Has.each_cons (Has.of (u8 (u8 (u8 mT0)))) (Has.each_cons (Has.of (u8 (u8 mT2))) Has.each_nil)) ?_;have Y:=rL (some ⟨b21,0,none⟩) 2 [a.values,b.values] n9 ag8;rw[nQ]at Y;refine j5 func37 Y ⟨d8,d7,j1⟩ λ⟨A22,c23⟩=>?_;refine fS .head λo=>bS .head<|bB (cL (a.values.A++b.values.A)) (hU (Has.of (u8 (u8 (u8 mT0)))) (Has.of (u8 (u8 mT2)))) ?_;refine j5 func30 (kN P A22 (([(⟨A14,c15,(cD x10.A n.A 1).1⟩:PolV)]++([(⟨A7,c8,bY (((1:Nat):Int))⟩:PolV)].drop 1)).length) ((a.values.A++b.values.A).length) L c23) j1 λ_=>?_;refine g6 ?_;have hr:=s.symm.trans ((bSr e d q8 (rH asd) G D m0 asd asd ae6).trans ad4);subst hr;exact rs2 (⟨⟨P,L,([(⟨A14,c15,(cD x10.A n.A 1).1⟩:PolV)]++([(⟨A7,c8,bY (((1:Nat):Int))⟩:PolV)].drop 1))⟩,true,⟨A22,c23,(a.values.A++b.values.A)⟩⟩:TyV) ⟨(bR (x:=⟨⟨P,L,([(⟨A14,c15,(cD x10.A n.A 1).1⟩:PolV)]++([(⟨A7,c8,bY (((1:Nat):Int))⟩:PolV)].drop 1))⟩,true,⟨A22,c23,(a.values.A++b.values.A)⟩⟩) (bZ e8 e7 (c)) (bZ d8 d7 (o))),j2 rfl,j1⟩
     refine g5 ?_;refine j5 func32 (fG P (([(⟨A14,c15,(cD x10.A n.A 1).1⟩:PolV)]++([(⟨A7,c8,bY (((1:Nat):Int))⟩:PolV)].drop 1)).length) L) j1 λ_=>?_;refine g5 ?_;have hr:=s.symm.trans (qJ e d q8 (rH asd) G D m0 o6);subst hr;exact rs2 (⟨⟨P,L,([(⟨A14,c15,(cD x10.A n.A 1).1⟩:PolV)]++([(⟨A7,c8,bY (((1:Nat):Int))⟩:PolV)].drop 1))⟩,false,⟨none,0,[]⟩⟩:TyV) ⟨(bR (x:=⟨⟨P,L,([(⟨A14,c15,(cD x10.A n.A 1).1⟩:PolV)]++([(⟨A7,c8,bY (((1:Nat):Int))⟩:PolV)].drop 1))⟩,false,⟨none,0,[]⟩⟩) (bZ d8 d7 (c)) bN),j2 rfl,j1⟩
    refine g17 ?_;refine j5 func32 (fG P (([(⟨A14,c15,(cD x10.A n.A 1).1⟩:PolV)]++([(⟨A7,c8,bY (((1:Nat):Int))⟩:PolV)].drop 1)).length) L) j1 λ_=>?_;refine g5 ?_;have hr:=s.symm.trans (qJ e d q8 (rH asd) G D m0 o6);subst hr;exact rs2 (⟨⟨P,L,([(⟨A14,c15,(cD x10.A n.A 1).1⟩:PolV)]++([(⟨A7,c8,bY (((1:Nat):Int))⟩:PolV)].drop 1))⟩,false,⟨none,0,[]⟩⟩:TyV) ⟨(bR (x:=⟨⟨P,L,([(⟨A14,c15,(cD x10.A n.A 1).1⟩:PolV)]++([(⟨A7,c8,bY (((1:Nat):Int))⟩:PolV)].drop 1))⟩,false,⟨none,0,[]⟩⟩) (bZ d8 d7 (c)) bN),j2 rfl,j1⟩
   refine g21 ?_;refine j5 func32 (fG P (([(⟨A14,c15,(cD x10.A n.A 1).1⟩:PolV)]++([(⟨A7,c8,bY (((1:Nat):Int))⟩:PolV)].drop 1)).length) L) j1 λ_=>?_;refine g5 ?_;have hr:=s.symm.trans (qJ e d q8 (rH asd) G D m0 o6);subst hr;exact rs2 (⟨⟨P,L,([(⟨A14,c15,(cD x10.A n.A 1).1⟩:PolV)]++([(⟨A7,c8,bY (((1:Nat):Int))⟩:PolV)].drop 1))⟩,false,⟨none,0,[]⟩⟩:TyV) ⟨(bR (x:=⟨⟨P,L,([(⟨A14,c15,(cD x10.A n.A 1).1⟩:PolV)]++([(⟨A7,c8,bY (((1:Nat):Int))⟩:PolV)].drop 1))⟩,false,⟨none,0,[]⟩⟩) (bZ d8 d7 (c)) bN),j2 rfl,j1⟩
  refine g4 ?_;have d:fD b.t.B=bO b.B.A:=by first|exact pI m0|exact nP m0
  refine cK _ _ [k8,u0,u5,u9,A00,u6,A02,A01,A03,A04,A73,A07,A09] cN o8 (.c0 (.c0 (.c0 .nil))) bA.self ?_;refine g6 ?_;refine xJ (λZ=>?_) λZ=>?_
  .refine g21 ?_;have hr:=s.symm.trans (yQ e d aa3);subst hr;exact rs2 (⟨a.B,a.known,a.values⟩:TyV) ⟨(bR (x:=⟨a.B,a.known,a.values⟩) (Has.of zA) i6),j2 rfl,j1⟩
  refine one ?_;refine stM rfl (dU hT (k:=1) rfl rfl rfl rfl rfl rfl m0) ?_;refine one ?_;refine stM rfl (dU hT (k:=1) rfl rfl rfl rfl rfl rfl m0) ?_;refine one ?_;refine bB (bV.sl (.slice (iJ (some ⟨b6,0,none⟩) 1 bV.size 1) (1-1) (1-1)) ([(⟨A4,c5,bY (((1:Nat):Int))⟩:PolV)].drop 1)) (jQ d8 ad3 ab9)<|bB (cL ([(⟨A4,c5,bY (((1:Nat):Int))⟩:PolV)].drop 1)) (iB 1 d8)<|bB (bV.sl (.slice (iJ b.B.I 1 bV.size b.B.cap) (b.B.A.length-1) (b.B.cap-1)) (b.B.A.drop 1)) (jQ f7 ag6 ab9)<|bB (cL (b.B.A.drop 1)) (iB 1 f7) ?_;have X:=uY (iJ (some ⟨b6,0,none⟩) 1 bV.size 1) (iJ b.B.I 1 bV.size b.B.cap) (1-1) (b.B.cap-1) ([(⟨A4,c5,bY (((1:Nat):Int))⟩:PolV)].drop 1) (b.B.A.drop 1) ae7;simp only[N9]at X;refine j5 func62 X ⟨e6,d9,d8,d7,j1⟩ λ_=>?_;refine g5 ?_;refine iK (λW=>?_) λW=>?_
  .refine g9 ?_;have hr:=s.symm.trans (yQ e d aa3);subst hr;exact rs2 (⟨a.B,a.known,a.values⟩:TyV) ⟨(bR (x:=⟨a.B,a.known,a.values⟩) (Has.of (u8 (u8 mT2))) (Has.of (u8 mT7))),j2 rfl,j1⟩
  refine g3 ?_;refine cK _ _ [k8,u0,u5,u9,A00,u6,A17,A01,A03,A04,A08,A07] cN o8 (.c0 (.c0 (.c0 .nil))) bA.self ?_;refine one ?_;obtain⟨l,C⟩:=gx [(⟨A4,c5,bY (((1:Nat):Int))⟩:PolV)] 0 ad0;refine stM rfl (cC hT (k:=0) (bE e8) rfl rfl rfl rfl rfl rfl rfl ad0) ?_;refine stM rfl (gI C 0) ?_;refine one ?_;obtain⟨j,B⟩:=gx b.B.A 0 ad0;refine stM rfl (cC hT (k:=0) (bE i6) rfl rfl rfl rfl rfl rfl rfl ad0) ?_;refine stM rfl (gI B 0) ?_;refine one ?_;refine bG (dG (Has.each e7 (j3 C))) λhpl30=>bG (dG (Has.each f9 (j3 B))) λhql31=>?_;refine j5 func63 (bBx (p:=l) (q:=j) hpl30 hql31) ⟨(Has.each e7 (j3 C)),(Has.each f9 (j3 B)),j1⟩ λ⟨A28,c29⟩=>?_;refine g15 ?_;refine tL (λV=>?_) λV=>?_
  .refine g9 ?_;have hr:=s.symm.trans (bTj e d q8 (rH asd) C B asd);subst hr;exact rs2 (⟨a.B,a.known,a.values⟩:TyV) ⟨(bR (x:=⟨a.B,a.known,a.values⟩) (Has.of (u8 (u8 mT3))) (Has.of (u8 (u8 mT0)))),j2 rfl,j1⟩
  refine g5 ?_;refine k6 (m:=⟨A28,c29,(cD l.A j.A 1).1⟩) λb32=>?_;refine dN (E:=bV) (xs:=[(⟨A28,c29,(cD l.A j.A 1).1⟩:PolV)]) .head aa5 ?_;refine one ?_;refine ss (dU hT (k:=1) rfl rfl rfl rfl rfl rfl m0) ?_;refine bB (bV.sl (.slice (iJ b.B.I 1 bV.size b.B.cap) (b.B.A.length-1) (b.B.cap-1)) (b.B.A.drop 1)) (jQ i7 ag6 ab9)<|bB (cL (b.B.A.drop 1)) (iB 1 i7) ?_;refine cV .head (bE d8) rfl rfl rfl rfl rfl rfl s9 p6 λO K=>?_;refine fS .head λc=>bS .head<|bB (cL ([(⟨A28,c29,(cD l.A j.A 1).1⟩:PolV)]++(b.B.A.drop 1))) (hU (gL e6) d8) ?_;refine g9 ?_;refine cF (λR=>?_) (λR=>?_)
  .refine g4 ?_;refine cF (λQ=>?_) (λQ=>?_)
   .refine g7 ?_;refine inc (a.values.A.length+b.values.A.length) ?_;refine g4 ?_;refine bKs (λU=>?_) λU=>?_
    .refine g7 ?_;refine rA (u:=a.values) (v:=b.values) rfl rfl rfl rfl rfl rfl λb35=>?_;refine dN (E:=bBo) (xs:=[a.values,b.values]) .head aa5<|bS .head<|bB (Fact.each [a.values,b.values] cO) (Has.each_cons (Has.of (u8 (u8 mT5))) (Has.each_cons (Has.of (u8 mT7)) Has.each_nil)) ?_;have Y:=rL (some ⟨b35,0,none⟩) 2 [a.values,b.values] n9 ag8;rw[nQ]at Y;refine j5 func37 Y ⟨d8,d7,j1⟩ λ⟨A36,c37⟩=>?_;refine fS .head λo=>bS .head<|bB (cL (a.values.A++b.values.A)) (hU (Has.of (u8 (u8 mT5))) (Has.of (u8 mT7))) ?_;refine j5 func30 (kN O A36 (([(⟨A28,c29,(cD l.A j.A 1).1⟩:PolV)]++(b.B.A.drop 1)).length) ((a.values.A++b.values.A).length) K c37) j1 λ_=>?_;refine g6 ?_;have hr:=s.symm.trans ((bSr e d q8 (rH asd) C B m0 asd asd ae6).trans ad4);subst hr;exact rs2 (⟨⟨O,K,([(⟨A28,c29,(cD l.A j.A 1).1⟩:PolV)]++(b.B.A.drop 1))⟩,true,⟨A36,c37,(a.values.A++b.values.A)⟩⟩:TyV) ⟨(bR (x:=⟨⟨O,K,([(⟨A28,c29,(cD l.A j.A 1).1⟩:PolV)]++(b.B.A.drop 1))⟩,true,⟨A36,c37,(a.values.A++b.values.A)⟩⟩) (bZ e8 e7 (c)) (bZ d8 d7 (o))),j2 rfl,j1⟩
    refine g5 ?_;refine j5 func32 (fG O (([(⟨A28,c29,(cD l.A j.A 1).1⟩:PolV)]++(b.B.A.drop 1)).length) K) j1 λ_=>?_;refine g5 ?_;have hr:=s.symm.trans (qJ e d q8 (rH asd) C B m0 o6);subst hr;exact rs2 (⟨⟨O,K,([(⟨A28,c29,(cD l.A j.A 1).1⟩:PolV)]++(b.B.A.drop 1))⟩,false,⟨none,0,[]⟩⟩:TyV) ⟨(bR (x:=⟨⟨O,K,([(⟨A28,c29,(cD l.A j.A 1).1⟩:PolV)]++(b.B.A.drop 1))⟩,false,⟨none,0,[]⟩⟩) (bZ d8 d7 (c)) bN),j2 rfl,j1⟩
   refine g17 ?_;refine j5 func32 (fG O (([(⟨A28,c29,(cD l.A j.A 1).1⟩:PolV)]++(b.B.A.drop 1)).length) K) j1 λ_=>?_;refine g5 ?_;have hr:=s.symm.trans (qJ e d q8 (rH asd) C B m0 o6);subst hr;exact rs2 (⟨⟨O,K,([(⟨A28,c29,(cD l.A j.A 1).1⟩:PolV)]++(b.B.A.drop 1))⟩,false,⟨none,0,[]⟩⟩:TyV) ⟨(bR (x:=⟨⟨O,K,([(⟨A28,c29,(cD l.A j.A 1).1⟩:PolV)]++(b.B.A.drop 1))⟩,false,⟨none,0,[]⟩⟩) (bZ d8 d7 (c)) bN),j2 rfl,j1⟩
  refine g21 ?_;refine j5 func32 (fG O (([(⟨A28,c29,(cD l.A j.A 1).1⟩:PolV)]++(b.B.A.drop 1)).length) K) j1 λ_=>?_;refine g5 ?_;have hr:=s.symm.trans (qJ e d q8 (rH asd) C B m0 o6);subst hr;exact rs2 (⟨⟨O,K,([(⟨A28,c29,(cD l.A j.A 1).1⟩:PolV)]++(b.B.A.drop 1))⟩,false,⟨none,0,[]⟩⟩:TyV) ⟨(bR (x:=⟨⟨O,K,([(⟨A28,c29,(cD l.A j.A 1).1⟩:PolV)]++(b.B.A.drop 1))⟩,false,⟨none,0,[]⟩⟩) (bZ d8 d7 (c)) bN),j2 rfl,j1⟩
 refine g4 ?_;have e:fD a.t.B=bO a.B.A:=by first|exact pI m0|exact nP m0
 refine g6 ?_;refine gJ (λhc22=>?_) λhc22=>?_
 .refine one ?_;refine j5 func31 (lH (((1:Nat):Int))) j1 λ⟨A38,c39⟩=>?_;refine k6 (m:=⟨A38,c39,bY (((1:Nat):Int))⟩) λb40=>?_;refine dN (E:=bV) (xs:=[(⟨A38,c39,bY (((1:Nat):Int))⟩:PolV)]) .head aa5<|bS .head<|bB (cL [(⟨A38,c39,bY (((1:Nat):Int))⟩:PolV)]) (gL d8) ?_;refine g5 ?_;have d:fD b.t.B=bO [(⟨A38,c39,bY (((1:Nat):Int))⟩:PolV)]:=by first|exact pI m0|exact nP m0
  refine cK _ _ [k8,u0,u5,u9,A00,u6,A02,A01,A03,A04,A73,A07,A09] cN o8 (.c0 (.c0 (.c0 .nil))) bA.self ?_;refine g6 ?_;refine xJ (λZ=>?_) λZ=>?_
  .refine g21 ?_;have hr:=s.symm.trans (yQ e d aa3);subst hr;exact rs2 (⟨a.B,a.known,a.values⟩:TyV) ⟨(bR (x:=⟨a.B,a.known,a.values⟩) (Has.of zA) i6),j2 rfl,j1⟩
  refine one ?_;refine stM rfl (dU hT (k:=1) rfl rfl rfl rfl rfl rfl m0) ?_;refine one ?_;refine stM rfl (dU hT (k:=1) rfl rfl rfl rfl rfl rfl m0) ?_;refine one ?_;refine bB (bV.sl (.slice (iJ a.B.I 1 bV.size a.B.cap) (a.B.A.length-1) (a.B.cap-1)) (a.B.A.drop 1)) (jQ j0 (by first|exact hc_as|omega) ab9)<|bB (cL (a.B.A.drop 1)) (iB 1 j0)<|bB (bV.sl (.slice (iJ (some ⟨b40,0,none⟩) 1 bV.size 1) (1-1) (1-1)) ([(⟨A38,c39,bY (((1:Nat):Int))⟩:PolV)].drop 1)) (jQ e6 ad3 ab9)<|bB (cL ([(⟨A38,c39,bY (((1:Nat):Int))⟩:PolV)].drop 1)) (iB 1 e6) ?_;have X:=uY (iJ a.B.I 1 bV.size a.B.cap) (iJ (some ⟨b40,0,none⟩) 1 bV.size 1) (a.B.cap-1) (1-1) (a.B.A.drop 1) ([(⟨A38,c39,bY (((1:Nat):Int))⟩:PolV)].drop 1) ae7;simp only[N9]at X;refine j5 func62 X ⟨e6,d9,d8,d7,j1⟩ λ_=>?_;refine g5 ?_;refine iK (λW=>?_) λW=>?_
  .refine g9 ?_;have hr:=s.symm.trans (yQ e d aa3);subst hr;exact rs2 (⟨a.B,a.known,a.values⟩:TyV) ⟨(bR (x:=⟨a.B,a.known,a.values⟩) (Has.of (u8 (u8 mT2))) (Has.of (u8 mT7))),j2 rfl,j1⟩
  refine g3 ?_;refine cK _ _ [k8,u0,u5,u9,A00,u6,A17,A01,A03,A04,A08,A07] cN o8 (.c0 (.c0 (.c0 .nil))) bA.self ?_;refine one ?_;obtain⟨i,A⟩:=gx a.B.A 0 ad0;refine stM rfl (cC hT (k:=0) (bE (Has.of (u8 (u8 mT1)))) rfl rfl rfl rfl rfl rfl rfl ad0) ?_;refine stM rfl (gI A 0) ?_;refine one ?_;obtain⟨h,z⟩:=gx [(⟨A38,c39,bY (((1:Nat):Int))⟩:PolV)] 0 ad0;refine stM rfl (cC hT (k:=0) (bE e8) rfl rfl rfl rfl rfl rfl rfl ad0) ?_;refine stM rfl (gI z 0) ?_;refine one ?_;refine bG (dG (Has.each (Has.of (u8 (u8 mT0))) (j3 A))) λhpl47=>bG (dG (Has.each e7 (j3 z))) λhql48=>?_;refine j5 func63 (bBx (p:=i) (q:=h) hpl47 hql48) ⟨(Has.each (Has.of (u8 (u8 mT0))) (j3 A)),(Has.each e7 (j3 z)),j1⟩ λ⟨A45,c46⟩=>?_;refine g15 ?_;refine tL (λV=>?_) λV=>?_
  .refine g9 ?_;have hr:=s.symm.trans (bTj e d q8 (rH asd) A z asd);subst hr;exact rs2 (⟨a.B,a.known,a.values⟩:TyV) ⟨(bR (x:=⟨a.B,a.known,a.values⟩) (Has.of (u8 (u8 mT3))) (Has.of (u8 (u8 mT0)))),j2 rfl,j1⟩
  refine g5 ?_;refine k6 (m:=⟨A45,c46,(cD i.A h.A 1).1⟩) λb49=>?_;refine dN (E:=bV) (xs:=[(⟨A45,c46,(cD i.A h.A 1).1⟩:PolV)]) .head aa5 ?_;refine one ?_;refine ss (dU hT (k:=1) rfl rfl rfl rfl rfl rfl m0) ?_;refine bB (bV.sl (.slice (iJ (some ⟨b40,0,none⟩) 1 bV.size 1) (1-1) (1-1)) ([(⟨A38,c39,bY (((1:Nat):Int))⟩:PolV)].drop 1)) (jQ e9 ad3 ab9)<|bB (cL ([(⟨A38,c39,bY (((1:Nat):Int))⟩:PolV)].drop 1)) (iB 1 e9) ?_;refine cV .head (bE d8) rfl rfl rfl rfl rfl rfl s9 p6 λN J=>?_;refine fS .head λc=>bS .head<|bB (cL ([(⟨A45,c46,(cD i.A h.A 1).1⟩:PolV)]++([(⟨A38,c39,bY (((1:Nat):Int))⟩:PolV)].drop 1))) (hU (gL e6) d8) ?_;refine g9 ?_;refine cF (λR=>?_) (λR=>?_)
  .refine g4 ?_;refine cF (λQ=>?_) (λQ=>?_)
   .refine g7 ?_;refine inc (a.values.A.length+b.values.A.length) ?_;refine g4 ?_;refine bKs (λU=>?_) λU=>?_
    .refine g7 ?_;refine rA (u:=a.values) (v:=b.values) rfl rfl rfl rfl rfl rfl λb52=>?_;refine dN (E:=bBo) (xs:=[a.values,b.values]) .head aa5<|bS .head<|bB (Fact.each [a.values,b.values] cO) (Has.each_cons (Has.of (u8 (u8 mT5))) (Has.each_cons (Has.of (u8 mT7)) Has.each_nil)) ?_;have Y:=rL (some ⟨b52,0,none⟩) 2 [a.values,b.values] n9 ag8;rw[nQ]at Y;refine j5 func37 Y ⟨d8,d7,j1⟩ λ⟨A53,c54⟩=>?_;refine fS .head λo=>bS .head<|bB (cL (a.values.A++b.values.A)) (hU (Has.of (u8 (u8 mT5))) (Has.of (u8 mT7))) ?_;refine j5 func30 (kN N A53 (([(⟨A45,c46,(cD i.A h.A 1).1⟩:PolV)]++([(⟨A38,c39,bY (((1:Nat):Int))⟩:PolV)].drop 1)).length) ((a.values.A++b.values.A).length) J c54) j1 λ_=>?_;refine g6 ?_;have hr:=s.symm.trans ((bSr e d q8 (rH asd) A z m0 asd asd ae6).trans ad4);subst hr;exact rs2 (⟨⟨N,J,([(⟨A45,c46,(cD i.A h.A 1).1⟩:PolV)]++([(⟨A38,c39,bY (((1:Nat):Int))⟩:PolV)].drop 1))⟩,true,⟨A53,c54,(a.values.A++b.values.A)⟩⟩:TyV) ⟨(bR (x:=⟨⟨N,J,([(⟨A45,c46,(cD i.A h.A 1).1⟩:PolV)]++([(⟨A38,c39,bY (((1:Nat):Int))⟩:PolV)].drop 1))⟩,true,⟨A53,c54,(a.values.A++b.values.A)⟩⟩) (bZ e8 e7 (c)) (bZ d8 d7 (o))),j2 rfl,j1⟩
    refine g5 ?_;refine j5 func32 (fG N (([(⟨A45,c46,(cD i.A h.A 1).1⟩:PolV)]++([(⟨A38,c39,bY (((1:Nat):Int))⟩:PolV)].drop 1)).length) J) j1 λ_=>?_;refine g5 ?_;have hr:=s.symm.trans (qJ e d q8 (rH asd) A z m0 o6);subst hr;exact rs2 (⟨⟨N,J,([(⟨A45,c46,(cD i.A h.A 1).1⟩:PolV)]++([(⟨A38,c39,bY (((1:Nat):Int))⟩:PolV)].drop 1))⟩,false,⟨none,0,[]⟩⟩:TyV) ⟨(bR (x:=⟨⟨N,J,([(⟨A45,c46,(cD i.A h.A 1).1⟩:PolV)]++([(⟨A38,c39,bY (((1:Nat):Int))⟩:PolV)].drop 1))⟩,false,⟨none,0,[]⟩⟩) (bZ d8 d7 (c)) bN),j2 rfl,j1⟩
   refine g17 ?_;refine j5 func32 (fG N (([(⟨A45,c46,(cD i.A h.A 1).1⟩:PolV)]++([(⟨A38,c39,bY (((1:Nat):Int))⟩:PolV)].drop 1)).length) J) j1 λ_=>?_;refine g5 ?_;have hr:=s.symm.trans (qJ e d q8 (rH asd) A z m0 o6);subst hr;exact rs2 (⟨⟨N,J,([(⟨A45,c46,(cD i.A h.A 1).1⟩:PolV)]++([(⟨A38,c39,bY (((1:Nat):Int))⟩:PolV)].drop 1))⟩,false,⟨none,0,[]⟩⟩:TyV) ⟨(bR (x:=⟨⟨N,J,([(⟨A45,c46,(cD i.A h.A 1).1⟩:PolV)]++([(⟨A38,c39,bY (((1:Nat):Int))⟩:PolV)].drop 1))⟩,false,⟨none,0,[]⟩⟩) (bZ d8 d7 (c)) bN),j2 rfl,j1⟩
  refine g21 ?_;refine j5 func32 (fG N (([(⟨A45,c46,(cD i.A h.A 1).1⟩:PolV)]++([(⟨A38,c39,bY (((1:Nat):Int))⟩:PolV)].drop 1)).length) J) j1 λ_=>?_;refine g5 ?_;have hr:=s.symm.trans (qJ e d q8 (rH asd) A z m0 o6);subst hr;exact rs2 (⟨⟨N,J,([(⟨A45,c46,(cD i.A h.A 1).1⟩:PolV)]++([(⟨A38,c39,bY (((1:Nat):Int))⟩:PolV)].drop 1))⟩,false,⟨none,0,[]⟩⟩:TyV) ⟨(bR (x:=⟨⟨N,J,([(⟨A45,c46,(cD i.A h.A 1).1⟩:PolV)]++([(⟨A38,c39,bY (((1:Nat):Int))⟩:PolV)].drop 1))⟩,false,⟨none,0,[]⟩⟩) (bZ d8 d7 (c)) bN),j2 rfl,j1⟩
 refine g4 ?_;have d:fD b.t.B=bO b.B.A:=by first|exact pI m0|exact nP m0
 refine cK _ _ [k8,u0,u5,u9,A00,u6,A02,A01,A03,A04,A73,A07,A09] cN o8 (.c0 (.c0 (.c0 .nil))) bA.self ?_;refine g6 ?_;refine xJ (λZ=>?_) λZ=>?_
 .refine g21 ?_;have hr:=s.symm.trans (yQ e d aa3);subst hr;exact rs2 (⟨a.B,a.known,a.values⟩:TyV) ⟨(bR (x:=⟨a.B,a.known,a.values⟩) i6 f5),j2 rfl,j1⟩
 refine one ?_;refine stM rfl (dU hT (k:=1) rfl rfl rfl rfl rfl rfl m0) ?_;refine one ?_;refine stM rfl (dU hT (k:=1) rfl rfl rfl rfl rfl rfl m0) ?_;refine one ?_;refine bB (bV.sl (.slice (iJ a.B.I 1 bV.size a.B.cap) (a.B.A.length-1) (a.B.cap-1)) (a.B.A.drop 1)) (jQ f9 (by first|exact hc_as|omega) ab9)<|bB (cL (a.B.A.drop 1)) (iB 1 f9)<|bB (bV.sl (.slice (iJ b.B.I 1 bV.size b.B.cap) (b.B.A.length-1) (b.B.cap-1)) (b.B.A.drop 1)) (jQ e9 ag6 ab9)<|bB (cL (b.B.A.drop 1)) (iB 1 e9) ?_;have X:=uY (iJ a.B.I 1 bV.size a.B.cap) (iJ b.B.I 1 bV.size b.B.cap) (a.B.cap-1) (b.B.cap-1) (a.B.A.drop 1) (b.B.A.drop 1) ae7;simp only[N9]at X;refine j5 func62 X ⟨e6,d9,d8,d7,j1⟩ λ_=>?_;refine g5 ?_;refine iK (λW=>?_) λW=>?_
 .refine g9 ?_;have hr:=s.symm.trans (yQ e d aa3);subst hr;exact rs2 (⟨a.B,a.known,a.values⟩:TyV) ⟨(bR (x:=⟨a.B,a.known,a.values⟩) (Has.of (u8 mT7)) i7),j2 rfl,j1⟩
 refine g3 ?_;refine cK _ _ [k8,u0,u5,u9,A00,u6,A17,A01,A03,A04,A08,A07] cN o8 (.c0 (.c0 (.c0 .nil))) bA.self ?_;refine one ?_;obtain⟨g,y⟩:=gx a.B.A 0 ad0;refine stM rfl (cC hT (k:=0) (bE (Has.of zA)) rfl rfl rfl rfl rfl rfl rfl ad0) ?_;refine stM rfl (gI y 0) ?_;refine one ?_;obtain⟨f,w⟩:=gx b.B.A 0 ad0;refine stM rfl (cC hT (k:=0) (bE f5) rfl rfl rfl rfl rfl rfl rfl ad0) ?_;refine stM rfl (gI w 0) ?_;refine one ?_;refine bG (dG (Has.each j0 (j3 y))) λhpl61=>bG (dG (Has.each f4 (j3 w))) λhql62=>?_;refine j5 func63 (bBx (p:=g) (q:=f) hpl61 hql62) ⟨(Has.each j0 (j3 y)),(Has.each f4 (j3 w)),j1⟩ λ⟨A59,c60⟩=>?_;refine g15 ?_;refine tL (λV=>?_) λV=>?_
 .refine g9 ?_;have hr:=s.symm.trans (bTj e d q8 (rH asd) y w asd);subst hr;exact rs2 (⟨a.B,a.known,a.values⟩:TyV) ⟨(bR (x:=⟨a.B,a.known,a.values⟩) (Has.of (u8 (u8 mT0))) j0),j2 rfl,j1⟩
 refine g5 ?_;refine k6 (m:=⟨A59,c60,(cD g.A f.A 1).1⟩) λb63=>?_;refine dN (E:=bV) (xs:=[(⟨A59,c60,(cD g.A f.A 1).1⟩:PolV)]) .head aa5 ?_;refine one ?_;refine ss (dU hT (k:=1) rfl rfl rfl rfl rfl rfl m0) ?_;refine bB (bV.sl (.slice (iJ b.B.I 1 bV.size b.B.cap) (b.B.A.length-1) (b.B.cap-1)) (b.B.A.drop 1)) (jQ f7 ag6 ab9)<|bB (cL (b.B.A.drop 1)) (iB 1 f7) ?_;refine cV .head (bE d8) rfl rfl rfl rfl rfl rfl s9 p6 λM I=>?_;refine fS .head λc=>bS .head<|bB (cL ([(⟨A59,c60,(cD g.A f.A 1).1⟩:PolV)]++(b.B.A.drop 1))) (hU (gL e6) d8) ?_;refine g9 ?_;refine cF (λR=>?_) (λR=>?_)
 .refine g4 ?_;refine cF (λQ=>?_) (λQ=>?_)
  .refine g7 ?_;refine inc (a.values.A.length+b.values.A.length) ?_;refine g4 ?_;refine bKs (λU=>?_) λU=>?_
   .refine g7 ?_;refine rA (u:=a.values) (v:=b.values) rfl rfl rfl rfl rfl rfl λb66=>?_;refine dN (E:=bBo) (xs:=[a.values,b.values]) .head aa5<|bS .head<|bB (Fact.each [a.values,b.values] cO) (Has.each_cons (Has.of (u8 (u8 mT2))) (Has.each_cons i7 Has.each_nil)) ?_;have Y:=rL (some ⟨b66,0,none⟩) 2 [a.values,b.values] n9 ag8;rw[nQ]at Y;refine j5 func37 Y ⟨d8,d7,j1⟩ λ⟨A67,c68⟩=>?_;refine fS .head λo=>bS .head<|bB (cL (a.values.A++b.values.A)) (hU (Has.of (u8 (u8 mT2))) i7) ?_;refine j5 func30 (kN M A67 (([(⟨A59,c60,(cD g.A f.A 1).1⟩:PolV)]++(b.B.A.drop 1)).length) ((a.values.A++b.values.A).length) I c68) j1 λ_=>?_;refine g6 ?_;have hr:=s.symm.trans ((bSr e d q8 (rH asd) y w m0 asd asd ae6).trans ad4);subst hr;exact rs2 (⟨⟨M,I,([(⟨A59,c60,(cD g.A f.A 1).1⟩:PolV)]++(b.B.A.drop 1))⟩,true,⟨A67,c68,(a.values.A++b.values.A)⟩⟩:TyV) ⟨(bR (x:=⟨⟨M,I,([(⟨A59,c60,(cD g.A f.A 1).1⟩:PolV)]++(b.B.A.drop 1))⟩,true,⟨A67,c68,(a.values.A++b.values.A)⟩⟩) (bZ e8 e7 (c)) (bZ d8 d7 (o))),j2 rfl,j1⟩
   refine g5 ?_;refine j5 func32 (fG M (([(⟨A59,c60,(cD g.A f.A 1).1⟩:PolV)]++(b.B.A.drop 1)).length) I) j1 λ_=>?_;refine g5 ?_;have hr:=s.symm.trans (qJ e d q8 (rH asd) y w m0 o6);subst hr;exact rs2 (⟨⟨M,I,([(⟨A59,c60,(cD g.A f.A 1).1⟩:PolV)]++(b.B.A.drop 1))⟩,false,⟨none,0,[]⟩⟩:TyV) ⟨(bR (x:=⟨⟨M,I,([(⟨A59,c60,(cD g.A f.A 1).1⟩:PolV)]++(b.B.A.drop 1))⟩,false,⟨none,0,[]⟩⟩) (bZ d8 d7 (c)) bN),j2 rfl,j1⟩
  refine g17 ?_;refine j5 func32 (fG M (([(⟨A59,c60,(cD g.A f.A 1).1⟩:PolV)]++(b.B.A.drop 1)).length) I) j1 λ_=>?_;refine g5 ?_;have hr:=s.symm.trans (qJ e d q8 (rH asd) y w m0 o6);subst hr;exact rs2 (⟨⟨M,I,([(⟨A59,c60,(cD g.A f.A 1).1⟩:PolV)]++(b.B.A.drop 1))⟩,false,⟨none,0,[]⟩⟩:TyV) ⟨(bR (x:=⟨⟨M,I,([(⟨A59,c60,(cD g.A f.A 1).1⟩:PolV)]++(b.B.A.drop 1))⟩,false,⟨none,0,[]⟩⟩) (bZ d8 d7 (c)) bN),j2 rfl,j1⟩
 refine g21 ?_;refine j5 func32 (fG M (([(⟨A59,c60,(cD g.A f.A 1).1⟩:PolV)]++(b.B.A.drop 1)).length) I) j1 λ_=>?_;refine g5 ?_;have hr:=s.symm.trans (qJ e d q8 (rH asd) y w m0 o6);subst hr;exact rs2 (⟨⟨M,I,([(⟨A59,c60,(cD g.A f.A 1).1⟩:PolV)]++(b.B.A.drop 1))⟩,false,⟨none,0,[]⟩⟩:TyV) ⟨(bR (x:=⟨⟨M,I,([(⟨A59,c60,(cD g.A f.A 1).1⟩:PolV)]++(b.B.A.drop 1))⟩,false,⟨none,0,[]⟩⟩) (bZ d8 d7 (c)) bN),j2 rfl,j1⟩
theorem builtM_ne(z:Int)(a b c d e f:Value):prog.built 43 [(0,k9 z),(1,.agg #[a,b,c,d,e,f])]=some #[k9 z,a,b,c,d,e,f]:=m7
theorem at_one_mono{β:fR}{n:Nat}{Γ:Env}{H:List bL}{F:List Fact}{Q:Exit->Act->World->Prop}{ops:Array Oper}{rest:List Oper}{o:Oper}{d:Nat}{x:Operand}{m:Mono}(hw:want ops Γ o=some true)(ho:o.op= .buildSlice 40 1 #[(0,x)])(hd:o.dst=some d)(hn:B2 d n=true)
  (hx:Γ.ev x=some (.agg #[k9 m.n,l5 m.U.toNat,l5 m.T.toNat,l5 m.R.toNat,l5 m.Q.toNat,l5 m.O.toNat,l5 m.N.toNat])) (k: ∀b,At β n ((d,.slice (some ⟨b,0,none⟩) 1 1)::Γ) (.obj b (.cells (fL.all [m]).toArray 43)::H) F (wpList prog ops Q rest)):At β n Γ H F (wpList prog ops Q (o::rest)):=by
 obtain⟨i,hi,a,hs,_⟩:=bWc;refine jT hw ho hd hn hx underlying40 hi a m0 m0 ?_ k;rw[hs]
 kernel_rfl
theorem polF_own{F:List Fact}{b:Nat}{m:Mono}(h:Has F (fL.sl (.slice (some ⟨b,0,none⟩) 1 1) [m])):Has F (jU ⟨some ⟨b,0,none⟩,1,[m]⟩):=h.and (j2 n9)
theorem bQc(t:Bool):t=true\/t=false:=by cases t<;>simp
theorem maxZ(a b:Int):(if b>a then b else a)=max a b:=by split<;>omega
theorem wf_one{a:TyV}(h:WfT a.t)(k:a.known=true)(hs:a.B.A.length=0):a.values.A.length=1:=by
 have e:a.t.values.length=1:=by
  rcases (h.kn k).2 with h|h
  .exact h.2
  .have h:bO a.B.A=_:=h;rw[dW hs]at h;cases h
 have e:(bO a.values.A).length=1:=e
 rwa[bI]at e
theorem wf_val{a:TyV}(h:WfT a.t){p:PolV}{i:Nat}(hp:a.values.A[i]?=some p):dH p.A=true:=h.vr _ (j3 (jR hp))
theorem right_n{p:List Mono}(h:dH p=true){i:Nat}{m:Mono}(hm:p[i]?=some m): -16777216<=m.n/\m.n<=16777216:=by simp only[dH,Bool.and_eq_true]at h;have:=yH h.2 m (j3 hm);simp only[qH,decide_eq_true_eq]at this;omega
theorem bRt{k:Nat}{n:Int}(h:fU (bY k) n=true):n<=k:=by
 unfold bY gV at h;split at h
 .simp[fU]at h;omega
 .split at h
  .simp[fU]at h;omega
  .simp[fU,num0]at h;omega
section
variable {v : List Mono} {m : Mono}
theorem cnt0(h:v.length=0):pE v=some 0:=by rw[W2.1 h];rfl
theorem cnt2(h:1<v.length):pE v=none:=by
 match v,h with
 |_::_::_,_=>rfl
theorem cnt1(h:v.length=1)(hm:v[0]?=some m)(c:fU [bHc m] 1=true):pE v=some m.n:=by
 match v,h with
 |[x],_=>
  simp at hm;subst hm;simp[pE,c]
theorem cnt1b(h:v.length=1)(hm:v[0]?=some m)(c:fU [bHc m] 1=false):pE v=none:=by
 match v,h with
 |[x],_=>
  simp at hm;subst hm;simp[pE,c]
end
theorem bLh{tk:Bool}{n:Int}{l:List PolV}{k:Nat}(h:tk=decide (0<=n))(hk:(k:Int)=if n<0 then n+l.length else n):xK tk n (bO l)=bO (l.take k):=by unfold xK;rw[if_pos h,bI,<-hk,bOx];rfl
theorem bLd{tk:Bool}{n:Int}{l:List PolV}{k:Nat}(h:tk≠decide (0<=n))(hk:(k:Int)=if n<0 then n+l.length else n):xK tk n (bO l)=bO (l.drop k):=by unfold xK;rw[if_neg h,bI,<-hk,oC];rfl
theorem bEy{l:List PolV}{y p:PolV}(h:l[0]?=some y):bO (l.set 0 p)=p.A::(bO l).tail:=by
 cases l with
 |nil=>simp at h
 |cons a l=>rfl
section
variable {F : List Fact} {l : Sl PolV} {k : Nat}
theorem nF(h:Has F (cO l))(hc:l.A.length<=l.cap)(hk:k<=l.A.length):Has F (cO ⟨l.I,l.cap,l.A.take k⟩):=
 bZ (by rw[K6,L3 hk];exact bBy (nY h) hk) (polsF_take k (oT h)) (by rw[K6];omega)
theorem sB(h:Has F (cO l))(hc:l.A.length<=l.cap)(hk:k<=l.A.length):Has F (cO ⟨iJ l.I k bV.size l.cap,l.cap-k,l.A.drop k⟩):=
 bZ (by have:=jQ (nY h) hc hk;rwa[<-N9]at this) (iB k (oT h)) al7
theorem bCm{xs:List PolV}{p:PolV}(n:Nat)(h:Has F (cL xs))(hp:Has F (jU p)):Has F (cL (xs.set n p)):=λS w k q hq=>by
 rcases List.mem_or_eq_of_mem_set hq with hq|rfl
 .exact h S w k q hq
 .exact hp S w k
end
section
variable {tk : Bool} {a b : TyV} {x y : PolV} {n : Int}
theorem ptT_a(h:0<a.B.A.length\/b.B.A.length=0):mD tk a.t b.t=(a.t,90):=by
 unfold mD;rw[if_pos]
 rcases h with h|h
 .exact .inl (gE h)
 .exact .inr (dW h)
theorem bLi(h:a.B.A.length=0)(k:0<b.B.A.length): ¬(a.t.B≠[]\/b.t.B=[]):=by
 rintro(e|e)
 .exact e (dW h)
 .exact gE k e
theorem ptT_b(h:a.B.A.length=0)(k:0<b.B.A.length)(g:a.known=false):mD tk a.t b.t=(a.t,92):=by unfold mD;rw[if_neg (bLi h k)];exact if_pos g
theorem ptT_c(h:a.B.A.length=0)(k:0<b.B.A.length)(g:a.known=true)(hx:a.values.A[0]?=some x)(hc:pE x.A=none):mD tk a.t b.t=(a.t,93):=by
 have c:a.t.values.headD []=x.A:=kH hx;have g: ¬a.t.known=false:=by show ¬a.known=false;simp[g]
 unfold mD;rw[if_neg (bLi h k),if_neg g,c,hc]
theorem ptT_d(h:a.B.A.length=0)(k:0<b.B.A.length)(g:a.known=true)(hx:a.values.A[0]?=some x)(hc:pE x.A=some n)(hy:b.B.A[0]?=some y)(c:fU y.A (max n (-n))=false):mD tk a.t b.t=(a.t,93):=by
 have e:a.t.values.headD []=x.A:=kH hx;have d:b.t.B.headD []=y.A:=kH hy;have g: ¬a.t.known=false:=by show ¬a.known=false;simp[g]
 unfold mD;rw[if_neg (bLi h k),if_neg g,e,hc];dsimp only;rw[d,if_pos c]
theorem ptT_e(h:a.B.A.length=0)(k:0<b.B.A.length)(g:a.known=true)(hx:a.values.A[0]?=some x)(hc:pE x.A=some n)(hy:b.B.A[0]?=some y)(c:fU y.A (max n (-n))=true)(e:(cD y.A (bY (max n (-n))) (-1)).2≠0):mD false a.t b.t=(a.t,95):=by
 have f:a.t.values.headD []=x.A:=kH hx;have d:b.t.B.headD []=y.A:=kH hy;have g: ¬a.t.known=false:=by show ¬a.known=false;simp[g]
 unfold mD;rw[if_neg (bLi h k),if_neg g,f,hc];dsimp only;rw[d,if_neg (by simp[c]),if_neg n9,if_pos e]
theorem bPh{A:Option Addr}{q:Nat}{p:PolV}{V:Sl PolV}(h:a.B.A.length=0)(k:0<b.B.A.length)(g:a.known=true)(hx:a.values.A[0]?=some x)(hc:pE x.A=some n)(hy:b.B.A[0]?=some y)(c:fU y.A (max n (-n))=true)(hp:p.A=bY (max n (-n)))
  (hV:bO V.A=if b.known=true then xK true n (bO b.values.A)else bO b.values.A):mD true a.t b.t=((⟨⟨A,q,b.B.A.set 0 p⟩,b.known,V⟩:TyV).t,0):=by
 have e:a.t.values.headD []=x.A:=kH hx;have d:b.t.B.headD []=y.A:=kH hy;have g: ¬a.t.known=false:=by show ¬a.known=false;simp[g]
 unfold mD;rw[if_neg (bLi h k),if_neg g,e,hc];dsimp only;rw[d,if_neg (by simp[c]),if_pos rfl];show _=((⟨bO (b.B.A.set 0 p),b.known,bO V.A⟩:TyP),(0:Int));rw[bEy hy,hp,hV];rfl
theorem bSt{A:Option Addr}{q:Nat}{p:PolV}{V:Sl PolV}(h:a.B.A.length=0)(k:0<b.B.A.length)(g:a.known=true)(hx:a.values.A[0]?=some x)(hc:pE x.A=some n)(hy:b.B.A[0]?=some y)(c:fU y.A (max n (-n))=true)(e:(cD y.A (bY (max n (-n))) (-1)).2=0)(hp:p.A=(cD y.A (bY (max n (-n))) (-1)).1)
  (hV:bO V.A=if b.known=true then xK false n (bO b.values.A)else bO b.values.A):mD false a.t b.t=((⟨⟨A,q,b.B.A.set 0 p⟩,b.known,V⟩:TyV).t,0):=by
 have f:a.t.values.headD []=x.A:=kH hx;have d:b.t.B.headD []=y.A:=kH hy;have g: ¬a.t.known=false:=by show ¬a.known=false;simp[g]
 unfold mD;rw[if_neg (bLi h k),if_neg g,f,hc];dsimp only;rw[d,if_neg (by simp[c]),if_neg n9,if_neg am0];show _=((⟨bO (b.B.A.set 0 p),b.known,bO V.A⟩:TyP),(0:Int));rw[bEy hy,hp,hV];rfl
theorem bKm(hb:WfT b.t)(k:0<b.B.A.length)(hk:b.known=true)(hy:b.B.A[0]?=some y){m:Int}(c:fU y.A m=true):m<=b.values.A.length:=by
 have a:=jR hy
 rcases (hb.kn hk).2 with h|h
 .exact absurd h.1 (gE k)
 .have h:bO b.B.A=[bY (bO b.values.A).length]:=h;rw[h,bI]at a;simp at a;rw[<-a]at c;exact bRt c
end
theorem bSp(tk:Bool)(a b:TyV)(ha:WfT a.t)(hb:WfT b.t):cY prog 60 [.bool tk,.agg #[k7 a.B,.bool a.known,k7 a.values],.agg #[k7 b.B,.bool b.known,k7 b.values]] [] [tyF a,tyF b] (λ(x:TyV)=> .tuple #[tyC x,k9 (mD tk a.t b.t).2]) (λ_=>[]) (λ(x:TyV)=>[tyF x,Fact.pure (x.t=(mD tk a.t b.t).1)]):=by
 have hT:=dL;have hsa:=oV ha;have Z:=wZ ha;have hsb:=oV hb;have Y:=wZ hb;generalize s:mD tk a.t b.t=r;refine j8 func60 ntmps60 ?_;intro β hM;refine bP<|bB (cO a.B) (jK d7) ?_;refine cE a.B mT0 λW=>bB (cO a.values) (jM e6)<|cE a.values mT0 λU=>bB (cO b.B) (jK f4)<|cE b.B mT0 λhc_bs=>bB (cO b.values) (jM f9)<|cE b.values mT0 λh=>?_;refine one ?_;refine j6 λb1=>?_;refine j6 λb2=>?_;refine j4 rW λb3=>?_;refine g12 ?_;refine lK (λP=>?_) λP=>?_
 .refine g19 ?_;have hr:=s.symm.trans (ptT_a m0);subst hr;exact rs2 (⟨a.B,a.known,a.values⟩:TyV) ⟨(bR (x:=⟨a.B,a.known,a.values⟩) i6 f5),j2 rfl,j1⟩
 refine g8 ?_;refine gJ (λhc14=>?_) λhc14=>?_
 .refine g10 ?_;have hr:=s.symm.trans (ptT_a m0);subst hr;exact rs2 (⟨a.B,a.known,a.values⟩:TyV) ⟨(bR (x:=⟨a.B,a.known,a.values⟩) i6 f5),j2 rfl,j1⟩
 refine g8 ?_;refine iK (λhc26=>?_) λhc26=>?_
 .refine g10 ?_;have hr:=s.symm.trans (ptT_b m0 m0 asd);subst hr;exact rs2 (⟨a.B,a.known,a.values⟩:TyV) ⟨(bR (x:=⟨a.B,a.known,a.values⟩) i6 f5),j2 rfl,j1⟩
 refine g10 ?_;have hv1:=wf_one ha asd m0;refine g3 ?_;obtain⟨x4,f⟩:=gx a.values.A 0;refine ss (cC hT (k:=0) (bE f4) rfl rfl rfl rfl rfl rfl rfl m0) ?_;refine ss (j9 hT (dC.knows (bE f4) (k:=0) (x:=x4) f 0)) ?_;refine bB (jU x4) (Has.each e9 (j3 f))<|bB (fL.sl (.slice x4.I x4.A.length x4.cap) x4.A) (xC d7) ?_;have Q:=wf_val ha f;refine g9 ?_;refine lK (λO=>?_) λO=>?_
 .refine g26 ?_;have hr:=s.symm.trans (ptT_c m0 m0 asd f (cnt2 m0));subst hr;exact rs2 (⟨a.B,a.known,a.values⟩:TyV) ⟨(bR (x:=⟨a.B,a.known,a.values⟩) j0 f9),j2 rfl,j1⟩
 refine g4 ?_;refine rE (λN=>?_) λN=>?_
 .refine one ?_;obtain⟨x6,w⟩:=gx x4.A 0;refine ss (cC hT (k:=0) (bE d7) rfl rfl rfl rfl rfl rfl rfl m0) ?_;refine one ?_;refine ss (fM hT (dC.knows (bE d7) (k:=0) (x:=x6) w 1) rfl rfl rfl rfl rfl) ?_;refine ss (j7 (builtM_ne _ _ _ _ _ _ _)) ?_;refine at_one_mono (m:=(bHc x6)) rfl rfl rfl rfl rfl λX=>?_;refine dN (E:=fL) (xs:=[(bHc x6)]) .head aa5<|bS .head<|bB (jU ⟨some ⟨X,0,none⟩,1,[(bHc x6)]⟩) (polF_own d7)<|bG (dG d7) λM=>?_;refine j5 func98 (vU (p:=⟨some ⟨X,0,none⟩,1,[(bHc x6)]⟩) 1 M) ⟨d7,j1⟩ λ_=>?_;refine g5 ?_;refine iK (λB=>?_) λB=>?_
  .refine g9 ?_;have hr:=s.symm.trans (ptT_c m0 m0 asd f (cnt1b m0 w (by simpa using B)));subst hr;exact rs2 (⟨a.B,a.known,a.values⟩:TyV) ⟨(bR (x:=⟨a.B,a.known,a.values⟩) (Has.of (u8 mT7)) i7),j2 rfl,j1⟩
  refine g5 ?_;refine bF (t':=true) (decide_eq_true m0) ?_;refine g5 ?_;refine ss (cC hT (k:=0) (bE d9) rfl rfl rfl rfl rfl rfl rfl m0) ?_;refine one ?_;refine ss (j9 hT (dC.knows (bE d9) (k:=0) (x:=x6) w 0)) ?_;refine g4 ?_;have g:=cnt1 m0 w (by simpa using B);have R:=right_n Q w;refine g4 ?_;refine bJ (z':= -x6.n) ai0 ?_;refine one ?_;refine bJ (z':=max x6.n (-x6.n)) (maxZ _ _) ?_;refine g8 ?_;obtain⟨x10,e⟩:=gx b.B.A 0;refine ss (cC hT (k:=0) (bE f5) rfl rfl rfl rfl rfl rfl rfl m0) ?_;refine ss (j9 hT (dC.knows (bE f5) (k:=0) (x:=x10) e 0)) ?_;refine one ?_;refine bG (dG (Has.each f4 (j3 e))) λK=>?_;refine j5 func98 (vU (p:=x10) (max x6.n (-x6.n)) K) ⟨(Has.each f4 (j3 e)),j1⟩ λ_=>?_;refine g3 ?_;refine iK (λz=>?_) λz=>?_
  .refine g9 ?_;have hr:=s.symm.trans (ptT_d m0 m0 asd f g e asd);subst hr;exact rs2 (⟨a.B,a.known,a.values⟩:TyV) ⟨(bR (x:=⟨a.B,a.known,a.values⟩) (Has.of (u8 mT7)) i7),j2 rfl,j1⟩
  refine g6 ?_;refine j5 func94 (bBw b.B.I b.B.cap b.B.A m0) ⟨f5,j1⟩ λ⟨A13,c14⟩=>?_;refine bB (cL b.B.A) f4 ?_;refine g7 ?_;refine j5 func31 (lH ((max x6.n (-x6.n)))) j1 λ⟨A15,c16⟩=>?_;refine g5 ?_
  rcases bQc tk with u|u
  .subst u;refine g9 ?_;refine uF kT1 m0 λg17 hg=>?_;subst hg;refine g4 ?_;refine ss (fY hT (k:=0) rfl rfl rfl rfl rfl rfl m0) ?_;refine fV hT (k:=0) (fo:=0) (y':=(⟨A15,c16,bY ((max x6.n (-x6.n)))⟩:PolV)) kT1 rfl rfl rfl rfl rfl rfl rfl rfl rfl e rfl ?_;refine g4 ?_;rw[show b.B.A.length=(b.B.A.set 0 (⟨A15,c16,bY ((max x6.n (-x6.n)))⟩:PolV)).length from W9.symm];refine bB (cL (b.B.A.set 0 (⟨A15,c16,bY ((max x6.n (-x6.n)))⟩:PolV))) (bCm 0 d8 d7)<|fS .head λc=>bS .head ?_;refine g5 ?_;refine fT (λo=>?_) λo=>?_
   .refine bP ?_;have L:=bKm hb m0 asd e asd;refine g12 ?_;refine fA (λj=>?_) λj=>?_
    .refine g6 ?_;refine bJ (z':=(x6.n+(b.values.A.length:Nat))) (xF m0 m0) ?_;refine g8 ?_;refine bF (t':=false) (decide_eq_false m0) ?_;refine one ?_;refine bF (t':=false) m9 ?_;refine g7 ?_;have hkl:(x6.n+(b.values.A.length:Nat)).toNat<=b.values.A.length:=m0
     refine ss (dU hT (k:=(x6.n+(b.values.A.length:Nat)).toNat) rfl rfl rfl rfl rfl m0 m0) ?_;refine iC (v':= .slice (iJ b.values.I ((x6.n+(b.values.A.length:Nat)).toNat) bV.size b.values.cap) (b.values.A.drop ((x6.n+(b.values.A.length:Nat)).toNat)).length (b.values.cap-(x6.n+(b.values.A.length:Nat)).toNat)) ae2<|bB (cO ⟨iJ b.values.I ((x6.n+(b.values.A.length:Nat)).toNat) bV.size b.values.cap,b.values.cap-(x6.n+(b.values.A.length:Nat)).toNat,b.values.A.drop ((x6.n+(b.values.A.length:Nat)).toNat)⟩) (sB f9 h hkl) ?_;refine g12 ?_;have hr:=s.symm.trans (bPh (A:=(some ⟨g17,0,none⟩)) (q:=c14) (p:=⟨A15,c16,bY ((max x6.n (-x6.n)))⟩) (V:=⟨iJ b.values.I ((x6.n+(b.values.A.length:Nat)).toNat) bV.size b.values.cap,b.values.cap-(x6.n+(b.values.A.length:Nat)).toNat,b.values.A.drop ((x6.n+(b.values.A.length:Nat)).toNat)⟩) m0 m0 asd f g e asd rfl (((if_pos (show b.known=true from by assumption)).trans (bLd (k:=(x6.n+(b.values.A.length:Nat)).toNat) (tk:=true) (n:=x6.n) (l:=b.values.A) aj5 (by split<;>omega))).symm));subst hr;exact rs2 (⟨⟨(some ⟨g17,0,none⟩),c14,(b.B.A.set 0 (⟨A15,c16,bY ((max x6.n (-x6.n)))⟩:PolV))⟩,b.known,⟨iJ b.values.I ((x6.n+(b.values.A.length:Nat)).toNat) bV.size b.values.cap,b.values.cap-(x6.n+(b.values.A.length:Nat)).toNat,b.values.A.drop ((x6.n+(b.values.A.length:Nat)).toNat)⟩⟩:TyV) ⟨(bR (x:=⟨⟨(some ⟨g17,0,none⟩),c14,(b.B.A.set 0 (⟨A15,c16,bY ((max x6.n (-x6.n)))⟩:PolV))⟩,b.known,⟨iJ b.values.I ((x6.n+(b.values.A.length:Nat)).toNat) bV.size b.values.cap,b.values.cap-(x6.n+(b.values.A.length:Nat)).toNat,b.values.A.drop ((x6.n+(b.values.A.length:Nat)).toNat)⟩⟩) (bZ d8 d9 (c)) d7),j2 rfl,j1⟩
    refine g7 ?_;refine bF (t':=true) (decide_eq_true m0) ?_;refine one ?_;refine bF (t':=true) m9 ?_;refine g7 ?_;have hkl:x6.n.toNat<=b.values.A.length:=m0
    refine ss (iQ hT (k:=x6.n.toNat) rfl rfl rfl rfl rfl m0 m0) ?_;refine iC (v':= .slice b.values.I (b.values.A.take (x6.n.toNat)).length b.values.cap) ac3<|bB (cO ⟨b.values.I,b.values.cap,b.values.A.take (x6.n.toNat)⟩) (nF f9 h hkl) ?_;refine g12 ?_;have hr:=s.symm.trans (bPh (A:=(some ⟨g17,0,none⟩)) (q:=c14) (p:=⟨A15,c16,bY ((max x6.n (-x6.n)))⟩) (V:=⟨b.values.I,b.values.cap,b.values.A.take (x6.n.toNat)⟩) m0 m0 asd f g e asd rfl (((if_pos (show b.known=true from by assumption)).trans (bLh (k:=x6.n.toNat) (tk:=true) (n:=x6.n) (l:=b.values.A) (decide_eq_true m0).symm (by split<;>omega))).symm));subst hr;exact rs2 (⟨⟨(some ⟨g17,0,none⟩),c14,(b.B.A.set 0 (⟨A15,c16,bY ((max x6.n (-x6.n)))⟩:PolV))⟩,b.known,⟨b.values.I,b.values.cap,b.values.A.take (x6.n.toNat)⟩⟩:TyV) ⟨(bR (x:=⟨⟨(some ⟨g17,0,none⟩),c14,(b.B.A.set 0 (⟨A15,c16,bY ((max x6.n (-x6.n)))⟩:PolV))⟩,b.known,⟨b.values.I,b.values.cap,b.values.A.take (x6.n.toNat)⟩⟩) (bZ d8 d9 (c)) d7),j2 rfl,j1⟩
   refine g10 ?_;have hr:=s.symm.trans (bPh (A:=(some ⟨g17,0,none⟩)) (q:=c14) (p:=⟨A15,c16,bY ((max x6.n (-x6.n)))⟩) (V:=b.values) m0 m0 asd f g e asd rfl ((if_neg ag4).symm));subst hr;exact rs2 (⟨⟨(some ⟨g17,0,none⟩),c14,(b.B.A.set 0 (⟨A15,c16,bY ((max x6.n (-x6.n)))⟩:PolV))⟩,b.known,b.values⟩:TyV) ⟨(bR (x:=⟨⟨(some ⟨g17,0,none⟩),c14,(b.B.A.set 0 (⟨A15,c16,bY ((max x6.n (-x6.n)))⟩:PolV))⟩,b.known,b.values⟩) (bZ d7 d8 (c)) f9),j2 rfl,j1⟩
  subst u;refine g15 ?_;refine ss (cC hT (k:=0) (cM kT1) rfl rfl rfl rfl rfl rfl rfl m0) ?_;refine ss (j9 hT (dC.knows (cM kT1) (k:=0) (x:=x10) e 0)) ?_;refine one ?_;refine bG (dG (Has.each f7 (j3 e))) λJ=>bG (dG d7) λD=>?_;refine j5 func58 (bRy (p:=x10) (q:=⟨A15,c16,bY ((max x6.n (-x6.n)))⟩) J D) ⟨(Has.each f7 (j3 e)),d7,j1⟩ λ⟨A18,c19⟩=>?_;refine g13 ?_;refine tL (λy=>?_) λy=>?_
  .refine g9 ?_;have hr:=s.symm.trans (ptT_e m0 m0 asd f g e asd asd);subst hr;exact rs2 (⟨a.B,a.known,a.values⟩:TyV) ⟨(bR (x:=⟨a.B,a.known,a.values⟩) (Has.of (u8 (u8 mT2))) (Has.of (u8 mT7))),j2 rfl,j1⟩
  refine g3 ?_;refine uF kT1 m0 λg22 hg=>?_;subst hg;refine g4 ?_;refine ss (fY hT (k:=0) rfl rfl rfl rfl rfl rfl m0) ?_;refine fV hT (k:=0) (fo:=0) (y':=(⟨A18,c19,(cD x10.A (bY ((max x6.n (-x6.n)))) (-1)).1⟩:PolV)) kT1 rfl rfl rfl rfl rfl rfl rfl rfl rfl e rfl ?_;refine g4 ?_;rw[show b.B.A.length=(b.B.A.set 0 (⟨A18,c19,(cD x10.A (bY ((max x6.n (-x6.n)))) (-1)).1⟩:PolV)).length from W9.symm];refine bB (cL (b.B.A.set 0 (⟨A18,c19,(cD x10.A (bY ((max x6.n (-x6.n)))) (-1)).1⟩:PolV))) (bCm 0 d9 d7)<|fS .head λc=>bS .head ?_;refine g5 ?_;refine fT (λo=>?_) λo=>?_
  .refine bP ?_;have L:=bKm hb m0 asd e asd;refine g12 ?_;refine fA (λj=>?_) λj=>?_
   .refine g6 ?_;refine bJ (z':=(x6.n+(b.values.A.length:Nat))) (xF m0 m0) ?_;refine g8 ?_;refine bF (t':=false) (decide_eq_false m0) ?_;refine one ?_;refine bF (t':=true) m9 ?_;refine g7 ?_;have hkl:(x6.n+(b.values.A.length:Nat)).toNat<=b.values.A.length:=m0
    refine ss (iQ hT (k:=(x6.n+(b.values.A.length:Nat)).toNat) rfl rfl rfl rfl rfl m0 m0) ?_;refine iC (v':= .slice b.values.I (b.values.A.take ((x6.n+(b.values.A.length:Nat)).toNat)).length b.values.cap) ac3<|bB (cO ⟨b.values.I,b.values.cap,b.values.A.take ((x6.n+(b.values.A.length:Nat)).toNat)⟩) (nF i6 h hkl) ?_;refine g12 ?_;have hr:=s.symm.trans (bSt (A:=(some ⟨g22,0,none⟩)) (q:=c14) (p:=⟨A18,c19,(cD x10.A (bY ((max x6.n (-x6.n)))) (-1)).1⟩) (V:=⟨b.values.I,b.values.cap,b.values.A.take ((x6.n+(b.values.A.length:Nat)).toNat)⟩) m0 m0 asd f g e asd m0 rfl (((if_pos (show b.known=true from by assumption)).trans (bLh (k:=(x6.n+(b.values.A.length:Nat)).toNat) (tk:=false) (n:=x6.n) (l:=b.values.A) (decide_eq_false m0).symm (by split<;>omega))).symm));subst hr;exact rs2 (⟨⟨(some ⟨g22,0,none⟩),c14,(b.B.A.set 0 (⟨A18,c19,(cD x10.A (bY ((max x6.n (-x6.n)))) (-1)).1⟩:PolV))⟩,b.known,⟨b.values.I,b.values.cap,b.values.A.take ((x6.n+(b.values.A.length:Nat)).toNat)⟩⟩:TyV) ⟨(bR (x:=⟨⟨(some ⟨g22,0,none⟩),c14,(b.B.A.set 0 (⟨A18,c19,(cD x10.A (bY ((max x6.n (-x6.n)))) (-1)).1⟩:PolV))⟩,b.known,⟨b.values.I,b.values.cap,b.values.A.take ((x6.n+(b.values.A.length:Nat)).toNat)⟩⟩) (bZ d8 d9 (c)) d7),j2 rfl,j1⟩
   refine g7 ?_;refine bF (t':=true) (decide_eq_true m0) ?_;refine one ?_;refine bF (t':=false) m9 ?_;refine g7 ?_;have hkl:x6.n.toNat<=b.values.A.length:=m0
   refine ss (dU hT (k:=x6.n.toNat) rfl rfl rfl rfl rfl m0 m0) ?_;refine iC (v':= .slice (iJ b.values.I (x6.n.toNat) bV.size b.values.cap) (b.values.A.drop (x6.n.toNat)).length (b.values.cap-x6.n.toNat)) ae2<|bB (cO ⟨iJ b.values.I (x6.n.toNat) bV.size b.values.cap,b.values.cap-x6.n.toNat,b.values.A.drop (x6.n.toNat)⟩) (sB i6 h hkl) ?_;refine g12 ?_;have hr:=s.symm.trans (bSt (A:=(some ⟨g22,0,none⟩)) (q:=c14) (p:=⟨A18,c19,(cD x10.A (bY ((max x6.n (-x6.n)))) (-1)).1⟩) (V:=⟨iJ b.values.I (x6.n.toNat) bV.size b.values.cap,b.values.cap-x6.n.toNat,b.values.A.drop (x6.n.toNat)⟩) m0 m0 asd f g e asd m0 rfl (((if_pos (show b.known=true from by assumption)).trans (bLd (k:=x6.n.toNat) (tk:=false) (n:=x6.n) (l:=b.values.A) aj6 (by split<;>omega))).symm));subst hr;exact rs2 (⟨⟨(some ⟨g22,0,none⟩),c14,(b.B.A.set 0 (⟨A18,c19,(cD x10.A (bY ((max x6.n (-x6.n)))) (-1)).1⟩:PolV))⟩,b.known,⟨iJ b.values.I (x6.n.toNat) bV.size b.values.cap,b.values.cap-x6.n.toNat,b.values.A.drop (x6.n.toNat)⟩⟩:TyV) ⟨(bR (x:=⟨⟨(some ⟨g22,0,none⟩),c14,(b.B.A.set 0 (⟨A18,c19,(cD x10.A (bY ((max x6.n (-x6.n)))) (-1)).1⟩:PolV))⟩,b.known,⟨iJ b.values.I (x6.n.toNat) bV.size b.values.cap,b.values.cap-x6.n.toNat,b.values.A.drop (x6.n.toNat)⟩⟩) (bZ d8 d9 (c)) d7),j2 rfl,j1⟩
  refine g10 ?_;have hr:=s.symm.trans (bSt (A:=(some ⟨g22,0,none⟩)) (q:=c14) (p:=⟨A18,c19,(cD x10.A (bY ((max x6.n (-x6.n)))) (-1)).1⟩) (V:=b.values) m0 m0 asd f g e asd m0 rfl ((if_neg ag4).symm));subst hr;exact rs2 (⟨⟨(some ⟨g22,0,none⟩),c14,(b.B.A.set 0 (⟨A18,c19,(cD x10.A (bY ((max x6.n (-x6.n)))) (-1)).1⟩:PolV))⟩,b.known,b.values⟩:TyV) ⟨(bR (x:=⟨⟨(some ⟨g22,0,none⟩),c14,(b.B.A.set 0 (⟨A18,c19,(cD x10.A (bY ((max x6.n (-x6.n)))) (-1)).1⟩:PolV))⟩,b.known,b.values⟩) (bZ d7 d8 (c)) i6),j2 rfl,j1⟩
 refine g18 ?_;refine bF (t':=false) (decide_eq_false m0) ?_;refine g6 ?_;have g:=cnt0 (v:=x4.A) m0;have R: -16777216<=(0:Int)/\(0:Int)<=16777216:=m9
 refine g4 ?_;refine bJ (z':= -(0:Int)) ai0 ?_;refine one ?_;refine bJ (z':=max (0:Int) (-(0:Int))) (maxZ _ _) ?_;refine g8 ?_;obtain⟨i,d⟩:=gx b.B.A 0;refine ss (cC hT (k:=0) (bE e9) rfl rfl rfl rfl rfl rfl rfl m0) ?_;refine ss (j9 hT (dC.knows (bE e9) (k:=0) (x:=i) d 0)) ?_;refine one ?_;refine bG (dG (Has.each e8 (j3 d))) λI=>?_;refine j5 func98 (vU (p:=i) (max (0:Int) (-(0:Int))) I) ⟨(Has.each e8 (j3 d)),j1⟩ λ_=>?_;refine g3 ?_;refine iK (λz=>?_) λz=>?_
 .refine g9 ?_;have hr:=s.symm.trans (ptT_d m0 m0 asd f g d asd);subst hr;exact rs2 (⟨a.B,a.known,a.values⟩:TyV) ⟨(bR (x:=⟨a.B,a.known,a.values⟩) j0 f9),j2 rfl,j1⟩
 refine g6 ?_;refine j5 func94 (bBw b.B.I b.B.cap b.B.A m0) ⟨e9,j1⟩ λ⟨A26,c27⟩=>?_;refine bB (cL b.B.A) e8 ?_;refine g7 ?_;refine j5 func31 (lH ((max (0:Int) (-(0:Int))))) j1 λ⟨A28,c29⟩=>?_;refine g5 ?_
 rcases bQc tk with u|u
 .subst u;refine g9 ?_;refine uF kT1 m0 λg30 hg=>?_;subst hg;refine g4 ?_;refine ss (fY hT (k:=0) rfl rfl rfl rfl rfl rfl m0) ?_;refine fV hT (k:=0) (fo:=0) (y':=(⟨A28,c29,bY ((max (0:Int) (-(0:Int))))⟩:PolV)) kT1 rfl rfl rfl rfl rfl rfl rfl rfl rfl d rfl ?_;refine g4 ?_;rw[show b.B.A.length=(b.B.A.set 0 (⟨A28,c29,bY ((max (0:Int) (-(0:Int))))⟩:PolV)).length from W9.symm];refine bB (cL (b.B.A.set 0 (⟨A28,c29,bY ((max (0:Int) (-(0:Int))))⟩:PolV))) (bCm 0 d8 d7)<|fS .head λc=>bS .head ?_;refine g5 ?_;refine fT (λo=>?_) λo=>?_
  .refine bP ?_;have L:=bKm hb m0 asd d asd;refine g12 ?_;refine fA (λj=>?_) λj=>?_
   .refine g6 ?_;refine bJ (z':=((0:Int)+(b.values.A.length:Nat))) (xF m0 m0) ?_;refine g8 ?_;refine bF (t':=false) (decide_eq_false m0) ?_;refine one ?_;refine bF (t':=false) m9 ?_;refine g7 ?_;have hkl:((0:Int)+(b.values.A.length:Nat)).toNat<=b.values.A.length:=m0
    refine ss (dU hT (k:=((0:Int)+(b.values.A.length:Nat)).toNat) rfl rfl rfl rfl rfl m0 m0) ?_;refine iC (v':= .slice (iJ b.values.I (((0:Int)+(b.values.A.length:Nat)).toNat) bV.size b.values.cap) (b.values.A.drop (((0:Int)+(b.values.A.length:Nat)).toNat)).length (b.values.cap-((0:Int)+(b.values.A.length:Nat)).toNat)) ae2<|bB (cO ⟨iJ b.values.I (((0:Int)+(b.values.A.length:Nat)).toNat) bV.size b.values.cap,b.values.cap-((0:Int)+(b.values.A.length:Nat)).toNat,b.values.A.drop (((0:Int)+(b.values.A.length:Nat)).toNat)⟩) (sB f5 h hkl) ?_;refine g12 ?_;have hr:=s.symm.trans (bPh (A:=(some ⟨g30,0,none⟩)) (q:=c27) (p:=⟨A28,c29,bY ((max (0:Int) (-(0:Int))))⟩) (V:=⟨iJ b.values.I (((0:Int)+(b.values.A.length:Nat)).toNat) bV.size b.values.cap,b.values.cap-((0:Int)+(b.values.A.length:Nat)).toNat,b.values.A.drop (((0:Int)+(b.values.A.length:Nat)).toNat)⟩) m0 m0 asd f g d asd rfl (((if_pos (show b.known=true from by assumption)).trans (bLd (k:=((0:Int)+(b.values.A.length:Nat)).toNat) (tk:=true) (n:=(0:Int)) (l:=b.values.A) aj5 (by split<;>omega))).symm));subst hr;exact rs2 (⟨⟨(some ⟨g30,0,none⟩),c27,(b.B.A.set 0 (⟨A28,c29,bY ((max (0:Int) (-(0:Int))))⟩:PolV))⟩,b.known,⟨iJ b.values.I (((0:Int)+(b.values.A.length:Nat)).toNat) bV.size b.values.cap,b.values.cap-((0:Int)+(b.values.A.length:Nat)).toNat,b.values.A.drop (((0:Int)+(b.values.A.length:Nat)).toNat)⟩⟩:TyV) ⟨(bR (x:=⟨⟨(some ⟨g30,0,none⟩),c27,(b.B.A.set 0 (⟨A28,c29,bY ((max (0:Int) (-(0:Int))))⟩:PolV))⟩,b.known,⟨iJ b.values.I (((0:Int)+(b.values.A.length:Nat)).toNat) bV.size b.values.cap,b.values.cap-((0:Int)+(b.values.A.length:Nat)).toNat,b.values.A.drop (((0:Int)+(b.values.A.length:Nat)).toNat)⟩⟩) (bZ d8 d9 (c)) d7),j2 rfl,j1⟩
   refine g7 ?_;refine bF (t':=true) (decide_eq_true m0) ?_;refine one ?_;refine bF (t':=true) m9 ?_;refine g7 ?_;have hkl:(0:Int).toNat<=b.values.A.length:=m0
   refine ss (iQ hT (k:=(0:Int).toNat) rfl rfl rfl rfl rfl m0 m0) ?_;refine iC (v':= .slice b.values.I (b.values.A.take ((0:Int).toNat)).length b.values.cap) ac3<|bB (cO ⟨b.values.I,b.values.cap,b.values.A.take ((0:Int).toNat)⟩) (nF f5 h hkl) ?_;refine g12 ?_;have hr:=s.symm.trans (bPh (A:=(some ⟨g30,0,none⟩)) (q:=c27) (p:=⟨A28,c29,bY ((max (0:Int) (-(0:Int))))⟩) (V:=⟨b.values.I,b.values.cap,b.values.A.take ((0:Int).toNat)⟩) m0 m0 asd f g d asd rfl (((if_pos (show b.known=true from by assumption)).trans (bLh (k:=(0:Int).toNat) (tk:=true) (n:=(0:Int)) (l:=b.values.A) (decide_eq_true m0).symm (by split<;>omega))).symm));subst hr;exact rs2 (⟨⟨(some ⟨g30,0,none⟩),c27,(b.B.A.set 0 (⟨A28,c29,bY ((max (0:Int) (-(0:Int))))⟩:PolV))⟩,b.known,⟨b.values.I,b.values.cap,b.values.A.take ((0:Int).toNat)⟩⟩:TyV) ⟨(bR (x:=⟨⟨(some ⟨g30,0,none⟩),c27,(b.B.A.set 0 (⟨A28,c29,bY ((max (0:Int) (-(0:Int))))⟩:PolV))⟩,b.known,⟨b.values.I,b.values.cap,b.values.A.take ((0:Int).toNat)⟩⟩) (bZ d8 d9 (c)) d7),j2 rfl,j1⟩
  refine g10 ?_;have hr:=s.symm.trans (bPh (A:=(some ⟨g30,0,none⟩)) (q:=c27) (p:=⟨A28,c29,bY ((max (0:Int) (-(0:Int))))⟩) (V:=b.values) m0 m0 asd f g d asd rfl ((if_neg ag4).symm));subst hr;exact rs2 (⟨⟨(some ⟨g30,0,none⟩),c27,(b.B.A.set 0 (⟨A28,c29,bY ((max (0:Int) (-(0:Int))))⟩:PolV))⟩,b.known,b.values⟩:TyV) ⟨(bR (x:=⟨⟨(some ⟨g30,0,none⟩),c27,(b.B.A.set 0 (⟨A28,c29,bY ((max (0:Int) (-(0:Int))))⟩:PolV))⟩,b.known,b.values⟩) (bZ d7 d8 (c)) f5),j2 rfl,j1⟩
 subst u;refine g15 ?_;refine ss (cC hT (k:=0) (cM kT1) rfl rfl rfl rfl rfl rfl rfl m0) ?_;refine ss (j9 hT (dC.knows (cM kT1) (k:=0) (x:=i) d 0)) ?_;refine one ?_;refine bG (dG (Has.each f4 (j3 d))) λG=>bG (dG d7) λC=>?_;refine j5 func58 (bRy (p:=i) (q:=⟨A28,c29,bY ((max (0:Int) (-(0:Int))))⟩) G C) ⟨(Has.each f4 (j3 d)),d7,j1⟩ λ⟨A31,c32⟩=>?_;refine g13 ?_;refine tL (λy=>?_) λy=>?_
 .refine g9 ?_;have hr:=s.symm.trans (ptT_e m0 m0 asd f g d asd asd);subst hr;exact rs2 (⟨a.B,a.known,a.values⟩:TyV) ⟨(bR (x:=⟨a.B,a.known,a.values⟩) (Has.of (u8 (u8 mT0))) j0),j2 rfl,j1⟩
 refine g3 ?_;refine uF kT1 m0 λg35 hg=>?_;subst hg;refine g4 ?_;refine ss (fY hT (k:=0) rfl rfl rfl rfl rfl rfl m0) ?_;refine fV hT (k:=0) (fo:=0) (y':=(⟨A31,c32,(cD i.A (bY ((max (0:Int) (-(0:Int))))) (-1)).1⟩:PolV)) kT1 rfl rfl rfl rfl rfl rfl rfl rfl rfl d rfl ?_;refine g4 ?_;rw[show b.B.A.length=(b.B.A.set 0 (⟨A31,c32,(cD i.A (bY ((max (0:Int) (-(0:Int))))) (-1)).1⟩:PolV)).length from W9.symm];refine bB (cL (b.B.A.set 0 (⟨A31,c32,(cD i.A (bY ((max (0:Int) (-(0:Int))))) (-1)).1⟩:PolV))) (bCm 0 d9 d7)<|fS .head λc=>bS .head ?_;refine g5 ?_;refine fT (λo=>?_) λo=>?_
 .refine bP ?_;have L:=bKm hb m0 asd d asd;refine g12 ?_;refine fA (λj=>?_) λj=>?_
  .refine g6 ?_;refine bJ (z':=((0:Int)+(b.values.A.length:Nat))) (xF m0 m0) ?_;refine g8 ?_;refine bF (t':=false) (decide_eq_false m0) ?_;refine one ?_;refine bF (t':=true) m9 ?_;refine g7 ?_;have hkl:((0:Int)+(b.values.A.length:Nat)).toNat<=b.values.A.length:=m0
   refine ss (iQ hT (k:=((0:Int)+(b.values.A.length:Nat)).toNat) rfl rfl rfl rfl rfl m0 m0) ?_;refine iC (v':= .slice b.values.I (b.values.A.take (((0:Int)+(b.values.A.length:Nat)).toNat)).length b.values.cap) ac3<|bB (cO ⟨b.values.I,b.values.cap,b.values.A.take (((0:Int)+(b.values.A.length:Nat)).toNat)⟩) (nF f7 h hkl) ?_;refine g12 ?_;have hr:=s.symm.trans (bSt (A:=(some ⟨g35,0,none⟩)) (q:=c27) (p:=⟨A31,c32,(cD i.A (bY ((max (0:Int) (-(0:Int))))) (-1)).1⟩) (V:=⟨b.values.I,b.values.cap,b.values.A.take (((0:Int)+(b.values.A.length:Nat)).toNat)⟩) m0 m0 asd f g d asd m0 rfl (((if_pos (show b.known=true from by assumption)).trans (bLh (k:=((0:Int)+(b.values.A.length:Nat)).toNat) (tk:=false) (n:=(0:Int)) (l:=b.values.A) (decide_eq_false m0).symm (by split<;>omega))).symm));subst hr;exact rs2 (⟨⟨(some ⟨g35,0,none⟩),c27,(b.B.A.set 0 (⟨A31,c32,(cD i.A (bY ((max (0:Int) (-(0:Int))))) (-1)).1⟩:PolV))⟩,b.known,⟨b.values.I,b.values.cap,b.values.A.take (((0:Int)+(b.values.A.length:Nat)).toNat)⟩⟩:TyV) ⟨(bR (x:=⟨⟨(some ⟨g35,0,none⟩),c27,(b.B.A.set 0 (⟨A31,c32,(cD i.A (bY ((max (0:Int) (-(0:Int))))) (-1)).1⟩:PolV))⟩,b.known,⟨b.values.I,b.values.cap,b.values.A.take (((0:Int)+(b.values.A.length:Nat)).toNat)⟩⟩) (bZ d8 d9 (c)) d7),j2 rfl,j1⟩
  refine g7 ?_;refine bF (t':=true) (decide_eq_true m0) ?_;refine one ?_;refine bF (t':=false) m9 ?_;refine g7 ?_;have hkl:(0:Int).toNat<=b.values.A.length:=m0
  refine ss (dU hT (k:=(0:Int).toNat) rfl rfl rfl rfl rfl m0 m0) ?_;refine iC (v':= .slice (iJ b.values.I ((0:Int).toNat) bV.size b.values.cap) (b.values.A.drop ((0:Int).toNat)).length (b.values.cap-(0:Int).toNat)) ae2<|bB (cO ⟨iJ b.values.I ((0:Int).toNat) bV.size b.values.cap,b.values.cap-(0:Int).toNat,b.values.A.drop ((0:Int).toNat)⟩) (sB f7 h hkl) ?_;refine g12 ?_;have hr:=s.symm.trans (bSt (A:=(some ⟨g35,0,none⟩)) (q:=c27) (p:=⟨A31,c32,(cD i.A (bY ((max (0:Int) (-(0:Int))))) (-1)).1⟩) (V:=⟨iJ b.values.I ((0:Int).toNat) bV.size b.values.cap,b.values.cap-(0:Int).toNat,b.values.A.drop ((0:Int).toNat)⟩) m0 m0 asd f g d asd m0 rfl (((if_pos (show b.known=true from by assumption)).trans (bLd (k:=(0:Int).toNat) (tk:=false) (n:=(0:Int)) (l:=b.values.A) aj6 (by split<;>omega))).symm));subst hr;exact rs2 (⟨⟨(some ⟨g35,0,none⟩),c27,(b.B.A.set 0 (⟨A31,c32,(cD i.A (bY ((max (0:Int) (-(0:Int))))) (-1)).1⟩:PolV))⟩,b.known,⟨iJ b.values.I ((0:Int).toNat) bV.size b.values.cap,b.values.cap-(0:Int).toNat,b.values.A.drop ((0:Int).toNat)⟩⟩:TyV) ⟨(bR (x:=⟨⟨(some ⟨g35,0,none⟩),c27,(b.B.A.set 0 (⟨A31,c32,(cD i.A (bY ((max (0:Int) (-(0:Int))))) (-1)).1⟩:PolV))⟩,b.known,⟨iJ b.values.I ((0:Int).toNat) bV.size b.values.cap,b.values.cap-(0:Int).toNat,b.values.A.drop ((0:Int).toNat)⟩⟩) (bZ d8 d9 (c)) d7),j2 rfl,j1⟩
 refine g10 ?_;have hr:=s.symm.trans (bSt (A:=(some ⟨g35,0,none⟩)) (q:=c27) (p:=⟨A31,c32,(cD i.A (bY ((max (0:Int) (-(0:Int))))) (-1)).1⟩) (V:=b.values) m0 m0 asd f g d asd m0 rfl ((if_neg ag4).symm));subst hr;exact rs2 (⟨⟨(some ⟨g35,0,none⟩),c27,(b.B.A.set 0 (⟨A31,c32,(cD i.A (bY ((max (0:Int) (-(0:Int))))) (-1)).1⟩:PolV))⟩,b.known,b.values⟩:TyV) ⟨(bR (x:=⟨⟨(some ⟨g35,0,none⟩),c27,(b.B.A.set 0 (⟨A31,c32,(cD i.A (bY ((max (0:Int) (-(0:Int))))) (-1)).1⟩:PolV))⟩,b.known,b.values⟩) (bZ d7 d8 (c)) f7),j2 rfl,j1⟩
theorem addFn:PolFn 63 addO:=λp q a hq=>bBx p q a hq
theorem bUu:PolFn 58 yO:=λp q a hq=>bRy p q a hq
theorem mulFn:PolFn 55 nA:=λp q a hq=>mul_spec p q a hq
theorem sS{t:TyP}(h:WfT t):t.values.length<=4:=by
 cases k:t.known
 .rw[h.un k];decide
 .exact(h.kn k).1
theorem bDn{t:TyP}(h:WfT t)(k:t.known=true)(hs:t.B=[]):t.values.length=1:=by
 rcases (h.kn k).2 with h|h
 .exact h.2
 .rw[hs]at h;cases h
theorem bHo{t:TyP}(h:WfT t):bBr ⟨[],true,[[]]⟩ t where
 la:=by simp
 lb:=B1 (sS h) m9
 one:=λ_ _ _=>rfl
 two:=λ_ k e=>bDn h k e
 same:=λ_ _ e=>absurd rfl e
def bDy (S:List Pol)(p:Pol)(i:Nat):Prop:=sL (bY 1) S=sL p (S.drop i)
theorem bVr(S:List Pol):bDy S (bY 1) 0:=rfl
section
variable {l : List PolV} {p : Pol} {x : PolV} {i : Nat}
theorem rav_step(h:bDy (bO l) p i)(hx:l[i]?=some x)(e:(nA p x.A).2=0):bDy (bO l) (nA p x.A).1 (i+1):=by obtain⟨hi,a⟩:=F3.1 (jR hx);unfold bDy at*;rw[h,K2 hi,a];exact if_neg am0
theorem rav_bad(h:bDy (bO l) p i)(hx:l[i]?=some x)(e:(nA p x.A).2≠0):sL (bY 1) (bO l)=none:=by obtain⟨hi,a⟩:=F3.1 (jR hx);unfold bDy at*;rw[h,K2 hi,a];exact if_pos e
theorem rav_end(h:bDy (bO l) p i)(hi:l.length<=i):sL (bY 1) (bO l)=some p:=by unfold bDy at*;rw[h,K3 am5];rfl
end
theorem bYf(l:List PolV):bO l.reverse=(bO l).reverse:=List.map_reverse
section
variable {f : Int} {a : TyV}
theorem mo_a(h:f=32)(k:0<a.B.A.length):hJ f a.t=(a.t,90):=by unfold hJ;rw[if_pos h];exact if_pos (gE k)
theorem mo_b(h:f=32)(k:a.B.A.length=0)(g:a.known=false):hJ f a.t=(a.t,92):=by unfold hJ;rw[if_pos h,if_neg (show ¬a.t.B≠[]from λe=>e (dW k))];exact if_pos g
theorem mo_c{x:PolV}(h:f=32)(k:a.B.A.length=0)(g:a.known=true)(hx:a.values.A[0]?=some x)(e:lC x.A=false):hJ f a.t=(a.t,93):=by have b:a.t.values.headD []=x.A:=kH hx;unfold hJ;rw[if_pos h,if_neg (show ¬a.t.B≠[]from λe=>e (dW k)),if_neg (show ¬a.t.known=false by show ¬a.known=false;simp[g]),b,if_pos e]
theorem mo_d{x:PolV}(h:f=32)(k:a.B.A.length=0)(g:a.known=true)(hx:a.values.A[0]?=some x)(e:lC x.A=true):hJ f a.t=(⟨[x.A],false,[]⟩,0):=by have b:a.t.values.headD []=x.A:=kH hx;unfold hJ;rw[if_pos h,if_neg (show ¬a.t.B≠[]from λe=>e (dW k)),if_neg (show ¬a.t.known=false by show ¬a.known=false;simp[g]),b,if_neg am0]
theorem mo_e(h:f=33):hJ f a.t=(⟨[bY (a.B.A.length:Nat)],true,bO a.B.A⟩,0):=by subst h;unfold hJ;rw[if_neg (show ¬(33:Int)=32 by decide),if_pos rfl,show a.t.B.length=a.B.A.length from bI _];rfl
theorem mo_f(h:f=34)(e:sL (bY 1) (bO a.B.A)=none):hJ f a.t=(a.t,95):=by subst h;unfold hJ;rw[if_neg (show ¬(34:Int)=32 by decide),if_neg (show ¬(34:Int)=33 by decide),if_pos rfl,show sL (bY 1) a.t.B=none from e]
theorem mo_g{p:Pol}(h:f=34)(e:sL (bY 1) (bO a.B.A)=some p):hJ f a.t=(⟨[p],a.known,bO a.values.A⟩,0):=by subst h;unfold hJ;rw[if_neg (show ¬(34:Int)=32 by decide),if_neg (show ¬(34:Int)=33 by decide),if_pos rfl,show sL (bY 1) a.t.B=some p from e];rfl
theorem mo_35:hJ 35 a.t=(if a.t.B≠[]then ⟨a.t.B,a.t.known,a.t.values.reverse⟩else a.t,0):=by unfold hJ;rw[if_neg (show ¬(35:Int)=32 by decide),if_neg (show ¬(35:Int)=33 by decide),if_neg (show ¬(35:Int)=34 by decide),if_pos rfl]
theorem mo_h(h:f=35)(k:0<a.B.A.length):hJ f a.t=(⟨bO a.B.A,a.known,bO a.values.A.reverse⟩,0):=by subst h;rw[mo_35,if_pos (show a.t.B≠[]from gE k),bYf];rfl
theorem mo_i(h:f=35)(k:a.B.A.length=0):hJ f a.t=(a.t,0):=by subst h;rw[mo_35,if_neg (show ¬a.t.B≠[]from λe=>e (dW k))]
theorem mo_j(h:f=36):hJ f a.t=(⟨bO a.B.A.reverse,a.known,bO a.values.A⟩,0):=by subst h;unfold hJ;rw[if_neg (show ¬(36:Int)=32 by decide),if_neg (show ¬(36:Int)=33 by decide),if_neg (show ¬(36:Int)=34 by decide),if_neg (show ¬(36:Int)=35 by decide),if_pos rfl,bYf];rfl
theorem mo_k(h:f=1):hJ f a.t=(a.t,0):=by subst h;unfold hJ;rw[if_neg (show ¬(1:Int)=32 by decide),if_neg (show ¬(1:Int)=33 by decide),if_neg (show ¬(1:Int)=34 by decide),if_neg (show ¬(1:Int)=35 by decide),if_neg (show ¬(1:Int)=36 by decide),if_pos rfl]
theorem mo_l{y:List PolV}{k:Bool}(h:f=2)(e:(bO y,k)=lP (some yO) ⟨[],true,[[]]⟩ a.t):hJ f a.t=(⟨bO a.B.A,k,bO y⟩,0):=by subst h;unfold hJ;rw[if_neg (show ¬(2:Int)=32 by decide),if_neg (show ¬(2:Int)=33 by decide),if_neg (show ¬(2:Int)=34 by decide),if_neg (show ¬(2:Int)=35 by decide),if_neg (show ¬(2:Int)=36 by decide),if_neg (show ¬(2:Int)=1 by decide),if_pos rfl,<-e];rfl
theorem mo_m(h1:f≠32)(h2:f≠33)(h3:f≠34)(h4:f≠35)(h5:f≠36)(h6:f≠1)(h7:f≠2):hJ f a.t=(⟨bO a.B.A,false,[]⟩,0):=by unfold hJ;rw[if_neg h1,if_neg h2,if_neg h3,if_neg h4,if_neg h5,if_neg h6,if_neg h7];rfl
end
theorem monT_spec(f:Int)(a:TyV)(ha:WfT a.t):cY prog 35 [l5 f,.agg #[k7 a.B,.bool a.known,k7 a.values]] [] [tyF a] (λ(x:TyV)=> .tuple #[tyC x,k9 (hJ f a.t).2]) (λ_=>[]) (λ(x:TyV)=>[tyF x,Fact.pure (x.t=(hJ f a.t).1)]):=by
 have hT:=dL;have X:=oV ha;have V:=wZ ha;generalize e:hJ f a.t=r;refine j8 func35 ntmps35 ?_;intro β hM;refine bP<|bB (cO a.B) (jK d7) ?_;refine cE a.B mT0 λQ=>bB (cO a.values) (jM e6)<|cE a.values mT0 λP=>?_;refine one ?_;refine j6 λZ=>?_;refine j4 rW λY=>?_;refine g16 ?_;refine gJ (λhc14=>?_) λhc14=>?_
 .refine g11 ?_;refine fA (λN=>?_) λN=>?_
  .refine g12 ?_;have hr:=e.symm.trans (mo_a asd m0);subst hr;exact rs2 (⟨a.B,a.known,a.values⟩:TyV) ⟨(bR (x:=⟨a.B,a.known,a.values⟩) e8 d9),j2 rfl,j1⟩
  refine g8 ?_;refine iK (λM=>?_) λM=>?_
  .refine g12 ?_;have hr:=e.symm.trans (mo_b asd m0 asd);subst hr;exact rs2 (⟨a.B,a.known,a.values⟩:TyV) ⟨(bR (x:=⟨a.B,a.known,a.values⟩) e8 d9),j2 rfl,j1⟩
  refine bP ?_;have W:=wf_one ha asd m0;refine g3 ?_;obtain⟨x3,d⟩:=gx a.values.A 0;refine ss (ixs 0) ?_;refine ss (gI d 0) ?_;refine bG (dG (Has.each d7 (j3 d))) λy=>?_;refine j5 func9 (bQs (p:=x3) y) ⟨(Has.each d7 (j3 d)),j1⟩ λ_=>?_;refine g4 ?_;refine iK (λL=>?_) λL=>?_
  .refine g12 ?_;have hr:=e.symm.trans (mo_c asd m0 asd d (by simpa using (asd:(!lC _)=true)));subst hr;exact rs2 (⟨a.B,a.known,a.values⟩:TyV) ⟨(bR (x:=⟨a.B,a.known,a.values⟩) e8 d9),j2 rfl,j1⟩
  refine g7 ?_;refine ss (ixs 0) ?_;refine ss (gI d 0) ?_;refine k6 (m:=x3) λU=>?_;refine dN (E:=bV) (xs:=[(x3:PolV)]) .head aa5<|bS .head<|bB (cL [(x3:PolV)]) (gL (Has.each d8 (j3 d))) ?_;refine j5 func32 (fG (some ⟨U,0,none⟩) (1) 1) j1 λ_=>?_;refine g7 ?_;have hr:=e.symm.trans (mo_d asd m0 asd d (by simpa using (asd:(!lC _)=false)));subst hr;exact rs2 (⟨⟨(some ⟨U,0,none⟩),1,[(x3:PolV)]⟩,false,⟨none,0,[]⟩⟩:TyV) ⟨(bR (x:=⟨⟨(some ⟨U,0,none⟩),1,[(x3:PolV)]⟩,false,⟨none,0,[]⟩⟩) (bZ d8 d7 (B0 1)) bN),j2 rfl,j1⟩
 refine g6 ?_;refine gJ (λK=>?_) λK=>?_
 .refine bP<|cK _ _ [k8,u0,u5,u6,A02,A06,A42,A75,A68,A04] cN o8 (.c1 .nil) bA.self ?_;refine g6 ?_;refine j5 func31 (lH (((a.B.A.length:Nat):Int))) j1 λ⟨A7,c8⟩=>?_;refine g2 ?_;refine k6 (m:=⟨A7,c8,bY (((a.B.A.length:Nat):Int))⟩) λR=>?_;refine dN (E:=bV) (xs:=[(⟨A7,c8,bY (((a.B.A.length:Nat):Int))⟩:PolV)]) .head aa5<|bS .head<|bB (cL [(⟨A7,c8,bY (((a.B.A.length:Nat):Int))⟩:PolV)]) (gL d8) ?_;refine g2 ?_;refine j5 func30 (kN (some ⟨R,0,none⟩) a.B.I (1) (a.B.A.length) 1 a.B.cap) j1 λ_=>?_;refine g10 ?_;obtain rfl:=e.symm.trans (mo_e asd);exact rs2 (⟨⟨(some ⟨R,0,none⟩),1,[(⟨A7,c8,bY (((a.B.A.length:Nat):Int))⟩:PolV)]⟩,true,a.B⟩:TyV) ⟨(bR (x:=⟨⟨(some ⟨R,0,none⟩),1,[(⟨A7,c8,bY (((a.B.A.length:Nat):Int))⟩:PolV)]⟩,true,a.B⟩) (bZ d8 d7 (B0 1)) f5),j2 rfl,j1⟩
 refine g6 ?_;refine gJ (λJ=>?_) λJ=>?_
 .refine g2 ?_;refine j5 func31 (lH (((1:Nat):Int))) j1 λ⟨A10,c11⟩=>?_;refine g13 ?_;refine cI (ι:=Nat×PolV) [(3,_),(4,_),(55,_),(56,_)] ⟨rfl,rfl,rfl,rfl,j1⟩ (λ⟨i,p⟩=>[(6,.slice p.I p.A.length p.cap),(57,.int .i64 (i:Nat))]) (λ_=>[]) (λ⟨i,p⟩=>[Fact.pure (i<=a.B.A.length/\bDy (bO a.B.A) p.A i),jU p]) (λ⟨i,p⟩=>a.B.A.length-i) (0,⟨A10,c11,bY (((1:Nat):Int))⟩) ⟨rfl,rfl,j1⟩ .nil ⟨j2 (⟨m0,bVr _⟩),d7,j1⟩ ?_;rintro⟨i,p⟩;dsimp only;refine bG d7 λb=>?_;refine g6 ?_;refine fA (λI=>?_) λI=>?_
  .refine g6 ?_;obtain⟨w,c⟩:=gx a.B.A i;refine ss (ixs i) ?_;refine ss (gI c 0) ?_;refine g12 ?_;refine bG (dG d8) λu=>bG (dG (Has.each e9 (j3 c))) λs=>?_;refine j5 func55 (mul_spec (p:=p) (q:=w) u s) ⟨d8,(Has.each e9 (j3 c)),j1⟩ λ⟨A14,c15⟩=>?_;refine g13 ?_;refine tL (λG=>?_) λG=>?_
   .refine g15 ?_;obtain rfl:=e.symm.trans (mo_f asd (rav_bad b.2 c asd));exact rs2 (⟨a.B,a.known,a.values⟩:TyV) ⟨(bR (x:=⟨a.B,a.known,a.values⟩) f7 e9),j2 rfl,j1⟩
   refine g5 ?_;refine inc (i+1) ?_;refine g3 ?_;exact bk2 (i+1,⟨A14,c15,(nA p.A w.A).1⟩) ⟨j2 (⟨by dsimp only;omega,rav_step b.2 c ae9⟩),d7,j1⟩
  refine g7 ?_;refine k6 (m:=p) λO=>?_;refine dN (E:=bV) (xs:=[(p:PolV)]) .head aa5<|bS .head<|bB (cL [(p:PolV)]) (gL d9) ?_;refine g13 ?_;have hr:=e.symm.trans (mo_g asd (rav_end b.2 m0));subst hr;exact rs2 (⟨⟨(some ⟨O,0,none⟩),1,[(p:PolV)]⟩,a.known,a.values⟩:TyV) ⟨(bR (x:=⟨⟨(some ⟨O,0,none⟩),1,[(p:PolV)]⟩,a.known,a.values⟩) (bZ d8 d7 (B0 1)) f4),j2 rfl,j1⟩
 refine g6 ?_;refine gJ (λD=>?_) λD=>?_
 .refine g8 ?_;refine fA (λC=>?_) λC=>?_
  .refine g3 ?_;refine j5 func56 (bQt a.values m0) ⟨d9,j1⟩ λ⟨A19,c20⟩=>?_;refine g13 ?_;have hr:=e.symm.trans (mo_h asd m0);subst hr;exact rs2 (⟨a.B,a.known,⟨A19,c20,a.values.A.reverse⟩⟩:TyV) ⟨(bR (x:=⟨a.B,a.known,⟨A19,c20,a.values.A.reverse⟩⟩) e9 d7),j2 rfl,j1⟩
  refine g11 ?_;have hr:=e.symm.trans (mo_i asd m0);subst hr;exact rs2 (⟨a.B,a.known,a.values⟩:TyV) ⟨(bR (x:=⟨a.B,a.known,a.values⟩) e8 d9),j2 rfl,j1⟩
 refine g6 ?_;refine gJ (λB=>?_) λB=>?_
 .refine g3 ?_;refine j5 func56 (bQt a.B m0) ⟨e8,j1⟩ λ⟨A21,c22⟩=>?_;refine g13 ?_;obtain rfl:=e.symm.trans (mo_j asd);exact rs2 (⟨⟨A21,c22,a.B.A.reverse⟩,a.known,a.values⟩:TyV) ⟨(bR (x:=⟨⟨A21,c22,a.B.A.reverse⟩,a.known,a.values⟩) d7 e6),j2 rfl,j1⟩
 refine g6 ?_;refine gJ (λA=>?_) λA=>?_
 .refine g11 ?_;obtain rfl:=e.symm.trans (mo_k asd);exact rs2 (⟨a.B,a.known,a.values⟩:TyV) ⟨(bR (x:=⟨a.B,a.known,a.values⟩) e8 d9),j2 rfl,j1⟩
 refine g6 ?_;refine gJ (λz=>?_) λz=>?_
 .refine kP _ _ (.two 0 2 (.two 1 2 (.op 2 (.op 3 (.fl 4 (.fl 5 (.fl 6 (.fl 7 (.op 8 (.fl 9 (.op 10 .nil))))))))) (.op 1 (.op 3 (.fl 4 (.fl 5 (.fl 6 (.fl 7 (.op 8 (.fl 9 (.op 10 .nil)))))))))) (.op 0 (.op 1 (.op 3 (.fl 4 (.fl 5 (.fl 6 (.fl 7 (.op 8 (.fl 9 (.op 10 .nil))))))))))) cN o8 (.c0 .nil) bA.self ?_;refine gO (o:=_) (o':=_) rfl rfl ?_ ?_
  .refine k6 (m:=⟨none,0,[]⟩) λg=>?_;refine dN (E:=bV) (xs:=[(⟨none,0,[]⟩:PolV)]) .head aa5<|bS .head<|bB (cL [(⟨none,0,[]⟩:PolV)]) (gL bIp) ?_;refine one ?_;refine gO (o:=_) (o':=_) rfl rfl ?_ ?_
   .refine j5 func30 (kN none (some ⟨g,0,none⟩) (0) (1) 0 1) j1 λ_=>?_;refine g5 ?_;refine j5 func57 (lE 58 yO (cB func58 rfl rfl) bUu (⟨⟨none,0,[]⟩,true,⟨(some ⟨g,0,none⟩),1,[(⟨none,0,[]⟩:PolV)]⟩⟩:TyV) a (bHo ha)) ⟨(bR (x:=⟨⟨none,0,[]⟩,true,⟨(some ⟨g,0,none⟩),1,[(⟨none,0,[]⟩:PolV)]⟩⟩) bN (bZ d8 d7 (B0 1))),f5,j1⟩ λn=>?_;refine bG d8 λhE=>?_;refine g23 ?_;obtain rfl:=e.symm.trans (mo_l asd hE);exact rs2 (⟨a.B,n.k,n.l⟩:TyV) ⟨(bR (x:=⟨a.B,n.k,n.l⟩) f7 d7),j2 rfl,j1⟩
   refine g3 ?_;refine j5 func30 (kN none (some ⟨g,0,none⟩) (0) (1) 0 1) j1 λ_=>?_;refine g2 ?_;refine j5 func57 (lE 58 yO (cB func58 rfl rfl) bUu (⟨⟨none,0,[]⟩,true,⟨(some ⟨g,0,none⟩),1,[(⟨none,0,[]⟩:PolV)]⟩⟩:TyV) a (bHo ha)) ⟨(bR (x:=⟨⟨none,0,[]⟩,true,⟨(some ⟨g,0,none⟩),1,[(⟨none,0,[]⟩:PolV)]⟩⟩) bN (bZ d8 d7 (B0 1))),f5,j1⟩ λj=>?_;refine bG d8 λhE=>?_;refine g23 ?_;obtain rfl:=e.symm.trans (mo_l asd hE);exact rs2 (⟨a.B,j.k,j.l⟩:TyV) ⟨(bR (x:=⟨a.B,j.k,j.l⟩) f7 d7),j2 rfl,j1⟩
  refine g3 ?_;refine k6 (m:=⟨none,0,[]⟩) λv=>?_;refine dN (E:=bV) (xs:=[(⟨none,0,[]⟩:PolV)]) .head aa5<|bS .head<|bB (cL [(⟨none,0,[]⟩:PolV)]) (gL bIp) ?_;refine g2 ?_;refine j5 func30 (kN none (some ⟨v,0,none⟩) (0) (1) 0 1) j1 λ_=>?_;refine g2 ?_;refine j5 func57 (lE 58 yO (cB func58 rfl rfl) bUu (⟨⟨none,0,[]⟩,true,⟨(some ⟨v,0,none⟩),1,[(⟨none,0,[]⟩:PolV)]⟩⟩:TyV) a (bHo ha)) ⟨(bR (x:=⟨⟨none,0,[]⟩,true,⟨(some ⟨v,0,none⟩),1,[(⟨none,0,[]⟩:PolV)]⟩⟩) bN (bZ d8 d7 (B0 1))),f5,j1⟩ λh=>?_;refine bG d8 λhE=>?_;refine g23 ?_;obtain rfl:=e.symm.trans (mo_l asd hE);exact rs2 (⟨a.B,h.k,h.l⟩:TyV) ⟨(bR (x:=⟨a.B,h.k,h.l⟩) f7 d7),j2 rfl,j1⟩
 refine g4 ?_;refine j5 func32 (fG a.B.I (a.B.A.length) a.B.cap) j1 λ_=>?_;refine g7 ?_;obtain rfl:=e.symm.trans (mo_m asd asd asd asd asd asd asd);exact rs2 (⟨a.B,false,⟨none,0,[]⟩⟩:TyV) ⟨(bR (x:=⟨a.B,false,⟨none,0,[]⟩⟩) e8 bN),j2 rfl,j1⟩
theorem numT_inj{j k:Nat}(hj:j<=4)(hk:k<=4)(h:bY (j:Nat)=bY (k:Nat)):j=k:=by
 have e: ∀n:Nat,n<=4->bY (n:Nat)=if n=0 then []else [num0 n]:=λn hn=>by
  unfold bY gV
  by_cases h0:n=0
  .subst h0;rfl
  .rw[if_neg m0,if_neg m0,if_neg h0]
 rw[e j hj,e k hk]at h;split at h<;>split at h<;>simp[num0]at h<;>omega
theorem pZ{a b:TyP}(ha:WfT a)(hb:WfT b)(h:a.B=[]\/b.B=[]\/a.B=b.B):bBr a b where
 la:=B1 (sS ha) m9
 lb:=B1 (sS hb) m9
 one:=λk _ e=>bDn ha k e
 two:=λ_ k e=>bDn hb k e
 same:=λk l e g=>by
  rcases h with h|h|h
  .exact absurd h e
  .exact absurd h g
  .rcases (ha.kn k).2 with x|x
   .exact absurd x.1 e
   .rcases (hb.kn l).2 with y|y
    .exact absurd y.1 g
    .rw[x,y]at h;exact numT_inj (sS ha) (sS hb) (List.cons.inj h).1
theorem bNy{f:Int}(h1:f≠1)(h2:f≠2)(h3:f≠3):rT f=none:=by unfold rT;rw[if_neg h1,if_neg h2,if_neg h3]
theorem op_1{f:Int}(h:f=1):rT f=some addO:=by rw[h];rfl
theorem op_2{f:Int}(h:f=2):rT f=some yO:=by rw[h];rfl
theorem op_3{f:Int}(h:f=3):rT f=some nA:=by rw[h];rfl
section
variable {f : Int} {a b : TyV}
theorem dy_a(h:f=37):pO f a.t b.t=zC a.t b.t:=by rw[h];rfl
theorem dy_b(h:f=38):pO f a.t b.t=mD true a.t b.t:=by rw[h];rfl
theorem dy_c(h:f=39):pO f a.t b.t=mD false a.t b.t:=by rw[h];rfl
theorem dy_d(h:f=40):pO f a.t b.t=zQ a.t b.t:=by rw[h];rfl
theorem dy_e(h1:f≠37)(h2:f≠38)(h3:f≠39)(h4:f≠40)(ha:0<a.B.A.length)(hb:0<b.B.A.length)(h:bO a.B.A≠bO b.B.A):pO f a.t b.t=(⟨bO a.B.A,false,[]⟩,91):=by unfold pO;rw[if_neg h1,if_neg h2,if_neg h3,if_neg h4];exact if_pos ⟨gE ha,gE hb,h⟩
theorem dy_f{op:Option rU}{y:List PolV}{k:Bool}(ho:rT f=op)(h1:f≠37)(h2:f≠38)(h3:f≠39)(h4:f≠40)(ha:a.B.A.length=0)(e:(bO y,k)=lP op a.t b.t):pO f a.t b.t=(⟨bO b.B.A,k,bO y⟩,0):=by unfold pO;rw[if_neg h1,if_neg h2,if_neg h3,if_neg h4,if_neg (show ¬(a.t.B≠[]/\b.t.B≠[]/\a.t.B≠b.t.B)from λh=>h.1 (dW ha)),if_pos (show a.t.B=[]from dW ha),ho,<-e];rfl
theorem dy_g{op:Option rU}{y:List PolV}{k:Bool}(ho:rT f=op)(h1:f≠37)(h2:f≠38)(h3:f≠39)(h4:f≠40)(ha:0<a.B.A.length)(h:b.B.A.length=0\/bO a.B.A=bO b.B.A)(e:(bO y,k)=lP op a.t b.t):pO f a.t b.t=(⟨bO a.B.A,k,bO y⟩,0):=by unfold pO;rw[if_neg h1,if_neg h2,if_neg h3,if_neg h4,if_neg (show ¬(a.t.B≠[]/\b.t.B≠[]/\a.t.B≠b.t.B)from λg=>h.elim (λh=>g.2.1 (dW h)) (λh=>g.2.2 h)),if_neg (show ¬a.t.B=[]from gE ha),ho,<-e];rfl
end
theorem dyT_spec(f:Int)(a b:TyV)(ha:WfT a.t)(hb:WfT b.t):cY prog 36 [l5 f,.agg #[k7 a.B,.bool a.known,k7 a.values],.agg #[k7 b.B,.bool b.known,k7 b.values]] [] [tyF a,tyF b] (λ(x:TyV)=> .tuple #[tyC x,k9 (pO f a.t b.t).2]) (λ_=>[]) (λ(x:TyV)=>[tyF x,Fact.pure (x.t=(pO f a.t b.t).1)]):=by
 have hT:=dL;have Q:=oV ha;have O:=wZ ha;have P:=oV hb;have N:=wZ hb;generalize g:pO f a.t b.t=r;refine j8 func36 ntmps36 ?_;intro β hM;refine bP<|bB (cO a.B) (jK d7) ?_;refine cE a.B mT0 λI=>bB (cO a.values) (jM e6)<|cE a.values mT0 λG=>bB (cO b.B) (jK f4)<|cE b.B mT0 λhc_bs=>bB (cO b.values) (jM f9)<|cE b.values mT0 λE=>?_;refine one ?_;refine j6 λW=>?_;refine j6 λV=>?_;refine j4 rW λU=>?_;refine g16 ?_;refine gJ (λhc11=>?_) λhc11=>?_
 .refine g4 ?_;refine j5 func59 (rhoT_spec a b ha hb) ⟨i7,j0,j1⟩ λM=>?_;refine bG d8 λhy=>?_;refine g9 ?_;obtain rfl:=g.symm.trans (dy_a asd);exact rs2 (M:TyV) ⟨d7,j2 hy,j1⟩
 refine g7 ?_;refine gJ (λz=>?_) λz=>?_
 .refine bF (t':=true) asd ?_;refine g7 ?_;refine bF (t':=true) (by rw[z];rfl) ?_;refine g2 ?_;refine j5 func60 (bSp true a b ha hb) ⟨i7,j0,j1⟩ λL=>?_;refine bG d8 λhy=>?_;refine g9 ?_;obtain rfl:=g.symm.trans (dy_b asd);exact rs2 (L:TyV) ⟨d7,j2 hy,j1⟩
 refine g5 ?_;refine gJ (λh=>?_) λh=>?_
 .refine bF (t':=true) asd ?_;refine g4 ?_;refine bF (t':=false) (by rw[h];rfl) ?_;refine g2 ?_;refine j5 func60 (bSp false a b ha hb) ⟨i7,j0,j1⟩ λK=>?_;refine bG d8 λhy=>?_;refine g9 ?_;obtain rfl:=g.symm.trans (dy_c asd);exact rs2 (K:TyV) ⟨d7,j2 hy,j1⟩
 refine g6 ?_;refine gJ (λD=>?_) λD=>?_
 .refine g4 ?_;refine j5 func61 (catT_spec a b ha hb) ⟨i7,j0,j1⟩ λJ=>?_;refine bG d8 λhy=>?_;refine g9 ?_;obtain rfl:=g.symm.trans (dy_d asd);exact rs2 (J:TyV) ⟨d7,j2 hy,j1⟩
 refine g7 ?_;refine j5 func32 (fG a.B.I (a.B.A.length) a.B.cap) j1 λ_=>?_;refine j4 rW λR=>?_;refine g14 ?_;refine gJ (λC=>?_) λC=>?_
 .refine g3 ?_;refine j5 func32 (fG b.B.I (b.B.A.length) b.B.cap) j1 λ_=>?_;refine g22 ?_;refine gJ (λe=>?_) λe=>?_
  .refine g10 ?_;refine j5 func57 (lE 63 addO (cB func63 rfl rfl) addFn a b (pZ ha hb (.inl (dW m0)))) ⟨i7,j0,j1⟩ λy=>?_;refine bG d8 λhE=>?_;refine g17 ?_;have hr:=g.symm.trans (dy_f (op_1 asd) asd asd asd asd m0 hE);subst hr;exact rs2 (⟨b.B,y.k,y.l⟩:TyV) ⟨(bR (x:=⟨b.B,y.k,y.l⟩) f4 d7),j2 rfl,j1⟩
  refine g6 ?_;refine gJ (λd=>?_) λd=>?_
  .refine g10 ?_;refine j5 func57 (lE 58 yO (cB func58 rfl rfl) bUu a b (pZ ha hb (.inl (dW m0)))) ⟨i7,j0,j1⟩ λw=>?_;refine bG d8 λhE=>?_;refine g17 ?_;have hr:=g.symm.trans (dy_f (op_2 asd) asd asd asd asd m0 hE);subst hr;exact rs2 (⟨b.B,w.k,w.l⟩:TyV) ⟨(bR (x:=⟨b.B,w.k,w.l⟩) f4 d7),j2 rfl,j1⟩
  refine g6 ?_;refine gJ (λc=>?_) λc=>?_
  .refine g10 ?_;refine j5 func57 (lE 55 nA (cB func55 rfl rfl) mulFn a b (pZ ha hb (.inl (dW m0)))) ⟨i7,j0,j1⟩ λv=>?_;refine bG d8 λhE=>?_;refine g17 ?_;have hr:=g.symm.trans (dy_f (op_3 asd) asd asd asd asd m0 hE);subst hr;exact rs2 (⟨b.B,v.k,v.l⟩:TyV) ⟨(bR (x:=⟨b.B,v.k,v.l⟩) f4 d7),j2 rfl,j1⟩
  refine g8 ?_;refine j5 func57 (bEz a b) j1 λu=>?_;refine bG d8 λhE=>?_;refine g17 ?_;have hr:=g.symm.trans (dy_f (bNy asd asd asd) asd asd asd asd m0 hE);subst hr;exact rs2 (⟨b.B,u.k,u.l⟩:TyV) ⟨(bR (x:=⟨b.B,u.k,u.l⟩) f4 d7),j2 rfl,j1⟩
 refine g7 ?_;refine lK (λA=>?_) λA=>?_
 .refine g4 ?_;refine j5 func62 (uY a.B.I b.B.I a.B.cap b.B.cap a.B.A b.B.A m0) ⟨f9,f7,e7,e6,j1⟩ λ_=>?_;refine g5 ?_;refine iK (λB=>?_) λB=>?_
  .refine g10 ?_;have hr:=g.symm.trans (dy_e asd asd asd asd m0 m0 (bUn asd));subst hr;exact rs2 (⟨a.B,false,⟨none,0,[]⟩⟩:TyV) ⟨(bR (x:=⟨a.B,false,⟨none,0,[]⟩⟩) i6 bN),j2 rfl,j1⟩
  refine g21 ?_;refine gJ (λe=>?_) λe=>?_
  .refine g10 ?_;refine j5 func57 (lE 63 addO (cB func63 rfl rfl) addFn a b (pZ ha hb (.inr (.inr (rH asd))))) ⟨i7,j0,j1⟩ λs=>?_;refine bG d8 λhE=>?_;refine g17 ?_;have hr:=g.symm.trans (dy_g (op_1 asd) asd asd asd asd m0 (.inr (rH asd)) hE);subst hr;exact rs2 (⟨a.B,s.k,s.l⟩:TyV) ⟨(bR (x:=⟨a.B,s.k,s.l⟩) j0 d7),j2 rfl,j1⟩
  refine g6 ?_;refine gJ (λd=>?_) λd=>?_
  .refine g10 ?_;refine j5 func57 (lE 58 yO (cB func58 rfl rfl) bUu a b (pZ ha hb (.inr (.inr (rH asd))))) ⟨i7,j0,j1⟩ λq=>?_;refine bG d8 λhE=>?_;refine g17 ?_;have hr:=g.symm.trans (dy_g (op_2 asd) asd asd asd asd m0 (.inr (rH asd)) hE);subst hr;exact rs2 (⟨a.B,q.k,q.l⟩:TyV) ⟨(bR (x:=⟨a.B,q.k,q.l⟩) j0 d7),j2 rfl,j1⟩
  refine g6 ?_;refine gJ (λc=>?_) λc=>?_
  .refine g10 ?_;refine j5 func57 (lE 55 nA (cB func55 rfl rfl) mulFn a b (pZ ha hb (.inr (.inr (rH asd))))) ⟨i7,j0,j1⟩ λp=>?_;refine bG d8 λhE=>?_;refine g17 ?_;have hr:=g.symm.trans (dy_g (op_3 asd) asd asd asd asd m0 (.inr (rH asd)) hE);subst hr;exact rs2 (⟨a.B,p.k,p.l⟩:TyV) ⟨(bR (x:=⟨a.B,p.k,p.l⟩) j0 d7),j2 rfl,j1⟩
  refine g8 ?_;refine j5 func57 (bEz a b) j1 λo=>?_;refine bG d8 λhE=>?_;refine g17 ?_;have hr:=g.symm.trans (dy_g (bNy asd asd asd) asd asd asd asd m0 (.inr (rH asd)) hE);subst hr;exact rs2 (⟨a.B,o.k,o.l⟩:TyV) ⟨(bR (x:=⟨a.B,o.k,o.l⟩) j0 d7),j2 rfl,j1⟩
 refine g32 ?_;refine gJ (λe=>?_) λe=>?_
 .refine g10 ?_;refine j5 func57 (lE 63 addO (cB func63 rfl rfl) addFn a b (pZ ha hb (.inr (.inl (dW m0))))) ⟨i7,j0,j1⟩ λn=>?_;refine bG d8 λhE=>?_;refine g17 ?_;have hr:=g.symm.trans (dy_g (op_1 asd) asd asd asd asd m0 (.inl m0) hE);subst hr;exact rs2 (⟨a.B,n.k,n.l⟩:TyV) ⟨(bR (x:=⟨a.B,n.k,n.l⟩) j0 d7),j2 rfl,j1⟩
 refine g6 ?_;refine gJ (λd=>?_) λd=>?_
 .refine g10 ?_;refine j5 func57 (lE 58 yO (cB func58 rfl rfl) bUu a b (pZ ha hb (.inr (.inl (dW m0))))) ⟨i7,j0,j1⟩ λm=>?_;refine bG d8 λhE=>?_;refine g17 ?_;have hr:=g.symm.trans (dy_g (op_2 asd) asd asd asd asd m0 (.inl m0) hE);subst hr;exact rs2 (⟨a.B,m.k,m.l⟩:TyV) ⟨(bR (x:=⟨a.B,m.k,m.l⟩) j0 d7),j2 rfl,j1⟩
 refine g6 ?_;refine gJ (λc=>?_) λc=>?_
 .refine g10 ?_;refine j5 func57 (lE 55 nA (cB func55 rfl rfl) mulFn a b (pZ ha hb (.inr (.inl (dW m0))))) ⟨i7,j0,j1⟩ λj=>?_;refine bG d8 λhE=>?_;refine g17 ?_;have hr:=g.symm.trans (dy_g (op_3 asd) asd asd asd asd m0 (.inl m0) hE);subst hr;exact rs2 (⟨a.B,j.k,j.l⟩:TyV) ⟨(bR (x:=⟨a.B,j.k,j.l⟩) j0 d7),j2 rfl,j1⟩
 refine g8 ?_;refine j5 func57 (bEz a b) j1 λi=>?_;refine bG d8 λhE=>?_;refine g17 ?_;have hr:=g.symm.trans (dy_g (bNy asd asd asd) asd asd asd asd m0 (.inl m0) hE);subst hr;exact rs2 (⟨a.B,i.k,i.l⟩:TyV) ⟨(bR (x:=⟨a.B,i.k,i.l⟩) j0 d7),j2 rfl,j1⟩
section
variable {P : Program} {β : fR} {n : Nat} {Γ : Env} {H : List bL} {F : List Fact} {Q : Exit -> Act -> World -> Prop} {K : Act -> World -> Prop}
theorem Perm.last{A B:List bL}:(A++B).Perm (B++A):=List.perm_append_comm
theorem all_set{xs:List (Sl Int)}{x y:Sl Int}{i:Nat}(h:xs[i]?=some x)(h1:y.I=x.I)(h2:y.cap=x.cap)(h3:y.A.length=x.A.length):bYg.all (xs.set i y)=bYg.all xs:=by
 have e:bYg.cells y=bYg.cells x:=by show [V7 y.I y.A.length y.cap]=[V7 x.I x.A.length x.cap];rw[h1,h2,h3]
 unfold Flat.all;rw[X0,X0,List.map_set,e]
 congr 1
 have hx:(xs.map bYg.cells)[i]?=some (bYg.cells x):=by rw[K1,h];rfl
 obtain⟨a,b⟩:=F3.1 hx;rw[<-b];exact List.set_getElem_self a
end
def qI:List fE->Nat->Option Nat
 |[],n=>some n
 |x::r,n=>if fI x<=n/\1<=x.H/\x.H<=7/\(x.H=1->x.nums≠[]/\x.nums.length<=65536)then qI r (n-fI x+1)else none
theorem vA{x:fE}(h:x.H=1\/x.H=2):fI x=0:=by unfold fI;rw[if_neg m0,if_neg m0]
theorem uL{x:fE}(h:x.H=4\/x.H=7):fI x=2:=by unfold fI;rw[if_neg m0,if_pos h]
theorem qQ{x:fE}(h:x.H=3\/x.H=5\/x.H=6):fI x=1:=by unfold fI;rw[if_pos h]
theorem step_depth{st st':List gB}{x:fE}(h:jO st x=some st'):fI x<=st.length/\st'.length=st.length-fI x+1/\1<=x.H/\x.H<=7/\(x.H=1->x.nums≠[]/\x.nums.length<=65536):=by
 unfold jO at h;split at h
 .rename_i hh;rw[vA hh]
  cases ho:operandS x with
  |none=>simp[ho]at h
  |some p=>
   simp only[ho,Option.map_some,Option.some.injEq]at h;subst h;refine⟨m0,n9,m0,m0,λh1=>?_⟩;unfold operandS at ho;rw[if_neg m0]at ho;split at ho
   .cases ho
   .rename_i b;simp only[not_or,ne_eq,Classical.not_not,Nat.not_lt]at b;exact⟨b.2.2.1,m0⟩
 .split at h
  .cases h
  .rename_i a c;simp only[not_or,Int.not_lt]at c a;unfold rK at h
   by_cases h2:x.H=4\/x.H=7
   .have e:uS x.H=true:=by unfold uS;rcases h2 with h2|h2<;>rw[h2]<;>rfl
    rw[if_pos e]at h;rw[uL h2]
    match st,h with
    |p::q::r,h=>
     simp only[Option.some.injEq]at h;subst h;exact⟨n9,n9,m0,m0,λh1=>by omega⟩
    |[p],h=>cases h
    |[],h=>cases h
   .have e:uS x.H=false:=by unfold uS;simp only[Bool.or_eq_false_iff,beq_eq_false_iff_ne,ne_eq];omega
    rw[if_neg (by rw[e];simp)]at h;rw[qQ m0]
    match st,h with
    |p::r,h=>
     simp only[Option.some.injEq]at h;subst h;exact⟨n9,n9,m0,m0,λh1=>by omega⟩
    |[],h=>cases h
theorem bLs: ∀{l:List fE} {st st':List gB},gK l st=some st'->qI l st.length=some st'.length
 |[],st,st',h=>by
  simp only[gK,Option.some.injEq]at h;subst h;rfl
 |x::l,st,st',h=>by
  rw[gK]at h
  cases h1:jO st x with
  |none=>rw[h1]at h;cases h
  |some s1=>
   rw[h1]at h;obtain⟨a,b,c,d,e⟩:=step_depth h1;rw[qI,if_pos ⟨a,c,d,e⟩,<-b];exact bLs h
theorem bSm{l:List fE}{m:Nat}{t:Bs}(h:gT l m=some t):qI l 0=some 1:=by
 unfold gT at h;split at h
 .cases h
 .split at h
  .rename_i hq;exact bLs (st:=[]) hq
  .cases h
theorem bMv: ∀{ls:List nC} {o o':Bs},gN ls o=(o',true)-> ∀l∈ls,qI l.K 0=some 1
 |[],_,_,_,l,a=>by simp at a
 |[m],o,o',h,l,a=>by
  rw[K7.1 a];simp only[gN]at h
  cases hx:gT m.K 255 with
  |none=>rw[hx]at h;simp at h
  |some t=>exact bSm hx
 |m::n::ls,o,o',h,l,a=>by
  have b:(match gT m.K 254 with
    |none=>(o,false)
    |some t=>if dQ m.name=false then (o,false)else gN (n::ls) (o++(((m.name++[58,32])++t)++[10])))=(o',true):=h
  cases hx:gT m.K 254 with
  |none=>rw[hx]at b;simp at b
  |some t=>
   rw[hx]at b;simp only at b;split at b
   .simp at b
   .rcases List.mem_cons.1 a with rfl|a
    .exact bSm hx
    .exact bMv b l a
theorem bBq{p:jB}(h:(dT p).2=true): ∀l∈p.G,qI l.K 0=some 1:=by
 unfold dT at h;split at h
 .cases h
 .cases hi:nZ p.C []with
  |mk o b=>
   rw[hi]at h
   cases b with
   |false=>cases h
   |true=>exact bMv (o':=(gN p.G o).1) (Prod.ext rfl h)
def bGm (N:bDv):Prop:= ∀p∈N,rightA p.2=true
theorem look_mem{k:Bs}{a:Arr}: ∀{N:bDv},look k N=some a-> ∃p∈N,p.2=a
 |[],h=>by cases h
 |p::r,h=>by
  unfold look at h;split at h
  .injection h with h
   exact⟨p,E8 ..,h⟩
  .obtain⟨q,hq,e⟩:=look_mem h;exact⟨q,List.mem_cons_of_mem _ hq,e⟩
theorem bGm.look{N:bDv}(h:bGm N){k:Bs}{a:Arr}(hk:look k N=some a):rightA a=true:=by obtain⟨p,b,e⟩:=look_mem hk;rw[<-e];exact h p b
theorem bGm.cons{N:bDv}(h:bGm N){k:Bs}{a:Arr}(ha:rightA a=true):bGm ((k,a)::N):=λp b=>by
 rcases List.mem_cons.1 b with rfl|b
 .exact ha
 .exact h p b
def nUnused:Bs:=[117,110,117,115,101,100]
def SameBut(N' N:bDv):Prop:= ∀k,k≠nUnused->look k N'=look k N
theorem SameBut.cons{N' N:bDv}(h:SameBut N' N)(s:Bs)(a:Arr):SameBut ((s,a)::N') ((s,a)::N):=λk b=>by
 unfold look;split
 .rfl
 .exact h k b
theorem bGi(k k':Bs)(v:Value): ∀kv:KVS,pT k (pX k' v kv)=if k==k' then some v else pT k kv
 |[]=>by
  unfold pX pT;rfl
 |p::r=>by
  have b:=bGi k k' v r;unfold pX
  by_cases a:k'=p.1
  .rw[if_pos (beq_iff_eq.2 a)]
   by_cases h:k=k'
   .rw[if_pos (beq_iff_eq.2 h),pT,if_pos (beq_iff_eq.2 h)]
   .rw[if_neg ad7,pT,if_neg ad7,pT,if_neg (by simpa[a]using λe=>h (e.trans a.symm))]
  .rw[if_neg (by simpa using a)]
   by_cases h:k=p.1
   .have c: ¬k=k':=λe=>a (e.symm.trans h);rw[if_neg (by simpa using c),pT,if_pos (beq_iff_eq.2 h),pT,if_pos (beq_iff_eq.2 h)]
   .rw[pT,if_neg ad7,b];split
    .rfl
    .rw[pT,if_neg ad7]
def SeenR (kv:KVS)(out:List Bs):Prop:= ∀k,(pT k kv).getD (.bool false)= .bool (k==[] || out.contains k)
theorem seen_start:SeenR (pX [] (.bool true) []) []:=λk=>by
 rw[bGi];cases a:k==[]
 .rfl
 .rfl
theorem seen_add{kv:KVS}{out:List Bs}(h:SeenR kv out)(s:Bs):SeenR (pX s (.bool true) kv) (out++[s]):=λk=>by
 rw[bGi];cases b:k==s
 .have a: ¬k=s:=by simpa using b
  have e:(out++[s]).contains k=out.contains k:=by simp[a]
  rw[e];exact h k
 .have a:k=s:=by simpa using b
  subst a;simp
theorem zeroB(w:World):(zeroValue 4).run prog w= .ok (.bool false) w:=m7
theorem mapSB:prog.underlying 83=some (.map 9 4):=m7
def xD (p:jB)(rest:List oH)(out:List Bs)(kv:KVS):Prop:=SeenR kv out/\iL rest out=dO p/\out.length+rest.length<=8000000000000
section
variable {p : jB} {l : List iH} {x : iH} {ds R : List oH} {d : oH} {out : List Bs} {kv : KVS} {i j : Nat}
theorem va_start(h:(dZ p.C).length<=8000000000000):xD p (dZ (p.C.drop 0)) [] (pX [] (.bool true) []):=⟨seen_start,rfl,by simpa using h⟩
theorem va_in(h:xD p (dZ (l.drop i)) out kv)(hx:l[i]?=some x):xD p (x.B.drop 0++dZ (l.drop (i+1))) out kv:=by rw[kR hx]at h;exact h
theorem va_skip(h:xD p (ds.drop j++R) out kv)(hd:ds[j]?=some d)(hs:(d.name==[] || out.contains d.name)=true):xD p (ds.drop (j+1)++R) out kv:=by rw[kR hd,R0]at h;obtain⟨a,b,c⟩:=h;refine⟨a,?_,by simp at c⊢;omega⟩;rw[iL,if_pos (by simpa using hs)]at b;exact b
theorem va_add(h:xD p (ds.drop j++R) out kv)(hd:ds[j]?=some d)(hs:(d.name==[] || out.contains d.name)=false):xD p (ds.drop (j+1)++R) (out++[d.name]) (pX d.name (.bool true) kv):=by rw[kR hd,R0]at h;obtain⟨a,b,c⟩:=h;refine⟨seen_add a _,?_,by simp at c⊢;omega⟩;rw[iL,if_neg (by simpa using hs)]at b;exact b
theorem va_len(h:xD p (ds.drop j++R) out kv)(hd:ds[j]?=some d):out.length+1<=8000000000000:=by rw[kR hd,R0]at h;have:=h.2.2;simp at this;omega
theorem va_out(h:xD p (ds.drop j++R) out kv)(hj:ds.length<=j):xD p R out kv:=by rw[pK hj]at h;exact h
theorem va_end(h:xD p (dZ (l.drop i)) out kv)(hi:l.length<=i):dO p=out:=by rw[pK hi]at h;exact h.2.1.symm
end
theorem bWu(P:ProgV)(hl1:P.C.A.length<=140737488355328)(hs: ∀x∈P.C.A,x.B.A.length<=140737488355328)(hTT:(dZ P.pr.C).length<=8000000000000):cY prog 13 [.agg #[k7 P.C,k7 P.G]] [] [jN.sl (k7 P.C) P.C.A,iY P.C.A] (λ(x:Option Addr×Nat)=> .slice x.1 (dO P.pr).length x.2) (λ_=>[]) (λ(x:Option Addr×Nat)=>[lN.sl (.slice x.1 (dO P.pr).length x.2) (dO P.pr),Fact.pure ((dO P.pr).length<=x.2)]):=by
 have hT:=bHp;refine j8 func13 ntmps13 ?_;intro β hM;refine g2 ?_;refine j6 λs=>?_;refine g10 ?_;refine bMt rfl rfl rfl rfl λl=>?_;refine pP .head rfl (.inr rfl) rfl mapSB underlying9 rfl rfl rfl ?_;refine g6 ?_;refine bQ (t:=9) lN ?_;refine g8 ?_;refine cI (ι:=Nat×KVS×List Bs×Option Addr×Nat) [(4,_),(12,_),(13,_)] ⟨rfl,rfl,rfl,j1⟩ (λ⟨i,kv,vs,A1,c1⟩=>[(3,.slice A1 vs.length c1),(14,.int .i64 (i:Nat))]) (λ⟨i,kv,vs,A1,c1⟩=>[vT l kv,lN.row (.slice A1 vs.length c1) 9 vs]) (λ⟨i,kv,vs,A1,c1⟩=>[Fact.pure (i<=P.C.A.length/\xD P.pr (dZ (P.pr.C.drop i)) vs kv)]) (λ⟨i,kv,vs,A1,c1⟩=>P.C.A.length-i) (0,pX [] (.bool true) [],[],none,0) ⟨rfl,rfl,j1⟩ (.c1 (.c0 .nil)) ⟨j2 (⟨m0,va_start hTT⟩),j1⟩ ?_;rintro⟨i,kv,vs,A1,c1⟩;dsimp only;refine bG d7 λb=>?_;refine g6 ?_;refine fA (λhc15=>?_) λhc15=>?_
 .refine g6 ?_;obtain⟨x3,c⟩:=gx P.C.A i;refine ss (ixs i) ?_;refine ss (oZ c 0) ?_;refine j4 mC λr=>?_;refine g4 ?_;have hx0:P.pr.C[i]?=some x3.inp:=mK c;have n:=hs x3 (j3 c);refine bB (nG x3) (Has.each d9 (j3 c)) ?_;refine g8 ?_;refine cI (ι:=Nat×KVS×List Bs×Option Addr×Nat) [(4,_),(12,_),(13,_),(14,_),(19,_),(20,_)] ⟨rfl,rfl,rfl,rfl,rfl,rfl,j1⟩ (λ⟨j,kv2,vs2,A2,c2⟩=>[(3,.slice A2 vs2.length c2),(21,.int .i64 (j:Nat))]) (λ⟨j,kv2,vs2,A2,c2⟩=>[vT l kv2,lN.row (.slice A2 vs2.length c2) 9 vs2]) (λ⟨j,kv2,vs2,A2,c2⟩=>[Fact.pure (j<=x3.B.A.length/\xD P.pr (x3.inp.B.drop j++dZ (P.pr.C.drop (i+1))) vs2 kv2)]) (λ⟨j,kv2,vs2,A2,c2⟩=>x3.B.A.length-j) (0,kv,vs,A1,c1) ⟨rfl,rfl,j1⟩ (.c1 (.c1 .nil)) ⟨j2 (⟨m0,va_in b.2 hx0⟩),j1⟩ ?_;rintro⟨j,kv2,vs2,A2,c2⟩;dsimp only;refine bG d7 λa=>?_;refine g6 ?_;refine fA (λf=>?_) λf=>?_
  .refine g6 ?_;obtain⟨x6,d⟩:=gx x3.B.A j;refine ss (ixs j) ?_;refine ss (oZ d 0) ?_;refine j4 zE λq=>?_;refine g4 ?_;have hd0:x3.inp.B[j]?=some x6.sd:=mK d;have o:=va_len a.2 hd0;refine g4 ?_;refine ss (sti_lookupS (oK kT1) rfl mapSB underlying9 zeroB rfl rfl (a.2.1 x6.name)) ?_;refine g3 ?_;refine iK (λe=>?_) λe=>?_
   .refine g5 ?_;refine pP kT1 rfl (.inl rfl) rfl mapSB underlying9 rfl rfl rfl ?_;refine g6 ?_;refine lB (m:=x6.name) rfl rfl rfl rfl rfl λp=>?_;refine mJ kT3 (bT .head rfl) rfl rfl rfl rfl rfl rfl rfl s8 λk h=>?_;refine g6 ?_;refine inc (j+1) ?_;refine g3 ?_;exact bk2 (j+1,(pX x6.name (.bool true) kv2),(vs2++[x6.name]),k,h) ⟨j2 (⟨by dsimp only;omega,va_add a.2 hd0 (by first|assumption|(simpa using ‹_›))⟩),j1⟩
   refine g5 ?_;refine inc (j+1) ?_;refine g3 ?_;exact bk2 (j+1,kv2,vs2,A2,c2) ⟨j2 (⟨by dsimp only;omega,va_skip a.2 hd0 (by first|assumption|(simpa using ‹_›))⟩),j1⟩
  refine g8 ?_;refine inc (i+1) ?_;refine g3 ?_;exact bk2 (i+1,kv2,vs2,A2,c2) ⟨j2 (⟨by dsimp only;omega,va_out a.2 aj0⟩),j1⟩
 refine g12 ?_;have he:=va_end b.2 af7;rw[he];refine fS kT1 λg=>bS kT1 ?_;exact rs1 (A1,c1) ⟨d7,j2 g,j1⟩
