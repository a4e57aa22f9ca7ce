/- Texts of one proof, one behind the other: RepT, EachT, ConcP, RhoT. -/
import Derived.Test.YtbgdphbebhjpiaaGreatDoorM18
import Derived.Test.YtbgdphbebhjpiaaGreatDoorM11
import Derived.Test.YtbgdphbebhjpiaaGreatDoorShelfB
import Derived.Test.YtbgdphbebhjpiaaGreatDoorM12
namespace Go.Proofs.YtbgdphbebhjpiaaGreatDoor
open Go.RowKit
theorem bitsMul_spec(x y:Nat)(hx:x<18446744073709551616)(hy:y<18446744073709551616):dX Tryz.prog 246 [.int .u64 (x:Nat),.int .u64 (y:Nat)] [] [] (fun _:Unit=> .tuple #[.int .u64 ((x*y/18446744073709551616:Nat):Int),.int .u64 ((x*y%18446744073709551616:Nat):Int)]) (fun _=>[]) (fun _=>[]):=
 xF fun _ w _=>Tryz.bits_Mul x y hx hy w
def kJ:PolV:=⟨none,0,[]⟩
theorem polsize:(Tryz.prog.info? 71).map (·.size)=some 1:=by kernel_rfl
theorem madePols(m:Nat):(madeCells (Value.slice none 0 0).cells (m*1)).toList=cH.all (List.replicate m kJ):=by
 have e: ∀m,cH.all (List.replicate m kJ)=List.replicate m (.slice none 0 0):=fun m=>by
  induction m with
  | zero=>rfl
  | succ m ih=>rw [List.replicate_succ,List.replicate_succ,←ih];rfl
 rw [e];unfold madeCells;apply List.ext_getElem
 ·simp
 ·intro i h1 h2;simp [Value.cells,Nat.mod_one]
theorem cN.pre{β:fV}{H:List cA}{F:List Fact}{α:Type}{E:Flat α}{A:Option Addr}{xs:List α}(h:cN β H F E A xs)(r:Nat):cN β H F E A (xs.take r):=fun w S s hF k x hk=>by
 rw [List.getElem?_take] at hk;split at hk
 ·exact h w S s hF k x hk
 ·cases hk
section
variable {β : fV} {n : Nat} {Γ : Env} {H : List cA} {F : List Fact} {Q : Exit → Act → World → Prop} {ops : Array Oper} {rest : List Oper} {o : Oper} {d : Nat}
theorem at_makePols{m:Nat}{x y:Operand}(hw:want ops Γ o=some true)(ho:o.op= .makeSlice 65 x y)(hd:o.dst=some d)(hn:Nat.blt d n=true)
  (hx:Γ.ev x=some (.int .i64 (m:Nat))) (hy:Γ.ev y=some (.int .i64 (m:Nat))) (hm:m≤1000000)
  (k: ∀b,At β n ((d,.slice (some ⟨b,0,none⟩) m m)::Γ) (cH.row (.slice (some ⟨b,0,none⟩) m m) 71 (List.replicate m kJ)::H) F (wpList Tryz.prog ops Q rest)):At β n Γ H F (wpList Tryz.prog ops Q (o::rest)):=by
 obtain⟨i,hi,hz,hs,hb⟩:=vS;exact at_make (E:=cH) hw ho hd hn hx hy Tryz.underlying65 hi hz hs (by rw [hb];omega) (by simp [maxLen];omega) (madePols m) (by simp) k
theorem bDz{x y:Operand}{t':TypeId}{g c cap m q l lc s:Nat}{A:Option Addr}{xs ys:List PolV}{H':List cA}(hr:cN β H F cH A ys)(hw:want ops Γ o=some true)
  (ho:o.op= .call {callee:= .builtin .copy,args:= #[x,y],argTypes:= #[65,65]}) (hd:o.dst=some d) (hn:Nat.blt d n=true)
  (hx:Γ.ev x=some (.slice (some ⟨g,q,none⟩) l lc)) (hm:xs.length=m) (hy:Γ.ev y=some (.slice A s c)) (hmin:ys.length=Nat.min s l) (hq:q+ys.length≤m) (hH:dK H (cH.row (.slice (some ⟨g,0,none⟩) m cap) t' xs) H')
  (k:At β n ((d,.int .i64 (ys.length:Nat))::Γ) (cH.row (.slice (some ⟨g,0,none⟩) m cap) t' (xs.take q++ys++xs.drop (q+ys.length))::H') F (wpList Tryz.prog ops Q rest)):At β n Γ H F (wpList Tryz.prog ops Q (o::rest)):=
 jO hw fun a w S f st hk=>by
  have hl:(cH.all ys).length=ys.length:=by rw [cH.all_length];exact Nat.mul_one _
  have hlx:(cH.all xs).length=m:=by rw [cH.all_length,hm];exact Nat.mul_one _
  have s2:=st.perm hH.perm;have hown:w.ownsRow 0 t' 1 (.slice (some ⟨g,0,none⟩) m cap) xs.length (cH.all xs):=st.ok _ hH.mem;rw [hm] at hown
  have hcp:(Builtin.copy_ #[65,65] o.type #[.slice (some ⟨g,q,none⟩) l lc,.slice A s c]).run Tryz.prog w= .ok (goInt ys.length) (w.setCells g q (cH.all ys)):=by
   by_cases h0:0<ys.length
   ·obtain⟨b,off,rfl,hb⟩:=hr.cells st hk h0;have:=run_copy_cells (P:=Tryz.prog) w 65 65 o.type 71 g q l lc ⟨b,off,none⟩ s c (cH.all ys) Tryz.underlying65 polsize (by rw [hl];exact hmin) hb
     (fun j hj=>by
      rw [World.ownsRow.cellAt hown _ (by omega),List.getElem?_eq_getElem (by rw [hlx];omega)]
      rfl) (fun j _=>World.ownsRow.frozenAt hown _) cH.all_one
    rwa [hl] at this
   ·have e0:ys=[]:=List.length_eq_zero_iff.1 (by omega);subst e0;exact run_copy_none (P:=Tryz.prog) w _ _ o.type 71 _ A l lc s c Tryz.underlying65 polsize hmin.symm
  have hr':(execOp a.eval o).run Tryz.prog w= .ok (.value (.int .i64 (ys.length:Nat))) (w.setCells g q (cH.all ys)):=by
   unfold execOp;simp only [ho,resolve,invoke,builtin,Sem.run_bind,Sem.run_pure,Result.andThen_ok,List.map_toArray,List.map_cons,List.map_nil,f.ev hx,f.ev hy,hcp];rfl
  unfold Oper.wp;rw [hr',Oper.upon_value,hd];refine k _ _ S (f.put (by simpa [Nat.blt_eq] using hn) _) (s2.swap (mQ g _ q w) rfl rfl ?_) (All.mono (fun _ h=>h) (st.agree (mQ g _ q w) (fun c hc e=>by subst e;exact(s2.own _ (List.mem_cons_self ..) _ rfl).2.2 hc)) hk);have:=rG (cH.all ys) q w (cH.all xs) hown;rw [xV _ _ _ (by rw [hl,hlx];omega),hl] at this
  have ht:(cH.all xs).take q=cH.all (xs.take q):=by
   conv=>lhs;rw [←List.take_append_drop q xs,cH.all_append]
   rw [List.take_append_of_le_length (by rw [cH.all_length];simp;show q≤_*1;omega),List.take_of_length_le (by rw [cH.all_length];simp;show _*1≤q;omega)]
  have hdr:(cH.all xs).drop (q+ys.length)=cH.all (xs.drop (q+ys.length)):=by
   conv=>lhs;rw [←List.take_append_drop (q+ys.length) xs,cH.all_append]
   have e:(cH.all (xs.take (q+ys.length))).length=q+ys.length:=by rw [cH.all_length];simp;show _*1=_;omega
   rw [List.drop_append_of_le_length (by omega),List.drop_of_length_le (by omega),List.nil_append]
  rw [ht,hdr,←cH.all_append,←cH.all_append] at this;show World.ownsRow _ 0 t' 1 _ _ _;have e:(xs.take q++ys++xs.drop (q+ys.length)).length=m:=by simp;omega
  rw [e];exact this
end
def bKx (p:PolV)(n i:Nat)(cur:List PolV):Prop:=cur=List.replicate i p++List.replicate (n-i) kJ∧i≤n
theorem rep_len{p:PolV}{n i:Nat}{cur:List PolV}(h:bKx p n i cur):cur.length=n:=by
 rw [h.1];have:=h.2;simp;omega
theorem rep_first(p:PolV)(n r:Nat)(hr:r=Nat.min 1 n):bKx p n r ((List.replicate n kJ).take 0++List.take r [p]++(List.replicate n kJ).drop (0+(List.take r [p]).length)):=by
 subst hr
 cases n with
 | zero=>exact⟨rfl,Nat.le_refl _⟩
 | succ n=>
  have:Nat.min 1 (n+1)=1:=by simp
  rw [this];exact⟨by simp,by omega⟩
theorem rep_step{p:PolV}{n i:Nat}{cur:List PolV}(h:bKx p n i cur)(hi:i<n):bKx p n (i+Nat.min i (n-i)) (cur.take i++cur.take (Nat.min i (n-i))++cur.drop (i+(cur.take (Nat.min i (n-i))).length)):=by
 obtain⟨rfl,hle⟩:=h;have hm:Nat.min i (n-i)≤i:=Nat.min_le_left _ _;have hm2:Nat.min i (n-i)≤n-i:=Nat.min_le_right _ _;generalize Nat.min i (n-i)=r at*
 have t1:(List.replicate i p++List.replicate (n-i) kJ).take i=List.replicate i p:=by
  rw [List.take_append_of_le_length (by simp),List.take_of_length_le (by simp)]
 have t2:(List.replicate i p++List.replicate (n-i) kJ).take r=List.replicate r p:=by
  rw [List.take_append_of_le_length (by simp;omega),List.take_replicate,Nat.min_eq_left hm]
 rw [t1,t2,List.length_replicate];refine⟨?_,by omega⟩
 have t3:(List.replicate i p++List.replicate (n-i) kJ).drop (i+r)=List.replicate (n-(i+r)) kJ:=by
  rw [List.drop_append,List.drop_of_length_le (by simp),List.length_replicate,List.drop_replicate,List.nil_append]
  congr 1
  omega
 rw [t3,List.replicate_append_replicate]
theorem rep_l1(p:PolV)(n:Nat):(List.take (Nat.min 1 n) [p]).length=Nat.min 1 n:=by
 rw [List.length_take];exact Nat.min_eq_left (Nat.min_le_left 1 n)
theorem rep_l{p:PolV}{n i:Nat}{cur:List PolV}(h:bKx p n i cur):(cur.take (Nat.min i (n-i))).length=Nat.min i (n-i):=by
 rw [List.length_take,rep_len h];exact Nat.min_eq_left (Nat.le_trans (Nat.min_le_left _ _) h.2)
theorem min1_le(n:Nat):Nat.min 1 n≤n:=Nat.min_le_right _ _
theorem min1_or(n:Nat):1≤Nat.min 1 n∨n=0:=by
 cases n with
 | zero=>exact .inr rfl
 | succ n=>exact .inl (by simp)
theorem cutA_in{b i k cap:Nat}(h:i<cap)(hk:k=1):iF (some ⟨b,0,none⟩) i k cap=some ⟨b,i,none⟩:=by
 subst hk;unfold iF;rw [if_neg (by omega)];simp [Addr.add];omega
theorem conv64{m:Nat}(h:m<9223372036854775808):IntKind.u64.wrap ((m:Nat):Int)=((m:Nat):Int):=by
 simp only [IntKind.wrap,IntKind.bits,IntKind.signed];simp;omega
theorem conv63{m:Nat}(h:m<9223372036854775808):IntKind.i64.wrap ((m:Nat):Int)=((m:Nat):Int):=by
 simp only [IntKind.wrap,IntKind.bits,IntKind.signed];simp;omega
set_option maxRecDepth 100000 in
theorem repeatP_spec(A:Option Addr)(c:Nat)(p:PolV)(n:Nat)(hn:n≤1000000):dX Tryz.prog 204 [.slice A 1 c,.int .i64 (n:Nat)] [] [cH.sl (.slice A 1 c) [p]] (fun(x:Option Addr×Nat)=> .slice x.1 n x.2) (fun(x:Option Addr×Nat)=>[cH.row (.slice x.1 n x.2) 71 (List.replicate n p)]) (fun _=>[]):=by
 have hT:=fI;refine cW Tryz.func204 rfl Tryz.ntmps204 rfl ?_;intro β hM;refine sr<|sp hT ?_;refine nn<|bA<|sr<|sp2 hT ?_;refine bZ (t':=false) (decide_eq_false (by omega)) ?_;refine nn<|cG rfl rfl ?_;refine bN<|bC<|sr<|sp3 hT ?_;refine bT (z':=((1:Nat):Int)) rfl ?_;refine sp2 hT ?_;refine bT (z':=((n:Nat):Int)) (conv64 (by omega)) ?_;refine bR Tryz.func246 (bitsMul_spec 1 n (by decide) (by omega)) rfl rfl .nil trivial fun _=>?_;refine jN (v':= .tuple #[.int .u64 ((0:Nat):Int),.int .u64 ((n:Nat):Int)]) (by rw [Nat.one_mul,Nat.div_eq_of_lt (by omega),Nat.mod_eq_of_lt (by omega)]) ?_;refine sp4 hT ?_;refine sp hT ?_;refine nn<|bA<|sr<|sp2 hT ?_;refine bZ (t':=false) (by decide) ?_;refine sp3 hT ?_;refine bZ (t':=false) (decide_eq_false (by omega)) ?_;refine sp hT ?_;refine nn<|cG rfl rfl ?_;refine bN<|bC<|sr<|sp2 hT ?_;refine bT (z':=((n:Nat):Int)) (conv63 (by omega)) ?_;refine at_makePols (m:=n) rfl rfl rfl rfl rfl rfl (by omega) fun b1=>?_;refine sp hT ?_;refine nn<|sr<|sp2 hT ?_;refine bDz (ys:=List.take (Nat.min 1 n) [p]) (q:=0) (cN.pre (bK (Has.of mT0)) _) rfl rfl rfl rfl rfl (by simp) rfl (rep_l1 p n) (by rw [rep_l1];have:=min1_le n;omega) .head ?_;have hr1:=rep_first p n _ rfl;refine bT (z':=((Nat.min 1 n:Nat):Int)) (congrArg Nat.cast (rep_l1 p n)) ?_;refine sp hT ?_;refine nn<|bA<|bX<|dG (ι:=Nat×List PolV) [(7,_)] ⟨rfl,trivial⟩ (fun⟨i,cur⟩=>[(8,.int .i64 (i:Nat))]) (fun⟨i,cur⟩=>[cH.row (.slice (some ⟨b1,0,none⟩) n n) 71 cur]) (fun⟨i,cur⟩=>[Fact.pure (bKx p n i cur∧(1≤i∨n=0))]) (fun⟨i,cur⟩=>n-i) (Nat.min 1 n,_) ⟨rfl,trivial⟩ (.cons .head .nil) ⟨Has.pure (⟨hr1,min1_or n⟩),trivial⟩ ?_;rintro⟨i,cur⟩;dsimp only;refine bS (Has.of mT0) fun hinv8=>?_;refine bA<|sr<|sp4 hT ?_;refine nn<|bL rfl (fun hc37=>?_) (fun hc37=>?_)
 ·have hc37:=of_decide_eq_true hc37;refine bN<|bC<|bX<|cZ _ _ [(true,0),(true,1),(true,2),(true,3),(true,4),(true,5),(true,6),(false,7),(true,8),(true,9)] dD (by decide+kernel) .nil bI.self ?_;refine puM hT ?_;refine puM hT ?_;refine puM hT ?_;refine stM rfl (fJ hT (k:=i) rfl rfl rfl rfl rfl rfl (by omega)) ?_;refine jN (v':= .slice (some ⟨b1,i,none⟩) (n-i) (n-i)) (by rw [cutA_in (by omega) rfl]) ?_;refine puM hT ?_;refine puM hT ?_;refine stM rfl (lC hT (k:=i) rfl rfl rfl rfl rfl rfl (by omega)) ?_;refine cK (o:=_) rfl ?_;refine bDz (ys:=cur.take (Nat.min i (n-i))) (q:=i) (cN.pre (cJ .head) _) rfl rfl rfl rfl rfl (rep_len hinv8.1) rfl (rep_l hinv8.1) (by rw [rep_l hinv8.1];have:Nat.min i (n-i)≤n-i:=Nat.min_le_right _ _;omega) .head ?_;have hrs:=rep_step hinv8.1 (by omega);have hrl:=rep_l hinv8.1;refine bT (z':=((Nat.min i (n-i):Nat):Int)) (congrArg Nat.cast hrl) ?_
  have hmn:Nat.min i (n-i)≤n-i∧1≤Nat.min i (n-i):=⟨Nat.min_le_right _ _,Nat.le_min.2 ⟨by omega,by omega⟩⟩
  refine cL .nil (bI.drop 0) ?_;refine puM hT ?_;refine bT (z':=(((i+(Nat.min i (n-i))):Nat):Int)) (cP (by omega) (by omega)) ?_;refine puM hT ?_;refine cQ<|cD<|bC ?_;exact cO (i+Nat.min i (n-i),_) (by dsimp only;omega) ⟨rfl,trivial⟩ ⟨rfl,trivial⟩ (.cons .head .nil) ⟨Has.pure (⟨hrs,by dsimp only;omega⟩),trivial⟩ (bI.drop 1)
 have hc37:=Int.not_lt.1 (of_decide_eq_false hc37);refine dC<|cM<|cM<|dB<|bC<|sr<|sp2 hT ?_;refine nn<|bF ?_;obtain rfl:i=n:=by have:=hinv8.1.2;omega
 have hcr:cur=List.replicate i p:=by rw [hinv8.1.1,Nat.sub_self,List.replicate_zero,List.append_nil]
 subst hcr;exact bV (_,_) rfl (bG rfl) (.cons .head .nil) trivial rfl
section
variable {P : Program} {β : fV} {n : Nat} {Γ : Env} {H : List cA} {F : List Fact}
theorem sti_fneq{o:Oper}{x:Operand}{t tt:TypeId}{ps rs:Array TypeId}{vr:Bool}(hu:P.underlying t=some (.func ps rs vr)){fn:Fn}{a b:Array Value}(ho:o.op= .binOp .eql t x (.const .nilFunc) tt)(hx:Γ.ev x=some (.func fn a b)):Sti P β n Γ H F o (.bool false):=fun c w S f s k=>by
 unfold execOp;have e:c.eval (.const .nilFunc)= .nilFunc:=rfl;have he: ∀d,(Op.equalIn (d+1) t (.func fn a b) .nilFunc).run P w= .ok false w:=fun d=>by simp [Op.equalIn,run_underlying hu]
 have hb:(binOp .eql t (.func fn a b) .nilFunc).run P w= .ok (.bool false) w:=by
  simp only [binOp];rw [Sem.run_bind,show Op.equal t (.func fn a b) .nilFunc=Op.equalIn 10000 t (.func fn a b) .nilFunc from rfl,he 9999];rfl
 have hg:(eqGuard .eql t x (.const .nilFunc) (.func fn a b) .nilFunc).run P w= .ok () w:=rfl;simp only [ho,f.ev hx,e];rw [Sem.run_bind,Sem.run_bind,hg,Result.andThen_ok,hb];rfl
theorem sti_nofneq{o:Oper}{x:Operand}{t tt:TypeId}{ps rs:Array TypeId}{vr:Bool}(hu:P.underlying t=some (.func ps rs vr))(ho:o.op= .binOp .eql t x (.const .nilFunc) tt)(hx:Γ.ev x=some .nilFunc):Sti P β n Γ H F o (.bool true):=fun c w S f s k=>by
 unfold execOp;have e:c.eval (.const .nilFunc)= .nilFunc:=rfl;have he: ∀d,(Op.equalIn (d+1) t .nilFunc .nilFunc).run P w= .ok true w:=fun d=>by simp [Op.equalIn,run_underlying hu]
 have hb:(binOp .eql t .nilFunc .nilFunc).run P w= .ok (.bool true) w:=by
  simp only [binOp];rw [Sem.run_bind,show Op.equal t .nilFunc .nilFunc=Op.equalIn 10000 t .nilFunc .nilFunc from rfl,he 9999];rfl
 have hg:(eqGuard .eql t x (.const .nilFunc) .nilFunc .nilFunc).run P w= .ok () w:=rfl;simp only [ho,f.ev hx,e];rw [Sem.run_bind,Sem.run_bind,hg,Result.andThen_ok,hb];rfl
end
def PolFn (f:FuncId)(op:pR):Prop:= ∀p q:PolV,p.list.length≤140737488355328→q.list.length≤140737488355328→dX Tryz.prog f [.slice p.addr p.list.length p.cap,.slice q.addr q.list.length q.cap] [] [mN p,mN q] (fun x:Option Addr×Nat=> .tuple #[.slice x.1 (op p.list q.list).1.length x.2,.int .i64 (op p.list q.list).2]) (fun _=>[]) (fun x=>[mN ⟨x.1,x.2,(op p.list q.list).1⟩])
structure EachOk (a b:TyP):Prop where
 la:a.values.length≤1000000
 lb:b.values.length≤1000000
 one:a.known=true→b.known=true→a.sides=[]→a.values.length=1
 two:a.known=true→b.known=true→b.sides=[]→b.values.length=1
 same:a.known=true→b.known=true→a.sides≠[]→b.sides≠[]→a.values.length=b.values.length
theorem bAh(A:Option Addr)(c:Nat)(xs:List PolV)(p:PolV)(n:Nat)(h:xs=[p])(hn:n≤1000000):dX Tryz.prog 204 [.slice A xs.length c,.int .i64 (n:Nat)] [] [cH.sl (.slice A xs.length c) xs] (fun(x:Option Addr×Nat)=> .slice x.1 n x.2) (fun(x:Option Addr×Nat)=>[cH.row (.slice x.1 n x.2) 71 (List.replicate n p)]) (fun _=>[]):=by
 subst h;exact repeatP_spec A c p n hn
theorem bKp{F:List Fact}{p:PolV}(n:Nat){xs:List PolV}(e:xs=[p])(h:Has F (cT xs)):Has F (cT (List.replicate n p)):=fun S w k q hq=>by
 subst e;rw [List.eq_of_mem_replicate hq];exact h S w k p (List.mem_singleton.2 rfl)
theorem oneP_of{xs:List PolV}(h:(cB xs).length=1): ∃p,xs=[p]:=by
 rw [bW] at h
 match xs,h with
 | [p],_=>exact⟨p,rfl⟩
theorem repL(xs:List PolV)(p:PolV)(n:Nat)(h:xs=[p]):repT (cB xs) n=cB (List.replicate n p):=by
 subst h;unfold repT cB
 induction n with
 | zero=>rfl
 | succ n ih=>rw [List.replicate_succ,List.replicate_succ,List.flatten_cons,ih];rfl
theorem fA{l:List PolV}(h:l.length=0):cB l=[]:=by rw [List.length_eq_zero_iff.1 h];rfl
theorem fQ{l:List PolV}(h:0<l.length):cB l≠[]:=fun e=>by have:=congrArg List.length e;rw [bW,List.length_nil] at this;omega
def uC (op:pR)(X Y out:List Pol)(i:Nat):Prop:=out.length=i∧xH op X Y=(xH op (X.drop i) (Y.drop i)).map (out++ ·)
theorem uN(op:pR)(X Y:List Pol):uC op X Y [] 0:=⟨rfl,by cases h:xH op X Y<;>simp [h]⟩
section
variable {op : pR} {X Y : List Pol} {xs ys out : List PolV} {i : Nat} {p q r : PolV}
theorem wY(h:uC op (cB xs) (cB ys) (cB out) i)(hp:xs[i]?=some p)(hq:ys[i]?=some q)(hr:r.list=(op p.list q.list).1)(h0:(op p.list q.list).2=0):uC op (cB xs) (cB ys) (cB (out++[r])) (i+1):=by
 obtain⟨hl,h⟩:=h;obtain⟨hi,ei⟩:=List.getElem?_eq_some_iff.1 (iA hp);obtain⟨hj,ej⟩:=List.getElem?_eq_some_iff.1 (iA hq);have eo:cB (out++[r])=cB out++[(op p.list q.list).1]:=by unfold cB;rw [List.map_append,List.map_singleton,hr]
 refine⟨by rw [eo,List.length_append,hl];rfl,?_⟩;rw [h,List.drop_eq_getElem_cons hi,List.drop_eq_getElem_cons hj,ei,ej,eo];show Option.map _ (if (op p.list q.list).2≠0 then none else _)=_;rw [if_neg (by simpa using h0),Option.map_map]
 congr 1
 funext l
 simp
theorem zZ(h:uC op (cB xs) (cB ys) (cB out) i)(hp:xs[i]?=some p)(hq:ys[i]?=some q)(h0:(op p.list q.list).2≠0):xH op (cB xs) (cB ys)=none:=by
 obtain⟨hl,h⟩:=h;obtain⟨hi,ei⟩:=List.getElem?_eq_some_iff.1 (iA hp);obtain⟨hj,ej⟩:=List.getElem?_eq_some_iff.1 (iA hq);rw [h,List.drop_eq_getElem_cons hi,List.drop_eq_getElem_cons hj,ei,ej];show Option.map _ (if (op p.list q.list).2≠0 then none else _)=_;rw [if_pos h0];rfl
theorem zH(h:uC op (cB xs) (cB ys) (cB out) i)(hi:xs.length≤i):xH op (cB xs) (cB ys)=some (cB out):=by
 obtain⟨hl,h⟩:=h;rw [h,List.drop_of_length_le (by rw [bW];exact hi)];show some (cB out++[])=_;rw [List.append_nil]
theorem qU{a b:TyP}(h:xH op (uO a b) (sE a b)=some X)(ha:a.known=true)(hb:b.known=true):kN (some op) a b=(X,true):=by
 show(if _ then _ else _)=_;rw [if_neg (by rw [ha,hb];simp),h]
theorem rC{a b:TyP}(h:xH op (uO a b) (sE a b)=none)(ha:a.known=true)(hb:b.known=true):kN (some op) a b=([],false):=by
 show(if _ then _ else _)=_;rw [if_neg (by rw [ha,hb];simp),h]
theorem bBy{a b:TyP}(h:a.known=false∨b.known=false):kN (some op) a b=([],false):=if_pos h
end
theorem left_rep{a b:TyV}{p:PolV}(h:a.values.list=[p])(ha:a.sides.list.length=0)(hb:0<b.sides.list.length):uO a.t b.t=cB (List.replicate b.values.list.length p)∧sE a.t b.t=cB b.values.list:=by
 constructor
 ·unfold uO;rw [if_pos ⟨fA ha,fQ hb⟩,←repL _ p _ h];show repT _ (cB b.values.list).length=_;rw [bW];rfl
 ·unfold sE;rw [if_neg (fun k=>fQ hb k.1)];rfl
theorem right_rep{a b:TyV}{p:PolV}(h:b.values.list=[p])(hb:b.sides.list.length=0)(ha:0<a.sides.list.length):uO a.t b.t=cB a.values.list∧sE a.t b.t=cB (List.replicate a.values.list.length p):=by
 constructor
 ·unfold uO;rw [if_neg (fun k=>fQ ha k.1)];rfl
 ·unfold sE;rw [if_pos ⟨fA hb,fQ ha⟩,←repL _ p _ h];show repT _ (cB a.values.list).length=_;rw [bW];rfl
theorem none_rep{a b:TyV}(h:a.sides.list.length=0∧b.sides.list.length=0∨0<a.sides.list.length∧0<b.sides.list.length):uO a.t b.t=cB a.values.list∧sE a.t b.t=cB b.values.list:=by
 constructor
 ·unfold uO;rw [if_neg]
  ·rfl
  ·rintro⟨k,l⟩
   rcases h with h | h
   ·exact l (fA h.2)
   ·exact fQ h.1 k
 ·unfold sE;rw [if_neg]
  ·rfl
  ·rintro⟨k,l⟩
   rcases h with h | h
   ·exact l (fA h.1)
   ·exact fQ h.2 k
theorem vals_one{a:TyV}(h:a.t.values.length=1): ∃p,a.values.list=[p]:=oneP_of h
theorem bLk{a b:TyV}(h:EachOk a.t b.t)(ha:a.known=true)(hb:b.known=true)(hs:a.sides.list.length=0∧b.sides.list.length=0∨0<a.sides.list.length∧0<b.sides.list.length):a.values.list.length=b.values.list.length:=by
 have e:(cB a.values.list).length=(cB b.values.list).length:=by
  rcases hs with hs | hs
  ·exact(h.one ha hb (fA hs.1)).trans (h.two ha hb (fA hs.2)).symm
  ·exact h.same ha hb (fQ hs.1) (fQ hs.2)
 rwa [bW,bW] at e
structure EachV where
 l:Sl PolV
 k:Bool
set_option maxRecDepth 100000 in
theorem zA(a b:TyV):dX Tryz.prog 143 [.nilFunc,.agg #[.slice a.sides.addr a.sides.list.length a.sides.cap,.bool a.known,.slice a.values.addr a.values.list.length a.values.cap],.agg #[.slice b.sides.addr b.sides.list.length b.sides.cap,.bool b.known,.slice b.values.addr b.values.list.length b.values.cap]] [] [] (fun(x:EachV)=> .tuple #[.slice x.l.addr x.l.list.length x.l.cap,.bool x.k]) (fun _=>[]) (fun(x:EachV)=>[dO x.l,Fact.pure ((cB x.l.list,x.k)=kN none a.t b.t)]):=by
 have hT:=fI;refine cW Tryz.func143 rfl Tryz.ntmps143 rfl ?_;intro β hM;refine sr<|hQ rfl rfl rfl rfl rfl rfl fun b1=>?_;refine hQ rfl rfl rfl rfl rfl rfl fun b2=>?_;refine sp2 hT ?_;refine nn<|bA<|sr<|sp hT ?_;refine ss (sti_nofneq Tryz.underlying213 rfl rfl) ?_;refine sp hT ?_;refine sk3 ?_;refine sp2 hT ?_;refine sk3 ?_;refine sp hT ?_;refine nn<|cI rfl rfl ?_;refine sr<|sp2 hT ?_;refine nn<|bF<|bB ?_;exact bO (⟨⟨none,0,[]⟩,false⟩:EachV) rfl (bG rfl) (bG rfl) .nil ⟨dE,Has.pure (rfl),trivial⟩ rfl
set_option maxRecDepth 100000 in
theorem iX(f:FuncId)(op:pR)(hcf: ∀(args:Array Value) (w:World),(callFunc f args).run Tryz.prog w= .ok (.enter f args) w)(hf:PolFn f op)(a b:TyV)(hab:EachOk a.t b.t):dX Tryz.prog 143 [.func (.func f) #[] #[],.agg #[.slice a.sides.addr a.sides.list.length a.sides.cap,.bool a.known,.slice a.values.addr a.values.list.length a.values.cap],.agg #[.slice b.sides.addr b.sides.list.length b.sides.cap,.bool b.known,.slice b.values.addr b.values.list.length b.values.cap]] [] [tyF a,tyF b] (fun(x:EachV)=> .tuple #[.slice x.l.addr x.l.list.length x.l.cap,.bool x.k]) (fun _=>[]) (fun(x:EachV)=>[dO x.l,Fact.pure ((cB x.l.list,x.k)=kN (some op) a.t b.t)]):=by
 have hT:=fI;have hla:a.values.list.length≤1000000:=by have:=hab.la;unfold TyV.t at this;rwa [bW] at this
 have hlb:b.values.list.length≤1000000:=by have:=hab.lb;unfold TyV.t at this;rwa [bW] at this
 refine cW Tryz.func143 rfl Tryz.ntmps143 rfl ?_;intro β hM;refine bA<|bE (dO a.sides) (lV (Has.of mT0)) ?_;refine bE (cH.sl (.slice a.sides.addr a.sides.list.length a.sides.cap) a.sides.list) (dL (Has.of mT0)) ?_;refine bE (cT a.sides.list) (dN (Has.of mT1)) ?_;refine bS (dT (Has.of mT2)) fun hc_as=>?_;refine bE (dO a.values) (lO (Has.of mT3)) ?_;refine bE (cH.sl (.slice a.values.addr a.values.list.length a.values.cap) a.values.list) (dL (Has.of mT0)) ?_;refine bE (cT a.values.list) (dN (Has.of mT1)) ?_;refine bS (dT (Has.of mT2)) fun hc_av=>?_;refine bE (dO b.sides) (lV (Has.of mT7)) ?_;refine bE (cH.sl (.slice b.sides.addr b.sides.list.length b.sides.cap) b.sides.list) (dL (Has.of mT0)) ?_;refine bE (cT b.sides.list) (dN (Has.of mT1)) ?_;refine bS (dT (Has.of mT2)) fun hc_bs=>?_;refine bE (dO b.values) (lO (Has.of pF)) ?_;refine bE (cH.sl (.slice b.values.addr b.values.list.length b.values.cap) b.values.list) (dL (Has.of mT0)) ?_;refine bE (cT b.values.list) (dN (Has.of mT1)) ?_;refine bS (dT (Has.of mT2)) fun hc_bv=>?_;refine bD<|hQ rfl rfl rfl rfl rfl rfl fun b1=>?_;refine hQ rfl rfl rfl rfl rfl rfl fun b2=>?_;refine sp2 hT ?_;refine nn<|bA<|sr<|sp hT ?_;refine ss (sti_fneq Tryz.underlying213 rfl rfl) ?_;refine sp2 hT ?_;refine ss (ldO hT (fN kT1)) ?_;refine sp3 hT ?_;refine cF (fun hg21=>?_) (fun hg21=>?_)
 ·have hg21:=fX hg21;refine sk3 ?_;refine sp hT ?_;refine nn<|cI rfl rfl ?_;refine sr<|sp2 hT ?_;refine nn<|bF<|bB ?_;exact bO (⟨⟨none,0,[]⟩,false⟩:EachV) rfl (bG rfl) (bG rfl) .nil ⟨dE,Has.pure ((bBy (by show a.known=false∨b.known=false;simp_all)).symm),trivial⟩ rfl
 have hg21:=fP hg21;have hka:=hg21;refine sp hT ?_;refine ss (ldO hT (fN .head)) ?_;refine sp2 hT ?_;refine nn<|bL rfl (fun hc25=>?_) (fun hc25=>?_)
 ·have hc25:=fX hc25;refine sr<|sp2 hT ?_;refine nn<|bF<|bB ?_;exact bO (⟨⟨none,0,[]⟩,false⟩:EachV) rfl (bG rfl) (bG rfl) .nil ⟨dE,Has.pure ((bBy (by show a.known=false∨b.known=false;simp_all)).symm),trivial⟩ rfl
 have hc25:=fP hc25;have hkb:=hc25;refine bN<|bC<|bA<|cZ _ _ [(true,0),(true,1),(true,2),(true,3),(true,4),(true,5)] dD (by decide+kernel) (.cons .head (.cons .head .nil)) bI.self ?_;refine puM hT ?_;refine stM rfl (ldO hT (dI kT1)) ?_;refine puM hT ?_;refine stM rfl (ldO hT (dI .head)) ?_;refine puM hT ?_;refine puM hT ?_;refine cQ<|bC<|bA<|bA ?_
 rcases Nat.eq_zero_or_pos a.sides.list.length with hsa | hsa<;>rcases Nat.eq_zero_or_pos b.sides.list.length with hsb | hsb
 ·have hlr:=none_rep (a:=a) (b:=b) (.inl ⟨hsa,hsb⟩);have hlx:=bLk hab hka hkb (.inl ⟨hsa,hsb⟩);refine bD<|sp hT ?_;refine ss (ldO hT (bJ kT1)) ?_;refine sp2 hT ?_;refine bZ (t':=true) (decide_eq_true (by omega)) ?_;refine sp2 hT ?_;refine ss (ldO hT (bJ .head)) ?_;refine sp2 hT ?_;refine bZ (t':=false) (decide_eq_false (by omega)) ?_;refine sp hT ?_;refine nn<|cG rfl rfl ?_;refine bN<|bC<|bA<|sr<|sp hT ?_;refine ss (ldO hT (bJ .head)) ?_;refine sp2 hT ?_;refine bZ (t':=true) (decide_eq_true (by omega)) ?_;refine sp2 hT ?_;refine ss (ldO hT (bJ kT1)) ?_;refine sp2 hT ?_;refine bZ (t':=false) (decide_eq_false (by omega)) ?_;refine sp hT ?_;refine nn<|cG rfl rfl ?_;refine bN<|bC<|sr<|sp hT ?_;refine nn<|bA<|sr<|sp3 hT ?_;refine nn<|bX<|dR (t:=71) cH ?_;refine bE (cT []) (Has.each_nil) ?_;have hxy:a.values.list.length=b.values.list.length:=by first | (simp;done) | (simp;omega) | omega
  have hxl:a.values.list.length=a.values.list.length:=by first | rfl | simp
  have hxm:a.values.list.length≤1000000:=by omega
  refine dG (ι:=Nat×List PolV×Option Addr×Nat) [(0,_),(8,_),(9,_),(59,_)] ⟨rfl,rfl,rfl,rfl,trivial⟩ (fun⟨i,vs,V,cv⟩=>[(10,.slice V vs.length cv),(60,.int .i64 (i:Nat))]) (fun⟨i,vs,V,cv⟩=>[cH.row (.slice V vs.length cv) 71 vs]) (fun⟨i,vs,V,cv⟩=>[Fact.pure (i≤a.values.list.length∧uC op (cB a.values.list) (cB b.values.list) (cB vs) i),cT vs]) (fun⟨i,vs,V,cv⟩=>a.values.list.length-i) (0,[],none,0) ⟨rfl,rfl,trivial⟩ (.cons .head .nil) ⟨Has.pure (⟨by omega,uN op _ _⟩),Has.of mT0,trivial⟩ ?_;rintro⟨i,vs,V,cv⟩;dsimp only;refine bS (Has.of mT0) fun hinv10=>?_;have hvl:=hinv10.2.1;rw [bW] at hvl;refine sr<|sp hT ?_;refine nn<|bA<|bL rfl (fun hc61=>?_) (fun hc61=>?_)
  ·have hc61:=of_decide_eq_true hc61;refine bN<|bC<|bA<|bX<|sr<|sp2 hT ?_;refine nn<|bA<|cZ _ _ [(true,0),(true,1),(true,2),(true,3),(true,4),(true,5),(true,6),(true,7),(true,8),(false,9),(true,10),(true,11),(true,12),(true,13),(true,14)] dD (by decide+kernel) (.cons .head (.cons .head (.cons .head .nil))) bI.self ?_;refine puM hT ?_;refine puM hT ?_;refine puM hT ?_
   obtain⟨x3,hx4⟩: ∃x',a.values.list[i]?=some x':=⟨_,List.getElem?_eq_getElem (by omega)⟩
   refine stM rfl (bU hT (k:=i) (bK (Has.of pF)) rfl rfl rfl rfl rfl rfl rfl (by omega)) ?_;refine stM rfl (cE hT (cN.knows (bK (Has.of pF)) (k:=i) (x:=x3) hx4 0) rfl rfl rfl rfl rfl) ?_;refine puM hT ?_;refine puM hT ?_
   obtain⟨x5,hx6⟩: ∃x',b.values.list[i]?=some x':=⟨_,List.getElem?_eq_getElem (by omega)⟩
   refine stM rfl (bU hT (k:=i) (bK (Has.of mT4)) rfl rfl rfl rfl rfl rfl rfl (by omega)) ?_;refine stM rfl (cE hT (cN.knows (bK (Has.of mT4)) (k:=i) (x:=x5) hx6 0) rfl rfl rfl rfl rfl) ?_;refine cK (o:=_) rfl ?_;refine bS (fC (Has.each (Has.of mT9) (List.mem_of_getElem? hx4))) fun hpl=>?_;refine bS (fC (Has.each (Has.of mT3) (List.mem_of_getElem? hx6))) fun hql=>?_;refine gP hcf (hf x3 x5 hpl hql) rfl rfl rfl rfl rfl rfl rfl .nil ⟨(Has.each (Has.of mT9) (List.mem_of_getElem? hx4)),(Has.each (Has.of mT3) (List.mem_of_getElem? hx6)),trivial⟩ fun⟨A7,c8⟩=>?_;refine cL (.cons .head (.cons .head (.cons .head .nil))) (bI.drop 1) ?_;refine puM hT ?_;refine puM hT ?_;refine puM hT ?_;refine puM hT ?_;refine puM hT ?_;refine cQ<|bC<|bA<|sr<|sp2 hT ?_;refine nn<|bL rfl (fun hc77=>?_) (fun hc77=>?_)
   ·have hc77:=bne_iff_ne.1 hc77;refine sr<|sp2 hT ?_;refine nn<|bF<|bB<|bH<|bB<|bB<|bH<|bB ?_;exact bO (⟨⟨none,0,[]⟩,false⟩:EachV) rfl (bG rfl) (bG rfl) .nil ⟨dE,Has.pure ((rC (by rw [hlr.1,hlr.2];exact zZ hinv10.2 hx4 hx6 ‹_›) hka hkb).symm),trivial⟩ rfl
   have hc77:=bne_eq_false_iff_eq.1 hc77;refine bN<|bC<|bD<|sp2 hT ?_;refine fE (m:=⟨A7,c8,(op x3.list x5.list).1⟩) rfl rfl rfl rfl rfl fun b9=>?_;refine bE (cT (vs++[(⟨A7,c8,(op x3.list x5.list).1⟩:PolV)])) (Has.each_snoc (Has.of mT2) (Has.of mT0)) ?_;refine gJ kT1 (dF .head rfl) rfl rfl rfl rfl rfl rfl rfl (by simp;omega) fun A10 c11=>?_;refine sp hT ?_;refine dY<|cD<|bC<|bD<|sp hT ?_;refine bT (z':=(((i+1):Nat):Int)) (cP (by omega) (by omega)) ?_;refine sp hT ?_;refine nn ?_;exact cO (i+1,vs++[(⟨A7,c8,(op x3.list x5.list).1⟩:PolV)],A10,c11) (by dsimp only;omega) ⟨rfl,rfl,trivial⟩ ⟨rfl,rfl,rfl,rfl,trivial⟩ (.cons .head (.cons kT1 (.cons kT1 .nil))) ⟨Has.pure (⟨by dsimp only;omega,wY hinv10.2 hx4 hx6 rfl (by first | assumption | omega)⟩),Has.of mT0,trivial⟩ (bI.drop 4)
  have hc61:=Int.not_lt.1 (of_decide_eq_false hc61);refine dC<|cM<|cM<|dB<|bC<|sr<|sp3 hT ?_;refine nn<|bF<|iI .head fun hcv=>?_;refine cS .head ?_;exact bO (⟨⟨V,cv,vs⟩,true⟩:EachV) rfl (bG rfl) (bG rfl) .nil ⟨cY (Has.of mT0) (Has.of mT2) hcv,Has.pure ((qU (by rw [hlr.1,hlr.2];exact zH hinv10.2 (by omega)) hka hkb).symm),trivial⟩ rfl
 ·have hlr1:=hab.one hka hkb (fA hsa);obtain⟨p,hp⟩:=vals_one hlr1;have hlr:=left_rep (b:=b) hp hsa hsb;refine bD<|sp hT ?_;refine ss (ldO hT (bJ kT1)) ?_;refine sp2 hT ?_;refine bZ (t':=true) (decide_eq_true (by omega)) ?_;refine sp2 hT ?_;refine ss (ldO hT (bJ .head)) ?_;refine sp2 hT ?_;refine bZ (t':=true) (decide_eq_true (by omega)) ?_;refine sp hT ?_;refine nn<|cI rfl rfl ?_;refine bD<|sp3 hT ?_;refine bR Tryz.func204 (bAh a.values.addr a.values.cap a.values.list p _ hp (by omega)) rfl rfl .nil ⟨(Has.of mT7),trivial⟩ fun⟨A12,c13⟩=>?_;refine cS .head ?_;refine bE (cT (List.replicate b.values.list.length p)) (bKp _ hp (Has.of mT7)) ?_;refine sp hT ?_;refine nn<|bA<|sr<|sp hT ?_;refine ss (ldO hT (bJ .head)) ?_;refine sp2 hT ?_;refine bZ (t':=false) (decide_eq_false (by omega)) ?_;refine sp hT ?_;refine sk4 ?_;refine sp hT ?_;refine nn<|cG rfl rfl ?_;refine bN<|bC<|sr<|sp hT ?_;refine nn<|bA<|sr<|sp3 hT ?_;refine nn<|bX<|dR (t:=71) cH ?_;refine bE (cT []) (Has.each_nil) ?_;have hxy:(List.replicate b.values.list.length p).length=b.values.list.length:=by first | (simp;done) | (simp;omega) | omega
  have hxl:(List.replicate b.values.list.length p).length=b.values.list.length:=by first | rfl | simp
  have hxm:(List.replicate b.values.list.length p).length≤1000000:=by omega
  refine dG (ι:=Nat×List PolV×Option Addr×Nat) [(0,_),(8,_),(9,_),(59,_)] ⟨rfl,rfl,rfl,rfl,trivial⟩ (fun⟨i,vs,V,cv⟩=>[(10,.slice V vs.length cv),(60,.int .i64 (i:Nat))]) (fun⟨i,vs,V,cv⟩=>[cH.row (.slice V vs.length cv) 71 vs]) (fun⟨i,vs,V,cv⟩=>[Fact.pure (i≤b.values.list.length∧uC op (cB (List.replicate b.values.list.length p)) (cB b.values.list) (cB vs) i),cT vs]) (fun⟨i,vs,V,cv⟩=>b.values.list.length-i) (0,[],none,0) ⟨rfl,rfl,trivial⟩ (.cons .head .nil) ⟨Has.pure (⟨by omega,uN op _ _⟩),Has.of mT0,trivial⟩ ?_;rintro⟨i,vs,V,cv⟩;dsimp only;refine bS (Has.of mT0) fun hinv10=>?_;have hvl:=hinv10.2.1;rw [bW] at hvl;refine sr<|sp hT ?_;refine nn<|bA<|bL rfl (fun hc61=>?_) (fun hc61=>?_)
  ·have hc61:=of_decide_eq_true hc61;refine bN<|bC<|bA<|bX<|sr<|sp2 hT ?_;refine nn<|bA<|cZ _ _ [(true,0),(true,1),(true,2),(true,3),(true,4),(true,5),(true,6),(true,7),(true,8),(false,9),(true,10),(true,11),(true,12),(true,13),(true,14)] dD (by decide+kernel) (.cons .head (.cons .head (.cons .head .nil))) bI.self ?_;refine puM hT ?_;refine puM hT ?_;refine puM hT ?_
   obtain⟨x14,hx15⟩: ∃x',(List.replicate b.values.list.length p)[i]?=some x':=⟨_,List.getElem?_eq_getElem (by simp;omega)⟩
   refine stM rfl (bU hT (k:=i) (bK (Has.of mT4)) rfl rfl rfl rfl rfl (by simp) rfl (by simp;omega)) ?_;refine stM rfl (cE hT (cN.knows (bK (Has.of mT4)) (k:=i) (x:=x14) hx15 0) rfl rfl rfl rfl rfl) ?_;refine puM hT ?_;refine puM hT ?_
   obtain⟨x16,hx17⟩: ∃x',b.values.list[i]?=some x':=⟨_,List.getElem?_eq_getElem (by omega)⟩
   refine stM rfl (bU hT (k:=i) (bK (Has.of mT6)) rfl rfl rfl rfl rfl rfl rfl (by omega)) ?_;refine stM rfl (cE hT (cN.knows (bK (Has.of mT6)) (k:=i) (x:=x16) hx17 0) rfl rfl rfl rfl rfl) ?_;refine cK (o:=_) rfl ?_;refine bS (fC (Has.each (Has.of mT3) (List.mem_of_getElem? hx15))) fun hpl=>?_;refine bS (fC (Has.each (Has.of mT5) (List.mem_of_getElem? hx17))) fun hql=>?_;refine gP hcf (hf x14 x16 hpl hql) rfl rfl rfl rfl rfl rfl rfl .nil ⟨(Has.each (Has.of mT3) (List.mem_of_getElem? hx15)),(Has.each (Has.of mT5) (List.mem_of_getElem? hx17)),trivial⟩ fun⟨A18,c19⟩=>?_;refine cL (.cons .head (.cons .head (.cons .head .nil))) (bI.drop 1) ?_;refine puM hT ?_;refine puM hT ?_;refine puM hT ?_;refine puM hT ?_;refine puM hT ?_;refine cQ<|bC<|bA<|sr<|sp2 hT ?_;refine nn<|bL rfl (fun hc77=>?_) (fun hc77=>?_)
   ·have hc77:=bne_iff_ne.1 hc77;refine sr<|sp2 hT ?_;refine nn<|bF<|bB<|bH<|bB<|bB<|bH<|bB ?_;exact bO (⟨⟨none,0,[]⟩,false⟩:EachV) rfl (bG rfl) (bG rfl) .nil ⟨dE,Has.pure ((rC (by rw [hlr.1,hlr.2];exact zZ hinv10.2 hx15 hx17 ‹_›) hka hkb).symm),trivial⟩ rfl
   have hc77:=bne_eq_false_iff_eq.1 hc77;refine bN<|bC<|bD<|sp2 hT ?_;refine fE (m:=⟨A18,c19,(op x14.list x16.list).1⟩) rfl rfl rfl rfl rfl fun b20=>?_;refine bE (cT (vs++[(⟨A18,c19,(op x14.list x16.list).1⟩:PolV)])) (Has.each_snoc (Has.of mT2) (Has.of mT0)) ?_;refine gJ kT1 (dF .head rfl) rfl rfl rfl rfl rfl rfl rfl (by simp;omega) fun A21 c22=>?_;refine sp hT ?_;refine dY<|cD<|bC<|bD<|sp hT ?_;refine bT (z':=(((i+1):Nat):Int)) (cP (by omega) (by omega)) ?_;refine sp hT ?_;refine nn ?_;exact cO (i+1,vs++[(⟨A18,c19,(op x14.list x16.list).1⟩:PolV)],A21,c22) (by dsimp only;omega) ⟨rfl,rfl,trivial⟩ ⟨rfl,rfl,rfl,rfl,trivial⟩ (.cons .head (.cons kT1 (.cons kT1 .nil))) ⟨Has.pure (⟨by dsimp only;omega,wY hinv10.2 hx15 hx17 rfl (by first | assumption | omega)⟩),Has.of mT0,trivial⟩ (bI.drop 4)
  have hc61:=Int.not_lt.1 (of_decide_eq_false hc61);refine dC<|cM<|cM<|dB<|bC<|sr<|sp3 hT ?_;refine nn<|bF<|iI .head fun hcv=>?_;refine cS .head ?_;exact bO (⟨⟨V,cv,vs⟩,true⟩:EachV) rfl (bG rfl) (bG rfl) .nil ⟨cY (Has.of mT0) (Has.of mT2) hcv,Has.pure ((qU (by rw [hlr.1,hlr.2];exact zH hinv10.2 (by omega)) hka hkb).symm),trivial⟩ rfl
 ·have hlr1:=hab.two hka hkb (fA hsb);obtain⟨p,hp⟩:=vals_one hlr1;have hlr:=right_rep (a:=a) hp hsb hsa;refine bD<|sp hT ?_;refine ss (ldO hT (bJ kT1)) ?_;refine sp2 hT ?_;refine bZ (t':=false) (decide_eq_false (by omega)) ?_;refine sp hT ?_;refine sk4 ?_;refine sp hT ?_;refine nn<|cG rfl rfl ?_;refine bN<|bC<|bA<|sr<|sp hT ?_;refine ss (ldO hT (bJ .head)) ?_;refine sp2 hT ?_;refine bZ (t':=true) (decide_eq_true (by omega)) ?_;refine sp2 hT ?_;refine ss (ldO hT (bJ kT1)) ?_;refine sp2 hT ?_;refine bZ (t':=true) (decide_eq_true (by omega)) ?_;refine sp hT ?_;refine nn<|cI rfl rfl ?_;refine bD<|sp3 hT ?_;refine bR Tryz.func204 (bAh b.values.addr b.values.cap b.values.list p _ hp (by omega)) rfl rfl .nil ⟨(Has.of mT1),trivial⟩ fun⟨A23,c24⟩=>?_;refine cS .head ?_;refine bE (cT (List.replicate a.values.list.length p)) (bKp _ hp (Has.of mT1)) ?_;refine sp hT ?_;refine nn<|sr<|sp hT ?_;refine nn<|bA<|sr<|sp3 hT ?_;refine nn<|bX<|dR (t:=71) cH ?_;refine bE (cT []) (Has.each_nil) ?_;have hxy:a.values.list.length=(List.replicate a.values.list.length p).length:=by first | (simp;done) | (simp;omega) | omega
  have hxl:a.values.list.length=a.values.list.length:=by first | rfl | simp
  have hxm:a.values.list.length≤1000000:=by omega
  refine dG (ι:=Nat×List PolV×Option Addr×Nat) [(0,_),(8,_),(9,_),(59,_)] ⟨rfl,rfl,rfl,rfl,trivial⟩ (fun⟨i,vs,V,cv⟩=>[(10,.slice V vs.length cv),(60,.int .i64 (i:Nat))]) (fun⟨i,vs,V,cv⟩=>[cH.row (.slice V vs.length cv) 71 vs]) (fun⟨i,vs,V,cv⟩=>[Fact.pure (i≤a.values.list.length∧uC op (cB a.values.list) (cB (List.replicate a.values.list.length p)) (cB vs) i),cT vs]) (fun⟨i,vs,V,cv⟩=>a.values.list.length-i) (0,[],none,0) ⟨rfl,rfl,trivial⟩ (.cons .head .nil) ⟨Has.pure (⟨by omega,uN op _ _⟩),Has.of mT0,trivial⟩ ?_;rintro⟨i,vs,V,cv⟩;dsimp only;refine bS (Has.of mT0) fun hinv10=>?_;have hvl:=hinv10.2.1;rw [bW] at hvl;refine sr<|sp hT ?_;refine nn<|bA<|bL rfl (fun hc61=>?_) (fun hc61=>?_)
  ·have hc61:=of_decide_eq_true hc61;refine bN<|bC<|bA<|bX<|sr<|sp2 hT ?_;refine nn<|bA<|cZ _ _ [(true,0),(true,1),(true,2),(true,3),(true,4),(true,5),(true,6),(true,7),(true,8),(false,9),(true,10),(true,11),(true,12),(true,13),(true,14)] dD (by decide+kernel) (.cons .head (.cons .head (.cons .head .nil))) bI.self ?_;refine puM hT ?_;refine puM hT ?_;refine puM hT ?_
   obtain⟨x25,hx26⟩: ∃x',a.values.list[i]?=some x':=⟨_,List.getElem?_eq_getElem (by omega)⟩
   refine stM rfl (bU hT (k:=i) (bK (Has.of jV)) rfl rfl rfl rfl rfl rfl rfl (by omega)) ?_;refine stM rfl (cE hT (cN.knows (bK (Has.of jV)) (k:=i) (x:=x25) hx26 0) rfl rfl rfl rfl rfl) ?_;refine puM hT ?_;refine puM hT ?_
   obtain⟨x27,hx28⟩: ∃x',(List.replicate a.values.list.length p)[i]?=some x':=⟨_,List.getElem?_eq_getElem (by simp;omega)⟩
   refine stM rfl (bU hT (k:=i) (bK (Has.of mT4)) rfl rfl rfl rfl rfl (by simp) rfl (by simp;omega)) ?_;refine stM rfl (cE hT (cN.knows (bK (Has.of mT4)) (k:=i) (x:=x27) hx28 0) rfl rfl rfl rfl rfl) ?_;refine cK (o:=_) rfl ?_;refine bS (fC (Has.each (Has.of pZ) (List.mem_of_getElem? hx26))) fun hpl=>?_;refine bS (fC (Has.each (Has.of mT3) (List.mem_of_getElem? hx28))) fun hql=>?_;refine gP hcf (hf x25 x27 hpl hql) rfl rfl rfl rfl rfl rfl rfl .nil ⟨(Has.each (Has.of pZ) (List.mem_of_getElem? hx26)),(Has.each (Has.of mT3) (List.mem_of_getElem? hx28)),trivial⟩ fun⟨A29,c30⟩=>?_;refine cL (.cons .head (.cons .head (.cons .head .nil))) (bI.drop 1) ?_;refine puM hT ?_;refine puM hT ?_;refine puM hT ?_;refine puM hT ?_;refine puM hT ?_;refine cQ<|bC<|bA<|sr<|sp2 hT ?_;refine nn<|bL rfl (fun hc77=>?_) (fun hc77=>?_)
   ·have hc77:=bne_iff_ne.1 hc77;refine sr<|sp2 hT ?_;refine nn<|bF<|bB<|bH<|bB<|bB<|bH<|bB ?_;exact bO (⟨⟨none,0,[]⟩,false⟩:EachV) rfl (bG rfl) (bG rfl) .nil ⟨dE,Has.pure ((rC (by rw [hlr.1,hlr.2];exact zZ hinv10.2 hx26 hx28 ‹_›) hka hkb).symm),trivial⟩ rfl
   have hc77:=bne_eq_false_iff_eq.1 hc77;refine bN<|bC<|bD<|sp2 hT ?_;refine fE (m:=⟨A29,c30,(op x25.list x27.list).1⟩) rfl rfl rfl rfl rfl fun b31=>?_;refine bE (cT (vs++[(⟨A29,c30,(op x25.list x27.list).1⟩:PolV)])) (Has.each_snoc (Has.of mT2) (Has.of mT0)) ?_;refine gJ kT1 (dF .head rfl) rfl rfl rfl rfl rfl rfl rfl (by simp;omega) fun A32 c33=>?_;refine sp hT ?_;refine dY<|cD<|bC<|bD<|sp hT ?_;refine bT (z':=(((i+1):Nat):Int)) (cP (by omega) (by omega)) ?_;refine sp hT ?_;refine nn ?_;exact cO (i+1,vs++[(⟨A29,c30,(op x25.list x27.list).1⟩:PolV)],A32,c33) (by dsimp only;omega) ⟨rfl,rfl,trivial⟩ ⟨rfl,rfl,rfl,rfl,trivial⟩ (.cons .head (.cons kT1 (.cons kT1 .nil))) ⟨Has.pure (⟨by dsimp only;omega,wY hinv10.2 hx26 hx28 rfl (by first | assumption | omega)⟩),Has.of mT0,trivial⟩ (bI.drop 4)
  have hc61:=Int.not_lt.1 (of_decide_eq_false hc61);refine dC<|cM<|cM<|dB<|bC<|sr<|sp3 hT ?_;refine nn<|bF<|iI .head fun hcv=>?_;refine cS .head ?_;exact bO (⟨⟨V,cv,vs⟩,true⟩:EachV) rfl (bG rfl) (bG rfl) .nil ⟨cY (Has.of mT0) (Has.of mT2) hcv,Has.pure ((qU (by rw [hlr.1,hlr.2];exact zH hinv10.2 (by omega)) hka hkb).symm),trivial⟩ rfl
 have hlr:=none_rep (a:=a) (b:=b) (.inr ⟨hsa,hsb⟩);have hlx:=bLk hab hka hkb (.inr ⟨hsa,hsb⟩);refine bD<|sp hT ?_;refine ss (ldO hT (bJ kT1)) ?_;refine sp2 hT ?_;refine bZ (t':=false) (decide_eq_false (by omega)) ?_;refine sp hT ?_;refine sk4 ?_;refine sp hT ?_;refine nn<|cG rfl rfl ?_;refine bN<|bC<|bA<|sr<|sp hT ?_;refine ss (ldO hT (bJ .head)) ?_;refine sp2 hT ?_;refine bZ (t':=false) (decide_eq_false (by omega)) ?_;refine sp hT ?_;refine sk4 ?_;refine sp hT ?_;refine nn<|cG rfl rfl ?_;refine bN<|bC<|sr<|sp hT ?_;refine nn<|bA<|sr<|sp3 hT ?_;refine nn<|bX<|dR (t:=71) cH ?_;refine bE (cT []) (Has.each_nil) ?_;have hxy:a.values.list.length=b.values.list.length:=by first | (simp;done) | (simp;omega) | omega
 have hxl:a.values.list.length=a.values.list.length:=by first | rfl | simp
 have hxm:a.values.list.length≤1000000:=by omega
 refine dG (ι:=Nat×List PolV×Option Addr×Nat) [(0,_),(8,_),(9,_),(59,_)] ⟨rfl,rfl,rfl,rfl,trivial⟩ (fun⟨i,vs,V,cv⟩=>[(10,.slice V vs.length cv),(60,.int .i64 (i:Nat))]) (fun⟨i,vs,V,cv⟩=>[cH.row (.slice V vs.length cv) 71 vs]) (fun⟨i,vs,V,cv⟩=>[Fact.pure (i≤a.values.list.length∧uC op (cB a.values.list) (cB b.values.list) (cB vs) i),cT vs]) (fun⟨i,vs,V,cv⟩=>a.values.list.length-i) (0,[],none,0) ⟨rfl,rfl,trivial⟩ (.cons .head .nil) ⟨Has.pure (⟨by omega,uN op _ _⟩),Has.of mT0,trivial⟩ ?_;rintro⟨i,vs,V,cv⟩;dsimp only;refine bS (Has.of mT0) fun hinv10=>?_;have hvl:=hinv10.2.1;rw [bW] at hvl;refine sr<|sp hT ?_;refine nn<|bA<|bL rfl (fun hc61=>?_) (fun hc61=>?_)
 ·have hc61:=of_decide_eq_true hc61;refine bN<|bC<|bA<|bX<|sr<|sp2 hT ?_;refine nn<|bA<|cZ _ _ [(true,0),(true,1),(true,2),(true,3),(true,4),(true,5),(true,6),(true,7),(true,8),(false,9),(true,10),(true,11),(true,12),(true,13),(true,14)] dD (by decide+kernel) (.cons .head (.cons .head (.cons .head .nil))) bI.self ?_;refine puM hT ?_;refine puM hT ?_;refine puM hT ?_
  obtain⟨x34,hx35⟩: ∃x',a.values.list[i]?=some x':=⟨_,List.getElem?_eq_getElem (by omega)⟩
  refine stM rfl (bU hT (k:=i) (bK (Has.of pF)) rfl rfl rfl rfl rfl rfl rfl (by omega)) ?_;refine stM rfl (cE hT (cN.knows (bK (Has.of pF)) (k:=i) (x:=x34) hx35 0) rfl rfl rfl rfl rfl) ?_;refine puM hT ?_;refine puM hT ?_
  obtain⟨x36,hx37⟩: ∃x',b.values.list[i]?=some x':=⟨_,List.getElem?_eq_getElem (by omega)⟩
  refine stM rfl (bU hT (k:=i) (bK (Has.of mT4)) rfl rfl rfl rfl rfl rfl rfl (by omega)) ?_;refine stM rfl (cE hT (cN.knows (bK (Has.of mT4)) (k:=i) (x:=x36) hx37 0) rfl rfl rfl rfl rfl) ?_;refine cK (o:=_) rfl ?_;refine bS (fC (Has.each (Has.of mT9) (List.mem_of_getElem? hx35))) fun hpl=>?_;refine bS (fC (Has.each (Has.of mT3) (List.mem_of_getElem? hx37))) fun hql=>?_;refine gP hcf (hf x34 x36 hpl hql) rfl rfl rfl rfl rfl rfl rfl .nil ⟨(Has.each (Has.of mT9) (List.mem_of_getElem? hx35)),(Has.each (Has.of mT3) (List.mem_of_getElem? hx37)),trivial⟩ fun⟨A38,c39⟩=>?_;refine cL (.cons .head (.cons .head (.cons .head .nil))) (bI.drop 1) ?_;refine puM hT ?_;refine puM hT ?_;refine puM hT ?_;refine puM hT ?_;refine puM hT ?_;refine cQ<|bC<|bA<|sr<|sp2 hT ?_;refine nn<|bL rfl (fun hc77=>?_) (fun hc77=>?_)
  ·have hc77:=bne_iff_ne.1 hc77;refine sr<|sp2 hT ?_;refine nn<|bF<|bB<|bH<|bB<|bB<|bH<|bB ?_;exact bO (⟨⟨none,0,[]⟩,false⟩:EachV) rfl (bG rfl) (bG rfl) .nil ⟨dE,Has.pure ((rC (by rw [hlr.1,hlr.2];exact zZ hinv10.2 hx35 hx37 ‹_›) hka hkb).symm),trivial⟩ rfl
  have hc77:=bne_eq_false_iff_eq.1 hc77;refine bN<|bC<|bD<|sp2 hT ?_;refine fE (m:=⟨A38,c39,(op x34.list x36.list).1⟩) rfl rfl rfl rfl rfl fun b40=>?_;refine bE (cT (vs++[(⟨A38,c39,(op x34.list x36.list).1⟩:PolV)])) (Has.each_snoc (Has.of mT2) (Has.of mT0)) ?_;refine gJ kT1 (dF .head rfl) rfl rfl rfl rfl rfl rfl rfl (by simp;omega) fun A41 c42=>?_;refine sp hT ?_;refine dY<|cD<|bC<|bD<|sp hT ?_;refine bT (z':=(((i+1):Nat):Int)) (cP (by omega) (by omega)) ?_;refine sp hT ?_;refine nn ?_;exact cO (i+1,vs++[(⟨A38,c39,(op x34.list x36.list).1⟩:PolV)],A41,c42) (by dsimp only;omega) ⟨rfl,rfl,trivial⟩ ⟨rfl,rfl,rfl,rfl,trivial⟩ (.cons .head (.cons kT1 (.cons kT1 .nil))) ⟨Has.pure (⟨by dsimp only;omega,wY hinv10.2 hx35 hx37 rfl (by first | assumption | omega)⟩),Has.of mT0,trivial⟩ (bI.drop 4)
 have hc61:=Int.not_lt.1 (of_decide_eq_false hc61);refine dC<|cM<|cM<|dB<|bC<|sr<|sp3 hT ?_;refine nn<|bF<|iI .head fun hcv=>?_;refine cS .head ?_;exact bO (⟨⟨V,cv,vs⟩,true⟩:EachV) rfl (bG rfl) (bG rfl) .nil ⟨cY (Has.of mT0) (Has.of mT2) hcv,Has.pure ((qU (by rw [hlr.1,hlr.2];exact zH hinv10.2 (by omega)) hka hkb).symm),trivial⟩ rfl
def vE:Flat (Sl PolV):=slE PolV
theorem polssInfo: ∃i:TypeInfo,Tryz.prog.info? 65=some i∧i.zero=some (.slice none 0 0)∧i.size=1∧i.bytes=24:=by
 have h:(Tryz.prog.info? 65).map (fun i=>(i.zero,i.size,i.bytes))=some (some (.slice none 0 0),1,24):=by kernel_rfl
 cases hi:Tryz.prog.info? 65 with
 | none=>simp [hi] at h
 | some i=>simp [hi] at h;exact⟨i,rfl,h.1,h.2.1,h.2.2⟩
theorem zeros_pol(m:Nat):(Builtin.zeroCells (Value.slice none 0 0).cells m).toList=cH.all (List.replicate m kJ):=madePols m
theorem bHx{α:Type}{L:List (List α)}{i:Nat}{l:List α}(h:L[i]?=some l):(L.take i).flatten++l=(L.take (i+1)).flatten:=by
 obtain⟨hi,e⟩:=List.getElem?_eq_some_iff.1 h;rw [List.take_succ_eq_append_getElem hi,e,List.flatten_append];simp
theorem bJv{α:Type}{L:List (List α)}(i:Nat):(L.take i).flatten.length≤L.flatten.length:=by
 conv=>rhs;rw [←List.take_append_drop i L]
 rw [List.flatten_append,List.length_append];omega
theorem bKb{β:fV}{n:Nat}{Γ:Env}{H:List cA}{F:List Fact}{Q:Exit→Act→World→Prop}{ops:Array Oper}{rest:List Oper}{o:Oper}{d m:Nat}{x y:Operand}(hw:want ops Γ o=some true)(ho:o.op= .call {callee:= .builtin .append,args:= #[x,y],argTypes:= #[65,3]})(hd:o.dst=some d)(hn:Nat.blt d n=true)
  (hx:Γ.ev x=some (.slice none 0 0)) (hy:Γ.ev y=some (.int .i64 (m:Nat))) (h0:0<m) (hm:m≤1000000)
  (k: ∀A' cap',At β n ((d,.slice A' (List.replicate m kJ).length cap')::Γ) (cH.row (.slice A' (List.replicate m kJ).length cap') 71 (List.replicate m kJ)::H) F (wpList Tryz.prog ops Q rest)):At β n Γ H F (wpList Tryz.prog ops Q (o::rest)):=by
 obtain⟨i,hi,hz,hs,hb⟩:=vS;refine dR (t:=71) cH ?_;refine jO hw fun a w S f s hF=>?_;have hrun:=Lib.run_append_nil_zeros (P:=Tryz.prog) w 65 3 o.type 71 i (.slice none 0 0) .i64 .i64 Tryz.underlying65 Tryz.underlying3 hi hz m h0 (by omega) (by omega) (by rw [hb];omega)
 have hr':(execOp a.eval o).run Tryz.prog w= .ok (.value (.slice (some ⟨w.heap.size,0,none⟩) m (grownCap w m 0 71))) (w.drew.alloc (.cells (Builtin.zeroCells (Value.slice none 0 0).cells m++Builtin.zeroCells (Value.slice none 0 0).cells (grownCap w m 0 71-m)) 71)):=by
  unfold execOp;simp only [ho,resolve,invoke,builtin,Sem.run_bind,Sem.run_pure,Result.andThen_ok,List.map_toArray,List.map_cons,List.map_nil,f.ev hx,f.ev hy,hrun]
 have h63:m≤maxLen:=by simp only [maxLen];omega
 have hge:=grownCap_ge w m 0 71;have hcm:=grownCap_le_maxLen w m 0 71 h63;have hl:(List.replicate m kJ).length=m:=List.length_replicate;unfold Oper.wp;rw [hr',Oper.upon_value,hd];have hK:=k (some ⟨w.heap.size,0,none⟩) (grownCap w m 0 71);rw [hl] at hK;refine hK _ _ S (f.put (by simpa [Nat.blt_eq] using hn) _) ?_ ?_
 ·refine s.swap_row (v':= .slice (some ⟨w.heap.size,0,none⟩) m (grownCap w m 0 71)) (nB ⟨rfl,rfl,rfl,by simp,fun k hk _=>wC w.drew _ hk⟩) (.inr rfl) ?_;show World.ownsRow _ 0 71 cH.size _ (List.replicate m kJ).length (cH.all (List.replicate m kJ));rw [hl];have e0:(cH.all (List.replicate m kJ)).length=m:=by rw [cH.all_length,hl];exact Nat.mul_one m
  have e1:cH.size=1:=rfl;refine⟨by rw [e0,e1];omega,.inr ⟨w.heap.size,_,_,rfl,Nat.zero_le _,heap_alloc_new w.drew _,hge,hcm,?_,?_⟩⟩
  ·have hz1:(Value.slice none 0 0).cells.size=1:=rfl;simp only [Array.size_append,size_zeroCells,hz1,e1];omega
  ·have ez:(Builtin.zeroCells (Value.slice none 0 0).cells m).toList=cH.all (List.replicate m kJ):=zeros_pol m;rw [Array.toList_append,ez];have:m*cH.size=(cH.all (List.replicate m kJ)).length:=by rw [e0,e1];omega
   rw [this];exact List.take_left
 ·exact All.mono (w:=w) (fun _ h=>h) (fun b hb=>wC w.drew _ (s.zone b hb).1) hF
theorem nV{β:fV}{n:Nat}{Γ:Env}{H:List cA}{F:List Fact}{Q:Exit→Act→World→Prop}{ops:Array Oper}{rest:List Oper}{o:Oper}{d:Nat}{x y:Operand}{u v:Sl PolV}(hw:want ops Γ o=some true)(ho:o.op= .buildSlice 218 2 #[(0,x),(1,y)])(hd:o.dst=some d)(hn:Nat.blt d n=true)
  (hx:Γ.ev x=some (.slice u.addr u.list.length u.cap)) (hy:Γ.ev y=some (.slice v.addr v.list.length v.cap)) (k: ∀b,At β n ((d,.slice (some ⟨b,0,none⟩) 2 2)::Γ) (.obj b (.cells (vE.all [u,v]).toArray 65)::H) F (wpList Tryz.prog ops Q rest)):At β n Γ H F (wpList Tryz.prog ops Q (o::rest)):=by
 obtain⟨i,hi,hz,hs,_⟩:=polssInfo;refine zO (m:=2) hw ho hd hn (fun a w f=>?_) k
 have:=run_buildSlice (P:=Tryz.prog) w 218 65 2 #[(0,a.eval x),(1,a.eval y)] (vE.all [u,v]).toArray i (.slice none 0 0) Tryz.underlying218 hi hz (by omega) (by omega) (by
  rw [f.ev hx,f.ev hy,hs]
  kernel_rfl)
 simpa using this
theorem lY{F:List Fact}{xs ys:List PolV}(h:Has F (cT xs))(k:Has F (cT ys)):Has F (cT (xs++ys)):=fun S w q x hx=>by
 rcases List.mem_append.1 hx with hx | hx
 ·exact h S w q x hx
 ·exact k S w q x hx
set_option maxRecDepth 100000 in
theorem growP_spec(n:Nat)(hn:n≤1000000):dX Tryz.prog 150 [.slice none 0 0,.int .i64 (n:Nat)] [] [] (fun(x:Option Addr×Nat)=> .slice x.1 0 x.2) (fun(x:Option Addr×Nat)=>[cH.row (.slice x.1 0 x.2) 71 []]) (fun _=>[]):=by
 have hT:=fI;refine cW Tryz.func150 rfl Tryz.ntmps150 rfl ?_;intro β hM;refine sr<|sp hT ?_;refine nn<|bA<|sr<|sp2 hT ?_;refine bZ (t':=false) (decide_eq_false (by omega)) ?_;refine nn<|cG rfl rfl ?_;refine bN<|bC<|bA<|sr<|sp2 hT ?_;refine ss (sti_cap Tryz.underlying65 rfl rfl) ?_;refine sp3 hT ?_;refine bT (z':=((0:Nat):Int)) (by decide) ?_;refine sp hT ?_;refine bT (z':=((n:Nat):Int)) (cP (by omega) (by omega)) ?_;refine sp hT ?_;refine nn<|sr<|sp2 hT ?_;refine nn<|bL rfl (fun hc16=>?_) (fun hc16=>?_)
 ·have hc16:=of_decide_eq_true hc16;refine bD<|sp2 hT ?_;refine ss (sti_cap Tryz.underlying65 rfl rfl) ?_;refine ss (lC hT (k:=0) rfl rfl rfl rfl rfl rfl (by omega)) ?_;refine sp hT ?_;refine bKb rfl rfl rfl rfl rfl rfl (by omega) (by omega) fun A1 c2=>?_;refine sp2 hT ?_;refine iZ hT (k:=0) .head rfl rfl rfl rfl rfl rfl rfl rfl rfl (by omega) ?_;refine sp hT ?_;refine nn<|sr<|sp2 hT ?_;refine nn<|bF ?_;exact bV (A1,c2) rfl (bG rfl) (.cons .head .nil) trivial rfl
 have hc16:=Int.not_lt.1 (of_decide_eq_false hc16);refine bN<|bC<|sr<|sp2 hT ?_;refine nn<|bF<|dR (t:=71) cH ?_;exact bV (none,0) rfl (bG rfl) (.cons .head .nil) trivial rfl
set_option maxRecDepth 100000 in
theorem nT(A:Option Addr)(c:Nat)(xs:List (Sl PolV))(hx:xs.length≤1000000)(ht:(xs.map (·.list)).flatten.length≤1000000):dX Tryz.prog 86 [.slice A xs.length c] [] [vE.sl (.slice A xs.length c) xs,Fact.each xs dO] (fun(x:Option Addr×Nat)=> .slice x.1 (xs.map (·.list)).flatten.length x.2) (fun(x:Option Addr×Nat)=>[cH.row (.slice x.1 (xs.map (·.list)).flatten.length x.2) 71 (xs.map (·.list)).flatten]) (fun _=>[]):=by
 have hT:=fI;refine cW Tryz.func86 rfl Tryz.ntmps86 rfl ?_;intro β hM;refine sr<|sp hT ?_;refine nn<|sr<|sp hT ?_;refine nn<|bA<|sr<|sp3 hT ?_;refine nn<|bX<|dG (ι:=Nat×Nat) [(0,_),(9,_),(10,_)] ⟨rfl,rfl,rfl,trivial⟩ (fun⟨i,n⟩=>[(3,.int .i64 (n:Nat)),(11,.int .i64 (i:Nat))]) (fun _=>[]) (fun⟨i,n⟩=>[Fact.pure (i≤xs.length∧n=((xs.map (·.list)).take i).flatten.length)]) (fun⟨i,n⟩=>xs.length-i) (0,0) ⟨rfl,rfl,trivial⟩ .nil ⟨Has.pure (⟨by omega,rfl⟩),trivial⟩ ?_;rintro⟨i,n⟩;dsimp only;refine bS (Has.of mT0) fun hinv3=>?_;refine sr<|sp hT ?_;refine nn<|bA<|bL rfl (fun hc12=>?_) (fun hc12=>?_)
 ·have hc12:=of_decide_eq_true hc12;refine bN<|bC<|bA<|bX<|sr ?_
  obtain⟨x1,hx2⟩: ∃x',xs[i]?=some x':=⟨_,List.getElem?_eq_getElem (by omega)⟩
  refine ss (bU hT (k:=i) (bK (Has.of mT1)) rfl rfl rfl rfl rfl rfl rfl (by omega)) ?_;refine ss (cE hT (cN.knows (bK (Has.of mT1)) (k:=i) (x:=x1) hx2 0) rfl rfl rfl rfl rfl) ?_;have hL:=bEy (f:=fun s:Sl PolV=>s.list) hx2;have hfl:=bHx hL;have hfn:=congrArg List.length hfl;rw [List.length_append] at hfn;have hfm:=bJv (L:=(xs.map (·.list))) (i+1);refine bE (cH.sl (.slice x1.addr x1.list.length x1.cap) x1.list) (dL (Has.each (Has.of mT2) (List.mem_of_getElem? hx2))) ?_;refine sp hT ?_;refine nn<|sr<|sp4 hT ?_;refine bT (z':=(((n+x1.list.length):Nat):Int)) (cP (by omega) (by omega)) ?_;refine sp hT ?_;refine nn<|sr<|sp2 hT ?_;refine bZ (t':=false) (decide_eq_false (by omega)) ?_;refine nn<|cG rfl rfl ?_;refine bN<|cD<|bC<|bD<|sp hT ?_;refine bT (z':=(((i+1):Nat):Int)) (cP (by omega) (by omega)) ?_;refine sp hT ?_;refine nn ?_;exact cO (i+1,n+x1.list.length) (by dsimp only;omega) ⟨rfl,rfl,trivial⟩ ⟨rfl,rfl,rfl,trivial⟩ .nil ⟨Has.pure (⟨by dsimp only;omega,by dsimp only;omega⟩),trivial⟩ (bI.drop 2)
 have hc12:=Int.not_lt.1 (of_decide_eq_false hc12);refine dC<|cM<|cM<|dB<|bC<|sr<|sp hT ?_;refine bR Tryz.func150 (growP_spec n (by have:=bJv (L:=(xs.map (·.list))) i;omega)) rfl rfl .nil trivial fun⟨A3,c4⟩=>?_;refine sp hT ?_;refine nn<|bA<|sr<|sp3 hT ?_;refine nn<|bX<|dG (ι:=Nat×Option Addr×Nat) [(25,_),(26,_)] ⟨rfl,rfl,trivial⟩ (fun⟨i,A1,c1⟩=>[(6,.slice A1 ((xs.map (·.list)).take i).flatten.length c1),(27,.int .i64 (i:Nat))]) (fun⟨i,A1,c1⟩=>[cH.row (.slice A1 ((xs.map (·.list)).take i).flatten.length c1) 71 ((xs.map (·.list)).take i).flatten]) (fun⟨i,A1,c1⟩=>[Fact.pure (i≤xs.length)]) (fun⟨i,A1,c1⟩=>xs.length-i) (0,A3,c4) ⟨rfl,rfl,trivial⟩ (.cons .head .nil) ⟨Has.pure (Nat.zero_le _),trivial⟩ ?_;rintro⟨i,A1,c1⟩;dsimp only;refine bS (Has.of mT0) fun hinv11=>?_;refine sr<|sp hT ?_;refine nn<|bA<|bL rfl (fun hc28=>?_) (fun hc28=>?_)
 ·have hc28:=of_decide_eq_true hc28;refine bN<|bC<|bA<|bX<|sr ?_
  obtain⟨x5,hx6⟩: ∃x',xs[i]?=some x':=⟨_,List.getElem?_eq_getElem (by omega)⟩
  refine ss (bU hT (k:=i) (bK (Has.of mT2)) rfl rfl rfl rfl rfl rfl rfl (by omega)) ?_;refine ss (cE hT (cN.knows (bK (Has.of mT2)) (k:=i) (x:=x5) hx6 0) rfl rfl rfl rfl rfl) ?_;have hL:=bEy (f:=fun s:Sl PolV=>s.list) hx6;have hfl:=bHx hL;have hfn:=congrArg List.length hfl;rw [List.length_append] at hfn;have hfm:=bJv (L:=(xs.map (·.list))) (i+1);refine bE (cH.sl (.slice x5.addr x5.list.length x5.cap) x5.list) (dL (Has.each (Has.of mT3) (List.mem_of_getElem? hx6))) ?_;refine sp hT ?_;refine nn<|bD<|sp2 hT ?_;refine gJ .head (bK (Has.of mT0)) rfl rfl rfl rfl rfl rfl rfl (by omega) fun A7 c8=>?_;rw [hfl];refine sp hT ?_;refine dY<|cD<|bC<|bD<|sp hT ?_;refine bT (z':=(((i+1):Nat):Int)) (cP (by omega) (by omega)) ?_;refine sp hT ?_;refine nn ?_;exact cO (i+1,A7,c8) (by dsimp only;omega) ⟨rfl,rfl,trivial⟩ ⟨rfl,rfl,trivial⟩ (.cons .head .nil) ⟨Has.pure (by omega),trivial⟩ (bI.drop 2)
 have hc28:=Int.not_lt.1 (of_decide_eq_false hc28);refine dC<|cM<|cM<|dB<|bC<|sr<|sp2 hT ?_;refine nn<|bF ?_;rw [List.take_of_length_le (by simp;omega)];exact bV (A1,c1) rfl (bG rfl) (.cons .head .nil) trivial rfl
theorem uS{a:TyV}(h:WfT a.t):a.sides.list.length≤4:=by
 have:=h.len;unfold TyV.t at this
 rwa [bW] at this
theorem bHz{a:TyV}(h:WfT a.t):a.values.list.length≤4:=by
 have e:a.t.values.length≤4:=by
  cases k:a.t.known
  ·rw [h.un k];decide
  ·exact(h.kn k).1
 unfold TyV.t at e
 rwa [bW] at e
def bEi (f:Pol→Bool)(l:List PolV)(i:Nat):Prop:=((cB l).take i).any f=false
theorem bJf(f:Pol→Bool)(l:List PolV):bEi f l 0:=rfl
theorem bLs{f:Pol→Bool}{l:List PolV}{i:Nat}{p:PolV}(h:bEi f l i)(hp:l[i]?=some p)(k:f p.list=false):bEi f l (i+1):=by
 obtain⟨hi,e⟩:=List.getElem?_eq_some_iff.1 (iA hp);unfold bEi at*;rw [List.take_succ_eq_append_getElem hi,e,List.any_append,h];simp [k]
theorem anyT_bad{f:Pol→Bool}{l:List PolV}{i:Nat}{p:PolV}(hp:l[i]?=some p)(k:f p.list=true):(cB l).any f=true:=
 List.any_eq_true.2 ⟨p.list,List.mem_of_getElem? (iA hp),k⟩
theorem anyT_end{f:Pol→Bool}{l:List PolV}{i:Nat}(h:bEi f l i)(hi:l.length≤i):(cB l).any f=false:=by
 unfold bEi at h
 rwa [List.take_of_length_le (by rw [bW];exact hi)] at h
theorem lenT(l:List PolV){n:Nat}(h:n<l.length):n<(cB l).length:=by rwa [bW]
theorem lenT'(l:List PolV){n:Nat}(h:l.length≤n): ¬n<(cB l).length:=by rw [bW];omega
theorem rhT_a{a b:TyP}(h:1<a.sides.length):yL a b=(a,90):=if_pos h
theorem rhT_b{a b:TyP}(h: ¬1<a.sides.length)(k:a.known=false):yL a b=(a,92):=(if_neg h).trans (if_pos k)
theorem rhT_c{a b:TyP}(h: ¬1<a.sides.length)(k:a.known=true)(g:(a.values.any fun v=>!lS v)=true):yL a b=(a,93):=by
 unfold yL;rw [if_neg h,if_neg (by simp [k]),if_pos g]
theorem rhT_d{a b:TyP}(h: ¬1<a.sides.length)(k:a.known=true)(g:(a.values.any fun v=>!lS v)=false)(c:(b.sides.any fun s=>!gR s 1)=true):yL a b=(a,94):=by
 unfold yL;rw [if_neg h,if_neg (by simp [k]),if_neg (by simp [g]),if_pos c]
theorem rhT_e{a b:TyP}(h: ¬1<a.sides.length)(k:a.known=true)(g:(a.values.any fun v=>!lS v)=false)(c:(b.sides.any fun s=>!gR s 1)=false):yL a b=(⟨a.values,false,[]⟩,0):=by
 unfold yL;rw [if_neg h,if_neg (by simp [k]),if_neg (by simp [g]),if_neg (by simp [c])]
set_option maxRecDepth 100000 in
theorem rhoT_spec(a b:TyV)(ha:WfT a.t)(hb:WfT b.t):dX Tryz.prog 145 [.agg #[.slice a.sides.addr a.sides.list.length a.sides.cap,.bool a.known,.slice a.values.addr a.values.list.length a.values.cap],.agg #[.slice b.sides.addr b.sides.list.length b.sides.cap,.bool b.known,.slice b.values.addr b.values.list.length b.values.cap]] [] [tyF a,tyF b] (fun(x:TyV)=> .tuple #[tyC x,.int .i64 (yL a.t b.t).2]) (fun _=>[]) (fun(x:TyV)=>[tyF x,Fact.pure (x.t=(yL a.t b.t).1)]):=by
 have hT:=fI;have hsa:=uS ha;have hva:=bHz ha;have hsb:=uS hb;have hvb:=bHz hb;generalize hR:yL a.t b.t=r;refine cW Tryz.func145 rfl Tryz.ntmps145 rfl ?_;intro β hM;refine bA<|bE (dO a.sides) (lV (Has.of mT0)) ?_;refine bE (cH.sl (.slice a.sides.addr a.sides.list.length a.sides.cap) a.sides.list) (dL (Has.of mT0)) ?_;refine bE (cT a.sides.list) (dN (Has.of mT1)) ?_;refine bS (dT (Has.of mT2)) fun hc_as=>?_;refine bE (dO a.values) (lO (Has.of mT3)) ?_;refine bE (cH.sl (.slice a.values.addr a.values.list.length a.values.cap) a.values.list) (dL (Has.of mT0)) ?_;refine bE (cT a.values.list) (dN (Has.of mT1)) ?_;refine bS (dT (Has.of mT2)) fun hc_av=>?_;refine bE (dO b.sides) (lV (Has.of mT7)) ?_;refine bE (cH.sl (.slice b.sides.addr b.sides.list.length b.sides.cap) b.sides.list) (dL (Has.of mT0)) ?_;refine bE (cT b.sides.list) (dN (Has.of mT1)) ?_;refine bS (dT (Has.of mT2)) fun hc_bs=>?_;refine bE (dO b.values) (lO (Has.of pF)) ?_;refine bE (cH.sl (.slice b.values.addr b.values.list.length b.values.cap) b.values.list) (dL (Has.of mT0)) ?_;refine bE (cT b.values.list) (dN (Has.of mT1)) ?_;refine bS (dT (Has.of mT2)) fun hc_bv=>?_;refine bD<|hQ rfl rfl rfl rfl rfl rfl fun b1=>?_;refine hQ rfl rfl rfl rfl rfl rfl fun b2=>?_;refine bY rfl rfl rfl rfl oH rfl fun b3=>?_;refine sp hT ?_;refine nn<|bA<|bX<|sr<|sp hT ?_;refine ss (ldO hT (bJ kT2)) ?_;refine sp3 hT ?_;refine nn<|bL rfl (fun hc10=>?_) (fun hc10=>?_)
 ·have hc10:=of_decide_eq_true hc10;refine sr<|ss (ldN hT (bJ kT2)) ?_;refine sto hT .head ?_;refine sp hT ?_;refine nn<|bF<|bH<|bB ?_;have hr:=hR.symm.trans (rhT_a (lenT _ (by omega)));subst hr;exact bO (⟨a.sides,a.known,a.values⟩:TyV) rfl (bM hT (bJ .head) rfl rfl rfl rfl) (bG rfl) .nil ⟨(cU (x:=⟨a.sides,a.known,a.values⟩) (Has.of pZ) (Has.of mT8)),Has.pure rfl,trivial⟩ rfl
 have hc10:=Int.not_lt.1 (of_decide_eq_false hc10);refine sr<|sp hT ?_;refine ss (ldO hT (fN kT2)) ?_;refine sp2 hT ?_;refine nn<|bL rfl (fun hc16=>?_) (fun hc16=>?_)
 ·have hc16:=fX hc16;refine sr<|ss (ldN hT (bJ kT2)) ?_;refine sto hT .head ?_;refine sp hT ?_;refine nn<|bF<|bH<|bB ?_;have hr:=hR.symm.trans (rhT_b (lenT' _ (by omega)) ‹_›);subst hr;exact bO (⟨a.sides,a.known,a.values⟩:TyV) rfl (bM hT (bJ .head) rfl rfl rfl rfl) (bG rfl) .nil ⟨(cU (x:=⟨a.sides,a.known,a.values⟩) (Has.of pZ) (Has.of mT8)),Has.pure rfl,trivial⟩ rfl
 have hc16:=fP hc16;refine bN<|cD<|bC<|bA<|sr<|sp hT ?_;refine ss (ldO hT (dI kT2)) ?_;refine sp2 hT ?_;refine nn<|bX<|dG (ι:=Nat) [(2,_),(3,_),(4,_),(22,_),(23,_)] ⟨rfl,rfl,rfl,rfl,rfl,trivial⟩ (fun i=>[(24,.int .i64 (i:Nat))]) (fun _=>[]) (fun i=>[Fact.pure (i≤a.values.list.length∧bEi (fun v=>!lS v) a.values.list i)]) (fun i=>a.values.list.length-i) 0 ⟨rfl,trivial⟩ .nil ⟨Has.pure (⟨by omega,bJf _ _⟩),trivial⟩ ?_;rintro i;refine bS (Has.of mT0) fun hinv6=>?_;refine sr<|sp hT ?_;refine nn<|bA<|bL rfl (fun hc25=>?_) (fun hc25=>?_)
 ·have hc25:=of_decide_eq_true hc25;refine bN<|bC<|bA<|bX<|sr ?_
  obtain⟨x4,hx5⟩: ∃x',a.values.list[i]?=some x':=⟨_,List.getElem?_eq_getElem (by omega)⟩
  refine ss (bU hT (k:=i) (bK (Has.of mT8)) rfl rfl rfl rfl rfl rfl rfl (by omega)) ?_;refine ss (cE hT (cN.knows (bK (Has.of mT8)) (k:=i) (x:=x4) hx5 0) rfl rfl rfl rfl rfl) ?_;refine sp hT ?_;refine nn<|sr<|sp hT ?_;refine bS (fC (Has.each (Has.of mT7) (List.mem_of_getElem? hx5))) fun hpl6=>?_;refine bR Tryz.func25 (bId (p:=x4) hpl6) rfl rfl .nil ⟨(Has.each (Has.of mT7) (List.mem_of_getElem? hx5)),trivial⟩ fun _=>?_;refine sp hT ?_;refine nn<|bL rfl (fun hc30=>?_) (fun hc30=>?_)
  ·have hc30:=fX hc30;refine sr<|ss (ldN hT (bJ kT2)) ?_;refine sto hT .head ?_;refine sp hT ?_;refine nn<|bF<|bH<|bB<|bB<|bH<|bB ?_;have hr:=hR.symm.trans (rhT_c (lenT' _ (by omega)) ‹_› (anyT_bad (f:=(fun v=>!lS v)) hx5 ‹_›));subst hr;exact bO (⟨a.sides,a.known,a.values⟩:TyV) rfl (bM hT (bJ .head) rfl rfl rfl rfl) (bG rfl) .nil ⟨(cU (x:=⟨a.sides,a.known,a.values⟩) (Has.of jV) (Has.of mT9)),Has.pure rfl,trivial⟩ rfl
  have hc30:=fP hc30;refine bN<|cD<|bC<|bD<|sp hT ?_;refine bT (z':=(((i+1):Nat):Int)) (cP (by omega) (by omega)) ?_;refine sp hT ?_;refine nn ?_;exact cO (i+1) (by omega) ⟨rfl,trivial⟩ ⟨rfl,rfl,rfl,rfl,rfl,trivial⟩ (.cons .head (.cons .head (.cons .head .nil))) ⟨Has.pure (⟨by omega,bLs hinv6.2 hx5 (by simpa using (by assumption:(!_)=false))⟩),trivial⟩ (bI.drop 1)
 have hc25:=Int.not_lt.1 (of_decide_eq_false hc25);refine dC<|cM<|cM<|dB<|bC<|bA<|bA ?_;have hgv:=anyT_end hinv6.2 (by omega);refine bD<|sp hT ?_;refine ss (ldO hT (bJ kT1)) ?_;refine sp2 hT ?_;refine nn<|bX<|dG (ι:=Nat) [(2,_),(4,_),(34,_),(35,_)] ⟨rfl,rfl,rfl,rfl,trivial⟩ (fun i=>[(36,.int .i64 (i:Nat))]) (fun _=>[]) (fun i=>[Fact.pure (i≤b.sides.list.length∧bEi (fun s=>!gR s 1) b.sides.list i)]) (fun i=>b.sides.list.length-i) 0 ⟨rfl,trivial⟩ .nil ⟨Has.pure (⟨by omega,bJf _ _⟩),trivial⟩ ?_;rintro i;refine bS (Has.of mT0) fun hinv12=>?_;refine sr<|sp hT ?_;refine nn<|bA<|bL rfl (fun hc37=>?_) (fun hc37=>?_)
 ·have hc37:=of_decide_eq_true hc37;refine bN<|bC<|bA<|bX<|sr ?_
  obtain⟨x7,hx8⟩: ∃x',b.sides.list[i]?=some x':=⟨_,List.getElem?_eq_getElem (by omega)⟩
  refine ss (bU hT (k:=i) (bK (Has.of mT6)) rfl rfl rfl rfl rfl rfl rfl (by omega)) ?_;refine ss (cE hT (cN.knows (bK (Has.of mT6)) (k:=i) (x:=x7) hx8 0) rfl rfl rfl rfl rfl) ?_;refine sp hT ?_;refine nn<|sr<|sp hT ?_;refine bS (fC (Has.each (Has.of mT5) (List.mem_of_getElem? hx8))) fun hpl9=>?_;refine bR Tryz.func206 (rR (p:=x7) 1 hpl9) rfl rfl .nil ⟨(Has.each (Has.of mT5) (List.mem_of_getElem? hx8)),trivial⟩ fun _=>?_;refine sp hT ?_;refine nn<|bL rfl (fun hc42=>?_) (fun hc42=>?_)
  ·have hc42:=fX hc42;refine sr<|ss (ldN hT (bJ kT2)) ?_;refine sto hT .head ?_;refine sp hT ?_;refine nn<|bF<|bH<|bB<|bB<|bH<|bB ?_;have hr:=hR.symm.trans (rhT_d (lenT' _ (by omega)) ‹_› hgv (anyT_bad (f:=(fun s=>!gR s 1)) hx8 ‹_›));subst hr;exact bO (⟨a.sides,a.known,a.values⟩:TyV) rfl (bM hT (bJ .head) rfl rfl rfl rfl) (bG rfl) .nil ⟨(cU (x:=⟨a.sides,a.known,a.values⟩) (Has.of lE) (Has.of pF)),Has.pure rfl,trivial⟩ rfl
  have hc42:=fP hc42;refine bN<|cD<|bC<|bD<|sp hT ?_;refine bT (z':=(((i+1):Nat):Int)) (cP (by omega) (by omega)) ?_;refine sp hT ?_;refine nn ?_;exact cO (i+1) (by omega) ⟨rfl,trivial⟩ ⟨rfl,rfl,rfl,rfl,trivial⟩ (.cons .head (.cons .head (.cons .head .nil))) ⟨Has.pure (⟨by omega,bLs hinv12.2 hx8 (by simpa using (by assumption:(!_)=false))⟩),trivial⟩ (bI.drop 1)
 have hc37:=Int.not_lt.1 (of_decide_eq_false hc37);refine dC<|cM<|cM<|dB<|bC<|sr<|sp hT ?_;refine ss (ldO hT (dI kT2)) ?_;refine bR Tryz.func81 (dW a.values.addr (a.values.list.length) a.values.cap) rfl rfl .nil trivial fun _=>?_;refine sto hT .head ?_;refine sp hT ?_;refine nn<|bF ?_;have hr:=hR.symm.trans (rhT_e (lenT' _ (by omega)) ‹_› hgv (anyT_end hinv12.2 (by omega)));subst hr;exact bO (⟨a.values,false,⟨none,0,[]⟩⟩:TyV) rfl (bM hT (bJ .head) rfl rfl rfl rfl) (bG rfl) .nil ⟨(cU (x:=⟨a.values,false,⟨none,0,[]⟩⟩) (Has.of pF) dE),Has.pure rfl,trivial⟩ rfl
end Go.Proofs.YtbgdphbebhjpiaaGreatDoor
