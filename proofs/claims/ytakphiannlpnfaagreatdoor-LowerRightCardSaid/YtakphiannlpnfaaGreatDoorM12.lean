/- Texts of one proof, one behind the other: RepT, EachT, LanesL, PrimL, ConcA, ConcP, RhoT, CatT. -/
import Derived.Test.YtakphiannlpnfaaGreatDoorM2
import Derived.Test.YtakphiannlpnfaaGreatDoorM11
import Derived.Test.YtakphiannlpnfaaGreatDoorM10
import Derived.Test.YtakphiannlpnfaaGreatDoorShelfB
import Derived.Lib.AppendZeros
namespace Go.Proofs.YtakphiannlpnfaaGreatDoor
open Go.RowKit Go.Proofs.Tryz
set_option maxRecDepth 100000
theorem bitsMul_spec(x y:Nat)(hx:x<18446744073709551616)(hy:y<18446744073709551616):cM prog 139 [.int .u64 (x:Nat),.int .u64 (y:Nat)] [] [] (fun _:Unit=> .tuple #[.int .u64 ((x*y/18446744073709551616:Nat):Int),.int .u64 ((x*y%18446744073709551616:Nat):Int)]) (fun _=>[]) (fun _=>[]):=
 bDp fun _ w _=>Tryz.bits_Mul x y hx hy w
def lY:PolV:=⟨none,0,[]⟩
theorem polsize:(prog.info? 47).map (·.size)=some 1:=n9
theorem madePols(m:Nat):(madeCells (Value.slice none 0 0).cells (m*1)).toList=bS.all (List.replicate m lY):=by
 have e: ∀m,bS.all (List.replicate m lY)=List.replicate m (.slice none 0 0):=fun m=>by
  induction m with
  | zero=>rfl
  | succ m ih=>rw [List.replicate_succ,List.replicate_succ,←ih];rfl
 rw [e];unfold madeCells;apply List.ext_getElem
 ·simp
 ·intro i h1 h2;simp [Value.cells,Nat.mod_one]
theorem dQ.pre{β:dF}{H:List bH}{F:List Fact}{α:Type}{E:Flat α}{A:Option Addr}{xs:List α}(h:dQ β H F E A xs)(r:Nat):dQ β H F E A (xs.take r):=fun w S s hF k x hk=>by
 rw [List.getElem?_take] at hk;split at hk
 ·exact h w S s hF k x hk
 ·cases hk
section
variable {β : dF} {n : Nat} {Γ : Env} {H : List bH} {F : List Fact} {Q : Exit → Act → World → Prop} {ops : Array Oper} {rest : List Oper} {o : Oper} {d : Nat}
theorem at_makePols{m:Nat}{x y:Operand}(hw:want ops Γ o=some true)(ho:o.op= .makeSlice 41 x y)(hd:o.dst=some d)(hn:Nat.blt d n=true)
  (hx:Γ.ev x=some (.int .i64 (m:Nat))) (hy:Γ.ev y=some (.int .i64 (m:Nat))) (hm:m≤1000000)
  (k: ∀b,At β n ((d,.slice (some ⟨b,0,none⟩) m m)::Γ) (bS.row (.slice (some ⟨b,0,none⟩) m m) 47 (List.replicate m lY)::H) F (wpList prog ops Q rest)):At β n Γ H F (wpList prog ops Q (o::rest)):=by
 obtain⟨i,hi,hz,hs,hb⟩:=bAz;exact at_make (E:=bS) hw ho hd hn hx hy underlying41 hi hz hs (by rw [hb];omega) (by simp [maxLen];omega) (madePols m) o6 k
theorem bMc{x y:Operand}{t':TypeId}{g c cap m q l lc s:Nat}{A:Option Addr}{xs ys:List PolV}{H':List bH}(hr:dQ β H F bS A ys)(hw:want ops Γ o=some true)
  (ho:o.op= .call {callee:= .builtin .copy,args:= #[x,y],argTypes:= #[41,41]}) (hd:o.dst=some d) (hn:Nat.blt d n=true)
  (hx:Γ.ev x=some (.slice (some ⟨g,q,none⟩) l lc)) (hm:xs.length=m) (hy:Γ.ev y=some (.slice A s c)) (hmin:ys.length=Nat.min s l) (hq:q+ys.length≤m) (hH:cD H (bS.row (.slice (some ⟨g,0,none⟩) m cap) t' xs) H')
  (k:At β n ((d,.int .i64 (ys.length:Nat))::Γ) (bS.row (.slice (some ⟨g,0,none⟩) m cap) t' (xs.take q++ys++xs.drop (q+ys.length))::H') F (wpList prog ops Q rest)):At β n Γ H F (wpList prog ops Q (o::rest)):=
 iY hw fun a w S f st hk=>by
  have hl:(bS.all ys).length=ys.length:=by rw [bS.all_length];exact Nat.mul_one _
  have hlx:(bS.all xs).length=m:=by rw [bS.all_length,hm];exact Nat.mul_one _
  have s2:=st.perm hH.perm;have hown:w.ownsRow 0 t' 1 (.slice (some ⟨g,0,none⟩) m cap) xs.length (bS.all xs):=st.ok _ hH.mem;rw [hm] at hown
  have hcp:(Builtin.copy_ #[41,41] o.type #[.slice (some ⟨g,q,none⟩) l lc,.slice A s c]).run prog w= .ok (goInt ys.length) (w.setCells g q (bS.all ys)):=by
   by_cases h0:0<ys.length
   ·obtain⟨b,off,rfl,hb⟩:=hr.cells st hk h0;have:=run_copy_cells (P:=prog) w 41 41 o.type 47 g q l lc ⟨b,off,none⟩ s c (bS.all ys) underlying41 polsize (by rw [hl];exact hmin) hb
     (fun j hj=>by
      rw [World.ownsRow.cellAt hown _ n7,List.getElem?_eq_getElem (by rw [hlx];omega)]
      rfl) (fun j _=>World.ownsRow.frozenAt hown _) bS.all_one
    rwa [hl] at this
   ·have e0:ys=[]:=List.length_eq_zero_iff.1 n7;subst e0;exact run_copy_none (P:=prog) w _ _ o.type 47 _ A l lc s c underlying41 polsize hmin.symm
  have hr':(execOp a.eval o).run prog w= .ok (.value (.int .i64 (ys.length:Nat))) (w.setCells g q (bS.all ys)):=by
   unfold execOp;simp only [ho,resolve,invoke,builtin,Sem.run_bind,Sem.run_pure,Result.andThen_ok,List.map_toArray,List.map_cons,List.map_nil,f.ev hx,f.ev hy,hcp];rfl
  unfold Oper.wp;rw [hr',Oper.upon_value,hd];refine k _ _ S (f.put t6 _) (s2.swap (lM g _ q w) rfl rfl ?_) (All.mono (fun _ h=>h) (st.agree (lM g _ q w) (fun c hc e=>by subst e;exact(s2.own _ (List.mem_cons_self ..) _ rfl).2.2 hc)) hk);have:=tY (bS.all ys) q w (bS.all xs) hown;rw [bEr _ _ _ (by rw [hl,hlx];omega),hl] at this
  have ht:(bS.all xs).take q=bS.all (xs.take q):=by
   conv=>lhs;rw [←List.take_append_drop q xs,bS.all_append]
   rw [List.take_append_of_le_length (by rw [bS.all_length];simp;show q≤_*1;omega),List.take_of_length_le (by rw [bS.all_length];simp;show _*1≤q;omega)]
  have hdr:(bS.all xs).drop (q+ys.length)=bS.all (xs.drop (q+ys.length)):=by
   conv=>lhs;rw [←List.take_append_drop (q+ys.length) xs,bS.all_append]
   have e:(bS.all (xs.take (q+ys.length))).length=q+ys.length:=by rw [bS.all_length];simp;show _*1=_;omega
   rw [List.drop_append_of_le_length n7,List.drop_of_length_le n7,List.nil_append]
  rw [ht,hdr,←bS.all_append,←bS.all_append] at this;show World.ownsRow _ 0 t' 1 _ _ _;have e:(xs.take q++ys++xs.drop (q+ys.length)).length=m:=by simp;omega
  rw [e];exact this
end
def bWv (p:PolV)(n i:Nat)(cur:List PolV):Prop:=cur=List.replicate i p++List.replicate (n-i) lY∧i≤n
theorem rep_len{p:PolV}{n i:Nat}{cur:List PolV}(h:bWv p n i cur):cur.length=n:=by
 rw [h.1];have:=h.2;simp;omega
theorem rep_first(p:PolV)(n r:Nat)(hr:r=Nat.min 1 n):bWv p n r ((List.replicate n lY).take 0++List.take r [p]++(List.replicate n lY).drop (0+(List.take r [p]).length)):=by
 subst hr
 cases n with
 | zero=>exact⟨rfl,Nat.le_refl _⟩
 | succ n=>
  have:Nat.min 1 (n+1)=1:=by simp
  rw [this];exact⟨o6,n7⟩
theorem rep_step{p:PolV}{n i:Nat}{cur:List PolV}(h:bWv p n i cur)(hi:i<n):bWv p n (i+Nat.min i (n-i)) (cur.take i++cur.take (Nat.min i (n-i))++cur.drop (i+(cur.take (Nat.min i (n-i))).length)):=by
 obtain⟨rfl,hle⟩:=h;have hm:Nat.min i (n-i)≤i:=Nat.min_le_left _ _;have hm2:Nat.min i (n-i)≤n-i:=Nat.min_le_right _ _;generalize Nat.min i (n-i)=r at*
 have t1:(List.replicate i p++List.replicate (n-i) lY).take i=List.replicate i p:=by
  rw [List.take_append_of_le_length o6,List.take_of_length_le o6]
 have t2:(List.replicate i p++List.replicate (n-i) lY).take r=List.replicate r p:=by
  rw [List.take_append_of_le_length q8,List.take_replicate,Nat.min_eq_left hm]
 rw [t1,t2,List.length_replicate];refine⟨?_,n7⟩
 have t3:(List.replicate i p++List.replicate (n-i) lY).drop (i+r)=List.replicate (n-(i+r)) lY:=by
  rw [List.drop_append,List.drop_of_length_le o6,List.length_replicate,List.drop_replicate,List.nil_append]
  congr 1
  omega
 rw [t3,List.replicate_append_replicate]
theorem rep_l1(p:PolV)(n:Nat):(List.take (Nat.min 1 n) [p]).length=Nat.min 1 n:=by
 rw [List.length_take];exact Nat.min_eq_left (Nat.min_le_left 1 n)
theorem rep_l{p:PolV}{n i:Nat}{cur:List PolV}(h:bWv p n i cur):(cur.take (Nat.min i (n-i))).length=Nat.min i (n-i):=by
 rw [List.length_take,rep_len h];exact Nat.min_eq_left (Nat.le_trans (Nat.min_le_left _ _) h.2)
theorem min1_le(n:Nat):Nat.min 1 n≤n:=Nat.min_le_right _ _
theorem min1_or(n:Nat):1≤Nat.min 1 n∨n=0:=by
 cases n with
 | zero=>exact .inr rfl
 | succ n=>exact .inl o6
theorem cutA_in{b i k cap:Nat}(h:i<cap)(hk:k=1):iE (some ⟨b,0,none⟩) i k cap=some ⟨b,i,none⟩:=by
 subst hk;unfold iE;rw [if_neg n7];simp [Addr.add];omega
theorem conv64{m:Nat}(h:m<9223372036854775808):IntKind.u64.wrap ((m:Nat):Int)=((m:Nat):Int):=by
 simp only [IntKind.wrap,IntKind.bits,IntKind.signed];simp;omega
theorem conv63{m:Nat}(h:m<9223372036854775808):IntKind.i64.wrap ((m:Nat):Int)=((m:Nat):Int):=by
 simp only [IntKind.wrap,IntKind.bits,IntKind.signed];simp;omega
theorem repeatP_spec(A:Option Addr)(c:Nat)(p:PolV)(n:Nat)(hn:n≤1000000):cM prog 116 [.slice A 1 c,.int .i64 (n:Nat)] [] [bS.sl (.slice A 1 c) [p]] (fun(x:Option Addr×Nat)=> .slice x.1 n x.2) (fun(x:Option Addr×Nat)=>[bS.row (.slice x.1 n x.2) 47 (List.replicate n p)]) (fun _=>[]):=by
 have hT:=fK;refine k6 func116 ntmps116 ?_;intro β hM;refine g10 ?_;refine bM (t':=false) (decide_eq_false n7) ?_;refine g10 ?_;refine cP (z':=((1:Nat):Int)) rfl ?_;refine g2 ?_;refine cP (z':=((n:Nat):Int)) (conv64 n7) ?_;refine j5 func139 (bitsMul_spec 1 n o9 n7) j0 fun _=>?_;refine lX (v':= .tuple #[.int .u64 ((0:Nat):Int),.int .u64 ((n:Nat):Int)]) (by rw [Nat.one_mul,Nat.div_eq_of_lt n7,Nat.mod_eq_of_lt n7]) ?_;refine g12 ?_;refine bM (t':=false) o9 ?_;refine g3 ?_;refine bM (t':=false) (decide_eq_false n7) ?_;refine g10 ?_;refine cP (z':=((n:Nat):Int)) (conv63 n7) ?_;refine at_makePols (m:=n) rfl rfl rfl rfl rfl rfl n7 fun b1=>?_;refine g7 ?_;refine bMc (ys:=List.take (Nat.min 1 n) [p]) (q:=0) (dQ.pre (cE d7) _) rfl rfl rfl rfl rfl o6 rfl (rep_l1 p n) (by rw [rep_l1];have:=min1_le n;omega) .head ?_;have hr1:=rep_first p n _ rfl;refine cP (z':=((Nat.min 1 n:Nat):Int)) (congrArg Nat.cast (rep_l1 p n)) ?_;refine g5 ?_;refine cB (ι:=Nat×List PolV) [(7,_)] ⟨rfl,j0⟩ (fun⟨i,cur⟩=>[(8,.int .i64 (i:Nat))]) (fun⟨i,cur⟩=>[bS.row (.slice (some ⟨b1,0,none⟩) n n) 47 cur]) (fun⟨i,cur⟩=>[Fact.pure (bWv p n i cur∧(1≤i∨n=0))]) (fun⟨i,cur⟩=>n-i) (Nat.min 1 n,_) ⟨rfl,j0⟩ (.c0 .nil) ⟨j3 (⟨hr1,min1_or n⟩),j0⟩ ?_;rintro⟨i,cur⟩;dsimp only;refine bC d7 fun hinv8=>?_;refine g9 ?_;refine dJ (fun hc37=>?_) fun hc37=>?_
 ·refine g3 ?_;refine bU _ _ [(true,0),(true,1),(true,2),(true,3),(true,4),(true,5),(true,6),(false,7),(true,8),(true,9)] bV o5 .nil bA.self ?_;refine g3 ?_;refine stM rfl (dO hT (k:=i) rfl rfl rfl rfl rfl rfl n7) ?_;refine lX (v':= .slice (some ⟨b1,i,none⟩) (n-i) (n-i)) (by rw [cutA_in n7 rfl]) ?_;refine g2 ?_;refine stM rfl (mC hT (k:=i) rfl rfl rfl rfl rfl rfl n7) ?_;refine one ?_;refine bMc (ys:=cur.take (Nat.min i (n-i))) (q:=i) (dQ.pre (cN .head) _) rfl rfl rfl rfl rfl (rep_len hinv8.1) rfl (rep_l hinv8.1) (by rw [rep_l hinv8.1];have:Nat.min i (n-i)≤n-i:=Nat.min_le_right _ _;omega) .head ?_;have hrs:=rep_step hinv8.1 n7;have hrl:=rep_l hinv8.1;refine cP (z':=((Nat.min i (n-i):Nat):Int)) (congrArg Nat.cast hrl) ?_
  have hmn:Nat.min i (n-i)≤n-i∧1≤Nat.min i (n-i):=⟨Nat.min_le_right _ _,Nat.le_min.2 ⟨n7,n7⟩⟩
  refine g2 ?_;refine inc (i+(Nat.min i (n-i))) ?_;refine g4 ?_;exact bk2 (i+Nat.min i (n-i),_) ⟨j3 (⟨hrs,by dsimp only;omega⟩),j0⟩
 refine g12 ?_;obtain rfl:i=n:=by have:=hinv8.1.2;omega
 have hcr:cur=List.replicate i p:=by rw [hinv8.1.1,Nat.sub_self,List.replicate_zero,List.append_nil]
 subst hcr;exact rs1 (_,_) trivial
section
variable {P : Program} {β : dF} {n : Nat} {Γ : Env} {H : List bH} {F : List Fact}
theorem sti_fneq{o:Oper}{x:Operand}{t tt:TypeId}{ps rs:Array TypeId}{vr:Bool}(hu:P.underlying t=some (.func ps rs vr)){fn:Fn}{a b:Array Value}(ho:o.op= .binOp .eql t x (.const .nilFunc) tt)(hx:Γ.ev x=some (.func fn a b)):Sti P β n Γ H F o (.bool false):=fun c w S f s k=>by
 unfold execOp;have e:c.eval (.const .nilFunc)= .nilFunc:=rfl;have he: ∀d,(Op.equalIn (d+1) t (.func fn a b) .nilFunc).run P w= .ok false w:=fun d=>by simp [Op.equalIn,run_underlying hu]
 have hb:(binOp .eql t (.func fn a b) .nilFunc).run P w= .ok (.bool false) w:=by
  simp only [binOp];rw [Sem.run_bind,show Op.equal t (.func fn a b) .nilFunc=Op.equalIn 10000 t (.func fn a b) .nilFunc from rfl,he 9999];rfl
 have hg:(eqGuard .eql t x (.const .nilFunc) (.func fn a b) .nilFunc).run P w= .ok () w:=rfl;simp only [ho,f.ev hx,e];rw [Sem.run_bind,Sem.run_bind,hg,Result.andThen_ok,hb];rfl
theorem sti_nofneq{o:Oper}{x:Operand}{t tt:TypeId}{ps rs:Array TypeId}{vr:Bool}(hu:P.underlying t=some (.func ps rs vr))(ho:o.op= .binOp .eql t x (.const .nilFunc) tt)(hx:Γ.ev x=some .nilFunc):Sti P β n Γ H F o (.bool true):=fun c w S f s k=>by
 unfold execOp;have e:c.eval (.const .nilFunc)= .nilFunc:=rfl;have he: ∀d,(Op.equalIn (d+1) t .nilFunc .nilFunc).run P w= .ok true w:=fun d=>by simp [Op.equalIn,run_underlying hu]
 have hb:(binOp .eql t .nilFunc .nilFunc).run P w= .ok (.bool true) w:=by
  simp only [binOp];rw [Sem.run_bind,show Op.equal t .nilFunc .nilFunc=Op.equalIn 10000 t .nilFunc .nilFunc from rfl,he 9999];rfl
 have hg:(eqGuard .eql t x (.const .nilFunc) .nilFunc .nilFunc).run P w= .ok () w:=rfl;simp only [ho,f.ev hx,e];rw [Sem.run_bind,Sem.run_bind,hg,Result.andThen_ok,hb];rfl
end
def PolFn (f:FuncId)(op:pF):Prop:= ∀p q:PolV,p.list.length≤140737488355328→q.list.length≤140737488355328→cM prog f [.slice p.addr p.list.length p.cap,.slice q.addr q.list.length q.cap] [] [kT p,kT q] (fun x:Option Addr×Nat=> .tuple #[.slice x.1 (op p.list q.list).1.length x.2,.int .i64 (op p.list q.list).2]) (fun _=>[]) (fun x=>[kT ⟨x.1,x.2,(op p.list q.list).1⟩])
structure EachOk (a b:TyP):Prop where
 la:a.values.length≤1000000
 lb:b.values.length≤1000000
 one:a.known=true→b.known=true→a.sides=[]→a.values.length=1
 two:a.known=true→b.known=true→b.sides=[]→b.values.length=1
 same:a.known=true→b.known=true→a.sides≠[]→b.sides≠[]→a.values.length=b.values.length
theorem bIi(A:Option Addr)(c:Nat)(xs:List PolV)(p:PolV)(n:Nat)(h:xs=[p])(hn:n≤1000000):cM prog 116 [.slice A xs.length c,.int .i64 (n:Nat)] [] [bS.sl (.slice A xs.length c) xs] (fun(x:Option Addr×Nat)=> .slice x.1 n x.2) (fun(x:Option Addr×Nat)=>[bS.row (.slice x.1 n x.2) 47 (List.replicate n p)]) (fun _=>[]):=by
 subst h;exact repeatP_spec A c p n hn
theorem bXd{F:List Fact}{p:PolV}(n:Nat){xs:List PolV}(e:xs=[p])(h:Has F (cQ xs)):Has F (cQ (List.replicate n p)):=fun S w k q hq=>by
 subst e;rw [List.eq_of_mem_replicate hq];exact h S w k p (List.mem_singleton.2 rfl)
theorem oneP_of{xs:List PolV}(h:(bJ xs).length=1): ∃p,xs=[p]:=by
 rw [bF] at h
 match xs,h with
 | [p],_=>exact⟨p,rfl⟩
theorem repL(xs:List PolV)(p:PolV)(n:Nat)(h:xs=[p]):repT (bJ xs) n=bJ (List.replicate n p):=by
 subst h;unfold repT bJ
 induction n with
 | zero=>rfl
 | succ n ih=>rw [List.replicate_succ,List.replicate_succ,List.flatten_cons,ih];rfl
theorem dI{l:List PolV}(h:l.length=0):bJ l=[]:=by rw [List.length_eq_zero_iff.1 h];rfl
theorem fE{l:List PolV}(h:0<l.length):bJ l≠[]:=fun e=>by have:=congrArg List.length e;rw [bF,List.length_nil] at this;omega
def xK (op:pF)(X Y out:List Pol)(i:Nat):Prop:=out.length=i∧yU op X Y=(yU op (X.drop i) (Y.drop i)).map (out++ ·)
theorem yC(op:pF)(X Y:List Pol):xK op X Y [] 0:=⟨rfl,by cases h:yU op X Y<;>simp [h]⟩
section
variable {op : pF} {X Y : List Pol} {xs ys out : List PolV} {i : Nat} {p q r : PolV}
theorem bCw(h:xK op (bJ xs) (bJ ys) (bJ out) i)(hp:xs[i]?=some p)(hq:ys[i]?=some q)(hr:r.list=(op p.list q.list).1)(h0:(op p.list q.list).2=0):xK op (bJ xs) (bJ ys) (bJ (out++[r])) (i+1):=by
 obtain⟨hl,h⟩:=h;obtain⟨hi,ei⟩:=List.getElem?_eq_some_iff.1 (gD hp);obtain⟨hj,ej⟩:=List.getElem?_eq_some_iff.1 (gD hq);have eo:bJ (out++[r])=bJ out++[(op p.list q.list).1]:=by unfold bJ;rw [List.map_append,List.map_singleton,hr]
 refine⟨by rw [eo,List.length_append,hl];rfl,?_⟩;rw [h,List.drop_eq_getElem_cons hi,List.drop_eq_getElem_cons hj,ei,ej,eo];show Option.map _ (if (op p.list q.list).2≠0 then none else _)=_;rw [if_neg (by simpa using h0),Option.map_map]
 congr 1
 funext l
 simp
theorem bHs(h:xK op (bJ xs) (bJ ys) (bJ out) i)(hp:xs[i]?=some p)(hq:ys[i]?=some q)(h0:(op p.list q.list).2≠0):yU op (bJ xs) (bJ ys)=none:=by
 obtain⟨hl,h⟩:=h;obtain⟨hi,ei⟩:=List.getElem?_eq_some_iff.1 (gD hp);obtain⟨hj,ej⟩:=List.getElem?_eq_some_iff.1 (gD hq);rw [h,List.drop_eq_getElem_cons hi,List.drop_eq_getElem_cons hj,ei,ej];show Option.map _ (if (op p.list q.list).2≠0 then none else _)=_;rw [if_pos h0];rfl
theorem bHb(h:xK op (bJ xs) (bJ ys) (bJ out) i)(hi:xs.length≤i):yU op (bJ xs) (bJ ys)=some (bJ out):=by
 obtain⟨hl,h⟩:=h;rw [h,List.drop_of_length_le ai8];show some (bJ out++[])=_;rw [List.append_nil]
theorem uS{a b:TyP}(h:yU op (xI a b) (uF a b)=some X)(ha:a.known=true)(hb:b.known=true):lR (some op) a b=(X,true):=by
 show(if _ then _ else _)=_;rw [if_neg (by rw [ha,hb];simp),h]
theorem uK{a b:TyP}(h:yU op (xI a b) (uF a b)=none)(ha:a.known=true)(hb:b.known=true):lR (some op) a b=([],false):=by
 show(if _ then _ else _)=_;rw [if_neg (by rw [ha,hb];simp),h]
theorem bJg{a b:TyP}(h:a.known=false∨b.known=false):lR (some op) a b=([],false):=if_pos h
end
theorem left_rep{a b:TyV}{p:PolV}(h:a.values.list=[p])(ha:a.sides.list.length=0)(hb:0<b.sides.list.length):xI a.t b.t=bJ (List.replicate b.values.list.length p)∧uF a.t b.t=bJ b.values.list:=by
 constructor
 ·unfold xI;rw [if_pos ⟨dI ha,fE hb⟩,←repL _ p _ h];show repT _ (bJ b.values.list).length=_;rw [bF];rfl
 ·unfold uF;rw [if_neg (fun k=>fE hb k.1)];rfl
theorem right_rep{a b:TyV}{p:PolV}(h:b.values.list=[p])(hb:b.sides.list.length=0)(ha:0<a.sides.list.length):xI a.t b.t=bJ a.values.list∧uF a.t b.t=bJ (List.replicate a.values.list.length p):=by
 constructor
 ·unfold xI;rw [if_neg (fun k=>fE ha k.1)];rfl
 ·unfold uF;rw [if_pos ⟨dI hb,fE ha⟩,←repL _ p _ h];show repT _ (bJ a.values.list).length=_;rw [bF];rfl
theorem none_rep{a b:TyV}(h:a.sides.list.length=0∧b.sides.list.length=0∨0<a.sides.list.length∧0<b.sides.list.length):xI a.t b.t=bJ a.values.list∧uF a.t b.t=bJ b.values.list:=by
 constructor
 ·unfold xI;rw [if_neg]
  ·rfl
  ·rintro⟨k,l⟩
   rcases h with h | h
   ·exact l (dI h.2)
   ·exact fE h.1 k
 ·unfold uF;rw [if_neg]
  ·rfl
  ·rintro⟨k,l⟩
   rcases h with h | h
   ·exact l (dI h.1)
   ·exact fE h.2 k
theorem vals_one{a:TyV}(h:a.t.values.length=1): ∃p,a.values.list=[p]:=oneP_of h
theorem bXs{a b:TyV}(h:EachOk a.t b.t)(ha:a.known=true)(hb:b.known=true)(hs:a.sides.list.length=0∧b.sides.list.length=0∨0<a.sides.list.length∧0<b.sides.list.length):a.values.list.length=b.values.list.length:=by
 have e:(bJ a.values.list).length=(bJ b.values.list).length:=by
  rcases hs with hs | hs
  ·exact(h.one ha hb (dI hs.1)).trans (h.two ha hb (dI hs.2)).symm
  ·exact h.same ha hb (fE hs.1) (fE hs.2)
 rwa [bF,bF] at e
structure EachV where
 l:Sl PolV
 k:Bool
theorem bEu(a b:TyV):cM prog 83 [.nilFunc,.agg #[.slice a.sides.addr a.sides.list.length a.sides.cap,.bool a.known,.slice a.values.addr a.values.list.length a.values.cap],.agg #[.slice b.sides.addr b.sides.list.length b.sides.cap,.bool b.known,.slice b.values.addr b.values.list.length b.values.cap]] [] [] (fun(x:EachV)=> .tuple #[.slice x.l.addr x.l.list.length x.l.cap,.bool x.k]) (fun _=>[]) (fun(x:EachV)=>[listF x.l,Fact.pure ((bJ x.l.list,x.k)=lR none a.t b.t)]):=by
 have hT:=fK;refine k6 func83 ntmps83 ?_;intro β hM;refine g2 ?_;refine j9 fun b1=>?_;refine j9 fun b2=>?_;refine g8 ?_;refine ss (sti_nofneq underlying178 rfl rfl) ?_;refine g21 ?_;exact rs2 (⟨⟨none,0,[]⟩,false⟩:EachV) ⟨cL,j3 (rfl),j0⟩
theorem jK(f:FuncId)(op:pF)(hcf: ∀(args:Array Value) (w:World),(callFunc f args).run prog w= .ok (.enter f args) w)(hf:PolFn f op)(a b:TyV)(hab:EachOk a.t b.t):cM prog 83 [.func (.func f) #[] #[],.agg #[.slice a.sides.addr a.sides.list.length a.sides.cap,.bool a.known,.slice a.values.addr a.values.list.length a.values.cap],.agg #[.slice b.sides.addr b.sides.list.length b.sides.cap,.bool b.known,.slice b.values.addr b.values.list.length b.values.cap]] [] [tyF a,tyF b] (fun(x:EachV)=> .tuple #[.slice x.l.addr x.l.list.length x.l.cap,.bool x.k]) (fun _=>[]) (fun(x:EachV)=>[listF x.l,Fact.pure ((bJ x.l.list,x.k)=lR (some op) a.t b.t)]):=by
 have hT:=fK;have hla:a.values.list.length≤1000000:=by have:=hab.la;unfold TyV.t at this;rwa [bF] at this
 have hlb:b.values.list.length≤1000000:=by have:=hab.lb;unfold TyV.t at this;rwa [bF] at this
 refine k6 func83 ntmps83 ?_;intro β hM;refine cO<|bB (listF a.sides) (mA d7) ?_;refine cG a.sides mT0 fun hc_as=>bB (listF a.values) (mD e6)<|cG a.values mT0 fun hc_av=>bB (listF b.sides) (mA f3)<|cG b.sides mT0 fun hc_bs=>bB (listF b.values) (mD f7)<|cG b.values mT0 fun hc_bv=>?_;refine one ?_;refine j9 fun b1=>?_;refine j9 fun b2=>?_;refine g8 ?_;refine ss (sti_fneq underlying178 rfl rfl) ?_;refine g6 ?_;refine k_nt (fun hg21=>?_) fun hg21=>?_
 ·refine g15 ?_;exact rs2 (⟨⟨none,0,[]⟩,false⟩:EachV) ⟨cL,j3 ((bJg (by show a.known=false∨b.known=false;simp_all)).symm),j0⟩
 have hka:=hg21;refine g6 ?_;refine jJ (fun hc25=>?_) fun hc25=>?_
 ·refine g8 ?_;exact rs2 (⟨⟨none,0,[]⟩,false⟩:EachV) ⟨cL,j3 ((bJg (by show a.known=false∨b.known=false;simp_all)).symm),j0⟩
 have hkb:=hc25;refine g3 ?_;refine bU _ _ [(true,0),(true,1),(true,2),(true,3),(true,4),(true,5)] bV o5 (.c0 (.c0 .nil)) bA.self ?_;refine g10 ?_
 rcases Nat.eq_zero_or_pos a.sides.list.length with hsa | hsa<;>rcases Nat.eq_zero_or_pos b.sides.list.length with hsb | hsb
 ·have hlr:=none_rep (a:=a) (b:=b) (.inl ⟨hsa,hsb⟩);have hlx:=bXs hab hka hkb (.inl ⟨hsa,hsb⟩);refine g5 ?_;refine bM (t':=true) (decide_eq_true n7) ?_;refine g5 ?_;refine bM (t':=false) (decide_eq_false n7) ?_;refine g13 ?_;refine bM (t':=true) (decide_eq_true n7) ?_;refine g5 ?_;refine bM (t':=false) (decide_eq_false n7) ?_;refine g20 ?_;refine cK (t:=47) bS<|bB (cQ []) (Has.each_nil) ?_;have hxy:a.values.list.length=b.values.list.length:=by first | (simp;done) | (simp;omega) | omega
  have hxl:a.values.list.length=a.values.list.length:=by first | rfl | simp
  have hxm:a.values.list.length≤1000000:=n7
  refine cB (ι:=Nat×List PolV×Option Addr×Nat) [(0,_),(8,_),(9,_),(59,_)] ⟨rfl,rfl,rfl,rfl,j0⟩ (fun⟨i,vs,V,cv⟩=>[(10,.slice V vs.length cv),(60,.int .i64 (i:Nat))]) (fun⟨i,vs,V,cv⟩=>[bS.row (.slice V vs.length cv) 47 vs]) (fun⟨i,vs,V,cv⟩=>[Fact.pure (i≤a.values.list.length∧xK op (bJ a.values.list) (bJ b.values.list) (bJ vs) i),cQ vs]) (fun⟨i,vs,V,cv⟩=>a.values.list.length-i) (0,[],none,0) ⟨rfl,rfl,j0⟩ (.c0 .nil) ⟨j3 (⟨n7,yC op _ _⟩),d7,j0⟩ ?_;rintro⟨i,vs,V,cv⟩;dsimp only;refine bC d7 fun hinv10=>?_;have hvl:=hinv10.2.1;rw [bF] at hvl;refine g6 ?_;refine dJ (fun hc61=>?_) fun hc61=>?_
  ·refine g11 ?_;refine bU _ _ [(true,0),(true,1),(true,2),(true,3),(true,4),(true,5),(true,6),(true,7),(true,8),(false,9),(true,10),(true,11),(true,12),(true,13),(true,14)] bV o5 (.c0 (.c0 (.c0 .nil))) bA.self ?_;refine g3 ?_;obtain⟨x3,hx4⟩:=gx a.values.list i;refine stM rfl (ixs i) ?_;refine stM rfl (fL hx4 0) ?_;refine g2 ?_;obtain⟨x5,hx6⟩:=gx b.values.list i;refine stM rfl (ixs i) ?_;refine stM rfl (fL hx6 0) ?_;refine one ?_;refine bC (dC (Has.each f5 (j4 hx4))) fun hpl=>bC (dC (Has.each e6 (j4 hx6))) fun hql=>?_;refine fV hcf (hf x3 x5 hpl hql) rfl rfl rfl rfl rfl rfl rfl .nil ⟨(Has.each f5 (j4 hx4)),(Has.each e6 (j4 hx6)),j0⟩ fun⟨A7,c8⟩=>?_;refine g15 ?_;refine wG (fun hc77=>?_) fun hc77=>?_
   ·refine g13 ?_;exact rs2 (⟨⟨none,0,[]⟩,false⟩:EachV) ⟨cL,j3 ((uK (by rw [hlr.1,hlr.2];exact bHs hinv10.2 hx4 hx6 ‹_›) hka hkb).symm),j0⟩
   refine g5 ?_;refine dA (m:=⟨A7,c8,(op x3.list x5.list).1⟩) rfl rfl rfl rfl rfl fun b9=>?_;refine bB (cQ (vs++[(⟨A7,c8,(op x3.list x5.list).1⟩:PolV)])) (Has.each_snoc d9 d7) ?_;refine fM kT1 (bW .head rfl) rfl rfl rfl rfl rfl rfl rfl q8 fun A10 c11=>?_;refine g6 ?_;refine inc (i+1) ?_;refine g3 ?_;exact bk2 (i+1,vs++[(⟨A7,c8,(op x3.list x5.list).1⟩:PolV)],A10,c11) ⟨j3 (⟨by dsimp only;omega,bCw hinv10.2 hx4 hx6 rfl ac3⟩),d7,j0⟩
  refine g13 ?_;refine bX .head fun hcv=>bE .head ?_;exact rs2 (⟨⟨V,cv,vs⟩,true⟩:EachV) ⟨cH d7 d9 hcv,j3 ((uS ad5 hka hkb).symm),j0⟩
 ·have hlr1:=hab.one hka hkb (dI hsa);obtain⟨p,hp⟩:=vals_one hlr1;have hlr:=left_rep (b:=b) hp hsa hsb;refine g5 ?_;refine bM (t':=true) (decide_eq_true n7) ?_;refine g5 ?_;refine bM (t':=true) (decide_eq_true n7) ?_;refine g8 ?_;refine bD func116 (bIi a.values.addr a.values.cap a.values.list p _ hp n7) rfl rfl .nil ⟨f3,j0⟩ fun⟨A12,c13⟩=>?_;refine bE .head<|bB (cQ (List.replicate b.values.list.length p)) (bXd _ hp f3) ?_;refine g10 ?_;refine bM (t':=false) (decide_eq_false n7) ?_;refine g25 ?_;refine cK (t:=47) bS<|bB (cQ []) (Has.each_nil) ?_;have hxy:(List.replicate b.values.list.length p).length=b.values.list.length:=by first | (simp;done) | (simp;omega) | omega
  have hxl:(List.replicate b.values.list.length p).length=b.values.list.length:=by first | rfl | simp
  have hxm:(List.replicate b.values.list.length p).length≤1000000:=n7
  refine cB (ι:=Nat×List PolV×Option Addr×Nat) [(0,_),(8,_),(9,_),(59,_)] ⟨rfl,rfl,rfl,rfl,j0⟩ (fun⟨i,vs,V,cv⟩=>[(10,.slice V vs.length cv),(60,.int .i64 (i:Nat))]) (fun⟨i,vs,V,cv⟩=>[bS.row (.slice V vs.length cv) 47 vs]) (fun⟨i,vs,V,cv⟩=>[Fact.pure (i≤b.values.list.length∧xK op (bJ (List.replicate b.values.list.length p)) (bJ b.values.list) (bJ vs) i),cQ vs]) (fun⟨i,vs,V,cv⟩=>b.values.list.length-i) (0,[],none,0) ⟨rfl,rfl,j0⟩ (.c0 .nil) ⟨j3 (⟨n7,yC op _ _⟩),d7,j0⟩ ?_;rintro⟨i,vs,V,cv⟩;dsimp only;refine bC d7 fun hinv10=>?_;have hvl:=hinv10.2.1;rw [bF] at hvl;refine g6 ?_;refine dJ (fun hc61=>?_) fun hc61=>?_
  ·refine g11 ?_;refine bU _ _ [(true,0),(true,1),(true,2),(true,3),(true,4),(true,5),(true,6),(true,7),(true,8),(false,9),(true,10),(true,11),(true,12),(true,13),(true,14)] bV o5 (.c0 (.c0 (.c0 .nil))) bA.self ?_;refine g3 ?_;obtain⟨x14,hx15⟩:=gx (List.replicate b.values.list.length p) i q8;refine stM rfl (cF hT (k:=i) (cE e7) rfl rfl rfl rfl rfl o6 rfl q8) ?_;refine stM rfl (fL hx15 0) ?_;refine g2 ?_;obtain⟨x16,hx17⟩:=gx b.values.list i;refine stM rfl (ixs i) ?_;refine stM rfl (fL hx17 0) ?_;refine one ?_;refine bC (dC (Has.each e6 (j4 hx15))) fun hpl=>bC (dC (Has.each e8 (j4 hx17))) fun hql=>?_;refine fV hcf (hf x14 x16 hpl hql) rfl rfl rfl rfl rfl rfl rfl .nil ⟨(Has.each e6 (j4 hx15)),(Has.each e8 (j4 hx17)),j0⟩ fun⟨A18,c19⟩=>?_;refine g15 ?_;refine wG (fun hc77=>?_) fun hc77=>?_
   ·refine g13 ?_;exact rs2 (⟨⟨none,0,[]⟩,false⟩:EachV) ⟨cL,j3 ((uK (by rw [hlr.1,hlr.2];exact bHs hinv10.2 hx15 hx17 ‹_›) hka hkb).symm),j0⟩
   refine g5 ?_;refine dA (m:=⟨A18,c19,(op x14.list x16.list).1⟩) rfl rfl rfl rfl rfl fun b20=>?_;refine bB (cQ (vs++[(⟨A18,c19,(op x14.list x16.list).1⟩:PolV)])) (Has.each_snoc d9 d7) ?_;refine fM kT1 (bW .head rfl) rfl rfl rfl rfl rfl rfl rfl q8 fun A21 c22=>?_;refine g6 ?_;refine inc (i+1) ?_;refine g3 ?_;exact bk2 (i+1,vs++[(⟨A18,c19,(op x14.list x16.list).1⟩:PolV)],A21,c22) ⟨j3 (⟨by dsimp only;omega,bCw hinv10.2 hx15 hx17 rfl ac3⟩),d7,j0⟩
  refine g13 ?_;refine bX .head fun hcv=>bE .head ?_;exact rs2 (⟨⟨V,cv,vs⟩,true⟩:EachV) ⟨cH d7 d9 hcv,j3 ((uS ad5 hka hkb).symm),j0⟩
 ·have hlr1:=hab.two hka hkb (dI hsb);obtain⟨p,hp⟩:=vals_one hlr1;have hlr:=right_rep (a:=a) hp hsb hsa;refine g5 ?_;refine bM (t':=false) (decide_eq_false n7) ?_;refine g18 ?_;refine bM (t':=true) (decide_eq_true n7) ?_;refine g5 ?_;refine bM (t':=true) (decide_eq_true n7) ?_;refine g8 ?_;refine bD func116 (bIi b.values.addr b.values.cap b.values.list p _ hp n7) rfl rfl .nil ⟨d8,j0⟩ fun⟨A23,c24⟩=>?_;refine bE .head<|bB (cQ (List.replicate a.values.list.length p)) (bXd _ hp d8) ?_;refine g17 ?_;refine cK (t:=47) bS<|bB (cQ []) (Has.each_nil) ?_;have hxy:a.values.list.length=(List.replicate a.values.list.length p).length:=by first | (simp;done) | (simp;omega) | omega
  have hxl:a.values.list.length=a.values.list.length:=by first | rfl | simp
  have hxm:a.values.list.length≤1000000:=n7
  refine cB (ι:=Nat×List PolV×Option Addr×Nat) [(0,_),(8,_),(9,_),(59,_)] ⟨rfl,rfl,rfl,rfl,j0⟩ (fun⟨i,vs,V,cv⟩=>[(10,.slice V vs.length cv),(60,.int .i64 (i:Nat))]) (fun⟨i,vs,V,cv⟩=>[bS.row (.slice V vs.length cv) 47 vs]) (fun⟨i,vs,V,cv⟩=>[Fact.pure (i≤a.values.list.length∧xK op (bJ a.values.list) (bJ (List.replicate a.values.list.length p)) (bJ vs) i),cQ vs]) (fun⟨i,vs,V,cv⟩=>a.values.list.length-i) (0,[],none,0) ⟨rfl,rfl,j0⟩ (.c0 .nil) ⟨j3 (⟨n7,yC op _ _⟩),d7,j0⟩ ?_;rintro⟨i,vs,V,cv⟩;dsimp only;refine bC d7 fun hinv10=>?_;have hvl:=hinv10.2.1;rw [bF] at hvl;refine g6 ?_;refine dJ (fun hc61=>?_) fun hc61=>?_
  ·refine g11 ?_;refine bU _ _ [(true,0),(true,1),(true,2),(true,3),(true,4),(true,5),(true,6),(true,7),(true,8),(false,9),(true,10),(true,11),(true,12),(true,13),(true,14)] bV o5 (.c0 (.c0 (.c0 .nil))) bA.self ?_;refine g3 ?_;obtain⟨x25,hx26⟩:=gx a.values.list i;refine stM rfl (ixs i) ?_;refine stM rfl (fL hx26 0) ?_;refine g2 ?_;obtain⟨x27,hx28⟩:=gx (List.replicate a.values.list.length p) i q8;refine stM rfl (cF hT (k:=i) (cE e7) rfl rfl rfl rfl rfl o6 rfl q8) ?_;refine stM rfl (fL hx28 0) ?_;refine one ?_;refine bC (dC (Has.each f9 (j4 hx26))) fun hpl=>bC (dC (Has.each e6 (j4 hx28))) fun hql=>?_;refine fV hcf (hf x25 x27 hpl hql) rfl rfl rfl rfl rfl rfl rfl .nil ⟨(Has.each f9 (j4 hx26)),(Has.each e6 (j4 hx28)),j0⟩ fun⟨A29,c30⟩=>?_;refine g15 ?_;refine wG (fun hc77=>?_) fun hc77=>?_
   ·refine g13 ?_;exact rs2 (⟨⟨none,0,[]⟩,false⟩:EachV) ⟨cL,j3 ((uK (by rw [hlr.1,hlr.2];exact bHs hinv10.2 hx26 hx28 ‹_›) hka hkb).symm),j0⟩
   refine g5 ?_;refine dA (m:=⟨A29,c30,(op x25.list x27.list).1⟩) rfl rfl rfl rfl rfl fun b31=>?_;refine bB (cQ (vs++[(⟨A29,c30,(op x25.list x27.list).1⟩:PolV)])) (Has.each_snoc d9 d7) ?_;refine fM kT1 (bW .head rfl) rfl rfl rfl rfl rfl rfl rfl q8 fun A32 c33=>?_;refine g6 ?_;refine inc (i+1) ?_;refine g3 ?_;exact bk2 (i+1,vs++[(⟨A29,c30,(op x25.list x27.list).1⟩:PolV)],A32,c33) ⟨j3 (⟨by dsimp only;omega,bCw hinv10.2 hx26 hx28 rfl ac3⟩),d7,j0⟩
  refine g13 ?_;refine bX .head fun hcv=>bE .head ?_;exact rs2 (⟨⟨V,cv,vs⟩,true⟩:EachV) ⟨cH d7 d9 hcv,j3 ((uS ad5 hka hkb).symm),j0⟩
 have hlr:=none_rep (a:=a) (b:=b) (.inr ⟨hsa,hsb⟩);have hlx:=bXs hab hka hkb (.inr ⟨hsa,hsb⟩);refine g5 ?_;refine bM (t':=false) (decide_eq_false n7) ?_;refine g18 ?_;refine bM (t':=false) (decide_eq_false n7) ?_;refine g25 ?_;refine cK (t:=47) bS<|bB (cQ []) (Has.each_nil) ?_;have hxy:a.values.list.length=b.values.list.length:=by first | (simp;done) | (simp;omega) | omega
 have hxl:a.values.list.length=a.values.list.length:=by first | rfl | simp
 have hxm:a.values.list.length≤1000000:=n7
 refine cB (ι:=Nat×List PolV×Option Addr×Nat) [(0,_),(8,_),(9,_),(59,_)] ⟨rfl,rfl,rfl,rfl,j0⟩ (fun⟨i,vs,V,cv⟩=>[(10,.slice V vs.length cv),(60,.int .i64 (i:Nat))]) (fun⟨i,vs,V,cv⟩=>[bS.row (.slice V vs.length cv) 47 vs]) (fun⟨i,vs,V,cv⟩=>[Fact.pure (i≤a.values.list.length∧xK op (bJ a.values.list) (bJ b.values.list) (bJ vs) i),cQ vs]) (fun⟨i,vs,V,cv⟩=>a.values.list.length-i) (0,[],none,0) ⟨rfl,rfl,j0⟩ (.c0 .nil) ⟨j3 (⟨n7,yC op _ _⟩),d7,j0⟩ ?_;rintro⟨i,vs,V,cv⟩;dsimp only;refine bC d7 fun hinv10=>?_;have hvl:=hinv10.2.1;rw [bF] at hvl;refine g6 ?_;refine dJ (fun hc61=>?_) fun hc61=>?_
 ·refine g11 ?_;refine bU _ _ [(true,0),(true,1),(true,2),(true,3),(true,4),(true,5),(true,6),(true,7),(true,8),(false,9),(true,10),(true,11),(true,12),(true,13),(true,14)] bV o5 (.c0 (.c0 (.c0 .nil))) bA.self ?_;refine g3 ?_;obtain⟨x34,hx35⟩:=gx a.values.list i;refine stM rfl (ixs i) ?_;refine stM rfl (fL hx35 0) ?_;refine g2 ?_;obtain⟨x36,hx37⟩:=gx b.values.list i;refine stM rfl (ixs i) ?_;refine stM rfl (fL hx37 0) ?_;refine one ?_;refine bC (dC (Has.each f5 (j4 hx35))) fun hpl=>bC (dC (Has.each e6 (j4 hx37))) fun hql=>?_;refine fV hcf (hf x34 x36 hpl hql) rfl rfl rfl rfl rfl rfl rfl .nil ⟨(Has.each f5 (j4 hx35)),(Has.each e6 (j4 hx37)),j0⟩ fun⟨A38,c39⟩=>?_;refine g15 ?_;refine wG (fun hc77=>?_) fun hc77=>?_
  ·refine g13 ?_;exact rs2 (⟨⟨none,0,[]⟩,false⟩:EachV) ⟨cL,j3 ((uK (by rw [hlr.1,hlr.2];exact bHs hinv10.2 hx35 hx37 ‹_›) hka hkb).symm),j0⟩
  refine g5 ?_;refine dA (m:=⟨A38,c39,(op x34.list x36.list).1⟩) rfl rfl rfl rfl rfl fun b40=>?_;refine bB (cQ (vs++[(⟨A38,c39,(op x34.list x36.list).1⟩:PolV)])) (Has.each_snoc d9 d7) ?_;refine fM kT1 (bW .head rfl) rfl rfl rfl rfl rfl rfl rfl q8 fun A41 c42=>?_;refine g6 ?_;refine inc (i+1) ?_;refine g3 ?_;exact bk2 (i+1,vs++[(⟨A38,c39,(op x34.list x36.list).1⟩:PolV)],A41,c42) ⟨j3 (⟨by dsimp only;omega,bCw hinv10.2 hx35 hx37 rfl ac3⟩),d7,j0⟩
 refine g13 ?_;refine bX .head fun hcv=>bE .head ?_;exact rs2 (⟨⟨V,cv,vs⟩,true⟩:EachV) ⟨cH d7 d9 hcv,j3 ((uS ad5 hka hkb).symm),j0⟩
section
variable {P : Program} {β : dF} {n : Nat} {Γ : Env} {H H' : List bH} {F : List Fact} {K : Act → World → Prop}
theorem sJ.self: ∀(R H2:List bH),sJ (R++H2) R H2
 | [],_=> .nil
 | _::R,H2=> .c0 (sJ.self R H2)
end
theorem gE{α:Type}{l:List α}{i:Nat}{x:α}(h:l[i]?=some x):l.drop i=x::l.drop (i+1):=by
 obtain⟨hlt,e⟩:=List.getElem?_eq_some_iff.1 h;rw [List.drop_eq_getElem_cons hlt,e]
theorem uH{α:Type}{l:List α}{i:Nat}(h:l.length≤i):l.drop i=[]:=List.drop_eq_nil_iff.2 h
theorem vS{α β:Type}{f:α→β}{l:List α}{i:Nat}{x:α}(h:l[i]?=some x):(l.map f)[i]?=some (f x):=by rw [List.getElem?_map,h];rfl
section
variable {P : Program} {β : dF} {n : Nat} {Γ : Env} {H : List bH} {F : List Fact} {o : Oper} {x : Operand} {t e : TypeId}
theorem bNl{A:Option Addr}{l c:Nat}(ht:P.underlying t=some (.slice e))(ho:o.op= .call ⟨.builtin .cap,#[x],#[t]⟩)(hx:Γ.ev x=some (.slice A l c)):Sti P β n Γ H F o (.int .i64 (c:Nat)):=fun a w S f s k=>by
 unfold execOp;simp [ho,resolve,invoke,builtin,Builtin.cap_,f.ev hx,run_underlying ht,goInt]
end
theorem qT(w:World)(o:Obj){k:Nat}(h:k<w.heap.size):(w.alloc o).heap[k]?=w.heap[k]?:=(bFg w o).block k h fun e=>e
def bBg:Flat (Sl PolV):=slE PolV
theorem polssInfo: ∃i:TypeInfo,prog.info? 41=some i∧i.zero=some (.slice none 0 0)∧i.size=1∧i.bytes=24:=by
 have h:(prog.info? 41).map (fun i=>(i.zero,i.size,i.bytes))=some (some (.slice none 0 0),1,24):=n9
 cases hi:prog.info? 41 with
 | none=>simp [hi] at h
 | some i=>simp [hi] at h;exact⟨i,rfl,h.1,h.2.1,h.2.2⟩
theorem zeros_pol(m:Nat):(Builtin.zeroCells (Value.slice none 0 0).cells m).toList=bS.all (List.replicate m lY):=madePols m
theorem zB{α:Type}{L:List (List α)}{i:Nat}{l:List α}(h:L[i]?=some l):(L.take i).flatten++l=(L.take (i+1)).flatten:=by
 obtain⟨hi,e⟩:=List.getElem?_eq_some_iff.1 h;rw [List.take_succ_eq_append_getElem hi,e,List.flatten_append];simp
theorem wW{α:Type}{L:List (List α)}(i:Nat):(L.take i).flatten.length≤L.flatten.length:=by
 conv=>rhs;rw [←List.take_append_drop i L]
 rw [List.flatten_append,List.length_append];omega
theorem bTu{β:dF}{n:Nat}{Γ:Env}{H:List bH}{F:List Fact}{Q:Exit→Act→World→Prop}{ops:Array Oper}{rest:List Oper}{o:Oper}{d m:Nat}{x y:Operand}(hw:want ops Γ o=some true)(ho:o.op= .call {callee:= .builtin .append,args:= #[x,y],argTypes:= #[41,3]})(hd:o.dst=some d)(hn:Nat.blt d n=true)
  (hx:Γ.ev x=some (.slice none 0 0)) (hy:Γ.ev y=some (.int .i64 (m:Nat))) (h0:0<m) (hm:m≤1000000)
  (k: ∀A' cap',At β n ((d,.slice A' (List.replicate m lY).length cap')::Γ) (bS.row (.slice A' (List.replicate m lY).length cap') 47 (List.replicate m lY)::H) F (wpList prog ops Q rest)):At β n Γ H F (wpList prog ops Q (o::rest)):=by
 obtain⟨i,hi,hz,hs,hb⟩:=bAz;refine cK (t:=47) bS ?_;refine iY hw fun a w S f s hF=>?_;have hrun:=Lib.run_append_nil_zeros (P:=prog) w 41 3 o.type 47 i (.slice none 0 0) .i64 .i64 underlying41 underlying3 hi hz m h0 n7 n7 (by rw [hb];omega)
 have hr':(execOp a.eval o).run prog w= .ok (.value (.slice (some ⟨w.heap.size,0,none⟩) m (grownCap w m 0 47))) (w.drew.alloc (.cells (Builtin.zeroCells (Value.slice none 0 0).cells m++Builtin.zeroCells (Value.slice none 0 0).cells (grownCap w m 0 47-m)) 47)):=by
  unfold execOp;simp only [ho,resolve,invoke,builtin,Sem.run_bind,Sem.run_pure,Result.andThen_ok,List.map_toArray,List.map_cons,List.map_nil,f.ev hx,f.ev hy,hrun]
 have h63:m≤maxLen:=by simp only [maxLen];omega
 have hge:=grownCap_ge w m 0 47;have hcm:=grownCap_le_maxLen w m 0 47 h63;have hl:(List.replicate m lY).length=m:=List.length_replicate;unfold Oper.wp;rw [hr',Oper.upon_value,hd];have hK:=k (some ⟨w.heap.size,0,none⟩) (grownCap w m 0 47);rw [hl] at hK;refine hK _ _ S (f.put t6 _) ?_ ?_
 ·refine s.swap_row (v':= .slice (some ⟨w.heap.size,0,none⟩) m (grownCap w m 0 47)) (nR ⟨rfl,rfl,rfl,o6,fun k hk _=>qT w.drew _ hk⟩) (.inr rfl) ?_;show World.ownsRow _ 0 47 bS.size _ (List.replicate m lY).length (bS.all (List.replicate m lY));rw [hl];have e0:(bS.all (List.replicate m lY)).length=m:=by rw [bS.all_length,hl];exact Nat.mul_one m
  have e1:bS.size=1:=rfl;refine⟨by rw [e0,e1];omega,.inr ⟨w.heap.size,_,_,rfl,Nat.zero_le _,heap_alloc_new w.drew _,hge,hcm,?_,?_⟩⟩
  ·have hz1:(Value.slice none 0 0).cells.size=1:=rfl;simp only [Array.size_append,size_zeroCells,hz1,e1];omega
  ·have ez:(Builtin.zeroCells (Value.slice none 0 0).cells m).toList=bS.all (List.replicate m lY):=zeros_pol m;rw [Array.toList_append,ez];have:m*bS.size=(bS.all (List.replicate m lY)).length:=by rw [e0,e1];omega
   rw [this];exact List.take_left
 ·exact All.mono (w:=w) (fun _ h=>h) (fun b hb=>qT w.drew _ (s.zone b hb).1) hF
theorem qQ{β:dF}{n:Nat}{Γ:Env}{H:List bH}{F:List Fact}{Q:Exit→Act→World→Prop}{ops:Array Oper}{rest:List Oper}{o:Oper}{d:Nat}{x y:Operand}{u v:Sl PolV}(hw:want ops Γ o=some true)(ho:o.op= .buildSlice 183 2 #[(0,x),(1,y)])(hd:o.dst=some d)(hn:Nat.blt d n=true)
  (hx:Γ.ev x=some (.slice u.addr u.list.length u.cap)) (hy:Γ.ev y=some (.slice v.addr v.list.length v.cap)) (k: ∀b,At β n ((d,.slice (some ⟨b,0,none⟩) 2 2)::Γ) (.obj b (.cells (bBg.all [u,v]).toArray 41)::H) F (wpList prog ops Q rest)):At β n Γ H F (wpList prog ops Q (o::rest)):=by
 obtain⟨i,hi,hz,hs,_⟩:=polssInfo;refine sH (m:=2) hw ho hd hn (fun a w f=>?_) k
 have:=run_buildSlice (P:=prog) w 183 41 2 #[(0,a.eval x),(1,a.eval y)] (bBg.all [u,v]).toArray i (.slice none 0 0) underlying183 hi hz n7 n7 (by
  rw [f.ev hx,f.ev hy,hs]
  kernel_rfl)
 simpa using this
theorem oC{F:List Fact}{xs ys:List PolV}(h:Has F (cQ xs))(k:Has F (cQ ys)):Has F (cQ (xs++ys)):=fun S w q x hx=>by
 rcases List.mem_append.1 hx with hx | hx
 ·exact h S w q x hx
 ·exact k S w q x hx
theorem growP_spec(n:Nat)(hn:n≤1000000):cM prog 90 [.slice none 0 0,.int .i64 (n:Nat)] [] [] (fun(x:Option Addr×Nat)=> .slice x.1 0 x.2) (fun(x:Option Addr×Nat)=>[bS.row (.slice x.1 0 x.2) 47 []]) (fun _=>[]):=by
 have hT:=fK;refine k6 func90 ntmps90 ?_;intro β hM;refine g10 ?_;refine bM (t':=false) (decide_eq_false n7) ?_;refine g10 ?_;refine ss (bNl underlying41 rfl rfl) ?_;refine g3 ?_;refine cP (z':=((0:Nat):Int)) o9 ?_;refine one ?_;refine inc n ?_;refine g9 ?_;refine dJ (fun hc16=>?_) fun hc16=>?_
 ·refine g3 ?_;refine ss (bNl underlying41 rfl rfl) ?_;refine ss (mC hT (k:=0) rfl rfl rfl rfl rfl rfl n7) ?_;refine one ?_;refine bTu rfl rfl rfl rfl rfl rfl n7 n7 fun A1 c2=>?_;refine g2 ?_;refine iK hT (k:=0) .head rfl rfl rfl rfl rfl rfl rfl rfl rfl n7 ?_;refine g10 ?_;exact rs1 (A1,c2) trivial
 refine g9 ?_;refine cK (t:=47) bS ?_;exact rs1 (none,0) trivial
theorem qO(A:Option Addr)(c:Nat)(xs:List (Sl PolV))(hx:xs.length≤1000000)(ht:(xs.map (·.list)).flatten.length≤1000000):cM prog 51 [.slice A xs.length c] [] [bBg.sl (.slice A xs.length c) xs,Fact.each xs listF] (fun(x:Option Addr×Nat)=> .slice x.1 (xs.map (·.list)).flatten.length x.2) (fun(x:Option Addr×Nat)=>[bS.row (.slice x.1 (xs.map (·.list)).flatten.length x.2) 47 (xs.map (·.list)).flatten]) (fun _=>[]):=by
 have hT:=fK;refine k6 func51 ntmps51 ?_;intro β hM;refine g19 ?_;refine cB (ι:=Nat×Nat) [(0,_),(9,_),(10,_)] ⟨rfl,rfl,rfl,j0⟩ (fun⟨i,n⟩=>[(3,.int .i64 (n:Nat)),(11,.int .i64 (i:Nat))]) (fun _=>[]) (fun⟨i,n⟩=>[Fact.pure (i≤xs.length∧n=((xs.map (·.list)).take i).flatten.length)]) (fun⟨i,n⟩=>xs.length-i) (0,0) ⟨rfl,rfl,j0⟩ .nil ⟨j3 (⟨n7,rfl⟩),j0⟩ ?_;rintro⟨i,n⟩;dsimp only;refine bC d7 fun hinv3=>?_;refine g6 ?_;refine dJ (fun hc12=>?_) fun hc12=>?_
 ·refine g6 ?_;obtain⟨x1,hx2⟩:=gx xs i;refine ss (ixs i) ?_;refine ss (fL hx2 0) ?_;have hL:=vS (f:=fun s:Sl PolV=>s.list) hx2;have hfl:=zB hL;have hfn:=congrArg List.length hfl;rw [List.length_append] at hfn;have hfm:=wW (L:=(xs.map (·.list))) (i+1);refine bB (bS.sl (.slice x1.addr x1.list.length x1.cap) x1.list) (xQ (Has.each d9 (j4 hx2))) ?_;refine g9 ?_;refine inc (n+x1.list.length) ?_;refine g7 ?_;refine bM (t':=false) (decide_eq_false n7) ?_;refine g8 ?_;refine inc (i+1) ?_;refine g3 ?_;exact bk2 (i+1,n+x1.list.length) ⟨j3 (⟨by dsimp only;omega,by dsimp only;omega⟩),j0⟩
 refine g8 ?_;refine j5 func90 (growP_spec n (by have:=wW (L:=(xs.map (·.list))) i;omega)) j0 fun⟨A3,c4⟩=>?_;refine g12 ?_;refine cB (ι:=Nat×Option Addr×Nat) [(25,_),(26,_)] ⟨rfl,rfl,j0⟩ (fun⟨i,A1,c1⟩=>[(6,.slice A1 ((xs.map (·.list)).take i).flatten.length c1),(27,.int .i64 (i:Nat))]) (fun⟨i,A1,c1⟩=>[bS.row (.slice A1 ((xs.map (·.list)).take i).flatten.length c1) 47 ((xs.map (·.list)).take i).flatten]) (fun⟨i,A1,c1⟩=>[Fact.pure (i≤xs.length)]) (fun⟨i,A1,c1⟩=>xs.length-i) (0,A3,c4) ⟨rfl,rfl,j0⟩ (.c0 .nil) ⟨j3 (Nat.zero_le _),j0⟩ ?_;rintro⟨i,A1,c1⟩;dsimp only;refine bC d7 fun hinv11=>?_;refine g6 ?_;refine dJ (fun hc28=>?_) fun hc28=>?_
 ·refine g6 ?_;obtain⟨x5,hx6⟩:=gx xs i;refine ss (ixs i) ?_;refine ss (fL hx6 0) ?_;have hL:=vS (f:=fun s:Sl PolV=>s.list) hx6;have hfl:=zB hL;have hfn:=congrArg List.length hfl;rw [List.length_append] at hfn;have hfm:=wW (L:=(xs.map (·.list))) (i+1);refine bB (bS.sl (.slice x5.addr x5.list.length x5.cap) x5.list) (xQ (Has.each e6 (j4 hx6))) ?_;refine g6 ?_;refine fM .head (cE d7) rfl rfl rfl rfl rfl rfl rfl n7 fun A7 c8=>?_;rw [hfl];refine g6 ?_;refine inc (i+1) ?_;refine g3 ?_;exact bk2 (i+1,A7,c8) ⟨j3 n7,j0⟩
 refine g12 ?_;rw [List.take_of_length_le q8];exact rs1 (A1,c1) trivial
theorem bCd{a:TyV}(h:WfT a.t):a.sides.list.length≤4:=by
 have:=h.len;unfold TyV.t at this
 rwa [bF] at this
theorem bTs{a:TyV}(h:WfT a.t):a.values.list.length≤4:=by
 have e:a.t.values.length≤4:=by
  cases k:a.t.known
  ·rw [h.un k];decide
  ·exact(h.kn k).1
 unfold TyV.t at e
 rwa [bF] at e
def bLt (f:Pol→Bool)(l:List PolV)(i:Nat):Prop:=((bJ l).take i).any f=false
theorem bNo(f:Pol→Bool)(l:List PolV):bLt f l 0:=rfl
theorem bXz{f:Pol→Bool}{l:List PolV}{i:Nat}{p:PolV}(h:bLt f l i)(hp:l[i]?=some p)(k:f p.list=false):bLt f l (i+1):=by
 obtain⟨hi,e⟩:=List.getElem?_eq_some_iff.1 (gD hp);unfold bLt at*;rw [List.take_succ_eq_append_getElem hi,e,List.any_append,h];simp [k]
theorem anyT_bad{f:Pol→Bool}{l:List PolV}{i:Nat}{p:PolV}(hp:l[i]?=some p)(k:f p.list=true):(bJ l).any f=true:=
 List.any_eq_true.2 ⟨p.list,List.mem_of_getElem? (gD hp),k⟩
theorem anyT_end{f:Pol→Bool}{l:List PolV}{i:Nat}(h:bLt f l i)(hi:l.length≤i):(bJ l).any f=false:=by
 unfold bLt at h
 rwa [List.take_of_length_le ai8] at h
theorem lenT(l:List PolV){n:Nat}(h:n<l.length):n<(bJ l).length:=by rwa [bF]
theorem lenT'(l:List PolV){n:Nat}(h:l.length≤n): ¬n<(bJ l).length:=by rw [bF];omega
theorem rhT_a{a b:TyP}(h:1<a.sides.length):bBj a b=(a,90):=if_pos h
theorem rhT_b{a b:TyP}(h: ¬1<a.sides.length)(k:a.known=false):bBj a b=(a,92):=(if_neg h).trans (if_pos k)
theorem rhT_c{a b:TyP}(h: ¬1<a.sides.length)(k:a.known=true)(g:(a.values.any fun v=>!fS v)=true):bBj a b=(a,93):=by
 unfold bBj;rw [if_neg h,if_neg (by simp [k]),if_pos g]
theorem rhT_d{a b:TyP}(h: ¬1<a.sides.length)(k:a.known=true)(g:(a.values.any fun v=>!fS v)=false)(c:(b.sides.any fun s=>!gA s 1)=true):bBj a b=(a,94):=by
 unfold bBj;rw [if_neg h,if_neg (by simp [k]),if_neg (by simp [g]),if_pos c]
theorem rhT_e{a b:TyP}(h: ¬1<a.sides.length)(k:a.known=true)(g:(a.values.any fun v=>!fS v)=false)(c:(b.sides.any fun s=>!gA s 1)=false):bBj a b=(⟨a.values,false,[]⟩,0):=by
 unfold bBj;rw [if_neg h,if_neg (by simp [k]),if_neg (by simp [g]),if_neg (by simp [c])]
theorem rhoT_spec(a b:TyV)(ha:WfT a.t)(hb:WfT b.t):cM prog 85 [.agg #[.slice a.sides.addr a.sides.list.length a.sides.cap,.bool a.known,.slice a.values.addr a.values.list.length a.values.cap],.agg #[.slice b.sides.addr b.sides.list.length b.sides.cap,.bool b.known,.slice b.values.addr b.values.list.length b.values.cap]] [] [tyF a,tyF b] (fun(x:TyV)=> .tuple #[tyC x,.int .i64 (bBj a.t b.t).2]) (fun _=>[]) (fun(x:TyV)=>[tyF x,Fact.pure (x.t=(bBj a.t b.t).1)]):=by
 have hT:=fK;have hsa:=bCd ha;have hva:=bTs ha;have hsb:=bCd hb;have hvb:=bTs hb;generalize hR:bBj a.t b.t=r;refine k6 func85 ntmps85 ?_;intro β hM;refine cO<|bB (listF a.sides) (mA d7) ?_;refine cG a.sides mT0 fun hc_as=>bB (listF a.values) (mD e6)<|cG a.values mT0 fun hc_av=>bB (listF b.sides) (mA f3)<|cG b.sides mT0 fun hc_bs=>bB (listF b.values) (mD f7)<|cG b.values mT0 fun hc_bv=>?_;refine one ?_;refine j9 fun b1=>?_;refine j9 fun b2=>?_;refine j6 qV fun b3=>?_;refine g14 ?_;refine dJ (fun hc10=>?_) fun hc10=>?_
 ·refine g10 ?_;have hr:=hR.symm.trans (rhT_a (lenT _ n7));subst hr;exact rs2 (⟨a.sides,a.known,a.values⟩:TyV) ⟨(bZ (x:=⟨a.sides,a.known,a.values⟩) f9 f4),j3 rfl,j0⟩
 refine g8 ?_;refine jJ (fun hc16=>?_) fun hc16=>?_
 ·refine g10 ?_;have hr:=hR.symm.trans (rhT_b (lenT' _ n7) asd);subst hr;exact rs2 (⟨a.sides,a.known,a.values⟩:TyV) ⟨(bZ (x:=⟨a.sides,a.known,a.values⟩) f9 f4),j3 rfl,j0⟩
 refine g13 ?_;refine cB (ι:=Nat) [(2,_),(3,_),(4,_),(22,_),(23,_)] ⟨rfl,rfl,rfl,rfl,rfl,j0⟩ (fun i=>[(24,.int .i64 (i:Nat))]) (fun _=>[]) (fun i=>[Fact.pure (i≤a.values.list.length∧bLt (fun v=>!fS v) a.values.list i)]) (fun i=>a.values.list.length-i) 0 ⟨rfl,j0⟩ .nil ⟨j3 (⟨n7,bNo _ _⟩),j0⟩ ?_;rintro i;refine bC d7 fun hinv6=>?_;refine g6 ?_;refine dJ (fun hc25=>?_) fun hc25=>?_
 ·refine g6 ?_;obtain⟨x4,hx5⟩:=gx a.values.list i;refine ss (ixs i) ?_;refine ss (fL hx5 0) ?_;refine g6 ?_;refine bC (dC (Has.each f3 (j4 hx5))) fun hpl6=>?_;refine j5 func66 (yD (p:=x4) hpl6) ⟨(Has.each f3 (j4 hx5)),j0⟩ fun _=>?_;refine g3 ?_;refine jJ (fun hc30=>?_) fun hc30=>?_
  ·refine g13 ?_;have hr:=hR.symm.trans (rhT_c (lenT' _ n7) asd (anyT_bad (f:=(fun v=>!fS v)) hx5 asd));subst hr;exact rs2 (⟨a.sides,a.known,a.values⟩:TyV) ⟨(bZ (x:=⟨a.sides,a.known,a.values⟩) i6 f5),j3 rfl,j0⟩
  refine g5 ?_;refine inc (i+1) ?_;refine g3 ?_;exact bk2 (i+1) ⟨j3 (⟨n7,bXz hinv6.2 hx5 (by simpa using (asd:(!_)=false))⟩),j0⟩
 refine g7 ?_;have hgv:=anyT_end hinv6.2 n7;refine g8 ?_;refine cB (ι:=Nat) [(2,_),(4,_),(34,_),(35,_)] ⟨rfl,rfl,rfl,rfl,j0⟩ (fun i=>[(36,.int .i64 (i:Nat))]) (fun _=>[]) (fun i=>[Fact.pure (i≤b.sides.list.length∧bLt (fun s=>!gA s 1) b.sides.list i)]) (fun i=>b.sides.list.length-i) 0 ⟨rfl,j0⟩ .nil ⟨j3 (⟨n7,bNo _ _⟩),j0⟩ ?_;rintro i;refine bC d7 fun hinv12=>?_;refine g6 ?_;refine dJ (fun hc37=>?_) fun hc37=>?_
 ·refine g6 ?_;obtain⟨x7,hx8⟩:=gx b.sides.list i;refine ss (ixs i) ?_;refine ss (fL hx8 0) ?_;refine g6 ?_;refine bC (dC (Has.each e8 (j4 hx8))) fun hpl9=>?_;refine j5 func118 (vH (p:=x7) 1 hpl9) ⟨(Has.each e8 (j4 hx8)),j0⟩ fun _=>?_;refine g3 ?_;refine jJ (fun hc42=>?_) fun hc42=>?_
  ·refine g13 ?_;have hr:=hR.symm.trans (rhT_d (lenT' _ n7) asd hgv (anyT_bad (f:=(fun s=>!gA s 1)) hx8 asd));subst hr;exact rs2 (⟨a.sides,a.known,a.values⟩:TyV) ⟨(bZ (x:=⟨a.sides,a.known,a.values⟩) i7 f7),j3 rfl,j0⟩
  refine g5 ?_;refine inc (i+1) ?_;refine g3 ?_;exact bk2 (i+1) ⟨j3 (⟨n7,bXz hinv12.2 hx8 (by simpa using (asd:(!_)=false))⟩),j0⟩
 refine g9 ?_;refine j5 func46 (dE a.values.addr (a.values.list.length) a.values.cap) j0 fun _=>?_;refine g5 ?_;have hr:=hR.symm.trans (rhT_e (lenT' _ n7) asd hgv (anyT_end hinv12.2 n7));subst hr;exact rs2 (⟨a.values,false,⟨none,0,[]⟩⟩:TyV) ⟨(bZ (x:=⟨a.values,false,⟨none,0,[]⟩⟩) f7 cL),j3 rfl,j0⟩
theorem wM{a:TyV}(h:a.sides.list.length=0):cX a.t.sides=[bT 1]:=if_pos (dI h)
theorem tR{a:TyV}(h: ¬a.sides.list.length=0):cX a.t.sides=bJ a.sides.list:=if_neg (fE (Nat.pos_of_ne_zero h))
theorem pS(l:List PolV)(n:Nat):bJ (l.drop n)=(bJ l).drop n:=List.map_drop
theorem bOo(l:List PolV)(n:Nat):bJ (l.take n)=(bJ l).take n:=List.map_take
theorem rQ(l k:List PolV):bJ (l++k)=bJ l++bJ k:=List.map_append
theorem iV{F:List Fact}{xs:List PolV}(n:Nat)(h:Has F (cQ xs)):Has F (cQ (xs.drop n)):=fun S w k p hp=>h S w k p (List.mem_of_mem_drop hp)
theorem polsF_take{F:List Fact}{xs:List PolV}(n:Nat)(h:Has F (cQ xs)):Has F (cQ (xs.take n)):=fun S w k p hp=>h S w k p (List.mem_of_mem_take hp)
theorem nB(u v:Sl PolV):([u,v].map (·.list)).flatten=u.list++v.list:=by simp
theorem iZ{l:List PolV}{p:PolV}(h:l[0]?=some p):(bJ l).headD []=p.list:=by
 cases l with
 | nil=>simp at h
 | cons a l=>simp at h;subst h;rfl
section
variable {a b : TyP} {X Y : List PolV} {p q : PolV}
theorem bFp(hl:cX a.sides=bJ X)(hr:cX b.sides=bJ Y)(h:X.length≠Y.length∨bJ (X.drop 1)≠bJ (Y.drop 1)):bAs a b=(a,91):=by
 unfold bAs;rw [if_pos];rw [hl,hr,bF,bF];rw [pS,pS] at h
 simpa using h
theorem cat_in(hl:cX a.sides=bJ X)(hr:cX b.sides=bJ Y)(h:X.length=Y.length)(k:bJ (X.drop 1)=bJ (Y.drop 1)): ¬((cX a.sides).length≠(cX b.sides).length∨(cX a.sides).tail≠(cX b.sides).tail):=by
 rw [hl,hr,bF,bF];rw [pS,pS] at k;rintro(e | e)
 ·exact e h
 ·exact e (by simpa using k)
theorem cat_b'(hl:cX a.sides=bJ X)(hr:cX b.sides=bJ Y)(h:X.length=Y.length)(k:bJ (X.drop 1)=bJ (Y.drop 1))(hp:X[0]?=some p)(hq:Y[0]?=some q)(e:(bY p.list q.list 1).2≠0):bAs a b=(a,95):=by
 unfold bAs;rw [if_neg (cat_in hl hr h k),if_pos];rw [hl,hr,iZ hp,iZ hq];exact e
theorem cat_c'(hl:cX a.sides=bJ X)(hr:cX b.sides=bJ Y)(h:X.length=Y.length)(k:bJ (X.drop 1)=bJ (Y.drop 1))(hp:X[0]?=some p)(hq:Y[0]?=some q)(e:(bY p.list q.list 1).2=0)(h1:a.known=true)(h2:b.known=true)(h4:a.values.length+b.values.length≤4):bAs a b=(⟨(bY p.list q.list 1).1::bJ (Y.drop 1),true,a.values++b.values⟩,0):=by
 unfold bAs;rw [if_neg (cat_in hl hr h k),if_neg (by rw [hl,hr,iZ hp,iZ hq];simp [e]),if_pos ⟨h1,h2,h4⟩,hl,hr,iZ hp,iZ hq,pS];simp
theorem tA(hl:cX a.sides=bJ X)(hr:cX b.sides=bJ Y)(h:X.length=Y.length)(k:bJ (X.drop 1)=bJ (Y.drop 1))(hp:X[0]?=some p)(hq:Y[0]?=some q)(e:(bY p.list q.list 1).2=0)(h1: ¬(a.known=true∧b.known=true∧a.values.length+b.values.length≤4)):bAs a b=(⟨(bY p.list q.list 1).1::bJ (Y.drop 1),false,[]⟩,0):=by
 unfold bAs;rw [if_neg (cat_in hl hr h k),if_neg (by rw [hl,hr,iZ hp,iZ hq];simp [e]),if_neg h1,hl,hr,iZ hp,iZ hq,pS];simp
end
theorem nd_t{p:Prop} [Decidable p](h:(!decide p)=true): ¬p:=by simpa using h
theorem rZ{p:Prop} [Decidable p](h:(!decide p)=false):p:=by simpa using h
theorem catT_spec(a b:TyV)(ha:WfT a.t)(hb:WfT b.t):cM prog 87 [.agg #[.slice a.sides.addr a.sides.list.length a.sides.cap,.bool a.known,.slice a.values.addr a.values.list.length a.values.cap],.agg #[.slice b.sides.addr b.sides.list.length b.sides.cap,.bool b.known,.slice b.values.addr b.values.list.length b.values.cap]] [] [tyF a,tyF b] (fun(x:TyV)=> .tuple #[tyC x,.int .i64 (bAs a.t b.t).2]) (fun _=>[]) (fun(x:TyV)=>[tyF x,Fact.pure (x.t=(bAs a.t b.t).1)]):=by
 have hT:=fK;have hsa:=bCd ha;have hva:=bTs ha;have hsb:=bCd hb;have hvb:=bTs hb;generalize hR:bAs a.t b.t=r;refine k6 func87 ntmps87 ?_;intro β hM;refine cO<|bB (listF a.sides) (mA d7) ?_;refine cG a.sides mT0 fun hc_as=>bB (listF a.values) (mD e6)<|cG a.values mT0 fun hc_av=>bB (listF b.sides) (mA f3)<|cG b.sides mT0 fun hc_bs=>bB (listF b.values) (mD f7)<|cG b.values mT0 fun hc_bv=>?_;refine one ?_;refine j9 fun b1=>?_;refine j9 fun b2=>?_;refine j6 qV fun b3=>?_;refine g4 ?_;refine bU _ _ [(true,0),(true,1),(true,2),(true,3),(true,4),(true,5)] bV o5 (.c0 (.c0 (.c0 .nil))) bA.self ?_;refine g16 ?_;refine fN (fun hc17=>?_) fun hc17=>?_
 ·refine one ?_;refine j5 func45 (jO (((1:Nat):Int))) j0 fun⟨A4,c5⟩=>?_;refine dA (m:=⟨A4,c5,bT (((1:Nat):Int))⟩) rfl rfl rfl rfl rfl fun b6=>?_;refine bR (E:=bS) (xs:=[(⟨A4,c5,bT (((1:Nat):Int))⟩:PolV)]) .head q7<|bE .head<|bB (cQ [(⟨A4,c5,bT (((1:Nat):Int))⟩:PolV)]) (jH d8) ?_;refine g5 ?_;have hlx:cX a.t.sides=bJ [(⟨A4,c5,bT (((1:Nat):Int))⟩:PolV)]:=by first | exact wM n7 | exact tR n7
  refine g6 ?_;refine fN (fun hc22=>?_) fun hc22=>?_
  ·refine one ?_;refine j5 func45 (jO (((1:Nat):Int))) j0 fun⟨A7,c8⟩=>?_;refine dA (m:=⟨A7,c8,bT (((1:Nat):Int))⟩) rfl rfl rfl rfl rfl fun b9=>?_;refine bR (E:=bS) (xs:=[(⟨A7,c8,bT (((1:Nat):Int))⟩:PolV)]) .head q7<|bE .head<|bB (cQ [(⟨A7,c8,bT (((1:Nat):Int))⟩:PolV)]) (jH d8) ?_;refine g5 ?_;have hly:cX b.t.sides=bJ [(⟨A7,c8,bT (((1:Nat):Int))⟩:PolV)]:=by first | exact wM n7 | exact tR n7
   refine bU _ _ [(true,0),(true,1),(true,2),(true,3),(true,4),(true,5),(true,6),(true,7),(true,8),(true,9),(false,10),(true,11),(true,12)] bV o5 (.c0 (.c0 (.c0 .nil))) bA.self ?_;refine g5 ?_;refine bM (t':=false) o9 ?_;refine g2 ?_;refine stM rfl (dO hT (k:=1) rfl rfl rfl rfl rfl rfl n7) ?_;refine one ?_;refine stM rfl (dO hT (k:=1) rfl rfl rfl rfl rfl rfl n7) ?_;refine one ?_;refine bB (bS.sl (.slice (iE (some ⟨b6,0,none⟩) 1 bS.size 1) (1-1) (1-1)) ([(⟨A4,c5,bT (((1:Nat):Int))⟩:PolV)].drop 1)) (lF e7 ac6 aa6)<|bB (cQ ([(⟨A4,c5,bT (((1:Nat):Int))⟩:PolV)].drop 1)) (iV 1 e7)<|bB (bS.sl (.slice (iE (some ⟨b9,0,none⟩) 1 bS.size 1) (1-1) (1-1)) ([(⟨A7,c8,bT (((1:Nat):Int))⟩:PolV)].drop 1)) (lF e6 ac6 aa6)<|bB (cQ ([(⟨A7,c8,bT (((1:Nat):Int))⟩:PolV)].drop 1)) (iV 1 e6) ?_;have esp:=uQ (iE (some ⟨b6,0,none⟩) 1 bS.size 1) (iE (some ⟨b9,0,none⟩) 1 bS.size 1) (1-1) (1-1) ([(⟨A4,c5,bT (((1:Nat):Int))⟩:PolV)].drop 1) ([(⟨A7,c8,bT (((1:Nat):Int))⟩:PolV)].drop 1) ad4;simp only [List.length_drop] at esp;refine j5 func88 esp ⟨e6,d9,d8,d7,j0⟩ fun _=>?_;refine g5 ?_;refine jJ (fun hc37=>?_) fun hc37=>?_
   ·refine g9 ?_;have hr:=hR.symm.trans (bFp hlx hly u6);subst hr;exact rs2 (⟨a.sides,a.known,a.values⟩:TyV) ⟨(bZ (x:=⟨a.sides,a.known,a.values⟩) (Has.of (u8 (u8 mT5))) (Has.of (u8 (u8 mT2)))),j3 rfl,j0⟩
   refine g3 ?_;refine bU _ _ [(true,0),(true,1),(true,2),(true,3),(true,4),(true,5),(false,6),(true,7),(true,8),(true,9),(true,10),(true,11)] bV o5 (.c0 (.c0 (.c0 .nil))) bA.self ?_;refine one ?_;obtain⟨x10,hx11⟩:=gx [(⟨A4,c5,bT (((1:Nat):Int))⟩:PolV)] 0 s8;refine stM rfl (cF hT (k:=0) (cE f4) rfl rfl rfl rfl rfl rfl rfl s8) ?_;refine stM rfl (fL hx11 0) ?_;refine one ?_;obtain⟨x12,hx13⟩:=gx [(⟨A7,c8,bT (((1:Nat):Int))⟩:PolV)] 0 s8;refine stM rfl (cF hT (k:=0) (cE e8) rfl rfl rfl rfl rfl rfl rfl s8) ?_;refine stM rfl (fL hx13 0) ?_;refine one ?_;refine bC (dC (Has.each f3 (j4 hx11))) fun hpl16=>bC (dC (Has.each e7 (j4 hx13))) fun hql17=>?_;refine j5 func89 (bAm (p:=x10) (q:=x12) hpl16 hql17) ⟨(Has.each f3 (j4 hx11)),(Has.each e7 (j4 hx13)),j0⟩ fun⟨A14,c15⟩=>?_;refine g15 ?_;refine wG (fun hc50=>?_) fun hc50=>?_
   ·refine g9 ?_;have hr:=hR.symm.trans (cat_b' hlx hly p8 (rZ asd) hx11 hx13 asd);subst hr;exact rs2 (⟨a.sides,a.known,a.values⟩:TyV) ⟨(bZ (x:=⟨a.sides,a.known,a.values⟩) (Has.of (u8 (u8 mT6))) (Has.of (u8 (u8 mT3)))),j3 rfl,j0⟩
   refine g5 ?_;refine dA (m:=⟨A14,c15,(bY x10.list x12.list 1).1⟩) rfl rfl rfl rfl rfl fun b18=>?_;refine bR (E:=bS) (xs:=[(⟨A14,c15,(bY x10.list x12.list 1).1⟩:PolV)]) .head q7 ?_;refine one ?_;refine ss (dO hT (k:=1) rfl rfl rfl rfl rfl rfl n7) ?_;refine bB (bS.sl (.slice (iE (some ⟨b9,0,none⟩) 1 bS.size 1) (1-1) (1-1)) ([(⟨A7,c8,bT (((1:Nat):Int))⟩:PolV)].drop 1)) (lF e9 ac6 aa6)<|bB (cQ ([(⟨A7,c8,bT (((1:Nat):Int))⟩:PolV)].drop 1)) (iV 1 e9) ?_;refine fM .head (cE d8) rfl rfl rfl rfl rfl rfl ae1 w9 fun A19 c20=>?_;refine bX .head fun hc_sum=>bE .head<|bB (cQ ([(⟨A14,c15,(bY x10.list x12.list 1).1⟩:PolV)]++([(⟨A7,c8,bT (((1:Nat):Int))⟩:PolV)].drop 1))) (oC (jH e6) d8) ?_;refine g9 ?_;refine cI (fun hg59=>?_) (fun hg59=>?_)
   ·refine g4 ?_;refine cI (fun hg63=>?_) (fun hg63=>?_)
    ·refine g7 ?_;refine inc (a.values.list.length+b.values.list.length) ?_;refine g4 ?_;refine bQy (fun hc72=>?_) fun hc72=>?_
     ·refine g7 ?_;refine qQ (u:=a.values) (v:=b.values) rfl rfl rfl rfl rfl rfl fun b21=>?_;refine bR (E:=bBg) (xs:=[a.values,b.values]) .head q7<|bE .head<|bB (Fact.each [a.values,b.values] listF) (Has.each_cons (Has.of (u8 (u8 (u8 mT0)))) (Has.each_cons (Has.of (u8 (u8 mT2))) Has.each_nil)) ?_;have csp:=qO (some ⟨b21,0,none⟩) 2 [a.values,b.values] o6 ad9;rw [nB] at csp;refine j5 func51 csp ⟨d8,d7,j0⟩ fun⟨A22,c23⟩=>?_;refine bX .head fun hc_cc=>bE .head<|bB (cQ (a.values.list++b.values.list)) (oC (Has.of (u8 (u8 (u8 mT0)))) (Has.of (u8 (u8 mT2)))) ?_;refine j5 func44 (jD A19 A22 (([(⟨A14,c15,(bY x10.list x12.list 1).1⟩:PolV)]++([(⟨A7,c8,bT (((1:Nat):Int))⟩:PolV)].drop 1)).length) ((a.values.list++b.values.list).length) c20 c23) j0 fun _=>?_;refine g6 ?_;have hr:=hR.symm.trans ((cat_c' hlx hly p8 (rZ asd) hx11 hx13 n7 asd asd ad3).trans ab0);subst hr;exact rs2 (⟨⟨A19,c20,([(⟨A14,c15,(bY x10.list x12.list 1).1⟩:PolV)]++([(⟨A7,c8,bT (((1:Nat):Int))⟩:PolV)].drop 1))⟩,true,⟨A22,c23,(a.values.list++b.values.list)⟩⟩:TyV) ⟨(bZ (x:=⟨⟨A19,c20,([(⟨A14,c15,(bY x10.list x12.list 1).1⟩:PolV)]++([(⟨A7,c8,bT (((1:Nat):Int))⟩:PolV)].drop 1))⟩,true,⟨A22,c23,(a.values.list++b.values.list)⟩⟩) (cH e8 e7 (hc_sum)) (cH d8 d7 (hc_cc))),j3 rfl,j0⟩
     refine g5 ?_;refine j5 func46 (dE A19 (([(⟨A14,c15,(bY x10.list x12.list 1).1⟩:PolV)]++([(⟨A7,c8,bT (((1:Nat):Int))⟩:PolV)].drop 1)).length) c20) j0 fun _=>?_;refine g5 ?_;have hr:=hR.symm.trans (tA hlx hly p8 (rZ asd) hx11 hx13 n7 o8);subst hr;exact rs2 (⟨⟨A19,c20,([(⟨A14,c15,(bY x10.list x12.list 1).1⟩:PolV)]++([(⟨A7,c8,bT (((1:Nat):Int))⟩:PolV)].drop 1))⟩,false,⟨none,0,[]⟩⟩:TyV) ⟨(bZ (x:=⟨⟨A19,c20,([(⟨A14,c15,(bY x10.list x12.list 1).1⟩:PolV)]++([(⟨A7,c8,bT (((1:Nat):Int))⟩:PolV)].drop 1))⟩,false,⟨none,0,[]⟩⟩) (cH d8 d7 (hc_sum)) cL),j3 rfl,j0⟩
    refine g17 ?_;refine j5 func46 (dE A19 (([(⟨A14,c15,(bY x10.list x12.list 1).1⟩:PolV)]++([(⟨A7,c8,bT (((1:Nat):Int))⟩:PolV)].drop 1)).length) c20) j0 fun _=>?_;refine g5 ?_;have hr:=hR.symm.trans (tA hlx hly p8 (rZ asd) hx11 hx13 n7 o8);subst hr;exact rs2 (⟨⟨A19,c20,([(⟨A14,c15,(bY x10.list x12.list 1).1⟩:PolV)]++([(⟨A7,c8,bT (((1:Nat):Int))⟩:PolV)].drop 1))⟩,false,⟨none,0,[]⟩⟩:TyV) ⟨(bZ (x:=⟨⟨A19,c20,([(⟨A14,c15,(bY x10.list x12.list 1).1⟩:PolV)]++([(⟨A7,c8,bT (((1:Nat):Int))⟩:PolV)].drop 1))⟩,false,⟨none,0,[]⟩⟩) (cH d8 d7 (hc_sum)) cL),j3 rfl,j0⟩
   refine g21 ?_;refine j5 func46 (dE A19 (([(⟨A14,c15,(bY x10.list x12.list 1).1⟩:PolV)]++([(⟨A7,c8,bT (((1:Nat):Int))⟩:PolV)].drop 1)).length) c20) j0 fun _=>?_;refine g5 ?_;have hr:=hR.symm.trans (tA hlx hly p8 (rZ asd) hx11 hx13 n7 o8);subst hr;exact rs2 (⟨⟨A19,c20,([(⟨A14,c15,(bY x10.list x12.list 1).1⟩:PolV)]++([(⟨A7,c8,bT (((1:Nat):Int))⟩:PolV)].drop 1))⟩,false,⟨none,0,[]⟩⟩:TyV) ⟨(bZ (x:=⟨⟨A19,c20,([(⟨A14,c15,(bY x10.list x12.list 1).1⟩:PolV)]++([(⟨A7,c8,bT (((1:Nat):Int))⟩:PolV)].drop 1))⟩,false,⟨none,0,[]⟩⟩) (cH d8 d7 (hc_sum)) cL),j3 rfl,j0⟩
  refine g4 ?_;have hly:cX b.t.sides=bJ b.sides.list:=by first | exact wM n7 | exact tR n7
  refine bU _ _ [(true,0),(true,1),(true,2),(true,3),(true,4),(true,5),(true,6),(true,7),(true,8),(true,9),(false,10),(true,11),(true,12)] bV o5 (.c0 (.c0 (.c0 .nil))) bA.self ?_;refine g6 ?_;refine bHo (fun hg30=>?_) fun hg30=>?_
  ·refine g21 ?_;have hr:=hR.symm.trans (bFp hlx hly u6);subst hr;exact rs2 (⟨a.sides,a.known,a.values⟩:TyV) ⟨(bZ (x:=⟨a.sides,a.known,a.values⟩) (Has.of tJ) f9),j3 rfl,j0⟩
  refine one ?_;refine stM rfl (dO hT (k:=1) rfl rfl rfl rfl rfl rfl n7) ?_;refine one ?_;refine stM rfl (dO hT (k:=1) rfl rfl rfl rfl rfl rfl n7) ?_;refine one ?_;refine bB (bS.sl (.slice (iE (some ⟨b6,0,none⟩) 1 bS.size 1) (1-1) (1-1)) ([(⟨A4,c5,bT (((1:Nat):Int))⟩:PolV)].drop 1)) (lF d8 ac6 aa6)<|bB (cQ ([(⟨A4,c5,bT (((1:Nat):Int))⟩:PolV)].drop 1)) (iV 1 d8)<|bB (bS.sl (.slice (iE b.sides.addr 1 bS.size b.sides.cap) (b.sides.list.length-1) (b.sides.cap-1)) (b.sides.list.drop 1)) (lF f5 ag0 aa6)<|bB (cQ (b.sides.list.drop 1)) (iV 1 f5) ?_;have esp:=uQ (iE (some ⟨b6,0,none⟩) 1 bS.size 1) (iE b.sides.addr 1 bS.size b.sides.cap) (1-1) (b.sides.cap-1) ([(⟨A4,c5,bT (((1:Nat):Int))⟩:PolV)].drop 1) (b.sides.list.drop 1) ad4;simp only [List.length_drop] at esp;refine j5 func88 esp ⟨e6,d9,d8,d7,j0⟩ fun _=>?_;refine g5 ?_;refine jJ (fun hc37=>?_) fun hc37=>?_
  ·refine g9 ?_;have hr:=hR.symm.trans (bFp hlx hly u6);subst hr;exact rs2 (⟨a.sides,a.known,a.values⟩:TyV) ⟨(bZ (x:=⟨a.sides,a.known,a.values⟩) (Has.of (u8 (u8 mT2))) (Has.of (u8 mT7))),j3 rfl,j0⟩
  refine g3 ?_;refine bU _ _ [(true,0),(true,1),(true,2),(true,3),(true,4),(true,5),(false,6),(true,7),(true,8),(true,9),(true,10),(true,11)] bV o5 (.c0 (.c0 (.c0 .nil))) bA.self ?_;refine one ?_;obtain⟨x24,hx25⟩:=gx [(⟨A4,c5,bT (((1:Nat):Int))⟩:PolV)] 0 s8;refine stM rfl (cF hT (k:=0) (cE e8) rfl rfl rfl rfl rfl rfl rfl s8) ?_;refine stM rfl (fL hx25 0) ?_;refine one ?_;obtain⟨x26,hx27⟩:=gx b.sides.list 0 s8;refine stM rfl (cF hT (k:=0) (cE f9) rfl rfl rfl rfl rfl rfl rfl s8) ?_;refine stM rfl (fL hx27 0) ?_;refine one ?_;refine bC (dC (Has.each e7 (j4 hx25))) fun hpl30=>bC (dC (Has.each f7 (j4 hx27))) fun hql31=>?_;refine j5 func89 (bAm (p:=x24) (q:=x26) hpl30 hql31) ⟨(Has.each e7 (j4 hx25)),(Has.each f7 (j4 hx27)),j0⟩ fun⟨A28,c29⟩=>?_;refine g15 ?_;refine wG (fun hc50=>?_) fun hc50=>?_
  ·refine g9 ?_;have hr:=hR.symm.trans (cat_b' hlx hly p8 (rZ asd) hx25 hx27 asd);subst hr;exact rs2 (⟨a.sides,a.known,a.values⟩:TyV) ⟨(bZ (x:=⟨a.sides,a.known,a.values⟩) (Has.of (u8 (u8 mT3))) (Has.of (u8 (u8 mT0)))),j3 rfl,j0⟩
  refine g5 ?_;refine dA (m:=⟨A28,c29,(bY x24.list x26.list 1).1⟩) rfl rfl rfl rfl rfl fun b32=>?_;refine bR (E:=bS) (xs:=[(⟨A28,c29,(bY x24.list x26.list 1).1⟩:PolV)]) .head q7 ?_;refine one ?_;refine ss (dO hT (k:=1) rfl rfl rfl rfl rfl rfl n7) ?_;refine bB (bS.sl (.slice (iE b.sides.addr 1 bS.size b.sides.cap) (b.sides.list.length-1) (b.sides.cap-1)) (b.sides.list.drop 1)) (lF i6 ag0 aa6)<|bB (cQ (b.sides.list.drop 1)) (iV 1 i6) ?_;refine fM .head (cE d8) rfl rfl rfl rfl rfl rfl ae1 w9 fun A33 c34=>?_;refine bX .head fun hc_sum=>bE .head<|bB (cQ ([(⟨A28,c29,(bY x24.list x26.list 1).1⟩:PolV)]++(b.sides.list.drop 1))) (oC (jH e6) d8) ?_;refine g9 ?_;refine cI (fun hg59=>?_) (fun hg59=>?_)
  ·refine g4 ?_;refine cI (fun hg63=>?_) (fun hg63=>?_)
   ·refine g7 ?_;refine inc (a.values.list.length+b.values.list.length) ?_;refine g4 ?_;refine bQy (fun hc72=>?_) fun hc72=>?_
    ·refine g7 ?_;refine qQ (u:=a.values) (v:=b.values) rfl rfl rfl rfl rfl rfl fun b35=>?_;refine bR (E:=bBg) (xs:=[a.values,b.values]) .head q7<|bE .head<|bB (Fact.each [a.values,b.values] listF) (Has.each_cons (Has.of (u8 (u8 mT5))) (Has.each_cons (Has.of (u8 mT7)) Has.each_nil)) ?_;have csp:=qO (some ⟨b35,0,none⟩) 2 [a.values,b.values] o6 ad9;rw [nB] at csp;refine j5 func51 csp ⟨d8,d7,j0⟩ fun⟨A36,c37⟩=>?_;refine bX .head fun hc_cc=>bE .head<|bB (cQ (a.values.list++b.values.list)) (oC (Has.of (u8 (u8 mT5))) (Has.of (u8 mT7))) ?_;refine j5 func44 (jD A33 A36 (([(⟨A28,c29,(bY x24.list x26.list 1).1⟩:PolV)]++(b.sides.list.drop 1)).length) ((a.values.list++b.values.list).length) c34 c37) j0 fun _=>?_;refine g6 ?_;have hr:=hR.symm.trans ((cat_c' hlx hly p8 (rZ asd) hx25 hx27 n7 asd asd ad3).trans ab0);subst hr;exact rs2 (⟨⟨A33,c34,([(⟨A28,c29,(bY x24.list x26.list 1).1⟩:PolV)]++(b.sides.list.drop 1))⟩,true,⟨A36,c37,(a.values.list++b.values.list)⟩⟩:TyV) ⟨(bZ (x:=⟨⟨A33,c34,([(⟨A28,c29,(bY x24.list x26.list 1).1⟩:PolV)]++(b.sides.list.drop 1))⟩,true,⟨A36,c37,(a.values.list++b.values.list)⟩⟩) (cH e8 e7 (hc_sum)) (cH d8 d7 (hc_cc))),j3 rfl,j0⟩
    refine g5 ?_;refine j5 func46 (dE A33 (([(⟨A28,c29,(bY x24.list x26.list 1).1⟩:PolV)]++(b.sides.list.drop 1)).length) c34) j0 fun _=>?_;refine g5 ?_;have hr:=hR.symm.trans (tA hlx hly p8 (rZ asd) hx25 hx27 n7 o8);subst hr;exact rs2 (⟨⟨A33,c34,([(⟨A28,c29,(bY x24.list x26.list 1).1⟩:PolV)]++(b.sides.list.drop 1))⟩,false,⟨none,0,[]⟩⟩:TyV) ⟨(bZ (x:=⟨⟨A33,c34,([(⟨A28,c29,(bY x24.list x26.list 1).1⟩:PolV)]++(b.sides.list.drop 1))⟩,false,⟨none,0,[]⟩⟩) (cH d8 d7 (hc_sum)) cL),j3 rfl,j0⟩
   refine g17 ?_;refine j5 func46 (dE A33 (([(⟨A28,c29,(bY x24.list x26.list 1).1⟩:PolV)]++(b.sides.list.drop 1)).length) c34) j0 fun _=>?_;refine g5 ?_;have hr:=hR.symm.trans (tA hlx hly p8 (rZ asd) hx25 hx27 n7 o8);subst hr;exact rs2 (⟨⟨A33,c34,([(⟨A28,c29,(bY x24.list x26.list 1).1⟩:PolV)]++(b.sides.list.drop 1))⟩,false,⟨none,0,[]⟩⟩:TyV) ⟨(bZ (x:=⟨⟨A33,c34,([(⟨A28,c29,(bY x24.list x26.list 1).1⟩:PolV)]++(b.sides.list.drop 1))⟩,false,⟨none,0,[]⟩⟩) (cH d8 d7 (hc_sum)) cL),j3 rfl,j0⟩
  refine g21 ?_;refine j5 func46 (dE A33 (([(⟨A28,c29,(bY x24.list x26.list 1).1⟩:PolV)]++(b.sides.list.drop 1)).length) c34) j0 fun _=>?_;refine g5 ?_;have hr:=hR.symm.trans (tA hlx hly p8 (rZ asd) hx25 hx27 n7 o8);subst hr;exact rs2 (⟨⟨A33,c34,([(⟨A28,c29,(bY x24.list x26.list 1).1⟩:PolV)]++(b.sides.list.drop 1))⟩,false,⟨none,0,[]⟩⟩:TyV) ⟨(bZ (x:=⟨⟨A33,c34,([(⟨A28,c29,(bY x24.list x26.list 1).1⟩:PolV)]++(b.sides.list.drop 1))⟩,false,⟨none,0,[]⟩⟩) (cH d8 d7 (hc_sum)) cL),j3 rfl,j0⟩
 refine g4 ?_;have hlx:cX a.t.sides=bJ a.sides.list:=by first | exact wM n7 | exact tR n7
 refine g6 ?_;refine fN (fun hc22=>?_) fun hc22=>?_
 ·refine one ?_;refine j5 func45 (jO (((1:Nat):Int))) j0 fun⟨A38,c39⟩=>?_;refine dA (m:=⟨A38,c39,bT (((1:Nat):Int))⟩) rfl rfl rfl rfl rfl fun b40=>?_;refine bR (E:=bS) (xs:=[(⟨A38,c39,bT (((1:Nat):Int))⟩:PolV)]) .head q7<|bE .head<|bB (cQ [(⟨A38,c39,bT (((1:Nat):Int))⟩:PolV)]) (jH d8) ?_;refine g5 ?_;have hly:cX b.t.sides=bJ [(⟨A38,c39,bT (((1:Nat):Int))⟩:PolV)]:=by first | exact wM n7 | exact tR n7
  refine bU _ _ [(true,0),(true,1),(true,2),(true,3),(true,4),(true,5),(true,6),(true,7),(true,8),(true,9),(false,10),(true,11),(true,12)] bV o5 (.c0 (.c0 (.c0 .nil))) bA.self ?_;refine g6 ?_;refine bHo (fun hg30=>?_) fun hg30=>?_
  ·refine g21 ?_;have hr:=hR.symm.trans (bFp hlx hly u6);subst hr;exact rs2 (⟨a.sides,a.known,a.values⟩:TyV) ⟨(bZ (x:=⟨a.sides,a.known,a.values⟩) (Has.of tJ) f9),j3 rfl,j0⟩
  refine one ?_;refine stM rfl (dO hT (k:=1) rfl rfl rfl rfl rfl rfl n7) ?_;refine one ?_;refine stM rfl (dO hT (k:=1) rfl rfl rfl rfl rfl rfl n7) ?_;refine one ?_;refine bB (bS.sl (.slice (iE a.sides.addr 1 bS.size a.sides.cap) (a.sides.list.length-1) (a.sides.cap-1)) (a.sides.list.drop 1)) (lF i7 (by first | exact hc_as | omega) aa6)<|bB (cQ (a.sides.list.drop 1)) (iV 1 i7)<|bB (bS.sl (.slice (iE (some ⟨b40,0,none⟩) 1 bS.size 1) (1-1) (1-1)) ([(⟨A38,c39,bT (((1:Nat):Int))⟩:PolV)].drop 1)) (lF e6 ac6 aa6)<|bB (cQ ([(⟨A38,c39,bT (((1:Nat):Int))⟩:PolV)].drop 1)) (iV 1 e6) ?_;have esp:=uQ (iE a.sides.addr 1 bS.size a.sides.cap) (iE (some ⟨b40,0,none⟩) 1 bS.size 1) (a.sides.cap-1) (1-1) (a.sides.list.drop 1) ([(⟨A38,c39,bT (((1:Nat):Int))⟩:PolV)].drop 1) ad4;simp only [List.length_drop] at esp;refine j5 func88 esp ⟨e6,d9,d8,d7,j0⟩ fun _=>?_;refine g5 ?_;refine jJ (fun hc37=>?_) fun hc37=>?_
  ·refine g9 ?_;have hr:=hR.symm.trans (bFp hlx hly u6);subst hr;exact rs2 (⟨a.sides,a.known,a.values⟩:TyV) ⟨(bZ (x:=⟨a.sides,a.known,a.values⟩) (Has.of (u8 (u8 mT2))) (Has.of (u8 mT7))),j3 rfl,j0⟩
  refine g3 ?_;refine bU _ _ [(true,0),(true,1),(true,2),(true,3),(true,4),(true,5),(false,6),(true,7),(true,8),(true,9),(true,10),(true,11)] bV o5 (.c0 (.c0 (.c0 .nil))) bA.self ?_;refine one ?_;obtain⟨x41,hx42⟩:=gx a.sides.list 0 s8;refine stM rfl (cF hT (k:=0) (cE (Has.of (u8 (u8 mT1)))) rfl rfl rfl rfl rfl rfl rfl s8) ?_;refine stM rfl (fL hx42 0) ?_;refine one ?_;obtain⟨x43,hx44⟩:=gx [(⟨A38,c39,bT (((1:Nat):Int))⟩:PolV)] 0 s8;refine stM rfl (cF hT (k:=0) (cE e8) rfl rfl rfl rfl rfl rfl rfl s8) ?_;refine stM rfl (fL hx44 0) ?_;refine one ?_;refine bC (dC (Has.each (Has.of (u8 (u8 mT0))) (j4 hx42))) fun hpl47=>bC (dC (Has.each e7 (j4 hx44))) fun hql48=>?_;refine j5 func89 (bAm (p:=x41) (q:=x43) hpl47 hql48) ⟨(Has.each (Has.of (u8 (u8 mT0))) (j4 hx42)),(Has.each e7 (j4 hx44)),j0⟩ fun⟨A45,c46⟩=>?_;refine g15 ?_;refine wG (fun hc50=>?_) fun hc50=>?_
  ·refine g9 ?_;have hr:=hR.symm.trans (cat_b' hlx hly p8 (rZ asd) hx42 hx44 asd);subst hr;exact rs2 (⟨a.sides,a.known,a.values⟩:TyV) ⟨(bZ (x:=⟨a.sides,a.known,a.values⟩) (Has.of (u8 (u8 mT3))) (Has.of (u8 (u8 mT0)))),j3 rfl,j0⟩
  refine g5 ?_;refine dA (m:=⟨A45,c46,(bY x41.list x43.list 1).1⟩) rfl rfl rfl rfl rfl fun b49=>?_;refine bR (E:=bS) (xs:=[(⟨A45,c46,(bY x41.list x43.list 1).1⟩:PolV)]) .head q7 ?_;refine one ?_;refine ss (dO hT (k:=1) rfl rfl rfl rfl rfl rfl n7) ?_;refine bB (bS.sl (.slice (iE (some ⟨b40,0,none⟩) 1 bS.size 1) (1-1) (1-1)) ([(⟨A38,c39,bT (((1:Nat):Int))⟩:PolV)].drop 1)) (lF e9 ac6 aa6)<|bB (cQ ([(⟨A38,c39,bT (((1:Nat):Int))⟩:PolV)].drop 1)) (iV 1 e9) ?_;refine fM .head (cE d8) rfl rfl rfl rfl rfl rfl ae1 w9 fun A50 c51=>?_;refine bX .head fun hc_sum=>bE .head<|bB (cQ ([(⟨A45,c46,(bY x41.list x43.list 1).1⟩:PolV)]++([(⟨A38,c39,bT (((1:Nat):Int))⟩:PolV)].drop 1))) (oC (jH e6) d8) ?_;refine g9 ?_;refine cI (fun hg59=>?_) (fun hg59=>?_)
  ·refine g4 ?_;refine cI (fun hg63=>?_) (fun hg63=>?_)
   ·refine g7 ?_;refine inc (a.values.list.length+b.values.list.length) ?_;refine g4 ?_;refine bQy (fun hc72=>?_) fun hc72=>?_
    ·refine g7 ?_;refine qQ (u:=a.values) (v:=b.values) rfl rfl rfl rfl rfl rfl fun b52=>?_;refine bR (E:=bBg) (xs:=[a.values,b.values]) .head q7<|bE .head<|bB (Fact.each [a.values,b.values] listF) (Has.each_cons (Has.of (u8 (u8 mT5))) (Has.each_cons (Has.of (u8 mT7)) Has.each_nil)) ?_;have csp:=qO (some ⟨b52,0,none⟩) 2 [a.values,b.values] o6 ad9;rw [nB] at csp;refine j5 func51 csp ⟨d8,d7,j0⟩ fun⟨A53,c54⟩=>?_;refine bX .head fun hc_cc=>bE .head<|bB (cQ (a.values.list++b.values.list)) (oC (Has.of (u8 (u8 mT5))) (Has.of (u8 mT7))) ?_;refine j5 func44 (jD A50 A53 (([(⟨A45,c46,(bY x41.list x43.list 1).1⟩:PolV)]++([(⟨A38,c39,bT (((1:Nat):Int))⟩:PolV)].drop 1)).length) ((a.values.list++b.values.list).length) c51 c54) j0 fun _=>?_;refine g6 ?_;have hr:=hR.symm.trans ((cat_c' hlx hly p8 (rZ asd) hx42 hx44 n7 asd asd ad3).trans ab0);subst hr;exact rs2 (⟨⟨A50,c51,([(⟨A45,c46,(bY x41.list x43.list 1).1⟩:PolV)]++([(⟨A38,c39,bT (((1:Nat):Int))⟩:PolV)].drop 1))⟩,true,⟨A53,c54,(a.values.list++b.values.list)⟩⟩:TyV) ⟨(bZ (x:=⟨⟨A50,c51,([(⟨A45,c46,(bY x41.list x43.list 1).1⟩:PolV)]++([(⟨A38,c39,bT (((1:Nat):Int))⟩:PolV)].drop 1))⟩,true,⟨A53,c54,(a.values.list++b.values.list)⟩⟩) (cH e8 e7 (hc_sum)) (cH d8 d7 (hc_cc))),j3 rfl,j0⟩
    refine g5 ?_;refine j5 func46 (dE A50 (([(⟨A45,c46,(bY x41.list x43.list 1).1⟩:PolV)]++([(⟨A38,c39,bT (((1:Nat):Int))⟩:PolV)].drop 1)).length) c51) j0 fun _=>?_;refine g5 ?_;have hr:=hR.symm.trans (tA hlx hly p8 (rZ asd) hx42 hx44 n7 o8);subst hr;exact rs2 (⟨⟨A50,c51,([(⟨A45,c46,(bY x41.list x43.list 1).1⟩:PolV)]++([(⟨A38,c39,bT (((1:Nat):Int))⟩:PolV)].drop 1))⟩,false,⟨none,0,[]⟩⟩:TyV) ⟨(bZ (x:=⟨⟨A50,c51,([(⟨A45,c46,(bY x41.list x43.list 1).1⟩:PolV)]++([(⟨A38,c39,bT (((1:Nat):Int))⟩:PolV)].drop 1))⟩,false,⟨none,0,[]⟩⟩) (cH d8 d7 (hc_sum)) cL),j3 rfl,j0⟩
   refine g17 ?_;refine j5 func46 (dE A50 (([(⟨A45,c46,(bY x41.list x43.list 1).1⟩:PolV)]++([(⟨A38,c39,bT (((1:Nat):Int))⟩:PolV)].drop 1)).length) c51) j0 fun _=>?_;refine g5 ?_;have hr:=hR.symm.trans (tA hlx hly p8 (rZ asd) hx42 hx44 n7 o8);subst hr;exact rs2 (⟨⟨A50,c51,([(⟨A45,c46,(bY x41.list x43.list 1).1⟩:PolV)]++([(⟨A38,c39,bT (((1:Nat):Int))⟩:PolV)].drop 1))⟩,false,⟨none,0,[]⟩⟩:TyV) ⟨(bZ (x:=⟨⟨A50,c51,([(⟨A45,c46,(bY x41.list x43.list 1).1⟩:PolV)]++([(⟨A38,c39,bT (((1:Nat):Int))⟩:PolV)].drop 1))⟩,false,⟨none,0,[]⟩⟩) (cH d8 d7 (hc_sum)) cL),j3 rfl,j0⟩
  refine g21 ?_;refine j5 func46 (dE A50 (([(⟨A45,c46,(bY x41.list x43.list 1).1⟩:PolV)]++([(⟨A38,c39,bT (((1:Nat):Int))⟩:PolV)].drop 1)).length) c51) j0 fun _=>?_;refine g5 ?_;have hr:=hR.symm.trans (tA hlx hly p8 (rZ asd) hx42 hx44 n7 o8);subst hr;exact rs2 (⟨⟨A50,c51,([(⟨A45,c46,(bY x41.list x43.list 1).1⟩:PolV)]++([(⟨A38,c39,bT (((1:Nat):Int))⟩:PolV)].drop 1))⟩,false,⟨none,0,[]⟩⟩:TyV) ⟨(bZ (x:=⟨⟨A50,c51,([(⟨A45,c46,(bY x41.list x43.list 1).1⟩:PolV)]++([(⟨A38,c39,bT (((1:Nat):Int))⟩:PolV)].drop 1))⟩,false,⟨none,0,[]⟩⟩) (cH d8 d7 (hc_sum)) cL),j3 rfl,j0⟩
 refine g4 ?_;have hly:cX b.t.sides=bJ b.sides.list:=by first | exact wM n7 | exact tR n7
 refine bU _ _ [(true,0),(true,1),(true,2),(true,3),(true,4),(true,5),(true,6),(true,7),(true,8),(true,9),(false,10),(true,11),(true,12)] bV o5 (.c0 (.c0 (.c0 .nil))) bA.self ?_;refine g6 ?_;refine bHo (fun hg30=>?_) fun hg30=>?_
 ·refine g21 ?_;have hr:=hR.symm.trans (bFp hlx hly u6);subst hr;exact rs2 (⟨a.sides,a.known,a.values⟩:TyV) ⟨(bZ (x:=⟨a.sides,a.known,a.values⟩) f9 f4),j3 rfl,j0⟩
 refine one ?_;refine stM rfl (dO hT (k:=1) rfl rfl rfl rfl rfl rfl n7) ?_;refine one ?_;refine stM rfl (dO hT (k:=1) rfl rfl rfl rfl rfl rfl n7) ?_;refine one ?_;refine bB (bS.sl (.slice (iE a.sides.addr 1 bS.size a.sides.cap) (a.sides.list.length-1) (a.sides.cap-1)) (a.sides.list.drop 1)) (lF f7 (by first | exact hc_as | omega) aa6)<|bB (cQ (a.sides.list.drop 1)) (iV 1 f7)<|bB (bS.sl (.slice (iE b.sides.addr 1 bS.size b.sides.cap) (b.sides.list.length-1) (b.sides.cap-1)) (b.sides.list.drop 1)) (lF e9 ag0 aa6)<|bB (cQ (b.sides.list.drop 1)) (iV 1 e9) ?_;have esp:=uQ (iE a.sides.addr 1 bS.size a.sides.cap) (iE b.sides.addr 1 bS.size b.sides.cap) (a.sides.cap-1) (b.sides.cap-1) (a.sides.list.drop 1) (b.sides.list.drop 1) ad4;simp only [List.length_drop] at esp;refine j5 func88 esp ⟨e6,d9,d8,d7,j0⟩ fun _=>?_;refine g5 ?_;refine jJ (fun hc37=>?_) fun hc37=>?_
 ·refine g9 ?_;have hr:=hR.symm.trans (bFp hlx hly u6);subst hr;exact rs2 (⟨a.sides,a.known,a.values⟩:TyV) ⟨(bZ (x:=⟨a.sides,a.known,a.values⟩) (Has.of (u8 mT7)) i6),j3 rfl,j0⟩
 refine g3 ?_;refine bU _ _ [(true,0),(true,1),(true,2),(true,3),(true,4),(true,5),(false,6),(true,7),(true,8),(true,9),(true,10),(true,11)] bV o5 (.c0 (.c0 (.c0 .nil))) bA.self ?_;refine one ?_;obtain⟨x55,hx56⟩:=gx a.sides.list 0 s8;refine stM rfl (cF hT (k:=0) (cE (Has.of tJ)) rfl rfl rfl rfl rfl rfl rfl s8) ?_;refine stM rfl (fL hx56 0) ?_;refine one ?_;obtain⟨x57,hx58⟩:=gx b.sides.list 0 s8;refine stM rfl (cF hT (k:=0) (cE f4) rfl rfl rfl rfl rfl rfl rfl s8) ?_;refine stM rfl (fL hx58 0) ?_;refine one ?_;refine bC (dC (Has.each i7 (j4 hx56))) fun hpl61=>bC (dC (Has.each f3 (j4 hx58))) fun hql62=>?_;refine j5 func89 (bAm (p:=x55) (q:=x57) hpl61 hql62) ⟨(Has.each i7 (j4 hx56)),(Has.each f3 (j4 hx58)),j0⟩ fun⟨A59,c60⟩=>?_;refine g15 ?_;refine wG (fun hc50=>?_) fun hc50=>?_
 ·refine g9 ?_;have hr:=hR.symm.trans (cat_b' hlx hly p8 (rZ asd) hx56 hx58 asd);subst hr;exact rs2 (⟨a.sides,a.known,a.values⟩:TyV) ⟨(bZ (x:=⟨a.sides,a.known,a.values⟩) (Has.of (u8 (u8 mT0))) i7),j3 rfl,j0⟩
 refine g5 ?_;refine dA (m:=⟨A59,c60,(bY x55.list x57.list 1).1⟩) rfl rfl rfl rfl rfl fun b63=>?_;refine bR (E:=bS) (xs:=[(⟨A59,c60,(bY x55.list x57.list 1).1⟩:PolV)]) .head q7 ?_;refine one ?_;refine ss (dO hT (k:=1) rfl rfl rfl rfl rfl rfl n7) ?_;refine bB (bS.sl (.slice (iE b.sides.addr 1 bS.size b.sides.cap) (b.sides.list.length-1) (b.sides.cap-1)) (b.sides.list.drop 1)) (lF f5 ag0 aa6)<|bB (cQ (b.sides.list.drop 1)) (iV 1 f5) ?_;refine fM .head (cE d8) rfl rfl rfl rfl rfl rfl ae1 w9 fun A64 c65=>?_;refine bX .head fun hc_sum=>bE .head<|bB (cQ ([(⟨A59,c60,(bY x55.list x57.list 1).1⟩:PolV)]++(b.sides.list.drop 1))) (oC (jH e6) d8) ?_;refine g9 ?_;refine cI (fun hg59=>?_) (fun hg59=>?_)
 ·refine g4 ?_;refine cI (fun hg63=>?_) (fun hg63=>?_)
  ·refine g7 ?_;refine inc (a.values.list.length+b.values.list.length) ?_;refine g4 ?_;refine bQy (fun hc72=>?_) fun hc72=>?_
   ·refine g7 ?_;refine qQ (u:=a.values) (v:=b.values) rfl rfl rfl rfl rfl rfl fun b66=>?_;refine bR (E:=bBg) (xs:=[a.values,b.values]) .head q7<|bE .head<|bB (Fact.each [a.values,b.values] listF) (Has.each_cons (Has.of (u8 (u8 mT2))) (Has.each_cons i6 Has.each_nil)) ?_;have csp:=qO (some ⟨b66,0,none⟩) 2 [a.values,b.values] o6 ad9;rw [nB] at csp;refine j5 func51 csp ⟨d8,d7,j0⟩ fun⟨A67,c68⟩=>?_;refine bX .head fun hc_cc=>bE .head<|bB (cQ (a.values.list++b.values.list)) (oC (Has.of (u8 (u8 mT2))) i6) ?_;refine j5 func44 (jD A64 A67 (([(⟨A59,c60,(bY x55.list x57.list 1).1⟩:PolV)]++(b.sides.list.drop 1)).length) ((a.values.list++b.values.list).length) c65 c68) j0 fun _=>?_;refine g6 ?_;have hr:=hR.symm.trans ((cat_c' hlx hly p8 (rZ asd) hx56 hx58 n7 asd asd ad3).trans ab0);subst hr;exact rs2 (⟨⟨A64,c65,([(⟨A59,c60,(bY x55.list x57.list 1).1⟩:PolV)]++(b.sides.list.drop 1))⟩,true,⟨A67,c68,(a.values.list++b.values.list)⟩⟩:TyV) ⟨(bZ (x:=⟨⟨A64,c65,([(⟨A59,c60,(bY x55.list x57.list 1).1⟩:PolV)]++(b.sides.list.drop 1))⟩,true,⟨A67,c68,(a.values.list++b.values.list)⟩⟩) (cH e8 e7 (hc_sum)) (cH d8 d7 (hc_cc))),j3 rfl,j0⟩
   refine g5 ?_;refine j5 func46 (dE A64 (([(⟨A59,c60,(bY x55.list x57.list 1).1⟩:PolV)]++(b.sides.list.drop 1)).length) c65) j0 fun _=>?_;refine g5 ?_;have hr:=hR.symm.trans (tA hlx hly p8 (rZ asd) hx56 hx58 n7 o8);subst hr;exact rs2 (⟨⟨A64,c65,([(⟨A59,c60,(bY x55.list x57.list 1).1⟩:PolV)]++(b.sides.list.drop 1))⟩,false,⟨none,0,[]⟩⟩:TyV) ⟨(bZ (x:=⟨⟨A64,c65,([(⟨A59,c60,(bY x55.list x57.list 1).1⟩:PolV)]++(b.sides.list.drop 1))⟩,false,⟨none,0,[]⟩⟩) (cH d8 d7 (hc_sum)) cL),j3 rfl,j0⟩
  refine g17 ?_;refine j5 func46 (dE A64 (([(⟨A59,c60,(bY x55.list x57.list 1).1⟩:PolV)]++(b.sides.list.drop 1)).length) c65) j0 fun _=>?_;refine g5 ?_;have hr:=hR.symm.trans (tA hlx hly p8 (rZ asd) hx56 hx58 n7 o8);subst hr;exact rs2 (⟨⟨A64,c65,([(⟨A59,c60,(bY x55.list x57.list 1).1⟩:PolV)]++(b.sides.list.drop 1))⟩,false,⟨none,0,[]⟩⟩:TyV) ⟨(bZ (x:=⟨⟨A64,c65,([(⟨A59,c60,(bY x55.list x57.list 1).1⟩:PolV)]++(b.sides.list.drop 1))⟩,false,⟨none,0,[]⟩⟩) (cH d8 d7 (hc_sum)) cL),j3 rfl,j0⟩
 refine g21 ?_;refine j5 func46 (dE A64 (([(⟨A59,c60,(bY x55.list x57.list 1).1⟩:PolV)]++(b.sides.list.drop 1)).length) c65) j0 fun _=>?_;refine g5 ?_;have hr:=hR.symm.trans (tA hlx hly p8 (rZ asd) hx56 hx58 n7 o8);subst hr;exact rs2 (⟨⟨A64,c65,([(⟨A59,c60,(bY x55.list x57.list 1).1⟩:PolV)]++(b.sides.list.drop 1))⟩,false,⟨none,0,[]⟩⟩:TyV) ⟨(bZ (x:=⟨⟨A64,c65,([(⟨A59,c60,(bY x55.list x57.list 1).1⟩:PolV)]++(b.sides.list.drop 1))⟩,false,⟨none,0,[]⟩⟩) (cH d8 d7 (hc_sum)) cL),j3 rfl,j0⟩
end Go.Proofs.YtakphiannlpnfaaGreatDoor
