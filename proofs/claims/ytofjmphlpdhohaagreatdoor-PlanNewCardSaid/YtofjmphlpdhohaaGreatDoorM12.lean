/- Texts of one proof, one behind the other: PlanB, RefC, LifeQ, PlanC, PlanD, RefD, RefE, EqK. -/
import Derived.Test.YtofjmphlpdhohaaGreatDoorM11
import Derived.Test.YtofjmphlpdhohaaGreatDoorM8
import Derived.Test.YtofjmphlpdhohaaGreatDoorShelfB
import Derived.Test.YtofjmphlpdhohaaGreatDoorM7
namespace Go.Proofs.YtofjmphlpdhohaaGreatDoor
open Go.RowKit
def bHm (k:Int):List Int→Int→Int
 | [],_=> -1
 | s::r,i=>if k=s then i else bHm k r (i+1)
section
variable {k x : Int} {l : List Int} {i : Nat} {r : Int}
theorem bJx(h:r=bHm k (l.drop i) i)(hx:l[i]?=some x):(k=x→r=i)∧(k≠x→r=bHm k (l.drop (i+1)) ((i+1:Nat):Int)):=by
 rw [jX hx,bHm] at h;refine⟨fun e=>by rw [if_pos e] at h;exact h,fun e=>by rw [if_neg e] at h;rw [h];rfl⟩
theorem idxI_end(h:r=bHm k (l.drop i) i)(hi:l.length≤i):r= -1:=by
 rw [List.drop_of_length_le hi] at h;exact h
end
theorem wL(k:Int): ∀(l:List Int) (i:Int),0≤i→decide (0≤bHm k l i)=l.contains k
 | [],i,_=>rfl
 | s::r,i,h=>by
  rw [bHm,List.contains_cons]
  by_cases e:k=s
  ·subst e;simp [h]
  ·rw [if_neg e,wL k r (i+1) (by omega)];simp [e]
theorem bitsMul_spec(x y:Nat)(hx:x<18446744073709551616)(hy:y<18446744073709551616):dG Tryz.prog 157 [.int .u64 (x:Nat),.int .u64 (y:Nat)] [] [] (fun _:Unit=> .tuple #[.int .u64 ((x*y/18446744073709551616:Nat):Int),.int .u64 ((x*y%18446744073709551616:Nat):Int)]) (fun _=>[]) (fun _=>[]):=
 fun S w s k=>(Tryz.bits_Mul x y hx hy w).mono fun e w' h=>by
  obtain⟨rfl,rfl⟩:=h;exact⟨(),S,rfl,s,fun g hg=>by simp at hg⟩
def nilLife:dQ:=⟨0,0⟩
theorem bEt: ∃i:TypeInfo,Tryz.prog.info? 55=some i∧i.zero=some (.agg #[.int .i64 0,.int .i64 0])∧i.size=2∧i.bytes=16:=by
 have h:(Tryz.prog.info? 55).map (fun i=>(i.zero,i.size,i.bytes))=some (some (.agg #[.int .i64 0,.int .i64 0]),2,16):=by kernel_rfl
 cases hi:Tryz.prog.info? 55 with
 | none=>simp [hi] at h
 | some i=>simp [hi] at h;exact⟨i,rfl,h.1,h.2.1,h.2.2⟩
theorem lifesize:(Tryz.prog.info? 55).map (·.size)=some iO.size:=by kernel_rfl
theorem madeLives: ∀m:Nat,(madeCells (Value.agg #[.int .i64 0,.int .i64 0]).cells (m*2)).toList=iO.all (List.replicate m nilLife):=fun m=>by
 have e: ∀m,iO.all (List.replicate m nilLife)=List.replicate (m*2) (.int .i64 0):=fun m=>by
  induction m with
  | zero=>rfl
  | succ m ih=>rw [List.replicate_succ,show iO.all (nilLife::List.replicate m nilLife)=iO.cells nilLife++iO.all (List.replicate m nilLife) from rfl,ih,show iO.cells nilLife=List.replicate (1*2) (.int .i64 0) from rfl,List.replicate_append_replicate,show(m+1)*2=1*2+m*2 by omega]
 rw [e];unfold madeCells;apply List.ext_getElem
 ·simp
 ·intro i h1 h2;have h3:i%2<2:=Nat.mod_lt _ (by decide)
  rcases (by omega:i%2=0∨i%2=1) with h | h
  ·simp [Value.cells,h]
  ·simp [Value.cells,h]
section
variable {β : fR} {n : Nat} {Γ : Env} {H : List bQ} {F : List bP} {Q : Exit → Act → World → Prop} {ops : Array Oper} {rest : List Oper} {o : Oper} {d : Nat}
theorem at_makeLives{m:Nat}{x y:Operand}(hw:want ops Γ o=some true)(ho:o.op= .makeSlice 48 x y)(hd:o.dst=some d)(hn:Nat.blt d n=true)
  (hx:Γ.ev x=some (.int .i64 (m:Nat))) (hy:Γ.ev y=some (.int .i64 (m:Nat))) (hm:m≤1000000)
  (k: ∀b,At β n ((d,.slice (some ⟨b,0,none⟩) m m)::Γ) (iO.row (.slice (some ⟨b,0,none⟩) m m) 55 (List.replicate m nilLife)::H) F (wpList Tryz.prog ops Q rest)):At β n Γ H F (wpList Tryz.prog ops Q (o::rest)):=by
 obtain⟨i,hi,hz,hs,hb⟩:=bEt;exact bCy (E:=iO) hw ho hd hn hx hy Tryz.underlying48 hi hz hs (by rw [hb];omega) (by simp [maxLen];omega) (madeLives m) (by simp) k
theorem jP{m:Nat}{x y:Operand}(hw:want ops Γ o=some true)(ho:o.op= .makeSlice 51 x y)(hd:o.dst=some d)(hn:Nat.blt d n=true)
  (hx:Γ.ev x=some (.int .i64 (m:Nat))) (hy:Γ.ev y=some (.int .i64 (m:Nat))) (hm:m≤1000000)
  (k: ∀b,At β n ((d,.slice (some ⟨b,0,none⟩) m m)::Γ) (gA.row (.slice (some ⟨b,0,none⟩) m m) 4 (List.replicate m false)::H) F (wpList Tryz.prog ops Q rest)):At β n Γ H F (wpList Tryz.prog ops Q (o::rest)):=by
 obtain⟨i,hi,hz,hs,hb⟩:=bFy;refine bCy (E:=gA) hw ho hd hn hx hy Tryz.underlying51 hi hz hs (by rw [hb];omega) (by simp [maxLen];omega) ?_ (by simp) k
 have e: ∀m,gA.all (List.replicate m false)=List.replicate m (.bool false):=fun m=>by
  induction m with
  | zero=>rfl
  | succ m ih=>rw [List.replicate_succ,List.replicate_succ,←ih];rfl
 rw [e];unfold madeCells;apply List.ext_getElem
 ·simp [gA]
 ·intro i h1 h2;simp [Value.cells,Nat.mod_one]
end
set_option maxRecDepth 100000 in
theorem index_spec(A:Option Addr)(c:Nat)(l:List Int)(hl:l.length≤140737488355328)(k:Int):dG Tryz.prog 158 [.slice A l.length c,.int .i64 k] [] [iG.sl (.slice A l.length c) l] (fun(_:Unit)=> .int .i64 (bHm k l 0)) (fun _=>[]) (fun _=>[]):=by
 have hT:=dA;generalize hR:bHm k l 0=r;refine cJ Tryz.func158 rfl Tryz.ntmps158 rfl ?_;intro β hM;refine sr<|sp hT ?_;refine nn<|bF<|sr<|sp3 hT ?_;refine nn<|bO<|cM (ι:=Nat) [(0,_),(1,_),(7,_)] ⟨rfl,rfl,rfl,trivial⟩ (fun i=>[(8,.int .i64 (i:Nat))]) (fun _=>[]) (fun i=>[bP.pure (i≤l.length∧r=bHm k (l.drop i) i)]) (fun i=>l.length-i) 0 ⟨rfl,trivial⟩ .nil ⟨Has.pure (⟨by omega,hR.symm⟩),trivial⟩ ?_;rintro i;refine bV (Has.of mT0) fun hinv2=>?_;refine sr<|sp hT ?_;refine nn<|bF<|bN rfl (fun hc9=>?_) (fun hc9=>?_)
 ·have hc9:=of_decide_eq_true hc9;refine bJ<|bD<|bF<|bO<|sr<|sp2 hT ?_;refine nn<|sr<|sp3 hT ?_
  obtain⟨x1,hx2⟩: ∃x',l[i]?=some x':=⟨_,List.getElem?_eq_getElem (by omega)⟩
  refine ss (bG hT (k:=i) (bA (Has.of mT1)) rfl rfl rfl rfl rfl rfl rfl (by omega)) ?_;refine ss (bM hT (bX.knows (bA (Has.of mT1)) (k:=i) (x:=x1) hx2 0) rfl rfl rfl rfl rfl) ?_;refine sp hT ?_;refine nn<|bN rfl (fun hc16=>?_) (fun hc16=>?_)
  ·have hc16:=eq_of_beq hc16;refine sr<|sp2 hT ?_;refine nn<|bL<|bR<|bK<|bK<|bR<|bK ?_;have hr:=(bJx hinv2.2 hx2).1 (by first | assumption | (symm;assumption));subst hr;exact bI () rfl (rv_tmp rfl) .nil trivial rfl
  have hc16:=beq_eq_false_iff_ne.1 hc16;refine bJ<|bT<|bD<|bB<|sp hT ?_;refine bS (z':=(((i+1):Nat):Int)) (cG (by omega) (by omega)) ?_;refine sp hT ?_;refine nn ?_;exact bZ (i+1) (by omega) ⟨rfl,trivial⟩ ⟨rfl,rfl,rfl,trivial⟩ .nil ⟨Has.pure (⟨by omega,(bJx hinv2.2 hx2).2 ‹_›⟩),trivial⟩ (bH.drop 1)
 have hc9:=Int.not_lt.1 (of_decide_eq_false hc9);refine cE<|bW<|bW<|cD<|bD<|sr<|sp hT ?_;refine nn<|bL ?_;have hr:=idxI_end hinv2.2 (by omega);subst hr;exact bI () rfl (rv_tmp rfl) .nil trivial rfl
set_option maxRecDepth 100000 in
theorem bHo(A:Option Addr)(c:Nat)(l:List Int)(hl:l.length≤140737488355328)(k:Int):dG Tryz.prog 95 [.slice A l.length c,.int .i64 k] [] [iG.sl (.slice A l.length c) l] (fun(_:Unit)=> .bool (l.contains k)) (fun _=>[]) (fun _=>[]):=by
 have hT:=dA;refine cJ Tryz.func95 rfl Tryz.ntmps95 rfl ?_;intro β hM;refine sr<|sp hT ?_;refine nn<|sr<|sp2 hT ?_;refine cP Tryz.func158 (index_spec A c l hl k) rfl rfl .nil ⟨(Has.of mT0),trivial⟩ fun _=>?_;refine sp2 hT ?_;refine nn<|bL ?_;exact bI () rfl (rv_tmp rfl) .nil trivial (congrArg Value.bool (wL k l 0 (by decide)))
set_option maxRecDepth 100000 in
theorem repeatL_spec(A:Option Addr)(c:Nat)(p:dQ)(n:Nat)(hn:n≤1000000):dG Tryz.prog 94 [.slice A 1 c,.int .i64 (n:Nat)] [] [iO.sl (.slice A 1 c) [p]] (fun(x:Option Addr×Nat)=> .slice x.1 n x.2) (fun(x:Option Addr×Nat)=>[iO.row (.slice x.1 n x.2) 55 (List.replicate n p)]) (fun _=>[]):=by
 have hT:=dA;refine cJ Tryz.func94 rfl Tryz.ntmps94 rfl ?_;intro β hM;refine sr<|sp hT ?_;refine nn<|bF<|sr<|sp2 hT ?_;refine dF (t':=false) (decide_eq_false (by omega)) ?_;refine nn<|cQ rfl rfl ?_;refine bJ<|bD<|sr<|sp3 hT ?_;refine bS (z':=((1:Nat):Int)) rfl ?_;refine sp2 hT ?_;refine bS (z':=((n:Nat):Int)) (conv64 (by omega)) ?_;refine cP Tryz.func157 (bitsMul_spec 1 n (by decide) (by omega)) rfl rfl .nil trivial fun _=>?_;refine at_val (v':= .tuple #[.int .u64 ((0:Nat):Int),.int .u64 ((n:Nat):Int)]) (by rw [Nat.one_mul,Nat.div_eq_of_lt (by omega),Nat.mod_eq_of_lt (by omega)]) ?_;refine sp4 hT ?_;refine sp hT ?_;refine nn<|bF<|sr<|sp2 hT ?_;refine dF (t':=false) (by decide) ?_;refine sp3 hT ?_;refine dF (t':=false) (decide_eq_false (by omega)) ?_;refine sp hT ?_;refine nn<|cQ rfl rfl ?_;refine bJ<|bD<|sr<|sp2 hT ?_;refine bS (z':=((n:Nat):Int)) (conv63 (by omega)) ?_;refine at_makeLives (m:=n) rfl rfl rfl rfl rfl rfl (by omega) fun b1=>?_;refine sp hT ?_;refine nn<|sr<|sp2 hT ?_;refine at_copyE (E:=iO) (ys:=List.take (Nat.min 1 n) [p]) (q:=0) (bX.preE (bA (Has.of mT0)) _) rfl rfl rfl rfl Tryz.underlying48 lifesize rfl rfl (by simp) rfl (rep_l1 p n) (by rw [rep_l1];have:=min1_le n;omega) .head ?_;have hr1:=rep_first nilLife p n _ rfl;refine bS (z':=((Nat.min 1 n:Nat):Int)) (congrArg Nat.cast (rep_l1 p n)) ?_;refine sp hT ?_;refine nn<|bF<|bO<|cM (ι:=Nat×List dQ) [(7,_)] ⟨rfl,trivial⟩ (fun⟨i,cur⟩=>[(8,.int .i64 (i:Nat))]) (fun⟨i,cur⟩=>[iO.row (.slice (some ⟨b1,0,none⟩) n n) 55 cur]) (fun⟨i,cur⟩=>[bP.pure (bJj nilLife p n i cur∧(1≤i∨n=0))]) (fun⟨i,cur⟩=>n-i) (Nat.min 1 n,_) ⟨rfl,trivial⟩ (.cons .head .nil) ⟨Has.pure (⟨hr1,min1_or n⟩),trivial⟩ ?_;rintro⟨i,cur⟩;dsimp only;refine bV (Has.of mT0) fun hinv8=>?_;refine bF<|sr<|sp4 hT ?_;refine nn<|bN rfl (fun hc37=>?_) (fun hc37=>?_)
 ·have hc37:=of_decide_eq_true hc37;refine bJ<|bD<|bO<|dN _ _ [(true,0),(true,1),(true,2),(true,3),(true,4),(true,5),(true,6),(false,7),(true,8),(true,9)] dP (by decide+kernel) .nil bH.self ?_;refine puM hT ?_;refine puM hT ?_;refine puM hT ?_;refine stM rfl (bCc hT (k:=i) rfl rfl rfl rfl rfl rfl (by omega)) ?_;refine at_val (v':= .slice (some ⟨b1,i*2,none⟩) (n-i) (n-i)) (by rw [cutA_in (by omega) rfl]) ?_;refine puM hT ?_;refine puM hT ?_;refine stM rfl (vO hT (k:=i) rfl rfl rfl rfl rfl rfl (by omega)) ?_;refine dD (o:=_) rfl ?_;refine at_copyE (E:=iO) (ys:=cur.take (Nat.min i (n-i))) (q:=i) (bX.preE (bU .head) _) rfl rfl rfl rfl Tryz.underlying48 lifesize rfl rfl (rep_len hinv8.1) rfl (rep_l hinv8.1) (by rw [rep_l hinv8.1];have:Nat.min i (n-i)≤n-i:=Nat.min_le_right _ _;omega) .head ?_;have hrs:=rep_step hinv8.1 (by omega);have hrl:=rep_l hinv8.1;refine bS (z':=((Nat.min i (n-i):Nat):Int)) (congrArg Nat.cast hrl) ?_
  have hmn:Nat.min i (n-i)≤n-i∧1≤Nat.min i (n-i):=⟨Nat.min_le_right _ _,Nat.le_min.2 ⟨by omega,by omega⟩⟩
  refine dB .nil (bH.drop 0) ?_;refine puM hT ?_;refine bS (z':=(((i+(Nat.min i (n-i))):Nat):Int)) (cG (by omega) (by omega)) ?_;refine puM hT ?_;refine cO<|bT<|bD ?_;exact bZ (i+Nat.min i (n-i),_) (by dsimp only;omega) ⟨rfl,trivial⟩ ⟨rfl,trivial⟩ (.cons .head .nil) ⟨Has.pure (⟨hrs,by dsimp only;omega⟩),trivial⟩ (bH.drop 1)
 have hc37:=Int.not_lt.1 (of_decide_eq_false hc37);refine cE<|bW<|bW<|cD<|bD<|sr<|sp2 hT ?_;refine nn<|bL ?_;obtain rfl:i=n:=by have:=hinv8.1.2;omega
 have hcr:cur=List.replicate i p:=by rw [hinv8.1.1,Nat.sub_self,List.replicate_zero,List.append_nil]
 subst hcr;exact bI (_,_) rfl (rv_tmp rfl) (.cons .head .nil) trivial rfl
theorem step10_specM{m:Nat}{made:List Bool}(hm:made.length=m)(c:gM)(x:fY)(MA:Option Addr)(mc:Nat)(hv:0≤c.vars)(hv6:c.vars≤6):dG Tryz.prog 73 [.agg #[.int .i64 c.vars,.slice c.bufs.addr c.bufs.list.length c.bufs.cap,.slice c.steps.addr c.steps.list.length c.steps.cap,.slice c.outs.addr c.outs.list.length c.outs.cap],.agg #[.int .i64 x.how,.int .i64 x.buf,.slice x.at_.addr x.at_.list.length x.at_.cap,.slice x.loops.addr x.loops.list.length x.loops.cap,.int .u8 x.fn,.slice x.ops.addr x.ops.list.length x.ops.cap],.slice MA m mc]
  [] [mF c,oI x,gA.sl (.slice MA m mc) made] (fun _:Unit=> .bool (lZ c.c made x.c)) (fun _=>[]) (fun _=>[]):=by
 subst hm;exact step10_spec c x MA mc made hv hv6
section
variable {c : gF} {i j : Nat} {made : List Bool} {r : Bool} {u : lP} {x : fN}
def bAm (c:gF)(i:Nat)(made:List Bool)(r:Bool):Prop:=made.length=c.bufs.length∧(∀j,j<i→made[j]?=(pQ c.bufs)[j]?)∧ ∃seen:List Int,(∀z,z∈seen→0≤z∧ ∃j u,j<i∧c.bufs[j]?=some u∧u.input=z)∧(∀j u,j<i→c.bufs[j]?=some u→0≤u.input→u.input∈seen)∧r=(rV c.vars (c.bufs.drop i) seen&&bFt c)
def xX (c:gF)(u:lP)(j:Nat):Prop:= ∀k v,k<j→c.bufs[k]?=some v→ ¬(0≤u.input∧v.input=u.input)
theorem bufs10_start(h:r=(rV c.vars c.bufs []&&bFt c)):bAm c 0 (List.replicate c.bufs.length false) r:=
 ⟨List.length_replicate,fun j hj=>absurd hj (Nat.not_lt_zero j),[],⟨fun _ hz=>absurd hz List.not_mem_nil,fun j _ hj=>absurd hj (Nat.not_lt_zero j),h⟩⟩
theorem sK(h:bAm c i made r)(hu:c.bufs[i]?=some u)(k:hI u.sides c.vars=false∨u.input< -1∨64≤u.input∨0≤u.input∧ ∃j v,j<i∧c.bufs[j]?=some v∧v.input=u.input):r=false:=by
 obtain⟨_,_,seen,h2,h3,h4⟩:=h;rw [jX hu,rV] at h4;rw [h4]
 rcases k with k | k | k | ⟨k,j,v,hj,hv,e⟩
 ·rw [k];rfl
 ·rw [decide_eq_false (show ¬(-1≤u.input∧u.input<64) from fun h=>by omega)];simp
 ·rw [decide_eq_false (show ¬(-1≤u.input∧u.input<64) from fun h=>by omega)];simp
 ·have hm:u.input∈seen:=by
   rw [←e];exact h3 j v hj hv (by omega)
  have e2:seen.contains u.input=true:=by rw [List.contains_eq_mem];exact decide_eq_true hm
  rw [e2];simp
theorem nodup_start:xX c u 0:=fun k v hk=>by omega
theorem bFc{v:lP}(h:xX c u j)(hv:c.bufs[j]?=some v)(hn: ¬(0≤u.input∧v.input=u.input)):xX c u (j+1):=fun k w hk hw=>by
 by_cases e:k=j
 ·subst e;rw [hv] at hw;cases hw;exact hn
 ·exact h k w (by omega) hw
theorem bufs10_next(h:bAm c i made r)(hu:c.bufs[i]?=some u)(hg:hI u.sides c.vars=true)(h1: -1≤u.input)(h2:u.input<64)(hn:xX c u j)(hj:i≤j):bAm c (i+1) (made.set i (decide (0≤u.input))) r:=by
 obtain⟨k1,k2,seen,k3,k4,k5⟩:=h;have hi:=(List.getElem?_eq_some_iff.1 hu).1
 have hc:seen.contains u.input=false:=by
  rw [List.contains_eq_mem];refine decide_eq_false fun hm=>?_;obtain⟨h0,k,v,hk,hv,e⟩:=k3 _ hm;exact hn k v (by omega) hv ⟨h0,e⟩
 rw [jX hu,rV,hg,decide_eq_true (show-1≤u.input∧u.input<64 from ⟨h1,h2⟩),hc] at k5;refine⟨by rw [List.length_set];exact k1,fun k hk=>?_,if 0≤u.input then u.input::seen else seen,fun z hz=>?_,fun k v hk hv h0=>?_,by simpa using k5⟩
 ·by_cases e:i=k
  ·subst e;rw [List.getElem?_set_self (by omega)];unfold pQ;rw [List.getElem?_map,hu];rfl
  ·rw [List.getElem?_set_ne e];exact k2 k (by omega)
 ·by_cases h0:0≤u.input
  ·rw [if_pos h0] at hz
   rcases List.mem_cons.1 hz with rfl | hz
   ·exact⟨h0,i,u,by omega,hu,rfl⟩
   ·obtain⟨q,k,v,hk,hv,e⟩:=k3 z hz;exact⟨q,k,v,by omega,hv,e⟩
  ·rw [if_neg h0] at hz;obtain⟨q,k,v,hk,hv,e⟩:=k3 z hz;exact⟨q,k,v,by omega,hv,e⟩
 ·by_cases e:k=i
  ·subst e;rw [hu] at hv;cases hv;rw [if_pos h0];exact List.mem_cons_self ..
  ·have:=k4 k v (by omega) hv h0;split
   ·exact List.mem_cons_of_mem _ this
   ·exact this
theorem bufs10_end(h:bAm c i made r)(hi:c.bufs.length≤i):mV c 0 made r:=by
 obtain⟨k1,k2,seen,_,_,k5⟩:=h;rw [List.drop_of_length_le hi] at k5
 have hm:made=pQ c.bufs:=by
  apply List.ext_getElem?;intro j
  by_cases hj:j<i
  ·exact k2 j hj
  ·rw [List.getElem?_eq_none (by omega),List.getElem?_eq_none (by rw [pN];omega)]
 exact bAx hm (by rw [k5];rfl)
theorem bAy{l:List fN}:kJ c.vars c.bufs (x::l) made=(lZ c made x&&kJ c.vars c.bufs l (made.set x.buf.toNat true)):=by
 rw [kJ];exact(Bool.and_assoc _ _ _).symm
theorem steps10_bad(h:mV c i made r)(hx:c.steps[i]?=some x)(k:lZ c made x=false):r=false:=by
 obtain⟨_,h2⟩:=h;rw [jX hx,bAy,k] at h2;rw [h2];rfl
theorem steps10_ok(h:mV c i made r)(hx:c.steps[i]?=some x)(k:lZ c made x=true):mV c (i+1) (made.set x.buf.toNat true) r:=by
 obtain⟨h2,h3⟩:=h;refine⟨by simpa using h2,?_⟩;rw [jX hx,bAy,k,Bool.true_and] at h3;exact h3
theorem stepOk_in(h:lZ c made x=true):0≤x.buf∧x.buf<c.bufs.length:=by
 unfold lZ at h;simp only [Bool.and_eq_true,decide_eq_true_eq] at h;obtain⟨⟨h1,h2⟩,_⟩:=h
 cases hb:c.bufs[x.buf.toNat]? with
 | none=>rw [hb] at h2;cases h2
 | some b=>
  have:=(List.getElem?_eq_some_iff.1 hb).1;exact⟨h1,by omega⟩
def outOk (n:Nat)(k:Int):Bool:=decide (0≤k∧k<n)
end
set_option maxRecDepth 100000 in
theorem sI(c:gM):dG Tryz.prog 33 [.agg #[.int .i64 c.vars,.slice c.bufs.addr c.bufs.list.length c.bufs.cap,.slice c.steps.addr c.steps.list.length c.steps.cap,.slice c.outs.addr c.outs.list.length c.outs.cap]] [] [mF c] (fun(_:Unit)=> .bool (gH c.c)) (fun _=>[]) (fun _=>[]):=by
 have hT:=dA;generalize hR:gH c.c=r;have hnb:c.c.bufs.length=c.bufs.list.length:=dL _;have hns:c.c.steps.length=c.steps.list.length:=dX _;have hno:c.c.outs.length=c.outs.list.length:=rfl;refine cJ Tryz.func33 rfl Tryz.ntmps33 rfl ?_;intro β hM;refine sr<|gC rfl rfl rfl rfl rfl rfl fun b1=>?_;refine sp hT ?_;refine nn<|bF<|sr<|sp hT ?_;refine ss (ldO hT (cS .head)) ?_;refine sp2 hT ?_;refine bY (fun hg12=>?_) (fun hg12=>?_)
 ·have hg12:=of_decide_eq_true hg12;refine sk3 ?_;refine sp2 hT ?_;refine sk4 ?_;refine sp2 hT ?_;refine sk4 ?_;refine sp2 hT ?_;refine sk4 ?_;refine sp hT ?_;refine nn<|cK rfl rfl ?_;refine sr<|sp hT ?_;refine nn<|bL<|bK ?_;have hr:=jE hR (by omega);subst hr;exact bI () rfl (rv_tmp rfl) .nil trivial rfl
 have hg12:=Int.not_lt.1 (of_decide_eq_false hg12);refine sp hT ?_;refine ss (ldO hT (cS .head)) ?_;refine sp3 hT ?_;refine bY (fun hg17=>?_) (fun hg17=>?_)
 ·have hg17:=of_decide_eq_true hg17;refine sk4 ?_;refine sp2 hT ?_;refine sk4 ?_;refine sp2 hT ?_;refine sk4 ?_;refine sp hT ?_;refine nn<|cK rfl rfl ?_;refine sr<|sp hT ?_;refine nn<|bL<|bK ?_;have hr:=jE hR (by omega);subst hr;exact bI () rfl (rv_tmp rfl) .nil trivial rfl
 have hg17:=Int.not_lt.1 (of_decide_eq_false hg17);refine sp hT ?_;refine ss (ldO hT (dE .head)) ?_;refine sp4 hT ?_;refine bY (fun hg23=>?_) (fun hg23=>?_)
 ·have hg23:=of_decide_eq_true hg23;refine sk4 ?_;refine sp2 hT ?_;refine sk4 ?_;refine sp hT ?_;refine nn<|cK rfl rfl ?_;refine sr<|sp hT ?_;refine nn<|bL<|bK ?_;have hr:=jE hR (by omega);subst hr;exact bI () rfl (rv_tmp rfl) .nil trivial rfl
 have hg23:=Int.not_lt.1 (of_decide_eq_false hg23);refine sp hT ?_;refine ss (ldO hT (kC .head)) ?_;refine sp4 hT ?_;refine bY (fun hg29=>?_) (fun hg29=>?_)
 ·have hg29:=of_decide_eq_true hg29;refine sk4 ?_;refine sp hT ?_;refine nn<|cK rfl rfl ?_;refine sr<|sp hT ?_;refine nn<|bL<|bK ?_;have hr:=jE hR (by omega);subst hr;exact bI () rfl (rv_tmp rfl) .nil trivial rfl
 have hg29:=Int.not_lt.1 (of_decide_eq_false hg29);refine sp hT ?_;refine ss (ldO hT (jJ .head)) ?_;refine sp3 hT ?_;refine nn<|bN rfl (fun hc34=>?_) (fun hc34=>?_)
 ·have hc34:=of_decide_eq_true hc34;refine sr<|sp hT ?_;refine nn<|bL<|bK ?_;have hr:=jE hR (by omega);subst hr;exact bI () rfl (rv_tmp rfl) .nil trivial rfl
 have hc34:=Int.not_lt.1 (of_decide_eq_false hc34);refine bJ<|bD<|bF ?_;have hr0:=bBl hR (by omega) (by omega) (by omega) (by omega) (by omega);refine bB<|sp hT ?_;refine ss (ldO hT (dE .head)) ?_;refine sp hT ?_;refine jP (m:=c.bufs.list.length) rfl rfl rfl rfl rfl rfl (by omega) fun b2=>?_;refine sp hT ?_;refine nn<|bF<|sr<|sp hT ?_;refine nn<|bO<|cM (ι:=Nat×List Bool) [(1,_),(3,_)] ⟨rfl,rfl,trivial⟩ (fun⟨i,dn⟩=>[(4,.int .i64 (i:Nat))]) (fun⟨i,dn⟩=>[gA.row (.slice (some ⟨b2,0,none⟩) c.bufs.list.length c.bufs.list.length) 4 dn]) (fun⟨i,dn⟩=>[bP.pure (i≤c.bufs.list.length∧bAm c.c i dn r)]) (fun⟨i,dn⟩=>c.bufs.list.length-i) (0,List.replicate c.bufs.list.length false) ⟨rfl,trivial⟩ (.cons .head .nil) ⟨Has.pure (⟨by omega,by rw [←hnb];exact bufs10_start hr0⟩),trivial⟩ ?_;rintro⟨i,dn⟩;dsimp only;refine bV (Has.of mT0) fun hinv5=>?_;have hdl:dn.length=c.bufs.list.length:=by rw [hinv5.2.1];exact hnb
 refine bF<|sr<|sp2 hT ?_;refine ss (ldO hT (dE kT1)) ?_;refine sp2 hT ?_;refine nn<|bN rfl (fun hc43=>?_) (fun hc43=>?_)
 ·have hc43:=of_decide_eq_true hc43;refine bJ<|bD<|bF<|bO<|sr<|sp hT ?_;refine ss (ldO hT (dE kT1)) ?_;refine sp hT ?_;refine cB (sM.sl (.slice c.bufs.addr c.bufs.list.length c.bufs.cap) c.bufs.list) (jS (gP (Has.of mT1))) ?_
  obtain⟨x3,hx4⟩: ∃x',c.bufs.list[i]?=some x':=⟨_,List.getElem?_eq_getElem (by omega)⟩
  refine ss (bG hT (k:=i) (bA (Has.of mT0)) rfl rfl rfl rfl rfl rfl rfl (by omega)) ?_;refine ss (cN hT (bX.knows (bA (Has.of mT0)) (k:=i) (x:=x3) hx4 0) rfl rfl rfl rfl rfl) ?_;refine dZ rfl rfl rfl rfl tN rfl fun b5=>?_;refine sto hT .head ?_;refine nn<|bF<|bF<|cB (bufF x3) (Has.each (sU (gP (Has.of mT2))) (List.mem_of_getElem? hx4)) ?_;refine bB<|sp hT ?_;refine ss (ldO hT (cS .head)) ?_;refine sp hT ?_;refine ss (ldO hT (cS kT2)) ?_;refine cP Tryz.func72 (uR x3.sides c.vars (by omega) (by omega)) rfl rfl .nil ⟨(Has.of mT0),trivial⟩ fun _=>?_;refine sp2 hT ?_;refine bY (fun hg57=>?_) (fun hg57=>?_)
  ·have hg57:=gR hg57;refine sk3 ?_;refine sp2 hT ?_;refine sk3 ?_;refine sp hT ?_;refine nn<|cK rfl rfl ?_;refine sr<|sp hT ?_;refine nn<|bL<|bK<|bR<|bK<|bK<|bR<|bK ?_;have hr:=sK hinv5.2 (cV hx4) (by first | exact .inl (show hI (polsL (iY.sides _).list) c.vars=false by assumption) | exact .inr (.inl (by show x3.input< -1;omega)) | exact .inr (.inr (.inl (by show 64≤x3.input;omega))));subst hr;exact bI () rfl (rv_tmp rfl) .nil trivial rfl
  have hg57:=gS hg57;refine sp hT ?_;refine ss (ldO hT (dE .head)) ?_;refine sp3 hT ?_;refine bY (fun hg62=>?_) (fun hg62=>?_)
  ·have hg62:=of_decide_eq_true hg62;refine sk3 ?_;refine sp hT ?_;refine nn<|cK rfl rfl ?_;refine sr<|sp hT ?_;refine nn<|bL<|bK<|bR<|bK<|bK<|bR<|bK ?_;have hr:=sK hinv5.2 (cV hx4) (by first | exact .inl (show hI (polsL (iY.sides _).list) c.vars=false by assumption) | exact .inr (.inl (by show x3.input< -1;omega)) | exact .inr (.inr (.inl (by show 64≤x3.input;omega))));subst hr;exact bI () rfl (rv_tmp rfl) .nil trivial rfl
  have hg62:=Int.not_lt.1 (of_decide_eq_false hg62);refine sp hT ?_;refine ss (ldO hT (dE .head)) ?_;refine sp2 hT ?_;refine nn<|bN rfl (fun hc66=>?_) (fun hc66=>?_)
  ·have hc66:=of_decide_eq_true hc66;refine sr<|sp hT ?_;refine nn<|bL<|bK<|bR<|bK<|bK<|bR<|bK ?_;have hr:=sK hinv5.2 (cV hx4) (by first | exact .inl (show hI (polsL (iY.sides _).list) c.vars=false by assumption) | exact .inr (.inl (by show x3.input< -1;omega)) | exact .inr (.inr (.inl (by show 64≤x3.input;omega))));subst hr;exact bI () rfl (rv_tmp rfl) .nil trivial rfl
  have hc66:=Int.not_le.1 (of_decide_eq_false hc66);refine bJ<|bD<|bF<|sr<|sp hT ?_;refine nn<|bO<|cM (ι:=Nat) [(1,_),(3,_),(4,_),(5,_),(58,_),(59,_),(60,_),(63,_),(64,_),(65,_)] ⟨rfl,rfl,rfl,rfl,rfl,rfl,rfl,rfl,rfl,rfl,trivial⟩ (fun j=>[(6,.int .i64 (j:Nat))]) (fun _=>[]) (fun j=>[bP.pure (j≤i∧xX c.c x3.c j)]) (fun j=>i-j) 0 ⟨rfl,trivial⟩ .nil ⟨Has.pure (⟨by omega,nodup_start⟩),trivial⟩ ?_;rintro j;refine bV (Has.of mT0) fun hinv11=>?_;refine bF<|sr<|sp3 hT ?_;refine nn<|bN rfl (fun hc69=>?_) (fun hc69=>?_)
  ·have hc69:=of_decide_eq_true hc69;refine bJ<|bD<|bF<|bO<|bF ?_
   obtain⟨x6,hx7⟩: ∃x',c.bufs.list[j]?=some x':=⟨_,List.getElem?_eq_getElem (by omega)⟩
   refine dN _ _ [(true,0),(true,1),(true,2),(true,3),(true,4),(true,5),(true,6),(true,7),(true,8),(true,9),(true,10),(true,11),(true,12),(true,13)] dP (by decide+kernel) (.cons .head (.cons .head (.cons .head .nil))) bH.self ?_;refine puM hT ?_;refine stM rfl (ldO hT (dE .head)) ?_;refine puM hT ?_;refine puM hT ?_;refine bY (fun hg75=>?_) (fun hg75=>?_)
   ·have hg75:=of_decide_eq_true hg75;refine puM hT ?_;refine stM rfl (ldO hT (dE kT2)) ?_;refine puM hT ?_;refine stM rfl (bG hT (k:=j) (bA (Has.of mT2)) rfl rfl rfl rfl rfl rfl rfl (by omega)) ?_;refine puM hT ?_;refine stM rfl (bM hT (bX.knows (bA (Has.of mT2)) (k:=j) (x:=x6) hx7 1) rfl rfl rfl rfl rfl) ?_;refine puM hT ?_;refine stM rfl (ldO hT (dE .head)) ?_;refine puM hT ?_;refine puM hT ?_;refine cO<|bD<|bN rfl (fun hc85=>?_) (fun hc85=>?_)
    ·have hc85:=eq_of_beq hc85;refine sr<|sp hT ?_;refine nn<|bL<|bR<|bK<|bK<|bR<|bK<|bR<|bK<|bK<|bR<|bK ?_;have hr:=sK hinv5.2 (cV hx4) (.inr (.inr (.inr ⟨by show 0≤x3.input;omega,j,_,by omega,cV hx7,by show iY.input _=iY.input _;omega⟩)));subst hr;exact bI () rfl (rv_tmp rfl) .nil trivial rfl
    have hc85:=beq_eq_false_iff_ne.1 hc85;refine bJ<|bT<|bD<|bB<|sp2 hT ?_;refine bS (z':=(((j+1):Nat):Int)) (cG (by omega) (by omega)) ?_;refine sp hT ?_;refine nn ?_;exact bZ (j+1) (by omega) ⟨rfl,trivial⟩ ⟨rfl,rfl,rfl,rfl,rfl,rfl,rfl,rfl,rfl,rfl,trivial⟩ (.cons .head (.cons .head (.cons .head .nil))) ⟨Has.pure (⟨by omega,bFc hinv11.2 (cV hx7) (by show ¬(0≤x3.input∧x6.input=x3.input);omega)⟩),trivial⟩ (bH.drop 1)
   have hg75:=Int.not_le.1 (of_decide_eq_false hg75);refine bC rfl rfl rfl rfl ?_;refine bC rfl rfl rfl rfl ?_;refine bC rfl rfl rfl rfl ?_;refine bC rfl rfl rfl rfl ?_;refine bC rfl rfl rfl rfl ?_;refine bC rfl rfl rfl rfl ?_;refine bC rfl rfl rfl rfl ?_;refine bC rfl rfl rfl rfl ?_;refine bC rfl rfl rfl rfl ?_;refine puM hT ?_;refine cO<|bD<|cQ rfl rfl ?_;refine bJ<|bT<|bD<|bB<|sp2 hT ?_;refine bS (z':=(((j+1):Nat):Int)) (cG (by omega) (by omega)) ?_;refine sp hT ?_;refine nn ?_;exact bZ (j+1) (by omega) ⟨rfl,trivial⟩ ⟨rfl,rfl,rfl,rfl,rfl,rfl,rfl,rfl,rfl,rfl,trivial⟩ (.cons .head (.cons .head (.cons .head .nil))) ⟨Has.pure (⟨by omega,bFc hinv11.2 (cV hx7) (by show ¬(0≤x3.input∧x6.input=x3.input);omega)⟩),trivial⟩ (bH.drop 1)
  have hc69:=Int.not_lt.1 (of_decide_eq_false hc69);refine cE<|bW<|bW<|cD<|bD<|bB<|sp3 hT ?_;refine ss (ldO hT (dE .head)) ?_;refine sp hT ?_
  obtain⟨x8,hx9⟩: ∃x',dn[i]?=some x':=⟨_,List.getElem?_eq_getElem (by omega)⟩
  refine ss (bG hT (k:=i) (bU kT1) rfl rfl rfl rfl rfl hdl.symm rfl (by omega)) ?_;refine cF hT (k:=i) (fo:=0) (y':=(decide (0≤x3.input))) kT1 rfl rfl rfl rfl rfl rfl rfl rfl rfl hx9 rfl ?_;refine fW<|bT<|bD<|bB<|sp2 hT ?_;refine bS (z':=(((i+1):Nat):Int)) (cG (by omega) (by omega)) ?_;refine sp hT ?_;refine nn ?_;exact bZ (i+1,(dn.set i (decide (0≤x3.input)))) (by dsimp only;omega) ⟨rfl,trivial⟩ ⟨rfl,rfl,trivial⟩ (.cons .head (.cons kT1 .nil)) ⟨Has.pure (⟨by dsimp only;omega,bufs10_next hinv5.2 (cV hx4) (show hI (polsL x3.sides.list) c.vars=true by simp_all) (show-1≤x3.input by omega) (show x3.input<64 by omega) hinv11.2 (by omega)⟩),trivial⟩ (bH.drop 4)
 have hc43:=Int.not_lt.1 (of_decide_eq_false hc43);refine cE<|bW<|bW<|cD<|bD<|bF<|sr<|sp hT ?_;refine nn<|bO<|cM (ι:=Nat×List Bool) [(1,_),(3,_)] ⟨rfl,rfl,trivial⟩ (fun⟨k,dn⟩=>[(7,.int .i64 (k:Nat))]) (fun⟨k,dn⟩=>[gA.row (.slice (some ⟨b2,0,none⟩) c.bufs.list.length c.bufs.list.length) 4 dn]) (fun⟨k,dn⟩=>[bP.pure (k≤c.steps.list.length∧mV c.c k dn r)]) (fun⟨k,dn⟩=>c.steps.list.length-k) (0,dn) ⟨rfl,trivial⟩ (.cons .head .nil) ⟨Has.pure (⟨by omega,bufs10_end hinv5.2 (by omega)⟩),trivial⟩ ?_;rintro⟨k,dn⟩;dsimp only;refine bV (Has.of mT0) fun hinv17=>?_;have hd2:dn.length=c.bufs.list.length:=by rw [hinv17.2.1];exact hnb
 refine bF<|sr<|sp2 hT ?_;refine ss (ldO hT (kC kT1)) ?_;refine sp2 hT ?_;refine nn<|bN rfl (fun hc96=>?_) (fun hc96=>?_)
 ·have hc96:=of_decide_eq_true hc96;refine bJ<|bD<|bF<|bO<|bF<|bF<|cB (rE.sl (.slice c.steps.addr c.steps.list.length c.steps.cap) c.steps.list) (nC (jR (Has.of mT2))) ?_
  obtain⟨x10,hx11⟩: ∃x',c.steps.list[k]?=some x':=⟨_,List.getElem?_eq_getElem (by omega)⟩
  refine cB (oI x10) (Has.each (rS (jR (Has.of mT3))) (List.mem_of_getElem? hx11)) ?_;refine dN _ _ [(true,0),(true,1),(true,2),(true,3),(true,4),(true,5),(true,6),(false,7),(true,8)] dP (by decide+kernel) (.cons .head (.cons .head .nil)) bH.self ?_;refine stM rfl (ldN hT (cS kT1)) ?_;refine puM hT ?_;refine stM rfl (ldO hT (kC kT1)) ?_;refine puM hT ?_;refine stM rfl (bG hT (k:=k) (bA (Has.of mT1)) rfl rfl rfl rfl rfl rfl rfl (by omega)) ?_;refine stM rfl (cN hT (bX.knows (bA (Has.of mT1)) (k:=k) (x:=x10) hx11 0) rfl rfl rfl rfl rfl) ?_;refine puM hT ?_;refine dD (o:=_) rfl ?_;refine dW (cA Tryz.func73 rfl rfl) (step10_specM hd2 c x10 (some ⟨b2,0,none⟩) c.bufs.list.length (by omega) (by omega)) rfl rfl rfl rfl rfl .nil (.cons .head .nil) (lH gW) ⟨Has.of mT5,Has.of mT1,Has.of mT0,trivial⟩ (fun _=>True) (fun _ _ _ _=>trivial) fun _ _=>?_;refine dB (.cons .head (.cons .head .nil)) (bH.drop 0) ?_;refine puM hT ?_;refine cO<|bD<|bN rfl (fun hc107=>?_) (fun hc107=>?_)
  ·have hc107:=gR hc107;refine sr<|sp hT ?_;refine nn<|bL<|bK<|bR<|bK<|bK<|bR<|bK ?_;have hr:=steps10_bad hinv17.2 (dM hx11) (show lZ c.c dn (fY.c _)=false by simp_all);subst hr;exact bI () rfl (rv_tmp rfl) .nil trivial rfl
  have hc107:=gS hc107;refine bJ<|bD ?_;have hok:lZ c.c dn x10.c=true:=by simp_all
  have hin:=stepOk_in hok;have hb0:0≤x10.buf:=hin.1;have hb1:x10.buf<(c.c.bufs.length:Nat):=hin.2;refine bB<|sp2 hT ?_;refine ss (ldO hT (kC kT1)) ?_;refine sp hT ?_;refine ss (bG hT (k:=k) (bA (Has.of mT1)) rfl rfl rfl rfl rfl rfl rfl (by omega)) ?_;refine sp hT ?_;refine ss (bM hT (bX.knows (bA (Has.of mT1)) (k:=k) (x:=x10) hx11 1) rfl rfl rfl rfl rfl) ?_
  obtain⟨x12,hx13⟩: ∃x',dn[x10.buf.toNat]?=some x':=⟨_,List.getElem?_eq_getElem (by omega)⟩
  refine ss (bG hT (k:=x10.buf.toNat) (bU .head) rfl rfl rfl rfl rfl hd2.symm (by omega) (by omega)) ?_;refine cF hT (k:=x10.buf.toNat) (fo:=0) (y':=(true)) .head rfl rfl rfl rfl rfl rfl rfl rfl rfl hx13 rfl ?_;refine fW<|bT<|bD<|bB<|sp2 hT ?_;refine bS (z':=(((k+1):Nat):Int)) (cG (by omega) (by omega)) ?_;refine sp hT ?_;refine nn ?_;exact bZ (k+1,(dn.set x10.buf.toNat (true))) (by dsimp only;omega) ⟨rfl,trivial⟩ ⟨rfl,rfl,trivial⟩ (.cons .head (.cons .head .nil)) ⟨Has.pure (⟨by dsimp only;omega,steps10_ok hinv17.2 (dM hx11) hok⟩),trivial⟩ (bH.drop 3)
 have hc96:=Int.not_lt.1 (of_decide_eq_false hc96);refine cE<|bW<|bW<|cD<|bD<|bF<|sr<|sp hT ?_;refine nn<|bO<|cM (ι:=Nat) [(1,_)] ⟨rfl,trivial⟩ (fun j=>[(8,.int .i64 (j:Nat))]) (fun _=>[]) (fun j=>[bP.pure (j≤c.outs.list.length∧(c.outs.list.take j).all (outOk c.c.bufs.length)=true)]) (fun j=>c.outs.list.length-j) 0 ⟨rfl,trivial⟩ .nil ⟨Has.pure (⟨by omega,rfl⟩),trivial⟩ ?_;rintro j;refine bV (Has.of mT0) fun hinv23=>?_;refine bF<|sr<|sp2 hT ?_;refine ss (ldO hT (jJ kT1)) ?_;refine sp2 hT ?_;refine nn<|bN rfl (fun hc120=>?_) (fun hc120=>?_)
 ·have hc120:=of_decide_eq_true hc120;refine bJ<|bD<|bF<|bO<|bF<|cB (iG.sl (.slice c.outs.addr c.outs.list.length c.outs.cap) c.outs.list) (yQ (yX (Has.of mT3))) ?_
  obtain⟨x14,hx15⟩: ∃x',c.outs.list[j]?=some x':=⟨_,List.getElem?_eq_getElem (by omega)⟩
  refine dN _ _ [(true,0),(true,1),(true,2),(true,3),(true,4),(true,5),(true,6),(true,7),(true,8),(true,9),(true,10),(true,11),(true,12),(true,13),(true,14),(true,15),(true,16)] dP (by decide+kernel) (.cons .head (.cons .head .nil)) bH.self ?_;refine puM hT ?_;refine stM rfl (ldO hT (jJ kT1)) ?_;refine puM hT ?_;refine stM rfl (bG hT (k:=j) (bA (Has.of mT0)) rfl rfl rfl rfl rfl rfl rfl (by omega)) ?_;refine stM rfl (bM hT (bX.knows (bA (Has.of mT0)) (k:=j) (x:=x14) hx15 0) rfl rfl rfl rfl rfl) ?_;refine puM hT ?_;refine puM hT ?_;refine bY (fun hg129=>?_) (fun hg129=>?_)
  ·have hg129:=of_decide_eq_true hg129;refine bC rfl rfl rfl rfl ?_;refine bC rfl rfl rfl rfl ?_;refine bC rfl rfl rfl rfl ?_;refine bC rfl rfl rfl rfl ?_;refine bC rfl rfl rfl rfl ?_;refine bC rfl rfl rfl rfl ?_;refine bC rfl rfl rfl rfl ?_;refine bC rfl rfl rfl rfl ?_;refine bC rfl rfl rfl rfl ?_;refine puM hT ?_;refine cO<|bD<|cK rfl rfl ?_;refine sr<|sp hT ?_;refine nn<|bL<|bR<|bK<|bK<|bR<|bK ?_;have hr:=(vW hinv17.2 (by omega)).trans (pB hx15 (decide_eq_false (by omega)));subst hr;exact bI () rfl (rv_tmp rfl) .nil trivial rfl
  have hg129:=Int.not_lt.1 (of_decide_eq_false hg129);refine puM hT ?_;refine stM rfl (ldO hT (jJ kT1)) ?_;refine puM hT ?_;refine stM rfl (bG hT (k:=j) (bA (Has.of mT0)) rfl rfl rfl rfl rfl rfl rfl (by omega)) ?_;refine stM rfl (bM hT (bX.knows (bA (Has.of mT0)) (k:=j) (x:=x14) hx15 0) rfl rfl rfl rfl rfl) ?_;refine puM hT ?_;refine stM rfl (ldO hT (dE kT1)) ?_;refine puM hT ?_;refine puM hT ?_;refine puM hT ?_;refine cO<|bD<|bN rfl (fun hc139=>?_) (fun hc139=>?_)
  ·have hc139:=of_decide_eq_true hc139;refine sr<|sp hT ?_;refine nn<|bL<|bR<|bK<|bK<|bR<|bK ?_;have hr:=(vW hinv17.2 (by omega)).trans (pB hx15 (decide_eq_false (by omega)));subst hr;exact bI () rfl (rv_tmp rfl) .nil trivial rfl
  have hc139:=Int.not_le.1 (of_decide_eq_false hc139);refine bJ<|bT<|bD<|bB<|sp2 hT ?_;refine bS (z':=(((j+1):Nat):Int)) (cG (by omega) (by omega)) ?_;refine sp hT ?_;refine nn ?_;exact bZ (j+1) (by omega) ⟨rfl,trivial⟩ ⟨rfl,trivial⟩ (.cons .head (.cons .head .nil)) ⟨Has.pure (⟨by omega,jN hinv23.2 hx15 (decide_eq_true (by omega))⟩),trivial⟩ (bH.drop 2)
 have hc120:=Int.not_lt.1 (of_decide_eq_false hc120);refine cE<|bW<|bW<|cD<|bD<|sr<|sp hT ?_;refine nn<|bL ?_;have hr:=(vW hinv17.2 (by omega)).trans (oK hinv23.2 (by omega));subst hr;exact bI () rfl (rv_tmp rfl) .nil trivial rfl
def dQ.c (x:dQ):LifeC:=⟨x.from_,x.to_⟩
def LifeC.v(x:LifeC):dQ:=⟨x.from_,x.to_⟩
def lc (l:List dQ):List LifeC:=l.map dQ.c
def lv (l:List LifeC):List dQ:=l.map LifeC.v
theorem lv_lc(l:List dQ):lv (lc l)=l:=by
 unfold lv lc;rw [List.map_map];exact List.map_id'' (fun _=>rfl) l
theorem lc_len(l:List dQ):(lc l).length=l.length:=List.length_map _
theorem uN(l:List LifeC):(lv l).length=l.length:=List.length_map _
theorem lc_set(l:List dQ)(k:Nat)(y:dQ):lc (l.set k y)=(lc l).set k y.c:=List.map_set
theorem lc_get(l:List dQ)(k:Nat):(lc l)[k]?=(l[k]?).map dQ.c:=List.getElem?_map
section
variable {L : List LifeC} {i : Int} {k : Nat} {y : LifeC}
theorem bFo{α:Type}{L:List α}{k:Nat}{y:α}(f:α→α)(h:L[k]?=some y):L.set k (f y)=L.modify k f:=by
 apply List.ext_getElem?;intro j;rw [List.getElem?_set,List.getElem?_modify];have hk:=(List.getElem?_eq_some_iff.1 h).1
 by_cases e:k=j
 ·subst e;rw [h];simp [hk]
 ·simp [e]
theorem bAv(h:L[k]?=some y):L.set k ⟨y.from_,i⟩=iA i L k:=bFo (fun x:LifeC=>{x with to_:=i}) h
theorem setFrom_set(h:L[k]?=some y):L.set k ⟨i,y.to_⟩=vQ i L k:=bFo (fun x:LifeC=>{x with from_:=i}) h
end
section
variable {c : gF} {li lj : List dQ} {dn : List Bool} {i j k : Nat} {y : dQ} {u : lP} {r G : List LifeC} {x : fN} {us : List Int} {z : Int} {m : Int}
def bBf (c:gF)(i:Nat)(li:List dQ):Prop:=li.length=c.bufs.length∧ ∀j u,c.bufs[j]?=some u→ ∃y,li[j]?=some y∧y.to_= -1∧y.from_=if j<i∧(0≤u.input∨c.outs.contains (j:Int)=true) then-1 else 0
theorem live_start:bBf c 0 (List.replicate c.bufs.length ⟨0,-1⟩):=by
 refine⟨List.length_replicate,fun j u hj=>⟨⟨0,-1⟩,?_,rfl,?_⟩⟩
 ·rw [List.getElem?_replicate,if_pos (List.getElem?_eq_some_iff.1 hj).1]
 ·rw [if_neg (by omega)]
theorem live_yes(h:bBf c i li)(hu:c.bufs[i]?=some u)(hy:li[i]?=some y)(e:0≤u.input∨c.outs.contains (i:Int)=true):bBf c (i+1) (li.set i ⟨-1,y.to_⟩):=by
 refine⟨by rw [List.length_set];exact h.1,fun j u' hj=>?_⟩;obtain⟨y',h1,h2,h3⟩:=h.2 j u' hj
 by_cases ej:i=j
 ·subst ej;rw [hy] at h1;injection h1 with h1
  subst h1;rw [hu] at hj;injection hj with hj
  subst hj;refine⟨⟨-1,y.to_⟩,List.getElem?_set_self (List.getElem?_eq_some_iff.1 hy).1,h2,?_⟩;rw [if_pos ⟨by omega,e⟩]
 ·refine⟨y',by rw [List.getElem?_set_ne ej];exact h1,h2,?_⟩;rw [h3];have:j<i+1↔j<i:=by omega
  simp [this]
theorem live_no(h:bBf c i li)(hu:c.bufs[i]?=some u)(e1:u.input<0)(e2:c.outs.contains (i:Int)=false):bBf c (i+1) li:=by
 refine⟨h.1,fun j u' hj=>?_⟩;obtain⟨y',h1,h2,h3⟩:=h.2 j u' hj;refine⟨y',h1,h2,?_⟩;rw [h3]
 by_cases ej:i=j
 ·subst ej;rw [hu] at hj;injection hj with hj
  subst hj;rw [if_neg (by omega),if_neg];rintro⟨_,h | h⟩
  ·omega
  ·rw [e2] at h;cases h
 ·have:j<i+1↔j<i:=by omega
  simp [this]
theorem live_end(h:bBf c i li)(hi:c.bufs.length≤i):lc li=rY c.outs 0 c.bufs:=by
 apply List.ext_getElem?;intro j;rw [lc_get,tZ]
 cases hj:c.bufs[j]? with
 | none=>
  rw [List.getElem?_eq_none_iff.2 (by rw [h.1];exact List.getElem?_eq_none_iff.1 hj)];rfl
 | some u=>
  obtain⟨y',h1,h2,h3⟩:=h.2 j u hj;have:=(List.getElem?_eq_some_iff.1 hj).1;rw [h1,Option.map_some,Option.map_some,dQ.c,h2,h3,Nat.zero_add];have hji:j<i:=by omega
  simp [hji]
def StepI (c:gF)(k:Nat)(li:List dQ)(dn:List Bool)(r:List LifeC):Prop:=li.length=c.bufs.length∧dn.length=c.bufs.length∧r=(c.outs.map Int.toNat).foldl (iA c.steps.length) (oQ k (c.steps.drop k) (lc li,dn)).1
theorem step_start(h:bBf c i li)(hi:c.bufs.length≤i):StepI c 0 li (List.replicate c.bufs.length false) (livesC c):=by
 refine⟨h.1,List.length_replicate,?_⟩;rw [live_end h hi];rfl
theorem bKh(h:StepI c k li dn r)(hx:c.steps[k]?=some x)(h1:lc lj=(jF k x (lc li,dn)).1){dn':List Bool}(h2:dn'=dn.set x.buf.toNat true):StepI c (k+1) lj dn' r:=by
 subst h2;refine⟨?_,by rw [List.length_set];exact h.2.1,?_⟩
 ·rw [←lc_len,h1,sY,lc_len];exact h.1
 ·rw [h.2.2,show c.steps.drop k=x::c.steps.drop (k+1) from by
   obtain⟨hi,e⟩:=List.getElem?_eq_some_iff.1 hx;rw [←e]
   exact List.drop_eq_getElem_cons hi,oQ,h1]
  rfl
theorem step_end(h:StepI c k li dn r)(hk:c.steps.length≤k):r=(c.outs.map Int.toNat).foldl (iA c.steps.length) (lc li):=by
 rw [h.2.2,List.drop_of_length_le hk];rfl
def UseI (m:Int)(us:List Int)(j:Nat)(G:List LifeC)(li:List dQ):Prop:=G=((us.drop j).map Int.toNat).foldl (iA m) (lc li)
theorem use_step(h:UseI m us j G li)(hz:us[j]?=some z)(hy:li[z.toNat]?=some y):UseI m us (j+1) G (li.set z.toNat ⟨y.from_,m⟩):=by
 unfold UseI at*
 rw [h,show us.drop j=z::us.drop (j+1) from by
   obtain⟨hi,e⟩:=List.getElem?_eq_some_iff.1 hz;rw [←e]
   exact List.drop_eq_getElem_cons hi,List.map_cons,List.foldl_cons,lc_set]
 congr 1
 exact(bAv (y:=y.c) (by rw [lc_get,hy];rfl)).symm
theorem use_end(h:UseI m us j G li)(hj:us.length≤j):lc li=G:=by
 unfold UseI at h;rw [h,List.drop_of_length_le hj];rfl
theorem bJs(l:List OpV)(L:List LifeC):((usesV l).map Int.toNat).foldl (iA m) L=(rU (qG l)).foldl (iA m) L:=by
 apply List.ext_getElem?;intro b;rw [nS,nS]
 congr 1
 funext x
 have:b∈(usesV l).map Int.toNat↔b∈rU (qG l):=by
  simp only [List.mem_map,rU,List.mem_filterMap,qG];constructor
  ·rintro⟨z,hz,e⟩;obtain⟨o,ho,h4,hk⟩:=zL.1 hz;exact⟨o.c,⟨o,ho,rfl⟩,by rw [if_pos (show o.c.how=4 from h4)];show some o.k.toNat=_;rw [hk,e]⟩
  ·rintro⟨_,⟨o,ho,rfl⟩,e⟩
   by_cases h4:o.c.how=4
   ·rw [if_pos h4] at e;injection e with e
    exact⟨o.k,zL.2 ⟨o,ho,h4,rfl⟩,e⟩
   ·rw [if_neg h4] at e;cases e
 simp only [this]
section
variable {s : fY}
theorem made_new(h:UseI m (usesV s.ops.list) j G lj)(hj:(usesV s.ops.list).length≤j)(hG:G=((usesV s.ops.list).map Int.toNat).foldl (iA m) (lc li))(hd:dn[s.buf.toNat]?=some false)(hy:lj[s.buf.toNat]?=some y):
  lc ((lj.set s.buf.toNat ⟨m,y.to_⟩).set s.buf.toNat ⟨m,m⟩)=(jF m s.c (lc li,dn)).1:=by
 have e:=use_end h hj;rw [hG,bJs] at e;have hdn:dn.getD s.buf.toNat false=false:=by rw [List.getD_eq_getElem?_getD,hd];rfl
 unfold jF;show _=iA m (if dn.getD s.buf.toNat false=true then _ else _) s.buf.toNat;rw [hdn,if_neg (by decide)];show _=iA m (vQ m ((rU (qG s.ops.list)).foldl (iA m) (lc li)) s.buf.toNat) s.buf.toNat;rw [←e,lc_set,lc_set];have h1:(lc lj)[s.buf.toNat]?=some y.c:=by rw [lc_get,hy];rfl
 rw [←setFrom_set (y:=y.c) h1];have h2:((lc lj).set s.buf.toNat ⟨m,y.to_⟩)[s.buf.toNat]?=some ⟨m,y.to_⟩:=List.getElem?_set_self (List.getElem?_eq_some_iff.1 h1).1;exact bAv (y:=⟨m,y.to_⟩) h2
theorem made_old(h:UseI m (usesV s.ops.list) j G lj)(hj:(usesV s.ops.list).length≤j)(hG:G=((usesV s.ops.list).map Int.toNat).foldl (iA m) (lc li))(hd:dn[s.buf.toNat]?=some true)(hy:lj[s.buf.toNat]?=some y):
  lc (lj.set s.buf.toNat ⟨y.from_,m⟩)=(jF m s.c (lc li,dn)).1∧dn=dn.set s.buf.toNat true:=by
 have e:=use_end h hj;rw [hG,bJs] at e;have hdn:dn.getD s.buf.toNat false=true:=by rw [List.getD_eq_getElem?_getD,hd];rfl
 refine⟨?_,?_⟩
 ·unfold jF;show _=iA m (if dn.getD s.buf.toNat false=true then _ else _) s.buf.toNat;rw [hdn,if_pos rfl];show _=iA m ((rU (qG s.ops.list)).foldl (iA m) (lc li)) s.buf.toNat;rw [←e,lc_set];exact bAv (y:=y.c) (by rw [lc_get,hy];rfl)
 ·have hlt:=(List.getElem?_eq_some_iff.1 hd).1;have:=(List.getElem?_eq_some_iff.1 hd).2;rw [←this,List.set_getElem_self]
end
def OutI (c:gF)(j:Nat)(li:List dQ)(r:List LifeC):Prop:=li.length=c.bufs.length∧r=((c.outs.drop j).map Int.toNat).foldl (iA c.steps.length) (lc li)
theorem out_step(h:OutI c j li r)(hz:c.outs[j]?=some z)(hy:li[z.toNat]?=some y):OutI c (j+1) (li.set z.toNat ⟨y.from_,(c.steps.length:Nat)⟩) r:=by
 refine⟨by rw [List.length_set];exact h.1,?_⟩;have:=use_step (us:=c.outs) (m:=c.steps.length) (G:=r) h.2 hz hy;exact this
theorem out_stepN{n:Nat}(hn:c.steps.length=n)(h:OutI c j li r)(hz:c.outs[j]?=some z)(hy:li[z.toNat]?=some y):OutI c (j+1) (li.set z.toNat ⟨y.from_,(n:Nat)⟩) r:=by
 subst hn;exact out_step h hz hy
theorem out_end(h:OutI c j li r)(hj:c.outs.length≤j):li=lv r:=by
 rw [h.2,List.drop_of_length_le hj];exact(lv_lc li).symm
theorem bKy{vars:Int}{bufs:List lP}: ∀{r:List fN} {made:List Bool},made.length=bufs.length→kJ vars bufs r made=true→ ∀x∈r,0≤x.buf∧x.buf<bufs.length∧ ∀o∈x.ops,o.how=4→0≤o.k∧o.k<bufs.length
 | [],_,_,_,x,hx=>by cases hx
 | y::r,made,hm,h,x,hx=>by
  rw [kJ,Bool.and_eq_true,Bool.and_eq_true,Bool.and_eq_true] at h;obtain⟨⟨h1,h2⟩,h3,h4⟩:=h
  rcases List.mem_cons.1 hx with rfl | hx
  ·have h0:0≤x.buf:=of_decide_eq_true h1;refine⟨h0,?_,fun o ho e=>?_⟩
   ·cases hb:bufs[x.buf.toNat]? with
    | none=>rw [hb] at h2;cases h2
    | some b=>
     have:=(List.getElem?_eq_some_iff.1 hb).1;omega
   ·unfold mG at h3;simp only [Bool.and_eq_true] at h3;have h5:=List.all_eq_true.1 h3.2.2.2.2.2 o ho;unfold opB at h5;rw [if_neg (by omega),if_neg (by omega),if_neg (by omega),if_pos e] at h5;simp only [Bool.and_eq_true,decide_eq_true_eq] at h5;refine⟨h5.1.1,?_⟩;have h6:=h5.2.1;rw [List.getD_eq_getElem?_getD] at h6
    cases hk:made[o.k.toNat]? with
    | none=>rw [hk] at h6;cases h6
    | some b=>
     have:=(List.getElem?_eq_some_iff.1 hk).1;omega
  ·exact bKy (by rw [List.length_set];exact hm) h4 x hx
theorem oN(h:gH c=true):(c.bufs.length≤1024∧c.steps.length≤1024∧c.outs.length≤64)∧(∀x∈c.steps,0≤x.buf∧x.buf<c.bufs.length∧ ∀o∈x.ops,o.how=4→0≤o.k∧o.k<c.bufs.length)∧ ∀k∈c.outs,0≤k∧k<c.bufs.length:=by
 obtain⟨h1,h2,h3,h4⟩:=uT h;exact⟨h1.2.2,bKy (pN _) h3,h4⟩
theorem uses_in{s:fY}{n:Nat}(h: ∀o∈s.c.ops,o.how=4→0≤o.k∧o.k<n)(hz:z∈usesV s.ops.list):0≤z∧z<n:=by
 obtain⟨o,ho,h4,hk⟩:=zL.1 hz;have:=h o.c (List.mem_map.2 ⟨o,ho,rfl⟩) h4;rw [←hk];exact this
theorem iL:(livesC c).length=c.bufs.length:=by
 unfold livesC;rw [sS]
 have: ∀(r:List fN) (i:Int) (s:List LifeC×List Bool),(oQ i r s).1.length=s.1.length:=fun r=>by
  induction r with
  | nil=>exact fun _ _=>rfl
  | cons x r ih=>exact fun i s=>by rw [oQ,ih,sY]
 rw [this,xQ]
end
theorem bBg{β:fR}{n:Nat}{Γ:Env}{H:List bQ}{F:List bP}{Q:Exit→Act→World→Prop}{ops:Array Oper}{rest:List Oper}{o:Oper}{d:Nat}{x:Operand}{m:dQ}(hw:want ops Γ o=some true)(ho:o.op= .buildSlice 48 1 #[(0,x)])(hd:o.dst=some d)(hn:Nat.blt d n=true)
  (hx:Γ.ev x=some (.agg #[.int .i64 m.from_,.int .i64 m.to_])) (k: ∀b,At β n ((d,.slice (some ⟨b,0,none⟩) 1 1)::Γ) (.obj b (.cells (iO.all [m]).toArray 55)::H) F (wpList Tryz.prog ops Q rest)):At β n Γ H F (wpList Tryz.prog ops Q (o::rest)):=by
 obtain⟨i,hi,hz,hs,_⟩:=bEt;refine nI hw ho hd hn hx Tryz.underlying48 hi hz (by omega) (by omega) ?_ k;rw [hs]
 kernel_rfl
set_option maxRecDepth 100000 in
theorem lives_spec(c:gM)(hr:gH c.c=true):dG Tryz.prog 43 [.agg #[.int .i64 c.vars,.slice c.bufs.addr c.bufs.list.length c.bufs.cap,.slice c.steps.addr c.steps.list.length c.steps.cap,.slice c.outs.addr c.outs.list.length c.outs.cap]] [] [mF c,bP.cells 0 0 [.int .i64 0,.int .i64 (-1)]] (fun(x:Option Addr×Nat)=> .slice x.1 c.bufs.list.length x.2) (fun(x:Option Addr×Nat)=>[iO.row (.slice x.1 c.bufs.list.length x.2) 55 (lv (livesC c.c))]) (fun _=>[]):=by
 have hT:=dA;generalize hR:livesC c.c=r;obtain⟨hbz,hst,hou⟩:=oN hr;have hnb:c.c.bufs.length=c.bufs.list.length:=dL _;have hns:c.c.steps.length=c.steps.list.length:=dX _;have hno:c.c.outs.length=c.outs.list.length:=rfl;refine cJ Tryz.func43 rfl Tryz.ntmps43 rfl ?_;intro β hM;refine sr<|gC rfl rfl rfl rfl rfl rfl fun b1=>?_;refine sp hT ?_;refine nn<|sr<|ss (cN hT (fX (off:=0) (Has.of mT1)) rfl rfl rfl rfl rfl) ?_;refine bBg (m:=⟨0,-1⟩) rfl rfl rfl rfl rfl fun b2=>?_;refine qK (E:=iO) (xs:=[⟨0,-1⟩]) .head ?_;refine lW .head ?_;refine sp hT ?_;refine ss (ldO hT (dE .head)) ?_;refine sp hT ?_;refine cP Tryz.func94 (repeatL_spec (some ⟨b2,0,none⟩) 1 ⟨0,-1⟩ c.bufs.list.length (by omega)) rfl rfl .nil ⟨(Has.of mT0),trivial⟩ fun⟨LA,lcp⟩=>?_;refine sp hT ?_;refine nn<|sr<|sp hT ?_;refine ss (ldO hT (dE kT1)) ?_;refine sp hT ?_;refine jP (m:=c.bufs.list.length) rfl rfl rfl rfl rfl rfl (by omega) fun b3=>?_;refine sp hT ?_;refine nn<|bF<|sr<|sp3 hT ?_;refine nn<|bO<|cM (ι:=Nat×List dQ) [(1,_),(3,_),(4,_),(23,_)] ⟨rfl,rfl,rfl,rfl,trivial⟩ (fun⟨i,li⟩=>[(24,.int .i64 (i:Nat))]) (fun⟨i,li⟩=>[iO.row (.slice LA c.bufs.list.length lcp) 55 li]) (fun⟨i,li⟩=>[bP.pure (i≤c.bufs.list.length∧bBf c.c i li)]) (fun⟨i,li⟩=>c.bufs.list.length-i) (0,List.replicate c.bufs.list.length ⟨0,-1⟩) ⟨rfl,trivial⟩ (.cons kT1 .nil) ⟨Has.pure (⟨by omega,by rw [←hnb];exact live_start⟩),trivial⟩ ?_;rintro⟨i,li⟩;dsimp only;refine bV (Has.of mT0) fun hinv4=>?_;have hll:li.length=c.bufs.list.length:=by rw [hinv4.2.1];exact hnb
 refine sr<|sp hT ?_;refine nn<|bF<|bN rfl (fun hc25=>?_) (fun hc25=>?_)
 ·have hc25:=of_decide_eq_true hc25;refine bJ<|bD<|bF<|bO<|sr<|sp2 hT ?_;refine nn<|sr<|sp hT ?_;refine ss (ldO hT (dE kT2)) ?_;refine sp hT ?_;refine cB (sM.sl (.slice c.bufs.addr c.bufs.list.length c.bufs.cap) c.bufs.list) (jS (gP (Has.of mT2))) ?_
  obtain⟨x4,hx5⟩: ∃x',c.bufs.list[i]?=some x':=⟨_,List.getElem?_eq_getElem (by omega)⟩
  refine ss (bG hT (k:=i) (bA (Has.of mT0)) rfl rfl rfl rfl rfl rfl rfl (by omega)) ?_;refine sp hT ?_;refine ss (bM hT (bX.knows (bA (Has.of mT0)) (k:=i) (x:=x4) hx5 1) rfl rfl rfl rfl rfl) ?_;refine sp2 hT ?_;refine bY (fun hg34=>?_) (fun hg34=>?_)
  ·have hg34:=of_decide_eq_true hg34;refine sk4 ?_;refine sp hT ?_;refine nn<|cK rfl rfl ?_;refine bB<|sp2 hT ?_
   obtain⟨x6,hx7⟩: ∃x',li[i]?=some x':=⟨_,List.getElem?_eq_getElem (by omega)⟩
   refine ss (bG hT (k:=i) (bU .head) rfl rfl rfl rfl rfl hll.symm rfl (by omega)) ?_;refine sp hT ?_;refine cF hT (k:=i) (fo:=0) (y':=(⟨-1,x6.to_⟩:dQ)) .head rfl rfl rfl rfl rfl rfl rfl rfl rfl hx7 rfl ?_;refine fW<|bT<|bD<|bB<|sp hT ?_;refine bS (z':=(((i+1):Nat):Int)) (cG (by omega) (by omega)) ?_;refine sp hT ?_;refine nn ?_;exact bZ (i+1,(li.set i (⟨-1,x6.to_⟩:dQ))) (by dsimp only;omega) ⟨rfl,trivial⟩ ⟨rfl,rfl,rfl,rfl,trivial⟩ (.cons .head (.cons .head (.cons .head .nil))) ⟨Has.pure (⟨by dsimp only;omega,live_yes hinv4.2 (cV hx5) hx7 (by first | exact .inl (by show 0≤iY.input _;omega) | exact .inr ‹_›)⟩),trivial⟩ (bH.drop 2)
  have hg34:=Int.not_le.1 (of_decide_eq_false hg34);refine sp hT ?_;refine ss (ldO hT (jJ kT2)) ?_;refine sp hT ?_;refine cB (iG.sl (.slice c.outs.addr c.outs.list.length c.outs.cap) c.outs.list) (yQ (yX (Has.of mT3))) ?_;refine cP Tryz.func95 (bHo c.outs.addr c.outs.cap c.outs.list (by omega) (i:Nat)) rfl rfl .nil ⟨(Has.of mT0),trivial⟩ fun _=>?_;refine sp hT ?_;refine nn<|bN rfl (fun hc39=>?_) (fun hc39=>?_)
  ·refine bB<|sp2 hT ?_
   obtain⟨x8,hx9⟩: ∃x',li[i]?=some x':=⟨_,List.getElem?_eq_getElem (by omega)⟩
   refine ss (bG hT (k:=i) (bU .head) rfl rfl rfl rfl rfl hll.symm rfl (by omega)) ?_;refine sp hT ?_;refine cF hT (k:=i) (fo:=0) (y':=(⟨-1,x8.to_⟩:dQ)) .head rfl rfl rfl rfl rfl rfl rfl rfl rfl hx9 rfl ?_;refine fW<|bT<|bD<|bB<|sp hT ?_;refine bS (z':=(((i+1):Nat):Int)) (cG (by omega) (by omega)) ?_;refine sp hT ?_;refine nn ?_;exact bZ (i+1,(li.set i (⟨-1,x8.to_⟩:dQ))) (by dsimp only;omega) ⟨rfl,trivial⟩ ⟨rfl,rfl,rfl,rfl,trivial⟩ (.cons .head (.cons .head (.cons .head .nil))) ⟨Has.pure (⟨by dsimp only;omega,live_yes hinv4.2 (cV hx5) hx9 (by first | exact .inl (by show 0≤iY.input _;omega) | exact .inr ‹_›)⟩),trivial⟩ (bH.drop 3)
  refine bJ<|bT<|bD<|bB<|sp hT ?_;refine bS (z':=(((i+1):Nat):Int)) (cG (by omega) (by omega)) ?_;refine sp hT ?_;refine nn ?_;exact bZ (i+1,li) (by dsimp only;omega) ⟨rfl,trivial⟩ ⟨rfl,rfl,rfl,rfl,trivial⟩ (.cons .head (.cons .head (.cons .head .nil))) ⟨Has.pure (⟨by dsimp only;omega,live_no hinv4.2 (cV hx5) (by show iY.input _<0;omega) ‹_›⟩),trivial⟩ (bH.drop 3)
 have hc25:=Int.not_lt.1 (of_decide_eq_false hc25);refine cE<|bW<|bW<|cD<|bD<|bF<|sr<|sp hT ?_;refine ss (ldO hT (kC kT2)) ?_;refine sp2 hT ?_;refine nn<|bO<|cM (ι:=Nat×List dQ×List Bool) [(1,_),(3,_),(4,_),(46,_),(47,_)] ⟨rfl,rfl,rfl,rfl,rfl,trivial⟩ (fun⟨k,li,dn⟩=>[(48,.int .i64 (k:Nat))]) (fun⟨k,li,dn⟩=>[iO.row (.slice LA c.bufs.list.length lcp) 55 li,gA.row (.slice (some ⟨b3,0,none⟩) c.bufs.list.length c.bufs.list.length) 4 dn]) (fun⟨k,li,dn⟩=>[bP.pure (k≤c.steps.list.length∧StepI c.c k li dn r)]) (fun⟨k,li,dn⟩=>c.steps.list.length-k) (0,li,List.replicate c.bufs.list.length false) ⟨rfl,trivial⟩ (.cons .head (.cons .head .nil)) ⟨Has.pure (⟨by omega,by rw [←hR,←hnb];exact step_start hinv4.2 (by omega)⟩),trivial⟩ ?_;rintro⟨k,li,dn⟩;dsimp only;refine bV (Has.of mT0) fun hinv10=>?_;have hl2:li.length=c.bufs.list.length:=by rw [hinv10.2.1];exact hnb
 have hd2:dn.length=c.bufs.list.length:=by rw [hinv10.2.2.1];exact hnb
 refine sr<|sp hT ?_;refine nn<|bF<|bN rfl (fun hc49=>?_) (fun hc49=>?_)
 ·have hc49:=of_decide_eq_true hc49;refine bJ<|bD<|bF<|bO<|sr<|sp hT ?_;refine cB (rE.sl (.slice c.steps.addr c.steps.list.length c.steps.cap) c.steps.list) (nC (jR (Has.of mT3))) ?_
  obtain⟨x10,hx11⟩: ∃x',c.steps.list[k]?=some x':=⟨_,List.getElem?_eq_getElem (by omega)⟩
  refine ss (bG hT (k:=k) (bA (Has.of mT0)) rfl rfl rfl rfl rfl rfl rfl (by omega)) ?_;refine ss (cN hT (bX.knows (bA (Has.of mT0)) (k:=k) (x:=x10) hx11 0) rfl rfl rfl rfl rfl) ?_;refine dZ rfl rfl rfl rfl sQ rfl fun b12=>?_;refine sp hT ?_;refine sto hT .head ?_;refine nn<|bF<|bF ?_;obtain⟨hb0,hb1,hop⟩:=hst x10.c (List.mem_of_getElem? (dM hx11))
  replace hb0:0≤x10.buf:=hb0
  replace hb1:x10.buf<(c.c.bufs.length:Nat):=hb1
  have hul:=usesV_len x10.ops.list;refine bB<|sp hT ?_;refine ss (ldO hT (nF .head)) ?_;refine cB (oI x10) (Has.each (rS (jR (Has.of mT4))) (List.mem_of_getElem? hx11)) ?_;refine cB (opE.sl (.slice x10.ops.addr x10.ops.list.length x10.ops.cap) x10.ops.list) (opsF_s (nY (Has.of mT0))) ?_;refine bV (opsF_c (nY (Has.of mT1))) fun hz13=>?_;have hz132:=hz13.2;refine cP Tryz.func26 (uses_spec x10.ops.addr x10.ops.cap x10.ops.list (by omega)) rfl rfl .nil ⟨(Has.of mT0),trivial⟩ fun⟨UA,uc⟩=>?_;refine sp2 hT ?_;refine nn<|bO<|cM (ι:=Nat×List dQ) [(1,_),(3,_),(4,_),(6,_),(7,_),(46,_),(47,_),(48,_),(55,_),(56,_)] ⟨rfl,rfl,rfl,rfl,rfl,rfl,rfl,rfl,rfl,rfl,trivial⟩ (fun⟨j,lj⟩=>[(57,.int .i64 (j:Nat))]) (fun⟨j,lj⟩=>[iO.row (.slice LA c.bufs.list.length lcp) 55 lj]) (fun⟨j,lj⟩=>[bP.pure (j≤(usesV x10.ops.list).length∧lj.length=c.bufs.list.length∧UseI (k:Nat) (usesV x10.ops.list) j (((usesV x10.ops.list).map Int.toNat).foldl (iA (k:Nat)) (lc li)) lj)]) (fun⟨j,lj⟩=>(usesV x10.ops.list).length-j) (0,li) ⟨rfl,trivial⟩ (.cons kT1 .nil) ⟨Has.pure (⟨by omega,hl2,rfl⟩),trivial⟩ ?_;rintro⟨j,lj⟩;dsimp only;refine bV (Has.of mT0) fun hinv13=>?_;have hl3:=hinv13.2.1;refine sr<|sp hT ?_;refine nn<|bF<|bN rfl (fun hc58=>?_) (fun hc58=>?_)
  ·have hc58:=of_decide_eq_true hc58;refine bJ<|bD<|bF<|bO<|sr ?_
   obtain⟨x14,hx15⟩: ∃x',(usesV x10.ops.list)[j]?=some x':=⟨_,List.getElem?_eq_getElem (by omega)⟩
   refine ss (bG hT (k:=j) (bA (Has.of mT1)) rfl rfl rfl rfl rfl rfl rfl (by omega)) ?_;refine ss (bM hT (bX.knows (bA (Has.of mT1)) (k:=j) (x:=x14) hx15 0) rfl rfl rfl rfl rfl) ?_;refine sp hT ?_;refine nn ?_;have hzz:=uses_in hop (List.mem_of_getElem? hx15);refine bB<|sp3 hT ?_
   obtain⟨x16,hx17⟩: ∃x',lj[x14.toNat]?=some x':=⟨_,List.getElem?_eq_getElem (by first | omega | (simp only [List.length_set];omega))⟩
   refine ss (bG hT (k:=x14.toNat) (bU .head) rfl rfl rfl rfl rfl hl3.symm (by omega) (by first | omega | (simp only [List.length_set];omega))) ?_;refine sp hT ?_;refine cF hT (k:=x14.toNat) (fo:=1) (y':=(⟨x16.from_,(k:Nat)⟩:dQ)) .head rfl rfl rfl rfl rfl rfl rfl rfl rfl hx17 rfl ?_;refine fW<|bT<|bD<|bB<|sp hT ?_;refine bS (z':=(((j+1):Nat):Int)) (cG (by omega) (by omega)) ?_;refine sp hT ?_;refine nn ?_;exact bZ (j+1,(lj.set x14.toNat (⟨x16.from_,(k:Nat)⟩:dQ))) (by dsimp only;omega) ⟨rfl,trivial⟩ ⟨rfl,rfl,rfl,rfl,rfl,rfl,rfl,rfl,rfl,rfl,trivial⟩ (.cons .head (.cons .head (.cons .head (.cons .head .nil)))) ⟨Has.pure (⟨by dsimp only;omega,by rw [List.length_set];exact hl3,use_step hinv13.2.2 hx15 hx17⟩),trivial⟩ (bH.drop 1)
  have hc58:=Int.not_lt.1 (of_decide_eq_false hc58);refine cE<|bW<|bW<|cD<|bD<|bF<|sr<|sp2 hT ?_;refine ss (ldO hT (dE kT1)) ?_
  obtain⟨x18,hx19⟩: ∃x',dn[x10.buf.toNat]?=some x':=⟨_,List.getElem?_eq_getElem (by first | omega | (simp only [List.length_set];omega))⟩
  refine ss (bG hT (k:=x10.buf.toNat) (bU kT2) rfl rfl rfl rfl rfl hd2.symm (by omega) (by first | omega | (simp only [List.length_set];omega))) ?_;refine ss (bM hT (bX.knows (bU kT2) (k:=x10.buf.toNat) (x:=x18) hx19 0) rfl rfl rfl rfl rfl) ?_;refine sp hT ?_;refine nn<|bN rfl (fun hc72=>?_) (fun hc72=>?_)
  ·have hc72:=gR hc72;refine sr<|sp2 hT ?_;refine ss (ldO hT (dE kT1)) ?_;refine ss (bG hT (k:=x10.buf.toNat) (bU kT2) rfl rfl rfl rfl rfl hd2.symm (by omega) (by first | omega | (simp only [List.length_set];omega))) ?_;refine cF hT (k:=x10.buf.toNat) (fo:=0) (y':=(true)) kT2 rfl rfl rfl rfl rfl rfl rfl rfl rfl hx19 rfl ?_;refine nn<|bB<|sp2 hT ?_;refine ss (ldO hT (dE kT2)) ?_;refine sp hT ?_
   obtain⟨x20,hx21⟩: ∃x',lj[x10.buf.toNat]?=some x':=⟨_,List.getElem?_eq_getElem (by first | omega | (simp only [List.length_set];omega))⟩
   refine ss (bG hT (k:=x10.buf.toNat) (bU kT1) rfl rfl rfl rfl rfl hl3.symm (by omega) (by first | omega | (simp only [List.length_set];omega))) ?_;refine sp hT ?_;refine cF hT (k:=x10.buf.toNat) (fo:=0) (y':=(⟨(k:Nat),x20.to_⟩:dQ)) kT1 rfl rfl rfl rfl rfl rfl rfl rfl rfl hx21 rfl ?_;refine nn<|bB<|sp2 hT ?_;refine ss (ldO hT (dE kT2)) ?_;refine sp hT ?_;refine ss (bG hT (k:=x10.buf.toNat) (bU .head) rfl rfl rfl rfl rfl (by simp only [List.length_set];omega) (by omega) (by first | omega | (simp only [List.length_set];omega))) ?_;refine sp hT ?_;refine cF hT (k:=x10.buf.toNat) (fo:=1) (y':=(⟨(⟨(k:Nat),x20.to_⟩:dQ).from_,(k:Nat)⟩:dQ)) .head rfl rfl rfl rfl rfl rfl rfl rfl rfl (List.getElem?_set_self (by first | omega | (simp only [List.length_set];omega))) rfl ?_;refine fW<|bT<|bD<|bB<|sp hT ?_;refine bS (z':=(((k+1):Nat):Int)) (cG (by omega) (by omega)) ?_;refine sp hT ?_;refine nn ?_;exact bZ (k+1,((lj.set x10.buf.toNat (⟨(k:Nat),x20.to_⟩:dQ)).set x10.buf.toNat (⟨(⟨(k:Nat),x20.to_⟩:dQ).from_,(k:Nat)⟩:dQ)),(dn.set x10.buf.toNat (true))) (by dsimp only;omega) ⟨rfl,trivial⟩ ⟨rfl,rfl,rfl,rfl,rfl,trivial⟩ (.cons .head (.cons .head (.cons kT1 .nil))) ⟨Has.pure (⟨by dsimp only;omega,bKh hinv10.2 (dM hx11) (made_new hinv13.2.2 (by omega) rfl (show dn[_]?=some false by rw [hx19];simp_all) hx21) rfl⟩),trivial⟩ (bH.drop 6)
  have hc72:=gS hc72;refine bJ<|bD<|bB<|sp2 hT ?_;refine ss (ldO hT (dE kT1)) ?_;refine sp hT ?_
  obtain⟨x22,hx23⟩: ∃x',lj[x10.buf.toNat]?=some x':=⟨_,List.getElem?_eq_getElem (by first | omega | (simp only [List.length_set];omega))⟩
  refine ss (bG hT (k:=x10.buf.toNat) (bU .head) rfl rfl rfl rfl rfl hl3.symm (by omega) (by first | omega | (simp only [List.length_set];omega))) ?_;refine sp hT ?_;refine cF hT (k:=x10.buf.toNat) (fo:=1) (y':=(⟨x22.from_,(k:Nat)⟩:dQ)) .head rfl rfl rfl rfl rfl rfl rfl rfl rfl hx23 rfl ?_;refine fW<|bT<|bD<|bB<|sp hT ?_;refine bS (z':=(((k+1):Nat):Int)) (cG (by omega) (by omega)) ?_;refine sp hT ?_;refine nn ?_;exact bZ (k+1,(lj.set x10.buf.toNat (⟨x22.from_,(k:Nat)⟩:dQ)),dn) (by dsimp only;omega) ⟨rfl,trivial⟩ ⟨rfl,rfl,rfl,rfl,rfl,trivial⟩ (.cons .head (.cons kT1 (.cons kT1 .nil))) ⟨Has.pure (⟨by dsimp only;omega,bKh hinv10.2 (dM hx11) (made_old hinv13.2.2 (by omega) rfl (show dn[_]?=some true by rw [hx19];simp_all) hx23).1 (made_old (y:=_) hinv13.2.2 (by omega) rfl (show dn[_]?=some true by rw [hx19];simp_all) hx23).2⟩),trivial⟩ (bH.drop 6)
 have hc49:=Int.not_lt.1 (of_decide_eq_false hc49);refine cE<|bW<|bW<|cD<|bD<|bF<|sr<|sp hT ?_;refine ss (ldO hT (jJ kT2)) ?_;refine sp2 hT ?_;refine nn<|bO<|cM (ι:=Nat×List dQ) [(1,_),(3,_),(91,_),(92,_)] ⟨rfl,rfl,rfl,rfl,trivial⟩ (fun⟨j,lo⟩=>[(93,.int .i64 (j:Nat))]) (fun⟨j,lo⟩=>[iO.row (.slice LA c.bufs.list.length lcp) 55 lo]) (fun⟨j,lo⟩=>[bP.pure (j≤c.outs.list.length∧OutI c.c j lo r)]) (fun⟨j,lo⟩=>c.outs.list.length-j) (0,li) ⟨rfl,trivial⟩ (.cons .head .nil) ⟨Has.pure (⟨by omega,hinv10.2.1,step_end hinv10.2 (by omega)⟩),trivial⟩ ?_;rintro⟨j,lo⟩;dsimp only;refine bV (Has.of mT0) fun hinv23=>?_;have hl4:lo.length=c.bufs.list.length:=by rw [hinv23.2.1];exact hnb
 refine sr<|sp hT ?_;refine nn<|bF<|bN rfl (fun hc94=>?_) (fun hc94=>?_)
 ·have hc94:=of_decide_eq_true hc94;refine bJ<|bD<|bF<|bO<|sr<|cB (iG.sl (.slice c.outs.addr c.outs.list.length c.outs.cap) c.outs.list) (yQ (yX (Has.of mT4))) ?_
  obtain⟨x24,hx25⟩: ∃x',c.outs.list[j]?=some x':=⟨_,List.getElem?_eq_getElem (by omega)⟩
  refine ss (bG hT (k:=j) (bA (Has.of mT0)) rfl rfl rfl rfl rfl rfl rfl (by omega)) ?_;refine ss (bM hT (bX.knows (bA (Has.of mT0)) (k:=j) (x:=x24) hx25 0) rfl rfl rfl rfl rfl) ?_;refine sp hT ?_;refine nn ?_;have hzz:=hou x24 (List.mem_of_getElem? hx25);refine bB<|sp3 hT ?_;refine ss (ldO hT (kC kT2)) ?_;refine sp hT ?_
  obtain⟨x26,hx27⟩: ∃x',lo[x24.toNat]?=some x':=⟨_,List.getElem?_eq_getElem (by first | omega | (simp only [List.length_set];omega))⟩
  refine ss (bG hT (k:=x24.toNat) (bU .head) rfl rfl rfl rfl rfl hl4.symm (by omega) (by first | omega | (simp only [List.length_set];omega))) ?_;refine sp hT ?_;refine cF hT (k:=x24.toNat) (fo:=1) (y':=(⟨x26.from_,(c.steps.list.length:Nat)⟩:dQ)) .head rfl rfl rfl rfl rfl rfl rfl rfl rfl hx27 rfl ?_;refine fW<|bT<|bD<|bB<|sp hT ?_;refine bS (z':=(((j+1):Nat):Int)) (cG (by omega) (by omega)) ?_;refine sp hT ?_;refine nn ?_;exact bZ (j+1,(lo.set x24.toNat (⟨x26.from_,(c.steps.list.length:Nat)⟩:dQ))) (by dsimp only;omega) ⟨rfl,trivial⟩ ⟨rfl,rfl,rfl,rfl,trivial⟩ (.cons .head (.cons .head (.cons .head .nil))) ⟨Has.pure (⟨by dsimp only;omega,out_stepN hns hinv23.2 hx25 hx27⟩),trivial⟩ (bH.drop 2)
 have hc94:=Int.not_lt.1 (of_decide_eq_false hc94);refine cE<|bW<|bW<|cD<|bD<|sr<|sp2 hT ?_;refine nn<|bL ?_;have hlv:=out_end hinv23.2 (by omega);subst hlv;exact bI (LA,lcp) rfl (rv_tmp rfl) (.cons .head .nil) trivial rfl
def askO (b:Int)(o:OpV):Bool:=o.how==4&&o.k==b
section
variable {x : fY} {b : Int}
theorem asks_eq:oX x.c b=(x.ops.list.any (askO b) || x.buf==b):=by
 unfold oX;show((x.ops.list.map OpV.c).any _ || _)=_;rw [List.any_map];rfl
theorem any_bad{α:Type}{p:α→Bool}{l:List α}{i:Nat}{x:α}(hx:l[i]?=some x)(k:p x=true):l.any p=true:=List.any_eq_true.2 ⟨x,List.mem_of_getElem? hx,k⟩
theorem bIj{α:Type}{p:α→Bool}{l:List α}{i:Nat}{x:α}(h:(l.take i).any p=false)(hx:l[i]?=some x)(k:p x=false):(l.take (i+1)).any p=false:=by
 obtain⟨hi,e⟩:=List.getElem?_eq_some_iff.1 hx;rw [List.take_succ_eq_append_getElem hi,e,List.any_append,h];simp [k]
theorem any_full{α:Type}{p:α→Bool}{l:List α}{i:Nat}(h:(l.take i).any p=false)(hi:l.length≤i):l.any p=false:=by
 rwa [List.take_of_length_le hi] at h
theorem asks_yes{i:Nat}{o:OpV}(ho:x.ops.list[i]?=some o)(h4:o.how=4)(hk:o.k=b):Value.bool true= .bool (oX x.c b):=by
 rw [asks_eq,any_bad ho (by simp [askO,h4,hk])];rfl
theorem asks_end(h:x.ops.list.any (askO b)=false):Value.bool (x.buf==b)= .bool (oX x.c b):=by
 rw [asks_eq,h,Bool.false_or]
theorem askO_no{o:OpV}(h: ¬(o.how=4∧o.k=b)):askO b o=false:=by
 unfold askO;rw [Bool.and_eq_false_iff,beq_eq_false_iff_ne,beq_eq_false_iff_ne];omega
end
section
variable {c : gF} {b m : Nat} {fi la fi' la' : Int} {ak ak' : Bool} {x : fN} {u : lP}
def wF (c:gF)(b m:Nat)(fi la:Int)(ak:Bool):Prop:=fi=kL b m (c.steps.drop m) (-1)∧la=kP b m (c.steps.drop m) (-1)∧ak=nM b (c.steps.drop m)
theorem life_start(h:c.steps.length≤m):wF c b m (-1) (-1) false:=by
 unfold wF;rw [List.drop_of_length_le h];exact⟨rfl,rfl,rfl⟩
theorem pM{p:Nat}(hm:m=p+1)(h:wF c b m fi la ak)(hx:c.steps[p]?=some x)(h1:(x.buf=b∧fi'=p)∨(x.buf≠b∧fi'=fi))(h2:(oX x b=true∧ak=false∧la'=p∧ak'=true)∨(¬(oX x b=true∧ak=false)∧la'=la∧ak'=ak)):wF c b p fi' la' ak':=by
 subst hm;obtain⟨k1,k2,k3⟩:=h;unfold wF;rw [jX hx];refine⟨?_,?_,?_⟩
 ·rw [kL]
  rcases h1 with ⟨e,rfl⟩ | ⟨e,rfl⟩
  ·rw [if_pos e]
  ·rw [if_neg e,k1];rfl
 ·rw [kP]
  rcases h2 with ⟨e,e2,rfl,_⟩ | ⟨e,rfl,_⟩
  ·rw [if_pos e];rw [e2] at k3;exact(mN k3.symm).symm
  ·rw [k2]
   cases ha:ak with
   | true=>exact lastAsk_any (k3.symm.trans ha)
   | false=>
    have: ¬oX x b=true:=fun q=>e ⟨q,ha⟩;rw [if_neg this];rfl
 ·show _=(oX x b || nM b (c.steps.drop (p+1)));rw [←k3]
  rcases h2 with ⟨e,e2,_,rfl⟩ | ⟨e,_,rfl⟩
  ·rw [e];rfl
  ·cases ha:oX x b with
   | false=>rfl
   | true=>
    cases hk:ak' with
    | true=>rfl
    | false=>exact absurd ⟨ha,hk⟩ e
theorem life_none(h:wF c b m fi la ak)(hm:m=0)(h1:ak=false)(h2:c.outs.contains (b:Int)=false)(h3:u.input<0):nD c b u=⟨0,-1⟩:=by
 subst hm;obtain⟨_,_,k3⟩:=h;rw [h1] at k3;have k3:false=nM b c.steps:=k3;unfold nD;rw [←k3,h2,decide_eq_false (show ¬0≤u.input by omega)];rfl
theorem life_some(h:wF c b m fi la ak)(hm:m=0)(h1: ¬(ak=false∧c.outs.contains (b:Int)=false∧u.input<0)):nD c b u=⟨fi,if c.outs.contains (b:Int)=true then c.steps.length else la⟩:=by
 subst hm;obtain⟨k1,k2,k3⟩:=h;have k1:fi=kL b 0 c.steps (-1):=k1;have k2:la=kP b 0 c.steps (-1):=k2;have k3:ak=nM b c.steps:=k3;unfold nD;rw [if_neg,k1,k2];rw [←k3];intro e;rw [Bool.or_eq_false_iff,Bool.or_eq_false_iff,decide_eq_false_iff_not] at e;exact h1 ⟨e.1,e.2.1,by omega⟩
end
section
variable {l : List Int} {i : Nat} {z b : Int}
theorem cont_snoc(h:(l.take i).contains b=false)(hz:l[i]?=some z)(e:z≠b):(l.take (i+1)).contains b=false:=by
 obtain⟨hi,e1⟩:=List.getElem?_eq_some_iff.1 hz;rw [List.contains_eq_mem] at*;rw [decide_eq_false_iff_not] at*;rw [List.take_succ_eq_append_getElem hi,e1,List.mem_append];rintro(k | k)
 ·exact h k
 ·exact e (List.mem_singleton.1 k).symm
theorem cont_yes(hz:l[i]?=some z)(e:z=b):Value.bool true= .bool (l.contains b):=by
 subst e;rw [List.contains_eq_mem,decide_eq_true (List.mem_of_getElem? hz)]
theorem cont_no(h:(l.take i).contains b=false)(hi:l.length≤i):Value.bool false= .bool (l.contains b):=by
 rw [List.take_of_length_le hi] at h;rw [h]
end
section
variable {c : gM} {b m : Nat} {fi la : Int} {ak : Bool} {ub : iY}
theorem life_noneV(h:wF c.c b m fi la ak)(hm:m=0)(h1:ak=false)(h2:c.outs.list.contains (b:Int)=false)(h3:ub.input<0):nD c.c b ub.c=⟨0,-1⟩:=life_none h hm h1 h2 h3
theorem nV(h:wF c.c b m fi la ak)(hm:m=0)(h1: ¬(ak=false∧c.outs.list.contains (b:Int)=false∧ub.input<0)):nD c.c b ub.c=⟨fi,if c.outs.list.contains (b:Int)=true then (c.steps.list.length:Nat) else la⟩:=by
 have:=life_some (u:=ub.c) h hm h1;rw [this];show(⟨fi,if c.outs.list.contains (b:Int)=true then ((uI c.steps.list).length:Int) else la⟩:LifeC)=_;rw [dX]
end
theorem tL:(Tryz.prog.info? 55).bind (·.zero)=some (.agg #[.int .i64 0,.int .i64 0]):=by kernel_rfl
theorem dV(z0:Int)(z1:Int):Tryz.prog.built 55 [(0,.int .i64 z0),(1,.int .i64 z1)]=some #[.int .i64 z0,.int .i64 z1]:=by kernel_rfl
set_option maxRecDepth 100000 in
theorem bBp(x:fY)(b:Int):dG Tryz.prog 96 [.agg #[.int .i64 x.how,.int .i64 x.buf,.slice x.at_.addr x.at_.list.length x.at_.cap,.slice x.loops.addr x.loops.list.length x.loops.cap,.int .u8 x.fn,.slice x.ops.addr x.ops.list.length x.ops.cap],.int .i64 b] [] [oI x] (fun(_:Unit)=> .bool (oX x.c b)) (fun _=>[]) (fun _=>[]):=by
 have hT:=dA;refine cJ Tryz.func96 rfl Tryz.ntmps96 rfl ?_;intro β hM;refine bF<|bV (opsF_c (nY (Has.of mT0))) fun hoz=>?_;have hoz2:=hoz.2;refine cB (opE.sl (.slice x.ops.addr x.ops.list.length x.ops.cap) x.ops.list) (opsF_s (nY (Has.of mT0))) ?_;refine bB<|gC rfl rfl rfl rfl rfl rfl fun b1=>?_;refine sp hT ?_;refine nn<|bF<|sr<|sp hT ?_;refine nn<|bO<|cM (ι:=Nat) [(1,_),(2,_)] ⟨rfl,rfl,trivial⟩ (fun i=>[(5,.int .i64 (i:Nat))]) (fun _=>[]) (fun i=>[bP.pure (i≤x.ops.list.length∧(x.ops.list.take i).any (askO b)=false)]) (fun i=>x.ops.list.length-i) 0 ⟨rfl,trivial⟩ .nil ⟨Has.pure (⟨by omega,rfl⟩),trivial⟩ ?_;rintro i;refine bV (Has.of mT0) fun hinv2=>?_;refine bF<|sr<|sp2 hT ?_;refine ss (ldO hT (nF .head)) ?_;refine sp2 hT ?_;refine nn<|bN rfl (fun hc10=>?_) (fun hc10=>?_)
 ·have hc10:=of_decide_eq_true hc10;refine bJ<|bD<|bF<|bO<|sr<|sp hT ?_;refine ss (ldO hT (nF .head)) ?_;refine sp hT ?_
  obtain⟨x2,hx3⟩: ∃x',x.ops.list[i]?=some x':=⟨_,List.getElem?_eq_getElem (by omega)⟩
  refine ss (bG hT (k:=i) (bA (Has.of mT1)) rfl rfl rfl rfl rfl rfl rfl (by omega)) ?_;refine sp hT ?_;refine ss (bM hT (bX.knows (bA (Has.of mT1)) (k:=i) (x:=x2) hx3 0) rfl rfl rfl rfl rfl) ?_;refine sp2 hT ?_;refine bY (fun hg20=>?_) (fun hg20=>?_)
  ·have hg20:=eq_of_beq hg20;refine sp hT ?_;refine ss (ldO hT (nF .head)) ?_;refine sp hT ?_;refine ss (bG hT (k:=i) (bA (Has.of mT1)) rfl rfl rfl rfl rfl rfl rfl (by omega)) ?_;refine sp hT ?_;refine ss (bM hT (bX.knows (bA (Has.of mT1)) (k:=i) (x:=x2) hx3 1) rfl rfl rfl rfl rfl) ?_;refine sp3 hT ?_;refine nn<|bN rfl (fun hc29=>?_) (fun hc29=>?_)
   ·have hc29:=eq_of_beq hc29;refine sr<|sp hT ?_;refine nn<|bL<|bR<|bK<|bK<|bR<|bK ?_;exact bI () rfl (rv_tmp rfl) .nil trivial (asks_yes hx3 (by omega) (by omega))
   have hc29:=beq_eq_false_iff_ne.1 hc29;refine bJ<|bT<|bD<|bB<|sp2 hT ?_;refine bS (z':=(((i+1):Nat):Int)) (cG (by omega) (by omega)) ?_;refine sp hT ?_;refine nn ?_;exact bZ (i+1) (by omega) ⟨rfl,trivial⟩ ⟨rfl,rfl,trivial⟩ (.cons .head .nil) ⟨Has.pure (⟨by omega,bIj hinv2.2 hx3 (askO_no (by omega))⟩),trivial⟩ (bH.drop 1)
  have hg20:=beq_eq_false_iff_ne.1 hg20;refine sk4 ?_;refine sk4 ?_;refine sp hT ?_;refine nn<|cQ rfl rfl ?_;refine bJ<|bT<|bD<|bB<|sp2 hT ?_;refine bS (z':=(((i+1):Nat):Int)) (cG (by omega) (by omega)) ?_;refine sp hT ?_;refine nn ?_;exact bZ (i+1) (by omega) ⟨rfl,trivial⟩ ⟨rfl,rfl,trivial⟩ (.cons .head .nil) ⟨Has.pure (⟨by omega,bIj hinv2.2 hx3 (askO_no (by omega))⟩),trivial⟩ (bH.drop 1)
 have hc10:=Int.not_lt.1 (of_decide_eq_false hc10);refine cE<|bW<|bW<|cD<|bD<|sr<|sp hT ?_;refine ss (ldO hT (dE .head)) ?_;refine sp3 hT ?_;refine nn<|bL ?_;exact bI () rfl (rv_tmp rfl) .nil trivial (asks_end (any_full hinv2.2 (by omega)))
set_option maxRecDepth 100000 in
theorem out15_spec(c:gM)(b:Int)(hoz:c.outs.list.length≤64):dG Tryz.prog 97 [.agg #[.int .i64 c.vars,.slice c.bufs.addr c.bufs.list.length c.bufs.cap,.slice c.steps.addr c.steps.list.length c.steps.cap,.slice c.outs.addr c.outs.list.length c.outs.cap],.int .i64 b] [] [mF c] (fun(_:Unit)=> .bool (c.outs.list.contains b)) (fun _=>[]) (fun _=>[]):=by
 have hT:=dA;refine cJ Tryz.func97 rfl Tryz.ntmps97 rfl ?_;intro β hM;refine bF<|cB (iG.sl (.slice c.outs.addr c.outs.list.length c.outs.cap) c.outs.list) (yQ (yX (Has.of mT0))) ?_;refine bB<|gC rfl rfl rfl rfl rfl rfl fun b1=>?_;refine sp hT ?_;refine nn<|bF<|sr<|sp hT ?_;refine nn<|bO<|cM (ι:=Nat) [(1,_),(2,_)] ⟨rfl,rfl,trivial⟩ (fun i=>[(5,.int .i64 (i:Nat))]) (fun _=>[]) (fun i=>[bP.pure (i≤c.outs.list.length∧(c.outs.list.take i).contains b=false)]) (fun i=>c.outs.list.length-i) 0 ⟨rfl,trivial⟩ .nil ⟨Has.pure (⟨by omega,rfl⟩),trivial⟩ ?_;rintro i;refine bV (Has.of mT0) fun hinv2=>?_;refine bF<|sr<|sp2 hT ?_;refine ss (ldO hT (jJ .head)) ?_;refine sp2 hT ?_;refine nn<|bN rfl (fun hc10=>?_) (fun hc10=>?_)
 ·have hc10:=of_decide_eq_true hc10;refine bJ<|bD<|bF<|bO<|sr<|sp hT ?_;refine ss (ldO hT (jJ .head)) ?_;refine sp hT ?_
  obtain⟨x2,hx3⟩: ∃x',c.outs.list[i]?=some x':=⟨_,List.getElem?_eq_getElem (by omega)⟩
  refine ss (bG hT (k:=i) (bA (Has.of mT1)) rfl rfl rfl rfl rfl rfl rfl (by omega)) ?_;refine ss (bM hT (bX.knows (bA (Has.of mT1)) (k:=i) (x:=x2) hx3 0) rfl rfl rfl rfl rfl) ?_;refine sp2 hT ?_;refine nn<|bN rfl (fun hc19=>?_) (fun hc19=>?_)
  ·have hc19:=eq_of_beq hc19;refine sr<|sp hT ?_;refine nn<|bL<|bR<|bK<|bK<|bR<|bK ?_;exact bI () rfl (rv_tmp rfl) .nil trivial (cont_yes hx3 (by omega))
  have hc19:=beq_eq_false_iff_ne.1 hc19;refine bJ<|bT<|bD<|bB<|sp2 hT ?_;refine bS (z':=(((i+1):Nat):Int)) (cG (by omega) (by omega)) ?_;refine sp hT ?_;refine nn ?_;exact bZ (i+1) (by omega) ⟨rfl,trivial⟩ ⟨rfl,rfl,trivial⟩ (.cons .head .nil) ⟨Has.pure (⟨by omega,cont_snoc hinv2.2 hx3 (by omega)⟩),trivial⟩ (bH.drop 1)
 have hc10:=Int.not_lt.1 (of_decide_eq_false hc10);refine cE<|bW<|bW<|cD<|bD<|sr<|sp hT ?_;refine nn<|bL ?_;exact bI () rfl (rv_tmp rfl) .nil trivial (cont_no hinv2.2 (by omega))
set_option maxRecDepth 100000 in
theorem life15_spec(c:gM)(b:Nat)(ub:iY)(hb:c.bufs.list[b]?=some ub)(hsz:c.steps.list.length≤1024)(hoz:c.outs.list.length≤64):dG Tryz.prog 44 [.agg #[.int .i64 c.vars,.slice c.bufs.addr c.bufs.list.length c.bufs.cap,.slice c.steps.addr c.steps.list.length c.steps.cap,.slice c.outs.addr c.outs.list.length c.outs.cap],.int .i64 (b:Nat)] [] [mF c] (fun(_:Unit)=> .agg #[.int .i64 (nD c.c b ub.c).from_,.int .i64 (nD c.c b ub.c).to_]) (fun _=>[]) (fun _=>[]):=by
 have hT:=dA;generalize hR:nD c.c b ub.c=r;have hns:c.c.steps.length=c.steps.list.length:=dX _;have hbl:=(List.getElem?_eq_some_iff.1 hb).1;refine cJ Tryz.func44 rfl Tryz.ntmps44 rfl ?_;intro β hM;refine bF<|cB (sM.sl (.slice c.bufs.addr c.bufs.list.length c.bufs.cap) c.bufs.list) (jS (gP (Has.of mT0))) ?_;refine cB (rE.sl (.slice c.steps.addr c.steps.list.length c.steps.cap) c.steps.list) (nC (jR (Has.of mT1))) ?_;refine bB<|gC rfl rfl rfl rfl rfl rfl fun b1=>?_;refine dZ rfl rfl rfl rfl tL rfl fun b2=>?_;refine nn<|sr<|sp hT ?_;refine nn<|sr<|sp hT ?_;refine nn<|sr<|sp hT ?_;refine nn<|bF<|sr<|sp hT ?_;refine ss (ldO hT (kC kT1)) ?_;refine sp2 hT ?_;refine bS (oW (by omega) (by omega)) ?_;refine sp hT ?_;refine nn<|bO<|cM (ι:=Nat×Int×Int×Bool) [(1,_),(2,_),(4,_)] ⟨rfl,rfl,rfl,trivial⟩ (fun⟨m,fi,la,ak⟩=>[(5,.int .i64 fi),(6,.int .i64 la),(7,.bool ak),(8,.int .i64 ((m:Nat)-1:Int))]) (fun _=>[]) (fun⟨m,fi,la,ak⟩=>[bP.pure (m≤c.steps.list.length∧wF c.c b m fi la ak)]) (fun⟨m,fi,la,ak⟩=>m) (c.steps.list.length,-1,-1,false) ⟨rfl,rfl,rfl,rfl,trivial⟩ .nil ⟨Has.pure (⟨by omega,life_start (by omega)⟩),trivial⟩ ?_;rintro⟨m,fi,la,ak⟩;dsimp only;refine bV (Has.of mT0) fun hinv5=>?_;refine bF<|sr<|sp2 hT ?_;refine nn<|bN rfl (fun hc15=>?_) (fun hc15=>?_)
 ·have hc15:=of_decide_eq_true hc15;refine bJ<|bD<|bF<|bO<|bF<|bF ?_
  obtain⟨x3,hx4⟩: ∃x',c.steps.list[(m-1)]?=some x':=⟨_,List.getElem?_eq_getElem (by omega)⟩
  refine cB (oI x3) (Has.each (rS (jR (Has.of mT3))) (List.mem_of_getElem? hx4)) ?_;refine bB<|sp hT ?_;refine ss (ldO hT (kC kT1)) ?_;refine sp hT ?_;refine ss (bG hT (k:=(m-1)) (bA (Has.of mT2)) rfl rfl rfl rfl rfl rfl (by omega) (by omega)) ?_;refine sp hT ?_;refine ss (bM hT (bX.knows (bA (Has.of mT2)) (k:=(m-1)) (x:=x3) hx4 1) rfl rfl rfl rfl rfl) ?_;refine sp2 hT ?_;refine nn<|bN rfl (fun hc25=>?_) (fun hc25=>?_)
  ·have hc25:=eq_of_beq hc25;refine bB<|sp2 hT ?_;refine nn<|sr<|sp hT ?_;refine ss (ldO hT (kC kT1)) ?_;refine sp hT ?_;refine ss (bG hT (k:=(m-1)) (bA (Has.of mT2)) rfl rfl rfl rfl rfl rfl (by omega) (by omega)) ?_;refine ss (cN hT (bX.knows (bA (Has.of mT2)) (k:=(m-1)) (x:=x3) hx4 0) rfl rfl rfl rfl rfl) ?_;refine sp hT ?_;refine cP Tryz.func96 (bBp x3 (b:Nat)) rfl rfl .nil ⟨(Has.of mT0),trivial⟩ fun _=>?_;refine sp hT ?_;refine bY (fun hg34=>?_) (fun hg34=>?_)
   ·refine sp3 hT ?_;refine nn<|bN rfl (fun hc37=>?_) (fun hc37=>?_)
    ·have hc37:=gR hc37;refine sr<|sp2 hT ?_;refine nn<|bB<|sp hT ?_;refine fW<|bT<|bD<|bB<|sp2 hT ?_;refine bS (oW (by omega) (by omega)) ?_;refine bS (z':=((m-1:Nat):Int)-1) (by omega) ?_;refine sp hT ?_;refine nn ?_;exact bZ (m-1,_,_,_) (by dsimp only;omega) ⟨rfl,rfl,rfl,rfl,trivial⟩ ⟨rfl,rfl,rfl,trivial⟩ (.cons .head (.cons .head .nil)) ⟨Has.pure (⟨by dsimp only;omega,pM (show m=(m-1)+1 by omega) hinv5.2 (dM hx4) (.inl ⟨by show fY.buf _=_;simp_all,by dsimp only;omega⟩) (.inl ⟨by simp_all,by simp_all,by dsimp only;omega,rfl⟩)⟩),trivial⟩ (bH.drop 2)
    have hc37:=gS hc37;refine bJ<|bT<|bD<|bB<|sp2 hT ?_;refine bS (oW (by omega) (by omega)) ?_;refine bS (z':=((m-1:Nat):Int)-1) (by omega) ?_;refine sp hT ?_;refine nn ?_;exact bZ (m-1,_,_,_) (by dsimp only;omega) ⟨rfl,rfl,rfl,rfl,trivial⟩ ⟨rfl,rfl,rfl,trivial⟩ (.cons .head (.cons .head .nil)) ⟨Has.pure (⟨by dsimp only;omega,pM (show m=(m-1)+1 by omega) hinv5.2 (dM hx4) (.inl ⟨by show fY.buf _=_;simp_all,by dsimp only;omega⟩) (.inr ⟨by simp_all,rfl,rfl⟩)⟩),trivial⟩ (bH.drop 2)
   refine sk2 ?_;refine sp hT ?_;refine nn<|cQ rfl rfl ?_;refine bJ<|bT<|bD<|bB<|sp2 hT ?_;refine bS (oW (by omega) (by omega)) ?_;refine bS (z':=((m-1:Nat):Int)-1) (by omega) ?_;refine sp hT ?_;refine nn ?_;exact bZ (m-1,_,_,_) (by dsimp only;omega) ⟨rfl,rfl,rfl,rfl,trivial⟩ ⟨rfl,rfl,rfl,trivial⟩ (.cons .head (.cons .head .nil)) ⟨Has.pure (⟨by dsimp only;omega,pM (show m=(m-1)+1 by omega) hinv5.2 (dM hx4) (.inl ⟨by show fY.buf _=_;simp_all,by dsimp only;omega⟩) (.inr ⟨by simp_all,rfl,rfl⟩)⟩),trivial⟩ (bH.drop 2)
  have hc25:=beq_eq_false_iff_ne.1 hc25;refine bJ<|bD<|sr<|sp hT ?_;refine ss (ldO hT (kC kT1)) ?_;refine sp hT ?_;refine ss (bG hT (k:=(m-1)) (bA (Has.of mT2)) rfl rfl rfl rfl rfl rfl (by omega) (by omega)) ?_;refine ss (cN hT (bX.knows (bA (Has.of mT2)) (k:=(m-1)) (x:=x3) hx4 0) rfl rfl rfl rfl rfl) ?_;refine sp hT ?_;refine cP Tryz.func96 (bBp x3 (b:Nat)) rfl rfl .nil ⟨(Has.of mT0),trivial⟩ fun _=>?_;refine sp hT ?_;refine bY (fun hg34=>?_) (fun hg34=>?_)
  ·refine sp3 hT ?_;refine nn<|bN rfl (fun hc37=>?_) (fun hc37=>?_)
   ·have hc37:=gR hc37;refine sr<|sp2 hT ?_;refine nn<|bB<|sp hT ?_;refine fW<|bT<|bD<|bB<|sp2 hT ?_;refine bS (oW (by omega) (by omega)) ?_;refine bS (z':=((m-1:Nat):Int)-1) (by omega) ?_;refine sp hT ?_;refine nn ?_;exact bZ (m-1,_,_,_) (by dsimp only;omega) ⟨rfl,rfl,rfl,rfl,trivial⟩ ⟨rfl,rfl,rfl,trivial⟩ (.cons .head (.cons .head .nil)) ⟨Has.pure (⟨by dsimp only;omega,pM (show m=(m-1)+1 by omega) hinv5.2 (dM hx4) (.inr ⟨by show fY.buf _≠_;simp_all,rfl⟩) (.inl ⟨by simp_all,by simp_all,by dsimp only;omega,rfl⟩)⟩),trivial⟩ (bH.drop 2)
   have hc37:=gS hc37;refine bJ<|bT<|bD<|bB<|sp2 hT ?_;refine bS (oW (by omega) (by omega)) ?_;refine bS (z':=((m-1:Nat):Int)-1) (by omega) ?_;refine sp hT ?_;refine nn ?_;exact bZ (m-1,_,_,_) (by dsimp only;omega) ⟨rfl,rfl,rfl,rfl,trivial⟩ ⟨rfl,rfl,rfl,trivial⟩ (.cons .head (.cons .head .nil)) ⟨Has.pure (⟨by dsimp only;omega,pM (show m=(m-1)+1 by omega) hinv5.2 (dM hx4) (.inr ⟨by show fY.buf _≠_;simp_all,rfl⟩) (.inr ⟨by simp_all,rfl,rfl⟩)⟩),trivial⟩ (bH.drop 2)
  refine sk2 ?_;refine sp hT ?_;refine nn<|cQ rfl rfl ?_;refine bJ<|bT<|bD<|bB<|sp2 hT ?_;refine bS (oW (by omega) (by omega)) ?_;refine bS (z':=((m-1:Nat):Int)-1) (by omega) ?_;refine sp hT ?_;refine nn ?_;exact bZ (m-1,_,_,_) (by dsimp only;omega) ⟨rfl,rfl,rfl,rfl,trivial⟩ ⟨rfl,rfl,rfl,trivial⟩ (.cons .head (.cons .head .nil)) ⟨Has.pure (⟨by dsimp only;omega,pM (show m=(m-1)+1 by omega) hinv5.2 (dM hx4) (.inr ⟨by show fY.buf _≠_;simp_all,rfl⟩) (.inr ⟨by simp_all,rfl,rfl⟩)⟩),trivial⟩ (bH.drop 2)
 have hc15:=Int.not_le.1 (of_decide_eq_false hc15);refine cE<|bW<|bW<|cD<|bD<|sr<|ss (ldN hT (cS kT1)) ?_;refine sp hT ?_;refine cP Tryz.func97 (out15_spec c (b:Nat) (by omega)) rfl rfl .nil ⟨(Has.of mT3),trivial⟩ fun _=>?_;refine sp hT ?_;refine nn<|bF<|sr<|sp3 hT ?_;refine bY (fun hg44=>?_) (fun hg44=>?_)
 ·have hg44:=gR hg44;refine sp4 hT ?_;refine bY (fun hg48=>?_) (fun hg48=>?_)
  ·have hg48:=gR hg48;refine sp hT ?_;refine ss (ldO hT (dE kT1)) ?_;refine sp hT ?_;refine ss (bG hT (k:=b) (bA (Has.of mT2)) rfl rfl rfl rfl rfl rfl rfl (by omega)) ?_;refine sp hT ?_;refine ss (bM hT (bX.knows (bA (Has.of mT2)) (k:=b) (x:=ub) hb 1) rfl rfl rfl rfl rfl) ?_;refine sp2 hT ?_;refine nn<|bN rfl (fun hc56=>?_) (fun hc56=>?_)
   ·have hc56:=of_decide_eq_true hc56;refine sr<|ss (dR rfl rfl (dV _ _)) ?_;refine sto hT .head ?_;refine nn<|bL<|bK ?_;have hl:=life_noneV (ub:=ub) hinv5.2 (by omega) (by simp_all) (by simp_all) (by omega);exact bI () rfl (hJ hT (cS .head) rfl rfl rfl rfl) .nil trivial (by rw [←hR,hl])
   have hc56:=Int.not_lt.1 (of_decide_eq_false hc56);refine bJ<|bD<|bF<|sr<|sp hT ?_;refine nn<|bN rfl (fun hc58=>?_) (fun hc58=>?_)
   ·refine bB<|sp hT ?_;refine ss (ldO hT (kC kT1)) ?_;refine sp2 hT ?_;refine nn<|sr<|sp2 hT ?_;refine ss (dR rfl rfl (dV _ _)) ?_;refine sto hT .head ?_;refine nn<|bL ?_;have hl:=nV (ub:=ub) hinv5.2 (by omega) (by simp_all);exact bI () rfl (hJ hT (cS .head) rfl rfl rfl rfl) .nil trivial (by rw [←hR,hl];simp_all)
   refine bJ<|bD<|sr<|sp2 hT ?_;refine ss (dR rfl rfl (dV _ _)) ?_;refine sto hT .head ?_;refine nn<|bL ?_;have hl:=nV (ub:=ub) hinv5.2 (by omega) (by simp_all);exact bI () rfl (hJ hT (cS .head) rfl rfl rfl rfl) .nil trivial (by rw [←hR,hl];simp_all)
  have hg48:=gS hg48;refine sk4 ?_;refine sk3 ?_;refine sp hT ?_;refine nn<|cQ rfl rfl ?_;refine bJ<|bD<|bF<|sr<|sp hT ?_;refine nn<|bN rfl (fun hc58=>?_) (fun hc58=>?_)
  ·refine bB<|sp hT ?_;refine ss (ldO hT (kC kT1)) ?_;refine sp2 hT ?_;refine nn<|sr<|sp2 hT ?_;refine ss (dR rfl rfl (dV _ _)) ?_;refine sto hT .head ?_;refine nn<|bL ?_;have hl:=nV (ub:=ub) hinv5.2 (by omega) (by simp_all);exact bI () rfl (hJ hT (cS .head) rfl rfl rfl rfl) .nil trivial (by rw [←hR,hl];simp_all)
  refine bJ<|bD<|sr<|sp2 hT ?_;refine ss (dR rfl rfl (dV _ _)) ?_;refine sto hT .head ?_;refine nn<|bL ?_;have hl:=nV (ub:=ub) hinv5.2 (by omega) (by simp_all);exact bI () rfl (hJ hT (cS .head) rfl rfl rfl rfl) .nil trivial (by rw [←hR,hl];simp_all)
 have hg44:=gS hg44;refine sk2 ?_;refine sp2 hT ?_;refine sk4 ?_;refine sk3 ?_;refine sp hT ?_;refine nn<|cQ rfl rfl ?_;refine bJ<|bD<|bF<|sr<|sp hT ?_;refine nn<|bN rfl (fun hc58=>?_) (fun hc58=>?_)
 ·refine bB<|sp hT ?_;refine ss (ldO hT (kC kT1)) ?_;refine sp2 hT ?_;refine nn<|sr<|sp2 hT ?_;refine ss (dR rfl rfl (dV _ _)) ?_;refine sto hT .head ?_;refine nn<|bL ?_;have hl:=nV (ub:=ub) hinv5.2 (by omega) (by simp_all);exact bI () rfl (hJ hT (cS .head) rfl rfl rfl rfl) .nil trivial (by rw [←hR,hl];simp_all)
 refine bJ<|bD<|sr<|sp2 hT ?_;refine ss (dR rfl rfl (dV _ _)) ?_;refine sto hT .head ?_;refine nn<|bL ?_;have hl:=nV (ub:=ub) hinv5.2 (by omega) (by simp_all);exact bI () rfl (hJ hT (cS .head) rfl rfl rfl rfl) .nil trivial (by rw [←hR,hl];simp_all)
theorem at_app_life{β:fR}{n:Nat}{Γ:Env}{H:List bQ}{F:List bP}{Q:Exit→Act→World→Prop}{ops:Array Oper}{rest:List Oper}{o:Oper}{d:Nat}{x y:Operand}{c q:Nat}{v:Value}{A:Option Addr}{xs ys:List dQ}{H':List bQ}(hH:dS H (iO.row v 55 xs) H')(hr:bX β H F iO A ys)(hg:o.guard=none)
  (ho:o.op= .call {callee:= .builtin .append,args:= #[x,y],argTypes:= #[48,48]}) (hd:o.dst=some d) (hn:Nat.blt d n=true)
  (hx:Γ.ev x=some v) (hy:Γ.ev y=some (.slice A q c)) (hq:q=ys.length) (hl:xs.length+ys.length≤8796093022208)
  (k: ∀A' cap',At β n ((d,.slice A' (xs++ys).length cap')::Γ) (iO.row (.slice A' (xs++ys).length cap') 55 (xs++ys)::H') F (wpList Tryz.prog ops Q rest)):At β n Γ H F (wpList Tryz.prog ops Q (o::rest)):=by
 obtain⟨i,hi,hz,hs,hb⟩:=bEt;exact kG hH hr hg ho hd hn Tryz.underlying48 hi hz hs hb rfl hx hy hq (by omega) (by decide) k
def tO (c:gM):List dQ:=if gH c.c=true then lv (rZ c.c) else []
theorem livesR_len{c:gF}:(rZ c).length=c.bufs.length:=List.length_mapIdx
section
variable {c : gM} {i : Nat} {ub : iY} {ls : List dQ}
theorem livesR_at(hb:c.bufs.list[i]?=some ub):(lv (rZ c.c))[i]?=some ⟨(nD c.c i ub.c).from_,(nD c.c i ub.c).to_⟩:=by
 unfold lv rZ;rw [List.getElem?_map,List.getElem?_mapIdx,show c.c.bufs[i]?=some ub.c from cV hb];rfl
theorem lives_snoc(h:ls=(lv (rZ c.c)).take i)(hb:c.bufs.list[i]?=some ub):ls++[⟨(nD c.c i ub.c).from_,(nD c.c i ub.c).to_⟩]=(lv (rZ c.c)).take (i+1):=by
 subst h;rw [List.take_add_one,livesR_at hb];rfl
end
set_option maxRecDepth 100000 in
theorem Lives15_spec(c:gM):dG Tryz.prog 19 [.agg #[.int .i64 c.vars,.slice c.bufs.addr c.bufs.list.length c.bufs.cap,.slice c.steps.addr c.steps.list.length c.steps.cap,.slice c.outs.addr c.outs.list.length c.outs.cap]] [] [mF c] (fun(x:Option Addr×Nat)=> .tuple #[.slice x.1 (tO c).length x.2,.int .i64 (if gH c.c=true then 0 else 100)]) (fun _=>[]) (fun(x:Option Addr×Nat)=>[iO.sl (.slice x.1 (tO c).length x.2) (tO c)]):=by
 have hT:=dA;generalize hV:tO c=V;have hnb:c.c.bufs.length=c.bufs.list.length:=dL _;have hns:c.c.steps.length=c.steps.list.length:=dX _;have hno:c.c.outs.length=c.outs.list.length:=rfl;refine cJ Tryz.func19 rfl Tryz.ntmps19 rfl ?_;intro β hM;refine bF<|cB (sM.sl (.slice c.bufs.addr c.bufs.list.length c.bufs.cap) c.bufs.list) (jS (gP (Has.of mT0))) ?_;refine bB<|gC rfl rfl rfl rfl rfl rfl fun b1=>?_;refine sp2 hT ?_;refine nn<|bF<|sr<|ss (ldN hT (cS .head)) ?_;refine cP Tryz.func33 (sI c) rfl rfl .nil ⟨(Has.of mT1),trivial⟩ fun _=>?_;refine sp hT ?_;refine nn<|bN rfl (fun hc8=>?_) (fun hc8=>?_)
 ·have hc8:=gR hc8;refine sr<|sp2 hT ?_;refine nn<|bL<|bK ?_;have hr:gH c.c=false:=by simp_all
  obtain rfl:V=[]:=by rw [←hV];simp [tO,hr]
  exact gD (none,0) rfl (rv_tmp rfl) (rv_tmp rfl) .nil ⟨nil_pol,trivial⟩ (by rw [hr];rfl)
 have hc8:=gS hc8;refine bJ<|bD<|sr<|sp hT ?_;refine nn<|bF<|sr<|sp hT ?_;refine nn<|bO<|dY (t:=55) iO ?_;have hr:gH c.c=true:=by simp_all
 obtain⟨hbz,hst,hou⟩:=oN hr;refine cM (ι:=Nat×List dQ×Option Addr×Nat) [(1,_)] ⟨rfl,trivial⟩ (fun⟨i,ls,LA,lp⟩=>[(4,.slice LA ls.length lp),(5,.int .i64 (i:Nat))]) (fun⟨i,ls,LA,lp⟩=>[iO.row (.slice LA ls.length lp) 55 ls]) (fun⟨i,ls,LA,lp⟩=>[bP.pure (i≤c.bufs.list.length∧ls=(lv (rZ c.c)).take i)]) (fun⟨i,ls,LA,lp⟩=>c.bufs.list.length-i) (0,[],none,0) ⟨rfl,rfl,trivial⟩ (.cons .head .nil) ⟨Has.pure (⟨by omega,rfl⟩),trivial⟩ ?_;rintro⟨i,ls,LA,lp⟩;dsimp only;refine bV (Has.of mT0) fun hinv5=>?_;have hll:ls.length≤i:=by rw [hinv5.2];exact List.length_take_le ..
 refine bF<|sr<|sp2 hT ?_;refine ss (ldO hT (dE kT1)) ?_;refine sp2 hT ?_;refine nn<|bN rfl (fun hc13=>?_) (fun hc13=>?_)
 ·have hc13:=of_decide_eq_true hc13;refine bJ<|bD<|bF<|bO ?_
  obtain⟨x2,hx3⟩: ∃x',c.bufs.list[i]?=some x':=⟨_,List.getElem?_eq_getElem (by omega)⟩
  refine bB<|sp hT ?_;refine ss (ldN hT (cS kT1)) ?_;refine sp hT ?_;refine cP Tryz.func44 (life15_spec c i x2 hx3 (by omega) (by omega)) rfl rfl .nil ⟨(Has.of mT2),trivial⟩ fun _=>?_;refine bBg (m:=⟨(nD c.c i x2.c).from_,(nD c.c i x2.c).to_⟩) rfl rfl rfl rfl rfl fun b4=>?_;refine at_app_life kT1 (gT .head rfl) rfl rfl rfl rfl rfl rfl rfl (by simp;omega) fun A5 c6=>?_;refine sp hT ?_;refine fW<|bT<|bD<|bB<|sp2 hT ?_;refine bS (z':=(((i+1):Nat):Int)) (cG (by omega) (by omega)) ?_;refine sp hT ?_;refine nn ?_;exact bZ (i+1,(ls++[⟨(nD c.c i x2.c).from_,(nD c.c i x2.c).to_⟩]),A5,c6) (by dsimp only;omega) ⟨rfl,rfl,trivial⟩ ⟨rfl,trivial⟩ (.cons .head (.cons kT1 .nil)) ⟨Has.pure (⟨by dsimp only;omega,lives_snoc hinv5.2 hx3⟩),trivial⟩ (bH.drop 1)
 have hc13:=Int.not_lt.1 (of_decide_eq_false hc13);refine cE<|bW<|bW<|cD<|bD<|sr<|sp3 hT ?_;refine nn<|bL ?_;obtain rfl:ls=V:=by rw [hinv5.2,←hV,List.take_of_length_le (by rw [uN,livesR_len];omega)];simp [tO,hr]
 refine hY .head ?_;exact gD (_,_) rfl (rv_tmp rfl) (rv_tmp rfl) .nil ⟨(Has.of mT0),trivial⟩ (by rw [hr];rfl)
section
variable {α : Type} {x y : α}
theorem bAh{a b:List α}{k:Nat}(h:a.take k=b.take k)(hx:a[k]?=some x)(hy:b[k]?=some y)(e:x=y):a.take (k+1)=b.take (k+1):=by
 subst e;rw [List.take_add_one,List.take_add_one,h,hx,hy]
theorem bEg{a b:List α}{k:Nat}(h:a.take k=b.take k)(ha:a.length≤k)(hb:b.length≤k):a=b:=by
 rw [List.take_of_length_le ha,List.take_of_length_le hb] at h;exact h
theorem bFv{a b:List α}{k:Nat}(hx:a[k]?=some x)(hy:b[k]?=some y)(e:x≠y):a≠b:=by
 rintro rfl;rw [hx] at hy;exact e (Option.some.inj hy)
end
set_option maxRecDepth 100000 in
theorem jO(p q:PolV)(hl:p.list.length≤140737488355328):dG Tryz.prog 27 [.slice p.addr p.list.length p.cap,.slice q.addr q.list.length q.cap] [] [cZ.sl (.slice p.addr p.list.length p.cap) p.list,cZ.sl (.slice q.addr q.list.length q.cap) q.list] (fun(_:Unit)=> .bool (decide (p.list=q.list))) (fun _=>[]) (fun _=>[]):=by
 have hT:=dA;refine cJ Tryz.func27 rfl Tryz.ntmps27 rfl ?_;intro β hM;refine sr<|sp hT ?_;refine nn<|bF<|sr<|sp4 hT ?_;refine sp hT ?_;refine nn<|bN rfl (fun hc10=>?_) (fun hc10=>?_)
 ·have hc10:=bne_iff_ne.1 hc10;refine sr<|sp hT ?_;refine nn<|bL<|bK ?_;exact bI () rfl (rv_tmp rfl) .nil trivial (zZ (fun e=>by have:=congrArg List.length e;omega))
 have hc10:=bne_eq_false_iff_eq.1 hc10;refine bJ<|bD<|bF<|sr<|sp hT ?_;refine nn<|bO<|cM (ι:=Nat) [(0,_),(1,_)] ⟨rfl,rfl,trivial⟩ (fun i=>[(5,.int .i64 (i:Nat))]) (fun _=>[]) (fun i=>[bP.pure (i≤p.list.length∧p.list.take i=q.list.take i)]) (fun i=>p.list.length-i) 0 ⟨rfl,trivial⟩ .nil ⟨Has.pure (⟨by omega,rfl⟩),trivial⟩ ?_;rintro i;refine bV (Has.of mT0) fun hinv4=>?_;refine bF<|sr<|sp4 hT ?_;refine nn<|bN rfl (fun hc14=>?_) (fun hc14=>?_)
 ·have hc14:=of_decide_eq_true hc14;refine bJ<|bD<|bF<|bO<|bF<|dN _ _ [(true,0),(true,1),(true,2),(true,3),(true,4),(true,5),(true,6),(true,7),(true,8)] dP (by decide+kernel) .nil bH.self ?_;refine puM hT ?_;refine puM hT ?_
  obtain⟨x1,hx2⟩: ∃x',p.list[i]?=some x':=⟨_,List.getElem?_eq_getElem (by omega)⟩
  refine stM rfl (bG hT (k:=i) (bA (Has.of mT1)) rfl rfl rfl rfl rfl rfl rfl (by omega)) ?_;refine stM rfl (cN hT (bX.knows (bA (Has.of mT1)) (k:=i) (x:=x1) hx2 0) rfl rfl rfl rfl rfl) ?_;refine puM hT ?_;refine puM hT ?_
  obtain⟨x3,hx4⟩: ∃x',q.list[i]?=some x':=⟨_,List.getElem?_eq_getElem (by omega)⟩
  refine stM rfl (bG hT (k:=i) (bA (Has.of mT2)) rfl rfl rfl rfl rfl rfl rfl (by omega)) ?_;refine stM rfl (cN hT (bX.knows (bA (Has.of mT2)) (k:=i) (x:=x3) hx4 0) rfl rfl rfl rfl rfl) ?_;refine stM rfl (yO x1 x3 rfl rfl rfl) ?_;refine cO<|bD<|bN rfl (fun hc25=>?_) (fun hc25=>?_)
  ·refine sr<|sp hT ?_;refine nn<|bL<|bR<|bK<|bK<|bR<|bK ?_;exact bI () rfl (rv_tmp rfl) .nil trivial (zZ (bFv hx2 hx4 (mono_t ‹_›)))
  refine bJ<|bT<|bD<|bB<|sp2 hT ?_;refine bS (z':=(((i+1):Nat):Int)) (cG (by omega) (by omega)) ?_;refine sp hT ?_;refine nn ?_;exact bZ (i+1) (by omega) ⟨rfl,trivial⟩ ⟨rfl,rfl,trivial⟩ .nil ⟨Has.pure (⟨by omega,bAh hinv4.2 hx2 hx4 (mono_f ‹_›)⟩),trivial⟩ (bH.drop 1)
 have hc14:=Int.not_lt.1 (of_decide_eq_false hc14);refine cE<|bW<|bW<|cD<|bD<|sr<|sp hT ?_;refine nn<|bL ?_;exact bI () rfl (rv_tmp rfl) .nil trivial (eqT_of (bEg hinv4.2 (by omega) (by omega)))
set_option maxRecDepth 100000 in
theorem bBq(p q:PolV)(hl:p.list.length≤140737488355328):dG Tryz.prog 100 [.slice p.addr p.list.length p.cap,.slice q.addr q.list.length q.cap] [] [cZ.sl (.slice p.addr p.list.length p.cap) p.list,cZ.sl (.slice q.addr q.list.length q.cap) q.list] (fun(_:Unit)=> .bool (decide (p.list=q.list))) (fun _=>[]) (fun _=>[]):=by
 have hT:=dA;refine cJ Tryz.func100 rfl Tryz.ntmps100 rfl ?_;intro β hM;refine sr<|sp hT ?_;refine nn<|bF<|sr<|sp4 hT ?_;refine sp hT ?_;refine nn<|bN rfl (fun hc10=>?_) (fun hc10=>?_)
 ·have hc10:=bne_iff_ne.1 hc10;refine sr<|sp hT ?_;refine nn<|bL<|bK ?_;exact bI () rfl (rv_tmp rfl) .nil trivial (zZ (fun e=>by have:=congrArg List.length e;omega))
 have hc10:=bne_eq_false_iff_eq.1 hc10;refine bJ<|bD<|bF<|sr<|sp3 hT ?_;refine nn<|bO<|cM (ι:=Nat) [(0,_),(1,_),(12,_)] ⟨rfl,rfl,rfl,trivial⟩ (fun i=>[(13,.int .i64 (i:Nat))]) (fun _=>[]) (fun i=>[bP.pure (i≤p.list.length∧p.list.take i=q.list.take i)]) (fun i=>p.list.length-i) 0 ⟨rfl,trivial⟩ .nil ⟨Has.pure (⟨by omega,rfl⟩),trivial⟩ ?_;rintro i;refine bV (Has.of mT0) fun hinv4=>?_;refine sr<|sp hT ?_;refine nn<|bF<|bN rfl (fun hc14=>?_) (fun hc14=>?_)
 ·have hc14:=of_decide_eq_true hc14;refine bJ<|bD<|bF<|bO<|sr<|sp2 hT ?_;refine nn<|bF<|dN _ _ [(true,0),(true,1),(true,2),(true,3),(true,4),(true,5),(true,6),(true,7),(true,8)] dP (by decide+kernel) .nil bH.self ?_;refine puM hT ?_;refine puM hT ?_
  obtain⟨x1,hx2⟩: ∃x',p.list[i]?=some x':=⟨_,List.getElem?_eq_getElem (by omega)⟩
  refine stM rfl (bG hT (k:=i) (bA (Has.of mT1)) rfl rfl rfl rfl rfl rfl rfl (by omega)) ?_;refine stM rfl (cN hT (bX.knows (bA (Has.of mT1)) (k:=i) (x:=x1) hx2 0) rfl rfl rfl rfl rfl) ?_;refine puM hT ?_;refine puM hT ?_
  obtain⟨x3,hx4⟩: ∃x',q.list[i]?=some x':=⟨_,List.getElem?_eq_getElem (by omega)⟩
  refine stM rfl (bG hT (k:=i) (bA (Has.of mT2)) rfl rfl rfl rfl rfl rfl rfl (by omega)) ?_;refine stM rfl (cN hT (bX.knows (bA (Has.of mT2)) (k:=i) (x:=x3) hx4 0) rfl rfl rfl rfl rfl) ?_;refine stM rfl (yO x1 x3 rfl rfl rfl) ?_;refine cO<|bD<|bN rfl (fun hc24=>?_) (fun hc24=>?_)
  ·refine sr<|sp hT ?_;refine nn<|bL<|bR<|bK<|bK<|bR<|bK ?_;exact bI () rfl (rv_tmp rfl) .nil trivial (zZ (bFv hx2 hx4 (mono_t ‹_›)))
  refine bJ<|bT<|bD<|bB<|sp hT ?_;refine bS (z':=(((i+1):Nat):Int)) (cG (by omega) (by omega)) ?_;refine sp hT ?_;refine nn ?_;exact bZ (i+1) (by omega) ⟨rfl,trivial⟩ ⟨rfl,rfl,rfl,trivial⟩ .nil ⟨Has.pure (⟨by omega,bAh hinv4.2 hx2 hx4 (mono_f ‹_›)⟩),trivial⟩ (bH.drop 1)
 have hc14:=Int.not_lt.1 (of_decide_eq_false hc14);refine cE<|bW<|bW<|cD<|bD<|sr<|sp hT ?_;refine nn<|bL ?_;exact bI () rfl (rv_tmp rfl) .nil trivial (eqT_of (bEg hinv4.2 (by omega) (by omega)))
set_option maxRecDepth 100000 in
theorem full1_spec(p q:PolV)(hl:p.list.length≤140737488355328):dG Tryz.prog 99 [.slice p.addr p.list.length p.cap,.slice q.addr q.list.length q.cap] [] [cZ.sl (.slice p.addr p.list.length p.cap) p.list,cZ.sl (.slice q.addr q.list.length q.cap) q.list] (fun(_:Unit)=> .bool (decide (p.list=q.list))) (fun _=>[]) (fun _=>[]):=by
 have hT:=dA;refine cJ Tryz.func99 rfl Tryz.ntmps99 rfl ?_;intro β hM;refine sr<|sp hT ?_;refine nn<|sr<|sp2 hT ?_;refine cP Tryz.func100 (bBq p q hl) rfl rfl .nil ⟨(Has.of mT0),(Has.of mT1),trivial⟩ fun _=>?_;refine sp hT ?_;refine nn<|bL ?_;exact bI () rfl (rv_tmp rfl) .nil trivial (rfl)
set_option maxRecDepth 100000 in
theorem bCg(A B:Option Addr)(ca cb:Nat)(a b:List PolV)(hl:a.length≤140737488355328):dG Tryz.prog 98 [.slice A a.length ca,.slice B b.length cb,.func (.func 99) #[] #[]] [] [fF.sl (.slice A a.length ca) a,tI a,fF.sl (.slice B b.length cb) b,tI b] (fun(_:Unit)=> .bool (decide (polsL a=polsL b))) (fun _=>[]) (fun _=>[]):=by
 have hT:=dA;refine cJ Tryz.func98 rfl Tryz.ntmps98 rfl ?_;intro β hM;refine sr<|sp hT ?_;refine nn<|bF<|sr<|sp4 hT ?_;refine sp hT ?_;refine nn<|bN rfl (fun hc14=>?_) (fun hc14=>?_)
 ·have hc14:=bne_iff_ne.1 hc14;refine sr<|sp hT ?_;refine nn<|bL<|bK ?_;exact bI () rfl (rv_tmp rfl) .nil trivial (zZ (fun e=>by have:=congrArg List.length e;rw [cI,cI] at this;omega))
 have hc14:=bne_eq_false_iff_eq.1 hc14;refine bJ<|bD<|bF<|sr<|sp3 hT ?_;refine nn<|bO<|cM (ι:=Nat) [(1,_),(2,_),(15,_),(16,_)] ⟨rfl,rfl,rfl,rfl,trivial⟩ (fun i=>[(17,.int .i64 (i:Nat))]) (fun _=>[]) (fun i=>[bP.pure (i≤a.length∧(polsL a).take i=(polsL b).take i)]) (fun i=>a.length-i) 0 ⟨rfl,trivial⟩ .nil ⟨Has.pure (⟨by omega,rfl⟩),trivial⟩ ?_;rintro i;refine bV (Has.of mT0) fun hinv4=>?_;refine sr<|sp hT ?_;refine nn<|bF<|bN rfl (fun hc18=>?_) (fun hc18=>?_)
 ·have hc18:=of_decide_eq_true hc18;refine bJ<|bD<|bF<|bO<|sr<|sp hT ?_
  obtain⟨x1,hx2⟩: ∃x',a[i]?=some x':=⟨_,List.getElem?_eq_getElem (by omega)⟩
  refine ss (bG hT (k:=i) (bA (Has.of mT1)) rfl rfl rfl rfl rfl rfl rfl (by omega)) ?_;refine ss (bM hT (bX.knows (bA (Has.of mT1)) (k:=i) (x:=x1) hx2 0) rfl rfl rfl rfl rfl) ?_;refine sp2 hT ?_;refine nn<|sr<|sp2 hT ?_
  obtain⟨x3,hx4⟩: ∃x',b[i]?=some x':=⟨_,List.getElem?_eq_getElem (by omega)⟩
  refine ss (bG hT (k:=i) (bA (Has.of mT3)) rfl rfl rfl rfl rfl rfl rfl (by omega)) ?_;refine ss (bM hT (bX.knows (bA (Has.of mT3)) (k:=i) (x:=x3) hx4 0) rfl rfl rfl rfl rfl) ?_;refine sp hT ?_;refine nn<|sr<|sp3 hT ?_;refine bV (dJ (Has.each (Has.of mT2) (List.mem_of_getElem? hx2))) fun hxl=>?_;refine oG (cA Tryz.func99 rfl rfl) (full1_spec x1 x3 hxl) rfl rfl rfl rfl rfl rfl rfl .nil ⟨dI (Has.each (Has.of mT2) (List.mem_of_getElem? hx2)),dI (Has.each (Has.of mT4) (List.mem_of_getElem? hx4)),trivial⟩ fun _=>?_;refine sp hT ?_;refine nn<|bN rfl (fun hc30=>?_) (fun hc30=>?_)
  ·have hc30:=gR hc30;refine sr<|sp hT ?_;refine nn<|bL<|bR<|bK<|bK<|bR<|bK ?_;exact bI () rfl (rv_tmp rfl) .nil trivial (zZ (bFv (fP hx2) (fP hx4) (of_decide_eq_false (by simpa using (by assumption:(!decide _)=true)))))
  have hc30:=gS hc30;refine bJ<|bT<|bD<|bB<|sp hT ?_;refine bS (z':=(((i+1):Nat):Int)) (cG (by omega) (by omega)) ?_;refine sp hT ?_;refine nn ?_;exact bZ (i+1) (by omega) ⟨rfl,trivial⟩ ⟨rfl,rfl,rfl,rfl,trivial⟩ .nil ⟨Has.pure (⟨by omega,bAh hinv4.2 (fP hx2) (fP hx4) (of_decide_eq_true (by simpa using (by assumption:(!decide _)=false)))⟩),trivial⟩ (bH.drop 1)
 have hc18:=Int.not_lt.1 (of_decide_eq_false hc18);refine cE<|bW<|bW<|cD<|bD<|sr<|sp hT ?_;refine nn<|bL ?_;exact bI () rfl (rv_tmp rfl) .nil trivial (eqT_of (bEg hinv4.2 (by rw [cI];omega) (by rw [cI];omega)))
end Go.Proofs.YtofjmphlpdhohaaGreatDoor
