/- Texts of one proof, one behind the other: TysC, LawC, RVars, Bulk, MeanVarsW. -/
import Derived.Test.YtbgdphbebhjpiaaGreatDoorM10
import Derived.Test.YtbgdphbebhjpiaaGreatDoorM15
import Derived.Test.YtbgdphbebhjpiaaGreatDoorM14
import Derived.Test.YtbgdphbebhjpiaaGreatDoorRows
namespace Go.Proofs.YtbgdphbebhjpiaaGreatDoor
open Go.RowKit Go.ChangeShapes Go.WideShapes
structure CaseV where
  p:ProgV
  dims:(Sl Int)
  ins:(Sl ArrV)
  deriving Inhabited
def caseT:Tab:=[(3,⟨.int .i64,1⟩),(2,⟨.int .i64,1⟩),(5,⟨.int .u8,1⟩),(9,⟨.string,1⟩),(4,⟨.bool,1⟩),(50,⟨.int .u8,1⟩),(34,⟨.int .i64,1⟩),(30,⟨.slice 2,1⟩),(27,⟨.slice 9,1⟩),(104,⟨.struct [(3,0),(3,1),(9,2),(2,3)],4⟩),(97,⟨.slice 104,1⟩),(36,⟨.struct [(3,0),(34,1)],2⟩),(63,⟨.struct [(9,0),(2,1)],2⟩),(59,⟨.slice 63,1⟩),(61,⟨.struct [(9,0),(3,1),(59,2)],3⟩),(22,⟨.slice 61,1⟩),(52,⟨.struct [(3,0),(3,1),(50,2),(9,3),(30,4)],5⟩),(47,⟨.slice 52,1⟩),(49,⟨.struct [(9,0),(3,1),(47,2)],3⟩),(23,⟨.slice 49,1⟩),(25,⟨.struct [(22,0),(23,1)],2⟩),(102,⟨.struct [(97,0),(3,1),(3,2)],3⟩),(42,⟨.struct [(30,0),(30,1)],2⟩),(31,⟨.slice 42,1⟩),(189,⟨.slice 30,1⟩),(33,⟨.struct [(25,0),(30,2),(31,3)],4⟩),(100,⟨.other,1⟩),(208,⟨.slice 1,1⟩),(1,⟨.other,1⟩),(196,⟨.other,1⟩),(80,⟨.other,1⟩),(247,⟨.other,1⟩),(248,⟨.slice 247,1⟩),(243,⟨.int .u64,1⟩),(78,⟨.map 9 4,1⟩),(85,⟨.map 9 42,1⟩),(244,⟨.other,1⟩),(246,⟨.struct [(244,0),(34,1)],2⟩),(87,⟨.struct [(85,0),(3,1)],2⟩),(44,⟨.array 4 9,4⟩)]
theorem caseT_ok:fS Tryz.prog caseT:=vC.ok
  ⟨⟨by rw [Tryz.underlying3];rfl,by kernel_rfl⟩,
    ⟨by rw [Tryz.underlying2];rfl,by kernel_rfl⟩,
    ⟨by rw [Tryz.underlying5];rfl,by kernel_rfl⟩,
    ⟨by rw [Tryz.underlying9];rfl,by kernel_rfl⟩,
    ⟨by rw [Tryz.underlying4];rfl,by kernel_rfl⟩,
    ⟨by rw [Tryz.underlying50];rfl,by kernel_rfl⟩,
    ⟨by rw [Tryz.underlying34];rfl,by kernel_rfl⟩,
    ⟨by rw [Tryz.underlying30];rfl,by kernel_rfl⟩,
    ⟨by rw [Tryz.underlying27];rfl,by kernel_rfl⟩,
    ⟨by rw [Tryz.underlying104];rfl,by kernel_rfl⟩,
    ⟨by rw [Tryz.underlying97];rfl,by kernel_rfl⟩,
    ⟨by rw [Tryz.underlying36];rfl,by kernel_rfl⟩,
    ⟨by rw [Tryz.underlying63];rfl,by kernel_rfl⟩,
    ⟨by rw [Tryz.underlying59];rfl,by kernel_rfl⟩,
    ⟨by rw [Tryz.underlying61];rfl,by kernel_rfl⟩,
    ⟨by rw [Tryz.underlying22];rfl,by kernel_rfl⟩,
    ⟨by rw [Tryz.underlying52];rfl,by kernel_rfl⟩,
    ⟨by rw [Tryz.underlying47];rfl,by kernel_rfl⟩,
    ⟨by rw [Tryz.underlying49];rfl,by kernel_rfl⟩,
    ⟨by rw [Tryz.underlying23];rfl,by kernel_rfl⟩,
    ⟨by rw [Tryz.underlying25];rfl,by kernel_rfl⟩,
    ⟨by rw [Tryz.underlying102];rfl,by kernel_rfl⟩,
    ⟨by rw [Tryz.underlying42];rfl,by kernel_rfl⟩,
    ⟨by rw [Tryz.underlying31];rfl,by kernel_rfl⟩,
    ⟨by rw [Tryz.underlying189];rfl,by kernel_rfl⟩,
    ⟨by rw [Tryz.underlying33];rfl,by kernel_rfl⟩,
    ⟨by rw [Tryz.underlying100];rfl,by kernel_rfl⟩,
    ⟨by rw [Tryz.underlying208];rfl,by kernel_rfl⟩,
    ⟨by rw [Tryz.underlying1];rfl,by kernel_rfl⟩,
    ⟨by rw [Tryz.underlying196];rfl,by kernel_rfl⟩,
    ⟨by rw [Tryz.underlying80];rfl,by kernel_rfl⟩,
    ⟨by rw [Tryz.underlying247];rfl,by kernel_rfl⟩,
    ⟨by rw [Tryz.underlying248];rfl,by kernel_rfl⟩,
    ⟨by rw [Tryz.underlying243];rfl,by kernel_rfl⟩,
    ⟨by rw [Tryz.underlying78];rfl,by kernel_rfl⟩,
    ⟨by rw [Tryz.underlying85];rfl,by kernel_rfl⟩,
    ⟨by rw [Tryz.underlying244];rfl,by kernel_rfl⟩,
    ⟨by rw [Tryz.underlying246];rfl,by kernel_rfl⟩,
    ⟨by rw [Tryz.underlying87];rfl,by kernel_rfl⟩,
    ⟨by rw [Tryz.underlying44];rfl,by kernel_rfl⟩,trivial⟩
end Go.Proofs.YtbgdphbebhjpiaaGreatDoor
namespace Go.Proofs.YtbgdphbebhjpiaaGreatDoor
open Go.RowKit
structure CaseOk (x:CaseV):Prop where
  ok:qN x.p
  l1:x.p.inputs.list.length≤140737488355328
  l2:x.p.lines.list.length≤2932031007403
  dims:x.dims.list.length≤17592186044416
  ins:x.ins.list.length≤2932031007403
  arr: ∀a∈x.ins.list,a.sides.list.length≤17592186044416∧a.data.list.length≤17592186044416
  items: ∀l∈x.p.lines.list,l.items.list.length≤2199023255552
  cap:x.p.lines.list.length≤x.p.lines.cap
theorem CaseOk.hdl{x:CaseV}(h:CaseOk x):x.dims.list.length≤140737488355328:=Nat.le_trans h.dims (by decide)
theorem CaseOk.hI{x:CaseV}(h:CaseOk x): ∀a∈x.ins.list,a.sides.list.length≤140737488355328:=fun a ha=>Nat.le_trans (h.arr a ha).1 (by decide)
end Go.Proofs.YtbgdphbebhjpiaaGreatDoor
namespace Go.Proofs.YtbgdphbebhjpiaaGreatDoor
open Go.RowKit
def qE (xs:List Bs)(s:Bs):Int:=if s∈xs then (xs.idxOf s:Nat) else-1
section
variable {xs : List Bs} {s b : Bs} {i : Nat}
theorem pz_here(h:s∉xs.take i)(hb:xs[i]?=some b)(he:b=s):((i:Nat):Int)=qE xs s:=by
  subst he;obtain⟨hi,e⟩:=List.getElem?_eq_some_iff.1 hb;have hm:b∈xs:=List.mem_of_getElem? hb;have e2:xs=xs.take i++b::xs.drop (i+1):=by rw [←e,List.getElem_cons_drop,List.take_append_drop]
  have e3:xs.idxOf b=i:=by
    conv=>lhs;rw [e2]
    rw [List.idxOf_append,if_neg h,List.idxOf_cons_self,List.length_take];omega
  rw [qE,if_pos hm,e3]
theorem pz_more(h:s∉xs.take i)(hb:xs[i]?=some b)(he:b≠s):s∉xs.take (i+1):=by
  obtain⟨hi,e⟩:=List.getElem?_eq_some_iff.1 hb;rw [List.take_succ_eq_append_getElem hi,e];intro hm
  rcases List.mem_append.1 hm with hm | hm
  · exact h hm
  · exact he (List.mem_singleton.1 hm).symm
theorem pz_none(h:s∉xs.take i)(hi:xs.length≤i):(-1:Int)=qE xs s:=by
  rw [List.take_of_length_le hi] at h;rw [qE,if_neg h]
theorem pz_neg:qE xs s<0↔xs.contains s=false:=by
  unfold qE
  by_cases h:s∈xs
  · rw [if_pos h];simp [h]
  · rw [if_neg h];simp [h]
end
def sI (p:iF)(rest:List nI)(out:List Bs):Prop:=lC rest out=varsP p∧out.length+rest.length≤8000000000000
section
variable {p : iF} {l : List gE} {x : gE} {ds R : List nI} {d : nI} {out : List Bs} {i j : Nat}
theorem vb_start(h:(dY p.inputs).length≤8000000000000):sI p (dY (p.inputs.drop 0)) []:=⟨rfl,by simpa using h⟩
theorem vb_in(h:sI p (dY (l.drop i)) out)(hx:l[i]?=some x):sI p (x.sides.drop 0++dY (l.drop (i+1))) out:=by
  rw [fK hx] at h;exact h
theorem vb_skip(h:sI p (ds.drop j++R) out)(hd:ds[j]?=some d)(hs:d.name=[]∨ ¬qE out d.name<0):sI p (ds.drop (j+1)++R) out:=by
  rw [fK hd,List.cons_append] at h;obtain⟨b,c⟩:=h;refine⟨?_,by simp at c⊢;omega⟩;rw [pz_neg,Bool.not_eq_false] at hs;rw [lC,if_pos hs] at b;exact b
theorem vb_add(h:sI p (ds.drop j++R) out)(hd:ds[j]?=some d)(h1:d.name≠[])(h2:qE out d.name<0):sI p (ds.drop (j+1)++R) (out++[d.name]):=by
  rw [fK hd,List.cons_append] at h;obtain⟨b,c⟩:=h;refine⟨?_,by simp at c⊢;omega⟩;rw [pz_neg] at h2;rw [lC,if_neg (by rw [h2];simp [h1])] at b;exact b
theorem vb_len(h:sI p (ds.drop j++R) out)(hd:ds[j]?=some d):out.length+1≤8000000000000:=by
  rw [fK hd,List.cons_append] at h;have:=h.2;simp at this;omega
theorem vb_out(h:sI p (ds.drop j++R) out)(hj:ds.length≤j):sI p R out:=by
  rw [gG hj] at h;exact h
theorem vb_end(h:sI p (dY (l.drop i)) out)(hi:l.length≤i):varsP p=out:=by
  rw [gG hi] at h;exact h.1.symm
end
set_option maxRecDepth 100000 in
theorem place8_spec(A:Option Addr)(c:Nat)(xs:List Bs)(s:Bs)(hl:xs.length≤140737488355328):dG Tryz.prog 30 [.slice A xs.length c,.string (bs s)] [] [kG.sl (.slice A xs.length c) xs] (fun(_:Unit)=> .int .i64 (qE xs s)) (fun _=>[]) (fun _=>[]):=by
  have hT:=dA;refine cQ Tryz.func30 rfl Tryz.ntmps30 rfl ?_;intro β hM;refine sr<|sp hT ?_;refine nn<|bA<|sr<|sp hT ?_;refine nn<|bR<|dB (ι:=Nat) [(0,_),(1,_)] ⟨rfl,rfl,trivial⟩ (fun i=>[(5,.int .i64 (i:Nat))]) (fun _=>[]) (fun i=>[Fact.pure (i≤xs.length∧s∉xs.take i)]) (fun i=>xs.length-i) 0 ⟨rfl,trivial⟩ .nil ⟨Has.pure (⟨by omega,by simp⟩),trivial⟩ ?_;rintro i;refine cD (Has.of mT0) fun hinv2=>?_;refine bA<|sr<|sp4 hT ?_;refine nn<|bH rfl (fun hc9=>?_) (fun hc9=>?_)
  · have hc9:=of_decide_eq_true hc9;refine bK<|bB<|bA<|bR<|sr<|sp2 hT ?_
    obtain⟨x1,hx2⟩: ∃x',xs[i]?=some x':=⟨_,List.getElem?_eq_getElem (by omega)⟩
    refine ss (bS hT (k:=i) (bJ (Has.of mT1)) rfl rfl rfl rfl rfl rfl rfl (by omega)) ?_;refine ss (bZ hT (cR.knows (bJ (Has.of mT1)) (k:=i) (x:=x1) hx2 0) rfl rfl rfl rfl rfl) ?_;refine sp2 hT ?_;refine nn<|bH rfl (fun hc17=>?_) (fun hc17=>?_)
    · have hc17:x1=s:=eq_of_beq hc17;refine sr<|sp2 hT ?_;refine nn<|bG<|bI<|bC<|bC<|bI<|bC ?_;exact bQ () rfl (bD rfl) .nil trivial (congrArg (Value.int .i64) (pz_here hinv2.2 hx2 (by assumption)))
    have hc17:x1≠s:=fun h=>absurd (beq_iff_eq.2 h) (by rw [show(x1==s)=false from hc17];simp);refine bK<|bY<|bB<|bE<|sp2 hT ?_;refine bP (z':=(((i+1):Nat):Int)) (cJ (by omega) (by omega)) ?_;refine sp hT ?_;refine nn ?_;exact cO (i+1) (by omega) ⟨rfl,trivial⟩ ⟨rfl,rfl,trivial⟩ .nil ⟨Has.pure (⟨by omega,pz_more hinv2.2 hx2 (by assumption)⟩),trivial⟩ (bF.drop 1)
  have hc9:=Int.not_lt.1 (of_decide_eq_false hc9);refine cW<|cK<|cK<|cX<|bB<|sr<|sp hT ?_;refine nn<|bG ?_;exact bQ () rfl (bD rfl) .nil trivial (congrArg (Value.int .i64) (pz_none hinv2.2 (by omega)))
set_option maxRecDepth 100000 in
theorem rVars_spec(P:ProgV)(hl1:P.inputs.list.length≤140737488355328)(hs: ∀x∈P.inputs.list,x.sides.list.length≤140737488355328)(hTT:(dY P.pr.inputs).length≤8000000000000):dG Tryz.prog 13 [.agg #[.slice P.inputs.addr P.inputs.list.length P.inputs.cap,.slice P.lines.addr P.lines.list.length P.lines.cap]] [] [hZ.sl (.slice P.inputs.addr P.inputs.list.length P.inputs.cap) P.inputs.list,gZ P.inputs.list] (fun(x:Option Addr×Nat)=> .slice x.1 (varsP P.pr).length x.2) (fun _=>[]) (fun(x:Option Addr×Nat)=>[kG.sl (.slice x.1 (varsP P.pr).length x.2) (varsP P.pr)]):=by
  have hT:=dA;refine cQ Tryz.func13 rfl Tryz.ntmps13 rfl ?_;intro β hM;refine sr<|fH rfl rfl rfl rfl rfl rfl fun b1=>?_;refine sp hT ?_;refine nn<|sr<|sp hT ?_;refine nn<|bA<|bA<|dK (t:=9) kG ?_;refine bE<|sp hT ?_;refine nn<|bR<|dB (ι:=Nat×List Bs×Option Addr×Nat) [(1,_)] ⟨rfl,trivial⟩ (fun⟨i,vs,A1,c1⟩=>[(3,.slice A1 vs.length c1),(4,.int .i64 (i:Nat))]) (fun⟨i,vs,A1,c1⟩=>[kG.row (.slice A1 vs.length c1) 9 vs]) (fun⟨i,vs,A1,c1⟩=>[Fact.pure (i≤P.inputs.list.length∧sI P.pr (dY (P.pr.inputs.drop i)) vs)]) (fun⟨i,vs,A1,c1⟩=>P.inputs.list.length-i) (0,[],none,0) ⟨rfl,rfl,trivial⟩ (.cons .head .nil) ⟨Has.pure (⟨by omega,vb_start hTT⟩),trivial⟩ ?_;rintro⟨i,vs,A1,c1⟩;dsimp only;refine cD (Has.of mT0) fun hinv3=>?_;refine bA<|sr<|sp2 hT ?_;refine ss (ldO hT (bM kT1)) ?_;refine sp2 hT ?_;refine nn<|bH rfl (fun hc11=>?_) (fun hc11=>?_)
  · have hc11:=of_decide_eq_true hc11;refine bK<|bB<|bA<|bR<|bA ?_
    obtain⟨x,hx⟩: ∃q,P.inputs.list[i]?=some q:=⟨_,List.getElem?_eq_getElem (by omega)⟩
    have hx0:P.pr.inputs[i]?=some x.inp:=oN hx;refine bW (pF x) (Has.each (Has.of mT2) (List.mem_of_getElem? hx)) ?_;have hxs:=hs x (List.mem_of_getElem? hx);refine bE<|sp hT ?_;refine nn<|bR<|dB (ι:=Nat×List Bs×Option Addr×Nat) [(1,_),(4,_)] ⟨rfl,rfl,trivial⟩ (fun⟨j,vs2,A2,c2⟩=>[(3,.slice A2 vs2.length c2),(5,.int .i64 (j:Nat))]) (fun⟨j,vs2,A2,c2⟩=>[kG.row (.slice A2 vs2.length c2) 9 vs2]) (fun⟨j,vs2,A2,c2⟩=>[Fact.pure (j≤x.sides.list.length∧sI P.pr (x.inp.sides.drop j++dY (P.pr.inputs.drop (i+1))) vs2)]) (fun⟨j,vs2,A2,c2⟩=>x.sides.list.length-j) (0,vs,A1,c1) ⟨rfl,rfl,trivial⟩ (.cons .head .nil) ⟨Has.pure (⟨by omega,vb_in hinv3.2 hx0⟩),trivial⟩ ?_;rintro⟨j,vs2,A2,c2⟩;dsimp only;refine cD (Has.of mT0) fun hinv6=>?_;refine bA<|sr<|sp2 hT ?_;refine ss (ldO hT (bM kT1)) ?_;refine sp hT ?_;refine ss (bS hT (k:=i) (bJ (Has.of mT3)) rfl rfl rfl rfl rfl rfl rfl (by omega)) ?_;refine sp hT ?_;refine ss (bZ hT (cR.knows (bJ (Has.of mT3)) (k:=i) (x:=x) hx 2) rfl rfl rfl rfl rfl) ?_;refine sp2 hT ?_;refine nn<|bH rfl (fun hc22=>?_) (fun hc22=>?_)
    · have hc22:=of_decide_eq_true hc22;refine bK<|bB<|bA<|bR<|bA ?_
      obtain⟨d,hd⟩: ∃q,x.sides.list[j]?=some q:=⟨_,List.getElem?_eq_getElem (by omega)⟩
      have hd0:x.inp.sides[j]?=some d.sd:=oN hd;have hvl:=vb_len hinv6.2 hd0;refine bE<|sp hT ?_;refine ss (ldO hT (bM kT1)) ?_;refine sp hT ?_;refine ss (bS hT (k:=i) (bJ (Has.of mT3)) rfl rfl rfl rfl rfl rfl rfl (by omega)) ?_;refine sp hT ?_;refine ss (bZ hT (cR.knows (bJ (Has.of mT3)) (k:=i) (x:=x) hx 2) rfl rfl rfl rfl rfl) ?_;refine sp hT ?_;refine ss (bS hT (k:=j) (bJ (Has.of mT1)) rfl rfl rfl rfl rfl rfl rfl (by omega)) ?_;refine sp hT ?_;refine ss (bZ hT (cR.knows (bJ (Has.of mT1)) (k:=j) (x:=d) hd 0) rfl rfl rfl rfl rfl) ?_;refine sp hT ?_;refine nn<|sr<|sp3 hT ?_;refine cE (fun hg37=>?_) (fun hg37=>?_)
      · have hg37:d.name≠([]:Bs):=fun h=>by rw [h] at hg37;first | (simp at hg37;done) | exact absurd hg37 (by decide)
        refine sp2 hT ?_;refine iV (cS Tryz.func30 rfl rfl) (place8_spec A2 c2 vs2 d.name (by omega)) rfl rfl rfl rfl rfl .nil (.cons .head .nil) (nF nD) ⟨Has.of mT0,trivial⟩ (fun _=>True) (fun _ _ _ _=>trivial) fun _ _=>?_;refine sp2 hT ?_;refine nn<|bH rfl (fun hc42=>?_) (fun hc42=>?_)
        · have hc42:=of_decide_eq_true hc42;refine bE<|sp2 hT ?_;refine iA (m:=d.name) rfl rfl rfl rfl rfl fun b2=>?_;refine jA kT1 (dF .head rfl) rfl rfl rfl rfl rfl rfl rfl (by simp;omega) fun A3 c4=>?_;refine sp hT ?_;refine dR<|bY<|bB<|bE<|sp2 hT ?_;refine bP (z':=(((j+1):Nat):Int)) (cJ (by omega) (by omega)) ?_;refine sp hT ?_;refine nn ?_;exact cO (j+1,(vs2++[d.name]),A3,c4) (by dsimp only;omega) ⟨rfl,rfl,trivial⟩ ⟨rfl,rfl,trivial⟩ (.cons .head (.cons kT1 .nil)) ⟨Has.pure (⟨by dsimp only;omega,vb_add hinv6.2 hd0 (by assumption) (by assumption)⟩),trivial⟩ (bF.drop 1)
        have hc42:=Int.not_lt.1 (of_decide_eq_false hc42);refine bK<|bY<|bB<|bE<|sp2 hT ?_;refine bP (z':=(((j+1):Nat):Int)) (cJ (by omega) (by omega)) ?_;refine sp hT ?_;refine nn ?_;exact cO (j+1,vs2,A2,c2) (by dsimp only;omega) ⟨rfl,rfl,trivial⟩ ⟨rfl,rfl,trivial⟩ (.cons .head (.cons .head .nil)) ⟨Has.pure (⟨by dsimp only;omega,vb_skip hinv6.2 hd0 (by first | exact .inl (by assumption) | exact .inr (by assumption) | exact .inr (by show ¬qE vs2 d.name<0;omega))⟩),trivial⟩ (bF.drop 1)
      have hg37:d.name=([]:Bs):=eq_of_beq (fM hg37);refine sk4 ?_;refine sp hT ?_;refine nn<|cN rfl rfl ?_;refine bK<|bY<|bB<|bE<|sp2 hT ?_;refine bP (z':=(((j+1):Nat):Int)) (cJ (by omega) (by omega)) ?_;refine sp hT ?_;refine nn ?_;exact cO (j+1,vs2,A2,c2) (by dsimp only;omega) ⟨rfl,rfl,trivial⟩ ⟨rfl,rfl,trivial⟩ (.cons .head (.cons .head .nil)) ⟨Has.pure (⟨by dsimp only;omega,vb_skip hinv6.2 hd0 (by first | exact .inl (by assumption) | exact .inr (by assumption) | exact .inr (by show ¬qE vs2 d.name<0;omega))⟩),trivial⟩ (bF.drop 1)
    have hc22:=Int.not_lt.1 (of_decide_eq_false hc22);refine cW<|cK<|cK<|cX<|bY<|bB<|bE<|sp2 hT ?_;refine bP (z':=(((i+1):Nat):Int)) (cJ (by omega) (by omega)) ?_;refine sp hT ?_;refine nn ?_;exact cO (i+1,vs2,A2,c2) (by dsimp only;omega) ⟨rfl,rfl,trivial⟩ ⟨rfl,trivial⟩ (.cons .head (.cons .head .nil)) ⟨Has.pure (⟨by dsimp only;omega,vb_out hinv6.2 (by show(x.sides.list.map iG.sd).length≤j;rw [List.length_map];omega)⟩),trivial⟩ (bF.drop 3)
  have hc11:=Int.not_lt.1 (of_decide_eq_false hc11);refine cW<|cK<|cK<|cX<|bB<|sr<|sp2 hT ?_;refine nn<|bG ?_;have he:=vb_end hinv3.2 (by show(P.inputs.list.map InputV.inp).length≤i;rw [List.length_map];omega);rw [he];refine bX .head ?_;exact bQ (A1,c1) rfl (bD rfl) .nil ⟨(Has.of mT0),trivial⟩ rfl
end Go.Proofs.YtbgdphbebhjpiaaGreatDoor
namespace Go.Proofs.YtbgdphbebhjpiaaGreatDoor
open Go.RowKit
section
variable {H : Type} {enc : TypeId × Value → H} {w : World}
theorem bulk_one(d:DataW H):1≤Rows.uptoBulk d:=by
  cases d with
  | lit l=>cases l<;>simp [Rows.uptoBulk]
  | _=>simp [Rows.uptoBulk]
theorem bAo{d:DataW H}: ∀{l:List (DataW H)},d∈l→Rows.uptoBulk d≤Rows.uptoBulkAll l
  | x::r,h=>by
    rw [Rows.uptoBulkAll]
    rcases List.mem_cons.1 h with rfl | h
    · omega
    · have:=bAo h;omega
theorem bulk_sum{D:Nat→DataW H}{f:Nat→Nat}: ∀{L:List Nat},(∀i∈L,f i≤Rows.uptoBulk (D i))→(L.map f).sum≤Rows.uptoBulkAll (L.map D)
  | [],_=>Nat.zero_le _
  | i::L,h=>by
    have h1:=h i (List.mem_cons_self ..);have h2:=bulk_sum (D:=D) (f:=f) (L:=L) fun j hj=>h j (List.mem_cons_of_mem _ hj);simp only [List.map_cons,List.sum_cons,Rows.uptoBulkAll];omega
theorem bulk_len: ∀l:List (DataW H),l.length≤Rows.uptoBulkAll l
  | []=>Nat.zero_le _
  | x::r=>by
    have h1:=bulk_one x;have h2:=bulk_len r;rw [Rows.uptoBulkAll,List.length_cons];omega
theorem bulk_slice{t e:TypeId}(hu:Tryz.prog.underlying t=some (.slice e)){fuel:Nat}{A:Option Addr}{l c:Nat}{x:DataW H×List MemPlace}(h:DataW.trod enc Tryz.prog w 0 (fun _=>true) true fuel t [.slice A l c]=some x):l≤Rows.uptoBulk x.1:=by
  rcases Deep.open_slice hu h with ⟨e1,_⟩ | ⟨a,len,cap,m,n,D,Pl,e1,_,hl,_,hm,rfl,hi⟩
  · simp at e1;omega
  · simp at e1;obtain⟨_,rfl,_⟩:=e1;have:=bulk_len ((List.range l).map D);rw [List.length_map,List.length_range] at this;simp only [Rows.uptoBulk];omega
theorem sl_cell{α:Type}{E:Flat α}{A:Option Addr}{l c k:Nat}{xs:List α}{x:α}{S:Nat→Prop}(h:(E.sl (.slice A l c) xs).p S w)(hx:xs[k]?=some x): ∃b o,A=some ⟨b,o,none⟩∧ ∀j u,(E.cells x)[j]?=some u→w.cell? ⟨b,o+k*E.size+j,none⟩=some u:=by
  obtain⟨A',cap,e,h⟩:=h;injection e with e1 e2 e3
  subst e1 e2 e3;obtain⟨b,o,cs,rfl,_,hc,hcs⟩:=h k x hx;subst hcs;exact⟨b,o,rfl,hc⟩
set_option maxRecDepth 100000 in
theorem bulk_input{fuel:Nat}{cs:List Value}{x:DataW H×List MemPlace}{A:Option Addr}{l c:Nat}(h:DataW.trod enc Tryz.prog w 0 (fun _=>true) true fuel 61 cs=some x)(h2:cs[2]?=some (.slice A l c)):l≤Rows.uptoBulk x.1:=by
  obtain⟨xs,n,_,rfl,hlen,hxl,hf⟩:=DataW.trod_struct Tryz.underlying61 h;have hc:Tryz.prog.cellsOf 61=3:=by kernel_rfl
  rw [hc] at hlen;have hxl':xs.length=3:=hxl
  match cs,hlen,h2 with
  | [c0,c1,c2],_,h2=>
    obtain rfl:c2= .slice A l c:=by simpa using h2
    have h1:DataW.trod enc Tryz.prog w 0 (fun _=>true) true n 59 (([c0,c1,.slice A l c].drop 2).take (Tryz.prog.cellsOf 59))=xs[2]?:=hf 2 _ rfl;have hk:Tryz.prog.cellsOf 59=1:=by kernel_rfl
    rw [hk,List.getElem?_eq_getElem (by omega)] at h1;have:=bulk_slice Tryz.underlying59 h1;have h3:=bAo (d:=xs[2].1) (l:=xs.map (·.1)) (List.mem_map.2 ⟨xs[2],List.getElem_mem _,rfl⟩);simp only [Rows.uptoBulk];omega
theorem map_range{α:Type}(L:List α)(g:α→Nat):L.map g=(List.range L.length).map fun i=>(L[i]?.map g).getD 0:=by
  apply List.ext_getElem?;intro i;rw [List.getElem?_map,List.getElem?_map]
  by_cases h:i<L.length
  · rw [List.getElem?_range h];simp [List.getElem?_eq_getElem h]
  · rw [List.getElem?_eq_none (by omega),List.getElem?_eq_none (by simp;omega)];rfl
theorem bulk_inputs{fuel:Nat}{x:DataW H×List MemPlace}{a:Sl InputV}{S:Nat→Prop}(h:DataW.trod enc Tryz.prog w 0 (fun _=>true) true fuel 22 [.slice a.addr a.list.length a.cap]=some x)(hs:(hZ.sl (.slice a.addr a.list.length a.cap) a.list).p S w):
    (a.list.map fun y=>y.sides.list.length).sum≤Rows.uptoBulk x.1:=by
  rcases Deep.open_slice Tryz.underlying22 h with ⟨e1,_⟩ | ⟨ad,len,cap,m,n,D,Pl,e1,_,hl,_,hm,rfl,hi⟩
  · simp at e1;rw [e1.2.1];simp
  · simp at e1;obtain⟨ea,rfl,rfl⟩:=e1;have hlm:a.list.length≤m:=by rw [hm];simp;exact hl
    have hc:Tryz.prog.cellsOf 61=3:=by kernel_rfl
    have key:=bulk_sum (D:=D) (f:=fun i=>(a.list[i]?.map fun y=>y.sides.list.length).getD 0) (L:=List.range a.list.length) fun i hil=>by
      have hil:i<a.list.length:=by simpa using hil
      obtain⟨cs',hc',ht⟩:=hi i (by omega);rw [hc] at hc';obtain⟨_,hcl,hat⟩:=World.cells?_some hc'
      obtain⟨y,hy⟩: ∃y,a.list[i]?=some y:=⟨_,List.getElem?_eq_getElem hil⟩
      obtain⟨b,o,eb,hb⟩:=sl_cell hs hy;have hcell:=hb 2 (.slice y.sides.addr y.sides.list.length y.sides.cap) rfl
      have had:ad=⟨b,o,none⟩:=by
        rw [eb] at ea;exact(Option.some.inj ea).symm
      subst had;have h2:=hat 2 (by omega)
      have ad: ∀o i,(⟨b,o,none⟩:Addr).add i=⟨b,o+i,none⟩:=fun o i=>by
        unfold Addr.add;split<;>simp_all
      have ex:((⟨b,o,none⟩:Addr).add (i*3)).add 2=⟨b,o+i*3+2,none⟩:=by rw [ad,ad]
      rw [ex] at h2;have hcell:w.cell? ⟨b,o+i*3+2,none⟩=some (.slice y.sides.addr y.sides.list.length y.sides.cap):=hcell;rw [hcell] at h2;have:=bulk_input ht h2.symm;rw [hy];exact this
    rw [map_range];simp only [Rows.uptoBulk];omega
theorem sides_sum(a:ProgV):(dY a.pr.inputs).length=(a.inputs.list.map fun y=>y.sides.list.length).sum:=by
  have e:a.pr.inputs=a.inputs.list.map InputV.inp:=rfl;unfold dY;rw [e,List.length_flatMap,List.map_map]
  congr 1
  apply List.map_congr_left;intro y _;exact List.length_map _
set_option maxRecDepth 100000 in
theorem bulk_prog{fuel:Nat}{x:DataW H×List MemPlace}{a:ProgV}{S:Nat→Prop}{cs:List Value}(h:DataW.trod enc Tryz.prog w 0 (fun _=>true) true fuel 25 cs=some x)(hcs:cs=[.slice a.inputs.addr a.inputs.list.length a.inputs.cap,.slice a.lines.addr a.lines.list.length a.lines.cap])
    (hs:(hZ.sl (.slice a.inputs.addr a.inputs.list.length a.inputs.cap) a.inputs.list).p S w):(dY a.pr.inputs).length≤Rows.uptoBulk x.1:=by
  subst hcs;obtain⟨xs,n,_,rfl,hlen,hxl,hf⟩:=DataW.trod_struct Tryz.underlying25 h;have hxl':xs.length=2:=hxl;have h1:DataW.trod enc Tryz.prog w 0 (fun _=>true) true n 22 (([.slice a.inputs.addr a.inputs.list.length a.inputs.cap,.slice a.lines.addr a.lines.list.length a.lines.cap].drop 0).take (Tryz.prog.cellsOf 22))=xs[0]?:=hf 0 _ rfl;have hk:Tryz.prog.cellsOf 22=1:=by kernel_rfl
  rw [hk,List.getElem?_eq_getElem (by omega)] at h1;have h2:=bulk_inputs h1 hs;have h3:=bAo (d:=xs[0].1) (l:=xs.map (·.1)) (List.mem_map.2 ⟨xs[0],List.getElem_mem _,rfl⟩);rw [sides_sum];simp only [Rows.uptoBulk];omega
theorem xG: ∀(r:List nI) (out:List Bs),(lC r out).length≤out.length+r.length
  | [],out=>by simp [lC]
  | d::r,out=>by
    rw [lC];split
    · have:=xG r out;simp;omega
    · have:=xG r (out++[d.name]);simp at this⊢;omega
theorem vars_len(p:iF):(varsP p).length≤(dY p.inputs).length:=by
  have:=xG (dY p.inputs) []
  simpa [varsP] using this
end
end Go.Proofs.YtbgdphbebhjpiaaGreatDoor
namespace Go.Proofs.YtbgdphbebhjpiaaGreatDoor.meanVars
open Go.ChangeShapes Go.WideShapes Go.ChangeAt Go.RowKit
set_option maxRecDepth 100000 in
theorem law_spec(P:ProgV)(hl1:P.inputs.list.length≤140737488355328)(hs: ∀x∈P.inputs.list,x.sides.list.length≤140737488355328)(hTT:(dY P.pr.inputs).length≤8000000000000):dG Tryz.prog 3 [.agg #[.slice P.inputs.addr P.inputs.list.length P.inputs.cap,.slice P.lines.addr P.lines.list.length P.lines.cap]] [] [gS,hZ.sl (.slice P.inputs.addr P.inputs.list.length P.inputs.cap) P.inputs.list,gZ P.inputs.list] (fun(_:Unit)=> .bool true) (fun _=>[]) (fun _=>[]):=by
  have hT:=caseT_ok;refine cQ Tryz.func3 rfl Tryz.ntmps3 rfl ?_;intro β hM;refine bA ?_;have hvl:=vars_len P.pr;refine bE<|fH rfl rfl rfl rfl rfl rfl fun b1=>?_;refine sp hT ?_;refine nn<|sr<|bO Tryz.func11 (shown8_spec) rfl rfl .nil ⟨Has.of mT0,trivial⟩ fun _=>?_;refine sp hT ?_;refine nn<|sr<|ss (ldN hT (bM .head)) ?_;refine bO Tryz.func12 (zY P hl1 hs hTT) rfl rfl .nil ⟨(Has.of mT1),(Has.of mT2),trivial⟩ fun⟨A2,c3⟩=>?_;refine wX (v':= .slice A2 (varsP P.pr).length c3) rfl ?_;refine sp hT ?_;refine nn<|sr<|ss (ldN hT (bM .head)) ?_;refine bO Tryz.func13 (rVars_spec P hl1 hs hTT) rfl rfl .nil ⟨(Has.of mT3),(Has.of mT4),trivial⟩ fun⟨A4,c5⟩=>?_;refine wX (v':= .slice A4 (varsP P.pr).length c5) rfl ?_;refine sp hT ?_;refine nn<|bA<|sr<|sp4 hT ?_;refine sp hT ?_;refine cI (t':=false) (by simp) ?_;refine nn<|cN rfl rfl ?_;refine bK<|bB<|bA<|sr<|sp3 hT ?_;refine nn<|bR<|dB (ι:=Nat) [(3,_),(4,_),(5,_),(18,_)] ⟨rfl,rfl,rfl,rfl,trivial⟩ (fun i=>[(19,.int .i64 (i:Nat))]) (fun _=>[]) (fun i=>[Fact.pure (i≤(varsP P.pr).length)]) (fun i=>(varsP P.pr).length-i) 0 ⟨rfl,trivial⟩ .nil ⟨Has.pure (by omega),trivial⟩ ?_;rintro i;refine cD (Has.of mT0) fun hinv7=>?_;refine sr<|sp hT ?_;refine nn<|bA<|bH rfl (fun hc20=>?_) (fun hc20=>?_)
  · have hc20:=of_decide_eq_true hc20;refine bK<|bB<|bA<|bR<|sr<|sp2 hT ?_;refine nn<|bA ?_
    obtain⟨n0,hn0⟩: ∃q,(varsP P.pr)[i]?=some q:=⟨_,List.getElem?_eq_getElem (by omega)⟩
    refine cU _ _ [(true,0),(true,1),(true,2),(true,3),(true,4),(true,5),(true,6),(true,7),(true,8)] cY (by decide+kernel) (.cons .head .nil) bF.self ?_;refine puM hT ?_;refine puM hT ?_;refine stM rfl (bS hT (k:=i) (bJ (Has.of mT2)) rfl rfl rfl rfl rfl rfl rfl (by omega)) ?_;refine stM rfl (bZ hT (cR.knows (bJ (Has.of mT2)) (k:=i) (x:=n0) hn0 0) rfl rfl rfl rfl rfl) ?_;refine puM hT ?_;refine puM hT ?_;refine stM rfl (bS hT (k:=i) (bJ (Has.of mT1)) rfl rfl rfl rfl rfl rfl rfl (by omega)) ?_;refine stM rfl (bZ hT (cR.knows (bJ (Has.of mT1)) (k:=i) (x:=n0) hn0 0) rfl rfl rfl rfl rfl) ?_;refine puM hT ?_;refine cI (t':=false) (by simp) ?_;refine cM<|bB<|cN rfl rfl ?_;refine bK<|bY<|bB<|bE<|sp hT ?_;refine bP (z':=(((i+1):Nat):Int)) (cJ (by omega) (by omega)) ?_;refine sp hT ?_;refine nn ?_;exact cO (i+1) (by omega) ⟨rfl,trivial⟩ ⟨rfl,rfl,rfl,rfl,trivial⟩ (.cons .head .nil) ⟨Has.pure (by omega),trivial⟩ (bF.drop 1)
  have hc20:=Int.not_lt.1 (of_decide_eq_false hc20);refine cW<|cK<|cK<|cX<|bB<|sr<|sp2 hT ?_;refine nn<|bG ?_;exact bQ () rfl (bD rfl) .nil trivial (rfl)
end Go.Proofs.YtbgdphbebhjpiaaGreatDoor.meanVars
