/- Texts of one proof, one behind the other: TysC, LawC, LeftL, MeanLeftW. -/
import Derived.Test.YtciimjjleglmaaaGreatDoorM10
import Derived.Test.YtciimjjleglmaaaGreatDoorM15
import Derived.Test.YtciimjjleglmaaaGreatDoorM14
namespace Go.Proofs.YtciimjjleglmaaaGreatDoor
open Go.RowKit Go.ChangeShapes Go.WideShapes
def progcE:Flat ProgV where
  size:=2
  cells:=fun x=>[.slice x.inputs.addr x.inputs.list.length x.inputs.cap,.slice x.lines.addr x.lines.list.length x.lines.cap]
  len:=fun _=>rfl
  one:=fun x u hu=>by
    simp at hu
    rcases hu with rfl | rfl<;>rfl
  pos:=by decide
def progcTy:Ty ProgV:=⟨progcE,fun x=>(((zE.slicec 48)).deep x.inputs).and ((((bAs.slicec 48)).deep x.lines).and (Fact.true))⟩
set_option maxRecDepth 100000 in
theorem opens_progc{H:Type}{enc:TypeId×Value→H}{w:World}:nJ enc Tryz.prog w 25 progcE.cells progcTy.deep:=fun fuel cs x h hw=>by
  obtain⟨xs,n,_,rfl,hlen,hxl,hf⟩:=DataW.trod_struct Tryz.underlying25 h;have hc:Tryz.prog.cellsOf 25=2:=by kernel_rfl
  rw [hc] at hlen;have hxl':xs.length=2:=hxl
  match cs,hlen with
  | [c0,c1],_=>
    have h0:DataW.trod enc Tryz.prog w 0 (fun _=>true) true n 22 (([c0,c1].drop 0).take (Tryz.prog.cellsOf 22))=xs[0]?:=hf 0 _ rfl;have h1:DataW.trod enc Tryz.prog w 0 (fun _=>true) true n 23 (([c0,c1].drop 1).take (Tryz.prog.cellsOf 23))=xs[1]?:=hf 1 _ rfl;rw [List.getElem?_eq_getElem (by omega)] at h0;obtain⟨a0,e0,d0⟩:=(wG Tryz.underlying22 (iM (T:=zE) (b:=48) Tryz.underlying22 (by kernel_rfl) (by kernel_rfl) opens_input)) _ _ _ h0 (dQ Tryz.underlying25 hw (j:=0) rfl (by rw [List.getElem?_map,List.getElem?_eq_getElem (by omega)];rfl))
    have q0:[c0]=[.slice a0.addr a0.list.length a0.cap]:=by
      have hk:Tryz.prog.cellsOf 22=1:=by kernel_rfl
      rw [hk] at e0;exact e0
    clear e0;simp only [List.cons.injEq,and_true] at q0;rw [List.getElem?_eq_getElem (by omega)] at h1;obtain⟨a1,e1,d1⟩:=(wG Tryz.underlying23 (iM (T:=bAs) (b:=48) Tryz.underlying23 (by kernel_rfl) (by kernel_rfl) opens_line)) _ _ _ h1 (dQ Tryz.underlying25 hw (j:=1) rfl (by rw [List.getElem?_map,List.getElem?_eq_getElem (by omega)];rfl))
    have q1:[c1]=[.slice a1.addr a1.list.length a1.cap]:=by
      have hk:Tryz.prog.cellsOf 23=1:=by kernel_rfl
      rw [hk] at e1;exact e1
    clear e1;simp only [List.cons.injEq,and_true] at q1;obtain rfl:=q0;obtain rfl:=q1;exact⟨⟨a0,a1⟩,rfl,d0,d1,trivial⟩
structure zQ where
  p:ProgV
  dims:(Sl Int)
  ins:(Sl ArrV)
  deriving Inhabited
def caseE:Flat zQ where
  size:=4
  cells:=fun x=>[.slice x.p.inputs.addr x.p.inputs.list.length x.p.inputs.cap,.slice x.p.lines.addr x.p.lines.list.length x.p.lines.cap,.slice x.dims.addr x.dims.list.length x.dims.cap,.slice x.ins.addr x.ins.list.length x.ins.cap]
  len:=fun _=>rfl
  one:=fun x u hu=>by
    simp at hu
    rcases hu with rfl | rfl | rfl | rfl<;>rfl
  pos:=by decide
def caseTy:Ty zQ:=⟨caseE,fun x=>(progcTy.deep x.p).and ((((wX.slice 8)).deep x.dims).and ((((bKr.slice 48)).deep x.ins).and (Fact.true)))⟩
set_option maxRecDepth 100000 in
theorem opens_case{H:Type}{enc:TypeId×Value→H}{w:World}:nJ enc Tryz.prog w 33 caseE.cells caseTy.deep:=fun fuel cs x h hw=>by
  obtain⟨xs,n,_,rfl,hlen,hxl,hf⟩:=DataW.trod_struct Tryz.underlying33 h;have hc:Tryz.prog.cellsOf 33=4:=by kernel_rfl
  rw [hc] at hlen;have hxl':xs.length=3:=hxl
  match cs,hlen with
  | [c0,c1,c2,c3],_=>
    have h0:DataW.trod enc Tryz.prog w 0 (fun _=>true) true n 25 (([c0,c1,c2,c3].drop 0).take (Tryz.prog.cellsOf 25))=xs[0]?:=hf 0 _ rfl;have h1:DataW.trod enc Tryz.prog w 0 (fun _=>true) true n 30 (([c0,c1,c2,c3].drop 2).take (Tryz.prog.cellsOf 30))=xs[1]?:=hf 1 _ rfl;have h2:DataW.trod enc Tryz.prog w 0 (fun _=>true) true n 31 (([c0,c1,c2,c3].drop 3).take (Tryz.prog.cellsOf 31))=xs[2]?:=hf 2 _ rfl;rw [List.getElem?_eq_getElem (by omega)] at h0;obtain⟨a0,e0,d0⟩:=opens_progc _ _ _ h0 (dQ Tryz.underlying33 hw (j:=0) rfl (by rw [List.getElem?_map,List.getElem?_eq_getElem (by omega)];rfl))
    have q0:[c0,c1]=[.slice a0.inputs.addr a0.inputs.list.length a0.inputs.cap,.slice a0.lines.addr a0.lines.list.length a0.lines.cap]:=by
      have hk:Tryz.prog.cellsOf 25=2:=by kernel_rfl
      rw [hk] at e0;exact e0
    clear e0;simp only [List.cons.injEq,and_true] at q0;rw [List.getElem?_eq_getElem (by omega)] at h1;obtain⟨a1,e1,d1⟩:=(iM (T:=wX) (b:=8) Tryz.underlying30 (by kernel_rfl) (by kernel_rfl) (kD Tryz.underlying2)) _ _ _ h1 (dQ Tryz.underlying33 hw (j:=1) rfl (by rw [List.getElem?_map,List.getElem?_eq_getElem (by omega)];rfl))
    have q1:[c2]=[.slice a1.addr a1.list.length a1.cap]:=by
      have hk:Tryz.prog.cellsOf 30=1:=by kernel_rfl
      rw [hk] at e1;exact e1
    clear e1;simp only [List.cons.injEq,and_true] at q1;rw [List.getElem?_eq_getElem (by omega)] at h2;obtain⟨a2,e2,d2⟩:=(iM (T:=bKr) (b:=48) Tryz.underlying31 (by kernel_rfl) (by kernel_rfl) opens_arr) _ _ _ h2 (dQ Tryz.underlying33 hw (j:=2) rfl (by rw [List.getElem?_map,List.getElem?_eq_getElem (by omega)];rfl))
    have q2:[c3]=[.slice a2.addr a2.list.length a2.cap]:=by
      have hk:Tryz.prog.cellsOf 31=1:=by kernel_rfl
      rw [hk] at e2;exact e2
    clear e2;simp only [List.cons.injEq,and_true] at q2;obtain⟨rfl,rfl⟩:=q0;obtain rfl:=q1;obtain rfl:=q2;exact⟨⟨a0,a1,a2⟩,rfl,d0,d1,d2,trivial⟩
def caseT:Tab:=[(3,⟨.int .i64,1⟩),(2,⟨.int .i64,1⟩),(5,⟨.int .u8,1⟩),(9,⟨.string,1⟩),(4,⟨.bool,1⟩),(47,⟨.int .u8,1⟩),(34,⟨.int .i64,1⟩),(30,⟨.slice 2,1⟩),(27,⟨.slice 9,1⟩),(95,⟨.struct [(3,0),(3,1),(9,2),(2,3)],4⟩),(88,⟨.slice 95,1⟩),(36,⟨.struct [(3,0),(34,1)],2⟩),(62,⟨.struct [(9,0),(2,1)],2⟩),(58,⟨.slice 62,1⟩),(60,⟨.struct [(9,0),(3,1),(58,2)],3⟩),(22,⟨.slice 60,1⟩),(49,⟨.struct [(3,0),(3,1),(47,2),(9,3),(30,4)],5⟩),(44,⟨.slice 49,1⟩),(46,⟨.struct [(9,0),(3,1),(44,2)],3⟩),(23,⟨.slice 46,1⟩),(25,⟨.struct [(22,0),(23,1)],2⟩),(93,⟨.struct [(88,0),(3,1),(3,2)],3⟩),(42,⟨.struct [(30,0),(30,1)],2⟩),(31,⟨.slice 42,1⟩),(136,⟨.slice 30,1⟩),(33,⟨.struct [(25,0),(30,2),(31,3)],4⟩),(91,⟨.other,1⟩),(162,⟨.slice 1,1⟩),(1,⟨.other,1⟩),(102,⟨.other,1⟩),(70,⟨.other,1⟩),(130,⟨.other,1⟩),(131,⟨.slice 130,1⟩),(50,⟨.int .u64,1⟩),(68,⟨.map 9 4,1⟩),(75,⟨.map 9 42,1⟩),(133,⟨.other,1⟩),(135,⟨.struct [(133,0),(34,1)],2⟩),(77,⟨.struct [(75,0),(3,1)],2⟩),(57,⟨.array 2 9,2⟩),(53,⟨.array 4 9,4⟩)]
theorem caseT_ok:fU Tryz.prog caseT:=uQ.ok
  ⟨⟨by rw [Tryz.underlying3];rfl,by kernel_rfl⟩,
    ⟨by rw [Tryz.underlying2];rfl,by kernel_rfl⟩,
    ⟨by rw [Tryz.underlying5];rfl,by kernel_rfl⟩,
    ⟨by rw [Tryz.underlying9];rfl,by kernel_rfl⟩,
    ⟨by rw [Tryz.underlying4];rfl,by kernel_rfl⟩,
    ⟨by rw [Tryz.underlying47];rfl,by kernel_rfl⟩,
    ⟨by rw [Tryz.underlying34];rfl,by kernel_rfl⟩,
    ⟨by rw [Tryz.underlying30];rfl,by kernel_rfl⟩,
    ⟨by rw [Tryz.underlying27];rfl,by kernel_rfl⟩,
    ⟨by rw [Tryz.underlying95];rfl,by kernel_rfl⟩,
    ⟨by rw [Tryz.underlying88];rfl,by kernel_rfl⟩,
    ⟨by rw [Tryz.underlying36];rfl,by kernel_rfl⟩,
    ⟨by rw [Tryz.underlying62];rfl,by kernel_rfl⟩,
    ⟨by rw [Tryz.underlying58];rfl,by kernel_rfl⟩,
    ⟨by rw [Tryz.underlying60];rfl,by kernel_rfl⟩,
    ⟨by rw [Tryz.underlying22];rfl,by kernel_rfl⟩,
    ⟨by rw [Tryz.underlying49];rfl,by kernel_rfl⟩,
    ⟨by rw [Tryz.underlying44];rfl,by kernel_rfl⟩,
    ⟨by rw [Tryz.underlying46];rfl,by kernel_rfl⟩,
    ⟨by rw [Tryz.underlying23];rfl,by kernel_rfl⟩,
    ⟨by rw [Tryz.underlying25];rfl,by kernel_rfl⟩,
    ⟨by rw [Tryz.underlying93];rfl,by kernel_rfl⟩,
    ⟨by rw [Tryz.underlying42];rfl,by kernel_rfl⟩,
    ⟨by rw [Tryz.underlying31];rfl,by kernel_rfl⟩,
    ⟨by rw [Tryz.underlying136];rfl,by kernel_rfl⟩,
    ⟨by rw [Tryz.underlying33];rfl,by kernel_rfl⟩,
    ⟨by rw [Tryz.underlying91];rfl,by kernel_rfl⟩,
    ⟨by rw [Tryz.underlying162];rfl,by kernel_rfl⟩,
    ⟨by rw [Tryz.underlying1];rfl,by kernel_rfl⟩,
    ⟨by rw [Tryz.underlying102];rfl,by kernel_rfl⟩,
    ⟨by rw [Tryz.underlying70];rfl,by kernel_rfl⟩,
    ⟨by rw [Tryz.underlying130];rfl,by kernel_rfl⟩,
    ⟨by rw [Tryz.underlying131];rfl,by kernel_rfl⟩,
    ⟨by rw [Tryz.underlying50];rfl,by kernel_rfl⟩,
    ⟨by rw [Tryz.underlying68];rfl,by kernel_rfl⟩,
    ⟨by rw [Tryz.underlying75];rfl,by kernel_rfl⟩,
    ⟨by rw [Tryz.underlying133];rfl,by kernel_rfl⟩,
    ⟨by rw [Tryz.underlying135];rfl,by kernel_rfl⟩,
    ⟨by rw [Tryz.underlying77];rfl,by kernel_rfl⟩,
    ⟨by rw [Tryz.underlying57];rfl,by kernel_rfl⟩,
    ⟨by rw [Tryz.underlying53];rfl,by kernel_rfl⟩,trivial⟩
end Go.Proofs.YtciimjjleglmaaaGreatDoor
namespace Go.Proofs.YtciimjjleglmaaaGreatDoor
open Go.RowKit
theorem arr_of{a:ArrV}{S:Nat→Prop}{w:World}(h:(bKr.deep a).p S w):(gB a).p S w∧a.sides.list.length≤17592186044416∧a.data.list.length≤17592186044416:=by
  obtain⟨⟨⟨⟨s1,_⟩,s2⟩,s3⟩,⟨⟨⟨d1,_⟩,d2⟩,d3⟩,_⟩:=h;have s2:a.sides.list.length*8≤140737488355328:=s2;have d2:a.data.list.length*8≤140737488355328:=d2;exact⟨⟨⟨s1,d1⟩,s3,d3⟩,by omega,by omega⟩
theorem arrs_of{l:Sl ArrV}{S:Nat→Prop}{w:World}(h:((bKr.slice 48).deep l).p S w):(iD.sl (.slice l.addr l.list.length l.cap) l.list).p S w∧(Fact.each l.list gB).p S w∧l.list.length≤2932031007403∧ ∀a∈l.list,a.sides.list.length≤17592186044416∧a.data.list.length≤17592186044416:=by
  obtain⟨⟨h1,h2⟩,h3⟩:=h;have h2: ∀a∈l.list,(bKr.deep a).p S w:=h2;have h3:l.list.length*48≤140737488355328:=h3;exact⟨h1,fun a ha=>(arr_of (h2 a ha)).1,by omega,fun a ha=>(arr_of (h2 a ha)).2⟩
theorem nums_of{l:Sl Int}{S:Nat→Prop}{w:World}(h:((wX.slice 8).deep l).p S w):(cS.sl (.slice l.addr l.list.length l.cap) l.list).p S w∧l.list.length≤17592186044416:=by
  obtain⟨⟨h1,_⟩,h3⟩:=h;have h3:l.list.length*8≤140737488355328:=h3;exact⟨h1,by omega⟩
theorem progc_of{a:ProgV}{S:Nat→Prop}{w:World}(h:(progcTy.deep a).p S w):(progTy.deep a).p S w∧a.lines.list.length≤a.lines.cap:=by
  obtain⟨⟨i,_⟩,⟨l,lc⟩,t⟩:=h;exact⟨⟨i,l,t⟩,lc⟩
structure tZ (x:zQ):Prop where
  ok:oK x.p
  l1:x.p.inputs.list.length≤140737488355328
  l2:x.p.lines.list.length≤2932031007403
  dims:x.dims.list.length≤17592186044416
  ins:x.ins.list.length≤2932031007403
  arr: ∀a∈x.ins.list,a.sides.list.length≤17592186044416∧a.data.list.length≤17592186044416
  items: ∀l∈x.p.lines.list,l.items.list.length≤2199023255552
  cap:x.p.lines.list.length≤x.p.lines.cap
theorem tZ.hdl{x:zQ}(h:tZ x):x.dims.list.length≤140737488355328:=Nat.le_trans h.dims (by decide)
theorem tZ.l2'{x:zQ}(h:tZ x):x.p.lines.list.length≤140737488355328:=Nat.le_trans h.l2 (by decide)
theorem tZ.hI{x:zQ}(h:tZ x): ∀a∈x.ins.list,a.sides.list.length≤140737488355328:=fun a ha=>Nat.le_trans (h.arr a ha).1 (by decide)
theorem case_of{x:zQ}{S:Nat→Prop}{w:World}(h:(caseTy.deep x).p S w):tZ x∧
    ((iH.sl (.slice x.p.inputs.addr x.p.inputs.list.length x.p.inputs.cap) x.p.inputs.list).p S w∧(gX x.p.inputs.list).p S w∧(jO.sl (.slice x.p.lines.addr x.p.lines.list.length x.p.lines.cap) x.p.lines.list).p S w∧(iI x.p.lines.list).p S w)∧
    (cS.sl (.slice x.dims.addr x.dims.list.length x.dims.cap) x.dims.list).p S w∧(iD.sl (.slice x.ins.addr x.ins.list.length x.ins.cap) x.ins.list).p S w∧(Fact.each x.ins.list gB).p S w:=by
  obtain⟨hp,hd,hi,_⟩:=h;obtain⟨hp,hcap⟩:=progc_of hp;obtain⟨h1,h2,h3,h4⟩:=prog_of hp;obtain⟨d1,d2⟩:=nums_of hd;obtain⟨a1,a2,a3,a4⟩:=arrs_of hi;obtain⟨_,⟨⟨_,l2⟩,l3⟩,_⟩:=hp;have l2: ∀y∈x.p.lines.list,(bAs.deep y).p S w:=l2;have l3:x.p.lines.list.length*48≤140737488355328:=l3;refine⟨⟨h2,h3,by omega,d2,a3,a4,fun y hy=>?_,hcap⟩,h1,d1,a1,a2⟩;have:=(l2 y hy).2.2.1.2;have this:y.items.list.length*64≤140737488355328:=this;omega
theorem tB{p:iG}{dims:List Int}{ins:List Arr}{xs:List ArrV}(h:xs.map ArrV.arr=(fF p dims ins).1):xs.length≤64∧ ∀a∈xs,a.sides.list.length≤4∧a.data.list.length≤65536:=by
  have hl:xs.length=(xs.map ArrV.arr).length:=(List.length_map _).symm
  by_cases e:(fF p dims ins).2.2=0
  · obtain⟨h0,h1,h2⟩:=bFx.1 e
    have hr:(dR p).2=true:=by
      cases hr:(dR p).2 with
      | true=>rfl
      | false=>
        have:fF p dims ins=([],(0,50)):=by
          have hb:fB p dims ins=([],(0,50)):=by
            unfold fB;rw [hr];rfl
          unfold fF;rw [hb];rfl
        rw [this] at e;cases e
    refine⟨?_,fun a ha=>?_⟩
    · rw [hl,h,h1];exact(bEl hr).lns
    · have:=h2 a.arr (by rw [←h];exact List.mem_map.2 ⟨a,ha,rfl⟩);exact⟨iF this,gT this⟩
  · have e1:=bFx.2 (fun k=>e (congrArg Prod.snd k));rw [e1] at h;have:xs=[]:=List.map_eq_nil_iff.1 h;subst this;exact⟨by simp,fun a ha=>by simp at ha⟩
theorem mean_big{p:iG}{dims:List Int}{ins:List Arr}{xs:List ArrV}(h:xs.map ArrV.arr=(fF p dims ins).1): ∀a∈xs,a.sides.list.length≤140737488355328∧a.data.list.length≤140737488355328:=fun a ha=>⟨Nat.le_trans ((tB h).2 a ha).1 (by decide),Nat.le_trans ((tB h).2 a ha).2 (by decide)⟩
theorem mean_few{p:iG}{dims:List Int}{ins:List Arr}{xs:List ArrV}(h:xs.map ArrV.arr=(fF p dims ins).1):xs.length≤140737488355328:=Nat.le_trans (tB h).1 (by decide)
end Go.Proofs.YtciimjjleglmaaaGreatDoor
namespace Go.Proofs.YtciimjjleglmaaaGreatDoor
open Go.RowKit
section
variable (P : ProgV) (hP : oK P) (hl1 : P.inputs.list.length ≤ 140737488355328) (hl2 : P.lines.list.length ≤ 140737488355328) (D I : Option Addr) (cd ci : Nat) (dims : List Int) (ins : List ArrV) (hdl : dims.length ≤ 140737488355328) (hI : ∀ a ∈ ins, a.sides.list.length ≤ 140737488355328)
include hP hl1 hl2 hdl hI
theorem bEt:dG Tryz.prog 13 [.agg #[.slice P.inputs.addr P.inputs.list.length P.inputs.cap,.slice P.lines.addr P.lines.list.length P.lines.cap],.slice D dims.length cd,.slice I ins.length ci] [] [gU,iH.sl (.slice P.inputs.addr P.inputs.list.length P.inputs.cap) P.inputs.list,gX P.inputs.list,jO.sl (.slice P.lines.addr P.lines.list.length P.lines.cap) P.lines.list,iI P.lines.list,cS.sl (.slice D dims.length cd) dims,iD.sl (.slice I ins.length ci) ins,Fact.each ins gB]
    (fun x:Option Addr×Nat×List ArrV=> .tuple #[.slice x.1 x.2.2.length x.2.1,.agg #[.int .i64 (fF P.pr dims (ins.map ArrV.arr)).2.1,.int .i64 (fF P.pr dims (ins.map ArrV.arr)).2.2]]) (fun _=>[]) (fun x=>[Fact.pure (x.2.2.map ArrV.arr=(fF P.pr dims (ins.map ArrV.arr)).1∧x.2.2.length≤x.2.1),iD.sl (.slice x.1 x.2.2.length x.2.1) x.2.2,Fact.each x.2.2 gB]):=by
  refine bLq (bKu P hP hl1 hl2 D I cd ci dims ins hdl hI) fun x β=>?_;refine jP (H':=(rP x.2.2).map laneRow++[_]) (List.perm_append_comm (l₁:=[_])) ?_;refine lA (rP x.2.2) ?_;refine dX (E:=iD) .head fun hc=>?_;refine bX (E:=iD) .head ?_;refine cD (Has.of (.tail _ (.tail _ (.head _)))) fun hx=>?_;exact at_fin .nil ⟨Has.pure ⟨hx,hc⟩,Has.of (.head _),each_arr (Has.of (.tail _ (.head _))),trivial⟩
end
theorem pick_k(a:Int){n:Nat}(h0:0<n)(h1:n<64): ∃k:Nat,k<n∧IntKind.i64.wrap ((IntKind.u64.wrap a).tmod (IntKind.u64.wrap (n:Int)))=(k:Int):=by
  have e:IntKind.u64.wrap (n:Int)=n:=by
    simp [IntKind.wrap,IntKind.bits,IntKind.signed];omega
  have g:0≤IntKind.u64.wrap a:=by
    simp [IntKind.wrap,IntKind.bits,IntKind.signed];omega
  rw [e,Int.tmod_eq_emod_of_nonneg g];have h2:=Int.emod_nonneg (IntKind.u64.wrap a) (b:=(n:Int)) (by omega);have h3:=Int.emod_lt_of_pos (IntKind.u64.wrap a) (b:=(n:Int)) (by omega);obtain⟨k,hk⟩:=Int.eq_ofNat_of_zero_le h2;refine⟨k,by omega,?_⟩;rw [hk];simp [IntKind.wrap,IntKind.bits,IntKind.signed];omega
def uV (A:Option Addr)(c:Nat)(N:Option Addr)(d:Nat):LineV:=⟨[117,110,117,115,101,100],0,⟨A,c,[(⟨1,0,0,[],⟨N,d,[5]⟩⟩:ItemV)]⟩⟩
section
variable {x : zQ} {k : Nat} {A Q N : Option Addr} {c q d : Nat}
theorem left_pr:(⟨x.p.inputs,⟨Q,q,x.p.lines.list.take k++[uV A c N d]++x.p.lines.list.drop k⟩⟩:ProgV).pr=⟨x.p.pr.inputs,x.p.pr.lines.take k++uLine::x.p.pr.lines.drop k⟩:=by
  show(⟨_,(x.p.lines.list.take k++[uV A c N d]++x.p.lines.list.drop k).map LineV.ln⟩:iG)=_;rw [List.map_append,List.map_append,List.map_take,List.map_drop];simp only [List.append_assoc];rfl
theorem leftX_ok(hx:tZ x)(hk:k<x.p.lines.list.length)(h64:x.p.lines.list.length<64):let X:ProgV:=⟨x.p.inputs,⟨Q,q,x.p.lines.list.take k++[uV A c N d]++x.p.lines.list.drop k⟩⟩;oK X∧X.inputs.list.length≤140737488355328∧X.lines.list.length≤140737488355328:=by
  refine⟨⟨hx.ok.input,fun y hy=>?_⟩,hx.l1,?_⟩
  · have hy:y∈x.p.lines.list.take k++[uV A c N d]++x.p.lines.list.drop k:=hy
    rcases List.mem_append.1 hy with hy | hy
    · rcases List.mem_append.1 hy with hy | hy
      · exact hx.ok.line y (List.mem_of_mem_take hy)
      · rw [List.mem_singleton.1 hy];refine⟨by simp [uV],fun it hit=>?_⟩;have hit:it∈[(⟨1,0,0,[],⟨N,d,[5]⟩⟩:ItemV)]:=hit;rw [List.mem_singleton.1 hit];refine⟨by simp,fun z hz=>?_⟩;have hz:z∈[(5:Int)]:=hz;rw [List.mem_singleton.1 hz];omega
    · exact hx.ok.line y (List.mem_of_mem_drop hy)
  · show(x.p.lines.list.take k++[uV A c N d]++x.p.lines.list.drop k).length≤_;simp;omega
theorem left_law(hk:k<x.p.lines.list.length)(hn: ∀l∈x.p.lines.list,∀y∈l.items.list,y.name≠[117,110,117,115,101,100])(dims:List Int)(ins:List Arr){X:iG}(hX:X=⟨x.p.pr.inputs,x.p.pr.lines.take k++uLine::x.p.pr.lines.drop k⟩):
    ((fF X dims ins).2≠(0,0)→(fF x.p.pr dims ins).2=(fF X dims ins).2∨(fF X dims ins).2.2=50∨(fF X dims ins).2.2=84)∧
    ((fF X dims ins).2=(0,0)→ ∃us vs,us.length=k∧fF X dims ins=(us++qR::vs,(0,0))∧fF x.p.pr dims ins=(us++vs,(0,0))):=by
  have hl:x.p.pr.lines.length=x.p.lines.list.length:=List.length_map _;have e:x.p.pr=⟨x.p.pr.inputs,x.p.pr.lines.take k++x.p.pr.lines.drop k⟩:=by rw [List.take_append_drop]
  have h2:x.p.pr.lines.drop k≠[]:=fun h=>by
    have:=congrArg List.length h;simp at this;omega
  have h3: ∀l∈x.p.pr.lines.drop k,∀y∈l.items,y.name≠nY:=fun l hl y hy=>by
    obtain⟨m,hm,rfl⟩:=List.mem_map.1 (List.mem_of_mem_drop hl);obtain⟨z,hz,rfl⟩:=List.mem_map.1 hy;exact hn m hm z hz
  obtain⟨a,b⟩:=mean_more (I:=x.p.pr.inputs) (L1:=x.p.pr.lines.take k) h2 h3 dims ins;rw [hX];rw [←e] at a b;refine⟨a,fun h=>?_⟩;obtain⟨us,vs,hu,p,r⟩:=b h;exact⟨us,vs,by rw [hu,List.length_take];omega,p,r⟩
end
theorem left_code{f g:Flt}(h:f=g∨g.2=50∨g.2=84)(h1:oF ⟨f.1,f.2⟩ ⟨g.1,g.2⟩=false)(h2:(g.2==50)=false):(g.2==84)=true:=by
  rcases h with h | h | h
  · rw [h] at h1;simp [oF] at h1
  · rw [h] at h2;cases h2
  · rw [h];rfl
theorem u64_ne{n:Nat}(h0:0<n)(h1:n<64):IntKind.u64.wrap (n:Int)≠0:=by
  simp [IntKind.wrap,IntKind.bits,IntKind.signed];omega
theorem all_take{α:Type}{p:α→Prop}{l:List α}{i:Nat}{x:α}(h: ∀y∈l.take i,p y)(hx:l[i]?=some x)(px:p x): ∀y∈l.take (i+1),p y:=fun y hy=>by
  obtain⟨hi,e⟩:=List.getElem?_eq_some_iff.1 hx;rw [List.take_succ_eq_append_getElem hi,e] at hy
  rcases List.mem_append.1 hy with hy | hy
  · exact h y hy
  · rw [List.mem_singleton.1 hy];exact px
theorem bJt{α:Type}{p:α→Prop}{l:List α}{i:Nat}(h: ∀y∈l.take i,p y)(hi:l.length≤i): ∀y∈l,p y:=by rwa [List.take_of_length_le hi] at h
theorem left_lns{F:List Fact}{l:List LineV}{u:LineV}{k:Nat}(h:Has F (iI l))(hu:Has F (bAh u)):Has F (iI (l.take k++[u]++l.drop k)):=fun S w q y hy=>by
  rcases List.mem_append.1 hy with hy | hy
  · rcases List.mem_append.1 hy with hy | hy
    · exact h S w q y (List.mem_of_mem_take hy)
    · rw [List.mem_singleton.1 hy];exact hu S w q
  · exact h S w q y (List.mem_of_mem_drop hy)
theorem left_own{F:List Fact}{l:List ArrV}{j k:Nat}(h:Has F (Fact.each l gB)):Has F (Fact.each (l.take j++l.drop k) gB):=fun S w q y hy=>by
  rcases List.mem_append.1 hy with hy | hy
  · exact h S w q y (List.mem_of_mem_take hy)
  · exact h S w q y (List.mem_of_mem_drop hy)
theorem left_two{xa xb:List ArrV}{us vs:List Arr}{k:Nat}(hu:us.length=k)(hb:xb.map ArrV.arr=us++qR::vs)(ha:xa.map ArrV.arr=us++vs):
    xb.length=xa.length+1∧k<xb.length∧(∀z,xb[k]?=some z→z.arr=qR)∧(xb.take k++xb.drop (k+1)).map ArrV.arr=xa.map ArrV.arr:=by
  have l1:xb.length=(us++qR::vs).length:=by rw [←hb,List.length_map]
  have l2:xa.length=(us++vs).length:=by rw [←ha,List.length_map]
  simp only [List.length_append,List.length_cons] at l1 l2;refine⟨by omega,by omega,fun z hz=>?_,?_⟩
  · have h:(xb.map ArrV.arr)[k]?=some z.arr:=by rw [List.getElem?_map,hz];rfl
    rw [hb,List.getElem?_append_right (by omega),hu,Nat.sub_self] at h
    simpa using h.symm
  · rw [List.map_append,List.map_take,List.map_drop,hb,ha,List.take_append_of_le_length (by omega),List.take_of_length_le (by omega),←hu]
    congr 1
    rw [show us++qR::vs=(us++[qR])++vs by simp,show us.length+1=(us++[qR]).length by simp,List.drop_left]
end Go.Proofs.YtciimjjleglmaaaGreatDoor
namespace Go.Proofs.YtciimjjleglmaaaGreatDoor.meanLeft
open Go.ChangeShapes Go.WideShapes Go.ChangeAt Go.RowKit
theorem qI(z0:Int)(a4:Option Addr)(l4 c4:Nat):Tryz.prog.built 49 [(0,.int .i64 z0),(4,.slice a4 l4 c4)]=some #[.int .i64 z0,.int .i64 0,.int .u8 0,.string (bs []),.slice a4 l4 c4]:=by kernel_rfl
theorem qH(s0:ByteArray)(a2:Option Addr)(l2 c2:Nat):Tryz.prog.built 46 [(0,.string s0),(2,.slice a2 l2 c2)]=some #[.string s0,.int .i64 0,.slice a2 l2 c2]:=by kernel_rfl
set_option maxRecDepth 100000 in
theorem law_spec(x:zQ)(hx:tZ x)(z1:Int):dG Tryz.prog 6 [.agg #[.slice x.p.inputs.addr x.p.inputs.list.length x.p.inputs.cap,.slice x.p.lines.addr x.p.lines.list.length x.p.lines.cap,.slice x.dims.addr x.dims.list.length x.dims.cap,.slice x.ins.addr x.ins.list.length x.ins.cap],.int .i64 z1] [] [gU,iH.sl (.slice x.p.inputs.addr x.p.inputs.list.length x.p.inputs.cap) x.p.inputs.list,gX x.p.inputs.list,jO.sl (.slice x.p.lines.addr x.p.lines.list.length x.p.lines.cap) x.p.lines.list,iI x.p.lines.list,cS.sl (.slice x.dims.addr x.dims.list.length x.dims.cap) x.dims.list,iD.sl (.slice x.ins.addr x.ins.list.length x.ins.cap) x.ins.list,Fact.each x.ins.list gB] (fun(_:Unit)=> .bool true) (fun _=>[]) (fun _=>[]):=by
  have hT:=caseT_ok;refine cQ Tryz.func6 rfl Tryz.ntmps6 rfl ?_;intro β hM;refine sr<|fK rfl rfl rfl rfl rfl rfl fun b1=>?_;refine sp hT ?_;refine nn<|sr<|bO Tryz.func10 (shown8_spec) rfl rfl .nil ⟨Has.of mT0,trivial⟩ fun _=>?_;refine sp hT ?_;refine nn<|sr<|sp2 hT ?_;refine ss (ldO hT (dB .head)) ?_;refine sp2 hT ?_;refine nn<|bA<|sr<|sp3 hT ?_;refine cF (fun hg23=>?_) (fun hg23=>?_)
  · have hg23:=eq_of_beq hg23;refine sk2 ?_;refine sp hT ?_;refine nn<|cJ rfl rfl ?_;refine sr<|sp2 hT ?_;refine nn<|bG<|bC ?_;exact bQ () rfl (bD rfl) .nil trivial (rfl)
  have hg23:=beq_eq_false_iff_ne.1 hg23;refine sp3 hT ?_;refine nn<|bH rfl (fun hc26=>?_) (fun hc26=>?_)
  · have hc26:=of_decide_eq_true hc26;refine sr<|sp2 hT ?_;refine nn<|bG<|bC ?_;exact bQ () rfl (bD rfl) .nil trivial (rfl)
  have hc26:=Int.not_le.1 (of_decide_eq_false hc26);have hn0:0<x.p.lines.list.length:=by omega
  have hn64:x.p.lines.list.length<64:=by omega
  refine bK<|bB<|bA<|sr<|sp2 hT ?_;refine ss (ldO hT (dB .head)) ?_;refine sp2 hT ?_;refine nn<|bR<|dC (ι:=Nat) [(1,_),(2,_),(5,_),(6,_),(31,_)] ⟨rfl,rfl,rfl,rfl,rfl,trivial⟩ (fun i=>[(32,.int .i64 (i:Nat))]) (fun _=>[]) (fun i=>[Fact.pure (i≤x.p.lines.list.length∧ ∀l∈x.p.lines.list.take i,∀y∈l.items.list,y.name≠[117,110,117,115,101,100])]) (fun i=>x.p.lines.list.length-i) 0 ⟨rfl,trivial⟩ .nil ⟨Has.pure (⟨by omega,fun l hl=>by simp at hl⟩),trivial⟩ ?_;rintro i;refine cD (Has.of mT0) fun hinv6=>?_;refine sr<|sp hT ?_;refine nn<|bA<|bH rfl (fun hc33=>?_) (fun hc33=>?_)
  · have hc33:=of_decide_eq_true hc33;refine bK<|bB<|bA<|bR<|sr<|sp2 hT ?_;refine nn<|bA<|bA ?_
    obtain⟨l0,hl0⟩: ∃q,x.p.lines.list[i]?=some q:=⟨_,List.getElem?_eq_getElem (by omega)⟩
    refine bV (jX.sl (.slice l0.items.addr l0.items.list.length l0.items.cap) l0.items.list) (Has.left (Has.each (Has.of mT5) (List.mem_of_getElem? hl0))) ?_;refine bF<|sp2 hT ?_;refine ss (ldO hT (dB .head)) ?_;refine sp hT ?_;refine ss (bS hT (k:=i) (bJ (Has.of mT5)) rfl rfl rfl rfl rfl rfl rfl (by omega)) ?_;refine sp hT ?_;refine ss (cC hT (cR.knows (bJ (Has.of mT5)) (k:=i) (x:=l0) hl0 2) rfl rfl rfl rfl rfl) ?_;refine sp2 hT ?_;refine nn<|bH rfl (fun hc43=>?_) (fun hc43=>?_)
    · have hc43:=of_decide_eq_true hc43;refine sr<|sp2 hT ?_;refine nn<|bG<|bC<|bI<|bC<|bC<|bI<|bC ?_;exact bQ () rfl (bD rfl) .nil trivial (rfl)
    have hc43:=Int.not_lt.1 (of_decide_eq_false hc43);refine bK<|bB<|sr<|sp2 hT ?_;refine ss (ldO hT (dB .head)) ?_;refine sp hT ?_;refine ss (bS hT (k:=i) (bJ (Has.of mT5)) rfl rfl rfl rfl rfl rfl rfl (by omega)) ?_;refine sp hT ?_;refine ss (cC hT (cR.knows (bJ (Has.of mT5)) (k:=i) (x:=l0) hl0 2) rfl rfl rfl rfl rfl) ?_;refine sp2 hT ?_;refine nn<|bR<|dC (ι:=Nat) [(1,_),(2,_),(5,_),(6,_),(7,_),(31,_),(32,_),(52,_)] ⟨rfl,rfl,rfl,rfl,rfl,rfl,rfl,rfl,trivial⟩ (fun j=>[(53,.int .i64 (j:Nat))]) (fun _=>[]) (fun j=>[Fact.pure (j≤l0.items.list.length∧ ∀y∈l0.items.list.take j,y.name≠[117,110,117,115,101,100])]) (fun j=>l0.items.list.length-j) 0 ⟨rfl,trivial⟩ .nil ⟨Has.pure (⟨by omega,fun l hl=>by simp at hl⟩),trivial⟩ ?_;rintro j;refine cD (Has.of mT0) fun hinv11=>?_;refine sr<|sp hT ?_;refine nn<|bA<|bH rfl (fun hc54=>?_) (fun hc54=>?_)
    · have hc54:=of_decide_eq_true hc54;refine bK<|bB<|bA<|bR<|sr<|sp2 hT ?_;refine nn<|sr<|sp2 hT ?_;refine ss (ldO hT (dB .head)) ?_;refine sp hT ?_;refine ss (bS hT (k:=i) (bJ (Has.of mT6)) rfl rfl rfl rfl rfl rfl rfl (by omega)) ?_;refine sp hT ?_;refine ss (cC hT (cR.knows (bJ (Has.of mT6)) (k:=i) (x:=l0) hl0 2) rfl rfl rfl rfl rfl) ?_;refine sp hT ?_
      obtain⟨x2,hx3⟩: ∃x',l0.items.list[j]?=some x':=⟨_,List.getElem?_eq_getElem (by omega)⟩
      refine ss (bS hT (k:=j) (bJ (Has.of mT1)) rfl rfl rfl rfl rfl rfl rfl (by omega)) ?_;refine sp hT ?_;refine ss (cC hT (cR.knows (bJ (Has.of mT1)) (k:=j) (x:=x2) hx3 3) rfl rfl rfl rfl rfl) ?_;refine sp hT ?_;refine nn<|bH rfl (fun hc67=>?_) (fun hc67=>?_)
      · have hc67:x2.name=([117,110,117,115,101,100]:Bs):=eq_of_beq hc67;refine sr<|sp2 hT ?_;refine nn<|bG<|bI<|bC<|bC<|bI<|bI<|bC<|bC<|bI<|bC ?_;exact bQ () rfl (bD rfl) .nil trivial (rfl)
      have hc67:x2.name≠([117,110,117,115,101,100]:Bs):=fun h=>absurd (beq_iff_eq.2 h) (by rw [show(x2.name==([117,110,117,115,101,100]:Bs))=false from hc67];simp);refine bK<|cB<|bB<|bF<|sp hT ?_;refine bP (z':=(((j+1):Nat):Int)) (cK (by omega) (by omega)) ?_;refine sp hT ?_;refine nn ?_;exact cP (j+1) (by omega) ⟨rfl,trivial⟩ ⟨rfl,rfl,rfl,rfl,rfl,rfl,rfl,rfl,trivial⟩ (.cons .head .nil) ⟨Has.pure (⟨by omega,all_take hinv11.2 hx3 (by assumption)⟩),trivial⟩ (bE.drop 1)
    have hc54:=Int.not_lt.1 (of_decide_eq_false hc54);refine cX<|cM<|cM<|cY<|cB<|bB<|bF<|sp hT ?_;refine bP (z':=(((i+1):Nat):Int)) (cK (by omega) (by omega)) ?_;refine sp hT ?_;refine nn ?_;exact cP (i+1) (by omega) ⟨rfl,trivial⟩ ⟨rfl,rfl,rfl,rfl,rfl,trivial⟩ (.cons .head .nil) ⟨Has.pure (⟨by omega,all_take hinv6.2 hl0 (bJt hinv11.2 (by omega))⟩),trivial⟩ (bE.drop 3)
  have hc33:=Int.not_lt.1 (of_decide_eq_false hc33);refine cX<|cM<|cM<|cY<|bB<|sr<|sp4 hT ?_;refine ss (zZ rfl rfl rfl (u64_ne hn0 hn64)) ?_;refine sp hT ?_;obtain⟨k,hk,hkw⟩:=pick_k z1 hn0 hn64;refine bP (z':=((k:Nat):Int)) hkw ?_;refine sp hT ?_;refine nn<|sr<|cE rfl rfl rfl rfl oB rfl fun b4=>?_;refine nn<|sr<|sp2 hT ?_;refine ss (ldO hT (bM kT1)) ?_;refine sp hT ?_;refine sto hT .head ?_;refine nn<|bA ?_;have hn:=bJt hinv6.2 (by omega);have hkc:k≤x.p.lines.cap:=by have:=hx.cap;omega
  refine dN (t:=46) jO ?_;refine bV (jO.sl (.slice x.p.lines.addr k x.p.lines.cap) (x.p.lines.list.take k)) (iX (Has.of mT4) (by omega)) ?_;refine bV (jO.sl (.slice (jB x.p.lines.addr k jO.size x.p.lines.cap) (x.p.lines.list.length-k) (x.p.lines.cap-k)) (x.p.lines.list.drop k)) (jW (Has.of mT5) hx.cap (by omega)) ?_;refine oA 9 _ _ [(true,0),(true,1),(true,2),(true,3),(true,4),(true,5),(true,6),(false,7),(true,8)] cW (by decide+kernel) (.cons kT1 (.cons kT1 .nil)) bE.self ?_;refine puL hT ?_;refine stL rfl (ldO hT (dB .head)) ?_;refine puL hT ?_;refine puL hT ?_;refine stL rfl (ldO hT (dB kT1)) ?_;refine puL hT ?_;refine stL rfl (nQ hT (k:=k) rfl rfl rfl rfl rfl rfl hkc) ?_;refine iO (o:=_) rfl ?_;refine pS .head (bJ (Has.of mT1)) rfl rfl rfl rfl rfl rfl (by simp;omega) (by simp;omega) fun A5 c6=>?_;refine iN (.cons kT1 (.cons kT1 .nil)) (bE.drop 0) ?_;refine puL hT ?_;refine jH (o:=_) rfl ?_;refine sto hT kT1 ?_;refine lG<|bB<|sr<|sp hT ?_;refine ss (ldO hT (dB .head)) ?_;refine fL (m:=5) rfl rfl rfl rfl rfl fun b7=>?_;refine dJ (E:=cS) (xs:=[5]) .head (by simp [maxLen]) ?_;refine bX .head ?_;refine ss (bY rfl rfl (qI _ _ _ _)) ?_;refine rS (m:=(⟨1,0,0,[],⟨(some ⟨b7,0,none⟩),1,[5]⟩⟩:ItemV)) rfl rfl rfl rfl rfl fun b8=>?_;refine dJ (E:=jX) (xs:=[(⟨1,0,0,[],⟨(some ⟨b7,0,none⟩),1,[5]⟩⟩:ItemV)]) .head (by simp [maxLen]) ?_;refine bX .head ?_;refine ss (bY rfl rfl (qH _ _ _ _)) ?_;refine vY (m:=(uV (some ⟨b8,0,none⟩) 1 (some ⟨b7,0,none⟩) 1)) rfl rfl rfl rfl rfl fun b9=>?_;refine pS kT2 (dF .head rfl) rfl rfl rfl rfl rfl rfl rfl (by simp;omega) fun A10 c11=>?_;refine sp hT ?_;refine sto hT kT2 ?_;refine nn<|bA<|oA 9 _ _ [(true,0),(true,1),(true,2),(true,3),(true,4),(true,5),(true,6),(false,7),(true,8)] cW (by decide+kernel) (.cons .head (.cons kT1 (.cons kT1 .nil))) bE.self ?_;refine puL hT ?_;refine stL rfl (ldO hT (dB .head)) ?_;refine puL hT ?_;refine puL hT ?_;refine stL rfl (ldO hT (dB kT2)) ?_;refine puL hT ?_;refine stL rfl (gG hT (k:=k) rfl rfl rfl rfl rfl rfl (by omega)) ?_;refine iO (o:=_) rfl ?_;refine pS kT1 (bJ (Has.of mT2)) rfl rfl rfl rfl rfl rfl (by simp) (by simp;omega) fun A12 c13=>?_;refine iN (.cons kT1 (.cons kT1 (.cons kT1 .nil))) (bE.drop 0) ?_;refine puL hT ?_;refine jH (o:=_) rfl ?_;refine sto hT kT1 ?_;refine lG<|bB<|bA<|bX kT1 ?_;refine bV (iI (x.p.lines.list.take k++[(uV (some ⟨b8,0,none⟩) 1 (some ⟨b7,0,none⟩) 1)]++x.p.lines.list.drop k)) (left_lns (Has.of mT10) (Has.and (Has.of mT1) (Has.each_cons (Has.of mT2) Has.each_nil))) ?_;have hqo:=leftX_ok (A:=(some ⟨b8,0,none⟩)) (Q:=A12) (N:=(some ⟨b7,0,none⟩)) (c:=1) (q:=c13) (d:=1) hx hk hn64;dsimp only at hqo;have hll:=left_law hk hn x.dims.list (x.ins.list.map ArrV.arr) (left_pr (A:=(some ⟨b8,0,none⟩)) (Q:=A12) (N:=(some ⟨b7,0,none⟩)) (c:=1) (q:=c13) (d:=1));refine bF<|sp hT ?_;refine ss (ldN hT (bM kT2)) ?_;refine sp hT ?_;refine ss (ldO hT (dZ kT2)) ?_;refine sp hT ?_;refine ss (ldO hT (rY kT2)) ?_;refine bO Tryz.func13 (bEt x.p hx.ok hx.l1 hx.l2' x.dims.addr x.ins.addr x.dims.cap x.ins.cap x.dims.list x.ins.list hx.hdl hx.hI) rfl rfl .nil ⟨(Has.of mT7),(Has.of mT8),(Has.of mT9),(Has.of mT10),(Has.of bDr),(Has.of vH),(Has.of mT13),(Has.of bDo),trivial⟩ fun⟨A14,c15,xs16⟩=>?_;refine cD (Has.of mT0) fun hxma=>?_;dsimp only at hxma;refine xN (v':= .tuple #[.slice A14 xs16.length c15,.agg #[.int .i64 (fF x.p.pr x.dims.list (x.ins.list.map ArrV.arr)).2.1,.int .i64 (fF x.p.pr x.dims.list (x.ins.list.map ArrV.arr)).2.2]]) rfl ?_;refine sp3 hT ?_;refine cE rfl rfl rfl rfl xT rfl fun b17=>?_;refine sp hT ?_;refine sto hT .head ?_;refine nn<|sr<|ss (ldN hT (bM kT1)) ?_;refine sp hT ?_;refine ss (ldO hT (dZ kT3)) ?_;refine sp hT ?_;refine ss (ldO hT (rY kT3)) ?_;refine bO Tryz.func13 (bEt (⟨x.p.inputs,⟨A12,c13,(x.p.lines.list.take k++[(uV (some ⟨b8,0,none⟩) 1 (some ⟨b7,0,none⟩) 1)]++x.p.lines.list.drop k)⟩⟩:ProgV) hqo.1 hqo.2.1 hqo.2.2 x.dims.addr x.ins.addr x.dims.cap x.ins.cap x.dims.list x.ins.list hx.hdl hx.hI) rfl rfl .nil ⟨(Has.of mT10),(Has.of bDr),(Has.of vH),(Has.of mT4),(Has.of mT3),(Has.of (.tail _ (.tail _ (.tail _ (.tail _ (.tail _ (.tail _ (.tail _ (.tail _ (.tail _ (.tail _ (.tail _ (.tail _ (.tail _ (.tail _ (.tail _ mT0)))))))))))))))),(Has.of (.tail _ (.tail _ (.tail _ (.tail _ (.tail _ (.tail _ (.tail _ (.tail _ (.tail _ (.tail _ (.tail _ (.tail _ (.tail _ (.tail _ (.tail _ (.tail _ mT0))))))))))))))))),(Has.of (.tail _ (.tail _ (.tail _ (.tail _ (.tail _ (.tail _ (.tail _ (.tail _ (.tail _ (.tail _ (.tail _ (.tail _ (.tail _ (.tail _ (.tail _ (.tail _ (.tail _ mT0)))))))))))))))))),trivial⟩ fun⟨A18,c19,xs20⟩=>?_;refine cD (Has.of mT0) fun hxmb=>?_;dsimp only at hxmb;refine xN (v':= .tuple #[.slice A18 xs20.length c19,.agg #[.int .i64 (fF (⟨x.p.inputs,⟨A12,c13,(x.p.lines.list.take k++[(uV (some ⟨b8,0,none⟩) 1 (some ⟨b7,0,none⟩) 1)]++x.p.lines.list.drop k)⟩⟩:ProgV).pr x.dims.list (x.ins.list.map ArrV.arr)).2.1,.int .i64 (fF (⟨x.p.inputs,⟨A12,c13,(x.p.lines.list.take k++[(uV (some ⟨b8,0,none⟩) 1 (some ⟨b7,0,none⟩) 1)]++x.p.lines.list.drop k)⟩⟩:ProgV).pr x.dims.list (x.ins.list.map ArrV.arr)).2.2]]) rfl ?_;refine sp3 hT ?_;refine cE rfl rfl rfl rfl xT rfl fun b21=>?_;refine sp hT ?_;refine sto hT .head ?_;refine nn<|bA<|sr<|ss (ldN hT (bM .head)) ?_;refine ss (bY rfl rfl (vX)) ?_;refine ss (fJ ⟨(fF (⟨x.p.inputs,⟨A12,c13,(x.p.lines.list.take k++[(uV (some ⟨b8,0,none⟩) 1 (some ⟨b7,0,none⟩) 1)]++x.p.lines.list.drop k)⟩⟩:ProgV).pr x.dims.list (x.ins.list.map ArrV.arr)).2.1,(fF (⟨x.p.inputs,⟨A12,c13,(x.p.lines.list.take k++[(uV (some ⟨b8,0,none⟩) 1 (some ⟨b7,0,none⟩) 1)]++x.p.lines.list.drop k)⟩⟩:ProgV).pr x.dims.list (x.ins.list.map ArrV.arr)).2.2⟩ ⟨0,0⟩ rfl rfl rfl) ?_;refine nn<|bH rfl (fun hc129=>?_) (fun hc129=>?_)
  · have hc129:=fZ hc129;have h3:=hll.1 (flt_not hc129);refine sr<|sp2 hT ?_;refine ss (ldN hT (bM kT1)) ?_;refine ss (ldN hT (bM .head)) ?_;refine ss (uW ⟨(fF x.p.pr x.dims.list (x.ins.list.map ArrV.arr)).2.1,(fF x.p.pr x.dims.list (x.ins.list.map ArrV.arr)).2.2⟩ ⟨(fF (⟨x.p.inputs,⟨A12,c13,(x.p.lines.list.take k++[(uV (some ⟨b8,0,none⟩) 1 (some ⟨b7,0,none⟩) 1)]++x.p.lines.list.drop k)⟩⟩:ProgV).pr x.dims.list (x.ins.list.map ArrV.arr)).2.1,(fF (⟨x.p.inputs,⟨A12,c13,(x.p.lines.list.take k++[(uV (some ⟨b8,0,none⟩) 1 (some ⟨b7,0,none⟩) 1)]++x.p.lines.list.drop k)⟩⟩:ProgV).pr x.dims.list (x.ins.list.map ArrV.arr)).2.2⟩ rfl rfl rfl) ?_;refine sp hT ?_;refine cF (fun hg135=>?_) (fun hg135=>?_)
    · refine sk3 ?_;refine sp2 hT ?_;refine sk3 ?_;refine sp3 hT ?_;refine nn<|bG<|bC ?_;exact bQ () rfl (bD rfl) .nil trivial (rfl)
    refine sp hT ?_;refine ss (ldO hT (dB .head)) ?_;refine sp3 hT ?_;refine cF (fun hg140=>?_) (fun hg140=>?_)
    · have hg140:=eq_of_beq hg140;refine sk3 ?_;refine sp3 hT ?_;refine nn<|bG<|bC ?_;exact bQ () rfl (bD rfl) .nil trivial (rfl)
    have hg140:=beq_eq_false_iff_ne.1 hg140;refine sp hT ?_;refine ss (ldO hT (dB .head)) ?_;refine sp hT ?_;refine cH (t':=true) (left_code h3 (by assumption) (by assumption)) ?_;refine sp3 hT ?_;refine nn<|bG<|bC ?_;exact bQ () rfl (bD rfl) .nil trivial (rfl)
  have hc129:=fO hc129;refine bK<|bB<|bA<|bA ?_;obtain⟨us,vs,hus,hmb,hma⟩:=hll.2 (flt_of hc129);have h2:=left_two hus (hxmb.1.trans (congrArg Prod.fst hmb)) (hxma.1.trans (congrArg Prod.fst hma));have hal:=mean_few hxma.1;refine bF<|ss (ldN hT (bM kT1)) ?_;refine ss (bY rfl rfl (vX)) ?_;refine ss (fJ ⟨(fF x.p.pr x.dims.list (x.ins.list.map ArrV.arr)).2.1,(fF x.p.pr x.dims.list (x.ins.list.map ArrV.arr)).2.2⟩ ⟨0,0⟩ rfl rfl rfl) ?_;refine cH (t':=false) (by rw [hma];rfl) ?_;refine sp4 hT ?_;refine sp2 hT ?_;refine bP (z':=(((xs16.length+1):Nat):Int)) (cK (by omega) (by omega)) ?_;refine sp hT ?_;refine cH (t':=false) (by have:=h2.1;simp;omega) ?_;refine sp hT ?_;refine nn<|cN rfl rfl ?_;refine bK<|bB<|bA ?_;have hlc:=hxmb.2;have hkl:=h2.2.1;have hlb:=(tB hxmb.1).1;refine bV (iD.sl (.slice A18 k c19) (xs20.take k)) (iX (Has.of mT1) (by omega)) ?_;refine bV (iD.sl (.slice (jB A18 (k+1) iD.size c19) (xs20.length-(k+1)) (c19-(k+1))) (xs20.drop (k+1))) (jW (Has.of mT2) hlc (by omega)) ?_;refine cU _ _ [(true,1),(true,2),(true,3),(true,5),(true,6),(true,7),(true,8),(false,0),(false,4),(false,9),(true,10)] cW (by decide+kernel) (.cons .head (.cons .head (.cons .head (.cons .head (.cons .head .nil))))) bE.self ?_;refine puM hT ?_;refine puM hT ?_;refine stM rfl (nQ hT (k:=k) rfl rfl rfl rfl rfl rfl (by omega)) ?_;refine puM hT ?_;refine puM hT ?_;refine puM hT ?_;refine bP (z':=(((k+1):Nat):Int)) (cK (by omega) (by omega)) ?_;refine stM rfl (gG hT (k:=k+1) rfl rfl rfl rfl rfl rfl (by omega)) ?_;refine bZ (o:=_) rfl ?_;refine at_none_arr rfl rfl rfl rfl fun b22=>?_;refine cA (.cons kT1 (.cons kT1 (.cons kT1 (.cons kT1 (.cons kT1 .nil))))) (bE.drop 0) ?_;refine bZ (o:=_) rfl ?_;refine yE .head (bJ (Has.of mT1)) rfl rfl rfl rfl rfl rfl (by simp;omega) (by have:=h2.1;simp;omega) fun A23 c24=>?_;refine cA (.cons kT1 (.cons kT1 (.cons kT1 (.cons kT1 (.cons kT1 .nil))))) (bE.drop 0) ?_;refine bZ (o:=_) rfl ?_;refine yE .head (bJ (Has.of mT0)) rfl rfl rfl rfl rfl rfl (by simp) (by have:=h2.1;simp;omega) fun A25 c26=>?_;refine cA (.cons kT1 (.cons kT1 (.cons kT1 (.cons kT1 (.cons kT1 .nil))))) (bE.drop 0) ?_;refine puM hT ?_;refine cL<|bB<|bA<|bX .head ?_;refine bV (Fact.each (xs20.take k++xs20.drop (k+1)) gB) (left_own (Has.of mT5)) ?_
  obtain⟨z,hz⟩: ∃q,xs20[k]?=some q:=⟨_,List.getElem?_eq_getElem h2.2.1⟩
  refine bV (gB z) (Has.each (Has.of mT6) (List.mem_of_getElem? hz)) ?_;have hzb:=mean_big hxmb.1 z (List.mem_of_getElem? hz);refine bF<|sp4 hT ?_;refine bO Tryz.func15 (same8_spec A25 A14 c26 c15 (xs20.take k++xs20.drop (k+1)) xs16 (by simp;omega) (fun a ha=>mean_big hxmb.1 a (by rcases List.mem_append.1 ha with ha | ha;exact List.mem_of_mem_take ha;exact List.mem_of_mem_drop ha))) rfl rfl .nil ⟨(Has.of mT2),(Has.of mT1),(Has.of mT9),(Has.of mT10),trivial⟩ fun _=>?_;refine cH (t':=true) (decide_eq_true h2.2.2.2) ?_;refine sp4 hT ?_;refine ss (bS hT (k:=k) (bJ (Has.of mT6)) rfl rfl rfl rfl rfl rfl rfl (h2.2.1)) ?_;refine ss (dL hT (cR.knows (bJ (Has.of mT6)) (k:=k) (x:=z) hz 0) rfl rfl rfl rfl rfl) ?_;refine fL (m:=5) rfl rfl rfl rfl rfl fun b27=>?_;refine dJ (E:=cS) (xs:=[5]) .head (by simp [maxLen]) ?_;refine bX .head ?_;refine ss (bY rfl rfl (rM _ _ _)) ?_;refine bO Tryz.func17 (xP z (⟨⟨none,0,[]⟩,⟨(some ⟨b27,0,none⟩),1,[5]⟩⟩:ArrV) hzb.1 hzb.2) rfl rfl .nil ⟨jN (Has.of mT1),jV (Has.of mT1),rC,(Has.of mT0),trivial⟩ fun _=>?_;refine cH (t':=true) (decide_eq_true (h2.2.2.1 z hz)) ?_;refine sp2 hT ?_;refine nn<|bG ?_;exact bQ () rfl (bD rfl) .nil trivial (rfl)
end Go.Proofs.YtciimjjleglmaaaGreatDoor.meanLeft
