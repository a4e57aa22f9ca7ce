/- Texts of one proof, one behind the other: TysC, LawC. -/
import Derived.Test.YtciimjjleglmaaaGreatDoorM10
import Derived.Test.YtciimjjleglmaaaGreatDoorM15
import Derived.Test.YtciimjjleglmaaaGreatDoorM14
namespace Go.Proofs.YtciimjjleglmaaaGreatDoor
open Go.RowKit Go.ChangeShapes Go.WideShapes
structure bCo where
  p:ProgV
  dims:(Sl Int)
  ins:(Sl ArrV)
  deriving Inhabited
def caseE:Flat bCo where
  size:=4
  cells:=fun x=>[.slice x.p.inputs.addr x.p.inputs.list.length x.p.inputs.cap,.slice x.p.lines.addr x.p.lines.list.length x.p.lines.cap,.slice x.dims.addr x.dims.list.length x.dims.cap,.slice x.ins.addr x.ins.list.length x.ins.cap]
  len:=fun _=>rfl
  one:=fun x u hu=>by
    simp at hu
    rcases hu with rfl | rfl | rfl | rfl<;>rfl
  pos:=by decide
def caseTy:Ty bCo:=⟨caseE,fun x=>(progTy.deep x.p).and ((((xS.slice 8)).deep x.dims).and ((((bMh.slice 48)).deep x.ins).and (Fact.true)))⟩
set_option maxRecDepth 100000 in
theorem opens_case{H:Type}{enc:TypeId×Value→H}{w:World}:oP enc Tryz.prog w 33 caseE.cells caseTy.deep:=fun fuel cs x h hw=>by
  obtain⟨xs,n,_,rfl,hlen,hxl,hf⟩:=DataW.trod_struct Tryz.underlying33 h;have hc:Tryz.prog.cellsOf 33=4:=by kernel_rfl
  rw [hc] at hlen;have hxl':xs.length=3:=hxl
  match cs,hlen with
  | [c0,c1,c2,c3],_=>
    have h0:DataW.trod enc Tryz.prog w 0 (fun _=>true) true n 25 (([c0,c1,c2,c3].drop 0).take (Tryz.prog.cellsOf 25))=xs[0]?:=hf 0 _ rfl;have h1:DataW.trod enc Tryz.prog w 0 (fun _=>true) true n 30 (([c0,c1,c2,c3].drop 2).take (Tryz.prog.cellsOf 30))=xs[1]?:=hf 1 _ rfl;have h2:DataW.trod enc Tryz.prog w 0 (fun _=>true) true n 31 (([c0,c1,c2,c3].drop 3).take (Tryz.prog.cellsOf 31))=xs[2]?:=hf 2 _ rfl;rw [List.getElem?_eq_getElem (by omega)] at h0;obtain⟨a0,e0,d0⟩:=opens_prog _ _ _ h0 (dR Tryz.underlying33 hw (j:=0) rfl (by rw [List.getElem?_map,List.getElem?_eq_getElem (by omega)];rfl))
    have q0:[c0,c1]=[.slice a0.inputs.addr a0.inputs.list.length a0.inputs.cap,.slice a0.lines.addr a0.lines.list.length a0.lines.cap]:=by
      have hk:Tryz.prog.cellsOf 25=2:=by kernel_rfl
      rw [hk] at e0;exact e0
    clear e0;simp only [List.cons.injEq,and_true] at q0;rw [List.getElem?_eq_getElem (by omega)] at h1;obtain⟨a1,e1,d1⟩:=(iS (T:=xS) (b:=8) Tryz.underlying30 (by kernel_rfl) (by kernel_rfl) (lL Tryz.underlying2)) _ _ _ h1 (dR Tryz.underlying33 hw (j:=1) rfl (by rw [List.getElem?_map,List.getElem?_eq_getElem (by omega)];rfl))
    have q1:[c2]=[.slice a1.addr a1.list.length a1.cap]:=by
      have hk:Tryz.prog.cellsOf 30=1:=by kernel_rfl
      rw [hk] at e1;exact e1
    clear e1;simp only [List.cons.injEq,and_true] at q1;rw [List.getElem?_eq_getElem (by omega)] at h2;obtain⟨a2,e2,d2⟩:=(iS (T:=bMh) (b:=48) Tryz.underlying31 (by kernel_rfl) (by kernel_rfl) opens_arr) _ _ _ h2 (dR Tryz.underlying33 hw (j:=2) rfl (by rw [List.getElem?_map,List.getElem?_eq_getElem (by omega)];rfl))
    have q2:[c3]=[.slice a2.addr a2.list.length a2.cap]:=by
      have hk:Tryz.prog.cellsOf 31=1:=by kernel_rfl
      rw [hk] at e2;exact e2
    clear e2;simp only [List.cons.injEq,and_true] at q2;obtain⟨rfl,rfl⟩:=q0;obtain rfl:=q1;obtain rfl:=q2;exact⟨⟨a0,a1,a2⟩,rfl,d0,d1,d2,trivial⟩
def caseT:Tab:=[(3,⟨.int .i64,1⟩),(2,⟨.int .i64,1⟩),(5,⟨.int .u8,1⟩),(9,⟨.string,1⟩),(4,⟨.bool,1⟩),(47,⟨.int .u8,1⟩),(34,⟨.int .i64,1⟩),(30,⟨.slice 2,1⟩),(27,⟨.slice 9,1⟩),(95,⟨.struct [(3,0),(3,1),(9,2),(2,3)],4⟩),(88,⟨.slice 95,1⟩),(36,⟨.struct [(3,0),(34,1)],2⟩),(62,⟨.struct [(9,0),(2,1)],2⟩),(58,⟨.slice 62,1⟩),(60,⟨.struct [(9,0),(3,1),(58,2)],3⟩),(22,⟨.slice 60,1⟩),(49,⟨.struct [(3,0),(3,1),(47,2),(9,3),(30,4)],5⟩),(44,⟨.slice 49,1⟩),(46,⟨.struct [(9,0),(3,1),(44,2)],3⟩),(23,⟨.slice 46,1⟩),(25,⟨.struct [(22,0),(23,1)],2⟩),(93,⟨.struct [(88,0),(3,1),(3,2)],3⟩),(42,⟨.struct [(30,0),(30,1)],2⟩),(31,⟨.slice 42,1⟩),(136,⟨.slice 30,1⟩),(33,⟨.struct [(25,0),(30,2),(31,3)],4⟩),(91,⟨.other,1⟩),(162,⟨.slice 1,1⟩),(1,⟨.other,1⟩),(102,⟨.other,1⟩),(70,⟨.other,1⟩),(130,⟨.other,1⟩),(131,⟨.slice 130,1⟩),(50,⟨.int .u64,1⟩),(68,⟨.map 9 4,1⟩),(75,⟨.map 9 42,1⟩),(133,⟨.other,1⟩),(135,⟨.struct [(133,0),(34,1)],2⟩),(77,⟨.struct [(75,0),(3,1)],2⟩),(57,⟨.array 2 9,2⟩),(53,⟨.array 4 9,4⟩)]
theorem caseT_ok:fZ Tryz.prog caseT:=vH.ok
  ⟨⟨by rw [Tryz.underlying3];rfl,by kernel_rfl⟩,
    ⟨by rw [Tryz.underlying2];rfl,by kernel_rfl⟩,
    ⟨by rw [Tryz.underlying5];rfl,by kernel_rfl⟩,
    ⟨by rw [Tryz.underlying9];rfl,by kernel_rfl⟩,
    ⟨by rw [Tryz.underlying4];rfl,by kernel_rfl⟩,
    ⟨by rw [Tryz.underlying47];rfl,by kernel_rfl⟩,
    ⟨by rw [Tryz.underlying34];rfl,by kernel_rfl⟩,
    ⟨by rw [Tryz.underlying30];rfl,by kernel_rfl⟩,
    ⟨by rw [Tryz.underlying27];rfl,by kernel_rfl⟩,
    ⟨by rw [Tryz.underlying95];rfl,by kernel_rfl⟩,
    ⟨by rw [Tryz.underlying88];rfl,by kernel_rfl⟩,
    ⟨by rw [Tryz.underlying36];rfl,by kernel_rfl⟩,
    ⟨by rw [Tryz.underlying62];rfl,by kernel_rfl⟩,
    ⟨by rw [Tryz.underlying58];rfl,by kernel_rfl⟩,
    ⟨by rw [Tryz.underlying60];rfl,by kernel_rfl⟩,
    ⟨by rw [Tryz.underlying22];rfl,by kernel_rfl⟩,
    ⟨by rw [Tryz.underlying49];rfl,by kernel_rfl⟩,
    ⟨by rw [Tryz.underlying44];rfl,by kernel_rfl⟩,
    ⟨by rw [Tryz.underlying46];rfl,by kernel_rfl⟩,
    ⟨by rw [Tryz.underlying23];rfl,by kernel_rfl⟩,
    ⟨by rw [Tryz.underlying25];rfl,by kernel_rfl⟩,
    ⟨by rw [Tryz.underlying93];rfl,by kernel_rfl⟩,
    ⟨by rw [Tryz.underlying42];rfl,by kernel_rfl⟩,
    ⟨by rw [Tryz.underlying31];rfl,by kernel_rfl⟩,
    ⟨by rw [Tryz.underlying136];rfl,by kernel_rfl⟩,
    ⟨by rw [Tryz.underlying33];rfl,by kernel_rfl⟩,
    ⟨by rw [Tryz.underlying91];rfl,by kernel_rfl⟩,
    ⟨by rw [Tryz.underlying162];rfl,by kernel_rfl⟩,
    ⟨by rw [Tryz.underlying1];rfl,by kernel_rfl⟩,
    ⟨by rw [Tryz.underlying102];rfl,by kernel_rfl⟩,
    ⟨by rw [Tryz.underlying70];rfl,by kernel_rfl⟩,
    ⟨by rw [Tryz.underlying130];rfl,by kernel_rfl⟩,
    ⟨by rw [Tryz.underlying131];rfl,by kernel_rfl⟩,
    ⟨by rw [Tryz.underlying50];rfl,by kernel_rfl⟩,
    ⟨by rw [Tryz.underlying68];rfl,by kernel_rfl⟩,
    ⟨by rw [Tryz.underlying75];rfl,by kernel_rfl⟩,
    ⟨by rw [Tryz.underlying133];rfl,by kernel_rfl⟩,
    ⟨by rw [Tryz.underlying135];rfl,by kernel_rfl⟩,
    ⟨by rw [Tryz.underlying77];rfl,by kernel_rfl⟩,
    ⟨by rw [Tryz.underlying57];rfl,by kernel_rfl⟩,
    ⟨by rw [Tryz.underlying53];rfl,by kernel_rfl⟩,trivial⟩
end Go.Proofs.YtciimjjleglmaaaGreatDoor
namespace Go.Proofs.YtciimjjleglmaaaGreatDoor
open Go.RowKit
theorem arr_of{a:ArrV}{S:Nat→Prop}{w:World}(h:(bMh.deep a).p S w):(gK a).p S w∧a.sides.list.length≤17592186044416∧a.data.list.length≤17592186044416:=by
  obtain⟨⟨⟨⟨s1,_⟩,s2⟩,s3⟩,⟨⟨⟨d1,_⟩,d2⟩,d3⟩,_⟩:=h;have s2:a.sides.list.length*8≤140737488355328:=s2;have d2:a.data.list.length*8≤140737488355328:=d2;exact⟨⟨⟨s1,d1⟩,s3,d3⟩,by omega,by omega⟩
theorem arrs_of{l:Sl ArrV}{S:Nat→Prop}{w:World}(h:((bMh.slice 48).deep l).p S w):(jP.sl (.slice l.addr l.list.length l.cap) l.list).p S w∧(Fact.each l.list gK).p S w∧l.list.length≤2932031007403∧ ∀a∈l.list,a.sides.list.length≤17592186044416∧a.data.list.length≤17592186044416:=by
  obtain⟨⟨h1,h2⟩,h3⟩:=h;have h2: ∀a∈l.list,(bMh.deep a).p S w:=h2;have h3:l.list.length*48≤140737488355328:=h3;exact⟨h1,fun a ha=>(arr_of (h2 a ha)).1,by omega,fun a ha=>(arr_of (h2 a ha)).2⟩
theorem nums_of{l:Sl Int}{S:Nat→Prop}{w:World}(h:((xS.slice 8).deep l).p S w):(cS.sl (.slice l.addr l.list.length l.cap) l.list).p S w∧l.list.length≤17592186044416:=by
  obtain⟨⟨h1,_⟩,h3⟩:=h;have h3:l.list.length*8≤140737488355328:=h3;exact⟨h1,by omega⟩
structure wB (x:bCo):Prop where
  ok:pG x.p
  l1:x.p.inputs.list.length≤140737488355328
  l2:x.p.lines.list.length≤2932031007403
  dims:x.dims.list.length≤17592186044416
  ins:x.ins.list.length≤2932031007403
  arr: ∀a∈x.ins.list,a.sides.list.length≤17592186044416∧a.data.list.length≤17592186044416
  items: ∀l∈x.p.lines.list,l.items.list.length≤2199023255552
theorem wB.hdl{x:bCo}(h:wB x):x.dims.list.length≤140737488355328:=Nat.le_trans h.dims (by decide)
theorem wB.l2'{x:bCo}(h:wB x):x.p.lines.list.length≤140737488355328:=Nat.le_trans h.l2 (by decide)
theorem wB.hI{x:bCo}(h:wB x): ∀a∈x.ins.list,a.sides.list.length≤140737488355328:=fun a ha=>Nat.le_trans (h.arr a ha).1 (by decide)
theorem case_of{x:bCo}{S:Nat→Prop}{w:World}(h:(caseTy.deep x).p S w):wB x∧
    ((iJ.sl (.slice x.p.inputs.addr x.p.inputs.list.length x.p.inputs.cap) x.p.inputs.list).p S w∧(gX x.p.inputs.list).p S w∧(lJ.sl (.slice x.p.lines.addr x.p.lines.list.length x.p.lines.cap) x.p.lines.list).p S w∧(jB x.p.lines.list).p S w)∧
    (cS.sl (.slice x.dims.addr x.dims.list.length x.dims.cap) x.dims.list).p S w∧(jP.sl (.slice x.ins.addr x.ins.list.length x.ins.cap) x.ins.list).p S w∧(Fact.each x.ins.list gK).p S w:=by
  obtain⟨hp,hd,hi,_⟩:=h;obtain⟨h1,h2,h3,h4⟩:=prog_of hp;obtain⟨d1,d2⟩:=nums_of hd;obtain⟨a1,a2,a3,a4⟩:=arrs_of hi;obtain⟨_,⟨⟨_,l2⟩,l3⟩,_⟩:=hp;have l2: ∀y∈x.p.lines.list,(bHo.deep y).p S w:=l2;have l3:x.p.lines.list.length*48≤140737488355328:=l3;refine⟨⟨h2,h3,by omega,d2,a3,a4,fun y hy=>?_⟩,h1,d1,a1,a2⟩;have:=(l2 y hy).2.2.1.2;have this:y.items.list.length*64≤140737488355328:=this;omega
theorem yH{p:gG}{dims:List Int}{ins:List Arr}{xs:List ArrV}(h:xs.map ArrV.arr=(iK p dims ins).1):xs.length≤64∧ ∀a∈xs,a.sides.list.length≤4∧a.data.list.length≤65536:=by
  have hl:xs.length=(xs.map ArrV.arr).length:=(List.length_map _).symm
  by_cases e:(iK p dims ins).2.2=0
  · obtain⟨h0,h1,h2⟩:=bJs.1 e
    have hr:(dE p).2=true:=by
      cases hr:(dE p).2 with
      | true=>rfl
      | false=>
        have:iK p dims ins=([],(0,50)):=by
          have hb:fE p dims ins=([],(0,50)):=by
            unfold fE;rw [hr];rfl
          unfold iK;rw [hb];rfl
        rw [this] at e;cases e
    refine⟨?_,fun a ha=>?_⟩
    · rw [hl,h,h1];exact(bAh hr).lns
    · have:=h2 a.arr (by rw [←h];exact List.mem_map.2 ⟨a,ha,rfl⟩);exact⟨iI this,gY this⟩
  · have e1:=bJs.2 (fun k=>e (congrArg Prod.snd k));rw [e1] at h;have:xs=[]:=List.map_eq_nil_iff.1 h;subst this;exact⟨by simp,fun a ha=>by simp at ha⟩
theorem mean_big{p:gG}{dims:List Int}{ins:List Arr}{xs:List ArrV}(h:xs.map ArrV.arr=(iK p dims ins).1): ∀a∈xs,a.sides.list.length≤140737488355328∧a.data.list.length≤140737488355328:=fun a ha=>⟨Nat.le_trans ((yH h).2 a ha).1 (by decide),Nat.le_trans ((yH h).2 a ha).2 (by decide)⟩
theorem mean_few{p:gG}{dims:List Int}{ins:List Arr}{xs:List ArrV}(h:xs.map ArrV.arr=(iK p dims ins).1):xs.length≤140737488355328:=Nat.le_trans (yH h).1 (by decide)
end Go.Proofs.YtciimjjleglmaaaGreatDoor
