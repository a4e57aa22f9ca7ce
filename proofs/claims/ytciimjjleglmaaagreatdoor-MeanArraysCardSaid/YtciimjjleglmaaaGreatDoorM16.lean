/- Texts of one proof, one behind the other: TysC, LawC, ArrsL, MeanArraysW. -/
import Derived.Test.YtciimjjleglmaaaGreatDoorM10
import Derived.Test.YtciimjjleglmaaaGreatDoorM15
import Derived.Test.YtciimjjleglmaaaGreatDoorM14
namespace Go.Proofs.YtciimjjleglmaaaGreatDoor
open Go.RowKit Go.ChangeShapes Go.WideShapes
def progcE:Flat ProgV where
  size:=2
  cells:=fun x=>[.slice x.inputs.addr x.inputs.list.length x.inputs.cap,.slice x.lines.addr x.lines.list.length x.lines.cap]
  len:=fun _=>rfl
  one:=fun x u hu=>by
    simp at hu
    rcases hu with rfl | rfl<;>rfl
  pos:=by decide
def progcTy:Ty ProgV:=⟨progcE,fun x=>(((zN.slicec 48)).deep x.inputs).and ((((bAz.slicec 48)).deep x.lines).and (Fact.true))⟩
set_option maxRecDepth 100000 in
theorem opens_progc{H:Type}{enc:TypeId×Value→H}{w:World}:nV enc Tryz.prog w 25 progcE.cells progcTy.deep:=fun fuel cs x h hw=>by
  obtain⟨xs,n,_,rfl,hlen,hxl,hf⟩:=DataW.trod_struct Tryz.underlying25 h;have hc:Tryz.prog.cellsOf 25=2:=by kernel_rfl
  rw [hc] at hlen;have hxl':xs.length=2:=hxl
  match cs,hlen with
  | [c0,c1],_=>
    have h0:DataW.trod enc Tryz.prog w 0 (fun _=>true) true n 22 (([c0,c1].drop 0).take (Tryz.prog.cellsOf 22))=xs[0]?:=hf 0 _ rfl;have h1:DataW.trod enc Tryz.prog w 0 (fun _=>true) true n 23 (([c0,c1].drop 1).take (Tryz.prog.cellsOf 23))=xs[1]?:=hf 1 _ rfl;rw [List.getElem?_eq_getElem (by omega)] at h0;obtain⟨a0,e0,d0⟩:=(wN Tryz.underlying22 (iI (T:=zN) (b:=48) Tryz.underlying22 (by kernel_rfl) (by kernel_rfl) opens_input)) _ _ _ h0 (dR Tryz.underlying25 hw (j:=0) rfl (by rw [List.getElem?_map,List.getElem?_eq_getElem (by omega)];rfl))
    have q0:[c0]=[.slice a0.addr a0.list.length a0.cap]:=by
      have hk:Tryz.prog.cellsOf 22=1:=by kernel_rfl
      rw [hk] at e0;exact e0
    clear e0;simp only [List.cons.injEq,and_true] at q0;rw [List.getElem?_eq_getElem (by omega)] at h1;obtain⟨a1,e1,d1⟩:=(wN Tryz.underlying23 (iI (T:=bAz) (b:=48) Tryz.underlying23 (by kernel_rfl) (by kernel_rfl) opens_line)) _ _ _ h1 (dR Tryz.underlying25 hw (j:=1) rfl (by rw [List.getElem?_map,List.getElem?_eq_getElem (by omega)];rfl))
    have q1:[c1]=[.slice a1.addr a1.list.length a1.cap]:=by
      have hk:Tryz.prog.cellsOf 23=1:=by kernel_rfl
      rw [hk] at e1;exact e1
    clear e1;simp only [List.cons.injEq,and_true] at q1;obtain rfl:=q0;obtain rfl:=q1;exact⟨⟨a0,a1⟩,rfl,d0,d1,trivial⟩
structure bCm where
  p:ProgV
  dims:(Sl Int)
  ins:(Sl ArrV)
  deriving Inhabited
def caseE:Flat bCm where
  size:=4
  cells:=fun x=>[.slice x.p.inputs.addr x.p.inputs.list.length x.p.inputs.cap,.slice x.p.lines.addr x.p.lines.list.length x.p.lines.cap,.slice x.dims.addr x.dims.list.length x.dims.cap,.slice x.ins.addr x.ins.list.length x.ins.cap]
  len:=fun _=>rfl
  one:=fun x u hu=>by
    simp at hu
    rcases hu with rfl | rfl | rfl | rfl<;>rfl
  pos:=by decide
def caseTy:Ty bCm:=⟨caseE,fun x=>(progcTy.deep x.p).and ((((wS.slice 8)).deep x.dims).and ((((bJd.slice 48)).deep x.ins).and (Fact.true)))⟩
set_option maxRecDepth 100000 in
theorem opens_case{H:Type}{enc:TypeId×Value→H}{w:World}:nV enc Tryz.prog w 33 caseE.cells caseTy.deep:=fun fuel cs x h hw=>by
  obtain⟨xs,n,_,rfl,hlen,hxl,hf⟩:=DataW.trod_struct Tryz.underlying33 h;have hc:Tryz.prog.cellsOf 33=4:=by kernel_rfl
  rw [hc] at hlen;have hxl':xs.length=3:=hxl
  match cs,hlen with
  | [c0,c1,c2,c3],_=>
    have h0:DataW.trod enc Tryz.prog w 0 (fun _=>true) true n 25 (([c0,c1,c2,c3].drop 0).take (Tryz.prog.cellsOf 25))=xs[0]?:=hf 0 _ rfl;have h1:DataW.trod enc Tryz.prog w 0 (fun _=>true) true n 30 (([c0,c1,c2,c3].drop 2).take (Tryz.prog.cellsOf 30))=xs[1]?:=hf 1 _ rfl;have h2:DataW.trod enc Tryz.prog w 0 (fun _=>true) true n 31 (([c0,c1,c2,c3].drop 3).take (Tryz.prog.cellsOf 31))=xs[2]?:=hf 2 _ rfl;rw [List.getElem?_eq_getElem (by omega)] at h0;obtain⟨a0,e0,d0⟩:=opens_progc _ _ _ h0 (dR Tryz.underlying33 hw (j:=0) rfl (by rw [List.getElem?_map,List.getElem?_eq_getElem (by omega)];rfl))
    have q0:[c0,c1]=[.slice a0.inputs.addr a0.inputs.list.length a0.inputs.cap,.slice a0.lines.addr a0.lines.list.length a0.lines.cap]:=by
      have hk:Tryz.prog.cellsOf 25=2:=by kernel_rfl
      rw [hk] at e0;exact e0
    clear e0;simp only [List.cons.injEq,and_true] at q0;rw [List.getElem?_eq_getElem (by omega)] at h1;obtain⟨a1,e1,d1⟩:=(iI (T:=wS) (b:=8) Tryz.underlying30 (by kernel_rfl) (by kernel_rfl) (kR Tryz.underlying2)) _ _ _ h1 (dR Tryz.underlying33 hw (j:=1) rfl (by rw [List.getElem?_map,List.getElem?_eq_getElem (by omega)];rfl))
    have q1:[c2]=[.slice a1.addr a1.list.length a1.cap]:=by
      have hk:Tryz.prog.cellsOf 30=1:=by kernel_rfl
      rw [hk] at e1;exact e1
    clear e1;simp only [List.cons.injEq,and_true] at q1;rw [List.getElem?_eq_getElem (by omega)] at h2;obtain⟨a2,e2,d2⟩:=(iI (T:=bJd) (b:=48) Tryz.underlying31 (by kernel_rfl) (by kernel_rfl) opens_arr) _ _ _ h2 (dR Tryz.underlying33 hw (j:=2) rfl (by rw [List.getElem?_map,List.getElem?_eq_getElem (by omega)];rfl))
    have q2:[c3]=[.slice a2.addr a2.list.length a2.cap]:=by
      have hk:Tryz.prog.cellsOf 31=1:=by kernel_rfl
      rw [hk] at e2;exact e2
    clear e2;simp only [List.cons.injEq,and_true] at q2;obtain⟨rfl,rfl⟩:=q0;obtain rfl:=q1;obtain rfl:=q2;exact⟨⟨a0,a1,a2⟩,rfl,d0,d1,d2,trivial⟩
def caseT:Tab:=[(3,⟨.int .i64,1⟩),(2,⟨.int .i64,1⟩),(5,⟨.int .u8,1⟩),(9,⟨.string,1⟩),(4,⟨.bool,1⟩),(47,⟨.int .u8,1⟩),(34,⟨.int .i64,1⟩),(30,⟨.slice 2,1⟩),(27,⟨.slice 9,1⟩),(95,⟨.struct [(3,0),(3,1),(9,2),(2,3)],4⟩),(88,⟨.slice 95,1⟩),(36,⟨.struct [(3,0),(34,1)],2⟩),(62,⟨.struct [(9,0),(2,1)],2⟩),(58,⟨.slice 62,1⟩),(60,⟨.struct [(9,0),(3,1),(58,2)],3⟩),(22,⟨.slice 60,1⟩),(49,⟨.struct [(3,0),(3,1),(47,2),(9,3),(30,4)],5⟩),(44,⟨.slice 49,1⟩),(46,⟨.struct [(9,0),(3,1),(44,2)],3⟩),(23,⟨.slice 46,1⟩),(25,⟨.struct [(22,0),(23,1)],2⟩),(93,⟨.struct [(88,0),(3,1),(3,2)],3⟩),(42,⟨.struct [(30,0),(30,1)],2⟩),(31,⟨.slice 42,1⟩),(136,⟨.slice 30,1⟩),(33,⟨.struct [(25,0),(30,2),(31,3)],4⟩),(91,⟨.other,1⟩),(162,⟨.slice 1,1⟩),(1,⟨.other,1⟩),(102,⟨.other,1⟩),(70,⟨.other,1⟩),(130,⟨.other,1⟩),(131,⟨.slice 130,1⟩),(50,⟨.int .u64,1⟩),(68,⟨.map 9 4,1⟩),(75,⟨.map 9 42,1⟩),(133,⟨.other,1⟩),(135,⟨.struct [(133,0),(34,1)],2⟩),(77,⟨.struct [(75,0),(3,1)],2⟩),(57,⟨.array 2 9,2⟩),(53,⟨.array 4 9,4⟩)]
theorem caseT_ok:fR Tryz.prog caseT:=vI.ok
  ⟨⟨by rw [Tryz.underlying3];rfl,by kernel_rfl⟩,
    ⟨by rw [Tryz.underlying2];rfl,by kernel_rfl⟩,
    ⟨by rw [Tryz.underlying5];rfl,by kernel_rfl⟩,
    ⟨by rw [Tryz.underlying9];rfl,by kernel_rfl⟩,
    ⟨by rw [Tryz.underlying4];rfl,by kernel_rfl⟩,
    ⟨by rw [Tryz.underlying47];rfl,by kernel_rfl⟩,
    ⟨by rw [Tryz.underlying34];rfl,by kernel_rfl⟩,
    ⟨by rw [Tryz.underlying30];rfl,by kernel_rfl⟩,
    ⟨by rw [Tryz.underlying27];rfl,by kernel_rfl⟩,
    ⟨by rw [Tryz.underlying95];rfl,by kernel_rfl⟩,
    ⟨by rw [Tryz.underlying88];rfl,by kernel_rfl⟩,
    ⟨by rw [Tryz.underlying36];rfl,by kernel_rfl⟩,
    ⟨by rw [Tryz.underlying62];rfl,by kernel_rfl⟩,
    ⟨by rw [Tryz.underlying58];rfl,by kernel_rfl⟩,
    ⟨by rw [Tryz.underlying60];rfl,by kernel_rfl⟩,
    ⟨by rw [Tryz.underlying22];rfl,by kernel_rfl⟩,
    ⟨by rw [Tryz.underlying49];rfl,by kernel_rfl⟩,
    ⟨by rw [Tryz.underlying44];rfl,by kernel_rfl⟩,
    ⟨by rw [Tryz.underlying46];rfl,by kernel_rfl⟩,
    ⟨by rw [Tryz.underlying23];rfl,by kernel_rfl⟩,
    ⟨by rw [Tryz.underlying25];rfl,by kernel_rfl⟩,
    ⟨by rw [Tryz.underlying93];rfl,by kernel_rfl⟩,
    ⟨by rw [Tryz.underlying42];rfl,by kernel_rfl⟩,
    ⟨by rw [Tryz.underlying31];rfl,by kernel_rfl⟩,
    ⟨by rw [Tryz.underlying136];rfl,by kernel_rfl⟩,
    ⟨by rw [Tryz.underlying33];rfl,by kernel_rfl⟩,
    ⟨by rw [Tryz.underlying91];rfl,by kernel_rfl⟩,
    ⟨by rw [Tryz.underlying162];rfl,by kernel_rfl⟩,
    ⟨by rw [Tryz.underlying1];rfl,by kernel_rfl⟩,
    ⟨by rw [Tryz.underlying102];rfl,by kernel_rfl⟩,
    ⟨by rw [Tryz.underlying70];rfl,by kernel_rfl⟩,
    ⟨by rw [Tryz.underlying130];rfl,by kernel_rfl⟩,
    ⟨by rw [Tryz.underlying131];rfl,by kernel_rfl⟩,
    ⟨by rw [Tryz.underlying50];rfl,by kernel_rfl⟩,
    ⟨by rw [Tryz.underlying68];rfl,by kernel_rfl⟩,
    ⟨by rw [Tryz.underlying75];rfl,by kernel_rfl⟩,
    ⟨by rw [Tryz.underlying133];rfl,by kernel_rfl⟩,
    ⟨by rw [Tryz.underlying135];rfl,by kernel_rfl⟩,
    ⟨by rw [Tryz.underlying77];rfl,by kernel_rfl⟩,
    ⟨by rw [Tryz.underlying57];rfl,by kernel_rfl⟩,
    ⟨by rw [Tryz.underlying53];rfl,by kernel_rfl⟩,trivial⟩
end Go.Proofs.YtciimjjleglmaaaGreatDoor
namespace Go.Proofs.YtciimjjleglmaaaGreatDoor
open Go.RowKit
theorem arr_of{a:ArrV}{S:Nat→Prop}{w:World}(h:(bJd.deep a).p S w):(gA a).p S w∧a.sides.list.length≤17592186044416∧a.data.list.length≤17592186044416:=by
  obtain⟨⟨⟨⟨s1,_⟩,s2⟩,s3⟩,⟨⟨⟨d1,_⟩,d2⟩,d3⟩,_⟩:=h;have s2:a.sides.list.length*8≤140737488355328:=s2;have d2:a.data.list.length*8≤140737488355328:=d2;exact⟨⟨⟨s1,d1⟩,s3,d3⟩,by omega,by omega⟩
theorem arrs_of{l:Sl ArrV}{S:Nat→Prop}{w:World}(h:((bJd.slice 48).deep l).p S w):(iN.sl (.slice l.addr l.list.length l.cap) l.list).p S w∧(Fact.each l.list gA).p S w∧l.list.length≤2932031007403∧ ∀a∈l.list,a.sides.list.length≤17592186044416∧a.data.list.length≤17592186044416:=by
  obtain⟨⟨h1,h2⟩,h3⟩:=h;have h2: ∀a∈l.list,(bJd.deep a).p S w:=h2;have h3:l.list.length*48≤140737488355328:=h3;exact⟨h1,fun a ha=>(arr_of (h2 a ha)).1,by omega,fun a ha=>(arr_of (h2 a ha)).2⟩
theorem nums_of{l:Sl Int}{S:Nat→Prop}{w:World}(h:((wS.slice 8).deep l).p S w):(cT.sl (.slice l.addr l.list.length l.cap) l.list).p S w∧l.list.length≤17592186044416:=by
  obtain⟨⟨h1,_⟩,h3⟩:=h;have h3:l.list.length*8≤140737488355328:=h3;exact⟨h1,by omega⟩
theorem progc_of{a:ProgV}{S:Nat→Prop}{w:World}(h:(progcTy.deep a).p S w):(progTy.deep a).p S w∧a.lines.list.length≤a.lines.cap:=by
  obtain⟨⟨i,_⟩,⟨l,lc⟩,t⟩:=h;exact⟨⟨i,l,t⟩,lc⟩
structure uO (x:bCm):Prop where
  ok:qY x.p
  l1:x.p.inputs.list.length≤140737488355328
  l2:x.p.lines.list.length≤2932031007403
  dims:x.dims.list.length≤17592186044416
  ins:x.ins.list.length≤2932031007403
  arr: ∀a∈x.ins.list,a.sides.list.length≤17592186044416∧a.data.list.length≤17592186044416
  items: ∀l∈x.p.lines.list,l.items.list.length≤2199023255552
  cap:x.p.lines.list.length≤x.p.lines.cap
theorem uO.hdl{x:bCm}(h:uO x):x.dims.list.length≤140737488355328:=Nat.le_trans h.dims (by decide)
theorem uO.l2'{x:bCm}(h:uO x):x.p.lines.list.length≤140737488355328:=Nat.le_trans h.l2 (by decide)
theorem uO.hI{x:bCm}(h:uO x): ∀a∈x.ins.list,a.sides.list.length≤140737488355328:=fun a ha=>Nat.le_trans (h.arr a ha).1 (by decide)
theorem case_of{x:bCm}{S:Nat→Prop}{w:World}(h:(caseTy.deep x).p S w):uO x∧
    ((iH.sl (.slice x.p.inputs.addr x.p.inputs.list.length x.p.inputs.cap) x.p.inputs.list).p S w∧(hO x.p.inputs.list).p S w∧(lH.sl (.slice x.p.lines.addr x.p.lines.list.length x.p.lines.cap) x.p.lines.list).p S w∧(jK x.p.lines.list).p S w)∧
    (cT.sl (.slice x.dims.addr x.dims.list.length x.dims.cap) x.dims.list).p S w∧(iN.sl (.slice x.ins.addr x.ins.list.length x.ins.cap) x.ins.list).p S w∧(Fact.each x.ins.list gA).p S w:=by
  obtain⟨hp,hd,hi,_⟩:=h;obtain⟨hp,hcap⟩:=progc_of hp;obtain⟨h1,h2,h3,h4⟩:=prog_of hp;obtain⟨d1,d2⟩:=nums_of hd;obtain⟨a1,a2,a3,a4⟩:=arrs_of hi;obtain⟨_,⟨⟨_,l2⟩,l3⟩,_⟩:=hp;have l2: ∀y∈x.p.lines.list,(bAz.deep y).p S w:=l2;have l3:x.p.lines.list.length*48≤140737488355328:=l3;refine⟨⟨h2,h3,by omega,d2,a3,a4,fun y hy=>?_,hcap⟩,h1,d1,a1,a2⟩;have:=(l2 y hy).2.2.1.2;have this:y.items.list.length*64≤140737488355328:=this;omega
theorem mean_sizes{p:iK}{dims:List Int}{ins:List Arr}{xs:List ArrV}(h:xs.map ArrV.arr=(jM p dims ins).1):xs.length≤64∧ ∀a∈xs,a.sides.list.length≤4∧a.data.list.length≤65536:=by
  have hl:xs.length=(xs.map ArrV.arr).length:=(List.length_map _).symm
  by_cases e:(jM p dims ins).2.2=0
  · obtain⟨h0,h1,h2⟩:=rD.1 e
    have hr:(dX p).2=true:=by
      cases hr:(dX p).2 with
      | true=>rfl
      | false=>
        have:jM p dims ins=([],(0,50)):=by
          have hb:fM p dims ins=([],(0,50)):=by
            unfold fM;rw [hr];rfl
          unfold jM;rw [hb];rfl
        rw [this] at e;cases e
    refine⟨?_,fun a ha=>?_⟩
    · rw [hl,h,h1];exact(bDr hr).lns
    · have:=h2 a.arr (by rw [←h];exact List.mem_map.2 ⟨a,ha,rfl⟩);exact⟨iC this,gS this⟩
  · have e1:=rD.2 (fun k=>e (congrArg Prod.snd k));rw [e1] at h;have:xs=[]:=List.map_eq_nil_iff.1 h;subst this;exact⟨by simp,fun a ha=>by simp at ha⟩
end Go.Proofs.YtciimjjleglmaaaGreatDoor
namespace Go.Proofs.YtciimjjleglmaaaGreatDoor
open Go.RowKit
theorem sls_take{ys:List ArrV}{p:ArrV}{i:Nat}(h:ys[i]?=some p):jG ys=jG (ys.take i)++p.sides::p.data::jG (ys.drop (i+1)):=by
  obtain⟨hlt,h2⟩:=List.getElem?_eq_some_iff.1 h;have e:ys=ys.take i++p::ys.drop (i+1):=by rw [←h2,List.getElem_cons_drop,List.take_append_drop]
  conv=>lhs;rw [e]
  unfold jG;rw [List.flatMap_append,List.flatMap_cons];rfl
theorem bLd{ys:List ArrV}{p:ArrV}{i:Nat}(h:ys[i]?=some p)(H:List bU):(H++(jG ys).map laneRow).Perm (laneRow p.sides::laneRow p.data::(H++(jG (ys.take i++ys.drop (i+1))).map laneRow)):=by
  have e2:jG (ys.take i++ys.drop (i+1))=jG (ys.take i)++jG (ys.drop (i+1)):=by unfold jG;rw [List.flatMap_append]
  rw [sls_take h,e2];simp only [List.map_append,List.map_cons];refine(List.perm_append_comm).trans ?_;refine(List.Perm.append_right H (List.perm_middle (l₁:=(jG (ys.take i)).map laneRow))).trans ?_;refine List.Perm.cons _ ?_;refine(List.Perm.append_right H (List.perm_middle (l₁:=(jG (ys.take i)).map laneRow))).trans ?_;exact List.Perm.cons _ List.perm_append_comm
theorem arrs_backL{ys:List ArrV}{q:ArrV}{i:Nat}(h:i<ys.length)(H:List bU):(laneRow q.sides::laneRow q.data::(H++(jG (ys.take i++ys.drop (i+1))).map laneRow)).Perm (H++(jG (ys.set i q)).map laneRow):=by
  have hs:(ys.set i q)[i]?=some q:=List.getElem?_set_self h;have:=bLd hs H;have e1:(ys.set i q).take i=ys.take i:=by rw [List.take_set_of_le (Nat.le_refl _)]
  have e2:(ys.set i q).drop (i+1)=ys.drop (i+1):=by rw [List.drop_set_of_lt (by omega)]
  rw [e1,e2] at this;exact this.symm
theorem fam_last{a:bU}{L H:List bU}:((a::L)++H).Perm (a::(H++L)):=List.Perm.cons _ List.perm_append_comm
theorem bEk{ins os:List ArrV}{i:Nat}{a:ArrV}{A B:Option Addr}{c d:Nat}(h:os.map ArrV.arr=(ins.take i).map ArrV.arr)(ha:ins[i]?=some a):(os++[(⟨⟨A,c,a.sides.list⟩,⟨B,d,a.data.list⟩⟩:ArrV)]).map ArrV.arr=(ins.take (i+1)).map ArrV.arr:=by
  obtain⟨hlt,h2⟩:=List.getElem?_eq_some_iff.1 ha;rw [List.map_append,h,List.take_succ_eq_append_getElem hlt,List.map_append,h2];rfl
theorem bBj{os:List ArrV}{a:ArrV}(h: ∀y∈os,y.sides.list.length≤100∧y.data.list.length≤65536)(ha:a.sides.list.length≤100∧a.data.list.length≤65536): ∀y∈os++[a],y.sides.list.length≤100∧y.data.list.length≤65536:=fun y hy=>by
  rcases List.mem_append.1 hy with hy | hy
  · exact h y hy
  · rw [List.mem_singleton.1 hy];exact ha
structure uW (xs ys:List ArrV) (i:Nat):Prop where
  len:ys.length=xs.length
  rest: ∀j,i≤j→ys[j]?=xs[j]?
theorem uW.start(xs:List ArrV):uW xs xs 0:=⟨rfl,fun _ _=>rfl⟩
theorem uW.step{xs ys:List ArrV}{i:Nat}(h:uW xs ys i)(q:ArrV):uW xs (ys.set i q) (i+1):=⟨by rw [List.length_set];exact h.len,fun j hj=>by rw [List.getElem?_set_ne (by omega)];exact h.rest j (by omega)⟩
theorem uW.get{xs ys:List ArrV}{i:Nat}(h:uW xs ys i){p:ArrV}(hp:xs[i]?=some p):ys[i]?=some p:=by rw [h.rest i (Nat.le_refl _),hp]
end Go.Proofs.YtciimjjleglmaaaGreatDoor
namespace Go.Proofs.YtciimjjleglmaaaGreatDoor.meanArrays
open Go.ChangeShapes Go.WideShapes Go.ChangeAt Go.RowKit
set_option maxRecDepth 100000 in
theorem law_spec(x:bCm)(hx:uO x):dH Tryz.prog 5 [.agg #[.slice x.p.inputs.addr x.p.inputs.list.length x.p.inputs.cap,.slice x.p.lines.addr x.p.lines.list.length x.p.lines.cap,.slice x.dims.addr x.dims.list.length x.dims.cap,.slice x.ins.addr x.ins.list.length x.ins.cap]] [] [gW,iH.sl (.slice x.p.inputs.addr x.p.inputs.list.length x.p.inputs.cap) x.p.inputs.list,hO x.p.inputs.list,lH.sl (.slice x.p.lines.addr x.p.lines.list.length x.p.lines.cap) x.p.lines.list,jK x.p.lines.list,cT.sl (.slice x.dims.addr x.dims.list.length x.dims.cap) x.dims.list,iN.sl (.slice x.ins.addr x.ins.list.length x.ins.cap) x.ins.list,Fact.each x.ins.list gA] (fun(_:Unit)=> .bool true) (fun _=>[]) (fun _=>[]):=by
  have hT:=caseT_ok;refine cQ Tryz.func5 rfl Tryz.ntmps5 rfl ?_;intro β hM;refine sr<|fH rfl rfl rfl rfl rfl rfl fun b1=>?_;refine sp hT ?_;refine nn<|sr<|bO Tryz.func10 (shown8_spec) rfl rfl .nil ⟨Has.of mT0,trivial⟩ fun _=>?_;refine sp hT ?_;refine nn<|bA<|sr<|sp hT ?_;refine ss (ldO hT (rH .head)) ?_;refine sp2 hT ?_;refine nn<|bH rfl (fun hc16=>?_) (fun hc16=>?_)
  · have hc16:=of_decide_eq_true hc16;refine sr<|sp2 hT ?_;refine nn<|bG<|bC ?_;exact bQ () rfl (bD rfl) .nil trivial (rfl)
  have hc16:=Int.not_lt.1 (of_decide_eq_false hc16);refine bK<|bB<|sr<|sp hT ?_;refine nn<|bA<|bA<|dM (t:=42) iN ?_;refine bV (Fact.each ([]:List ArrV) gA) (Has.each_nil) ?_;refine bF<|sp hT ?_;refine ss (ldO hT (rH kT1)) ?_;refine sp2 hT ?_;refine nn<|bR<|dC (ι:=Nat×List ArrV×Option Addr×Nat) [(1,_),(3,_),(19,_),(20,_)] ⟨rfl,rfl,rfl,rfl,trivial⟩ (fun⟨i,os,A1,c1⟩=>[(4,.slice A1 os.length c1),(21,.int .i64 (i:Nat))]) (fun⟨i,os,A1,c1⟩=>[iN.row (.slice A1 os.length c1) 42 os]) (fun⟨i,os,A1,c1⟩=>[Fact.pure (i≤x.ins.list.length∧os.map ArrV.arr=(x.ins.list.take i).map ArrV.arr∧ ∀y∈os,y.sides.list.length≤100∧y.data.list.length≤65536),Fact.each os gA]) (fun⟨i,os,A1,c1⟩=>x.ins.list.length-i) (0,[],none,0) ⟨rfl,rfl,trivial⟩ (.cons .head .nil) ⟨Has.pure (⟨by omega,rfl,fun y hy=>by simp at hy⟩),Has.of mT0,trivial⟩ ?_;rintro⟨i,os,A1,c1⟩;dsimp only;refine cE (Has.of mT0) fun hinv6=>?_;refine sr<|sp hT ?_;refine nn<|bA<|bH rfl (fun hc22=>?_) (fun hc22=>?_)
  · have hc22:=of_decide_eq_true hc22;refine bK<|bB<|bA<|bR<|bA ?_
    obtain⟨a,ha⟩: ∃q,x.ins.list[i]?=some q:=⟨_,List.getElem?_eq_getElem (by omega)⟩
    refine bV (gA a) (Has.each (Has.of mT10) (List.mem_of_getElem? ha)) ?_;refine bV (cT.sl (.slice a.sides.addr a.sides.list.length a.sides.cap) a.sides.list) (jL (Has.of mT0)) ?_;refine bV (cT.sl (.slice a.data.addr a.data.list.length a.data.cap) a.data.list) (jT (Has.of mT1)) ?_;refine bF<|ss (bS hT (k:=i) (bJ (Has.of uE)) rfl rfl rfl rfl rfl rfl rfl (by omega)) ?_;refine ss (dJ hT (cR.knows (bJ (Has.of uE)) (k:=i) (x:=a) ha 0) rfl rfl rfl rfl rfl) ?_;refine cF rfl rfl rfl rfl jR rfl fun b2=>?_;refine sto hT .head ?_;refine nn<|bA<|sr<|sp hT ?_;refine ss (ldO hT (dE .head)) ?_;refine sp3 hT ?_;refine cH (fun hg29=>?_) (fun hg29=>?_)
    · have hg29:=of_decide_eq_true hg29;refine sk4 ?_;refine sp hT ?_;refine nn<|cL rfl rfl ?_;refine sr<|sp2 hT ?_;refine nn<|bG<|bC<|bI<|bC<|bC<|bI<|bC ?_;exact bQ () rfl (bD rfl) .nil trivial (rfl)
    have hg29:=Int.not_lt.1 (of_decide_eq_false hg29);refine sp hT ?_;refine ss (ldO hT (bM .head)) ?_;refine sp3 hT ?_;refine nn<|bH rfl (fun hc34=>?_) (fun hc34=>?_)
    · have hc34:=of_decide_eq_true hc34;refine sr<|sp2 hT ?_;refine nn<|bG<|bC<|bI<|bC<|bC<|bI<|bC ?_;exact bQ () rfl (bD rfl) .nil trivial (rfl)
    have hc34:=Int.not_lt.1 (of_decide_eq_false hc34);refine bK<|bB ?_
    have hsz:a.sides.list.length≤100∧a.data.list.length≤65536:=⟨by omega,by omega⟩
    have hol:os.length≤64:=by have:=congrArg List.length hinv6.2.1;simp at this;omega
    refine oV _ _ (.fl 0 (.fl 2 (.fl 3 (.fl 6 (.fl 7 (.two 1 5 (.two 4 5 (.op 5 (.op 8 (.fl 9 (.op 10 (.op 11 (.fl 12 .nil)))))) (.op 4 (.op 8 (.fl 9 (.op 10 (.op 11 (.fl 12 .nil))))))) (.op 1 (.op 4 (.op 8 (.fl 9 (.op 10 (.op 11 (.fl 12 .nil))))))))))))) cY (by decide+kernel) (.cons .head (.cons kT1 .nil)) bE.self ?_;refine puT hT ?_;refine puT hT ?_;refine stT rfl (ldO hT (bM .head)) ?_;refine puT hT ?_;refine stT rfl (ldO hT (dE .head)) ?_;refine lO (o:=_) (o':=_) rfl rfl ?_ ?_
    · refine nE rfl rfl rfl rfl fun b3=>?_;refine cZ (.cons kT1 (.cons kT2 .nil)) (bE.drop 0) ?_;refine lO (o:=_) (o':=_) rfl rfl ?_ ?_
      · refine gO .head (bJ (Has.of mT1)) rfl rfl rfl rfl rfl rfl rfl (by have:=hsz;simp;omega) fun A4 c5=>?_;rw [List.nil_append];refine cZ (.cons kT1 (.cons kT2 .nil)) (bE.drop 0) ?_;refine dP (o:=_) rfl ?_;refine nE rfl rfl rfl rfl fun b6=>?_;refine cZ (.cons kT2 (.cons kT3 .nil)) (bE.drop 0) ?_;refine dP (o:=_) rfl ?_;refine gO .head (bJ (Has.of mT0)) rfl rfl rfl rfl rfl rfl rfl (by have:=hsz;simp;omega) fun A7 c8=>?_;rw [List.nil_append];refine cZ (.cons kT2 (.cons kT3 .nil)) (bE.drop 0) ?_;refine stT rfl (bZ rfl rfl (nC _ _ _ _ _ _)) ?_;refine dP (o:=_) rfl ?_;refine gV (m:=(⟨⟨A4,c5,a.sides.list⟩,⟨A7,c8,a.data.list⟩⟩:ArrV)) rfl rfl rfl rfl rfl fun b9=>?_;refine cZ (.cons kT3 (.cons kT4 .nil)) (bE.drop 0) ?_;refine dP (o:=_) rfl ?_;refine tB kT4 (dF .head rfl) rfl rfl rfl rfl rfl rfl rfl (by have:=hol;simp;omega) fun A10 c11=>?_;refine cZ (.cons kT4 (.cons kT4 .nil)) (bE.drop 0) ?_;refine puT hT ?_;refine gL<|bY<|bB<|dV kT3 fun hcs=>?_;refine bW kT3 ?_;refine dV kT2 fun hcd=>?_;refine bW kT2 ?_;refine bV (Fact.each (os++[(⟨⟨A4,c5,a.sides.list⟩,⟨A7,c8,a.data.list⟩⟩:ArrV)]) gA) (Has.each_snoc (Has.of mT6) (fA (Has.of mT1) (Has.of mT0) ⟨hcs,hcd⟩)) ?_;refine bF<|sp hT ?_;refine bP (z':=(((i+1):Nat):Int)) (cK (by omega) (by omega)) ?_;refine sp hT ?_;refine nn ?_;exact cP (i+1,os++[(⟨⟨A4,c5,a.sides.list⟩,⟨A7,c8,a.data.list⟩⟩:ArrV)],A10,c11) (by dsimp only;omega) ⟨rfl,rfl,trivial⟩ ⟨rfl,rfl,rfl,rfl,trivial⟩ (.cons .head (.cons kT2 .nil)) ⟨Has.pure (⟨by dsimp only;omega,bEk hinv6.2.1 ha,bBj hinv6.2.2 hsz⟩),Has.of mT0,trivial⟩ (bE.drop 8)
      refine nE rfl rfl rfl rfl fun b12=>?_;refine cZ (.cons kT2 (.cons kT3 .nil)) (bE.drop 0) ?_;refine dP (o:=_) rfl ?_;refine gO kT1 (bJ (Has.of mT1)) rfl rfl rfl rfl rfl rfl rfl (by have:=hsz;simp;omega) fun A13 c14=>?_;rw [List.nil_append];refine cZ (.cons kT2 (.cons kT3 .nil)) (bE.drop 0) ?_;refine dP (o:=_) rfl ?_;refine gO kT1 (bJ (Has.of mT0)) rfl rfl rfl rfl rfl rfl rfl (by have:=hsz;simp;omega) fun A15 c16=>?_;rw [List.nil_append];refine cZ (.cons kT2 (.cons kT3 .nil)) (bE.drop 0) ?_;refine stT rfl (bZ rfl rfl (nC _ _ _ _ _ _)) ?_;refine dP (o:=_) rfl ?_;refine gV (m:=(⟨⟨A13,c14,a.sides.list⟩,⟨A15,c16,a.data.list⟩⟩:ArrV)) rfl rfl rfl rfl rfl fun b17=>?_;refine cZ (.cons kT3 (.cons kT4 .nil)) (bE.drop 0) ?_;refine dP (o:=_) rfl ?_;refine tB kT4 (dF .head rfl) rfl rfl rfl rfl rfl rfl rfl (by have:=hol;simp;omega) fun A18 c19=>?_;refine cZ (.cons kT4 (.cons kT4 .nil)) (bE.drop 0) ?_;refine puT hT ?_;refine gL<|bY<|bB<|dV kT3 fun hcs=>?_;refine bW kT3 ?_;refine dV kT2 fun hcd=>?_;refine bW kT2 ?_;refine bV (Fact.each (os++[(⟨⟨A13,c14,a.sides.list⟩,⟨A15,c16,a.data.list⟩⟩:ArrV)]) gA) (Has.each_snoc (Has.of mT6) (fA (Has.of mT1) (Has.of mT0) ⟨hcs,hcd⟩)) ?_;refine bF<|sp hT ?_;refine bP (z':=(((i+1):Nat):Int)) (cK (by omega) (by omega)) ?_;refine sp hT ?_;refine nn ?_;exact cP (i+1,os++[(⟨⟨A13,c14,a.sides.list⟩,⟨A15,c16,a.data.list⟩⟩:ArrV)],A18,c19) (by dsimp only;omega) ⟨rfl,rfl,trivial⟩ ⟨rfl,rfl,rfl,rfl,trivial⟩ (.cons .head (.cons kT2 .nil)) ⟨Has.pure (⟨by dsimp only;omega,bEk hinv6.2.1 ha,bBj hinv6.2.2 hsz⟩),Has.of mT0,trivial⟩ (bE.drop 8)
    refine nE rfl rfl rfl rfl fun b20=>?_;refine cZ (.cons kT1 (.cons kT2 .nil)) (bE.drop 0) ?_;refine dP (o:=_) rfl ?_;refine nE rfl rfl rfl rfl fun b21=>?_;refine cZ (.cons kT2 (.cons kT3 .nil)) (bE.drop 0) ?_;refine dP (o:=_) rfl ?_;refine gO .head (bJ (Has.of mT1)) rfl rfl rfl rfl rfl rfl rfl (by have:=hsz;simp;omega) fun A22 c23=>?_;rw [List.nil_append];refine cZ (.cons kT2 (.cons kT3 .nil)) (bE.drop 0) ?_;refine dP (o:=_) rfl ?_;refine gO kT1 (bJ (Has.of mT0)) rfl rfl rfl rfl rfl rfl rfl (by have:=hsz;simp;omega) fun A24 c25=>?_;rw [List.nil_append];refine cZ (.cons kT2 (.cons kT3 .nil)) (bE.drop 0) ?_;refine stT rfl (bZ rfl rfl (nC _ _ _ _ _ _)) ?_;refine dP (o:=_) rfl ?_;refine gV (m:=(⟨⟨A22,c23,a.sides.list⟩,⟨A24,c25,a.data.list⟩⟩:ArrV)) rfl rfl rfl rfl rfl fun b26=>?_;refine cZ (.cons kT3 (.cons kT4 .nil)) (bE.drop 0) ?_;refine dP (o:=_) rfl ?_;refine tB kT4 (dF .head rfl) rfl rfl rfl rfl rfl rfl rfl (by have:=hol;simp;omega) fun A27 c28=>?_;refine cZ (.cons kT4 (.cons kT4 .nil)) (bE.drop 0) ?_;refine puT hT ?_;refine gL<|bY<|bB<|dV kT3 fun hcs=>?_;refine bW kT3 ?_;refine dV kT2 fun hcd=>?_;refine bW kT2 ?_;refine bV (Fact.each (os++[(⟨⟨A22,c23,a.sides.list⟩,⟨A24,c25,a.data.list⟩⟩:ArrV)]) gA) (Has.each_snoc (Has.of mT6) (fA (Has.of mT1) (Has.of mT0) ⟨hcs,hcd⟩)) ?_;refine bF<|sp hT ?_;refine bP (z':=(((i+1):Nat):Int)) (cK (by omega) (by omega)) ?_;refine sp hT ?_;refine nn ?_;exact cP (i+1,os++[(⟨⟨A22,c23,a.sides.list⟩,⟨A24,c25,a.data.list⟩⟩:ArrV)],A27,c28) (by dsimp only;omega) ⟨rfl,rfl,trivial⟩ ⟨rfl,rfl,rfl,rfl,trivial⟩ (.cons .head (.cons kT2 .nil)) ⟨Has.pure (⟨by dsimp only;omega,bEk hinv6.2.1 ha,bBj hinv6.2.2 hsz⟩),Has.of mT0,trivial⟩ (bE.drop 8)
  have hc22:=Int.not_lt.1 (of_decide_eq_false hc22);refine cW<|cJ<|cJ<|cX<|bB<|bA ?_;have hos:os.map ArrV.arr=x.ins.list.map ArrV.arr:=by rw [hinv6.2.1,List.take_of_length_le (by omega)]
  have hol:os.length≤64:=by have:=congrArg List.length hinv6.2.1;simp at this;omega
  refine bW .head ?_;refine bF<|sp hT ?_;refine ss (ldN hT (bM .head)) ?_;refine sp hT ?_;refine ss (ldO hT (dZ .head)) ?_;refine sp hT ?_;have msp:=bKx x.p hx.ok hx.l1 hx.l2' x.dims.addr A1 x.dims.cap c1 x.dims.list os hx.hdl (fun y hy=>Nat.le_trans (hinv6.2.2 y hy).1 (by decide));rw [hos] at msp;refine bO Tryz.func13 msp rfl rfl .nil ⟨(Has.of mT4),(Has.of mT5),(Has.of mT6),(Has.of mT7),(Has.of mT8),(Has.of mT9),(Has.of mT0),(Has.of mT2),trivial⟩ fun⟨A29,c30,xs31⟩=>?_;refine zY (v':= .tuple #[.slice A29 xs31.length c30,.agg #[.int .i64 (jM x.p.pr x.dims.list (x.ins.list.map ArrV.arr)).2.1,.int .i64 (jM x.p.pr x.dims.list (x.ins.list.map ArrV.arr)).2.2]]) rfl ?_;refine cE (Has.of mT0) fun hmx=>?_;dsimp only at hmx;refine iS (H':=iN.row (.slice A29 xs31.length c30) 42 xs31::([_]++(jG xs31).map laneRow)) fam_last ?_;have hsm:=mean_sizes hmx;refine sp3 hT ?_;refine cF rfl rfl rfl rfl xF rfl fun b32=>?_;refine sp hT ?_;refine sto hT .head ?_;refine nn<|bA<|sr<|ss (ldN hT (bM .head)) ?_;refine ss (bZ rfl rfl (uT)) ?_;refine ss (fJ ⟨(jM x.p.pr x.dims.list (x.ins.list.map ArrV.arr)).2.1,(jM x.p.pr x.dims.list (x.ins.list.map ArrV.arr)).2.2⟩ ⟨0,0⟩ rfl rfl rfl) ?_;refine nn<|bH rfl (fun hc60=>?_) (fun hc60=>?_)
  · have hc60:=fW hc60;refine sr<|sp4 hT ?_;refine sp hT ?_;refine cI (t':=true) (by rw [List.length_eq_zero_iff.2 (List.map_eq_nil_iff.1 (hmx.trans (rD.2 (flt_not hc60))))];rfl) ?_;refine sp2 hT ?_;refine nn<|bG<|bC ?_;exact bQ () rfl (bD rfl) .nil trivial (rfl)
  have hc60:=fL hc60;refine bK<|bB<|bA<|sr<|sp4 hT ?_;refine ss (ldO hT (dE kT2)) ?_;refine sp2 hT ?_;refine cI (t':=false) (by have:=(rD.1 (congrArg Prod.snd (flt_of hc60))).2.1;rw [←hmx] at this;have h2:x.p.pr.lines.length=x.p.lines.list.length:=List.length_map _;simp at this⊢;omega) ?_;refine nn<|cN rfl rfl ?_;refine bK<|bB<|bA<|sr<|sp3 hT ?_;refine nn<|bR<|zQ (ι:=Nat×List ArrV) [(1,_),(3,_),(4,_),(7,_),(75,_)] ⟨rfl,rfl,rfl,rfl,rfl,trivial⟩ (fun⟨i,ys⟩=>[(76,.int .i64 (i:Nat))]) (fun _=>[]) [_,_,_] (fun⟨i,ys⟩=>jG ys) (fun⟨i,ys⟩=>[Fact.pure (i≤xs31.length∧uW xs31 ys i)]) (fun⟨i,ys⟩=>xs31.length-i) (0,xs31) ⟨rfl,trivial⟩ .nil ⟨Has.pure (⟨by omega,.start _⟩),trivial⟩ ?_;rintro⟨i,ys⟩;dsimp only;refine cE (Has.of mT0) fun hinv18=>?_;refine sr<|sp hT ?_;refine nn<|bA<|bH rfl (fun hc77=>?_) (fun hc77=>?_)
  · have hc77:=of_decide_eq_true hc77;refine bK<|bB<|bA<|bR<|sr<|sp2 hT ?_;refine nn<|bA<|bA ?_
    obtain⟨p,hp⟩: ∃q,xs31[i]?=some q:=⟨_,List.getElem?_eq_getElem (by omega)⟩
    have hps:=hsm.2 p (List.mem_of_getElem? hp);have hpr:=(rD.1 (congrArg Prod.snd (flt_of hc60))).2.2 p.arr (by rw [←hmx];exact List.mem_map.2 ⟨p,List.mem_of_getElem? hp,rfl⟩);have hyi:=hinv18.2.get hp;refine iS (bLd hyi [_,_,_]) ?_;refine bF<|sp2 hT ?_;refine ss (bS hT (k:=i) (cD kT3) rfl rfl rfl rfl rfl rfl rfl (by omega)) ?_;refine ss (dJ hT (cR.knows (cD kT3) (k:=i) (x:=p) hp 0) rfl rfl rfl rfl rfl) ?_;refine jF (cS Tryz.func16 rfl rfl) (jJ p (by omega)) rfl rfl rfl rfl rfl .nil (.cons .head .nil) (nG nF) ⟨Has.of mT0,trivial⟩ (fun _=>True) (fun _ _ _ _=>trivial) fun _ _=>?_;refine cI (t':=true) hpr ?_;refine sp hT ?_;refine nn<|cN rfl rfl ?_;refine bK<|bB<|bA<|sr<|sp2 hT ?_;refine ss (bS hT (k:=i) (cD kT3) rfl rfl rfl rfl rfl rfl rfl (by omega)) ?_;refine sp hT ?_;refine ss (cA hT (cR.knows (cD kT3) (k:=i) (x:=p) hp 1) rfl rfl rfl rfl rfl) ?_;refine sp2 hT ?_;refine nn<|bR<|dC (ι:=Nat×List Int) [(1,_),(3,_),(4,_),(7,_),(9,_),(75,_),(76,_),(90,_)] ⟨rfl,rfl,rfl,rfl,rfl,rfl,rfl,rfl,trivial⟩ (fun⟨k,w4⟩=>[(91,.int .i64 (k:Nat))]) (fun⟨k,w4⟩=>[cT.row (.slice p.data.addr p.data.list.length p.data.cap) 2 w4]) (fun⟨k,w4⟩=>[Fact.pure (k≤p.data.list.length∧w4.length=p.data.list.length)]) (fun⟨k,w4⟩=>p.data.list.length-k) (0,p.data.list) ⟨rfl,trivial⟩ (.cons kT1 .nil) ⟨Has.pure (⟨by omega,rfl⟩),trivial⟩ ?_;rintro⟨k,w4⟩;dsimp only;refine cE (Has.of mT0) fun hinv23=>?_;refine sr<|sp hT ?_;refine nn<|bA<|bH rfl (fun hc92=>?_) (fun hc92=>?_)
    · have hc92:=of_decide_eq_true hc92;refine bK<|bB<|bA<|bR<|sr<|sp2 hT ?_;refine nn<|bF<|sp2 hT ?_;refine ss (bS hT (k:=i) (cD kT3) rfl rfl rfl rfl rfl rfl rfl (by omega)) ?_;refine sp hT ?_;refine ss (cA hT (cR.knows (cD kT3) (k:=i) (x:=p) hp 1) rfl rfl rfl rfl rfl) ?_;refine sp hT ?_
      obtain⟨x33,hx34⟩: ∃x',w4[k]?=some x':=⟨_,List.getElem?_eq_getElem (by have:=hinv23.2;omega)⟩
      refine ss (bS hT (k:=k) (cD .head) rfl rfl rfl rfl rfl hinv23.2.symm rfl (by have:=hinv23.2;omega)) ?_;refine dG hT (k:=k) (fo:=0) (y':=((77:Nat):Int)) .head rfl rfl rfl rfl rfl rfl rfl rfl rfl hx34 rfl ?_;refine dT<|bY<|bB<|bF<|sp hT ?_;refine bP (z':=(((k+1):Nat):Int)) (cK (by omega) (by omega)) ?_;refine sp hT ?_;refine nn ?_;exact cP (k+1,_) (by dsimp only;omega) ⟨rfl,trivial⟩ ⟨rfl,rfl,rfl,rfl,rfl,rfl,rfl,rfl,trivial⟩ (.cons .head (.cons .head (.cons .head (.cons .head (.cons .head Sel.self))))) ⟨Has.pure (⟨by dsimp only;omega,by dsimp only;rw [List.length_set];exact hinv23.2⟩),trivial⟩ (bE.drop 1)
    have hc92:=Int.not_lt.1 (of_decide_eq_false hc92);refine cW<|cJ<|cJ<|cX<|bB<|sr<|sp2 hT ?_;refine ss (bS hT (k:=i) (cD kT3) rfl rfl rfl rfl rfl rfl rfl (by omega)) ?_;refine sp hT ?_;refine ss (cA hT (cR.knows (cD kT3) (k:=i) (x:=p) hp 0) rfl rfl rfl rfl rfl) ?_;refine sp2 hT ?_;refine nn<|bR<|dC (ι:=Nat×List Int) [(1,_),(3,_),(4,_),(7,_),(9,_),(75,_),(76,_),(107,_)] ⟨rfl,rfl,rfl,rfl,rfl,rfl,rfl,rfl,trivial⟩ (fun⟨k,w6⟩=>[(108,.int .i64 (k:Nat))]) (fun⟨k,w6⟩=>[cT.row (.slice p.sides.addr p.sides.list.length p.sides.cap) 2 w6]) (fun⟨k,w6⟩=>[Fact.pure (k≤p.sides.list.length∧w6.length=p.sides.list.length)]) (fun⟨k,w6⟩=>p.sides.list.length-k) (0,p.sides.list) ⟨rfl,trivial⟩ (.cons kT1 .nil) ⟨Has.pure (⟨by omega,rfl⟩),trivial⟩ ?_;rintro⟨k,w6⟩;dsimp only;refine cE (Has.of mT0) fun hinv28=>?_;refine sr<|sp hT ?_;refine nn<|bA<|bH rfl (fun hc109=>?_) (fun hc109=>?_)
    · have hc109:=of_decide_eq_true hc109;refine bK<|bB<|bA<|bR<|sr<|sp2 hT ?_;refine nn<|bF<|sp2 hT ?_;refine ss (bS hT (k:=i) (cD kT3) rfl rfl rfl rfl rfl rfl rfl (by omega)) ?_;refine sp hT ?_;refine ss (cA hT (cR.knows (cD kT3) (k:=i) (x:=p) hp 0) rfl rfl rfl rfl rfl) ?_;refine sp hT ?_
      obtain⟨x35,hx36⟩: ∃x',w6[k]?=some x':=⟨_,List.getElem?_eq_getElem (by have:=hinv28.2;omega)⟩
      refine ss (bS hT (k:=k) (cD .head) rfl rfl rfl rfl rfl hinv28.2.symm rfl (by have:=hinv28.2;omega)) ?_;refine dG hT (k:=k) (fo:=0) (y':=(-7)) .head rfl rfl rfl rfl rfl rfl rfl rfl rfl hx36 rfl ?_;refine dT<|bY<|bB<|bF<|sp hT ?_;refine bP (z':=(((k+1):Nat):Int)) (cK (by omega) (by omega)) ?_;refine sp hT ?_;refine nn ?_;exact cP (k+1,_) (by dsimp only;omega) ⟨rfl,trivial⟩ ⟨rfl,rfl,rfl,rfl,rfl,rfl,rfl,rfl,trivial⟩ (.cons .head (.cons .head (.cons .head (.cons .head (.cons .head Sel.self))))) ⟨Has.pure (⟨by dsimp only;omega,by dsimp only;rw [List.length_set];exact hinv28.2⟩),trivial⟩ (bE.drop 1)
    have hc109:=Int.not_lt.1 (of_decide_eq_false hc109);refine cW<|cJ<|cJ<|cX<|bY<|bB ?_;rw [bDp (s:=p.sides) (c:=w6) hinv28.2,bDp (s:=p.data) (c:=w4) hinv23.2];refine bBi (R:=_::_::_::_::_::(jG (ys.take i++ys.drop (i+1))).map laneRow) (.cons .head (.cons .head (.cons .head (.cons .head (.cons .head Sel.self))))) ?_;refine iS (arrs_backL (ys:=ys) (q:=⟨⟨p.sides.addr,p.sides.cap,w6⟩,⟨p.data.addr,p.data.cap,w4⟩⟩) (i:=i) (by have:=hinv18.2.len;omega) [_,_,_]) ?_;refine bF<|sp hT ?_;refine bP (z':=(((i+1):Nat):Int)) (cK (by omega) (by omega)) ?_;refine sp hT ?_;refine nn ?_;exact yK (i+1,ys.set i ⟨⟨p.sides.addr,p.sides.cap,w6⟩,⟨p.data.addr,p.data.cap,w4⟩⟩) (by dsimp only;omega) ⟨rfl,trivial⟩ ⟨rfl,rfl,rfl,rfl,rfl,trivial⟩ (.cons .head (.cons .head (.cons .head Sel.self))) ⟨Has.pure (⟨by dsimp only;omega,hinv18.2.step _⟩),trivial⟩ (bE.drop 3)
  have hc77:=Int.not_lt.1 (of_decide_eq_false hc77);refine cW<|cJ<|cJ<|cX<|bB<|sr<|sp4 hT ?_;refine ss (ldO hT (rH kT2)) ?_;refine bO Tryz.func15 (same8_spec A1 x.ins.addr c1 x.ins.cap os x.ins.list (by omega) (fun y hy=>⟨Nat.le_trans (hinv6.2.2 y hy).1 (by decide),Nat.le_trans (hinv6.2.2 y hy).2 (by decide)⟩)) rfl rfl .nil ⟨(Has.of mT2),(Has.of mT4),(Has.of uE),(Has.of mT13),trivial⟩ fun _=>?_;refine cI (t':=true) (decide_eq_true hos) ?_;refine sp2 hT ?_;refine nn<|bG ?_;exact bQ () rfl (bD rfl) .nil trivial (rfl)
end Go.Proofs.YtciimjjleglmaaaGreatDoor.meanArrays
