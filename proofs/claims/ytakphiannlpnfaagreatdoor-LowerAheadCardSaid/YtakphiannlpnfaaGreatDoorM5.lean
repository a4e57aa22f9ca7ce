/- Texts of one proof, one behind the other: Tys, Txt, LexA, Eq, LexS, LexB, LexC, LexD, Num. -/
import Derived.Test.YtakphiannlpnfaaGreatDoorM2
import Derived.Test.YtakphiannlpnfaaGreatDoorRows
import Derived.ChangeKeysEq
import Derived.Test.YtakphiannlpnfaaGreatDoorShelf
import Derived.Lib.SmallJoins
import Derived.Test.YtakphiannlpnfaaGreatDoorM4
import Derived.Lib.ItoaLen
import Derived.Lib.ReplaceLaws
namespace Go.Proofs.YtakphiannlpnfaaGreatDoor
section
open Go.RowKit Go.ChangeShapes Go.WideShapes Go.Proofs.Tryz
set_option maxRecDepth 100000
def mJ:Flat Bs where
 size:=1
 cells:=fun x=>[.string (bs x)]
 len:=fun _=>rfl
 one:=fun x u hu=>by simp at hu;subst hu;rfl
 pos:=p7
structure TokV where
 kind:Int
 at_:Int
 word:Bs
 n:Int
 deriving Inhabited
def lS:Flat TokV where
 size:=4
 cells:=fun x=>[.int .i64 x.kind,.int .i64 x.at_,.string (bs x.word),.int .i64 x.n]
 len:=fun _=>rfl
 one:=fun x u hu=>by
  simp at hu
  rcases hu with rfl | rfl | rfl | rfl<;>rfl
 pos:=p7
structure FltV where
 at_:Int
 code:Int
 deriving Inhabited
structure jF where
 name:Bs
 n:Int
 deriving Inhabited
def bEg:Flat jF where
 size:=2
 cells:=fun x=>[.string (bs x.name),.int .i64 x.n]
 len:=fun _=>rfl
 one:=fun x u hu=>by
  simp at hu
  rcases hu with rfl | rfl<;>rfl
 pos:=p7
def sideTy:Ty jF:=⟨bEg,fun x=>(Fact.pure (x.name.length≤140737488355328)).and ((Fact.pure ((Lit.int .i64 x.n).wf=true)).and (Fact.true))⟩
theorem opens_side{H:Type}{enc:TypeId×Value→H}{w:World}:rQ enc prog w 76 bEg.cells sideTy.deep:=fun fuel cs x h hw=>by
 obtain⟨xs,n,_,rfl,hlen,hxl,hf⟩:=DataW.trod_struct underlying76 h;have hc:prog.cellsOf 76=2:=o0
 rw [hc] at hlen;have hxl':xs.length=2:=hxl
 match cs,hlen with
 | [c0,c1],_=>
  have h0:DataW.trod enc prog w 0 (fun _=>true) true n 9 (([c0,c1].drop 0).take (prog.cellsOf 9))=xs[0]?:=hf 0 _ rfl;have h1:DataW.trod enc prog w 0 (fun _=>true) true n 2 (([c0,c1].drop 1).take (prog.cellsOf 2))=xs[1]?:=hf 1 _ rfl;rw [List.getElem?_eq_getElem n9] at h0;obtain⟨a0,e0,d0⟩:=(zL underlying9) _ _ _ h0 (dS underlying76 hw (j:=0) rfl (by rw [List.getElem?_map,List.getElem?_eq_getElem n9];rfl))
  have q0:[c0]=[.string (bs a0)]:=by
   have hk:prog.cellsOf 9=1:=o0
   rw [hk] at e0;exact e0
  clear e0;simp only [List.cons.injEq,and_true] at q0;rw [List.getElem?_eq_getElem n9] at h1;obtain⟨a1,e1,d1⟩:=(pS underlying2) _ _ _ h1 (dS underlying76 hw (j:=1) rfl (by rw [List.getElem?_map,List.getElem?_eq_getElem n9];rfl))
  have q1:[c1]=[.int .i64 a1]:=by
   have hk:prog.cellsOf 2=1:=o0
   rw [hk] at e1;exact e1
  clear e1;simp only [List.cons.injEq,and_true] at q1;obtain rfl:=q0;obtain rfl:=q1;exact⟨⟨a0,a1⟩,rfl,d0,d1,j2⟩
structure InputV where
 name:Bs
 at_:Int
 sides:(Sl jF)
 deriving Inhabited
def jT:Flat InputV where
 size:=3
 cells:=fun x=>[.string (bs x.name),.int .i64 x.at_,.slice x.sides.addr x.sides.list.length x.sides.cap]
 len:=fun _=>rfl
 one:=fun x u hu=>by
  simp at hu
  rcases hu with rfl | rfl | rfl<;>rfl
 pos:=p7
def bJc:Ty InputV:=⟨jT,fun x=>(Fact.pure (x.name.length≤140737488355328)).and ((Fact.pure ((Lit.int .i64 x.at_).wf=true)).and ((((sideTy.slice 24)).deep x.sides).and (Fact.true)))⟩
theorem opens_input{H:Type}{enc:TypeId×Value→H}{w:World}:rQ enc prog w 50 jT.cells bJc.deep:=fun fuel cs x h hw=>by
 obtain⟨xs,n,_,rfl,hlen,hxl,hf⟩:=DataW.trod_struct underlying50 h;have hc:prog.cellsOf 50=3:=o0
 rw [hc] at hlen;have hxl':xs.length=3:=hxl
 match cs,hlen with
 | [c0,c1,c2],_=>
  have h0:DataW.trod enc prog w 0 (fun _=>true) true n 9 (([c0,c1,c2].drop 0).take (prog.cellsOf 9))=xs[0]?:=hf 0 _ rfl;have h1:DataW.trod enc prog w 0 (fun _=>true) true n 3 (([c0,c1,c2].drop 1).take (prog.cellsOf 3))=xs[1]?:=hf 1 _ rfl;have h2:DataW.trod enc prog w 0 (fun _=>true) true n 48 (([c0,c1,c2].drop 2).take (prog.cellsOf 48))=xs[2]?:=hf 2 _ rfl;rw [List.getElem?_eq_getElem n9] at h0;obtain⟨a0,e0,d0⟩:=(zL underlying9) _ _ _ h0 (dS underlying50 hw (j:=0) rfl (by rw [List.getElem?_map,List.getElem?_eq_getElem n9];rfl))
  have q0:[c0]=[.string (bs a0)]:=by
   have hk:prog.cellsOf 9=1:=o0
   rw [hk] at e0;exact e0
  clear e0;simp only [List.cons.injEq,and_true] at q0;rw [List.getElem?_eq_getElem n9] at h1;obtain⟨a1,e1,d1⟩:=(pS underlying3) _ _ _ h1 (dS underlying50 hw (j:=1) rfl (by rw [List.getElem?_map,List.getElem?_eq_getElem n9];rfl))
  have q1:[c1]=[.int .i64 a1]:=by
   have hk:prog.cellsOf 3=1:=o0
   rw [hk] at e1;exact e1
  clear e1;simp only [List.cons.injEq,and_true] at q1;rw [List.getElem?_eq_getElem n9] at h2;obtain⟨a2,e2,d2⟩:=(mW (T:=sideTy) (b:=24) underlying48 o0 o0 opens_side) _ _ _ h2 (dS underlying50 hw (j:=2) rfl (by rw [List.getElem?_map,List.getElem?_eq_getElem n9];rfl))
  have q2:[c2]=[.slice a2.addr a2.list.length a2.cap]:=by
   have hk:prog.cellsOf 48=1:=o0
   rw [hk] at e2;exact e2
  clear e2;simp only [List.cons.injEq,and_true] at q2;obtain rfl:=q0;obtain rfl:=q1;obtain rfl:=q2;exact⟨⟨a0,a1,a2⟩,rfl,d0,d1,d2,j2⟩
structure ItemV where
 how:Int
 at_:Int
 fn:Int
 name:Bs
 nums:(Sl Int)
 deriving Inhabited
def jZ:Flat ItemV where
 size:=5
 cells:=fun x=>[.int .i64 x.how,.int .i64 x.at_,.int .u8 x.fn,.string (bs x.name),.slice x.nums.addr x.nums.list.length x.nums.cap]
 len:=fun _=>rfl
 one:=fun x u hu=>by
  simp at hu
  rcases hu with rfl | rfl | rfl | rfl | rfl<;>rfl
 pos:=p7
def bGo:Ty ItemV:=⟨jZ,fun x=>(Fact.pure ((Lit.int .i64 x.how).wf=true)).and ((Fact.pure ((Lit.int .i64 x.at_).wf=true)).and ((Fact.pure ((Lit.int .u8 x.fn).wf=true)).and ((Fact.pure (x.name.length≤140737488355328)).and ((((intTy.slice 8)).deep x.nums).and (Fact.true)))))⟩
theorem bKl{H:Type}{enc:TypeId×Value→H}{w:World}:rQ enc prog w 87 jZ.cells bGo.deep:=fun fuel cs x h hw=>by
 obtain⟨xs,n,_,rfl,hlen,hxl,hf⟩:=DataW.trod_struct underlying87 h;have hc:prog.cellsOf 87=5:=o0
 rw [hc] at hlen;have hxl':xs.length=5:=hxl
 match cs,hlen with
 | [c0,c1,c2,c3,c4],_=>
  have h0:DataW.trod enc prog w 0 (fun _=>true) true n 3 (([c0,c1,c2,c3,c4].drop 0).take (prog.cellsOf 3))=xs[0]?:=hf 0 _ rfl;have h1:DataW.trod enc prog w 0 (fun _=>true) true n 3 (([c0,c1,c2,c3,c4].drop 1).take (prog.cellsOf 3))=xs[1]?:=hf 1 _ rfl;have h2:DataW.trod enc prog w 0 (fun _=>true) true n 62 (([c0,c1,c2,c3,c4].drop 2).take (prog.cellsOf 62))=xs[2]?:=hf 2 _ rfl;have h3:DataW.trod enc prog w 0 (fun _=>true) true n 9 (([c0,c1,c2,c3,c4].drop 3).take (prog.cellsOf 9))=xs[3]?:=hf 3 _ rfl;have h4:DataW.trod enc prog w 0 (fun _=>true) true n 85 (([c0,c1,c2,c3,c4].drop 4).take (prog.cellsOf 85))=xs[4]?:=hf 4 _ rfl;rw [List.getElem?_eq_getElem n9] at h0;obtain⟨a0,e0,d0⟩:=(pS underlying3) _ _ _ h0 (dS underlying87 hw (j:=0) rfl (by rw [List.getElem?_map,List.getElem?_eq_getElem n9];rfl))
  have q0:[c0]=[.int .i64 a0]:=by
   have hk:prog.cellsOf 3=1:=o0
   rw [hk] at e0;exact e0
  clear e0;simp only [List.cons.injEq,and_true] at q0;rw [List.getElem?_eq_getElem n9] at h1;obtain⟨a1,e1,d1⟩:=(pS underlying3) _ _ _ h1 (dS underlying87 hw (j:=1) rfl (by rw [List.getElem?_map,List.getElem?_eq_getElem n9];rfl))
  have q1:[c1]=[.int .i64 a1]:=by
   have hk:prog.cellsOf 3=1:=o0
   rw [hk] at e1;exact e1
  clear e1;simp only [List.cons.injEq,and_true] at q1;rw [List.getElem?_eq_getElem n9] at h2;obtain⟨a2,e2,d2⟩:=(pS underlying62) _ _ _ h2 (dS underlying87 hw (j:=2) rfl (by rw [List.getElem?_map,List.getElem?_eq_getElem n9];rfl))
  have q2:[c2]=[.int .u8 a2]:=by
   have hk:prog.cellsOf 62=1:=o0
   rw [hk] at e2;exact e2
  clear e2;simp only [List.cons.injEq,and_true] at q2;rw [List.getElem?_eq_getElem n9] at h3;obtain⟨a3,e3,d3⟩:=(zL underlying9) _ _ _ h3 (dS underlying87 hw (j:=3) rfl (by rw [List.getElem?_map,List.getElem?_eq_getElem n9];rfl))
  have q3:[c3]=[.string (bs a3)]:=by
   have hk:prog.cellsOf 9=1:=o0
   rw [hk] at e3;exact e3
  clear e3;simp only [List.cons.injEq,and_true] at q3;rw [List.getElem?_eq_getElem n9] at h4;obtain⟨a4,e4,d4⟩:=(mW (T:=intTy) (b:=8) underlying85 o0 o0 (pS underlying2)) _ _ _ h4 (dS underlying87 hw (j:=4) rfl (by rw [List.getElem?_map,List.getElem?_eq_getElem n9];rfl))
  have q4:[c4]=[.slice a4.addr a4.list.length a4.cap]:=by
   have hk:prog.cellsOf 85=1:=o0
   rw [hk] at e4;exact e4
  clear e4;simp only [List.cons.injEq,and_true] at q4;obtain rfl:=q0;obtain rfl:=q1;obtain rfl:=q2;obtain rfl:=q3;obtain rfl:=q4;exact⟨⟨a0,a1,a2,a3,a4⟩,rfl,d0,d1,d2,d3,d4,j2⟩
structure LineV where
 name:Bs
 at_:Int
 items:(Sl ItemV)
 deriving Inhabited
def nM:Flat LineV where
 size:=3
 cells:=fun x=>[.string (bs x.name),.int .i64 x.at_,.slice x.items.addr x.items.list.length x.items.cap]
 len:=fun _=>rfl
 one:=fun x u hu=>by
  simp at hu
  rcases hu with rfl | rfl | rfl<;>rfl
 pos:=p7
def lineTy:Ty LineV:=⟨nM,fun x=>(Fact.pure (x.name.length≤140737488355328)).and ((Fact.pure ((Lit.int .i64 x.at_).wf=true)).and ((((bGo.slice 64)).deep x.items).and (Fact.true)))⟩
theorem opens_line{H:Type}{enc:TypeId×Value→H}{w:World}:rQ enc prog w 54 nM.cells lineTy.deep:=fun fuel cs x h hw=>by
 obtain⟨xs,n,_,rfl,hlen,hxl,hf⟩:=DataW.trod_struct underlying54 h;have hc:prog.cellsOf 54=3:=o0
 rw [hc] at hlen;have hxl':xs.length=3:=hxl
 match cs,hlen with
 | [c0,c1,c2],_=>
  have h0:DataW.trod enc prog w 0 (fun _=>true) true n 9 (([c0,c1,c2].drop 0).take (prog.cellsOf 9))=xs[0]?:=hf 0 _ rfl;have h1:DataW.trod enc prog w 0 (fun _=>true) true n 3 (([c0,c1,c2].drop 1).take (prog.cellsOf 3))=xs[1]?:=hf 1 _ rfl;have h2:DataW.trod enc prog w 0 (fun _=>true) true n 52 (([c0,c1,c2].drop 2).take (prog.cellsOf 52))=xs[2]?:=hf 2 _ rfl;rw [List.getElem?_eq_getElem n9] at h0;obtain⟨a0,e0,d0⟩:=(zL underlying9) _ _ _ h0 (dS underlying54 hw (j:=0) rfl (by rw [List.getElem?_map,List.getElem?_eq_getElem n9];rfl))
  have q0:[c0]=[.string (bs a0)]:=by
   have hk:prog.cellsOf 9=1:=o0
   rw [hk] at e0;exact e0
  clear e0;simp only [List.cons.injEq,and_true] at q0;rw [List.getElem?_eq_getElem n9] at h1;obtain⟨a1,e1,d1⟩:=(pS underlying3) _ _ _ h1 (dS underlying54 hw (j:=1) rfl (by rw [List.getElem?_map,List.getElem?_eq_getElem n9];rfl))
  have q1:[c1]=[.int .i64 a1]:=by
   have hk:prog.cellsOf 3=1:=o0
   rw [hk] at e1;exact e1
  clear e1;simp only [List.cons.injEq,and_true] at q1;rw [List.getElem?_eq_getElem n9] at h2;obtain⟨a2,e2,d2⟩:=(mW (T:=bGo) (b:=64) underlying52 o0 o0 bKl) _ _ _ h2 (dS underlying54 hw (j:=2) rfl (by rw [List.getElem?_map,List.getElem?_eq_getElem n9];rfl))
  have q2:[c2]=[.slice a2.addr a2.list.length a2.cap]:=by
   have hk:prog.cellsOf 52=1:=o0
   rw [hk] at e2;exact e2
  clear e2;simp only [List.cons.injEq,and_true] at q2;obtain rfl:=q0;obtain rfl:=q1;obtain rfl:=q2;exact⟨⟨a0,a1,a2⟩,rfl,d0,d1,d2,j2⟩
structure ProgV where
 inputs:(Sl InputV)
 lines:(Sl LineV)
 deriving Inhabited
def progE:Flat ProgV where
 size:=2
 cells:=fun x=>[.slice x.inputs.addr x.inputs.list.length x.inputs.cap,.slice x.lines.addr x.lines.list.length x.lines.cap]
 len:=fun _=>rfl
 one:=fun x u hu=>by
  simp at hu
  rcases hu with rfl | rfl<;>rfl
 pos:=p7
def progTy:Ty ProgV:=⟨progE,fun x=>(((bJc.slice 48)).deep x.inputs).and ((((lineTy.slice 48)).deep x.lines).and (Fact.true))⟩
theorem opens_prog{H:Type}{enc:TypeId×Value→H}{w:World}:rQ enc prog w 25 progE.cells progTy.deep:=fun fuel cs x h hw=>by
 obtain⟨xs,n,_,rfl,hlen,hxl,hf⟩:=DataW.trod_struct underlying25 h;have hc:prog.cellsOf 25=2:=o0
 rw [hc] at hlen;have hxl':xs.length=2:=hxl
 match cs,hlen with
 | [c0,c1],_=>
  have h0:DataW.trod enc prog w 0 (fun _=>true) true n 22 (([c0,c1].drop 0).take (prog.cellsOf 22))=xs[0]?:=hf 0 _ rfl;have h1:DataW.trod enc prog w 0 (fun _=>true) true n 23 (([c0,c1].drop 1).take (prog.cellsOf 23))=xs[1]?:=hf 1 _ rfl;rw [List.getElem?_eq_getElem n9] at h0;obtain⟨a0,e0,d0⟩:=(mW (T:=bJc) (b:=48) underlying22 o0 o0 opens_input) _ _ _ h0 (dS underlying25 hw (j:=0) rfl (by rw [List.getElem?_map,List.getElem?_eq_getElem n9];rfl))
  have q0:[c0]=[.slice a0.addr a0.list.length a0.cap]:=by
   have hk:prog.cellsOf 22=1:=o0
   rw [hk] at e0;exact e0
  clear e0;simp only [List.cons.injEq,and_true] at q0;rw [List.getElem?_eq_getElem n9] at h1;obtain⟨a1,e1,d1⟩:=(mW (T:=lineTy) (b:=48) underlying23 o0 o0 opens_line) _ _ _ h1 (dS underlying25 hw (j:=1) rfl (by rw [List.getElem?_map,List.getElem?_eq_getElem n9];rfl))
  have q1:[c1]=[.slice a1.addr a1.list.length a1.cap]:=by
   have hk:prog.cellsOf 23=1:=o0
   rw [hk] at e1;exact e1
  clear e1;simp only [List.cons.injEq,and_true] at q1;obtain rfl:=q0;obtain rfl:=q1;exact⟨⟨a0,a1⟩,rfl,d0,d1,j2⟩
def showT:Tab:=[(3,⟨.int .i64,1⟩),(2,⟨.int .i64,1⟩),(5,⟨.int .u8,1⟩),(9,⟨.string,1⟩),(4,⟨.bool,1⟩),(62,⟨.int .u8,1⟩),(32,⟨.int .i64,1⟩),(85,⟨.slice 2,1⟩),(69,⟨.slice 9,1⟩),(112,⟨.struct [(3,0),(3,1),(9,2),(2,3)],4⟩),(105,⟨.slice 112,1⟩),(34,⟨.struct [(3,0),(32,1)],2⟩),(76,⟨.struct [(9,0),(2,1)],2⟩),(48,⟨.slice 76,1⟩),(50,⟨.struct [(9,0),(3,1),(48,2)],3⟩),(22,⟨.slice 50,1⟩),(87,⟨.struct [(3,0),(3,1),(62,2),(9,3),(85,4)],5⟩),(52,⟨.slice 87,1⟩),(54,⟨.struct [(9,0),(3,1),(52,2)],3⟩),(23,⟨.slice 54,1⟩),(25,⟨.struct [(22,0),(23,1)],2⟩),(110,⟨.struct [(105,0),(3,1),(3,2)],3⟩),(108,⟨.other,1⟩),(196,⟨.slice 1,1⟩),(1,⟨.other,1⟩)]
theorem dY:fW prog showT:=vY.ok
 ⟨⟨by rw [underlying3];rfl,o0⟩,
  ⟨by rw [underlying2];rfl,o0⟩,
  ⟨by rw [underlying5];rfl,o0⟩,
  ⟨by rw [underlying9];rfl,o0⟩,
  ⟨by rw [underlying4];rfl,o0⟩,
  ⟨by rw [underlying62];rfl,o0⟩,
  ⟨by rw [underlying32];rfl,o0⟩,
  ⟨by rw [underlying85];rfl,o0⟩,
  ⟨by rw [underlying69];rfl,o0⟩,
  ⟨by rw [underlying112];rfl,o0⟩,
  ⟨by rw [underlying105];rfl,o0⟩,
  ⟨by rw [underlying34];rfl,o0⟩,
  ⟨by rw [underlying76];rfl,o0⟩,
  ⟨by rw [underlying48];rfl,o0⟩,
  ⟨by rw [underlying50];rfl,o0⟩,
  ⟨by rw [underlying22];rfl,o0⟩,
  ⟨by rw [underlying87];rfl,o0⟩,
  ⟨by rw [underlying52];rfl,o0⟩,
  ⟨by rw [underlying54];rfl,o0⟩,
  ⟨by rw [underlying23];rfl,o0⟩,
  ⟨by rw [underlying25];rfl,o0⟩,
  ⟨by rw [underlying110];rfl,o0⟩,
  ⟨by rw [underlying108];rfl,o0⟩,
  ⟨by rw [underlying196];rfl,o0⟩,
  ⟨by rw [underlying1];rfl,o0⟩,j2⟩
theorem tokInfo: ∃i:TypeInfo,prog.info? 112=some i∧i.zero=some (.agg #[.int .i64 0,.int .i64 0,.string (bs []),.int .i64 0])∧i.size=4∧i.bytes=40:=by
 have h:(prog.info? 112).map (fun i=>(i.zero,i.size,i.bytes))=some (some (.agg #[.int .i64 0,.int .i64 0,.string (bs []),.int .i64 0]),4,40):=o0
 cases hi:prog.info? 112 with
 | none=>simp [hi] at h
 | some i=>simp [hi] at h;exact⟨i,rfl,h.1,h.2.1,h.2.2⟩
theorem at_one_tok{β:dE}{n:Nat}{Γ:Env}{H:List bH}{F:List Fact}{Q:Exit→Act→World→Prop}{ops:Array Oper}{rest:List Oper}{o:Oper}{d:Nat}{x:Operand}{m:TokV}(hw:want ops Γ o=some true)(ho:o.op= .buildSlice 105 1 #[(0,x)])(hd:o.dst=some d)(hn:Nat.blt d n=true)
  (hx:Γ.ev x=some (.agg #[.int .i64 m.kind,.int .i64 m.at_,.string (bs m.word),.int .i64 m.n])) (k: ∀b,At β n ((d,.slice (some ⟨b,0,none⟩) 1 1)::Γ) (.obj b (.cells (lS.all [m]).toArray 112)::H) F (wpList prog ops Q rest)):At β n Γ H F (wpList prog ops Q (o::rest)):=by
 obtain⟨i,hi,hz,hs,_⟩:=tokInfo;refine gD hw ho hd hn hx underlying105 hi hz n9 n9 ?_ k;rw [hs]
 kernel_rfl
theorem at_app_tok{β:dE}{n:Nat}{Γ:Env}{H:List bH}{F:List Fact}{Q:Exit→Act→World→Prop}{ops:Array Oper}{rest:List Oper}{o:Oper}{d:Nat}{x y:Operand}{c q:Nat}{v:Value}{A:Option Addr}{xs ys:List TokV}{H':List bH}(hH:cB H (lS.row v 112 xs) H')(hr:dQ β H F lS A ys)(hg:o.guard=none)
  (ho:o.op= .call {callee:= .builtin .append,args:= #[x,y],argTypes:= #[105,105]}) (hd:o.dst=some d) (hn:Nat.blt d n=true)
  (hx:Γ.ev x=some v) (hy:Γ.ev y=some (.slice A q c)) (hq:q=ys.length) (hl:xs.length+ys.length≤3518437208883)
  (k: ∀A' cap',At β n ((d,.slice A' (xs++ys).length cap')::Γ) (lS.row (.slice A' (xs++ys).length cap') 112 (xs++ys)::H') F (wpList prog ops Q rest)):At β n Γ H F (wpList prog ops Q (o::rest)):=by
 obtain⟨i,hi,hz,hs,hb⟩:=tokInfo;exact dK hH hr hg ho hd hn underlying105 hi hz hs hb rfl hx hy hq n9 p7 k
theorem intInfo: ∃i:TypeInfo,prog.info? 2=some i∧i.zero=some (.int .i64 0)∧i.size=1∧i.bytes=8:=by
 have h:(prog.info? 2).map (fun i=>(i.zero,i.size,i.bytes))=some (some (.int .i64 0),1,8):=o0
 cases hi:prog.info? 2 with
 | none=>simp [hi] at h
 | some i=>simp [hi] at h;exact⟨i,rfl,h.1,h.2.1,h.2.2⟩
theorem at_one_int{β:dE}{n:Nat}{Γ:Env}{H:List bH}{F:List Fact}{Q:Exit→Act→World→Prop}{ops:Array Oper}{rest:List Oper}{o:Oper}{d:Nat}{x:Operand}{m:Int}(hw:want ops Γ o=some true)(ho:o.op= .buildSlice 85 1 #[(0,x)])(hd:o.dst=some d)(hn:Nat.blt d n=true)
  (hx:Γ.ev x=some (.int .i64 m)) (k: ∀b,At β n ((d,.slice (some ⟨b,0,none⟩) 1 1)::Γ) (.obj b (.cells (rJ.all [m]).toArray 2)::H) F (wpList prog ops Q rest)):At β n Γ H F (wpList prog ops Q (o::rest)):=by
 obtain⟨i,hi,hz,hs,_⟩:=intInfo;refine gD hw ho hd hn hx underlying85 hi hz n9 n9 ?_ k;rw [hs]
 kernel_rfl
theorem at_app_int{β:dE}{n:Nat}{Γ:Env}{H:List bH}{F:List Fact}{Q:Exit→Act→World→Prop}{ops:Array Oper}{rest:List Oper}{o:Oper}{d:Nat}{x y:Operand}{c q:Nat}{v:Value}{A:Option Addr}{xs ys:List Int}{H':List bH}(hH:cB H (rJ.row v 2 xs) H')(hr:dQ β H F rJ A ys)(hg:o.guard=none)
  (ho:o.op= .call {callee:= .builtin .append,args:= #[x,y],argTypes:= #[85,85]}) (hd:o.dst=some d) (hn:Nat.blt d n=true)
  (hx:Γ.ev x=some v) (hy:Γ.ev y=some (.slice A q c)) (hq:q=ys.length) (hl:xs.length+ys.length≤17592186044416)
  (k: ∀A' cap',At β n ((d,.slice A' (xs++ys).length cap')::Γ) (rJ.row (.slice A' (xs++ys).length cap') 2 (xs++ys)::H') F (wpList prog ops Q rest)):At β n Γ H F (wpList prog ops Q (o::rest)):=by
 obtain⟨i,hi,hz,hs,hb⟩:=intInfo;exact dK hH hr hg ho hd hn underlying85 hi hz hs hb rfl hx hy hq n9 p7 k
theorem strInfo: ∃i:TypeInfo,prog.info? 9=some i∧i.zero=some (.string (bs []))∧i.size=1∧i.bytes=16:=by
 have h:(prog.info? 9).map (fun i=>(i.zero,i.size,i.bytes))=some (some (.string (bs [])),1,16):=o0
 cases hi:prog.info? 9 with
 | none=>simp [hi] at h
 | some i=>simp [hi] at h;exact⟨i,rfl,h.1,h.2.1,h.2.2⟩
theorem jJ{β:dE}{n:Nat}{Γ:Env}{H:List bH}{F:List Fact}{Q:Exit→Act→World→Prop}{ops:Array Oper}{rest:List Oper}{o:Oper}{d:Nat}{x:Operand}{m:Bs}(hw:want ops Γ o=some true)(ho:o.op= .buildSlice 69 1 #[(0,x)])(hd:o.dst=some d)(hn:Nat.blt d n=true)
  (hx:Γ.ev x=some (.string (bs m))) (k: ∀b,At β n ((d,.slice (some ⟨b,0,none⟩) 1 1)::Γ) (.obj b (.cells (mJ.all [m]).toArray 9)::H) F (wpList prog ops Q rest)):At β n Γ H F (wpList prog ops Q (o::rest)):=by
 obtain⟨i,hi,hz,hs,_⟩:=strInfo;refine gD hw ho hd hn hx underlying69 hi hz n9 n9 ?_ k;rw [hs]
 kernel_rfl
theorem lI{β:dE}{n:Nat}{Γ:Env}{H:List bH}{F:List Fact}{Q:Exit→Act→World→Prop}{ops:Array Oper}{rest:List Oper}{o:Oper}{d:Nat}{x y:Operand}{c q:Nat}{v:Value}{A:Option Addr}{xs ys:List Bs}{H':List bH}(hH:cB H (mJ.row v 9 xs) H')(hr:dQ β H F mJ A ys)(hg:o.guard=none)
  (ho:o.op= .call {callee:= .builtin .append,args:= #[x,y],argTypes:= #[69,69]}) (hd:o.dst=some d) (hn:Nat.blt d n=true)
  (hx:Γ.ev x=some v) (hy:Γ.ev y=some (.slice A q c)) (hq:q=ys.length) (hl:xs.length+ys.length≤8796093022208)
  (k: ∀A' cap',At β n ((d,.slice A' (xs++ys).length cap')::Γ) (mJ.row (.slice A' (xs++ys).length cap') 9 (xs++ys)::H') F (wpList prog ops Q rest)):At β n Γ H F (wpList prog ops Q (o::rest)):=by
 obtain⟨i,hi,hz,hs,hb⟩:=strInfo;exact dK hH hr hg ho hd hn underlying69 hi hz hs hb rfl hx hy hq n9 p7 k
theorem sideInfo: ∃i:TypeInfo,prog.info? 76=some i∧i.zero=some (.agg #[.string (bs []),.int .i64 0])∧i.size=2∧i.bytes=24:=by
 have h:(prog.info? 76).map (fun i=>(i.zero,i.size,i.bytes))=some (some (.agg #[.string (bs []),.int .i64 0]),2,24):=o0
 cases hi:prog.info? 76 with
 | none=>simp [hi] at h
 | some i=>simp [hi] at h;exact⟨i,rfl,h.1,h.2.1,h.2.2⟩
theorem bIm{β:dE}{n:Nat}{Γ:Env}{H:List bH}{F:List Fact}{Q:Exit→Act→World→Prop}{ops:Array Oper}{rest:List Oper}{o:Oper}{d:Nat}{x:Operand}{m:jF}(hw:want ops Γ o=some true)(ho:o.op= .buildSlice 48 1 #[(0,x)])(hd:o.dst=some d)(hn:Nat.blt d n=true)
  (hx:Γ.ev x=some (.agg #[.string (bs m.name),.int .i64 m.n])) (k: ∀b,At β n ((d,.slice (some ⟨b,0,none⟩) 1 1)::Γ) (.obj b (.cells (bEg.all [m]).toArray 76)::H) F (wpList prog ops Q rest)):At β n Γ H F (wpList prog ops Q (o::rest)):=by
 obtain⟨i,hi,hz,hs,_⟩:=sideInfo;refine gD hw ho hd hn hx underlying48 hi hz n9 n9 ?_ k;rw [hs]
 kernel_rfl
theorem bIk{β:dE}{n:Nat}{Γ:Env}{H:List bH}{F:List Fact}{Q:Exit→Act→World→Prop}{ops:Array Oper}{rest:List Oper}{o:Oper}{d:Nat}{x y:Operand}{c q:Nat}{v:Value}{A:Option Addr}{xs ys:List jF}{H':List bH}(hH:cB H (bEg.row v 76 xs) H')(hr:dQ β H F bEg A ys)(hg:o.guard=none)
  (ho:o.op= .call {callee:= .builtin .append,args:= #[x,y],argTypes:= #[48,48]}) (hd:o.dst=some d) (hn:Nat.blt d n=true)
  (hx:Γ.ev x=some v) (hy:Γ.ev y=some (.slice A q c)) (hq:q=ys.length) (hl:xs.length+ys.length≤5864062014805)
  (k: ∀A' cap',At β n ((d,.slice A' (xs++ys).length cap')::Γ) (bEg.row (.slice A' (xs++ys).length cap') 76 (xs++ys)::H') F (wpList prog ops Q rest)):At β n Γ H F (wpList prog ops Q (o::rest)):=by
 obtain⟨i,hi,hz,hs,hb⟩:=sideInfo;exact dK hH hr hg ho hd hn underlying48 hi hz hs hb rfl hx hy hq n9 p7 k
theorem bPy: ∃i:TypeInfo,prog.info? 50=some i∧i.zero=some (.agg #[.string (bs []),.int .i64 0,.slice none 0 0])∧i.size=3∧i.bytes=48:=by
 have h:(prog.info? 50).map (fun i=>(i.zero,i.size,i.bytes))=some (some (.agg #[.string (bs []),.int .i64 0,.slice none 0 0]),3,48):=o0
 cases hi:prog.info? 50 with
 | none=>simp [hi] at h
 | some i=>simp [hi] at h;exact⟨i,rfl,h.1,h.2.1,h.2.2⟩
theorem bEs{β:dE}{n:Nat}{Γ:Env}{H:List bH}{F:List Fact}{Q:Exit→Act→World→Prop}{ops:Array Oper}{rest:List Oper}{o:Oper}{d:Nat}{x:Operand}{m:InputV}(hw:want ops Γ o=some true)(ho:o.op= .buildSlice 22 1 #[(0,x)])(hd:o.dst=some d)(hn:Nat.blt d n=true)
  (hx:Γ.ev x=some (.agg #[.string (bs m.name),.int .i64 m.at_,.slice m.sides.addr m.sides.list.length m.sides.cap])) (k: ∀b,At β n ((d,.slice (some ⟨b,0,none⟩) 1 1)::Γ) (.obj b (.cells (jT.all [m]).toArray 50)::H) F (wpList prog ops Q rest)):At β n Γ H F (wpList prog ops Q (o::rest)):=by
 obtain⟨i,hi,hz,hs,_⟩:=bPy;refine gD hw ho hd hn hx underlying22 hi hz n9 n9 ?_ k;rw [hs]
 kernel_rfl
theorem bEm{β:dE}{n:Nat}{Γ:Env}{H:List bH}{F:List Fact}{Q:Exit→Act→World→Prop}{ops:Array Oper}{rest:List Oper}{o:Oper}{d:Nat}{x y:Operand}{c q:Nat}{v:Value}{A:Option Addr}{xs ys:List InputV}{H':List bH}(hH:cB H (jT.row v 50 xs) H')(hr:dQ β H F jT A ys)(hg:o.guard=none)
  (ho:o.op= .call {callee:= .builtin .append,args:= #[x,y],argTypes:= #[22,22]}) (hd:o.dst=some d) (hn:Nat.blt d n=true)
  (hx:Γ.ev x=some v) (hy:Γ.ev y=some (.slice A q c)) (hq:q=ys.length) (hl:xs.length+ys.length≤2932031007402)
  (k: ∀A' cap',At β n ((d,.slice A' (xs++ys).length cap')::Γ) (jT.row (.slice A' (xs++ys).length cap') 50 (xs++ys)::H') F (wpList prog ops Q rest)):At β n Γ H F (wpList prog ops Q (o::rest)):=by
 obtain⟨i,hi,hz,hs,hb⟩:=bPy;exact dK hH hr hg ho hd hn underlying22 hi hz hs hb rfl hx hy hq n9 p7 k
theorem itemInfo: ∃i:TypeInfo,prog.info? 87=some i∧i.zero=some (.agg #[.int .i64 0,.int .i64 0,.int .u8 0,.string (bs []),.slice none 0 0])∧i.size=5∧i.bytes=64:=by
 have h:(prog.info? 87).map (fun i=>(i.zero,i.size,i.bytes))=some (some (.agg #[.int .i64 0,.int .i64 0,.int .u8 0,.string (bs []),.slice none 0 0]),5,64):=o0
 cases hi:prog.info? 87 with
 | none=>simp [hi] at h
 | some i=>simp [hi] at h;exact⟨i,rfl,h.1,h.2.1,h.2.2⟩
theorem yO{β:dE}{n:Nat}{Γ:Env}{H:List bH}{F:List Fact}{Q:Exit→Act→World→Prop}{ops:Array Oper}{rest:List Oper}{o:Oper}{d:Nat}{x:Operand}{m:ItemV}(hw:want ops Γ o=some true)(ho:o.op= .buildSlice 52 1 #[(0,x)])(hd:o.dst=some d)(hn:Nat.blt d n=true)
  (hx:Γ.ev x=some (.agg #[.int .i64 m.how,.int .i64 m.at_,.int .u8 m.fn,.string (bs m.name),.slice m.nums.addr m.nums.list.length m.nums.cap])) (k: ∀b,At β n ((d,.slice (some ⟨b,0,none⟩) 1 1)::Γ) (.obj b (.cells (jZ.all [m]).toArray 87)::H) F (wpList prog ops Q rest)):At β n Γ H F (wpList prog ops Q (o::rest)):=by
 obtain⟨i,hi,hz,hs,_⟩:=itemInfo;refine gD hw ho hd hn hx underlying52 hi hz n9 n9 ?_ k;rw [hs]
 kernel_rfl
theorem yZ{β:dE}{n:Nat}{Γ:Env}{H:List bH}{F:List Fact}{Q:Exit→Act→World→Prop}{ops:Array Oper}{rest:List Oper}{o:Oper}{d:Nat}{x y:Operand}{c q:Nat}{v:Value}{A:Option Addr}{xs ys:List ItemV}{H':List bH}(hH:cB H (jZ.row v 87 xs) H')(hr:dQ β H F jZ A ys)(hg:o.guard=none)
  (ho:o.op= .call {callee:= .builtin .append,args:= #[x,y],argTypes:= #[52,52]}) (hd:o.dst=some d) (hn:Nat.blt d n=true)
  (hx:Γ.ev x=some v) (hy:Γ.ev y=some (.slice A q c)) (hq:q=ys.length) (hl:xs.length+ys.length≤2199023255552)
  (k: ∀A' cap',At β n ((d,.slice A' (xs++ys).length cap')::Γ) (jZ.row (.slice A' (xs++ys).length cap') 87 (xs++ys)::H') F (wpList prog ops Q rest)):At β n Γ H F (wpList prog ops Q (o::rest)):=by
 obtain⟨i,hi,hz,hs,hb⟩:=itemInfo;exact dK hH hr hg ho hd hn underlying52 hi hz hs hb rfl hx hy hq n9 p7 k
theorem lineInfo: ∃i:TypeInfo,prog.info? 54=some i∧i.zero=some (.agg #[.string (bs []),.int .i64 0,.slice none 0 0])∧i.size=3∧i.bytes=48:=by
 have h:(prog.info? 54).map (fun i=>(i.zero,i.size,i.bytes))=some (some (.agg #[.string (bs []),.int .i64 0,.slice none 0 0]),3,48):=o0
 cases hi:prog.info? 54 with
 | none=>simp [hi] at h
 | some i=>simp [hi] at h;exact⟨i,rfl,h.1,h.2.1,h.2.2⟩
theorem yQ{β:dE}{n:Nat}{Γ:Env}{H:List bH}{F:List Fact}{Q:Exit→Act→World→Prop}{ops:Array Oper}{rest:List Oper}{o:Oper}{d:Nat}{x:Operand}{m:LineV}(hw:want ops Γ o=some true)(ho:o.op= .buildSlice 23 1 #[(0,x)])(hd:o.dst=some d)(hn:Nat.blt d n=true)
  (hx:Γ.ev x=some (.agg #[.string (bs m.name),.int .i64 m.at_,.slice m.items.addr m.items.list.length m.items.cap])) (k: ∀b,At β n ((d,.slice (some ⟨b,0,none⟩) 1 1)::Γ) (.obj b (.cells (nM.all [m]).toArray 54)::H) F (wpList prog ops Q rest)):At β n Γ H F (wpList prog ops Q (o::rest)):=by
 obtain⟨i,hi,hz,hs,_⟩:=lineInfo;refine gD hw ho hd hn hx underlying23 hi hz n9 n9 ?_ k;rw [hs]
 kernel_rfl
theorem tM{β:dE}{n:Nat}{Γ:Env}{H:List bH}{F:List Fact}{Q:Exit→Act→World→Prop}{ops:Array Oper}{rest:List Oper}{o:Oper}{d:Nat}{x y:Operand}{c q:Nat}{v:Value}{A:Option Addr}{xs ys:List LineV}{H':List bH}(hH:cB H (nM.row v 54 xs) H')(hr:dQ β H F nM A ys)(hg:o.guard=none)
  (ho:o.op= .call {callee:= .builtin .append,args:= #[x,y],argTypes:= #[23,23]}) (hd:o.dst=some d) (hn:Nat.blt d n=true)
  (hx:Γ.ev x=some v) (hy:Γ.ev y=some (.slice A q c)) (hq:q=ys.length) (hl:xs.length+ys.length≤2932031007402)
  (k: ∀A' cap',At β n ((d,.slice A' (xs++ys).length cap')::Γ) (nM.row (.slice A' (xs++ys).length cap') 54 (xs++ys)::H') F (wpList prog ops Q rest)):At β n Γ H F (wpList prog ops Q (o::rest)):=by
 obtain⟨i,hi,hz,hs,hb⟩:=lineInfo;exact dK hH hr hg ho hd hn underlying23 hi hz hs hb rfl hx hy hq n9 p7 k
theorem bX:prog.follows .mixedOrders=true:=o0
end
section
open Go.Proofs.Tryz
def nW (b:UInt8):Bool:=decide (97≤(b ||| 32).toNat)&&decide ((b ||| 32).toNat≤122)
def cR (b:UInt8):Bool:=decide (48≤b.toNat)&&decide (b.toNat≤57)
def nE (b:UInt8):Bool:=nW b || cR b
abbrev Tok:=TokV
abbrev Flt:=Int×Int
def runB (p:UInt8→Bool):Bs→Nat
 | []=>0
 | b::r=>if p b then runB p r+1 else 0
theorem kT(p:UInt8→Bool): ∀s:Bs,runB p s≤s.length
 | []=>Nat.le_refl _
 | b::r=>by
  unfold runB;split
  ·have:=kT p r;simp;omega
  ·simp
def decV:Bs→Nat→Nat
 | [],v=>v
 | b::r,v=>decV r (10*v+(b.toNat-48))
def tH (neg:Bool)(ds:Bs):Option Int:=
 if neg then (if decV ds 0≤9223372036854775808 then some (-(decV ds 0:Int)) else none)
 else (if decV ds 0≤9223372036854775807 then some (decV ds 0:Int) else none)
def signs:Bs:=[43,45,42,37,124,61,126,60,62,47,92,46,58,40,41]
def lQ:Bs→Nat
 | []=>0
 | b::r=>if (b==60 || b==62)&&r.head?==some 61 then 2 else if signs.contains b then 1 else 0
abbrev TokR:=Int×Bs×Int×Nat
def gY (b:UInt8)(r:Bs):Except Int (Option TokR):=
 let ds:=if b==95 then r else b::r
 let k:=runB cR ds
 if k=0 then .ok none else match tH (b==95) (ds.take k) with
  | none=> .error 32
  | some v=> .ok (some (2,[],v,k+if b==95 then 1 else 0))
def fN:Bs→Except Int TokR
 | []=> .error 31
 | b::r=>
  if b==10 then .ok (4,[],0,1)
  else if nW b then (if 16<runB nE (b::r) then .error 33 else .ok (1,(b::r).take (runB nE (b::r)),0,runB nE (b::r)))
  else match gY b r with
   | .error e=> .error e
   | .ok (some t)=> .ok t
   | .ok none=>if lQ (b::r)=0 then .error 31 else .ok (3,(b::r).take (lQ (b::r)),0,lQ (b::r))
def nJ (b:UInt8):Bool:=b==32 || b==9
def lexGo:Nat→Nat→Bs→List Tok→List Tok×Flt
 | 0,_,_,out=>(out,(0,0))
 | _+1,_,[],out=>(out,(0,0))
 | f+1,i,b::r,out=>
  if nJ b then lexGo f (i+1) r out
  else if b==35 then lexGo f (i+runB (· !=10) (b::r)) ((b::r).drop (runB (· !=10) (b::r))) out
  else match fN (b::r) with
   | .error e=>([],(i,e))
   | .ok (k,wd,v,m)=>lexGo f (i+m) ((b::r).drop m) (out++[⟨k,i,wd,v⟩])
def gA (s:Bs):List Tok×Flt:=if 65536<s.length then ([],(0,30)) else lexGo s.length 0 s []
theorem bMf{b:UInt8}{r:Bs}{t:TokR}(h:gY b r= .ok (some t)):1≤t.2.2.2∧t.2.2.2≤r.length+1:=by
 unfold gY at h
 by_cases hb:(b==95)=true
 ·simp only [hb,if_true] at h;have hl:=kT cR r;split at h
  ·cases h
  ·split at h
   ·cases h
   ·simp only [Except.ok.injEq,Option.some.injEq] at h;subst h;simp;omega
 ·simp only [hb,Bool.false_eq_true,if_false] at h;have hl:=kT cR (b::r);simp only [List.length_cons] at hl;split at h
  ·cases h
  ·split at h
   ·cases h
   ·simp only [Except.ok.injEq,Option.some.injEq] at h;subst h;simp only;omega
theorem signP_le: ∀s:Bs,lQ s≤s.length
 | []=>Nat.le_refl _
 | [b]=>by
  have e:(none==some (61:UInt8))=false:=rfl;simp only [lQ,List.head?_nil,e,Bool.and_false,Bool.false_eq_true,if_false];split<;>simp
 | b::c::r=>by
  simp only [lQ];split
  ·simp
  ·split
   ·simp only [List.length_cons];omega
   ·omega
theorem wK{s:Bs}{t:TokR}(h:fN s= .ok t):1≤t.2.2.2∧t.2.2.2≤s.length:=by
 cases s with
 | nil=>cases h
 | cons b r=>
  simp only [fN] at h;split at h
  ·cases h;simp
  ·split at h
   ·rename_i hlt;split at h
    ·cases h
    ·cases h;have:=kT nE (b::r);refine⟨?_,this⟩;simp only [runB,nE,hlt,Bool.true_or,if_true];omega
   ·split at h
    ·cases h
    ·rename_i t' ht;cases h;exact bMf ht
    ·split at h
     ·cases h
     ·cases h;have:=signP_le (b::r);simp only;omega
theorem bEv{p:UInt8→Bool}{b:UInt8}{r:Bs}(h:p b=true):1≤runB p (b::r):=by
 simp only [runB,h,if_true];omega
theorem bOo{b:UInt8}(h:(b==35)=true):(b !=10)=true:=by
 have:b=35:=by simpa using h
 subst this;decide
theorem sG: ∀(f g i:Nat) (s:Bs) (out:List Tok),s.length≤f→s.length≤g→lexGo f i s out=lexGo g i s out
 | 0,0,_,_,_,_,_=>rfl
 | 0,g+1,_,[],_,_,_=>rfl
 | f+1,0,_,[],_,_,_=>rfl
 | 0,_,_,b::r,_,h,_=>by simp at h
 | _,0,_,b::r,_,_,h=>by simp at h
 | f+1,g+1,_,[],_,_,_=>rfl
 | f+1,g+1,i,b::r,out,h,k=>by
  simp only [List.length_cons] at h k;unfold lexGo;split
  ·exact sG f g _ _ _ n9 n9
  ·split
   ·rename_i h35;have:1≤runB (· !=10) (b::r):=bEv (bOo h35);exact sG f g _ _ _ r8 r8
   ·split
    ·rfl
    ·rename_i ht;have:=(wK ht).1;exact sG f g _ _ _ (by simp at this⊢;omega) (by simp at this⊢;omega)
theorem oB{i:Nat}{b:UInt8}{r:Bs}{out:List Tok}:lexGo (b::r).length i (b::r) out=
  if nJ b then lexGo r.length (i+1) r out
  else if b==35 then lexGo ((b::r).drop (runB (· !=10) (b::r))).length (i+runB (· !=10) (b::r)) ((b::r).drop (runB (· !=10) (b::r))) out
  else match fN (b::r) with
   | .error e=>([],(i,e))
   | .ok (k,wd,v,m)=>lexGo ((b::r).drop m).length (i+m) ((b::r).drop m) (out++[⟨k,i,wd,v⟩]):=by
 rw [List.length_cons,lexGo];split
 ·rfl
 ·split
  ·rename_i h35;have:1≤runB (· !=10) (b::r):=bEv (bOo h35);exact sG _ _ _ _ _ r8 o9
  ·split
   ·rfl
   ·rename_i ht;have:=(wK ht).1;exact sG _ _ _ _ _ (by simp at this⊢;omega) o9
end
section
open Go.RowKit Go.Proofs.Tryz
theorem run_more{p:UInt8→Bool}{s:Bs}{i:Nat}{b:UInt8}(hb:s[i]?=some b)(hp:p b=true)(h:runB p s=i+runB p (s.drop i)):runB p s=(i+1)+runB p (s.drop (i+1)):=by
 obtain⟨hi,hb⟩:=List.getElem?_eq_some_iff.1 hb;rw [List.drop_eq_getElem_cons hi,hb,runB,if_pos hp] at h;omega
theorem run_end{p:UInt8→Bool}{s:Bs}{i:Nat}(hc:s.length≤i∨ ∃b,s[i]?=some b∧p b=false)(h:runB p s=i+runB p (s.drop i)):runB p s=i:=by
 rcases hc with hc | ⟨b,hb,hp⟩
 ·rw [List.drop_of_length_le hc] at h
  simpa [runB] using h
 ·obtain⟨hi,hb⟩:=List.getElem?_eq_some_iff.1 hb;rw [List.drop_eq_getElem_cons hi,hb,runB,hp] at h
  simpa using h
theorem or32(a:UInt8):IntKind.u8.wrap (((BitVec.ofInt IntKind.u8.bits (a.toNat:Int) ||| BitVec.ofInt IntKind.u8.bits 32).toNat:Nat):Int)=(((a ||| 32).toNat:Nat):Int):=or_u8 a 32
theorem bIn(b:UInt8):cN prog 96 [.int .u8 b.toNat] [] [] (fun(_:Unit)=> .bool (nW b)) (fun _=>[]) (fun _=>[]):=by
 have hT:=dY;refine k8 func96 ntmps96 ?_;intro β hM;refine g9 ?_;refine cP (z':=((((b ||| 32):UInt8).toNat:Nat):Int)) (or32 _) ?_;refine g2 ?_;refine k_le (fun hg6=>?_) fun hg6=>?_
 ·refine g2 ?_;refine cP (z':=((((b ||| 32):UInt8).toNat:Nat):Int)) (or32 _) ?_;refine g6 ?_;exact rs1 () j2 (he:=by congr 1;unfold nW;generalize (b ||| 32).toNat=c at*;rw [Bool.eq_iff_iff];simp;omega)
 refine g8 ?_;exact rs1 () j2 (he:=by congr 1;unfold nW;generalize (b ||| 32).toNat=c at*;rw [Bool.eq_iff_iff];simp;omega)
theorem bBx(b:UInt8):cN prog 98 [.int .u8 b.toNat] [] [] (fun(_:Unit)=> .bool (cR b)) (fun _=>[]) (fun _=>[]):=by
 have hT:=dY;refine k8 func98 ntmps98 ?_;intro β hM;refine g10 ?_;refine k_le (fun hg5=>?_) fun hg5=>?_
 ·refine g7 ?_;exact rs1 () j2 (he:=by congr 1;unfold cR;rw [Bool.eq_iff_iff];simp;omega)
 refine g7 ?_;exact rs1 () j2 (he:=by congr 1;unfold cR;rw [Bool.eq_iff_iff];simp;omega)
theorem word_spec(b:UInt8):cN prog 97 [.int .u8 b.toNat] [] [] (fun(_:Unit)=> .bool (nE b)) (fun _=>[]) (fun _=>[]):=by
 have hT:=dY;refine k8 func97 ntmps97 ?_;intro β hM;refine g8 ?_;refine bD func96 (bIn _) rfl rfl .nil j2 fun _=>?_;refine one ?_;refine dP (fun hg5=>?_) (fun hg5=>?_)
 ·refine g7 ?_;exact rs1 () j2 (he:=by simp [nE, *])
 refine one ?_;refine bD func98 (bBx _) rfl rfl .nil j2 fun _=>?_;refine g5 ?_;exact rs1 () j2 (he:=by simp [nE, *])
theorem line_spec(b:UInt8):cN prog 58 [.int .u8 b.toNat] [] [] (fun(_:Unit)=> .bool (b !=10)) (fun _=>[]) (fun _=>[]):=by
 have hT:=dY;refine k8 func58 ntmps58 ?_;intro β hM;refine g13 ?_;exact rs1 () j2 (he:=by congr 1;rw [Bool.eq_iff_iff];simp [bne_iff_ne,←UInt8.toNat_inj];omega)
theorem bDt(s:Bs)(hs:s.length≤140737488355328)(f:FuncId)(p:UInt8→Bool)(hcf: ∀(args:Array Value) (w:World),(callFunc f args).run prog w= .ok (.enter f args) w)(hf: ∀b:UInt8,cN prog f [.int .u8 b.toNat] [] [] (fun _:Unit=> .bool (p b)) (fun _=>[]) (fun _=>[])):cN prog 57 [.string (bs s),.func (.func f) #[] #[]] [] [] (fun(_:Unit)=> .int .i64 (runB p s:Nat)) (fun _=>[]) (fun _=>[]):=by
 have hT:=dY;refine k8 func57 ntmps57 ?_;intro β hM;refine g12 ?_;refine cE (ι:=Nat) [(0,_),(1,_)] ⟨rfl,rfl,j2⟩ (fun i=>[(5,.int .i64 (i:Nat))]) (fun i=>[]) (fun i=>[Fact.pure (i≤s.length∧runB p s=i+runB p (s.drop i))]) (fun i=>s.length-i) 0 ⟨rfl,j2⟩ .nil ⟨j3 (⟨n9,o9⟩),j2⟩ ?_;rintro i;refine bC d7 fun hinv2=>?_;refine g6 ?_;refine cP (z':=((s.length:Nat):Int)) rfl ?_;refine g2 ?_;refine lR (fun hg10=>?_) fun hg10=>?_
 ·refine g3 ?_;obtain⟨b1,hb2⟩:=gx s i;refine ss (qJ hT (k:=i) rfl rfl rfl rfl rfl hb2) ?_;refine fU hcf (hf b1) rfl rfl rfl rfl rfl rfl rfl .nil j2 fun _=>?_;refine g3 ?_;refine iV (fun hc16=>?_) fun hc16=>?_
  ·refine g6 ?_;refine inc (i+1) ?_;refine g4 ?_;exact bk2 (i+1) ⟨j3 (⟨n9,run_more hb2 hc16 hinv2.2⟩),j2⟩
  refine g12 ?_;exact rs1 () j2 (he:=congrArg (fun n:Nat=>Value.int .i64 (n:Int)) (run_end (.inr ⟨_,hb2,hc16⟩) hinv2.2).symm)
 refine g21 ?_;exact rs1 () j2 (he:=congrArg (fun n:Nat=>Value.int .i64 (n:Int)) (run_end (.inl n9) hinv2.2).symm)
end
section
open Go.RowKit Go.Proofs.Tryz
theorem bKs{P:Program}(w:World)(d:Nat)(t:TypeId)(a b:Bs)(ht:P.underlying t=some .string):(Op.equalIn (d+1) t (.string (bs a)) (.string (bs b))).run P w= .ok (a==b) w:=by
 rw [run_equalIn_string w d t _ _ ht];simp [bs]
section
variable {P : Program} {β : dE} {n : Nat} {Γ : Env} {H : List bH} {F : List Fact} {o : Oper} {x : Operand} {t tt : TypeId}
theorem run_eqIf{ms:Array (String×TypeId)}(ht:P.underlying t=some (.interface ms))(w:World)(u:TypeId)(v:Value):(Op.equal t (.iface u v) .nilIface).run P w= .ok false w∧(Op.equal t .nilIface .nilIface).run P w= .ok true w:=by
 have h1: ∀d,(Op.equalIn (d+1) t (.iface u v) .nilIface).run P w= .ok false w:=fun d=>by simp [Op.equalIn,run_underlying ht]
 have h2: ∀d,(Op.equalIn (d+1) t .nilIface .nilIface).run P w= .ok true w:=fun d=>by simp [Op.equalIn,run_underlying ht]
 exact⟨h1 9999,h2 9999⟩
theorem sti_err{ms:Array (String×TypeId)}(ht:P.underlying t=some (.interface ms)){u:TypeId}{v:Value}(ho:o.op= .binOp .neq t x (.const .nilIface) tt)(hx:Γ.ev x=some (.iface u v)):Sti P β n Γ H F o (.bool true):=fun c w S f s k=>by
 unfold execOp;have e:c.eval (.const .nilIface)= .nilIface:=rfl;simp only [ho,f.ev hx,e]
 have hb:(binOp .neq t (.iface u v) .nilIface).run P w= .ok (.bool true) w:=by
  simp only [binOp];rw [Sem.run_bind,(run_eqIf ht w u v).1];rfl
 rw [Sem.run_bind,Sem.run_bind];have hg:(eqGuard .neq t x (.const .nilIface) (.iface u v) .nilIface).run P w= .ok () w:=rfl;rw [hg,Result.andThen_ok,hb];rfl
theorem bRd{ms:Array (String×TypeId)}(ht:P.underlying t=some (.interface ms))(ho:o.op= .binOp .neq t x (.const .nilIface) tt)(hx:Γ.ev x=some .nilIface):Sti P β n Γ H F o (.bool false):=fun c w S f s k=>by
 unfold execOp;have e:c.eval (.const .nilIface)= .nilIface:=rfl;simp only [ho,f.ev hx,e]
 have hb:(binOp .neq t .nilIface .nilIface).run P w= .ok (.bool false) w:=by
  simp only [binOp];rw [Sem.run_bind,(run_eqIf ht w 0 .nilIface).2];rfl
 rw [Sem.run_bind,Sem.run_bind]
 have hg:(eqGuard .neq t x (.const .nilIface) .nilIface .nilIface).run P w= .ok () w:=by
  unfold eqGuard;simp
 rw [hg,Result.andThen_ok,hb];rfl
end
def nU (x y:FltV):Bool:=((x.at_==y.at_)&&(x.code==y.code))
theorem wZ(d:Nat)(x y:FltV)(w:World):(Op.equalIn (d+2) 34 (.agg #[.int .i64 x.at_,.int .i64 x.code]) (.agg #[.int .i64 y.at_,.int .i64 y.code])).run prog w= .ok (nU x y) w:=by
 have hp:prog.stoodInHeld 34=false:=o0
 have p0: ∀x:FltV,(part 3 #[.int .i64 x.at_,.int .i64 x.code] 0).run prog w= .ok (.int .i64 x.at_) w:=fun x=>by kernel_rfl
 have p1: ∀x:FltV,(part 32 #[.int .i64 x.at_,.int .i64 x.code] 1).run prog w= .ok (.int .i64 x.code) w:=fun x=>by kernel_rfl
 have hS:prog.underlying 34=some (.struct (prog.fieldsOf 34)):=o0
 rw [run_equalIn_agg w (d+1) 34 _ _ hS hp];unfold Program.fieldsOf;rw [underlying34];simp only [Op.eqFields,Sem.run_bind,Sem.run_ite,Sem.run_pure,p0,p1,Result.andThen_ok,run_equalIn_int w d 3 .i64 .i64 _ _ underlying3,run_equalIn_int w d 32 .i64 .i64 _ _ underlying32];unfold nU;cases x.at_==y.at_<;>cases x.code==y.code<;>rfl
theorem fK{β:dE}{n:Nat}{Γ:Env}{H:List bH}{F:List Fact}{o:Oper}{a b:Operand}{tt:TypeId}(x y:FltV)(ho:o.op= .binOp .neq 34 a b tt)(hx:Γ.ev a=some (.agg #[.int .i64 x.at_,.int .i64 x.code]))(hy:Γ.ev b=some (.agg #[.int .i64 y.at_,.int .i64 y.code])):Sti prog β n Γ H F o (.bool (!nU x y)):=fun c w S f s k=>by
 have hq:prog.eqGuardType prog.depth 34=false:=o0
 have hg:(eqGuard .neq 34 a b (.agg #[.int .i64 x.at_,.int .i64 x.code]) (.agg #[.int .i64 y.at_,.int .i64 y.code])).run prog w= .ok () w:=by
  unfold eqGuard;have hp:(program:Sem Program).run prog w= .ok prog w:=rfl;simp [hp,hq]
 have hb:(binOp .neq 34 (.agg #[.int .i64 x.at_,.int .i64 x.code]) (.agg #[.int .i64 y.at_,.int .i64 y.code])).run prog w= .ok (.bool (!nU x y)) w:=by
  rw [run_neq_struct,wZ 9998 x y w];rfl
 unfold execOp;simp only [ho,f.ev hx,f.ev hy];rw [Sem.run_bind,Sem.run_bind,hg,Result.andThen_ok,hb];rfl
theorem bHy{β:dE}{n:Nat}{Γ:Env}{H:List bH}{F:List Fact}{o:Oper}{a b:Operand}{tt:TypeId}(x y:FltV)(ho:o.op= .binOp .eql 34 a b tt)(hx:Γ.ev a=some (.agg #[.int .i64 x.at_,.int .i64 x.code]))(hy:Γ.ev b=some (.agg #[.int .i64 y.at_,.int .i64 y.code])):Sti prog β n Γ H F o (.bool (nU x y)):=fun c w S f s k=>by
 have hq:prog.eqGuardType prog.depth 34=false:=o0
 have hg:(eqGuard .eql 34 a b (.agg #[.int .i64 x.at_,.int .i64 x.code]) (.agg #[.int .i64 y.at_,.int .i64 y.code])).run prog w= .ok () w:=by
  unfold eqGuard;have hp:(program:Sem Program).run prog w= .ok prog w:=rfl;simp [hp,hq]
 have hb:(binOp .eql 34 (.agg #[.int .i64 x.at_,.int .i64 x.code]) (.agg #[.int .i64 y.at_,.int .i64 y.code])).run prog w= .ok (.bool (nU x y)) w:=by
  rw [run_eql_struct,wZ 9998 x y w];rfl
 unfold execOp;simp only [ho,f.ev hx,f.ev hy];rw [Sem.run_bind,Sem.run_bind,hg,Result.andThen_ok,hb];rfl
def tokEq (x y:TokV):Bool:=((x.kind==y.kind)&&((x.at_==y.at_)&&((x.word==y.word)&&(x.n==y.n))))
theorem bIq(d:Nat)(x y:TokV)(w:World):(Op.equalIn (d+2) 112 (.agg #[.int .i64 x.kind,.int .i64 x.at_,.string (bs x.word),.int .i64 x.n]) (.agg #[.int .i64 y.kind,.int .i64 y.at_,.string (bs y.word),.int .i64 y.n])).run prog w= .ok (tokEq x y) w:=by
 have hp:prog.stoodInHeld 112=false:=o0
 have p0: ∀x:TokV,(part 3 #[.int .i64 x.kind,.int .i64 x.at_,.string (bs x.word),.int .i64 x.n] 0).run prog w= .ok (.int .i64 x.kind) w:=fun x=>by kernel_rfl
 have p1: ∀x:TokV,(part 3 #[.int .i64 x.kind,.int .i64 x.at_,.string (bs x.word),.int .i64 x.n] 1).run prog w= .ok (.int .i64 x.at_) w:=fun x=>by kernel_rfl
 have p2: ∀x:TokV,(part 9 #[.int .i64 x.kind,.int .i64 x.at_,.string (bs x.word),.int .i64 x.n] 2).run prog w= .ok (.string (bs x.word)) w:=fun x=>by kernel_rfl
 have p3: ∀x:TokV,(part 2 #[.int .i64 x.kind,.int .i64 x.at_,.string (bs x.word),.int .i64 x.n] 3).run prog w= .ok (.int .i64 x.n) w:=fun x=>by kernel_rfl
 have hS:prog.underlying 112=some (.struct (prog.fieldsOf 112)):=o0
 rw [run_equalIn_agg w (d+1) 112 _ _ hS hp];unfold Program.fieldsOf;rw [underlying112];simp only [Op.eqFields,Sem.run_bind,Sem.run_ite,Sem.run_pure,p0,p1,p2,p3,Result.andThen_ok,run_equalIn_int w d 3 .i64 .i64 _ _ underlying3,bKs w d 9 _ _ underlying9,run_equalIn_int w d 2 .i64 .i64 _ _ underlying2];unfold tokEq;cases x.kind==y.kind<;>cases x.at_==y.at_<;>cases x.word==y.word<;>cases x.n==y.n<;>rfl
theorem sti_neq_tok{β:dE}{n:Nat}{Γ:Env}{H:List bH}{F:List Fact}{o:Oper}{a b:Operand}{tt:TypeId}(x y:TokV)(ho:o.op= .binOp .neq 112 a b tt)(hx:Γ.ev a=some (.agg #[.int .i64 x.kind,.int .i64 x.at_,.string (bs x.word),.int .i64 x.n]))(hy:Γ.ev b=some (.agg #[.int .i64 y.kind,.int .i64 y.at_,.string (bs y.word),.int .i64 y.n])):Sti prog β n Γ H F o (.bool (!tokEq x y)):=fun c w S f s k=>by
 have hq:prog.eqGuardType prog.depth 112=false:=o0
 have hg:(eqGuard .neq 112 a b (.agg #[.int .i64 x.kind,.int .i64 x.at_,.string (bs x.word),.int .i64 x.n]) (.agg #[.int .i64 y.kind,.int .i64 y.at_,.string (bs y.word),.int .i64 y.n])).run prog w= .ok () w:=by
  unfold eqGuard;have hp:(program:Sem Program).run prog w= .ok prog w:=rfl;simp [hp,hq]
 have hb:(binOp .neq 112 (.agg #[.int .i64 x.kind,.int .i64 x.at_,.string (bs x.word),.int .i64 x.n]) (.agg #[.int .i64 y.kind,.int .i64 y.at_,.string (bs y.word),.int .i64 y.n])).run prog w= .ok (.bool (!tokEq x y)) w:=by
  rw [run_neq_struct,bIq 9998 x y w];rfl
 unfold execOp;simp only [ho,f.ev hx,f.ev hy];rw [Sem.run_bind,Sem.run_bind,hg,Result.andThen_ok,hb];rfl
end
section
open Go.RowKit Go.Proofs.Tryz
theorem named0:prog.globalNamed "strings.asciiSpace" =some 0:=o0
theorem named7:prog.globalNamed "internal/strconv.uint64pow10" =some 7:=o0
def iD:Fact where
 p S w:=(S 0∧S 7∧S 4∧S 3)∧Lib.TabIs prog w "strings.asciiSpace" .u8 Lib.asciiSpaceTab∧Lib.TabIs prog w "internal/strconv.uint64pow10" .u64 Lib.pow10Tab∧
  (∃m,w.cell? ⟨4,0,none⟩=some (.int .i64 m))∧ ∃ev,w.cell? ⟨3,0,none⟩=some ev∧(ev= .nilIface∨ ∃te pe,ev= .iface te pe)
 mono:=fun{S S' w w'} hs ha h=>by
  obtain⟨⟨s0,s7,s4,s3⟩,h0,h7,⟨m,h4⟩,ev,h3,he⟩:=h;refine⟨⟨hs _ s0,hs _ s7,hs _ s4,hs _ s3⟩,?_,?_,⟨m,?_⟩,ev,?_,he⟩
  ·unfold Lib.TabIs World.var? at*;rw [named0] at*;simp only [Option.bind_some,ha _ s0] at*;exact h0
  ·unfold Lib.TabIs World.var? at*;rw [named7] at*;simp only [Option.bind_some,ha _ s7] at*;exact h7
  ·unfold World.cell? at*;rw [ha _ s4];exact h4
  ·unfold World.cell? at*;rw [ha _ s3];exact h3
theorem zT{P:Program}{f:FuncId}{args:List Value}{Pre:List Fact}{v:Value}(h: ∀S w,All Pre S w→Calls P f args.toArray w fun e w'=>e= .returned v∧w'=w):
  cN P f args [] Pre (fun _:Unit=>v) (fun _=>[]) (fun _=>[]):=lM fun S w _ k=>(h S w k).mono fun e w' ⟨he,hw⟩=>⟨he,by rw [hw];exact Below.refl _ _⟩
theorem yA(s p:Bs):cN prog 132 [.string (bs s),.string (bs p)] [] [] (fun _:Unit=> .bool (p.isPrefixOf s)) (fun _=>[]) (fun _=>[]):=
 zT fun _ w _=>Tryz.strings_HasPrefix (bs s) (bs p) w
theorem bNv(s:Bs)(b:UInt8):cN prog 133 [.string (bs s),.int .u8 b.toNat] [] [] (fun _:Unit=> .int .i64 (Lib.indexByte s b)) (fun _=>[]) (fun _=>[]):=
 zT fun _ w _=>by
  have h:=Tryz.strings_IndexByte (bs s) (b.toNat:Int) w;have e:((b.toNat:Int).toNat).toUInt8=b:=by simp
  rw [e] at h;exact h
theorem sB(b:UInt8): ∀l:Bs,(decide ((0:Int)≤Lib.indexByte l b))=l.contains b∧(Lib.indexByte l b= -1∨0≤Lib.indexByte l b)
 | []=>by simp [Lib.indexByte]
 | c::l=>by
  obtain⟨h1,h2⟩:=sB b l;unfold Lib.indexByte
  by_cases h:(c==b)=true
  ·have:b=c:=(by simpa using h:c=b).symm;simp [this]
  ·have hne: ¬b=c:=fun e=>h ah6;simp only [h,Bool.false_eq_true,if_false]
   rcases h2 with h2 | h2
   ·rw [h2] at h1⊢;simp only [beq_self_eq_true,if_true];simp at h1;refine⟨?_,.inl j2⟩;simp [hne,h1]
   ·have: ¬Lib.indexByte l b= -1:=n9
    have hb:(Lib.indexByte l b== -1)=false:=by simp [this]
    rw [hb];simp only [Bool.false_eq_true,if_false];refine⟨?_,.inr n9⟩;have h1':l.contains b=true:=by rw [←h1];simp [h2]
    have hm:b∈l:=by simpa using h1'
    simp [hm];omega
theorem decV_ge: ∀(ds:Bs) (acc:Nat),acc≤decV ds acc
 | [],_=>Nat.le_refl _
 | b::r,acc=>by
  have:=decV_ge r (10*acc+(b.toNat-48));simp only [decV];omega
theorem bEd: ∀(ds:Bs) (acc:Nat),(∀b∈ds,cR b=true)→acc≤18446744073709551615→Lib.parseUintM 18446744073709551615 acc ds=if decV ds acc≤18446744073709551615 then .ok (decV ds acc) else .range
 | [],acc,_,h=>by simp [Lib.parseUintM,decV,h]
 | b::r,acc,hd,h=>by
  have hb:=hd b o9;simp only [cR,Bool.and_eq_true,decide_eq_true_eq] at hb;have hge:=decV_ge r (10*acc+(b.toNat-48));unfold Lib.parseUintM decV;rw [if_pos hb];split
  ·rw [if_neg n9]
  ·split
   ·rw [if_neg n9]
   ·rw [bEd r _ (fun x hx=>hd x ae4) n9,show acc*10+(b.toNat-48)=10*acc+(b.toNat-48) from by omega]
theorem bDb{neg:Bool}{ds:Bs}(hne:ds≠[])(hd: ∀b∈ds,cR b=true):Lib.parseIntB 64 ((if neg then [45] else [])++ds)=match tH neg ds with
  | some v=> .ok v
  | none=> .range:=by
 have hu:Lib.parseUintB 64 ds=if decV ds 0≤18446744073709551615 then .ok (decV ds 0) else .range:=by
  unfold Lib.parseUintB;rw [if_neg hne];exact bEd ds 0 hd n9
 cases neg with
 | true=>
  simp only [if_true,List.singleton_append,Lib.parseIntB];have e:((45:UInt8).toNat=43∨(45:UInt8).toNat=45):=p7
  have e2:(45:UInt8).toNat=45:=p7
  rw [if_pos e,hu];unfold tH;simp only [if_true]
  by_cases h1:decV ds 0≤18446744073709551615
  ·rw [if_pos h1]
   by_cases h2:decV ds 0≤9223372036854775808
   ·simp [h2,e2]
   ·have h3:9223372036854775808<decV ds 0:=n9
    simp [e2,h2,h3]
  ·rw [if_neg h1,if_neg n9]
 | false=>
  cases ds with
  | nil=>exact absurd rfl hne
  | cons b r=>
   have hb:=hd b o9;simp only [cR,Bool.and_eq_true,decide_eq_true_eq] at hb;simp only [Bool.false_eq_true,if_false,List.nil_append,Lib.parseIntB];have e: ¬(b.toNat=43∨b.toNat=45):=n9
   have e2: ¬b.toNat=45:=n9
   rw [if_neg e,hu];unfold tH;simp only [Bool.false_eq_true,if_false]
   by_cases h1:decV (b::r) 0≤18446744073709551615
   ·rw [if_pos h1]
    by_cases h2:decV (b::r) 0≤9223372036854775807
    ·simp [h2,e2];omega
    ·simp [e2,h2];omega
   ·rw [if_neg h1,if_neg n9]
def bGm (neg:Bool):Bs:=if neg then [45] else []
theorem bHx(neg:Bool)(ds:Bs)(hne:ds≠[])(hd: ∀b∈ds,cR b=true)(hl:ds.length≤140737488355328){v:Int}(hv:tH neg ds=some v):
  cN prog 131 [.string (bs (bGm neg++ds)),.int .i64 10,.int .i64 64] [] [] (fun _:Unit=> .tuple #[.int .i64 v,.nilIface]) (fun _=>[]) (fun _=>[]):=
 lM fun _ w _ _=>by
  have hp:=bDb (neg:=neg) hne hd;rw [hv] at hp;refine(Tryz.strconv_ParseInt_10_at64_ok (bs (bGm neg++ds)) (by rw [kS];unfold bGm;cases neg<;>simp<;>omega) v hp w).mono ?_;rintro e w' ⟨rfl,h⟩;refine⟨rfl,?_⟩
  rcases h with rfl | ⟨t,rfl⟩
  ·exact Below.refl _ _
  ·exact Joins.below_bytesWorld _ _ _ _ (Nat.le_refl _)
theorem xR(neg:Bool)(ds:Bs)(hne:ds≠[])(hd: ∀b∈ds,cR b=true)(hl:ds.length≤140737488355328)(hv:tH neg ds=none):
  cN prog 131 [.string (bs (bGm neg++ds)),.int .i64 10,.int .i64 64] [] [iD] (fun x:Int×Nat=> .tuple #[.int .i64 x.1,.iface 278 (.pointer (some ⟨x.2,0,none⟩))]) (fun _=>[]) (fun _=>[]):=fun S w s k=>by
 obtain⟨_,_,_,_,ev,h3,he⟩:=k _ (.head _);have hp:=bDb (neg:=neg) hne hd;rw [hv] at hp;refine(Tryz.strconv_ParseInt_10_at64_range (bs (bGm neg++ds)) (by rw [kS];unfold bGm;cases neg<;>simp<;>omega) hp ev w h3 he).mono ?_;rintro e w' ⟨N,rfl,_,_,hb⟩;exact⟨(_,N),S,rfl,⟨nV.of_below _ hb,fun c hc=>by simp at hc,fun c hc=>by simp at hc,List.Pairwise.nil,fun b hb'=>⟨Nat.lt_of_lt_of_le (s.zone b hb').1 hb.size,.inl hb'⟩⟩,fun g hg=>by simp at hg⟩
end
section
open Go.RowKit Go.Proofs.Tryz
theorem bKu{b k:UInt8}(h:(b.toNat:Int)=(k.toNat:Int)):b=k:=UInt8.toNat_inj.1 n9
theorem bKd{b k:UInt8}(h:(b.toNat:Int)≠(k.toNat:Int)):b≠k:=fun e=>h (by rw [e])
theorem pre2(k b:UInt8)(r:Bs):[k,61].isPrefixOf (b::r)=(b==k&&r.head?==some 61):=by
 cases r with
 | nil=>simp [List.isPrefixOf]
 | cons c r=>
  show((k==b)&&(((61:UInt8)==c)&&true))=(b==k&&(c==61));rw [show(k==b)=(b==k) from BEq.comm,show((61:UInt8)==c)=(c==61) from BEq.comm,Bool.and_true]
section
variable {b : UInt8} {r : Bs}
theorem sign_a(h:([60,61]:Bs).isPrefixOf (b::r)=true):Value.int .i64 2=Value.int .i64 ((lQ (b::r):Nat):Int):=by
 rw [pre2] at h;simp only [Bool.and_eq_true,beq_iff_eq] at h;simp [lQ,h.1,h.2]
theorem sign_b(_:([60,61]:Bs).isPrefixOf (b::r)=false)(h:([62,61]:Bs).isPrefixOf (b::r)=true):Value.int .i64 2=Value.int .i64 ((lQ (b::r):Nat):Int):=by
 rw [pre2] at h;simp only [Bool.and_eq_true,beq_iff_eq] at h;simp [lQ,h.1,h.2]
theorem sign_no(h1:([60,61]:Bs).isPrefixOf (b::r)=false)(h2:([62,61]:Bs).isPrefixOf (b::r)=false):((b==60 || b==62)&&r.head?==some 61)=false:=by
 rw [pre2] at h1 h2;generalize (b==60)=x at*;generalize (b==62)=y at*;generalize (r.head?==some 61)=z at*;cases x<;>cases y<;>cases z<;>simp_all
theorem sign_c(h1:([60,61]:Bs).isPrefixOf (b::r)=false)(h2:([62,61]:Bs).isPrefixOf (b::r)=false)(h3:(0:Int)≤Lib.indexByte ([43,45,42,37,124,61,126,60,62,47,92,46,58,40,41]:Bs) b):Value.int .i64 1=Value.int .i64 ((lQ (b::r):Nat):Int):=by
 have h4:=(sB b ([43,45,42,37,124,61,126,60,62,47,92,46,58,40,41]:Bs)).1;rw [decide_eq_true h3] at h4;have h5:signs.contains b=true:=h4.symm;simp only [lQ,sign_no h1 h2,Bool.false_eq_true,if_false,h5,if_true];rfl
theorem sign_d(h1:([60,61]:Bs).isPrefixOf (b::r)=false)(h2:([62,61]:Bs).isPrefixOf (b::r)=false)(h3:Lib.indexByte ([43,45,42,37,124,61,126,60,62,47,92,46,58,40,41]:Bs) b<0):Value.int .i64 0=Value.int .i64 ((lQ (b::r):Nat):Int):=by
 have h4:=(sB b ([43,45,42,37,124,61,126,60,62,47,92,46,58,40,41]:Bs)).1;rw [decide_eq_false n9] at h4;have h5:signs.contains b=false:=h4.symm;simp only [lQ,sign_no h1 h2,Bool.false_eq_true,if_false,h5];rfl
theorem bDr(p:UInt8→Bool): ∀s:Bs,∀b∈s.take (runB p s),p b=true
 | [],_,h=>by simp at h
 | c::s,b,h=>by
  unfold runB at h;split at h
  ·rename_i hc;rw [List.take_succ_cons,List.mem_cons] at h
   rcases h with rfl | h
   ·exact hc
   ·exact bDr p s b h
  ·simp at h
theorem bIz{s:Bs}{k:Nat}(h:((k:Nat):Int)≠0)(hk:k≤s.length):s.take k≠[]:=fun e=>by
 have:(s.take k).length=0:=by rw [e];rfl
 rw [List.length_take] at this;omega
def numV:Except Int (Option TokR)→Value
 | .error e=> .tuple #[.int .i64 0,.int .i64 0,.int .i64 e]
 | .ok none=> .tuple #[.int .i64 0,.int .i64 0,.int .i64 0]
 | .ok (some t)=> .tuple #[.int .i64 t.2.2.1,.int .i64 (t.2.2.2:Nat),.int .i64 0]
theorem num_m0(hb:b=95):gY b r=if runB cR r=0 then .ok none else match tH true (r.take (runB cR r)) with
  | none=> .error 32
  | some v=> .ok (some (2,[],v,runB cR r+1)):=by
 subst hb;rfl
theorem num_p0(hb:b≠95):gY b r=if runB cR (b::r)=0 then .ok none else match tH false ((b::r).take (runB cR (b::r))) with
  | none=> .error 32
  | some v=> .ok (some (2,[],v,runB cR (b::r)+0)):=by
 have:(b==95)=false:=by simp [hb]
 unfold gY;rw [this];rfl
theorem cast0{n:Nat}(h:((n:Nat):Int)=0):n=0:=n9
theorem castn{n:Nat}(h:((n:Nat):Int)≠0):n≠0:=n9
theorem num_mz(hb:b=95)(hk:((runB cR ((b::r).drop 1):Nat):Int)=0):Value.tuple #[.int .i64 0,.int .i64 0,.int .i64 0]=numV (gY b r):=by
 have hk:runB cR r=0:=cast0 hk;rw [num_m0 hb,if_pos hk];rfl
theorem num_me(hb:b=95)(hk:((runB cR ((b::r).drop 1):Nat):Int)≠0)(hv:tH true (((b::r).drop 1).take (runB cR ((b::r).drop 1)))=none):Value.tuple #[.int .i64 0,.int .i64 0,.int .i64 32]=numV (gY b r):=by
 have hk: ¬runB cR r=0:=castn hk;have hv:tH true (r.take (runB cR r))=none:=hv;rw [num_m0 hb,if_neg hk,hv];rfl
theorem num_mo{v:Int}(hb:b=95)(hk:((runB cR ((b::r).drop 1):Nat):Int)≠0)(hv:tH true (((b::r).drop 1).take (runB cR ((b::r).drop 1)))=some v):
  Value.tuple #[.int .i64 v,.int .i64 (((runB cR ((b::r).drop 1))+([45]:Bs).length:Nat):Int),.int .i64 0]=numV (gY b r):=by
 have hk: ¬runB cR r=0:=castn hk;have hv:tH true (r.take (runB cR r))=some v:=hv;rw [num_m0 hb,if_neg hk,hv];rfl
theorem num_pz(hb:b≠95)(hk:((runB cR (b::r):Nat):Int)=0):Value.tuple #[.int .i64 0,.int .i64 0,.int .i64 0]=numV (gY b r):=by
 rw [num_p0 hb,if_pos (cast0 hk)];rfl
theorem num_pe(hb:b≠95)(hk:((runB cR (b::r):Nat):Int)≠0)(hv:tH false ((b::r).take (runB cR (b::r)))=none):Value.tuple #[.int .i64 0,.int .i64 0,.int .i64 32]=numV (gY b r):=by
 rw [num_p0 hb,if_neg (castn hk),hv];rfl
theorem num_po{v:Int}(hb:b≠95)(hk:((runB cR (b::r):Nat):Int)≠0)(hv:tH false ((b::r).take (runB cR (b::r)))=some v):
  Value.tuple #[.int .i64 v,.int .i64 (((runB cR (b::r))+([]:Bs).length:Nat):Int),.int .i64 0]=numV (gY b r):=by
 rw [num_p0 hb,if_neg (castn hk),hv];rfl
theorem bNm{e:Int}(h:gY b r= .error e):e=32:=by
 unfold gY at h
 by_cases hb:(b==95)=true
 ·simp only [hb,if_true] at h;split at h
  ·cases h
  ·split at h
   ·cases h;rfl
   ·cases h
 ·simp only [hb,Bool.false_eq_true,if_false] at h;split at h
  ·cases h
  ·split at h
   ·cases h;rfl
   ·cases h
def zB:Except Int TokR→Value
 | .error e=> .tuple #[.agg #[.int .i64 (if e=32 then 2 else 0),.int .i64 0,.string (bs []),.int .i64 0],.int .i64 0,.int .i64 e]
 | .ok t=> .tuple #[.agg #[.int .i64 t.1,.int .i64 0,.string (bs t.2.1),.int .i64 t.2.2.1],.int .i64 (t.2.2.2:Nat),.int .i64 0]
section
variable (h1 : b ≠ 10) (h2 : nW b = false)
theorem vZ(h:b=10):Value.tuple #[.agg #[.int .i64 4,.int .i64 0,.string (bs []),.int .i64 0],.int .i64 1,.int .i64 0]=zB (fN (b::r)):=by
 subst h;rfl
include h1
theorem wT(h2:nW b=true)(h3:((runB nE (b::r):Nat):Int)≤16):Value.tuple #[.agg #[.int .i64 1,.int .i64 0,.string (bs ((b::r).take (runB nE (b::r)))),.int .i64 0],.int .i64 (runB nE (b::r):Nat),.int .i64 0]=zB (fN (b::r)):=by
 have e:fN (b::r)= .ok (1,(b::r).take (runB nE (b::r)),0,runB nE (b::r)):=by
  simp only [fN,beq_iff_eq,h1,if_false,h2,if_true];rw [if_neg n9]
 rw [e];rfl
theorem wM(h2:nW b=true)(h3:(16:Int)<((runB nE (b::r):Nat):Int)):Value.tuple #[.agg #[.int .i64 0,.int .i64 0,.string (bs []),.int .i64 0],.int .i64 0,.int .i64 33]=zB (fN (b::r)):=by
 have e:fN (b::r)= .error 33:=by
  simp only [fN,beq_iff_eq,h1,if_false,h2,if_true];rw [if_pos n9]
 rw [e];rfl
include h2
theorem vL{e:Int}(h:gY b r= .error e)(he:e=32):Value.tuple #[.agg #[.int .i64 2,.int .i64 0,.string (bs []),.int .i64 0],.int .i64 0,.int .i64 e]=zB (fN (b::r)):=by
 have q:fN (b::r)= .error e:=by
  simp only [fN,beq_iff_eq,h1,if_false,h2,Bool.false_eq_true,h]
 rw [q,he];rfl
theorem wB{kk v:Int}{ww:Bs}{m:Nat}(h:gY b r= .ok (some (kk,ww,v,m))):Value.tuple #[.agg #[.int .i64 2,.int .i64 0,.string (bs []),.int .i64 v],.int .i64 (m:Nat),.int .i64 0]=zB (fN (b::r)):=by
 have q:fN (b::r)= .ok (kk,ww,v,m):=by
  simp only [fN,beq_iff_eq,h1,if_false,h2,Bool.false_eq_true,h]
 have hk:kk=2∧ww=[]:=by
  unfold gY at h
  by_cases hb:(b==95)=true
  ·simp only [hb,if_true] at h;split at h
   ·cases h
   ·split at h
    ·cases h
    ·cases h;exact⟨rfl,rfl⟩
  ·simp only [hb,Bool.false_eq_true,if_false] at h;split at h
   ·cases h
   ·split at h
    ·cases h
    ·cases h;exact⟨rfl,rfl⟩
 rw [q,hk.1,hk.2];rfl
theorem vJ(h:gY b r= .ok none)(h3:((lQ (b::r):Nat):Int)=0):Value.tuple #[.agg #[.int .i64 0,.int .i64 0,.string (bs []),.int .i64 0],.int .i64 0,.int .i64 31]=zB (fN (b::r)):=by
 have e:fN (b::r)= .error 31:=by
  simp only [fN,beq_iff_eq,h1,if_false,h2,Bool.false_eq_true,h];rw [if_pos (cast0 h3)]
 rw [e];rfl
theorem wF(h:gY b r= .ok none)(h3:((lQ (b::r):Nat):Int)≠0):Value.tuple #[.agg #[.int .i64 3,.int .i64 0,.string (bs ((b::r).take (lQ (b::r)))),.int .i64 0],.int .i64 (lQ (b::r):Nat),.int .i64 0]=zB (fN (b::r)):=by
 have e:fN (b::r)= .ok (3,(b::r).take (lQ (b::r)),0,lQ (b::r)):=by
  simp only [fN,beq_iff_eq,h1,if_false,h2,Bool.false_eq_true,h];rw [if_neg (castn h3)]
 rw [e];rfl
end
end
theorem sign_spec(b:UInt8)(r:Bs):cN prog 100 [.string (bs (b::r))] [] [] (fun(_:Unit)=> .int .i64 (lQ (b::r):Nat)) (fun _=>[]) (fun _=>[]):=by
 have hT:=dY;refine k8 func100 ntmps100 ?_;intro β hM;refine g10 ?_;refine bD func132 (yA _ ([60,61]:Bs)) rfl rfl .nil j2 fun _=>?_;refine one ?_;refine dP (fun hg6=>?_) (fun hg6=>?_)
 ·refine g15 ?_;exact rs1 () j2 (he:=by first | exact sign_a hg6 | exact sign_b hg6 hc3 | exact sign_c hg6 hc3 hc10 | exact sign_d hg6 hc3 hc10)
 refine one ?_;refine bD func132 (yA _ ([62,61]:Bs)) rfl rfl .nil j2 fun _=>?_;refine g4 ?_;refine iV (fun hc3=>?_) fun hc3=>?_
 ·refine g8 ?_;exact rs1 () j2 (he:=by first | exact sign_a hg6 | exact sign_b hg6 hc3 | exact sign_c hg6 hc3 hc10 | exact sign_d hg6 hc3 hc10)
 refine g3 ?_;refine ss (qJ hT (k:=0) rfl rfl rfl rfl rfl rfl) ?_;refine j5 func133 (bNv ([43,45,42,37,124,61,126,60,62,47,92,46,58,40,41]:Bs) b) j2 fun _=>?_;refine g4 ?_;refine c_le (fun hc10=>?_) fun hc10=>?_
 ·refine g8 ?_;exact rs1 () j2 (he:=by first | exact sign_a hg6 | exact sign_b hg6 hc3 | exact sign_c hg6 hc3 hc10 | exact sign_d hg6 hc3 hc10)
 refine g9 ?_;exact rs1 () j2 (he:=by first | exact sign_a hg6 | exact sign_b hg6 hc3 | exact sign_c hg6 hc3 hc10 | exact sign_d hg6 hc3 hc10)
theorem yR(b:UInt8)(r:Bs)(hl:(b::r).length≤65536):cN prog 99 [.string (bs (b::r))] [] [iD] (fun(_:Unit)=>numV (gY b r)) (fun _=>[]) (fun _=>[]):=by
 have hT:=dY;refine k8 func99 ntmps99 ?_;intro β hM;refine g18 ?_;refine ss (qJ hT (k:=0) rfl rfl rfl rfl rfl rfl) ?_;refine g3 ?_;refine iV (fun hc13=>?_) fun hc13=>?_
 ·have hc13:b=95:=bKu (k:=95) (eq_of_beq hc13);refine g2 ?_;refine ss (bQz hT (k:=1) rfl rfl rfl rfl rfl o9) ?_;refine g7 ?_;refine bD func57 (bDt ((b::r).drop 1) ac8 _ cR (bS func98 rfl rfl) bBx) rfl rfl .nil j2 fun _=>?_;refine g5 ?_;have hrl:runB cR ((b::r).drop 1)≤65536:=Nat.le_trans (kT _ _) ac8;refine g5 ?_;refine fE (fun hc19=>?_) fun hc19=>?_
  ·refine g9 ?_;exact rs3 () j2 (he:=num_mz hc13 hc19)
  have hrl':=kT cR ((b::r).drop 1);refine g3 ?_
  rcases hv:tH true (((b::r).drop 1).take (runB cR ((b::r).drop 1))) with _ | v
  ·have num_ne:(((b::r).drop 1).take (runB cR ((b::r).drop 1)))≠[]:=bIz hc19 hrl';refine g4 ?_;refine ss (zO hT (k:=(runB cR ((b::r).drop 1))) rfl rfl rfl rfl rfl (kT _ _)) ?_;refine ss (iN rfl rfl rfl ac8) ?_;refine bD func131 (xR true (((b::r).drop 1).take (runB cR ((b::r).drop 1))) num_ne (bDr _ _) ac8 hv) rfl rfl .nil ⟨d7,j2⟩ fun⟨z1,N2⟩=>?_;refine g11 ?_;refine ss (sti_err underlying216 rfl rfl) ?_;refine g12 ?_;exact rs3 () j2 (he:=num_me hc13 hc19 hv)
  have num_ne:(((b::r).drop 1).take (runB cR ((b::r).drop 1)))≠[]:=bIz hc19 hrl';refine g4 ?_;refine ss (zO hT (k:=(runB cR ((b::r).drop 1))) rfl rfl rfl rfl rfl (kT _ _)) ?_;refine ss (iN rfl rfl rfl ac8) ?_;refine bD func131 (bHx true (((b::r).drop 1).take (runB cR ((b::r).drop 1))) num_ne (bDr _ _) ac8 hv) rfl rfl .nil j2 fun _=>?_;refine g11 ?_;refine ss (bRd underlying216 rfl rfl) ?_;refine g6 ?_;have hq1:([45]:Bs).length=1:=rfl;have hq0:([]:Bs).length=0:=rfl;refine g5 ?_;refine cP (z':=((([45]:Bs).length:Nat):Int)) rfl ?_;refine one ?_;refine inc ((runB cR ((b::r).drop 1))+([45]:Bs).length) ?_;refine g6 ?_;exact rs3 () j2 (he:=num_mo hc13 hc19 hv)
 have hc13:b≠95:=bKd (k:=95) (beq_eq_false_iff_ne.1 hc13);refine g5 ?_;refine bD func57 (bDt (b::r) ac8 _ cR (bS func98 rfl rfl) bBx) rfl rfl .nil j2 fun _=>?_;refine g5 ?_;have hrl:runB cR (b::r)≤65536:=Nat.le_trans (kT _ _) ac8;refine g5 ?_;refine fE (fun hc19=>?_) fun hc19=>?_
 ·refine g9 ?_;exact rs3 () j2 (he:=num_pz hc13 hc19)
 have hrl':=kT cR (b::r);refine g3 ?_
 rcases hv:tH false ((b::r).take (runB cR (b::r))) with _ | v
 ·have num_ne:((b::r).take (runB cR (b::r)))≠[]:=bIz hc19 hrl';refine g4 ?_;refine ss (zO hT (k:=(runB cR (b::r))) rfl rfl rfl rfl rfl (kT _ _)) ?_;refine ss (iN rfl rfl rfl ac8) ?_;refine bD func131 (xR false ((b::r).take (runB cR (b::r))) num_ne (bDr _ _) ac8 hv) rfl rfl .nil ⟨d7,j2⟩ fun⟨z3,N4⟩=>?_;refine g11 ?_;refine ss (sti_err underlying216 rfl rfl) ?_;refine g12 ?_;exact rs3 () j2 (he:=num_pe hc13 hc19 hv)
 have num_ne:((b::r).take (runB cR (b::r)))≠[]:=bIz hc19 hrl';refine g4 ?_;refine ss (zO hT (k:=(runB cR (b::r))) rfl rfl rfl rfl rfl (kT _ _)) ?_;refine ss (iN rfl rfl rfl ac8) ?_;refine bD func131 (bHx false ((b::r).take (runB cR (b::r))) num_ne (bDr _ _) ac8 hv) rfl rfl .nil j2 fun _=>?_;refine g11 ?_;refine ss (bRd underlying216 rfl rfl) ?_;refine g6 ?_;have hq1:([45]:Bs).length=1:=rfl;have hq0:([]:Bs).length=0:=rfl;refine g5 ?_;refine cP (z':=((([]:Bs).length:Nat):Int)) rfl ?_;refine one ?_;refine inc ((runB cR (b::r))+([]:Bs).length) ?_;refine g6 ?_;exact rs3 () j2 (he:=num_po hc13 hc19 hv)
end
section
open Go.RowKit Go.Proofs.Tryz
theorem number_err{e:Int}(b:UInt8)(r:Bs)(hl:(b::r).length≤65536)(h:gY b r= .error e):cN prog 99 [.string (bs (b::r))] [] [iD] (fun _:Unit=> .tuple #[.int .i64 0,.int .i64 0,.int .i64 e]) (fun _=>[]) (fun _=>[]):=by
 have:=yR b r hl;rw [h] at this;exact this
theorem number_none(b:UInt8)(r:Bs)(hl:(b::r).length≤65536)(h:gY b r= .ok none):cN prog 99 [.string (bs (b::r))] [] [iD] (fun _:Unit=> .tuple #[.int .i64 0,.int .i64 0,.int .i64 0]) (fun _=>[]) (fun _=>[]):=by
 have:=yR b r hl;rw [h] at this;exact this
theorem number_some{kk v:Int}{ww:Bs}{m:Nat}(b:UInt8)(r:Bs)(hl:(b::r).length≤65536)(h:gY b r= .ok (some (kk,ww,v,m))):cN prog 99 [.string (bs (b::r))] [] [iD] (fun _:Unit=> .tuple #[.int .i64 v,.int .i64 (m:Nat),.int .i64 0]) (fun _=>[]) (fun _=>[]):=by
 have:=yR b r hl;rw [h] at this;exact this
theorem yS:(prog.info? 112).bind (·.zero)=some (.agg #[.int .i64 0,.int .i64 0,.string (bs []),.int .i64 0]):=o0
theorem uT(z0:Int):prog.built 112 [(0,.int .i64 z0)]=some #[.int .i64 z0,.int .i64 0,.string (bs []),.int .i64 0]:=o0
theorem pL:prog.built 112 []=some #[.int .i64 0,.int .i64 0,.string (bs []),.int .i64 0]:=o0
theorem nS(z0:Int)(s2:ByteArray):prog.built 112 [(0,.int .i64 z0),(2,.string s2)]=some #[.int .i64 z0,.int .i64 0,.string s2,.int .i64 0]:=o0
theorem nP(z0:Int)(z3:Int):prog.built 112 [(0,.int .i64 z0),(3,.int .i64 z3)]=some #[.int .i64 z0,.int .i64 0,.string (bs []),.int .i64 z3]:=o0
theorem bKp(b:UInt8)(r:Bs)(hl:(b::r).length≤65536):cN prog 59 [.string (bs (b::r))] [] [iD] (fun(_:Unit)=>zB (fN (b::r))) (fun _=>[]) (fun _=>[]):=by
 have hT:=dY;refine k8 func59 ntmps59 ?_;intro β hM;refine g2 ?_;refine j6 yS fun b1=>?_;refine g8 ?_;refine ss (qJ hT (k:=0) rfl rfl rfl rfl rfl rfl) ?_;refine g3 ?_;refine iV (fun hc11=>?_) fun hc11=>?_
 ·have hc11:b=10:=bKu (k:=10) (eq_of_beq hc11);refine g2 ?_;refine ss (k7 (uT _)) ?_;refine g7 ?_;exact rs3 () j2 (he:=by first | exact vZ hc11 | exact wM hc11 hc15 hc19 | exact wT hc11 hc15 hc19 | exact vL hc11 hc15 hnt he | exact wB hc11 hc15 hnt | exact vJ hc11 hc15 hnt hc45 | exact wF hc11 hc15 hnt hc45)
 have hc11:b≠10:=bKd (k:=10) (beq_eq_false_iff_ne.1 hc11);refine g6 ?_;refine ss (qJ hT (k:=0) rfl rfl rfl rfl rfl rfl) ?_;refine bD func96 (bIn _) rfl rfl .nil j2 fun _=>?_;refine g2 ?_;refine iV (fun hc15=>?_) fun hc15=>?_
 ·refine g3 ?_;refine bD func57 (bDt (b::r) n9 _ nE (bS func97 rfl rfl) word_spec) rfl rfl .nil j2 fun _=>?_;refine g10 ?_;refine dM (fun hc19=>?_) fun hc19=>?_
  ·refine g2 ?_;refine ss (k7 (pL)) ?_;refine g8 ?_;exact rs3 () j2 (he:=by first | exact vZ hc11 | exact wM hc11 hc15 hc19 | exact wT hc11 hc15 hc19 | exact vL hc11 hc15 hnt he | exact wB hc11 hc15 hnt | exact vJ hc11 hc15 hnt hc45 | exact wF hc11 hc15 hnt hc45)
  refine g6 ?_;refine ss (zO hT (k:=(runB nE (b::r))) rfl rfl rfl rfl rfl (kT _ _)) ?_;refine ss (k7 (nS _ _)) ?_;refine g8 ?_;exact rs3 () j2 (he:=by first | exact vZ hc11 | exact wM hc11 hc15 hc19 | exact wT hc11 hc15 hc19 | exact vL hc11 hc15 hnt he | exact wB hc11 hc15 hnt | exact vJ hc11 hc15 hnt hc45 | exact wF hc11 hc15 hnt hc45)
 refine g3 ?_
 rcases hnt:gY b r with e | _ | ⟨kk,ww,v,m⟩
 ·have he:=bNm hnt;refine g2 ?_;refine j5 func99 (number_err b r hl hnt) ⟨d7,j2⟩ fun _=>?_;refine g14 ?_;refine bL (t':=false) p7 ?_;refine g6 ?_;refine vC (fun hc37=>?_) fun hc37=>?_
  ·refine g3 ?_;refine ss (k7 (nP _ _)) ?_;refine g9 ?_;exact rs3 () j2 (he:=by first | exact vZ hc11 | exact wM hc11 hc15 hc19 | exact wT hc11 hc15 hc19 | exact vL hc11 hc15 hnt he | exact wB hc11 hc15 hnt | exact vJ hc11 hc15 hnt hc45 | exact wF hc11 hc15 hnt hc45)
  omega
 ·skip
  refine g2 ?_;refine j5 func99 (number_none b r hl hnt) ⟨d7,j2⟩ fun _=>?_;refine g14 ?_;refine bL (t':=false) p7 ?_;refine g3 ?_;refine bL (t':=false) p7 ?_;refine g10 ?_;refine j5 func100 (sign_spec b r) j2 fun _=>?_;refine g9 ?_;refine fE (fun hc45=>?_) fun hc45=>?_
  ·refine g2 ?_;refine ss (k7 (pL)) ?_;refine g7 ?_;exact rs3 () j2 (he:=by first | exact vZ hc11 | exact wM hc11 hc15 hc19 | exact wT hc11 hc15 hc19 | exact vL hc11 hc15 hnt he | exact wB hc11 hc15 hnt | exact vJ hc11 hc15 hnt hc45 | exact wF hc11 hc15 hnt hc45)
  refine g6 ?_;refine ss (zO hT (k:=(lQ (b::r))) rfl rfl rfl rfl rfl (signP_le _)) ?_;refine ss (k7 (nS _ _)) ?_;refine g7 ?_;exact rs3 () j2 (he:=by first | exact vZ hc11 | exact wM hc11 hc15 hc19 | exact wT hc11 hc15 hc19 | exact vL hc11 hc15 hnt he | exact wB hc11 hc15 hnt | exact vJ hc11 hc15 hnt hc45 | exact wF hc11 hc15 hnt hc45)
 have hm:=bMf hnt;dsimp only at hm;refine g2 ?_;refine j5 func99 (number_some b r hl hnt) ⟨d7,j2⟩ fun _=>?_;refine g15 ?_;refine lR (fun hg34=>?_) fun hg34=>?_
 ·refine g9 ?_;refine ss (k7 (nP _ _)) ?_;refine g9 ?_;exact rs3 () j2 (he:=by first | exact vZ hc11 | exact wM hc11 hc15 hc19 | exact wT hc11 hc15 hc19 | exact vL hc11 hc15 hnt he | exact wB hc11 hc15 hnt | exact vJ hc11 hc15 hnt hc45 | exact wF hc11 hc15 hnt hc45)
 omega
theorem token_err{e:Int}(b:UInt8)(r:Bs)(hl:(b::r).length≤65536)(h:fN (b::r)= .error e):cN prog 59 [.string (bs (b::r))] [] [iD] (fun _:Unit=> .tuple #[.agg #[.int .i64 (if e=32 then 2 else 0),.int .i64 0,.string (bs []),.int .i64 0],.int .i64 0,.int .i64 e]) (fun _=>[]) (fun _=>[]):=by
 have:=bKp b r hl;rw [h] at this;exact this
theorem token_ok{k v:Int}{wd:Bs}{m:Nat}(b:UInt8)(r:Bs)(hl:(b::r).length≤65536)(h:fN (b::r)= .ok (k,wd,v,m)):cN prog 59 [.string (bs (b::r))] [] [iD] (fun _:Unit=> .tuple #[.agg #[.int .i64 k,.int .i64 0,.string (bs wd),.int .i64 v],.int .i64 (m:Nat),.int .i64 0]) (fun _=>[]) (fun _=>[]):=by
 have:=bKp b r hl;rw [h] at this;exact this
end
section
open Go.RowKit Go.Proofs.Tryz
section
variable {text : Bs} {i : Nat} {b : UInt8} {r : Bs} {out : List TokV}
theorem lex_start(h:text.length≤65536):lexGo (text.drop 0).length 0 (text.drop 0) []=gA text:=by
 unfold gA;rw [if_neg n9];rfl
theorem lex_long(h:(65536:Int)<((text.length:Nat):Int)):gA text=([],(0,30)):=by
 unfold gA;rw [if_pos n9]
theorem lex_end(h:text.length≤i)(hi:lexGo (text.drop i).length i (text.drop i) out=gA text):gA text=(out,(0,0)):=by
 rw [List.drop_of_length_le h] at hi;rw [←hi];rfl
variable (hbr : text.drop i = b :: r) (hi : lexGo (text.drop i).length i (text.drop i) out = gA text)
include hbr hi
theorem bRp(hb:nJ b=true):lexGo (text.drop (i+1)).length (i+1) (text.drop (i+1)) out=gA text:=by
 have e:text.drop (i+1)=r:=by rw [←List.drop_drop,hbr];rfl
 rw [hbr,oB,if_pos hb] at hi;rw [e];exact hi
theorem lex_note(hb:nJ b=false)(hn:(b==35)=true):lexGo (text.drop (i+runB (· !=10) (b::r))).length (i+runB (· !=10) (b::r)) (text.drop (i+runB (· !=10) (b::r))) out=gA text:=by
 have e:text.drop (i+runB (· !=10) (b::r))=(b::r).drop (runB (· !=10) (b::r)):=by rw [←List.drop_drop,hbr]
 rw [hbr,oB,hb,if_neg o9,if_pos hn] at hi;rw [e];exact hi
theorem lex_tok{k v:Int}{wd:Bs}{m:Nat}(hb:nJ b=false)(hn:(b==35)=false)(ht:fN (b::r)= .ok (k,wd,v,m)):lexGo (text.drop (i+m)).length (i+m) (text.drop (i+m)) (out++[⟨k,i,wd,v⟩])=gA text:=by
 have e:text.drop (i+m)=(b::r).drop m:=by rw [←List.drop_drop,hbr]
 rw [hbr,oB,hb,if_neg o9,hn,if_neg o9,ht] at hi;rw [e];exact hi
theorem lex_err{e:Int}(hb:nJ b=false)(hn:(b==35)=false)(ht:fN (b::r)= .error e):gA text=([],((i:Int),e)):=by
 rw [hbr,oB,hb,if_neg o9,hn,if_neg o9,ht] at hi;exact hi.symm
end
theorem tok_code{s:Bs}{e:Int}(h:fN s= .error e):e≠0:=by
 cases s with
 | nil=>cases h;decide
 | cons b r=>
  simp only [fN] at h;split at h
  ·cases h
  ·split at h
   ·split at h
    ·cases h;decide
    ·cases h
   ·split at h
    ·rename_i e' he;cases h;rw [bNm he];decide
    ·cases h
    ·split at h
     ·cases h;decide
     ·cases h
theorem cQ{α:Type}{E:Flat α}{F:List Fact}:Has F (E.sl (.slice none 0 0) []):=fun _ _ _=>⟨none,0,rfl,fun k x hk=>by simp at hk⟩
theorem bCd:(prog.info? 34).bind (·.zero)=some (.agg #[.int .i64 0,.int .i64 0]):=o0
theorem xF(z1:Int):prog.built 34 [(1,.int .i64 z1)]=some #[.int .i64 0,.int .i64 z1]:=o0
theorem vN(z0:Int)(z1:Int):prog.built 34 [(0,.int .i64 z0),(1,.int .i64 z1)]=some #[.int .i64 z0,.int .i64 z1]:=o0
theorem yN:prog.built 34 []=some #[.int .i64 0,.int .i64 0]:=o0
theorem bMl(text:Bs)(hs:text.length≤140737488355328):cN prog 28 [.string (bs text)] [] [iD] (fun(x:Option Addr×Nat)=> .tuple #[.slice x.1 (gA text).1.length x.2,.agg #[.int .i64 (gA text).2.1,.int .i64 (gA text).2.2]]) (fun _=>[]) (fun(x:Option Addr×Nat)=>[lS.sl (.slice x.1 (gA text).1.length x.2) (gA text).1,Fact.pure ((gA text).1.length≤x.2)]):=by
 have hT:=dY;refine k8 func28 ntmps28 ?_;intro β hM;refine g3 ?_;refine j6 bCd fun b1=>?_;refine g8 ?_;refine cP (z':=((text.length:Nat):Int)) rfl ?_;refine g3 ?_;refine dM (fun hc13=>?_) fun hc13=>?_
 ·refine g2 ?_;refine ss (k7 (xF _)) ?_;refine g7 ?_;have he:=lex_long hc13;rw [he];exact rs2 (none,0) ⟨cQ,j3 (Nat.le_refl 0),j2⟩
 refine g8 ?_;refine cH (t:=112) lS ?_;refine g9 ?_;refine cE (ι:=Nat×List TokV×Option Addr×Nat) [(0,_),(3,_)] ⟨rfl,rfl,j2⟩ (fun⟨i,out,C,e⟩=>[(4,.slice C out.length e),(5,.int .i64 (i:Nat))]) (fun⟨i,out,C,e⟩=>[lS.row (.slice C out.length e) 112 out]) (fun⟨i,out,C,e⟩=>[Fact.pure (i≤text.length∧lexGo (text.drop i).length i (text.drop i) out=gA text∧out.length≤i)]) (fun⟨i,out,C,e⟩=>text.length-i) (0,[],none,0) ⟨rfl,rfl,j2⟩ (.c0 .nil) ⟨j3 (⟨n9,lex_start n9,o9⟩),j2⟩ ?_;rintro⟨i,out,C,e⟩;dsimp only;refine bC d7 fun hinv5=>?_;refine g6 ?_;refine cP (z':=((text.length:Nat):Int)) rfl ?_;refine g3 ?_;refine dM (fun hc18=>?_) fun hc18=>?_
 ·refine g7 ?_;refine ss (bQz hT (k:=i) rfl rfl rfl rfl rfl n9) ?_
  obtain⟨b,r,hbr⟩: ∃b r,text.drop i=b::r:=⟨_,_,List.drop_eq_getElem_cons n9⟩
  have hbl:(b::r).length≤65536:=by rw [←hbr];simp;omega
  have hbi:i+(b::r).length=text.length:=by rw [←hbr];simp;omega
  refine jO (congrArg (fun l:Bs=>Value.string (bs l)) hbr) ?_;refine g7 ?_;refine ss (qJ hT (k:=0) rfl rfl rfl rfl rfl rfl) ?_;refine g9 ?_;refine dP (fun hg27=>?_) (fun hg27=>?_)
  ·have hg27:b=32:=bKu (k:=32) (eq_of_beq hg27);refine g11 ?_;refine inc (i+1) ?_;refine g8 ?_;exact dN (i+1,_,_,_) z7 ⟨rfl,rfl,j2⟩ ⟨rfl,rfl,j2⟩ (.c0 (.c0 .nil)) ⟨j3 (⟨n9,bRp hbr hinv5.2.1 ah9,by dsimp only;omega⟩),j2⟩ (bA.drop 1)
  have hg27:b≠32:=bKd (k:=32) (beq_eq_false_iff_ne.1 hg27);refine g6 ?_;refine iV (fun hc24=>?_) fun hc24=>?_
  ·have hc24:b=9:=bKu (k:=9) (eq_of_beq hc24);refine g4 ?_;refine inc (i+1) ?_;refine g8 ?_;exact dN (i+1,_,_,_) z7 ⟨rfl,rfl,j2⟩ ⟨rfl,rfl,j2⟩ (.c0 (.c0 .nil)) ⟨j3 (⟨n9,bRp hbr hinv5.2.1 ah9,by dsimp only;omega⟩),j2⟩ (bA.drop 1)
  have hc24:b≠9:=bKd (k:=9) (beq_eq_false_iff_ne.1 hc24);refine g7 ?_;refine iV (fun hc33=>?_) fun hc33=>?_
  ·have hc33:b=35:=bKu (k:=35) (eq_of_beq hc33);refine cL ?_;have hnl:=kT (· !=10) (b::r);refine g3 ?_;refine bD func57 (bDt (b::r) n9 _ (· !=10) (bS func58 rfl rfl) line_spec) rfl rfl .nil j2 fun _=>?_;refine one ?_;refine inc (i+(runB (· !=10) (b::r))) ?_;refine g8 ?_;exact dN (i+runB (· !=10) (b::r),_,_,_) (by dsimp only;have:=bEv (p:=(· !=10)) (b:=b) (r:=r) af4;omega) ⟨rfl,rfl,j2⟩ ⟨rfl,rfl,j2⟩ (.c0 (.c0 .nil)) ⟨j3 (⟨by have:=kT (· !=10) (b::r);omega,lex_note hbr hinv5.2.1 ah9 af4,by dsimp only;omega⟩),j2⟩ (bA.drop 1)
  have hc33:b≠35:=bKd (k:=35) (beq_eq_false_iff_ne.1 hc33);refine g4 ?_
  rcases ht:fN (b::r) with e | ⟨k,wd,v,m⟩
  ·skip
   refine g2 ?_;refine j5 func59 (token_err b r hbl ht) ⟨d8,j2⟩ fun _=>?_;refine g4 ?_;refine j6 yS fun b2=>?_;refine g12 ?_;refine vC (fun hc47=>?_) fun hc47=>?_
   ·refine g4 ?_;refine ss (k7 (vN _ _)) ?_;refine g11 ?_;have he:=lex_err hbr hinv5.2.1 ah9 af4 ht;rw [he];exact rs2 (none,0) ⟨cQ,j3 (Nat.le_refl 0),j2⟩
   exact absurd hc47 (tok_code ht)
  have hm:=wK ht;dsimp only at hm;refine g2 ?_;refine j5 func59 (token_ok b r hbl ht) ⟨d8,j2⟩ fun _=>?_;refine g4 ?_;refine j6 yS fun b3=>?_;refine g10 ?_;refine bL (t':=false) p7 ?_;refine g16 ?_;refine at_one_tok (m:=⟨_,_,_,_⟩) rfl rfl rfl rfl rfl fun b4=>?_;refine at_app_tok kT2 (cA .head rfl) rfl rfl rfl rfl rfl rfl rfl w9 fun A5 c6=>?_;refine g7 ?_;refine inc (i+m) ?_;refine g4 ?_;exact dN (i+m,_,_,_) z7 ⟨rfl,rfl,j2⟩ ⟨rfl,rfl,j2⟩ (.c0 (.c2 .nil)) ⟨j3 (⟨n9,lex_tok hbr hinv5.2.1 ah9 af4 ht,by simp;omega⟩),j2⟩ (bA.drop 1)
 refine g8 ?_;refine ss (k7 (yN)) ?_;refine g6 ?_;have he:gA text=(out,(0,0)):=lex_end n9 hinv5.2.1;rw [he];refine bV kT1 fun hcap=>bE kT1 ?_;exact rs2 (C,e) ⟨d7,j3 hcap,j2⟩
end
section
open Go.RowKit Go.Sort Go.Proofs.Tryz
def fQ (n:Int):Bs:=(if n<0 then [95] else [])++Lib.decDigits n.natAbs
theorem bAc{k:Nat}(h:k<10):cR (UInt8.ofNat (48+k))=true∧(UInt8.ofNat (48+k)).toNat=48+k:=by
 have e:(UInt8.ofNat (48+k)).toNat=48+k:=by rw [UInt8.toNat_ofNat'];omega
 refine⟨?_,e⟩;unfold cR;rw [e];simp;omega
theorem qM(u:Nat): ∀b∈Lib.decDigits u,cR b=true:=by
 induction u using Nat.strongRecOn with
 | _ u ih=>
  intro b hb;rw [Lib.decDigits] at hb;split at hb
  ·rename_i h;rw [List.mem_singleton.1 hb];exact(bAc h).1
  ·rename_i h
   rcases List.mem_append.1 hb with hb | hb
   ·exact ih (u/10) n9 b hb
   ·rw [List.mem_singleton.1 hb];exact(bAc (Nat.mod_lt _ n9)).1
theorem vV(u:Nat):Lib.decDigits u≠[]:=by
 rw [Lib.decDigits];split<;>simp
theorem bQs(d:UInt8): ∀(a:Bs) (acc:Nat),decV (a++[d]) acc=10*decV a acc+(d.toNat-48)
 | [],acc=>rfl
 | b::a,acc=>by
  show decV (a++[d]) _=_;rw [bQs d a];rfl
theorem decV_digits(u:Nat):decV (Lib.decDigits u) 0=u:=by
 induction u using Nat.strongRecOn with
 | _ u ih=>
  rw [Lib.decDigits];split
  ·rename_i h;show 10*0+((UInt8.ofNat (48+u)).toNat-48)=u;rw [(bAc h).2];omega
  ·rename_i h;rw [bQs,ih (u/10) n9,(bAc (Nat.mod_lt _ n9)).2];omega
theorem bOi{p:UInt8→Bool}: ∀s:Bs,(∀b∈s,p b=true)→runB p s=s.length
 | [],_=>rfl
 | b::s,h=>by
  rw [runB,if_pos (h b o9),bOi s fun x hx=>h x ae4];rfl
theorem mU{b:UInt8}(h:cR b=true):b≠10∧nW b=false∧b≠95∧b≠45∧b≠35∧nJ b=false∧Lib.isSp b=false∧b.toNat<128:=by
 simp only [cR,Bool.and_eq_true,decide_eq_true_eq] at h;have key: ∀k:Fin 10,(UInt8.ofNat (48+k.val)≠10∧nW (UInt8.ofNat (48+k.val))=false∧UInt8.ofNat (48+k.val)≠95∧UInt8.ofNat (48+k.val)≠45∧UInt8.ofNat (48+k.val)≠35∧nJ (UInt8.ofNat (48+k.val))=false∧Lib.isSp (UInt8.ofNat (48+k.val))=false∧(UInt8.ofNat (48+k.val)).toNat<128):=by decide+kernel
 have hb:b=UInt8.ofNat (48+(b.toNat-48)):=by
  rw [show 48+(b.toNat-48)=b.toNat from by omega];simp
 have:=key ⟨b.toNat-48,n9⟩;rw [hb];exact this
theorem pQ{n:Int}(h0: -9223372036854775808≤n)(h1:n≤9223372036854775807):(fQ n).length≤21:=by
 have h:=Lib.nDigits_le20 n.natAbs n9;have:=Lib.decDigits_length n.natAbs;unfold fQ;split<;>simp<;>omega
theorem numTok_spell{n:Int}(h0: -9223372036854775808≤n)(h1:n≤9223372036854775807){b:UInt8}{r:Bs}(h:fQ n=b::r):gY b r= .ok (some (2,[],n,(b::r).length)):=by
 unfold fQ at h;have hd:=qM n.natAbs;have hr:=bOi _ hd;have hv:=decV_digits n.natAbs;have hne:=vV n.natAbs;split at h
 ·rename_i hn;simp only [List.singleton_append,List.cons.injEq] at h;obtain⟨rfl,rfl⟩:=h;have hk: ¬(Lib.decDigits n.natAbs).length=0:=fun e=>hne (List.eq_nil_of_length_eq_zero e)
  have hp:tH true (Lib.decDigits n.natAbs)=some n:=by
   unfold tH;rw [hv,if_pos rfl,if_pos n9]
   congr 1
   omega
  rw [num_m0 rfl,hr,if_neg hk,List.take_of_length_le (Nat.le_refl _),hp];rfl
 ·rename_i hn;rw [List.nil_append] at h;rw [h] at hd hr hv;have hb:=(mU (hd b o9)).2.2.1
  have hp:tH false (b::r)=some n:=by
   unfold tH;rw [hv];simp only [Bool.false_eq_true,if_false];rw [if_pos n9]
   congr 1
   omega
  rw [num_p0 hb,hr,if_neg o9,List.take_of_length_le (Nat.le_refl _),hp];rfl
theorem bMn{n:Int}{b:UInt8}{r:Bs}(h:fQ n=b::r):b=95∨cR b=true:=by
 unfold fQ at h;split at h
 ·simp only [List.singleton_append,List.cons.injEq] at h;exact .inl h.1.symm
 ·rw [List.nil_append] at h;exact .inr (qM n.natAbs b (by rw [h];simp))
theorem tokenP_spell{n:Int}(h0: -9223372036854775808≤n)(h1:n≤9223372036854775807):fN (fQ n)= .ok (2,[],n,(fQ n).length):=by
 cases hs:fQ n with
 | nil=>
  unfold fQ at hs;exact absurd (List.append_eq_nil_iff.1 hs).2 (vV _)
 | cons b r=>
  have hn:=numTok_spell h0 h1 hs
  have hb:b≠10∧nW b=false:=by
   rcases bMn hs with rfl | h
   ·decide
   ·exact⟨(mU h).1,(mU h).2.1⟩
  simp only [fN,beq_iff_eq,hb.1,if_false,hb.2,Bool.false_eq_true,hn]
theorem lexP_spell{n:Int}(h0: -9223372036854775808≤n)(h1:n≤9223372036854775807):gA (fQ n)=([⟨2,0,[],n⟩],(0,0)):=by
 have hl:=pQ h0 h1;have ht:=tokenP_spell h0 h1;unfold gA;rw [if_neg n9]
 cases hs:fQ n with
 | nil=>
  unfold fQ at hs;exact absurd (List.append_eq_nil_iff.1 hs).2 (vV _)
 | cons b r=>
  rw [hs] at ht
  have hb:nJ b=false∧(b==35)=false:=by
   rcases bMn hs with rfl | h
   ·decide
   ·exact⟨(mU h).2.2.2.2.2.1,by simp [(mU h).2.2.2.2.1]⟩
  rw [oB,hb.1,if_neg o9,hb.2,if_neg o9,ht];simp only [List.drop_length];rfl
theorem yU(n:Int): ∀b∈fQ n,b.toNat<128∧Lib.isSp b=false∧b≠35:=fun b hb=>by
 unfold fQ at hb
 rcases List.mem_append.1 hb with hb | hb
 ·split at hb
  ·rw [List.mem_singleton.1 hb];decide
  ·simp at hb
 ·have:=mU (qM _ b hb);exact⟨this.2.2.2.2.2.2.2,this.2.2.2.2.2.2.1,this.2.2.2.2.1⟩
theorem xY{p:UInt8→Bool}: ∀l:Bs,(∀b∈l,p b=false)→l.dropWhile p=l
 | [],_=>rfl
 | b::l,h=>by rw [List.dropWhile_cons_of_neg (by simp [h b o9])]
theorem trim_spell(n:Int):Lib.trimSpace (fQ n)=fQ n:=by
 have h:=yU n;unfold Lib.trimSpace;rw [xY _ fun b hb=>(h b hb).2.1,xY _ fun b hb=>(h b (List.mem_reverse.1 hb)).2.1,List.reverse_reverse]
theorem hash_spell(n:Int):decide (0≤Lib.indexByte (fQ n) 35)=false:=by
 rw [(sB 35 _).1]
 cases h:(fQ n).contains 35 with
 | false=>rfl
 | true=>exact absurd rfl (yU n 35 ab4).2.2
theorem bDw(u:Nat):Lib.count (Lib.decDigits u) [45]=0:=by
 rw [Lib.count_one,List.count_eq_zero];exact fun h=>(mU (qM u _ h)).2.2.2.1 rfl
theorem replace_itoa(n:Int):Lib.replace (Lib.itoa n) [45] [95] 1=fQ n:=by
 unfold Lib.replace;rw [if_neg p7];unfold Lib.itoa fQ;split
 ·have hc:Lib.count (45::Lib.decDigits n.natAbs) [45]=1:=by rw [Lib.count_cons_eq,bDw]
  have hr:Lib.replaceNum (45::Lib.decDigits n.natAbs) [45] 1=1:=by
   unfold Lib.replaceNum;rw [hc];rfl
  have hi:Lib.index (45::Lib.decDigits n.natAbs) [45]=((0:Nat):Int):=by
   rw [Lib.index_one];rfl
  rw [hr,Lib.replaceK_hit _ _ _ _ 0 hi];rfl
 ·have hr:Lib.replaceNum (Lib.decDigits n.toNat) [45] 1=0:=by
   unfold Lib.replaceNum;rw [bDw];rfl
  rw [hr];have:n.toNat=n.natAbs:=n9
  rw [this];rfl
theorem itoa_len{n:Int}(h0: -9223372036854775808≤n)(h1:n≤9223372036854775807):(Lib.itoa n).length≤21:=Lib.itoa_length_le n h0 h1
theorem below_grow{w:World}(k:Nat)(os:Array Obj):Below w.heap.size w (grow (w.drewN k) os):=by
 refine⟨rfl,rfl,rfl,by simp [grow,World.drewN],fun i hi=>?_⟩;have:(w.drewN k).heap=w.heap:=rfl;simp only [grow,this,Array.getElem?_append,hi,if_true]
theorem bOd(n:Int)(h0: -9223372036854775808≤n)(h1:n≤9223372036854775807):cN prog 142 [.int .i64 n,.int .i64 10] [] [iD] (fun _:Unit=> .string (bs (Lib.itoa n))) (fun _=>[]) (fun _=>[]):=
 lM fun _ w _ k=>by
  obtain⟨_,_,h7,_⟩:=k _ (.head _);refine(Tryz.strconv_FormatInt_10 n h0 h1 w h7).mono ?_;rintro e w' ⟨rfl,q,os,rfl⟩;exact⟨rfl,below_grow q os⟩
theorem replace_spec(s:Bs)(hs:s.length≤1000):cN prog 141 [.string (bs s),.string (bs [45]),.string (bs [95]),.int .i64 1] [] [iD] (fun _:Unit=> .string (bs (Lib.replace s [45] [95] 1))) (fun _=>[]) (fun _=>[]):=
 lM fun _ w _ k=>by
  obtain⟨_,_,_,⟨m,hm⟩,_⟩:=k _ (.head _);have hc:=Lib.countB_mul_le (bs [45]) p7 (bs s).size (bs s) (Nat.le_refl _)
  refine(Tryz.strings_Replace (bs s) (bs [45]) (bs [95]) 1 m w (by rw [kS];omega) hm p7 ?_).mono fun e w' ⟨he,hb⟩=>⟨he,hb⟩
  have e1:(bs [45]).size=1:=rfl;have e2:(bs [95]).size=1:=rfl;rw [e1] at hc;rw [e2,kS] at*;omega
theorem bOb(s:Bs)(hs:s.length≤140737488355328)(ha: ∀b∈s,b.toNat<128):cN prog 143 [.string (bs s)] [] [iD] (fun _:Unit=> .string (bs (Lib.trimSpace s))) (fun _=>[]) (fun _=>[]):=
 lM fun _ w _ k=>by
  obtain⟨_,h0,_⟩:=k _ (.head _);refine(Tryz.strings_TrimSpace (bs s) w (by rw [kS];omega) (fun j b hb=>ha b (j4 hb)) h0).mono ?_;rintro e w' ⟨rfl,rfl⟩;exact⟨rfl,Joins.below_bytesWorld _ _ _ _ (Nat.le_refl _)⟩
theorem bOx(s:Bs)(c:UInt8):cN prog 144 [.string (bs s),.string (bs [c])] [] [] (fun _:Unit=> .bool (decide (0≤Lib.indexByte s c))) (fun _=>[]) (fun _=>[]):=
 zT fun _ w _=>Tryz.strings_Contains_one (bs s) c w
end
end Go.Proofs.YtakphiannlpnfaaGreatDoor
