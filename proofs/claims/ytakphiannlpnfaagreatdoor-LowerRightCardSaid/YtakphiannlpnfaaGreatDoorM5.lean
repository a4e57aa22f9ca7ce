/- Texts of one proof, one behind the other: Tys, Txt, LexA, Eq, LexS, LexB, LexC, LexD, Num. -/
import Derived.Test.YtakphiannlpnfaaGreatDoorM2
import Derived.Test.YtakphiannlpnfaaGreatDoorRows
import Derived.ChangeKeysEq
import Derived.Test.YtakphiannlpnfaaGreatDoorShelf
import Derived.Lib.SmallJoins
import Derived.Test.YtakphiannlpnfaaGreatDoorM4
import Derived.Lib.ItoaLen
import Derived.Lib.ReplaceLaws
namespace Go.Proofs.YtakphiannlpnfaaGreatDoor
section
open Go.RowKit Go.ChangeShapes Go.WideShapes Go.Proofs.Tryz
set_option maxRecDepth 100000
def nM:Flat Bs where
 size:=1
 cells:=fun x=>[.string (bs x)]
 len:=fun _=>rfl
 one:=fun x u hu=>by simp at hu;subst hu;rfl
 pos:=o9
structure TokV where
 kind:Int
 at_:Int
 word:Bs
 n:Int
 deriving Inhabited
def mY:Flat TokV where
 size:=4
 cells:=fun x=>[.int .i64 x.kind,.int .i64 x.at_,.string (bs x.word),.int .i64 x.n]
 len:=fun _=>rfl
 one:=fun x u hu=>by
  simp at hu
  rcases hu with rfl | rfl | rfl | rfl<;>rfl
 pos:=o9
structure FltV where
 at_:Int
 code:Int
 deriving Inhabited
structure jQ where
 name:Bs
 n:Int
 deriving Inhabited
def bHq:Flat jQ where
 size:=2
 cells:=fun x=>[.string (bs x.name),.int .i64 x.n]
 len:=fun _=>rfl
 one:=fun x u hu=>by
  simp at hu
  rcases hu with rfl | rfl<;>rfl
 pos:=o9
def sideTy:Ty jQ:=⟨bHq,fun x=>(Fact.pure (x.name.length≤140737488355328)).and ((Fact.pure ((Lit.int .i64 x.n).wf=true)).and (Fact.true))⟩
theorem opens_side{H:Type}{enc:TypeId×Value→H}{w:World}:uL enc prog w 76 bHq.cells sideTy.deep:=fun fuel cs x h hw=>by
 obtain⟨xs,n,_,rfl,hlen,hxl,hf⟩:=DataW.trod_struct underlying76 h;have hc:prog.cellsOf 76=2:=n9
 rw [hc] at hlen;have hxl':xs.length=2:=hxl
 match cs,hlen with
 | [c0,c1],_=>
  have h0:DataW.trod enc prog w 0 (fun _=>true) true n 9 (([c0,c1].drop 0).take (prog.cellsOf 9))=xs[0]?:=hf 0 _ rfl;have h1:DataW.trod enc prog w 0 (fun _=>true) true n 2 (([c0,c1].drop 1).take (prog.cellsOf 2))=xs[1]?:=hf 1 _ rfl;rw [List.getElem?_eq_getElem n7] at h0;obtain⟨a0,e0,d0⟩:=(bDg underlying9) _ _ _ h0 (dY underlying76 hw (j:=0) rfl (by rw [List.getElem?_map,List.getElem?_eq_getElem n7];rfl))
  have q0:[c0]=[.string (bs a0)]:=by
   have hk:prog.cellsOf 9=1:=n9
   rw [hk] at e0;exact e0
  clear e0;simp only [List.cons.injEq,and_true] at q0;rw [List.getElem?_eq_getElem n7] at h1;obtain⟨a1,e1,d1⟩:=(rL underlying2) _ _ _ h1 (dY underlying76 hw (j:=1) rfl (by rw [List.getElem?_map,List.getElem?_eq_getElem n7];rfl))
  have q1:[c1]=[.int .i64 a1]:=by
   have hk:prog.cellsOf 2=1:=n9
   rw [hk] at e1;exact e1
  clear e1;simp only [List.cons.injEq,and_true] at q1;obtain rfl:=q0;obtain rfl:=q1;exact⟨⟨a0,a1⟩,rfl,d0,d1,j0⟩
structure InputV where
 name:Bs
 at_:Int
 sides:(Sl jQ)
 deriving Inhabited
def kR:Flat InputV where
 size:=3
 cells:=fun x=>[.string (bs x.name),.int .i64 x.at_,.slice x.sides.addr x.sides.list.length x.sides.cap]
 len:=fun _=>rfl
 one:=fun x u hu=>by
  simp at hu
  rcases hu with rfl | rfl | rfl<;>rfl
 pos:=o9
def bMt:Ty InputV:=⟨kR,fun x=>(Fact.pure (x.name.length≤140737488355328)).and ((Fact.pure ((Lit.int .i64 x.at_).wf=true)).and ((((sideTy.slice 24)).deep x.sides).and (Fact.true)))⟩
theorem opens_input{H:Type}{enc:TypeId×Value→H}{w:World}:uL enc prog w 50 kR.cells bMt.deep:=fun fuel cs x h hw=>by
 obtain⟨xs,n,_,rfl,hlen,hxl,hf⟩:=DataW.trod_struct underlying50 h;have hc:prog.cellsOf 50=3:=n9
 rw [hc] at hlen;have hxl':xs.length=3:=hxl
 match cs,hlen with
 | [c0,c1,c2],_=>
  have h0:DataW.trod enc prog w 0 (fun _=>true) true n 9 (([c0,c1,c2].drop 0).take (prog.cellsOf 9))=xs[0]?:=hf 0 _ rfl;have h1:DataW.trod enc prog w 0 (fun _=>true) true n 3 (([c0,c1,c2].drop 1).take (prog.cellsOf 3))=xs[1]?:=hf 1 _ rfl;have h2:DataW.trod enc prog w 0 (fun _=>true) true n 48 (([c0,c1,c2].drop 2).take (prog.cellsOf 48))=xs[2]?:=hf 2 _ rfl;rw [List.getElem?_eq_getElem n7] at h0;obtain⟨a0,e0,d0⟩:=(bDg underlying9) _ _ _ h0 (dY underlying50 hw (j:=0) rfl (by rw [List.getElem?_map,List.getElem?_eq_getElem n7];rfl))
  have q0:[c0]=[.string (bs a0)]:=by
   have hk:prog.cellsOf 9=1:=n9
   rw [hk] at e0;exact e0
  clear e0;simp only [List.cons.injEq,and_true] at q0;rw [List.getElem?_eq_getElem n7] at h1;obtain⟨a1,e1,d1⟩:=(rL underlying3) _ _ _ h1 (dY underlying50 hw (j:=1) rfl (by rw [List.getElem?_map,List.getElem?_eq_getElem n7];rfl))
  have q1:[c1]=[.int .i64 a1]:=by
   have hk:prog.cellsOf 3=1:=n9
   rw [hk] at e1;exact e1
  clear e1;simp only [List.cons.injEq,and_true] at q1;rw [List.getElem?_eq_getElem n7] at h2;obtain⟨a2,e2,d2⟩:=(qL (T:=sideTy) (b:=24) underlying48 n9 n9 opens_side) _ _ _ h2 (dY underlying50 hw (j:=2) rfl (by rw [List.getElem?_map,List.getElem?_eq_getElem n7];rfl))
  have q2:[c2]=[.slice a2.addr a2.list.length a2.cap]:=by
   have hk:prog.cellsOf 48=1:=n9
   rw [hk] at e2;exact e2
  clear e2;simp only [List.cons.injEq,and_true] at q2;obtain rfl:=q0;obtain rfl:=q1;obtain rfl:=q2;exact⟨⟨a0,a1,a2⟩,rfl,d0,d1,d2,j0⟩
structure ItemV where
 how:Int
 at_:Int
 fn:Int
 name:Bs
 nums:(Sl Int)
 deriving Inhabited
def mK:Flat ItemV where
 size:=5
 cells:=fun x=>[.int .i64 x.how,.int .i64 x.at_,.int .u8 x.fn,.string (bs x.name),.slice x.nums.addr x.nums.list.length x.nums.cap]
 len:=fun _=>rfl
 one:=fun x u hu=>by
  simp at hu
  rcases hu with rfl | rfl | rfl | rfl | rfl<;>rfl
 pos:=o9
def itemTy:Ty ItemV:=⟨mK,fun x=>(Fact.pure ((Lit.int .i64 x.how).wf=true)).and ((Fact.pure ((Lit.int .i64 x.at_).wf=true)).and ((Fact.pure ((Lit.int .u8 x.fn).wf=true)).and ((Fact.pure (x.name.length≤140737488355328)).and ((((intTy.slice 8)).deep x.nums).and (Fact.true)))))⟩
theorem opens_item{H:Type}{enc:TypeId×Value→H}{w:World}:uL enc prog w 87 mK.cells itemTy.deep:=fun fuel cs x h hw=>by
 obtain⟨xs,n,_,rfl,hlen,hxl,hf⟩:=DataW.trod_struct underlying87 h;have hc:prog.cellsOf 87=5:=n9
 rw [hc] at hlen;have hxl':xs.length=5:=hxl
 match cs,hlen with
 | [c0,c1,c2,c3,c4],_=>
  have h0:DataW.trod enc prog w 0 (fun _=>true) true n 3 (([c0,c1,c2,c3,c4].drop 0).take (prog.cellsOf 3))=xs[0]?:=hf 0 _ rfl;have h1:DataW.trod enc prog w 0 (fun _=>true) true n 3 (([c0,c1,c2,c3,c4].drop 1).take (prog.cellsOf 3))=xs[1]?:=hf 1 _ rfl;have h2:DataW.trod enc prog w 0 (fun _=>true) true n 62 (([c0,c1,c2,c3,c4].drop 2).take (prog.cellsOf 62))=xs[2]?:=hf 2 _ rfl;have h3:DataW.trod enc prog w 0 (fun _=>true) true n 9 (([c0,c1,c2,c3,c4].drop 3).take (prog.cellsOf 9))=xs[3]?:=hf 3 _ rfl;have h4:DataW.trod enc prog w 0 (fun _=>true) true n 85 (([c0,c1,c2,c3,c4].drop 4).take (prog.cellsOf 85))=xs[4]?:=hf 4 _ rfl;rw [List.getElem?_eq_getElem n7] at h0;obtain⟨a0,e0,d0⟩:=(rL underlying3) _ _ _ h0 (dY underlying87 hw (j:=0) rfl (by rw [List.getElem?_map,List.getElem?_eq_getElem n7];rfl))
  have q0:[c0]=[.int .i64 a0]:=by
   have hk:prog.cellsOf 3=1:=n9
   rw [hk] at e0;exact e0
  clear e0;simp only [List.cons.injEq,and_true] at q0;rw [List.getElem?_eq_getElem n7] at h1;obtain⟨a1,e1,d1⟩:=(rL underlying3) _ _ _ h1 (dY underlying87 hw (j:=1) rfl (by rw [List.getElem?_map,List.getElem?_eq_getElem n7];rfl))
  have q1:[c1]=[.int .i64 a1]:=by
   have hk:prog.cellsOf 3=1:=n9
   rw [hk] at e1;exact e1
  clear e1;simp only [List.cons.injEq,and_true] at q1;rw [List.getElem?_eq_getElem n7] at h2;obtain⟨a2,e2,d2⟩:=(rL underlying62) _ _ _ h2 (dY underlying87 hw (j:=2) rfl (by rw [List.getElem?_map,List.getElem?_eq_getElem n7];rfl))
  have q2:[c2]=[.int .u8 a2]:=by
   have hk:prog.cellsOf 62=1:=n9
   rw [hk] at e2;exact e2
  clear e2;simp only [List.cons.injEq,and_true] at q2;rw [List.getElem?_eq_getElem n7] at h3;obtain⟨a3,e3,d3⟩:=(bDg underlying9) _ _ _ h3 (dY underlying87 hw (j:=3) rfl (by rw [List.getElem?_map,List.getElem?_eq_getElem n7];rfl))
  have q3:[c3]=[.string (bs a3)]:=by
   have hk:prog.cellsOf 9=1:=n9
   rw [hk] at e3;exact e3
  clear e3;simp only [List.cons.injEq,and_true] at q3;rw [List.getElem?_eq_getElem n7] at h4;obtain⟨a4,e4,d4⟩:=(qL (T:=intTy) (b:=8) underlying85 n9 n9 (rL underlying2)) _ _ _ h4 (dY underlying87 hw (j:=4) rfl (by rw [List.getElem?_map,List.getElem?_eq_getElem n7];rfl))
  have q4:[c4]=[.slice a4.addr a4.list.length a4.cap]:=by
   have hk:prog.cellsOf 85=1:=n9
   rw [hk] at e4;exact e4
  clear e4;simp only [List.cons.injEq,and_true] at q4;obtain rfl:=q0;obtain rfl:=q1;obtain rfl:=q2;obtain rfl:=q3;obtain rfl:=q4;exact⟨⟨a0,a1,a2,a3,a4⟩,rfl,d0,d1,d2,d3,d4,j0⟩
structure LineV where
 name:Bs
 at_:Int
 items:(Sl ItemV)
 deriving Inhabited
def pV:Flat LineV where
 size:=3
 cells:=fun x=>[.string (bs x.name),.int .i64 x.at_,.slice x.items.addr x.items.list.length x.items.cap]
 len:=fun _=>rfl
 one:=fun x u hu=>by
  simp at hu
  rcases hu with rfl | rfl | rfl<;>rfl
 pos:=o9
def lineTy:Ty LineV:=⟨pV,fun x=>(Fact.pure (x.name.length≤140737488355328)).and ((Fact.pure ((Lit.int .i64 x.at_).wf=true)).and ((((itemTy.slice 64)).deep x.items).and (Fact.true)))⟩
theorem opens_line{H:Type}{enc:TypeId×Value→H}{w:World}:uL enc prog w 54 pV.cells lineTy.deep:=fun fuel cs x h hw=>by
 obtain⟨xs,n,_,rfl,hlen,hxl,hf⟩:=DataW.trod_struct underlying54 h;have hc:prog.cellsOf 54=3:=n9
 rw [hc] at hlen;have hxl':xs.length=3:=hxl
 match cs,hlen with
 | [c0,c1,c2],_=>
  have h0:DataW.trod enc prog w 0 (fun _=>true) true n 9 (([c0,c1,c2].drop 0).take (prog.cellsOf 9))=xs[0]?:=hf 0 _ rfl;have h1:DataW.trod enc prog w 0 (fun _=>true) true n 3 (([c0,c1,c2].drop 1).take (prog.cellsOf 3))=xs[1]?:=hf 1 _ rfl;have h2:DataW.trod enc prog w 0 (fun _=>true) true n 52 (([c0,c1,c2].drop 2).take (prog.cellsOf 52))=xs[2]?:=hf 2 _ rfl;rw [List.getElem?_eq_getElem n7] at h0;obtain⟨a0,e0,d0⟩:=(bDg underlying9) _ _ _ h0 (dY underlying54 hw (j:=0) rfl (by rw [List.getElem?_map,List.getElem?_eq_getElem n7];rfl))
  have q0:[c0]=[.string (bs a0)]:=by
   have hk:prog.cellsOf 9=1:=n9
   rw [hk] at e0;exact e0
  clear e0;simp only [List.cons.injEq,and_true] at q0;rw [List.getElem?_eq_getElem n7] at h1;obtain⟨a1,e1,d1⟩:=(rL underlying3) _ _ _ h1 (dY underlying54 hw (j:=1) rfl (by rw [List.getElem?_map,List.getElem?_eq_getElem n7];rfl))
  have q1:[c1]=[.int .i64 a1]:=by
   have hk:prog.cellsOf 3=1:=n9
   rw [hk] at e1;exact e1
  clear e1;simp only [List.cons.injEq,and_true] at q1;rw [List.getElem?_eq_getElem n7] at h2;obtain⟨a2,e2,d2⟩:=(qL (T:=itemTy) (b:=64) underlying52 n9 n9 opens_item) _ _ _ h2 (dY underlying54 hw (j:=2) rfl (by rw [List.getElem?_map,List.getElem?_eq_getElem n7];rfl))
  have q2:[c2]=[.slice a2.addr a2.list.length a2.cap]:=by
   have hk:prog.cellsOf 52=1:=n9
   rw [hk] at e2;exact e2
  clear e2;simp only [List.cons.injEq,and_true] at q2;obtain rfl:=q0;obtain rfl:=q1;obtain rfl:=q2;exact⟨⟨a0,a1,a2⟩,rfl,d0,d1,d2,j0⟩
structure ProgV where
 inputs:(Sl InputV)
 lines:(Sl LineV)
 deriving Inhabited
def progE:Flat ProgV where
 size:=2
 cells:=fun x=>[.slice x.inputs.addr x.inputs.list.length x.inputs.cap,.slice x.lines.addr x.lines.list.length x.lines.cap]
 len:=fun _=>rfl
 one:=fun x u hu=>by
  simp at hu
  rcases hu with rfl | rfl<;>rfl
 pos:=o9
def progTy:Ty ProgV:=⟨progE,fun x=>(((bMt.slice 48)).deep x.inputs).and ((((lineTy.slice 48)).deep x.lines).and (Fact.true))⟩
theorem opens_prog{H:Type}{enc:TypeId×Value→H}{w:World}:uL enc prog w 25 progE.cells progTy.deep:=fun fuel cs x h hw=>by
 obtain⟨xs,n,_,rfl,hlen,hxl,hf⟩:=DataW.trod_struct underlying25 h;have hc:prog.cellsOf 25=2:=n9
 rw [hc] at hlen;have hxl':xs.length=2:=hxl
 match cs,hlen with
 | [c0,c1],_=>
  have h0:DataW.trod enc prog w 0 (fun _=>true) true n 22 (([c0,c1].drop 0).take (prog.cellsOf 22))=xs[0]?:=hf 0 _ rfl;have h1:DataW.trod enc prog w 0 (fun _=>true) true n 23 (([c0,c1].drop 1).take (prog.cellsOf 23))=xs[1]?:=hf 1 _ rfl;rw [List.getElem?_eq_getElem n7] at h0;obtain⟨a0,e0,d0⟩:=(qL (T:=bMt) (b:=48) underlying22 n9 n9 opens_input) _ _ _ h0 (dY underlying25 hw (j:=0) rfl (by rw [List.getElem?_map,List.getElem?_eq_getElem n7];rfl))
  have q0:[c0]=[.slice a0.addr a0.list.length a0.cap]:=by
   have hk:prog.cellsOf 22=1:=n9
   rw [hk] at e0;exact e0
  clear e0;simp only [List.cons.injEq,and_true] at q0;rw [List.getElem?_eq_getElem n7] at h1;obtain⟨a1,e1,d1⟩:=(qL (T:=lineTy) (b:=48) underlying23 n9 n9 opens_line) _ _ _ h1 (dY underlying25 hw (j:=1) rfl (by rw [List.getElem?_map,List.getElem?_eq_getElem n7];rfl))
  have q1:[c1]=[.slice a1.addr a1.list.length a1.cap]:=by
   have hk:prog.cellsOf 23=1:=n9
   rw [hk] at e1;exact e1
  clear e1;simp only [List.cons.injEq,and_true] at q1;obtain rfl:=q0;obtain rfl:=q1;exact⟨⟨a0,a1⟩,rfl,d0,d1,j0⟩
def showT:Tab:=[(3,⟨.int .i64,1⟩),(2,⟨.int .i64,1⟩),(5,⟨.int .u8,1⟩),(9,⟨.string,1⟩),(4,⟨.bool,1⟩),(62,⟨.int .u8,1⟩),(32,⟨.int .i64,1⟩),(85,⟨.slice 2,1⟩),(69,⟨.slice 9,1⟩),(112,⟨.struct [(3,0),(3,1),(9,2),(2,3)],4⟩),(105,⟨.slice 112,1⟩),(34,⟨.struct [(3,0),(32,1)],2⟩),(76,⟨.struct [(9,0),(2,1)],2⟩),(48,⟨.slice 76,1⟩),(50,⟨.struct [(9,0),(3,1),(48,2)],3⟩),(22,⟨.slice 50,1⟩),(87,⟨.struct [(3,0),(3,1),(62,2),(9,3),(85,4)],5⟩),(52,⟨.slice 87,1⟩),(54,⟨.struct [(9,0),(3,1),(52,2)],3⟩),(23,⟨.slice 54,1⟩),(25,⟨.struct [(22,0),(23,1)],2⟩),(110,⟨.struct [(105,0),(3,1),(3,2)],3⟩),(108,⟨.other,1⟩),(196,⟨.slice 1,1⟩),(1,⟨.other,1⟩)]
theorem fF:fD prog showT:=wC.ok
 ⟨⟨by rw [underlying3];rfl,n9⟩,
  ⟨by rw [underlying2];rfl,n9⟩,
  ⟨by rw [underlying5];rfl,n9⟩,
  ⟨by rw [underlying9];rfl,n9⟩,
  ⟨by rw [underlying4];rfl,n9⟩,
  ⟨by rw [underlying62];rfl,n9⟩,
  ⟨by rw [underlying32];rfl,n9⟩,
  ⟨by rw [underlying85];rfl,n9⟩,
  ⟨by rw [underlying69];rfl,n9⟩,
  ⟨by rw [underlying112];rfl,n9⟩,
  ⟨by rw [underlying105];rfl,n9⟩,
  ⟨by rw [underlying34];rfl,n9⟩,
  ⟨by rw [underlying76];rfl,n9⟩,
  ⟨by rw [underlying48];rfl,n9⟩,
  ⟨by rw [underlying50];rfl,n9⟩,
  ⟨by rw [underlying22];rfl,n9⟩,
  ⟨by rw [underlying87];rfl,n9⟩,
  ⟨by rw [underlying52];rfl,n9⟩,
  ⟨by rw [underlying54];rfl,n9⟩,
  ⟨by rw [underlying23];rfl,n9⟩,
  ⟨by rw [underlying25];rfl,n9⟩,
  ⟨by rw [underlying110];rfl,n9⟩,
  ⟨by rw [underlying108];rfl,n9⟩,
  ⟨by rw [underlying196];rfl,n9⟩,
  ⟨by rw [underlying1];rfl,n9⟩,j0⟩
theorem tokInfo: ∃i:TypeInfo,prog.info? 112=some i∧i.zero=some (.agg #[.int .i64 0,.int .i64 0,.string (bs []),.int .i64 0])∧i.size=4∧i.bytes=40:=by
 have h:(prog.info? 112).map (fun i=>(i.zero,i.size,i.bytes))=some (some (.agg #[.int .i64 0,.int .i64 0,.string (bs []),.int .i64 0]),4,40):=n9
 cases hi:prog.info? 112 with
 | none=>simp [hi] at h
 | some i=>simp [hi] at h;exact⟨i,rfl,h.1,h.2.1,h.2.2⟩
theorem at_one_tok{β:dF}{n:Nat}{Γ:Env}{H:List bH}{F:List Fact}{Q:Exit→Act→World→Prop}{ops:Array Oper}{rest:List Oper}{o:Oper}{d:Nat}{x:Operand}{m:TokV}(hw:want ops Γ o=some true)(ho:o.op= .buildSlice 105 1 #[(0,x)])(hd:o.dst=some d)(hn:Nat.blt d n=true)
  (hx:Γ.ev x=some (.agg #[.int .i64 m.kind,.int .i64 m.at_,.string (bs m.word),.int .i64 m.n])) (k: ∀b,At β n ((d,.slice (some ⟨b,0,none⟩) 1 1)::Γ) (.obj b (.cells (mY.all [m]).toArray 112)::H) F (wpList prog ops Q rest)):At β n Γ H F (wpList prog ops Q (o::rest)):=by
 obtain⟨i,hi,hz,hs,_⟩:=tokInfo;refine gG hw ho hd hn hx underlying105 hi hz n7 n7 ?_ k;rw [hs]
 kernel_rfl
theorem at_app_tok{β:dF}{n:Nat}{Γ:Env}{H:List bH}{F:List Fact}{Q:Exit→Act→World→Prop}{ops:Array Oper}{rest:List Oper}{o:Oper}{d:Nat}{x y:Operand}{c q:Nat}{v:Value}{A:Option Addr}{xs ys:List TokV}{H':List bH}(hH:cD H (mY.row v 112 xs) H')(hr:dQ β H F mY A ys)(hg:o.guard=none)
  (ho:o.op= .call {callee:= .builtin .append,args:= #[x,y],argTypes:= #[105,105]}) (hd:o.dst=some d) (hn:Nat.blt d n=true)
  (hx:Γ.ev x=some v) (hy:Γ.ev y=some (.slice A q c)) (hq:q=ys.length) (hl:xs.length+ys.length≤3518437208883)
  (k: ∀A' cap',At β n ((d,.slice A' (xs++ys).length cap')::Γ) (mY.row (.slice A' (xs++ys).length cap') 112 (xs++ys)::H') F (wpList prog ops Q rest)):At β n Γ H F (wpList prog ops Q (o::rest)):=by
 obtain⟨i,hi,hz,hs,hb⟩:=tokInfo;exact dK hH hr hg ho hd hn underlying105 hi hz hs hb rfl hx hy hq n7 o9 k
theorem intInfo: ∃i:TypeInfo,prog.info? 2=some i∧i.zero=some (.int .i64 0)∧i.size=1∧i.bytes=8:=by
 have h:(prog.info? 2).map (fun i=>(i.zero,i.size,i.bytes))=some (some (.int .i64 0),1,8):=n9
 cases hi:prog.info? 2 with
 | none=>simp [hi] at h
 | some i=>simp [hi] at h;exact⟨i,rfl,h.1,h.2.1,h.2.2⟩
theorem at_one_int{β:dF}{n:Nat}{Γ:Env}{H:List bH}{F:List Fact}{Q:Exit→Act→World→Prop}{ops:Array Oper}{rest:List Oper}{o:Oper}{d:Nat}{x:Operand}{m:Int}(hw:want ops Γ o=some true)(ho:o.op= .buildSlice 85 1 #[(0,x)])(hd:o.dst=some d)(hn:Nat.blt d n=true)
  (hx:Γ.ev x=some (.int .i64 m)) (k: ∀b,At β n ((d,.slice (some ⟨b,0,none⟩) 1 1)::Γ) (.obj b (.cells (sZ.all [m]).toArray 2)::H) F (wpList prog ops Q rest)):At β n Γ H F (wpList prog ops Q (o::rest)):=by
 obtain⟨i,hi,hz,hs,_⟩:=intInfo;refine gG hw ho hd hn hx underlying85 hi hz n7 n7 ?_ k;rw [hs]
 kernel_rfl
theorem at_app_int{β:dF}{n:Nat}{Γ:Env}{H:List bH}{F:List Fact}{Q:Exit→Act→World→Prop}{ops:Array Oper}{rest:List Oper}{o:Oper}{d:Nat}{x y:Operand}{c q:Nat}{v:Value}{A:Option Addr}{xs ys:List Int}{H':List bH}(hH:cD H (sZ.row v 2 xs) H')(hr:dQ β H F sZ A ys)(hg:o.guard=none)
  (ho:o.op= .call {callee:= .builtin .append,args:= #[x,y],argTypes:= #[85,85]}) (hd:o.dst=some d) (hn:Nat.blt d n=true)
  (hx:Γ.ev x=some v) (hy:Γ.ev y=some (.slice A q c)) (hq:q=ys.length) (hl:xs.length+ys.length≤17592186044416)
  (k: ∀A' cap',At β n ((d,.slice A' (xs++ys).length cap')::Γ) (sZ.row (.slice A' (xs++ys).length cap') 2 (xs++ys)::H') F (wpList prog ops Q rest)):At β n Γ H F (wpList prog ops Q (o::rest)):=by
 obtain⟨i,hi,hz,hs,hb⟩:=intInfo;exact dK hH hr hg ho hd hn underlying85 hi hz hs hb rfl hx hy hq n7 o9 k
theorem strInfo: ∃i:TypeInfo,prog.info? 9=some i∧i.zero=some (.string (bs []))∧i.size=1∧i.bytes=16:=by
 have h:(prog.info? 9).map (fun i=>(i.zero,i.size,i.bytes))=some (some (.string (bs [])),1,16):=n9
 cases hi:prog.info? 9 with
 | none=>simp [hi] at h
 | some i=>simp [hi] at h;exact⟨i,rfl,h.1,h.2.1,h.2.2⟩
theorem jW{β:dF}{n:Nat}{Γ:Env}{H:List bH}{F:List Fact}{Q:Exit→Act→World→Prop}{ops:Array Oper}{rest:List Oper}{o:Oper}{d:Nat}{x:Operand}{m:Bs}(hw:want ops Γ o=some true)(ho:o.op= .buildSlice 69 1 #[(0,x)])(hd:o.dst=some d)(hn:Nat.blt d n=true)
  (hx:Γ.ev x=some (.string (bs m))) (k: ∀b,At β n ((d,.slice (some ⟨b,0,none⟩) 1 1)::Γ) (.obj b (.cells (nM.all [m]).toArray 9)::H) F (wpList prog ops Q rest)):At β n Γ H F (wpList prog ops Q (o::rest)):=by
 obtain⟨i,hi,hz,hs,_⟩:=strInfo;refine gG hw ho hd hn hx underlying69 hi hz n7 n7 ?_ k;rw [hs]
 kernel_rfl
theorem mQ{β:dF}{n:Nat}{Γ:Env}{H:List bH}{F:List Fact}{Q:Exit→Act→World→Prop}{ops:Array Oper}{rest:List Oper}{o:Oper}{d:Nat}{x y:Operand}{c q:Nat}{v:Value}{A:Option Addr}{xs ys:List Bs}{H':List bH}(hH:cD H (nM.row v 9 xs) H')(hr:dQ β H F nM A ys)(hg:o.guard=none)
  (ho:o.op= .call {callee:= .builtin .append,args:= #[x,y],argTypes:= #[69,69]}) (hd:o.dst=some d) (hn:Nat.blt d n=true)
  (hx:Γ.ev x=some v) (hy:Γ.ev y=some (.slice A q c)) (hq:q=ys.length) (hl:xs.length+ys.length≤8796093022208)
  (k: ∀A' cap',At β n ((d,.slice A' (xs++ys).length cap')::Γ) (nM.row (.slice A' (xs++ys).length cap') 9 (xs++ys)::H') F (wpList prog ops Q rest)):At β n Γ H F (wpList prog ops Q (o::rest)):=by
 obtain⟨i,hi,hz,hs,hb⟩:=strInfo;exact dK hH hr hg ho hd hn underlying69 hi hz hs hb rfl hx hy hq n7 o9 k
theorem sideInfo: ∃i:TypeInfo,prog.info? 76=some i∧i.zero=some (.agg #[.string (bs []),.int .i64 0])∧i.size=2∧i.bytes=24:=by
 have h:(prog.info? 76).map (fun i=>(i.zero,i.size,i.bytes))=some (some (.agg #[.string (bs []),.int .i64 0]),2,24):=n9
 cases hi:prog.info? 76 with
 | none=>simp [hi] at h
 | some i=>simp [hi] at h;exact⟨i,rfl,h.1,h.2.1,h.2.2⟩
theorem bKx{β:dF}{n:Nat}{Γ:Env}{H:List bH}{F:List Fact}{Q:Exit→Act→World→Prop}{ops:Array Oper}{rest:List Oper}{o:Oper}{d:Nat}{x:Operand}{m:jQ}(hw:want ops Γ o=some true)(ho:o.op= .buildSlice 48 1 #[(0,x)])(hd:o.dst=some d)(hn:Nat.blt d n=true)
  (hx:Γ.ev x=some (.agg #[.string (bs m.name),.int .i64 m.n])) (k: ∀b,At β n ((d,.slice (some ⟨b,0,none⟩) 1 1)::Γ) (.obj b (.cells (bHq.all [m]).toArray 76)::H) F (wpList prog ops Q rest)):At β n Γ H F (wpList prog ops Q (o::rest)):=by
 obtain⟨i,hi,hz,hs,_⟩:=sideInfo;refine gG hw ho hd hn hx underlying48 hi hz n7 n7 ?_ k;rw [hs]
 kernel_rfl
theorem bKv{β:dF}{n:Nat}{Γ:Env}{H:List bH}{F:List Fact}{Q:Exit→Act→World→Prop}{ops:Array Oper}{rest:List Oper}{o:Oper}{d:Nat}{x y:Operand}{c q:Nat}{v:Value}{A:Option Addr}{xs ys:List jQ}{H':List bH}(hH:cD H (bHq.row v 76 xs) H')(hr:dQ β H F bHq A ys)(hg:o.guard=none)
  (ho:o.op= .call {callee:= .builtin .append,args:= #[x,y],argTypes:= #[48,48]}) (hd:o.dst=some d) (hn:Nat.blt d n=true)
  (hx:Γ.ev x=some v) (hy:Γ.ev y=some (.slice A q c)) (hq:q=ys.length) (hl:xs.length+ys.length≤5864062014805)
  (k: ∀A' cap',At β n ((d,.slice A' (xs++ys).length cap')::Γ) (bHq.row (.slice A' (xs++ys).length cap') 76 (xs++ys)::H') F (wpList prog ops Q rest)):At β n Γ H F (wpList prog ops Q (o::rest)):=by
 obtain⟨i,hi,hz,hs,hb⟩:=sideInfo;exact dK hH hr hg ho hd hn underlying48 hi hz hs hb rfl hx hy hq n7 o9 k
theorem bWi: ∃i:TypeInfo,prog.info? 50=some i∧i.zero=some (.agg #[.string (bs []),.int .i64 0,.slice none 0 0])∧i.size=3∧i.bytes=48:=by
 have h:(prog.info? 50).map (fun i=>(i.zero,i.size,i.bytes))=some (some (.agg #[.string (bs []),.int .i64 0,.slice none 0 0]),3,48):=n9
 cases hi:prog.info? 50 with
 | none=>simp [hi] at h
 | some i=>simp [hi] at h;exact⟨i,rfl,h.1,h.2.1,h.2.2⟩
theorem bGv{β:dF}{n:Nat}{Γ:Env}{H:List bH}{F:List Fact}{Q:Exit→Act→World→Prop}{ops:Array Oper}{rest:List Oper}{o:Oper}{d:Nat}{x:Operand}{m:InputV}(hw:want ops Γ o=some true)(ho:o.op= .buildSlice 22 1 #[(0,x)])(hd:o.dst=some d)(hn:Nat.blt d n=true)
  (hx:Γ.ev x=some (.agg #[.string (bs m.name),.int .i64 m.at_,.slice m.sides.addr m.sides.list.length m.sides.cap])) (k: ∀b,At β n ((d,.slice (some ⟨b,0,none⟩) 1 1)::Γ) (.obj b (.cells (kR.all [m]).toArray 50)::H) F (wpList prog ops Q rest)):At β n Γ H F (wpList prog ops Q (o::rest)):=by
 obtain⟨i,hi,hz,hs,_⟩:=bWi;refine gG hw ho hd hn hx underlying22 hi hz n7 n7 ?_ k;rw [hs]
 kernel_rfl
theorem bIh{β:dF}{n:Nat}{Γ:Env}{H:List bH}{F:List Fact}{Q:Exit→Act→World→Prop}{ops:Array Oper}{rest:List Oper}{o:Oper}{d:Nat}{x y:Operand}{c q:Nat}{v:Value}{A:Option Addr}{xs ys:List InputV}{H':List bH}(hH:cD H (kR.row v 50 xs) H')(hr:dQ β H F kR A ys)(hg:o.guard=none)
  (ho:o.op= .call {callee:= .builtin .append,args:= #[x,y],argTypes:= #[22,22]}) (hd:o.dst=some d) (hn:Nat.blt d n=true)
  (hx:Γ.ev x=some v) (hy:Γ.ev y=some (.slice A q c)) (hq:q=ys.length) (hl:xs.length+ys.length≤2932031007402)
  (k: ∀A' cap',At β n ((d,.slice A' (xs++ys).length cap')::Γ) (kR.row (.slice A' (xs++ys).length cap') 50 (xs++ys)::H') F (wpList prog ops Q rest)):At β n Γ H F (wpList prog ops Q (o::rest)):=by
 obtain⟨i,hi,hz,hs,hb⟩:=bWi;exact dK hH hr hg ho hd hn underlying22 hi hz hs hb rfl hx hy hq n7 o9 k
theorem itemInfo: ∃i:TypeInfo,prog.info? 87=some i∧i.zero=some (.agg #[.int .i64 0,.int .i64 0,.int .u8 0,.string (bs []),.slice none 0 0])∧i.size=5∧i.bytes=64:=by
 have h:(prog.info? 87).map (fun i=>(i.zero,i.size,i.bytes))=some (some (.agg #[.int .i64 0,.int .i64 0,.int .u8 0,.string (bs []),.slice none 0 0]),5,64):=n9
 cases hi:prog.info? 87 with
 | none=>simp [hi] at h
 | some i=>simp [hi] at h;exact⟨i,rfl,h.1,h.2.1,h.2.2⟩
theorem bAp{β:dF}{n:Nat}{Γ:Env}{H:List bH}{F:List Fact}{Q:Exit→Act→World→Prop}{ops:Array Oper}{rest:List Oper}{o:Oper}{d:Nat}{x:Operand}{m:ItemV}(hw:want ops Γ o=some true)(ho:o.op= .buildSlice 52 1 #[(0,x)])(hd:o.dst=some d)(hn:Nat.blt d n=true)
  (hx:Γ.ev x=some (.agg #[.int .i64 m.how,.int .i64 m.at_,.int .u8 m.fn,.string (bs m.name),.slice m.nums.addr m.nums.list.length m.nums.cap])) (k: ∀b,At β n ((d,.slice (some ⟨b,0,none⟩) 1 1)::Γ) (.obj b (.cells (mK.all [m]).toArray 87)::H) F (wpList prog ops Q rest)):At β n Γ H F (wpList prog ops Q (o::rest)):=by
 obtain⟨i,hi,hz,hs,_⟩:=itemInfo;refine gG hw ho hd hn hx underlying52 hi hz n7 n7 ?_ k;rw [hs]
 kernel_rfl
theorem bBx{β:dF}{n:Nat}{Γ:Env}{H:List bH}{F:List Fact}{Q:Exit→Act→World→Prop}{ops:Array Oper}{rest:List Oper}{o:Oper}{d:Nat}{x y:Operand}{c q:Nat}{v:Value}{A:Option Addr}{xs ys:List ItemV}{H':List bH}(hH:cD H (mK.row v 87 xs) H')(hr:dQ β H F mK A ys)(hg:o.guard=none)
  (ho:o.op= .call {callee:= .builtin .append,args:= #[x,y],argTypes:= #[52,52]}) (hd:o.dst=some d) (hn:Nat.blt d n=true)
  (hx:Γ.ev x=some v) (hy:Γ.ev y=some (.slice A q c)) (hq:q=ys.length) (hl:xs.length+ys.length≤2199023255552)
  (k: ∀A' cap',At β n ((d,.slice A' (xs++ys).length cap')::Γ) (mK.row (.slice A' (xs++ys).length cap') 87 (xs++ys)::H') F (wpList prog ops Q rest)):At β n Γ H F (wpList prog ops Q (o::rest)):=by
 obtain⟨i,hi,hz,hs,hb⟩:=itemInfo;exact dK hH hr hg ho hd hn underlying52 hi hz hs hb rfl hx hy hq n7 o9 k
theorem lineInfo: ∃i:TypeInfo,prog.info? 54=some i∧i.zero=some (.agg #[.string (bs []),.int .i64 0,.slice none 0 0])∧i.size=3∧i.bytes=48:=by
 have h:(prog.info? 54).map (fun i=>(i.zero,i.size,i.bytes))=some (some (.agg #[.string (bs []),.int .i64 0,.slice none 0 0]),3,48):=n9
 cases hi:prog.info? 54 with
 | none=>simp [hi] at h
 | some i=>simp [hi] at h;exact⟨i,rfl,h.1,h.2.1,h.2.2⟩
theorem bLs{β:dF}{n:Nat}{Γ:Env}{H:List bH}{F:List Fact}{Q:Exit→Act→World→Prop}{ops:Array Oper}{rest:List Oper}{o:Oper}{d:Nat}{x:Operand}{m:LineV}(hw:want ops Γ o=some true)(ho:o.op= .buildSlice 23 1 #[(0,x)])(hd:o.dst=some d)(hn:Nat.blt d n=true)
  (hx:Γ.ev x=some (.agg #[.string (bs m.name),.int .i64 m.at_,.slice m.items.addr m.items.list.length m.items.cap])) (k: ∀b,At β n ((d,.slice (some ⟨b,0,none⟩) 1 1)::Γ) (.obj b (.cells (pV.all [m]).toArray 54)::H) F (wpList prog ops Q rest)):At β n Γ H F (wpList prog ops Q (o::rest)):=by
 obtain⟨i,hi,hz,hs,_⟩:=lineInfo;refine gG hw ho hd hn hx underlying23 hi hz n7 n7 ?_ k;rw [hs]
 kernel_rfl
theorem bLm{β:dF}{n:Nat}{Γ:Env}{H:List bH}{F:List Fact}{Q:Exit→Act→World→Prop}{ops:Array Oper}{rest:List Oper}{o:Oper}{d:Nat}{x y:Operand}{c q:Nat}{v:Value}{A:Option Addr}{xs ys:List LineV}{H':List bH}(hH:cD H (pV.row v 54 xs) H')(hr:dQ β H F pV A ys)(hg:o.guard=none)
  (ho:o.op= .call {callee:= .builtin .append,args:= #[x,y],argTypes:= #[23,23]}) (hd:o.dst=some d) (hn:Nat.blt d n=true)
  (hx:Γ.ev x=some v) (hy:Γ.ev y=some (.slice A q c)) (hq:q=ys.length) (hl:xs.length+ys.length≤2932031007402)
  (k: ∀A' cap',At β n ((d,.slice A' (xs++ys).length cap')::Γ) (pV.row (.slice A' (xs++ys).length cap') 54 (xs++ys)::H') F (wpList prog ops Q rest)):At β n Γ H F (wpList prog ops Q (o::rest)):=by
 obtain⟨i,hi,hz,hs,hb⟩:=lineInfo;exact dK hH hr hg ho hd hn underlying23 hi hz hs hb rfl hx hy hq n7 o9 k
theorem bV:prog.follows .mixedOrders=true:=n9
end
section
open Go.Proofs.Tryz
def pI (b:UInt8):Bool:=decide (97≤(b ||| 32).toNat)&&decide ((b ||| 32).toNat≤122)
def cW (b:UInt8):Bool:=decide (48≤b.toNat)&&decide (b.toNat≤57)
def oQ (b:UInt8):Bool:=pI b || cW b
abbrev Tok:=TokV
abbrev Flt:=Int×Int
def runB (p:UInt8→Bool):Bs→Nat
 | []=>0
 | b::r=>if p b then runB p r+1 else 0
theorem lT(p:UInt8→Bool): ∀s:Bs,runB p s≤s.length
 | []=>Nat.le_refl _
 | b::r=>by
  unfold runB;split
  ·have:=lT p r;simp;omega
  ·simp
def decV:Bs→Nat→Nat
 | [],v=>v
 | b::r,v=>decV r (10*v+(b.toNat-48))
def uX (neg:Bool)(ds:Bs):Option Int:=
 if neg then (if decV ds 0≤9223372036854775808 then some (-(decV ds 0:Int)) else none)
 else (if decV ds 0≤9223372036854775807 then some (decV ds 0:Int) else none)
def signs:Bs:=[43,45,42,37,124,61,126,60,62,47,92,46,58,40,41]
def mZ:Bs→Nat
 | []=>0
 | b::r=>if (b==60 || b==62)&&r.head?==some 61 then 2 else if signs.contains b then 1 else 0
abbrev TokR:=Int×Bs×Int×Nat
def iH (b:UInt8)(r:Bs):Except Int (Option TokR):=
 let ds:=if b==95 then r else b::r
 let k:=runB cW ds
 if k=0 then .ok none else match uX (b==95) (ds.take k) with
  | none=> .error 32
  | some v=> .ok (some (2,[],v,k+if b==95 then 1 else 0))
def fW:Bs→Except Int TokR
 | []=> .error 31
 | b::r=>
  if b==10 then .ok (4,[],0,1)
  else if pI b then (if 16<runB oQ (b::r) then .error 33 else .ok (1,(b::r).take (runB oQ (b::r)),0,runB oQ (b::r)))
  else match iH b r with
   | .error e=> .error e
   | .ok (some t)=> .ok t
   | .ok none=>if mZ (b::r)=0 then .error 31 else .ok (3,(b::r).take (mZ (b::r)),0,mZ (b::r))
def oS (b:UInt8):Bool:=b==32 || b==9
def lexGo:Nat→Nat→Bs→List Tok→List Tok×Flt
 | 0,_,_,out=>(out,(0,0))
 | _+1,_,[],out=>(out,(0,0))
 | f+1,i,b::r,out=>
  if oS b then lexGo f (i+1) r out
  else if b==35 then lexGo f (i+runB (· !=10) (b::r)) ((b::r).drop (runB (· !=10) (b::r))) out
  else match fW (b::r) with
   | .error e=>([],(i,e))
   | .ok (k,wd,v,m)=>lexGo f (i+m) ((b::r).drop m) (out++[⟨k,i,wd,v⟩])
def gK (s:Bs):List Tok×Flt:=if 65536<s.length then ([],(0,30)) else lexGo s.length 0 s []
theorem bQn{b:UInt8}{r:Bs}{t:TokR}(h:iH b r= .ok (some t)):1≤t.2.2.2∧t.2.2.2≤r.length+1:=by
 unfold iH at h
 by_cases hb:(b==95)=true
 ·simp only [hb,if_true] at h;have hl:=lT cW r;split at h
  ·cases h
  ·split at h
   ·cases h
   ·simp only [Except.ok.injEq,Option.some.injEq] at h;subst h;simp;omega
 ·simp only [hb,Bool.false_eq_true,if_false] at h;have hl:=lT cW (b::r);simp only [List.length_cons] at hl;split at h
  ·cases h
  ·split at h
   ·cases h
   ·simp only [Except.ok.injEq,Option.some.injEq] at h;subst h;simp only;omega
theorem signP_le: ∀s:Bs,mZ s≤s.length
 | []=>Nat.le_refl _
 | [b]=>by
  have e:(none==some (61:UInt8))=false:=rfl;simp only [mZ,List.head?_nil,e,Bool.and_false,Bool.false_eq_true,if_false];split<;>simp
 | b::c::r=>by
  simp only [mZ];split
  ·simp
  ·split
   ·simp only [List.length_cons];omega
   ·omega
theorem zC{s:Bs}{t:TokR}(h:fW s= .ok t):1≤t.2.2.2∧t.2.2.2≤s.length:=by
 cases s with
 | nil=>cases h
 | cons b r=>
  simp only [fW] at h;split at h
  ·cases h;simp
  ·split at h
   ·rename_i hlt;split at h
    ·cases h
    ·cases h;have:=lT oQ (b::r);refine⟨?_,this⟩;simp only [runB,oQ,hlt,Bool.true_or,if_true];omega
   ·split at h
    ·cases h
    ·rename_i t' ht;cases h;exact bQn ht
    ·split at h
     ·cases h
     ·cases h;have:=signP_le (b::r);simp only;omega
theorem bGh{p:UInt8→Bool}{b:UInt8}{r:Bs}(h:p b=true):1≤runB p (b::r):=by
 simp only [runB,h,if_true];omega
theorem bQo{b:UInt8}(h:(b==35)=true):(b !=10)=true:=by
 have:b=35:=by simpa using h
 subst this;decide
theorem uW: ∀(f g i:Nat) (s:Bs) (out:List Tok),s.length≤f→s.length≤g→lexGo f i s out=lexGo g i s out
 | 0,0,_,_,_,_,_=>rfl
 | 0,g+1,_,[],_,_,_=>rfl
 | f+1,0,_,[],_,_,_=>rfl
 | 0,_,_,b::r,_,h,_=>by simp at h
 | _,0,_,b::r,_,_,h=>by simp at h
 | f+1,g+1,_,[],_,_,_=>rfl
 | f+1,g+1,i,b::r,out,h,k=>by
  simp only [List.length_cons] at h k;unfold lexGo;split
  ·exact uW f g _ _ _ n7 n7
  ·split
   ·rename_i h35;have:1≤runB (· !=10) (b::r):=bGh (bQo h35);exact uW f g _ _ _ q8 q8
   ·split
    ·rfl
    ·rename_i ht;have:=(zC ht).1;exact uW f g _ _ _ (by simp at this⊢;omega) (by simp at this⊢;omega)
theorem pO{i:Nat}{b:UInt8}{r:Bs}{out:List Tok}:lexGo (b::r).length i (b::r) out=
  if oS b then lexGo r.length (i+1) r out
  else if b==35 then lexGo ((b::r).drop (runB (· !=10) (b::r))).length (i+runB (· !=10) (b::r)) ((b::r).drop (runB (· !=10) (b::r))) out
  else match fW (b::r) with
   | .error e=>([],(i,e))
   | .ok (k,wd,v,m)=>lexGo ((b::r).drop m).length (i+m) ((b::r).drop m) (out++[⟨k,i,wd,v⟩]):=by
 rw [List.length_cons,lexGo];split
 ·rfl
 ·split
  ·rename_i h35;have:1≤runB (· !=10) (b::r):=bGh (bQo h35);exact uW _ _ _ _ _ q8 o6
  ·split
   ·rfl
   ·rename_i ht;have:=(zC ht).1;exact uW _ _ _ _ _ (by simp at this⊢;omega) o6
end
section
open Go.RowKit Go.Proofs.Tryz
theorem run_more{p:UInt8→Bool}{s:Bs}{i:Nat}{b:UInt8}(hb:s[i]?=some b)(hp:p b=true)(h:runB p s=i+runB p (s.drop i)):runB p s=(i+1)+runB p (s.drop (i+1)):=by
 obtain⟨hi,hb⟩:=List.getElem?_eq_some_iff.1 hb;rw [List.drop_eq_getElem_cons hi,hb,runB,if_pos hp] at h;omega
theorem run_end{p:UInt8→Bool}{s:Bs}{i:Nat}(hc:s.length≤i∨ ∃b,s[i]?=some b∧p b=false)(h:runB p s=i+runB p (s.drop i)):runB p s=i:=by
 rcases hc with hc | ⟨b,hb,hp⟩
 ·rw [List.drop_of_length_le hc] at h
  simpa [runB] using h
 ·obtain⟨hi,hb⟩:=List.getElem?_eq_some_iff.1 hb;rw [List.drop_eq_getElem_cons hi,hb,runB,hp] at h
  simpa using h
theorem or32(a:UInt8):IntKind.u8.wrap (((BitVec.ofInt IntKind.u8.bits (a.toNat:Int) ||| BitVec.ofInt IntKind.u8.bits 32).toNat:Nat):Int)=(((a ||| 32).toNat:Nat):Int):=or_u8 a 32
theorem bLn(b:UInt8):cM prog 96 [.int .u8 b.toNat] [] [] (fun(_:Unit)=> .bool (pI b)) (fun _=>[]) (fun _=>[]):=by
 have hT:=fF;refine k6 func96 ntmps96 ?_;intro β hM;refine g9 ?_;refine cP (z':=((((b ||| 32):UInt8).toNat:Nat):Int)) (or32 _) ?_;refine g2 ?_;refine k_le (fun hg6=>?_) fun hg6=>?_
 ·refine g2 ?_;refine cP (z':=((((b ||| 32):UInt8).toNat:Nat):Int)) (or32 _) ?_;refine g6 ?_;exact rs1 () j0 (he:=by congr 1;unfold pI;generalize (b ||| 32).toNat=c at*;rw [Bool.eq_iff_iff];simp;omega)
 refine g8 ?_;exact rs1 () j0 (he:=by congr 1;unfold pI;generalize (b ||| 32).toNat=c at*;rw [Bool.eq_iff_iff];simp;omega)
theorem bFu(b:UInt8):cM prog 98 [.int .u8 b.toNat] [] [] (fun(_:Unit)=> .bool (cW b)) (fun _=>[]) (fun _=>[]):=by
 have hT:=fF;refine k6 func98 ntmps98 ?_;intro β hM;refine g10 ?_;refine k_le (fun hg5=>?_) fun hg5=>?_
 ·refine g7 ?_;exact rs1 () j0 (he:=by congr 1;unfold cW;rw [Bool.eq_iff_iff];simp;omega)
 refine g7 ?_;exact rs1 () j0 (he:=by congr 1;unfold cW;rw [Bool.eq_iff_iff];simp;omega)
theorem word_spec(b:UInt8):cM prog 97 [.int .u8 b.toNat] [] [] (fun(_:Unit)=> .bool (oQ b)) (fun _=>[]) (fun _=>[]):=by
 have hT:=fF;refine k6 func97 ntmps97 ?_;intro β hM;refine g8 ?_;refine bD func96 (bLn _) rfl rfl .nil j0 fun _=>?_;refine one ?_;refine cI (fun hg5=>?_) (fun hg5=>?_)
 ·refine g7 ?_;exact rs1 () j0 (he:=by simp [oQ, *])
 refine one ?_;refine bD func98 (bFu _) rfl rfl .nil j0 fun _=>?_;refine g5 ?_;exact rs1 () j0 (he:=by simp [oQ, *])
theorem line_spec(b:UInt8):cM prog 58 [.int .u8 b.toNat] [] [] (fun(_:Unit)=> .bool (b !=10)) (fun _=>[]) (fun _=>[]):=by
 have hT:=fF;refine k6 func58 ntmps58 ?_;intro β hM;refine g13 ?_;exact rs1 () j0 (he:=by congr 1;rw [Bool.eq_iff_iff];simp [bne_iff_ne,←UInt8.toNat_inj];omega)
theorem bGj(s:Bs)(hs:s.length≤140737488355328)(f:FuncId)(p:UInt8→Bool)(hcf: ∀(args:Array Value) (w:World),(callFunc f args).run prog w= .ok (.enter f args) w)(hf: ∀b:UInt8,cM prog f [.int .u8 b.toNat] [] [] (fun _:Unit=> .bool (p b)) (fun _=>[]) (fun _=>[])):cM prog 57 [.string (bs s),.func (.func f) #[] #[]] [] [] (fun(_:Unit)=> .int .i64 (runB p s:Nat)) (fun _=>[]) (fun _=>[]):=by
 have hT:=fF;refine k6 func57 ntmps57 ?_;intro β hM;refine g12 ?_;refine cB (ι:=Nat) [(0,_),(1,_)] ⟨rfl,rfl,j0⟩ (fun i=>[(5,.int .i64 (i:Nat))]) (fun i=>[]) (fun i=>[Fact.pure (i≤s.length∧runB p s=i+runB p (s.drop i))]) (fun i=>s.length-i) 0 ⟨rfl,j0⟩ .nil ⟨j3 (⟨n7,o6⟩),j0⟩ ?_;rintro i;refine bC d7 fun hinv2=>?_;refine g6 ?_;refine cP (z':=((s.length:Nat):Int)) rfl ?_;refine g2 ?_;refine jX (fun hg10=>?_) fun hg10=>?_
 ·refine g3 ?_;obtain⟨b1,hb2⟩:=gx s i;refine ss (rR hT (k:=i) rfl rfl rfl rfl rfl hb2) ?_;refine fV hcf (hf b1) rfl rfl rfl rfl rfl rfl rfl .nil j0 fun _=>?_;refine g3 ?_;refine jA (fun hc16=>?_) fun hc16=>?_
  ·refine g6 ?_;refine inc (i+1) ?_;refine g4 ?_;exact bk2 (i+1) ⟨j3 (⟨n7,run_more hb2 hc16 hinv2.2⟩),j0⟩
  refine g12 ?_;exact rs1 () j0 (he:=congrArg (fun n:Nat=>Value.int .i64 (n:Int)) (run_end (.inr ⟨_,hb2,hc16⟩) hinv2.2).symm)
 refine g21 ?_;exact rs1 () j0 (he:=congrArg (fun n:Nat=>Value.int .i64 (n:Int)) (run_end (.inl n7) hinv2.2).symm)
end
section
open Go.RowKit Go.Proofs.Tryz
theorem bRx{P:Program}(w:World)(d:Nat)(t:TypeId)(a b:Bs)(ht:P.underlying t=some .string):(Op.equalIn (d+1) t (.string (bs a)) (.string (bs b))).run P w= .ok (a==b) w:=by
 rw [run_equalIn_string w d t _ _ ht];simp [bs]
section
variable {P : Program} {β : dF} {n : Nat} {Γ : Env} {H : List bH} {F : List Fact} {o : Oper} {x : Operand} {t tt : TypeId}
theorem run_eqIf{ms:Array (String×TypeId)}(ht:P.underlying t=some (.interface ms))(w:World)(u:TypeId)(v:Value):(Op.equal t (.iface u v) .nilIface).run P w= .ok false w∧(Op.equal t .nilIface .nilIface).run P w= .ok true w:=by
 have h1: ∀d,(Op.equalIn (d+1) t (.iface u v) .nilIface).run P w= .ok false w:=fun d=>by simp [Op.equalIn,run_underlying ht]
 have h2: ∀d,(Op.equalIn (d+1) t .nilIface .nilIface).run P w= .ok true w:=fun d=>by simp [Op.equalIn,run_underlying ht]
 exact⟨h1 9999,h2 9999⟩
theorem sti_err{ms:Array (String×TypeId)}(ht:P.underlying t=some (.interface ms)){u:TypeId}{v:Value}(ho:o.op= .binOp .neq t x (.const .nilIface) tt)(hx:Γ.ev x=some (.iface u v)):Sti P β n Γ H F o (.bool true):=fun c w S f s k=>by
 unfold execOp;have e:c.eval (.const .nilIface)= .nilIface:=rfl;simp only [ho,f.ev hx,e]
 have hb:(binOp .neq t (.iface u v) .nilIface).run P w= .ok (.bool true) w:=by
  simp only [binOp];rw [Sem.run_bind,(run_eqIf ht w u v).1];rfl
 rw [Sem.run_bind,Sem.run_bind];have hg:(eqGuard .neq t x (.const .nilIface) (.iface u v) .nilIface).run P w= .ok () w:=rfl;rw [hg,Result.andThen_ok,hb];rfl
theorem bUo{ms:Array (String×TypeId)}(ht:P.underlying t=some (.interface ms))(ho:o.op= .binOp .neq t x (.const .nilIface) tt)(hx:Γ.ev x=some .nilIface):Sti P β n Γ H F o (.bool false):=fun c w S f s k=>by
 unfold execOp;have e:c.eval (.const .nilIface)= .nilIface:=rfl;simp only [ho,f.ev hx,e]
 have hb:(binOp .neq t .nilIface .nilIface).run P w= .ok (.bool false) w:=by
  simp only [binOp];rw [Sem.run_bind,(run_eqIf ht w 0 .nilIface).2];rfl
 rw [Sem.run_bind,Sem.run_bind]
 have hg:(eqGuard .neq t x (.const .nilIface) .nilIface .nilIface).run P w= .ok () w:=by
  unfold eqGuard;simp
 rw [hg,Result.andThen_ok,hb];rfl
end
def pB (x y:FltV):Bool:=((x.at_==y.at_)&&(x.code==y.code))
theorem zL(d:Nat)(x y:FltV)(w:World):(Op.equalIn (d+2) 34 (.agg #[.int .i64 x.at_,.int .i64 x.code]) (.agg #[.int .i64 y.at_,.int .i64 y.code])).run prog w= .ok (pB x y) w:=by
 have hp:prog.stoodInHeld 34=false:=n9
 have p0: ∀x:FltV,(part 3 #[.int .i64 x.at_,.int .i64 x.code] 0).run prog w= .ok (.int .i64 x.at_) w:=fun x=>by kernel_rfl
 have p1: ∀x:FltV,(part 32 #[.int .i64 x.at_,.int .i64 x.code] 1).run prog w= .ok (.int .i64 x.code) w:=fun x=>by kernel_rfl
 have hS:prog.underlying 34=some (.struct (prog.fieldsOf 34)):=n9
 rw [run_equalIn_agg w (d+1) 34 _ _ hS hp];unfold Program.fieldsOf;rw [underlying34];simp only [Op.eqFields,Sem.run_bind,Sem.run_ite,Sem.run_pure,p0,p1,Result.andThen_ok,run_equalIn_int w d 3 .i64 .i64 _ _ underlying3,run_equalIn_int w d 32 .i64 .i64 _ _ underlying32];unfold pB;cases x.at_==y.at_<;>cases x.code==y.code<;>rfl
theorem gC{β:dF}{n:Nat}{Γ:Env}{H:List bH}{F:List Fact}{o:Oper}{a b:Operand}{tt:TypeId}(x y:FltV)(ho:o.op= .binOp .neq 34 a b tt)(hx:Γ.ev a=some (.agg #[.int .i64 x.at_,.int .i64 x.code]))(hy:Γ.ev b=some (.agg #[.int .i64 y.at_,.int .i64 y.code])):Sti prog β n Γ H F o (.bool (!pB x y)):=fun c w S f s k=>by
 have hq:prog.eqGuardType prog.depth 34=false:=n9
 have hg:(eqGuard .neq 34 a b (.agg #[.int .i64 x.at_,.int .i64 x.code]) (.agg #[.int .i64 y.at_,.int .i64 y.code])).run prog w= .ok () w:=by
  unfold eqGuard;have hp:(program:Sem Program).run prog w= .ok prog w:=rfl;simp [hp,hq]
 have hb:(binOp .neq 34 (.agg #[.int .i64 x.at_,.int .i64 x.code]) (.agg #[.int .i64 y.at_,.int .i64 y.code])).run prog w= .ok (.bool (!pB x y)) w:=by
  rw [run_neq_struct,zL 9998 x y w];rfl
 unfold execOp;simp only [ho,f.ev hx,f.ev hy];rw [Sem.run_bind,Sem.run_bind,hg,Result.andThen_ok,hb];rfl
theorem bLu{β:dF}{n:Nat}{Γ:Env}{H:List bH}{F:List Fact}{o:Oper}{a b:Operand}{tt:TypeId}(x y:FltV)(ho:o.op= .binOp .eql 34 a b tt)(hx:Γ.ev a=some (.agg #[.int .i64 x.at_,.int .i64 x.code]))(hy:Γ.ev b=some (.agg #[.int .i64 y.at_,.int .i64 y.code])):Sti prog β n Γ H F o (.bool (pB x y)):=fun c w S f s k=>by
 have hq:prog.eqGuardType prog.depth 34=false:=n9
 have hg:(eqGuard .eql 34 a b (.agg #[.int .i64 x.at_,.int .i64 x.code]) (.agg #[.int .i64 y.at_,.int .i64 y.code])).run prog w= .ok () w:=by
  unfold eqGuard;have hp:(program:Sem Program).run prog w= .ok prog w:=rfl;simp [hp,hq]
 have hb:(binOp .eql 34 (.agg #[.int .i64 x.at_,.int .i64 x.code]) (.agg #[.int .i64 y.at_,.int .i64 y.code])).run prog w= .ok (.bool (pB x y)) w:=by
  rw [run_eql_struct,zL 9998 x y w];rfl
 unfold execOp;simp only [ho,f.ev hx,f.ev hy];rw [Sem.run_bind,Sem.run_bind,hg,Result.andThen_ok,hb];rfl
def tokEq (x y:TokV):Bool:=((x.kind==y.kind)&&((x.at_==y.at_)&&((x.word==y.word)&&(x.n==y.n))))
theorem bMj(d:Nat)(x y:TokV)(w:World):(Op.equalIn (d+2) 112 (.agg #[.int .i64 x.kind,.int .i64 x.at_,.string (bs x.word),.int .i64 x.n]) (.agg #[.int .i64 y.kind,.int .i64 y.at_,.string (bs y.word),.int .i64 y.n])).run prog w= .ok (tokEq x y) w:=by
 have hp:prog.stoodInHeld 112=false:=n9
 have p0: ∀x:TokV,(part 3 #[.int .i64 x.kind,.int .i64 x.at_,.string (bs x.word),.int .i64 x.n] 0).run prog w= .ok (.int .i64 x.kind) w:=fun x=>by kernel_rfl
 have p1: ∀x:TokV,(part 3 #[.int .i64 x.kind,.int .i64 x.at_,.string (bs x.word),.int .i64 x.n] 1).run prog w= .ok (.int .i64 x.at_) w:=fun x=>by kernel_rfl
 have p2: ∀x:TokV,(part 9 #[.int .i64 x.kind,.int .i64 x.at_,.string (bs x.word),.int .i64 x.n] 2).run prog w= .ok (.string (bs x.word)) w:=fun x=>by kernel_rfl
 have p3: ∀x:TokV,(part 2 #[.int .i64 x.kind,.int .i64 x.at_,.string (bs x.word),.int .i64 x.n] 3).run prog w= .ok (.int .i64 x.n) w:=fun x=>by kernel_rfl
 have hS:prog.underlying 112=some (.struct (prog.fieldsOf 112)):=n9
 rw [run_equalIn_agg w (d+1) 112 _ _ hS hp];unfold Program.fieldsOf;rw [underlying112];simp only [Op.eqFields,Sem.run_bind,Sem.run_ite,Sem.run_pure,p0,p1,p2,p3,Result.andThen_ok,run_equalIn_int w d 3 .i64 .i64 _ _ underlying3,bRx w d 9 _ _ underlying9,run_equalIn_int w d 2 .i64 .i64 _ _ underlying2];unfold tokEq;cases x.kind==y.kind<;>cases x.at_==y.at_<;>cases x.word==y.word<;>cases x.n==y.n<;>rfl
theorem sti_neq_tok{β:dF}{n:Nat}{Γ:Env}{H:List bH}{F:List Fact}{o:Oper}{a b:Operand}{tt:TypeId}(x y:TokV)(ho:o.op= .binOp .neq 112 a b tt)(hx:Γ.ev a=some (.agg #[.int .i64 x.kind,.int .i64 x.at_,.string (bs x.word),.int .i64 x.n]))(hy:Γ.ev b=some (.agg #[.int .i64 y.kind,.int .i64 y.at_,.string (bs y.word),.int .i64 y.n])):Sti prog β n Γ H F o (.bool (!tokEq x y)):=fun c w S f s k=>by
 have hq:prog.eqGuardType prog.depth 112=false:=n9
 have hg:(eqGuard .neq 112 a b (.agg #[.int .i64 x.kind,.int .i64 x.at_,.string (bs x.word),.int .i64 x.n]) (.agg #[.int .i64 y.kind,.int .i64 y.at_,.string (bs y.word),.int .i64 y.n])).run prog w= .ok () w:=by
  unfold eqGuard;have hp:(program:Sem Program).run prog w= .ok prog w:=rfl;simp [hp,hq]
 have hb:(binOp .neq 112 (.agg #[.int .i64 x.kind,.int .i64 x.at_,.string (bs x.word),.int .i64 x.n]) (.agg #[.int .i64 y.kind,.int .i64 y.at_,.string (bs y.word),.int .i64 y.n])).run prog w= .ok (.bool (!tokEq x y)) w:=by
  rw [run_neq_struct,bMj 9998 x y w];rfl
 unfold execOp;simp only [ho,f.ev hx,f.ev hy];rw [Sem.run_bind,Sem.run_bind,hg,Result.andThen_ok,hb];rfl
end
section
open Go.RowKit Go.Proofs.Tryz
theorem named0:prog.globalNamed "strings.asciiSpace" =some 0:=n9
theorem named7:prog.globalNamed "internal/strconv.uint64pow10" =some 7:=n9
def iW:Fact where
 p S w:=(S 0∧S 7∧S 4∧S 3)∧Lib.TabIs prog w "strings.asciiSpace" .u8 Lib.asciiSpaceTab∧Lib.TabIs prog w "internal/strconv.uint64pow10" .u64 Lib.pow10Tab∧
  (∃m,w.cell? ⟨4,0,none⟩=some (.int .i64 m))∧ ∃ev,w.cell? ⟨3,0,none⟩=some ev∧(ev= .nilIface∨ ∃te pe,ev= .iface te pe)
 mono:=fun{S S' w w'} hs ha h=>by
  obtain⟨⟨s0,s7,s4,s3⟩,h0,h7,⟨m,h4⟩,ev,h3,he⟩:=h;refine⟨⟨hs _ s0,hs _ s7,hs _ s4,hs _ s3⟩,?_,?_,⟨m,?_⟩,ev,?_,he⟩
  ·unfold Lib.TabIs World.var? at*;rw [named0] at*;simp only [Option.bind_some,ha _ s0] at*;exact h0
  ·unfold Lib.TabIs World.var? at*;rw [named7] at*;simp only [Option.bind_some,ha _ s7] at*;exact h7
  ·unfold World.cell? at*;rw [ha _ s4];exact h4
  ·unfold World.cell? at*;rw [ha _ s3];exact h3
theorem bDp{P:Program}{f:FuncId}{args:List Value}{Pre:List Fact}{v:Value}(h: ∀S w,All Pre S w→Calls P f args.toArray w fun e w'=>e= .returned v∧w'=w):
  cM P f args [] Pre (fun _:Unit=>v) (fun _=>[]) (fun _=>[]):=mM fun S w _ k=>(h S w k).mono fun e w' ⟨he,hw⟩=>⟨he,by rw [hw];exact Below.refl _ _⟩
theorem zW(s p:Bs):cM prog 132 [.string (bs s),.string (bs p)] [] [] (fun _:Unit=> .bool (p.isPrefixOf s)) (fun _=>[]) (fun _=>[]):=
 bDp fun _ w _=>Tryz.strings_HasPrefix (bs s) (bs p) w
theorem bRc(s:Bs)(b:UInt8):cM prog 133 [.string (bs s),.int .u8 b.toNat] [] [] (fun _:Unit=> .int .i64 (Lib.indexByte s b)) (fun _=>[]) (fun _=>[]):=
 bDp fun _ w _=>by
  have h:=Tryz.strings_IndexByte (bs s) (b.toNat:Int) w;have e:((b.toNat:Int).toNat).toUInt8=b:=by simp
  rw [e] at h;exact h
theorem tK(b:UInt8): ∀l:Bs,(decide ((0:Int)≤Lib.indexByte l b))=l.contains b∧(Lib.indexByte l b= -1∨0≤Lib.indexByte l b)
 | []=>by simp [Lib.indexByte]
 | c::l=>by
  obtain⟨h1,h2⟩:=tK b l;unfold Lib.indexByte
  by_cases h:(c==b)=true
  ·have:b=c:=(by simpa using h:c=b).symm;simp [this]
  ·have hne: ¬b=c:=fun e=>h ai3;simp only [h,Bool.false_eq_true,if_false]
   rcases h2 with h2 | h2
   ·rw [h2] at h1⊢;simp only [beq_self_eq_true,if_true];simp at h1;refine⟨?_,.inl j0⟩;simp [hne,h1]
   ·have: ¬Lib.indexByte l b= -1:=n7
    have hb:(Lib.indexByte l b== -1)=false:=by simp [this]
    rw [hb];simp only [Bool.false_eq_true,if_false];refine⟨?_,.inr n7⟩;have h1':l.contains b=true:=by rw [←h1];simp [h2]
    have hm:b∈l:=by simpa using h1'
    simp [hm];omega
theorem decV_ge: ∀(ds:Bs) (acc:Nat),acc≤decV ds acc
 | [],_=>Nat.le_refl _
 | b::r,acc=>by
  have:=decV_ge r (10*acc+(b.toNat-48));simp only [decV];omega
theorem bGg: ∀(ds:Bs) (acc:Nat),(∀b∈ds,cW b=true)→acc≤18446744073709551615→Lib.parseUintM 18446744073709551615 acc ds=if decV ds acc≤18446744073709551615 then .ok (decV ds acc) else .range
 | [],acc,_,h=>by simp [Lib.parseUintM,decV,h]
 | b::r,acc,hd,h=>by
  have hb:=hd b o6;simp only [cW,Bool.and_eq_true,decide_eq_true_eq] at hb;have hge:=decV_ge r (10*acc+(b.toNat-48));unfold Lib.parseUintM decV;rw [if_pos hb];split
  ·rw [if_neg n7]
  ·split
   ·rw [if_neg n7]
   ·rw [bGg r _ (fun x hx=>hd x ad2) n7,show acc*10+(b.toNat-48)=10*acc+(b.toNat-48) from by omega]
theorem bIf{neg:Bool}{ds:Bs}(hne:ds≠[])(hd: ∀b∈ds,cW b=true):Lib.parseIntB 64 ((if neg then [45] else [])++ds)=match uX neg ds with
  | some v=> .ok v
  | none=> .range:=by
 have hu:Lib.parseUintB 64 ds=if decV ds 0≤18446744073709551615 then .ok (decV ds 0) else .range:=by
  unfold Lib.parseUintB;rw [if_neg hne];exact bGg ds 0 hd n7
 cases neg with
 | true=>
  simp only [if_true,List.singleton_append,Lib.parseIntB];have e:((45:UInt8).toNat=43∨(45:UInt8).toNat=45):=o9
  have e2:(45:UInt8).toNat=45:=o9
  rw [if_pos e,hu];unfold uX;simp only [if_true]
  by_cases h1:decV ds 0≤18446744073709551615
  ·rw [if_pos h1]
   by_cases h2:decV ds 0≤9223372036854775808
   ·simp [h2,e2]
   ·have h3:9223372036854775808<decV ds 0:=n7
    simp [e2,h2,h3]
  ·rw [if_neg h1,if_neg n7]
 | false=>
  cases ds with
  | nil=>exact absurd rfl hne
  | cons b r=>
   have hb:=hd b o6;simp only [cW,Bool.and_eq_true,decide_eq_true_eq] at hb;simp only [Bool.false_eq_true,if_false,List.nil_append,Lib.parseIntB];have e: ¬(b.toNat=43∨b.toNat=45):=n7
   have e2: ¬b.toNat=45:=n7
   rw [if_neg e,hu];unfold uX;simp only [Bool.false_eq_true,if_false]
   by_cases h1:decV (b::r) 0≤18446744073709551615
   ·rw [if_pos h1]
    by_cases h2:decV (b::r) 0≤9223372036854775807
    ·simp [h2,e2];omega
    ·simp [e2,h2];omega
   ·rw [if_neg h1,if_neg n7]
def bKd (neg:Bool):Bs:=if neg then [45] else []
theorem bKw(neg:Bool)(ds:Bs)(hne:ds≠[])(hd: ∀b∈ds,cW b=true)(hl:ds.length≤140737488355328){v:Int}(hv:uX neg ds=some v):
  cM prog 131 [.string (bs (bKd neg++ds)),.int .i64 10,.int .i64 64] [] [] (fun _:Unit=> .tuple #[.int .i64 v,.nilIface]) (fun _=>[]) (fun _=>[]):=
 mM fun _ w _ _=>by
  have hp:=bIf (neg:=neg) hne hd;rw [hv] at hp;refine(Tryz.strconv_ParseInt_10_at64_ok (bs (bKd neg++ds)) (by rw [lU];unfold bKd;cases neg<;>simp<;>omega) v hp w).mono ?_;rintro e w' ⟨rfl,h⟩;refine⟨rfl,?_⟩
  rcases h with rfl | ⟨t,rfl⟩
  ·exact Below.refl _ _
  ·exact Joins.below_bytesWorld _ _ _ _ (Nat.le_refl _)
theorem bAy(neg:Bool)(ds:Bs)(hne:ds≠[])(hd: ∀b∈ds,cW b=true)(hl:ds.length≤140737488355328)(hv:uX neg ds=none):
  cM prog 131 [.string (bs (bKd neg++ds)),.int .i64 10,.int .i64 64] [] [iW] (fun x:Int×Nat=> .tuple #[.int .i64 x.1,.iface 278 (.pointer (some ⟨x.2,0,none⟩))]) (fun _=>[]) (fun _=>[]):=fun S w s k=>by
 obtain⟨_,_,_,_,ev,h3,he⟩:=k _ (.head _);have hp:=bIf (neg:=neg) hne hd;rw [hv] at hp;refine(Tryz.strconv_ParseInt_10_at64_range (bs (bKd neg++ds)) (by rw [lU];unfold bKd;cases neg<;>simp<;>omega) hp ev w h3 he).mono ?_;rintro e w' ⟨N,rfl,_,_,hb⟩;exact⟨(_,N),S,rfl,⟨oW.of_below _ hb,fun c hc=>by simp at hc,fun c hc=>by simp at hc,List.Pairwise.nil,fun b hb'=>⟨Nat.lt_of_lt_of_le (s.zone b hb').1 hb.size,.inl hb'⟩⟩,fun g hg=>by simp at hg⟩
end
section
open Go.RowKit Go.Proofs.Tryz
theorem bQg{b k:UInt8}(h:(b.toNat:Int)=(k.toNat:Int)):b=k:=UInt8.toNat_inj.1 n7
theorem bPn{b k:UInt8}(h:(b.toNat:Int)≠(k.toNat:Int)):b≠k:=fun e=>h (by rw [e])
theorem pre2(k b:UInt8)(r:Bs):[k,61].isPrefixOf (b::r)=(b==k&&r.head?==some 61):=by
 cases r with
 | nil=>simp [List.isPrefixOf]
 | cons c r=>
  show((k==b)&&(((61:UInt8)==c)&&true))=(b==k&&(c==61));rw [show(k==b)=(b==k) from BEq.comm,show((61:UInt8)==c)=(c==61) from BEq.comm,Bool.and_true]
section
variable {b : UInt8} {r : Bs}
theorem sign_a(h:([60,61]:Bs).isPrefixOf (b::r)=true):Value.int .i64 2=Value.int .i64 ((mZ (b::r):Nat):Int):=by
 rw [pre2] at h;simp only [Bool.and_eq_true,beq_iff_eq] at h;simp [mZ,h.1,h.2]
theorem sign_b(_:([60,61]:Bs).isPrefixOf (b::r)=false)(h:([62,61]:Bs).isPrefixOf (b::r)=true):Value.int .i64 2=Value.int .i64 ((mZ (b::r):Nat):Int):=by
 rw [pre2] at h;simp only [Bool.and_eq_true,beq_iff_eq] at h;simp [mZ,h.1,h.2]
theorem sign_no(h1:([60,61]:Bs).isPrefixOf (b::r)=false)(h2:([62,61]:Bs).isPrefixOf (b::r)=false):((b==60 || b==62)&&r.head?==some 61)=false:=by
 rw [pre2] at h1 h2;generalize (b==60)=x at*;generalize (b==62)=y at*;generalize (r.head?==some 61)=z at*;cases x<;>cases y<;>cases z<;>simp_all
theorem sign_c(h1:([60,61]:Bs).isPrefixOf (b::r)=false)(h2:([62,61]:Bs).isPrefixOf (b::r)=false)(h3:(0:Int)≤Lib.indexByte ([43,45,42,37,124,61,126,60,62,47,92,46,58,40,41]:Bs) b):Value.int .i64 1=Value.int .i64 ((mZ (b::r):Nat):Int):=by
 have h4:=(tK b ([43,45,42,37,124,61,126,60,62,47,92,46,58,40,41]:Bs)).1;rw [decide_eq_true h3] at h4;have h5:signs.contains b=true:=h4.symm;simp only [mZ,sign_no h1 h2,Bool.false_eq_true,if_false,h5,if_true];rfl
theorem sign_d(h1:([60,61]:Bs).isPrefixOf (b::r)=false)(h2:([62,61]:Bs).isPrefixOf (b::r)=false)(h3:Lib.indexByte ([43,45,42,37,124,61,126,60,62,47,92,46,58,40,41]:Bs) b<0):Value.int .i64 0=Value.int .i64 ((mZ (b::r):Nat):Int):=by
 have h4:=(tK b ([43,45,42,37,124,61,126,60,62,47,92,46,58,40,41]:Bs)).1;rw [decide_eq_false n7] at h4;have h5:signs.contains b=false:=h4.symm;simp only [mZ,sign_no h1 h2,Bool.false_eq_true,if_false,h5];rfl
theorem bGy(p:UInt8→Bool): ∀s:Bs,∀b∈s.take (runB p s),p b=true
 | [],_,h=>by simp at h
 | c::s,b,h=>by
  unfold runB at h;split at h
  ·rename_i hc;rw [List.take_succ_cons,List.mem_cons] at h
   rcases h with rfl | h
   ·exact hc
   ·exact bGy p s b h
  ·simp at h
theorem bMs{s:Bs}{k:Nat}(h:((k:Nat):Int)≠0)(hk:k≤s.length):s.take k≠[]:=fun e=>by
 have:(s.take k).length=0:=by rw [e];rfl
 rw [List.length_take] at this;omega
def numV:Except Int (Option TokR)→Value
 | .error e=> .tuple #[.int .i64 0,.int .i64 0,.int .i64 e]
 | .ok none=> .tuple #[.int .i64 0,.int .i64 0,.int .i64 0]
 | .ok (some t)=> .tuple #[.int .i64 t.2.2.1,.int .i64 (t.2.2.2:Nat),.int .i64 0]
theorem num_m0(hb:b=95):iH b r=if runB cW r=0 then .ok none else match uX true (r.take (runB cW r)) with
  | none=> .error 32
  | some v=> .ok (some (2,[],v,runB cW r+1)):=by
 subst hb;rfl
theorem num_p0(hb:b≠95):iH b r=if runB cW (b::r)=0 then .ok none else match uX false ((b::r).take (runB cW (b::r))) with
  | none=> .error 32
  | some v=> .ok (some (2,[],v,runB cW (b::r)+0)):=by
 have:(b==95)=false:=by simp [hb]
 unfold iH;rw [this];rfl
theorem cast0{n:Nat}(h:((n:Nat):Int)=0):n=0:=n7
theorem castn{n:Nat}(h:((n:Nat):Int)≠0):n≠0:=n7
theorem num_mz(hb:b=95)(hk:((runB cW ((b::r).drop 1):Nat):Int)=0):Value.tuple #[.int .i64 0,.int .i64 0,.int .i64 0]=numV (iH b r):=by
 have hk:runB cW r=0:=cast0 hk;rw [num_m0 hb,if_pos hk];rfl
theorem num_me(hb:b=95)(hk:((runB cW ((b::r).drop 1):Nat):Int)≠0)(hv:uX true (((b::r).drop 1).take (runB cW ((b::r).drop 1)))=none):Value.tuple #[.int .i64 0,.int .i64 0,.int .i64 32]=numV (iH b r):=by
 have hk: ¬runB cW r=0:=castn hk;have hv:uX true (r.take (runB cW r))=none:=hv;rw [num_m0 hb,if_neg hk,hv];rfl
theorem num_mo{v:Int}(hb:b=95)(hk:((runB cW ((b::r).drop 1):Nat):Int)≠0)(hv:uX true (((b::r).drop 1).take (runB cW ((b::r).drop 1)))=some v):
  Value.tuple #[.int .i64 v,.int .i64 (((runB cW ((b::r).drop 1))+([45]:Bs).length:Nat):Int),.int .i64 0]=numV (iH b r):=by
 have hk: ¬runB cW r=0:=castn hk;have hv:uX true (r.take (runB cW r))=some v:=hv;rw [num_m0 hb,if_neg hk,hv];rfl
theorem num_pz(hb:b≠95)(hk:((runB cW (b::r):Nat):Int)=0):Value.tuple #[.int .i64 0,.int .i64 0,.int .i64 0]=numV (iH b r):=by
 rw [num_p0 hb,if_pos (cast0 hk)];rfl
theorem num_pe(hb:b≠95)(hk:((runB cW (b::r):Nat):Int)≠0)(hv:uX false ((b::r).take (runB cW (b::r)))=none):Value.tuple #[.int .i64 0,.int .i64 0,.int .i64 32]=numV (iH b r):=by
 rw [num_p0 hb,if_neg (castn hk),hv];rfl
theorem num_po{v:Int}(hb:b≠95)(hk:((runB cW (b::r):Nat):Int)≠0)(hv:uX false ((b::r).take (runB cW (b::r)))=some v):
  Value.tuple #[.int .i64 v,.int .i64 (((runB cW (b::r))+([]:Bs).length:Nat):Int),.int .i64 0]=numV (iH b r):=by
 rw [num_p0 hb,if_neg (castn hk),hv];rfl
theorem bOd{e:Int}(h:iH b r= .error e):e=32:=by
 unfold iH at h
 by_cases hb:(b==95)=true
 ·simp only [hb,if_true] at h;split at h
  ·cases h
  ·split at h
   ·cases h;rfl
   ·cases h
 ·simp only [hb,Bool.false_eq_true,if_false] at h;split at h
  ·cases h
  ·split at h
   ·cases h;rfl
   ·cases h
def bAh:Except Int TokR→Value
 | .error e=> .tuple #[.agg #[.int .i64 (if e=32 then 2 else 0),.int .i64 0,.string (bs []),.int .i64 0],.int .i64 0,.int .i64 e]
 | .ok t=> .tuple #[.agg #[.int .i64 t.1,.int .i64 0,.string (bs t.2.1),.int .i64 t.2.2.1],.int .i64 (t.2.2.2:Nat),.int .i64 0]
section
variable (h1 : b ≠ 10) (h2 : pI b = false)
theorem xT(h:b=10):Value.tuple #[.agg #[.int .i64 4,.int .i64 0,.string (bs []),.int .i64 0],.int .i64 1,.int .i64 0]=bAh (fW (b::r)):=by
 subst h;rfl
include h1
theorem yP(h2:pI b=true)(h3:((runB oQ (b::r):Nat):Int)≤16):Value.tuple #[.agg #[.int .i64 1,.int .i64 0,.string (bs ((b::r).take (runB oQ (b::r)))),.int .i64 0],.int .i64 (runB oQ (b::r):Nat),.int .i64 0]=bAh (fW (b::r)):=by
 have e:fW (b::r)= .ok (1,(b::r).take (runB oQ (b::r)),0,runB oQ (b::r)):=by
  simp only [fW,beq_iff_eq,h1,if_false,h2,if_true];rw [if_neg n7]
 rw [e];rfl
theorem yS(h2:pI b=true)(h3:(16:Int)<((runB oQ (b::r):Nat):Int)):Value.tuple #[.agg #[.int .i64 0,.int .i64 0,.string (bs []),.int .i64 0],.int .i64 0,.int .i64 33]=bAh (fW (b::r)):=by
 have e:fW (b::r)= .error 33:=by
  simp only [fW,beq_iff_eq,h1,if_false,h2,if_true];rw [if_pos n7]
 rw [e];rfl
include h2
theorem yW{e:Int}(h:iH b r= .error e)(he:e=32):Value.tuple #[.agg #[.int .i64 2,.int .i64 0,.string (bs []),.int .i64 0],.int .i64 0,.int .i64 e]=bAh (fW (b::r)):=by
 have q:fW (b::r)= .error e:=by
  simp only [fW,beq_iff_eq,h1,if_false,h2,Bool.false_eq_true,h]
 rw [q,he];rfl
theorem yH{kk v:Int}{ww:Bs}{m:Nat}(h:iH b r= .ok (some (kk,ww,v,m))):Value.tuple #[.agg #[.int .i64 2,.int .i64 0,.string (bs []),.int .i64 v],.int .i64 (m:Nat),.int .i64 0]=bAh (fW (b::r)):=by
 have q:fW (b::r)= .ok (kk,ww,v,m):=by
  simp only [fW,beq_iff_eq,h1,if_false,h2,Bool.false_eq_true,h]
 have hk:kk=2∧ww=[]:=by
  unfold iH at h
  by_cases hb:(b==95)=true
  ·simp only [hb,if_true] at h;split at h
   ·cases h
   ·split at h
    ·cases h
    ·cases h;exact⟨rfl,rfl⟩
  ·simp only [hb,Bool.false_eq_true,if_false] at h;split at h
   ·cases h
   ·split at h
    ·cases h
    ·cases h;exact⟨rfl,rfl⟩
 rw [q,hk.1,hk.2];rfl
theorem xS(h:iH b r= .ok none)(h3:((mZ (b::r):Nat):Int)=0):Value.tuple #[.agg #[.int .i64 0,.int .i64 0,.string (bs []),.int .i64 0],.int .i64 0,.int .i64 31]=bAh (fW (b::r)):=by
 have e:fW (b::r)= .error 31:=by
  simp only [fW,beq_iff_eq,h1,if_false,h2,Bool.false_eq_true,h];rw [if_pos (cast0 h3)]
 rw [e];rfl
theorem yB(h:iH b r= .ok none)(h3:((mZ (b::r):Nat):Int)≠0):Value.tuple #[.agg #[.int .i64 3,.int .i64 0,.string (bs ((b::r).take (mZ (b::r)))),.int .i64 0],.int .i64 (mZ (b::r):Nat),.int .i64 0]=bAh (fW (b::r)):=by
 have e:fW (b::r)= .ok (3,(b::r).take (mZ (b::r)),0,mZ (b::r)):=by
  simp only [fW,beq_iff_eq,h1,if_false,h2,Bool.false_eq_true,h];rw [if_neg (castn h3)]
 rw [e];rfl
end
end
theorem sign_spec(b:UInt8)(r:Bs):cM prog 100 [.string (bs (b::r))] [] [] (fun(_:Unit)=> .int .i64 (mZ (b::r):Nat)) (fun _=>[]) (fun _=>[]):=by
 have hT:=fF;refine k6 func100 ntmps100 ?_;intro β hM;refine g10 ?_;refine bD func132 (zW _ ([60,61]:Bs)) rfl rfl .nil j0 fun _=>?_;refine one ?_;refine cI (fun hg6=>?_) (fun hg6=>?_)
 ·refine g15 ?_;exact rs1 () j0 (he:=by first | exact sign_a hg6 | exact sign_b hg6 hc3 | exact sign_c hg6 hc3 hc10 | exact sign_d hg6 hc3 hc10)
 refine one ?_;refine bD func132 (zW _ ([62,61]:Bs)) rfl rfl .nil j0 fun _=>?_;refine g4 ?_;refine jA (fun hc3=>?_) fun hc3=>?_
 ·refine g8 ?_;exact rs1 () j0 (he:=by first | exact sign_a hg6 | exact sign_b hg6 hc3 | exact sign_c hg6 hc3 hc10 | exact sign_d hg6 hc3 hc10)
 refine g3 ?_;refine ss (rR hT (k:=0) rfl rfl rfl rfl rfl rfl) ?_;refine j5 func133 (bRc ([43,45,42,37,124,61,126,60,62,47,92,46,58,40,41]:Bs) b) j0 fun _=>?_;refine g4 ?_;refine bQy (fun hc10=>?_) fun hc10=>?_
 ·refine g8 ?_;exact rs1 () j0 (he:=by first | exact sign_a hg6 | exact sign_b hg6 hc3 | exact sign_c hg6 hc3 hc10 | exact sign_d hg6 hc3 hc10)
 refine g9 ?_;exact rs1 () j0 (he:=by first | exact sign_a hg6 | exact sign_b hg6 hc3 | exact sign_c hg6 hc3 hc10 | exact sign_d hg6 hc3 hc10)
theorem bAk(b:UInt8)(r:Bs)(hl:(b::r).length≤65536):cM prog 99 [.string (bs (b::r))] [] [iW] (fun(_:Unit)=>numV (iH b r)) (fun _=>[]) (fun _=>[]):=by
 have hT:=fF;refine k6 func99 ntmps99 ?_;intro β hM;refine g18 ?_;refine ss (rR hT (k:=0) rfl rfl rfl rfl rfl rfl) ?_;refine g3 ?_;refine jA (fun hc13=>?_) fun hc13=>?_
 ·have hc13:b=95:=bQg (k:=95) (eq_of_beq hc13);refine g2 ?_;refine ss (bUw hT (k:=1) rfl rfl rfl rfl rfl o6) ?_;refine g7 ?_;refine bD func57 (bGj ((b::r).drop 1) ad0 _ cW (bO func98 rfl rfl) bFu) rfl rfl .nil j0 fun _=>?_;refine g5 ?_;have hrl:runB cW ((b::r).drop 1)≤65536:=Nat.le_trans (lT _ _) ad0;refine g5 ?_;refine fN (fun hc19=>?_) fun hc19=>?_
  ·refine g9 ?_;exact rs3 () j0 (he:=num_mz hc13 hc19)
  have hrl':=lT cW ((b::r).drop 1);refine g3 ?_
  rcases hv:uX true (((b::r).drop 1).take (runB cW ((b::r).drop 1))) with _ | v
  ·have num_ne:(((b::r).drop 1).take (runB cW ((b::r).drop 1)))≠[]:=bMs hc19 hrl';refine g4 ?_;refine ss (bDq hT (k:=(runB cW ((b::r).drop 1))) rfl rfl rfl rfl rfl (lT _ _)) ?_;refine ss (jF rfl rfl rfl ad0) ?_;refine bD func131 (bAy true (((b::r).drop 1).take (runB cW ((b::r).drop 1))) num_ne (bGy _ _) ad0 hv) rfl rfl .nil ⟨d7,j0⟩ fun⟨z1,N2⟩=>?_;refine g11 ?_;refine ss (sti_err underlying216 rfl rfl) ?_;refine g12 ?_;exact rs3 () j0 (he:=num_me hc13 hc19 hv)
  have num_ne:(((b::r).drop 1).take (runB cW ((b::r).drop 1)))≠[]:=bMs hc19 hrl';refine g4 ?_;refine ss (bDq hT (k:=(runB cW ((b::r).drop 1))) rfl rfl rfl rfl rfl (lT _ _)) ?_;refine ss (jF rfl rfl rfl ad0) ?_;refine bD func131 (bKw true (((b::r).drop 1).take (runB cW ((b::r).drop 1))) num_ne (bGy _ _) ad0 hv) rfl rfl .nil j0 fun _=>?_;refine g11 ?_;refine ss (bUo underlying216 rfl rfl) ?_;refine g6 ?_;have hq1:([45]:Bs).length=1:=rfl;have hq0:([]:Bs).length=0:=rfl;refine g5 ?_;refine cP (z':=((([45]:Bs).length:Nat):Int)) rfl ?_;refine one ?_;refine inc ((runB cW ((b::r).drop 1))+([45]:Bs).length) ?_;refine g6 ?_;exact rs3 () j0 (he:=num_mo hc13 hc19 hv)
 have hc13:b≠95:=bPn (k:=95) (beq_eq_false_iff_ne.1 hc13);refine g5 ?_;refine bD func57 (bGj (b::r) ad0 _ cW (bO func98 rfl rfl) bFu) rfl rfl .nil j0 fun _=>?_;refine g5 ?_;have hrl:runB cW (b::r)≤65536:=Nat.le_trans (lT _ _) ad0;refine g5 ?_;refine fN (fun hc19=>?_) fun hc19=>?_
 ·refine g9 ?_;exact rs3 () j0 (he:=num_pz hc13 hc19)
 have hrl':=lT cW (b::r);refine g3 ?_
 rcases hv:uX false ((b::r).take (runB cW (b::r))) with _ | v
 ·have num_ne:((b::r).take (runB cW (b::r)))≠[]:=bMs hc19 hrl';refine g4 ?_;refine ss (bDq hT (k:=(runB cW (b::r))) rfl rfl rfl rfl rfl (lT _ _)) ?_;refine ss (jF rfl rfl rfl ad0) ?_;refine bD func131 (bAy false ((b::r).take (runB cW (b::r))) num_ne (bGy _ _) ad0 hv) rfl rfl .nil ⟨d7,j0⟩ fun⟨z3,N4⟩=>?_;refine g11 ?_;refine ss (sti_err underlying216 rfl rfl) ?_;refine g12 ?_;exact rs3 () j0 (he:=num_pe hc13 hc19 hv)
 have num_ne:((b::r).take (runB cW (b::r)))≠[]:=bMs hc19 hrl';refine g4 ?_;refine ss (bDq hT (k:=(runB cW (b::r))) rfl rfl rfl rfl rfl (lT _ _)) ?_;refine ss (jF rfl rfl rfl ad0) ?_;refine bD func131 (bKw false ((b::r).take (runB cW (b::r))) num_ne (bGy _ _) ad0 hv) rfl rfl .nil j0 fun _=>?_;refine g11 ?_;refine ss (bUo underlying216 rfl rfl) ?_;refine g6 ?_;have hq1:([45]:Bs).length=1:=rfl;have hq0:([]:Bs).length=0:=rfl;refine g5 ?_;refine cP (z':=((([]:Bs).length:Nat):Int)) rfl ?_;refine one ?_;refine inc ((runB cW (b::r))+([]:Bs).length) ?_;refine g6 ?_;exact rs3 () j0 (he:=num_po hc13 hc19 hv)
end
section
open Go.RowKit Go.Proofs.Tryz
theorem number_err{e:Int}(b:UInt8)(r:Bs)(hl:(b::r).length≤65536)(h:iH b r= .error e):cM prog 99 [.string (bs (b::r))] [] [iW] (fun _:Unit=> .tuple #[.int .i64 0,.int .i64 0,.int .i64 e]) (fun _=>[]) (fun _=>[]):=by
 have:=bAk b r hl;rw [h] at this;exact this
theorem number_none(b:UInt8)(r:Bs)(hl:(b::r).length≤65536)(h:iH b r= .ok none):cM prog 99 [.string (bs (b::r))] [] [iW] (fun _:Unit=> .tuple #[.int .i64 0,.int .i64 0,.int .i64 0]) (fun _=>[]) (fun _=>[]):=by
 have:=bAk b r hl;rw [h] at this;exact this
theorem number_some{kk v:Int}{ww:Bs}{m:Nat}(b:UInt8)(r:Bs)(hl:(b::r).length≤65536)(h:iH b r= .ok (some (kk,ww,v,m))):cM prog 99 [.string (bs (b::r))] [] [iW] (fun _:Unit=> .tuple #[.int .i64 v,.int .i64 (m:Nat),.int .i64 0]) (fun _=>[]) (fun _=>[]):=by
 have:=bAk b r hl;rw [h] at this;exact this
theorem bBm:(prog.info? 112).bind (·.zero)=some (.agg #[.int .i64 0,.int .i64 0,.string (bs []),.int .i64 0]):=n9
theorem xA(z0:Int):prog.built 112 [(0,.int .i64 z0)]=some #[.int .i64 z0,.int .i64 0,.string (bs []),.int .i64 0]:=n9
theorem qK:prog.built 112 []=some #[.int .i64 0,.int .i64 0,.string (bs []),.int .i64 0]:=n9
theorem oY(z0:Int)(s2:ByteArray):prog.built 112 [(0,.int .i64 z0),(2,.string s2)]=some #[.int .i64 z0,.int .i64 0,.string s2,.int .i64 0]:=n9
theorem pC(z0:Int)(z3:Int):prog.built 112 [(0,.int .i64 z0),(3,.int .i64 z3)]=some #[.int .i64 z0,.int .i64 0,.string (bs []),.int .i64 z3]:=n9
theorem bNx(b:UInt8)(r:Bs)(hl:(b::r).length≤65536):cM prog 59 [.string (bs (b::r))] [] [iW] (fun(_:Unit)=>bAh (fW (b::r))) (fun _=>[]) (fun _=>[]):=by
 have hT:=fF;refine k6 func59 ntmps59 ?_;intro β hM;refine g2 ?_;refine j6 bBm fun b1=>?_;refine g8 ?_;refine ss (rR hT (k:=0) rfl rfl rfl rfl rfl rfl) ?_;refine g3 ?_;refine jA (fun hc11=>?_) fun hc11=>?_
 ·have hc11:b=10:=bQg (k:=10) (eq_of_beq hc11);refine g2 ?_;refine ss (k7 (xA _)) ?_;refine g7 ?_;exact rs3 () j0 (he:=by first | exact xT hc11 | exact yS hc11 hc15 hc19 | exact yP hc11 hc15 hc19 | exact yW hc11 hc15 hnt he | exact yH hc11 hc15 hnt | exact xS hc11 hc15 hnt hc45 | exact yB hc11 hc15 hnt hc45)
 have hc11:b≠10:=bPn (k:=10) (beq_eq_false_iff_ne.1 hc11);refine g6 ?_;refine ss (rR hT (k:=0) rfl rfl rfl rfl rfl rfl) ?_;refine bD func96 (bLn _) rfl rfl .nil j0 fun _=>?_;refine g2 ?_;refine jA (fun hc15=>?_) fun hc15=>?_
 ·refine g3 ?_;refine bD func57 (bGj (b::r) n7 _ oQ (bO func97 rfl rfl) word_spec) rfl rfl .nil j0 fun _=>?_;refine g10 ?_;refine dJ (fun hc19=>?_) fun hc19=>?_
  ·refine g2 ?_;refine ss (k7 (qK)) ?_;refine g8 ?_;exact rs3 () j0 (he:=by first | exact xT hc11 | exact yS hc11 hc15 hc19 | exact yP hc11 hc15 hc19 | exact yW hc11 hc15 hnt he | exact yH hc11 hc15 hnt | exact xS hc11 hc15 hnt hc45 | exact yB hc11 hc15 hnt hc45)
  refine g6 ?_;refine ss (bDq hT (k:=(runB oQ (b::r))) rfl rfl rfl rfl rfl (lT _ _)) ?_;refine ss (k7 (oY _ _)) ?_;refine g8 ?_;exact rs3 () j0 (he:=by first | exact xT hc11 | exact yS hc11 hc15 hc19 | exact yP hc11 hc15 hc19 | exact yW hc11 hc15 hnt he | exact yH hc11 hc15 hnt | exact xS hc11 hc15 hnt hc45 | exact yB hc11 hc15 hnt hc45)
 refine g3 ?_
 rcases hnt:iH b r with e | _ | ⟨kk,ww,v,m⟩
 ·have he:=bOd hnt;refine g2 ?_;refine j5 func99 (number_err b r hl hnt) ⟨d7,j0⟩ fun _=>?_;refine g14 ?_;refine bM (t':=false) o9 ?_;refine g6 ?_;refine wG (fun hc37=>?_) fun hc37=>?_
  ·refine g3 ?_;refine ss (k7 (pC _ _)) ?_;refine g9 ?_;exact rs3 () j0 (he:=by first | exact xT hc11 | exact yS hc11 hc15 hc19 | exact yP hc11 hc15 hc19 | exact yW hc11 hc15 hnt he | exact yH hc11 hc15 hnt | exact xS hc11 hc15 hnt hc45 | exact yB hc11 hc15 hnt hc45)
  omega
 ·skip
  refine g2 ?_;refine j5 func99 (number_none b r hl hnt) ⟨d7,j0⟩ fun _=>?_;refine g14 ?_;refine bM (t':=false) o9 ?_;refine g3 ?_;refine bM (t':=false) o9 ?_;refine g10 ?_;refine j5 func100 (sign_spec b r) j0 fun _=>?_;refine g9 ?_;refine fN (fun hc45=>?_) fun hc45=>?_
  ·refine g2 ?_;refine ss (k7 (qK)) ?_;refine g7 ?_;exact rs3 () j0 (he:=by first | exact xT hc11 | exact yS hc11 hc15 hc19 | exact yP hc11 hc15 hc19 | exact yW hc11 hc15 hnt he | exact yH hc11 hc15 hnt | exact xS hc11 hc15 hnt hc45 | exact yB hc11 hc15 hnt hc45)
  refine g6 ?_;refine ss (bDq hT (k:=(mZ (b::r))) rfl rfl rfl rfl rfl (signP_le _)) ?_;refine ss (k7 (oY _ _)) ?_;refine g7 ?_;exact rs3 () j0 (he:=by first | exact xT hc11 | exact yS hc11 hc15 hc19 | exact yP hc11 hc15 hc19 | exact yW hc11 hc15 hnt he | exact yH hc11 hc15 hnt | exact xS hc11 hc15 hnt hc45 | exact yB hc11 hc15 hnt hc45)
 have hm:=bQn hnt;dsimp only at hm;refine g2 ?_;refine j5 func99 (number_some b r hl hnt) ⟨d7,j0⟩ fun _=>?_;refine g15 ?_;refine jX (fun hg34=>?_) fun hg34=>?_
 ·refine g9 ?_;refine ss (k7 (pC _ _)) ?_;refine g9 ?_;exact rs3 () j0 (he:=by first | exact xT hc11 | exact yS hc11 hc15 hc19 | exact yP hc11 hc15 hc19 | exact yW hc11 hc15 hnt he | exact yH hc11 hc15 hnt | exact xS hc11 hc15 hnt hc45 | exact yB hc11 hc15 hnt hc45)
 omega
theorem token_err{e:Int}(b:UInt8)(r:Bs)(hl:(b::r).length≤65536)(h:fW (b::r)= .error e):cM prog 59 [.string (bs (b::r))] [] [iW] (fun _:Unit=> .tuple #[.agg #[.int .i64 (if e=32 then 2 else 0),.int .i64 0,.string (bs []),.int .i64 0],.int .i64 0,.int .i64 e]) (fun _=>[]) (fun _=>[]):=by
 have:=bNx b r hl;rw [h] at this;exact this
theorem token_ok{k v:Int}{wd:Bs}{m:Nat}(b:UInt8)(r:Bs)(hl:(b::r).length≤65536)(h:fW (b::r)= .ok (k,wd,v,m)):cM prog 59 [.string (bs (b::r))] [] [iW] (fun _:Unit=> .tuple #[.agg #[.int .i64 k,.int .i64 0,.string (bs wd),.int .i64 v],.int .i64 (m:Nat),.int .i64 0]) (fun _=>[]) (fun _=>[]):=by
 have:=bNx b r hl;rw [h] at this;exact this
end
section
open Go.RowKit Go.Proofs.Tryz
section
variable {text : Bs} {i : Nat} {b : UInt8} {r : Bs} {out : List TokV}
theorem lex_start(h:text.length≤65536):lexGo (text.drop 0).length 0 (text.drop 0) []=gK text:=by
 unfold gK;rw [if_neg n7];rfl
theorem lex_long(h:(65536:Int)<((text.length:Nat):Int)):gK text=([],(0,30)):=by
 unfold gK;rw [if_pos n7]
theorem lex_end(h:text.length≤i)(hi:lexGo (text.drop i).length i (text.drop i) out=gK text):gK text=(out,(0,0)):=by
 rw [List.drop_of_length_le h] at hi;rw [←hi];rfl
variable (hbr : text.drop i = b :: r) (hi : lexGo (text.drop i).length i (text.drop i) out = gK text)
include hbr hi
theorem bXg(hb:oS b=true):lexGo (text.drop (i+1)).length (i+1) (text.drop (i+1)) out=gK text:=by
 have e:text.drop (i+1)=r:=by rw [←List.drop_drop,hbr];rfl
 rw [hbr,pO,if_pos hb] at hi;rw [e];exact hi
theorem lex_note(hb:oS b=false)(hn:(b==35)=true):lexGo (text.drop (i+runB (· !=10) (b::r))).length (i+runB (· !=10) (b::r)) (text.drop (i+runB (· !=10) (b::r))) out=gK text:=by
 have e:text.drop (i+runB (· !=10) (b::r))=(b::r).drop (runB (· !=10) (b::r)):=by rw [←List.drop_drop,hbr]
 rw [hbr,pO,hb,if_neg o6,if_pos hn] at hi;rw [e];exact hi
theorem lex_tok{k v:Int}{wd:Bs}{m:Nat}(hb:oS b=false)(hn:(b==35)=false)(ht:fW (b::r)= .ok (k,wd,v,m)):lexGo (text.drop (i+m)).length (i+m) (text.drop (i+m)) (out++[⟨k,i,wd,v⟩])=gK text:=by
 have e:text.drop (i+m)=(b::r).drop m:=by rw [←List.drop_drop,hbr]
 rw [hbr,pO,hb,if_neg o6,hn,if_neg o6,ht] at hi;rw [e];exact hi
theorem lex_err{e:Int}(hb:oS b=false)(hn:(b==35)=false)(ht:fW (b::r)= .error e):gK text=([],((i:Int),e)):=by
 rw [hbr,pO,hb,if_neg o6,hn,if_neg o6,ht] at hi;exact hi.symm
end
theorem tok_code{s:Bs}{e:Int}(h:fW s= .error e):e≠0:=by
 cases s with
 | nil=>cases h;decide
 | cons b r=>
  simp only [fW] at h;split at h
  ·cases h
  ·split at h
   ·split at h
    ·cases h;decide
    ·cases h
   ·split at h
    ·rename_i e' he;cases h;rw [bOd he];decide
    ·cases h
    ·split at h
     ·cases h;decide
     ·cases h
theorem cY{α:Type}{E:Flat α}{F:List Fact}:Has F (E.sl (.slice none 0 0) []):=fun _ _ _=>⟨none,0,rfl,fun k x hk=>by simp at hk⟩
theorem bFo:(prog.info? 34).bind (·.zero)=some (.agg #[.int .i64 0,.int .i64 0]):=n9
theorem zS(z1:Int):prog.built 34 [(1,.int .i64 z1)]=some #[.int .i64 0,.int .i64 z1]:=n9
theorem zF(z0:Int)(z1:Int):prog.built 34 [(0,.int .i64 z0),(1,.int .i64 z1)]=some #[.int .i64 z0,.int .i64 z1]:=n9
theorem bAb:prog.built 34 []=some #[.int .i64 0,.int .i64 0]:=n9
theorem bSw(text:Bs)(hs:text.length≤140737488355328):cM prog 28 [.string (bs text)] [] [iW] (fun(x:Option Addr×Nat)=> .tuple #[.slice x.1 (gK text).1.length x.2,.agg #[.int .i64 (gK text).2.1,.int .i64 (gK text).2.2]]) (fun _=>[]) (fun(x:Option Addr×Nat)=>[mY.sl (.slice x.1 (gK text).1.length x.2) (gK text).1,Fact.pure ((gK text).1.length≤x.2)]):=by
 have hT:=fF;refine k6 func28 ntmps28 ?_;intro β hM;refine g3 ?_;refine j6 bFo fun b1=>?_;refine g8 ?_;refine cP (z':=((text.length:Nat):Int)) rfl ?_;refine g3 ?_;refine dJ (fun hc13=>?_) fun hc13=>?_
 ·refine g2 ?_;refine ss (k7 (zS _)) ?_;refine g7 ?_;have he:=lex_long hc13;rw [he];exact rs2 (none,0) ⟨cY,j3 (Nat.le_refl 0),j0⟩
 refine g8 ?_;refine cK (t:=112) mY ?_;refine g9 ?_;refine cB (ι:=Nat×List TokV×Option Addr×Nat) [(0,_),(3,_)] ⟨rfl,rfl,j0⟩ (fun⟨i,out,C,e⟩=>[(4,.slice C out.length e),(5,.int .i64 (i:Nat))]) (fun⟨i,out,C,e⟩=>[mY.row (.slice C out.length e) 112 out]) (fun⟨i,out,C,e⟩=>[Fact.pure (i≤text.length∧lexGo (text.drop i).length i (text.drop i) out=gK text∧out.length≤i)]) (fun⟨i,out,C,e⟩=>text.length-i) (0,[],none,0) ⟨rfl,rfl,j0⟩ (.c0 .nil) ⟨j3 (⟨n7,lex_start n7,o6⟩),j0⟩ ?_;rintro⟨i,out,C,e⟩;dsimp only;refine bC d7 fun hinv5=>?_;refine g6 ?_;refine cP (z':=((text.length:Nat):Int)) rfl ?_;refine g3 ?_;refine dJ (fun hc18=>?_) fun hc18=>?_
 ·refine g7 ?_;refine ss (bUw hT (k:=i) rfl rfl rfl rfl rfl n7) ?_
  obtain⟨b,r,hbr⟩: ∃b r,text.drop i=b::r:=⟨_,_,List.drop_eq_getElem_cons n7⟩
  have hbl:(b::r).length≤65536:=by rw [←hbr];simp;omega
  have hbi:i+(b::r).length=text.length:=by rw [←hbr];simp;omega
  refine lX (congrArg (fun l:Bs=>Value.string (bs l)) hbr) ?_;refine g7 ?_;refine ss (rR hT (k:=0) rfl rfl rfl rfl rfl rfl) ?_;refine g9 ?_;refine cI (fun hg27=>?_) (fun hg27=>?_)
  ·have hg27:b=32:=bQg (k:=32) (eq_of_beq hg27);refine g11 ?_;refine inc (i+1) ?_;refine g8 ?_;exact dM (i+1,_,_,_) z8 ⟨rfl,rfl,j0⟩ ⟨rfl,rfl,j0⟩ (.c0 (.c0 .nil)) ⟨j3 (⟨n7,bXg hbr hinv5.2.1 ai6,by dsimp only;omega⟩),j0⟩ (bA.drop 1)
  have hg27:b≠32:=bPn (k:=32) (beq_eq_false_iff_ne.1 hg27);refine g6 ?_;refine jA (fun hc24=>?_) fun hc24=>?_
  ·have hc24:b=9:=bQg (k:=9) (eq_of_beq hc24);refine g4 ?_;refine inc (i+1) ?_;refine g8 ?_;exact dM (i+1,_,_,_) z8 ⟨rfl,rfl,j0⟩ ⟨rfl,rfl,j0⟩ (.c0 (.c0 .nil)) ⟨j3 (⟨n7,bXg hbr hinv5.2.1 ai6,by dsimp only;omega⟩),j0⟩ (bA.drop 1)
  have hc24:b≠9:=bPn (k:=9) (beq_eq_false_iff_ne.1 hc24);refine g7 ?_;refine jA (fun hc33=>?_) fun hc33=>?_
  ·have hc33:b=35:=bQg (k:=35) (eq_of_beq hc33);refine cO ?_;have hnl:=lT (· !=10) (b::r);refine g3 ?_;refine bD func57 (bGj (b::r) n7 _ (· !=10) (bO func58 rfl rfl) line_spec) rfl rfl .nil j0 fun _=>?_;refine one ?_;refine inc (i+(runB (· !=10) (b::r))) ?_;refine g8 ?_;exact dM (i+runB (· !=10) (b::r),_,_,_) (by dsimp only;have:=bGh (p:=(· !=10)) (b:=b) (r:=r) af7;omega) ⟨rfl,rfl,j0⟩ ⟨rfl,rfl,j0⟩ (.c0 (.c0 .nil)) ⟨j3 (⟨by have:=lT (· !=10) (b::r);omega,lex_note hbr hinv5.2.1 ai6 af7,by dsimp only;omega⟩),j0⟩ (bA.drop 1)
  have hc33:b≠35:=bPn (k:=35) (beq_eq_false_iff_ne.1 hc33);refine g4 ?_
  rcases ht:fW (b::r) with e | ⟨k,wd,v,m⟩
  ·skip
   refine g2 ?_;refine j5 func59 (token_err b r hbl ht) ⟨d8,j0⟩ fun _=>?_;refine g4 ?_;refine j6 bBm fun b2=>?_;refine g12 ?_;refine wG (fun hc47=>?_) fun hc47=>?_
   ·refine g4 ?_;refine ss (k7 (zF _ _)) ?_;refine g11 ?_;have he:=lex_err hbr hinv5.2.1 ai6 af7 ht;rw [he];exact rs2 (none,0) ⟨cY,j3 (Nat.le_refl 0),j0⟩
   exact absurd hc47 (tok_code ht)
  have hm:=zC ht;dsimp only at hm;refine g2 ?_;refine j5 func59 (token_ok b r hbl ht) ⟨d8,j0⟩ fun _=>?_;refine g4 ?_;refine j6 bBm fun b3=>?_;refine g10 ?_;refine bM (t':=false) o9 ?_;refine g16 ?_;refine at_one_tok (m:=⟨_,_,_,_⟩) rfl rfl rfl rfl rfl fun b4=>?_;refine at_app_tok kT2 (bW .head rfl) rfl rfl rfl rfl rfl rfl rfl y9 fun A5 c6=>?_;refine g7 ?_;refine inc (i+m) ?_;refine g4 ?_;exact dM (i+m,_,_,_) z8 ⟨rfl,rfl,j0⟩ ⟨rfl,rfl,j0⟩ (.c0 (.c2 .nil)) ⟨j3 (⟨n7,lex_tok hbr hinv5.2.1 ai6 af7 ht,by simp;omega⟩),j0⟩ (bA.drop 1)
 refine g8 ?_;refine ss (k7 (bAb)) ?_;refine g6 ?_;have he:gK text=(out,(0,0)):=lex_end n7 hinv5.2.1;rw [he];refine bX kT1 fun hcap=>bE kT1 ?_;exact rs2 (C,e) ⟨d7,j3 hcap,j0⟩
end
section
open Go.RowKit Go.Sort Go.Proofs.Tryz
def fY (n:Int):Bs:=(if n<0 then [95] else [])++Lib.decDigits n.natAbs
theorem bDk{k:Nat}(h:k<10):cW (UInt8.ofNat (48+k))=true∧(UInt8.ofNat (48+k)).toNat=48+k:=by
 have e:(UInt8.ofNat (48+k)).toNat=48+k:=by rw [UInt8.toNat_ofNat'];omega
 refine⟨?_,e⟩;unfold cW;rw [e];simp;omega
theorem sA(u:Nat): ∀b∈Lib.decDigits u,cW b=true:=by
 induction u using Nat.strongRecOn with
 | _ u ih=>
  intro b hb;rw [Lib.decDigits] at hb;split at hb
  ·rename_i h;rw [List.mem_singleton.1 hb];exact(bDk h).1
  ·rename_i h
   rcases List.mem_append.1 hb with hb | hb
   ·exact ih (u/10) n7 b hb
   ·rw [List.mem_singleton.1 hb];exact(bDk (Nat.mod_lt _ n7)).1
theorem zD(u:Nat):Lib.decDigits u≠[]:=by
 rw [Lib.decDigits];split<;>simp
theorem bUj(d:UInt8): ∀(a:Bs) (acc:Nat),decV (a++[d]) acc=10*decV a acc+(d.toNat-48)
 | [],acc=>rfl
 | b::a,acc=>by
  show decV (a++[d]) _=_;rw [bUj d a];rfl
theorem decV_digits(u:Nat):decV (Lib.decDigits u) 0=u:=by
 induction u using Nat.strongRecOn with
 | _ u ih=>
  rw [Lib.decDigits];split
  ·rename_i h;show 10*0+((UInt8.ofNat (48+u)).toNat-48)=u;rw [(bDk h).2];omega
  ·rename_i h;rw [bUj,ih (u/10) n7,(bDk (Nat.mod_lt _ n7)).2];omega
theorem bOf{p:UInt8→Bool}: ∀s:Bs,(∀b∈s,p b=true)→runB p s=s.length
 | [],_=>rfl
 | b::s,h=>by
  rw [runB,if_pos (h b o6),bOf s fun x hx=>h x ad2];rfl
theorem nQ{b:UInt8}(h:cW b=true):b≠10∧pI b=false∧b≠95∧b≠45∧b≠35∧oS b=false∧Lib.isSp b=false∧b.toNat<128:=by
 simp only [cW,Bool.and_eq_true,decide_eq_true_eq] at h;have key: ∀k:Fin 10,(UInt8.ofNat (48+k.val)≠10∧pI (UInt8.ofNat (48+k.val))=false∧UInt8.ofNat (48+k.val)≠95∧UInt8.ofNat (48+k.val)≠45∧UInt8.ofNat (48+k.val)≠35∧oS (UInt8.ofNat (48+k.val))=false∧Lib.isSp (UInt8.ofNat (48+k.val))=false∧(UInt8.ofNat (48+k.val)).toNat<128):=by decide+kernel
 have hb:b=UInt8.ofNat (48+(b.toNat-48)):=by
  rw [show 48+(b.toNat-48)=b.toNat from by omega];simp
 have:=key ⟨b.toNat-48,n7⟩;rw [hb];exact this
theorem rV{n:Int}(h0: -9223372036854775808≤n)(h1:n≤9223372036854775807):(fY n).length≤21:=by
 have h:=Lib.nDigits_le20 n.natAbs n7;have:=Lib.decDigits_length n.natAbs;unfold fY;split<;>simp<;>omega
theorem numTok_spell{n:Int}(h0: -9223372036854775808≤n)(h1:n≤9223372036854775807){b:UInt8}{r:Bs}(h:fY n=b::r):iH b r= .ok (some (2,[],n,(b::r).length)):=by
 unfold fY at h;have hd:=sA n.natAbs;have hr:=bOf _ hd;have hv:=decV_digits n.natAbs;have hne:=zD n.natAbs;split at h
 ·rename_i hn;simp only [List.singleton_append,List.cons.injEq] at h;obtain⟨rfl,rfl⟩:=h;have hk: ¬(Lib.decDigits n.natAbs).length=0:=fun e=>hne (List.eq_nil_of_length_eq_zero e)
  have hp:uX true (Lib.decDigits n.natAbs)=some n:=by
   unfold uX;rw [hv,if_pos rfl,if_pos n7]
   congr 1
   omega
  rw [num_m0 rfl,hr,if_neg hk,List.take_of_length_le (Nat.le_refl _),hp];rfl
 ·rename_i hn;rw [List.nil_append] at h;rw [h] at hd hr hv;have hb:=(nQ (hd b o6)).2.2.1
  have hp:uX false (b::r)=some n:=by
   unfold uX;rw [hv];simp only [Bool.false_eq_true,if_false];rw [if_pos n7]
   congr 1
   omega
  rw [num_p0 hb,hr,if_neg o6,List.take_of_length_le (Nat.le_refl _),hp];rfl
theorem bOb{n:Int}{b:UInt8}{r:Bs}(h:fY n=b::r):b=95∨cW b=true:=by
 unfold fY at h;split at h
 ·simp only [List.singleton_append,List.cons.injEq] at h;exact .inl h.1.symm
 ·rw [List.nil_append] at h;exact .inr (sA n.natAbs b (by rw [h];simp))
theorem tokenP_spell{n:Int}(h0: -9223372036854775808≤n)(h1:n≤9223372036854775807):fW (fY n)= .ok (2,[],n,(fY n).length):=by
 cases hs:fY n with
 | nil=>
  unfold fY at hs;exact absurd (List.append_eq_nil_iff.1 hs).2 (zD _)
 | cons b r=>
  have hn:=numTok_spell h0 h1 hs
  have hb:b≠10∧pI b=false:=by
   rcases bOb hs with rfl | h
   ·decide
   ·exact⟨(nQ h).1,(nQ h).2.1⟩
  simp only [fW,beq_iff_eq,hb.1,if_false,hb.2,Bool.false_eq_true,hn]
theorem lexP_spell{n:Int}(h0: -9223372036854775808≤n)(h1:n≤9223372036854775807):gK (fY n)=([⟨2,0,[],n⟩],(0,0)):=by
 have hl:=rV h0 h1;have ht:=tokenP_spell h0 h1;unfold gK;rw [if_neg n7]
 cases hs:fY n with
 | nil=>
  unfold fY at hs;exact absurd (List.append_eq_nil_iff.1 hs).2 (zD _)
 | cons b r=>
  rw [hs] at ht
  have hb:oS b=false∧(b==35)=false:=by
   rcases bOb hs with rfl | h
   ·decide
   ·exact⟨(nQ h).2.2.2.2.2.1,by simp [(nQ h).2.2.2.2.1]⟩
  rw [pO,hb.1,if_neg o6,hb.2,if_neg o6,ht];simp only [List.drop_length];rfl
theorem bAw(n:Int): ∀b∈fY n,b.toNat<128∧Lib.isSp b=false∧b≠35:=fun b hb=>by
 unfold fY at hb
 rcases List.mem_append.1 hb with hb | hb
 ·split at hb
  ·rw [List.mem_singleton.1 hb];decide
  ·simp at hb
 ·have:=nQ (sA _ b hb);exact⟨this.2.2.2.2.2.2.2,this.2.2.2.2.2.2.1,this.2.2.2.2.1⟩
theorem bAj{p:UInt8→Bool}: ∀l:Bs,(∀b∈l,p b=false)→l.dropWhile p=l
 | [],_=>rfl
 | b::l,h=>by rw [List.dropWhile_cons_of_neg (by simp [h b o6])]
theorem trim_spell(n:Int):Lib.trimSpace (fY n)=fY n:=by
 have h:=bAw n;unfold Lib.trimSpace;rw [bAj _ fun b hb=>(h b hb).2.1,bAj _ fun b hb=>(h b (List.mem_reverse.1 hb)).2.1,List.reverse_reverse]
theorem hash_spell(n:Int):decide (0≤Lib.indexByte (fY n) 35)=false:=by
 rw [(tK 35 _).1]
 cases h:(fY n).contains 35 with
 | false=>rfl
 | true=>exact absurd rfl (bAw n 35 ac1).2.2
theorem bHr(u:Nat):Lib.count (Lib.decDigits u) [45]=0:=by
 rw [Lib.count_one,List.count_eq_zero];exact fun h=>(nQ (sA u _ h)).2.2.2.1 rfl
theorem replace_itoa(n:Int):Lib.replace (Lib.itoa n) [45] [95] 1=fY n:=by
 unfold Lib.replace;rw [if_neg o9];unfold Lib.itoa fY;split
 ·have hc:Lib.count (45::Lib.decDigits n.natAbs) [45]=1:=by rw [Lib.count_cons_eq,bHr]
  have hr:Lib.replaceNum (45::Lib.decDigits n.natAbs) [45] 1=1:=by
   unfold Lib.replaceNum;rw [hc];rfl
  have hi:Lib.index (45::Lib.decDigits n.natAbs) [45]=((0:Nat):Int):=by
   rw [Lib.index_one];rfl
  rw [hr,Lib.replaceK_hit _ _ _ _ 0 hi];rfl
 ·have hr:Lib.replaceNum (Lib.decDigits n.toNat) [45] 1=0:=by
   unfold Lib.replaceNum;rw [bHr];rfl
  rw [hr];have:n.toNat=n.natAbs:=n7
  rw [this];rfl
theorem itoa_len{n:Int}(h0: -9223372036854775808≤n)(h1:n≤9223372036854775807):(Lib.itoa n).length≤21:=Lib.itoa_length_le n h0 h1
theorem below_grow{w:World}(k:Nat)(os:Array Obj):Below w.heap.size w (grow (w.drewN k) os):=by
 refine⟨rfl,rfl,rfl,by simp [grow,World.drewN],fun i hi=>?_⟩;have:(w.drewN k).heap=w.heap:=rfl;simp only [grow,this,Array.getElem?_append,hi,if_true]
theorem bNr(n:Int)(h0: -9223372036854775808≤n)(h1:n≤9223372036854775807):cM prog 142 [.int .i64 n,.int .i64 10] [] [iW] (fun _:Unit=> .string (bs (Lib.itoa n))) (fun _=>[]) (fun _=>[]):=
 mM fun _ w _ k=>by
  obtain⟨_,_,h7,_⟩:=k _ (.head _);refine(Tryz.strconv_FormatInt_10 n h0 h1 w h7).mono ?_;rintro e w' ⟨rfl,q,os,rfl⟩;exact⟨rfl,below_grow q os⟩
theorem replace_spec(s:Bs)(hs:s.length≤1000):cM prog 141 [.string (bs s),.string (bs [45]),.string (bs [95]),.int .i64 1] [] [iW] (fun _:Unit=> .string (bs (Lib.replace s [45] [95] 1))) (fun _=>[]) (fun _=>[]):=
 mM fun _ w _ k=>by
  obtain⟨_,_,_,⟨m,hm⟩,_⟩:=k _ (.head _);have hc:=Lib.countB_mul_le (bs [45]) o9 (bs s).size (bs s) (Nat.le_refl _)
  refine(Tryz.strings_Replace (bs s) (bs [45]) (bs [95]) 1 m w (by rw [lU];omega) hm o9 ?_).mono fun e w' ⟨he,hb⟩=>⟨he,hb⟩
  have e1:(bs [45]).size=1:=rfl;have e2:(bs [95]).size=1:=rfl;rw [e1] at hc;rw [e2,lU] at*;omega
theorem bNq(s:Bs)(hs:s.length≤140737488355328)(ha: ∀b∈s,b.toNat<128):cM prog 143 [.string (bs s)] [] [iW] (fun _:Unit=> .string (bs (Lib.trimSpace s))) (fun _=>[]) (fun _=>[]):=
 mM fun _ w _ k=>by
  obtain⟨_,h0,_⟩:=k _ (.head _);refine(Tryz.strings_TrimSpace (bs s) w (by rw [lU];omega) (fun j b hb=>ha b (j4 hb)) h0).mono ?_;rintro e w' ⟨rfl,rfl⟩;exact⟨rfl,Joins.below_bytesWorld _ _ _ _ (Nat.le_refl _)⟩
theorem bTm(s:Bs)(c:UInt8):cM prog 144 [.string (bs s),.string (bs [c])] [] [] (fun _:Unit=> .bool (decide (0≤Lib.indexByte s c))) (fun _=>[]) (fun _=>[]):=
 bDp fun _ w _=>Tryz.strings_Contains_one (bs s) c w
end
end Go.Proofs.YtakphiannlpnfaaGreatDoor
