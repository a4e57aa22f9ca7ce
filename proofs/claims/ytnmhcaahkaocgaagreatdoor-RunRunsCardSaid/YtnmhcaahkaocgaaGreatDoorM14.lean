/- Texts of one proof, one behind the other: TysR, LitH, TysV, TysW, QA, Above, RefRight, RefGrowsK, RefA. -/
import Derived.Test.YtnmhcaahkaocgaaGreatDoorM7
import Derived.Test.YtnmhcaahkaocgaaGreatDoorM4
import Derived.Test.YtnmhcaahkaocgaaGreatDoorM13
import Derived.Test.YtnmhcaahkaocgaaGreatDoorM9
import Derived.Test.YtnmhcaahkaocgaaGreatDoorM6
import Derived.Test.YtnmhcaahkaocgaaGreatDoorRows
import Derived.WalkKit
import Derived.WalkSpells
import Derived.WalkLawsBesides
import Derived.Handy
import Derived.Deep.QuietTactic
import Derived.Deep.Light
import Derived.BigQuiet
import Derived.Test.YtnmhcaahkaocgaaGreatDoorM8
namespace Go.Proofs.YtnmhcaahkaocgaaGreatDoor
open Go.RowKit Go.ChangeShapes Go.WideShapes
section
variable {α H : Type} {enc : TypeId × Value → H} {P : Program} {w : World} {t e : TypeId}
def Ty.slicec(T:Ty α)(b:Nat):Ty (Sl α):=⟨slE α,fun s=>((T.slice b).deep s).and (bU.pure (s.list.length≤s.cap))⟩
theorem kH{deep:Sl α→bU}(hu:P.underlying t=some (.slice e))(he:oE enc P w t (slE α).cells deep):oE enc P w t (slE α).cells (fun s=>(deep s).and (bU.pure (s.list.length≤s.cap))):=fun fuel cs x h hw=>by
 obtain⟨a,e0,d⟩:=he fuel cs x h hw;refine⟨a,e0,d,?_⟩;have e0':cs=[.slice a.addr a.list.length a.cap]:=e0;show a.list.length≤a.cap
 rcases Deep.open_slice hu h with ⟨e1,_⟩ | ⟨a',len,cap,m,n,D,Pl,e1,_,hl,_⟩
 ·rw [e0'] at e1;simp only [List.cons.injEq,and_true,Value.slice.injEq] at e1;omega
 ·rw [e0'] at e1;simp only [List.cons.injEq,and_true,Value.slice.injEq] at e1;omega
end
set_option maxRecDepth 100000
section
variable {H : Type} {enc : TypeId × Value → H} {w : World}
theorem u8_of{n:Int}(h:(Lit.int .u8 n).wf=true): ∃e:UInt8,n=(e.toNat:Int):=by
 have h':0≤n∧n≤255:=bounds_u8 h;refine⟨UInt8.ofNat n.toNat,?_⟩;rw [UInt8.toNat_ofNat'];omega
theorem read_mono{fuel:Nat}{cs:List Value}{x:DataW H×List MemPlace}(h:DataW.trod enc Tryz.prog w 0 (fun _=>true) true fuel 75 cs=some x): ∃m:Mono,cs=m.cells∧(Lit.int .i64 m.n).wf=true:=by
 obtain⟨xs,n,_,_,hlen,hxl,hf⟩:=DataW.trod_struct Tryz.underlying75 h;have hc39:Tryz.prog.cellsOf 75=7:=by kernel_rfl
 have hc2:Tryz.prog.cellsOf 2=1:=by kernel_rfl
 have hc37:Tryz.prog.cellsOf 73=6:=by kernel_rfl
 have hc5:Tryz.prog.cellsOf 5=1:=by kernel_rfl
 rw [hc39] at hlen;have hxl':xs.length=2:=hxl
 match cs,hlen with
 | [a,b0,b1,b2,b3,b4,b5],_=>
  have h0:DataW.trod enc Tryz.prog w 0 (fun _=>true) true n 2 (([a,b0,b1,b2,b3,b4,b5].drop 0).take (Tryz.prog.cellsOf 2))=xs[0]?:=hf 0 _ rfl;have h1:DataW.trod enc Tryz.prog w 0 (fun _=>true) true n 73 (([a,b0,b1,b2,b3,b4,b5].drop 1).take (Tryz.prog.cellsOf 73))=xs[1]?:=hf 1 _ rfl;rw [hc2,List.getElem?_eq_getElem (by omega)] at h0;rw [hc37,List.getElem?_eq_getElem (by omega)] at h1;obtain⟨nn,e0,_,hw⟩:=DataW.trod_int Tryz.underlying2 h0;obtain⟨ys,n',_,_,_,hyl,hg⟩:=DataW.trod_array Tryz.underlying73 h1
  have g: ∀i,i<6→ ∃e:UInt8,(([b0,b1,b2,b3,b4,b5]:List Value).drop i).take 1=[.int .u8 (e.toNat:Int)]:=fun i hi=>by
   have h2:=hg i hi;rw [hc5,Nat.mul_one,List.getElem?_eq_getElem (by omega)] at h2;obtain⟨k,e1,_,hw1⟩:=DataW.trod_int Tryz.underlying5 h2;obtain⟨e,rfl⟩:=u8_of hw1;exact⟨e,e1⟩
  obtain⟨e0',g0⟩:=g 0 (by omega);obtain⟨e1',g1⟩:=g 1 (by omega);obtain⟨e2',g2⟩:=g 2 (by omega);obtain⟨e3',g3⟩:=g 3 (by omega);obtain⟨e4',g4⟩:=g 4 (by omega);obtain⟨e5',g5⟩:=g 5 (by omega);simp at e0 g0 g1 g2 g3 g4 g5;subst e0 g0 g1 g2 g3 g4 g5;exact⟨⟨nn,e0',e1',e2',e3',e4',e5'⟩,rfl,hw⟩
end
def mR:Ty Mono:=⟨bAn,fun m=>bU.pure ((Lit.int .i64 m.n).wf=true)⟩
theorem sL{H:Type}{enc:TypeId×Value→H}{w:World}:oE enc Tryz.prog w 75 mR.E.cells mR.deep:=fun fuel cs x h _=>by
 obtain⟨m,e,hw⟩:=read_mono h;exact⟨m,e,hw⟩
instance : Inhabited Mono := ⟨⟨0, 0, 0, 0, 0, 0, 0⟩⟩
def opTy:Ty OpV:=⟨opE,fun x=>(bU.pure ((Lit.int .i64 x.how).wf=true)).and ((bU.pure ((Lit.int .i64 x.k).wf=true)).and ((bU.pure ((Lit.int .i64 x.n).wf=true)).and ((((mR.slice 16)).deep x.p).and ((bU.pure ((Lit.int .u8 x.fn).wf=true)).and (bU.true)))))⟩
set_option maxRecDepth 100000 in
theorem opens_op{H:Type}{enc:TypeId×Value→H}{w:World}:oE enc Tryz.prog w 72 opE.cells opTy.deep:=fun fuel cs x h hw=>by
 obtain⟨xs,n,_,rfl,hlen,hxl,hf⟩:=DataW.trod_struct Tryz.underlying72 h;have hc:Tryz.prog.cellsOf 72=5:=by kernel_rfl
 rw [hc] at hlen;have hxl':xs.length=5:=hxl
 match cs,hlen with
 | [c0,c1,c2,c3,c4],_=>
  have h0:DataW.trod enc Tryz.prog w 0 (fun _=>true) true n 3 (([c0,c1,c2,c3,c4].drop 0).take (Tryz.prog.cellsOf 3))=xs[0]?:=hf 0 _ rfl;have h1:DataW.trod enc Tryz.prog w 0 (fun _=>true) true n 3 (([c0,c1,c2,c3,c4].drop 1).take (Tryz.prog.cellsOf 3))=xs[1]?:=hf 1 _ rfl;have h2:DataW.trod enc Tryz.prog w 0 (fun _=>true) true n 2 (([c0,c1,c2,c3,c4].drop 2).take (Tryz.prog.cellsOf 2))=xs[2]?:=hf 2 _ rfl;have h3:DataW.trod enc Tryz.prog w 0 (fun _=>true) true n 47 (([c0,c1,c2,c3,c4].drop 3).take (Tryz.prog.cellsOf 47))=xs[3]?:=hf 3 _ rfl;have h4:DataW.trod enc Tryz.prog w 0 (fun _=>true) true n 58 (([c0,c1,c2,c3,c4].drop 4).take (Tryz.prog.cellsOf 58))=xs[4]?:=hf 4 _ rfl;rw [List.getElem?_eq_getElem (by omega)] at h0;obtain⟨a0,e0,d0⟩:=(iL Tryz.underlying3) _ _ _ h0 (dA Tryz.underlying72 hw (j:=0) rfl (by rw [List.getElem?_map,List.getElem?_eq_getElem (by omega)];rfl))
  have q0:[c0]=[.int .i64 a0]:=by
   have hk:Tryz.prog.cellsOf 3=1:=by kernel_rfl
   rw [hk] at e0;exact e0
  clear e0;simp only [List.cons.injEq,and_true] at q0;rw [List.getElem?_eq_getElem (by omega)] at h1;obtain⟨a1,e1,d1⟩:=(iL Tryz.underlying3) _ _ _ h1 (dA Tryz.underlying72 hw (j:=1) rfl (by rw [List.getElem?_map,List.getElem?_eq_getElem (by omega)];rfl))
  have q1:[c1]=[.int .i64 a1]:=by
   have hk:Tryz.prog.cellsOf 3=1:=by kernel_rfl
   rw [hk] at e1;exact e1
  clear e1;simp only [List.cons.injEq,and_true] at q1;rw [List.getElem?_eq_getElem (by omega)] at h2;obtain⟨a2,e2,d2⟩:=(iL Tryz.underlying2) _ _ _ h2 (dA Tryz.underlying72 hw (j:=2) rfl (by rw [List.getElem?_map,List.getElem?_eq_getElem (by omega)];rfl))
  have q2:[c2]=[.int .i64 a2]:=by
   have hk:Tryz.prog.cellsOf 2=1:=by kernel_rfl
   rw [hk] at e2;exact e2
  clear e2;simp only [List.cons.injEq,and_true] at q2;rw [List.getElem?_eq_getElem (by omega)] at h3;obtain⟨a3,e3,d3⟩:=(fS (T:=mR) (b:=16) Tryz.underlying47 (by kernel_rfl) (by kernel_rfl) sL) _ _ _ h3 (dA Tryz.underlying72 hw (j:=3) rfl (by rw [List.getElem?_map,List.getElem?_eq_getElem (by omega)];rfl))
  have q3:[c3]=[.slice a3.addr a3.list.length a3.cap]:=by
   have hk:Tryz.prog.cellsOf 47=1:=by kernel_rfl
   rw [hk] at e3;exact e3
  clear e3;simp only [List.cons.injEq,and_true] at q3;rw [List.getElem?_eq_getElem (by omega)] at h4;obtain⟨a4,e4,d4⟩:=(iL Tryz.underlying58) _ _ _ h4 (dA Tryz.underlying72 hw (j:=4) rfl (by rw [List.getElem?_map,List.getElem?_eq_getElem (by omega)];rfl))
  have q4:[c4]=[.int .u8 a4]:=by
   have hk:Tryz.prog.cellsOf 58=1:=by kernel_rfl
   rw [hk] at e4;exact e4
  clear e4;simp only [List.cons.injEq,and_true] at q4;obtain rfl:=q0;obtain rfl:=q1;obtain rfl:=q2;obtain rfl:=q3;obtain rfl:=q4;exact⟨⟨a0,a1,a2,a3,a4⟩,rfl,d0,d1,d2,d3,d4,trivial⟩
def bufTy:Ty kX:=⟨uB,fun x=>((((mR.slice 16).slicec 24)).deep x.sides).and ((bU.pure ((Lit.int .i64 x.input).wf=true)).and (bU.true))⟩
set_option maxRecDepth 100000 in
theorem opens_buf{H:Type}{enc:TypeId×Value→H}{w:World}:oE enc Tryz.prog w 45 uB.cells bufTy.deep:=fun fuel cs x h hw=>by
 obtain⟨xs,n,_,rfl,hlen,hxl,hf⟩:=DataW.trod_struct Tryz.underlying45 h;have hc:Tryz.prog.cellsOf 45=2:=by kernel_rfl
 rw [hc] at hlen;have hxl':xs.length=2:=hxl
 match cs,hlen with
 | [c0,c1],_=>
  have h0:DataW.trod enc Tryz.prog w 0 (fun _=>true) true n 41 (([c0,c1].drop 0).take (Tryz.prog.cellsOf 41))=xs[0]?:=hf 0 _ rfl;have h1:DataW.trod enc Tryz.prog w 0 (fun _=>true) true n 3 (([c0,c1].drop 1).take (Tryz.prog.cellsOf 3))=xs[1]?:=hf 1 _ rfl;rw [List.getElem?_eq_getElem (by omega)] at h0;obtain⟨a0,e0,d0⟩:=(kH Tryz.underlying41 (fS (T:=(mR.slice 16)) (b:=24) Tryz.underlying41 (by kernel_rfl) (by kernel_rfl) (fS (T:=mR) (b:=16) Tryz.underlying47 (by kernel_rfl) (by kernel_rfl) sL))) _ _ _ h0 (dA Tryz.underlying45 hw (j:=0) rfl (by rw [List.getElem?_map,List.getElem?_eq_getElem (by omega)];rfl))
  have q0:[c0]=[.slice a0.addr a0.list.length a0.cap]:=by
   have hk:Tryz.prog.cellsOf 41=1:=by kernel_rfl
   rw [hk] at e0;exact e0
  clear e0;simp only [List.cons.injEq,and_true] at q0;rw [List.getElem?_eq_getElem (by omega)] at h1;obtain⟨a1,e1,d1⟩:=(iL Tryz.underlying3) _ _ _ h1 (dA Tryz.underlying45 hw (j:=1) rfl (by rw [List.getElem?_map,List.getElem?_eq_getElem (by omega)];rfl))
  have q1:[c1]=[.int .i64 a1]:=by
   have hk:Tryz.prog.cellsOf 3=1:=by kernel_rfl
   rw [hk] at e1;exact e1
  clear e1;simp only [List.cons.injEq,and_true] at q1;obtain rfl:=q0;obtain rfl:=q1;exact⟨⟨a0,a1⟩,rfl,d0,d1,trivial⟩
def yX:Ty fV:=⟨tU,fun x=>(bU.pure ((Lit.int .i64 x.how).wf=true)).and ((bU.pure ((Lit.int .i64 x.buf).wf=true)).and ((((mR.slice 16)).deep x.at_).and (((((mR.slice 16).slicec 24)).deep x.loops).and ((bU.pure ((Lit.int .u8 x.fn).wf=true)).and ((((opTy.slicec 56)).deep x.ops).and (bU.true))))))⟩
set_option maxRecDepth 100000 in
theorem opens_step{H:Type}{enc:TypeId×Value→H}{w:World}:oE enc Tryz.prog w 61 tU.cells yX.deep:=fun fuel cs x h hw=>by
 obtain⟨xs,n,_,rfl,hlen,hxl,hf⟩:=DataW.trod_struct Tryz.underlying61 h;have hc:Tryz.prog.cellsOf 61=6:=by kernel_rfl
 rw [hc] at hlen;have hxl':xs.length=6:=hxl
 match cs,hlen with
 | [c0,c1,c2,c3,c4,c5],_=>
  have h0:DataW.trod enc Tryz.prog w 0 (fun _=>true) true n 3 (([c0,c1,c2,c3,c4,c5].drop 0).take (Tryz.prog.cellsOf 3))=xs[0]?:=hf 0 _ rfl;have h1:DataW.trod enc Tryz.prog w 0 (fun _=>true) true n 3 (([c0,c1,c2,c3,c4,c5].drop 1).take (Tryz.prog.cellsOf 3))=xs[1]?:=hf 1 _ rfl;have h2:DataW.trod enc Tryz.prog w 0 (fun _=>true) true n 47 (([c0,c1,c2,c3,c4,c5].drop 2).take (Tryz.prog.cellsOf 47))=xs[2]?:=hf 2 _ rfl;have h3:DataW.trod enc Tryz.prog w 0 (fun _=>true) true n 41 (([c0,c1,c2,c3,c4,c5].drop 3).take (Tryz.prog.cellsOf 41))=xs[3]?:=hf 3 _ rfl;have h4:DataW.trod enc Tryz.prog w 0 (fun _=>true) true n 58 (([c0,c1,c2,c3,c4,c5].drop 4).take (Tryz.prog.cellsOf 58))=xs[4]?:=hf 4 _ rfl;have h5:DataW.trod enc Tryz.prog w 0 (fun _=>true) true n 59 (([c0,c1,c2,c3,c4,c5].drop 5).take (Tryz.prog.cellsOf 59))=xs[5]?:=hf 5 _ rfl;rw [List.getElem?_eq_getElem (by omega)] at h0;obtain⟨a0,e0,d0⟩:=(iL Tryz.underlying3) _ _ _ h0 (dA Tryz.underlying61 hw (j:=0) rfl (by rw [List.getElem?_map,List.getElem?_eq_getElem (by omega)];rfl))
  have q0:[c0]=[.int .i64 a0]:=by
   have hk:Tryz.prog.cellsOf 3=1:=by kernel_rfl
   rw [hk] at e0;exact e0
  clear e0;simp only [List.cons.injEq,and_true] at q0;rw [List.getElem?_eq_getElem (by omega)] at h1;obtain⟨a1,e1,d1⟩:=(iL Tryz.underlying3) _ _ _ h1 (dA Tryz.underlying61 hw (j:=1) rfl (by rw [List.getElem?_map,List.getElem?_eq_getElem (by omega)];rfl))
  have q1:[c1]=[.int .i64 a1]:=by
   have hk:Tryz.prog.cellsOf 3=1:=by kernel_rfl
   rw [hk] at e1;exact e1
  clear e1;simp only [List.cons.injEq,and_true] at q1;rw [List.getElem?_eq_getElem (by omega)] at h2;obtain⟨a2,e2,d2⟩:=(fS (T:=mR) (b:=16) Tryz.underlying47 (by kernel_rfl) (by kernel_rfl) sL) _ _ _ h2 (dA Tryz.underlying61 hw (j:=2) rfl (by rw [List.getElem?_map,List.getElem?_eq_getElem (by omega)];rfl))
  have q2:[c2]=[.slice a2.addr a2.list.length a2.cap]:=by
   have hk:Tryz.prog.cellsOf 47=1:=by kernel_rfl
   rw [hk] at e2;exact e2
  clear e2;simp only [List.cons.injEq,and_true] at q2;rw [List.getElem?_eq_getElem (by omega)] at h3;obtain⟨a3,e3,d3⟩:=(kH Tryz.underlying41 (fS (T:=(mR.slice 16)) (b:=24) Tryz.underlying41 (by kernel_rfl) (by kernel_rfl) (fS (T:=mR) (b:=16) Tryz.underlying47 (by kernel_rfl) (by kernel_rfl) sL))) _ _ _ h3 (dA Tryz.underlying61 hw (j:=3) rfl (by rw [List.getElem?_map,List.getElem?_eq_getElem (by omega)];rfl))
  have q3:[c3]=[.slice a3.addr a3.list.length a3.cap]:=by
   have hk:Tryz.prog.cellsOf 41=1:=by kernel_rfl
   rw [hk] at e3;exact e3
  clear e3;simp only [List.cons.injEq,and_true] at q3;rw [List.getElem?_eq_getElem (by omega)] at h4;obtain⟨a4,e4,d4⟩:=(iL Tryz.underlying58) _ _ _ h4 (dA Tryz.underlying61 hw (j:=4) rfl (by rw [List.getElem?_map,List.getElem?_eq_getElem (by omega)];rfl))
  have q4:[c4]=[.int .u8 a4]:=by
   have hk:Tryz.prog.cellsOf 58=1:=by kernel_rfl
   rw [hk] at e4;exact e4
  clear e4;simp only [List.cons.injEq,and_true] at q4;rw [List.getElem?_eq_getElem (by omega)] at h5;obtain⟨a5,e5,d5⟩:=(kH Tryz.underlying59 (fS (T:=opTy) (b:=56) Tryz.underlying59 (by kernel_rfl) (by kernel_rfl) opens_op)) _ _ _ h5 (dA Tryz.underlying61 hw (j:=5) rfl (by rw [List.getElem?_map,List.getElem?_eq_getElem (by omega)];rfl))
  have q5:[c5]=[.slice a5.addr a5.list.length a5.cap]:=by
   have hk:Tryz.prog.cellsOf 59=1:=by kernel_rfl
   rw [hk] at e5;exact e5
  clear e5;simp only [List.cons.injEq,and_true] at q5;obtain rfl:=q0;obtain rfl:=q1;obtain rfl:=q2;obtain rfl:=q3;obtain rfl:=q4;obtain rfl:=q5;exact⟨⟨a0,a1,a2,a3,a4,a5⟩,rfl,d0,d1,d2,d3,d4,d5,trivial⟩
def coreTy:Ty iN:=⟨coreE,fun x=>(bU.pure ((Lit.int .i64 x.vars).wf=true)).and ((((bufTy.slicec 32)).deep x.bufs).and ((((yX.slicec 96)).deep x.steps).and ((((vP.slicec 8)).deep x.outs).and (bU.true))))⟩
set_option maxRecDepth 100000 in
theorem opens_core{H:Type}{enc:TypeId×Value→H}{w:World}:oE enc Tryz.prog w 31 coreE.cells coreTy.deep:=fun fuel cs x h hw=>by
 obtain⟨xs,n,_,rfl,hlen,hxl,hf⟩:=DataW.trod_struct Tryz.underlying31 h;have hc:Tryz.prog.cellsOf 31=4:=by kernel_rfl
 rw [hc] at hlen;have hxl':xs.length=4:=hxl
 match cs,hlen with
 | [c0,c1,c2,c3],_=>
  have h0:DataW.trod enc Tryz.prog w 0 (fun _=>true) true n 3 (([c0,c1,c2,c3].drop 0).take (Tryz.prog.cellsOf 3))=xs[0]?:=hf 0 _ rfl;have h1:DataW.trod enc Tryz.prog w 0 (fun _=>true) true n 27 (([c0,c1,c2,c3].drop 1).take (Tryz.prog.cellsOf 27))=xs[1]?:=hf 1 _ rfl;have h2:DataW.trod enc Tryz.prog w 0 (fun _=>true) true n 28 (([c0,c1,c2,c3].drop 2).take (Tryz.prog.cellsOf 28))=xs[2]?:=hf 2 _ rfl;have h3:DataW.trod enc Tryz.prog w 0 (fun _=>true) true n 29 (([c0,c1,c2,c3].drop 3).take (Tryz.prog.cellsOf 29))=xs[3]?:=hf 3 _ rfl;rw [List.getElem?_eq_getElem (by omega)] at h0;obtain⟨a0,e0,d0⟩:=(iL Tryz.underlying3) _ _ _ h0 (dA Tryz.underlying31 hw (j:=0) rfl (by rw [List.getElem?_map,List.getElem?_eq_getElem (by omega)];rfl))
  have q0:[c0]=[.int .i64 a0]:=by
   have hk:Tryz.prog.cellsOf 3=1:=by kernel_rfl
   rw [hk] at e0;exact e0
  clear e0;simp only [List.cons.injEq,and_true] at q0;rw [List.getElem?_eq_getElem (by omega)] at h1;obtain⟨a1,e1,d1⟩:=(kH Tryz.underlying27 (fS (T:=bufTy) (b:=32) Tryz.underlying27 (by kernel_rfl) (by kernel_rfl) opens_buf)) _ _ _ h1 (dA Tryz.underlying31 hw (j:=1) rfl (by rw [List.getElem?_map,List.getElem?_eq_getElem (by omega)];rfl))
  have q1:[c1]=[.slice a1.addr a1.list.length a1.cap]:=by
   have hk:Tryz.prog.cellsOf 27=1:=by kernel_rfl
   rw [hk] at e1;exact e1
  clear e1;simp only [List.cons.injEq,and_true] at q1;rw [List.getElem?_eq_getElem (by omega)] at h2;obtain⟨a2,e2,d2⟩:=(kH Tryz.underlying28 (fS (T:=yX) (b:=96) Tryz.underlying28 (by kernel_rfl) (by kernel_rfl) opens_step)) _ _ _ h2 (dA Tryz.underlying31 hw (j:=2) rfl (by rw [List.getElem?_map,List.getElem?_eq_getElem (by omega)];rfl))
  have q2:[c2]=[.slice a2.addr a2.list.length a2.cap]:=by
   have hk:Tryz.prog.cellsOf 28=1:=by kernel_rfl
   rw [hk] at e2;exact e2
  clear e2;simp only [List.cons.injEq,and_true] at q2;rw [List.getElem?_eq_getElem (by omega)] at h3;obtain⟨a3,e3,d3⟩:=(kH Tryz.underlying29 (fS (T:=vP) (b:=8) Tryz.underlying29 (by kernel_rfl) (by kernel_rfl) (iL Tryz.underlying3))) _ _ _ h3 (dA Tryz.underlying31 hw (j:=3) rfl (by rw [List.getElem?_map,List.getElem?_eq_getElem (by omega)];rfl))
  have q3:[c3]=[.slice a3.addr a3.list.length a3.cap]:=by
   have hk:Tryz.prog.cellsOf 29=1:=by kernel_rfl
   rw [hk] at e3;exact e3
  clear e3;simp only [List.cons.injEq,and_true] at q3;obtain rfl:=q0;obtain rfl:=q1;obtain rfl:=q2;obtain rfl:=q3;exact⟨⟨a0,a1,a2,a3⟩,rfl,d0,d1,d2,d3,trivial⟩
section
variable {S : Nat → Prop} {w : World}
theorem pol_of{p:PolV}(h:((mR.slice 16).deep p).p S w):(lS p).p S w:=by
 obtain⟨⟨c1,c2⟩,c3⟩:=h;have c3:p.list.length*16≤140737488355328:=c3;exact⟨c1,by show p.list.length≤8796093022208;omega⟩
theorem list_of{l:Sl PolV}(h:(((mR.slice 16).slicec 24).deep l).p S w):(mD l).p S w:=by
 obtain⟨⟨⟨a1,a2⟩,a3⟩,a4⟩:=h;exact⟨⟨a1,fun p hp=>pol_of (a2 p hp)⟩,a4,a3⟩
theorem op_of{o:OpV}(h:(opTy.deep o).p S w):(opF o).p S w:=pol_of h.2.2.2.1
theorem ops_of{l:Sl OpV}(h:((opTy.slicec 56).deep l).p S w):(bDg l).p S w:=by
 obtain⟨⟨⟨a1,a2⟩,a3⟩,a4⟩:=h;exact⟨⟨a1,fun p hp=>op_of (a2 p hp)⟩,a4,a3⟩
theorem buf_of{b:kX}(h:(bufTy.deep b).p S w):(bufF b).p S w:=list_of h.1
theorem bufs_of{l:Sl kX}(h:((bufTy.slicec 32).deep l).p S w):(bufsF l).p S w:=by
 obtain⟨⟨⟨a1,a2⟩,a3⟩,a4⟩:=h;exact⟨⟨a1,fun p hp=>buf_of (a2 p hp)⟩,a4,a3⟩
theorem step_of{s:fV}(h:(yX.deep s).p S w):(kB s).p S w:=⟨pol_of h.2.2.1,list_of h.2.2.2.1,ops_of h.2.2.2.2.2.1⟩
theorem steps_of{l:Sl fV}(h:((yX.slicec 96).deep l).p S w):(bEp l).p S w:=by
 obtain⟨⟨⟨a1,a2⟩,a3⟩,a4⟩:=h;exact⟨⟨a1,fun p hp=>step_of (a2 p hp)⟩,a4,a3⟩
theorem bBs{l:Sl Int}(h:((vP.slicec 8).deep l).p S w):(xK l).p S w:=by
 obtain⟨⟨⟨a1,a2⟩,a3⟩,a4⟩:=h;exact⟨a1,a4,a3⟩
theorem core_of{c:iN}(h:(coreTy.deep c).p S w):(lY c).p S w:=⟨bufs_of h.2.1,steps_of h.2.2.1,bBs h.2.2.2.1⟩
end
end Go.Proofs.YtnmhcaahkaocgaaGreatDoor
namespace Go.Proofs.YtnmhcaahkaocgaaGreatDoor
open Go.RowKit
end Go.Proofs.YtnmhcaahkaocgaaGreatDoor
namespace Go.Proofs.YtnmhcaahkaocgaaGreatDoor
open Go.RowKit
structure CasV where
 c:iN
 dims:(Sl Int)
 ins:(Sl ArrV)
 deriving Inhabited
def casE:Flat CasV where
 size:=6
 cells:=fun x=>[.int .i64 x.c.vars,.slice x.c.bufs.addr x.c.bufs.list.length x.c.bufs.cap,.slice x.c.steps.addr x.c.steps.list.length x.c.steps.cap,.slice x.c.outs.addr x.c.outs.list.length x.c.outs.cap,.slice x.dims.addr x.dims.list.length x.dims.cap,.slice x.ins.addr x.ins.list.length x.ins.cap]
 len:=fun _=>rfl
 one:=fun x u hu=>by
  simp at hu
  rcases hu with rfl | rfl | rfl | rfl | rfl | rfl<;>rfl
 pos:=by decide
def casT:Tab:=[(3,⟨.int .i64,1⟩),(2,⟨.int .i64,1⟩),(5,⟨.int .u8,1⟩),(4,⟨.bool,1⟩),(58,⟨.int .u8,1⟩),(32,⟨.int .i64,1⟩),(47,⟨.slice 75,1⟩),(41,⟨.slice 47,1⟩),(72,⟨.struct [(3,0),(3,1),(2,2),(47,3),(58,4)],5⟩),(59,⟨.slice 72,1⟩),(45,⟨.struct [(41,0),(3,1)],2⟩),(27,⟨.slice 45,1⟩),(61,⟨.struct [(3,0),(3,1),(47,2),(41,3),(58,4),(59,5)],6⟩),(28,⟨.slice 61,1⟩),(29,⟨.slice 3,1⟩),(57,⟨.slice 4,1⟩),(31,⟨.struct [(3,0),(27,1),(28,2),(29,3)],4⟩),(114,⟨.struct [(3,0),(3,1),(3,2),(57,3)],4⟩),(63,⟨.slice 2,1⟩),(123,⟨.slice 63,1⟩),(77,⟨.struct [(63,0),(63,1)],2⟩),(64,⟨.slice 77,1⟩),(125,⟨.struct [(31,0),(63,4),(123,5),(2,6),(63,7)],8⟩),(132,⟨.struct [(31,0),(63,4),(123,5),(2,6)],7⟩),(66,⟨.struct [(31,0),(63,4),(64,5)],6⟩),(111,⟨.array 64 4,64⟩),(75,⟨.struct [(2,0),(73,1)],7⟩),(73,⟨.array 6 5,6⟩),(224,⟨.slice 5,1⟩),(304,⟨.int .u64,1⟩),(112,⟨.other,1⟩),(177,⟨.other,1⟩),(118,⟨.other,1⟩),(181,⟨.other,1⟩),(122,⟨.other,1⟩),(130,⟨.other,1⟩),(195,⟨.other,1⟩),(189,⟨.other,1⟩),(277,⟨.int .u64,1⟩),(368,⟨.other,1⟩)]
theorem casT_ok:gC Tryz.prog casT:=tO.ok
 ⟨⟨by rw [Tryz.underlying3];rfl,by kernel_rfl⟩,
  ⟨by rw [Tryz.underlying2];rfl,by kernel_rfl⟩,
  ⟨by rw [Tryz.underlying5];rfl,by kernel_rfl⟩,
  ⟨by rw [Tryz.underlying4];rfl,by kernel_rfl⟩,
  ⟨by rw [Tryz.underlying58];rfl,by kernel_rfl⟩,
  ⟨by rw [Tryz.underlying32];rfl,by kernel_rfl⟩,
  ⟨by rw [Tryz.underlying47];rfl,by kernel_rfl⟩,
  ⟨by rw [Tryz.underlying41];rfl,by kernel_rfl⟩,
  ⟨by rw [Tryz.underlying72];rfl,by kernel_rfl⟩,
  ⟨by rw [Tryz.underlying59];rfl,by kernel_rfl⟩,
  ⟨by rw [Tryz.underlying45];rfl,by kernel_rfl⟩,
  ⟨by rw [Tryz.underlying27];rfl,by kernel_rfl⟩,
  ⟨by rw [Tryz.underlying61];rfl,by kernel_rfl⟩,
  ⟨by rw [Tryz.underlying28];rfl,by kernel_rfl⟩,
  ⟨by rw [Tryz.underlying29];rfl,by kernel_rfl⟩,
  ⟨by rw [Tryz.underlying57];rfl,by kernel_rfl⟩,
  ⟨by rw [Tryz.underlying31];rfl,by kernel_rfl⟩,
  ⟨by rw [Tryz.underlying114];rfl,by kernel_rfl⟩,
  ⟨by rw [Tryz.underlying63];rfl,by kernel_rfl⟩,
  ⟨by rw [Tryz.underlying123];rfl,by kernel_rfl⟩,
  ⟨by rw [Tryz.underlying77];rfl,by kernel_rfl⟩,
  ⟨by rw [Tryz.underlying64];rfl,by kernel_rfl⟩,
  ⟨by rw [Tryz.underlying125];rfl,by kernel_rfl⟩,
  ⟨by rw [Tryz.underlying132];rfl,by kernel_rfl⟩,
  ⟨by rw [Tryz.underlying66];rfl,by kernel_rfl⟩,
  ⟨by rw [Tryz.underlying111];rfl,by kernel_rfl⟩,
  ⟨by rw [Tryz.underlying75];rfl,by kernel_rfl⟩,
  ⟨by rw [Tryz.underlying73];rfl,by kernel_rfl⟩,
  ⟨by rw [Tryz.underlying224];rfl,by kernel_rfl⟩,
  ⟨by rw [Tryz.underlying304];rfl,by kernel_rfl⟩,
  ⟨by rw [Tryz.underlying112];rfl,by kernel_rfl⟩,
  ⟨by rw [Tryz.underlying177];rfl,by kernel_rfl⟩,
  ⟨by rw [Tryz.underlying118];rfl,by kernel_rfl⟩,
  ⟨by rw [Tryz.underlying181];rfl,by kernel_rfl⟩,
  ⟨by rw [Tryz.underlying122];rfl,by kernel_rfl⟩,
  ⟨by rw [Tryz.underlying130];rfl,by kernel_rfl⟩,
  ⟨by rw [Tryz.underlying195];rfl,by kernel_rfl⟩,
  ⟨by rw [Tryz.underlying189];rfl,by kernel_rfl⟩,
  ⟨by rw [Tryz.underlying277];rfl,by kernel_rfl⟩,
  ⟨by rw [Tryz.underlying368];rfl,by kernel_rfl⟩,trivial⟩
def arrsF (l:Sl ArrV):bU:=((jQ.sl (.slice l.addr l.list.length l.cap) l.list).and (bU.each l.list uI)).and (wR 48 l)
section
variable {F : List bU} {l : Sl ArrV}
theorem arrsF_s(h:Has F (arrsF l)):Has F (jQ.sl (.slice l.addr l.list.length l.cap) l.list):=h.left.left
theorem arrsF_e(h:Has F (arrsF l)):Has F (bU.each l.list uI):=h.left.right
end
end Go.Proofs.YtnmhcaahkaocgaaGreatDoor
namespace Go.Proofs.YtnmhcaahkaocgaaGreatDoor
open Go.RowKit Go.ChangeShapes Go.WideShapes
def bIz:Ty ArrV:=⟨jQ,fun x=>(((vP.slicec 8)).deep x.sides).and ((((vP.slicec 8)).deep x.data).and (bU.true))⟩
set_option maxRecDepth 100000 in
theorem opens_arr{H:Type}{enc:TypeId×Value→H}{w:World}:oE enc Tryz.prog w 77 jQ.cells bIz.deep:=fun fuel cs x h hw=>by
 obtain⟨xs,n,_,rfl,hlen,hxl,hf⟩:=DataW.trod_struct Tryz.underlying77 h;have hc:Tryz.prog.cellsOf 77=2:=by kernel_rfl
 rw [hc] at hlen;have hxl':xs.length=2:=hxl
 match cs,hlen with
 | [c0,c1],_=>
  have h0:DataW.trod enc Tryz.prog w 0 (fun _=>true) true n 63 (([c0,c1].drop 0).take (Tryz.prog.cellsOf 63))=xs[0]?:=hf 0 _ rfl;have h1:DataW.trod enc Tryz.prog w 0 (fun _=>true) true n 63 (([c0,c1].drop 1).take (Tryz.prog.cellsOf 63))=xs[1]?:=hf 1 _ rfl;rw [List.getElem?_eq_getElem (by omega)] at h0;obtain⟨a0,e0,d0⟩:=(kH Tryz.underlying63 (fS (T:=vP) (b:=8) Tryz.underlying63 (by kernel_rfl) (by kernel_rfl) (iL Tryz.underlying2))) _ _ _ h0 (dA Tryz.underlying77 hw (j:=0) rfl (by rw [List.getElem?_map,List.getElem?_eq_getElem (by omega)];rfl))
  have q0:[c0]=[.slice a0.addr a0.list.length a0.cap]:=by
   have hk:Tryz.prog.cellsOf 63=1:=by kernel_rfl
   rw [hk] at e0;exact e0
  clear e0;simp only [List.cons.injEq,and_true] at q0;rw [List.getElem?_eq_getElem (by omega)] at h1;obtain⟨a1,e1,d1⟩:=(kH Tryz.underlying63 (fS (T:=vP) (b:=8) Tryz.underlying63 (by kernel_rfl) (by kernel_rfl) (iL Tryz.underlying2))) _ _ _ h1 (dA Tryz.underlying77 hw (j:=1) rfl (by rw [List.getElem?_map,List.getElem?_eq_getElem (by omega)];rfl))
  have q1:[c1]=[.slice a1.addr a1.list.length a1.cap]:=by
   have hk:Tryz.prog.cellsOf 63=1:=by kernel_rfl
   rw [hk] at e1;exact e1
  clear e1;simp only [List.cons.injEq,and_true] at q1;obtain rfl:=q0;obtain rfl:=q1;exact⟨⟨a0,a1⟩,rfl,d0,d1,trivial⟩
def casTy:Ty CasV:=⟨casE,fun x=>(coreTy.deep x.c).and ((((vP.slicec 8)).deep x.dims).and ((((bIz.slicec 48)).deep x.ins).and (bU.true)))⟩
set_option maxRecDepth 100000 in
theorem opens_cas{H:Type}{enc:TypeId×Value→H}{w:World}:oE enc Tryz.prog w 66 casE.cells casTy.deep:=fun fuel cs x h hw=>by
 obtain⟨xs,n,_,rfl,hlen,hxl,hf⟩:=DataW.trod_struct Tryz.underlying66 h;have hc:Tryz.prog.cellsOf 66=6:=by kernel_rfl
 rw [hc] at hlen;have hxl':xs.length=3:=hxl
 match cs,hlen with
 | [c0,c1,c2,c3,c4,c5],_=>
  have h0:DataW.trod enc Tryz.prog w 0 (fun _=>true) true n 31 (([c0,c1,c2,c3,c4,c5].drop 0).take (Tryz.prog.cellsOf 31))=xs[0]?:=hf 0 _ rfl;have h1:DataW.trod enc Tryz.prog w 0 (fun _=>true) true n 63 (([c0,c1,c2,c3,c4,c5].drop 4).take (Tryz.prog.cellsOf 63))=xs[1]?:=hf 1 _ rfl;have h2:DataW.trod enc Tryz.prog w 0 (fun _=>true) true n 64 (([c0,c1,c2,c3,c4,c5].drop 5).take (Tryz.prog.cellsOf 64))=xs[2]?:=hf 2 _ rfl;rw [List.getElem?_eq_getElem (by omega)] at h0;obtain⟨a0,e0,d0⟩:=opens_core _ _ _ h0 (dA Tryz.underlying66 hw (j:=0) rfl (by rw [List.getElem?_map,List.getElem?_eq_getElem (by omega)];rfl))
  have q0:[c0,c1,c2,c3]=[.int .i64 a0.vars,.slice a0.bufs.addr a0.bufs.list.length a0.bufs.cap,.slice a0.steps.addr a0.steps.list.length a0.steps.cap,.slice a0.outs.addr a0.outs.list.length a0.outs.cap]:=by
   have hk:Tryz.prog.cellsOf 31=4:=by kernel_rfl
   rw [hk] at e0;exact e0
  clear e0;simp only [List.cons.injEq,and_true] at q0;rw [List.getElem?_eq_getElem (by omega)] at h1;obtain⟨a1,e1,d1⟩:=(kH Tryz.underlying63 (fS (T:=vP) (b:=8) Tryz.underlying63 (by kernel_rfl) (by kernel_rfl) (iL Tryz.underlying2))) _ _ _ h1 (dA Tryz.underlying66 hw (j:=1) rfl (by rw [List.getElem?_map,List.getElem?_eq_getElem (by omega)];rfl))
  have q1:[c4]=[.slice a1.addr a1.list.length a1.cap]:=by
   have hk:Tryz.prog.cellsOf 63=1:=by kernel_rfl
   rw [hk] at e1;exact e1
  clear e1;simp only [List.cons.injEq,and_true] at q1;rw [List.getElem?_eq_getElem (by omega)] at h2;obtain⟨a2,e2,d2⟩:=(kH Tryz.underlying64 (fS (T:=bIz) (b:=48) Tryz.underlying64 (by kernel_rfl) (by kernel_rfl) opens_arr)) _ _ _ h2 (dA Tryz.underlying66 hw (j:=2) rfl (by rw [List.getElem?_map,List.getElem?_eq_getElem (by omega)];rfl))
  have q2:[c5]=[.slice a2.addr a2.list.length a2.cap]:=by
   have hk:Tryz.prog.cellsOf 64=1:=by kernel_rfl
   rw [hk] at e2;exact e2
  clear e2;simp only [List.cons.injEq,and_true] at q2;obtain⟨rfl,rfl,rfl,rfl⟩:=q0;obtain rfl:=q1;obtain rfl:=q2;exact⟨⟨a0,a1,a2⟩,rfl,d0,d1,d2,trivial⟩
section
variable {S : Nat → Prop} {w : World}
theorem arr_of{y:ArrV}(h:(bIz.deep y).p S w):(uI y).p S w:=⟨bBs h.1,bBs h.2.1⟩
theorem arrs_of{l:Sl ArrV}(h:((bIz.slicec 48).deep l).p S w):(arrsF l).p S w:=by
 obtain⟨⟨⟨a1,a2⟩,a3⟩,a4⟩:=h;exact⟨⟨a1,fun p hp=>arr_of (a2 p hp)⟩,a4,a3⟩
theorem cas_of{x:CasV}(h:(casTy.deep x).p S w):(lY x.c).p S w∧(xK x.dims).p S w∧(arrsF x.ins).p S w:=⟨core_of h.1,bBs h.2.1,arrs_of h.2.2.1⟩
end
end Go.Proofs.YtnmhcaahkaocgaaGreatDoor
namespace Go.Proofs.YtnmhcaahkaocgaaGreatDoor
def I64 (z:Int):Prop:= -9223372036854775808≤z∧z<9223372036854775808
theorem sS(z:Int):I64 (w64 z)∧ ∃k:Int,w64 z=z-18446744073709551616*k:=by
 unfold I64;simp only [IntKind.wrap,IntKind.signed,IntKind.bits];simp;split
 ·refine⟨by omega,z/18446744073709551616+1,by omega⟩
 ·refine⟨by omega,z/18446744073709551616,by omega⟩
theorem w64_in{z:Int}(h:I64 z):w64 z=z:=by
 obtain⟨h1,k,h2⟩:=sS z;unfold I64 at*;omega
theorem w64_eq{x y k:Int}(h:x=y-18446744073709551616*k):w64 x=w64 y:=by
 obtain⟨h1,k1,h2⟩:=sS x;obtain⟨h3,k2,h4⟩:=sS y;unfold I64 at*;omega
def kP (a b:Int):Int:=if b= -1 then w64 (-a) else if a.tmod b≠0∧decide (a<0)≠decide (b<0) then w64 (w64 (a.tdiv b)-1) else w64 (a.tdiv b)
theorem zB{a b:Int}(h:a.tmod b≠0):(a.tmod b<0↔a<0):=by
 constructor
 ·intro h1
  by_cases h2:a<0
  ·exact h2
  ·have:=Int.tmod_nonneg b (by omega:0≤a);omega
 ·intro h1;have h3:(-a).tmod b= -(a.tmod b):=Int.neg_tmod a b;have:=Int.tmod_nonneg b (by omega:0≤ -a);omega
theorem yO{a b:Int}(hb:b≠0):(a.tmod b).natAbs<b.natAbs:=by
 rw [Int.natAbs_tmod];exact Nat.mod_lt _ (by omega)
theorem rest_in{a b:Int}(hb:b≠0)(h:I64 b):mM a b=if a.tmod b≠0∧decide (a<0)≠decide (b<0) then a.tmod b+b else a.tmod b:=by
 have hl:=yO (a:=a) hb;unfold mM
 by_cases h0:a.tmod b=0
 ·rw [if_neg (fun e=>e.1 h0),if_neg (fun e=>e.1 h0)]
 ·have hs:=zB h0;have e:decide (a.tmod b<0)=decide (a<0):=by simp [hs]
  rw [e];split
  ·rename_i h1;refine w64_in ?_;unfold I64 at*;have h2: ¬((a<0)↔(b<0)):=fun q=>h1.2 (by simp [q]);omega
  ·rfl
theorem floor_div{a b:Int}(hb:b≠0)(h:I64 b):kP a b=divW a b:=by
 unfold kP divW;have hl:=yO (a:=a) hb;rw [rest_in hb h]
 by_cases h1:b= -1
 ·subst h1
  have h0:a.tmod (-1)=0:=by
   have:(a.tmod (-1)).natAbs<1:=hl;omega
  rw [if_pos rfl,h0];simp
 ·rw [if_neg h1]
  by_cases h2:a.tmod b≠0∧decide (a<0)≠decide (b<0)
  ·rw [if_pos h2,if_pos h2,if_pos (by omega)]
  ·rw [if_neg h2,if_neg h2,if_neg (by simp)]
theorem floor_k{a b:Int}(hb:b≠0)(h:I64 b): ∃k:Int,a-b*kP a b=mM a b+18446744073709551616*k:=by
 have hl:=yO (a:=a) hb;have hm:a=b*a.tdiv b+a.tmod b:=(Int.mul_tdiv_add_tmod a b).symm;rw [rest_in hb h];unfold kP
 by_cases h1:b= -1
 ·subst h1
  have h0:a.tmod (-1)=0:=by
   have:(a.tmod (-1)).natAbs<1:=hl;omega
  rw [if_pos rfl,h0,if_neg (by simp)];obtain⟨_,k,h3⟩:=sS (-a);exact⟨-k,by omega⟩
 ·rw [if_neg h1];obtain⟨_,k,h3⟩:=sS (a.tdiv b)
  by_cases h2:a.tmod b≠0∧decide (a<0)≠decide (b<0)
  ·rw [if_pos h2,if_pos h2];obtain⟨_,k2,h4⟩:=sS (w64 (a.tdiv b)-1);refine⟨b*(k+k2),?_⟩;rw [h4,h3]
   have:b*(a.tdiv b-18446744073709551616*k-1-18446744073709551616*k2)=b*a.tdiv b-b-18446744073709551616*(b*(k+k2)):=by
    rw [Int.mul_add,Int.mul_sub,Int.mul_sub,Int.mul_sub,Int.mul_left_comm,Int.mul_left_comm b 18446744073709551616 k2];omega
   rw [this];omega
  ·rw [if_neg h2,if_neg h2];refine⟨b*k,?_⟩;rw [h3]
   have:b*(a.tdiv b-18446744073709551616*k)=b*a.tdiv b-18446744073709551616*(b*k):=by
    rw [Int.mul_sub,Int.mul_left_comm]
   rw [this];omega
theorem rest_I{a b:Int}(hb:b≠0)(h:I64 b)(ha:I64 a):I64 (mM a b):=by
 have hl:=yO (a:=a) hb;rw [rest_in hb h];unfold I64 at*;split
 ·rename_i h1;have h0:=zB h1.1;have h2: ¬((a<0)↔(b<0)):=fun q=>h1.2 (by simp [q]);omega
 ·have h3:(a.tmod b).natAbs≤a.natAbs:=by
   rw [Int.natAbs_tmod];exact Nat.mod_le _ _
  by_cases h0:a.tmod b=0
  ·omega
  ·have:=zB h0;omega
theorem residue_is{a b:Int}(ha:a≠0)(h:I64 a)(hb:I64 b):w64 (b-w64 (a*kP b a))=mM b a:=by
 obtain⟨k,hk⟩:=floor_k (a:=b) ha h;obtain⟨_,k2,h2⟩:=sS (a*kP b a);rw [←w64_in (rest_I ha h hb)];exact w64_eq (k:= -(k+k2)) (by rw [h2];omega)
def lI (a:Int):Bool:=a==0 || a==1
theorem xW{a:Int}(h:I64 a):lI a= !sG a:=by
 unfold lI sG I64 at*;simp only [IntKind.wrap,IntKind.signed,IntKind.bits];simp;rw [Bool.eq_iff_iff];simp;omega
theorem pR{a:Int}(h:lI a=true):a=0∨a=1:=by
 unfold lI at h
 simpa using h
theorem and_bit{a b:Int}(ha:lI a=true)(hb:lI b=true):w64 (a*b)=andW a b:=by
 rcases pR ha with rfl | rfl<;>rcases pR hb with rfl | rfl<;>decide+kernel
theorem or_bit{a b:Int}(ha:lI a=true)(hb:lI b=true):bGn a b=orW a b:=by
 rcases pR ha with rfl | rfl<;>rcases pR hb with rfl | rfl<;>decide+kernel
theorem not_bit{a:Int}(ha:lI a=true):w64 (1-a)=xorW a 1:=by
 rcases pR ha with rfl | rfl<;>decide+kernel
theorem abs_is{a:Int}(h:I64 a):(if a<0 then w64 (-a) else a)=bGn a (w64 (0-a)):=by
 obtain⟨h1,k,h2⟩:=sS (-a);have e:w64 (0-a)=w64 (-a):=by rw [Int.zero_sub]
 rw [e];unfold bGn I64 at*;split<;>split<;>omega
end Go.Proofs.YtnmhcaahkaocgaaGreatDoor
namespace Go.Proofs.YtnmhcaahkaocgaaGreatDoor
open Go.RowKit
set_option maxRecDepth 100000
set_option maxHeartbeats 1000000 in
theorem above_any(a b:Mono)(w:World):
  Calls Tryz.prog 203 #[.agg #[.int .i64 a.n,.int .u8 a.e0.toNat,.int .u8 a.e1.toNat,.int .u8 a.e2.toNat,.int .u8 a.e3.toNat,.int .u8 a.e4.toNat,.int .u8 a.e5.toNat],.agg #[.int .i64 b.n,.int .u8 b.e0.toNat,.int .u8 b.e1.toNat,.int .u8 b.e2.toNat,.int .u8 b.e3.toNat,.int .u8 b.e4.toNat,.int .u8 b.e5.toNat]] w fun e w'=>e= .returned (.int .i64 (bIr a b))∧Below w.heap.size w w':=by
 go_enter Tryz.func203,Tryz.ntmps203
 go_wp2
 refine wp_loop_rounds 7 ?_
 repeat any_goals (first | (rw [rounds_succ];go_wp2) | (go_quiet (fail);go_wp2))
 all_goals go_ret
 all_goals refine⟨vD ?_,?_⟩
 all_goals first | ((repeat refine bAs ?_ _);go_grown;done) | (go_light;simp [bIr,Mono.E,xF, *];done) | (go_light;simp [bIr,Mono.E,xF, *];rfl)
end Go.Proofs.YtnmhcaahkaocgaaGreatDoor
namespace Go.Proofs.YtnmhcaahkaocgaaGreatDoor
open Go.RowKit
set_option maxRecDepth 100000
theorem cmp_flip: ∀(l m:List UInt8),(Lib.compareBytes l m=1↔Lib.compareBytes m l<0)∧(Lib.compareBytes l m=0↔Lib.compareBytes m l=0)
 | [],[]=>by simp [Lib.compareBytes]
 | [],_::_=>by simp [Lib.compareBytes]
 | _::_,[]=>by simp [Lib.compareBytes]
 | a::l,b::m=>by
  have ih:=cmp_flip l m;rw [xF,xF]
  by_cases h1:b.toNat<a.toNat
  ·rw [if_pos h1,if_neg (by omega),if_pos h1];simp
  ·rw [if_neg h1]
   by_cases h2:a.toNat<b.toNat
   ·rw [if_pos h2,if_pos h2];simp
   ·rw [if_neg h2,if_neg h2,if_neg h1];exact ih
theorem bKg(a b:Mono):bIr a b=1↔ord a b<0:=(cmp_flip _ _).1
theorem small_not{m:Mono}(h:mN m=false):(m.n==0)=true∨((m.n==0)=false∧decide (16777216<m.n)=true)∨((m.n==0)=false∧decide (16777216<m.n)=false∧decide (m.n< -16777216)=true)∨
  ((m.n==0)=false∧decide (16777216<m.n)=false∧decide (m.n< -16777216)=false∧decide (8<(m.deg:Int))=true):=by
 have h': ¬(m.n≠0∧m.n≤16777216∧ -16777216≤m.n∧m.deg≤8):=of_decide_eq_false h;simp only [beq_iff_eq,beq_eq_false_iff_ne,decide_eq_true_eq,decide_eq_false_iff_not];omega
theorem small_all{m:Mono}(h:mN m=true):(m.n==0)=false∧decide (16777216<m.n)=false∧decide (m.n< -16777216)=false∧decide (8<(m.deg:Int))=false:=by
 have h':m.n≠0∧m.n≤16777216∧ -16777216≤m.n∧m.deg≤8:=of_decide_eq_true h;simp only [beq_eq_false_iff_ne,decide_eq_false_iff_not];omega
set_option maxRecDepth 100000 in
set_option maxHeartbeats 1000000 in
theorem mH(A:Option Addr)(c:Nat)(xs:List Mono)(w:World)(ha:mK w A xs)(hx:xs.length≤140737488355328):
  Calls Tryz.prog 161 #[.slice A xs.length c] w fun e w'=>e= .returned (.bool (fX xs))∧Below w.heap.size w w':=by
 by_cases hl:xs.length≤48
 ·have hl1:decide ((48:Int)<(xs.length:Int))=false:=by simp;omega
  have Ha:=Lib.hid ha;clear ha
  go_enter Tryz.func161,Tryz.ntmps161
  go_wp2
  go_loopw [3] (fun i wr=> ∃k:Nat,k≤xs.length∧i= .int .i64 k∧Hid (fX xs=fT (if k=0 then none else xs[k-1]?) (xs.drop k))∧Below w.heap.size w wr) (fun i _=>xs.length-(intOf i).toNat)
  case atStart=>exact⟨0,Nat.zero_le _,rfl,by show _=_;simp [fX,hl],Below.refl _ _⟩
  case round=>
   obtain⟨k,hk,rfl,hs,hbl⟩:=hrel
   by_cases hlt:k<xs.length
   ·obtain⟨m,hm,dm⟩:=pA hlt;obtain⟨b,o,rfl,hB,c0,c1,c2,c3,c4,c5,c6⟩:=Ha.out.below hbl k m hm;have HN:=Lib.hid (show mN m=false→fX xs=false by intro hsb;rw [hs.out,dm];split<;>(try cases xs[k-1]?)<;>simp [fT,hsb]);have HM:=Lib.hid hm;have HD:=Lib.hid dm;cases hsb:mN m
    ·have HN':=Lib.hid (HN.out hsb);have HBL:=Lib.hid hbl;clear dm hm hbl hB HN hs HM HD
     rcases small_not hsb with t0 | ⟨t0,t1⟩ | ⟨t0,t1,t2⟩ | ⟨t0,t1,t2,t3⟩
     all_goals go_wp2_with (go_at_call 202;refine(bGc m _).mono ?_;rintro e w1 ⟨rfl,hb1⟩)
     all_goals go_ret
     all_goals refine⟨iS HN'.out.symm,?_⟩
     all_goals first | exact HBL.out | exact HBL.out.trans (hb1.mono HBL.out.size)
    ·obtain⟨t0,t1,t2,t3⟩:=small_all hsb;have HC:=Lib.hid (Ha.out.below hbl k m hm);have HBL:=Lib.hid hbl;clear dm hm hbl hB HN
     go_wp2_with (go_at_call 202;refine(bGc m _).mono ?_;rintro e w1 ⟨rfl,hb1⟩)
     clear c0 c1 c2 c3 c4 c5 c6 t0 t1 t2 t3;have HB1:=Lib.hid (show Below w.heap.size w w1 from HBL.out.trans (hb1.mono HBL.out.size));clear hb1 HBL HC
     rcases Nat.eq_zero_or_pos k with hk0 | hk0
     ·have hk1:decide (0<k)=false:=by simp;omega
      have HS:=Lib.hid (show fX xs=fT (if k+1=0 then none else xs[k+1-1]?) (xs.drop (k+1)) by rw [hs.out,HD.out,if_pos hk0,if_neg (by omega),show k+1-1=k from rfl,HM.out];simp [fT,hsb]);clear hs hk0 HM HD;refine kD (by kernel_rfl) (by kernel_rfl) ?_
      repeat (go_big_quiet_step (fail))
      refine wpQuiet_nil ?_;rintro _ ⟨x,rfl⟩
      go_wp2
      go_roundw
      case rel=>exact⟨k+1,by omega,by go_num,HS,HB1.out.trans (x.h.mono HB1.out.size)⟩
      case measure=>simp [intOf];omega
     ·have hk1:decide (0<k)=true:=by simp;omega
      obtain⟨j,rfl⟩: ∃j,k=j+1:=⟨k-1,by omega⟩
      obtain⟨q,hq⟩: ∃q,xs[j]?=some q:=⟨xs[j]'(by omega),List.getElem?_eq_getElem _⟩
      have HS:=Lib.hid (show fX xs=(decide (ord q m<0)&&fT (some m) (xs.drop (j+1+1))) by rw [hs.out,HD.out,if_neg (by omega),show j+1-1=j from rfl,hq];simp [fT,hsb])
      have p0:hJ w1 b (o+j*7) q∧hJ w1 b (o+(j+1)*7) m:=by
       obtain⟨b1,o1,e1,hB1,hm1⟩:=Ha.out.below HB1.out j q hq;obtain⟨b2,o2,e2,hB2,hm2⟩:=Ha.out.below HB1.out (j+1) m HM.out;injection e1 with e1
       injection e1 with e1 e1'
       injection e2 with e2
       injection e2 with e2 e2'
       subst e1 e1' e2 e2';exact⟨hm1,hm2⟩
      obtain⟨r0,r1,r2,r3,r4,r5,r6⟩:=p0.2.later;obtain⟨s0,s1,s2,s3,s4,s5,s6⟩:=p0.1.later;clear hs hk0 hq p0;have Hor:=Lib.hid (gA.calls (W0:=w1) fun W _=>above_any q m W);refine kD (by kernel_rfl) (by kernel_rfl) ?_
      repeat (go_big_quiet_step ((go_at_call 203;exact Hor.out _)))
      refine wpQuiet_nil ?_;rintro _ ⟨x,rfl⟩;clear r0 r1 r2 r3 r4 r5 r6 s0 s1 s2 s3 s4 s5 s6 Hor;have HBX:=Lib.hid (show Below w.heap.size w x.w from HB1.out.trans (x.h.mono HB1.out.size));clear HB1
      by_cases ho:ord q m<0
      ·have ho1:(bIr q m !=1)=false:=by simp [(bKg q m).2 ho]
       go_wp2
       go_roundw
       case rel=>exact⟨j+1+1,by omega,by go_num,(by show _=_;rw [HS.out,if_neg (by omega),show j+1+1-1=j+1 from rfl,HM.out];simp [ho]),HBX.out⟩
       case measure=>simp [intOf];omega
      ·have ho1:(bIr q m !=1)=true:=by rw [bne_iff_ne];intro h;exact ho ((bKg q m).1 h)
       go_wp2
       go_ret
       exact⟨iS (by rw [HS.out,decide_eq_false (by omega),Bool.false_and]),HBX.out⟩
   ·have hk':k=xs.length:=by omega
    go_wp2
    go_ret
    refine⟨iS ?_,hbl⟩;rw [hs.out,List.drop_of_length_le (by omega)];split<;>(try cases xs[k-1]?)<;>simp [fT]
 ·have hl1:decide ((48:Int)<(xs.length:Int))=true:=by simp;omega
  go_enter Tryz.func161,Tryz.ntmps161
  go_wp2
  go_ret
  exact⟨iS (by simp [fX,hl]),Below.refl _ _⟩
end Go.Proofs.YtnmhcaahkaocgaaGreatDoor
namespace Go.Proofs.YtnmhcaahkaocgaaGreatDoor
open Go.RowKit
set_option maxRecDepth 100000
set_option maxRecDepth 100000 in
set_option maxHeartbeats 1000000 in
theorem refGrows_any(A:Option Addr)(c:Nat)(xs:List Mono)(w:World)(ha:mK w A xs)(hx:xs.length≤140737488355328):
  Calls Tryz.prog 199 #[.slice A xs.length c] w fun e w'=>e= .returned (.bool (iO xs))∧Below w.heap.size w w':=by
 have Ha:=Lib.hid ha;clear ha
 go_enter Tryz.func199,Tryz.ntmps199
 go_wp2
 go_loop [3] (fun i=> ∃k:Nat,k≤xs.length∧i= .int .i64 k∧Hid (xs.any qP=(xs.drop k).any qP)) (fun i=>xs.length-(intOf i).toNat)
 case atStart=>exact⟨0,Nat.zero_le _,rfl,rfl⟩
 case round=>
  obtain⟨k,hk,rfl,hs⟩:=hrel
  by_cases hlt:k<xs.length
  ·obtain⟨m,hm,dm⟩:=pA hlt;obtain⟨b,o,rfl,hB,c0,c1,c2,c3,c4,c5,c6⟩:=Ha.out k m hm;have HS:=Lib.hid (show xs.any qP=(qP m || (xs.drop (k+1)).any qP) by rw [hs.out,dm,List.any_cons]);clear hs hm dm hB c1 c2 c3 c4 c5 c6
   by_cases hn:m.n<0
   ·have hn1:decide (m.n<0)=true:=by simpa using hn
    go_wp2
    go_ret
    exact⟨iS (by unfold iO;rw [HS.out,show qP m=true from hn1,Bool.true_or];simp),Below.refl _ _⟩
   ·have hn1:decide (m.n<0)=false:=by simpa using hn
    go_wp2
    go_round
    case rel=>exact⟨k+1,by omega,by go_num,(by show _=_;rw [HS.out,show qP m=false from hn1,Bool.false_or])⟩
    case measure=>simp [intOf];omega
  ·have HS:=Lib.hid (show xs.any qP=false by rw [hs.out,List.drop_of_length_le (by omega)];rfl);clear hs
   go_wp2_with fail
   refine(mH A c xs _ Ha.out hx).mono ?_;rintro e w1 ⟨rfl,hb1⟩
   go_wp2
   go_ret
   exact⟨iS (by unfold iO;rw [HS.out];simp),hb1⟩
section
variable (p : PolV)
theorem refR_spec(hp:p.list.length≤140737488355328):dM Tryz.prog 161 [.slice p.addr p.list.length p.cap] [] [lS p] (fun _:Unit=> .bool (fX p.list)) (fun _=>[]) (fun _=>[]):=
 lU fun _ w hS h=>mH _ _ _ w (nC hS (h _ (.head _))) hp
theorem refG_spec(hp:p.list.length≤140737488355328):dM Tryz.prog 199 [.slice p.addr p.list.length p.cap] [] [lS p] (fun _:Unit=> .bool (iO p.list)) (fun _=>[]) (fun _=>[]):=
 lU fun _ w hS h=>refGrows_any _ _ _ w (nC hS (h _ (.head _))) hp
end
end Go.Proofs.YtnmhcaahkaocgaaGreatDoor
namespace Go.Proofs.YtnmhcaahkaocgaaGreatDoor
open Go.RowKit
section
variable {f : Int} {two : Bool}
theorem uY(h:two=true)(h1:1≤f)(h2:f≤17):Value.bool (f !=16)= .bool (gN f two):=by
 unfold gN;rw [if_neg (by omega),h]
 by_cases e:f=16
 ·subst e;rfl
 ·rw [if_neg e];simp [e]
theorem uM(h:two=false)(h1:1≤f)(h2:f≤7):Value.bool true= .bool (gN f two):=by
 unfold gN;rw [if_neg (by omega),if_neg (by omega),h];simp [h2]
theorem vI(h:two=false)(h1: ¬f≤7):Value.bool (f==16)= .bool (gN f two):=by
 unfold gN
 by_cases e:f=16
 ·subst e;rw [h];rfl
 ·rw [if_neg e,h]
  by_cases h2:f<1∨17<f
  ·rw [if_pos h2];simp [e]
  ·rw [if_neg h2];simp [e,h1]
theorem vC(h1:f<1):Value.bool (f==16)= .bool (gN f two):=by
 unfold gN;rw [if_pos (by omega)];have:f≠16:=by omega
 simp [this]
end
theorem exp_at{m:Mono}{k:Nat}{z:Int}(h:(EI m)[k]?=some z):((m.cells.drop 1).drop (k*1))[0]?=some (.int .u8 z):=by
 rw [List.getElem?_drop,List.getElem?_drop];have e:m.cells= .int .i64 m.n::(EI m).map (fun z=>Value.int .u8 z):=rfl;rw [e,show 1+(k*1+0)=k+1 by omega,List.getElem?_cons_succ,List.getElem?_map,h];rfl
theorem own_no{l:List Mono}{vars:Int}(h:fX l=false):Value.bool false= .bool (ofB l vars):=by simp [ofB,h]
theorem own_end{l:List Mono}{vars:Int}(h:fX l=true)(h2:l.all (okM (clampK vars))=true):Value.bool true= .bool (ofB l vars):=by
 rw [←h];exact of_end h2
theorem grow_long{l:List (List Mono)}{vars:Int}(h:4<l.length):Value.bool false= .bool (gU l vars):=by
 unfold gU;have: ¬l.length≤4:=by omega
 simp [this]
theorem grow_all{l:List (List Mono)}{vars:Int}(h:l.all (fun p=>ofB p vars&&iO p)=true)(h4:l.length≤4):Value.bool true= .bool (gU l vars):=by
 unfold gU;rw [h];simp [h4]
set_option maxRecDepth 100000 in
theorem takes10_spec(o:OpV):dM Tryz.prog 221 [.agg #[.int .i64 o.how,.int .i64 o.k,.int .i64 o.n,.slice o.p.addr o.p.list.length o.p.cap,.int .u8 o.fn]] [] [] (fun(_:Unit)=> .int .i64 (dB o.how)) (fun _=>[]) (fun _=>[]):=by
 have hT:=gD;refine cO Tryz.func221 rfl Tryz.ntmps221 rfl ?_;intro β hM;refine sr<|gG rfl rfl rfl rfl rfl rfl fun b1=>?_;refine sp hT ?_;refine nn<|bE<|sr<|sp hT ?_;refine ss (ldO hT (dO .head)) ?_;refine nn<|bW<|bE<|sr<|sp2 hT ?_;refine nn<|bL rfl (fun hc5=>?_) (fun hc5=>?_)
 ·have hc5_r:=hc5;have hc5:=eq_of_beq hc5;refine bO<|bC<|cG rfl hc5_r ?_;refine sr<|sp hT ?_;refine nn<|bI<|bM<|bH ?_;exact bN () rfl (bD rfl) .nil trivial (by simp [dB, *])
 have hc5_r:=hc5;have hc5:=beq_eq_false_iff_ne.1 hc5;refine sr<|sp2 hT ?_;refine nn<|bL rfl (fun hc5_2=>?_) (fun hc5_2=>?_)
 ·have hc5_2_r:=hc5_2;have hc5_2:=eq_of_beq hc5_2;refine bO<|bC<|cG rfl hc5_2_r ?_;refine sr<|sp hT ?_;refine nn<|bI<|bM<|bH ?_;exact bN () rfl (bD rfl) .nil trivial (by simp [dB, *])
 have hc5_2_r:=hc5_2;have hc5_2:=beq_eq_false_iff_ne.1 hc5_2;refine bB<|sp2 hT ?_;refine nn<|bL rfl (fun hc5_3=>?_) (fun hc5_3=>?_)
 ·have hc5_3_r:=hc5_3;have hc5_3:=eq_of_beq hc5_3;refine sr<|sp hT ?_;refine nn<|bI<|bM<|bH ?_;exact bN () rfl (bD rfl) .nil trivial (by simp [dB, *])
 have hc5_3_r:=hc5_3;have hc5_3:=beq_eq_false_iff_ne.1 hc5_3;refine bE<|sr<|sp2 hT ?_;refine nn<|bL rfl (fun hc9=>?_) (fun hc9=>?_)
 ·have hc9_r:=hc9;have hc9:=eq_of_beq hc9;refine bO<|bC<|cG rfl hc9_r ?_;refine sr<|sp hT ?_;refine nn<|bI<|bM<|bH ?_;exact bN () rfl (bD rfl) .nil trivial (by simp [dB, *])
 have hc9_r:=hc9;have hc9:=beq_eq_false_iff_ne.1 hc9;refine bB<|sp2 hT ?_;refine nn<|bL rfl (fun hc9_4=>?_) (fun hc9_4=>?_)
 ·have hc9_4_r:=hc9_4;have hc9_4:=eq_of_beq hc9_4;refine sr<|sp hT ?_;refine nn<|bI<|bM<|bH ?_;exact bN () rfl (bD rfl) .nil trivial (by simp [dB, *])
 have hc9_4_r:=hc9_4;have hc9_4:=beq_eq_false_iff_ne.1 hc9_4;refine sr<|sp2 hT ?_;refine nn<|bL rfl (fun hc12=>?_) (fun hc12=>?_)
 ·have hc12_r:=hc12;have hc12:=eq_of_beq hc12;refine sr<|sp hT ?_;refine nn<|bI<|bM<|bH ?_;exact bN () rfl (bD rfl) .nil trivial (by simp [dB, *])
 have hc12_r:=hc12;have hc12:=beq_eq_false_iff_ne.1 hc12;refine bO<|bY<|bC<|sr<|sp hT ?_;refine nn<|bI ?_;exact bN () rfl (bD rfl) .nil trivial (by simp [dB, *])
set_option maxRecDepth 100000 in
theorem nR(f:Int)(two:Bool):dM Tryz.prog 155 [.int .u8 f,.bool two] [] [] (fun(_:Unit)=> .bool (gN f two)) (fun _=>[]) (fun _=>[]):=by
 have hT:=gD;refine cO Tryz.func155 rfl Tryz.ntmps155 rfl ?_;intro β hM;refine sr<|sp hT ?_;refine nn<|bE<|sr<|sp hT ?_;refine nn<|bL rfl (fun hc5=>?_) (fun hc5=>?_)
 ·have hc5_r:=hc5;refine sr<|sp3 hT ?_;refine cB (fun hg8=>?_) (fun hg8=>?_)
  ·have hg8:=of_decide_eq_true hg8;refine sp4 hT ?_;refine cB (fun hg12=>?_) (fun hg12=>?_)
   ·have hg12:=of_decide_eq_true hg12;refine sp4 hT ?_;refine nn<|bI<|bH ?_;exact bN () rfl (bD rfl) .nil trivial (by first | exact oT (by omega) | exact uY ‹_› (by omega) (by omega) | exact uM ‹_› (by omega) (by omega) | exact vI ‹_› (by omega) | exact vC (by omega))
   have hg12:=Int.not_le.1 (of_decide_eq_false hg12);refine sk2 ?_;refine sp2 hT ?_;refine nn<|bI<|bH ?_;exact bN () rfl (bD rfl) .nil trivial (by first | exact oT (by omega) | exact uY ‹_› (by omega) (by omega) | exact uM ‹_› (by omega) (by omega) | exact vI ‹_› (by omega) | exact vC (by omega))
  have hg8:=Int.not_le.1 (of_decide_eq_false hg8);refine sk2 ?_;refine sp2 hT ?_;refine sk2 ?_;refine sp2 hT ?_;refine nn<|bI<|bH ?_;exact bN () rfl (bD rfl) .nil trivial (by first | exact oT (by omega) | exact uY ‹_› (by omega) (by omega) | exact uM ‹_› (by omega) (by omega) | exact vI ‹_› (by omega) | exact vC (by omega))
 have hc5_r:=hc5;refine bO<|bC<|sr<|sp3 hT ?_;refine cB (fun hg18=>?_) (fun hg18=>?_)
 ·have hg18:=of_decide_eq_true hg18;refine sp4 hT ?_;refine cB (fun hg22=>?_) (fun hg22=>?_)
  ·have hg22:=of_decide_eq_true hg22;refine sk2 ?_;refine sp2 hT ?_;refine nn<|bI ?_;exact bN () rfl (bD rfl) .nil trivial (by first | exact oT (by omega) | exact uY ‹_› (by omega) (by omega) | exact uM ‹_› (by omega) (by omega) | exact vI ‹_› (by omega) | exact vC (by omega))
  have hg22:=Int.not_le.1 (of_decide_eq_false hg22);refine sp4 hT ?_;refine nn<|bI ?_;exact bN () rfl (bD rfl) .nil trivial (by first | exact oT (by omega) | exact uY ‹_› (by omega) (by omega) | exact uM ‹_› (by omega) (by omega) | exact vI ‹_› (by omega) | exact vC (by omega))
 have hg18:=Int.not_le.1 (of_decide_eq_false hg18);refine sk2 ?_;refine sp4 hT ?_;refine sp2 hT ?_;refine nn<|bI ?_;exact bN () rfl (bD rfl) .nil trivial (by first | exact oT (by omega) | exact uY ‹_› (by omega) (by omega) | exact uM ‹_› (by omega) (by omega) | exact vI ‹_› (by omega) | exact vC (by omega))
set_option maxRecDepth 100000 in
theorem xC(A:Option Addr)(c:Nat)(l:List OpV)(hl:l.length≤140737488355328):dM Tryz.prog 200 [.slice A l.length c] [] [opE.sl (.slice A l.length c) l,bU.each l opF] (fun(_:Unit)=> .int .i64 (oN (opsL l))) (fun _=>[]) (fun _=>[]):=by
 have hT:=gD;generalize hR:oN (opsL l)=r;refine cO Tryz.func200 rfl Tryz.ntmps200 rfl ?_;intro β hM;refine sr<|sp hT ?_;refine nn<|sr<|sp hT ?_;refine nn<|sr<|sp hT ?_;refine nn<|bE<|sr<|sp hT ?_;refine nn<|bW<|cX (ι:=Nat×Int×Int) [(0,_)] ⟨rfl,trivial⟩ (fun⟨i,m,n⟩=>[(3,.int .i64 n),(4,.int .i64 m),(5,.int .i64 (i:Nat))]) (fun _=>[]) (fun⟨i,m,n⟩=>[bU.pure (i≤l.length∧bCi l i m n r∧0≤n∧n≤i)]) (fun⟨i,m,n⟩=>l.length-i) (0,0,0) ⟨rfl,rfl,rfl,trivial⟩ .nil ⟨Has.pure (⟨by omega,hR,by omega,by omega⟩),trivial⟩ ?_;rintro⟨i,m,n⟩;dsimp only;refine cD (Has.of mT0) fun hinv4=>?_;refine bE<|sr<|sp4 hT ?_;refine nn<|bL rfl (fun hc10=>?_) (fun hc10=>?_)
 ·have hc10:=of_decide_eq_true hc10;refine bO<|bC<|bE<|bW<|sr<|sp2 hT ?_
  obtain⟨x1,hx2⟩: ∃x',l[i]?=some x':=⟨_,List.getElem?_eq_getElem (by omega)⟩
  refine ss (bV hT (k:=i) (bP (Has.of mT1)) rfl rfl rfl rfl rfl rfl rfl (by omega)) ?_;refine ss (dT hT (cM.knows (bP (Has.of mT1)) (k:=i) (x:=x1) hx2 0) rfl rfl rfl rfl rfl) ?_;refine cK Tryz.func221 (takes10_spec x1) rfl rfl .nil trivial fun _=>?_;refine sp hT ?_;refine nn<|bE<|bE ?_;have htk:=takes_le x1.how
  have hd0:=(dep_step hinv4.2.1 hx2)
  refine bB<|sp3 hT ?_;refine cB (fun hg20=>?_) (fun hg20=>?_)
  ·have hg20:=of_decide_eq_true hg20;refine sk3 ?_;refine sp hT ?_;refine nn<|cG rfl rfl ?_;refine sr<|sp hT ?_;refine nn<|bI<|bH<|bM<|bH<|bH<|bM<|bH ?_;have hr:=hd0.1 (by omega);subst hr;exact bN () rfl (bD rfl) .nil trivial rfl
  have hg20:=Int.not_lt.1 (of_decide_eq_false hg20);refine sp4 hT ?_;refine nn<|bL rfl (fun hc24=>?_) (fun hc24=>?_)
  ·have hc24:=of_decide_eq_true hc24;refine sr<|sp hT ?_;refine nn<|bI<|bH<|bM<|bH<|bH<|bM<|bH ?_;have hr:=hd0.1 (by omega);subst hr;exact bN () rfl (bD rfl) .nil trivial rfl
  have hc24:=Int.not_lt.1 (of_decide_eq_false hc24);refine bO<|bC<|sr<|sp3 hT ?_;refine bZ (gK (by omega) (by omega)) ?_;refine sp hT ?_;refine bZ (gK (by omega) (by omega)) ?_;refine bZ (z':=n+(1-dB x1.how)) (by omega) ?_;refine sp hT ?_;refine nn<|bB<|sp4 hT ?_;refine cA<|bY<|bC<|bB<|sp2 hT ?_;refine bZ (z':=(((i+1):Nat):Int)) (cV (by omega) (by omega)) ?_;refine sp hT ?_;refine nn ?_;exact cJ (i+1,_,_) (by dsimp only;omega) ⟨rfl,rfl,rfl,trivial⟩ ⟨rfl,trivial⟩ .nil ⟨Has.pure (⟨by dsimp only;omega,hd0.2 (by omega) (by omega),by dsimp only;omega,by dsimp only;omega⟩),trivial⟩ (bQ.drop 1)
 have hc10:=Int.not_lt.1 (of_decide_eq_false hc10);refine cU<|cI<|cI<|cT<|bC<|bE<|sr<|sp2 hT ?_;refine nn<|bL rfl (fun hc33=>?_) (fun hc33=>?_)
 ·have hc33:=bne_iff_ne.1 hc33;refine sr<|sp hT ?_;refine nn<|bI<|bH ?_;have hr:=(bBh hinv4.2.1 (by omega)).1 ‹_›;subst hr;exact bN () rfl (bD rfl) .nil trivial rfl
 have hc33:=bne_eq_false_iff_eq.1 hc33;refine bO<|bC<|sr<|sp2 hT ?_;refine nn<|bI ?_;have hr:=(bBh hinv4.2.1 (by omega)).2 ‹_›;subst hr;exact bN () rfl (bD rfl) .nil trivial rfl
set_option maxRecDepth 100000 in
theorem bFo(p:PolV)(vars:Int)(hv:0≤vars)(hv6:vars≤6):dM Tryz.prog 198 [.slice p.addr p.list.length p.cap,.int .i64 vars] [] [lS p] (fun(_:Unit)=> .bool (ofB p.list vars)) (fun _=>[]) (fun _=>[]):=by
 have hT:=gD;have hcl:((clampK vars:Nat):Int)=vars:=by unfold clampK;omega
 refine cO Tryz.func198 rfl Tryz.ntmps198 rfl ?_;intro β hM;refine bE<|cD (jH (Has.of mT0)) fun hp=>?_;refine cL (bAn.sl (.slice p.addr p.list.length p.cap) p.list) (polsF_sl (Has.of mT0)) ?_;refine bB<|sp hT ?_;refine nn<|bE<|sr<|sp hT ?_;refine cK Tryz.func161 (refR_spec p hp) rfl rfl .nil ⟨(Has.of mT1),trivial⟩ fun _=>?_;refine sp hT ?_;refine nn<|bL rfl (fun hc9=>?_) (fun hc9=>?_)
 ·have hc9:=gR hc9;refine sr<|sp hT ?_;refine nn<|bI<|bH ?_;exact bN () rfl (bD rfl) .nil trivial (own_no (by simp_all))
 have hc9:=gS hc9;refine bO<|bC<|bE<|sr<|sp hT ?_;refine nn<|bW<|cX (ι:=Nat) [(0,_),(1,_)] ⟨rfl,rfl,trivial⟩ (fun i=>[(5,.int .i64 (i:Nat))]) (fun _=>[]) (fun i=>[bU.pure (i≤p.list.length∧(p.list.take i).all (okM (clampK vars))=true)]) (fun i=>p.list.length-i) 0 ⟨rfl,trivial⟩ .nil ⟨Has.pure (⟨by omega,rfl⟩),trivial⟩ ?_;rintro i;refine cD (Has.of mT0) fun hinv4=>?_;refine bE<|sr<|sp4 hT ?_;refine nn<|bL rfl (fun hc13=>?_) (fun hc13=>?_)
 ·have hc13:=of_decide_eq_true hc13;refine bO<|bC<|bE<|bW<|bE ?_
  obtain⟨x1,hx2⟩: ∃x',p.list[i]?=some x':=⟨_,List.getElem?_eq_getElem (by omega)⟩
  refine bB<|sp2 hT ?_;refine bZ (z':=((clampK vars+0:Nat):Int)) (by omega) ?_;refine nn<|bW<|cX (ι:=Nat) [(0,_),(1,_),(5,_)] ⟨rfl,rfl,rfl,trivial⟩ (fun j=>[(6,.int .i64 ((clampK vars+j:Nat):Int))]) (fun _=>[]) (fun j=>[bU.pure (clampK vars+j≤6∧(((EI x1).drop (clampK vars)).take j).all (fun e=>e==0)=true)]) (fun j=>6-clampK vars-j) 0 ⟨rfl,trivial⟩ .nil ⟨Has.pure (⟨by omega,rfl⟩),trivial⟩ ?_;rintro j;refine cD (Has.of mT0) fun hinv7=>?_;refine bE<|sr<|sp2 hT ?_;refine nn<|bL rfl (fun hc18=>?_) (fun hc18=>?_)
  ·have hc18:=of_decide_eq_true hc18;refine bO<|bC<|bE<|bW<|sr<|sp3 hT ?_;refine ss (bV hT (k:=i) (bP (Has.of mT2)) rfl rfl rfl rfl rfl rfl rfl (by omega)) ?_;refine sp hT ?_;refine ss (nY hT (k:=(clampK vars+j)) rfl rfl rfl rfl rfl rfl (by omega)) ?_
   obtain⟨z3,hz4⟩: ∃z',(EI x1)[clampK vars+j]?=some z':=⟨_,List.getElem?_eq_getElem (by show _<6;omega)⟩
   have hjz3:((EI x1).drop (clampK vars))[j]?=some z3:=by rw [List.getElem?_drop];exact hz4
   have hge:=ei_ge hjz3;refine ss (bR hT (kI.drop (cM.knows (bP (Has.of mT2)) (k:=i) (x:=x1) hx2 1) ((clampK vars+j)*1)) rfl rfl rfl rfl (exp_at hz4)) ?_;refine sp hT ?_;refine nn<|bL rfl (fun hc28=>?_) (fun hc28=>?_)
   ·have hc28:=of_decide_eq_true hc28;refine sr<|sp hT ?_;refine nn<|bI<|bM<|bH<|bH<|bM<|bM<|bH<|bH<|bM<|bH ?_;exact bN () rfl (bD rfl) .nil trivial (of_bad hx2 (okM_bad hjz3 (by omega)))
   have hc28:=Int.not_lt.1 (of_decide_eq_false hc28);refine bO<|bY<|bC<|bB<|sp2 hT ?_;refine bZ (z':=((((clampK vars+j)+1):Nat):Int)) (cV (by omega) (by omega)) ?_;refine sp hT ?_;refine nn ?_;exact cJ (j+1) (by omega) ⟨rfl,trivial⟩ ⟨rfl,rfl,rfl,trivial⟩ .nil ⟨Has.pure (⟨by omega,jJ hinv7.2 hjz3 (beq_iff_eq.2 (by omega))⟩),trivial⟩ (bQ.drop 1)
  have hc18:=Int.not_lt.1 (of_decide_eq_false hc18);refine cU<|cI<|cI<|cT<|bY<|bC<|bB<|sp2 hT ?_;refine bZ (z':=(((i+1):Nat):Int)) (cV (by omega) (by omega)) ?_;refine sp hT ?_;refine nn ?_;exact cJ (i+1) (by omega) ⟨rfl,trivial⟩ ⟨rfl,rfl,trivial⟩ .nil ⟨Has.pure (⟨by omega,jJ hinv4.2 hx2 (okM_end hinv7.2 (by rw [bEj];omega))⟩),trivial⟩ (bQ.drop 2)
 have hc13:=Int.not_lt.1 (of_decide_eq_false hc13);refine cU<|cI<|cI<|cT<|bC<|sr<|sp hT ?_;refine nn<|bI ?_;exact bN () rfl (bD rfl) .nil trivial (own_end (by simp_all) (oH hinv4.2 (by omega)))
set_option maxRecDepth 100000 in
theorem uE(l:Sl PolV)(vars:Int)(hv:0≤vars)(hv6:vars≤6):dM Tryz.prog 150 [.slice l.addr l.list.length l.cap,.int .i64 vars] [] [mD l] (fun(_:Unit)=> .bool (gU (polsL l.list) vars)) (fun _=>[]) (fun _=>[]):=by
 have hT:=gD;refine cO Tryz.func150 rfl Tryz.ntmps150 rfl ?_;intro β hM;refine bE<|cD (xS (Has.of mT0)) fun hlz=>?_;have hlz2:=hlz.2;refine cL (pX.sl (.slice l.addr l.list.length l.cap) l.list) (sJ (Has.of mT0)) ?_;refine bB<|sp hT ?_;refine nn<|bE<|sr<|sp3 hT ?_;refine nn<|bL rfl (fun hc8=>?_) (fun hc8=>?_)
 ·have hc8:=of_decide_eq_true hc8;refine sr<|sp hT ?_;refine nn<|bI<|bH ?_;exact bN () rfl (bD rfl) .nil trivial (grow_long (by rw [dC];omega))
 have hc8:=Int.not_lt.1 (of_decide_eq_false hc8);refine bO<|bC<|bE<|sr<|sp hT ?_;refine nn<|bW<|cX (ι:=Nat) [(0,_),(1,_)] ⟨rfl,rfl,trivial⟩ (fun i=>[(5,.int .i64 (i:Nat))]) (fun _=>[]) (fun i=>[bU.pure (i≤l.list.length∧((polsL l.list).take i).all (fun p=>ofB p vars&&iO p)=true)]) (fun i=>l.list.length-i) 0 ⟨rfl,trivial⟩ .nil ⟨Has.pure (⟨by omega,rfl⟩),trivial⟩ ?_;rintro i;refine cD (Has.of mT0) fun hinv4=>?_;refine bE<|sr<|sp4 hT ?_;refine nn<|bL rfl (fun hc12=>?_) (fun hc12=>?_)
 ·have hc12:=of_decide_eq_true hc12;refine bO<|bC<|bE<|bW<|bE ?_
  obtain⟨x1,hx2⟩: ∃x',l.list[i]?=some x':=⟨_,List.getElem?_eq_getElem (by omega)⟩
  refine cL (lS x1) (Has.each (sN (Has.of mT2)) (List.mem_of_getElem? hx2)) ?_;refine cD (jH (Has.of mT0)) fun hpx1=>?_;refine bB<|sp2 hT ?_;refine ss (bV hT (k:=i) (bP (Has.of mT2)) rfl rfl rfl rfl rfl rfl rfl (by omega)) ?_;refine ss (bR hT (cM.knows (bP (Has.of mT2)) (k:=i) (x:=x1) hx2 0) rfl rfl rfl rfl rfl) ?_;refine sp hT ?_;refine cK Tryz.func198 (bFo x1 vars hv hv6) rfl rfl .nil ⟨(Has.of mT0),trivial⟩ fun _=>?_;refine sp2 hT ?_;refine cB (fun hg22=>?_) (fun hg22=>?_)
  ·have hg22:=gR hg22;refine sk4 ?_;refine sk2 ?_;refine sp hT ?_;refine nn<|cG rfl rfl ?_;refine sr<|sp hT ?_;refine nn<|bI<|bM<|bH<|bH<|bM<|bH ?_;exact bN () rfl (bD rfl) .nil trivial (xA (dQ hx2) (by simp_all))
  have hg22:=gS hg22;refine sp2 hT ?_;refine ss (bV hT (k:=i) (bP (Has.of mT2)) rfl rfl rfl rfl rfl rfl rfl (by omega)) ?_;refine ss (bR hT (cM.knows (bP (Has.of mT2)) (k:=i) (x:=x1) hx2 0) rfl rfl rfl rfl rfl) ?_;refine cK Tryz.func199 (refG_spec x1 hpx1) rfl rfl .nil ⟨(Has.of mT0),trivial⟩ fun _=>?_;refine sp2 hT ?_;refine nn<|bL rfl (fun hc29=>?_) (fun hc29=>?_)
  ·have hc29:=gR hc29;refine sr<|sp hT ?_;refine nn<|bI<|bM<|bH<|bH<|bM<|bH ?_;exact bN () rfl (bD rfl) .nil trivial (xA (dQ hx2) (by simp_all))
  have hc29:=gS hc29;refine bO<|bY<|bC<|bB<|sp2 hT ?_;refine bZ (z':=(((i+1):Nat):Int)) (cV (by omega) (by omega)) ?_;refine sp hT ?_;refine nn ?_;exact cJ (i+1) (by omega) ⟨rfl,trivial⟩ ⟨rfl,rfl,trivial⟩ .nil ⟨Has.pure (⟨by omega,jJ hinv4.2 (dQ hx2) (by simp_all)⟩),trivial⟩ (bQ.drop 2)
 have hc12:=Int.not_lt.1 (of_decide_eq_false hc12);refine cU<|cI<|cI<|cT<|bC<|sr<|sp hT ?_;refine nn<|bI ?_;exact bN () rfl (bD rfl) .nil trivial (grow_all (oH hinv4.2 (by rw [dC];omega)) (by rw [dC];omega))
end Go.Proofs.YtnmhcaahkaocgaaGreatDoor
