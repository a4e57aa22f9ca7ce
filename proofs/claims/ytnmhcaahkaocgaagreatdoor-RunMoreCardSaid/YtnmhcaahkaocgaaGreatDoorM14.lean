/- Texts of one proof, one behind the other: TysR, LitH, TysV, TysW, ArrM, RgA, RmA. -/
import Derived.Test.YtnmhcaahkaocgaaGreatDoorM7
import Derived.Test.YtnmhcaahkaocgaaGreatDoorM4
import Derived.Test.YtnmhcaahkaocgaaGreatDoorM13
import Derived.Test.YtnmhcaahkaocgaaGreatDoorM2
import Derived.Test.YtnmhcaahkaocgaaGreatDoorM12
namespace Go.Proofs.YtnmhcaahkaocgaaGreatDoor
open Go.RowKit Go.ChangeShapes Go.WideShapes
section
variable {α H : Type} {enc : TypeId × Value → H} {P : Program} {w : World} {t e : TypeId}
def Ty.slicec(T:Ty α)(b:Nat):Ty (Sl α):=⟨slE α,fun s=>((T.slice b).deep s).and (bQ.pure (s.list.length≤s.cap))⟩
theorem iZ{deep:Sl α→bQ}(hu:P.underlying t=some (.slice e))(he:mE enc P w t (slE α).cells deep):mE enc P w t (slE α).cells (fun s=>(deep s).and (bQ.pure (s.list.length≤s.cap))):=fun fuel cs x h hw=>by
 obtain⟨a,e0,d⟩:=he fuel cs x h hw;refine⟨a,e0,d,?_⟩;have e0':cs=[.slice a.addr a.list.length a.cap]:=e0;show a.list.length≤a.cap
 rcases Deep.open_slice hu h with ⟨e1,_⟩ | ⟨a',len,cap,m,n,D,Pl,e1,_,hl,_⟩
 ·rw [e0'] at e1;simp only [List.cons.injEq,and_true,Value.slice.injEq] at e1;omega
 ·rw [e0'] at e1;simp only [List.cons.injEq,and_true,Value.slice.injEq] at e1;omega
end
set_option maxRecDepth 100000
section
variable {H : Type} {enc : TypeId × Value → H} {w : World}
theorem u8_of{n:Int}(h:(Lit.int .u8 n).wf=true): ∃e:UInt8,n=(e.toNat:Int):=by
 have h':0≤n∧n≤255:=bounds_u8 h;refine⟨UInt8.ofNat n.toNat,?_⟩;rw [UInt8.toNat_ofNat'];omega
theorem read_mono{fuel:Nat}{cs:List Value}{x:DataW H×List MemPlace}(h:DataW.trod enc Tryz.prog w 0 (fun _=>true) true fuel 75 cs=some x): ∃m:Mono,cs=m.cells∧(Lit.int .i64 m.n).wf=true:=by
 obtain⟨xs,n,_,_,hlen,hxl,hf⟩:=DataW.trod_struct Tryz.underlying75 h;have hc39:Tryz.prog.cellsOf 75=7:=by kernel_rfl
 have hc2:Tryz.prog.cellsOf 2=1:=by kernel_rfl
 have hc37:Tryz.prog.cellsOf 73=6:=by kernel_rfl
 have hc5:Tryz.prog.cellsOf 5=1:=by kernel_rfl
 rw [hc39] at hlen;have hxl':xs.length=2:=hxl
 match cs,hlen with
 | [a,b0,b1,b2,b3,b4,b5],_=>
  have h0:DataW.trod enc Tryz.prog w 0 (fun _=>true) true n 2 (([a,b0,b1,b2,b3,b4,b5].drop 0).take (Tryz.prog.cellsOf 2))=xs[0]?:=hf 0 _ rfl;have h1:DataW.trod enc Tryz.prog w 0 (fun _=>true) true n 73 (([a,b0,b1,b2,b3,b4,b5].drop 1).take (Tryz.prog.cellsOf 73))=xs[1]?:=hf 1 _ rfl;rw [hc2,List.getElem?_eq_getElem (by omega)] at h0;rw [hc37,List.getElem?_eq_getElem (by omega)] at h1;obtain⟨nn,e0,_,hw⟩:=DataW.trod_int Tryz.underlying2 h0;obtain⟨ys,n',_,_,_,hyl,hg⟩:=DataW.trod_array Tryz.underlying73 h1
  have g: ∀i,i<6→ ∃e:UInt8,(([b0,b1,b2,b3,b4,b5]:List Value).drop i).take 1=[.int .u8 (e.toNat:Int)]:=fun i hi=>by
   have h2:=hg i hi;rw [hc5,Nat.mul_one,List.getElem?_eq_getElem (by omega)] at h2;obtain⟨k,e1,_,hw1⟩:=DataW.trod_int Tryz.underlying5 h2;obtain⟨e,rfl⟩:=u8_of hw1;exact⟨e,e1⟩
  obtain⟨e0',g0⟩:=g 0 (by omega);obtain⟨e1',g1⟩:=g 1 (by omega);obtain⟨e2',g2⟩:=g 2 (by omega);obtain⟨e3',g3⟩:=g 3 (by omega);obtain⟨e4',g4⟩:=g 4 (by omega);obtain⟨e5',g5⟩:=g 5 (by omega);simp at e0 g0 g1 g2 g3 g4 g5;subst e0 g0 g1 g2 g3 g4 g5;exact⟨⟨nn,e0',e1',e2',e3',e4',e5'⟩,rfl,hw⟩
end
def lD:Ty Mono:=⟨zM,fun m=>bQ.pure ((Lit.int .i64 m.n).wf=true)⟩
theorem pT{H:Type}{enc:TypeId×Value→H}{w:World}:mE enc Tryz.prog w 75 lD.E.cells lD.deep:=fun fuel cs x h _=>by
 obtain⟨m,e,hw⟩:=read_mono h;exact⟨m,e,hw⟩
instance : Inhabited Mono := ⟨⟨0, 0, 0, 0, 0, 0, 0⟩⟩
def opTy:Ty OpV:=⟨opE,fun x=>(bQ.pure ((Lit.int .i64 x.how).wf=true)).and ((bQ.pure ((Lit.int .i64 x.k).wf=true)).and ((bQ.pure ((Lit.int .i64 x.n).wf=true)).and ((((lD.slice 16)).deep x.p).and ((bQ.pure ((Lit.int .u8 x.fn).wf=true)).and (bQ.true)))))⟩
set_option maxRecDepth 100000 in
theorem opens_op{H:Type}{enc:TypeId×Value→H}{w:World}:mE enc Tryz.prog w 72 opE.cells opTy.deep:=fun fuel cs x h hw=>by
 obtain⟨xs,n,_,rfl,hlen,hxl,hf⟩:=DataW.trod_struct Tryz.underlying72 h;have hc:Tryz.prog.cellsOf 72=5:=by kernel_rfl
 rw [hc] at hlen;have hxl':xs.length=5:=hxl
 match cs,hlen with
 | [c0,c1,c2,c3,c4],_=>
  have h0:DataW.trod enc Tryz.prog w 0 (fun _=>true) true n 3 (([c0,c1,c2,c3,c4].drop 0).take (Tryz.prog.cellsOf 3))=xs[0]?:=hf 0 _ rfl;have h1:DataW.trod enc Tryz.prog w 0 (fun _=>true) true n 3 (([c0,c1,c2,c3,c4].drop 1).take (Tryz.prog.cellsOf 3))=xs[1]?:=hf 1 _ rfl;have h2:DataW.trod enc Tryz.prog w 0 (fun _=>true) true n 2 (([c0,c1,c2,c3,c4].drop 2).take (Tryz.prog.cellsOf 2))=xs[2]?:=hf 2 _ rfl;have h3:DataW.trod enc Tryz.prog w 0 (fun _=>true) true n 47 (([c0,c1,c2,c3,c4].drop 3).take (Tryz.prog.cellsOf 47))=xs[3]?:=hf 3 _ rfl;have h4:DataW.trod enc Tryz.prog w 0 (fun _=>true) true n 58 (([c0,c1,c2,c3,c4].drop 4).take (Tryz.prog.cellsOf 58))=xs[4]?:=hf 4 _ rfl;rw [List.getElem?_eq_getElem (by omega)] at h0;obtain⟨a0,e0,d0⟩:=(fX Tryz.underlying3) _ _ _ h0 (cF Tryz.underlying72 hw (j:=0) rfl (by rw [List.getElem?_map,List.getElem?_eq_getElem (by omega)];rfl))
  have q0:[c0]=[.int .i64 a0]:=by
   have hk:Tryz.prog.cellsOf 3=1:=by kernel_rfl
   rw [hk] at e0;exact e0
  clear e0;simp only [List.cons.injEq,and_true] at q0;rw [List.getElem?_eq_getElem (by omega)] at h1;obtain⟨a1,e1,d1⟩:=(fX Tryz.underlying3) _ _ _ h1 (cF Tryz.underlying72 hw (j:=1) rfl (by rw [List.getElem?_map,List.getElem?_eq_getElem (by omega)];rfl))
  have q1:[c1]=[.int .i64 a1]:=by
   have hk:Tryz.prog.cellsOf 3=1:=by kernel_rfl
   rw [hk] at e1;exact e1
  clear e1;simp only [List.cons.injEq,and_true] at q1;rw [List.getElem?_eq_getElem (by omega)] at h2;obtain⟨a2,e2,d2⟩:=(fX Tryz.underlying2) _ _ _ h2 (cF Tryz.underlying72 hw (j:=2) rfl (by rw [List.getElem?_map,List.getElem?_eq_getElem (by omega)];rfl))
  have q2:[c2]=[.int .i64 a2]:=by
   have hk:Tryz.prog.cellsOf 2=1:=by kernel_rfl
   rw [hk] at e2;exact e2
  clear e2;simp only [List.cons.injEq,and_true] at q2;rw [List.getElem?_eq_getElem (by omega)] at h3;obtain⟨a3,e3,d3⟩:=(dF (T:=lD) (b:=16) Tryz.underlying47 (by kernel_rfl) (by kernel_rfl) pT) _ _ _ h3 (cF Tryz.underlying72 hw (j:=3) rfl (by rw [List.getElem?_map,List.getElem?_eq_getElem (by omega)];rfl))
  have q3:[c3]=[.slice a3.addr a3.list.length a3.cap]:=by
   have hk:Tryz.prog.cellsOf 47=1:=by kernel_rfl
   rw [hk] at e3;exact e3
  clear e3;simp only [List.cons.injEq,and_true] at q3;rw [List.getElem?_eq_getElem (by omega)] at h4;obtain⟨a4,e4,d4⟩:=(fX Tryz.underlying58) _ _ _ h4 (cF Tryz.underlying72 hw (j:=4) rfl (by rw [List.getElem?_map,List.getElem?_eq_getElem (by omega)];rfl))
  have q4:[c4]=[.int .u8 a4]:=by
   have hk:Tryz.prog.cellsOf 58=1:=by kernel_rfl
   rw [hk] at e4;exact e4
  clear e4;simp only [List.cons.injEq,and_true] at q4;obtain rfl:=q0;obtain rfl:=q1;obtain rfl:=q2;obtain rfl:=q3;obtain rfl:=q4;exact⟨⟨a0,a1,a2,a3,a4⟩,rfl,d0,d1,d2,d3,d4,trivial⟩
def bufTy:Ty kH:=⟨oS,fun x=>((((lD.slice 16).slicec 24)).deep x.sides).and ((bQ.pure ((Lit.int .i64 x.input).wf=true)).and (bQ.true))⟩
set_option maxRecDepth 100000 in
theorem opens_buf{H:Type}{enc:TypeId×Value→H}{w:World}:mE enc Tryz.prog w 45 oS.cells bufTy.deep:=fun fuel cs x h hw=>by
 obtain⟨xs,n,_,rfl,hlen,hxl,hf⟩:=DataW.trod_struct Tryz.underlying45 h;have hc:Tryz.prog.cellsOf 45=2:=by kernel_rfl
 rw [hc] at hlen;have hxl':xs.length=2:=hxl
 match cs,hlen with
 | [c0,c1],_=>
  have h0:DataW.trod enc Tryz.prog w 0 (fun _=>true) true n 41 (([c0,c1].drop 0).take (Tryz.prog.cellsOf 41))=xs[0]?:=hf 0 _ rfl;have h1:DataW.trod enc Tryz.prog w 0 (fun _=>true) true n 3 (([c0,c1].drop 1).take (Tryz.prog.cellsOf 3))=xs[1]?:=hf 1 _ rfl;rw [List.getElem?_eq_getElem (by omega)] at h0;obtain⟨a0,e0,d0⟩:=(iZ Tryz.underlying41 (dF (T:=(lD.slice 16)) (b:=24) Tryz.underlying41 (by kernel_rfl) (by kernel_rfl) (dF (T:=lD) (b:=16) Tryz.underlying47 (by kernel_rfl) (by kernel_rfl) pT))) _ _ _ h0 (cF Tryz.underlying45 hw (j:=0) rfl (by rw [List.getElem?_map,List.getElem?_eq_getElem (by omega)];rfl))
  have q0:[c0]=[.slice a0.addr a0.list.length a0.cap]:=by
   have hk:Tryz.prog.cellsOf 41=1:=by kernel_rfl
   rw [hk] at e0;exact e0
  clear e0;simp only [List.cons.injEq,and_true] at q0;rw [List.getElem?_eq_getElem (by omega)] at h1;obtain⟨a1,e1,d1⟩:=(fX Tryz.underlying3) _ _ _ h1 (cF Tryz.underlying45 hw (j:=1) rfl (by rw [List.getElem?_map,List.getElem?_eq_getElem (by omega)];rfl))
  have q1:[c1]=[.int .i64 a1]:=by
   have hk:Tryz.prog.cellsOf 3=1:=by kernel_rfl
   rw [hk] at e1;exact e1
  clear e1;simp only [List.cons.injEq,and_true] at q1;obtain rfl:=q0;obtain rfl:=q1;exact⟨⟨a0,a1⟩,rfl,d0,d1,trivial⟩
def yW:Ty fG:=⟨lE,fun x=>(bQ.pure ((Lit.int .i64 x.how).wf=true)).and ((bQ.pure ((Lit.int .i64 x.buf).wf=true)).and ((((lD.slice 16)).deep x.at_).and (((((lD.slice 16).slicec 24)).deep x.loops).and ((bQ.pure ((Lit.int .u8 x.fn).wf=true)).and ((((opTy.slicec 56)).deep x.ops).and (bQ.true))))))⟩
set_option maxRecDepth 100000 in
theorem opens_step{H:Type}{enc:TypeId×Value→H}{w:World}:mE enc Tryz.prog w 61 lE.cells yW.deep:=fun fuel cs x h hw=>by
 obtain⟨xs,n,_,rfl,hlen,hxl,hf⟩:=DataW.trod_struct Tryz.underlying61 h;have hc:Tryz.prog.cellsOf 61=6:=by kernel_rfl
 rw [hc] at hlen;have hxl':xs.length=6:=hxl
 match cs,hlen with
 | [c0,c1,c2,c3,c4,c5],_=>
  have h0:DataW.trod enc Tryz.prog w 0 (fun _=>true) true n 3 (([c0,c1,c2,c3,c4,c5].drop 0).take (Tryz.prog.cellsOf 3))=xs[0]?:=hf 0 _ rfl;have h1:DataW.trod enc Tryz.prog w 0 (fun _=>true) true n 3 (([c0,c1,c2,c3,c4,c5].drop 1).take (Tryz.prog.cellsOf 3))=xs[1]?:=hf 1 _ rfl;have h2:DataW.trod enc Tryz.prog w 0 (fun _=>true) true n 47 (([c0,c1,c2,c3,c4,c5].drop 2).take (Tryz.prog.cellsOf 47))=xs[2]?:=hf 2 _ rfl;have h3:DataW.trod enc Tryz.prog w 0 (fun _=>true) true n 41 (([c0,c1,c2,c3,c4,c5].drop 3).take (Tryz.prog.cellsOf 41))=xs[3]?:=hf 3 _ rfl;have h4:DataW.trod enc Tryz.prog w 0 (fun _=>true) true n 58 (([c0,c1,c2,c3,c4,c5].drop 4).take (Tryz.prog.cellsOf 58))=xs[4]?:=hf 4 _ rfl;have h5:DataW.trod enc Tryz.prog w 0 (fun _=>true) true n 59 (([c0,c1,c2,c3,c4,c5].drop 5).take (Tryz.prog.cellsOf 59))=xs[5]?:=hf 5 _ rfl;rw [List.getElem?_eq_getElem (by omega)] at h0;obtain⟨a0,e0,d0⟩:=(fX Tryz.underlying3) _ _ _ h0 (cF Tryz.underlying61 hw (j:=0) rfl (by rw [List.getElem?_map,List.getElem?_eq_getElem (by omega)];rfl))
  have q0:[c0]=[.int .i64 a0]:=by
   have hk:Tryz.prog.cellsOf 3=1:=by kernel_rfl
   rw [hk] at e0;exact e0
  clear e0;simp only [List.cons.injEq,and_true] at q0;rw [List.getElem?_eq_getElem (by omega)] at h1;obtain⟨a1,e1,d1⟩:=(fX Tryz.underlying3) _ _ _ h1 (cF Tryz.underlying61 hw (j:=1) rfl (by rw [List.getElem?_map,List.getElem?_eq_getElem (by omega)];rfl))
  have q1:[c1]=[.int .i64 a1]:=by
   have hk:Tryz.prog.cellsOf 3=1:=by kernel_rfl
   rw [hk] at e1;exact e1
  clear e1;simp only [List.cons.injEq,and_true] at q1;rw [List.getElem?_eq_getElem (by omega)] at h2;obtain⟨a2,e2,d2⟩:=(dF (T:=lD) (b:=16) Tryz.underlying47 (by kernel_rfl) (by kernel_rfl) pT) _ _ _ h2 (cF Tryz.underlying61 hw (j:=2) rfl (by rw [List.getElem?_map,List.getElem?_eq_getElem (by omega)];rfl))
  have q2:[c2]=[.slice a2.addr a2.list.length a2.cap]:=by
   have hk:Tryz.prog.cellsOf 47=1:=by kernel_rfl
   rw [hk] at e2;exact e2
  clear e2;simp only [List.cons.injEq,and_true] at q2;rw [List.getElem?_eq_getElem (by omega)] at h3;obtain⟨a3,e3,d3⟩:=(iZ Tryz.underlying41 (dF (T:=(lD.slice 16)) (b:=24) Tryz.underlying41 (by kernel_rfl) (by kernel_rfl) (dF (T:=lD) (b:=16) Tryz.underlying47 (by kernel_rfl) (by kernel_rfl) pT))) _ _ _ h3 (cF Tryz.underlying61 hw (j:=3) rfl (by rw [List.getElem?_map,List.getElem?_eq_getElem (by omega)];rfl))
  have q3:[c3]=[.slice a3.addr a3.list.length a3.cap]:=by
   have hk:Tryz.prog.cellsOf 41=1:=by kernel_rfl
   rw [hk] at e3;exact e3
  clear e3;simp only [List.cons.injEq,and_true] at q3;rw [List.getElem?_eq_getElem (by omega)] at h4;obtain⟨a4,e4,d4⟩:=(fX Tryz.underlying58) _ _ _ h4 (cF Tryz.underlying61 hw (j:=4) rfl (by rw [List.getElem?_map,List.getElem?_eq_getElem (by omega)];rfl))
  have q4:[c4]=[.int .u8 a4]:=by
   have hk:Tryz.prog.cellsOf 58=1:=by kernel_rfl
   rw [hk] at e4;exact e4
  clear e4;simp only [List.cons.injEq,and_true] at q4;rw [List.getElem?_eq_getElem (by omega)] at h5;obtain⟨a5,e5,d5⟩:=(iZ Tryz.underlying59 (dF (T:=opTy) (b:=56) Tryz.underlying59 (by kernel_rfl) (by kernel_rfl) opens_op)) _ _ _ h5 (cF Tryz.underlying61 hw (j:=5) rfl (by rw [List.getElem?_map,List.getElem?_eq_getElem (by omega)];rfl))
  have q5:[c5]=[.slice a5.addr a5.list.length a5.cap]:=by
   have hk:Tryz.prog.cellsOf 59=1:=by kernel_rfl
   rw [hk] at e5;exact e5
  clear e5;simp only [List.cons.injEq,and_true] at q5;obtain rfl:=q0;obtain rfl:=q1;obtain rfl:=q2;obtain rfl:=q3;obtain rfl:=q4;obtain rfl:=q5;exact⟨⟨a0,a1,a2,a3,a4,a5⟩,rfl,d0,d1,d2,d3,d4,d5,trivial⟩
def coreTy:Ty kF:=⟨coreE,fun x=>(bQ.pure ((Lit.int .i64 x.vars).wf=true)).and ((((bufTy.slicec 32)).deep x.bufs).and ((((yW.slicec 96)).deep x.steps).and ((((uK.slicec 8)).deep x.outs).and (bQ.true))))⟩
set_option maxRecDepth 100000 in
theorem opens_core{H:Type}{enc:TypeId×Value→H}{w:World}:mE enc Tryz.prog w 31 coreE.cells coreTy.deep:=fun fuel cs x h hw=>by
 obtain⟨xs,n,_,rfl,hlen,hxl,hf⟩:=DataW.trod_struct Tryz.underlying31 h;have hc:Tryz.prog.cellsOf 31=4:=by kernel_rfl
 rw [hc] at hlen;have hxl':xs.length=4:=hxl
 match cs,hlen with
 | [c0,c1,c2,c3],_=>
  have h0:DataW.trod enc Tryz.prog w 0 (fun _=>true) true n 3 (([c0,c1,c2,c3].drop 0).take (Tryz.prog.cellsOf 3))=xs[0]?:=hf 0 _ rfl;have h1:DataW.trod enc Tryz.prog w 0 (fun _=>true) true n 27 (([c0,c1,c2,c3].drop 1).take (Tryz.prog.cellsOf 27))=xs[1]?:=hf 1 _ rfl;have h2:DataW.trod enc Tryz.prog w 0 (fun _=>true) true n 28 (([c0,c1,c2,c3].drop 2).take (Tryz.prog.cellsOf 28))=xs[2]?:=hf 2 _ rfl;have h3:DataW.trod enc Tryz.prog w 0 (fun _=>true) true n 29 (([c0,c1,c2,c3].drop 3).take (Tryz.prog.cellsOf 29))=xs[3]?:=hf 3 _ rfl;rw [List.getElem?_eq_getElem (by omega)] at h0;obtain⟨a0,e0,d0⟩:=(fX Tryz.underlying3) _ _ _ h0 (cF Tryz.underlying31 hw (j:=0) rfl (by rw [List.getElem?_map,List.getElem?_eq_getElem (by omega)];rfl))
  have q0:[c0]=[.int .i64 a0]:=by
   have hk:Tryz.prog.cellsOf 3=1:=by kernel_rfl
   rw [hk] at e0;exact e0
  clear e0;simp only [List.cons.injEq,and_true] at q0;rw [List.getElem?_eq_getElem (by omega)] at h1;obtain⟨a1,e1,d1⟩:=(iZ Tryz.underlying27 (dF (T:=bufTy) (b:=32) Tryz.underlying27 (by kernel_rfl) (by kernel_rfl) opens_buf)) _ _ _ h1 (cF Tryz.underlying31 hw (j:=1) rfl (by rw [List.getElem?_map,List.getElem?_eq_getElem (by omega)];rfl))
  have q1:[c1]=[.slice a1.addr a1.list.length a1.cap]:=by
   have hk:Tryz.prog.cellsOf 27=1:=by kernel_rfl
   rw [hk] at e1;exact e1
  clear e1;simp only [List.cons.injEq,and_true] at q1;rw [List.getElem?_eq_getElem (by omega)] at h2;obtain⟨a2,e2,d2⟩:=(iZ Tryz.underlying28 (dF (T:=yW) (b:=96) Tryz.underlying28 (by kernel_rfl) (by kernel_rfl) opens_step)) _ _ _ h2 (cF Tryz.underlying31 hw (j:=2) rfl (by rw [List.getElem?_map,List.getElem?_eq_getElem (by omega)];rfl))
  have q2:[c2]=[.slice a2.addr a2.list.length a2.cap]:=by
   have hk:Tryz.prog.cellsOf 28=1:=by kernel_rfl
   rw [hk] at e2;exact e2
  clear e2;simp only [List.cons.injEq,and_true] at q2;rw [List.getElem?_eq_getElem (by omega)] at h3;obtain⟨a3,e3,d3⟩:=(iZ Tryz.underlying29 (dF (T:=uK) (b:=8) Tryz.underlying29 (by kernel_rfl) (by kernel_rfl) (fX Tryz.underlying3))) _ _ _ h3 (cF Tryz.underlying31 hw (j:=3) rfl (by rw [List.getElem?_map,List.getElem?_eq_getElem (by omega)];rfl))
  have q3:[c3]=[.slice a3.addr a3.list.length a3.cap]:=by
   have hk:Tryz.prog.cellsOf 29=1:=by kernel_rfl
   rw [hk] at e3;exact e3
  clear e3;simp only [List.cons.injEq,and_true] at q3;obtain rfl:=q0;obtain rfl:=q1;obtain rfl:=q2;obtain rfl:=q3;exact⟨⟨a0,a1,a2,a3⟩,rfl,d0,d1,d2,d3,trivial⟩
section
variable {S : Nat → Prop} {w : World}
theorem pol_of{p:PolV}(h:((lD.slice 16).deep p).p S w):(nK p).p S w:=by
 obtain⟨⟨c1,c2⟩,c3⟩:=h;have c3:p.list.length*16≤140737488355328:=c3;exact⟨c1,by show p.list.length≤8796093022208;omega⟩
theorem list_of{l:Sl PolV}(h:(((lD.slice 16).slicec 24).deep l).p S w):(pO l).p S w:=by
 obtain⟨⟨⟨a1,a2⟩,a3⟩,a4⟩:=h;exact⟨⟨a1,fun p hp=>pol_of (a2 p hp)⟩,a4,a3⟩
theorem op_of{o:OpV}(h:(opTy.deep o).p S w):(opF o).p S w:=pol_of h.2.2.2.1
theorem ops_of{l:Sl OpV}(h:((opTy.slicec 56).deep l).p S w):(opsF l).p S w:=by
 obtain⟨⟨⟨a1,a2⟩,a3⟩,a4⟩:=h;exact⟨⟨a1,fun p hp=>op_of (a2 p hp)⟩,a4,a3⟩
theorem buf_of{b:kH}(h:(bufTy.deep b).p S w):(bufF b).p S w:=list_of h.1
theorem bufs_of{l:Sl kH}(h:((bufTy.slicec 32).deep l).p S w):(bufsF l).p S w:=by
 obtain⟨⟨⟨a1,a2⟩,a3⟩,a4⟩:=h;exact⟨⟨a1,fun p hp=>buf_of (a2 p hp)⟩,a4,a3⟩
theorem step_of{s:fG}(h:(yW.deep s).p S w):(mN s).p S w:=⟨pol_of h.2.2.1,list_of h.2.2.2.1,ops_of h.2.2.2.2.2.1⟩
theorem steps_of{l:Sl fG}(h:((yW.slicec 96).deep l).p S w):(bAd l).p S w:=by
 obtain⟨⟨⟨a1,a2⟩,a3⟩,a4⟩:=h;exact⟨⟨a1,fun p hp=>step_of (a2 p hp)⟩,a4,a3⟩
theorem xW{l:Sl Int}(h:((uK.slicec 8).deep l).p S w):(vC l).p S w:=by
 obtain⟨⟨⟨a1,a2⟩,a3⟩,a4⟩:=h;exact⟨a1,a4,a3⟩
theorem core_of{c:kF}(h:(coreTy.deep c).p S w):(nU c).p S w:=⟨bufs_of h.2.1,steps_of h.2.2.1,xW h.2.2.2.1⟩
end
end Go.Proofs.YtnmhcaahkaocgaaGreatDoor
namespace Go.Proofs.YtnmhcaahkaocgaaGreatDoor
open Go.RowKit
theorem bDp{n:Nat}{Γ:Env}{a:Act}(f:kA n Γ a): ∀(l:List (Nat×Operand)) (vs:List Value),l.map (fun p=>Γ.ev p.2)=vs.map some→l.map (fun p=>(p.1,a.eval p.2))=(l.map Prod.fst).zip vs
 | [],[],_=>rfl
 | [],_::_,h=>by cases h
 | _::_,[],h=>by cases h
 | p::l,v::vs,h=>by
  rw [List.map_cons,List.map_cons] at h;injection h with h1 h2
  rw [List.map_cons,List.map_cons,List.zip_cons_cons,bDp f l vs h2,f.ev h1]
structure LitT (α:Type) where
 E:Flat α
 t:TypeId
 e:TypeId
 z:Value
 under:Tryz.prog.underlying t=some (.slice e)
 info: ∃ie,Tryz.prog.info? e=some ie∧ie.zero=some z∧ie.size=E.size
 pos:0<E.size
 few:E.size≤100
theorem at_lit{α:Type}(T:LitT α)(xs:List α)(l:List (Nat×Operand))(vs:List Value){β:dL}{n:Nat}{Γ:Env}{H:List bM}{F:List bQ}{Q:Exit→Act→World→Prop}{ops:Array Oper}{rest:List Oper}{o:Oper}{d:Nat}(hw:want ops Γ o=some true)(ho:o.op= .buildSlice T.t xs.length l.toArray)(hd:o.dst=some d)(hn:Nat.blt d n=true)
  (hv:l.map (fun p=>Γ.ev p.2)=vs.map some) (h0:0<xs.length) (h1:xs.length≤100)
  (hf:Instr.fill (fun i=>some (i*T.E.size,T.E.size)) ((Array.range (xs.length*T.E.size)).map (T.z.cells[· %T.z.cells.size]!)) ((l.map Prod.fst).zip vs)=some (T.E.all xs).toArray)
  (k: ∀b,At β n ((d,.slice (some ⟨b,0,none⟩) xs.length xs.length)::Γ) H (T.E.sl (.slice (some ⟨b,0,none⟩) xs.length xs.length) xs::F) (wpList Tryz.prog ops Q rest)):At β n Γ H F (wpList Tryz.prog ops Q (o::rest)):=by
 obtain⟨ie,hi,hz,hs⟩:=T.info;refine bAw (m:=xs.length) (parts:=l.toArray) (e:=T.e) (cs:=T.E.all xs) hw ho hd hn (fun a w f=>?_) fun b=>?_
 ·have hp:=T.pos;have hq:=T.few;have hm:xs.length*T.E.size≤100*100:=Nat.mul_le_mul h1 hq;have hm0:0<xs.length*T.E.size:=Nat.mul_pos h0 hp;refine run_buildSlice (P:=Tryz.prog) w T.t T.e xs.length _ (T.E.all xs).toArray ie T.z T.under hi hz (by rw [hs];omega) (by rw [hs];omega) ?_;rw [hs]
  have:(l.toArray.map fun(p:Nat×Operand)=>(p.1,a.eval p.2)).toList=(l.map Prod.fst).zip vs:=by
   rw [←bDp f l vs hv];simp
  rw [this];exact hf
 ·refine wC (E:=T.E) (xs:=xs) .head ?_;exact xB .head (k b)
def opT:LitT OpV:=⟨opE,59,72,.agg #[.int .i64 0,.int .i64 0,.int .i64 0,.slice none 0 0,.int .u8 0],Tryz.underlying59,by
 have h:(Tryz.prog.info? 72).map (fun i=>(i.zero,i.size))=some (some (.agg #[.int .i64 0,.int .i64 0,.int .i64 0,.slice none 0 0,.int .u8 0]),5):=by kernel_rfl
 cases hi:Tryz.prog.info? 72 with
 | none=>simp [hi] at h
 | some i=>simp [hi] at h;exact⟨i,rfl,h.1,h.2⟩,by decide,by decide⟩
def bufT:LitT kH:=⟨oS,27,45,.agg #[.slice none 0 0,.int .i64 0],Tryz.underlying27,by
 have h:(Tryz.prog.info? 45).map (fun i=>(i.zero,i.size))=some (some (.agg #[.slice none 0 0,.int .i64 0]),2):=by kernel_rfl
 cases hi:Tryz.prog.info? 45 with
 | none=>simp [hi] at h
 | some i=>simp [hi] at h;exact⟨i,rfl,h.1,h.2⟩,by decide,by decide⟩
def stepT:LitT fG:=⟨lE,28,61,.agg #[.int .i64 0,.int .i64 0,.slice none 0 0,.slice none 0 0,.int .u8 0,.slice none 0 0],Tryz.underlying28,by
 have h:(Tryz.prog.info? 61).map (fun i=>(i.zero,i.size))=some (some (.agg #[.int .i64 0,.int .i64 0,.slice none 0 0,.slice none 0 0,.int .u8 0,.slice none 0 0]),6):=by kernel_rfl
 cases hi:Tryz.prog.info? 61 with
 | none=>simp [hi] at h
 | some i=>simp [hi] at h;exact⟨i,rfl,h.1,h.2⟩,by decide,by decide⟩
end Go.Proofs.YtnmhcaahkaocgaaGreatDoor
namespace Go.Proofs.YtnmhcaahkaocgaaGreatDoor
open Go.RowKit
structure CasV where
 c:kF
 dims:(Sl Int)
 ins:(Sl ArrV)
 deriving Inhabited
def casE:Flat CasV where
 size:=6
 cells:=fun x=>[.int .i64 x.c.vars,.slice x.c.bufs.addr x.c.bufs.list.length x.c.bufs.cap,.slice x.c.steps.addr x.c.steps.list.length x.c.steps.cap,.slice x.c.outs.addr x.c.outs.list.length x.c.outs.cap,.slice x.dims.addr x.dims.list.length x.dims.cap,.slice x.ins.addr x.ins.list.length x.ins.cap]
 len:=fun _=>rfl
 one:=fun x u hu=>by
  simp at hu
  rcases hu with rfl | rfl | rfl | rfl | rfl | rfl<;>rfl
 pos:=by decide
def casT:Tab:=[(3,⟨.int .i64,1⟩),(2,⟨.int .i64,1⟩),(5,⟨.int .u8,1⟩),(4,⟨.bool,1⟩),(58,⟨.int .u8,1⟩),(32,⟨.int .i64,1⟩),(47,⟨.slice 75,1⟩),(41,⟨.slice 47,1⟩),(72,⟨.struct [(3,0),(3,1),(2,2),(47,3),(58,4)],5⟩),(59,⟨.slice 72,1⟩),(45,⟨.struct [(41,0),(3,1)],2⟩),(27,⟨.slice 45,1⟩),(61,⟨.struct [(3,0),(3,1),(47,2),(41,3),(58,4),(59,5)],6⟩),(28,⟨.slice 61,1⟩),(29,⟨.slice 3,1⟩),(57,⟨.slice 4,1⟩),(31,⟨.struct [(3,0),(27,1),(28,2),(29,3)],4⟩),(114,⟨.struct [(3,0),(3,1),(3,2),(57,3)],4⟩),(63,⟨.slice 2,1⟩),(123,⟨.slice 63,1⟩),(77,⟨.struct [(63,0),(63,1)],2⟩),(64,⟨.slice 77,1⟩),(125,⟨.struct [(31,0),(63,4),(123,5),(2,6),(63,7)],8⟩),(132,⟨.struct [(31,0),(63,4),(123,5),(2,6)],7⟩),(66,⟨.struct [(31,0),(63,4),(64,5)],6⟩),(111,⟨.array 64 4,64⟩),(75,⟨.struct [(2,0),(73,1)],7⟩),(73,⟨.array 6 5,6⟩),(224,⟨.slice 5,1⟩),(304,⟨.int .u64,1⟩),(112,⟨.other,1⟩),(177,⟨.other,1⟩),(118,⟨.other,1⟩),(181,⟨.other,1⟩),(122,⟨.other,1⟩),(130,⟨.other,1⟩),(195,⟨.other,1⟩),(189,⟨.other,1⟩),(277,⟨.int .u64,1⟩),(368,⟨.other,1⟩)]
theorem casT_ok:dV Tryz.prog casT:=rF.ok
 ⟨⟨by rw [Tryz.underlying3];rfl,by kernel_rfl⟩,
  ⟨by rw [Tryz.underlying2];rfl,by kernel_rfl⟩,
  ⟨by rw [Tryz.underlying5];rfl,by kernel_rfl⟩,
  ⟨by rw [Tryz.underlying4];rfl,by kernel_rfl⟩,
  ⟨by rw [Tryz.underlying58];rfl,by kernel_rfl⟩,
  ⟨by rw [Tryz.underlying32];rfl,by kernel_rfl⟩,
  ⟨by rw [Tryz.underlying47];rfl,by kernel_rfl⟩,
  ⟨by rw [Tryz.underlying41];rfl,by kernel_rfl⟩,
  ⟨by rw [Tryz.underlying72];rfl,by kernel_rfl⟩,
  ⟨by rw [Tryz.underlying59];rfl,by kernel_rfl⟩,
  ⟨by rw [Tryz.underlying45];rfl,by kernel_rfl⟩,
  ⟨by rw [Tryz.underlying27];rfl,by kernel_rfl⟩,
  ⟨by rw [Tryz.underlying61];rfl,by kernel_rfl⟩,
  ⟨by rw [Tryz.underlying28];rfl,by kernel_rfl⟩,
  ⟨by rw [Tryz.underlying29];rfl,by kernel_rfl⟩,
  ⟨by rw [Tryz.underlying57];rfl,by kernel_rfl⟩,
  ⟨by rw [Tryz.underlying31];rfl,by kernel_rfl⟩,
  ⟨by rw [Tryz.underlying114];rfl,by kernel_rfl⟩,
  ⟨by rw [Tryz.underlying63];rfl,by kernel_rfl⟩,
  ⟨by rw [Tryz.underlying123];rfl,by kernel_rfl⟩,
  ⟨by rw [Tryz.underlying77];rfl,by kernel_rfl⟩,
  ⟨by rw [Tryz.underlying64];rfl,by kernel_rfl⟩,
  ⟨by rw [Tryz.underlying125];rfl,by kernel_rfl⟩,
  ⟨by rw [Tryz.underlying132];rfl,by kernel_rfl⟩,
  ⟨by rw [Tryz.underlying66];rfl,by kernel_rfl⟩,
  ⟨by rw [Tryz.underlying111];rfl,by kernel_rfl⟩,
  ⟨by rw [Tryz.underlying75];rfl,by kernel_rfl⟩,
  ⟨by rw [Tryz.underlying73];rfl,by kernel_rfl⟩,
  ⟨by rw [Tryz.underlying224];rfl,by kernel_rfl⟩,
  ⟨by rw [Tryz.underlying304];rfl,by kernel_rfl⟩,
  ⟨by rw [Tryz.underlying112];rfl,by kernel_rfl⟩,
  ⟨by rw [Tryz.underlying177];rfl,by kernel_rfl⟩,
  ⟨by rw [Tryz.underlying118];rfl,by kernel_rfl⟩,
  ⟨by rw [Tryz.underlying181];rfl,by kernel_rfl⟩,
  ⟨by rw [Tryz.underlying122];rfl,by kernel_rfl⟩,
  ⟨by rw [Tryz.underlying130];rfl,by kernel_rfl⟩,
  ⟨by rw [Tryz.underlying195];rfl,by kernel_rfl⟩,
  ⟨by rw [Tryz.underlying189];rfl,by kernel_rfl⟩,
  ⟨by rw [Tryz.underlying277];rfl,by kernel_rfl⟩,
  ⟨by rw [Tryz.underlying368];rfl,by kernel_rfl⟩,trivial⟩
def arrsF (l:Sl ArrV):bQ:=((kO.sl (.slice l.addr l.list.length l.cap) l.list).and (bQ.each l.list xF)).and (uX 48 l)
section
variable {F : List bQ} {l : Sl ArrV}
theorem arrsF_s(h:Has F (arrsF l)):Has F (kO.sl (.slice l.addr l.list.length l.cap) l.list):=h.left.left
theorem arrsF_e(h:Has F (arrsF l)):Has F (bQ.each l.list xF):=h.left.right
end
end Go.Proofs.YtnmhcaahkaocgaaGreatDoor
namespace Go.Proofs.YtnmhcaahkaocgaaGreatDoor
open Go.RowKit Go.ChangeShapes Go.WideShapes
def arrTy:Ty ArrV:=⟨kO,fun x=>(((uK.slicec 8)).deep x.sides).and ((((uK.slicec 8)).deep x.data).and (bQ.true))⟩
set_option maxRecDepth 100000 in
theorem opens_arr{H:Type}{enc:TypeId×Value→H}{w:World}:mE enc Tryz.prog w 77 kO.cells arrTy.deep:=fun fuel cs x h hw=>by
 obtain⟨xs,n,_,rfl,hlen,hxl,hf⟩:=DataW.trod_struct Tryz.underlying77 h;have hc:Tryz.prog.cellsOf 77=2:=by kernel_rfl
 rw [hc] at hlen;have hxl':xs.length=2:=hxl
 match cs,hlen with
 | [c0,c1],_=>
  have h0:DataW.trod enc Tryz.prog w 0 (fun _=>true) true n 63 (([c0,c1].drop 0).take (Tryz.prog.cellsOf 63))=xs[0]?:=hf 0 _ rfl;have h1:DataW.trod enc Tryz.prog w 0 (fun _=>true) true n 63 (([c0,c1].drop 1).take (Tryz.prog.cellsOf 63))=xs[1]?:=hf 1 _ rfl;rw [List.getElem?_eq_getElem (by omega)] at h0;obtain⟨a0,e0,d0⟩:=(iZ Tryz.underlying63 (dF (T:=uK) (b:=8) Tryz.underlying63 (by kernel_rfl) (by kernel_rfl) (fX Tryz.underlying2))) _ _ _ h0 (cF Tryz.underlying77 hw (j:=0) rfl (by rw [List.getElem?_map,List.getElem?_eq_getElem (by omega)];rfl))
  have q0:[c0]=[.slice a0.addr a0.list.length a0.cap]:=by
   have hk:Tryz.prog.cellsOf 63=1:=by kernel_rfl
   rw [hk] at e0;exact e0
  clear e0;simp only [List.cons.injEq,and_true] at q0;rw [List.getElem?_eq_getElem (by omega)] at h1;obtain⟨a1,e1,d1⟩:=(iZ Tryz.underlying63 (dF (T:=uK) (b:=8) Tryz.underlying63 (by kernel_rfl) (by kernel_rfl) (fX Tryz.underlying2))) _ _ _ h1 (cF Tryz.underlying77 hw (j:=1) rfl (by rw [List.getElem?_map,List.getElem?_eq_getElem (by omega)];rfl))
  have q1:[c1]=[.slice a1.addr a1.list.length a1.cap]:=by
   have hk:Tryz.prog.cellsOf 63=1:=by kernel_rfl
   rw [hk] at e1;exact e1
  clear e1;simp only [List.cons.injEq,and_true] at q1;obtain rfl:=q0;obtain rfl:=q1;exact⟨⟨a0,a1⟩,rfl,d0,d1,trivial⟩
def casTy:Ty CasV:=⟨casE,fun x=>(coreTy.deep x.c).and ((((uK.slicec 8)).deep x.dims).and ((((arrTy.slicec 48)).deep x.ins).and (bQ.true)))⟩
set_option maxRecDepth 100000 in
theorem opens_cas{H:Type}{enc:TypeId×Value→H}{w:World}:mE enc Tryz.prog w 66 casE.cells casTy.deep:=fun fuel cs x h hw=>by
 obtain⟨xs,n,_,rfl,hlen,hxl,hf⟩:=DataW.trod_struct Tryz.underlying66 h;have hc:Tryz.prog.cellsOf 66=6:=by kernel_rfl
 rw [hc] at hlen;have hxl':xs.length=3:=hxl
 match cs,hlen with
 | [c0,c1,c2,c3,c4,c5],_=>
  have h0:DataW.trod enc Tryz.prog w 0 (fun _=>true) true n 31 (([c0,c1,c2,c3,c4,c5].drop 0).take (Tryz.prog.cellsOf 31))=xs[0]?:=hf 0 _ rfl;have h1:DataW.trod enc Tryz.prog w 0 (fun _=>true) true n 63 (([c0,c1,c2,c3,c4,c5].drop 4).take (Tryz.prog.cellsOf 63))=xs[1]?:=hf 1 _ rfl;have h2:DataW.trod enc Tryz.prog w 0 (fun _=>true) true n 64 (([c0,c1,c2,c3,c4,c5].drop 5).take (Tryz.prog.cellsOf 64))=xs[2]?:=hf 2 _ rfl;rw [List.getElem?_eq_getElem (by omega)] at h0;obtain⟨a0,e0,d0⟩:=opens_core _ _ _ h0 (cF Tryz.underlying66 hw (j:=0) rfl (by rw [List.getElem?_map,List.getElem?_eq_getElem (by omega)];rfl))
  have q0:[c0,c1,c2,c3]=[.int .i64 a0.vars,.slice a0.bufs.addr a0.bufs.list.length a0.bufs.cap,.slice a0.steps.addr a0.steps.list.length a0.steps.cap,.slice a0.outs.addr a0.outs.list.length a0.outs.cap]:=by
   have hk:Tryz.prog.cellsOf 31=4:=by kernel_rfl
   rw [hk] at e0;exact e0
  clear e0;simp only [List.cons.injEq,and_true] at q0;rw [List.getElem?_eq_getElem (by omega)] at h1;obtain⟨a1,e1,d1⟩:=(iZ Tryz.underlying63 (dF (T:=uK) (b:=8) Tryz.underlying63 (by kernel_rfl) (by kernel_rfl) (fX Tryz.underlying2))) _ _ _ h1 (cF Tryz.underlying66 hw (j:=1) rfl (by rw [List.getElem?_map,List.getElem?_eq_getElem (by omega)];rfl))
  have q1:[c4]=[.slice a1.addr a1.list.length a1.cap]:=by
   have hk:Tryz.prog.cellsOf 63=1:=by kernel_rfl
   rw [hk] at e1;exact e1
  clear e1;simp only [List.cons.injEq,and_true] at q1;rw [List.getElem?_eq_getElem (by omega)] at h2;obtain⟨a2,e2,d2⟩:=(iZ Tryz.underlying64 (dF (T:=arrTy) (b:=48) Tryz.underlying64 (by kernel_rfl) (by kernel_rfl) opens_arr)) _ _ _ h2 (cF Tryz.underlying66 hw (j:=2) rfl (by rw [List.getElem?_map,List.getElem?_eq_getElem (by omega)];rfl))
  have q2:[c5]=[.slice a2.addr a2.list.length a2.cap]:=by
   have hk:Tryz.prog.cellsOf 64=1:=by kernel_rfl
   rw [hk] at e2;exact e2
  clear e2;simp only [List.cons.injEq,and_true] at q2;obtain⟨rfl,rfl,rfl,rfl⟩:=q0;obtain rfl:=q1;obtain rfl:=q2;exact⟨⟨a0,a1,a2⟩,rfl,d0,d1,d2,trivial⟩
section
variable {S : Nat → Prop} {w : World}
theorem arr_of{y:ArrV}(h:(arrTy.deep y).p S w):(xF y).p S w:=⟨xW h.1,xW h.2.1⟩
theorem arrs_of{l:Sl ArrV}(h:((arrTy.slicec 48).deep l).p S w):(arrsF l).p S w:=by
 obtain⟨⟨⟨a1,a2⟩,a3⟩,a4⟩:=h;exact⟨⟨a1,fun p hp=>arr_of (a2 p hp)⟩,a4,a3⟩
theorem cas_of{x:CasV}(h:(casTy.deep x).p S w):(nU x.c).p S w∧(vC x.dims).p S w∧(arrsF x.ins).p S w:=⟨core_of h.1,xW h.2.1,arrs_of h.2.2.1⟩
end
end Go.Proofs.YtnmhcaahkaocgaaGreatDoor
namespace Go.Proofs.YtnmhcaahkaocgaaGreatDoor
open Go.RowKit
def bBb (y:ArrV):bQ:=((cL.sl (.slice y.sides.addr y.sides.list.length y.sides.cap) y.sides.list).and (cL.sl (.slice y.data.addr y.data.list.length y.data.cap) y.data.list)).and (bQ.pure (y.sides.list.length≤9223372036854775807∧y.data.list.length≤9223372036854775807))
section
variable {F : List bQ} {y : ArrV}
theorem arrM_s(h:Has F (bBb y)):Has F (cL.sl (.slice y.sides.addr y.sides.list.length y.sides.cap) y.sides.list):=h.left.left
theorem arrM_d(h:Has F (bBb y)):Has F (cL.sl (.slice y.data.addr y.data.list.length y.data.cap) y.data.list):=h.left.right
theorem arrM_k{l:List ArrV}(h:Has F (bQ.each l bBb)):Has F (bQ.pure (∀a∈l,a.sides.list.length≤9223372036854775807∧a.data.list.length≤9223372036854775807)):=fun S w k a ha=>(h S w k a ha).2
end
section
variable {α : Type} {E : Flat α} {P : Program} {β : dL} {n : Nat} {Γ : Env} {H : List bM} {F : List bQ} {K : Act → World → Prop}
theorem rV{A:Option Addr}{t:TypeId}{m cap:Nat}{xs:List α}{H':List bM}(hH:dE H (E.row (.slice A m cap) t xs) H')(h:xs.length≤9223372036854775807→At β n Γ H F K):At β n Γ H F K:=fun a w S f s k=>by
 have hown:w.ownsRow 0 t E.size (.slice A m cap) xs.length (E.all xs):=s.ok _ hH.mem;refine h ?_ a w S f s k;have hm:maxLen=9223372036854775807:=by simp [maxLen]
 rcases hown.2 with ⟨_,e0⟩ | ⟨g,cap',cur,e1,h1,h2,h3,h4,_⟩
 ·omega
 ·injection e1 with e1 e2 e3
  omega
theorem nM: ∀(l:List ArrV) {H:List bM} {F:List bQ},At β n Γ H (bQ.each l bBb::F) K→At β n Γ (famA l++H) F K
 | [],H,F,h=>cI (bQ.each [] bBb) Has.each_nil h
 | y::r,H,F,h=>by
  refine rV (E:=cL) (A:=y.sides.addr) (cap:=y.sides.cap) (t:=2) (m:=y.sides.list.length) (xs:=y.sides.list) .head fun h1=>?_;refine jR (E:=cL) .head ?_;refine rV (E:=cL) (A:=y.data.addr) (cap:=y.data.cap) (t:=2) (m:=y.data.list.length) (xs:=y.data.list) .head fun h2=>?_;refine jR (E:=cL) .head ?_;refine nM r ?_;refine cI (bQ.each (y::r) bBb) (Has.each_cons (Has.and (Has.and (Has.of (.tail _ (.tail _ (.head _)))) (Has.of (.tail _ (.head _)))) (Has.pure ⟨h1,h2⟩)) (Has.of (.head _))) ?_;exact at_drop (G:=bQ.each (y::r) bBb::F) ⟨Has.of (.head _),bO.drop 4⟩ h
end
def kR:kH:=⟨⟨none,0,[]⟩,-1⟩
def oV:OpV:=⟨1,0,7,⟨none,0,[]⟩,0⟩
def fC (n OA:Nat):fG:=⟨1,(n:Int),⟨none,0,[]⟩,⟨none,0,[]⟩,0,⟨some ⟨OA,0,none⟩,1,[oV]⟩⟩
def moreV (c:kF)(NA SA:Option Addr)(nc sc OA:Nat):kF:=⟨c.vars,⟨NA,nc,c.bufs.list++[kR]⟩,⟨SA,sc,c.steps.list++[fC c.bufs.list.length OA]⟩,c.outs⟩
theorem moreV_c(c:kF)(NA SA:Option Addr)(nc sc OA:Nat):(moreV c NA SA nc sc OA).c=moreCore c.c:=by
 have h:c.c.bufs.length=c.bufs.list.length:=cR _;show(⟨_,bufsL (_++_),oU (_++_),_⟩:jK)=⟨_,bufsL _++_,oU _++_,_⟩;rw [h];unfold bufsL oU;rw [List.map_append,List.map_append];rfl
section
variable {F : List bQ}
theorem each_app{α:Type}{g:α→bQ}{l m:List α}(h:Has F (bQ.each l g))(k:Has F (bQ.each m g)):Has F (bQ.each (l++m) g):=fun S w q y hy=>by
 rcases List.mem_append.1 hy with hy | hy
 ·exact h S w q y hy
 ·exact k S w q y hy
theorem nul_sl{α:Type}{E:Flat α}:Has F (E.sl (.slice none 0 0) []):=fun _ _ _=>⟨none,0,rfl,fun _ _ h=>by cases h⟩
theorem polF_nul:Has F (nK ⟨none,0,[]⟩):=Has.and nul_sl (Has.pure (by decide))
theorem bDk:Has F (pO ⟨none,0,[]⟩):=Has.and (Has.and nul_sl Has.each_nil) (Has.pure (by decide))
theorem moreV_f{c:kF}{NA SA:Option Addr}{nc sc OA:Nat}(hc:Has F (nU c))(hb:Has F (oS.sl (.slice NA (c.bufs.list++[kR]).length nc) (c.bufs.list++[kR])))(hs:Has F (lE.sl (.slice SA (c.steps.list++[fC c.bufs.list.length OA]).length sc) (c.steps.list++[fC c.bufs.list.length OA])))
  (ho:Has F (opE.sl (.slice (some ⟨OA,0,none⟩) 1 1) [oV])) (h1:(c.bufs.list++[kR]).length≤nc) (h2:(c.steps.list++[fC c.bufs.list.length OA]).length≤sc) (h3:c.bufs.list.length<1024) (h4:c.steps.list.length<1024):Has F (nU (moreV c NA SA nc sc OA)):=by
 refine Has.and (Has.and (Has.and hb (each_app (xK (lZ hc)) (Has.each_cons bDk Has.each_nil))) (Has.pure ⟨h1,?_⟩)) (Has.and (Has.and (Has.and hs (each_app (bBr (sM hc)) (Has.each_cons (Has.and polF_nul (Has.and bDk ?_)) Has.each_nil))) (Has.pure ⟨h2,?_⟩)) (coreF_o (c:=c) hc))
 ·show(c.bufs.list++[kR]).length*32≤140737488355328;rw [List.length_append,List.length_singleton];omega
 ·exact Has.and (Has.and ho (Has.each_cons polF_nul Has.each_nil)) (Has.pure ⟨Nat.le_refl _,by show 1*56≤140737488355328;decide⟩)
 ·show(c.steps.list++[fC c.bufs.list.length OA]).length*96≤140737488355328;rw [List.length_append,List.length_singleton];omega
end
end Go.Proofs.YtnmhcaahkaocgaaGreatDoor
namespace Go.Proofs.YtnmhcaahkaocgaaGreatDoor
open Go.RowKit
theorem xZ{α β:Type}{f:α→β}{l:List α}{i:Nat}{x:α}(h:l[i]?=some x):(l.map f)[i]?=some (f x):=by simp [h]
theorem arr_ext{x u:ArrV}:x.arr=u.arr↔x.sides.list=u.sides.list∧x.data.list=u.data.list:=by
 unfold ArrV.arr;simp
theorem same_a{x u:ArrV}(h:decide (x.sides.list=u.sides.list)=true):Value.bool (decide (x.data.list=u.data.list))= .bool (decide (x.arr=u.arr)):=by
 have h:=of_decide_eq_true h
 congr 1
 rw [Bool.eq_iff_iff];simp [arr_ext,h]
theorem same_b{x u:ArrV}(h:decide (x.sides.list=u.sides.list)=false):Value.bool false= .bool (decide (x.arr=u.arr)):=by
 have h:=of_decide_eq_false h
 congr 1
 rw [Bool.eq_iff_iff];simp [arr_ext,h]
theorem eqA_f{a b:List Arr}(h:a≠b):Value.bool false= .bool (decide (a=b)):=by simp [h]
theorem eqA_t{a b:List Arr}(h:a=b):Value.bool true= .bool (decide (a=b)):=by simp [h]
set_option maxRecDepth 100000 in
theorem bDh(A B:Option Addr)(ca cb:Nat)(a b:List Int)(hl:a.length≤9223372036854775807):dX Tryz.prog 79 [.slice A a.length ca,.slice B b.length cb] [] [cL.sl (.slice A a.length ca) a,cL.sl (.slice B b.length cb) b] (fun(_:Unit)=> .bool (decide (a=b))) (fun _=>[]) (fun _=>[]):=by
 have hT:=cV;refine cO Tryz.func79 rfl Tryz.ntmps79 rfl ?_;intro β hM;refine sr<|sp hT ?_;refine nn<|bH<|sr<|sp4 hT ?_;refine sp hT ?_;refine nn<|bN rfl (fun hc10=>?_) (fun hc10=>?_)
 ·have hc10:=bne_iff_ne.1 hc10;refine sr<|sp hT ?_;refine nn<|bJ<|bL ?_;exact bK () rfl (bI rfl) .nil trivial (oL (fun e=>by have:=congrArg List.length e;omega))
 have hc10:=bne_eq_false_iff_eq.1 hc10;refine bS<|bF<|bH<|sr<|sp hT ?_;refine nn<|bY<|dR (ι:=Nat) [(0,_),(1,_)] ⟨rfl,rfl,trivial⟩ (fun i=>[(5,.int .i64 (i:Nat))]) (fun _=>[]) (fun i=>[bQ.pure (i≤a.length∧a.take i=b.take i)]) (fun i=>a.length-i) 0 ⟨rfl,trivial⟩ .nil ⟨Has.pure (⟨by omega,rfl⟩),trivial⟩ ?_;rintro i;refine cG (Has.of mT0) fun hinv4=>?_;refine bH<|sr<|sp4 hT ?_;refine nn<|bN rfl (fun hc14=>?_) (fun hc14=>?_)
 ·have hc14:=of_decide_eq_true hc14;refine bS<|bF<|bH<|bY<|bH<|jA _ _ [(true,0),(true,1),(true,2),(true,3),(true,4),(true,5),(true,6),(true,7),(true,8)] gL (by decide+kernel) .nil bO.self ?_;refine puM hT ?_;refine puM hT ?_
  obtain⟨x1,hx2⟩: ∃x',a[i]?=some x':=⟨_,List.getElem?_eq_getElem (by omega)⟩
  refine stM rfl (cC hT (k:=i) (bR (Has.of mT1)) rfl rfl rfl rfl rfl rfl rfl (by omega)) ?_;refine stM rfl (bP hT (cN.knows (bR (Has.of mT1)) (k:=i) (x:=x1) hx2 0) rfl rfl rfl rfl rfl) ?_;refine puM hT ?_;refine puM hT ?_
  obtain⟨x3,hx4⟩: ∃x',b[i]?=some x':=⟨_,List.getElem?_eq_getElem (by omega)⟩
  refine stM rfl (cC hT (k:=i) (bR (Has.of mT2)) rfl rfl rfl rfl rfl rfl rfl (by omega)) ?_;refine stM rfl (bP hT (cN.knows (bR (Has.of mT2)) (k:=i) (x:=x3) hx4 0) rfl rfl rfl rfl rfl) ?_;refine puM hT ?_;refine dH<|bF<|bN rfl (fun hc25=>?_) (fun hc25=>?_)
  ·have hc25:=bne_iff_ne.1 hc25;refine sr<|sp hT ?_;refine nn<|bJ<|bT<|bL<|bL<|bT<|bL ?_;exact bK () rfl (bI rfl) .nil trivial (oL (bAu hx2 hx4 ‹_›))
  have hc25:=bne_eq_false_iff_eq.1 hc25;refine bS<|cB<|bF<|bE<|sp2 hT ?_;refine cD (z':=(((i+1):Nat):Int)) (dM (by omega) (by omega)) ?_;refine sp hT ?_;refine nn ?_;exact cT (i+1) (by omega) ⟨rfl,trivial⟩ ⟨rfl,rfl,trivial⟩ .nil ⟨Has.pure (⟨by omega,wA hinv4.2 hx2 hx4 ‹_›⟩),trivial⟩ (bO.drop 1)
 have hc14:=Int.not_lt.1 (of_decide_eq_false hc14);refine dQ<|cP<|cP<|dN<|bF<|sr<|sp hT ?_;refine nn<|bJ ?_;exact bK () rfl (bI rfl) .nil trivial (bBv (bBg hinv4.2 (by omega) (by omega)))
set_option maxRecDepth 100000 in
theorem same6_spec(x u:ArrV)(hs:x.sides.list.length≤9223372036854775807)(hd:x.data.list.length≤9223372036854775807):dX Tryz.prog 37 [.agg #[.slice x.sides.addr x.sides.list.length x.sides.cap,.slice x.data.addr x.data.list.length x.data.cap],.agg #[.slice u.sides.addr u.sides.list.length u.sides.cap,.slice u.data.addr u.data.list.length u.data.cap]] [] [cL.sl (.slice x.sides.addr x.sides.list.length x.sides.cap) x.sides.list,cL.sl (.slice x.data.addr x.data.list.length x.data.cap) x.data.list,cL.sl (.slice u.sides.addr u.sides.list.length u.sides.cap) u.sides.list,cL.sl (.slice u.data.addr u.data.list.length u.data.cap) u.data.list] (fun(_:Unit)=> .bool (decide (x.arr=u.arr))) (fun _=>[]) (fun _=>[]):=by
 have hT:=cV;refine cO Tryz.func37 rfl Tryz.ntmps37 rfl ?_;intro β hM;refine sr<|jB rfl rfl rfl rfl rfl rfl fun b1=>?_;refine jB rfl rfl rfl rfl rfl rfl fun b2=>?_;refine sp hT ?_;refine nn<|sr<|sp hT ?_;refine ss (ldO hT (fE kT1)) ?_;refine sp hT ?_;refine ss (ldO hT (fE .head)) ?_;refine cM Tryz.func79 (bDh _ _ _ _ _ _ (by omega)) rfl rfl .nil ⟨Has.of mT0,Has.of mT2,trivial⟩ fun _=>?_;refine sp hT ?_;refine bZ (fun hg10=>?_) (fun hg10=>?_)
 ·refine sp hT ?_;refine ss (ldO hT (gZ kT1)) ?_;refine sp hT ?_;refine ss (ldO hT (gZ .head)) ?_;refine cM Tryz.func79 (bDh _ _ _ _ _ _ (by omega)) rfl rfl .nil ⟨Has.of mT1,Has.of mT3,trivial⟩ fun _=>?_;refine sp2 hT ?_;refine nn<|bJ ?_;exact bK () rfl (bI rfl) .nil trivial (by first | exact same_a ‹_› | exact same_b ‹_›)
 refine sk4 ?_;refine sk ?_;refine sp2 hT ?_;refine nn<|bJ ?_;exact bK () rfl (bI rfl) .nil trivial (by first | exact same_a ‹_› | exact same_b ‹_›)
set_option maxRecDepth 100000 in
theorem yT(A B:Option Addr)(ca cb:Nat)(xs ys:List ArrV)(hl:xs.length≤9223372036854775807)(hX: ∀a∈xs,a.sides.list.length≤9223372036854775807∧a.data.list.length≤9223372036854775807):dX Tryz.prog 19 [.slice A xs.length ca,.slice B ys.length cb] [] [kO.sl (.slice A xs.length ca) xs,bQ.each xs bBb,kO.sl (.slice B ys.length cb) ys,bQ.each ys bBb] (fun(_:Unit)=> .bool (decide (xs.map ArrV.arr=ys.map ArrV.arr))) (fun _=>[]) (fun _=>[]):=by
 have hT:=cV;refine cO Tryz.func19 rfl Tryz.ntmps19 rfl ?_;intro β hM;refine sr<|sp hT ?_;refine nn<|bH<|sr<|sp4 hT ?_;refine sp hT ?_;refine nn<|bN rfl (fun hc10=>?_) (fun hc10=>?_)
 ·have hc10:=bne_iff_ne.1 hc10;refine sr<|sp hT ?_;refine nn<|bJ<|bL ?_;exact bK () rfl (bI rfl) .nil trivial (eqA_f (fun e=>by have:=congrArg List.length e;simp at this;omega))
 have hc10:=bne_eq_false_iff_eq.1 hc10;refine bS<|bF<|bH<|sr<|sp hT ?_;refine nn<|bY<|dR (ι:=Nat) [(0,_),(1,_)] ⟨rfl,rfl,trivial⟩ (fun i=>[(5,.int .i64 (i:Nat))]) (fun _=>[]) (fun i=>[bQ.pure (i≤xs.length∧(xs.map ArrV.arr).take i=(ys.map ArrV.arr).take i)]) (fun i=>xs.length-i) 0 ⟨rfl,trivial⟩ .nil ⟨Has.pure (⟨by omega,rfl⟩),trivial⟩ ?_;rintro i;refine cG (Has.of mT0) fun hinv4=>?_;refine bH<|sr<|sp4 hT ?_;refine nn<|bN rfl (fun hc14=>?_) (fun hc14=>?_)
 ·have hc14:=of_decide_eq_true hc14;refine bS<|bF<|bH<|bY<|bH ?_
  obtain⟨x,hx⟩: ∃q,xs[i]?=some q:=⟨_,List.getElem?_eq_getElem (by omega)⟩
  refine cI (bBb x) (Has.each (Has.of mT2) (List.mem_of_getElem? hx)) ?_
  obtain⟨u,hu⟩: ∃q,ys[i]?=some q:=⟨_,List.getElem?_eq_getElem (by omega)⟩
  refine cI (bBb u) (Has.each (Has.of mT5) (List.mem_of_getElem? hu)) ?_;have hxb:=hX x (List.mem_of_getElem? hx);refine jA _ _ [(true,0),(true,1),(true,2),(true,3),(true,4),(true,5),(true,6),(true,7),(false,8),(true,9)] gL (by decide+kernel) .nil bO.self ?_;refine puM hT ?_;refine puM hT ?_;refine stM rfl (cC hT (k:=i) (bR (Has.of mT3)) rfl rfl rfl rfl rfl rfl rfl (by omega)) ?_;refine stM rfl (fF hT (cN.knows (bR (Has.of mT3)) (k:=i) (x:=x) hx 0) rfl rfl rfl rfl rfl) ?_;refine puM hT ?_;refine puM hT ?_;refine stM rfl (cC hT (k:=i) (bR (Has.of mT5)) rfl rfl rfl rfl rfl rfl rfl (by omega)) ?_;refine stM rfl (fF hT (cN.knows (bR (Has.of mT5)) (k:=i) (x:=u) hu 0) rfl rfl rfl rfl rfl) ?_;refine gE (o:=_) rfl ?_;refine cM Tryz.func37 (same6_spec x u hxb.1 hxb.2) rfl rfl .nil ⟨arrM_s (Has.of mT1),arrM_d (Has.of mT1),arrM_s (Has.of mT0),arrM_d (Has.of mT0),trivial⟩ fun _=>?_;refine fZ .nil (bO.drop 0) ?_;refine puM hT ?_;refine dH<|bF<|bN rfl (fun hc26=>?_) (fun hc26=>?_)
  ·have hc26:=mH hc26;refine sr<|sp hT ?_;refine nn<|bJ<|bT<|bL<|bL<|bT<|bL ?_;exact bK () rfl (bI rfl) .nil trivial (eqA_f (bAu (xZ hx) (xZ hu) (of_decide_eq_false ‹_›)))
  have hc26:=mI hc26;refine bS<|cB<|bF<|bE<|sp2 hT ?_;refine cD (z':=(((i+1):Nat):Int)) (dM (by omega) (by omega)) ?_;refine sp hT ?_;refine nn ?_;exact cT (i+1) (by omega) ⟨rfl,trivial⟩ ⟨rfl,rfl,trivial⟩ .nil ⟨Has.pure (⟨by omega,wA hinv4.2 (xZ hx) (xZ hu) (of_decide_eq_true ‹_›)⟩),trivial⟩ (bO.drop 3)
 have hc14:=Int.not_lt.1 (of_decide_eq_false hc14);refine dQ<|cP<|cP<|dN<|bF<|sr<|sp hT ?_;refine nn<|bJ ?_;exact bK () rfl (bI rfl) .nil trivial (eqA_t (bBg hinv4.2 (by rw [List.length_map];omega) (by rw [List.length_map];omega)))
end Go.Proofs.YtnmhcaahkaocgaaGreatDoor
namespace Go.Proofs.YtnmhcaahkaocgaaGreatDoor
open Go.RowKit
section
variable {A B : List Arr × Nat × Int} {zs : List ArrV}
theorem mo_nil{q:Prop}(h:if A.2.2=0∧(B.2.2=122∨B.2.2=102) then B.1=[] else q)(h1:A.2.2=0)(h2:B.2.2=122∨B.2.2=102)(hz:arrL zs=B.1):zs=[]:=by
 rw [if_pos ⟨h1,h2⟩] at h;rw [h] at hz
 cases zs with
 | nil=>rfl
 | cons y r=>exact absurd (congrArg List.length hz) (by simp [arrL])
theorem mo_else{q:Prop}(h:if A.2.2=0∧(B.2.2=122∨B.2.2=102) then B.1=[] else q)(h1: ¬(A.2.2=0∧(B.2.2=122∨B.2.2=102))):q:=by
 rw [if_neg h1] at h;exact h
end
theorem bufInfo: ∃i:TypeInfo,Tryz.prog.info? 45=some i∧i.zero=some (.agg #[.slice none 0 0,.int .i64 0])∧i.size=2∧i.bytes=32:=by
 have h:(Tryz.prog.info? 45).map (fun i=>(i.zero,i.size,i.bytes))=some (some (.agg #[.slice none 0 0,.int .i64 0]),2,32):=by kernel_rfl
 cases hi:Tryz.prog.info? 45 with
 | none=>simp [hi] at h
 | some i=>simp [hi] at h;exact⟨i,rfl,h.1,h.2.1,h.2.2⟩
theorem at_none_buf{β:dL}{n:Nat}{Γ:Env}{H:List bM}{F:List bQ}{Q:Exit→Act→World→Prop}{ops:Array Oper}{rest:List Oper}{o:Oper}{d:Nat}(hw:want ops Γ o=some true)(ho:o.op= .buildSlice 27 0 #[])(hd:o.dst=some d)(hn:Nat.blt d n=true)
  (k: ∀b,At β n ((d,.slice (some ⟨b,0,none⟩) 0 0)::Γ) (oS.row (.slice (some ⟨b,0,none⟩) 0 0) 45 []::H) F (wpList Tryz.prog ops Q rest)):At β n Γ H F (wpList Tryz.prog ops Q (o::rest)):=by
 obtain⟨i,hi,_⟩:=bufInfo;exact vW oS hw ho hd hn Tryz.underlying27 hi k
theorem zE{β:dL}{n:Nat}{Γ:Env}{H:List bM}{F:List bQ}{Q:Exit→Act→World→Prop}{ops:Array Oper}{rest:List Oper}{o:Oper}{d:Nat}{x y:Operand}{c q:Nat}{v:Value}{A:Option Addr}{xs ys:List kH}{H':List bM}(hH:dE H (oS.row v 45 xs) H')(hr:cN β H F oS A ys)(hg:o.guard=none)
  (ho:o.op= .call {callee:= .builtin .append,args:= #[x,y],argTypes:= #[27,27]}) (hd:o.dst=some d) (hn:Nat.blt d n=true)
  (hx:Γ.ev x=some v) (hy:Γ.ev y=some (.slice A q c)) (hq:q=ys.length) (hl:xs.length+ys.length≤4398046511104)
  (k: ∀A' cap',At β n ((d,.slice A' (xs++ys).length cap')::Γ) (oS.row (.slice A' (xs++ys).length cap') 45 (xs++ys)::H') F (wpList Tryz.prog ops Q rest)):At β n Γ H F (wpList Tryz.prog ops Q (o::rest)):=by
 obtain⟨i,hi,hz,hs,hb⟩:=bufInfo;exact iY hH hr hg ho hd hn Tryz.underlying27 hi hz hs hb rfl hx hy hq (by omega) (by decide) k
theorem stepInfo: ∃i:TypeInfo,Tryz.prog.info? 61=some i∧i.zero=some (.agg #[.int .i64 0,.int .i64 0,.slice none 0 0,.slice none 0 0,.int .u8 0,.slice none 0 0])∧i.size=6∧i.bytes=96:=by
 have h:(Tryz.prog.info? 61).map (fun i=>(i.zero,i.size,i.bytes))=some (some (.agg #[.int .i64 0,.int .i64 0,.slice none 0 0,.slice none 0 0,.int .u8 0,.slice none 0 0]),6,96):=by kernel_rfl
 cases hi:Tryz.prog.info? 61 with
 | none=>simp [hi] at h
 | some i=>simp [hi] at h;exact⟨i,rfl,h.1,h.2.1,h.2.2⟩
theorem at_none_step{β:dL}{n:Nat}{Γ:Env}{H:List bM}{F:List bQ}{Q:Exit→Act→World→Prop}{ops:Array Oper}{rest:List Oper}{o:Oper}{d:Nat}(hw:want ops Γ o=some true)(ho:o.op= .buildSlice 28 0 #[])(hd:o.dst=some d)(hn:Nat.blt d n=true)
  (k: ∀b,At β n ((d,.slice (some ⟨b,0,none⟩) 0 0)::Γ) (lE.row (.slice (some ⟨b,0,none⟩) 0 0) 61 []::H) F (wpList Tryz.prog ops Q rest)):At β n Γ H F (wpList Tryz.prog ops Q (o::rest)):=by
 obtain⟨i,hi,_⟩:=stepInfo;exact vW lE hw ho hd hn Tryz.underlying28 hi k
theorem wM{β:dL}{n:Nat}{Γ:Env}{H:List bM}{F:List bQ}{Q:Exit→Act→World→Prop}{ops:Array Oper}{rest:List Oper}{o:Oper}{d:Nat}{x y:Operand}{c q:Nat}{v:Value}{A:Option Addr}{xs ys:List fG}{H':List bM}(hH:dE H (lE.row v 61 xs) H')(hr:cN β H F lE A ys)(hg:o.guard=none)
  (ho:o.op= .call {callee:= .builtin .append,args:= #[x,y],argTypes:= #[28,28]}) (hd:o.dst=some d) (hn:Nat.blt d n=true)
  (hx:Γ.ev x=some v) (hy:Γ.ev y=some (.slice A q c)) (hq:q=ys.length) (hl:xs.length+ys.length≤1466015503701)
  (k: ∀A' cap',At β n ((d,.slice A' (xs++ys).length cap')::Γ) (lE.row (.slice A' (xs++ys).length cap') 61 (xs++ys)::H') F (wpList Tryz.prog ops Q rest)):At β n Γ H F (wpList Tryz.prog ops Q (o::rest)):=by
 obtain⟨i,hi,hz,hs,hb⟩:=stepInfo;exact iY hH hr hg ho hd hn Tryz.underlying28 hi hz hs hb rfl hx hy hq (by omega) (by decide) k
theorem rR:(Tryz.prog.info? 31).bind (·.zero)=some (.agg #[.int .i64 0,.slice none 0 0,.slice none 0 0,.slice none 0 0]):=by kernel_rfl
theorem qI(z1:Int):Tryz.prog.built 45 [(1,.int .i64 z1)]=some #[.slice none 0 0,.int .i64 z1]:=by kernel_rfl
theorem qK(z0:Int)(z2:Int):Tryz.prog.built 72 [(0,.int .i64 z0),(2,.int .i64 z2)]=some #[.int .i64 z0,.int .i64 0,.int .i64 z2,.slice none 0 0,.int .u8 0]:=by kernel_rfl
theorem nX(z0:Int)(z1:Int)(a5:Option Addr)(l5 c5:Nat):Tryz.prog.built 61 [(0,.int .i64 z0),(1,.int .i64 z1),(5,.slice a5 l5 c5)]=some #[.int .i64 z0,.int .i64 z1,.slice none 0 0,.slice none 0 0,.int .u8 0,.slice a5 l5 c5]:=by kernel_rfl
set_option maxRecDepth 100000 in
theorem lawM_spec(x:CasV):dX Tryz.prog 7 [.agg #[.int .i64 x.c.vars,.slice x.c.bufs.addr x.c.bufs.list.length x.c.bufs.cap,.slice x.c.steps.addr x.c.steps.list.length x.c.steps.cap,.slice x.c.outs.addr x.c.outs.list.length x.c.outs.cap,.slice x.dims.addr x.dims.list.length x.dims.cap,.slice x.ins.addr x.ins.list.length x.ins.cap]] [] [laidF,nU x.c,vC x.dims,arrsF x.ins] (fun(_:Unit)=> .bool true) (fun _=>[]) (fun _=>[]):=by
 have hT:=casT_ok;refine cO Tryz.func7 rfl Tryz.ntmps7 rfl ?_;intro β hM;refine bH<|cI (cL.sl (.slice x.dims.addr x.dims.list.length x.dims.cap) x.dims.list) (tS (Has.of mT2)) ?_;refine cI (kO.sl (.slice x.ins.addr x.ins.list.length x.ins.cap) x.ins.list) (arrsF_s (Has.of mT4)) ?_;refine cI (bQ.each x.ins.list xF) (arrsF_e (Has.of mT5)) ?_;refine cG (show Has _ (uX 8 x.dims) from Has.right (Has.of mT5)) fun hdz=>?_;have hdl:x.dims.list.length≤140737488355328:=by have h2:x.dims.list.length*8≤140737488355328:=hdz.2;omega
 refine bE<|jB rfl rfl rfl rfl rfl rfl fun b1=>?_;refine sp hT ?_;refine nn<|sr<|cM Tryz.func16 shown12_spec rfl rfl .nil ⟨(Has.of mT3),trivial⟩ fun _=>?_;refine sp hT ?_;refine nn<|sr<|sp2 hT ?_;refine ss (ldO hT (gZ .head)) ?_;refine sp2 hT ?_;refine nn<|bH<|sr<|sp hT ?_;refine ss (ldN hT (fE .head)) ?_;refine cM Tryz.func15 (zX x.c) rfl rfl .nil ⟨(Has.of mT4),trivial⟩ fun _=>?_;refine sp2 hT ?_;refine bZ (fun hg21=>?_) (fun hg21=>?_)
 ·have hg21:=mH hg21;refine sk2 ?_;refine sp2 hT ?_;refine sk4 ?_;refine sk ?_;refine sp hT ?_;refine nn<|cK rfl rfl ?_;refine sr<|sp2 hT ?_;refine nn<|bJ<|bL ?_;exact bK () rfl (bI rfl) .nil trivial (rfl)
 have hg21:=mI hg21;refine sp4 hT ?_;refine bZ (fun hg25=>?_) (fun hg25=>?_)
 ·have hg25:=of_decide_eq_true hg25;refine sk4 ?_;refine sk ?_;refine sp hT ?_;refine nn<|cK rfl rfl ?_;refine sr<|sp2 hT ?_;refine nn<|bJ<|bL ?_;exact bK () rfl (bI rfl) .nil trivial (rfl)
 have hg25:=Int.not_le.1 (of_decide_eq_false hg25);refine sp2 hT ?_;refine ss (ldO hT (kwO2 .head)) ?_;refine sp3 hT ?_;refine nn<|bN rfl (fun hc31=>?_) (fun hc31=>?_)
 ·have hc31:=of_decide_eq_true hc31;refine sr<|sp2 hT ?_;refine nn<|bJ<|bL ?_;exact bK () rfl (bI rfl) .nil trivial (rfl)
 have hc31:=Int.not_le.1 (of_decide_eq_false hc31);refine bS<|bF<|bH ?_;have hr:fJ x.c.c=true:=by first | assumption | simp_all
 have hlb:x.c.bufs.list.length<1024:=by omega
 have hls:x.c.steps.list.length<1024:=by omega
 refine bE<|sp hT ?_;refine ss (ldN hT (fE .head)) ?_;refine sp hT ?_;refine ss (ldO hT (kwO4 .head)) ?_;refine sp hT ?_;refine ss (ldO hT (sN .head)) ?_;refine cM Tryz.func17 (vV x.c x.dims.addr x.dims.cap x.dims.list x.ins.addr x.ins.cap x.ins.list hdl) rfl rfl .nil ⟨(Has.of mT4),(Has.of mT2),(Has.of mT1),(Has.of mT0),trivial⟩ fun⟨⟨yA,yc⟩,ys⟩=>?_;refine cG (Has.of mT0) fun hy=>?_
 obtain⟨A,hA⟩: ∃R,rnRun x.c.c x.dims.list (arrL x.ins.list)=R:=⟨_,rfl⟩
 have hy:arrL ys=A.1:=hA▸hy;rw [show rnRun (x.c).c x.dims.list (arrL x.ins.list)=A from hA];refine rV (E:=kO) .head fun hyl=>?_;refine jR (E:=kO) .head ?_;refine nM ys ?_;have hmo:=rn_more (ds:=x.dims.list) (ins:=arrL x.ins.list) hr (by show _<1024;rw [show x.c.c.bufs.length=_ from cR _];omega) (by rw [show x.c.c.steps.length=_ from kD _];omega);dsimp only at hmo;rw [hA] at hmo;refine sp4 hT ?_;refine sp3 hT ?_;refine nn<|sr<|sp hT ?_;refine ss (ldN hT (fE .head)) ?_;refine fN rfl rfl rfl rfl rR rfl fun b2=>?_;refine sto hT .head ?_;refine nn<|sr<|at_none_buf rfl rfl rfl rfl fun nb3=>?_;refine sp2 hT ?_;refine ss (ldO hT (gZ kT2)) ?_;refine cI (oS.sl (.slice x.c.bufs.addr x.c.bufs.list.length x.c.bufs.cap) x.c.bufs.list) (sL (lZ (Has.of mT7))) ?_;refine zE (xs:=([]:List kH)) (ys:=x.c.bufs.list) .head (bR (Has.of mT0)) rfl rfl rfl rfl rfl rfl rfl (by show 0+_≤_;omega) fun A4 c5=>?_;rw [List.nil_append];refine ss (nG rfl rfl (qI _)) ?_;refine at_lit bufT ([kR]) _ ([.agg #[.slice (kR).sides.addr (kR).sides.list.length (kR).sides.cap,.int .i64 (kR).input]]) rfl rfl rfl rfl rfl (by show 0<1;decide) (by show 1≤100;decide) (by kernel_rfl) fun lb6=>?_;refine zE (xs:=x.c.bufs.list) (ys:=[kR]) .head (bR (Has.of mT0)) rfl rfl rfl rfl rfl rfl rfl (by show _+1≤_;omega) fun A7 c8=>?_;refine sp hT ?_;refine sto hT kT1 ?_;refine nn<|sr<|at_none_step rfl rfl rfl rfl fun nb9=>?_;refine sp2 hT ?_;refine ss (ldO hT (kwO2 kT3)) ?_;refine cI (lE.sl (.slice x.c.steps.addr x.c.steps.list.length x.c.steps.cap) x.c.steps.list) (bBc (sM (Has.of mT9))) ?_;refine wM (xs:=([]:List fG)) (ys:=x.c.steps.list) .head (bR (Has.of mT0)) rfl rfl rfl rfl rfl rfl rfl (by show 0+_≤_;omega) fun A10 c11=>?_;rw [List.nil_append];refine sp hT ?_;refine ss (nG rfl rfl (qK _ _)) ?_;refine at_lit opT ([oV]) _ ([.agg #[.int .i64 (oV).how,.int .i64 (oV).k,.int .i64 (oV).n,.slice (oV).p.addr (oV).p.list.length (oV).p.cap,.int .u8 (oV).fn]]) rfl rfl rfl rfl rfl (by show 0<1;decide) (by show 1≤100;decide) (by kernel_rfl) fun lb12=>?_;refine ss (nG rfl rfl (nX _ _ _ _ _)) ?_;refine at_lit stepT ([(fC x.c.bufs.list.length lb12)]) _ ([.agg #[.int .i64 ((fC x.c.bufs.list.length lb12)).how,.int .i64 ((fC x.c.bufs.list.length lb12)).buf,.slice ((fC x.c.bufs.list.length lb12)).at_.addr ((fC x.c.bufs.list.length lb12)).at_.list.length ((fC x.c.bufs.list.length lb12)).at_.cap,.slice ((fC x.c.bufs.list.length lb12)).loops.addr ((fC x.c.bufs.list.length lb12)).loops.list.length ((fC x.c.bufs.list.length lb12)).loops.cap,.int .u8 ((fC x.c.bufs.list.length lb12)).fn,.slice ((fC x.c.bufs.list.length lb12)).ops.addr ((fC x.c.bufs.list.length lb12)).ops.list.length ((fC x.c.bufs.list.length lb12)).ops.cap]]) rfl rfl rfl rfl rfl (by show 0<1;decide) (by show 1≤100;decide) (by kernel_rfl) fun lb13=>?_;refine wM (xs:=x.c.steps.list) (ys:=[fC x.c.bufs.list.length lb12]) .head (bR (Has.of mT0)) rfl rfl rfl rfl rfl rfl rfl (by show _+1≤_;omega) fun A14 c15=>?_;refine sp hT ?_;refine sto hT kT1 ?_;refine nn<|sr<|ss (ldN hT (fE .head)) ?_;refine sp hT ?_;refine ss (ldO hT (kwO4 kT3)) ?_;refine sp hT ?_;refine ss (ldO hT (sN kT3)) ?_;refine at_cap kT2 fun hnbc=>?_;refine jR (E:=oS) kT2 ?_;refine at_cap kT1 fun hnsc=>?_;refine jR (E:=lE) kT1 ?_;refine cI (nU (moreV x.c A7 A14 c8 c15 lb12)) (moreV_f (Has.of mT14) (Has.of mT1) (Has.of mT0) (Has.of mT3) hnbc hnsc hlb hls) ?_;refine cM Tryz.func17 (vV (moreV x.c A7 A14 c8 c15 lb12) x.dims.addr x.dims.cap x.dims.list x.ins.addr x.ins.cap x.ins.list hdl) rfl rfl .nil ⟨(Has.of mT0),(Has.of mT13),(Has.of mT12),(Has.of mT11),trivial⟩ fun⟨⟨zA,zc⟩,zs⟩=>?_;refine cG (Has.of mT0) fun hz=>?_
 obtain⟨B,hB⟩: ∃R,rnRun (moreCore x.c.c) x.dims.list (arrL x.ins.list)=R:=⟨_,rfl⟩
 have hz:arrL zs=B.1:=by rw [←hB,←moreV_c];exact hz
 rw [show rnRun ((moreV x.c A7 A14 c8 c15 lb12)).c x.dims.list (arrL x.ins.list)=B from (by rw [moreV_c];exact hB)];refine rV (E:=kO) .head fun hzl=>?_;refine jR (E:=kO) .head ?_;refine nM zs ?_;rw [hB] at hmo;refine sp4 hT ?_;refine sp3 hT ?_;refine nn<|bH<|sr<|sp3 hT ?_;refine bZ (fun hg79=>?_) (fun hg79=>?_)
 ·have hg79:=eq_of_beq hg79;refine sp3 hT ?_;refine bZ (fun hg82=>?_) (fun hg82=>?_)
  ·have hg82:=eq_of_beq hg82;refine sk2 ?_;refine sp2 hT ?_;refine nn<|cK rfl rfl ?_;refine sr<|sp4 hT ?_;refine sp hT ?_;refine jE (t':=true) (by rw [mo_nil hmo hg79 (by omega) hz];rfl) ?_;refine sp2 hT ?_;refine nn<|bJ<|bL ?_;exact bK () rfl (bI rfl) .nil trivial (rfl)
  have hg82:=beq_eq_false_iff_ne.1 hg82;refine sp4 hT ?_;refine nn<|bN rfl (fun hc86=>?_) (fun hc86=>?_)
  ·have hc86:=eq_of_beq hc86;refine sr<|sp4 hT ?_;refine sp hT ?_;refine jE (t':=true) (by rw [mo_nil hmo hg79 (by omega) hz];rfl) ?_;refine sp2 hT ?_;refine nn<|bJ<|bL ?_;exact bK () rfl (bI rfl) .nil trivial (rfl)
  have hc86:=beq_eq_false_iff_ne.1 hc86;refine bS<|bF<|bH ?_;have hm2:=mo_else hmo (by omega);refine bE<|sp4 hT ?_;refine sp2 hT ?_;refine bZ (fun hg98=>?_) (fun hg98=>?_)
  ·have hg98:=eq_of_beq hg98;refine sp4 hT ?_;refine sp hT ?_;refine bZ (fun hg103=>?_) (fun hg103=>?_)
   ·have hg103:=eq_of_beq hg103;refine sk2 ?_;refine sp4 hT ?_;refine sp2 hT ?_;refine bZ (fun hg111=>?_) (fun hg111=>?_)
    ·have hg111:=bne_iff_ne.1 hg111;refine sk3 ?_;refine sp3 hT ?_;refine nn<|bJ ?_;exact bK () rfl (bI rfl) .nil trivial (rfl)
    have hg111:=bne_eq_false_iff_eq.1 hg111;refine sp2 hT ?_;refine cG (arrM_k (Has.of mT11)) fun hyk=>?_;refine cM Tryz.func19 (yT yA zA yc zc ys zs hyl hyk) rfl rfl .nil ⟨(Has.of mT12),(Has.of mT11),(Has.of mT1),(Has.of mT0),trivial⟩ fun _=>?_;refine jE (t':=true) (decide_eq_true (by show arrL ys=arrL zs;rw [hy,hz];exact hm2.2 (by omega))) ?_;refine sp3 hT ?_;refine nn<|bJ ?_;exact bK () rfl (bI rfl) .nil trivial (rfl)
   have hg103:=beq_eq_false_iff_ne.1 hg103
   exfalso;have hm3:=hm2.1;omega
  have hg98:=beq_eq_false_iff_ne.1 hg98
  exfalso;have hm3:=hm2.1;omega
 have hg79:=beq_eq_false_iff_ne.1 hg79;refine sk4 ?_;refine sk2 ?_;refine sp hT ?_;refine nn<|nR rfl rfl ?_;refine bS<|bF<|bH ?_;have hm2:=mo_else hmo (by omega);refine bE<|sp4 hT ?_;refine sp2 hT ?_;refine bZ (fun hg98=>?_) (fun hg98=>?_)
 ·have hg98:=eq_of_beq hg98;refine sp4 hT ?_;refine sp hT ?_;refine bZ (fun hg103=>?_) (fun hg103=>?_)
  ·have hg103:=eq_of_beq hg103;refine sk2 ?_;refine sp4 hT ?_;refine sp2 hT ?_;refine bZ (fun hg111=>?_) (fun hg111=>?_)
   ·have hg111:=bne_iff_ne.1 hg111;refine sk3 ?_;refine sp3 hT ?_;refine nn<|bJ ?_;exact bK () rfl (bI rfl) .nil trivial (rfl)
   have hg111:=bne_eq_false_iff_eq.1 hg111;refine sp2 hT ?_;refine cG (arrM_k (Has.of mT11)) fun hyk=>?_;refine cM Tryz.func19 (yT yA zA yc zc ys zs hyl hyk) rfl rfl .nil ⟨(Has.of mT12),(Has.of mT11),(Has.of mT1),(Has.of mT0),trivial⟩ fun _=>?_;refine jE (t':=true) (decide_eq_true (by show arrL ys=arrL zs;rw [hy,hz];exact hm2.2 (by omega))) ?_;refine sp3 hT ?_;refine nn<|bJ ?_;exact bK () rfl (bI rfl) .nil trivial (rfl)
  have hg103:=beq_eq_false_iff_ne.1 hg103;refine sp4 hT ?_;refine sp hT ?_;refine bZ (fun hg108=>?_) (fun hg108=>?_)
  ·have hg108:=eq_of_beq hg108;refine sp2 hT ?_;refine jE (t':=true) ((congrArg not (show(B.2.2==0)=false from (by rw [hg108];rfl)):(!_)=_)) ?_;refine sp hT ?_;refine sk3 ?_;refine sp3 hT ?_;refine nn<|bJ ?_;exact bK () rfl (bI rfl) .nil trivial (rfl)
  have hg108:=beq_eq_false_iff_ne.1 hg108
  exfalso;have hm3:=hm2.1;omega
 have hg98:=beq_eq_false_iff_ne.1 hg98;refine sk3 ?_;refine sp4 hT ?_;refine sp3 hT ?_;refine bZ (fun hg108=>?_) (fun hg108=>?_)
 ·have hg108:=eq_of_beq hg108;refine sp2 hT ?_;refine jE (t':=true) ((congrArg not (show(B.2.2==0)=false from (by rw [hg108];rfl)):(!_)=_)) ?_;refine sp hT ?_;refine sk3 ?_;refine sp3 hT ?_;refine nn<|bJ ?_;exact bK () rfl (bI rfl) .nil trivial (rfl)
 have hg108:=beq_eq_false_iff_ne.1 hg108
 exfalso;have hm3:=hm2.1;omega
end Go.Proofs.YtnmhcaahkaocgaaGreatDoor
