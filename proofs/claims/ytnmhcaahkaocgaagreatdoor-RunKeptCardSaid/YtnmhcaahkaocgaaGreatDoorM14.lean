/- Texts of one proof, one behind the other: TysR, LitH, TysV, TysW, ArrM, RgA, NewS, KeptA, KeptB. -/
import Derived.Test.YtnmhcaahkaocgaaGreatDoorM7
import Derived.Test.YtnmhcaahkaocgaaGreatDoorM4
import Derived.Test.YtnmhcaahkaocgaaGreatDoorM13
import Derived.Test.YtnmhcaahkaocgaaGreatDoorM2
import Derived.Test.YtnmhcaahkaocgaaGreatDoorM12
import Derived.Test.YtnmhcaahkaocgaaGreatDoorM9
namespace Go.Proofs.YtnmhcaahkaocgaaGreatDoor
open Go.RowKit Go.ChangeShapes Go.WideShapes
section
variable {α H : Type} {enc : TypeId × Value → H} {P : Program} {w : World} {t e : TypeId}
def Ty.slicec(T:Ty α)(b:Nat):Ty (Sl α):=⟨slE α,fun s=>((T.slice b).deep s).and (bK.pure (s.list.length≤s.cap))⟩
theorem iW{deep:Sl α→bK}(hu:P.underlying t=some (.slice e))(he:lY enc P w t (slE α).cells deep):lY enc P w t (slE α).cells (fun s=>(deep s).and (bK.pure (s.list.length≤s.cap))):=fun fuel cs x h hw=>by
 obtain⟨a,e0,d⟩:=he fuel cs x h hw;refine⟨a,e0,d,?_⟩;have e0':cs=[.slice a.addr a.list.length a.cap]:=e0;show a.list.length≤a.cap
 rcases Deep.open_slice hu h with ⟨e1,_⟩ | ⟨a',len,cap,m,n,D,Pl,e1,_,hl,_⟩
 ·rw [e0'] at e1;simp only [List.cons.injEq,and_true,Value.slice.injEq] at e1;omega
 ·rw [e0'] at e1;simp only [List.cons.injEq,and_true,Value.slice.injEq] at e1;omega
end
set_option maxRecDepth 100000
section
variable {H : Type} {enc : TypeId × Value → H} {w : World}
theorem u8_of{n:Int}(h:(Lit.int .u8 n).wf=true): ∃e:UInt8,n=(e.toNat:Int):=by
 have h':0≤n∧n≤255:=bounds_u8 h;refine⟨UInt8.ofNat n.toNat,?_⟩;rw [UInt8.toNat_ofNat'];omega
theorem read_mono{fuel:Nat}{cs:List Value}{x:DataW H×List MemPlace}(h:DataW.trod enc Tryz.prog w 0 (fun _=>true) true fuel 75 cs=some x): ∃m:Mono,cs=m.cells∧(Lit.int .i64 m.n).wf=true:=by
 obtain⟨xs,n,_,_,hlen,hxl,hf⟩:=DataW.trod_struct Tryz.underlying75 h;have hc39:Tryz.prog.cellsOf 75=7:=by kernel_rfl
 have hc2:Tryz.prog.cellsOf 2=1:=by kernel_rfl
 have hc37:Tryz.prog.cellsOf 73=6:=by kernel_rfl
 have hc5:Tryz.prog.cellsOf 5=1:=by kernel_rfl
 rw [hc39] at hlen;have hxl':xs.length=2:=hxl
 match cs,hlen with
 | [a,b0,b1,b2,b3,b4,b5],_=>
  have h0:DataW.trod enc Tryz.prog w 0 (fun _=>true) true n 2 (([a,b0,b1,b2,b3,b4,b5].drop 0).take (Tryz.prog.cellsOf 2))=xs[0]?:=hf 0 _ rfl;have h1:DataW.trod enc Tryz.prog w 0 (fun _=>true) true n 73 (([a,b0,b1,b2,b3,b4,b5].drop 1).take (Tryz.prog.cellsOf 73))=xs[1]?:=hf 1 _ rfl;rw [hc2,List.getElem?_eq_getElem (by omega)] at h0;rw [hc37,List.getElem?_eq_getElem (by omega)] at h1;obtain⟨nn,e0,_,hw⟩:=DataW.trod_int Tryz.underlying2 h0;obtain⟨ys,n',_,_,_,hyl,hg⟩:=DataW.trod_array Tryz.underlying73 h1
  have g: ∀i,i<6→ ∃e:UInt8,(([b0,b1,b2,b3,b4,b5]:List Value).drop i).take 1=[.int .u8 (e.toNat:Int)]:=fun i hi=>by
   have h2:=hg i hi;rw [hc5,Nat.mul_one,List.getElem?_eq_getElem (by omega)] at h2;obtain⟨k,e1,_,hw1⟩:=DataW.trod_int Tryz.underlying5 h2;obtain⟨e,rfl⟩:=u8_of hw1;exact⟨e,e1⟩
  obtain⟨e0',g0⟩:=g 0 (by omega);obtain⟨e1',g1⟩:=g 1 (by omega);obtain⟨e2',g2⟩:=g 2 (by omega);obtain⟨e3',g3⟩:=g 3 (by omega);obtain⟨e4',g4⟩:=g 4 (by omega);obtain⟨e5',g5⟩:=g 5 (by omega);simp at e0 g0 g1 g2 g3 g4 g5;subst e0 g0 g1 g2 g3 g4 g5;exact⟨⟨nn,e0',e1',e2',e3',e4',e5'⟩,rfl,hw⟩
end
def kO:Ty Mono:=⟨zI,fun m=>bK.pure ((Lit.int .i64 m.n).wf=true)⟩
theorem pV{H:Type}{enc:TypeId×Value→H}{w:World}:lY enc Tryz.prog w 75 kO.E.cells kO.deep:=fun fuel cs x h _=>by
 obtain⟨m,e,hw⟩:=read_mono h;exact⟨m,e,hw⟩
instance : Inhabited Mono := ⟨⟨0, 0, 0, 0, 0, 0, 0⟩⟩
def opTy:Ty OpV:=⟨opE,fun x=>(bK.pure ((Lit.int .i64 x.how).wf=true)).and ((bK.pure ((Lit.int .i64 x.k).wf=true)).and ((bK.pure ((Lit.int .i64 x.n).wf=true)).and ((((kO.slice 16)).deep x.p).and ((bK.pure ((Lit.int .u8 x.fn).wf=true)).and (bK.true)))))⟩
set_option maxRecDepth 100000 in
theorem opens_op{H:Type}{enc:TypeId×Value→H}{w:World}:lY enc Tryz.prog w 72 opE.cells opTy.deep:=fun fuel cs x h hw=>by
 obtain⟨xs,n,_,rfl,hlen,hxl,hf⟩:=DataW.trod_struct Tryz.underlying72 h;have hc:Tryz.prog.cellsOf 72=5:=by kernel_rfl
 rw [hc] at hlen;have hxl':xs.length=5:=hxl
 match cs,hlen with
 | [c0,c1,c2,c3,c4],_=>
  have h0:DataW.trod enc Tryz.prog w 0 (fun _=>true) true n 3 (([c0,c1,c2,c3,c4].drop 0).take (Tryz.prog.cellsOf 3))=xs[0]?:=hf 0 _ rfl;have h1:DataW.trod enc Tryz.prog w 0 (fun _=>true) true n 3 (([c0,c1,c2,c3,c4].drop 1).take (Tryz.prog.cellsOf 3))=xs[1]?:=hf 1 _ rfl;have h2:DataW.trod enc Tryz.prog w 0 (fun _=>true) true n 2 (([c0,c1,c2,c3,c4].drop 2).take (Tryz.prog.cellsOf 2))=xs[2]?:=hf 2 _ rfl;have h3:DataW.trod enc Tryz.prog w 0 (fun _=>true) true n 47 (([c0,c1,c2,c3,c4].drop 3).take (Tryz.prog.cellsOf 47))=xs[3]?:=hf 3 _ rfl;have h4:DataW.trod enc Tryz.prog w 0 (fun _=>true) true n 58 (([c0,c1,c2,c3,c4].drop 4).take (Tryz.prog.cellsOf 58))=xs[4]?:=hf 4 _ rfl;rw [List.getElem?_eq_getElem (by omega)] at h0;obtain⟨a0,e0,d0⟩:=(gD Tryz.underlying3) _ _ _ h0 (cI Tryz.underlying72 hw (j:=0) rfl (by rw [List.getElem?_map,List.getElem?_eq_getElem (by omega)];rfl))
  have q0:[c0]=[.int .i64 a0]:=by
   have hk:Tryz.prog.cellsOf 3=1:=by kernel_rfl
   rw [hk] at e0;exact e0
  clear e0;simp only [List.cons.injEq,and_true] at q0;rw [List.getElem?_eq_getElem (by omega)] at h1;obtain⟨a1,e1,d1⟩:=(gD Tryz.underlying3) _ _ _ h1 (cI Tryz.underlying72 hw (j:=1) rfl (by rw [List.getElem?_map,List.getElem?_eq_getElem (by omega)];rfl))
  have q1:[c1]=[.int .i64 a1]:=by
   have hk:Tryz.prog.cellsOf 3=1:=by kernel_rfl
   rw [hk] at e1;exact e1
  clear e1;simp only [List.cons.injEq,and_true] at q1;rw [List.getElem?_eq_getElem (by omega)] at h2;obtain⟨a2,e2,d2⟩:=(gD Tryz.underlying2) _ _ _ h2 (cI Tryz.underlying72 hw (j:=2) rfl (by rw [List.getElem?_map,List.getElem?_eq_getElem (by omega)];rfl))
  have q2:[c2]=[.int .i64 a2]:=by
   have hk:Tryz.prog.cellsOf 2=1:=by kernel_rfl
   rw [hk] at e2;exact e2
  clear e2;simp only [List.cons.injEq,and_true] at q2;rw [List.getElem?_eq_getElem (by omega)] at h3;obtain⟨a3,e3,d3⟩:=(dG (T:=kO) (b:=16) Tryz.underlying47 (by kernel_rfl) (by kernel_rfl) pV) _ _ _ h3 (cI Tryz.underlying72 hw (j:=3) rfl (by rw [List.getElem?_map,List.getElem?_eq_getElem (by omega)];rfl))
  have q3:[c3]=[.slice a3.addr a3.list.length a3.cap]:=by
   have hk:Tryz.prog.cellsOf 47=1:=by kernel_rfl
   rw [hk] at e3;exact e3
  clear e3;simp only [List.cons.injEq,and_true] at q3;rw [List.getElem?_eq_getElem (by omega)] at h4;obtain⟨a4,e4,d4⟩:=(gD Tryz.underlying58) _ _ _ h4 (cI Tryz.underlying72 hw (j:=4) rfl (by rw [List.getElem?_map,List.getElem?_eq_getElem (by omega)];rfl))
  have q4:[c4]=[.int .u8 a4]:=by
   have hk:Tryz.prog.cellsOf 58=1:=by kernel_rfl
   rw [hk] at e4;exact e4
  clear e4;simp only [List.cons.injEq,and_true] at q4;obtain rfl:=q0;obtain rfl:=q1;obtain rfl:=q2;obtain rfl:=q3;obtain rfl:=q4;exact⟨⟨a0,a1,a2,a3,a4⟩,rfl,d0,d1,d2,d3,d4,trivial⟩
def bufTy:Ty kX:=⟨xL,fun x=>((((kO.slice 16).slicec 24)).deep x.sides).and ((bK.pure ((Lit.int .i64 x.input).wf=true)).and (bK.true))⟩
set_option maxRecDepth 100000 in
theorem opens_buf{H:Type}{enc:TypeId×Value→H}{w:World}:lY enc Tryz.prog w 45 xL.cells bufTy.deep:=fun fuel cs x h hw=>by
 obtain⟨xs,n,_,rfl,hlen,hxl,hf⟩:=DataW.trod_struct Tryz.underlying45 h;have hc:Tryz.prog.cellsOf 45=2:=by kernel_rfl
 rw [hc] at hlen;have hxl':xs.length=2:=hxl
 match cs,hlen with
 | [c0,c1],_=>
  have h0:DataW.trod enc Tryz.prog w 0 (fun _=>true) true n 41 (([c0,c1].drop 0).take (Tryz.prog.cellsOf 41))=xs[0]?:=hf 0 _ rfl;have h1:DataW.trod enc Tryz.prog w 0 (fun _=>true) true n 3 (([c0,c1].drop 1).take (Tryz.prog.cellsOf 3))=xs[1]?:=hf 1 _ rfl;rw [List.getElem?_eq_getElem (by omega)] at h0;obtain⟨a0,e0,d0⟩:=(iW Tryz.underlying41 (dG (T:=(kO.slice 16)) (b:=24) Tryz.underlying41 (by kernel_rfl) (by kernel_rfl) (dG (T:=kO) (b:=16) Tryz.underlying47 (by kernel_rfl) (by kernel_rfl) pV))) _ _ _ h0 (cI Tryz.underlying45 hw (j:=0) rfl (by rw [List.getElem?_map,List.getElem?_eq_getElem (by omega)];rfl))
  have q0:[c0]=[.slice a0.addr a0.list.length a0.cap]:=by
   have hk:Tryz.prog.cellsOf 41=1:=by kernel_rfl
   rw [hk] at e0;exact e0
  clear e0;simp only [List.cons.injEq,and_true] at q0;rw [List.getElem?_eq_getElem (by omega)] at h1;obtain⟨a1,e1,d1⟩:=(gD Tryz.underlying3) _ _ _ h1 (cI Tryz.underlying45 hw (j:=1) rfl (by rw [List.getElem?_map,List.getElem?_eq_getElem (by omega)];rfl))
  have q1:[c1]=[.int .i64 a1]:=by
   have hk:Tryz.prog.cellsOf 3=1:=by kernel_rfl
   rw [hk] at e1;exact e1
  clear e1;simp only [List.cons.injEq,and_true] at q1;obtain rfl:=q0;obtain rfl:=q1;exact⟨⟨a0,a1⟩,rfl,d0,d1,trivial⟩
def bAb:Ty fO:=⟨vJ,fun x=>(bK.pure ((Lit.int .i64 x.how).wf=true)).and ((bK.pure ((Lit.int .i64 x.buf).wf=true)).and ((((kO.slice 16)).deep x.at_).and (((((kO.slice 16).slicec 24)).deep x.loops).and ((bK.pure ((Lit.int .u8 x.fn).wf=true)).and ((((opTy.slicec 56)).deep x.ops).and (bK.true))))))⟩
set_option maxRecDepth 100000 in
theorem opens_step{H:Type}{enc:TypeId×Value→H}{w:World}:lY enc Tryz.prog w 61 vJ.cells bAb.deep:=fun fuel cs x h hw=>by
 obtain⟨xs,n,_,rfl,hlen,hxl,hf⟩:=DataW.trod_struct Tryz.underlying61 h;have hc:Tryz.prog.cellsOf 61=6:=by kernel_rfl
 rw [hc] at hlen;have hxl':xs.length=6:=hxl
 match cs,hlen with
 | [c0,c1,c2,c3,c4,c5],_=>
  have h0:DataW.trod enc Tryz.prog w 0 (fun _=>true) true n 3 (([c0,c1,c2,c3,c4,c5].drop 0).take (Tryz.prog.cellsOf 3))=xs[0]?:=hf 0 _ rfl;have h1:DataW.trod enc Tryz.prog w 0 (fun _=>true) true n 3 (([c0,c1,c2,c3,c4,c5].drop 1).take (Tryz.prog.cellsOf 3))=xs[1]?:=hf 1 _ rfl;have h2:DataW.trod enc Tryz.prog w 0 (fun _=>true) true n 47 (([c0,c1,c2,c3,c4,c5].drop 2).take (Tryz.prog.cellsOf 47))=xs[2]?:=hf 2 _ rfl;have h3:DataW.trod enc Tryz.prog w 0 (fun _=>true) true n 41 (([c0,c1,c2,c3,c4,c5].drop 3).take (Tryz.prog.cellsOf 41))=xs[3]?:=hf 3 _ rfl;have h4:DataW.trod enc Tryz.prog w 0 (fun _=>true) true n 58 (([c0,c1,c2,c3,c4,c5].drop 4).take (Tryz.prog.cellsOf 58))=xs[4]?:=hf 4 _ rfl;have h5:DataW.trod enc Tryz.prog w 0 (fun _=>true) true n 59 (([c0,c1,c2,c3,c4,c5].drop 5).take (Tryz.prog.cellsOf 59))=xs[5]?:=hf 5 _ rfl;rw [List.getElem?_eq_getElem (by omega)] at h0;obtain⟨a0,e0,d0⟩:=(gD Tryz.underlying3) _ _ _ h0 (cI Tryz.underlying61 hw (j:=0) rfl (by rw [List.getElem?_map,List.getElem?_eq_getElem (by omega)];rfl))
  have q0:[c0]=[.int .i64 a0]:=by
   have hk:Tryz.prog.cellsOf 3=1:=by kernel_rfl
   rw [hk] at e0;exact e0
  clear e0;simp only [List.cons.injEq,and_true] at q0;rw [List.getElem?_eq_getElem (by omega)] at h1;obtain⟨a1,e1,d1⟩:=(gD Tryz.underlying3) _ _ _ h1 (cI Tryz.underlying61 hw (j:=1) rfl (by rw [List.getElem?_map,List.getElem?_eq_getElem (by omega)];rfl))
  have q1:[c1]=[.int .i64 a1]:=by
   have hk:Tryz.prog.cellsOf 3=1:=by kernel_rfl
   rw [hk] at e1;exact e1
  clear e1;simp only [List.cons.injEq,and_true] at q1;rw [List.getElem?_eq_getElem (by omega)] at h2;obtain⟨a2,e2,d2⟩:=(dG (T:=kO) (b:=16) Tryz.underlying47 (by kernel_rfl) (by kernel_rfl) pV) _ _ _ h2 (cI Tryz.underlying61 hw (j:=2) rfl (by rw [List.getElem?_map,List.getElem?_eq_getElem (by omega)];rfl))
  have q2:[c2]=[.slice a2.addr a2.list.length a2.cap]:=by
   have hk:Tryz.prog.cellsOf 47=1:=by kernel_rfl
   rw [hk] at e2;exact e2
  clear e2;simp only [List.cons.injEq,and_true] at q2;rw [List.getElem?_eq_getElem (by omega)] at h3;obtain⟨a3,e3,d3⟩:=(iW Tryz.underlying41 (dG (T:=(kO.slice 16)) (b:=24) Tryz.underlying41 (by kernel_rfl) (by kernel_rfl) (dG (T:=kO) (b:=16) Tryz.underlying47 (by kernel_rfl) (by kernel_rfl) pV))) _ _ _ h3 (cI Tryz.underlying61 hw (j:=3) rfl (by rw [List.getElem?_map,List.getElem?_eq_getElem (by omega)];rfl))
  have q3:[c3]=[.slice a3.addr a3.list.length a3.cap]:=by
   have hk:Tryz.prog.cellsOf 41=1:=by kernel_rfl
   rw [hk] at e3;exact e3
  clear e3;simp only [List.cons.injEq,and_true] at q3;rw [List.getElem?_eq_getElem (by omega)] at h4;obtain⟨a4,e4,d4⟩:=(gD Tryz.underlying58) _ _ _ h4 (cI Tryz.underlying61 hw (j:=4) rfl (by rw [List.getElem?_map,List.getElem?_eq_getElem (by omega)];rfl))
  have q4:[c4]=[.int .u8 a4]:=by
   have hk:Tryz.prog.cellsOf 58=1:=by kernel_rfl
   rw [hk] at e4;exact e4
  clear e4;simp only [List.cons.injEq,and_true] at q4;rw [List.getElem?_eq_getElem (by omega)] at h5;obtain⟨a5,e5,d5⟩:=(iW Tryz.underlying59 (dG (T:=opTy) (b:=56) Tryz.underlying59 (by kernel_rfl) (by kernel_rfl) opens_op)) _ _ _ h5 (cI Tryz.underlying61 hw (j:=5) rfl (by rw [List.getElem?_map,List.getElem?_eq_getElem (by omega)];rfl))
  have q5:[c5]=[.slice a5.addr a5.list.length a5.cap]:=by
   have hk:Tryz.prog.cellsOf 59=1:=by kernel_rfl
   rw [hk] at e5;exact e5
  clear e5;simp only [List.cons.injEq,and_true] at q5;obtain rfl:=q0;obtain rfl:=q1;obtain rfl:=q2;obtain rfl:=q3;obtain rfl:=q4;obtain rfl:=q5;exact⟨⟨a0,a1,a2,a3,a4,a5⟩,rfl,d0,d1,d2,d3,d4,d5,trivial⟩
def coreTy:Ty kS:=⟨coreE,fun x=>(bK.pure ((Lit.int .i64 x.vars).wf=true)).and ((((bufTy.slicec 32)).deep x.bufs).and ((((bAb.slicec 96)).deep x.steps).and ((((uC.slicec 8)).deep x.outs).and (bK.true))))⟩
set_option maxRecDepth 100000 in
theorem opens_core{H:Type}{enc:TypeId×Value→H}{w:World}:lY enc Tryz.prog w 31 coreE.cells coreTy.deep:=fun fuel cs x h hw=>by
 obtain⟨xs,n,_,rfl,hlen,hxl,hf⟩:=DataW.trod_struct Tryz.underlying31 h;have hc:Tryz.prog.cellsOf 31=4:=by kernel_rfl
 rw [hc] at hlen;have hxl':xs.length=4:=hxl
 match cs,hlen with
 | [c0,c1,c2,c3],_=>
  have h0:DataW.trod enc Tryz.prog w 0 (fun _=>true) true n 3 (([c0,c1,c2,c3].drop 0).take (Tryz.prog.cellsOf 3))=xs[0]?:=hf 0 _ rfl;have h1:DataW.trod enc Tryz.prog w 0 (fun _=>true) true n 27 (([c0,c1,c2,c3].drop 1).take (Tryz.prog.cellsOf 27))=xs[1]?:=hf 1 _ rfl;have h2:DataW.trod enc Tryz.prog w 0 (fun _=>true) true n 28 (([c0,c1,c2,c3].drop 2).take (Tryz.prog.cellsOf 28))=xs[2]?:=hf 2 _ rfl;have h3:DataW.trod enc Tryz.prog w 0 (fun _=>true) true n 29 (([c0,c1,c2,c3].drop 3).take (Tryz.prog.cellsOf 29))=xs[3]?:=hf 3 _ rfl;rw [List.getElem?_eq_getElem (by omega)] at h0;obtain⟨a0,e0,d0⟩:=(gD Tryz.underlying3) _ _ _ h0 (cI Tryz.underlying31 hw (j:=0) rfl (by rw [List.getElem?_map,List.getElem?_eq_getElem (by omega)];rfl))
  have q0:[c0]=[.int .i64 a0]:=by
   have hk:Tryz.prog.cellsOf 3=1:=by kernel_rfl
   rw [hk] at e0;exact e0
  clear e0;simp only [List.cons.injEq,and_true] at q0;rw [List.getElem?_eq_getElem (by omega)] at h1;obtain⟨a1,e1,d1⟩:=(iW Tryz.underlying27 (dG (T:=bufTy) (b:=32) Tryz.underlying27 (by kernel_rfl) (by kernel_rfl) opens_buf)) _ _ _ h1 (cI Tryz.underlying31 hw (j:=1) rfl (by rw [List.getElem?_map,List.getElem?_eq_getElem (by omega)];rfl))
  have q1:[c1]=[.slice a1.addr a1.list.length a1.cap]:=by
   have hk:Tryz.prog.cellsOf 27=1:=by kernel_rfl
   rw [hk] at e1;exact e1
  clear e1;simp only [List.cons.injEq,and_true] at q1;rw [List.getElem?_eq_getElem (by omega)] at h2;obtain⟨a2,e2,d2⟩:=(iW Tryz.underlying28 (dG (T:=bAb) (b:=96) Tryz.underlying28 (by kernel_rfl) (by kernel_rfl) opens_step)) _ _ _ h2 (cI Tryz.underlying31 hw (j:=2) rfl (by rw [List.getElem?_map,List.getElem?_eq_getElem (by omega)];rfl))
  have q2:[c2]=[.slice a2.addr a2.list.length a2.cap]:=by
   have hk:Tryz.prog.cellsOf 28=1:=by kernel_rfl
   rw [hk] at e2;exact e2
  clear e2;simp only [List.cons.injEq,and_true] at q2;rw [List.getElem?_eq_getElem (by omega)] at h3;obtain⟨a3,e3,d3⟩:=(iW Tryz.underlying29 (dG (T:=uC) (b:=8) Tryz.underlying29 (by kernel_rfl) (by kernel_rfl) (gD Tryz.underlying3))) _ _ _ h3 (cI Tryz.underlying31 hw (j:=3) rfl (by rw [List.getElem?_map,List.getElem?_eq_getElem (by omega)];rfl))
  have q3:[c3]=[.slice a3.addr a3.list.length a3.cap]:=by
   have hk:Tryz.prog.cellsOf 29=1:=by kernel_rfl
   rw [hk] at e3;exact e3
  clear e3;simp only [List.cons.injEq,and_true] at q3;obtain rfl:=q0;obtain rfl:=q1;obtain rfl:=q2;obtain rfl:=q3;exact⟨⟨a0,a1,a2,a3⟩,rfl,d0,d1,d2,d3,trivial⟩
section
variable {S : Nat → Prop} {w : World}
theorem pol_of{p:PolV}(h:((kO.slice 16).deep p).p S w):(nX p).p S w:=by
 obtain⟨⟨c1,c2⟩,c3⟩:=h;have c3:p.list.length*16≤140737488355328:=c3;exact⟨c1,by show p.list.length≤8796093022208;omega⟩
theorem list_of{l:Sl PolV}(h:(((kO.slice 16).slicec 24).deep l).p S w):(qQ l).p S w:=by
 obtain⟨⟨⟨a1,a2⟩,a3⟩,a4⟩:=h;exact⟨⟨a1,fun p hp=>pol_of (a2 p hp)⟩,a4,a3⟩
theorem op_of{o:OpV}(h:(opTy.deep o).p S w):(opF o).p S w:=pol_of h.2.2.2.1
theorem ops_of{l:Sl OpV}(h:((opTy.slicec 56).deep l).p S w):(opsF l).p S w:=by
 obtain⟨⟨⟨a1,a2⟩,a3⟩,a4⟩:=h;exact⟨⟨a1,fun p hp=>op_of (a2 p hp)⟩,a4,a3⟩
theorem buf_of{b:kX}(h:(bufTy.deep b).p S w):(bufF b).p S w:=list_of h.1
theorem bufs_of{l:Sl kX}(h:((bufTy.slicec 32).deep l).p S w):(bufsF l).p S w:=by
 obtain⟨⟨⟨a1,a2⟩,a3⟩,a4⟩:=h;exact⟨⟨a1,fun p hp=>buf_of (a2 p hp)⟩,a4,a3⟩
theorem step_of{s:fO}(h:(bAb.deep s).p S w):(lX s).p S w:=⟨pol_of h.2.2.1,list_of h.2.2.2.1,ops_of h.2.2.2.2.2.1⟩
theorem steps_of{l:Sl fO}(h:((bAb.slicec 96).deep l).p S w):(bAc l).p S w:=by
 obtain⟨⟨⟨a1,a2⟩,a3⟩,a4⟩:=h;exact⟨⟨a1,fun p hp=>step_of (a2 p hp)⟩,a4,a3⟩
theorem xX{l:Sl Int}(h:((uC.slicec 8).deep l).p S w):(uR l).p S w:=by
 obtain⟨⟨⟨a1,a2⟩,a3⟩,a4⟩:=h;exact⟨a1,a4,a3⟩
theorem core_of{c:kS}(h:(coreTy.deep c).p S w):(mQ c).p S w:=⟨bufs_of h.2.1,steps_of h.2.2.1,xX h.2.2.2.1⟩
end
end Go.Proofs.YtnmhcaahkaocgaaGreatDoor
namespace Go.Proofs.YtnmhcaahkaocgaaGreatDoor
open Go.RowKit
end Go.Proofs.YtnmhcaahkaocgaaGreatDoor
namespace Go.Proofs.YtnmhcaahkaocgaaGreatDoor
open Go.RowKit
structure CasV where
 c:kS
 dims:(Sl Int)
 ins:(Sl ArrV)
 deriving Inhabited
def casE:Flat CasV where
 size:=6
 cells:=fun x=>[.int .i64 x.c.vars,.slice x.c.bufs.addr x.c.bufs.list.length x.c.bufs.cap,.slice x.c.steps.addr x.c.steps.list.length x.c.steps.cap,.slice x.c.outs.addr x.c.outs.list.length x.c.outs.cap,.slice x.dims.addr x.dims.list.length x.dims.cap,.slice x.ins.addr x.ins.list.length x.ins.cap]
 len:=fun _=>rfl
 one:=fun x u hu=>by
  simp at hu
  rcases hu with rfl | rfl | rfl | rfl | rfl | rfl<;>rfl
 pos:=by decide
def casT:Tab:=[(3,⟨.int .i64,1⟩),(2,⟨.int .i64,1⟩),(5,⟨.int .u8,1⟩),(4,⟨.bool,1⟩),(58,⟨.int .u8,1⟩),(32,⟨.int .i64,1⟩),(47,⟨.slice 75,1⟩),(41,⟨.slice 47,1⟩),(72,⟨.struct [(3,0),(3,1),(2,2),(47,3),(58,4)],5⟩),(59,⟨.slice 72,1⟩),(45,⟨.struct [(41,0),(3,1)],2⟩),(27,⟨.slice 45,1⟩),(61,⟨.struct [(3,0),(3,1),(47,2),(41,3),(58,4),(59,5)],6⟩),(28,⟨.slice 61,1⟩),(29,⟨.slice 3,1⟩),(57,⟨.slice 4,1⟩),(31,⟨.struct [(3,0),(27,1),(28,2),(29,3)],4⟩),(114,⟨.struct [(3,0),(3,1),(3,2),(57,3)],4⟩),(63,⟨.slice 2,1⟩),(123,⟨.slice 63,1⟩),(77,⟨.struct [(63,0),(63,1)],2⟩),(64,⟨.slice 77,1⟩),(125,⟨.struct [(31,0),(63,4),(123,5),(2,6),(63,7)],8⟩),(132,⟨.struct [(31,0),(63,4),(123,5),(2,6)],7⟩),(66,⟨.struct [(31,0),(63,4),(64,5)],6⟩),(111,⟨.array 64 4,64⟩),(75,⟨.struct [(2,0),(73,1)],7⟩),(73,⟨.array 6 5,6⟩),(224,⟨.slice 5,1⟩),(304,⟨.int .u64,1⟩),(112,⟨.other,1⟩),(177,⟨.other,1⟩),(118,⟨.other,1⟩),(181,⟨.other,1⟩),(122,⟨.other,1⟩),(130,⟨.other,1⟩),(195,⟨.other,1⟩),(189,⟨.other,1⟩),(277,⟨.int .u64,1⟩),(368,⟨.other,1⟩)]
theorem casT_ok:dQ Tryz.prog casT:=rZ.ok
 ⟨⟨by rw [Tryz.underlying3];rfl,by kernel_rfl⟩,
  ⟨by rw [Tryz.underlying2];rfl,by kernel_rfl⟩,
  ⟨by rw [Tryz.underlying5];rfl,by kernel_rfl⟩,
  ⟨by rw [Tryz.underlying4];rfl,by kernel_rfl⟩,
  ⟨by rw [Tryz.underlying58];rfl,by kernel_rfl⟩,
  ⟨by rw [Tryz.underlying32];rfl,by kernel_rfl⟩,
  ⟨by rw [Tryz.underlying47];rfl,by kernel_rfl⟩,
  ⟨by rw [Tryz.underlying41];rfl,by kernel_rfl⟩,
  ⟨by rw [Tryz.underlying72];rfl,by kernel_rfl⟩,
  ⟨by rw [Tryz.underlying59];rfl,by kernel_rfl⟩,
  ⟨by rw [Tryz.underlying45];rfl,by kernel_rfl⟩,
  ⟨by rw [Tryz.underlying27];rfl,by kernel_rfl⟩,
  ⟨by rw [Tryz.underlying61];rfl,by kernel_rfl⟩,
  ⟨by rw [Tryz.underlying28];rfl,by kernel_rfl⟩,
  ⟨by rw [Tryz.underlying29];rfl,by kernel_rfl⟩,
  ⟨by rw [Tryz.underlying57];rfl,by kernel_rfl⟩,
  ⟨by rw [Tryz.underlying31];rfl,by kernel_rfl⟩,
  ⟨by rw [Tryz.underlying114];rfl,by kernel_rfl⟩,
  ⟨by rw [Tryz.underlying63];rfl,by kernel_rfl⟩,
  ⟨by rw [Tryz.underlying123];rfl,by kernel_rfl⟩,
  ⟨by rw [Tryz.underlying77];rfl,by kernel_rfl⟩,
  ⟨by rw [Tryz.underlying64];rfl,by kernel_rfl⟩,
  ⟨by rw [Tryz.underlying125];rfl,by kernel_rfl⟩,
  ⟨by rw [Tryz.underlying132];rfl,by kernel_rfl⟩,
  ⟨by rw [Tryz.underlying66];rfl,by kernel_rfl⟩,
  ⟨by rw [Tryz.underlying111];rfl,by kernel_rfl⟩,
  ⟨by rw [Tryz.underlying75];rfl,by kernel_rfl⟩,
  ⟨by rw [Tryz.underlying73];rfl,by kernel_rfl⟩,
  ⟨by rw [Tryz.underlying224];rfl,by kernel_rfl⟩,
  ⟨by rw [Tryz.underlying304];rfl,by kernel_rfl⟩,
  ⟨by rw [Tryz.underlying112];rfl,by kernel_rfl⟩,
  ⟨by rw [Tryz.underlying177];rfl,by kernel_rfl⟩,
  ⟨by rw [Tryz.underlying118];rfl,by kernel_rfl⟩,
  ⟨by rw [Tryz.underlying181];rfl,by kernel_rfl⟩,
  ⟨by rw [Tryz.underlying122];rfl,by kernel_rfl⟩,
  ⟨by rw [Tryz.underlying130];rfl,by kernel_rfl⟩,
  ⟨by rw [Tryz.underlying195];rfl,by kernel_rfl⟩,
  ⟨by rw [Tryz.underlying189];rfl,by kernel_rfl⟩,
  ⟨by rw [Tryz.underlying277];rfl,by kernel_rfl⟩,
  ⟨by rw [Tryz.underlying368];rfl,by kernel_rfl⟩,trivial⟩
def arrsF (l:Sl ArrV):bK:=((gV.sl (.slice l.addr l.list.length l.cap) l.list).and (bK.each l.list mG)).and (vO 48 l)
section
variable {F : List bK} {l : Sl ArrV}
theorem arrsF_s(h:Has F (arrsF l)):Has F (gV.sl (.slice l.addr l.list.length l.cap) l.list):=h.left.left
theorem arrsF_e(h:Has F (arrsF l)):Has F (bK.each l.list mG):=h.left.right
end
end Go.Proofs.YtnmhcaahkaocgaaGreatDoor
namespace Go.Proofs.YtnmhcaahkaocgaaGreatDoor
open Go.RowKit Go.ChangeShapes Go.WideShapes
def arrTy:Ty ArrV:=⟨gV,fun x=>(((uC.slicec 8)).deep x.sides).and ((((uC.slicec 8)).deep x.data).and (bK.true))⟩
set_option maxRecDepth 100000 in
theorem opens_arr{H:Type}{enc:TypeId×Value→H}{w:World}:lY enc Tryz.prog w 77 gV.cells arrTy.deep:=fun fuel cs x h hw=>by
 obtain⟨xs,n,_,rfl,hlen,hxl,hf⟩:=DataW.trod_struct Tryz.underlying77 h;have hc:Tryz.prog.cellsOf 77=2:=by kernel_rfl
 rw [hc] at hlen;have hxl':xs.length=2:=hxl
 match cs,hlen with
 | [c0,c1],_=>
  have h0:DataW.trod enc Tryz.prog w 0 (fun _=>true) true n 63 (([c0,c1].drop 0).take (Tryz.prog.cellsOf 63))=xs[0]?:=hf 0 _ rfl;have h1:DataW.trod enc Tryz.prog w 0 (fun _=>true) true n 63 (([c0,c1].drop 1).take (Tryz.prog.cellsOf 63))=xs[1]?:=hf 1 _ rfl;rw [List.getElem?_eq_getElem (by omega)] at h0;obtain⟨a0,e0,d0⟩:=(iW Tryz.underlying63 (dG (T:=uC) (b:=8) Tryz.underlying63 (by kernel_rfl) (by kernel_rfl) (gD Tryz.underlying2))) _ _ _ h0 (cI Tryz.underlying77 hw (j:=0) rfl (by rw [List.getElem?_map,List.getElem?_eq_getElem (by omega)];rfl))
  have q0:[c0]=[.slice a0.addr a0.list.length a0.cap]:=by
   have hk:Tryz.prog.cellsOf 63=1:=by kernel_rfl
   rw [hk] at e0;exact e0
  clear e0;simp only [List.cons.injEq,and_true] at q0;rw [List.getElem?_eq_getElem (by omega)] at h1;obtain⟨a1,e1,d1⟩:=(iW Tryz.underlying63 (dG (T:=uC) (b:=8) Tryz.underlying63 (by kernel_rfl) (by kernel_rfl) (gD Tryz.underlying2))) _ _ _ h1 (cI Tryz.underlying77 hw (j:=1) rfl (by rw [List.getElem?_map,List.getElem?_eq_getElem (by omega)];rfl))
  have q1:[c1]=[.slice a1.addr a1.list.length a1.cap]:=by
   have hk:Tryz.prog.cellsOf 63=1:=by kernel_rfl
   rw [hk] at e1;exact e1
  clear e1;simp only [List.cons.injEq,and_true] at q1;obtain rfl:=q0;obtain rfl:=q1;exact⟨⟨a0,a1⟩,rfl,d0,d1,trivial⟩
def casTy:Ty CasV:=⟨casE,fun x=>(coreTy.deep x.c).and ((((uC.slicec 8)).deep x.dims).and ((((arrTy.slicec 48)).deep x.ins).and (bK.true)))⟩
set_option maxRecDepth 100000 in
theorem opens_cas{H:Type}{enc:TypeId×Value→H}{w:World}:lY enc Tryz.prog w 66 casE.cells casTy.deep:=fun fuel cs x h hw=>by
 obtain⟨xs,n,_,rfl,hlen,hxl,hf⟩:=DataW.trod_struct Tryz.underlying66 h;have hc:Tryz.prog.cellsOf 66=6:=by kernel_rfl
 rw [hc] at hlen;have hxl':xs.length=3:=hxl
 match cs,hlen with
 | [c0,c1,c2,c3,c4,c5],_=>
  have h0:DataW.trod enc Tryz.prog w 0 (fun _=>true) true n 31 (([c0,c1,c2,c3,c4,c5].drop 0).take (Tryz.prog.cellsOf 31))=xs[0]?:=hf 0 _ rfl;have h1:DataW.trod enc Tryz.prog w 0 (fun _=>true) true n 63 (([c0,c1,c2,c3,c4,c5].drop 4).take (Tryz.prog.cellsOf 63))=xs[1]?:=hf 1 _ rfl;have h2:DataW.trod enc Tryz.prog w 0 (fun _=>true) true n 64 (([c0,c1,c2,c3,c4,c5].drop 5).take (Tryz.prog.cellsOf 64))=xs[2]?:=hf 2 _ rfl;rw [List.getElem?_eq_getElem (by omega)] at h0;obtain⟨a0,e0,d0⟩:=opens_core _ _ _ h0 (cI Tryz.underlying66 hw (j:=0) rfl (by rw [List.getElem?_map,List.getElem?_eq_getElem (by omega)];rfl))
  have q0:[c0,c1,c2,c3]=[.int .i64 a0.vars,.slice a0.bufs.addr a0.bufs.list.length a0.bufs.cap,.slice a0.steps.addr a0.steps.list.length a0.steps.cap,.slice a0.outs.addr a0.outs.list.length a0.outs.cap]:=by
   have hk:Tryz.prog.cellsOf 31=4:=by kernel_rfl
   rw [hk] at e0;exact e0
  clear e0;simp only [List.cons.injEq,and_true] at q0;rw [List.getElem?_eq_getElem (by omega)] at h1;obtain⟨a1,e1,d1⟩:=(iW Tryz.underlying63 (dG (T:=uC) (b:=8) Tryz.underlying63 (by kernel_rfl) (by kernel_rfl) (gD Tryz.underlying2))) _ _ _ h1 (cI Tryz.underlying66 hw (j:=1) rfl (by rw [List.getElem?_map,List.getElem?_eq_getElem (by omega)];rfl))
  have q1:[c4]=[.slice a1.addr a1.list.length a1.cap]:=by
   have hk:Tryz.prog.cellsOf 63=1:=by kernel_rfl
   rw [hk] at e1;exact e1
  clear e1;simp only [List.cons.injEq,and_true] at q1;rw [List.getElem?_eq_getElem (by omega)] at h2;obtain⟨a2,e2,d2⟩:=(iW Tryz.underlying64 (dG (T:=arrTy) (b:=48) Tryz.underlying64 (by kernel_rfl) (by kernel_rfl) opens_arr)) _ _ _ h2 (cI Tryz.underlying66 hw (j:=2) rfl (by rw [List.getElem?_map,List.getElem?_eq_getElem (by omega)];rfl))
  have q2:[c5]=[.slice a2.addr a2.list.length a2.cap]:=by
   have hk:Tryz.prog.cellsOf 64=1:=by kernel_rfl
   rw [hk] at e2;exact e2
  clear e2;simp only [List.cons.injEq,and_true] at q2;obtain⟨rfl,rfl,rfl,rfl⟩:=q0;obtain rfl:=q1;obtain rfl:=q2;exact⟨⟨a0,a1,a2⟩,rfl,d0,d1,d2,trivial⟩
section
variable {S : Nat → Prop} {w : World}
theorem arr_of{y:ArrV}(h:(arrTy.deep y).p S w):(mG y).p S w:=⟨xX h.1,xX h.2.1⟩
theorem arrs_of{l:Sl ArrV}(h:((arrTy.slicec 48).deep l).p S w):(arrsF l).p S w:=by
 obtain⟨⟨⟨a1,a2⟩,a3⟩,a4⟩:=h;exact⟨⟨a1,fun p hp=>arr_of (a2 p hp)⟩,a4,a3⟩
theorem cas_of{x:CasV}(h:(casTy.deep x).p S w):(mQ x.c).p S w∧(uR x.dims).p S w∧(arrsF x.ins).p S w:=⟨core_of h.1,xX h.2.1,arrs_of h.2.2.1⟩
end
end Go.Proofs.YtnmhcaahkaocgaaGreatDoor
namespace Go.Proofs.YtnmhcaahkaocgaaGreatDoor
open Go.RowKit
def oX (y:ArrV):bK:=((cH.sl (.slice y.sides.addr y.sides.list.length y.sides.cap) y.sides.list).and (cH.sl (.slice y.data.addr y.data.list.length y.data.cap) y.data.list)).and (bK.pure (y.sides.list.length≤9223372036854775807∧y.data.list.length≤9223372036854775807))
section
variable {F : List bK} {y : ArrV}
theorem arrM_s(h:Has F (oX y)):Has F (cH.sl (.slice y.sides.addr y.sides.list.length y.sides.cap) y.sides.list):=h.left.left
theorem arrM_d(h:Has F (oX y)):Has F (cH.sl (.slice y.data.addr y.data.list.length y.data.cap) y.data.list):=h.left.right
theorem arrM_of(h:Has F (mG y)):Has F (oX y):=Has.and (Has.and (arrF_s h) (arrF_d h)) fun S w k=>by
 have:=(h.left.right S w k).2;have h2:=(h.right.right S w k).2;have h1:y.sides.list.length*8≤140737488355328:=this;have h2:y.data.list.length*8≤140737488355328:=h2;exact⟨by omega,by omega⟩
theorem sE{l:List ArrV}(h:Has F (bK.each l mG)):Has F (bK.each l oX):=fun S w k x hx=>arrM_of (F:=[bK.each l mG]) (Has.each (Has.of (.head _)) hx) S w (All.cons (h S w k) fun g hg=>by cases hg)
theorem arrM_k{l:List ArrV}(h:Has F (bK.each l oX)):Has F (bK.pure (∀a∈l,a.sides.list.length≤9223372036854775807∧a.data.list.length≤9223372036854775807)):=fun S w k a ha=>(h S w k a ha).2
end
section
variable {α : Type} {E : Flat α} {P : Program} {β : dO} {n : Nat} {Γ : Env} {H : List bO} {F : List bK} {K : Act → World → Prop}
theorem nD{A:Option Addr}{t:TypeId}{m cap:Nat}{xs:List α}{H':List bO}(hH:dK H (E.row (.slice A m cap) t xs) H')(h:xs.length≤9223372036854775807→At β n Γ H F K):At β n Γ H F K:=fun a w S f s k=>by
 have hown:w.ownsRow 0 t E.size (.slice A m cap) xs.length (E.all xs):=s.ok _ hH.mem;refine h ?_ a w S f s k;have hm:maxLen=9223372036854775807:=by simp [maxLen]
 rcases hown.2 with ⟨_,e0⟩ | ⟨g,cap',cur,e1,h1,h2,h3,h4,_⟩
 ·omega
 ·injection e1 with e1 e2 e3
  omega
theorem rF: ∀(l:List ArrV) {H:List bO} {F:List bK},At β n Γ H (bK.each l oX::F) K→At β n Γ (sR l++H) F K
 | [],H,F,h=>cG (bK.each [] oX) Has.each_nil h
 | y::r,H,F,h=>by
  refine nD (E:=cH) (A:=y.sides.addr) (cap:=y.sides.cap) (t:=2) (m:=y.sides.list.length) (xs:=y.sides.list) .head fun h1=>?_;refine gT (E:=cH) .head ?_;refine nD (E:=cH) (A:=y.data.addr) (cap:=y.data.cap) (t:=2) (m:=y.data.list.length) (xs:=y.data.list) .head fun h2=>?_;refine gT (E:=cH) .head ?_;refine rF r ?_;refine cG (bK.each (y::r) oX) (Has.each_cons (Has.and (Has.and (Has.of (.tail _ (.tail _ (.head _)))) (Has.of (.tail _ (.head _)))) (Has.pure ⟨h1,h2⟩)) (Has.of (.head _))) ?_;exact at_drop (G:=bK.each (y::r) oX::F) ⟨Has.of (.head _),bJ.drop 4⟩ h
end
end Go.Proofs.YtnmhcaahkaocgaaGreatDoor
namespace Go.Proofs.YtnmhcaahkaocgaaGreatDoor
open Go.RowKit
theorem xU{α β:Type}{f:α→β}{l:List α}{i:Nat}{x:α}(h:l[i]?=some x):(l.map f)[i]?=some (f x):=by simp [h]
theorem arr_ext{x u:ArrV}:x.arr=u.arr↔x.sides.list=u.sides.list∧x.data.list=u.data.list:=by
 unfold ArrV.arr;simp
theorem same_a{x u:ArrV}(h:decide (x.sides.list=u.sides.list)=true):Value.bool (decide (x.data.list=u.data.list))= .bool (decide (x.arr=u.arr)):=by
 have h:=of_decide_eq_true h
 congr 1
 rw [Bool.eq_iff_iff];simp [arr_ext,h]
theorem same_b{x u:ArrV}(h:decide (x.sides.list=u.sides.list)=false):Value.bool false= .bool (decide (x.arr=u.arr)):=by
 have h:=of_decide_eq_false h
 congr 1
 rw [Bool.eq_iff_iff];simp [arr_ext,h]
theorem eqA_f{a b:List Arr}(h:a≠b):Value.bool false= .bool (decide (a=b)):=by simp [h]
theorem eqA_t{a b:List Arr}(h:a=b):Value.bool true= .bool (decide (a=b)):=by simp [h]
set_option maxRecDepth 100000 in
theorem bDz(A B:Option Addr)(ca cb:Nat)(a b:List Int)(hl:a.length≤9223372036854775807):dP Tryz.prog 79 [.slice A a.length ca,.slice B b.length cb] [] [cH.sl (.slice A a.length ca) a,cH.sl (.slice B b.length cb) b] (fun(_:Unit)=> .bool (decide (a=b))) (fun _=>[]) (fun _=>[]):=by
 have hT:=cX;refine cP Tryz.func79 rfl Tryz.ntmps79 rfl ?_;intro β hM;refine sr<|sp hT ?_;refine nn<|bH<|sr<|sp4 hT ?_;refine sp hT ?_;refine nn<|bR rfl (fun hc10=>?_) (fun hc10=>?_)
 ·have hc10:=bne_iff_ne.1 hc10;refine sr<|sp hT ?_;refine nn<|bM<|bP ?_;exact bN () rfl (bI rfl) .nil trivial (oB (fun e=>by have:=congrArg List.length e;omega))
 have hc10:=bne_eq_false_iff_eq.1 hc10;refine bS<|bF<|bH<|sr<|sp hT ?_;refine nn<|bX<|cZ (ι:=Nat) [(0,_),(1,_)] ⟨rfl,rfl,trivial⟩ (fun i=>[(5,.int .i64 (i:Nat))]) (fun _=>[]) (fun i=>[bK.pure (i≤a.length∧a.take i=b.take i)]) (fun i=>a.length-i) 0 ⟨rfl,trivial⟩ .nil ⟨Has.pure (⟨by omega,rfl⟩),trivial⟩ ?_;rintro i;refine cF (Has.of mT0) fun hinv4=>?_;refine bH<|sr<|sp4 hT ?_;refine nn<|bR rfl (fun hc14=>?_) (fun hc14=>?_)
 ·have hc14:=of_decide_eq_true hc14;refine bS<|bF<|bH<|bX<|bH<|jA _ _ [(true,0),(true,1),(true,2),(true,3),(true,4),(true,5),(true,6),(true,7),(true,8)] gI (by decide+kernel) .nil bJ.self ?_;refine puM hT ?_;refine puM hT ?_
  obtain⟨x1,hx2⟩: ∃x',a[i]?=some x':=⟨_,List.getElem?_eq_getElem (by omega)⟩
  refine stM rfl (bY hT (k:=i) (bL (Has.of mT1)) rfl rfl rfl rfl rfl rfl rfl (by omega)) ?_;refine stM rfl (bQ hT (cK.knows (bL (Has.of mT1)) (k:=i) (x:=x1) hx2 0) rfl rfl rfl rfl rfl) ?_;refine puM hT ?_;refine puM hT ?_
  obtain⟨x3,hx4⟩: ∃x',b[i]?=some x':=⟨_,List.getElem?_eq_getElem (by omega)⟩
  refine stM rfl (bY hT (k:=i) (bL (Has.of mT2)) rfl rfl rfl rfl rfl rfl rfl (by omega)) ?_;refine stM rfl (bQ hT (cK.knows (bL (Has.of mT2)) (k:=i) (x:=x3) hx4 0) rfl rfl rfl rfl rfl) ?_;refine puM hT ?_;refine dJ<|bF<|bR rfl (fun hc25=>?_) (fun hc25=>?_)
  ·have hc25:=bne_iff_ne.1 hc25;refine sr<|sp hT ?_;refine nn<|bM<|bT<|bP<|bP<|bT<|bP ?_;exact bN () rfl (bI rfl) .nil trivial (oB (yX hx2 hx4 ‹_›))
  have hc25:=bne_eq_false_iff_eq.1 hc25;refine bS<|bZ<|bF<|bE<|sp2 hT ?_;refine cB (z':=(((i+1):Nat):Int)) (dC (by omega) (by omega)) ?_;refine sp hT ?_;refine nn ?_;exact cO (i+1) (by omega) ⟨rfl,trivial⟩ ⟨rfl,rfl,trivial⟩ .nil ⟨Has.pure (⟨by omega,vP hinv4.2 hx2 hx4 ‹_›⟩),trivial⟩ (bJ.drop 1)
 have hc14:=Int.not_lt.1 (of_decide_eq_false hc14);refine cY<|cJ<|cJ<|cW<|bF<|sr<|sp hT ?_;refine nn<|bM ?_;exact bN () rfl (bI rfl) .nil trivial (bAt (zG hinv4.2 (by omega) (by omega)))
set_option maxRecDepth 100000 in
theorem same6_spec(x u:ArrV)(hs:x.sides.list.length≤9223372036854775807)(hd:x.data.list.length≤9223372036854775807):dP Tryz.prog 37 [.agg #[.slice x.sides.addr x.sides.list.length x.sides.cap,.slice x.data.addr x.data.list.length x.data.cap],.agg #[.slice u.sides.addr u.sides.list.length u.sides.cap,.slice u.data.addr u.data.list.length u.data.cap]] [] [cH.sl (.slice x.sides.addr x.sides.list.length x.sides.cap) x.sides.list,cH.sl (.slice x.data.addr x.data.list.length x.data.cap) x.data.list,cH.sl (.slice u.sides.addr u.sides.list.length u.sides.cap) u.sides.list,cH.sl (.slice u.data.addr u.data.list.length u.data.cap) u.data.list] (fun(_:Unit)=> .bool (decide (x.arr=u.arr))) (fun _=>[]) (fun _=>[]):=by
 have hT:=cX;refine cP Tryz.func37 rfl Tryz.ntmps37 rfl ?_;intro β hM;refine sr<|iZ rfl rfl rfl rfl rfl rfl fun b1=>?_;refine iZ rfl rfl rfl rfl rfl rfl fun b2=>?_;refine sp hT ?_;refine nn<|sr<|sp hT ?_;refine ss (ldO hT (fB kT1)) ?_;refine sp hT ?_;refine ss (ldO hT (fB .head)) ?_;refine cM Tryz.func79 (bDz _ _ _ _ _ _ (by omega)) rfl rfl .nil ⟨Has.of mT0,Has.of mT2,trivial⟩ fun _=>?_;refine sp hT ?_;refine cE (fun hg10=>?_) (fun hg10=>?_)
 ·refine sp hT ?_;refine ss (ldO hT (iF kT1)) ?_;refine sp hT ?_;refine ss (ldO hT (iF .head)) ?_;refine cM Tryz.func79 (bDz _ _ _ _ _ _ (by omega)) rfl rfl .nil ⟨Has.of mT1,Has.of mT3,trivial⟩ fun _=>?_;refine sp2 hT ?_;refine nn<|bM ?_;exact bN () rfl (bI rfl) .nil trivial (by first | exact same_a ‹_› | exact same_b ‹_›)
 refine sk4 ?_;refine sk ?_;refine sp2 hT ?_;refine nn<|bM ?_;exact bN () rfl (bI rfl) .nil trivial (by first | exact same_a ‹_› | exact same_b ‹_›)
set_option maxRecDepth 100000 in
theorem nS(A B:Option Addr)(ca cb:Nat)(xs ys:List ArrV)(hl:xs.length≤9223372036854775807)(hX: ∀a∈xs,a.sides.list.length≤9223372036854775807∧a.data.list.length≤9223372036854775807):dP Tryz.prog 19 [.slice A xs.length ca,.slice B ys.length cb] [] [gV.sl (.slice A xs.length ca) xs,bK.each xs oX,gV.sl (.slice B ys.length cb) ys,bK.each ys oX] (fun(_:Unit)=> .bool (decide (xs.map ArrV.arr=ys.map ArrV.arr))) (fun _=>[]) (fun _=>[]):=by
 have hT:=cX;refine cP Tryz.func19 rfl Tryz.ntmps19 rfl ?_;intro β hM;refine sr<|sp hT ?_;refine nn<|bH<|sr<|sp4 hT ?_;refine sp hT ?_;refine nn<|bR rfl (fun hc10=>?_) (fun hc10=>?_)
 ·have hc10:=bne_iff_ne.1 hc10;refine sr<|sp hT ?_;refine nn<|bM<|bP ?_;exact bN () rfl (bI rfl) .nil trivial (eqA_f (fun e=>by have:=congrArg List.length e;simp at this;omega))
 have hc10:=bne_eq_false_iff_eq.1 hc10;refine bS<|bF<|bH<|sr<|sp hT ?_;refine nn<|bX<|cZ (ι:=Nat) [(0,_),(1,_)] ⟨rfl,rfl,trivial⟩ (fun i=>[(5,.int .i64 (i:Nat))]) (fun _=>[]) (fun i=>[bK.pure (i≤xs.length∧(xs.map ArrV.arr).take i=(ys.map ArrV.arr).take i)]) (fun i=>xs.length-i) 0 ⟨rfl,trivial⟩ .nil ⟨Has.pure (⟨by omega,rfl⟩),trivial⟩ ?_;rintro i;refine cF (Has.of mT0) fun hinv4=>?_;refine bH<|sr<|sp4 hT ?_;refine nn<|bR rfl (fun hc14=>?_) (fun hc14=>?_)
 ·have hc14:=of_decide_eq_true hc14;refine bS<|bF<|bH<|bX<|bH ?_
  obtain⟨x,hx⟩: ∃q,xs[i]?=some q:=⟨_,List.getElem?_eq_getElem (by omega)⟩
  refine cG (oX x) (Has.each (Has.of mT2) (List.mem_of_getElem? hx)) ?_
  obtain⟨u,hu⟩: ∃q,ys[i]?=some q:=⟨_,List.getElem?_eq_getElem (by omega)⟩
  refine cG (oX u) (Has.each (Has.of mT5) (List.mem_of_getElem? hu)) ?_;have hxb:=hX x (List.mem_of_getElem? hx);refine jA _ _ [(true,0),(true,1),(true,2),(true,3),(true,4),(true,5),(true,6),(true,7),(false,8),(true,9)] gI (by decide+kernel) .nil bJ.self ?_;refine puM hT ?_;refine puM hT ?_;refine stM rfl (bY hT (k:=i) (bL (Has.of mT3)) rfl rfl rfl rfl rfl rfl rfl (by omega)) ?_;refine stM rfl (fE hT (cK.knows (bL (Has.of mT3)) (k:=i) (x:=x) hx 0) rfl rfl rfl rfl rfl) ?_;refine puM hT ?_;refine puM hT ?_;refine stM rfl (bY hT (k:=i) (bL (Has.of mT5)) rfl rfl rfl rfl rfl rfl rfl (by omega)) ?_;refine stM rfl (fE hT (cK.knows (bL (Has.of mT5)) (k:=i) (x:=u) hu 0) rfl rfl rfl rfl rfl) ?_;refine gF (o:=_) rfl ?_;refine cM Tryz.func37 (same6_spec x u hxb.1 hxb.2) rfl rfl .nil ⟨arrM_s (Has.of mT1),arrM_d (Has.of mT1),arrM_s (Has.of mT0),arrM_d (Has.of mT0),trivial⟩ fun _=>?_;refine gJ .nil (bJ.drop 0) ?_;refine puM hT ?_;refine dJ<|bF<|bR rfl (fun hc26=>?_) (fun hc26=>?_)
  ·have hc26:=mO hc26;refine sr<|sp hT ?_;refine nn<|bM<|bT<|bP<|bP<|bT<|bP ?_;exact bN () rfl (bI rfl) .nil trivial (eqA_f (yX (xU hx) (xU hu) (of_decide_eq_false ‹_›)))
  have hc26:=mU hc26;refine bS<|bZ<|bF<|bE<|sp2 hT ?_;refine cB (z':=(((i+1):Nat):Int)) (dC (by omega) (by omega)) ?_;refine sp hT ?_;refine nn ?_;exact cO (i+1) (by omega) ⟨rfl,trivial⟩ ⟨rfl,rfl,trivial⟩ .nil ⟨Has.pure (⟨by omega,vP hinv4.2 (xU hx) (xU hu) (of_decide_eq_true ‹_›)⟩),trivial⟩ (bJ.drop 3)
 have hc14:=Int.not_lt.1 (of_decide_eq_false hc14);refine cY<|cJ<|cJ<|cW<|bF<|sr<|sp hT ?_;refine nn<|bM ?_;exact bN () rfl (bI rfl) .nil trivial (eqA_t (zG hinv4.2 (by rw [List.length_map];omega) (by rw [List.length_map];omega)))
end Go.Proofs.YtnmhcaahkaocgaaGreatDoor
namespace Go.Proofs.YtnmhcaahkaocgaaGreatDoor
open Go.RowKit
section
variable {P : Program} {β : dO} {n : Nat} {Γ : Env} {H : List bO} {F : List bK} {Q : Exit → Act → World → Prop} {K : Act → World → Prop} {T : Tab} {α : Type} {E : Flat α} {m : Nat} {D : fG}
def bK.on (D:fG)(f:bK):bK where
 p S w:=f.p (fun b=>S b∧D b) w
 mono:=fun hs ha h=>f.mono (fun b hb=>⟨hs b hb.1,hb.2⟩) (fun b hb=>ha b hb.1) h
theorem Has.on{D:fG}{f:bK}(h:Has F (bK.on D f)):Has F f:=fun S w k=>f.mono (fun _ hb=>hb.1) (fun _ _=>rfl) (h S w k)
def SpecM (m:Nat){ι:Type}(P:Program)(f:FuncId)(args:List Value)(Hin:List bO)(Pre:List bK)(val:ι→Value)(Hout:ι→List bO)(post:ι→List bK):Prop:=
 ∀S w,m≤w.heap.size→St ⟨w,hJ Hin,S⟩ Hin S w→All Pre S w→Calls P f args.toArray w fun e w'=> ∃x S',e= .returned (val x)∧St ⟨w,hJ Hin,S⟩ (Hout x) S' w'∧All (post x) S' w'
theorem at_call_new{ι:Type}{ops:Array Oper}{rest:List Oper}{o:Oper}{d:Nat}{f:FuncId}{ars:Array Operand}{ts:Array TypeId}{vs:List Value}{Pre:List bK}{val:ι→Value}{Hout:ι→List bO}{post:Nat→ι→List bK}
  (hcf: ∀(args:Array Value) (w:World),(callFunc f args).run P w= .ok (.enter f args) w) (hs: ∀m,SpecM m P f vs [] Pre val Hout (post m)) (hw:want ops Γ o=some true) (ho:o.op= .call ⟨.value (.func f),ars,ts⟩) (hd:o.dst=some d) (hn:Nat.blt d n=true)
  (hv:Γ.evs ars.toList=some vs) (hF:bJ F Pre) (k: ∀m x,β.w.heap.size≤m→At β n ((d,val x)::Γ) (Hout x++H) (post m x++F.map (bK.on fun b=>b<m)) (wpList P ops Q rest)):At β n Γ H F (wpList P ops Q (o::rest)):=
 gA hw fun a w S f s hk=>by
  unfold Oper.wp;rw [rX hcf ho f hv w,Oper.upon_enter];have s1:St β ([]++H) S w:=s
  have hlow:All (F.map (bK.on fun b=>b<w.heap.size)) S w:=fun g hg=>by
   obtain⟨f0,hf0,rfl⟩:=List.mem_map.1 hg;exact f0.mono (fun b hb=>⟨hb,(s.zone b hb).1⟩) (fun _ _=>rfl) (hk f0 hf0)
  refine(hs w.heap.size S w (Nat.le_refl _) s1.enter (hF.all S w hk)).mono ?_;rintro e w' ⟨x,S',rfl,s',k'⟩;show wpList P ops Q rest (a.put o.dst (val x)) w';rw [hd];exact k _ x s.kept.size _ _ _ (f.put (by simpa [Nat.blt_eq] using hn) _) (s1.leave s') ((All.mono (fun _ h=> .inr h) (fun _ _=>rfl) k').append (All.leave s1 s' hlow))
theorem bBy{ι:Type}{ops:Array Oper}{rest:List Oper}{o:Oper}{d:Nat}{f:FuncId}{ars:Array Operand}{ts:Array TypeId}{vs:List Value}{Pre:List bK}{val:ι→Value}{Hout:ι→List bO}{post:ι→List bK}{Fn:Nat→List bK}
  (hcf: ∀(args:Array Value) (w:World),(callFunc f args).run P w= .ok (.enter f args) w) (hs:dP P f vs [] Pre val Hout post) (hw:want ops Γ o=some true) (ho:o.op= .call ⟨.value (.func f),ars,ts⟩) (hd:o.dst=some d) (hn:Nat.blt d n=true)
  (hv:Γ.evs ars.toList=some vs) (hF:bJ F (Pre.map (bK.on fun b=>b<m))) (hup: ∀m2 S w,(∀b,S b→b<m2)→All F S w→All (Fn m2) S w)
  (k: ∀m2 x,At β n ((d,val x)::Γ) (Hout x++H) ((post x).map (bK.on fun b=>b<m∨m2≤b)++Fn m2) (wpList P ops Q rest)):At β n Γ H F (wpList P ops Q (o::rest)):=
 gA hw fun a w S f s hk=>by
  unfold Oper.wp;rw [rX hcf ho f hv w,Oper.upon_enter];have s1:St β ([]++H) S w:=s;have hlow:All Pre (fun b=>S b∧b<m) w:=fun g hg=>hF.all S w hk (bK.on (fun b=>b<m) g) (List.mem_map_of_mem hg)
  have s0:St ⟨w,hJ [],fun b=>S b∧b<m⟩ [] (fun b=>S b∧b<m) w:=⟨kR.refl _ _,(fun c hc=>by cases hc),(fun c hc=>by cases hc),List.Pairwise.nil,fun b hb=>⟨(s.zone b hb.1).1,.inl hb⟩⟩
  refine(hs _ w s0 hlow).mono ?_;rintro e w' ⟨x,S',rfl,s',k'⟩;show wpList P ops Q rest (a.put o.dst (val x)) w';rw [hd]
  have s2:St ⟨w,hJ [],S⟩ (Hout x) S' w':=⟨s'.kept,s'.ok,s'.own,s'.sep,fun b hb=>⟨(s'.zone b hb).1,by
   rcases (s'.zone b hb).2 with h | h | h
   ·exact .inl h.1
   ·exact .inr (.inl h)
   ·exact .inr (.inr h)⟩⟩
  refine k w.heap.size x _ _ _ (f.put (by simpa [Nat.blt_eq] using hn) _) (s1.leave s2) (All.append (fun g hg=>?_) (All.leave s1 s2 (hup _ S w (fun b hb=>(s.zone b hb).1) hk)));obtain⟨g0,hg0,rfl⟩:=List.mem_map.1 hg;refine g0.mono (S:=S') (fun b hb=>⟨.inr hb,?_⟩) (fun _ _=>rfl) (k' g0 hg0)
  rcases (s'.zone b hb).2 with h | ⟨c,hc,_⟩ | h
  ·exact .inl h.2
  ·cases hc
  ·exact .inr h
def Flat.newF(E:Flat α)(W:fG)(t:TypeId)(v:Value)(R:List α→Prop):bK where
 p S w:= ∃xs,R xs∧w.ownsRow 0 t E.size v xs.length (E.all xs)∧ ∀b,v.ownBlock=some b→W b∧S b
 mono:=fun hs ha ⟨xs,h1,h2,h3⟩=>⟨xs,h1,(bO.ok_of (c:= .row v t E.size xs.length (E.all xs)) h2 fun b hb=>ha b (h3 b hb).2),fun b hb=>⟨(h3 b hb).1,hs b (h3 b hb).2⟩⟩
theorem yY{v:Value}{t:TypeId}{xs:List α}{H':List bO}{R:List α→Prop}(hM:β.M=hJ [])(hm:m≤β.w.heap.size)(hR:R xs)(hH:dK H (E.row v t xs) H')(h:At β n Γ H' (E.newF (fun b=>m≤b) t v R::E.sl v xs::F) K):At β n Γ H F K:=fun a w S f s k=>by
 have s2:=s.perm hH.perm;have hok:w.ownsRow 0 t E.size v xs.length (E.all xs):=s2.ok _ (List.mem_cons_self ..);have hsep:=List.pairwise_cons.1 s2.sep;have hown:=s2.own _ (List.mem_cons_self ..);have hmono:All F (fun b=>S b∨v.ownBlock=some b) w:=All.mono (fun _ h=> .inl h) (fun _ _=>rfl) k;refine h a w (fun b=>S b∨v.ownBlock=some b) f ⟨s2.kept,fun c hc=>s2.ok c (List.mem_cons_of_mem _ hc),fun c hc b hb=>?_,hsep.2,fun b hb=>?_⟩ (All.cons ⟨xs,hR,hok,fun b hb=>?_⟩ (All.cons ?_ hmono))
 ·obtain⟨h1,h2,h3⟩:=s2.own c (List.mem_cons_of_mem _ hc) b hb;refine⟨h1,h2,fun h=>?_⟩
  rcases h with h | h
  ·exact h3 h
  ·exact hsep.1 c hc b h hb
 ·rcases hb with hb | hb
  ·exact s2.zone b hb
  ·obtain⟨h1,h2,_⟩:=hown b hb;exact⟨h1,.inr h2⟩
 ·obtain⟨_,h2,_⟩:=hown b hb;refine⟨?_,.inr hb⟩
  rcases h2 with h2 | h2
  ·rw [hM] at h2;obtain⟨c,hc,_⟩:=h2;cases hc
  ·exact Nat.le_trans hm h2
 ·exact gT.row_slice hok fun b hb=> .inr hb
theorem uV{W:fG}{v:Value}{t:TypeId}{R:List α→Prop}(hN:Has F (E.newF W t v R))(h: ∀xs,R xs→At β n Γ H (E.sl v xs::F) K):At β n Γ H F K:=fun a w S f s k=>by
 obtain⟨xs,h1,h2,h3⟩:=hN S w k;exact h xs h1 a w S f s (All.cons (gT.row_slice h2 fun b hb=>(h3 b hb).2) k)
def sim (u u':Value):Prop:=u'=u∨ ∃a b,u= .int .i64 a∧u'= .int .i64 b
structure Near (D:fG) (w w':World):Prop where
 low: ∀b:Nat,D b→w'.heap[b]?=w.heap[b]?
 cells: ∀(b:Nat) (cs:Array Value) (t:TypeId) (z:Nat×Nat),w.heap[b]?=some (Obj.cells cs t z)→ ∃cs':Array Value,w'.heap[b]?=some (Obj.cells cs' t z)∧cs'.size=cs.size∧ ∀(i:Nat) (u:Value),cs[i]?=some u→ ∃u',cs'[i]?=some u'∧sim u u'
def dN (D:fG)(f:bK):Prop:= ∀S w w',Near D w w'→f.p S w→f.p S w'
theorem dN.on{f:bK}:dN D (bK.on D f):=fun _ _ _ hn h=>f.mono (fun _ hb=>hb) (fun b hb=>hn.low b hb.2) h
theorem dN.pure{c:Prop}:dN D (bK.pure c):=fun _ _ _ _ h=>h
theorem dN.and{f g:bK}(hf:dN D f)(hg:dN D g):dN D (f.and g):=fun S w w' hn h=>⟨hf S w w' hn h.1,hg S w w' hn h.2⟩
theorem dN.each{γ:Type}{g:γ→bK}{l:List γ}(hg: ∀x∈l,dN D (g x)):dN D (bK.each l g):=fun S w w' hn h x hx=>hg x hx S w w' hn (h x hx)
theorem near_set{w:World}{g off:Nat}{a z:Int}(hg: ¬D g)(hc:w.cell? ⟨g,off,none⟩=some (.int .i64 a)):Near D w (w.setCells g off [.int .i64 z]) where
 low:=fun b hb=>by
  have:g≠b:=fun e=>hg (e▸hb);simp [World.setCells,World.setCell,Array.getElem?_modify,this]
 cells:=fun b cs t fz hb=>by
  by_cases e:g=b
  ·subst e;refine⟨oS cs off [.int .i64 z],oR _ _ _ _ hb,by simp [oS],fun i u hi=>?_⟩;unfold World.cell? at hc;rw [hb] at hc;have hc:cs[off]?=some (.int .i64 a):=hc
   by_cases e:off=i
   ·subst e;rw [hc] at hi;cases hi;have:=(Array.getElem?_eq_some_iff.1 hc).1;exact⟨.int .i64 z,by simp [oS,this],.inr ⟨a,z,rfl,rfl⟩⟩
   ·exact⟨u,by simp [oS,Array.getElem?_setIfInBounds_ne,e,hi],.inl rfl⟩
  ·exact⟨cs,by simp [World.setCells,World.setCell,Array.getElem?_modify,e,hb],rfl,fun i u hi=>⟨u,hi,.inl rfl⟩⟩
def Flat.Sim(E:Flat α)(R:α→α→Prop):Prop:= ∀x (cs:List Value),cs.length=E.size→(∀(i:Nat) u u',(E.cells x)[i]?=some u→cs[i]?=some u'→sim u u')→ ∃x',E.cells x'=cs∧R x x'
theorem Flat.Sim.all{R:α→α→Prop}(hS:E.Sim R): ∀(xs:List α) (cs:List Value),cs.length=(E.all xs).length→(∀(i:Nat) u u',(E.all xs)[i]?=some u→cs[i]?=some u'→sim u u')→
  ∃xs',E.all xs'=cs∧xs'.length=xs.length∧ ∀(i:Nat) x x',xs[i]?=some x→xs'[i]?=some x'→R x x'
 | [],cs,hl,_=>⟨[],by rw [List.eq_nil_of_length_eq_zero hl];rfl,rfl,fun i x x' h=>by simp at h⟩
 | x::xs,cs,hl,hs=>by
  have ha:E.all (x::xs)=E.cells x++E.all xs:=rfl;have hx:(E.cells x).length=E.size:=E.len x;rw [ha,List.length_append] at hl;rw [ha] at hs
  obtain⟨x',hx',hr⟩:=hS x (cs.take E.size) (by rw [List.length_take];omega) fun i u u' hu hu'=>by
   have hi:=(List.getElem?_eq_some_iff.1 hu).1;refine hs i u u' (by rw [List.getElem?_append_left hi];exact hu) ?_;rw [List.getElem?_take] at hu';split at hu'
   ·exact hu'
   ·cases hu'
  obtain⟨xs',h1,h2,h3⟩:=Flat.Sim.all hS xs (cs.drop E.size) (by rw [List.length_drop];omega) fun i u u' hu hu'=>by
   refine hs (E.size+i) u u' ?_ (by rw [List.getElem?_drop] at hu';exact hu');rw [List.getElem?_append_right (by omega),hx,Nat.add_sub_cancel_left];exact hu
  refine⟨x'::xs',?_,by simp [h2],fun i y y' hy hy'=>?_⟩
  ·show E.cells x'++E.all xs'=cs;rw [hx',h1,List.take_append_drop]
  ·cases i with
   | zero=>
    simp at hy hy';subst hy hy';exact hr
   | succ i=>
    simp at hy hy';exact h3 i y y' hy hy'
theorem dN.newF{W:fG}{t:TypeId}{v:Value}{R:List α→Prop}{Rel:α→α→Prop}(hS:E.Sim Rel)(hR: ∀xs xs':List α,xs'.length=xs.length→(∀(i:Nat) x x',xs[i]?=some x→xs'[i]?=some x'→Rel x x')→R xs→R xs'):dN D (E.newF W t v R):=fun S w w' hn ⟨xs,h1,h2,h3⟩=>by
 obtain⟨hl,h2⟩:=h2
 rcases h2 with ⟨e,e0⟩ | ⟨g,cap,cur,e,hb,hh,hc1,hc2,hc3,hc4⟩
 ·exact⟨xs,h1,⟨hl,.inl ⟨e,e0⟩⟩,h3⟩
 ·obtain⟨cur',k1,k2,k3⟩:=hn.cells g cur t (0,0) hh
  obtain⟨xs',x1,x2,x3⟩:=hS.all xs (cur'.toList.take (xs.length*E.size)) (by
   rw [←hc4]
   simp only [List.length_take,Array.length_toList,k2]) fun i u u' hu hu'=>by
   rw [←hc4,List.getElem?_take] at hu;rw [List.getElem?_take] at hu';split at hu
   ·rename_i hi;rw [if_pos hi] at hu';rw [Array.getElem?_toList] at hu hu';obtain⟨u2,q1,q2⟩:=k3 i u hu;rw [hu'] at q1;cases q1;exact q2
   ·cases hu
  refine⟨xs',hR xs xs' x2 x3 h1,⟨by rw [E.all_length],.inr ⟨g,cap,cur',by rw [x2];exact e,hb,k1,by rw [x2];exact hc1,hc2,by rw [k2];exact hc3,by rw [x2];exact x1.symm⟩⟩,h3⟩
theorem dN.sl{v:Value}{xs:List α}(hE: ∀x,∀u∈E.cells x,∀a,u≠ .int .i64 a):dN D (E.sl v xs):=fun S w w' hn ⟨A,cap,e,h⟩=>⟨A,cap,e,fun k x hk=>by
 obtain⟨b,o,cs,e1,e2,e3,e4⟩:=h k x hk;have e4':cs=E.cells x:=e4;refine⟨b,o,cs,e1,e2,fun j u hj=>?_,e4⟩;have h1:=e3 j u hj;unfold World.cell? at h1⊢
 cases hb:w.heap[b]? with
 | none=>rw [hb] at h1;cases h1
 | some ob=>
  rw [hb] at h1
  cases ob with
  | cells c t fz=>
   obtain⟨c',k1,_,k3⟩:=hn.cells b c t fz hb;have h1:c[o+k*E.size+j]?=some u:=h1;obtain⟨u',q1,q2⟩:=k3 _ u h1;simp only [k1];show c'[o+k*E.size+j]?=some u;rw [q1]
   rcases q2 with rfl | ⟨a,_,rfl,_⟩
   ·rfl
   ·exact absurd rfl (hE x _ (by rw [←e4'];exact List.mem_of_getElem? hj) a)
  | _=>cases h1⟩
def vM (D:fG):List bK→Prop
 | []=>True
 | f::F=>dN D f∧vM D F
theorem vM.all: ∀{F:List bK},vM D F→ ∀f∈F,dN D f
 | [],_,f,hf=>by cases hf
 | g::F,h,f,hf=>by
  rcases List.mem_cons.1 hf with rfl | hf
  ·exact h.1
  ·exact vM.all h.2 f hf
theorem mY{ops:Array Oper}{rest:List Oper}{o:Oper}(hT:dQ P T){t t' k fo len cap:Nat}{p x:Operand}{z:Int}{A:Option Addr}{R:List α→Prop}{F':List bK}{W:fG}(hW: ∀b,W b→ ¬D b∧β.w.heap.size≤b)(hN:Has F (E.newF W t' (.slice A len cap) R))(hF:bJ F F')(hst:vM D F')
  (hw:want ops Γ o=some true) (ho:o.op= .store t p x) (hd:o.dst=none) (hp:Γ.ev p=some (.pointer (some ⟨ablk A,aoff A+k*E.size+fo,none⟩))) (hx:Γ.ev x=some (.int .i64 z)) (ht:T.get t=some ⟨.int .i64,1⟩) (hk:k<len) (hc: ∀y:α,∃a,(E.cells y)[fo]?=some (.int .i64 a))
  (K:At β n Γ H F' (wpList P ops Q rest)):At β n Γ H F (wpList P ops Q (o::rest)):=
 gA hw fun a w S f s hF0=>by
  obtain⟨xs,_,hown,hg⟩:=hN S w hF0;obtain⟨hl,h2⟩:=id hown
  rcases h2 with ⟨e,e0⟩ | ⟨g,cap',cur,e,hb,hh,hc1,hc2,hc3,hc4⟩
  ·injection e with _ e2
   omega
  ·injection e with e1 e2 e3
   subst e1 e2 e3;obtain⟨hm,hSg⟩:=hg g rfl
   obtain⟨y,hy⟩: ∃y,xs[k]?=some y:=⟨_,List.getElem?_eq_getElem hk⟩
   obtain⟨a0,ha0⟩:=hc y;have hfo:fo<E.size:=by have:=(List.getElem?_eq_some_iff.1 ha0).1;rwa [E.len] at this
   have hmul:(k+1)*E.size≤xs.length*E.size:=Nat.mul_le_mul_right _ hk;rw [Nat.add_mul,Nat.one_mul] at hmul
   have hcell:w.cell? ⟨g,k*E.size+fo,none⟩=some (.int .i64 a0):=by
    rw [World.ownsRow.cellAt hown _ (by omega)];exact E.all_get hy ha0
   have hsto:=run_storeCells_cells (P:=P) g (k*E.size+fo) [Value.int .i64 z] 0 w (fun j hj=>by
    have:j=0:=by simpa using hj
    subst this
    simpa using (by rw [hcell];rfl:(w.cell? ⟨g,k*E.size+fo,none⟩).isSome=true)) (fun j hj=>by simpa using World.ownsRow.frozenAt hown _) (fun u hu=>by
    have:u= .int .i64 z:=by simpa using hu
    subst this
    rfl)
   rw [Nat.add_zero] at hsto
   have hr:(execOp a.eval o).run P w= .ok .skip (w.setCells g (k*E.size+fo) [.int .i64 z]):=by
    have hp':a.eval p= .pointer (some ⟨g,k*E.size+fo,none⟩):=by
     rw [f.ev hp];simp [ablk,aoff]
    unfold execOp;simp only [ho,hp',f.ev hx,Instr.storeAt,Instr.sureAddr,storeVar,Sem.run_bind,Sem.run_pure,Result.andThen_ok,hT.size ht];simp [Value.cells,hsto]
   unfold Oper.wp;rw [hr,Oper.upon_skip,hd];refine K _ _ S (f.put_none _) (s.grow (iY g _ _ w) (fun b hb=>by subst hb;exact .inr (hW _ hm).2) (fun d hd b2 hb2 e2=>by subst e2;exact(s.own d hd _ hb2).2.2 hSg)) (fun q hq=>hst.all q hq S w _ (near_set (hW _ hm).1 hcell) (hF.all S w hF0 q hq))
end
end Go.Proofs.YtnmhcaahkaocgaaGreatDoor
namespace Go.Proofs.YtnmhcaahkaocgaaGreatDoor
open Go.RowKit
section
variable {P : Program} {β : dO} {n : Nat} {Γ : Env} {H : List bO} {F : List bK} {K : Act → World → Prop} {m : Nat}
theorem spec_stepA{ι:Type}{f:FuncId}{args:List Value}{Hin:List bO}{Pre:List bK}{val:ι→Value}{Hout Hout':ι→List bO}{post post':ι→List bK}(h:dP P f args Hin Pre val Hout post)
  (hc: ∀(x:ι) (β:dO),At β 0 [] (Hout x) (post x) fun _ w=> ∃S',St β (Hout' x) S' w∧All (post' x) S' w):dP P f args Hin Pre val Hout' post':=fun S w s k=>(h S w s k).mono fun e w' ⟨x,S',he,hs,hp⟩=>by
 obtain⟨S2,h1,h2⟩:=hc x _ {tmps:= #[],defers:=[]} w' S' ⟨rfl,Nat.zero_le _,fun i v hv=>by cases hv⟩ hs hp;exact⟨x,S2,he,h1,h2⟩
theorem spec_stepM{ι:Type}{f:FuncId}{args:List Value}{Pre:List bK}{val:ι→Value}{Hout Hout':ι→List bO}{post post':ι→List bK}(h:dP P f args [] Pre val Hout post)
  (hc: ∀(x:ι) (β:dO),β.M=hJ []→m≤β.w.heap.size→At β 0 [] (Hout x) (post x) fun _ w=> ∃S',St β (Hout' x) S' w∧All (post' x) S' w):SpecM m P f args [] Pre val Hout' post':=fun S w hm s k=>(h S w s k).mono fun e w' ⟨x,S',he,hs,hp⟩=>by
 obtain⟨S2,h1,h2⟩:=hc x ⟨w,hJ [],S⟩ rfl hm {tmps:= #[],defers:=[]} w' S' ⟨rfl,Nat.zero_le _,fun i v hv=>by cases hv⟩ hs hp;exact⟨x,S2,he,h1,h2⟩
theorem at_finA{H':List bO}{G:List bK}(hH:Sel H H')(hF:bJ F G):At β n Γ H F fun _ w=> ∃S',St β H' S' w∧All G S' w:=fun _ w S _ s k=>⟨S,s.sel hH,hF.all S w k⟩
def rowN (W:fG)(l:Sl Int):bK:=cH.newF W 2 (.slice l.addr l.list.length l.cap) fun xs=>xs.length=l.list.length
def uO (W:fG)(y:ArrV):bK:=(rowN W y.sides).and (rowN W y.data)
theorem qR(hM:β.M=hJ [])(hm:m≤β.w.heap.size): ∀(l:List ArrV) {H:List bO} {F:List bK},At β n Γ H (bK.each l (uO fun b=>m≤b)::bK.each l oX::F) K→At β n Γ (sR l++H) F K
 | [],H,F,h=>cG (bK.each [] oX) Has.each_nil (cG (bK.each [] (uO fun b=>m≤b)) Has.each_nil h)
 | y::r,H,F,h=>by
  refine nD (E:=cH) (A:=y.sides.addr) (cap:=y.sides.cap) (t:=2) (m:=y.sides.list.length) (xs:=y.sides.list) .head fun h1=>?_;refine yY (E:=cH) (R:=fun xs=>xs.length=y.sides.list.length) hM hm rfl .head ?_;refine nD (E:=cH) (A:=y.data.addr) (cap:=y.data.cap) (t:=2) (m:=y.data.list.length) (xs:=y.data.list) .head fun h2=>?_;refine yY (E:=cH) (R:=fun xs=>xs.length=y.data.list.length) hM hm rfl .head ?_;refine qR hM hm r ?_;refine cG (bK.each (y::r) oX) (Has.each_cons (Has.and (Has.and (Has.of (.tail _ (.tail _ (.tail _ (.tail _ (.tail _ (.head _))))))) (Has.of (.tail _ (.tail _ (.tail _ (.head _)))))) (Has.pure ⟨h1,h2⟩)) (Has.of (.tail _ (.head _)))) ?_;refine cG (bK.each (y::r) (uO fun b=>m≤b)) (Has.each_cons (Has.and (Has.of (.tail _ (.tail _ (.tail _ (.tail _ (.tail _ (.head _))))))) (Has.of (.tail _ (.tail _ (.tail _ (.head _)))))) (Has.of (.tail _ (.head _)))) ?_;exact at_drop (G:=bK.each (y::r) (uO fun b=>m≤b)::bK.each (y::r) oX::F) ⟨Has.of (.head _),Has.of (.tail _ (.head _)),bJ.drop 8⟩ h
end
section
variable (c : kS) (DA : Option Addr) (dcap : Nat) (dims : List Int) (IA : Option Addr) (ic : Nat) (ins : List ArrV) (hdl : dims.length ≤ 140737488355328)
abbrev runArgs:List Value:=[.agg #[.int .i64 c.vars,.slice c.bufs.addr c.bufs.list.length c.bufs.cap,.slice c.steps.addr c.steps.list.length c.steps.cap,.slice c.outs.addr c.outs.list.length c.outs.cap],.slice DA dims.length dcap,.slice IA ins.length ic]
abbrev wG (x:(Option Addr×Nat)×List ArrV):Value:= .tuple #[.slice x.1.1 x.2.length x.1.2,.int .i64 ((rnRun c.c dims (arrL ins)).2.1:Nat),.int .i64 (rnRun c.c dims (arrL ins)).2.2]
abbrev runPost(x:(Option Addr×Nat)×List ArrV):List bK:=[bK.each x.2 oX,gV.sl (.slice x.1.1 x.2.length x.1.2) x.2,bK.pure (x.2.length≤9223372036854775807∧arrL x.2=(rnRun c.c dims (arrL ins)).1)]
include hdl in
theorem vQ:dP Tryz.prog 17 (runArgs c DA dcap dims IA ic ins) [] [mQ c,cH.sl (.slice DA dims.length dcap) dims,gV.sl (.slice IA ins.length ic) ins,bK.each ins mG] (wG c dims ins) (fun _=>[]) (runPost c dims ins):=by
 refine spec_stepA (wL c DA dcap dims IA ic ins hdl) fun x β=>?_;refine cF (Has.of mT0) fun hx=>?_;refine nD (E:=gV) .head fun hl=>?_;refine gT (E:=gV) .head ?_;refine cT (H:=sR x.2) (H':=sR x.2++[]) (by rw [List.append_nil]) ?_;refine rF x.2 ?_;exact at_finA .nil ⟨Has.of mT0,Has.of mT1,Has.pure ⟨hl,hx⟩,trivial⟩
include hdl in
theorem RunN_spec(m:Nat):SpecM m Tryz.prog 17 (runArgs c DA dcap dims IA ic ins) [] [mQ c,cH.sl (.slice DA dims.length dcap) dims,gV.sl (.slice IA ins.length ic) ins,bK.each ins mG] (wG c dims ins) (fun _=>[]) (fun x=>bK.each x.2 (uO fun b=>m≤b)::runPost c dims ins x):=by
 refine spec_stepM (wL c DA dcap dims IA ic ins hdl) fun x β hM hm=>?_;refine cF (Has.of (.head _)) fun hx=>?_;refine nD (E:=gV) .head fun hl=>?_;refine gT (E:=gV) .head ?_;refine cT (H:=sR x.2) (H':=sR x.2++[]) (by rw [List.append_nil]) ?_;refine qR hM hm x.2 ?_;exact at_finA .nil ⟨Has.of (.head _),Has.of (.tail _ (.head _)),Has.of (.tail _ (.tail _ (.head _))),Has.pure ⟨hl,hx⟩,trivial⟩
end
theorem rn_none{c:mD}{ds:List Int}{ins:List Arr}(h:(rnRun c ds ins).2.2≠0):(rnRun c ds ins).1=[]:=by
 unfold rnRun at h⊢;split
 ·rfl
 ·split
  ·rfl
  ·split
   ·rfl
   ·split
    ·rfl
    ·exfalso
     simp_all
end Go.Proofs.YtnmhcaahkaocgaaGreatDoor
namespace Go.Proofs.YtnmhcaahkaocgaaGreatDoor
open Go.RowKit
theorem simK_int{x:Int}{u:Value}(h:sim (.int .i64 x) u): ∃y,u= .int .i64 y:=by
 rcases h with rfl | ⟨_,b,_,rfl⟩
 ·exact⟨x,rfl⟩
 ·exact⟨b,rfl⟩
theorem intSim:cH.Sim fun _ _=>True:=fun o cs hl h=>by
 match cs,hl with
 | [a],_=>
  obtain⟨a',rfl⟩:=simK_int (h 0 _ _ rfl rfl);exact⟨a',rfl,trivial⟩
section
variable {D W W' S : fG} {m2 : Nat} {w : World} {F : List bK}
theorem rowN_st(p:Sl Int):dN D (rowN W p):=dN.newF intSim fun _ _ hl _ h=>hl.trans h
theorem uA(l:List ArrV):dN D (bK.each l (uO W)):=dN.each fun y _=>dN.and (rowN_st y.sides) (rowN_st y.data)
theorem tV(v:Value)(l:List ArrV):dN D (gV.sl v l):=dN.sl fun x u hu a e=>by
 have:u= .slice x.sides.addr x.sides.list.length x.sides.cap∨u= .slice x.data.addr x.data.list.length x.data.cap:=by simpa [gV] using hu
 rcases this with h | h<;>(rw [h] at e;cases e)
theorem newK_up{α:Type}{E:Flat α}{t:TypeId}{v:Value}{R:List α→Prop}(hS: ∀b,S b→W b→W' b)(h:(E.newF W t v R).p S w):(E.newF W' t v R).p S w:=by
 obtain⟨xs,h1,h2,h3⟩:=h;exact⟨xs,h1,h2,fun b hb=>⟨hS b (h3 b hb).2 (h3 b hb).1,(h3 b hb).2⟩⟩
theorem arrsN_up(hS: ∀b,S b→W b→W' b){l:List ArrV}(h:(bK.each l (uO W)).p S w):(bK.each l (uO W')).p S w:=fun y hy=>⟨newK_up hS (h y hy).1,newK_up hS (h y hy).2⟩
theorem dT{D':fG}{f:bK}(h: ∀b,D' b→D b):dN D (bK.on D' f):=fun _ _ _ hn k=>f.mono (fun _ hb=>hb) (fun b hb=>hn.low b (h b hb.2)) k
end
section
variable {P : Program} {β : dO} {n : Nat} {Γ : Env} {H : List bO} {F : List bK} {K : Act → World → Prop}
theorem at_onlyK{F':List bK}(hF:bJ F F')(h:At β n Γ H F' K):At β n Γ H F K:=fun a w S f s k=>h a w S f s (hF.all S w k)
theorem sU: ∀(l:List ArrV) {H:List bO} {F:List bK},(∀y∈l,y.sides.list.length≤100∧y.data.list.length≤65536)→At β n Γ H (bK.each l mG::F) K→At β n Γ (sR l++H) F K
 | [],H,F,_,h=>cG (bK.each [] mG) Has.each_nil h
 | y::r,H,F,hs,h=>by
  have hy:=hs y (List.mem_cons_self ..);refine at_cap (E:=cH) (A:=y.sides.addr) (cap:=y.sides.cap) (t:=2) (m:=y.sides.list.length) (xs:=y.sides.list) .head fun h1=>?_;refine gT (E:=cH) .head ?_;refine at_cap (E:=cH) (A:=y.data.addr) (cap:=y.data.cap) (t:=2) (m:=y.data.list.length) (xs:=y.data.list) .head fun h2=>?_;refine gT (E:=cH) .head ?_;refine sU r (fun z hz=>hs z (List.mem_cons_of_mem _ hz)) ?_;refine cG (bK.each (y::r) mG) (Has.each_cons (Has.and (Has.and (Has.of (.tail _ (.tail _ (.head _)))) (Has.pure ⟨h1,by omega⟩)) (Has.and (Has.of (.tail _ (.head _))) (Has.pure ⟨h2,by omega⟩))) (Has.of (.head _))) ?_;exact at_drop (G:=bK.each (y::r) mG::F) ⟨Has.of (.head _),bJ.drop 4⟩ h
end
theorem arrL_nil{l:List ArrV}(h:arrL l=[]):l=[]:=by
 cases l with
 | nil=>rfl
 | cons y r=>exact absurd (congrArg List.length h) (by simp [arrL])
theorem bAj{l:List ArrV}{os:List ArrV}{i:Nat}{u y:ArrV}(h:arrL os=(arrL l).take i)(hu:l[i]?=some u)(hy:y.arr=u.arr):arrL (os++[y])=(arrL l).take (i+1):=by
 have h2:(arrL l)[i]?=some u.arr:=by unfold arrL;rw [List.getElem?_map,hu];rfl
 rw [List.take_add_one,h2,←h];unfold arrL;rw [List.map_append,List.map_singleton,hy];rfl
set_option maxHeartbeats 1000000 in
set_option maxRecDepth 100000 in
theorem lawK_spec(x:CasV):dP Tryz.prog 9 [.agg #[.int .i64 x.c.vars,.slice x.c.bufs.addr x.c.bufs.list.length x.c.bufs.cap,.slice x.c.steps.addr x.c.steps.list.length x.c.steps.cap,.slice x.c.outs.addr x.c.outs.list.length x.c.outs.cap,.slice x.dims.addr x.dims.list.length x.dims.cap,.slice x.ins.addr x.ins.list.length x.ins.cap]] [] [laidF,mQ x.c,uR x.dims,arrsF x.ins] (fun(_:Unit)=> .bool true) (fun _=>[]) (fun _=>[]):=by
 have hT:=casT_ok;refine cP Tryz.func9 rfl Tryz.ntmps9 rfl ?_;intro β hM;refine bH<|cG (cH.sl (.slice x.dims.addr x.dims.list.length x.dims.cap) x.dims.list) (vE (Has.of mT2)) ?_;refine cG (gV.sl (.slice x.ins.addr x.ins.list.length x.ins.cap) x.ins.list) (arrsF_s (Has.of mT4)) ?_;refine cG (bK.each x.ins.list mG) (arrsF_e (Has.of mT5)) ?_;refine cF (show Has _ (vO 8 x.dims) from Has.right (Has.of mT5)) fun hdz=>?_;have hdl:x.dims.list.length≤140737488355328:=by have h2:x.dims.list.length*8≤140737488355328:=hdz.2;omega
 refine bE<|iZ rfl rfl rfl rfl rfl rfl fun b1=>?_;refine sp hT ?_;refine nn<|sr<|cM Tryz.func16 shown12_spec rfl rfl .nil ⟨(Has.of mT3),trivial⟩ fun _=>?_;refine sp hT ?_;refine nn<|bH<|sr<|sp hT ?_;refine ss (ldO hT (nW .head)) ?_;refine sp2 hT ?_;refine nn<|bR rfl (fun hc22=>?_) (fun hc22=>?_)
 ·have hc22:=of_decide_eq_true hc22;refine sr<|sp2 hT ?_;refine nn<|bM<|bP ?_;exact bN () rfl (bI rfl) .nil trivial (rfl)
 have hc22:=Int.not_lt.1 (of_decide_eq_false hc22);refine bS<|bF<|sr<|sp hT ?_;refine nn<|bH<|bH<|fR (t:=77) gV ?_;refine fY (.cons kT1 (.cons .head .nil)) ?_;refine bE<|sp hT ?_;refine ss (ldO hT (nW .head)) ?_;refine sp2 hT ?_;refine nn<|bX<|rM (ι:=(Option Addr×Nat)×List ArrV×Nat) [(1,_),(3,_),(26,_)] ⟨rfl,rfl,rfl,trivial⟩ (fun⟨o,os,i⟩=>[(4,.slice o.1 os.length o.2),(27,.int .i64 (i:Nat))]) (fun⟨o,os,i⟩=> .obj b1 (.cells ([.int .i64 x.c.vars,.slice x.c.bufs.addr x.c.bufs.list.length x.c.bufs.cap,.slice x.c.steps.addr x.c.steps.list.length x.c.steps.cap,.slice x.c.outs.addr x.c.outs.list.length x.c.outs.cap,.slice x.dims.addr x.dims.list.length x.dims.cap,.slice x.ins.addr x.ins.list.length x.ins.cap]:List Value).toArray 66)::gV.row (.slice o.1 os.length o.2) 77 os::sR os) (fun⟨o,os,i⟩=>[bK.pure (i≤x.ins.list.length∧os.length=i∧arrL os=(arrL x.ins.list).take i∧ ∀y∈os,y.sides.list.length≤100∧y.data.list.length≤65536)]) (fun⟨o,os,i⟩=>x.ins.list.length-i) ((none,0),[],0) ⟨rfl,rfl,trivial⟩ (List.Perm.refl _) ⟨Has.pure (⟨by omega,rfl,rfl,fun y hy=>by cases hy⟩),trivial⟩ ?_;rintro⟨o,os,i⟩;dsimp only;refine cF (Has.of mT0) fun hinv6=>?_;refine sr<|sp hT ?_;refine nn<|bH<|bR rfl (fun hc28=>?_) (fun hc28=>?_)
 ·have hc28:=of_decide_eq_true hc28;refine bS<|bF<|bH<|bX<|sr<|sp2 hT ?_;refine nn<|bH<|bH ?_
  obtain⟨u,hu⟩: ∃q,x.ins.list[i]?=some q:=⟨_,List.getElem?_eq_getElem (by omega)⟩
  refine cG (mG u) (Has.each (Has.of mT1) (List.mem_of_getElem? hu)) ?_;refine cG (cH.sl (.slice u.sides.addr u.sides.list.length u.sides.cap) u.sides.list) (arrF_s (Has.of mT0)) ?_;refine cG (cH.sl (.slice u.data.addr u.data.list.length u.data.cap) u.data.list) (arrF_d (Has.of mT1)) ?_;refine bE<|sp hT ?_;refine ss (ldO hT (nW .head)) ?_;refine sp hT ?_;refine ss (bY hT (k:=i) (bL (Has.of mT5)) rfl rfl rfl rfl rfl rfl rfl (by omega)) ?_;refine sp hT ?_;refine ss (bQ hT (cK.knows (bL (Has.of mT5)) (k:=i) (x:=u) hu 1) rfl rfl rfl rfl rfl) ?_;refine sp3 hT ?_;refine cE (fun hg38=>?_) (fun hg38=>?_)
  ·have hg38:=of_decide_eq_true hg38;refine sk4 ?_;refine sk4 ?_;refine sp hT ?_;refine nn<|cQ rfl rfl ?_;refine sr<|sp2 hT ?_;refine nn<|bM<|bP<|bT<|bP<|bP<|bT<|bP ?_;exact bN () rfl (bI rfl) .nil trivial (rfl)
  have hg38:=Int.not_lt.1 (of_decide_eq_false hg38);refine sp hT ?_;refine ss (ldO hT (nW .head)) ?_;refine sp hT ?_;refine ss (bY hT (k:=i) (bL (Has.of mT5)) rfl rfl rfl rfl rfl rfl rfl (by omega)) ?_;refine sp hT ?_;refine ss (bQ hT (cK.knows (bL (Has.of mT5)) (k:=i) (x:=u) hu 0) rfl rfl rfl rfl rfl) ?_;refine sp3 hT ?_;refine nn<|bR rfl (fun hc47=>?_) (fun hc47=>?_)
  ·have hc47:=of_decide_eq_true hc47;refine sr<|sp2 hT ?_;refine nn<|bM<|bP<|bT<|bP<|bP<|bT<|bP ?_;exact bN () rfl (bI rfl) .nil trivial (rfl)
  have hc47:=Int.not_lt.1 (of_decide_eq_false hc47);refine bS<|bF ?_;have hud:u.data.list.length≤65536:=by omega
  have hus:u.sides.list.length≤100:=by omega
  refine at_mixT _ _ (.fl 0 (.fl 2 (.fl 3 (.fl 4 (.fl 5 (.fl 6 (.fl 7 (.fl 10 (.fl 11 (.fl 12 (.fl 13 (.fl 14 (.fl 15 (.two 1 9 (.two 8 9 (.op 9 (.op 16 (.fl 17 (.op 18 (.op 19 (.fl 20 .nil)))))) (.op 8 (.op 16 (.fl 17 (.op 18 (.op 19 (.fl 20 .nil))))))) (.op 1 (.op 8 (.op 16 (.fl 17 (.op 18 (.op 19 (.fl 20 .nil))))))))))))))))))))) gI (by decide+kernel) (.cons .head (Sel.skip Sel.self)) bJ.self ?_;refine pvT hT ?_;refine pvT hT ?_;refine sqT rfl (ldO hT (nW .head)) ?_;refine pvT hT ?_;refine sqT rfl (bY hT (k:=i) (bL (Has.of mT5)) rfl rfl rfl rfl rfl rfl rfl (by omega)) ?_;refine pvT hT ?_;refine sqT rfl (bQ hT (cK.knows (bL (Has.of mT5)) (k:=i) (x:=u) hu 0) rfl rfl rfl rfl rfl) ?_;refine pvT hT ?_;refine sqT rfl (ldO hT (nW .head)) ?_;refine pvT hT ?_;refine sqT rfl (bY hT (k:=i) (bL (Has.of mT5)) rfl rfl rfl rfl rfl rfl rfl (by omega)) ?_;refine pvT hT ?_;refine sqT rfl (bQ hT (cK.knows (bL (Has.of mT5)) (k:=i) (x:=u) hu 1) rfl rfl rfl rfl rfl) ?_;refine att_two (o:=_) (o':=_) rfl rfl ?_ ?_
  ·refine iX rfl rfl rfl rfl fun nb2=>?_;refine jE (.cons kT1 (Sel.skip (Sel.skip Sel.self))) (bJ.drop 0) ?_;refine att_two (o:=_) (o':=_) rfl rfl ?_ ?_
   ·refine dW (xs:=([]:List Int)) .head (bL (Has.of mT1)) rfl rfl rfl rfl rfl rfl rfl (by show 0+_≤_;omega) fun A3 c4=>?_;rw [List.nil_append];refine jE (.cons kT1 (Sel.skip (Sel.skip Sel.self))) (bJ.drop 0) ?_;refine lK (o:=_) rfl ?_;refine iX rfl rfl rfl rfl fun nb5=>?_;refine jE (.cons kT2 (Sel.skip (Sel.skip (Sel.skip Sel.self)))) (bJ.drop 0) ?_;refine lK (o:=_) rfl ?_;refine dW (xs:=([]:List Int)) .head (bL (Has.of mT0)) rfl rfl rfl rfl rfl rfl rfl (by show 0+_≤_;omega) fun A6 c7=>?_;rw [List.nil_append];refine jE (.cons kT2 (Sel.skip (Sel.skip (Sel.skip Sel.self)))) (bJ.drop 0) ?_;refine sqT rfl (nE rfl rfl (oO _ _ _ _ _ _)) ?_;refine lK (o:=_) rfl ?_;refine qM (m:=(⟨⟨A3,c4,u.sides.list⟩,⟨A6,c7,u.data.list⟩⟩:ArrV)) rfl rfl rfl rfl rfl fun b8=>?_;refine jE (.cons kT3 (Sel.skip (Sel.skip (Sel.skip (Sel.skip Sel.self))))) (bJ.drop 0) ?_;refine lK (o:=_) rfl ?_;refine pY kT4 (fI .head rfl) rfl rfl rfl rfl rfl rfl rfl (by simp only [List.length_singleton];omega) fun A9 c10=>?_;refine jE (.cons kT4 (Sel.skip (Sel.skip (Sel.skip (Sel.skip Sel.self))))) (bJ.drop 0) ?_;refine pvT hT ?_;refine att_nil<|bZ<|bF<|bE<|sp hT ?_;refine cB (z':=(((i+1):Nat):Int)) (dC (by omega) (by omega)) ?_;refine sp hT ?_;refine nn<|fY (.cons kT3 (.cons kT2 (.cons kT2 (.cons .head (Sel.skip Sel.self))))) ?_;refine cT (vN os (⟨⟨A3,c4,u.sides.list⟩,⟨A6,c7,u.data.list⟩⟩:ArrV) [_,_]) ?_
    exact fW ((A9,c10),os++[(⟨⟨A3,c4,u.sides.list⟩,⟨A6,c7,u.data.list⟩⟩:ArrV)],i+1) (by dsimp only;omega) ⟨rfl,rfl,trivial⟩ ⟨rfl,rfl,rfl,trivial⟩ (List.Perm.refl _) ⟨Has.pure (⟨by dsimp only;omega,by dsimp only;rw [List.length_append,List.length_singleton];omega,bAj hinv6.2.2.1 hu rfl,fun y hy=>by
              rcases List.mem_append.1 hy with hy | hy
              ·exact hinv6.2.2.2 y hy
              rw [List.mem_singleton.1 hy];exact⟨hus,hud⟩⟩),trivial⟩ (bJ.drop 4)
   refine iX rfl rfl rfl rfl fun nb11=>?_;refine jE (.cons kT2 (Sel.skip (Sel.skip (Sel.skip Sel.self)))) (bJ.drop 0) ?_;refine lK (o:=_) rfl ?_;refine dW (xs:=([]:List Int)) kT1 (bL (Has.of mT1)) rfl rfl rfl rfl rfl rfl rfl (by show 0+_≤_;omega) fun A12 c13=>?_;rw [List.nil_append];refine jE (.cons kT2 (Sel.skip (Sel.skip (Sel.skip Sel.self)))) (bJ.drop 0) ?_;refine lK (o:=_) rfl ?_;refine dW (xs:=([]:List Int)) kT1 (bL (Has.of mT0)) rfl rfl rfl rfl rfl rfl rfl (by show 0+_≤_;omega) fun A14 c15=>?_;rw [List.nil_append];refine jE (.cons kT2 (Sel.skip (Sel.skip (Sel.skip Sel.self)))) (bJ.drop 0) ?_;refine sqT rfl (nE rfl rfl (oO _ _ _ _ _ _)) ?_;refine lK (o:=_) rfl ?_;refine qM (m:=(⟨⟨A12,c13,u.sides.list⟩,⟨A14,c15,u.data.list⟩⟩:ArrV)) rfl rfl rfl rfl rfl fun b16=>?_;refine jE (.cons kT3 (Sel.skip (Sel.skip (Sel.skip (Sel.skip Sel.self))))) (bJ.drop 0) ?_;refine lK (o:=_) rfl ?_;refine pY kT4 (fI .head rfl) rfl rfl rfl rfl rfl rfl rfl (by simp only [List.length_singleton];omega) fun A17 c18=>?_;refine jE (.cons kT4 (Sel.skip (Sel.skip (Sel.skip (Sel.skip Sel.self))))) (bJ.drop 0) ?_;refine pvT hT ?_;refine att_nil<|bZ<|bF<|bE<|sp hT ?_;refine cB (z':=(((i+1):Nat):Int)) (dC (by omega) (by omega)) ?_;refine sp hT ?_;refine nn<|fY (.cons kT3 (.cons kT2 (.cons kT2 (.cons .head (Sel.skip Sel.self))))) ?_;refine cT (vN os (⟨⟨A12,c13,u.sides.list⟩,⟨A14,c15,u.data.list⟩⟩:ArrV) [_,_]) ?_
   exact fW ((A17,c18),os++[(⟨⟨A12,c13,u.sides.list⟩,⟨A14,c15,u.data.list⟩⟩:ArrV)],i+1) (by dsimp only;omega) ⟨rfl,rfl,trivial⟩ ⟨rfl,rfl,rfl,trivial⟩ (List.Perm.refl _) ⟨Has.pure (⟨by dsimp only;omega,by dsimp only;rw [List.length_append,List.length_singleton];omega,bAj hinv6.2.2.1 hu rfl,fun y hy=>by
             rcases List.mem_append.1 hy with hy | hy
             ·exact hinv6.2.2.2 y hy
             rw [List.mem_singleton.1 hy];exact⟨hus,hud⟩⟩),trivial⟩ (bJ.drop 4)
  refine iX rfl rfl rfl rfl fun nb19=>?_;refine jE (.cons kT1 (Sel.skip (Sel.skip Sel.self))) (bJ.drop 0) ?_;refine lK (o:=_) rfl ?_;refine iX rfl rfl rfl rfl fun nb20=>?_;refine jE (.cons kT2 (Sel.skip (Sel.skip (Sel.skip Sel.self)))) (bJ.drop 0) ?_;refine lK (o:=_) rfl ?_;refine dW (xs:=([]:List Int)) .head (bL (Has.of mT1)) rfl rfl rfl rfl rfl rfl rfl (by show 0+_≤_;omega) fun A21 c22=>?_;rw [List.nil_append];refine jE (.cons kT2 (Sel.skip (Sel.skip (Sel.skip Sel.self)))) (bJ.drop 0) ?_;refine lK (o:=_) rfl ?_;refine dW (xs:=([]:List Int)) kT1 (bL (Has.of mT0)) rfl rfl rfl rfl rfl rfl rfl (by show 0+_≤_;omega) fun A23 c24=>?_;rw [List.nil_append];refine jE (.cons kT2 (Sel.skip (Sel.skip (Sel.skip Sel.self)))) (bJ.drop 0) ?_;refine sqT rfl (nE rfl rfl (oO _ _ _ _ _ _)) ?_;refine lK (o:=_) rfl ?_;refine qM (m:=(⟨⟨A21,c22,u.sides.list⟩,⟨A23,c24,u.data.list⟩⟩:ArrV)) rfl rfl rfl rfl rfl fun b25=>?_;refine jE (.cons kT3 (Sel.skip (Sel.skip (Sel.skip (Sel.skip Sel.self))))) (bJ.drop 0) ?_;refine lK (o:=_) rfl ?_;refine pY kT4 (fI .head rfl) rfl rfl rfl rfl rfl rfl rfl (by simp only [List.length_singleton];omega) fun A26 c27=>?_;refine jE (.cons kT4 (Sel.skip (Sel.skip (Sel.skip (Sel.skip Sel.self))))) (bJ.drop 0) ?_;refine pvT hT ?_;refine att_nil<|bZ<|bF<|bE<|sp hT ?_;refine cB (z':=(((i+1):Nat):Int)) (dC (by omega) (by omega)) ?_;refine sp hT ?_;refine nn<|fY (.cons kT3 (.cons kT2 (.cons kT2 (.cons .head (Sel.skip Sel.self))))) ?_;refine cT (vN os (⟨⟨A21,c22,u.sides.list⟩,⟨A23,c24,u.data.list⟩⟩:ArrV) [_,_]) ?_
  exact fW ((A26,c27),os++[(⟨⟨A21,c22,u.sides.list⟩,⟨A23,c24,u.data.list⟩⟩:ArrV)],i+1) (by dsimp only;omega) ⟨rfl,rfl,trivial⟩ ⟨rfl,rfl,rfl,trivial⟩ (List.Perm.refl _) ⟨Has.pure (⟨by dsimp only;omega,by dsimp only;rw [List.length_append,List.length_singleton];omega,bAj hinv6.2.2.1 hu rfl,fun y hy=>by
           rcases List.mem_append.1 hy with hy | hy
           ·exact hinv6.2.2.2 y hy
           rw [List.mem_singleton.1 hy];exact⟨hus,hud⟩⟩),trivial⟩ (bJ.drop 4)
 have hc28:=Int.not_lt.1 (of_decide_eq_false hc28);refine cY<|cJ<|cJ<|cW<|bF<|bH<|cT (List.perm_append_comm (l₁:=[_,_])) ?_;refine sU os hinv6.2.2.2 ?_;refine gT (E:=gV) kT1 ?_;have hoi:arrL os=arrL x.ins.list:=by rw [hinv6.2.2.1,List.take_of_length_le];show(List.map _ _).length≤_;rw [List.length_map];omega
 have hol:os.length≤64:=by omega
 refine bE<|sp hT ?_;refine ss (ldN hT (fB .head)) ?_;refine sp hT ?_;refine ss (ldO hT (bBd .head)) ?_;refine sp hT ?_;refine at_call_new (bV Tryz.func17 rfl rfl) (fun m=>RunN_spec x.c x.dims.addr x.dims.cap x.dims.list o.1 o.2 os hdl m) rfl rfl rfl rfl rfl ⟨(Has.of mT7),(Has.of mT5),(Has.of mT0),(Has.of mT1),trivial⟩ fun m y hbm=>?_;obtain⟨⟨yA,yc⟩,ys⟩:=y;refine cF (Has.of mT3) fun hyp=>?_;obtain⟨hyl,hy⟩:=hyp;have hyl:ys.length≤9223372036854775807:=hyl
 obtain⟨R,hR⟩: ∃R,rnRun x.c.c x.dims.list (arrL os)=R:=⟨_,rfl⟩
 have hy:arrL ys=R.1:=hR▸hy;rw [show wG x.c x.dims.list os ((yA,yc),ys)= .tuple #[.slice yA ys.length yc,.int .i64 (R.2.1:Nat),.int .i64 R.2.2] by unfold wG;rw [hR]];refine sp4 hT ?_;refine sp3 hT ?_;refine nn<|sr<|sp hT ?_;refine ss (ldN hT (fB .head)) ?_;refine sp hT ?_;refine ss (ldO hT (bBd .head)) ?_;refine sp hT ?_;refine bBy (m:=m) (Fn:=fun m2=>bK.each ys (uO (fun b=>m≤b∧b<m2))::bK.each ys oX::gV.sl (.slice yA ys.length yc) ys::[bK.on (fun b=>b<m) (mQ x.c),bK.on (fun b=>b<m) (cH.sl (.slice x.dims.addr x.dims.list.length x.dims.cap) x.dims.list),bK.on (fun b=>b<m) (gV.sl (.slice o.1 os.length o.2) os),bK.on (fun b=>b<m) (bK.each os mG),bK.on (fun b=>b<m) (gV.sl (.slice x.ins.addr x.ins.list.length x.ins.cap) x.ins.list),bK.on (fun b=>b<m) (bK.each x.ins.list mG)]) (bV Tryz.func17 rfl rfl) (vQ x.c x.dims.addr x.dims.cap x.dims.list o.1 o.2 os hdl) rfl rfl rfl rfl rfl ⟨(Has.of mT11),(Has.of mT9),(Has.of mT4),(Has.of mT5),trivial⟩ (fun m2 S w hS hk=>All.cons (arrsN_up (fun b hb hw=>⟨hw,hS b hb⟩) (((Has.of mT0):Has _ (bK.each ys (uO fun b=>m≤b))) S w hk)) (All.cons (((Has.of mT1):Has _ (bK.each ys oX)) S w hk) (All.cons (((Has.of mT2):Has _ (gV.sl (.slice yA ys.length yc) ys)) S w hk) (All.cons (((Has.of mT11):Has _ (bK.on (fun b=>b<m) (mQ x.c))) S w hk) (All.cons (((Has.of mT9):Has _ (bK.on (fun b=>b<m) (cH.sl (.slice x.dims.addr x.dims.list.length x.dims.cap) x.dims.list))) S w hk) (All.cons (((Has.of mT4):Has _ (bK.on (fun b=>b<m) (gV.sl (.slice o.1 os.length o.2) os))) S w hk) (All.cons (((Has.of mT5):Has _ (bK.on (fun b=>b<m) (bK.each os mG))) S w hk) (All.cons (((Has.of mT8):Has _ (bK.on (fun b=>b<m) (gV.sl (.slice x.ins.addr x.ins.list.length x.ins.cap) x.ins.list))) S w hk) (All.cons (((Has.of mT7):Has _ (bK.on (fun b=>b<m) (bK.each x.ins.list mG))) S w hk) (fun g hg=>by cases hg)))))))))) fun m2 z=>?_;obtain⟨⟨zA,zc⟩,zs⟩:=z;refine cF (Has.on (Has.of mT2)) fun hzp=>?_;obtain⟨hzl,hz⟩:=hzp;have hzl:zs.length≤9223372036854775807:=hzl;have hz:arrL zs=R.1:=hR▸hz;rw [show wG x.c x.dims.list os ((zA,zc),zs)= .tuple #[.slice zA zs.length zc,.int .i64 (R.2.1:Nat),.int .i64 R.2.2] by unfold wG;rw [hR]]
 have hW: ∀b,(fun b=>m≤b∧b<m2) b→ ¬(fun b=>b<m∨m2≤b) b∧β.w.heap.size≤b:=fun b hb=>⟨by have h1:=hb.1;have h2:=hb.2;omega,Nat.le_trans hbm hb.1⟩
 refine sp4 hT ?_;refine sp3 hT ?_;refine nn<|bH<|sr<|sp3 hT ?_;refine gU (t':=false) (by simp) ?_;refine sp4 hT ?_;refine gU (t':=false) (by simp) ?_;refine sp4 hT ?_;refine cF (arrM_k (Has.of mT4)) fun hyk=>?_;refine cM Tryz.func19 (nS yA zA yc zc ys zs hyl hyk) rfl rfl .nil ⟨(Has.of mT5),(Has.of mT4),Has.on (Has.of mT1),Has.on (Has.of mT0),trivial⟩ fun _=>?_;refine gU (t':=true) (decide_eq_true (hy.trans hz.symm)) ?_;refine sp4 hT ?_;refine sp2 hT ?_;refine cE (fun hg107=>?_) (fun hg107=>?_)
 ·have hg107:=bne_iff_ne.1 hg107;refine sp3 hT ?_;refine gU (t':=false) (by rw [show ys=[] from arrL_nil (by rw [hy,←hR];exact rn_none (by rw [hR];exact hg107))];rfl) ?_;refine sp3 hT ?_;refine gU (t':=false) (decide_eq_false (by omega)) ?_;refine sp3 hT ?_;refine nn<|mC rfl rfl ?_;refine bS<|bF<|bH<|bH<|at_onlyK (F':=[_,_,_,_,_,_,_,_,_,_]) ⟨(Has.of mT0),(Has.of mT1),(Has.of mT3),(Has.of mT5),(Has.of mT6),(Has.of mT7),(Has.of mT8),(Has.of mT9),(Has.of mT10),(Has.of mT11),trivial⟩ ?_;refine bE<|sp3 hT ?_;refine nn<|bX<|cZ (ι:=Nat) [(1,_),(3,_),(4,_),(6,_),(9,_),(118,_)] ⟨rfl,rfl,rfl,rfl,rfl,rfl,trivial⟩ (fun i2=>[(119,.int .i64 (i2:Nat))]) (fun _=>[]) (fun i2=>[bK.pure (i2≤ys.length)]) (fun i2=>ys.length-i2) 0 ⟨rfl,trivial⟩ .nil ⟨Has.pure ((by omega)),trivial⟩ ?_;rintro i2;refine cF (Has.of mT0) fun hinv17=>?_;refine sr<|sp hT ?_;refine nn<|bH<|bR rfl (fun hc120=>?_) (fun hc120=>?_)
  ·have hc120:=of_decide_eq_true hc120;refine bS<|bF<|bH<|bX<|sr<|sp2 hT ?_;refine nn<|bH<|bH ?_
   obtain⟨v,hv0⟩: ∃q,ys[i2]?=some q:=⟨_,List.getElem?_eq_getElem (by omega)⟩
   have hvk:=hyk v (List.mem_of_getElem? hv0);refine bE<|sp2 hT ?_;refine ss (bY hT (k:=i2) (bL (Has.of mT4)) rfl rfl rfl rfl rfl rfl rfl (by omega)) ?_;refine sp hT ?_;refine ss (bQ hT (cK.knows (bL (Has.of mT4)) (k:=i2) (x:=v) hv0 1) rfl rfl rfl rfl rfl) ?_;refine sp2 hT ?_;refine nn<|bX<|cZ (ι:=Nat) [(1,_),(3,_),(4,_),(6,_),(9,_),(12,_),(118,_),(119,_),(127,_)] ⟨rfl,rfl,rfl,rfl,rfl,rfl,rfl,rfl,rfl,trivial⟩ (fun k=>[(128,.int .i64 (k:Nat))]) (fun _=>[]) (fun k=>[bK.pure (k≤v.data.list.length)]) (fun k=>v.data.list.length-k) 0 ⟨rfl,trivial⟩ .nil ⟨Has.pure ((by omega)),trivial⟩ ?_;rintro k;refine cF (Has.of mT0) fun hinv20=>?_;refine sr<|sp hT ?_;refine nn<|bH<|bR rfl (fun hc129=>?_) (fun hc129=>?_)
   ·have hc129:=of_decide_eq_true hc129;refine bS<|bF<|bH<|bX<|sr<|sp2 hT ?_;refine nn<|cG (cH.newF (fun b=>m≤b∧b<m2) 2 (.slice v.data.addr v.data.list.length v.data.cap) (fun xs=>xs.length=v.data.list.length)) (Has.right (show Has _ (uO _ v) from Has.each (Has.of mT4) (List.mem_of_getElem? hv0))) ?_;refine uV (Has.of mT0) fun pv28 hpv29=>?_
    obtain⟨px30,hpx31⟩: ∃p',pv28[k]?=some p':=⟨_,List.getElem?_eq_getElem (by omega)⟩
    refine bE<|sp2 hT ?_;refine ss (bY hT (k:=i2) (bL (Has.of mT7)) rfl rfl rfl rfl rfl rfl rfl (by omega)) ?_;refine sp hT ?_;refine ss (bQ hT (cK.knows (bL (Has.of mT7)) (k:=i2) (x:=v) hv0 1) rfl rfl rfl rfl rfl) ?_;refine sp hT ?_;refine ss (bY hT (k:=k) (bL (Has.of mT0)) rfl rfl rfl rfl rfl hpv29.symm rfl (by omega)) ?_;refine mY (E:=cH) (D:=(fun b=>b<m∨m2≤b)) (k:=k) (fo:=0) hT hW (Has.of mT1) (bJ.drop 2) ⟨dN.pure,dN.pure,(dT fun _ h=>h),(dT fun _ h=>h),(uA ys),(tV _ ys),(dT fun _ h=> .inl h),(dT fun _ h=> .inl h),(dT fun _ h=> .inl h),(dT fun _ h=> .inl h),(dT fun _ h=> .inl h),(dT fun _ h=> .inl h),trivial⟩ rfl rfl rfl rfl rfl rfl (by omega) (fun _=>⟨_,rfl⟩) ?_;refine bU<|bZ<|bF<|bE<|sp hT ?_;refine cB (z':=(((k+1):Nat):Int)) (dC (by omega) (by omega)) ?_;refine sp hT ?_;refine nn ?_;exact cO (k+1) (by omega) ⟨rfl,trivial⟩ ⟨rfl,rfl,rfl,rfl,rfl,rfl,rfl,rfl,rfl,trivial⟩ (.cons .head .nil) ⟨Has.pure ((by omega)),trivial⟩ (bJ.drop 1)
   have hc129:=Int.not_lt.1 (of_decide_eq_false hc129);refine cY<|cJ<|cJ<|cW<|bF<|sr<|sp2 hT ?_;refine ss (bY hT (k:=i2) (bL (Has.of mT5)) rfl rfl rfl rfl rfl rfl rfl (by omega)) ?_;refine sp hT ?_;refine ss (bQ hT (cK.knows (bL (Has.of mT5)) (k:=i2) (x:=v) hv0 0) rfl rfl rfl rfl rfl) ?_;refine sp2 hT ?_;refine nn<|bX<|cZ (ι:=Nat) [(1,_),(3,_),(4,_),(6,_),(9,_),(12,_),(118,_),(119,_),(144,_)] ⟨rfl,rfl,rfl,rfl,rfl,rfl,rfl,rfl,rfl,trivial⟩ (fun k2=>[(145,.int .i64 (k2:Nat))]) (fun _=>[]) (fun k2=>[bK.pure (k2≤v.sides.list.length)]) (fun k2=>v.sides.list.length-k2) 0 ⟨rfl,trivial⟩ .nil ⟨Has.pure ((by omega)),trivial⟩ ?_;rintro k2;refine cF (Has.of mT0) fun hinv25=>?_;refine sr<|sp hT ?_;refine nn<|bH<|bR rfl (fun hc146=>?_) (fun hc146=>?_)
   ·have hc146:=of_decide_eq_true hc146;refine bS<|bF<|bH<|bX<|sr<|sp2 hT ?_;refine nn<|cG (cH.newF (fun b=>m≤b∧b<m2) 2 (.slice v.sides.addr v.sides.list.length v.sides.cap) (fun xs=>xs.length=v.sides.list.length)) (Has.left (show Has _ (uO _ v) from Has.each (Has.of mT5) (List.mem_of_getElem? hv0))) ?_;refine uV (Has.of mT0) fun pv32 hpv33=>?_
    obtain⟨px34,hpx35⟩: ∃p',pv32[k2]?=some p':=⟨_,List.getElem?_eq_getElem (by omega)⟩
    refine bE<|sp2 hT ?_;refine ss (bY hT (k:=i2) (bL (Has.of mT8)) rfl rfl rfl rfl rfl rfl rfl (by omega)) ?_;refine sp hT ?_;refine ss (bQ hT (cK.knows (bL (Has.of mT8)) (k:=i2) (x:=v) hv0 0) rfl rfl rfl rfl rfl) ?_;refine sp hT ?_;refine ss (bY hT (k:=k2) (bL (Has.of mT0)) rfl rfl rfl rfl rfl hpv33.symm rfl (by omega)) ?_;refine mY (E:=cH) (D:=(fun b=>b<m∨m2≤b)) (k:=k2) (fo:=0) hT hW (Has.of mT1) (bJ.drop 2) ⟨dN.pure,dN.pure,dN.pure,(dT fun _ h=>h),(dT fun _ h=>h),(uA ys),(tV _ ys),(dT fun _ h=> .inl h),(dT fun _ h=> .inl h),(dT fun _ h=> .inl h),(dT fun _ h=> .inl h),(dT fun _ h=> .inl h),(dT fun _ h=> .inl h),trivial⟩ rfl rfl rfl rfl rfl rfl (by omega) (fun _=>⟨_,rfl⟩) ?_;refine bU<|bZ<|bF<|bE<|sp hT ?_;refine cB (z':=(((k2+1):Nat):Int)) (dC (by omega) (by omega)) ?_;refine sp hT ?_;refine nn ?_;exact cO (k2+1) (by omega) ⟨rfl,trivial⟩ ⟨rfl,rfl,rfl,rfl,rfl,rfl,rfl,rfl,rfl,trivial⟩ (.cons .head .nil) ⟨Has.pure ((by omega)),trivial⟩ (bJ.drop 1)
   have hc146:=Int.not_lt.1 (of_decide_eq_false hc146);refine cY<|cJ<|cJ<|cW<|bZ<|bF<|bE<|sp hT ?_;refine cB (z':=(((i2+1):Nat):Int)) (dC (by omega) (by omega)) ?_;refine sp hT ?_;refine nn ?_;exact cO (i2+1) (by omega) ⟨rfl,trivial⟩ ⟨rfl,rfl,rfl,rfl,rfl,rfl,trivial⟩ (.cons .head .nil) ⟨Has.pure ((by omega)),trivial⟩ (bJ.drop 3)
  have hc120:=Int.not_lt.1 (of_decide_eq_false hc120);refine cY<|cJ<|cJ<|cW<|bF<|sr<|sp hT ?_;refine ss (ldN hT (fB .head)) ?_;refine sp hT ?_;refine ss (ldO hT (bBd .head)) ?_;refine sp hT ?_;refine cM Tryz.func17 (vQ x.c x.dims.addr x.dims.cap x.dims.list o.1 o.2 os hdl) rfl rfl .nil ⟨Has.on (Has.of mT5),Has.on (Has.of mT6),Has.on (Has.of mT7),Has.on (Has.of mT8),trivial⟩ fun v=>?_;obtain⟨⟨vA,vc⟩,vs⟩:=v;refine cF (Has.of mT2) fun hvp=>?_;obtain⟨_,hv⟩:=hvp;have hv:arrL vs=R.1:=hR▸hv;refine sp4 hT ?_;refine sp3 hT ?_;refine nn<|sr<|sp4 hT ?_;refine ss (ldO hT (nW .head)) ?_;refine cM Tryz.func19 (nS o.1 x.ins.addr o.2 x.ins.cap os x.ins.list (by omega) (fun y hy=>⟨by have:=(hinv6.2.2.2 y hy).1;omega,by have:=(hinv6.2.2.2 y hy).2;omega⟩)) rfl rfl .nil ⟨Has.on (Has.of mT10),sE (Has.on (Has.of mT11)),Has.on (Has.of mT12),sE (Has.on (Has.of mT13)),trivial⟩ fun _=>?_;refine gU (t':=true) (decide_eq_true hoi) ?_;refine sp4 hT ?_;refine cF (arrM_k (Has.on (Has.of mT4))) fun hzk=>?_;refine cM Tryz.func19 (nS zA vA zc vc zs vs hzl hzk) rfl rfl .nil ⟨Has.on (Has.of mT5),Has.on (Has.of mT4),(Has.of mT1),(Has.of mT0),trivial⟩ fun _=>?_;refine gU (t':=true) (decide_eq_true (hz.trans hv.symm)) ?_;refine sp2 hT ?_;refine nn<|bM ?_;exact bN () rfl (bI rfl) .nil trivial (rfl)
 have hg107:=bne_eq_false_iff_eq.1 hg107;refine sk4 ?_;refine sk3 ?_;refine sp2 hT ?_;refine nn<|mC rfl rfl ?_;refine bS<|bF<|bH<|bH<|at_onlyK (F':=[_,_,_,_,_,_,_,_,_,_]) ⟨(Has.of mT0),(Has.of mT1),(Has.of mT3),(Has.of mT5),(Has.of mT6),(Has.of mT7),(Has.of mT8),(Has.of mT9),(Has.of mT10),(Has.of mT11),trivial⟩ ?_;refine bE<|sp3 hT ?_;refine nn<|bX<|cZ (ι:=Nat) [(1,_),(3,_),(4,_),(6,_),(9,_),(118,_)] ⟨rfl,rfl,rfl,rfl,rfl,rfl,trivial⟩ (fun i2=>[(119,.int .i64 (i2:Nat))]) (fun _=>[]) (fun i2=>[bK.pure (i2≤ys.length)]) (fun i2=>ys.length-i2) 0 ⟨rfl,trivial⟩ .nil ⟨Has.pure ((by omega)),trivial⟩ ?_;rintro i2;refine cF (Has.of mT0) fun hinv17=>?_;refine sr<|sp hT ?_;refine nn<|bH<|bR rfl (fun hc120=>?_) (fun hc120=>?_)
 ·have hc120:=of_decide_eq_true hc120;refine bS<|bF<|bH<|bX<|sr<|sp2 hT ?_;refine nn<|bH<|bH ?_
  obtain⟨v,hv0⟩: ∃q,ys[i2]?=some q:=⟨_,List.getElem?_eq_getElem (by omega)⟩
  have hvk:=hyk v (List.mem_of_getElem? hv0);refine bE<|sp2 hT ?_;refine ss (bY hT (k:=i2) (bL (Has.of mT4)) rfl rfl rfl rfl rfl rfl rfl (by omega)) ?_;refine sp hT ?_;refine ss (bQ hT (cK.knows (bL (Has.of mT4)) (k:=i2) (x:=v) hv0 1) rfl rfl rfl rfl rfl) ?_;refine sp2 hT ?_;refine nn<|bX<|cZ (ι:=Nat) [(1,_),(3,_),(4,_),(6,_),(9,_),(12,_),(118,_),(119,_),(127,_)] ⟨rfl,rfl,rfl,rfl,rfl,rfl,rfl,rfl,rfl,trivial⟩ (fun k=>[(128,.int .i64 (k:Nat))]) (fun _=>[]) (fun k=>[bK.pure (k≤v.data.list.length)]) (fun k=>v.data.list.length-k) 0 ⟨rfl,trivial⟩ .nil ⟨Has.pure ((by omega)),trivial⟩ ?_;rintro k;refine cF (Has.of mT0) fun hinv20=>?_;refine sr<|sp hT ?_;refine nn<|bH<|bR rfl (fun hc129=>?_) (fun hc129=>?_)
  ·have hc129:=of_decide_eq_true hc129;refine bS<|bF<|bH<|bX<|sr<|sp2 hT ?_;refine nn<|cG (cH.newF (fun b=>m≤b∧b<m2) 2 (.slice v.data.addr v.data.list.length v.data.cap) (fun xs=>xs.length=v.data.list.length)) (Has.right (show Has _ (uO _ v) from Has.each (Has.of mT4) (List.mem_of_getElem? hv0))) ?_;refine uV (Has.of mT0) fun pv36 hpv37=>?_
   obtain⟨px38,hpx39⟩: ∃p',pv36[k]?=some p':=⟨_,List.getElem?_eq_getElem (by omega)⟩
   refine bE<|sp2 hT ?_;refine ss (bY hT (k:=i2) (bL (Has.of mT7)) rfl rfl rfl rfl rfl rfl rfl (by omega)) ?_;refine sp hT ?_;refine ss (bQ hT (cK.knows (bL (Has.of mT7)) (k:=i2) (x:=v) hv0 1) rfl rfl rfl rfl rfl) ?_;refine sp hT ?_;refine ss (bY hT (k:=k) (bL (Has.of mT0)) rfl rfl rfl rfl rfl hpv37.symm rfl (by omega)) ?_;refine mY (E:=cH) (D:=(fun b=>b<m∨m2≤b)) (k:=k) (fo:=0) hT hW (Has.of mT1) (bJ.drop 2) ⟨dN.pure,dN.pure,(dT fun _ h=>h),(dT fun _ h=>h),(uA ys),(tV _ ys),(dT fun _ h=> .inl h),(dT fun _ h=> .inl h),(dT fun _ h=> .inl h),(dT fun _ h=> .inl h),(dT fun _ h=> .inl h),(dT fun _ h=> .inl h),trivial⟩ rfl rfl rfl rfl rfl rfl (by omega) (fun _=>⟨_,rfl⟩) ?_;refine bU<|bZ<|bF<|bE<|sp hT ?_;refine cB (z':=(((k+1):Nat):Int)) (dC (by omega) (by omega)) ?_;refine sp hT ?_;refine nn ?_;exact cO (k+1) (by omega) ⟨rfl,trivial⟩ ⟨rfl,rfl,rfl,rfl,rfl,rfl,rfl,rfl,rfl,trivial⟩ (.cons .head .nil) ⟨Has.pure ((by omega)),trivial⟩ (bJ.drop 1)
  have hc129:=Int.not_lt.1 (of_decide_eq_false hc129);refine cY<|cJ<|cJ<|cW<|bF<|sr<|sp2 hT ?_;refine ss (bY hT (k:=i2) (bL (Has.of mT5)) rfl rfl rfl rfl rfl rfl rfl (by omega)) ?_;refine sp hT ?_;refine ss (bQ hT (cK.knows (bL (Has.of mT5)) (k:=i2) (x:=v) hv0 0) rfl rfl rfl rfl rfl) ?_;refine sp2 hT ?_;refine nn<|bX<|cZ (ι:=Nat) [(1,_),(3,_),(4,_),(6,_),(9,_),(12,_),(118,_),(119,_),(144,_)] ⟨rfl,rfl,rfl,rfl,rfl,rfl,rfl,rfl,rfl,trivial⟩ (fun k2=>[(145,.int .i64 (k2:Nat))]) (fun _=>[]) (fun k2=>[bK.pure (k2≤v.sides.list.length)]) (fun k2=>v.sides.list.length-k2) 0 ⟨rfl,trivial⟩ .nil ⟨Has.pure ((by omega)),trivial⟩ ?_;rintro k2;refine cF (Has.of mT0) fun hinv25=>?_;refine sr<|sp hT ?_;refine nn<|bH<|bR rfl (fun hc146=>?_) (fun hc146=>?_)
  ·have hc146:=of_decide_eq_true hc146;refine bS<|bF<|bH<|bX<|sr<|sp2 hT ?_;refine nn<|cG (cH.newF (fun b=>m≤b∧b<m2) 2 (.slice v.sides.addr v.sides.list.length v.sides.cap) (fun xs=>xs.length=v.sides.list.length)) (Has.left (show Has _ (uO _ v) from Has.each (Has.of mT5) (List.mem_of_getElem? hv0))) ?_;refine uV (Has.of mT0) fun pv40 hpv41=>?_
   obtain⟨px42,hpx43⟩: ∃p',pv40[k2]?=some p':=⟨_,List.getElem?_eq_getElem (by omega)⟩
   refine bE<|sp2 hT ?_;refine ss (bY hT (k:=i2) (bL (Has.of mT8)) rfl rfl rfl rfl rfl rfl rfl (by omega)) ?_;refine sp hT ?_;refine ss (bQ hT (cK.knows (bL (Has.of mT8)) (k:=i2) (x:=v) hv0 0) rfl rfl rfl rfl rfl) ?_;refine sp hT ?_;refine ss (bY hT (k:=k2) (bL (Has.of mT0)) rfl rfl rfl rfl rfl hpv41.symm rfl (by omega)) ?_;refine mY (E:=cH) (D:=(fun b=>b<m∨m2≤b)) (k:=k2) (fo:=0) hT hW (Has.of mT1) (bJ.drop 2) ⟨dN.pure,dN.pure,dN.pure,(dT fun _ h=>h),(dT fun _ h=>h),(uA ys),(tV _ ys),(dT fun _ h=> .inl h),(dT fun _ h=> .inl h),(dT fun _ h=> .inl h),(dT fun _ h=> .inl h),(dT fun _ h=> .inl h),(dT fun _ h=> .inl h),trivial⟩ rfl rfl rfl rfl rfl rfl (by omega) (fun _=>⟨_,rfl⟩) ?_;refine bU<|bZ<|bF<|bE<|sp hT ?_;refine cB (z':=(((k2+1):Nat):Int)) (dC (by omega) (by omega)) ?_;refine sp hT ?_;refine nn ?_;exact cO (k2+1) (by omega) ⟨rfl,trivial⟩ ⟨rfl,rfl,rfl,rfl,rfl,rfl,rfl,rfl,rfl,trivial⟩ (.cons .head .nil) ⟨Has.pure ((by omega)),trivial⟩ (bJ.drop 1)
  have hc146:=Int.not_lt.1 (of_decide_eq_false hc146);refine cY<|cJ<|cJ<|cW<|bZ<|bF<|bE<|sp hT ?_;refine cB (z':=(((i2+1):Nat):Int)) (dC (by omega) (by omega)) ?_;refine sp hT ?_;refine nn ?_;exact cO (i2+1) (by omega) ⟨rfl,trivial⟩ ⟨rfl,rfl,rfl,rfl,rfl,rfl,trivial⟩ (.cons .head .nil) ⟨Has.pure ((by omega)),trivial⟩ (bJ.drop 3)
 have hc120:=Int.not_lt.1 (of_decide_eq_false hc120);refine cY<|cJ<|cJ<|cW<|bF<|sr<|sp hT ?_;refine ss (ldN hT (fB .head)) ?_;refine sp hT ?_;refine ss (ldO hT (bBd .head)) ?_;refine sp hT ?_;refine cM Tryz.func17 (vQ x.c x.dims.addr x.dims.cap x.dims.list o.1 o.2 os hdl) rfl rfl .nil ⟨Has.on (Has.of mT5),Has.on (Has.of mT6),Has.on (Has.of mT7),Has.on (Has.of mT8),trivial⟩ fun v=>?_;obtain⟨⟨vA,vc⟩,vs⟩:=v;refine cF (Has.of mT2) fun hvp=>?_;obtain⟨_,hv⟩:=hvp;have hv:arrL vs=R.1:=hR▸hv;refine sp4 hT ?_;refine sp3 hT ?_;refine nn<|sr<|sp4 hT ?_;refine ss (ldO hT (nW .head)) ?_;refine cM Tryz.func19 (nS o.1 x.ins.addr o.2 x.ins.cap os x.ins.list (by omega) (fun y hy=>⟨by have:=(hinv6.2.2.2 y hy).1;omega,by have:=(hinv6.2.2.2 y hy).2;omega⟩)) rfl rfl .nil ⟨Has.on (Has.of mT10),sE (Has.on (Has.of mT11)),Has.on (Has.of mT12),sE (Has.on (Has.of mT13)),trivial⟩ fun _=>?_;refine gU (t':=true) (decide_eq_true hoi) ?_;refine sp4 hT ?_;refine cF (arrM_k (Has.on (Has.of mT4))) fun hzk=>?_;refine cM Tryz.func19 (nS zA vA zc vc zs vs hzl hzk) rfl rfl .nil ⟨Has.on (Has.of mT5),Has.on (Has.of mT4),(Has.of mT1),(Has.of mT0),trivial⟩ fun _=>?_;refine gU (t':=true) (decide_eq_true (hz.trans hv.symm)) ?_;refine sp2 hT ?_;refine nn<|bM ?_;exact bN () rfl (bI rfl) .nil trivial (rfl)
end Go.Proofs.YtnmhcaahkaocgaaGreatDoor
