/- Texts of one proof, one behind the other: CorF, TysR, CoW, Arrs, CoX, CoY. -/
import Derived.Test.YtofjmphlpdhohaaGreatDoorM7
import Derived.Test.YtofjmphlpdhohaaGreatDoorM3
namespace Go.Proofs.YtofjmphlpdhohaaGreatDoor
open Go.RowKit
theorem gI:Tryz.prog.follows .mixedOrders=true:=by kernel_rfl
def vP (a b:Mono):Bool:=a.eqB b
theorem tE{β:fZ}{n:Nat}{Γ:Env}{H:List bS}{F:List bR}{o:Oper}{a b:Operand}{tt:TypeId}(x y:Mono)(ho:o.op= .binOp .neq 45 a b tt)(hx:Γ.ev a=some (.agg #[.int .i64 x.n,.int .u8 x.e0.toNat,.int .u8 x.e1.toNat,.int .u8 x.e2.toNat,.int .u8 x.e3.toNat,.int .u8 x.e4.toNat,.int .u8 x.e5.toNat]))(hy:Γ.ev b=some (.agg #[.int .i64 y.n,.int .u8 y.e0.toNat,.int .u8 y.e1.toNat,.int .u8 y.e2.toNat,.int .u8 y.e3.toNat,.int .u8 y.e4.toNat,.int .u8 y.e5.toNat])):Sti Tryz.prog β n Γ H F o (.bool (!vP x y)):=fun c w S f s k=>by
 have hq:Tryz.prog.eqGuardType Tryz.prog.depth 45=false:=by kernel_rfl
 have hg:(eqGuard .neq 45 a b (.agg #[.int .i64 x.n,.int .u8 x.e0.toNat,.int .u8 x.e1.toNat,.int .u8 x.e2.toNat,.int .u8 x.e3.toNat,.int .u8 x.e4.toNat,.int .u8 x.e5.toNat]) (.agg #[.int .i64 y.n,.int .u8 y.e0.toNat,.int .u8 y.e1.toNat,.int .u8 y.e2.toNat,.int .u8 y.e3.toNat,.int .u8 y.e4.toNat,.int .u8 y.e5.toNat])).run Tryz.prog w= .ok () w:=by
  unfold eqGuard;have hp:(program:Sem Program).run Tryz.prog w= .ok Tryz.prog w:=rfl;simp [hp,hq]
 unfold execOp;simp only [ho,f.ev hx,f.ev hy];rw [Sem.run_bind,Sem.run_bind,hg,Result.andThen_ok,run_neq_mono];rfl
theorem mono_eq{x y:Mono}:vP x y=true↔x=y:=Mono.eqB_iff x y
theorem mono_t{x y:Mono}(h:(!vP x y)=true):x≠y:=fun e=>by
 rw [mono_eq.2 e] at h;cases h
theorem mono_f{x y:Mono}(h:(!vP x y)=false):x=y:=mono_eq.1 (by simpa using h)
def cU (l:List iO):List (List Mono):=l.map (·.list)
theorem cJ(l:List iO):(cU l).length=l.length:=List.length_map _
theorem fD{l:List iO}{i:Nat}{p:iO}(h:l[i]?=some p):(cU l)[i]?=some p.list:=by
 unfold cU;rw [List.getElem?_map,h];rfl
def OpV.c (o:OpV):OpC:=⟨o.how,o.k,o.n,o.p.list,o.fn⟩
def lU (l:List OpV):List OpC:=l.map OpV.c
def gL.c (b:gL):jP:=⟨cU b.sides.list,b.input⟩
def dR.c (s:dR):dY:=⟨s.how,s.buf,s.at_.list,cU s.loops.list,s.fn,lU s.ops.list⟩
def pO (l:List dR):List dY:=l.map dR.c
def oW (l:List gL):List jP:=l.map gL.c
def fA.c (c:fA):gH:=⟨c.vars,oW c.bufs.list,pO c.steps.list,c.outs.list⟩
theorem pS(l:List OpV):(lU l).length=l.length:=List.length_map _
theorem dL(l:List dR):(pO l).length=l.length:=List.length_map _
theorem cS(l:List gL):(oW l).length=l.length:=List.length_map _
theorem opsL_at{l:List OpV}{i:Nat}{x:OpV}(h:l[i]?=some x):(lU l)[i]?=some x.c:=by
 unfold lU;rw [List.getElem?_map,h];rfl
theorem dM{l:List dR}{i:Nat}{x:dR}(h:l[i]?=some x):(pO l)[i]?=some x.c:=by
 unfold pO;rw [List.getElem?_map,h];rfl
theorem dE{l:List gL}{i:Nat}{x:gL}(h:l[i]?=some x):(oW l)[i]?=some x.c:=by
 unfold oW;rw [List.getElem?_map,h];rfl
theorem tQ{α:Type} [DecidableEq α]{a b:List α}(h:a≠b):Value.bool false= .bool (decide (a=b)):=by simp [h]
theorem eqT_of{α:Type} [DecidableEq α]{a b:List α}(h:a=b):Value.bool true= .bool (decide (a=b)):=by simp [h]
theorem nil_pol{α:Type}{E:Flat α}{F:List bR}:Has F (E.sl (.slice none 0 0) []):=fun _ _ _=>⟨none,0,rfl,fun k x hk=>by simp at hk⟩
def oY (l:List iO):bR:=bR.each l oM
theorem gB{F:List bR}{p:iO}(h:Has F (oM p)):Has F (mS.sl (.slice p.addr p.list.length p.cap) p.list):=h.left
theorem gX{F:List bR}{p:iO}(h:Has F (oM p)):Has F (bR.pure (p.list.length≤140737488355328)):=h.right
def vY {α:Type}(b:Nat)(l:Sl α):bR:=bR.pure (l.list.length≤l.cap∧l.list.length*b≤140737488355328)
def nC (l:Sl iO):bR:=((lV.sl (.slice l.addr l.list.length l.cap) l.list).and (oY l.list)).and (vY 24 l)
def opF (x:OpV):bR:=oM x.p
def opsF (l:Sl OpV):bR:=((opE.sl (.slice l.addr l.list.length l.cap) l.list).and (bR.each l.list opF)).and (vY 56 l)
def lA (x:dR):bR:=(oM x.at_).and ((nC x.loops).and (opsF x.ops))
def xT (l:Sl dR):bR:=((rC.sl (.slice l.addr l.list.length l.cap) l.list).and (bR.each l.list lA)).and (vY 96 l)
def bufF (x:gL):bR:=nC x.sides
def bufsF (l:Sl gL):bR:=((tD.sl (.slice l.addr l.list.length l.cap) l.list).and (bR.each l.list bufF)).and (vY 32 l)
def outsF (l:Sl Int):bR:=(hY.sl (.slice l.addr l.list.length l.cap) l.list).and (vY 8 l)
def jE (c:fA):bR:=(bufsF c.bufs).and ((xT c.steps).and (outsF c.outs))
section
variable {F : List bR} {c : fA} {s : dR} {l : Sl iO} {ol : Sl OpV} {bl : Sl gL} {xl : Sl dR} {il : Sl Int}
theorem hU(h:Has F (jE c)):Has F (bufsF c.bufs):=h.left
theorem iS(h:Has F (jE c)):Has F (xT c.steps):=h.right.left
theorem sC(h:Has F (jE c)):Has F (outsF c.outs):=h.right.right
theorem vM(h:Has F (lA s)):Has F (oM s.at_):=h.left
theorem mL(h:Has F (lA s)):Has F (nC s.loops):=h.right.left
theorem kQ(h:Has F (lA s)):Has F (opsF s.ops):=h.right.right
theorem qL(h:Has F (nC l)):Has F (lV.sl (.slice l.addr l.list.length l.cap) l.list):=h.left.left
theorem qE(h:Has F (nC l)):Has F (oY l.list):=h.left.right
theorem qD(h:Has F (nC l)):Has F (vY 24 l):=h.right
theorem opsF_s(h:Has F (opsF ol)):Has F (opE.sl (.slice ol.addr ol.list.length ol.cap) ol.list):=h.left.left
theorem opsF_e(h:Has F (opsF ol)):Has F (bR.each ol.list opF):=h.left.right
theorem opsF_c(h:Has F (opsF ol)):Has F (vY 56 ol):=h.right
theorem nP(h:Has F (xT xl)):Has F (rC.sl (.slice xl.addr xl.list.length xl.cap) xl.list):=h.left.left
theorem nE(h:Has F (xT xl)):Has F (bR.each xl.list lA):=h.left.right
theorem kR(h:Has F (bufsF bl)):Has F (tD.sl (.slice bl.addr bl.list.length bl.cap) bl.list):=h.left.left
theorem vQ(h:Has F (bufsF bl)):Has F (bR.each bl.list bufF):=h.left.right
theorem tC(h:Has F (outsF il)):Has F (hY.sl (.slice il.addr il.list.length il.cap) il.list):=h.left
end
end Go.Proofs.YtofjmphlpdhohaaGreatDoor
namespace Go.Proofs.YtofjmphlpdhohaaGreatDoor
open Go.RowKit Go.ChangeShapes Go.WideShapes
section
variable {α H : Type} {enc : TypeId × Value → H} {P : Program} {w : World} {t e : TypeId}
def Ty.slicec(T:Ty α)(b:Nat):Ty (Sl α):=⟨slE α,fun s=>((T.slice b).deep s).and (bR.pure (s.list.length≤s.cap))⟩
theorem lQ{deep:Sl α→bR}(hu:P.underlying t=some (.slice e))(he:mB enc P w t (slE α).cells deep):mB enc P w t (slE α).cells (fun s=>(deep s).and (bR.pure (s.list.length≤s.cap))):=fun fuel cs x h hw=>by
 obtain⟨a,e0,d⟩:=he fuel cs x h hw;refine⟨a,e0,d,?_⟩;have e0':cs=[.slice a.addr a.list.length a.cap]:=e0;show a.list.length≤a.cap
 rcases Deep.open_slice hu h with ⟨e1,_⟩ | ⟨a',len,cap,m,n,D,Pl,e1,_,hl,_⟩
 ·rw [e0'] at e1;simp only [List.cons.injEq,and_true,Value.slice.injEq] at e1;omega
 ·rw [e0'] at e1;simp only [List.cons.injEq,and_true,Value.slice.injEq] at e1;omega
end
set_option maxRecDepth 100000
section
variable {H : Type} {enc : TypeId × Value → H} {w : World}
theorem u8_of{n:Int}(h:(Lit.int .u8 n).wf=true): ∃e:UInt8,n=(e.toNat:Int):=by
 have h':0≤n∧n≤255:=bounds_u8 h;refine⟨UInt8.ofNat n.toNat,?_⟩;rw [UInt8.toNat_ofNat'];omega
theorem read_mono{fuel:Nat}{cs:List Value}{x:DataW H×List MemPlace}(h:DataW.trod enc Tryz.prog w 0 (fun _=>true) true fuel 45 cs=some x): ∃m:Mono,cs=m.cells∧(Lit.int .i64 m.n).wf=true:=by
 obtain⟨xs,n,_,_,hlen,hxl,hf⟩:=DataW.trod_struct Tryz.underlying45 h;have hc39:Tryz.prog.cellsOf 45=7:=by kernel_rfl
 have hc2:Tryz.prog.cellsOf 2=1:=by kernel_rfl
 have hc37:Tryz.prog.cellsOf 43=6:=by kernel_rfl
 have hc5:Tryz.prog.cellsOf 5=1:=by kernel_rfl
 rw [hc39] at hlen;have hxl':xs.length=2:=hxl
 match cs,hlen with
 | [a,b0,b1,b2,b3,b4,b5],_=>
  have h0:DataW.trod enc Tryz.prog w 0 (fun _=>true) true n 2 (([a,b0,b1,b2,b3,b4,b5].drop 0).take (Tryz.prog.cellsOf 2))=xs[0]?:=hf 0 _ rfl;have h1:DataW.trod enc Tryz.prog w 0 (fun _=>true) true n 43 (([a,b0,b1,b2,b3,b4,b5].drop 1).take (Tryz.prog.cellsOf 43))=xs[1]?:=hf 1 _ rfl;rw [hc2,List.getElem?_eq_getElem (by omega)] at h0;rw [hc37,List.getElem?_eq_getElem (by omega)] at h1;obtain⟨nn,e0,_,hw⟩:=DataW.trod_int Tryz.underlying2 h0;obtain⟨ys,n',_,_,_,hyl,hg⟩:=DataW.trod_array Tryz.underlying43 h1
  have g: ∀i,i<6→ ∃e:UInt8,(([b0,b1,b2,b3,b4,b5]:List Value).drop i).take 1=[.int .u8 (e.toNat:Int)]:=fun i hi=>by
   have h2:=hg i hi;rw [hc5,Nat.mul_one,List.getElem?_eq_getElem (by omega)] at h2;obtain⟨k,e1,_,hw1⟩:=DataW.trod_int Tryz.underlying5 h2;obtain⟨e,rfl⟩:=u8_of hw1;exact⟨e,e1⟩
  obtain⟨e0',g0⟩:=g 0 (by omega);obtain⟨e1',g1⟩:=g 1 (by omega);obtain⟨e2',g2⟩:=g 2 (by omega);obtain⟨e3',g3⟩:=g 3 (by omega);obtain⟨e4',g4⟩:=g 4 (by omega);obtain⟨e5',g5⟩:=g 5 (by omega);simp at e0 g0 g1 g2 g3 g4 g5;subst e0 g0 g1 g2 g3 g4 g5;exact⟨⟨nn,e0',e1',e2',e3',e4',e5'⟩,rfl,hw⟩
end
def jH:Ty Mono:=⟨mS,fun m=>bR.pure ((Lit.int .i64 m.n).wf=true)⟩
theorem oH{H:Type}{enc:TypeId×Value→H}{w:World}:mB enc Tryz.prog w 45 jH.E.cells jH.deep:=fun fuel cs x h _=>by
 obtain⟨m,e,hw⟩:=read_mono h;exact⟨m,e,hw⟩
instance : Inhabited Mono := ⟨⟨0, 0, 0, 0, 0, 0, 0⟩⟩
def opTy:Ty OpV:=⟨opE,fun x=>(bR.pure ((Lit.int .i64 x.how).wf=true)).and ((bR.pure ((Lit.int .i64 x.k).wf=true)).and ((bR.pure ((Lit.int .i64 x.n).wf=true)).and ((((jH.slice 16)).deep x.p).and ((bR.pure ((Lit.int .u8 x.fn).wf=true)).and (bR.true)))))⟩
set_option maxRecDepth 100000 in
theorem opens_op{H:Type}{enc:TypeId×Value→H}{w:World}:mB enc Tryz.prog w 42 opE.cells opTy.deep:=fun fuel cs x h hw=>by
 obtain⟨xs,n,_,rfl,hlen,hxl,hf⟩:=DataW.trod_struct Tryz.underlying42 h;have hc:Tryz.prog.cellsOf 42=5:=by kernel_rfl
 rw [hc] at hlen;have hxl':xs.length=5:=hxl
 match cs,hlen with
 | [c0,c1,c2,c3,c4],_=>
  have h0:DataW.trod enc Tryz.prog w 0 (fun _=>true) true n 3 (([c0,c1,c2,c3,c4].drop 0).take (Tryz.prog.cellsOf 3))=xs[0]?:=hf 0 _ rfl;have h1:DataW.trod enc Tryz.prog w 0 (fun _=>true) true n 3 (([c0,c1,c2,c3,c4].drop 1).take (Tryz.prog.cellsOf 3))=xs[1]?:=hf 1 _ rfl;have h2:DataW.trod enc Tryz.prog w 0 (fun _=>true) true n 2 (([c0,c1,c2,c3,c4].drop 2).take (Tryz.prog.cellsOf 2))=xs[2]?:=hf 2 _ rfl;have h3:DataW.trod enc Tryz.prog w 0 (fun _=>true) true n 35 (([c0,c1,c2,c3,c4].drop 3).take (Tryz.prog.cellsOf 35))=xs[3]?:=hf 3 _ rfl;have h4:DataW.trod enc Tryz.prog w 0 (fun _=>true) true n 37 (([c0,c1,c2,c3,c4].drop 4).take (Tryz.prog.cellsOf 37))=xs[4]?:=hf 4 _ rfl;rw [List.getElem?_eq_getElem (by omega)] at h0;obtain⟨a0,e0,d0⟩:=(gV Tryz.underlying3) _ _ _ h0 (cQ Tryz.underlying42 hw (j:=0) rfl (by rw [List.getElem?_map,List.getElem?_eq_getElem (by omega)];rfl))
  have q0:[c0]=[.int .i64 a0]:=by
   have hk:Tryz.prog.cellsOf 3=1:=by kernel_rfl
   rw [hk] at e0;exact e0
  clear e0;simp only [List.cons.injEq,and_true] at q0;rw [List.getElem?_eq_getElem (by omega)] at h1;obtain⟨a1,e1,d1⟩:=(gV Tryz.underlying3) _ _ _ h1 (cQ Tryz.underlying42 hw (j:=1) rfl (by rw [List.getElem?_map,List.getElem?_eq_getElem (by omega)];rfl))
  have q1:[c1]=[.int .i64 a1]:=by
   have hk:Tryz.prog.cellsOf 3=1:=by kernel_rfl
   rw [hk] at e1;exact e1
  clear e1;simp only [List.cons.injEq,and_true] at q1;rw [List.getElem?_eq_getElem (by omega)] at h2;obtain⟨a2,e2,d2⟩:=(gV Tryz.underlying2) _ _ _ h2 (cQ Tryz.underlying42 hw (j:=2) rfl (by rw [List.getElem?_map,List.getElem?_eq_getElem (by omega)];rfl))
  have q2:[c2]=[.int .i64 a2]:=by
   have hk:Tryz.prog.cellsOf 2=1:=by kernel_rfl
   rw [hk] at e2;exact e2
  clear e2;simp only [List.cons.injEq,and_true] at q2;rw [List.getElem?_eq_getElem (by omega)] at h3;obtain⟨a3,e3,d3⟩:=(fF (T:=jH) (b:=16) Tryz.underlying35 (by kernel_rfl) (by kernel_rfl) oH) _ _ _ h3 (cQ Tryz.underlying42 hw (j:=3) rfl (by rw [List.getElem?_map,List.getElem?_eq_getElem (by omega)];rfl))
  have q3:[c3]=[.slice a3.addr a3.list.length a3.cap]:=by
   have hk:Tryz.prog.cellsOf 35=1:=by kernel_rfl
   rw [hk] at e3;exact e3
  clear e3;simp only [List.cons.injEq,and_true] at q3;rw [List.getElem?_eq_getElem (by omega)] at h4;obtain⟨a4,e4,d4⟩:=(gV Tryz.underlying37) _ _ _ h4 (cQ Tryz.underlying42 hw (j:=4) rfl (by rw [List.getElem?_map,List.getElem?_eq_getElem (by omega)];rfl))
  have q4:[c4]=[.int .u8 a4]:=by
   have hk:Tryz.prog.cellsOf 37=1:=by kernel_rfl
   rw [hk] at e4;exact e4
  clear e4;simp only [List.cons.injEq,and_true] at q4;obtain rfl:=q0;obtain rfl:=q1;obtain rfl:=q2;obtain rfl:=q3;obtain rfl:=q4;exact⟨⟨a0,a1,a2,a3,a4⟩,rfl,d0,d1,d2,d3,d4,trivial⟩
def bufTy:Ty gL:=⟨tD,fun x=>((((jH.slice 16).slicec 24)).deep x.sides).and ((bR.pure ((Lit.int .i64 x.input).wf=true)).and (bR.true))⟩
set_option maxRecDepth 100000 in
theorem opens_buf{H:Type}{enc:TypeId×Value→H}{w:World}:mB enc Tryz.prog w 47 tD.cells bufTy.deep:=fun fuel cs x h hw=>by
 obtain⟨xs,n,_,rfl,hlen,hxl,hf⟩:=DataW.trod_struct Tryz.underlying47 h;have hc:Tryz.prog.cellsOf 47=2:=by kernel_rfl
 rw [hc] at hlen;have hxl':xs.length=2:=hxl
 match cs,hlen with
 | [c0,c1],_=>
  have h0:DataW.trod enc Tryz.prog w 0 (fun _=>true) true n 36 (([c0,c1].drop 0).take (Tryz.prog.cellsOf 36))=xs[0]?:=hf 0 _ rfl;have h1:DataW.trod enc Tryz.prog w 0 (fun _=>true) true n 3 (([c0,c1].drop 1).take (Tryz.prog.cellsOf 3))=xs[1]?:=hf 1 _ rfl;rw [List.getElem?_eq_getElem (by omega)] at h0;obtain⟨a0,e0,d0⟩:=(lQ Tryz.underlying36 (fF (T:=(jH.slice 16)) (b:=24) Tryz.underlying36 (by kernel_rfl) (by kernel_rfl) (fF (T:=jH) (b:=16) Tryz.underlying35 (by kernel_rfl) (by kernel_rfl) oH))) _ _ _ h0 (cQ Tryz.underlying47 hw (j:=0) rfl (by rw [List.getElem?_map,List.getElem?_eq_getElem (by omega)];rfl))
  have q0:[c0]=[.slice a0.addr a0.list.length a0.cap]:=by
   have hk:Tryz.prog.cellsOf 36=1:=by kernel_rfl
   rw [hk] at e0;exact e0
  clear e0;simp only [List.cons.injEq,and_true] at q0;rw [List.getElem?_eq_getElem (by omega)] at h1;obtain⟨a1,e1,d1⟩:=(gV Tryz.underlying3) _ _ _ h1 (cQ Tryz.underlying47 hw (j:=1) rfl (by rw [List.getElem?_map,List.getElem?_eq_getElem (by omega)];rfl))
  have q1:[c1]=[.int .i64 a1]:=by
   have hk:Tryz.prog.cellsOf 3=1:=by kernel_rfl
   rw [hk] at e1;exact e1
  clear e1;simp only [List.cons.injEq,and_true] at q1;obtain rfl:=q0;obtain rfl:=q1;exact⟨⟨a0,a1⟩,rfl,d0,d1,trivial⟩
def xH:Ty dR:=⟨rC,fun x=>(bR.pure ((Lit.int .i64 x.how).wf=true)).and ((bR.pure ((Lit.int .i64 x.buf).wf=true)).and ((((jH.slice 16)).deep x.at_).and (((((jH.slice 16).slicec 24)).deep x.loops).and ((bR.pure ((Lit.int .u8 x.fn).wf=true)).and ((((opTy.slicec 56)).deep x.ops).and (bR.true))))))⟩
set_option maxRecDepth 100000 in
theorem opens_step{H:Type}{enc:TypeId×Value→H}{w:World}:mB enc Tryz.prog w 40 rC.cells xH.deep:=fun fuel cs x h hw=>by
 obtain⟨xs,n,_,rfl,hlen,hxl,hf⟩:=DataW.trod_struct Tryz.underlying40 h;have hc:Tryz.prog.cellsOf 40=6:=by kernel_rfl
 rw [hc] at hlen;have hxl':xs.length=6:=hxl
 match cs,hlen with
 | [c0,c1,c2,c3,c4,c5],_=>
  have h0:DataW.trod enc Tryz.prog w 0 (fun _=>true) true n 3 (([c0,c1,c2,c3,c4,c5].drop 0).take (Tryz.prog.cellsOf 3))=xs[0]?:=hf 0 _ rfl;have h1:DataW.trod enc Tryz.prog w 0 (fun _=>true) true n 3 (([c0,c1,c2,c3,c4,c5].drop 1).take (Tryz.prog.cellsOf 3))=xs[1]?:=hf 1 _ rfl;have h2:DataW.trod enc Tryz.prog w 0 (fun _=>true) true n 35 (([c0,c1,c2,c3,c4,c5].drop 2).take (Tryz.prog.cellsOf 35))=xs[2]?:=hf 2 _ rfl;have h3:DataW.trod enc Tryz.prog w 0 (fun _=>true) true n 36 (([c0,c1,c2,c3,c4,c5].drop 3).take (Tryz.prog.cellsOf 36))=xs[3]?:=hf 3 _ rfl;have h4:DataW.trod enc Tryz.prog w 0 (fun _=>true) true n 37 (([c0,c1,c2,c3,c4,c5].drop 4).take (Tryz.prog.cellsOf 37))=xs[4]?:=hf 4 _ rfl;have h5:DataW.trod enc Tryz.prog w 0 (fun _=>true) true n 38 (([c0,c1,c2,c3,c4,c5].drop 5).take (Tryz.prog.cellsOf 38))=xs[5]?:=hf 5 _ rfl;rw [List.getElem?_eq_getElem (by omega)] at h0;obtain⟨a0,e0,d0⟩:=(gV Tryz.underlying3) _ _ _ h0 (cQ Tryz.underlying40 hw (j:=0) rfl (by rw [List.getElem?_map,List.getElem?_eq_getElem (by omega)];rfl))
  have q0:[c0]=[.int .i64 a0]:=by
   have hk:Tryz.prog.cellsOf 3=1:=by kernel_rfl
   rw [hk] at e0;exact e0
  clear e0;simp only [List.cons.injEq,and_true] at q0;rw [List.getElem?_eq_getElem (by omega)] at h1;obtain⟨a1,e1,d1⟩:=(gV Tryz.underlying3) _ _ _ h1 (cQ Tryz.underlying40 hw (j:=1) rfl (by rw [List.getElem?_map,List.getElem?_eq_getElem (by omega)];rfl))
  have q1:[c1]=[.int .i64 a1]:=by
   have hk:Tryz.prog.cellsOf 3=1:=by kernel_rfl
   rw [hk] at e1;exact e1
  clear e1;simp only [List.cons.injEq,and_true] at q1;rw [List.getElem?_eq_getElem (by omega)] at h2;obtain⟨a2,e2,d2⟩:=(fF (T:=jH) (b:=16) Tryz.underlying35 (by kernel_rfl) (by kernel_rfl) oH) _ _ _ h2 (cQ Tryz.underlying40 hw (j:=2) rfl (by rw [List.getElem?_map,List.getElem?_eq_getElem (by omega)];rfl))
  have q2:[c2]=[.slice a2.addr a2.list.length a2.cap]:=by
   have hk:Tryz.prog.cellsOf 35=1:=by kernel_rfl
   rw [hk] at e2;exact e2
  clear e2;simp only [List.cons.injEq,and_true] at q2;rw [List.getElem?_eq_getElem (by omega)] at h3;obtain⟨a3,e3,d3⟩:=(lQ Tryz.underlying36 (fF (T:=(jH.slice 16)) (b:=24) Tryz.underlying36 (by kernel_rfl) (by kernel_rfl) (fF (T:=jH) (b:=16) Tryz.underlying35 (by kernel_rfl) (by kernel_rfl) oH))) _ _ _ h3 (cQ Tryz.underlying40 hw (j:=3) rfl (by rw [List.getElem?_map,List.getElem?_eq_getElem (by omega)];rfl))
  have q3:[c3]=[.slice a3.addr a3.list.length a3.cap]:=by
   have hk:Tryz.prog.cellsOf 36=1:=by kernel_rfl
   rw [hk] at e3;exact e3
  clear e3;simp only [List.cons.injEq,and_true] at q3;rw [List.getElem?_eq_getElem (by omega)] at h4;obtain⟨a4,e4,d4⟩:=(gV Tryz.underlying37) _ _ _ h4 (cQ Tryz.underlying40 hw (j:=4) rfl (by rw [List.getElem?_map,List.getElem?_eq_getElem (by omega)];rfl))
  have q4:[c4]=[.int .u8 a4]:=by
   have hk:Tryz.prog.cellsOf 37=1:=by kernel_rfl
   rw [hk] at e4;exact e4
  clear e4;simp only [List.cons.injEq,and_true] at q4;rw [List.getElem?_eq_getElem (by omega)] at h5;obtain⟨a5,e5,d5⟩:=(lQ Tryz.underlying38 (fF (T:=opTy) (b:=56) Tryz.underlying38 (by kernel_rfl) (by kernel_rfl) opens_op)) _ _ _ h5 (cQ Tryz.underlying40 hw (j:=5) rfl (by rw [List.getElem?_map,List.getElem?_eq_getElem (by omega)];rfl))
  have q5:[c5]=[.slice a5.addr a5.list.length a5.cap]:=by
   have hk:Tryz.prog.cellsOf 38=1:=by kernel_rfl
   rw [hk] at e5;exact e5
  clear e5;simp only [List.cons.injEq,and_true] at q5;obtain rfl:=q0;obtain rfl:=q1;obtain rfl:=q2;obtain rfl:=q3;obtain rfl:=q4;obtain rfl:=q5;exact⟨⟨a0,a1,a2,a3,a4,a5⟩,rfl,d0,d1,d2,d3,d4,d5,trivial⟩
def coreTy:Ty fA:=⟨coreE,fun x=>(bR.pure ((Lit.int .i64 x.vars).wf=true)).and ((((bufTy.slicec 32)).deep x.bufs).and ((((xH.slicec 96)).deep x.steps).and ((((intTy.slicec 8)).deep x.outs).and (bR.true))))⟩
set_option maxRecDepth 100000 in
theorem opens_core{H:Type}{enc:TypeId×Value→H}{w:World}:mB enc Tryz.prog w 26 coreE.cells coreTy.deep:=fun fuel cs x h hw=>by
 obtain⟨xs,n,_,rfl,hlen,hxl,hf⟩:=DataW.trod_struct Tryz.underlying26 h;have hc:Tryz.prog.cellsOf 26=4:=by kernel_rfl
 rw [hc] at hlen;have hxl':xs.length=4:=hxl
 match cs,hlen with
 | [c0,c1,c2,c3],_=>
  have h0:DataW.trod enc Tryz.prog w 0 (fun _=>true) true n 3 (([c0,c1,c2,c3].drop 0).take (Tryz.prog.cellsOf 3))=xs[0]?:=hf 0 _ rfl;have h1:DataW.trod enc Tryz.prog w 0 (fun _=>true) true n 22 (([c0,c1,c2,c3].drop 1).take (Tryz.prog.cellsOf 22))=xs[1]?:=hf 1 _ rfl;have h2:DataW.trod enc Tryz.prog w 0 (fun _=>true) true n 23 (([c0,c1,c2,c3].drop 2).take (Tryz.prog.cellsOf 23))=xs[2]?:=hf 2 _ rfl;have h3:DataW.trod enc Tryz.prog w 0 (fun _=>true) true n 24 (([c0,c1,c2,c3].drop 3).take (Tryz.prog.cellsOf 24))=xs[3]?:=hf 3 _ rfl;rw [List.getElem?_eq_getElem (by omega)] at h0;obtain⟨a0,e0,d0⟩:=(gV Tryz.underlying3) _ _ _ h0 (cQ Tryz.underlying26 hw (j:=0) rfl (by rw [List.getElem?_map,List.getElem?_eq_getElem (by omega)];rfl))
  have q0:[c0]=[.int .i64 a0]:=by
   have hk:Tryz.prog.cellsOf 3=1:=by kernel_rfl
   rw [hk] at e0;exact e0
  clear e0;simp only [List.cons.injEq,and_true] at q0;rw [List.getElem?_eq_getElem (by omega)] at h1;obtain⟨a1,e1,d1⟩:=(lQ Tryz.underlying22 (fF (T:=bufTy) (b:=32) Tryz.underlying22 (by kernel_rfl) (by kernel_rfl) opens_buf)) _ _ _ h1 (cQ Tryz.underlying26 hw (j:=1) rfl (by rw [List.getElem?_map,List.getElem?_eq_getElem (by omega)];rfl))
  have q1:[c1]=[.slice a1.addr a1.list.length a1.cap]:=by
   have hk:Tryz.prog.cellsOf 22=1:=by kernel_rfl
   rw [hk] at e1;exact e1
  clear e1;simp only [List.cons.injEq,and_true] at q1;rw [List.getElem?_eq_getElem (by omega)] at h2;obtain⟨a2,e2,d2⟩:=(lQ Tryz.underlying23 (fF (T:=xH) (b:=96) Tryz.underlying23 (by kernel_rfl) (by kernel_rfl) opens_step)) _ _ _ h2 (cQ Tryz.underlying26 hw (j:=2) rfl (by rw [List.getElem?_map,List.getElem?_eq_getElem (by omega)];rfl))
  have q2:[c2]=[.slice a2.addr a2.list.length a2.cap]:=by
   have hk:Tryz.prog.cellsOf 23=1:=by kernel_rfl
   rw [hk] at e2;exact e2
  clear e2;simp only [List.cons.injEq,and_true] at q2;rw [List.getElem?_eq_getElem (by omega)] at h3;obtain⟨a3,e3,d3⟩:=(lQ Tryz.underlying24 (fF (T:=intTy) (b:=8) Tryz.underlying24 (by kernel_rfl) (by kernel_rfl) (gV Tryz.underlying3))) _ _ _ h3 (cQ Tryz.underlying26 hw (j:=3) rfl (by rw [List.getElem?_map,List.getElem?_eq_getElem (by omega)];rfl))
  have q3:[c3]=[.slice a3.addr a3.list.length a3.cap]:=by
   have hk:Tryz.prog.cellsOf 24=1:=by kernel_rfl
   rw [hk] at e3;exact e3
  clear e3;simp only [List.cons.injEq,and_true] at q3;obtain rfl:=q0;obtain rfl:=q1;obtain rfl:=q2;obtain rfl:=q3;exact⟨⟨a0,a1,a2,a3⟩,rfl,d0,d1,d2,d3,trivial⟩
section
variable {S : Nat → Prop} {w : World}
theorem pol_of{p:iO}(h:((jH.slice 16).deep p).p S w):(oM p).p S w:=by
 obtain⟨⟨c1,c2⟩,c3⟩:=h;have c3:p.list.length*16≤140737488355328:=c3;exact⟨c1,by show p.list.length≤140737488355328;omega⟩
theorem list_of{l:Sl iO}(h:(((jH.slice 16).slicec 24).deep l).p S w):(nC l).p S w:=by
 obtain⟨⟨⟨a1,a2⟩,a3⟩,a4⟩:=h;exact⟨⟨a1,fun p hp=>pol_of (a2 p hp)⟩,a4,a3⟩
theorem op_of{o:OpV}(h:(opTy.deep o).p S w):(opF o).p S w:=pol_of h.2.2.2.1
theorem ops_of{l:Sl OpV}(h:((opTy.slicec 56).deep l).p S w):(opsF l).p S w:=by
 obtain⟨⟨⟨a1,a2⟩,a3⟩,a4⟩:=h;exact⟨⟨a1,fun p hp=>op_of (a2 p hp)⟩,a4,a3⟩
theorem buf_of{b:gL}(h:(bufTy.deep b).p S w):(bufF b).p S w:=list_of h.1
theorem bufs_of{l:Sl gL}(h:((bufTy.slicec 32).deep l).p S w):(bufsF l).p S w:=by
 obtain⟨⟨⟨a1,a2⟩,a3⟩,a4⟩:=h;exact⟨⟨a1,fun p hp=>buf_of (a2 p hp)⟩,a4,a3⟩
theorem step_of{s:dR}(h:(xH.deep s).p S w):(lA s).p S w:=⟨pol_of h.2.2.1,list_of h.2.2.2.1,ops_of h.2.2.2.2.2.1⟩
theorem steps_of{l:Sl dR}(h:((xH.slicec 96).deep l).p S w):(xT l).p S w:=by
 obtain⟨⟨⟨a1,a2⟩,a3⟩,a4⟩:=h;exact⟨⟨a1,fun p hp=>step_of (a2 p hp)⟩,a4,a3⟩
theorem outs_of{l:Sl Int}(h:((intTy.slicec 8).deep l).p S w):(outsF l).p S w:=by
 obtain⟨⟨⟨a1,a2⟩,a3⟩,a4⟩:=h;exact⟨a1,a4,a3⟩
theorem core_of{c:fA}(h:(coreTy.deep c).p S w):(jE c).p S w:=⟨bufs_of h.2.1,steps_of h.2.2.1,outs_of h.2.2.2.1⟩
end
end Go.Proofs.YtofjmphlpdhohaaGreatDoor
namespace Go.Proofs.YtofjmphlpdhohaaGreatDoor
open Go.RowKit
theorem takes_le(h:Int):cW h≤2∧ -1≤cW h:=by
 unfold cW
 repeat' split
 all_goals omega
def xD (l:List OpV)(i:Nat)(m n r:Int):Prop:=sE ((lU l).drop i) m n=r
theorem gR{α:Type}{l:List α}{i:Nat}{x:α}(h:l[i]?=some x):l.drop i=x::l.drop (i+1):=by
 obtain⟨hi,e⟩:=List.getElem?_eq_some_iff.1 h;rw [←e];exact List.drop_eq_getElem_cons hi
section
variable {l : List OpV} {i : Nat} {m n r : Int} {x : OpV}
theorem dep_step(h:xD l i m n r)(hx:l[i]?=some x):(cW x.how<0∨n<cW x.how→r= -1)∧(¬cW x.how<0→ ¬n<cW x.how→xD l (i+1) (if n+(1-cW x.how)>m then n+(1-cW x.how) else m) (n+(1-cW x.how)) r):=by
 unfold xD at*;rw [gR (opsL_at hx),sE] at h;refine⟨fun e=>?_,fun e1 e2=>?_⟩
 ·rw [if_pos (show cW x.c.how<0∨n<cW x.c.how from e)] at h;exact h.symm
 ·rw [if_neg (show ¬(cW x.c.how<0∨n<cW x.c.how) from fun h=>h.elim e1 e2)] at h;rw [←h]
  congr 1
  show _=max m (n+(1-cW x.how));split<;>omega
theorem vN(h:xD l i m n r)(hi:l.length≤i):(n≠1→r= -1)∧(n=1→r=m):=by
 unfold xD at h;rw [List.drop_of_length_le (by rw [pS];exact hi),sE] at h;exact⟨fun e=>by rw [if_neg e] at h;exact h.symm,fun e=>by rw [if_pos e] at h;exact h.symm⟩
end
section
variable {f : Int} {two : Bool}
theorem lJ(h:f<1∨17<f):Value.bool false= .bool (dX f two):=by
 unfold dX;rw [if_pos h]
theorem wtk_b(h3:f=16):Value.bool (!two)= .bool (dX f two):=by
 unfold dX;rw [if_neg (by omega),if_pos h3]
theorem wtk_c(h1:1≤f)(h2:f≤17)(h3:f≠16)(h:two=true):Value.bool true= .bool (dX f two):=by
 unfold dX;rw [if_neg (by omega),if_neg h3,h,Bool.true_or]
theorem wtk_d(h1:1≤f)(h2:f≤17)(h3:f≠16)(h:two=false):Value.bool (decide (f≤7))= .bool (dX f two):=by
 unfold dX;rw [if_neg (by omega),if_neg h3,h,Bool.false_or]
end
theorem rZ:(Tryz.prog.info? 42).bind (·.zero)=some (.agg #[.int .i64 0,.int .i64 0,.int .i64 0,.slice none 0 0,.int .u8 0]):=by kernel_rfl
set_option maxRecDepth 100000 in
theorem takes_spec(o:OpV):dS Tryz.prog 168 [.agg #[.int .i64 o.how,.int .i64 o.k,.int .i64 o.n,.slice o.p.addr o.p.list.length o.p.cap,.int .u8 o.fn]] [] [] (fun(_:Unit)=> .int .i64 (cW o.how)) (fun _=>[]) (fun _=>[]):=by
 have hT:=cG;refine cR Tryz.func168 rfl Tryz.ntmps168 rfl ?_;intro β hM;refine sr<|fS rfl rfl rfl rfl rfl rfl fun b1=>?_;refine sp hT ?_;refine nn<|bJ<|sr<|sp hT ?_;refine ss (ldO hT (dU .head)) ?_;refine nn<|bQ<|bJ<|sr<|sp2 hT ?_;refine nn<|bL rfl (fun hc5=>?_) (fun hc5=>?_)
 ·have hc5_r:=hc5;have hc5:=eq_of_beq hc5;refine bN<|bE<|cF rfl hc5_r ?_;refine sr<|sp hT ?_;refine nn<|bI<|bO<|bG ?_;exact bD () rfl (bH rfl) .nil trivial (by simp [cW, *])
 have hc5_r:=hc5;have hc5:=beq_eq_false_iff_ne.1 hc5;refine sr<|sp2 hT ?_;refine nn<|bL rfl (fun hc5_2=>?_) (fun hc5_2=>?_)
 ·have hc5_2_r:=hc5_2;have hc5_2:=eq_of_beq hc5_2;refine bN<|bE<|cF rfl hc5_2_r ?_;refine sr<|sp hT ?_;refine nn<|bI<|bO<|bG ?_;exact bD () rfl (bH rfl) .nil trivial (by simp [cW, *])
 have hc5_2_r:=hc5_2;have hc5_2:=beq_eq_false_iff_ne.1 hc5_2;refine bF<|sp2 hT ?_;refine nn<|bL rfl (fun hc5_3=>?_) (fun hc5_3=>?_)
 ·have hc5_3_r:=hc5_3;have hc5_3:=eq_of_beq hc5_3;refine sr<|sp hT ?_;refine nn<|bI<|bO<|bG ?_;exact bD () rfl (bH rfl) .nil trivial (by simp [cW, *])
 have hc5_3_r:=hc5_3;have hc5_3:=beq_eq_false_iff_ne.1 hc5_3;refine bJ<|sr<|sp2 hT ?_;refine nn<|bL rfl (fun hc9=>?_) (fun hc9=>?_)
 ·have hc9_r:=hc9;have hc9:=eq_of_beq hc9;refine bN<|bE<|cF rfl hc9_r ?_;refine sr<|sp hT ?_;refine nn<|bI<|bO<|bG ?_;exact bD () rfl (bH rfl) .nil trivial (by simp [cW, *])
 have hc9_r:=hc9;have hc9:=beq_eq_false_iff_ne.1 hc9;refine bF<|sp2 hT ?_;refine nn<|bL rfl (fun hc9_4=>?_) (fun hc9_4=>?_)
 ·have hc9_4_r:=hc9_4;have hc9_4:=eq_of_beq hc9_4;refine sr<|sp hT ?_;refine nn<|bI<|bO<|bG ?_;exact bD () rfl (bH rfl) .nil trivial (by simp [cW, *])
 have hc9_4_r:=hc9_4;have hc9_4:=beq_eq_false_iff_ne.1 hc9_4;refine sr<|sp2 hT ?_;refine nn<|bL rfl (fun hc12=>?_) (fun hc12=>?_)
 ·have hc12_r:=hc12;have hc12:=eq_of_beq hc12;refine sr<|sp hT ?_;refine nn<|bI<|bO<|bG ?_;exact bD () rfl (bH rfl) .nil trivial (by simp [cW, *])
 have hc12_r:=hc12;have hc12:=beq_eq_false_iff_ne.1 hc12;refine bN<|bU<|bE<|sr<|sp hT ?_;refine nn<|bI ?_;exact bD () rfl (bH rfl) .nil trivial (by simp [cW, *])
set_option maxRecDepth 100000 in
theorem Depth_spec(A:Option Addr)(c:Nat)(l:List OpV)(hl:l.length≤140737488355328):dS Tryz.prog 109 [.slice A l.length c] [] [opE.sl (.slice A l.length c) l,bR.each l opF] (fun(_:Unit)=> .int .i64 (lF (lU l))) (fun _=>[]) (fun _=>[]):=by
 have hT:=cG;generalize hR:lF (lU l)=r;refine cR Tryz.func109 rfl Tryz.ntmps109 rfl ?_;intro β hM;refine sr<|sp hT ?_;refine nn<|sr<|sp2 hT ?_;refine nn<|bJ<|sr<|sp3 hT ?_;refine nn<|bQ<|cI (ι:=Nat×Int×Int) [(8,_),(9,_)] ⟨rfl,rfl,trivial⟩ (fun⟨i,m,n⟩=>[(3,.int .i64 m),(4,.int .i64 n),(10,.int .i64 (i:Nat))]) (fun _=>[]) (fun⟨i,m,n⟩=>[bR.pure (i≤l.length∧xD l i m n r∧0≤n∧n≤i)]) (fun⟨i,m,n⟩=>l.length-i) (0,0,0) ⟨rfl,rfl,rfl,trivial⟩ .nil ⟨Has.pure (⟨by omega,hR,by omega,by omega⟩),trivial⟩ ?_;rintro⟨i,m,n⟩;dsimp only;refine cC (Has.of mT0) fun hinv3=>?_;refine sr<|sp hT ?_;refine nn<|bJ<|bL rfl (fun hc11=>?_) (fun hc11=>?_)
 ·have hc11:=of_decide_eq_true hc11;refine bN<|bE<|bJ<|bQ<|sr ?_
  obtain⟨x1,hx2⟩: ∃x',l[i]?=some x':=⟨_,List.getElem?_eq_getElem (by omega)⟩
  refine ss (bM hT (k:=i) (bC (Has.of mT1)) rfl rfl rfl rfl rfl rfl rfl (by omega)) ?_;refine ss (dB hT (cD.knows (bC (Has.of mT1)) (k:=i) (x:=x1) hx2 0) rfl rfl rfl rfl rfl) ?_;refine iA rfl rfl rfl rfl rZ rfl fun b3=>?_;refine sto hT .head ?_;refine nn<|bJ ?_;have htk:=takes_le x1.how
  have hd0:=(dep_step hinv3.2.1 hx2)
  refine bF<|ss (ldN hT (dU .head)) ?_;refine cV Tryz.func168 (takes_spec x1) rfl rfl .nil trivial fun _=>?_;refine sp hT ?_;refine nn<|bJ<|sr<|sp3 hT ?_;refine bP (fun hg18=>?_) (fun hg18=>?_)
  ·have hg18:=of_decide_eq_true hg18;refine sk3 ?_;refine sp hT ?_;refine nn<|cF rfl rfl ?_;refine sr<|sp hT ?_;refine nn<|bI<|bG<|bO<|bG<|bG<|bO<|bG ?_;have hr:=hd0.1 (by omega);subst hr;exact bD () rfl (bH rfl) .nil trivial rfl
  have hg18:=Int.not_lt.1 (of_decide_eq_false hg18);refine sp4 hT ?_;refine nn<|bL rfl (fun hc22=>?_) (fun hc22=>?_)
  ·have hc22:=of_decide_eq_true hc22;refine sr<|sp hT ?_;refine nn<|bI<|bG<|bO<|bG<|bG<|bO<|bG ?_;have hr:=hd0.1 (by omega);subst hr;exact bD () rfl (bH rfl) .nil trivial rfl
  have hc22:=Int.not_lt.1 (of_decide_eq_false hc22);refine bN<|bE<|sr<|sp3 hT ?_;refine bX (mH (by omega) (by omega)) ?_;refine sp hT ?_;refine bX (mH (by omega) (by omega)) ?_;refine sp hT ?_;refine nn<|bF<|sp4 hT ?_;refine gS<|bU<|bE<|bF<|sp hT ?_;refine bX (z':=(((i+1):Nat):Int)) (cT (by omega) (by omega)) ?_;refine sp hT ?_;refine nn ?_;exact bW (i+1,_,_) (by dsimp only;omega) ⟨rfl,rfl,rfl,trivial⟩ ⟨rfl,rfl,trivial⟩ .nil ⟨Has.pure (⟨by dsimp only;omega,hd0.2 (by omega) (by omega),by dsimp only;omega,by dsimp only;omega⟩),trivial⟩ (bK.drop 1)
 have hc11:=Int.not_lt.1 (of_decide_eq_false hc11);refine cL<|bZ<|bZ<|cM<|bE<|bJ<|sr<|sp2 hT ?_;refine nn<|bL rfl (fun hc32=>?_) (fun hc32=>?_)
 ·have hc32:=bne_iff_ne.1 hc32;refine sr<|sp hT ?_;refine nn<|bI<|bG ?_;have hr:=(vN hinv3.2.1 (by omega)).1 ‹_›;subst hr;exact bD () rfl (bH rfl) .nil trivial rfl
 have hc32:=bne_eq_false_iff_eq.1 hc32;refine bN<|bE<|sr<|sp2 hT ?_;refine nn<|bI ?_;have hr:=(vN hinv3.2.1 (by omega)).2 ‹_›;subst hr;exact bD () rfl (bH rfl) .nil trivial rfl
set_option maxRecDepth 100000 in
theorem mU(f:Int)(two:Bool):dS Tryz.prog 110 [.int .u8 f,.bool two] [] [] (fun(_:Unit)=> .bool (dX f two)) (fun _=>[]) (fun _=>[]):=by
 have hT:=cG;refine cR Tryz.func110 rfl Tryz.ntmps110 rfl ?_;intro β hM;refine sr<|sp hT ?_;refine nn<|bJ<|bQ<|sr<|sp3 hT ?_;refine bP (fun hg8=>?_) (fun hg8=>?_)
 ·have hg8:=of_decide_eq_true hg8;refine sk2 ?_;refine sp2 hT ?_;refine nn<|cF rfl rfl ?_;refine sr<|sp hT ?_;refine nn<|bI<|bO<|bG ?_;exact bD () rfl (bH rfl) .nil trivial (by first | exact lJ (.inl (by omega)) | exact lJ (.inr (by omega)) | exact wtk_b (by omega) | exact wtk_c (by omega) (by omega) (by omega) ‹_› | exact wtk_d (by omega) (by omega) (by omega) ‹_›)
 have hg8:=Int.not_lt.1 (of_decide_eq_false hg8);refine sp4 hT ?_;refine nn<|bL rfl (fun hc5=>?_) (fun hc5=>?_)
 ·have hc5:=of_decide_eq_true hc5;refine sr<|sp hT ?_;refine nn<|bI<|bO<|bG ?_;exact bD () rfl (bH rfl) .nil trivial (by first | exact lJ (.inl (by omega)) | exact lJ (.inr (by omega)) | exact wtk_b (by omega) | exact wtk_c (by omega) (by omega) (by omega) ‹_› | exact wtk_d (by omega) (by omega) (by omega) ‹_›)
 have hc5:=Int.not_lt.1 (of_decide_eq_false hc5);refine sr<|sp3 hT ?_;refine nn<|bL rfl (fun hc12=>?_) (fun hc12=>?_)
 ·have hc12:=eq_of_beq hc12;refine sr<|sp3 hT ?_;refine nn<|bI<|bO<|bG ?_;exact bD () rfl (bH rfl) .nil trivial (by first | exact lJ (.inl (by omega)) | exact lJ (.inr (by omega)) | exact wtk_b (by omega) | exact wtk_c (by omega) (by omega) (by omega) ‹_› | exact wtk_d (by omega) (by omega) (by omega) ‹_›)
 have hc12:=beq_eq_false_iff_ne.1 hc12;refine bN<|bU<|bE<|sr<|sp2 hT ?_;refine bP (fun hg18=>?_) (fun hg18=>?_)
 ·refine sk2 ?_;refine sp2 hT ?_;refine nn<|bI ?_;exact bD () rfl (bH rfl) .nil trivial (by first | exact lJ (.inl (by omega)) | exact lJ (.inr (by omega)) | exact wtk_b (by omega) | exact wtk_c (by omega) (by omega) (by omega) ‹_› | exact wtk_d (by omega) (by omega) (by omega) ‹_›)
 refine sp4 hT ?_;refine nn<|bI ?_;exact bD () rfl (bH rfl) .nil trivial (by first | exact lJ (.inl (by omega)) | exact lJ (.inr (by omega)) | exact wtk_b (by omega) | exact wtk_c (by omega) (by omega) (by omega) ‹_› | exact wtk_d (by omega) (by omega) (by omega) ‹_›)
section
variable {P : Program} {β : fZ} {n : Nat} {Γ : Env} {H : List bS} {F : List bR} {K : Act → World → Prop} {T : Tab} {α : Type} {E : Flat α}
theorem St.recast'{c c':bS}{S:gZ}{w:World}(s:St β (c::H) S w)(hb: ∀b,c'.blk=some b→c.blk=some b)(ok:c'.ok w):St β (c'::H) S w:=by
 have hs:=List.pairwise_cons.1 s.sep;refine⟨s.kept,fun d hd=>?_,fun d hd b h=>?_,List.pairwise_cons.2 ⟨fun d hd b h=>hs.1 d hd b (hb b h),hs.2⟩,s.zone⟩
 ·rcases List.mem_cons.1 hd with rfl | hd
  ·exact ok
  ·exact s.ok d (List.mem_cons_of_mem _ hd)
 ·rcases List.mem_cons.1 hd with rfl | hd
  ·exact s.own c (List.mem_cons_self ..) b (hb b h)
  ·exact s.own d (List.mem_cons_of_mem _ hd) b h
theorem pP{b:Nat}{t:TypeId}{xs:List α}{H':List bS}(hH:fC H (.obj b (.cells (E.all xs).toArray t)) H')(h:At β n Γ (E.held (.slice (some ⟨b,0,none⟩) xs.length xs.length) xs::H') F K):At β n Γ H F K:=fun a w S f s k=>by
 have s2:=s.perm hH.perm;have hok:w.heap[b]?=some (.cells (E.all xs).toArray t):=s2.ok _ (List.mem_cons_self ..);refine h a w S f (s2.recast' (fun b' hb=>?_) ?_) k
 ·cases xs with
  | nil=>cases hb
  | cons x r=>exact hb
 ·cases xs with
  | nil=>exact⟨_,_,rfl,.inl rfl⟩
  | cons x r=>
   refine⟨_,_,rfl,.inr ⟨b,0,_,t,(0,0),rfl,hok,fun j u hj=>⟨?_,?_⟩⟩⟩
   ·rw [Nat.zero_add];exact hj
   ·simp
theorem at_row_held'{v:Value}{t:TypeId}{xs:List α}{H':List bS}(hH:fC H (E.row v t xs) H')(h:At β n Γ (E.held v xs::H') F K):At β n Γ H F K:=fun a w S f s k=>by
 have s2:=s.perm hH.perm;have hok:w.ownsRow 0 t E.size v xs.length (E.all xs):=s2.ok _ (List.mem_cons_self ..);refine h a w S f (s2.recast' (fun b hb=>?_) ?_) k
 ·cases xs with
  | nil=>cases hb
  | cons x r=>exact hb
 ·rcases hok.2 with ⟨e,e0⟩ | ⟨g,cap,cur,e,_,hg,hnc,hcm,hcs,ht⟩
  ·have:xs=[]:=List.eq_nil_of_length_eq_zero e0;subst this;exact⟨none,0,e,.inl rfl⟩
  ·subst e
   cases xs with
   | nil=>exact⟨_,cap,rfl,.inl rfl⟩
   | cons x r=>
    refine⟨_,cap,rfl,.inr ⟨g,0,cur,t,(0,0),rfl,hg,fun j u hj=>⟨?_,?_⟩⟩⟩
    ·rw [Nat.zero_add];rw [←ht,List.getElem?_take] at hj;split at hj
     ·exact hj
     ·cases hj
    ·simp
theorem lG{v:Value}{xs:List α}{H':List bS}(hH:fC H (E.held v xs) H')(h:At β n Γ H' (E.sl v xs::F) K):At β n Γ H F K:=fun a w S f s k=>by
 have s2:=s.perm hH.perm;have hok:(E.held v xs).ok w:=s2.ok _ (List.mem_cons_self ..);have hsep:=List.pairwise_cons.1 s2.sep;have hown:=s2.own _ (List.mem_cons_self ..);have hmono:All F (fun b=>S b∨(E.held v xs).blk=some b) w:=All.mono (fun _ h=> .inl h) (fun _ _=>rfl) k;refine h a w (fun b=>S b∨(E.held v xs).blk=some b) f ⟨s2.kept,fun c hc=>s2.ok c (List.mem_cons_of_mem _ hc),fun c hc b hb=>?_,hsep.2,fun b hb=>?_⟩ (All.cons (xQ hok fun b hb=> .inr hb) hmono)
 ·obtain⟨h1,h2,h3⟩:=s2.own c (List.mem_cons_of_mem _ hc) b hb;refine⟨h1,h2,fun h=>?_⟩
  rcases h with h | h
  ·exact h3 h
  ·exact hsep.1 c hc b h hb
 ·rcases hb with hb | hb
  ·exact s2.zone b hb
  ·obtain⟨h1,h2,_⟩:=hown b hb;exact⟨h1,.inr h2⟩
theorem kJ{b:Nat}{cs:List Value}{t:TypeId}{L:List bS}{G:List bR}(h:yS L G):yS (.obj b (.cells cs.toArray t)::L) (bR.cells b 0 cs::G):=fun S w hok hS=>
 All.cons ⟨hS _ (List.mem_cons_self ..) b rfl,fun j u hj=>by
  have h0:w.heap[b]?=some (.cells cs.toArray t):=hok _ (List.mem_cons_self ..);unfold World.cell?;rw [h0]
  simpa using hj⟩ (h S w (fun c hc=>hok c (List.mem_cons_of_mem _ hc)) fun c hc=>hS c (List.mem_cons_of_mem _ hc))
theorem run_arrFrom(hT:dV P T){t e m sz k:Nat}{ei:TI}(ht:T.get t=some ⟨.array m e,sz⟩)(he:T.get e=some ei){b off:Nat}(hk:k≤m)(kk:IntKind)(w:World):
  (Instr.sliceAt t (.pointer (some ⟨b,off,none⟩)) (some (.int kk (k:Nat))) none none).run P w= .ok (.slice (some ⟨b,if m=k then off else off+k*ei.size,none⟩) (m-k) (m-k)) w:=by
 have ha:(⟨b,off,none⟩:Addr).add (k*ei.size)=⟨b,off+k*ei.size,none⟩:=Addr.add_mid _ _ _;unfold Instr.sliceAt;rw [Sem.run_bind,hT.array ht,Result.andThen_ok]
 have h1:(Instr.sliceBound (.int kk (k:Nat)) m .sliceB).run P w= .ok k w:=by
  rw [run_sliceBound w kk (k:Int) m .sliceB (by omega) (by omega),Int.toNat_natCast]
 simp only [Instr.sureAddr,Instr.sliceBounds,Sem.run_bind,Sem.run_pure,Result.andThen_ok,Option.isSome_none,Bool.false_eq_true,if_false,h1,hT.size he,ha]
 by_cases e0:m=k
 ·rw [if_pos e0,if_pos e0]
 ·rw [if_neg e0,if_neg e0]
theorem sti_arrFrom(hT:dV P T){o:Oper}{t e m sz k b off:Nat}{ei:TI}{x i:Operand}{kk:IntKind}{z:Int}(ho:o.op= .slice t x (some i) none none)(hx:Γ.ev x=some (.pointer (some ⟨b,off,none⟩)))(hi:Γ.ev i=some (.int kk z))
  (ht:T.get t=some ⟨.array m e,sz⟩) (he:T.get e=some ei) (hz:z=(k:Nat)) (hk:k≤m):Sti P β n Γ H F o (.slice (some ⟨b,if m=k then off else off+k*ei.size,none⟩) (m-k) (m-k)):=fun a w S f s hF=>by
 subst hz;unfold execOp;simp only [ho,f.ev hx,Option.map_some,Option.map_none,f.ev hi];rw [Sem.run_bind,run_arrFrom hT ht he hk];rfl
end
theorem mono_zero:(Tryz.prog.info? 45).bind (·.zero)=some (.agg #[.int .i64 0,.int .u8 0,.int .u8 0,.int .u8 0,.int .u8 0,.int .u8 0,.int .u8 0]):=by kernel_rfl
def EI (m:Mono):List Int:=[m.e0.toNat,m.e1.toNat,m.e2.toNat,m.e3.toNat,m.e4.toNat,m.e5.toNat]
def u8I:Flat Int where
 size:=1
 cells:=fun x=>[.int .u8 x]
 len:=fun _=>rfl
 one:=fun x u hu=>by simp at hu;subst hu;rfl
 pos:=by decide
theorem clamp_le(vars:Int):clampK vars≤6:=by unfold clampK;omega
theorem clamp_eq(vars:Int):(if (6:Int)<(if (0:Int)>vars then 0 else vars) then 6 else (if (0:Int)>vars then 0 else vars))=((clampK vars:Nat):Int):=by
 unfold clampK;split<;>split<;>omega
theorem vS(m:Mono)(vars:Int):((EI m).drop (clampK vars)).length=6-clampK vars:=by
 rw [List.length_drop];rfl
theorem yY{β:fZ}{H H':List bS}{F:List bR}{b:Nat}{t:TypeId}{m:Mono}{k:Nat}(hH:fC H (.obj b (.cells m.cells.toArray t)) H'):cD β H F u8I (some ⟨b,if 6=k then 1 else 1+k*1,none⟩) ((EI m).drop k):=fun w S s hF j x hx=>by
 refine⟨⟨b,_,rfl⟩,fun q u hq=>?_⟩;have hj:=(List.getElem?_eq_some_iff.1 hx).1;rw [List.length_drop] at hj;have hj:j<6-k:=hj;rw [List.getElem?_drop] at hx
 have h0:=kG (β:=β) (F:=F) (off:=0) hH w S s hF (1+k+j) (.int .u8 x) (by
  show m.cells[1+k+j]?=_;have e:m.cells= .int .i64 m.n::(EI m).map (fun z=>Value.int .u8 z):=rfl;rw [e,show 1+k+j=(k+j)+1 by omega,List.getElem?_cons_succ,List.getElem?_map,hx]
  rfl)
 have hq0:q=0:=by
  have:=(List.getElem?_eq_some_iff.1 hq).1;simp [u8I] at this;exact this
 subst hq0;cases hq;show w.cell? ⟨b,(if 6=k then 1 else 1+k*1)+j*1+0,none⟩=_;rw [if_neg (by omega)];rw [show 1+k*1+j*1+0=0+(1+k+j) by omega];exact h0
def okM (k:Nat)(m:Mono):Bool:=(m.E.drop k).all (fun e=>e==0)
theorem okM_eq(k:Nat)(m:Mono):okM k m=((EI m).drop k).all (fun e=>e==0):=by
 have e:EI m=m.E.map fun e=>((e.toNat:Nat):Int):=rfl;unfold okM;rw [e,←List.map_drop,List.all_map]
 congr 1
 funext u
 rw [Bool.eq_iff_iff];simp [←UInt8.toNat_inj]
theorem gM{α:Type}{p:α→Bool}{l:List α}{i:Nat}{x:α}(h:(l.take i).all p=true)(hx:l[i]?=some x)(k:p x=true):(l.take (i+1)).all p=true:=by
 obtain⟨hi,e⟩:=List.getElem?_eq_some_iff.1 hx;rw [List.take_succ_eq_append_getElem hi,e,List.all_append,h];simp [k]
theorem lB{α:Type}{p:α→Bool}{l:List α}{i:Nat}(h:(l.take i).all p=true)(hi:l.length≤i):l.all p=true:=by
 rwa [List.take_of_length_le hi] at h
theorem lN{α:Type}{p:α→Bool}{l:List α}{i:Nat}{x:α}(hx:l[i]?=some x)(k:p x=false):l.all p=false:=List.all_eq_false.2 ⟨x,List.mem_of_getElem? hx,by simp [k]⟩
theorem okM_end{k j:Nat}{m:Mono}(h:(((EI m).drop k).take j).all (fun e=>e==0)=true)(hj:((EI m).drop k).length≤j):okM k m=true:=by
 rw [okM_eq];exact lB h hj
theorem okM_bad{k j:Nat}{m:Mono}{e:Int}(hx:((EI m).drop k)[j]?=some e)(h:e≠0):okM k m=false:=by
 rw [okM_eq];exact lN hx (by simp [h])
theorem ei_ge{k j:Nat}{m:Mono}{e:Int}(hx:((EI m).drop k)[j]?=some e):0≤e:=by
 have:=List.mem_of_mem_drop (List.mem_of_getElem? hx);simp [EI] at this;omega
theorem le_zero{e:Int}(h:e≤0)(k:0≤e):e=0:=by omega
theorem of_bad{p:List Mono}{vars:Int}{i:Nat}{m:Mono}(hx:p[i]?=some m)(h:okM (clampK vars) m=false):Value.bool false= .bool (ofB p vars):=by
 unfold ofB;rw [show p.all (fun m=>(m.E.drop (clampK vars)).all (fun e=>e==0))=false from lN hx h];rfl
theorem of_end{p:List Mono}{vars:Int}(h:p.all (okM (clampK vars))=true):Value.bool (dA p)= .bool (ofB p vars):=by
 unfold ofB;rw [show p.all (fun m=>(m.E.drop (clampK vars)).all (fun e=>e==0))=true from h];rfl
theorem tA{l:List (List Mono)}{vars:Int}{i:Nat}{p:List Mono}(hx:l[i]?=some p)(h:(ofB p vars&&hE p)=false):Value.bool false= .bool (fN l vars):=by
 unfold fN;rw [lN hx h];rfl
theorem grow_end{l:List iO}{vars:Int}(h:(cU l).all (fun p=>ofB p vars&&hE p)=true):Value.bool (decide ((l.length:Int)≤4))= .bool (fN (cU l) vars):=by
 unfold fN;rw [h,cJ,Bool.true_and]
 congr 1
 rw [decide_eq_decide];omega
set_option maxRecDepth 100000 in
theorem of_spec(p:iO)(vars:Int):dS Tryz.prog 107 [.slice p.addr p.list.length p.cap,.int .i64 vars] [] [oM p] (fun(_:Unit)=> .bool (ofB p.list vars)) (fun _=>[]) (fun _=>[]):=by
 have hT:=cG;refine cR Tryz.func107 rfl Tryz.ntmps107 rfl ?_;intro β hM;refine bJ<|cC (gX (Has.of mT0)) fun hp=>?_;refine cB (mS.sl (.slice p.addr p.list.length p.cap) p.list) (gB (Has.of mT0)) ?_;refine bF<|sp hT ?_;refine nn<|bJ<|sr<|sp3 hT ?_;refine nn<|bQ<|cI (ι:=Nat) [(0,_),(1,_),(9,_),(10,_)] ⟨rfl,rfl,rfl,rfl,trivial⟩ (fun i=>[(11,.int .i64 (i:Nat))]) (fun _=>[]) (fun i=>[bR.pure (i≤p.list.length∧(p.list.take i).all (okM (clampK vars))=true)]) (fun i=>p.list.length-i) 0 ⟨rfl,trivial⟩ .nil ⟨Has.pure (⟨by omega,rfl⟩),trivial⟩ ?_;rintro i;refine cC (Has.of mT0) fun hinv2=>?_;refine sr<|sp hT ?_;refine nn<|bJ<|bL rfl (fun hc12=>?_) (fun hc12=>?_)
 ·have hc12:=of_decide_eq_true hc12;refine bN<|bE<|bJ<|bQ<|sr ?_
  obtain⟨x1,hx2⟩: ∃x',p.list[i]?=some x':=⟨_,List.getElem?_eq_getElem (by omega)⟩
  refine ss (bM hT (k:=i) (bC (Has.of mT1)) rfl rfl rfl rfl rfl rfl rfl (by omega)) ?_;refine ss (dB hT (cD.knows (bC (Has.of mT1)) (k:=i) (x:=x1) hx2 0) rfl rfl rfl rfl rfl) ?_;refine iA rfl rfl rfl rfl mono_zero rfl fun b3=>?_;refine sto hT .head ?_;refine nn<|sr<|sp4 hT ?_;refine bX (z':=((clampK vars:Nat):Int)) (clamp_eq vars) ?_;have hcl:=clamp_le vars;refine ss (sti_arrFrom hT (k:=clampK vars) rfl rfl rfl rfl rfl rfl (clamp_le vars)) ?_;refine sp hT ?_;refine bX (z':=(((6-clampK vars):Nat):Int)) (rfl) ?_;refine sp hT ?_;refine nn<|bQ<|cI (ι:=Nat) [(0,_),(1,_),(9,_),(10,_),(11,_),(19,_),(20,_)] ⟨rfl,rfl,rfl,rfl,rfl,rfl,rfl,trivial⟩ (fun j=>[(21,.int .i64 (j:Nat))]) (fun _=>[]) (fun j=>[bR.pure (j≤6-clampK vars∧(((EI x1).drop (clampK vars)).take j).all (fun e=>e==0)=true)]) (fun j=>6-clampK vars-j) 0 ⟨rfl,trivial⟩ .nil ⟨Has.pure (⟨by omega,rfl⟩),trivial⟩ ?_;rintro j;refine cC (Has.of mT0) fun hinv5=>?_;refine sr<|sp hT ?_;refine nn<|bJ<|bL rfl (fun hc22=>?_) (fun hc22=>?_)
  ·have hc22:=of_decide_eq_true hc22;refine bN<|bE<|bJ<|bQ<|sr ?_
   obtain⟨x4,hx5⟩: ∃x',((EI x1).drop (clampK vars))[j]?=some x':=⟨_,List.getElem?_eq_getElem (by rw [vS];omega)⟩
   refine ss (bM hT (k:=j) (yY .head) rfl rfl rfl rfl rfl (vS x1 vars).symm rfl (by rw [vS];omega)) ?_;refine ss (bV hT (cD.knows (yY .head) (k:=j) (x:=x4) hx5 0) rfl rfl rfl rfl rfl) ?_;refine sp hT ?_;refine nn<|sr<|sp2 hT ?_;refine nn<|bL rfl (fun hc26=>?_) (fun hc26=>?_)
   ·have hc26:=of_decide_eq_true hc26;refine sr<|sp hT ?_;refine nn<|bI<|bO<|bG<|bG<|bO<|bO<|bG<|bG<|bO<|bG ?_;exact bD () rfl (bH rfl) .nil trivial (of_bad hx2 (okM_bad hx5 (by omega)))
   have hc26:=Int.not_lt.1 (of_decide_eq_false hc26);refine bN<|bU<|bE<|bF<|sp hT ?_;refine bX (z':=(((j+1):Nat):Int)) (cT (by omega) (by omega)) ?_;refine sp hT ?_;refine nn ?_;exact bW (j+1) (by omega) ⟨rfl,trivial⟩ ⟨rfl,rfl,rfl,rfl,rfl,rfl,rfl,trivial⟩ (.cons .head .nil) ⟨Has.pure (⟨by omega,gM hinv5.2 hx5 (beq_iff_eq.2 (le_zero ‹_› (ei_ge hx5)))⟩),trivial⟩ (bK.drop 1)
  have hc22:=Int.not_lt.1 (of_decide_eq_false hc22);refine cL<|bZ<|bZ<|cM<|bU<|bE<|bF<|sp hT ?_;refine bX (z':=(((i+1):Nat):Int)) (cT (by omega) (by omega)) ?_;refine sp hT ?_;refine nn ?_;exact bW (i+1) (by omega) ⟨rfl,trivial⟩ ⟨rfl,rfl,rfl,rfl,trivial⟩ .nil ⟨Has.pure (⟨by omega,gM hinv2.2 hx2 (okM_end hinv5.2 (by rw [vS];omega))⟩),trivial⟩ (bK.drop 2)
 have hc12:=Int.not_lt.1 (of_decide_eq_false hc12);refine cL<|bZ<|bZ<|cM<|bE<|sr<|sp hT ?_;refine cV Tryz.func61 (polR_spec p hp) rfl rfl .nil ⟨(Has.of mT2),trivial⟩ fun _=>?_;refine sp hT ?_;refine nn<|bI ?_;exact bD () rfl (bH rfl) .nil trivial (of_end (lB hinv2.2 (by omega)))
set_option maxRecDepth 100000 in
theorem bAc(l:Sl iO)(vars:Int):dS Tryz.prog 52 [.slice l.addr l.list.length l.cap,.int .i64 vars] [] [nC l] (fun(_:Unit)=> .bool (fN (cU l.list) vars)) (fun _=>[]) (fun _=>[]):=by
 have hT:=cG;refine cR Tryz.func52 rfl Tryz.ntmps52 rfl ?_;intro β hM;refine bJ<|cC (qD (Has.of mT0)) fun hlz=>?_;have hlz2:=hlz.2;refine cB (lV.sl (.slice l.addr l.list.length l.cap) l.list) (qL (Has.of mT0)) ?_;refine bF<|sp hT ?_;refine nn<|bJ<|sr<|sp3 hT ?_;refine nn<|bQ<|cI (ι:=Nat) [(0,_),(1,_),(7,_),(8,_)] ⟨rfl,rfl,rfl,rfl,trivial⟩ (fun i=>[(9,.int .i64 (i:Nat))]) (fun _=>[]) (fun i=>[bR.pure (i≤l.list.length∧((cU l.list).take i).all (fun p=>ofB p vars&&hE p)=true)]) (fun i=>l.list.length-i) 0 ⟨rfl,trivial⟩ .nil ⟨Has.pure (⟨by omega,rfl⟩),trivial⟩ ?_;rintro i;refine cC (Has.of mT0) fun hinv2=>?_;refine sr<|sp hT ?_;refine nn<|bJ<|bL rfl (fun hc10=>?_) (fun hc10=>?_)
 ·have hc10:=of_decide_eq_true hc10;refine bN<|bE<|bJ<|bQ<|sr ?_
  obtain⟨x1,hx2⟩: ∃x',l.list[i]?=some x':=⟨_,List.getElem?_eq_getElem (by omega)⟩
  refine ss (bM hT (k:=i) (bC (Has.of mT1)) rfl rfl rfl rfl rfl rfl rfl (by omega)) ?_;refine ss (bV hT (cD.knows (bC (Has.of mT1)) (k:=i) (x:=x1) hx2 0) rfl rfl rfl rfl rfl) ?_;refine sp hT ?_;refine nn<|bJ<|cB (oM x1) (Has.each (qE (Has.of mT2)) (List.mem_of_getElem? hx2)) ?_;refine cC (gX (Has.of mT0)) fun hpx1=>?_;refine bF<|sp2 hT ?_;refine cV Tryz.func107 (of_spec x1 vars) rfl rfl .nil ⟨(Has.of mT0),trivial⟩ fun _=>?_;refine sp2 hT ?_;refine bP (fun hg17=>?_) (fun hg17=>?_)
  ·have hg17:=fX hg17;refine sk3 ?_;refine sp hT ?_;refine nn<|cF rfl rfl ?_;refine sr<|sp hT ?_;refine nn<|bI<|bO<|bG<|bG<|bO<|bG ?_;exact bD () rfl (bH rfl) .nil trivial (tA (fD hx2) (by simp_all))
  have hg17:=fY hg17;refine sp hT ?_;refine cV Tryz.func108 (wB x1 hpx1) rfl rfl .nil ⟨(Has.of mT0),trivial⟩ fun _=>?_;refine sp2 hT ?_;refine nn<|bL rfl (fun hc21=>?_) (fun hc21=>?_)
  ·have hc21:=fX hc21;refine sr<|sp hT ?_;refine nn<|bI<|bO<|bG<|bG<|bO<|bG ?_;exact bD () rfl (bH rfl) .nil trivial (tA (fD hx2) (by simp_all))
  have hc21:=fY hc21;refine bN<|bU<|bE<|bF<|sp hT ?_;refine bX (z':=(((i+1):Nat):Int)) (cT (by omega) (by omega)) ?_;refine sp hT ?_;refine nn ?_;exact bW (i+1) (by omega) ⟨rfl,trivial⟩ ⟨rfl,rfl,rfl,rfl,trivial⟩ .nil ⟨Has.pure (⟨by omega,gM hinv2.2 (fD hx2) (by simp_all)⟩),trivial⟩ (bK.drop 2)
 have hc10:=Int.not_lt.1 (of_decide_eq_false hc10);refine cL<|bZ<|bZ<|cM<|bE<|sr<|sp4 hT ?_;refine nn<|bI ?_;exact bD () rfl (bH rfl) .nil trivial (grow_end (lB hinv2.2 (by rw [cJ];omega)))
theorem fR{β:fZ}{H:List bS}{F:List bR}{b off:Nat}{cs:List Value}(h:Has F (bR.cells b 0 cs)):iN β H F b off (cs.drop off):=fun w S _ k j u hj=>by
 rw [List.getElem?_drop] at hj;have:=(h S w k).2 (off+j) u hj
 rwa [Nat.zero_add] at this
def opV (vars loops buf:Int)(made:List Bool)(o:OpV):Bool:=
 if o.how=1 then (o.k==0)&&(((o.p.list.length:Int)==0)&&(o.fn==0))
 else if o.how=2 then ofB o.p.list vars&&((o.n==0)&&((o.k==0)&&(o.fn==0)))
 else if o.how=3 then decide (0≤o.k)&&(decide (o.k<loops)&&((o.n==0)&&(((o.p.list.length:Int)==0)&&(o.fn==0))))
 else if o.how=4 then decide (0≤o.k)&&(decide (o.k<(made.length:Int))&&((made[o.k.toNat]?).getD false&&((o.k !=buf)&&((o.n==0)&&(((o.p.list.length:Int)==0)&&(o.fn==0))))))
 else if o.how=5∨o.how=6 then dX o.fn (o.how==6)&&((o.n==0)&&((o.k==0)&&((o.p.list.length:Int)==0)))
 else false
theorem qA{vars loops buf:Int}{made:List Bool}{o:OpV}:opV vars loops buf made o=opB vars loops buf made o.c:=by
 have hp:o.c.p.isEmpty=((o.p.list.length:Int)==0):=by
  show o.p.list.isEmpty=_;rw [Bool.eq_iff_iff,List.isEmpty_iff,beq_iff_eq,Int.natCast_eq_zero,List.length_eq_zero_iff]
 unfold opV opB;rw [hp];show(if o.how=1 then _ else if o.how=2 then _ else if o.how=3 then _ else if o.how=4 then _ else if _ then _ else _)=(if o.how=1 then _ else if o.how=2 then _ else if o.how=3 then _ else if o.how=4 then _ else if _ then _ else _);split
 ·rfl
 ·split
  ·rfl
  ·split
   ·rw [Bool.eq_iff_iff];simp only [Bool.and_eq_true,decide_eq_true_eq];exact and_assoc.symm
   ·split
    ·rw [Bool.eq_iff_iff];simp only [Bool.and_eq_true,decide_eq_true_eq,List.getD_eq_getElem?_getD,bne_iff_ne];show 0≤o.k∧o.k<made.length∧(made[o.k.toNat]?).getD false=true∧o.k≠buf∧_↔(0≤o.k∧o.k≠buf)∧(made[o.k.toNat]?).getD false=true∧_;constructor
     ·rintro⟨a,_,c,d,e⟩;exact⟨⟨a,d⟩,c,e⟩
     ·rintro⟨⟨a,d⟩,c,e⟩;refine⟨a,?_,c,d,e⟩
      rcases Int.lt_or_le o.k made.length with h | h
      ·exact h
      ·rw [List.getElem?_eq_none (by omega)] at c;cases c
    ·rfl
section
variable {vars loops buf : Int} {made : List Bool} {o : OpV}
theorem dJ(h:o.how=1):opB vars loops buf made o.c=((o.k==0)&&(((o.p.list.length:Int)==0)&&(o.fn==0))):=by
 rw [←qA];unfold opV;rw [if_pos h]
theorem dC(h:o.how=2):opB vars loops buf made o.c=(ofB o.p.list vars&&((o.n==0)&&((o.k==0)&&(o.fn==0)))):=by
 rw [←qA];unfold opV;rw [if_neg (by omega),if_pos h]
theorem dH(h:o.how=3):opB vars loops buf made o.c=(decide (0≤o.k)&&(decide (o.k<loops)&&((o.n==0)&&(((o.p.list.length:Int)==0)&&(o.fn==0))))):=by
 rw [←qA];unfold opV;rw [if_neg (by omega),if_neg (by omega),if_pos h]
theorem dF{x:Bool}(h:o.how=4)(hx:made[o.k.toNat]?=some x):opB vars loops buf made o.c=(decide (0≤o.k)&&(decide (o.k<(made.length:Int))&&(x&&((o.k !=buf)&&((o.n==0)&&(((o.p.list.length:Int)==0)&&(o.fn==0))))))):=by
 rw [←qA];unfold opV;rw [if_neg (by omega),if_neg (by omega),if_neg (by omega),if_pos h,hx];rfl
theorem cK(h:o.how=4)(hx: ¬(0≤o.k∧o.k<made.length)):opB vars loops buf made o.c=false:=by
 rw [←qA];unfold opV;rw [if_neg (by omega),if_neg (by omega),if_neg (by omega),if_pos h]
 by_cases h0:0≤o.k
 ·rw [decide_eq_false (show ¬o.k<(made.length:Int) from fun e=>hx ⟨h0,e⟩)];simp
 ·rw [decide_eq_false h0];rfl
theorem dD(h:o.how=5):opB vars loops buf made o.c=(dX o.fn false&&((o.n==0)&&((o.k==0)&&((o.p.list.length:Int)==0)))):=by
 rw [←qA];unfold opV;rw [if_neg (by omega),if_neg (by omega),if_neg (by omega),if_neg (by omega),if_pos (.inl h),h];rfl
theorem dG(h:o.how=6):opB vars loops buf made o.c=(dX o.fn true&&((o.n==0)&&((o.k==0)&&((o.p.list.length:Int)==0)))):=by
 rw [←qA];unfold opV;rw [if_neg (by omega),if_neg (by omega),if_neg (by omega),if_neg (by omega),if_pos (.inr h),h];rfl
theorem dI(h1:o.how≠1)(h2:o.how≠2)(h3:o.how≠3)(h4:o.how≠4)(h5:o.how≠5)(h6:o.how≠6):opB vars loops buf made o.c=false:=by
 rw [←qA];unfold opV;rw [if_neg h1,if_neg h2,if_neg h3,if_neg h4,if_neg (fun h=>h.elim h5 h6)]
end
def tN {α:Type}(p:α→Bool):List α→Int→Int
 | [],_=> -1
 | s::r,i=>if p s=true then i else tN p r (i+1)
section
variable {α : Type} {p : α → Bool} {x : α} {l : List α} {i : Nat} {r : Int}
theorem qI(h:r=tN p (l.drop i) i)(hx:l[i]?=some x):(p x=true→r=i)∧(p x=false→r=tN p (l.drop (i+1)) ((i+1:Nat):Int)):=by
 rw [gR hx,tN] at h;refine⟨fun e=>by rw [if_pos e] at h;exact h,fun e=>by rw [if_neg (by rw [e];simp)] at h;rw [h];rfl⟩
theorem idxG_end(h:r=tN p (l.drop i) i)(hi:l.length≤i):r= -1:=by
 rw [List.drop_of_length_le hi] at h;exact h
end
theorem wP{α:Type}(p:α→Bool): ∀(l:List α) (i:Int),0≤i→decide (0≤tN p l i)=l.any p
 | [],i,_=>rfl
 | s::r,i,h=>by
  rw [tN,List.any_cons]
  cases e:p s with
  | true=>simp [h]
  | false=>
   rw [if_neg (by simp),wP p r (i+1) (by omega)];simp
def lK (vars:Int)(made:List Bool)(x:dR):Bool:=
 ofB x.at_.list vars&&(hE x.at_.list&&(fN (cU x.loops.list) vars&&(!decide ((256:Int)<x.ops.list.length)&&(!decide (lF (lU x.ops.list)<0)&&
  ((if x.how=1 then x.fn==0 else if x.how=2∨x.how=3 then !((x.loops.list.length:Int)==0)&&dX x.fn true else false)&& !(x.ops.list.any fun o=>!opB vars x.loops.list.length x.buf made o.c))))))
theorem any_not{α:Type}(p:α→Bool)(l:List α):(!l.any fun o=>!p o)=l.all p:=by
 induction l with
 | nil=>rfl
 | cons x r ih=>rw [List.any_cons,List.all_cons,Bool.not_or,Bool.not_not,ih]
theorem gC{vars:Int}{made:List Bool}{x:dR}:lK vars made x=iY vars made x.c:=by
 have h1:x.c.ops.length=x.ops.list.length:=pS _;have h2:x.c.loops.length=x.loops.list.length:=cJ _
 have h3:x.c.loops.isEmpty=((x.loops.list.length:Int)==0):=by
  show(cU x.loops.list).isEmpty=_;rw [Bool.eq_iff_iff,List.isEmpty_iff,beq_iff_eq,Int.natCast_eq_zero,←List.length_eq_zero_iff,cJ]
 have h4: ∀p:OpC→Bool,x.c.ops.all p= !(x.ops.list.any fun o=>!p o.c):=fun p=>by
  show(lU x.ops.list).all p=_;unfold lU;rw [List.all_map,any_not];rfl
 unfold lK iY;rw [h1,h2,h3,h4]
 have h5:(!decide ((256:Int)<x.ops.list.length))=decide (x.ops.list.length≤256):=by
  rw [←decide_not,decide_eq_decide];omega
 have h6:(!decide (lF (lU x.ops.list)<0))=decide (0≤lF (lU x.ops.list)):=by
  rw [←decide_not,decide_eq_decide];omega
 rw [h5,h6,Bool.and_assoc];rfl
set_option maxRecDepth 100000 in
theorem right_spec(bs:Nat)(vars loops buf:Int)(MA:Option Addr)(mc:Nat)(made:List Bool)(o:OpV):dS Tryz.prog 113 [.pointer (some ⟨bs,0,none⟩),.agg #[.int .i64 o.how,.int .i64 o.k,.int .i64 o.n,.slice o.p.addr o.p.list.length o.p.cap,.int .u8 o.fn]] [] [opF o,bR.cells bs 0 [.int .i64 vars,.int .i64 loops,.int .i64 buf,.slice MA made.length mc],fJ.sl (.slice MA made.length mc) made] (fun(_:Unit)=> .bool (opB vars loops buf made o.c)) (fun _=>[]) (fun _=>[]):=by
 have hT:=cG;refine cR Tryz.func113 rfl Tryz.ntmps113 rfl ?_;intro β hM;refine sr<|fS rfl rfl rfl rfl rfl rfl fun b1=>?_;refine sp hT ?_;refine nn<|bJ<|gF _ _ [(true,0),(true,1),(true,2),(true,3),(true,4),(true,5),(true,6),(true,7),(true,8),(true,9),(true,10),(true,11)] gI (by decide+kernel) (.cons .head .nil) bK.self ?_;refine puM hT ?_;refine stM rfl (ldO hT (iW .head)) ?_;refine puM hT ?_;refine stM rfl (ldO hT (cY .head)) ?_;refine puM hT ?_;refine stM rfl (ldO hT (iE .head)) ?_;refine puM hT ?_;refine stM rfl (ldO hT (sU .head)) ?_;refine puM hT ?_;refine puM hT ?_;refine puM hT ?_;refine puM hT ?_;refine cZ<|bE<|sr<|sp hT ?_;refine nn<|bJ<|sr<|sp hT ?_;refine ss (ldO hT (dU .head)) ?_;refine nn<|bQ<|sr<|sp2 hT ?_;refine nn<|bL rfl (fun hc20=>?_) (fun hc20=>?_)
 ·have hc20_r:=hc20;have hc20:=eq_of_beq hc20;refine bF<|sp2 hT ?_;refine gS<|bU<|bE<|sr<|sp4 hT ?_;refine fG (t':=true) (by decide) ?_;refine sp4 hT ?_;refine sp2 hT ?_;refine bP (fun hg97=>?_) (fun hg97=>?_)
  ·have hg97:=eq_of_beq hg97;refine sp4 hT ?_;refine sp hT ?_;refine bP (fun hg102=>?_) (fun hg102=>?_)
   ·have hg102:=eq_of_beq hg102;refine sp4 hT ?_;refine nn<|bI ?_;exact bD () rfl (bH rfl) .nil trivial (by first | (rw [dJ ‹_›];simp [*];done) | (rw [dC ‹_›];simp [*];done) | (rw [dH ‹_›];simp [*];done) | (rw [dF ‹_› ‹_›];simp [*];done) | (rw [cK ‹_› (by omega)];done) | (rw [dD ‹_›];simp [*];done) | (rw [dG ‹_›];simp [*];done) | rw [dI ‹_› ‹_› ‹_› ‹_› ‹_› ‹_›])
   have hg102:=beq_eq_false_iff_ne.1 hg102;refine sk2 ?_;refine sp2 hT ?_;refine nn<|bI ?_;exact bD () rfl (bH rfl) .nil trivial (by first | (rw [dJ ‹_›];simp [*];done) | (rw [dC ‹_›];simp [*];done) | (rw [dH ‹_›];simp [*];done) | (rw [dF ‹_› ‹_›];simp [*];done) | (rw [cK ‹_› (by omega)];done) | (rw [dD ‹_›];simp [*];done) | (rw [dG ‹_›];simp [*];done) | rw [dI ‹_› ‹_› ‹_› ‹_› ‹_› ‹_›])
  have hg97:=beq_eq_false_iff_ne.1 hg97;refine sk3 ?_;refine sp2 hT ?_;refine sk2 ?_;refine sp2 hT ?_;refine nn<|bI ?_;exact bD () rfl (bH rfl) .nil trivial (by first | (rw [dJ ‹_›];simp [*];done) | (rw [dC ‹_›];simp [*];done) | (rw [dH ‹_›];simp [*];done) | (rw [dF ‹_› ‹_›];simp [*];done) | (rw [cK ‹_› (by omega)];done) | (rw [dD ‹_›];simp [*];done) | (rw [dG ‹_›];simp [*];done) | rw [dI ‹_› ‹_› ‹_› ‹_› ‹_› ‹_›])
 have hc20_r:=hc20;have hc20:=beq_eq_false_iff_ne.1 hc20;refine sr<|sp2 hT ?_;refine nn<|bL rfl (fun hc22=>?_) (fun hc22=>?_)
 ·have hc22_r:=hc22;have hc22:=eq_of_beq hc22;refine gF _ _ [(true,0),(true,1),(true,2),(true,3),(true,4),(true,5),(false,6),(true,7),(true,8)] gI (by decide+kernel) (.cons .head .nil) bK.self ?_;refine puM hT ?_;refine stM rfl (ldO hT (iE .head)) ?_;refine puM hT ?_;refine puM hT ?_;refine puM hT ?_;refine stM rfl (bV hT (fR (off:=0) (Has.of mT1)) rfl rfl rfl rfl rfl) ?_;refine fI (o:=_) rfl ?_;refine cV Tryz.func107 (of_spec o.p vars) rfl rfl .nil ⟨(Has.of mT0),trivial⟩ fun _=>?_;refine fH (.cons .head .nil) (bK.drop 0) ?_;refine puM hT ?_;refine puM hT ?_;refine cZ<|bU<|bE<|sr<|sp2 hT ?_;refine bP (fun hg89=>?_) (fun hg89=>?_)
  ·refine sp4 hT ?_;refine bP (fun hg93=>?_) (fun hg93=>?_)
   ·have hg93:=eq_of_beq hg93;refine sp4 hT ?_;refine bP (fun hg97=>?_) (fun hg97=>?_)
    ·have hg97:=eq_of_beq hg97;refine sp3 hT ?_;refine fG (t':=true) (by decide) ?_;refine sp4 hT ?_;refine sp2 hT ?_;refine nn<|bI ?_;exact bD () rfl (bH rfl) .nil trivial (by first | (rw [dJ ‹_›];simp [*];done) | (rw [dC ‹_›];simp [*];done) | (rw [dH ‹_›];simp [*];done) | (rw [dF ‹_› ‹_›];simp [*];done) | (rw [cK ‹_› (by omega)];done) | (rw [dD ‹_›];simp [*];done) | (rw [dG ‹_›];simp [*];done) | rw [dI ‹_› ‹_› ‹_› ‹_› ‹_› ‹_›])
    have hg97:=beq_eq_false_iff_ne.1 hg97;refine sk3 ?_;refine sp2 hT ?_;refine sk2 ?_;refine sp2 hT ?_;refine nn<|bI ?_;exact bD () rfl (bH rfl) .nil trivial (by first | (rw [dJ ‹_›];simp [*];done) | (rw [dC ‹_›];simp [*];done) | (rw [dH ‹_›];simp [*];done) | (rw [dF ‹_› ‹_›];simp [*];done) | (rw [cK ‹_› (by omega)];done) | (rw [dD ‹_›];simp [*];done) | (rw [dG ‹_›];simp [*];done) | rw [dI ‹_› ‹_› ‹_› ‹_› ‹_› ‹_›])
   have hg93:=beq_eq_false_iff_ne.1 hg93;refine sk2 ?_;refine sp2 hT ?_;refine sk3 ?_;refine sp2 hT ?_;refine sk2 ?_;refine sp2 hT ?_;refine nn<|bI ?_;exact bD () rfl (bH rfl) .nil trivial (by first | (rw [dJ ‹_›];simp [*];done) | (rw [dC ‹_›];simp [*];done) | (rw [dH ‹_›];simp [*];done) | (rw [dF ‹_› ‹_›];simp [*];done) | (rw [cK ‹_› (by omega)];done) | (rw [dD ‹_›];simp [*];done) | (rw [dG ‹_›];simp [*];done) | rw [dI ‹_› ‹_› ‹_› ‹_› ‹_› ‹_›])
  refine sk2 ?_;refine sp2 hT ?_;refine sk2 ?_;refine sp2 hT ?_;refine sk3 ?_;refine sp2 hT ?_;refine sk2 ?_;refine sp2 hT ?_;refine nn<|bI ?_;exact bD () rfl (bH rfl) .nil trivial (by first | (rw [dJ ‹_›];simp [*];done) | (rw [dC ‹_›];simp [*];done) | (rw [dH ‹_›];simp [*];done) | (rw [dF ‹_› ‹_›];simp [*];done) | (rw [cK ‹_› (by omega)];done) | (rw [dD ‹_›];simp [*];done) | (rw [dG ‹_›];simp [*];done) | rw [dI ‹_› ‹_› ‹_› ‹_› ‹_› ‹_›])
 have hc22_r:=hc22;have hc22:=beq_eq_false_iff_ne.1 hc22;refine sr<|sp2 hT ?_;refine nn<|bL rfl (fun hc31=>?_) (fun hc31=>?_)
 ·have hc31_r:=hc31;have hc31:=eq_of_beq hc31;refine gF _ _ [(true,0),(true,1),(true,2),(true,3),(true,4),(true,5),(true,6),(true,7),(true,8),(true,9),(true,10),(true,11),(true,12),(true,13)] gI (by decide+kernel) (.cons .head .nil) bK.self ?_;refine puM hT ?_;refine stM rfl (ldO hT (cY .head)) ?_;refine puM hT ?_;refine puM hT ?_;refine bP (fun hg36=>?_) (fun hg36=>?_)
  ·have hg36:=of_decide_eq_true hg36;refine puM hT ?_;refine stM rfl (ldO hT (cY .head)) ?_;refine puM hT ?_;refine puM hT ?_;refine puM hT ?_;refine stM rfl (bV hT (fR (off:=1) (Has.of mT1)) rfl rfl rfl rfl rfl) ?_;refine puM hT ?_;refine puM hT ?_;refine puM hT ?_;refine puM hT ?_;refine cZ<|bU<|bE<|sr<|sp2 hT ?_;refine bP (fun hg89=>?_) (fun hg89=>?_)
   ·have hg89:=of_decide_eq_true hg89;refine sp4 hT ?_;refine bP (fun hg93=>?_) (fun hg93=>?_)
    ·have hg93:=eq_of_beq hg93;refine sp2 hT ?_;refine fG (t':=true) (by decide) ?_;refine sp4 hT ?_;refine sp3 hT ?_;refine bP (fun hg102=>?_) (fun hg102=>?_)
     ·have hg102:=eq_of_beq hg102;refine sp4 hT ?_;refine nn<|bI ?_;exact bD () rfl (bH rfl) .nil trivial (by first | (rw [dJ ‹_›];simp [*];done) | (rw [dC ‹_›];simp [*];done) | (rw [dH ‹_›];simp [*];done) | (rw [dF ‹_› ‹_›];simp [*];done) | (rw [cK ‹_› (by omega)];done) | (rw [dD ‹_›];simp [*];done) | (rw [dG ‹_›];simp [*];done) | rw [dI ‹_› ‹_› ‹_› ‹_› ‹_› ‹_›])
     have hg102:=beq_eq_false_iff_ne.1 hg102;refine sk2 ?_;refine sp2 hT ?_;refine nn<|bI ?_;exact bD () rfl (bH rfl) .nil trivial (by first | (rw [dJ ‹_›];simp [*];done) | (rw [dC ‹_›];simp [*];done) | (rw [dH ‹_›];simp [*];done) | (rw [dF ‹_› ‹_›];simp [*];done) | (rw [cK ‹_› (by omega)];done) | (rw [dD ‹_›];simp [*];done) | (rw [dG ‹_›];simp [*];done) | rw [dI ‹_› ‹_› ‹_› ‹_› ‹_› ‹_›])
    have hg93:=beq_eq_false_iff_ne.1 hg93;refine sk2 ?_;refine sp2 hT ?_;refine sk3 ?_;refine sp2 hT ?_;refine sk2 ?_;refine sp2 hT ?_;refine nn<|bI ?_;exact bD () rfl (bH rfl) .nil trivial (by first | (rw [dJ ‹_›];simp [*];done) | (rw [dC ‹_›];simp [*];done) | (rw [dH ‹_›];simp [*];done) | (rw [dF ‹_› ‹_›];simp [*];done) | (rw [cK ‹_› (by omega)];done) | (rw [dD ‹_›];simp [*];done) | (rw [dG ‹_›];simp [*];done) | rw [dI ‹_› ‹_› ‹_› ‹_› ‹_› ‹_›])
   have hg89:=Int.not_lt.1 (of_decide_eq_false hg89);refine sk2 ?_;refine sp2 hT ?_;refine sk2 ?_;refine sp2 hT ?_;refine sk3 ?_;refine sp2 hT ?_;refine sk2 ?_;refine sp2 hT ?_;refine nn<|bI ?_;exact bD () rfl (bH rfl) .nil trivial (by first | (rw [dJ ‹_›];simp [*];done) | (rw [dC ‹_›];simp [*];done) | (rw [dH ‹_›];simp [*];done) | (rw [dF ‹_› ‹_›];simp [*];done) | (rw [cK ‹_› (by omega)];done) | (rw [dD ‹_›];simp [*];done) | (rw [dG ‹_›];simp [*];done) | rw [dI ‹_› ‹_› ‹_› ‹_› ‹_› ‹_›])
  have hg36:=Int.not_le.1 (of_decide_eq_false hg36);refine bB rfl rfl rfl rfl ?_;refine bB rfl rfl rfl rfl ?_;refine bB rfl rfl rfl rfl ?_;refine bB rfl rfl rfl rfl ?_;refine bB rfl rfl rfl rfl ?_;refine bB rfl rfl rfl rfl ?_;refine bB rfl rfl rfl rfl ?_;refine puM hT ?_;refine puM hT ?_;refine puM hT ?_;refine cZ<|bU<|bE<|sr<|sp2 hT ?_;refine sk2 ?_;refine sp2 hT ?_;refine sk2 ?_;refine sp2 hT ?_;refine sk3 ?_;refine sp2 hT ?_;refine sk2 ?_;refine sp2 hT ?_;refine nn<|bI ?_;exact bD () rfl (bH rfl) .nil trivial (by first | (rw [dJ ‹_›];simp [*];done) | (rw [dC ‹_›];simp [*];done) | (rw [dH ‹_›];simp [*];done) | (rw [dF ‹_› ‹_›];simp [*];done) | (rw [cK ‹_› (by omega)];done) | (rw [dD ‹_›];simp [*];done) | (rw [dG ‹_›];simp [*];done) | rw [dI ‹_› ‹_› ‹_› ‹_› ‹_› ‹_›])
 have hc31_r:=hc31;have hc31:=beq_eq_false_iff_ne.1 hc31;refine sr<|sp2 hT ?_;refine nn<|bL rfl (fun hc45=>?_) (fun hc45=>?_)
 ·have hc45_r:=hc45;have hc45:=eq_of_beq hc45;refine gF _ _ [(true,0),(true,1),(true,2),(true,3),(true,4),(true,5),(true,6),(true,7),(true,8),(true,9),(true,10),(true,11),(true,12),(true,13),(true,14),(true,15),(true,16),(true,17),(true,18),(true,19),(true,20),(true,21),(true,22),(true,23),(true,24),(true,25),(true,26),(true,27),(true,28),(true,29),(true,30),(true,31),(true,32),(true,33)] gI (by decide+kernel) (.cons .head .nil) bK.self ?_;refine puM hT ?_;refine stM rfl (ldO hT (cY .head)) ?_;refine puM hT ?_;refine puM hT ?_;refine bP (fun hg50=>?_) (fun hg50=>?_)
  ·have hg50:=of_decide_eq_true hg50;refine puM hT ?_;refine stM rfl (ldO hT (cY .head)) ?_;refine puM hT ?_;refine puM hT ?_;refine puM hT ?_;refine stM rfl (bV hT (fR (off:=3) (Has.of mT1)) rfl rfl rfl rfl rfl) ?_;refine puM hT ?_;refine puM hT ?_;refine puM hT ?_;refine puM hT ?_;refine bP (fun hg60=>?_) (fun hg60=>?_)
   ·have hg60:=of_decide_eq_true hg60;refine puM hT ?_;refine puM hT ?_;refine puM hT ?_;refine stM rfl (bV hT (fR (off:=3) (Has.of mT1)) rfl rfl rfl rfl rfl) ?_;refine puM hT ?_;refine stM rfl (ldO hT (cY .head)) ?_
    obtain⟨x3,hx4⟩: ∃x',made[o.k.toNat]?=some x':=⟨_,List.getElem?_eq_getElem (by omega)⟩
    refine stM rfl (bM hT (k:=o.k.toNat) (bC (Has.of mT2)) rfl rfl rfl rfl rfl rfl (by omega) (by omega)) ?_;refine stM rfl (bV hT (cD.knows (bC (Has.of mT2)) (k:=o.k.toNat) (x:=x3) hx4 0) rfl rfl rfl rfl rfl) ?_;refine puM hT ?_;refine puM hT ?_;refine bP (fun hg70=>?_) (fun hg70=>?_)
    ·refine puM hT ?_;refine stM rfl (ldO hT (cY .head)) ?_;refine puM hT ?_;refine puM hT ?_;refine puM hT ?_;refine stM rfl (bV hT (fR (off:=2) (Has.of mT1)) rfl rfl rfl rfl rfl) ?_;refine puM hT ?_;refine puM hT ?_;refine puM hT ?_;refine puM hT ?_;refine cZ<|bU<|bE<|sr<|sp2 hT ?_;refine bP (fun hg89=>?_) (fun hg89=>?_)
     ·have hg89:=bne_iff_ne.1 hg89;refine sp4 hT ?_;refine bP (fun hg93=>?_) (fun hg93=>?_)
      ·have hg93:=eq_of_beq hg93;refine sp2 hT ?_;refine fG (t':=true) (by decide) ?_;refine sp4 hT ?_;refine sp3 hT ?_;refine bP (fun hg102=>?_) (fun hg102=>?_)
       ·have hg102:=eq_of_beq hg102;refine sp4 hT ?_;refine nn<|bI ?_;exact bD () rfl (bH rfl) .nil trivial (by first | (rw [dJ ‹_›];simp [*];done) | (rw [dC ‹_›];simp [*];done) | (rw [dH ‹_›];simp [*];done) | (rw [dF ‹_› ‹_›];simp [*];done) | (rw [cK ‹_› (by omega)];done) | (rw [dD ‹_›];simp [*];done) | (rw [dG ‹_›];simp [*];done) | rw [dI ‹_› ‹_› ‹_› ‹_› ‹_› ‹_›])
       have hg102:=beq_eq_false_iff_ne.1 hg102;refine sk2 ?_;refine sp2 hT ?_;refine nn<|bI ?_;exact bD () rfl (bH rfl) .nil trivial (by first | (rw [dJ ‹_›];simp [*];done) | (rw [dC ‹_›];simp [*];done) | (rw [dH ‹_›];simp [*];done) | (rw [dF ‹_› ‹_›];simp [*];done) | (rw [cK ‹_› (by omega)];done) | (rw [dD ‹_›];simp [*];done) | (rw [dG ‹_›];simp [*];done) | rw [dI ‹_› ‹_› ‹_› ‹_› ‹_› ‹_›])
      have hg93:=beq_eq_false_iff_ne.1 hg93;refine sk2 ?_;refine sp2 hT ?_;refine sk3 ?_;refine sp2 hT ?_;refine sk2 ?_;refine sp2 hT ?_;refine nn<|bI ?_;exact bD () rfl (bH rfl) .nil trivial (by first | (rw [dJ ‹_›];simp [*];done) | (rw [dC ‹_›];simp [*];done) | (rw [dH ‹_›];simp [*];done) | (rw [dF ‹_› ‹_›];simp [*];done) | (rw [cK ‹_› (by omega)];done) | (rw [dD ‹_›];simp [*];done) | (rw [dG ‹_›];simp [*];done) | rw [dI ‹_› ‹_› ‹_› ‹_› ‹_› ‹_›])
     have hg89:=bne_eq_false_iff_eq.1 hg89;refine sk2 ?_;refine sp2 hT ?_;refine sk2 ?_;refine sp2 hT ?_;refine sk3 ?_;refine sp2 hT ?_;refine sk2 ?_;refine sp2 hT ?_;refine nn<|bI ?_;exact bD () rfl (bH rfl) .nil trivial (by first | (rw [dJ ‹_›];simp [*];done) | (rw [dC ‹_›];simp [*];done) | (rw [dH ‹_›];simp [*];done) | (rw [dF ‹_› ‹_›];simp [*];done) | (rw [cK ‹_› (by omega)];done) | (rw [dD ‹_›];simp [*];done) | (rw [dG ‹_›];simp [*];done) | rw [dI ‹_› ‹_› ‹_› ‹_› ‹_› ‹_›])
    refine bB rfl rfl rfl rfl ?_;refine bB rfl rfl rfl rfl ?_;refine bB rfl rfl rfl rfl ?_;refine bB rfl rfl rfl rfl ?_;refine bB rfl rfl rfl rfl ?_;refine bB rfl rfl rfl rfl ?_;refine bB rfl rfl rfl rfl ?_;refine puM hT ?_;refine puM hT ?_;refine puM hT ?_;refine cZ<|bU<|bE<|sr<|sp2 hT ?_;refine sk2 ?_;refine sp2 hT ?_;refine sk2 ?_;refine sp2 hT ?_;refine sk3 ?_;refine sp2 hT ?_;refine sk2 ?_;refine sp2 hT ?_;refine nn<|bI ?_;exact bD () rfl (bH rfl) .nil trivial (by first | (rw [dJ ‹_›];simp [*];done) | (rw [dC ‹_›];simp [*];done) | (rw [dH ‹_›];simp [*];done) | (rw [dF ‹_› ‹_›];simp [*];done) | (rw [cK ‹_› (by omega)];done) | (rw [dD ‹_›];simp [*];done) | (rw [dG ‹_›];simp [*];done) | rw [dI ‹_› ‹_› ‹_› ‹_› ‹_› ‹_›])
   have hg60:=Int.not_lt.1 (of_decide_eq_false hg60);refine bB rfl rfl rfl rfl ?_;refine bB rfl rfl rfl rfl ?_;refine bB rfl rfl rfl rfl ?_;refine bB rfl rfl rfl rfl ?_;refine bB rfl rfl rfl rfl ?_;refine bB rfl rfl rfl rfl ?_;refine bB rfl rfl rfl rfl ?_;refine bB rfl rfl rfl rfl ?_;refine puM hT ?_;refine puM hT ?_;refine bB rfl rfl rfl rfl ?_;refine bB rfl rfl rfl rfl ?_;refine bB rfl rfl rfl rfl ?_;refine bB rfl rfl rfl rfl ?_;refine bB rfl rfl rfl rfl ?_;refine bB rfl rfl rfl rfl ?_;refine bB rfl rfl rfl rfl ?_;refine puM hT ?_;refine puM hT ?_;refine puM hT ?_;refine cZ<|bU<|bE<|sr<|sp2 hT ?_;refine sk2 ?_;refine sp2 hT ?_;refine sk2 ?_;refine sp2 hT ?_;refine sk3 ?_;refine sp2 hT ?_;refine sk2 ?_;refine sp2 hT ?_;refine nn<|bI ?_;exact bD () rfl (bH rfl) .nil trivial (by first | (rw [dJ ‹_›];simp [*];done) | (rw [dC ‹_›];simp [*];done) | (rw [dH ‹_›];simp [*];done) | (rw [dF ‹_› ‹_›];simp [*];done) | (rw [cK ‹_› (by omega)];done) | (rw [dD ‹_›];simp [*];done) | (rw [dG ‹_›];simp [*];done) | rw [dI ‹_› ‹_› ‹_› ‹_› ‹_› ‹_›])
  have hg50:=Int.not_le.1 (of_decide_eq_false hg50);refine bB rfl rfl rfl rfl ?_;refine bB rfl rfl rfl rfl ?_;refine bB rfl rfl rfl rfl ?_;refine bB rfl rfl rfl rfl ?_;refine bB rfl rfl rfl rfl ?_;refine bB rfl rfl rfl rfl ?_;refine bB rfl rfl rfl rfl ?_;refine bB rfl rfl rfl rfl ?_;refine puM hT ?_;refine puM hT ?_;refine bB rfl rfl rfl rfl ?_;refine bB rfl rfl rfl rfl ?_;refine bB rfl rfl rfl rfl ?_;refine bB rfl rfl rfl rfl ?_;refine bB rfl rfl rfl rfl ?_;refine bB rfl rfl rfl rfl ?_;refine bB rfl rfl rfl rfl ?_;refine bB rfl rfl rfl rfl ?_;refine puM hT ?_;refine puM hT ?_;refine bB rfl rfl rfl rfl ?_;refine bB rfl rfl rfl rfl ?_;refine bB rfl rfl rfl rfl ?_;refine bB rfl rfl rfl rfl ?_;refine bB rfl rfl rfl rfl ?_;refine bB rfl rfl rfl rfl ?_;refine bB rfl rfl rfl rfl ?_;refine puM hT ?_;refine puM hT ?_;refine puM hT ?_;refine cZ<|bU<|bE<|sr<|sp2 hT ?_;refine sk2 ?_;refine sp2 hT ?_;refine sk2 ?_;refine sp2 hT ?_;refine sk3 ?_;refine sp2 hT ?_;refine sk2 ?_;refine sp2 hT ?_;refine nn<|bI ?_;exact bD () rfl (bH rfl) .nil trivial (by first | (rw [dJ ‹_›];simp [*];done) | (rw [dC ‹_›];simp [*];done) | (rw [dH ‹_›];simp [*];done) | (rw [dF ‹_› ‹_›];simp [*];done) | (rw [cK ‹_› (by omega)];done) | (rw [dD ‹_›];simp [*];done) | (rw [dG ‹_›];simp [*];done) | rw [dI ‹_› ‹_› ‹_› ‹_› ‹_› ‹_›])
 have hc45_r:=hc45;have hc45:=beq_eq_false_iff_ne.1 hc45;refine bJ<|sr<|sp2 hT ?_;refine nn<|bL rfl (fun hc79=>?_) (fun hc79=>?_)
 ·have hc79_r:=hc79;have hc79:=eq_of_beq hc79;refine bN<|bE<|cF rfl hc79_r ?_;refine bF<|sp hT ?_;refine ss (ldO hT (sU .head)) ?_;refine sp hT ?_;refine ss (ldO hT (dU .head)) ?_;refine sp hT ?_;refine fG (t':=false) (by rw [hc79];rfl) ?_;refine cV Tryz.func110 (mU _ _) rfl rfl .nil trivial fun _=>?_;refine sp2 hT ?_;refine gS<|bU<|bE<|sr<|sp2 hT ?_;refine bP (fun hg89=>?_) (fun hg89=>?_)
  ·refine sp4 hT ?_;refine bP (fun hg93=>?_) (fun hg93=>?_)
   ·have hg93:=eq_of_beq hg93;refine sp4 hT ?_;refine bP (fun hg97=>?_) (fun hg97=>?_)
    ·have hg97:=eq_of_beq hg97;refine sp4 hT ?_;refine sp hT ?_;refine bP (fun hg102=>?_) (fun hg102=>?_)
     ·have hg102:=eq_of_beq hg102;refine sp2 hT ?_;refine fG (t':=true) (by decide) ?_;refine sp2 hT ?_;refine nn<|bI ?_;exact bD () rfl (bH rfl) .nil trivial (by first | (rw [dJ ‹_›];simp [*];done) | (rw [dC ‹_›];simp [*];done) | (rw [dH ‹_›];simp [*];done) | (rw [dF ‹_› ‹_›];simp [*];done) | (rw [cK ‹_› (by omega)];done) | (rw [dD ‹_›];simp [*];done) | (rw [dG ‹_›];simp [*];done) | rw [dI ‹_› ‹_› ‹_› ‹_› ‹_› ‹_›])
     have hg102:=beq_eq_false_iff_ne.1 hg102;refine sk2 ?_;refine sp2 hT ?_;refine nn<|bI ?_;exact bD () rfl (bH rfl) .nil trivial (by first | (rw [dJ ‹_›];simp [*];done) | (rw [dC ‹_›];simp [*];done) | (rw [dH ‹_›];simp [*];done) | (rw [dF ‹_› ‹_›];simp [*];done) | (rw [cK ‹_› (by omega)];done) | (rw [dD ‹_›];simp [*];done) | (rw [dG ‹_›];simp [*];done) | rw [dI ‹_› ‹_› ‹_› ‹_› ‹_› ‹_›])
    have hg97:=beq_eq_false_iff_ne.1 hg97;refine sk3 ?_;refine sp2 hT ?_;refine sk2 ?_;refine sp2 hT ?_;refine nn<|bI ?_;exact bD () rfl (bH rfl) .nil trivial (by first | (rw [dJ ‹_›];simp [*];done) | (rw [dC ‹_›];simp [*];done) | (rw [dH ‹_›];simp [*];done) | (rw [dF ‹_› ‹_›];simp [*];done) | (rw [cK ‹_› (by omega)];done) | (rw [dD ‹_›];simp [*];done) | (rw [dG ‹_›];simp [*];done) | rw [dI ‹_› ‹_› ‹_› ‹_› ‹_› ‹_›])
   have hg93:=beq_eq_false_iff_ne.1 hg93;refine sk2 ?_;refine sp2 hT ?_;refine sk3 ?_;refine sp2 hT ?_;refine sk2 ?_;refine sp2 hT ?_;refine nn<|bI ?_;exact bD () rfl (bH rfl) .nil trivial (by first | (rw [dJ ‹_›];simp [*];done) | (rw [dC ‹_›];simp [*];done) | (rw [dH ‹_›];simp [*];done) | (rw [dF ‹_› ‹_›];simp [*];done) | (rw [cK ‹_› (by omega)];done) | (rw [dD ‹_›];simp [*];done) | (rw [dG ‹_›];simp [*];done) | rw [dI ‹_› ‹_› ‹_› ‹_› ‹_› ‹_›])
  refine sk2 ?_;refine sp2 hT ?_;refine sk2 ?_;refine sp2 hT ?_;refine sk3 ?_;refine sp2 hT ?_;refine sk2 ?_;refine sp2 hT ?_;refine nn<|bI ?_;exact bD () rfl (bH rfl) .nil trivial (by first | (rw [dJ ‹_›];simp [*];done) | (rw [dC ‹_›];simp [*];done) | (rw [dH ‹_›];simp [*];done) | (rw [dF ‹_› ‹_›];simp [*];done) | (rw [cK ‹_› (by omega)];done) | (rw [dD ‹_›];simp [*];done) | (rw [dG ‹_›];simp [*];done) | rw [dI ‹_› ‹_› ‹_› ‹_› ‹_› ‹_›])
 have hc79_r:=hc79;have hc79:=beq_eq_false_iff_ne.1 hc79;refine bF<|sp2 hT ?_;refine nn<|bL rfl (fun hc79_5=>?_) (fun hc79_5=>?_)
 ·have hc79_5_r:=hc79_5;have hc79_5:=eq_of_beq hc79_5;refine bF<|sp hT ?_;refine ss (ldO hT (sU .head)) ?_;refine sp hT ?_;refine ss (ldO hT (dU .head)) ?_;refine sp hT ?_;refine fG (t':=true) (by rw [hc79_5];rfl) ?_;refine cV Tryz.func110 (mU _ _) rfl rfl .nil trivial fun _=>?_;refine sp2 hT ?_;refine gS<|bU<|bE<|sr<|sp2 hT ?_;refine bP (fun hg89=>?_) (fun hg89=>?_)
  ·refine sp4 hT ?_;refine bP (fun hg93=>?_) (fun hg93=>?_)
   ·have hg93:=eq_of_beq hg93;refine sp4 hT ?_;refine bP (fun hg97=>?_) (fun hg97=>?_)
    ·have hg97:=eq_of_beq hg97;refine sp4 hT ?_;refine sp hT ?_;refine bP (fun hg102=>?_) (fun hg102=>?_)
     ·have hg102:=eq_of_beq hg102;refine sp2 hT ?_;refine fG (t':=true) (by decide) ?_;refine sp2 hT ?_;refine nn<|bI ?_;exact bD () rfl (bH rfl) .nil trivial (by first | (rw [dJ ‹_›];simp [*];done) | (rw [dC ‹_›];simp [*];done) | (rw [dH ‹_›];simp [*];done) | (rw [dF ‹_› ‹_›];simp [*];done) | (rw [cK ‹_› (by omega)];done) | (rw [dD ‹_›];simp [*];done) | (rw [dG ‹_›];simp [*];done) | rw [dI ‹_› ‹_› ‹_› ‹_› ‹_› ‹_›])
     have hg102:=beq_eq_false_iff_ne.1 hg102;refine sk2 ?_;refine sp2 hT ?_;refine nn<|bI ?_;exact bD () rfl (bH rfl) .nil trivial (by first | (rw [dJ ‹_›];simp [*];done) | (rw [dC ‹_›];simp [*];done) | (rw [dH ‹_›];simp [*];done) | (rw [dF ‹_› ‹_›];simp [*];done) | (rw [cK ‹_› (by omega)];done) | (rw [dD ‹_›];simp [*];done) | (rw [dG ‹_›];simp [*];done) | rw [dI ‹_› ‹_› ‹_› ‹_› ‹_› ‹_›])
    have hg97:=beq_eq_false_iff_ne.1 hg97;refine sk3 ?_;refine sp2 hT ?_;refine sk2 ?_;refine sp2 hT ?_;refine nn<|bI ?_;exact bD () rfl (bH rfl) .nil trivial (by first | (rw [dJ ‹_›];simp [*];done) | (rw [dC ‹_›];simp [*];done) | (rw [dH ‹_›];simp [*];done) | (rw [dF ‹_› ‹_›];simp [*];done) | (rw [cK ‹_› (by omega)];done) | (rw [dD ‹_›];simp [*];done) | (rw [dG ‹_›];simp [*];done) | rw [dI ‹_› ‹_› ‹_› ‹_› ‹_› ‹_›])
   have hg93:=beq_eq_false_iff_ne.1 hg93;refine sk2 ?_;refine sp2 hT ?_;refine sk3 ?_;refine sp2 hT ?_;refine sk2 ?_;refine sp2 hT ?_;refine nn<|bI ?_;exact bD () rfl (bH rfl) .nil trivial (by first | (rw [dJ ‹_›];simp [*];done) | (rw [dC ‹_›];simp [*];done) | (rw [dH ‹_›];simp [*];done) | (rw [dF ‹_› ‹_›];simp [*];done) | (rw [cK ‹_› (by omega)];done) | (rw [dD ‹_›];simp [*];done) | (rw [dG ‹_›];simp [*];done) | rw [dI ‹_› ‹_› ‹_› ‹_› ‹_› ‹_›])
  refine sk2 ?_;refine sp2 hT ?_;refine sk2 ?_;refine sp2 hT ?_;refine sk3 ?_;refine sp2 hT ?_;refine sk2 ?_;refine sp2 hT ?_;refine nn<|bI ?_;exact bD () rfl (bH rfl) .nil trivial (by first | (rw [dJ ‹_›];simp [*];done) | (rw [dC ‹_›];simp [*];done) | (rw [dH ‹_›];simp [*];done) | (rw [dF ‹_› ‹_›];simp [*];done) | (rw [cK ‹_› (by omega)];done) | (rw [dD ‹_›];simp [*];done) | (rw [dG ‹_›];simp [*];done) | rw [dI ‹_› ‹_› ‹_› ‹_› ‹_› ‹_›])
 have hc79_5_r:=hc79_5;have hc79_5:=beq_eq_false_iff_ne.1 hc79_5;refine bN<|bU<|bE<|sr<|sp2 hT ?_;refine sk2 ?_;refine sp2 hT ?_;refine sk2 ?_;refine sp2 hT ?_;refine sk3 ?_;refine sp2 hT ?_;refine sk2 ?_;refine sp2 hT ?_;refine nn<|bI ?_;exact bD () rfl (bH rfl) .nil trivial (by first | (rw [dJ ‹_›];simp [*];done) | (rw [dC ‹_›];simp [*];done) | (rw [dH ‹_›];simp [*];done) | (rw [dF ‹_› ‹_›];simp [*];done) | (rw [cK ‹_› (by omega)];done) | (rw [dD ‹_›];simp [*];done) | (rw [dG ‹_›];simp [*];done) | rw [dI ‹_› ‹_› ‹_› ‹_› ‹_› ‹_›])
set_option maxRecDepth 100000 in
theorem rR(bp:Nat)(bs:Nat)(vars loops buf:Int)(MA:Option Addr)(mc:Nat)(made:List Bool)(o:OpV):dS Tryz.prog 112 [.agg #[.int .i64 o.how,.int .i64 o.k,.int .i64 o.n,.slice o.p.addr o.p.list.length o.p.cap,.int .u8 o.fn],.pointer (some ⟨bp,0,none⟩)] [] [opF o,bR.cells bp 0 [.pointer (some ⟨bs,0,none⟩)],bR.cells bs 0 [.int .i64 vars,.int .i64 loops,.int .i64 buf,.slice MA made.length mc],fJ.sl (.slice MA made.length mc) made] (fun(_:Unit)=> .bool (!opB vars loops buf made o.c)) (fun _=>[]) (fun _=>[]):=by
 have hT:=cG;refine cR Tryz.func112 rfl Tryz.ntmps112 rfl ?_;intro β hM;refine sr<|fS rfl rfl rfl rfl rfl rfl fun b1=>?_;refine sp hT ?_;refine nn<|sr<|ss (bV hT (fR (off:=0) (Has.of mT1)) rfl rfl rfl rfl rfl) ?_;refine ss (ldN hT (dU .head)) ?_;refine cV Tryz.func113 (right_spec bs vars loops buf MA mc made o) rfl rfl .nil ⟨(Has.of mT0),(Has.of mT2),(Has.of mT3),trivial⟩ fun _=>?_;refine sp2 hT ?_;refine nn<|bI ?_;exact bD () rfl (bH rfl) .nil trivial (rfl)
set_option maxRecDepth 100000 in
theorem indexFO_spec(A:Option Addr)(c:Nat)(l:List OpV)(hl:l.length≤140737488355328)(f:FuncId)(cap:List Value)(G:List bR)(p:OpV→Bool)(hcf: ∀(args:Array Value) (w:World),(callFunc f args).run Tryz.prog w= .ok (.enter f args) w)(hf: ∀o:OpV,dS Tryz.prog f (.agg #[.int .i64 o.how,.int .i64 o.k,.int .i64 o.n,.slice o.p.addr o.p.list.length o.p.cap,.int .u8 o.fn]::cap) [] (opF o::G) (fun _:Unit=> .bool (p o)) (fun _=>[]) (fun _=>[])):dS Tryz.prog 169 [.slice A l.length c,.func (.func f) #[] cap.toArray] [] (opE.sl (.slice A l.length c) l::bR.each l opF::G) (fun(_:Unit)=> .int .i64 (tN p l 0)) (fun _=>[]) (fun _=>[]):=by
 have hT:=cG;generalize hR:tN p l 0=r;refine cR Tryz.func169 rfl Tryz.ntmps169 rfl ?_;intro β hM;refine sr<|sp hT ?_;refine nn<|bJ<|sr<|sp3 hT ?_;refine nn<|bQ<|cI (ι:=Nat) [(0,_),(1,_),(7,_)] ⟨rfl,rfl,rfl,trivial⟩ (fun i=>[(8,.int .i64 (i:Nat))]) (fun _=>[]) (fun i=>[bR.pure (i≤l.length∧r=tN p (l.drop i) i)]) (fun i=>l.length-i) 0 ⟨rfl,trivial⟩ .nil ⟨Has.pure (⟨by omega,hR.symm⟩),trivial⟩ ?_;rintro i;refine cC (Has.of mT0) fun hinv2=>?_;refine sr<|sp hT ?_;refine nn<|bJ<|bL rfl (fun hc9=>?_) (fun hc9=>?_)
 ·have hc9:=of_decide_eq_true hc9;refine bN<|bE<|bJ<|bQ<|sr<|sp2 hT ?_;refine nn<|sr<|sp3 hT ?_
  obtain⟨x1,hx2⟩: ∃x',l[i]?=some x':=⟨_,List.getElem?_eq_getElem (by omega)⟩
  refine ss (bM hT (k:=i) (bC (Has.of mT1)) rfl rfl rfl rfl rfl rfl rfl (by omega)) ?_;refine ss (dB hT (cD.knows (bC (Has.of mT1)) (k:=i) (x:=x1) hx2 0) rfl rfl rfl rfl rfl) ?_;refine xI hcf (hf x1) rfl rfl rfl rfl rfl rfl rfl .nil ⟨Has.each (Has.of mT2) (List.mem_of_getElem? hx2),bK.drop 3⟩ fun _=>?_;refine nn<|bL rfl (fun hc16=>?_) (fun hc16=>?_)
  ·refine sr<|sp2 hT ?_;refine nn<|bI<|bO<|bG<|bG<|bO<|bG ?_;have hr:=(qI hinv2.2 hx2).1 ‹_›;subst hr;exact bD () rfl (bH rfl) .nil trivial rfl
  refine bN<|bU<|bE<|bF<|sp hT ?_;refine bX (z':=(((i+1):Nat):Int)) (cT (by omega) (by omega)) ?_;refine sp hT ?_;refine nn ?_;exact bW (i+1) (by omega) ⟨rfl,trivial⟩ ⟨rfl,rfl,rfl,trivial⟩ .nil ⟨Has.pure (⟨by omega,(qI hinv2.2 hx2).2 ‹_›⟩),trivial⟩ (bK.drop 1)
 have hc9:=Int.not_lt.1 (of_decide_eq_false hc9);refine cL<|bZ<|bZ<|cM<|bE<|sr<|sp hT ?_;refine nn<|bI ?_;have hr:=idxG_end hinv2.2 (by omega);subst hr;exact bD () rfl (bH rfl) .nil trivial rfl
set_option maxRecDepth 100000 in
theorem lD(A:Option Addr)(c:Nat)(l:List OpV)(hl:l.length≤140737488355328)(f:FuncId)(cap:List Value)(G:List bR)(p:OpV→Bool)(hcf: ∀(args:Array Value) (w:World),(callFunc f args).run Tryz.prog w= .ok (.enter f args) w)(hf: ∀o:OpV,dS Tryz.prog f (.agg #[.int .i64 o.how,.int .i64 o.k,.int .i64 o.n,.slice o.p.addr o.p.list.length o.p.cap,.int .u8 o.fn]::cap) [] (opF o::G) (fun _:Unit=> .bool (p o)) (fun _=>[]) (fun _=>[])):dS Tryz.prog 111 [.slice A l.length c,.func (.func f) #[] cap.toArray] [] (opE.sl (.slice A l.length c) l::bR.each l opF::G) (fun(_:Unit)=> .bool (l.any p)) (fun _=>[]) (fun _=>[]):=by
 have hT:=cG;refine cR Tryz.func111 rfl Tryz.ntmps111 rfl ?_;intro β hM;refine sr<|sp hT ?_;refine nn<|sr<|sp2 hT ?_;refine cV Tryz.func169 (indexFO_spec A c l hl f cap G p hcf hf) rfl rfl .nil bK.self fun _=>?_;refine sp2 hT ?_;refine nn<|bI ?_;exact bD () rfl (bH rfl) .nil trivial (congrArg Value.bool (wP p l 0 (by decide)))
set_option maxRecDepth 100000 in
theorem step_spec(bs:Nat)(vars loops buf:Int)(MA:Option Addr)(mc:Nat)(made:List Bool)(x:dR):dS Tryz.prog 53 [.pointer (some ⟨bs,0,none⟩),.agg #[.int .i64 x.how,.int .i64 x.buf,.slice x.at_.addr x.at_.list.length x.at_.cap,.slice x.loops.addr x.loops.list.length x.loops.cap,.int .u8 x.fn,.slice x.ops.addr x.ops.list.length x.ops.cap]] [.obj bs (.cells [.int .i64 vars,.int .i64 loops,.int .i64 buf,.slice MA made.length mc].toArray 115)] [lA x,fJ.sl (.slice MA made.length mc) made] (fun(_:Int×Int)=> .bool (iY vars made x.c)) (fun(y:Int×Int)=>[.obj bs (.cells [.int .i64 vars,.int .i64 y.1,.int .i64 y.2,.slice MA made.length mc].toArray 115)]) (fun _=>[]):=by
 have hT:=cG;refine cR Tryz.func53 rfl Tryz.ntmps53 rfl ?_;intro β hM;refine sr<|fS rfl rfl rfl rfl rfl rfl fun b1=>?_;refine fS rfl rfl rfl rfl rfl rfl fun b2=>?_;refine sp hT ?_;refine nn<|bJ<|bJ<|cB (oM x.at_) (vM (Has.of mT0)) ?_;refine cC (gX (Has.of mT0)) fun hpa=>?_;refine cB (nC x.loops) (mL (Has.of mT1)) ?_;refine cC (opsF_c (kQ (Has.of mT2))) fun hoz=>?_;have hoz2:=hoz.2;refine cB (bR.each x.ops.list opF) (opsF_e (kQ (Has.of mT2))) ?_;refine cB (opE.sl (.slice x.ops.addr x.ops.list.length x.ops.cap) x.ops.list) (opsF_s (kQ (Has.of mT3))) ?_;refine gF _ _ [(true,0),(true,1),(true,2),(true,3),(true,4),(true,5),(false,6),(true,7),(true,8),(true,9),(true,10),(false,11),(true,12),(true,13),(true,14),(true,15),(true,16),(true,17),(true,18),(true,19),(true,20),(false,21),(true,22),(true,23),(true,24),(true,25),(true,26),(true,27),(true,28),(true,29),(true,30),(true,31),(true,32),(false,33),(true,34),(true,35)] gI (by decide+kernel) (.cons .head (.cons .head (.cons .head .nil))) bK.self ?_;refine puM hT ?_;refine stM rfl (ldO hT (iW .head)) ?_;refine stM rfl (ldO hT (dU kT1)) ?_;refine puM hT ?_;refine puM hT ?_;refine stM rfl (ldO hT (dU kT2)) ?_;refine fI (o:=_) rfl ?_;refine cV Tryz.func107 (of_spec x.at_ vars) rfl rfl .nil ⟨(Has.of mT3),trivial⟩ fun _=>?_;refine fH (.cons .head (.cons .head (.cons .head .nil))) (bK.drop 0) ?_;refine puM hT ?_;refine puM hT ?_;refine bP (fun hg13=>?_) (fun hg13=>?_)
 ·have hg13:=fX hg13;refine bB rfl rfl rfl rfl ?_;refine bB rfl rfl rfl rfl ?_;refine fI (o:=_) rfl ?_;refine sk ?_;refine fH (.cons .head (.cons .head (.cons .head .nil))) (bK.drop 0) ?_;refine bB rfl rfl rfl rfl ?_;refine puM hT ?_;refine puM hT ?_;refine bB rfl rfl rfl rfl ?_;refine bB rfl rfl rfl rfl ?_;refine bB rfl rfl rfl rfl ?_;refine bB rfl rfl rfl rfl ?_;refine bB rfl rfl rfl rfl ?_;refine bB rfl rfl rfl rfl ?_;refine fI (o:=_) rfl ?_;refine sk ?_;refine fH (.cons .head (.cons .head (.cons .head .nil))) (bK.drop 0) ?_;refine bB rfl rfl rfl rfl ?_;refine puM hT ?_;refine puM hT ?_;refine bB rfl rfl rfl rfl ?_;refine bB rfl rfl rfl rfl ?_;refine bB rfl rfl rfl rfl ?_;refine bB rfl rfl rfl rfl ?_;refine puM hT ?_;refine puM hT ?_;refine bB rfl rfl rfl rfl ?_;refine bB rfl rfl rfl rfl ?_;refine fI (o:=_) rfl ?_;refine sk ?_;refine fH (.cons .head (.cons .head (.cons .head .nil))) (bK.drop 0) ?_;refine bB rfl rfl rfl rfl ?_;refine puM hT ?_;refine cZ<|bE<|cF rfl rfl ?_;refine sr<|sp hT ?_;refine nn<|bI<|bG ?_;exact bD (_,_) rfl (bH rfl) (.cons kT2 .nil) trivial (by rw [←gC];simp [lK, *])
 have hg13:=fY hg13;refine puM hT ?_;refine stM rfl (ldO hT (iW .head)) ?_;refine fI (o:=_) rfl ?_;refine cV Tryz.func108 (wB x.at_ hpa) rfl rfl .nil ⟨(Has.of mT3),trivial⟩ fun _=>?_;refine fH (.cons .head (.cons .head (.cons .head .nil))) (bK.drop 0) ?_;refine puM hT ?_;refine puM hT ?_;refine puM hT ?_;refine bP (fun hg19=>?_) (fun hg19=>?_)
 ·have hg19:=fX hg19;refine bB rfl rfl rfl rfl ?_;refine bB rfl rfl rfl rfl ?_;refine bB rfl rfl rfl rfl ?_;refine bB rfl rfl rfl rfl ?_;refine bB rfl rfl rfl rfl ?_;refine bB rfl rfl rfl rfl ?_;refine fI (o:=_) rfl ?_;refine sk ?_;refine fH (.cons .head (.cons .head (.cons .head .nil))) (bK.drop 0) ?_;refine bB rfl rfl rfl rfl ?_;refine puM hT ?_;refine puM hT ?_;refine bB rfl rfl rfl rfl ?_;refine bB rfl rfl rfl rfl ?_;refine bB rfl rfl rfl rfl ?_;refine bB rfl rfl rfl rfl ?_;refine puM hT ?_;refine puM hT ?_;refine bB rfl rfl rfl rfl ?_;refine bB rfl rfl rfl rfl ?_;refine fI (o:=_) rfl ?_;refine sk ?_;refine fH (.cons .head (.cons .head (.cons .head .nil))) (bK.drop 0) ?_;refine bB rfl rfl rfl rfl ?_;refine puM hT ?_;refine cZ<|bE<|cF rfl rfl ?_;refine sr<|sp hT ?_;refine nn<|bI<|bG ?_;exact bD (_,_) rfl (bH rfl) (.cons kT2 .nil) trivial (by rw [←gC];simp [lK, *])
 have hg19:=fY hg19;refine puM hT ?_;refine stM rfl (ldO hT (iE .head)) ?_;refine stM rfl (ldO hT (dU kT1)) ?_;refine puM hT ?_;refine puM hT ?_;refine stM rfl (ldO hT (dU kT2)) ?_;refine fI (o:=_) rfl ?_;refine cV Tryz.func52 (bAc x.loops vars) rfl rfl .nil ⟨(Has.of mT2),trivial⟩ fun _=>?_;refine fH (.cons .head (.cons .head (.cons .head .nil))) (bK.drop 0) ?_;refine puM hT ?_;refine puM hT ?_;refine puM hT ?_;refine bP (fun hg29=>?_) (fun hg29=>?_)
 ·have hg29:=fX hg29;refine bB rfl rfl rfl rfl ?_;refine bB rfl rfl rfl rfl ?_;refine bB rfl rfl rfl rfl ?_;refine bB rfl rfl rfl rfl ?_;refine puM hT ?_;refine puM hT ?_;refine bB rfl rfl rfl rfl ?_;refine bB rfl rfl rfl rfl ?_;refine fI (o:=_) rfl ?_;refine sk ?_;refine fH (.cons .head (.cons .head (.cons .head .nil))) (bK.drop 0) ?_;refine bB rfl rfl rfl rfl ?_;refine puM hT ?_;refine cZ<|bE<|cF rfl rfl ?_;refine sr<|sp hT ?_;refine nn<|bI<|bG ?_;exact bD (_,_) rfl (bH rfl) (.cons kT2 .nil) trivial (by rw [←gC];simp [lK, *])
 have hg29:=fY hg29;refine puM hT ?_;refine stM rfl (ldO hT (mF .head)) ?_;refine puM hT ?_;refine puM hT ?_;refine puM hT ?_;refine puM hT ?_;refine bP (fun hg35=>?_) (fun hg35=>?_)
 ·have hg35:=of_decide_eq_true hg35;refine bB rfl rfl rfl rfl ?_;refine bB rfl rfl rfl rfl ?_;refine fI (o:=_) rfl ?_;refine sk ?_;refine fH (.cons .head (.cons .head (.cons .head .nil))) (bK.drop 0) ?_;refine bB rfl rfl rfl rfl ?_;refine puM hT ?_;refine cZ<|bE<|cF rfl rfl ?_;refine sr<|sp hT ?_;refine nn<|bI<|bG ?_;exact bD (_,_) rfl (bH rfl) (.cons kT2 .nil) trivial (by rw [←gC];simp [lK, *])
 have hg35:=Int.not_lt.1 (of_decide_eq_false hg35);refine puM hT ?_;refine stM rfl (ldO hT (mF .head)) ?_;refine fI (o:=_) rfl ?_;refine cV Tryz.func109 (Depth_spec x.ops.addr x.ops.cap x.ops.list (by omega)) rfl rfl .nil ⟨(Has.of mT0),(Has.of mT1),trivial⟩ fun _=>?_;refine fH (.cons .head (.cons .head (.cons .head .nil))) (bK.drop 0) ?_;refine puM hT ?_;refine puM hT ?_;refine cZ<|bE<|bL rfl (fun hc40=>?_) (fun hc40=>?_)
 ·have hc40_r:=hc40;have hc40:=of_decide_eq_true hc40;refine sr<|sp hT ?_;refine nn<|bI<|bG ?_;exact bD (_,_) rfl (bH rfl) (.cons kT2 .nil) trivial (by rw [←gC];simp [lK, *])
 have hc40_r:=hc40;have hc40:=Int.not_lt.1 (of_decide_eq_false hc40);refine bN<|bE<|bJ<|sr<|sp hT ?_;refine ss (ldO hT (dU .head)) ?_;refine nn<|bQ<|sr<|sp2 hT ?_;refine nn<|bL rfl (fun hc43=>?_) (fun hc43=>?_)
 ·have hc43_r:=hc43;have hc43:=eq_of_beq hc43;refine sr<|sp hT ?_;refine ss (ldO hT (sU .head)) ?_;refine sp hT ?_;refine nn<|bL rfl (fun hc47=>?_) (fun hc47=>?_)
  ·have hc47_r:=hc47;have hc47:=bne_iff_ne.1 hc47;refine sr<|sp hT ?_;refine nn<|bI<|bO<|bG ?_;exact bD (_,_) rfl (bH rfl) (.cons kT2 .nil) trivial (by rw [←gC];simp [lK, *])
  have hc47_r:=hc47;have hc47:=bne_eq_false_iff_eq.1 hc47;refine bN<|bU<|bE<|bJ<|gF _ _ [(true,0),(true,1),(true,2),(true,3),(true,4),(true,5),(true,6),(true,7),(true,8),(false,9),(true,10),(true,11),(false,12)] gI (by decide+kernel) (.cons .head (.cons .head .nil)) bK.self ?_;refine stM rfl (ldO hT (dU kT1)) ?_;refine stM rfl (ldO hT (dU kT1)) ?_;refine puM hT ?_;refine stM rfl (ldO hT (iE .head)) ?_;refine puM hT ?_;refine puM hT ?_;refine stM rfl (ldO hT (cY .head)) ?_;refine puM hT ?_;refine puM hT ?_;refine fI (o:=_) rfl ?_;refine sto hT kT2 ?_;refine fH (.cons kT1 (.cons kT1 .nil)) (bK.drop 0) ?_;refine puM hT ?_;refine puM hT ?_;refine fI (o:=_) rfl ?_;refine sto hT .head ?_;refine fH (.cons kT1 (.cons kT1 .nil)) (bK.drop 0) ?_;refine cZ<|bE<|sr<|sp hT ?_;refine ss (ldO hT (mF kT1)) ?_;refine sp hT ?_;refine iJ (cN Tryz.func111 rfl rfl) (lD x.ops.addr x.ops.cap x.ops.list (by omega) 112 [.pointer (some ⟨b1,0,none⟩)] [bR.cells b1 0 [.pointer (some ⟨bs,0,none⟩)],bR.cells bs 0 [.int .i64 vars,.int .i64 x.loops.list.length,.int .i64 x.buf,.slice MA made.length mc],fJ.sl (.slice MA made.length mc) made] (fun o=>!opB vars x.loops.list.length x.buf made o.c) (cN Tryz.func112 rfl rfl) (fun o=>rR b1 bs vars x.loops.list.length x.buf MA mc made o)) rfl rfl rfl rfl rfl .nil (.cons kT2 (.cons .head .nil)) (kJ (kJ lR)) ⟨Has.of mT2,Has.of mT3,Has.of mT0,Has.of mT1,Has.of mT7,trivial⟩ (fun _=>True) (fun _ _ _ _=>trivial) fun _ _=>?_;refine sp2 hT ?_;refine nn<|bI ?_;exact bD (_,_) rfl (bH rfl) (.cons .head .nil) trivial (by rw [←gC];simp [lK, *])
 have hc43_r:=hc43;have hc43:=beq_eq_false_iff_ne.1 hc43;refine bJ<|sr<|sp2 hT ?_;refine nn<|bL rfl (fun hc48=>?_) (fun hc48=>?_)
 ·have hc48_r:=hc48;have hc48:=eq_of_beq hc48;refine bN<|bE<|cF rfl hc48_r ?_;refine sr<|sp hT ?_;refine ss (ldO hT (iE .head)) ?_;refine sp3 hT ?_;refine bP (fun hg55=>?_) (fun hg55=>?_)
  ·have hg55:=eq_of_beq hg55;refine sk4 ?_;refine sp hT ?_;refine nn<|cF rfl rfl ?_;refine sr<|sp hT ?_;refine nn<|bI<|bO<|bG ?_;exact bD (_,_) rfl (bH rfl) (.cons kT2 .nil) trivial (by rw [←gC];simp [lK, *])
  have hg55:=beq_eq_false_iff_ne.1 hg55;refine sp hT ?_;refine ss (ldO hT (sU .head)) ?_;refine cV Tryz.func110 (mU _ _) rfl rfl .nil trivial fun _=>?_;refine sp2 hT ?_;refine nn<|bL rfl (fun hc60=>?_) (fun hc60=>?_)
  ·have hc60_r:=hc60;have hc60:=fX hc60;refine sr<|sp hT ?_;refine nn<|bI<|bO<|bG ?_;exact bD (_,_) rfl (bH rfl) (.cons kT2 .nil) trivial (by rw [←gC];simp [lK, *])
  have hc60_r:=hc60;have hc60:=fY hc60;refine bN<|bU<|bE<|bJ<|gF _ _ [(true,0),(true,1),(true,2),(true,3),(true,4),(true,5),(true,6),(true,7),(true,8),(false,9),(true,10),(true,11),(false,12)] gI (by decide+kernel) (.cons .head (.cons .head .nil)) bK.self ?_;refine stM rfl (ldO hT (dU kT1)) ?_;refine stM rfl (ldO hT (dU kT1)) ?_;refine puM hT ?_;refine stM rfl (ldO hT (iE .head)) ?_;refine puM hT ?_;refine puM hT ?_;refine stM rfl (ldO hT (cY .head)) ?_;refine puM hT ?_;refine puM hT ?_;refine fI (o:=_) rfl ?_;refine sto hT kT2 ?_;refine fH (.cons kT1 (.cons kT1 .nil)) (bK.drop 0) ?_;refine puM hT ?_;refine puM hT ?_;refine fI (o:=_) rfl ?_;refine sto hT .head ?_;refine fH (.cons kT1 (.cons kT1 .nil)) (bK.drop 0) ?_;refine cZ<|bE<|sr<|sp hT ?_;refine ss (ldO hT (mF kT1)) ?_;refine sp hT ?_;refine iJ (cN Tryz.func111 rfl rfl) (lD x.ops.addr x.ops.cap x.ops.list (by omega) 112 [.pointer (some ⟨b1,0,none⟩)] [bR.cells b1 0 [.pointer (some ⟨bs,0,none⟩)],bR.cells bs 0 [.int .i64 vars,.int .i64 x.loops.list.length,.int .i64 x.buf,.slice MA made.length mc],fJ.sl (.slice MA made.length mc) made] (fun o=>!opB vars x.loops.list.length x.buf made o.c) (cN Tryz.func112 rfl rfl) (fun o=>rR b1 bs vars x.loops.list.length x.buf MA mc made o)) rfl rfl rfl rfl rfl .nil (.cons kT2 (.cons .head .nil)) (kJ (kJ lR)) ⟨Has.of mT2,Has.of mT3,Has.of mT0,Has.of mT1,Has.of mT7,trivial⟩ (fun _=>True) (fun _ _ _ _=>trivial) fun _ _=>?_;refine sp2 hT ?_;refine nn<|bI ?_;exact bD (_,_) rfl (bH rfl) (.cons .head .nil) trivial (by rw [←gC];simp [lK, *])
 have hc48_r:=hc48;have hc48:=beq_eq_false_iff_ne.1 hc48;refine bF<|sp2 hT ?_;refine nn<|bL rfl (fun hc48_4=>?_) (fun hc48_4=>?_)
 ·have hc48_4_r:=hc48_4;have hc48_4:=eq_of_beq hc48_4;refine sr<|sp hT ?_;refine ss (ldO hT (iE .head)) ?_;refine sp3 hT ?_;refine bP (fun hg55=>?_) (fun hg55=>?_)
  ·have hg55:=eq_of_beq hg55;refine sk4 ?_;refine sp hT ?_;refine nn<|cF rfl rfl ?_;refine sr<|sp hT ?_;refine nn<|bI<|bO<|bG ?_;exact bD (_,_) rfl (bH rfl) (.cons kT2 .nil) trivial (by rw [←gC];simp [lK, *])
  have hg55:=beq_eq_false_iff_ne.1 hg55;refine sp hT ?_;refine ss (ldO hT (sU .head)) ?_;refine cV Tryz.func110 (mU _ _) rfl rfl .nil trivial fun _=>?_;refine sp2 hT ?_;refine nn<|bL rfl (fun hc60=>?_) (fun hc60=>?_)
  ·have hc60_r:=hc60;have hc60:=fX hc60;refine sr<|sp hT ?_;refine nn<|bI<|bO<|bG ?_;exact bD (_,_) rfl (bH rfl) (.cons kT2 .nil) trivial (by rw [←gC];simp [lK, *])
  have hc60_r:=hc60;have hc60:=fY hc60;refine bN<|bU<|bE<|bJ<|gF _ _ [(true,0),(true,1),(true,2),(true,3),(true,4),(true,5),(true,6),(true,7),(true,8),(false,9),(true,10),(true,11),(false,12)] gI (by decide+kernel) (.cons .head (.cons .head .nil)) bK.self ?_;refine stM rfl (ldO hT (dU kT1)) ?_;refine stM rfl (ldO hT (dU kT1)) ?_;refine puM hT ?_;refine stM rfl (ldO hT (iE .head)) ?_;refine puM hT ?_;refine puM hT ?_;refine stM rfl (ldO hT (cY .head)) ?_;refine puM hT ?_;refine puM hT ?_;refine fI (o:=_) rfl ?_;refine sto hT kT2 ?_;refine fH (.cons kT1 (.cons kT1 .nil)) (bK.drop 0) ?_;refine puM hT ?_;refine puM hT ?_;refine fI (o:=_) rfl ?_;refine sto hT .head ?_;refine fH (.cons kT1 (.cons kT1 .nil)) (bK.drop 0) ?_;refine cZ<|bE<|sr<|sp hT ?_;refine ss (ldO hT (mF kT1)) ?_;refine sp hT ?_;refine iJ (cN Tryz.func111 rfl rfl) (lD x.ops.addr x.ops.cap x.ops.list (by omega) 112 [.pointer (some ⟨b1,0,none⟩)] [bR.cells b1 0 [.pointer (some ⟨bs,0,none⟩)],bR.cells bs 0 [.int .i64 vars,.int .i64 x.loops.list.length,.int .i64 x.buf,.slice MA made.length mc],fJ.sl (.slice MA made.length mc) made] (fun o=>!opB vars x.loops.list.length x.buf made o.c) (cN Tryz.func112 rfl rfl) (fun o=>rR b1 bs vars x.loops.list.length x.buf MA mc made o)) rfl rfl rfl rfl rfl .nil (.cons kT2 (.cons .head .nil)) (kJ (kJ lR)) ⟨Has.of mT2,Has.of mT3,Has.of mT0,Has.of mT1,Has.of mT7,trivial⟩ (fun _=>True) (fun _ _ _ _=>trivial) fun _ _=>?_;refine sp2 hT ?_;refine nn<|bI ?_;exact bD (_,_) rfl (bH rfl) (.cons .head .nil) trivial (by rw [←gC];simp [lK, *])
 have hc48_4_r:=hc48_4;have hc48_4:=beq_eq_false_iff_ne.1 hc48_4;refine sr<|sp hT ?_;refine nn<|bI<|bO<|bG ?_;exact bD (_,_) rfl (bH rfl) (.cons kT2 .nil) trivial (by rw [←gC];simp [lK, *])
end Go.Proofs.YtofjmphlpdhohaaGreatDoor
