/- Texts of one proof, one behind the other: CorF, TysR, MakesT, PlaceP, HeapP, CopyE, Arrs, DelS, TysP, PlL, MapI, PlM, Invo. -/
import Derived.Test.YtofjmphlpdhohaaGreatDoorM7
import Derived.Test.YtofjmphlpdhohaaGreatDoorM4
import Derived.Test.YtofjmphlpdhohaaGreatDoorM6
import Derived.Laws.IdiomCopy
import Derived.ArgAppend
import Derived.MapKept
import Derived.ChangeMaps5
import Derived.WideKeyEntry
import Derived.Lib.AppendStr
import Derived.Lib.UnsafeStr
import Derived.Lib.Builder
import Derived.Test.YtofjmphlpdhohaaGreatDoorM1
namespace Go.Proofs.YtofjmphlpdhohaaGreatDoor
open Go.RowKit
theorem fH:Tryz.prog.follows .mixedOrders=true:=by kernel_rfl
def bAo (a b:Mono):Bool:=a.eqB b
theorem sti_neq_mono{β:fB}{n:Nat}{Γ:Env}{H:List bJ}{F:List bI}{o:Oper}{a b:Operand}{tt:TypeId}(x y:Mono)(ho:o.op= .binOp .neq 45 a b tt)(hx:Γ.ev a=some (.agg #[.int .i64 x.n,.int .u8 x.e0.toNat,.int .u8 x.e1.toNat,.int .u8 x.e2.toNat,.int .u8 x.e3.toNat,.int .u8 x.e4.toNat,.int .u8 x.e5.toNat]))(hy:Γ.ev b=some (.agg #[.int .i64 y.n,.int .u8 y.e0.toNat,.int .u8 y.e1.toNat,.int .u8 y.e2.toNat,.int .u8 y.e3.toNat,.int .u8 y.e4.toNat,.int .u8 y.e5.toNat])):Sti Tryz.prog β n Γ H F o (.bool (!bAo x y)):=fun c w S f s k=>by
 have hq:Tryz.prog.eqGuardType Tryz.prog.depth 45=false:=by kernel_rfl
 have hg:(eqGuard .neq 45 a b (.agg #[.int .i64 x.n,.int .u8 x.e0.toNat,.int .u8 x.e1.toNat,.int .u8 x.e2.toNat,.int .u8 x.e3.toNat,.int .u8 x.e4.toNat,.int .u8 x.e5.toNat]) (.agg #[.int .i64 y.n,.int .u8 y.e0.toNat,.int .u8 y.e1.toNat,.int .u8 y.e2.toNat,.int .u8 y.e3.toNat,.int .u8 y.e4.toNat,.int .u8 y.e5.toNat])).run Tryz.prog w= .ok () w:=by
  unfold eqGuard;have hp:(program:Sem Program).run Tryz.prog w= .ok Tryz.prog w:=rfl;simp [hp,hq]
 unfold execOp;simp only [ho,f.ev hx,f.ev hy];rw [Sem.run_bind,Sem.run_bind,hg,Result.andThen_ok,run_neq_mono];rfl
theorem mono_eq{x y:Mono}:bAo x y=true↔x=y:=Mono.eqB_iff x y
theorem mono_t{x y:Mono}(h:(!bAo x y)=true):x≠y:=fun e=>by
 rw [mono_eq.2 e] at h;cases h
theorem mono_f{x y:Mono}(h:(!bAo x y)=false):x=y:=mono_eq.1 (by simpa using h)
def polsL (l:List PolV):List (List Mono):=l.map (·.list)
theorem dF(l:List PolV):(polsL l).length=l.length:=List.length_map _
theorem fW{l:List PolV}{i:Nat}{p:PolV}(h:l[i]?=some p):(polsL l)[i]?=some p.list:=by
 unfold polsL;rw [List.getElem?_map,h];rfl
def OpV.c (o:OpV):OpC:=⟨o.how,o.k,o.n,o.p.list,o.fn⟩
def sR (l:List OpV):List OpC:=l.map OpV.c
def jV.c (b:jV):kZ:=⟨polsL b.sides.list,b.input⟩
def gQ.c (s:gQ):dU:=⟨s.how,s.buf,s.at_.list,polsL s.loops.list,s.fn,sR s.ops.list⟩
def uR (l:List gQ):List dU:=l.map gQ.c
def pV (l:List jV):List kZ:=l.map jV.c
def iF.c (c:iF):fL:=⟨c.vars,pV c.bufs.list,uR c.steps.list,c.outs.list⟩
theorem zH(l:List OpV):(sR l).length=l.length:=List.length_map _
theorem iJ(l:List gQ):(uR l).length=l.length:=List.length_map _
theorem cT(l:List jV):(pV l).length=l.length:=List.length_map _
theorem opsL_at{l:List OpV}{i:Nat}{x:OpV}(h:l[i]?=some x):(sR l)[i]?=some x.c:=by
 unfold sR;rw [List.getElem?_map,h];rfl
theorem gS{l:List gQ}{i:Nat}{x:gQ}(h:l[i]?=some x):(uR l)[i]?=some x.c:=by
 unfold uR;rw [List.getElem?_map,h];rfl
theorem dG{l:List jV}{i:Nat}{x:jV}(h:l[i]?=some x):(pV l)[i]?=some x.c:=by
 unfold pV;rw [List.getElem?_map,h];rfl
theorem eqF_of{α:Type} [DecidableEq α]{a b:List α}(h:a≠b):Value.bool false= .bool (decide (a=b)):=by simp [h]
theorem eqT_of{α:Type} [DecidableEq α]{a b:List α}(h:a=b):Value.bool true= .bool (decide (a=b)):=by simp [h]
theorem nil_pol{α:Type}{E:Flat α}{F:List bI}:Has F (E.sl (.slice none 0 0) []):=fun _ _ _=>⟨none,0,rfl,fun k x hk=>by simp at hk⟩
def xI (l:List PolV):bI:=bI.each l fG
theorem mD{F:List bI}{p:PolV}(h:Has F (fG p)):Has F (dY.sl (.slice p.addr p.list.length p.cap) p.list):=h.left
theorem bEz{F:List bI}{p:PolV}(h:Has F (fG p)):Has F (bI.pure (p.list.length≤8796093022208)):=h.right
theorem fQ{F:List bI}{p:PolV}(h:Has F (fG p)):Has F (bI.pure (p.list.length≤140737488355328)):=fun S w k=>Nat.le_trans (bEz h S w k) (by decide)
theorem polF_nil: ∀{F:List bI},Has F (fG ⟨none,0,[]⟩):=Has.and nil_pol (Has.pure (by decide))
def bCh {α:Type}(b:Nat)(l:Sl α):bI:=bI.pure (l.list.length≤l.cap∧l.list.length*b≤140737488355328)
def mX (l:Sl PolV):bI:=((jT.sl (.slice l.addr l.list.length l.cap) l.list).and (xI l.list)).and (bCh 24 l)
def opF (x:OpV):bI:=fG x.p
def opsF (l:Sl OpV):bI:=((opE.sl (.slice l.addr l.list.length l.cap) l.list).and (bI.each l.list opF)).and (bCh 56 l)
def sC (x:gQ):bI:=(fG x.at_).and ((mX x.loops).and (opsF x.ops))
def bAw (l:Sl gQ):bI:=((zQ.sl (.slice l.addr l.list.length l.cap) l.list).and (bI.each l.list sC)).and (bCh 96 l)
def bufF (x:jV):bI:=mX x.sides
def bufsF (l:Sl jV):bI:=((bAf.sl (.slice l.addr l.list.length l.cap) l.list).and (bI.each l.list bufF)).and (bCh 32 l)
def outsF (l:Sl Int):bI:=(gC.sl (.slice l.addr l.list.length l.cap) l.list).and (bCh 8 l)
def oT (c:iF):bI:=(bufsF c.bufs).and ((bAw c.steps).and (outsF c.outs))
section
variable {F : List bI} {c : iF} {s : gQ} {l : Sl PolV} {ol : Sl OpV} {bl : Sl jV} {xl : Sl gQ} {il : Sl Int}
theorem jR(h:Has F (oT c)):Has F (bufsF c.bufs):=h.left
theorem qU(h:Has F (oT c)):Has F (bAw c.steps):=h.right.left
theorem coreF_o(h:Has F (oT c)):Has F (outsF c.outs):=h.right.right
theorem stepF_a(h:Has F (sC s)):Has F (fG s.at_):=h.left
theorem bAv(h:Has F (sC s)):Has F (mX s.loops):=h.right.left
theorem xJ(h:Has F (sC s)):Has F (opsF s.ops):=h.right.right
theorem tM(h:Has F (mX l)):Has F (jT.sl (.slice l.addr l.list.length l.cap) l.list):=h.left.left
theorem tH(h:Has F (mX l)):Has F (xI l.list):=h.left.right
theorem tQ(h:Has F (mX l)):Has F (bCh 24 l):=h.right
theorem opsF_s(h:Has F (opsF ol)):Has F (opE.sl (.slice ol.addr ol.list.length ol.cap) ol.list):=h.left.left
theorem opsF_e(h:Has F (opsF ol)):Has F (bI.each ol.list opF):=h.left.right
theorem opsF_c(h:Has F (opsF ol)):Has F (bCh 56 ol):=h.right
theorem wN(h:Has F (bAw xl)):Has F (zQ.sl (.slice xl.addr xl.list.length xl.cap) xl.list):=h.left.left
theorem bCw(h:Has F (bAw xl)):Has F (bI.each xl.list sC):=h.left.right
theorem oW(h:Has F (bufsF bl)):Has F (bAf.sl (.slice bl.addr bl.list.length bl.cap) bl.list):=h.left.left
theorem tC(h:Has F (bufsF bl)):Has F (bI.each bl.list bufF):=h.left.right
theorem outsF_s(h:Has F (outsF il)):Has F (gC.sl (.slice il.addr il.list.length il.cap) il.list):=h.left
end
end Go.Proofs.YtofjmphlpdhohaaGreatDoor
namespace Go.Proofs.YtofjmphlpdhohaaGreatDoor
open Go.RowKit Go.ChangeShapes Go.WideShapes
section
variable {α H : Type} {enc : TypeId × Value → H} {P : Program} {w : World} {t e : TypeId}
def Ty.slicec(T:Ty α)(b:Nat):Ty (Sl α):=⟨slE α,fun s=>((T.slice b).deep s).and (bI.pure (s.list.length≤s.cap))⟩
theorem oC{deep:Sl α→bI}(hu:P.underlying t=some (.slice e))(he:nP enc P w t (slE α).cells deep):nP enc P w t (slE α).cells (fun s=>(deep s).and (bI.pure (s.list.length≤s.cap))):=fun fuel cs x h hw=>by
 obtain⟨a,e0,d⟩:=he fuel cs x h hw;refine⟨a,e0,d,?_⟩;have e0':cs=[.slice a.addr a.list.length a.cap]:=e0;show a.list.length≤a.cap
 rcases Deep.open_slice hu h with ⟨e1,_⟩ | ⟨a',len,cap,m,n,D,Pl,e1,_,hl,_⟩
 ·rw [e0'] at e1;simp only [List.cons.injEq,and_true,Value.slice.injEq] at e1;omega
 ·rw [e0'] at e1;simp only [List.cons.injEq,and_true,Value.slice.injEq] at e1;omega
end
set_option maxRecDepth 100000
section
variable {H : Type} {enc : TypeId × Value → H} {w : World}
theorem u8_of{n:Int}(h:(Lit.int .u8 n).wf=true): ∃e:UInt8,n=(e.toNat:Int):=by
 have h':0≤n∧n≤255:=bounds_u8 h;refine⟨UInt8.ofNat n.toNat,?_⟩;rw [UInt8.toNat_ofNat'];omega
theorem read_mono{fuel:Nat}{cs:List Value}{x:DataW H×List MemPlace}(h:DataW.trod enc Tryz.prog w 0 (fun _=>true) true fuel 45 cs=some x): ∃m:Mono,cs=m.cells∧(Lit.int .i64 m.n).wf=true:=by
 obtain⟨xs,n,_,_,hlen,hxl,hf⟩:=DataW.trod_struct Tryz.underlying45 h;have hc39:Tryz.prog.cellsOf 45=7:=by kernel_rfl
 have hc2:Tryz.prog.cellsOf 2=1:=by kernel_rfl
 have hc37:Tryz.prog.cellsOf 43=6:=by kernel_rfl
 have hc5:Tryz.prog.cellsOf 5=1:=by kernel_rfl
 rw [hc39] at hlen;have hxl':xs.length=2:=hxl
 match cs,hlen with
 | [a,b0,b1,b2,b3,b4,b5],_=>
  have h0:DataW.trod enc Tryz.prog w 0 (fun _=>true) true n 2 (([a,b0,b1,b2,b3,b4,b5].drop 0).take (Tryz.prog.cellsOf 2))=xs[0]?:=hf 0 _ rfl;have h1:DataW.trod enc Tryz.prog w 0 (fun _=>true) true n 43 (([a,b0,b1,b2,b3,b4,b5].drop 1).take (Tryz.prog.cellsOf 43))=xs[1]?:=hf 1 _ rfl;rw [hc2,List.getElem?_eq_getElem (by omega)] at h0;rw [hc37,List.getElem?_eq_getElem (by omega)] at h1;obtain⟨nn,e0,_,hw⟩:=DataW.trod_int Tryz.underlying2 h0;obtain⟨ys,n',_,_,_,hyl,hg⟩:=DataW.trod_array Tryz.underlying43 h1
  have g: ∀i,i<6→ ∃e:UInt8,(([b0,b1,b2,b3,b4,b5]:List Value).drop i).take 1=[.int .u8 (e.toNat:Int)]:=fun i hi=>by
   have h2:=hg i hi;rw [hc5,Nat.mul_one,List.getElem?_eq_getElem (by omega)] at h2;obtain⟨k,e1,_,hw1⟩:=DataW.trod_int Tryz.underlying5 h2;obtain⟨e,rfl⟩:=u8_of hw1;exact⟨e,e1⟩
  obtain⟨e0',g0⟩:=g 0 (by omega);obtain⟨e1',g1⟩:=g 1 (by omega);obtain⟨e2',g2⟩:=g 2 (by omega);obtain⟨e3',g3⟩:=g 3 (by omega);obtain⟨e4',g4⟩:=g 4 (by omega);obtain⟨e5',g5⟩:=g 5 (by omega);simp at e0 g0 g1 g2 g3 g4 g5;subst e0 g0 g1 g2 g3 g4 g5;exact⟨⟨nn,e0',e1',e2',e3',e4',e5'⟩,rfl,hw⟩
end
def lZ:Ty Mono:=⟨dY,fun m=>bI.pure ((Lit.int .i64 m.n).wf=true)⟩
theorem rA{H:Type}{enc:TypeId×Value→H}{w:World}:nP enc Tryz.prog w 45 lZ.E.cells lZ.deep:=fun fuel cs x h _=>by
 obtain⟨m,e,hw⟩:=read_mono h;exact⟨m,e,hw⟩
instance : Inhabited Mono := ⟨⟨0, 0, 0, 0, 0, 0, 0⟩⟩
def opTy:Ty OpV:=⟨opE,fun x=>(bI.pure ((Lit.int .i64 x.how).wf=true)).and ((bI.pure ((Lit.int .i64 x.k).wf=true)).and ((bI.pure ((Lit.int .i64 x.n).wf=true)).and ((((lZ.slice 16)).deep x.p).and ((bI.pure ((Lit.int .u8 x.fn).wf=true)).and (bI.true)))))⟩
set_option maxRecDepth 100000 in
theorem opens_op{H:Type}{enc:TypeId×Value→H}{w:World}:nP enc Tryz.prog w 42 opE.cells opTy.deep:=fun fuel cs x h hw=>by
 obtain⟨xs,n,_,rfl,hlen,hxl,hf⟩:=DataW.trod_struct Tryz.underlying42 h;have hc:Tryz.prog.cellsOf 42=5:=by kernel_rfl
 rw [hc] at hlen;have hxl':xs.length=5:=hxl
 match cs,hlen with
 | [c0,c1,c2,c3,c4],_=>
  have h0:DataW.trod enc Tryz.prog w 0 (fun _=>true) true n 3 (([c0,c1,c2,c3,c4].drop 0).take (Tryz.prog.cellsOf 3))=xs[0]?:=hf 0 _ rfl;have h1:DataW.trod enc Tryz.prog w 0 (fun _=>true) true n 3 (([c0,c1,c2,c3,c4].drop 1).take (Tryz.prog.cellsOf 3))=xs[1]?:=hf 1 _ rfl;have h2:DataW.trod enc Tryz.prog w 0 (fun _=>true) true n 2 (([c0,c1,c2,c3,c4].drop 2).take (Tryz.prog.cellsOf 2))=xs[2]?:=hf 2 _ rfl;have h3:DataW.trod enc Tryz.prog w 0 (fun _=>true) true n 35 (([c0,c1,c2,c3,c4].drop 3).take (Tryz.prog.cellsOf 35))=xs[3]?:=hf 3 _ rfl;have h4:DataW.trod enc Tryz.prog w 0 (fun _=>true) true n 37 (([c0,c1,c2,c3,c4].drop 4).take (Tryz.prog.cellsOf 37))=xs[4]?:=hf 4 _ rfl;rw [List.getElem?_eq_getElem (by omega)] at h0;obtain⟨a0,e0,d0⟩:=(iS Tryz.underlying3) _ _ _ h0 (cV Tryz.underlying42 hw (j:=0) rfl (by rw [List.getElem?_map,List.getElem?_eq_getElem (by omega)];rfl))
  have q0:[c0]=[.int .i64 a0]:=by
   have hk:Tryz.prog.cellsOf 3=1:=by kernel_rfl
   rw [hk] at e0;exact e0
  clear e0;simp only [List.cons.injEq,and_true] at q0;rw [List.getElem?_eq_getElem (by omega)] at h1;obtain⟨a1,e1,d1⟩:=(iS Tryz.underlying3) _ _ _ h1 (cV Tryz.underlying42 hw (j:=1) rfl (by rw [List.getElem?_map,List.getElem?_eq_getElem (by omega)];rfl))
  have q1:[c1]=[.int .i64 a1]:=by
   have hk:Tryz.prog.cellsOf 3=1:=by kernel_rfl
   rw [hk] at e1;exact e1
  clear e1;simp only [List.cons.injEq,and_true] at q1;rw [List.getElem?_eq_getElem (by omega)] at h2;obtain⟨a2,e2,d2⟩:=(iS Tryz.underlying2) _ _ _ h2 (cV Tryz.underlying42 hw (j:=2) rfl (by rw [List.getElem?_map,List.getElem?_eq_getElem (by omega)];rfl))
  have q2:[c2]=[.int .i64 a2]:=by
   have hk:Tryz.prog.cellsOf 2=1:=by kernel_rfl
   rw [hk] at e2;exact e2
  clear e2;simp only [List.cons.injEq,and_true] at q2;rw [List.getElem?_eq_getElem (by omega)] at h3;obtain⟨a3,e3,d3⟩:=(fV (T:=lZ) (b:=16) Tryz.underlying35 (by kernel_rfl) (by kernel_rfl) rA) _ _ _ h3 (cV Tryz.underlying42 hw (j:=3) rfl (by rw [List.getElem?_map,List.getElem?_eq_getElem (by omega)];rfl))
  have q3:[c3]=[.slice a3.addr a3.list.length a3.cap]:=by
   have hk:Tryz.prog.cellsOf 35=1:=by kernel_rfl
   rw [hk] at e3;exact e3
  clear e3;simp only [List.cons.injEq,and_true] at q3;rw [List.getElem?_eq_getElem (by omega)] at h4;obtain⟨a4,e4,d4⟩:=(iS Tryz.underlying37) _ _ _ h4 (cV Tryz.underlying42 hw (j:=4) rfl (by rw [List.getElem?_map,List.getElem?_eq_getElem (by omega)];rfl))
  have q4:[c4]=[.int .u8 a4]:=by
   have hk:Tryz.prog.cellsOf 37=1:=by kernel_rfl
   rw [hk] at e4;exact e4
  clear e4;simp only [List.cons.injEq,and_true] at q4;obtain rfl:=q0;obtain rfl:=q1;obtain rfl:=q2;obtain rfl:=q3;obtain rfl:=q4;exact⟨⟨a0,a1,a2,a3,a4⟩,rfl,d0,d1,d2,d3,d4,trivial⟩
def bufTy:Ty jV:=⟨bAf,fun x=>((((lZ.slice 16).slicec 24)).deep x.sides).and ((bI.pure ((Lit.int .i64 x.input).wf=true)).and (bI.true))⟩
set_option maxRecDepth 100000 in
theorem opens_buf{H:Type}{enc:TypeId×Value→H}{w:World}:nP enc Tryz.prog w 47 bAf.cells bufTy.deep:=fun fuel cs x h hw=>by
 obtain⟨xs,n,_,rfl,hlen,hxl,hf⟩:=DataW.trod_struct Tryz.underlying47 h;have hc:Tryz.prog.cellsOf 47=2:=by kernel_rfl
 rw [hc] at hlen;have hxl':xs.length=2:=hxl
 match cs,hlen with
 | [c0,c1],_=>
  have h0:DataW.trod enc Tryz.prog w 0 (fun _=>true) true n 36 (([c0,c1].drop 0).take (Tryz.prog.cellsOf 36))=xs[0]?:=hf 0 _ rfl;have h1:DataW.trod enc Tryz.prog w 0 (fun _=>true) true n 3 (([c0,c1].drop 1).take (Tryz.prog.cellsOf 3))=xs[1]?:=hf 1 _ rfl;rw [List.getElem?_eq_getElem (by omega)] at h0;obtain⟨a0,e0,d0⟩:=(oC Tryz.underlying36 (fV (T:=(lZ.slice 16)) (b:=24) Tryz.underlying36 (by kernel_rfl) (by kernel_rfl) (fV (T:=lZ) (b:=16) Tryz.underlying35 (by kernel_rfl) (by kernel_rfl) rA))) _ _ _ h0 (cV Tryz.underlying47 hw (j:=0) rfl (by rw [List.getElem?_map,List.getElem?_eq_getElem (by omega)];rfl))
  have q0:[c0]=[.slice a0.addr a0.list.length a0.cap]:=by
   have hk:Tryz.prog.cellsOf 36=1:=by kernel_rfl
   rw [hk] at e0;exact e0
  clear e0;simp only [List.cons.injEq,and_true] at q0;rw [List.getElem?_eq_getElem (by omega)] at h1;obtain⟨a1,e1,d1⟩:=(iS Tryz.underlying3) _ _ _ h1 (cV Tryz.underlying47 hw (j:=1) rfl (by rw [List.getElem?_map,List.getElem?_eq_getElem (by omega)];rfl))
  have q1:[c1]=[.int .i64 a1]:=by
   have hk:Tryz.prog.cellsOf 3=1:=by kernel_rfl
   rw [hk] at e1;exact e1
  clear e1;simp only [List.cons.injEq,and_true] at q1;obtain rfl:=q0;obtain rfl:=q1;exact⟨⟨a0,a1⟩,rfl,d0,d1,trivial⟩
def bDs:Ty gQ:=⟨zQ,fun x=>(bI.pure ((Lit.int .i64 x.how).wf=true)).and ((bI.pure ((Lit.int .i64 x.buf).wf=true)).and ((((lZ.slice 16)).deep x.at_).and (((((lZ.slice 16).slicec 24)).deep x.loops).and ((bI.pure ((Lit.int .u8 x.fn).wf=true)).and ((((opTy.slicec 56)).deep x.ops).and (bI.true))))))⟩
set_option maxRecDepth 100000 in
theorem opens_step{H:Type}{enc:TypeId×Value→H}{w:World}:nP enc Tryz.prog w 40 zQ.cells bDs.deep:=fun fuel cs x h hw=>by
 obtain⟨xs,n,_,rfl,hlen,hxl,hf⟩:=DataW.trod_struct Tryz.underlying40 h;have hc:Tryz.prog.cellsOf 40=6:=by kernel_rfl
 rw [hc] at hlen;have hxl':xs.length=6:=hxl
 match cs,hlen with
 | [c0,c1,c2,c3,c4,c5],_=>
  have h0:DataW.trod enc Tryz.prog w 0 (fun _=>true) true n 3 (([c0,c1,c2,c3,c4,c5].drop 0).take (Tryz.prog.cellsOf 3))=xs[0]?:=hf 0 _ rfl;have h1:DataW.trod enc Tryz.prog w 0 (fun _=>true) true n 3 (([c0,c1,c2,c3,c4,c5].drop 1).take (Tryz.prog.cellsOf 3))=xs[1]?:=hf 1 _ rfl;have h2:DataW.trod enc Tryz.prog w 0 (fun _=>true) true n 35 (([c0,c1,c2,c3,c4,c5].drop 2).take (Tryz.prog.cellsOf 35))=xs[2]?:=hf 2 _ rfl;have h3:DataW.trod enc Tryz.prog w 0 (fun _=>true) true n 36 (([c0,c1,c2,c3,c4,c5].drop 3).take (Tryz.prog.cellsOf 36))=xs[3]?:=hf 3 _ rfl;have h4:DataW.trod enc Tryz.prog w 0 (fun _=>true) true n 37 (([c0,c1,c2,c3,c4,c5].drop 4).take (Tryz.prog.cellsOf 37))=xs[4]?:=hf 4 _ rfl;have h5:DataW.trod enc Tryz.prog w 0 (fun _=>true) true n 38 (([c0,c1,c2,c3,c4,c5].drop 5).take (Tryz.prog.cellsOf 38))=xs[5]?:=hf 5 _ rfl;rw [List.getElem?_eq_getElem (by omega)] at h0;obtain⟨a0,e0,d0⟩:=(iS Tryz.underlying3) _ _ _ h0 (cV Tryz.underlying40 hw (j:=0) rfl (by rw [List.getElem?_map,List.getElem?_eq_getElem (by omega)];rfl))
  have q0:[c0]=[.int .i64 a0]:=by
   have hk:Tryz.prog.cellsOf 3=1:=by kernel_rfl
   rw [hk] at e0;exact e0
  clear e0;simp only [List.cons.injEq,and_true] at q0;rw [List.getElem?_eq_getElem (by omega)] at h1;obtain⟨a1,e1,d1⟩:=(iS Tryz.underlying3) _ _ _ h1 (cV Tryz.underlying40 hw (j:=1) rfl (by rw [List.getElem?_map,List.getElem?_eq_getElem (by omega)];rfl))
  have q1:[c1]=[.int .i64 a1]:=by
   have hk:Tryz.prog.cellsOf 3=1:=by kernel_rfl
   rw [hk] at e1;exact e1
  clear e1;simp only [List.cons.injEq,and_true] at q1;rw [List.getElem?_eq_getElem (by omega)] at h2;obtain⟨a2,e2,d2⟩:=(fV (T:=lZ) (b:=16) Tryz.underlying35 (by kernel_rfl) (by kernel_rfl) rA) _ _ _ h2 (cV Tryz.underlying40 hw (j:=2) rfl (by rw [List.getElem?_map,List.getElem?_eq_getElem (by omega)];rfl))
  have q2:[c2]=[.slice a2.addr a2.list.length a2.cap]:=by
   have hk:Tryz.prog.cellsOf 35=1:=by kernel_rfl
   rw [hk] at e2;exact e2
  clear e2;simp only [List.cons.injEq,and_true] at q2;rw [List.getElem?_eq_getElem (by omega)] at h3;obtain⟨a3,e3,d3⟩:=(oC Tryz.underlying36 (fV (T:=(lZ.slice 16)) (b:=24) Tryz.underlying36 (by kernel_rfl) (by kernel_rfl) (fV (T:=lZ) (b:=16) Tryz.underlying35 (by kernel_rfl) (by kernel_rfl) rA))) _ _ _ h3 (cV Tryz.underlying40 hw (j:=3) rfl (by rw [List.getElem?_map,List.getElem?_eq_getElem (by omega)];rfl))
  have q3:[c3]=[.slice a3.addr a3.list.length a3.cap]:=by
   have hk:Tryz.prog.cellsOf 36=1:=by kernel_rfl
   rw [hk] at e3;exact e3
  clear e3;simp only [List.cons.injEq,and_true] at q3;rw [List.getElem?_eq_getElem (by omega)] at h4;obtain⟨a4,e4,d4⟩:=(iS Tryz.underlying37) _ _ _ h4 (cV Tryz.underlying40 hw (j:=4) rfl (by rw [List.getElem?_map,List.getElem?_eq_getElem (by omega)];rfl))
  have q4:[c4]=[.int .u8 a4]:=by
   have hk:Tryz.prog.cellsOf 37=1:=by kernel_rfl
   rw [hk] at e4;exact e4
  clear e4;simp only [List.cons.injEq,and_true] at q4;rw [List.getElem?_eq_getElem (by omega)] at h5;obtain⟨a5,e5,d5⟩:=(oC Tryz.underlying38 (fV (T:=opTy) (b:=56) Tryz.underlying38 (by kernel_rfl) (by kernel_rfl) opens_op)) _ _ _ h5 (cV Tryz.underlying40 hw (j:=5) rfl (by rw [List.getElem?_map,List.getElem?_eq_getElem (by omega)];rfl))
  have q5:[c5]=[.slice a5.addr a5.list.length a5.cap]:=by
   have hk:Tryz.prog.cellsOf 38=1:=by kernel_rfl
   rw [hk] at e5;exact e5
  clear e5;simp only [List.cons.injEq,and_true] at q5;obtain rfl:=q0;obtain rfl:=q1;obtain rfl:=q2;obtain rfl:=q3;obtain rfl:=q4;obtain rfl:=q5;exact⟨⟨a0,a1,a2,a3,a4,a5⟩,rfl,d0,d1,d2,d3,d4,d5,trivial⟩
def coreTy:Ty iF:=⟨coreE,fun x=>(bI.pure ((Lit.int .i64 x.vars).wf=true)).and ((((bufTy.slicec 32)).deep x.bufs).and ((((bDs.slicec 96)).deep x.steps).and ((((intTy.slicec 8)).deep x.outs).and (bI.true))))⟩
set_option maxRecDepth 100000 in
theorem opens_core{H:Type}{enc:TypeId×Value→H}{w:World}:nP enc Tryz.prog w 26 coreE.cells coreTy.deep:=fun fuel cs x h hw=>by
 obtain⟨xs,n,_,rfl,hlen,hxl,hf⟩:=DataW.trod_struct Tryz.underlying26 h;have hc:Tryz.prog.cellsOf 26=4:=by kernel_rfl
 rw [hc] at hlen;have hxl':xs.length=4:=hxl
 match cs,hlen with
 | [c0,c1,c2,c3],_=>
  have h0:DataW.trod enc Tryz.prog w 0 (fun _=>true) true n 3 (([c0,c1,c2,c3].drop 0).take (Tryz.prog.cellsOf 3))=xs[0]?:=hf 0 _ rfl;have h1:DataW.trod enc Tryz.prog w 0 (fun _=>true) true n 22 (([c0,c1,c2,c3].drop 1).take (Tryz.prog.cellsOf 22))=xs[1]?:=hf 1 _ rfl;have h2:DataW.trod enc Tryz.prog w 0 (fun _=>true) true n 23 (([c0,c1,c2,c3].drop 2).take (Tryz.prog.cellsOf 23))=xs[2]?:=hf 2 _ rfl;have h3:DataW.trod enc Tryz.prog w 0 (fun _=>true) true n 24 (([c0,c1,c2,c3].drop 3).take (Tryz.prog.cellsOf 24))=xs[3]?:=hf 3 _ rfl;rw [List.getElem?_eq_getElem (by omega)] at h0;obtain⟨a0,e0,d0⟩:=(iS Tryz.underlying3) _ _ _ h0 (cV Tryz.underlying26 hw (j:=0) rfl (by rw [List.getElem?_map,List.getElem?_eq_getElem (by omega)];rfl))
  have q0:[c0]=[.int .i64 a0]:=by
   have hk:Tryz.prog.cellsOf 3=1:=by kernel_rfl
   rw [hk] at e0;exact e0
  clear e0;simp only [List.cons.injEq,and_true] at q0;rw [List.getElem?_eq_getElem (by omega)] at h1;obtain⟨a1,e1,d1⟩:=(oC Tryz.underlying22 (fV (T:=bufTy) (b:=32) Tryz.underlying22 (by kernel_rfl) (by kernel_rfl) opens_buf)) _ _ _ h1 (cV Tryz.underlying26 hw (j:=1) rfl (by rw [List.getElem?_map,List.getElem?_eq_getElem (by omega)];rfl))
  have q1:[c1]=[.slice a1.addr a1.list.length a1.cap]:=by
   have hk:Tryz.prog.cellsOf 22=1:=by kernel_rfl
   rw [hk] at e1;exact e1
  clear e1;simp only [List.cons.injEq,and_true] at q1;rw [List.getElem?_eq_getElem (by omega)] at h2;obtain⟨a2,e2,d2⟩:=(oC Tryz.underlying23 (fV (T:=bDs) (b:=96) Tryz.underlying23 (by kernel_rfl) (by kernel_rfl) opens_step)) _ _ _ h2 (cV Tryz.underlying26 hw (j:=2) rfl (by rw [List.getElem?_map,List.getElem?_eq_getElem (by omega)];rfl))
  have q2:[c2]=[.slice a2.addr a2.list.length a2.cap]:=by
   have hk:Tryz.prog.cellsOf 23=1:=by kernel_rfl
   rw [hk] at e2;exact e2
  clear e2;simp only [List.cons.injEq,and_true] at q2;rw [List.getElem?_eq_getElem (by omega)] at h3;obtain⟨a3,e3,d3⟩:=(oC Tryz.underlying24 (fV (T:=intTy) (b:=8) Tryz.underlying24 (by kernel_rfl) (by kernel_rfl) (iS Tryz.underlying3))) _ _ _ h3 (cV Tryz.underlying26 hw (j:=3) rfl (by rw [List.getElem?_map,List.getElem?_eq_getElem (by omega)];rfl))
  have q3:[c3]=[.slice a3.addr a3.list.length a3.cap]:=by
   have hk:Tryz.prog.cellsOf 24=1:=by kernel_rfl
   rw [hk] at e3;exact e3
  clear e3;simp only [List.cons.injEq,and_true] at q3;obtain rfl:=q0;obtain rfl:=q1;obtain rfl:=q2;obtain rfl:=q3;exact⟨⟨a0,a1,a2,a3⟩,rfl,d0,d1,d2,d3,trivial⟩
section
variable {S : Nat → Prop} {w : World}
theorem pol_of{p:PolV}(h:((lZ.slice 16).deep p).p S w):(fG p).p S w:=by
 obtain⟨⟨c1,c2⟩,c3⟩:=h;have c3:p.list.length*16≤140737488355328:=c3;exact⟨c1,by show p.list.length≤8796093022208;omega⟩
theorem list_of{l:Sl PolV}(h:(((lZ.slice 16).slicec 24).deep l).p S w):(mX l).p S w:=by
 obtain⟨⟨⟨a1,a2⟩,a3⟩,a4⟩:=h;exact⟨⟨a1,fun p hp=>pol_of (a2 p hp)⟩,a4,a3⟩
theorem op_of{o:OpV}(h:(opTy.deep o).p S w):(opF o).p S w:=pol_of h.2.2.2.1
theorem ops_of{l:Sl OpV}(h:((opTy.slicec 56).deep l).p S w):(opsF l).p S w:=by
 obtain⟨⟨⟨a1,a2⟩,a3⟩,a4⟩:=h;exact⟨⟨a1,fun p hp=>op_of (a2 p hp)⟩,a4,a3⟩
theorem buf_of{b:jV}(h:(bufTy.deep b).p S w):(bufF b).p S w:=list_of h.1
theorem bufs_of{l:Sl jV}(h:((bufTy.slicec 32).deep l).p S w):(bufsF l).p S w:=by
 obtain⟨⟨⟨a1,a2⟩,a3⟩,a4⟩:=h;exact⟨⟨a1,fun p hp=>buf_of (a2 p hp)⟩,a4,a3⟩
theorem step_of{s:gQ}(h:(bDs.deep s).p S w):(sC s).p S w:=⟨pol_of h.2.2.1,list_of h.2.2.2.1,ops_of h.2.2.2.2.2.1⟩
theorem steps_of{l:Sl gQ}(h:((bDs.slicec 96).deep l).p S w):(bAw l).p S w:=by
 obtain⟨⟨⟨a1,a2⟩,a3⟩,a4⟩:=h;exact⟨⟨a1,fun p hp=>step_of (a2 p hp)⟩,a4,a3⟩
theorem outs_of{l:Sl Int}(h:((intTy.slicec 8).deep l).p S w):(outsF l).p S w:=by
 obtain⟨⟨⟨a1,a2⟩,a3⟩,a4⟩:=h;exact⟨a1,a4,a3⟩
theorem core_of{c:iF}(h:(coreTy.deep c).p S w):(oT c).p S w:=⟨bufs_of h.2.1,steps_of h.2.2.1,outs_of h.2.2.2.1⟩
end
end Go.Proofs.YtofjmphlpdhohaaGreatDoor
namespace Go.Proofs.YtofjmphlpdhohaaGreatDoor
open Go.RowKit Go.Sort
set_option maxRecDepth 100000
def bFd (n:Int):Mono:=⟨n,0,0,0,0,0,0⟩
def iC (n:Int):List Mono×Int:=if n=0 then ([],0) else if 16777216<n∨n< -16777216 then ([],21) else ([bFd n],0)
theorem bFq(n:Int)(w:World):(Instr.build 45 #[(0,.int .i64 n)]).run Tryz.prog w= .ok (.agg #[.int .i64 n,.int .u8 0,.int .u8 0,.int .u8 0,.int .u8 0,.int .u8 0,.int .u8 0]) w:=run_build w _ _ _ (by kernel_rfl)
theorem res_one(w:World)(m:Mono):Res w.heap.size (w.alloc (.cells #[.int .i64 m.n,.int .u8 m.e0.toNat,.int .u8 m.e1.toNat,.int .u8 m.e2.toNat,.int .u8 m.e3.toNat,.int .u8 m.e4.toNat,.int .u8 m.e5.toNat] 45)) (.slice (some ⟨w.heap.size,0,none⟩) 1 1) [m]:=by
 refine⟨_,1,rfl,.inr ⟨w.heap.size,rfl,Nat.le_refl _,?_⟩⟩
 have h:bFj (w.alloc (.cells #[.int .i64 m.n,.int .u8 m.e0.toNat,.int .u8 m.e1.toNat,.int .u8 m.e2.toNat,.int .u8 m.e3.toNat,.int .u8 m.e4.toNat,.int .u8 m.e5.toNat] 45)) w.heap.size (.slice (some ⟨w.heap.size,0,none⟩) [m].length 1) [m]:=
  ⟨rfl,.inr ⟨w.heap.size,1,#[.int .i64 m.n,.int .u8 m.e0.toNat,.int .u8 m.e1.toNat,.int .u8 m.e2.toNat,.int .u8 m.e3.toNat,.int .u8 m.e4.toNat,.int .u8 m.e5.toNat],rfl,Nat.le_refl _,heap_alloc_new _ _,Nat.le_refl _,by simp [maxLen],rfl,rfl⟩⟩
 exact h.row
set_option maxHeartbeats 400000 in
theorem const_any(n:Int)(w:World):Calls Tryz.prog 101 #[.int .i64 n] w (wP w (iC n)):=by
 have hbn:=bFq
 by_cases h0:n=0
 ·have e:iC n=([],0):=by unfold iC;rw [if_pos h0]
  rw [e];subst h0
  go_enter Tryz.func101,Tryz.ntmps101
  go_wp2
  go_ret2
  exact⟨_,rfl,Below.refl _ _,Res.nil _ _ _ _⟩
 ·have h01:(n==0)=false:=by simpa using h0
  by_cases h1:16777216<n
  ·have e:iC n=([],21):=by unfold iC;rw [if_neg h0,if_pos (.inl h1)]
   rw [e];have h11:decide (16777216<n)=true:=by simpa using h1
   go_enter Tryz.func101,Tryz.ntmps101
   go_wp2
   go_ret2
   exact⟨_,rfl,Below.refl _ _,Res.nil _ _ _ _⟩
  ·have h11:decide (16777216<n)=false:=by simpa using h1
   by_cases h2:n< -16777216
   ·have e:iC n=([],21):=by unfold iC;rw [if_neg h0,if_pos (.inr h2)]
    rw [e];have h21:decide (n< -16777216)=true:=by simpa using h2
    go_enter Tryz.func101,Tryz.ntmps101
    go_wp2
    go_ret2
    exact⟨_,rfl,Below.refl _ _,Res.nil _ _ _ _⟩
   ·have e:iC n=([bFd n],0):=by unfold iC;rw [if_neg h0,if_neg (by omega)]
    rw [e];have h21:decide (n< -16777216)=false:=by simpa using h2
    go_enter Tryz.func101,Tryz.ntmps101
    go_wp2
    go_ret2
    exact⟨_,rfl,by go_grown,res_one w (bFd n)⟩
set_option maxHeartbeats 400000 in
theorem add_any(A B:Option Addr)(c d:Nat)(p q:List Mono)(w:World)(ha:gZ w A p)(hb:gZ w B q)(hp:p.length≤140737488355328)(hq:q.length≤140737488355328):
  Calls Tryz.prog 104 #[.slice A p.length c,.slice B q.length d] w (wP w (bothP p q 1)):=by
 have H:=Lib.hid (both_any A B c d p q 1 w ha hb hp hq);clear ha hb
 go_enter Tryz.func104,Tryz.ntmps104
 go_wp2_with fail
 refine H.out.mono ?_;rintro e w1 ⟨v,rfl,hb1,hv⟩;have HB:=Lib.hid hb1;have HV:=Lib.hid hv;clear hb1 hv
 go_wp2
 go_ret2
 exact⟨_,rfl,HB.out,HV.out⟩
end Go.Proofs.YtofjmphlpdhohaaGreatDoor
namespace Go.Proofs.YtofjmphlpdhohaaGreatDoor
open Go.RowKit
def mK:List (List Mono)→List Mono→Option (List Mono)
 | [],n=>some n
 | p::r,n=>if (jN n p).2=0 then mK r (jN n p).1 else none
def sizeC (sides:List (List Mono)):Option (List Mono):=mK sides (iC 1).1
structure SpC where
 at_:List Mono
 size:List Mono
 deriving DecidableEq
structure PlC where
 ats:List (List Mono)
 end_:List Mono
 free:List SpC
 laid:List (Option SpC)
def yF (n:List Mono)(again:Bool)(l:List SpC):Option (Nat×SpC):=
 if again=true∧n≠[] then match l.findIdx? (fun q=>decide (q.size=n)) with
  | none=>none
  | some i=>match l[i]? with
   | none=>none
   | some q=>some (i,q)
 else none
def layC (sides:List (List Mono))(b:Nat)(again:Bool)(s:PlC):Option PlC:=match sizeC sides with
 | none=>none
 | some n=>match yF n again s.free with
  | some (i,q)=>some {s with free:=s.free.eraseIdx i,laid:=s.laid.set b (some q),ats:=s.ats.set b q.at_}
  | none=>if (bothP s.end_ n 1).2=0 then some {s with end_:=(bothP s.end_ n 1).1,laid:=s.laid.set b (some ⟨s.end_,n⟩),ats:=s.ats.set b s.end_} else none
def relGo (i:Int):List LifeC→List (Option SpC)→List (Option SpC)×List SpC
 | y::ys,some q::r=>if y.to_<i then (none::(relGo i ys r).1,if q.size=[] then (relGo i ys r).2 else q::(relGo i ys r).2) else (some q::(relGo i ys r).1,(relGo i ys r).2)
 | _::ys,none::r=>(none::(relGo i ys r).1,(relGo i ys r).2)
 | [],l=>(l,[])
 | _,[]=>([],[])
def relC (i:Int)(l:List LifeC)(s:PlC):PlC:={s with laid:=(relGo i l s.laid).1,free:=s.free++(relGo i l s.laid).2}
def lJ (bufs:List kZ)(l:List LifeC):Nat→Nat→PlC→Option PlC
 | 0,_,s=>some s
 | m+1,b,s=>match bufs[b]?,l[b]? with
  | some u,some y=>if y.from_<0 then match layC u.sides b false s with
    | none=>none
    | some s'=>lJ bufs l m (b+1) s'
   else lJ bufs l m (b+1) s
  | _,_=>none
def goC (c:fL)(l:List LifeC)(w:List Bool):List dU→Nat→PlC→Option PlC
 | [],_,s=>some s
 | x::r,i,s=>match c.bufs[x.buf.toNat]?,l[x.buf.toNat]?,w[x.buf.toNat]? with
  | some u,some y,some t=>if y.from_=(i:Int) then match layC u.sides x.buf.toNat t (relC i l s) with
    | none=>none
    | some s'=>goC c l w r (i+1) s'
   else goC c l w r (i+1) s
  | _,_,_=>none
def qR (n:Nat):PlC:=⟨List.replicate n [],[],[],List.replicate n none⟩
def rG (c:fL):Option (List (List Mono)×List Mono):=match lJ c.bufs (livesC c) c.bufs.length 0 (qR c.bufs.length) with
 | none=>none
 | some s=>match goC c (livesC c) (fullC c) c.steps 0 s with
  | none=>none
  | some s=>some (s.ats,s.end_)
end Go.Proofs.YtofjmphlpdhohaaGreatDoor
namespace Go.Proofs.YtofjmphlpdhohaaGreatDoor
section
variable {α : Type} (key : α → Int)
def nO (l:List α):Prop:= ∀k a b,1≤k→l[(k-1)/2]?=some a→l[k]?=some b→key a≤key b
def bEh (l:List α)(i:Nat):Prop:=(∀k a b,1≤k→(k-1)/2≠i→l[(k-1)/2]?=some a→l[k]?=some b→key a≤key b)∧
 ∀k a b,1≤k→1≤i→(k-1)/2=i→l[(i-1)/2]?=some a→l[k]?=some b→key a≤key b
variable {key} {l : List α} {i j : Nat} {x y z : α}
theorem heap_min(h:nO key l)(h0:l[0]?=some x): ∀(k:Nat) b,l[k]?=some b→key x≤key b:=by
 intro k
 induction k using Nat.strongRecOn with
 | ind k ih=>
  intro b hb
  rcases Nat.eq_zero_or_pos k with rfl | hk
  ·rw [h0] at hb;cases hb;exact Int.le_refl _
  ·have hlt:=(List.getElem?_eq_some_iff.1 hb).1
   obtain⟨a,ha⟩: ∃a,l[(k-1)/2]?=some a:=⟨_,List.getElem?_eq_getElem (by omega)⟩
   exact Int.le_trans (ih _ (by omega) a ha) (h k a b hk ha hb)
theorem heap_push(h:nO key l)(hs: ∀b∈l,key b≤key x):nO key (l++[x]):=fun k a b hk ha hb=>by
 rcases Nat.lt_trichotomy k l.length with h1 | h1 | h1
 ·rw [List.getElem?_append_left (by omega)] at ha hb;exact h k a b hk ha hb
 ·rw [h1,List.getElem?_append_right (by omega),Nat.sub_self] at hb;cases hb;rw [List.getElem?_append_left (by omega)] at ha;exact hs a (List.mem_of_getElem? ha)
 ·rw [List.getElem?_eq_none (by simp;omega)] at hb;cases hb
theorem sink_start(h:nO key l):bEh key ((l.take j).set 0 x) 0:=by
 refine⟨fun k a b hk h0 ha hb=>?_,fun k a b _ h1=>absurd h1 (by omega)⟩;rw [List.getElem?_set_ne (by omega)] at ha hb;rw [List.getElem?_take] at ha hb;split at hb
 ·split at ha
  ·exact h k a b hk ha hb
  ·cases ha
 ·cases hb
theorem bCc(h:bEh key l i)(hx:l[i]?=some x)(hn: ∀k b,1≤k→(k-1)/2=i→l[k]?=some b→key x≤key b):nO key l:=fun k a b hk ha hb=>by
 by_cases e:(k-1)/2=i
 ·rw [e,hx] at ha;cases ha;exact hn k b hk e hb
 ·exact h.1 k a b hk e ha hb
theorem xZ(h:bEh key l i)(hx:l[i]?=some x)(hy:l[j]?=some y)(hj:1≤j)(hp:(j-1)/2=i)(hlt:key y≤key x)(hm: ∀k b,1≤k→(k-1)/2=i→l[k]?=some b→key y≤key b):bEh key ((l.set i y).set j x) j:=by
 have hi:=(List.getElem?_eq_some_iff.1 hx).1;have hjl:=(List.getElem?_eq_some_iff.1 hy).1;have hij:i≠j:=by omega
 have get: ∀k,((l.set i y).set j x)[k]?=if k=j then some x else if k=i then some y else l[k]?:=fun k=>by
  by_cases h1:k=j
  ·subst h1;rw [if_pos rfl,List.getElem?_set_self (by simpa using hjl)]
  ·rw [if_neg h1,List.getElem?_set_ne (Ne.symm h1)]
   by_cases h2:k=i
   ·subst h2;rw [if_pos rfl,List.getElem?_set_self hi]
   ·rw [if_neg h2,List.getElem?_set_ne (Ne.symm h2)]
 refine⟨fun k a b hk hne ha hb=>?_,fun k a b hk _ hkj ha hb=>?_⟩
 ·rw [get] at ha hb;rw [if_neg hne] at ha
  by_cases hpi:(k-1)/2=i
  ·rw [if_pos hpi] at ha;cases ha
   by_cases hkj:k=j
   ·rw [if_pos hkj] at hb;cases hb;exact hlt
   ·rw [if_neg hkj,if_neg (by omega)] at hb;exact hm k b hk hpi hb
  ·rw [if_neg hpi] at ha
   by_cases hkj:k=j
   ·omega
   ·rw [if_neg hkj] at hb
    by_cases hki:k=i
    ·rw [if_pos hki] at hb;cases hb;rw [hki] at ha;exact h.2 j a y hj (by omega) hp ha hy
    ·rw [if_neg hki] at hb;exact h.1 k a b hk hpi ha hb
 ·rw [get] at ha hb;rw [hp,if_neg hij,if_pos rfl] at ha;cases ha;rw [if_neg (by omega),if_neg (by omega)] at hb;exact h.1 k y b hk (by omega) (by rw [hkj];exact hy) hb
end
theorem bAh{P:Program}(w:World)(dT sT ty elem:TypeId)(z b o dLen dCap:Nat)(a:Addr)(sLen sCap:Nat)(cs:List Value)
  (hu:P.underlying dT=some (.slice elem)) (hs:(P.info? elem).map (·.size)=some z) (hn:cs.length=Nat.min sLen dLen*z)
  (hsrc: ∀j v,cs[j]?=some v→w.cell? (a.add j)=some v) (hc: ∀j,j<cs.length→(w.cell? ⟨b,o+j,none⟩).isSome=true) (hf: ∀j,j<cs.length→w.frozen? ⟨b,o+j,none⟩=false) (h1: ∀v∈cs,v.oneCell'=true):
  (Builtin.copy_ #[dT,sT] ty #[.slice (some ⟨b,o,none⟩) dLen dCap,.slice (some a) sLen sCap]).run P w= .ok (goInt (Nat.min sLen dLen)) (w.setCells b o cs):=by
 have hl:=run_loadCells_list (P:=P) w a cs hsrc;have hst:=run_storeCells_cells (P:=P) b o cs 0 w (by simpa using hc) (by simpa using hf) h1
 cases hq:P.info? elem with
 | none=>simp [hq] at hs
 | some i=>
  have hi:i.size=z:=by simpa [hq] using hs
  rw [hn] at hl;simp [Builtin.copy_,run_underlying hu,Builtin.lenOf,Builtin.firstCells,sizeOf,typeInfo,hq,hi,hl,hst]
theorem bDq{P:Program}(w:World)(dT sT ty elem:TypeId)(z:Nat)(d a:Option Addr)(dLen dCap sLen sCap:Nat)(hu:P.underlying dT=some (.slice elem))(hs:(P.info? elem).map (·.size)=some z)(hn:Nat.min sLen dLen=0):
  (Builtin.copy_ #[dT,sT] ty #[.slice d dLen dCap,.slice a sLen sCap]).run P w= .ok (goInt 0) w:=by
 cases hq:P.info? elem with
 | none=>simp [hq] at hs
 | some i=>
  have hl: ∀(x:Addr),(loadCells x 0).run P w= .ok #[] w:=fun x=>by simpa using run_loadCells_list (P:=P) w x [] (by simp)
  cases d<;>cases a<;>simp [Builtin.copy_,run_underlying hu,Builtin.lenOf,Builtin.firstCells,sizeOf,typeInfo,hq,hn,storeCells,hl]
section
variable {α : Type} {E : Flat α} {β : fB} {H : List bJ} {F : List bI}
theorem bV.cellsE{A:Option Addr}{xs:List α}{w:World}{S:iX}(hr:bV β H F E A xs)(s:St β H S w)(hF:All F S w)(h0:0<xs.length):
  ∃b off,A=some ⟨b,off,none⟩∧ ∀j u,(E.all xs)[j]?=some u→w.cell? ((⟨b,off,none⟩:Addr).add j)=some u:=by
 obtain⟨⟨b,off,rfl⟩,_⟩:=hr w S s hF 0 _ (List.getElem?_eq_getElem h0);refine⟨b,off,rfl,fun j u hj=>?_⟩;have hlt:=(List.getElem?_eq_some_iff.1 hj).1;rw [E.all_length] at hlt;have hk:j/E.size<xs.length:=Nat.div_lt_of_lt_mul (by rwa [Nat.mul_comm] at hlt);have hm:j%E.size<E.size:=Nat.mod_lt _ E.pos;have hx':=List.getElem?_eq_getElem hk;have hu':=List.getElem?_eq_getElem (l:=E.cells xs[j/E.size]) (i:=j%E.size) (by rw [E.len];exact hm);have e:j/E.size*E.size+j%E.size=j:=by rw [Nat.mul_comm];exact Nat.div_add_mod j E.size
 have h1:=(hr w S s hF _ _ hx').2 _ _ hu';have h2:=E.all_get hx' hu';rw [e,hj] at h2;injection h2 with h2
 have h3:=h1.trans (congrArg some h2.symm);rw [Nat.add_assoc,e] at h3;rw [Addr.add_mid];exact h3
theorem bV.preE{A:Option Addr}{xs:List α}(h:bV β H F E A xs)(r:Nat):bV β H F E A (xs.take r):=fun w S s hF k x hk=>by
 rw [List.getElem?_take] at hk;split at hk
 ·exact h w S s hF k x hk
 ·cases hk
theorem all_take(xs:List α)(q:Nat)(h:q≤xs.length):(E.all xs).take (q*E.size)=E.all (xs.take q):=by
 have e:(E.all (xs.take q)).length=q*E.size:=by rw [E.all_length,List.length_take,Nat.min_eq_left h]
 conv=>lhs;rw [←List.take_append_drop q xs,E.all_append]
 rw [List.take_append_of_le_length (by omega),List.take_of_length_le (by omega)]
theorem all_drop(xs:List α)(q:Nat)(h:q≤xs.length):(E.all xs).drop (q*E.size)=E.all (xs.drop q):=by
 have e:(E.all (xs.take q)).length=q*E.size:=by rw [E.all_length,List.length_take,Nat.min_eq_left h]
 conv=>lhs;rw [←List.take_append_drop q xs,E.all_append]
 rw [List.drop_append_of_le_length (by omega),List.drop_of_length_le (by omega),List.nil_append]
theorem at_copyE{P:Program}{n:Nat}{Γ:Env}{Q:Exit→Act→World→Prop}{ops:Array Oper}{rest:List Oper}{o:Oper}{d:Nat}{x y:Operand}{t e t':TypeId}{g c cap m q off l lc s:Nat}{A:Option Addr}{xs ys:List α}{H':List bJ}(hr:bV β H F E A ys)(hw:want ops Γ o=some true)
  (ho:o.op= .call {callee:= .builtin .copy,args:= #[x,y],argTypes:= #[t,t]}) (hd:o.dst=some d) (hn:Nat.blt d n=true) (hu:P.underlying t=some (.slice e)) (hs:(P.info? e).map (·.size)=some E.size)
  (hx:Γ.ev x=some (.slice (some ⟨g,off,none⟩) l lc)) (hoff:off=q*E.size) (hm:xs.length=m) (hy:Γ.ev y=some (.slice A s c)) (hmin:ys.length=Nat.min s l) (hq:q+ys.length≤m) (hH:dD H (E.row (.slice (some ⟨g,0,none⟩) m cap) t' xs) H')
  (k:At β n ((d,.int .i64 (ys.length:Nat))::Γ) (E.row (.slice (some ⟨g,0,none⟩) m cap) t' (xs.take q++ys++xs.drop (q+ys.length))::H') F (wpList P ops Q rest)):At β n Γ H F (wpList P ops Q (o::rest)):=
 iH hw fun a w S f st hk=>by
  subst hoff;have hl:(E.all ys).length=ys.length*E.size:=E.all_length _;have hlx:(E.all xs).length=m*E.size:=by rw [E.all_length,hm]
  have hle:q*E.size+ys.length*E.size≤m*E.size:=by rw [←Nat.add_mul];exact Nat.mul_le_mul_right _ hq
  have s2:=st.perm hH.perm;have hown:w.ownsRow 0 t' E.size (.slice (some ⟨g,0,none⟩) m cap) xs.length (E.all xs):=st.ok _ hH.mem;rw [hm] at hown
  have hcp:(Builtin.copy_ #[t,t] o.type #[.slice (some ⟨g,q*E.size,none⟩) l lc,.slice A s c]).run P w= .ok (goInt ys.length) (w.setCells g (q*E.size) (E.all ys)):=by
   by_cases h0:0<ys.length
   ·obtain⟨b,off,rfl,hb⟩:=hr.cellsE st hk h0;have:=bAh (P:=P) w t t o.type e E.size g (q*E.size) l lc ⟨b,off,none⟩ s c (E.all ys) hu hs (by rw [hl,hmin]) hb
     (fun j hj=>by
      rw [World.ownsRow.cellAt hown _ (by omega),List.getElem?_eq_getElem (by rw [hlx];omega)]
      rfl) (fun j _=>World.ownsRow.frozenAt hown _) E.all_one
    rwa [←hmin] at this
   ·have e0:ys=[]:=List.length_eq_zero_iff.1 (by omega);subst e0;exact bDq (P:=P) w _ _ o.type e E.size _ A l lc s c hu hs hmin.symm
  have hr':(execOp a.eval o).run P w= .ok (.value (.int .i64 (ys.length:Nat))) (w.setCells g (q*E.size) (E.all ys)):=by
   unfold execOp;simp only [ho,resolve,invoke,builtin,Sem.run_bind,Sem.run_pure,Result.andThen_ok,List.map_toArray,List.map_cons,List.map_nil,f.ev hx,f.ev hy,hcp];rfl
  unfold Oper.wp;rw [hr',Oper.upon_value,hd];refine k _ _ S (f.put (by simpa [Nat.blt_eq] using hn) _) (s2.swap (iK g _ _ w) rfl rfl ?_) (All.mono (fun _ h=>h) (st.agree (iK g _ _ w) (fun c hc e=>by subst e;exact(s2.own _ (List.mem_cons_self ..) _ rfl).2.2 hc)) hk);have:=oS (E.all ys) (q*E.size) w (E.all xs) hown;rw [vI _ _ _ (by rw [hl,hlx];omega),hl,←Nat.add_mul,all_take xs q (by omega),all_drop xs _ (by omega),←E.all_append,←E.all_append] at this;show World.ownsRow _ 0 t' E.size _ _ _;have e:(xs.take q++ys++xs.drop (q+ys.length)).length=m:=by simp;omega
  rw [e];exact this
end
section
variable {α : Type} {p z : α} {n i : Nat} {cur : List α}
def bHg (z p:α)(n i:Nat)(cur:List α):Prop:=cur=List.replicate i p++List.replicate (n-i) z∧i≤n
theorem rep_len(h:bHg z p n i cur):cur.length=n:=by
 rw [h.1];have:=h.2;simp;omega
theorem rep_first(z p:α)(n r:Nat)(hr:r=Nat.min 1 n):bHg z p n r ((List.replicate n z).take 0++List.take r [p]++(List.replicate n z).drop (0+(List.take r [p]).length)):=by
 subst hr
 cases n with
 | zero=>exact⟨rfl,Nat.le_refl _⟩
 | succ n=>
  have:Nat.min 1 (n+1)=1:=by simp
  rw [this];exact⟨by simp,by omega⟩
theorem rep_step(h:bHg z p n i cur)(hi:i<n):bHg z p n (i+Nat.min i (n-i)) (cur.take i++cur.take (Nat.min i (n-i))++cur.drop (i+(cur.take (Nat.min i (n-i))).length)):=by
 obtain⟨rfl,hle⟩:=h;have hm:Nat.min i (n-i)≤i:=Nat.min_le_left _ _;have hm2:Nat.min i (n-i)≤n-i:=Nat.min_le_right _ _;generalize Nat.min i (n-i)=r at*
 have t1:(List.replicate i p++List.replicate (n-i) z).take i=List.replicate i p:=by
  rw [List.take_append_of_le_length (by simp),List.take_of_length_le (by simp)]
 have t2:(List.replicate i p++List.replicate (n-i) z).take r=List.replicate r p:=by
  rw [List.take_append_of_le_length (by simp;omega),List.take_replicate,Nat.min_eq_left hm]
 rw [t1,t2,List.length_replicate];refine⟨?_,by omega⟩
 have t3:(List.replicate i p++List.replicate (n-i) z).drop (i+r)=List.replicate (n-(i+r)) z:=by
  rw [List.drop_append,List.drop_of_length_le (by simp),List.length_replicate,List.drop_replicate,List.nil_append]
  congr 1
  omega
 rw [t3,List.replicate_append_replicate]
theorem rep_l1(p:α)(n:Nat):(List.take (Nat.min 1 n) [p]).length=Nat.min 1 n:=by
 rw [List.length_take];exact Nat.min_eq_left (Nat.min_le_left 1 n)
theorem rep_l(h:bHg z p n i cur):(cur.take (Nat.min i (n-i))).length=Nat.min i (n-i):=by
 rw [List.length_take,rep_len h];exact Nat.min_eq_left (Nat.le_trans (Nat.min_le_left _ _) h.2)
end
theorem min1_le(n:Nat):Nat.min 1 n≤n:=Nat.min_le_right _ _
theorem min1_or(n:Nat):1≤Nat.min 1 n∨n=0:=by
 cases n with
 | zero=>exact .inr rfl
 | succ n=>exact .inl (by simp)
theorem cutA_in{b i k z cap:Nat}(h:i<cap)(hk:k=z):cutA (some ⟨b,0,none⟩) i k cap=some ⟨b,i*z,none⟩:=by
 subst hk;unfold cutA;rw [if_neg (by omega)];have h0:(⟨b,0,none⟩:Addr).add (i*k)=⟨b,0+i*k,none⟩:=Addr.add_mid _ _ _;rw [Option.map_some,h0,Nat.zero_add]
theorem conv64{m:Nat}(h:m<9223372036854775808):IntKind.u64.wrap ((m:Nat):Int)=((m:Nat):Int):=by
 simp only [IntKind.wrap,IntKind.bits,IntKind.signed];simp;omega
theorem conv63{m:Nat}(h:m<9223372036854775808):IntKind.i64.wrap ((m:Nat):Int)=((m:Nat):Int):=by
 simp only [IntKind.wrap,IntKind.bits,IntKind.signed];simp;omega
section
variable {P : Program} {β : fB} {n : Nat} {Γ : Env} {H : List bJ} {F : List bI} {K : Act → World → Prop} {T : Tab} {α : Type} {E : Flat α}
theorem St.recast'{c c':bJ}{S:iX}{w:World}(s:St β (c::H) S w)(hb: ∀b,c'.blk=some b→c.blk=some b)(ok:c'.ok w):St β (c'::H) S w:=by
 have hs:=List.pairwise_cons.1 s.sep;refine⟨s.kept,fun d hd=>?_,fun d hd b h=>?_,List.pairwise_cons.2 ⟨fun d hd b h=>hs.1 d hd b (hb b h),hs.2⟩,s.zone⟩
 ·rcases List.mem_cons.1 hd with rfl | hd
  ·exact ok
  ·exact s.ok d (List.mem_cons_of_mem _ hd)
 ·rcases List.mem_cons.1 hd with rfl | hd
  ·exact s.own c (List.mem_cons_self ..) b (hb b h)
  ·exact s.own d (List.mem_cons_of_mem _ hd) b h
theorem sN{b:Nat}{t:TypeId}{xs:List α}{H':List bJ}(hH:dD H (.obj b (.cells (E.all xs).toArray t)) H')(h:At β n Γ (E.held (.slice (some ⟨b,0,none⟩) xs.length xs.length) xs::H') F K):At β n Γ H F K:=fun a w S f s k=>by
 have s2:=s.perm hH.perm;have hok:w.heap[b]?=some (.cells (E.all xs).toArray t):=s2.ok _ (List.mem_cons_self ..);refine h a w S f (s2.recast' (fun b' hb=>?_) ?_) k
 ·cases xs with
  | nil=>cases hb
  | cons x r=>exact hb
 ·cases xs with
  | nil=>exact⟨_,_,rfl,.inl rfl⟩
  | cons x r=>
   refine⟨_,_,rfl,.inr ⟨b,0,_,t,(0,0),rfl,hok,fun j u hj=>⟨?_,?_⟩⟩⟩
   ·rw [Nat.zero_add];exact hj
   ·simp
theorem wB{v:Value}{t:TypeId}{xs:List α}{H':List bJ}(hH:dD H (E.row v t xs) H')(h:At β n Γ (E.held v xs::H') F K):At β n Γ H F K:=fun a w S f s k=>by
 have s2:=s.perm hH.perm;have hok:w.ownsRow 0 t E.size v xs.length (E.all xs):=s2.ok _ (List.mem_cons_self ..);refine h a w S f (s2.recast' (fun b hb=>?_) ?_) k
 ·cases xs with
  | nil=>cases hb
  | cons x r=>exact hb
 ·rcases hok.2 with ⟨e,e0⟩ | ⟨g,cap,cur,e,_,hg,hnc,hcm,hcs,ht⟩
  ·have:xs=[]:=List.eq_nil_of_length_eq_zero e0;subst this;exact⟨none,0,e,.inl rfl⟩
  ·subst e
   cases xs with
   | nil=>exact⟨_,cap,rfl,.inl rfl⟩
   | cons x r=>
    refine⟨_,cap,rfl,.inr ⟨g,0,cur,t,(0,0),rfl,hg,fun j u hj=>⟨?_,?_⟩⟩⟩
    ·rw [Nat.zero_add];rw [←ht,List.getElem?_take] at hj;split at hj
     ·exact hj
     ·cases hj
    ·simp
theorem nM{v:Value}{xs:List α}{H':List bJ}(hH:dD H (E.held v xs) H')(h:At β n Γ H' (E.sl v xs::F) K):At β n Γ H F K:=fun a w S f s k=>by
 have s2:=s.perm hH.perm;have hok:(E.held v xs).ok w:=s2.ok _ (List.mem_cons_self ..);have hsep:=List.pairwise_cons.1 s2.sep;have hown:=s2.own _ (List.mem_cons_self ..);have hmono:All F (fun b=>S b∨(E.held v xs).blk=some b) w:=All.mono (fun _ h=> .inl h) (fun _ _=>rfl) k;refine h a w (fun b=>S b∨(E.held v xs).blk=some b) f ⟨s2.kept,fun c hc=>s2.ok c (List.mem_cons_of_mem _ hc),fun c hc b hb=>?_,hsep.2,fun b hb=>?_⟩ (All.cons (uU hok fun b hb=> .inr hb) hmono)
 ·obtain⟨h1,h2,h3⟩:=s2.own c (List.mem_cons_of_mem _ hc) b hb;refine⟨h1,h2,fun h=>?_⟩
  rcases h with h | h
  ·exact h3 h
  ·exact hsep.1 c hc b h hb
 ·rcases hb with hb | hb
  ·exact s2.zone b hb
  ·obtain⟨h1,h2,_⟩:=hown b hb;exact⟨h1,.inr h2⟩
theorem kN{b:Nat}{cs:List Value}{t:TypeId}{L:List bJ}{G:List bI}(h:sF L G):sF (.obj b (.cells cs.toArray t)::L) (bI.cells b 0 cs::G):=fun S w hok hS=>
 All.cons ⟨hS _ (List.mem_cons_self ..) b rfl,fun j u hj=>by
  have h0:w.heap[b]?=some (.cells cs.toArray t):=hok _ (List.mem_cons_self ..);unfold World.cell?;rw [h0]
  simpa using hj⟩ (h S w (fun c hc=>hok c (List.mem_cons_of_mem _ hc)) fun c hc=>hS c (List.mem_cons_of_mem _ hc))
theorem run_arrFrom(hT:dV P T){t e m sz k:Nat}{ei:TI}(ht:T.get t=some ⟨.array m e,sz⟩)(he:T.get e=some ei){b off:Nat}(hk:k≤m)(kk:IntKind)(w:World):
  (Instr.sliceAt t (.pointer (some ⟨b,off,none⟩)) (some (.int kk (k:Nat))) none none).run P w= .ok (.slice (some ⟨b,if m=k then off else off+k*ei.size,none⟩) (m-k) (m-k)) w:=by
 have ha:(⟨b,off,none⟩:Addr).add (k*ei.size)=⟨b,off+k*ei.size,none⟩:=Addr.add_mid _ _ _;unfold Instr.sliceAt;rw [Sem.run_bind,hT.array ht,Result.andThen_ok]
 have h1:(Instr.sliceBound (.int kk (k:Nat)) m .sliceB).run P w= .ok k w:=by
  rw [run_sliceBound w kk (k:Int) m .sliceB (by omega) (by omega),Int.toNat_natCast]
 simp only [Instr.sureAddr,Instr.sliceBounds,Sem.run_bind,Sem.run_pure,Result.andThen_ok,Option.isSome_none,Bool.false_eq_true,if_false,h1,hT.size he,ha]
 by_cases e0:m=k
 ·rw [if_pos e0,if_pos e0]
 ·rw [if_neg e0,if_neg e0]
theorem sti_arrFrom(hT:dV P T){o:Oper}{t e m sz k b off:Nat}{ei:TI}{x i:Operand}{kk:IntKind}{z:Int}(ho:o.op= .slice t x (some i) none none)(hx:Γ.ev x=some (.pointer (some ⟨b,off,none⟩)))(hi:Γ.ev i=some (.int kk z))
  (ht:T.get t=some ⟨.array m e,sz⟩) (he:T.get e=some ei) (hz:z=(k:Nat)) (hk:k≤m):Sti P β n Γ H F o (.slice (some ⟨b,if m=k then off else off+k*ei.size,none⟩) (m-k) (m-k)):=fun a w S f s hF=>by
 subst hz;unfold execOp;simp only [ho,f.ev hx,Option.map_some,Option.map_none,f.ev hi];rw [Sem.run_bind,run_arrFrom hT ht he hk];rfl
end
end Go.Proofs.YtofjmphlpdhohaaGreatDoor
namespace Go.Proofs.YtofjmphlpdhohaaGreatDoor
open Go.RowKit Go.ChangeShapes Go.WideShapes
structure SpotV where
 at_:PolV
 size:PolV
 since:Int
 deriving Inhabited
def dN:Flat SpotV where
 size:=3
 cells:=fun x=>[.slice x.at_.addr x.at_.list.length x.at_.cap,.slice x.size.addr x.size.list.length x.size.cap,.int .i64 x.since]
 len:=fun _=>rfl
 one:=fun x u hu=>by
  simp at hu
  rcases hu with rfl | rfl | rfl<;>rfl
 pos:=by decide
structure LayV where
 at_:(Sl PolV)
 size:PolV
 deriving Inhabited
def zI:Tab:=[(3,⟨.int .i64,1⟩),(2,⟨.int .i64,1⟩),(5,⟨.int .u8,1⟩),(4,⟨.bool,1⟩),(37,⟨.int .u8,1⟩),(31,⟨.int .i64,1⟩),(35,⟨.slice 45,1⟩),(36,⟨.slice 35,1⟩),(42,⟨.struct [(3,0),(3,1),(2,2),(35,3),(37,4)],5⟩),(38,⟨.slice 42,1⟩),(47,⟨.struct [(36,0),(3,1)],2⟩),(22,⟨.slice 47,1⟩),(40,⟨.struct [(3,0),(3,1),(35,2),(36,3),(37,4),(38,5)],6⟩),(23,⟨.slice 40,1⟩),(24,⟨.slice 3,1⟩),(51,⟨.slice 4,1⟩),(26,⟨.struct [(3,0),(22,1),(23,2),(24,3)],4⟩),(55,⟨.struct [(3,0),(3,1)],2⟩),(48,⟨.slice 55,1⟩),(115,⟨.struct [(3,0),(3,1),(3,2),(51,3)],4⟩),(194,⟨.struct [(35,0),(35,1),(3,2)],3⟩),(306,⟨.slice 194,1⟩),(57,⟨.struct [(36,0),(35,1)],2⟩),(112,⟨.array 64 4,64⟩),(45,⟨.struct [(2,0),(43,1)],7⟩),(43,⟨.array 6 5,6⟩),(258,⟨.slice 5,1⟩),(206,⟨.int .u64,1⟩),(113,⟨.other,1⟩),(202,⟨.other,1⟩),(119,⟨.other,1⟩),(102,⟨.struct [(35,0),(100,1),(3,2),(99,3)],4⟩),(99,⟨.map 3 194,1⟩),(307,⟨.slice 194,1⟩),(252,⟨.other,1⟩),(100,⟨.slice 252,1⟩),(98,⟨.other,1⟩)]
theorem fD:dV Tryz.prog zI:=pL.ok
 ⟨⟨by rw [Tryz.underlying3];rfl,by kernel_rfl⟩,
  ⟨by rw [Tryz.underlying2];rfl,by kernel_rfl⟩,
  ⟨by rw [Tryz.underlying5];rfl,by kernel_rfl⟩,
  ⟨by rw [Tryz.underlying4];rfl,by kernel_rfl⟩,
  ⟨by rw [Tryz.underlying37];rfl,by kernel_rfl⟩,
  ⟨by rw [Tryz.underlying31];rfl,by kernel_rfl⟩,
  ⟨by rw [Tryz.underlying35];rfl,by kernel_rfl⟩,
  ⟨by rw [Tryz.underlying36];rfl,by kernel_rfl⟩,
  ⟨by rw [Tryz.underlying42];rfl,by kernel_rfl⟩,
  ⟨by rw [Tryz.underlying38];rfl,by kernel_rfl⟩,
  ⟨by rw [Tryz.underlying47];rfl,by kernel_rfl⟩,
  ⟨by rw [Tryz.underlying22];rfl,by kernel_rfl⟩,
  ⟨by rw [Tryz.underlying40];rfl,by kernel_rfl⟩,
  ⟨by rw [Tryz.underlying23];rfl,by kernel_rfl⟩,
  ⟨by rw [Tryz.underlying24];rfl,by kernel_rfl⟩,
  ⟨by rw [Tryz.underlying51];rfl,by kernel_rfl⟩,
  ⟨by rw [Tryz.underlying26];rfl,by kernel_rfl⟩,
  ⟨by rw [Tryz.underlying55];rfl,by kernel_rfl⟩,
  ⟨by rw [Tryz.underlying48];rfl,by kernel_rfl⟩,
  ⟨by rw [Tryz.underlying115];rfl,by kernel_rfl⟩,
  ⟨by rw [Tryz.underlying194];rfl,by kernel_rfl⟩,
  ⟨by rw [Tryz.underlying306];rfl,by kernel_rfl⟩,
  ⟨by rw [Tryz.underlying57];rfl,by kernel_rfl⟩,
  ⟨by rw [Tryz.underlying112];rfl,by kernel_rfl⟩,
  ⟨by rw [Tryz.underlying45];rfl,by kernel_rfl⟩,
  ⟨by rw [Tryz.underlying43];rfl,by kernel_rfl⟩,
  ⟨by rw [Tryz.underlying258];rfl,by kernel_rfl⟩,
  ⟨by rw [Tryz.underlying206];rfl,by kernel_rfl⟩,
  ⟨by rw [Tryz.underlying113];rfl,by kernel_rfl⟩,
  ⟨by rw [Tryz.underlying202];rfl,by kernel_rfl⟩,
  ⟨by rw [Tryz.underlying119];rfl,by kernel_rfl⟩,
  ⟨by rw [Tryz.underlying102];rfl,by kernel_rfl⟩,
  ⟨by rw [Tryz.underlying99];rfl,by kernel_rfl⟩,
  ⟨by rw [Tryz.underlying307];rfl,by kernel_rfl⟩,
  ⟨by rw [Tryz.underlying252];rfl,by kernel_rfl⟩,
  ⟨by rw [Tryz.underlying100];rfl,by kernel_rfl⟩,
  ⟨by rw [Tryz.underlying98];rfl,by kernel_rfl⟩,trivial⟩
theorem rR: ∃i:TypeInfo,Tryz.prog.info? 194=some i∧i.zero=some (.agg #[.slice none 0 0,.slice none 0 0,.int .i64 0])∧i.size=3∧i.bytes=56:=by
 have h:(Tryz.prog.info? 194).map (fun i=>(i.zero,i.size,i.bytes))=some (some (.agg #[.slice none 0 0,.slice none 0 0,.int .i64 0]),3,56):=by kernel_rfl
 cases hi:Tryz.prog.info? 194 with
 | none=>simp [hi] at h
 | some i=>simp [hi] at h;exact⟨i,rfl,h.1,h.2.1,h.2.2⟩
theorem bCb{β:fB}{n:Nat}{Γ:Env}{H:List bJ}{F:List bI}{Q:Exit→Act→World→Prop}{ops:Array Oper}{rest:List Oper}{o:Oper}{d:Nat}{x:Operand}{m:SpotV}(hw:want ops Γ o=some true)(ho:o.op= .buildSlice 307 1 #[(0,x)])(hd:o.dst=some d)(hn:Nat.blt d n=true)
  (hx:Γ.ev x=some (.agg #[.slice m.at_.addr m.at_.list.length m.at_.cap,.slice m.size.addr m.size.list.length m.size.cap,.int .i64 m.since])) (k: ∀b,At β n ((d,.slice (some ⟨b,0,none⟩) 1 1)::Γ) (.obj b (.cells (dN.all [m]).toArray 194)::H) F (wpList Tryz.prog ops Q rest)):At β n Γ H F (wpList Tryz.prog ops Q (o::rest)):=by
 obtain⟨i,hi,hz,hs,_⟩:=rR;refine mH hw ho hd hn hx Tryz.underlying307 hi hz (by omega) (by omega) ?_ k;rw [hs]
 kernel_rfl
theorem at_none_row{β:fB}{n:Nat}{Γ:Env}{H:List bJ}{F:List bI}{Q:Exit→Act→World→Prop}{ops:Array Oper}{rest:List Oper}{o:Oper}{d:Nat}(hw:want ops Γ o=some true)(ho:o.op= .buildSlice 307 0 #[])(hd:o.dst=some d)(hn:Nat.blt d n=true)
  (k: ∀b,At β n ((d,.slice (some ⟨b,0,none⟩) 0 0)::Γ) (dN.row (.slice (some ⟨b,0,none⟩) 0 0) 194 []::H) F (wpList Tryz.prog ops Q rest)):At β n Γ H F (wpList Tryz.prog ops Q (o::rest)):=by
 obtain⟨i,hi,_⟩:=rR;exact bFs dN hw ho hd hn Tryz.underlying307 hi k
theorem at_app_row{β:fB}{n:Nat}{Γ:Env}{H:List bJ}{F:List bI}{Q:Exit→Act→World→Prop}{ops:Array Oper}{rest:List Oper}{o:Oper}{d:Nat}{x y:Operand}{c q:Nat}{v:Value}{A:Option Addr}{xs ys:List SpotV}{H':List bJ}(hH:dD H (dN.row v 194 xs) H')(hr:bV β H F dN A ys)(hg:o.guard=none)
  (ho:o.op= .call {callee:= .builtin .append,args:= #[x,y],argTypes:= #[307,307]}) (hd:o.dst=some d) (hn:Nat.blt d n=true)
  (hx:Γ.ev x=some v) (hy:Γ.ev y=some (.slice A q c)) (hq:q=ys.length) (hl:xs.length+ys.length≤2513169434916)
  (k: ∀A' cap',At β n ((d,.slice A' (xs++ys).length cap')::Γ) (dN.row (.slice A' (xs++ys).length cap') 194 (xs++ys)::H') F (wpList Tryz.prog ops Q rest)):At β n Γ H F (wpList Tryz.prog ops Q (o::rest)):=by
 obtain⟨i,hi,hz,hs,hb⟩:=rR;exact jK hH hr hg ho hd hn Tryz.underlying307 hi hz hs hb rfl hx hy hq (by omega) (by decide) k
end Go.Proofs.YtofjmphlpdhohaaGreatDoor
namespace Go.Proofs.YtofjmphlpdhohaaGreatDoor
open Go.RowKit
structure RowV where
 b:Nat
 A:Option Addr
 c:Nat
 full:Bool
 l:List SpotV
def sz (x:SpotV):List Mono:=x.size.list
def SpotV.c(x:SpotV):SpC:=⟨x.at_.list,x.size.list⟩
def gL (rows:List RowV):List SpotV:=rows.flatMap (·.l)
def yG (rows:List RowV):Prop:= ∀(i j:Nat) (r q:RowV),rows[i]?=some r→rows[j]?=some q→i≠j→ ∀x∈r.l,∀y∈q.l,sz x≠sz y
def RowOk (r:RowV):Prop:=(r.full=true→r.c=r.l.length)∧r.l.length≤r.c∧nO SpotV.since r.l∧(∀x∈r.l,∀y∈r.l,sz x=sz y)∧ ∀x∈r.l,sz x≠[]
def Rising(fs:List SpotV):Prop:=fs.Pairwise fun a b=>a.since<b.since
theorem wS{rows:List RowV}{x:SpotV}:x∈gL rows↔ ∃(k:Nat) (r:RowV),rows[k]?=some r∧x∈r.l:=by
 unfold gL;rw [List.mem_flatMap];constructor
 ·rintro⟨r,hr,hx⟩;obtain⟨k,hk⟩:=List.getElem?_of_mem hr;exact⟨k,r,hk,hx⟩
 ·rintro⟨k,r,hk,hx⟩;exact⟨r,List.mem_of_getElem? hk,hx⟩
theorem bCt{α:Type}{l:List α}{k:Nat}{x:α}(h:l[k]?=some x):l=l.take k++x::l.drop (k+1):=by
 obtain⟨hlt,e⟩:=List.getElem?_eq_some_iff.1 h;rw [←e,List.getElem_cons_drop hlt,List.take_append_drop]
theorem pl_set{α:Type}{l:List α}{k:Nat}{x y:α}(h:l[k]?=some x):l.set k y=l.take k++y::l.drop (k+1):=by
 have hlt:=(List.getElem?_eq_some_iff.1 h).1;rw [List.set_eq_take_append_cons_drop,if_pos hlt]
theorem pl_erase{α:Type}{l:List α}{k:Nat}{x:α}(_h:l[k]?=some x):l.eraseIdx k=l.take k++l.drop (k+1):=List.eraseIdx_eq_take_drop_succ ..
theorem yR{rows:List RowV}{k:Nat}{r:RowV}(h:rows[k]?=some r):(gL rows).Perm (r.l++(gL (rows.take k)++gL (rows.drop (k+1)))):=by
 have e:gL rows=gL (rows.take k)++(r.l++gL (rows.drop (k+1))):=by
  conv=>lhs;rw [bCt h]
  simp [gL,List.flatMap_append,List.flatMap_cons]
 rw [e];exact List.perm_append_comm_assoc _ _ _
theorem plf_set{rows:List RowV}{k:Nat}{r q:RowV}(h:rows[k]?=some r):(gL (rows.set k q)).Perm (q.l++(gL (rows.take k)++gL (rows.drop (k+1)))):=by
 have e:gL (rows.set k q)=gL (rows.take k)++(q.l++gL (rows.drop (k+1))):=by
  rw [pl_set h];simp [gL,List.flatMap_append,List.flatMap_cons]
 rw [e];exact List.perm_append_comm_assoc _ _ _
theorem pl_eperm{α:Type}{l:List α}{k:Nat}{x:α}(h:l[k]?=some x):l.Perm (x::l.eraseIdx k):=by
 rw [pl_erase h]
 conv=>lhs;rw [bCt h]
 exact List.perm_middle
theorem pl_take{fs:List SpotV}{rows:List RowV}{k:Nat}{r q:RowV}{x:SpotV}{n:List Mono}(hp:(gL rows).Perm fs)(hasc:Rising fs)(hk:rows[k]?=some r)(ha:yG rows)(hs: ∀y∈r.l,sz y=n)
  (hx:x∈r.l) (hmin: ∀y∈r.l,x.since≤y.since) (hl:r.l.Perm (x::q.l)): ∃i,fs[i]?=some x∧fs.findIdx? (fun y=>decide (sz y=n))=some i∧(gL (rows.set k q)).Perm (fs.eraseIdx i):=by
 have hxf:x∈fs:=hp.mem_iff.1 (wS.2 ⟨k,r,hk,hx⟩);obtain⟨i,hi⟩:=List.getElem?_of_mem hxf;obtain⟨hlt,ei⟩:=List.getElem?_eq_some_iff.1 hi;refine⟨i,hi,?_,?_⟩
 ·rw [List.findIdx?_eq_some_iff_getElem];refine⟨hlt,by rw [ei];simp [hs x hx],fun j hj=>?_⟩;have hjl:j<fs.length:=by omega
  have hlt2:fs[j].since<x.since:=by
   have:=(List.pairwise_iff_getElem.1 hasc) j i hjl hlt hj
   rwa [ei] at this
  have hm:fs[j]∈gL rows:=hp.mem_iff.2 (List.getElem_mem hjl);obtain⟨k2,r2,hk2,hm2⟩:=wS.1 hm
  by_cases e:k=k2
  ·subst e;rw [hk] at hk2;cases hk2;have:=hmin _ hm2;omega
  ·have h1:=ha k k2 r r2 hk hk2 e x hx _ hm2;simp only [decide_eq_true_eq];intro h2;exact h1 (by rw [hs x hx,h2])
 ·have h1:=(yR hk).symm.trans hp
  have h2:=(h1.trans (pl_eperm hi))
  have h3:(x::(q.l++(gL (rows.take k)++gL (rows.drop (k+1))))).Perm (x::fs.eraseIdx i):=((hl.append_right _).symm.trans h2)
  exact(plf_set hk).trans (List.Perm.cons_inv h3)
theorem pl_none{fs:List SpotV}{rows:List RowV}{n:List Mono}(hp:(gL rows).Perm fs)(h: ∀(k:Nat) (r:RowV),rows[k]?=some r→ ∀x∈r.l,sz x≠n):fs.findIdx? (fun y=>decide (sz y=n))=none:=by
 rw [List.findIdx?_eq_none_iff];intro x hx;obtain⟨k,r,hk,hm⟩:=wS.1 (hp.mem_iff.2 hx);simp [h k r hk x hm]
theorem pl_give{fs:List SpotV}{rows:List RowV}{k:Nat}{r q:RowV}{x:SpotV}(hp:(gL rows).Perm fs)(hk:rows[k]?=some r)(hq:q.l=r.l++[x]):(gL (rows.set k q)).Perm (fs++[x]):=by
 refine(plf_set hk).trans ?_;rw [hq,List.append_assoc];have h1:=(yR hk).symm.trans hp;have h2:(r.l++([x]++(gL (rows.take k)++gL (rows.drop (k+1))))).Perm ([x]++(r.l++(gL (rows.take k)++gL (rows.drop (k+1))))):=List.perm_append_comm_assoc _ _ _;exact h2.trans ((h1.append_left [x]).trans List.perm_append_comm)
theorem pl_apset{rows:List RowV}{k:Nat}{r q:RowV}(ha:yG rows)(hk:rows[k]?=some r)(h: ∀x∈q.l,∀(j:Nat) (p:RowV),rows[j]?=some p→j≠k→ ∀y∈p.l,sz x≠sz y):yG (rows.set k q):=by
 have hkl:=(List.getElem?_eq_some_iff.1 hk).1;intro i j a b hi hj hij x hx y hy;rw [List.getElem?_set] at hi hj;split at hi<;>split at hj
 ·omega
 ·rename_i e1 e2;simp at hi;subst hi;exact h x hx j b hj (fun e=>e2 e.symm) y hy
 ·rename_i e1 e2;simp at hj;subst hj;exact fun e=>h y hy i a hi (fun e=>e1 e.symm) x hx e.symm
 ·exact ha i j a b hi hj hij x hx y hy
theorem pl_apnew{rows:List RowV}{q:RowV}(ha:yG rows)(h:q.l=[]):yG (rows++[q]):=by
 have key: ∀(i:Nat) (a:RowV) (x:SpotV),(rows++[q])[i]?=some a→x∈a.l→rows[i]?=some a:=fun i a x hi hx=>by
  rw [List.getElem?_append] at hi;split at hi
  ·exact hi
  ·cases hn:i-rows.length with
   | zero=>
    rw [hn] at hi;simp at hi;subst hi;rw [h] at hx;cases hx
   | succ m=>
    rw [hn] at hi;simp at hi
 exact fun i j a b hi hj hij x hx y hy=>ha i j a b (key i a x hi hx) (key j b y hj hy) hij x hx y hy
theorem plf_new{rows:List RowV}{q:RowV}(h:q.l=[]):gL (rows++[q])=gL rows:=by simp [gL,List.flatMap_append,h]
open Go.ChangeMaps (setBlock)
abbrev KV:=List (Int×Value)
def kvI (kk:IntKind)(kv:KV):List (Value×Value):=kv.map fun p=>(Value.int kk p.1,p.2)
def bFm (e:MapEntry):Value×Value:=(e.key,e.val)
def MapO (kk:IntKind)(kv:KV)(o:Option Obj):Prop:= ∃es clock,o=some (.map es clock)∧es.toList.map bFm=kvI kk kv
def mapC (r:Nat)(kk:IntKind)(kv:KV):bJ:= .gen (some r) (MapO kk kv)
def nC (k:Int):KV→Nat→Option (Nat×Value)
 | [],_=>none
 | p::r,i=>if k==p.1 then some (i,p.2) else nC k r (i+1)
def getM (k:Int):KV→Option Value
 | []=>none
 | p::r=>if k==p.1 then some p.2 else getM k r
def xO (k:Int)(v:Value):KV→KV
 | []=>[(k,v)]
 | p::r=>if k==p.1 then (k,v)::r else p::xO k v r
theorem find_get(k:Int): ∀(kv:KV) (i:Nat),(nC k kv i).map (·.2)=getM k kv
 | [],_=>rfl
 | p::r,i=>by
  unfold nC getM;split
  ·rfl
  ·exact find_get k r (i+1)
theorem bIo{k:Int}{v:Value}: ∀{kv:KV} {i:Nat},nC k kv i=none→xO k v kv=kv++[(k,v)]
 | [],_,_=>rfl
 | p::r,i,h=>by
  unfold nC at h;unfold xO;split at h
  ·cases h
  ·rename_i hk;rw [if_neg hk,bIo h];rfl
theorem bHl{k:Int}{v:Value}{j:Nat}{u:Value}: ∀{kv:KV} {i:Nat},nC k kv i=some (j,u)→ ∃d,j=i+d∧ ∃p,kv[d]?=some p∧k=p.1∧xO k v kv=kv.set d (k,v)
 | [],_,h=>by cases h
 | p::r,i,h=>by
  unfold nC at h;split at h
  ·rename_i hk;simp only [Option.some.injEq,Prod.mk.injEq] at h;exact⟨0,by omega,p,rfl,by simpa using hk,by simp [xO,hk]⟩
  ·rename_i hk;obtain⟨d,h1,q,h2,h3,h4⟩:=bHl (v:=v) h;exact⟨d+1,by omega,q,h2,h3,by rw [xO,if_neg hk,h4];rfl⟩
section
variable {P : Program} {kk : IntKind} {k : Int} {w : World} {t kt et : TypeId}
theorem yZ(kk:IntKind)(k:Int): ∀(es:List MapEntry) (kv:KV) (i:Nat),es.map bFm=kvI kk kv→Instr.findNow (.int kk) (.int kk k) es i=some (nC k kv i)
 | [],[],_,_=>rfl
 | [],_::_,_,h=>by simp [kvI] at h
 | _::_,[],_,h=>by simp [kvI] at h
 | e::es,p::kv,i,h=>by
  simp only [List.map_cons,List.cons.injEq,kvI,bFm,Prod.mk.injEq] at h;obtain⟨⟨h1,h2⟩,h3⟩:=h;have ih:=yZ kk k es kv (i+1) h3;unfold Instr.findNow;rw [h1];simp only [Instr.sameNow,if_true,nC];cases hk:k==p.1
  ·simpa using ih
  ·simp [h2]
theorem lU(hk:P.underlying kt=some (.int kk)){es:List MapEntry}{kv:KV}(h:es.map bFm=kvI kk kv):(Instr.findKey kt (.int kk k) es).run P w= .ok (nC k kv 0) w:=by
 unfold Instr.findKey;simp only [Sem.run_bind,run_underlying hk,Result.andThen_ok,yZ kk k es kv 0 h,Sem.run_pure]
theorem kY(hk:P.underlying kt=some (.int kk))(b:Bool):(Instr.checkKey b 10000 kt (.int kk k)).run P w= .ok () w:=by
 have: ∀n,(Instr.checkKey b (n+1) kt (.int kk k)).run P w= .ok () w:=fun n=>by simp [Instr.checkKey,run_underlying hk]
 exact this 9999
theorem run_staysI:(Instr.keyThatStays (.int kk k) (.int kk k)).run P w= .ok (.int kk k) w:=by
 have: ∀n,Instr.sameBits (n+1) (.int kk k) (.int kk k)=true:=fun n=>by simp [Instr.sameBits]
 unfold Instr.keyThatStays;rw [this 9999];simp
theorem bCo(ht:P.underlying t=some (.map kt et))(hk:P.underlying kt=some (.int kk)){r:Nat}{kv:KV}(v:Value)(h:MapO kk kv (w.heap[r]?)):
  ∃o,(Instr.mapUpdate t (.map (some r)) (.int kk k) v).run P w= .ok () (setBlock w r o)∧MapO kk (xO k v kv) ((setBlock w r o).heap[r]?):=by
 obtain⟨es,clock,hb,hkv⟩:=h
 cases hf:nC k kv 0 with
 | none=>
  refine⟨.map (es.push ⟨.int kk k,v,clock⟩) (clock+1),?_,⟨_,_,ChangeMaps.heap_setBlock_same hb _,?_⟩⟩
  ·unfold Instr.mapUpdate;simp only [Sem.run_bind,run_underlying ht,Result.andThen_ok,MapKept.run_getObj_map hb,kY hk,lU hk hkv,hf];rw [MapKept.run_setObj_map _ hb];simp [setBlock]
  ·rw [bIo hf];simp [hkv,kvI,bFm]
 | some p=>
  obtain⟨j,u⟩:=p;obtain⟨d,h1,q,h2,h3,h4⟩:=bHl (v:=v) hf;obtain rfl:j=d:=by omega
  have hlen:es.size=kv.length:=by
   have:=congrArg List.length hkv
   simpa [kvI] using this
  have hjl:j<es.size:=by rw [hlen];exact(List.getElem?_eq_some_iff.1 h2).1
  obtain⟨e,he⟩: ∃e,es[j]?=some e:=⟨es[j],Array.getElem?_eq_getElem hjl⟩
  have hek:e.key= .int kk k:=by
   have h1:(es.toList.map bFm)[j]?=some (bFm e):=by simp [he]
   rw [hkv,kvI,List.getElem?_map,h2] at h1;simp only [Option.map_some,Option.some.injEq,bFm,Prod.mk.injEq] at h1;rw [←h1.1,h3]
  refine⟨.map (es.modify j fun e=>{e with key:= .int kk k,val:=v}) clock,?_,⟨_,_,ChangeMaps.heap_setBlock_same hb _,?_⟩⟩
  ·unfold Instr.mapUpdate;simp only [Sem.run_bind,run_underlying ht,Result.andThen_ok,MapKept.run_getObj_map hb,kY hk,lU hk hkv,hf,he,Option.map_some,Option.getD_some,hek,run_staysI];rw [MapKept.run_setObj_map _ hb];simp [setBlock]
  ·rw [h4];apply List.ext_getElem?;intro i;have hi:(es.toList.map bFm)[i]?=(kvI kk kv)[i]?:=by rw [hkv]
   simp only [kvI,List.getElem?_map,Array.toList_modify,List.getElem?_modify,List.getElem?_set] at hi⊢
   by_cases e':j=i
   ·subst e';have:j<kv.length:=by omega
    have he':es.toList[j]?=some e:=by simpa using he
    simp [this,he',bFm]
   ·simp only [e',if_false] at hi⊢
    simpa using hi
end
theorem mT{w:World}{r:Nat}{o:Obj}:mC (fun b=>b=r) w (setBlock w r o):=by
 refine⟨rfl,rfl,rfl,by simp [setBlock],fun b hb hne=>?_⟩;simp [setBlock,Ne.symm hne]
section
variable {P : Program} {β : fB} {n : Nat} {Γ : Env} {H : List bJ} {F : List bI} {Q : Exit → Act → World → Prop} {K : Act → World → Prop} {T : Tab} {ops : Array Oper} {rest : List Oper} {o : Oper}
theorem at_makeMap{d:Nat}{t:TypeId}(kk:IntKind)(hw:want ops Γ o=some true)(ho:o.op= .makeMap t none)(hd:o.dst=some d)(hn:Nat.blt d n=true)(k: ∀b,At β n ((d,.map (some b))::Γ) (mapC b kk []::H) F (wpList P ops Q rest)):At β n Γ H F (wpList P ops Q (o::rest)):=
 iH hw fun a w S f s hk=>by
  have hr:(execOp a.eval o).run P w= .ok (.value (.map (some w.heap.size))) (w.alloc (.map #[] 0)):=by
   unfold execOp;simp only [ho,Instr.makeMap];rfl
  unfold Oper.wp;rw [hr,Oper.upon_value,hd];have s2:=s.alloc (.map #[] 0);refine k w.heap.size _ _ S (f.put (by simpa [Nat.blt_eq] using hn) _) ⟨s2.kept,fun c hc=>?_,fun c hc b hb=>?_,?_,s2.zone⟩ (All.alloc s hk _)
  ·rcases List.mem_cons.1 hc with rfl | hc
   ·exact⟨#[],0,heap_alloc_new _ _,rfl⟩
   ·exact s2.ok c (List.mem_cons_of_mem _ hc)
  ·rcases List.mem_cons.1 hc with rfl | hc
   ·exact s2.own (.obj w.heap.size (.map #[] 0)) (List.mem_cons_self ..) b hb
   ·exact s2.own c (List.mem_cons_of_mem _ hc) b hb
  ·have hp:=List.pairwise_cons.1 s2.sep;exact List.pairwise_cons.2 ⟨fun d hd b hb=>hp.1 d hd b hb,hp.2⟩
theorem qG{r:Nat}{kk:IntKind}{kv:KV}{H':List bJ}(hH:dD H (mapC r kk kv) H'){t kt et:TypeId}{m x y:Operand}{k:Int}{v:Value}(hw:want ops Γ o=some true)(ho:o.op= .mapUpdate t m x y∨o.op= .insert t m x y)(hd:o.dst=none)(ht:P.underlying t=some (.map kt et))(hk:P.underlying kt=some (.int kk))
  (hm:Γ.ev m=some (.map (some r))) (hx:Γ.ev x=some (.int kk k)) (hy:Γ.ev y=some v) (K':At β n Γ (mapC r kk (xO k v kv)::H') F (wpList P ops Q rest)):At β n Γ H F (wpList P ops Q (o::rest)):=
 iH hw fun a w S f s hF=>by
  have hok:MapO kk kv (w.heap[r]?):=s.ok _ hH.mem;obtain⟨ob,hr0,hm0⟩:=bCo (k:=k) ht hk v hok
  have hr:(execOp a.eval o).run P w= .ok .skip (setBlock w r ob):=by
   unfold execOp
   rcases ho with ho | ho
   ·simp only [ho,f.ev hm,f.ev hx,f.ev hy,Sem.run_bind,hr0];rfl
   ·simp only [ho,f.ev hm,f.ev hx,f.ev hy,Sem.run_bind,hr0];rfl
  unfold Oper.wp;rw [hr,Oper.upon_skip,hd];have s2:=s.perm hH.perm;exact K' _ _ S (f.put_none _) (s2.swap mT rfl rfl hm0) (All.mono (fun _ h=>h) (s.agree mT (fun c hc e=>by subst e;exact(s2.own _ (List.mem_cons_self ..) _ rfl).2.2 hc)) hF)
def KnowsMap(β:fB)(H:List bJ)(F:List bI)(r:Nat)(kk:IntKind)(kv:KV):Prop:= ∀w S,St β H S w→All F S w→MapO kk kv (w.heap[r]?)
theorem bBh{r:Nat}{kk:IntKind}{kv:KV}{H':List bJ}(hH:dD H (mapC r kk kv) H'):KnowsMap β H F r kk kv:=fun _ _ s _=>s.ok _ hH.mem
end
end Go.Proofs.YtofjmphlpdhohaaGreatDoor
namespace Go.Proofs.YtofjmphlpdhohaaGreatDoor
open Go.RowKit
structure PSt where
 end_:PolV
 fA:Option Addr
 fc:Nat
 rows:List RowV
 since:Int
 kv:List (Int×SpotV)
def nW (k:Int):List (Int×SpotV)→Option SpotV
 | []=>none
 | p::r=>if k==p.1 then some p.2 else nW k r
def setS (k:Int)(v:SpotV):List (Int×SpotV)→List (Int×SpotV)
 | []=>[(k,v)]
 | p::r=>if k==p.1 then (k,v)::r else p::setS k v r
def delS (k:Int):List (Int×SpotV)→List (Int×SpotV)
 | []=>[]
 | p::r=>if k==p.1 then r else p::delS k r
def spV (x:SpotV):Value:= .agg (dN.cells x).toArray
def kvV (kv:List (Int×SpotV)):KV:=kv.map fun p=>(p.1,spV p.2)
theorem getS_V(k:Int): ∀kv,getM k (kvV kv)=(nW k kv).map spV
 | []=>rfl
 | p::r=>by
  show(if k==p.1 then some (spV p.2) else getM k (kvV r))=_;unfold nW;split
  ·rfl
  ·exact getS_V k r
theorem setS_V(k:Int)(v:SpotV): ∀kv,xO k (spV v) (kvV kv)=kvV (setS k v kv)
 | []=>rfl
 | p::r=>by
  show(if k==p.1 then (k,spV v)::kvV r else (p.1,spV p.2)::xO k (spV v) (kvV r))=_;unfold setS;split
  ·rfl
  ·rw [setS_V k v r];rfl
theorem getS_set(k j:Int)(v:SpotV): ∀kv,nW j (setS k v kv)=if j=k then some v else nW j kv
 | []=>by simp [setS,nW]
 | p::r=>by
  unfold setS
  by_cases h:k=p.1
  ·subst h;simp only [beq_self_eq_true,if_true,nW]
   by_cases hj:j=p.1
   ·simp [hj]
   ·simp [hj]
  ·simp only [beq_iff_eq,h,if_false,nW,getS_set k j v r]
   by_cases hj:j=p.1
   ·subst hj;simp [Ne.symm h]
   ·simp [hj]
theorem bFv(k:Int)(v:SpotV): ∀kv,∀j,j∈(setS k v kv).map (·.1)→j=k∨j∈kv.map (·.1)
 | [],j,h=>by simp [setS] at h;exact .inl h
 | p::r,j,h=>by
  unfold setS at h;split at h
  ·rename_i e;simp at e;simp at h⊢
   rcases h with h | h
   ·exact .inl h
   ·exact .inr (.inr h)
  ·simp only [List.map_cons,List.mem_cons] at h⊢
   rcases h with h | h
   ·exact .inr (.inl h)
   ·rcases bFv k v r j h with h | h
    ·exact .inl h
    ·exact .inr (.inr h)
theorem bDg(k:Int)(v:SpotV): ∀kv,(kv.map (·.1)).Nodup→((setS k v kv).map (·.1)).Nodup
 | [],_=>by simp [setS]
 | p::r,h=>by
  simp only [List.map_cons,List.nodup_cons] at h;unfold setS;split
  ·rename_i e;simp at e;simp only [List.map_cons,List.nodup_cons];rw [e];exact h
  ·rename_i e;simp only [List.map_cons,List.nodup_cons];refine⟨fun hm=>?_,bDg k v r h.2⟩
   rcases bFv k v r _ hm with h1 | h1
   ·exact e (by simp [h1])
   ·exact h.1 h1
theorem setS_mem(k:Int)(v:SpotV): ∀kv,∀p∈setS k v kv,p.2=v∨p∈kv
 | [],p,h=>by simp [setS] at h;exact .inl (by rw [h])
 | q::r,p,h=>by
  unfold setS at h;split at h
  ·rcases List.mem_cons.1 h with rfl | h
   ·exact .inl rfl
   ·exact .inr (List.mem_cons_of_mem _ h)
  ·rcases List.mem_cons.1 h with rfl | h
   ·exact .inr (List.mem_cons_self ..)
   ·rcases setS_mem k v r p h with h | h
    ·exact .inl h
    ·exact .inr (List.mem_cons_of_mem _ h)
theorem bDu(k:Int): ∀kv,(delS k kv).Sublist kv
 | []=> .slnil
 | p::r=>by
  unfold delS;split
  ·exact List.sublist_cons_self ..
  ·exact(bDu k r).cons_cons _
theorem delS_nodup(k:Int)(kv)(h:(kv.map (·.1)).Nodup):((delS k kv).map (·.1)).Nodup:=h.sublist ((bDu k kv).map _)
theorem bFy(k:Int): ∀kv,k∉kv.map (·.1)→nW k kv=none
 | [],_=>rfl
 | p::r,h=>by
  simp only [List.map_cons,List.mem_cons,not_or] at h;unfold nW;rw [if_neg (by simp [h.1]),bFy k r h.2]
theorem getS_del(k j:Int): ∀kv,(kv.map (·.1)).Nodup→nW j (delS k kv)=if j=k then none else nW j kv
 | [],_=>by simp [delS,nW]
 | p::r,h=>by
  simp only [List.map_cons,List.nodup_cons] at h;unfold delS
  by_cases e:k=p.1
  ·subst e;simp only [beq_self_eq_true,if_true]
   by_cases hj:j=p.1
   ·subst hj;rw [if_pos rfl,bFy _ r h.1]
   ·rw [if_neg hj];simp [nW,hj]
  ·simp only [beq_iff_eq,e,if_false,nW,getS_del k j r h.2]
   by_cases hj:j=p.1
   ·subst hj;simp [Ne.symm e]
   ·simp [hj]
theorem getS_mem{k:Int}{x:SpotV}: ∀{kv},nW k kv=some x→ ∃p∈kv,p.2=x
 | [],h=>by cases h
 | p::r,h=>by
  unfold nW at h;split at h
  ·cases h;exact⟨p,List.mem_cons_self ..,rfl⟩
  ·obtain⟨q,hq,e⟩:=getS_mem h;exact⟨q,List.mem_cons_of_mem _ hq,e⟩
theorem pl_mape{α β:Type}(f:α→β): ∀(l:List α) (i:Nat),(l.eraseIdx i).map f=(l.map f).eraseIdx i
 | [],_=>rfl
 | _::_,0=>rfl
 | x::l,i+1=>by simp [pl_mape f l i]
structure fX (st:PSt) (pool:List SpotV) (s:PlC) (fs:List SpotV) (M:Nat):Prop where
 end_:st.end_.list=s.end_
 free:fs.map SpotV.c=s.free
 flat:(gL st.rows).Perm fs
 rise:Rising fs
 top: ∀x∈fs,x.since≤st.since
 apart:yG st.rows
 ok: ∀(k:Nat) (r:RowV),st.rows[k]?=some r→RowOk r
 keys:(st.kv.map (·.1)).Nodup
 laid: ∀b:Nat,(nW b st.kv).map SpotV.c=(s.laid[b]?).bind id
 poolR: ∀x∈fs,x∈pool
 poolL: ∀p∈st.kv,p.2∈pool
 low:0≤st.since
 high:st.since≤M
 many:st.rows.length≤M
 len:fs.length≤M
structure Picked (n:List Mono) (st:PSt) (k:Nat) (r:RowV):Prop where
 at_:st.rows[k]?=some r
 all: ∀x∈r.l,sz x=n
 rest: ∀(j:Nat) (q:RowV),st.rows[j]?=some q→j≠k→ ∀y∈q.l,sz y≠n
section
variable {st : PSt} {pool fs : List SpotV} {s : PlC} {M k : Nat} {r q : RowV} {n : List Mono} {x y : SpotV}
theorem fX.more(h:fX st pool s fs M){M':Nat}(hm:M≤M'):fX st pool s fs M':=⟨h.end_,h.free,h.flat,h.rise,h.top,h.apart,h.ok,h.keys,h.laid,h.poolR,h.poolL,h.low,by have:=h.high;omega,Nat.le_trans h.many hm,Nat.le_trans h.len hm⟩
theorem fX.wide(h:fX st pool s fs M)(x:SpotV):fX st (x::pool) s fs M:=⟨h.end_,h.free,h.flat,h.rise,h.top,h.apart,h.ok,h.keys,h.laid,fun y hy=>List.mem_cons_of_mem _ (h.poolR y hy),fun p hp=>List.mem_cons_of_mem _ (h.poolL p hp),h.low,h.high,h.many,h.len⟩
theorem fX.later(h:fX st pool s fs M):fX {st with since:=st.since+1} pool s fs (M+1):=⟨h.end_,h.free,h.flat,h.rise,fun x hx=>by have:=h.top x hx;show x.since≤st.since+1;omega,h.apart,h.ok,h.keys,h.laid,h.poolR,h.poolL,by have:=h.low;show 0≤st.since+1;omega,by have:=h.high;show st.since+1≤_;omega,by have:=h.many;show st.rows.length≤_;omega,by have:=h.len;omega⟩
theorem fX.mem(h:fX st pool s fs M)(hk:st.rows[k]?=some r)(hx:x∈r.l):x∈fs:=h.flat.mem_iff.1 (wS.2 ⟨k,r,hk,hx⟩)
theorem fX.inPool(h:fX st pool s fs M)(hk:st.rows[k]?=some r)(hx:x∈r.l):x∈pool:=h.poolR x (h.mem hk hx)
theorem fX.rlen(h:fX st pool s fs M)(hk:st.rows[k]?=some r):r.l.length≤M:=by
 have h1:=(yR hk).length_eq;have h2:=h.flat.length_eq;have:=h.len;rw [List.length_append] at h1;omega
theorem picked_old(h:fX st pool s fs M)(hk:st.rows[k]?=some r)(h0:r.l[0]?=some x)(hn:sz x=n):Picked n st k r:=by
 have hx:x∈r.l:=List.mem_of_getElem? h0;have hall: ∀y∈r.l,sz y=n:=fun y hy=>((h.ok k r hk).2.2.2.1 y hy x hx).trans hn;exact⟨hk,hall,fun j q hj hjk y hy e=>h.apart j k q r hj hk hjk y hy x hx (e.trans hn.symm)⟩
theorem picked_new(h:fX st pool s fs M)(hq:q.l=[])(hno: ∀(j:Nat) (r:RowV) (x:SpotV),st.rows[j]?=some r→r.l[0]?=some x→sz x≠n)(A:Option Addr)(c:Nat)(hf:q.full=false):
  fX {st with rows:=st.rows++[q],fA:=A,fc:=c} pool s fs (M+1)∧Picked n {st with rows:=st.rows++[q],fA:=A,fc:=c} st.rows.length q:=by
 have hno2: ∀(j:Nat) (r:RowV),st.rows[j]?=some r→ ∀y∈r.l,sz y≠n:=fun j r hj y hy=>by
  cases hl:r.l with
  | nil=>rw [hl] at hy;cases hy
  | cons z t=>
   have h1:r.l[0]?=some z:=by rw [hl];rfl
   rw [(h.ok j r hj).2.2.2.1 y hy z (List.mem_of_getElem? h1)];exact hno j r z hj h1
 have key: ∀(i:Nat) (a:RowV),(st.rows++[q])[i]?=some a→i≠st.rows.length→st.rows[i]?=some a:=fun i a hi hne=>by
  rw [List.getElem?_append] at hi;split at hi
  ·exact hi
  ·cases hn:i-st.rows.length with
   | zero=>omega
   | succ m=>rw [hn] at hi;simp at hi
 have hl:(st.rows++[q])[st.rows.length]?=some q:=by simp
 refine⟨⟨h.end_,h.free,by show(gL (st.rows++[q])).Perm fs;rw [plf_new hq];exact h.flat,h.rise,h.top,pl_apnew h.apart hq,fun i a hi=>?_,h.keys,h.laid,h.poolR,h.poolL,h.low,by have:=h.high;show st.since≤_;omega,by have:=h.many;show(st.rows++[q]).length≤_;rw [List.length_append];simp;omega,by have:=h.len;omega⟩,hl,fun y hy=>(by rw [hq] at hy;cases hy),fun j p hj hjk y hy=>hno2 j p (key j p hj hjk) y hy⟩
 by_cases e:i=st.rows.length
 ·subst e;have hi:(st.rows++[q])[st.rows.length]?=some a:=hi;rw [hl] at hi;cases hi;refine⟨fun e=>(by rw [hf] at e;cases e),by rw [hq];exact Nat.zero_le _,?_,fun x hx=>(by rw [hq] at hx;cases hx),fun x hx=>(by rw [hq] at hx;cases hx)⟩;intro k a b _ ha;rw [hq] at ha;simp at ha
 ·exact h.ok i a (key i a hi e)
theorem picked_none(h:fX st pool s fs M)(hp:Picked n st k r)(he:r.l=[]):s.free.findIdx? (fun y=>decide (y.size=n))=none:=by
 rw [←h.free,List.findIdx?_map];refine pl_none h.flat fun j p hj x hx=>?_
 by_cases e:j=k
 ·subst e;rw [hp.at_] at hj;cases hj;rw [he] at hx;cases hx
 ·exact hp.rest j p hj e x hx
theorem rel_take(h:fX st pool s fs M)(hp:Picked n st k r)(h0:r.l[0]?=some x)(hq:r.l.Perm (x::q.l))(hh:nO SpotV.since q.l)(hc:q.c=q.l.length):
  ∃i,s.free[i]?=some x.c∧s.free.findIdx? (fun y=>decide (y.size=n))=some i∧fX {st with rows:=st.rows.set k q} pool {s with free:=s.free.eraseIdx i} (fs.eraseIdx i) M:=by
 have hx:x∈r.l:=List.mem_of_getElem? h0;have hok:=h.ok k r hp.at_
 have hmin: ∀y∈r.l,x.since≤y.since:=fun y hy=>by
  obtain⟨j,hj⟩:=List.getElem?_of_mem hy;exact heap_min hok.2.2.1 h0 j y hj
 have hsub: ∀y∈q.l,y∈r.l:=fun y hy=>hq.mem_iff.2 (List.mem_cons_of_mem _ hy);obtain⟨i,h1,h2,h3⟩:=pl_take h.flat h.rise hp.at_ h.apart hp.all hx hmin hq;have hkl:=(List.getElem?_eq_some_iff.1 hp.at_).1
 refine⟨i,by rw [←h.free,List.getElem?_map,h1];rfl,by rw [←h.free,List.findIdx?_map];exact h2,⟨h.end_,?_,h3,h.rise.sublist (List.eraseIdx_sublist ..),fun y hy=>h.top y ((List.eraseIdx_sublist ..).subset hy),pl_apset h.apart hp.at_ fun a ha j p hj hjk b hb=>h.apart k j r p hp.at_ hj (Ne.symm hjk) a (hsub a ha) b hb,
  fun j a hj=>?_,h.keys,h.laid,fun y hy=>h.poolR y ((List.eraseIdx_sublist ..).subset hy),h.poolL,h.low,h.high,by show(st.rows.set k q).length≤M;rw [List.length_set];exact h.many,by have:=h.len;have:=(List.eraseIdx_sublist fs i).length_le;omega⟩⟩
 ·show(fs.eraseIdx i).map SpotV.c=s.free.eraseIdx i;rw [←h.free,pl_mape]
 ·have hj:(st.rows.set k q)[j]?=some a:=hj;rw [List.getElem?_set] at hj;split at hj
  ·simp at hj;subst hj;exact⟨fun _=>hc,by omega,hh,fun a ha b hb=>hok.2.2.2.1 a (hsub a ha) b (hsub b hb),fun a ha=>hok.2.2.2.2 a (hsub a ha)⟩
  ·exact h.ok j a hj
theorem rel_give(h:fX st pool s fs M)(hp:Picked (sz x) st k r)(hn:sz x≠[])(hq:q.l=r.l++[x])(hf:q.full=false)(hc:q.l.length≤q.c)(hsi:x.since=st.since)(hst: ∀f∈fs,f.since<x.since)(hxp:x∈pool):
  fX {st with rows:=st.rows.set k q} pool {s with free:=s.free++[x.c]} (fs++[x]) (M+1):=by
 have hok:=h.ok k r hp.at_;have hkl:=(List.getElem?_eq_some_iff.1 hp.at_).1
 have hin: ∀y∈q.l,y∈r.l∨y=x:=fun y hy=>by
  rw [hq] at hy
  rcases List.mem_append.1 hy with h1 | h1
  ·exact .inl h1
  ·exact .inr (by simpa using h1)
 have hsz: ∀y∈q.l,sz y=sz x:=fun y hy=>by
  rcases hin y hy with h1 | h1
  ·exact hp.all y h1
  ·rw [h1]
 refine⟨h.end_,by rw [List.map_append,h.free];rfl,pl_give h.flat hp.at_ hq,?_,fun y hy=>?_,pl_apset h.apart hp.at_ fun a ha j p hj hjk b hb e=>hp.rest j p hj hjk b hb (e.symm.trans (hsz a ha)),fun j a hj=>?_,h.keys,h.laid,fun y hy=>?_,h.poolL,h.low,by have:=h.high;show st.since≤_;omega,
  by show(st.rows.set k q).length≤_;rw [List.length_set];have:=h.many;omega,by have:=h.len;rw [List.length_append];simp;omega⟩
 ·refine List.pairwise_append.2 ⟨h.rise,List.pairwise_singleton _ _,fun a ha b hb=>?_⟩;have e:b=x:=by simpa using hb
  subst e;exact hst a ha
 ·show y.since≤st.since
  rcases List.mem_append.1 hy with h1 | h1
  ·exact h.top y h1
  ·have e:y=x:=by simpa using h1
   subst e;omega
 ·have hj:(st.rows.set k q)[j]?=some a:=hj;rw [List.getElem?_set] at hj;split at hj
  ·simp at hj;subst hj;refine⟨fun e=>(by rw [hf] at e;cases e),hc,?_,fun a ha b hb=>(hsz a ha).trans (hsz b hb).symm,fun a ha=>by rw [hsz a ha];exact hn⟩;rw [hq];refine heap_push hok.2.2.1 fun b hb=>?_;have:=hst b (h.mem hp.at_ hb);omega
  ·exact h.ok j a hj
 ·rcases List.mem_append.1 hy with h1 | h1
  ·exact h.poolR y h1
  ·have e:y=x:=by simpa using h1
   subst e;exact hxp
theorem rel_laid(h:fX st pool s fs M)(b:Nat)(hb:b<s.laid.length)(hx:x∈pool)(ats:List (List Mono)):fX {st with kv:=setS b x st.kv} pool {s with laid:=s.laid.set b (some x.c),ats:=ats} fs M:=
 ⟨h.end_,h.free,h.flat,h.rise,h.top,h.apart,h.ok,bDg _ _ _ h.keys,fun j=>by
  show(nW j (setS b x st.kv)).map SpotV.c=((s.laid.set b (some x.c))[j]?).bind id;rw [getS_set,List.getElem?_set]
  by_cases e:j=b
  ·subst e;simp [hb]
  ·rw [if_neg (by omega),if_neg (by omega)]
   exact h.laid j,h.poolR,fun p hp=>by
  rcases setS_mem _ _ _ p hp with h1 | h1
  ·rw [h1];exact hx
  ·exact h.poolL p h1,h.low,h.high,h.many,h.len⟩
theorem rel_gone(h:fX st pool s fs M)(b:Nat)(hb:b<s.laid.length):fX {st with kv:=delS b st.kv} pool {s with laid:=s.laid.set b none} fs M:=
 ⟨h.end_,h.free,h.flat,h.rise,h.top,h.apart,h.ok,delS_nodup _ _ h.keys,fun j=>by
  show(nW j (delS b st.kv)).map SpotV.c=((s.laid.set b none)[j]?).bind id;rw [getS_del _ _ _ h.keys,List.getElem?_set]
  by_cases e:j=b
  ·subst e;simp [hb]
  ·rw [if_neg (by omega),if_neg (by omega)]
   exact h.laid j,h.poolR,fun p hp=>h.poolL p ((bDu _ _).subset hp),h.low,h.high,h.many,h.len⟩
theorem rel_end(h:fX st pool s fs M)(e:PolV)(l:List Mono)(he:e.list=l):fX {st with end_:=e} pool {s with end_:=l} fs M:=
 ⟨he,h.free,h.flat,h.rise,h.top,h.apart,h.ok,h.keys,h.laid,h.poolR,h.poolL,h.low,h.high,h.many,h.len⟩
end
section
variable {P : Program} {β : fB} {n : Nat} {Γ : Env} {H : List bJ} {F : List bI} {Q : Exit → Act → World → Prop}
theorem run_inv{o:Oper}{f:FuncId}{r:Operand}{name:String}{ars:Array Operand}{ts:Array TypeId}{us:List Value}{t:TypeId}{v q:Value}{a:Act}{w:World}(hcf: ∀(args:Array Value) (w:World),(callFunc f args).run P w= .ok (.enter f args) w)(ho:o.op= .call ⟨.invoke r name,ars,ts⟩)(fi:lT n Γ a)
  (hr:Γ.ev r=some (.iface t v)) (hm:(method (P.types.size+Made.depth) t v name).run P w= .ok (f,q) w) (hv:Γ.evs ars.toList=some us):(execOp a.eval o).run P w= .ok (.enter f (q::us).toArray) w:=by
 have hargs:ars.map a.eval=us.toArray:=by
  apply Array.ext'
  simpa using fi.evs hv
 have hrecv:a.eval r= .iface t v:=fi.ev hr
 have e0:(#[a.eval r]++ars.map a.eval)[0]?=some (.iface t v):=by
  rw [Array.getElem?_append_left (by simp),hrecv];rfl
 have e1:(#[a.eval r]++ars.map a.eval).extract 1 (#[a.eval r]++ars.map a.eval).size=us.toArray:=by
  rw [hargs];apply Array.ext';simp only [List.size_toArray,Array.size_append];simp [List.take_of_length_le]
 have hp:(program:Sem Program).run P w= .ok P w:=rfl;unfold execOp;simp only [ho,resolve,Sem.run_bind,Sem.run_pure,Result.andThen_ok,invoke,e0,e1,callMethod,hp,hm];have:=hcf (q::us).toArray w
 simpa using this
theorem gA{ι:Type}{ops:Array Oper}{rest:List Oper}{o:Oper}{d:Nat}{f:FuncId}{r:Operand}{name:String}{ars:Array Operand}{ts:Array TypeId}{us:List Value}{t:TypeId}{v q:Value}{Hin H2:List bJ}{Pre:List bI}{val:ι→Value}{Hout:ι→List bJ}{post:ι→List bI}
  (hcf: ∀(args:Array Value) (w:World),(callFunc f args).run P w= .ok (.enter f args) w) (hs:cX P f (q::us) Hin Pre val Hout post) (hw:want ops Γ o=some true) (ho:o.op= .call ⟨.invoke r name,ars,ts⟩) (hd:o.dst=some d) (hn:Nat.blt d n=true)
  (hr:Γ.ev r=some (.iface t v)) (hm: ∀w S,St β H S w→All F S w→(method (P.types.size+Made.depth) t v name).run P w= .ok (f,q) w)
  (hv:Γ.evs ars.toList=some us) (hH:Split H Hin H2) (hF:bH F Pre) (k: ∀x,At β n ((d,val x)::Γ) (Hout x++H2) (post x++F) (wpList P ops Q rest)):At β n Γ H F (wpList P ops Q (o::rest)):=
 iH hw fun a w S f' s hk=>by
  unfold Oper.wp;rw [run_inv hcf ho f' hr (hm w S s hk) hv,Oper.upon_enter];have s1:=s.perm hH.perm;refine(hs S w s1.enter (hF.all S w hk)).mono ?_;rintro e w' ⟨x,S',rfl,s',k'⟩;show wpList P ops Q rest (a.put o.dst (val x)) w';rw [hd];exact k x _ _ _ (f'.put (by simpa [Nat.blt_eq] using hn) _) (s1.leave s') ((All.mono (fun _ h=> .inr h) (fun _ _=>rfl) k').append (All.leave s1 s' hk))
theorem xA{o:Oper}{t:TypeId}{x:Operand}{v:Value}{d:TypeDesc}(ho:o.op= .makeInterface t x)(hd:P.underlying t=some d)(hne: ∀ms,d≠ .interface ms)(hx:Γ.ev x=some v):Sti P β n Γ H F o (.iface t v):=fun a w S f s k=>by
 unfold execOp;simp only [ho,f.ev hx];unfold Instr.makeInterface;rw [Sem.run_bind,Sem.run_bind,run_underlying hd,Result.andThen_ok];cases d<;>first | exact absurd rfl (hne _) | rfl
theorem vG{o:Oper}{t st:TypeId}{x:Operand}{v:Value}{d:TypeDesc}(ho:o.op= .typeAssert x st t false)(hd:P.underlying t=some d)(hne: ∀ms,d≠ .interface ms)(hx:Γ.ev x=some (.iface t v)):Sti P β n Γ H F o v:=fun a w S f s k=>by
 unfold execOp;simp only [ho,f.ev hx];unfold Instr.typeAssert;rw [Sem.run_bind,Sem.run_bind,run_underlying hd,Result.andThen_ok];cases d<;>first | exact absurd rfl (hne _) | simp
end
end Go.Proofs.YtofjmphlpdhohaaGreatDoor
