/- Texts of one proof, one behind the other: Cut, CorF, TysR, CoW, Arrs, CoX. -/
import Derived.Test.YtofjmphlpdhohaaGreatDoorM4
import Derived.Laws.Slices
import Derived.Test.YtofjmphlpdhohaaGreatDoorM7
namespace Go.Proofs.YtofjmphlpdhohaaGreatDoor
open Go.RowKit
section
variable {P : Program} {β : gE} {n : Nat} {Γ : Env} {H : List bS} {F : List bQ} {Q : Exit → Act → World → Prop} {K : Act → World → Prop} {T : Tab} {α : Type} {E : Flat α}
theorem elem_of{t e:Nat}(hu:P.underlying t=some (.slice e)):P.elem t=e:=by simp [Program.elem,hu]
theorem run_cutTo(hT:dQ P T){t e sz:Nat}{ei:TI}(ht:T.get t=some ⟨.slice e,sz⟩)(he:T.get e=some ei){A:Option Addr}{l c k:Nat}(hk:k≤c)(kk:IntKind)(w:World):(Instr.sliceAt t (.slice A l c) none (some (.int kk (k:Nat))) none).run P w= .ok (.slice A k c) w:=by
 obtain⟨d,hu,hd⟩:=hT.any ht;cases d<;>simp [TD.of] at hd
 subst hd;have hel:=elem_of hu;rw [run_sliceAt_slice w t _ _ _ _ (by rw [hel];exact hu),run_slice_h w t A l c (by rw [hel];exact hu) kk (k:Int) (by omega) (by omega),hel,hT.size he];simp only [Result.andThen_ok,sliced,Int.toNat_natCast,Nat.zero_mul,Nat.sub_zero]
 congr 2
 split
 ·rfl
 ·cases A<;>simp [Addr.add]
theorem run_cutFrom(hT:dQ P T){t e sz:Nat}{ei:TI}(ht:T.get t=some ⟨.slice e,sz⟩)(he:T.get e=some ei){A:Option Addr}{l c k:Nat}(hk:k≤l)(kk:IntKind)(w:World):(Instr.sliceAt t (.slice A l c) (some (.int kk (k:Nat))) none none).run P w= .ok (.slice (pO A k ei.size c) (l-k) (c-k)) w:=by
 obtain⟨d,hu,hd⟩:=hT.any ht;cases d<;>simp [TD.of] at hd
 subst hd;have hel:=elem_of hu;rw [run_sliceAt_slice w t _ _ _ _ (by rw [hel];exact hu),run_slice_l w t A l c (by rw [hel];exact hu) kk (k:Int) (by omega) (by omega),hel,hT.size he];simp only [Result.andThen_ok,sliced,Int.toNat_natCast,pO]
theorem Has.cons{f g:bQ}{F:List bQ}(h:Has F g):Has (f::F) g:=fun S w k=>h S w fun x hx=>k x (List.mem_cons_of_mem _ hx)
theorem Has.each_nil{α:Type}{g:α→bQ}{F:List bQ}:Has F (bQ.each [] g):=fun _ _ _ x hx=>by simp at hx
theorem Has.each_cons{α:Type}{g:α→bQ}{F:List bQ}{x:α}{l:List α}(hx:Has F (g x))(hl:Has F (bQ.each l g)):Has F (bQ.each (x::l) g):=fun S w k y hy=>by
 rcases List.mem_cons.1 hy with rfl | hy
 ·exact hx S w k
 ·exact hl S w k y hy
theorem Has.each_tail{α:Type}{g:α→bQ}{F:List bQ}{x:α}{l:List α}(h:Has F (bQ.each (x::l) g)):Has F (bQ.each l g):=fun S w k y hy=>h S w k y (List.mem_cons_of_mem _ hy)
theorem Has.each_head{α:Type}{g:α→bQ}{F:List bQ}{x:α}{l:List α}(h:Has F (bQ.each (x::l) g)):Has F (g x):=fun S w k=>h S w k x (List.mem_cons_self ..)
theorem Has.each_snoc{α:Type}{g:α→bQ}{F:List bQ}{x:α}{l:List α}(hl:Has F (bQ.each l g))(hx:Has F (g x)):Has F (bQ.each (l++[x]) g):=fun S w k y hy=>by
 rcases List.mem_append.1 hy with hy | hy
 ·exact hl S w k y hy
 ·rw [List.mem_singleton.1 hy];exact hx S w k
theorem qD(hT:dQ P T){o:Oper}{t e sz k l cap:Nat}{ei:TI}{x i:Operand}{kk:IntKind}{z:Int}{A:Option Addr}(ho:o.op= .slice t x none (some i) none)(hx:Γ.ev x=some (.slice A l cap))(hi:Γ.ev i=some (.int kk z))
  (ht:T.get t=some ⟨.slice e,sz⟩) (he:T.get e=some ei) (hz:z=(k:Nat)) (hk:k≤cap):Sti P β n Γ H F o (.slice A k cap):=fun a w S f s hF=>by
 subst hz;unfold execOp;simp only [ho,f.ev hx,Option.map_some,Option.map_none,f.ev hi];rw [Sem.run_bind,run_cutTo hT ht he hk];rfl
theorem mS(hT:dQ P T){o:Oper}{t e sz k l cap:Nat}{ei:TI}{x i:Operand}{kk:IntKind}{z:Int}{A:Option Addr}(ho:o.op= .slice t x (some i) none none)(hx:Γ.ev x=some (.slice A l cap))(hi:Γ.ev i=some (.int kk z))
  (ht:T.get t=some ⟨.slice e,sz⟩) (he:T.get e=some ei) (hz:z=(k:Nat)) (hk:k≤l):Sti P β n Γ H F o (.slice (pO A k ei.size cap) (l-k) (cap-k)):=fun a w S f s hF=>by
 subst hz;unfold execOp;simp only [ho,f.ev hx,Option.map_some,Option.map_none,f.ev hi];rw [Sem.run_bind,run_cutFrom hT ht he hk];rfl
theorem nQ{A:Option Addr}{l c k:Nat}{xs:List α}(h:Has F (E.sl (.slice A l c) xs))(hk:k≤xs.length):Has F (E.sl (.slice A k c) (xs.take k)):=fun S w q=>by
 obtain⟨A',c',e,h⟩:=h S w q;injection e with e1 e2 e3
 subst e1 e3;refine⟨A,c,by rw [List.length_take,Nat.min_eq_left hk],fun j x hj=>?_⟩;rw [List.getElem?_take] at hj;split at hj
 ·exact h j x hj
 ·cases hj
theorem pM{A:Option Addr}{l c k:Nat}{xs:List α}(h:Has F (E.sl (.slice A l c) xs))(hc:l≤c)(hk:k≤xs.length):Has F (E.sl (.slice (pO A k E.size c) (l-k) (c-k)) (xs.drop k)):=fun S w q=>by
 obtain⟨A',c',e,h⟩:=h S w q;injection e with e1 e2 e3
 subst e1 e3;refine⟨pO A k E.size c,c-k,by rw [List.length_drop,e2],fun j x hj=>?_⟩;rw [List.getElem?_drop] at hj;obtain⟨b,o,cs,q1,q2,q3,q4⟩:=h _ x hj;have hlt:=(List.getElem?_eq_some_iff.1 hj).1;refine⟨b,o+k*E.size,cs,?_,q2,fun i u hi=>?_,q4⟩
 ·unfold pO;rw [if_neg (by omega),q1];show some ((⟨b,o,none⟩:Addr).add (k*E.size))=_;rw [Addr.add_mid]
 ·have:=q3 i u hi
  have e:o+k*E.size+j*(Enc.flat E.size E.cells).size+i=o+(k+j)*(Enc.flat E.size E.cells).size+i:=by
   show o+k*E.size+j*E.size+i=o+(k+j)*E.size+i;rw [Nat.add_mul];omega
  rw [e];exact this
theorem kT{A:Option Addr}{t:TypeId}{m cap:Nat}{xs:List α}{H':List bS}(hH:fG H (E.row (.slice A m cap) t xs) H')(h:xs.length≤cap→At β n Γ H F K):At β n Γ H F K:=fun a w S f s k=>by
 have hown:w.ownsRow 0 t E.size (.slice A m cap) xs.length (E.all xs):=s.ok _ hH.mem;refine h ?_ a w S f s k
 rcases hown.2 with ⟨_,e0⟩ | ⟨g,cap',cur,e1,h1,h2,h3,_⟩
 ·omega
 ·injection e1 with e1 e2 e3
  subst e3;omega
end
theorem fQ:Tryz.prog.follows .mixedOrders=true:=by kernel_rfl
def uZ (a b:cK):Bool:=a.eqB b
theorem sD{β:gE}{n:Nat}{Γ:Env}{H:List bS}{F:List bQ}{o:Oper}{a b:Operand}{tt:TypeId}(x y:cK)(ho:o.op= .binOp .neq 45 a b tt)(hx:Γ.ev a=some (.agg #[.int .i64 x.n,.int .u8 x.e0.toNat,.int .u8 x.e1.toNat,.int .u8 x.e2.toNat,.int .u8 x.e3.toNat,.int .u8 x.e4.toNat,.int .u8 x.e5.toNat]))(hy:Γ.ev b=some (.agg #[.int .i64 y.n,.int .u8 y.e0.toNat,.int .u8 y.e1.toNat,.int .u8 y.e2.toNat,.int .u8 y.e3.toNat,.int .u8 y.e4.toNat,.int .u8 y.e5.toNat])):Sti Tryz.prog β n Γ H F o (.bool (!uZ x y)):=fun c w S f s k=>by
 have hq:Tryz.prog.eqGuardType Tryz.prog.depth 45=false:=by kernel_rfl
 have hg:(eqGuard .neq 45 a b (.agg #[.int .i64 x.n,.int .u8 x.e0.toNat,.int .u8 x.e1.toNat,.int .u8 x.e2.toNat,.int .u8 x.e3.toNat,.int .u8 x.e4.toNat,.int .u8 x.e5.toNat]) (.agg #[.int .i64 y.n,.int .u8 y.e0.toNat,.int .u8 y.e1.toNat,.int .u8 y.e2.toNat,.int .u8 y.e3.toNat,.int .u8 y.e4.toNat,.int .u8 y.e5.toNat])).run Tryz.prog w= .ok () w:=by
  unfold eqGuard;have hp:(program:Sem Program).run Tryz.prog w= .ok Tryz.prog w:=rfl;simp [hp,hq]
 unfold execOp;simp only [ho,f.ev hx,f.ev hy];rw [Sem.run_bind,Sem.run_bind,hg,Result.andThen_ok,run_neq_mono];rfl
theorem mono_eq{x y:cK}:uZ x y=true↔x=y:=cK.eqB_iff x y
theorem mono_t{x y:cK}(h:(!uZ x y)=true):x≠y:=fun e=>by
 rw [mono_eq.2 e] at h;cases h
theorem mono_f{x y:cK}(h:(!uZ x y)=false):x=y:=mono_eq.1 (by simpa using h)
def cZ (l:List gF):List (List cK):=l.map (·.list)
theorem cU(l:List gF):(cZ l).length=l.length:=List.length_map _
theorem gM{l:List gF}{i:Nat}{p:gF}(h:l[i]?=some p):(cZ l)[i]?=some p.list:=by
 unfold cZ;rw [List.getElem?_map,h];rfl
def OpV.c (o:OpV):OpC:=⟨o.how,o.k,o.n,o.p.list,o.fn⟩
def dZ (l:List OpV):List OpC:=l.map OpV.c
def iZ.c (b:iZ):pH:=⟨cZ b.sides.list,b.input⟩
def fB.c (s:fB):dU:=⟨s.how,s.buf,s.at_.list,cZ s.loops.list,s.fn,dZ s.ops.list⟩
def rL (l:List fB):List dU:=l.map fB.c
def oV (l:List iZ):List pH:=l.map iZ.c
def gG.c (c:gG):fM:=⟨c.vars,oV c.bufs.list,rL c.steps.list,c.outs.list⟩
theorem cR(l:List OpV):(dZ l).length=l.length:=List.length_map _
theorem dY(l:List fB):(rL l).length=l.length:=List.length_map _
theorem dL(l:List iZ):(oV l).length=l.length:=List.length_map _
theorem fF{l:List OpV}{i:Nat}{x:OpV}(h:l[i]?=some x):(dZ l)[i]?=some x.c:=by
 unfold dZ;rw [List.getElem?_map,h];rfl
theorem cO{l:List fB}{i:Nat}{x:fB}(h:l[i]?=some x):(rL l)[i]?=some x.c:=by
 unfold rL;rw [List.getElem?_map,h];rfl
theorem fA{l:List iZ}{i:Nat}{x:iZ}(h:l[i]?=some x):(oV l)[i]?=some x.c:=by
 unfold oV;rw [List.getElem?_map,h];rfl
theorem jC{α:Type} [DecidableEq α]{a b:List α}(h:a≠b):Value.bool false= .bool (decide (a=b)):=by simp [h]
theorem tL{α:Type} [DecidableEq α]{a b:List α}(h:a=b):Value.bool true= .bool (decide (a=b)):=by simp [h]
theorem nil_pol{α:Type}{E:Flat α}{F:List bQ}:Has F (E.sl (.slice none 0 0) []):=fun _ _ _=>⟨none,0,rfl,fun k x hk=>by simp at hk⟩
def lS (l:List gF):bQ:=bQ.each l lV
theorem jH{F:List bQ}{p:gF}(h:Has F (lV p)):Has F (oR.sl (.slice p.addr p.list.length p.cap) p.list):=h.left
theorem iV{F:List bQ}{p:gF}(h:Has F (lV p)):Has F (bQ.pure (p.list.length≤140737488355328)):=h.right
theorem polF_nil: ∀{F:List bQ},Has F (lV ⟨none,0,[]⟩):=Has.and nil_pol (Has.pure (by decide))
def uJ {α:Type}(b:Nat)(l:Sl α):bQ:=bQ.pure (l.list.length≤l.cap∧l.list.length*b≤140737488355328)
def mG (l:Sl gF):bQ:=((kI.sl (.slice l.addr l.list.length l.cap) l.list).and (lS l.list)).and (uJ 24 l)
def opF (x:OpV):bQ:=lV x.p
def opsF (l:Sl OpV):bQ:=((opE.sl (.slice l.addr l.list.length l.cap) l.list).and (bQ.each l.list opF)).and (uJ 56 l)
def kM (x:fB):bQ:=(lV x.at_).and ((mG x.loops).and (opsF x.ops))
def tJ (l:Sl fB):bQ:=((nT.sl (.slice l.addr l.list.length l.cap) l.list).and (bQ.each l.list kM)).and (uJ 96 l)
def bufF (x:iZ):bQ:=mG x.sides
def bufsF (l:Sl iZ):bQ:=((bufE.sl (.slice l.addr l.list.length l.cap) l.list).and (bQ.each l.list bufF)).and (uJ 32 l)
def outsF (l:Sl Int):bQ:=(gX.sl (.slice l.addr l.list.length l.cap) l.list).and (uJ 8 l)
def lC (c:gG):bQ:=(bufsF c.bufs).and ((tJ c.steps).and (outsF c.outs))
section
variable {F : List bQ} {c : gG} {s : fB} {l : Sl gF} {ol : Sl OpV} {bl : Sl iZ} {xl : Sl fB} {il : Sl Int}
theorem oK(h:Has F (lC c)):Has F (bufsF c.bufs):=h.left
theorem gI(h:Has F (lC c)):Has F (tJ c.steps):=h.right.left
theorem vA(h:Has F (lC c)):Has F (outsF c.outs):=h.right.right
theorem stepF_a(h:Has F (kM s)):Has F (lV s.at_):=h.left
theorem jK(h:Has F (kM s)):Has F (mG s.loops):=h.right.left
theorem gO(h:Has F (kM s)):Has F (opsF s.ops):=h.right.right
theorem nC(h:Has F (mG l)):Has F (kI.sl (.slice l.addr l.list.length l.cap) l.list):=h.left.left
theorem mQ(h:Has F (mG l)):Has F (lS l.list):=h.left.right
theorem listF_c(h:Has F (mG l)):Has F (uJ 24 l):=h.right
theorem pF(h:Has F (opsF ol)):Has F (opE.sl (.slice ol.addr ol.list.length ol.cap) ol.list):=h.left.left
theorem wI(h:Has F (opsF ol)):Has F (bQ.each ol.list opF):=h.left.right
theorem opsF_c(h:Has F (opsF ol)):Has F (uJ 56 ol):=h.right
theorem lL(h:Has F (tJ xl)):Has F (nT.sl (.slice xl.addr xl.list.length xl.cap) xl.list):=h.left.left
theorem lF(h:Has F (tJ xl)):Has F (bQ.each xl.list kM):=h.left.right
theorem stepsF_c(h:Has F (tJ xl)):Has F (uJ 96 xl):=h.right
theorem sA(h:Has F (bufsF bl)):Has F (bufE.sl (.slice bl.addr bl.list.length bl.cap) bl.list):=h.left.left
theorem bufsF_e(h:Has F (bufsF bl)):Has F (bQ.each bl.list bufF):=h.left.right
theorem vD(h:Has F (outsF il)):Has F (gX.sl (.slice il.addr il.list.length il.cap) il.list):=h.left
end
end Go.Proofs.YtofjmphlpdhohaaGreatDoor
namespace Go.Proofs.YtofjmphlpdhohaaGreatDoor
open Go.RowKit Go.ChangeShapes Go.WideShapes
section
variable {α H : Type} {enc : TypeId × Value → H} {P : Program} {w : World} {t e : TypeId}
def Ty.slicec(T:Ty α)(b:Nat):Ty (Sl α):=⟨slE α,fun s=>((T.slice b).deep s).and (bQ.pure (s.list.length≤s.cap))⟩
theorem lY{deep:Sl α→bQ}(hu:P.underlying t=some (.slice e))(he:mD enc P w t (slE α).cells deep):mD enc P w t (slE α).cells (fun s=>(deep s).and (bQ.pure (s.list.length≤s.cap))):=fun fuel cs x h hw=>by
 obtain⟨a,e0,d⟩:=he fuel cs x h hw;refine⟨a,e0,d,?_⟩;have e0':cs=[.slice a.addr a.list.length a.cap]:=e0;show a.list.length≤a.cap
 rcases Deep.open_slice hu h with ⟨e1,_⟩ | ⟨a',len,cap,m,n,D,Pl,e1,_,hl,_⟩
 ·rw [e0'] at e1;simp only [List.cons.injEq,and_true,Value.slice.injEq] at e1;omega
 ·rw [e0'] at e1;simp only [List.cons.injEq,and_true,Value.slice.injEq] at e1;omega
end
set_option maxRecDepth 100000
section
variable {H : Type} {enc : TypeId × Value → H} {w : World}
theorem u8_of{n:Int}(h:(Lit.int .u8 n).wf=true): ∃e:UInt8,n=(e.toNat:Int):=by
 have h':0≤n∧n≤255:=bounds_u8 h;refine⟨UInt8.ofNat n.toNat,?_⟩;rw [UInt8.toNat_ofNat'];omega
theorem read_mono{fuel:Nat}{cs:List Value}{x:DataW H×List MemPlace}(h:DataW.trod enc Tryz.prog w 0 (fun _=>true) true fuel 45 cs=some x): ∃m:cK,cs=m.cells∧(Lit.int .i64 m.n).wf=true:=by
 obtain⟨xs,n,_,_,hlen,hxl,hf⟩:=DataW.trod_struct Tryz.underlying45 h;have hc39:Tryz.prog.cellsOf 45=7:=by kernel_rfl
 have hc2:Tryz.prog.cellsOf 2=1:=by kernel_rfl
 have hc37:Tryz.prog.cellsOf 43=6:=by kernel_rfl
 have hc5:Tryz.prog.cellsOf 5=1:=by kernel_rfl
 rw [hc39] at hlen;have hxl':xs.length=2:=hxl
 match cs,hlen with
 | [a,b0,b1,b2,b3,b4,b5],_=>
  have h0:DataW.trod enc Tryz.prog w 0 (fun _=>true) true n 2 (([a,b0,b1,b2,b3,b4,b5].drop 0).take (Tryz.prog.cellsOf 2))=xs[0]?:=hf 0 _ rfl;have h1:DataW.trod enc Tryz.prog w 0 (fun _=>true) true n 43 (([a,b0,b1,b2,b3,b4,b5].drop 1).take (Tryz.prog.cellsOf 43))=xs[1]?:=hf 1 _ rfl;rw [hc2,List.getElem?_eq_getElem (by omega)] at h0;rw [hc37,List.getElem?_eq_getElem (by omega)] at h1;obtain⟨nn,e0,_,hw⟩:=DataW.trod_int Tryz.underlying2 h0;obtain⟨ys,n',_,_,_,hyl,hg⟩:=DataW.trod_array Tryz.underlying43 h1
  have g: ∀i,i<6→ ∃e:UInt8,(([b0,b1,b2,b3,b4,b5]:List Value).drop i).take 1=[.int .u8 (e.toNat:Int)]:=fun i hi=>by
   have h2:=hg i hi;rw [hc5,Nat.mul_one,List.getElem?_eq_getElem (by omega)] at h2;obtain⟨k,e1,_,hw1⟩:=DataW.trod_int Tryz.underlying5 h2;obtain⟨e,rfl⟩:=u8_of hw1;exact⟨e,e1⟩
  obtain⟨e0',g0⟩:=g 0 (by omega);obtain⟨e1',g1⟩:=g 1 (by omega);obtain⟨e2',g2⟩:=g 2 (by omega);obtain⟨e3',g3⟩:=g 3 (by omega);obtain⟨e4',g4⟩:=g 4 (by omega);obtain⟨e5',g5⟩:=g 5 (by omega);simp at e0 g0 g1 g2 g3 g4 g5;subst e0 g0 g1 g2 g3 g4 g5;exact⟨⟨nn,e0',e1',e2',e3',e4',e5'⟩,rfl,hw⟩
end
def kK:Ty cK:=⟨oR,fun m=>bQ.pure ((Lit.int .i64 m.n).wf=true)⟩
theorem oB{H:Type}{enc:TypeId×Value→H}{w:World}:mD enc Tryz.prog w 45 kK.E.cells kK.deep:=fun fuel cs x h _=>by
 obtain⟨m,e,hw⟩:=read_mono h;exact⟨m,e,hw⟩
instance : Inhabited cK := ⟨⟨0, 0, 0, 0, 0, 0, 0⟩⟩
def opTy:Ty OpV:=⟨opE,fun x=>(bQ.pure ((Lit.int .i64 x.how).wf=true)).and ((bQ.pure ((Lit.int .i64 x.k).wf=true)).and ((bQ.pure ((Lit.int .i64 x.n).wf=true)).and ((((kK.slice 16)).deep x.p).and ((bQ.pure ((Lit.int .u8 x.fn).wf=true)).and (bQ.true)))))⟩
set_option maxRecDepth 100000 in
theorem opens_op{H:Type}{enc:TypeId×Value→H}{w:World}:mD enc Tryz.prog w 42 opE.cells opTy.deep:=fun fuel cs x h hw=>by
 obtain⟨xs,n,_,rfl,hlen,hxl,hf⟩:=DataW.trod_struct Tryz.underlying42 h;have hc:Tryz.prog.cellsOf 42=5:=by kernel_rfl
 rw [hc] at hlen;have hxl':xs.length=5:=hxl
 match cs,hlen with
 | [c0,c1,c2,c3,c4],_=>
  have h0:DataW.trod enc Tryz.prog w 0 (fun _=>true) true n 3 (([c0,c1,c2,c3,c4].drop 0).take (Tryz.prog.cellsOf 3))=xs[0]?:=hf 0 _ rfl;have h1:DataW.trod enc Tryz.prog w 0 (fun _=>true) true n 3 (([c0,c1,c2,c3,c4].drop 1).take (Tryz.prog.cellsOf 3))=xs[1]?:=hf 1 _ rfl;have h2:DataW.trod enc Tryz.prog w 0 (fun _=>true) true n 2 (([c0,c1,c2,c3,c4].drop 2).take (Tryz.prog.cellsOf 2))=xs[2]?:=hf 2 _ rfl;have h3:DataW.trod enc Tryz.prog w 0 (fun _=>true) true n 35 (([c0,c1,c2,c3,c4].drop 3).take (Tryz.prog.cellsOf 35))=xs[3]?:=hf 3 _ rfl;have h4:DataW.trod enc Tryz.prog w 0 (fun _=>true) true n 37 (([c0,c1,c2,c3,c4].drop 4).take (Tryz.prog.cellsOf 37))=xs[4]?:=hf 4 _ rfl;rw [List.getElem?_eq_getElem (by omega)] at h0;obtain⟨a0,e0,d0⟩:=(iI Tryz.underlying3) _ _ _ h0 (cX Tryz.underlying42 hw (j:=0) rfl (by rw [List.getElem?_map,List.getElem?_eq_getElem (by omega)];rfl))
  have q0:[c0]=[.int .i64 a0]:=by
   have hk:Tryz.prog.cellsOf 3=1:=by kernel_rfl
   rw [hk] at e0;exact e0
  clear e0;simp only [List.cons.injEq,and_true] at q0;rw [List.getElem?_eq_getElem (by omega)] at h1;obtain⟨a1,e1,d1⟩:=(iI Tryz.underlying3) _ _ _ h1 (cX Tryz.underlying42 hw (j:=1) rfl (by rw [List.getElem?_map,List.getElem?_eq_getElem (by omega)];rfl))
  have q1:[c1]=[.int .i64 a1]:=by
   have hk:Tryz.prog.cellsOf 3=1:=by kernel_rfl
   rw [hk] at e1;exact e1
  clear e1;simp only [List.cons.injEq,and_true] at q1;rw [List.getElem?_eq_getElem (by omega)] at h2;obtain⟨a2,e2,d2⟩:=(iI Tryz.underlying2) _ _ _ h2 (cX Tryz.underlying42 hw (j:=2) rfl (by rw [List.getElem?_map,List.getElem?_eq_getElem (by omega)];rfl))
  have q2:[c2]=[.int .i64 a2]:=by
   have hk:Tryz.prog.cellsOf 2=1:=by kernel_rfl
   rw [hk] at e2;exact e2
  clear e2;simp only [List.cons.injEq,and_true] at q2;rw [List.getElem?_eq_getElem (by omega)] at h3;obtain⟨a3,e3,d3⟩:=(fO (T:=kK) (b:=16) Tryz.underlying35 (by kernel_rfl) (by kernel_rfl) oB) _ _ _ h3 (cX Tryz.underlying42 hw (j:=3) rfl (by rw [List.getElem?_map,List.getElem?_eq_getElem (by omega)];rfl))
  have q3:[c3]=[.slice a3.addr a3.list.length a3.cap]:=by
   have hk:Tryz.prog.cellsOf 35=1:=by kernel_rfl
   rw [hk] at e3;exact e3
  clear e3;simp only [List.cons.injEq,and_true] at q3;rw [List.getElem?_eq_getElem (by omega)] at h4;obtain⟨a4,e4,d4⟩:=(iI Tryz.underlying37) _ _ _ h4 (cX Tryz.underlying42 hw (j:=4) rfl (by rw [List.getElem?_map,List.getElem?_eq_getElem (by omega)];rfl))
  have q4:[c4]=[.int .u8 a4]:=by
   have hk:Tryz.prog.cellsOf 37=1:=by kernel_rfl
   rw [hk] at e4;exact e4
  clear e4;simp only [List.cons.injEq,and_true] at q4;obtain rfl:=q0;obtain rfl:=q1;obtain rfl:=q2;obtain rfl:=q3;obtain rfl:=q4;exact⟨⟨a0,a1,a2,a3,a4⟩,rfl,d0,d1,d2,d3,d4,trivial⟩
def bufTy:Ty iZ:=⟨bufE,fun x=>((((kK.slice 16).slicec 24)).deep x.sides).and ((bQ.pure ((Lit.int .i64 x.input).wf=true)).and (bQ.true))⟩
set_option maxRecDepth 100000 in
theorem opens_buf{H:Type}{enc:TypeId×Value→H}{w:World}:mD enc Tryz.prog w 47 bufE.cells bufTy.deep:=fun fuel cs x h hw=>by
 obtain⟨xs,n,_,rfl,hlen,hxl,hf⟩:=DataW.trod_struct Tryz.underlying47 h;have hc:Tryz.prog.cellsOf 47=2:=by kernel_rfl
 rw [hc] at hlen;have hxl':xs.length=2:=hxl
 match cs,hlen with
 | [c0,c1],_=>
  have h0:DataW.trod enc Tryz.prog w 0 (fun _=>true) true n 36 (([c0,c1].drop 0).take (Tryz.prog.cellsOf 36))=xs[0]?:=hf 0 _ rfl;have h1:DataW.trod enc Tryz.prog w 0 (fun _=>true) true n 3 (([c0,c1].drop 1).take (Tryz.prog.cellsOf 3))=xs[1]?:=hf 1 _ rfl;rw [List.getElem?_eq_getElem (by omega)] at h0;obtain⟨a0,e0,d0⟩:=(lY Tryz.underlying36 (fO (T:=(kK.slice 16)) (b:=24) Tryz.underlying36 (by kernel_rfl) (by kernel_rfl) (fO (T:=kK) (b:=16) Tryz.underlying35 (by kernel_rfl) (by kernel_rfl) oB))) _ _ _ h0 (cX Tryz.underlying47 hw (j:=0) rfl (by rw [List.getElem?_map,List.getElem?_eq_getElem (by omega)];rfl))
  have q0:[c0]=[.slice a0.addr a0.list.length a0.cap]:=by
   have hk:Tryz.prog.cellsOf 36=1:=by kernel_rfl
   rw [hk] at e0;exact e0
  clear e0;simp only [List.cons.injEq,and_true] at q0;rw [List.getElem?_eq_getElem (by omega)] at h1;obtain⟨a1,e1,d1⟩:=(iI Tryz.underlying3) _ _ _ h1 (cX Tryz.underlying47 hw (j:=1) rfl (by rw [List.getElem?_map,List.getElem?_eq_getElem (by omega)];rfl))
  have q1:[c1]=[.int .i64 a1]:=by
   have hk:Tryz.prog.cellsOf 3=1:=by kernel_rfl
   rw [hk] at e1;exact e1
  clear e1;simp only [List.cons.injEq,and_true] at q1;obtain rfl:=q0;obtain rfl:=q1;exact⟨⟨a0,a1⟩,rfl,d0,d1,trivial⟩
def wH:Ty fB:=⟨nT,fun x=>(bQ.pure ((Lit.int .i64 x.how).wf=true)).and ((bQ.pure ((Lit.int .i64 x.buf).wf=true)).and ((((kK.slice 16)).deep x.at_).and (((((kK.slice 16).slicec 24)).deep x.loops).and ((bQ.pure ((Lit.int .u8 x.fn).wf=true)).and ((((opTy.slicec 56)).deep x.ops).and (bQ.true))))))⟩
set_option maxRecDepth 100000 in
theorem opens_step{H:Type}{enc:TypeId×Value→H}{w:World}:mD enc Tryz.prog w 40 nT.cells wH.deep:=fun fuel cs x h hw=>by
 obtain⟨xs,n,_,rfl,hlen,hxl,hf⟩:=DataW.trod_struct Tryz.underlying40 h;have hc:Tryz.prog.cellsOf 40=6:=by kernel_rfl
 rw [hc] at hlen;have hxl':xs.length=6:=hxl
 match cs,hlen with
 | [c0,c1,c2,c3,c4,c5],_=>
  have h0:DataW.trod enc Tryz.prog w 0 (fun _=>true) true n 3 (([c0,c1,c2,c3,c4,c5].drop 0).take (Tryz.prog.cellsOf 3))=xs[0]?:=hf 0 _ rfl;have h1:DataW.trod enc Tryz.prog w 0 (fun _=>true) true n 3 (([c0,c1,c2,c3,c4,c5].drop 1).take (Tryz.prog.cellsOf 3))=xs[1]?:=hf 1 _ rfl;have h2:DataW.trod enc Tryz.prog w 0 (fun _=>true) true n 35 (([c0,c1,c2,c3,c4,c5].drop 2).take (Tryz.prog.cellsOf 35))=xs[2]?:=hf 2 _ rfl;have h3:DataW.trod enc Tryz.prog w 0 (fun _=>true) true n 36 (([c0,c1,c2,c3,c4,c5].drop 3).take (Tryz.prog.cellsOf 36))=xs[3]?:=hf 3 _ rfl;have h4:DataW.trod enc Tryz.prog w 0 (fun _=>true) true n 37 (([c0,c1,c2,c3,c4,c5].drop 4).take (Tryz.prog.cellsOf 37))=xs[4]?:=hf 4 _ rfl;have h5:DataW.trod enc Tryz.prog w 0 (fun _=>true) true n 38 (([c0,c1,c2,c3,c4,c5].drop 5).take (Tryz.prog.cellsOf 38))=xs[5]?:=hf 5 _ rfl;rw [List.getElem?_eq_getElem (by omega)] at h0;obtain⟨a0,e0,d0⟩:=(iI Tryz.underlying3) _ _ _ h0 (cX Tryz.underlying40 hw (j:=0) rfl (by rw [List.getElem?_map,List.getElem?_eq_getElem (by omega)];rfl))
  have q0:[c0]=[.int .i64 a0]:=by
   have hk:Tryz.prog.cellsOf 3=1:=by kernel_rfl
   rw [hk] at e0;exact e0
  clear e0;simp only [List.cons.injEq,and_true] at q0;rw [List.getElem?_eq_getElem (by omega)] at h1;obtain⟨a1,e1,d1⟩:=(iI Tryz.underlying3) _ _ _ h1 (cX Tryz.underlying40 hw (j:=1) rfl (by rw [List.getElem?_map,List.getElem?_eq_getElem (by omega)];rfl))
  have q1:[c1]=[.int .i64 a1]:=by
   have hk:Tryz.prog.cellsOf 3=1:=by kernel_rfl
   rw [hk] at e1;exact e1
  clear e1;simp only [List.cons.injEq,and_true] at q1;rw [List.getElem?_eq_getElem (by omega)] at h2;obtain⟨a2,e2,d2⟩:=(fO (T:=kK) (b:=16) Tryz.underlying35 (by kernel_rfl) (by kernel_rfl) oB) _ _ _ h2 (cX Tryz.underlying40 hw (j:=2) rfl (by rw [List.getElem?_map,List.getElem?_eq_getElem (by omega)];rfl))
  have q2:[c2]=[.slice a2.addr a2.list.length a2.cap]:=by
   have hk:Tryz.prog.cellsOf 35=1:=by kernel_rfl
   rw [hk] at e2;exact e2
  clear e2;simp only [List.cons.injEq,and_true] at q2;rw [List.getElem?_eq_getElem (by omega)] at h3;obtain⟨a3,e3,d3⟩:=(lY Tryz.underlying36 (fO (T:=(kK.slice 16)) (b:=24) Tryz.underlying36 (by kernel_rfl) (by kernel_rfl) (fO (T:=kK) (b:=16) Tryz.underlying35 (by kernel_rfl) (by kernel_rfl) oB))) _ _ _ h3 (cX Tryz.underlying40 hw (j:=3) rfl (by rw [List.getElem?_map,List.getElem?_eq_getElem (by omega)];rfl))
  have q3:[c3]=[.slice a3.addr a3.list.length a3.cap]:=by
   have hk:Tryz.prog.cellsOf 36=1:=by kernel_rfl
   rw [hk] at e3;exact e3
  clear e3;simp only [List.cons.injEq,and_true] at q3;rw [List.getElem?_eq_getElem (by omega)] at h4;obtain⟨a4,e4,d4⟩:=(iI Tryz.underlying37) _ _ _ h4 (cX Tryz.underlying40 hw (j:=4) rfl (by rw [List.getElem?_map,List.getElem?_eq_getElem (by omega)];rfl))
  have q4:[c4]=[.int .u8 a4]:=by
   have hk:Tryz.prog.cellsOf 37=1:=by kernel_rfl
   rw [hk] at e4;exact e4
  clear e4;simp only [List.cons.injEq,and_true] at q4;rw [List.getElem?_eq_getElem (by omega)] at h5;obtain⟨a5,e5,d5⟩:=(lY Tryz.underlying38 (fO (T:=opTy) (b:=56) Tryz.underlying38 (by kernel_rfl) (by kernel_rfl) opens_op)) _ _ _ h5 (cX Tryz.underlying40 hw (j:=5) rfl (by rw [List.getElem?_map,List.getElem?_eq_getElem (by omega)];rfl))
  have q5:[c5]=[.slice a5.addr a5.list.length a5.cap]:=by
   have hk:Tryz.prog.cellsOf 38=1:=by kernel_rfl
   rw [hk] at e5;exact e5
  clear e5;simp only [List.cons.injEq,and_true] at q5;obtain rfl:=q0;obtain rfl:=q1;obtain rfl:=q2;obtain rfl:=q3;obtain rfl:=q4;obtain rfl:=q5;exact⟨⟨a0,a1,a2,a3,a4,a5⟩,rfl,d0,d1,d2,d3,d4,d5,trivial⟩
def coreTy:Ty gG:=⟨coreE,fun x=>(bQ.pure ((Lit.int .i64 x.vars).wf=true)).and ((((bufTy.slicec 32)).deep x.bufs).and ((((wH.slicec 96)).deep x.steps).and ((((intTy.slicec 8)).deep x.outs).and (bQ.true))))⟩
set_option maxRecDepth 100000 in
theorem opens_core{H:Type}{enc:TypeId×Value→H}{w:World}:mD enc Tryz.prog w 26 coreE.cells coreTy.deep:=fun fuel cs x h hw=>by
 obtain⟨xs,n,_,rfl,hlen,hxl,hf⟩:=DataW.trod_struct Tryz.underlying26 h;have hc:Tryz.prog.cellsOf 26=4:=by kernel_rfl
 rw [hc] at hlen;have hxl':xs.length=4:=hxl
 match cs,hlen with
 | [c0,c1,c2,c3],_=>
  have h0:DataW.trod enc Tryz.prog w 0 (fun _=>true) true n 3 (([c0,c1,c2,c3].drop 0).take (Tryz.prog.cellsOf 3))=xs[0]?:=hf 0 _ rfl;have h1:DataW.trod enc Tryz.prog w 0 (fun _=>true) true n 22 (([c0,c1,c2,c3].drop 1).take (Tryz.prog.cellsOf 22))=xs[1]?:=hf 1 _ rfl;have h2:DataW.trod enc Tryz.prog w 0 (fun _=>true) true n 23 (([c0,c1,c2,c3].drop 2).take (Tryz.prog.cellsOf 23))=xs[2]?:=hf 2 _ rfl;have h3:DataW.trod enc Tryz.prog w 0 (fun _=>true) true n 24 (([c0,c1,c2,c3].drop 3).take (Tryz.prog.cellsOf 24))=xs[3]?:=hf 3 _ rfl;rw [List.getElem?_eq_getElem (by omega)] at h0;obtain⟨a0,e0,d0⟩:=(iI Tryz.underlying3) _ _ _ h0 (cX Tryz.underlying26 hw (j:=0) rfl (by rw [List.getElem?_map,List.getElem?_eq_getElem (by omega)];rfl))
  have q0:[c0]=[.int .i64 a0]:=by
   have hk:Tryz.prog.cellsOf 3=1:=by kernel_rfl
   rw [hk] at e0;exact e0
  clear e0;simp only [List.cons.injEq,and_true] at q0;rw [List.getElem?_eq_getElem (by omega)] at h1;obtain⟨a1,e1,d1⟩:=(lY Tryz.underlying22 (fO (T:=bufTy) (b:=32) Tryz.underlying22 (by kernel_rfl) (by kernel_rfl) opens_buf)) _ _ _ h1 (cX Tryz.underlying26 hw (j:=1) rfl (by rw [List.getElem?_map,List.getElem?_eq_getElem (by omega)];rfl))
  have q1:[c1]=[.slice a1.addr a1.list.length a1.cap]:=by
   have hk:Tryz.prog.cellsOf 22=1:=by kernel_rfl
   rw [hk] at e1;exact e1
  clear e1;simp only [List.cons.injEq,and_true] at q1;rw [List.getElem?_eq_getElem (by omega)] at h2;obtain⟨a2,e2,d2⟩:=(lY Tryz.underlying23 (fO (T:=wH) (b:=96) Tryz.underlying23 (by kernel_rfl) (by kernel_rfl) opens_step)) _ _ _ h2 (cX Tryz.underlying26 hw (j:=2) rfl (by rw [List.getElem?_map,List.getElem?_eq_getElem (by omega)];rfl))
  have q2:[c2]=[.slice a2.addr a2.list.length a2.cap]:=by
   have hk:Tryz.prog.cellsOf 23=1:=by kernel_rfl
   rw [hk] at e2;exact e2
  clear e2;simp only [List.cons.injEq,and_true] at q2;rw [List.getElem?_eq_getElem (by omega)] at h3;obtain⟨a3,e3,d3⟩:=(lY Tryz.underlying24 (fO (T:=intTy) (b:=8) Tryz.underlying24 (by kernel_rfl) (by kernel_rfl) (iI Tryz.underlying3))) _ _ _ h3 (cX Tryz.underlying26 hw (j:=3) rfl (by rw [List.getElem?_map,List.getElem?_eq_getElem (by omega)];rfl))
  have q3:[c3]=[.slice a3.addr a3.list.length a3.cap]:=by
   have hk:Tryz.prog.cellsOf 24=1:=by kernel_rfl
   rw [hk] at e3;exact e3
  clear e3;simp only [List.cons.injEq,and_true] at q3;obtain rfl:=q0;obtain rfl:=q1;obtain rfl:=q2;obtain rfl:=q3;exact⟨⟨a0,a1,a2,a3⟩,rfl,d0,d1,d2,d3,trivial⟩
section
variable {S : Nat → Prop} {w : World}
theorem pol_of{p:gF}(h:((kK.slice 16).deep p).p S w):(lV p).p S w:=by
 obtain⟨⟨c1,c2⟩,c3⟩:=h;have c3:p.list.length*16≤140737488355328:=c3;exact⟨c1,by show p.list.length≤140737488355328;omega⟩
theorem list_of{l:Sl gF}(h:(((kK.slice 16).slicec 24).deep l).p S w):(mG l).p S w:=by
 obtain⟨⟨⟨a1,a2⟩,a3⟩,a4⟩:=h;exact⟨⟨a1,fun p hp=>pol_of (a2 p hp)⟩,a4,a3⟩
theorem op_of{o:OpV}(h:(opTy.deep o).p S w):(opF o).p S w:=pol_of h.2.2.2.1
theorem ops_of{l:Sl OpV}(h:((opTy.slicec 56).deep l).p S w):(opsF l).p S w:=by
 obtain⟨⟨⟨a1,a2⟩,a3⟩,a4⟩:=h;exact⟨⟨a1,fun p hp=>op_of (a2 p hp)⟩,a4,a3⟩
theorem buf_of{b:iZ}(h:(bufTy.deep b).p S w):(bufF b).p S w:=list_of h.1
theorem bufs_of{l:Sl iZ}(h:((bufTy.slicec 32).deep l).p S w):(bufsF l).p S w:=by
 obtain⟨⟨⟨a1,a2⟩,a3⟩,a4⟩:=h;exact⟨⟨a1,fun p hp=>buf_of (a2 p hp)⟩,a4,a3⟩
theorem step_of{s:fB}(h:(wH.deep s).p S w):(kM s).p S w:=⟨pol_of h.2.2.1,list_of h.2.2.2.1,ops_of h.2.2.2.2.2.1⟩
theorem steps_of{l:Sl fB}(h:((wH.slicec 96).deep l).p S w):(tJ l).p S w:=by
 obtain⟨⟨⟨a1,a2⟩,a3⟩,a4⟩:=h;exact⟨⟨a1,fun p hp=>step_of (a2 p hp)⟩,a4,a3⟩
theorem outs_of{l:Sl Int}(h:((intTy.slicec 8).deep l).p S w):(outsF l).p S w:=by
 obtain⟨⟨⟨a1,a2⟩,a3⟩,a4⟩:=h;exact⟨a1,a4,a3⟩
theorem core_of{c:gG}(h:(coreTy.deep c).p S w):(lC c).p S w:=⟨bufs_of h.2.1,steps_of h.2.2.1,outs_of h.2.2.2.1⟩
end
end Go.Proofs.YtofjmphlpdhohaaGreatDoor
namespace Go.Proofs.YtofjmphlpdhohaaGreatDoor
open Go.RowKit
theorem takes_le(h:Int):dA h≤2∧ -1≤dA h:=by
 unfold dA
 repeat' split
 all_goals omega
def vJ (l:List OpV)(i:Nat)(m n r:Int):Prop:=sS ((dZ l).drop i) m n=r
theorem iL{α:Type}{l:List α}{i:Nat}{x:α}(h:l[i]?=some x):l.drop i=x::l.drop (i+1):=by
 obtain⟨hi,e⟩:=List.getElem?_eq_some_iff.1 h;rw [←e];exact List.drop_eq_getElem_cons hi
section
variable {l : List OpV} {i : Nat} {m n r : Int} {x : OpV}
theorem dep_step(h:vJ l i m n r)(hx:l[i]?=some x):(dA x.how<0∨n<dA x.how→r= -1)∧(¬dA x.how<0→ ¬n<dA x.how→vJ l (i+1) (if n+(1-dA x.how)>m then n+(1-dA x.how) else m) (n+(1-dA x.how)) r):=by
 unfold vJ at*;rw [iL (fF hx),sS] at h;refine⟨fun e=>?_,fun e1 e2=>?_⟩
 ·rw [if_pos (show dA x.c.how<0∨n<dA x.c.how from e)] at h;exact h.symm
 ·rw [if_neg (show ¬(dA x.c.how<0∨n<dA x.c.how) from fun h=>h.elim e1 e2)] at h;rw [←h]
  congr 1
  show _=max m (n+(1-dA x.how));split<;>omega
theorem uW(h:vJ l i m n r)(hi:l.length≤i):(n≠1→r= -1)∧(n=1→r=m):=by
 unfold vJ at h;rw [List.drop_of_length_le (by rw [cR];exact hi),sS] at h;exact⟨fun e=>by rw [if_neg e] at h;exact h.symm,fun e=>by rw [if_pos e] at h;exact h.symm⟩
end
section
variable {f : Int} {two : Bool}
theorem lR(h:f<1∨17<f):Value.bool false= .bool (fC f two):=by
 unfold fC;rw [if_pos h]
theorem wtk_b(h3:f=16):Value.bool (!two)= .bool (fC f two):=by
 unfold fC;rw [if_neg (by omega),if_pos h3]
theorem wtk_c(h1:1≤f)(h2:f≤17)(h3:f≠16)(h:two=true):Value.bool true= .bool (fC f two):=by
 unfold fC;rw [if_neg (by omega),if_neg h3,h,Bool.true_or]
theorem wtk_d(h1:1≤f)(h2:f≤17)(h3:f≠16)(h:two=false):Value.bool (decide (f≤7))= .bool (fC f two):=by
 unfold fC;rw [if_neg (by omega),if_neg h3,h,Bool.false_or]
end
theorem rQ:(Tryz.prog.info? 42).bind (·.zero)=some (.agg #[.int .i64 0,.int .i64 0,.int .i64 0,.slice none 0 0,.int .u8 0]):=by kernel_rfl
set_option maxRecDepth 100000 in
theorem takes_spec(o:OpV):dO Tryz.prog 168 [.agg #[.int .i64 o.how,.int .i64 o.k,.int .i64 o.n,.slice o.p.addr o.p.list.length o.p.cap,.int .u8 o.fn]] [] [] (fun(_:Unit)=> .int .i64 (dA o.how)) (fun _=>[]) (fun _=>[]):=by
 have hT:=dK;refine cM Tryz.func168 rfl Tryz.ntmps168 rfl ?_;intro β hM;refine sr<|gH rfl rfl rfl rfl rfl rfl fun b1=>?_;refine sp hT ?_;refine nn<|bK<|sr<|sp hT ?_;refine ss (ldO hT (dR .head)) ?_;refine nn<|bR<|bK<|sr<|sp2 hT ?_;refine nn<|bM rfl (fun hc5=>?_) (fun hc5=>?_)
 ·have hc5_r:=hc5;have hc5:=eq_of_beq hc5;refine bN<|bF<|cA rfl hc5_r ?_;refine sr<|sp hT ?_;refine nn<|bI<|bL<|bG ?_;exact bE () rfl (bD rfl) .nil trivial (by simp [dA, *])
 have hc5_r:=hc5;have hc5:=beq_eq_false_iff_ne.1 hc5;refine sr<|sp2 hT ?_;refine nn<|bM rfl (fun hc5_2=>?_) (fun hc5_2=>?_)
 ·have hc5_2_r:=hc5_2;have hc5_2:=eq_of_beq hc5_2;refine bN<|bF<|cA rfl hc5_2_r ?_;refine sr<|sp hT ?_;refine nn<|bI<|bL<|bG ?_;exact bE () rfl (bD rfl) .nil trivial (by simp [dA, *])
 have hc5_2_r:=hc5_2;have hc5_2:=beq_eq_false_iff_ne.1 hc5_2;refine bJ<|sp2 hT ?_;refine nn<|bM rfl (fun hc5_3=>?_) (fun hc5_3=>?_)
 ·have hc5_3_r:=hc5_3;have hc5_3:=eq_of_beq hc5_3;refine sr<|sp hT ?_;refine nn<|bI<|bL<|bG ?_;exact bE () rfl (bD rfl) .nil trivial (by simp [dA, *])
 have hc5_3_r:=hc5_3;have hc5_3:=beq_eq_false_iff_ne.1 hc5_3;refine bK<|sr<|sp2 hT ?_;refine nn<|bM rfl (fun hc9=>?_) (fun hc9=>?_)
 ·have hc9_r:=hc9;have hc9:=eq_of_beq hc9;refine bN<|bF<|cA rfl hc9_r ?_;refine sr<|sp hT ?_;refine nn<|bI<|bL<|bG ?_;exact bE () rfl (bD rfl) .nil trivial (by simp [dA, *])
 have hc9_r:=hc9;have hc9:=beq_eq_false_iff_ne.1 hc9;refine bJ<|sp2 hT ?_;refine nn<|bM rfl (fun hc9_4=>?_) (fun hc9_4=>?_)
 ·have hc9_4_r:=hc9_4;have hc9_4:=eq_of_beq hc9_4;refine sr<|sp hT ?_;refine nn<|bI<|bL<|bG ?_;exact bE () rfl (bD rfl) .nil trivial (by simp [dA, *])
 have hc9_4_r:=hc9_4;have hc9_4:=beq_eq_false_iff_ne.1 hc9_4;refine sr<|sp2 hT ?_;refine nn<|bM rfl (fun hc12=>?_) (fun hc12=>?_)
 ·have hc12_r:=hc12;have hc12:=eq_of_beq hc12;refine sr<|sp hT ?_;refine nn<|bI<|bL<|bG ?_;exact bE () rfl (bD rfl) .nil trivial (by simp [dA, *])
 have hc12_r:=hc12;have hc12:=beq_eq_false_iff_ne.1 hc12;refine bN<|bX<|bF<|sr<|sp hT ?_;refine nn<|bI ?_;exact bE () rfl (bD rfl) .nil trivial (by simp [dA, *])
set_option maxRecDepth 100000 in
theorem Depth_spec(A:Option Addr)(c:Nat)(l:List OpV)(hl:l.length≤140737488355328):dO Tryz.prog 109 [.slice A l.length c] [] [opE.sl (.slice A l.length c) l,bQ.each l opF] (fun(_:Unit)=> .int .i64 (kS (dZ l))) (fun _=>[]) (fun _=>[]):=by
 have hT:=dK;generalize hR:kS (dZ l)=r;refine cM Tryz.func109 rfl Tryz.ntmps109 rfl ?_;intro β hM;refine sr<|sp hT ?_;refine nn<|sr<|sp2 hT ?_;refine nn<|bK<|sr<|sp3 hT ?_;refine nn<|bR<|cP (ι:=Nat×Int×Int) [(8,_),(9,_)] ⟨rfl,rfl,trivial⟩ (fun⟨i,m,n⟩=>[(3,.int .i64 m),(4,.int .i64 n),(10,.int .i64 (i:Nat))]) (fun _=>[]) (fun⟨i,m,n⟩=>[bQ.pure (i≤l.length∧vJ l i m n r∧0≤n∧n≤i)]) (fun⟨i,m,n⟩=>l.length-i) (0,0,0) ⟨rfl,rfl,rfl,trivial⟩ .nil ⟨Has.pure (⟨by omega,hR,by omega,by omega⟩),trivial⟩ ?_;rintro⟨i,m,n⟩;dsimp only;refine cD (Has.of mT0) fun hinv3=>?_;refine sr<|sp hT ?_;refine nn<|bK<|bM rfl (fun hc11=>?_) (fun hc11=>?_)
 ·have hc11:=of_decide_eq_true hc11;refine bN<|bF<|bK<|bR<|sr ?_
  obtain⟨x1,hx2⟩: ∃x',l[i]?=some x':=⟨_,List.getElem?_eq_getElem (by omega)⟩
  refine ss (bP hT (k:=i) (bB (Has.of mT1)) rfl rfl rfl rfl rfl rfl rfl (by omega)) ?_;refine ss (cY hT (cF.knows (bB (Has.of mT1)) (k:=i) (x:=x1) hx2 0) rfl rfl rfl rfl rfl) ?_;refine dS rfl rfl rfl rfl rQ rfl fun b3=>?_;refine sto hT .head ?_;refine nn<|bK ?_;have htk:=takes_le x1.how
  have hd0:=(dep_step hinv3.2.1 hx2)
  refine bJ<|ss (ldN hT (dR .head)) ?_;refine cW Tryz.func168 (takes_spec x1) rfl rfl .nil trivial fun _=>?_;refine sp hT ?_;refine nn<|bK<|sr<|sp3 hT ?_;refine bO (fun hg18=>?_) (fun hg18=>?_)
  ·have hg18:=of_decide_eq_true hg18;refine sk3 ?_;refine sp hT ?_;refine nn<|cA rfl rfl ?_;refine sr<|sp hT ?_;refine nn<|bI<|bG<|bL<|bG<|bG<|bL<|bG ?_;have hr:=hd0.1 (by omega);subst hr;exact bE () rfl (bD rfl) .nil trivial rfl
  have hg18:=Int.not_lt.1 (of_decide_eq_false hg18);refine sp4 hT ?_;refine nn<|bM rfl (fun hc22=>?_) (fun hc22=>?_)
  ·have hc22:=of_decide_eq_true hc22;refine sr<|sp hT ?_;refine nn<|bI<|bG<|bL<|bG<|bG<|bL<|bG ?_;have hr:=hd0.1 (by omega);subst hr;exact bE () rfl (bD rfl) .nil trivial rfl
  have hc22:=Int.not_lt.1 (of_decide_eq_false hc22);refine bN<|bF<|sr<|sp3 hT ?_;refine bW (wV (by omega) (by omega)) ?_;refine sp hT ?_;refine bW (wV (by omega) (by omega)) ?_;refine sp hT ?_;refine nn<|bJ<|sp4 hT ?_;refine iK<|bX<|bF<|bJ<|sp hT ?_;refine bW (z':=(((i+1):Nat):Int)) (cH (by omega) (by omega)) ?_;refine sp hT ?_;refine nn ?_;exact bT (i+1,_,_) (by dsimp only;omega) ⟨rfl,rfl,rfl,trivial⟩ ⟨rfl,rfl,trivial⟩ .nil ⟨Has.pure (⟨by dsimp only;omega,hd0.2 (by omega) (by omega),by dsimp only;omega,by dsimp only;omega⟩),trivial⟩ (bH.drop 1)
 have hc11:=Int.not_lt.1 (of_decide_eq_false hc11);refine cI<|bY<|bY<|cJ<|bF<|bK<|sr<|sp2 hT ?_;refine nn<|bM rfl (fun hc32=>?_) (fun hc32=>?_)
 ·have hc32:=bne_iff_ne.1 hc32;refine sr<|sp hT ?_;refine nn<|bI<|bG ?_;have hr:=(uW hinv3.2.1 (by omega)).1 ‹_›;subst hr;exact bE () rfl (bD rfl) .nil trivial rfl
 have hc32:=bne_eq_false_iff_eq.1 hc32;refine bN<|bF<|sr<|sp2 hT ?_;refine nn<|bI ?_;have hr:=(uW hinv3.2.1 (by omega)).2 ‹_›;subst hr;exact bE () rfl (bD rfl) .nil trivial rfl
set_option maxRecDepth 100000 in
theorem lE(f:Int)(two:Bool):dO Tryz.prog 110 [.int .u8 f,.bool two] [] [] (fun(_:Unit)=> .bool (fC f two)) (fun _=>[]) (fun _=>[]):=by
 have hT:=dK;refine cM Tryz.func110 rfl Tryz.ntmps110 rfl ?_;intro β hM;refine sr<|sp hT ?_;refine nn<|bK<|bR<|sr<|sp3 hT ?_;refine bO (fun hg8=>?_) (fun hg8=>?_)
 ·have hg8:=of_decide_eq_true hg8;refine sk2 ?_;refine sp2 hT ?_;refine nn<|cA rfl rfl ?_;refine sr<|sp hT ?_;refine nn<|bI<|bL<|bG ?_;exact bE () rfl (bD rfl) .nil trivial (by first | exact lR (.inl (by omega)) | exact lR (.inr (by omega)) | exact wtk_b (by omega) | exact wtk_c (by omega) (by omega) (by omega) ‹_› | exact wtk_d (by omega) (by omega) (by omega) ‹_›)
 have hg8:=Int.not_lt.1 (of_decide_eq_false hg8);refine sp4 hT ?_;refine nn<|bM rfl (fun hc5=>?_) (fun hc5=>?_)
 ·have hc5:=of_decide_eq_true hc5;refine sr<|sp hT ?_;refine nn<|bI<|bL<|bG ?_;exact bE () rfl (bD rfl) .nil trivial (by first | exact lR (.inl (by omega)) | exact lR (.inr (by omega)) | exact wtk_b (by omega) | exact wtk_c (by omega) (by omega) (by omega) ‹_› | exact wtk_d (by omega) (by omega) (by omega) ‹_›)
 have hc5:=Int.not_lt.1 (of_decide_eq_false hc5);refine sr<|sp3 hT ?_;refine nn<|bM rfl (fun hc12=>?_) (fun hc12=>?_)
 ·have hc12:=eq_of_beq hc12;refine sr<|sp3 hT ?_;refine nn<|bI<|bL<|bG ?_;exact bE () rfl (bD rfl) .nil trivial (by first | exact lR (.inl (by omega)) | exact lR (.inr (by omega)) | exact wtk_b (by omega) | exact wtk_c (by omega) (by omega) (by omega) ‹_› | exact wtk_d (by omega) (by omega) (by omega) ‹_›)
 have hc12:=beq_eq_false_iff_ne.1 hc12;refine bN<|bX<|bF<|sr<|sp2 hT ?_;refine bO (fun hg18=>?_) (fun hg18=>?_)
 ·refine sk2 ?_;refine sp2 hT ?_;refine nn<|bI ?_;exact bE () rfl (bD rfl) .nil trivial (by first | exact lR (.inl (by omega)) | exact lR (.inr (by omega)) | exact wtk_b (by omega) | exact wtk_c (by omega) (by omega) (by omega) ‹_› | exact wtk_d (by omega) (by omega) (by omega) ‹_›)
 refine sp4 hT ?_;refine nn<|bI ?_;exact bE () rfl (bD rfl) .nil trivial (by first | exact lR (.inl (by omega)) | exact lR (.inr (by omega)) | exact wtk_b (by omega) | exact wtk_c (by omega) (by omega) (by omega) ‹_› | exact wtk_d (by omega) (by omega) (by omega) ‹_›)
set_option maxRecDepth 100000 in
theorem uL(f:Int)(two:Bool):dO Tryz.prog 128 [.int .u8 f,.bool two] [] [] (fun(_:Unit)=> .bool (jE f two)) (fun _=>[]) (fun _=>[]):=by
 have hT:=dK;refine cM Tryz.func128 rfl Tryz.ntmps128 rfl ?_;intro β hM;refine sr<|sp hT ?_;refine nn<|bK<|sr<|sp hT ?_;refine nn<|bR<|bK<|sr<|sp2 hT ?_;refine nn<|bM rfl (fun hc6=>?_) (fun hc6=>?_)
 ·have hc6_r:=hc6;have hc6:=eq_of_beq hc6;refine bN<|bF<|cA rfl hc6_r ?_;refine sr<|sp hT ?_;refine nn<|bI<|bL<|bG ?_;exact bE () rfl (bD rfl) .nil trivial (by simp [jE, *])
 have hc6_r:=hc6;have hc6:=beq_eq_false_iff_ne.1 hc6;refine sr<|sp2 hT ?_;refine nn<|bM rfl (fun hc6_1=>?_) (fun hc6_1=>?_)
 ·have hc6_1_r:=hc6_1;have hc6_1:=eq_of_beq hc6_1;refine bN<|bF<|cA rfl hc6_1_r ?_;refine sr<|sp hT ?_;refine nn<|bI<|bL<|bG ?_;exact bE () rfl (bD rfl) .nil trivial (by simp [jE, *])
 have hc6_1_r:=hc6_1;have hc6_1:=beq_eq_false_iff_ne.1 hc6_1;refine sr<|sp2 hT ?_;refine nn<|bM rfl (fun hc6_2=>?_) (fun hc6_2=>?_)
 ·have hc6_2_r:=hc6_2;have hc6_2:=eq_of_beq hc6_2;refine bN<|bF<|cA rfl hc6_2_r ?_;refine sr<|sp hT ?_;refine nn<|bI<|bL<|bG ?_;exact bE () rfl (bD rfl) .nil trivial (by simp [jE, *])
 have hc6_2_r:=hc6_2;have hc6_2:=beq_eq_false_iff_ne.1 hc6_2;refine sr<|sp2 hT ?_;refine nn<|bM rfl (fun hc6_3=>?_) (fun hc6_3=>?_)
 ·have hc6_3_r:=hc6_3;have hc6_3:=eq_of_beq hc6_3;refine bN<|bF<|cA rfl hc6_3_r ?_;refine sr<|sp hT ?_;refine nn<|bI<|bL<|bG ?_;exact bE () rfl (bD rfl) .nil trivial (by simp [jE, *])
 have hc6_3_r:=hc6_3;have hc6_3:=beq_eq_false_iff_ne.1 hc6_3;refine bJ<|sp2 hT ?_;refine nn<|bM rfl (fun hc6_4=>?_) (fun hc6_4=>?_)
 ·have hc6_4_r:=hc6_4;have hc6_4:=eq_of_beq hc6_4;refine sr<|sp hT ?_;refine nn<|bI<|bL<|bG ?_;exact bE () rfl (bD rfl) .nil trivial (by simp [jE, *])
 have hc6_4_r:=hc6_4;have hc6_4:=beq_eq_false_iff_ne.1 hc6_4;refine bN<|bX<|bF<|sr<|sp2 hT ?_;refine cW Tryz.func110 (lE f two) rfl rfl .nil trivial fun _=>?_;refine sp hT ?_;refine nn<|bI ?_;exact bE () rfl (bD rfl) .nil trivial (by simp [jE, *])
section
variable {P : Program} {β : gE} {n : Nat} {Γ : Env} {H : List bS} {F : List bQ} {K : Act → World → Prop} {T : Tab} {α : Type} {E : Flat α}
theorem St.recast'{c c':bS}{S:iO}{w:World}(s:St β (c::H) S w)(hb: ∀b,c'.blk=some b→c.blk=some b)(ok:c'.ok w):St β (c'::H) S w:=by
 have hs:=List.pairwise_cons.1 s.sep;refine⟨s.kept,fun d hd=>?_,fun d hd b h=>?_,List.pairwise_cons.2 ⟨fun d hd b h=>hs.1 d hd b (hb b h),hs.2⟩,s.zone⟩
 ·rcases List.mem_cons.1 hd with rfl | hd
  ·exact ok
  ·exact s.ok d (List.mem_cons_of_mem _ hd)
 ·rcases List.mem_cons.1 hd with rfl | hd
  ·exact s.own c (List.mem_cons_self ..) b (hb b h)
  ·exact s.own d (List.mem_cons_of_mem _ hd) b h
theorem pC{b:Nat}{t:TypeId}{xs:List α}{H':List bS}(hH:fG H (.obj b (.cells (E.all xs).toArray t)) H')(h:At β n Γ (E.held (.slice (some ⟨b,0,none⟩) xs.length xs.length) xs::H') F K):At β n Γ H F K:=fun a w S f s k=>by
 have s2:=s.perm hH.perm;have hok:w.heap[b]?=some (.cells (E.all xs).toArray t):=s2.ok _ (List.mem_cons_self ..);refine h a w S f (s2.recast' (fun b' hb=>?_) ?_) k
 ·cases xs with
  | nil=>cases hb
  | cons x r=>exact hb
 ·cases xs with
  | nil=>exact⟨_,_,rfl,.inl rfl⟩
  | cons x r=>
   refine⟨_,_,rfl,.inr ⟨b,0,_,t,(0,0),rfl,hok,fun j u hj=>⟨?_,?_⟩⟩⟩
   ·rw [Nat.zero_add];exact hj
   ·simp
theorem at_row_held'{v:Value}{t:TypeId}{xs:List α}{H':List bS}(hH:fG H (E.row v t xs) H')(h:At β n Γ (E.held v xs::H') F K):At β n Γ H F K:=fun a w S f s k=>by
 have s2:=s.perm hH.perm;have hok:w.ownsRow 0 t E.size v xs.length (E.all xs):=s2.ok _ (List.mem_cons_self ..);refine h a w S f (s2.recast' (fun b hb=>?_) ?_) k
 ·cases xs with
  | nil=>cases hb
  | cons x r=>exact hb
 ·rcases hok.2 with ⟨e,e0⟩ | ⟨g,cap,cur,e,_,hg,hnc,hcm,hcs,ht⟩
  ·have:xs=[]:=List.eq_nil_of_length_eq_zero e0;subst this;exact⟨none,0,e,.inl rfl⟩
  ·subst e
   cases xs with
   | nil=>exact⟨_,cap,rfl,.inl rfl⟩
   | cons x r=>
    refine⟨_,cap,rfl,.inr ⟨g,0,cur,t,(0,0),rfl,hg,fun j u hj=>⟨?_,?_⟩⟩⟩
    ·rw [Nat.zero_add];rw [←ht,List.getElem?_take] at hj;split at hj
     ·exact hj
     ·cases hj
    ·simp
theorem oX{v:Value}{xs:List α}{H':List bS}(hH:fG H (E.held v xs) H')(h:At β n Γ H' (E.sl v xs::F) K):At β n Γ H F K:=fun a w S f s k=>by
 have s2:=s.perm hH.perm;have hok:(E.held v xs).ok w:=s2.ok _ (List.mem_cons_self ..);have hsep:=List.pairwise_cons.1 s2.sep;have hown:=s2.own _ (List.mem_cons_self ..);have hmono:All F (fun b=>S b∨(E.held v xs).blk=some b) w:=All.mono (fun _ h=> .inl h) (fun _ _=>rfl) k;refine h a w (fun b=>S b∨(E.held v xs).blk=some b) f ⟨s2.kept,fun c hc=>s2.ok c (List.mem_cons_of_mem _ hc),fun c hc b hb=>?_,hsep.2,fun b hb=>?_⟩ (All.cons (rI hok fun b hb=> .inr hb) hmono)
 ·obtain⟨h1,h2,h3⟩:=s2.own c (List.mem_cons_of_mem _ hc) b hb;refine⟨h1,h2,fun h=>?_⟩
  rcases h with h | h
  ·exact h3 h
  ·exact hsep.1 c hc b h hb
 ·rcases hb with hb | hb
  ·exact s2.zone b hb
  ·obtain⟨h1,h2,_⟩:=hown b hb;exact⟨h1,.inr h2⟩
theorem kY{b:Nat}{cs:List Value}{t:TypeId}{L:List bS}{G:List bQ}(h:uP L G):uP (.obj b (.cells cs.toArray t)::L) (bQ.cells b 0 cs::G):=fun S w hok hS=>
 All.cons ⟨hS _ (List.mem_cons_self ..) b rfl,fun j u hj=>by
  have h0:w.heap[b]?=some (.cells cs.toArray t):=hok _ (List.mem_cons_self ..);unfold World.cell?;rw [h0]
  simpa using hj⟩ (h S w (fun c hc=>hok c (List.mem_cons_of_mem _ hc)) fun c hc=>hS c (List.mem_cons_of_mem _ hc))
theorem run_arrFrom(hT:dQ P T){t e m sz k:Nat}{ei:TI}(ht:T.get t=some ⟨.array m e,sz⟩)(he:T.get e=some ei){b off:Nat}(hk:k≤m)(kk:IntKind)(w:World):
  (Instr.sliceAt t (.pointer (some ⟨b,off,none⟩)) (some (.int kk (k:Nat))) none none).run P w= .ok (.slice (some ⟨b,if m=k then off else off+k*ei.size,none⟩) (m-k) (m-k)) w:=by
 have ha:(⟨b,off,none⟩:Addr).add (k*ei.size)=⟨b,off+k*ei.size,none⟩:=Addr.add_mid _ _ _;unfold Instr.sliceAt;rw [Sem.run_bind,hT.array ht,Result.andThen_ok]
 have h1:(Instr.sliceBound (.int kk (k:Nat)) m .sliceB).run P w= .ok k w:=by
  rw [run_sliceBound w kk (k:Int) m .sliceB (by omega) (by omega),Int.toNat_natCast]
 simp only [Instr.sureAddr,Instr.sliceBounds,Sem.run_bind,Sem.run_pure,Result.andThen_ok,Option.isSome_none,Bool.false_eq_true,if_false,h1,hT.size he,ha]
 by_cases e0:m=k
 ·rw [if_pos e0,if_pos e0]
 ·rw [if_neg e0,if_neg e0]
theorem sti_arrFrom(hT:dQ P T){o:Oper}{t e m sz k b off:Nat}{ei:TI}{x i:Operand}{kk:IntKind}{z:Int}(ho:o.op= .slice t x (some i) none none)(hx:Γ.ev x=some (.pointer (some ⟨b,off,none⟩)))(hi:Γ.ev i=some (.int kk z))
  (ht:T.get t=some ⟨.array m e,sz⟩) (he:T.get e=some ei) (hz:z=(k:Nat)) (hk:k≤m):Sti P β n Γ H F o (.slice (some ⟨b,if m=k then off else off+k*ei.size,none⟩) (m-k) (m-k)):=fun a w S f s hF=>by
 subst hz;unfold execOp;simp only [ho,f.ev hx,Option.map_some,Option.map_none,f.ev hi];rw [Sem.run_bind,run_arrFrom hT ht he hk];rfl
theorem run_arrTo(hT:dQ P T){t e m sz k:Nat}{ei:TI}(ht:T.get t=some ⟨.array m e,sz⟩)(he:T.get e=some ei){b off:Nat}(hk:k≤m)(kk:IntKind)(w:World):
  (Instr.sliceAt t (.pointer (some ⟨b,off,none⟩)) none (some (.int kk (k:Nat))) none).run P w= .ok (.slice (some ⟨b,off,none⟩) k m) w:=by
 have ha:(⟨b,off,none⟩:Addr).add (0*ei.size)=⟨b,off,none⟩:=by
  have h0:(⟨b,off,none⟩:Addr).add (0*ei.size)=⟨b,off+0*ei.size,none⟩:=Addr.add_mid _ _ _;rw [h0,Nat.zero_mul,Nat.add_zero]
 unfold Instr.sliceAt;rw [Sem.run_bind,hT.array ht,Result.andThen_ok]
 have h1:(Instr.sliceBound (.int kk (k:Nat)) m .sliceAlen).run P w= .ok k w:=by
  rw [run_sliceBound w kk (k:Int) m .sliceAlen (by omega) (by omega),Int.toNat_natCast]
 simp only [Instr.sureAddr,Instr.sliceBounds,Sem.run_bind,Sem.run_pure,Result.andThen_ok,Bool.false_eq_true,if_false,h1,hT.size he,ha,Nat.sub_zero,ite_self]
theorem sti_arrTo(hT:dQ P T){o:Oper}{t e m sz k b off:Nat}{ei:TI}{x i:Operand}{kk:IntKind}{z:Int}(ho:o.op= .slice t x none (some i) none)(hx:Γ.ev x=some (.pointer (some ⟨b,off,none⟩)))(hi:Γ.ev i=some (.int kk z))
  (ht:T.get t=some ⟨.array m e,sz⟩) (he:T.get e=some ei) (hz:z=(k:Nat)) (hk:k≤m):Sti P β n Γ H F o (.slice (some ⟨b,off,none⟩) k m):=fun a w S f s hF=>by
 subst hz;unfold execOp;simp only [ho,f.ev hx,Option.map_some,Option.map_none,f.ev hi];rw [Sem.run_bind,run_arrTo hT ht he hk];rfl
end
theorem mono_zero:(Tryz.prog.info? 45).bind (·.zero)=some (.agg #[.int .i64 0,.int .u8 0,.int .u8 0,.int .u8 0,.int .u8 0,.int .u8 0,.int .u8 0]):=by kernel_rfl
def EI (m:cK):List Int:=[m.e0.toNat,m.e1.toNat,m.e2.toNat,m.e3.toNat,m.e4.toNat,m.e5.toNat]
def u8I:Flat Int where
 size:=1
 cells:=fun x=>[.int .u8 x]
 len:=fun _=>rfl
 one:=fun x u hu=>by simp at hu;subst hu;rfl
 pos:=by decide
theorem clamp_le(vars:Int):clampK vars≤6:=by unfold clampK;omega
theorem clamp_eq(vars:Int):(if (6:Int)<(if (0:Int)>vars then 0 else vars) then 6 else (if (0:Int)>vars then 0 else vars))=((clampK vars:Nat):Int):=by
 unfold clampK;split<;>split<;>omega
theorem vR(m:cK)(vars:Int):((EI m).drop (clampK vars)).length=6-clampK vars:=by
 rw [List.length_drop];rfl
theorem yQ{β:gE}{H H':List bS}{F:List bQ}{b:Nat}{t:TypeId}{m:cK}{k:Nat}(hH:fG H (.obj b (.cells m.cells.toArray t)) H'):cF β H F u8I (some ⟨b,if 6=k then 1 else 1+k*1,none⟩) ((EI m).drop k):=fun w S s hF j x hx=>by
 refine⟨⟨b,_,rfl⟩,fun q u hq=>?_⟩;have hj:=(List.getElem?_eq_some_iff.1 hx).1;rw [List.length_drop] at hj;have hj:j<6-k:=hj;rw [List.getElem?_drop] at hx
 have h0:=kR (β:=β) (F:=F) (off:=0) hH w S s hF (1+k+j) (.int .u8 x) (by
  show m.cells[1+k+j]?=_;have e:m.cells= .int .i64 m.n::(EI m).map (fun z=>Value.int .u8 z):=rfl;rw [e,show 1+k+j=(k+j)+1 by omega,List.getElem?_cons_succ,List.getElem?_map,hx]
  rfl)
 have hq0:q=0:=by
  have:=(List.getElem?_eq_some_iff.1 hq).1;simp [u8I] at this;exact this
 subst hq0;cases hq;show w.cell? ⟨b,(if 6=k then 1 else 1+k*1)+j*1+0,none⟩=_;rw [if_neg (by omega)];rw [show 1+k*1+j*1+0=0+(1+k+j) by omega];exact h0
def okM (k:Nat)(m:cK):Bool:=(m.E.drop k).all (fun e=>e==0)
theorem okM_eq(k:Nat)(m:cK):okM k m=((EI m).drop k).all (fun e=>e==0):=by
 have e:EI m=m.E.map fun e=>((e.toNat:Nat):Int):=rfl;unfold okM;rw [e,←List.map_drop,List.all_map]
 congr 1
 funext u
 rw [Bool.eq_iff_iff];simp [←UInt8.toNat_inj]
theorem gV{α:Type}{p:α→Bool}{l:List α}{i:Nat}{x:α}(h:(l.take i).all p=true)(hx:l[i]?=some x)(k:p x=true):(l.take (i+1)).all p=true:=by
 obtain⟨hi,e⟩:=List.getElem?_eq_some_iff.1 hx;rw [List.take_succ_eq_append_getElem hi,e,List.all_append,h];simp [k]
theorem lG{α:Type}{p:α→Bool}{l:List α}{i:Nat}(h:(l.take i).all p=true)(hi:l.length≤i):l.all p=true:=by
 rwa [List.take_of_length_le hi] at h
theorem lU{α:Type}{p:α→Bool}{l:List α}{i:Nat}{x:α}(hx:l[i]?=some x)(k:p x=false):l.all p=false:=List.all_eq_false.2 ⟨x,List.mem_of_getElem? hx,by simp [k]⟩
theorem okM_end{k j:Nat}{m:cK}(h:(((EI m).drop k).take j).all (fun e=>e==0)=true)(hj:((EI m).drop k).length≤j):okM k m=true:=by
 rw [okM_eq];exact lG h hj
theorem okM_bad{k j:Nat}{m:cK}{e:Int}(hx:((EI m).drop k)[j]?=some e)(h:e≠0):okM k m=false:=by
 rw [okM_eq];exact lU hx (by simp [h])
theorem ei_ge{k j:Nat}{m:cK}{e:Int}(hx:((EI m).drop k)[j]?=some e):0≤e:=by
 have:=List.mem_of_mem_drop (List.mem_of_getElem? hx);simp [EI] at this;omega
theorem le_zero{e:Int}(h:e≤0)(k:0≤e):e=0:=by omega
theorem of_bad{p:List cK}{vars:Int}{i:Nat}{m:cK}(hx:p[i]?=some m)(h:okM (clampK vars) m=false):Value.bool false= .bool (ofB p vars):=by
 unfold ofB;rw [show p.all (fun m=>(m.E.drop (clampK vars)).all (fun e=>e==0))=false from lU hx h];rfl
theorem of_end{p:List cK}{vars:Int}(h:p.all (okM (clampK vars))=true):Value.bool (gK p)= .bool (ofB p vars):=by
 unfold ofB;rw [show p.all (fun m=>(m.E.drop (clampK vars)).all (fun e=>e==0))=true from h];rfl
theorem sW{l:List (List cK)}{vars:Int}{i:Nat}{p:List cK}(hx:l[i]?=some p)(h:(ofB p vars&&iC p)=false):Value.bool false= .bool (fL l vars):=by
 unfold fL;rw [lU hx h];rfl
theorem grow_end{l:List gF}{vars:Int}(h:(cZ l).all (fun p=>ofB p vars&&iC p)=true):Value.bool (decide ((l.length:Int)≤4))= .bool (fL (cZ l) vars):=by
 unfold fL;rw [h,cU,Bool.true_and]
 congr 1
 rw [decide_eq_decide];omega
set_option maxRecDepth 100000 in
theorem of_spec(p:gF)(vars:Int):dO Tryz.prog 107 [.slice p.addr p.list.length p.cap,.int .i64 vars] [] [lV p] (fun(_:Unit)=> .bool (ofB p.list vars)) (fun _=>[]) (fun _=>[]):=by
 have hT:=dK;refine cM Tryz.func107 rfl Tryz.ntmps107 rfl ?_;intro β hM;refine bK<|cD (iV (Has.of mT0)) fun hp=>?_;refine cB (oR.sl (.slice p.addr p.list.length p.cap) p.list) (jH (Has.of mT0)) ?_;refine bJ<|sp hT ?_;refine nn<|bK<|sr<|sp3 hT ?_;refine nn<|bR<|cP (ι:=Nat) [(0,_),(1,_),(9,_),(10,_)] ⟨rfl,rfl,rfl,rfl,trivial⟩ (fun i=>[(11,.int .i64 (i:Nat))]) (fun _=>[]) (fun i=>[bQ.pure (i≤p.list.length∧(p.list.take i).all (okM (clampK vars))=true)]) (fun i=>p.list.length-i) 0 ⟨rfl,trivial⟩ .nil ⟨Has.pure (⟨by omega,rfl⟩),trivial⟩ ?_;rintro i;refine cD (Has.of mT0) fun hinv2=>?_;refine sr<|sp hT ?_;refine nn<|bK<|bM rfl (fun hc12=>?_) (fun hc12=>?_)
 ·have hc12:=of_decide_eq_true hc12;refine bN<|bF<|bK<|bR<|sr ?_
  obtain⟨x1,hx2⟩: ∃x',p.list[i]?=some x':=⟨_,List.getElem?_eq_getElem (by omega)⟩
  refine ss (bP hT (k:=i) (bB (Has.of mT1)) rfl rfl rfl rfl rfl rfl rfl (by omega)) ?_;refine ss (cY hT (cF.knows (bB (Has.of mT1)) (k:=i) (x:=x1) hx2 0) rfl rfl rfl rfl rfl) ?_;refine dS rfl rfl rfl rfl mono_zero rfl fun b3=>?_;refine sto hT .head ?_;refine nn<|sr<|sp4 hT ?_;refine bW (z':=((clampK vars:Nat):Int)) (clamp_eq vars) ?_;have hcl:=clamp_le vars;refine ss (sti_arrFrom hT (k:=clampK vars) rfl rfl rfl rfl rfl rfl (clamp_le vars)) ?_;refine sp hT ?_;refine bW (z':=(((6-clampK vars):Nat):Int)) (rfl) ?_;refine sp hT ?_;refine nn<|bR<|cP (ι:=Nat) [(0,_),(1,_),(9,_),(10,_),(11,_),(19,_),(20,_)] ⟨rfl,rfl,rfl,rfl,rfl,rfl,rfl,trivial⟩ (fun j=>[(21,.int .i64 (j:Nat))]) (fun _=>[]) (fun j=>[bQ.pure (j≤6-clampK vars∧(((EI x1).drop (clampK vars)).take j).all (fun e=>e==0)=true)]) (fun j=>6-clampK vars-j) 0 ⟨rfl,trivial⟩ .nil ⟨Has.pure (⟨by omega,rfl⟩),trivial⟩ ?_;rintro j;refine cD (Has.of mT0) fun hinv5=>?_;refine sr<|sp hT ?_;refine nn<|bK<|bM rfl (fun hc22=>?_) (fun hc22=>?_)
  ·have hc22:=of_decide_eq_true hc22;refine bN<|bF<|bK<|bR<|sr ?_
   obtain⟨x4,hx5⟩: ∃x',((EI x1).drop (clampK vars))[j]?=some x':=⟨_,List.getElem?_eq_getElem (by rw [vR];omega)⟩
   refine ss (bP hT (k:=j) (yQ .head) rfl rfl rfl rfl rfl (vR x1 vars).symm rfl (by rw [vR];omega)) ?_;refine ss (bU hT (cF.knows (yQ .head) (k:=j) (x:=x4) hx5 0) rfl rfl rfl rfl rfl) ?_;refine sp hT ?_;refine nn<|sr<|sp2 hT ?_;refine nn<|bM rfl (fun hc26=>?_) (fun hc26=>?_)
   ·have hc26:=of_decide_eq_true hc26;refine sr<|sp hT ?_;refine nn<|bI<|bL<|bG<|bG<|bL<|bL<|bG<|bG<|bL<|bG ?_;exact bE () rfl (bD rfl) .nil trivial (of_bad hx2 (okM_bad hx5 (by omega)))
   have hc26:=Int.not_lt.1 (of_decide_eq_false hc26);refine bN<|bX<|bF<|bJ<|sp hT ?_;refine bW (z':=(((j+1):Nat):Int)) (cH (by omega) (by omega)) ?_;refine sp hT ?_;refine nn ?_;exact bT (j+1) (by omega) ⟨rfl,trivial⟩ ⟨rfl,rfl,rfl,rfl,rfl,rfl,rfl,trivial⟩ (.cons .head .nil) ⟨Has.pure (⟨by omega,gV hinv5.2 hx5 (beq_iff_eq.2 (le_zero ‹_› (ei_ge hx5)))⟩),trivial⟩ (bH.drop 1)
  have hc22:=Int.not_lt.1 (of_decide_eq_false hc22);refine cI<|bY<|bY<|cJ<|bX<|bF<|bJ<|sp hT ?_;refine bW (z':=(((i+1):Nat):Int)) (cH (by omega) (by omega)) ?_;refine sp hT ?_;refine nn ?_;exact bT (i+1) (by omega) ⟨rfl,trivial⟩ ⟨rfl,rfl,rfl,rfl,trivial⟩ .nil ⟨Has.pure (⟨by omega,gV hinv2.2 hx2 (okM_end hinv5.2 (by rw [vR];omega))⟩),trivial⟩ (bH.drop 2)
 have hc12:=Int.not_lt.1 (of_decide_eq_false hc12);refine cI<|bY<|bY<|cJ<|bF<|sr<|sp hT ?_;refine cW Tryz.func61 (polR_spec p hp) rfl rfl .nil ⟨(Has.of mT2),trivial⟩ fun _=>?_;refine sp hT ?_;refine nn<|bI ?_;exact bE () rfl (bD rfl) .nil trivial (of_end (lG hinv2.2 (by omega)))
set_option maxRecDepth 100000 in
theorem zB(l:Sl gF)(vars:Int):dO Tryz.prog 52 [.slice l.addr l.list.length l.cap,.int .i64 vars] [] [mG l] (fun(_:Unit)=> .bool (fL (cZ l.list) vars)) (fun _=>[]) (fun _=>[]):=by
 have hT:=dK;refine cM Tryz.func52 rfl Tryz.ntmps52 rfl ?_;intro β hM;refine bK<|cD (listF_c (Has.of mT0)) fun hlz=>?_;have hlz2:=hlz.2;refine cB (kI.sl (.slice l.addr l.list.length l.cap) l.list) (nC (Has.of mT0)) ?_;refine bJ<|sp hT ?_;refine nn<|bK<|sr<|sp3 hT ?_;refine nn<|bR<|cP (ι:=Nat) [(0,_),(1,_),(7,_),(8,_)] ⟨rfl,rfl,rfl,rfl,trivial⟩ (fun i=>[(9,.int .i64 (i:Nat))]) (fun _=>[]) (fun i=>[bQ.pure (i≤l.list.length∧((cZ l.list).take i).all (fun p=>ofB p vars&&iC p)=true)]) (fun i=>l.list.length-i) 0 ⟨rfl,trivial⟩ .nil ⟨Has.pure (⟨by omega,rfl⟩),trivial⟩ ?_;rintro i;refine cD (Has.of mT0) fun hinv2=>?_;refine sr<|sp hT ?_;refine nn<|bK<|bM rfl (fun hc10=>?_) (fun hc10=>?_)
 ·have hc10:=of_decide_eq_true hc10;refine bN<|bF<|bK<|bR<|sr ?_
  obtain⟨x1,hx2⟩: ∃x',l.list[i]?=some x':=⟨_,List.getElem?_eq_getElem (by omega)⟩
  refine ss (bP hT (k:=i) (bB (Has.of mT1)) rfl rfl rfl rfl rfl rfl rfl (by omega)) ?_;refine ss (bU hT (cF.knows (bB (Has.of mT1)) (k:=i) (x:=x1) hx2 0) rfl rfl rfl rfl rfl) ?_;refine sp hT ?_;refine nn<|bK<|cB (lV x1) (Has.each (mQ (Has.of mT2)) (List.mem_of_getElem? hx2)) ?_;refine cD (iV (Has.of mT0)) fun hpx1=>?_;refine bJ<|sp2 hT ?_;refine cW Tryz.func107 (of_spec x1 vars) rfl rfl .nil ⟨(Has.of mT0),trivial⟩ fun _=>?_;refine sp2 hT ?_;refine bO (fun hg17=>?_) (fun hg17=>?_)
  ·have hg17:=fW hg17;refine sk3 ?_;refine sp hT ?_;refine nn<|cA rfl rfl ?_;refine sr<|sp hT ?_;refine nn<|bI<|bL<|bG<|bG<|bL<|bG ?_;exact bE () rfl (bD rfl) .nil trivial (sW (gM hx2) (by simp_all))
  have hg17:=fY hg17;refine sp hT ?_;refine cW Tryz.func108 (wD x1 hpx1) rfl rfl .nil ⟨(Has.of mT0),trivial⟩ fun _=>?_;refine sp2 hT ?_;refine nn<|bM rfl (fun hc21=>?_) (fun hc21=>?_)
  ·have hc21:=fW hc21;refine sr<|sp hT ?_;refine nn<|bI<|bL<|bG<|bG<|bL<|bG ?_;exact bE () rfl (bD rfl) .nil trivial (sW (gM hx2) (by simp_all))
  have hc21:=fY hc21;refine bN<|bX<|bF<|bJ<|sp hT ?_;refine bW (z':=(((i+1):Nat):Int)) (cH (by omega) (by omega)) ?_;refine sp hT ?_;refine nn ?_;exact bT (i+1) (by omega) ⟨rfl,trivial⟩ ⟨rfl,rfl,rfl,rfl,trivial⟩ .nil ⟨Has.pure (⟨by omega,gV hinv2.2 (gM hx2) (by simp_all)⟩),trivial⟩ (bH.drop 2)
 have hc10:=Int.not_lt.1 (of_decide_eq_false hc10);refine cI<|bY<|bY<|cJ<|bF<|sr<|sp4 hT ?_;refine nn<|bI ?_;exact bE () rfl (bD rfl) .nil trivial (grow_end (lG hinv2.2 (by rw [cU];omega)))
end Go.Proofs.YtofjmphlpdhohaaGreatDoor
