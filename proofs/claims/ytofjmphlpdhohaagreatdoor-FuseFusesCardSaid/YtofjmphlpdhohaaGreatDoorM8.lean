/- Texts of one proof, one behind the other: Cut, CorF, TysR, CoW, Arrs, CoX. -/
import Derived.Test.YtofjmphlpdhohaaGreatDoorM4
import Derived.Laws.Slices
import Derived.Test.YtofjmphlpdhohaaGreatDoorM7
namespace Go.Proofs.YtofjmphlpdhohaaGreatDoor
open Go.RowKit
section
variable {P : Program} {β : fQ} {n : Nat} {Γ : Env} {H : List bV} {F : List bP} {Q : Exit → Act → World → Prop} {K : Act → World → Prop} {T : Tab} {α : Type} {E : Flat α}
theorem xV{t e:Nat}(hu:P.underlying t=some (.slice e)):P.elem t=e:=by simp [Program.elem,hu]
theorem bCq(hT:fA P T){t e sz:Nat}{ei:TI}(ht:T.get t=some ⟨.slice e,sz⟩)(he:T.get e=some ei){A:Option Addr}{l c k:Nat}(hk:k≤c)(kk:IntKind)(w:World):(Instr.sliceAt t (.slice A l c) none (some (.int kk (k:Nat))) none).run P w= .ok (.slice A k c) w:=by
 obtain⟨d,hu,hd⟩:=hT.any ht;cases d<;>simp [TD.of] at hd
 subst hd;have hel:=xV hu;rw [run_sliceAt_slice w t _ _ _ _ (by rw [hel];exact hu),run_slice_h w t A l c (by rw [hel];exact hu) kk (k:Int) (by omega) (by omega),hel,hT.size he];simp only [Result.andThen_ok,sliced,Int.toNat_natCast,Nat.zero_mul,Nat.sub_zero]
 congr 2
 split
 ·rfl
 ·cases A<;>simp [Addr.add]
theorem run_cutFrom(hT:fA P T){t e sz:Nat}{ei:TI}(ht:T.get t=some ⟨.slice e,sz⟩)(he:T.get e=some ei){A:Option Addr}{l c k:Nat}(hk:k≤l)(kk:IntKind)(w:World):(Instr.sliceAt t (.slice A l c) (some (.int kk (k:Nat))) none none).run P w= .ok (.slice (kU A k ei.size c) (l-k) (c-k)) w:=by
 obtain⟨d,hu,hd⟩:=hT.any ht;cases d<;>simp [TD.of] at hd
 subst hd;have hel:=xV hu;rw [run_sliceAt_slice w t _ _ _ _ (by rw [hel];exact hu),run_slice_l w t A l c (by rw [hel];exact hu) kk (k:Int) (by omega) (by omega),hel,hT.size he];simp only [Result.andThen_ok,sliced,Int.toNat_natCast,kU]
theorem at_trunc{ops:Array Oper}{rest:List Oper}{o:Oper}(hT:fA P T){d t e sz k m cap:Nat}{ei:TI}{x i:Operand}{kk:IntKind}{z:Int}{A:Option Addr}{xs:List α}{H':List bV}(hH:fD H (E.row (.slice A m cap) e xs) H')(hw:want ops Γ o=some true)(ho:o.op= .slice t x none (some i) none)(hd:o.dst=some d)(hn:Nat.blt d n=true)
  (hx:Γ.ev x=some (.slice A m cap)) (hi:Γ.ev i=some (.int kk z)) (ht:T.get t=some ⟨.slice e,sz⟩) (he:T.get e=some ei) (hz:z=(k:Nat)) (hk:k≤xs.length)
  (K:At β n ((d,.slice A (xs.take k).length cap)::Γ) (E.row (.slice A (xs.take k).length cap) e (xs.take k)::H') F (wpList P ops Q rest)):At β n Γ H F (wpList P ops Q (o::rest)):=
 jA hw fun a w S f s hF=>by
  subst hz;have hown:w.ownsRow 0 e E.size (.slice A m cap) xs.length (E.all xs):=s.ok _ hH.mem
  have hkc:k≤cap∧(xs.take k).length=k∧w.ownsRow 0 e E.size (.slice A (xs.take k).length cap) (xs.take k).length (E.all (xs.take k)):=by
   have hl:(xs.take k).length=k:=by simp;omega
   have hall:E.all (xs.take k)=(E.all xs).take (k*E.size):=by
    have:=E.all_append (xs.take k) (xs.drop k);rw [List.take_append_drop] at this;rw [this,List.take_left' (by rw [E.all_length,hl])]
   rcases hown.2 with ⟨e1,e0⟩ | ⟨g,cap',cur,e1,h1,h2,h3,h4,h5,h6⟩
   ·injection e1 with e1 e2 e3
    subst e1 e3;have:xs=[]:=List.eq_nil_of_length_eq_zero e0;subst this;have hk0:k=0:=by simpa using hk
    subst hk0;exact⟨Nat.le_refl _,hl,⟨by simp [Flat.all],.inl ⟨rfl,rfl⟩⟩⟩
   ·injection e1 with e1 e2 e3
    subst e1 e3;refine⟨by omega,hl,⟨by rw [E.all_length],.inr ⟨g,cap,cur,rfl,h1,h2,by omega,h4,h5,?_⟩⟩⟩;rw [hall,hl,←h6,List.take_take]
    congr 1
    exact(Nat.min_eq_left (Nat.mul_le_mul_right _ hk)).symm
  have hr:(execOp a.eval o).run P w= .ok (.value (.slice A (xs.take k).length cap)) w:=by
   unfold execOp;simp only [ho,f.ev hx,Option.map_some,Option.map_none,f.ev hi];rw [Sem.run_bind,bCq hT ht he hkc.1,hkc.2.1];rfl
  unfold Oper.wp;rw [hr,Oper.upon_value,hd];have s2:=s.perm hH.perm;have s3:=s2.swap_row (v':= .slice A (xs.take k).length cap) (w':=w) (lL.refl _ _) (.inl (by cases A<;>rfl)) hkc.2.2;exact K _ _ S (f.put (by simpa [Nat.blt_eq] using hn) _) s3 hF
theorem Has.cons{f g:bP}{F:List bP}(h:Has F g):Has (f::F) g:=fun S w k=>h S w fun x hx=>k x (List.mem_cons_of_mem _ hx)
theorem Has.each_nil{α:Type}{g:α→bP}{F:List bP}:Has F (bP.each [] g):=fun _ _ _ x hx=>by simp at hx
theorem Has.each_cons{α:Type}{g:α→bP}{F:List bP}{x:α}{l:List α}(hx:Has F (g x))(hl:Has F (bP.each l g)):Has F (bP.each (x::l) g):=fun S w k y hy=>by
 rcases List.mem_cons.1 hy with rfl | hy
 ·exact hx S w k
 ·exact hl S w k y hy
theorem Has.each_tail{α:Type}{g:α→bP}{F:List bP}{x:α}{l:List α}(h:Has F (bP.each (x::l) g)):Has F (bP.each l g):=fun S w k y hy=>h S w k y (List.mem_cons_of_mem _ hy)
theorem Has.each_head{α:Type}{g:α→bP}{F:List bP}{x:α}{l:List α}(h:Has F (bP.each (x::l) g)):Has F (g x):=fun S w k=>h S w k x (List.mem_cons_self ..)
theorem Has.each_snoc{α:Type}{g:α→bP}{F:List bP}{x:α}{l:List α}(hl:Has F (bP.each l g))(hx:Has F (g x)):Has F (bP.each (l++[x]) g):=fun S w k y hy=>by
 rcases List.mem_append.1 hy with hy | hy
 ·exact hl S w k y hy
 ·rw [List.mem_singleton.1 hy];exact hx S w k
theorem lH(hT:fA P T){o:Oper}{t e sz k l cap:Nat}{ei:TI}{x i:Operand}{kk:IntKind}{z:Int}{A:Option Addr}(ho:o.op= .slice t x none (some i) none)(hx:Γ.ev x=some (.slice A l cap))(hi:Γ.ev i=some (.int kk z))
  (ht:T.get t=some ⟨.slice e,sz⟩) (he:T.get e=some ei) (hz:z=(k:Nat)) (hk:k≤cap):Sti P β n Γ H F o (.slice A k cap):=fun a w S f s hF=>by
 subst hz;unfold execOp;simp only [ho,f.ev hx,Option.map_some,Option.map_none,f.ev hi];rw [Sem.run_bind,bCq hT ht he hk];rfl
theorem jW(hT:fA P T){o:Oper}{t e sz k l cap:Nat}{ei:TI}{x i:Operand}{kk:IntKind}{z:Int}{A:Option Addr}(ho:o.op= .slice t x (some i) none none)(hx:Γ.ev x=some (.slice A l cap))(hi:Γ.ev i=some (.int kk z))
  (ht:T.get t=some ⟨.slice e,sz⟩) (he:T.get e=some ei) (hz:z=(k:Nat)) (hk:k≤l):Sti P β n Γ H F o (.slice (kU A k ei.size cap) (l-k) (cap-k)):=fun a w S f s hF=>by
 subst hz;unfold execOp;simp only [ho,f.ev hx,Option.map_some,Option.map_none,f.ev hi];rw [Sem.run_bind,run_cutFrom hT ht he hk];rfl
theorem mR{A:Option Addr}{l c k:Nat}{xs:List α}(h:Has F (E.sl (.slice A l c) xs))(hk:k≤xs.length):Has F (E.sl (.slice A k c) (xs.take k)):=fun S w q=>by
 obtain⟨A',c',e,h⟩:=h S w q;injection e with e1 e2 e3
 subst e1 e3;refine⟨A,c,by rw [List.length_take,Nat.min_eq_left hk],fun j x hj=>?_⟩;rw [List.getElem?_take] at hj;split at hj
 ·exact h j x hj
 ·cases hj
theorem oL{A:Option Addr}{l c k:Nat}{xs:List α}(h:Has F (E.sl (.slice A l c) xs))(hc:l≤c)(hk:k≤xs.length):Has F (E.sl (.slice (kU A k E.size c) (l-k) (c-k)) (xs.drop k)):=fun S w q=>by
 obtain⟨A',c',e,h⟩:=h S w q;injection e with e1 e2 e3
 subst e1 e3;refine⟨kU A k E.size c,c-k,by rw [List.length_drop,e2],fun j x hj=>?_⟩;rw [List.getElem?_drop] at hj;obtain⟨b,o,cs,q1,q2,q3,q4⟩:=h _ x hj;have hlt:=(List.getElem?_eq_some_iff.1 hj).1;refine⟨b,o+k*E.size,cs,?_,q2,fun i u hi=>?_,q4⟩
 ·unfold kU;rw [if_neg (by omega),q1];show some ((⟨b,o,none⟩:Addr).add (k*E.size))=_;rw [Addr.add_mid]
 ·have:=q3 i u hi
  have e:o+k*E.size+j*(Enc.flat E.size E.cells).size+i=o+(k+j)*(Enc.flat E.size E.cells).size+i:=by
   show o+k*E.size+j*E.size+i=o+(k+j)*E.size+i;rw [Nat.add_mul];omega
  rw [e];exact this
theorem gO{A:Option Addr}{t:TypeId}{m cap:Nat}{xs:List α}{H':List bV}(hH:fD H (E.row (.slice A m cap) t xs) H')(h:xs.length≤cap→At β n Γ H F K):At β n Γ H F K:=fun a w S f s k=>by
 have hown:w.ownsRow 0 t E.size (.slice A m cap) xs.length (E.all xs):=s.ok _ hH.mem;refine h ?_ a w S f s k
 rcases hown.2 with ⟨_,e0⟩ | ⟨g,cap',cur,e1,h1,h2,h3,_⟩
 ·omega
 ·injection e1 with e1 e2 e3
  subst e3;omega
end
theorem fH:Tryz.prog.follows .mixedOrders=true:=by kernel_rfl
def xS (a b:Mono):Bool:=a.eqB b
theorem uQ{β:fQ}{n:Nat}{Γ:Env}{H:List bV}{F:List bP}{o:Oper}{a b:Operand}{tt:TypeId}(x y:Mono)(ho:o.op= .binOp .neq 45 a b tt)(hx:Γ.ev a=some (.agg #[.int .i64 x.n,.int .u8 x.e0.toNat,.int .u8 x.e1.toNat,.int .u8 x.e2.toNat,.int .u8 x.e3.toNat,.int .u8 x.e4.toNat,.int .u8 x.e5.toNat]))(hy:Γ.ev b=some (.agg #[.int .i64 y.n,.int .u8 y.e0.toNat,.int .u8 y.e1.toNat,.int .u8 y.e2.toNat,.int .u8 y.e3.toNat,.int .u8 y.e4.toNat,.int .u8 y.e5.toNat])):Sti Tryz.prog β n Γ H F o (.bool (!xS x y)):=fun c w S f s k=>by
 have hq:Tryz.prog.eqGuardType Tryz.prog.depth 45=false:=by kernel_rfl
 have hg:(eqGuard .neq 45 a b (.agg #[.int .i64 x.n,.int .u8 x.e0.toNat,.int .u8 x.e1.toNat,.int .u8 x.e2.toNat,.int .u8 x.e3.toNat,.int .u8 x.e4.toNat,.int .u8 x.e5.toNat]) (.agg #[.int .i64 y.n,.int .u8 y.e0.toNat,.int .u8 y.e1.toNat,.int .u8 y.e2.toNat,.int .u8 y.e3.toNat,.int .u8 y.e4.toNat,.int .u8 y.e5.toNat])).run Tryz.prog w= .ok () w:=by
  unfold eqGuard;have hp:(program:Sem Program).run Tryz.prog w= .ok Tryz.prog w:=rfl;simp [hp,hq]
 unfold execOp;simp only [ho,f.ev hx,f.ev hy];rw [Sem.run_bind,Sem.run_bind,hg,Result.andThen_ok,run_neq_mono];rfl
theorem mono_eq{x y:Mono}:xS x y=true↔x=y:=Mono.eqB_iff x y
theorem mono_t{x y:Mono}(h:(!xS x y)=true):x≠y:=fun e=>by
 rw [mono_eq.2 e] at h;cases h
theorem mono_f{x y:Mono}(h:(!xS x y)=false):x=y:=mono_eq.1 (by simpa using h)
def cY (l:List PolV):List (List Mono):=l.map (·.list)
theorem cN(l:List PolV):(cY l).length=l.length:=List.length_map _
theorem gK{l:List PolV}{i:Nat}{p:PolV}(h:l[i]?=some p):(cY l)[i]?=some p.list:=by
 unfold cY;rw [List.getElem?_map,h];rfl
def OpV.c (o:OpV):OpC:=⟨o.how,o.k,o.n,o.p.list,o.fn⟩
def dV (l:List OpV):List OpC:=l.map OpV.c
def fU.c (b:fU):BufC:=⟨cY b.sides.list,b.input⟩
def cT.c (s:cT):StepC:=⟨s.how,s.buf,s.at_.list,cY s.loops.list,s.fn,dV s.ops.list⟩
def iI (l:List cT):List StepC:=l.map cT.c
def jS (l:List fU):List BufC:=l.map fU.c
def CoreV.c(c:CoreV):dU:=⟨c.vars,jS c.bufs.list,iI c.steps.list,c.outs.list⟩
theorem cQ(l:List OpV):(dV l).length=l.length:=List.length_map _
theorem dD(l:List cT):(iI l).length=l.length:=List.length_map _
theorem dE(l:List fU):(jS l).length=l.length:=List.length_map _
theorem fY{l:List OpV}{i:Nat}{x:OpV}(h:l[i]?=some x):(dV l)[i]?=some x.c:=by
 unfold dV;rw [List.getElem?_map,h];rfl
theorem cK{l:List cT}{i:Nat}{x:cT}(h:l[i]?=some x):(iI l)[i]?=some x.c:=by
 unfold iI;rw [List.getElem?_map,h];rfl
theorem dY{l:List fU}{i:Nat}{x:fU}(h:l[i]?=some x):(jS l)[i]?=some x.c:=by
 unfold jS;rw [List.getElem?_map,h];rfl
theorem kO{α:Type} [DecidableEq α]{a b:List α}(h:a≠b):Value.bool false= .bool (decide (a=b)):=by simp [h]
theorem vV{α:Type} [DecidableEq α]{a b:List α}(h:a=b):Value.bool true= .bool (decide (a=b)):=by simp [h]
theorem nil_pol{α:Type}{E:Flat α}{F:List bP}:Has F (E.sl (.slice none 0 0) []):=fun _ _ _=>⟨none,0,rfl,fun k x hk=>by simp at hk⟩
def iA (l:List PolV):bP:=bP.each l mB
theorem fW{F:List bP}{p:PolV}(h:Has F (mB p)):Has F (jG.sl (.slice p.addr p.list.length p.cap) p.list):=h.left
theorem mI{F:List bP}{p:PolV}(h:Has F (mB p)):Has F (bP.pure (p.list.length≤8796093022208)):=h.right
theorem iV{F:List bP}{p:PolV}(h:Has F (mB p)):Has F (bP.pure (p.list.length≤140737488355328)):=fun S w k=>Nat.le_trans (mI h S w k) (by decide)
theorem polF_nil: ∀{F:List bP},Has F (mB ⟨none,0,[]⟩):=Has.and nil_pol (Has.pure (by decide))
def tD {α:Type}(b:Nat)(l:Sl α):bP:=bP.pure (l.list.length≤l.cap∧l.list.length*b≤140737488355328)
def nI (l:Sl PolV):bP:=((fX.sl (.slice l.addr l.list.length l.cap) l.list).and (iA l.list)).and (tD 24 l)
def opF (x:OpV):bP:=mB x.p
def opsF (l:Sl OpV):bP:=((opE.sl (.slice l.addr l.list.length l.cap) l.list).and (bP.each l.list opF)).and (tD 56 l)
def fF (x:cT):bP:=(mB x.at_).and ((nI x.loops).and (opsF x.ops))
def vS (l:Sl cT):bP:=((fV.sl (.slice l.addr l.list.length l.cap) l.list).and (bP.each l.list fF)).and (tD 96 l)
def pE (x:fU):bP:=nI x.sides
def bCi (l:Sl fU):bP:=((nA.sl (.slice l.addr l.list.length l.cap) l.list).and (bP.each l.list pE)).and (tD 32 l)
def uU (l:Sl Int):bP:=(hX.sl (.slice l.addr l.list.length l.cap) l.list).and (tD 8 l)
def iN (c:CoreV):bP:=(bCi c.bufs).and ((vS c.steps).and (uU c.outs))
section
variable {F : List bP} {c : CoreV} {s : cT} {l : Sl PolV} {ol : Sl OpV} {bl : Sl fU} {xl : Sl cT} {il : Sl Int}
theorem hZ(h:Has F (iN c)):Has F (bCi c.bufs):=h.left
theorem fB(h:Has F (iN c)):Has F (vS c.steps):=h.right.left
theorem mN(h:Has F (iN c)):Has F (uU c.outs):=h.right.right
theorem lO(h:Has F (fF s)):Has F (mB s.at_):=h.left
theorem fJ(h:Has F (fF s)):Has F (nI s.loops):=h.right.left
theorem dG(h:Has F (fF s)):Has F (opsF s.ops):=h.right.right
theorem gS(h:Has F (nI l)):Has F (fX.sl (.slice l.addr l.list.length l.cap) l.list):=h.left.left
theorem iP(h:Has F (nI l)):Has F (iA l.list):=h.left.right
theorem sM(h:Has F (nI l)):Has F (tD 24 l):=h.right
theorem kM(h:Has F (opsF ol)):Has F (opE.sl (.slice ol.addr ol.list.length ol.cap) ol.list):=h.left.left
theorem mF(h:Has F (opsF ol)):Has F (bP.each ol.list opF):=h.left.right
theorem oH(h:Has F (opsF ol)):Has F (tD 56 ol):=h.right
theorem jC(h:Has F (vS xl)):Has F (fV.sl (.slice xl.addr xl.list.length xl.cap) xl.list):=h.left.left
theorem hY(h:Has F (vS xl)):Has F (bP.each xl.list fF):=h.left.right
theorem yN(h:Has F (vS xl)):Has F (tD 96 xl):=h.right
theorem nO(h:Has F (bCi bl)):Has F (nA.sl (.slice bl.addr bl.list.length bl.cap) bl.list):=h.left.left
theorem qK(h:Has F (bCi bl)):Has F (bP.each bl.list pE):=h.left.right
theorem bufsF_c(h:Has F (bCi bl)):Has F (tD 32 bl):=h.right
theorem oP(h:Has F (uU il)):Has F (hX.sl (.slice il.addr il.list.length il.cap) il.list):=h.left
theorem outsF_c(h:Has F (uU il)):Has F (tD 8 il):=h.right
end
end Go.Proofs.YtofjmphlpdhohaaGreatDoor
namespace Go.Proofs.YtofjmphlpdhohaaGreatDoor
open Go.RowKit Go.ChangeShapes Go.WideShapes
section
variable {α H : Type} {enc : TypeId × Value → H} {P : Program} {w : World} {t e : TypeId}
def Ty.slicec(T:Ty α)(b:Nat):Ty (Sl α):=⟨slE α,fun s=>((T.slice b).deep s).and (bP.pure (s.list.length≤s.cap))⟩
theorem nU{deep:Sl α→bP}(hu:P.underlying t=some (.slice e))(he:nY enc P w t (slE α).cells deep):nY enc P w t (slE α).cells (fun s=>(deep s).and (bP.pure (s.list.length≤s.cap))):=fun fuel cs x h hw=>by
 obtain⟨a,e0,d⟩:=he fuel cs x h hw;refine⟨a,e0,d,?_⟩;have e0':cs=[.slice a.addr a.list.length a.cap]:=e0;show a.list.length≤a.cap
 rcases Deep.open_slice hu h with ⟨e1,_⟩ | ⟨a',len,cap,m,n,D,Pl,e1,_,hl,_⟩
 ·rw [e0'] at e1;simp only [List.cons.injEq,and_true,Value.slice.injEq] at e1;omega
 ·rw [e0'] at e1;simp only [List.cons.injEq,and_true,Value.slice.injEq] at e1;omega
end
set_option maxRecDepth 100000
section
variable {H : Type} {enc : TypeId × Value → H} {w : World}
theorem u8_of{n:Int}(h:(Lit.int .u8 n).wf=true): ∃e:UInt8,n=(e.toNat:Int):=by
 have h':0≤n∧n≤255:=bounds_u8 h;refine⟨UInt8.ofNat n.toNat,?_⟩;rw [UInt8.toNat_ofNat'];omega
theorem read_mono{fuel:Nat}{cs:List Value}{x:DataW H×List MemPlace}(h:DataW.trod enc Tryz.prog w 0 (fun _=>true) true fuel 45 cs=some x): ∃m:Mono,cs=m.cells∧(Lit.int .i64 m.n).wf=true:=by
 obtain⟨xs,n,_,_,hlen,hxl,hf⟩:=DataW.trod_struct Tryz.underlying45 h;have hc39:Tryz.prog.cellsOf 45=7:=by kernel_rfl
 have hc2:Tryz.prog.cellsOf 2=1:=by kernel_rfl
 have hc37:Tryz.prog.cellsOf 43=6:=by kernel_rfl
 have hc5:Tryz.prog.cellsOf 5=1:=by kernel_rfl
 rw [hc39] at hlen;have hxl':xs.length=2:=hxl
 match cs,hlen with
 | [a,b0,b1,b2,b3,b4,b5],_=>
  have h0:DataW.trod enc Tryz.prog w 0 (fun _=>true) true n 2 (([a,b0,b1,b2,b3,b4,b5].drop 0).take (Tryz.prog.cellsOf 2))=xs[0]?:=hf 0 _ rfl;have h1:DataW.trod enc Tryz.prog w 0 (fun _=>true) true n 43 (([a,b0,b1,b2,b3,b4,b5].drop 1).take (Tryz.prog.cellsOf 43))=xs[1]?:=hf 1 _ rfl;rw [hc2,List.getElem?_eq_getElem (by omega)] at h0;rw [hc37,List.getElem?_eq_getElem (by omega)] at h1;obtain⟨nn,e0,_,hw⟩:=DataW.trod_int Tryz.underlying2 h0;obtain⟨ys,n',_,_,_,hyl,hg⟩:=DataW.trod_array Tryz.underlying43 h1
  have g: ∀i,i<6→ ∃e:UInt8,(([b0,b1,b2,b3,b4,b5]:List Value).drop i).take 1=[.int .u8 (e.toNat:Int)]:=fun i hi=>by
   have h2:=hg i hi;rw [hc5,Nat.mul_one,List.getElem?_eq_getElem (by omega)] at h2;obtain⟨k,e1,_,hw1⟩:=DataW.trod_int Tryz.underlying5 h2;obtain⟨e,rfl⟩:=u8_of hw1;exact⟨e,e1⟩
  obtain⟨e0',g0⟩:=g 0 (by omega);obtain⟨e1',g1⟩:=g 1 (by omega);obtain⟨e2',g2⟩:=g 2 (by omega);obtain⟨e3',g3⟩:=g 3 (by omega);obtain⟨e4',g4⟩:=g 4 (by omega);obtain⟨e5',g5⟩:=g 5 (by omega);simp at e0 g0 g1 g2 g3 g4 g5;subst e0 g0 g1 g2 g3 g4 g5;exact⟨⟨nn,e0',e1',e2',e3',e4',e5'⟩,rfl,hw⟩
end
def lY:Ty Mono:=⟨jG,fun m=>bP.pure ((Lit.int .i64 m.n).wf=true)⟩
theorem qG{H:Type}{enc:TypeId×Value→H}{w:World}:nY enc Tryz.prog w 45 lY.E.cells lY.deep:=fun fuel cs x h _=>by
 obtain⟨m,e,hw⟩:=read_mono h;exact⟨m,e,hw⟩
instance : Inhabited Mono := ⟨⟨0, 0, 0, 0, 0, 0, 0⟩⟩
def opTy:Ty OpV:=⟨opE,fun x=>(bP.pure ((Lit.int .i64 x.how).wf=true)).and ((bP.pure ((Lit.int .i64 x.k).wf=true)).and ((bP.pure ((Lit.int .i64 x.n).wf=true)).and ((((lY.slice 16)).deep x.p).and ((bP.pure ((Lit.int .u8 x.fn).wf=true)).and (bP.true)))))⟩
set_option maxRecDepth 100000 in
theorem opens_op{H:Type}{enc:TypeId×Value→H}{w:World}:nY enc Tryz.prog w 42 opE.cells opTy.deep:=fun fuel cs x h hw=>by
 obtain⟨xs,n,_,rfl,hlen,hxl,hf⟩:=DataW.trod_struct Tryz.underlying42 h;have hc:Tryz.prog.cellsOf 42=5:=by kernel_rfl
 rw [hc] at hlen;have hxl':xs.length=5:=hxl
 match cs,hlen with
 | [c0,c1,c2,c3,c4],_=>
  have h0:DataW.trod enc Tryz.prog w 0 (fun _=>true) true n 3 (([c0,c1,c2,c3,c4].drop 0).take (Tryz.prog.cellsOf 3))=xs[0]?:=hf 0 _ rfl;have h1:DataW.trod enc Tryz.prog w 0 (fun _=>true) true n 3 (([c0,c1,c2,c3,c4].drop 1).take (Tryz.prog.cellsOf 3))=xs[1]?:=hf 1 _ rfl;have h2:DataW.trod enc Tryz.prog w 0 (fun _=>true) true n 2 (([c0,c1,c2,c3,c4].drop 2).take (Tryz.prog.cellsOf 2))=xs[2]?:=hf 2 _ rfl;have h3:DataW.trod enc Tryz.prog w 0 (fun _=>true) true n 35 (([c0,c1,c2,c3,c4].drop 3).take (Tryz.prog.cellsOf 35))=xs[3]?:=hf 3 _ rfl;have h4:DataW.trod enc Tryz.prog w 0 (fun _=>true) true n 37 (([c0,c1,c2,c3,c4].drop 4).take (Tryz.prog.cellsOf 37))=xs[4]?:=hf 4 _ rfl;rw [List.getElem?_eq_getElem (by omega)] at h0;obtain⟨a0,e0,d0⟩:=(jI Tryz.underlying3) _ _ _ h0 (dF Tryz.underlying42 hw (j:=0) rfl (by rw [List.getElem?_map,List.getElem?_eq_getElem (by omega)];rfl))
  have q0:[c0]=[.int .i64 a0]:=by
   have hk:Tryz.prog.cellsOf 3=1:=by kernel_rfl
   rw [hk] at e0;exact e0
  clear e0;simp only [List.cons.injEq,and_true] at q0;rw [List.getElem?_eq_getElem (by omega)] at h1;obtain⟨a1,e1,d1⟩:=(jI Tryz.underlying3) _ _ _ h1 (dF Tryz.underlying42 hw (j:=1) rfl (by rw [List.getElem?_map,List.getElem?_eq_getElem (by omega)];rfl))
  have q1:[c1]=[.int .i64 a1]:=by
   have hk:Tryz.prog.cellsOf 3=1:=by kernel_rfl
   rw [hk] at e1;exact e1
  clear e1;simp only [List.cons.injEq,and_true] at q1;rw [List.getElem?_eq_getElem (by omega)] at h2;obtain⟨a2,e2,d2⟩:=(jI Tryz.underlying2) _ _ _ h2 (dF Tryz.underlying42 hw (j:=2) rfl (by rw [List.getElem?_map,List.getElem?_eq_getElem (by omega)];rfl))
  have q2:[c2]=[.int .i64 a2]:=by
   have hk:Tryz.prog.cellsOf 2=1:=by kernel_rfl
   rw [hk] at e2;exact e2
  clear e2;simp only [List.cons.injEq,and_true] at q2;rw [List.getElem?_eq_getElem (by omega)] at h3;obtain⟨a3,e3,d3⟩:=(gF (T:=lY) (b:=16) Tryz.underlying35 (by kernel_rfl) (by kernel_rfl) qG) _ _ _ h3 (dF Tryz.underlying42 hw (j:=3) rfl (by rw [List.getElem?_map,List.getElem?_eq_getElem (by omega)];rfl))
  have q3:[c3]=[.slice a3.addr a3.list.length a3.cap]:=by
   have hk:Tryz.prog.cellsOf 35=1:=by kernel_rfl
   rw [hk] at e3;exact e3
  clear e3;simp only [List.cons.injEq,and_true] at q3;rw [List.getElem?_eq_getElem (by omega)] at h4;obtain⟨a4,e4,d4⟩:=(jI Tryz.underlying37) _ _ _ h4 (dF Tryz.underlying42 hw (j:=4) rfl (by rw [List.getElem?_map,List.getElem?_eq_getElem (by omega)];rfl))
  have q4:[c4]=[.int .u8 a4]:=by
   have hk:Tryz.prog.cellsOf 37=1:=by kernel_rfl
   rw [hk] at e4;exact e4
  clear e4;simp only [List.cons.injEq,and_true] at q4;obtain rfl:=q0;obtain rfl:=q1;obtain rfl:=q2;obtain rfl:=q3;obtain rfl:=q4;exact⟨⟨a0,a1,a2,a3,a4⟩,rfl,d0,d1,d2,d3,d4,trivial⟩
def bufTy:Ty fU:=⟨nA,fun x=>((((lY.slice 16).slicec 24)).deep x.sides).and ((bP.pure ((Lit.int .i64 x.input).wf=true)).and (bP.true))⟩
set_option maxRecDepth 100000 in
theorem opens_buf{H:Type}{enc:TypeId×Value→H}{w:World}:nY enc Tryz.prog w 47 nA.cells bufTy.deep:=fun fuel cs x h hw=>by
 obtain⟨xs,n,_,rfl,hlen,hxl,hf⟩:=DataW.trod_struct Tryz.underlying47 h;have hc:Tryz.prog.cellsOf 47=2:=by kernel_rfl
 rw [hc] at hlen;have hxl':xs.length=2:=hxl
 match cs,hlen with
 | [c0,c1],_=>
  have h0:DataW.trod enc Tryz.prog w 0 (fun _=>true) true n 36 (([c0,c1].drop 0).take (Tryz.prog.cellsOf 36))=xs[0]?:=hf 0 _ rfl;have h1:DataW.trod enc Tryz.prog w 0 (fun _=>true) true n 3 (([c0,c1].drop 1).take (Tryz.prog.cellsOf 3))=xs[1]?:=hf 1 _ rfl;rw [List.getElem?_eq_getElem (by omega)] at h0;obtain⟨a0,e0,d0⟩:=(nU Tryz.underlying36 (gF (T:=(lY.slice 16)) (b:=24) Tryz.underlying36 (by kernel_rfl) (by kernel_rfl) (gF (T:=lY) (b:=16) Tryz.underlying35 (by kernel_rfl) (by kernel_rfl) qG))) _ _ _ h0 (dF Tryz.underlying47 hw (j:=0) rfl (by rw [List.getElem?_map,List.getElem?_eq_getElem (by omega)];rfl))
  have q0:[c0]=[.slice a0.addr a0.list.length a0.cap]:=by
   have hk:Tryz.prog.cellsOf 36=1:=by kernel_rfl
   rw [hk] at e0;exact e0
  clear e0;simp only [List.cons.injEq,and_true] at q0;rw [List.getElem?_eq_getElem (by omega)] at h1;obtain⟨a1,e1,d1⟩:=(jI Tryz.underlying3) _ _ _ h1 (dF Tryz.underlying47 hw (j:=1) rfl (by rw [List.getElem?_map,List.getElem?_eq_getElem (by omega)];rfl))
  have q1:[c1]=[.int .i64 a1]:=by
   have hk:Tryz.prog.cellsOf 3=1:=by kernel_rfl
   rw [hk] at e1;exact e1
  clear e1;simp only [List.cons.injEq,and_true] at q1;obtain rfl:=q0;obtain rfl:=q1;exact⟨⟨a0,a1⟩,rfl,d0,d1,trivial⟩
def zS:Ty cT:=⟨fV,fun x=>(bP.pure ((Lit.int .i64 x.how).wf=true)).and ((bP.pure ((Lit.int .i64 x.buf).wf=true)).and ((((lY.slice 16)).deep x.at_).and (((((lY.slice 16).slicec 24)).deep x.loops).and ((bP.pure ((Lit.int .u8 x.fn).wf=true)).and ((((opTy.slicec 56)).deep x.ops).and (bP.true))))))⟩
set_option maxRecDepth 100000 in
theorem opens_step{H:Type}{enc:TypeId×Value→H}{w:World}:nY enc Tryz.prog w 40 fV.cells zS.deep:=fun fuel cs x h hw=>by
 obtain⟨xs,n,_,rfl,hlen,hxl,hf⟩:=DataW.trod_struct Tryz.underlying40 h;have hc:Tryz.prog.cellsOf 40=6:=by kernel_rfl
 rw [hc] at hlen;have hxl':xs.length=6:=hxl
 match cs,hlen with
 | [c0,c1,c2,c3,c4,c5],_=>
  have h0:DataW.trod enc Tryz.prog w 0 (fun _=>true) true n 3 (([c0,c1,c2,c3,c4,c5].drop 0).take (Tryz.prog.cellsOf 3))=xs[0]?:=hf 0 _ rfl;have h1:DataW.trod enc Tryz.prog w 0 (fun _=>true) true n 3 (([c0,c1,c2,c3,c4,c5].drop 1).take (Tryz.prog.cellsOf 3))=xs[1]?:=hf 1 _ rfl;have h2:DataW.trod enc Tryz.prog w 0 (fun _=>true) true n 35 (([c0,c1,c2,c3,c4,c5].drop 2).take (Tryz.prog.cellsOf 35))=xs[2]?:=hf 2 _ rfl;have h3:DataW.trod enc Tryz.prog w 0 (fun _=>true) true n 36 (([c0,c1,c2,c3,c4,c5].drop 3).take (Tryz.prog.cellsOf 36))=xs[3]?:=hf 3 _ rfl;have h4:DataW.trod enc Tryz.prog w 0 (fun _=>true) true n 37 (([c0,c1,c2,c3,c4,c5].drop 4).take (Tryz.prog.cellsOf 37))=xs[4]?:=hf 4 _ rfl;have h5:DataW.trod enc Tryz.prog w 0 (fun _=>true) true n 38 (([c0,c1,c2,c3,c4,c5].drop 5).take (Tryz.prog.cellsOf 38))=xs[5]?:=hf 5 _ rfl;rw [List.getElem?_eq_getElem (by omega)] at h0;obtain⟨a0,e0,d0⟩:=(jI Tryz.underlying3) _ _ _ h0 (dF Tryz.underlying40 hw (j:=0) rfl (by rw [List.getElem?_map,List.getElem?_eq_getElem (by omega)];rfl))
  have q0:[c0]=[.int .i64 a0]:=by
   have hk:Tryz.prog.cellsOf 3=1:=by kernel_rfl
   rw [hk] at e0;exact e0
  clear e0;simp only [List.cons.injEq,and_true] at q0;rw [List.getElem?_eq_getElem (by omega)] at h1;obtain⟨a1,e1,d1⟩:=(jI Tryz.underlying3) _ _ _ h1 (dF Tryz.underlying40 hw (j:=1) rfl (by rw [List.getElem?_map,List.getElem?_eq_getElem (by omega)];rfl))
  have q1:[c1]=[.int .i64 a1]:=by
   have hk:Tryz.prog.cellsOf 3=1:=by kernel_rfl
   rw [hk] at e1;exact e1
  clear e1;simp only [List.cons.injEq,and_true] at q1;rw [List.getElem?_eq_getElem (by omega)] at h2;obtain⟨a2,e2,d2⟩:=(gF (T:=lY) (b:=16) Tryz.underlying35 (by kernel_rfl) (by kernel_rfl) qG) _ _ _ h2 (dF Tryz.underlying40 hw (j:=2) rfl (by rw [List.getElem?_map,List.getElem?_eq_getElem (by omega)];rfl))
  have q2:[c2]=[.slice a2.addr a2.list.length a2.cap]:=by
   have hk:Tryz.prog.cellsOf 35=1:=by kernel_rfl
   rw [hk] at e2;exact e2
  clear e2;simp only [List.cons.injEq,and_true] at q2;rw [List.getElem?_eq_getElem (by omega)] at h3;obtain⟨a3,e3,d3⟩:=(nU Tryz.underlying36 (gF (T:=(lY.slice 16)) (b:=24) Tryz.underlying36 (by kernel_rfl) (by kernel_rfl) (gF (T:=lY) (b:=16) Tryz.underlying35 (by kernel_rfl) (by kernel_rfl) qG))) _ _ _ h3 (dF Tryz.underlying40 hw (j:=3) rfl (by rw [List.getElem?_map,List.getElem?_eq_getElem (by omega)];rfl))
  have q3:[c3]=[.slice a3.addr a3.list.length a3.cap]:=by
   have hk:Tryz.prog.cellsOf 36=1:=by kernel_rfl
   rw [hk] at e3;exact e3
  clear e3;simp only [List.cons.injEq,and_true] at q3;rw [List.getElem?_eq_getElem (by omega)] at h4;obtain⟨a4,e4,d4⟩:=(jI Tryz.underlying37) _ _ _ h4 (dF Tryz.underlying40 hw (j:=4) rfl (by rw [List.getElem?_map,List.getElem?_eq_getElem (by omega)];rfl))
  have q4:[c4]=[.int .u8 a4]:=by
   have hk:Tryz.prog.cellsOf 37=1:=by kernel_rfl
   rw [hk] at e4;exact e4
  clear e4;simp only [List.cons.injEq,and_true] at q4;rw [List.getElem?_eq_getElem (by omega)] at h5;obtain⟨a5,e5,d5⟩:=(nU Tryz.underlying38 (gF (T:=opTy) (b:=56) Tryz.underlying38 (by kernel_rfl) (by kernel_rfl) opens_op)) _ _ _ h5 (dF Tryz.underlying40 hw (j:=5) rfl (by rw [List.getElem?_map,List.getElem?_eq_getElem (by omega)];rfl))
  have q5:[c5]=[.slice a5.addr a5.list.length a5.cap]:=by
   have hk:Tryz.prog.cellsOf 38=1:=by kernel_rfl
   rw [hk] at e5;exact e5
  clear e5;simp only [List.cons.injEq,and_true] at q5;obtain rfl:=q0;obtain rfl:=q1;obtain rfl:=q2;obtain rfl:=q3;obtain rfl:=q4;obtain rfl:=q5;exact⟨⟨a0,a1,a2,a3,a4,a5⟩,rfl,d0,d1,d2,d3,d4,d5,trivial⟩
def coreTy:Ty CoreV:=⟨coreE,fun x=>(bP.pure ((Lit.int .i64 x.vars).wf=true)).and ((((bufTy.slicec 32)).deep x.bufs).and ((((zS.slicec 96)).deep x.steps).and ((((intTy.slicec 8)).deep x.outs).and (bP.true))))⟩
set_option maxRecDepth 100000 in
theorem opens_core{H:Type}{enc:TypeId×Value→H}{w:World}:nY enc Tryz.prog w 26 coreE.cells coreTy.deep:=fun fuel cs x h hw=>by
 obtain⟨xs,n,_,rfl,hlen,hxl,hf⟩:=DataW.trod_struct Tryz.underlying26 h;have hc:Tryz.prog.cellsOf 26=4:=by kernel_rfl
 rw [hc] at hlen;have hxl':xs.length=4:=hxl
 match cs,hlen with
 | [c0,c1,c2,c3],_=>
  have h0:DataW.trod enc Tryz.prog w 0 (fun _=>true) true n 3 (([c0,c1,c2,c3].drop 0).take (Tryz.prog.cellsOf 3))=xs[0]?:=hf 0 _ rfl;have h1:DataW.trod enc Tryz.prog w 0 (fun _=>true) true n 22 (([c0,c1,c2,c3].drop 1).take (Tryz.prog.cellsOf 22))=xs[1]?:=hf 1 _ rfl;have h2:DataW.trod enc Tryz.prog w 0 (fun _=>true) true n 23 (([c0,c1,c2,c3].drop 2).take (Tryz.prog.cellsOf 23))=xs[2]?:=hf 2 _ rfl;have h3:DataW.trod enc Tryz.prog w 0 (fun _=>true) true n 24 (([c0,c1,c2,c3].drop 3).take (Tryz.prog.cellsOf 24))=xs[3]?:=hf 3 _ rfl;rw [List.getElem?_eq_getElem (by omega)] at h0;obtain⟨a0,e0,d0⟩:=(jI Tryz.underlying3) _ _ _ h0 (dF Tryz.underlying26 hw (j:=0) rfl (by rw [List.getElem?_map,List.getElem?_eq_getElem (by omega)];rfl))
  have q0:[c0]=[.int .i64 a0]:=by
   have hk:Tryz.prog.cellsOf 3=1:=by kernel_rfl
   rw [hk] at e0;exact e0
  clear e0;simp only [List.cons.injEq,and_true] at q0;rw [List.getElem?_eq_getElem (by omega)] at h1;obtain⟨a1,e1,d1⟩:=(nU Tryz.underlying22 (gF (T:=bufTy) (b:=32) Tryz.underlying22 (by kernel_rfl) (by kernel_rfl) opens_buf)) _ _ _ h1 (dF Tryz.underlying26 hw (j:=1) rfl (by rw [List.getElem?_map,List.getElem?_eq_getElem (by omega)];rfl))
  have q1:[c1]=[.slice a1.addr a1.list.length a1.cap]:=by
   have hk:Tryz.prog.cellsOf 22=1:=by kernel_rfl
   rw [hk] at e1;exact e1
  clear e1;simp only [List.cons.injEq,and_true] at q1;rw [List.getElem?_eq_getElem (by omega)] at h2;obtain⟨a2,e2,d2⟩:=(nU Tryz.underlying23 (gF (T:=zS) (b:=96) Tryz.underlying23 (by kernel_rfl) (by kernel_rfl) opens_step)) _ _ _ h2 (dF Tryz.underlying26 hw (j:=2) rfl (by rw [List.getElem?_map,List.getElem?_eq_getElem (by omega)];rfl))
  have q2:[c2]=[.slice a2.addr a2.list.length a2.cap]:=by
   have hk:Tryz.prog.cellsOf 23=1:=by kernel_rfl
   rw [hk] at e2;exact e2
  clear e2;simp only [List.cons.injEq,and_true] at q2;rw [List.getElem?_eq_getElem (by omega)] at h3;obtain⟨a3,e3,d3⟩:=(nU Tryz.underlying24 (gF (T:=intTy) (b:=8) Tryz.underlying24 (by kernel_rfl) (by kernel_rfl) (jI Tryz.underlying3))) _ _ _ h3 (dF Tryz.underlying26 hw (j:=3) rfl (by rw [List.getElem?_map,List.getElem?_eq_getElem (by omega)];rfl))
  have q3:[c3]=[.slice a3.addr a3.list.length a3.cap]:=by
   have hk:Tryz.prog.cellsOf 24=1:=by kernel_rfl
   rw [hk] at e3;exact e3
  clear e3;simp only [List.cons.injEq,and_true] at q3;obtain rfl:=q0;obtain rfl:=q1;obtain rfl:=q2;obtain rfl:=q3;exact⟨⟨a0,a1,a2,a3⟩,rfl,d0,d1,d2,d3,trivial⟩
section
variable {S : Nat → Prop} {w : World}
theorem pol_of{p:PolV}(h:((lY.slice 16).deep p).p S w):(mB p).p S w:=by
 obtain⟨⟨c1,c2⟩,c3⟩:=h;have c3:p.list.length*16≤140737488355328:=c3;exact⟨c1,by show p.list.length≤8796093022208;omega⟩
theorem list_of{l:Sl PolV}(h:(((lY.slice 16).slicec 24).deep l).p S w):(nI l).p S w:=by
 obtain⟨⟨⟨a1,a2⟩,a3⟩,a4⟩:=h;exact⟨⟨a1,fun p hp=>pol_of (a2 p hp)⟩,a4,a3⟩
theorem op_of{o:OpV}(h:(opTy.deep o).p S w):(opF o).p S w:=pol_of h.2.2.2.1
theorem ops_of{l:Sl OpV}(h:((opTy.slicec 56).deep l).p S w):(opsF l).p S w:=by
 obtain⟨⟨⟨a1,a2⟩,a3⟩,a4⟩:=h;exact⟨⟨a1,fun p hp=>op_of (a2 p hp)⟩,a4,a3⟩
theorem buf_of{b:fU}(h:(bufTy.deep b).p S w):(pE b).p S w:=list_of h.1
theorem bufs_of{l:Sl fU}(h:((bufTy.slicec 32).deep l).p S w):(bCi l).p S w:=by
 obtain⟨⟨⟨a1,a2⟩,a3⟩,a4⟩:=h;exact⟨⟨a1,fun p hp=>buf_of (a2 p hp)⟩,a4,a3⟩
theorem step_of{s:cT}(h:(zS.deep s).p S w):(fF s).p S w:=⟨pol_of h.2.2.1,list_of h.2.2.2.1,ops_of h.2.2.2.2.2.1⟩
theorem steps_of{l:Sl cT}(h:((zS.slicec 96).deep l).p S w):(vS l).p S w:=by
 obtain⟨⟨⟨a1,a2⟩,a3⟩,a4⟩:=h;exact⟨⟨a1,fun p hp=>step_of (a2 p hp)⟩,a4,a3⟩
theorem outs_of{l:Sl Int}(h:((intTy.slicec 8).deep l).p S w):(uU l).p S w:=by
 obtain⟨⟨⟨a1,a2⟩,a3⟩,a4⟩:=h;exact⟨a1,a4,a3⟩
theorem core_of{c:CoreV}(h:(coreTy.deep c).p S w):(iN c).p S w:=⟨bufs_of h.2.1,steps_of h.2.2.1,outs_of h.2.2.2.1⟩
end
end Go.Proofs.YtofjmphlpdhohaaGreatDoor
namespace Go.Proofs.YtofjmphlpdhohaaGreatDoor
open Go.RowKit
theorem takes_le(h:Int):cX h≤2∧ -1≤cX h:=by
 unfold cX
 repeat' split
 all_goals omega
def bAj (l:List OpV)(i:Nat)(m n r:Int):Prop:=pC ((dV l).drop i) m n=r
theorem jR{α:Type}{l:List α}{i:Nat}{x:α}(h:l[i]?=some x):l.drop i=x::l.drop (i+1):=by
 obtain⟨hi,e⟩:=List.getElem?_eq_some_iff.1 h;rw [←e];exact List.drop_eq_getElem_cons hi
section
variable {l : List OpV} {i : Nat} {m n r : Int} {x : OpV}
theorem dep_step(h:bAj l i m n r)(hx:l[i]?=some x):(cX x.how<0∨n<cX x.how→r= -1)∧(¬cX x.how<0→ ¬n<cX x.how→bAj l (i+1) (if n+(1-cX x.how)>m then n+(1-cX x.how) else m) (n+(1-cX x.how)) r):=by
 unfold bAj at*;rw [jR (fY hx),pC] at h;refine⟨fun e=>?_,fun e1 e2=>?_⟩
 ·rw [if_pos (show cX x.c.how<0∨n<cX x.c.how from e)] at h;exact h.symm
 ·rw [if_neg (show ¬(cX x.c.how<0∨n<cX x.c.how) from fun h=>h.elim e1 e2)] at h;rw [←h]
  congr 1
  show _=max m (n+(1-cX x.how));split<;>omega
theorem xR(h:bAj l i m n r)(hi:l.length≤i):(n≠1→r= -1)∧(n=1→r=m):=by
 unfold bAj at h;rw [List.drop_of_length_le (by rw [cQ];exact hi),pC] at h;exact⟨fun e=>by rw [if_neg e] at h;exact h.symm,fun e=>by rw [if_pos e] at h;exact h.symm⟩
end
section
variable {f : Int} {two : Bool}
theorem nD(h:f<1∨17<f):Value.bool false= .bool (fP f two):=by
 unfold fP;rw [if_pos h]
theorem wtk_b(h3:f=16):Value.bool (!two)= .bool (fP f two):=by
 unfold fP;rw [if_neg (by omega),if_pos h3]
theorem wtk_c(h1:1≤f)(h2:f≤17)(h3:f≠16)(h:two=true):Value.bool true= .bool (fP f two):=by
 unfold fP;rw [if_neg (by omega),if_neg h3,h,Bool.true_or]
theorem wtk_d(h1:1≤f)(h2:f≤17)(h3:f≠16)(h:two=false):Value.bool (decide (f≤7))= .bool (fP f two):=by
 unfold fP;rw [if_neg (by omega),if_neg h3,h,Bool.false_or]
end
theorem tI:(Tryz.prog.info? 42).bind (·.zero)=some (.agg #[.int .i64 0,.int .i64 0,.int .i64 0,.slice none 0 0,.int .u8 0]):=by kernel_rfl
set_option maxRecDepth 100000 in
theorem takes_spec(o:OpV):dM Tryz.prog 168 [.agg #[.int .i64 o.how,.int .i64 o.k,.int .i64 o.n,.slice o.p.addr o.p.list.length o.p.cap,.int .u8 o.fn]] [] [] (fun(_:Unit)=> .int .i64 (cX o.how)) (fun _=>[]) (fun _=>[]):=by
 have hT:=dZ;refine cJ Tryz.func168 rfl Tryz.ntmps168 rfl ?_;intro β hM;refine sr<|gA rfl rfl rfl rfl rfl rfl fun b1=>?_;refine sp hT ?_;refine nn<|bF<|sr<|sp hT ?_;refine ss (ldO hT (dI .head)) ?_;refine nn<|bR<|bF<|sr<|sp2 hT ?_;refine nn<|bO rfl (fun hc5=>?_) (fun hc5=>?_)
 ·have hc5_r:=hc5;have hc5:=eq_of_beq hc5;refine bN<|bD<|cD rfl hc5_r ?_;refine sr<|sp hT ?_;refine nn<|bK<|bQ<|bJ ?_;exact bI () rfl (bH rfl) .nil trivial (by simp [cX, *])
 have hc5_r:=hc5;have hc5:=beq_eq_false_iff_ne.1 hc5;refine sr<|sp2 hT ?_;refine nn<|bO rfl (fun hc5_2=>?_) (fun hc5_2=>?_)
 ·have hc5_2_r:=hc5_2;have hc5_2:=eq_of_beq hc5_2;refine bN<|bD<|cD rfl hc5_2_r ?_;refine sr<|sp hT ?_;refine nn<|bK<|bQ<|bJ ?_;exact bI () rfl (bH rfl) .nil trivial (by simp [cX, *])
 have hc5_2_r:=hc5_2;have hc5_2:=beq_eq_false_iff_ne.1 hc5_2;refine bE<|sp2 hT ?_;refine nn<|bO rfl (fun hc5_3=>?_) (fun hc5_3=>?_)
 ·have hc5_3_r:=hc5_3;have hc5_3:=eq_of_beq hc5_3;refine sr<|sp hT ?_;refine nn<|bK<|bQ<|bJ ?_;exact bI () rfl (bH rfl) .nil trivial (by simp [cX, *])
 have hc5_3_r:=hc5_3;have hc5_3:=beq_eq_false_iff_ne.1 hc5_3;refine bF<|sr<|sp2 hT ?_;refine nn<|bO rfl (fun hc9=>?_) (fun hc9=>?_)
 ·have hc9_r:=hc9;have hc9:=eq_of_beq hc9;refine bN<|bD<|cD rfl hc9_r ?_;refine sr<|sp hT ?_;refine nn<|bK<|bQ<|bJ ?_;exact bI () rfl (bH rfl) .nil trivial (by simp [cX, *])
 have hc9_r:=hc9;have hc9:=beq_eq_false_iff_ne.1 hc9;refine bE<|sp2 hT ?_;refine nn<|bO rfl (fun hc9_4=>?_) (fun hc9_4=>?_)
 ·have hc9_4_r:=hc9_4;have hc9_4:=eq_of_beq hc9_4;refine sr<|sp hT ?_;refine nn<|bK<|bQ<|bJ ?_;exact bI () rfl (bH rfl) .nil trivial (by simp [cX, *])
 have hc9_4_r:=hc9_4;have hc9_4:=beq_eq_false_iff_ne.1 hc9_4;refine sr<|sp2 hT ?_;refine nn<|bO rfl (fun hc12=>?_) (fun hc12=>?_)
 ·have hc12_r:=hc12;have hc12:=eq_of_beq hc12;refine sr<|sp hT ?_;refine nn<|bK<|bQ<|bJ ?_;exact bI () rfl (bH rfl) .nil trivial (by simp [cX, *])
 have hc12_r:=hc12;have hc12:=beq_eq_false_iff_ne.1 hc12;refine bN<|bZ<|bD<|sr<|sp hT ?_;refine nn<|bK ?_;exact bI () rfl (bH rfl) .nil trivial (by simp [cX, *])
set_option maxRecDepth 100000 in
theorem Depth_spec(A:Option Addr)(c:Nat)(l:List OpV)(hl:l.length≤140737488355328):dM Tryz.prog 109 [.slice A l.length c] [] [opE.sl (.slice A l.length c) l,bP.each l opF] (fun(_:Unit)=> .int .i64 (jP (dV l))) (fun _=>[]) (fun _=>[]):=by
 have hT:=dZ;generalize hR:jP (dV l)=r;refine cJ Tryz.func109 rfl Tryz.ntmps109 rfl ?_;intro β hM;refine sr<|sp hT ?_;refine nn<|sr<|sp2 hT ?_;refine nn<|bF<|sr<|sp3 hT ?_;refine nn<|bR<|cI (ι:=Nat×Int×Int) [(8,_),(9,_)] ⟨rfl,rfl,trivial⟩ (fun⟨i,m,n⟩=>[(3,.int .i64 m),(4,.int .i64 n),(10,.int .i64 (i:Nat))]) (fun _=>[]) (fun⟨i,m,n⟩=>[bP.pure (i≤l.length∧bAj l i m n r∧0≤n∧n≤i)]) (fun⟨i,m,n⟩=>l.length-i) (0,0,0) ⟨rfl,rfl,rfl,trivial⟩ .nil ⟨Has.pure (⟨by omega,hR,by omega,by omega⟩),trivial⟩ ?_;rintro⟨i,m,n⟩;dsimp only;refine bX (Has.of mT0) fun hinv3=>?_;refine sr<|sp hT ?_;refine nn<|bF<|bO rfl (fun hc11=>?_) (fun hc11=>?_)
 ·have hc11:=of_decide_eq_true hc11;refine bN<|bD<|bF<|bR<|sr ?_
  obtain⟨x1,hx2⟩: ∃x',l[i]?=some x':=⟨_,List.getElem?_eq_getElem (by omega)⟩
  refine ss (bM hT (k:=i) (bB (Has.of mT1)) rfl rfl rfl rfl rfl rfl rfl (by omega)) ?_;refine ss (cV hT (cB.knows (bB (Has.of mT1)) (k:=i) (x:=x1) hx2 0) rfl rfl rfl rfl rfl) ?_;refine dB rfl rfl rfl rfl tI rfl fun b3=>?_;refine sto hT .head ?_;refine nn<|bF ?_;have htk:=takes_le x1.how
  have hd0:=(dep_step hinv3.2.1 hx2)
  refine bE<|ss (ldN hT (dI .head)) ?_;refine cO Tryz.func168 (takes_spec x1) rfl rfl .nil trivial fun _=>?_;refine sp hT ?_;refine nn<|bF<|sr<|sp3 hT ?_;refine bT (fun hg18=>?_) (fun hg18=>?_)
  ·have hg18:=of_decide_eq_true hg18;refine sk3 ?_;refine sp hT ?_;refine nn<|cD rfl rfl ?_;refine sr<|sp hT ?_;refine nn<|bK<|bJ<|bQ<|bJ<|bJ<|bQ<|bJ ?_;have hr:=hd0.1 (by omega);subst hr;exact bI () rfl (bH rfl) .nil trivial rfl
  have hg18:=Int.not_lt.1 (of_decide_eq_false hg18);refine sp4 hT ?_;refine nn<|bO rfl (fun hc22=>?_) (fun hc22=>?_)
  ·have hc22:=of_decide_eq_true hc22;refine sr<|sp hT ?_;refine nn<|bK<|bJ<|bQ<|bJ<|bJ<|bQ<|bJ ?_;have hr:=hd0.1 (by omega);subst hr;exact bI () rfl (bH rfl) .nil trivial rfl
  have hc22:=Int.not_lt.1 (of_decide_eq_false hc22);refine bN<|bD<|sr<|sp3 hT ?_;refine bW (wK (by omega) (by omega)) ?_;refine sp hT ?_;refine bW (wK (by omega) (by omega)) ?_;refine sp hT ?_;refine nn<|bE<|sp4 hT ?_;refine gM<|bZ<|bD<|bE<|sp hT ?_;refine bW (z':=(((i+1):Nat):Int)) (cH (by omega) (by omega)) ?_;refine sp hT ?_;refine nn ?_;exact bU (i+1,_,_) (by dsimp only;omega) ⟨rfl,rfl,rfl,trivial⟩ ⟨rfl,rfl,trivial⟩ .nil ⟨Has.pure (⟨by dsimp only;omega,hd0.2 (by omega) (by omega),by dsimp only;omega,by dsimp only;omega⟩),trivial⟩ (bG.drop 1)
 have hc11:=Int.not_lt.1 (of_decide_eq_false hc11);refine cE<|bY<|bY<|cF<|bD<|bF<|sr<|sp2 hT ?_;refine nn<|bO rfl (fun hc32=>?_) (fun hc32=>?_)
 ·have hc32:=bne_iff_ne.1 hc32;refine sr<|sp hT ?_;refine nn<|bK<|bJ ?_;have hr:=(xR hinv3.2.1 (by omega)).1 ‹_›;subst hr;exact bI () rfl (bH rfl) .nil trivial rfl
 have hc32:=bne_eq_false_iff_eq.1 hc32;refine bN<|bD<|sr<|sp2 hT ?_;refine nn<|bK ?_;have hr:=(xR hinv3.2.1 (by omega)).2 ‹_›;subst hr;exact bI () rfl (bH rfl) .nil trivial rfl
set_option maxRecDepth 100000 in
theorem mW(f:Int)(two:Bool):dM Tryz.prog 110 [.int .u8 f,.bool two] [] [] (fun(_:Unit)=> .bool (fP f two)) (fun _=>[]) (fun _=>[]):=by
 have hT:=dZ;refine cJ Tryz.func110 rfl Tryz.ntmps110 rfl ?_;intro β hM;refine sr<|sp hT ?_;refine nn<|bF<|bR<|sr<|sp3 hT ?_;refine bT (fun hg8=>?_) (fun hg8=>?_)
 ·have hg8:=of_decide_eq_true hg8;refine sk2 ?_;refine sp2 hT ?_;refine nn<|cD rfl rfl ?_;refine sr<|sp hT ?_;refine nn<|bK<|bQ<|bJ ?_;exact bI () rfl (bH rfl) .nil trivial (by first | exact nD (.inl (by omega)) | exact nD (.inr (by omega)) | exact wtk_b (by omega) | exact wtk_c (by omega) (by omega) (by omega) ‹_› | exact wtk_d (by omega) (by omega) (by omega) ‹_›)
 have hg8:=Int.not_lt.1 (of_decide_eq_false hg8);refine sp4 hT ?_;refine nn<|bO rfl (fun hc5=>?_) (fun hc5=>?_)
 ·have hc5:=of_decide_eq_true hc5;refine sr<|sp hT ?_;refine nn<|bK<|bQ<|bJ ?_;exact bI () rfl (bH rfl) .nil trivial (by first | exact nD (.inl (by omega)) | exact nD (.inr (by omega)) | exact wtk_b (by omega) | exact wtk_c (by omega) (by omega) (by omega) ‹_› | exact wtk_d (by omega) (by omega) (by omega) ‹_›)
 have hc5:=Int.not_lt.1 (of_decide_eq_false hc5);refine sr<|sp3 hT ?_;refine nn<|bO rfl (fun hc12=>?_) (fun hc12=>?_)
 ·have hc12:=eq_of_beq hc12;refine sr<|sp3 hT ?_;refine nn<|bK<|bQ<|bJ ?_;exact bI () rfl (bH rfl) .nil trivial (by first | exact nD (.inl (by omega)) | exact nD (.inr (by omega)) | exact wtk_b (by omega) | exact wtk_c (by omega) (by omega) (by omega) ‹_› | exact wtk_d (by omega) (by omega) (by omega) ‹_›)
 have hc12:=beq_eq_false_iff_ne.1 hc12;refine bN<|bZ<|bD<|sr<|sp2 hT ?_;refine bT (fun hg18=>?_) (fun hg18=>?_)
 ·refine sk2 ?_;refine sp2 hT ?_;refine nn<|bK ?_;exact bI () rfl (bH rfl) .nil trivial (by first | exact nD (.inl (by omega)) | exact nD (.inr (by omega)) | exact wtk_b (by omega) | exact wtk_c (by omega) (by omega) (by omega) ‹_› | exact wtk_d (by omega) (by omega) (by omega) ‹_›)
 refine sp4 hT ?_;refine nn<|bK ?_;exact bI () rfl (bH rfl) .nil trivial (by first | exact nD (.inl (by omega)) | exact nD (.inr (by omega)) | exact wtk_b (by omega) | exact wtk_c (by omega) (by omega) (by omega) ‹_› | exact wtk_d (by omega) (by omega) (by omega) ‹_›)
set_option maxRecDepth 100000 in
theorem xH(f:Int)(two:Bool):dM Tryz.prog 128 [.int .u8 f,.bool two] [] [] (fun(_:Unit)=> .bool (kK f two)) (fun _=>[]) (fun _=>[]):=by
 have hT:=dZ;refine cJ Tryz.func128 rfl Tryz.ntmps128 rfl ?_;intro β hM;refine sr<|sp hT ?_;refine nn<|bF<|sr<|sp hT ?_;refine nn<|bR<|bF<|sr<|sp2 hT ?_;refine nn<|bO rfl (fun hc6=>?_) (fun hc6=>?_)
 ·have hc6_r:=hc6;have hc6:=eq_of_beq hc6;refine bN<|bD<|cD rfl hc6_r ?_;refine sr<|sp hT ?_;refine nn<|bK<|bQ<|bJ ?_;exact bI () rfl (bH rfl) .nil trivial (by simp [kK, *])
 have hc6_r:=hc6;have hc6:=beq_eq_false_iff_ne.1 hc6;refine sr<|sp2 hT ?_;refine nn<|bO rfl (fun hc6_1=>?_) (fun hc6_1=>?_)
 ·have hc6_1_r:=hc6_1;have hc6_1:=eq_of_beq hc6_1;refine bN<|bD<|cD rfl hc6_1_r ?_;refine sr<|sp hT ?_;refine nn<|bK<|bQ<|bJ ?_;exact bI () rfl (bH rfl) .nil trivial (by simp [kK, *])
 have hc6_1_r:=hc6_1;have hc6_1:=beq_eq_false_iff_ne.1 hc6_1;refine sr<|sp2 hT ?_;refine nn<|bO rfl (fun hc6_2=>?_) (fun hc6_2=>?_)
 ·have hc6_2_r:=hc6_2;have hc6_2:=eq_of_beq hc6_2;refine bN<|bD<|cD rfl hc6_2_r ?_;refine sr<|sp hT ?_;refine nn<|bK<|bQ<|bJ ?_;exact bI () rfl (bH rfl) .nil trivial (by simp [kK, *])
 have hc6_2_r:=hc6_2;have hc6_2:=beq_eq_false_iff_ne.1 hc6_2;refine sr<|sp2 hT ?_;refine nn<|bO rfl (fun hc6_3=>?_) (fun hc6_3=>?_)
 ·have hc6_3_r:=hc6_3;have hc6_3:=eq_of_beq hc6_3;refine bN<|bD<|cD rfl hc6_3_r ?_;refine sr<|sp hT ?_;refine nn<|bK<|bQ<|bJ ?_;exact bI () rfl (bH rfl) .nil trivial (by simp [kK, *])
 have hc6_3_r:=hc6_3;have hc6_3:=beq_eq_false_iff_ne.1 hc6_3;refine bE<|sp2 hT ?_;refine nn<|bO rfl (fun hc6_4=>?_) (fun hc6_4=>?_)
 ·have hc6_4_r:=hc6_4;have hc6_4:=eq_of_beq hc6_4;refine sr<|sp hT ?_;refine nn<|bK<|bQ<|bJ ?_;exact bI () rfl (bH rfl) .nil trivial (by simp [kK, *])
 have hc6_4_r:=hc6_4;have hc6_4:=beq_eq_false_iff_ne.1 hc6_4;refine bN<|bZ<|bD<|sr<|sp2 hT ?_;refine cO Tryz.func110 (mW f two) rfl rfl .nil trivial fun _=>?_;refine sp hT ?_;refine nn<|bK ?_;exact bI () rfl (bH rfl) .nil trivial (by simp [kK, *])
section
variable {P : Program} {β : fQ} {n : Nat} {Γ : Env} {H : List bV} {F : List bP} {K : Act → World → Prop} {T : Tab} {α : Type} {E : Flat α}
theorem St.recast'{c c':bV}{S:jK}{w:World}(s:St β (c::H) S w)(hb: ∀b,c'.blk=some b→c.blk=some b)(ok:c'.ok w):St β (c'::H) S w:=by
 have hs:=List.pairwise_cons.1 s.sep;refine⟨s.kept,fun d hd=>?_,fun d hd b h=>?_,List.pairwise_cons.2 ⟨fun d hd b h=>hs.1 d hd b (hb b h),hs.2⟩,s.zone⟩
 ·rcases List.mem_cons.1 hd with rfl | hd
  ·exact ok
  ·exact s.ok d (List.mem_cons_of_mem _ hd)
 ·rcases List.mem_cons.1 hd with rfl | hd
  ·exact s.own c (List.mem_cons_self ..) b (hb b h)
  ·exact s.own d (List.mem_cons_of_mem _ hd) b h
theorem rL{b:Nat}{t:TypeId}{xs:List α}{H':List bV}(hH:fD H (.obj b (.cells (E.all xs).toArray t)) H')(h:At β n Γ (E.held (.slice (some ⟨b,0,none⟩) xs.length xs.length) xs::H') F K):At β n Γ H F K:=fun a w S f s k=>by
 have s2:=s.perm hH.perm;have hok:w.heap[b]?=some (.cells (E.all xs).toArray t):=s2.ok _ (List.mem_cons_self ..);refine h a w S f (s2.recast' (fun b' hb=>?_) ?_) k
 ·cases xs with
  | nil=>cases hb
  | cons x r=>exact hb
 ·cases xs with
  | nil=>exact⟨_,_,rfl,.inl rfl⟩
  | cons x r=>
   refine⟨_,_,rfl,.inr ⟨b,0,_,t,(0,0),rfl,hok,fun j u hj=>⟨?_,?_⟩⟩⟩
   ·rw [Nat.zero_add];exact hj
   ·simp
theorem at_row_held'{v:Value}{t:TypeId}{xs:List α}{H':List bV}(hH:fD H (E.row v t xs) H')(h:At β n Γ (E.held v xs::H') F K):At β n Γ H F K:=fun a w S f s k=>by
 have s2:=s.perm hH.perm;have hok:w.ownsRow 0 t E.size v xs.length (E.all xs):=s2.ok _ (List.mem_cons_self ..);refine h a w S f (s2.recast' (fun b hb=>?_) ?_) k
 ·cases xs with
  | nil=>cases hb
  | cons x r=>exact hb
 ·rcases hok.2 with ⟨e,e0⟩ | ⟨g,cap,cur,e,_,hg,hnc,hcm,hcs,ht⟩
  ·have:xs=[]:=List.eq_nil_of_length_eq_zero e0;subst this;exact⟨none,0,e,.inl rfl⟩
  ·subst e
   cases xs with
   | nil=>exact⟨_,cap,rfl,.inl rfl⟩
   | cons x r=>
    refine⟨_,cap,rfl,.inr ⟨g,0,cur,t,(0,0),rfl,hg,fun j u hj=>⟨?_,?_⟩⟩⟩
    ·rw [Nat.zero_add];rw [←ht,List.getElem?_take] at hj;split at hj
     ·exact hj
     ·cases hj
    ·simp
theorem qW{v:Value}{xs:List α}{H':List bV}(hH:fD H (E.held v xs) H')(h:At β n Γ H' (E.sl v xs::F) K):At β n Γ H F K:=fun a w S f s k=>by
 have s2:=s.perm hH.perm;have hok:(E.held v xs).ok w:=s2.ok _ (List.mem_cons_self ..);have hsep:=List.pairwise_cons.1 s2.sep;have hown:=s2.own _ (List.mem_cons_self ..);have hmono:All F (fun b=>S b∨(E.held v xs).blk=some b) w:=All.mono (fun _ h=> .inl h) (fun _ _=>rfl) k;refine h a w (fun b=>S b∨(E.held v xs).blk=some b) f ⟨s2.kept,fun c hc=>s2.ok c (List.mem_cons_of_mem _ hc),fun c hc b hb=>?_,hsep.2,fun b hb=>?_⟩ (All.cons (tT hok fun b hb=> .inr hb) hmono)
 ·obtain⟨h1,h2,h3⟩:=s2.own c (List.mem_cons_of_mem _ hc) b hb;refine⟨h1,h2,fun h=>?_⟩
  rcases h with h | h
  ·exact h3 h
  ·exact hsep.1 c hc b h hb
 ·rcases hb with hb | hb
  ·exact s2.zone b hb
  ·obtain⟨h1,h2,_⟩:=hown b hb;exact⟨h1,.inr h2⟩
theorem mG{b:Nat}{cs:List Value}{t:TypeId}{L:List bV}{G:List bP}(h:wZ L G):wZ (.obj b (.cells cs.toArray t)::L) (bP.cells b 0 cs::G):=fun S w hok hS=>
 All.cons ⟨hS _ (List.mem_cons_self ..) b rfl,fun j u hj=>by
  have h0:w.heap[b]?=some (.cells cs.toArray t):=hok _ (List.mem_cons_self ..);unfold World.cell?;rw [h0]
  simpa using hj⟩ (h S w (fun c hc=>hok c (List.mem_cons_of_mem _ hc)) fun c hc=>hS c (List.mem_cons_of_mem _ hc))
theorem run_arrFrom(hT:fA P T){t e m sz k:Nat}{ei:TI}(ht:T.get t=some ⟨.array m e,sz⟩)(he:T.get e=some ei){b off:Nat}(hk:k≤m)(kk:IntKind)(w:World):
  (Instr.sliceAt t (.pointer (some ⟨b,off,none⟩)) (some (.int kk (k:Nat))) none none).run P w= .ok (.slice (some ⟨b,if m=k then off else off+k*ei.size,none⟩) (m-k) (m-k)) w:=by
 have ha:(⟨b,off,none⟩:Addr).add (k*ei.size)=⟨b,off+k*ei.size,none⟩:=Addr.add_mid _ _ _;unfold Instr.sliceAt;rw [Sem.run_bind,hT.array ht,Result.andThen_ok]
 have h1:(Instr.sliceBound (.int kk (k:Nat)) m .sliceB).run P w= .ok k w:=by
  rw [run_sliceBound w kk (k:Int) m .sliceB (by omega) (by omega),Int.toNat_natCast]
 simp only [Instr.sureAddr,Instr.sliceBounds,Sem.run_bind,Sem.run_pure,Result.andThen_ok,Option.isSome_none,Bool.false_eq_true,if_false,h1,hT.size he,ha]
 by_cases e0:m=k
 ·rw [if_pos e0,if_pos e0]
 ·rw [if_neg e0,if_neg e0]
theorem sti_arrFrom(hT:fA P T){o:Oper}{t e m sz k b off:Nat}{ei:TI}{x i:Operand}{kk:IntKind}{z:Int}(ho:o.op= .slice t x (some i) none none)(hx:Γ.ev x=some (.pointer (some ⟨b,off,none⟩)))(hi:Γ.ev i=some (.int kk z))
  (ht:T.get t=some ⟨.array m e,sz⟩) (he:T.get e=some ei) (hz:z=(k:Nat)) (hk:k≤m):Sti P β n Γ H F o (.slice (some ⟨b,if m=k then off else off+k*ei.size,none⟩) (m-k) (m-k)):=fun a w S f s hF=>by
 subst hz;unfold execOp;simp only [ho,f.ev hx,Option.map_some,Option.map_none,f.ev hi];rw [Sem.run_bind,run_arrFrom hT ht he hk];rfl
theorem run_arrTo(hT:fA P T){t e m sz k:Nat}{ei:TI}(ht:T.get t=some ⟨.array m e,sz⟩)(he:T.get e=some ei){b off:Nat}(hk:k≤m)(kk:IntKind)(w:World):
  (Instr.sliceAt t (.pointer (some ⟨b,off,none⟩)) none (some (.int kk (k:Nat))) none).run P w= .ok (.slice (some ⟨b,off,none⟩) k m) w:=by
 have ha:(⟨b,off,none⟩:Addr).add (0*ei.size)=⟨b,off,none⟩:=by
  have h0:(⟨b,off,none⟩:Addr).add (0*ei.size)=⟨b,off+0*ei.size,none⟩:=Addr.add_mid _ _ _;rw [h0,Nat.zero_mul,Nat.add_zero]
 unfold Instr.sliceAt;rw [Sem.run_bind,hT.array ht,Result.andThen_ok]
 have h1:(Instr.sliceBound (.int kk (k:Nat)) m .sliceAlen).run P w= .ok k w:=by
  rw [run_sliceBound w kk (k:Int) m .sliceAlen (by omega) (by omega),Int.toNat_natCast]
 simp only [Instr.sureAddr,Instr.sliceBounds,Sem.run_bind,Sem.run_pure,Result.andThen_ok,Bool.false_eq_true,if_false,h1,hT.size he,ha,Nat.sub_zero,ite_self]
theorem sti_arrTo(hT:fA P T){o:Oper}{t e m sz k b off:Nat}{ei:TI}{x i:Operand}{kk:IntKind}{z:Int}(ho:o.op= .slice t x none (some i) none)(hx:Γ.ev x=some (.pointer (some ⟨b,off,none⟩)))(hi:Γ.ev i=some (.int kk z))
  (ht:T.get t=some ⟨.array m e,sz⟩) (he:T.get e=some ei) (hz:z=(k:Nat)) (hk:k≤m):Sti P β n Γ H F o (.slice (some ⟨b,off,none⟩) k m):=fun a w S f s hF=>by
 subst hz;unfold execOp;simp only [ho,f.ev hx,Option.map_some,Option.map_none,f.ev hi];rw [Sem.run_bind,run_arrTo hT ht he hk];rfl
end
theorem mono_zero:(Tryz.prog.info? 45).bind (·.zero)=some (.agg #[.int .i64 0,.int .u8 0,.int .u8 0,.int .u8 0,.int .u8 0,.int .u8 0,.int .u8 0]):=by kernel_rfl
def EI (m:Mono):List Int:=[m.e0.toNat,m.e1.toNat,m.e2.toNat,m.e3.toNat,m.e4.toNat,m.e5.toNat]
def u8I:Flat Int where
 size:=1
 cells:=fun x=>[.int .u8 x]
 len:=fun _=>rfl
 one:=fun x u hu=>by simp at hu;subst hu;rfl
 pos:=by decide
theorem clamp_le(vars:Int):clampK vars≤6:=by unfold clampK;omega
theorem clamp_eq(vars:Int):(if (6:Int)<(if (0:Int)>vars then 0 else vars) then 6 else (if (0:Int)>vars then 0 else vars))=((clampK vars:Nat):Int):=by
 unfold clampK;split<;>split<;>omega
theorem bAl(m:Mono)(vars:Int):((EI m).drop (clampK vars)).length=6-clampK vars:=by
 rw [List.length_drop];rfl
theorem bCm{β:fQ}{H H':List bV}{F:List bP}{b:Nat}{t:TypeId}{m:Mono}{k:Nat}(hH:fD H (.obj b (.cells m.cells.toArray t)) H'):cB β H F u8I (some ⟨b,if 6=k then 1 else 1+k*1,none⟩) ((EI m).drop k):=fun w S s hF j x hx=>by
 refine⟨⟨b,_,rfl⟩,fun q u hq=>?_⟩;have hj:=(List.getElem?_eq_some_iff.1 hx).1;rw [List.length_drop] at hj;have hj:j<6-k:=hj;rw [List.getElem?_drop] at hx
 have h0:=mH (β:=β) (F:=F) (off:=0) hH w S s hF (1+k+j) (.int .u8 x) (by
  show m.cells[1+k+j]?=_;have e:m.cells= .int .i64 m.n::(EI m).map (fun z=>Value.int .u8 z):=rfl;rw [e,show 1+k+j=(k+j)+1 by omega,List.getElem?_cons_succ,List.getElem?_map,hx]
  rfl)
 have hq0:q=0:=by
  have:=(List.getElem?_eq_some_iff.1 hq).1;simp [u8I] at this;exact this
 subst hq0;cases hq;show w.cell? ⟨b,(if 6=k then 1 else 1+k*1)+j*1+0,none⟩=_;rw [if_neg (by omega)];rw [show 1+k*1+j*1+0=0+(1+k+j) by omega];exact h0
def okM (k:Nat)(m:Mono):Bool:=(m.E.drop k).all (fun e=>e==0)
theorem okM_eq(k:Nat)(m:Mono):okM k m=((EI m).drop k).all (fun e=>e==0):=by
 have e:EI m=m.E.map fun e=>((e.toNat:Nat):Int):=rfl;unfold okM;rw [e,←List.map_drop,List.all_map]
 congr 1
 funext u
 rw [Bool.eq_iff_iff];simp [←UInt8.toNat_inj]
theorem iT{α:Type}{p:α→Bool}{l:List α}{i:Nat}{x:α}(h:(l.take i).all p=true)(hx:l[i]?=some x)(k:p x=true):(l.take (i+1)).all p=true:=by
 obtain⟨hi,e⟩:=List.getElem?_eq_some_iff.1 hx;rw [List.take_succ_eq_append_getElem hi,e,List.all_append,h];simp [k]
theorem mU{α:Type}{p:α→Bool}{l:List α}{i:Nat}(h:(l.take i).all p=true)(hi:l.length≤i):l.all p=true:=by
 rwa [List.take_of_length_le hi] at h
theorem nL{α:Type}{p:α→Bool}{l:List α}{i:Nat}{x:α}(hx:l[i]?=some x)(k:p x=false):l.all p=false:=List.all_eq_false.2 ⟨x,List.mem_of_getElem? hx,by simp [k]⟩
theorem okM_end{k j:Nat}{m:Mono}(h:(((EI m).drop k).take j).all (fun e=>e==0)=true)(hj:((EI m).drop k).length≤j):okM k m=true:=by
 rw [okM_eq];exact mU h hj
theorem okM_bad{k j:Nat}{m:Mono}{e:Int}(hx:((EI m).drop k)[j]?=some e)(h:e≠0):okM k m=false:=by
 rw [okM_eq];exact nL hx (by simp [h])
theorem ei_ge{k j:Nat}{m:Mono}{e:Int}(hx:((EI m).drop k)[j]?=some e):0≤e:=by
 have:=List.mem_of_mem_drop (List.mem_of_getElem? hx);simp [EI] at this;omega
theorem le_zero{e:Int}(h:e≤0)(k:0≤e):e=0:=by omega
theorem of_bad{p:List Mono}{vars:Int}{i:Nat}{m:Mono}(hx:p[i]?=some m)(h:okM (clampK vars) m=false):Value.bool false= .bool (ofB p vars):=by
 unfold ofB;rw [show p.all (fun m=>(m.E.drop (clampK vars)).all (fun e=>e==0))=false from nL hx h];rfl
theorem of_end{p:List Mono}{vars:Int}(h:p.all (okM (clampK vars))=true):Value.bool (iC p)= .bool (ofB p vars):=by
 unfold ofB;rw [show p.all (fun m=>(m.E.drop (clampK vars)).all (fun e=>e==0))=true from h];rfl
theorem uL{l:List (List Mono)}{vars:Int}{i:Nat}{p:List Mono}(hx:l[i]?=some p)(h:(ofB p vars&&iU p)=false):Value.bool false= .bool (fS l vars):=by
 unfold fS;rw [nL hx h];rfl
theorem grow_end{l:List PolV}{vars:Int}(h:(cY l).all (fun p=>ofB p vars&&iU p)=true):Value.bool (decide ((l.length:Int)≤4))= .bool (fS (cY l) vars):=by
 unfold fS;rw [h,cN,Bool.true_and]
 congr 1
 rw [decide_eq_decide];omega
set_option maxRecDepth 100000 in
theorem of_spec(p:PolV)(vars:Int):dM Tryz.prog 107 [.slice p.addr p.list.length p.cap,.int .i64 vars] [] [mB p] (fun(_:Unit)=> .bool (ofB p.list vars)) (fun _=>[]) (fun _=>[]):=by
 have hT:=dZ;refine cJ Tryz.func107 rfl Tryz.ntmps107 rfl ?_;intro β hM;refine bF<|bX (iV (Has.of mT0)) fun hp=>?_;refine bL (jG.sl (.slice p.addr p.list.length p.cap) p.list) (fW (Has.of mT0)) ?_;refine bE<|sp hT ?_;refine nn<|bF<|sr<|sp3 hT ?_;refine nn<|bR<|cI (ι:=Nat) [(0,_),(1,_),(9,_),(10,_)] ⟨rfl,rfl,rfl,rfl,trivial⟩ (fun i=>[(11,.int .i64 (i:Nat))]) (fun _=>[]) (fun i=>[bP.pure (i≤p.list.length∧(p.list.take i).all (okM (clampK vars))=true)]) (fun i=>p.list.length-i) 0 ⟨rfl,trivial⟩ .nil ⟨Has.pure (⟨by omega,rfl⟩),trivial⟩ ?_;rintro i;refine bX (Has.of mT0) fun hinv2=>?_;refine sr<|sp hT ?_;refine nn<|bF<|bO rfl (fun hc12=>?_) (fun hc12=>?_)
 ·have hc12:=of_decide_eq_true hc12;refine bN<|bD<|bF<|bR<|sr ?_
  obtain⟨x1,hx2⟩: ∃x',p.list[i]?=some x':=⟨_,List.getElem?_eq_getElem (by omega)⟩
  refine ss (bM hT (k:=i) (bB (Has.of mT1)) rfl rfl rfl rfl rfl rfl rfl (by omega)) ?_;refine ss (cV hT (cB.knows (bB (Has.of mT1)) (k:=i) (x:=x1) hx2 0) rfl rfl rfl rfl rfl) ?_;refine dB rfl rfl rfl rfl mono_zero rfl fun b3=>?_;refine sto hT .head ?_;refine nn<|sr<|sp4 hT ?_;refine bW (z':=((clampK vars:Nat):Int)) (clamp_eq vars) ?_;have hcl:=clamp_le vars;refine ss (sti_arrFrom hT (k:=clampK vars) rfl rfl rfl rfl rfl rfl (clamp_le vars)) ?_;refine sp hT ?_;refine bW (z':=(((6-clampK vars):Nat):Int)) (rfl) ?_;refine sp hT ?_;refine nn<|bR<|cI (ι:=Nat) [(0,_),(1,_),(9,_),(10,_),(11,_),(19,_),(20,_)] ⟨rfl,rfl,rfl,rfl,rfl,rfl,rfl,trivial⟩ (fun j=>[(21,.int .i64 (j:Nat))]) (fun _=>[]) (fun j=>[bP.pure (j≤6-clampK vars∧(((EI x1).drop (clampK vars)).take j).all (fun e=>e==0)=true)]) (fun j=>6-clampK vars-j) 0 ⟨rfl,trivial⟩ .nil ⟨Has.pure (⟨by omega,rfl⟩),trivial⟩ ?_;rintro j;refine bX (Has.of mT0) fun hinv5=>?_;refine sr<|sp hT ?_;refine nn<|bF<|bO rfl (fun hc22=>?_) (fun hc22=>?_)
  ·have hc22:=of_decide_eq_true hc22;refine bN<|bD<|bF<|bR<|sr ?_
   obtain⟨x4,hx5⟩: ∃x',((EI x1).drop (clampK vars))[j]?=some x':=⟨_,List.getElem?_eq_getElem (by rw [bAl];omega)⟩
   refine ss (bM hT (k:=j) (bCm .head) rfl rfl rfl rfl rfl (bAl x1 vars).symm rfl (by rw [bAl];omega)) ?_;refine ss (bS hT (cB.knows (bCm .head) (k:=j) (x:=x4) hx5 0) rfl rfl rfl rfl rfl) ?_;refine sp hT ?_;refine nn<|sr<|sp2 hT ?_;refine nn<|bO rfl (fun hc26=>?_) (fun hc26=>?_)
   ·have hc26:=of_decide_eq_true hc26;refine sr<|sp hT ?_;refine nn<|bK<|bQ<|bJ<|bJ<|bQ<|bQ<|bJ<|bJ<|bQ<|bJ ?_;exact bI () rfl (bH rfl) .nil trivial (of_bad hx2 (okM_bad hx5 (by omega)))
   have hc26:=Int.not_lt.1 (of_decide_eq_false hc26);refine bN<|bZ<|bD<|bE<|sp hT ?_;refine bW (z':=(((j+1):Nat):Int)) (cH (by omega) (by omega)) ?_;refine sp hT ?_;refine nn ?_;exact bU (j+1) (by omega) ⟨rfl,trivial⟩ ⟨rfl,rfl,rfl,rfl,rfl,rfl,rfl,trivial⟩ (.cons .head .nil) ⟨Has.pure (⟨by omega,iT hinv5.2 hx5 (beq_iff_eq.2 (le_zero ‹_› (ei_ge hx5)))⟩),trivial⟩ (bG.drop 1)
  have hc22:=Int.not_lt.1 (of_decide_eq_false hc22);refine cE<|bY<|bY<|cF<|bZ<|bD<|bE<|sp hT ?_;refine bW (z':=(((i+1):Nat):Int)) (cH (by omega) (by omega)) ?_;refine sp hT ?_;refine nn ?_;exact bU (i+1) (by omega) ⟨rfl,trivial⟩ ⟨rfl,rfl,rfl,rfl,trivial⟩ .nil ⟨Has.pure (⟨by omega,iT hinv2.2 hx2 (okM_end hinv5.2 (by rw [bAl];omega))⟩),trivial⟩ (bG.drop 2)
 have hc12:=Int.not_lt.1 (of_decide_eq_false hc12);refine cE<|bY<|bY<|cF<|bD<|sr<|sp hT ?_;refine cO Tryz.func61 (polR_spec p hp) rfl rfl .nil ⟨(Has.of mT2),trivial⟩ fun _=>?_;refine sp hT ?_;refine nn<|bK ?_;exact bI () rfl (bH rfl) .nil trivial (of_end (mU hinv2.2 (by omega)))
set_option maxRecDepth 100000 in
theorem bBh(l:Sl PolV)(vars:Int):dM Tryz.prog 52 [.slice l.addr l.list.length l.cap,.int .i64 vars] [] [nI l] (fun(_:Unit)=> .bool (fS (cY l.list) vars)) (fun _=>[]) (fun _=>[]):=by
 have hT:=dZ;refine cJ Tryz.func52 rfl Tryz.ntmps52 rfl ?_;intro β hM;refine bF<|bX (sM (Has.of mT0)) fun hlz=>?_;have hlz2:=hlz.2;refine bL (fX.sl (.slice l.addr l.list.length l.cap) l.list) (gS (Has.of mT0)) ?_;refine bE<|sp hT ?_;refine nn<|bF<|sr<|sp3 hT ?_;refine nn<|bR<|cI (ι:=Nat) [(0,_),(1,_),(7,_),(8,_)] ⟨rfl,rfl,rfl,rfl,trivial⟩ (fun i=>[(9,.int .i64 (i:Nat))]) (fun _=>[]) (fun i=>[bP.pure (i≤l.list.length∧((cY l.list).take i).all (fun p=>ofB p vars&&iU p)=true)]) (fun i=>l.list.length-i) 0 ⟨rfl,trivial⟩ .nil ⟨Has.pure (⟨by omega,rfl⟩),trivial⟩ ?_;rintro i;refine bX (Has.of mT0) fun hinv2=>?_;refine sr<|sp hT ?_;refine nn<|bF<|bO rfl (fun hc10=>?_) (fun hc10=>?_)
 ·have hc10:=of_decide_eq_true hc10;refine bN<|bD<|bF<|bR<|sr ?_
  obtain⟨x1,hx2⟩: ∃x',l.list[i]?=some x':=⟨_,List.getElem?_eq_getElem (by omega)⟩
  refine ss (bM hT (k:=i) (bB (Has.of mT1)) rfl rfl rfl rfl rfl rfl rfl (by omega)) ?_;refine ss (bS hT (cB.knows (bB (Has.of mT1)) (k:=i) (x:=x1) hx2 0) rfl rfl rfl rfl rfl) ?_;refine sp hT ?_;refine nn<|bF<|bL (mB x1) (Has.each (iP (Has.of mT2)) (List.mem_of_getElem? hx2)) ?_;refine bX (iV (Has.of mT0)) fun hpx1=>?_;refine bE<|sp2 hT ?_;refine cO Tryz.func107 (of_spec x1 vars) rfl rfl .nil ⟨(Has.of mT0),trivial⟩ fun _=>?_;refine sp2 hT ?_;refine bT (fun hg17=>?_) (fun hg17=>?_)
  ·have hg17:=gN hg17;refine sk3 ?_;refine sp hT ?_;refine nn<|cD rfl rfl ?_;refine sr<|sp hT ?_;refine nn<|bK<|bQ<|bJ<|bJ<|bQ<|bJ ?_;exact bI () rfl (bH rfl) .nil trivial (uL (gK hx2) (by simp_all))
  have hg17:=gL hg17;refine sp hT ?_;refine cO Tryz.func108 (bAm x1 hpx1) rfl rfl .nil ⟨(Has.of mT0),trivial⟩ fun _=>?_;refine sp2 hT ?_;refine nn<|bO rfl (fun hc21=>?_) (fun hc21=>?_)
  ·have hc21:=gN hc21;refine sr<|sp hT ?_;refine nn<|bK<|bQ<|bJ<|bJ<|bQ<|bJ ?_;exact bI () rfl (bH rfl) .nil trivial (uL (gK hx2) (by simp_all))
  have hc21:=gL hc21;refine bN<|bZ<|bD<|bE<|sp hT ?_;refine bW (z':=(((i+1):Nat):Int)) (cH (by omega) (by omega)) ?_;refine sp hT ?_;refine nn ?_;exact bU (i+1) (by omega) ⟨rfl,trivial⟩ ⟨rfl,rfl,rfl,rfl,trivial⟩ .nil ⟨Has.pure (⟨by omega,iT hinv2.2 (gK hx2) (by simp_all)⟩),trivial⟩ (bG.drop 2)
 have hc10:=Int.not_lt.1 (of_decide_eq_false hc10);refine cE<|bY<|bY<|cF<|bD<|sr<|sp4 hT ?_;refine nn<|bK ?_;exact bI () rfl (bH rfl) .nil trivial (grow_end (mU hinv2.2 (by rw [cN];omega)))
end Go.Proofs.YtofjmphlpdhohaaGreatDoor
