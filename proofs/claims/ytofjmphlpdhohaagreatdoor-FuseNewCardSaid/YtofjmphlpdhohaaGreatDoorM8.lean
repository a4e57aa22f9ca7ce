/- Texts of one proof, one behind the other: Cut, CorF, TysR, CoW, Arrs, CoX. -/
import Derived.Test.YtofjmphlpdhohaaGreatDoorM4
import Derived.Laws.Slices
import Derived.Test.YtofjmphlpdhohaaGreatDoorM7
namespace Go.Proofs.YtofjmphlpdhohaaGreatDoor
open Go.RowKit
section
variable {P : Program} {β : gD} {n : Nat} {Γ : Env} {H : List bZ} {F : List bN} {Q : Exit → Act → World → Prop} {K : Act → World → Prop} {T : Tab} {α : Type} {E : Flat α}
theorem zM{t e:Nat}(hu:P.underlying t=some (.slice e)):P.elem t=e:=by simp [Program.elem,hu]
theorem bDm(hT:fO P T){t e sz:Nat}{ei:TI}(ht:T.get t=some ⟨.slice e,sz⟩)(he:T.get e=some ei){A:Option Addr}{l c k:Nat}(hk:k≤c)(kk:IntKind)(w:World):(Instr.sliceAt t (.slice A l c) none (some (.int kk (k:Nat))) none).run P w= .ok (.slice A k c) w:=by
 obtain⟨d,hu,hd⟩:=hT.any ht;cases d<;>simp [TD.of] at hd
 subst hd;have hel:=zM hu;rw [run_sliceAt_slice w t _ _ _ _ (by rw [hel];exact hu),run_slice_h w t A l c (by rw [hel];exact hu) kk (k:Int) (by omega) (by omega),hel,hT.size he];simp only [Result.andThen_ok,sliced,Int.toNat_natCast,Nat.zero_mul,Nat.sub_zero]
 congr 2
 split
 ·rfl
 ·cases A<;>simp [Addr.add]
theorem run_cutFrom(hT:fO P T){t e sz:Nat}{ei:TI}(ht:T.get t=some ⟨.slice e,sz⟩)(he:T.get e=some ei){A:Option Addr}{l c k:Nat}(hk:k≤l)(kk:IntKind)(w:World):(Instr.sliceAt t (.slice A l c) (some (.int kk (k:Nat))) none none).run P w= .ok (.slice (kN A k ei.size c) (l-k) (c-k)) w:=by
 obtain⟨d,hu,hd⟩:=hT.any ht;cases d<;>simp [TD.of] at hd
 subst hd;have hel:=zM hu;rw [run_sliceAt_slice w t _ _ _ _ (by rw [hel];exact hu),run_slice_l w t A l c (by rw [hel];exact hu) kk (k:Int) (by omega) (by omega),hel,hT.size he];simp only [Result.andThen_ok,sliced,Int.toNat_natCast,kN]
theorem at_trunc{ops:Array Oper}{rest:List Oper}{o:Oper}(hT:fO P T){d t e sz k m cap:Nat}{ei:TI}{x i:Operand}{kk:IntKind}{z:Int}{A:Option Addr}{xs:List α}{H':List bZ}(hH:fT H (E.row (.slice A m cap) e xs) H')(hw:want ops Γ o=some true)(ho:o.op= .slice t x none (some i) none)(hd:o.dst=some d)(hn:Nat.blt d n=true)
  (hx:Γ.ev x=some (.slice A m cap)) (hi:Γ.ev i=some (.int kk z)) (ht:T.get t=some ⟨.slice e,sz⟩) (he:T.get e=some ei) (hz:z=(k:Nat)) (hk:k≤xs.length)
  (K:At β n ((d,.slice A (xs.take k).length cap)::Γ) (E.row (.slice A (xs.take k).length cap) e (xs.take k)::H') F (wpList P ops Q rest)):At β n Γ H F (wpList P ops Q (o::rest)):=
 iN hw fun a w S f s hF=>by
  subst hz;have hown:w.ownsRow 0 e E.size (.slice A m cap) xs.length (E.all xs):=s.ok _ hH.mem
  have hkc:k≤cap∧(xs.take k).length=k∧w.ownsRow 0 e E.size (.slice A (xs.take k).length cap) (xs.take k).length (E.all (xs.take k)):=by
   have hl:(xs.take k).length=k:=by simp;omega
   have hall:E.all (xs.take k)=(E.all xs).take (k*E.size):=by
    have:=E.all_append (xs.take k) (xs.drop k);rw [List.take_append_drop] at this;rw [this,List.take_left' (by rw [E.all_length,hl])]
   rcases hown.2 with ⟨e1,e0⟩ | ⟨g,cap',cur,e1,h1,h2,h3,h4,h5,h6⟩
   ·injection e1 with e1 e2 e3
    subst e1 e3;have:xs=[]:=List.eq_nil_of_length_eq_zero e0;subst this;have hk0:k=0:=by simpa using hk
    subst hk0;exact⟨Nat.le_refl _,hl,⟨by simp [Flat.all],.inl ⟨rfl,rfl⟩⟩⟩
   ·injection e1 with e1 e2 e3
    subst e1 e3;refine⟨by omega,hl,⟨by rw [E.all_length],.inr ⟨g,cap,cur,rfl,h1,h2,by omega,h4,h5,?_⟩⟩⟩;rw [hall,hl,←h6,List.take_take]
    congr 1
    exact(Nat.min_eq_left (Nat.mul_le_mul_right _ hk)).symm
  have hr:(execOp a.eval o).run P w= .ok (.value (.slice A (xs.take k).length cap)) w:=by
   unfold execOp;simp only [ho,f.ev hx,Option.map_some,Option.map_none,f.ev hi];rw [Sem.run_bind,bDm hT ht he hkc.1,hkc.2.1];rfl
  unfold Oper.wp;rw [hr,Oper.upon_value,hd];have s2:=s.perm hH.perm;have s3:=s2.swap_row (v':= .slice A (xs.take k).length cap) (w':=w) (mL.refl _ _) (.inl (by cases A<;>rfl)) hkc.2.2;exact K _ _ S (f.put (by simpa [Nat.blt_eq] using hn) _) s3 hF
theorem Has.cons{f g:bN}{F:List bN}(h:Has F g):Has (f::F) g:=fun S w k=>h S w fun x hx=>k x (List.mem_cons_of_mem _ hx)
theorem Has.each_nil{α:Type}{g:α→bN}{F:List bN}:Has F (bN.each [] g):=fun _ _ _ x hx=>by simp at hx
theorem Has.each_cons{α:Type}{g:α→bN}{F:List bN}{x:α}{l:List α}(hx:Has F (g x))(hl:Has F (bN.each l g)):Has F (bN.each (x::l) g):=fun S w k y hy=>by
 rcases List.mem_cons.1 hy with rfl | hy
 ·exact hx S w k
 ·exact hl S w k y hy
theorem Has.each_tail{α:Type}{g:α→bN}{F:List bN}{x:α}{l:List α}(h:Has F (bN.each (x::l) g)):Has F (bN.each l g):=fun S w k y hy=>h S w k y (List.mem_cons_of_mem _ hy)
theorem Has.each_head{α:Type}{g:α→bN}{F:List bN}{x:α}{l:List α}(h:Has F (bN.each (x::l) g)):Has F (g x):=fun S w k=>h S w k x (List.mem_cons_self ..)
theorem Has.each_snoc{α:Type}{g:α→bN}{F:List bN}{x:α}{l:List α}(hl:Has F (bN.each l g))(hx:Has F (g x)):Has F (bN.each (l++[x]) g):=fun S w k y hy=>by
 rcases List.mem_append.1 hy with hy | hy
 ·exact hl S w k y hy
 ·rw [List.mem_singleton.1 hy];exact hx S w k
theorem lD(hT:fO P T){o:Oper}{t e sz k l cap:Nat}{ei:TI}{x i:Operand}{kk:IntKind}{z:Int}{A:Option Addr}(ho:o.op= .slice t x none (some i) none)(hx:Γ.ev x=some (.slice A l cap))(hi:Γ.ev i=some (.int kk z))
  (ht:T.get t=some ⟨.slice e,sz⟩) (he:T.get e=some ei) (hz:z=(k:Nat)) (hk:k≤cap):Sti P β n Γ H F o (.slice A k cap):=fun a w S f s hF=>by
 subst hz;unfold execOp;simp only [ho,f.ev hx,Option.map_some,Option.map_none,f.ev hi];rw [Sem.run_bind,bDm hT ht he hk];rfl
theorem jW(hT:fO P T){o:Oper}{t e sz k l cap:Nat}{ei:TI}{x i:Operand}{kk:IntKind}{z:Int}{A:Option Addr}(ho:o.op= .slice t x (some i) none none)(hx:Γ.ev x=some (.slice A l cap))(hi:Γ.ev i=some (.int kk z))
  (ht:T.get t=some ⟨.slice e,sz⟩) (he:T.get e=some ei) (hz:z=(k:Nat)) (hk:k≤l):Sti P β n Γ H F o (.slice (kN A k ei.size cap) (l-k) (cap-k)):=fun a w S f s hF=>by
 subst hz;unfold execOp;simp only [ho,f.ev hx,Option.map_some,Option.map_none,f.ev hi];rw [Sem.run_bind,run_cutFrom hT ht he hk];rfl
theorem mP{A:Option Addr}{l c k:Nat}{xs:List α}(h:Has F (E.sl (.slice A l c) xs))(hk:k≤xs.length):Has F (E.sl (.slice A k c) (xs.take k)):=fun S w q=>by
 obtain⟨A',c',e,h⟩:=h S w q;injection e with e1 e2 e3
 subst e1 e3;refine⟨A,c,by rw [List.length_take,Nat.min_eq_left hk],fun j x hj=>?_⟩;rw [List.getElem?_take] at hj;split at hj
 ·exact h j x hj
 ·cases hj
theorem nS{A:Option Addr}{l c k:Nat}{xs:List α}(h:Has F (E.sl (.slice A l c) xs))(hc:l≤c)(hk:k≤xs.length):Has F (E.sl (.slice (kN A k E.size c) (l-k) (c-k)) (xs.drop k)):=fun S w q=>by
 obtain⟨A',c',e,h⟩:=h S w q;injection e with e1 e2 e3
 subst e1 e3;refine⟨kN A k E.size c,c-k,by rw [List.length_drop,e2],fun j x hj=>?_⟩;rw [List.getElem?_drop] at hj;obtain⟨b,o,cs,q1,q2,q3,q4⟩:=h _ x hj;have hlt:=(List.getElem?_eq_some_iff.1 hj).1;refine⟨b,o+k*E.size,cs,?_,q2,fun i u hi=>?_,q4⟩
 ·unfold kN;rw [if_neg (by omega),q1];show some ((⟨b,o,none⟩:Addr).add (k*E.size))=_;rw [Addr.add_mid]
 ·have:=q3 i u hi
  have e:o+k*E.size+j*(Enc.flat E.size E.cells).size+i=o+(k+j)*(Enc.flat E.size E.cells).size+i:=by
   show o+k*E.size+j*E.size+i=o+(k+j)*E.size+i;rw [Nat.add_mul];omega
  rw [e];exact this
theorem gB{A:Option Addr}{t:TypeId}{m cap:Nat}{xs:List α}{H':List bZ}(hH:fT H (E.row (.slice A m cap) t xs) H')(h:xs.length≤cap→At β n Γ H F K):At β n Γ H F K:=fun a w S f s k=>by
 have hown:w.ownsRow 0 t E.size (.slice A m cap) xs.length (E.all xs):=s.ok _ hH.mem;refine h ?_ a w S f s k
 rcases hown.2 with ⟨_,e0⟩ | ⟨g,cap',cur,e1,h1,h2,h3,_⟩
 ·omega
 ·injection e1 with e1 e2 e3
  subst e3;omega
end
theorem fK:Tryz.prog.follows .mixedOrders=true:=by kernel_rfl
def zH (a b:Mono):Bool:=a.eqB b
theorem vS{β:gD}{n:Nat}{Γ:Env}{H:List bZ}{F:List bN}{o:Oper}{a b:Operand}{tt:TypeId}(x y:Mono)(ho:o.op= .binOp .neq 45 a b tt)(hx:Γ.ev a=some (.agg #[.int .i64 x.n,.int .u8 x.e0.toNat,.int .u8 x.e1.toNat,.int .u8 x.e2.toNat,.int .u8 x.e3.toNat,.int .u8 x.e4.toNat,.int .u8 x.e5.toNat]))(hy:Γ.ev b=some (.agg #[.int .i64 y.n,.int .u8 y.e0.toNat,.int .u8 y.e1.toNat,.int .u8 y.e2.toNat,.int .u8 y.e3.toNat,.int .u8 y.e4.toNat,.int .u8 y.e5.toNat])):Sti Tryz.prog β n Γ H F o (.bool (!zH x y)):=fun c w S f s k=>by
 have hq:Tryz.prog.eqGuardType Tryz.prog.depth 45=false:=by kernel_rfl
 have hg:(eqGuard .neq 45 a b (.agg #[.int .i64 x.n,.int .u8 x.e0.toNat,.int .u8 x.e1.toNat,.int .u8 x.e2.toNat,.int .u8 x.e3.toNat,.int .u8 x.e4.toNat,.int .u8 x.e5.toNat]) (.agg #[.int .i64 y.n,.int .u8 y.e0.toNat,.int .u8 y.e1.toNat,.int .u8 y.e2.toNat,.int .u8 y.e3.toNat,.int .u8 y.e4.toNat,.int .u8 y.e5.toNat])).run Tryz.prog w= .ok () w:=by
  unfold eqGuard;have hp:(program:Sem Program).run Tryz.prog w= .ok Tryz.prog w:=rfl;simp [hp,hq]
 unfold execOp;simp only [ho,f.ev hx,f.ev hy];rw [Sem.run_bind,Sem.run_bind,hg,Result.andThen_ok,run_neq_mono];rfl
theorem mono_eq{x y:Mono}:zH x y=true↔x=y:=Mono.eqB_iff x y
theorem mono_t{x y:Mono}(h:(!zH x y)=true):x≠y:=fun e=>by
 rw [mono_eq.2 e] at h;cases h
theorem mono_f{x y:Mono}(h:(!zH x y)=false):x=y:=mono_eq.1 (by simpa using h)
def dF (l:List PolV):List (List Mono):=l.map (·.list)
theorem cP(l:List PolV):(dF l).length=l.length:=List.length_map _
theorem gX{l:List PolV}{i:Nat}{p:PolV}(h:l[i]?=some p):(dF l)[i]?=some p.list:=by
 unfold dF;rw [List.getElem?_map,h];rfl
def OpV.c (o:OpV):OpC:=⟨o.how,o.k,o.n,o.p.list,o.fn⟩
def dY (l:List OpV):List OpC:=l.map OpV.c
def fS.c (b:fS):BufC:=⟨dF b.sides.list,b.input⟩
def cN.c (s:cN):StepC:=⟨s.how,s.buf,s.at_.list,dF s.loops.list,s.fn,dY s.ops.list⟩
def iJ (l:List cN):List StepC:=l.map cN.c
def jH (l:List fS):List BufC:=l.map fS.c
def CoreV.c(c:CoreV):fL:=⟨c.vars,jH c.bufs.list,iJ c.steps.list,c.outs.list⟩
theorem cW(l:List OpV):(dY l).length=l.length:=List.length_map _
theorem cY(l:List cN):(iJ l).length=l.length:=List.length_map _
theorem dB(l:List fS):(jH l).length=l.length:=List.length_map _
theorem gN{l:List OpV}{i:Nat}{x:OpV}(h:l[i]?=some x):(dY l)[i]?=some x.c:=by
 unfold dY;rw [List.getElem?_map,h];rfl
theorem cM{l:List cN}{i:Nat}{x:cN}(h:l[i]?=some x):(iJ l)[i]?=some x.c:=by
 unfold iJ;rw [List.getElem?_map,h];rfl
theorem fI{l:List fS}{i:Nat}{x:fS}(h:l[i]?=some x):(jH l)[i]?=some x.c:=by
 unfold jH;rw [List.getElem?_map,h];rfl
theorem lH{α:Type} [DecidableEq α]{a b:List α}(h:a≠b):Value.bool false= .bool (decide (a=b)):=by simp [h]
theorem xD{α:Type} [DecidableEq α]{a b:List α}(h:a=b):Value.bool true= .bool (decide (a=b)):=by simp [h]
theorem nil_pol{α:Type}{E:Flat α}{F:List bN}:Has F (E.sl (.slice none 0 0) []):=fun _ _ _=>⟨none,0,rfl,fun k x hk=>by simp at hk⟩
def gP (l:List PolV):bN:=bN.each l lW
theorem fU{F:List bN}{p:PolV}(h:Has F (lW p)):Has F (iB.sl (.slice p.addr p.list.length p.cap) p.list):=h.left
theorem iU{F:List bN}{p:PolV}(h:Has F (lW p)):Has F (bN.pure (p.list.length≤8796093022208)):=h.right
theorem jU{F:List bN}{p:PolV}(h:Has F (lW p)):Has F (bN.pure (p.list.length≤140737488355328)):=fun S w k=>Nat.le_trans (iU h S w k) (by decide)
theorem polF_nil: ∀{F:List bN},Has F (lW ⟨none,0,[]⟩):=Has.and nil_pol (Has.pure (by decide))
def uL {α:Type}(b:Nat)(l:Sl α):bN:=bN.pure (l.list.length≤l.cap∧l.list.length*b≤140737488355328)
def nR (l:Sl PolV):bN:=((fN.sl (.slice l.addr l.list.length l.cap) l.list).and (gP l.list)).and (uL 24 l)
def opF (x:OpV):bN:=lW x.p
def opsF (l:Sl OpV):bN:=((opE.sl (.slice l.addr l.list.length l.cap) l.list).and (bN.each l.list opF)).and (uL 56 l)
def dQ (x:cN):bN:=(lW x.at_).and ((nR x.loops).and (opsF x.ops))
def xY (l:Sl cN):bN:=((fW.sl (.slice l.addr l.list.length l.cap) l.list).and (bN.each l.list dQ)).and (uL 96 l)
def lJ (x:fS):bN:=nR x.sides
def bDb (l:Sl fS):bN:=((kO.sl (.slice l.addr l.list.length l.cap) l.list).and (bN.each l.list lJ)).and (uL 32 l)
def sI (l:Sl Int):bN:=(iK.sl (.slice l.addr l.list.length l.cap) l.list).and (uL 8 l)
def iE (c:CoreV):bN:=(bDb c.bufs).and ((xY c.steps).and (sI c.outs))
section
variable {F : List bN} {c : CoreV} {s : cN} {l : Sl PolV} {ol : Sl OpV} {bl : Sl fS} {xl : Sl cN} {il : Sl Int}
theorem hZ(h:Has F (iE c)):Has F (bDb c.bufs):=h.left
theorem fB(h:Has F (iE c)):Has F (xY c.steps):=h.right.left
theorem mY(h:Has F (iE c)):Has F (sI c.outs):=h.right.right
theorem jK(h:Has F (dQ s)):Has F (lW s.at_):=h.left
theorem dW(h:Has F (dQ s)):Has F (nR s.loops):=h.right.left
theorem dD(h:Has F (dQ s)):Has F (opsF s.ops):=h.right.right
theorem gE(h:Has F (nR l)):Has F (fN.sl (.slice l.addr l.list.length l.cap) l.list):=h.left.left
theorem iF(h:Has F (nR l)):Has F (gP l.list):=h.left.right
theorem pX(h:Has F (nR l)):Has F (uL 24 l):=h.right
theorem jM(h:Has F (opsF ol)):Has F (opE.sl (.slice ol.addr ol.list.length ol.cap) ol.list):=h.left.left
theorem kU(h:Has F (opsF ol)):Has F (bN.each ol.list opF):=h.left.right
theorem lX(h:Has F (opsF ol)):Has F (uL 56 ol):=h.right
theorem jR(h:Has F (xY xl)):Has F (fW.sl (.slice xl.addr xl.list.length xl.cap) xl.list):=h.left.left
theorem gW(h:Has F (xY xl)):Has F (bN.each xl.list dQ):=h.left.right
theorem bAi(h:Has F (xY xl)):Has F (uL 96 xl):=h.right
theorem nL(h:Has F (bDb bl)):Has F (kO.sl (.slice bl.addr bl.list.length bl.cap) bl.list):=h.left.left
theorem oJ(h:Has F (bDb bl)):Has F (bN.each bl.list lJ):=h.left.right
theorem bufsF_c(h:Has F (bDb bl)):Has F (uL 32 bl):=h.right
theorem oL(h:Has F (sI il)):Has F (iK.sl (.slice il.addr il.list.length il.cap) il.list):=h.left
theorem outsF_c(h:Has F (sI il)):Has F (uL 8 il):=h.right
end
end Go.Proofs.YtofjmphlpdhohaaGreatDoor
namespace Go.Proofs.YtofjmphlpdhohaaGreatDoor
open Go.RowKit Go.ChangeShapes Go.WideShapes
section
variable {α H : Type} {enc : TypeId × Value → H} {P : Program} {w : World} {t e : TypeId}
def Ty.slicec(T:Ty α)(b:Nat):Ty (Sl α):=⟨slE α,fun s=>((T.slice b).deep s).and (bN.pure (s.list.length≤s.cap))⟩
theorem oP{deep:Sl α→bN}(hu:P.underlying t=some (.slice e))(he:pF enc P w t (slE α).cells deep):pF enc P w t (slE α).cells (fun s=>(deep s).and (bN.pure (s.list.length≤s.cap))):=fun fuel cs x h hw=>by
 obtain⟨a,e0,d⟩:=he fuel cs x h hw;refine⟨a,e0,d,?_⟩;have e0':cs=[.slice a.addr a.list.length a.cap]:=e0;show a.list.length≤a.cap
 rcases Deep.open_slice hu h with ⟨e1,_⟩ | ⟨a',len,cap,m,n,D,Pl,e1,_,hl,_⟩
 ·rw [e0'] at e1;simp only [List.cons.injEq,and_true,Value.slice.injEq] at e1;omega
 ·rw [e0'] at e1;simp only [List.cons.injEq,and_true,Value.slice.injEq] at e1;omega
end
set_option maxRecDepth 100000
section
variable {H : Type} {enc : TypeId × Value → H} {w : World}
theorem u8_of{n:Int}(h:(Lit.int .u8 n).wf=true): ∃e:UInt8,n=(e.toNat:Int):=by
 have h':0≤n∧n≤255:=bounds_u8 h;refine⟨UInt8.ofNat n.toNat,?_⟩;rw [UInt8.toNat_ofNat'];omega
theorem read_mono{fuel:Nat}{cs:List Value}{x:DataW H×List MemPlace}(h:DataW.trod enc Tryz.prog w 0 (fun _=>true) true fuel 45 cs=some x): ∃m:Mono,cs=m.cells∧(Lit.int .i64 m.n).wf=true:=by
 obtain⟨xs,n,_,_,hlen,hxl,hf⟩:=DataW.trod_struct Tryz.underlying45 h;have hc39:Tryz.prog.cellsOf 45=7:=by kernel_rfl
 have hc2:Tryz.prog.cellsOf 2=1:=by kernel_rfl
 have hc37:Tryz.prog.cellsOf 43=6:=by kernel_rfl
 have hc5:Tryz.prog.cellsOf 5=1:=by kernel_rfl
 rw [hc39] at hlen;have hxl':xs.length=2:=hxl
 match cs,hlen with
 | [a,b0,b1,b2,b3,b4,b5],_=>
  have h0:DataW.trod enc Tryz.prog w 0 (fun _=>true) true n 2 (([a,b0,b1,b2,b3,b4,b5].drop 0).take (Tryz.prog.cellsOf 2))=xs[0]?:=hf 0 _ rfl;have h1:DataW.trod enc Tryz.prog w 0 (fun _=>true) true n 43 (([a,b0,b1,b2,b3,b4,b5].drop 1).take (Tryz.prog.cellsOf 43))=xs[1]?:=hf 1 _ rfl;rw [hc2,List.getElem?_eq_getElem (by omega)] at h0;rw [hc37,List.getElem?_eq_getElem (by omega)] at h1;obtain⟨nn,e0,_,hw⟩:=DataW.trod_int Tryz.underlying2 h0;obtain⟨ys,n',_,_,_,hyl,hg⟩:=DataW.trod_array Tryz.underlying43 h1
  have g: ∀i,i<6→ ∃e:UInt8,(([b0,b1,b2,b3,b4,b5]:List Value).drop i).take 1=[.int .u8 (e.toNat:Int)]:=fun i hi=>by
   have h2:=hg i hi;rw [hc5,Nat.mul_one,List.getElem?_eq_getElem (by omega)] at h2;obtain⟨k,e1,_,hw1⟩:=DataW.trod_int Tryz.underlying5 h2;obtain⟨e,rfl⟩:=u8_of hw1;exact⟨e,e1⟩
  obtain⟨e0',g0⟩:=g 0 (by omega);obtain⟨e1',g1⟩:=g 1 (by omega);obtain⟨e2',g2⟩:=g 2 (by omega);obtain⟨e3',g3⟩:=g 3 (by omega);obtain⟨e4',g4⟩:=g 4 (by omega);obtain⟨e5',g5⟩:=g 5 (by omega);simp at e0 g0 g1 g2 g3 g4 g5;subst e0 g0 g1 g2 g3 g4 g5;exact⟨⟨nn,e0',e1',e2',e3',e4',e5'⟩,rfl,hw⟩
end
def mQ:Ty Mono:=⟨iB,fun m=>bN.pure ((Lit.int .i64 m.n).wf=true)⟩
theorem rG{H:Type}{enc:TypeId×Value→H}{w:World}:pF enc Tryz.prog w 45 mQ.E.cells mQ.deep:=fun fuel cs x h _=>by
 obtain⟨m,e,hw⟩:=read_mono h;exact⟨m,e,hw⟩
instance : Inhabited Mono := ⟨⟨0, 0, 0, 0, 0, 0, 0⟩⟩
def opTy:Ty OpV:=⟨opE,fun x=>(bN.pure ((Lit.int .i64 x.how).wf=true)).and ((bN.pure ((Lit.int .i64 x.k).wf=true)).and ((bN.pure ((Lit.int .i64 x.n).wf=true)).and ((((mQ.slice 16)).deep x.p).and ((bN.pure ((Lit.int .u8 x.fn).wf=true)).and (bN.true)))))⟩
set_option maxRecDepth 100000 in
theorem opens_op{H:Type}{enc:TypeId×Value→H}{w:World}:pF enc Tryz.prog w 42 opE.cells opTy.deep:=fun fuel cs x h hw=>by
 obtain⟨xs,n,_,rfl,hlen,hxl,hf⟩:=DataW.trod_struct Tryz.underlying42 h;have hc:Tryz.prog.cellsOf 42=5:=by kernel_rfl
 rw [hc] at hlen;have hxl':xs.length=5:=hxl
 match cs,hlen with
 | [c0,c1,c2,c3,c4],_=>
  have h0:DataW.trod enc Tryz.prog w 0 (fun _=>true) true n 3 (([c0,c1,c2,c3,c4].drop 0).take (Tryz.prog.cellsOf 3))=xs[0]?:=hf 0 _ rfl;have h1:DataW.trod enc Tryz.prog w 0 (fun _=>true) true n 3 (([c0,c1,c2,c3,c4].drop 1).take (Tryz.prog.cellsOf 3))=xs[1]?:=hf 1 _ rfl;have h2:DataW.trod enc Tryz.prog w 0 (fun _=>true) true n 2 (([c0,c1,c2,c3,c4].drop 2).take (Tryz.prog.cellsOf 2))=xs[2]?:=hf 2 _ rfl;have h3:DataW.trod enc Tryz.prog w 0 (fun _=>true) true n 35 (([c0,c1,c2,c3,c4].drop 3).take (Tryz.prog.cellsOf 35))=xs[3]?:=hf 3 _ rfl;have h4:DataW.trod enc Tryz.prog w 0 (fun _=>true) true n 37 (([c0,c1,c2,c3,c4].drop 4).take (Tryz.prog.cellsOf 37))=xs[4]?:=hf 4 _ rfl;rw [List.getElem?_eq_getElem (by omega)] at h0;obtain⟨a0,e0,d0⟩:=(kF Tryz.underlying3) _ _ _ h0 (dN Tryz.underlying42 hw (j:=0) rfl (by rw [List.getElem?_map,List.getElem?_eq_getElem (by omega)];rfl))
  have q0:[c0]=[.int .i64 a0]:=by
   have hk:Tryz.prog.cellsOf 3=1:=by kernel_rfl
   rw [hk] at e0;exact e0
  clear e0;simp only [List.cons.injEq,and_true] at q0;rw [List.getElem?_eq_getElem (by omega)] at h1;obtain⟨a1,e1,d1⟩:=(kF Tryz.underlying3) _ _ _ h1 (dN Tryz.underlying42 hw (j:=1) rfl (by rw [List.getElem?_map,List.getElem?_eq_getElem (by omega)];rfl))
  have q1:[c1]=[.int .i64 a1]:=by
   have hk:Tryz.prog.cellsOf 3=1:=by kernel_rfl
   rw [hk] at e1;exact e1
  clear e1;simp only [List.cons.injEq,and_true] at q1;rw [List.getElem?_eq_getElem (by omega)] at h2;obtain⟨a2,e2,d2⟩:=(kF Tryz.underlying2) _ _ _ h2 (dN Tryz.underlying42 hw (j:=2) rfl (by rw [List.getElem?_map,List.getElem?_eq_getElem (by omega)];rfl))
  have q2:[c2]=[.int .i64 a2]:=by
   have hk:Tryz.prog.cellsOf 2=1:=by kernel_rfl
   rw [hk] at e2;exact e2
  clear e2;simp only [List.cons.injEq,and_true] at q2;rw [List.getElem?_eq_getElem (by omega)] at h3;obtain⟨a3,e3,d3⟩:=(hY (T:=mQ) (b:=16) Tryz.underlying35 (by kernel_rfl) (by kernel_rfl) rG) _ _ _ h3 (dN Tryz.underlying42 hw (j:=3) rfl (by rw [List.getElem?_map,List.getElem?_eq_getElem (by omega)];rfl))
  have q3:[c3]=[.slice a3.addr a3.list.length a3.cap]:=by
   have hk:Tryz.prog.cellsOf 35=1:=by kernel_rfl
   rw [hk] at e3;exact e3
  clear e3;simp only [List.cons.injEq,and_true] at q3;rw [List.getElem?_eq_getElem (by omega)] at h4;obtain⟨a4,e4,d4⟩:=(kF Tryz.underlying37) _ _ _ h4 (dN Tryz.underlying42 hw (j:=4) rfl (by rw [List.getElem?_map,List.getElem?_eq_getElem (by omega)];rfl))
  have q4:[c4]=[.int .u8 a4]:=by
   have hk:Tryz.prog.cellsOf 37=1:=by kernel_rfl
   rw [hk] at e4;exact e4
  clear e4;simp only [List.cons.injEq,and_true] at q4;obtain rfl:=q0;obtain rfl:=q1;obtain rfl:=q2;obtain rfl:=q3;obtain rfl:=q4;exact⟨⟨a0,a1,a2,a3,a4⟩,rfl,d0,d1,d2,d3,d4,trivial⟩
def bufTy:Ty fS:=⟨kO,fun x=>((((mQ.slice 16).slicec 24)).deep x.sides).and ((bN.pure ((Lit.int .i64 x.input).wf=true)).and (bN.true))⟩
set_option maxRecDepth 100000 in
theorem opens_buf{H:Type}{enc:TypeId×Value→H}{w:World}:pF enc Tryz.prog w 47 kO.cells bufTy.deep:=fun fuel cs x h hw=>by
 obtain⟨xs,n,_,rfl,hlen,hxl,hf⟩:=DataW.trod_struct Tryz.underlying47 h;have hc:Tryz.prog.cellsOf 47=2:=by kernel_rfl
 rw [hc] at hlen;have hxl':xs.length=2:=hxl
 match cs,hlen with
 | [c0,c1],_=>
  have h0:DataW.trod enc Tryz.prog w 0 (fun _=>true) true n 36 (([c0,c1].drop 0).take (Tryz.prog.cellsOf 36))=xs[0]?:=hf 0 _ rfl;have h1:DataW.trod enc Tryz.prog w 0 (fun _=>true) true n 3 (([c0,c1].drop 1).take (Tryz.prog.cellsOf 3))=xs[1]?:=hf 1 _ rfl;rw [List.getElem?_eq_getElem (by omega)] at h0;obtain⟨a0,e0,d0⟩:=(oP Tryz.underlying36 (hY (T:=(mQ.slice 16)) (b:=24) Tryz.underlying36 (by kernel_rfl) (by kernel_rfl) (hY (T:=mQ) (b:=16) Tryz.underlying35 (by kernel_rfl) (by kernel_rfl) rG))) _ _ _ h0 (dN Tryz.underlying47 hw (j:=0) rfl (by rw [List.getElem?_map,List.getElem?_eq_getElem (by omega)];rfl))
  have q0:[c0]=[.slice a0.addr a0.list.length a0.cap]:=by
   have hk:Tryz.prog.cellsOf 36=1:=by kernel_rfl
   rw [hk] at e0;exact e0
  clear e0;simp only [List.cons.injEq,and_true] at q0;rw [List.getElem?_eq_getElem (by omega)] at h1;obtain⟨a1,e1,d1⟩:=(kF Tryz.underlying3) _ _ _ h1 (dN Tryz.underlying47 hw (j:=1) rfl (by rw [List.getElem?_map,List.getElem?_eq_getElem (by omega)];rfl))
  have q1:[c1]=[.int .i64 a1]:=by
   have hk:Tryz.prog.cellsOf 3=1:=by kernel_rfl
   rw [hk] at e1;exact e1
  clear e1;simp only [List.cons.injEq,and_true] at q1;obtain rfl:=q0;obtain rfl:=q1;exact⟨⟨a0,a1⟩,rfl,d0,d1,trivial⟩
def bBs:Ty cN:=⟨fW,fun x=>(bN.pure ((Lit.int .i64 x.how).wf=true)).and ((bN.pure ((Lit.int .i64 x.buf).wf=true)).and ((((mQ.slice 16)).deep x.at_).and (((((mQ.slice 16).slicec 24)).deep x.loops).and ((bN.pure ((Lit.int .u8 x.fn).wf=true)).and ((((opTy.slicec 56)).deep x.ops).and (bN.true))))))⟩
set_option maxRecDepth 100000 in
theorem opens_step{H:Type}{enc:TypeId×Value→H}{w:World}:pF enc Tryz.prog w 40 fW.cells bBs.deep:=fun fuel cs x h hw=>by
 obtain⟨xs,n,_,rfl,hlen,hxl,hf⟩:=DataW.trod_struct Tryz.underlying40 h;have hc:Tryz.prog.cellsOf 40=6:=by kernel_rfl
 rw [hc] at hlen;have hxl':xs.length=6:=hxl
 match cs,hlen with
 | [c0,c1,c2,c3,c4,c5],_=>
  have h0:DataW.trod enc Tryz.prog w 0 (fun _=>true) true n 3 (([c0,c1,c2,c3,c4,c5].drop 0).take (Tryz.prog.cellsOf 3))=xs[0]?:=hf 0 _ rfl;have h1:DataW.trod enc Tryz.prog w 0 (fun _=>true) true n 3 (([c0,c1,c2,c3,c4,c5].drop 1).take (Tryz.prog.cellsOf 3))=xs[1]?:=hf 1 _ rfl;have h2:DataW.trod enc Tryz.prog w 0 (fun _=>true) true n 35 (([c0,c1,c2,c3,c4,c5].drop 2).take (Tryz.prog.cellsOf 35))=xs[2]?:=hf 2 _ rfl;have h3:DataW.trod enc Tryz.prog w 0 (fun _=>true) true n 36 (([c0,c1,c2,c3,c4,c5].drop 3).take (Tryz.prog.cellsOf 36))=xs[3]?:=hf 3 _ rfl;have h4:DataW.trod enc Tryz.prog w 0 (fun _=>true) true n 37 (([c0,c1,c2,c3,c4,c5].drop 4).take (Tryz.prog.cellsOf 37))=xs[4]?:=hf 4 _ rfl;have h5:DataW.trod enc Tryz.prog w 0 (fun _=>true) true n 38 (([c0,c1,c2,c3,c4,c5].drop 5).take (Tryz.prog.cellsOf 38))=xs[5]?:=hf 5 _ rfl;rw [List.getElem?_eq_getElem (by omega)] at h0;obtain⟨a0,e0,d0⟩:=(kF Tryz.underlying3) _ _ _ h0 (dN Tryz.underlying40 hw (j:=0) rfl (by rw [List.getElem?_map,List.getElem?_eq_getElem (by omega)];rfl))
  have q0:[c0]=[.int .i64 a0]:=by
   have hk:Tryz.prog.cellsOf 3=1:=by kernel_rfl
   rw [hk] at e0;exact e0
  clear e0;simp only [List.cons.injEq,and_true] at q0;rw [List.getElem?_eq_getElem (by omega)] at h1;obtain⟨a1,e1,d1⟩:=(kF Tryz.underlying3) _ _ _ h1 (dN Tryz.underlying40 hw (j:=1) rfl (by rw [List.getElem?_map,List.getElem?_eq_getElem (by omega)];rfl))
  have q1:[c1]=[.int .i64 a1]:=by
   have hk:Tryz.prog.cellsOf 3=1:=by kernel_rfl
   rw [hk] at e1;exact e1
  clear e1;simp only [List.cons.injEq,and_true] at q1;rw [List.getElem?_eq_getElem (by omega)] at h2;obtain⟨a2,e2,d2⟩:=(hY (T:=mQ) (b:=16) Tryz.underlying35 (by kernel_rfl) (by kernel_rfl) rG) _ _ _ h2 (dN Tryz.underlying40 hw (j:=2) rfl (by rw [List.getElem?_map,List.getElem?_eq_getElem (by omega)];rfl))
  have q2:[c2]=[.slice a2.addr a2.list.length a2.cap]:=by
   have hk:Tryz.prog.cellsOf 35=1:=by kernel_rfl
   rw [hk] at e2;exact e2
  clear e2;simp only [List.cons.injEq,and_true] at q2;rw [List.getElem?_eq_getElem (by omega)] at h3;obtain⟨a3,e3,d3⟩:=(oP Tryz.underlying36 (hY (T:=(mQ.slice 16)) (b:=24) Tryz.underlying36 (by kernel_rfl) (by kernel_rfl) (hY (T:=mQ) (b:=16) Tryz.underlying35 (by kernel_rfl) (by kernel_rfl) rG))) _ _ _ h3 (dN Tryz.underlying40 hw (j:=3) rfl (by rw [List.getElem?_map,List.getElem?_eq_getElem (by omega)];rfl))
  have q3:[c3]=[.slice a3.addr a3.list.length a3.cap]:=by
   have hk:Tryz.prog.cellsOf 36=1:=by kernel_rfl
   rw [hk] at e3;exact e3
  clear e3;simp only [List.cons.injEq,and_true] at q3;rw [List.getElem?_eq_getElem (by omega)] at h4;obtain⟨a4,e4,d4⟩:=(kF Tryz.underlying37) _ _ _ h4 (dN Tryz.underlying40 hw (j:=4) rfl (by rw [List.getElem?_map,List.getElem?_eq_getElem (by omega)];rfl))
  have q4:[c4]=[.int .u8 a4]:=by
   have hk:Tryz.prog.cellsOf 37=1:=by kernel_rfl
   rw [hk] at e4;exact e4
  clear e4;simp only [List.cons.injEq,and_true] at q4;rw [List.getElem?_eq_getElem (by omega)] at h5;obtain⟨a5,e5,d5⟩:=(oP Tryz.underlying38 (hY (T:=opTy) (b:=56) Tryz.underlying38 (by kernel_rfl) (by kernel_rfl) opens_op)) _ _ _ h5 (dN Tryz.underlying40 hw (j:=5) rfl (by rw [List.getElem?_map,List.getElem?_eq_getElem (by omega)];rfl))
  have q5:[c5]=[.slice a5.addr a5.list.length a5.cap]:=by
   have hk:Tryz.prog.cellsOf 38=1:=by kernel_rfl
   rw [hk] at e5;exact e5
  clear e5;simp only [List.cons.injEq,and_true] at q5;obtain rfl:=q0;obtain rfl:=q1;obtain rfl:=q2;obtain rfl:=q3;obtain rfl:=q4;obtain rfl:=q5;exact⟨⟨a0,a1,a2,a3,a4,a5⟩,rfl,d0,d1,d2,d3,d4,d5,trivial⟩
def coreTy:Ty CoreV:=⟨coreE,fun x=>(bN.pure ((Lit.int .i64 x.vars).wf=true)).and ((((bufTy.slicec 32)).deep x.bufs).and ((((bBs.slicec 96)).deep x.steps).and ((((intTy.slicec 8)).deep x.outs).and (bN.true))))⟩
set_option maxRecDepth 100000 in
theorem opens_core{H:Type}{enc:TypeId×Value→H}{w:World}:pF enc Tryz.prog w 26 coreE.cells coreTy.deep:=fun fuel cs x h hw=>by
 obtain⟨xs,n,_,rfl,hlen,hxl,hf⟩:=DataW.trod_struct Tryz.underlying26 h;have hc:Tryz.prog.cellsOf 26=4:=by kernel_rfl
 rw [hc] at hlen;have hxl':xs.length=4:=hxl
 match cs,hlen with
 | [c0,c1,c2,c3],_=>
  have h0:DataW.trod enc Tryz.prog w 0 (fun _=>true) true n 3 (([c0,c1,c2,c3].drop 0).take (Tryz.prog.cellsOf 3))=xs[0]?:=hf 0 _ rfl;have h1:DataW.trod enc Tryz.prog w 0 (fun _=>true) true n 22 (([c0,c1,c2,c3].drop 1).take (Tryz.prog.cellsOf 22))=xs[1]?:=hf 1 _ rfl;have h2:DataW.trod enc Tryz.prog w 0 (fun _=>true) true n 23 (([c0,c1,c2,c3].drop 2).take (Tryz.prog.cellsOf 23))=xs[2]?:=hf 2 _ rfl;have h3:DataW.trod enc Tryz.prog w 0 (fun _=>true) true n 24 (([c0,c1,c2,c3].drop 3).take (Tryz.prog.cellsOf 24))=xs[3]?:=hf 3 _ rfl;rw [List.getElem?_eq_getElem (by omega)] at h0;obtain⟨a0,e0,d0⟩:=(kF Tryz.underlying3) _ _ _ h0 (dN Tryz.underlying26 hw (j:=0) rfl (by rw [List.getElem?_map,List.getElem?_eq_getElem (by omega)];rfl))
  have q0:[c0]=[.int .i64 a0]:=by
   have hk:Tryz.prog.cellsOf 3=1:=by kernel_rfl
   rw [hk] at e0;exact e0
  clear e0;simp only [List.cons.injEq,and_true] at q0;rw [List.getElem?_eq_getElem (by omega)] at h1;obtain⟨a1,e1,d1⟩:=(oP Tryz.underlying22 (hY (T:=bufTy) (b:=32) Tryz.underlying22 (by kernel_rfl) (by kernel_rfl) opens_buf)) _ _ _ h1 (dN Tryz.underlying26 hw (j:=1) rfl (by rw [List.getElem?_map,List.getElem?_eq_getElem (by omega)];rfl))
  have q1:[c1]=[.slice a1.addr a1.list.length a1.cap]:=by
   have hk:Tryz.prog.cellsOf 22=1:=by kernel_rfl
   rw [hk] at e1;exact e1
  clear e1;simp only [List.cons.injEq,and_true] at q1;rw [List.getElem?_eq_getElem (by omega)] at h2;obtain⟨a2,e2,d2⟩:=(oP Tryz.underlying23 (hY (T:=bBs) (b:=96) Tryz.underlying23 (by kernel_rfl) (by kernel_rfl) opens_step)) _ _ _ h2 (dN Tryz.underlying26 hw (j:=2) rfl (by rw [List.getElem?_map,List.getElem?_eq_getElem (by omega)];rfl))
  have q2:[c2]=[.slice a2.addr a2.list.length a2.cap]:=by
   have hk:Tryz.prog.cellsOf 23=1:=by kernel_rfl
   rw [hk] at e2;exact e2
  clear e2;simp only [List.cons.injEq,and_true] at q2;rw [List.getElem?_eq_getElem (by omega)] at h3;obtain⟨a3,e3,d3⟩:=(oP Tryz.underlying24 (hY (T:=intTy) (b:=8) Tryz.underlying24 (by kernel_rfl) (by kernel_rfl) (kF Tryz.underlying3))) _ _ _ h3 (dN Tryz.underlying26 hw (j:=3) rfl (by rw [List.getElem?_map,List.getElem?_eq_getElem (by omega)];rfl))
  have q3:[c3]=[.slice a3.addr a3.list.length a3.cap]:=by
   have hk:Tryz.prog.cellsOf 24=1:=by kernel_rfl
   rw [hk] at e3;exact e3
  clear e3;simp only [List.cons.injEq,and_true] at q3;obtain rfl:=q0;obtain rfl:=q1;obtain rfl:=q2;obtain rfl:=q3;exact⟨⟨a0,a1,a2,a3⟩,rfl,d0,d1,d2,d3,trivial⟩
section
variable {S : Nat → Prop} {w : World}
theorem pol_of{p:PolV}(h:((mQ.slice 16).deep p).p S w):(lW p).p S w:=by
 obtain⟨⟨c1,c2⟩,c3⟩:=h;have c3:p.list.length*16≤140737488355328:=c3;exact⟨c1,by show p.list.length≤8796093022208;omega⟩
theorem list_of{l:Sl PolV}(h:(((mQ.slice 16).slicec 24).deep l).p S w):(nR l).p S w:=by
 obtain⟨⟨⟨a1,a2⟩,a3⟩,a4⟩:=h;exact⟨⟨a1,fun p hp=>pol_of (a2 p hp)⟩,a4,a3⟩
theorem op_of{o:OpV}(h:(opTy.deep o).p S w):(opF o).p S w:=pol_of h.2.2.2.1
theorem ops_of{l:Sl OpV}(h:((opTy.slicec 56).deep l).p S w):(opsF l).p S w:=by
 obtain⟨⟨⟨a1,a2⟩,a3⟩,a4⟩:=h;exact⟨⟨a1,fun p hp=>op_of (a2 p hp)⟩,a4,a3⟩
theorem buf_of{b:fS}(h:(bufTy.deep b).p S w):(lJ b).p S w:=list_of h.1
theorem bufs_of{l:Sl fS}(h:((bufTy.slicec 32).deep l).p S w):(bDb l).p S w:=by
 obtain⟨⟨⟨a1,a2⟩,a3⟩,a4⟩:=h;exact⟨⟨a1,fun p hp=>buf_of (a2 p hp)⟩,a4,a3⟩
theorem step_of{s:cN}(h:(bBs.deep s).p S w):(dQ s).p S w:=⟨pol_of h.2.2.1,list_of h.2.2.2.1,ops_of h.2.2.2.2.2.1⟩
theorem steps_of{l:Sl cN}(h:((bBs.slicec 96).deep l).p S w):(xY l).p S w:=by
 obtain⟨⟨⟨a1,a2⟩,a3⟩,a4⟩:=h;exact⟨⟨a1,fun p hp=>step_of (a2 p hp)⟩,a4,a3⟩
theorem outs_of{l:Sl Int}(h:((intTy.slicec 8).deep l).p S w):(sI l).p S w:=by
 obtain⟨⟨⟨a1,a2⟩,a3⟩,a4⟩:=h;exact⟨a1,a4,a3⟩
theorem core_of{c:CoreV}(h:(coreTy.deep c).p S w):(iE c).p S w:=⟨bufs_of h.2.1,steps_of h.2.2.1,outs_of h.2.2.2.1⟩
end
end Go.Proofs.YtofjmphlpdhohaaGreatDoor
namespace Go.Proofs.YtofjmphlpdhohaaGreatDoor
open Go.RowKit
theorem takes_le(h:Int):dH h≤2∧ -1≤dH h:=by
 unfold dH
 repeat' split
 all_goals omega
def bBm (l:List OpV)(i:Nat)(m n r:Int):Prop:=pV ((dY l).drop i) m n=r
theorem kK{α:Type}{l:List α}{i:Nat}{x:α}(h:l[i]?=some x):l.drop i=x::l.drop (i+1):=by
 obtain⟨hi,e⟩:=List.getElem?_eq_some_iff.1 h;rw [←e];exact List.drop_eq_getElem_cons hi
section
variable {l : List OpV} {i : Nat} {m n r : Int} {x : OpV}
theorem dep_step(h:bBm l i m n r)(hx:l[i]?=some x):(dH x.how<0∨n<dH x.how→r= -1)∧(¬dH x.how<0→ ¬n<dH x.how→bBm l (i+1) (if n+(1-dH x.how)>m then n+(1-dH x.how) else m) (n+(1-dH x.how)) r):=by
 unfold bBm at*;rw [kK (gN hx),pV] at h;refine⟨fun e=>?_,fun e1 e2=>?_⟩
 ·rw [if_pos (show dH x.c.how<0∨n<dH x.c.how from e)] at h;exact h.symm
 ·rw [if_neg (show ¬(dH x.c.how<0∨n<dH x.c.how) from fun h=>h.elim e1 e2)] at h;rw [←h]
  congr 1
  show _=max m (n+(1-dH x.how));split<;>omega
theorem zG(h:bBm l i m n r)(hi:l.length≤i):(n≠1→r= -1)∧(n=1→r=m):=by
 unfold bBm at h;rw [List.drop_of_length_le (by rw [cW];exact hi),pV] at h;exact⟨fun e=>by rw [if_neg e] at h;exact h.symm,fun e=>by rw [if_pos e] at h;exact h.symm⟩
end
section
variable {f : Int} {two : Bool}
theorem oG(h:f<1∨17<f):Value.bool false= .bool (gF f two):=by
 unfold gF;rw [if_pos h]
theorem wtk_b(h3:f=16):Value.bool (!two)= .bool (gF f two):=by
 unfold gF;rw [if_neg (by omega),if_pos h3]
theorem wtk_c(h1:1≤f)(h2:f≤17)(h3:f≠16)(h:two=true):Value.bool true= .bool (gF f two):=by
 unfold gF;rw [if_neg (by omega),if_neg h3,h,Bool.true_or]
theorem wtk_d(h1:1≤f)(h2:f≤17)(h3:f≠16)(h:two=false):Value.bool (decide (f≤7))= .bool (gF f two):=by
 unfold gF;rw [if_neg (by omega),if_neg h3,h,Bool.false_or]
end
theorem uZ:(Tryz.prog.info? 42).bind (·.zero)=some (.agg #[.int .i64 0,.int .i64 0,.int .i64 0,.slice none 0 0,.int .u8 0]):=by kernel_rfl
set_option maxRecDepth 100000 in
theorem takes_spec(o:OpV):dT Tryz.prog 168 [.agg #[.int .i64 o.how,.int .i64 o.k,.int .i64 o.n,.slice o.p.addr o.p.list.length o.p.cap,.int .u8 o.fn]] [] [] (fun(_:Unit)=> .int .i64 (dH o.how)) (fun _=>[]) (fun _=>[]):=by
 have hT:=fM;refine cQ Tryz.func168 rfl Tryz.ntmps168 rfl ?_;intro β hM;refine sr<|gL rfl rfl rfl rfl rfl rfl fun b1=>?_;refine sp hT ?_;refine nn<|bE<|sr<|sp hT ?_;refine ss (ldO hT (dK .head)) ?_;refine nn<|bR<|bE<|sr<|sp2 hT ?_;refine nn<|bP rfl (fun hc5=>?_) (fun hc5=>?_)
 ·have hc5_r:=hc5;have hc5:=eq_of_beq hc5;refine bQ<|bD<|cK rfl hc5_r ?_;refine sr<|sp hT ?_;refine nn<|bL<|bS<|bK ?_;exact bJ () rfl (bI rfl) .nil trivial (by simp [dH, *])
 have hc5_r:=hc5;have hc5:=beq_eq_false_iff_ne.1 hc5;refine sr<|sp2 hT ?_;refine nn<|bP rfl (fun hc5_2=>?_) (fun hc5_2=>?_)
 ·have hc5_2_r:=hc5_2;have hc5_2:=eq_of_beq hc5_2;refine bQ<|bD<|cK rfl hc5_2_r ?_;refine sr<|sp hT ?_;refine nn<|bL<|bS<|bK ?_;exact bJ () rfl (bI rfl) .nil trivial (by simp [dH, *])
 have hc5_2_r:=hc5_2;have hc5_2:=beq_eq_false_iff_ne.1 hc5_2;refine bC<|sp2 hT ?_;refine nn<|bP rfl (fun hc5_3=>?_) (fun hc5_3=>?_)
 ·have hc5_3_r:=hc5_3;have hc5_3:=eq_of_beq hc5_3;refine sr<|sp hT ?_;refine nn<|bL<|bS<|bK ?_;exact bJ () rfl (bI rfl) .nil trivial (by simp [dH, *])
 have hc5_3_r:=hc5_3;have hc5_3:=beq_eq_false_iff_ne.1 hc5_3;refine bE<|sr<|sp2 hT ?_;refine nn<|bP rfl (fun hc9=>?_) (fun hc9=>?_)
 ·have hc9_r:=hc9;have hc9:=eq_of_beq hc9;refine bQ<|bD<|cK rfl hc9_r ?_;refine sr<|sp hT ?_;refine nn<|bL<|bS<|bK ?_;exact bJ () rfl (bI rfl) .nil trivial (by simp [dH, *])
 have hc9_r:=hc9;have hc9:=beq_eq_false_iff_ne.1 hc9;refine bC<|sp2 hT ?_;refine nn<|bP rfl (fun hc9_4=>?_) (fun hc9_4=>?_)
 ·have hc9_4_r:=hc9_4;have hc9_4:=eq_of_beq hc9_4;refine sr<|sp hT ?_;refine nn<|bL<|bS<|bK ?_;exact bJ () rfl (bI rfl) .nil trivial (by simp [dH, *])
 have hc9_4_r:=hc9_4;have hc9_4:=beq_eq_false_iff_ne.1 hc9_4;refine sr<|sp2 hT ?_;refine nn<|bP rfl (fun hc12=>?_) (fun hc12=>?_)
 ·have hc12_r:=hc12;have hc12:=eq_of_beq hc12;refine sr<|sp hT ?_;refine nn<|bL<|bS<|bK ?_;exact bJ () rfl (bI rfl) .nil trivial (by simp [dH, *])
 have hc12_r:=hc12;have hc12:=beq_eq_false_iff_ne.1 hc12;refine bQ<|cA<|bD<|sr<|sp hT ?_;refine nn<|bL ?_;exact bJ () rfl (bI rfl) .nil trivial (by simp [dH, *])
set_option maxRecDepth 100000 in
theorem Depth_spec(A:Option Addr)(c:Nat)(l:List OpV)(hl:l.length≤140737488355328):dT Tryz.prog 109 [.slice A l.length c] [] [opE.sl (.slice A l.length c) l,bN.each l opF] (fun(_:Unit)=> .int .i64 (kH (dY l))) (fun _=>[]) (fun _=>[]):=by
 have hT:=fM;generalize hR:kH (dY l)=r;refine cQ Tryz.func109 rfl Tryz.ntmps109 rfl ?_;intro β hM;refine sr<|sp hT ?_;refine nn<|sr<|sp2 hT ?_;refine nn<|bE<|sr<|sp3 hT ?_;refine nn<|bR<|cG (ι:=Nat×Int×Int) [(8,_),(9,_)] ⟨rfl,rfl,trivial⟩ (fun⟨i,m,n⟩=>[(3,.int .i64 m),(4,.int .i64 n),(10,.int .i64 (i:Nat))]) (fun _=>[]) (fun⟨i,m,n⟩=>[bN.pure (i≤l.length∧bBm l i m n r∧0≤n∧n≤i)]) (fun⟨i,m,n⟩=>l.length-i) (0,0,0) ⟨rfl,rfl,rfl,trivial⟩ .nil ⟨Has.pure (⟨by omega,hR,by omega,by omega⟩),trivial⟩ ?_;rintro⟨i,m,n⟩;dsimp only;refine bT (Has.of mT0) fun hinv3=>?_;refine sr<|sp hT ?_;refine nn<|bE<|bP rfl (fun hc11=>?_) (fun hc11=>?_)
 ·have hc11:=of_decide_eq_true hc11;refine bQ<|bD<|bE<|bR<|sr ?_
  obtain⟨x1,hx2⟩: ∃x',l[i]?=some x':=⟨_,List.getElem?_eq_getElem (by omega)⟩
  refine ss (bM hT (k:=i) (bB (Has.of mT1)) rfl rfl rfl rfl rfl rfl rfl (by omega)) ?_;refine ss (cO hT (cB.knows (bB (Has.of mT1)) (k:=i) (x:=x1) hx2 0) rfl rfl rfl rfl rfl) ?_;refine cV rfl rfl rfl rfl uZ rfl fun b3=>?_;refine sto hT .head ?_;refine nn<|bE ?_;have htk:=takes_le x1.how
  have hd0:=(dep_step hinv3.2.1 hx2)
  refine bC<|ss (ldN hT (dK .head)) ?_;refine cR Tryz.func168 (takes_spec x1) rfl rfl .nil trivial fun _=>?_;refine sp hT ?_;refine nn<|bE<|sr<|sp3 hT ?_;refine bV (fun hg18=>?_) (fun hg18=>?_)
  ·have hg18:=of_decide_eq_true hg18;refine sk3 ?_;refine sp hT ?_;refine nn<|cK rfl rfl ?_;refine sr<|sp hT ?_;refine nn<|bL<|bK<|bS<|bK<|bK<|bS<|bK ?_;have hr:=hd0.1 (by omega);subst hr;exact bJ () rfl (bI rfl) .nil trivial rfl
  have hg18:=Int.not_lt.1 (of_decide_eq_false hg18);refine sp4 hT ?_;refine nn<|bP rfl (fun hc22=>?_) (fun hc22=>?_)
  ·have hc22:=of_decide_eq_true hc22;refine sr<|sp hT ?_;refine nn<|bL<|bK<|bS<|bK<|bK<|bS<|bK ?_;have hr:=hd0.1 (by omega);subst hr;exact bJ () rfl (bI rfl) .nil trivial rfl
  have hc22:=Int.not_lt.1 (of_decide_eq_false hc22);refine bQ<|bD<|sr<|sp3 hT ?_;refine bW (vX (by omega) (by omega)) ?_;refine sp hT ?_;refine bW (vX (by omega) (by omega)) ?_;refine sp hT ?_;refine nn<|bC<|sp4 hT ?_;refine cS<|cA<|bD<|bC<|sp hT ?_;refine bW (z':=(((i+1):Nat):Int)) (cH (by omega) (by omega)) ?_;refine sp hT ?_;refine nn ?_;exact bU (i+1,_,_) (by dsimp only;omega) ⟨rfl,rfl,rfl,trivial⟩ ⟨rfl,rfl,trivial⟩ .nil ⟨Has.pure (⟨by dsimp only;omega,hd0.2 (by omega) (by omega),by dsimp only;omega,by dsimp only;omega⟩),trivial⟩ (bF.drop 1)
 have hc11:=Int.not_lt.1 (of_decide_eq_false hc11);refine cE<|bX<|bX<|cF<|bD<|bE<|sr<|sp2 hT ?_;refine nn<|bP rfl (fun hc32=>?_) (fun hc32=>?_)
 ·have hc32:=bne_iff_ne.1 hc32;refine sr<|sp hT ?_;refine nn<|bL<|bK ?_;have hr:=(zG hinv3.2.1 (by omega)).1 ‹_›;subst hr;exact bJ () rfl (bI rfl) .nil trivial rfl
 have hc32:=bne_eq_false_iff_eq.1 hc32;refine bQ<|bD<|sr<|sp2 hT ?_;refine nn<|bL ?_;have hr:=(zG hinv3.2.1 (by omega)).2 ‹_›;subst hr;exact bJ () rfl (bI rfl) .nil trivial rfl
set_option maxRecDepth 100000 in
theorem nT(f:Int)(two:Bool):dT Tryz.prog 110 [.int .u8 f,.bool two] [] [] (fun(_:Unit)=> .bool (gF f two)) (fun _=>[]) (fun _=>[]):=by
 have hT:=fM;refine cQ Tryz.func110 rfl Tryz.ntmps110 rfl ?_;intro β hM;refine sr<|sp hT ?_;refine nn<|bE<|bR<|sr<|sp3 hT ?_;refine bV (fun hg8=>?_) (fun hg8=>?_)
 ·have hg8:=of_decide_eq_true hg8;refine sk2 ?_;refine sp2 hT ?_;refine nn<|cK rfl rfl ?_;refine sr<|sp hT ?_;refine nn<|bL<|bS<|bK ?_;exact bJ () rfl (bI rfl) .nil trivial (by first | exact oG (.inl (by omega)) | exact oG (.inr (by omega)) | exact wtk_b (by omega) | exact wtk_c (by omega) (by omega) (by omega) ‹_› | exact wtk_d (by omega) (by omega) (by omega) ‹_›)
 have hg8:=Int.not_lt.1 (of_decide_eq_false hg8);refine sp4 hT ?_;refine nn<|bP rfl (fun hc5=>?_) (fun hc5=>?_)
 ·have hc5:=of_decide_eq_true hc5;refine sr<|sp hT ?_;refine nn<|bL<|bS<|bK ?_;exact bJ () rfl (bI rfl) .nil trivial (by first | exact oG (.inl (by omega)) | exact oG (.inr (by omega)) | exact wtk_b (by omega) | exact wtk_c (by omega) (by omega) (by omega) ‹_› | exact wtk_d (by omega) (by omega) (by omega) ‹_›)
 have hc5:=Int.not_lt.1 (of_decide_eq_false hc5);refine sr<|sp3 hT ?_;refine nn<|bP rfl (fun hc12=>?_) (fun hc12=>?_)
 ·have hc12:=eq_of_beq hc12;refine sr<|sp3 hT ?_;refine nn<|bL<|bS<|bK ?_;exact bJ () rfl (bI rfl) .nil trivial (by first | exact oG (.inl (by omega)) | exact oG (.inr (by omega)) | exact wtk_b (by omega) | exact wtk_c (by omega) (by omega) (by omega) ‹_› | exact wtk_d (by omega) (by omega) (by omega) ‹_›)
 have hc12:=beq_eq_false_iff_ne.1 hc12;refine bQ<|cA<|bD<|sr<|sp2 hT ?_;refine bV (fun hg18=>?_) (fun hg18=>?_)
 ·refine sk2 ?_;refine sp2 hT ?_;refine nn<|bL ?_;exact bJ () rfl (bI rfl) .nil trivial (by first | exact oG (.inl (by omega)) | exact oG (.inr (by omega)) | exact wtk_b (by omega) | exact wtk_c (by omega) (by omega) (by omega) ‹_› | exact wtk_d (by omega) (by omega) (by omega) ‹_›)
 refine sp4 hT ?_;refine nn<|bL ?_;exact bJ () rfl (bI rfl) .nil trivial (by first | exact oG (.inl (by omega)) | exact oG (.inr (by omega)) | exact wtk_b (by omega) | exact wtk_c (by omega) (by omega) (by omega) ‹_› | exact wtk_d (by omega) (by omega) (by omega) ‹_›)
set_option maxRecDepth 100000 in
theorem yT(f:Int)(two:Bool):dT Tryz.prog 128 [.int .u8 f,.bool two] [] [] (fun(_:Unit)=> .bool (lK f two)) (fun _=>[]) (fun _=>[]):=by
 have hT:=fM;refine cQ Tryz.func128 rfl Tryz.ntmps128 rfl ?_;intro β hM;refine sr<|sp hT ?_;refine nn<|bE<|sr<|sp hT ?_;refine nn<|bR<|bE<|sr<|sp2 hT ?_;refine nn<|bP rfl (fun hc6=>?_) (fun hc6=>?_)
 ·have hc6_r:=hc6;have hc6:=eq_of_beq hc6;refine bQ<|bD<|cK rfl hc6_r ?_;refine sr<|sp hT ?_;refine nn<|bL<|bS<|bK ?_;exact bJ () rfl (bI rfl) .nil trivial (by simp [lK, *])
 have hc6_r:=hc6;have hc6:=beq_eq_false_iff_ne.1 hc6;refine sr<|sp2 hT ?_;refine nn<|bP rfl (fun hc6_1=>?_) (fun hc6_1=>?_)
 ·have hc6_1_r:=hc6_1;have hc6_1:=eq_of_beq hc6_1;refine bQ<|bD<|cK rfl hc6_1_r ?_;refine sr<|sp hT ?_;refine nn<|bL<|bS<|bK ?_;exact bJ () rfl (bI rfl) .nil trivial (by simp [lK, *])
 have hc6_1_r:=hc6_1;have hc6_1:=beq_eq_false_iff_ne.1 hc6_1;refine sr<|sp2 hT ?_;refine nn<|bP rfl (fun hc6_2=>?_) (fun hc6_2=>?_)
 ·have hc6_2_r:=hc6_2;have hc6_2:=eq_of_beq hc6_2;refine bQ<|bD<|cK rfl hc6_2_r ?_;refine sr<|sp hT ?_;refine nn<|bL<|bS<|bK ?_;exact bJ () rfl (bI rfl) .nil trivial (by simp [lK, *])
 have hc6_2_r:=hc6_2;have hc6_2:=beq_eq_false_iff_ne.1 hc6_2;refine sr<|sp2 hT ?_;refine nn<|bP rfl (fun hc6_3=>?_) (fun hc6_3=>?_)
 ·have hc6_3_r:=hc6_3;have hc6_3:=eq_of_beq hc6_3;refine bQ<|bD<|cK rfl hc6_3_r ?_;refine sr<|sp hT ?_;refine nn<|bL<|bS<|bK ?_;exact bJ () rfl (bI rfl) .nil trivial (by simp [lK, *])
 have hc6_3_r:=hc6_3;have hc6_3:=beq_eq_false_iff_ne.1 hc6_3;refine bC<|sp2 hT ?_;refine nn<|bP rfl (fun hc6_4=>?_) (fun hc6_4=>?_)
 ·have hc6_4_r:=hc6_4;have hc6_4:=eq_of_beq hc6_4;refine sr<|sp hT ?_;refine nn<|bL<|bS<|bK ?_;exact bJ () rfl (bI rfl) .nil trivial (by simp [lK, *])
 have hc6_4_r:=hc6_4;have hc6_4:=beq_eq_false_iff_ne.1 hc6_4;refine bQ<|cA<|bD<|sr<|sp2 hT ?_;refine cR Tryz.func110 (nT f two) rfl rfl .nil trivial fun _=>?_;refine sp hT ?_;refine nn<|bL ?_;exact bJ () rfl (bI rfl) .nil trivial (by simp [lK, *])
section
variable {P : Program} {β : gD} {n : Nat} {Γ : Env} {H : List bZ} {F : List bN} {K : Act → World → Prop} {T : Tab} {α : Type} {E : Flat α}
theorem St.recast'{c c':bZ}{S:gT}{w:World}(s:St β (c::H) S w)(hb: ∀b,c'.blk=some b→c.blk=some b)(ok:c'.ok w):St β (c'::H) S w:=by
 have hs:=List.pairwise_cons.1 s.sep;refine⟨s.kept,fun d hd=>?_,fun d hd b h=>?_,List.pairwise_cons.2 ⟨fun d hd b h=>hs.1 d hd b (hb b h),hs.2⟩,s.zone⟩
 ·rcases List.mem_cons.1 hd with rfl | hd
  ·exact ok
  ·exact s.ok d (List.mem_cons_of_mem _ hd)
 ·rcases List.mem_cons.1 hd with rfl | hd
  ·exact s.own c (List.mem_cons_self ..) b (hb b h)
  ·exact s.own d (List.mem_cons_of_mem _ hd) b h
theorem tF{b:Nat}{t:TypeId}{xs:List α}{H':List bZ}(hH:fT H (.obj b (.cells (E.all xs).toArray t)) H')(h:At β n Γ (E.held (.slice (some ⟨b,0,none⟩) xs.length xs.length) xs::H') F K):At β n Γ H F K:=fun a w S f s k=>by
 have s2:=s.perm hH.perm;have hok:w.heap[b]?=some (.cells (E.all xs).toArray t):=s2.ok _ (List.mem_cons_self ..);refine h a w S f (s2.recast' (fun b' hb=>?_) ?_) k
 ·cases xs with
  | nil=>cases hb
  | cons x r=>exact hb
 ·cases xs with
  | nil=>exact⟨_,_,rfl,.inl rfl⟩
  | cons x r=>
   refine⟨_,_,rfl,.inr ⟨b,0,_,t,(0,0),rfl,hok,fun j u hj=>⟨?_,?_⟩⟩⟩
   ·rw [Nat.zero_add];exact hj
   ·simp
theorem at_row_held'{v:Value}{t:TypeId}{xs:List α}{H':List bZ}(hH:fT H (E.row v t xs) H')(h:At β n Γ (E.held v xs::H') F K):At β n Γ H F K:=fun a w S f s k=>by
 have s2:=s.perm hH.perm;have hok:w.ownsRow 0 t E.size v xs.length (E.all xs):=s2.ok _ (List.mem_cons_self ..);refine h a w S f (s2.recast' (fun b hb=>?_) ?_) k
 ·cases xs with
  | nil=>cases hb
  | cons x r=>exact hb
 ·rcases hok.2 with ⟨e,e0⟩ | ⟨g,cap,cur,e,_,hg,hnc,hcm,hcs,ht⟩
  ·have:xs=[]:=List.eq_nil_of_length_eq_zero e0;subst this;exact⟨none,0,e,.inl rfl⟩
  ·subst e
   cases xs with
   | nil=>exact⟨_,cap,rfl,.inl rfl⟩
   | cons x r=>
    refine⟨_,cap,rfl,.inr ⟨g,0,cur,t,(0,0),rfl,hg,fun j u hj=>⟨?_,?_⟩⟩⟩
    ·rw [Nat.zero_add];rw [←ht,List.getElem?_take] at hj;split at hj
     ·exact hj
     ·cases hj
    ·simp
theorem sL{v:Value}{xs:List α}{H':List bZ}(hH:fT H (E.held v xs) H')(h:At β n Γ H' (E.sl v xs::F) K):At β n Γ H F K:=fun a w S f s k=>by
 have s2:=s.perm hH.perm;have hok:(E.held v xs).ok w:=s2.ok _ (List.mem_cons_self ..);have hsep:=List.pairwise_cons.1 s2.sep;have hown:=s2.own _ (List.mem_cons_self ..);have hmono:All F (fun b=>S b∨(E.held v xs).blk=some b) w:=All.mono (fun _ h=> .inl h) (fun _ _=>rfl) k;refine h a w (fun b=>S b∨(E.held v xs).blk=some b) f ⟨s2.kept,fun c hc=>s2.ok c (List.mem_cons_of_mem _ hc),fun c hc b hb=>?_,hsep.2,fun b hb=>?_⟩ (All.cons (vH hok fun b hb=> .inr hb) hmono)
 ·obtain⟨h1,h2,h3⟩:=s2.own c (List.mem_cons_of_mem _ hc) b hb;refine⟨h1,h2,fun h=>?_⟩
  rcases h with h | h
  ·exact h3 h
  ·exact hsep.1 c hc b h hb
 ·rcases hb with hb | hb
  ·exact s2.zone b hb
  ·obtain⟨h1,h2,_⟩:=hown b hb;exact⟨h1,.inr h2⟩
theorem nC{b:Nat}{cs:List Value}{t:TypeId}{L:List bZ}{G:List bN}(h:yH L G):yH (.obj b (.cells cs.toArray t)::L) (bN.cells b 0 cs::G):=fun S w hok hS=>
 All.cons ⟨hS _ (List.mem_cons_self ..) b rfl,fun j u hj=>by
  have h0:w.heap[b]?=some (.cells cs.toArray t):=hok _ (List.mem_cons_self ..);unfold World.cell?;rw [h0]
  simpa using hj⟩ (h S w (fun c hc=>hok c (List.mem_cons_of_mem _ hc)) fun c hc=>hS c (List.mem_cons_of_mem _ hc))
theorem run_arrFrom(hT:fO P T){t e m sz k:Nat}{ei:TI}(ht:T.get t=some ⟨.array m e,sz⟩)(he:T.get e=some ei){b off:Nat}(hk:k≤m)(kk:IntKind)(w:World):
  (Instr.sliceAt t (.pointer (some ⟨b,off,none⟩)) (some (.int kk (k:Nat))) none none).run P w= .ok (.slice (some ⟨b,if m=k then off else off+k*ei.size,none⟩) (m-k) (m-k)) w:=by
 have ha:(⟨b,off,none⟩:Addr).add (k*ei.size)=⟨b,off+k*ei.size,none⟩:=Addr.add_mid _ _ _;unfold Instr.sliceAt;rw [Sem.run_bind,hT.array ht,Result.andThen_ok]
 have h1:(Instr.sliceBound (.int kk (k:Nat)) m .sliceB).run P w= .ok k w:=by
  rw [run_sliceBound w kk (k:Int) m .sliceB (by omega) (by omega),Int.toNat_natCast]
 simp only [Instr.sureAddr,Instr.sliceBounds,Sem.run_bind,Sem.run_pure,Result.andThen_ok,Option.isSome_none,Bool.false_eq_true,if_false,h1,hT.size he,ha]
 by_cases e0:m=k
 ·rw [if_pos e0,if_pos e0]
 ·rw [if_neg e0,if_neg e0]
theorem sti_arrFrom(hT:fO P T){o:Oper}{t e m sz k b off:Nat}{ei:TI}{x i:Operand}{kk:IntKind}{z:Int}(ho:o.op= .slice t x (some i) none none)(hx:Γ.ev x=some (.pointer (some ⟨b,off,none⟩)))(hi:Γ.ev i=some (.int kk z))
  (ht:T.get t=some ⟨.array m e,sz⟩) (he:T.get e=some ei) (hz:z=(k:Nat)) (hk:k≤m):Sti P β n Γ H F o (.slice (some ⟨b,if m=k then off else off+k*ei.size,none⟩) (m-k) (m-k)):=fun a w S f s hF=>by
 subst hz;unfold execOp;simp only [ho,f.ev hx,Option.map_some,Option.map_none,f.ev hi];rw [Sem.run_bind,run_arrFrom hT ht he hk];rfl
theorem run_arrTo(hT:fO P T){t e m sz k:Nat}{ei:TI}(ht:T.get t=some ⟨.array m e,sz⟩)(he:T.get e=some ei){b off:Nat}(hk:k≤m)(kk:IntKind)(w:World):
  (Instr.sliceAt t (.pointer (some ⟨b,off,none⟩)) none (some (.int kk (k:Nat))) none).run P w= .ok (.slice (some ⟨b,off,none⟩) k m) w:=by
 have ha:(⟨b,off,none⟩:Addr).add (0*ei.size)=⟨b,off,none⟩:=by
  have h0:(⟨b,off,none⟩:Addr).add (0*ei.size)=⟨b,off+0*ei.size,none⟩:=Addr.add_mid _ _ _;rw [h0,Nat.zero_mul,Nat.add_zero]
 unfold Instr.sliceAt;rw [Sem.run_bind,hT.array ht,Result.andThen_ok]
 have h1:(Instr.sliceBound (.int kk (k:Nat)) m .sliceAlen).run P w= .ok k w:=by
  rw [run_sliceBound w kk (k:Int) m .sliceAlen (by omega) (by omega),Int.toNat_natCast]
 simp only [Instr.sureAddr,Instr.sliceBounds,Sem.run_bind,Sem.run_pure,Result.andThen_ok,Bool.false_eq_true,if_false,h1,hT.size he,ha,Nat.sub_zero,ite_self]
theorem sti_arrTo(hT:fO P T){o:Oper}{t e m sz k b off:Nat}{ei:TI}{x i:Operand}{kk:IntKind}{z:Int}(ho:o.op= .slice t x none (some i) none)(hx:Γ.ev x=some (.pointer (some ⟨b,off,none⟩)))(hi:Γ.ev i=some (.int kk z))
  (ht:T.get t=some ⟨.array m e,sz⟩) (he:T.get e=some ei) (hz:z=(k:Nat)) (hk:k≤m):Sti P β n Γ H F o (.slice (some ⟨b,off,none⟩) k m):=fun a w S f s hF=>by
 subst hz;unfold execOp;simp only [ho,f.ev hx,Option.map_some,Option.map_none,f.ev hi];rw [Sem.run_bind,run_arrTo hT ht he hk];rfl
end
theorem mono_zero:(Tryz.prog.info? 45).bind (·.zero)=some (.agg #[.int .i64 0,.int .u8 0,.int .u8 0,.int .u8 0,.int .u8 0,.int .u8 0,.int .u8 0]):=by kernel_rfl
def EI (m:Mono):List Int:=[m.e0.toNat,m.e1.toNat,m.e2.toNat,m.e3.toNat,m.e4.toNat,m.e5.toNat]
def u8I:Flat Int where
 size:=1
 cells:=fun x=>[.int .u8 x]
 len:=fun _=>rfl
 one:=fun x u hu=>by simp at hu;subst hu;rfl
 pos:=by decide
theorem clamp_le(vars:Int):clampK vars≤6:=by unfold clampK;omega
theorem clamp_eq(vars:Int):(if (6:Int)<(if (0:Int)>vars then 0 else vars) then 6 else (if (0:Int)>vars then 0 else vars))=((clampK vars:Nat):Int):=by
 unfold clampK;split<;>split<;>omega
theorem bAj(m:Mono)(vars:Int):((EI m).drop (clampK vars)).length=6-clampK vars:=by
 rw [List.length_drop];rfl
theorem bDl{β:gD}{H H':List bZ}{F:List bN}{b:Nat}{t:TypeId}{m:Mono}{k:Nat}(hH:fT H (.obj b (.cells m.cells.toArray t)) H'):cB β H F u8I (some ⟨b,if 6=k then 1 else 1+k*1,none⟩) ((EI m).drop k):=fun w S s hF j x hx=>by
 refine⟨⟨b,_,rfl⟩,fun q u hq=>?_⟩;have hj:=(List.getElem?_eq_some_iff.1 hx).1;rw [List.length_drop] at hj;have hj:j<6-k:=hj;rw [List.getElem?_drop] at hx
 have h0:=nG (β:=β) (F:=F) (off:=0) hH w S s hF (1+k+j) (.int .u8 x) (by
  show m.cells[1+k+j]?=_;have e:m.cells= .int .i64 m.n::(EI m).map (fun z=>Value.int .u8 z):=rfl;rw [e,show 1+k+j=(k+j)+1 by omega,List.getElem?_cons_succ,List.getElem?_map,hx]
  rfl)
 have hq0:q=0:=by
  have:=(List.getElem?_eq_some_iff.1 hq).1;simp [u8I] at this;exact this
 subst hq0;cases hq;show w.cell? ⟨b,(if 6=k then 1 else 1+k*1)+j*1+0,none⟩=_;rw [if_neg (by omega)];rw [show 1+k*1+j*1+0=0+(1+k+j) by omega];exact h0
def okM (k:Nat)(m:Mono):Bool:=(m.E.drop k).all (fun e=>e==0)
theorem okM_eq(k:Nat)(m:Mono):okM k m=((EI m).drop k).all (fun e=>e==0):=by
 have e:EI m=m.E.map fun e=>((e.toNat:Nat):Int):=rfl;unfold okM;rw [e,←List.map_drop,List.all_map]
 congr 1
 funext u
 rw [Bool.eq_iff_iff];simp [←UInt8.toNat_inj]
theorem jT{α:Type}{p:α→Bool}{l:List α}{i:Nat}{x:α}(h:(l.take i).all p=true)(hx:l[i]?=some x)(k:p x=true):(l.take (i+1)).all p=true:=by
 obtain⟨hi,e⟩:=List.getElem?_eq_some_iff.1 hx;rw [List.take_succ_eq_append_getElem hi,e,List.all_append,h];simp [k]
theorem nX{α:Type}{p:α→Bool}{l:List α}{i:Nat}(h:(l.take i).all p=true)(hi:l.length≤i):l.all p=true:=by
 rwa [List.take_of_length_le hi] at h
theorem oH{α:Type}{p:α→Bool}{l:List α}{i:Nat}{x:α}(hx:l[i]?=some x)(k:p x=false):l.all p=false:=List.all_eq_false.2 ⟨x,List.mem_of_getElem? hx,by simp [k]⟩
theorem okM_end{k j:Nat}{m:Mono}(h:(((EI m).drop k).take j).all (fun e=>e==0)=true)(hj:((EI m).drop k).length≤j):okM k m=true:=by
 rw [okM_eq];exact nX h hj
theorem okM_bad{k j:Nat}{m:Mono}{e:Int}(hx:((EI m).drop k)[j]?=some e)(h:e≠0):okM k m=false:=by
 rw [okM_eq];exact oH hx (by simp [h])
theorem ei_ge{k j:Nat}{m:Mono}{e:Int}(hx:((EI m).drop k)[j]?=some e):0≤e:=by
 have:=List.mem_of_mem_drop (List.mem_of_getElem? hx);simp [EI] at this;omega
theorem le_zero{e:Int}(h:e≤0)(k:0≤e):e=0:=by omega
theorem of_bad{p:List Mono}{vars:Int}{i:Nat}{m:Mono}(hx:p[i]?=some m)(h:okM (clampK vars) m=false):Value.bool false= .bool (ofB p vars):=by
 unfold ofB;rw [show p.all (fun m=>(m.E.drop (clampK vars)).all (fun e=>e==0))=false from oH hx h];rfl
theorem of_end{p:List Mono}{vars:Int}(h:p.all (okM (clampK vars))=true):Value.bool (iX p)= .bool (ofB p vars):=by
 unfold ofB;rw [show p.all (fun m=>(m.E.drop (clampK vars)).all (fun e=>e==0))=true from h];rfl
theorem wA{l:List (List Mono)}{vars:Int}{i:Nat}{p:List Mono}(hx:l[i]?=some p)(h:(ofB p vars&&jP p)=false):Value.bool false= .bool (gI l vars):=by
 unfold gI;rw [oH hx h];rfl
theorem grow_end{l:List PolV}{vars:Int}(h:(dF l).all (fun p=>ofB p vars&&jP p)=true):Value.bool (decide ((l.length:Int)≤4))= .bool (gI (dF l) vars):=by
 unfold gI;rw [h,cP,Bool.true_and]
 congr 1
 rw [decide_eq_decide];omega
set_option maxRecDepth 100000 in
theorem of_spec(p:PolV)(vars:Int):dT Tryz.prog 107 [.slice p.addr p.list.length p.cap,.int .i64 vars] [] [lW p] (fun(_:Unit)=> .bool (ofB p.list vars)) (fun _=>[]) (fun _=>[]):=by
 have hT:=fM;refine cQ Tryz.func107 rfl Tryz.ntmps107 rfl ?_;intro β hM;refine bE<|bT (jU (Has.of mT0)) fun hp=>?_;refine bH (iB.sl (.slice p.addr p.list.length p.cap) p.list) (fU (Has.of mT0)) ?_;refine bC<|sp hT ?_;refine nn<|bE<|sr<|sp3 hT ?_;refine nn<|bR<|cG (ι:=Nat) [(0,_),(1,_),(9,_),(10,_)] ⟨rfl,rfl,rfl,rfl,trivial⟩ (fun i=>[(11,.int .i64 (i:Nat))]) (fun _=>[]) (fun i=>[bN.pure (i≤p.list.length∧(p.list.take i).all (okM (clampK vars))=true)]) (fun i=>p.list.length-i) 0 ⟨rfl,trivial⟩ .nil ⟨Has.pure (⟨by omega,rfl⟩),trivial⟩ ?_;rintro i;refine bT (Has.of mT0) fun hinv2=>?_;refine sr<|sp hT ?_;refine nn<|bE<|bP rfl (fun hc12=>?_) (fun hc12=>?_)
 ·have hc12:=of_decide_eq_true hc12;refine bQ<|bD<|bE<|bR<|sr ?_
  obtain⟨x1,hx2⟩: ∃x',p.list[i]?=some x':=⟨_,List.getElem?_eq_getElem (by omega)⟩
  refine ss (bM hT (k:=i) (bB (Has.of mT1)) rfl rfl rfl rfl rfl rfl rfl (by omega)) ?_;refine ss (cO hT (cB.knows (bB (Has.of mT1)) (k:=i) (x:=x1) hx2 0) rfl rfl rfl rfl rfl) ?_;refine cV rfl rfl rfl rfl mono_zero rfl fun b3=>?_;refine sto hT .head ?_;refine nn<|sr<|sp4 hT ?_;refine bW (z':=((clampK vars:Nat):Int)) (clamp_eq vars) ?_;have hcl:=clamp_le vars;refine ss (sti_arrFrom hT (k:=clampK vars) rfl rfl rfl rfl rfl rfl (clamp_le vars)) ?_;refine sp hT ?_;refine bW (z':=(((6-clampK vars):Nat):Int)) (rfl) ?_;refine sp hT ?_;refine nn<|bR<|cG (ι:=Nat) [(0,_),(1,_),(9,_),(10,_),(11,_),(19,_),(20,_)] ⟨rfl,rfl,rfl,rfl,rfl,rfl,rfl,trivial⟩ (fun j=>[(21,.int .i64 (j:Nat))]) (fun _=>[]) (fun j=>[bN.pure (j≤6-clampK vars∧(((EI x1).drop (clampK vars)).take j).all (fun e=>e==0)=true)]) (fun j=>6-clampK vars-j) 0 ⟨rfl,trivial⟩ .nil ⟨Has.pure (⟨by omega,rfl⟩),trivial⟩ ?_;rintro j;refine bT (Has.of mT0) fun hinv5=>?_;refine sr<|sp hT ?_;refine nn<|bE<|bP rfl (fun hc22=>?_) (fun hc22=>?_)
  ·have hc22:=of_decide_eq_true hc22;refine bQ<|bD<|bE<|bR<|sr ?_
   obtain⟨x4,hx5⟩: ∃x',((EI x1).drop (clampK vars))[j]?=some x':=⟨_,List.getElem?_eq_getElem (by rw [bAj];omega)⟩
   refine ss (bM hT (k:=j) (bDl .head) rfl rfl rfl rfl rfl (bAj x1 vars).symm rfl (by rw [bAj];omega)) ?_;refine ss (bO hT (cB.knows (bDl .head) (k:=j) (x:=x4) hx5 0) rfl rfl rfl rfl rfl) ?_;refine sp hT ?_;refine nn<|sr<|sp2 hT ?_;refine nn<|bP rfl (fun hc26=>?_) (fun hc26=>?_)
   ·have hc26:=of_decide_eq_true hc26;refine sr<|sp hT ?_;refine nn<|bL<|bS<|bK<|bK<|bS<|bS<|bK<|bK<|bS<|bK ?_;exact bJ () rfl (bI rfl) .nil trivial (of_bad hx2 (okM_bad hx5 (by omega)))
   have hc26:=Int.not_lt.1 (of_decide_eq_false hc26);refine bQ<|cA<|bD<|bC<|sp hT ?_;refine bW (z':=(((j+1):Nat):Int)) (cH (by omega) (by omega)) ?_;refine sp hT ?_;refine nn ?_;exact bU (j+1) (by omega) ⟨rfl,trivial⟩ ⟨rfl,rfl,rfl,rfl,rfl,rfl,rfl,trivial⟩ (.cons .head .nil) ⟨Has.pure (⟨by omega,jT hinv5.2 hx5 (beq_iff_eq.2 (le_zero ‹_› (ei_ge hx5)))⟩),trivial⟩ (bF.drop 1)
  have hc22:=Int.not_lt.1 (of_decide_eq_false hc22);refine cE<|bX<|bX<|cF<|cA<|bD<|bC<|sp hT ?_;refine bW (z':=(((i+1):Nat):Int)) (cH (by omega) (by omega)) ?_;refine sp hT ?_;refine nn ?_;exact bU (i+1) (by omega) ⟨rfl,trivial⟩ ⟨rfl,rfl,rfl,rfl,trivial⟩ .nil ⟨Has.pure (⟨by omega,jT hinv2.2 hx2 (okM_end hinv5.2 (by rw [bAj];omega))⟩),trivial⟩ (bF.drop 2)
 have hc12:=Int.not_lt.1 (of_decide_eq_false hc12);refine cE<|bX<|bX<|cF<|bD<|sr<|sp hT ?_;refine cR Tryz.func61 (polR_spec p hp) rfl rfl .nil ⟨(Has.of mT2),trivial⟩ fun _=>?_;refine sp hT ?_;refine nn<|bL ?_;exact bJ () rfl (bI rfl) .nil trivial (of_end (nX hinv2.2 (by omega)))
set_option maxRecDepth 100000 in
theorem bEm(l:Sl PolV)(vars:Int):dT Tryz.prog 52 [.slice l.addr l.list.length l.cap,.int .i64 vars] [] [nR l] (fun(_:Unit)=> .bool (gI (dF l.list) vars)) (fun _=>[]) (fun _=>[]):=by
 have hT:=fM;refine cQ Tryz.func52 rfl Tryz.ntmps52 rfl ?_;intro β hM;refine bE<|bT (pX (Has.of mT0)) fun hlz=>?_;have hlz2:=hlz.2;refine bH (fN.sl (.slice l.addr l.list.length l.cap) l.list) (gE (Has.of mT0)) ?_;refine bC<|sp hT ?_;refine nn<|bE<|sr<|sp3 hT ?_;refine nn<|bR<|cG (ι:=Nat) [(0,_),(1,_),(7,_),(8,_)] ⟨rfl,rfl,rfl,rfl,trivial⟩ (fun i=>[(9,.int .i64 (i:Nat))]) (fun _=>[]) (fun i=>[bN.pure (i≤l.list.length∧((dF l.list).take i).all (fun p=>ofB p vars&&jP p)=true)]) (fun i=>l.list.length-i) 0 ⟨rfl,trivial⟩ .nil ⟨Has.pure (⟨by omega,rfl⟩),trivial⟩ ?_;rintro i;refine bT (Has.of mT0) fun hinv2=>?_;refine sr<|sp hT ?_;refine nn<|bE<|bP rfl (fun hc10=>?_) (fun hc10=>?_)
 ·have hc10:=of_decide_eq_true hc10;refine bQ<|bD<|bE<|bR<|sr ?_
  obtain⟨x1,hx2⟩: ∃x',l.list[i]?=some x':=⟨_,List.getElem?_eq_getElem (by omega)⟩
  refine ss (bM hT (k:=i) (bB (Has.of mT1)) rfl rfl rfl rfl rfl rfl rfl (by omega)) ?_;refine ss (bO hT (cB.knows (bB (Has.of mT1)) (k:=i) (x:=x1) hx2 0) rfl rfl rfl rfl rfl) ?_;refine sp hT ?_;refine nn<|bE<|bH (lW x1) (Has.each (iF (Has.of mT2)) (List.mem_of_getElem? hx2)) ?_;refine bT (jU (Has.of mT0)) fun hpx1=>?_;refine bC<|sp2 hT ?_;refine cR Tryz.func107 (of_spec x1 vars) rfl rfl .nil ⟨(Has.of mT0),trivial⟩ fun _=>?_;refine sp2 hT ?_;refine bV (fun hg17=>?_) (fun hg17=>?_)
  ·have hg17:=gV hg17;refine sk3 ?_;refine sp hT ?_;refine nn<|cK rfl rfl ?_;refine sr<|sp hT ?_;refine nn<|bL<|bS<|bK<|bK<|bS<|bK ?_;exact bJ () rfl (bI rfl) .nil trivial (wA (gX hx2) (by simp_all))
  have hg17:=gZ hg17;refine sp hT ?_;refine cR Tryz.func108 (bAs x1 hpx1) rfl rfl .nil ⟨(Has.of mT0),trivial⟩ fun _=>?_;refine sp2 hT ?_;refine nn<|bP rfl (fun hc21=>?_) (fun hc21=>?_)
  ·have hc21:=gV hc21;refine sr<|sp hT ?_;refine nn<|bL<|bS<|bK<|bK<|bS<|bK ?_;exact bJ () rfl (bI rfl) .nil trivial (wA (gX hx2) (by simp_all))
  have hc21:=gZ hc21;refine bQ<|cA<|bD<|bC<|sp hT ?_;refine bW (z':=(((i+1):Nat):Int)) (cH (by omega) (by omega)) ?_;refine sp hT ?_;refine nn ?_;exact bU (i+1) (by omega) ⟨rfl,trivial⟩ ⟨rfl,rfl,rfl,rfl,trivial⟩ .nil ⟨Has.pure (⟨by omega,jT hinv2.2 (gX hx2) (by simp_all)⟩),trivial⟩ (bF.drop 2)
 have hc10:=Int.not_lt.1 (of_decide_eq_false hc10);refine cE<|bX<|bX<|cF<|bD<|sr<|sp4 hT ?_;refine nn<|bL ?_;exact bJ () rfl (bI rfl) .nil trivial (grow_end (nX hinv2.2 (by rw [cP];omega)))
end Go.Proofs.YtofjmphlpdhohaaGreatDoor
