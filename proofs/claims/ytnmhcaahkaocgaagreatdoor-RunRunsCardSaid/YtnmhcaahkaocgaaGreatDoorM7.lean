/- Texts of one proof, one behind the other: Grows, PolyK0, TysK, CoreP, LifeP, FuseP, FuseQ, MixT, Cut, CorF, CoW, Arrs, CoX. -/
import Derived.Test.YtnmhcaahkaocgaaGreatDoorM6
import Derived.Test.YtnmhcaahkaocgaaGreatDoorM4
import Derived.Test.YtnmhcaahkaocgaaGreatDoorM2
import Derived.Laws.Slices
namespace Go.Proofs.YtnmhcaahkaocgaaGreatDoor
open Go.RowKit
set_option maxRecDepth 100000
def qP (m:Mono):Bool:=decide (m.n<0)
def iO (p:List Mono):Bool:=fX p&& !(p.any qP)
set_option maxHeartbeats 400000 in
theorem neg_any(m:Mono)(w:World):Calls Tryz.prog 138 #[.agg #[.int .i64 m.n,.int .u8 m.e0.toNat,.int .u8 m.e1.toNat,.int .u8 m.e2.toNat,.int .u8 m.e3.toNat,.int .u8 m.e4.toNat,.int .u8 m.e5.toNat]] w fun e w'=>e= .returned (.bool (qP m))∧Below w.heap.size w w':=by
 go_enter Tryz.func138,Tryz.ntmps138
 go_wp2
 go_ret
 exact⟨rfl,by go_grown⟩
def IdxPost(w:World)(b:Bool)(e:Ending)(w':World):Prop:= ∃i:Int,e= .returned (.int .i64 i)∧decide (0≤i)=b∧Below w.heap.size w w'
set_option maxRecDepth 100000 in
set_option maxHeartbeats 1000000 in
theorem index_any(A:Option Addr)(c:Nat)(xs:List Mono)(w:World)(ha:mK w A xs)(hx:xs.length≤140737488355328):
  Calls Tryz.prog 191 #[.slice A xs.length c,.func (.func 138) #[] #[]] w (IdxPost w (xs.any qP)):=by
 have Ha:=Lib.hid ha;clear ha
 go_enter Tryz.func191,Tryz.ntmps191
 go_wp2
 go_loopw [8] (fun i wr=> ∃k:Nat,k≤xs.length∧i= .int .i64 k∧Hid (xs.any qP=(xs.drop k).any qP)∧Below w.heap.size w wr) (fun i _=>xs.length-(intOf i).toNat)
 case atStart=>exact⟨0,Nat.zero_le _,rfl,rfl,Below.refl _ _⟩
 case round=>
  obtain⟨k,hk,rfl,hs,hbl⟩:=hrel
  by_cases hlt:k<xs.length
  ·obtain⟨m,hm,dm⟩:=pA hlt;obtain⟨b,o,rfl,hB,c0,c1,c2,c3,c4,c5,c6⟩:=Ha.out.below hbl k m hm;have HS:=Lib.hid (show xs.any qP=(qP m || (xs.drop (k+1)).any qP) by rw [hs.out,dm,List.any_cons]);have HBL:=Lib.hid hbl;clear hs hm dm hB hbl
   go_wp2_with (go_at_call 138;refine(neg_any m _).mono ?_;rintro e w1 ⟨rfl,hb1⟩)
   ·have hng:qP m=true:=by assumption
    go_ret
    exact⟨k,rfl,by rw [HS.out,hng,Bool.true_or];simp,HBL.out.trans (hb1.mono HBL.out.size)⟩
   ·have hng:qP m=false:=by assumption
    go_roundw
    case rel=>exact⟨k+1,by omega,by go_num,(by show _=_;rw [HS.out,hng,Bool.false_or]),HBL.out.trans (hb1.mono HBL.out.size)⟩
    case measure=>simp [intOf];omega
  ·have HS:=Lib.hid (show xs.any qP=false by rw [hs.out,List.drop_of_length_le (by omega)];rfl);clear hs
   go_wp2
   go_ret
   exact⟨-1,rfl,by rw [HS.out];rfl,hbl⟩
set_option maxHeartbeats 400000 in
theorem contains_any(A:Option Addr)(c:Nat)(xs:List Mono)(w:World)(ha:mK w A xs)(hx:xs.length≤140737488355328):
  Calls Tryz.prog 137 #[.slice A xs.length c,.func (.func 138) #[] #[]] w fun e w'=>e= .returned (.bool (xs.any qP))∧Below w.heap.size w w':=by
 have Ha:=Lib.hid ha;clear ha
 go_enter Tryz.func137,Tryz.ntmps137
 go_wp2_with fail
 refine(index_any A c xs _ Ha.out hx).mono ?_;rintro e w1 ⟨i,rfl,hi,hb1⟩;have Hi:=Lib.hid hi;clear hi
 go_wp2
 go_ret
 exact⟨iS Hi.out,hb1⟩
set_option maxHeartbeats 400000 in
theorem grows_any(A:Option Addr)(c:Nat)(xs:List Mono)(w:World)(ha:mK w A xs)(hx:xs.length≤140737488355328):
  Calls Tryz.prog 72 #[.slice A xs.length c] w fun e w'=>e= .returned (.bool (iO xs))∧Below w.heap.size w w':=by
 have Ha:=Lib.hid ha;clear ha;cases hr:fX xs
 ·go_enter Tryz.func72,Tryz.ntmps72
  go_wp2_with fail
  refine(rL A c xs _ Ha.out hx).mono ?_;rintro e w1 ⟨rfl,hb1⟩
  go_wp2
  go_ret
  exact⟨iS (by unfold iO;rw [hr];rfl),hb1⟩
 ·go_enter Tryz.func72,Tryz.ntmps72
  go_wp2_with fail
  refine(rL A c xs _ Ha.out hx).mono ?_;rintro e w1 ⟨rfl,hb1⟩;have H1:=Lib.hid hb1;clear hb1
  go_wp2_with fail
  refine(contains_any A c xs _ (Ha.out.below H1.out) hx).mono ?_;rintro e w2 ⟨rfl,hb2⟩;have H2:=Lib.hid (H1.out.trans (hb2.mono H1.out.size));clear hb2
  go_wp2
  go_ret
  exact⟨iS (by unfold iO;rw [hr,Bool.true_and]),H2.out⟩
end Go.Proofs.YtnmhcaahkaocgaaGreatDoor
namespace Go.Proofs.YtnmhcaahkaocgaaGreatDoor
open Go.RowKit
def bAn:Flat Mono where
 size:=7
 cells:=Mono.cells
 len:=fun _=>rfl
 one:=fun x u hu=>by
  simp [Mono.cells] at hu
  rcases hu with rfl | rfl | rfl | rfl | rfl | rfl | rfl<;>rfl
 pos:=by decide
theorem monos_of{S:iK}{w:World}{A:Option Addr}{k c:Nat}{l:List Mono}(hS: ∀b,S b→b<w.heap.size)(h:(bAn.sl (.slice A k c) l).p S w):mK w A l∧k=l.length:=by
 obtain⟨A',cap,e,h⟩:=h;injection e with e1 e2 e3
 subst e1 e2;refine⟨fun k m hk=>?_,rfl⟩;obtain⟨b,o,cs,e1,e2,e3,e4⟩:=h k m hk;have e4:cs=m.cells:=e4;subst e4;exact⟨b,o,e1,hS b e2,e3 0 _ rfl,e3 1 _ rfl,e3 2 _ rfl,e3 3 _ rfl,e3 4 _ rfl,e3 5 _ rfl,e3 6 _ rfl⟩
abbrev PolV:=Sl Mono
def lS (p:PolV):bU:=(bAn.sl (.slice p.addr p.list.length p.cap) p.list).and (bU.pure (p.list.length≤8796093022208))
section
variable (p : PolV)
theorem nC{p:PolV}{S:iK}{w:World}(hS: ∀b,S b→b<w.heap.size)(h:(lS p).p S w):mK w p.addr p.list:=(monos_of hS h.1).1
theorem bFg(hp:p.list.length≤140737488355328):dM Tryz.prog 72 [.slice p.addr p.list.length p.cap] [] [lS p] (fun _:Unit=> .bool (iO p.list)) (fun _=>[]) (fun _=>[]):=
 lU fun _ w hS h=>grows_any _ _ _ w (nC hS (h _ (.head _))) hp
theorem polR_spec(hp:p.list.length≤140737488355328):dM Tryz.prog 136 [.slice p.addr p.list.length p.cap] [] [lS p] (fun _:Unit=> .bool (fX p.list)) (fun _=>[]) (fun _=>[]):=
 lU fun _ w hS h=>rL _ _ _ w (nC hS (h _ (.head _))) hp
end
end Go.Proofs.YtnmhcaahkaocgaaGreatDoor
namespace Go.Proofs.YtnmhcaahkaocgaaGreatDoor
open Go.RowKit Go.ChangeShapes Go.WideShapes
def pX:Flat PolV:=slE Mono
def jT:Flat Bool where
 size:=1
 cells:=fun x=>[.bool x]
 len:=fun _=>rfl
 one:=fun x u hu=>by simp at hu;subst hu;rfl
 pos:=by decide
structure OpV where
 how:Int
 k:Int
 n:Int
 p:PolV
 fn:Int
 deriving Inhabited
def opE:Flat OpV where
 size:=5
 cells:=fun x=>[.int .i64 x.how,.int .i64 x.k,.int .i64 x.n,.slice x.p.addr x.p.list.length x.p.cap,.int .u8 x.fn]
 len:=fun _=>rfl
 one:=fun x u hu=>by
  simp at hu
  rcases hu with rfl | rfl | rfl | rfl | rfl<;>rfl
 pos:=by decide
structure kX where
 sides:(Sl PolV)
 input:Int
 deriving Inhabited
def uB:Flat kX where
 size:=2
 cells:=fun x=>[.slice x.sides.addr x.sides.list.length x.sides.cap,.int .i64 x.input]
 len:=fun _=>rfl
 one:=fun x u hu=>by
  simp at hu
  rcases hu with rfl | rfl<;>rfl
 pos:=by decide
structure fV where
 how:Int
 buf:Int
 at_:PolV
 loops:(Sl PolV)
 fn:Int
 ops:(Sl OpV)
 deriving Inhabited
def tU:Flat fV where
 size:=6
 cells:=fun x=>[.int .i64 x.how,.int .i64 x.buf,.slice x.at_.addr x.at_.list.length x.at_.cap,.slice x.loops.addr x.loops.list.length x.loops.cap,.int .u8 x.fn,.slice x.ops.addr x.ops.list.length x.ops.cap]
 len:=fun _=>rfl
 one:=fun x u hu=>by
  simp at hu
  rcases hu with rfl | rfl | rfl | rfl | rfl | rfl<;>rfl
 pos:=by decide
structure iN where
 vars:Int
 bufs:(Sl kX)
 steps:(Sl fV)
 outs:(Sl Int)
 deriving Inhabited
def coreE:Flat iN where
 size:=4
 cells:=fun x=>[.int .i64 x.vars,.slice x.bufs.addr x.bufs.list.length x.bufs.cap,.slice x.steps.addr x.steps.list.length x.steps.cap,.slice x.outs.addr x.outs.list.length x.outs.cap]
 len:=fun _=>rfl
 one:=fun x u hu=>by
  simp at hu
  rcases hu with rfl | rfl | rfl | rfl<;>rfl
 pos:=by decide
def coreT:Tab:=[(3,⟨.int .i64,1⟩),(2,⟨.int .i64,1⟩),(5,⟨.int .u8,1⟩),(4,⟨.bool,1⟩),(58,⟨.int .u8,1⟩),(32,⟨.int .i64,1⟩),(47,⟨.slice 75,1⟩),(41,⟨.slice 47,1⟩),(72,⟨.struct [(3,0),(3,1),(2,2),(47,3),(58,4)],5⟩),(59,⟨.slice 72,1⟩),(45,⟨.struct [(41,0),(3,1)],2⟩),(27,⟨.slice 45,1⟩),(61,⟨.struct [(3,0),(3,1),(47,2),(41,3),(58,4),(59,5)],6⟩),(28,⟨.slice 61,1⟩),(29,⟨.slice 3,1⟩),(57,⟨.slice 4,1⟩),(31,⟨.struct [(3,0),(27,1),(28,2),(29,3)],4⟩),(114,⟨.struct [(3,0),(3,1),(3,2),(57,3)],4⟩),(111,⟨.array 64 4,64⟩),(75,⟨.struct [(2,0),(73,1)],7⟩),(73,⟨.array 6 5,6⟩),(224,⟨.slice 5,1⟩),(304,⟨.int .u64,1⟩),(112,⟨.other,1⟩),(177,⟨.other,1⟩),(118,⟨.other,1⟩)]
theorem gD:gC Tryz.prog coreT:=tO.ok
 ⟨⟨by rw [Tryz.underlying3];rfl,by kernel_rfl⟩,
  ⟨by rw [Tryz.underlying2];rfl,by kernel_rfl⟩,
  ⟨by rw [Tryz.underlying5];rfl,by kernel_rfl⟩,
  ⟨by rw [Tryz.underlying4];rfl,by kernel_rfl⟩,
  ⟨by rw [Tryz.underlying58];rfl,by kernel_rfl⟩,
  ⟨by rw [Tryz.underlying32];rfl,by kernel_rfl⟩,
  ⟨by rw [Tryz.underlying47];rfl,by kernel_rfl⟩,
  ⟨by rw [Tryz.underlying41];rfl,by kernel_rfl⟩,
  ⟨by rw [Tryz.underlying72];rfl,by kernel_rfl⟩,
  ⟨by rw [Tryz.underlying59];rfl,by kernel_rfl⟩,
  ⟨by rw [Tryz.underlying45];rfl,by kernel_rfl⟩,
  ⟨by rw [Tryz.underlying27];rfl,by kernel_rfl⟩,
  ⟨by rw [Tryz.underlying61];rfl,by kernel_rfl⟩,
  ⟨by rw [Tryz.underlying28];rfl,by kernel_rfl⟩,
  ⟨by rw [Tryz.underlying29];rfl,by kernel_rfl⟩,
  ⟨by rw [Tryz.underlying57];rfl,by kernel_rfl⟩,
  ⟨by rw [Tryz.underlying31];rfl,by kernel_rfl⟩,
  ⟨by rw [Tryz.underlying114];rfl,by kernel_rfl⟩,
  ⟨by rw [Tryz.underlying111];rfl,by kernel_rfl⟩,
  ⟨by rw [Tryz.underlying75];rfl,by kernel_rfl⟩,
  ⟨by rw [Tryz.underlying73];rfl,by kernel_rfl⟩,
  ⟨by rw [Tryz.underlying224];rfl,by kernel_rfl⟩,
  ⟨by rw [Tryz.underlying304];rfl,by kernel_rfl⟩,
  ⟨by rw [Tryz.underlying112];rfl,by kernel_rfl⟩,
  ⟨by rw [Tryz.underlying177];rfl,by kernel_rfl⟩,
  ⟨by rw [Tryz.underlying118];rfl,by kernel_rfl⟩,trivial⟩
end Go.Proofs.YtnmhcaahkaocgaaGreatDoor
namespace Go.Proofs.YtnmhcaahkaocgaaGreatDoor
open Go.RowKit
instance : DecidableEq Mono := fun a b => decidable_of_iff (a.eqB b = true) (Mono.eqB_iff a b)
structure OpC where
 how:Int
 k:Int
 n:Int
 p:List Mono
 fn:Int
 deriving DecidableEq
structure iW where
 sides:List (List Mono)
 input:Int
 deriving DecidableEq
structure fG where
 how:Int
 buf:Int
 at_:List Mono
 loops:List (List Mono)
 fn:Int
 ops:List OpC
 deriving DecidableEq
structure mE where
 vars:Int
 bufs:List iW
 steps:List fG
 outs:List Int
 deriving DecidableEq
def gN (f:Int)(two:Bool):Bool:=if f<1∨17<f then false else if f=16 then !two else two || decide (f≤7)
def dB (h:Int):Int:=if h=1∨h=2∨h=3 then 0 else if h=4∨h=5 then 1 else if h=6 then 2 else-1
def qE:List OpC→Int→Int→Int
 | [],most,now=>if now=1 then most else-1
 | o::r,most,now=>if dB o.how<0∨now<dB o.how then-1 else qE r (max most (now+(1-dB o.how))) (now+(1-dB o.how))
def oN (l:List OpC):Int:=qE l 0 0
def clampK(vars:Int):Nat:=(min (max vars 0) 6).toNat
def ofB (p:List Mono)(vars:Int):Bool:=p.all (fun m=>(m.E.drop (clampK vars)).all (fun e=>e==0))&&fX p
def gU (l:List (List Mono))(vars:Int):Bool:=l.all (fun p=>ofB p vars&&iO p)&&decide (l.length≤4)
def opB (vars loops buf:Int)(made:List Bool)(o:OpC):Bool:=
 if o.how=1 then o.k==0&&(o.p.isEmpty&&o.fn==0)
 else if o.how=2 then ofB o.p vars&&(o.n==0&&(o.k==0&&o.fn==0))
 else if o.how=3 then decide (0≤o.k∧o.k<loops)&&(o.n==0&&(o.p.isEmpty&&o.fn==0))
 else if o.how=4 then decide (0≤o.k∧o.k≠buf)&&(made.getD o.k.toNat false&&(o.n==0&&(o.p.isEmpty&&o.fn==0)))
 else if o.how=5∨o.how=6 then gN o.fn (o.how==6)&&(o.n==0&&(o.k==0&&o.p.isEmpty))
 else false
def lZ (vars:Int)(made:List Bool)(x:fG):Bool:=
 (ofB x.at_ vars&&iO x.at_)&&(gU x.loops vars&&(decide (x.ops.length≤256)&&(decide (0≤oN x.ops)&&
  ((if x.how=1 then x.fn==0 else if x.how=2∨x.how=3 then !x.loops.isEmpty&&gN x.fn true else false)&&x.ops.all (opB vars x.loops.length x.buf made)))))
def oK (vars:Int):List iW→List Int→Bool
 | [],_=>true
 | b::r,seen=>gU b.sides vars&&(decide (-1≤b.input∧b.input<64)&&(!(seen.contains b.input)&&oK vars r (if 0≤b.input then b.input::seen else seen)))
def mO (vars:Int)(bufs:List iW):List fG→List Bool→Bool
 | [],_=>true
 | x::r,made=>(decide (0≤x.buf)&&(match bufs[x.buf.toNat]? with
   | some b=>decide (b.input<0)
   | none=>false))&&(lZ vars made x&&mO vars bufs r (made.set x.buf.toNat true))
def qF (bufs:List iW):List Bool:=bufs.map fun b=>decide (0≤b.input)
def gO (c:mE):Bool:=
 decide (0≤c.vars∧c.vars≤6∧c.bufs.length≤1024∧c.steps.length≤1024∧c.outs.length≤64)&&(oK c.vars c.bufs []&&(mO c.vars c.bufs c.steps (qF c.bufs)&&c.outs.all fun k=>decide (0≤k∧k<c.bufs.length)))
theorem oI{c:mE}(h:gO c=true):(0≤c.vars∧c.vars≤6∧c.bufs.length≤1024∧c.steps.length≤1024∧c.outs.length≤64)∧oK c.vars c.bufs []=true∧mO c.vars c.bufs c.steps (qF c.bufs)=true∧ ∀k∈c.outs,0≤k∧k<c.bufs.length:=by
 simp only [gO,Bool.and_eq_true,decide_eq_true_eq,List.all_eq_true] at h;exact h
inductive Tr where
 | nil
 | fl (k:Nat) (r:Tr)
 | op (k:Nat) (r:Tr)
 | two (k l:Nat) (r s:Tr)
def Tr.len:Tr→Nat
 | .nil=>0
 | .fl _ r=>r.len+1
 | .op _ r=>r.len+1
 | .two _ _ r _=>r.len+1
section
variable {P : Program} {ops : Array Oper} {md : Region.Mode} {C : World → Prop} {Q : Exit → Act → World → Prop}
def jM (P:Program)(ops:Array Oper)(C:World→Prop)(Q:Exit→Act→World→Prop):Tr→Act→World→Prop
 | .nil,a,w=>Q .normal a w
 | .fl k r,a,w=> ∃o v,ops[k]?=some o∧Fl P ops C o v a∧jM P ops C Q r (a.put o.dst v) w
 | .op k r,a,w=>fOp P ops k (fun a w=>C w∧jM P ops C Q r a w) a w
 | .two k l r s,a,w=>fOp P ops k (fun a w=>C w∧jM P ops C Q r a w) a w∧fOp P ops l (fun a w=>C w∧jM P ops C Q s a w) a w
def iJ (md:Region.Mode)(ops:Array Oper):Tr→Array Bool→Bool
 | .nil,listed=>(Region.ready md ops listed).isEmpty
 | .fl k r,listed=>(Region.ready md ops listed).contains k&&Region.free md ops listed k&&iJ md ops r (listed.setIfInBounds k true)
 | .op k r,listed=>(Region.ready md ops listed==[k])&&iJ md ops r (listed.setIfInBounds k true)
 | .two k l r s,listed=>(Region.ready md ops listed==[k,l])&&Nat.beq r.len s.len&&iJ md ops r (listed.setIfInBounds k true)&&iJ md ops s (listed.setIfInBounds l true)
theorem oG(hs:Region.noSelect ops=true): ∀(l:Tr) (listed:Array Bool) (a:Act) (w:World),iJ md ops l listed=true→C w→jM P ops C Q l a w→zR P md ops C Q l.len listed a w
 | .nil,listed,a,w,hB,hC,h=>⟨hC,by simpa [iJ] using hB,h⟩
 | .fl k r,listed,a,w,hB,hC,h=>by
  simp only [iJ,Bool.and_eq_true] at hB;obtain⟨o,v,ho,hy,hK⟩:=h;exact xX ho (Region.noSelect_spec hs) r.len listed a w (Region.free_spec ho hB.1.2) (by simpa using hB.1.1) hy (oG hs r _ _ _ hB.2 hC hK)
 | .op k r,listed,a,w,hB,hC,h=>by
  simp only [iJ,Bool.and_eq_true,beq_iff_eq] at hB;refine⟨hC,fun h0=>(by rw [hB.1] at h0;cases h0),fun i hi=>?_⟩;rw [hB.1] at hi;have:i=k:=by simpa using hi
  subst this;exact iF (fun a' w' h'=>oG hs r _ _ _ hB.2 h'.1 h'.2) h
 | .two k l r s,listed,a,w,hB,hC,h=>by
  simp only [iJ,Bool.and_eq_true,beq_iff_eq] at hB;obtain⟨⟨⟨h1,h2⟩,h3⟩,h4⟩:=hB;refine⟨hC,fun h0=>(by rw [h1] at h0;cases h0),fun i hi=>?_⟩;rw [h1] at hi;have hi:i=k∨i=l:=by simpa using hi
  rcases hi with rfl | rfl
  ·exact iF (fun a' w' h'=>oG hs r _ _ _ h3 h'.1 h'.2) h.1
  ·have e:Tr.len (.two k i r s)=s.len+1:=by simp only [Tr.len,Nat.eq_of_beq_eq_true h2]
   have e':r.len=s.len:=Nat.eq_of_beq_eq_true h2;rw [e'];exact iF (fun a' w' h'=>oG hs s _ _ _ h4 h'.1 h'.2) h.2
def uJ (l:Tr)(ops:Array Oper):Bool:=Region.noSelect ops&&Nat.beq l.len ops.size&&iJ .any ops l (Array.replicate ops.size false)
end
section
variable {P : Program} {β : fY} {n : Nat} {Γ : Env} {H : List bX} {F : List bU} {Q : Exit → Act → World → Prop} {Hk : List bX} {F0 : List bU} {ops : Array Oper}
theorem at_mixT{id:Nat}{l:List Oper}(Hk:List bX)(F0:List bU)(od:Tr)(hm:P.follows .mixedOrders=true)(hB:uJ od l.toArray=true)(hH:Sel H Hk)(hF:bQ F F0)
  (h:At β n Γ H F (jM P l.toArray (StF β Hk F0) Q od)):At β n Γ H F ((Code.region id l.toArray true).wp P Q):=fun a w S f s k=>by
 simp only [uJ,Bool.and_eq_true] at hB;have hw:=StF.drew ⟨S,s,k⟩;obtain⟨S',s',k'⟩:=hw;refine wp_region_any hm (pL (C:=StF β Hk F0) _ _ _ _ ?_);have:=oG (P:=P) (md:= .any) (C:=StF β Hk F0) (Q:=Q) hB.1.1 od (Array.replicate l.toArray.size false) a _ hB.2 (StF.sel hH hF ⟨S',s',k'⟩) (h a _ S' f s' k')
 rwa [Nat.eq_of_beq_eq_true hB.1.2] at this
theorem vK{C:World→Prop}(h:At β n Γ H F (Q .normal)):At β n Γ H F (jM P ops C Q .nil):=h
theorem att_sti{r:Tr}{o:Oper}{k d:Nat}{v:Value}(hk:ops[k]?=some o)(hw:want ops Γ o=some true)(hd:o.dst=some d)(hn:Nat.blt d n=true)(h:Sti P β n Γ Hk F0 o v)
  (K:At β n ((d,v)::Γ) H F (jM P ops (StF β Hk F0) Q r)):At β n Γ H F (jM P ops (StF β Hk F0) Q (.fl k r)):=fun a w S f s hF=>by
 refine⟨o,v,hk,.inl ⟨f.want hw,fun w' ⟨S',s',k'⟩=>h a w' S' f s' k'⟩,?_⟩;rw [hd];exact K _ _ S (f.put (by simpa [Nat.blt_eq] using hn) v) s hF
theorem sqT{r:Tr}{o:Oper}{k d:Nat}{v:Value}(hk:ops[k]?=some o)(h:Sti P β n Γ Hk F0 o v)(K:At β n ((d,v)::Γ) H F (jM P ops (StF β Hk F0) Q r))(hw:want ops Γ o=some true:=by exact rfl)(hd:o.dst=some d:=by exact rfl)(hn:Nat.blt d n=true:=by exact rfl):At β n Γ H F (jM P ops (StF β Hk F0) Q (.fl k r)):=att_sti hk hw hd hn h K
theorem pvT{r:Tr}{o:Oper}{k d:Nat}{v:Value}{T:Tab}(hT:gC P T)(K:At β n ((d,v)::Γ) H F (jM P ops (StF β Hk F0) Q r))(hk:ops[k]?=some o:=by exact rfl)(hw:want ops Γ o=some true:=by exact rfl)(hd:o.dst=some d:=by exact rfl)(hn:Nat.blt d n=true:=by exact rfl)(h:lM T Γ o.op=some v:=by exact rfl):At β n Γ H F (jM P ops (StF β Hk F0) Q (.fl k r)):=att_sti hk hw hd hn (fun _ w _ f _ _=>rX hT f h w) K
theorem fOp_of{o:Oper}{k:Nat}{K:Act→World→Prop}(hk:ops[k]?=some o)(h:At β n Γ H F (wpList P ops (Nm K) [o])):At β n Γ H F (fOp P ops k K):=fun a w S f s hF o' ho'=>by
 have:o'=o:=Option.some.inj (ho'.symm.trans hk);subst this;exact h a w S f s hF
theorem qS{r:Tr}{o:Oper}{k:Nat}{C:World→Prop}(hk:ops[k]?=some o)(h:At β n Γ H F (wpList P ops (Nm fun a w=>C w∧jM P ops C Q r a w) [o])):At β n Γ H F (jM P ops C Q (.op k r)):=fOp_of hk h
theorem att_two{r s:Tr}{o o':Oper}{k l:Nat}{C:World→Prop}(hk:ops[k]?=some o)(hl:ops[l]?=some o')(h:At β n Γ H F (wpList P ops (Nm fun a w=>C w∧jM P ops C Q r a w) [o]))(h':At β n Γ H F (wpList P ops (Nm fun a w=>C w∧jM P ops C Q s a w) [o'])):
  At β n Γ H F (jM P ops C Q (.two k l r s)):=fun a w S f st hF=>⟨fOp_of hk h a w S f st hF,fOp_of hl h' a w S f st hF⟩
theorem mL{r:Tr}(hH:Sel H Hk)(hF:bQ F F0)(h:At β n Γ H F (jM P ops (StF β Hk F0) Q r)):At β n Γ H F (wpList P ops (Nm fun a w=>StF β Hk F0 w∧jM P ops (StF β Hk F0) Q r a w) []):=fun a w S f s k=>
 ⟨rfl,StF.sel hH hF ⟨S,s,k⟩,h a w S f s k⟩
end
section
variable {P : Program} {β : fY} {n : Nat} {Γ : Env} {H : List bX} {F : List bU} {Q : Exit → Act → World → Prop} {K : Act → World → Prop} {T : Tab} {α : Type} {E : Flat α}
theorem elem_of{t e:Nat}(hu:P.underlying t=some (.slice e)):P.elem t=e:=by simp [Program.elem,hu]
theorem bIm(hT:gC P T){t e sz:Nat}{ei:TI}(ht:T.get t=some ⟨.slice e,sz⟩)(he:T.get e=some ei){A:Option Addr}{l c k:Nat}(hk:k≤c)(kk:IntKind)(w:World):(Instr.sliceAt t (.slice A l c) none (some (.int kk (k:Nat))) none).run P w= .ok (.slice A k c) w:=by
 obtain⟨d,hu,hd⟩:=hT.any ht;cases d<;>simp [TD.of] at hd
 subst hd;have hel:=elem_of hu;rw [run_sliceAt_slice w t _ _ _ _ (by rw [hel];exact hu),run_slice_h w t A l c (by rw [hel];exact hu) kk (k:Int) (by omega) (by omega),hel,hT.size he];simp only [Result.andThen_ok,sliced,Int.toNat_natCast,Nat.zero_mul,Nat.sub_zero]
 congr 2
 split
 ·rfl
 ·cases A<;>simp [Addr.add]
theorem xN{ops:Array Oper}{rest:List Oper}{o:Oper}(hT:gC P T){d t e sz k m cap:Nat}{ei:TI}{x i:Operand}{kk:IntKind}{z:Int}{A:Option Addr}{xs:List α}{H':List bX}(hH:fU H (E.row (.slice A m cap) e xs) H')(hw:want ops Γ o=some true)(ho:o.op= .slice t x none (some i) none)(hd:o.dst=some d)(hn:Nat.blt d n=true)
  (hx:Γ.ev x=some (.slice A m cap)) (hi:Γ.ev i=some (.int kk z)) (ht:T.get t=some ⟨.slice e,sz⟩) (he:T.get e=some ei) (hz:z=(k:Nat)) (hk:k≤xs.length)
  (K:At β n ((d,.slice A (xs.take k).length cap)::Γ) (E.row (.slice A (xs.take k).length cap) e (xs.take k)::H') F (wpList P ops Q rest)):At β n Γ H F (wpList P ops Q (o::rest)):=
 jF hw fun a w S f s hF=>by
  subst hz;have hown:w.ownsRow 0 e E.size (.slice A m cap) xs.length (E.all xs):=s.ok _ hH.mem
  have hkc:k≤cap∧(xs.take k).length=k∧w.ownsRow 0 e E.size (.slice A (xs.take k).length cap) (xs.take k).length (E.all (xs.take k)):=by
   have hl:(xs.take k).length=k:=by simp;omega
   have hall:E.all (xs.take k)=(E.all xs).take (k*E.size):=by
    have:=E.all_append (xs.take k) (xs.drop k);rw [List.take_append_drop] at this;rw [this,List.take_left' (by rw [E.all_length,hl])]
   rcases hown.2 with ⟨e1,e0⟩ | ⟨g,cap',cur,e1,h1,h2,h3,h4,h5,h6⟩
   ·injection e1 with e1 e2 e3
    subst e1 e3;have:xs=[]:=List.eq_nil_of_length_eq_zero e0;subst this;have hk0:k=0:=by simpa using hk
    subst hk0;exact⟨Nat.le_refl _,hl,⟨by simp [Flat.all],.inl ⟨rfl,rfl⟩⟩⟩
   ·injection e1 with e1 e2 e3
    subst e1 e3;refine⟨by omega,hl,⟨by rw [E.all_length],.inr ⟨g,cap,cur,rfl,h1,h2,by omega,h4,h5,?_⟩⟩⟩;rw [hall,hl,←h6,List.take_take]
    congr 1
    exact(Nat.min_eq_left (Nat.mul_le_mul_right _ hk)).symm
  have hr:(execOp a.eval o).run P w= .ok (.value (.slice A (xs.take k).length cap)) w:=by
   unfold execOp;simp only [ho,f.ev hx,Option.map_some,Option.map_none,f.ev hi];rw [Sem.run_bind,bIm hT ht he hkc.1,hkc.2.1];rfl
  unfold Oper.wp;rw [hr,Oper.upon_value,hd];have s2:=s.perm hH.perm;have s3:=s2.swap_row (v':= .slice A (xs.take k).length cap) (w':=w) (nN.refl _ _) (.inl (by cases A<;>rfl)) hkc.2.2;exact K _ _ S (f.put (by simpa [Nat.blt_eq] using hn) _) s3 hF
theorem nW{b:Nat}{cs:List Value}{t:TypeId}{H':List bX}(hH:fU H (.obj b (.cells cs.toArray t)) H')(h:At β n Γ H' (bU.cells b 0 cs::F) K):At β n Γ H F K:=fun a w S f s k=>by
 have s2:=s.perm hH.perm;have hok:w.heap[b]?=some (.cells cs.toArray t):=s2.ok _ (List.mem_cons_self ..);have hsep:=List.pairwise_cons.1 s2.sep;have hown:=s2.own _ (List.mem_cons_self ..);have hmono:All F (fun x=>S x∨x=b) w:=All.mono (fun _ h=> .inl h) (fun _ _=>rfl) k;refine h a w (fun x=>S x∨x=b) f ⟨s2.kept,fun c hc=>s2.ok c (List.mem_cons_of_mem _ hc),fun c hc x hx=>?_,hsep.2,fun x hx=>?_⟩ (All.cons ?_ hmono)
 ·obtain⟨h1,h2,h3⟩:=s2.own c (List.mem_cons_of_mem _ hc) x hx;refine⟨h1,h2,fun h=>?_⟩
  rcases h with h | h
  ·exact h3 h
  ·subst h;exact hsep.1 c hc _ rfl hx
 ·rcases hx with hx | hx
  ·exact s2.zone x hx
  ·subst hx;obtain⟨h1,h2,_⟩:=hown _ rfl;exact⟨h1,.inr h2⟩
 ·refine⟨.inr rfl,fun j u hj=>?_⟩;unfold World.cell?;rw [hok]
  simpa using hj
theorem Has.cons{f g:bU}{F:List bU}(h:Has F g):Has (f::F) g:=fun S w k=>h S w fun x hx=>k x (List.mem_cons_of_mem _ hx)
theorem Has.each_nil{α:Type}{g:α→bU}{F:List bU}:Has F (bU.each [] g):=fun _ _ _ x hx=>by simp at hx
theorem Has.each_cons{α:Type}{g:α→bU}{F:List bU}{x:α}{l:List α}(hx:Has F (g x))(hl:Has F (bU.each l g)):Has F (bU.each (x::l) g):=fun S w k y hy=>by
 rcases List.mem_cons.1 hy with rfl | hy
 ·exact hx S w k
 ·exact hl S w k y hy
theorem bHk(hT:gC P T){o:Oper}{t e sz k l cap:Nat}{ei:TI}{x i:Operand}{kk:IntKind}{z:Int}{A:Option Addr}(ho:o.op= .slice t x none (some i) none)(hx:Γ.ev x=some (.slice A l cap))(hi:Γ.ev i=some (.int kk z))
  (ht:T.get t=some ⟨.slice e,sz⟩) (he:T.get e=some ei) (hz:z=(k:Nat)) (hk:k≤cap):Sti P β n Γ H F o (.slice A k cap):=fun a w S f s hF=>by
 subst hz;unfold execOp;simp only [ho,f.ev hx,Option.map_some,Option.map_none,f.ev hi];rw [Sem.run_bind,bIm hT ht he hk];rfl
theorem has_take{A:Option Addr}{l c k:Nat}{xs:List α}(h:Has F (E.sl (.slice A l c) xs))(hk:k≤xs.length):Has F (E.sl (.slice A k c) (xs.take k)):=fun S w q=>by
 obtain⟨A',c',e,h⟩:=h S w q;injection e with e1 e2 e3
 subst e1 e3;refine⟨A,c,by rw [List.length_take,Nat.min_eq_left hk],fun j x hj=>?_⟩;rw [List.getElem?_take] at hj;split at hj
 ·exact h j x hj
 ·cases hj
theorem at_cap{A:Option Addr}{t:TypeId}{m cap:Nat}{xs:List α}{H':List bX}(hH:fU H (E.row (.slice A m cap) t xs) H')(h:xs.length≤cap→At β n Γ H F K):At β n Γ H F K:=fun a w S f s k=>by
 have hown:w.ownsRow 0 t E.size (.slice A m cap) xs.length (E.all xs):=s.ok _ hH.mem;refine h ?_ a w S f s k
 rcases hown.2 with ⟨_,e0⟩ | ⟨g,cap',cur,e1,h1,h2,h3,_⟩
 ·omega
 ·injection e1 with e1 e2 e3
  subst e3;omega
end
theorem dS:Tryz.prog.follows .mixedOrders=true:=by kernel_rfl
def polsL (l:List PolV):List (List Mono):=l.map (·.list)
theorem dC(l:List PolV):(polsL l).length=l.length:=List.length_map _
theorem dQ{l:List PolV}{i:Nat}{p:PolV}(h:l[i]?=some p):(polsL l)[i]?=some p.list:=by
 unfold polsL;rw [List.getElem?_map,h];rfl
def OpV.c (o:OpV):OpC:=⟨o.how,o.k,o.n,o.p.list,o.fn⟩
def opsL (l:List OpV):List OpC:=l.map OpV.c
def kX.c (b:kX):iW:=⟨polsL b.sides.list,b.input⟩
def fV.c (s:fV):fG:=⟨s.how,s.buf,s.at_.list,polsL s.loops.list,s.fn,opsL s.ops.list⟩
def vZ (l:List fV):List fG:=l.map fV.c
def bufsL (l:List kX):List iW:=l.map kX.c
def iN.c (c:iN):mE:=⟨c.vars,bufsL c.bufs.list,vZ c.steps.list,c.outs.list⟩
theorem dV(l:List OpV):(opsL l).length=l.length:=List.length_map _
theorem kG(l:List fV):(vZ l).length=l.length:=List.length_map _
theorem dI(l:List kX):(bufsL l).length=l.length:=List.length_map _
theorem dL{l:List OpV}{i:Nat}{x:OpV}(h:l[i]?=some x):(opsL l)[i]?=some x.c:=by
 unfold opsL;rw [List.getElem?_map,h];rfl
theorem iQ{l:List fV}{i:Nat}{x:fV}(h:l[i]?=some x):(vZ l)[i]?=some x.c:=by
 unfold vZ;rw [List.getElem?_map,h];rfl
theorem dE{l:List kX}{i:Nat}{x:kX}(h:l[i]?=some x):(bufsL l)[i]?=some x.c:=by
 unfold bufsL;rw [List.getElem?_map,h];rfl
def polsF (l:List PolV):bU:=bU.each l lS
theorem polsF_sl{F:List bU}{p:PolV}(h:Has F (lS p)):Has F (bAn.sl (.slice p.addr p.list.length p.cap) p.list):=h.left
theorem polsF_len2{F:List bU}{p:PolV}(h:Has F (lS p)):Has F (bU.pure (p.list.length≤8796093022208)):=h.right
theorem jH{F:List bU}{p:PolV}(h:Has F (lS p)):Has F (bU.pure (p.list.length≤140737488355328)):=fun S w k=>Nat.le_trans (polsF_len2 h S w k) (by decide)
def wR {α:Type}(b:Nat)(l:Sl α):bU:=bU.pure (l.list.length≤l.cap∧l.list.length*b≤140737488355328)
def mD (l:Sl PolV):bU:=((pX.sl (.slice l.addr l.list.length l.cap) l.list).and (polsF l.list)).and (wR 24 l)
def opF (x:OpV):bU:=lS x.p
def bDg (l:Sl OpV):bU:=((opE.sl (.slice l.addr l.list.length l.cap) l.list).and (bU.each l.list opF)).and (wR 56 l)
def kB (x:fV):bU:=(lS x.at_).and ((mD x.loops).and (bDg x.ops))
def bEp (l:Sl fV):bU:=((tU.sl (.slice l.addr l.list.length l.cap) l.list).and (bU.each l.list kB)).and (wR 96 l)
def bufF (x:kX):bU:=mD x.sides
def bufsF (l:Sl kX):bU:=((uB.sl (.slice l.addr l.list.length l.cap) l.list).and (bU.each l.list bufF)).and (wR 32 l)
def xK (l:Sl Int):bU:=(cQ.sl (.slice l.addr l.list.length l.cap) l.list).and (wR 8 l)
def lY (c:iN):bU:=(bufsF c.bufs).and ((bEp c.steps).and (xK c.outs))
section
variable {F : List bU} {c : iN} {s : fV} {l : Sl PolV} {ol : Sl OpV} {bl : Sl kX} {xl : Sl fV} {il : Sl Int}
theorem iY(h:Has F (lY c)):Has F (bufsF c.bufs):=h.left
theorem qI(h:Has F (lY c)):Has F (bEp c.steps):=h.right.left
theorem bBg(h:Has F (lY c)):Has F (xK c.outs):=h.right.right
theorem bCf(h:Has F (kB s)):Has F (lS s.at_):=h.left
theorem vL(h:Has F (kB s)):Has F (mD s.loops):=h.right.left
theorem nV(h:Has F (kB s)):Has F (bDg s.ops):=h.right.right
theorem sJ(h:Has F (mD l)):Has F (pX.sl (.slice l.addr l.list.length l.cap) l.list):=h.left.left
theorem sN(h:Has F (mD l)):Has F (polsF l.list):=h.left.right
theorem xS(h:Has F (mD l)):Has F (wR 24 l):=h.right
theorem opsF_s(h:Has F (bDg ol)):Has F (opE.sl (.slice ol.addr ol.list.length ol.cap) ol.list):=h.left.left
theorem opsF_e(h:Has F (bDg ol)):Has F (bU.each ol.list opF):=h.left.right
theorem opsF_c(h:Has F (bDg ol)):Has F (wR 56 ol):=h.right
theorem yK(h:Has F (bEp xl)):Has F (tU.sl (.slice xl.addr xl.list.length xl.cap) xl.list):=h.left.left
theorem wX(h:Has F (bEp xl)):Has F (bU.each xl.list kB):=h.left.right
theorem nS(h:Has F (bufsF bl)):Has F (uB.sl (.slice bl.addr bl.list.length bl.cap) bl.list):=h.left.left
theorem tA(h:Has F (bufsF bl)):Has F (bU.each bl.list bufF):=h.left.right
theorem rW(h:Has F (xK il)):Has F (cQ.sl (.slice il.addr il.list.length il.cap) il.list):=h.left
end
theorem takes_le(h:Int):dB h≤2∧ -1≤dB h:=by
 unfold dB
 repeat' split
 all_goals omega
def bCi (l:List OpV)(i:Nat)(m n r:Int):Prop:=qE ((opsL l).drop i) m n=r
theorem kK{α:Type}{l:List α}{i:Nat}{x:α}(h:l[i]?=some x):l.drop i=x::l.drop (i+1):=by
 obtain⟨hi,e⟩:=List.getElem?_eq_some_iff.1 h;rw [←e];exact List.drop_eq_getElem_cons hi
section
variable {l : List OpV} {i : Nat} {m n r : Int} {x : OpV}
theorem dep_step(h:bCi l i m n r)(hx:l[i]?=some x):(dB x.how<0∨n<dB x.how→r= -1)∧(¬dB x.how<0→ ¬n<dB x.how→bCi l (i+1) (if n+(1-dB x.how)>m then n+(1-dB x.how) else m) (n+(1-dB x.how)) r):=by
 unfold bCi at*;rw [kK (dL hx),qE] at h;refine⟨fun e=>?_,fun e1 e2=>?_⟩
 ·rw [if_pos (show dB x.c.how<0∨n<dB x.c.how from e)] at h;exact h.symm
 ·rw [if_neg (show ¬(dB x.c.how<0∨n<dB x.c.how) from fun h=>h.elim e1 e2)] at h;rw [←h]
  congr 1
  show _=max m (n+(1-dB x.how));split<;>omega
theorem bBh(h:bCi l i m n r)(hi:l.length≤i):(n≠1→r= -1)∧(n=1→r=m):=by
 unfold bCi at h;rw [List.drop_of_length_le (by rw [dV];exact hi),qE] at h;exact⟨fun e=>by rw [if_neg e] at h;exact h.symm,fun e=>by rw [if_pos e] at h;exact h.symm⟩
end
section
variable {f : Int} {two : Bool}
theorem oT(h:f<1∨17<f):Value.bool false= .bool (gN f two):=by
 unfold gN;rw [if_pos h]
theorem wtk_b(h3:f=16):Value.bool (!two)= .bool (gN f two):=by
 unfold gN;rw [if_neg (by omega),if_pos h3]
theorem wtk_c(h1:1≤f)(h2:f≤17)(h3:f≠16)(h:two=true):Value.bool true= .bool (gN f two):=by
 unfold gN;rw [if_neg (by omega),if_neg h3,h,Bool.true_or]
theorem wtk_d(h1:1≤f)(h2:f≤17)(h3:f≠16)(h:two=false):Value.bool (decide (f≤7))= .bool (gN f two):=by
 unfold gN;rw [if_neg (by omega),if_neg h3,h,Bool.false_or]
end
theorem wM:(Tryz.prog.info? 72).bind (·.zero)=some (.agg #[.int .i64 0,.int .i64 0,.int .i64 0,.slice none 0 0,.int .u8 0]):=by kernel_rfl
set_option maxRecDepth 100000 in
theorem takes_spec(o:OpV):dM Tryz.prog 139 [.agg #[.int .i64 o.how,.int .i64 o.k,.int .i64 o.n,.slice o.p.addr o.p.list.length o.p.cap,.int .u8 o.fn]] [] [] (fun(_:Unit)=> .int .i64 (dB o.how)) (fun _=>[]) (fun _=>[]):=by
 have hT:=gD;refine cO Tryz.func139 rfl Tryz.ntmps139 rfl ?_;intro β hM;refine sr<|gG rfl rfl rfl rfl rfl rfl fun b1=>?_;refine sp hT ?_;refine nn<|bE<|sr<|sp hT ?_;refine ss (ldO hT (dO .head)) ?_;refine nn<|bW<|bE<|sr<|sp2 hT ?_;refine nn<|bL rfl (fun hc5=>?_) (fun hc5=>?_)
 ·have hc5_r:=hc5;have hc5:=eq_of_beq hc5;refine bO<|bC<|cG rfl hc5_r ?_;refine sr<|sp hT ?_;refine nn<|bI<|bM<|bH ?_;exact bN () rfl (bD rfl) .nil trivial (by simp [dB, *])
 have hc5_r:=hc5;have hc5:=beq_eq_false_iff_ne.1 hc5;refine sr<|sp2 hT ?_;refine nn<|bL rfl (fun hc5_2=>?_) (fun hc5_2=>?_)
 ·have hc5_2_r:=hc5_2;have hc5_2:=eq_of_beq hc5_2;refine bO<|bC<|cG rfl hc5_2_r ?_;refine sr<|sp hT ?_;refine nn<|bI<|bM<|bH ?_;exact bN () rfl (bD rfl) .nil trivial (by simp [dB, *])
 have hc5_2_r:=hc5_2;have hc5_2:=beq_eq_false_iff_ne.1 hc5_2;refine bB<|sp2 hT ?_;refine nn<|bL rfl (fun hc5_3=>?_) (fun hc5_3=>?_)
 ·have hc5_3_r:=hc5_3;have hc5_3:=eq_of_beq hc5_3;refine sr<|sp hT ?_;refine nn<|bI<|bM<|bH ?_;exact bN () rfl (bD rfl) .nil trivial (by simp [dB, *])
 have hc5_3_r:=hc5_3;have hc5_3:=beq_eq_false_iff_ne.1 hc5_3;refine bE<|sr<|sp2 hT ?_;refine nn<|bL rfl (fun hc9=>?_) (fun hc9=>?_)
 ·have hc9_r:=hc9;have hc9:=eq_of_beq hc9;refine bO<|bC<|cG rfl hc9_r ?_;refine sr<|sp hT ?_;refine nn<|bI<|bM<|bH ?_;exact bN () rfl (bD rfl) .nil trivial (by simp [dB, *])
 have hc9_r:=hc9;have hc9:=beq_eq_false_iff_ne.1 hc9;refine bB<|sp2 hT ?_;refine nn<|bL rfl (fun hc9_4=>?_) (fun hc9_4=>?_)
 ·have hc9_4_r:=hc9_4;have hc9_4:=eq_of_beq hc9_4;refine sr<|sp hT ?_;refine nn<|bI<|bM<|bH ?_;exact bN () rfl (bD rfl) .nil trivial (by simp [dB, *])
 have hc9_4_r:=hc9_4;have hc9_4:=beq_eq_false_iff_ne.1 hc9_4;refine sr<|sp2 hT ?_;refine nn<|bL rfl (fun hc12=>?_) (fun hc12=>?_)
 ·have hc12_r:=hc12;have hc12:=eq_of_beq hc12;refine sr<|sp hT ?_;refine nn<|bI<|bM<|bH ?_;exact bN () rfl (bD rfl) .nil trivial (by simp [dB, *])
 have hc12_r:=hc12;have hc12:=beq_eq_false_iff_ne.1 hc12;refine bO<|bY<|bC<|sr<|sp hT ?_;refine nn<|bI ?_;exact bN () rfl (bD rfl) .nil trivial (by simp [dB, *])
set_option maxRecDepth 100000 in
theorem Depth_spec(A:Option Addr)(c:Nat)(l:List OpV)(hl:l.length≤140737488355328):dM Tryz.prog 73 [.slice A l.length c] [] [opE.sl (.slice A l.length c) l,bU.each l opF] (fun(_:Unit)=> .int .i64 (oN (opsL l))) (fun _=>[]) (fun _=>[]):=by
 have hT:=gD;generalize hR:oN (opsL l)=r;refine cO Tryz.func73 rfl Tryz.ntmps73 rfl ?_;intro β hM;refine sr<|sp hT ?_;refine nn<|sr<|sp2 hT ?_;refine nn<|bE<|sr<|sp3 hT ?_;refine nn<|bW<|cX (ι:=Nat×Int×Int) [(8,_),(9,_)] ⟨rfl,rfl,trivial⟩ (fun⟨i,m,n⟩=>[(3,.int .i64 m),(4,.int .i64 n),(10,.int .i64 (i:Nat))]) (fun _=>[]) (fun⟨i,m,n⟩=>[bU.pure (i≤l.length∧bCi l i m n r∧0≤n∧n≤i)]) (fun⟨i,m,n⟩=>l.length-i) (0,0,0) ⟨rfl,rfl,rfl,trivial⟩ .nil ⟨Has.pure (⟨by omega,hR,by omega,by omega⟩),trivial⟩ ?_;rintro⟨i,m,n⟩;dsimp only;refine cD (Has.of mT0) fun hinv3=>?_;refine sr<|sp hT ?_;refine nn<|bE<|bL rfl (fun hc11=>?_) (fun hc11=>?_)
 ·have hc11:=of_decide_eq_true hc11;refine bO<|bC<|bE<|bW<|sr ?_
  obtain⟨x1,hx2⟩: ∃x',l[i]?=some x':=⟨_,List.getElem?_eq_getElem (by omega)⟩
  refine ss (bV hT (k:=i) (bP (Has.of mT1)) rfl rfl rfl rfl rfl rfl rfl (by omega)) ?_;refine ss (dT hT (cM.knows (bP (Has.of mT1)) (k:=i) (x:=x1) hx2 0) rfl rfl rfl rfl rfl) ?_;refine gP rfl rfl rfl rfl wM rfl fun b3=>?_;refine sto hT .head ?_;refine nn<|bE ?_;have htk:=takes_le x1.how
  have hd0:=(dep_step hinv3.2.1 hx2)
  refine bB<|ss (ldN hT (dO .head)) ?_;refine cK Tryz.func139 (takes_spec x1) rfl rfl .nil trivial fun _=>?_;refine sp hT ?_;refine nn<|bE<|sr<|sp3 hT ?_;refine cB (fun hg18=>?_) (fun hg18=>?_)
  ·have hg18:=of_decide_eq_true hg18;refine sk3 ?_;refine sp hT ?_;refine nn<|cG rfl rfl ?_;refine sr<|sp hT ?_;refine nn<|bI<|bH<|bM<|bH<|bH<|bM<|bH ?_;have hr:=hd0.1 (by omega);subst hr;exact bN () rfl (bD rfl) .nil trivial rfl
  have hg18:=Int.not_lt.1 (of_decide_eq_false hg18);refine sp4 hT ?_;refine nn<|bL rfl (fun hc22=>?_) (fun hc22=>?_)
  ·have hc22:=of_decide_eq_true hc22;refine sr<|sp hT ?_;refine nn<|bI<|bH<|bM<|bH<|bH<|bM<|bH ?_;have hr:=hd0.1 (by omega);subst hr;exact bN () rfl (bD rfl) .nil trivial rfl
  have hc22:=Int.not_lt.1 (of_decide_eq_false hc22);refine bO<|bC<|sr<|sp3 hT ?_;refine bZ (gK (by omega) (by omega)) ?_;refine sp hT ?_;refine bZ (gK (by omega) (by omega)) ?_;refine sp hT ?_;refine nn<|bB<|sp4 hT ?_;refine cA<|bY<|bC<|bB<|sp hT ?_;refine bZ (z':=(((i+1):Nat):Int)) (cV (by omega) (by omega)) ?_;refine sp hT ?_;refine nn ?_;exact cJ (i+1,_,_) (by dsimp only;omega) ⟨rfl,rfl,rfl,trivial⟩ ⟨rfl,rfl,trivial⟩ .nil ⟨Has.pure (⟨by dsimp only;omega,hd0.2 (by omega) (by omega),by dsimp only;omega,by dsimp only;omega⟩),trivial⟩ (bQ.drop 1)
 have hc11:=Int.not_lt.1 (of_decide_eq_false hc11);refine cU<|cI<|cI<|cT<|bC<|bE<|sr<|sp2 hT ?_;refine nn<|bL rfl (fun hc32=>?_) (fun hc32=>?_)
 ·have hc32:=bne_iff_ne.1 hc32;refine sr<|sp hT ?_;refine nn<|bI<|bH ?_;have hr:=(bBh hinv3.2.1 (by omega)).1 ‹_›;subst hr;exact bN () rfl (bD rfl) .nil trivial rfl
 have hc32:=bne_eq_false_iff_eq.1 hc32;refine bO<|bC<|sr<|sp2 hT ?_;refine nn<|bI ?_;have hr:=(bBh hinv3.2.1 (by omega)).2 ‹_›;subst hr;exact bN () rfl (bD rfl) .nil trivial rfl
set_option maxRecDepth 100000 in
theorem pY(f:Int)(two:Bool):dM Tryz.prog 74 [.int .u8 f,.bool two] [] [] (fun(_:Unit)=> .bool (gN f two)) (fun _=>[]) (fun _=>[]):=by
 have hT:=gD;refine cO Tryz.func74 rfl Tryz.ntmps74 rfl ?_;intro β hM;refine sr<|sp hT ?_;refine nn<|bE<|bW<|sr<|sp3 hT ?_;refine cB (fun hg8=>?_) (fun hg8=>?_)
 ·have hg8:=of_decide_eq_true hg8;refine sk2 ?_;refine sp2 hT ?_;refine nn<|cG rfl rfl ?_;refine sr<|sp hT ?_;refine nn<|bI<|bM<|bH ?_;exact bN () rfl (bD rfl) .nil trivial (by first | exact oT (.inl (by omega)) | exact oT (.inr (by omega)) | exact wtk_b (by omega) | exact wtk_c (by omega) (by omega) (by omega) ‹_› | exact wtk_d (by omega) (by omega) (by omega) ‹_›)
 have hg8:=Int.not_lt.1 (of_decide_eq_false hg8);refine sp4 hT ?_;refine nn<|bL rfl (fun hc5=>?_) (fun hc5=>?_)
 ·have hc5:=of_decide_eq_true hc5;refine sr<|sp hT ?_;refine nn<|bI<|bM<|bH ?_;exact bN () rfl (bD rfl) .nil trivial (by first | exact oT (.inl (by omega)) | exact oT (.inr (by omega)) | exact wtk_b (by omega) | exact wtk_c (by omega) (by omega) (by omega) ‹_› | exact wtk_d (by omega) (by omega) (by omega) ‹_›)
 have hc5:=Int.not_lt.1 (of_decide_eq_false hc5);refine sr<|sp3 hT ?_;refine nn<|bL rfl (fun hc12=>?_) (fun hc12=>?_)
 ·have hc12:=eq_of_beq hc12;refine sr<|sp3 hT ?_;refine nn<|bI<|bM<|bH ?_;exact bN () rfl (bD rfl) .nil trivial (by first | exact oT (.inl (by omega)) | exact oT (.inr (by omega)) | exact wtk_b (by omega) | exact wtk_c (by omega) (by omega) (by omega) ‹_› | exact wtk_d (by omega) (by omega) (by omega) ‹_›)
 have hc12:=beq_eq_false_iff_ne.1 hc12;refine bO<|bY<|bC<|sr<|sp2 hT ?_;refine cB (fun hg18=>?_) (fun hg18=>?_)
 ·refine sk2 ?_;refine sp2 hT ?_;refine nn<|bI ?_;exact bN () rfl (bD rfl) .nil trivial (by first | exact oT (.inl (by omega)) | exact oT (.inr (by omega)) | exact wtk_b (by omega) | exact wtk_c (by omega) (by omega) (by omega) ‹_› | exact wtk_d (by omega) (by omega) (by omega) ‹_›)
 refine sp4 hT ?_;refine nn<|bI ?_;exact bN () rfl (bD rfl) .nil trivial (by first | exact oT (.inl (by omega)) | exact oT (.inr (by omega)) | exact wtk_b (by omega) | exact wtk_c (by omega) (by omega) (by omega) ‹_› | exact wtk_d (by omega) (by omega) (by omega) ‹_›)
section
variable {P : Program} {β : fY} {n : Nat} {Γ : Env} {H : List bX} {F : List bU} {K : Act → World → Prop} {T : Tab} {α : Type} {E : Flat α}
theorem St.recast'{c c':bX}{S:iK}{w:World}(s:St β (c::H) S w)(hb: ∀b,c'.blk=some b→c.blk=some b)(ok:c'.ok w):St β (c'::H) S w:=by
 have hs:=List.pairwise_cons.1 s.sep;refine⟨s.kept,fun d hd=>?_,fun d hd b h=>?_,List.pairwise_cons.2 ⟨fun d hd b h=>hs.1 d hd b (hb b h),hs.2⟩,s.zone⟩
 ·rcases List.mem_cons.1 hd with rfl | hd
  ·exact ok
  ·exact s.ok d (List.mem_cons_of_mem _ hd)
 ·rcases List.mem_cons.1 hd with rfl | hd
  ·exact s.own c (List.mem_cons_self ..) b (hb b h)
  ·exact s.own d (List.mem_cons_of_mem _ hd) b h
theorem bAl{b:Nat}{t:TypeId}{xs:List α}{H':List bX}(hH:fU H (.obj b (.cells (E.all xs).toArray t)) H')(h:At β n Γ (E.held (.slice (some ⟨b,0,none⟩) xs.length xs.length) xs::H') F K):At β n Γ H F K:=fun a w S f s k=>by
 have s2:=s.perm hH.perm;have hok:w.heap[b]?=some (.cells (E.all xs).toArray t):=s2.ok _ (List.mem_cons_self ..);refine h a w S f (s2.recast' (fun b' hb=>?_) ?_) k
 ·cases xs with
  | nil=>cases hb
  | cons x r=>exact hb
 ·cases xs with
  | nil=>exact⟨_,_,rfl,.inl rfl⟩
  | cons x r=>
   refine⟨_,_,rfl,.inr ⟨b,0,_,t,(0,0),rfl,hok,fun j u hj=>⟨?_,?_⟩⟩⟩
   ·rw [Nat.zero_add];exact hj
   ·simp
theorem bAz{v:Value}{xs:List α}{H':List bX}(hH:fU H (E.held v xs) H')(h:At β n Γ H' (E.sl v xs::F) K):At β n Γ H F K:=fun a w S f s k=>by
 have s2:=s.perm hH.perm;have hok:(E.held v xs).ok w:=s2.ok _ (List.mem_cons_self ..);have hsep:=List.pairwise_cons.1 s2.sep;have hown:=s2.own _ (List.mem_cons_self ..);have hmono:All F (fun b=>S b∨(E.held v xs).blk=some b) w:=All.mono (fun _ h=> .inl h) (fun _ _=>rfl) k;refine h a w (fun b=>S b∨(E.held v xs).blk=some b) f ⟨s2.kept,fun c hc=>s2.ok c (List.mem_cons_of_mem _ hc),fun c hc b hb=>?_,hsep.2,fun b hb=>?_⟩ (All.cons (wO hok fun b hb=> .inr hb) hmono)
 ·obtain⟨h1,h2,h3⟩:=s2.own c (List.mem_cons_of_mem _ hc) b hb;refine⟨h1,h2,fun h=>?_⟩
  rcases h with h | h
  ·exact h3 h
  ·exact hsep.1 c hc b h hb
 ·rcases hb with hb | hb
  ·exact s2.zone b hb
  ·obtain⟨h1,h2,_⟩:=hown b hb;exact⟨h1,.inr h2⟩
theorem nI{b:Nat}{cs:List Value}{t:TypeId}{L:List bX}{G:List bU}(h:bIs L G):bIs (.obj b (.cells cs.toArray t)::L) (bU.cells b 0 cs::G):=fun S w hok hS=>
 All.cons ⟨hS _ (List.mem_cons_self ..) b rfl,fun j u hj=>by
  have h0:w.heap[b]?=some (.cells cs.toArray t):=hok _ (List.mem_cons_self ..);unfold World.cell?;rw [h0]
  simpa using hj⟩ (h S w (fun c hc=>hok c (List.mem_cons_of_mem _ hc)) fun c hc=>hS c (List.mem_cons_of_mem _ hc))
theorem run_arrFrom(hT:gC P T){t e m sz k:Nat}{ei:TI}(ht:T.get t=some ⟨.array m e,sz⟩)(he:T.get e=some ei){b off:Nat}(hk:k≤m)(kk:IntKind)(w:World):
  (Instr.sliceAt t (.pointer (some ⟨b,off,none⟩)) (some (.int kk (k:Nat))) none none).run P w= .ok (.slice (some ⟨b,if m=k then off else off+k*ei.size,none⟩) (m-k) (m-k)) w:=by
 have ha:(⟨b,off,none⟩:Addr).add (k*ei.size)=⟨b,off+k*ei.size,none⟩:=Addr.add_mid _ _ _;unfold Instr.sliceAt;rw [Sem.run_bind,hT.array ht,Result.andThen_ok]
 have h1:(Instr.sliceBound (.int kk (k:Nat)) m .sliceB).run P w= .ok k w:=by
  rw [run_sliceBound w kk (k:Int) m .sliceB (by omega) (by omega),Int.toNat_natCast]
 simp only [Instr.sureAddr,Instr.sliceBounds,Sem.run_bind,Sem.run_pure,Result.andThen_ok,Option.isSome_none,Bool.false_eq_true,if_false,h1,hT.size he,ha]
 by_cases e0:m=k
 ·rw [if_pos e0,if_pos e0]
 ·rw [if_neg e0,if_neg e0]
theorem sti_arrFrom(hT:gC P T){o:Oper}{t e m sz k b off:Nat}{ei:TI}{x i:Operand}{kk:IntKind}{z:Int}(ho:o.op= .slice t x (some i) none none)(hx:Γ.ev x=some (.pointer (some ⟨b,off,none⟩)))(hi:Γ.ev i=some (.int kk z))
  (ht:T.get t=some ⟨.array m e,sz⟩) (he:T.get e=some ei) (hz:z=(k:Nat)) (hk:k≤m):Sti P β n Γ H F o (.slice (some ⟨b,if m=k then off else off+k*ei.size,none⟩) (m-k) (m-k)):=fun a w S f s hF=>by
 subst hz;unfold execOp;simp only [ho,f.ev hx,Option.map_some,Option.map_none,f.ev hi];rw [Sem.run_bind,run_arrFrom hT ht he hk];rfl
end
theorem mono_zero:(Tryz.prog.info? 75).bind (·.zero)=some (.agg #[.int .i64 0,.int .u8 0,.int .u8 0,.int .u8 0,.int .u8 0,.int .u8 0,.int .u8 0]):=by kernel_rfl
def EI (m:Mono):List Int:=[m.e0.toNat,m.e1.toNat,m.e2.toNat,m.e3.toNat,m.e4.toNat,m.e5.toNat]
def u8I:Flat Int where
 size:=1
 cells:=fun x=>[.int .u8 x]
 len:=fun _=>rfl
 one:=fun x u hu=>by simp at hu;subst hu;rfl
 pos:=by decide
theorem clamp_le(vars:Int):clampK vars≤6:=by unfold clampK;omega
theorem clamp_eq(vars:Int):(if (6:Int)<(if (0:Int)>vars then 0 else vars) then 6 else (if (0:Int)>vars then 0 else vars))=((clampK vars:Nat):Int):=by
 unfold clampK;split<;>split<;>omega
theorem bEj(m:Mono)(vars:Int):((EI m).drop (clampK vars)).length=6-clampK vars:=by
 rw [List.length_drop];rfl
theorem bHh{β:fY}{H H':List bX}{F:List bU}{b:Nat}{t:TypeId}{m:Mono}{k:Nat}(hH:fU H (.obj b (.cells m.cells.toArray t)) H'):cM β H F u8I (some ⟨b,if 6=k then 1 else 1+k*1,none⟩) ((EI m).drop k):=fun w S s hF j x hx=>by
 refine⟨⟨b,_,rfl⟩,fun q u hq=>?_⟩;have hj:=(List.getElem?_eq_some_iff.1 hx).1;rw [List.length_drop] at hj;have hj:j<6-k:=hj;rw [List.getElem?_drop] at hx
 have h0:=lG (β:=β) (F:=F) (off:=0) hH w S s hF (1+k+j) (.int .u8 x) (by
  show m.cells[1+k+j]?=_;have e:m.cells= .int .i64 m.n::(EI m).map (fun z=>Value.int .u8 z):=rfl;rw [e,show 1+k+j=(k+j)+1 by omega,List.getElem?_cons_succ,List.getElem?_map,hx]
  rfl)
 have hq0:q=0:=by
  have:=(List.getElem?_eq_some_iff.1 hq).1;simp [u8I] at this;exact this
 subst hq0;cases hq;show w.cell? ⟨b,(if 6=k then 1 else 1+k*1)+j*1+0,none⟩=_;rw [if_neg (by omega)];rw [show 1+k*1+j*1+0=0+(1+k+j) by omega];exact h0
def okM (k:Nat)(m:Mono):Bool:=(m.E.drop k).all (fun e=>e==0)
theorem okM_eq(k:Nat)(m:Mono):okM k m=((EI m).drop k).all (fun e=>e==0):=by
 have e:EI m=m.E.map fun e=>((e.toNat:Nat):Int):=rfl;unfold okM;rw [e,←List.map_drop,List.all_map]
 congr 1
 funext u
 rw [Bool.eq_iff_iff];simp [←UInt8.toNat_inj]
theorem jJ{α:Type}{p:α→Bool}{l:List α}{i:Nat}{x:α}(h:(l.take i).all p=true)(hx:l[i]?=some x)(k:p x=true):(l.take (i+1)).all p=true:=by
 obtain⟨hi,e⟩:=List.getElem?_eq_some_iff.1 hx;rw [List.take_succ_eq_append_getElem hi,e,List.all_append,h];simp [k]
theorem oH{α:Type}{p:α→Bool}{l:List α}{i:Nat}(h:(l.take i).all p=true)(hi:l.length≤i):l.all p=true:=by
 rwa [List.take_of_length_le hi] at h
theorem oW{α:Type}{p:α→Bool}{l:List α}{i:Nat}{x:α}(hx:l[i]?=some x)(k:p x=false):l.all p=false:=List.all_eq_false.2 ⟨x,List.mem_of_getElem? hx,by simp [k]⟩
theorem okM_end{k j:Nat}{m:Mono}(h:(((EI m).drop k).take j).all (fun e=>e==0)=true)(hj:((EI m).drop k).length≤j):okM k m=true:=by
 rw [okM_eq];exact oH h hj
theorem okM_bad{k j:Nat}{m:Mono}{e:Int}(hx:((EI m).drop k)[j]?=some e)(h:e≠0):okM k m=false:=by
 rw [okM_eq];exact oW hx (by simp [h])
theorem ei_ge{k j:Nat}{m:Mono}{e:Int}(hx:((EI m).drop k)[j]?=some e):0≤e:=by
 have:=List.mem_of_mem_drop (List.mem_of_getElem? hx);simp [EI] at this;omega
theorem le_zero{e:Int}(h:e≤0)(k:0≤e):e=0:=by omega
theorem of_bad{p:List Mono}{vars:Int}{i:Nat}{m:Mono}(hx:p[i]?=some m)(h:okM (clampK vars) m=false):Value.bool false= .bool (ofB p vars):=by
 unfold ofB;rw [show p.all (fun m=>(m.E.drop (clampK vars)).all (fun e=>e==0))=false from oW hx h];rfl
theorem of_end{p:List Mono}{vars:Int}(h:p.all (okM (clampK vars))=true):Value.bool (fX p)= .bool (ofB p vars):=by
 unfold ofB;rw [show p.all (fun m=>(m.E.drop (clampK vars)).all (fun e=>e==0))=true from h];rfl
theorem xA{l:List (List Mono)}{vars:Int}{i:Nat}{p:List Mono}(hx:l[i]?=some p)(h:(ofB p vars&&iO p)=false):Value.bool false= .bool (gU l vars):=by
 unfold gU;rw [oW hx h];rfl
theorem grow_end{l:List PolV}{vars:Int}(h:(polsL l).all (fun p=>ofB p vars&&iO p)=true):Value.bool (decide ((l.length:Int)≤4))= .bool (gU (polsL l) vars):=by
 unfold gU;rw [h,dC,Bool.true_and]
 congr 1
 rw [decide_eq_decide];omega
set_option maxRecDepth 100000 in
theorem of_spec(p:PolV)(vars:Int):dM Tryz.prog 71 [.slice p.addr p.list.length p.cap,.int .i64 vars] [] [lS p] (fun(_:Unit)=> .bool (ofB p.list vars)) (fun _=>[]) (fun _=>[]):=by
 have hT:=gD;refine cO Tryz.func71 rfl Tryz.ntmps71 rfl ?_;intro β hM;refine bE<|cD (jH (Has.of mT0)) fun hp=>?_;refine cL (bAn.sl (.slice p.addr p.list.length p.cap) p.list) (polsF_sl (Has.of mT0)) ?_;refine bB<|sp hT ?_;refine nn<|bE<|sr<|sp3 hT ?_;refine nn<|bW<|cX (ι:=Nat) [(0,_),(1,_),(9,_),(10,_)] ⟨rfl,rfl,rfl,rfl,trivial⟩ (fun i=>[(11,.int .i64 (i:Nat))]) (fun _=>[]) (fun i=>[bU.pure (i≤p.list.length∧(p.list.take i).all (okM (clampK vars))=true)]) (fun i=>p.list.length-i) 0 ⟨rfl,trivial⟩ .nil ⟨Has.pure (⟨by omega,rfl⟩),trivial⟩ ?_;rintro i;refine cD (Has.of mT0) fun hinv2=>?_;refine sr<|sp hT ?_;refine nn<|bE<|bL rfl (fun hc12=>?_) (fun hc12=>?_)
 ·have hc12:=of_decide_eq_true hc12;refine bO<|bC<|bE<|bW<|sr ?_
  obtain⟨x1,hx2⟩: ∃x',p.list[i]?=some x':=⟨_,List.getElem?_eq_getElem (by omega)⟩
  refine ss (bV hT (k:=i) (bP (Has.of mT1)) rfl rfl rfl rfl rfl rfl rfl (by omega)) ?_;refine ss (dT hT (cM.knows (bP (Has.of mT1)) (k:=i) (x:=x1) hx2 0) rfl rfl rfl rfl rfl) ?_;refine gP rfl rfl rfl rfl mono_zero rfl fun b3=>?_;refine sto hT .head ?_;refine nn<|sr<|sp4 hT ?_;refine bZ (z':=((clampK vars:Nat):Int)) (clamp_eq vars) ?_;have hcl:=clamp_le vars;refine ss (sti_arrFrom hT (k:=clampK vars) rfl rfl rfl rfl rfl rfl (clamp_le vars)) ?_;refine sp hT ?_;refine bZ (z':=(((6-clampK vars):Nat):Int)) (rfl) ?_;refine sp hT ?_;refine nn<|bW<|cX (ι:=Nat) [(0,_),(1,_),(9,_),(10,_),(11,_),(19,_),(20,_)] ⟨rfl,rfl,rfl,rfl,rfl,rfl,rfl,trivial⟩ (fun j=>[(21,.int .i64 (j:Nat))]) (fun _=>[]) (fun j=>[bU.pure (j≤6-clampK vars∧(((EI x1).drop (clampK vars)).take j).all (fun e=>e==0)=true)]) (fun j=>6-clampK vars-j) 0 ⟨rfl,trivial⟩ .nil ⟨Has.pure (⟨by omega,rfl⟩),trivial⟩ ?_;rintro j;refine cD (Has.of mT0) fun hinv5=>?_;refine sr<|sp hT ?_;refine nn<|bE<|bL rfl (fun hc22=>?_) (fun hc22=>?_)
  ·have hc22:=of_decide_eq_true hc22;refine bO<|bC<|bE<|bW<|sr ?_
   obtain⟨x4,hx5⟩: ∃x',((EI x1).drop (clampK vars))[j]?=some x':=⟨_,List.getElem?_eq_getElem (by rw [bEj];omega)⟩
   refine ss (bV hT (k:=j) (bHh .head) rfl rfl rfl rfl rfl (bEj x1 vars).symm rfl (by rw [bEj];omega)) ?_;refine ss (bR hT (cM.knows (bHh .head) (k:=j) (x:=x4) hx5 0) rfl rfl rfl rfl rfl) ?_;refine sp hT ?_;refine nn<|sr<|sp2 hT ?_;refine nn<|bL rfl (fun hc26=>?_) (fun hc26=>?_)
   ·have hc26:=of_decide_eq_true hc26;refine sr<|sp hT ?_;refine nn<|bI<|bM<|bH<|bH<|bM<|bM<|bH<|bH<|bM<|bH ?_;exact bN () rfl (bD rfl) .nil trivial (of_bad hx2 (okM_bad hx5 (by omega)))
   have hc26:=Int.not_lt.1 (of_decide_eq_false hc26);refine bO<|bY<|bC<|bB<|sp hT ?_;refine bZ (z':=(((j+1):Nat):Int)) (cV (by omega) (by omega)) ?_;refine sp hT ?_;refine nn ?_;exact cJ (j+1) (by omega) ⟨rfl,trivial⟩ ⟨rfl,rfl,rfl,rfl,rfl,rfl,rfl,trivial⟩ (.cons .head .nil) ⟨Has.pure (⟨by omega,jJ hinv5.2 hx5 (beq_iff_eq.2 (le_zero ‹_› (ei_ge hx5)))⟩),trivial⟩ (bQ.drop 1)
  have hc22:=Int.not_lt.1 (of_decide_eq_false hc22);refine cU<|cI<|cI<|cT<|bY<|bC<|bB<|sp hT ?_;refine bZ (z':=(((i+1):Nat):Int)) (cV (by omega) (by omega)) ?_;refine sp hT ?_;refine nn ?_;exact cJ (i+1) (by omega) ⟨rfl,trivial⟩ ⟨rfl,rfl,rfl,rfl,trivial⟩ .nil ⟨Has.pure (⟨by omega,jJ hinv2.2 hx2 (okM_end hinv5.2 (by rw [bEj];omega))⟩),trivial⟩ (bQ.drop 2)
 have hc12:=Int.not_lt.1 (of_decide_eq_false hc12);refine cU<|cI<|cI<|cT<|bC<|sr<|sp hT ?_;refine cK Tryz.func136 (polR_spec p hp) rfl rfl .nil ⟨(Has.of mT2),trivial⟩ fun _=>?_;refine sp hT ?_;refine nn<|bI ?_;exact bN () rfl (bD rfl) .nil trivial (of_end (oH hinv2.2 (by omega)))
set_option maxRecDepth 100000 in
theorem bJd(l:Sl PolV)(vars:Int):dM Tryz.prog 33 [.slice l.addr l.list.length l.cap,.int .i64 vars] [] [mD l] (fun(_:Unit)=> .bool (gU (polsL l.list) vars)) (fun _=>[]) (fun _=>[]):=by
 have hT:=gD;refine cO Tryz.func33 rfl Tryz.ntmps33 rfl ?_;intro β hM;refine bE<|cD (xS (Has.of mT0)) fun hlz=>?_;have hlz2:=hlz.2;refine cL (pX.sl (.slice l.addr l.list.length l.cap) l.list) (sJ (Has.of mT0)) ?_;refine bB<|sp hT ?_;refine nn<|bE<|sr<|sp3 hT ?_;refine nn<|bW<|cX (ι:=Nat) [(0,_),(1,_),(7,_),(8,_)] ⟨rfl,rfl,rfl,rfl,trivial⟩ (fun i=>[(9,.int .i64 (i:Nat))]) (fun _=>[]) (fun i=>[bU.pure (i≤l.list.length∧((polsL l.list).take i).all (fun p=>ofB p vars&&iO p)=true)]) (fun i=>l.list.length-i) 0 ⟨rfl,trivial⟩ .nil ⟨Has.pure (⟨by omega,rfl⟩),trivial⟩ ?_;rintro i;refine cD (Has.of mT0) fun hinv2=>?_;refine sr<|sp hT ?_;refine nn<|bE<|bL rfl (fun hc10=>?_) (fun hc10=>?_)
 ·have hc10:=of_decide_eq_true hc10;refine bO<|bC<|bE<|bW<|sr ?_
  obtain⟨x1,hx2⟩: ∃x',l.list[i]?=some x':=⟨_,List.getElem?_eq_getElem (by omega)⟩
  refine ss (bV hT (k:=i) (bP (Has.of mT1)) rfl rfl rfl rfl rfl rfl rfl (by omega)) ?_;refine ss (bR hT (cM.knows (bP (Has.of mT1)) (k:=i) (x:=x1) hx2 0) rfl rfl rfl rfl rfl) ?_;refine sp hT ?_;refine nn<|bE<|cL (lS x1) (Has.each (sN (Has.of mT2)) (List.mem_of_getElem? hx2)) ?_;refine cD (jH (Has.of mT0)) fun hpx1=>?_;refine bB<|sp2 hT ?_;refine cK Tryz.func71 (of_spec x1 vars) rfl rfl .nil ⟨(Has.of mT0),trivial⟩ fun _=>?_;refine sp2 hT ?_;refine cB (fun hg17=>?_) (fun hg17=>?_)
  ·have hg17:=gR hg17;refine sk3 ?_;refine sp hT ?_;refine nn<|cG rfl rfl ?_;refine sr<|sp hT ?_;refine nn<|bI<|bM<|bH<|bH<|bM<|bH ?_;exact bN () rfl (bD rfl) .nil trivial (xA (dQ hx2) (by simp_all))
  have hg17:=gS hg17;refine sp hT ?_;refine cK Tryz.func72 (bFg x1 hpx1) rfl rfl .nil ⟨(Has.of mT0),trivial⟩ fun _=>?_;refine sp2 hT ?_;refine nn<|bL rfl (fun hc21=>?_) (fun hc21=>?_)
  ·have hc21:=gR hc21;refine sr<|sp hT ?_;refine nn<|bI<|bM<|bH<|bH<|bM<|bH ?_;exact bN () rfl (bD rfl) .nil trivial (xA (dQ hx2) (by simp_all))
  have hc21:=gS hc21;refine bO<|bY<|bC<|bB<|sp hT ?_;refine bZ (z':=(((i+1):Nat):Int)) (cV (by omega) (by omega)) ?_;refine sp hT ?_;refine nn ?_;exact cJ (i+1) (by omega) ⟨rfl,trivial⟩ ⟨rfl,rfl,rfl,rfl,trivial⟩ .nil ⟨Has.pure (⟨by omega,jJ hinv2.2 (dQ hx2) (by simp_all)⟩),trivial⟩ (bQ.drop 2)
 have hc10:=Int.not_lt.1 (of_decide_eq_false hc10);refine cU<|cI<|cI<|cT<|bC<|sr<|sp4 hT ?_;refine nn<|bI ?_;exact bN () rfl (bD rfl) .nil trivial (grow_end (oH hinv2.2 (by rw [dC];omega)))
end Go.Proofs.YtnmhcaahkaocgaaGreatDoor
