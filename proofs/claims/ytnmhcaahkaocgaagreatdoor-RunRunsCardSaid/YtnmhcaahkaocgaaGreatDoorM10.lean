/- Texts of one proof, one behind the other: MapI, MapS, Ints, Full, TysU, UA, UB, UC, Invo. -/
import Derived.Test.YtnmhcaahkaocgaaGreatDoorM7
import Derived.MapKept
import Derived.ChangeMaps5
import Derived.WideKeyEntry
import Derived.Lib.AppendStr
import Derived.Lib.UnsafeStr
import Derived.Lib.Builder
import Derived.Deep.AppendSrc
import Derived.Deep.Upon
import Derived.Test.YtnmhcaahkaocgaaGreatDoorM9
import Derived.Test.YtnmhcaahkaocgaaGreatDoorM4
import Derived.Test.YtnmhcaahkaocgaaGreatDoorM1
namespace Go.Proofs.YtnmhcaahkaocgaaGreatDoor
open Go.RowKit
open Go.ChangeMaps (setBlock)
end Go.Proofs.YtnmhcaahkaocgaaGreatDoor
namespace Go.Proofs.YtnmhcaahkaocgaaGreatDoor
open Go.RowKit
open Go.ChangeMaps (setBlock)
end Go.Proofs.YtnmhcaahkaocgaaGreatDoor
namespace Go.Proofs.YtnmhcaahkaocgaaGreatDoor
open Go.RowKit
section
variable {P : Program} {β : fY} {n : Nat} {Γ : Env} {H : List bX} {F : List bU} {o : Oper}
theorem yG{t tt:TypeId}{x y:Operand}{k:IntKind}{a b:Int}(ho:o.op= .binOp .quo t x y tt)(hx:Γ.ev x=some (.int k a))(hy:Γ.ev y=some (.int k b))(hb:b≠0):Sti P β n Γ H F o (.int k (k.wrap (a.tdiv b))):=fun c w S f s _=>by
 unfold execOp;simp only [ho,f.ev hx,f.ev hy];simp [eqGuard,binOp,Op.intDiv,hb]
theorem yE{t tt:TypeId}{x y:Operand}{k:IntKind}{a b:Int}(ho:o.op= .binOp .rem t x y tt)(hx:Γ.ev x=some (.int k a))(hy:Γ.ev y=some (.int k b))(hb:b≠0):Sti P β n Γ H F o (.int k (a.tmod b)):=fun c w S f s _=>by
 unfold execOp;simp only [ho,f.ev hx,f.ev hy];simp [eqGuard,binOp,Op.intDiv,hb]
theorem sti_half{t tt:TypeId}{x y:Operand}{k k':IntKind}{a:Int}(ho:o.op= .binOp .shr t x y tt)(hx:Γ.ev x=some (.int k a))(hy:Γ.ev y=some (.int k' 1))(hk:1≤k.bits):Sti P β n Γ H F o (.int k (a.fdiv 2)):=fun c w S f s _=>by
 unfold execOp;simp only [ho,f.ev hx,f.ev hy];have e:min 1 k.bits=1:=by omega
 simp [eqGuard,binOp,Op.shift,e]
theorem sti_xorI{t tt:TypeId}{x y:Operand}{k:IntKind}{a b:Int}(ho:o.op= .binOp .xor t x y tt)(hx:Γ.ev x=some (.int k a))(hy:Γ.ev y=some (.int k b)):Sti P β n Γ H F o (.int k (k.wrap ((BitVec.ofInt k.bits a^^^BitVec.ofInt k.bits b).toNat:Nat))):=fun c w S f s _=>by
 unfold execOp;simp only [ho,f.ev hx,f.ev hy];simp [eqGuard,binOp,Op.intBits]
end
theorem halfN(a:Nat):((a:Int).fdiv 2)=((a/2:Nat):Int):=by
 rw [Int.fdiv_eq_ediv_of_nonneg _ (by omega)];omega
section
variable {P : Program} {β : fY} {n : Nat} {Γ : Env} {H : List bX} {F : List bU} {Q : Exit → Act → World → Prop} {K : Act → World → Prop} {T : Tab} {α : Type} {E : Flat α}
theorem cM.cells{A:Option Addr}{xs:List α}{w:World}{S:iK}(hr:cM β H F E A xs)(s:St β H S w)(hF:All F S w)(h0:0<xs.length):
  ∃b off,A=some ⟨b,off,none⟩∧ ∀j u,(E.all xs)[j]?=some u→w.cell? ((⟨b,off,none⟩:Addr).add j)=some u:=by
 obtain⟨⟨b,off,rfl⟩,_⟩:=hr w S s hF 0 _ (List.getElem?_eq_getElem h0);refine⟨b,off,rfl,fun j u hj=>?_⟩;have hlt:=(List.getElem?_eq_some_iff.1 hj).1;rw [E.all_length] at hlt;have hk:j/E.size<xs.length:=Nat.div_lt_of_lt_mul (by rwa [Nat.mul_comm] at hlt);have hm:j%E.size<E.size:=Nat.mod_lt _ E.pos;have hx':=List.getElem?_eq_getElem hk;have hu':=List.getElem?_eq_getElem (l:=E.cells xs[j/E.size]) (i:=j%E.size) (by rw [E.len];exact hm);have e:j/E.size*E.size+j%E.size=j:=by rw [Nat.mul_comm];exact Nat.div_add_mod j E.size
 have h1:=(hr w S s hF _ _ hx').2 _ _ hu';have h2:=E.all_get hx' hu';rw [e,hj] at h2;injection h2 with h2
 have h3:=h1.trans (congrArg some h2.symm);rw [Nat.add_assoc,e] at h3;rw [Addr.add_mid];exact h3
theorem cM.tail{A:Option Addr}{xs:List α}{c:bX}(hr:cM β H F E A xs):cM β (c::H) F E A xs:=fun w S s hF=>hr w S s.tail hF
theorem St.recast{c c':bX}{S:iK}{w:World}(s:St β (c::H) S w)(hb: ∀b,c'.blk=some b→c.blk=some b)(ok:c'.ok w):St β (c'::H) S w:=by
 have hs:=List.pairwise_cons.1 s.sep;refine⟨s.kept,fun d hd=>?_,fun d hd b h=>?_,List.pairwise_cons.2 ⟨fun d hd b h=>hs.1 d hd b (hb b h),hs.2⟩,s.zone⟩
 ·rcases List.mem_cons.1 hd with rfl | hd
  ·exact ok
  ·exact s.ok d (List.mem_cons_of_mem _ hd)
 ·rcases List.mem_cons.1 hd with rfl | hd
  ·exact s.own c (List.mem_cons_self ..) b (hb b h)
  ·exact s.own d (List.mem_cons_of_mem _ hd) b h
theorem qG{v:Value}{t:TypeId}{xs:List α}{H':List bX}(hH:fU H (E.row v t xs) H')(h:At β n Γ (E.held v xs::H') F K):At β n Γ H F K:=fun a w S f s k=>by
 have s2:=s.perm hH.perm;have hok:w.ownsRow 0 t E.size v xs.length (E.all xs):=s2.ok _ (List.mem_cons_self ..);refine h a w S f (s2.recast (fun b hb=>?_) ?_) k
 ·cases xs with
  | nil=>cases hb
  | cons x r=>exact hb
 ·rcases hok.2 with ⟨e,e0⟩ | ⟨g,cap,cur,e,_,hg,hnc,hcm,hcs,ht⟩
  ·have:xs=[]:=List.eq_nil_of_length_eq_zero e0;subst this;exact⟨none,0,e,.inl rfl⟩
  ·subst e
   cases xs with
   | nil=>exact⟨_,cap,rfl,.inl rfl⟩
   | cons x r=>
    refine⟨_,cap,rfl,.inr ⟨g,0,cur,t,(0,0),rfl,hg,fun j u hj=>⟨?_,?_⟩⟩⟩
    ·rw [Nat.zero_add];rw [←ht,List.getElem?_take] at hj;split at hj
     ·exact hj
     ·cases hj
    ·simp
theorem bFw{v:Value}{xs:List α}{H':List bX}(hH:fU H (E.held v xs) H')(h:At β n Γ H' (E.sl v xs::F) K):At β n Γ H F K:=fun a w S f s k=>by
 have s2:=s.perm hH.perm;have hok:(E.held v xs).ok w:=s2.ok _ (List.mem_cons_self ..);have hsep:=List.pairwise_cons.1 s2.sep;have hown:=s2.own _ (List.mem_cons_self ..);have hmono:All F (fun b=>S b∨(E.held v xs).blk=some b) w:=All.mono (fun _ h=> .inl h) (fun _ _=>rfl) k;refine h a w (fun b=>S b∨(E.held v xs).blk=some b) f ⟨s2.kept,fun c hc=>s2.ok c (List.mem_cons_of_mem _ hc),fun c hc b hb=>?_,hsep.2,fun b hb=>?_⟩ (All.cons (wO hok fun b hb=> .inr hb) hmono)
 ·obtain⟨h1,h2,h3⟩:=s2.own c (List.mem_cons_of_mem _ hc) b hb;refine⟨h1,h2,fun h=>?_⟩
  rcases h with h | h
  ·exact h3 h
  ·exact hsep.1 c hc b h hb
 ·rcases hb with hb | hb
  ·exact s2.zone b hb
  ·obtain⟨h1,h2,_⟩:=hown b hb;exact⟨h1,.inr h2⟩
end
end Go.Proofs.YtnmhcaahkaocgaaGreatDoor
namespace Go.Proofs.YtnmhcaahkaocgaaGreatDoor
open Go.RowKit Go.ChangeShapes Go.WideShapes
def tD:Flat (Sl Int):=slE Int
structure ArrV where
 sides:(Sl Int)
 data:(Sl Int)
 deriving Inhabited
def jQ:Flat ArrV where
 size:=2
 cells:=fun x=>[.slice x.sides.addr x.sides.list.length x.sides.cap,.slice x.data.addr x.data.list.length x.data.cap]
 len:=fun _=>rfl
 one:=fun x u hu=>by
  simp at hu
  rcases hu with rfl | rfl<;>rfl
 pos:=by decide
structure gF where
 core:iN
 dims:(Sl Int)
 mem:(Sl (Sl Int))
 turns:Int
 stack:(Sl Int)
 deriving Inhabited
def runT:Tab:=[(3,⟨.int .i64,1⟩),(2,⟨.int .i64,1⟩),(5,⟨.int .u8,1⟩),(4,⟨.bool,1⟩),(58,⟨.int .u8,1⟩),(32,⟨.int .i64,1⟩),(47,⟨.slice 75,1⟩),(41,⟨.slice 47,1⟩),(72,⟨.struct [(3,0),(3,1),(2,2),(47,3),(58,4)],5⟩),(59,⟨.slice 72,1⟩),(45,⟨.struct [(41,0),(3,1)],2⟩),(27,⟨.slice 45,1⟩),(61,⟨.struct [(3,0),(3,1),(47,2),(41,3),(58,4),(59,5)],6⟩),(28,⟨.slice 61,1⟩),(29,⟨.slice 3,1⟩),(57,⟨.slice 4,1⟩),(31,⟨.struct [(3,0),(27,1),(28,2),(29,3)],4⟩),(114,⟨.struct [(3,0),(3,1),(3,2),(57,3)],4⟩),(63,⟨.slice 2,1⟩),(123,⟨.slice 63,1⟩),(77,⟨.struct [(63,0),(63,1)],2⟩),(64,⟨.slice 77,1⟩),(125,⟨.struct [(31,0),(63,4),(123,5),(2,6),(63,7)],8⟩),(132,⟨.struct [(31,0),(63,4),(123,5),(2,6)],7⟩),(111,⟨.array 64 4,64⟩),(75,⟨.struct [(2,0),(73,1)],7⟩),(73,⟨.array 6 5,6⟩),(224,⟨.slice 5,1⟩),(304,⟨.int .u64,1⟩),(112,⟨.other,1⟩),(177,⟨.other,1⟩),(118,⟨.other,1⟩),(181,⟨.other,1⟩),(122,⟨.other,1⟩),(130,⟨.other,1⟩),(195,⟨.other,1⟩),(189,⟨.other,1⟩),(277,⟨.int .u64,1⟩),(368,⟨.other,1⟩)]
theorem cZ:gC Tryz.prog runT:=tO.ok
 ⟨⟨by rw [Tryz.underlying3];rfl,by kernel_rfl⟩,
  ⟨by rw [Tryz.underlying2];rfl,by kernel_rfl⟩,
  ⟨by rw [Tryz.underlying5];rfl,by kernel_rfl⟩,
  ⟨by rw [Tryz.underlying4];rfl,by kernel_rfl⟩,
  ⟨by rw [Tryz.underlying58];rfl,by kernel_rfl⟩,
  ⟨by rw [Tryz.underlying32];rfl,by kernel_rfl⟩,
  ⟨by rw [Tryz.underlying47];rfl,by kernel_rfl⟩,
  ⟨by rw [Tryz.underlying41];rfl,by kernel_rfl⟩,
  ⟨by rw [Tryz.underlying72];rfl,by kernel_rfl⟩,
  ⟨by rw [Tryz.underlying59];rfl,by kernel_rfl⟩,
  ⟨by rw [Tryz.underlying45];rfl,by kernel_rfl⟩,
  ⟨by rw [Tryz.underlying27];rfl,by kernel_rfl⟩,
  ⟨by rw [Tryz.underlying61];rfl,by kernel_rfl⟩,
  ⟨by rw [Tryz.underlying28];rfl,by kernel_rfl⟩,
  ⟨by rw [Tryz.underlying29];rfl,by kernel_rfl⟩,
  ⟨by rw [Tryz.underlying57];rfl,by kernel_rfl⟩,
  ⟨by rw [Tryz.underlying31];rfl,by kernel_rfl⟩,
  ⟨by rw [Tryz.underlying114];rfl,by kernel_rfl⟩,
  ⟨by rw [Tryz.underlying63];rfl,by kernel_rfl⟩,
  ⟨by rw [Tryz.underlying123];rfl,by kernel_rfl⟩,
  ⟨by rw [Tryz.underlying77];rfl,by kernel_rfl⟩,
  ⟨by rw [Tryz.underlying64];rfl,by kernel_rfl⟩,
  ⟨by rw [Tryz.underlying125];rfl,by kernel_rfl⟩,
  ⟨by rw [Tryz.underlying132];rfl,by kernel_rfl⟩,
  ⟨by rw [Tryz.underlying111];rfl,by kernel_rfl⟩,
  ⟨by rw [Tryz.underlying75];rfl,by kernel_rfl⟩,
  ⟨by rw [Tryz.underlying73];rfl,by kernel_rfl⟩,
  ⟨by rw [Tryz.underlying224];rfl,by kernel_rfl⟩,
  ⟨by rw [Tryz.underlying304];rfl,by kernel_rfl⟩,
  ⟨by rw [Tryz.underlying112];rfl,by kernel_rfl⟩,
  ⟨by rw [Tryz.underlying177];rfl,by kernel_rfl⟩,
  ⟨by rw [Tryz.underlying118];rfl,by kernel_rfl⟩,
  ⟨by rw [Tryz.underlying181];rfl,by kernel_rfl⟩,
  ⟨by rw [Tryz.underlying122];rfl,by kernel_rfl⟩,
  ⟨by rw [Tryz.underlying130];rfl,by kernel_rfl⟩,
  ⟨by rw [Tryz.underlying195];rfl,by kernel_rfl⟩,
  ⟨by rw [Tryz.underlying189];rfl,by kernel_rfl⟩,
  ⟨by rw [Tryz.underlying277];rfl,by kernel_rfl⟩,
  ⟨by rw [Tryz.underlying368];rfl,by kernel_rfl⟩,trivial⟩
theorem intsInfo: ∃i:TypeInfo,Tryz.prog.info? 63=some i∧i.zero=some (.slice none 0 0)∧i.size=1∧i.bytes=24:=by
 have h:(Tryz.prog.info? 63).map (fun i=>(i.zero,i.size,i.bytes))=some (some (.slice none 0 0),1,24):=by kernel_rfl
 cases hi:Tryz.prog.info? 63 with
 | none=>simp [hi] at h
 | some i=>simp [hi] at h;exact⟨i,rfl,h.1,h.2.1,h.2.2⟩
theorem pV{β:fY}{n:Nat}{Γ:Env}{H:List bX}{F:List bU}{Q:Exit→Act→World→Prop}{ops:Array Oper}{rest:List Oper}{o:Oper}{d:Nat}{x:Operand}{m:(Sl Int)}(hw:want ops Γ o=some true)(ho:o.op= .buildSlice 123 1 #[(0,x)])(hd:o.dst=some d)(hn:Nat.blt d n=true)
  (hx:Γ.ev x=some (.slice m.addr m.list.length m.cap)) (k: ∀b,At β n ((d,.slice (some ⟨b,0,none⟩) 1 1)::Γ) (.obj b (.cells (tD.all [m]).toArray 63)::H) F (wpList Tryz.prog ops Q rest)):At β n Γ H F (wpList Tryz.prog ops Q (o::rest)):=by
 obtain⟨i,hi,hz,hs,_⟩:=intsInfo;refine rU hw ho hd hn hx Tryz.underlying123 hi hz (by omega) (by omega) ?_ k;rw [hs]
 kernel_rfl
theorem qD{β:fY}{n:Nat}{Γ:Env}{H:List bX}{F:List bU}{Q:Exit→Act→World→Prop}{ops:Array Oper}{rest:List Oper}{o:Oper}{d:Nat}{x y:Operand}{c q:Nat}{v:Value}{A:Option Addr}{xs ys:List (Sl Int)}{H':List bX}(hH:fU H (tD.row v 63 xs) H')(hr:cM β H F tD A ys)(hg:o.guard=none)
  (ho:o.op= .call {callee:= .builtin .append,args:= #[x,y],argTypes:= #[123,123]}) (hd:o.dst=some d) (hn:Nat.blt d n=true)
  (hx:Γ.ev x=some v) (hy:Γ.ev y=some (.slice A q c)) (hq:q=ys.length) (hl:xs.length+ys.length≤5864062014805)
  (k: ∀A' cap',At β n ((d,.slice A' (xs++ys).length cap')::Γ) (tD.row (.slice A' (xs++ys).length cap') 63 (xs++ys)::H') F (wpList Tryz.prog ops Q rest)):At β n Γ H F (wpList Tryz.prog ops Q (o::rest)):=by
 obtain⟨i,hi,hz,hs,hb⟩:=intsInfo;exact nT hH hr hg ho hd hn Tryz.underlying123 hi hz hs hb rfl hx hy hq (by omega) (by decide) k
theorem arrInfo: ∃i:TypeInfo,Tryz.prog.info? 77=some i∧i.zero=some (.agg #[.slice none 0 0,.slice none 0 0])∧i.size=2∧i.bytes=48:=by
 have h:(Tryz.prog.info? 77).map (fun i=>(i.zero,i.size,i.bytes))=some (some (.agg #[.slice none 0 0,.slice none 0 0]),2,48):=by kernel_rfl
 cases hi:Tryz.prog.info? 77 with
 | none=>simp [hi] at h
 | some i=>simp [hi] at h;exact⟨i,rfl,h.1,h.2.1,h.2.2⟩
theorem bDc{β:fY}{n:Nat}{Γ:Env}{H:List bX}{F:List bU}{Q:Exit→Act→World→Prop}{ops:Array Oper}{rest:List Oper}{o:Oper}{d:Nat}{x:Operand}{m:ArrV}(hw:want ops Γ o=some true)(ho:o.op= .buildSlice 64 1 #[(0,x)])(hd:o.dst=some d)(hn:Nat.blt d n=true)
  (hx:Γ.ev x=some (.agg #[.slice m.sides.addr m.sides.list.length m.sides.cap,.slice m.data.addr m.data.list.length m.data.cap])) (k: ∀b,At β n ((d,.slice (some ⟨b,0,none⟩) 1 1)::Γ) (.obj b (.cells (jQ.all [m]).toArray 77)::H) F (wpList Tryz.prog ops Q rest)):At β n Γ H F (wpList Tryz.prog ops Q (o::rest)):=by
 obtain⟨i,hi,hz,hs,_⟩:=arrInfo;refine rU hw ho hd hn hx Tryz.underlying64 hi hz (by omega) (by omega) ?_ k;rw [hs]
 kernel_rfl
theorem bEq{β:fY}{n:Nat}{Γ:Env}{H:List bX}{F:List bU}{Q:Exit→Act→World→Prop}{ops:Array Oper}{rest:List Oper}{o:Oper}{d:Nat}{x y:Operand}{c q:Nat}{v:Value}{A:Option Addr}{xs ys:List ArrV}{H':List bX}(hH:fU H (jQ.row v 77 xs) H')(hr:cM β H F jQ A ys)(hg:o.guard=none)
  (ho:o.op= .call {callee:= .builtin .append,args:= #[x,y],argTypes:= #[64,64]}) (hd:o.dst=some d) (hn:Nat.blt d n=true)
  (hx:Γ.ev x=some v) (hy:Γ.ev y=some (.slice A q c)) (hq:q=ys.length) (hl:xs.length+ys.length≤2932031007402)
  (k: ∀A' cap',At β n ((d,.slice A' (xs++ys).length cap')::Γ) (jQ.row (.slice A' (xs++ys).length cap') 77 (xs++ys)::H') F (wpList Tryz.prog ops Q rest)):At β n Γ H F (wpList Tryz.prog ops Q (o::rest)):=by
 obtain⟨i,hi,hz,hs,hb⟩:=arrInfo;exact nT hH hr hg ho hd hn Tryz.underlying64 hi hz hs hb rfl hx hy hq (by omega) (by decide) k
def ArrV.arr(x:ArrV):Arr:=⟨x.sides.list,x.data.list⟩
def uI (x:ArrV):bU:=(xK x.sides).and (xK x.data)
theorem arrF_s{F:List bU}{x:ArrV}(h:Has F (uI x)):Has F (cQ.sl (.slice x.sides.addr x.sides.list.length x.sides.cap) x.sides.list):=rW h.left
theorem arrF_d{F:List bU}{x:ArrV}(h:Has F (uI x)):Has F (cQ.sl (.slice x.data.addr x.data.list.length x.data.cap) x.data.list):=rW h.right
theorem arrF_sz{F:List bU}{x:ArrV}(h:Has F (uI x)):Has F (bU.pure (x.sides.list.length≤17592186044416∧x.data.list.length≤17592186044416)):=fun S w k=>by
 have h1:x.sides.list.length≤x.sides.cap∧x.sides.list.length*8≤140737488355328:=h.left.right S w k;have h2:x.data.list.length≤x.data.cap∧x.data.list.length*8≤140737488355328:=h.right.right S w k;exact⟨by omega,by omega⟩
def memC (x:Sl Int):bX:=cQ.held (.slice x.addr x.list.length x.cap) x.list
def pU (l:List (Sl Int)):List bX:=l.map memC
theorem take_of{H:List bX}{c:bX}(h:c∈H): ∃H',fU H c H':=by
 induction H with
 | nil=>cases h
 | cons d H ih=>
  rcases List.mem_cons.1 h with rfl | h
  ·exact⟨H,.head⟩
  ·obtain⟨H',t⟩:=ih h;exact⟨d::H',.tail t⟩
theorem pB{β:fY}{H:List bX}{F:List bU}{x:Sl Int}(h:memC x∈H):cM β H F cQ x.addr x.list:=by
 obtain⟨H',t⟩:=take_of h;exact bCy t
theorem vA{l:List (Sl Int)}{k:Nat}{x:Sl Int}(h:l[k]?=some x):memC x∈pU l:=List.mem_map_of_mem (List.mem_of_getElem? h)
theorem oB(a b:List (Sl Int)):pU (a++b)=pU a++pU b:=List.map_append
theorem split_at{α:Type}{l:List α}{k:Nat}{x:α}(h:l[k]?=some x):l=l.take k++x::l.drop (k+1):=by
 obtain⟨hlt,e⟩:=List.getElem?_eq_some_iff.1 h;subst e;rw [List.getElem_cons_drop hlt,List.take_append_drop]
theorem set_at{α:Type}{l:List α}{k:Nat}{x:α}(h:l[k]?=some x)(y:α):l.set k y=l.take k++y::l.drop (k+1):=by
 obtain⟨hlt,_⟩:=List.getElem?_eq_some_iff.1 h;rw [List.set_eq_take_append_cons_drop,if_pos hlt]
theorem famM_out{l:List (Sl Int)}{k:Nat}{x:Sl Int}(h:l[k]?=some x)(H:List bX):(H++pU l).Perm (memC x::(H++pU (l.take k++l.drop (k+1)))):=by
 have e:pU l=pU (l.take k)++memC x::pU (l.drop (k+1)):=by
  conv=>lhs;rw [split_at h]
  rw [oB];rfl
 rw [e,oB,←List.append_assoc,←List.append_assoc];exact List.perm_middle
theorem bIf{l:List (Sl Int)}{k:Nat}{x:Sl Int}(h:l[k]?=some x)(y:Sl Int)(H:List bX):(memC y::(H++pU (l.take k++l.drop (k+1)))).Perm (H++pU (l.set k y)):=by
 have e:pU (l.set k y)=pU (l.take k)++memC y::pU (l.drop (k+1)):=by
  rw [set_at h,oB];rfl
 rw [e,oB,←List.append_assoc,←List.append_assoc];exact List.perm_middle.symm
theorem wS(l:List (Sl Int))(y:Sl Int)(H:List bX):(memC y::(H++pU l)).Perm (H++pU (l++[y])):=by
 rw [oB,←List.append_assoc];exact(List.perm_append_comm (l₁:=[memC y]))
theorem fZ.front: ∀(L H:List bX),fZ (L++H) L H
 | [],_=> .nil
 | _::L,H=> .cons .head (fZ.front L H)
theorem fZ.all: ∀{L:List bX},fZ L L []
 | []=> .nil
 | _::_=> .cons .head fZ.all
theorem Sel.skip{H R:List bX}{c:bX}(h:Sel H R):Sel (c::H) R:=by
 induction h generalizing c with
 | nil=>exact .nil
 | cons h _ ih=>exact .cons (.tail h) ih
section
variable {β : fY} {n : Nat} {Γ : Env} {H H' : List bX} {F : List bU} {K : Act → World → Prop}
theorem cR(p:H.Perm H')(h:At β n Γ H' F K):At β n Γ H F K:=fun a w S f s k=>h a w S f (s.perm p) k
end
section
variable {P : Program} {β : fY} {n : Nat} {Γ : Env} {H : List bX} {F : List bU} {Q : Exit → Act → World → Prop}
theorem mJ{ι:Type}{c:Code}(Δ:Env)(hΔ:Γ.Sub Δ)(G:ι→Env)(HH:ι→List bX)(FF:ι→List bU)(μ:ι→Nat)(x0:ι)(hG:Γ.Sub (G x0))(hH:H.Perm (HH x0))(hF:bQ F (FF x0))
  (round: ∀x,At β n (G x++Δ) (HH x) (FF x++F) (c.wp P (Exit.then (Back β n (fun x=>G x++Δ) HH (fun x=>FF x++F) μ (μ x)) Q))):At β n Γ H F ((Code.loop c).wp P Q):=
 cR hH (at_loop (fun x=>G x++Δ) HH (fun x=>FF x++F) μ x0 (hG.append hΔ) Sel.self (hF.append bQ.self) round)
theorem gH{ι:Type}{G:ι→Env}{Δ:Env}{HH:ι→List bX}{FF:ι→List bU}{F0:List bU}{μ:ι→Nat}{m:Nat}(x:ι)(hμ:μ x<m)(hG:Γ.Sub (G x))(hΔ:Γ.Sub Δ)(hH:H.Perm (HH x))(hF:bQ F (FF x))(hF0:bQ F F0):
  At β n Γ H F (Back β n (fun x=>G x++Δ) HH (fun x=>FF x++F0) μ m):=
 cR hH (at_back (G:=fun x=>G x++Δ) (FF:=fun x=>FF x++F0) x hμ (hG.append hΔ) Sel.self (hF.append hF0))
end
def maO (mb:Nat)(m:gF):bX:= .obj mb (.cells ([.int .i64 m.core.vars,.slice m.core.bufs.addr m.core.bufs.list.length m.core.bufs.cap,.slice m.core.steps.addr m.core.steps.list.length m.core.steps.cap,.slice m.core.outs.addr m.core.outs.list.length m.core.outs.cap,.slice m.dims.addr m.dims.list.length m.dims.cap,.slice m.mem.addr m.mem.list.length m.mem.cap,.int .i64 m.turns,.slice m.stack.addr m.stack.list.length m.stack.cap]:List Value).toArray 125)
def maS (m:gF):bX:=cQ.row (.slice m.stack.addr m.stack.list.length m.stack.cap) 2 m.stack.list
def maR (m:gF):bX:=tD.row (.slice m.mem.addr m.mem.list.length m.mem.cap) 63 m.mem.list
def maH (mb:Nat)(m:gF):List bX:=maO mb m::maS m::maR m::pU m.mem.list
def memL (m:gF):List (List Int):=m.mem.list.map (·.list)
theorem lB{m:gF}{k:Nat}{x:Sl Int}(h:m.mem.list[k]?=some x):(memL m)[k]?=some x.list:=by
 unfold memL;rw [List.getElem?_map,h];rfl
def gF.st (m:gF)(a:Option Addr×Nat)(l:List Int):gF:=⟨m.core,m.dims,m.mem,m.turns,⟨a.1,a.2,l⟩⟩
def gF.tu (m:gF)(z:Int):gF:=⟨m.core,m.dims,m.mem,z,m.stack⟩
def gF.me (m:gF)(l:List (Sl Int)):gF:=⟨m.core,m.dims,⟨m.mem.addr,m.mem.cap,l⟩,m.turns,m.stack⟩
def gF.mm (m:gF)(q:Option Addr×Nat)(l:List (Sl Int)):gF:=⟨m.core,m.dims,⟨q.1,q.2,l⟩,m.turns,m.stack⟩
def bDb (e:Int):Value:= .iface 32 (.int .i64 e)
def fR {α:Type}:Rn α→Option Value
 | .ok _=>none
 | .error e=>some (bDb e)
def rval {α:Type}(d:α):Rn α→α
 | .ok v=>v
 | .error _=>d
theorem mU{α:Type}{r:Rn α}(h:fR r=none): ∃v,r= .ok v:=by
 cases r with
 | ok v=>exact⟨v,rfl⟩
 | error e=>cases h
theorem perr_yes{α:Type}{r:Rn α}{u:Value}(h:fR r=some u): ∃e,r= .error e∧u=bDb e:=by
 cases r with
 | ok v=>cases h
 | error e=>cases h;exact⟨e,rfl,rfl⟩
end Go.Proofs.YtnmhcaahkaocgaaGreatDoor
namespace Go.Proofs.YtnmhcaahkaocgaaGreatDoor
open Go.RowKit
section
variable {P : Program} {β : fY} {n : Nat} {Γ : Env} {H : List bX} {F : List bU} {o : Oper} {x : Operand} {t tt e : TypeId} {A : Option Addr} {q c : Nat}
theorem sti_isnil(ht:P.underlying t=some (.slice e))(ho:o.op= .binOp .eql t x (.const (.slice none 0 0)) tt)(hx:Γ.ev x=some (.slice A q c)):Sti P β n Γ H F o (.bool A.isNone):=fun a w S f s k=>by
 have h1: ∀d,(Op.equalIn (d+1) t (.slice A q c) (.slice none 0 0)).run P w= .ok A.isNone w:=fun d=>by cases A<;>simp [Op.equalIn,run_underlying ht]
 unfold execOp;have e:a.eval (.const (.slice none 0 0))= .slice none 0 0:=rfl;simp only [ho,f.ev hx,e]
 have hb:(binOp .eql t (.slice A q c) (.slice none 0 0)).run P w= .ok (.bool A.isNone) w:=by
  simp only [binOp];have h2:(Op.equal t (.slice A q c) (.slice none 0 0)).run P w= .ok A.isNone w:=h1 9999;rw [Sem.run_bind,h2];rfl
 have hg:(eqGuard .eql t x (.const (.slice none 0 0)) (.slice A q c) (.slice none 0 0)).run P w= .ok () w:=by
  unfold eqGuard;simp
 rw [Sem.run_bind,Sem.run_bind,hg,Result.andThen_ok,hb];rfl
end
theorem has_isnil{α:Type}{E:Flat α}{F:List bU}{A:Option Addr}{m c:Nat}{l:List α}(h:Has F (E.sl (.slice A m c) l)):Has F (bU.pure (A.isNone=true→l=[])):=fun S w k hA=>by
 obtain⟨A',c',e,h⟩:=h S w k
 cases l with
 | nil=>rfl
 | cons x r=>
  obtain⟨b,o,cs,e1,_⟩:=h 0 x rfl;injection e with e
  subst e;subst e1;cases hA
section
variable {α : Type} {x y : α}
theorem zE{a b:List α}{k:Nat}(h:a.take k=b.take k)(hx:a[k]?=some x)(hy:b[k]?=some y)(e:x=y):a.take (k+1)=b.take (k+1):=by
 subst e;rw [List.take_add_one,List.take_add_one,h,hx,hy]
theorem bEm{a b:List α}{k:Nat}(h:a.take k=b.take k)(ha:a.length≤k)(hb:b.length≤k):a=b:=by
 rw [List.take_of_length_le ha,List.take_of_length_le hb] at h;exact h
theorem bGd{a b:List α}{k:Nat}(hx:a[k]?=some x)(hy:b[k]?=some y)(e:x≠y):a≠b:=by
 rintro rfl;rw [hx] at hy;exact e (Option.some.inj hy)
end
theorem qC{a b:List Int}(h:a≠b):Value.bool false= .bool (decide (a=b)):=by simp [h]
theorem bDl{a b:List Int}(h:a=b):Value.bool true= .bool (decide (a=b)):=by simp [h]
set_option maxRecDepth 100000 in
theorem wB(A:Option Addr)(c:Nat)(l:List Int)(hl:l.length≤17592186044416):dM Tryz.prog 43 [.slice A l.length c] [] [cQ.sl (.slice A l.length c) l] (fun(x:Option Addr×Nat)=> .slice x.1 l.length x.2) (fun(x:Option Addr×Nat)=>[cQ.row (.slice x.1 l.length x.2) 2 l]) (fun _=>[]):=by
 have hT:=cZ;refine cO Tryz.func43 rfl Tryz.ntmps43 rfl ?_;intro β hM;refine sr<|sp hT ?_;refine nn<|bE<|sr<|sp hT ?_;refine ss (sti_isnil Tryz.underlying63 rfl rfl) ?_;refine nn<|bL rfl (fun hc4=>?_) (fun hc4=>?_)
 ·refine bE<|cL (bU.pure (A.isNone=true→l=[])) (has_isnil (Has.of mT0)) ?_;refine cD (Has.of mT0) fun hnil=>?_;have hl0:=hnil ‹_›;subst hl0;refine dN (t:=2) cQ ?_;refine bB<|sp hT ?_;refine nn<|bI<|bH ?_;exact bN (_,_) rfl (bD rfl) (.cons .head .nil) trivial rfl
 refine bO<|bC<|sr<|kF rfl rfl rfl rfl fun b1=>?_;refine sp hT ?_;refine dH .head (bP (Has.of mT0)) rfl rfl rfl rfl rfl rfl rfl (by simp;omega) fun A2 c3=>?_;rw [List.nil_append];refine sp hT ?_;refine nn<|bI ?_;exact bN (_,_) rfl (bD rfl) (.cons .head .nil) trivial rfl
set_option maxRecDepth 100000 in
theorem equal_spec(A B:Option Addr)(ca cb:Nat)(a b:List Int)(hl:a.length≤140737488355328):dM Tryz.prog 85 [.slice A a.length ca,.slice B b.length cb] [] [cQ.sl (.slice A a.length ca) a,cQ.sl (.slice B b.length cb) b] (fun(_:Unit)=> .bool (decide (a=b))) (fun _=>[]) (fun _=>[]):=by
 have hT:=cZ;refine cO Tryz.func85 rfl Tryz.ntmps85 rfl ?_;intro β hM;refine sr<|sp hT ?_;refine nn<|bE<|sr<|sp4 hT ?_;refine sp hT ?_;refine nn<|bL rfl (fun hc10=>?_) (fun hc10=>?_)
 ·have hc10:=bne_iff_ne.1 hc10;refine sr<|sp hT ?_;refine nn<|bI<|bH ?_;exact bN () rfl (bD rfl) .nil trivial (qC (fun e=>by have:=congrArg List.length e;omega))
 have hc10:=bne_eq_false_iff_eq.1 hc10;refine bO<|bC<|bE<|sr<|sp3 hT ?_;refine nn<|bW<|cX (ι:=Nat) [(0,_),(1,_),(12,_)] ⟨rfl,rfl,rfl,trivial⟩ (fun i=>[(13,.int .i64 (i:Nat))]) (fun _=>[]) (fun i=>[bU.pure (i≤a.length∧a.take i=b.take i)]) (fun i=>a.length-i) 0 ⟨rfl,trivial⟩ .nil ⟨Has.pure (⟨by omega,rfl⟩),trivial⟩ ?_;rintro i;refine cD (Has.of mT0) fun hinv4=>?_;refine sr<|sp hT ?_;refine nn<|bE<|bL rfl (fun hc14=>?_) (fun hc14=>?_)
 ·have hc14:=of_decide_eq_true hc14;refine bO<|bC<|bE<|bW<|sr<|sp2 hT ?_;refine nn<|bE<|fJ _ _ [(true,0),(true,1),(true,2),(true,3),(true,4),(true,5),(true,6),(true,7),(true,8)] dS (by decide+kernel) .nil bQ.self ?_;refine puM hT ?_;refine puM hT ?_
  obtain⟨x1,hx2⟩: ∃x',a[i]?=some x':=⟨_,List.getElem?_eq_getElem (by omega)⟩
  refine stM rfl (bV hT (k:=i) (bP (Has.of mT1)) rfl rfl rfl rfl rfl rfl rfl (by omega)) ?_;refine stM rfl (bR hT (cM.knows (bP (Has.of mT1)) (k:=i) (x:=x1) hx2 0) rfl rfl rfl rfl rfl) ?_;refine puM hT ?_;refine puM hT ?_
  obtain⟨x3,hx4⟩: ∃x',b[i]?=some x':=⟨_,List.getElem?_eq_getElem (by omega)⟩
  refine stM rfl (bV hT (k:=i) (bP (Has.of mT2)) rfl rfl rfl rfl rfl rfl rfl (by omega)) ?_;refine stM rfl (bR hT (cM.knows (bP (Has.of mT2)) (k:=i) (x:=x3) hx4 0) rfl rfl rfl rfl rfl) ?_;refine puM hT ?_;refine cW<|bC<|bL rfl (fun hc24=>?_) (fun hc24=>?_)
  ·have hc24:=bne_iff_ne.1 hc24;refine sr<|sp hT ?_;refine nn<|bI<|bM<|bH<|bH<|bM<|bH ?_;exact bN () rfl (bD rfl) .nil trivial (qC (bGd hx2 hx4 ‹_›))
  have hc24:=bne_eq_false_iff_eq.1 hc24;refine bO<|bY<|bC<|bB<|sp hT ?_;refine bZ (z':=(((i+1):Nat):Int)) (cV (by omega) (by omega)) ?_;refine sp hT ?_;refine nn ?_;exact cJ (i+1) (by omega) ⟨rfl,trivial⟩ ⟨rfl,rfl,rfl,trivial⟩ .nil ⟨Has.pure (⟨by omega,zE hinv4.2 hx2 hx4 ‹_›⟩),trivial⟩ (bQ.drop 1)
 have hc14:=Int.not_lt.1 (of_decide_eq_false hc14);refine cU<|cI<|cI<|cT<|bC<|sr<|sp hT ?_;refine nn<|bI ?_;exact bN () rfl (bD rfl) .nil trivial (bDl (bEm hinv4.2 (by omega) (by omega)))
section
variable {f a b : Int} {two : Bool}
theorem nX(h:f<1∨17<f):Value.bool false= .bool (cY f two):=by rw [cY,if_pos h]
theorem xT(_h1: ¬f<1)(_h2: ¬17<f)(h:f=16):Value.bool (!two)= .bool (cY f two):=by rw [cY,if_neg (by omega),if_pos h]
theorem yI(h1: ¬f<1)(h2: ¬17<f)(h:f≠16)(ht:two=true):Value.bool true= .bool (cY f two):=by rw [cY,if_neg (by omega),if_neg h,ht];rfl
theorem wW(h1: ¬f<1)(h2: ¬17<f)(h:f≠16)(ht:two=false):Value.bool (decide (f≤7))= .bool (cY f two):=by rw [cY,if_neg (by omega),if_neg h,ht];rfl
theorem rest_a(h:a.tmod b≠0)(h2:decide (a.tmod b<0)≠decide (b<0)):Value.int .i64 (w64 (a.tmod b+b))= .int .i64 (mM a b):=by rw [mM,if_pos ⟨h,h2⟩]
theorem rest_b(h2:decide (a.tmod b<0)=decide (b<0)):Value.int .i64 (a.tmod b)= .int .i64 (mM a b):=by rw [mM,if_neg (fun h=>h.2 h2)]
theorem rest_c(h:a.tmod b=0):Value.int .i64 (a.tmod b)= .int .i64 (mM a b):=by rw [mM,if_neg (fun h'=>h'.1 h)]
theorem nz4(hr:fL f a b=false)(h:f=4):b≠0:=by
 rw [fL,if_pos h] at hr
 simpa using hr
theorem nn17(hr:fL f a b=false)(h:f=17):0≤b:=by
 rw [fL,if_neg (by omega),if_pos h] at hr
 simpa using hr
theorem big1_t(h:1<IntKind.u64.wrap a):sG a=true:=decide_eq_true h
theorem big1_g(h:IntKind.u64.wrap a≤1):sG a=false:=decide_eq_false (by omega)
theorem dy1(h:f=1):Value.int .i64 (w64 (a+b))= .int .i64 (kT f a b):=by subst h;rfl
theorem dy2(h:f=2):Value.int .i64 (w64 (a-b))= .int .i64 (kT f a b):=by subst h;rfl
theorem dy3(h:f=3):Value.int .i64 (w64 (a*b))= .int .i64 (kT f a b):=by subst h;rfl
theorem dy4a(h:f=4)(hn:mM a b≠a.tmod b):Value.int .i64 (w64 (w64 (a.tdiv b)-1))= .int .i64 (kT f a b):=by
 subst h;show _=Value.int .i64 (divW a b);rw [divW,if_pos hn]
theorem dy4b(h:f=4)(hn:mM a b=a.tmod b):Value.int .i64 (w64 (a.tdiv b))= .int .i64 (kT f a b):=by
 subst h;show _=Value.int .i64 (divW a b);rw [divW,if_neg (fun e=>e hn)]
theorem dy5a(h:f=5)(h0:a=0):Value.int .i64 b= .int .i64 (kT f a b):=by subst h h0;rfl
theorem dy5b(h:f=5)(h0:a≠0):Value.int .i64 (mM b a)= .int .i64 (kT f a b):=by
 subst h;show _=Value.int .i64 (if a=0 then b else mM b a);rw [if_neg h0]
theorem dy6(h:f=6):Value.int .i64 (if b<a then b else a)= .int .i64 (kT f a b):=by subst h;rfl
theorem dy7(h:f=7):Value.int .i64 (if b>a then b else a)= .int .i64 (kT f a b):=by subst h;rfl
theorem dy14(h:f=14):Value.int .i64 (andW a b)= .int .i64 (kT f a b):=by subst h;rfl
theorem dy15(h:f=15):Value.int .i64 (orW a b)= .int .i64 (kT f a b):=by subst h;rfl
theorem dy17(h:f=17):Value.int .i64 (qK a b)= .int .i64 (kT f a b):=by subst h;rfl
theorem dyE(h1:f≠1)(h2:f≠2)(h3:f≠3)(h4:f≠4)(h5:f≠5)(h6:f≠6)(h7:f≠7)(h8:f≠14)(h9:f≠15)(h10:f≠17):Value.int .i64 (jC (sT f a b))= .int .i64 (kT f a b):=by
 simp only [kT,h1,h2,h3,h4,h5,h6,h7,h8,h9,h10,if_false]
theorem mo1(h:cY f false=false):Value.tuple #[.int .i64 0,.int .i64 10]= .tuple #[.int .i64 (monadW f a).1,.int .i64 (monadW f a).2]:=by simp [monadW,h]
theorem mo2(h:f=2):Value.tuple #[.int .i64 (w64 (0-a)),.int .i64 0]= .tuple #[.int .i64 (monadW f a).1,.int .i64 (monadW f a).2]:=by subst h;rfl
theorem mo3(h:f=3):Value.tuple #[.int .i64 (w64 (jC (decide (0<a))-jC (decide (a<0)))),.int .i64 0]= .tuple #[.int .i64 (monadW f a).1,.int .i64 (monadW f a).2]:=by subst h;rfl
theorem mo4(h:f=4):Value.tuple #[.int .i64 (dyadW f 1 a).1,.int .i64 (dyadW f 1 a).2]= .tuple #[.int .i64 (monadW f a).1,.int .i64 (monadW f a).2]:=by subst h;rfl
theorem mo5(h:f=5):Value.tuple #[.int .i64 (if w64 (0-a)>a then w64 (0-a) else a),.int .i64 0]= .tuple #[.int .i64 (monadW f a).1,.int .i64 (monadW f a).2]:=by subst h;rfl
theorem mo16a(h:f=16)(hb:sG a=true):Value.tuple #[.int .i64 0,.int .i64 11]= .tuple #[.int .i64 (monadW f a).1,.int .i64 (monadW f a).2]:=by
 subst h;have e:monadW 16 a=if sG a=true then (0,11) else (xorW a 1,0):=rfl
 rw [e,if_pos hb]
theorem mo16b(h:f=16)(hb:sG a=false):Value.tuple #[.int .i64 (xorW a 1),.int .i64 0]= .tuple #[.int .i64 (monadW f a).1,.int .i64 (monadW f a).2]:=by
 subst h;have e:monadW 16 a=if sG a=true then (0,11) else (xorW a 1,0):=rfl
 rw [e,if_neg (by rw [hb];simp)]
theorem moE(ht:cY f false=true)(h2:f≠2)(h3:f≠3)(h4:f≠4)(h5:f≠5)(h6:f≠16):Value.tuple #[.int .i64 a,.int .i64 0]= .tuple #[.int .i64 (monadW f a).1,.int .i64 (monadW f a).2]:=by
 simp only [monadW,ht,h2,h3,h4,h5,h6,if_false,Bool.true_eq_false]
end
theorem and_one(m:Nat):w64 (((BitVec.ofInt 64 (m:Int))&&&(BitVec.ofInt 64 1)).toNat:Nat)=((m%2:Nat):Int):=by
 have e1:(BitVec.ofInt 64 (m:Int))=BitVec.ofNat 64 m:=by simp
 have e2:(BitVec.ofInt 64 1)=BitVec.ofNat 64 1:=by decide
 rw [e1,e2,BitVec.toNat_and,BitVec.toNat_ofNat,BitVec.toNat_ofNat];have e3:(m%2^64)&&&(1%2^64)=(m%2^64)%2:=Nat.and_one_is_mod _;rw [e3];have e4:(m%2^64)%2=m%2:=by omega
 rw [e4];exact rn_w64 (by omega) (by omega)
section
variable {k m : Nat} {p a r : Int}
theorem raised_end(h:gM k p a m=r)(hm:m=0):r=p:=by
 cases k with
 | zero=>exact h.symm
 | succ k=>
  rw [gM,if_pos hm] at h;exact h.symm
theorem zZ(h:gM k p a m=r)(hk:m<k)(hm:0<m):gM (k-1) (if m%2=1 then w64 (p*a) else p) (w64 (a*a)) (m/2)=r:=by
 obtain⟨k,rfl⟩: ∃j,k=j+1:=⟨k-1,by omega⟩
 rw [gM,if_neg (by omega)] at h;exact h
theorem bFs(h:gM k p a m=r)(hk:m<k)(hm:0<m)(h1:m%2=1):gM (k-1) (w64 (p*a)) (w64 (a*a)) (m/2)=r:=by
 have:=zZ h hk hm;rw [if_pos h1] at this;exact this
theorem bAu(h:gM k p a m=r)(hk:m<k)(hm:0<m)(h1: ¬m%2=1):gM (k-1) p (w64 (a*a)) (m/2)=r:=by
 have:=zZ h hk hm;rw [if_neg h1] at this;exact this
end
set_option maxRecDepth 100000 in
theorem sW(f:Int)(two:Bool):dM Tryz.prog 74 [.int .u8 f,.bool two] [] [] (fun(_:Unit)=> .bool (cY f two)) (fun _=>[]) (fun _=>[]):=by
 have hT:=cZ;refine cO Tryz.func74 rfl Tryz.ntmps74 rfl ?_;intro β hM;refine sr<|sp hT ?_;refine nn<|bE<|bW<|sr<|sp3 hT ?_;refine cB (fun hg8=>?_) (fun hg8=>?_)
 ·have hg8:=of_decide_eq_true hg8;refine sk2 ?_;refine sp2 hT ?_;refine nn<|cG rfl rfl ?_;refine sr<|sp hT ?_;refine nn<|bI<|bM<|bH ?_;exact bN () rfl (bD rfl) .nil trivial (by first | exact nX (.inl (by omega)) | exact nX (.inr (by omega)) | exact xT (by omega) (by omega) (by omega) | exact yI (by omega) (by omega) (by omega) ‹_› | exact wW (by omega) (by omega) (by omega) ‹_›)
 have hg8:=Int.not_lt.1 (of_decide_eq_false hg8);refine sp4 hT ?_;refine nn<|bL rfl (fun hc5=>?_) (fun hc5=>?_)
 ·have hc5:=of_decide_eq_true hc5;refine sr<|sp hT ?_;refine nn<|bI<|bM<|bH ?_;exact bN () rfl (bD rfl) .nil trivial (by first | exact nX (.inl (by omega)) | exact nX (.inr (by omega)) | exact xT (by omega) (by omega) (by omega) | exact yI (by omega) (by omega) (by omega) ‹_› | exact wW (by omega) (by omega) (by omega) ‹_›)
 have hc5:=Int.not_lt.1 (of_decide_eq_false hc5);refine sr<|sp3 hT ?_;refine nn<|bL rfl (fun hc12=>?_) (fun hc12=>?_)
 ·have hc12:=eq_of_beq hc12;refine sr<|sp3 hT ?_;refine nn<|bI<|bM<|bH ?_;exact bN () rfl (bD rfl) .nil trivial (by first | exact nX (.inl (by omega)) | exact nX (.inr (by omega)) | exact xT (by omega) (by omega) (by omega) | exact yI (by omega) (by omega) (by omega) ‹_› | exact wW (by omega) (by omega) (by omega) ‹_›)
 have hc12:=beq_eq_false_iff_ne.1 hc12;refine bO<|bY<|bC<|sr<|sp2 hT ?_;refine cB (fun hg18=>?_) (fun hg18=>?_)
 ·refine sk2 ?_;refine sp2 hT ?_;refine nn<|bI ?_;exact bN () rfl (bD rfl) .nil trivial (by first | exact nX (.inl (by omega)) | exact nX (.inr (by omega)) | exact xT (by omega) (by omega) (by omega) | exact yI (by omega) (by omega) (by omega) ‹_› | exact wW (by omega) (by omega) (by omega) ‹_›)
 refine sp4 hT ?_;refine nn<|bI ?_;exact bN () rfl (bD rfl) .nil trivial (by first | exact nX (.inl (by omega)) | exact nX (.inr (by omega)) | exact xT (by omega) (by omega) (by omega) | exact yI (by omega) (by omega) (by omega) ‹_› | exact wW (by omega) (by omega) (by omega) ‹_›)
set_option maxRecDepth 100000 in
theorem bIq(a b:Int)(hb:b≠0):dM Tryz.prog 195 [.int .i64 a,.int .i64 b] [] [] (fun(_:Unit)=> .int .i64 (mM a b)) (fun _=>[]) (fun _=>[]):=by
 have hT:=cZ;refine cO Tryz.func195 rfl Tryz.ntmps195 rfl ?_;intro β hM;refine sr<|sp hT ?_;refine nn<|sr<|sp2 hT ?_;refine ss (yE rfl rfl rfl (hb)) ?_;refine sp hT ?_;refine nn<|bE<|sr<|sp3 hT ?_;refine cB (fun hg11=>?_) (fun hg11=>?_)
 ·have hg11:=bne_iff_ne.1 hg11;refine sp4 hT ?_;refine sp2 hT ?_;refine nn<|bL rfl (fun hc17=>?_) (fun hc17=>?_)
  ·have hc17:=bne_iff_ne.1 hc17;refine bB<|sp4 hT ?_;refine nn<|sr<|sp2 hT ?_;refine nn<|bI ?_;exact bN () rfl (bD rfl) .nil trivial (by first | exact rest_a ‹_› ‹_› | exact rest_b ‹_› | exact rest_c ‹_›)
  have hc17:=bne_eq_false_iff_eq.1 hc17;refine bO<|bC<|sr<|sp2 hT ?_;refine nn<|bI ?_;exact bN () rfl (bD rfl) .nil trivial (by first | exact rest_a ‹_› ‹_› | exact rest_b ‹_› | exact rest_c ‹_›)
 have hg11:=bne_eq_false_iff_eq.1 hg11;refine sk4 ?_;refine sk ?_;refine sp hT ?_;refine nn<|bS rfl rfl ?_;refine bO<|bC<|sr<|sp2 hT ?_;refine nn<|bI ?_;exact bN () rfl (bD rfl) .nil trivial (by first | exact rest_a ‹_› ‹_› | exact rest_b ‹_› | exact rest_c ‹_›)
set_option maxRecDepth 100000 in
theorem wP(t:Bool):dM Tryz.prog 194 [.bool t] [] [] (fun(_:Unit)=> .int .i64 (jC t)) (fun _=>[]) (fun _=>[]):=by
 have hT:=cZ;refine cO Tryz.func194 rfl Tryz.ntmps194 rfl ?_;intro β hM;refine sr<|sp hT ?_;refine nn<|bE<|sr<|sp hT ?_;refine nn<|bL rfl (fun hc3=>?_) (fun hc3=>?_)
 ·refine sr<|sp hT ?_;refine nn<|bI<|bH ?_;exact bN () rfl (bD rfl) .nil trivial (by simp [jC, *])
 refine bO<|bC<|sr<|sp hT ?_;refine nn<|bI ?_;exact bN () rfl (bD rfl) .nil trivial (by simp [jC, *])
set_option maxRecDepth 100000 in
theorem refuses_spec(f a b:Int):dM Tryz.prog 148 [.int .u8 f,.int .i64 a,.int .i64 b] [] [] (fun(_:Unit)=> .bool (fL f a b)) (fun _=>[]) (fun _=>[]):=by
 have hT:=cZ;refine cO Tryz.func148 rfl Tryz.ntmps148 rfl ?_;intro β hM;refine sr<|sp hT ?_;refine nn<|bE<|sr<|sp hT ?_;refine nn<|bW<|sr<|sp2 hT ?_;refine nn<|bL rfl (fun hc8=>?_) (fun hc8=>?_)
 ·have hc8_r:=hc8;have hc8:=eq_of_beq hc8;refine sr<|sp3 hT ?_;refine nn<|bI<|bM<|bH ?_;exact bN () rfl (bD rfl) .nil trivial (by first | (simp [fL, *];done) | (simp [fL, *];rfl))
 have hc8_r:=hc8;have hc8:=beq_eq_false_iff_ne.1 hc8;refine sr<|sp2 hT ?_;refine nn<|bL rfl (fun hc12=>?_) (fun hc12=>?_)
 ·have hc12_r:=hc12;have hc12:=eq_of_beq hc12;refine sr<|sp3 hT ?_;refine nn<|bI<|bM<|bH ?_;exact bN () rfl (bD rfl) .nil trivial (by first | (simp [fL, *];done) | (simp [fL, *];rfl))
 have hc12_r:=hc12;have hc12:=beq_eq_false_iff_ne.1 hc12;refine bE<|sr<|sp2 hT ?_;refine nn<|bL rfl (fun hc16=>?_) (fun hc16=>?_)
 ·have hc16_r:=hc16;have hc16:=eq_of_beq hc16;refine bO<|bC<|cG rfl hc16_r ?_;refine sr<|sp4 hT ?_;refine cB (fun hg22=>?_) (fun hg22=>?_)
  ·have hg22:=of_decide_eq_true hg22;have hb1:=big1_t (a:=a) ‹_›;refine sk3 ?_;refine sp2 hT ?_;refine nn<|bI<|bM<|bH ?_;exact bN () rfl (bD rfl) .nil trivial (by first | (simp [fL, *];done) | (simp [fL, *];rfl))
  have hg22:=Int.not_lt.1 (of_decide_eq_false hg22);have hb1:=big1_g (a:=a) ‹_›;refine sp4 hT ?_;refine sp hT ?_;refine nn<|bI<|bM<|bH ?_;exact bN () rfl (bD rfl) .nil trivial (by first | (simp [fL, *];done) | (simp [fL, *];rfl))
 have hc16_r:=hc16;have hc16:=beq_eq_false_iff_ne.1 hc16;refine bB<|sp2 hT ?_;refine nn<|bL rfl (fun hc16_1=>?_) (fun hc16_1=>?_)
 ·have hc16_1_r:=hc16_1;have hc16_1:=eq_of_beq hc16_1;refine sr<|sp4 hT ?_;refine cB (fun hg22=>?_) (fun hg22=>?_)
  ·have hg22:=of_decide_eq_true hg22;have hb1:=big1_t (a:=a) ‹_›;refine sk3 ?_;refine sp2 hT ?_;refine nn<|bI<|bM<|bH ?_;exact bN () rfl (bD rfl) .nil trivial (by first | (simp [fL, *];done) | (simp [fL, *];rfl))
  have hg22:=Int.not_lt.1 (of_decide_eq_false hg22);have hb1:=big1_g (a:=a) ‹_›;refine sp4 hT ?_;refine sp hT ?_;refine nn<|bI<|bM<|bH ?_;exact bN () rfl (bD rfl) .nil trivial (by first | (simp [fL, *];done) | (simp [fL, *];rfl))
 have hc16_1_r:=hc16_1;have hc16_1:=beq_eq_false_iff_ne.1 hc16_1;refine bO<|bY<|bC<|sr<|sp hT ?_;refine nn<|bI ?_;exact bN () rfl (bD rfl) .nil trivial (by first | (simp [fL, *];done) | (simp [fL, *];rfl))
set_option maxRecDepth 100000 in
theorem raised_spec(a:Int)(m:Nat):dM Tryz.prog 196 [.int .i64 a,.int .i64 (m:Nat)] [] [] (fun(_:Unit)=> .int .i64 (qK a (m:Nat))) (fun _=>[]) (fun _=>[]):=by
 have hT:=cZ;generalize hR:qK a (m:Nat)=r;refine cO Tryz.func196 rfl Tryz.ntmps196 rfl ?_;intro β hM;refine sr<|sp hT ?_;refine nn<|sr<|sp hT ?_;refine nn<|bE<|bW<|cX (ι:=Nat×Int×Int×Nat) [] trivial (fun⟨k,p,a,m⟩=>[(0,.int .i64 a),(1,.int .i64 (m:Nat)),(5,.int .i64 p)]) (fun _=>[]) (fun⟨k,p,a,m⟩=>[bU.pure (m<k∧gM k p a m=r)]) (fun⟨k,p,a,m⟩=>m) (m+1,1,a,m) ⟨rfl,rfl,rfl,trivial⟩ .nil ⟨Has.pure (⟨by omega,by rw [←hR,qK,Int.toNat_natCast]⟩),trivial⟩ ?_;rintro⟨k,p,a,m⟩;dsimp only;refine cD (Has.of mT0) fun hinv2=>?_;refine bE<|sr<|sp2 hT ?_;refine nn<|bL rfl (fun hc7=>?_) (fun hc7=>?_)
 ·have hc7:=of_decide_eq_true hc7;refine bO<|bC<|bE<|bW<|bE<|sr<|sp2 hT ?_;refine bZ (z':=((m%2:Nat):Int)) (and_one m) ?_;refine sp hT ?_;refine nn<|bL rfl (fun hc12=>?_) (fun hc12=>?_)
  ·have hc12:=eq_of_beq hc12;refine bB<|sp4 hT ?_;refine nn<|bB<|sp4 hT ?_;refine cA<|bY<|bC<|bB<|sp hT ?_;refine ss (sti_half rfl rfl rfl (by decide)) ?_;refine bZ (z':=((m/2:Nat):Int)) (halfN m) ?_;refine sp hT ?_;refine nn ?_;exact cJ (k-1,_,_,m/2) (by dsimp only;omega) ⟨rfl,rfl,rfl,trivial⟩ trivial .nil ⟨Has.pure (⟨by dsimp only;omega,by first | exact bFs hinv2.2 hinv2.1 (by omega) (by omega) | exact bAu hinv2.2 hinv2.1 (by omega) (by omega)⟩),trivial⟩ (bQ.drop 1)
  have hc12:=beq_eq_false_iff_ne.1 hc12;refine bO<|bC<|bB<|sp4 hT ?_;refine cA<|bY<|bC<|bB<|sp hT ?_;refine ss (sti_half rfl rfl rfl (by decide)) ?_;refine bZ (z':=((m/2:Nat):Int)) (halfN m) ?_;refine sp hT ?_;refine nn ?_;exact cJ (k-1,_,_,m/2) (by dsimp only;omega) ⟨rfl,rfl,rfl,trivial⟩ trivial .nil ⟨Has.pure (⟨by dsimp only;omega,by first | exact bFs hinv2.2 hinv2.1 (by omega) (by omega) | exact bAu hinv2.2 hinv2.1 (by omega) (by omega)⟩),trivial⟩ (bQ.drop 1)
 have hc7:=Int.not_lt.1 (of_decide_eq_false hc7);refine cU<|cI<|cI<|cT<|bC<|sr<|sp2 hT ?_;refine nn<|bI ?_;have hr:=raised_end hinv2.2 (by omega);subst hr;exact bN () rfl (bD rfl) .nil trivial rfl
set_option maxRecDepth 100000 in
theorem holds_spec(f a b:Int):dM Tryz.prog 197 [.int .u8 f,.int .i64 a,.int .i64 b] [] [] (fun(_:Unit)=> .bool (sT f a b)) (fun _=>[]) (fun _=>[]):=by
 have hT:=cZ;refine cO Tryz.func197 rfl Tryz.ntmps197 rfl ?_;intro β hM;refine sr<|sp hT ?_;refine nn<|bE<|sr<|sp hT ?_;refine nn<|bW<|sr<|sp2 hT ?_;refine nn<|bL rfl (fun hc8=>?_) (fun hc8=>?_)
 ·have hc8:=eq_of_beq hc8;refine sr<|sp4 hT ?_;refine nn<|bI<|bM<|bH ?_;exact bN () rfl (bD rfl) .nil trivial (by simp [sT, *])
 have hc8:=beq_eq_false_iff_ne.1 hc8;refine sr<|sp2 hT ?_;refine nn<|bL rfl (fun hc13=>?_) (fun hc13=>?_)
 ·have hc13:=eq_of_beq hc13;refine sr<|sp4 hT ?_;refine nn<|bI<|bM<|bH ?_;exact bN () rfl (bD rfl) .nil trivial (by simp [sT, *])
 have hc13:=beq_eq_false_iff_ne.1 hc13;refine sr<|sp2 hT ?_;refine nn<|bL rfl (fun hc18=>?_) (fun hc18=>?_)
 ·have hc18:=eq_of_beq hc18;refine sr<|sp4 hT ?_;refine nn<|bI<|bM<|bH ?_;exact bN () rfl (bD rfl) .nil trivial (by simp [sT, *])
 have hc18:=beq_eq_false_iff_ne.1 hc18;refine sr<|sp2 hT ?_;refine nn<|bL rfl (fun hc23=>?_) (fun hc23=>?_)
 ·have hc23:=eq_of_beq hc23;refine sr<|sp4 hT ?_;refine nn<|bI<|bM<|bH ?_;exact bN () rfl (bD rfl) .nil trivial (by simp [sT, *])
 have hc23:=beq_eq_false_iff_ne.1 hc23;refine sr<|sp2 hT ?_;refine nn<|bL rfl (fun hc28=>?_) (fun hc28=>?_)
 ·have hc28:=eq_of_beq hc28;refine sr<|sp4 hT ?_;refine nn<|bI<|bM<|bH ?_;exact bN () rfl (bD rfl) .nil trivial (by simp [sT, *])
 have hc28:=beq_eq_false_iff_ne.1 hc28;refine bO<|bY<|bC<|sr<|sp4 hT ?_;refine nn<|bI ?_;exact bN () rfl (bD rfl) .nil trivial (by simp [sT, *])
set_option maxRecDepth 100000 in
theorem dyad_spec(f a b:Int)(hr:fL f a b=false):dM Tryz.prog 149 [.int .u8 f,.int .i64 a,.int .i64 b] [] [] (fun(_:Unit)=> .int .i64 (kT f a b)) (fun _=>[]) (fun _=>[]):=by
 have hT:=cZ;refine cO Tryz.func149 rfl Tryz.ntmps149 rfl ?_;intro β hM;refine sr<|sp hT ?_;refine nn<|bE<|sr<|sp hT ?_;refine nn<|bW<|sr<|sp2 hT ?_;refine nn<|bL rfl (fun hc9=>?_) (fun hc9=>?_)
 ·have hc9:=eq_of_beq hc9;refine sr<|sp4 hT ?_;refine nn<|bI<|bM<|bH ?_;exact bN () rfl (bD rfl) .nil trivial (dy1 ‹_›)
 have hc9:=beq_eq_false_iff_ne.1 hc9;refine sr<|sp2 hT ?_;refine nn<|bL rfl (fun hc14=>?_) (fun hc14=>?_)
 ·have hc14:=eq_of_beq hc14;refine sr<|sp4 hT ?_;refine nn<|bI<|bM<|bH ?_;exact bN () rfl (bD rfl) .nil trivial (dy2 ‹_›)
 have hc14:=beq_eq_false_iff_ne.1 hc14;refine sr<|sp2 hT ?_;refine nn<|bL rfl (fun hc19=>?_) (fun hc19=>?_)
 ·have hc19:=eq_of_beq hc19;refine sr<|sp4 hT ?_;refine nn<|bI<|bM<|bH ?_;exact bN () rfl (bD rfl) .nil trivial (dy3 ‹_›)
 have hc19:=beq_eq_false_iff_ne.1 hc19;refine sr<|sp2 hT ?_;refine nn<|bL rfl (fun hc24=>?_) (fun hc24=>?_)
 ·have hc24:=eq_of_beq hc24;refine sr<|sp2 hT ?_;refine ss (yG rfl rfl rfl (nz4 hr ‹_›)) ?_;refine sp hT ?_;refine nn<|bE<|bE<|fJ _ _ [(true,0),(true,1),(true,3),(true,4),(true,5),(false,2),(true,6)] dS (by decide+kernel) .nil bQ.self ?_;refine puM hT ?_;refine puM hT ?_;refine puM hT ?_;refine puM hT ?_;refine stM rfl (yE rfl rfl rfl (nz4 hr ‹_›)) ?_;refine fN (o:=_) rfl ?_;refine cK Tryz.func195 (bIq _ _ (nz4 hr ‹_›)) rfl rfl .nil trivial fun _=>?_;refine fO .nil trivial ?_;refine puM hT ?_;refine cW<|bC<|bL rfl (fun hc35=>?_) (fun hc35=>?_)
  ·have hc35:=bne_iff_ne.1 hc35;refine bB<|sp3 hT ?_;refine nn<|sr<|sp2 hT ?_;refine nn<|bI<|bM<|bH ?_;exact bN () rfl (bD rfl) .nil trivial (dy4a ‹_› ‹_›)
  have hc35:=bne_eq_false_iff_eq.1 hc35;refine bO<|bC<|sr<|sp2 hT ?_;refine nn<|bI<|bM<|bH ?_;exact bN () rfl (bD rfl) .nil trivial (dy4b ‹_› ‹_›)
 have hc24:=beq_eq_false_iff_ne.1 hc24;refine sr<|sp2 hT ?_;refine nn<|bL rfl (fun hc39=>?_) (fun hc39=>?_)
 ·have hc39:=eq_of_beq hc39;refine bE<|sr<|sp2 hT ?_;refine nn<|bL rfl (fun hc42=>?_) (fun hc42=>?_)
  ·have hc42:=eq_of_beq hc42;refine sr<|sp2 hT ?_;refine nn<|bI<|bH<|bM<|bH ?_;exact bN () rfl (bD rfl) .nil trivial (dy5a ‹_› ‹_›)
  have hc42:=beq_eq_false_iff_ne.1 hc42;refine bO<|bC<|sr<|sp2 hT ?_;refine cK Tryz.func195 (bIq _ _ ‹_›) rfl rfl .nil trivial fun _=>?_;refine sp hT ?_;refine nn<|bI<|bM<|bH ?_;exact bN () rfl (bD rfl) .nil trivial (dy5b ‹_› ‹_›)
 have hc39:=beq_eq_false_iff_ne.1 hc39;refine sr<|sp2 hT ?_;refine nn<|bL rfl (fun hc47=>?_) (fun hc47=>?_)
 ·have hc47:=eq_of_beq hc47;refine sr<|sp4 hT ?_;refine nn<|bI<|bM<|bH ?_;exact bN () rfl (bD rfl) .nil trivial (dy6 ‹_›)
 have hc47:=beq_eq_false_iff_ne.1 hc47;refine sr<|sp2 hT ?_;refine nn<|bL rfl (fun hc52=>?_) (fun hc52=>?_)
 ·have hc52:=eq_of_beq hc52;refine sr<|sp4 hT ?_;refine nn<|bI<|bM<|bH ?_;exact bN () rfl (bD rfl) .nil trivial (dy7 ‹_›)
 have hc52:=beq_eq_false_iff_ne.1 hc52;refine sr<|sp2 hT ?_;refine nn<|bL rfl (fun hc57=>?_) (fun hc57=>?_)
 ·have hc57:=eq_of_beq hc57;refine sr<|sp4 hT ?_;refine nn<|bI<|bM<|bH ?_;exact bN () rfl (bD rfl) .nil trivial (dy14 ‹_›)
 have hc57:=beq_eq_false_iff_ne.1 hc57;refine sr<|sp2 hT ?_;refine nn<|bL rfl (fun hc62=>?_) (fun hc62=>?_)
 ·have hc62:=eq_of_beq hc62;refine sr<|sp4 hT ?_;refine nn<|bI<|bM<|bH ?_;exact bN () rfl (bD rfl) .nil trivial (dy15 ‹_›)
 have hc62:=beq_eq_false_iff_ne.1 hc62;refine sr<|sp2 hT ?_;refine nn<|bL rfl (fun hc67=>?_) (fun hc67=>?_)
 ·have hc67:=eq_of_beq hc67;refine bE ?_
  obtain⟨m,hm⟩: ∃m:Nat,b=(m:Int):=⟨b.toNat,by have:=nn17 hr ‹_›;omega⟩
  subst hm;refine bB<|sp2 hT ?_;refine cK Tryz.func196 (raised_spec a m) rfl rfl .nil trivial fun _=>?_;refine sp hT ?_;refine nn<|bI<|bM<|bH ?_;exact bN () rfl (bD rfl) .nil trivial (dy17 ‹_›)
 have hc67:=beq_eq_false_iff_ne.1 hc67;refine bO<|bY<|bC<|sr<|sp3 hT ?_;refine cK Tryz.func197 (holds_spec _ _ _) rfl rfl .nil trivial fun _=>?_;refine cK Tryz.func194 (wP _) rfl rfl .nil trivial fun _=>?_;refine sp hT ?_;refine nn<|bI ?_;exact bN () rfl (bD rfl) .nil trivial (dyE ‹_› ‹_› ‹_› ‹_› ‹_› ‹_› ‹_› ‹_› ‹_› ‹_›)
set_option maxRecDepth 100000 in
theorem uL(f a b:Int):dM Tryz.prog 94 [.int .u8 f,.int .i64 a,.int .i64 b] [] [] (fun(_:Unit)=> .tuple #[.int .i64 (dyadW f a b).1,.int .i64 (dyadW f a b).2]) (fun _=>[]) (fun _=>[]):=by
 have hT:=cZ;refine cO Tryz.func94 rfl Tryz.ntmps94 rfl ?_;intro β hM;refine sr<|sp2 hT ?_;refine nn<|bE<|sr<|sp hT ?_;refine cK Tryz.func74 (sW _ _) rfl rfl .nil trivial fun _=>?_;refine sp hT ?_;refine nn<|bL rfl (fun hc10=>?_) (fun hc10=>?_)
 ·have hc10:=gR hc10;refine sr<|sp2 hT ?_;refine nn<|bI<|bH ?_;exact cC () rfl (bD rfl) (bD rfl) .nil trivial (by simp [dyadW, *])
 have hc10:=gS hc10;refine bO<|bC<|bE<|sr<|sp3 hT ?_;refine cK Tryz.func148 (refuses_spec _ _ _) rfl rfl .nil trivial fun _=>?_;refine nn<|bL rfl (fun hc14=>?_) (fun hc14=>?_)
 ·refine sr<|sp2 hT ?_;refine nn<|bI<|bH ?_;exact cC () rfl (bD rfl) (bD rfl) .nil trivial (by simp [dyadW, *])
 refine bO<|bC<|sr<|sp3 hT ?_;refine cK Tryz.func149 (dyad_spec _ _ _ ‹_›) rfl rfl .nil trivial fun _=>?_;refine sp2 hT ?_;refine nn<|bI ?_;exact cC () rfl (bD rfl) (bD rfl) .nil trivial (by simp [dyadW, *])
set_option maxRecDepth 100000 in
theorem Monad_spec(f a:Int):dM Tryz.prog 147 [.int .u8 f,.int .i64 a] [] [] (fun(_:Unit)=> .tuple #[.int .i64 (monadW f a).1,.int .i64 (monadW f a).2]) (fun _=>[]) (fun _=>[]):=by
 have hT:=cZ;refine cO Tryz.func147 rfl Tryz.ntmps147 rfl ?_;intro β hM;refine sr<|sp2 hT ?_;refine nn<|bE<|sr<|sp hT ?_;refine cK Tryz.func74 (sW _ _) rfl rfl .nil trivial fun _=>?_;refine sp hT ?_;refine nn<|bL rfl (fun hc8=>?_) (fun hc8=>?_)
 ·have hc8:=gR hc8;refine sr<|sp2 hT ?_;refine nn<|bI<|bH ?_;exact cC () rfl (bD rfl) (bD rfl) .nil trivial (mo1 ‹_›)
 have hc8:=gS hc8;refine bO<|bC<|bE<|sr<|sp hT ?_;refine nn<|bW<|sr<|sp2 hT ?_;refine nn<|bL rfl (fun hc10=>?_) (fun hc10=>?_)
 ·have hc10:=eq_of_beq hc10;refine sr<|sp4 hT ?_;refine nn<|bI<|bM<|bH ?_;exact cC () rfl (bD rfl) (bD rfl) .nil trivial (mo2 ‹_›)
 have hc10:=beq_eq_false_iff_ne.1 hc10;refine sr<|sp2 hT ?_;refine nn<|bL rfl (fun hc14=>?_) (fun hc14=>?_)
 ·have hc14:=eq_of_beq hc14;refine sr<|sp2 hT ?_;refine cK Tryz.func194 (wP _) rfl rfl .nil trivial fun _=>?_;refine sp2 hT ?_;refine cK Tryz.func194 (wP _) rfl rfl .nil trivial fun _=>?_;refine sp3 hT ?_;refine nn<|bI<|bM<|bH ?_;exact cC () rfl (bD rfl) (bD rfl) .nil trivial (mo3 ‹_›)
 have hc14:=beq_eq_false_iff_ne.1 hc14;refine sr<|sp2 hT ?_;refine nn<|bL rfl (fun hc23=>?_) (fun hc23=>?_)
 ·have hc23:=eq_of_beq hc23;refine sr<|sp2 hT ?_;refine cK Tryz.func94 (uL _ _ _) rfl rfl .nil trivial fun _=>?_;refine sp4 hT ?_;refine nn<|bI<|bM<|bH ?_;exact cC () rfl (bD rfl) (bD rfl) .nil trivial (mo4 ‹_›)
 have hc23:=beq_eq_false_iff_ne.1 hc23;refine sr<|sp2 hT ?_;refine nn<|bL rfl (fun hc30=>?_) (fun hc30=>?_)
 ·have hc30:=eq_of_beq hc30;refine sr<|sp4 hT ?_;refine sp2 hT ?_;refine nn<|bI<|bM<|bH ?_;exact cC () rfl (bD rfl) (bD rfl) .nil trivial (mo5 ‹_›)
 have hc30:=beq_eq_false_iff_ne.1 hc30;refine sr<|sp2 hT ?_;refine nn<|bL rfl (fun hc36=>?_) (fun hc36=>?_)
 ·have hc36:=eq_of_beq hc36;refine bE<|sr<|sp3 hT ?_;refine nn<|bL rfl (fun hc40=>?_) (fun hc40=>?_)
  ·have hc40:=of_decide_eq_true hc40;have hb1:=big1_t (a:=a) ‹_›;refine sr<|sp2 hT ?_;refine nn<|bI<|bH<|bM<|bH ?_;exact cC () rfl (bD rfl) (bD rfl) .nil trivial (mo16a ‹_› ‹_›)
  have hc40:=Int.not_lt.1 (of_decide_eq_false hc40);have hb1:=big1_g (a:=a) ‹_›;refine bO<|bC<|sr<|sp hT ?_;refine ss (sti_xorI rfl rfl rfl) ?_;refine sp2 hT ?_;refine nn<|bI<|bM<|bH ?_;exact cC () rfl (bD rfl) (bD rfl) .nil trivial (mo16b ‹_› ‹_›)
 have hc36:=beq_eq_false_iff_ne.1 hc36;refine bO<|bY<|bC<|sr<|sp3 hT ?_;refine nn<|bI ?_;exact cC () rfl (bD rfl) (bD rfl) .nil trivial (moE ‹_› ‹_› ‹_› ‹_› ‹_› ‹_›)
set_option maxRecDepth 100000 in
theorem Unit_spec(f:Int):dM Tryz.prog 95 [.int .u8 f] [] [] (fun(_:Unit)=> .tuple #[.int .i64 (unitW f).1,.bool (unitW f).2]) (fun _=>[]) (fun _=>[]):=by
 have hT:=cZ;refine cO Tryz.func95 rfl Tryz.ntmps95 rfl ?_;intro β hM;refine sr<|sp2 hT ?_;refine nn<|bE<|sr<|sp hT ?_;refine nn<|bW<|sr<|sp2 hT ?_;refine nn<|bL rfl (fun hc5=>?_) (fun hc5=>?_)
 ·have hc5_r:=hc5;have hc5:=eq_of_beq hc5;refine sr<|sp2 hT ?_;refine nn<|bI<|bM<|bH ?_;exact cC () rfl (bD rfl) (bD rfl) .nil trivial (by simp [unitW, *])
 have hc5_r:=hc5;have hc5:=beq_eq_false_iff_ne.1 hc5;refine sr<|sp2 hT ?_;refine nn<|bL rfl (fun hc7=>?_) (fun hc7=>?_)
 ·have hc7_r:=hc7;have hc7:=eq_of_beq hc7;refine sr<|sp2 hT ?_;refine nn<|bI<|bM<|bH ?_;exact cC () rfl (bD rfl) (bD rfl) .nil trivial (by simp [unitW, *])
 have hc7_r:=hc7;have hc7:=beq_eq_false_iff_ne.1 hc7;refine bE<|sr<|sp2 hT ?_;refine nn<|bL rfl (fun hc9=>?_) (fun hc9=>?_)
 ·have hc9_r:=hc9;have hc9:=eq_of_beq hc9;refine bO<|bC<|cG rfl hc9_r ?_;refine sr<|sp2 hT ?_;refine nn<|bI<|bM<|bH ?_;exact cC () rfl (bD rfl) (bD rfl) .nil trivial (by simp [unitW, *])
 have hc9_r:=hc9;have hc9:=beq_eq_false_iff_ne.1 hc9;refine sr<|sp2 hT ?_;refine nn<|bL rfl (fun hc9_1=>?_) (fun hc9_1=>?_)
 ·have hc9_1_r:=hc9_1;have hc9_1:=eq_of_beq hc9_1;refine bO<|bC<|cG rfl hc9_1_r ?_;refine sr<|sp2 hT ?_;refine nn<|bI<|bM<|bH ?_;exact cC () rfl (bD rfl) (bD rfl) .nil trivial (by simp [unitW, *])
 have hc9_1_r:=hc9_1;have hc9_1:=beq_eq_false_iff_ne.1 hc9_1;refine sr<|sp2 hT ?_;refine nn<|bL rfl (fun hc9_2=>?_) (fun hc9_2=>?_)
 ·have hc9_2_r:=hc9_2;have hc9_2:=eq_of_beq hc9_2;refine bO<|bC<|cG rfl hc9_2_r ?_;refine sr<|sp2 hT ?_;refine nn<|bI<|bM<|bH ?_;exact cC () rfl (bD rfl) (bD rfl) .nil trivial (by simp [unitW, *])
 have hc9_2_r:=hc9_2;have hc9_2:=beq_eq_false_iff_ne.1 hc9_2;refine sr<|sp2 hT ?_;refine nn<|bL rfl (fun hc9_3=>?_) (fun hc9_3=>?_)
 ·have hc9_3_r:=hc9_3;have hc9_3:=eq_of_beq hc9_3;refine bO<|bC<|cG rfl hc9_3_r ?_;refine sr<|sp2 hT ?_;refine nn<|bI<|bM<|bH ?_;exact cC () rfl (bD rfl) (bD rfl) .nil trivial (by simp [unitW, *])
 have hc9_3_r:=hc9_3;have hc9_3:=beq_eq_false_iff_ne.1 hc9_3;refine sr<|sp2 hT ?_;refine nn<|bL rfl (fun hc9_4=>?_) (fun hc9_4=>?_)
 ·have hc9_4_r:=hc9_4;have hc9_4:=eq_of_beq hc9_4;refine bO<|bC<|cG rfl hc9_4_r ?_;refine sr<|sp2 hT ?_;refine nn<|bI<|bM<|bH ?_;exact cC () rfl (bD rfl) (bD rfl) .nil trivial (by simp [unitW, *])
 have hc9_4_r:=hc9_4;have hc9_4:=beq_eq_false_iff_ne.1 hc9_4;refine sr<|sp2 hT ?_;refine nn<|bL rfl (fun hc9_5=>?_) (fun hc9_5=>?_)
 ·have hc9_5_r:=hc9_5;have hc9_5:=eq_of_beq hc9_5;refine bO<|bC<|cG rfl hc9_5_r ?_;refine sr<|sp2 hT ?_;refine nn<|bI<|bM<|bH ?_;exact cC () rfl (bD rfl) (bD rfl) .nil trivial (by simp [unitW, *])
 have hc9_5_r:=hc9_5;have hc9_5:=beq_eq_false_iff_ne.1 hc9_5;refine bB<|sp2 hT ?_;refine nn<|bL rfl (fun hc9_6=>?_) (fun hc9_6=>?_)
 ·have hc9_6_r:=hc9_6;have hc9_6:=eq_of_beq hc9_6;refine sr<|sp2 hT ?_;refine nn<|bI<|bM<|bH ?_;exact cC () rfl (bD rfl) (bD rfl) .nil trivial (by simp [unitW, *])
 have hc9_6_r:=hc9_6;have hc9_6:=beq_eq_false_iff_ne.1 hc9_6;refine bO<|bY<|bC<|sr<|sp hT ?_;refine cK Tryz.func74 (sW _ _) rfl rfl .nil trivial fun _=>?_;refine sp2 hT ?_;refine nn<|bI ?_;exact cC () rfl (bD rfl) (bD rfl) .nil trivial (by simp [unitW, *])
theorem bad_a{n:Int}(h:n<0):Value.bool true= .bool (pH n):=by simp [pH,h]
theorem bad_b{n:Int}(h: ¬n<0):Value.bool (decide (65536<n))= .bool (pH n):=by simp [pH,h]
section
variable {l : List Int} {n s m : Int} {i : Nat} {r : Int × Int}
theorem bDr(h:4<l.length∨l.any pH=true):fP l=(0,61):=by rw [fP,if_pos h]
theorem size_zero(h1: ¬4<l.length)(h2:l.any pH=false)(h3:l.contains 0=true):fP l=(0,0):=by rw [fP,if_neg (by rw [h2];simp;omega),if_pos h3]
theorem size_prod(h1: ¬4<l.length)(h2:l.any pH=false)(h3:l.contains 0=false):fP l=kW l 1:=by rw [fP,if_neg (by rw [h2];simp;omega),if_neg (by rw [h3];simp)]
theorem bJs(h:r=kW (l.drop i) n)(hx:l[i]?=some s)(hb:65536<w64 (n*s)):r=(0,61):=by
 rw [kK hx,kW,if_pos hb] at h;exact h
theorem bEh(h:r=kW (l.drop i) n)(hx:l[i]?=some s)(hb: ¬65536<w64 (n*s)):r=kW (l.drop (i+1)) (w64 (n*s)):=by
 rw [kK hx,kW,if_neg hb] at h;exact h
theorem bJc(h:r=kW (l.drop i) n)(hi:l.length≤i):r=(n,0):=by
 rw [List.drop_of_length_le hi] at h;exact h
end
section
variable {x : ArrV}
theorem bBl(h:(fP x.sides.list).2=0):Value.bool ((fP x.sides.list).1==((x.data.list.length:Nat):Int))= .bool (kU x.arr):=by simp [kU,ArrV.arr,h]
theorem bCb(h:(fP x.sides.list).2≠0):Value.bool false= .bool (kU x.arr):=by simp [kU,ArrV.arr,h]
end
set_option maxRecDepth 100000 in
theorem sizeBad_spec(n:Int):dM Tryz.prog 144 [.int .i64 n] [] [] (fun(_:Unit)=> .bool (pH n)) (fun _=>[]) (fun _=>[]):=by
 have hT:=cZ;refine cO Tryz.func144 rfl Tryz.ntmps144 rfl ?_;intro β hM;refine sr<|sp hT ?_;refine nn<|sr<|sp3 hT ?_;refine cB (fun hg5=>?_) (fun hg5=>?_)
 ·have hg5:=of_decide_eq_true hg5;refine sk2 ?_;refine sp2 hT ?_;refine nn<|bI ?_;exact bN () rfl (bD rfl) .nil trivial (by first | exact bad_a (by omega) | exact bad_b (by omega))
 have hg5:=Int.not_lt.1 (of_decide_eq_false hg5);refine sp4 hT ?_;refine nn<|bI ?_;exact bN () rfl (bD rfl) .nil trivial (by first | exact bad_a (by omega) | exact bad_b (by omega))
set_option maxRecDepth 100000 in
theorem bId(A:Option Addr)(c:Nat)(l:List Int)(hl:l.length≤140737488355328):dM Tryz.prog 83 [.slice A l.length c] [] [cQ.sl (.slice A l.length c) l] (fun(_:Unit)=> .tuple #[.int .i64 (fP l).1,.int .i64 (fP l).2]) (fun _=>[]) (fun _=>[]):=by
 have hT:=cZ;generalize hR:fP l=r;refine cO Tryz.func83 rfl Tryz.ntmps83 rfl ?_;intro β hM;refine sr<|sp2 hT ?_;refine nn<|bE<|sr<|sp4 hT ?_;refine cB (fun hg10=>?_) (fun hg10=>?_)
 ·have hg10:=of_decide_eq_true hg10;refine sk2 ?_;refine sp hT ?_;refine nn<|cG rfl rfl ?_;refine sr<|sp2 hT ?_;refine nn<|bI<|bH ?_;have hr:=hR.symm.trans (bDr (by first | exact .inl (by omega) | exact .inr ‹_›));subst hr;exact cC () rfl (bD rfl) (bD rfl) .nil trivial rfl
 have hg10:=Int.not_lt.1 (of_decide_eq_false hg10);refine sp hT ?_;refine cK Tryz.func80 (tG _ _ _ hl 144 [] [] pH (cE Tryz.func144 rfl rfl) sizeBad_spec) rfl rfl .nil ⟨Has.of mT0,trivial⟩ fun _=>?_;refine sp hT ?_;refine nn<|bL rfl (fun hc13=>?_) (fun hc13=>?_)
 ·refine sr<|sp2 hT ?_;refine nn<|bI<|bH ?_;have hr:=hR.symm.trans (bDr (by first | exact .inl (by omega) | exact .inr ‹_›));subst hr;exact cC () rfl (bD rfl) (bD rfl) .nil trivial rfl
 refine bO<|bC<|bE<|sr<|sp hT ?_;refine cK Tryz.func143 (pK _ _ _ hl _) rfl rfl .nil ⟨Has.of mT0,trivial⟩ fun _=>?_;refine nn<|bL rfl (fun hc15=>?_) (fun hc15=>?_)
 ·refine sr<|sp2 hT ?_;refine nn<|bI<|bH ?_;have hr:=hR.symm.trans (size_zero (by omega) ‹_› ‹_›);subst hr;exact cC () rfl (bD rfl) (bD rfl) .nil trivial rfl
 refine bO<|bC<|sr<|sp hT ?_;refine nn<|bE<|sr<|sp3 hT ?_;refine nn<|bW<|cX (ι:=Nat×Int) [(16,_),(17,_)] ⟨rfl,rfl,trivial⟩ (fun⟨i,n⟩=>[(4,.int .i64 n),(18,.int .i64 (i:Nat))]) (fun _=>[]) (fun⟨i,n⟩=>[bU.pure (i≤l.length∧r=kW (l.drop i) n)]) (fun⟨i,n⟩=>l.length-i) (0,1) ⟨rfl,rfl,trivial⟩ .nil ⟨Has.pure (⟨by omega,hR.symm.trans (size_prod (by omega) ‹_› ‹_›)⟩),trivial⟩ ?_;rintro⟨i,n⟩;dsimp only;refine cD (Has.of mT0) fun hinv7=>?_;refine sr<|sp hT ?_;refine nn<|bE<|bL rfl (fun hc19=>?_) (fun hc19=>?_)
 ·have hc19:=of_decide_eq_true hc19;refine bO<|bC<|bE<|bW<|sr ?_
  obtain⟨x1,hx2⟩: ∃x',l[i]?=some x':=⟨_,List.getElem?_eq_getElem (by omega)⟩
  refine ss (bV hT (k:=i) (bP (Has.of mT1)) rfl rfl rfl rfl rfl rfl rfl (by omega)) ?_;refine ss (bR hT (cM.knows (bP (Has.of mT1)) (k:=i) (x:=x1) hx2 0) rfl rfl rfl rfl rfl) ?_;refine sp hT ?_;refine nn<|sr<|sp4 hT ?_;refine nn<|sr<|sp2 hT ?_;refine nn<|bL rfl (fun hc26=>?_) (fun hc26=>?_)
  ·have hc26:=of_decide_eq_true hc26;refine sr<|sp2 hT ?_;refine nn<|bI<|bM<|bH<|bH<|bM<|bH ?_;have hr:=bJs hinv7.2 hx2 ‹_›;subst hr;exact cC () rfl (bD rfl) (bD rfl) .nil trivial rfl
  have hc26:=Int.not_lt.1 (of_decide_eq_false hc26);refine bO<|bY<|bC<|bB<|sp hT ?_;refine bZ (z':=(((i+1):Nat):Int)) (cV (by omega) (by omega)) ?_;refine sp hT ?_;refine nn ?_;exact cJ (i+1,_) (by dsimp only;omega) ⟨rfl,rfl,trivial⟩ ⟨rfl,rfl,trivial⟩ .nil ⟨Has.pure (⟨by dsimp only;omega,bEh hinv7.2 hx2 (Int.not_lt.2 ‹_›)⟩),trivial⟩ (bQ.drop 1)
 have hc19:=Int.not_lt.1 (of_decide_eq_false hc19);refine cU<|cI<|cI<|cT<|bC<|sr<|sp3 hT ?_;refine nn<|bI ?_;have hr:=bJc hinv7.2 (by omega);subst hr;exact cC () rfl (bD rfl) (bD rfl) .nil trivial rfl
set_option maxRecDepth 100000 in
theorem rightAr_spec(x:ArrV)(hl:x.sides.list.length≤140737488355328):dM Tryz.prog 84 [.agg #[.slice x.sides.addr x.sides.list.length x.sides.cap,.slice x.data.addr x.data.list.length x.data.cap]] [] [cQ.sl (.slice x.sides.addr x.sides.list.length x.sides.cap) x.sides.list] (fun(_:Unit)=> .bool (kU x.arr)) (fun _=>[]) (fun _=>[]):=by
 have hT:=cZ;refine cO Tryz.func84 rfl Tryz.ntmps84 rfl ?_;intro β hM;refine sr<|gG rfl rfl rfl rfl rfl rfl fun b1=>?_;refine sp hT ?_;refine nn<|sr<|sp hT ?_;refine ss (ldO hT (dO .head)) ?_;refine cK Tryz.func83 (bId _ _ _ (by omega)) rfl rfl .nil ⟨Has.of mT0,trivial⟩ fun _=>?_;refine sp4 hT ?_;refine sp hT ?_;refine nn<|sr<|sp3 hT ?_;refine cB (fun hg13=>?_) (fun hg13=>?_)
 ·have hg13:=eq_of_beq hg13;refine sp2 hT ?_;refine ss (ldO hT (fE .head)) ?_;refine sp4 hT ?_;refine nn<|bI ?_;exact bN () rfl (bD rfl) .nil trivial (by first | exact bBl ‹_› | exact bCb ‹_›)
 have hg13:=beq_eq_false_iff_ne.1 hg13;refine sk4 ?_;refine sk ?_;refine sp2 hT ?_;refine nn<|bI ?_;exact bN () rfl (bD rfl) .nil trivial (by first | exact bBl ‹_› | exact bCb ‹_›)
section
variable {P : Program} {β : fY} {n : Nat} {Γ : Env} {H : List bX} {F : List bU} {Q : Exit → Act → World → Prop}
theorem kO{o:Oper}{t:TypeId}{x:Operand}{v:Value}{d:TypeDesc}(ho:o.op= .makeInterface t x)(hd:P.underlying t=some d)(hne: ∀ms,d≠ .interface ms)(hx:Γ.ev x=some v):Sti P β n Γ H F o (.iface t v):=fun a w S f s k=>by
 unfold execOp;simp only [ho,f.ev hx];unfold Instr.makeInterface;rw [Sem.run_bind,Sem.run_bind,run_underlying hd,Result.andThen_ok];cases d<;>first | exact absurd rfl (hne _) | rfl
end
end Go.Proofs.YtnmhcaahkaocgaaGreatDoor
