/- Texts of one proof, one behind the other: TysN, FindP, FuA, FuB, FuC, FuD, FuE. -/
import Derived.Test.YtofjmphlpdhohaaGreatDoorM8
import Derived.Test.YtofjmphlpdhohaaGreatDoorM11
namespace Go.Proofs.YtofjmphlpdhohaaGreatDoor
open Go.RowKit Go.ChangeShapes Go.WideShapes
structure cU where
 loads:Int
 step:Int
 op:Int
 makes:Int
 out:Bool
 deriving Inhabited
def mU:Flat cU where
 size:=5
 cells:=fun x=>[.int .i64 x.loads,.int .i64 x.step,.int .i64 x.op,.int .i64 x.makes,.bool x.out]
 len:=fun _=>rfl
 one:=fun x u hu=>by
  simp at hu
  rcases hu with rfl | rfl | rfl | rfl | rfl<;>rfl
 pos:=by decide
def fuseT:Tab:=[(3,⟨.int .i64,1⟩),(2,⟨.int .i64,1⟩),(5,⟨.int .u8,1⟩),(4,⟨.bool,1⟩),(37,⟨.int .u8,1⟩),(31,⟨.int .i64,1⟩),(35,⟨.slice 45,1⟩),(36,⟨.slice 35,1⟩),(42,⟨.struct [(3,0),(3,1),(2,2),(35,3),(37,4)],5⟩),(38,⟨.slice 42,1⟩),(47,⟨.struct [(36,0),(3,1)],2⟩),(22,⟨.slice 47,1⟩),(40,⟨.struct [(3,0),(3,1),(35,2),(36,3),(37,4),(38,5)],6⟩),(23,⟨.slice 40,1⟩),(24,⟨.slice 3,1⟩),(51,⟨.slice 4,1⟩),(26,⟨.struct [(3,0),(22,1),(23,2),(24,3)],4⟩),(55,⟨.struct [(3,0),(3,1)],2⟩),(48,⟨.slice 55,1⟩),(115,⟨.struct [(3,0),(3,1),(3,2),(51,3)],4⟩),(72,⟨.struct [(3,0),(3,1),(3,2),(3,3),(4,4)],5⟩),(130,⟨.slice 72,1⟩),(112,⟨.array 64 4,64⟩),(45,⟨.struct [(2,0),(43,1)],7⟩),(43,⟨.array 6 5,6⟩),(258,⟨.slice 5,1⟩),(206,⟨.int .u64,1⟩),(113,⟨.other,1⟩),(202,⟨.other,1⟩),(119,⟨.other,1⟩),(145,⟨.slice 38,1⟩),(212,⟨.array 1024 72,5120⟩)]
theorem dA:fO Tryz.prog fuseT:=xK.ok
 ⟨⟨by rw [Tryz.underlying3];rfl,by kernel_rfl⟩,
  ⟨by rw [Tryz.underlying2];rfl,by kernel_rfl⟩,
  ⟨by rw [Tryz.underlying5];rfl,by kernel_rfl⟩,
  ⟨by rw [Tryz.underlying4];rfl,by kernel_rfl⟩,
  ⟨by rw [Tryz.underlying37];rfl,by kernel_rfl⟩,
  ⟨by rw [Tryz.underlying31];rfl,by kernel_rfl⟩,
  ⟨by rw [Tryz.underlying35];rfl,by kernel_rfl⟩,
  ⟨by rw [Tryz.underlying36];rfl,by kernel_rfl⟩,
  ⟨by rw [Tryz.underlying42];rfl,by kernel_rfl⟩,
  ⟨by rw [Tryz.underlying38];rfl,by kernel_rfl⟩,
  ⟨by rw [Tryz.underlying47];rfl,by kernel_rfl⟩,
  ⟨by rw [Tryz.underlying22];rfl,by kernel_rfl⟩,
  ⟨by rw [Tryz.underlying40];rfl,by kernel_rfl⟩,
  ⟨by rw [Tryz.underlying23];rfl,by kernel_rfl⟩,
  ⟨by rw [Tryz.underlying24];rfl,by kernel_rfl⟩,
  ⟨by rw [Tryz.underlying51];rfl,by kernel_rfl⟩,
  ⟨by rw [Tryz.underlying26];rfl,by kernel_rfl⟩,
  ⟨by rw [Tryz.underlying55];rfl,by kernel_rfl⟩,
  ⟨by rw [Tryz.underlying48];rfl,by kernel_rfl⟩,
  ⟨by rw [Tryz.underlying115];rfl,by kernel_rfl⟩,
  ⟨by rw [Tryz.underlying72];rfl,by kernel_rfl⟩,
  ⟨by rw [Tryz.underlying130];rfl,by kernel_rfl⟩,
  ⟨by rw [Tryz.underlying112];rfl,by kernel_rfl⟩,
  ⟨by rw [Tryz.underlying45];rfl,by kernel_rfl⟩,
  ⟨by rw [Tryz.underlying43];rfl,by kernel_rfl⟩,
  ⟨by rw [Tryz.underlying258];rfl,by kernel_rfl⟩,
  ⟨by rw [Tryz.underlying206];rfl,by kernel_rfl⟩,
  ⟨by rw [Tryz.underlying113];rfl,by kernel_rfl⟩,
  ⟨by rw [Tryz.underlying202];rfl,by kernel_rfl⟩,
  ⟨by rw [Tryz.underlying119];rfl,by kernel_rfl⟩,
  ⟨by rw [Tryz.underlying145];rfl,by kernel_rfl⟩,
  ⟨by rw [Tryz.underlying212];rfl,by kernel_rfl⟩,trivial⟩
theorem bAq: ∃i:TypeInfo,Tryz.prog.info? 42=some i∧i.zero=some (.agg #[.int .i64 0,.int .i64 0,.int .i64 0,.slice none 0 0,.int .u8 0])∧i.size=5∧i.bytes=56:=by
 have h:(Tryz.prog.info? 42).map (fun i=>(i.zero,i.size,i.bytes))=some (some (.agg #[.int .i64 0,.int .i64 0,.int .i64 0,.slice none 0 0,.int .u8 0]),5,56):=by kernel_rfl
 cases hi:Tryz.prog.info? 42 with
 | none=>simp [hi] at h
 | some i=>simp [hi] at h;exact⟨i,rfl,h.1,h.2.1,h.2.2⟩
theorem qZ{β:gD}{n:Nat}{Γ:Env}{H:List bZ}{F:List bN}{Q:Exit→Act→World→Prop}{ops:Array Oper}{rest:List Oper}{o:Oper}{d:Nat}{x:Operand}{m:OpV}(hw:want ops Γ o=some true)(ho:o.op= .buildSlice 38 1 #[(0,x)])(hd:o.dst=some d)(hn:Nat.blt d n=true)
  (hx:Γ.ev x=some (.agg #[.int .i64 m.how,.int .i64 m.k,.int .i64 m.n,.slice m.p.addr m.p.list.length m.p.cap,.int .u8 m.fn])) (k: ∀b,At β n ((d,.slice (some ⟨b,0,none⟩) 1 1)::Γ) (.obj b (.cells (opE.all [m]).toArray 42)::H) F (wpList Tryz.prog ops Q rest)):At β n Γ H F (wpList Tryz.prog ops Q (o::rest)):=by
 obtain⟨i,hi,hz,hs,_⟩:=bAq;refine oQ hw ho hd hn hx Tryz.underlying38 hi hz (by omega) (by omega) ?_ k;rw [hs]
 kernel_rfl
theorem at_none_op{β:gD}{n:Nat}{Γ:Env}{H:List bZ}{F:List bN}{Q:Exit→Act→World→Prop}{ops:Array Oper}{rest:List Oper}{o:Oper}{d:Nat}(hw:want ops Γ o=some true)(ho:o.op= .buildSlice 38 0 #[])(hd:o.dst=some d)(hn:Nat.blt d n=true)
  (k: ∀b,At β n ((d,.slice (some ⟨b,0,none⟩) 0 0)::Γ) (opE.row (.slice (some ⟨b,0,none⟩) 0 0) 42 []::H) F (wpList Tryz.prog ops Q rest)):At β n Γ H F (wpList Tryz.prog ops Q (o::rest)):=by
 obtain⟨i,hi,_⟩:=bAq;exact qN opE hw ho hd hn Tryz.underlying38 hi k
theorem lA{β:gD}{n:Nat}{Γ:Env}{H:List bZ}{F:List bN}{Q:Exit→Act→World→Prop}{ops:Array Oper}{rest:List Oper}{o:Oper}{d:Nat}{x y:Operand}{c q:Nat}{v:Value}{A:Option Addr}{xs ys:List OpV}{H':List bZ}(hH:fT H (opE.row v 42 xs) H')(hr:cB β H F opE A ys)(hg:o.guard=none)
  (ho:o.op= .call {callee:= .builtin .append,args:= #[x,y],argTypes:= #[38,38]}) (hd:o.dst=some d) (hn:Nat.blt d n=true)
  (hx:Γ.ev x=some v) (hy:Γ.ev y=some (.slice A q c)) (hq:q=ys.length) (hl:xs.length+ys.length≤2513169434916)
  (k: ∀A' cap',At β n ((d,.slice A' (xs++ys).length cap')::Γ) (opE.row (.slice A' (xs++ys).length cap') 42 (xs++ys)::H') F (wpList Tryz.prog ops Q rest)):At β n Γ H F (wpList Tryz.prog ops Q (o::rest)):=by
 obtain⟨i,hi,hz,hs,hb⟩:=bAq;exact iQ hH hr hg ho hd hn Tryz.underlying38 hi hz hs hb rfl hx hy hq (by omega) (by decide) k
end Go.Proofs.YtofjmphlpdhohaaGreatDoor
namespace Go.Proofs.YtofjmphlpdhohaaGreatDoor
open Go.RowKit
def plV (L:List (Nat×Nat))(m:Nat)(o:Bool):cU:=⟨(L.length:Nat),((gQ L).1:Nat),((gQ L).2:Nat),(m:Nat),o⟩
def placesC(c:fL):List cU:=c.bufs.mapIdx fun b _=>plV (fZ b c.steps 0) (mks c.steps b) (c.outs.contains (b:Int))
theorem zX(c:fL):(placesC c).length=c.bufs.length:=List.length_mapIdx
theorem place_at{c:fL}{b:Int}{p:cU}(h:(placesC c)[b.toNat]?=some p)(h0:0≤b):p=plV (fZ b c.steps 0) (mks c.steps b) (c.outs.contains b):=by
 unfold placesC at h;rw [List.getElem?_mapIdx] at h
 cases hb:c.bufs[b.toNat]? with
 | none=>rw [hb] at h;cases h
 | some u=>
  rw [hb] at h;have e:((b.toNat:Nat):Int)=b:=by omega
  simp only [Option.map_some,Option.some.injEq,e] at h;exact h.symm
theorem xC{b:Int}{x:StepC}: ∀{l:List StepC} {n:Nat},fZ b (l++[x]) n=fZ b l n++jV b (n+l.length) x.ops 0
 | [],n=>by simp [fZ]
 | y::l,n=>by
  rw [List.cons_append,fZ,fZ,xC,List.append_assoc,List.length_cons,show n+1+l.length=n+(l.length+1) by omega]
theorem pC{b:Int}{j:Nat}{o:OpC}: ∀{l:List OpC} {n:Nat},jV b j (l++[o]) n=jV b j l n++(if o.how=4∧o.k=b then [(j,n+l.length)] else [])
 | [],n=>by
  rw [List.nil_append,jV,jV];split<;>simp [jV]
 | y::l,n=>by
  have e:n+1+l.length=n+(l.length+1):=by omega
  rw [List.cons_append,jV,jV,pC,List.length_cons,e];split<;>simp
theorem bCl{b:Int}{x:StepC}{l:List StepC}:mks (l++[x]) b=mks l b+if x.buf=b then 1 else 0:=by
 unfold mks;rw [List.filter_append,List.length_append]
 congr 1
 by_cases e:x.buf=b
 ·simp [e]
 ·simp [e]
theorem tI(L:List (Nat×Nat))(q:Nat×Nat):gQ (L++[q])=q:=by simp [gQ]
section
variable {c : fL} {j k : Nat} {all : List cU} {x : StepC} {o : OpC} {p : cU} {z : Int}
def PlI (c:fL)(j:Nat)(all:List cU):Prop:=all.length=1024∧ ∀b:Nat,b<1024→all[b]?=some (plV (fZ b (c.steps.take j) 0) (mks (c.steps.take j) b) false)
def PlJ (c:fL)(j:Nat)(x:StepC)(k:Nat)(all:List cU):Prop:=all.length=1024∧ ∀b:Nat,b<1024→all[b]?=some (plV (fZ b (c.steps.take j) 0++jV b j (x.ops.take k) 0) (mks (c.steps.take j++[x]) b) false)
def PlO (c:fL)(k:Nat)(all:List cU):Prop:=all.length=1024∧ ∀b:Nat,b<1024→all[b]?=some (plV (fZ b c.steps 0) (mks c.steps b) ((c.outs.take k).contains (b:Int)))
theorem pl_start:PlI c 0 (List.replicate 1024 ⟨0,0,0,0,false⟩):=⟨List.length_replicate,fun b hb=>by
 rw [List.getElem?_replicate,if_pos hb]
 rfl⟩
theorem pl_make(h:PlI c j all)(h0:0≤x.buf)(hp:all[x.buf.toNat]?=some p):PlJ c j x 0 (all.set x.buf.toNat {p with makes:=p.makes+1}):=by
 refine⟨by rw [List.length_set];exact h.1,fun b hb=>?_⟩;have hb':=h.2 b hb;rw [List.take_zero,bCl];show _=some (plV (_++[]) _ _);rw [List.append_nil]
 by_cases e:x.buf.toNat=b
 ·subst e;rw [hp] at hb';injection hb' with hb'
  subst hb';have e2:x.buf=((x.buf.toNat:Nat):Int):=by omega
  rw [List.getElem?_set_self (by rw [h.1];exact hb),if_pos e2];simp [plV]
 ·have e2: ¬x.buf=(b:Int):=by omega
  rw [List.getElem?_set_ne e,if_neg e2,hb',Nat.add_zero]
theorem pl_load(h:PlJ c j x k all)(ho:x.ops[k]?=some o)(h4:o.how=4)(h0:0≤o.k)(hp:all[o.k.toNat]?=some p):PlJ c j x (k+1) (all.set o.k.toNat ⟨p.loads+1,(j:Nat),(k:Nat),p.makes,p.out⟩):=by
 refine⟨by rw [List.length_set];exact h.1,fun b hb=>?_⟩;have hb':=h.2 b hb;obtain⟨hk,e1⟩:=List.getElem?_eq_some_iff.1 ho;have hl:(x.ops.take k).length=k:=by rw [List.length_take];omega
 rw [List.take_succ_eq_append_getElem hk,e1,pC,hl,Nat.zero_add]
 by_cases e:o.k.toNat=b
 ·subst e;rw [hp] at hb';injection hb' with hb'
  subst hb';have e2:o.k=((o.k.toNat:Nat):Int):=by omega
  rw [List.getElem?_set_self (by rw [h.1];exact hb),if_pos ⟨h4,e2⟩,←List.append_assoc];unfold plV;rw [tI,List.length_append,List.length_append,List.length_append];simp
 ·have e2: ¬o.k=(b:Int):=by omega
  rw [List.getElem?_set_ne e,if_neg (fun q=>e2 q.2),hb',List.append_nil]
theorem pl_skip(h:PlJ c j x k all)(ho:x.ops[k]?=some o)(h4:o.how≠4):PlJ c j x (k+1) all:=by
 refine⟨h.1,fun b hb=>?_⟩;obtain⟨hk,e1⟩:=List.getElem?_eq_some_iff.1 ho;rw [List.take_succ_eq_append_getElem hk,e1,pC,if_neg (fun q=>h4 q.1),List.append_nil];exact h.2 b hb
theorem pl_end(h:PlJ c j x k all)(hx:c.steps[j]?=some x)(hk:x.ops.length≤k):PlI c (j+1) all:=by
 refine⟨h.1,fun b hb=>?_⟩;have hb':=h.2 b hb;obtain⟨hj,e1⟩:=List.getElem?_eq_some_iff.1 hx;have hl:(c.steps.take j).length=j:=by rw [List.length_take];omega
 rw [List.take_of_length_le hk] at hb';rw [List.take_succ_eq_append_getElem hj,e1,xC,hl,Nat.zero_add];exact hb'
theorem pl_outs(h:PlI c j all)(hj:c.steps.length≤j):PlO c 0 all:=by
 refine⟨h.1,fun b hb=>?_⟩;have hb':=h.2 b hb;rw [List.take_of_length_le hj] at hb';rw [hb',List.take_zero];rfl
theorem pl_out(h:PlO c k all)(hz:c.outs[k]?=some z)(h0:0≤z)(hp:all[z.toNat]?=some p):PlO c (k+1) (all.set z.toNat {p with out:=true}):=by
 refine⟨by rw [List.length_set];exact h.1,fun b hb=>?_⟩;have hb':=h.2 b hb;obtain⟨hk,e1⟩:=List.getElem?_eq_some_iff.1 hz;rw [List.take_succ_eq_append_getElem hk,e1]
 by_cases e:z.toNat=b
 ·subst e;rw [hp] at hb';injection hb' with hb'
  subst hb';have e2:((z.toNat:Nat):Int)=z:=by omega
  rw [List.getElem?_set_self (by rw [h.1];exact hb),e2];simp [plV]
 ·have e2: ¬(b:Int)=z:=by omega
  rw [List.getElem?_set_ne e,hb']
  congr 2
  rw [List.contains_eq_mem,List.contains_eq_mem];simp [e2]
theorem pl_list(h:PlO c k all)(hk:c.outs.length≤k)(hn:c.bufs.length≤1024):all.take c.bufs.length=placesC c:=by
 apply List.ext_getElem?;intro b;unfold placesC;rw [List.getElem?_mapIdx,List.getElem?_take]
 by_cases hb:b<c.bufs.length
 ·have h1:=h.2 b (by omega);rw [List.take_of_length_le hk] at h1;rw [if_pos hb,h1,List.getElem?_eq_getElem hb];rfl
 ·rw [if_neg hb,List.getElem?_eq_none (by omega)];rfl
end
section
variable {c : fL} {i j k : Nat} {s t : StepC} {r : Option (Nat × Nat × Nat)}
theorem can_of(h:qJ c i j k s t):canC c i s=true:=by
 have hl:gQ (fZ s.buf c.steps 0)=(j,k):=by rw [h.ld];rfl
 unfold canC;rw [hl,Bool.and_eq_true];constructor
 ·unfold canA;rw [hl,h.ld];simp [h.how,h.at0,h.mk1,h.lt,h.out]
 ·unfold canB;rw [h.tj];simp only [Bool.and_eq_true,decide_eq_true_eq,List.all_eq_true,Bool.not_eq_true',List.contains_eq_mem,decide_eq_false_iff_not];exact⟨h.len,h.few,h.loops,h.own,h.total,h.uses⟩
theorem bBj(h:jG c=r):r=lZ c (c.steps.drop 0) 0:=by
 rw [←h];rfl
theorem lB(h:r=lZ c (c.steps.drop i) i)(hx:c.steps[i]?=some s)(hc: ∀j k t,qJ c i j k s t→False):r=lZ c (c.steps.drop (i+1)) (i+1):=by
 rw [h,kK hx,lZ,if_neg fun q=>by
  obtain⟨t,ht⟩:=xR hx q
  exact hc _ _ _ ht]
theorem next_yes(h:r=lZ c (c.steps.drop i) i)(hc:qJ c i j k s t):r=some (i,j,k):=by
 have hl:gQ (fZ s.buf c.steps 0)=(j,k):=by rw [hc.ld];rfl
 rw [h,kK hc.si,lZ,if_pos (can_of hc),hl]
theorem next_end(h:r=lZ c (c.steps.drop i) i)(hi:c.steps.length≤i):r=none:=by
 rw [h,List.drop_of_length_le hi];rfl
theorem one_ld{L:List (Nat×Nat)}(h:L.length=1): ∃j k,L=[(j,k)]:=match L,h with
 | [(j,k)],_=>⟨j,k,rfl⟩
theorem ld_at{b:Int}(h:fZ b c.steps 0=[(j,k)]): ∃t o,c.steps[j]?=some t∧t.ops[k]?=some o:=by
 have:(j,k)∈fZ b c.steps 0:=by rw [h];exact List.mem_singleton.2 rfl
 obtain⟨_,x,hx,o,ho,_⟩:=bCj.1 this;exact⟨x,o,hx,ho⟩
end
theorem bDr: ∀{l:List (List Mono)} {k:Nat},(yP l k).length=4*l.length
 | [],_=>rfl
 | p::l,k=>by
  rw [yP];simp only [List.length_cons,bDr];omega
theorem own_len{l:List (List Mono)}{b:Int}:(ownC l b).length≤4*l.length+2:=by
 unfold ownC
 cases l with
 | nil=>simp [ownC0]
 | cons p l=>
  simp only [ownC0,List.length_append,List.length_cons,List.length_nil,bDr];omega
end Go.Proofs.YtofjmphlpdhohaaGreatDoor
namespace Go.Proofs.YtofjmphlpdhohaaGreatDoor
open Go.RowKit
section
variable {P : Program} {β : gD} {n : Nat} {Γ : Env} {H : List bZ} {F : List bN} {K : Act → World → Prop} {T : Tab} {α : Type} {E : Flat α}
theorem mG{b:Nat}{t:TypeId}{xs:List α}{H':List bZ}(hH:fT H (.obj b (.cells (E.all xs).toArray t)) H')(hm:xs.length≤maxLen)(h:At β n Γ (E.row (.slice (some ⟨b,0,none⟩) xs.length xs.length) t xs::H') F K):At β n Γ H F K:=fun a w S f s k=>by
 have s2:=s.perm hH.perm;have hok:w.heap[b]?=some (.cells (E.all xs).toArray t):=s2.ok _ (List.mem_cons_self ..);refine h a w S f ⟨s2.kept,fun c hc=>?_,fun c hc b' hb=>?_,?_,s2.zone⟩ k
 ·rcases List.mem_cons.1 hc with rfl | hc
  ·refine⟨by rw [E.all_length],.inr ⟨b,xs.length,(E.all xs).toArray,rfl,Nat.zero_le _,hok,Nat.le_refl _,hm,by simp [E.all_length],?_⟩⟩;rw [List.take_of_length_le];simp [E.all_length]
  ·exact s2.ok c (List.mem_cons_of_mem _ hc)
 ·rcases List.mem_cons.1 hc with rfl | hc
  ·exact s2.own _ (List.mem_cons_self ..) b' hb
  ·exact s2.own c (List.mem_cons_of_mem _ hc) b' hb
 ·have hs:=List.pairwise_cons.1 s2.sep;exact List.pairwise_cons.2 ⟨fun d hd b' hb=>hs.1 d hd b' hb,hs.2⟩
section
variable {ι : Type} {fn : Func} {val : ι → Value} {Hout : ι → List bZ} {post : ι → List bN} {r1 r2 r3 r4 : ResultVar} {v1 v2 v3 v4 : Value}
theorem wS(x:ι)(hr:fn.results= #[r1,r2,r3,r4])(h1:RV P β n Γ H F r1 v1)(h2:RV P β n Γ H F r2 v2)(h3:RV P β n Γ H F r3 v3)(h4:RV P β n Γ H F r4 v4)(hH:Sel H (Hout x))(hF:bF F (post x))(he: .tuple #[v1,v2,v3,v4]=val x):At β n Γ H F (bodyPost P fn (Done β val Hout post) .ret):=fun a w S f s k=>by
 refine⟨f.defers,.tuple #[v1,v2,v3,v4],?_,x,S,by rw [he],s.sel hH,hF.all S w k⟩;rw [pM,hr];simp [h1 a w S f s k,h2 a w S f s k,h3 a w S f s k,h4 a w S f s k]
end
end
theorem bCk{β:gD}{n:Nat}{Γ:Env}{H:List bZ}{F:List bN}{Q:Exit→Act→World→Prop}{ops:Array Oper}{rest:List Oper}{o:Oper}{d:Nat}{x0 x1 x2 x3:Operand}{m0 m1 m2 m3:OpV}(hw:want ops Γ o=some true)(ho:o.op= .buildSlice 38 4 #[(0,x0),(1,x1),(2,x2),(3,x3)])(hd:o.dst=some d)(hn:Nat.blt d n=true)
  (h0:Γ.ev x0=some (.agg (opE.cells m0).toArray)) (h1:Γ.ev x1=some (.agg (opE.cells m1).toArray)) (h2:Γ.ev x2=some (.agg (opE.cells m2).toArray)) (h3:Γ.ev x3=some (.agg (opE.cells m3).toArray))
  (k: ∀b,At β n ((d,.slice (some ⟨b,0,none⟩) 4 4)::Γ) (.obj b (.cells (opE.all [m0,m1,m2,m3]).toArray 42)::H) F (wpList Tryz.prog ops Q rest)):At β n Γ H F (wpList Tryz.prog ops Q (o::rest)):=by
 obtain⟨i,hi,hz,hs,_⟩:=bAq;refine vN (m:=4) (parts:= #[(0,x0),(1,x1),(2,x2),(3,x3)]) (e:=42) (cs:=opE.all [m0,m1,m2,m3]) hw ho hd hn (fun a w f=>?_) k;have:=run_buildSlice (P:=Tryz.prog) w 38 42 4 #[(0,a.eval x0),(1,a.eval x1),(2,a.eval x2),(3,a.eval x3)] (opE.all [m0,m1,m2,m3]).toArray i _ Tryz.underlying38 hi hz (by omega) (by omega) (by rw [f.ev h0,f.ev h1,f.ev h2,f.ev h3,hs];kernel_rfl)
 simpa using this
theorem bDn: ∃i:TypeInfo,Tryz.prog.info? 72=some i∧i.zero=some (.agg #[.int .i64 0,.int .i64 0,.int .i64 0,.int .i64 0,.bool false])∧i.size=5∧i.bytes=40:=by
 have h:(Tryz.prog.info? 72).map (fun i=>(i.zero,i.size,i.bytes))=some (some (.agg #[.int .i64 0,.int .i64 0,.int .i64 0,.int .i64 0,.bool false]),5,40):=by kernel_rfl
 cases hi:Tryz.prog.info? 72 with
 | none=>simp [hi] at h
 | some i=>simp [hi] at h;exact⟨i,rfl,h.1,h.2.1,h.2.2⟩
section
variable {β : gD} {n : Nat} {Γ : Env} {H : List bZ} {F : List bN} {Q : Exit → Act → World → Prop} {ops : Array Oper} {rest : List Oper} {o : Oper} {d : Nat}
theorem bCr(hw:want ops Γ o=some true)(ho:o.op= .buildSlice 130 0 #[])(hd:o.dst=some d)(hn:Nat.blt d n=true)
  (k: ∀b,At β n ((d,.slice (some ⟨b,0,none⟩) 0 0)::Γ) (mU.row (.slice (some ⟨b,0,none⟩) 0 0) 72 []::H) F (wpList Tryz.prog ops Q rest)):At β n Γ H F (wpList Tryz.prog ops Q (o::rest)):=by
 obtain⟨i,hi,_⟩:=bDn;exact qN mU hw ho hd hn Tryz.underlying130 hi k
theorem at_app_place{x y:Operand}{c q:Nat}{v:Value}{A:Option Addr}{xs ys:List cU}{H':List bZ}(hH:fT H (mU.row v 72 xs) H')(hr:cB β H F mU A ys)(hg:o.guard=none)
  (ho:o.op= .call {callee:= .builtin .append,args:= #[x,y],argTypes:= #[130,130]}) (hd:o.dst=some d) (hn:Nat.blt d n=true)
  (hx:Γ.ev x=some v) (hy:Γ.ev y=some (.slice A q c)) (hq:q=ys.length) (hl:xs.length+ys.length≤3518437208883)
  (k: ∀A' cap',At β n ((d,.slice A' (xs++ys).length cap')::Γ) (mU.row (.slice A' (xs++ys).length cap') 72 (xs++ys)::H') F (wpList Tryz.prog ops Q rest)):At β n Γ H F (wpList Tryz.prog ops Q (o::rest)):=by
 obtain⟨i,hi,hz,hs,hb⟩:=bDn;exact iQ hH hr hg ho hd hn Tryz.underlying130 hi hz hs hb rfl hx hy hq (by omega) (by decide) k
end
theorem arr1024_zero:(Tryz.prog.info? 212).bind (·.zero)=some (.agg (mU.all (List.replicate 1024 ⟨0,0,0,0,false⟩)).toArray):=by kernel_rfl
theorem qQ{α:Type}{E:Flat α}{F:List bN}{A:Option Addr}{l c:Nat}{xs:List α}(h:Has F (E.sl (.slice A l c) xs)):Has F (bN.pure (A.isNone=true→xs=[])):=fun S w k hn=>by
 obtain⟨A',c',e,h⟩:=h S w k;injection e with e1
 subst e1
 cases xs with
 | nil=>rfl
 | cons x r=>
  obtain⟨b,o,cs,e,_⟩:=h 0 x rfl;rw [e] at hn;cases hn
theorem pD{P:Program}{β:gD}{n:Nat}{Γ:Env}{H:List bZ}{F:List bN}{o:Oper}{x:Operand}{t e tt:TypeId}{A:Option Addr}{l c:Nat}(hu:P.underlying t=some (.slice e))(ho:o.op= .binOp .eql t x (.const (.slice none 0 0)) tt)(hx:Γ.ev x=some (.slice A l c)):Sti P β n Γ H F o (.bool A.isNone):=fun a w S f s k=>by
 unfold execOp;simp only [ho,f.ev hx];rw [Sem.run_bind,Sem.run_bind]
 have hg:(eqGuard .eql t x (.const (.slice none 0 0)) (.slice A l c) (.slice none 0 0)).run P w= .ok () w:=by
  unfold eqGuard;simp
 have he:(Act.eval a (.const (.slice none 0 0)))= .slice none 0 0:=rfl;rw [he,hg,Result.andThen_ok,Lib.run_eql_slice_nil w t e A l c 0 0 hu];rfl
section
variable {a b : OpV}
theorem tC(h1:a.how=b.how)(h2:a.k=b.k)(h3:a.n=b.n)(h4:a.fn=b.fn):Value.bool (decide (a.p.list=b.p.list))= .bool (decide (a.c=b.c)):=by
 congr 1
 apply decide_eq_decide.2;constructor
 ·intro h;unfold OpV.c;rw [h1,h2,h3,h4,h]
 ·intro h;exact congrArg OpC.p h
theorem wQ(h:a.how≠b.how∨a.k≠b.k∨a.n≠b.n∨a.fn≠b.fn):Value.bool false= .bool (decide (a.c=b.c)):=by
 congr 1
 refine(decide_eq_false fun e=>?_).symm;have e1:a.how=b.how:=congrArg OpC.how e;have e2:a.k=b.k:=congrArg OpC.k e;have e3:a.n=b.n:=congrArg OpC.n e;have e4:a.fn=b.fn:=congrArg OpC.fn e
 rcases h with h | h | h | h
 ·exact h e1
 ·exact h e2
 ·exact h e3
 ·exact h e4
end
def kR (k:Int):OpV:=⟨3,k,0,⟨none,0,[]⟩,0⟩
def rW (p:PolV):OpV:=⟨2,0,0,p,0⟩
def oF (f:Int):OpV:=⟨6,0,0,⟨none,0,[]⟩,f⟩
def opLdV (b:Int):OpV:=⟨4,b,0,⟨none,0,[]⟩,0⟩
def bCh:OpV:=⟨1,0,0,⟨none,0,[]⟩,0⟩
def nY:List PolV→Nat→List OpV
 | [],_=>[]
 | p::r,k=>rW p::oF 3::kR (k:Nat)::oF 1::nY r (k+1)
def ownV0:List PolV→List OpV
 | []=>[bCh]
 | _::r=>kR 0::nY r 1
def dL (loops:List PolV)(b:Int):List OpV:=ownV0 loops++[opLdV b]
theorem ownGoV_c: ∀{l:List PolV} {k:Nat},dY (nY l k)=yP (dF l) k
 | [],_=>rfl
 | p::l,k=>by
  have ih:=ownGoV_c (l:=l) (k:=k+1);show(rW p).c::(oF 3).c::(kR (k:Nat)).c::(oF 1).c::dY (nY l (k+1))=_;rw [ih];rfl
theorem ownV_c{l:List PolV}{b:Int}:dY (dL l b)=ownC (dF l) b:=by
 have h0:dY (ownV0 l)=ownC0 (dF l):=by
  cases l with
  | nil=>rfl
  | cons p l=>
   show(kR 0).c::dY (nY l 1)=_;rw [ownGoV_c];rfl
 unfold dL ownC;rw [←h0];simp [dY];rfl
theorem pH{l:List PolV}{b:Int}:(dL l b).length=(ownC (dF l) b).length:=by rw [←ownV_c,cW]
theorem yI{p:PolV}: ∀{l:List PolV} {k:Nat},nY (l++[p]) k=nY l k++[rW p,oF 3,kR ((k+l.length:Nat):Int),oF 1]
 | [],k=>rfl
 | q::l,k=>by
  rw [List.cons_append,nY,nY,yI,List.length_cons,show k+1+l.length=k+(l.length+1) by omega];rfl
theorem bBi: ∀{l:List PolV} {k:Nat},(nY l k).length=4*l.length
 | [],_=>rfl
 | p::l,k=>by
  rw [nY];simp only [List.length_cons,bBi];omega
section
variable {l : List PolV} {i : Nat} {p : PolV} {out : List OpV}
theorem own_len0(h:out=ownV0 (l.take i))(hi:i≤l.length):0<out.length∧out.length≤4*i+1:=by
 subst h
 cases hl:l.take i with
 | nil=>exact⟨by simp [ownV0],by simp [ownV0]⟩
 | cons q r=>
  have:=congrArg List.length hl;rw [List.length_take,List.length_cons] at this;simp only [ownV0,List.length_cons,bBi];omega
theorem own_first(h:out=ownV0 (l.take i))(hi:i=0)(hp:l[i]?=some p):out.set 0 (kR (i:Nat))=ownV0 (l.take (i+1)):=by
 subst hi;subst h
 cases l with
 | nil=>cases hp
 | cons q r=>rfl
theorem own_one(hi:i=0)(hp:l[i]?=some p):[kR (i:Nat)]=ownV0 (l.take (i+1)):=by
 subst hi
 cases l with
 | nil=>cases hp
 | cons q r=>rfl
theorem own_more(h:out=ownV0 (l.take i))(hi:i≠0)(hp:l[i]?=some p):out++[rW p,oF 3,kR (i:Nat),oF 1]=ownV0 (l.take (i+1)):=by
 subst h;obtain⟨hlt,e⟩:=List.getElem?_eq_some_iff.1 hp;rw [List.take_succ_eq_append_getElem hlt,e]
 cases hl:l.take i with
 | nil=>
  have:=congrArg List.length hl;rw [List.length_take,List.length_nil] at this;omega
 | cons q r=>
  have:=congrArg List.length hl;rw [List.length_take,List.length_cons] at this;rw [List.cons_append,ownV0,ownV0,yI,show 1+r.length=i by omega];rfl
theorem own_fin(h:out=ownV0 (l.take i))(hi:l.length≤i)(b:Int):out++[opLdV b]=dL l b:=by
 rw [h,List.take_of_length_le hi];rfl
theorem bCm{F:List bN}: ∀{l:List PolV} {k:Nat},Has F (gP l)→Has F (bN.each (nY l k) opF)
 | [],_,_=>Has.each_nil
 | p::_,_,h=>Has.each_cons (show Has F (opF (rW p)) from Has.each_head (g:=lW) h) (Has.each_cons polF_nil (Has.each_cons polF_nil (Has.each_cons polF_nil (bCm (Has.each_tail h)))))
theorem own_each{F:List bN}{b:Int}(h:Has F (gP l)):Has F (bN.each (dL l b) opF):=by
 unfold dL;refine Has.each_snoc ?_ polF_nil
 cases l with
 | nil=>exact Has.each_cons polF_nil Has.each_nil
 | cons p r=>exact Has.each_cons polF_nil (bCm (Has.each_tail h))
end
theorem tG{b:Int}{j:Nat}: ∀{l:List OpC} {n:Nat},(jV b j l n).length≤l.length
 | [],_=>Nat.le_refl _
 | o::l,n=>by
  rw [jV];split
  ·exact Nat.succ_le_succ tG
  ·exact Nat.le_succ_of_le tG
theorem ldsC_le{b:Int}: ∀{l:List StepC} {n:Nat},(∀x∈l,x.ops.length≤256)→(fZ b l n).length≤256*l.length
 | [],_,_=>Nat.le_refl _
 | x::l,n,h=>by
  rw [fZ,List.length_append,List.length_cons];have h1:=h x (List.mem_cons_self ..);have h2:=tG (b:=b) (j:=n) (l:=x.ops) (n:=0);have h3:=ldsC_le (b:=b) (l:=l) (n:=n+1) fun y hy=>h y (List.mem_cons_of_mem _ hy);omega
theorem bEt{vars:Int}{bufs:List BufC}: ∀{l:List StepC} {made:List Bool},gR vars bufs l made=true→ ∀x∈l,x.ops.length≤256∧x.loops.length≤4
 | [],_,_,x,hx=>by cases hx
 | y::l,made,h,x,hx=>by
  rw [gR,Bool.and_eq_true,Bool.and_eq_true] at h
  rcases List.mem_cons.1 hx with rfl | hx
  ·obtain⟨⟨_,k2,k3,_,_⟩,_⟩:=nW (Bool.and_eq_true_iff.1 h.2).1;unfold gI at k2;rw [Bool.and_eq_true] at k2;exact⟨k3,of_decide_eq_true k2.2⟩
  ·exact bEt (Bool.and_eq_true_iff.1 h.2).2 x hx
theorem gJ{c:fL}(h:dV c=true): ∀x∈c.steps,x.ops.length≤256∧x.loops.length≤4:=bEt (qC h).2.2.1
section
variable {c : fL} {j k : Nat} {all : List cU} {x : StepC} {p : cU} {b : Nat}
theorem plI_bd(h:PlI c j all)(hj:j≤1024)(hp:all[b]?=some p):0≤p.makes∧p.makes≤1024:=by
 have hb:b<1024:=by have:=(List.getElem?_eq_some_iff.1 hp).1;rwa [h.1] at this
 have:=h.2 b hb;rw [hp] at this;injection this with this
 subst this;have:mks (c.steps.take j) (b:Int)≤j:=Nat.le_trans (List.length_filter_le ..) (by rw [List.length_take];omega);show(0:Int)≤((mks _ _:Nat):Int)∧((mks _ _:Nat):Int)≤1024;omega
theorem plJ_bd(h:PlJ c j x k all)(hs: ∀x∈c.steps,x.ops.length≤256)(hx:c.steps[j]?=some x)(hj:j≤1024)(hp:all[b]?=some p):0≤p.loads∧p.loads≤1000000:=by
 have hb:b<1024:=by have:=(List.getElem?_eq_some_iff.1 hp).1;rwa [h.1] at this
 have:=h.2 b hb;rw [hp] at this;injection this with this
 subst this;have h1:=ldsC_le (b:=(b:Int)) (l:=c.steps.take j) (n:=0) fun y hy=>hs y (List.mem_of_mem_take hy);have h2:=tG (b:=(b:Int)) (j:=j) (l:=x.ops.take k) (n:=0);have h3:=hs x (List.mem_of_getElem? hx);rw [List.length_take] at h1 h2;show(0:Int)≤(((_++_:List (Nat×Nat)).length:Nat):Int)∧(((_++_:List (Nat×Nat)).length:Nat):Int)≤1000000;rw [List.length_append];omega
end
theorem rQ(z0:Int):Tryz.prog.built 42 [(0,.int .i64 z0)]=some #[.int .i64 z0,.int .i64 0,.int .i64 0,.slice none 0 0,.int .u8 0]:=by kernel_rfl
theorem mB(z0:Int)(z1:Int):Tryz.prog.built 42 [(0,.int .i64 z0),(1,.int .i64 z1)]=some #[.int .i64 z0,.int .i64 z1,.int .i64 0,.slice none 0 0,.int .u8 0]:=by kernel_rfl
theorem qM(z0:Int)(a3:Option Addr)(l3 c3:Nat):Tryz.prog.built 42 [(0,.int .i64 z0),(3,.slice a3 l3 c3)]=some #[.int .i64 z0,.int .i64 0,.int .i64 0,.slice a3 l3 c3,.int .u8 0]:=by kernel_rfl
theorem mC(z0:Int)(z4:Int):Tryz.prog.built 42 [(0,.int .i64 z0),(4,.int .u8 z4)]=some #[.int .i64 z0,.int .i64 0,.int .i64 0,.slice none 0 0,.int .u8 z4]:=by kernel_rfl
set_option maxRecDepth 100000 in
theorem sameOp_spec(a b:OpV):dT Tryz.prog 69 [.agg #[.int .i64 a.how,.int .i64 a.k,.int .i64 a.n,.slice a.p.addr a.p.list.length a.p.cap,.int .u8 a.fn],.agg #[.int .i64 b.how,.int .i64 b.k,.int .i64 b.n,.slice b.p.addr b.p.list.length b.p.cap,.int .u8 b.fn]] [] [opF a,opF b] (fun(_:Unit)=> .bool (decide (a.c=b.c))) (fun _=>[]) (fun _=>[]):=by
 have hT:=dA;refine cQ Tryz.func69 rfl Tryz.ntmps69 rfl ?_;intro β hM;refine sr<|gL rfl rfl rfl rfl rfl rfl fun b1=>?_;refine gL rfl rfl rfl rfl rfl rfl fun b2=>?_;refine sp hT ?_;refine nn<|sr<|sp hT ?_;refine ss (ldO hT (dK kT1)) ?_;refine sp hT ?_;refine ss (ldO hT (dK .head)) ?_;refine sp2 hT ?_;refine bV (fun hg10=>?_) (fun hg10=>?_)
 ·have hg10:=eq_of_beq hg10;refine sp hT ?_;refine ss (ldO hT (dO kT1)) ?_;refine sp hT ?_;refine ss (ldO hT (dO .head)) ?_;refine sp3 hT ?_;refine bV (fun hg17=>?_) (fun hg17=>?_)
  ·have hg17:=eq_of_beq hg17;refine sp hT ?_;refine ss (ldO hT (gA kT1)) ?_;refine sp hT ?_;refine ss (ldO hT (gA .head)) ?_;refine sp3 hT ?_;refine bV (fun hg24=>?_) (fun hg24=>?_)
   ·have hg24:=eq_of_beq hg24;refine sp hT ?_;refine ss (ldO hT (sA kT1)) ?_;refine sp hT ?_;refine ss (ldO hT (sA .head)) ?_;refine sp3 hT ?_;refine bV (fun hg31=>?_) (fun hg31=>?_)
    ·have hg31:=eq_of_beq hg31;refine sp hT ?_;refine ss (ldO hT (iC kT1)) ?_;refine sp hT ?_;refine ss (ldO hT (iC .head)) ?_;refine bT (jU (Has.of mT0)) fun hxl=>?_;refine cR Tryz.func100 (yY a.p b.p hxl) rfl rfl .nil ⟨fU (Has.of mT0),fU (Has.of mT1),trivial⟩ fun _=>?_;refine sp2 hT ?_;refine nn<|bL ?_;exact bJ () rfl (bI rfl) .nil trivial (by first | exact tC (by omega) (by omega) (by omega) (by omega) | exact wQ (by omega))
    have hg31:=beq_eq_false_iff_ne.1 hg31;refine sk4 ?_;refine sk ?_;refine sp2 hT ?_;refine nn<|bL ?_;exact bJ () rfl (bI rfl) .nil trivial (by first | exact tC (by omega) (by omega) (by omega) (by omega) | exact wQ (by omega))
   have hg24:=beq_eq_false_iff_ne.1 hg24;refine sk4 ?_;refine sk ?_;refine sp2 hT ?_;refine sk4 ?_;refine sk ?_;refine sp2 hT ?_;refine nn<|bL ?_;exact bJ () rfl (bI rfl) .nil trivial (by first | exact tC (by omega) (by omega) (by omega) (by omega) | exact wQ (by omega))
  have hg17:=beq_eq_false_iff_ne.1 hg17;refine sk4 ?_;refine sk ?_;refine sp2 hT ?_;refine sk4 ?_;refine sk ?_;refine sp2 hT ?_;refine sk4 ?_;refine sk ?_;refine sp2 hT ?_;refine nn<|bL ?_;exact bJ () rfl (bI rfl) .nil trivial (by first | exact tC (by omega) (by omega) (by omega) (by omega) | exact wQ (by omega))
 have hg10:=beq_eq_false_iff_ne.1 hg10;refine sk4 ?_;refine sk ?_;refine sp2 hT ?_;refine sk4 ?_;refine sk ?_;refine sp2 hT ?_;refine sk4 ?_;refine sk ?_;refine sp2 hT ?_;refine sk4 ?_;refine sk ?_;refine sp2 hT ?_;refine nn<|bL ?_;exact bJ () rfl (bI rfl) .nil trivial (by first | exact tC (by omega) (by omega) (by omega) (by omega) | exact wQ (by omega))
set_option maxRecDepth 100000 in
theorem eqOps_spec(A B:Option Addr)(ca cb mb:Nat)(a b:List OpV)(hb:b.length=mb)(hl:a.length≤140737488355328):dT Tryz.prog 68 [.slice A a.length ca,.slice B mb cb,.func (.func 69) #[] #[]] [] [opE.sl (.slice A a.length ca) a,bN.each a opF,opE.sl (.slice B mb cb) b,bN.each b opF] (fun(_:Unit)=> .bool (decide (dY a=dY b))) (fun _=>[]) (fun _=>[]):=by
 have hT:=dA;refine cQ Tryz.func68 rfl Tryz.ntmps68 rfl ?_;intro β hM;refine sr<|sp hT ?_;refine nn<|bE<|sr<|sp4 hT ?_;refine sp hT ?_;refine nn<|bP rfl (fun hc14=>?_) (fun hc14=>?_)
 ·have hc14:=bne_iff_ne.1 hc14;refine sr<|sp hT ?_;refine nn<|bL<|bK ?_;exact bJ () rfl (bI rfl) .nil trivial (lH (fun e=>by have:=congrArg List.length e;rw [cW,cW] at this;omega))
 have hc14:=bne_eq_false_iff_eq.1 hc14;refine bQ<|bD<|bE<|sr<|sp3 hT ?_;refine nn<|bR<|cG (ι:=Nat) [(1,_),(2,_),(15,_),(16,_)] ⟨rfl,rfl,rfl,rfl,trivial⟩ (fun i=>[(17,.int .i64 (i:Nat))]) (fun _=>[]) (fun i=>[bN.pure (i≤a.length∧(dY a).take i=(dY b).take i)]) (fun i=>a.length-i) 0 ⟨rfl,trivial⟩ .nil ⟨Has.pure (⟨by omega,rfl⟩),trivial⟩ ?_;rintro i;refine bT (Has.of mT0) fun hinv4=>?_;refine sr<|sp hT ?_;refine nn<|bE<|bP rfl (fun hc18=>?_) (fun hc18=>?_)
 ·have hc18:=of_decide_eq_true hc18;refine bQ<|bD<|bE<|bR<|sr<|sp hT ?_
  obtain⟨x1,hx2⟩: ∃x',a[i]?=some x':=⟨_,List.getElem?_eq_getElem (by omega)⟩
  refine ss (bM hT (k:=i) (bB (Has.of mT1)) rfl rfl rfl rfl rfl rfl rfl (by omega)) ?_;refine ss (cO hT (cB.knows (bB (Has.of mT1)) (k:=i) (x:=x1) hx2 0) rfl rfl rfl rfl rfl) ?_;refine cV rfl rfl rfl rfl uZ rfl fun b3=>?_;refine sp hT ?_;refine sto hT .head ?_;refine nn<|sr<|sp2 hT ?_
  obtain⟨x4,hx5⟩: ∃x',b[i]?=some x':=⟨_,List.getElem?_eq_getElem (by omega)⟩
  refine ss (bM hT (k:=i) (bB (Has.of mT3)) rfl rfl rfl rfl rfl hb.symm rfl (by omega)) ?_;refine ss (cO hT (cB.knows (bB (Has.of mT3)) (k:=i) (x:=x4) hx5 0) rfl rfl rfl rfl rfl) ?_;refine cV rfl rfl rfl rfl uZ rfl fun b6=>?_;refine sto hT .head ?_;refine nn<|sr<|sp hT ?_;refine ss (ldN hT (dK kT1)) ?_;refine ss (ldN hT (dK .head)) ?_;refine wV (cI Tryz.func69 rfl rfl) (sameOp_spec x1 x4) rfl rfl rfl rfl rfl rfl rfl .nil ⟨Has.each (Has.of mT2) (List.mem_of_getElem? hx2),Has.each (Has.of mT4) (List.mem_of_getElem? hx5),trivial⟩ fun _=>?_;refine sp hT ?_;refine nn<|bP rfl (fun hc30=>?_) (fun hc30=>?_)
  ·have hc30:=gV hc30;refine sr<|sp hT ?_;refine nn<|bL<|bS<|bK<|bK<|bS<|bK ?_;exact bJ () rfl (bI rfl) .nil trivial (lH (lR (gN hx2) (gN hx5) (of_decide_eq_false (by simpa using (by assumption:(!decide _)=true)))))
  have hc30:=gZ hc30;refine bQ<|cA<|bD<|bC<|sp hT ?_;refine bW (z':=(((i+1):Nat):Int)) (cH (by omega) (by omega)) ?_;refine sp hT ?_;refine nn ?_;exact bU (i+1) (by omega) ⟨rfl,trivial⟩ ⟨rfl,rfl,rfl,rfl,trivial⟩ .nil ⟨Has.pure (⟨by omega,oR hinv4.2 (gN hx2) (gN hx5) (of_decide_eq_true (by simpa using (by assumption:(!decide _)=false)))⟩),trivial⟩ (bF.drop 1)
 have hc18:=Int.not_lt.1 (of_decide_eq_false hc18);refine cE<|bX<|bX<|cF<|bD<|sr<|sp hT ?_;refine nn<|bL ?_;exact bJ () rfl (bI rfl) .nil trivial (xD (qV hinv4.2 (by rw [cW];omega) (by rw [cW];omega)))
set_option maxRecDepth 100000 in
theorem sameP1_spec(p q:PolV)(hl:p.list.length≤140737488355328):dT Tryz.prog 126 [.slice p.addr p.list.length p.cap,.slice q.addr q.list.length q.cap] [] [iB.sl (.slice p.addr p.list.length p.cap) p.list,iB.sl (.slice q.addr q.list.length q.cap) q.list] (fun(_:Unit)=> .bool (decide (p.list=q.list))) (fun _=>[]) (fun _=>[]):=by
 have hT:=dA;refine cQ Tryz.func126 rfl Tryz.ntmps126 rfl ?_;intro β hM;refine sr<|sp hT ?_;refine nn<|sr<|sp2 hT ?_;refine cR Tryz.func100 (yY p q hl) rfl rfl .nil ⟨(Has.of mT0),(Has.of mT1),trivial⟩ fun _=>?_;refine sp hT ?_;refine nn<|bL ?_;exact bJ () rfl (bI rfl) .nil trivial (rfl)
set_option maxRecDepth 100000 in
theorem equalP_spec(A B:Option Addr)(ca cb:Nat)(a b:List PolV)(hl:a.length≤140737488355328):dT Tryz.prog 98 [.slice A a.length ca,.slice B b.length cb,.func (.func 126) #[] #[]] [] [fN.sl (.slice A a.length ca) a,gP a,fN.sl (.slice B b.length cb) b,gP b] (fun(_:Unit)=> .bool (decide (dF a=dF b))) (fun _=>[]) (fun _=>[]):=by
 have hT:=dA;refine cQ Tryz.func98 rfl Tryz.ntmps98 rfl ?_;intro β hM;refine sr<|sp hT ?_;refine nn<|bE<|sr<|sp4 hT ?_;refine sp hT ?_;refine nn<|bP rfl (fun hc14=>?_) (fun hc14=>?_)
 ·have hc14:=bne_iff_ne.1 hc14;refine sr<|sp hT ?_;refine nn<|bL<|bK ?_;exact bJ () rfl (bI rfl) .nil trivial (lH (fun e=>by have:=congrArg List.length e;rw [cP,cP] at this;omega))
 have hc14:=bne_eq_false_iff_eq.1 hc14;refine bQ<|bD<|bE<|sr<|sp3 hT ?_;refine nn<|bR<|cG (ι:=Nat) [(1,_),(2,_),(15,_),(16,_)] ⟨rfl,rfl,rfl,rfl,trivial⟩ (fun i=>[(17,.int .i64 (i:Nat))]) (fun _=>[]) (fun i=>[bN.pure (i≤a.length∧(dF a).take i=(dF b).take i)]) (fun i=>a.length-i) 0 ⟨rfl,trivial⟩ .nil ⟨Has.pure (⟨by omega,rfl⟩),trivial⟩ ?_;rintro i;refine bT (Has.of mT0) fun hinv4=>?_;refine sr<|sp hT ?_;refine nn<|bE<|bP rfl (fun hc18=>?_) (fun hc18=>?_)
 ·have hc18:=of_decide_eq_true hc18;refine bQ<|bD<|bE<|bR<|sr<|sp hT ?_
  obtain⟨x1,hx2⟩: ∃x',a[i]?=some x':=⟨_,List.getElem?_eq_getElem (by omega)⟩
  refine ss (bM hT (k:=i) (bB (Has.of mT1)) rfl rfl rfl rfl rfl rfl rfl (by omega)) ?_;refine ss (bO hT (cB.knows (bB (Has.of mT1)) (k:=i) (x:=x1) hx2 0) rfl rfl rfl rfl rfl) ?_;refine sp2 hT ?_;refine nn<|sr<|sp2 hT ?_
  obtain⟨x3,hx4⟩: ∃x',b[i]?=some x':=⟨_,List.getElem?_eq_getElem (by omega)⟩
  refine ss (bM hT (k:=i) (bB (Has.of mT3)) rfl rfl rfl rfl rfl rfl rfl (by omega)) ?_;refine ss (bO hT (cB.knows (bB (Has.of mT3)) (k:=i) (x:=x3) hx4 0) rfl rfl rfl rfl rfl) ?_;refine sp hT ?_;refine nn<|sr<|sp3 hT ?_;refine bT (jU (Has.each (Has.of mT2) (List.mem_of_getElem? hx2))) fun hxl=>?_;refine wV (cI Tryz.func126 rfl rfl) (sameP1_spec x1 x3 hxl) rfl rfl rfl rfl rfl rfl rfl .nil ⟨fU (Has.each (Has.of mT2) (List.mem_of_getElem? hx2)),fU (Has.each (Has.of mT4) (List.mem_of_getElem? hx4)),trivial⟩ fun _=>?_;refine sp hT ?_;refine nn<|bP rfl (fun hc30=>?_) (fun hc30=>?_)
  ·have hc30:=gV hc30;refine sr<|sp hT ?_;refine nn<|bL<|bS<|bK<|bK<|bS<|bK ?_;exact bJ () rfl (bI rfl) .nil trivial (lH (lR (gX hx2) (gX hx4) (of_decide_eq_false (by simpa using (by assumption:(!decide _)=true)))))
  have hc30:=gZ hc30;refine bQ<|cA<|bD<|bC<|sp hT ?_;refine bW (z':=(((i+1):Nat):Int)) (cH (by omega) (by omega)) ?_;refine sp hT ?_;refine nn ?_;exact bU (i+1) (by omega) ⟨rfl,trivial⟩ ⟨rfl,rfl,rfl,rfl,trivial⟩ .nil ⟨Has.pure (⟨by omega,oR hinv4.2 (gX hx2) (gX hx4) (of_decide_eq_true (by simpa using (by assumption:(!decide _)=false)))⟩),trivial⟩ (bF.drop 1)
 have hc18:=Int.not_lt.1 (of_decide_eq_false hc18);refine cE<|bX<|bX<|cF<|bD<|sr<|sp hT ?_;refine nn<|bL ?_;exact bJ () rfl (bI rfl) .nil trivial (xD (qV hinv4.2 (by rw [cP];omega) (by rw [cP];omega)))
set_option maxRecDepth 100000 in
theorem sameP_spec(A B:Option Addr)(ca cb:Nat)(a b:List PolV)(hl:a.length≤140737488355328):dT Tryz.prog 67 [.slice A a.length ca,.slice B b.length cb] [] [fN.sl (.slice A a.length ca) a,gP a,fN.sl (.slice B b.length cb) b,gP b] (fun(_:Unit)=> .bool (decide (dF a=dF b))) (fun _=>[]) (fun _=>[]):=by
 have hT:=dA;refine cQ Tryz.func67 rfl Tryz.ntmps67 rfl ?_;intro β hM;refine sr<|sp hT ?_;refine nn<|sr<|sp2 hT ?_;refine cR Tryz.func98 (equalP_spec A B ca cb a b hl) rfl rfl .nil bF.self fun _=>?_;refine sp hT ?_;refine nn<|bL ?_;exact bJ () rfl (bI rfl) .nil trivial (rfl)
set_option maxRecDepth 100000 in
theorem own_spec(l:Sl PolV)(b:Int)(h4:l.list.length≤4):dT Tryz.prog 66 [.slice l.addr l.list.length l.cap,.int .i64 b] [] [nR l] (fun(x:Option Addr×Nat)=> .slice x.1 (dL l.list b).length x.2) (fun _=>[]) (fun(x:Option Addr×Nat)=>[opE.sl (.slice x.1 (dL l.list b).length x.2) (dL l.list b),bN.each (dL l.list b) opF]):=by
 have hT:=dA;refine cQ Tryz.func66 rfl Tryz.ntmps66 rfl ?_;intro β hM;refine bE<|bH (gP l.list) (iF (Has.of mT0)) ?_;refine bH (fN.sl (.slice l.addr l.list.length l.cap) l.list) (gE (Has.of mT1)) ?_;refine bC<|sp hT ?_;refine nn<|sr<|ss (dU rfl rfl (rQ _)) ?_;refine qZ (m:=bCh) rfl rfl rfl rfl rfl fun b1=>?_;refine sp hT ?_;refine nn<|bE<|sr<|sp3 hT ?_;refine nn<|bR<|mG .head (by decide) ?_;refine cG (ι:=Nat×List OpV×Option Addr×Nat) [(1,_),(11,_),(12,_)] ⟨rfl,rfl,rfl,trivial⟩ (fun⟨i,out,OA,oc⟩=>[(5,.slice OA out.length oc),(13,.int .i64 (i:Nat))]) (fun⟨i,out,OA,oc⟩=>[opE.row (.slice OA out.length oc) 42 out]) (fun⟨i,out,OA,oc⟩=>[bN.pure (i≤l.list.length∧out=ownV0 (l.list.take i))]) (fun⟨i,out,OA,oc⟩=>l.list.length-i) (0,[bCh],(some ⟨b1,0,none⟩),1) ⟨rfl,rfl,trivial⟩ (.cons .head .nil) ⟨Has.pure (⟨by omega,rfl⟩),trivial⟩ ?_;rintro⟨i,out,OA,oc⟩;dsimp only;refine bT (Has.of mT0) fun hinv3=>?_;have hol:=own_len0 hinv3.2 hinv3.1;refine sr<|sp hT ?_;refine nn<|bE<|bP rfl (fun hc14=>?_) (fun hc14=>?_)
 ·have hc14:=of_decide_eq_true hc14;refine bQ<|bD<|bE<|bR<|sr<|sp hT ?_
  obtain⟨x2,hx3⟩: ∃x',l.list[i]?=some x':=⟨_,List.getElem?_eq_getElem (by omega)⟩
  refine ss (bM hT (k:=i) (bB (Has.of mT1)) rfl rfl rfl rfl rfl rfl rfl (by omega)) ?_;refine ss (bO hT (cB.knows (bB (Has.of mT1)) (k:=i) (x:=x2) hx3 0) rfl rfl rfl rfl rfl) ?_;refine sp2 hT ?_;refine nn<|sr<|sp hT ?_;refine ss (dU rfl rfl (mB _ _)) ?_;refine cV rfl rfl rfl rfl uZ rfl fun b4=>?_;refine sto hT .head ?_;refine nn<|sr<|sp2 hT ?_;refine nn<|bP rfl (fun hc21=>?_) (fun hc21=>?_)
  ·have hc21:=eq_of_beq hc21;refine bC<|sp hT ?_;refine ss (ldN hT (dK .head)) ?_
   obtain⟨x5,hx6⟩: ∃x',out[0]?=some x':=⟨_,List.getElem?_eq_getElem (by omega)⟩
   refine ss (bM hT (k:=0) (dM kT1) rfl rfl rfl rfl rfl rfl rfl (by omega)) ?_;refine fR hT (k:=0) (fo:=0) (y':=(kR (i:Nat))) kT1 rfl rfl rfl rfl rfl rfl rfl rfl rfl hx6 rfl ?_;refine cS<|cA<|bD<|bC<|sp hT ?_;refine bW (z':=(((i+1):Nat):Int)) (cH (by omega) (by omega)) ?_;refine sp hT ?_;refine nn ?_;rw [show out.length=(out.set 0 (kR (i:Nat))).length from (List.length_set ..).symm];exact bU (i+1,(out.set 0 (kR (i:Nat))),OA,oc) (by dsimp only;omega) ⟨rfl,rfl,trivial⟩ ⟨rfl,rfl,rfl,trivial⟩ (.cons .head .nil) ⟨Has.pure (⟨by dsimp only;omega,own_first hinv3.2 (by omega) hx3⟩),trivial⟩ (bF.drop 1)
  have hc21:=beq_eq_false_iff_ne.1 hc21;refine bC<|sp2 hT ?_;refine ss (dU rfl rfl (qM _ _ _ _)) ?_;refine ss (dU rfl rfl (mC _ _)) ?_;refine ss (ldN hT (dK .head)) ?_;refine ss (dU rfl rfl (mC _ _)) ?_;refine bCk (m0:=rW x2) (m1:=oF 3) (m2:=kR (i:Nat)) (m3:=oF 1) rfl rfl rfl rfl rfl rfl rfl rfl fun b7=>?_;refine lA kT2 (dI .head rfl) rfl rfl rfl rfl rfl rfl rfl (by simp only [List.length_cons,List.length_nil];omega) fun A8 c9=>?_;refine sp hT ?_;refine cS<|cA<|bD<|bC<|sp hT ?_;refine bW (z':=(((i+1):Nat):Int)) (cH (by omega) (by omega)) ?_;refine sp hT ?_;refine nn ?_;exact bU (i+1,(out++[rW x2,oF 3,kR (i:Nat),oF 1]),A8,c9) (by dsimp only;omega) ⟨rfl,rfl,trivial⟩ ⟨rfl,rfl,rfl,trivial⟩ (.cons .head .nil) ⟨Has.pure (⟨by dsimp only;omega,own_more hinv3.2 (by omega) hx3⟩),trivial⟩ (bF.drop 1)
 have hc14:=Int.not_lt.1 (of_decide_eq_false hc14);refine cE<|bX<|bX<|cF<|bD<|sr<|sp2 hT ?_;refine ss (dU rfl rfl (mB _ _)) ?_;refine qZ (m:=opLdV b) rfl rfl rfl rfl rfl fun b10=>?_;refine lA kT1 (dI .head rfl) rfl rfl rfl rfl rfl rfl rfl (by simp only [List.length_cons,List.length_nil];omega) fun A11 c12=>?_;refine sp hT ?_;refine nn<|bL ?_;have hoe:=own_fin hinv3.2 (by omega) b;rw [hoe];refine cZ .head ?_;exact bJ (_,_) rfl (bI rfl) .nil ⟨(Has.of mT0),own_each (Has.of mT3),trivial⟩ rfl
set_option maxRecDepth 100000 in
theorem clonePl_spec(A:Option Addr)(c m:Nat)(l:List cU)(hm:l.length=m)(hl:l.length≤3518437208883):dT Tryz.prog 125 [.slice A m c] [] [mU.sl (.slice A m c) l] (fun(x:Option Addr×Nat)=> .slice x.1 l.length x.2) (fun(x:Option Addr×Nat)=>[mU.row (.slice x.1 l.length x.2) 72 l]) (fun _=>[]):=by
 have hT:=dA;refine cQ Tryz.func125 rfl Tryz.ntmps125 rfl ?_;intro β hM;refine sr<|sp hT ?_;refine nn<|bE<|sr<|sp hT ?_;refine ss (pD Tryz.underlying130 rfl rfl) ?_;refine nn<|bP rfl (fun hc4=>?_) (fun hc4=>?_)
 ·refine bE<|bH (bN.pure (A.isNone=true→l=[])) (qQ (Has.of mT0)) ?_;refine bT (Has.of mT0) fun hnil=>?_;have hl0:=hnil ‹_›;subst hl0;obtain rfl:m=0:=hm.symm;refine dS (t:=72) mU ?_;refine bC<|sp hT ?_;refine nn<|bL<|bK ?_;exact bJ (_,_) rfl (bI rfl) (.cons .head .nil) trivial (by first | rfl | rw [hm])
 refine bQ<|bD<|sr<|bCr rfl rfl rfl rfl fun b1=>?_;refine sp hT ?_;refine at_app_place .head (bB (Has.of mT0)) rfl rfl rfl rfl rfl rfl hm.symm (by simp;omega) fun A2 c3=>?_;rw [List.nil_append];refine sp hT ?_;refine nn<|bL ?_;exact bJ (_,_) rfl (bI rfl) (.cons .head .nil) trivial (by first | rfl | rw [hm])
end Go.Proofs.YtofjmphlpdhohaaGreatDoor
namespace Go.Proofs.YtofjmphlpdhohaaGreatDoor
open Go.RowKit
set_option maxRecDepth 100000 in
theorem places_spec(c:CoreV)(hr:dV c.c=true):dT Tryz.prog 65 [.agg #[.int .i64 c.vars,.slice c.bufs.addr c.bufs.list.length c.bufs.cap,.slice c.steps.addr c.steps.list.length c.steps.cap,.slice c.outs.addr c.outs.list.length c.outs.cap]] [] [iE c] (fun(x:Option Addr×Nat)=> .slice x.1 c.bufs.list.length x.2) (fun(x:Option Addr×Nat)=>[mU.row (.slice x.1 c.bufs.list.length x.2) 72 (placesC c.c)]) (fun _=>[]):=by
 have hT:=dA;obtain⟨hbz,hst,hou⟩:=lO hr;have hsm: ∀x∈c.c.steps,x.ops.length≤256:=fun x hx=>(gJ hr x hx).1;have hnb:c.c.bufs.length=c.bufs.list.length:=dB _;have hns:c.c.steps.length=c.steps.list.length:=cY _;have hno:c.c.outs.length=c.outs.list.length:=rfl;refine cQ Tryz.func65 rfl Tryz.ntmps65 rfl ?_;intro β hM;refine bE<|bH (kO.sl (.slice c.bufs.addr c.bufs.list.length c.bufs.cap) c.bufs.list) (nL (hZ (Has.of mT0))) ?_;refine bC<|gL rfl rfl rfl rfl rfl rfl fun b1=>?_;refine sp hT ?_;refine nn<|sr<|cV rfl rfl rfl rfl arr1024_zero rfl fun b2=>?_;refine tF (E:=mU) (xs:=List.replicate 1024 ⟨0,0,0,0,false⟩) .head ?_;refine nn<|bE<|sr<|sp hT ?_;refine ss (ldO hT (gA kT1)) ?_;refine sp2 hT ?_;refine nn<|bR<|cG (ι:=Nat×List cU) [(1,_),(3,_),(12,_),(13,_)] ⟨rfl,rfl,rfl,rfl,trivial⟩ (fun⟨j,all⟩=>[(14,.int .i64 (j:Nat))]) (fun⟨j,all⟩=>[mU.held (.slice (some ⟨b2,0,none⟩) 1024 1024) all]) (fun⟨j,all⟩=>[bN.pure (j≤c.steps.list.length∧PlI c.c j all)]) (fun⟨j,all⟩=>c.steps.list.length-j) (0,List.replicate 1024 ⟨0,0,0,0,false⟩) ⟨rfl,trivial⟩ (.cons .head .nil) ⟨Has.pure (⟨by omega,pl_start⟩),trivial⟩ ?_;rintro⟨j,all⟩;dsimp only;refine bT (Has.of mT0) fun hinv3=>?_;have hal:all.length=1024:=hinv3.2.1;refine sr<|sp hT ?_;refine nn<|bE<|bP rfl (fun hc15=>?_) (fun hc15=>?_)
 ·have hc15:=of_decide_eq_true hc15;refine bQ<|bD<|bE<|bR<|sr<|sp hT ?_;refine bH (fW.sl (.slice c.steps.addr c.steps.list.length c.steps.cap) c.steps.list) (jR (fB (Has.of mT2))) ?_
  obtain⟨x3,hx4⟩: ∃x',c.steps.list[j]?=some x':=⟨_,List.getElem?_eq_getElem (by omega)⟩
  refine ss (bM hT (k:=j) (bB (Has.of mT0)) rfl rfl rfl rfl rfl rfl rfl (by omega)) ?_;refine ss (cO hT (cB.knows (bB (Has.of mT0)) (k:=j) (x:=x3) hx4 0) rfl rfl rfl rfl rfl) ?_;refine cV rfl rfl rfl rfl rY rfl fun b5=>?_;refine sp hT ?_;refine sto hT .head ?_;refine nn<|bE<|bH (dQ x3) (Has.each (gW (fB (Has.of mT3))) (List.mem_of_getElem? hx4)) ?_;have hxc:=cM hx4;obtain⟨hb0,hb1,hop⟩:=hst x3.c (List.mem_of_getElem? hxc)
  replace hb0:0≤x3.buf:=hb0
  replace hb1:x3.buf<(c.c.bufs.length:Nat):=hb1
  have hol:x3.ops.list.length≤256:=by have h:=(gJ hr x3.c (List.mem_of_getElem? hxc)).1;rwa [show x3.c.ops.length=x3.ops.list.length from cW _] at h
  refine bC<|sp hT ?_;refine ss (ldO hT (dO .head)) ?_
  obtain⟨x6,hx7⟩: ∃x',all[x3.buf.toNat]?=some x':=⟨_,List.getElem?_eq_getElem (by first | omega | (simp only [List.length_set];omega))⟩
  refine ss (iS hT (k:=x3.buf.toNat) rfl rfl rfl rfl rfl (by omega) (by first | omega | (simp only [List.length_set];omega))) ?_;have hbd:=plI_bd hinv3.2 (by omega) hx7;refine sp hT ?_;refine ss (bO hT (cB.knows (uX kT1) (k:=x3.buf.toNat) (x:=x6) hx7 3) rfl rfl rfl rfl rfl) ?_;refine sp hT ?_;refine bW (vX (by omega) (by omega)) ?_;refine ss (iS hT (k:=x3.buf.toNat) rfl rfl rfl rfl rfl (by omega) (by first | omega | (simp only [List.length_set];omega))) ?_;refine sp hT ?_;refine jD hT (k:=x3.buf.toNat) (fo:=3) (y':=(⟨x6.loads,x6.step,x6.op,x6.makes+1,x6.out⟩:cU)) kT1 rfl rfl rfl rfl rfl rfl rfl rfl rfl hx7 rfl ?_;refine nn<|sr<|sp hT ?_;refine ss (ldO hT (iI kT1)) ?_;refine sp2 hT ?_;refine nn<|bR<|cG (ι:=Nat×List cU) [(1,_),(3,_),(4,_),(12,_),(13,_),(14,_),(28,_),(29,_)] ⟨rfl,rfl,rfl,rfl,rfl,rfl,rfl,rfl,trivial⟩ (fun⟨k,all2⟩=>[(30,.int .i64 (k:Nat))]) (fun⟨k,all2⟩=>[mU.held (.slice (some ⟨b2,0,none⟩) 1024 1024) all2]) (fun⟨k,all2⟩=>[bN.pure (k≤x3.ops.list.length∧PlJ c.c j x3.c k all2)]) (fun⟨k,all2⟩=>x3.ops.list.length-k) (0,(all.set x3.buf.toNat (⟨x6.loads,x6.step,x6.op,x6.makes+1,x6.out⟩:cU))) ⟨rfl,trivial⟩ (.cons .head .nil) ⟨Has.pure (⟨by omega,pl_make hinv3.2 hb0 hx7⟩),trivial⟩ ?_;rintro⟨k,all2⟩;dsimp only;refine bT (Has.of mT0) fun hinv7=>?_;have hal2:all2.length=1024:=hinv7.2.1;refine sr<|sp hT ?_;refine nn<|bE<|bP rfl (fun hc31=>?_) (fun hc31=>?_)
  ·have hc31:=of_decide_eq_true hc31;refine bQ<|bD<|bE<|bR<|sr<|sp hT ?_;refine bH (opE.sl (.slice x3.ops.addr x3.ops.list.length x3.ops.cap) x3.ops.list) (jM (dD (Has.of mT1))) ?_
   obtain⟨x8,hx9⟩: ∃x',x3.ops.list[k]?=some x':=⟨_,List.getElem?_eq_getElem (by omega)⟩
   refine ss (bM hT (k:=k) (bB (Has.of mT0)) rfl rfl rfl rfl rfl rfl rfl (by omega)) ?_;refine ss (cO hT (cB.knows (bB (Has.of mT0)) (k:=k) (x:=x8) hx9 0) rfl rfl rfl rfl rfl) ?_;refine cV rfl rfl rfl rfl uZ rfl fun b10=>?_;refine sp hT ?_;refine sto hT .head ?_;refine nn<|sr<|sp hT ?_;refine ss (ldO hT (dK .head)) ?_;refine sp hT ?_;refine nn<|bP rfl (fun hc37=>?_) (fun hc37=>?_)
   ·have hc37:=eq_of_beq hc37;refine bE ?_;have hok:=hop x8.c (List.mem_of_getElem? (gN hx9)) (by show OpV.how _=4;omega);have hk0:0≤x8.k:=hok.1;have hk1:x8.k<(c.c.bufs.length:Nat):=hok.2;refine bC<|sp hT ?_;refine ss (ldO hT (dO .head)) ?_
    obtain⟨x11,hx12⟩: ∃x',all2[x8.k.toNat]?=some x':=⟨_,List.getElem?_eq_getElem (by first | omega | (simp only [List.length_set];omega))⟩
    refine ss (iS hT (k:=x8.k.toNat) rfl rfl rfl rfl rfl (by omega) (by first | omega | (simp only [List.length_set];omega))) ?_;have hbd2:=plJ_bd hinv7.2 hsm hxc (by omega) hx12;refine sp hT ?_;refine nn<|sr<|sp3 hT ?_;refine ss (bO hT (cB.knows (uX kT1) (k:=x8.k.toNat) (x:=x11) hx12 0) rfl rfl rfl rfl rfl) ?_;refine sp hT ?_;refine bW (vX (by omega) (by omega)) ?_;refine sp2 hT ?_;refine jD hT (k:=x8.k.toNat) (fo:=0) (y':=(⟨x11.loads+1,x11.step,x11.op,x11.makes,x11.out⟩:cU)) kT1 rfl rfl rfl rfl rfl rfl rfl rfl rfl hx12 rfl ?_;refine nn<|bC<|sp4 hT ?_;refine sp2 hT ?_;refine jD hT (k:=x8.k.toNat) (fo:=1) (y':=(⟨(⟨x11.loads+1,x11.step,x11.op,x11.makes,x11.out⟩:cU).loads,(j:Nat),(⟨x11.loads+1,x11.step,x11.op,x11.makes,x11.out⟩:cU).op,(⟨x11.loads+1,x11.step,x11.op,x11.makes,x11.out⟩:cU).makes,(⟨x11.loads+1,x11.step,x11.op,x11.makes,x11.out⟩:cU).out⟩:cU)) .head rfl rfl rfl rfl rfl rfl rfl rfl rfl (List.getElem?_set_self (by first | omega | (simp only [List.length_set];omega))) rfl ?_;refine sp2 hT ?_;refine jD hT (k:=x8.k.toNat) (fo:=2) (y':=(⟨(⟨(⟨x11.loads+1,x11.step,x11.op,x11.makes,x11.out⟩:cU).loads,(j:Nat),(⟨x11.loads+1,x11.step,x11.op,x11.makes,x11.out⟩:cU).op,(⟨x11.loads+1,x11.step,x11.op,x11.makes,x11.out⟩:cU).makes,(⟨x11.loads+1,x11.step,x11.op,x11.makes,x11.out⟩:cU).out⟩:cU).loads,(⟨(⟨x11.loads+1,x11.step,x11.op,x11.makes,x11.out⟩:cU).loads,(j:Nat),(⟨x11.loads+1,x11.step,x11.op,x11.makes,x11.out⟩:cU).op,(⟨x11.loads+1,x11.step,x11.op,x11.makes,x11.out⟩:cU).makes,(⟨x11.loads+1,x11.step,x11.op,x11.makes,x11.out⟩:cU).out⟩:cU).step,(k:Nat),(⟨(⟨x11.loads+1,x11.step,x11.op,x11.makes,x11.out⟩:cU).loads,(j:Nat),(⟨x11.loads+1,x11.step,x11.op,x11.makes,x11.out⟩:cU).op,(⟨x11.loads+1,x11.step,x11.op,x11.makes,x11.out⟩:cU).makes,(⟨x11.loads+1,x11.step,x11.op,x11.makes,x11.out⟩:cU).out⟩:cU).makes,(⟨(⟨x11.loads+1,x11.step,x11.op,x11.makes,x11.out⟩:cU).loads,(j:Nat),(⟨x11.loads+1,x11.step,x11.op,x11.makes,x11.out⟩:cU).op,(⟨x11.loads+1,x11.step,x11.op,x11.makes,x11.out⟩:cU).makes,(⟨x11.loads+1,x11.step,x11.op,x11.makes,x11.out⟩:cU).out⟩:cU).out⟩:cU)) .head rfl rfl rfl rfl rfl rfl rfl rfl rfl (List.getElem?_set_self (by first | omega | (simp only [List.length_set];omega))) rfl ?_;refine cS<|cA<|bD<|bC<|sp hT ?_;refine bW (z':=(((k+1):Nat):Int)) (cH (by omega) (by omega)) ?_;refine sp hT ?_;refine nn ?_;exact bU (k+1,(((all2.set x8.k.toNat (⟨x11.loads+1,x11.step,x11.op,x11.makes,x11.out⟩:cU)).set x8.k.toNat (⟨(⟨x11.loads+1,x11.step,x11.op,x11.makes,x11.out⟩:cU).loads,(j:Nat),(⟨x11.loads+1,x11.step,x11.op,x11.makes,x11.out⟩:cU).op,(⟨x11.loads+1,x11.step,x11.op,x11.makes,x11.out⟩:cU).makes,(⟨x11.loads+1,x11.step,x11.op,x11.makes,x11.out⟩:cU).out⟩:cU)).set x8.k.toNat (⟨(⟨(⟨x11.loads+1,x11.step,x11.op,x11.makes,x11.out⟩:cU).loads,(j:Nat),(⟨x11.loads+1,x11.step,x11.op,x11.makes,x11.out⟩:cU).op,(⟨x11.loads+1,x11.step,x11.op,x11.makes,x11.out⟩:cU).makes,(⟨x11.loads+1,x11.step,x11.op,x11.makes,x11.out⟩:cU).out⟩:cU).loads,(⟨(⟨x11.loads+1,x11.step,x11.op,x11.makes,x11.out⟩:cU).loads,(j:Nat),(⟨x11.loads+1,x11.step,x11.op,x11.makes,x11.out⟩:cU).op,(⟨x11.loads+1,x11.step,x11.op,x11.makes,x11.out⟩:cU).makes,(⟨x11.loads+1,x11.step,x11.op,x11.makes,x11.out⟩:cU).out⟩:cU).step,(k:Nat),(⟨(⟨x11.loads+1,x11.step,x11.op,x11.makes,x11.out⟩:cU).loads,(j:Nat),(⟨x11.loads+1,x11.step,x11.op,x11.makes,x11.out⟩:cU).op,(⟨x11.loads+1,x11.step,x11.op,x11.makes,x11.out⟩:cU).makes,(⟨x11.loads+1,x11.step,x11.op,x11.makes,x11.out⟩:cU).out⟩:cU).makes,(⟨(⟨x11.loads+1,x11.step,x11.op,x11.makes,x11.out⟩:cU).loads,(j:Nat),(⟨x11.loads+1,x11.step,x11.op,x11.makes,x11.out⟩:cU).op,(⟨x11.loads+1,x11.step,x11.op,x11.makes,x11.out⟩:cU).makes,(⟨x11.loads+1,x11.step,x11.op,x11.makes,x11.out⟩:cU).out⟩:cU).out⟩:cU))) (by dsimp only;omega) ⟨rfl,trivial⟩ ⟨rfl,rfl,rfl,rfl,rfl,rfl,rfl,rfl,trivial⟩ (.cons .head (.cons kT1 (.cons kT1 .nil))) ⟨Has.pure (⟨by dsimp only;omega,by rw [List.set_set,List.set_set];exact pl_load hinv7.2 (gN hx9) (by show OpV.how _=4;omega) (by show 0≤OpV.k _;omega) hx12⟩),trivial⟩ (bF.drop 2)
   have hc37:=beq_eq_false_iff_ne.1 hc37;refine bQ<|cA<|bD<|bC<|sp hT ?_;refine bW (z':=(((k+1):Nat):Int)) (cH (by omega) (by omega)) ?_;refine sp hT ?_;refine nn ?_;exact bU (k+1,all2) (by dsimp only;omega) ⟨rfl,trivial⟩ ⟨rfl,rfl,rfl,rfl,rfl,rfl,rfl,rfl,trivial⟩ (.cons kT1 (.cons kT1 (.cons kT1 .nil))) ⟨Has.pure (⟨by dsimp only;omega,pl_skip hinv7.2 (gN hx9) (by show OpV.how _≠4;omega)⟩),trivial⟩ (bF.drop 2)
  have hc31:=Int.not_lt.1 (of_decide_eq_false hc31);refine cE<|bX<|bX<|cF<|cA<|bD<|bC<|sp hT ?_;refine bW (z':=(((j+1):Nat):Int)) (cH (by omega) (by omega)) ?_;refine sp hT ?_;refine nn ?_;exact bU (j+1,all2) (by dsimp only;omega) ⟨rfl,trivial⟩ ⟨rfl,rfl,rfl,rfl,trivial⟩ (.cons .head (.cons kT1 .nil)) ⟨Has.pure (⟨by dsimp only;omega,pl_end hinv7.2 hxc (by show(dY _).length≤k;rw [cW];omega)⟩),trivial⟩ (bF.drop 4)
 have hc15:=Int.not_lt.1 (of_decide_eq_false hc15);refine cE<|bX<|bX<|cF<|bD<|bE<|sr<|sp hT ?_;refine ss (ldO hT (iC kT1)) ?_;refine sp2 hT ?_;refine nn<|bR<|cG (ι:=Nat×List cU) [(1,_),(3,_),(59,_),(60,_)] ⟨rfl,rfl,rfl,rfl,trivial⟩ (fun⟨q,all3⟩=>[(61,.int .i64 (q:Nat))]) (fun⟨q,all3⟩=>[mU.held (.slice (some ⟨b2,0,none⟩) 1024 1024) all3]) (fun⟨q,all3⟩=>[bN.pure (q≤c.outs.list.length∧PlO c.c q all3)]) (fun⟨q,all3⟩=>c.outs.list.length-q) (0,all) ⟨rfl,trivial⟩ (.cons .head .nil) ⟨Has.pure (⟨by omega,pl_outs hinv3.2 (by omega)⟩),trivial⟩ ?_;rintro⟨q,all3⟩;dsimp only;refine bT (Has.of mT0) fun hinv16=>?_;have hal3:all3.length=1024:=hinv16.2.1;refine sr<|sp hT ?_;refine nn<|bE<|bP rfl (fun hc62=>?_) (fun hc62=>?_)
 ·have hc62:=of_decide_eq_true hc62;refine bQ<|bD<|bE<|bR<|sr<|bH (iK.sl (.slice c.outs.addr c.outs.list.length c.outs.cap) c.outs.list) (oL (mY (Has.of mT3))) ?_
  obtain⟨x13,hx14⟩: ∃x',c.outs.list[q]?=some x':=⟨_,List.getElem?_eq_getElem (by omega)⟩
  refine ss (bM hT (k:=q) (bB (Has.of mT0)) rfl rfl rfl rfl rfl rfl rfl (by omega)) ?_;refine ss (bO hT (cB.knows (bB (Has.of mT0)) (k:=q) (x:=x13) hx14 0) rfl rfl rfl rfl rfl) ?_;refine sp hT ?_;refine nn ?_;have hzz:=hou x13 (List.mem_of_getElem? hx14);refine bC<|sp hT ?_
  obtain⟨x15,hx16⟩: ∃x',all3[x13.toNat]?=some x':=⟨_,List.getElem?_eq_getElem (by first | omega | (simp only [List.length_set];omega))⟩
  refine ss (iS hT (k:=x13.toNat) rfl rfl rfl rfl rfl (by omega) (by first | omega | (simp only [List.length_set];omega))) ?_;refine sp hT ?_;refine jD hT (k:=x13.toNat) (fo:=4) (y':=(⟨x15.loads,x15.step,x15.op,x15.makes,true⟩:cU)) .head rfl rfl rfl rfl rfl rfl rfl rfl rfl hx16 rfl ?_;refine cS<|cA<|bD<|bC<|sp hT ?_;refine bW (z':=(((q+1):Nat):Int)) (cH (by omega) (by omega)) ?_;refine sp hT ?_;refine nn ?_;exact bU (q+1,(all3.set x13.toNat (⟨x15.loads,x15.step,x15.op,x15.makes,true⟩:cU))) (by dsimp only;omega) ⟨rfl,trivial⟩ ⟨rfl,rfl,rfl,rfl,trivial⟩ (.cons .head (.cons .head .nil)) ⟨Has.pure (⟨by dsimp only;omega,pl_out hinv16.2 hx14 hzz.1 hx16⟩),trivial⟩ (bF.drop 2)
 have hc62:=Int.not_lt.1 (of_decide_eq_false hc62);refine cE<|bX<|bX<|cF<|bD<|sr<|sp hT ?_;refine ss (ldO hT (dO kT1)) ?_;refine sp hT ?_;refine ss (sti_arrTo hT (k:=c.bufs.list.length) rfl rfl rfl rfl rfl rfl (by omega)) ?_;have hpl:=pl_list hinv16.2 (by omega) (by omega);rw [hnb] at hpl;have hcs:=clonePl_spec (some ⟨b2,0,none⟩) 1024 c.bufs.list.length (all3.take c.bufs.list.length) (by rw [List.length_take];omega) (by rw [List.length_take];omega);rw [hpl,zX,hnb] at hcs;refine iO (cI Tryz.func125 rfl rfl) hcs rfl rfl rfl rfl rfl .nil (.cons .head .nil) (lends_held kW) ⟨by rw [←hpl];exact mP (Has.of mT0) (by omega),trivial⟩ (fun _=>True) (fun _ _ _ _=>trivial) fun⟨PA,pc⟩ _=>?_;refine sp hT ?_;refine nn<|bL ?_;exact bJ (PA,pc) rfl (bI rfl) (.cons .head .nil) trivial rfl
end Go.Proofs.YtofjmphlpdhohaaGreatDoor
namespace Go.Proofs.YtofjmphlpdhohaaGreatDoor
open Go.RowKit
section
variable {P : Program} {β : gD} {n : Nat} {Γ : Env} {H : List bZ} {F : List bN} {o : Oper}
theorem sti_half{t tt:TypeId}{x y:Operand}{k k':IntKind}{a:Int}(ho:o.op= .binOp .shr t x y tt)(hx:Γ.ev x=some (.int k a))(hy:Γ.ev y=some (.int k' 1))(hk:1≤k.bits):Sti P β n Γ H F o (.int k (a.fdiv 2)):=fun c w S f s _=>by
 unfold execOp;simp only [ho,f.ev hx,f.ev hy];have e:min 1 k.bits=1:=by omega
 simp [eqGuard,binOp,Op.shift,e]
end
theorem halfN(a:Nat):((a:Int).fdiv 2)=((a/2:Nat):Int):=by
 rw [Int.fdiv_eq_ediv_of_nonneg _ (by omega)];omega
theorem usesV_sorted(l:List OpV):(uS l).Pairwise (· ≤ ·):=by
 unfold uS Lib.compact Lib.compactUpTo;rw [List.pairwise_map]
 have hs:(qP (nV l)).Pairwise (· ≤ ·):=by
  have:=List.pairwise_mergeSort (le:=leB) (by simp [leB];omega) (by simp [leB];omega) (nV l);exact this.imp fun h=>by simpa [leB] using h
 generalize qP (nV l)=zs at hs;refine(List.pairwise_lt_range.filter _).imp_of_mem fun{a b} ha hb hab=>?_;have ha:=List.mem_range.1 (List.mem_filter.1 ha).1;have hb:=List.mem_range.1 (List.mem_filter.1 hb).1;rw [getElem!_pos _ a (by simpa using ha),getElem!_pos _ b (by simpa using hb)];exact List.pairwise_iff_getElem.1 hs a b ha hb hab
section
variable {l : List Int} {k x : Int} {i j m : Nat}
def BinI (l:List Int)(k:Int)(i j:Nat):Prop:=(∀q y,q<i→l[q]?=some y→y<k)∧ ∀q y,j≤q→l[q]?=some y→k≤y
theorem bin_start:BinI l k 0 l.length:=⟨fun q y h=>by omega,fun q y h hy=>by
 have:=(List.getElem?_eq_some_iff.1 hy).1
 omega⟩
theorem xA(hs:l.Pairwise (· ≤ ·)){q p:Nat}{y z:Int}(hq:l[q]?=some y)(hp:l[p]?=some z)(h:q≤p):y≤z:=by
 obtain⟨q1,rfl⟩:=List.getElem?_eq_some_iff.1 hq;obtain⟨p1,rfl⟩:=List.getElem?_eq_some_iff.1 hp
 rcases Nat.lt_or_ge q p with h1 | h1
 ·exact List.pairwise_iff_getElem.1 hs q p q1 p1 h1
 ·have:q=p:=by omega
  subst this;exact Int.le_refl _
theorem bin_lo(hs:l.Pairwise (· ≤ ·))(h:BinI l k i j)(hx:l[m]?=some x)(e:x<k):BinI l k (m+1) j:=⟨fun q y hq hy=>by
 have:=xA hs hy hx (by omega)
 omega,h.2⟩
theorem bin_hi(hs:l.Pairwise (· ≤ ·))(h:BinI l k i j)(hx:l[m]?=some x)(e:k≤x):BinI l k i m:=⟨h.1,fun q y hq hy=>by
 have:=xA hs hx hy hq
 omega⟩
theorem bin_yes(hx:l[i]?=some x)(e:x=k):true=l.contains k:=by
 rw [List.contains_eq_mem,decide_eq_true (by rw [←e];exact List.mem_of_getElem? hx)]
theorem bin_no(hs:l.Pairwise (· ≤ ·))(h:BinI l k i i)(e: ∀x,l[i]?=some x→x≠k):false=l.contains k:=by
 rw [List.contains_eq_mem];refine(decide_eq_false fun hm=>?_).symm;obtain⟨q,hq⟩:=List.mem_iff_getElem?.1 hm
 rcases Nat.lt_trichotomy q i with h1 | h1 | h1
 ·have:=h.1 q k h1 hq;omega
 ·subst h1;exact e k hq rfl
 ·cases hx:l[i]? with
  | none=>
   have:=List.getElem?_eq_none_iff.1 hx;have:=(List.getElem?_eq_some_iff.1 hq).1;omega
  | some y=>
   have h2:=xA hs hx hq (by omega);have h3:=h.2 i y (Nat.le_refl _) hx;exact e y hx (by omega)
end
def vI (o:OpV):Bool:=(o.how==5 || o.how==6)&& !lK o.fn (o.how==6)
theorem tot_eq(l:List OpV):(!(l.any vI))=pA (dY l):=by
 unfold pA dY;rw [List.any_map];rfl
set_option maxRecDepth 100000 in
theorem nan1_spec(k:Int):dT Tryz.prog 130 [.int .i64 k] [] [] (fun(_:Unit)=> .bool false) (fun _=>[]) (fun _=>[]):=by
 have hT:=dA;refine cQ Tryz.func130 rfl Tryz.ntmps130 rfl ?_;intro β hM;refine sr<|sp hT ?_;refine nn<|sr<|sp4 hT ?_;refine nn<|bL ?_;exact bJ () rfl (bI rfl) .nil trivial (by simp)
set_option maxRecDepth 100000 in
theorem nan2_spec(k:Int):dT Tryz.prog 187 [.int .i64 k] [] [] (fun(_:Unit)=> .bool false) (fun _=>[]) (fun _=>[]):=by
 have hT:=dA;refine cQ Tryz.func187 rfl Tryz.ntmps187 rfl ?_;intro β hM;refine sr<|sp hT ?_;refine nn<|sr<|sp4 hT ?_;refine nn<|bL ?_;exact bJ () rfl (bI rfl) .nil trivial (by simp)
set_option maxRecDepth 100000 in
theorem less_spec(a b:Int):dT Tryz.prog 129 [.int .i64 a,.int .i64 b] [] [] (fun(_:Unit)=> .bool (decide (a<b))) (fun _=>[]) (fun _=>[]):=by
 have hT:=dA;refine cQ Tryz.func129 rfl Tryz.ntmps129 rfl ?_;intro β hM;refine sr<|sp hT ?_;refine nn<|sr<|sp hT ?_;refine cR Tryz.func187 (nan2_spec _) rfl rfl .nil trivial fun _=>?_;refine sp hT ?_;refine sk3 ?_;refine sp4 hT ?_;refine sp3 hT ?_;refine nn<|bL ?_;exact bJ () rfl (bI rfl) .nil trivial (rfl)
set_option maxRecDepth 100000 in
theorem bsearch_spec(A:Option Addr)(c:Nat)(l:List Int)(k:Int)(hs:l.Pairwise (· ≤ ·))(hl:l.length≤140737488355328):dT Tryz.prog 71 [.slice A l.length c,.int .i64 k] [] [iK.sl (.slice A l.length c) l] (fun(x:Int)=> .tuple #[.int .i64 x,.bool (l.contains k)]) (fun _=>[]) (fun _=>[]):=by
 have hT:=dA;refine cQ Tryz.func71 rfl Tryz.ntmps71 rfl ?_;intro β hM;refine sr<|sp2 hT ?_;refine nn<|sr<|sp3 hT ?_;refine nn<|sr<|sp3 hT ?_;refine nn<|bE<|bR<|cG (ι:=Nat×Nat) [(0,_),(1,_),(6,_)] ⟨rfl,rfl,rfl,trivial⟩ (fun⟨i,j⟩=>[(7,.int .i64 (i:Nat)),(8,.int .i64 (j:Nat))]) (fun _=>[]) (fun⟨i,j⟩=>[bN.pure (i≤j∧j≤l.length∧BinI l k i j)]) (fun⟨i,j⟩=>j-i) (0,l.length) ⟨rfl,rfl,trivial⟩ .nil ⟨Has.pure (⟨by omega,by omega,bin_start⟩),trivial⟩ ?_;rintro⟨i,j⟩;dsimp only;refine bT (Has.of mT0) fun hinv3=>?_;refine bE<|sr<|sp3 hT ?_;refine nn<|bP rfl (fun hc15=>?_) (fun hc15=>?_)
 ·have hc15:=of_decide_eq_true hc15;refine bQ<|bD<|bR<|sr<|sp3 hT ?_;refine bW (z':=(((i+j):Nat):Int)) (cH (by omega) (by omega)) ?_;refine sp hT ?_;refine bW (z':=(((i+j):Nat):Int)) (conv64 (by omega)) ?_;refine ss (sti_half rfl rfl rfl (by decide)) ?_;refine bW (halfN _) ?_;refine sp hT ?_;refine bW (z':=((((i+j)/2):Nat):Int)) (conv63 (by omega)) ?_;refine sp hT ?_;refine nn<|sr<|sp2 hT ?_
  obtain⟨x1,hx2⟩: ∃x',l[((i+j)/2)]?=some x':=⟨_,List.getElem?_eq_getElem (by omega)⟩
  refine ss (bM hT (k:=((i+j)/2)) (bB (Has.of mT1)) rfl rfl rfl rfl rfl rfl rfl (by omega)) ?_;refine ss (bO hT (cB.knows (bB (Has.of mT1)) (k:=((i+j)/2)) (x:=x1) hx2 0) rfl rfl rfl rfl rfl) ?_;refine sp hT ?_;refine cR Tryz.func129 (less_spec x1 k) rfl rfl .nil trivial fun _=>?_;refine nn<|bP rfl (fun hc27=>?_) (fun hc27=>?_)
  ·have hc27:=of_decide_eq_true hc27;refine bC<|sp2 hT ?_;refine bW (z':=(((((i+j)/2)+1):Nat):Int)) (cH (by omega) (by omega)) ?_;refine sp hT ?_;refine cS<|cA<|bD ?_;exact bU (((i+j)/2)+1,j) (by dsimp only;omega) ⟨rfl,rfl,trivial⟩ ⟨rfl,rfl,rfl,trivial⟩ .nil ⟨Has.pure (⟨by dsimp only;omega,by dsimp only;omega,bin_lo hs hinv3.2.2 hx2 (by omega)⟩),trivial⟩ (bF.drop 1)
  have hc27:=Int.not_lt.1 (of_decide_eq_false hc27);refine bC<|sp2 hT ?_;refine cS<|cA<|bD ?_;exact bU (i,((i+j)/2)) (by dsimp only;omega) ⟨rfl,rfl,trivial⟩ ⟨rfl,rfl,rfl,trivial⟩ .nil ⟨Has.pure (⟨by dsimp only;omega,by dsimp only;omega,bin_hi hs hinv3.2.2 hx2 (by omega)⟩),trivial⟩ (bF.drop 1)
 have hc15:=Int.not_lt.1 (of_decide_eq_false hc15);refine cE<|bX<|bX<|cF<|bD<|sr<|sp4 hT ?_;refine sp hT ?_;refine bV (fun hg35=>?_) (fun hg35=>?_)
 ·have hg35:=of_decide_eq_true hg35;refine sp2 hT ?_
  obtain⟨x3,hx4⟩: ∃x',l[i]?=some x':=⟨_,List.getElem?_eq_getElem (by omega)⟩
  refine ss (bM hT (k:=i) (bB (Has.of mT1)) rfl rfl rfl rfl rfl rfl rfl (by omega)) ?_;refine ss (bO hT (cB.knows (bB (Has.of mT1)) (k:=i) (x:=x3) hx4 0) rfl rfl rfl rfl rfl) ?_;refine sp3 hT ?_;refine bV (fun hg42=>?_) (fun hg42=>?_)
  ·have hg42:=eq_of_beq hg42;refine sk4 ?_;refine sk4 ?_;refine sk ?_;refine sp4 hT ?_;refine nn<|bL ?_;obtain rfl:j=i:=by omega
   have hbr:=bin_yes hx4 (by omega);exact oM ((j:Nat):Int) rfl (bI rfl) (bI rfl) .nil trivial (by rw [←hbr])
  have hg42:=beq_eq_false_iff_ne.1 hg42;refine sp2 hT ?_;refine ss (bM hT (k:=i) (bB (Has.of mT1)) rfl rfl rfl rfl rfl rfl rfl (by omega)) ?_;refine ss (bO hT (cB.knows (bB (Has.of mT1)) (k:=i) (x:=x3) hx4 0) rfl rfl rfl rfl rfl) ?_;refine cR Tryz.func130 (nan1_spec _) rfl rfl .nil trivial fun _=>?_;refine sp hT ?_;refine sk2 ?_;refine sp4 hT ?_;refine sp hT ?_;refine nn<|bL ?_;obtain rfl:j=i:=by omega
  have hbr:false=l.contains k:=bin_no hs hinv3.2.2 (fun x hx=>by rw [hx4] at hx;injection hx with hx;omega);exact oM ((j:Nat):Int) rfl (bI rfl) (bI rfl) .nil trivial (by rw [←hbr])
 have hg35:=Int.not_lt.1 (of_decide_eq_false hg35);refine sk4 ?_;refine sk4 ?_;refine sk4 ?_;refine sk4 ?_;refine sk ?_;refine sp3 hT ?_;refine nn<|bL ?_;obtain rfl:j=i:=by omega
 have hbr:false=l.contains k:=bin_no hs hinv3.2.2 (fun x hx=>by have:=(List.getElem?_eq_some_iff.1 hx).1;omega);exact oM ((j:Nat):Int) rfl (bI rfl) (bI rfl) .nil trivial (by rw [←hbr])
set_option maxRecDepth 100000 in
theorem total1_spec(o:OpV):dT Tryz.prog 127 [.agg #[.int .i64 o.how,.int .i64 o.k,.int .i64 o.n,.slice o.p.addr o.p.list.length o.p.cap,.int .u8 o.fn]] [] [opF o] (fun(_:Unit)=> .bool (vI o)) (fun _=>[]) (fun _=>[]):=by
 have hT:=dA;refine cQ Tryz.func127 rfl Tryz.ntmps127 rfl ?_;intro β hM;refine sr<|gL rfl rfl rfl rfl rfl rfl fun b1=>?_;refine sp hT ?_;refine nn<|sr<|sp hT ?_;refine ss (ldO hT (dK .head)) ?_;refine sp2 hT ?_;refine bV (fun hg6=>?_) (fun hg6=>?_)
 ·have hg6:=eq_of_beq hg6;refine sk3 ?_;refine sp3 hT ?_;refine ss (ldO hT (sA .head)) ?_;refine sp hT ?_;refine ss (ldO hT (dK .head)) ?_;refine sp hT ?_;refine fQ (t':=false) (by rw [hg6];rfl) ?_;refine cR Tryz.func128 (yT _ _) rfl rfl .nil trivial fun _=>?_;refine sp3 hT ?_;refine nn<|bL ?_;exact bJ () rfl (bI rfl) .nil trivial (by simp [vI, *])
 have hg6:=beq_eq_false_iff_ne.1 hg6;refine sp hT ?_;refine ss (ldO hT (dK .head)) ?_;refine sp3 hT ?_;refine bV (fun hg11=>?_) (fun hg11=>?_)
 ·have hg11:=eq_of_beq hg11;refine sp hT ?_;refine ss (ldO hT (sA .head)) ?_;refine sp hT ?_;refine ss (ldO hT (dK .head)) ?_;refine sp hT ?_;refine fQ (t':=true) (by rw [hg11];rfl) ?_;refine cR Tryz.func128 (yT _ _) rfl rfl .nil trivial fun _=>?_;refine sp3 hT ?_;refine nn<|bL ?_;exact bJ () rfl (bI rfl) .nil trivial (by simp [vI, *])
 have hg11:=beq_eq_false_iff_ne.1 hg11;refine sk4 ?_;refine sk3 ?_;refine sp2 hT ?_;refine nn<|bL ?_;exact bJ () rfl (bI rfl) .nil trivial (by simp [vI, *])
set_option maxRecDepth 100000 in
theorem total_spec(A:Option Addr)(c:Nat)(l:List OpV)(hl:l.length≤140737488355328):dT Tryz.prog 70 [.slice A l.length c] [] [opE.sl (.slice A l.length c) l,bN.each l opF] (fun(_:Unit)=> .bool (pA (dY l))) (fun _=>[]) (fun _=>[]):=by
 have hT:=dA;refine cQ Tryz.func70 rfl Tryz.ntmps70 rfl ?_;intro β hM;refine sr<|sp hT ?_;refine nn<|sr<|sp hT ?_;refine cR Tryz.func111 (lU A c l hl 127 [] [] vI (cI Tryz.func127 rfl rfl) total1_spec) rfl rfl .nil ⟨(Has.of mT0),(Has.of mT1),trivial⟩ fun _=>?_;refine sp2 hT ?_;refine nn<|bL ?_;exact bJ () rfl (bI rfl) .nil trivial (congrArg Value.bool (tot_eq l))
end Go.Proofs.YtofjmphlpdhohaaGreatDoor
namespace Go.Proofs.YtofjmphlpdhohaaGreatDoor
open Go.RowKit
def fiI:Option (Nat×Nat×Nat)→Nat
 | some q=>q.1
 | none=>0
def fiP:Option (Nat×Nat×Nat)→cU
 | some q=>⟨1,(q.2.1:Nat),(q.2.2:Nat),1,false⟩
 | none=>⟨0,0,0,0,false⟩
theorem fiP_eq{i j k:Nat}{p:cU}(h1:p.loads=1)(h2:p.step=(j:Nat))(h3:p.op=(k:Nat))(h4:p.makes=1)(h5:p.out=false):fiP (some (i,j,k))=p:=by
 obtain⟨a,b,c,d,e⟩:=p;simp only at h1 h2 h3 h4 h5;subst h1 h2 h3 h4 h5;rfl
def fiN (c:fL):Option (Nat×Nat×Nat)→Nat
 | some q=>match c.steps[q.1]? with
  | some s=>(ownC s.loops s.buf).length
  | none=>0
 | none=>0
section
variable {c : CoreV} {i j k j' k' : Nat} {x xt : cN} {t : StepC} {p : cU}
theorem canP(q:qJ c.c i j k x.c t)(hp:p=plV (fZ x.buf c.c.steps 0) (mks c.c.steps x.buf) (c.outs.list.contains x.buf)):x.how=1∧x.at_.list.length=0∧p.loads=1∧p.step=(j:Nat)∧p.op=(k:Nat)∧p.makes=1∧p.out=false∧i<j:=by
 have h1:fZ x.buf c.c.steps 0=[(j,k)]:=q.ld;have h2:mks c.c.steps x.buf=1:=q.mk1
 have h3:c.outs.list.contains x.buf=false:=by
  rw [List.contains_eq_mem];exact decide_eq_false q.out
 rw [h1,h2,h3] at hp;subst hp;exact⟨q.how,congrArg List.length (show x.at_.list=[] from q.at0),rfl,rfl,rfl,rfl,rfl,q.lt⟩
theorem zE(q:qJ c.c i j' k' x.c t)(hL:fZ x.buf c.c.steps 0=[(j,k)])(hxt:c.steps.list[j]?=some xt):
  (dL x.loops.list x.buf).length≤k+1∧xt.ops.list.length+x.ops.list.length≤256+(dL x.loops.list x.buf).length∧dF x.loops.list=dF xt.loops.list∧
  dY (dL x.loops.list x.buf)=dY ((xt.ops.list.drop (k+1-(dL x.loops.list x.buf).length)).take (k+1-(k+1-(dL x.loops.list x.buf).length)))∧pA (dY x.ops.list)=true∧
  ∀y∈(c.c.steps.drop (i+1)).take (j-i),y.buf.toNat∉sM (dY x.ops.list):=by
 have e:(j',k')=(j,k):=by
  have h1:fZ x.buf c.c.steps 0=[(j',k')]:=q.ld;rw [hL] at h1;injection h1 with h1
  exact h1.symm
 injection e with e1 e2
 subst e1 e2;have ht:t=xt.c:=Option.some.inj (q.tj.symm.trans (cM hxt));subst ht;have hn:(ownC (dF x.loops.list) x.buf).length=(dL x.loops.list x.buf).length:=pH.symm;have h1:(ownC (dF x.loops.list) x.buf).length≤k'+1:=q.len;have h2:(dY xt.ops.list).length+(dY x.ops.list).length≤256+(ownC (dF x.loops.list) x.buf).length:=q.few;have h4:((dY xt.ops.list).drop (k'+1-(ownC (dF x.loops.list) x.buf).length)).take (ownC (dF x.loops.list) x.buf).length=ownC (dF x.loops.list) x.buf:=q.own;rw [hn] at h1 h2 h4;rw [cW,cW] at h2;refine⟨h1,h2,q.loops,?_,q.total,q.uses⟩;rw [show k'+1-(k'+1-(dL x.loops.list x.buf).length)=(dL x.loops.list x.buf).length by omega,ownV_c];unfold dY at h4⊢;rw [List.map_take,List.map_drop];exact h4.symm
theorem canM(hx:c.steps.list[i]?=some x)(hxt:c.steps.list[j]?=some xt)(hL:fZ x.buf c.c.steps 0=[(j,k)])(h1:x.how=1)(h2:x.at_.list.length=0)(h3:mks c.c.steps x.buf=1)(h4:c.outs.list.contains x.buf=false)(h5:i<j)
  (h6:(dL x.loops.list x.buf).length≤k+1) (h7:xt.ops.list.length+x.ops.list.length≤256+(dL x.loops.list x.buf).length) (h8:dF x.loops.list=dF xt.loops.list)
  (h9:dY (dL x.loops.list x.buf)=dY ((xt.ops.list.drop (k+1-(dL x.loops.list x.buf).length)).take (k+1-(k+1-(dL x.loops.list x.buf).length)))) (h10:pA (dY x.ops.list)=true)
  (h11: ∀y∈(c.c.steps.drop (i+1)).take (j-i),y.buf.toNat∉sM (dY x.ops.list)):qJ c.c i j k x.c xt.c:=by
 have hn:(ownC (dF x.loops.list) x.buf).length=(dL x.loops.list x.buf).length:=pH.symm;refine⟨cM hx,cM hxt,h5,h1,List.eq_nil_of_length_eq_zero h2,h3,hL,fun hm=>?_,?_,?_,h8,?_,h10,h11⟩
 ·rw [List.contains_eq_mem] at h4;exact(of_decide_eq_false h4) hm
 ·show(ownC (dF x.loops.list) x.buf).length≤_;rw [hn];exact h6
 ·show(dY xt.ops.list).length+(dY x.ops.list).length≤256+(ownC (dF x.loops.list) x.buf).length;rw [hn,cW,cW];exact h7
 ·show((dY xt.ops.list).drop (k+1-(ownC (dF x.loops.list) x.buf).length)).take (ownC (dF x.loops.list) x.buf).length=ownC (dF x.loops.list) x.buf;rw [hn,←ownV_c,h9,show k+1-(k+1-(dL x.loops.list x.buf).length)=(dL x.loops.list x.buf).length by omega];unfold dY;rw [List.map_take,List.map_drop]
theorem lenP(hp:p=plV (fZ x.buf c.c.steps 0) (mks c.c.steps x.buf) (c.outs.list.contains x.buf))(h1:p.loads=1)(h4:p.makes=1)(h5:p.out=false): ∃j k,fZ x.buf c.c.steps 0=[(j,k)]∧p.step=(j:Nat)∧p.op=(k:Nat)∧mks c.c.steps x.buf=1∧c.outs.list.contains x.buf=false∧
  ∃xt,c.steps.list[j]?=some xt∧k<xt.ops.list.length:=by
 have e1:((fZ x.buf c.c.steps 0).length:Int)=1:=by rw [hp] at h1;exact h1
 have e4:((mks c.c.steps x.buf:Nat):Int)=1:=by rw [hp] at h4;exact h4
 have e5:c.outs.list.contains x.buf=false:=by rw [hp] at h5;exact h5
 obtain⟨j,k,hL⟩:=one_ld (L:=fZ x.buf c.c.steps 0) (by omega);obtain⟨t,o,ht,ho⟩:=ld_at hL
 have hj:j<c.steps.list.length:=by
  have:=(List.getElem?_eq_some_iff.1 ht).1
  rwa [show c.c.steps.length=c.steps.list.length from cY _] at this
 have hxt:=List.getElem?_eq_getElem hj;refine⟨j,k,hL,by rw [hp,hL];rfl,by rw [hp,hL];rfl,by omega,e5,_,hxt,?_⟩;have e:t=(c.steps.list[j]).c:=Option.some.inj (ht.symm.trans (cM hxt));have:=(List.getElem?_eq_some_iff.1 ho).1;rw [e] at this
 rwa [show(c.steps.list[j]).c.ops.length=(c.steps.list[j]).ops.list.length from cW _] at this
theorem uses_has{l:List OpV}{b:Int}(h0:0≤b)(hl: ∀o∈l,o.how=4→0≤o.k):(uS l).contains b=true↔b.toNat∈sM (dY l):=by
 rw [List.contains_eq_mem,decide_eq_true_iff,mem_usesV];unfold sM dY;rw [List.mem_filterMap];constructor
 ·rintro⟨o,ho,h4,rfl⟩;exact⟨o.c,List.mem_map_of_mem ho,by rw [if_pos (show o.c.how=4 from h4)];rfl⟩
 ·rintro⟨oc,ho,h⟩;obtain⟨o,hom,rfl⟩:=List.mem_map.1 ho
  by_cases h4:o.how=4
  ·rw [if_pos (show o.c.how=4 from h4)] at h;have h2:=hl o hom h4;have h:o.k.toNat=b.toNat:=Option.some.inj h;exact⟨o,hom,h4,by omega⟩
  ·rw [if_neg (show ¬o.c.how=4 from h4)] at h;cases h
end
theorem jO{α:Type}{g:α→bN}{F:List bN}{l m:List α}(h:Has F (bN.each l g))(hm: ∀x∈m,x∈l):Has F (bN.each m g):=fun S w k x hx=>h S w k x (hm x hx)
theorem mem_cut{α:Type}{l:List α}{a b:Nat}{x:α}(h:x∈(l.drop a).take b):x∈l:=List.mem_of_mem_drop (List.mem_of_mem_take h)
theorem all_step{α:Type}{P:α→Prop}{l:List α}{m:Nat}{x:α}(h: ∀y∈l.take m,P y)(hx:l[m]?=some x)(hp:P x): ∀y∈l.take (m+1),P y:=fun y hy=>by
 obtain⟨hm,e⟩:=List.getElem?_eq_some_iff.1 hx;rw [List.take_succ_eq_append_getElem hm,e,List.mem_append,List.mem_singleton] at hy
 rcases hy with hy | rfl
 ·exact h y hy
 ·exact hp
theorem nB:(Tryz.prog.info? 72).bind (·.zero)=some (.agg #[.int .i64 0,.int .i64 0,.int .i64 0,.int .i64 0,.bool false]):=by kernel_rfl
theorem qX:Tryz.prog.built 72 []=some #[.int .i64 0,.int .i64 0,.int .i64 0,.int .i64 0,.bool false]:=by kernel_rfl
set_option maxRecDepth 100000 in
theorem bEj(c:CoreV)(hr:dV c.c=true):dT Tryz.prog 32 [.agg #[.int .i64 c.vars,.slice c.bufs.addr c.bufs.list.length c.bufs.cap,.slice c.steps.addr c.steps.list.length c.steps.cap,.slice c.outs.addr c.outs.list.length c.outs.cap]] [] [iE c] (fun(x:Option Addr×Nat)=> .tuple #[.int .i64 (fiI (jG c.c):Nat),.agg #[.int .i64 (fiP (jG c.c)).loads,.int .i64 (fiP (jG c.c)).step,.int .i64 (fiP (jG c.c)).op,.int .i64 (fiP (jG c.c)).makes,.bool (fiP (jG c.c)).out],.slice x.1 (fiN c.c (jG c.c)) x.2,.bool (jG c.c).isSome]) (fun _=>[]) (fun _=>[]):=by
 have hT:=dA;generalize hR:jG c.c=r;obtain⟨hbz,hst,hou⟩:=lO hr;have hnb:c.c.bufs.length=c.bufs.list.length:=dB _;have hns:c.c.steps.length=c.steps.list.length:=cY _;have hpl:(placesC c.c).length=c.bufs.list.length:=(zX _).trans hnb;refine cQ Tryz.func32 rfl Tryz.ntmps32 rfl ?_;intro β hM;refine sr<|gL rfl rfl rfl rfl rfl rfl fun b1=>?_;refine sp hT ?_;refine cV rfl rfl rfl rfl nB rfl fun b2=>?_;refine sp2 hT ?_;refine nn<|at_scope ?_;refine sr<|ss (ldN hT (dK kT1)) ?_;refine cR Tryz.func65 (places_spec c hr) rfl rfl .nil ⟨(Has.of mT0),trivial⟩ fun⟨A3,c4⟩=>?_;refine cZ .head ?_;refine sp hT ?_;refine nn<|bE<|at_label ?_;refine bD<|bE<|bE<|bH (fW.sl (.slice c.steps.addr c.steps.list.length c.steps.cap) c.steps.list) (jR (fB (Has.of mT1))) ?_;refine bT (bAi (fB (Has.of mT2))) fun hz5=>?_;have hsc:=hz5.1;refine bC<|sp hT ?_;refine ss (ldO hT (gA kT1)) ?_;refine sp2 hT ?_;refine nn<|bR<|cG (ι:=Nat) [(1,_),(3,_),(6,_),(20,_),(21,_)] ⟨rfl,rfl,rfl,rfl,rfl,trivial⟩ (fun i=>[(22,.int .i64 (i:Nat))]) (fun _=>[]) (fun i=>[bN.pure (i≤c.steps.list.length∧r=lZ c.c (c.c.steps.drop i) i)]) (fun i=>c.steps.list.length-i) 0 ⟨rfl,trivial⟩ .nil ⟨Has.pure (⟨by omega,bBj hR⟩),trivial⟩ ?_;rintro i;refine bT (Has.of mT0) fun hinv3=>?_;refine sr<|sp hT ?_;refine nn<|bE<|bP rfl (fun hc23=>?_) (fun hc23=>?_)
 ·have hc23:=of_decide_eq_true hc23;refine bQ<|bD<|bE<|bR<|sr<|sp hT ?_
  obtain⟨x6,hx7⟩: ∃x',c.steps.list[i]?=some x':=⟨_,List.getElem?_eq_getElem (by omega)⟩
  refine ss (bM hT (k:=i) (bB (Has.of mT1)) rfl rfl rfl rfl rfl rfl rfl (by omega)) ?_;refine ss (cO hT (cB.knows (bB (Has.of mT1)) (k:=i) (x:=x6) hx7 0) rfl rfl rfl rfl rfl) ?_;refine cV rfl rfl rfl rfl rY rfl fun b8=>?_;refine sp hT ?_;refine sto hT .head ?_;refine nn<|bE<|bH (dQ x6) (Has.each (gW (fB (Has.of mT3))) (List.mem_of_getElem? hx7)) ?_;have hxc:=cM hx7;obtain⟨hb0,hb1,hop⟩:=hst x6.c (List.mem_of_getElem? hxc)
  replace hb0:0≤x6.buf:=hb0
  replace hb1:x6.buf<(c.c.bufs.length:Nat):=hb1
  obtain⟨hol,hll⟩:=gJ hr x6.c (List.mem_of_getElem? hxc)
  replace hol:x6.ops.list.length≤256:=by rwa [show x6.c.ops.length=x6.ops.list.length from cW _] at hol
  replace hll:x6.loops.list.length≤4:=by rwa [show x6.c.loops.length=x6.loops.list.length from cP _] at hll
  refine bC<|sp2 hT ?_;refine ss (ldO hT (dO .head)) ?_
  obtain⟨x9,hx10⟩: ∃x',(placesC c.c)[x6.buf.toNat]?=some x':=⟨_,List.getElem?_eq_getElem (by rw [hpl];omega)⟩
  refine ss (bM hT (k:=x6.buf.toNat) (bB (Has.of mT3)) rfl rfl rfl rfl rfl hpl.symm (by omega) (by rw [hpl];omega)) ?_;refine ss (cO hT (cB.knows (bB (Has.of mT3)) (k:=x6.buf.toNat) (x:=x9) hx10 0) rfl rfl rfl rfl rfl) ?_;refine cV rfl rfl rfl rfl nB rfl fun b11=>?_;refine sto hT .head ?_;refine nn<|bE<|bE ?_;have hpe:=place_at hx10 hb0;refine bC<|sp hT ?_;refine ss (ldO hT (dK kT1)) ?_;refine sp2 hT ?_;refine bV (fun hg35=>?_) (fun hg35=>?_)
  ·have hg35:=bne_iff_ne.1 hg35;refine sk4 ?_;refine sp2 hT ?_;refine sk3 ?_;refine sp2 hT ?_;refine sk3 ?_;refine sp2 hT ?_;refine sk2 ?_;refine sp2 hT ?_;refine sk4 ?_;refine sp hT ?_;refine nn<|cK rfl rfl ?_;refine cE<|bX<|cF<|bD<|bC<|sp hT ?_;refine bW (z':=(((i+1):Nat):Int)) (cH (by omega) (by omega)) ?_;refine sp hT ?_;refine nn ?_;exact bU (i+1) (by omega) ⟨rfl,trivial⟩ ⟨rfl,rfl,rfl,rfl,rfl,trivial⟩ (.cons kT2 (.cons kT2 .nil)) ⟨Has.pure (⟨by omega,lB hinv3.2 (cM hx7) (fun j' k' t q=>by obtain⟨q1,q2,q3,q4,q5,q6,q7,q8⟩:=canP q hpe;first | omega | simp_all)⟩),trivial⟩ (bF.drop 2)
  have hg35:=bne_eq_false_iff_eq.1 hg35;refine sp hT ?_;refine ss (ldO hT (gA kT1)) ?_;refine sp4 hT ?_;refine bV (fun hg41=>?_) (fun hg41=>?_)
  ·have hg41:=of_decide_eq_true hg41;refine sk3 ?_;refine sp2 hT ?_;refine sk3 ?_;refine sp2 hT ?_;refine sk2 ?_;refine sp2 hT ?_;refine sk4 ?_;refine sp hT ?_;refine nn<|cK rfl rfl ?_;refine cE<|bX<|cF<|bD<|bC<|sp hT ?_;refine bW (z':=(((i+1):Nat):Int)) (cH (by omega) (by omega)) ?_;refine sp hT ?_;refine nn ?_;exact bU (i+1) (by omega) ⟨rfl,trivial⟩ ⟨rfl,rfl,rfl,rfl,rfl,trivial⟩ (.cons kT2 (.cons kT2 .nil)) ⟨Has.pure (⟨by omega,lB hinv3.2 (cM hx7) (fun j' k' t q=>by obtain⟨q1,q2,q3,q4,q5,q6,q7,q8⟩:=canP q hpe;first | omega | simp_all)⟩),trivial⟩ (bF.drop 2)
  have hg41:=Int.not_lt.1 (of_decide_eq_false hg41);refine sp hT ?_;refine ss (ldO hT (iC .head)) ?_;refine sp3 hT ?_;refine bV (fun hg46=>?_) (fun hg46=>?_)
  ·have hg46:=bne_iff_ne.1 hg46;refine sk3 ?_;refine sp2 hT ?_;refine sk2 ?_;refine sp2 hT ?_;refine sk4 ?_;refine sp hT ?_;refine nn<|cK rfl rfl ?_;refine cE<|bX<|cF<|bD<|bC<|sp hT ?_;refine bW (z':=(((i+1):Nat):Int)) (cH (by omega) (by omega)) ?_;refine sp hT ?_;refine nn ?_;exact bU (i+1) (by omega) ⟨rfl,trivial⟩ ⟨rfl,rfl,rfl,rfl,rfl,trivial⟩ (.cons kT2 (.cons kT2 .nil)) ⟨Has.pure (⟨by omega,lB hinv3.2 (cM hx7) (fun j' k' t q=>by obtain⟨q1,q2,q3,q4,q5,q6,q7,q8⟩:=canP q hpe;first | omega | simp_all)⟩),trivial⟩ (bF.drop 2)
  have hg46:=bne_eq_false_iff_eq.1 hg46;refine sp hT ?_;refine ss (ldO hT (dK .head)) ?_;refine sp3 hT ?_;refine bV (fun hg51=>?_) (fun hg51=>?_)
  ·have hg51:=bne_iff_ne.1 hg51;refine sk2 ?_;refine sp2 hT ?_;refine sk4 ?_;refine sp hT ?_;refine nn<|cK rfl rfl ?_;refine cE<|bX<|cF<|bD<|bC<|sp hT ?_;refine bW (z':=(((i+1):Nat):Int)) (cH (by omega) (by omega)) ?_;refine sp hT ?_;refine nn ?_;exact bU (i+1) (by omega) ⟨rfl,trivial⟩ ⟨rfl,rfl,rfl,rfl,rfl,trivial⟩ (.cons kT2 (.cons kT2 .nil)) ⟨Has.pure (⟨by omega,lB hinv3.2 (cM hx7) (fun j' k' t q=>by obtain⟨q1,q2,q3,q4,q5,q6,q7,q8⟩:=canP q hpe;first | omega | simp_all)⟩),trivial⟩ (bF.drop 2)
  have hg51:=bne_eq_false_iff_eq.1 hg51;refine sp hT ?_;refine ss (ldO hT (sA .head)) ?_;refine sp2 hT ?_;refine bV (fun hg55=>?_) (fun hg55=>?_)
  ·refine sk4 ?_;refine sp hT ?_;refine nn<|cK rfl rfl ?_;refine cE<|bX<|cF<|bD<|bC<|sp hT ?_;refine bW (z':=(((i+1):Nat):Int)) (cH (by omega) (by omega)) ?_;refine sp hT ?_;refine nn ?_;exact bU (i+1) (by omega) ⟨rfl,trivial⟩ ⟨rfl,rfl,rfl,rfl,rfl,trivial⟩ (.cons kT2 (.cons kT2 .nil)) ⟨Has.pure (⟨by omega,lB hinv3.2 (cM hx7) (fun j' k' t q=>by obtain⟨q1,q2,q3,q4,q5,q6,q7,q8⟩:=canP q hpe;first | omega | simp_all)⟩),trivial⟩ (bF.drop 2)
  refine sp hT ?_;refine ss (ldO hT (dO .head)) ?_;refine sp3 hT ?_;refine nn<|bP rfl (fun hc60=>?_) (fun hc60=>?_)
  ·have hc60:=of_decide_eq_true hc60;refine cE<|bX<|cF<|bD<|bC<|sp hT ?_;refine bW (z':=(((i+1):Nat):Int)) (cH (by omega) (by omega)) ?_;refine sp hT ?_;refine nn ?_;exact bU (i+1) (by omega) ⟨rfl,trivial⟩ ⟨rfl,rfl,rfl,rfl,rfl,trivial⟩ (.cons kT2 (.cons kT2 .nil)) ⟨Has.pure (⟨by omega,lB hinv3.2 (cM hx7) (fun j' k' t q=>by obtain⟨q1,q2,q3,q4,q5,q6,q7,q8⟩:=canP q hpe;first | omega | simp_all)⟩),trivial⟩ (bF.drop 2)
  have hc60:=Int.not_le.1 (of_decide_eq_false hc60);refine bQ<|bD<|bE ?_;obtain⟨j,k,hL,hps,hpo,hmk,hco,xt,hxt,hkt⟩:=lenP hpe (by first | omega | simp_all) (by first | omega | simp_all) (by first | assumption | simp_all);have hjn:j<c.steps.list.length:=(List.getElem?_eq_some_iff.1 hxt).1;have hij:i<j:=by omega
  refine bH (dQ xt) (Has.each (gW (fB (Has.of mT4))) (List.mem_of_getElem? hxt)) ?_;have hot:=(gJ hr xt.c (List.mem_of_getElem? (cM hxt))).1
  replace hot:xt.ops.list.length≤256:=by rwa [show xt.c.ops.length=xt.ops.list.length from cW _] at hot
  have hlt:=(gJ hr xt.c (List.mem_of_getElem? (cM hxt))).2
  replace hlt:xt.loops.list.length≤4:=by rwa [show xt.c.loops.length=xt.loops.list.length from cP _] at hlt
  refine bC<|sp hT ?_;refine ss (ldO hT (gA kT3)) ?_;refine sp hT ?_;refine ss (ldO hT (dO .head)) ?_;refine ss (bM hT (k:=j) (bB (Has.of mT3)) rfl rfl rfl rfl rfl rfl hps (by omega)) ?_;refine ss (cO hT (cB.knows (bB (Has.of mT3)) (k:=j) (x:=xt) hxt 0) rfl rfl rfl rfl rfl) ?_;refine cV rfl rfl rfl rfl rY rfl fun b12=>?_;refine sto hT .head ?_;refine nn<|sr<|sp hT ?_;refine ss (ldO hT (iC kT2)) ?_;refine sp hT ?_;refine ss (ldO hT (dO kT2)) ?_;refine cR Tryz.func66 (own_spec x6.loops x6.buf hll) rfl rfl .nil ⟨dW (Has.of mT1),trivial⟩ fun⟨A13,c14⟩=>?_;have hon:=pH (l:=x6.loops.list) (b:=x6.buf);have hon2:=own_len (l:=dF x6.loops.list) (b:=x6.buf);rw [cP] at hon2;refine sp hT ?_;refine nn<|sr<|sp hT ?_;refine ss (ldO hT (gA kT1)) ?_;refine sp hT ?_;refine bW (z':=((k+1:Nat):Int)) (by rw [hpo];exact cH (by omega) (by omega)) ?_;refine sp3 hT ?_;refine bW (vX (by omega) (by omega)) ?_;refine sp hT ?_;refine nn<|bE<|bE<|bH (opE.sl (.slice x6.ops.addr x6.ops.list.length x6.ops.cap) x6.ops.list) (jM (dD (Has.of mT3))) ?_;refine bH (fN.sl (.slice x6.loops.addr x6.loops.list.length x6.loops.cap) x6.loops.list) (gE (dW (Has.of mT4))) ?_;refine bH (opE.sl (.slice xt.ops.addr xt.ops.list.length xt.ops.cap) xt.ops.list) (jM (dD (Has.of mT4))) ?_;refine bH (fN.sl (.slice xt.loops.addr xt.loops.list.length xt.loops.cap) xt.loops.list) (gE (dW (Has.of mT5))) ?_;refine bT (lX (dD (Has.of mT6))) fun hz15=>?_;have hzt:=hz15.1;refine bH (gP x6.loops.list) (iF (dW (Has.of mT7))) ?_;refine bH (gP xt.loops.list) (iF (dW (Has.of mT7))) ?_;refine bC<|sp3 hT ?_;refine bV (fun hg80=>?_) (fun hg80=>?_)
  ·have hg80:=of_decide_eq_true hg80;refine sk4 ?_;refine sk4 ?_;refine sk3 ?_;refine sp2 hT ?_;refine sk4 ?_;refine sk2 ?_;refine sp2 hT ?_;refine sk4 ?_;refine sk4 ?_;refine sk2 ?_;refine sp2 hT ?_;refine sk4 ?_;refine sp hT ?_;refine nn<|cK rfl rfl ?_;refine cE<|bX<|cF<|bD<|bC<|sp hT ?_;refine bW (z':=(((i+1):Nat):Int)) (cH (by omega) (by omega)) ?_;refine sp hT ?_;refine nn ?_;exact bU (i+1) (by omega) ⟨rfl,trivial⟩ ⟨rfl,rfl,rfl,rfl,rfl,trivial⟩ (.cons kT3 (.cons kT3 .nil)) ⟨Has.pure (⟨by omega,lB hinv3.2 (cM hx7) (fun j' k' t q=>by obtain⟨q1,q2,q3,q4,q5,q6⟩:=zE q hL hxt;first | omega | simp_all)⟩),trivial⟩ (bF.drop 11)
  have hg80:=Int.not_lt.1 (of_decide_eq_false hg80);refine sp hT ?_;refine ss (ldO hT (iI .head)) ?_;refine sp4 hT ?_;refine bW (z':=(((xt.ops.list.length-(dL x6.loops.list x6.buf).length):Nat):Int)) (cH (by omega) (by omega)) ?_;refine sp hT ?_;refine ss (ldO hT (iI kT2)) ?_;refine sp2 hT ?_;refine bW (z':=((((xt.ops.list.length-(dL x6.loops.list x6.buf).length)+x6.ops.list.length):Nat):Int)) (cH (by omega) (by omega)) ?_;refine sp3 hT ?_;refine bV (fun hg93=>?_) (fun hg93=>?_)
  ·have hg93:=of_decide_eq_true hg93;refine sk4 ?_;refine sk2 ?_;refine sp2 hT ?_;refine sk4 ?_;refine sk4 ?_;refine sk2 ?_;refine sp2 hT ?_;refine sk4 ?_;refine sp hT ?_;refine nn<|cK rfl rfl ?_;refine cE<|bX<|cF<|bD<|bC<|sp hT ?_;refine bW (z':=(((i+1):Nat):Int)) (cH (by omega) (by omega)) ?_;refine sp hT ?_;refine nn ?_;exact bU (i+1) (by omega) ⟨rfl,trivial⟩ ⟨rfl,rfl,rfl,rfl,rfl,trivial⟩ (.cons kT3 (.cons kT3 .nil)) ⟨Has.pure (⟨by omega,lB hinv3.2 (cM hx7) (fun j' k' t q=>by obtain⟨q1,q2,q3,q4,q5,q6⟩:=zE q hL hxt;first | omega | simp_all)⟩),trivial⟩ (bF.drop 11)
  have hg93:=Int.not_lt.1 (of_decide_eq_false hg93);refine sp hT ?_;refine ss (ldO hT (iC kT2)) ?_;refine sp hT ?_;refine ss (ldO hT (iC .head)) ?_;refine cR Tryz.func67 (sameP_spec x6.loops.addr xt.loops.addr x6.loops.cap xt.loops.cap x6.loops.list xt.loops.list (by omega)) rfl rfl .nil ⟨(Has.of mT4),(Has.of mT1),(Has.of mT2),(Has.of mT0),trivial⟩ fun _=>?_;refine sp3 hT ?_;refine bV (fun hg101=>?_) (fun hg101=>?_)
  ·have hg101:=gV hg101;refine sk4 ?_;refine sk4 ?_;refine sk2 ?_;refine sp2 hT ?_;refine sk4 ?_;refine sp hT ?_;refine nn<|cK rfl rfl ?_;refine cE<|bX<|cF<|bD<|bC<|sp hT ?_;refine bW (z':=(((i+1):Nat):Int)) (cH (by omega) (by omega)) ?_;refine sp hT ?_;refine nn ?_;exact bU (i+1) (by omega) ⟨rfl,trivial⟩ ⟨rfl,rfl,rfl,rfl,rfl,trivial⟩ (.cons kT3 (.cons kT3 .nil)) ⟨Has.pure (⟨by omega,lB hinv3.2 (cM hx7) (fun j' k' t q=>by obtain⟨q1,q2,q3,q4,q5,q6⟩:=zE q hL hxt;first | omega | simp_all)⟩),trivial⟩ (bF.drop 11)
  have hg101:=gZ hg101;refine sp2 hT ?_;refine ss (ldO hT (iI .head)) ?_;refine sp2 hT ?_;refine ss (ldO hT (gA kT1)) ?_;refine sp hT ?_;refine bW (z':=((k+1:Nat):Int)) (by rw [hpo];exact cH (by omega) (by omega)) ?_;refine ss (uF hT (j:=(k+1-(dL x6.loops.list x6.buf).length)) (k:=k+1) rfl rfl rfl rfl rfl rfl (by omega) (by omega) (by omega) (by omega)) ?_;refine bH (opE.sl (.slice (kN xt.ops.addr (k+1-(dL x6.loops.list x6.buf).length) 5 xt.ops.cap) (k+1-(k+1-(dL x6.loops.list x6.buf).length)) (xt.ops.cap-(k+1-(dL x6.loops.list x6.buf).length))) ((xt.ops.list.drop (k+1-(dL x6.loops.list x6.buf).length)).take (k+1-(k+1-(dL x6.loops.list x6.buf).length)))) (xU (Has.of mT3) (by omega) (by omega) (by omega)) ?_;refine bH (bN.each ((xt.ops.list.drop (k+1-(dL x6.loops.list x6.buf).length)).take (k+1-(k+1-(dL x6.loops.list x6.buf).length))) opF) (jO (kU (dD (Has.of mT9))) (fun _ h=>mem_cut h)) ?_;refine cR Tryz.func68 (eqOps_spec A13 _ c14 _ _ _ ((xt.ops.list.drop (k+1-(dL x6.loops.list x6.buf).length)).take (k+1-(k+1-(dL x6.loops.list x6.buf).length))) (by rw [List.length_take,List.length_drop];omega) (by omega)) rfl rfl .nil ⟨(Has.of mT8),(Has.of mT9),(Has.of mT1),(Has.of mT0),trivial⟩ fun _=>?_;refine sp3 hT ?_;refine bV (fun hg113=>?_) (fun hg113=>?_)
  ·have hg113:=gV hg113;refine sk4 ?_;refine sp hT ?_;refine nn<|cK rfl rfl ?_;refine cE<|bX<|cF<|bD<|bC<|sp hT ?_;refine bW (z':=(((i+1):Nat):Int)) (cH (by omega) (by omega)) ?_;refine sp hT ?_;refine nn ?_;exact bU (i+1) (by omega) ⟨rfl,trivial⟩ ⟨rfl,rfl,rfl,rfl,rfl,trivial⟩ (.cons kT3 (.cons kT3 .nil)) ⟨Has.pure (⟨by omega,lB hinv3.2 (cM hx7) (fun j' k' t q=>by obtain⟨q1,q2,q3,q4,q5,q6⟩:=zE q hL hxt;first | omega | simp_all)⟩),trivial⟩ (bF.drop 13)
  have hg113:=gZ hg113;refine sp hT ?_;refine ss (ldO hT (iI kT2)) ?_;refine cR Tryz.func70 (total_spec x6.ops.addr x6.ops.cap x6.ops.list (by omega)) rfl rfl .nil ⟨(Has.of mT7),kU (dD (Has.of mT11)),trivial⟩ fun _=>?_;refine sp2 hT ?_;refine nn<|bP rfl (fun hc118=>?_) (fun hc118=>?_)
  ·have hc118:=gV hc118;refine cE<|bX<|cF<|bD<|bC<|sp hT ?_;refine bW (z':=(((i+1):Nat):Int)) (cH (by omega) (by omega)) ?_;refine sp hT ?_;refine nn ?_;exact bU (i+1) (by omega) ⟨rfl,trivial⟩ ⟨rfl,rfl,rfl,rfl,rfl,trivial⟩ (.cons kT3 (.cons kT3 .nil)) ⟨Has.pure (⟨by omega,lB hinv3.2 (cM hx7) (fun j' k' t q=>by obtain⟨q1,q2,q3,q4,q5,q6⟩:=zE q hL hxt;first | omega | simp_all)⟩),trivial⟩ (bF.drop 13)
  have hc118:=gZ hc118;refine bQ<|bD<|bE<|sr<|sp hT ?_;refine ss (ldO hT (gA kT4)) ?_;refine sp2 hT ?_;refine bW (z':=(((i+1):Nat):Int)) (cH (by omega) (by omega)) ?_;refine sp hT ?_;refine ss (ldO hT (dO kT1)) ?_;refine sp hT ?_;refine bW (z':=((j+1:Nat):Int)) (by rw [hps];exact cH (by omega) (by omega)) ?_;refine ss (uF hT (j:=i+1) (k:=j+1) rfl rfl rfl rfl rfl rfl (by omega) (by omega) (by omega) (by omega)) ?_;refine bH (fW.sl (.slice (kN c.steps.addr (i+1) 6 c.steps.cap) (j+1-(i+1)) (c.steps.cap-(i+1))) ((c.steps.list.drop (i+1)).take (j+1-(i+1)))) (xU (Has.of uJ) (by omega) (by omega) (by omega)) ?_;refine sp2 hT ?_;refine nn<|bR<|cG (ι:=Nat) [(1,_),(3,_),(6,_),(7,_),(8,_),(9,_),(11,_),(20,_),(21,_),(22,_),(36,_),(37,_),(38,_),(39,_),(42,_),(43,_),(44,_),(47,_),(48,_),(49,_),(52,_),(53,_),(56,_),(57,_),(58,_),(59,_),(81,_),(82,_),(83,_),(84,_),(85,_),(86,_),(87,_),(88,_),(89,_),(90,_),(91,_),(94,_),(95,_),(96,_),(97,_),(98,_),(99,_),(102,_),(103,_),(104,_),(105,_),(106,_),(107,_),(108,_),(109,_),(110,_),(111,_),(114,_),(115,_),(116,_),(117,_),(126,_),(127,_)] ⟨rfl,rfl,rfl,rfl,rfl,rfl,rfl,rfl,rfl,rfl,rfl,rfl,rfl,rfl,rfl,rfl,rfl,rfl,rfl,rfl,rfl,rfl,rfl,rfl,rfl,rfl,rfl,rfl,rfl,rfl,rfl,rfl,rfl,rfl,rfl,rfl,rfl,rfl,rfl,rfl,rfl,rfl,rfl,rfl,rfl,rfl,rfl,rfl,rfl,rfl,rfl,rfl,rfl,rfl,rfl,rfl,rfl,rfl,rfl,trivial⟩ (fun m=>[(128,.int .i64 (m:Nat))]) (fun _=>[]) (fun m=>[bN.pure (m≤j+1-(i+1)∧ ∀y∈((c.steps.list.drop (i+1)).take (j+1-(i+1))).take m,y.buf.toNat∉sM (dY x6.ops.list))]) (fun m=>j+1-(i+1)-m) 0 ⟨rfl,trivial⟩ .nil ⟨Has.pure (⟨by omega,fun y hy=>by rw [List.take_zero] at hy;cases hy⟩),trivial⟩ ?_;rintro m;refine bT (Has.of mT0) fun hinv12=>?_;refine sr<|sp hT ?_;refine nn<|bE<|bP rfl (fun hc129=>?_) (fun hc129=>?_)
  ·have hc129:=of_decide_eq_true hc129;refine bQ<|bD<|bE<|bR<|sr ?_
   obtain⟨x16,hx17⟩: ∃x',((c.steps.list.drop (i+1)).take (j+1-(i+1)))[m]?=some x':=⟨_,List.getElem?_eq_getElem (by rw [List.length_take,List.length_drop];omega)⟩
   refine ss (bM hT (k:=m) (bB (Has.of mT1)) rfl rfl rfl rfl rfl (by rw [List.length_take,List.length_drop];omega) rfl (by rw [List.length_take,List.length_drop];omega)) ?_;refine ss (cO hT (cB.knows (bB (Has.of mT1)) (k:=m) (x:=x16) hx17 0) rfl rfl rfl rfl rfl) ?_;refine cV rfl rfl rfl rfl rY rfl fun b18=>?_;refine sto hT .head ?_;refine nn<|bE ?_;have hymem:=mem_cut (List.mem_of_getElem? hx17);have hy0:0≤x16.buf:=(hst x16.c (List.mem_map_of_mem hymem)).1;have hk4: ∀o∈x6.ops.list,o.how=4→0≤o.k:=fun o ho h4=>(hop o.c (List.mem_map_of_mem ho) h4).1;refine gG _ _ [(true,0),(true,1),(true,3),(true,4),(false,2),(false,5),(true,6),(true,7),(true,8),(true,9),(true,10)] fK (by decide+kernel) (.cons .head (.cons .head (.cons .head (.cons .head (.cons .head (.cons .head .nil)))))) bF.self ?_;refine puM hT ?_;refine stM rfl (ldO hT (iI kT3)) ?_;refine puM hT ?_;refine stM rfl (ldO hT (dO .head)) ?_;refine fA (o:=_) rfl ?_;refine cR Tryz.func26 (uses_spec x6.ops.addr x6.ops.cap x6.ops.list (by omega)) rfl rfl .nil ⟨(Has.of mT9),trivial⟩ fun⟨UA,uc⟩=>?_;have hul:=usesV_len x6.ops.list;refine dZ (.cons .head (.cons .head (.cons .head (.cons .head (.cons .head (.cons .head .nil)))))) (bF.drop 1) ?_;refine fA (o:=_) rfl ?_;refine cR Tryz.func71 (bsearch_spec UA uc (uS x6.ops.list) x16.buf (usesV_sorted _) (by omega)) rfl rfl .nil ⟨(Has.of mT0),trivial⟩ fun bz=>?_;refine dZ (.cons .head (.cons .head (.cons .head (.cons .head (.cons .head (.cons .head .nil)))))) (bF.drop 1) ?_;refine puM hT ?_;refine puM hT ?_;refine puM hT ?_;refine puM hT ?_;refine puM hT ?_;refine dC<|bD<|sr<|sp hT ?_;refine nn<|bP rfl (fun hc141=>?_) (fun hc141=>?_)
   ·have hym:x16.c∈(c.c.steps.drop (i+1)).take (j-i):=by rw [show j-i=j+1-(i+1) by omega];show _∈((c.steps.list.map cN.c).drop (i+1)).take (j+1-(i+1));rw [←List.map_drop,←List.map_take];exact List.mem_map_of_mem (List.mem_of_getElem? hx17)
    have hyu:x16.c.buf.toNat∈sM (dY x6.ops.list):=(uses_has hy0 hk4).1 ‹_›;refine cE<|x_pass rfl ?_;refine bX<|bX<|x_pass rfl ?_;refine bX<|cF<|bD<|bC<|sp hT ?_;refine bW (z':=(((i+1):Nat):Int)) (cH (by omega) (by omega)) ?_;refine sp hT ?_;refine nn ?_;exact bU (i+1) (by omega) ⟨rfl,trivial⟩ ⟨rfl,rfl,rfl,rfl,rfl,trivial⟩ (.cons kT4 (.cons kT4 .nil)) ⟨Has.pure (⟨by omega,lB hinv3.2 (cM hx7) (fun j' k' t q=>by obtain⟨q1,q2,q3,q4,q5,q6⟩:=zE q hL hxt;exact q6 _ (by exact hym) hyu)⟩),trivial⟩ (bF.drop 16)
   refine bQ<|cA<|bD<|bC<|sp hT ?_;refine bW (z':=(((m+1):Nat):Int)) (cH (by omega) (by omega)) ?_;refine sp hT ?_;refine nn ?_;exact bU (m+1) (by omega) ⟨rfl,trivial⟩ ⟨rfl,rfl,rfl,rfl,rfl,rfl,rfl,rfl,rfl,rfl,rfl,rfl,rfl,rfl,rfl,rfl,rfl,rfl,rfl,rfl,rfl,rfl,rfl,rfl,rfl,rfl,rfl,rfl,rfl,rfl,rfl,rfl,rfl,rfl,rfl,rfl,rfl,rfl,rfl,rfl,rfl,rfl,rfl,rfl,rfl,rfl,rfl,rfl,rfl,rfl,rfl,rfl,rfl,rfl,rfl,rfl,rfl,rfl,rfl,trivial⟩ (.cons kT1 (.cons kT1 (.cons kT1 (.cons kT1 (.cons kT1 .nil))))) ⟨Has.pure (⟨by omega,all_step hinv12.2 hx17 (fun h=>by rw [←uses_has hy0 hk4] at h;simp_all)⟩),trivial⟩ (bF.drop 2)
  have hc129:=Int.not_lt.1 (of_decide_eq_false hc129);refine cE<|bX<|bX<|cF<|bD<|bE<|gG _ _ [(true,0),(true,1),(true,2),(true,3),(false,4),(true,5),(true,6)] fK (by decide+kernel) (.cons .head (.cons .head (.cons .head (.cons kT1 .nil)))) bF.self ?_;refine puM hT ?_;refine stM rfl (ldN hT (dK kT1)) ?_;refine puM hT ?_;refine puM hT ?_;refine fA (o:=_) rfl ?_;refine sto hT kT3 ?_;refine dZ (.cons kT1 (.cons kT1 (.cons kT1 (.cons kT1 .nil)))) (bF.drop 0) ?_;refine puM hT ?_;refine puM hT ?_;refine dC<|bD<|bL<|bS<|bK<|bK<|bS<|bK<|r_scope ?_;have hcs:=canM hx7 hxt hL (by omega) (by omega) hmk hco hij (by omega) (by omega) (by simp_all) (by simp_all) (by simp_all) (fun y hy=>by rw [show j-i=j+1-(i+1) by omega] at hy;obtain⟨z,hz,rfl⟩:=List.mem_map.1 (show y∈((c.steps.list.drop (i+1)).take (j+1-(i+1))).map cN.c by rw [List.map_take,List.map_drop];exact hy);exact hinv12.2 z (by rw [List.take_of_length_le (by rw [List.length_take,List.length_drop];omega)];exact hz));have hry:=next_yes hinv3.2 hcs;subst hry;have hfn:fiN c.c (some (i,j,k))=(dL x6.loops.list x6.buf).length:=by show(match c.c.steps[i]? with | some s=>(ownC s.loops s.buf).length | none=>0)=_;rw [show c.c.steps[i]?=some x6.c from hxc];exact hon.symm
  have hfp:=fiP_eq (i:=i) (p:=x9) (by omega) hps hpo (by omega) (by first | assumption | simp_all);exact wS (A13,c14) rfl (bI rfl) (kY hT (dK .head) rfl rfl rfl rfl) (bI rfl) (bI rfl) .nil trivial (by rw [hfn,hfp];rfl)
 have hc23:=Int.not_lt.1 (of_decide_eq_false hc23);refine cE<|bX<|bX<|cF<|bD<|sr<|ss (dU rfl rfl (qX)) ?_;refine sp hT ?_;refine sto hT .head ?_;refine sp2 hT ?_;refine nn<|bL<|r_scope ?_;have hrn:=next_end hinv3.2 (by omega);subst hrn;exact wS (none,0) rfl (bI rfl) (kY hT (dK .head) rfl rfl rfl rfl) (bI rfl) (bI rfl) .nil trivial rfl
end Go.Proofs.YtofjmphlpdhohaaGreatDoor
namespace Go.Proofs.YtofjmphlpdhohaaGreatDoor
open Go.RowKit
def nxV (c:fL):Option (Nat×Nat×Nat):=if dV c=true then jG c else none
def nxJ:Option (Nat×Nat×Nat)→Nat
 | some q=>q.2.1
 | none=>0
def nxK:Option (Nat×Nat×Nat)→Nat
 | some q=>q.2.2
 | none=>0
end Go.Proofs.YtofjmphlpdhohaaGreatDoor
