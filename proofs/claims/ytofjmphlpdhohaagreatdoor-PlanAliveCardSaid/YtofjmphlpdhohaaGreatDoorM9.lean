/- Texts of one proof, one behind the other: CoZ, ShelfK, SortK, PlanA, CopyE. -/
import Derived.Test.YtofjmphlpdhohaaGreatDoorM8
import Derived.Shelf.LaysM
import Derived.Shelf.LaysC
import Derived.Ground.Names2Prog
import Derived.Ground.SlgnProg
import Derived.Test.YtofjmphlpdhohaaGreatDoorProg
import Derived.Shelf.Slices.CompactI
import Derived.Shelf.Slices.In.SortNone
import Derived.Shelf.Sort.Plain
import Derived.Test.YtofjmphlpdhohaaGreatDoorM7
import Derived.Test.YtofjmphlpdhohaaGreatDoorM4
import Derived.Laws.IdiomCopy
namespace Go.Proofs.YtofjmphlpdhohaaGreatDoor
open Go.RowKit
theorem sM: ∃i:TypeInfo,Tryz.prog.info? 4=some i∧i.zero=some (.bool false)∧i.size=1∧i.bytes=1:=by
 have h:(Tryz.prog.info? 4).map (fun i=>(i.zero,i.size,i.bytes))=some (some (.bool false),1,1):=by kernel_rfl
 cases hi:Tryz.prog.info? 4 with
 | none=>simp [hi] at h
 | some i=>simp [hi] at h;exact⟨i,rfl,h.1,h.2.1,h.2.2⟩
theorem kH{β:fO}{n:Nat}{Γ:Env}{H:List bD}{F:List bF}{Q:Exit→Act→World→Prop}{ops:Array Oper}{rest:List Oper}{o:Oper}{d:Nat}{x:Operand}{m:Bool}(hw:want ops Γ o=some true)(ho:o.op= .buildSlice 51 1 #[(0,x)])(hd:o.dst=some d)(hn:Nat.blt d n=true)
  (hx:Γ.ev x=some (.bool m)) (k: ∀b,At β n ((d,.slice (some ⟨b,0,none⟩) 1 1)::Γ) (.obj b (.cells (gM.all [m]).toArray 4)::H) F (wpList Tryz.prog ops Q rest)):At β n Γ H F (wpList Tryz.prog ops Q (o::rest)):=by
 obtain⟨i,hi,hz,hs,_⟩:=sM;refine qC hw ho hd hn hx Tryz.underlying51 hi hz (by omega) (by omega) ?_ k;rw [hs]
 kernel_rfl
theorem kI{β:fO}{n:Nat}{Γ:Env}{H:List bD}{F:List bF}{Q:Exit→Act→World→Prop}{ops:Array Oper}{rest:List Oper}{o:Oper}{d:Nat}{x y:Operand}{c q:Nat}{v:Value}{A:Option Addr}{xs ys:List Bool}{H':List bD}(hH:cW H (gM.row v 4 xs) H')(hr:cF β H F gM A ys)(hg:o.guard=none)
  (ho:o.op= .call {callee:= .builtin .append,args:= #[x,y],argTypes:= #[51,51]}) (hd:o.dst=some d) (hn:Nat.blt d n=true)
  (hx:Γ.ev x=some v) (hy:Γ.ev y=some (.slice A q c)) (hq:q=ys.length) (hl:xs.length+ys.length≤140737488355328)
  (k: ∀A' cap',At β n ((d,.slice A' (xs++ys).length cap')::Γ) (gM.row (.slice A' (xs++ys).length cap') 4 (xs++ys)::H') F (wpList Tryz.prog ops Q rest)):At β n Γ H F (wpList Tryz.prog ops Q (o::rest)):=by
 obtain⟨i,hi,hz,hs,hb⟩:=sM;exact nZ hH hr hg ho hd hn Tryz.underlying51 hi hz hs hb rfl hx hy hq (by omega) (by decide) k
theorem intInfo: ∃i:TypeInfo,Tryz.prog.info? 3=some i∧i.zero=some (.int .i64 0)∧i.size=1∧i.bytes=8:=by
 have h:(Tryz.prog.info? 3).map (fun i=>(i.zero,i.size,i.bytes))=some (some (.int .i64 0),1,8):=by kernel_rfl
 cases hi:Tryz.prog.info? 3 with
 | none=>simp [hi] at h
 | some i=>simp [hi] at h;exact⟨i,rfl,h.1,h.2.1,h.2.2⟩
theorem at_one_int{β:fO}{n:Nat}{Γ:Env}{H:List bD}{F:List bF}{Q:Exit→Act→World→Prop}{ops:Array Oper}{rest:List Oper}{o:Oper}{d:Nat}{x:Operand}{m:Int}(hw:want ops Γ o=some true)(ho:o.op= .buildSlice 24 1 #[(0,x)])(hd:o.dst=some d)(hn:Nat.blt d n=true)
  (hx:Γ.ev x=some (.int .i64 m)) (k: ∀b,At β n ((d,.slice (some ⟨b,0,none⟩) 1 1)::Γ) (.obj b (.cells (iC.all [m]).toArray 3)::H) F (wpList Tryz.prog ops Q rest)):At β n Γ H F (wpList Tryz.prog ops Q (o::rest)):=by
 obtain⟨i,hi,hz,hs,_⟩:=intInfo;refine qC hw ho hd hn hx Tryz.underlying24 hi hz (by omega) (by omega) ?_ k;rw [hs]
 kernel_rfl
theorem at_app_int{β:fO}{n:Nat}{Γ:Env}{H:List bD}{F:List bF}{Q:Exit→Act→World→Prop}{ops:Array Oper}{rest:List Oper}{o:Oper}{d:Nat}{x y:Operand}{c q:Nat}{v:Value}{A:Option Addr}{xs ys:List Int}{H':List bD}(hH:cW H (iC.row v 3 xs) H')(hr:cF β H F iC A ys)(hg:o.guard=none)
  (ho:o.op= .call {callee:= .builtin .append,args:= #[x,y],argTypes:= #[24,24]}) (hd:o.dst=some d) (hn:Nat.blt d n=true)
  (hx:Γ.ev x=some v) (hy:Γ.ev y=some (.slice A q c)) (hq:q=ys.length) (hl:xs.length+ys.length≤17592186044416)
  (k: ∀A' cap',At β n ((d,.slice A' (xs++ys).length cap')::Γ) (iC.row (.slice A' (xs++ys).length cap') 3 (xs++ys)::H') F (wpList Tryz.prog ops Q rest)):At β n Γ H F (wpList Tryz.prog ops Q (o::rest)):=by
 obtain⟨i,hi,hz,hs,hb⟩:=intInfo;exact nZ hH hr hg ho hd hn Tryz.underlying24 hi hz hs hb rfl hx hy hq (by omega) (by decide) k
theorem arr64_zero:(Tryz.prog.info? 112).bind (·.zero)=some (.agg (gM.all (List.replicate 64 false)).toArray):=by kernel_rfl
theorem step_specM{m:Nat}{made:List Bool}(hm:made.length=m)(bs:Nat)(vars loops buf:Int)(MA:Option Addr)(mc:Nat)(x:fF):fB Tryz.prog 53 [.pointer (some ⟨bs,0,none⟩),.agg #[.int .i64 x.how,.int .i64 x.buf,.slice x.at_.addr x.at_.list.length x.at_.cap,.slice x.loops.addr x.loops.list.length x.loops.cap,.int .u8 x.fn,.slice x.ops.addr x.ops.list.length x.ops.cap]]
  [.obj bs (.cells [.int .i64 vars,.int .i64 loops,.int .i64 buf,.slice MA m mc].toArray 115)] [nC x,gM.sl (.slice MA m mc) made] (fun _:Int×Int=> .bool (kG vars made x.c)) (fun y=>[.obj bs (.cells [.int .i64 vars,.int .i64 y.1,.int .i64 y.2,.slice MA m mc].toArray 115)]) (fun _=>[]):=by
 subst hm;exact step_spec bs vars loops buf MA mc made x
def outB (n:Nat)(k:Int):Bool:=decide (k<0) || decide ((n:Int)≤k)
def restB (c:lG):Bool:=iX c.vars c.bufs c.steps (kF c.bufs)&&c.outs.all fun k=>decide (0≤k∧k<c.bufs.length)
theorem lD(l:List nE):(kF l).length=l.length:=List.length_map _
def lT (c:lG)(i:Nat)(inp made:List Bool)(r:Bool):Prop:=inp.length=64∧made=(kF c.bufs).take i∧ ∃seen:List Int,(∀z∈seen,0≤z)∧(∀k:Nat,k<64→inp[k]?=some (seen.contains (k:Int)))∧r=(qA c.vars (c.bufs.drop i) seen&&restB c)
def nQ (c:lG)(i:Nat)(made:List Bool)(r:Bool):Prop:=made.length=c.bufs.length∧r=(iX c.vars c.bufs (c.steps.drop i) made&&c.outs.all fun k=>decide (0≤k∧k<c.bufs.length))
section
variable {c : iG} {r : Bool}
theorem right_sizes(h:dV c.c=r)(h1:0≤c.vars)(h2:c.vars≤6)(h3:(c.bufs.list.length:Int)≤1024)(h4:(c.steps.list.length:Int)≤1024)(h5:(c.outs.list.length:Int)≤64):r=(qA c.c.vars c.c.bufs []&&restB c.c):=by
 rw [←h];unfold dV;rw [decide_eq_true (show 0≤c.c.vars∧c.c.vars≤6∧c.c.bufs.length≤1024∧c.c.steps.length≤1024∧c.c.outs.length≤64 from ⟨h1,h2,by show(mG c.bufs.list).length≤1024;rw [cC];omega,by show(oK c.steps.list).length≤1024;rw [fS];omega,by show c.outs.list.length≤64;omega⟩),Bool.true_and];rfl
theorem jM(h:dV c.c=r)(h1: ¬(0≤c.vars∧c.vars≤6∧(c.bufs.list.length:Int)≤1024∧(c.steps.list.length:Int)≤1024∧(c.outs.list.length:Int)≤64)):r=false:=by
 rw [←h];unfold dV;rw [decide_eq_false (show ¬(0≤c.c.vars∧c.c.vars≤6∧c.c.bufs.length≤1024∧c.c.steps.length≤1024∧c.c.outs.length≤64) from fun⟨a,b,d,e,f⟩=>h1 ⟨a,b,by have d:(mG c.bufs.list).length≤1024:=d;rw [cC] at d;omega,by have e:(oK c.steps.list).length≤1024:=e;rw [fS] at e;omega,by have f:c.outs.list.length≤64:=f;omega⟩),Bool.false_and]
end
section
variable {c : lG} {i : Nat} {inp made : List Bool} {r : Bool} {u : nE}
theorem bufs_start(h:r=(qA c.vars c.bufs []&&restB c)):lT c 0 (List.replicate 64 false) [] r:=by
 refine⟨rfl,rfl,[],?_,?_,h⟩
 ·intro z hz;cases hz
 ·intro k hk;rw [List.getElem?_replicate,if_pos hk];rfl
theorem bufs_len(h:lT c i inp made r)(hi:i≤c.bufs.length):made.length=i:=by
 rw [h.2.1,List.length_take,lD];omega
theorem pZ(h:lT c i inp made r)(hu:c.bufs[i]?=some u)(k:iD u.sides c.vars=false∨u.input< -1∨64≤u.input∨0≤u.input∧inp[u.input.toNat]?=some true):r=false:=by
 obtain⟨h1,_,seen,h2,h3,h4⟩:=h;rw [kD hu,qA] at h4;rw [h4]
 rcases k with k | k | k | ⟨k,e⟩
 ·rw [k];rfl
 ·rw [decide_eq_false (show ¬(-1≤u.input∧u.input<64) from fun h=>by omega)];simp
 ·rw [decide_eq_false (show ¬(-1≤u.input∧u.input<64) from fun h=>by omega)];simp
 ·have hlt:=(List.getElem?_eq_some_iff.1 e).1;rw [h3 _ (by omega)] at e
  have e2:seen.contains u.input=true:=by
   have:((u.input.toNat:Nat):Int)=u.input:=by omega
   rw [←this];exact Option.some.inj e
  rw [e2];simp
theorem vA(h:made=(kF c.bufs).take i)(hu:c.bufs[i]?=some u):made++[decide (0≤u.input)]=(kF c.bufs).take (i+1):=by
 have hm:(kF c.bufs)[i]?=some (decide (0≤u.input)):=by
  unfold kF;rw [List.getElem?_map,hu];rfl
 obtain⟨hi,e⟩:=List.getElem?_eq_some_iff.1 hm;rw [List.take_succ_eq_append_getElem hi,e,h]
theorem bufs_in(h:lT c i inp made r)(hu:c.bufs[i]?=some u)(hg:iD u.sides c.vars=true)(h1: -1≤u.input)(h2:u.input<64)(h3:0≤u.input)(he:inp[u.input.toNat]?=some false):lT c (i+1) (inp.set u.input.toNat true) (made++[decide (0≤u.input)]) r:=by
 obtain⟨k1,k2,seen,k3,k4,k5⟩:=h;refine⟨by simpa using k1,vA k2 hu,u.input::seen,fun z hz=>?_,fun k hk=>?_,?_⟩
 ·rcases List.mem_cons.1 hz with rfl | hz
  ·exact h3
  ·exact k3 z hz
 ·rw [List.getElem?_set,List.contains_cons]
  by_cases e:u.input.toNat=k
  ·rw [if_pos e,if_pos (by omega)];have:((k:Nat):Int)=u.input:=by omega
   rw [this];simp
  ·rw [if_neg e,k4 k hk];have:((k:Int)==u.input)=false:=beq_eq_false_iff_ne.2 (by omega);rw [this];rfl
 ·rw [kD hu,qA,hg,decide_eq_true ⟨h1,h2⟩,if_pos h3] at k5
  have e2:seen.contains u.input=false:=by
   rw [k4 _ (by omega)] at he;have:((u.input.toNat:Nat):Int)=u.input:=by omega
   rw [←this];exact Option.some.inj he
  rw [e2] at k5
  simpa using k5
theorem bufs_no(h:lT c i inp made r)(hu:c.bufs[i]?=some u)(hg:iD u.sides c.vars=true)(h1: -1≤u.input)(h3:u.input<0):lT c (i+1) inp (made++[decide (0≤u.input)]) r:=by
 obtain⟨k1,k2,seen,k3,k4,k5⟩:=h;refine⟨k1,vA k2 hu,seen,k3,k4,?_⟩;rw [kD hu,qA,hg,decide_eq_true (show-1≤u.input∧u.input<64 from ⟨h1,by omega⟩),if_neg (by omega)] at k5
 have e2:seen.contains u.input=false:=by
  rw [List.contains_eq_mem];exact decide_eq_false fun h=>by have:=k3 _ h;omega
 rw [e2] at k5
 simpa using k5
theorem bufs_end(h:lT c i inp made r)(hi:c.bufs.length≤i):made=kF c.bufs∧r=restB c:=by
 obtain⟨_,k2,seen,_,_,k5⟩:=h;rw [List.drop_of_length_le hi] at k5;refine⟨by rw [k2,List.take_of_length_le (by rw [lD];exact hi)],by rw [k5];rfl⟩
theorem steps_start(hm:made=kF c.bufs)(h:r=restB c):nQ c 0 made r:=⟨by rw [hm,lD],by rw [h,hm];rfl⟩
theorem nK{x:fX}(h:nQ c i made r)(hx:c.steps[i]?=some x)(k:x.buf<0∨(c.bufs.length:Int)≤x.buf∨(∃u,c.bufs[x.buf.toNat]?=some u∧0≤u.input)∨kG c.vars made x=false):r=false:=by
 obtain⟨_,h2⟩:=h;rw [kD hx,iX] at h2;rw [h2]
 rcases k with k | k | ⟨u,e,k⟩ | k
 ·rw [decide_eq_false (show ¬0≤x.buf by omega)];rfl
 ·rw [List.getElem?_eq_none (show c.bufs.length≤x.buf.toNat by omega)];simp
 ·rw [e];simp only;rw [decide_eq_false (show ¬u.input<0 by omega)];simp
 ·rw [k];simp
theorem steps_ok{x:fX}{u:nE}(h:nQ c i made r)(hx:c.steps[i]?=some x)(h0:0≤x.buf)(hu:c.bufs[x.buf.toNat]?=some u)(h1:u.input<0)(k:kG c.vars made x=true):nQ c (i+1) (made.set x.buf.toNat true) r:=by
 obtain⟨h2,h3⟩:=h;refine⟨by simpa using h2,?_⟩;rw [kD hx,iX,hu,decide_eq_true h0] at h3;simp only at h3;rw [decide_eq_true h1,k] at h3
 simpa using h3
theorem steps_end(h:nQ c i made r)(hi:c.steps.length≤i):r=c.outs.all fun k=>decide (0≤k∧k<c.bufs.length):=by
 obtain⟨_,h3⟩:=h;rw [List.drop_of_length_le hi] at h3;rw [h3];rfl
end
theorem outs_all{n m:Nat}{l:List Int}(h:n=m):(!l.any (outB m))=l.all fun k=>decide (0≤k∧k<(n:Int)):=by
 subst h
 have e:outB n=fun k=>!decide (0≤k∧k<(n:Int)):=by
  funext k
  unfold outB;rw [Bool.eq_iff_iff];simp
 rw [e,any_not]
theorem jB(z0:Int):Tryz.prog.built 115 [(0,.int .i64 z0)]=some #[.int .i64 z0,.int .i64 0,.int .i64 0,.slice none 0 0]:=by kernel_rfl
theorem mK:(Tryz.prog.info? 47).bind (·.zero)=some (.agg #[.slice none 0 0,.int .i64 0]):=by kernel_rfl
theorem lX:(Tryz.prog.info? 40).bind (·.zero)=some (.agg #[.int .i64 0,.int .i64 0,.slice none 0 0,.slice none 0 0,.int .u8 0,.slice none 0 0]):=by kernel_rfl
set_option maxRecDepth 100000 in
theorem indexFI_spec(A:Option Addr)(c:Nat)(l:List Int)(hl:l.length≤140737488355328)(f:FuncId)(cap:List Value)(G:List bF)(p:Int→Bool)(hcf: ∀(args:Array Value) (w:World),(callFunc f args).run Tryz.prog w= .ok (.enter f args) w)(hf: ∀k:Int,fB Tryz.prog f (.int .i64 k::cap) [] G (fun _:Unit=> .bool (p k)) (fun _=>[]) (fun _=>[])):fB Tryz.prog 114 [.slice A l.length c,.func (.func f) #[] cap.toArray] [] (iC.sl (.slice A l.length c) l::G) (fun(_:Unit)=> .int .i64 (qH p l 0)) (fun _=>[]) (fun _=>[]):=by
 have hT:=cL;generalize hR:qH p l 0=r;refine cU Tryz.func114 rfl Tryz.ntmps114 rfl ?_;intro β hM;refine sr<|sp hT ?_;refine nn<|bM<|sr<|sp3 hT ?_;refine nn<|bW<|cV (ι:=Nat) [(0,_),(1,_),(7,_)] ⟨rfl,rfl,rfl,trivial⟩ (fun i=>[(8,.int .i64 (i:Nat))]) (fun _=>[]) (fun i=>[bF.pure (i≤l.length∧r=qH p (l.drop i) i)]) (fun i=>l.length-i) 0 ⟨rfl,trivial⟩ .nil ⟨Has.pure (⟨by omega,hR.symm⟩),trivial⟩ ?_;rintro i;refine cQ (Has.of mT0) fun hinv2=>?_;refine sr<|sp hT ?_;refine nn<|bM<|bQ rfl (fun hc9=>?_) (fun hc9=>?_)
 ·have hc9:=of_decide_eq_true hc9;refine bR<|bH<|bM<|bW<|sr<|sp2 hT ?_;refine nn<|sr<|sp3 hT ?_
  obtain⟨x1,hx2⟩: ∃x',l[i]?=some x':=⟨_,List.getElem?_eq_getElem (by omega)⟩
  refine ss (bT hT (k:=i) (bI (Has.of mT1)) rfl rfl rfl rfl rfl rfl rfl (by omega)) ?_;refine ss (cA hT (cF.knows (bI (Has.of mT1)) (k:=i) (x:=x1) hx2 0) rfl rfl rfl rfl rfl) ?_;refine at_callv hcf (hf x1) rfl rfl rfl rfl rfl rfl rfl .nil (bG.drop 2) fun _=>?_;refine nn<|bQ rfl (fun hc16=>?_) (fun hc16=>?_)
  ·refine sr<|sp2 hT ?_;refine nn<|bK<|bV<|bO<|bO<|bV<|bO ?_;have hr:=(nO hinv2.2 hx2).1 ‹_›;subst hr;exact bC () rfl (bJ rfl) .nil trivial rfl
  refine bR<|bZ<|bH<|bL<|sp hT ?_;refine cJ (z':=(((i+1):Nat):Int)) (fN (by omega) (by omega)) ?_;refine sp hT ?_;refine nn ?_;exact cD (i+1) (by omega) ⟨rfl,trivial⟩ ⟨rfl,rfl,rfl,trivial⟩ .nil ⟨Has.pure (⟨by omega,(nO hinv2.2 hx2).2 ‹_›⟩),trivial⟩ (bG.drop 1)
 have hc9:=Int.not_lt.1 (of_decide_eq_false hc9);refine dL<|cE<|cE<|dM<|bH<|sr<|sp hT ?_;refine nn<|bK ?_;have hr:=idxG_end hinv2.2 (by omega);subst hr;exact bC () rfl (bJ rfl) .nil trivial rfl
set_option maxRecDepth 100000 in
theorem rQ(A:Option Addr)(c:Nat)(l:List Int)(hl:l.length≤140737488355328)(f:FuncId)(cap:List Value)(G:List bF)(p:Int→Bool)(hcf: ∀(args:Array Value) (w:World),(callFunc f args).run Tryz.prog w= .ok (.enter f args) w)(hf: ∀k:Int,fB Tryz.prog f (.int .i64 k::cap) [] G (fun _:Unit=> .bool (p k)) (fun _=>[]) (fun _=>[])):fB Tryz.prog 54 [.slice A l.length c,.func (.func f) #[] cap.toArray] [] (iC.sl (.slice A l.length c) l::G) (fun(_:Unit)=> .bool (l.any p)) (fun _=>[]) (fun _=>[]):=by
 have hT:=cL;refine cU Tryz.func54 rfl Tryz.ntmps54 rfl ?_;intro β hM;refine sr<|sp hT ?_;refine nn<|sr<|sp2 hT ?_;refine dI Tryz.func114 (indexFI_spec A c l hl f cap G p hcf hf) rfl rfl .nil bG.self fun _=>?_;refine sp2 hT ?_;refine nn<|bK ?_;exact bC () rfl (bJ rfl) .nil trivial (congrArg Value.bool (tX p l 0 (by decide)))
set_option maxRecDepth 100000 in
theorem right1_spec(b:Nat)(c:iG)(k:Int):fB Tryz.prog 55 [.int .i64 k,.pointer (some ⟨b,0,none⟩)] [] [bF.cells b 0 [.int .i64 c.vars,.slice c.bufs.addr c.bufs.list.length c.bufs.cap,.slice c.steps.addr c.steps.list.length c.steps.cap,.slice c.outs.addr c.outs.list.length c.outs.cap]] (fun(_:Unit)=> .bool (outB c.bufs.list.length k)) (fun _=>[]) (fun _=>[]):=by
 have hT:=cL;refine cU Tryz.func55 rfl Tryz.ntmps55 rfl ?_;intro β hM;refine sr<|sp hT ?_;refine nn<|sr<|sp3 hT ?_;refine bX (fun hg6=>?_) (fun hg6=>?_)
 ·have hg6:=of_decide_eq_true hg6;refine sk4 ?_;refine sk ?_;refine sp2 hT ?_;refine nn<|bK ?_;exact bC () rfl (bJ rfl) .nil trivial (by first | (unfold outB;simp [*];done) | (unfold outB;simp [*];omega))
 have hg6:=Int.not_lt.1 (of_decide_eq_false hg6);refine sp2 hT ?_;refine ss (cA hT (dH (off:=1) (Has.of mT0)) rfl rfl rfl rfl rfl) ?_;refine sp4 hT ?_;refine nn<|bK ?_;exact bC () rfl (bJ rfl) .nil trivial (by first | (unfold outB;simp [*];done) | (unfold outB;simp [*];omega))
set_option maxRecDepth 100000 in
theorem sD(c:iG):fB Tryz.prog 25 [.agg #[.int .i64 c.vars,.slice c.bufs.addr c.bufs.list.length c.bufs.cap,.slice c.steps.addr c.steps.list.length c.steps.cap,.slice c.outs.addr c.outs.list.length c.outs.cap]] [] [mH c] (fun(_:Unit)=> .bool (dV c.c)) (fun _=>[]) (fun _=>[]):=by
 have hT:=cL;generalize hR:dV c.c=r;refine cU Tryz.func25 rfl Tryz.ntmps25 rfl ?_;intro β hM;refine sr<|jO rfl rfl rfl rfl rfl rfl fun b1=>?_;refine sp hT ?_;refine nn<|bM<|sr<|sp hT ?_;refine ss (ldO hT (hE .head)) ?_;refine sp2 hT ?_;refine bX (fun hg12=>?_) (fun hg12=>?_)
 ·have hg12:=of_decide_eq_true hg12;refine sk3 ?_;refine sp2 hT ?_;refine sk4 ?_;refine sp2 hT ?_;refine sk4 ?_;refine sp2 hT ?_;refine sk4 ?_;refine sp hT ?_;refine nn<|cO rfl rfl ?_;refine sr<|sp hT ?_;refine nn<|bK<|bO ?_;have hr:=jM hR (by omega);subst hr;exact bC () rfl (bJ rfl) .nil trivial rfl
 have hg12:=Int.not_lt.1 (of_decide_eq_false hg12);refine sp hT ?_;refine ss (ldO hT (hE .head)) ?_;refine sp3 hT ?_;refine bX (fun hg17=>?_) (fun hg17=>?_)
 ·have hg17:=of_decide_eq_true hg17;refine sk4 ?_;refine sp2 hT ?_;refine sk4 ?_;refine sp2 hT ?_;refine sk4 ?_;refine sp hT ?_;refine nn<|cO rfl rfl ?_;refine sr<|sp hT ?_;refine nn<|bK<|bO ?_;have hr:=jM hR (by omega);subst hr;exact bC () rfl (bJ rfl) .nil trivial rfl
 have hg17:=Int.not_lt.1 (of_decide_eq_false hg17);refine sp hT ?_;refine ss (ldO hT (fH .head)) ?_;refine sp4 hT ?_;refine bX (fun hg23=>?_) (fun hg23=>?_)
 ·have hg23:=of_decide_eq_true hg23;refine sk4 ?_;refine sp2 hT ?_;refine sk4 ?_;refine sp hT ?_;refine nn<|cO rfl rfl ?_;refine sr<|sp hT ?_;refine nn<|bK<|bO ?_;have hr:=jM hR (by omega);subst hr;exact bC () rfl (bJ rfl) .nil trivial rfl
 have hg23:=Int.not_lt.1 (of_decide_eq_false hg23);refine sp hT ?_;refine ss (ldO hT (sC .head)) ?_;refine sp4 hT ?_;refine bX (fun hg29=>?_) (fun hg29=>?_)
 ·have hg29:=of_decide_eq_true hg29;refine sk4 ?_;refine sp hT ?_;refine nn<|cO rfl rfl ?_;refine sr<|sp hT ?_;refine nn<|bK<|bO ?_;have hr:=jM hR (by omega);subst hr;exact bC () rfl (bJ rfl) .nil trivial rfl
 have hg29:=Int.not_lt.1 (of_decide_eq_false hg29);refine sp hT ?_;refine ss (ldO hT (mJ .head)) ?_;refine sp3 hT ?_;refine nn<|bQ rfl (fun hc34=>?_) (fun hc34=>?_)
 ·have hc34:=of_decide_eq_true hc34;refine sr<|sp hT ?_;refine nn<|bK<|bO ?_;have hr:=jM hR (by omega);subst hr;exact bC () rfl (bJ rfl) .nil trivial rfl
 have hc34:=Int.not_lt.1 (of_decide_eq_false hc34);refine bR<|bH<|bM ?_;have hr0:=right_sizes hR (by omega) (by omega) (by omega) (by omega) (by omega);refine bL<|jQ rfl rfl rfl rfl arr64_zero rfl fun b2=>?_;refine rE (E:=gM) (xs:=List.replicate 64 false) .head ?_;refine nn<|sr<|sp hT ?_;refine ss (ldO hT (hE kT1)) ?_;refine ss (sti_build rfl rfl (jB _)) ?_;refine jO rfl rfl rfl rfl rfl rfl fun b3=>?_;refine sp hT ?_;refine nn<|bM<|sr<|sp hT ?_;refine ss (ldO hT (fH kT2)) ?_;refine sp2 hT ?_;refine nn<|bW<|oO (t:=4) gM ?_;refine cV (ι:=Nat×List Bool×List Bool×Option Addr×Nat) [(1,_),(3,_),(4,_),(40,_),(41,_)] ⟨rfl,rfl,rfl,rfl,rfl,trivial⟩ (fun⟨i,inp,made,MA,mc⟩=>[(42,.int .i64 (i:Nat))]) (fun⟨i,inp,made,MA,mc⟩=>[gM.held (.slice (some ⟨b2,0,none⟩) 64 64) inp,.obj b3 (.cells [.int .i64 c.vars,.int .i64 0,.int .i64 0,.slice MA made.length mc].toArray 115),gM.row (.slice MA made.length mc) 4 made]) (fun⟨i,inp,made,MA,mc⟩=>[bF.pure (i≤c.bufs.list.length∧lT c.c i inp made r)]) (fun⟨i,inp,made,MA,mc⟩=>c.bufs.list.length-i) (0,List.replicate 64 false,[],none,0) ⟨rfl,trivial⟩ (.cons kT2 (.cons kT1 (.cons .head .nil))) ⟨Has.pure (⟨by omega,bufs_start hr0⟩),trivial⟩ ?_;rintro⟨i,inp,made,MA,mc⟩;dsimp only;refine cQ (Has.of mT0) fun hinv6=>?_;have hil:inp.length=64:=hinv6.2.1;have hml:=bufs_len hinv6.2 (by show i≤(mG c.bufs.list).length;rw [cC];omega);refine sr<|sp hT ?_;refine nn<|bM<|bQ rfl (fun hc43=>?_) (fun hc43=>?_)
 ·have hc43:=of_decide_eq_true hc43;refine bR<|bH<|bM<|bW<|sr<|cR (bufE.sl (.slice c.bufs.addr c.bufs.list.length c.bufs.cap) c.bufs.list) (bufsF_s (rS (Has.of mT1))) ?_
  obtain⟨x4,hx5⟩: ∃x',c.bufs.list[i]?=some x':=⟨_,List.getElem?_eq_getElem (by omega)⟩
  refine ss (bT hT (k:=i) (bI (Has.of mT0)) rfl rfl rfl rfl rfl rfl rfl (by omega)) ?_;refine ss (gG hT (cF.knows (bI (Has.of mT0)) (k:=i) (x:=x4) hx5 0) rfl rfl rfl rfl rfl) ?_;refine jQ rfl rfl rfl rfl mK rfl fun b6=>?_;refine sto hT .head ?_;refine nn<|bM<|bM<|cR (bufF x4) (Has.each (bufsF_e (rS (Has.of mT2))) (List.mem_of_getElem? hx5)) ?_;refine bL<|sp hT ?_;refine ss (ldO hT (hE .head)) ?_;refine sp hT ?_;refine ss (ldO hT (hE kT4)) ?_;refine dI Tryz.func52 (wB x4.sides c.vars) rfl rfl .nil ⟨(Has.of mT0),trivial⟩ fun _=>?_;refine sp2 hT ?_;refine bX (fun hg52=>?_) (fun hg52=>?_)
  ·have hg52:=mU hg52;refine sk3 ?_;refine sp2 hT ?_;refine sk3 ?_;refine sp2 hT ?_;refine sk4 ?_;refine sk4 ?_;refine sk ?_;refine sp hT ?_;refine nn<|cO rfl rfl ?_;refine sr<|sp hT ?_;refine nn<|bK<|bO<|bV<|bO<|bO<|bV<|bO ?_;have hr:=pZ hinv6.2 (dE hx5) (by first | exact .inl (show iD (gY (iJ.sides _).list) c.vars=false by assumption) | exact .inr (.inl (by show x4.input< -1;omega)) | exact .inr (.inr (.inl (by show 64≤x4.input;omega))) | exact .inr (.inr (.inr ⟨by show 0≤x4.input;omega,by subst_vars;assumption⟩)));subst hr;exact bC () rfl (bJ rfl) .nil trivial rfl
  have hg52:=mM hg52;refine sp hT ?_;refine ss (ldO hT (fH .head)) ?_;refine sp3 hT ?_;refine bX (fun hg57=>?_) (fun hg57=>?_)
  ·have hg57:=of_decide_eq_true hg57;refine sk3 ?_;refine sp2 hT ?_;refine sk4 ?_;refine sk4 ?_;refine sk ?_;refine sp hT ?_;refine nn<|cO rfl rfl ?_;refine sr<|sp hT ?_;refine nn<|bK<|bO<|bV<|bO<|bO<|bV<|bO ?_;have hr:=pZ hinv6.2 (dE hx5) (by first | exact .inl (show iD (gY (iJ.sides _).list) c.vars=false by assumption) | exact .inr (.inl (by show x4.input< -1;omega)) | exact .inr (.inr (.inl (by show 64≤x4.input;omega))) | exact .inr (.inr (.inr ⟨by show 0≤x4.input;omega,by subst_vars;assumption⟩)));subst hr;exact bC () rfl (bJ rfl) .nil trivial rfl
  have hg57:=Int.not_lt.1 (of_decide_eq_false hg57);refine sp hT ?_;refine ss (ldO hT (fH .head)) ?_;refine sp3 hT ?_;refine bX (fun hg62=>?_) (fun hg62=>?_)
  ·have hg62:=of_decide_eq_true hg62;refine sk4 ?_;refine sk4 ?_;refine sk ?_;refine sp hT ?_;refine nn<|cO rfl rfl ?_;refine sr<|sp hT ?_;refine nn<|bK<|bO<|bV<|bO<|bO<|bV<|bO ?_;have hr:=pZ hinv6.2 (dE hx5) (by first | exact .inl (show iD (gY (iJ.sides _).list) c.vars=false by assumption) | exact .inr (.inl (by show x4.input< -1;omega)) | exact .inr (.inr (.inl (by show 64≤x4.input;omega))) | exact .inr (.inr (.inr ⟨by show 0≤x4.input;omega,by subst_vars;assumption⟩)));subst hr;exact bC () rfl (bJ rfl) .nil trivial rfl
  have hg62:=Int.not_le.1 (of_decide_eq_false hg62);refine sp hT ?_;refine ss (ldO hT (fH .head)) ?_;refine sp2 hT ?_;refine bX (fun hg66=>?_) (fun hg66=>?_)
  ·have hg66:=of_decide_eq_true hg66;refine sp hT ?_;refine ss (ldO hT (fH .head)) ?_
   obtain⟨x7,hx8⟩: ∃x',inp[x4.input.toNat]?=some x':=⟨_,List.getElem?_eq_getElem (by omega)⟩
   refine ss (kT hT (k:=x4.input.toNat) rfl rfl rfl rfl rfl (by omega) (by omega)) ?_;refine ss (cA hT (cF.knows (reads_held kT1) (k:=x4.input.toNat) (x:=x7) hx8 0) rfl rfl rfl rfl rfl) ?_;refine sp2 hT ?_;refine nn<|bQ rfl (fun hc72=>?_) (fun hc72=>?_)
   ·refine sr<|sp hT ?_;refine nn<|bK<|bO<|bV<|bO<|bO<|bV<|bO ?_;have hr:=pZ hinv6.2 (dE hx5) (by first | exact .inl (show iD (gY (iJ.sides _).list) c.vars=false by assumption) | exact .inr (.inl (by show x4.input< -1;omega)) | exact .inr (.inr (.inl (by show 64≤x4.input;omega))) | exact .inr (.inr (.inr ⟨by show 0≤x4.input;omega,by subst_vars;assumption⟩)));subst hr;exact bC () rfl (bJ rfl) .nil trivial rfl
   refine bR<|bH<|bM<|sr<|sp hT ?_;refine ss (ldO hT (fH .head)) ?_;refine sp hT ?_;refine nn<|bQ rfl (fun hc75=>?_) (fun hc75=>?_)
   ·have hc75:=of_decide_eq_true hc75;refine bL<|sp hT ?_;refine ss (ldO hT (fH .head)) ?_;refine ss (kT hT (k:=x4.input.toNat) rfl rfl rfl rfl rfl (by omega) (by omega)) ?_;refine oE hT (k:=x4.input.toNat) (fo:=0) (y':=true) kT1 rfl rfl rfl rfl rfl rfl rfl rfl rfl hx8 rfl ?_;refine nn<|pF 12 _ _ [(true,0),(true,1),(true,2),(true,3),(true,4),(true,5),(true,6),(true,7),(false,8),(false,9),(true,10),(true,11)] jT (by decide+kernel) (.cons .head (.cons .head (.cons .head (.cons kT1 .nil)))) bG.self ?_;refine puL hT ?_;refine puL hT ?_;refine puL hT ?_;refine puL hT ?_;refine stL rfl (ldO hT (mJ kT2)) ?_;refine puL hT ?_;refine stL rfl (ldO hT (fH kT1)) ?_;refine puL hT ?_;refine mV (o:=_) rfl ?_;refine kH (m:=decide (0≤x4.input)) rfl rfl rfl rfl rfl fun b9=>?_;refine mQ (.cons kT1 (.cons kT1 (.cons kT1 (.cons kT2 .nil)))) (bG.drop 0) ?_;refine mV (o:=_) rfl ?_;refine kI kT4 (lL .head rfl) rfl rfl rfl rfl rfl rfl rfl (by simp;omega) fun A10 c11=>?_;refine mQ (.cons kT2 (.cons kT2 (.cons kT2 (.cons kT2 .nil)))) (bG.drop 0) ?_;refine puL hT ?_;refine puL hT ?_;refine mP (o:=_) rfl ?_;refine sto hT kT4 ?_;refine pJ<|bZ<|bH<|bL<|sp hT ?_;refine cJ (z':=(((i+1):Nat):Int)) (fN (by omega) (by omega)) ?_;refine sp hT ?_;refine nn ?_;exact cD (i+1,inp.set x4.input.toNat true,made++[decide (0≤x4.input)],A10,c11) (by dsimp only;omega) ⟨rfl,trivial⟩ ⟨rfl,rfl,rfl,rfl,rfl,trivial⟩ (.cons kT3 (.cons .head (.cons .head (.cons kT2 .nil)))) ⟨Has.pure (⟨by dsimp only;omega,bufs_in hinv6.2 (dE hx5) (show iD (gY x4.sides.list) c.vars=true by assumption) (show-1≤x4.input by omega) (show x4.input<64 by omega) (show 0≤x4.input by omega) (by first | (subst_vars;assumption) | (exfalso;omega))⟩),trivial⟩ (bG.drop 3)
   have hc75:=Int.not_le.1 (of_decide_eq_false hc75);refine bR<|bH<|pF 12 _ _ [(true,0),(true,1),(true,2),(true,3),(true,4),(true,5),(true,6),(true,7),(false,8),(false,9),(true,10),(true,11)] jT (by decide+kernel) (.cons .head (.cons .head (.cons .head (.cons kT1 .nil)))) bG.self ?_;refine puL hT ?_;refine puL hT ?_;refine puL hT ?_;refine puL hT ?_;refine stL rfl (ldO hT (mJ kT2)) ?_;refine puL hT ?_;refine stL rfl (ldO hT (fH .head)) ?_;refine puL hT ?_;refine mV (o:=_) rfl ?_;refine kH (m:=decide (0≤x4.input)) rfl rfl rfl rfl rfl fun b12=>?_;refine mQ (.cons kT1 (.cons kT1 (.cons kT1 (.cons kT2 .nil)))) (bG.drop 0) ?_;refine mV (o:=_) rfl ?_;refine kI kT4 (lL .head rfl) rfl rfl rfl rfl rfl rfl rfl (by simp;omega) fun A13 c14=>?_;refine mQ (.cons kT2 (.cons kT2 (.cons kT2 (.cons kT2 .nil)))) (bG.drop 0) ?_;refine puL hT ?_;refine puL hT ?_;refine mP (o:=_) rfl ?_;refine sto hT kT4 ?_;refine pJ<|bZ<|bH<|bL<|sp hT ?_;refine cJ (z':=(((i+1):Nat):Int)) (fN (by omega) (by omega)) ?_;refine sp hT ?_;refine nn ?_;exact cD (i+1,inp,made++[decide (0≤x4.input)],A13,c14) (by dsimp only;omega) ⟨rfl,trivial⟩ ⟨rfl,rfl,rfl,rfl,rfl,trivial⟩ (.cons kT4 (.cons .head (.cons .head (.cons kT2 .nil)))) ⟨Has.pure (⟨by dsimp only;omega,bufs_no hinv6.2 (dE hx5) (show iD (gY x4.sides.list) c.vars=true by assumption) (show-1≤x4.input by omega) (show x4.input<0 by omega)⟩),trivial⟩ (bG.drop 3)
  have hg66:=Int.not_le.1 (of_decide_eq_false hg66);refine sk4 ?_;refine sp2 hT ?_;refine nn<|jK rfl rfl ?_;refine bR<|bH<|bM<|sr<|sp hT ?_;refine ss (ldO hT (fH .head)) ?_;refine sp hT ?_;refine nn<|bQ rfl (fun hc75=>?_) (fun hc75=>?_)
  ·have hc75:=of_decide_eq_true hc75;refine bL<|sp hT ?_;refine ss (ldO hT (fH .head)) ?_
   obtain⟨x15,hx16⟩: ∃x',inp[x4.input.toNat]?=some x':=⟨_,List.getElem?_eq_getElem (by omega)⟩
   refine ss (kT hT (k:=x4.input.toNat) rfl rfl rfl rfl rfl (by omega) (by omega)) ?_;refine oE hT (k:=x4.input.toNat) (fo:=0) (y':=true) kT1 rfl rfl rfl rfl rfl rfl rfl rfl rfl hx16 rfl ?_;refine nn<|pF 12 _ _ [(true,0),(true,1),(true,2),(true,3),(true,4),(true,5),(true,6),(true,7),(false,8),(false,9),(true,10),(true,11)] jT (by decide+kernel) (.cons .head (.cons .head (.cons .head (.cons kT1 .nil)))) bG.self ?_;refine puL hT ?_;refine puL hT ?_;refine puL hT ?_;refine puL hT ?_;refine stL rfl (ldO hT (mJ kT2)) ?_;refine puL hT ?_;refine stL rfl (ldO hT (fH kT1)) ?_;refine puL hT ?_;refine mV (o:=_) rfl ?_;refine kH (m:=decide (0≤x4.input)) rfl rfl rfl rfl rfl fun b17=>?_;refine mQ (.cons kT1 (.cons kT1 (.cons kT1 (.cons kT2 .nil)))) (bG.drop 0) ?_;refine mV (o:=_) rfl ?_;refine kI kT4 (lL .head rfl) rfl rfl rfl rfl rfl rfl rfl (by simp;omega) fun A18 c19=>?_;refine mQ (.cons kT2 (.cons kT2 (.cons kT2 (.cons kT2 .nil)))) (bG.drop 0) ?_;refine puL hT ?_;refine puL hT ?_;refine mP (o:=_) rfl ?_;refine sto hT kT4 ?_;refine pJ<|bZ<|bH<|bL<|sp hT ?_;refine cJ (z':=(((i+1):Nat):Int)) (fN (by omega) (by omega)) ?_;refine sp hT ?_;refine nn ?_;exact cD (i+1,inp.set x4.input.toNat true,made++[decide (0≤x4.input)],A18,c19) (by dsimp only;omega) ⟨rfl,trivial⟩ ⟨rfl,rfl,rfl,rfl,rfl,trivial⟩ (.cons kT3 (.cons .head (.cons .head (.cons kT2 .nil)))) ⟨Has.pure (⟨by dsimp only;omega,bufs_in hinv6.2 (dE hx5) (show iD (gY x4.sides.list) c.vars=true by assumption) (show-1≤x4.input by omega) (show x4.input<64 by omega) (show 0≤x4.input by omega) (by first | (subst_vars;assumption) | (exfalso;omega))⟩),trivial⟩ (bG.drop 3)
  have hc75:=Int.not_le.1 (of_decide_eq_false hc75);refine bR<|bH<|pF 12 _ _ [(true,0),(true,1),(true,2),(true,3),(true,4),(true,5),(true,6),(true,7),(false,8),(false,9),(true,10),(true,11)] jT (by decide+kernel) (.cons .head (.cons .head (.cons .head (.cons kT1 .nil)))) bG.self ?_;refine puL hT ?_;refine puL hT ?_;refine puL hT ?_;refine puL hT ?_;refine stL rfl (ldO hT (mJ kT2)) ?_;refine puL hT ?_;refine stL rfl (ldO hT (fH .head)) ?_;refine puL hT ?_;refine mV (o:=_) rfl ?_;refine kH (m:=decide (0≤x4.input)) rfl rfl rfl rfl rfl fun b20=>?_;refine mQ (.cons kT1 (.cons kT1 (.cons kT1 (.cons kT2 .nil)))) (bG.drop 0) ?_;refine mV (o:=_) rfl ?_;refine kI kT4 (lL .head rfl) rfl rfl rfl rfl rfl rfl rfl (by simp;omega) fun A21 c22=>?_;refine mQ (.cons kT2 (.cons kT2 (.cons kT2 (.cons kT2 .nil)))) (bG.drop 0) ?_;refine puL hT ?_;refine puL hT ?_;refine mP (o:=_) rfl ?_;refine sto hT kT4 ?_;refine pJ<|bZ<|bH<|bL<|sp hT ?_;refine cJ (z':=(((i+1):Nat):Int)) (fN (by omega) (by omega)) ?_;refine sp hT ?_;refine nn ?_;exact cD (i+1,inp,made++[decide (0≤x4.input)],A21,c22) (by dsimp only;omega) ⟨rfl,trivial⟩ ⟨rfl,rfl,rfl,rfl,rfl,trivial⟩ (.cons kT4 (.cons .head (.cons .head (.cons kT2 .nil)))) ⟨Has.pure (⟨by dsimp only;omega,bufs_no hinv6.2 (dE hx5) (show iD (gY x4.sides.list) c.vars=true by assumption) (show-1≤x4.input by omega) (show x4.input<0 by omega)⟩),trivial⟩ (bG.drop 3)
 have hc43:=Int.not_lt.1 (of_decide_eq_false hc43);refine dL<|cE<|cE<|dM<|bH<|bM<|sr<|sp hT ?_;refine ss (ldO hT (sC kT3)) ?_;refine sp2 hT ?_;refine nn<|bW ?_;obtain⟨hmf,hr1⟩:=bufs_end hinv6.2 (by show(mG c.bufs.list).length≤i;rw [cC];omega);have hml2:made.length=c.bufs.list.length:=by rw [hmf,lD];exact cC _
 rw [hml2];refine cV (ι:=Nat×List Bool×Int×Int) [(1,_),(4,_),(93,_),(94,_)] ⟨rfl,rfl,rfl,rfl,trivial⟩ (fun⟨k,made,lo,bu⟩=>[(95,.int .i64 (k:Nat))]) (fun⟨k,made,lo,bu⟩=>[.obj b3 (.cells [.int .i64 c.vars,.int .i64 lo,.int .i64 bu,.slice MA c.bufs.list.length mc].toArray 115),gM.row (.slice MA c.bufs.list.length mc) 4 made]) (fun⟨k,made,lo,bu⟩=>[bF.pure (k≤c.steps.list.length∧nQ c.c k made r)]) (fun⟨k,made,lo,bu⟩=>c.steps.list.length-k) (0,made,0,0) ⟨rfl,trivial⟩ (.cons kT1 (.cons kT1 .nil)) ⟨Has.pure (⟨by omega,steps_start hmf hr1⟩),trivial⟩ ?_;rintro⟨k,made,lo,bu⟩;dsimp only;refine cQ (Has.of mT0) fun hinv15=>?_;have hml3:made.length=c.bufs.list.length:=by rw [hinv15.2.1];exact cC _
 refine sr<|sp hT ?_;refine nn<|bM<|bQ rfl (fun hc96=>?_) (fun hc96=>?_)
 ·have hc96:=of_decide_eq_true hc96;refine bR<|bH<|bM<|bW<|sr<|cR (uF.sl (.slice c.steps.addr c.steps.list.length c.steps.cap) c.steps.list) (tR (nV (Has.of mT2))) ?_
  obtain⟨x23,hx24⟩: ∃x',c.steps.list[k]?=some x':=⟨_,List.getElem?_eq_getElem (by omega)⟩
  refine ss (bT hT (k:=k) (bI (Has.of mT0)) rfl rfl rfl rfl rfl rfl rfl (by omega)) ?_;refine ss (gG hT (cF.knows (bI (Has.of mT0)) (k:=k) (x:=x23) hx24 0) rfl rfl rfl rfl rfl) ?_;refine jQ rfl rfl rfl rfl lX rfl fun b25=>?_;refine sto hT .head ?_;refine nn<|bM<|bM<|cR (nC x23) (Has.each (sI (nV (Has.of mT3))) (List.mem_of_getElem? hx24)) ?_;refine bL<|sp hT ?_;refine ss (ldO hT (fH .head)) ?_;refine sp2 hT ?_;refine bX (fun hg102=>?_) (fun hg102=>?_)
  ·have hg102:=of_decide_eq_true hg102;refine sk4 ?_;refine sk2 ?_;refine sp2 hT ?_;refine sk4 ?_;refine sk4 ?_;refine sp2 hT ?_;refine sk4 ?_;refine sp hT ?_;refine nn<|cO rfl rfl ?_;refine sr<|sp hT ?_;refine nn<|bK<|bO<|bV<|bO<|bO<|bV<|bO ?_;have hr:=nK hinv15.2 (fE hx24) (by first | exact .inl (by show x23.buf<0;omega) | exact .inr (.inl (by show((mG c.bufs.list).length:Int)≤x23.buf;rw [cC];omega)) | exact .inr (.inr (.inl ⟨_,dE ‹_›,by show 0≤iJ.input _;omega⟩)) | exact .inr (.inr (.inr (show kG c.vars made (fF.c _)=false by assumption))));subst hr;exact bC () rfl (bJ rfl) .nil trivial rfl
  have hg102:=Int.not_lt.1 (of_decide_eq_false hg102);refine sp hT ?_;refine ss (ldO hT (fH .head)) ?_;refine sp hT ?_;refine ss (ldO hT (fH kT4)) ?_;refine sp4 hT ?_;refine bX (fun hg110=>?_) (fun hg110=>?_)
  ·have hg110:=of_decide_eq_true hg110;refine sk4 ?_;refine sk4 ?_;refine sp2 hT ?_;refine sk4 ?_;refine sp hT ?_;refine nn<|cO rfl rfl ?_;refine sr<|sp hT ?_;refine nn<|bK<|bO<|bV<|bO<|bO<|bV<|bO ?_;have hr:=nK hinv15.2 (fE hx24) (by first | exact .inl (by show x23.buf<0;omega) | exact .inr (.inl (by show((mG c.bufs.list).length:Int)≤x23.buf;rw [cC];omega)) | exact .inr (.inr (.inl ⟨_,dE ‹_›,by show 0≤iJ.input _;omega⟩)) | exact .inr (.inr (.inr (show kG c.vars made (fF.c _)=false by assumption))));subst hr;exact bC () rfl (bJ rfl) .nil trivial rfl
  have hg110:=Int.not_le.1 (of_decide_eq_false hg110);refine sp hT ?_;refine ss (ldO hT (fH kT4)) ?_;refine sp hT ?_;refine ss (ldO hT (fH .head)) ?_;refine cR (bufE.sl (.slice c.bufs.addr c.bufs.list.length c.bufs.cap) c.bufs.list) (bufsF_s (rS (Has.of mT4))) ?_
  obtain⟨x26,hx27⟩: ∃x',c.bufs.list[x23.buf.toNat]?=some x':=⟨_,List.getElem?_eq_getElem (by omega)⟩
  refine ss (bT hT (k:=x23.buf.toNat) (bI (Has.of mT0)) rfl rfl rfl rfl rfl rfl (by omega) (by omega)) ?_;refine sp hT ?_;refine ss (cA hT (cF.knows (bI (Has.of mT0)) (k:=x23.buf.toNat) (x:=x26) hx27 1) rfl rfl rfl rfl rfl) ?_;refine sp3 hT ?_;refine bX (fun hg120=>?_) (fun hg120=>?_)
  ·have hg120:=of_decide_eq_true hg120;refine sk4 ?_;refine sp hT ?_;refine nn<|cO rfl rfl ?_;refine sr<|sp hT ?_;refine nn<|bK<|bO<|bV<|bO<|bO<|bV<|bO ?_;have hr:=nK hinv15.2 (fE hx24) (by first | exact .inl (by show x23.buf<0;omega) | exact .inr (.inl (by show((mG c.bufs.list).length:Int)≤x23.buf;rw [cC];omega)) | exact .inr (.inr (.inl ⟨_,dE ‹_›,by show 0≤iJ.input _;omega⟩)) | exact .inr (.inr (.inr (show kG c.vars made (fF.c _)=false by assumption))));subst hr;exact bC () rfl (bJ rfl) .nil trivial rfl
  have hg120:=Int.not_le.1 (of_decide_eq_false hg120);refine sp hT ?_;refine ss (ldN hT (hE .head)) ?_;refine iA (cB Tryz.func53 rfl rfl) (step_specM hml3 b3 c.vars lo bu MA mc x23) rfl rfl rfl rfl rfl (.cons kT1 .nil) (.cons kT1 .nil) (lends_row lC) ⟨Has.of mT2,Has.of mT0,trivial⟩ (fun _=>True) (fun _ _ _ _=>trivial) fun y28 _=>?_;refine sp2 hT ?_;refine nn<|bQ rfl (fun hc125=>?_) (fun hc125=>?_)
  ·have hc125:=mU hc125;refine sr<|sp hT ?_;refine nn<|bK<|bO<|bV<|bO<|bO<|bV<|bO ?_;have hr:=nK hinv15.2 (fE hx24) (by first | exact .inl (by show x23.buf<0;omega) | exact .inr (.inl (by show((mG c.bufs.list).length:Int)≤x23.buf;rw [cC];omega)) | exact .inr (.inr (.inl ⟨_,dE ‹_›,by show 0≤iJ.input _;omega⟩)) | exact .inr (.inr (.inr (show kG c.vars made (fF.c _)=false by assumption))));subst hr;exact bC () rfl (bJ rfl) .nil trivial rfl
  have hc125:=mM hc125;refine bR<|bH<|pF 7 _ _ [(true,0),(true,1),(true,2),(true,3),(true,4),(true,5),(true,6)] jT (by decide+kernel) (.cons .head (.cons .head (.cons .head (.cons .head (.cons .head .nil))))) bG.self ?_;refine puL hT ?_;refine puL hT ?_;refine puL hT ?_;refine stL rfl (ldO hT (mJ .head)) ?_;refine puL hT ?_;refine stL rfl (ldO hT (fH kT1)) ?_
  obtain⟨x29,hx30⟩: ∃x',made[x23.buf.toNat]?=some x':=⟨_,List.getElem?_eq_getElem (by omega)⟩
  refine stL rfl (bT hT (k:=x23.buf.toNat) (dY kT2) rfl rfl rfl rfl rfl hml3.symm (by omega) (by omega)) ?_;refine mP (o:=_) rfl ?_;refine cZ hT (k:=x23.buf.toNat) (fo:=0) (y':=true) kT2 rfl rfl rfl rfl rfl rfl rfl rfl rfl hx30 rfl ?_;refine pJ<|bZ<|bH<|bL<|sp hT ?_;refine cJ (z':=(((k+1):Nat):Int)) (fN (by omega) (by omega)) ?_;refine sp hT ?_;refine nn ?_;exact cD (k+1,made.set x23.buf.toNat true,y28.1,y28.2) (by dsimp only;omega) ⟨rfl,trivial⟩ ⟨rfl,rfl,rfl,rfl,trivial⟩ (.cons kT1 (.cons .head (.cons kT1 (.cons kT1 .nil)))) ⟨Has.pure (⟨by dsimp only;omega,steps_ok hinv15.2 (fE hx24) (show 0≤x23.buf by omega) (dE hx27) (show iJ.input _<0 by omega) (show kG c.vars made x23.c=true by assumption)⟩),trivial⟩ (bG.drop 4)
 have hc96:=Int.not_lt.1 (of_decide_eq_false hc96);refine dL<|cE<|cE<|dM<|bH<|sr<|sp hT ?_;refine ss (ldO hT (mJ kT3)) ?_;refine sp hT ?_;refine cR (iC.sl (.slice c.outs.addr c.outs.list.length c.outs.cap) c.outs.list) (rY (rV (Has.of mT2))) ?_;refine iA (cB Tryz.func54 rfl rfl) (rQ c.outs.addr c.outs.cap c.outs.list (by omega) 55 [.pointer (some ⟨b1,0,none⟩)] [bF.cells b1 0 [.int .i64 c.vars,.slice c.bufs.addr c.bufs.list.length c.bufs.cap,.slice c.steps.addr c.steps.list.length c.steps.cap,.slice c.outs.addr c.outs.list.length c.outs.cap]] (outB c.bufs.list.length) (cB Tryz.func55 rfl rfl) (fun k=>right1_spec b1 c k)) rfl rfl rfl rfl rfl .nil (.cons kT3 .nil) (iL lC) ⟨Has.of mT1,Has.of mT0,trivial⟩ (fun _=>True) (fun _ _ _ _=>trivial) fun _ _=>?_;refine sp2 hT ?_;refine nn<|bK ?_;have hr:=steps_end hinv15.2 (by show(oK c.steps.list).length≤k;rw [fS];omega);subst hr;exact bC () rfl (bJ rfl) .nil trivial (congrArg Value.bool (outs_all (cC _)))
end Go.Proofs.YtofjmphlpdhohaaGreatDoor
namespace Go.Proofs
open Go.Shelf
def Tryz.lays189_ren:Go.Shelf.Ren:=⟨fun | 189=>56 | 125=>116 | 257=>115 | 128=>178 | 129=>179 | 294=>170 | 295=>171 | 296=>172 | 297=>173 | 298=>174 | 299=>175 | 216=>129 | 300=>176 | 301=>177 | 328=>226 | 329=>227 | 330=>228 | 331=>229 | 332=>230 | 215=>187 | 343=>250 | n=>n,fun | 28=>24 | 3=>3 | 46=>206 | 0=>0 | 51=>270 | 53=>272 | 4=>4 | 183=>264 | 182=>263 | 131=>136 | 5=>5 | 9=>9 | 218=>317 | 222=>321 | 228=>348 | 229=>349 | n=>n,fun | n=>n⟩
theorem Tryz.lays189:Go.Proofs.Lays.n189 Tryz.prog Tryz.lays189_ren:={
 mixed:=by kernel_rfl
 f125:=Tryz.func116.trans (congrArg some (by kernel_rfl))
 f128:=Tryz.func178.trans (congrArg some (by kernel_rfl))
 f129:=Tryz.func179.trans (congrArg some (by kernel_rfl))
 f189:=Tryz.func56.trans (congrArg some (by kernel_rfl))
 f215:=Tryz.func187.trans (congrArg some (by kernel_rfl))
 f216:=Tryz.func129.trans (congrArg some (by kernel_rfl))
 f257:=Tryz.func115.trans (congrArg some (by kernel_rfl))
 f294:=Tryz.func170.trans (congrArg some (by kernel_rfl))
 f295:=Tryz.func171.trans (congrArg some (by kernel_rfl))
 f296:=Tryz.func172.trans (congrArg some (by kernel_rfl))
 f297:=Tryz.func173.trans (congrArg some (by kernel_rfl))
 f298:=Tryz.func174.trans (congrArg some (by kernel_rfl))
 f299:=Tryz.func175.trans (congrArg some (by kernel_rfl))
 f300:=Tryz.func176.trans (congrArg some (by kernel_rfl))
 f301:=Tryz.func177.trans (congrArg some (by kernel_rfl))
 f328:=Tryz.func226.trans (congrArg some (by kernel_rfl))
 f329:=Tryz.func227.trans (congrArg some (by kernel_rfl))
 f330:=Tryz.func228.trans (congrArg some (by kernel_rfl))
 f331:=Tryz.func229.trans (congrArg some (by kernel_rfl))
 f332:=Tryz.func230.trans (congrArg some (by kernel_rfl))
 f343:=Tryz.func250.trans (congrArg some (by kernel_rfl))
 t0:=Tryz.underlying0
 a0:=Tryz.isAgg0
 z0:=Tryz.sizeOf0
 v0:=Tryz.zeroValue0
 t3:=Tryz.underlying3
 a3:=Tryz.isAgg3
 z3:=Tryz.sizeOf3
 v3:=Tryz.zeroValue3
 t4:=Tryz.underlying4
 a4:=Tryz.isAgg4
 z4:=Tryz.sizeOf4
 v4:=Tryz.zeroValue4
 t5:=Tryz.underlying5
 a5:=Tryz.isAgg5
 z5:=Tryz.sizeOf5
 v5:=Tryz.zeroValue5
 t9:=Tryz.underlying9
 a9:=Tryz.isAgg9
 z9:=Tryz.sizeOf9
 v9:=Tryz.zeroValue9
 t28:=Tryz.underlying24
 a28:=Tryz.isAgg24
 z28:=Tryz.sizeOf24
 v28:=Tryz.zeroValue24
 t46:=Tryz.underlying206
 a46:=Tryz.isAgg206
 z46:=Tryz.sizeOf206
 v46:=Tryz.zeroValue206
 t51:=Tryz.underlying270
 a51:=Tryz.isAgg270
 z51:=Tryz.sizeOf270
 v51:=Tryz.zeroValue270
 t53:=Tryz.underlying272
 a53:=Tryz.isAgg272
 z53:=Tryz.sizeOf272
 v53:=Tryz.zeroValue272
 t131:=Tryz.underlying136
 a131:=Tryz.isAgg136
 z131:=Tryz.sizeOf136
 v131:=Tryz.zeroValue136
 t182:=Tryz.underlying263
 a182:=Tryz.isAgg263
 z182:=Tryz.sizeOf263
 v182:=Tryz.zeroValue263
 t183:=Tryz.underlying264
 a183:=Tryz.isAgg264
 z183:=Tryz.sizeOf264
 v183:=Tryz.zeroValue264
 t218:=Tryz.underlying317
 a218:=Tryz.isAgg317
 z218:=Tryz.sizeOf317
 v218:=Tryz.zeroValue317
 t222:=Tryz.underlying321
 a222:=Tryz.isAgg321
 z222:=Tryz.sizeOf321
 v222:=Tryz.zeroValue321
 t228:=Tryz.underlying348
 a228:=Tryz.isAgg348
 z228:=Tryz.sizeOf348
 v228:=Tryz.zeroValue348
 t229:=Tryz.underlying349
 a229:=Tryz.isAgg349
 z229:=Tryz.sizeOf349
 v229:=Tryz.zeroValue349}
open Go.Sort Go.RowKit in
theorem Tryz.slices_Sort_int(blk off cap:Nat)(zs:List Int)(w:World)(hH:Holds (Value.int .i64) w blk off zs.toArray)(hblk:blk<w.heap.size)(hsz:zs.length<4611686018427387904):
  Calls Tryz.prog 56 #[.slice (some ⟨blk,off,none⟩) zs.length cap] w fun e w'=>
   e= .returned (.tuple #[])∧ ∃n os,w'=grow (putRow (Value.int .i64) (Sort.ahead w n) blk off (zs.mergeSort fun x y=>decide (x≤y)).toArray) os:=Any.slices_Sort_int Tryz.lays189 blk off cap zs w hH hblk hsz
def Tryz.laysNm220_ren:Go.Shelf.Ren:=⟨fun | 20=>57 | n=>n,fun | 22=>24 | 3=>3 | 4=>4 | 0=>0 | n=>n,fun | n=>n⟩
theorem Tryz.laysNm220:Go.Proofs.Lays2.n20 Tryz.prog Tryz.laysNm220_ren:={
 mixed:=by kernel_rfl
 f20:=Tryz.func57.trans (congrArg some (by kernel_rfl))
 t0:=Tryz.underlying0
 a0:=Tryz.isAgg0
 z0:=Tryz.sizeOf0
 v0:=Tryz.zeroValue0
 t3:=Tryz.underlying3
 a3:=Tryz.isAgg3
 z3:=Tryz.sizeOf3
 v3:=Tryz.zeroValue3
 t4:=Tryz.underlying4
 a4:=Tryz.isAgg4
 z4:=Tryz.sizeOf4
 v4:=Tryz.zeroValue4
 t22:=Tryz.underlying24
 a22:=Tryz.isAgg24
 z22:=Tryz.sizeOf24
 v22:=Tryz.zeroValue24
 i3:=by kernel_rfl}
open Go.RowKit Go.Lib Go.Sort in
theorem Tryz.slices_Compact_int(blk off cap:Nat)(zs:List Int)(w:World)(hH:Holds (Value.int .i64) w blk off zs.toArray)(hsz:zs.length≤9223372036854775807)(hcap:zs.length≤cap):
  Calls Tryz.prog 57 #[.slice (some ⟨blk,off,none⟩) zs.length cap] w fun e w'=>e= .returned (.slice (some ⟨blk,off,none⟩) (Lib.compact zs).length cap)∧ ∃q,w'=putRow (Value.int .i64) (Sort.ahead w q) blk off (Lib.compact zs++List.replicate (zs.length-(Lib.compact zs).length) 0).toArray:=Any.slices_Compact_int Tryz.laysNm220 blk off cap zs w hH hsz hcap
open Go.RowKit Go.Lib Go.Sort in
theorem Tryz.slices_Compact_int_empty(a:Option Addr)(cap:Nat)(w:World):
  Calls Tryz.prog 57 #[.slice a 0 cap] w fun e w'=>e= .returned (.slice a 0 cap)∧w'=w:=Any.slices_Compact_int_empty Tryz.laysNm220 a cap w
open Go.RowKit Go.Sort in
theorem Tryz.slices_Sort_int_none(p:Option Addr)(cap:Nat)(w:World):
  Calls Tryz.prog 56 #[.slice p 0 cap] w fun e w'=>e= .returned (.tuple #[])∧w'=w:=Any.slices_Sort_int_none Tryz.lays189 p cap w
end Go.Proofs
namespace Go.Proofs.YtofjmphlpdhohaaGreatDoor
open Go.RowKit Go.Sort
section
variable {g off cap : Nat} {xs ys : List Int} {w w' : World}
theorem ints_all(xs:List Int):iC.all xs=xs.map (Value.int .i64):=by
 induction xs with
 | nil=>rfl
 | cons x r ih=>
  rw [List.map_cons,←ih];rfl
theorem oB(h:Holds (Value.int .i64) w g off xs.toArray):(iC.held (.slice (some ⟨g,off,none⟩) xs.length cap) xs).ok w:=by
 cases xs with
 | nil=>exact⟨_,_,rfl,.inl rfl⟩
 | cons x r=>
  obtain⟨h0,_⟩:=h 0 (by simp);unfold World.cell? at h0
  cases hh:w.heap[g]? with
  | none=>simp [hh] at h0
  | some o=>
   cases o with
   | cells cs t fz=>
    refine⟨_,_,rfl,.inr ⟨g,off,cs,t,fz,rfl,hh,fun j u hj=>?_⟩⟩;rw [ints_all,List.getElem?_map] at hj
    cases hx:(x::r)[j]? with
    | none=>rw [hx] at hj;cases hj
    | some z=>
     rw [hx] at hj;cases hj;have hlt:=(List.getElem?_eq_some_iff.1 hx).1;obtain⟨h1,h2⟩:=h j (by simpa using hlt)
     have hz:(x::r).toArray[j]! =z:=by
      rw [getElem!_pos _ j (by simpa using hlt)]
      simpa using (List.getElem?_eq_some_iff.1 hx).2
     rw [hz] at h1;refine⟨?_,?_⟩
     ·unfold World.cell? at h1;simp only [hh] at h1
      simpa using h1
     ·unfold World.frozen? at h2;simp only [hh] at h2;exact h2
   | _=>simp [hh] at h0
theorem oG(h:(iC.held (.slice (some ⟨g,off,none⟩) xs.length cap) xs).ok w):Holds (Value.int .i64) w g off xs.toArray:=fun j hj=>by
 have hlt:j<xs.length:=by simpa using hj
 obtain⟨g',off',cap',cs,t,fz,e,_,hh,hc⟩:=lM h hlt;injection e with e
 injection e with e
 injection e with e1 e2
 subst e1 e2
 have hz:xs.toArray[j]! =xs[j]:=by
  rw [getElem!_pos _ j (by simpa using hlt)];simp
 obtain⟨h1,h2⟩:=hc j (.int .i64 xs[j]) (by rw [ints_all,List.getElem?_map,List.getElem?_eq_getElem hlt];rfl);rw [hz];refine⟨?_,?_⟩
 ·unfold World.cell?;simp only [hh]
  simpa using h1
 ·unfold World.frozen?;simp only [hh];exact h2
theorem kept_put(d:Array Int)(n:Nat)(os:Array Obj):iM (fun b=>b=g) w (grow (putRow (Value.int .i64) (Sort.ahead w n) g off d) os) where
 os:=rfl
 tape:=rfl
 output:=rfl
 size:=by
  show w.heap.size≤((w.heap.modify g _)++os).size;simp
 block:=fun b hb hne=>by
  show((w.heap.modify g _)++os)[b]?=_;rw [Array.getElem?_append_left (by simpa using hb),Array.getElem?_modify,if_neg (Ne.symm hne)]
theorem holds_pre(h:Holds (Value.int .i64) w g off (xs++ys).toArray):Holds (Value.int .i64) w g off xs.toArray:=fun j hj=>by
 have hlt:j<xs.length:=by simpa using hj
 have:=h j (by simp;omega)
 have e:(xs++ys).toArray[j]! =xs.toArray[j]!:=by
  rw [getElem!_pos _ j (by simp;omega),getElem!_pos _ j (by simpa using hlt)];simp [List.getElem_append_left hlt]
 rwa [e] at this
end
def leB (x y:Int):Bool:=decide (x≤y)
def nH (l:List Int):List Int:=l.mergeSort leB
theorem nS(l:List Int):(nH l).length=l.length:=List.length_mergeSort l
theorem held_blk{A:Option Addr}{cap n:Nat}{x:Int}{r xs:List Int}(h:xs.length=(x::r).length):(iC.held (.slice A n cap) xs).blk=(iC.held (.slice A n cap) (x::r)).blk:=by
 cases xs with
 | nil=>cases h
 | cons y s=>rfl
theorem sort_spec(A:Option Addr)(cap:Nat)(xs:List Int)(hl:xs.length≤140737488355328):fB Tryz.prog 56 [.slice A xs.length cap] [iC.held (.slice A xs.length cap) xs] [] (fun _:Unit=> .tuple #[]) (fun _=>[iC.held (.slice A xs.length cap) (nH xs)]) (fun _=>[]):=fun S w s k=>by
 cases hx:xs with
 | nil=>
  refine(Tryz.slices_Sort_int_none A cap w).mono ?_;rintro e w' ⟨rfl,rfl⟩;subst hx;rw [show nH ([]:List Int)=[] by simp [nH]];exact⟨(),S,rfl,s,fun g hg=>by simp at hg⟩
 | cons x r=>
  have hok:=s.ok _ (List.mem_cons_self ..);have h1:0<xs.length:=by rw [hx];simp
  obtain⟨g,off,cap',cs,t,fz,e,hblk,hh,hc⟩:=lM hok h1;injection e with e1 e2 e3
  subst e1 e3;have hH:=oG hok;have hg:g<w.heap.size:=(s.own _ (List.mem_cons_self ..) g hblk).1;rw [←hx];refine(Tryz.slices_Sort_int g off cap xs w hH hg (by omega)).mono ?_;rintro e w' ⟨rfl,n,os,rfl⟩;have hH':=holds_grow (Value.int .i64) _ os g off _ (by show g<(w.heap.modify g _).size;simpa using hg) (holds_putRow (Value.int .i64) (Sort.ahead w n) g off xs.toArray (xs.mergeSort fun x y=>decide (x≤y)).toArray (holds_ahead _ w n g off _ hH) (by simp));have hlen:(nH xs).length=xs.length:=nS xs
  have hb':(iC.held (.slice (some ⟨g,off,none⟩) xs.length cap) (nH xs)).blk=some g:=by
   rw [←hblk];subst hx;exact held_blk hlen
  refine⟨(),S,rfl,s.swap (kept_put _ n os) hblk hb' ?_,fun g hg=>by simp at hg⟩;have:=oB (cap:=cap) hH';rw [List.length_mergeSort] at this;exact this
theorem compact_spec(A:Option Addr)(cap:Nat)(xs:List Int)(hl:xs.length≤140737488355328)(hcap:xs.length≤cap):fB Tryz.prog 57 [.slice A xs.length cap] [iC.held (.slice A xs.length cap) xs] [] (fun _:Unit=> .slice A (Lib.compact xs).length cap) (fun _=>[iC.held (.slice A (Lib.compact xs).length cap) (Lib.compact xs)]) (fun _=>[]):=fun S w s k=>by
 cases hx:xs with
 | nil=>
  refine(Tryz.slices_Compact_int_empty A cap w).mono ?_;rintro e w' ⟨rfl,rfl⟩;subst hx;exact⟨(),S,rfl,s,fun g hg=>by simp at hg⟩
 | cons x r=>
  have hok:=s.ok _ (List.mem_cons_self ..);have h1:0<xs.length:=by rw [hx];simp
  obtain⟨g,off,cap',cs,t,fz,e,hblk,hh,hc⟩:=lM hok h1;injection e with e1 e2 e3
  subst e1 e3;have hH:=oG hok;rw [←hx];refine(Tryz.slices_Compact_int g off cap xs w hH (by omega) hcap).mono ?_;rintro e w' ⟨rfl,q,rfl⟩
  have hle:(Lib.compact xs).length≤xs.length:=by
   unfold Lib.compact Lib.compactUpTo;rw [List.length_map];exact Nat.le_trans (List.length_filter_le ..) (by simp)
  have hH':=holds_putRow (Value.int .i64) (Sort.ahead w q) g off xs.toArray (Lib.compact xs++List.replicate (xs.length-(Lib.compact xs).length) 0).toArray (holds_ahead _ w q g off _ hH) (by simp;omega)
  have hk:iM (fun b=>b=g) w (putRow (Value.int .i64) (Sort.ahead w q) g off (Lib.compact xs++List.replicate (xs.length-(Lib.compact xs).length) 0).toArray):=⟨rfl,rfl,rfl,by show w.heap.size≤(w.heap.modify g _).size;simp,fun b hb hne=>by show(w.heap.modify g _)[b]?=_;rw [Array.getElem?_modify,if_neg (Ne.symm hne)]⟩
  have hok':=oB (cap:=cap) (holds_pre hH')
  cases hc:Lib.compact xs with
  | nil=>
   rw [hc] at hk hok';have s2:=s.swap hk hblk (c':= .gen (some g) fun _=>True) rfl trivial;refine⟨(),S,rfl,?_,fun g hg=>by simp at hg⟩;exact s2.recast' (fun b hb=>by cases hb) hok'
  | cons y t'=>
   rw [hc] at hk hok';have s2:=s.swap hk hblk (c':=iC.held (.slice (some ⟨g,off,none⟩) (y::t').length cap) (y::t')) rfl hok';exact⟨(),S,rfl,s2,fun g hg=>by simp at hg⟩
theorem compact_sub(xs:List Int): ∀z,z∈Lib.compact xs→z∈xs:=fun z hz=>by
 unfold Lib.compact Lib.compactUpTo at hz;obtain⟨j,hj,rfl⟩:=List.mem_map.1 hz;have hlt:=List.mem_range.1 (List.mem_filter.1 hj).1;rw [getElem!_pos _ j (by simpa using hlt)];simp
theorem qV(xs:List Int): ∀(j:Nat) (z:Int),xs[j]?=some z→z∈Lib.compact xs
 | 0,z,h=>by
  have hlt:=(List.getElem?_eq_some_iff.1 h).1;refine List.mem_map.2 ⟨0,List.mem_filter.2 ⟨List.mem_range.2 hlt,Lib.keeps_lt_one _ 0 (by decide)⟩,?_⟩;rw [getElem!_pos _ 0 (by simpa using hlt)]
  simpa using (List.getElem?_eq_some_iff.1 h).2
 | j+1,z,h=>by
  have hlt:=(List.getElem?_eq_some_iff.1 h).1
  have hz:xs.toArray[j+1]! =z:=by
   rw [getElem!_pos _ (j+1) (by simpa using hlt)]
   simpa using (List.getElem?_eq_some_iff.1 h).2
  by_cases e:xs.toArray[j+1]! =xs.toArray[j]!
  ·have hy:xs[j]?=some z:=by
    rw [List.getElem?_eq_getElem (by omega)];rw [hz,getElem!_pos _ j (by simp;omega)] at e;rw [e];simp
   exact qV xs j z hy
  ·exact List.mem_map.2 ⟨j+1,List.mem_filter.2 ⟨List.mem_range.2 hlt,Lib.keeps_pos (m:=j+1) e⟩,hz⟩
theorem mem_uses{xs:List Int}{z:Int}:z∈Lib.compact (nH xs)↔z∈xs:=by
 constructor
 ·exact fun h=>List.mem_mergeSort.1 (compact_sub _ z h)
 ·intro h;obtain⟨j,hj⟩:=List.mem_iff_getElem?.1 (List.mem_mergeSort.2 h:z∈nH xs);exact qV _ j z hj
theorem uses_len{xs:List Int}:(Lib.compact (nH xs)).length≤xs.length:=by
 unfold Lib.compact Lib.compactUpTo;rw [List.length_map];refine Nat.le_trans (List.length_filter_le ..) ?_;rw [List.length_range,nS];exact Nat.le_refl _
end Go.Proofs.YtofjmphlpdhohaaGreatDoor
namespace Go.Proofs.YtofjmphlpdhohaaGreatDoor
open Go.RowKit Go.Sort
def kS (l:List OpV):List Int:=(l.filter fun o=>o.how==4).map (·.k)
def usesV (l:List OpV):List Int:=Lib.compact (nH (kS l))
theorem uU(l:List OpV):(kS l).length≤l.length:=by
 unfold kS;rw [List.length_map];exact List.length_filter_le ..
theorem uW(l:List OpV):(usesV l).length≤l.length:=Nat.le_trans uses_len (uU l)
section
variable {l : List OpV} {i : Nat} {o : OpV} {us : List Int}
theorem uses_yes(h:us=kS (l.take i))(ho:l[i]?=some o)(e:o.how=4):us++[o.k]=kS (l.take (i+1)):=by
 subst h;rw [List.take_add_one,ho];simp [kS,e]
theorem uses_no(h:us=kS (l.take i))(ho:l[i]?=some o)(e:o.how≠4):us=kS (l.take (i+1)):=by
 subst h;rw [List.take_add_one,ho];simp [kS,e]
theorem uses_full(h:us=kS (l.take i))(hi:l.length≤i):us=kS l:=by rw [h,List.take_of_length_le hi]
theorem nP{z:Int}:z∈usesV l↔ ∃o∈l,o.how=4∧o.k=z:=by
 unfold usesV;rw [mem_uses];simp [kS,and_assoc]
end
set_option maxRecDepth 100000 in
theorem wA(A:Option Addr)(c:Nat)(l:List OpV)(hl:l.length≤17592186044416):fB Tryz.prog 26 [.slice A l.length c] [] [opE.sl (.slice A l.length c) l] (fun(x:Option Addr×Nat)=> .slice x.1 (usesV l).length x.2) (fun _=>[]) (fun(x:Option Addr×Nat)=>[iC.sl (.slice x.1 (usesV l).length x.2) (usesV l)]):=by
 have hT:=cL;refine cU Tryz.func26 rfl Tryz.ntmps26 rfl ?_;intro β hM;refine sr<|sp hT ?_;refine nn<|sr<|sp hT ?_;refine nn<|bM<|sr<|sp3 hT ?_;refine nn<|bW<|oO (t:=3) iC ?_;refine cV (ι:=Nat×List Int×Option Addr×Nat) [(6,_),(7,_)] ⟨rfl,rfl,trivial⟩ (fun⟨i,us,UA,uc⟩=>[(3,.slice UA us.length uc),(8,.int .i64 (i:Nat))]) (fun⟨i,us,UA,uc⟩=>[iC.row (.slice UA us.length uc) 3 us]) (fun⟨i,us,UA,uc⟩=>[bF.pure (i≤l.length∧us=kS (l.take i))]) (fun⟨i,us,UA,uc⟩=>l.length-i) (0,[],none,0) ⟨rfl,rfl,trivial⟩ (.cons .head .nil) ⟨Has.pure (⟨by omega,rfl⟩),trivial⟩ ?_;rintro⟨i,us,UA,uc⟩;dsimp only;refine cQ (Has.of mT0) fun hinv3=>?_;have hul:us.length≤i:=by rw [hinv3.2];exact Nat.le_trans (uU _) (List.length_take_le ..)
 refine sr<|sp hT ?_;refine nn<|bM<|bQ rfl (fun hc9=>?_) (fun hc9=>?_)
 ·have hc9:=of_decide_eq_true hc9;refine bR<|bH<|bM<|bW<|sr ?_
  obtain⟨x1,hx2⟩: ∃x',l[i]?=some x':=⟨_,List.getElem?_eq_getElem (by omega)⟩
  refine ss (bT hT (k:=i) (bI (Has.of mT1)) rfl rfl rfl rfl rfl rfl rfl (by omega)) ?_;refine ss (gG hT (cF.knows (bI (Has.of mT1)) (k:=i) (x:=x1) hx2 0) rfl rfl rfl rfl rfl) ?_;refine jQ rfl rfl rfl rfl oV rfl fun b3=>?_;refine sto hT .head ?_;refine nn<|sr<|sp hT ?_;refine ss (ldO hT (hE .head)) ?_;refine sp hT ?_;refine nn<|bQ rfl (fun hc14=>?_) (fun hc14=>?_)
  ·have hc14:=eq_of_beq hc14;refine bL<|sp2 hT ?_;refine ss (ldO hT (fH .head)) ?_;refine at_one_int (m:=x1.k) rfl rfl rfl rfl rfl fun b4=>?_;refine at_app_int kT2 (lL .head rfl) rfl rfl rfl rfl rfl rfl rfl (by simp;omega) fun A5 c6=>?_;refine sp hT ?_;refine iV<|bZ<|bH<|bL<|sp hT ?_;refine cJ (z':=(((i+1):Nat):Int)) (fN (by omega) (by omega)) ?_;refine sp hT ?_;refine nn ?_;exact cD (i+1,us++[x1.k],A5,c6) (by dsimp only;omega) ⟨rfl,rfl,trivial⟩ ⟨rfl,rfl,trivial⟩ (.cons .head .nil) ⟨Has.pure (⟨by dsimp only;omega,uses_yes hinv3.2 hx2 ‹_›⟩),trivial⟩ (bG.drop 1)
  have hc14:=beq_eq_false_iff_ne.1 hc14;refine bR<|bZ<|bH<|bL<|sp hT ?_;refine cJ (z':=(((i+1):Nat):Int)) (fN (by omega) (by omega)) ?_;refine sp hT ?_;refine nn ?_;exact cD (i+1,us,UA,uc) (by dsimp only;omega) ⟨rfl,rfl,trivial⟩ ⟨rfl,rfl,trivial⟩ (.cons kT1 .nil) ⟨Has.pure (⟨by dsimp only;omega,uses_no hinv3.2 hx2 ‹_›⟩),trivial⟩ (bG.drop 1)
 have hc9:=Int.not_lt.1 (of_decide_eq_false hc9);refine dL<|cE<|cE<|dM<|bH<|bM ?_;have hue:us=kS l:=uses_full hinv3.2 (by omega);refine bL<|sp hT ?_;refine at_cap .head fun hcap=>?_;refine at_row_held' .head ?_;refine dI Tryz.func56 (sort_spec UA uc us (by omega)) rfl rfl (.cons .head .nil) trivial fun _=>?_;have hsl:=nS us;refine nn<|sr<|sp hT ?_;have cs:=compact_spec UA uc (nH us) (by omega) (by omega);rw [nS] at cs;refine dI Tryz.func57 cs rfl rfl (.cons .head .nil) trivial fun _=>?_;refine mE .head ?_;refine sp hT ?_;refine nn<|bK ?_;subst hue;exact bC (UA,uc) rfl (bJ rfl) .nil ⟨(Has.of mT0),trivial⟩ rfl
end Go.Proofs.YtofjmphlpdhohaaGreatDoor
namespace Go.Proofs.YtofjmphlpdhohaaGreatDoor
open Go.RowKit
theorem rO{P:Program}(w:World)(dT sT ty elem:TypeId)(z b o dLen dCap:Nat)(a:Addr)(sLen sCap:Nat)(cs:List Value)
  (hu:P.underlying dT=some (.slice elem)) (hs:(P.info? elem).map (·.size)=some z) (hn:cs.length=Nat.min sLen dLen*z)
  (hsrc: ∀j v,cs[j]?=some v→w.cell? (a.add j)=some v) (hc: ∀j,j<cs.length→(w.cell? ⟨b,o+j,none⟩).isSome=true) (hf: ∀j,j<cs.length→w.frozen? ⟨b,o+j,none⟩=false) (h1: ∀v∈cs,v.oneCell'=true):
  (Builtin.copy_ #[dT,sT] ty #[.slice (some ⟨b,o,none⟩) dLen dCap,.slice (some a) sLen sCap]).run P w= .ok (goInt (Nat.min sLen dLen)) (w.setCells b o cs):=by
 have hl:=run_loadCells_list (P:=P) w a cs hsrc;have hst:=run_storeCells_cells (P:=P) b o cs 0 w (by simpa using hc) (by simpa using hf) h1
 cases hq:P.info? elem with
 | none=>simp [hq] at hs
 | some i=>
  have hi:i.size=z:=by simpa [hq] using hs
  rw [hn] at hl;simp [Builtin.copy_,run_underlying hu,Builtin.lenOf,Builtin.firstCells,sizeOf,typeInfo,hq,hi,hl,hst]
theorem tV{P:Program}(w:World)(dT sT ty elem:TypeId)(z:Nat)(d a:Option Addr)(dLen dCap sLen sCap:Nat)(hu:P.underlying dT=some (.slice elem))(hs:(P.info? elem).map (·.size)=some z)(hn:Nat.min sLen dLen=0):
  (Builtin.copy_ #[dT,sT] ty #[.slice d dLen dCap,.slice a sLen sCap]).run P w= .ok (goInt 0) w:=by
 cases hq:P.info? elem with
 | none=>simp [hq] at hs
 | some i=>
  have hl: ∀(x:Addr),(loadCells x 0).run P w= .ok #[] w:=fun x=>by simpa using run_loadCells_list (P:=P) w x [] (by simp)
  cases d<;>cases a<;>simp [Builtin.copy_,run_underlying hu,Builtin.lenOf,Builtin.firstCells,sizeOf,typeInfo,hq,hn,storeCells,hl]
section
variable {α : Type} {E : Flat α} {β : fO} {H : List bD} {F : List bF}
theorem cF.cellsE{A:Option Addr}{xs:List α}{w:World}{S:fU}(hr:cF β H F E A xs)(s:St β H S w)(hF:All F S w)(h0:0<xs.length):
  ∃b off,A=some ⟨b,off,none⟩∧ ∀j u,(E.all xs)[j]?=some u→w.cell? ((⟨b,off,none⟩:Addr).add j)=some u:=by
 obtain⟨⟨b,off,rfl⟩,_⟩:=hr w S s hF 0 _ (List.getElem?_eq_getElem h0);refine⟨b,off,rfl,fun j u hj=>?_⟩;have hlt:=(List.getElem?_eq_some_iff.1 hj).1;rw [E.all_length] at hlt;have hk:j/E.size<xs.length:=Nat.div_lt_of_lt_mul (by rwa [Nat.mul_comm] at hlt);have hm:j%E.size<E.size:=Nat.mod_lt _ E.pos;have hx':=List.getElem?_eq_getElem hk;have hu':=List.getElem?_eq_getElem (l:=E.cells xs[j/E.size]) (i:=j%E.size) (by rw [E.len];exact hm);have e:j/E.size*E.size+j%E.size=j:=by rw [Nat.mul_comm];exact Nat.div_add_mod j E.size
 have h1:=(hr w S s hF _ _ hx').2 _ _ hu';have h2:=E.all_get hx' hu';rw [e,hj] at h2;injection h2 with h2
 have h3:=h1.trans (congrArg some h2.symm);rw [Nat.add_assoc,e] at h3;rw [Addr.add_mid];exact h3
theorem cF.preE{A:Option Addr}{xs:List α}(h:cF β H F E A xs)(r:Nat):cF β H F E A (xs.take r):=fun w S s hF k x hk=>by
 rw [List.getElem?_take] at hk;split at hk
 ·exact h w S s hF k x hk
 ·cases hk
theorem all_take(xs:List α)(q:Nat)(h:q≤xs.length):(E.all xs).take (q*E.size)=E.all (xs.take q):=by
 have e:(E.all (xs.take q)).length=q*E.size:=by rw [E.all_length,List.length_take,Nat.min_eq_left h]
 conv=>lhs;rw [←List.take_append_drop q xs,E.all_append]
 rw [List.take_append_of_le_length (by omega),List.take_of_length_le (by omega)]
theorem all_drop(xs:List α)(q:Nat)(h:q≤xs.length):(E.all xs).drop (q*E.size)=E.all (xs.drop q):=by
 have e:(E.all (xs.take q)).length=q*E.size:=by rw [E.all_length,List.length_take,Nat.min_eq_left h]
 conv=>lhs;rw [←List.take_append_drop q xs,E.all_append]
 rw [List.drop_append_of_le_length (by omega),List.drop_of_length_le (by omega),List.nil_append]
theorem at_copyE{P:Program}{n:Nat}{Γ:Env}{Q:Exit→Act→World→Prop}{ops:Array Oper}{rest:List Oper}{o:Oper}{d:Nat}{x y:Operand}{t e t':TypeId}{g c cap m q off l lc s:Nat}{A:Option Addr}{xs ys:List α}{H':List bD}(hr:cF β H F E A ys)(hw:want ops Γ o=some true)
  (ho:o.op= .call {callee:= .builtin .copy,args:= #[x,y],argTypes:= #[t,t]}) (hd:o.dst=some d) (hn:Nat.blt d n=true) (hu:P.underlying t=some (.slice e)) (hs:(P.info? e).map (·.size)=some E.size)
  (hx:Γ.ev x=some (.slice (some ⟨g,off,none⟩) l lc)) (hoff:off=q*E.size) (hm:xs.length=m) (hy:Γ.ev y=some (.slice A s c)) (hmin:ys.length=Nat.min s l) (hq:q+ys.length≤m) (hH:cW H (E.row (.slice (some ⟨g,0,none⟩) m cap) t' xs) H')
  (k:At β n ((d,.int .i64 (ys.length:Nat))::Γ) (E.row (.slice (some ⟨g,0,none⟩) m cap) t' (xs.take q++ys++xs.drop (q+ys.length))::H') F (wpList P ops Q rest)):At β n Γ H F (wpList P ops Q (o::rest)):=
 gP hw fun a w S f st hk=>by
  subst hoff;have hl:(E.all ys).length=ys.length*E.size:=E.all_length _;have hlx:(E.all xs).length=m*E.size:=by rw [E.all_length,hm]
  have hle:q*E.size+ys.length*E.size≤m*E.size:=by rw [←Nat.add_mul];exact Nat.mul_le_mul_right _ hq
  have s2:=st.perm hH.perm;have hown:w.ownsRow 0 t' E.size (.slice (some ⟨g,0,none⟩) m cap) xs.length (E.all xs):=st.ok _ hH.mem;rw [hm] at hown
  have hcp:(Builtin.copy_ #[t,t] o.type #[.slice (some ⟨g,q*E.size,none⟩) l lc,.slice A s c]).run P w= .ok (goInt ys.length) (w.setCells g (q*E.size) (E.all ys)):=by
   by_cases h0:0<ys.length
   ·obtain⟨b,off,rfl,hb⟩:=hr.cellsE st hk h0;have:=rO (P:=P) w t t o.type e E.size g (q*E.size) l lc ⟨b,off,none⟩ s c (E.all ys) hu hs (by rw [hl,hmin]) hb
     (fun j hj=>by
      rw [World.ownsRow.cellAt hown _ (by omega),List.getElem?_eq_getElem (by rw [hlx];omega)]
      rfl) (fun j _=>World.ownsRow.frozenAt hown _) E.all_one
    rwa [←hmin] at this
   ·have e0:ys=[]:=List.length_eq_zero_iff.1 (by omega);subst e0;exact tV (P:=P) w _ _ o.type e E.size _ A l lc s c hu hs hmin.symm
  have hr':(execOp a.eval o).run P w= .ok (.value (.int .i64 (ys.length:Nat))) (w.setCells g (q*E.size) (E.all ys)):=by
   unfold execOp;simp only [ho,resolve,invoke,builtin,Sem.run_bind,Sem.run_pure,Result.andThen_ok,List.map_toArray,List.map_cons,List.map_nil,f.ev hx,f.ev hy,hcp];rfl
  unfold Oper.wp;rw [hr',Oper.upon_value,hd];refine k _ _ S (f.put (by simpa [Nat.blt_eq] using hn) _) (s2.swap (fA g _ _ w) rfl rfl ?_) (All.mono (fun _ h=>h) (st.agree (fA g _ _ w) (fun c hc e=>by subst e;exact(s2.own _ (List.mem_cons_self ..) _ rfl).2.2 hc)) hk);have:=jW (E.all ys) (q*E.size) w (E.all xs) hown;rw [oU _ _ _ (by rw [hl,hlx];omega),hl,←Nat.add_mul,all_take xs q (by omega),all_drop xs _ (by omega),←E.all_append,←E.all_append] at this;show World.ownsRow _ 0 t' E.size _ _ _;have e:(xs.take q++ys++xs.drop (q+ys.length)).length=m:=by simp;omega
  rw [e];exact this
end
section
variable {α : Type} {p z : α} {n i : Nat} {cur : List α}
def vB (z p:α)(n i:Nat)(cur:List α):Prop:=cur=List.replicate i p++List.replicate (n-i) z∧i≤n
theorem rep_len(h:vB z p n i cur):cur.length=n:=by
 rw [h.1];have:=h.2;simp;omega
theorem rep_first(z p:α)(n r:Nat)(hr:r=Nat.min 1 n):vB z p n r ((List.replicate n z).take 0++List.take r [p]++(List.replicate n z).drop (0+(List.take r [p]).length)):=by
 subst hr
 cases n with
 | zero=>exact⟨rfl,Nat.le_refl _⟩
 | succ n=>
  have:Nat.min 1 (n+1)=1:=by simp
  rw [this];exact⟨by simp,by omega⟩
theorem rep_step(h:vB z p n i cur)(hi:i<n):vB z p n (i+Nat.min i (n-i)) (cur.take i++cur.take (Nat.min i (n-i))++cur.drop (i+(cur.take (Nat.min i (n-i))).length)):=by
 obtain⟨rfl,hle⟩:=h;have hm:Nat.min i (n-i)≤i:=Nat.min_le_left _ _;have hm2:Nat.min i (n-i)≤n-i:=Nat.min_le_right _ _;generalize Nat.min i (n-i)=r at*
 have t1:(List.replicate i p++List.replicate (n-i) z).take i=List.replicate i p:=by
  rw [List.take_append_of_le_length (by simp),List.take_of_length_le (by simp)]
 have t2:(List.replicate i p++List.replicate (n-i) z).take r=List.replicate r p:=by
  rw [List.take_append_of_le_length (by simp;omega),List.take_replicate,Nat.min_eq_left hm]
 rw [t1,t2,List.length_replicate];refine⟨?_,by omega⟩
 have t3:(List.replicate i p++List.replicate (n-i) z).drop (i+r)=List.replicate (n-(i+r)) z:=by
  rw [List.drop_append,List.drop_of_length_le (by simp),List.length_replicate,List.drop_replicate,List.nil_append]
  congr 1
  omega
 rw [t3,List.replicate_append_replicate]
theorem rep_l1(p:α)(n:Nat):(List.take (Nat.min 1 n) [p]).length=Nat.min 1 n:=by
 rw [List.length_take];exact Nat.min_eq_left (Nat.min_le_left 1 n)
theorem rep_l(h:vB z p n i cur):(cur.take (Nat.min i (n-i))).length=Nat.min i (n-i):=by
 rw [List.length_take,rep_len h];exact Nat.min_eq_left (Nat.le_trans (Nat.min_le_left _ _) h.2)
end
theorem min1_le(n:Nat):Nat.min 1 n≤n:=Nat.min_le_right _ _
theorem min1_or(n:Nat):1≤Nat.min 1 n∨n=0:=by
 cases n with
 | zero=>exact .inr rfl
 | succ n=>exact .inl (by simp)
theorem cutA_in{b i k z cap:Nat}(h:i<cap)(hk:k=z):cutA (some ⟨b,0,none⟩) i k cap=some ⟨b,i*z,none⟩:=by
 subst hk;unfold cutA;rw [if_neg (by omega)];have h0:(⟨b,0,none⟩:Addr).add (i*k)=⟨b,0+i*k,none⟩:=Addr.add_mid _ _ _;rw [Option.map_some,h0,Nat.zero_add]
theorem conv64{m:Nat}(h:m<9223372036854775808):IntKind.u64.wrap ((m:Nat):Int)=((m:Nat):Int):=by
 simp only [IntKind.wrap,IntKind.bits,IntKind.signed];simp;omega
theorem conv63{m:Nat}(h:m<9223372036854775808):IntKind.i64.wrap ((m:Nat):Int)=((m:Nat):Int):=by
 simp only [IntKind.wrap,IntKind.bits,IntKind.signed];simp;omega
end Go.Proofs.YtofjmphlpdhohaaGreatDoor
