/- Texts of one proof, one behind the other: CoZ, Above, RefRight, RefGrowsK, RefA. -/
import Derived.Test.YtofjmphlpdhohaaGreatDoorM8
import Derived.Test.YtofjmphlpdhohaaGreatDoorM6
import Derived.Test.YtofjmphlpdhohaaGreatDoorRows
import Derived.WalkKit
import Derived.WalkSpells
import Derived.WalkLawsBesides
import Derived.Handy
import Derived.Deep.QuietTactic
import Derived.Deep.Light
import Derived.BigQuiet
import Derived.Test.YtofjmphlpdhohaaGreatDoorM7
namespace Go.Proofs.YtofjmphlpdhohaaGreatDoor
open Go.RowKit
theorem xZ: ∃i:TypeInfo,Tryz.prog.info? 4=some i∧i.zero=some (.bool false)∧i.size=1∧i.bytes=1:=by
 have h:(Tryz.prog.info? 4).map (fun i=>(i.zero,i.size,i.bytes))=some (some (.bool false),1,1):=by kernel_rfl
 cases hi:Tryz.prog.info? 4 with
 | none=>simp [hi] at h
 | some i=>simp [hi] at h;exact⟨i,rfl,h.1,h.2.1,h.2.2⟩
theorem kT{β:fZ}{n:Nat}{Γ:Env}{H:List bS}{F:List bR}{Q:Exit→Act→World→Prop}{ops:Array Oper}{rest:List Oper}{o:Oper}{d:Nat}{x:Operand}{m:Bool}(hw:want ops Γ o=some true)(ho:o.op= .buildSlice 51 1 #[(0,x)])(hd:o.dst=some d)(hn:Nat.blt d n=true)
  (hx:Γ.ev x=some (.bool m)) (k: ∀b,At β n ((d,.slice (some ⟨b,0,none⟩) 1 1)::Γ) (.obj b (.cells (fJ.all [m]).toArray 4)::H) F (wpList Tryz.prog ops Q rest)):At β n Γ H F (wpList Tryz.prog ops Q (o::rest)):=by
 obtain⟨i,hi,hz,hs,_⟩:=xZ;refine qH hw ho hd hn hx Tryz.underlying51 hi hz (by omega) (by omega) ?_ k;rw [hs]
 kernel_rfl
theorem lC{β:fZ}{n:Nat}{Γ:Env}{H:List bS}{F:List bR}{Q:Exit→Act→World→Prop}{ops:Array Oper}{rest:List Oper}{o:Oper}{d:Nat}{x y:Operand}{c q:Nat}{v:Value}{A:Option Addr}{xs ys:List Bool}{H':List bS}(hH:fC H (fJ.row v 4 xs) H')(hr:cD β H F fJ A ys)(hg:o.guard=none)
  (ho:o.op= .call {callee:= .builtin .append,args:= #[x,y],argTypes:= #[51,51]}) (hd:o.dst=some d) (hn:Nat.blt d n=true)
  (hx:Γ.ev x=some v) (hy:Γ.ev y=some (.slice A q c)) (hq:q=ys.length) (hl:xs.length+ys.length≤140737488355328)
  (k: ∀A' cap',At β n ((d,.slice A' (xs++ys).length cap')::Γ) (fJ.row (.slice A' (xs++ys).length cap') 4 (xs++ys)::H') F (wpList Tryz.prog ops Q rest)):At β n Γ H F (wpList Tryz.prog ops Q (o::rest)):=by
 obtain⟨i,hi,hz,hs,hb⟩:=xZ;exact mX hH hr hg ho hd hn Tryz.underlying51 hi hz hs hb rfl hx hy hq (by omega) (by decide) k
theorem intInfo: ∃i:TypeInfo,Tryz.prog.info? 3=some i∧i.zero=some (.int .i64 0)∧i.size=1∧i.bytes=8:=by
 have h:(Tryz.prog.info? 3).map (fun i=>(i.zero,i.size,i.bytes))=some (some (.int .i64 0),1,8):=by kernel_rfl
 cases hi:Tryz.prog.info? 3 with
 | none=>simp [hi] at h
 | some i=>simp [hi] at h;exact⟨i,rfl,h.1,h.2.1,h.2.2⟩
theorem at_one_int{β:fZ}{n:Nat}{Γ:Env}{H:List bS}{F:List bR}{Q:Exit→Act→World→Prop}{ops:Array Oper}{rest:List Oper}{o:Oper}{d:Nat}{x:Operand}{m:Int}(hw:want ops Γ o=some true)(ho:o.op= .buildSlice 24 1 #[(0,x)])(hd:o.dst=some d)(hn:Nat.blt d n=true)
  (hx:Γ.ev x=some (.int .i64 m)) (k: ∀b,At β n ((d,.slice (some ⟨b,0,none⟩) 1 1)::Γ) (.obj b (.cells (hY.all [m]).toArray 3)::H) F (wpList Tryz.prog ops Q rest)):At β n Γ H F (wpList Tryz.prog ops Q (o::rest)):=by
 obtain⟨i,hi,hz,hs,_⟩:=intInfo;refine qH hw ho hd hn hx Tryz.underlying24 hi hz (by omega) (by omega) ?_ k;rw [hs]
 kernel_rfl
theorem at_app_int{β:fZ}{n:Nat}{Γ:Env}{H:List bS}{F:List bR}{Q:Exit→Act→World→Prop}{ops:Array Oper}{rest:List Oper}{o:Oper}{d:Nat}{x y:Operand}{c q:Nat}{v:Value}{A:Option Addr}{xs ys:List Int}{H':List bS}(hH:fC H (hY.row v 3 xs) H')(hr:cD β H F hY A ys)(hg:o.guard=none)
  (ho:o.op= .call {callee:= .builtin .append,args:= #[x,y],argTypes:= #[24,24]}) (hd:o.dst=some d) (hn:Nat.blt d n=true)
  (hx:Γ.ev x=some v) (hy:Γ.ev y=some (.slice A q c)) (hq:q=ys.length) (hl:xs.length+ys.length≤17592186044416)
  (k: ∀A' cap',At β n ((d,.slice A' (xs++ys).length cap')::Γ) (hY.row (.slice A' (xs++ys).length cap') 3 (xs++ys)::H') F (wpList Tryz.prog ops Q rest)):At β n Γ H F (wpList Tryz.prog ops Q (o::rest)):=by
 obtain⟨i,hi,hz,hs,hb⟩:=intInfo;exact mX hH hr hg ho hd hn Tryz.underlying24 hi hz hs hb rfl hx hy hq (by omega) (by decide) k
theorem arr64_zero:(Tryz.prog.info? 112).bind (·.zero)=some (.agg (fJ.all (List.replicate 64 false)).toArray):=by kernel_rfl
theorem step_specM{m:Nat}{made:List Bool}(hm:made.length=m)(bs:Nat)(vars loops buf:Int)(MA:Option Addr)(mc:Nat)(x:dR):dS Tryz.prog 53 [.pointer (some ⟨bs,0,none⟩),.agg #[.int .i64 x.how,.int .i64 x.buf,.slice x.at_.addr x.at_.list.length x.at_.cap,.slice x.loops.addr x.loops.list.length x.loops.cap,.int .u8 x.fn,.slice x.ops.addr x.ops.list.length x.ops.cap]]
  [.obj bs (.cells [.int .i64 vars,.int .i64 loops,.int .i64 buf,.slice MA m mc].toArray 115)] [lA x,fJ.sl (.slice MA m mc) made] (fun _:Int×Int=> .bool (iY vars made x.c)) (fun y=>[.obj bs (.cells [.int .i64 vars,.int .i64 y.1,.int .i64 y.2,.slice MA m mc].toArray 115)]) (fun _=>[]):=by
 subst hm;exact step_spec bs vars loops buf MA mc made x
def outB (n:Nat)(k:Int):Bool:=decide (k<0) || decide ((n:Int)≤k)
def wS (c:gH):Bool:=gY c.vars c.bufs c.steps (mC c.bufs)&&c.outs.all fun k=>decide (0≤k∧k<c.bufs.length)
theorem lS(l:List jP):(mC l).length=l.length:=List.length_map _
def oR (c:gH)(i:Nat)(inp made:List Bool)(r:Bool):Prop:=inp.length=64∧made=(mC c.bufs).take i∧ ∃seen:List Int,(∀z∈seen,0≤z)∧(∀k:Nat,k<64→inp[k]?=some (seen.contains (k:Int)))∧r=(nJ c.vars (c.bufs.drop i) seen&&wS c)
def jO (c:gH)(i:Nat)(made:List Bool)(r:Bool):Prop:=made.length=c.bufs.length∧r=(gY c.vars c.bufs (c.steps.drop i) made&&c.outs.all fun k=>decide (0≤k∧k<c.bufs.length))
section
variable {c : fA} {r : Bool}
theorem uQ(h:dP c.c=r)(h1:0≤c.vars)(h2:c.vars≤6)(h3:(c.bufs.list.length:Int)≤1024)(h4:(c.steps.list.length:Int)≤1024)(h5:(c.outs.list.length:Int)≤64):r=(nJ c.c.vars c.c.bufs []&&wS c.c):=by
 rw [←h];unfold dP;rw [decide_eq_true (show 0≤c.c.vars∧c.c.vars≤6∧c.c.bufs.length≤1024∧c.c.steps.length≤1024∧c.c.outs.length≤64 from ⟨h1,h2,by show(oW c.bufs.list).length≤1024;rw [cS];omega,by show(pO c.steps.list).length≤1024;rw [dL];omega,by show c.outs.list.length≤64;omega⟩),Bool.true_and];rfl
theorem gE(h:dP c.c=r)(h1: ¬(0≤c.vars∧c.vars≤6∧(c.bufs.list.length:Int)≤1024∧(c.steps.list.length:Int)≤1024∧(c.outs.list.length:Int)≤64)):r=false:=by
 rw [←h];unfold dP;rw [decide_eq_false (show ¬(0≤c.c.vars∧c.c.vars≤6∧c.c.bufs.length≤1024∧c.c.steps.length≤1024∧c.c.outs.length≤64) from fun⟨a,b,d,e,f⟩=>h1 ⟨a,b,by have d:(oW c.bufs.list).length≤1024:=d;rw [cS] at d;omega,by have e:(pO c.steps.list).length≤1024:=e;rw [dL] at e;omega,by have f:c.outs.list.length≤64:=f;omega⟩),Bool.false_and]
end
section
variable {c : gH} {i : Nat} {inp made : List Bool} {r : Bool} {u : jP}
theorem bufs_start(h:r=(nJ c.vars c.bufs []&&wS c)):oR c 0 (List.replicate 64 false) [] r:=by
 refine⟨rfl,rfl,[],?_,?_,h⟩
 ·intro z hz;cases hz
 ·intro k hk;rw [List.getElem?_replicate,if_pos hk];rfl
theorem bufs_len(h:oR c i inp made r)(hi:i≤c.bufs.length):made.length=i:=by
 rw [h.2.1,List.length_take,lS];omega
theorem sR(h:oR c i inp made r)(hu:c.bufs[i]?=some u)(k:fN u.sides c.vars=false∨u.input< -1∨64≤u.input∨0≤u.input∧inp[u.input.toNat]?=some true):r=false:=by
 obtain⟨h1,_,seen,h2,h3,h4⟩:=h;rw [gR hu,nJ] at h4;rw [h4]
 rcases k with k | k | k | ⟨k,e⟩
 ·rw [k];rfl
 ·rw [decide_eq_false (show ¬(-1≤u.input∧u.input<64) from fun h=>by omega)];simp
 ·rw [decide_eq_false (show ¬(-1≤u.input∧u.input<64) from fun h=>by omega)];simp
 ·have hlt:=(List.getElem?_eq_some_iff.1 e).1;rw [h3 _ (by omega)] at e
  have e2:seen.contains u.input=true:=by
   have:((u.input.toNat:Nat):Int)=u.input:=by omega
   rw [←this];exact Option.some.inj e
  rw [e2];simp
theorem zR(h:made=(mC c.bufs).take i)(hu:c.bufs[i]?=some u):made++[decide (0≤u.input)]=(mC c.bufs).take (i+1):=by
 have hm:(mC c.bufs)[i]?=some (decide (0≤u.input)):=by
  unfold mC;rw [List.getElem?_map,hu];rfl
 obtain⟨hi,e⟩:=List.getElem?_eq_some_iff.1 hm;rw [List.take_succ_eq_append_getElem hi,e,h]
theorem bufs_in(h:oR c i inp made r)(hu:c.bufs[i]?=some u)(hg:fN u.sides c.vars=true)(h1: -1≤u.input)(h2:u.input<64)(h3:0≤u.input)(he:inp[u.input.toNat]?=some false):oR c (i+1) (inp.set u.input.toNat true) (made++[decide (0≤u.input)]) r:=by
 obtain⟨k1,k2,seen,k3,k4,k5⟩:=h;refine⟨by simpa using k1,zR k2 hu,u.input::seen,fun z hz=>?_,fun k hk=>?_,?_⟩
 ·rcases List.mem_cons.1 hz with rfl | hz
  ·exact h3
  ·exact k3 z hz
 ·rw [List.getElem?_set,List.contains_cons]
  by_cases e:u.input.toNat=k
  ·rw [if_pos e,if_pos (by omega)];have:((k:Nat):Int)=u.input:=by omega
   rw [this];simp
  ·rw [if_neg e,k4 k hk];have:((k:Int)==u.input)=false:=beq_eq_false_iff_ne.2 (by omega);rw [this];rfl
 ·rw [gR hu,nJ,hg,decide_eq_true ⟨h1,h2⟩,if_pos h3] at k5
  have e2:seen.contains u.input=false:=by
   rw [k4 _ (by omega)] at he;have:((u.input.toNat:Nat):Int)=u.input:=by omega
   rw [←this];exact Option.some.inj he
  rw [e2] at k5
  simpa using k5
theorem bufs_no(h:oR c i inp made r)(hu:c.bufs[i]?=some u)(hg:fN u.sides c.vars=true)(h1: -1≤u.input)(h3:u.input<0):oR c (i+1) inp (made++[decide (0≤u.input)]) r:=by
 obtain⟨k1,k2,seen,k3,k4,k5⟩:=h;refine⟨k1,zR k2 hu,seen,k3,k4,?_⟩;rw [gR hu,nJ,hg,decide_eq_true (show-1≤u.input∧u.input<64 from ⟨h1,by omega⟩),if_neg (by omega)] at k5
 have e2:seen.contains u.input=false:=by
  rw [List.contains_eq_mem];exact decide_eq_false fun h=>by have:=k3 _ h;omega
 rw [e2] at k5
 simpa using k5
theorem bufs_end(h:oR c i inp made r)(hi:c.bufs.length≤i):made=mC c.bufs∧r=wS c:=by
 obtain⟨_,k2,seen,_,_,k5⟩:=h;rw [List.drop_of_length_le hi] at k5;refine⟨by rw [k2,List.take_of_length_le (by rw [lS];exact hi)],by rw [k5];rfl⟩
theorem uU(hm:made=mC c.bufs)(h:r=wS c):jO c 0 made r:=⟨by rw [hm,lS],by rw [h,hm];rfl⟩
theorem qS{x:dY}(h:jO c i made r)(hx:c.steps[i]?=some x)(k:x.buf<0∨(c.bufs.length:Int)≤x.buf∨(∃u,c.bufs[x.buf.toNat]?=some u∧0≤u.input)∨iY c.vars made x=false):r=false:=by
 obtain⟨_,h2⟩:=h;rw [gR hx,gY] at h2;rw [h2]
 rcases k with k | k | ⟨u,e,k⟩ | k
 ·rw [decide_eq_false (show ¬0≤x.buf by omega)];rfl
 ·rw [List.getElem?_eq_none (show c.bufs.length≤x.buf.toNat by omega)];simp
 ·rw [e];simp only;rw [decide_eq_false (show ¬u.input<0 by omega)];simp
 ·rw [k];simp
theorem steps_ok{x:dY}{u:jP}(h:jO c i made r)(hx:c.steps[i]?=some x)(h0:0≤x.buf)(hu:c.bufs[x.buf.toNat]?=some u)(h1:u.input<0)(k:iY c.vars made x=true):jO c (i+1) (made.set x.buf.toNat true) r:=by
 obtain⟨h2,h3⟩:=h;refine⟨by simpa using h2,?_⟩;rw [gR hx,gY,hu,decide_eq_true h0] at h3;simp only at h3;rw [decide_eq_true h1,k] at h3
 simpa using h3
theorem qT(h:jO c i made r)(hi:c.steps.length≤i):r=c.outs.all fun k=>decide (0≤k∧k<c.bufs.length):=by
 obtain⟨_,h3⟩:=h;rw [List.drop_of_length_le hi] at h3;rw [h3];rfl
end
theorem outs_all{n m:Nat}{l:List Int}(h:n=m):(!l.any (outB m))=l.all fun k=>decide (0≤k∧k<(n:Int)):=by
 subst h
 have e:outB n=fun k=>!decide (0≤k∧k<(n:Int)):=by
  funext k
  unfold outB;rw [Bool.eq_iff_iff];simp
 rw [e,any_not]
theorem lP(z0:Int):Tryz.prog.built 115 [(0,.int .i64 z0)]=some #[.int .i64 z0,.int .i64 0,.int .i64 0,.slice none 0 0]:=by kernel_rfl
theorem pB:(Tryz.prog.info? 47).bind (·.zero)=some (.agg #[.slice none 0 0,.int .i64 0]):=by kernel_rfl
theorem oA:(Tryz.prog.info? 40).bind (·.zero)=some (.agg #[.int .i64 0,.int .i64 0,.slice none 0 0,.slice none 0 0,.int .u8 0,.slice none 0 0]):=by kernel_rfl
set_option maxRecDepth 100000 in
theorem indexFI_spec(A:Option Addr)(c:Nat)(l:List Int)(hl:l.length≤140737488355328)(f:FuncId)(cap:List Value)(G:List bR)(p:Int→Bool)(hcf: ∀(args:Array Value) (w:World),(callFunc f args).run Tryz.prog w= .ok (.enter f args) w)(hf: ∀k:Int,dS Tryz.prog f (.int .i64 k::cap) [] G (fun _:Unit=> .bool (p k)) (fun _=>[]) (fun _=>[])):dS Tryz.prog 114 [.slice A l.length c,.func (.func f) #[] cap.toArray] [] (hY.sl (.slice A l.length c) l::G) (fun(_:Unit)=> .int .i64 (tN p l 0)) (fun _=>[]) (fun _=>[]):=by
 have hT:=cG;generalize hR:tN p l 0=r;refine cR Tryz.func114 rfl Tryz.ntmps114 rfl ?_;intro β hM;refine sr<|sp hT ?_;refine nn<|bJ<|sr<|sp3 hT ?_;refine nn<|bQ<|cI (ι:=Nat) [(0,_),(1,_),(7,_)] ⟨rfl,rfl,rfl,trivial⟩ (fun i=>[(8,.int .i64 (i:Nat))]) (fun _=>[]) (fun i=>[bR.pure (i≤l.length∧r=tN p (l.drop i) i)]) (fun i=>l.length-i) 0 ⟨rfl,trivial⟩ .nil ⟨Has.pure (⟨by omega,hR.symm⟩),trivial⟩ ?_;rintro i;refine cC (Has.of mT0) fun hinv2=>?_;refine sr<|sp hT ?_;refine nn<|bJ<|bL rfl (fun hc9=>?_) (fun hc9=>?_)
 ·have hc9:=of_decide_eq_true hc9;refine bN<|bE<|bJ<|bQ<|sr<|sp2 hT ?_;refine nn<|sr<|sp3 hT ?_
  obtain⟨x1,hx2⟩: ∃x',l[i]?=some x':=⟨_,List.getElem?_eq_getElem (by omega)⟩
  refine ss (bM hT (k:=i) (bC (Has.of mT1)) rfl rfl rfl rfl rfl rfl rfl (by omega)) ?_;refine ss (bV hT (cD.knows (bC (Has.of mT1)) (k:=i) (x:=x1) hx2 0) rfl rfl rfl rfl rfl) ?_;refine xI hcf (hf x1) rfl rfl rfl rfl rfl rfl rfl .nil (bK.drop 2) fun _=>?_;refine nn<|bL rfl (fun hc16=>?_) (fun hc16=>?_)
  ·refine sr<|sp2 hT ?_;refine nn<|bI<|bO<|bG<|bG<|bO<|bG ?_;have hr:=(qI hinv2.2 hx2).1 ‹_›;subst hr;exact bD () rfl (bH rfl) .nil trivial rfl
  refine bN<|bU<|bE<|bF<|sp hT ?_;refine bX (z':=(((i+1):Nat):Int)) (cT (by omega) (by omega)) ?_;refine sp hT ?_;refine nn ?_;exact bW (i+1) (by omega) ⟨rfl,trivial⟩ ⟨rfl,rfl,rfl,trivial⟩ .nil ⟨Has.pure (⟨by omega,(qI hinv2.2 hx2).2 ‹_›⟩),trivial⟩ (bK.drop 1)
 have hc9:=Int.not_lt.1 (of_decide_eq_false hc9);refine cL<|bZ<|bZ<|cM<|bE<|sr<|sp hT ?_;refine nn<|bI ?_;have hr:=idxG_end hinv2.2 (by omega);subst hr;exact bD () rfl (bH rfl) .nil trivial rfl
set_option maxRecDepth 100000 in
theorem vF(A:Option Addr)(c:Nat)(l:List Int)(hl:l.length≤140737488355328)(f:FuncId)(cap:List Value)(G:List bR)(p:Int→Bool)(hcf: ∀(args:Array Value) (w:World),(callFunc f args).run Tryz.prog w= .ok (.enter f args) w)(hf: ∀k:Int,dS Tryz.prog f (.int .i64 k::cap) [] G (fun _:Unit=> .bool (p k)) (fun _=>[]) (fun _=>[])):dS Tryz.prog 54 [.slice A l.length c,.func (.func f) #[] cap.toArray] [] (hY.sl (.slice A l.length c) l::G) (fun(_:Unit)=> .bool (l.any p)) (fun _=>[]) (fun _=>[]):=by
 have hT:=cG;refine cR Tryz.func54 rfl Tryz.ntmps54 rfl ?_;intro β hM;refine sr<|sp hT ?_;refine nn<|sr<|sp2 hT ?_;refine cV Tryz.func114 (indexFI_spec A c l hl f cap G p hcf hf) rfl rfl .nil bK.self fun _=>?_;refine sp2 hT ?_;refine nn<|bI ?_;exact bD () rfl (bH rfl) .nil trivial (congrArg Value.bool (wP p l 0 (by decide)))
set_option maxRecDepth 100000 in
theorem right1_spec(b:Nat)(c:fA)(k:Int):dS Tryz.prog 55 [.int .i64 k,.pointer (some ⟨b,0,none⟩)] [] [bR.cells b 0 [.int .i64 c.vars,.slice c.bufs.addr c.bufs.list.length c.bufs.cap,.slice c.steps.addr c.steps.list.length c.steps.cap,.slice c.outs.addr c.outs.list.length c.outs.cap]] (fun(_:Unit)=> .bool (outB c.bufs.list.length k)) (fun _=>[]) (fun _=>[]):=by
 have hT:=cG;refine cR Tryz.func55 rfl Tryz.ntmps55 rfl ?_;intro β hM;refine sr<|sp hT ?_;refine nn<|sr<|sp3 hT ?_;refine bP (fun hg6=>?_) (fun hg6=>?_)
 ·have hg6:=of_decide_eq_true hg6;refine sk4 ?_;refine sk ?_;refine sp2 hT ?_;refine nn<|bI ?_;exact bD () rfl (bH rfl) .nil trivial (by first | (unfold outB;simp [*];done) | (unfold outB;simp [*];omega))
 have hg6:=Int.not_lt.1 (of_decide_eq_false hg6);refine sp2 hT ?_;refine ss (bV hT (fR (off:=1) (Has.of mT0)) rfl rfl rfl rfl rfl) ?_;refine sp4 hT ?_;refine nn<|bI ?_;exact bD () rfl (bH rfl) .nil trivial (by first | (unfold outB;simp [*];done) | (unfold outB;simp [*];omega))
set_option maxRecDepth 100000 in
theorem xU(c:fA):dS Tryz.prog 25 [.agg #[.int .i64 c.vars,.slice c.bufs.addr c.bufs.list.length c.bufs.cap,.slice c.steps.addr c.steps.list.length c.steps.cap,.slice c.outs.addr c.outs.list.length c.outs.cap]] [] [jE c] (fun(_:Unit)=> .bool (dP c.c)) (fun _=>[]) (fun _=>[]):=by
 have hT:=cG;generalize hR:dP c.c=r;refine cR Tryz.func25 rfl Tryz.ntmps25 rfl ?_;intro β hM;refine sr<|fS rfl rfl rfl rfl rfl rfl fun b1=>?_;refine sp hT ?_;refine nn<|bJ<|sr<|sp hT ?_;refine ss (ldO hT (dU .head)) ?_;refine sp2 hT ?_;refine bP (fun hg12=>?_) (fun hg12=>?_)
 ·have hg12:=of_decide_eq_true hg12;refine sk3 ?_;refine sp2 hT ?_;refine sk4 ?_;refine sp2 hT ?_;refine sk4 ?_;refine sp2 hT ?_;refine sk4 ?_;refine sp hT ?_;refine nn<|cF rfl rfl ?_;refine sr<|sp hT ?_;refine nn<|bI<|bG ?_;have hr:=gE hR (by omega);subst hr;exact bD () rfl (bH rfl) .nil trivial rfl
 have hg12:=Int.not_lt.1 (of_decide_eq_false hg12);refine sp hT ?_;refine ss (ldO hT (dU .head)) ?_;refine sp3 hT ?_;refine bP (fun hg17=>?_) (fun hg17=>?_)
 ·have hg17:=of_decide_eq_true hg17;refine sk4 ?_;refine sp2 hT ?_;refine sk4 ?_;refine sp2 hT ?_;refine sk4 ?_;refine sp hT ?_;refine nn<|cF rfl rfl ?_;refine sr<|sp hT ?_;refine nn<|bI<|bG ?_;have hr:=gE hR (by omega);subst hr;exact bD () rfl (bH rfl) .nil trivial rfl
 have hg17:=Int.not_lt.1 (of_decide_eq_false hg17);refine sp hT ?_;refine ss (ldO hT (cY .head)) ?_;refine sp4 hT ?_;refine bP (fun hg23=>?_) (fun hg23=>?_)
 ·have hg23:=of_decide_eq_true hg23;refine sk4 ?_;refine sp2 hT ?_;refine sk4 ?_;refine sp hT ?_;refine nn<|cF rfl rfl ?_;refine sr<|sp hT ?_;refine nn<|bI<|bG ?_;have hr:=gE hR (by omega);subst hr;exact bD () rfl (bH rfl) .nil trivial rfl
 have hg23:=Int.not_lt.1 (of_decide_eq_false hg23);refine sp hT ?_;refine ss (ldO hT (iW .head)) ?_;refine sp4 hT ?_;refine bP (fun hg29=>?_) (fun hg29=>?_)
 ·have hg29:=of_decide_eq_true hg29;refine sk4 ?_;refine sp hT ?_;refine nn<|cF rfl rfl ?_;refine sr<|sp hT ?_;refine nn<|bI<|bG ?_;have hr:=gE hR (by omega);subst hr;exact bD () rfl (bH rfl) .nil trivial rfl
 have hg29:=Int.not_lt.1 (of_decide_eq_false hg29);refine sp hT ?_;refine ss (ldO hT (iE .head)) ?_;refine sp3 hT ?_;refine nn<|bL rfl (fun hc34=>?_) (fun hc34=>?_)
 ·have hc34:=of_decide_eq_true hc34;refine sr<|sp hT ?_;refine nn<|bI<|bG ?_;have hr:=gE hR (by omega);subst hr;exact bD () rfl (bH rfl) .nil trivial rfl
 have hc34:=Int.not_lt.1 (of_decide_eq_false hc34);refine bN<|bE<|bJ ?_;have hr0:=uQ hR (by omega) (by omega) (by omega) (by omega) (by omega);refine bF<|iA rfl rfl rfl rfl arr64_zero rfl fun b2=>?_;refine pP (E:=fJ) (xs:=List.replicate 64 false) .head ?_;refine nn<|sr<|sp hT ?_;refine ss (ldO hT (dU kT1)) ?_;refine ss (jA rfl rfl (lP _)) ?_;refine fS rfl rfl rfl rfl rfl rfl fun b3=>?_;refine sp hT ?_;refine nn<|bJ<|sr<|sp hT ?_;refine ss (ldO hT (cY kT2)) ?_;refine sp2 hT ?_;refine nn<|bQ<|kL (t:=4) fJ ?_;refine cI (ι:=Nat×List Bool×List Bool×Option Addr×Nat) [(1,_),(3,_),(4,_),(40,_),(41,_)] ⟨rfl,rfl,rfl,rfl,rfl,trivial⟩ (fun⟨i,inp,made,MA,mc⟩=>[(42,.int .i64 (i:Nat))]) (fun⟨i,inp,made,MA,mc⟩=>[fJ.held (.slice (some ⟨b2,0,none⟩) 64 64) inp,.obj b3 (.cells [.int .i64 c.vars,.int .i64 0,.int .i64 0,.slice MA made.length mc].toArray 115),fJ.row (.slice MA made.length mc) 4 made]) (fun⟨i,inp,made,MA,mc⟩=>[bR.pure (i≤c.bufs.list.length∧oR c.c i inp made r)]) (fun⟨i,inp,made,MA,mc⟩=>c.bufs.list.length-i) (0,List.replicate 64 false,[],none,0) ⟨rfl,trivial⟩ (.cons kT2 (.cons kT1 (.cons .head .nil))) ⟨Has.pure (⟨by omega,bufs_start hr0⟩),trivial⟩ ?_;rintro⟨i,inp,made,MA,mc⟩;dsimp only;refine cC (Has.of mT0) fun hinv6=>?_;have hil:inp.length=64:=hinv6.2.1;have hml:=bufs_len hinv6.2 (by show i≤(oW c.bufs.list).length;rw [cS];omega);refine sr<|sp hT ?_;refine nn<|bJ<|bL rfl (fun hc43=>?_) (fun hc43=>?_)
 ·have hc43:=of_decide_eq_true hc43;refine bN<|bE<|bJ<|bQ<|sr<|cB (tD.sl (.slice c.bufs.addr c.bufs.list.length c.bufs.cap) c.bufs.list) (kR (hU (Has.of mT1))) ?_
  obtain⟨x4,hx5⟩: ∃x',c.bufs.list[i]?=some x':=⟨_,List.getElem?_eq_getElem (by omega)⟩
  refine ss (bM hT (k:=i) (bC (Has.of mT0)) rfl rfl rfl rfl rfl rfl rfl (by omega)) ?_;refine ss (dB hT (cD.knows (bC (Has.of mT0)) (k:=i) (x:=x4) hx5 0) rfl rfl rfl rfl rfl) ?_;refine iA rfl rfl rfl rfl pB rfl fun b6=>?_;refine sto hT .head ?_;refine nn<|bJ<|bJ<|cB (bufF x4) (Has.each (vQ (hU (Has.of mT2))) (List.mem_of_getElem? hx5)) ?_;refine bF<|sp hT ?_;refine ss (ldO hT (dU .head)) ?_;refine sp hT ?_;refine ss (ldO hT (dU kT4)) ?_;refine cV Tryz.func52 (bAc x4.sides c.vars) rfl rfl .nil ⟨(Has.of mT0),trivial⟩ fun _=>?_;refine sp2 hT ?_;refine bP (fun hg52=>?_) (fun hg52=>?_)
  ·have hg52:=fX hg52;refine sk3 ?_;refine sp2 hT ?_;refine sk3 ?_;refine sp2 hT ?_;refine sk4 ?_;refine sk4 ?_;refine sk ?_;refine sp hT ?_;refine nn<|cF rfl rfl ?_;refine sr<|sp hT ?_;refine nn<|bI<|bG<|bO<|bG<|bG<|bO<|bG ?_;have hr:=sR hinv6.2 (dE hx5) (by first | exact .inl (show fN (cU (gL.sides _).list) c.vars=false by assumption) | exact .inr (.inl (by show x4.input< -1;omega)) | exact .inr (.inr (.inl (by show 64≤x4.input;omega))) | exact .inr (.inr (.inr ⟨by show 0≤x4.input;omega,by subst_vars;assumption⟩)));subst hr;exact bD () rfl (bH rfl) .nil trivial rfl
  have hg52:=fY hg52;refine sp hT ?_;refine ss (ldO hT (cY .head)) ?_;refine sp3 hT ?_;refine bP (fun hg57=>?_) (fun hg57=>?_)
  ·have hg57:=of_decide_eq_true hg57;refine sk3 ?_;refine sp2 hT ?_;refine sk4 ?_;refine sk4 ?_;refine sk ?_;refine sp hT ?_;refine nn<|cF rfl rfl ?_;refine sr<|sp hT ?_;refine nn<|bI<|bG<|bO<|bG<|bG<|bO<|bG ?_;have hr:=sR hinv6.2 (dE hx5) (by first | exact .inl (show fN (cU (gL.sides _).list) c.vars=false by assumption) | exact .inr (.inl (by show x4.input< -1;omega)) | exact .inr (.inr (.inl (by show 64≤x4.input;omega))) | exact .inr (.inr (.inr ⟨by show 0≤x4.input;omega,by subst_vars;assumption⟩)));subst hr;exact bD () rfl (bH rfl) .nil trivial rfl
  have hg57:=Int.not_lt.1 (of_decide_eq_false hg57);refine sp hT ?_;refine ss (ldO hT (cY .head)) ?_;refine sp3 hT ?_;refine bP (fun hg62=>?_) (fun hg62=>?_)
  ·have hg62:=of_decide_eq_true hg62;refine sk4 ?_;refine sk4 ?_;refine sk ?_;refine sp hT ?_;refine nn<|cF rfl rfl ?_;refine sr<|sp hT ?_;refine nn<|bI<|bG<|bO<|bG<|bG<|bO<|bG ?_;have hr:=sR hinv6.2 (dE hx5) (by first | exact .inl (show fN (cU (gL.sides _).list) c.vars=false by assumption) | exact .inr (.inl (by show x4.input< -1;omega)) | exact .inr (.inr (.inl (by show 64≤x4.input;omega))) | exact .inr (.inr (.inr ⟨by show 0≤x4.input;omega,by subst_vars;assumption⟩)));subst hr;exact bD () rfl (bH rfl) .nil trivial rfl
  have hg62:=Int.not_le.1 (of_decide_eq_false hg62);refine sp hT ?_;refine ss (ldO hT (cY .head)) ?_;refine sp2 hT ?_;refine bP (fun hg66=>?_) (fun hg66=>?_)
  ·have hg66:=of_decide_eq_true hg66;refine sp hT ?_;refine ss (ldO hT (cY .head)) ?_
   obtain⟨x7,hx8⟩: ∃x',inp[x4.input.toNat]?=some x':=⟨_,List.getElem?_eq_getElem (by omega)⟩
   refine ss (kS hT (k:=x4.input.toNat) rfl rfl rfl rfl rfl (by omega) (by omega)) ?_;refine ss (bV hT (cD.knows (reads_held kT1) (k:=x4.input.toNat) (x:=x7) hx8 0) rfl rfl rfl rfl rfl) ?_;refine sp2 hT ?_;refine nn<|bL rfl (fun hc72=>?_) (fun hc72=>?_)
   ·refine sr<|sp hT ?_;refine nn<|bI<|bG<|bO<|bG<|bG<|bO<|bG ?_;have hr:=sR hinv6.2 (dE hx5) (by first | exact .inl (show fN (cU (gL.sides _).list) c.vars=false by assumption) | exact .inr (.inl (by show x4.input< -1;omega)) | exact .inr (.inr (.inl (by show 64≤x4.input;omega))) | exact .inr (.inr (.inr ⟨by show 0≤x4.input;omega,by subst_vars;assumption⟩)));subst hr;exact bD () rfl (bH rfl) .nil trivial rfl
   refine bN<|bE<|bJ<|sr<|sp hT ?_;refine ss (ldO hT (cY .head)) ?_;refine sp hT ?_;refine nn<|bL rfl (fun hc75=>?_) (fun hc75=>?_)
   ·have hc75:=of_decide_eq_true hc75;refine bF<|sp hT ?_;refine ss (ldO hT (cY .head)) ?_;refine ss (kS hT (k:=x4.input.toNat) rfl rfl rfl rfl rfl (by omega) (by omega)) ?_;refine rA hT (k:=x4.input.toNat) (fo:=0) (y':=true) kT1 rfl rfl rfl rfl rfl rfl rfl rfl rfl hx8 rfl ?_;refine nn<|oL 12 _ _ [(true,0),(true,1),(true,2),(true,3),(true,4),(true,5),(true,6),(true,7),(false,8),(false,9),(true,10),(true,11)] gI (by decide+kernel) (.cons .head (.cons .head (.cons .head (.cons kT1 .nil)))) bK.self ?_;refine puL hT ?_;refine puL hT ?_;refine puL hT ?_;refine puL hT ?_;refine stL rfl (ldO hT (iE kT2)) ?_;refine puL hT ?_;refine stL rfl (ldO hT (cY kT1)) ?_;refine puL hT ?_;refine jG (o:=_) rfl ?_;refine kT (m:=decide (0≤x4.input)) rfl rfl rfl rfl rfl fun b9=>?_;refine jR (.cons kT1 (.cons kT1 (.cons kT1 (.cons kT2 .nil)))) (bK.drop 0) ?_;refine jG (o:=_) rfl ?_;refine lC kT4 (kI .head rfl) rfl rfl rfl rfl rfl rfl rfl (by simp;omega) fun A10 c11=>?_;refine jR (.cons kT2 (.cons kT2 (.cons kT2 (.cons kT2 .nil)))) (bK.drop 0) ?_;refine puL hT ?_;refine puL hT ?_;refine iG (o:=_) rfl ?_;refine sto hT kT4 ?_;refine jI<|bU<|bE<|bF<|sp hT ?_;refine bX (z':=(((i+1):Nat):Int)) (cT (by omega) (by omega)) ?_;refine sp hT ?_;refine nn ?_;exact bW (i+1,inp.set x4.input.toNat true,made++[decide (0≤x4.input)],A10,c11) (by dsimp only;omega) ⟨rfl,trivial⟩ ⟨rfl,rfl,rfl,rfl,rfl,trivial⟩ (.cons kT3 (.cons .head (.cons .head (.cons kT2 .nil)))) ⟨Has.pure (⟨by dsimp only;omega,bufs_in hinv6.2 (dE hx5) (show fN (cU x4.sides.list) c.vars=true by assumption) (show-1≤x4.input by omega) (show x4.input<64 by omega) (show 0≤x4.input by omega) (by first | (subst_vars;assumption) | (exfalso;omega))⟩),trivial⟩ (bK.drop 3)
   have hc75:=Int.not_le.1 (of_decide_eq_false hc75);refine bN<|bE<|oL 12 _ _ [(true,0),(true,1),(true,2),(true,3),(true,4),(true,5),(true,6),(true,7),(false,8),(false,9),(true,10),(true,11)] gI (by decide+kernel) (.cons .head (.cons .head (.cons .head (.cons kT1 .nil)))) bK.self ?_;refine puL hT ?_;refine puL hT ?_;refine puL hT ?_;refine puL hT ?_;refine stL rfl (ldO hT (iE kT2)) ?_;refine puL hT ?_;refine stL rfl (ldO hT (cY .head)) ?_;refine puL hT ?_;refine jG (o:=_) rfl ?_;refine kT (m:=decide (0≤x4.input)) rfl rfl rfl rfl rfl fun b12=>?_;refine jR (.cons kT1 (.cons kT1 (.cons kT1 (.cons kT2 .nil)))) (bK.drop 0) ?_;refine jG (o:=_) rfl ?_;refine lC kT4 (kI .head rfl) rfl rfl rfl rfl rfl rfl rfl (by simp;omega) fun A13 c14=>?_;refine jR (.cons kT2 (.cons kT2 (.cons kT2 (.cons kT2 .nil)))) (bK.drop 0) ?_;refine puL hT ?_;refine puL hT ?_;refine iG (o:=_) rfl ?_;refine sto hT kT4 ?_;refine jI<|bU<|bE<|bF<|sp hT ?_;refine bX (z':=(((i+1):Nat):Int)) (cT (by omega) (by omega)) ?_;refine sp hT ?_;refine nn ?_;exact bW (i+1,inp,made++[decide (0≤x4.input)],A13,c14) (by dsimp only;omega) ⟨rfl,trivial⟩ ⟨rfl,rfl,rfl,rfl,rfl,trivial⟩ (.cons kT4 (.cons .head (.cons .head (.cons kT2 .nil)))) ⟨Has.pure (⟨by dsimp only;omega,bufs_no hinv6.2 (dE hx5) (show fN (cU x4.sides.list) c.vars=true by assumption) (show-1≤x4.input by omega) (show x4.input<0 by omega)⟩),trivial⟩ (bK.drop 3)
  have hg66:=Int.not_le.1 (of_decide_eq_false hg66);refine sk4 ?_;refine sp2 hT ?_;refine nn<|dZ rfl rfl ?_;refine bN<|bE<|bJ<|sr<|sp hT ?_;refine ss (ldO hT (cY .head)) ?_;refine sp hT ?_;refine nn<|bL rfl (fun hc75=>?_) (fun hc75=>?_)
  ·have hc75:=of_decide_eq_true hc75;refine bF<|sp hT ?_;refine ss (ldO hT (cY .head)) ?_
   obtain⟨x15,hx16⟩: ∃x',inp[x4.input.toNat]?=some x':=⟨_,List.getElem?_eq_getElem (by omega)⟩
   refine ss (kS hT (k:=x4.input.toNat) rfl rfl rfl rfl rfl (by omega) (by omega)) ?_;refine rA hT (k:=x4.input.toNat) (fo:=0) (y':=true) kT1 rfl rfl rfl rfl rfl rfl rfl rfl rfl hx16 rfl ?_;refine nn<|oL 12 _ _ [(true,0),(true,1),(true,2),(true,3),(true,4),(true,5),(true,6),(true,7),(false,8),(false,9),(true,10),(true,11)] gI (by decide+kernel) (.cons .head (.cons .head (.cons .head (.cons kT1 .nil)))) bK.self ?_;refine puL hT ?_;refine puL hT ?_;refine puL hT ?_;refine puL hT ?_;refine stL rfl (ldO hT (iE kT2)) ?_;refine puL hT ?_;refine stL rfl (ldO hT (cY kT1)) ?_;refine puL hT ?_;refine jG (o:=_) rfl ?_;refine kT (m:=decide (0≤x4.input)) rfl rfl rfl rfl rfl fun b17=>?_;refine jR (.cons kT1 (.cons kT1 (.cons kT1 (.cons kT2 .nil)))) (bK.drop 0) ?_;refine jG (o:=_) rfl ?_;refine lC kT4 (kI .head rfl) rfl rfl rfl rfl rfl rfl rfl (by simp;omega) fun A18 c19=>?_;refine jR (.cons kT2 (.cons kT2 (.cons kT2 (.cons kT2 .nil)))) (bK.drop 0) ?_;refine puL hT ?_;refine puL hT ?_;refine iG (o:=_) rfl ?_;refine sto hT kT4 ?_;refine jI<|bU<|bE<|bF<|sp hT ?_;refine bX (z':=(((i+1):Nat):Int)) (cT (by omega) (by omega)) ?_;refine sp hT ?_;refine nn ?_;exact bW (i+1,inp.set x4.input.toNat true,made++[decide (0≤x4.input)],A18,c19) (by dsimp only;omega) ⟨rfl,trivial⟩ ⟨rfl,rfl,rfl,rfl,rfl,trivial⟩ (.cons kT3 (.cons .head (.cons .head (.cons kT2 .nil)))) ⟨Has.pure (⟨by dsimp only;omega,bufs_in hinv6.2 (dE hx5) (show fN (cU x4.sides.list) c.vars=true by assumption) (show-1≤x4.input by omega) (show x4.input<64 by omega) (show 0≤x4.input by omega) (by first | (subst_vars;assumption) | (exfalso;omega))⟩),trivial⟩ (bK.drop 3)
  have hc75:=Int.not_le.1 (of_decide_eq_false hc75);refine bN<|bE<|oL 12 _ _ [(true,0),(true,1),(true,2),(true,3),(true,4),(true,5),(true,6),(true,7),(false,8),(false,9),(true,10),(true,11)] gI (by decide+kernel) (.cons .head (.cons .head (.cons .head (.cons kT1 .nil)))) bK.self ?_;refine puL hT ?_;refine puL hT ?_;refine puL hT ?_;refine puL hT ?_;refine stL rfl (ldO hT (iE kT2)) ?_;refine puL hT ?_;refine stL rfl (ldO hT (cY .head)) ?_;refine puL hT ?_;refine jG (o:=_) rfl ?_;refine kT (m:=decide (0≤x4.input)) rfl rfl rfl rfl rfl fun b20=>?_;refine jR (.cons kT1 (.cons kT1 (.cons kT1 (.cons kT2 .nil)))) (bK.drop 0) ?_;refine jG (o:=_) rfl ?_;refine lC kT4 (kI .head rfl) rfl rfl rfl rfl rfl rfl rfl (by simp;omega) fun A21 c22=>?_;refine jR (.cons kT2 (.cons kT2 (.cons kT2 (.cons kT2 .nil)))) (bK.drop 0) ?_;refine puL hT ?_;refine puL hT ?_;refine iG (o:=_) rfl ?_;refine sto hT kT4 ?_;refine jI<|bU<|bE<|bF<|sp hT ?_;refine bX (z':=(((i+1):Nat):Int)) (cT (by omega) (by omega)) ?_;refine sp hT ?_;refine nn ?_;exact bW (i+1,inp,made++[decide (0≤x4.input)],A21,c22) (by dsimp only;omega) ⟨rfl,trivial⟩ ⟨rfl,rfl,rfl,rfl,rfl,trivial⟩ (.cons kT4 (.cons .head (.cons .head (.cons kT2 .nil)))) ⟨Has.pure (⟨by dsimp only;omega,bufs_no hinv6.2 (dE hx5) (show fN (cU x4.sides.list) c.vars=true by assumption) (show-1≤x4.input by omega) (show x4.input<0 by omega)⟩),trivial⟩ (bK.drop 3)
 have hc43:=Int.not_lt.1 (of_decide_eq_false hc43);refine cL<|bZ<|bZ<|cM<|bE<|bJ<|sr<|sp hT ?_;refine ss (ldO hT (iW kT3)) ?_;refine sp2 hT ?_;refine nn<|bQ ?_;obtain⟨hmf,hr1⟩:=bufs_end hinv6.2 (by show(oW c.bufs.list).length≤i;rw [cS];omega);have hml2:made.length=c.bufs.list.length:=by rw [hmf,lS];exact cS _
 rw [hml2];refine cI (ι:=Nat×List Bool×Int×Int) [(1,_),(4,_),(93,_),(94,_)] ⟨rfl,rfl,rfl,rfl,trivial⟩ (fun⟨k,made,lo,bu⟩=>[(95,.int .i64 (k:Nat))]) (fun⟨k,made,lo,bu⟩=>[.obj b3 (.cells [.int .i64 c.vars,.int .i64 lo,.int .i64 bu,.slice MA c.bufs.list.length mc].toArray 115),fJ.row (.slice MA c.bufs.list.length mc) 4 made]) (fun⟨k,made,lo,bu⟩=>[bR.pure (k≤c.steps.list.length∧jO c.c k made r)]) (fun⟨k,made,lo,bu⟩=>c.steps.list.length-k) (0,made,0,0) ⟨rfl,trivial⟩ (.cons kT1 (.cons kT1 .nil)) ⟨Has.pure (⟨by omega,uU hmf hr1⟩),trivial⟩ ?_;rintro⟨k,made,lo,bu⟩;dsimp only;refine cC (Has.of mT0) fun hinv15=>?_;have hml3:made.length=c.bufs.list.length:=by rw [hinv15.2.1];exact cS _
 refine sr<|sp hT ?_;refine nn<|bJ<|bL rfl (fun hc96=>?_) (fun hc96=>?_)
 ·have hc96:=of_decide_eq_true hc96;refine bN<|bE<|bJ<|bQ<|sr<|cB (rC.sl (.slice c.steps.addr c.steps.list.length c.steps.cap) c.steps.list) (nP (iS (Has.of mT2))) ?_
  obtain⟨x23,hx24⟩: ∃x',c.steps.list[k]?=some x':=⟨_,List.getElem?_eq_getElem (by omega)⟩
  refine ss (bM hT (k:=k) (bC (Has.of mT0)) rfl rfl rfl rfl rfl rfl rfl (by omega)) ?_;refine ss (dB hT (cD.knows (bC (Has.of mT0)) (k:=k) (x:=x23) hx24 0) rfl rfl rfl rfl rfl) ?_;refine iA rfl rfl rfl rfl oA rfl fun b25=>?_;refine sto hT .head ?_;refine nn<|bJ<|bJ<|cB (lA x23) (Has.each (nE (iS (Has.of mT3))) (List.mem_of_getElem? hx24)) ?_;refine bF<|sp hT ?_;refine ss (ldO hT (cY .head)) ?_;refine sp2 hT ?_;refine bP (fun hg102=>?_) (fun hg102=>?_)
  ·have hg102:=of_decide_eq_true hg102;refine sk4 ?_;refine sk2 ?_;refine sp2 hT ?_;refine sk4 ?_;refine sk4 ?_;refine sp2 hT ?_;refine sk4 ?_;refine sp hT ?_;refine nn<|cF rfl rfl ?_;refine sr<|sp hT ?_;refine nn<|bI<|bG<|bO<|bG<|bG<|bO<|bG ?_;have hr:=qS hinv15.2 (dM hx24) (by first | exact .inl (by show x23.buf<0;omega) | exact .inr (.inl (by show((oW c.bufs.list).length:Int)≤x23.buf;rw [cS];omega)) | exact .inr (.inr (.inl ⟨_,dE ‹_›,by show 0≤gL.input _;omega⟩)) | exact .inr (.inr (.inr (show iY c.vars made (dR.c _)=false by assumption))));subst hr;exact bD () rfl (bH rfl) .nil trivial rfl
  have hg102:=Int.not_lt.1 (of_decide_eq_false hg102);refine sp hT ?_;refine ss (ldO hT (cY .head)) ?_;refine sp hT ?_;refine ss (ldO hT (cY kT4)) ?_;refine sp4 hT ?_;refine bP (fun hg110=>?_) (fun hg110=>?_)
  ·have hg110:=of_decide_eq_true hg110;refine sk4 ?_;refine sk4 ?_;refine sp2 hT ?_;refine sk4 ?_;refine sp hT ?_;refine nn<|cF rfl rfl ?_;refine sr<|sp hT ?_;refine nn<|bI<|bG<|bO<|bG<|bG<|bO<|bG ?_;have hr:=qS hinv15.2 (dM hx24) (by first | exact .inl (by show x23.buf<0;omega) | exact .inr (.inl (by show((oW c.bufs.list).length:Int)≤x23.buf;rw [cS];omega)) | exact .inr (.inr (.inl ⟨_,dE ‹_›,by show 0≤gL.input _;omega⟩)) | exact .inr (.inr (.inr (show iY c.vars made (dR.c _)=false by assumption))));subst hr;exact bD () rfl (bH rfl) .nil trivial rfl
  have hg110:=Int.not_le.1 (of_decide_eq_false hg110);refine sp hT ?_;refine ss (ldO hT (cY kT4)) ?_;refine sp hT ?_;refine ss (ldO hT (cY .head)) ?_;refine cB (tD.sl (.slice c.bufs.addr c.bufs.list.length c.bufs.cap) c.bufs.list) (kR (hU (Has.of mT4))) ?_
  obtain⟨x26,hx27⟩: ∃x',c.bufs.list[x23.buf.toNat]?=some x':=⟨_,List.getElem?_eq_getElem (by omega)⟩
  refine ss (bM hT (k:=x23.buf.toNat) (bC (Has.of mT0)) rfl rfl rfl rfl rfl rfl (by omega) (by omega)) ?_;refine sp hT ?_;refine ss (bV hT (cD.knows (bC (Has.of mT0)) (k:=x23.buf.toNat) (x:=x26) hx27 1) rfl rfl rfl rfl rfl) ?_;refine sp3 hT ?_;refine bP (fun hg120=>?_) (fun hg120=>?_)
  ·have hg120:=of_decide_eq_true hg120;refine sk4 ?_;refine sp hT ?_;refine nn<|cF rfl rfl ?_;refine sr<|sp hT ?_;refine nn<|bI<|bG<|bO<|bG<|bG<|bO<|bG ?_;have hr:=qS hinv15.2 (dM hx24) (by first | exact .inl (by show x23.buf<0;omega) | exact .inr (.inl (by show((oW c.bufs.list).length:Int)≤x23.buf;rw [cS];omega)) | exact .inr (.inr (.inl ⟨_,dE ‹_›,by show 0≤gL.input _;omega⟩)) | exact .inr (.inr (.inr (show iY c.vars made (dR.c _)=false by assumption))));subst hr;exact bD () rfl (bH rfl) .nil trivial rfl
  have hg120:=Int.not_le.1 (of_decide_eq_false hg120);refine sp hT ?_;refine ss (ldN hT (dU .head)) ?_;refine iJ (cN Tryz.func53 rfl rfl) (step_specM hml3 b3 c.vars lo bu MA mc x23) rfl rfl rfl rfl rfl (.cons kT1 .nil) (.cons kT1 .nil) (zG lR) ⟨Has.of mT2,Has.of mT0,trivial⟩ (fun _=>True) (fun _ _ _ _=>trivial) fun y28 _=>?_;refine sp2 hT ?_;refine nn<|bL rfl (fun hc125=>?_) (fun hc125=>?_)
  ·have hc125:=fX hc125;refine sr<|sp hT ?_;refine nn<|bI<|bG<|bO<|bG<|bG<|bO<|bG ?_;have hr:=qS hinv15.2 (dM hx24) (by first | exact .inl (by show x23.buf<0;omega) | exact .inr (.inl (by show((oW c.bufs.list).length:Int)≤x23.buf;rw [cS];omega)) | exact .inr (.inr (.inl ⟨_,dE ‹_›,by show 0≤gL.input _;omega⟩)) | exact .inr (.inr (.inr (show iY c.vars made (dR.c _)=false by assumption))));subst hr;exact bD () rfl (bH rfl) .nil trivial rfl
  have hc125:=fY hc125;refine bN<|bE<|oL 7 _ _ [(true,0),(true,1),(true,2),(true,3),(true,4),(true,5),(true,6)] gI (by decide+kernel) (.cons .head (.cons .head (.cons .head (.cons .head (.cons .head .nil))))) bK.self ?_;refine puL hT ?_;refine puL hT ?_;refine puL hT ?_;refine stL rfl (ldO hT (iE .head)) ?_;refine puL hT ?_;refine stL rfl (ldO hT (cY kT1)) ?_
  obtain⟨x29,hx30⟩: ∃x',made[x23.buf.toNat]?=some x':=⟨_,List.getElem?_eq_getElem (by omega)⟩
  refine stL rfl (bM hT (k:=x23.buf.toNat) (cP kT2) rfl rfl rfl rfl rfl hml3.symm (by omega) (by omega)) ?_;refine iG (o:=_) rfl ?_;refine cO hT (k:=x23.buf.toNat) (fo:=0) (y':=true) kT2 rfl rfl rfl rfl rfl rfl rfl rfl rfl hx30 rfl ?_;refine jI<|bU<|bE<|bF<|sp hT ?_;refine bX (z':=(((k+1):Nat):Int)) (cT (by omega) (by omega)) ?_;refine sp hT ?_;refine nn ?_;exact bW (k+1,made.set x23.buf.toNat true,y28.1,y28.2) (by dsimp only;omega) ⟨rfl,trivial⟩ ⟨rfl,rfl,rfl,rfl,trivial⟩ (.cons kT1 (.cons .head (.cons kT1 (.cons kT1 .nil)))) ⟨Has.pure (⟨by dsimp only;omega,steps_ok hinv15.2 (dM hx24) (show 0≤x23.buf by omega) (dE hx27) (show gL.input _<0 by omega) (show iY c.vars made x23.c=true by assumption)⟩),trivial⟩ (bK.drop 4)
 have hc96:=Int.not_lt.1 (of_decide_eq_false hc96);refine cL<|bZ<|bZ<|cM<|bE<|sr<|sp hT ?_;refine ss (ldO hT (iE kT3)) ?_;refine sp hT ?_;refine cB (hY.sl (.slice c.outs.addr c.outs.list.length c.outs.cap) c.outs.list) (tC (sC (Has.of mT2))) ?_;refine iJ (cN Tryz.func54 rfl rfl) (vF c.outs.addr c.outs.cap c.outs.list (by omega) 55 [.pointer (some ⟨b1,0,none⟩)] [bR.cells b1 0 [.int .i64 c.vars,.slice c.bufs.addr c.bufs.list.length c.bufs.cap,.slice c.steps.addr c.steps.list.length c.steps.cap,.slice c.outs.addr c.outs.list.length c.outs.cap]] (outB c.bufs.list.length) (cN Tryz.func55 rfl rfl) (fun k=>right1_spec b1 c k)) rfl rfl rfl rfl rfl .nil (.cons kT3 .nil) (kJ lR) ⟨Has.of mT1,Has.of mT0,trivial⟩ (fun _=>True) (fun _ _ _ _=>trivial) fun _ _=>?_;refine sp2 hT ?_;refine nn<|bI ?_;have hr:=qT hinv15.2 (by show(pO c.steps.list).length≤k;rw [dL];omega);subst hr;exact bD () rfl (bH rfl) .nil trivial (congrArg Value.bool (outs_all (cS _)))
set_option maxRecDepth 100000
set_option maxHeartbeats 1000000 in
theorem above_any(a b:Mono)(w:World):
  Calls Tryz.prog 185 #[.agg #[.int .i64 a.n,.int .u8 a.e0.toNat,.int .u8 a.e1.toNat,.int .u8 a.e2.toNat,.int .u8 a.e3.toNat,.int .u8 a.e4.toNat,.int .u8 a.e5.toNat],.agg #[.int .i64 b.n,.int .u8 b.e0.toNat,.int .u8 b.e1.toNat,.int .u8 b.e2.toNat,.int .u8 b.e3.toNat,.int .u8 b.e4.toNat,.int .u8 b.e5.toNat]] w fun e w'=>e= .returned (.int .i64 (zC a b))∧Below w.heap.size w w':=by
 go_enter Tryz.func185,Tryz.ntmps185
 go_wp2
 refine wp_loop_rounds 7 ?_
 repeat any_goals (first | (rw [rounds_succ];go_wp2) | (go_quiet (fail);go_wp2))
 all_goals go_ret
 all_goals refine⟨ret_int ?_,?_⟩
 all_goals first | ((repeat refine vA ?_ _);go_grown;done) | (go_light;simp [zC,Mono.E,pE, *];done) | (go_light;simp [zC,Mono.E,pE, *];rfl)
end Go.Proofs.YtofjmphlpdhohaaGreatDoor
namespace Go.Proofs.YtofjmphlpdhohaaGreatDoor
open Go.RowKit
set_option maxRecDepth 100000
theorem cmp_flip: ∀(l m:List UInt8),(Lib.compareBytes l m=1↔Lib.compareBytes m l<0)∧(Lib.compareBytes l m=0↔Lib.compareBytes m l=0)
 | [],[]=>by simp [Lib.compareBytes]
 | [],_::_=>by simp [Lib.compareBytes]
 | _::_,[]=>by simp [Lib.compareBytes]
 | a::l,b::m=>by
  have ih:=cmp_flip l m;rw [pE,pE]
  by_cases h1:b.toNat<a.toNat
  ·rw [if_pos h1,if_neg (by omega),if_pos h1];simp
  ·rw [if_neg h1]
   by_cases h2:a.toNat<b.toNat
   ·rw [if_pos h2,if_pos h2];simp
   ·rw [if_neg h2,if_neg h2,if_neg h1];exact ih
theorem zX(a b:Mono):zC a b=1↔ord a b<0:=(cmp_flip _ _).1
theorem small_not{m:Mono}(h:oP m=false):(m.n==0)=true∨((m.n==0)=false∧decide (16777216<m.n)=true)∨((m.n==0)=false∧decide (16777216<m.n)=false∧decide (m.n< -16777216)=true)∨
  ((m.n==0)=false∧decide (16777216<m.n)=false∧decide (m.n< -16777216)=false∧decide (8<(m.deg:Int))=true):=by
 have h': ¬(m.n≠0∧m.n≤16777216∧ -16777216≤m.n∧m.deg≤8):=of_decide_eq_false h;simp only [beq_iff_eq,beq_eq_false_iff_ne,decide_eq_true_eq,decide_eq_false_iff_not];omega
theorem small_all{m:Mono}(h:oP m=true):(m.n==0)=false∧decide (16777216<m.n)=false∧decide (m.n< -16777216)=false∧decide (8<(m.deg:Int))=false:=by
 have h':m.n≠0∧m.n≤16777216∧ -16777216≤m.n∧m.deg≤8:=of_decide_eq_true h;simp only [beq_eq_false_iff_ne,decide_eq_false_iff_not];omega
set_option maxRecDepth 100000 in
set_option maxHeartbeats 1000000 in
theorem tG(A:Option Addr)(c:Nat)(xs:List Mono)(w:World)(ha:gO w A xs)(hx:xs.length≤140737488355328):
  Calls Tryz.prog 123 #[.slice A xs.length c] w fun e w'=>e= .returned (.bool (dA xs))∧Below w.heap.size w w':=by
 by_cases hl:xs.length≤48
 ·have hl1:decide ((48:Int)<(xs.length:Int))=false:=by simp;omega
  have Ha:=Lib.hid ha;clear ha
  go_enter Tryz.func123,Tryz.ntmps123
  go_wp2
  go_loopw [3] (fun i wr=> ∃k:Nat,k≤xs.length∧i= .int .i64 k∧Hid (dA xs=dW (if k=0 then none else xs[k-1]?) (xs.drop k))∧Below w.heap.size w wr) (fun i _=>xs.length-(intOf i).toNat)
  case atStart=>exact⟨0,Nat.zero_le _,rfl,by show _=_;simp [dA,hl],Below.refl _ _⟩
  case round=>
   obtain⟨k,hk,rfl,hs,hbl⟩:=hrel
   by_cases hlt:k<xs.length
   ·obtain⟨m,hm,dm⟩:=jD hlt;obtain⟨b,o,rfl,hB,c0,c1,c2,c3,c4,c5,c6⟩:=Ha.out.below hbl k m hm;have HN:=Lib.hid (show oP m=false→dA xs=false by intro hsb;rw [hs.out,dm];split<;>(try cases xs[k-1]?)<;>simp [dW,hsb]);have HM:=Lib.hid hm;have HD:=Lib.hid dm;cases hsb:oP m
    ·have HN':=Lib.hid (HN.out hsb);have HBL:=Lib.hid hbl;clear dm hm hbl hB HN hs HM HD
     rcases small_not hsb with t0 | ⟨t0,t1⟩ | ⟨t0,t1,t2⟩ | ⟨t0,t1,t2,t3⟩
     all_goals go_wp2_with (go_at_call 184;refine(xX m _).mono ?_;rintro e w1 ⟨rfl,hb1⟩)
     all_goals go_ret
     all_goals refine⟨gA HN'.out.symm,?_⟩
     all_goals first | exact HBL.out | exact HBL.out.trans (hb1.mono HBL.out.size)
    ·obtain⟨t0,t1,t2,t3⟩:=small_all hsb;have HC:=Lib.hid (Ha.out.below hbl k m hm);have HBL:=Lib.hid hbl;clear dm hm hbl hB HN
     go_wp2_with (go_at_call 184;refine(xX m _).mono ?_;rintro e w1 ⟨rfl,hb1⟩)
     clear c0 c1 c2 c3 c4 c5 c6 t0 t1 t2 t3;have HB1:=Lib.hid (show Below w.heap.size w w1 from HBL.out.trans (hb1.mono HBL.out.size));clear hb1 HBL HC
     rcases Nat.eq_zero_or_pos k with hk0 | hk0
     ·have hk1:decide (0<k)=false:=by simp;omega
      have HS:=Lib.hid (show dA xs=dW (if k+1=0 then none else xs[k+1-1]?) (xs.drop (k+1)) by rw [hs.out,HD.out,if_pos hk0,if_neg (by omega),show k+1-1=k from rfl,HM.out];simp [dW,hsb]);clear hs hk0 HM HD;refine gU (by kernel_rfl) (by kernel_rfl) ?_
      repeat (go_big_quiet_step (fail))
      refine wpQuiet_nil ?_;rintro _ ⟨x,rfl⟩
      go_wp2
      go_roundw
      case rel=>exact⟨k+1,by omega,by go_num,HS,HB1.out.trans (x.h.mono HB1.out.size)⟩
      case measure=>simp [intOf];omega
     ·have hk1:decide (0<k)=true:=by simp;omega
      obtain⟨j,rfl⟩: ∃j,k=j+1:=⟨k-1,by omega⟩
      obtain⟨q,hq⟩: ∃q,xs[j]?=some q:=⟨xs[j]'(by omega),List.getElem?_eq_getElem _⟩
      have HS:=Lib.hid (show dA xs=(decide (ord q m<0)&&dW (some m) (xs.drop (j+1+1))) by rw [hs.out,HD.out,if_neg (by omega),show j+1-1=j from rfl,hq];simp [dW,hsb])
      have p0:dN w1 b (o+j*7) q∧dN w1 b (o+(j+1)*7) m:=by
       obtain⟨b1,o1,e1,hB1,hm1⟩:=Ha.out.below HB1.out j q hq;obtain⟨b2,o2,e2,hB2,hm2⟩:=Ha.out.below HB1.out (j+1) m HM.out;injection e1 with e1
       injection e1 with e1 e1'
       injection e2 with e2
       injection e2 with e2 e2'
       subst e1 e1' e2 e2';exact⟨hm1,hm2⟩
      obtain⟨r0,r1,r2,r3,r4,r5,r6⟩:=p0.2.later;obtain⟨s0,s1,s2,s3,s4,s5,s6⟩:=p0.1.later;clear hs hk0 hq p0;have Hor:=Lib.hid (dQ.calls (W0:=w1) fun W _=>above_any q m W);refine gU (by kernel_rfl) (by kernel_rfl) ?_
      repeat (go_big_quiet_step ((go_at_call 185;exact Hor.out _)))
      refine wpQuiet_nil ?_;rintro _ ⟨x,rfl⟩;clear r0 r1 r2 r3 r4 r5 r6 s0 s1 s2 s3 s4 s5 s6 Hor;have HBX:=Lib.hid (show Below w.heap.size w x.w from HB1.out.trans (x.h.mono HB1.out.size));clear HB1
      by_cases ho:ord q m<0
      ·have ho1:(zC q m !=1)=false:=by simp [(zX q m).2 ho]
       go_wp2
       go_roundw
       case rel=>exact⟨j+1+1,by omega,by go_num,(by show _=_;rw [HS.out,if_neg (by omega),show j+1+1-1=j+1 from rfl,HM.out];simp [ho]),HBX.out⟩
       case measure=>simp [intOf];omega
      ·have ho1:(zC q m !=1)=true:=by rw [bne_iff_ne];intro h;exact ho ((zX q m).1 h)
       go_wp2
       go_ret
       exact⟨gA (by rw [HS.out,decide_eq_false (by omega),Bool.false_and]),HBX.out⟩
   ·have hk':k=xs.length:=by omega
    go_wp2
    go_ret
    refine⟨gA ?_,hbl⟩;rw [hs.out,List.drop_of_length_le (by omega)];split<;>(try cases xs[k-1]?)<;>simp [dW]
 ·have hl1:decide ((48:Int)<(xs.length:Int))=true:=by simp;omega
  go_enter Tryz.func123,Tryz.ntmps123
  go_wp2
  go_ret
  exact⟨gA (by simp [dA,hl]),Below.refl _ _⟩
end Go.Proofs.YtofjmphlpdhohaaGreatDoor
namespace Go.Proofs.YtofjmphlpdhohaaGreatDoor
open Go.RowKit
set_option maxRecDepth 100000
set_option maxRecDepth 100000 in
set_option maxHeartbeats 1000000 in
theorem refGrows_any(A:Option Addr)(c:Nat)(xs:List Mono)(w:World)(ha:gO w A xs)(hx:xs.length≤140737488355328):
  Calls Tryz.prog 132 #[.slice A xs.length c] w fun e w'=>e= .returned (.bool (hE xs))∧Below w.heap.size w w':=by
 have Ha:=Lib.hid ha;clear ha
 go_enter Tryz.func132,Tryz.ntmps132
 go_wp2
 go_loop [3] (fun i=> ∃k:Nat,k≤xs.length∧i= .int .i64 k∧Hid (xs.any nN=(xs.drop k).any nN)) (fun i=>xs.length-(intOf i).toNat)
 case atStart=>exact⟨0,Nat.zero_le _,rfl,rfl⟩
 case round=>
  obtain⟨k,hk,rfl,hs⟩:=hrel
  by_cases hlt:k<xs.length
  ·obtain⟨m,hm,dm⟩:=jD hlt;obtain⟨b,o,rfl,hB,c0,c1,c2,c3,c4,c5,c6⟩:=Ha.out k m hm;have HS:=Lib.hid (show xs.any nN=(nN m || (xs.drop (k+1)).any nN) by rw [hs.out,dm,List.any_cons]);clear hs hm dm hB c1 c2 c3 c4 c5 c6
   by_cases hn:m.n<0
   ·have hn1:decide (m.n<0)=true:=by simpa using hn
    go_wp2
    go_ret
    exact⟨gA (by unfold hE;rw [HS.out,show nN m=true from hn1,Bool.true_or];simp),Below.refl _ _⟩
   ·have hn1:decide (m.n<0)=false:=by simpa using hn
    go_wp2
    go_round
    case rel=>exact⟨k+1,by omega,by go_num,(by show _=_;rw [HS.out,show nN m=false from hn1,Bool.false_or])⟩
    case measure=>simp [intOf];omega
  ·have HS:=Lib.hid (show xs.any nN=false by rw [hs.out,List.drop_of_length_le (by omega)];rfl);clear hs
   go_wp2_with fail
   refine(tG A c xs _ Ha.out hx).mono ?_;rintro e w1 ⟨rfl,hb1⟩
   go_wp2
   go_ret
   exact⟨gA (by unfold hE;rw [HS.out];simp),hb1⟩
section
variable (p : iO)
theorem refR_spec(hp:p.list.length≤140737488355328):dS Tryz.prog 123 [.slice p.addr p.list.length p.cap] [] [oM p] (fun _:Unit=> .bool (dA p.list)) (fun _=>[]) (fun _=>[]):=
 mD fun _ w hS h=>tG _ _ _ w (oG hS (h _ (.head _))) hp
theorem refG_spec(hp:p.list.length≤140737488355328):dS Tryz.prog 132 [.slice p.addr p.list.length p.cap] [] [oM p] (fun _:Unit=> .bool (hE p.list)) (fun _=>[]) (fun _=>[]):=
 mD fun _ w hS h=>refGrows_any _ _ _ w (oG hS (h _ (.head _))) hp
end
end Go.Proofs.YtofjmphlpdhohaaGreatDoor
namespace Go.Proofs.YtofjmphlpdhohaaGreatDoor
open Go.RowKit
section
variable {f : Int} {two : Bool}
theorem qO(h:two=true)(h1:1≤f)(h2:f≤17):Value.bool (f !=16)= .bool (dX f two):=by
 unfold dX;rw [if_neg (by omega),h]
 by_cases e:f=16
 ·subst e;rfl
 ·rw [if_neg e];simp [e]
theorem qQ(h:two=false)(h1:1≤f)(h2:f≤7):Value.bool true= .bool (dX f two):=by
 unfold dX;rw [if_neg (by omega),if_neg (by omega),h];simp [h2]
theorem qJ(h:two=false)(h1: ¬f≤7):Value.bool (f==16)= .bool (dX f two):=by
 unfold dX
 by_cases e:f=16
 ·subst e;rw [h];rfl
 ·rw [if_neg e,h]
  by_cases h2:f<1∨17<f
  ·rw [if_pos h2];simp [e]
  ·rw [if_neg h2];simp [e,h1]
theorem qM(h1:f<1):Value.bool (f==16)= .bool (dX f two):=by
 unfold dX;rw [if_pos (by omega)];have:f≠16:=by omega
 simp [this]
end
theorem exp_at{m:Mono}{k:Nat}{z:Int}(h:(EI m)[k]?=some z):((m.cells.drop 1).drop (k*1))[0]?=some (.int .u8 z):=by
 rw [List.getElem?_drop,List.getElem?_drop];have e:m.cells= .int .i64 m.n::(EI m).map (fun z=>Value.int .u8 z):=rfl;rw [e,show 1+(k*1+0)=k+1 by omega,List.getElem?_cons_succ,List.getElem?_map,h];rfl
theorem own_no{l:List Mono}{vars:Int}(h:dA l=false):Value.bool false= .bool (ofB l vars):=by simp [ofB,h]
theorem own_end{l:List Mono}{vars:Int}(h:dA l=true)(h2:l.all (okM (clampK vars))=true):Value.bool true= .bool (ofB l vars):=by
 rw [←h];exact of_end h2
theorem grow_long{l:List (List Mono)}{vars:Int}(h:4<l.length):Value.bool false= .bool (fN l vars):=by
 unfold fN;have: ¬l.length≤4:=by omega
 simp [this]
theorem grow_all{l:List (List Mono)}{vars:Int}(h:l.all (fun p=>ofB p vars&&hE p)=true)(h4:l.length≤4):Value.bool true= .bool (fN l vars):=by
 unfold fN;rw [h];simp [h4]
set_option maxRecDepth 100000 in
theorem takes10_spec(o:OpV):dS Tryz.prog 188 [.agg #[.int .i64 o.how,.int .i64 o.k,.int .i64 o.n,.slice o.p.addr o.p.list.length o.p.cap,.int .u8 o.fn]] [] [] (fun(_:Unit)=> .int .i64 (cW o.how)) (fun _=>[]) (fun _=>[]):=by
 have hT:=cG;refine cR Tryz.func188 rfl Tryz.ntmps188 rfl ?_;intro β hM;refine sr<|fS rfl rfl rfl rfl rfl rfl fun b1=>?_;refine sp hT ?_;refine nn<|bJ<|sr<|sp hT ?_;refine ss (ldO hT (dU .head)) ?_;refine nn<|bQ<|bJ<|sr<|sp2 hT ?_;refine nn<|bL rfl (fun hc5=>?_) (fun hc5=>?_)
 ·have hc5_r:=hc5;have hc5:=eq_of_beq hc5;refine bN<|bE<|cF rfl hc5_r ?_;refine sr<|sp hT ?_;refine nn<|bI<|bO<|bG ?_;exact bD () rfl (bH rfl) .nil trivial (by simp [cW, *])
 have hc5_r:=hc5;have hc5:=beq_eq_false_iff_ne.1 hc5;refine sr<|sp2 hT ?_;refine nn<|bL rfl (fun hc5_2=>?_) (fun hc5_2=>?_)
 ·have hc5_2_r:=hc5_2;have hc5_2:=eq_of_beq hc5_2;refine bN<|bE<|cF rfl hc5_2_r ?_;refine sr<|sp hT ?_;refine nn<|bI<|bO<|bG ?_;exact bD () rfl (bH rfl) .nil trivial (by simp [cW, *])
 have hc5_2_r:=hc5_2;have hc5_2:=beq_eq_false_iff_ne.1 hc5_2;refine bF<|sp2 hT ?_;refine nn<|bL rfl (fun hc5_3=>?_) (fun hc5_3=>?_)
 ·have hc5_3_r:=hc5_3;have hc5_3:=eq_of_beq hc5_3;refine sr<|sp hT ?_;refine nn<|bI<|bO<|bG ?_;exact bD () rfl (bH rfl) .nil trivial (by simp [cW, *])
 have hc5_3_r:=hc5_3;have hc5_3:=beq_eq_false_iff_ne.1 hc5_3;refine bJ<|sr<|sp2 hT ?_;refine nn<|bL rfl (fun hc9=>?_) (fun hc9=>?_)
 ·have hc9_r:=hc9;have hc9:=eq_of_beq hc9;refine bN<|bE<|cF rfl hc9_r ?_;refine sr<|sp hT ?_;refine nn<|bI<|bO<|bG ?_;exact bD () rfl (bH rfl) .nil trivial (by simp [cW, *])
 have hc9_r:=hc9;have hc9:=beq_eq_false_iff_ne.1 hc9;refine bF<|sp2 hT ?_;refine nn<|bL rfl (fun hc9_4=>?_) (fun hc9_4=>?_)
 ·have hc9_4_r:=hc9_4;have hc9_4:=eq_of_beq hc9_4;refine sr<|sp hT ?_;refine nn<|bI<|bO<|bG ?_;exact bD () rfl (bH rfl) .nil trivial (by simp [cW, *])
 have hc9_4_r:=hc9_4;have hc9_4:=beq_eq_false_iff_ne.1 hc9_4;refine sr<|sp2 hT ?_;refine nn<|bL rfl (fun hc12=>?_) (fun hc12=>?_)
 ·have hc12_r:=hc12;have hc12:=eq_of_beq hc12;refine sr<|sp hT ?_;refine nn<|bI<|bO<|bG ?_;exact bD () rfl (bH rfl) .nil trivial (by simp [cW, *])
 have hc12_r:=hc12;have hc12:=beq_eq_false_iff_ne.1 hc12;refine bN<|bU<|bE<|sr<|sp hT ?_;refine nn<|bI ?_;exact bD () rfl (bH rfl) .nil trivial (by simp [cW, *])
set_option maxRecDepth 100000 in
theorem mY(f:Int)(two:Bool):dS Tryz.prog 133 [.int .u8 f,.bool two] [] [] (fun(_:Unit)=> .bool (dX f two)) (fun _=>[]) (fun _=>[]):=by
 have hT:=cG;refine cR Tryz.func133 rfl Tryz.ntmps133 rfl ?_;intro β hM;refine sr<|sp hT ?_;refine nn<|bJ<|sr<|sp hT ?_;refine nn<|bL rfl (fun hc5=>?_) (fun hc5=>?_)
 ·have hc5_r:=hc5;refine sr<|sp3 hT ?_;refine bP (fun hg8=>?_) (fun hg8=>?_)
  ·have hg8:=of_decide_eq_true hg8;refine sp4 hT ?_;refine bP (fun hg12=>?_) (fun hg12=>?_)
   ·have hg12:=of_decide_eq_true hg12;refine sp4 hT ?_;refine nn<|bI<|bG ?_;exact bD () rfl (bH rfl) .nil trivial (by first | exact lJ (by omega) | exact qO ‹_› (by omega) (by omega) | exact qQ ‹_› (by omega) (by omega) | exact qJ ‹_› (by omega) | exact qM (by omega))
   have hg12:=Int.not_le.1 (of_decide_eq_false hg12);refine sk2 ?_;refine sp2 hT ?_;refine nn<|bI<|bG ?_;exact bD () rfl (bH rfl) .nil trivial (by first | exact lJ (by omega) | exact qO ‹_› (by omega) (by omega) | exact qQ ‹_› (by omega) (by omega) | exact qJ ‹_› (by omega) | exact qM (by omega))
  have hg8:=Int.not_le.1 (of_decide_eq_false hg8);refine sk2 ?_;refine sp2 hT ?_;refine sk2 ?_;refine sp2 hT ?_;refine nn<|bI<|bG ?_;exact bD () rfl (bH rfl) .nil trivial (by first | exact lJ (by omega) | exact qO ‹_› (by omega) (by omega) | exact qQ ‹_› (by omega) (by omega) | exact qJ ‹_› (by omega) | exact qM (by omega))
 have hc5_r:=hc5;refine bN<|bE<|sr<|sp3 hT ?_;refine bP (fun hg18=>?_) (fun hg18=>?_)
 ·have hg18:=of_decide_eq_true hg18;refine sp4 hT ?_;refine bP (fun hg22=>?_) (fun hg22=>?_)
  ·have hg22:=of_decide_eq_true hg22;refine sk2 ?_;refine sp2 hT ?_;refine nn<|bI ?_;exact bD () rfl (bH rfl) .nil trivial (by first | exact lJ (by omega) | exact qO ‹_› (by omega) (by omega) | exact qQ ‹_› (by omega) (by omega) | exact qJ ‹_› (by omega) | exact qM (by omega))
  have hg22:=Int.not_le.1 (of_decide_eq_false hg22);refine sp4 hT ?_;refine nn<|bI ?_;exact bD () rfl (bH rfl) .nil trivial (by first | exact lJ (by omega) | exact qO ‹_› (by omega) (by omega) | exact qQ ‹_› (by omega) (by omega) | exact qJ ‹_› (by omega) | exact qM (by omega))
 have hg18:=Int.not_le.1 (of_decide_eq_false hg18);refine sk2 ?_;refine sp4 hT ?_;refine sp2 hT ?_;refine nn<|bI ?_;exact bD () rfl (bH rfl) .nil trivial (by first | exact lJ (by omega) | exact qO ‹_› (by omega) (by omega) | exact qQ ‹_› (by omega) (by omega) | exact qJ ‹_› (by omega) | exact qM (by omega))
set_option maxRecDepth 100000 in
theorem tF(A:Option Addr)(c:Nat)(l:List OpV)(hl:l.length≤140737488355328):dS Tryz.prog 134 [.slice A l.length c] [] [opE.sl (.slice A l.length c) l,bR.each l opF] (fun(_:Unit)=> .int .i64 (lF (lU l))) (fun _=>[]) (fun _=>[]):=by
 have hT:=cG;generalize hR:lF (lU l)=r;refine cR Tryz.func134 rfl Tryz.ntmps134 rfl ?_;intro β hM;refine sr<|sp hT ?_;refine nn<|sr<|sp hT ?_;refine nn<|sr<|sp hT ?_;refine nn<|bJ<|sr<|sp hT ?_;refine nn<|bQ<|cI (ι:=Nat×Int×Int) [(0,_)] ⟨rfl,trivial⟩ (fun⟨i,m,n⟩=>[(3,.int .i64 n),(4,.int .i64 m),(5,.int .i64 (i:Nat))]) (fun _=>[]) (fun⟨i,m,n⟩=>[bR.pure (i≤l.length∧xD l i m n r∧0≤n∧n≤i)]) (fun⟨i,m,n⟩=>l.length-i) (0,0,0) ⟨rfl,rfl,rfl,trivial⟩ .nil ⟨Has.pure (⟨by omega,hR,by omega,by omega⟩),trivial⟩ ?_;rintro⟨i,m,n⟩;dsimp only;refine cC (Has.of mT0) fun hinv4=>?_;refine bJ<|sr<|sp4 hT ?_;refine nn<|bL rfl (fun hc10=>?_) (fun hc10=>?_)
 ·have hc10:=of_decide_eq_true hc10;refine bN<|bE<|bJ<|bQ<|sr<|sp2 hT ?_
  obtain⟨x1,hx2⟩: ∃x',l[i]?=some x':=⟨_,List.getElem?_eq_getElem (by omega)⟩
  refine ss (bM hT (k:=i) (bC (Has.of mT1)) rfl rfl rfl rfl rfl rfl rfl (by omega)) ?_;refine ss (dB hT (cD.knows (bC (Has.of mT1)) (k:=i) (x:=x1) hx2 0) rfl rfl rfl rfl rfl) ?_;refine cV Tryz.func188 (takes10_spec x1) rfl rfl .nil trivial fun _=>?_;refine sp hT ?_;refine nn<|bJ<|bJ ?_;have htk:=takes_le x1.how
  have hd0:=(dep_step hinv4.2.1 hx2)
  refine bF<|sp3 hT ?_;refine bP (fun hg20=>?_) (fun hg20=>?_)
  ·have hg20:=of_decide_eq_true hg20;refine sk3 ?_;refine sp hT ?_;refine nn<|cF rfl rfl ?_;refine sr<|sp hT ?_;refine nn<|bI<|bG<|bO<|bG<|bG<|bO<|bG ?_;have hr:=hd0.1 (by omega);subst hr;exact bD () rfl (bH rfl) .nil trivial rfl
  have hg20:=Int.not_lt.1 (of_decide_eq_false hg20);refine sp4 hT ?_;refine nn<|bL rfl (fun hc24=>?_) (fun hc24=>?_)
  ·have hc24:=of_decide_eq_true hc24;refine sr<|sp hT ?_;refine nn<|bI<|bG<|bO<|bG<|bG<|bO<|bG ?_;have hr:=hd0.1 (by omega);subst hr;exact bD () rfl (bH rfl) .nil trivial rfl
  have hc24:=Int.not_lt.1 (of_decide_eq_false hc24);refine bN<|bE<|sr<|sp3 hT ?_;refine bX (mH (by omega) (by omega)) ?_;refine sp hT ?_;refine bX (mH (by omega) (by omega)) ?_;refine bX (z':=n+(1-cW x1.how)) (by omega) ?_;refine sp hT ?_;refine nn<|bF<|sp4 hT ?_;refine gS<|bU<|bE<|bF<|sp2 hT ?_;refine bX (z':=(((i+1):Nat):Int)) (cT (by omega) (by omega)) ?_;refine sp hT ?_;refine nn ?_;exact bW (i+1,_,_) (by dsimp only;omega) ⟨rfl,rfl,rfl,trivial⟩ ⟨rfl,trivial⟩ .nil ⟨Has.pure (⟨by dsimp only;omega,hd0.2 (by omega) (by omega),by dsimp only;omega,by dsimp only;omega⟩),trivial⟩ (bK.drop 1)
 have hc10:=Int.not_lt.1 (of_decide_eq_false hc10);refine cL<|bZ<|bZ<|cM<|bE<|bJ<|sr<|sp2 hT ?_;refine nn<|bL rfl (fun hc33=>?_) (fun hc33=>?_)
 ·have hc33:=bne_iff_ne.1 hc33;refine sr<|sp hT ?_;refine nn<|bI<|bG ?_;have hr:=(vN hinv4.2.1 (by omega)).1 ‹_›;subst hr;exact bD () rfl (bH rfl) .nil trivial rfl
 have hc33:=bne_eq_false_iff_eq.1 hc33;refine bN<|bE<|sr<|sp2 hT ?_;refine nn<|bI ?_;have hr:=(vN hinv4.2.1 (by omega)).2 ‹_›;subst hr;exact bD () rfl (bH rfl) .nil trivial rfl
set_option maxRecDepth 100000 in
theorem wV(p:iO)(vars:Int)(hv:0≤vars)(hv6:vars≤6):dS Tryz.prog 131 [.slice p.addr p.list.length p.cap,.int .i64 vars] [] [oM p] (fun(_:Unit)=> .bool (ofB p.list vars)) (fun _=>[]) (fun _=>[]):=by
 have hT:=cG;have hcl:((clampK vars:Nat):Int)=vars:=by unfold clampK;omega
 refine cR Tryz.func131 rfl Tryz.ntmps131 rfl ?_;intro β hM;refine bJ<|cC (gX (Has.of mT0)) fun hp=>?_;refine cB (mS.sl (.slice p.addr p.list.length p.cap) p.list) (gB (Has.of mT0)) ?_;refine bF<|sp hT ?_;refine nn<|bJ<|sr<|sp hT ?_;refine cV Tryz.func123 (refR_spec p hp) rfl rfl .nil ⟨(Has.of mT1),trivial⟩ fun _=>?_;refine sp hT ?_;refine nn<|bL rfl (fun hc9=>?_) (fun hc9=>?_)
 ·have hc9:=fX hc9;refine sr<|sp hT ?_;refine nn<|bI<|bG ?_;exact bD () rfl (bH rfl) .nil trivial (own_no (by simp_all))
 have hc9:=fY hc9;refine bN<|bE<|bJ<|sr<|sp hT ?_;refine nn<|bQ<|cI (ι:=Nat) [(0,_),(1,_)] ⟨rfl,rfl,trivial⟩ (fun i=>[(5,.int .i64 (i:Nat))]) (fun _=>[]) (fun i=>[bR.pure (i≤p.list.length∧(p.list.take i).all (okM (clampK vars))=true)]) (fun i=>p.list.length-i) 0 ⟨rfl,trivial⟩ .nil ⟨Has.pure (⟨by omega,rfl⟩),trivial⟩ ?_;rintro i;refine cC (Has.of mT0) fun hinv4=>?_;refine bJ<|sr<|sp4 hT ?_;refine nn<|bL rfl (fun hc13=>?_) (fun hc13=>?_)
 ·have hc13:=of_decide_eq_true hc13;refine bN<|bE<|bJ<|bQ<|bJ ?_
  obtain⟨x1,hx2⟩: ∃x',p.list[i]?=some x':=⟨_,List.getElem?_eq_getElem (by omega)⟩
  refine bF<|sp2 hT ?_;refine bX (z':=((clampK vars+0:Nat):Int)) (by omega) ?_;refine nn<|bQ<|cI (ι:=Nat) [(0,_),(1,_),(5,_)] ⟨rfl,rfl,rfl,trivial⟩ (fun j=>[(6,.int .i64 ((clampK vars+j:Nat):Int))]) (fun _=>[]) (fun j=>[bR.pure (clampK vars+j≤6∧(((EI x1).drop (clampK vars)).take j).all (fun e=>e==0)=true)]) (fun j=>6-clampK vars-j) 0 ⟨rfl,trivial⟩ .nil ⟨Has.pure (⟨by omega,rfl⟩),trivial⟩ ?_;rintro j;refine cC (Has.of mT0) fun hinv7=>?_;refine bJ<|sr<|sp2 hT ?_;refine nn<|bL rfl (fun hc18=>?_) (fun hc18=>?_)
  ·have hc18:=of_decide_eq_true hc18;refine bN<|bE<|bJ<|bQ<|sr<|sp3 hT ?_;refine ss (bM hT (k:=i) (bC (Has.of mT2)) rfl rfl rfl rfl rfl rfl rfl (by omega)) ?_;refine sp hT ?_;refine ss (kS hT (k:=(clampK vars+j)) rfl rfl rfl rfl rfl rfl (by omega)) ?_
   obtain⟨z3,hz4⟩: ∃z',(EI x1)[clampK vars+j]?=some z':=⟨_,List.getElem?_eq_getElem (by show _<6;omega)⟩
   have hjz3:((EI x1).drop (clampK vars))[j]?=some z3:=by rw [List.getElem?_drop];exact hz4
   have hge:=ei_ge hjz3;refine ss (bV hT (iN.drop (cD.knows (bC (Has.of mT2)) (k:=i) (x:=x1) hx2 1) ((clampK vars+j)*1)) rfl rfl rfl rfl (exp_at hz4)) ?_;refine sp hT ?_;refine nn<|bL rfl (fun hc28=>?_) (fun hc28=>?_)
   ·have hc28:=of_decide_eq_true hc28;refine sr<|sp hT ?_;refine nn<|bI<|bO<|bG<|bG<|bO<|bO<|bG<|bG<|bO<|bG ?_;exact bD () rfl (bH rfl) .nil trivial (of_bad hx2 (okM_bad hjz3 (by omega)))
   have hc28:=Int.not_lt.1 (of_decide_eq_false hc28);refine bN<|bU<|bE<|bF<|sp2 hT ?_;refine bX (z':=((((clampK vars+j)+1):Nat):Int)) (cT (by omega) (by omega)) ?_;refine sp hT ?_;refine nn ?_;exact bW (j+1) (by omega) ⟨rfl,trivial⟩ ⟨rfl,rfl,rfl,trivial⟩ .nil ⟨Has.pure (⟨by omega,gM hinv7.2 hjz3 (beq_iff_eq.2 (by omega))⟩),trivial⟩ (bK.drop 1)
  have hc18:=Int.not_lt.1 (of_decide_eq_false hc18);refine cL<|bZ<|bZ<|cM<|bU<|bE<|bF<|sp2 hT ?_;refine bX (z':=(((i+1):Nat):Int)) (cT (by omega) (by omega)) ?_;refine sp hT ?_;refine nn ?_;exact bW (i+1) (by omega) ⟨rfl,trivial⟩ ⟨rfl,rfl,trivial⟩ .nil ⟨Has.pure (⟨by omega,gM hinv4.2 hx2 (okM_end hinv7.2 (by rw [vS];omega))⟩),trivial⟩ (bK.drop 2)
 have hc13:=Int.not_lt.1 (of_decide_eq_false hc13);refine cL<|bZ<|bZ<|cM<|bE<|sr<|sp hT ?_;refine nn<|bI ?_;exact bD () rfl (bH rfl) .nil trivial (own_end (by simp_all) (lB hinv4.2 (by omega)))
set_option maxRecDepth 100000 in
theorem pJ(l:Sl iO)(vars:Int)(hv:0≤vars)(hv6:vars≤6):dS Tryz.prog 72 [.slice l.addr l.list.length l.cap,.int .i64 vars] [] [nC l] (fun(_:Unit)=> .bool (fN (cU l.list) vars)) (fun _=>[]) (fun _=>[]):=by
 have hT:=cG;refine cR Tryz.func72 rfl Tryz.ntmps72 rfl ?_;intro β hM;refine bJ<|cC (qD (Has.of mT0)) fun hlz=>?_;have hlz2:=hlz.2;refine cB (lV.sl (.slice l.addr l.list.length l.cap) l.list) (qL (Has.of mT0)) ?_;refine bF<|sp hT ?_;refine nn<|bJ<|sr<|sp3 hT ?_;refine nn<|bL rfl (fun hc8=>?_) (fun hc8=>?_)
 ·have hc8:=of_decide_eq_true hc8;refine sr<|sp hT ?_;refine nn<|bI<|bG ?_;exact bD () rfl (bH rfl) .nil trivial (grow_long (by rw [cJ];omega))
 have hc8:=Int.not_lt.1 (of_decide_eq_false hc8);refine bN<|bE<|bJ<|sr<|sp hT ?_;refine nn<|bQ<|cI (ι:=Nat) [(0,_),(1,_)] ⟨rfl,rfl,trivial⟩ (fun i=>[(5,.int .i64 (i:Nat))]) (fun _=>[]) (fun i=>[bR.pure (i≤l.list.length∧((cU l.list).take i).all (fun p=>ofB p vars&&hE p)=true)]) (fun i=>l.list.length-i) 0 ⟨rfl,trivial⟩ .nil ⟨Has.pure (⟨by omega,rfl⟩),trivial⟩ ?_;rintro i;refine cC (Has.of mT0) fun hinv4=>?_;refine bJ<|sr<|sp4 hT ?_;refine nn<|bL rfl (fun hc12=>?_) (fun hc12=>?_)
 ·have hc12:=of_decide_eq_true hc12;refine bN<|bE<|bJ<|bQ<|bJ ?_
  obtain⟨x1,hx2⟩: ∃x',l.list[i]?=some x':=⟨_,List.getElem?_eq_getElem (by omega)⟩
  refine cB (oM x1) (Has.each (qE (Has.of mT2)) (List.mem_of_getElem? hx2)) ?_;refine cC (gX (Has.of mT0)) fun hpx1=>?_;refine bF<|sp2 hT ?_;refine ss (bM hT (k:=i) (bC (Has.of mT2)) rfl rfl rfl rfl rfl rfl rfl (by omega)) ?_;refine ss (bV hT (cD.knows (bC (Has.of mT2)) (k:=i) (x:=x1) hx2 0) rfl rfl rfl rfl rfl) ?_;refine sp hT ?_;refine cV Tryz.func131 (wV x1 vars hv hv6) rfl rfl .nil ⟨(Has.of mT0),trivial⟩ fun _=>?_;refine sp2 hT ?_;refine bP (fun hg22=>?_) (fun hg22=>?_)
  ·have hg22:=fX hg22;refine sk4 ?_;refine sk2 ?_;refine sp hT ?_;refine nn<|cF rfl rfl ?_;refine sr<|sp hT ?_;refine nn<|bI<|bO<|bG<|bG<|bO<|bG ?_;exact bD () rfl (bH rfl) .nil trivial (tA (fD hx2) (by simp_all))
  have hg22:=fY hg22;refine sp2 hT ?_;refine ss (bM hT (k:=i) (bC (Has.of mT2)) rfl rfl rfl rfl rfl rfl rfl (by omega)) ?_;refine ss (bV hT (cD.knows (bC (Has.of mT2)) (k:=i) (x:=x1) hx2 0) rfl rfl rfl rfl rfl) ?_;refine cV Tryz.func132 (refG_spec x1 hpx1) rfl rfl .nil ⟨(Has.of mT0),trivial⟩ fun _=>?_;refine sp2 hT ?_;refine nn<|bL rfl (fun hc29=>?_) (fun hc29=>?_)
  ·have hc29:=fX hc29;refine sr<|sp hT ?_;refine nn<|bI<|bO<|bG<|bG<|bO<|bG ?_;exact bD () rfl (bH rfl) .nil trivial (tA (fD hx2) (by simp_all))
  have hc29:=fY hc29;refine bN<|bU<|bE<|bF<|sp2 hT ?_;refine bX (z':=(((i+1):Nat):Int)) (cT (by omega) (by omega)) ?_;refine sp hT ?_;refine nn ?_;exact bW (i+1) (by omega) ⟨rfl,trivial⟩ ⟨rfl,rfl,trivial⟩ .nil ⟨Has.pure (⟨by omega,gM hinv4.2 (fD hx2) (by simp_all)⟩),trivial⟩ (bK.drop 2)
 have hc12:=Int.not_lt.1 (of_decide_eq_false hc12);refine cL<|bZ<|bZ<|cM<|bE<|sr<|sp hT ?_;refine nn<|bI ?_;exact bD () rfl (bH rfl) .nil trivial (grow_all (lB hinv4.2 (by rw [cJ];omega)) (by rw [cJ];omega))
end Go.Proofs.YtofjmphlpdhohaaGreatDoor
