/- Texts of one proof, one behind the other: RefA, RefB, ShelfK, SortK, PlanA. -/
import Derived.Test.YtofjmphlpdhohaaGreatDoorM10
import Derived.Shelf.LaysM
import Derived.Shelf.LaysC
import Derived.Ground.Names2Prog
import Derived.Ground.SlgnProg
import Derived.Test.YtofjmphlpdhohaaGreatDoorProg
import Derived.Shelf.Slices.CompactI
import Derived.Shelf.Slices.In.SortNone
import Derived.Shelf.Sort.Plain
import Derived.Test.YtofjmphlpdhohaaGreatDoorM8
namespace Go.Proofs.YtofjmphlpdhohaaGreatDoor
open Go.RowKit
theorem polsInfo: ∃i:TypeInfo,Tryz.prog.info? 35=some i∧i.zero=some (.slice none 0 0)∧i.size=1∧i.bytes=24:=by
 have h:(Tryz.prog.info? 35).map (fun i=>(i.zero,i.size,i.bytes))=some (some (.slice none 0 0),1,24):=by kernel_rfl
 cases hi:Tryz.prog.info? 35 with
 | none=>simp [hi] at h
 | some i=>simp [hi] at h;exact⟨i,rfl,h.1,h.2.1,h.2.2⟩
end Go.Proofs.YtofjmphlpdhohaaGreatDoor
namespace Go.Proofs
open Go.Shelf
def Tryz.lays189_ren:Go.Shelf.Ren:=⟨fun | 189=>56 | 125=>116 | 257=>115 | 128=>178 | 129=>179 | 294=>170 | 295=>171 | 296=>172 | 297=>173 | 298=>174 | 299=>175 | 216=>129 | 300=>176 | 301=>177 | 328=>226 | 329=>227 | 330=>228 | 331=>229 | 332=>230 | 215=>187 | 343=>250 | n=>n,fun | 28=>24 | 3=>3 | 46=>206 | 0=>0 | 51=>270 | 53=>272 | 4=>4 | 183=>264 | 182=>263 | 131=>136 | 5=>5 | 9=>9 | 218=>317 | 222=>321 | 228=>348 | 229=>349 | n=>n,fun | n=>n⟩
theorem Tryz.lays189:Go.Proofs.Lays.n189 Tryz.prog Tryz.lays189_ren:={
 mixed:=by kernel_rfl
 f125:=Tryz.func116.trans (congrArg some (by kernel_rfl))
 f128:=Tryz.func178.trans (congrArg some (by kernel_rfl))
 f129:=Tryz.func179.trans (congrArg some (by kernel_rfl))
 f189:=Tryz.func56.trans (congrArg some (by kernel_rfl))
 f215:=Tryz.func187.trans (congrArg some (by kernel_rfl))
 f216:=Tryz.func129.trans (congrArg some (by kernel_rfl))
 f257:=Tryz.func115.trans (congrArg some (by kernel_rfl))
 f294:=Tryz.func170.trans (congrArg some (by kernel_rfl))
 f295:=Tryz.func171.trans (congrArg some (by kernel_rfl))
 f296:=Tryz.func172.trans (congrArg some (by kernel_rfl))
 f297:=Tryz.func173.trans (congrArg some (by kernel_rfl))
 f298:=Tryz.func174.trans (congrArg some (by kernel_rfl))
 f299:=Tryz.func175.trans (congrArg some (by kernel_rfl))
 f300:=Tryz.func176.trans (congrArg some (by kernel_rfl))
 f301:=Tryz.func177.trans (congrArg some (by kernel_rfl))
 f328:=Tryz.func226.trans (congrArg some (by kernel_rfl))
 f329:=Tryz.func227.trans (congrArg some (by kernel_rfl))
 f330:=Tryz.func228.trans (congrArg some (by kernel_rfl))
 f331:=Tryz.func229.trans (congrArg some (by kernel_rfl))
 f332:=Tryz.func230.trans (congrArg some (by kernel_rfl))
 f343:=Tryz.func250.trans (congrArg some (by kernel_rfl))
 t0:=Tryz.underlying0
 a0:=Tryz.isAgg0
 z0:=Tryz.sizeOf0
 v0:=Tryz.zeroValue0
 t3:=Tryz.underlying3
 a3:=Tryz.isAgg3
 z3:=Tryz.sizeOf3
 v3:=Tryz.zeroValue3
 t4:=Tryz.underlying4
 a4:=Tryz.isAgg4
 z4:=Tryz.sizeOf4
 v4:=Tryz.zeroValue4
 t5:=Tryz.underlying5
 a5:=Tryz.isAgg5
 z5:=Tryz.sizeOf5
 v5:=Tryz.zeroValue5
 t9:=Tryz.underlying9
 a9:=Tryz.isAgg9
 z9:=Tryz.sizeOf9
 v9:=Tryz.zeroValue9
 t28:=Tryz.underlying24
 a28:=Tryz.isAgg24
 z28:=Tryz.sizeOf24
 v28:=Tryz.zeroValue24
 t46:=Tryz.underlying206
 a46:=Tryz.isAgg206
 z46:=Tryz.sizeOf206
 v46:=Tryz.zeroValue206
 t51:=Tryz.underlying270
 a51:=Tryz.isAgg270
 z51:=Tryz.sizeOf270
 v51:=Tryz.zeroValue270
 t53:=Tryz.underlying272
 a53:=Tryz.isAgg272
 z53:=Tryz.sizeOf272
 v53:=Tryz.zeroValue272
 t131:=Tryz.underlying136
 a131:=Tryz.isAgg136
 z131:=Tryz.sizeOf136
 v131:=Tryz.zeroValue136
 t182:=Tryz.underlying263
 a182:=Tryz.isAgg263
 z182:=Tryz.sizeOf263
 v182:=Tryz.zeroValue263
 t183:=Tryz.underlying264
 a183:=Tryz.isAgg264
 z183:=Tryz.sizeOf264
 v183:=Tryz.zeroValue264
 t218:=Tryz.underlying317
 a218:=Tryz.isAgg317
 z218:=Tryz.sizeOf317
 v218:=Tryz.zeroValue317
 t222:=Tryz.underlying321
 a222:=Tryz.isAgg321
 z222:=Tryz.sizeOf321
 v222:=Tryz.zeroValue321
 t228:=Tryz.underlying348
 a228:=Tryz.isAgg348
 z228:=Tryz.sizeOf348
 v228:=Tryz.zeroValue348
 t229:=Tryz.underlying349
 a229:=Tryz.isAgg349
 z229:=Tryz.sizeOf349
 v229:=Tryz.zeroValue349}
open Go.Sort Go.RowKit in
theorem Tryz.slices_Sort_int(blk off cap:Nat)(zs:List Int)(w:World)(hH:Holds (Value.int .i64) w blk off zs.toArray)(hblk:blk<w.heap.size)(hsz:zs.length<4611686018427387904):
  Calls Tryz.prog 56 #[.slice (some ⟨blk,off,none⟩) zs.length cap] w fun e w'=>
   e= .returned (.tuple #[])∧ ∃n os,w'=grow (putRow (Value.int .i64) (Sort.ahead w n) blk off (zs.mergeSort fun x y=>decide (x≤y)).toArray) os:=Any.slices_Sort_int Tryz.lays189 blk off cap zs w hH hblk hsz
def Tryz.laysNm220_ren:Go.Shelf.Ren:=⟨fun | 20=>57 | n=>n,fun | 22=>24 | 3=>3 | 4=>4 | 0=>0 | n=>n,fun | n=>n⟩
theorem Tryz.laysNm220:Go.Proofs.Lays2.n20 Tryz.prog Tryz.laysNm220_ren:={
 mixed:=by kernel_rfl
 f20:=Tryz.func57.trans (congrArg some (by kernel_rfl))
 t0:=Tryz.underlying0
 a0:=Tryz.isAgg0
 z0:=Tryz.sizeOf0
 v0:=Tryz.zeroValue0
 t3:=Tryz.underlying3
 a3:=Tryz.isAgg3
 z3:=Tryz.sizeOf3
 v3:=Tryz.zeroValue3
 t4:=Tryz.underlying4
 a4:=Tryz.isAgg4
 z4:=Tryz.sizeOf4
 v4:=Tryz.zeroValue4
 t22:=Tryz.underlying24
 a22:=Tryz.isAgg24
 z22:=Tryz.sizeOf24
 v22:=Tryz.zeroValue24
 i3:=by kernel_rfl}
open Go.RowKit Go.Lib Go.Sort in
theorem Tryz.slices_Compact_int(blk off cap:Nat)(zs:List Int)(w:World)(hH:Holds (Value.int .i64) w blk off zs.toArray)(hsz:zs.length≤9223372036854775807)(hcap:zs.length≤cap):
  Calls Tryz.prog 57 #[.slice (some ⟨blk,off,none⟩) zs.length cap] w fun e w'=>e= .returned (.slice (some ⟨blk,off,none⟩) (Lib.compact zs).length cap)∧ ∃q,w'=putRow (Value.int .i64) (Sort.ahead w q) blk off (Lib.compact zs++List.replicate (zs.length-(Lib.compact zs).length) 0).toArray:=Any.slices_Compact_int Tryz.laysNm220 blk off cap zs w hH hsz hcap
open Go.RowKit Go.Lib Go.Sort in
theorem Tryz.slices_Compact_int_empty(a:Option Addr)(cap:Nat)(w:World):
  Calls Tryz.prog 57 #[.slice a 0 cap] w fun e w'=>e= .returned (.slice a 0 cap)∧w'=w:=Any.slices_Compact_int_empty Tryz.laysNm220 a cap w
open Go.RowKit Go.Sort in
theorem Tryz.slices_Sort_int_none(p:Option Addr)(cap:Nat)(w:World):
  Calls Tryz.prog 56 #[.slice p 0 cap] w fun e w'=>e= .returned (.tuple #[])∧w'=w:=Any.slices_Sort_int_none Tryz.lays189 p cap w
end Go.Proofs
namespace Go.Proofs.YtofjmphlpdhohaaGreatDoor
open Go.RowKit Go.Sort
section
variable {g off cap : Nat} {xs ys : List Int} {w w' : World}
theorem ints_all(xs:List Int):gC.all xs=xs.map (Value.int .i64):=by
 induction xs with
 | nil=>rfl
 | cons x r ih=>
  rw [List.map_cons,←ih];rfl
theorem uQ(h:Holds (Value.int .i64) w g off xs.toArray):(gC.held (.slice (some ⟨g,off,none⟩) xs.length cap) xs).ok w:=by
 cases xs with
 | nil=>exact⟨_,_,rfl,.inl rfl⟩
 | cons x r=>
  obtain⟨h0,_⟩:=h 0 (by simp);unfold World.cell? at h0
  cases hh:w.heap[g]? with
  | none=>simp [hh] at h0
  | some o=>
   cases o with
   | cells cs t fz=>
    refine⟨_,_,rfl,.inr ⟨g,off,cs,t,fz,rfl,hh,fun j u hj=>?_⟩⟩;rw [ints_all,List.getElem?_map] at hj
    cases hx:(x::r)[j]? with
    | none=>rw [hx] at hj;cases hj
    | some z=>
     rw [hx] at hj;cases hj;have hlt:=(List.getElem?_eq_some_iff.1 hx).1;obtain⟨h1,h2⟩:=h j (by simpa using hlt)
     have hz:(x::r).toArray[j]! =z:=by
      rw [getElem!_pos _ j (by simpa using hlt)]
      simpa using (List.getElem?_eq_some_iff.1 hx).2
     rw [hz] at h1;refine⟨?_,?_⟩
     ·unfold World.cell? at h1;simp only [hh] at h1
      simpa using h1
     ·unfold World.frozen? at h2;simp only [hh] at h2;exact h2
   | _=>simp [hh] at h0
theorem uK(h:(gC.held (.slice (some ⟨g,off,none⟩) xs.length cap) xs).ok w):Holds (Value.int .i64) w g off xs.toArray:=fun j hj=>by
 have hlt:j<xs.length:=by simpa using hj
 obtain⟨g',off',cap',cs,t,fz,e,_,hh,hc⟩:=oE h hlt;injection e with e
 injection e with e
 injection e with e1 e2
 subst e1 e2
 have hz:xs.toArray[j]! =xs[j]:=by
  rw [getElem!_pos _ j (by simpa using hlt)];simp
 obtain⟨h1,h2⟩:=hc j (.int .i64 xs[j]) (by rw [ints_all,List.getElem?_map,List.getElem?_eq_getElem hlt];rfl);rw [hz];refine⟨?_,?_⟩
 ·unfold World.cell?;simp only [hh]
  simpa using h1
 ·unfold World.frozen?;simp only [hh];exact h2
theorem kept_put(d:Array Int)(n:Nat)(os:Array Obj):mC (fun b=>b=g) w (grow (putRow (Value.int .i64) (Sort.ahead w n) g off d) os) where
 os:=rfl
 tape:=rfl
 output:=rfl
 size:=by
  show w.heap.size≤((w.heap.modify g _)++os).size;simp
 block:=fun b hb hne=>by
  show((w.heap.modify g _)++os)[b]?=_;rw [Array.getElem?_append_left (by simpa using hb),Array.getElem?_modify,if_neg (Ne.symm hne)]
theorem holds_pre(h:Holds (Value.int .i64) w g off (xs++ys).toArray):Holds (Value.int .i64) w g off xs.toArray:=fun j hj=>by
 have hlt:j<xs.length:=by simpa using hj
 have:=h j (by simp;omega)
 have e:(xs++ys).toArray[j]! =xs.toArray[j]!:=by
  rw [getElem!_pos _ j (by simp;omega),getElem!_pos _ j (by simpa using hlt)];simp [List.getElem_append_left hlt]
 rwa [e] at this
end
def leB (x y:Int):Bool:=decide (x≤y)
def rY (l:List Int):List Int:=l.mergeSort leB
theorem tO(l:List Int):(rY l).length=l.length:=List.length_mergeSort l
theorem held_blk{A:Option Addr}{cap n:Nat}{x:Int}{r xs:List Int}(h:xs.length=(x::r).length):(gC.held (.slice A n cap) xs).blk=(gC.held (.slice A n cap) (x::r)).blk:=by
 cases xs with
 | nil=>cases h
 | cons y s=>rfl
theorem sort_spec(A:Option Addr)(cap:Nat)(xs:List Int)(hl:xs.length≤140737488355328):cX Tryz.prog 56 [.slice A xs.length cap] [gC.held (.slice A xs.length cap) xs] [] (fun _:Unit=> .tuple #[]) (fun _=>[gC.held (.slice A xs.length cap) (rY xs)]) (fun _=>[]):=fun S w s k=>by
 cases hx:xs with
 | nil=>
  refine(Tryz.slices_Sort_int_none A cap w).mono ?_;rintro e w' ⟨rfl,rfl⟩;subst hx;rw [show rY ([]:List Int)=[] by simp [rY]];exact⟨(),S,rfl,s,fun g hg=>by simp at hg⟩
 | cons x r=>
  have hok:=s.ok _ (List.mem_cons_self ..);have h1:0<xs.length:=by rw [hx];simp
  obtain⟨g,off,cap',cs,t,fz,e,hblk,hh,hc⟩:=oE hok h1;injection e with e1 e2 e3
  subst e1 e3;have hH:=uK hok;have hg:g<w.heap.size:=(s.own _ (List.mem_cons_self ..) g hblk).1;rw [←hx];refine(Tryz.slices_Sort_int g off cap xs w hH hg (by omega)).mono ?_;rintro e w' ⟨rfl,n,os,rfl⟩;have hH':=holds_grow (Value.int .i64) _ os g off _ (by show g<(w.heap.modify g _).size;simpa using hg) (holds_putRow (Value.int .i64) (Sort.ahead w n) g off xs.toArray (xs.mergeSort fun x y=>decide (x≤y)).toArray (holds_ahead _ w n g off _ hH) (by simp));have hlen:(rY xs).length=xs.length:=tO xs
  have hb':(gC.held (.slice (some ⟨g,off,none⟩) xs.length cap) (rY xs)).blk=some g:=by
   rw [←hblk];subst hx;exact held_blk hlen
  refine⟨(),S,rfl,s.swap (kept_put _ n os) hblk hb' ?_,fun g hg=>by simp at hg⟩;have:=uQ (cap:=cap) hH';rw [List.length_mergeSort] at this;exact this
theorem compact_spec(A:Option Addr)(cap:Nat)(xs:List Int)(hl:xs.length≤140737488355328)(hcap:xs.length≤cap):cX Tryz.prog 57 [.slice A xs.length cap] [gC.held (.slice A xs.length cap) xs] [] (fun _:Unit=> .slice A (Lib.compact xs).length cap) (fun _=>[gC.held (.slice A (Lib.compact xs).length cap) (Lib.compact xs)]) (fun _=>[]):=fun S w s k=>by
 cases hx:xs with
 | nil=>
  refine(Tryz.slices_Compact_int_empty A cap w).mono ?_;rintro e w' ⟨rfl,rfl⟩;subst hx;exact⟨(),S,rfl,s,fun g hg=>by simp at hg⟩
 | cons x r=>
  have hok:=s.ok _ (List.mem_cons_self ..);have h1:0<xs.length:=by rw [hx];simp
  obtain⟨g,off,cap',cs,t,fz,e,hblk,hh,hc⟩:=oE hok h1;injection e with e1 e2 e3
  subst e1 e3;have hH:=uK hok;rw [←hx];refine(Tryz.slices_Compact_int g off cap xs w hH (by omega) hcap).mono ?_;rintro e w' ⟨rfl,q,rfl⟩
  have hle:(Lib.compact xs).length≤xs.length:=by
   unfold Lib.compact Lib.compactUpTo;rw [List.length_map];exact Nat.le_trans (List.length_filter_le ..) (by simp)
  have hH':=holds_putRow (Value.int .i64) (Sort.ahead w q) g off xs.toArray (Lib.compact xs++List.replicate (xs.length-(Lib.compact xs).length) 0).toArray (holds_ahead _ w q g off _ hH) (by simp;omega)
  have hk:mC (fun b=>b=g) w (putRow (Value.int .i64) (Sort.ahead w q) g off (Lib.compact xs++List.replicate (xs.length-(Lib.compact xs).length) 0).toArray):=⟨rfl,rfl,rfl,by show w.heap.size≤(w.heap.modify g _).size;simp,fun b hb hne=>by show(w.heap.modify g _)[b]?=_;rw [Array.getElem?_modify,if_neg (Ne.symm hne)]⟩
  have hok':=uQ (cap:=cap) (holds_pre hH')
  cases hc:Lib.compact xs with
  | nil=>
   rw [hc] at hk hok';have s2:=s.swap hk hblk (c':= .gen (some g) fun _=>True) rfl trivial;refine⟨(),S,rfl,?_,fun g hg=>by simp at hg⟩;exact s2.recast' (fun b hb=>by cases hb) hok'
  | cons y t'=>
   rw [hc] at hk hok';have s2:=s.swap hk hblk (c':=gC.held (.slice (some ⟨g,off,none⟩) (y::t').length cap) (y::t')) rfl hok';exact⟨(),S,rfl,s2,fun g hg=>by simp at hg⟩
theorem compact_sub(xs:List Int): ∀z,z∈Lib.compact xs→z∈xs:=fun z hz=>by
 unfold Lib.compact Lib.compactUpTo at hz;obtain⟨j,hj,rfl⟩:=List.mem_map.1 hz;have hlt:=List.mem_range.1 (List.mem_filter.1 hj).1;rw [getElem!_pos _ j (by simpa using hlt)];simp
theorem zE(xs:List Int): ∀(j:Nat) (z:Int),xs[j]?=some z→z∈Lib.compact xs
 | 0,z,h=>by
  have hlt:=(List.getElem?_eq_some_iff.1 h).1;refine List.mem_map.2 ⟨0,List.mem_filter.2 ⟨List.mem_range.2 hlt,Lib.keeps_lt_one _ 0 (by decide)⟩,?_⟩;rw [getElem!_pos _ 0 (by simpa using hlt)]
  simpa using (List.getElem?_eq_some_iff.1 h).2
 | j+1,z,h=>by
  have hlt:=(List.getElem?_eq_some_iff.1 h).1
  have hz:xs.toArray[j+1]! =z:=by
   rw [getElem!_pos _ (j+1) (by simpa using hlt)]
   simpa using (List.getElem?_eq_some_iff.1 h).2
  by_cases e:xs.toArray[j+1]! =xs.toArray[j]!
  ·have hy:xs[j]?=some z:=by
    rw [List.getElem?_eq_getElem (by omega)];rw [hz,getElem!_pos _ j (by simp;omega)] at e;rw [e];simp
   exact zE xs j z hy
  ·exact List.mem_map.2 ⟨j+1,List.mem_filter.2 ⟨List.mem_range.2 hlt,Lib.keeps_pos (m:=j+1) e⟩,hz⟩
theorem mem_uses{xs:List Int}{z:Int}:z∈Lib.compact (rY xs)↔z∈xs:=by
 constructor
 ·exact fun h=>List.mem_mergeSort.1 (compact_sub _ z h)
 ·intro h;obtain⟨j,hj⟩:=List.mem_iff_getElem?.1 (List.mem_mergeSort.2 h:z∈rY xs);exact zE _ j z hj
theorem uses_len{xs:List Int}:(Lib.compact (rY xs)).length≤xs.length:=by
 unfold Lib.compact Lib.compactUpTo;rw [List.length_map];refine Nat.le_trans (List.length_filter_le ..) ?_;rw [List.length_range,tO];exact Nat.le_refl _
end Go.Proofs.YtofjmphlpdhohaaGreatDoor
namespace Go.Proofs.YtofjmphlpdhohaaGreatDoor
open Go.RowKit Go.Sort
def pF (l:List OpV):List Int:=(l.filter fun o=>o.how==4).map (·.k)
def usesV (l:List OpV):List Int:=Lib.compact (rY (pF l))
theorem bHt(l:List OpV):(pF l).length≤l.length:=by
 unfold pF;rw [List.length_map];exact List.length_filter_le ..
theorem usesV_len(l:List OpV):(usesV l).length≤l.length:=Nat.le_trans uses_len (bHt l)
section
variable {l : List OpV} {i : Nat} {o : OpV} {us : List Int}
theorem uses_yes(h:us=pF (l.take i))(ho:l[i]?=some o)(e:o.how=4):us++[o.k]=pF (l.take (i+1)):=by
 subst h;rw [List.take_add_one,ho];simp [pF,e]
theorem uses_no(h:us=pF (l.take i))(ho:l[i]?=some o)(e:o.how≠4):us=pF (l.take (i+1)):=by
 subst h;rw [List.take_add_one,ho];simp [pF,e]
theorem uses_full(h:us=pF (l.take i))(hi:l.length≤i):us=pF l:=by rw [h,List.take_of_length_le hi]
theorem xV{z:Int}:z∈usesV l↔ ∃o∈l,o.how=4∧o.k=z:=by
 unfold usesV;rw [mem_uses];simp [pF,and_assoc]
end
set_option maxRecDepth 100000 in
theorem uses_spec(A:Option Addr)(c:Nat)(l:List OpV)(hl:l.length≤17592186044416):cX Tryz.prog 26 [.slice A l.length c] [] [opE.sl (.slice A l.length c) l] (fun(x:Option Addr×Nat)=> .slice x.1 (usesV l).length x.2) (fun _=>[]) (fun(x:Option Addr×Nat)=>[gC.sl (.slice x.1 (usesV l).length x.2) (usesV l)]):=by
 have hT:=dW;refine cD Tryz.func26 rfl Tryz.ntmps26 rfl ?_;intro β hM;refine sr<|sp hT ?_;refine nn<|sr<|sp hT ?_;refine nn<|bF<|sr<|sp3 hT ?_;refine nn<|bQ<|gB (t:=3) gC ?_;refine dH (ι:=Nat×List Int×Option Addr×Nat) [(6,_),(7,_)] ⟨rfl,rfl,trivial⟩ (fun⟨i,us,UA,uc⟩=>[(3,.slice UA us.length uc),(8,.int .i64 (i:Nat))]) (fun⟨i,us,UA,uc⟩=>[gC.row (.slice UA us.length uc) 3 us]) (fun⟨i,us,UA,uc⟩=>[bI.pure (i≤l.length∧us=pF (l.take i))]) (fun⟨i,us,UA,uc⟩=>l.length-i) (0,[],none,0) ⟨rfl,rfl,trivial⟩ (.cons .head .nil) ⟨Has.pure (⟨by omega,rfl⟩),trivial⟩ ?_;rintro⟨i,us,UA,uc⟩;dsimp only;refine bX (Has.of mT0) fun hinv3=>?_;have hul:us.length≤i:=by rw [hinv3.2];exact Nat.le_trans (bHt _) (List.length_take_le ..)
 refine sr<|sp hT ?_;refine nn<|bF<|bO rfl (fun hc9=>?_) (fun hc9=>?_)
 ·have hc9:=of_decide_eq_true hc9;refine bM<|bE<|bF<|bQ<|sr ?_
  obtain⟨x1,hx2⟩: ∃x',l[i]?=some x':=⟨_,List.getElem?_eq_getElem (by omega)⟩
  refine ss (bG hT (k:=i) (bC (Has.of mT1)) rfl rfl rfl rfl rfl rfl rfl (by omega)) ?_;refine ss (cL hT (bV.knows (bC (Has.of mT1)) (k:=i) (x:=x1) hx2 0) rfl rfl rfl rfl rfl) ?_;refine fC rfl rfl rfl rfl vM rfl fun b3=>?_;refine sto hT .head ?_;refine nn<|sr<|sp hT ?_;refine ss (ldO hT (dC .head)) ?_;refine sp hT ?_;refine nn<|bO rfl (fun hc14=>?_) (fun hc14=>?_)
  ·have hc14:=eq_of_beq hc14;refine bD<|sp2 hT ?_;refine ss (ldO hT (fF .head)) ?_;refine at_one_int (m:=x1.k) rfl rfl rfl rfl rfl fun b4=>?_;refine at_app_int kT2 (iE .head rfl) rfl rfl rfl rfl rfl rfl rfl (by simp;omega) fun A5 c6=>?_;refine sp hT ?_;refine gH<|bU<|bE<|bD<|sp hT ?_;refine bT (z':=(((i+1):Nat):Int)) (cO (by omega) (by omega)) ?_;refine sp hT ?_;refine nn ?_;exact cG (i+1,us++[x1.k],A5,c6) (by dsimp only;omega) ⟨rfl,rfl,trivial⟩ ⟨rfl,rfl,trivial⟩ (.cons .head .nil) ⟨Has.pure (⟨by dsimp only;omega,uses_yes hinv3.2 hx2 ‹_›⟩),trivial⟩ (bH.drop 1)
  have hc14:=beq_eq_false_iff_ne.1 hc14;refine bM<|bU<|bE<|bD<|sp hT ?_;refine bT (z':=(((i+1):Nat):Int)) (cO (by omega) (by omega)) ?_;refine sp hT ?_;refine nn ?_;exact cG (i+1,us,UA,uc) (by dsimp only;omega) ⟨rfl,rfl,trivial⟩ ⟨rfl,rfl,trivial⟩ (.cons kT1 .nil) ⟨Has.pure (⟨by dsimp only;omega,uses_no hinv3.2 hx2 ‹_›⟩),trivial⟩ (bH.drop 1)
 have hc9:=Int.not_lt.1 (of_decide_eq_false hc9);refine cS<|bZ<|bZ<|cR<|bE<|bF ?_;have hue:us=pF l:=uses_full hinv3.2 (by omega);refine bD<|sp hT ?_;refine bDy .head fun hcap=>?_;refine wB .head ?_;refine cU Tryz.func56 (sort_spec UA uc us (by omega)) rfl rfl (.cons .head .nil) trivial fun _=>?_;have hsl:=tO us;refine nn<|sr<|sp hT ?_;have cs:=compact_spec UA uc (rY us) (by omega) (by omega);rw [tO] at cs;refine cU Tryz.func57 cs rfl rfl (.cons .head .nil) trivial fun _=>?_;refine nM .head ?_;refine sp hT ?_;refine nn<|bK ?_;subst hue;exact bL (UA,uc) rfl (rv_tmp rfl) .nil ⟨(Has.of mT0),trivial⟩ rfl
end Go.Proofs.YtofjmphlpdhohaaGreatDoor
