/- Texts of one proof, one behind the other: PlQ, PlR, MapD, PlN, PolyK, PlS, PlT, TysN, FindP, FuA. -/
import Derived.Test.YtofjmphlpdhohaaGreatDoorM9
import Derived.Test.YtofjmphlpdhohaaGreatDoorM12
import Derived.Test.YtofjmphlpdhohaaGreatDoorM8
import Derived.Test.YtofjmphlpdhohaaGreatDoorM7
namespace Go.Proofs.YtofjmphlpdhohaaGreatDoor
open Go.RowKit
def nE:Flat RowV where
 size:=1
 cells:=fun r=>[.pointer (some ⟨r.b,0,none⟩)]
 len:=fun _=>rfl
 one:=fun x u hu=>by simp at hu;subst hu;rfl
 pos:=by decide
def jY (x:SpotV):bI:=(fG x.at_).and (fG x.size)
abbrev plBox(p m:Nat)(st:PSt):bJ:= .obj p (.cells ([.slice st.end_.addr st.end_.list.length st.end_.cap,.slice st.fA st.rows.length st.fc,.int .i64 st.since,.map (some m)]:List Value).toArray 102)
abbrev plRow(st:PSt):bJ:=nE.row (.slice st.fA st.rows.length st.fc) 252 st.rows
abbrev plMap(m:Nat)(st:PSt):bJ:=mapC m .i64 (kvV st.kv)
abbrev plH(p m:Nat)(st:PSt):List bJ:=plBox p m st::plRow st::plMap m st::famR st.rows
def pI (n:List Mono)(r:RowV):Bool:=match r.l[0]? with
 | some x=>decide (sz x=n)
 | none=>false
theorem bGu{n:List Mono}{r:RowV}{x:SpotV}(h:r.l[0]?=some x):pI n r=decide (sz x=n):=by unfold pI;rw [h]
theorem pick_none{n:List Mono}{r:RowV}(h:r.l.length=0):pI n r=false:=by unfold pI;rw [List.getElem?_eq_none (by omega)]
theorem bBs{α:Type}(p:α→Bool): ∀(l:List α) (i:Nat),(mG p l (i:Int)<0→ ∀x∈l,p x=false)∧(0≤mG p l (i:Int)→ ∃(k:Nat) (x:α),mG p l (i:Int)=((i+k:Nat):Int)∧l[k]?=some x∧p x=true)
 | [],i=>⟨fun _ x hx=>(by cases hx),fun h=>absurd h (by show ¬(0:Int)≤ -1;decide)⟩
 | s::r,i=>by
  have ih:=bBs p r (i+1);have ei:((i+1:Nat):Int)=(i:Int)+1:=by omega
  rw [ei] at ih;unfold mG
  by_cases hs:p s=true
  ·rw [if_pos hs];exact⟨fun h=>by omega,fun _=>⟨0,s,by simp,rfl,hs⟩⟩
  ·rw [if_neg hs];refine⟨fun h x hx=>?_,fun h=>?_⟩
   ·rcases List.mem_cons.1 hx with rfl | hx
    ·simpa using hs
    ·exact ih.1 h x hx
   ·obtain⟨k,x,h1,h2,h3⟩:=ih.2 h;exact⟨k+1,x,by rw [h1];omega,h2,h3⟩
theorem idxG_at{α:Type}(p:α→Bool)(l:List α):(mG p l 0<0→ ∀x∈l,p x=false)∧(0≤mG p l 0→ ∃(k:Nat) (x:α),mG p l 0=(k:Nat)∧l[k]?=some x∧p x=true):=by
 have:=bBs p l 0
 simpa using this
theorem pick_no{n:List Mono}{l:List RowV}(h: ∀r∈l,pI n r=false): ∀(j:Nat) (r:RowV) (x:SpotV),l[j]?=some r→r.l[0]?=some x→sz x≠n:=fun j r x hj hx=>by
 have:=h r (List.mem_of_getElem? hj);rw [bGu hx] at this
 simpa using this
theorem pick_yes{n:List Mono}{r:RowV}(h:pI n r=true): ∃x,r.l[0]?=some x∧sz x=n:=by
 unfold pI at h
 cases hx:r.l[0]? with
 | none=>rw [hx] at h;cases h
 | some x=>rw [hx] at h;exact⟨x,rfl,by simpa using h⟩
theorem pl_front(a p fr mp:bJ)(fam:List bJ):(a::p::fr::mp::fam).Perm ((a::fr::fam)++[p,mp]):=by
 refine List.Perm.cons a ?_;have h1:(p::fr::mp::fam).Perm (fr::p::mp::fam):=List.Perm.swap _ _ _;have h2:([p,mp]++fam).Perm (fam++[p,mp]):=List.perm_append_comm;exact h1.trans (h2.cons fr)
def spotO:Option SpotV→Array Value
 | some x=>(dN.cells x).toArray
 | none=> #[.slice none 0 0,.slice none 0 0,.int .i64 0]
def TakeO (st:PSt)(pool:List SpotV)(s:PlC)(fs:List SpotV)(M:Nat)(n:List Mono):Option SpotV→Prop
 | none=>fX st pool s fs M∧s.free.findIdx? (fun y=>decide (y.size=n))=none
 | some q=>q∈pool∧ ∃i,s.free[i]?=some q.c∧s.free.findIdx? (fun y=>decide (y.size=n))=some i∧fX st pool {s with free:=s.free.eraseIdx i} fs M
theorem Sel.skip{H R:List bJ}{c:bJ}(h:Sel H R):Sel (c::H) R:=by
 induction h generalizing c with
 | nil=>exact .nil
 | cons h _ ih=>exact .cons (.tail h) ih
theorem Split.all: ∀{L:List bJ},Split L L []
 | []=> .nil
 | _::_=> .cons .head Split.all
theorem cX.pre{ι:Type}{P:Program}{f:FuncId}{args:List Value}{Hin:List bJ}{Pre Pre':List bI}{val:ι→Value}{Hout:ι→List bJ}{post:ι→List bI}(h:cX P f args Hin Pre val Hout post)(hp:bH Pre' Pre):cX P f args Hin Pre' val Hout post:=fun S w s k=>h S w s (bH.all hp S w k)
section
variable {β : fB} {n : Nat} {Γ : Env} {H H' : List bJ} {F : List bI} {K : Act → World → Prop} {Q : Exit → Act → World → Prop}
theorem dR(p:H.Perm H')(h:At β n Γ H' F K):At β n Γ H F K:=fun a w S f s k=>h a w S f (s.perm p) k
theorem ptrInfo: ∃i:TypeInfo,Tryz.prog.info? 252=some i∧i.zero=some (.pointer none)∧i.size=1∧i.bytes=8:=by
 have h:(Tryz.prog.info? 252).map (fun i=>(i.zero,i.size,i.bytes))=some (some (.pointer none),1,8):=by kernel_rfl
 cases hi:Tryz.prog.info? 252 with
 | none=>simp [hi] at h
 | some i=>simp [hi] at h;exact⟨i,rfl,h.1,h.2.1,h.2.2⟩
theorem at_one_ptr{ops:Array Oper}{rest:List Oper}{o:Oper}{d:Nat}{x:Operand}{m:RowV}(hw:want ops Γ o=some true)(ho:o.op= .buildSlice 100 1 #[(0,x)])(hd:o.dst=some d)(hn:Nat.blt d n=true)
  (hx:Γ.ev x=some (.pointer (some ⟨m.b,0,none⟩))) (k: ∀b,At β n ((d,.slice (some ⟨b,0,none⟩) 1 1)::Γ) (.obj b (.cells (nE.all [m]).toArray 252)::H) F (wpList Tryz.prog ops Q rest)):At β n Γ H F (wpList Tryz.prog ops Q (o::rest)):=by
 obtain⟨i,hi,hz,hs,_⟩:=ptrInfo;refine mH hw ho hd hn hx Tryz.underlying100 hi hz (by omega) (by omega) ?_ k;rw [hs]
 kernel_rfl
theorem at_app_ptr{ops:Array Oper}{rest:List Oper}{o:Oper}{d:Nat}{x y:Operand}{c q:Nat}{v:Value}{A:Option Addr}{xs ys:List RowV}{H':List bJ}(hH:dD H (nE.row v 252 xs) H')(hr:bV β H F nE A ys)(hg:o.guard=none)
  (ho:o.op= .call {callee:= .builtin .append,args:= #[x,y],argTypes:= #[100,100]}) (hd:o.dst=some d) (hn:Nat.blt d n=true)
  (hx:Γ.ev x=some v) (hy:Γ.ev y=some (.slice A q c)) (hq:q=ys.length) (hl:xs.length+ys.length≤17592186044416)
  (k: ∀A' cap',At β n ((d,.slice A' (xs++ys).length cap')::Γ) (nE.row (.slice A' (xs++ys).length cap') 252 (xs++ys)::H') F (wpList Tryz.prog ops Q rest)):At β n Γ H F (wpList Tryz.prog ops Q (o::rest)):=by
 obtain⟨i,hi,hz,hs,hb⟩:=ptrInfo;exact jK hH hr hg ho hd hn Tryz.underlying100 hi hz hs hb rfl hx hy hq (by omega) (by decide) k
theorem row_setP{rows:List RowV}{k:Nat}{r q:RowV}(v:Value)(h:rows[k]?=some r)(hb:q.b=r.b):nE.row v 252 (rows.set k q)=nE.row v 252 rows:=by
 have e:nE.all (rows.set k q)=nE.all rows:=by
  have e:nE.cells q=nE.cells r:=by
   show [Value.pointer (some ⟨q.b,0,none⟩)]=[Value.pointer (some ⟨r.b,0,none⟩)];rw [hb]
  unfold Flat.all;rw [List.flatMap_def,List.flatMap_def,List.map_set,e]
  congr 1
  have hx:(rows.map nE.cells)[k]?=some (nE.cells r):=by rw [List.getElem?_map,h];rfl
  obtain⟨hlt,e2⟩:=List.getElem?_eq_some_iff.1 hx;rw [←e2];exact List.set_getElem_self hlt
 unfold Flat.row;rw [e,List.length_set]
theorem zJ{p m k:Nat}{st:PSt}{r:RowV}{H:List bJ}(q:RowV)(hk:st.rows[k]?=some r)(hb:q.b=r.b)(h:At β n Γ (H++plH p m {st with rows:=st.rows.set k q}) F K):At β n Γ (rowBox q::rowArr q::((H++[plBox p m st,plRow st,plMap m st])++famR (st.rows.take k++st.rows.drop (k+1)))) F K:=by
 refine dR (fam_back hk q _) ?_
 have e:H++plH p m {st with rows:=st.rows.set k q}=(H++[plBox p m st,plRow st,plMap m st])++famR (st.rows.set k q):=by
  show H++(plBox p m {st with rows:=st.rows.set k q}::plRow {st with rows:=st.rows.set k q}::plMap m {st with rows:=st.rows.set k q}::famR (st.rows.set k q))=_
  have e1:plRow {st with rows:=st.rows.set k q}=plRow st:=by
   show nE.row (.slice st.fA (st.rows.set k q).length st.fc) _ (st.rows.set k q)=nE.row (.slice st.fA st.rows.length st.fc) _ st.rows;rw [row_setP _ hk hb,List.length_set]
  have e2:plBox p m {st with rows:=st.rows.set k q}=plBox p m st:=by
   show bJ.obj _ _=bJ.obj _ _;simp only [List.length_set]
  rw [e1,e2];simp
 rw [←e];exact h
theorem bEm{p m k:Nat}{st:PSt}{r:RowV}{H:List bJ}(hk:st.rows[k]?=some r)(h:At β n Γ (rowBox r::rowArr r::((H++[plBox p m st,plRow st,plMap m st])++famR (st.rows.take k++st.rows.drop (k+1)))) F K):At β n Γ (H++plH p m st) F K:=by
 refine dR ?_ h;have e:H++plH p m st=(H++[plBox p m st,plRow st,plMap m st])++famR st.rows:=by simp
 rw [e];exact fam_out hk _
end
theorem at_in_row{β:fB}{n:Nat}{Γ:Env}{F:List bI}{K:Act→World→Prop}{p m k:Nat}{st:PSt}{r:RowV}{H:List bJ}(hk:st.rows[k]?=some r)(h:At β n Γ (H++plH p m st) F K):At β n Γ (rowBox r::rowArr r::((H++[plBox p m st,plRow st,plMap m st])++famR (st.rows.take k++st.rows.drop (k+1)))) F K:=by
 refine dR ?_ h;have e:H++plH p m st=(H++[plBox p m st,plRow st,plMap m st])++famR st.rows:=by simp
 rw [e];exact(fam_out hk _).symm
theorem popR(r:RowV)(x:SpotV)(hok:RowOk r)(hx:r.l[0]?=some x)(hb:r.l.length≤100000000):cX Tryz.prog 162 [.iface 252 (.pointer (some ⟨r.b,0,none⟩))] [rowBox r,dN.held (.slice r.A r.l.length r.c) r.l] [] (fun(_:List SpotV)=> .iface 194 (.agg (dN.cells x).toArray)) (fun m=>[rowBox ⟨r.b,r.A,m.length,true,m⟩,rowArr ⟨r.b,r.A,m.length,true,m⟩]) (fun m=>[bI.pure (r.l.Perm (x::m)∧nO SpotV.since m)]):=by
 obtain⟨N,hN⟩: ∃N,r.l.length=N+1:=⟨r.l.length-1,by have:=(List.getElem?_eq_some_iff.1 hx).1;omega⟩
 obtain⟨z,hz⟩: ∃z,r.l[N]?=some z:=⟨_,List.getElem?_eq_getElem (by omega)⟩
 have h:=HPop_spec r.A r.b r.c N r.l x z hN (by have:=hok.2.1;omega) hx hz hok.2.2.1 (by omega);rw [←hN] at h;intro S w s k;refine(h S w s k).mono ?_;rintro e w' ⟨m,S',he,s',k'⟩;have hm:=k' _ (List.mem_cons_self ..)
 have hl:m.length=N:=by
  have:=hm.1.length_eq;simp at this;omega
 refine⟨m,S',he,?_,k'⟩;subst hl;exact s'
theorem pushR(r:RowV)(x:SpotV)(hok:RowOk r)(ha: ∀q∈r.l,q.since≤x.since)(hb:r.l.length≤100000000):cX Tryz.prog 164 [.iface 252 (.pointer (some ⟨r.b,0,none⟩)),.iface 194 (.agg (dN.cells x).toArray)] [rowBox r,rowArr r] [] (fun(_:Option Addr×Nat)=> .tuple #[])
  (fun y=>[rowBox ⟨r.b,y.1,y.2,false,r.l++[x]⟩,rowArr ⟨r.b,y.1,y.2,false,r.l++[x]⟩]) (fun y=>[bI.pure ((r.l++[x]).length≤y.2)]):=by
 cases hf:r.full with
 | false=>
  rw [rowArr_room hf];exact HPush_spec r.A r.b r.c r.l x ha hb
 | true=>
  rw [rowArr_full hf];have hc:=hok.1 hf;have h:=HPushF_spec r.A r.b r.l x ha hb;unfold rowBox;rw [hc];exact h
theorem spotsF_at{F:List bI}{pool:List SpotV}{x:SpotV}(h:Has F (bI.each pool jY))(hx:x∈pool):Has F (fG x.at_):=fun S w k=>(h S w k x hx).1
theorem spotsF_size{F:List bI}{pool:List SpotV}{x:SpotV}(h:Has F (bI.each pool jY))(hx:x∈pool):Has F (fG x.size):=fun S w k=>(h S w k x hx).2
set_option maxRecDepth 100000 in
theorem indexR_spec(A:Option Addr)(c:Nat)(l:List RowV)(hl:l.length≤140737488355328)(f:FuncId)(cap:List Value)(G:List bI)(p:RowV→Bool)(hcf: ∀(args:Array Value) (w:World),(callFunc f args).run Tryz.prog w= .ok (.enter f args) w)(hf: ∀r∈l,cX Tryz.prog f (.pointer (some ⟨r.b,0,none⟩)::cap) [] G (fun _:Unit=> .bool (p r)) (fun _=>[]) (fun _=>[])):cX Tryz.prog 221 [.slice A l.length c,.func (.func f) #[] cap.toArray] [] (nE.sl (.slice A l.length c) l::G) (fun(_:Unit)=> .int .i64 (mG p l 0)) (fun _=>[]) (fun _=>[]):=by
 have hT:=fD;generalize hR:mG p l 0=r;refine cD Tryz.func221 rfl Tryz.ntmps221 rfl ?_;intro β hM;refine sr<|sp hT ?_;refine nn<|bF<|sr<|sp3 hT ?_;refine nn<|bQ<|dH (ι:=Nat) [(0,_),(1,_),(7,_)] ⟨rfl,rfl,rfl,trivial⟩ (fun i=>[(8,.int .i64 (i:Nat))]) (fun _=>[]) (fun i=>[bI.pure (i≤l.length∧r=mG p (l.drop i) i)]) (fun i=>l.length-i) 0 ⟨rfl,trivial⟩ .nil ⟨Has.pure (⟨by omega,hR.symm⟩),trivial⟩ ?_;rintro i;refine bX (Has.of mT0) fun hinv2=>?_;refine sr<|sp hT ?_;refine nn<|bF<|bO rfl (fun hc9=>?_) (fun hc9=>?_)
 ·have hc9:=of_decide_eq_true hc9;refine bM<|bE<|bF<|bQ<|sr<|sp2 hT ?_;refine nn<|sr<|sp3 hT ?_
  obtain⟨x1,hx2⟩: ∃x',l[i]?=some x':=⟨_,List.getElem?_eq_getElem (by omega)⟩
  refine ss (bG hT (k:=i) (bC (Has.of mT1)) rfl rfl rfl rfl rfl rfl rfl (by omega)) ?_;refine ss (bR hT (bV.knows (bC (Has.of mT1)) (k:=i) (x:=x1) hx2 0) rfl rfl rfl rfl rfl) ?_;refine mA hcf (hf x1 (List.mem_of_getElem? hx2)) rfl rfl rfl rfl rfl rfl rfl .nil (bH.drop 2) fun _=>?_;refine nn<|bO rfl (fun hc16=>?_) (fun hc16=>?_)
  ·refine sr<|sp2 hT ?_;refine nn<|bK<|bW<|bN<|bN<|bW<|bN ?_;have hr:=(lR hinv2.2 hx2).1 ‹_›;subst hr;exact bL () rfl (rv_tmp rfl) .nil trivial rfl
  refine bM<|bU<|bE<|bD<|sp hT ?_;refine bT (z':=(((i+1):Nat):Int)) (cO (by omega) (by omega)) ?_;refine sp hT ?_;refine nn ?_;exact cG (i+1) (by omega) ⟨rfl,trivial⟩ ⟨rfl,rfl,rfl,trivial⟩ .nil ⟨Has.pure (⟨by omega,(lR hinv2.2 hx2).2 ‹_›⟩),trivial⟩ (bH.drop 1)
 have hc9:=Int.not_lt.1 (of_decide_eq_false hc9);refine cS<|bZ<|bZ<|cR<|bE<|sr<|sp hT ?_;refine nn<|bK ?_;have hr:=xB hinv2.2 (by omega);subst hr;exact bL () rfl (rv_tmp rfl) .nil trivial rfl
set_option maxRecDepth 100000 in
theorem rowOf1_spec(r:RowV)(sb:Nat)(size:PolV)(pool:List SpotV)(hin: ∀x∈r.l,x∈pool):cX Tryz.prog 222 [.pointer (some ⟨r.b,0,none⟩),.pointer (some ⟨sb,0,none⟩)] [] [bI.cells r.b 0 [.slice r.A r.l.length r.c],dN.sl (.slice r.A r.l.length r.c) r.l,bI.cells sb 0 [.slice size.addr size.list.length size.cap],fG size,bI.each pool jY] (fun(_:Unit)=> .bool (pI size.list r)) (fun _=>[]) (fun _=>[]):=by
 have hT:=fD;refine cD Tryz.func222 rfl Tryz.ntmps222 rfl ?_;intro β hM;refine sr<|sp hT ?_;refine nn<|bF<|dX _ _ [(true,0),(true,1),(true,2),(true,3),(true,4),(true,5),(true,6),(true,7),(true,8),(true,9),(true,10),(true,11),(true,12),(false,13),(true,14),(true,15)] fH (by decide+kernel) .nil bH.self ?_;refine puM hT ?_;refine puM hT ?_;refine stM rfl (bR hT (fE (off:=0) (Has.of mT0)) rfl rfl rfl rfl rfl) ?_;refine puM hT ?_;refine puM hT ?_;refine puM hT ?_;refine cA (fun hg9=>?_) (fun hg9=>?_)
 ·have hg9:=of_decide_eq_true hg9;refine puM hT ?_;refine puM hT ?_;refine stM rfl (bR hT (fE (off:=0) (Has.of mT0)) rfl rfl rfl rfl rfl) ?_
  obtain⟨x1,hx2⟩: ∃x',r.l[0]?=some x':=⟨_,List.getElem?_eq_getElem (by omega)⟩
  refine stM rfl (bG hT (k:=0) (bC (Has.of mT1)) rfl rfl rfl rfl rfl rfl rfl (by omega)) ?_;refine puM hT ?_;refine stM rfl (bR hT (bV.knows (bC (Has.of mT1)) (k:=0) (x:=x1) hx2 1) rfl rfl rfl rfl rfl) ?_;refine stM rfl (bR hT (fE (off:=0) (Has.of mT2)) rfl rfl rfl rfl rfl) ?_;refine dA (o:=_) rfl ?_;refine cC (fG x1.size) (spotsF_size (Has.of mT4) (hin x1 (List.mem_of_getElem? hx2))) ?_;refine bX (fQ (Has.of mT0)) fun hxl=>?_;refine cU Tryz.func100 (bAb x1.size size hxl) rfl rfl .nil ⟨mD (Has.of mT0),mD (Has.of mT4),trivial⟩ fun _=>?_;refine dB .nil (bH.drop 1) ?_;refine puM hT ?_;refine puM hT ?_;refine cJ<|bE<|bK ?_;exact bL () rfl (rv_tmp rfl) .nil trivial (by rw [bGu hx2];rfl)
 have hg9:=Int.not_lt.1 (of_decide_eq_false hg9);refine bA rfl rfl rfl rfl ?_;refine bA rfl rfl rfl rfl ?_;refine bA rfl rfl rfl rfl ?_;refine bA rfl rfl rfl rfl ?_;refine bA rfl rfl rfl rfl ?_;refine bA rfl rfl rfl rfl ?_;refine bA rfl rfl rfl rfl ?_;refine dA (o:=_) rfl ?_;refine sk ?_;refine dB .nil (bH.drop 0) ?_;refine puM hT ?_;refine puM hT ?_;refine cJ<|bE<|bK ?_;exact bL () rfl (rv_tmp rfl) .nil trivial (by rw [pick_none (by omega)])
set_option maxRecDepth 100000 in
theorem bBo(pb mb:Nat)(st:PSt)(pool fs:List SpotV)(s:PlC)(M:Nat)(h:fX st pool s fs M)(hM:M≤90000000)(size:PolV):cX Tryz.prog 160 [.pointer (some ⟨pb,0,none⟩),.slice size.addr size.list.length size.cap] (plH pb mb st) [fG size,bI.each pool jY] (fun(x:PSt×Nat×RowV)=> .pointer (some ⟨x.2.2.b,0,none⟩)) (fun(x:PSt×Nat×RowV)=>plH pb mb x.1) (fun(x:PSt×Nat×RowV)=>[bI.pure (fX x.1 pool s fs (M+1)∧Picked size.list x.1 x.2.1 x.2.2∧x.1.end_=st.end_∧x.1.since=st.since)]):=by
 have hT:=fD;refine cD Tryz.func160 rfl Tryz.ntmps160 rfl ?_;intro β hM;refine sr<|iL rfl rfl rfl rfl rfl rfl fun b1=>?_;refine sp hT ?_;refine nn<|sr<|sp3 hT ?_;refine ss (ldO hT (fF kT1)) ?_;refine sp hT ?_;refine dR (pl_front _ _ _ _ _) ?_;refine fP (bP Tryz.func221 rfl rfl) (indexR_spec st.fA st.fc st.rows (by have:=h.many;omega) 222 [.pointer (some ⟨b1,0,none⟩)] [bI.each st.rows rowG,bI.cells b1 0 [.slice size.addr size.list.length size.cap],fG size,bI.each pool jY] (pI size.list) (bP Tryz.func222 rfl rfl) (fun r hr=>(rowOf1_spec r b1 size pool (fun x hx=>by obtain⟨k,hk⟩:=List.getElem?_of_mem hr;exact h.inPool hk hx)).pre ⟨(Has.each (Has.of mT0) hr).left,(Has.each (Has.of mT0) hr).right,Has.of mT1,Has.of mT2,Has.of mT3,trivial⟩)) rfl rfl rfl rfl rfl .nil (Split.front _ _) (kN (pX (bGn _))) ⟨Has.of mT1,Has.of mT2,Has.of mT0,Has.of mT3,Has.of mT4,trivial⟩ (fun _=>True) (fun _ _ _ _=>trivial) fun _ _=>?_;refine dR (pl_front _ _ _ _ _).symm ?_;have hidx:=idxG_at (pI size.list) st.rows;generalize mG (pI size.list) st.rows 0=z at hidx⊢;refine sp hT ?_;refine nn<|bF<|sr<|sp2 hT ?_;refine nn<|bO rfl (fun hc13=>?_) (fun hc13=>?_)
 ·have hc13:=of_decide_eq_true hc13;refine sr<|sp4 hT ?_;refine ss (ldO hT (fF kT1)) ?_;refine at_none_row rfl rfl rfl rfl fun nb2=>?_;refine iL rfl rfl rfl rfl rfl rfl fun b3=>?_;refine at_one_ptr (m:=(⟨b3,some ⟨nb2,0,none⟩,0,false,[]⟩:RowV)) rfl rfl rfl rfl rfl fun b4=>?_;refine at_app_ptr kT5 (iE .head rfl) rfl rfl rfl rfl rfl rfl rfl (by have:=h.many;simp only [List.length_singleton];omega) fun A5 c6=>?_;refine sp2 hT ?_;refine sto hT kT5 ?_;refine nn<|bD<|sp3 hT ?_;refine ss (ldO hT (fF .head)) ?_;refine sp2 hT ?_;refine bT (z':=((st.rows.length:Nat):Int)) (by rw [List.length_append,List.length_singleton,show((st.rows.length+1:Nat):Int)-1=(st.rows.length:Nat) by omega];exact cO rfl (by have:=h.many;omega)) ?_;refine sp hT ?_;refine nn<|sr<|sp3 hT ?_;refine ss (ldO hT (fF .head)) ?_;refine sp hT ?_;refine ss (bG hT (k:=st.rows.length) (cE kT1) rfl rfl rfl rfl rfl rfl rfl (by simp)) ?_;refine ss (bR hT (bV.knows (cE kT1) (k:=st.rows.length) (x:=(⟨b3,some ⟨nb2,0,none⟩,0,false,[]⟩:RowV)) (by simp) 0) rfl rfl rfl rfl rfl) ?_;refine sp hT ?_;refine nn<|bK ?_;have hnew:=picked_new (q:=(⟨b3,some ⟨nb2,0,none⟩,0,false,[]⟩:RowV)) h rfl (pick_no (hidx.1 hc13)) A5 c6 rfl;refine mJ (.cons .head (.cons .head (.cons kT4 (.cons kT1 (.cons kT1 (Sel.skip (Sel.skip Sel.self))))))) ?_;refine dR ((((fam_new (⟨b3,some ⟨nb2,0,none⟩,0,false,[]⟩:RowV) []).cons _).cons _).cons _) ?_;exact bL (_,st.rows.length,(⟨b3,some ⟨nb2,0,none⟩,0,false,[]⟩:RowV)) rfl (rv_tmp rfl) Sel.self ⟨Has.pure ⟨hnew.1,hnew.2,rfl,rfl⟩,trivial⟩ rfl
 have hc13:=Int.not_lt.1 (of_decide_eq_false hc13);obtain⟨k,r,hzk,hk,hpk⟩:=hidx.2 (by omega);refine bM<|bE<|sr<|sp3 hT ?_;refine ss (ldO hT (fF kT1)) ?_;refine sp hT ?_;refine ss (bG hT (k:=k) (cE kT2) rfl rfl rfl rfl rfl rfl hzk ((List.getElem?_eq_some_iff.1 hk).1)) ?_;refine ss (bR hT (bV.knows (cE kT2) (k:=k) (x:=r) hk 0) rfl rfl rfl rfl rfl) ?_;refine sp hT ?_;refine nn<|bK ?_;obtain⟨x0,hx0,hsz⟩:=pick_yes hpk;exact bL (st,k,r) rfl (rv_tmp rfl) (.cons kT1 (.cons kT1 (.cons kT1 (Sel.skip Sel.self)))) ⟨Has.pure ⟨h.more (by omega),picked_old h hk hx0 hsz,rfl,rfl⟩,trivial⟩ rfl
theorem pZ:Tryz.prog.built 194 []=some #[.slice none 0 0,.slice none 0 0,.int .i64 0]:=by kernel_rfl
set_option maxRecDepth 100000 in
theorem take_spec(pb mb:Nat)(st:PSt)(pool fs:List SpotV)(s:PlC)(M:Nat)(h:fX st pool s fs M)(hM:M≤80000000)(size:PolV):cX Tryz.prog 103 [.pointer (some ⟨pb,0,none⟩),.slice size.addr size.list.length size.cap] (plH pb mb st) [fG size,bI.each pool jY] (fun(x:PSt×List SpotV×Option SpotV)=> .tuple #[.agg (spotO x.2.2),.bool x.2.2.isSome]) (fun(x:PSt×List SpotV×Option SpotV)=>plH pb mb x.1) (fun(x:PSt×List SpotV×Option SpotV)=>[bI.pure (TakeO x.1 pool s x.2.1 (M+1) size.list x.2.2∧x.1.end_=st.end_∧x.1.since=st.since)]):=by
 have hT:=fD;refine cD Tryz.func103 rfl Tryz.ntmps103 rfl ?_;intro β hM;refine sr<|fC rfl rfl rfl rfl rB rfl fun b1=>?_;refine sp hT ?_;refine nn<|sr<|sp2 hT ?_;refine dR (List.perm_append_comm (l₁:=[_])) ?_;refine cU Tryz.func160 (bBo pb mb st pool fs s M h (by omega) size) rfl rfl (Split.front _ _) ⟨Has.of mT0,Has.of mT1,trivial⟩ fun y2=>?_;refine dR List.perm_append_comm ?_;refine bX (Has.of mT0) fun hro=>?_;refine bEm (H:=[_]) hro.2.1.at_ ?_;refine sp hT ?_;refine nn<|bF<|sr<|sp2 hT ?_;refine ss (ldO hT (dC .head)) ?_;refine cU Tryz.func161 (wR y2.2.2.A y2.2.2.l.length y2.2.2.c) rfl rfl .nil trivial fun _=>?_;refine sp hT ?_;refine nn<|bO rfl (fun hc14=>?_) (fun hc14=>?_)
 ·have hc14:=eq_of_beq hc14;refine sr<|ss (iV rfl rfl (pZ)) ?_;refine sto hT kT2 ?_;refine sp hT ?_;refine nn<|bK<|bN ?_;have hre:y2.2.2.l=[]:=List.eq_nil_of_length_eq_zero (by omega);refine mJ (.cons kT1 (.cons kT1 (.cons .head (.cons .head (.cons .head (.cons .head Sel.self)))))) ?_;refine at_in_row (H:=[_]) hro.2.1.at_ ?_;exact dO (y2.1,fs,none) rfl (tN hT (dC .head) rfl rfl rfl rfl) (rv_tmp rfl) (.cons kT1 (.cons kT1 (.cons kT1 (Sel.skip Sel.self)))) ⟨Has.pure ⟨⟨hro.1,picked_none hro.1 hro.2.1 hre⟩,hro.2.2⟩,trivial⟩ rfl
 have hc14:=beq_eq_false_iff_ne.1 hc14;refine bM<|bE<|sr<|sp hT ?_;refine ss (xA rfl Tryz.underlying252 (fun _ e=>by cases e) rfl) ?_;have hok:=hro.1.ok _ _ hro.2.1.at_
 obtain⟨x,hx⟩: ∃q,y2.2.2.l[0]?=some q:=⟨_,List.getElem?_eq_getElem (by omega)⟩
 refine at_arr_held kT1 ?_;refine cU Tryz.func162 (popR y2.2.2 x hok hx (by have:=hro.1.rlen hro.2.1.at_;omega)) rfl rfl (.cons kT1 (.cons .head .nil)) trivial fun m3=>?_;refine bX (Has.of mT0) fun hpop=>?_;refine ss (vG rfl Tryz.underlying194 (fun _ e=>by cases e) rfl) ?_;refine sto hT kT2 ?_;refine sp hT ?_;refine nn<|bK ?_;obtain⟨i,hi1,hi2,hrel⟩:=rel_take (q:=⟨y2.2.2.b,y2.2.2.A,m3.length,true,m3⟩) hro.1 hro.2.1 hx hpop.1 hpop.2 rfl;refine mJ (.cons kT1 (.cons kT1 (.cons .head (.cons .head (.cons .head (.cons .head Sel.self)))))) ?_;refine zJ (H:=[_]) ⟨y2.2.2.b,y2.2.2.A,m3.length,true,m3⟩ hro.2.1.at_ rfl ?_;exact dO (_,fs.eraseIdx i,some x) rfl (tN hT (dC .head) rfl rfl rfl rfl) (rv_tmp rfl) (.cons kT1 (.cons kT1 (.cons kT1 (Sel.skip Sel.self)))) ⟨Has.pure ⟨⟨hro.1.inPool hro.2.1.at_ (List.mem_of_getElem? hx),i,hi1,hi2,hrel⟩,hro.2.2⟩,trivial⟩ rfl
set_option maxRecDepth 100000 in
theorem give_spec(pb mb:Nat)(st:PSt)(pool fs:List SpotV)(s:PlC)(M:Nat)(h:fX st pool s fs M)(hM:M≤80000000)(x:SpotV)(hx:x∈pool)(hne:sz x≠[]):cX Tryz.prog 105 [.pointer (some ⟨pb,0,none⟩),.agg #[.slice x.at_.addr x.at_.list.length x.at_.cap,.slice x.size.addr x.size.list.length x.size.cap,.int .i64 x.since]] (plH pb mb st) [bI.each pool jY] (fun(_:PSt)=> .tuple #[]) (fun(y:PSt)=>plH pb mb y) (fun(y:PSt)=>[bI.each ((⟨x.at_,x.size,st.since+1⟩:SpotV)::pool) jY,bI.pure (fX y ((⟨x.at_,x.size,st.since+1⟩:SpotV)::pool) {s with free:=s.free++[x.c]} (fs++[(⟨x.at_,x.size,st.since+1⟩:SpotV)]) (M+3)∧y.end_=st.end_)]):=by
 have hT:=fD;have hlow:=h.low;have hhigh:=h.high;refine cD Tryz.func105 rfl Tryz.ntmps105 rfl ?_;intro β hM;refine bF ?_;have hst: ∀f∈fs,f.since<st.since+1:=fun f hf=>by have:=h.top f hf;omega
 refine bD<|iL rfl rfl rfl rfl rfl rfl fun b1=>?_;refine nn<|sr<|sp3 hT ?_;refine ss (ldO hT (yQ kT1)) ?_;refine sp hT ?_;refine bT (uJ (by omega) (by omega)) ?_;refine sp2 hT ?_;refine sto hT kT1 ?_;refine nn<|sr<|sp3 hT ?_;refine ss (ldO hT (yQ .head)) ?_;refine sp hT ?_;refine sto hT kT1 ?_;refine nn<|dX _ _ [(true,0),(true,1),(true,2),(true,5),(true,6),(false,3),(true,4),(false,7)] fH (by decide+kernel) (.cons .head .nil) bH.self ?_;refine puM hT ?_;refine puM hT ?_;refine stM rfl (ldO hT (fF .head)) ?_;refine stM rfl (ldN hT (dC .head)) ?_;refine stM rfl (xA rfl Tryz.underlying194 (fun _ e=>by cases e) rfl) ?_;refine dA (o:=_) rfl ?_;refine dR (List.perm_append_comm (l₁:=[_])) ?_;refine cU Tryz.func160 (bBo pb mb ({st with since:=st.since+1}:PSt) pool fs s (M+1) h.later (by omega) x.size) rfl rfl (Split.front _ _) ⟨spotsF_size (Has.of mT0) hx,Has.of mT0,trivial⟩ fun y2=>?_;refine dR List.perm_append_comm ?_;refine bX (Has.of mT0) fun hro=>?_;refine bEm (H:=[_]) hro.2.1.at_ ?_;refine dB (.cons kT2 .nil) (bH.drop 1) ?_;refine stM rfl (xA rfl Tryz.underlying252 (fun _ e=>by cases e) rfl) ?_;refine dA (o:=_) rfl ?_;have hok:=hro.1.ok _ _ hro.2.1.at_;refine cU Tryz.func164 (pushR y2.2.2 (⟨x.at_,x.size,st.since+1⟩:SpotV) hok (fun q hq=>Int.le_of_lt (hst q (hro.1.mem hro.2.1.at_ hq))) (by have:=hro.1.rlen hro.2.1.at_;omega)) rfl rfl (.cons .head (.cons .head .nil)) trivial fun y3=>?_;refine bX (Has.of mT0) fun hpu=>?_;refine dB (.cons kT2 .nil) (bH.drop 2) ?_;refine cJ<|zJ (H:=[_]) ⟨y2.2.2.b,y3.1,y3.2,false,y2.2.2.l++[(⟨x.at_,x.size,st.since+1⟩:SpotV)]⟩ hro.2.1.at_ rfl ?_;have hrel:=rel_give (q:=⟨y2.2.2.b,y3.1,y3.2,false,y2.2.2.l++[(⟨x.at_,x.size,st.since+1⟩:SpotV)]⟩) (x:=(⟨x.at_,x.size,st.since+1⟩:SpotV)) (hro.1.wide (⟨x.at_,x.size,st.since+1⟩:SpotV)) ⟨hro.2.1.at_,hro.2.1.all,hro.2.1.rest⟩ hne rfl rfl hpu hro.2.2.2.symm hst (List.mem_cons_self ..);refine cC (bI.each ((⟨x.at_,x.size,st.since+1⟩:SpotV)::pool) jY) (Has.each_cons (Has.and (spotsF_at (x:=x) (Has.of mT2) hx) (spotsF_size (x:=x) (Has.of mT2) hx)) (Has.of mT2)) ?_;exact jS _ rfl (.cons kT1 (.cons kT1 (.cons kT1 (Sel.skip Sel.self)))) ⟨Has.of mT0,Has.pure ⟨hrel.more (by omega),hro.2.2.1⟩,trivial⟩ (rfl)
open Go.ChangeMaps (setBlock)
def bFc (k:Int):KV→KV
 | []=>[]
 | p::r=>if k==p.1 then r else p::bFc k r
theorem md_mape{α β:Type}(f:α→β): ∀(l:List α) (i:Nat),(l.eraseIdx i).map f=(l.map f).eraseIdx i
 | [],_=>rfl
 | _::_,0=>rfl
 | x::l,i+1=>by simp [md_mape f l i]
theorem bDw{k:Int}: ∀{kv:KV} {i:Nat},nC k kv i=none→bFc k kv=kv
 | [],_,_=>rfl
 | p::r,i,h=>by
  unfold nC at h;unfold bFc;split at h
  ·cases h
  ·rename_i hk;rw [if_neg hk,bDw h]
theorem bEg{k:Int}{j:Nat}{u:Value}: ∀{kv:KV} {i:Nat},nC k kv i=some (j,u)→ ∃d,j=i+d∧bFc k kv=kv.eraseIdx d
 | [],_,h=>by cases h
 | p::r,i,h=>by
  unfold nC at h;split at h
  ·rename_i hk;simp only [Option.some.injEq,Prod.mk.injEq] at h;exact⟨0,by omega,by simp [bFc,hk]⟩
  ·rename_i hk;obtain⟨d,h1,h2⟩:=bEg h;exact⟨d+1,by omega,by rw [bFc,if_neg hk,h2];rfl⟩
section
variable {P : Program} {kk : IntKind} {k : Int} {w : World} {t kt et : TypeId}
theorem bFg(ht:P.underlying t=some (.map kt et))(hk:P.underlying kt=some (.int kk)){z:Value}(hz:(zeroValue et).run P w= .ok z w){r:Nat}{kv:KV}(h:MapO kk kv (w.heap[r]?)):
  (Instr.lookup t (.map (some r)) (.int kk k) true).run P w= .ok (.tuple #[(getM k kv).getD z,.bool (getM k kv).isSome]) w:=by
 obtain⟨es,clock,hb,hkv⟩:=h;unfold Instr.lookup;simp only [Sem.run_bind,run_underlying ht,Result.andThen_ok,MapKept.run_getObj_map hb,Sem.run_pure,kY hk,lU hk hkv];rw [←find_get k kv 0]
 cases nC k kv 0 with
 | none=>simp [hz]
 | some p=>simp
theorem run_deleteI(ht:P.underlying t=some (.map kt et))(hk:P.underlying kt=some (.int kk)){r:Nat}{kv:KV}{kt2 ty:TypeId}(h:MapO kk kv (w.heap[r]?)):
  ∃o,(Builtin.delete_ #[t,kt2] ty #[.map (some r),.int kk k]).run P w= .ok (.tuple #[]) (setBlock w r o)∧MapO kk (bFc k kv) ((setBlock w r o).heap[r]?):=by
 obtain⟨es,clock,hb,hkv⟩:=h
 cases hf:nC k kv 0 with
 | none=>
  refine⟨.map es clock,?_,⟨_,_,ChangeMaps.heap_setBlock_same hb _,?_⟩⟩
  ·unfold Builtin.delete_;simp only [List.getElem?_toArray,List.getElem?_cons_zero,List.getElem?_cons_succ,Sem.run_bind,run_underlying ht,Result.andThen_ok,MapKept.run_getObj_map hb,kY hk,lU hk hkv,hf];rw [MapKept.run_setObj_map _ hb];simp [setBlock]
  ·rw [bDw hf];exact hkv
 | some p=>
  obtain⟨j,u⟩:=p;obtain⟨d,h1,h2⟩:=bEg hf;obtain rfl:j=d:=by omega
  refine⟨.map (es.eraseIdxIfInBounds j) clock,?_,⟨_,_,ChangeMaps.heap_setBlock_same hb _,?_⟩⟩
  ·unfold Builtin.delete_;simp only [List.getElem?_toArray,List.getElem?_cons_zero,List.getElem?_cons_succ,Sem.run_bind,run_underlying ht,Result.andThen_ok,MapKept.run_getObj_map hb,kY hk,lU hk hkv,hf];rw [MapKept.run_setObj_map _ hb];simp [setBlock]
  ·rw [h2];have e:(es.eraseIdxIfInBounds j).toList=es.toList.eraseIdx j:=by simp
   rw [e,md_mape,hkv];unfold kvI;rw [md_mape]
end
section
variable {P : Program} {β : fB} {n : Nat} {Γ : Env} {H : List bJ} {F : List bI} {Q : Exit → Act → World → Prop} {K : Act → World → Prop} {ops : Array Oper} {rest : List Oper} {o : Oper}
theorem uG{r:Nat}{kk:IntKind}{kv:KV}{t kt et:TypeId}{m x:Operand}{k:Int}{z v:Value}(hkm:KnowsMap β H F r kk kv)(ho:o.op= .lookup t m x true)(ht:P.underlying t=some (.map kt et))(hk:P.underlying kt=some (.int kk))(hz: ∀w,(zeroValue et).run P w= .ok z w)
  (hm:Γ.ev m=some (.map (some r))) (hx:Γ.ev x=some (.int kk k)) (hv:(.tuple #[(getM k kv).getD z,.bool (getM k kv).isSome]:Value)=v):Sti P β n Γ H F o v:=fun a w S f s hF=>by
 have:=bFg (k:=k) ht hk (hz w) (hkm w S s hF);unfold execOp;simp only [ho,f.ev hm,f.ev hx];rw [Sem.run_bind,this,hv];rfl
theorem at_delete{r:Nat}{kk:IntKind}{kv:KV}{H':List bJ}(hH:dD H (mapC r kk kv) H'){t kt et kt2:TypeId}{m x:Operand}{k:Int}(hw:want ops Γ o=some true)(ho:o.op= .call {callee:= .builtin .delete,args:= #[m,x],argTypes:= #[t,kt2]})(hd:o.dst=none)(ht:P.underlying t=some (.map kt et))(hk:P.underlying kt=some (.int kk))
  (hm:Γ.ev m=some (.map (some r))) (hx:Γ.ev x=some (.int kk k)) (K':At β n Γ (mapC r kk (bFc k kv)::H') F (wpList P ops Q rest)):At β n Γ H F (wpList P ops Q (o::rest)):=
 iH hw fun a w S f s hF=>by
  have hok:MapO kk kv (w.heap[r]?):=s.ok _ hH.mem;obtain⟨ob,hr0,hm0⟩:=run_deleteI (k:=k) (kt2:=kt2) (ty:=o.type) ht hk hok
  have hr:(execOp a.eval o).run P w= .ok (.value (.tuple #[])) (setBlock w r ob):=by
   unfold execOp;simp only [ho,resolve,invoke,builtin,Sem.run_bind,Sem.run_pure,Result.andThen_ok,List.map_toArray,List.map_cons,List.map_nil,f.ev hm,f.ev hx,hr0]
  unfold Oper.wp;rw [hr,Oper.upon_value,hd];have s2:=s.perm hH.perm;exact K' _ _ S (f.put_none _) (s2.swap mT rfl rfl hm0) (All.mono (fun _ h=>h) (s.agree mT (fun c hc e=>by subst e;exact(s2.own _ (List.mem_cons_self ..) _ rfl).2.2 hc)) hF)
end
end Go.Proofs.YtofjmphlpdhohaaGreatDoor
namespace Go.Proofs.YtofjmphlpdhohaaGreatDoor
open Go.RowKit
def oneK (i:Int)(y:LifeC)(k:Nat)(s:PlC):PlC:=match (s.laid[k]?).bind id with
 | some q=>if y.to_<i then {s with laid:=s.laid.set k none,free:=if q.size=[] then s.free else s.free++[q]} else s
 | none=>s
def relK (i:Int)(l:List LifeC)(s:PlC):Nat→PlC
 | 0=>s
 | k+1=>match l[k]? with
  | some y=>oneK i y k (relK i l s k)
  | none=>relK i l s k
theorem tD(i:Int): ∀(ys:List LifeC) (r:List (Option SpC)),(relGo i ys r).1.length=r.length
 | [],l=>rfl
 | y::ys,[]=>by simp [relGo]
 | y::ys,none::r=>by simp [relGo,tD i ys r]
 | y::ys,some q::r=>by
  have:=tD i ys r;simp only [relGo];split<;>simp [this]
theorem bCn(i:Int)(y:LifeC)(o:Option SpC): ∀(ys:List LifeC) (r:List (Option SpC)),ys.length=r.length→relGo i (ys++[y]) (r++[o])=
  match o with
  | some q=>if y.to_<i then ((relGo i ys r).1++[none],(relGo i ys r).2++(if q.size=[] then [] else [q])) else ((relGo i ys r).1++[some q],(relGo i ys r).2)
  | none=>((relGo i ys r).1++[none],(relGo i ys r).2)
 | [],[],_=>by
  cases o with
  | none=>simp [relGo]
  | some q=>
   by_cases h:y.to_<i
   ·by_cases h2:q.size=[]<;>simp [relGo,h,h2]
   ·simp [relGo,h]
 | [],_::_,h=>by simp at h
 | _::_,[],h=>by simp at h
 | z::ys,p::r,h=>by
  have ih:=bCn i y o ys r (by simpa using h)
  cases p with
  | none=>
   simp only [List.cons_append,relGo,ih]
   cases o with
   | none=>rfl
   | some q=>by_cases h1:y.to_<i<;>simp [h1]
  | some p=>
   simp only [List.cons_append,relGo,ih]
   cases o with
   | none=>
    by_cases h2:z.to_<i
    ·simp only [h2,if_true]
     by_cases h3:p.size=[]<;>simp [h3]
    ·simp [h2]
   | some q=>
    by_cases h1:y.to_<i<;>by_cases h2:z.to_<i<;>by_cases h3:p.size=[]<;>by_cases h4:q.size=[]<;>simp [h1,h2,h3,h4]
theorem relK_at(i:Int)(l:List LifeC)(s:PlC)(hl:l.length=s.laid.length): ∀k,k≤l.length→relK i l s k={s with laid:=(relGo i (l.take k) (s.laid.take k)).1++s.laid.drop k,free:=s.free++(relGo i (l.take k) (s.laid.take k)).2}
 | 0,_=>by simp [relK,relGo]
 | k+1,h=>by
  have ih:=relK_at i l s hl k (by omega)
  obtain⟨y,hy⟩: ∃y,l[k]?=some y:=⟨_,List.getElem?_eq_getElem (by omega)⟩
  obtain⟨o,ho⟩: ∃o,s.laid[k]?=some o:=⟨_,List.getElem?_eq_getElem (by omega)⟩
  have e1:l.take (k+1)=l.take k++[y]:=by rw [List.take_add_one,hy];rfl
  have e2:s.laid.take (k+1)=s.laid.take k++[o]:=by rw [List.take_add_one,ho];rfl
  have e3:s.laid.drop k=o::s.laid.drop (k+1):=by
   obtain⟨hlt,e⟩:=List.getElem?_eq_some_iff.1 ho;rw [←e,List.getElem_cons_drop hlt]
  have hlen:((relGo i (l.take k) (s.laid.take k)).1).length=k:=by
   rw [tD];simp;omega
  rw [e1,e2,bCn i y o _ _ (by simp;omega)];simp only [relK,hy];rw [ih];generalize relGo i (l.take k) (s.laid.take k)=g at hlen
  have hat:(g.1++s.laid.drop k)[k]?=some o:=by
   rw [List.getElem?_append_right (by omega),hlen,Nat.sub_self,e3];rfl
  have hset: ∀z,(g.1++s.laid.drop k).set k z=g.1++z::s.laid.drop (k+1):=fun z=>by
   rw [List.set_append_right _ _ (by omega),hlen,Nat.sub_self,e3];rfl
  unfold oneK;simp only [hat,Option.bind_some,id]
  cases o with
  | none=>simp [e3]
  | some q=>
   by_cases h1:y.to_<i
   ·simp only [h1,if_true,hset]
    by_cases h2:q.size=[]<;>simp [h2]
   ·simp [h1,e3]
theorem relK_eq(i:Int)(l:List LifeC)(s:PlC)(hl:l.length=s.laid.length):relK i l s l.length=relC i l s:=by
 rw [relK_at i l s hl _ (Nat.le_refl _),List.take_length,hl,List.take_length,List.drop_length,List.append_nil];rfl
theorem relK_len(i:Int)(l:List LifeC)(s:PlC): ∀k,(relK i l s k).laid.length=s.laid.length
 | 0=>rfl
 | k+1=>by
  have ih:=relK_len i l s k;unfold relK;split
  ·unfold oneK;split
   ·split
    ·show(((relK i l s k).laid).set k none).length=_;rw [List.length_set,ih]
    ·exact ih
   ·exact ih
  ·exact ih
theorem vE{f:FuncId}{args:List Value}{Pre:List bI}{r:List Mono×Int}(hl:r.1.length≤8796093022208)(h: ∀S w,(∀b,S b→b<w.heap.size)→All Pre S w→Calls Tryz.prog f args.toArray w (wP w r)):
  cX Tryz.prog f args [] Pre (fun x:Option Addr×Nat=> .tuple #[.slice x.1 r.1.length x.2,.int .i64 r.2]) (fun _=>[]) (fun x=>[fG ⟨x.1,x.2,r.1⟩]):=fun S w s k=>by
 refine(h S w (fun b hb=>(s.zone b hb).1) k).mono ?_;intro e w' hg;obtain⟨v,rfl,hb,A,c,rfl,hr⟩:=hg;refine⟨(A,c),fun b=>S b∨(w.heap.size≤b∧b<w'.heap.size),rfl,⟨mC.of_below _ hb,fun c hc=>by simp at hc,fun c hc=>by simp at hc,List.Pairwise.nil,fun b hb'=>?_⟩,All.cons ⟨?_,hl⟩ (fun g hg=>by simp at hg)⟩
 ·rcases hb' with h | h
  ·exact⟨Nat.lt_of_lt_of_le (s.zone b h).1 hb.size,.inl h⟩
  ·exact⟨h.2,.inr (.inr h.1)⟩
 ·rcases hr with hr | ⟨g,rfl,hg,hr⟩
  ·exact⟨A,c,rfl,fun k m hk=>by
    have hr:r.1=[]:=hr
    simp [hr] at hk⟩
  ·have hm:=hr.monos;obtain⟨A',c',e,h⟩:=sl_of (c:=c) hm;injection e with e1 e2 e3
   subst e1;refine⟨_,c,rfl,fun k m hk=>?_⟩;obtain⟨b,o,cs,e1,e2,e3,e4⟩:=h k m hk;injection e1 with e1
   injection e1 with e1 e5
   subst e1;exact⟨_,o,cs,by rw [e5],.inr ⟨hg,e2⟩,e3,e4⟩
theorem tK{p:List Mono}(h:cH p=true):p.length≤48:=by
 simp only [cH,Bool.and_eq_true,decide_eq_true_eq] at h;exact h.1
theorem vY(L:List Mono):cH (fS L).1=true∧((fS L).2≠0→(fS L).1=[]):=by
 unfold fS;split
 ·rename_i h;exact⟨h,fun h=>absurd rfl h⟩
 ·exact⟨rfl,fun _=>rfl⟩
theorem both_right(p q:List Mono)(s:Int):cH (bothP p q s).1=true:=by
 unfold bothP;split
 ·exact(vY _).1
 ·rfl
theorem bGo(p q:List Mono):cH (jN p q).1=true:=by
 unfold jN;split
 ·exact(vY _).1
 ·rfl
theorem const_right(n:Int):cH (iC n).1=true:=by
 unfold iC;split
 ·rfl
 ·split
  ·rfl
  ·rename_i h0 h1;simp only [not_or,Int.not_lt] at h1;simp [cH,dL,bFd,fZ,h0,Mono.deg,h1]
section
variable (p q : PolV)
theorem add_spec(hp:p.list.length≤140737488355328)(hq:q.list.length≤140737488355328):cX Tryz.prog 104 [.slice p.addr p.list.length p.cap,.slice q.addr q.list.length q.cap] [] [fG p,fG q] (fun x:Option Addr×Nat=> .tuple #[.slice x.1 (bothP p.list q.list 1).1.length x.2,.int .i64 (bothP p.list q.list 1).2]) (fun _=>[]) (fun x=>[fG ⟨x.1,x.2,(bothP p.list q.list 1).1⟩]):=
 vE (Nat.le_trans (tK (both_right _ _ _)) (by decide)) fun _ w hS h=>add_any _ _ _ _ _ _ w (kF hS (h _ (.head _))) (kF hS (h _ (.tail _ (.head _)))) hp hq
theorem mul_spec(hp:p.list.length≤140737488355328)(hq:q.list.length≤140737488355328):cX Tryz.prog 102 [.slice p.addr p.list.length p.cap,.slice q.addr q.list.length q.cap] [] [fG p,fG q] (fun x:Option Addr×Nat=> .tuple #[.slice x.1 (jN p.list q.list).1.length x.2,.int .i64 (jN p.list q.list).2]) (fun _=>[]) (fun x=>[fG ⟨x.1,x.2,(jN p.list q.list).1⟩]):=
 vE (Nat.le_trans (tK (bGo _ _)) (by decide)) fun _ w hS h=>mul_any _ _ _ _ _ _ w (kF hS (h _ (.head _))) (kF hS (h _ (.tail _ (.head _)))) hp hq
theorem const_spec(n:Int):cX Tryz.prog 101 [.int .i64 n] [] [] (fun x:Option Addr×Nat=> .tuple #[.slice x.1 (iC n).1.length x.2,.int .i64 (iC n).2]) (fun _=>[]) (fun x=>[fG ⟨x.1,x.2,(iC n).1⟩]):=
 vE (Nat.le_trans (tK (const_right n)) (by decide)) fun _ w _ _=>const_any n w
end
section
variable {R : Option (List Mono)} {l : List (List Mono)} {n p : List Mono} {i : Nat}
theorem size_ok'(h:R=mK (l.drop i) n)(hx:l[i]?=some p)(he:(jN n p).2=0):R=mK (l.drop (i+1)) (jN n p).1:=by
 obtain⟨hlt,e⟩:=List.getElem?_eq_some_iff.1 hx;rw [h,←List.getElem_cons_drop hlt,e,mK,if_pos he]
theorem bIr(h:R=mK (l.drop i) n)(hx:l[i]?=some p)(he:(jN n p).2≠0):R=none:=by
 obtain⟨hlt,e⟩:=List.getElem?_eq_some_iff.1 hx;rw [h,←List.getElem_cons_drop hlt,e,mK,if_neg he]
theorem oB(h:R=mK (l.drop i) n)(hi:l.length≤i):R=some n:=by
 rw [h,List.drop_of_length_le hi,mK]
end
section
variable {sides : List (List Mono)} {b i : Nat} {again : Bool} {s : PlC} {n : List Mono} {q : SpC}
theorem lay_size(h:sizeC sides=none):layC sides b again s=none:=by unfold layC;rw [h]
theorem lay_take(h:sizeC sides=some n)(ha:again=true)(hn:n≠[])(hi:s.free.findIdx? (fun y=>decide (y.size=n))=some i)(hq:s.free[i]?=some q):layC sides b again s=some {s with free:=s.free.eraseIdx i,laid:=s.laid.set b (some q),ats:=s.ats.set b q.at_}:=by
 unfold layC yF;rw [h];simp only [ha,hn,ne_eq,not_false_eq_true,and_self,if_true,hi,hq]
theorem bGc(hf:again=false∨s.free.findIdx? (fun y=>decide (y.size=n))=none):yF n again s.free=none:=by
 unfold yF
 rcases hf with hf | hf
 ·rw [if_neg (by simp [hf])]
 ·split
  ·rw [hf]
  ·rfl
theorem lay_new(h:sizeC sides=some n)(hf:again=false∨s.free.findIdx? (fun y=>decide (y.size=n))=none)(he:(bothP s.end_ n 1).2=0):layC sides b again s=some {s with end_:=(bothP s.end_ n 1).1,laid:=s.laid.set b (some ⟨s.end_,n⟩),ats:=s.ats.set b s.end_}:=by
 unfold layC;rw [h];simp only [bGc hf,he,if_true]
theorem bIn(h:sizeC sides=some n)(hf:again=false∨s.free.findIdx? (fun y=>decide (y.size=n))=none)(he:(bothP s.end_ n 1).2≠0):layC sides b again s=none:=by
 unfold layC;rw [h];simp only [bGc hf,he,if_false]
end
section
variable {st : PSt} {pool fs : List SpotV} {s : PlC} {M i : Nat} {x : SpotV} {n : List Mono}
theorem fX.ne(h:fX st pool s fs M)(hx:x∈fs):sz x≠[]:=by
 obtain⟨k,r,hk,hr⟩:=wS.1 (h.flat.mem_iff.2 hx);exact(h.ok k r hk).2.2.2.2 x hr
theorem fX.free_ne(h:fX st pool s fs M){q:SpC}(hi:s.free.findIdx? (fun y=>decide (y.size=n))=some i)(hq:s.free[i]?=some q):n≠[]:=by
 have h1:=List.findIdx?_eq_some_iff_getElem.1 hi;obtain⟨hlt,hp,_⟩:=h1;obtain⟨_,e⟩:=List.getElem?_eq_some_iff.1 hq;rw [e] at hp;have hn:q.size=n:=by simpa using hp
 have hm:q∈fs.map SpotV.c:=by rw [h.free];exact List.mem_of_getElem? hq
 obtain⟨x,hx,hxq⟩:=List.mem_map.1 hm;have:=h.ne hx;rw [←hn,←hxq];exact this
theorem rel_new(h:fX st pool s fs M)(b:Nat)(hb:b<s.laid.length)(n e:PolV)(he:e.list=(bothP s.end_ n.list 1).1):fX {st with kv:=setS b ⟨st.end_,n,0⟩ st.kv,end_:=e} (⟨st.end_,n,0⟩::pool) {s with end_:=(bothP s.end_ n.list 1).1,laid:=s.laid.set b (some ⟨s.end_,n.list⟩),ats:=s.ats.set b s.end_} fs M:=by
 have h1:=rel_end (rel_laid (h.wide ⟨st.end_,n,0⟩) b hb (List.mem_cons_self ..) (s.ats.set b s.end_)) e _ he
 have e1:(⟨st.end_,n,0⟩:SpotV).c=⟨s.end_,n.list⟩:=by
  show SpC.mk st.end_.list n.list=_;rw [h.end_]
 rw [e1] at h1;exact h1
end
section
variable {P : Program} {β : fB} {n : Nat} {Γ : Env} {H : List bJ} {F : List bI} {Q : Exit → Act → World → Prop}
theorem bEb{ι:Type}{c:Code}(Δ:Env)(hΔ:Γ.Sub Δ)(G:ι→Env)(HH:ι→List bJ)(FF:ι→List bI)(μ:ι→Nat)(x0:ι)(hG:Γ.Sub (G x0))(hH:H.Perm (HH x0))(hF:bH F (FF x0))
  (round: ∀x,At β n (G x++Δ) (HH x) (FF x++F) (c.wp P (Exit.then (Back β n (fun x=>G x++Δ) HH (fun x=>FF x++F) μ (μ x)) Q))):At β n Γ H F ((Code.loop c).wp P Q):=
 dR hH (pH (fun x=>G x++Δ) HH (fun x=>FF x++F) μ x0 (hG.append hΔ) Sel.self (hF.append bH.self) round)
theorem lX{ι:Type}{G:ι→Env}{Δ:Env}{HH:ι→List bJ}{FF:ι→List bI}{F0:List bI}{μ:ι→Nat}{m:Nat}(x:ι)(hμ:μ x<m)(hG:Γ.Sub (G x))(hΔ:Γ.Sub Δ)(hH:H.Perm (HH x))(hF:bH F (FF x))(hF0:bH F F0):
  At β n Γ H F (Back β n (fun x=>G x++Δ) HH (fun x=>FF x++F0) μ m):=
 dR hH (nZ (G:=fun x=>G x++Δ) (FF:=fun x=>FF x++F0) x hμ (hG.append hΔ) Sel.self (hF.append hF0))
end
section
variable {st : PSt} {pool fs : List SpotV} {s : PlC} {M b : Nat} {i : Int} {y : LifeC} {q : SpotV}
theorem one_none(h:fX st pool s fs M)(hg:nW b st.kv=none):oneK i y b s=s:=by
 have:=h.laid b;rw [hg] at this;unfold oneK;rw [←this];rfl
theorem one_stay(h:fX st pool s fs M)(hg:nW b st.kv=some q)(hi: ¬y.to_<i):oneK i y b s=s:=by
 have:=h.laid b;rw [hg] at this;unfold oneK;rw [←this];simp only [Option.map_some];rw [if_neg hi]
theorem one_gone(h:fX st pool s fs M)(hg:nW b st.kv=some q)(hi:y.to_<i):oneK i y b s={s with laid:=s.laid.set b none,free:=if sz q=[] then s.free else s.free++[q.c]}:=by
 have:=h.laid b;rw [hg] at this;unfold oneK;rw [←this];simp only [Option.map_some];rw [if_pos hi];rfl
theorem tS{ls:List LifeC}{k:Nat}(h:ls[k]?=some y):relK i ls s (k+1)=oneK i y k (relK i ls s k):=by
 show(match ls[k]? with | some y=>oneK i y k (relK i ls s k) | none=>relK i ls s k)=_;rw [h]
theorem lc_at{l:List dJ}{k:Nat}{u:dJ}(h:l[k]?=some u):(lc l)[k]?=some u.c:=by
 show(l.map dJ.c)[k]?=_;rw [List.getElem?_map,h];rfl
end
theorem delS_V(k:Int): ∀kv,bFc k (kvV kv)=kvV (delS k kv)
 | []=>rfl
 | p::r=>by
  show(if k==p.1 then kvV r else (p.1,spV p.2)::bFc k (kvV r))=_;unfold delS;split
  ·rfl
  ·rw [delS_V k r];rfl
theorem spotZero(w:World):(zeroValue 194).run Tryz.prog w= .ok (.agg #[.slice none 0 0,.slice none 0 0,.int .i64 0]) w:=by
 obtain⟨i,hi,hz,_⟩:=rR;simp [zeroValue,typeInfo,hi,hz]
theorem lD(a0:Option Addr)(l0 c0:Nat)(a1:Option Addr)(l1 c1:Nat):Tryz.prog.built 194 [(0,.slice a0 l0 c0),(1,.slice a1 l1 c1)]=some #[.slice a0 l0 c0,.slice a1 l1 c1,.int .i64 0]:=by kernel_rfl
set_option maxRecDepth 100000 in
theorem lay_spec(pb mb:Nat)(st:PSt)(pool fs:List SpotV)(s:PlC)(M:Nat)(h:fX st pool s fs M)(hM:M≤70000000)(b:Nat)(hb:b<s.laid.length)(sides:Sl PolV)(again:Bool):cX Tryz.prog 48 [.pointer (some ⟨pb,0,none⟩),.int .i64 (b:Nat),.slice sides.addr sides.list.length sides.cap,.bool again] (plH pb mb st) [fG st.end_,bI.each pool jY,mX sides] (fun(x:PSt×List SpotV×List SpotV×PolV)=> .tuple #[.slice x.2.2.2.addr x.2.2.2.list.length x.2.2.2.cap,.int .i64 (if (layC (polsL sides.list) b again s).isSome then 0 else 140)]) (fun(x:PSt×List SpotV×List SpotV×PolV)=>plH pb mb x.1) (fun(x:PSt×List SpotV×List SpotV×PolV)=>[fG x.1.end_,bI.each x.2.1 jY,fG x.2.2.2,bI.pure (∀s',layC (polsL sides.list) b again s=some s'→fX x.1 x.2.1 s' x.2.2.1 (M+2)∧s'.ats=s.ats.set b x.2.2.2.list)]):=by
 have hT:=fD;generalize hR:sizeC (polsL sides.list)=R;refine cD Tryz.func48 rfl Tryz.ntmps48 rfl ?_;intro β hM;refine bF<|cC (jT.sl (.slice sides.addr sides.list.length sides.cap) sides.list) (tM (Has.of mT2)) ?_;refine bX (tQ (Has.of mT3)) fun hsc=>?_;have hsc1:=hsc.1;have hsc2:=hsc.2;refine bD<|sp2 hT ?_;refine nn<|sr<|cU Tryz.func101 (const_spec 1) rfl rfl .nil trivial fun y1=>?_;refine sp4 hT ?_;refine sp hT ?_;refine nn<|bF<|sr<|sp3 hT ?_;refine nn<|bQ<|dH (ι:=PolV×Nat) [(0,_),(1,_),(3,_),(24,_),(25,_)] ⟨rfl,rfl,rfl,rfl,rfl,trivial⟩ (fun⟨cur,i⟩=>[(10,.slice cur.addr cur.list.length cur.cap),(26,.int .i64 (i:Nat))]) (fun _=>[]) (fun⟨cur,i⟩=>[bI.pure (i≤sides.list.length∧R=mK ((polsL sides.list).drop i) cur.list),fG cur]) (fun⟨cur,i⟩=>sides.list.length-i) (⟨y1.1,y1.2,(iC 1).1⟩,0) ⟨rfl,rfl,trivial⟩ .nil ⟨Has.pure (⟨by omega,by rw [←hR];rfl⟩),Has.of mT0,trivial⟩ ?_;rintro⟨cur,i⟩;dsimp only;refine bX (Has.of mT0) fun hinv3=>?_;refine sr<|sp hT ?_;refine nn<|bF<|bO rfl (fun hc27=>?_) (fun hc27=>?_)
 ·have hc27:=of_decide_eq_true hc27;refine bM<|bE<|bF<|bQ<|bF ?_
  obtain⟨x,hx⟩: ∃x',sides.list[i]?=some x':=⟨_,List.getElem?_eq_getElem (by omega)⟩
  refine cC (fG x) (Has.each (tH (Has.of mT6)) (List.mem_of_getElem? hx)) ?_;refine bD<|ss (bG hT (k:=i) (bC (Has.of mT4)) rfl rfl rfl rfl rfl rfl rfl (by omega)) ?_;refine ss (bR hT (bV.knows (bC (Has.of mT4)) (k:=i) (x:=x) hx 0) rfl rfl rfl rfl rfl) ?_;refine sp hT ?_;refine nn<|sr<|sp hT ?_;refine nn<|sr<|sp2 hT ?_;refine bX (fQ (Has.of mT2)) fun hcl=>?_;refine bX (fQ (Has.of mT0)) fun hxl=>?_;refine cU Tryz.func102 (mul_spec (p:=cur) (q:=x) hcl hxl) rfl rfl .nil ⟨Has.of mT2,Has.of mT0,trivial⟩ fun y2=>?_;refine sp4 hT ?_;refine sp hT ?_;refine nn<|sr<|sp2 hT ?_;refine nn<|bO rfl (fun hc37=>?_) (fun hc37=>?_)
  ·have hc37:=bne_iff_ne.1 hc37;refine sr<|sp2 hT ?_;refine nn<|bK<|bW<|bN<|bN<|bW<|bN ?_;have hl:layC (polsL sides.list) b again s=none:=lay_size (hR.trans (bIr hinv3.2 (fW hx) ‹_›));exact dO (st,pool,fs,⟨none,0,[]⟩) rfl (rv_tmp rfl) (rv_tmp rfl) (.cons .head (.cons .head (.cons .head Sel.self))) ⟨Has.of mT6,Has.of mT7,polF_nil,Has.pure (fun s' hs'=>by rw [hl] at hs';cases hs'),trivial⟩ (by rw [hl];rfl)
  have hc37:=bne_eq_false_iff_eq.1 hc37;refine bM<|bU<|bE<|bD<|sp hT ?_;refine bT (z':=(((i+1):Nat):Int)) (cO (by omega) (by omega)) ?_;refine sp hT ?_;refine nn ?_;exact cG (⟨y2.1,y2.2,(jN cur.list x.list).1⟩,i+1) (by dsimp only;omega) ⟨rfl,rfl,trivial⟩ ⟨rfl,rfl,rfl,rfl,rfl,trivial⟩ (.cons .head (.cons .head (.cons .head Sel.self))) ⟨Has.pure (⟨by dsimp only;omega,size_ok' hinv3.2 (fW hx) ‹_›⟩),Has.of mT0,trivial⟩ (bH.drop 4)
 have hc27:=Int.not_lt.1 (of_decide_eq_false hc27);refine cS<|bZ<|bZ<|cR<|bE<|bF<|sr<|sp hT ?_;refine nn<|bO rfl (fun hc39=>?_) (fun hc39=>?_)
 ·refine sr<|sp2 hT ?_;refine cU Tryz.func103 (take_spec pb mb st pool fs s M h (by omega) cur) rfl rfl Split.all ⟨Has.of mT1,Has.of mT5,trivial⟩ fun y3=>?_;rw [List.append_nil];refine bX (Has.of mT0) fun htk=>?_;obtain⟨st1,fs1,_ | q⟩:=y3
  ·dsimp only at htk⊢;have hend:st1.end_=st.end_:=htk.2.1;refine cC (fG st1.end_) (hend.symm▸(Has.of mT5)) ?_;refine sp3 hT ?_;refine fC rfl rfl rfl rfl rB rfl fun b4=>?_;refine sto hT .head ?_;refine sp hT ?_;refine nn<|sr<|sp hT ?_;refine nn<|fM rfl rfl ?_;refine bM<|bE<|sr<|sp3 hT ?_;refine ss (ldO hT (dC kT1)) ?_;refine sp hT ?_;refine ss (iV rfl rfl (lD _ _ _ _ _ _)) ?_;refine fC rfl rfl rfl rfl rB rfl fun b5=>?_;refine sto hT .head ?_;refine nn<|bF<|dX _ _ [(true,0),(true,1),(true,2),(true,3),(true,4),(true,5),(false,6)] fH (by decide+kernel) (.cons .head (.cons .head (.cons .head (.cons .head (Sel.skip Sel.self))))) bH.self ?_;refine puM hT ?_;refine puM hT ?_;refine puM hT ?_;refine stM rfl (ldO hT (nY kT2)) ?_;refine puM hT ?_;refine stM rfl (ldN hT (dC .head)) ?_;refine dA (o:=_) rfl ?_;refine qG kT4 rfl (.inl rfl) rfl Tryz.underlying99 Tryz.underlying3 rfl rfl rfl ?_;have hkv:=setS_V (b:Nat) (⟨st1.end_,cur,0⟩:SpotV) st1.kv;unfold spV at hkv;rw [show xO ((b:Nat):Int) (.agg #[.slice st1.end_.addr st1.end_.list.length st1.end_.cap,.slice cur.addr cur.list.length cur.cap,.int .i64 0]) (kvV st1.kv)=kvV (setS ((b:Nat):Int) (⟨st1.end_,cur,0⟩:SpotV) st1.kv) from hkv];refine dB (.cons kT1 (.cons kT1 (.cons kT1 (.cons kT1 (Sel.skip Sel.self))))) (bH.drop 0) ?_;refine cJ<|bE<|sr<|sp3 hT ?_;refine ss (ldO hT (dC kT3)) ?_;refine sp hT ?_;refine bX (fQ (Has.of mT0)) fun hel=>?_;refine bX (fQ (Has.of mT3)) fun hcl=>?_;refine cU Tryz.func104 (add_spec (p:=st1.end_) (q:=cur) hel hcl) rfl rfl .nil ⟨Has.of mT0,Has.of mT3,trivial⟩ fun y6=>?_;refine sp4 hT ?_;refine sp hT ?_;refine nn<|bF<|sr<|sp2 hT ?_;refine nn<|bO rfl (fun hc77=>?_) (fun hc77=>?_)
   ·have hc77:=bne_iff_ne.1 hc77;refine sr<|sp2 hT ?_;refine nn<|bK<|bN ?_;have hsz:sizeC (polsL sides.list)=some cur.list:=hR.trans (oB hinv3.2 (by rw [dF];omega));have hl:=bIn (b:=b) (again:=again) hsz (.inr htk.1.2) (by rw [←htk.1.1.end_];assumption);exact dO ({st1 with kv:=setS ((b:Nat):Int) (⟨st1.end_,cur,0⟩:SpotV) st1.kv},pool,fs,⟨none,0,[]⟩) rfl (rv_tmp rfl) (rv_tmp rfl) (.cons kT3 (.cons kT3 (.cons .head (Sel.skip (Sel.skip Sel.self))))) ⟨Has.of mT1,Has.of mT8,polF_nil,Has.pure (fun s' hs'=>by rw [hl] at hs';cases hs'),trivial⟩ (by rw [hl];rfl)
   have hc77:=bne_eq_false_iff_eq.1 hc77;refine bM<|bE<|sr<|sp4 hT ?_;refine sto hT kT3 ?_;refine nn<|sr<|sp hT ?_;refine ss (ldO hT (dC kT2)) ?_;refine sp2 hT ?_;refine nn<|bK ?_;have hsz:sizeC (polsL sides.list)=some cur.list:=hR.trans (oB hinv3.2 (by rw [dF];omega));have hl:=lay_new (b:=b) (again:=again) hsz (.inr htk.1.2) (by rw [←htk.1.1.end_];assumption);have hrn:=rel_new htk.1.1 b hb cur ⟨y6.1,y6.2,(bothP st1.end_.list cur.list 1).1⟩ (by rw [htk.1.1.end_]);refine cC (bI.each ((⟨st1.end_,cur,0⟩:SpotV)::pool) jY) (Has.each_cons (Has.and (Has.of mT1) (Has.of mT4)) (Has.of mT8)) ?_;exact dO ({{st1 with kv:=setS ((b:Nat):Int) (⟨st1.end_,cur,0⟩:SpotV) st1.kv} with end_:=⟨y6.1,y6.2,(bothP st1.end_.list cur.list 1).1⟩},((⟨st1.end_,cur,0⟩:SpotV)::pool),fs1,st1.end_) rfl (rv_tmp rfl) (rv_tmp rfl) (.cons .head (.cons kT3 (.cons .head (Sel.skip (Sel.skip Sel.self))))) ⟨Has.of mT1,Has.of mT0,Has.of mT2,Has.pure (fun s' hs'=>by rw [hl] at hs';cases hs';exact⟨hrn.more (by omega),by rw [htk.1.1.end_]⟩),trivial⟩ (by rw [hl];rfl)
  dsimp only at htk⊢;have hend:st1.end_=st.end_:=htk.2.1;refine cC (fG st1.end_) (hend.symm▸(Has.of mT5)) ?_;obtain⟨hqp,i1,hi1,hi2,hrel⟩:=htk.1;refine sp3 hT ?_;refine fC rfl rfl rfl rfl rB rfl fun b7=>?_;refine sto hT .head ?_;refine sp hT ?_;refine nn<|sr<|sp hT ?_;refine nn<|cW rfl rfl ?_;refine bF<|dX _ _ [(true,0),(true,1),(true,2),(true,3),(true,4),(true,5),(false,6)] fH (by decide+kernel) (.cons .head (.cons .head (.cons .head (Sel.skip Sel.self)))) bH.self ?_;refine puM hT ?_;refine puM hT ?_;refine puM hT ?_;refine stM rfl (ldO hT (nY kT1)) ?_;refine puM hT ?_;refine stM rfl (ldN hT (dC .head)) ?_;refine dA (o:=_) rfl ?_;refine qG kT3 rfl (.inl rfl) rfl Tryz.underlying99 Tryz.underlying3 rfl rfl rfl ?_;have hkv:=setS_V (b:Nat) q st1.kv;unfold spV at hkv;rw [show xO ((b:Nat):Int) (.agg #[.slice q.at_.addr q.at_.list.length q.at_.cap,.slice q.size.addr q.size.list.length q.size.cap,.int .i64 q.since]) (kvV st1.kv)=kvV (setS ((b:Nat):Int) q st1.kv) from hkv];refine dB (.cons kT1 (.cons kT1 (.cons kT1 (Sel.skip Sel.self)))) (bH.drop 0) ?_;refine cJ<|bE<|sr<|sp hT ?_;refine ss (ldO hT (dC kT1)) ?_;refine sp2 hT ?_;refine nn<|bK<|bN ?_;have hsz:sizeC (polsL sides.list)=some cur.list:=hR.trans (oB hinv3.2 (by rw [dF];omega));have hl:=lay_take (b:=b) (again:=again) hsz ‹_› (h.free_ne hi2 hi1) hi2 hi1;exact dO ({st1 with kv:=setS ((b:Nat):Int) q st1.kv},pool,fs1,q.at_) rfl (rv_tmp rfl) (rv_tmp rfl) (.cons kT2 (.cons kT2 (.cons .head (Sel.skip Sel.self)))) ⟨Has.of mT0,Has.of mT7,spotsF_at (Has.of mT7) hqp,Has.pure (fun s' hs'=>by rw [hl] at hs';cases hs';exact⟨(rel_laid hrel b hb hqp _).more (by omega),rfl⟩),trivial⟩ (by rw [hl];rfl)
 refine bM<|bE<|sr<|sp3 hT ?_;refine ss (ldO hT (dC .head)) ?_;refine sp hT ?_;refine ss (iV rfl rfl (lD _ _ _ _ _ _)) ?_;refine fC rfl rfl rfl rfl rB rfl fun b8=>?_;refine sto hT .head ?_;refine nn<|bF<|dX _ _ [(true,0),(true,1),(true,2),(true,3),(true,4),(true,5),(false,6)] fH (by decide+kernel) (.cons .head (.cons .head (.cons .head (Sel.skip Sel.self)))) bH.self ?_;refine puM hT ?_;refine puM hT ?_;refine puM hT ?_;refine stM rfl (ldO hT (nY kT1)) ?_;refine puM hT ?_;refine stM rfl (ldN hT (dC .head)) ?_;refine dA (o:=_) rfl ?_;refine qG kT3 rfl (.inl rfl) rfl Tryz.underlying99 Tryz.underlying3 rfl rfl rfl ?_;have hkv:=setS_V (b:Nat) (⟨st.end_,cur,0⟩:SpotV) st.kv;unfold spV at hkv;rw [show xO ((b:Nat):Int) (.agg #[.slice st.end_.addr st.end_.list.length st.end_.cap,.slice cur.addr cur.list.length cur.cap,.int .i64 0]) (kvV st.kv)=kvV (setS ((b:Nat):Int) (⟨st.end_,cur,0⟩:SpotV) st.kv) from hkv];refine dB (.cons kT1 (.cons kT1 (.cons kT1 (Sel.skip Sel.self)))) (bH.drop 0) ?_;refine cJ<|bE<|sr<|sp3 hT ?_;refine ss (ldO hT (dC kT2)) ?_;refine sp hT ?_;refine bX (fQ (Has.of mT4)) fun hel=>?_;refine bX (fQ (Has.of mT1)) fun hcl=>?_;refine cU Tryz.func104 (add_spec (p:=st.end_) (q:=cur) hel hcl) rfl rfl .nil ⟨Has.of mT4,Has.of mT1,trivial⟩ fun y9=>?_;refine sp4 hT ?_;refine sp hT ?_;refine nn<|bF<|sr<|sp2 hT ?_;refine nn<|bO rfl (fun hc77=>?_) (fun hc77=>?_)
 ·have hc77:=bne_iff_ne.1 hc77;refine sr<|sp2 hT ?_;refine nn<|bK<|bN ?_;have hsz:sizeC (polsL sides.list)=some cur.list:=hR.trans (oB hinv3.2 (by rw [dF];omega));have hl:=bIn (b:=b) (again:=again) hsz (.inl (by simpa using hc39)) (by rw [←h.end_];assumption);exact dO ({st with kv:=setS ((b:Nat):Int) (⟨st.end_,cur,0⟩:SpotV) st.kv},pool,fs,⟨none,0,[]⟩) rfl (rv_tmp rfl) (rv_tmp rfl) (.cons kT2 (.cons kT2 (.cons .head (Sel.skip Sel.self)))) ⟨Has.of mT5,Has.of mT6,polF_nil,Has.pure (fun s' hs'=>by rw [hl] at hs';cases hs'),trivial⟩ (by rw [hl];rfl)
 have hc77:=bne_eq_false_iff_eq.1 hc77;refine bM<|bE<|sr<|sp4 hT ?_;refine sto hT kT2 ?_;refine nn<|sr<|sp hT ?_;refine ss (ldO hT (dC kT2)) ?_;refine sp2 hT ?_;refine nn<|bK ?_;have hsz:sizeC (polsL sides.list)=some cur.list:=hR.trans (oB hinv3.2 (by rw [dF];omega));have hl:=lay_new (b:=b) (again:=again) hsz (.inl (by simpa using hc39)) (by rw [←h.end_];assumption);have hrn:=rel_new h b hb cur ⟨y9.1,y9.2,(bothP st.end_.list cur.list 1).1⟩ (by rw [h.end_]);refine cC (bI.each ((⟨st.end_,cur,0⟩:SpotV)::pool) jY) (Has.each_cons (Has.and (Has.of mT5) (Has.of mT2)) (Has.of mT6)) ?_;exact dO ({{st with kv:=setS ((b:Nat):Int) (⟨st.end_,cur,0⟩:SpotV) st.kv} with end_:=⟨y9.1,y9.2,(bothP st.end_.list cur.list 1).1⟩},((⟨st.end_,cur,0⟩:SpotV)::pool),fs,st.end_) rfl (rv_tmp rfl) (rv_tmp rfl) (.cons .head (.cons kT2 (.cons .head (Sel.skip Sel.self)))) ⟨Has.of mT1,Has.of mT0,Has.of mT6,Has.pure (fun s' hs'=>by rw [hl] at hs';cases hs';exact⟨hrn.more (by omega),by rw [h.end_]⟩),trivial⟩ (by rw [hl];rfl)
set_option maxRecDepth 100000 in
theorem release_spec(pb mb:Nat)(st:PSt)(pool fs:List SpotV)(s:PlC)(M:Nat)(h:fX st pool s fs M)(LA:Option Addr)(lcap:Nat)(ls:List dJ)(hM:M+3*ls.length≤70000000)(hn:ls.length=s.laid.length)(stp:Int):cX Tryz.prog 50 [.pointer (some ⟨pb,0,none⟩),.slice LA ls.length lcap,.int .i64 stp] (plH pb mb st) [fG st.end_,bI.each pool jY,iP.sl (.slice LA ls.length lcap) ls] (fun(_:PSt×List SpotV×List SpotV)=> .tuple #[]) (fun(x:PSt×List SpotV×List SpotV)=>plH pb mb x.1) (fun(x:PSt×List SpotV×List SpotV)=>[fG x.1.end_,bI.each x.2.1 jY,bI.pure (fX x.1 x.2.1 (relC stp (lc ls) s) x.2.2 (M+3*ls.length))]):=by
 have hT:=fD;refine cD Tryz.func50 rfl Tryz.ntmps50 rfl ?_;intro β hM;refine sr<|sp3 hT ?_;refine nn<|bQ<|bEb (ι:=PSt×List SpotV×List SpotV×Nat) [(0,_),(1,_),(2,_),(10,_)] ⟨rfl,rfl,rfl,rfl,trivial⟩ (fun⟨st,pool,fs,i⟩=>[(11,.int .i64 (i:Nat))]) (fun⟨st,pool,fs,i⟩=>plH pb mb st) (fun⟨st,pool,fs,i⟩=>[bI.pure (i≤ls.length∧fX st pool (relK stp (lc ls) s i) fs (M+3*i)),fG st.end_,bI.each pool jY]) (fun⟨st,pool,fs,i⟩=>ls.length-i) (st,pool,fs,0) ⟨rfl,trivial⟩ (List.Perm.refl _) ⟨Has.pure (⟨by omega,h⟩),Has.of mT0,Has.of mT1,trivial⟩ ?_;rintro⟨st,pool,fs,i⟩;dsimp only;refine bX (Has.of mT0) fun hinv1=>?_;refine sr<|sp hT ?_;refine nn<|bF<|bO rfl (fun hc12=>?_) (fun hc12=>?_)
 ·have hc12:=of_decide_eq_true hc12;refine bM<|bE<|bF<|bQ<|sr<|sp2 hT ?_;refine nn<|bF ?_
  rcases hg:nW (i:Nat) st.kv with _ | q
  ·refine bD<|sp3 hT ?_;refine ss (ldO hT (nY .head)) ?_;refine sp hT ?_;refine ss (uG (v:= .tuple #[.agg #[.slice none 0 0,.slice none 0 0,.int .i64 0],.bool false]) (bBh kT2) rfl Tryz.underlying99 Tryz.underlying3 spotZero rfl rfl (by rw [getS_V,hg];rfl)) ?_;refine sp3 hT ?_;refine fC rfl rfl rfl rfl rB rfl fun b1=>?_;refine sto hT .head ?_;refine sp hT ?_;refine nn<|sr<|sp2 hT ?_;refine sk4 ?_;refine sk3 ?_;refine sp hT ?_;refine nn<|fM rfl rfl ?_;refine bM<|bU<|bE<|bD<|sp hT ?_;refine bT (z':=(((i+1):Nat):Int)) (cO (by omega) (by omega)) ?_;refine sp hT ?_;refine nn<|mJ (.cons kT1 (.cons kT1 (.cons kT1 (Sel.skip Sel.self)))) ?_;exact lX (st,pool,fs,i+1) (by dsimp only;omega) ⟨rfl,trivial⟩ ⟨rfl,rfl,rfl,rfl,trivial⟩ (List.Perm.refl _) ⟨Has.pure (⟨by dsimp only;omega,(by obtain⟨u,hu⟩: ∃u,ls[i]?=some u:=⟨_,List.getElem?_eq_getElem (by omega)⟩;rw [tS (lc_at hu),one_none hinv1.2 hg];exact hinv1.2.more (by dsimp only;omega))⟩),Has.of mT1,Has.of mT2,trivial⟩ (bH.drop 3)
  refine bD<|sp3 hT ?_;refine ss (ldO hT (nY .head)) ?_;refine sp hT ?_;refine ss (uG (v:= .tuple #[.agg #[.slice q.at_.addr q.at_.list.length q.at_.cap,.slice q.size.addr q.size.list.length q.size.cap,.int .i64 q.since],.bool true]) (bBh kT2) rfl Tryz.underlying99 Tryz.underlying3 spotZero rfl rfl (by rw [getS_V,hg];rfl)) ?_;refine sp3 hT ?_;refine fC rfl rfl rfl rfl rB rfl fun b2=>?_;refine sto hT .head ?_;refine sp hT ?_;refine nn<|sr<|sp4 hT ?_
  obtain⟨x3,hx4⟩: ∃x',ls[i]?=some x':=⟨_,List.getElem?_eq_getElem (by omega)⟩
  refine ss (bG hT (k:=i) (bC (Has.of mT5)) rfl rfl rfl rfl rfl rfl rfl (by omega)) ?_;refine sp hT ?_;refine ss (bR hT (bV.knows (bC (Has.of mT5)) (k:=i) (x:=x3) hx4 1) rfl rfl rfl rfl rfl) ?_;refine sp3 hT ?_;refine nn<|bO rfl (fun hc32=>?_) (fun hc32=>?_)
  ·have hc32:=of_decide_eq_true hc32;refine sr<|sp3 hT ?_;refine ss (ldO hT (nY kT1)) ?_;refine sp hT ?_;refine at_delete kT3 rfl rfl rfl Tryz.underlying99 Tryz.underlying3 rfl rfl ?_;rw [delS_V];have hqp:q∈pool:=by obtain⟨p,hp,e⟩:=getS_mem hg;rw [←e];exact hinv1.2.poolL p hp
   have hgo:=rel_gone hinv1.2 i (by rw [relK_len];omega);refine nn<|sr<|sp hT ?_;refine ss (ldO hT (fF kT1)) ?_;refine sp2 hT ?_;refine nn<|bO rfl (fun hc41=>?_) (fun hc41=>?_)
   ·have hc41:=of_decide_eq_true hc41;refine bD<|sp hT ?_;refine ss (ldN hT (dC kT1)) ?_;have hsz:sz q≠[]:=fun e=>by have e2:q.size.list.length=0:=congrArg List.length e;omega
    refine mJ (.cons kT1 (.cons kT1 (.cons kT1 (.cons .head Sel.self)))) ?_;refine dR (List.perm_append_comm (l₁:=[_])) ?_;refine cU Tryz.func105 (give_spec pb mb _ pool fs _ _ hgo (by omega) q hqp hsz) rfl rfl (Split.front _ _) ⟨Has.of mT2,trivial⟩ fun y5=>?_;refine dR List.perm_append_comm ?_;refine bX (Has.of mT1) fun hgv=>?_;refine cC (fG y5.end_) ((show y5.end_=st.end_ from hgv.2)▸(Has.of mT3)) ?_;refine gH<|bU<|bE<|bD<|sp hT ?_;refine bT (z':=(((i+1):Nat):Int)) (cO (by omega) (by omega)) ?_;refine sp hT ?_;refine nn<|mJ (.cons kT1 (.cons kT1 (.cons kT1 (Sel.skip Sel.self)))) ?_;exact lX (y5,(⟨q.at_,q.size,st.since+1⟩:SpotV)::pool,fs++[(⟨q.at_,q.size,st.since+1⟩:SpotV)],i+1) (by dsimp only;omega) ⟨rfl,trivial⟩ ⟨rfl,rfl,rfl,rfl,trivial⟩ (List.Perm.refl _) ⟨Has.pure (⟨by dsimp only;omega,(by rw [tS (lc_at hx4),one_gone hinv1.2 hg ‹_›,if_neg hsz];exact(hgv.1).more (by dsimp only;omega))⟩),Has.of mT0,Has.of mT1,trivial⟩ (bH.drop 6)
   have hc41:=Int.not_lt.1 (of_decide_eq_false hc41);refine bM<|bU<|bE<|bD<|sp hT ?_;refine bT (z':=(((i+1):Nat):Int)) (cO (by omega) (by omega)) ?_;refine sp hT ?_;refine nn<|mJ (.cons kT2 (.cons kT2 (.cons .head (Sel.skip Sel.self)))) ?_;exact lX (({st with kv:=delS ((i:Nat):Int) st.kv}:PSt),pool,fs,i+1) (by dsimp only;omega) ⟨rfl,trivial⟩ ⟨rfl,rfl,rfl,rfl,trivial⟩ (List.Perm.refl _) ⟨Has.pure (⟨by dsimp only;omega,(by rw [tS (lc_at hx4),one_gone hinv1.2 hg ‹_›,if_pos (List.eq_nil_of_length_eq_zero (by show q.size.list.length=0;omega))];exact hgo.more (by dsimp only;omega))⟩),Has.of mT1,Has.of mT2,trivial⟩ (bH.drop 3)
  have hc32:=Int.not_lt.1 (of_decide_eq_false hc32);refine bM<|bU<|bE<|bD<|sp hT ?_;refine bT (z':=(((i+1):Nat):Int)) (cO (by omega) (by omega)) ?_;refine sp hT ?_;refine nn<|mJ (.cons kT1 (.cons kT1 (.cons kT1 (Sel.skip Sel.self)))) ?_;exact lX (st,pool,fs,i+1) (by dsimp only;omega) ⟨rfl,trivial⟩ ⟨rfl,rfl,rfl,rfl,trivial⟩ (List.Perm.refl _) ⟨Has.pure (⟨by dsimp only;omega,(by rw [tS (lc_at hx4),one_stay hinv1.2 hg (fun hlt=>by have:x3.to_<stp:=hlt;omega)];exact hinv1.2.more (by dsimp only;omega))⟩),Has.of mT1,Has.of mT2,trivial⟩ (bH.drop 3)
 have hc12:=Int.not_lt.1 (of_decide_eq_false hc12);refine cS<|bZ<|bZ<|cR ?_;have hi:i=ls.length:=by omega
 have hfin:fX st pool (relC stp (lc ls) s) fs (M+3*ls.length):=by rw [←relK_eq stp (lc ls) s (by rw [lc_len];exact hn),lc_len,←hi];exact hinv1.2
 exact jS (st,pool,fs) rfl (.cons .head (.cons .head (.cons .head Sel.self))) ⟨Has.of mT1,Has.of mT2,Has.pure hfin,trivial⟩ (rfl)
end Go.Proofs.YtofjmphlpdhohaaGreatDoor
namespace Go.Proofs.YtofjmphlpdhohaaGreatDoor
open Go.RowKit Go.ChangeShapes Go.WideShapes
def fuseT:Tab:=[(3,⟨.int .i64,1⟩),(2,⟨.int .i64,1⟩),(5,⟨.int .u8,1⟩),(4,⟨.bool,1⟩),(37,⟨.int .u8,1⟩),(31,⟨.int .i64,1⟩),(35,⟨.slice 45,1⟩),(36,⟨.slice 35,1⟩),(42,⟨.struct [(3,0),(3,1),(2,2),(35,3),(37,4)],5⟩),(38,⟨.slice 42,1⟩),(47,⟨.struct [(36,0),(3,1)],2⟩),(22,⟨.slice 47,1⟩),(40,⟨.struct [(3,0),(3,1),(35,2),(36,3),(37,4),(38,5)],6⟩),(23,⟨.slice 40,1⟩),(24,⟨.slice 3,1⟩),(51,⟨.slice 4,1⟩),(26,⟨.struct [(3,0),(22,1),(23,2),(24,3)],4⟩),(55,⟨.struct [(3,0),(3,1)],2⟩),(48,⟨.slice 55,1⟩),(115,⟨.struct [(3,0),(3,1),(3,2),(51,3)],4⟩),(72,⟨.struct [(3,0),(3,1),(3,2),(3,3),(4,4)],5⟩),(130,⟨.slice 72,1⟩),(112,⟨.array 64 4,64⟩),(45,⟨.struct [(2,0),(43,1)],7⟩),(43,⟨.array 6 5,6⟩),(258,⟨.slice 5,1⟩),(206,⟨.int .u64,1⟩),(113,⟨.other,1⟩),(202,⟨.other,1⟩),(119,⟨.other,1⟩),(145,⟨.slice 38,1⟩),(212,⟨.array 1024 72,5120⟩)]
theorem fuseT_ok:dV Tryz.prog fuseT:=pL.ok
 ⟨⟨by rw [Tryz.underlying3];rfl,by kernel_rfl⟩,
  ⟨by rw [Tryz.underlying2];rfl,by kernel_rfl⟩,
  ⟨by rw [Tryz.underlying5];rfl,by kernel_rfl⟩,
  ⟨by rw [Tryz.underlying4];rfl,by kernel_rfl⟩,
  ⟨by rw [Tryz.underlying37];rfl,by kernel_rfl⟩,
  ⟨by rw [Tryz.underlying31];rfl,by kernel_rfl⟩,
  ⟨by rw [Tryz.underlying35];rfl,by kernel_rfl⟩,
  ⟨by rw [Tryz.underlying36];rfl,by kernel_rfl⟩,
  ⟨by rw [Tryz.underlying42];rfl,by kernel_rfl⟩,
  ⟨by rw [Tryz.underlying38];rfl,by kernel_rfl⟩,
  ⟨by rw [Tryz.underlying47];rfl,by kernel_rfl⟩,
  ⟨by rw [Tryz.underlying22];rfl,by kernel_rfl⟩,
  ⟨by rw [Tryz.underlying40];rfl,by kernel_rfl⟩,
  ⟨by rw [Tryz.underlying23];rfl,by kernel_rfl⟩,
  ⟨by rw [Tryz.underlying24];rfl,by kernel_rfl⟩,
  ⟨by rw [Tryz.underlying51];rfl,by kernel_rfl⟩,
  ⟨by rw [Tryz.underlying26];rfl,by kernel_rfl⟩,
  ⟨by rw [Tryz.underlying55];rfl,by kernel_rfl⟩,
  ⟨by rw [Tryz.underlying48];rfl,by kernel_rfl⟩,
  ⟨by rw [Tryz.underlying115];rfl,by kernel_rfl⟩,
  ⟨by rw [Tryz.underlying72];rfl,by kernel_rfl⟩,
  ⟨by rw [Tryz.underlying130];rfl,by kernel_rfl⟩,
  ⟨by rw [Tryz.underlying112];rfl,by kernel_rfl⟩,
  ⟨by rw [Tryz.underlying45];rfl,by kernel_rfl⟩,
  ⟨by rw [Tryz.underlying43];rfl,by kernel_rfl⟩,
  ⟨by rw [Tryz.underlying258];rfl,by kernel_rfl⟩,
  ⟨by rw [Tryz.underlying206];rfl,by kernel_rfl⟩,
  ⟨by rw [Tryz.underlying113];rfl,by kernel_rfl⟩,
  ⟨by rw [Tryz.underlying202];rfl,by kernel_rfl⟩,
  ⟨by rw [Tryz.underlying119];rfl,by kernel_rfl⟩,
  ⟨by rw [Tryz.underlying145];rfl,by kernel_rfl⟩,
  ⟨by rw [Tryz.underlying212];rfl,by kernel_rfl⟩,trivial⟩
end Go.Proofs.YtofjmphlpdhohaaGreatDoor
namespace Go.Proofs.YtofjmphlpdhohaaGreatDoor
open Go.RowKit
theorem has_isnil{α:Type}{E:Flat α}{F:List bI}{A:Option Addr}{l c:Nat}{xs:List α}(h:Has F (E.sl (.slice A l c) xs)):Has F (bI.pure (A.isNone=true→xs=[])):=fun S w k hn=>by
 obtain⟨A',c',e,h⟩:=h S w k;injection e with e1
 subst e1
 cases xs with
 | nil=>rfl
 | cons x r=>
  obtain⟨b,o,cs,e,_⟩:=h 0 x rfl;rw [e] at hn;cases hn
theorem sti_isnilS{P:Program}{β:fB}{n:Nat}{Γ:Env}{H:List bJ}{F:List bI}{o:Oper}{x:Operand}{t e tt:TypeId}{A:Option Addr}{l c:Nat}(hu:P.underlying t=some (.slice e))(ho:o.op= .binOp .eql t x (.const (.slice none 0 0)) tt)(hx:Γ.ev x=some (.slice A l c)):Sti P β n Γ H F o (.bool A.isNone):=fun a w S f s k=>by
 unfold execOp;simp only [ho,f.ev hx];rw [Sem.run_bind,Sem.run_bind]
 have hg:(eqGuard .eql t x (.const (.slice none 0 0)) (.slice A l c) (.slice none 0 0)).run P w= .ok () w:=by
  unfold eqGuard;simp
 have he:(Act.eval a (.const (.slice none 0 0)))= .slice none 0 0:=rfl;rw [he,hg,Result.andThen_ok,Lib.run_eql_slice_nil w t e A l c 0 0 hu];rfl
end Go.Proofs.YtofjmphlpdhohaaGreatDoor
