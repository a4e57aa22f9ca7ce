/- Texts of one proof, one behind the other: MeanD, MeanE, Shown8, Laid8, LawG8, TysC, LawC, NamesL, MeanNamesW. -/
import Derived.Test.YtbgdphbebhjpiaaGreatDoorM14
import Derived.Test.YtbgdphbebhjpiaaGreatDoorM9
import Derived.Test.YtbgdphbebhjpiaaGreatDoorRows
import Derived.Test.YtbgdphbebhjpiaaGreatDoorM2
import Derived.Deep.DeepWitnessRowRef
import Derived.Lib.LaidU8
import Derived.LaidLaws
import Derived.Lib.LaidIn
import Derived.Shelf.Vars
import Derived.Test.YtbgdphbebhjpiaaGreatDoorM1
import Derived.ProofKit
import Derived.OpenShut
import Derived.Carry
import Derived.SizedLaws
import Derived.Test.YtbgdphbebhjpiaaGreatDoorM10
namespace Go.Proofs.YtbgdphbebhjpiaaGreatDoor
open Go.RowKit
theorem bKu{P:Program}{ι ι':Type}{f:FuncId}{args:List Value}{Hin:List bW}{Pre:List Fact}{val:ι→Value}{Hout:ι→List bW}{post:ι→List Fact}{val':ι'→Value}{Hout':ι'→List bW}{post':ι'→List Fact}(h:dH P f args Hin Pre val Hout post)
    (hc: ∀x S w,All (post x) S w→ ∃y,val x=val' y∧Hout x=Hout' y∧All (post' y) S w):dH P f args Hin Pre val' Hout' post':=fun S w s k=>(h S w s k).mono fun e w' ⟨x,S',he,hs,hp⟩=>by
  obtain⟨y,h1,h2,h3⟩:=hc x S' w' hp;exact⟨y,S',by rw [he,h1],by rw [←h2];exact hs,h3⟩
section
variable (P : ProgV) (hP : sK P) (hl1 : P.inputs.list.length ≤ 140737488355328) (hl2 : P.lines.list.length ≤ 140737488355328) (D I : Option Addr) (cd ci : Nat) (dims : List Int) (ins : List ArrV) (hdl : dims.length ≤ 140737488355328) (hI : ∀ a ∈ ins, a.sides.list.length ≤ 140737488355328)
include hP hl1 hl2 hdl hI
theorem begin_ok(h:(dZ P.pr dims (ins.map ArrV.arr)).2.2=0):dH Tryz.prog 31 [.agg #[.slice P.inputs.addr P.inputs.list.length P.inputs.cap,.slice P.lines.addr P.lines.list.length P.lines.cap],.slice D dims.length cd,.slice I ins.length ci] [] [iA,jT.sl (.slice P.inputs.addr P.inputs.list.length P.inputs.cap) P.inputs.list,iN P.inputs.list,nR.sl (.slice P.lines.addr P.lines.list.length P.lines.cap) P.lines.list,kL P.lines.list,cT.sl (.slice D dims.length cd) dims,kE.sl (.slice I ins.length ci) ins,Fact.each ins gS]
    (fun x:Nat×Nat×KVS×NamesV=> .tuple #[.pointer (some ⟨x.1,0,none⟩),.agg #[.int .i64 0,.int .i64 0]]) (fun x=>[runO x.1 x.2.1 0,sV x.2.1 x.2.2.1]) (fun x=>[Fact.pure (tM x.2.2.1 x.2.2.2∧dZ P.pr dims (ins.map ArrV.arr)=(fM x.2.2.2,(0,0))),qB x.2.2.2]):=by
  refine bKu (bHp P hP hl1 hl2 D I cd ci dims ins hdl hI) fun x S w hp=>?_;have hb:=hp _ (.head _);have e:=uH h
  cases x with
  | none=>exact absurd h hb
  | some x=>
    refine⟨x,?_,rfl,All.cons hb.1 (All.cons hb.2 fun g hg=>by simp at hg)⟩;show bval (some x) (dZ P.pr dims (ins.map ArrV.arr)).2=_;rw [e];rfl
theorem begin_bad(h:(dZ P.pr dims (ins.map ArrV.arr)).2.2≠0):dH Tryz.prog 31 [.agg #[.slice P.inputs.addr P.inputs.list.length P.inputs.cap,.slice P.lines.addr P.lines.list.length P.lines.cap],.slice D dims.length cd,.slice I ins.length ci] [] [iA,jT.sl (.slice P.inputs.addr P.inputs.list.length P.inputs.cap) P.inputs.list,iN P.inputs.list,nR.sl (.slice P.lines.addr P.lines.list.length P.lines.cap) P.lines.list,kL P.lines.list,cT.sl (.slice D dims.length cd) dims,kE.sl (.slice I ins.length ci) ins,Fact.each ins gS]
    (fun _:Unit=> .tuple #[.pointer none,.agg #[.int .i64 (dZ P.pr dims (ins.map ArrV.arr)).2.1,.int .i64 (dZ P.pr dims (ins.map ArrV.arr)).2.2]]) (fun _=>[]) (fun _=>[]):=by
  refine bKu (bHp P hP hl1 hl2 D I cd ci dims ins hdl hI) fun x S w hp=>?_;have hb:=hp _ (.head _)
  cases x with
  | none=>exact⟨(),rfl,rfl,fun g hg=>by simp at hg⟩
  | some x=>exact absurd (by rw [hb.1.2]) h
end
theorem flt_bad{f:Flt}(h:f.2≠0):(!mW ⟨f.1,f.2⟩ ⟨0,0⟩)=true:=by
  have:isOk f=false:=Bool.eq_false_iff.2 fun k=>h (by rw [pU.1 k]);have e:mW ⟨f.1,f.2⟩ ⟨0,0⟩=isOk f:=rfl;rw [e,this];rfl
theorem mean_bad{p:Prog}{dims:List Int}{ins:List Arr}(h:(dZ p dims ins).2.2≠0):gB p dims ins=([],(dZ p dims ins).2):=by
  have:isOk (dZ p dims ins).2=false:=Bool.eq_false_iff.2 fun k=>h (by rw [pU.1 k]);unfold gB;rw [if_pos this]
theorem mean_ok{p:Prog}{dims:List Int}{ins:List Arr}{N:hJ}(h:dZ p dims ins=(N,(0,0))):gB p dims ins=lV N p.lines 0 []:=by
  unfold gB;rw [h,if_neg (show ¬isOk ((0:Int),(0:Int))=false by decide)]
theorem itemR_err{R:Except Int (List Arr×Nat)}{x:ItX}(h:ItemR R x)(he:x.2.2.2.1≠0):R= .error x.2.2.2.1:=by
  rcases h with h | h
  · exact absurd h.1 he
  · exact h.2
theorem itemR_ok{R:Except Int (List Arr×Nat)}{x:ItX}(h:ItemR R x)(he:x.2.2.2.1=0):R= .ok (lJ x.2.2.1,x.2.2.2.2):=by
  rcases h with h | h
  · exact h.2
  · exact absurd he h.1
def tK (N:hJ)(l:List dN)(w j:Nat)(hv:List ArrV)(w2:Nat):Prop:=hX N l [] w=hX N (l.drop j) (lJ hv) w2∧mO (l.drop j) hv.length=some 1∧(∀a∈hv,cO a.arr=true)∧w2≤1048576∧hv.length≤j
section
variable {N : hJ} {l : List dN} {w j w2 w3 : Nat} {hv hv' : List ArrV} {x : dN} {e : Int}
theorem items_start(hd:mO l 0=some 1)(hw:w≤1048576):tK N l w 0 [] w:=⟨rfl,hd,fun a ha=>by simp at ha,hw,Nat.le_refl _⟩
theorem bNk(h:tK N l w j hv w2)(hx:l[j]?=some x):(iY x≤hv.length∧1≤x.how∧x.how≤7∧(x.how=1→x.nums≠[]∧x.nums.length≤65536))∧mO (l.drop (j+1)) (hv.length-iY x+1)=some 1:=by
  have hd:=h.2.1;rw [gE hx,mO] at hd;split at hd
  · rename_i hb;exact⟨hb,hd⟩
  · cases hd
theorem items_err(h:tK N l w j hv w2)(hx:l[j]?=some x)(he:nB N x (lJ hv) w2= .error e):hX N l [] w= .error (x.at_,e):=by
  rw [h.1,gE hx,hX,he]
theorem items_step(hN:jE N)(h:tK N l w j hv w2)(hx:l[j]?=some x)(he:nB N x (lJ hv) w2= .ok (lJ hv',w3)):tK N l w (j+1) hv' w3:=by
  obtain⟨hb,hd⟩:=bNk h hx;obtain⟨h1,h2,h3,h4⟩:=item_ok he;have hr:=bIc hN hb.2.1 hb.2.2.1 hb.2.2.2 h1
  have hlen:hv'.length=hv.length-iY x+1:=by
    have:=congrArg List.length h2
    simpa [lJ] using this
  refine⟨by rw [h.1,gE hx,hX,he],by rw [hlen];exact hd,fun a ha=>?_,h4,?_⟩
  · have hm:a.arr∈lJ hv':=by
      unfold lJ;rw [List.mem_reverse];exact List.mem_map.2 ⟨a,ha,rfl⟩
    rw [h2] at hm
    rcases List.mem_cons.1 hm with e | hm
    · rw [e];exact hr
    · have hm2:=List.mem_of_mem_drop hm;unfold lJ at hm2;rw [List.mem_reverse] at hm2;obtain⟨b,hb1,hb2⟩:=List.mem_map.1 hm2;rw [←hb2];exact h.2.2.1 b hb1
  · have:=h.2.2.2.2;omega
theorem items_end(h:tK N l w j hv w2)(hj:l.length≤j): ∃a,hv=[a]∧hX N l [] w= .ok ([a.arr],w2)∧cO a.arr=true:=by
  obtain⟨h1,h2,h3,_,_⟩:=h;rw [hZ hj,mO] at h2;injection h2 with h2
  match hv,h2 with
  | [a],_=>
    refine⟨a,rfl,?_,h3 a (List.mem_cons_self ..)⟩;rw [h1,hZ hj];rfl
end
def zP (ls:List lK)(i:Nat)(kv:KVS)(NV:NamesV)(w:Nat)(xs:List ArrV)(r:List Arr×Flt):Prop:=tM kv NV∧(∀p∈NV,cO p.2.arr=true)∧w≤1048576∧r=lV (fM NV) (ls.drop i) w (xs.map ArrV.arr)∧xs.length=i
section
variable {ls : List lK} {i : Nat} {kv : KVS} {NV : NamesV} {w w2 : Nat} {xs : List ArrV} {r : List Arr × Flt} {l : lK} {a b : ArrV} {f : Flt}
theorem nv_ok(h:jE (fM NV)): ∀p∈NV,cO p.2.arr=true:=fun p hp=>h (p.1,p.2.arr) (List.mem_map.2 ⟨p,hp,rfl⟩)
theorem nv_to(h: ∀p∈NV,cO p.2.arr=true):jE (fM NV):=fun q hq=>by
  obtain⟨p,hp,e⟩:=List.mem_map.1 hq;rw [←e];exact h p hp
theorem lines_errA(h:zP ls i kv NV w xs r)(hx:ls[i]?=some l)(hl:hX (fM NV) l.items [] w= .error f):r=([],f):=by
  rw [h.2.2.2.1,gE hx,lV,hl]
theorem lines_stepA(h:zP ls i kv NV w xs r)(hx:ls[i]?=some l)(hl:hX (fM NV) l.items [] w= .ok ([a.arr],w2))(hb:b.arr=a.arr)(hw:w2≤1048576)(ha:cO a.arr=true):zP ls (i+1) (nE l.name a.v kv) ((l.name,a)::NV) w2 (xs++[b]) r:=by
  refine⟨nr_add h.1 _ a,fun p hp=>?_,hw,?_,by rw [List.length_append,h.2.2.2.2];rfl⟩
  · rcases List.mem_cons.1 hp with rfl | hp
    · exact ha
    · exact h.2.1 p hp
  · rw [h.2.2.2.1,gE hx,lV,hl,List.map_append];simp only [List.map_cons,List.map_nil,hb];rfl
theorem lines_endA(h:zP ls i kv NV w xs r)(hi:ls.length≤i):r=(xs.map ArrV.arr,(0,0)):=by
  rw [h.2.2.2.1,hZ hi];rfl
end
def uV (xs:List ArrV):List (Sl Int):=xs.flatMap fun a=>[a.sides,a.data]
theorem fam_add2{xs:List ArrV}{b:ArrV}(H:List bW):(laneRow b.sides::laneRow b.data::(H++(uV xs).map laneRow)).Perm (H++(uV (xs++[b])).map laneRow):=by
  have e:(uV (xs++[b])).map laneRow=(uV xs).map laneRow++[laneRow b.sides,laneRow b.data]:=by simp [uV]
  rw [e,←List.append_assoc];exact List.perm_append_comm (l₁:=[laneRow b.sides,laneRow b.data])
set_option maxRecDepth 100000 in
theorem mean_spec(P:ProgV)(hP:sK P)(hl1:P.inputs.list.length≤140737488355328)(hl2:P.lines.list.length≤140737488355328)(D I:Option Addr)(cd ci:Nat)(dims:List Int)(ins:List ArrV)(hdl:dims.length≤140737488355328)(hI: ∀a∈ins,a.sides.list.length≤140737488355328):dH Tryz.prog 14 [.agg #[.slice P.inputs.addr P.inputs.list.length P.inputs.cap,.slice P.lines.addr P.lines.list.length P.lines.cap],.slice D dims.length cd,.slice I ins.length ci] [] [iA,jT.sl (.slice P.inputs.addr P.inputs.list.length P.inputs.cap) P.inputs.list,iN P.inputs.list,nR.sl (.slice P.lines.addr P.lines.list.length P.lines.cap) P.lines.list,kL P.lines.list,cT.sl (.slice D dims.length cd) dims,kE.sl (.slice I ins.length ci) ins,Fact.each ins gS] (fun(x:Option Addr×Nat×List ArrV)=> .tuple #[.slice x.1 x.2.2.length x.2.1,.agg #[.int .i64 (gB P.pr dims (ins.map ArrV.arr)).2.1,.int .i64 (gB P.pr dims (ins.map ArrV.arr)).2.2]]) (fun(x:Option Addr×Nat×List ArrV)=>kE.row (.slice x.1 x.2.2.length x.2.1) 42 x.2.2::(uV x.2.2).map laneRow) (fun(x:Option Addr×Nat×List ArrV)=>[Fact.pure (x.2.2.map ArrV.arr=(gB P.pr dims (ins.map ArrV.arr)).1)]):=by
  have hT:=dA;generalize hR:gB P.pr dims (ins.map ArrV.arr)=r;refine cQ Tryz.func14 rfl Tryz.ntmps14 rfl ?_;intro β hM;refine sr<|fL rfl rfl rfl rfl rfl rfl fun b1=>?_;refine sp hT ?_;refine cE rfl rfl rfl rfl yC rfl fun b2=>?_;refine nn<|bA ?_
  rcases Classical.em ((dZ P.pr dims (ins.map ArrV.arr)).2.2=0) with hb0 | hb0
  · refine bE<|ss (ldN hT (bL kT1)) ?_;refine sp2 hT ?_;refine bO Tryz.func31 (begin_ok P hP hl1 hl2 D I cd ci dims ins hdl hI hb0) rfl rfl .nil ⟨(Has.of mT0),(Has.of mT1),(Has.of mT2),(Has.of mT3),(Has.of mT4),(Has.of mT5),(Has.of mT6),(Has.of mT7),trivial⟩ fun⟨rb,mb,kv0,NV0⟩=>?_;refine cD (Has.of mT0) fun hnr=>?_;refine sp3 hT ?_;refine cE rfl rfl rfl rfl yC rfl fun b3=>?_;refine sp hT ?_;refine sto hT .head ?_;refine nn<|bA<|sr<|ss (ldN hT (bL .head)) ?_;refine ss (bY rfl rfl (vU)) ?_;refine ss (fD ⟨0,0⟩ ⟨0,0⟩ rfl rfl rfl) ?_;refine cH (t':=false) (by decide) ?_;refine nn<|cN rfl rfl ?_;refine bK<|bB<|sr<|sp hT ?_;refine nn<|bA<|bA<|dQ (t:=42) kE ?_;have hN0:jE (fM NV0):=by have:=vC P.pr dims (ins.map ArrV.arr);rw [hnr.2] at this;exact this
    have hm:=hR.symm.trans (mean_ok hnr.2);have hrt:=bCx (pU.2 (uH hb0));have hdep:=vI hrt;have hfine:=uR hrt;refine kY (H':=_::_::_::_::_::_::(uV ([]:List ArrV)).map laneRow) (List.Perm.refl _) ?_;refine bE<|sp hT ?_;refine ss (ldO hT (dB kT5)) ?_;refine sp2 hT ?_;refine nn<|bT<|bHu (ι:=Nat×KVS×NamesV×Nat×List ArrV×Option Addr×Nat) [(7,_),(8,_),(30,_),(31,_)] ⟨rfl,rfl,rfl,rfl,trivial⟩ (fun⟨i,kv,NV,w,xs,A1,c1⟩=>[(10,.slice A1 xs.length c1),(32,.int .i64 (i:Nat))]) (fun⟨i,kv,NV,w,xs,A1,c1⟩=>[runO rb mb w,sV mb kv,kE.row (.slice A1 xs.length c1) 42 xs]) [_,_,_] (fun⟨i,kv,NV,w,xs,A1,c1⟩=>uV xs) (fun⟨i,kv,NV,w,xs,A1,c1⟩=>[Fact.pure (i≤P.lines.list.length∧zP P.pr.lines i kv NV w xs r),qB NV]) (fun⟨i,kv,NV,w,xs,A1,c1⟩=>P.lines.list.length-i) (0,kv0,NV0,0,[],none,0) ⟨rfl,rfl,trivial⟩ (.cons kT2 (.cons kT2 (.cons .head .nil))) ⟨Has.pure (⟨by omega,hnr.1,nv_ok hN0,by omega,hm,rfl⟩),Has.of mT1,trivial⟩ ?_;rintro⟨i,kv,NV,w,xs,A1,c1⟩;dsimp only;refine cD (Has.of mT0) fun hinv6=>?_;refine sr<|sp hT ?_;refine nn<|bA<|bH rfl (fun hc33=>?_) (fun hc33=>?_)
    · have hc33:=of_decide_eq_true hc33;refine bK<|bB<|bA<|bT<|sr ?_
      obtain⟨x4,hx5⟩: ∃x',P.lines.list[i]?=some x':=⟨_,List.getElem?_eq_getElem (by omega)⟩
      refine ss (bS hT (k:=i) (bJ (Has.of mT7)) rfl rfl rfl rfl rfl rfl rfl (by omega)) ?_;refine ss (dP hT (cR.knows (bJ (Has.of mT7)) (k:=i) (x:=x4) hx5 0) rfl rfl rfl rfl rfl) ?_;refine cE rfl rfl rfl rfl qI rfl fun b6=>?_;refine sto hT .head ?_;refine nn<|bA ?_;have hx0:P.pr.lines[i]?=some x4.ln:=rQ hx5;have hdp:=hdep x4.ln (List.mem_of_getElem? hx0);have hil:=(hfine.line x4.ln (List.mem_of_getElem? hx0)).2.1;have hie:x4.ln.items.length=x4.items.list.length:=List.length_map _;refine bV (lL.sl (.slice x4.items.addr x4.items.list.length x4.items.cap) x4.items.list) (Has.left (Has.each (Has.of mT8) (List.mem_of_getElem? hx5))) ?_;refine bV (mI x4.items.list) (Has.right (Has.each (Has.of mT9) (List.mem_of_getElem? hx5))) ?_;refine bV (kE.sl (.slice none 0 0) []) (kT) ?_;refine bV (Fact.each ([]:List ArrV) gS) (Has.each_nil) ?_;refine bE<|sp hT ?_;refine nn<|bA<|sr<|sp hT ?_;refine ss (ldO hT (fE .head)) ?_;refine sp2 hT ?_;refine nn<|bT<|dD (ι:=Nat×Nat×List ArrV×Option Addr×Nat) [(7,_),(8,_),(10,_),(12,_),(30,_),(31,_),(32,_),(37,_),(38,_)] ⟨rfl,rfl,rfl,rfl,rfl,rfl,rfl,rfl,rfl,trivial⟩ (fun⟨j,w2,hv,A2,c2⟩=>[(13,.slice A2 hv.length c2),(39,.int .i64 (j:Nat))]) (fun⟨j,w2,hv,A2,c2⟩=>[runO rb mb w2]) (fun⟨j,w2,hv,A2,c2⟩=>[Fact.pure (j≤x4.items.list.length∧tK (fM NV) x4.ln.items w j hv w2∧hv.length≤c2),kE.sl (.slice A2 hv.length c2) hv,Fact.each hv gS]) (fun⟨j,w2,hv,A2,c2⟩=>x4.items.list.length-j) (0,w,[],none,0) ⟨rfl,rfl,trivial⟩ (.cons kT1 .nil) ⟨Has.pure (⟨by omega,items_start hdp hinv6.2.2.2.1,Nat.le_refl _⟩),Has.of mT1,Has.of mT0,trivial⟩ ?_;rintro⟨j,w2,hv,A2,c2⟩;dsimp only;refine cD (Has.of mT0) fun hinv10=>?_;refine sr<|sp hT ?_;refine nn<|bA<|bH rfl (fun hc40=>?_) (fun hc40=>?_)
      · have hc40:=of_decide_eq_true hc40;refine bK<|bB<|bA<|bT<|sr ?_
        obtain⟨x7,hx8⟩: ∃x',x4.items.list[j]?=some x':=⟨_,List.getElem?_eq_getElem (by omega)⟩
        refine ss (bS hT (k:=j) (bJ (Has.of mT6)) rfl rfl rfl rfl rfl rfl rfl (by omega)) ?_;refine ss (dP hT (cR.knows (bJ (Has.of mT6)) (k:=j) (x:=x7) hx8 0) rfl rfl rfl rfl rfl) ?_;refine cE rfl rfl rfl rfl lZ rfl fun b9=>?_;refine sto hT .head ?_;refine nn<|bA ?_;have hi0:x4.ln.items[j]?=some x7.it:=rQ hx8;have hdd:=(bNk hinv10.2.1 hi0).1;have hvj:=hinv10.2.1.2.2.2.2;refine bV (numF x7) (Has.each (Has.of mT5) (List.mem_of_getElem? hx8)) ?_;refine bE<|sp hT ?_;refine ss (ldN hT (bL .head)) ?_;refine sp hT ?_;refine bO Tryz.func32 (item_spec rb mb w2 kv NV hinv6.2.1 hinv6.2.2.1 x7 A2 c2 hv hinv10.2.2 hinv10.2.1.2.2.1 hinv10.2.1.2.2.2.1 (by omega) hdd.1 ⟨hdd.2.1,hdd.2.2.1⟩ hdd.2.2.2) rfl rfl (.cons kT1 (.cons kT2 .nil)) ⟨(Has.of mT0),(Has.of mT2),(Has.of mT3),(Has.of mT9),trivial⟩ fun⟨A3,c3,xs3,e,w3⟩=>?_;refine cD (Has.of mT2) fun hir=>?_;refine sp4 hT ?_;refine sp hT ?_;refine nn<|bA<|sr<|sp2 hT ?_;refine nn<|bH rfl (fun hc51=>?_) (fun hc51=>?_)
        · have hc51:=bne_iff_ne.1 hc51;refine bA<|cU _ _ [(true,0),(true,1),(true,2),(true,3),(true,4),(false,5)] cY (by decide+kernel) (.cons .head (.cons .head (.cons .head (.cons .head (.cons .head (.cons .head (.cons kT1 (Sel.skip Sel.self)))))))) bF.self ?_;refine puM hT ?_;refine stM rfl (ldO hT (dB kT2)) ?_;refine puM hT ?_;refine stM rfl (bY rfl rfl (tZ _ _)) ?_;refine puM hT ?_;refine cC (o:=_) rfl ?_;refine sto hT kT6 ?_;refine cB (.cons kT1 (.cons kT1 (.cons kT1 (.cons kT1 (.cons kT1 (.cons kT1 (.cons kT1 (Sel.skip Sel.self)))))))) (bF.drop 0) ?_;refine cK<|bB<|bG<|bC<|bI<|bC<|bC<|bI<|bC<|bI<|bC<|bC<|bI<|bC ?_;have hr:=lines_errA hinv6.2 hx0 (items_err hinv10.2.1 hi0 (itemR_err hir.1 (by assumption)));subst hr;refine dQ (t:=42) kE ?_;exact bM (none,0,[]) rfl (bD rfl) (bN hT (bL kT1) rfl rfl rfl rfl) (.cons .head .nil) ⟨Has.pure rfl,trivial⟩ rfl
        have hc51:=bne_eq_false_iff_eq.1 hc51;refine bK<|bB<|bE<|sp2 hT ?_;refine dU<|cA<|bB<|bE<|sp hT ?_;refine bP (z':=(((j+1):Nat):Int)) (cL (by omega) (by omega)) ?_;refine sp hT ?_;refine nn ?_;exact cP (j+1,w3,xs3,A3,c3) (by dsimp only;omega) ⟨rfl,rfl,trivial⟩ ⟨rfl,rfl,rfl,rfl,rfl,rfl,rfl,rfl,rfl,trivial⟩ (.cons .head (.cons kT2 (.cons .head (.cons kT1 (.cons kT1 (.cons kT1 (.cons kT1 (Sel.skip Sel.self)))))))) ⟨Has.pure (⟨by dsimp only;omega,items_step (nv_to hinv6.2.2.1) hinv10.2.1 hi0 (itemR_ok hir.1 (by assumption)),hir.2⟩),Has.of mT0,Has.of mT1,trivial⟩ (bF.drop 7)
      have hc40:=Int.not_lt.1 (of_decide_eq_false hc40);refine cW<|cM<|cM<|cX<|bB<|bA ?_;obtain⟨a,hva,hle,hra⟩:=items_end hinv10.2.1 (by omega);have hv0:hv[0]?=some a:=by rw [hva];rfl
      have hda:=hO hra;have hsa:=iG hra;have hda:a.data.list.length≤65536:=hda;have hsa:a.sides.list.length≤4:=hsa;have hvl:hv.length=1:=by rw [hva];rfl
      refine bV (gS a) (Has.each (Has.of mT2) (List.mem_of_getElem? hv0)) ?_;refine bV (cT.sl (.slice a.sides.addr a.sides.list.length a.sides.cap) a.sides.list) (jM (Has.of mT0)) ?_;refine bV (cT.sl (.slice a.data.addr a.data.list.length a.data.cap) a.data.list) (kS (Has.of mT1)) ?_;refine cU _ _ [(true,0),(true,1),(true,2),(true,3),(true,4),(true,5),(true,6),(true,7),(true,8),(false,9)] cY (by decide+kernel) (.cons .head (.cons .head (.cons kT1 (.cons kT1 (.cons kT1 (.cons kT1 (Sel.skip Sel.self))))))) bF.self ?_;refine puM hT ?_;refine puM hT ?_;refine puM hT ?_;refine stM rfl (ldO hT (bL .head)) ?_;refine puM hT ?_;refine stM rfl (ldO hT (bL kT1)) ?_;refine puM hT ?_;refine stM rfl (bS hT (k:=0) (bJ (Has.of mT4)) rfl rfl rfl rfl rfl rfl rfl (by omega)) ?_;refine stM rfl (dP hT (cR.knows (bJ (Has.of mT4)) (k:=0) (x:=a) hv0 0) rfl rfl rfl rfl rfl) ?_;refine cC (o:=_) rfl ?_;refine lI kT2 rfl (.inl rfl) rfl bKt Tryz.underlying9 rfl rfl rfl ?_;refine cB (.cons kT1 (.cons kT1 (.cons kT1 (.cons kT1 (.cons kT1 (.cons kT1 (Sel.skip Sel.self))))))) (bF.drop 0) ?_;refine cK<|bB<|cU _ _ [(true,0),(true,1),(true,2),(true,3),(true,4),(true,6),(true,7),(true,8),(true,9),(false,5),(false,10),(true,11),(false,12),(false,13),(true,14)] cY (by decide+kernel) (.cons .head (.cons .head (.cons .head (.cons kT1 (.cons kT1 (.cons kT1 (Sel.skip Sel.self))))))) bF.self ?_;refine puM hT ?_;refine puM hT ?_;refine stM rfl (bS hT (k:=0) (bJ (Has.of mT4)) rfl rfl rfl rfl rfl rfl rfl (by omega)) ?_;refine puM hT ?_;refine stM rfl (bZ hT (cR.knows (bJ (Has.of mT4)) (k:=0) (x:=a) hv0 0) rfl rfl rfl rfl rfl) ?_;refine puM hT ?_;refine stM rfl (bS hT (k:=0) (bJ (Has.of mT4)) rfl rfl rfl rfl rfl rfl rfl (by omega)) ?_;refine puM hT ?_;refine stM rfl (bZ hT (cR.knows (bJ (Has.of mT4)) (k:=0) (x:=a) hv0 1) rfl rfl rfl rfl rfl) ?_;refine cC (o:=_) rfl ?_;refine bO Tryz.func33 (dK _ _ _ (by omega)) rfl rfl .nil ⟨(Has.of mT1),trivial⟩ fun⟨A10,c11⟩=>?_;refine cB (.cons kT1 (.cons kT1 (.cons kT1 (.cons kT2 (.cons kT2 (.cons kT2 (Sel.skip (Sel.skip Sel.self)))))))) (bF.drop 0) ?_;refine cC (o:=_) rfl ?_;refine bO Tryz.func33 (dK _ _ _ (by omega)) rfl rfl .nil ⟨(Has.of mT0),trivial⟩ fun⟨A12,c13⟩=>?_;refine cB (.cons kT2 (.cons kT2 (.cons kT2 (.cons kT3 (.cons kT3 (.cons kT3 (Sel.skip (Sel.skip (Sel.skip Sel.self))))))))) (bF.drop 0) ?_;refine stM rfl (bY rfl rfl (nW _ _ _ _ _ _)) ?_;refine cC (o:=_) rfl ?_;refine iI (m:=(⟨⟨A10,c11,a.sides.list⟩,⟨A12,c13,a.data.list⟩⟩:ArrV)) rfl rfl rfl rfl rfl fun b14=>?_;refine cB (.cons kT3 (.cons kT3 (.cons kT3 (.cons kT4 (.cons kT4 (.cons kT4 (Sel.skip (Sel.skip (Sel.skip (Sel.skip Sel.self)))))))))) (bF.drop 0) ?_;refine cC (o:=_) rfl ?_;refine at_app_arr kT6 (dF .head rfl) rfl rfl rfl rfl rfl rfl rfl (by have h1:=hinv6.2.2.2.2.2;have h2:=hfine.lns;have h3:P.pr.lines.length=P.lines.list.length:=List.length_map _;simp;omega) fun A15 c16=>?_;refine cB (.cons kT4 (.cons kT4 (.cons kT4 (.cons kT4 (.cons kT4 (.cons kT4 (Sel.skip (Sel.skip (Sel.skip (Sel.skip Sel.self)))))))))) (bF.drop 0) ?_;refine puM hT ?_;refine cK<|cA<|bB<|bHo (R:=_::_::_::_::_::_::_::_::_::_::(uV xs).map laneRow) (.cons kT3 (.cons kT2 (.cons .head (.cons .head (.cons .head (.cons .head (.cons .head (.cons .head (.cons .head (.cons .head Sel.self)))))))))) ?_;refine kY (fam_add2 (b:=(⟨⟨A10,c11,a.sides.list⟩,⟨A12,c13,a.data.list⟩⟩:ArrV)) [_,_,_,_,_,_,_,_]) ?_;refine bV (qB ((x4.name,a)::NV)) (Has.each_cons (Has.of mT2) (Has.of bEq)) ?_;refine bE<|sp hT ?_;refine bP (z':=(((i+1):Nat):Int)) (cL (by omega) (by omega)) ?_;refine sp hT ?_;refine nn ?_;exact bGj (i+1,_,(x4.name,a)::NV,w2,xs++[(⟨⟨A10,c11,a.sides.list⟩,⟨A12,c13,a.data.list⟩⟩:ArrV)],A15,c16) (by dsimp only;omega) ⟨rfl,rfl,trivial⟩ ⟨rfl,rfl,rfl,rfl,trivial⟩ (.cons kT3 (.cons kT2 (.cons .head (.cons kT2 (.cons kT2 (.cons kT2 (Sel.skip (Sel.skip Sel.self)))))))) ⟨Has.pure (⟨by dsimp only;omega,lines_stepA hinv6.2 hx0 hle rfl hinv10.2.1.2.2.2.1 hra⟩),Has.of mT0,trivial⟩ (bF.drop 13)
    have hc33:=Int.not_lt.1 (of_decide_eq_false hc33);refine cW<|cM<|cM<|cX<|bB<|sr<|sp hT ?_;refine ss (bY rfl rfl (vU)) ?_;refine sp hT ?_;refine sto hT kT4 ?_;refine nn<|bG ?_;have hr:=lines_endA hinv6.2 (by show(P.lines.list.map LineV.ln).length≤i;rw [List.length_map];omega);subst hr;exact bM (A1,c1,xs) rfl (bD rfl) (bN hT (bL .head) rfl rfl rfl rfl) (.cons kT3 (Sel.skip (Sel.skip (Sel.skip (Sel.skip (Sel.skip Sel.self)))))) ⟨Has.pure rfl,trivial⟩ rfl
  refine bE<|ss (ldN hT (bL kT1)) ?_;refine sp2 hT ?_;refine bO Tryz.func31 (begin_bad P hP hl1 hl2 D I cd ci dims ins hdl hI hb0) rfl rfl .nil ⟨(Has.of mT0),(Has.of mT1),(Has.of mT2),(Has.of mT3),(Has.of mT4),(Has.of mT5),(Has.of mT6),(Has.of mT7),trivial⟩ fun _=>?_;refine sp3 hT ?_;refine cE rfl rfl rfl rfl yC rfl fun b17=>?_;refine sp hT ?_;refine sto hT .head ?_;refine nn<|bA<|sr<|ss (ldN hT (bL .head)) ?_;refine ss (bY rfl rfl (vU)) ?_;refine ss (fD ⟨(dZ P.pr dims (ins.map ArrV.arr)).2.1,(dZ P.pr dims (ins.map ArrV.arr)).2.2⟩ ⟨0,0⟩ rfl rfl rfl) ?_;refine cH (t':=true) (flt_bad hb0) ?_;refine nn<|cI rfl rfl ?_;refine bA<|cU _ _ [(true,0),(true,1),(false,2)] cY (by decide+kernel) (.cons .head (.cons kT1 .nil)) bF.self ?_;refine stM rfl (ldN hT (bL .head)) ?_;refine puM hT ?_;refine cC (o:=_) rfl ?_;refine sto hT kT1 ?_;refine cB (.cons kT1 (.cons kT1 .nil)) (bF.drop 0) ?_;refine cK<|bB<|bG<|bC ?_;have hr:=hR.symm.trans (mean_bad hb0);subst hr;refine dQ (t:=42) kE ?_;exact bM (none,0,[]) rfl (bD rfl) (bN hT (bL kT1) rfl rfl rfl rfl) (.cons .head .nil) ⟨Has.pure rfl,trivial⟩ rfl
end Go.Proofs.YtbgdphbebhjpiaaGreatDoor
namespace Go.Proofs.YtbgdphbebhjpiaaGreatDoor
open Go.RowKit
section
variable {P : Program} {β : fG} {n : Nat} {Γ : Env} {H : List bW} {F : List Fact}
theorem spec_step{ι:Type}{f:FuncId}{args:List Value}{Hin:List bW}{Pre:List Fact}{val:ι→Value}{Hout Hout':ι→List bW}{post post':ι→List Fact}(h:dH P f args Hin Pre val Hout post)
    (hc: ∀(x:ι) (β:fG),At β 0 [] (Hout x) (post x) fun _ w=> ∃S',St β (Hout' x) S' w∧All (post' x) S' w):dH P f args Hin Pre val Hout' post':=fun S w s k=>(h S w s k).mono fun e w' ⟨x,S',he,hs,hp⟩=>by
  obtain⟨S2,h1,h2⟩:=hc x _ {tmps:= #[],defers:=[]} w' S' ⟨rfl,Nat.zero_le _,fun i v hv=>by cases hv⟩ hs hp;exact⟨x,S2,he,h1,h2⟩
theorem at_fin{H':List bW}{G:List Fact}(hH:Sel H H')(hF:bF F G):At β n Γ H F fun _ w=> ∃S',St β H' S' w∧All G S' w:=fun _ w S _ s k=>⟨S,s.sel hH,hF.all S w k⟩
theorem each_arr{xs:List ArrV}(h:Has F (Fact.each (uV xs) wL)):Has F (Fact.each xs gS):=fun S w k a ha=>by
  have h1:=h S w k a.sides (List.mem_flatMap.2 ⟨a,ha,by simp⟩);have h2:=h S w k a.data (List.mem_flatMap.2 ⟨a,ha,by simp⟩);exact⟨⟨h1.1,h2.1⟩,h1.2,h2.2⟩
end
section
variable (P : ProgV) (hP : sK P) (hl1 : P.inputs.list.length ≤ 140737488355328) (hl2 : P.lines.list.length ≤ 140737488355328) (D I : Option Addr) (cd ci : Nat) (dims : List Int) (ins : List ArrV) (hdl : dims.length ≤ 140737488355328) (hI : ∀ a ∈ ins, a.sides.list.length ≤ 140737488355328)
include hP hl1 hl2 hdl hI
theorem wP:dH Tryz.prog 14 [.agg #[.slice P.inputs.addr P.inputs.list.length P.inputs.cap,.slice P.lines.addr P.lines.list.length P.lines.cap],.slice D dims.length cd,.slice I ins.length ci] [] [iA,jT.sl (.slice P.inputs.addr P.inputs.list.length P.inputs.cap) P.inputs.list,iN P.inputs.list,nR.sl (.slice P.lines.addr P.lines.list.length P.lines.cap) P.lines.list,kL P.lines.list,cT.sl (.slice D dims.length cd) dims,kE.sl (.slice I ins.length ci) ins,Fact.each ins gS]
    (fun x:Option Addr×Nat×List ArrV=> .tuple #[.slice x.1 x.2.2.length x.2.1,.agg #[.int .i64 (gB P.pr dims (ins.map ArrV.arr)).2.1,.int .i64 (gB P.pr dims (ins.map ArrV.arr)).2.2]]) (fun _=>[]) (fun x=>[Fact.pure (x.2.2.map ArrV.arr=(gB P.pr dims (ins.map ArrV.arr)).1),kE.sl (.slice x.1 x.2.2.length x.2.1) x.2.2,Fact.each x.2.2 gS]):=by
  refine spec_step (mean_spec P hP hl1 hl2 D I cd ci dims ins hdl hI) fun x β=>?_;refine kY (H':=(uV x.2.2).map laneRow++[_]) (List.perm_append_comm (l₁:=[_])) ?_;refine mU (uV x.2.2) ?_;refine bX (E:=kE) .head ?_;exact at_fin .nil ⟨Has.of (.tail _ (.tail _ (.head _))),Has.of (.head _),each_arr (Has.of (.tail _ (.head _))),trivial⟩
end
theorem arr_ext{x u:ArrV}:x.arr=u.arr↔x.sides.list=u.sides.list∧x.data.list=u.data.list:=by
  unfold ArrV.arr;simp
theorem same_a{x u:ArrV}(h:decide (x.sides.list=u.sides.list)=true):Value.bool (decide (x.data.list=u.data.list))= .bool (decide (x.arr=u.arr)):=by
  have h:=of_decide_eq_true h
  congr 1
  rw [Bool.eq_iff_iff];simp [arr_ext,h]
theorem same_b{x u:ArrV}(h:decide (x.sides.list=u.sides.list)=false):Value.bool false= .bool (decide (x.arr=u.arr)):=by
  have h:=of_decide_eq_false h
  congr 1
  rw [Bool.eq_iff_iff];simp [arr_ext,h]
set_option maxRecDepth 100000 in
theorem bNc(A B:Option Addr)(ca cb:Nat)(a b:List Int)(hl:a.length≤140737488355328):dH Tryz.prog 39 [.slice A a.length ca,.slice B b.length cb] [] [cT.sl (.slice A a.length ca) a,cT.sl (.slice B b.length cb) b] (fun(_:Unit)=> .bool (decide (a=b))) (fun _=>[]) (fun _=>[]):=by
  have hT:=dA;refine cQ Tryz.func39 rfl Tryz.ntmps39 rfl ?_;intro β hM;refine sr<|sp hT ?_;refine nn<|bA<|sr<|sp4 hT ?_;refine sp hT ?_;refine nn<|bH rfl (fun hc10=>?_) (fun hc10=>?_)
  · have hc10:=bne_iff_ne.1 hc10;refine sr<|sp hT ?_;refine nn<|bG<|bC ?_;exact bR () rfl (bD rfl) .nil trivial (rZ (fun e=>by have:=congrArg List.length e;omega))
  have hc10:=bne_eq_false_iff_eq.1 hc10;refine bK<|bB<|bA<|sr<|sp hT ?_;refine nn<|bT<|dD (ι:=Nat) [(0,_),(1,_)] ⟨rfl,rfl,trivial⟩ (fun i=>[(5,.int .i64 (i:Nat))]) (fun _=>[]) (fun i=>[Fact.pure (i≤a.length∧a.take i=b.take i)]) (fun i=>a.length-i) 0 ⟨rfl,trivial⟩ .nil ⟨Has.pure (⟨by omega,rfl⟩),trivial⟩ ?_;rintro i;refine cD (Has.of mT0) fun hinv4=>?_;refine bA<|sr<|sp4 hT ?_;refine nn<|bH rfl (fun hc14=>?_) (fun hc14=>?_)
  · have hc14:=of_decide_eq_true hc14;refine bK<|bB<|bA<|bT<|bA<|cU _ _ [(true,0),(true,1),(true,2),(true,3),(true,4),(true,5),(true,6),(true,7),(true,8)] cY (by decide+kernel) .nil bF.self ?_;refine puM hT ?_;refine puM hT ?_
    obtain⟨x1,hx2⟩: ∃x',a[i]?=some x':=⟨_,List.getElem?_eq_getElem (by omega)⟩
    refine stM rfl (bS hT (k:=i) (bJ (Has.of mT1)) rfl rfl rfl rfl rfl rfl rfl (by omega)) ?_;refine stM rfl (bZ hT (cR.knows (bJ (Has.of mT1)) (k:=i) (x:=x1) hx2 0) rfl rfl rfl rfl rfl) ?_;refine puM hT ?_;refine puM hT ?_
    obtain⟨x3,hx4⟩: ∃x',b[i]?=some x':=⟨_,List.getElem?_eq_getElem (by omega)⟩
    refine stM rfl (bS hT (k:=i) (bJ (Has.of mT2)) rfl rfl rfl rfl rfl rfl rfl (by omega)) ?_;refine stM rfl (bZ hT (cR.knows (bJ (Has.of mT2)) (k:=i) (x:=x3) hx4 0) rfl rfl rfl rfl rfl) ?_;refine puM hT ?_;refine cK<|bB<|bH rfl (fun hc25=>?_) (fun hc25=>?_)
    · have hc25:=bne_iff_ne.1 hc25;refine sr<|sp hT ?_;refine nn<|bG<|bI<|bC<|bC<|bI<|bC ?_;exact bR () rfl (bD rfl) .nil trivial (rZ (not_take hx2 hx4 (by assumption)))
    have hc25:=bne_eq_false_iff_eq.1 hc25;refine bK<|cA<|bB<|bE<|sp2 hT ?_;refine bP (z':=(((i+1):Nat):Int)) (cL (by omega) (by omega)) ?_;refine sp hT ?_;refine nn ?_;exact cP (i+1) (by omega) ⟨rfl,trivial⟩ ⟨rfl,rfl,trivial⟩ .nil ⟨Has.pure (⟨by omega,bLl hinv4.2 hx2 hx4 (by assumption)⟩),trivial⟩ (bF.drop 1)
  have hc14:=Int.not_lt.1 (of_decide_eq_false hc14);refine cW<|cM<|cM<|cX<|bB<|sr<|sp hT ?_;refine nn<|bG ?_;exact bR () rfl (bD rfl) .nil trivial (bHx (take_all hinv4.2 (by omega) (by omega)))
set_option maxRecDepth 100000 in
theorem bIz(x u:ArrV)(hs:x.sides.list.length≤140737488355328)(hd:x.data.list.length≤140737488355328):dH Tryz.prog 19 [.agg #[.slice x.sides.addr x.sides.list.length x.sides.cap,.slice x.data.addr x.data.list.length x.data.cap],.agg #[.slice u.sides.addr u.sides.list.length u.sides.cap,.slice u.data.addr u.data.list.length u.data.cap]] [] [cT.sl (.slice x.sides.addr x.sides.list.length x.sides.cap) x.sides.list,cT.sl (.slice x.data.addr x.data.list.length x.data.cap) x.data.list,cT.sl (.slice u.sides.addr u.sides.list.length u.sides.cap) u.sides.list,cT.sl (.slice u.data.addr u.data.list.length u.data.cap) u.data.list] (fun(_:Unit)=> .bool (decide (x.arr=u.arr))) (fun _=>[]) (fun _=>[]):=by
  have hT:=dA;refine cQ Tryz.func19 rfl Tryz.ntmps19 rfl ?_;intro β hM;refine sr<|fL rfl rfl rfl rfl rfl rfl fun b1=>?_;refine fL rfl rfl rfl rfl rfl rfl fun b2=>?_;refine sp hT ?_;refine nn<|sr<|sp hT ?_;refine ss (ldO hT (bL kT1)) ?_;refine sp hT ?_;refine ss (ldO hT (bL .head)) ?_;refine bO Tryz.func39 (bNc _ _ _ _ _ _ (by omega)) rfl rfl .nil ⟨Has.of mT0,Has.of mT2,trivial⟩ fun _=>?_;refine sp hT ?_;refine cF (fun hg10=>?_) (fun hg10=>?_)
  · refine sp hT ?_;refine ss (ldO hT (dB kT1)) ?_;refine sp hT ?_;refine ss (ldO hT (dB .head)) ?_;refine bO Tryz.func39 (bNc _ _ _ _ _ _ (by omega)) rfl rfl .nil ⟨Has.of mT1,Has.of mT3,trivial⟩ fun _=>?_;refine sp2 hT ?_;refine nn<|bG ?_;exact bR () rfl (bD rfl) .nil trivial (by first | exact same_a (by assumption) | exact same_b (by assumption))
  refine sk4 ?_;refine sk ?_;refine sp2 hT ?_;refine nn<|bG ?_;exact bR () rfl (bD rfl) .nil trivial (by first | exact same_a (by assumption) | exact same_b (by assumption))
end Go.Proofs.YtbgdphbebhjpiaaGreatDoor
namespace Go.Proofs.YtbgdphbebhjpiaaGreatDoor
open Go.RowKit
def text8:Bs:=[105,110,32,120,32,110,10,121,58,32,50,32,43,32,120,10,111,117,116,32,43,47,32,121,32,42,32,110]
def bLk:Prog:=(gI text8).1
def x8:Arr:=⟨[3],[1,2,3]⟩
theorem parse8:(gI text8).2=(0,0):=by decide+kernel
theorem mean8a:gB bLk [3] [x8]=([⟨[3],[3,4,5]⟩,⟨[],[36]⟩],(0,0)):=by decide+kernel
theorem mean8b:gB bLk [2] [x8]=([],(3,82)):=by decide+kernel
theorem vars8:varsP bLk=[[110]]:=by decide+kernel
theorem sides8:(gY bLk.inputs).length=1:=by decide+kernel
def okB (p:Prog):Bool:=
  (p.inputs.all fun x=>decide (x.name.length≤140737488355328)&&x.sides.all fun d=>decide (d.name.length≤140737488355328∧ -9223372036854775808≤d.n∧d.n≤9223372036854775807))&&
  (p.lines.all fun x=>decide (x.name.length≤140737488355328)&&x.items.all fun it=>decide (it.name.length≤140737488355328)&&it.nums.all fun z=>decide (-9223372036854775808≤z∧z≤9223372036854775807))&&
  decide (p.inputs.length≤140737488355328∧p.lines.length≤140737488355328)&&p.inputs.all fun x=>decide (x.sides.length≤4)
theorem ok8:okB bLk=true:=by decide+kernel
theorem ok_of{x:ProgV}(h:okB x.pr=true):(sK x∧x.inputs.list.length≤140737488355328∧x.lines.list.length≤140737488355328)∧ ∀y∈x.inputs.list,y.sides.list.length≤140737488355328:=by
  unfold okB at h;simp only [Bool.and_eq_true,List.all_eq_true,decide_eq_true_eq] at h;obtain⟨⟨⟨h1,h2⟩,h3,h4⟩,h5⟩:=h;refine⟨⟨⟨fun y hy=>?_,fun y hy=>?_⟩,by have:x.pr.inputs.length=x.inputs.list.length:=List.length_map _;omega,by have:x.pr.lines.length=x.lines.list.length:=List.length_map _;omega⟩,fun y hy=>?_⟩
  · obtain⟨a,b⟩:=h1 y.inp (List.mem_map.2 ⟨y,hy,rfl⟩);exact⟨a,fun d hd=>b d.sd (List.mem_map.2 ⟨d,hd,rfl⟩)⟩
  · obtain⟨a,b⟩:=h2 y.ln (List.mem_map.2 ⟨y,hy,rfl⟩);exact⟨a,fun d hd=>b d.it (List.mem_map.2 ⟨d,hd,rfl⟩)⟩
  · have h6:=h5 y.inp (List.mem_map.2 ⟨y,hy,rfl⟩);have h7:y.inp.sides.length=y.sides.list.length:=List.length_map _;omega
theorem parse8_spec:dH Tryz.prog 18 [.string (bs text8)] [] [iA] (fun(x:ProgV)=> .tuple #[.agg #[.slice x.inputs.addr x.inputs.list.length x.inputs.cap,.slice x.lines.addr x.lines.list.length x.lines.cap],.agg #[.int .i64 0,.int .i64 0]]) (fun _=>[]) (fun(x:ProgV)=>[progFct x,Fact.pure (x.pr=bLk)]):=by
  have h:=yJ text8 (by decide);rw [parse8] at h;exact h
theorem at_three_int{β:fG}{n:Nat}{Γ:Env}{H:List bW}{F:List Fact}{Q:Exit→Act→World→Prop}{ops:Array Oper}{rest:List Oper}{o:Oper}{d:Nat}{x y z:Operand}{a b c:Int}(hw:want ops Γ o=some true)(ho:o.op= .buildSlice 30 3 #[(0,x),(1,y),(2,z)])(hd:o.dst=some d)(hn:Nat.blt d n=true)
    (hx:Γ.ev x=some (.int .i64 a)) (hy:Γ.ev y=some (.int .i64 b)) (hz:Γ.ev z=some (.int .i64 c)) (k: ∀b0,At β n ((d,.slice (some ⟨b0,0,none⟩) 3 3)::Γ) (.obj b0 (.cells (cT.all [a,b,c]).toArray 2)::H) F (wpList Tryz.prog ops Q rest)):At β n Γ H F (wpList Tryz.prog ops Q (o::rest)):=by
  obtain⟨i,hi,h0,hs,_⟩:=zI;refine vQ (m:=3) hw ho hd hn (fun A w f=>?_) k
  have:=run_buildSlice (P:=Tryz.prog) w 30 2 3 #[(0,A.eval x),(1,A.eval y),(2,A.eval z)] (cT.all [a,b,c]).toArray i (.int .i64 0) Tryz.underlying30 hi h0 (by omega) (by omega) (by
    rw [f.ev hx,f.ev hy,f.ev hz,hs]
    kernel_rfl)
  simpa using this
theorem two_of{xs:List ArrV}{a b:Arr}(h:xs.map ArrV.arr=[a,b]): ∃p q,xs=[p,q]∧p.arr=a∧q.arr=b:=by
  match xs,h with
  | [p,q],h=>
    simp only [List.map_cons,List.map_nil,List.cons.injEq,and_true] at h;exact⟨p,q,rfl,h.1,h.2⟩
set_option maxRecDepth 100000 in
theorem shown8_spec:dH Tryz.prog 11 [] [] [iA] (fun(_:Unit)=> .bool true) (fun _=>[]) (fun _=>[]):=by
  have hT:=dA;refine cQ Tryz.func11 rfl Tryz.ntmps11 rfl ?_;intro β hM;refine sr<|sp hT ?_;refine nn<|sr<|bO Tryz.func18 parse8_spec rfl rfl .nil ⟨(Has.of mT0),trivial⟩ fun X1=>?_;refine cD (Has.of mT1) fun hpr=>?_;obtain⟨⟨hok,hl1,hl2⟩,hsl⟩:=ok_of (x:=X1) (by rw [hpr];exact ok8);refine bV (jT.sl (.slice X1.inputs.addr X1.inputs.list.length X1.inputs.cap) X1.inputs.list) (Has.left (Has.left (Has.of mT0))) ?_;refine bV (iN X1.inputs.list) (Has.right (Has.left (Has.of mT1))) ?_;refine bV (nR.sl (.slice X1.lines.addr X1.lines.list.length X1.lines.cap) X1.lines.list) (Has.left (Has.right (Has.of mT2))) ?_;refine bV (kL X1.lines.list) (Has.right (Has.right (Has.of mT3))) ?_;refine sp3 hT ?_;refine cE rfl rfl rfl rfl oE rfl fun b2=>?_;refine cE rfl rfl rfl rfl yC rfl fun b3=>?_;refine sto hT kT1 ?_;refine sto hT kT1 ?_;refine nn<|sr<|fT (m:=(3:Int)) rfl rfl rfl rfl rfl fun b4=>?_;refine dL (E:=cT) (xs:=[(3:Int)]) .head (by simp [maxLen]) ?_;refine bX .head ?_;refine at_three_int rfl rfl rfl rfl rfl rfl rfl fun b5=>?_;refine dL (E:=cT) (xs:=[(1:Int),(2:Int),(3:Int)]) .head (by simp [maxLen]) ?_;refine bX .head ?_;refine ss (bY rfl rfl (nW _ _ _ _ _ _)) ?_;refine cE rfl rfl rfl rfl jX rfl fun b6=>?_;refine sto hT .head ?_;refine nn<|bA<|bV (gS (⟨⟨(some ⟨b4,0,none⟩),1,[(3:Int)]⟩,⟨(some ⟨b5,0,none⟩),3,[(1:Int),(2:Int),(3:Int)]⟩⟩:ArrV)) (fJ (Has.of mT1) (Has.of mT0) ⟨Nat.le_refl 1,Nat.le_refl 3⟩) ?_;refine bV (Fact.each [(⟨⟨(some ⟨b4,0,none⟩),1,[(3:Int)]⟩,⟨(some ⟨b5,0,none⟩),3,[(1:Int),(2:Int),(3:Int)]⟩⟩:ArrV)] gS) (Has.each_cons (Has.of mT0) Has.each_nil) ?_;refine bE<|ss (ldN hT (bL kT2)) ?_;refine fT (m:=(3:Int)) rfl rfl rfl rfl rfl fun b7=>?_;refine dL (E:=cT) (xs:=[(3:Int)]) .head (by simp [maxLen]) ?_;refine bX .head ?_;refine ss (ldN hT (bL .head)) ?_;refine iI (m:=(⟨⟨(some ⟨b4,0,none⟩),1,[(3:Int)]⟩,⟨(some ⟨b5,0,none⟩),3,[(1:Int),(2:Int),(3:Int)]⟩⟩:ArrV)) rfl rfl rfl rfl rfl fun b8=>?_;refine dL (E:=kE) (xs:=[(⟨⟨(some ⟨b4,0,none⟩),1,[(3:Int)]⟩,⟨(some ⟨b5,0,none⟩),3,[(1:Int),(2:Int),(3:Int)]⟩⟩:ArrV)]) .head (by simp [maxLen]) ?_;refine bX .head ?_;have ms21:=wP X1 hok hl1 hl2 (some ⟨b7,0,none⟩) (some ⟨b8,0,none⟩) 1 1 [(3:Int)] [(⟨⟨(some ⟨b4,0,none⟩),1,[(3:Int)]⟩,⟨(some ⟨b5,0,none⟩),3,[(1:Int),(2:Int),(3:Int)]⟩⟩:ArrV)] (by decide) (fun a ha=>by rw [List.mem_singleton.1 ha];simp);rw [hpr,show([(⟨⟨(some ⟨b4,0,none⟩),1,[(3:Int)]⟩,⟨(some ⟨b5,0,none⟩),3,[(1:Int),(2:Int),(3:Int)]⟩⟩:ArrV)].map ArrV.arr)=[x8] from rfl,mean8a] at ms21;refine bO Tryz.func14 ms21 rfl rfl .nil ⟨(Has.of vX),(Has.of mT9),(Has.of mT8),(Has.of mT7),(Has.of mT6),(Has.of mT1),(Has.of mT0),(Has.of mT2),trivial⟩ fun⟨A9,c10,xs11⟩=>?_;refine cD (Has.of mT0) fun hxr21=>?_;obtain⟨p,q,rfl,hp,hq⟩:=two_of hxr21;refine sp3 hT ?_;refine cE rfl rfl rfl rfl yC rfl fun b12=>?_;refine sp hT ?_;refine sto hT .head ?_;refine nn<|sr<|ss (ldN hT (bL kT3)) ?_;refine fT (m:=(2:Int)) rfl rfl rfl rfl rfl fun b13=>?_;refine dL (E:=cT) (xs:=[(2:Int)]) .head (by simp [maxLen]) ?_;refine bX .head ?_;refine ss (ldN hT (bL kT1)) ?_;refine iI (m:=(⟨⟨(some ⟨b4,0,none⟩),1,[(3:Int)]⟩,⟨(some ⟨b5,0,none⟩),3,[(1:Int),(2:Int),(3:Int)]⟩⟩:ArrV)) rfl rfl rfl rfl rfl fun b14=>?_;refine dL (E:=kE) (xs:=[(⟨⟨(some ⟨b4,0,none⟩),1,[(3:Int)]⟩,⟨(some ⟨b5,0,none⟩),3,[(1:Int),(2:Int),(3:Int)]⟩⟩:ArrV)]) .head (by simp [maxLen]) ?_;refine bX .head ?_;have ms29:=wP X1 hok hl1 hl2 (some ⟨b13,0,none⟩) (some ⟨b14,0,none⟩) 1 1 [(2:Int)] [(⟨⟨(some ⟨b4,0,none⟩),1,[(3:Int)]⟩,⟨(some ⟨b5,0,none⟩),3,[(1:Int),(2:Int),(3:Int)]⟩⟩:ArrV)] (by decide) (fun a ha=>by rw [List.mem_singleton.1 ha];simp);rw [hpr,show([(⟨⟨(some ⟨b4,0,none⟩),1,[(3:Int)]⟩,⟨(some ⟨b5,0,none⟩),3,[(1:Int),(2:Int),(3:Int)]⟩⟩:ArrV)].map ArrV.arr)=[x8] from rfl,mean8b] at ms29;refine bO Tryz.func14 ms29 rfl rfl .nil ⟨(Has.of (.tail _ (.tail _ (.tail _ (.tail _ (.tail _ (.tail _ (.tail _ (.tail _ (.tail _ (.tail _ (.tail _ (.tail _ (.tail _ (.tail _ (.tail _ (.tail _ (.tail _ mT0)))))))))))))))))),(Has.of bEt),(Has.of mT13),(Has.of vX),(Has.of bEq),(Has.of mT1),(Has.of mT0),(Has.of mT7),trivial⟩ fun⟨A15,c16,xs17⟩=>?_;refine cD (Has.of mT0) fun hxr29=>?_;refine sp3 hT ?_;refine cE rfl rfl rfl rfl yC rfl fun b18=>?_;refine sp hT ?_;refine sto hT .head ?_;refine nn<|sr<|ss (ldN hT (bL kT4)) ?_;have vs:=bKp X1 hl1 hsl (by rw [hpr,sides8];decide);rw [hpr,vars8] at vs;refine bO Tryz.func12 vs rfl rfl .nil ⟨(Has.of (.tail _ (.tail _ (.tail _ (.tail _ (.tail _ (.tail _ (.tail _ (.tail _ (.tail _ (.tail _ (.tail _ (.tail _ (.tail _ (.tail _ (.tail _ (.tail _ (.tail _ mT0)))))))))))))))))),(Has.of (.tail _ (.tail _ (.tail _ (.tail _ (.tail _ (.tail _ (.tail _ (.tail _ (.tail _ (.tail _ (.tail _ (.tail _ (.tail _ (.tail _ (.tail _ (.tail _ mT0))))))))))))))))),trivial⟩ fun⟨VA,Vc⟩=>?_;refine sp hT ?_;refine nn<|bA<|sr<|ss (ldN hT (bL kT3)) ?_;refine ss (bY rfl rfl (vU)) ?_;refine ss (fD ⟨0,0⟩ ⟨0,0⟩ rfl rfl rfl) ?_;refine cH (t':=false) (by first | decide | rfl | simp) ?_;refine sp hT ?_;refine ss (ldN hT (bL kT1)) ?_;refine ss (bY rfl rfl (vU)) ?_;refine ss (fD ⟨0,0⟩ ⟨0,0⟩ rfl rfl rfl) ?_;refine cH (t':=false) (by first | decide | rfl | simp) ?_;refine sp4 hT ?_;refine sp hT ?_;refine cH (t':=false) (show((((2:Nat):Int)) !=2)=false from rfl) ?_;refine sp4 hT ?_;refine sp hT ?_;refine cH (t':=false) (show((((1:Nat):Int)) !=1)=false from rfl) ?_;refine sp3 hT ?_;refine ss (bS hT (k:=0) (bJ (Has.of mT0)) rfl rfl rfl rfl rfl rfl rfl (by simp)) ?_;refine ss (bZ hT (cR.knows (bJ (Has.of mT0)) (k:=0) (x:=([110]:Bs)) rfl 0) rfl rfl rfl rfl rfl) ?_;refine sp hT ?_;refine cH (t':=false) (by first | decide | rfl | simp) ?_;refine sp hT ?_;refine nn<|cN rfl rfl ?_;refine bK<|bB<|sr<|sp hT ?_;refine ss (bS hT (k:=1) (bJ (Has.of mT8)) rfl rfl rfl rfl rfl rfl rfl (by simp)) ?_;refine ss (dP hT (cR.knows (bJ (Has.of mT8)) (k:=1) (x:=q) rfl 0) rfl rfl rfl rfl rfl) ?_;refine fT (m:=(36:Int)) rfl rfl rfl rfl rfl fun b19=>?_;refine dL (E:=cT) (xs:=[(36:Int)]) .head (by simp [maxLen]) ?_;refine bX .head ?_;refine ss (bY rfl rfl (rS _ _ _)) ?_;refine bV (gS q) (Has.each (Has.of mT10) mT1) ?_;have hq1:q.sides.list=[]:=congrArg Arr.sides hq;have hq2:q.data.list=[36]:=congrArg Arr.data hq;refine bO Tryz.func19 (bIz q (⟨⟨none,0,[]⟩,⟨(some ⟨b19,0,none⟩),1,[(36:Int)]⟩⟩:ArrV) (by rw [hq1];decide) (by rw [hq2];decide)) rfl rfl .nil ⟨jM (Has.of mT0),kS (Has.of mT0),sN,(Has.of mT1),trivial⟩ fun _=>?_;refine cH (t':=true) (decide_eq_true hq) ?_;refine sp hT ?_;refine ss (ldN hT (bL .head)) ?_;refine ss (bY rfl rfl (tZ _ _)) ?_;refine ss (bEc ⟨3,82⟩ ⟨3,82⟩ rfl rfl rfl) ?_;refine cH (t':=true) (by first | decide | rfl | simp) ?_;refine sp2 hT ?_;refine nn<|bG ?_;exact bR () rfl (bD rfl) .nil trivial (rfl)
end Go.Proofs.YtbgdphbebhjpiaaGreatDoor
namespace Go.Proofs.YtbgdphbebhjpiaaGreatDoor
open Go.RowKit
abbrev bHm:List (String×DataW Unit):=Rows.meanVarsRow.laid
theorem vM{P:Program}{W:World}{name:String}{k:IntKind}{zs:List Int}{g:Nat}{t e:TypeId}{n:Nat}
    (hg:P.globalNamed name=some g) (hty:(P.globals[g]?).map (·.type)=some t) (ht:P.underlying t=some (.array n e)) (he:P.underlying e=some (.int k)) (hce:P.cellsOf e=1) (hct:P.cellsOf t=n)
    (h:Lib.VarReads P W name (Lib.tabData k zs)):Lib.TabIs P W name k zs:=by
  obtain⟨g',t',cs,fuel,p,hg',ht',hvar,hd⟩:=h;obtain rfl:=Option.some.inj (hg.symm.trans hg');obtain rfl:=Option.some.inj (hty.symm.trans ht');unfold Lib.TabIs;rw [hvar,←Lib.cells_of_tab ht he hce hct hd]
theorem var_lt{P:Program}{W:World}{name:String}{g:Nat}{cs:Array Value}(hg:P.globalNamed name=some g)(h:W.var? P name=some cs):g<W.heap.size:=by
  unfold World.var? at h;rw [hg] at h;simp only [Option.bind_some] at h
  cases hh:W.heap[g]? with
  | none=>rw [hh] at h;cases h
  | some o=>exact(Array.getElem?_eq_some_iff.1 hh).1
theorem cell_lt'{W:World}{g i:Nat}{v:Value}(h:W.cell? ⟨g,i,none⟩=some v):g<W.heap.size:=by
  unfold World.cell? at h
  cases hh:W.heap[g]? with
  | none=>rw [hh] at h;cases h
  | some o=>exact(Array.getElem?_eq_some_iff.1 hh).1
set_option maxRecDepth 1000000 in
theorem globF_of{W:World}(hL:laidMetH Tryz.prog bHm W)(hsh:W.ShapedOpen Tryz.prog):iA.p (fun b=>b<W.heap.size) W:=by
  have hL':laidMet Tryz.prog bHm W:=hL;have h0:Lib.TabIs Tryz.prog W "strings.asciiSpace" .u8 Lib.asciiSpaceTab:=vM (t:=273) (e:=5) (n:=256) named0 (by kernel_rfl) Tryz.underlying273 Tryz.underlying5 (by kernel_rfl) (by kernel_rfl)
    (Lib.laidMet.reads hL' (.tail _ (.tail _ (.tail _ (.tail _ (.tail _ (.tail _ (.tail _ (.head _)))))))))
  have h7:Lib.TabIs Tryz.prog W "internal/strconv.uint64pow10" .u64 Lib.pow10Tab:=vM (t:=386) (e:=243) (n:=20) named7 (by kernel_rfl) Tryz.underlying386 Tryz.underlying243 (by kernel_rfl) (by kernel_rfl)
    (Lib.laidMet.reads hL' (.tail _ (.tail _ (.head _))))
  obtain⟨m,h4⟩:=cell_of_shapedOpen_int (P:=Tryz.prog) (g:=0) (t:=3) (zero:= #[.int .i64 0]) hsh (of_decide_eq_true (by kernel_rfl)) (by kernel_rfl) rfl (by kernel_rfl) (by kernel_rfl) Tryz.underlying3;obtain⟨g',t',cs,fuel,p,hg',ht',hvar,hd⟩:=Lib.laidMet.reads hL' (n:= "strconv.ErrRange") (.tail _ (.tail _ (.tail _ (.tail _ (.head _)))));have hnE:Tryz.prog.globalNamed "strconv.ErrRange" =some 4:=by kernel_rfl
  obtain rfl:=Option.some.inj (hnE.symm.trans hg');obtain rfl:253=t':=Option.some.inj ((show(Tryz.prog.globals[4]?).map (·.type)=some 253 by kernel_rfl).symm.trans ht');obtain⟨f',u,v,hcs,_,_⟩:=iface_of_trod Tryz.underlying253 hd
  have hcs':cs= #[.iface u v]:=by
    cases cs;simp only at hcs;rw [hcs]
  subst hcs';have h3:W.cell? ⟨4,0,none⟩=some (.iface u v):=by simpa using World.var?_cell hnE hvar 0
  exact⟨⟨var_lt named0 h0,var_lt named7 h7,cell_lt' h4,cell_lt' h3⟩,h0,h7,⟨m,h4⟩,_,h3,.inr ⟨u,v,rfl⟩⟩
def flat1:DataW Unit→List Value
  | .lit (.int k n)=>[.int k n]
  | _=>[]
def flat2:DataW Unit→List Value
  | .agg l=>l.flatMap flat1
  | d=>flat1 d
def bLu:DataW Unit→Array Value
  | .agg l=>(l.flatMap flat2).toArray
  | _=> #[]
def whiteNums:List Int:=[9,13,1,32,133,101,160,5760,5600,8192,8202,1,8232,8233,1,8239,8287,48,12288,12288,1]
noncomputable def laidWorld (os:Os):World:=
  let N:=(World.settled Tryz.prog os).heap.size
  let w0:=World.holding Tryz.prog os ⟨#[.cells (whiteNums.map fun z=>Value.int .u16 z).toArray 338,.cells #[.slice (some ⟨N,0,none⟩) 7 7,.slice none 0 0,.int .i64 2] 335,
    .cells #[.string ⟨#[118,97,108,117,101,32,111,117,116,32,111,102,32,114,97,110,103,101]⟩] 374,.cells #[.string ⟨#[105,110,118,97,108,105,100,32,115,121,110,116,97,120]⟩] 374],#[],[]⟩
  let put (h:Array Obj) (g:Nat) (cs:Array Value):Array Obj:=h.modify g fun
    | .cells _ t frozen=> .cells cs t frozen
    | o=>o
  let h1:=put w0.heap 8 (bLu Rows.laid_math_bits_deBruijn32tab)
  let h2:=put h1 9 (bLu Rows.laid_math_bits_deBruijn64tab)
  let h3:=put h2 7 (bLu Rows.laid_internal_strconv_uint64pow10)
  let h4:=put h3 6 (bLu Rows.laid_unicode_utf8_acceptRanges)
  let h5:=put h4 4 #[.iface 372 (.pointer (some ⟨N+2,0,none⟩))]
  let h6:=put h5 3 #[.iface 372 (.pointer (some ⟨N+3,0,none⟩))]
  let h7:=put h6 2 #[.pointer (some ⟨N+1,0,none⟩)]
  let h8:=put h7 1 (bLu Rows.laid_strings_asciiSpace)
  let h9:=put h8 5 (bLu Rows.laid_unicode_utf8_first)
  {w0 with heap:=h9}
noncomputable abbrev N0:Nat:=(World.settled Tryz.prog default).heap.size
set_option maxRecDepth 1000000 in
theorem piece0(os:Os)(args:Array Value):LaidIn Tryz.prog ((laidWorld os).forCall (fun _ _=>0) ⟨#[],args,[]⟩).memory [("math/bits.deBruijn32tab",Rows.laid_math_bits_deBruijn32tab)] [8]:=
  LaidIn.of_run [8] 10 (by kernel_rfl) (by kernel_rfl) (by kernel_rfl) (by kernel_rfl)
set_option maxRecDepth 1000000 in
theorem piece1(os:Os)(args:Array Value):LaidIn Tryz.prog ((laidWorld os).forCall (fun _ _=>0) ⟨#[],args,[]⟩).memory [("math/bits.deBruijn64tab",Rows.laid_math_bits_deBruijn64tab)] [9]:=
  LaidIn.of_run [9] 10 (by kernel_rfl) (by kernel_rfl) (by kernel_rfl) (by kernel_rfl)
set_option maxRecDepth 1000000 in
theorem piece2(os:Os)(args:Array Value):LaidIn Tryz.prog ((laidWorld os).forCall (fun _ _=>0) ⟨#[],args,[]⟩).memory [("internal/strconv.uint64pow10",Rows.laid_internal_strconv_uint64pow10)] [7]:=
  LaidIn.of_run [7] 10 (by kernel_rfl) (by kernel_rfl) (by kernel_rfl) (by kernel_rfl)
set_option maxRecDepth 1000000 in
theorem piece3(os:Os)(args:Array Value):LaidIn Tryz.prog ((laidWorld os).forCall (fun _ _=>0) ⟨#[],args,[]⟩).memory [("unicode/utf8.acceptRanges",Rows.laid_unicode_utf8_acceptRanges)] [6]:=
  LaidIn.of_run [6] 10 (by kernel_rfl) (by kernel_rfl) (by kernel_rfl) (by kernel_rfl)
set_option maxRecDepth 1000000 in
theorem piece4(os:Os)(args:Array Value):LaidIn Tryz.prog ((laidWorld os).forCall (fun _ _=>0) ⟨#[],args,[]⟩).memory [("strconv.ErrRange",Rows.laid_strconv_ErrRange)] [4,N0+2]:=
  LaidIn.of_run [4,N0+2] 10 (by kernel_rfl) (by kernel_rfl) (by kernel_rfl) (by kernel_rfl)
set_option maxRecDepth 1000000 in
theorem piece5(os:Os)(args:Array Value):LaidIn Tryz.prog ((laidWorld os).forCall (fun _ _=>0) ⟨#[],args,[]⟩).memory [("strconv.ErrSyntax",Rows.laid_strconv_ErrSyntax)] [3,N0+3]:=
  LaidIn.of_run [3,N0+3] 10 (by kernel_rfl) (by kernel_rfl) (by kernel_rfl) (by kernel_rfl)
set_option maxRecDepth 1000000 in
theorem piece6(os:Os)(args:Array Value):LaidIn Tryz.prog ((laidWorld os).forCall (fun _ _=>0) ⟨#[],args,[]⟩).memory [("unicode.White_Space",Rows.laid_unicode_White_Space)] [2,N0,N0+1]:=
  LaidIn.of_run [2,N0,N0+1] 10 (by kernel_rfl) (by kernel_rfl) (by kernel_rfl) (by kernel_rfl)
set_option maxRecDepth 1000000 in
theorem piece7(os:Os)(args:Array Value):LaidIn Tryz.prog ((laidWorld os).forCall (fun _ _=>0) ⟨#[],args,[]⟩).memory [("strings.asciiSpace",Rows.laid_strings_asciiSpace)] [1]:=
  LaidIn.of_run [1] 10 (by kernel_rfl) (by kernel_rfl) (by kernel_rfl) (by kernel_rfl)
set_option maxRecDepth 1000000 in
theorem piece8(os:Os)(args:Array Value):LaidIn Tryz.prog ((laidWorld os).forCall (fun _ _=>0) ⟨#[],args,[]⟩).memory [("unicode/utf8.first",Rows.laid_unicode_utf8_first)] [5]:=
  LaidIn.of_run [5] 10 (by kernel_rfl) (by kernel_rfl) (by kernel_rfl) (by kernel_rfl)
set_option maxRecDepth 1000000 in
theorem laid_met(os:Os)(args:Array Value):laidMet Tryz.prog bHm ((laidWorld os).forCall (fun _ _=>0) ⟨#[],args,[]⟩).memory:=
  (((((((((piece0 os args).append (piece1 os args) (by kernel_rfl)).append (piece2 os args) (by kernel_rfl)).append (piece3 os args) (by kernel_rfl)).append (piece4 os args) (by kernel_rfl)).append (piece5 os args) (by kernel_rfl)).append (piece6 os args) (by kernel_rfl)).append (piece7 os args) (by kernel_rfl)).append (piece8 os args) (by kernel_rfl)).met
end Go.Proofs.YtbgdphbebhjpiaaGreatDoor
namespace Go.Proofs.YtbgdphbebhjpiaaGreatDoor
open Go.RowKit Go.ChangeShapes Go.WideShapes
section
variable {H : Type} {enc : TypeId × Value → H} {P : Program}
theorem xN(hl:laidOutB P=true){W W':World}(hb:Below W.heap.size W W'): ∀{ts:List TypeId} {vs:List Value} {ds:List (DataW H)} {ps:List MemPlace},
    (∀t∈ts,P.readableRec t=true∧t<P.types.size)→(∀x∈ps,x.block<W.heap.size)→DataW.TrodAll enc P W 0 (fun _=>true) true ts vs ds ps→
    DataW.TrodAll enc P W' 0 (fun b=>decide (b<W.heap.size)) true ts vs ds ps
  | [],_,_,_,_,_,h=>by
    obtain⟨rfl,rfl,rfl⟩:=trodAll_nil h;exact trodAll_mk0
  | t::ts,_,_,_,ht,hlt,h=>by
    obtain⟨v,vs,d,ds,p,q,rfl,rfl,rfl,h1,h2⟩:=trodAll_cons h;have hr:=ht t (by simp);exact trodAll_cons_mk (Below.trod hl hr.1 hr.2 h1 hb (fun x hx=>hlt x (by simp [hx]))) (xN hl hb (fun t h=>ht t (by simp [h])) (fun x hx=>hlt x (by simp [hx])) h2)
theorem law_post{f:Func}{s:ChangeSpec}{W W':World}{args:Array Value}{ds:List (DataW H)}{before:List MemPlace}{tb:TypeId}
    (hW:DataW.Whole enc P f.params.toList s.vars false W args.toList ds [] before) (hv:s.vars=[]) (hfn:s.fn H (ds++[])={results:=[.lit (.bool true)],args:=ds})
    (hr:f.resultTypes= #[tb]) (hb:P.underlying tb=some .bool) (hl:laidOutB P=true) (hread: ∀t∈f.params.toList,P.readableRec t=true∧t<P.types.size) (h:Below W.heap.size W W'):
    s.post enc P f false true false false W args (.bool true) W':=by
  have hlt: ∀p∈before,p.block<W.heap.size:=fun p hp=>hW.lt p hp;have hW':=hW;obtain⟨p,q,hA,hV,rfl,_,_⟩:=hW;rw [hv] at hV;have hq:q=[]:=hV;subst hq;refine⟨ds,[],_,[],p,[],hW',?_,?_,?_,?_,fun h=>by cases h⟩
  · rw [hfn,hr];exact trodAll_mk1 (shut_bool hb true)
  · rw [hfn];exact xN hl h hread (fun x hx=>hlt x (by simp [hx])) hA
  · rw [hfn,hv];rfl
  · exact h.frame _
end
theorem bKb{ι:Type}{f:FuncId}{args:List Value}{Pre:List Fact}{v:Value}(h:dH Tryz.prog f args [] Pre (fun _:ι=>v) (fun _=>[]) (fun _=>[])){w:World}(hp:All Pre (fun b=>b<w.heap.size) w):
    Calls Tryz.prog f args.toArray w fun e w'=>e= .returned v∧Below w.heap.size w w':=by
  refine(h (fun b=>b<w.heap.size) w ⟨nL.refl _ _,fun c hc=>by simp at hc,fun c hc=>by simp at hc,List.Pairwise.nil,fun b hb=>⟨hb,.inl hb⟩⟩ hp).mono ?_;rintro e w' ⟨_,_,rfl,s,_⟩;refine⟨rfl,s.kept.os,s.kept.tape,s.kept.output,s.kept.size,fun k hk=>s.kept.block k hk fun⟨c,hc,_⟩=>by simp at hc⟩
theorem own:ownKnob Tryz.prog.godebug=none:=by kernel_rfl
theorem laid:laidOutB Tryz.prog=true:=by kernel_rfl
end Go.Proofs.YtbgdphbebhjpiaaGreatDoor
namespace Go.Proofs.YtbgdphbebhjpiaaGreatDoor
open Go.RowKit Go.ChangeShapes Go.WideShapes
structure CaseV where
  p:ProgV
  dims:(Sl Int)
  ins:(Sl ArrV)
  deriving Inhabited
def caseT:Tab:=[(3,⟨.int .i64,1⟩),(2,⟨.int .i64,1⟩),(5,⟨.int .u8,1⟩),(9,⟨.string,1⟩),(4,⟨.bool,1⟩),(50,⟨.int .u8,1⟩),(34,⟨.int .i64,1⟩),(30,⟨.slice 2,1⟩),(27,⟨.slice 9,1⟩),(104,⟨.struct [(3,0),(3,1),(9,2),(2,3)],4⟩),(97,⟨.slice 104,1⟩),(36,⟨.struct [(3,0),(34,1)],2⟩),(63,⟨.struct [(9,0),(2,1)],2⟩),(59,⟨.slice 63,1⟩),(61,⟨.struct [(9,0),(3,1),(59,2)],3⟩),(22,⟨.slice 61,1⟩),(52,⟨.struct [(3,0),(3,1),(50,2),(9,3),(30,4)],5⟩),(47,⟨.slice 52,1⟩),(49,⟨.struct [(9,0),(3,1),(47,2)],3⟩),(23,⟨.slice 49,1⟩),(25,⟨.struct [(22,0),(23,1)],2⟩),(102,⟨.struct [(97,0),(3,1),(3,2)],3⟩),(42,⟨.struct [(30,0),(30,1)],2⟩),(31,⟨.slice 42,1⟩),(189,⟨.slice 30,1⟩),(33,⟨.struct [(25,0),(30,2),(31,3)],4⟩),(100,⟨.other,1⟩),(208,⟨.slice 1,1⟩),(1,⟨.other,1⟩),(196,⟨.other,1⟩),(80,⟨.other,1⟩),(247,⟨.other,1⟩),(248,⟨.slice 247,1⟩),(243,⟨.int .u64,1⟩),(78,⟨.map 9 4,1⟩),(85,⟨.map 9 42,1⟩),(244,⟨.other,1⟩),(246,⟨.struct [(244,0),(34,1)],2⟩),(87,⟨.struct [(85,0),(3,1)],2⟩),(44,⟨.array 4 9,4⟩)]
theorem caseT_ok:gA Tryz.prog caseT:=vP.ok
  ⟨⟨by rw [Tryz.underlying3];rfl,by kernel_rfl⟩,
    ⟨by rw [Tryz.underlying2];rfl,by kernel_rfl⟩,
    ⟨by rw [Tryz.underlying5];rfl,by kernel_rfl⟩,
    ⟨by rw [Tryz.underlying9];rfl,by kernel_rfl⟩,
    ⟨by rw [Tryz.underlying4];rfl,by kernel_rfl⟩,
    ⟨by rw [Tryz.underlying50];rfl,by kernel_rfl⟩,
    ⟨by rw [Tryz.underlying34];rfl,by kernel_rfl⟩,
    ⟨by rw [Tryz.underlying30];rfl,by kernel_rfl⟩,
    ⟨by rw [Tryz.underlying27];rfl,by kernel_rfl⟩,
    ⟨by rw [Tryz.underlying104];rfl,by kernel_rfl⟩,
    ⟨by rw [Tryz.underlying97];rfl,by kernel_rfl⟩,
    ⟨by rw [Tryz.underlying36];rfl,by kernel_rfl⟩,
    ⟨by rw [Tryz.underlying63];rfl,by kernel_rfl⟩,
    ⟨by rw [Tryz.underlying59];rfl,by kernel_rfl⟩,
    ⟨by rw [Tryz.underlying61];rfl,by kernel_rfl⟩,
    ⟨by rw [Tryz.underlying22];rfl,by kernel_rfl⟩,
    ⟨by rw [Tryz.underlying52];rfl,by kernel_rfl⟩,
    ⟨by rw [Tryz.underlying47];rfl,by kernel_rfl⟩,
    ⟨by rw [Tryz.underlying49];rfl,by kernel_rfl⟩,
    ⟨by rw [Tryz.underlying23];rfl,by kernel_rfl⟩,
    ⟨by rw [Tryz.underlying25];rfl,by kernel_rfl⟩,
    ⟨by rw [Tryz.underlying102];rfl,by kernel_rfl⟩,
    ⟨by rw [Tryz.underlying42];rfl,by kernel_rfl⟩,
    ⟨by rw [Tryz.underlying31];rfl,by kernel_rfl⟩,
    ⟨by rw [Tryz.underlying189];rfl,by kernel_rfl⟩,
    ⟨by rw [Tryz.underlying33];rfl,by kernel_rfl⟩,
    ⟨by rw [Tryz.underlying100];rfl,by kernel_rfl⟩,
    ⟨by rw [Tryz.underlying208];rfl,by kernel_rfl⟩,
    ⟨by rw [Tryz.underlying1];rfl,by kernel_rfl⟩,
    ⟨by rw [Tryz.underlying196];rfl,by kernel_rfl⟩,
    ⟨by rw [Tryz.underlying80];rfl,by kernel_rfl⟩,
    ⟨by rw [Tryz.underlying247];rfl,by kernel_rfl⟩,
    ⟨by rw [Tryz.underlying248];rfl,by kernel_rfl⟩,
    ⟨by rw [Tryz.underlying243];rfl,by kernel_rfl⟩,
    ⟨by rw [Tryz.underlying78];rfl,by kernel_rfl⟩,
    ⟨by rw [Tryz.underlying85];rfl,by kernel_rfl⟩,
    ⟨by rw [Tryz.underlying244];rfl,by kernel_rfl⟩,
    ⟨by rw [Tryz.underlying246];rfl,by kernel_rfl⟩,
    ⟨by rw [Tryz.underlying87];rfl,by kernel_rfl⟩,
    ⟨by rw [Tryz.underlying44];rfl,by kernel_rfl⟩,trivial⟩
end Go.Proofs.YtbgdphbebhjpiaaGreatDoor
namespace Go.Proofs.YtbgdphbebhjpiaaGreatDoor
open Go.RowKit
theorem arr_of{a:ArrV}{S:Nat→Prop}{w:World}(h:(arrTy.deep a).p S w):(gS a).p S w∧a.sides.list.length≤17592186044416∧a.data.list.length≤17592186044416:=by
  obtain⟨⟨⟨⟨s1,_⟩,s2⟩,s3⟩,⟨⟨⟨d1,_⟩,d2⟩,d3⟩,_⟩:=h;have s2:a.sides.list.length*8≤140737488355328:=s2;have d2:a.data.list.length*8≤140737488355328:=d2;exact⟨⟨⟨s1,d1⟩,s3,d3⟩,by omega,by omega⟩
structure CaseOk (x:CaseV):Prop where
  ok:sK x.p
  l1:x.p.inputs.list.length≤140737488355328
  l2:x.p.lines.list.length≤2932031007403
  dims:x.dims.list.length≤17592186044416
  ins:x.ins.list.length≤2932031007403
  arr: ∀a∈x.ins.list,a.sides.list.length≤17592186044416∧a.data.list.length≤17592186044416
  items: ∀l∈x.p.lines.list,l.items.list.length≤2199023255552
  cap:x.p.lines.list.length≤x.p.lines.cap
theorem CaseOk.hdl{x:CaseV}(h:CaseOk x):x.dims.list.length≤140737488355328:=Nat.le_trans h.dims (by decide)
theorem CaseOk.hI{x:CaseV}(h:CaseOk x): ∀a∈x.ins.list,a.sides.list.length≤140737488355328:=fun a ha=>Nat.le_trans (h.arr a ha).1 (by decide)
theorem bFp{p:Prog}{dims:List Int}{ins:List Arr}{xs:List ArrV}(h:xs.map ArrV.arr=(gB p dims ins).1):xs.length≤64∧ ∀a∈xs,a.sides.list.length≤4∧a.data.list.length≤65536:=by
  have hl:xs.length=(xs.map ArrV.arr).length:=(List.length_map _).symm
  by_cases e:(gB p dims ins).2.2=0
  · obtain⟨h0,h1,h2⟩:=xR.1 e
    have hr:(dS p).2=true:=by
      cases hr:(dS p).2 with
      | true=>rfl
      | false=>
        have:gB p dims ins=([],(0,50)):=by
          have hb:dZ p dims ins=([],(0,50)):=by
            unfold dZ;rw [hr];rfl
          unfold gB;rw [hb];rfl
        rw [this] at e;cases e
    refine⟨?_,fun a ha=>?_⟩
    · rw [hl,h,h1];exact(uR hr).lns
    · have:=h2 a.arr (by rw [←h];exact List.mem_map.2 ⟨a,ha,rfl⟩);exact⟨iG this,hO this⟩
  · have e1:=xR.2 (fun k=>e (congrArg Prod.snd k));rw [e1] at h;have:xs=[]:=List.map_eq_nil_iff.1 h;subst this;exact⟨by simp,fun a ha=>by simp at ha⟩
theorem mean_big{p:Prog}{dims:List Int}{ins:List Arr}{xs:List ArrV}(h:xs.map ArrV.arr=(gB p dims ins).1): ∀a∈xs,a.sides.list.length≤140737488355328∧a.data.list.length≤140737488355328:=fun a ha=>⟨Nat.le_trans ((bFp h).2 a ha).1 (by decide),Nat.le_trans ((bFp h).2 a ha).2 (by decide)⟩
end Go.Proofs.YtbgdphbebhjpiaaGreatDoor
namespace Go.Proofs.YtbgdphbebhjpiaaGreatDoor
open Go.RowKit
def fourK:List Bs:=[[32,107],[32,108],[32,109],[32,110]]
section
variable {β : fG} {n : Nat} {Γ : Env} {H : List bW} {F : List Fact} {o : Oper}
theorem built_four:Tryz.prog.built 44 [(0,.string (bs [32,107])),(1,.string (bs [32,108])),(2,.string (bs [32,109])),(3,.string (bs [32,110]))]=some #[.string (bs [32,107]),.string (bs [32,108]),.string (bs [32,109]),.string (bs [32,110])]:=by kernel_rfl
theorem tI{a b c d:Bs}{w:World}:(Instr.index 44 (.agg #[.string (bs a),.string (bs b),.string (bs c),.string (bs d)]) (.int .i64 ((0:Nat):Int))).run Tryz.prog w= .ok (.string (bs a)) w∧(Instr.index 44 (.agg #[.string (bs a),.string (bs b),.string (bs c),.string (bs d)]) (.int .i64 ((1:Nat):Int))).run Tryz.prog w= .ok (.string (bs b)) w∧
    (Instr.index 44 (.agg #[.string (bs a),.string (bs b),.string (bs c),.string (bs d)]) (.int .i64 ((2:Nat):Int))).run Tryz.prog w= .ok (.string (bs c)) w∧(Instr.index 44 (.agg #[.string (bs a),.string (bs b),.string (bs c),.string (bs d)]) (.int .i64 ((3:Nat):Int))).run Tryz.prog w= .ok (.string (bs d)) w:=
  ⟨by kernel_rfl,by kernel_rfl,by kernel_rfl,by kernel_rfl⟩
theorem sti_four_str{x i:Operand}{y:Bs}{k:Nat}(ho:o.op= .index 44 x i)(hx:Γ.ev x=some (.agg #[.string (bs [32,107]),.string (bs [32,108]),.string (bs [32,109]),.string (bs [32,110])]))(hi:Γ.ev i=some (.int .i64 (k:Nat)))(hk:fourK[k]?=some y):Sti Tryz.prog β n Γ H F o (.string (bs y)):=fun c w S f s _=>by
  have e:(Instr.index 44 (.agg #[.string (bs [32,107]),.string (bs [32,108]),.string (bs [32,109]),.string (bs [32,110])]) (.int .i64 (k:Nat))).run Tryz.prog w= .ok (.string (bs y)) w:=by
    match k,hk with
    | 0,hk=>
      obtain rfl:[32,107]=y:=by simpa [fourK] using hk
      exact tI.1
    | 1,hk=>
      obtain rfl:[32,108]=y:=by simpa [fourK] using hk
      exact tI.2.1
    | 2,hk=>
      obtain rfl:[32,109]=y:=by simpa [fourK] using hk
      exact tI.2.2.1
    | 3,hk=>
      obtain rfl:[32,110]=y:=by simpa [fourK] using hk
      exact tI.2.2.2
  unfold execOp;simp only [ho,f.ev hx,f.ev hi];rw [Sem.run_bind,e];rfl
end
theorem inB_step{i:Nat}{c:Bs}(h:fourK[i]?=some c):inB i++c=inB (i+1):=by
  match i,h with
  | 0,h=>
    obtain rfl:[32,107]=c:=by simpa [fourK] using h
    rfl
  | 1,h=>
    obtain rfl:[32,108]=c:=by simpa [fourK] using h
    rfl
  | 2,h=>
    obtain rfl:[32,109]=c:=by simpa [fourK] using h
    rfl
  | 3,h=>
    obtain rfl:[32,110]=c:=by simpa [fourK] using h
    rfl
theorem four_len{i:Nat}{c:Bs}(h:fourK[i]?=some c):c.length=2:=by
  have:=List.mem_of_getElem? h;simp only [fourK,List.mem_cons,List.not_mem_nil,or_false] at this
  rcases this with rfl | rfl | rfl | rfl<;>rfl
theorem sL: ∀i,(inB i).length≤12
  | 0=>by decide
  | 1=>by decide
  | 2=>by decide
  | 3=>by decide
  | i+4=>by
    have:bGy.take (i+4)=bGy:=List.take_of_length_le (by simp [bGy]);unfold inB;rw [this];decide
theorem bNf{j:Nat}{a b:Bs}(ha:a.length≤1000)(hb:b.length≤1000):(oQ j a b).length≤140737488355328∧(mV j a b).length≤140737488355328:=by
  have:=sL j;constructor
  · simp [oQ,tY,tOutY];omega
  · simp [mV,tOutO,tClose];omega
theorem take_step{l ds:List Int}{i:Nat}{z:Int}(h:ds=l.take i)(hz:l[i]?=some z):ds++[z]=l.take (i+1):=by
  obtain⟨hi,e⟩:=List.getElem?_eq_some_iff.1 hz;rw [h,List.take_succ_eq_append_getElem hi,e]
theorem two_lines{X:ProgV}{l1 l2:lK}(h:X.pr.lines=[l1,l2]): ∃v1 v2,X.lines.list=[v1,v2]∧v2.ln=l2:=by
  have h:X.lines.list.map LineV.ln=[l1,l2]:=h
  match hx:X.lines.list,h with
  | [v1,v2],h=>
    simp only [List.map_cons,List.map_nil,List.cons.injEq,and_true] at h;exact⟨v1,v2,rfl,h.2⟩
theorem one_line'{X:ProgV}{m:lK}(h:X.pr.lines=[m]):X.lines.list.length=1:=by
  have h:X.lines.list.map LineV.ln=[m]:=h;have:=congrArg List.length h
  simpa using this
theorem items_of{v:LineV}{l:lK}{x:dN}{V:List dN}(h:v.ln=l)(hi:l.items=x::V): ∃y ys,v.items.list=y::ys∧ys.map ItemV.it=V:=by
  subst h;have hi:v.items.list.map ItemV.it=x::V:=hi
  match hx:v.items.list,hi with
  | y::ys,hi=>
    simp only [List.map_cons,List.cons.injEq] at hi;exact⟨y,ys,rfl,hi.2⟩
theorem names_out{ys:List ItemV}{V:List dN}(h:ys.map ItemV.it=V)(hn: ∀y∈ys,y.name≠[121]): ∀y∈V,y.name≠[121]:=fun y hy=>by
  rw [←h] at hy;obtain⟨z,hz,rfl⟩:=List.mem_map.1 hy;exact hn z hz
theorem all_take'{α:Type}{p:α→Prop}{l:List α}{i:Nat}{x:α}(h: ∀y∈l.take i,p y)(hx:l[i]?=some x)(px:p x): ∀y∈l.take (i+1),p y:=fun y hy=>by
  obtain⟨hi,e⟩:=List.getElem?_eq_some_iff.1 hx;rw [List.take_succ_eq_append_getElem hi,e] at hy
  rcases List.mem_append.1 hy with hy | hy
  · exact h y hy
  · rw [List.mem_singleton.1 hy];exact px
theorem all_whole'{α:Type}{p:α→Prop}{l:List α}{i:Nat}(h: ∀y∈l.take i,p y)(hi:l.length≤i): ∀y∈l,p y:=by rwa [List.take_of_length_le hi] at h
theorem arrs_two{xs:List ArrV}{v r:Arr}(h:xs.map ArrV.arr=[v,r]): ∃u1 u2,xs=[u1,u2]∧u2.arr=r:=by
  match xs,h with
  | [u1,u2],h=>
    simp only [List.map_cons,List.map_nil,List.cons.injEq,and_true] at h;exact⟨u1,u2,rfl,h.2⟩
theorem arrs_one{xs:List ArrV}{r:Arr}(h:xs.map ArrV.arr=[r]): ∃w1,xs=[w1]∧w1.arr=r:=by
  match xs,h with
  | [w1],h=>
    simp only [List.map_cons,List.map_nil,List.cons.injEq,and_true] at h;exact⟨w1,rfl,h⟩
theorem names_code{f g:Flt}(h:f.2=g.2∨f.2=84)(h2:(f.2==g.2)=false):(f.2==84)=true:=by
  rcases h with h | h
  · rw [h] at h2;simp at h2
  · rw [h];rfl
end Go.Proofs.YtbgdphbebhjpiaaGreatDoor
namespace Go.Proofs.YtbgdphbebhjpiaaGreatDoor.meanNames
open Go.ChangeShapes Go.WideShapes Go.ChangeAt Go.RowKit
set_option maxRecDepth 100000 in
theorem law_spec(a b:Bs)(x:ArrV)(hal:a.length≤140737488355328)(hbl:b.length≤140737488355328)(hxs:x.sides.list.length≤140737488355328):dH Tryz.prog 5 [.string (bs a),.string (bs b),.agg #[.slice x.sides.addr x.sides.list.length x.sides.cap,.slice x.data.addr x.data.list.length x.data.cap]] [] [iA,gS x] (fun(_:Unit)=> .bool true) (fun _=>[]) (fun _=>[]):=by
  have hT:=caseT_ok;refine cQ Tryz.func5 rfl Tryz.ntmps5 rfl ?_;intro β hM;refine sr<|fL rfl rfl rfl rfl rfl rfl fun b1=>?_;refine sp hT ?_;refine nn<|sr<|bO Tryz.func11 (shown8_spec) rfl rfl .nil ⟨Has.of mT0,trivial⟩ fun _=>?_;refine sp hT ?_;refine nn<|bA<|sr<|sp2 hT ?_;refine bP (z':=((a.length:Nat):Int)) rfl ?_;refine sp2 hT ?_;refine cF (fun hg24=>?_) (fun hg24=>?_)
  · have hg24:=of_decide_eq_true hg24;refine sk3 ?_;refine sp2 hT ?_;refine sk3 ?_;refine sp hT ?_;refine nn<|cI rfl rfl ?_;refine sr<|sp2 hT ?_;refine nn<|bG<|bC ?_;exact bR () rfl (bD rfl) .nil trivial (rfl)
  have hg24:=Int.not_lt.1 (of_decide_eq_false hg24);refine sp2 hT ?_;refine bP (z':=((b.length:Nat):Int)) rfl ?_;refine sp3 hT ?_;refine cF (fun hg29=>?_) (fun hg29=>?_)
  · have hg29:=of_decide_eq_true hg29;refine sk3 ?_;refine sp hT ?_;refine nn<|cI rfl rfl ?_;refine sr<|sp2 hT ?_;refine nn<|bG<|bC ?_;exact bR () rfl (bD rfl) .nil trivial (rfl)
  have hg29:=Int.not_lt.1 (of_decide_eq_false hg29);refine ss (ldN hT (bL .head)) ?_;refine bO Tryz.func17 (jU x hxs) rfl rfl .nil ⟨jM (Has.of mT1),trivial⟩ fun _=>?_;refine sp2 hT ?_;refine nn<|bH rfl (fun hc33=>?_) (fun hc33=>?_)
  · have hc33:=gC hc33;refine sr<|sp2 hT ?_;refine nn<|bG<|bC ?_;exact bR () rfl (bD rfl) .nil trivial (rfl)
  have hc33:=fN hc33;refine bK<|bB<|bA ?_;have hra:cO x.arr=true:=by assumption
  have hr4:x.sides.list.length≤4:=iG hra;refine bV (cT.sl (.slice x.sides.addr x.sides.list.length x.sides.cap) x.sides.list) (jM (Has.of mT1)) ?_;refine bE<|sp hT ?_;refine nn<|sr<|bCw rfl rfl rfl rfl fun b2=>?_;refine sp hT ?_;refine nn<|bA<|sr<|sp hT ?_;refine ss (ldO hT (bL kT1)) ?_;refine sp2 hT ?_;refine nn<|bT<|dD (ι:=Nat×List Int×Option Addr×Nat) [(0,_),(1,_),(5,_),(7,_),(38,_)] ⟨rfl,rfl,rfl,rfl,rfl,trivial⟩ (fun⟨i,ds,D,cd⟩=>[(8,.string (bs (inB i))),(9,.slice D ds.length cd),(39,.int .i64 (i:Nat))]) (fun⟨i,ds,D,cd⟩=>[cT.row (.slice D ds.length cd) 2 ds]) (fun⟨i,ds,D,cd⟩=>[Fact.pure (i≤x.sides.list.length∧ds=x.sides.list.take i)]) (fun⟨i,ds,D,cd⟩=>x.sides.list.length-i) (0,[],(some ⟨b2,0,none⟩),0) ⟨rfl,rfl,rfl,trivial⟩ (.cons .head .nil) ⟨Has.pure (⟨by omega,rfl⟩),trivial⟩ ?_;rintro⟨i,ds,D,cd⟩;dsimp only;refine cD (Has.of mT0) fun hinv7=>?_;refine sr<|sp hT ?_;refine nn<|bA<|bH rfl (fun hc40=>?_) (fun hc40=>?_)
  · have hc40:=of_decide_eq_true hc40;refine bK<|bB<|bA<|bT<|bA ?_
    obtain⟨c,hc⟩: ∃q,fourK[i]?=some q:=⟨_,List.getElem?_eq_getElem (by simp [fourK];omega)⟩
    have hcl:=four_len hc;refine bE<|sp2 hT ?_;refine nn<|sr<|sp hT ?_;refine ss (bY rfl rfl built_four) ?_;refine sp hT ?_;refine ss (sti_four_str rfl rfl rfl hc) ?_;refine ss (gV rfl rfl rfl (by have:=sL i;simp;omega)) ?_;refine vE (v':= .string (bs (inB (i+1)))) (congrArg (fun q=>Value.string (bs q)) (inB_step hc)) ?_;refine sp hT ?_;refine nn ?_;have hdl:ds.length≤4:=by rw [hinv7.2,List.length_take];omega
    refine bE<|sp2 hT ?_;refine ss (ldO hT (bL kT1)) ?_;refine sp hT ?_
    obtain⟨x3,hx4⟩: ∃x',x.sides.list[i]?=some x':=⟨_,List.getElem?_eq_getElem (by omega)⟩
    refine ss (bS hT (k:=i) (bJ (Has.of mT1)) rfl rfl rfl rfl rfl rfl rfl (by omega)) ?_;refine ss (bZ hT (cR.knows (bJ (Has.of mT1)) (k:=i) (x:=x3) hx4 0) rfl rfl rfl rfl rfl) ?_;refine fT (m:=x3) rfl rfl rfl rfl rfl fun b5=>?_;refine jW kT1 (dF .head rfl) rfl rfl rfl rfl rfl rfl rfl (by simp;omega) fun A6 c7=>?_;refine sp hT ?_;refine dU<|cA<|bB<|bE<|sp hT ?_;refine bP (z':=(((i+1):Nat):Int)) (cL (by omega) (by omega)) ?_;refine sp hT ?_;refine nn ?_;exact cP (i+1,ds++[x3],A6,c7) (by dsimp only;omega) ⟨rfl,rfl,rfl,trivial⟩ ⟨rfl,rfl,rfl,rfl,rfl,trivial⟩ (.cons .head (.cons kT1 .nil)) ⟨Has.pure (⟨by dsimp only;omega,take_step hinv7.2 hx4⟩),trivial⟩ (bF.drop 1)
  have hc40:=Int.not_lt.1 (of_decide_eq_false hc40);refine cW<|cM<|cM<|cX<|bB<|bA ?_;have hj4:i≤4:=by omega
  have hla:a.length≤1000:=by omega
  have hlb:b.length≤1000:=by omega
  refine bE<|sp hT ?_;refine ss (gV rfl rfl rfl (by have:=sL i;simp;omega)) ?_;refine sp hT ?_;refine ss (gV rfl rfl rfl (by have:=sL i;simp;omega)) ?_;refine ss (gV rfl rfl rfl (by have:=sL i;simp;omega)) ?_;refine sp hT ?_;refine ss (gV rfl rfl rfl (by have:=sL i;simp;omega)) ?_;refine vE (v':= .string (bs (oQ i a b))) rfl ?_;refine bO Tryz.func18 (yJ (oQ i a b) ((bNf (j:=i) hla hlb).1)) rfl rfl .nil ⟨(Has.of mT2),trivial⟩ fun X8=>?_;refine cD (Has.of mT1) fun hprp=>?_;refine bV (jT.sl (.slice X8.inputs.addr X8.inputs.list.length X8.inputs.cap) X8.inputs.list) (Has.left (Has.left (Has.of mT0))) ?_;refine bV (iN X8.inputs.list) (Has.right (Has.left (Has.of mT1))) ?_;refine bV (nR.sl (.slice X8.lines.addr X8.lines.list.length X8.lines.cap) X8.lines.list) (Has.left (Has.right (Has.of mT2))) ?_;refine bV (kL X8.lines.list) (Has.right (Has.right (Has.of mT3))) ?_;refine sp3 hT ?_;refine cE rfl rfl rfl rfl oE rfl fun b9=>?_;refine cE rfl rfl rfl rfl yC rfl fun b10=>?_;refine sto hT kT1 ?_;refine sto hT kT1 ?_;refine nn<|sr<|sp hT ?_;refine ss (gV rfl rfl rfl (by have:=sL i;simp;omega)) ?_;refine sp hT ?_;refine ss (gV rfl rfl rfl (by have:=sL i;simp;omega)) ?_;refine ss (gV rfl rfl rfl (by have:=sL i;simp;omega)) ?_;refine sp hT ?_;refine ss (gV rfl rfl rfl (by have:=sL i;simp;omega)) ?_;refine vE (v':= .string (bs (mV i a b))) rfl ?_;refine bO Tryz.func18 (yJ (mV i a b) ((bNf (j:=i) hla hlb).2)) rfl rfl .nil ⟨(Has.of mT8),trivial⟩ fun X11=>?_;refine cD (Has.of mT1) fun hprq=>?_;refine bV (jT.sl (.slice X11.inputs.addr X11.inputs.list.length X11.inputs.cap) X11.inputs.list) (Has.left (Has.left (Has.of mT0))) ?_;refine bV (iN X11.inputs.list) (Has.right (Has.left (Has.of mT1))) ?_;refine bV (nR.sl (.slice X11.lines.addr X11.lines.list.length X11.lines.cap) X11.lines.list) (Has.left (Has.right (Has.of mT2))) ?_;refine bV (kL X11.lines.list) (Has.right (Has.right (Has.of mT3))) ?_;refine sp3 hT ?_;refine cE rfl rfl rfl rfl oE rfl fun b12=>?_;refine cE rfl rfl rfl rfl yC rfl fun b13=>?_;refine sto hT kT1 ?_;refine sto hT kT1 ?_;refine nn<|bA<|sr<|ss (ldN hT (bL kT2)) ?_;refine ss (bY rfl rfl (vU)) ?_;refine ss (fD ⟨(gI (oQ i a b)).2.1,(gI (oQ i a b)).2.2⟩ ⟨0,0⟩ rfl rfl rfl) ?_;refine sp hT ?_;refine cF (fun hg81=>?_) (fun hg81=>?_)
  · have hg81:=gC hg81;refine sk3 ?_;refine sp2 hT ?_;refine sk4 ?_;refine sp2 hT ?_;refine sk4 ?_;refine sp2 hT ?_;refine sk4 ?_;refine sk3 ?_;refine sp hT ?_;refine nn<|cI rfl rfl ?_;refine sr<|sp2 hT ?_;refine nn<|bG<|bC ?_;exact bR () rfl (bD rfl) .nil trivial (rfl)
  have hg81:=fN hg81;refine ss (ldN hT (bL .head)) ?_;refine ss (bY rfl rfl (vU)) ?_;refine ss (fD ⟨(gI (mV i a b)).2.1,(gI (mV i a b)).2.2⟩ ⟨0,0⟩ rfl rfl rfl) ?_;refine sp2 hT ?_;refine cF (fun hg86=>?_) (fun hg86=>?_)
  · have hg86:=gC hg86;refine sk4 ?_;refine sp2 hT ?_;refine sk4 ?_;refine sp2 hT ?_;refine sk4 ?_;refine sk3 ?_;refine sp hT ?_;refine nn<|cI rfl rfl ?_;refine sr<|sp2 hT ?_;refine nn<|bG<|bC ?_;exact bR () rfl (bD rfl) .nil trivial (rfl)
  have hg86:=fN hg86;have hgp:=flt_of (by assumption:mW ⟨(gI (oQ i a b)).2.1,(gI (oQ i a b)).2.2⟩ ⟨0,0⟩=true);have hgq:=flt_of (by assumption:mW ⟨(gI (mV i a b)).2.1,(gI (mV i a b)).2.2⟩ ⟨0,0⟩=true);obtain⟨l1,l2,m0,y0,V,hpl,hql,hit,hlaw⟩:=names_law (p:=(gI (oQ i a b)).1) (q:=(gI (mV i a b)).1) hj4 (Prod.ext rfl hgp) (Prod.ext rfl hgq) ds ([x].map ArrV.arr);have hrp:=xH hgp;have hrq:=xH hgq;rw [←hprp] at hpl hlaw hrp;rw [←hprq] at hql hlaw hrq;have hokp:=(uR hrp.1).ok hrp.2;have hokq:=(uR hrq.1).ok hrq.2;obtain⟨v1,v2,hvl,hv2⟩:=two_lines hpl;have hq1:=one_line' hql;obtain⟨y1,ys,hys,hyv⟩:=items_of hv2 hit;have hv2m:X8.lines.list[1]?=some v2:=by rw [hvl];rfl
  have hp2:X8.lines.list.length=2:=by rw [hvl];rfl
  have hil:v2.items.list.length=ys.length+1:=by rw [hys];rfl
  have hib:v2.items.list.length≤255:=by have h1:=((uR hrp.1).line v2.ln (by rw [hpl,hv2];exact .tail _ mT0)).2.1;have h2:v2.ln.items.length=v2.items.list.length:=List.length_map _;omega
  refine bV (lL.sl (.slice v2.items.addr v2.items.list.length v2.items.cap) v2.items.list) (Has.left (Has.each (Has.of mT6) (List.mem_of_getElem? hv2m))) ?_;refine sp hT ?_;refine ss (ldO hT (dB kT3)) ?_;refine sp2 hT ?_;refine cH (t':=false) (by rw [hp2];rfl) ?_;refine sp3 hT ?_;refine ss (ldO hT (dB kT1)) ?_;refine sp2 hT ?_;refine cH (t':=false) (by rw [hq1];rfl) ?_;refine sp3 hT ?_;refine ss (ldO hT (dB kT3)) ?_;refine ss (bS hT (k:=1) (bJ (Has.of mT8)) rfl rfl rfl rfl rfl rfl rfl (by omega)) ?_;refine sp hT ?_;refine ss (bZ hT (cR.knows (bJ (Has.of mT8)) (k:=1) (x:=v2) hv2m 2) rfl rfl rfl rfl rfl) ?_;refine sp2 hT ?_;refine cH (t':=false) (by rw [hil];simp;omega) ?_;refine sp hT ?_;refine nn<|cN rfl rfl ?_;refine bK<|bB<|bA<|sr<|sp hT ?_;refine ss (ldO hT (dB kT3)) ?_;refine ss (bS hT (k:=1) (bJ (Has.of mT8)) rfl rfl rfl rfl rfl rfl rfl (by omega)) ?_;refine sp hT ?_;refine ss (bZ hT (cR.knows (bJ (Has.of mT8)) (k:=1) (x:=v2) hv2m 2) rfl rfl rfl rfl rfl) ?_;refine ss (gN hT (k:=1) rfl rfl rfl rfl rfl rfl (by omega)) ?_;refine sp2 hT ?_;refine nn<|bT<|dD (ι:=Nat) [(5,_),(7,_),(9,_),(11,_),(13,_),(114,_)] ⟨rfl,rfl,rfl,rfl,rfl,rfl,trivial⟩ (fun k=>[(115,.int .i64 (k:Nat))]) (fun _=>[]) (fun k=>[Fact.pure (k≤ys.length∧ ∀y∈ys.take k,y.name≠[121])]) (fun k=>ys.length-k) 0 ⟨rfl,trivial⟩ .nil ⟨Has.pure (⟨by omega,fun l hl=>by simp at hl⟩),trivial⟩ ?_;rintro k;refine cD (Has.of mT0) fun hinv17=>?_;refine sr<|sp hT ?_;refine nn<|bA<|bH rfl (fun hc116=>?_) (fun hc116=>?_)
  · have hc116:=of_decide_eq_true hc116;refine bK<|bB<|bA<|bT<|bA ?_
    obtain⟨y,hy⟩: ∃q,ys[k]?=some q:=⟨_,List.getElem?_eq_getElem (by omega)⟩
    have hyk:v2.items.list[1+k]?=some y:=by rw [hys,Nat.add_comm];exact hy
    refine bE<|sp2 hT ?_;refine nn<|sr<|sp hT ?_;refine ss (ldO hT (dB kT3)) ?_;refine ss (bS hT (k:=1) (bJ (Has.of mT9)) rfl rfl rfl rfl rfl rfl rfl (by omega)) ?_;refine sp hT ?_;refine ss (bZ hT (cR.knows (bJ (Has.of mT9)) (k:=1) (x:=v2) hv2m 2) rfl rfl rfl rfl rfl) ?_;refine sp2 hT ?_;refine bP (z':=(((1+k):Nat):Int)) (cL (by omega) (by omega)) ?_;refine ss (bS hT (k:=(1+k)) (bJ (Has.of mT1)) rfl rfl rfl rfl rfl rfl rfl (by omega)) ?_;refine sp hT ?_;refine ss (bZ hT (cR.knows (bJ (Has.of mT1)) (k:=(1+k)) (x:=y) hyk 3) rfl rfl rfl rfl rfl) ?_;refine sp hT ?_;refine nn<|bH rfl (fun hc128=>?_) (fun hc128=>?_)
    · have hc128:y.name=([121]:Bs):=eq_of_beq hc128;refine sr<|sp2 hT ?_;refine nn<|bG<|bI<|bC<|bC<|bI<|bC ?_;exact bR () rfl (bD rfl) .nil trivial (rfl)
    have hc128:y.name≠([121]:Bs):=fun h=>absurd (beq_iff_eq.2 h) (by rw [show(y.name==([121]:Bs))=false from hc128];simp);refine bK<|cA<|bB<|bE<|sp hT ?_;refine bP (z':=(((k+1):Nat):Int)) (cL (by omega) (by omega)) ?_;refine sp hT ?_;refine nn ?_;exact cP (k+1) (by omega) ⟨rfl,trivial⟩ ⟨rfl,rfl,rfl,rfl,rfl,rfl,trivial⟩ (.cons .head (.cons .head (.cons .head (.cons .head (.cons .head (.cons .head .nil)))))) ⟨Has.pure (⟨by omega,all_take' hinv17.2 hy (by assumption)⟩),trivial⟩ (bF.drop 1)
  have hc116:=Int.not_lt.1 (of_decide_eq_false hc116);refine cW<|cM<|cM<|cX<|bB<|bA ?_;have hl:=hlaw (names_out hyv (all_whole' hinv17.2 (by omega)));refine bX kT4 ?_;refine bE<|ss (ldN hT (bL kT3)) ?_;refine sp hT ?_;refine ss (ldN hT (bL kT4)) ?_;refine iI (m:=x) rfl rfl rfl rfl rfl fun b14=>?_;refine dL (E:=kE) (xs:=[x]) .head (by simp [maxLen]) ?_;refine bX .head ?_;refine bV (Fact.each [x] gS) (Has.each_cons (Has.of (.tail _ (.tail _ (.tail _ (.tail _ (.tail _ (.tail _ (.tail _ (.tail _ (.tail _ (.tail _ (.tail _ (.tail _ (.tail _ (.tail _ (.tail _ (.tail _ (.tail _ (.tail _ (.tail _ mT0)))))))))))))))))))) Has.each_nil) ?_;refine bO Tryz.func14 (wP X8 hokp.1 hokp.2.1 hokp.2.2 D (some ⟨b14,0,none⟩) cd 1 ds [x] (by have:=hinv7.1;rw [hinv7.2,List.length_take];omega) (by intro a ha;rw [List.mem_singleton.1 ha];omega)) rfl rfl .nil ⟨(Has.of (.tail _ (.tail _ (.tail _ (.tail _ (.tail _ (.tail _ (.tail _ (.tail _ (.tail _ (.tail _ (.tail _ (.tail _ (.tail _ (.tail _ (.tail _ (.tail _ (.tail _ (.tail _ (.tail _ mT0)))))))))))))))))))),(Has.of bEt),(Has.of mT13),(Has.of vX),(Has.of bEq),(Has.of mT2),(Has.of mT1),(Has.of mT0),trivial⟩ fun⟨A15,c16,xs17⟩=>?_;refine cD (Has.of mT0) fun hxl=>?_;refine sp3 hT ?_;refine cE rfl rfl rfl rfl yC rfl fun b18=>?_;refine sp hT ?_;refine sto hT .head ?_;refine nn<|sr<|ss (ldN hT (bL kT2)) ?_;refine sp hT ?_;refine ss (ldN hT (bL kT5)) ?_;refine iI (m:=x) rfl rfl rfl rfl rfl fun b19=>?_;refine dL (E:=kE) (xs:=[x]) .head (by simp [maxLen]) ?_;refine bX .head ?_;refine bV (Fact.each [x] gS) (Has.each_cons (Has.of (.tail _ (.tail _ (.tail _ (.tail _ (.tail _ (.tail _ (.tail _ (.tail _ (.tail _ (.tail _ (.tail _ (.tail _ (.tail _ (.tail _ (.tail _ (.tail _ (.tail _ (.tail _ (.tail _ (.tail _ (.tail _ (.tail _ (.tail _ (.tail _ mT0))))))))))))))))))))))))) Has.each_nil) ?_;refine bO Tryz.func14 (wP X11 hokq.1 hokq.2.1 hokq.2.2 D (some ⟨b19,0,none⟩) cd 1 ds [x] (by have:=hinv7.1;rw [hinv7.2,List.length_take];omega) (by intro a ha;rw [List.mem_singleton.1 ha];omega)) rfl rfl .nil ⟨(Has.of (.tail _ (.tail _ (.tail _ (.tail _ (.tail _ (.tail _ (.tail _ (.tail _ (.tail _ (.tail _ (.tail _ (.tail _ (.tail _ (.tail _ (.tail _ (.tail _ (.tail _ (.tail _ (.tail _ (.tail _ (.tail _ (.tail _ (.tail _ (.tail _ mT0))))))))))))))))))))))))),(Has.of mT13),(Has.of vX),(Has.of bEq),(Has.of mT10),(Has.of mT7),(Has.of mT1),(Has.of mT0),trivial⟩ fun⟨A20,c21,xs22⟩=>?_;refine cD (Has.of mT0) fun hxm=>?_;refine sp3 hT ?_;refine cE rfl rfl rfl rfl yC rfl fun b23=>?_;refine sp hT ?_;refine sto hT .head ?_;refine nn<|bA<|sr<|ss (ldN hT (bL kT1)) ?_;refine ss (bY rfl rfl (vU)) ?_;refine ss (fD ⟨(gB X8.pr ds ([x].map ArrV.arr)).2.1,(gB X8.pr ds ([x].map ArrV.arr)).2.2⟩ ⟨0,0⟩ rfl rfl rfl) ?_;refine sp hT ?_;refine cF (fun hg150=>?_) (fun hg150=>?_)
  · have hg150:=gC hg150;refine sk3 ?_;refine sp hT ?_;refine nn<|cI rfl rfl ?_;refine sr<|sp3 hT ?_;refine ss (ldO hT (dB kT1)) ?_;refine sp hT ?_;refine ss (ldO hT (dB .head)) ?_;refine sp2 hT ?_;refine cF (fun hg162=>?_) (fun hg162=>?_)
    · have hg162:=eq_of_beq hg162;refine sk3 ?_;refine sp3 hT ?_;refine nn<|bG<|bC ?_;exact bR () rfl (bD rfl) .nil trivial (rfl)
    have hg162:=beq_eq_false_iff_ne.1 hg162;refine sp hT ?_;refine ss (ldO hT (dB kT1)) ?_;refine sp hT ?_;refine cH (t':=true) (names_code (hl.2 (flt_not (by assumption))) (by assumption)) ?_;refine sp3 hT ?_;refine nn<|bG<|bC ?_;exact bR () rfl (bD rfl) .nil trivial (rfl)
  have hg150:=fN hg150;obtain⟨hmo,v,r,hr1,hr2⟩:=hl.1 (flt_of hg150);refine ss (ldN hT (bL .head)) ?_;refine ss (bY rfl rfl (vU)) ?_;refine ss (fD ⟨(gB X11.pr ds ([x].map ArrV.arr)).2.1,(gB X11.pr ds ([x].map ArrV.arr)).2.2⟩ ⟨0,0⟩ rfl rfl rfl) ?_;refine cH (t':=false) (by rw [hmo];rfl) ?_;refine sp hT ?_;refine nn<|cN rfl rfl ?_;refine bK<|bB<|bA ?_;obtain⟨u1,u2,hxs,hu2⟩:=arrs_two (hxl.trans hr1);obtain⟨w1,hws,hw1⟩:=arrs_one (hxm.trans hr2);subst hxs;subst hws;refine bV (gS u2) (Has.each (Has.of mT7) mT1) ?_;refine bV (gS w1) (Has.each (Has.of mT3) mT0) ?_;refine cU _ _ [(true,0),(true,1),(true,2),(true,3),(true,4),(true,5),(true,6),(true,7),(true,8),(true,9),(true,10),(true,11),(true,12),(true,13),(true,14),(true,15),(true,16),(true,17),(false,18),(true,19),(true,20)] cY (by decide+kernel) (.cons .head (.cons .head (.cons .head (.cons .head (.cons .head (.cons .head (.cons .head .nil))))))) bF.self ?_;refine puM hT ?_;refine puM hT ?_;refine puM hT ?_;refine puM hT ?_;refine puM hT ?_;refine cH (t':=true) (by rfl) ?_;refine puM hT ?_;refine puM hT ?_;refine puM hT ?_;refine puM hT ?_;refine puM hT ?_;refine cH (t':=true) (by rfl) ?_;refine puM hT ?_;refine puM hT ?_;refine puM hT ?_;refine stM rfl (bS hT (k:=1) (bJ (Has.of mT8)) rfl rfl rfl rfl rfl rfl rfl (by simp)) ?_;refine stM rfl (dP hT (cR.knows (bJ (Has.of mT8)) (k:=1) (x:=u2) rfl 0) rfl rfl rfl rfl rfl) ?_;refine puM hT ?_;refine stM rfl (bS hT (k:=0) (bJ (Has.of mT3)) rfl rfl rfl rfl rfl rfl rfl (by simp)) ?_;refine stM rfl (dP hT (cR.knows (bJ (Has.of mT3)) (k:=0) (x:=w1) rfl 0) rfl rfl rfl rfl rfl) ?_;refine cC (o:=_) rfl ?_;refine bO Tryz.func19 (bIz u2 w1 (mean_big hxl u2 mT1).1 (mean_big hxl u2 mT1).2) rfl rfl .nil ⟨jM (Has.of mT1),kS (Has.of mT1),jM (Has.of mT0),kS (Has.of mT0),trivial⟩ fun _=>?_;refine cH (t':=true) (decide_eq_true (by rw [hu2,hw1])) ?_;refine cB (.cons .head (.cons .head (.cons .head (.cons .head (.cons .head (.cons .head (.cons .head .nil))))))) (bF.drop 0) ?_;refine puM hT ?_;refine puM hT ?_;refine cK<|bB<|bG ?_;exact bR () rfl (bD rfl) .nil trivial (rfl)
end Go.Proofs.YtbgdphbebhjpiaaGreatDoor.meanNames
