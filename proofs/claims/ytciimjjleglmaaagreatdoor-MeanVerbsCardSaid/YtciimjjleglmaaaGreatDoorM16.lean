/- Texts of one proof, one behind the other: TysC, LawC, VerbL, MeanV, VerbM, MeanVerbsW. -/
import Derived.Test.YtciimjjleglmaaaGreatDoorM10
import Derived.Test.YtciimjjleglmaaaGreatDoorM15
import Derived.Test.YtciimjjleglmaaaGreatDoorM14
namespace Go.Proofs.YtciimjjleglmaaaGreatDoor
open Go.RowKit Go.ChangeShapes Go.WideShapes
structure CaseV where
  p:ProgV
  dims:(Sl Int)
  ins:(Sl ArrV)
  deriving Inhabited
def caseT:Tab:=[(3,⟨.int .i64,1⟩),(2,⟨.int .i64,1⟩),(5,⟨.int .u8,1⟩),(9,⟨.string,1⟩),(4,⟨.bool,1⟩),(47,⟨.int .u8,1⟩),(34,⟨.int .i64,1⟩),(30,⟨.slice 2,1⟩),(27,⟨.slice 9,1⟩),(95,⟨.struct [(3,0),(3,1),(9,2),(2,3)],4⟩),(88,⟨.slice 95,1⟩),(36,⟨.struct [(3,0),(34,1)],2⟩),(62,⟨.struct [(9,0),(2,1)],2⟩),(58,⟨.slice 62,1⟩),(60,⟨.struct [(9,0),(3,1),(58,2)],3⟩),(22,⟨.slice 60,1⟩),(49,⟨.struct [(3,0),(3,1),(47,2),(9,3),(30,4)],5⟩),(44,⟨.slice 49,1⟩),(46,⟨.struct [(9,0),(3,1),(44,2)],3⟩),(23,⟨.slice 46,1⟩),(25,⟨.struct [(22,0),(23,1)],2⟩),(93,⟨.struct [(88,0),(3,1),(3,2)],3⟩),(42,⟨.struct [(30,0),(30,1)],2⟩),(31,⟨.slice 42,1⟩),(136,⟨.slice 30,1⟩),(33,⟨.struct [(25,0),(30,2),(31,3)],4⟩),(91,⟨.other,1⟩),(162,⟨.slice 1,1⟩),(1,⟨.other,1⟩),(102,⟨.other,1⟩),(70,⟨.other,1⟩),(130,⟨.other,1⟩),(131,⟨.slice 130,1⟩),(50,⟨.int .u64,1⟩),(68,⟨.map 9 4,1⟩),(75,⟨.map 9 42,1⟩),(133,⟨.other,1⟩),(135,⟨.struct [(133,0),(34,1)],2⟩),(77,⟨.struct [(75,0),(3,1)],2⟩),(57,⟨.array 2 9,2⟩),(53,⟨.array 4 9,4⟩)]
theorem caseT_ok:fU Tryz.prog caseT:=wE.ok
  ⟨⟨by rw [Tryz.underlying3];rfl,by kernel_rfl⟩,
    ⟨by rw [Tryz.underlying2];rfl,by kernel_rfl⟩,
    ⟨by rw [Tryz.underlying5];rfl,by kernel_rfl⟩,
    ⟨by rw [Tryz.underlying9];rfl,by kernel_rfl⟩,
    ⟨by rw [Tryz.underlying4];rfl,by kernel_rfl⟩,
    ⟨by rw [Tryz.underlying47];rfl,by kernel_rfl⟩,
    ⟨by rw [Tryz.underlying34];rfl,by kernel_rfl⟩,
    ⟨by rw [Tryz.underlying30];rfl,by kernel_rfl⟩,
    ⟨by rw [Tryz.underlying27];rfl,by kernel_rfl⟩,
    ⟨by rw [Tryz.underlying95];rfl,by kernel_rfl⟩,
    ⟨by rw [Tryz.underlying88];rfl,by kernel_rfl⟩,
    ⟨by rw [Tryz.underlying36];rfl,by kernel_rfl⟩,
    ⟨by rw [Tryz.underlying62];rfl,by kernel_rfl⟩,
    ⟨by rw [Tryz.underlying58];rfl,by kernel_rfl⟩,
    ⟨by rw [Tryz.underlying60];rfl,by kernel_rfl⟩,
    ⟨by rw [Tryz.underlying22];rfl,by kernel_rfl⟩,
    ⟨by rw [Tryz.underlying49];rfl,by kernel_rfl⟩,
    ⟨by rw [Tryz.underlying44];rfl,by kernel_rfl⟩,
    ⟨by rw [Tryz.underlying46];rfl,by kernel_rfl⟩,
    ⟨by rw [Tryz.underlying23];rfl,by kernel_rfl⟩,
    ⟨by rw [Tryz.underlying25];rfl,by kernel_rfl⟩,
    ⟨by rw [Tryz.underlying93];rfl,by kernel_rfl⟩,
    ⟨by rw [Tryz.underlying42];rfl,by kernel_rfl⟩,
    ⟨by rw [Tryz.underlying31];rfl,by kernel_rfl⟩,
    ⟨by rw [Tryz.underlying136];rfl,by kernel_rfl⟩,
    ⟨by rw [Tryz.underlying33];rfl,by kernel_rfl⟩,
    ⟨by rw [Tryz.underlying91];rfl,by kernel_rfl⟩,
    ⟨by rw [Tryz.underlying162];rfl,by kernel_rfl⟩,
    ⟨by rw [Tryz.underlying1];rfl,by kernel_rfl⟩,
    ⟨by rw [Tryz.underlying102];rfl,by kernel_rfl⟩,
    ⟨by rw [Tryz.underlying70];rfl,by kernel_rfl⟩,
    ⟨by rw [Tryz.underlying130];rfl,by kernel_rfl⟩,
    ⟨by rw [Tryz.underlying131];rfl,by kernel_rfl⟩,
    ⟨by rw [Tryz.underlying50];rfl,by kernel_rfl⟩,
    ⟨by rw [Tryz.underlying68];rfl,by kernel_rfl⟩,
    ⟨by rw [Tryz.underlying75];rfl,by kernel_rfl⟩,
    ⟨by rw [Tryz.underlying133];rfl,by kernel_rfl⟩,
    ⟨by rw [Tryz.underlying135];rfl,by kernel_rfl⟩,
    ⟨by rw [Tryz.underlying77];rfl,by kernel_rfl⟩,
    ⟨by rw [Tryz.underlying57];rfl,by kernel_rfl⟩,
    ⟨by rw [Tryz.underlying53];rfl,by kernel_rfl⟩,trivial⟩
end Go.Proofs.YtciimjjleglmaaaGreatDoor
namespace Go.Proofs.YtciimjjleglmaaaGreatDoor
open Go.RowKit
theorem arr_of{a:ArrV}{S:Nat→Prop}{w:World}(h:(arrTy.deep a).p S w):(gI a).p S w∧a.sides.list.length≤17592186044416∧a.data.list.length≤17592186044416:=by
  obtain⟨⟨⟨⟨s1,_⟩,s2⟩,s3⟩,⟨⟨⟨d1,_⟩,d2⟩,d3⟩,_⟩:=h;have s2:a.sides.list.length*8≤140737488355328:=s2;have d2:a.data.list.length*8≤140737488355328:=d2;exact⟨⟨⟨s1,d1⟩,s3,d3⟩,by omega,by omega⟩
structure CaseOk (x:CaseV):Prop where
  ok:rL x.p
  l1:x.p.inputs.list.length≤140737488355328
  l2:x.p.lines.list.length≤2932031007403
  dims:x.dims.list.length≤17592186044416
  ins:x.ins.list.length≤2932031007403
  arr: ∀a∈x.ins.list,a.sides.list.length≤17592186044416∧a.data.list.length≤17592186044416
  items: ∀l∈x.p.lines.list,l.items.list.length≤2199023255552
theorem CaseOk.hdl{x:CaseV}(h:CaseOk x):x.dims.list.length≤140737488355328:=Nat.le_trans h.dims (by decide)
theorem CaseOk.hI{x:CaseV}(h:CaseOk x): ∀a∈x.ins.list,a.sides.list.length≤140737488355328:=fun a ha=>Nat.le_trans (h.arr a ha).1 (by decide)
end Go.Proofs.YtciimjjleglmaaaGreatDoor
namespace Go.Proofs.YtciimjjleglmaaaGreatDoor
open Go.RowKit
section
variable {β : fC} {n : Nat} {Γ : Env} {H : List bV} {F : List Fact} {Q : Exit → Act → World → Prop} {ops : Array Oper} {rest : List Oper} {o : Oper} {d : Nat}
theorem tZ{x y:Operand}{u v:ArrV}(hw:want ops Γ o=some true)(ho:o.op= .buildSlice 31 2 #[(0,x),(1,y)])(hd:o.dst=some d)(hn:Nat.blt d n=true)
    (hx:Γ.ev x=some (.agg #[.slice u.sides.addr u.sides.list.length u.sides.cap,.slice u.data.addr u.data.list.length u.data.cap])) (hy:Γ.ev y=some (.agg #[.slice v.sides.addr v.sides.list.length v.sides.cap,.slice v.data.addr v.data.list.length v.data.cap]))
    (k: ∀b,At β n ((d,.slice (some ⟨b,0,none⟩) 2 2)::Γ) (.obj b (.cells (iZ.all [u,v]).toArray 42)::H) F (wpList Tryz.prog ops Q rest)):At β n Γ H F (wpList Tryz.prog ops Q (o::rest)):=by
  obtain⟨i,hi,hz,hs,_⟩:=bDt;refine rH (m:=2) hw ho hd hn (fun a w f=>?_) k
  have:=run_buildSlice (P:=Tryz.prog) w 31 42 2 #[(0,a.eval x),(1,a.eval y)] (iZ.all [u,v]).toArray i (.agg #[.slice none 0 0,.slice none 0 0]) Tryz.underlying31 hi hz (by omega) (by omega) (by
    rw [f.ev hx,f.ev hy,hs]
    kernel_rfl)
  simpa using this
def itemC (m:ItemV):Value:= .agg #[.int .i64 m.how,.int .i64 m.at_,.int .u8 m.fn,.string (bs m.name),.slice m.nums.addr m.nums.list.length m.nums.cap]
theorem xI{x y z:Operand}{u v m:ItemV}(hw:want ops Γ o=some true)(ho:o.op= .buildSlice 44 3 #[(0,x),(1,y),(2,z)])(hd:o.dst=some d)(hn:Nat.blt d n=true)
    (hx:Γ.ev x=some (itemC u)) (hy:Γ.ev y=some (itemC v)) (hz:Γ.ev z=some (itemC m))
    (k: ∀b,At β n ((d,.slice (some ⟨b,0,none⟩) 3 3)::Γ) (.obj b (.cells (jZ.all [u,v,m]).toArray 49)::H) F (wpList Tryz.prog ops Q rest)):At β n Γ H F (wpList Tryz.prog ops Q (o::rest)):=by
  obtain⟨i,hi,h0,hs,_⟩:=bEk;refine rH (m:=3) hw ho hd hn (fun a w f=>?_) k
  have:=run_buildSlice (P:=Tryz.prog) w 44 49 3 #[(0,a.eval x),(1,a.eval y),(2,a.eval z)] (jZ.all [u,v,m]).toArray i _ Tryz.underlying44 hi h0 (by omega) (by omega) (by
    rw [f.ev hx,f.ev hy,f.ev hz,hs]
    kernel_rfl)
  simpa using this
theorem index_a{a b:Bs}{w:World}:(Instr.index 57 (.agg #[.string (bs a),.string (bs b)]) (.int .i64 ((0:Nat):Int))).run Tryz.prog w= .ok (.string (bs a)) w:=by kernel_rfl
theorem index_b{a b:Bs}{w:World}:(Instr.index 57 (.agg #[.string (bs a),.string (bs b)]) (.int .i64 ((1:Nat):Int))).run Tryz.prog w= .ok (.string (bs b)) w:=by kernel_rfl
theorem sti_two_str{x i:Operand}{a b y:Bs}{k:Nat}(ho:o.op= .index 57 x i)(hx:Γ.ev x=some (.agg #[.string (bs a),.string (bs b)]))(hi:Γ.ev i=some (.int .i64 (k:Nat)))(hk:[a,b][k]?=some y):Sti Tryz.prog β n Γ H F o (.string (bs y)):=fun c w S f s _=>by
  have e:(Instr.index 57 (.agg #[.string (bs a),.string (bs b)]) (.int .i64 (k:Nat))).run Tryz.prog w= .ok (.string (bs y)) w:=by
    match k,hk with
    | 0,hk=>
      obtain rfl:a=y:=by simpa using hk
      exact index_a
    | 1,hk=>
      obtain rfl:b=y:=by simpa using hk
      exact index_b
  unfold execOp;simp only [ho,f.ev hx,f.ev hi];rw [Sem.run_bind,e];rfl
end
end Go.Proofs.YtciimjjleglmaaaGreatDoor
namespace Go.Proofs.YtciimjjleglmaaaGreatDoor
open Go.RowKit
def nA:Bs:=[97]
def nB:Bs:=[98]
def jJ (nm:Bs)(a:Arr):gA:=⟨nm,0,a.sides.map fun n=>⟨[],n⟩⟩
def iD (how f:Int):fB:=⟨how,0,f,[],[]⟩
def lL (how f:Int):List fB:=[⟨2,0,0,nA,[]⟩,⟨2,0,0,nB,[]⟩,iD how f]
def jT (how f:Int)(a b:Arr):iE:=⟨[jJ nA a,jJ nB b],[⟨[],0,lL how f⟩]⟩
theorem bBx: ∀(l:List Int) (t:Bs),∃t',kC (l.map fun n=>⟨[],n⟩) t=some t'
  | [],t=>⟨t,rfl⟩
  | n::l,t=>by
    obtain⟨t',h⟩:=bBx l (t++([32]++fV n));exact⟨t',by rw [List.map_cons,kC,if_pos rfl];exact h⟩
theorem bDf{nm:Bs}(hn:dY nm=true){a:Arr}(h:a.sides.length≤4): ∃t,nY (jJ nm a)=some t:=by
  obtain⟨t,ht⟩:=bBx a.sides nm;exact⟨t,by unfold nY;rw [if_neg (by simp [jJ,hn];omega)];exact ht⟩
theorem inputs_plain{a b:Arr}(ha:a.sides.length≤4)(hb:b.sides.length≤4):(jN [jJ nA a,jJ nB b] []).2=true:=by
  obtain⟨t,ht⟩:=bDf (nm:=nA) (by decide) ha;obtain⟨u,hu⟩:=bDf (nm:=nB) (by decide) hb;rw [jN,ht];simp only;rw [jN,hu];rfl
theorem expr_two{how f:Int}(h:how=4∨how=7):(gE (lL how f) 255).isSome= !((verbS (iD how f)).1==[]):=by
  have ea:operandS ⟨2,0,0,nA,[]⟩=some ⟨[nA],0,1,true⟩:=by decide
  have eb:operandS ⟨2,0,0,nB,[]⟩=some ⟨[nB],0,1,true⟩:=by decide
  have e1:iB [] ⟨2,0,0,nA,[]⟩=some [⟨[nA],0,1,true⟩]:=by rw [iB,if_pos (by simp),ea];rfl
  have e2:iB [⟨[nA],0,1,true⟩] ⟨2,0,0,nB,[]⟩=some [⟨[nB],0,1,true⟩,⟨[nA],0,1,true⟩]:=by rw [iB,if_pos (by simp),eb];rfl
  have ht:uX how=true:=by rcases h with h | h<;>rw [h]<;>rfl
  have e3:iB [⟨[nB],0,1,true⟩,⟨[nA],0,1,true⟩] (iD how f)=if (verbS (iD how f)).1=[] then none else some [⟨[nA]++(verbS (iD how f)).1::[nB],0,1+(verbS (iD how f)).2+1,false⟩]:=by
    have hh:(iD how f).how=how:=rfl;rw [iB,if_neg (by rw [hh];omega)]
    by_cases hv:(verbS (iD how f)).1=[]
    · rw [if_pos (by right;right;right;right;exact hv),if_pos hv]
    · have hneg: ¬((iD how f).how<3∨7<(iD how f).how∨(iD how f).nums≠[]∨(iD how f).name≠[]∨(verbS (iD how f)).1=[]):=by
        rw [hh];rintro(q | q | q | q | q)
        · omega
        · omega
        · exact q rfl
        · exact q rfl
        · exact hv q
      rw [if_neg hneg,if_neg hv,nU,hh,if_pos ht];rfl
  have hs:fS (lL how f) []=if (verbS (iD how f)).1=[] then none else some [⟨[nA]++(verbS (iD how f)).1::[nB],0,1+(verbS (iD how f)).2+1,false⟩]:=by
    unfold lL;rw [fS,e1];simp only;rw [fS,e2];simp only;rw [fS,e3]
    by_cases hv:(verbS (iD how f)).1=[]
    · rw [if_pos hv]
    · rw [if_neg hv];rfl
  have h2:(verbS (iD how f)).2≤2:=by
    unfold verbS;split
    · simp
    · split
      · simp
      · split<;>simp
  unfold gE;rw [if_neg (by simp [lL]),hs]
  by_cases hv:(verbS (iD how f)).1=[]
  · rw [if_pos hv,hv];rfl
  · rw [if_neg hv];simp only;rw [if_neg (by omega)];have:((verbS (iD how f)).1==[])=false:=beq_eq_false_iff_ne.2 hv;rw [this];rfl
theorem bKw{how f:Int}(h:how=4∨how=7){a b:Arr}(ha:cN a=true)(hb:cN b=true):(dT (jT how f a b)).2= !((verbS (iD how f)).1==[]):=by
  have la:=(fA.1 ha).1.len;have lb:=(fA.1 hb).1.len;rw [right_lines];have e1:(jT how f a b).lines=[⟨[],0,lL how f⟩]:=rfl;have e2:(jT how f a b).inputs=[jJ nA a,jJ nB b]:=rfl;rw [e1,e2,inputs_plain la lb]
  have e3:qS [⟨[],0,lL how f⟩]=(gE (lL how f) 255).isSome:=by
    show((gE (lL how f) 255).isSome&&(([]:Bs)==[]))=_;simp
  rw [e3,expr_two h];simp
theorem texts_two:(List.range 256).all (fun f=>(jM true (f:Nat)==[])== !(fD (f:Nat) true || (decide (37≤f)&&decide (f≤40))))=true:=by decide+kernel
theorem text_two{f:Nat}(hf:f<256):jM true (f:Nat)=[]↔fD (f:Nat) true=false∧ ¬(37≤f∧f≤40):=by
  have:=List.all_eq_true.1 texts_two f (List.mem_range.2 hf);have h:=eq_of_beq this;rw [←beq_iff_eq,h];simp;intro _;constructor<;>omega
theorem takes_le{f:Int}(h:fD f true=true):f≤17:=by
  unfold fD at h;split at h
  · cases h
  · omega
theorem verb_four{f:Nat}(hf:f<256):(verbS (iD 4 (f:Nat))).1=[]↔fD (f:Nat) true=false∧ ¬(37≤f∧f≤40):=by
  rw [←text_two hf]
  have e:(verbS (iD 4 (f:Nat))).1=jM true (f:Nat):=by
    unfold verbS;rw [if_neg (by simp [iD]),if_pos (by right;rfl)];rfl
  rw [e]
theorem verb_seven{f:Nat}(hf:f<256):(verbS (iD 7 (f:Nat))).1=[]↔fD (f:Nat) true=false:=by
  have ht:=text_two hf;unfold verbS;rw [if_neg (by simp [iD])];have e:(iD 7 (f:Nat)).fn=(f:Nat):=rfl;have eh:(iD 7 (f:Nat)).how=7:=rfl;rw [e,eh]
  by_cases h1:jM true (f:Nat)=[]
  · rw [if_pos (.inl h1)];simp only [h1,true_iff];exact(ht.1 h1).1
  · rw [if_neg (fun q=>q.elim h1 (fun q=>by omega))]
    by_cases h2:(17:Int)<(f:Nat)
    · rw [if_pos h2];simp only [true_iff]
      cases hq:fD (f:Nat) true with
      | false=>rfl
      | true=>have:=takes_le hq;omega
    · rw [if_neg h2];constructor
      · intro e;exact absurd (List.append_eq_nil_iff.1 e).1 h1
      · intro e;exact absurd (ht.2 ⟨e,by omega⟩) h1
theorem look_a{a b:Arr}:look nA [(nB,b),(nA,a)]=some a:=by
  rw [look,if_neg (show ¬nA=nB by decide),look,if_pos rfl]
theorem look_b{a b:Arr}:look nB [(nB,b),(nA,a)]=some b:=by rw [look,if_pos rfl]
theorem sides_same(l:List Int)(vars:List Bs)(dims:List Int):(l.map fun n=>(⟨[],n⟩:mJ)).map (lD vars dims)=l:=by
  rw [List.map_map]
  have:(lD vars dims∘fun n=>(⟨[],n⟩:mJ))=id:=by
    funext n
    simp [lD]
  rw [this,List.map_id]
theorem fits_two{nm:Bs}{a:Arr}(h:cN a=true)(vars:List Bs)(dims:List Int):xE vars dims (jJ nm a) a=true:=by
  unfold xE;rw [h];have e:(jJ nm a).sides=a.sides.map fun n=>⟨[],n⟩:=rfl;rw [e,sides_same];simp
theorem few_two{nm:Bs}{a:Arr}(h:cN a=true):yW [] (jJ nm a)=false:=by
  unfold yW;rw [Bool.eq_false_iff];intro hh;rw [List.any_eq_true] at hh;obtain⟨d,hd,hb⟩:=hh;obtain⟨n,hn,rfl⟩:=List.mem_map.1 hd;have:=badN_of ((fA.1 h).1.rng n hn);simp [this,kE] at hb
theorem vars_two(how f:Int)(a b:Arr):varsP (jT how f a b)=[]:=by
  have key: ∀(l:List mJ),(∀d∈l,d.name=[])→oQ l []=[]:=by
    intro l
    induction l with
    | nil=>intro _;rfl
    | cons d r ih=>
      intro h;rw [oQ,if_pos (.inl (h d (List.mem_cons_self ..)))];exact ih fun x hx=>h x (List.mem_cons_of_mem _ hx)
  refine key _ fun d hd=>?_;unfold hZ at hd;obtain⟨x,hx,hd⟩:=List.mem_flatMap.1 hd;have:x=jJ nA a∨x=jJ nB b:=by simpa [jT] using hx
  rcases this with rfl | rfl
  · obtain⟨n,_,rfl⟩:=List.mem_map.1 hd;rfl
  · obtain⟨n,_,rfl⟩:=List.mem_map.1 hd;rfl
theorem begin_two{how f:Int}{a b:Arr}(ha:cN a=true)(hb:cN b=true)(hr:(dT (jT how f a b)).2=true):fP (jT how f a b) [] [a,b]=([(nB,b),(nA,a)],(0,0)):=by
  unfold fP;rw [if_neg (by simp [hr]),vars_two];have e:(jT how f a b).inputs=[jJ nA a,jJ nB b]:=rfl;rw [e]
  have hf:[jJ nA a,jJ nB b].find? (yW [])=none:=by
    rw [List.find?_cons,few_two ha,List.find?_cons,few_two hb];rfl
  rw [hf];simp only;rw [if_neg (by simp),if_neg (by simp)];have e0:lF [] [] []=[]:=rfl;rw [e0,iP,if_neg (by rw [fits_two ha];simp),iP,if_neg (by rw [fits_two hb];simp)];rfl
theorem item_two{how f:Int}{V:uT}{a b:Arr}(h:how=4∧V=iG f a b∨how=7∧V=iX f a b)(N:iH):fK N (iD how f) [b,a]=V∧iT (iD how f)=2:=by
  have eh:(iD how f).how=how:=rfl;have ef:(iD how f).fn=f:=rfl
  rcases h with ⟨h,rfl⟩ | ⟨h,rfl⟩
  · subst h;refine⟨?_,tB (by simp [eh])⟩;unfold fK;simp [eh,ef]
  · subst h;refine⟨?_,tB (by simp [eh])⟩;unfold fK;simp [eh,ef]
theorem bBf{how:Int}{f:Nat}(hf:f<256){V:uT}{a b:Arr}(h:how=4∧V=iG (f:Nat) a b∨how=7∧V=iX (f:Nat) a b)(ha:cN a=true)(hb:cN b=true):
    ((kR (jT how (f:Nat) a b) [] [a,b]).2=(0,0)↔V.2=0)∧(V.2=0→(kR (jT how (f:Nat) a b) [] [a,b]).1=[V.1]):=by
  have hh:how=4∨how=7:=h.imp (·.1) (·.1)
  by_cases hv:(verbS (iD how (f:Nat))).1=[]
  · have hr:(dT (jT how (f:Nat) a b)).2=false:=by rw [bKw hh ha hb,hv];rfl
    have e:kR (jT how (f:Nat) a b) [] [a,b]=([],(0,50)):=by
      have:fP (jT how (f:Nat) a b) [] [a,b]=([],(0,50)):=by
        unfold fP;rw [if_pos hr]
      unfold kR;rw [this];rfl
    have hV:V.2≠0:=by
      rcases h with ⟨h,rfl⟩ | ⟨h,rfl⟩
      · subst h;obtain⟨t,k⟩:=(verb_four hf).1 hv;unfold iG;rw [if_neg (by simp [ha,hb]),if_neg (by omega),if_neg (by omega),if_neg (by omega),if_pos t];decide
      · subst h;have t:=(verb_seven hf).1 hv;unfold iX;rw [if_neg (by simp [ha,hb]),if_pos t];decide
    rw [e];exact⟨⟨fun q=>(by cases q),fun q=>absurd q hV⟩,fun q=>absurd q hV⟩
  · have hr:(dT (jT how (f:Nat) a b)).2=true:=by
      rw [bKw hh ha hb]
      simpa using hv
    have hb0:=begin_two ha hb hr
    have hV:V.2=0→V.1.data.length≤65536:=by
      rcases h with ⟨_,rfl⟩ | ⟨_,rfl⟩
      · exact fun q=>gB (tF q)
      · exact fun q=>gB (pL q)
    have da:=gB ha;have db:=gB hb
    have i1:pM [(nB,b),(nA,a)] ⟨2,0,0,nA,[]⟩ [] 0= .ok ([a],a.data.length):=by
      have ev:fK [(nB,b),(nA,a)] ⟨2,0,0,nA,[]⟩ []=(a,0):=by
        unfold fK;simp [look_a]
      unfold pM;rw [ev];simp only [ne_eq,not_true,if_false];rw [if_neg (by omega),pA (by simp)];simp
    have i2:pM [(nB,b),(nA,a)] ⟨2,0,0,nB,[]⟩ [a] a.data.length= .ok ([b,a],a.data.length+b.data.length):=by
      have ev:fK [(nB,b),(nA,a)] ⟨2,0,0,nB,[]⟩ [a]=(b,0):=by
        unfold fK;simp [look_b]
      unfold pM;rw [ev];simp only [ne_eq,not_true,if_false];rw [if_neg (by omega),pA (by simp)];simp
    obtain⟨iv,it⟩:=item_two h [(nB,b),(nA,a)]
    have e:kR (jT how (f:Nat) a b) [] [a,b]=if V.2≠0 then ([],(0,V.2)) else ([V.1],(0,0)):=by
      unfold kR;rw [hb0,if_neg (show ¬oP ((0:Int),(0:Int))=false by decide)];have el:(jT how (f:Nat) a b).lines=[⟨[],0,lL how (f:Nat)⟩]:=rfl;rw [el,xQ]
      have hl:rQ [(nB,b),(nA,a)] (lL how (f:Nat)) [] 0=if V.2≠0 then .error (0,V.2) else .ok ([V.1],a.data.length+b.data.length+V.1.data.length):=by
        unfold lL;rw [rQ,i1];simp only;rw [rQ,i2];simp only;rw [rQ];unfold pM;rw [iv,it]
        by_cases h0:V.2≠0
        · rw [if_pos h0,if_pos h0];rfl
        · have:=hV (Classical.not_not.1 h0);rw [if_neg h0,if_neg h0,if_neg (by omega)];rfl
      rw [hl]
      by_cases h0:V.2≠0
      · rw [if_pos h0,if_pos h0]
      · rw [if_neg h0,if_neg h0];rfl
    rw [e]
    by_cases h0:V.2≠0
    · rw [if_pos h0];exact⟨⟨fun q=>absurd (congrArg Prod.snd q) h0,fun q=>absurd q h0⟩,fun q=>absurd q h0⟩
    · rw [if_neg h0];exact⟨⟨fun _=>Classical.not_not.1 h0,fun _=>rfl⟩,fun _=>rfl⟩
end Go.Proofs.YtciimjjleglmaaaGreatDoor
namespace Go.Proofs.YtciimjjleglmaaaGreatDoor
open Go.RowKit
theorem built_two:Tryz.prog.built 57 [(0,.string (bs [97])),(1,.string (bs [98]))]=some #[.string (bs [97]),.string (bs [98])]:=by kernel_rfl
def vIns (x u:ArrV):List gA:=[jJ nA x.arr,jJ nB u.arr]
theorem vins_step{x u y:ArrV}{nm:Bs}{k:Nat}{xs:List InputV}{S:Option Addr}{c:Nat}{sides:List gG}(h:xs.map InputV.inp=(vIns x u).take k)(hn:[([97]:Bs),[98]][k]?=some nm)(hy:[x,u][k]?=some y)
    (hs:sides.map gG.sd=y.sides.list.map fun n=>⟨[],n⟩):(xs++[(⟨nm,0,⟨S,c,sides⟩⟩:InputV)]).map InputV.inp=(vIns x u).take (k+1):=by
  have e:(⟨nm,0,⟨S,c,sides⟩⟩:InputV).inp=jJ nm y.arr:=by
    show(⟨nm,0,sides.map gG.sd⟩:gA)=_;rw [hs];rfl
  rw [List.map_append,h,List.map_cons,List.map_nil,e]
  match k,hn,hy with
  | 0,hn,hy=>
    obtain rfl:[97]=nm:=by simpa using hn
    obtain rfl:x=y:=by simpa using hy
    rfl
  | 1,hn,hy=>
    obtain rfl:[98]=nm:=by simpa using hn
    obtain rfl:u=y:=by simpa using hy
    rfl
theorem side_step{ns:List Int}{sides:List gG}{j:Nat}{z:Int}(h:sides.map gG.sd=(ns.take j).map fun n=>⟨[],n⟩)(hz:ns[j]?=some z):(sides++[(⟨[],z⟩:gG)]).map gG.sd=(ns.take (j+1)).map fun n=>⟨[],n⟩:=by
  obtain⟨hj,e⟩:=List.getElem?_eq_some_iff.1 hz;rw [List.map_append,h,List.take_succ_eq_append_getElem hj,List.map_append,e];rfl
theorem bFu{I B A:Option Addr}{ci cb ca:Nat}{xs:List InputV}{x u:ArrV}{how:Int}{f:Nat}{k:Nat}(hk:2≤k)(h:xs.map InputV.inp=(vIns x u).take k):
    (⟨⟨I,ci,xs⟩,⟨B,cb,[(⟨[],0,⟨A,ca,[(⟨2,0,0,[97],⟨none,0,[]⟩⟩:ItemV),⟨2,0,0,[98],⟨none,0,[]⟩⟩,⟨how,0,(f:Nat),[],⟨none,0,[]⟩⟩]⟩⟩:LineV)]⟩⟩:ProgV).pr=jT how (f:Nat) x.arr u.arr:=by
  show(⟨xs.map InputV.inp,_⟩:iE)=_;rw [h,List.take_of_length_le (by simpa [vIns] using hk)];rfl
theorem vside_rng{a:Arr}(h:cN a=true): ∀n∈a.sides,-9223372036854775808≤n∧n≤9223372036854775807:=fun n hn=>by
  have:=(fA.1 h).1.2 n hn;omega
theorem bHw{X:ProgV}{how:Int}{f:Nat}{x u:ArrV}(h:X.pr=jT how (f:Nat) x.arr u.arr)(ha:cN x.arr=true)(hb:cN u.arr=true):rL X∧X.inputs.list.length≤140737488355328∧X.lines.list.length≤140737488355328:=by
  have h1:X.inputs.list.map InputV.inp=vIns x u:=congrArg iE.inputs h;have h2:X.lines.list.map LineV.ln=[⟨[],0,lL how (f:Nat)⟩]:=congrArg iE.lines h;have l1:X.inputs.list.length=2:=by have:=congrArg List.length h1;simpa [vIns] using this
  have l2:X.lines.list.length=1:=by have:=congrArg List.length h2;simpa using this
  refine⟨⟨fun y hy=>?_,fun y hy=>?_⟩,by omega,by omega⟩
  · have hm:y.inp∈vIns x u:=by rw [←h1];exact List.mem_map.2 ⟨y,hy,rfl⟩
    have key: ∃nm a,y.inp=jJ nm a∧nm.length≤1∧cN a=true:=by
      unfold vIns at hm;simp only [List.mem_cons,List.not_mem_nil,or_false] at hm
      rcases hm with hm | hm
      · exact⟨nA,x.arr,hm,by decide,ha⟩
      · exact⟨nB,u.arr,hm,by decide,hb⟩
    obtain⟨nm,a,e,hn,hr⟩:=key;have e1:y.name=nm:=congrArg gA.name e;have e2:y.sides.list.map gG.sd=a.sides.map fun n=>⟨[],n⟩:=congrArg gA.sides e;refine⟨by rw [e1];omega,fun d hd=>?_⟩;have hs:d.sd∈a.sides.map fun n=>(⟨[],n⟩:mJ):=by rw [←e2];exact List.mem_map.2 ⟨d,hd,rfl⟩
    obtain⟨n,hn,hd⟩:=List.mem_map.1 hs;have d1:d.name=[]:=(congrArg mJ.name hd).symm;have d2:d.n=n:=(congrArg mJ.n hd).symm;rw [d1,d2];exact⟨by simp,vside_rng hr n hn⟩
  · have hm:y.ln∈[(⟨[],0,lL how (f:Nat)⟩:oF)]:=by rw [←h2];exact List.mem_map.2 ⟨y,hy,rfl⟩
    have e:=List.mem_singleton.1 hm;have e1:y.name=[]:=congrArg oF.name e;have e2:y.items.list.map ItemV.it=lL how (f:Nat):=congrArg oF.items e;refine⟨by rw [e1];simp,fun it hit=>?_⟩;have hi:it.it∈lL how (f:Nat):=by rw [←e2];exact List.mem_map.2 ⟨it,hit,rfl⟩
    have key:it.it.name.length≤1∧it.it.nums=[]:=by
      unfold lL iD at hi;simp only [List.mem_cons,List.not_mem_nil,or_false] at hi
      rcases hi with hi | hi | hi<;>rw [hi]<;>exact⟨by simp [nA,nB],rfl⟩
    refine⟨Nat.le_trans key.1 (by decide),fun z hz=>?_⟩;have:z∈it.it.nums:=hz;rw [key.2] at this;simp at this
theorem bHf{xs:List ArrV}{M:List Arr×Flt}{V:uT}(hx:xs.map ArrV.arr=M.1)(h:V.2=0→M.1=[V.1])(e:V.2=0)(hr:cN V.1=true): ∃z,xs=[z]∧z.arr=V.1∧z.sides.list.length≤140737488355328∧z.data.list.length≤140737488355328:=by
  rw [h e] at hx
  obtain⟨z,rfl,hz⟩: ∃z,xs=[z]∧z.arr=V.1:=by
    cases xs with
    | nil=>simp at hx
    | cons z l=>
      simp only [List.map_cons,List.cons.injEq,List.map_eq_nil_iff] at hx;exact⟨z,by rw [hx.2],hx.1⟩
  rw [←hz] at hr;have h1:z.sides.list.length≤4:=gV hr;have h2:z.data.list.length≤65536:=gB hr;exact⟨z,rfl,hz,by omega,by omega⟩
theorem bJb{M:List Arr×Flt}{V:uT}(h:M.2=(0,0)↔V.2=0):oI ⟨M.2.1,M.2.2⟩ ⟨0,0⟩=(V.2==0):=by
  rw [Bool.eq_iff_iff,beq_iff_eq,←h];exact yZ
theorem verb_ne{M:List Arr×Flt}{V:uT}(h:M.2=(0,0)↔V.2=0):(oI ⟨M.2.1,M.2.2⟩ ⟨0,0⟩ !=(V.2==0))=false:=by rw [bJb h];simp
theorem verb_eq{M:List Arr×Flt}{V:uT}(h:M.2=(0,0)↔V.2=0):(oI ⟨M.2.1,M.2.2⟩ ⟨0,0⟩==(V.2==0))=true:=by rw [bJb h];simp
theorem u8_wf{z:Int}{S:Nat→Prop}{w:World}(h:(Fact.pure ((Lit.int .u8 z).wf=true)).p S w):0≤z∧z<256:=by
  have h:(Lit.int .u8 z).wf=true:=h;simp [Lit.wf,IntKind.min,IntKind.max,IntKind.bits,IntKind.signed] at h;omega
end Go.Proofs.YtciimjjleglmaaaGreatDoor
namespace Go.Proofs.YtciimjjleglmaaaGreatDoor.meanVerbs
open Go.ChangeShapes Go.WideShapes Go.ChangeAt Go.RowKit
theorem pW(s0:ByteArray):Tryz.prog.built 60 [(0,.string s0)]=some #[.string s0,.int .i64 0,.slice none 0 0]:=by kernel_rfl
theorem qL(z1:Int):Tryz.prog.built 62 [(1,.int .i64 z1)]=some #[.string (bs []),.int .i64 z1]:=by kernel_rfl
theorem gM(z0:Int)(s3:ByteArray):Tryz.prog.built 49 [(0,.int .i64 z0),(3,.string s3)]=some #[.int .i64 z0,.int .i64 0,.int .u8 0,.string s3,.slice none 0 0]:=by kernel_rfl
theorem kU(z0:Int)(z2:Int):Tryz.prog.built 49 [(0,.int .i64 z0),(2,.int .u8 z2)]=some #[.int .i64 z0,.int .i64 0,.int .u8 z2,.string (bs []),.slice none 0 0]:=by kernel_rfl
theorem iL(a2:Option Addr)(l2 c2:Nat):Tryz.prog.built 46 [(2,.slice a2 l2 c2)]=some #[.string (bs []),.int .i64 0,.slice a2 l2 c2]:=by kernel_rfl
set_option maxRecDepth 100000 in
theorem law_spec(f:Nat)(hf:f<256)(x u:ArrV)(hy4x:x.sides.list.length≤17592186044416)(hy4u:u.sides.list.length≤17592186044416):dH Tryz.prog 8 [.int .u8 (f:Nat),.agg #[.slice x.sides.addr x.sides.list.length x.sides.cap,.slice x.data.addr x.data.list.length x.data.cap],.agg #[.slice u.sides.addr u.sides.list.length u.sides.cap,.slice u.data.addr u.data.list.length u.data.cap]] [] [gW,gI x,gI u] (fun(_:Unit)=> .bool true) (fun _=>[]) (fun _=>[]):=by
  have hT:=caseT_ok;refine cQ Tryz.func8 rfl Tryz.ntmps8 rfl ?_;intro β hM;refine bA ?_
  have hxsl:x.sides.list.length≤140737488355328∧True:=⟨by omega,trivial⟩
  have husl:u.sides.list.length≤140737488355328∧True:=⟨by omega,trivial⟩
  refine bF<|fG rfl rfl rfl rfl rfl rfl fun b1=>?_;refine fG rfl rfl rfl rfl rfl rfl fun b2=>?_;refine sp hT ?_;refine nn<|sr<|bO Tryz.func10 (shown8_spec) rfl rfl .nil ⟨Has.of mT0,trivial⟩ fun _=>?_;refine sp hT ?_;refine nn<|bA<|sr<|ss (ldN hT (bL kT1)) ?_;refine bO Tryz.func16 (iS x hxsl.1) rfl rfl .nil ⟨iA (Has.of mT1),trivial⟩ fun _=>?_;refine sp2 hT ?_;refine cG (fun hg27=>?_) (fun hg27=>?_)
  · have hg27:=fZ hg27;refine sk3 ?_;refine sp hT ?_;refine nn<|cK rfl rfl ?_;refine sr<|sp2 hT ?_;refine nn<|bG<|bC ?_;exact bQ () rfl (bD rfl) .nil trivial (rfl)
  have hg27:=fL hg27;refine ss (ldN hT (bL .head)) ?_;refine bO Tryz.func16 (iS u husl.1) rfl rfl .nil ⟨iA (Has.of mT2),trivial⟩ fun _=>?_;refine sp2 hT ?_;refine nn<|bH rfl (fun hc31=>?_) (fun hc31=>?_)
  · have hc31:=fZ hc31;refine sr<|sp2 hT ?_;refine nn<|bG<|bC ?_;exact bQ () rfl (bD rfl) .nil trivial (rfl)
  have hc31:=fL hc31;have hra:=hg27;have hrb:=hc31;refine bK<|bB<|sr<|cE rfl rfl rfl rfl nZ rfl fun b3=>?_;refine nn<|bA<|bA ?_;have hI2: ∀a∈[x,u],a.sides.list.length≤140737488355328:=by intro a ha;simp only [List.mem_cons,List.not_mem_nil,or_false] at ha;rcases ha with rfl | rfl;all_goals first | exact hxsl.1 | exact husl.1
  refine dL (t:=60) jK ?_;refine bW (hO []) (Has.each_nil) ?_;refine bF<|ss (ldN hT (bL kT3)) ?_;refine ss (ldN hT (bL kT2)) ?_;refine tZ (u:=x) (v:=u) rfl rfl rfl rfl rfl rfl fun b4=>?_;refine dB (E:=iZ) (xs:=[x,u]) .head (by simp [maxLen]) ?_;refine bX .head ?_;refine sp2 hT ?_;refine nn<|bR<|dD (ι:=Nat×List InputV×Option Addr×Nat) [(0,_),(4,_),(5,_),(7,_),(8,_),(35,_),(36,_)] ⟨rfl,rfl,rfl,rfl,rfl,rfl,rfl,trivial⟩ (fun⟨k,xs,I,ci⟩=>[(37,.int .i64 (k:Nat))]) (fun⟨k,xs,I,ci⟩=>[.obj b3 (.cells [.slice I xs.length ci,.slice none 0 0].toArray 25),jK.row (.slice I xs.length ci) 60 xs]) (fun⟨k,xs,I,ci⟩=>[Fact.pure (k≤2∧xs.map InputV.inp=(vIns x u).take k),hO xs]) (fun⟨k,xs,I,ci⟩=>2-k) (0,[],none,0) ⟨rfl,trivial⟩ (.cons kT1 (.cons .head .nil)) ⟨Has.pure (⟨by omega,rfl⟩),Has.of mT1,trivial⟩ ?_;rintro⟨k,xs,I,ci⟩;dsimp only;refine cF (Has.of mT0) fun hinv6=>?_;refine sr<|sp hT ?_;refine nn<|bA<|bH rfl (fun hc38=>?_) (fun hc38=>?_)
  · have hc38:=of_decide_eq_true hc38;refine bK<|bB<|bA<|bR<|bA ?_
    obtain⟨y,hy⟩: ∃q,[x,u][k]?=some q:=⟨_,List.getElem?_eq_getElem (by simp;omega)⟩
    have hxl:xs.length≤2:=by have:=congrArg List.length hinv6.2;simp at this;omega
    have hys:y.sides.list.length≤4:=by have:=List.mem_of_getElem? hy;simp only [List.mem_cons,List.not_mem_nil,or_false] at this;rcases this with rfl | rfl;all_goals first | exact gV hra | exact gV hrb
    refine bW (gI y) (Has.each (Has.each_cons (Has.of mT5) (Has.each_cons (Has.of mT6) Has.each_nil)) (List.mem_of_getElem? hy)) ?_;refine bW (cT.sl (.slice y.sides.addr y.sides.list.length y.sides.cap) y.sides.list) (iA (Has.of mT0)) ?_;refine bF<|sp hT ?_;refine ss (bS hT (k:=k) (bJ (Has.of mT4)) rfl rfl rfl rfl rfl rfl rfl (by simp;omega)) ?_;refine ss (dK hT (cR.knows (bJ (Has.of mT4)) (k:=k) (x:=y) hy 0) rfl rfl rfl rfl rfl) ?_;refine cE rfl rfl rfl rfl jS rfl fun b5=>?_;refine sp hT ?_;refine sto hT .head ?_;refine nn<|sr<|ss (bY rfl rfl built_two) ?_;refine sp hT ?_
    obtain⟨nm,hnm⟩: ∃b',[([97]:Bs),[98]][k]?=some b':=⟨_,List.getElem?_eq_getElem (by simp;omega)⟩
    refine ss (sti_two_str rfl rfl rfl hnm) ?_;refine ss (bY rfl rfl (pW _)) ?_;refine cE rfl rfl rfl rfl jE rfl fun b6=>?_;refine sto hT .head ?_;refine nn<|bA<|sr<|sp hT ?_;refine ss (ldO hT (bL kT1)) ?_;refine sp2 hT ?_;refine nn<|bR<|dL (t:=62) zQ ?_;refine dD (ι:=Nat×List gG×Option Addr×Nat) [(0,_),(4,_),(5,_),(7,_),(8,_),(10,_),(11,_),(35,_),(36,_),(37,_),(48,_)] ⟨rfl,rfl,rfl,rfl,rfl,rfl,rfl,rfl,rfl,rfl,rfl,trivial⟩ (fun⟨j,sides,S,c2⟩=>[(49,.int .i64 (j:Nat))]) (fun⟨j,sides,S,c2⟩=>[.obj b6 (.cells [.string (bs nm),.int .i64 0,.slice S sides.length c2].toArray 60),zQ.row (.slice S sides.length c2) 62 sides]) (fun⟨j,sides,S,c2⟩=>[Fact.pure (j≤y.sides.list.length∧sides.map gG.sd=(y.sides.list.take j).map fun n=>⟨[],n⟩)]) (fun⟨j,sides,S,c2⟩=>y.sides.list.length-j) (0,[],none,0) ⟨rfl,trivial⟩ (.cons kT1 (.cons .head .nil)) ⟨Has.pure (⟨by omega,rfl⟩),trivial⟩ ?_;rintro⟨j,sides,S,c2⟩;dsimp only;refine cF (Has.of mT0) fun hinv10=>?_;refine sr<|sp hT ?_;refine nn<|bA<|bH rfl (fun hc50=>?_) (fun hc50=>?_)
    · have hc50:=of_decide_eq_true hc50;refine bK<|bB<|bA<|bR<|sr<|sp2 hT ?_;refine nn ?_;have hsl:sides.length=j:=by have:=congrArg List.length hinv10.2;simp at this;omega
      refine pF 11 _ _ [(true,0),(true,1),(true,2),(true,3),(true,4),(true,5),(true,6),(true,7),(false,8),(false,9),(true,10)] cW (by decide+kernel) (.cons .head (.cons kT1 (.cons kT1 (.cons kT1 (.cons kT1 (.cons kT1 .nil)))))) bE.self ?_;refine puL hT ?_;refine stL rfl (ldO hT (dZ .head)) ?_;refine puL hT ?_;refine stL rfl (ldO hT (bL kT1)) ?_;refine puL hT ?_
      obtain⟨x7,hx8⟩: ∃x',y.sides.list[j]?=some x':=⟨_,List.getElem?_eq_getElem (by omega)⟩
      refine stL rfl (bS hT (k:=j) (bJ (Has.of mT1)) rfl rfl rfl rfl rfl rfl rfl (by omega)) ?_;refine stL rfl (cD hT (cR.knows (bJ (Has.of mT1)) (k:=j) (x:=x7) hx8 0) rfl rfl rfl rfl rfl) ?_;refine stL rfl (bY rfl rfl (qL _)) ?_;refine iM (o:=_) rfl ?_;refine vD (m:=(⟨[],x7⟩:gG)) rfl rfl rfl rfl rfl fun b9=>?_;refine iK (.cons kT1 (.cons kT2 (.cons kT2 (.cons kT2 (.cons kT2 (.cons kT2 .nil)))))) (bE.drop 0) ?_;refine iM (o:=_) rfl ?_;refine vO kT2 (dF .head rfl) rfl rfl rfl rfl rfl rfl rfl (by have:=hys;have:=hinv10.1;have:=hsl;simp;omega) fun A10 c11=>?_;refine iK (.cons kT2 (.cons kT2 (.cons kT2 (.cons kT2 (.cons kT2 (.cons kT2 .nil)))))) (bE.drop 0) ?_;refine puL hT ?_;refine jX (o:=_) rfl ?_;refine sto hT kT2 ?_;refine lW<|cC<|bB<|bF<|sp hT ?_;refine bP (z':=(((j+1):Nat):Int)) (cL (by omega) (by omega)) ?_;refine sp hT ?_;refine nn ?_;exact cP (j+1,sides++[(⟨[],x7⟩:gG)],A10,c11) (by dsimp only;omega) ⟨rfl,trivial⟩ ⟨rfl,rfl,rfl,rfl,rfl,rfl,rfl,rfl,rfl,rfl,rfl,trivial⟩ (.cons .head (.cons .head (.cons kT1 (.cons kT1 (.cons kT1 (.cons kT1 (.cons kT1 .nil))))))) ⟨Has.pure (⟨by dsimp only;omega,side_step hinv10.2 hx8⟩),trivial⟩ (bE.drop 1)
    have hc50:=Int.not_lt.1 (of_decide_eq_false hc50);refine cY<|cM<|cM<|cX<|bB ?_;have hsd:sides.map gG.sd=y.sides.list.map fun n=>⟨[],n⟩:=by rw [hinv10.2,List.take_of_length_le (by omega)]
    refine bX kT1 ?_;refine bW (hO (xs++[(⟨nm,0,⟨S,c2,sides⟩⟩:InputV)])) (yH (Has.of mT5) (Has.of mT0)) ?_;refine bF<|sp hT ?_;refine ss (ldO hT (bL kT2)) ?_;refine ss (ldN hT (bL .head)) ?_;refine tE (m:=(⟨nm,0,⟨S,c2,sides⟩⟩:InputV)) rfl rfl rfl rfl rfl fun b12=>?_;refine uF kT4 (dF .head rfl) rfl rfl rfl rfl rfl rfl rfl (by have:=hxl;simp;omega) fun A13 c14=>?_;refine sp hT ?_;refine sto hT kT4 ?_;refine dR<|cC<|bB<|bF<|sp hT ?_;refine bP (z':=(((k+1):Nat):Int)) (cL (by omega) (by omega)) ?_;refine sp hT ?_;refine nn ?_;exact cP (k+1,xs++[(⟨nm,0,⟨S,c2,sides⟩⟩:InputV)],A13,c14) (by dsimp only;omega) ⟨rfl,trivial⟩ ⟨rfl,rfl,rfl,rfl,rfl,rfl,rfl,trivial⟩ (.cons .head (.cons .head (.cons kT3 (.cons kT3 .nil)))) ⟨Has.pure (⟨by dsimp only;omega,vins_step hinv6.2 hnm hy hsd⟩),Has.of mT0,trivial⟩ (bE.drop 7)
  have hc38:=Int.not_lt.1 (of_decide_eq_false hc38);refine cY<|cM<|cM<|cX<|bB<|bA<|bX kT1 ?_;refine bF<|ss (bY rfl rfl (gM _ _)) ?_;refine ss (bY rfl rfl (gM _ _)) ?_;refine sp hT ?_;refine ss (bY rfl rfl (kU _ _)) ?_;refine xI (u:=⟨2,0,0,[97],⟨none,0,[]⟩⟩) (v:=⟨2,0,0,[98],⟨none,0,[]⟩⟩) (m:=⟨4,0,(f:Nat),[],⟨none,0,[]⟩⟩) rfl rfl rfl rfl rfl rfl rfl fun b15=>?_;refine dB (E:=jZ) (xs:=[(⟨2,0,0,[97],⟨none,0,[]⟩⟩:ItemV),⟨2,0,0,[98],⟨none,0,[]⟩⟩,⟨4,0,(f:Nat),[],⟨none,0,[]⟩⟩]) .head (by simp [maxLen]) ?_;refine bX .head ?_;refine sp hT ?_;refine nn<|sr<|ss (bY rfl rfl (gM _ _)) ?_;refine ss (bY rfl rfl (gM _ _)) ?_;refine sp hT ?_;refine ss (bY rfl rfl (kU _ _)) ?_;refine xI (u:=⟨2,0,0,[97],⟨none,0,[]⟩⟩) (v:=⟨2,0,0,[98],⟨none,0,[]⟩⟩) (m:=⟨7,0,(f:Nat),[],⟨none,0,[]⟩⟩) rfl rfl rfl rfl rfl rfl rfl fun b16=>?_;refine dB (E:=jZ) (xs:=[(⟨2,0,0,[97],⟨none,0,[]⟩⟩:ItemV),⟨2,0,0,[98],⟨none,0,[]⟩⟩,⟨7,0,(f:Nat),[],⟨none,0,[]⟩⟩]) .head (by simp [maxLen]) ?_;refine bX .head ?_;refine sp hT ?_;refine nn<|sr<|sp hT ?_;refine ss (bY rfl rfl (iL _ _ _)) ?_;refine pV (m:=(⟨[],0,⟨(some ⟨b15,0,none⟩),3,[(⟨2,0,0,[97],⟨none,0,[]⟩⟩:ItemV),⟨2,0,0,[98],⟨none,0,[]⟩⟩,⟨4,0,(f:Nat),[],⟨none,0,[]⟩⟩]⟩⟩:LineV)) rfl rfl rfl rfl rfl fun b17=>?_;refine dB (E:=mL) (xs:=[(⟨[],0,⟨(some ⟨b15,0,none⟩),3,[(⟨2,0,0,[97],⟨none,0,[]⟩⟩:ItemV),⟨2,0,0,[98],⟨none,0,[]⟩⟩,⟨4,0,(f:Nat),[],⟨none,0,[]⟩⟩]⟩⟩:LineV)]) .head (by simp [maxLen]) ?_;refine bX .head ?_;refine bW (jH [(⟨[],0,⟨(some ⟨b15,0,none⟩),3,[(⟨2,0,0,[97],⟨none,0,[]⟩⟩:ItemV),⟨2,0,0,[98],⟨none,0,[]⟩⟩,⟨4,0,(f:Nat),[],⟨none,0,[]⟩⟩]⟩⟩:LineV)]) (Has.each_cons (Has.and (Has.of mT2) (Has.each_cons jA (Has.each_cons jA (Has.each_cons jA Has.each_nil)))) Has.each_nil) ?_;have hprp:(⟨⟨I,ci,xs⟩,⟨(some ⟨b17,0,none⟩),1,[(⟨[],0,⟨(some ⟨b15,0,none⟩),3,[(⟨2,0,0,[97],⟨none,0,[]⟩⟩:ItemV),⟨2,0,0,[98],⟨none,0,[]⟩⟩,⟨4,0,(f:Nat),[],⟨none,0,[]⟩⟩]⟩⟩:LineV)]⟩⟩:ProgV).pr=jT 4 (f:Nat) x.arr u.arr:=bFu (k:=k) (by omega) hinv6.2;have hokp:=bHw hprp hra hrb;refine sp hT ?_;refine sto hT .head ?_;refine nn<|sr<|ss (ldN hT (bL .head)) ?_;refine ss (ldN hT (bL kT2)) ?_;refine ss (ldN hT (bL kT1)) ?_;refine tZ (u:=x) (v:=u) rfl rfl rfl rfl rfl rfl fun b18=>?_;refine dB (E:=iZ) (xs:=[x,u]) .head (by simp [maxLen]) ?_;refine bX .head ?_;have spml:=sY (⟨⟨I,ci,xs⟩,⟨(some ⟨b17,0,none⟩),1,[(⟨[],0,⟨(some ⟨b15,0,none⟩),3,[(⟨2,0,0,[97],⟨none,0,[]⟩⟩:ItemV),⟨2,0,0,[98],⟨none,0,[]⟩⟩,⟨4,0,(f:Nat),[],⟨none,0,[]⟩⟩]⟩⟩:LineV)]⟩⟩:ProgV) hokp.1 hokp.2.1 hokp.2.2 none (some ⟨b18,0,none⟩) 0 2 [] [x,u] (by decide) hI2;rw [hprp] at spml;have hvlml:=bBf hf (.inl ⟨rfl,rfl⟩) hra hrb;refine bO Tryz.func13 spml rfl rfl .nil ⟨(Has.of mT10),(Has.of mT5),(Has.of mT7),(Has.of mT2),(Has.of mT1),jA,(Has.of mT0),(Has.each_cons (Has.of bHd) (Has.each_cons (Has.of xC) Has.each_nil)),trivial⟩ fun⟨A19,c20,xs21⟩=>?_;refine cF (Has.of mT0) fun hxml=>?_;refine sp3 hT ?_;refine cE rfl rfl rfl rfl xS rfl fun b22=>?_;refine sp hT ?_;refine sto hT .head ?_;refine nn<|sr<|sp hT ?_;refine ss (ldN hT (bL kT3)) ?_;refine ss (ldN hT (bL kT2)) ?_;refine bO Tryz.func19 (bEh (f:Nat) x hra u hrb) rfl rfl .nil ⟨(Has.of bBo),(Has.of (.tail _ (.tail _ (.tail _ (.tail _ (.tail _ (.tail _ (.tail _ (.tail _ (.tail _ (.tail _ (.tail _ (.tail _ (.tail _ (.tail _ (.tail _ mT0)))))))))))))))),trivial⟩ fun y23=>?_;refine cF (Has.of mT1) fun hdyadAy=>?_;refine sp3 hT ?_;refine cE rfl rfl rfl rfl jS rfl fun b24=>?_;refine sto hT .head ?_;refine sp hT ?_;refine nn<|bA<|bA<|cU _ _ [(true,0),(true,1),(true,2),(true,3),(true,4),(true,5),(true,6),(true,7),(true,8),(true,9),(true,10),(true,11),(true,12),(true,13),(true,14),(true,15),(true,16),(true,17),(false,18),(true,19),(true,20),(true,21),(true,22)] cW (by decide+kernel) (.cons .head (.cons .head (.cons .head (.cons .head (.cons .head .nil))))) bE.self ?_;refine stM rfl (ldN hT (bL kT1)) ?_;refine stM rfl (bY rfl rfl (vF)) ?_;refine stM rfl (pU ⟨(kR (jT 4 (f:Nat) x.arr u.arr) [] ([x,u].map ArrV.arr)).2.1,(kR (jT 4 (f:Nat) x.arr u.arr) [] ([x,u].map ArrV.arr)).2.2⟩ ⟨0,0⟩ rfl rfl rfl) ?_;refine puM hT ?_;refine puM hT ?_;refine puM hT ?_;refine cH (t':=false) (verb_ne hvlml.1) ?_;refine puM hT ?_;refine puM hT ?_;refine puM hT ?_;refine puM hT ?_;refine cG (fun hg109=>?_) (fun hg109=>?_)
  · have hg109:=eq_of_beq hg109;obtain⟨z25,hzml,hzaml,hzsml,hzdml⟩:=bHf hxml hvlml.2 (beq_iff_eq.1 (by assumption)) (tF (beq_iff_eq.1 (by assumption)));subst hzml;refine bW (gI z25) (Has.each (Has.of mT4) mT0) ?_;refine puM hT ?_;refine puM hT ?_;refine puM hT ?_;refine cH (t':=false) (rfl) ?_;refine puM hT ?_;refine puM hT ?_;refine stM rfl (bS hT (k:=0) (bJ (Has.of mT3)) rfl rfl rfl rfl rfl rfl rfl (by simp)) ?_;refine stM rfl (dK hT (cR.knows (bJ (Has.of mT3)) (k:=0) (x:=z25) rfl 0) rfl rfl rfl rfl rfl) ?_;refine stM rfl (ldN hT (bL .head)) ?_;refine cA (o:=_) rfl ?_;refine bO Tryz.func17 (tM z25 y23 hzsml hzdml) rfl rfl .nil ⟨iA (Has.of mT0),iR (Has.of mT0),iA (Has.of mT1),iR (Has.of mT1),trivial⟩ fun _=>?_;refine cH (t':=true) (decide_eq_true (by rw [hzaml,hdyadAy])) ?_;refine cB (.cons .head (.cons .head (.cons .head (.cons .head (.cons .head .nil))))) (bE.drop 1) ?_;refine puM hT ?_;refine puM hT ?_;refine puM hT ?_;refine puM hT ?_;refine cI<|bB<|cO rfl rfl ?_;refine bK<|bB<|sr<|sp hT ?_;refine ss (bY rfl rfl (iL _ _ _)) ?_;refine pV (m:=(⟨[],0,⟨(some ⟨b16,0,none⟩),3,[(⟨2,0,0,[97],⟨none,0,[]⟩⟩:ItemV),⟨2,0,0,[98],⟨none,0,[]⟩⟩,⟨7,0,(f:Nat),[],⟨none,0,[]⟩⟩]⟩⟩:LineV)) rfl rfl rfl rfl rfl fun b26=>?_;refine dB (E:=mL) (xs:=[(⟨[],0,⟨(some ⟨b16,0,none⟩),3,[(⟨2,0,0,[97],⟨none,0,[]⟩⟩:ItemV),⟨2,0,0,[98],⟨none,0,[]⟩⟩,⟨7,0,(f:Nat),[],⟨none,0,[]⟩⟩]⟩⟩:LineV)]) .head (by simp [maxLen]) ?_;refine bX .head ?_;refine bW (jH [(⟨[],0,⟨(some ⟨b16,0,none⟩),3,[(⟨2,0,0,[97],⟨none,0,[]⟩⟩:ItemV),⟨2,0,0,[98],⟨none,0,[]⟩⟩,⟨7,0,(f:Nat),[],⟨none,0,[]⟩⟩]⟩⟩:LineV)]) (Has.each_cons (Has.and (Has.of mT10) (Has.each_cons jA (Has.each_cons jA (Has.each_cons jA Has.each_nil)))) Has.each_nil) ?_;have hprq:(⟨⟨I,ci,xs⟩,⟨(some ⟨b26,0,none⟩),1,[(⟨[],0,⟨(some ⟨b16,0,none⟩),3,[(⟨2,0,0,[97],⟨none,0,[]⟩⟩:ItemV),⟨2,0,0,[98],⟨none,0,[]⟩⟩,⟨7,0,(f:Nat),[],⟨none,0,[]⟩⟩]⟩⟩:LineV)]⟩⟩:ProgV).pr=jT 7 (f:Nat) x.arr u.arr:=bFu (k:=k) (by omega) hinv6.2;have hokq:=bHw hprq hra hrb;refine sp hT ?_;refine sto hT kT2 ?_;refine nn<|sr<|ss (ldN hT (bL .head)) ?_;refine ss (ldN hT (bL kT4)) ?_;refine ss (ldN hT (bL kT3)) ?_;refine tZ (u:=x) (v:=u) rfl rfl rfl rfl rfl rfl fun b27=>?_;refine dB (E:=iZ) (xs:=[x,u]) .head (by simp [maxLen]) ?_;refine bX .head ?_;have spmm:=sY (⟨⟨I,ci,xs⟩,⟨(some ⟨b26,0,none⟩),1,[(⟨[],0,⟨(some ⟨b16,0,none⟩),3,[(⟨2,0,0,[97],⟨none,0,[]⟩⟩:ItemV),⟨2,0,0,[98],⟨none,0,[]⟩⟩,⟨7,0,(f:Nat),[],⟨none,0,[]⟩⟩]⟩⟩:LineV)]⟩⟩:ProgV) hokq.1 hokq.2.1 hokq.2.2 none (some ⟨b27,0,none⟩) 0 2 [] [x,u] (by decide) hI2;rw [hprq] at spmm;have hvlmm:=bBf hf (.inr ⟨rfl,rfl⟩) hra hrb;refine bO Tryz.func13 spmm rfl rfl .nil ⟨(Has.of (.tail _ (.tail _ (.tail _ (.tail _ (.tail _ (.tail _ (.tail _ (.tail _ (.tail _ (.tail _ (.tail _ (.tail _ (.tail _ (.tail _ (.tail _ (.tail _ (.tail _ (.tail _ (.tail _ mT0)))))))))))))))))))),(Has.of bBo),(Has.of (.tail _ (.tail _ (.tail _ (.tail _ (.tail _ (.tail _ (.tail _ (.tail _ (.tail _ (.tail _ (.tail _ (.tail _ (.tail _ (.tail _ (.tail _ (.tail _ mT0))))))))))))))))),(Has.of mT2),(Has.of mT1),jA,(Has.of mT0),(Has.each_cons (Has.of (.tail _ (.tail _ (.tail _ (.tail _ (.tail _ (.tail _ (.tail _ (.tail _ (.tail _ (.tail _ (.tail _ (.tail _ (.tail _ (.tail _ (.tail _ (.tail _ (.tail _ (.tail _ (.tail _ (.tail _ mT0))))))))))))))))))))) (Has.each_cons (Has.of (.tail _ (.tail _ (.tail _ (.tail _ (.tail _ (.tail _ (.tail _ (.tail _ (.tail _ (.tail _ (.tail _ (.tail _ (.tail _ (.tail _ (.tail _ (.tail _ (.tail _ (.tail _ (.tail _ (.tail _ (.tail _ mT0)))))))))))))))))))))) Has.each_nil)),trivial⟩ fun⟨A28,c29,xs30⟩=>?_;refine cF (Has.of mT0) fun hxmm=>?_;refine sp3 hT ?_;refine cE rfl rfl rfl rfl xS rfl fun b31=>?_;refine sp hT ?_;refine sto hT .head ?_;refine nn<|sr<|sp hT ?_;refine ss (ldN hT (bL kT5)) ?_;refine ss (ldN hT (bL kT4)) ?_;refine bO Tryz.func20 (uY (f:Nat) x hra u hrb) rfl rfl .nil ⟨(Has.of (.tail _ (.tail _ (.tail _ (.tail _ (.tail _ (.tail _ (.tail _ (.tail _ (.tail _ (.tail _ (.tail _ (.tail _ (.tail _ (.tail _ (.tail _ (.tail _ (.tail _ (.tail _ (.tail _ (.tail _ (.tail _ (.tail _ (.tail _ mT0)))))))))))))))))))))))),(Has.of (.tail _ (.tail _ (.tail _ (.tail _ (.tail _ (.tail _ (.tail _ (.tail _ (.tail _ (.tail _ (.tail _ (.tail _ (.tail _ (.tail _ (.tail _ (.tail _ (.tail _ (.tail _ (.tail _ (.tail _ (.tail _ (.tail _ (.tail _ (.tail _ mT0))))))))))))))))))))))))),trivial⟩ fun y32=>?_;refine cF (Has.of mT1) fun houterAy=>?_;refine sp3 hT ?_;refine cE rfl rfl rfl rfl jS rfl fun b33=>?_;refine sto hT .head ?_;refine sp hT ?_;refine nn<|bA<|cU _ _ [(true,0),(true,1),(true,2),(true,3),(true,4),(true,5),(true,6),(true,7),(true,8),(true,9),(true,10),(true,11),(true,12),(true,13),(true,14),(true,15),(true,16),(true,17),(true,18),(true,19),(true,20),(false,21),(true,22),(true,23),(true,24),(true,25)] cW (by decide+kernel) (.cons .head (.cons .head (.cons .head (.cons .head (.cons .head (.cons .head (.cons .head .nil))))))) bE.self ?_;refine puM hT ?_;refine puM hT ?_;refine stM rfl (ldN hT (bL kT1)) ?_;refine stM rfl (bY rfl rfl (vF)) ?_;refine stM rfl (pU ⟨(kR (jT 7 (f:Nat) x.arr u.arr) [] ([x,u].map ArrV.arr)).2.1,(kR (jT 7 (f:Nat) x.arr u.arr) [] ([x,u].map ArrV.arr)).2.2⟩ ⟨0,0⟩ rfl rfl rfl) ?_;refine puM hT ?_;refine puM hT ?_;refine puM hT ?_;refine cH (t':=true) (verb_eq hvlmm.1) ?_;refine puM hT ?_;refine puM hT ?_;refine puM hT ?_;refine puM hT ?_;refine puM hT ?_;refine cG (fun hg154=>?_) (fun hg154=>?_)
    · have hg154:=bne_iff_ne.1 hg154;refine bT rfl rfl rfl rfl ?_;refine bT rfl rfl rfl rfl ?_;refine bT rfl rfl rfl rfl ?_;refine bT rfl rfl rfl rfl ?_;refine bT rfl rfl rfl rfl ?_;refine bT rfl rfl rfl rfl ?_;refine bT rfl rfl rfl rfl ?_;refine bT rfl rfl rfl rfl ?_;refine cA (o:=_) rfl ?_;refine sk ?_;refine cB (.cons .head (.cons .head (.cons .head (.cons .head (.cons .head (.cons .head (.cons .head .nil))))))) (bE.drop 0) ?_;refine bT rfl rfl rfl rfl ?_;refine puM hT ?_;refine puM hT ?_;refine puM hT ?_;refine cI<|bB<|bG ?_;exact bQ () rfl (bD rfl) .nil trivial (rfl)
    have hg154:=bne_eq_false_iff_eq.1 hg154;obtain⟨z34,hzmm,hzamm,hzsmm,hzdmm⟩:=bHf hxmm hvlmm.2 (hg154) (pL (hg154));subst hzmm;refine bW (gI z34) (Has.each (Has.of mT4) mT0) ?_;refine puM hT ?_;refine puM hT ?_;refine puM hT ?_;refine cH (t':=true) (rfl) ?_;refine puM hT ?_;refine puM hT ?_;refine stM rfl (bS hT (k:=0) (bJ (Has.of mT3)) rfl rfl rfl rfl rfl rfl rfl (by simp)) ?_;refine stM rfl (dK hT (cR.knows (bJ (Has.of mT3)) (k:=0) (x:=z34) rfl 0) rfl rfl rfl rfl rfl) ?_;refine stM rfl (ldN hT (bL .head)) ?_;refine cA (o:=_) rfl ?_;refine bO Tryz.func17 (tM z34 y32 hzsmm hzdmm) rfl rfl .nil ⟨iA (Has.of mT0),iR (Has.of mT0),iA (Has.of mT1),iR (Has.of mT1),trivial⟩ fun _=>?_;refine cH (t':=true) (decide_eq_true (by rw [hzamm,houterAy])) ?_;refine cB (.cons .head (.cons .head (.cons .head (.cons .head (.cons .head (.cons .head (.cons .head .nil))))))) (bE.drop 1) ?_;refine puM hT ?_;refine puM hT ?_;refine puM hT ?_;refine puM hT ?_;refine cI<|bB<|bG ?_;exact bQ () rfl (bD rfl) .nil trivial (rfl)
  have hg109:=beq_eq_false_iff_ne.1 hg109;refine bT rfl rfl rfl rfl ?_;refine bT rfl rfl rfl rfl ?_;refine bT rfl rfl rfl rfl ?_;refine bT rfl rfl rfl rfl ?_;refine bT rfl rfl rfl rfl ?_;refine bT rfl rfl rfl rfl ?_;refine bT rfl rfl rfl rfl ?_;refine bT rfl rfl rfl rfl ?_;refine cA (o:=_) rfl ?_;refine sk ?_;refine cB (.cons .head (.cons .head (.cons .head (.cons .head (.cons .head .nil))))) (bE.drop 0) ?_;refine bT rfl rfl rfl rfl ?_;refine bT rfl rfl rfl rfl ?_;refine puM hT ?_;refine puM hT ?_;refine cI<|bB<|cO rfl rfl ?_;refine bK<|bB<|sr<|sp hT ?_;refine ss (bY rfl rfl (iL _ _ _)) ?_;refine pV (m:=(⟨[],0,⟨(some ⟨b16,0,none⟩),3,[(⟨2,0,0,[97],⟨none,0,[]⟩⟩:ItemV),⟨2,0,0,[98],⟨none,0,[]⟩⟩,⟨7,0,(f:Nat),[],⟨none,0,[]⟩⟩]⟩⟩:LineV)) rfl rfl rfl rfl rfl fun b35=>?_;refine dB (E:=mL) (xs:=[(⟨[],0,⟨(some ⟨b16,0,none⟩),3,[(⟨2,0,0,[97],⟨none,0,[]⟩⟩:ItemV),⟨2,0,0,[98],⟨none,0,[]⟩⟩,⟨7,0,(f:Nat),[],⟨none,0,[]⟩⟩]⟩⟩:LineV)]) .head (by simp [maxLen]) ?_;refine bX .head ?_;refine bW (jH [(⟨[],0,⟨(some ⟨b16,0,none⟩),3,[(⟨2,0,0,[97],⟨none,0,[]⟩⟩:ItemV),⟨2,0,0,[98],⟨none,0,[]⟩⟩,⟨7,0,(f:Nat),[],⟨none,0,[]⟩⟩]⟩⟩:LineV)]) (Has.each_cons (Has.and (Has.of mT9) (Has.each_cons jA (Has.each_cons jA (Has.each_cons jA Has.each_nil)))) Has.each_nil) ?_;have hprq:(⟨⟨I,ci,xs⟩,⟨(some ⟨b35,0,none⟩),1,[(⟨[],0,⟨(some ⟨b16,0,none⟩),3,[(⟨2,0,0,[97],⟨none,0,[]⟩⟩:ItemV),⟨2,0,0,[98],⟨none,0,[]⟩⟩,⟨7,0,(f:Nat),[],⟨none,0,[]⟩⟩]⟩⟩:LineV)]⟩⟩:ProgV).pr=jT 7 (f:Nat) x.arr u.arr:=bFu (k:=k) (by omega) hinv6.2;have hokq:=bHw hprq hra hrb;refine sp hT ?_;refine sto hT kT2 ?_;refine nn<|sr<|ss (ldN hT (bL .head)) ?_;refine ss (ldN hT (bL kT4)) ?_;refine ss (ldN hT (bL kT3)) ?_;refine tZ (u:=x) (v:=u) rfl rfl rfl rfl rfl rfl fun b36=>?_;refine dB (E:=iZ) (xs:=[x,u]) .head (by simp [maxLen]) ?_;refine bX .head ?_;have spmm:=sY (⟨⟨I,ci,xs⟩,⟨(some ⟨b35,0,none⟩),1,[(⟨[],0,⟨(some ⟨b16,0,none⟩),3,[(⟨2,0,0,[97],⟨none,0,[]⟩⟩:ItemV),⟨2,0,0,[98],⟨none,0,[]⟩⟩,⟨7,0,(f:Nat),[],⟨none,0,[]⟩⟩]⟩⟩:LineV)]⟩⟩:ProgV) hokq.1 hokq.2.1 hokq.2.2 none (some ⟨b36,0,none⟩) 0 2 [] [x,u] (by decide) hI2;rw [hprq] at spmm;have hvlmm:=bBf hf (.inr ⟨rfl,rfl⟩) hra hrb;refine bO Tryz.func13 spmm rfl rfl .nil ⟨(Has.of (.tail _ (.tail _ (.tail _ (.tail _ (.tail _ (.tail _ (.tail _ (.tail _ (.tail _ (.tail _ (.tail _ (.tail _ (.tail _ (.tail _ (.tail _ (.tail _ (.tail _ (.tail _ mT0))))))))))))))))))),(Has.of mT13),(Has.of (.tail _ (.tail _ (.tail _ (.tail _ (.tail _ (.tail _ (.tail _ (.tail _ (.tail _ (.tail _ (.tail _ (.tail _ (.tail _ (.tail _ (.tail _ mT0)))))))))))))))),(Has.of mT2),(Has.of mT1),jA,(Has.of mT0),(Has.each_cons (Has.of (.tail _ (.tail _ (.tail _ (.tail _ (.tail _ (.tail _ (.tail _ (.tail _ (.tail _ (.tail _ (.tail _ (.tail _ (.tail _ (.tail _ (.tail _ (.tail _ (.tail _ (.tail _ (.tail _ mT0)))))))))))))))))))) (Has.each_cons (Has.of (.tail _ (.tail _ (.tail _ (.tail _ (.tail _ (.tail _ (.tail _ (.tail _ (.tail _ (.tail _ (.tail _ (.tail _ (.tail _ (.tail _ (.tail _ (.tail _ (.tail _ (.tail _ (.tail _ (.tail _ mT0))))))))))))))))))))) Has.each_nil)),trivial⟩ fun⟨A37,c38,xs39⟩=>?_;refine cF (Has.of mT0) fun hxmm=>?_;refine sp3 hT ?_;refine cE rfl rfl rfl rfl xS rfl fun b40=>?_;refine sp hT ?_;refine sto hT .head ?_;refine nn<|sr<|sp hT ?_;refine ss (ldN hT (bL kT5)) ?_;refine ss (ldN hT (bL kT4)) ?_;refine bO Tryz.func20 (uY (f:Nat) x hra u hrb) rfl rfl .nil ⟨(Has.of (.tail _ (.tail _ (.tail _ (.tail _ (.tail _ (.tail _ (.tail _ (.tail _ (.tail _ (.tail _ (.tail _ (.tail _ (.tail _ (.tail _ (.tail _ (.tail _ (.tail _ (.tail _ (.tail _ (.tail _ (.tail _ (.tail _ mT0))))))))))))))))))))))),(Has.of (.tail _ (.tail _ (.tail _ (.tail _ (.tail _ (.tail _ (.tail _ (.tail _ (.tail _ (.tail _ (.tail _ (.tail _ (.tail _ (.tail _ (.tail _ (.tail _ (.tail _ (.tail _ (.tail _ (.tail _ (.tail _ (.tail _ (.tail _ mT0)))))))))))))))))))))))),trivial⟩ fun y41=>?_;refine cF (Has.of mT1) fun houterAy=>?_;refine sp3 hT ?_;refine cE rfl rfl rfl rfl jS rfl fun b42=>?_;refine sto hT .head ?_;refine sp hT ?_;refine nn<|bA<|cU _ _ [(true,0),(true,1),(true,2),(true,3),(true,4),(true,5),(true,6),(true,7),(true,8),(true,9),(true,10),(true,11),(true,12),(true,13),(true,14),(true,15),(true,16),(true,17),(true,18),(true,19),(true,20),(false,21),(true,22),(true,23),(true,24),(true,25)] cW (by decide+kernel) (.cons .head (.cons .head (.cons .head (.cons .head (.cons .head (.cons .head (.cons .head .nil))))))) bE.self ?_;refine puM hT ?_;refine puM hT ?_;refine stM rfl (ldN hT (bL kT1)) ?_;refine stM rfl (bY rfl rfl (vF)) ?_;refine stM rfl (pU ⟨(kR (jT 7 (f:Nat) x.arr u.arr) [] ([x,u].map ArrV.arr)).2.1,(kR (jT 7 (f:Nat) x.arr u.arr) [] ([x,u].map ArrV.arr)).2.2⟩ ⟨0,0⟩ rfl rfl rfl) ?_;refine puM hT ?_;refine puM hT ?_;refine puM hT ?_;refine cH (t':=true) (verb_eq hvlmm.1) ?_;refine puM hT ?_;refine puM hT ?_;refine puM hT ?_;refine puM hT ?_;refine puM hT ?_;refine cG (fun hg154=>?_) (fun hg154=>?_)
  · have hg154:=bne_iff_ne.1 hg154;refine bT rfl rfl rfl rfl ?_;refine bT rfl rfl rfl rfl ?_;refine bT rfl rfl rfl rfl ?_;refine bT rfl rfl rfl rfl ?_;refine bT rfl rfl rfl rfl ?_;refine bT rfl rfl rfl rfl ?_;refine bT rfl rfl rfl rfl ?_;refine bT rfl rfl rfl rfl ?_;refine cA (o:=_) rfl ?_;refine sk ?_;refine cB (.cons .head (.cons .head (.cons .head (.cons .head (.cons .head (.cons .head (.cons .head .nil))))))) (bE.drop 0) ?_;refine bT rfl rfl rfl rfl ?_;refine puM hT ?_;refine puM hT ?_;refine puM hT ?_;refine cI<|bB<|bG ?_;exact bQ () rfl (bD rfl) .nil trivial (rfl)
  have hg154:=bne_eq_false_iff_eq.1 hg154;obtain⟨z43,hzmm,hzamm,hzsmm,hzdmm⟩:=bHf hxmm hvlmm.2 (hg154) (pL (hg154));subst hzmm;refine bW (gI z43) (Has.each (Has.of mT4) mT0) ?_;refine puM hT ?_;refine puM hT ?_;refine puM hT ?_;refine cH (t':=true) (rfl) ?_;refine puM hT ?_;refine puM hT ?_;refine stM rfl (bS hT (k:=0) (bJ (Has.of mT3)) rfl rfl rfl rfl rfl rfl rfl (by simp)) ?_;refine stM rfl (dK hT (cR.knows (bJ (Has.of mT3)) (k:=0) (x:=z43) rfl 0) rfl rfl rfl rfl rfl) ?_;refine stM rfl (ldN hT (bL .head)) ?_;refine cA (o:=_) rfl ?_;refine bO Tryz.func17 (tM z43 y41 hzsmm hzdmm) rfl rfl .nil ⟨iA (Has.of mT0),iR (Has.of mT0),iA (Has.of mT1),iR (Has.of mT1),trivial⟩ fun _=>?_;refine cH (t':=true) (decide_eq_true (by rw [hzamm,houterAy])) ?_;refine cB (.cons .head (.cons .head (.cons .head (.cons .head (.cons .head (.cons .head (.cons .head .nil))))))) (bE.drop 1) ?_;refine puM hT ?_;refine puM hT ?_;refine puM hT ?_;refine puM hT ?_;refine cI<|bB<|bG ?_;exact bQ () rfl (bD rfl) .nil trivial (rfl)
end Go.Proofs.YtciimjjleglmaaaGreatDoor.meanVerbs
