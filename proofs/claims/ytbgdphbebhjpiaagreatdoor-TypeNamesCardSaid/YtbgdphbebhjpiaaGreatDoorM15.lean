/- Texts of one proof, one behind the other: MeanC, MeanD, MeanE, Shown8, Laid8, LawG8. -/
import Derived.Test.YtbgdphbebhjpiaaGreatDoorM14
import Derived.Test.YtbgdphbebhjpiaaGreatDoorRows
import Derived.Test.YtbgdphbebhjpiaaGreatDoorM3
import Derived.Test.YtbgdphbebhjpiaaGreatDoorM10
import Derived.Deep.DeepWitnessRowRef
import Derived.Lib.LaidU8
import Derived.LaidLaws
import Derived.Lib.LaidIn
import Derived.Shelf.Vars
import Derived.Test.YtbgdphbebhjpiaaGreatDoorM1
import Derived.ProofKit
import Derived.OpenShut
import Derived.Carry
import Derived.SizedLaws
namespace Go.Proofs.YtbgdphbebhjpiaaGreatDoor
open Go.RowKit
section
variable {P : Program} {β : fV} {n : Nat} {Γ : Env} {H : List cA} {F : List Fact} {T : Tab}
theorem bLq{α:Type}{g:α→Fact}{xs:List α}(h:Has F (Fact.each xs g))(k:Nat):Has F (Fact.each (xs.take k) g):=fun S w q x hx=>h S w q x (List.mem_of_mem_take hx)
end
theorem flt_bad{f:Flt}(h:f.2≠0):(!nQ ⟨f.1,f.2⟩ ⟨0,0⟩)=true:=by
 have:isOk f=false:=Bool.eq_false_iff.2 fun k=>h (by rw [bAn.1 k]);have e:nQ ⟨f.1,f.2⟩ ⟨0,0⟩=isOk f:=rfl;rw [e,this];rfl
def x8:Arr:=⟨[3],[1,2,3]⟩
def okB (p:Prog):Bool:=
 (p.inputs.all fun x=>decide (x.name.length≤140737488355328)&&x.sides.all fun d=>decide (d.name.length≤140737488355328∧ -9223372036854775808≤d.n∧d.n≤9223372036854775807))&&
 (p.lines.all fun x=>decide (x.name.length≤140737488355328)&&x.items.all fun it=>decide (it.name.length≤140737488355328)&&it.nums.all fun z=>decide (-9223372036854775808≤z∧z≤9223372036854775807))&&
 decide (p.inputs.length≤140737488355328∧p.lines.length≤140737488355328)&&p.inputs.all fun x=>decide (x.sides.length≤4)
theorem ok_of{x:ProgV}(h:okB x.pr=true):(tT x∧x.inputs.list.length≤140737488355328∧x.lines.list.length≤140737488355328)∧ ∀y∈x.inputs.list,y.sides.list.length≤140737488355328:=by
 unfold okB at h;simp only [Bool.and_eq_true,List.all_eq_true,decide_eq_true_eq] at h;obtain⟨⟨⟨h1,h2⟩,h3,h4⟩,h5⟩:=h;refine⟨⟨⟨fun y hy=>?_,fun y hy=>?_⟩,by have:x.pr.inputs.length=x.inputs.list.length:=List.length_map _;omega,by have:x.pr.lines.length=x.lines.list.length:=List.length_map _;omega⟩,fun y hy=>?_⟩
 ·obtain⟨a,b⟩:=h1 y.inp (List.mem_map.2 ⟨y,hy,rfl⟩);exact⟨a,fun d hd=>b d.sd (List.mem_map.2 ⟨d,hd,rfl⟩)⟩
 ·obtain⟨a,b⟩:=h2 y.ln (List.mem_map.2 ⟨y,hy,rfl⟩);exact⟨a,fun d hd=>b d.it (List.mem_map.2 ⟨d,hd,rfl⟩)⟩
 ·have h6:=h5 y.inp (List.mem_map.2 ⟨y,hy,rfl⟩);have h7:y.inp.sides.length=y.sides.list.length:=List.length_map _;omega
abbrev bGp:List (String×DataW Unit):=Rows.meanVarsRow.laid
theorem vO{P:Program}{W:World}{name:String}{k:IntKind}{zs:List Int}{g:Nat}{t e:TypeId}{n:Nat}
  (hg:P.globalNamed name=some g) (hty:(P.globals[g]?).map (·.type)=some t) (ht:P.underlying t=some (.array n e)) (he:P.underlying e=some (.int k)) (hce:P.cellsOf e=1) (hct:P.cellsOf t=n)
  (h:Lib.VarReads P W name (Lib.tabData k zs)):Lib.TabIs P W name k zs:=by
 obtain⟨g',t',cs,fuel,p,hg',ht',hvar,hd⟩:=h;obtain rfl:=Option.some.inj (hg.symm.trans hg');obtain rfl:=Option.some.inj (hty.symm.trans ht');unfold Lib.TabIs;rw [hvar,←Lib.cells_of_tab ht he hce hct hd]
theorem var_lt{P:Program}{W:World}{name:String}{g:Nat}{cs:Array Value}(hg:P.globalNamed name=some g)(h:W.var? P name=some cs):g<W.heap.size:=by
 unfold World.var? at h;rw [hg] at h;simp only [Option.bind_some] at h
 cases hh:W.heap[g]? with
 | none=>rw [hh] at h;cases h
 | some o=>exact(Array.getElem?_eq_some_iff.1 hh).1
theorem cell_lt'{W:World}{g i:Nat}{v:Value}(h:W.cell? ⟨g,i,none⟩=some v):g<W.heap.size:=by
 unfold World.cell? at h
 cases hh:W.heap[g]? with
 | none=>rw [hh] at h;cases h
 | some o=>exact(Array.getElem?_eq_some_iff.1 hh).1
set_option maxRecDepth 1000000 in
theorem globF_of{W:World}(hL:laidMetH Tryz.prog bGp W)(hsh:W.ShapedOpen Tryz.prog):iK.p (fun b=>b<W.heap.size) W:=by
 have hL':laidMet Tryz.prog bGp W:=hL;have h0:Lib.TabIs Tryz.prog W "strings.asciiSpace" .u8 Lib.asciiSpaceTab:=vO (t:=273) (e:=5) (n:=256) named0 (by kernel_rfl) Tryz.underlying273 Tryz.underlying5 (by kernel_rfl) (by kernel_rfl)
  (Lib.laidMet.reads hL' (.tail _ (.tail _ (.tail _ (.tail _ (.tail _ (.tail _ (.tail _ (.head _)))))))))
 have h7:Lib.TabIs Tryz.prog W "internal/strconv.uint64pow10" .u64 Lib.pow10Tab:=vO (t:=386) (e:=243) (n:=20) named7 (by kernel_rfl) Tryz.underlying386 Tryz.underlying243 (by kernel_rfl) (by kernel_rfl)
  (Lib.laidMet.reads hL' (.tail _ (.tail _ (.head _))))
 obtain⟨m,h4⟩:=cell_of_shapedOpen_int (P:=Tryz.prog) (g:=0) (t:=3) (zero:= #[.int .i64 0]) hsh (of_decide_eq_true (by kernel_rfl)) (by kernel_rfl) rfl (by kernel_rfl) (by kernel_rfl) Tryz.underlying3;obtain⟨g',t',cs,fuel,p,hg',ht',hvar,hd⟩:=Lib.laidMet.reads hL' (n:= "strconv.ErrRange") (.tail _ (.tail _ (.tail _ (.tail _ (.head _)))));have hnE:Tryz.prog.globalNamed "strconv.ErrRange" =some 4:=by kernel_rfl
 obtain rfl:=Option.some.inj (hnE.symm.trans hg');obtain rfl:253=t':=Option.some.inj ((show(Tryz.prog.globals[4]?).map (·.type)=some 253 by kernel_rfl).symm.trans ht');obtain⟨f',u,v,hcs,_,_⟩:=iface_of_trod Tryz.underlying253 hd
 have hcs':cs= #[.iface u v]:=by
  cases cs;simp only at hcs;rw [hcs]
 subst hcs';have h3:W.cell? ⟨4,0,none⟩=some (.iface u v):=by simpa using World.var?_cell hnE hvar 0
 exact⟨⟨var_lt named0 h0,var_lt named7 h7,cell_lt' h4,cell_lt' h3⟩,h0,h7,⟨m,h4⟩,_,h3,.inr ⟨u,v,rfl⟩⟩
def flat1:DataW Unit→List Value
 | .lit (.int k n)=>[.int k n]
 | _=>[]
def flat2:DataW Unit→List Value
 | .agg l=>l.flatMap flat1
 | d=>flat1 d
def bKv:DataW Unit→Array Value
 | .agg l=>(l.flatMap flat2).toArray
 | _=> #[]
def whiteNums:List Int:=[9,13,1,32,133,101,160,5760,5600,8192,8202,1,8232,8233,1,8239,8287,48,12288,12288,1]
noncomputable def laidWorld (os:Os):World:=
 let N:=(World.settled Tryz.prog os).heap.size
 let w0:=World.holding Tryz.prog os ⟨#[.cells (whiteNums.map fun z=>Value.int .u16 z).toArray 338,.cells #[.slice (some ⟨N,0,none⟩) 7 7,.slice none 0 0,.int .i64 2] 335,
  .cells #[.string ⟨#[118,97,108,117,101,32,111,117,116,32,111,102,32,114,97,110,103,101]⟩] 374,.cells #[.string ⟨#[105,110,118,97,108,105,100,32,115,121,110,116,97,120]⟩] 374],#[],[]⟩
 let put (h:Array Obj) (g:Nat) (cs:Array Value):Array Obj:=h.modify g fun
  | .cells _ t frozen=> .cells cs t frozen
  | o=>o
 let h1:=put w0.heap 8 (bKv Rows.laid_math_bits_deBruijn32tab)
 let h2:=put h1 9 (bKv Rows.laid_math_bits_deBruijn64tab)
 let h3:=put h2 7 (bKv Rows.laid_internal_strconv_uint64pow10)
 let h4:=put h3 6 (bKv Rows.laid_unicode_utf8_acceptRanges)
 let h5:=put h4 4 #[.iface 372 (.pointer (some ⟨N+2,0,none⟩))]
 let h6:=put h5 3 #[.iface 372 (.pointer (some ⟨N+3,0,none⟩))]
 let h7:=put h6 2 #[.pointer (some ⟨N+1,0,none⟩)]
 let h8:=put h7 1 (bKv Rows.laid_strings_asciiSpace)
 let h9:=put h8 5 (bKv Rows.laid_unicode_utf8_first)
 {w0 with heap:=h9}
noncomputable abbrev N0:Nat:=(World.settled Tryz.prog default).heap.size
set_option maxRecDepth 1000000 in
theorem piece0(os:Os)(args:Array Value):LaidIn Tryz.prog ((laidWorld os).forCall (fun _ _=>0) ⟨#[],args,[]⟩).memory [("math/bits.deBruijn32tab",Rows.laid_math_bits_deBruijn32tab)] [8]:=
 LaidIn.of_run [8] 10 (by kernel_rfl) (by kernel_rfl) (by kernel_rfl) (by kernel_rfl)
set_option maxRecDepth 1000000 in
theorem piece1(os:Os)(args:Array Value):LaidIn Tryz.prog ((laidWorld os).forCall (fun _ _=>0) ⟨#[],args,[]⟩).memory [("math/bits.deBruijn64tab",Rows.laid_math_bits_deBruijn64tab)] [9]:=
 LaidIn.of_run [9] 10 (by kernel_rfl) (by kernel_rfl) (by kernel_rfl) (by kernel_rfl)
set_option maxRecDepth 1000000 in
theorem piece2(os:Os)(args:Array Value):LaidIn Tryz.prog ((laidWorld os).forCall (fun _ _=>0) ⟨#[],args,[]⟩).memory [("internal/strconv.uint64pow10",Rows.laid_internal_strconv_uint64pow10)] [7]:=
 LaidIn.of_run [7] 10 (by kernel_rfl) (by kernel_rfl) (by kernel_rfl) (by kernel_rfl)
set_option maxRecDepth 1000000 in
theorem piece3(os:Os)(args:Array Value):LaidIn Tryz.prog ((laidWorld os).forCall (fun _ _=>0) ⟨#[],args,[]⟩).memory [("unicode/utf8.acceptRanges",Rows.laid_unicode_utf8_acceptRanges)] [6]:=
 LaidIn.of_run [6] 10 (by kernel_rfl) (by kernel_rfl) (by kernel_rfl) (by kernel_rfl)
set_option maxRecDepth 1000000 in
theorem piece4(os:Os)(args:Array Value):LaidIn Tryz.prog ((laidWorld os).forCall (fun _ _=>0) ⟨#[],args,[]⟩).memory [("strconv.ErrRange",Rows.laid_strconv_ErrRange)] [4,N0+2]:=
 LaidIn.of_run [4,N0+2] 10 (by kernel_rfl) (by kernel_rfl) (by kernel_rfl) (by kernel_rfl)
set_option maxRecDepth 1000000 in
theorem piece5(os:Os)(args:Array Value):LaidIn Tryz.prog ((laidWorld os).forCall (fun _ _=>0) ⟨#[],args,[]⟩).memory [("strconv.ErrSyntax",Rows.laid_strconv_ErrSyntax)] [3,N0+3]:=
 LaidIn.of_run [3,N0+3] 10 (by kernel_rfl) (by kernel_rfl) (by kernel_rfl) (by kernel_rfl)
set_option maxRecDepth 1000000 in
theorem piece6(os:Os)(args:Array Value):LaidIn Tryz.prog ((laidWorld os).forCall (fun _ _=>0) ⟨#[],args,[]⟩).memory [("unicode.White_Space",Rows.laid_unicode_White_Space)] [2,N0,N0+1]:=
 LaidIn.of_run [2,N0,N0+1] 10 (by kernel_rfl) (by kernel_rfl) (by kernel_rfl) (by kernel_rfl)
set_option maxRecDepth 1000000 in
theorem piece7(os:Os)(args:Array Value):LaidIn Tryz.prog ((laidWorld os).forCall (fun _ _=>0) ⟨#[],args,[]⟩).memory [("strings.asciiSpace",Rows.laid_strings_asciiSpace)] [1]:=
 LaidIn.of_run [1] 10 (by kernel_rfl) (by kernel_rfl) (by kernel_rfl) (by kernel_rfl)
set_option maxRecDepth 1000000 in
theorem piece8(os:Os)(args:Array Value):LaidIn Tryz.prog ((laidWorld os).forCall (fun _ _=>0) ⟨#[],args,[]⟩).memory [("unicode/utf8.first",Rows.laid_unicode_utf8_first)] [5]:=
 LaidIn.of_run [5] 10 (by kernel_rfl) (by kernel_rfl) (by kernel_rfl) (by kernel_rfl)
set_option maxRecDepth 1000000 in
theorem laid_met(os:Os)(args:Array Value):laidMet Tryz.prog bGp ((laidWorld os).forCall (fun _ _=>0) ⟨#[],args,[]⟩).memory:=
 (((((((((piece0 os args).append (piece1 os args) (by kernel_rfl)).append (piece2 os args) (by kernel_rfl)).append (piece3 os args) (by kernel_rfl)).append (piece4 os args) (by kernel_rfl)).append (piece5 os args) (by kernel_rfl)).append (piece6 os args) (by kernel_rfl)).append (piece7 os args) (by kernel_rfl)).append (piece8 os args) (by kernel_rfl)).met
end Go.Proofs.YtbgdphbebhjpiaaGreatDoor
namespace Go.Proofs.YtbgdphbebhjpiaaGreatDoor
open Go.RowKit Go.ChangeShapes Go.WideShapes
section
variable {H : Type} {enc : TypeId × Value → H} {P : Program}
theorem xK(hl:laidOutB P=true){W W':World}(hb:Below W.heap.size W W'): ∀{ts:List TypeId} {vs:List Value} {ds:List (DataW H)} {ps:List MemPlace},
  (∀t∈ts,P.readableRec t=true∧t<P.types.size)→(∀x∈ps,x.block<W.heap.size)→DataW.TrodAll enc P W 0 (fun _=>true) true ts vs ds ps→
  DataW.TrodAll enc P W' 0 (fun b=>decide (b<W.heap.size)) true ts vs ds ps
 | [],_,_,_,_,_,h=>by
  obtain⟨rfl,rfl,rfl⟩:=trodAll_nil h;exact trodAll_mk0
 | t::ts,_,_,_,ht,hlt,h=>by
  obtain⟨v,vs,d,ds,p,q,rfl,rfl,rfl,h1,h2⟩:=trodAll_cons h;have hr:=ht t (by simp);exact trodAll_cons_mk (Below.trod hl hr.1 hr.2 h1 hb (fun x hx=>hlt x (by simp [hx]))) (xK hl hb (fun t h=>ht t (by simp [h])) (fun x hx=>hlt x (by simp [hx])) h2)
theorem law_post{f:Func}{s:ChangeSpec}{W W':World}{args:Array Value}{ds:List (DataW H)}{before:List MemPlace}{tb:TypeId}
  (hW:DataW.Whole enc P f.params.toList s.vars false W args.toList ds [] before) (hv:s.vars=[]) (hfn:s.fn H (ds++[])={results:=[.lit (.bool true)],args:=ds})
  (hr:f.resultTypes= #[tb]) (hb:P.underlying tb=some .bool) (hl:laidOutB P=true) (hread: ∀t∈f.params.toList,P.readableRec t=true∧t<P.types.size) (h:Below W.heap.size W W'):
  s.post enc P f false true false false W args (.bool true) W':=by
 have hlt: ∀p∈before,p.block<W.heap.size:=fun p hp=>hW.lt p hp;have hW':=hW;obtain⟨p,q,hA,hV,rfl,_,_⟩:=hW;rw [hv] at hV;have hq:q=[]:=hV;subst hq;refine⟨ds,[],_,[],p,[],hW',?_,?_,?_,?_,fun h=>by cases h⟩
 ·rw [hfn,hr];exact trodAll_mk1 (shut_bool hb true)
 ·rw [hfn];exact xK hl h hread (fun x hx=>hlt x (by simp [hx])) hA
 ·rw [hfn,hv];rfl
 ·exact h.frame _
end
theorem bKi{ι:Type}{f:FuncId}{args:List Value}{Pre:List Fact}{v:Value}(h:dX Tryz.prog f args [] Pre (fun _:ι=>v) (fun _=>[]) (fun _=>[])){w:World}(hp:All Pre (fun b=>b<w.heap.size) w):
  Calls Tryz.prog f args.toArray w fun e w'=>e= .returned v∧Below w.heap.size w w':=by
 refine(h (fun b=>b<w.heap.size) w ⟨mX.refl _ _,fun c hc=>by simp at hc,fun c hc=>by simp at hc,List.Pairwise.nil,fun b hb=>⟨hb,.inl hb⟩⟩ hp).mono ?_;rintro e w' ⟨_,_,rfl,s,_⟩;refine⟨rfl,s.kept.os,s.kept.tape,s.kept.output,s.kept.size,fun k hk=>s.kept.block k hk fun⟨c,hc,_⟩=>by simp at hc⟩
theorem own:ownKnob Tryz.prog.godebug=none:=by kernel_rfl
theorem laid:laidOutB Tryz.prog=true:=by kernel_rfl
end Go.Proofs.YtbgdphbebhjpiaaGreatDoor
