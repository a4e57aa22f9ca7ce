/- A part of one proof. -/
import Derived.Test.YtioekpienlhcgaaGreatDoorM1
import Derived.Test.YtioekpienlhcgaaGreatDoorRows
import Derived.Test.YtioekpienlhcgaaGreatDoorShelf
import Derived.Lib.SmallJoins
import Derived.Lib.ItoaLen
set_option maxRecDepth 100000
namespace Go.Proofs.YtioekpienlhcgaaGreatDoor
open _root_.List renaming getElem?_eq_getElem->F1,getElem?_map->K1,length_cons->F5,getElem?_eq_some_iff->F3,drop_eq_getElem_cons->K2,drop_of_length_le->K3,singleton_append->K4,nil_append->K5,mem_cons->E2,length_take->K6,eq_nil_of_length_eq_zero->F7,mem_cons_self->E8,mem_cons_of_mem->E4,mem_append->E3,mem_singleton->K7,drop_drop->K8,take_of_length_le->F6,append_eq_nil_iff->K9,getElem?_eq_none->L0,reverse_cons->L1,append_nil->F9,map_append->L2
open _root_.Nat renaming blt->B2,le_refl->B0,min_eq_left->L3,strongRecOn->L4,cast->L6
open _root_.Bool renaming false_eq_true->J2,eq_iff_iff->L7,and_eq_true->J3
open _root_.UInt8 renaming toNat_inj->L8,ofNat->L9
open Value renaming int->M0,tuple->M1,bool->M2
open Op renaming equalIn->H7,equal->M3
open Sem renaming run_bind->G9
open Result renaming andThen_ok->H6
open _root_.Option renaming bind_some->M4,map_some->J8,map_none->J9
open Lib renaming indexByte->M5,parseUintM->M6,parseIntB->M7,decDigits->M8,trimSpace->M9,replace->N1,itoa->N3,replaceNum->N5
section
open Go.RowKit Go.ChangeShapes Go.WideShapes Go.Proofs.Tryz
def lN:Flat Bs where
 size:=1
 cells:=λx=>[.string (bs x)]
 len:=λ_=>rfl
 one:=λx u hu=>by simp at hu;subst hu;rfl
 pos:=m9
structure TokV where
 kind:Int
 at_:Int
 word:Bs
 n:Int
 deriving Inhabited
def nJ:Flat TokV where
 size:=4
 cells:=λx=>[.int .i64 x.kind,.int .i64 x.at_,.string (bs x.word),.int .i64 x.n]
 len:=λ_=>rfl
 one:=λx u hu=>by
  simp at hu
  rcases hu with rfl|rfl|rfl|rfl<;>rfl
 pos:=m9
structure FltV where
 at_:Int
 code:Int
 deriving Inhabited
structure kF where
 name:Bs
 n:Int
 deriving Inhabited
def bIr:Flat kF where
 size:=2
 cells:=λx=>[.string (bs x.name),.int .i64 x.n]
 len:=λ_=>rfl
 one:=λx u hu=>by
  simp at hu
  rcases hu with rfl|rfl<;>rfl
 pos:=m9
def sideTy:Ty kF:=⟨bIr,λx=>(Fact.pure (x.name.length<=140737488355328)).and ((Fact.pure ((Lit.int .i64 x.n).wf=true)).and (Fact.true))⟩
theorem opens_side{H:Type}{enc:TypeId×Value->H}{w:World}:tJ enc prog w 52 bIr.cells sideTy.deep:=λl s x h k=>by
 obtain⟨b,n,_,rfl,a,c,hf⟩:=DataW.trod_struct underlying52 h;have p:prog.cellsOf 52=2:=m7
 rw[p]at a;have i:b.length=2:=c
 match s,a with
 |[c0,c1],_=>
  have h0:DataW.trod enc prog w 0 (λ_=>true) true n 9 (([c0,c1].drop 0).take (prog.cellsOf 9))=b[0]?:=hf 0 _ rfl;have h1:DataW.trod enc prog w 0 (λ_=>true) true n 2 (([c0,c1].drop 1).take (prog.cellsOf 2))=b[1]?:=hf 1 _ rfl;rw[F1 m0]at h0;obtain⟨o,f,r⟩:=(bCp underlying9) _ _ _ h0 (fW underlying52 k (j:=0) rfl (by rw[K1,F1 m0];rfl))
  have g:[c0]=[.string (bs o)]:=by
   have d:prog.cellsOf 9=1:=m7
   rw[d]at f;exact f
  clear f;simp only[List.cons.injEq,and_true]at g;rw[F1 m0]at h1;obtain⟨m,e,q⟩:=(sC underlying2) _ _ _ h1 (fW underlying52 k (j:=1) rfl (by rw[K1,F1 m0];rfl))
  have q1:[c1]=[.int .i64 m]:=by
   have d:prog.cellsOf 2=1:=m7
   rw[d]at e;exact e
  clear e;simp only[List.cons.injEq,and_true]at q1;obtain rfl:=g;obtain rfl:=q1;exact⟨⟨o,m⟩,rfl,r,q,j1⟩
structure InputV where
 name:Bs
 at_:Int
 B:(Sl kF)
 deriving Inhabited
def jN:Flat InputV where
 size:=3
 cells:=λx=>[.string (bs x.name),.int .i64 x.at_,.slice x.B.I x.B.A.length x.B.cap]
 len:=λ_=>rfl
 one:=λx u hu=>by
  simp at hu
  rcases hu with rfl|rfl|rfl<;>rfl
 pos:=m9
def bIu:Ty InputV:=⟨jN,λx=>(Fact.pure (x.name.length<=140737488355328)).and ((Fact.pure ((Lit.int .i64 x.at_).wf=true)).and ((((sideTy.slice 24)).deep x.B).and (Fact.true)))⟩
theorem opens_input{H:Type}{enc:TypeId×Value->H}{w:World}:tJ enc prog w 50 jN.cells bIu.deep:=λq z x h g=>by
 obtain⟨d,n,_,rfl,a,f,hf⟩:=DataW.trod_struct underlying50 h;have t:prog.cellsOf 50=3:=m7
 rw[t]at a;have p:d.length=3:=f
 match z,a with
 |[c0,c1,c2],_=>
  have h0:DataW.trod enc prog w 0 (λ_=>true) true n 9 (([c0,c1,c2].drop 0).take (prog.cellsOf 9))=d[0]?:=hf 0 _ rfl;have h1:DataW.trod enc prog w 0 (λ_=>true) true n 3 (([c0,c1,c2].drop 1).take (prog.cellsOf 3))=d[1]?:=hf 1 _ rfl;have h2:DataW.trod enc prog w 0 (λ_=>true) true n 48 (([c0,c1,c2].drop 2).take (prog.cellsOf 48))=d[2]?:=hf 2 _ rfl;rw[F1 m0]at h0;obtain⟨s,l,y⟩:=(bCp underlying9) _ _ _ h0 (fW underlying50 g (j:=0) rfl (by rw[K1,F1 m0];rfl))
  have o:[c0]=[.string (bs s)]:=by
   have c:prog.cellsOf 9=1:=m7
   rw[c]at l;exact l
  clear l;simp only[List.cons.injEq,and_true]at o;rw[F1 m0]at h1;obtain⟨r,k,v⟩:=(sC underlying3) _ _ _ h1 (fW underlying50 g (j:=1) rfl (by rw[K1,F1 m0];rfl))
  have q1:[c1]=[.int .i64 r]:=by
   have c:prog.cellsOf 3=1:=m7
   rw[c]at k;exact k
  clear k;simp only[List.cons.injEq,and_true]at q1;rw[F1 m0]at h2;obtain⟨e,i,u⟩:=(rP (T:=sideTy) (b:=24) underlying48 m7 m7 opens_side) _ _ _ h2 (fW underlying50 g (j:=2) rfl (by rw[K1,F1 m0];rfl))
  have m:[c2]=[.slice e.I e.A.length e.cap]:=by
   have c:prog.cellsOf 48=1:=m7
   rw[c]at i;exact i
  clear i;simp only[List.cons.injEq,and_true]at m;obtain rfl:=o;obtain rfl:=q1;obtain rfl:=m;exact⟨⟨s,r,e⟩,rfl,y,v,u,j1⟩
structure ItemV where
 H:Int
 at_:Int
 fn:Int
 name:Bs
 nums:(Sl Int)
 deriving Inhabited
def mM:Flat ItemV where
 size:=5
 cells:=λx=>[.int .i64 x.H,.int .i64 x.at_,.int .u8 x.fn,.string (bs x.name),.slice x.nums.I x.nums.A.length x.nums.cap]
 len:=λ_=>rfl
 one:=λx u hu=>by
  simp at hu
  rcases hu with rfl|rfl|rfl|rfl|rfl<;>rfl
 pos:=m9
def itemTy:Ty ItemV:=⟨mM,λx=>(Fact.pure ((Lit.int .i64 x.H).wf=true)).and ((Fact.pure ((Lit.int .i64 x.at_).wf=true)).and ((Fact.pure ((Lit.int .u8 x.fn).wf=true)).and ((Fact.pure (x.name.length<=140737488355328)).and ((((intTy.slice 8)).deep x.nums).and (Fact.true)))))⟩
theorem opens_item{H:Type}{enc:TypeId×Value->H}{w:World}:tJ enc prog w 62 mM.cells itemTy.deep:=λv K x h e=>by
 obtain⟨d,n,_,rfl,c,g,hf⟩:=DataW.trod_struct underlying62 h;have C:prog.cellsOf 62=5:=m7
 rw[C]at c;have t:d.length=5:=g
 match K,c with
 |[c0,c1,c2,c3,c4],_=>
  have h0:DataW.trod enc prog w 0 (λ_=>true) true n 3 (([c0,c1,c2,c3,c4].drop 0).take (prog.cellsOf 3))=d[0]?:=hf 0 _ rfl;have h1:DataW.trod enc prog w 0 (λ_=>true) true n 3 (([c0,c1,c2,c3,c4].drop 1).take (prog.cellsOf 3))=d[1]?:=hf 1 _ rfl;have h2:DataW.trod enc prog w 0 (λ_=>true) true n 59 (([c0,c1,c2,c3,c4].drop 2).take (prog.cellsOf 59))=d[2]?:=hf 2 _ rfl;have u:DataW.trod enc prog w 0 (λ_=>true) true n 9 (([c0,c1,c2,c3,c4].drop 3).take (prog.cellsOf 9))=d[3]?:=hf 3 _ rfl;have h4:DataW.trod enc prog w 0 (λ_=>true) true n 60 (([c0,c1,c2,c3,c4].drop 4).take (prog.cellsOf 60))=d[4]?:=hf 4 _ rfl;rw[F1 m0]at h0;obtain⟨B,o,J⟩:=(sC underlying3) _ _ _ h0 (fW underlying62 e (j:=0) rfl (by rw[K1,F1 m0];rfl))
  have s:[c0]=[.int .i64 B]:=by
   have a:prog.cellsOf 3=1:=m7
   rw[a]at o;exact o
  clear o;simp only[List.cons.injEq,and_true]at s;rw[F1 m0]at h1;obtain⟨A,m,I⟩:=(sC underlying3) _ _ _ h1 (fW underlying62 e (j:=1) rfl (by rw[K1,F1 m0];rfl))
  have q1:[c1]=[.int .i64 A]:=by
   have a:prog.cellsOf 3=1:=m7
   rw[a]at m;exact m
  clear m;simp only[List.cons.injEq,and_true]at q1;rw[F1 m0]at h2;obtain⟨z,l,G⟩:=(sC underlying59) _ _ _ h2 (fW underlying62 e (j:=2) rfl (by rw[K1,F1 m0];rfl))
  have r:[c2]=[.int .u8 z]:=by
   have a:prog.cellsOf 59=1:=m7
   rw[a]at l;exact l
  clear l;simp only[List.cons.injEq,and_true]at r;rw[F1 m0]at u;obtain⟨y,k,E⟩:=(bCp underlying9) _ _ _ u (fW underlying62 e (j:=3) rfl (by rw[K1,F1 m0];rfl))
  have q:[c3]=[.string (bs y)]:=by
   have a:prog.cellsOf 9=1:=m7
   rw[a]at k;exact k
  clear k;simp only[List.cons.injEq,and_true]at q;rw[F1 m0]at h4;obtain⟨f,i,D⟩:=(rP (T:=intTy) (b:=8) underlying60 m7 m7 (sC underlying2)) _ _ _ h4 (fW underlying62 e (j:=4) rfl (by rw[K1,F1 m0];rfl))
  have p:[c4]=[.slice f.I f.A.length f.cap]:=by
   have a:prog.cellsOf 60=1:=m7
   rw[a]at i;exact i
  clear i;simp only[List.cons.injEq,and_true]at p;obtain rfl:=s;obtain rfl:=q1;obtain rfl:=r;obtain rfl:=q;obtain rfl:=p;exact⟨⟨B,A,z,y,f⟩,rfl,J,I,G,E,D,j1⟩
structure LineV where
 name:Bs
 at_:Int
 K:(Sl ItemV)
 deriving Inhabited
def nW:Flat LineV where
 size:=3
 cells:=λx=>[.string (bs x.name),.int .i64 x.at_,.slice x.K.I x.K.A.length x.K.cap]
 len:=λ_=>rfl
 one:=λx u hu=>by
  simp at hu
  rcases hu with rfl|rfl|rfl<;>rfl
 pos:=m9
def bQz:Ty LineV:=⟨nW,λx=>(Fact.pure (x.name.length<=140737488355328)).and ((Fact.pure ((Lit.int .i64 x.at_).wf=true)).and ((((itemTy.slice 64)).deep x.K).and (Fact.true)))⟩
theorem opens_line{H:Type}{enc:TypeId×Value->H}{w:World}:tJ enc prog w 58 nW.cells bQz.deep:=λq z x h g=>by
 obtain⟨d,n,_,rfl,a,f,hf⟩:=DataW.trod_struct underlying58 h;have t:prog.cellsOf 58=3:=m7
 rw[t]at a;have p:d.length=3:=f
 match z,a with
 |[c0,c1,c2],_=>
  have h0:DataW.trod enc prog w 0 (λ_=>true) true n 9 (([c0,c1,c2].drop 0).take (prog.cellsOf 9))=d[0]?:=hf 0 _ rfl;have h1:DataW.trod enc prog w 0 (λ_=>true) true n 3 (([c0,c1,c2].drop 1).take (prog.cellsOf 3))=d[1]?:=hf 1 _ rfl;have h2:DataW.trod enc prog w 0 (λ_=>true) true n 56 (([c0,c1,c2].drop 2).take (prog.cellsOf 56))=d[2]?:=hf 2 _ rfl;rw[F1 m0]at h0;obtain⟨s,l,y⟩:=(bCp underlying9) _ _ _ h0 (fW underlying58 g (j:=0) rfl (by rw[K1,F1 m0];rfl))
  have o:[c0]=[.string (bs s)]:=by
   have c:prog.cellsOf 9=1:=m7
   rw[c]at l;exact l
  clear l;simp only[List.cons.injEq,and_true]at o;rw[F1 m0]at h1;obtain⟨r,k,v⟩:=(sC underlying3) _ _ _ h1 (fW underlying58 g (j:=1) rfl (by rw[K1,F1 m0];rfl))
  have q1:[c1]=[.int .i64 r]:=by
   have c:prog.cellsOf 3=1:=m7
   rw[c]at k;exact k
  clear k;simp only[List.cons.injEq,and_true]at q1;rw[F1 m0]at h2;obtain⟨e,i,u⟩:=(rP (T:=itemTy) (b:=64) underlying56 m7 m7 opens_item) _ _ _ h2 (fW underlying58 g (j:=2) rfl (by rw[K1,F1 m0];rfl))
  have m:[c2]=[.slice e.I e.A.length e.cap]:=by
   have c:prog.cellsOf 56=1:=m7
   rw[c]at i;exact i
  clear i;simp only[List.cons.injEq,and_true]at m;obtain rfl:=o;obtain rfl:=q1;obtain rfl:=m;exact⟨⟨s,r,e⟩,rfl,y,v,u,j1⟩
structure ProgV where
 C:(Sl InputV)
 G:(Sl LineV)
 deriving Inhabited
def progE:Flat ProgV where
 size:=2
 cells:=λx=>[.slice x.C.I x.C.A.length x.C.cap,.slice x.G.I x.G.A.length x.G.cap]
 len:=λ_=>rfl
 one:=λx u hu=>by
  simp at hu
  rcases hu with rfl|rfl<;>rfl
 pos:=m9
def progTy:Ty ProgV:=⟨progE,λx=>(((bIu.slice 48)).deep x.C).and ((((bQz.slice 48)).deep x.G).and (Fact.true))⟩
def showT:Tab:=[(3,⟨.int .i64,1⟩),(2,⟨.int .i64,1⟩),(5,⟨.int .u8,1⟩),(9,⟨.string,1⟩),(4,⟨.bool,1⟩),(59,⟨.int .u8,1⟩),(28,⟨.int .i64,1⟩),(60,⟨.slice 2,1⟩),(46,⟨.slice 9,1⟩),(110,⟨.struct [(3,0),(3,1),(9,2),(2,3)],4⟩),(103,⟨.slice 110,1⟩),(30,⟨.struct [(3,0),(28,1)],2⟩),(52,⟨.struct [(9,0),(2,1)],2⟩),(48,⟨.slice 52,1⟩),(50,⟨.struct [(9,0),(3,1),(48,2)],3⟩),(22,⟨.slice 50,1⟩),(62,⟨.struct [(3,0),(3,1),(59,2),(9,3),(60,4)],5⟩),(56,⟨.slice 62,1⟩),(58,⟨.struct [(9,0),(3,1),(56,2)],3⟩),(23,⟨.slice 58,1⟩),(25,⟨.struct [(22,0),(23,1)],2⟩),(108,⟨.struct [(103,0),(3,1),(3,2)],3⟩),(106,⟨.other,1⟩),(172,⟨.slice 1,1⟩),(1,⟨.other,1⟩)]
theorem gH:fX prog showT:=yB.ok
 ⟨⟨by rw[underlying3];rfl,m7⟩,
  ⟨by rw[underlying2];rfl,m7⟩,
  ⟨by rw[underlying5];rfl,m7⟩,
  ⟨by rw[underlying9];rfl,m7⟩,
  ⟨by rw[underlying4];rfl,m7⟩,
  ⟨by rw[underlying59];rfl,m7⟩,
  ⟨by rw[underlying28];rfl,m7⟩,
  ⟨by rw[underlying60];rfl,m7⟩,
  ⟨by rw[underlying46];rfl,m7⟩,
  ⟨by rw[underlying110];rfl,m7⟩,
  ⟨by rw[underlying103];rfl,m7⟩,
  ⟨by rw[underlying30];rfl,m7⟩,
  ⟨by rw[underlying52];rfl,m7⟩,
  ⟨by rw[underlying48];rfl,m7⟩,
  ⟨by rw[underlying50];rfl,m7⟩,
  ⟨by rw[underlying22];rfl,m7⟩,
  ⟨by rw[underlying62];rfl,m7⟩,
  ⟨by rw[underlying56];rfl,m7⟩,
  ⟨by rw[underlying58];rfl,m7⟩,
  ⟨by rw[underlying23];rfl,m7⟩,
  ⟨by rw[underlying25];rfl,m7⟩,
  ⟨by rw[underlying108];rfl,m7⟩,
  ⟨by rw[underlying106];rfl,m7⟩,
  ⟨by rw[underlying172];rfl,m7⟩,
  ⟨by rw[underlying1];rfl,m7⟩,j1⟩
theorem tokInfo: ∃i:TypeInfo,prog.info? 110=some i/\i.zero=some (.agg #[k9 0,k9 0,.string (bs []),k9 0])/\i.size=4/\i.bytes=40:=by
 have h:(prog.info? 110).map (λi=>(i.zero,i.size,i.bytes))=some (some (.agg #[.int .i64 0,.int .i64 0,.string (bs []),.int .i64 0]),4,40):=m7
 cases hi:prog.info? 110 with
 |none=>simp[hi]at h
 |some i=>simp[hi]at h;exact⟨i,rfl,h.1,h.2.1,h.2.2⟩
theorem at_one_tok{β:fR}{n:Nat}{Γ:Env}{H:List bL}{F:List Fact}{Q:Exit->Act->World->Prop}{ops:Array Oper}{rest:List Oper}{o:Oper}{d:Nat}{x:Operand}{m:TokV}(hw:want ops Γ o=some true)(ho:o.op= .buildSlice 103 1 #[(0,x)])(hd:o.dst=some d)(hn:B2 d n=true)
  (hx:Γ.ev x=some (.agg #[k9 m.kind,k9 m.at_,.string (bs m.word),k9 m.n])) (k: ∀b,At β n ((d,.slice (some ⟨b,0,none⟩) 1 1)::Γ) (.obj b (.cells (nJ.all [m]).toArray 110)::H) F (wpList prog ops Q rest)):At β n Γ H F (wpList prog ops Q (o::rest)):=by
 obtain⟨i,hi,a,hs,_⟩:=tokInfo;refine jT hw ho hd hn hx underlying103 hi a m0 m0 ?_ k;rw[hs]
 kernel_rfl
theorem at_app_tok{β:fR}{n:Nat}{Γ:Env}{H:List bL}{F:List Fact}{Q:Exit->Act->World->Prop}{ops:Array Oper}{rest:List Oper}{o:Oper}{d:Nat}{x y:Operand}{c q:Nat}{v:Value}{A:Option Addr}{xs ys:List TokV}{H':List bL}(hH:cU H (nJ.row v 110 xs) H')(hr:dC β H F nJ A ys)(hg:o.guard=none)
  (ho:o.op= .call {callee:= .builtin .append,args:= #[x,y],argTypes:= #[103,103]}) (hd:o.dst=some d) (hn:B2 d n=true)
  (hx:Γ.ev x=some v) (hy:Γ.ev y=some (.slice A q c)) (hq:q=ys.length) (hl:xs.length+ys.length<=3518437208883)
  (k: ∀A' cap',At β n ((d,.slice A' (xs++ys).length cap')::Γ) (nJ.row (.slice A' (xs++ys).length cap') 110 (xs++ys)::H') F (wpList prog ops Q rest)):At β n Γ H F (wpList prog ops Q (o::rest)):=by obtain⟨i,hi,a,hs,b⟩:=tokInfo;exact gS hH hr hg ho hd hn underlying103 hi a hs b rfl hx hy hq m0 m9 k
theorem intInfo: ∃i:TypeInfo,prog.info? 2=some i/\i.zero=some (k9 0)/\i.size=1/\i.bytes=8:=by
 have h:(prog.info? 2).map (λi=>(i.zero,i.size,i.bytes))=some (some (.int .i64 0),1,8):=m7
 cases hi:prog.info? 2 with
 |none=>simp[hi]at h
 |some i=>simp[hi]at h;exact⟨i,rfl,h.1,h.2.1,h.2.2⟩
theorem at_one_int{β:fR}{n:Nat}{Γ:Env}{H:List bL}{F:List Fact}{Q:Exit->Act->World->Prop}{ops:Array Oper}{rest:List Oper}{o:Oper}{d:Nat}{x:Operand}{m:Int}(hw:want ops Γ o=some true)(ho:o.op= .buildSlice 60 1 #[(0,x)])(hd:o.dst=some d)(hn:B2 d n=true)
  (hx:Γ.ev x=some (k9 m)) (k: ∀b,At β n ((d,.slice (some ⟨b,0,none⟩) 1 1)::Γ) (.obj b (.cells (bNh.all [m]).toArray 2)::H) F (wpList prog ops Q rest)):At β n Γ H F (wpList prog ops Q (o::rest)):=by
 obtain⟨i,hi,a,hs,_⟩:=intInfo;refine jT hw ho hd hn hx underlying60 hi a m0 m0 ?_ k;rw[hs]
 kernel_rfl
theorem at_app_int{β:fR}{n:Nat}{Γ:Env}{H:List bL}{F:List Fact}{Q:Exit->Act->World->Prop}{ops:Array Oper}{rest:List Oper}{o:Oper}{d:Nat}{x y:Operand}{c q:Nat}{v:Value}{A:Option Addr}{xs ys:List Int}{H':List bL}(hH:cU H (bNh.row v 2 xs) H')(hr:dC β H F bNh A ys)(hg:o.guard=none)
  (ho:o.op= .call {callee:= .builtin .append,args:= #[x,y],argTypes:= #[60,60]}) (hd:o.dst=some d) (hn:B2 d n=true)
  (hx:Γ.ev x=some v) (hy:Γ.ev y=some (.slice A q c)) (hq:q=ys.length) (hl:xs.length+ys.length<=17592186044416)
  (k: ∀A' cap',At β n ((d,.slice A' (xs++ys).length cap')::Γ) (bNh.row (.slice A' (xs++ys).length cap') 2 (xs++ys)::H') F (wpList prog ops Q rest)):At β n Γ H F (wpList prog ops Q (o::rest)):=by obtain⟨i,hi,a,hs,b⟩:=intInfo;exact gS hH hr hg ho hd hn underlying60 hi a hs b rfl hx hy hq m0 m9 k
theorem bNk: ∃i:TypeInfo,prog.info? 9=some i/\i.zero=some (.string (bs []))/\i.size=1/\i.bytes=16:=by
 have h:(prog.info? 9).map (λi=>(i.zero,i.size,i.bytes))=some (some (.string (bs [])),1,16):=m7
 cases hi:prog.info? 9 with
 |none=>simp[hi]at h
 |some i=>simp[hi]at h;exact⟨i,rfl,h.1,h.2.1,h.2.2⟩
theorem lB{β:fR}{n:Nat}{Γ:Env}{H:List bL}{F:List Fact}{Q:Exit->Act->World->Prop}{ops:Array Oper}{rest:List Oper}{o:Oper}{d:Nat}{x:Operand}{m:Bs}(hw:want ops Γ o=some true)(ho:o.op= .buildSlice 46 1 #[(0,x)])(hd:o.dst=some d)(hn:B2 d n=true)
  (hx:Γ.ev x=some (.string (bs m))) (k: ∀b,At β n ((d,.slice (some ⟨b,0,none⟩) 1 1)::Γ) (.obj b (.cells (lN.all [m]).toArray 9)::H) F (wpList prog ops Q rest)):At β n Γ H F (wpList prog ops Q (o::rest)):=by
 obtain⟨i,hi,a,hs,_⟩:=bNk;refine jT hw ho hd hn hx underlying46 hi a m0 m0 ?_ k;rw[hs]
 kernel_rfl
theorem mJ{β:fR}{n:Nat}{Γ:Env}{H:List bL}{F:List Fact}{Q:Exit->Act->World->Prop}{ops:Array Oper}{rest:List Oper}{o:Oper}{d:Nat}{x y:Operand}{c q:Nat}{v:Value}{A:Option Addr}{xs ys:List Bs}{H':List bL}(hH:cU H (lN.row v 9 xs) H')(hr:dC β H F lN A ys)(hg:o.guard=none)
  (ho:o.op= .call {callee:= .builtin .append,args:= #[x,y],argTypes:= #[46,46]}) (hd:o.dst=some d) (hn:B2 d n=true)
  (hx:Γ.ev x=some v) (hy:Γ.ev y=some (.slice A q c)) (hq:q=ys.length) (hl:xs.length+ys.length<=8796093022208)
  (k: ∀A' cap',At β n ((d,.slice A' (xs++ys).length cap')::Γ) (lN.row (.slice A' (xs++ys).length cap') 9 (xs++ys)::H') F (wpList prog ops Q rest)):At β n Γ H F (wpList prog ops Q (o::rest)):=by obtain⟨i,hi,a,hs,b⟩:=bNk;exact gS hH hr hg ho hd hn underlying46 hi a hs b rfl hx hy hq m0 m9 k
theorem sideInfo: ∃i:TypeInfo,prog.info? 52=some i/\i.zero=some (.agg #[.string (bs []),k9 0])/\i.size=2/\i.bytes=24:=by
 have h:(prog.info? 52).map (λi=>(i.zero,i.size,i.bytes))=some (some (.agg #[.string (bs []),.int .i64 0]),2,24):=m7
 cases hi:prog.info? 52 with
 |none=>simp[hi]at h
 |some i=>simp[hi]at h;exact⟨i,rfl,h.1,h.2.1,h.2.2⟩
theorem bLw{β:fR}{n:Nat}{Γ:Env}{H:List bL}{F:List Fact}{Q:Exit->Act->World->Prop}{ops:Array Oper}{rest:List Oper}{o:Oper}{d:Nat}{x:Operand}{m:kF}(hw:want ops Γ o=some true)(ho:o.op= .buildSlice 48 1 #[(0,x)])(hd:o.dst=some d)(hn:B2 d n=true)
  (hx:Γ.ev x=some (.agg #[.string (bs m.name),k9 m.n])) (k: ∀b,At β n ((d,.slice (some ⟨b,0,none⟩) 1 1)::Γ) (.obj b (.cells (bIr.all [m]).toArray 52)::H) F (wpList prog ops Q rest)):At β n Γ H F (wpList prog ops Q (o::rest)):=by
 obtain⟨i,hi,a,hs,_⟩:=sideInfo;refine jT hw ho hd hn hx underlying48 hi a m0 m0 ?_ k;rw[hs]
 kernel_rfl
theorem bMi{β:fR}{n:Nat}{Γ:Env}{H:List bL}{F:List Fact}{Q:Exit->Act->World->Prop}{ops:Array Oper}{rest:List Oper}{o:Oper}{d:Nat}{x y:Operand}{c q:Nat}{v:Value}{A:Option Addr}{xs ys:List kF}{H':List bL}(hH:cU H (bIr.row v 52 xs) H')(hr:dC β H F bIr A ys)(hg:o.guard=none)
  (ho:o.op= .call {callee:= .builtin .append,args:= #[x,y],argTypes:= #[48,48]}) (hd:o.dst=some d) (hn:B2 d n=true)
  (hx:Γ.ev x=some v) (hy:Γ.ev y=some (.slice A q c)) (hq:q=ys.length) (hl:xs.length+ys.length<=5864062014805)
  (k: ∀A' cap',At β n ((d,.slice A' (xs++ys).length cap')::Γ) (bIr.row (.slice A' (xs++ys).length cap') 52 (xs++ys)::H') F (wpList prog ops Q rest)):At β n Γ H F (wpList prog ops Q (o::rest)):=by obtain⟨i,hi,a,hs,b⟩:=sideInfo;exact gS hH hr hg ho hd hn underlying48 hi a hs b rfl hx hy hq m0 m9 k
theorem bWz: ∃i:TypeInfo,prog.info? 50=some i/\i.zero=some (.agg #[.string (bs []),k9 0,.slice none 0 0])/\i.size=3/\i.bytes=48:=by
 have h:(prog.info? 50).map (λi=>(i.zero,i.size,i.bytes))=some (some (.agg #[.string (bs []),.int .i64 0,.slice none 0 0]),3,48):=m7
 cases hi:prog.info? 50 with
 |none=>simp[hi]at h
 |some i=>simp[hi]at h;exact⟨i,rfl,h.1,h.2.1,h.2.2⟩
theorem bGs{β:fR}{n:Nat}{Γ:Env}{H:List bL}{F:List Fact}{Q:Exit->Act->World->Prop}{ops:Array Oper}{rest:List Oper}{o:Oper}{d:Nat}{x:Operand}{m:InputV}(hw:want ops Γ o=some true)(ho:o.op= .buildSlice 22 1 #[(0,x)])(hd:o.dst=some d)(hn:B2 d n=true)
  (hx:Γ.ev x=some (.agg #[.string (bs m.name),k9 m.at_,k7 m.B])) (k: ∀b,At β n ((d,.slice (some ⟨b,0,none⟩) 1 1)::Γ) (.obj b (.cells (jN.all [m]).toArray 50)::H) F (wpList prog ops Q rest)):At β n Γ H F (wpList prog ops Q (o::rest)):=by
 obtain⟨i,hi,a,hs,_⟩:=bWz;refine jT hw ho hd hn hx underlying22 hi a m0 m0 ?_ k;rw[hs]
 kernel_rfl
theorem bHg{β:fR}{n:Nat}{Γ:Env}{H:List bL}{F:List Fact}{Q:Exit->Act->World->Prop}{ops:Array Oper}{rest:List Oper}{o:Oper}{d:Nat}{x y:Operand}{c q:Nat}{v:Value}{A:Option Addr}{xs ys:List InputV}{H':List bL}(hH:cU H (jN.row v 50 xs) H')(hr:dC β H F jN A ys)(hg:o.guard=none)
  (ho:o.op= .call {callee:= .builtin .append,args:= #[x,y],argTypes:= #[22,22]}) (hd:o.dst=some d) (hn:B2 d n=true)
  (hx:Γ.ev x=some v) (hy:Γ.ev y=some (.slice A q c)) (hq:q=ys.length) (hl:xs.length+ys.length<=2932031007402)
  (k: ∀A' cap',At β n ((d,.slice A' (xs++ys).length cap')::Γ) (jN.row (.slice A' (xs++ys).length cap') 50 (xs++ys)::H') F (wpList prog ops Q rest)):At β n Γ H F (wpList prog ops Q (o::rest)):=by obtain⟨i,hi,a,hs,b⟩:=bWz;exact gS hH hr hg ho hd hn underlying22 hi a hs b rfl hx hy hq m0 m9 k
theorem itemInfo: ∃i:TypeInfo,prog.info? 62=some i/\i.zero=some (.agg #[k9 0,k9 0,l5 0,.string (bs []),.slice none 0 0])/\i.size=5/\i.bytes=64:=by
 have h:(prog.info? 62).map (λi=>(i.zero,i.size,i.bytes))=some (some (.agg #[.int .i64 0,.int .i64 0,.int .u8 0,.string (bs []),.slice none 0 0]),5,64):=m7
 cases hi:prog.info? 62 with
 |none=>simp[hi]at h
 |some i=>simp[hi]at h;exact⟨i,rfl,h.1,h.2.1,h.2.2⟩
theorem bAo{β:fR}{n:Nat}{Γ:Env}{H:List bL}{F:List Fact}{Q:Exit->Act->World->Prop}{ops:Array Oper}{rest:List Oper}{o:Oper}{d:Nat}{x:Operand}{m:ItemV}(hw:want ops Γ o=some true)(ho:o.op= .buildSlice 56 1 #[(0,x)])(hd:o.dst=some d)(hn:B2 d n=true)
  (hx:Γ.ev x=some (.agg #[k9 m.H,k9 m.at_,l5 m.fn,.string (bs m.name),k7 m.nums])) (k: ∀b,At β n ((d,.slice (some ⟨b,0,none⟩) 1 1)::Γ) (.obj b (.cells (mM.all [m]).toArray 62)::H) F (wpList prog ops Q rest)):At β n Γ H F (wpList prog ops Q (o::rest)):=by
 obtain⟨i,hi,a,hs,_⟩:=itemInfo;refine jT hw ho hd hn hx underlying56 hi a m0 m0 ?_ k;rw[hs]
 kernel_rfl
theorem bAw{β:fR}{n:Nat}{Γ:Env}{H:List bL}{F:List Fact}{Q:Exit->Act->World->Prop}{ops:Array Oper}{rest:List Oper}{o:Oper}{d:Nat}{x y:Operand}{c q:Nat}{v:Value}{A:Option Addr}{xs ys:List ItemV}{H':List bL}(hH:cU H (mM.row v 62 xs) H')(hr:dC β H F mM A ys)(hg:o.guard=none)
  (ho:o.op= .call {callee:= .builtin .append,args:= #[x,y],argTypes:= #[56,56]}) (hd:o.dst=some d) (hn:B2 d n=true)
  (hx:Γ.ev x=some v) (hy:Γ.ev y=some (.slice A q c)) (hq:q=ys.length) (hl:xs.length+ys.length<=2199023255552)
  (k: ∀A' cap',At β n ((d,.slice A' (xs++ys).length cap')::Γ) (mM.row (.slice A' (xs++ys).length cap') 62 (xs++ys)::H') F (wpList prog ops Q rest)):At β n Γ H F (wpList prog ops Q (o::rest)):=by obtain⟨i,hi,a,hs,b⟩:=itemInfo;exact gS hH hr hg ho hd hn underlying56 hi a hs b rfl hx hy hq m0 m9 k
theorem lineInfo: ∃i:TypeInfo,prog.info? 58=some i/\i.zero=some (.agg #[.string (bs []),k9 0,.slice none 0 0])/\i.size=3/\i.bytes=48:=by
 have h:(prog.info? 58).map (λi=>(i.zero,i.size,i.bytes))=some (some (.agg #[.string (bs []),.int .i64 0,.slice none 0 0]),3,48):=m7
 cases hi:prog.info? 58 with
 |none=>simp[hi]at h
 |some i=>simp[hi]at h;exact⟨i,rfl,h.1,h.2.1,h.2.2⟩
theorem bMk{β:fR}{n:Nat}{Γ:Env}{H:List bL}{F:List Fact}{Q:Exit->Act->World->Prop}{ops:Array Oper}{rest:List Oper}{o:Oper}{d:Nat}{x:Operand}{m:LineV}(hw:want ops Γ o=some true)(ho:o.op= .buildSlice 23 1 #[(0,x)])(hd:o.dst=some d)(hn:B2 d n=true)
  (hx:Γ.ev x=some (.agg #[.string (bs m.name),k9 m.at_,k7 m.K])) (k: ∀b,At β n ((d,.slice (some ⟨b,0,none⟩) 1 1)::Γ) (.obj b (.cells (nW.all [m]).toArray 58)::H) F (wpList prog ops Q rest)):At β n Γ H F (wpList prog ops Q (o::rest)):=by
 obtain⟨i,hi,a,hs,_⟩:=lineInfo;refine jT hw ho hd hn hx underlying23 hi a m0 m0 ?_ k;rw[hs]
 kernel_rfl
theorem bMr{β:fR}{n:Nat}{Γ:Env}{H:List bL}{F:List Fact}{Q:Exit->Act->World->Prop}{ops:Array Oper}{rest:List Oper}{o:Oper}{d:Nat}{x y:Operand}{c q:Nat}{v:Value}{A:Option Addr}{xs ys:List LineV}{H':List bL}(hH:cU H (nW.row v 58 xs) H')(hr:dC β H F nW A ys)(hg:o.guard=none)
  (ho:o.op= .call {callee:= .builtin .append,args:= #[x,y],argTypes:= #[23,23]}) (hd:o.dst=some d) (hn:B2 d n=true)
  (hx:Γ.ev x=some v) (hy:Γ.ev y=some (.slice A q c)) (hq:q=ys.length) (hl:xs.length+ys.length<=2932031007402)
  (k: ∀A' cap',At β n ((d,.slice A' (xs++ys).length cap')::Γ) (nW.row (.slice A' (xs++ys).length cap') 58 (xs++ys)::H') F (wpList prog ops Q rest)):At β n Γ H F (wpList prog ops Q (o::rest)):=by obtain⟨i,hi,a,hs,b⟩:=lineInfo;exact gS hH hr hg ho hd hn underlying23 hi a hs b rfl hx hy hq m0 m9 k
theorem cN:prog.follows .mixedOrders=true:=m7
end
section
open Go.Proofs.Tryz
def kT (b:UInt8):Bool:=decide (97<=(b ||| 32).toNat)&&decide ((b ||| 32).toNat<=122)
def cW (b:UInt8):Bool:=decide (48<=b.toNat)&&decide (b.toNat<=57)
def kL (b:UInt8):Bool:=kT b || cW b
abbrev Tok:=TokV
abbrev Flt:=Int×Int
def runB (p:UInt8->Bool):Bs->Nat
 |[]=>0
 |b::r=>if p b then runB p r+1 else 0
theorem kU(p:UInt8->Bool): ∀s:Bs,runB p s<=s.length
 |[]=>B0 _
 |b::r=>by
  unfold runB;split
  .have:=kU p r;simp;omega
  .simp
def decV:Bs->Nat->Nat
 |[],v=>v
 |b::r,v=>decV r (10*v+(b.toNat-48))
def pB (neg:Bool)(ds:Bs):Option Int:=
 if neg then (if decV ds 0<=9223372036854775808 then some (-(decV ds 0:Int))else none)
 else (if decV ds 0<=9223372036854775807 then some (decV ds 0:Int)else none)
def fO:Bs:=[43,45,42,37,124,61,126,60,62,47,92,46,58,40,41]
def gM:Bs->Nat
 |[]=>0
 |b::r=>if (b==60 || b==62)&&r.head?==some 61 then 2 else if fO.contains b then 1 else 0
abbrev TokR:=Int×Bs×Int×Nat
def iU (b:UInt8)(r:Bs):Except Int (Option TokR):=
 let ds:=if b==95 then r else b::r
 let k:=runB cW ds
 if k=0 then .ok none else match pB (b==95) (ds.take k)with
  |none=> .error 32
  |some v=> .ok (some (2,[],v,k+if b==95 then 1 else 0))
def fC:Bs->Except Int TokR
 |[]=> .error 31
 |b::r=>
  if b==10 then .ok (4,[],0,1)
  else if kT b then (if 16<runB kL (b::r)then .error 33 else .ok (1,(b::r).take (runB kL (b::r)),0,runB kL (b::r)))
  else match iU b r with
   |.error e=> .error e
   |.ok (some t)=> .ok t
   |.ok none=>if gM (b::r)=0 then .error 31 else .ok (3,(b::r).take (gM (b::r)),0,gM (b::r))
def mW (b:UInt8):Bool:=b==32 || b==9
def lexGo:Nat->Nat->Bs->List Tok->List Tok×Flt
 |0,_,_,out=>(out,(0,0))
 |_+1,_,[],out=>(out,(0,0))
 |f+1,i,b::r,out=>
  if mW b then lexGo f (i+1) r out
  else if b==35 then lexGo f (i+runB (· !=10) (b::r)) ((b::r).drop (runB (· !=10) (b::r))) out
  else match fC (b::r)with
   |.error e=>([],(i,e))
   |.ok (k,wd,v,m)=>lexGo f (i+m) ((b::r).drop m) (out++[⟨k,i,wd,v⟩])
def hO (s:Bs):List Tok×Flt:=if 65536<s.length then ([],(0,30))else lexGo s.length 0 s []
theorem bTc{b:UInt8}{r:Bs}{t:TokR}(h:iU b r= .ok (some t)):1<=t.2.2.2/\t.2.2.2<=r.length+1:=by
 unfold iU at h
 by_cases a:(b==95)=true
 .simp only[a,if_true]at h;have hl:=kU cW r;split at h
  .cases h
  .split at h
   .cases h
   .simp only[Except.ok.injEq,Option.some.injEq]at h;subst h;simp;omega
 .simp only[a,J2,if_false]at h;have hl:=kU cW (b::r);simp only[F5]at hl;split at h
  .cases h
  .split at h
   .cases h
   .simp only[Except.ok.injEq,Option.some.injEq]at h;subst h;simp only;omega
theorem bBd: ∀s:Bs,gM s<=s.length
 |[]=>B0 _
 |[b]=>by
  have e:(none==some (61:UInt8))=false:=rfl;simp only[gM,List.head?_nil,e,Bool.and_false,J2,if_false];split<;>simp
 |b::c::r=>by
  simp only[gM];split
  .simp
  .split
   .simp only[F5];omega
   .omega
theorem uZ{s:Bs}{t:TokR}(h:fC s= .ok t):1<=t.2.2.2/\t.2.2.2<=s.length:=by
 cases s with
 |nil=>cases h
 |cons b r=>
  simp only[fC]at h;split at h
  .cases h;simp
  .split at h
   .rename_i a;split at h
    .cases h
    .cases h;have:=kU kL (b::r);refine⟨?_,this⟩;simp only[runB,kL,a,Bool.true_or,if_true];omega
   .split at h
    .cases h
    .rename_i c ht;cases h;exact bTc ht
    .split at h
     .cases h
     .cases h;have:=bBd (b::r);simp only;omega
theorem bIj{p:UInt8->Bool}{b:UInt8}{r:Bs}(h:p b=true):1<=runB p (b::r):=by simp only[runB,h,if_true];omega
theorem bOt{b:UInt8}(h:(b==35)=true):(b !=10)=true:=by
 have:b=35:=by simpa using h
 subst this;decide
theorem vB: ∀(f g i:Nat) (s:Bs) (out:List Tok),s.length<=f->s.length<=g->lexGo f i s out=lexGo g i s out
 |0,0,_,_,_,_,_=>rfl
 |0,g+1,_,[],_,_,_=>rfl
 |f+1,0,_,[],_,_,_=>rfl
 |0,_,_,b::r,_,h,_=>by simp at h
 |_,0,_,b::r,_,_,h=>by simp at h
 |f+1,g+1,_,[],_,_,_=>rfl
 |f+1,g+1,i,b::r,out,h,k=>by
  simp only[F5]at h k;unfold lexGo;split
  .exact vB f g _ _ _ m0 m0
  .split
   .rename_i a;have:1<=runB (· !=10) (b::r):=bIj (bOt a);exact vB f g _ _ _ s8 s8
   .split
    .rfl
    .rename_i ht;have:=(uZ ht).1;exact vB f g _ _ _ (by simp at this⊢;omega) (by simp at this⊢;omega)
theorem oQ{i:Nat}{b:UInt8}{r:Bs}{out:List Tok}:lexGo (b::r).length i (b::r) out=
  if mW b then lexGo r.length (i+1) r out
  else if b==35 then lexGo ((b::r).drop (runB (· !=10) (b::r))).length (i+runB (· !=10) (b::r)) ((b::r).drop (runB (· !=10) (b::r))) out
  else match fC (b::r)with
   |.error e=>([],(i,e))
   |.ok (k,wd,v,m)=>lexGo ((b::r).drop m).length (i+m) ((b::r).drop m) (out++[⟨k,i,wd,v⟩]):=by
 rw[F5,lexGo];split
 .rfl
 .split
  .rename_i a;have:1<=runB (· !=10) (b::r):=bIj (bOt a);exact vB _ _ _ _ _ s8 n9
  .split
   .rfl
   .rename_i ht;have:=(uZ ht).1;exact vB _ _ _ _ _ (by simp at this⊢;omega) n9
end
section
open Go.RowKit Go.Proofs.Tryz
theorem run_more{p:UInt8->Bool}{s:Bs}{i:Nat}{b:UInt8}(hb:s[i]?=some b)(hp:p b=true)(h:runB p s=i+runB p (s.drop i)):runB p s=(i+1)+runB p (s.drop (i+1)):=by obtain⟨hi,hb⟩:=F3.1 hb;rw[K2 hi,hb,runB,if_pos hp]at h;omega
theorem run_end{p:UInt8->Bool}{s:Bs}{i:Nat}(hc:s.length<=i\/ ∃b,s[i]?=some b/\p b=false)(h:runB p s=i+runB p (s.drop i)):runB p s=i:=by
 rcases hc with hc|⟨b,a,c⟩
 .rw[K3 hc]at h
  simpa[runB]using h
 .obtain⟨hi,a⟩:=F3.1 a;rw[K2 hi,a,runB,c]at h
  simpa using h
theorem or32(a:UInt8):IntKind.u8.wrap (((BitVec.ofInt IntKind.u8.bits (a.toNat:Int) ||| BitVec.ofInt IntKind.u8.bits 32).toNat:Nat):Int)=(((a ||| 32).toNat:Nat):Int):=or_u8 a 32
theorem bMo(b:UInt8):cY prog 113 [l5 b.toNat] [] [] (λ(_:Unit)=> .bool (kT b)) (λ_=>[]) (λ_=>[]):=by
 have hT:=gH;refine j8 func113 ntmps113 ?_;intro β hM;refine g9 ?_;refine bJ (z':=((((b ||| 32):UInt8).toNat:Nat):Int)) (or32 _) ?_;refine g2 ?_;refine bRw (λhg6=>?_) λhg6=>?_
 .refine g2 ?_;refine bJ (z':=((((b ||| 32):UInt8).toNat:Nat):Int)) (or32 _) ?_;refine g6 ?_;exact rs1 () j1 (he:=by congr 1;unfold kT;generalize (b ||| 32).toNat=c at*;rw[L7];simp;omega)
 refine g8 ?_;exact rs1 () j1 (he:=by congr 1;unfold kT;generalize (b ||| 32).toNat=c at*;rw[L7];simp;omega)
theorem bFg(b:UInt8):cY prog 115 [l5 b.toNat] [] [] (λ(_:Unit)=> .bool (cW b)) (λ_=>[]) (λ_=>[]):=by
 have hT:=gH;refine j8 func115 ntmps115 ?_;intro β hM;refine g10 ?_;refine bRw (λa=>?_) λa=>?_
 .refine g7 ?_;exact rs1 () j1 (he:=by congr 1;unfold cW;rw[L7];simp;omega)
 refine g7 ?_;exact rs1 () j1 (he:=by congr 1;unfold cW;rw[L7];simp;omega)
theorem word_spec(b:UInt8):cY prog 114 [l5 b.toNat] [] [] (λ(_:Unit)=> .bool (kL b)) (λ_=>[]) (λ_=>[]):=by
 have hT:=gH;refine j8 func114 ntmps114 ?_;intro β hM;refine g8 ?_;refine bC func113 (bMo _) rfl rfl .nil j1 λ_=>?_;refine one ?_;refine cF (λa=>?_) (λa=>?_)
 .refine g7 ?_;exact rs1 () j1 (he:=by simp[kL, *])
 refine one ?_;refine bC func115 (bFg _) rfl rfl .nil j1 λ_=>?_;refine g5 ?_;exact rs1 () j1 (he:=by simp[kL, *])
theorem line_spec(b:UInt8):cY prog 81 [l5 b.toNat] [] [] (λ(_:Unit)=> .bool (b !=10)) (λ_=>[]) (λ_=>[]):=by have hT:=gH;refine j8 func81 ntmps81 ?_;intro β hM;refine g13 ?_;exact rs1 () j1 (he:=by congr 1;rw[L7];simp[bne_iff_ne,<-L8];omega)
theorem bHs(s:Bs)(hs:s.length<=140737488355328)(f:FuncId)(p:UInt8->Bool)(hcf: ∀(args:Array Value) (w:World),(callFunc f args).run prog w= .ok (.enter f args) w)(hf: ∀b:UInt8,cY prog f [l5 b.toNat] [] [] (λ_:Unit=> .bool (p b)) (λ_=>[]) (λ_=>[])):cY prog 80 [.string (bs s),.func (.func f) #[] #[]] [] [] (λ(_:Unit)=> k9 (runB p s:Nat)) (λ_=>[]) (λ_=>[]):=by
 have hT:=gH;refine j8 func80 ntmps80 ?_;intro β hM;refine g12 ?_;refine cI (ι:=Nat) [(0,_),(1,_)] ⟨rfl,rfl,j1⟩ (λi=>[(5,.int .i64 (i:Nat))]) (λi=>[]) (λi=>[Fact.pure (i<=s.length/\runB p s=i+runB p (s.drop i))]) (λi=>s.length-i) 0 ⟨rfl,j1⟩ .nil ⟨j2 (⟨m0,n9⟩),j1⟩ ?_;rintro i;refine bG d7 λa=>?_;refine g6 ?_;refine bJ (z':=((s.length:Nat):Int)) rfl ?_;refine g2 ?_;refine lK (λd=>?_) λd=>?_
 .refine g3 ?_;obtain⟨e,hb2⟩:=gx s i;refine ss (fJ hT (k:=i) rfl rfl rfl rfl rfl hb2) ?_;refine iS hcf (hf e) rfl rfl rfl rfl rfl rfl rfl .nil j1 λ_=>?_;refine g3 ?_;refine fT (λc=>?_) λc=>?_
  .refine g6 ?_;refine inc (i+1) ?_;refine g4 ?_;exact bk2 (i+1) ⟨j2 (⟨m0,run_more hb2 c a.2⟩),j1⟩
  refine g12 ?_;exact rs1 () j1 (he:=congrArg (λn:Nat=>M0 .i64 (n:Int)) (run_end (.inr ⟨_,hb2,c⟩) a.2).symm)
 refine g21 ?_;exact rs1 () j1 (he:=congrArg (λn:Nat=>M0 .i64 (n:Int)) (run_end (.inl m0) a.2).symm)
end
section
open Go.RowKit Go.Proofs.Tryz
theorem bRn{P:Program}(w:World)(d:Nat)(t:TypeId)(a b:Bs)(ht:P.underlying t=some .string):(H7 (d+1) t (.string (bs a)) (.string (bs b))).run P w= .ok (a==b) w:=by rw[run_equalIn_string w d t _ _ ht];simp[bs]
section
variable {P : Program} {β : fR} {n : Nat} {Γ : Env} {H : List bL} {F : List Fact} {o : Oper} {x : Operand} {t tt : TypeId}
theorem run_eqIf{ms:Array (String×TypeId)}(ht:P.underlying t=some (.interface ms))(w:World)(u:TypeId)(v:Value):(M3 t (.iface u v) .nilIface).run P w= .ok false w/\(M3 t .nilIface .nilIface).run P w= .ok true w:=by
 have h1: ∀d,(H7 (d+1) t (.iface u v) .nilIface).run P w= .ok false w:=λd=>by simp[H7,run_underlying ht]
 have h2: ∀d,(H7 (d+1) t .nilIface .nilIface).run P w= .ok true w:=λd=>by simp[H7,run_underlying ht]
 exact⟨h1 9999,h2 9999⟩
theorem sti_err{ms:Array (String×TypeId)}(ht:P.underlying t=some (.interface ms)){u:TypeId}{v:Value}(ho:o.op= .binOp .neq t x (.const .nilIface) tt)(hx:Γ.ev x=some (.iface u v)):Sti P β n Γ H F o (.bool true):=λc w S f s k=>by
 unfold execOp;have e:c.eval (.const .nilIface)= .nilIface:=rfl;simp only[ho,f.ev hx,e]
 have a:(binOp .neq t (.iface u v) .nilIface).run P w= .ok (.bool true) w:=by simp only[binOp];rw[G9,(run_eqIf ht w u v).1];rfl
 rw[G9,G9];have hg:(eqGuard .neq t x (.const .nilIface) (.iface u v) .nilIface).run P w= .ok () w:=rfl;rw[hg,H6,a];rfl
theorem bVb{ms:Array (String×TypeId)}(ht:P.underlying t=some (.interface ms))(ho:o.op= .binOp .neq t x (.const .nilIface) tt)(hx:Γ.ev x=some .nilIface):Sti P β n Γ H F o (.bool false):=λc w S f s k=>by
 unfold execOp;have e:c.eval (.const .nilIface)= .nilIface:=rfl;simp only[ho,f.ev hx,e]
 have a:(binOp .neq t .nilIface .nilIface).run P w= .ok (.bool false) w:=by simp only[binOp];rw[G9,(run_eqIf ht w 0 .nilIface).2];rfl
 rw[G9,G9]
 have hg:(eqGuard .neq t x (.const .nilIface) .nilIface .nilIface).run P w= .ok () w:=by unfold eqGuard;simp
 rw[hg,H6,a];rfl
end
def rS (x y:FltV):Bool:=((x.at_==y.at_)&&(x.code==y.code))
theorem zV(d:Nat)(x y:FltV)(w:World):(H7 (d+2) 30 (.agg #[k9 x.at_,k9 x.code]) (.agg #[k9 y.at_,k9 y.code])).run prog w= .ok (rS x y) w:=by
 have c:prog.stoodInHeld 30=false:=m7
 have b: ∀x:FltV,(part 3 #[.int .i64 x.at_,.int .i64 x.code] 0).run prog w= .ok (.int .i64 x.at_) w:=λx=>by kernel_rfl
 have a: ∀x:FltV,(part 28 #[.int .i64 x.at_,.int .i64 x.code] 1).run prog w= .ok (.int .i64 x.code) w:=λx=>by kernel_rfl
 have e:prog.underlying 30=some (.struct (prog.fieldsOf 30)):=m7
 rw[run_equalIn_agg w (d+1) 30 _ _ e c];unfold Program.fieldsOf;rw[underlying30];simp only[Op.eqFields,G9,Sem.run_ite,Sem.run_pure,b,a,H6,run_equalIn_int w d 3 .i64 .i64 _ _ underlying3,run_equalIn_int w d 28 .i64 .i64 _ _ underlying28];unfold rS;cases x.at_==y.at_<;>cases x.code==y.code<;>rfl
theorem gG{β:fR}{n:Nat}{Γ:Env}{H:List bL}{F:List Fact}{o:Oper}{a b:Operand}{tt:TypeId}(x y:FltV)(ho:o.op= .binOp .neq 30 a b tt)(hx:Γ.ev a=some (.agg #[k9 x.at_,k9 x.code]))(hy:Γ.ev b=some (.agg #[k9 y.at_,k9 y.code])):Sti prog β n Γ H F o (.bool (!rS x y)):=λc w S f s k=>by
 have hq:prog.eqGuardType prog.depth 30=false:=m7
 have hg:(eqGuard .neq 30 a b (.agg #[.int .i64 x.at_,.int .i64 x.code]) (.agg #[.int .i64 y.at_,.int .i64 y.code])).run prog w= .ok () w:=by unfold eqGuard;have d:(program:Sem Program).run prog w= .ok prog w:=rfl;simp[d,hq]
 have e:(binOp .neq 30 (.agg #[.int .i64 x.at_,.int .i64 x.code]) (.agg #[.int .i64 y.at_,.int .i64 y.code])).run prog w= .ok (.bool (!rS x y)) w:=by rw[run_neq_struct,zV 9998 x y w];rfl
 unfold execOp;simp only[ho,f.ev hx,f.ev hy];rw[G9,G9,hg,H6,e];rfl
theorem vP{β:fR}{n:Nat}{Γ:Env}{H:List bL}{F:List Fact}{o:Oper}{a b:Operand}{tt:TypeId}(x y:FltV)(ho:o.op= .binOp .eql 30 a b tt)(hx:Γ.ev a=some (.agg #[k9 x.at_,k9 x.code]))(hy:Γ.ev b=some (.agg #[k9 y.at_,k9 y.code])):Sti prog β n Γ H F o (.bool (rS x y)):=λc w S f s k=>by
 have hq:prog.eqGuardType prog.depth 30=false:=m7
 have hg:(eqGuard .eql 30 a b (.agg #[.int .i64 x.at_,.int .i64 x.code]) (.agg #[.int .i64 y.at_,.int .i64 y.code])).run prog w= .ok () w:=by unfold eqGuard;have d:(program:Sem Program).run prog w= .ok prog w:=rfl;simp[d,hq]
 have e:(binOp .eql 30 (.agg #[.int .i64 x.at_,.int .i64 x.code]) (.agg #[.int .i64 y.at_,.int .i64 y.code])).run prog w= .ok (.bool (rS x y)) w:=by rw[run_eql_struct,zV 9998 x y w];rfl
 unfold execOp;simp only[ho,f.ev hx,f.ev hy];rw[G9,G9,hg,H6,e];rfl
def tokEq (x y:TokV):Bool:=((x.kind==y.kind)&&((x.at_==y.at_)&&((x.word==y.word)&&(x.n==y.n))))
theorem bNb(d:Nat)(x y:TokV)(w:World):(H7 (d+2) 110 (.agg #[k9 x.kind,k9 x.at_,.string (bs x.word),k9 x.n]) (.agg #[k9 y.kind,k9 y.at_,.string (bs y.word),k9 y.n])).run prog w= .ok (tokEq x y) w:=by
 have f:prog.stoodInHeld 110=false:=m7
 have e: ∀x:TokV,(part 3 #[.int .i64 x.kind,.int .i64 x.at_,.string (bs x.word),.int .i64 x.n] 0).run prog w= .ok (.int .i64 x.kind) w:=λx=>by kernel_rfl
 have c: ∀x:TokV,(part 3 #[.int .i64 x.kind,.int .i64 x.at_,.string (bs x.word),.int .i64 x.n] 1).run prog w= .ok (.int .i64 x.at_) w:=λx=>by kernel_rfl
 have b: ∀x:TokV,(part 9 #[.int .i64 x.kind,.int .i64 x.at_,.string (bs x.word),.int .i64 x.n] 2).run prog w= .ok (.string (bs x.word)) w:=λx=>by kernel_rfl
 have a: ∀x:TokV,(part 2 #[.int .i64 x.kind,.int .i64 x.at_,.string (bs x.word),.int .i64 x.n] 3).run prog w= .ok (.int .i64 x.n) w:=λx=>by kernel_rfl
 have g:prog.underlying 110=some (.struct (prog.fieldsOf 110)):=m7
 rw[run_equalIn_agg w (d+1) 110 _ _ g f];unfold Program.fieldsOf;rw[underlying110];simp only[Op.eqFields,G9,Sem.run_ite,Sem.run_pure,e,c,b,a,H6,run_equalIn_int w d 3 .i64 .i64 _ _ underlying3,bRn w d 9 _ _ underlying9,run_equalIn_int w d 2 .i64 .i64 _ _ underlying2];unfold tokEq;cases x.kind==y.kind<;>cases x.at_==y.at_<;>cases x.word==y.word<;>cases x.n==y.n<;>rfl
theorem sti_neq_tok{β:fR}{n:Nat}{Γ:Env}{H:List bL}{F:List Fact}{o:Oper}{a b:Operand}{tt:TypeId}(x y:TokV)(ho:o.op= .binOp .neq 110 a b tt)(hx:Γ.ev a=some (.agg #[k9 x.kind,k9 x.at_,.string (bs x.word),k9 x.n]))(hy:Γ.ev b=some (.agg #[k9 y.kind,k9 y.at_,.string (bs y.word),k9 y.n])):Sti prog β n Γ H F o (.bool (!tokEq x y)):=λc w S f s k=>by
 have hq:prog.eqGuardType prog.depth 110=false:=m7
 have hg:(eqGuard .neq 110 a b (.agg #[.int .i64 x.kind,.int .i64 x.at_,.string (bs x.word),.int .i64 x.n]) (.agg #[.int .i64 y.kind,.int .i64 y.at_,.string (bs y.word),.int .i64 y.n])).run prog w= .ok () w:=by unfold eqGuard;have d:(program:Sem Program).run prog w= .ok prog w:=rfl;simp[d,hq]
 have e:(binOp .neq 110 (.agg #[.int .i64 x.kind,.int .i64 x.at_,.string (bs x.word),.int .i64 x.n]) (.agg #[.int .i64 y.kind,.int .i64 y.at_,.string (bs y.word),.int .i64 y.n])).run prog w= .ok (.bool (!tokEq x y)) w:=by rw[run_neq_struct,bNb 9998 x y w];rfl
 unfold execOp;simp only[ho,f.ev hx,f.ev hy];rw[G9,G9,hg,H6,e];rfl
end
section
open Go.RowKit Go.Proofs.Tryz
theorem named0:prog.globalNamed "strings.asciiSpace" =some 1:=m7
theorem named7:prog.globalNamed "internal/strconv.uint64pow10" =some 7:=m7
def jY:Fact where
 p S w:=(S 1/\S 7/\S 0/\S 4)/\Lib.TabIs prog w "strings.asciiSpace" .u8 Lib.asciiSpaceTab/\Lib.TabIs prog w "internal/strconv.uint64pow10" .u64 Lib.pow10Tab/\
  (∃m,w.cell? ⟨0,0,none⟩=some (.int .i64 m))/\ ∃ev,w.cell? ⟨4,0,none⟩=some ev/\(ev= .nilIface\/ ∃te pe,ev= .iface te pe)
 mono:=λ{S S' w w'} hs ha h=>by
  obtain⟨⟨s0,s7,s4,s3⟩,h0,h7,⟨m,h4⟩,ev,h3,he⟩:=h;refine⟨⟨hs _ s0,hs _ s7,hs _ s4,hs _ s3⟩,?_,?_,⟨m,?_⟩,ev,?_,he⟩
  .unfold Lib.TabIs World.var? at*;rw[named0]at*;simp only[M4,ha _ s0]at*;exact h0
  .unfold Lib.TabIs World.var? at*;rw[named7]at*;simp only[M4,ha _ s7]at*;exact h7
  .unfold World.cell? at*;rw[ha _ s4];exact h4
  .unfold World.cell? at*;rw[ha _ s3];exact h3
theorem bCu{P:Program}{f:FuncId}{args:List Value}{Pre:List Fact}{v:Value}(h: ∀S w,All Pre S w->Calls P f args.toArray w λe w'=>e= .returned v/\w'=w):
  cY P f args [] Pre (λ_:Unit=>v) (λ_=>[]) (λ_=>[]):=jZ λS w _ k=>(h S w k).mono λe w' ⟨he,a⟩=>⟨he,by rw[a];exact Below.refl _ _⟩
theorem bAv(s p:Bs):cY prog 146 [.string (bs s),.string (bs p)] [] [] (λ_:Unit=> .bool (p.isPrefixOf s)) (λ_=>[]) (λ_=>[]):=
 bCu λ_ w _=>Tryz.strings_HasPrefix (bs s) (bs p) w
theorem bQm(s:Bs)(b:UInt8):cY prog 147 [.string (bs s),l5 b.toNat] [] [] (λ_:Unit=> k9 (M5 s b)) (λ_=>[]) (λ_=>[]):=
 bCu λ_ w _=>by
  have h:=Tryz.strings_IndexByte (bs s) (b.toNat:Int) w;have e:((b.toNat:Int).toNat).toUInt8=b:=by simp
  rw[e]at h;exact h
theorem uB(b:UInt8): ∀l:Bs,(decide ((0:Int)<=M5 l b))=l.contains b/\(M5 l b= -1\/0<=M5 l b)
 |[]=>by simp[M5]
 |c::l=>by
  obtain⟨h1,h2⟩:=uB b l;unfold M5
  by_cases h:(c==b)=true
  .have:b=c:=(by simpa using h:c=b).symm;simp[this]
  .have a: ¬b=c:=λe=>h am0;simp only[h,J2,if_false]
   rcases h2 with h2|h2
   .rw[h2]at h1⊢;simp only[beq_self_eq_true,if_true];simp at h1;refine⟨?_,.inl j1⟩;simp[a,h1]
   .have: ¬M5 l b= -1:=m0
    have g:(M5 l b== -1)=false:=by simp[this]
    rw[g];simp only[J2,if_false];refine⟨?_,.inr m0⟩;have d:l.contains b=true:=by rw[<-h1];simp[h2]
    have f:b∈l:=by simpa using d
    simp[f];omega
theorem decV_ge: ∀(ds:Bs) (acc:Nat),acc<=decV ds acc
 |[],_=>B0 _
 |b::r,acc=>by have:=decV_ge r (10*acc+(b.toNat-48));simp only[decV];omega
theorem bHv: ∀(ds:Bs) (acc:Nat),(∀b∈ds,cW b=true)->acc<=18446744073709551615->M6 18446744073709551615 acc ds=if decV ds acc<=18446744073709551615 then .ok (decV ds acc)else .range
 |[],acc,_,h=>by simp[M6,decV,h]
 |b::r,acc,hd,h=>by
  have a:=hd b n9;simp only[cW,J3,decide_eq_true_eq]at a;have c:=decV_ge r (10*acc+(b.toNat-48));unfold M6 decV;rw[if_pos a];split
  .rw[if_neg m0]
  .split
   .rw[if_neg m0]
   .rw[bHv r _ (λx hx=>hd x ah0) m0,show acc*10+(b.toNat-48)=10*acc+(b.toNat-48)from by omega]
theorem bGk{neg:Bool}{ds:Bs}(hne:ds≠[])(hd: ∀b∈ds,cW b=true):M7 64 ((if neg then [45]else [])++ds)=match pB neg ds with
  |some v=> .ok v
  |none=> .range:=by
 have hu:Lib.parseUintB 64 ds=if decV ds 0<=18446744073709551615 then .ok (decV ds 0)else .range:=by unfold Lib.parseUintB;rw[if_neg hne];exact bHv ds 0 hd m0
 cases neg with
 |true=>
  simp only[if_true,K4,M7];have e:((45:UInt8).toNat=43\/(45:UInt8).toNat=45):=m9
  have a:(45:UInt8).toNat=45:=m9
  rw[if_pos e,hu];unfold pB;simp only[if_true]
  by_cases h1:decV ds 0<=18446744073709551615
  .rw[if_pos h1]
   by_cases h2:decV ds 0<=9223372036854775808
   .simp[h2,a]
   .have d:9223372036854775808<decV ds 0:=m0
    simp[a,h2,d]
  .rw[if_neg h1,if_neg m0]
 |false=>
  cases ds with
  |nil=>exact absurd rfl hne
  |cons b r=>
   have c:=hd b n9;simp only[cW,J3,decide_eq_true_eq]at c;simp only[J2,if_false,K5,M7];have e: ¬(b.toNat=43\/b.toNat=45):=m0
   have a: ¬b.toNat=45:=m0
   rw[if_neg e,hu];unfold pB;simp only[J2,if_false]
   by_cases h1:decV (b::r) 0<=18446744073709551615
   .rw[if_pos h1]
    by_cases h2:decV (b::r) 0<=9223372036854775807
    .simp[h2,a];omega
    .simp[a,h2];omega
   .rw[if_neg h1,if_neg m0]
def bKo (neg:Bool):Bs:=if neg then [45]else []
theorem bMw(neg:Bool)(ds:Bs)(hne:ds≠[])(hd: ∀b∈ds,cW b=true)(hl:ds.length<=140737488355328){v:Int}(hv:pB neg ds=some v):
  cY prog 145 [.string (bs (bKo neg++ds)),k9 10,k9 64] [] [] (λ_:Unit=> .tuple #[k9 v,.nilIface]) (λ_=>[]) (λ_=>[]):=
 jZ λ_ w _ _=>by
  have a:=bGk (neg:=neg) hne hd;rw[hv]at a;refine(Tryz.strconv_ParseInt_10_at64_ok (bs (bKo neg++ds)) (by rw[mE];unfold bKo;cases neg<;>simp<;>omega) v a w).mono ?_;rintro e c ⟨rfl,h⟩;refine⟨rfl,?_⟩
  rcases h with rfl|⟨t,rfl⟩
  .exact Below.refl _ _
  .exact Joins.below_bytesWorld _ _ _ _ (B0 _)
theorem bCd(neg:Bool)(ds:Bs)(hne:ds≠[])(hd: ∀b∈ds,cW b=true)(hl:ds.length<=140737488355328)(hv:pB neg ds=none):
  cY prog 145 [.string (bs (bKo neg++ds)),k9 10,k9 64] [] [jY] (λx:Int×Nat=> .tuple #[k9 x.1,.iface 261 (.pointer (some ⟨x.2,0,none⟩))]) (λ_=>[]) (λ_=>[]):=λS w s k=>by obtain⟨_,_,_,_,ev,i,he⟩:=k _ (.head _);have f:=bGk (neg:=neg) hne hd;rw[hv]at f;refine(Tryz.strconv_ParseInt_10_at64_range (bs (bKo neg++ds)) (by rw[mE];unfold bKo;cases neg<;>simp<;>omega) f ev w i he).mono ?_;rintro e j ⟨N,rfl,_,_,h⟩;exact⟨(_,N),S,rfl,⟨pC.of_below _ h,λc d=>by simp at d,λc d=>by simp at d,List.Pairwise.nil,λb a=>⟨Nat.lt_of_lt_of_le (s.W b a).1 h.size,.inl a⟩⟩,λg hg=>by simp at hg⟩
end
section
open Go.RowKit Go.Proofs.Tryz
theorem dJ{b k:UInt8}(h:(b.toNat:Int)=(k.toNat:Int)):b=k:=L8.1 m0
theorem dK{b k:UInt8}(h:(b.toNat:Int)≠(k.toNat:Int)):b≠k:=λe=>h (by rw[e])
theorem pre2(k b:UInt8)(r:Bs):[k,61].isPrefixOf (b::r)=(b==k&&r.head?==some 61):=by
 cases r with
 |nil=>simp[List.isPrefixOf]
 |cons c r=>
  show((k==b)&&(((61:UInt8)==c)&&true))=(b==k&&(c==61));rw[show(k==b)=(b==k)from BEq.comm,show((61:UInt8)==c)=(c==61)from BEq.comm,Bool.and_true]
section
variable {b : UInt8} {r : Bs}
theorem sign_a(h:([60,61]:Bs).isPrefixOf (b::r)=true):M0 .i64 2=M0 .i64 ((gM (b::r):Nat):Int):=by rw[pre2]at h;simp only[J3,beq_iff_eq]at h;simp[gM,h.1,h.2]
theorem sign_b(_:([60,61]:Bs).isPrefixOf (b::r)=false)(h:([62,61]:Bs).isPrefixOf (b::r)=true):M0 .i64 2=M0 .i64 ((gM (b::r):Nat):Int):=by rw[pre2]at h;simp only[J3,beq_iff_eq]at h;simp[gM,h.1,h.2]
theorem sign_no(h1:([60,61]:Bs).isPrefixOf (b::r)=false)(h2:([62,61]:Bs).isPrefixOf (b::r)=false):((b==60 || b==62)&&r.head?==some 61)=false:=by rw[pre2]at h1 h2;generalize (b==60)=x at*;generalize (b==62)=y at*;generalize (r.head?==some 61)=z at*;cases x<;>cases y<;>cases z<;>simp_all
theorem sign_c(h1:([60,61]:Bs).isPrefixOf (b::r)=false)(h2:([62,61]:Bs).isPrefixOf (b::r)=false)(h3:(0:Int)<=M5 ([43,45,42,37,124,61,126,60,62,47,92,46,58,40,41]:Bs) b):M0 .i64 1=M0 .i64 ((gM (b::r):Nat):Int):=by have h4:=(uB b ([43,45,42,37,124,61,126,60,62,47,92,46,58,40,41]:Bs)).1;rw[decide_eq_true h3]at h4;have a:fO.contains b=true:=h4.symm;simp only[gM,sign_no h1 h2,J2,if_false,a,if_true];rfl
theorem sign_d(h1:([60,61]:Bs).isPrefixOf (b::r)=false)(h2:([62,61]:Bs).isPrefixOf (b::r)=false)(h3:M5 ([43,45,42,37,124,61,126,60,62,47,92,46,58,40,41]:Bs) b<0):M0 .i64 0=M0 .i64 ((gM (b::r):Nat):Int):=by have h4:=(uB b ([43,45,42,37,124,61,126,60,62,47,92,46,58,40,41]:Bs)).1;rw[decide_eq_false m0]at h4;have a:fO.contains b=false:=h4.symm;simp only[gM,sign_no h1 h2,J2,if_false,a];rfl
theorem yV(p:UInt8->Bool): ∀s:Bs,∀b∈s.take (runB p s),p b=true
 |[],_,h=>by simp at h
 |c::s,b,h=>by
  unfold runB at h;split at h
  .rename_i a;rw[List.take_succ_cons,E2]at h
   rcases h with rfl|h
   .exact a
   .exact yV p s b h
  .simp at h
theorem bNw{s:Bs}{k:Nat}(h:((k:Nat):Int)≠0)(hk:k<=s.length):s.take k≠[]:=λe=>by
 have:(s.take k).length=0:=by rw[e];rfl
 rw[K6]at this;omega
def numV:Except Int (Option TokR)->Value
 |.error e=> .tuple #[.int .i64 0,.int .i64 0,.int .i64 e]
 |.ok none=> .tuple #[.int .i64 0,.int .i64 0,.int .i64 0]
 |.ok (some t)=> .tuple #[.int .i64 t.2.2.1,.int .i64 (t.2.2.2:Nat),.int .i64 0]
theorem num_m0(hb:b=95):iU b r=if runB cW r=0 then .ok none else match pB true (r.take (runB cW r))with
  |none=> .error 32
  |some v=> .ok (some (2,[],v,runB cW r+1)):=by subst hb;rfl
theorem num_p0(hb:b≠95):iU b r=if runB cW (b::r)=0 then .ok none else match pB false ((b::r).take (runB cW (b::r)))with
  |none=> .error 32
  |some v=> .ok (some (2,[],v,runB cW (b::r)+0)):=by
 have:(b==95)=false:=by simp[hb]
 unfold iU;rw[this];rfl
theorem cast0{n:Nat}(h:((n:Nat):Int)=0):n=0:=m0
theorem castn{n:Nat}(h:((n:Nat):Int)≠0):n≠0:=m0
theorem num_mz(hb:b=95)(hk:((runB cW ((b::r).drop 1):Nat):Int)=0):M1 #[k9 0,k9 0,k9 0]=numV (iU b r):=by have hk:runB cW r=0:=cast0 hk;rw[num_m0 hb,if_pos hk];rfl
theorem num_me(hb:b=95)(hk:((runB cW ((b::r).drop 1):Nat):Int)≠0)(hv:pB true (((b::r).drop 1).take (runB cW ((b::r).drop 1)))=none):M1 #[k9 0,k9 0,k9 32]=numV (iU b r):=by have hk: ¬runB cW r=0:=castn hk;have hv:pB true (r.take (runB cW r))=none:=hv;rw[num_m0 hb,if_neg hk,hv];rfl
theorem num_mo{v:Int}(hb:b=95)(hk:((runB cW ((b::r).drop 1):Nat):Int)≠0)(hv:pB true (((b::r).drop 1).take (runB cW ((b::r).drop 1)))=some v):
  M1 #[k9 v,k9 (((runB cW ((b::r).drop 1))+([45]:Bs).length:Nat):Int),k9 0]=numV (iU b r):=by have hk: ¬runB cW r=0:=castn hk;have hv:pB true (r.take (runB cW r))=some v:=hv;rw[num_m0 hb,if_neg hk,hv];rfl
theorem num_pz(hb:b≠95)(hk:((runB cW (b::r):Nat):Int)=0):M1 #[k9 0,k9 0,k9 0]=numV (iU b r):=by rw[num_p0 hb,if_pos (cast0 hk)];rfl
theorem num_pe(hb:b≠95)(hk:((runB cW (b::r):Nat):Int)≠0)(hv:pB false ((b::r).take (runB cW (b::r)))=none):M1 #[k9 0,k9 0,k9 32]=numV (iU b r):=by rw[num_p0 hb,if_neg (castn hk),hv];rfl
theorem num_po{v:Int}(hb:b≠95)(hk:((runB cW (b::r):Nat):Int)≠0)(hv:pB false ((b::r).take (runB cW (b::r)))=some v):
  M1 #[k9 v,k9 (((runB cW (b::r))+([]:Bs).length:Nat):Int),k9 0]=numV (iU b r):=by rw[num_p0 hb,if_neg (castn hk),hv];rfl
theorem bQd{e:Int}(h:iU b r= .error e):e=32:=by
 unfold iU at h
 by_cases a:(b==95)=true
 .simp only[a,if_true]at h;split at h
  .cases h
  .split at h
   .cases h;rfl
   .cases h
 .simp only[a,J2,if_false]at h;split at h
  .cases h
  .split at h
   .cases h;rfl
   .cases h
def bBn:Except Int TokR->Value
 |.error e=> .tuple #[.agg #[.int .i64 (if e=32 then 2 else 0),.int .i64 0,.string (bs []),.int .i64 0],.int .i64 0,.int .i64 e]
 |.ok t=> .tuple #[.agg #[.int .i64 t.1,.int .i64 0,.string (bs t.2.1),.int .i64 t.2.2.1],.int .i64 (t.2.2.2:Nat),.int .i64 0]
section
variable (h1 : b ≠ 10) (h2 : kT b = false)
theorem zL(h:b=10):M1 #[.agg #[k9 4,k9 0,.string (bs []),k9 0],k9 1,k9 0]=bBn (fC (b::r)):=by subst h;rfl
include h1
theorem yG(h2:kT b=true)(h3:((runB kL (b::r):Nat):Int)<=16):M1 #[.agg #[k9 1,k9 0,.string (bs ((b::r).take (runB kL (b::r)))),k9 0],k9 (runB kL (b::r):Nat),k9 0]=bBn (fC (b::r)):=by
 have e:fC (b::r)= .ok (1,(b::r).take (runB kL (b::r)),0,runB kL (b::r)):=by simp only[fC,beq_iff_eq,h1,if_false,h2,if_true];rw[if_neg m0]
 rw[e];rfl
theorem yM(h2:kT b=true)(h3:(16:Int)<((runB kL (b::r):Nat):Int)):M1 #[.agg #[k9 0,k9 0,.string (bs []),k9 0],k9 0,k9 33]=bBn (fC (b::r)):=by
 have e:fC (b::r)= .error 33:=by simp only[fC,beq_iff_eq,h1,if_false,h2,if_true];rw[if_pos m0]
 rw[e];rfl
include h2
theorem zI{e:Int}(h:iU b r= .error e)(he:e=32):M1 #[.agg #[k9 2,k9 0,.string (bs []),k9 0],k9 0,k9 e]=bBn (fC (b::r)):=by
 have q:fC (b::r)= .error e:=by simp only[fC,beq_iff_eq,h1,if_false,h2,J2,h]
 rw[q,he];rfl
theorem zJ{kk v:Int}{ww:Bs}{m:Nat}(h:iU b r= .ok (some (kk,ww,v,m))):M1 #[.agg #[k9 2,k9 0,.string (bs []),k9 v],k9 (m:Nat),k9 0]=bBn (fC (b::r)):=by
 have q:fC (b::r)= .ok (kk,ww,v,m):=by simp only[fC,beq_iff_eq,h1,if_false,h2,J2,h]
 have a:kk=2/\ww=[]:=by
  unfold iU at h
  by_cases c:(b==95)=true
  .simp only[c,if_true]at h;split at h
   .cases h
   .split at h
    .cases h
    .cases h;exact⟨rfl,rfl⟩
  .simp only[c,J2,if_false]at h;split at h
   .cases h
   .split at h
    .cases h
    .cases h;exact⟨rfl,rfl⟩
 rw[q,a.1,a.2];rfl
theorem yY(h:iU b r= .ok none)(h3:((gM (b::r):Nat):Int)=0):M1 #[.agg #[k9 0,k9 0,.string (bs []),k9 0],k9 0,k9 31]=bBn (fC (b::r)):=by
 have e:fC (b::r)= .error 31:=by simp only[fC,beq_iff_eq,h1,if_false,h2,J2,h];rw[if_pos (cast0 h3)]
 rw[e];rfl
theorem yP(h:iU b r= .ok none)(h3:((gM (b::r):Nat):Int)≠0):M1 #[.agg #[k9 3,k9 0,.string (bs ((b::r).take (gM (b::r)))),k9 0],k9 (gM (b::r):Nat),k9 0]=bBn (fC (b::r)):=by
 have e:fC (b::r)= .ok (3,(b::r).take (gM (b::r)),0,gM (b::r)):=by simp only[fC,beq_iff_eq,h1,if_false,h2,J2,h];rw[if_neg (castn h3)]
 rw[e];rfl
end
end
theorem sign_spec(b:UInt8)(r:Bs):cY prog 117 [.string (bs (b::r))] [] [] (λ(_:Unit)=> k9 (gM (b::r):Nat)) (λ_=>[]) (λ_=>[]):=by
 have hT:=gH;refine j8 func117 ntmps117 ?_;intro β hM;refine g10 ?_;refine bC func146 (bAv _ ([60,61]:Bs)) rfl rfl .nil j1 λ_=>?_;refine one ?_;refine cF (λhg6=>?_) (λhg6=>?_)
 .refine g15 ?_;exact rs1 () j1 (he:=ac4)
 refine one ?_;refine bC func146 (bAv _ ([62,61]:Bs)) rfl rfl .nil j1 λ_=>?_;refine g4 ?_;refine fT (λhc3=>?_) λhc3=>?_
 .refine g8 ?_;exact rs1 () j1 (he:=ac4)
 refine g3 ?_;refine ss (fJ hT (k:=0) rfl rfl rfl rfl rfl rfl) ?_;refine j5 func147 (bQm ([43,45,42,37,124,61,126,60,62,47,92,46,58,40,41]:Bs) b) j1 λ_=>?_;refine g4 ?_;refine bKs (λhc10=>?_) λhc10=>?_
 .refine g8 ?_;exact rs1 () j1 (he:=ac4)
 refine g9 ?_;exact rs1 () j1 (he:=ac4)
theorem bBi(b:UInt8)(r:Bs)(hl:(b::r).length<=65536):cY prog 116 [.string (bs (b::r))] [] [jY] (λ(_:Unit)=>numV (iU b r)) (λ_=>[]) (λ_=>[]):=by
 have hT:=gH;refine j8 func116 ntmps116 ?_;intro β hM;refine g18 ?_;refine ss (fJ hT (k:=0) rfl rfl rfl rfl rfl rfl) ?_;refine g3 ?_;refine fT (λc=>?_) λc=>?_
 .have c:b=95:=dJ (k:=95) (eq_of_beq c);refine g2 ?_;refine ss (bUz hT (k:=1) rfl rfl rfl rfl rfl n9) ?_;refine g7 ?_;refine bC func80 (bHs ((b::r).drop 1) ae8 _ cW (cB func115 rfl rfl) bFg) rfl rfl .nil j1 λ_=>?_;refine g5 ?_;have e:runB cW ((b::r).drop 1)<=65536:=Nat.le_trans (kU _ _) ae8;refine g5 ?_;refine gJ (λhc19=>?_) λhc19=>?_
  .refine g9 ?_;exact rs3 () j1 (he:=num_mz c hc19)
  have d:=kU cW ((b::r).drop 1);refine g3 ?_
  rcases hv:pB true (((b::r).drop 1).take (runB cW ((b::r).drop 1)))with _|v
  .have a:(((b::r).drop 1).take (runB cW ((b::r).drop 1)))≠[]:=bNw hc19 d;refine g4 ?_;refine ss (bDg hT (k:=(runB cW ((b::r).drop 1))) rfl rfl rfl rfl rfl (kU _ _)) ?_;refine ss (dI rfl rfl rfl ae8) ?_;refine bC func145 (bCd true (((b::r).drop 1).take (runB cW ((b::r).drop 1))) a (yV _ _) ae8 hv) rfl rfl .nil ⟨d7,j1⟩ λ⟨z1,N2⟩=>?_;refine g11 ?_;refine ss (sti_err underlying181 rfl rfl) ?_;refine g12 ?_;exact rs3 () j1 (he:=num_me c hc19 hv)
  have a:(((b::r).drop 1).take (runB cW ((b::r).drop 1)))≠[]:=bNw hc19 d;refine g4 ?_;refine ss (bDg hT (k:=(runB cW ((b::r).drop 1))) rfl rfl rfl rfl rfl (kU _ _)) ?_;refine ss (dI rfl rfl rfl ae8) ?_;refine bC func145 (bMw true (((b::r).drop 1).take (runB cW ((b::r).drop 1))) a (yV _ _) ae8 hv) rfl rfl .nil j1 λ_=>?_;refine g11 ?_;refine ss (bVb underlying181 rfl rfl) ?_;refine g6 ?_;have f:([45]:Bs).length=1:=rfl;have g:([]:Bs).length=0:=rfl;refine g5 ?_;refine bJ (z':=((([45]:Bs).length:Nat):Int)) rfl ?_;refine one ?_;refine inc ((runB cW ((b::r).drop 1))+([45]:Bs).length) ?_;refine g6 ?_;exact rs3 () j1 (he:=num_mo c hc19 hv)
 have c:b≠95:=dK (k:=95) (beq_eq_false_iff_ne.1 c);refine g5 ?_;refine bC func80 (bHs (b::r) ae8 _ cW (cB func115 rfl rfl) bFg) rfl rfl .nil j1 λ_=>?_;refine g5 ?_;have e:runB cW (b::r)<=65536:=Nat.le_trans (kU _ _) ae8;refine g5 ?_;refine gJ (λhc19=>?_) λhc19=>?_
 .refine g9 ?_;exact rs3 () j1 (he:=num_pz c hc19)
 have d:=kU cW (b::r);refine g3 ?_
 rcases hv:pB false ((b::r).take (runB cW (b::r)))with _|v
 .have a:((b::r).take (runB cW (b::r)))≠[]:=bNw hc19 d;refine g4 ?_;refine ss (bDg hT (k:=(runB cW (b::r))) rfl rfl rfl rfl rfl (kU _ _)) ?_;refine ss (dI rfl rfl rfl ae8) ?_;refine bC func145 (bCd false ((b::r).take (runB cW (b::r))) a (yV _ _) ae8 hv) rfl rfl .nil ⟨d7,j1⟩ λ⟨z3,N4⟩=>?_;refine g11 ?_;refine ss (sti_err underlying181 rfl rfl) ?_;refine g12 ?_;exact rs3 () j1 (he:=num_pe c hc19 hv)
 have a:((b::r).take (runB cW (b::r)))≠[]:=bNw hc19 d;refine g4 ?_;refine ss (bDg hT (k:=(runB cW (b::r))) rfl rfl rfl rfl rfl (kU _ _)) ?_;refine ss (dI rfl rfl rfl ae8) ?_;refine bC func145 (bMw false ((b::r).take (runB cW (b::r))) a (yV _ _) ae8 hv) rfl rfl .nil j1 λ_=>?_;refine g11 ?_;refine ss (bVb underlying181 rfl rfl) ?_;refine g6 ?_;have f:([45]:Bs).length=1:=rfl;have g:([]:Bs).length=0:=rfl;refine g5 ?_;refine bJ (z':=((([]:Bs).length:Nat):Int)) rfl ?_;refine one ?_;refine inc ((runB cW (b::r))+([]:Bs).length) ?_;refine g6 ?_;exact rs3 () j1 (he:=num_po c hc19 hv)
end
section
open Go.RowKit Go.Proofs.Tryz
theorem number_err{e:Int}(b:UInt8)(r:Bs)(hl:(b::r).length<=65536)(h:iU b r= .error e):cY prog 116 [.string (bs (b::r))] [] [jY] (λ_:Unit=> .tuple #[k9 0,k9 0,k9 e]) (λ_=>[]) (λ_=>[]):=by have:=bBi b r hl;rw[h]at this;exact this
theorem number_none(b:UInt8)(r:Bs)(hl:(b::r).length<=65536)(h:iU b r= .ok none):cY prog 116 [.string (bs (b::r))] [] [jY] (λ_:Unit=> .tuple #[k9 0,k9 0,k9 0]) (λ_=>[]) (λ_=>[]):=by have:=bBi b r hl;rw[h]at this;exact this
theorem number_some{kk v:Int}{ww:Bs}{m:Nat}(b:UInt8)(r:Bs)(hl:(b::r).length<=65536)(h:iU b r= .ok (some (kk,ww,v,m))):cY prog 116 [.string (bs (b::r))] [] [jY] (λ_:Unit=> .tuple #[k9 v,k9 (m:Nat),k9 0]) (λ_=>[]) (λ_=>[]):=by have:=bBi b r hl;rw[h]at this;exact this
theorem bBt:(prog.info? 110).bind (·.zero)=some (.agg #[k9 0,k9 0,.string (bs []),k9 0]):=m7
theorem xR(z0:Int):prog.built 110 [(0,k9 z0)]=some #[k9 z0,k9 0,.string (bs []),k9 0]:=m7
theorem rD:prog.built 110 []=some #[k9 0,k9 0,.string (bs []),k9 0]:=m7
theorem pJ(z0:Int)(s2:ByteArray):prog.built 110 [(0,k9 z0),(2,.string s2)]=some #[k9 z0,k9 0,.string s2,k9 0]:=m7
theorem pR(z0:Int)(z3:Int):prog.built 110 [(0,k9 z0),(3,k9 z3)]=some #[k9 z0,k9 0,.string (bs []),k9 z3]:=m7
theorem bTs(b:UInt8)(r:Bs)(hl:(b::r).length<=65536):cY prog 82 [.string (bs (b::r))] [] [jY] (λ(_:Unit)=>bBn (fC (b::r))) (λ_=>[]) (λ_=>[]):=by
 have hT:=gH;refine j8 func82 ntmps82 ?_;intro β hM;refine g2 ?_;refine j4 bBt λh=>?_;refine g8 ?_;refine ss (fJ hT (k:=0) rfl rfl rfl rfl rfl rfl) ?_;refine g3 ?_;refine fT (λhc11=>?_) λhc11=>?_
 .have hc11:b=10:=dJ (k:=10) (eq_of_beq hc11);refine g2 ?_;refine ss (j7 (xR _)) ?_;refine g7 ?_;exact rs3 () j1 (he:=r9)
 have hc11:b≠10:=dK (k:=10) (beq_eq_false_iff_ne.1 hc11);refine g6 ?_;refine ss (fJ hT (k:=0) rfl rfl rfl rfl rfl rfl) ?_;refine bC func113 (bMo _) rfl rfl .nil j1 λ_=>?_;refine g2 ?_;refine fT (λhc15=>?_) λhc15=>?_
 .refine g3 ?_;refine bC func80 (bHs (b::r) m0 _ kL (cB func114 rfl rfl) word_spec) rfl rfl .nil j1 λ_=>?_;refine g10 ?_;refine fA (λhc19=>?_) λhc19=>?_
  .refine g2 ?_;refine ss (j7 (rD)) ?_;refine g8 ?_;exact rs3 () j1 (he:=r9)
  refine g6 ?_;refine ss (bDg hT (k:=(runB kL (b::r))) rfl rfl rfl rfl rfl (kU _ _)) ?_;refine ss (j7 (pJ _ _)) ?_;refine g8 ?_;exact rs3 () j1 (he:=r9)
 refine g3 ?_
 rcases hnt:iU b r with e|_|⟨g,f,v,m⟩
 .have he:=bQd hnt;refine g2 ?_;refine j5 func116 (number_err b r hl hnt) ⟨d7,j1⟩ λ_=>?_;refine g14 ?_;refine bF (t':=false) m9 ?_;refine g6 ?_;refine tL (λc=>?_) λc=>?_
  .refine g3 ?_;refine ss (j7 (pR _ _)) ?_;refine g9 ?_;exact rs3 () j1 (he:=r9)
  omega
 .skip
  refine g2 ?_;refine j5 func116 (number_none b r hl hnt) ⟨d7,j1⟩ λ_=>?_;refine g14 ?_;refine bF (t':=false) m9 ?_;refine g3 ?_;refine bF (t':=false) m9 ?_;refine g10 ?_;refine j5 func117 (sign_spec b r) j1 λ_=>?_;refine g9 ?_;refine gJ (λhc45=>?_) λhc45=>?_
  .refine g2 ?_;refine ss (j7 (rD)) ?_;refine g7 ?_;exact rs3 () j1 (he:=r9)
  refine g6 ?_;refine ss (bDg hT (k:=(gM (b::r))) rfl rfl rfl rfl rfl (bBd _)) ?_;refine ss (j7 (pJ _ _)) ?_;refine g7 ?_;exact rs3 () j1 (he:=r9)
 have d:=bTc hnt;dsimp only at d;refine g2 ?_;refine j5 func116 (number_some b r hl hnt) ⟨d7,j1⟩ λ_=>?_;refine g15 ?_;refine lK (λa=>?_) λa=>?_
 .refine g9 ?_;refine ss (j7 (pR _ _)) ?_;refine g9 ?_;exact rs3 () j1 (he:=r9)
 omega
theorem token_err{e:Int}(b:UInt8)(r:Bs)(hl:(b::r).length<=65536)(h:fC (b::r)= .error e):cY prog 82 [.string (bs (b::r))] [] [jY] (λ_:Unit=> .tuple #[.agg #[k9 (if e=32 then 2 else 0),k9 0,.string (bs []),k9 0],k9 0,k9 e]) (λ_=>[]) (λ_=>[]):=by have:=bTs b r hl;rw[h]at this;exact this
theorem token_ok{k v:Int}{wd:Bs}{m:Nat}(b:UInt8)(r:Bs)(hl:(b::r).length<=65536)(h:fC (b::r)= .ok (k,wd,v,m)):cY prog 82 [.string (bs (b::r))] [] [jY] (λ_:Unit=> .tuple #[.agg #[k9 k,k9 0,.string (bs wd),k9 v],k9 (m:Nat),k9 0]) (λ_=>[]) (λ_=>[]):=by have:=bTs b r hl;rw[h]at this;exact this
end
section
open Go.RowKit Go.Proofs.Tryz
section
variable {P : Program} {β : fR} {n : Nat} {Γ : Env} {H : List bL} {F : List Fact} {Q : Exit -> Act -> World -> Prop} {K : Act -> World -> Prop} {T : Tab} {α : Type} {E : Flat α}
theorem elem_of{t e:Nat}(hu:P.underlying t=some (.slice e)):P.elem t=e:=by simp[Program.elem,hu]
theorem bVm(hT:fX P T){t e sz:Nat}{ei:TI}(ht:T.get t=some ⟨.slice e,sz⟩)(he:T.get e=some ei){A:Option Addr}{l c k:Nat}(hk:k<=c)(kk:IntKind)(w:World):(Instr.sliceAt t (.slice A l c) none (some (.int kk (k:Nat))) none).run P w= .ok (.slice A k c) w:=by
 obtain⟨d,hu,a⟩:=hT.any ht;cases d<;>simp[TD.of]at a
 subst a;have hel:=elem_of hu;rw[run_sliceAt_slice w t _ _ _ _ am2,run_slice_h w t A l c am2 kk (k:Int) m0 m0,hel,hT.size he];simp only[H6,sliced,Int.toNat_natCast,Nat.zero_mul,Nat.sub_zero]
 congr 2
 split
 .rfl
 .cases A<;>simp[Addr.add]
theorem run_cutFrom(hT:fX P T){t e sz:Nat}{ei:TI}(ht:T.get t=some ⟨.slice e,sz⟩)(he:T.get e=some ei){A:Option Addr}{l c k:Nat}(hk:k<=l)(kk:IntKind)(w:World):(Instr.sliceAt t (.slice A l c) (some (.int kk (k:Nat))) none none).run P w= .ok (.slice (iJ A k ei.size c) (l-k) (c-k)) w:=by
 obtain⟨d,hu,a⟩:=hT.any ht;cases d<;>simp[TD.of]at a
 subst a;have hel:=elem_of hu;rw[run_sliceAt_slice w t _ _ _ _ am2,run_slice_l w t A l c am2 kk (k:Int) m0 m0,hel,hT.size he];simp only[H6,sliced,Int.toNat_natCast,iJ]
theorem jA{ops:Array Oper}{rest:List Oper}{o:Oper}(hT:fX P T){d t e sz k m cap:Nat}{ei:TI}{x i:Operand}{kk:IntKind}{z:Int}{A:Option Addr}{xs:List α}{H':List bL}(hH:cU H (E.row (.slice A m cap) e xs) H')(hw:want ops Γ o=some true)(ho:o.op= .slice t x none (some i) none)(hd:o.dst=some d)(hn:B2 d n=true)
  (hx:Γ.ev x=some (.slice A m cap)) (hi:Γ.ev i=some (.int kk z)) (ht:T.get t=some ⟨.slice e,sz⟩) (he:T.get e=some ei) (hz:z=(k:Nat)) (hk:k<=xs.length)
  (K:At β n ((d,.slice A (xs.take k).length cap)::Γ) (E.row (.slice A (xs.take k).length cap) e (xs.take k)::H') F (wpList P ops Q rest)):At β n Γ H F (wpList P ops Q (o::rest)):=
 lG hw λa w S f s u=>by
  subst hz;have h:w.ownsRow 0 e E.size (.slice A m cap) xs.length (E.all xs):=s.ok _ hH.mem
  have b:k<=cap/\(xs.take k).length=k/\w.ownsRow 0 e E.size (.slice A (xs.take k).length cap) (xs.take k).length (E.all (xs.take k)):=by
   have hl:(xs.take k).length=k:=by simp;omega
   have j:E.all (xs.take k)=(E.all xs).take (k*E.size):=by have:=E.all_append (xs.take k) (xs.drop k);rw[List.take_append_drop]at this;rw[this,List.take_left' (by rw[E.all_length,hl])]
   rcases h.2 with ⟨c,B⟩|⟨g,q,p,c,h1,h2,C,h4,y,v⟩
   .injection c with c e2 e3
    subst c e3;have:xs=[]:=F7 B;subst this;have l:k=0:=by simpa using hk
    subst l;exact⟨B0 _,hl,⟨by simp[Flat.all],.inl ⟨rfl,rfl⟩⟩⟩
   .injection c with c e2 e3
    subst c e3;refine⟨m0,hl,⟨by rw[E.all_length],.inr ⟨g,cap,p,rfl,h1,h2,m0,h4,y,?_⟩⟩⟩;rw[j,hl,<-v,List.take_take]
    congr 1
    exact(L3 (Nat.mul_le_mul_right _ hk)).symm
  have hr:(execOp a.eval o).run P w= .ok (.value (.slice A (xs.take k).length cap)) w:=by unfold execOp;simp only[ho,f.ev hx,J8,J9,f.ev hi];rw[G9,bVm hT ht he b.1,b.2.1];rfl
  unfold Oper.wp;rw[hr,Oper.upon_value,hd];have s2:=s.perm hH.perm;have r:=s2.swap_row (v':= .slice A (xs.take k).length cap) (w':=w) (pC.refl _ _) (.inl (by cases A<;>rfl)) b.2.2;exact K _ _ S (f.put w9 _) r u
theorem bEk{b:Nat}{cs:List Value}{t:TypeId}{H':List bL}(hH:cU H (.obj b (.cells cs.toArray t)) H')(h:At β n Γ H' (Fact.cells b 0 cs::F) K):At β n Γ H F K:=λa w S f s k=>by
 have s2:=s.perm hH.perm;have l:w.heap[b]?=some (.cells cs.toArray t):=s2.ok _ (E8 ..);have d:=List.pairwise_cons.1 s2.sep;have g:=s2.own _ (E8 ..);have e:All F (λx=>S x\/x=b) w:=All.mono (λ_ h=> .inl h) (λ_ _=>rfl) k;refine h a w (λx=>S x\/x=b) f ⟨s2.kept,λc i=>s2.ok c (E4 _ i),λc i x hx=>?_,d.2,λx hx=>?_⟩ (All.cons ?_ e)
 .obtain⟨h1,h2,o⟩:=s2.own c (E4 _ i) x hx;refine⟨h1,h2,λh=>?_⟩
  rcases h with h|h
  .exact o h
  .subst h;exact d.1 c i _ rfl hx
 .rcases hx with hx|hx
  .exact s2.W x hx
  .subst hx;obtain⟨h1,h2,_⟩:=g _ rfl;exact⟨h1,.inr h2⟩
 .refine⟨.inr rfl,λj u m=>?_⟩;unfold World.cell?;rw[l]
  simpa using m
theorem sti_fn{o:Oper}{x:Operand}{t tt:TypeId}{ps rs:Array TypeId}{vr:Bool}(hu:P.underlying t=some (.func ps rs vr)){fn:Fn}{a b:Array Value}(ho:o.op= .binOp .neq t x (.const .nilFunc) tt)(hx:Γ.ev x=some (.func fn a b)):Sti P β n Γ H F o (.bool true):=λc w S f s k=>by
 unfold execOp;have e:c.eval (.const .nilFunc)= .nilFunc:=rfl;have he: ∀d,(H7 (d+1) t (.func fn a b) .nilFunc).run P w= .ok false w:=λd=>by simp[H7,run_underlying hu]
 have g:(binOp .neq t (.func fn a b) .nilFunc).run P w= .ok (.bool true) w:=by simp only[binOp];rw[G9,show M3 t (.func fn a b) .nilFunc=H7 10000 t (.func fn a b) .nilFunc from rfl,he 9999];rfl
 have hg:(eqGuard .neq t x (.const .nilFunc) (.func fn a b) .nilFunc).run P w= .ok () w:=rfl;simp only[ho,f.ev hx,e];rw[G9,G9,hg,H6,g];rfl
theorem sti_nofn{o:Oper}{x:Operand}{t tt:TypeId}{ps rs:Array TypeId}{vr:Bool}(hu:P.underlying t=some (.func ps rs vr))(ho:o.op= .binOp .neq t x (.const .nilFunc) tt)(hx:Γ.ev x=some .nilFunc):Sti P β n Γ H F o (.bool false):=λc w S f s k=>by
 unfold execOp;have e:c.eval (.const .nilFunc)= .nilFunc:=rfl;have he: ∀d,(H7 (d+1) t .nilFunc .nilFunc).run P w= .ok true w:=λd=>by simp[H7,run_underlying hu]
 have a:(binOp .neq t .nilFunc .nilFunc).run P w= .ok (.bool false) w:=by simp only[binOp];rw[G9,show M3 t .nilFunc .nilFunc=H7 10000 t .nilFunc .nilFunc from rfl,he 9999];rfl
 have hg:(eqGuard .neq t x (.const .nilFunc) .nilFunc .nilFunc).run P w= .ok () w:=rfl;simp only[ho,f.ev hx,e];rw[G9,G9,hg,H6,a];rfl
theorem Has.cons{f g:Fact}{F:List Fact}(h:Has F g):Has (f::F) g:=λS w k=>h S w λx hx=>k x (E4 _ hx)
theorem Has.each_nil{α:Type}{g:α->Fact}{F:List Fact}:Has F (Fact.each [] g):=λ_ _ _ x hx=>by simp at hx
theorem Has.each_cons{α:Type}{g:α->Fact}{F:List Fact}{x:α}{l:List α}(hx:Has F (g x))(hl:Has F (Fact.each l g)):Has F (Fact.each (x::l) g):=λS w k y hy=>by
 rcases E2.1 hy with rfl|hy
 .exact hx S w k
 .exact hl S w k y hy
theorem Has.each_tail{α:Type}{g:α->Fact}{F:List Fact}{x:α}{l:List α}(h:Has F (Fact.each (x::l) g)):Has F (Fact.each l g):=λS w k y hy=>h S w k y (E4 _ hy)
theorem Has.each_snoc{α:Type}{g:α->Fact}{F:List Fact}{x:α}{l:List α}(hl:Has F (Fact.each l g))(hx:Has F (g x)):Has F (Fact.each (l++[x]) g):=λS w k y hy=>by
 rcases E3.1 hy with hy|hy
 .exact hl S w k y hy
 .rw[K7.1 hy];exact hx S w k
theorem iQ(hT:fX P T){o:Oper}{t e sz k l cap:Nat}{ei:TI}{x i:Operand}{kk:IntKind}{z:Int}{A:Option Addr}(ho:o.op= .slice t x none (some i) none)(hx:Γ.ev x=some (.slice A l cap))(hi:Γ.ev i=some (.int kk z))
  (ht:T.get t=some ⟨.slice e,sz⟩) (he:T.get e=some ei) (hz:z=(k:Nat)) (hk:k<=cap):Sti P β n Γ H F o (.slice A k cap):=λa w S f s b=>by subst hz;unfold execOp;simp only[ho,f.ev hx,J8,J9,f.ev hi];rw[G9,bVm hT ht he hk];rfl
theorem dU(hT:fX P T){o:Oper}{t e sz k l cap:Nat}{ei:TI}{x i:Operand}{kk:IntKind}{z:Int}{A:Option Addr}(ho:o.op= .slice t x (some i) none none)(hx:Γ.ev x=some (.slice A l cap))(hi:Γ.ev i=some (.int kk z))
  (ht:T.get t=some ⟨.slice e,sz⟩) (he:T.get e=some ei) (hz:z=(k:Nat)) (hk:k<=l):Sti P β n Γ H F o (.slice (iJ A k ei.size cap) (l-k) (cap-k)):=λa w S f s b=>by subst hz;unfold execOp;simp only[ho,f.ev hx,J8,J9,f.ev hi];rw[G9,run_cutFrom hT ht he hk];rfl
theorem bBy{A:Option Addr}{l c k:Nat}{xs:List α}(h:Has F (E.sl (.slice A l c) xs))(hk:k<=xs.length):Has F (E.sl (.slice A k c) (xs.take k)):=λS w q=>by
 obtain⟨d,b,e,h⟩:=h S w q;injection e with e1 e2 e3
 subst e1 e3;refine⟨A,c,by rw[K6,L3 hk],λj x a=>?_⟩;rw[List.getElem?_take]at a;split at a
 .exact h j x a
 .cases a
theorem jQ{A:Option Addr}{l c k:Nat}{xs:List α}(h:Has F (E.sl (.slice A l c) xs))(hc:l<=c)(hk:k<=xs.length):Has F (E.sl (.slice (iJ A k E.size c) (l-k) (c-k)) (xs.drop k)):=λS w q=>by
 obtain⟨r,p,e,h⟩:=h S w q;injection e with e1 e2 e3
 subst e1 e3;refine⟨iJ A k E.size c,c-k,by rw[List.length_drop,e2],λj x a=>?_⟩;rw[List.getElem?_drop]at a;obtain⟨b,o,n,q1,g,f,d⟩:=h _ x a;have m:=(F3.1 a).1;refine⟨b,o+k*E.size,n,?_,g,λi u hi=>?_,d⟩
 .unfold iJ;rw[if_neg m0,q1];show some ((⟨b,o,none⟩:Addr).add (k*E.size))=_;rw[Addr.add_mid]
 .have:=f i u hi
  have e:o+k*E.size+j*(Enc.flat E.size E.cells).size+i=o+(k+j)*(Enc.flat E.size E.cells).size+i:=by show o+k*E.size+j*E.size+i=o+(k+j)*E.size+i;rw[Nat.add_mul];omega
  rw[e];exact this
theorem fS{A:Option Addr}{t:TypeId}{m cap:Nat}{xs:List α}{H':List bL}(hH:cU H (E.row (.slice A m cap) t xs) H')(h:xs.length<=cap->At β n Γ H F K):At β n Γ H F K:=λa w S f s k=>by
 have b:w.ownsRow 0 t E.size (.slice A m cap) xs.length (E.all xs):=s.ok _ hH.mem;refine h ?_ a w S f s k
 rcases b.2 with ⟨_,j⟩|⟨g,d,e,c,h1,h2,i,_⟩
 .omega
 .injection c with c e2 e3
  subst e3;omega
end
end
section
open Go.RowKit Go.Proofs.Tryz
section
variable {text : Bs} {i : Nat} {b : UInt8} {r : Bs} {out : List TokV}
theorem lex_start(h:text.length<=65536):lexGo (text.drop 0).length 0 (text.drop 0) []=hO text:=by unfold hO;rw[if_neg m0];rfl
theorem lex_long(h:(65536:Int)<((text.length:Nat):Int)):hO text=([],(0,30)):=by unfold hO;rw[if_pos m0]
theorem lex_end(h:text.length<=i)(hi:lexGo (text.drop i).length i (text.drop i) out=hO text):hO text=(out,(0,0)):=by rw[K3 h]at hi;rw[<-hi];rfl
variable (hbr : text.drop i = b :: r) (hi : lexGo (text.drop i).length i (text.drop i) out = hO text)
include hbr hi
theorem bVu(hb:mW b=true):lexGo (text.drop (i+1)).length (i+1) (text.drop (i+1)) out=hO text:=by
 have e:text.drop (i+1)=r:=by rw[<-K8,hbr];rfl
 rw[hbr,oQ,if_pos hb]at hi;rw[e];exact hi
theorem lex_note(hb:mW b=false)(hn:(b==35)=true):lexGo (text.drop (i+runB (· !=10) (b::r))).length (i+runB (· !=10) (b::r)) (text.drop (i+runB (· !=10) (b::r))) out=hO text:=by
 have e:text.drop (i+runB (· !=10) (b::r))=(b::r).drop (runB (· !=10) (b::r)):=by rw[<-K8,hbr]
 rw[hbr,oQ,hb,if_neg n9,if_pos hn]at hi;rw[e];exact hi
theorem lex_tok{k v:Int}{wd:Bs}{m:Nat}(hb:mW b=false)(hn:(b==35)=false)(ht:fC (b::r)= .ok (k,wd,v,m)):lexGo (text.drop (i+m)).length (i+m) (text.drop (i+m)) (out++[⟨k,i,wd,v⟩])=hO text:=by
 have e:text.drop (i+m)=(b::r).drop m:=by rw[<-K8,hbr]
 rw[hbr,oQ,hb,if_neg n9,hn,if_neg n9,ht]at hi;rw[e];exact hi
theorem lex_err{e:Int}(hb:mW b=false)(hn:(b==35)=false)(ht:fC (b::r)= .error e):hO text=([],((i:Int),e)):=by rw[hbr,oQ,hb,if_neg n9,hn,if_neg n9,ht]at hi;exact hi.symm
end
theorem bQk{s:Bs}{e:Int}(h:fC s= .error e):e≠0:=by
 cases s with
 |nil=>cases h;decide
 |cons b r=>
  simp only[fC]at h;split at h
  .cases h
  .split at h
   .split at h
    .cases h;decide
    .cases h
   .split at h
    .rename_i a he;cases h;rw[bQd he];decide
    .cases h
    .split at h
     .cases h;decide
     .cases h
theorem dV{α:Type}{E:Flat α}{F:List Fact}:Has F (E.sl (.slice none 0 0) []):=λ_ _ _=>⟨none,0,rfl,λk x a=>by simp at a⟩
theorem bEm:(prog.info? 30).bind (·.zero)=some (.agg #[k9 0,k9 0]):=m7
theorem bAc(z1:Int):prog.built 30 [(1,k9 z1)]=some #[k9 0,k9 z1]:=m7
theorem yL(z0:Int)(z1:Int):prog.built 30 [(0,k9 z0),(1,k9 z1)]=some #[k9 z0,k9 z1]:=m7
theorem bAp:prog.built 30 []=some #[k9 0,k9 0]:=m7
theorem bSj(text:Bs)(hs:text.length<=140737488355328):cY prog 49 [.string (bs text)] [] [jY] (λ(x:Option Addr×Nat)=> .tuple #[.slice x.1 (hO text).1.length x.2,.agg #[k9 (hO text).2.1,k9 (hO text).2.2]]) (λ_=>[]) (λ(x:Option Addr×Nat)=>[nJ.sl (.slice x.1 (hO text).1.length x.2) (hO text).1,Fact.pure ((hO text).1.length<=x.2)]):=by
 have hT:=gH;refine j8 func49 ntmps49 ?_;intro β hM;refine g3 ?_;refine j4 bEm λA=>?_;refine g8 ?_;refine bJ (z':=((text.length:Nat):Int)) rfl ?_;refine g3 ?_;refine fA (λg=>?_) λg=>?_
 .refine g2 ?_;refine ss (j7 (bAc _)) ?_;refine g7 ?_;have he:=lex_long g;rw[he];exact rs2 (none,0) ⟨dV,j2 (B0 0),j1⟩
 refine g8 ?_;refine bQ (t:=110) nJ ?_;refine g9 ?_;refine cI (ι:=Nat×List TokV×Option Addr×Nat) [(0,_),(3,_)] ⟨rfl,rfl,j1⟩ (λ⟨i,out,C,e⟩=>[(4,.slice C out.length e),(5,.int .i64 (i:Nat))]) (λ⟨i,out,C,e⟩=>[nJ.row (.slice C out.length e) 110 out]) (λ⟨i,out,C,e⟩=>[Fact.pure (i<=text.length/\lexGo (text.drop i).length i (text.drop i) out=hO text/\out.length<=i)]) (λ⟨i,out,C,e⟩=>text.length-i) (0,[],none,0) ⟨rfl,rfl,j1⟩ (.c0 .nil) ⟨j2 (⟨m0,lex_start m0,n9⟩),j1⟩ ?_;rintro⟨i,out,C,e⟩;dsimp only;refine bG d7 λa=>?_;refine g6 ?_;refine bJ (z':=((text.length:Nat):Int)) rfl ?_;refine g3 ?_;refine fA (λj=>?_) λj=>?_
 .refine g7 ?_;refine ss (bUz hT (k:=i) rfl rfl rfl rfl rfl m0) ?_
  obtain⟨b,r,hbr⟩: ∃b r,text.drop i=b::r:=⟨_,_,K2 m0⟩
  have n:(b::r).length<=65536:=by rw[<-hbr];simp;omega
  have s:i+(b::r).length=text.length:=by rw[<-hbr];simp;omega
  refine iC (congrArg (λl:Bs=>Value.string (bs l)) hbr) ?_;refine g7 ?_;refine ss (fJ hT (k:=0) rfl rfl rfl rfl rfl rfl) ?_;refine g9 ?_;refine cF (λc=>?_) (λc=>?_)
  .have c:b=32:=dJ (k:=32) (eq_of_beq c);refine g11 ?_;refine inc (i+1) ?_;refine g8 ?_;exact dR (i+1,_,_,_) aa2 ⟨rfl,rfl,j1⟩ ⟨rfl,rfl,j1⟩ (.c0 (.c0 .nil)) ⟨j2 (⟨m0,bVu hbr a.2.1 am3,by dsimp only;omega⟩),j1⟩ (bA.drop 1)
  have c:b≠32:=dK (k:=32) (beq_eq_false_iff_ne.1 c);refine g6 ?_;refine fT (λhc24=>?_) λhc24=>?_
  .have hc24:b=9:=dJ (k:=9) (eq_of_beq hc24);refine g4 ?_;refine inc (i+1) ?_;refine g8 ?_;exact dR (i+1,_,_,_) aa2 ⟨rfl,rfl,j1⟩ ⟨rfl,rfl,j1⟩ (.c0 (.c0 .nil)) ⟨j2 (⟨m0,bVu hbr a.2.1 am3,by dsimp only;omega⟩),j1⟩ (bA.drop 1)
  have hc24:b≠9:=dK (k:=9) (beq_eq_false_iff_ne.1 hc24);refine g7 ?_;refine fT (λd=>?_) λd=>?_
  .have d:b=35:=dJ (k:=35) (eq_of_beq d);refine bP ?_;have o:=kU (· !=10) (b::r);refine g3 ?_;refine bC func80 (bHs (b::r) m0 _ (· !=10) (cB func81 rfl rfl) line_spec) rfl rfl .nil j1 λ_=>?_;refine one ?_;refine inc (i+(runB (· !=10) (b::r))) ?_;refine g8 ?_;exact dR (i+runB (· !=10) (b::r),_,_,_) (by dsimp only;have:=bIj (p:=(· !=10)) (b:=b) (r:=r) ag4;omega) ⟨rfl,rfl,j1⟩ ⟨rfl,rfl,j1⟩ (.c0 (.c0 .nil)) ⟨j2 (⟨by have:=kU (· !=10) (b::r);omega,lex_note hbr a.2.1 am3 ag4,by dsimp only;omega⟩),j1⟩ (bA.drop 1)
  have d:b≠35:=dK (k:=35) (beq_eq_false_iff_ne.1 d);refine g4 ?_
  rcases ht:fC (b::r)with e|⟨k,u,v,m⟩
  .skip
   refine g2 ?_;refine j5 func82 (token_err b r n ht) ⟨d8,j1⟩ λ_=>?_;refine g4 ?_;refine j4 bBt λz=>?_;refine g12 ?_;refine tL (λf=>?_) λf=>?_
   .refine g4 ?_;refine ss (j7 (yL _ _)) ?_;refine g11 ?_;have he:=lex_err hbr a.2.1 am3 ag4 ht;rw[he];exact rs2 (none,0) ⟨dV,j2 (B0 0),j1⟩
   exact absurd f (bQk ht)
  have q:=uZ ht;dsimp only at q;refine g2 ?_;refine j5 func82 (token_ok b r n ht) ⟨d8,j1⟩ λ_=>?_;refine g4 ?_;refine j4 bBt λy=>?_;refine g10 ?_;refine bF (t':=false) m9 ?_;refine g16 ?_;refine at_one_tok (m:=⟨_,_,_,_⟩) rfl rfl rfl rfl rfl λw=>?_;refine at_app_tok kT2 (bT .head rfl) rfl rfl rfl rfl rfl rfl rfl ab1 λB c6=>?_;refine g7 ?_;refine inc (i+m) ?_;refine g4 ?_;exact dR (i+m,_,_,_) aa2 ⟨rfl,rfl,j1⟩ ⟨rfl,rfl,j1⟩ (.c0 (.c2 .nil)) ⟨j2 (⟨m0,lex_tok hbr a.2.1 am3 ag4 ht,by simp;omega⟩),j1⟩ (bA.drop 1)
 refine g8 ?_;refine ss (j7 (bAp)) ?_;refine g6 ?_;have he:hO text=(out,(0,0)):=lex_end m0 a.2.1;rw[he];refine fS kT1 λh=>bS kT1 ?_;exact rs2 (C,e) ⟨d7,j2 h,j1⟩
end
section
open Go.RowKit Go.Sort Go.Proofs.Tryz
def fB (n:Int):Bs:=(if n<0 then [95]else [])++M8 n.natAbs
theorem bDs{k:Nat}(h:k<10):cW (L9 (48+k))=true/\(L9 (48+k)).toNat=48+k:=by
 have e:(L9 (48+k)).toNat=48+k:=by rw[UInt8.toNat_ofNat'];omega
 refine⟨?_,e⟩;unfold cW;rw[e];simp;omega
theorem sW(u:Nat): ∀b∈M8 u,cW b=true:=by
 induction u using L4 with
 |_ u ih=>
  intro b a;rw[M8]at a;split at a
  .rename_i h;rw[K7.1 a];exact(bDs h).1
  .rename_i h
   rcases E3.1 a with a|a
   .exact ih (u/10) m0 b a
   .rw[K7.1 a];exact(bDs (Nat.mod_lt _ m0)).1
theorem tX(u:Nat):M8 u≠[]:=by rw[M8];split<;>simp
theorem bJk(d:UInt8): ∀(a:Bs) (acc:Nat),decV (a++[d]) acc=10*decV a acc+(d.toNat-48)
 |[],acc=>rfl
 |b::a,acc=>by show decV (a++[d]) _=_;rw[bJk d a];rfl
theorem decV_digits(u:Nat):decV (M8 u) 0=u:=by
 induction u using L4 with
 |_ u ih=>
  rw[M8];split
  .rename_i h;show 10*0+((L9 (48+u)).toNat-48)=u;rw[(bDs h).2];omega
  .rename_i h;rw[bJk,ih (u/10) m0,(bDs (Nat.mod_lt _ m0)).2];omega
theorem bSv{p:UInt8->Bool}: ∀s:Bs,(∀b∈s,p b=true)->runB p s=s.length
 |[],_=>rfl
 |b::s,h=>by rw[runB,if_pos (h b n9),bSv s λx hx=>h x ah0];rfl
theorem oG{b:UInt8}(h:cW b=true):b≠10/\kT b=false/\b≠95/\b≠45/\b≠35/\mW b=false/\Lib.isSp b=false/\b.toNat<128:=by
 simp only[cW,J3,decide_eq_true_eq]at h;have key: ∀k:Fin 10,(L9 (48+k.val)≠10/\kT (L9 (48+k.val))=false/\L9 (48+k.val)≠95/\L9 (48+k.val)≠45/\L9 (48+k.val)≠35/\mW (L9 (48+k.val))=false/\Lib.isSp (L9 (48+k.val))=false/\(L9 (48+k.val)).toNat<128):=by decide+kernel
 have a:b=L9 (48+(b.toNat-48)):=by rw[show 48+(b.toNat-48)=b.toNat from by omega];simp
 have:=key ⟨b.toNat-48,m0⟩;rw[a];exact this
theorem mA{n:Int}(h0: -9223372036854775808<=n)(h1:n<=9223372036854775807):(fB n).length<=21:=by have h:=Lib.nDigits_le20 n.natAbs m0;have:=Lib.decDigits_length n.natAbs;unfold fB;split<;>simp<;>omega
theorem numTok_spell{n:Int}(h0: -9223372036854775808<=n)(h1:n<=9223372036854775807){b:UInt8}{r:Bs}(h:fB n=b::r):iU b r= .ok (some (2,[],n,(b::r).length)):=by
 unfold fB at h;have f:=sW n.natAbs;have hr:=bSv _ f;have a:=decV_digits n.natAbs;have d:=tX n.natAbs;split at h
 .rename_i hn;simp only[K4,List.cons.injEq]at h;obtain⟨rfl,rfl⟩:=h;have g: ¬(M8 n.natAbs).length=0:=λe=>d (F7 e)
  have c:pB true (M8 n.natAbs)=some n:=by
   unfold pB;rw[a,if_pos rfl,if_pos m0]
   congr 1
   omega
  rw[num_m0 rfl,hr,if_neg g,F6 (B0 _),c];rfl
 .rename_i hn;rw[K5]at h;rw[h]at f hr a;have i:=(oG (f b n9)).2.2.1
  have c:pB false (b::r)=some n:=by
   unfold pB;rw[a];simp only[J2,if_false];rw[if_pos m0]
   congr 1
   omega
  rw[num_p0 i,hr,if_neg n9,F6 (B0 _),c];rfl
theorem bFr{n:Int}{b:UInt8}{r:Bs}(h:fB n=b::r):b=95\/cW b=true:=by
 unfold fB at h;split at h
 .simp only[K4,List.cons.injEq]at h;exact .inl h.1.symm
 .rw[K5]at h;exact .inr (sW n.natAbs b (by rw[h];simp))
theorem bIo{n:Int}(h0: -9223372036854775808<=n)(h1:n<=9223372036854775807):fC (fB n)= .ok (2,[],n,(fB n).length):=by
 cases hs:fB n with
 |nil=>
  unfold fB at hs;exact absurd (K9.1 hs).2 (tX _)
 |cons b r=>
  have hn:=numTok_spell h0 h1 hs
  have a:b≠10/\kT b=false:=by
   rcases bFr hs with rfl|h
   .decide
   .exact⟨(oG h).1,(oG h).2.1⟩
  simp only[fC,beq_iff_eq,a.1,if_false,a.2,J2,hn]
theorem lexP_spell{n:Int}(h0: -9223372036854775808<=n)(h1:n<=9223372036854775807):hO (fB n)=([⟨2,0,[],n⟩],(0,0)):=by
 have hl:=mA h0 h1;have ht:=bIo h0 h1;unfold hO;rw[if_neg m0]
 cases hs:fB n with
 |nil=>
  unfold fB at hs;exact absurd (K9.1 hs).2 (tX _)
 |cons b r=>
  rw[hs]at ht
  have a:mW b=false/\(b==35)=false:=by
   rcases bFr hs with rfl|h
   .decide
   .exact⟨(oG h).2.2.2.2.2.1,by simp[(oG h).2.2.2.2.1]⟩
  rw[oQ,a.1,if_neg n9,a.2,if_neg n9,ht];simp only[List.drop_length];rfl
theorem bAz(n:Int): ∀b∈fB n,b.toNat<128/\Lib.isSp b=false/\b≠35:=λb a=>by
 unfold fB at a
 rcases E3.1 a with a|a
 .split at a
  .rw[K7.1 a];decide
  .simp at a
 .have:=oG (sW _ b a);exact⟨this.2.2.2.2.2.2.2,this.2.2.2.2.2.2.1,this.2.2.2.2.1⟩
theorem bBs{p:UInt8->Bool}: ∀l:Bs,(∀b∈l,p b=false)->l.dropWhile p=l
 |[],_=>rfl
 |b::l,h=>by rw[List.dropWhile_cons_of_neg (by simp[h b n9])]
theorem trim_spell(n:Int):M9 (fB n)=fB n:=by have h:=bAz n;unfold M9;rw[bBs _ λb a=>(h b a).2.1,bBs _ λb a=>(h b (List.mem_reverse.1 a)).2.1,List.reverse_reverse]
theorem hash_spell(n:Int):decide (0<=M5 (fB n) 35)=false:=by
 rw[(uB 35 _).1]
 cases h:(fB n).contains 35 with
 |false=>rfl
 |true=>exact absurd rfl (bAz n 35 ad7).2.2
theorem bJc(u:Nat):Lib.count (M8 u) [45]=0:=by rw[Lib.count_one,List.count_eq_zero];exact λh=>(oG (sW u _ h)).2.2.2.1 rfl
theorem replace_itoa(n:Int):N1 (N3 n) [45] [95] 1=fB n:=by
 unfold N1;rw[if_neg m9];unfold N3 fB;split
 .have a:Lib.count (45::M8 n.natAbs) [45]=1:=by rw[Lib.count_cons_eq,bJc]
  have hr:N5 (45::M8 n.natAbs) [45] 1=1:=by unfold N5;rw[a];rfl
  have hi:Lib.index (45::M8 n.natAbs) [45]=((0:Nat):Int):=by rw[Lib.index_one];rfl
  rw[hr,Lib.replaceK_hit _ _ _ _ 0 hi];rfl
 .have hr:N5 (M8 n.toNat) [45] 1=0:=by unfold N5;rw[bJc];rfl
  rw[hr];have:n.toNat=n.natAbs:=m0
  rw[this];rfl
theorem itoa_len{n:Int}(h0: -9223372036854775808<=n)(h1:n<=9223372036854775807):(N3 n).length<=21:=Lib.itoa_length_le n h0 h1
theorem below_grow{w:World}(k:Nat)(os:Array Obj):Below w.heap.size w (grow (w.drewN k) os):=by refine⟨rfl,rfl,rfl,by simp[grow,World.drewN],λi hi=>?_⟩;have:(w.drewN k).heap=w.heap:=rfl;simp only[grow,this,Array.getElem?_append,hi,if_true]
theorem bRg(n:Int)(h0: -9223372036854775808<=n)(h1:n<=9223372036854775807):cY prog 150 [k9 n,k9 10] [] [jY] (λ_:Unit=> .string (bs (N3 n))) (λ_=>[]) (λ_=>[]):=
 jZ λ_ w _ k=>by obtain⟨_,_,b,_⟩:=k _ (.head _);refine(Tryz.strconv_FormatInt_10 n h0 h1 w b).mono ?_;rintro e c ⟨rfl,q,a,rfl⟩;exact⟨rfl,below_grow q a⟩
theorem replace_spec(s:Bs)(hs:s.length<=1000):cY prog 149 [.string (bs s),.string (bs [45]),.string (bs [95]),k9 1] [] [jY] (λ_:Unit=> .string (bs (N1 s [45] [95] 1))) (λ_=>[]) (λ_=>[]):=
 jZ λ_ w _ k=>by
  obtain⟨_,_,_,⟨m,a⟩,_⟩:=k _ (.head _);have b:=Lib.countB_mul_le (bs [45]) m9 (bs s).size (bs s) (B0 _)
  refine(Tryz.strings_Replace (bs s) (bs [45]) (bs [95]) 1 m w am1 a m9 ?_).mono λe g ⟨he,c⟩=>⟨he,c⟩
  have f:(bs [45]).size=1:=rfl;have d:(bs [95]).size=1:=rfl;rw[f]at b;rw[d,mE]at*;omega
theorem bRz(s:Bs)(hs:s.length<=140737488355328)(ha: ∀b∈s,b.toNat<128):cY prog 151 [.string (bs s)] [] [jY] (λ_:Unit=> .string (bs (M9 s))) (λ_=>[]) (λ_=>[]):=
 jZ λ_ w _ k=>by obtain⟨_,h0,_⟩:=k _ (.head _);refine(Tryz.strings_TrimSpace (bs s) w am1 (λj b a=>ha b (j3 a)) h0).mono ?_;rintro e c ⟨rfl,rfl⟩;exact⟨rfl,Joins.below_bytesWorld _ _ _ _ (B0 _)⟩
theorem bTy(s:Bs)(c:UInt8):cY prog 152 [.string (bs s),.string (bs [c])] [] [] (λ_:Unit=> .bool (decide (0<=M5 s c))) (λ_=>[]) (λ_=>[]):=
 bCu λ_ w _=>Tryz.strings_Contains_one (bs s) c w
end
section
open Go.RowKit Go.Proofs.Tryz
theorem bQx(n:Int)(h0: -9223372036854775808<=n)(h1:n<=9223372036854775807):cY prog 49 [.string (bs (fB n))] [] [jY] (λx:Option Addr×Nat=> .tuple #[.slice x.1 1 x.2,.agg #[k9 0,k9 0]]) (λ_=>[]) (λx=>[nJ.sl (.slice x.1 1 x.2) [⟨2,0,[],n⟩],Fact.pure (1<=x.2)]):=by have:=bSj (fB n) (by have:=mA h0 h1;omega);rw[lexP_spell h0 h1]at this;exact this
theorem bHq(n:Int)(h0: -9223372036854775808<=n)(h1:n<=9223372036854775807):cY prog 149 [.string (bs (N3 n)),.string (bs [45]),.string (bs [95]),k9 1] [] [jY] (λ_:Unit=> .string (bs (fB n))) (λ_=>[]) (λ_=>[]):=by have:=replace_spec (N3 n) (by have:=itoa_len h0 h1;omega);rw[replace_itoa]at this;exact this
def jG (s:Bs):Int:=
 if s=[43]then 1 else if s=[45]then 2 else if s=[42]then 3 else if s=[37]then 4 else if s=[124]then 5 else if s=[109,105,110]then 6 else if s=[109,97,120]then 7 else if s=[61]then 8 else if s=[126]then 9
 else if s=[60]then 10 else if s=[60,61]then 11 else if s=[62,61]then 12 else if s=[62]then 13 else if s=[97,110,100]then 14 else if s=[111,114]then 15 else if s=[112,111,119]then 17 else if s=[114,104,111]then 37
 else if s=[116,97,107,101]then 38 else if s=[100,114,111,112]then 39 else if s=[99,97,116]then 40 else 0
def nU (s:Bs):Int:=
 if s=[43]\/s=[45]\/s=[42]\/s=[37]\/s=[124]\/s=[109,105,110]\/s=[109,97,120]then jG s else if s=[126]then 16 else if s=[105,111,116,97]then 32 else if s=[115,104,97,112,101]then 33 else if s=[114,97,118,101,108]then 34
 else if s=[114,101,118]then 35 else if s=[116,117,114,110]then 36 else 0
def nH (s:Bs):Bool:=nU s !=0 || jG s !=0
def gA (s:Bs)(t:Bool):Int:=if t then jG s else nU s
theorem spell_spec(n:Int)(h0: -9223372036854775808<=n)(h1:n<=9223372036854775807):cY prog 128 [.agg #[k9 2,k9 0,.string (bs []),k9 n]] [] [jY] (λ(_:Unit)=> .tuple #[.string (bs (fB n)),.bool true]) (λ_=>[]) (λ_=>[]):=by have hT:=gH;refine j8 func128 ntmps128 ?_;intro β hM;refine g2 ?_;refine j6 λd=>?_;refine g22 ?_;refine bF (t':=true) m9 ?_;refine g7 ?_;refine j5 func150 (bRg n h0 h1) ⟨d7,j1⟩ λ_=>?_;refine j5 func149 (bHq n h0 h1) ⟨d7,j1⟩ λ_=>?_;refine g7 ?_;refine j5 func49 (bQx n h0 h1) ⟨d7,j1⟩ λ⟨A2,c3⟩=>?_;refine g3 ?_;refine j4 bEm λc=>?_;refine g8 ?_;refine ss (j7 (bAp)) ?_;refine ss (gG ⟨0,0⟩ ⟨0,0⟩ rfl rfl rfl) ?_;refine bF (t':=false) (rfl) ?_;refine g4 ?_;refine bF (t':=false) m9 ?_;refine g4 ?_;refine bJ (z':=(((fB n).length:Nat):Int)) rfl ?_;refine one ?_;refine bF (t':=false) (by have:=mA h0 h1;simp;omega) ?_;refine g14 ?_;refine cK _ _ [k8,u0,u5,u9,A00,u6,A02,A03,A75,A04,A08,A07,A09,A24,A61,A70,A78,A76,A80,(true,19)] cN o8 (.c0 (.c0 .nil)) bA.self ?_;refine one ?_;refine stM rfl (cC hT (k:=0) (bE d7) rfl rfl rfl rfl rfl rfl rfl n9) ?_;refine stM rfl (fM hT (dC.knows (bE d7) (k:=0) (x:=(⟨2,0,[],n⟩:TokV)) rfl 0) rfl rfl rfl rfl rfl) ?_;refine one ?_;refine stM rfl (sti_neq_tok (⟨2,0,[],n⟩:TokV) ⟨2,0,([]:Bs),n⟩ rfl rfl rfl) ?_;refine bF (t':=false) (by simp[tokEq]) ?_;refine g4 ?_;refine j5 func151 (bRz (fB n) (by have:=mA h0 h1;omega) (λb a=>(bAz n b a).1)) ⟨d9,j1⟩ λ_=>?_;refine g2 ?_;refine bF (t':=false) (by rw[trim_spell];simp) ?_;refine g9 ?_;refine bC func152 (bTy _ 35) rfl rfl .nil j1 λ_=>?_;refine one ?_;refine bF (t':=false) (hash_spell n) ?_;refine g14 ?_;exact rs2 () trivial
theorem bHk(n:Int)(h0: -9223372036854775808<=n)(h1:n<=9223372036854775807):cY prog 90 [k9 n] [] [jY] (λ(_:Unit)=> .string (bs (fB n))) (λ_=>[]) (λ_=>[]):=by have hT:=gH;refine j8 func90 ntmps90 ?_;intro β hM;refine g8 ?_;refine ss (j7 (pR _ _)) ?_;refine j5 func128 (spell_spec n h0 h1) ⟨d7,j1⟩ λ_=>?_;refine g14 ?_;exact rs1 () trivial
theorem lV(s:Bs):cY prog 127 [.string (bs s)] [] [] (λ(_:Unit)=> l5 (jG s)) (λ_=>[]) (λ_=>[]):=by
 have hT:=gH;refine j8 func127 ntmps127 ?_;intro β hM;refine g18 ?_;refine fT (λm=>?_) λm=>?_
 .have m:s=([43]:Bs):=eq_of_beq m;refine g8 ?_;exact rs1 () j1 (he:=by simp[jG, *])
 have m:s≠([43]:Bs):=λh=>absurd (beq_iff_eq.2 h) (by rw[show(s==([43]:Bs))=false from m];simp);refine g6 ?_;refine fT (λl=>?_) λl=>?_
 .have l:s=([45]:Bs):=eq_of_beq l;refine g8 ?_;exact rs1 () j1 (he:=by simp[jG, *])
 have l:s≠([45]:Bs):=λh=>absurd (beq_iff_eq.2 h) (by rw[show(s==([45]:Bs))=false from l];simp);refine g6 ?_;refine fT (λk=>?_) λk=>?_
 .have k:s=([42]:Bs):=eq_of_beq k;refine g8 ?_;exact rs1 () j1 (he:=by simp[jG, *])
 have k:s≠([42]:Bs):=λh=>absurd (beq_iff_eq.2 h) (by rw[show(s==([42]:Bs))=false from k];simp);refine g6 ?_;refine fT (λhc10=>?_) λhc10=>?_
 .have hc10:s=([37]:Bs):=eq_of_beq hc10;refine g8 ?_;exact rs1 () j1 (he:=by simp[jG, *])
 have hc10:s≠([37]:Bs):=λh=>absurd (beq_iff_eq.2 h) (by rw[show(s==([37]:Bs))=false from hc10];simp);refine g6 ?_;refine fT (λj=>?_) λj=>?_
 .have j:s=([124]:Bs):=eq_of_beq j;refine g8 ?_;exact rs1 () j1 (he:=by simp[jG, *])
 have j:s≠([124]:Bs):=λh=>absurd (beq_iff_eq.2 h) (by rw[show(s==([124]:Bs))=false from j];simp);refine g6 ?_;refine fT (λhc14=>?_) λhc14=>?_
 .have hc14:s=([109,105,110]:Bs):=eq_of_beq hc14;refine g8 ?_;exact rs1 () j1 (he:=by simp[jG, *])
 have hc14:s≠([109,105,110]:Bs):=λh=>absurd (beq_iff_eq.2 h) (by rw[show(s==([109,105,110]:Bs))=false from hc14];simp);refine g6 ?_;refine fT (λi=>?_) λi=>?_
 .have i:s=([109,97,120]:Bs):=eq_of_beq i;refine g8 ?_;exact rs1 () j1 (he:=by simp[jG, *])
 have i:s≠([109,97,120]:Bs):=λh=>absurd (beq_iff_eq.2 h) (by rw[show(s==([109,97,120]:Bs))=false from i];simp);refine g6 ?_;refine fT (λg=>?_) λg=>?_
 .have g:s=([61]:Bs):=eq_of_beq g;refine g8 ?_;exact rs1 () j1 (he:=by simp[jG, *])
 have g:s≠([61]:Bs):=λh=>absurd (beq_iff_eq.2 h) (by rw[show(s==([61]:Bs))=false from g];simp);refine g6 ?_;refine fT (λf=>?_) λf=>?_
 .have f:s=([126]:Bs):=eq_of_beq f;refine g8 ?_;exact rs1 () j1 (he:=by simp[jG, *])
 have f:s≠([126]:Bs):=λh=>absurd (beq_iff_eq.2 h) (by rw[show(s==([126]:Bs))=false from f];simp);refine g6 ?_;refine fT (λe=>?_) λe=>?_
 .have e:s=([60]:Bs):=eq_of_beq e;refine g8 ?_;exact rs1 () j1 (he:=by simp[jG, *])
 have e:s≠([60]:Bs):=λh=>absurd (beq_iff_eq.2 h) (by rw[show(s==([60]:Bs))=false from e];simp);refine g6 ?_;refine fT (λhc24=>?_) λhc24=>?_
 .have hc24:s=([60,61]:Bs):=eq_of_beq hc24;refine g8 ?_;exact rs1 () j1 (he:=by simp[jG, *])
 have hc24:s≠([60,61]:Bs):=λh=>absurd (beq_iff_eq.2 h) al5;refine g6 ?_;refine fT (λhc26=>?_) λhc26=>?_
 .have hc26:s=([62,61]:Bs):=eq_of_beq hc26;refine g8 ?_;exact rs1 () j1 (he:=by simp[jG, *])
 have hc26:s≠([62,61]:Bs):=λh=>absurd (beq_iff_eq.2 h) al6;refine g6 ?_;refine fT (λd=>?_) λd=>?_
 .have d:s=([62]:Bs):=eq_of_beq d;refine g8 ?_;exact rs1 () j1 (he:=by simp[jG, *])
 have d:s≠([62]:Bs):=λh=>absurd (beq_iff_eq.2 h) (by rw[show(s==([62]:Bs))=false from d];simp);refine g6 ?_;refine fT (λhc30=>?_) λhc30=>?_
 .have hc30:s=([97,110,100]:Bs):=eq_of_beq hc30;refine g8 ?_;exact rs1 () j1 (he:=by simp[jG, *])
 have hc30:s≠([97,110,100]:Bs):=λh=>absurd (beq_iff_eq.2 h) ak7;refine g6 ?_;refine fT (λhc32=>?_) λhc32=>?_
 .have hc32:s=([111,114]:Bs):=eq_of_beq hc32;refine g8 ?_;exact rs1 () j1 (he:=by simp[jG, *])
 have hc32:s≠([111,114]:Bs):=λh=>absurd (beq_iff_eq.2 h) al1;refine g6 ?_;refine fT (λhc34=>?_) λhc34=>?_
 .have hc34:s=([112,111,119]:Bs):=eq_of_beq hc34;refine g8 ?_;exact rs1 () j1 (he:=by simp[jG, *])
 have hc34:s≠([112,111,119]:Bs):=λh=>absurd (beq_iff_eq.2 h) ak5;refine g6 ?_;refine fT (λc=>?_) λc=>?_
 .have c:s=([114,104,111]:Bs):=eq_of_beq c;refine g8 ?_;exact rs1 () j1 (he:=by simp[jG, *])
 have c:s≠([114,104,111]:Bs):=λh=>absurd (beq_iff_eq.2 h) (by rw[show(s==([114,104,111]:Bs))=false from c];simp);refine g6 ?_;refine fT (λb=>?_) λb=>?_
 .have b:s=([116,97,107,101]:Bs):=eq_of_beq b;refine g8 ?_;exact rs1 () j1 (he:=by simp[jG, *])
 have b:s≠([116,97,107,101]:Bs):=λh=>absurd (beq_iff_eq.2 h) (by rw[show(s==([116,97,107,101]:Bs))=false from b];simp);refine g6 ?_;refine fT (λa=>?_) λa=>?_
 .have a:s=([100,114,111,112]:Bs):=eq_of_beq a;refine g8 ?_;exact rs1 () j1 (he:=by simp[jG, *])
 have a:s≠([100,114,111,112]:Bs):=λh=>absurd (beq_iff_eq.2 h) (by rw[show(s==([100,114,111,112]:Bs))=false from a];simp);refine g6 ?_;refine fT (λhc42=>?_) λhc42=>?_
 .have hc42:s=([99,97,116]:Bs):=eq_of_beq hc42;refine g8 ?_;exact rs1 () j1 (he:=by simp[jG, *])
 have hc42:s≠([99,97,116]:Bs):=λh=>absurd (beq_iff_eq.2 h) (by rw[show(s==([99,97,116]:Bs))=false from hc42];simp);refine g9 ?_;exact rs1 () j1 (he:=by simp[jG, *])
theorem one_spec(s:Bs):cY prog 126 [.string (bs s)] [] [] (λ(_:Unit)=> l5 (nU s)) (λ_=>[]) (λ_=>[]):=by
 have hT:=gH;refine j8 func126 ntmps126 ?_;intro β hM;refine g19 ?_;refine bW rfl (λq=>?_) (λq=>?_)
 .have r:=q;have q:s=([43]:Bs):=eq_of_beq q;refine g2 ?_;refine cA rfl r ?_;refine g3 ?_;refine j5 func127 (lV s) j1 λ_=>?_;refine g6 ?_;exact rs1 () j1 (he:=aa7)
 have r:=q;have q:s≠([43]:Bs):=λh=>absurd (beq_iff_eq.2 h) (by rw[show(s==([43]:Bs))=false from q];simp);refine g6 ?_;refine bW rfl (λf=>?_) (λf=>?_)
 .have p:=f;have f:s=([45]:Bs):=eq_of_beq f;refine g2 ?_;refine cA rfl p ?_;refine g3 ?_;refine j5 func127 (lV s) j1 λ_=>?_;refine g6 ?_;exact rs1 () j1 (he:=aa7)
 have p:=f;have f:s≠([45]:Bs):=λh=>absurd (beq_iff_eq.2 h) (by rw[show(s==([45]:Bs))=false from f];simp);refine g6 ?_;refine bW rfl (λe=>?_) (λe=>?_)
 .have o:=e;have e:s=([42]:Bs):=eq_of_beq e;refine g2 ?_;refine cA rfl o ?_;refine g3 ?_;refine j5 func127 (lV s) j1 λ_=>?_;refine g6 ?_;exact rs1 () j1 (he:=aa7)
 have o:=e;have e:s≠([42]:Bs):=λh=>absurd (beq_iff_eq.2 h) (by rw[show(s==([42]:Bs))=false from e];simp);refine g6 ?_;refine bW rfl (λd=>?_) (λd=>?_)
 .have n:=d;have d:s=([37]:Bs):=eq_of_beq d;refine g2 ?_;refine cA rfl n ?_;refine g3 ?_;refine j5 func127 (lV s) j1 λ_=>?_;refine g6 ?_;exact rs1 () j1 (he:=aa7)
 have n:=d;have d:s≠([37]:Bs):=λh=>absurd (beq_iff_eq.2 h) (by rw[show(s==([37]:Bs))=false from d];simp);refine g6 ?_;refine bW rfl (λc=>?_) (λc=>?_)
 .have m:=c;have c:s=([124]:Bs):=eq_of_beq c;refine g2 ?_;refine cA rfl m ?_;refine g3 ?_;refine j5 func127 (lV s) j1 λ_=>?_;refine g6 ?_;exact rs1 () j1 (he:=aa7)
 have m:=c;have c:s≠([124]:Bs):=λh=>absurd (beq_iff_eq.2 h) (by rw[show(s==([124]:Bs))=false from c];simp);refine g6 ?_;refine bW rfl (λb=>?_) (λb=>?_)
 .have l:=b;have b:s=([109,105,110]:Bs):=eq_of_beq b;refine g2 ?_;refine cA rfl l ?_;refine g3 ?_;refine j5 func127 (lV s) j1 λ_=>?_;refine g6 ?_;exact rs1 () j1 (he:=aa7)
 have l:=b;have b:s≠([109,105,110]:Bs):=λh=>absurd (beq_iff_eq.2 h) (by rw[show(s==([109,105,110]:Bs))=false from b];simp);refine g5 ?_;refine bW rfl (λa=>?_) (λa=>?_)
 .have t:=a;have a:s=([109,97,120]:Bs):=eq_of_beq a;refine g3 ?_;refine j5 func127 (lV s) j1 λ_=>?_;refine g6 ?_;exact rs1 () j1 (he:=aa7)
 have t:=a;have a:s≠([109,97,120]:Bs):=λh=>absurd (beq_iff_eq.2 h) (by rw[show(s==([109,97,120]:Bs))=false from a];simp);refine g6 ?_;refine bW rfl (λhc14=>?_) (λhc14=>?_)
 .have z:=hc14;have hc14:s=([126]:Bs):=eq_of_beq hc14;refine g8 ?_;exact rs1 () j1 (he:=aa7)
 have z:=hc14;have hc14:s≠([126]:Bs):=λh=>absurd (beq_iff_eq.2 h) (by rw[show(s==([126]:Bs))=false from hc14];simp);refine g6 ?_;refine bW rfl (λk=>?_) (λk=>?_)
 .have y:=k;have k:s=([105,111,116,97]:Bs):=eq_of_beq k;refine g8 ?_;exact rs1 () j1 (he:=aa7)
 have y:=k;have k:s≠([105,111,116,97]:Bs):=λh=>absurd (beq_iff_eq.2 h) (by rw[show(s==([105,111,116,97]:Bs))=false from k];simp);refine g6 ?_;refine bW rfl (λj=>?_) (λj=>?_)
 .have x:=j;have j:s=([115,104,97,112,101]:Bs):=eq_of_beq j;refine g8 ?_;exact rs1 () j1 (he:=aa7)
 have x:=j;have j:s≠([115,104,97,112,101]:Bs):=λh=>absurd (beq_iff_eq.2 h) (by rw[show(s==([115,104,97,112,101]:Bs))=false from j];simp);refine g6 ?_;refine bW rfl (λi=>?_) (λi=>?_)
 .have w:=i;have i:s=([114,97,118,101,108]:Bs):=eq_of_beq i;refine g8 ?_;exact rs1 () j1 (he:=aa7)
 have w:=i;have i:s≠([114,97,118,101,108]:Bs):=λh=>absurd (beq_iff_eq.2 h) (by rw[show(s==([114,97,118,101,108]:Bs))=false from i];simp);refine g6 ?_;refine bW rfl (λg=>?_) (λg=>?_)
 .have v:=g;have g:s=([114,101,118]:Bs):=eq_of_beq g;refine g8 ?_;exact rs1 () j1 (he:=aa7)
 have v:=g;have g:s≠([114,101,118]:Bs):=λh=>absurd (beq_iff_eq.2 h) (by rw[show(s==([114,101,118]:Bs))=false from g];simp);refine g6 ?_;refine bW rfl (λhc24=>?_) (λhc24=>?_)
 .have u:=hc24;have hc24:s=([116,117,114,110]:Bs):=eq_of_beq hc24;refine g8 ?_;exact rs1 () j1 (he:=aa7)
 have u:=hc24;have hc24:s≠([116,117,114,110]:Bs):=λh=>absurd (beq_iff_eq.2 h) (by rw[show(s==([116,117,114,110]:Bs))=false from hc24];simp);refine g9 ?_;exact rs1 () j1 (he:=aa7)
theorem qT(s:Bs):cY prog 119 [.string (bs s)] [] [] (λ(_:Unit)=> .bool (nH s)) (λ_=>[]) (λ_=>[]):=by
 have hT:=gH;refine j8 func119 ntmps119 ?_;intro β hM;refine g8 ?_;refine j5 func126 (one_spec s) j1 λ_=>?_;refine g2 ?_;refine xJ (λhg6=>?_) λhg6=>?_
 .refine g8 ?_;exact rs1 () j1 (he:=by simp[nH, *])
 refine one ?_;refine j5 func127 (lV s) j1 λ_=>?_;refine g6 ?_;exact rs1 () j1 (he:=by simp[nH, *])
theorem bKx(s:Bs)(t:Bool):cY prog 89 [.string (bs s),.bool t] [] [] (λ(_:Unit)=> .tuple #[l5 (gA s t),.bool (gA s t !=0)]) (λ_=>[]) (λ_=>[]):=by
 have hT:=gH;refine j8 func89 ntmps89 ?_;intro β hM;refine g9 ?_;refine j5 func126 (one_spec s) j1 λ_=>?_;refine g9 ?_;refine fT (λa=>?_) λa=>?_
 .refine g2 ?_;refine j5 func127 (lV s) j1 λ_=>?_;refine g13 ?_;exact rs2 () j1 (he:=by simp[gA, *])
 refine g12 ?_;exact rs2 () j1 (he:=by simp[gA, *])
end
section
open Go.RowKit Go.Proofs.Tryz
def wK (s:Bs):Bool:=rS ⟨(hO s).2.1,(hO s).2.2⟩ ⟨0,0⟩&&match (hO s).1 with
 |[t]=>t.kind==1&&t.word==s
 |_=>false
def dQ (s:Bs):Bool:= !(nH s)&&(!(s==[105,110])&&(!(s==[111,117,116])&&wK s))
section
variable {s : Bs}
theorem bFf(h:nH s=true):M2 false= .bool (dQ s):=by simp[dQ,h]
theorem bFd(h:s=[105,110]):M2 false= .bool (dQ s):=by simp[dQ,h]
theorem bFm(h:s=[111,117,116]):M2 false= .bool (dQ s):=by simp[dQ,h]
theorem bFo(h:rS ⟨(hO s).2.1,(hO s).2.2⟩ ⟨0,0⟩=false):M2 false= .bool (dQ s):=by simp[dQ,wK,h]
theorem bFw(h:(((hO s).1.length:Nat):Int)≠1):M2 false= .bool (dQ s):=by
 unfold dQ wK;split
 .rename_i t ht;rw[ht]at h;simp at h
 .simp
theorem list_one{α:Type}{l:List α}{x:α}(h:((l.length:Nat):Int)=1)(hx:l[0]?=some x):l=[x]:=by
 match l,h with
 |[a],_=>simp at hx;rw[hx]
 |[],h=>simp at h
 |_::_::_,h=>simp at h;omega
variable (h0 : nH s = false) (h1 : s ≠ [105, 110]) (h2 : s ≠ [111, 117, 116]) (hf : rS ⟨(hO s).2.1, (hO s).2.2⟩ ⟨0, 0⟩ = true) (hl : (((hO s).1.length : Nat) : Int) = 1) {x : TokV} (hx : (hO s).1[0]? = some x)
include h0 h1 h2 hf hl hx
theorem name_at:dQ s=(x.kind==1&&x.word==s):=by unfold dQ wK;rw[list_one hl hx,h0,hf,beq_eq_false_iff_ne.2 h1,beq_eq_false_iff_ne.2 h2];simp
theorem bEw(hk:x.kind≠1):M2 false= .bool (dQ s):=by rw[name_at h0 h1 h2 hf hl hx];simp[hk]
theorem bEo(hk:x.kind=1):M2 (x.word==s)= .bool (dQ s):=by rw[name_at h0 h1 h2 hf hl hx];simp[hk]
end
theorem oS(s:Bs)(hs:s.length<=140737488355328):cY prog 86 [.string (bs s)] [] [jY] (λ(_:Unit)=> .bool (dQ s)) (λ_=>[]) (λ_=>[]):=by
 have hT:=gH;refine j8 func86 ntmps86 ?_;intro β hM;refine g9 ?_;refine j5 func119 (qT s) j1 λ_=>?_;refine one ?_;refine cF (λhg7=>?_) (λhg7=>?_)
 .refine g17 ?_;exact rs1 () j1 (he:=r7)
 refine g4 ?_;refine cF (λhg11=>?_) (λhg11=>?_)
 .have hg11:s=([105,110]:Bs):=eq_of_beq hg11;refine g13 ?_;exact rs1 () j1 (he:=r7)
 have hg11:s≠([105,110]:Bs):=λh=>absurd (beq_iff_eq.2 h) (by rw[show(s==([105,110]:Bs))=false from hg11];simp);refine g5 ?_;refine fT (λhc14=>?_) λhc14=>?_
 .have hc14:s=([111,117,116]:Bs):=eq_of_beq hc14;refine g7 ?_;exact rs1 () j1 (he:=r7)
 have hc14:s≠([111,117,116]:Bs):=λh=>absurd (beq_iff_eq.2 h) (by rw[show(s==([111,117,116]:Bs))=false from hc14];simp);refine g5 ?_;refine j5 func49 (bSj s m0) ⟨d7,j1⟩ λ⟨A1,c2⟩=>?_;refine g3 ?_;refine j4 bEm λb=>?_;refine g7 ?_;refine ss (j7 (bAp)) ?_;refine ss (vP ⟨(hO s).2.1,(hO s).2.2⟩ ⟨0,0⟩ rfl rfl rfl) ?_;refine one ?_;refine cF (λhg23=>?_) (λhg23=>?_)
 .refine g5 ?_;refine rE (λhg28=>?_) λhg28=>?_
  .refine one ?_;obtain⟨x4,a⟩:=gx ((hO s).1) 0;refine ss (ixs 0) ?_;refine one ?_;refine ss (gI a 0) ?_;refine g3 ?_;refine rE (λhg35=>?_) λhg35=>?_
   .refine one ?_;refine ss (ixs 0) ?_;refine one ?_;refine ss (gI a 2) ?_;refine g7 ?_;exact rs1 () j1 (he:=r7)
   refine g11 ?_;exact rs1 () j1 (he:=r7)
  refine g18 ?_;exact rs1 () j1 (he:=r7)
 refine g23 ?_;exact rs1 () j1 (he:=r7)
end
section
open Go.RowKit Go.Proofs.Tryz
def atP (toks:List TokV)(k:Nat)(e:Int):Int:=match toks[k]? with
 |some t=>t.at_
 |none=>e
def bK (toks:List TokV)(k:Nat):TokV:=match toks[k]? with
 |some t=>t
 |none=>⟨4,0,[],0⟩
def tokV (t:TokV):Value:= .agg #[.int .i64 t.kind,.int .i64 t.at_,.string (bs t.word),.int .i64 t.n]
section
variable {toks : List TokV} {k : Nat} {e : Int}
theorem bGn{t:TokV}(h:toks[k]?=some t):atP toks k e=t.at_:=by unfold atP;rw[h]
theorem bQg(h:toks.length<=k):atP toks k e=e:=by unfold atP;rw[L0 h]
theorem uQ{t:TokV}(h:toks[k]?=some t):bK toks k=t:=by unfold bK;rw[h]
theorem bFt(h:toks.length<=k):bK toks k=⟨4,0,[],0⟩:=by unfold bK;rw[L0 h]
end
structure Phr where
 H:Int
 at_:Int
 fn:Int
 Y:Flt
 next:Nat
def bM (toks:List TokV)(k:Nat)(e:Int)(left:Bool):Phr:=
 if (bK toks (k+1)).kind=3/\((bK toks (k+1)).word=[47]\/(bK toks (k+1)).word=[92]\/(bK toks (k+1)).word=[46])then
  if 17<jG (bK toks k).word\/((bK toks (k+1)).word==[46])≠left then ⟨if left then 4 else 3,(bK toks k).at_,jG (bK toks k).word,(atP toks k e,43),k+1+1⟩
  else ⟨if (bK toks (k+1)).word=[47]then 5 else if (bK toks (k+1)).word=[92]then 6 else 7,(bK toks k).at_,jG (bK toks k).word,if jG (bK toks k).word=0 then (atP toks k e,43)else (0,0),k+1+1⟩
 else ⟨if left then 4 else 3,(bK toks k).at_,gA (bK toks k).word left,if gA (bK toks k).word left=0 then (atP toks k e,43)else (0,0),k+1⟩
def phrV (p:Phr):Value:= .tuple #[.agg #[.int .i64 p.H,.int .i64 p.at_,.int .u8 p.fn,.string (bs []),.slice none 0 0],.agg #[.int .i64 p.Y.1,.int .i64 p.Y.2]]
theorem oY:(prog.info? 62).bind (·.zero)=some (.agg #[k9 0,k9 0,l5 0,.string (bs []),.slice none 0 0]):=m7
theorem tC(z0:Int)(z1:Int):prog.built 62 [(0,k9 z0),(1,k9 z1)]=some #[k9 z0,k9 z1,l5 0,.string (bs []),.slice none 0 0]:=m7
theorem at_spec(bl:Nat)(A:Option Addr)(c:Nat)(toks:List TokV)(k:Nat)(e:Int):cY prog 118 [.pointer (some ⟨bl,0,none⟩)] [.obj bl (.cells [.slice A toks.length c,k9 (k:Nat),k9 e].toArray 108)] [nJ.sl (.slice A toks.length c) toks] (λ(_:Unit)=> k9 (atP toks k e)) (λ(_:Unit)=>[.obj bl (.cells [.slice A toks.length c,k9 (k:Nat),k9 e].toArray 108)]) (λ_=>[]):=by
 have hT:=gH;refine j8 func118 ntmps118 ?_;intro β hM;refine g7 ?_;refine cK _ _ [k8,u0,u5,u9,A00,u6,A02,A01,A03,A04] cN o8 (.c0 .nil) bA.self ?_;refine g12 ?_;refine fA (λb=>?_) λb=>?_
 .refine bP<|cK _ _ [k8,u0,u5,u9,A00,u6,A02,A01,A03,A04,A08,A07] cN o8 (.c0 .nil) bA.self ?_;refine g8 ?_;obtain⟨x1,a⟩:=gx toks k;refine stM rfl (ixs k) ?_;refine one ?_;refine stM rfl (gI a 1) ?_;refine g5 ?_;exact rs1 () j1 (he:=by rw[bGn a])
 refine g12 ?_;exact rs1 () j1 (he:=by rw[bQg m0])
theorem jS(bl:Nat)(A:Option Addr)(c:Nat)(toks:List TokV)(k:Nat)(e:Int):cY prog 83 [.pointer (some ⟨bl,0,none⟩)] [.obj bl (.cells [.slice A toks.length c,k9 (k:Nat),k9 e].toArray 108)] [nJ.sl (.slice A toks.length c) toks] (λ(_:Unit)=>tokV (bK toks k)) (λ(_:Unit)=>[.obj bl (.cells [.slice A toks.length c,k9 (k:Nat),k9 e].toArray 108)]) (λ_=>[]):=by
 have hT:=gH;refine j8 func83 ntmps83 ?_;intro β hM;refine g2 ?_;refine j4 bBt λf=>?_;refine g4 ?_;refine cK _ _ [k8,u0,u5,u9,A00,u6,A02,A01,A03,A04] cN o8 (.c0 (.c0 .nil)) bA.self ?_;refine g12 ?_;refine fA (λb=>?_) λb=>?_
 .refine bP<|cK _ _ [k8,u0,u5,u9,A00,u6,A02,A01,A03,A04,A73] cN o8 (.c1 .nil) bA.self ?_;refine g8 ?_;obtain⟨d,a⟩:=gx toks k;refine stM rfl (ixs k) ?_;refine stM rfl (oZ a 0) ?_;refine g2 ?_;refine fK (.c1 .nil) ⟨d7,j1⟩ ?_;refine g4 ?_;exact rs1 () j1 (he:=by rw[uQ a];rfl)
 refine g4 ?_;refine ss (j7 (xR _)) ?_;refine g4 ?_;exact rs1 () j1 (he:=by rw[bFt m0];rfl)
theorem cR(bl:Nat)(A:Option Addr)(c:Nat)(toks:List TokV)(k:Nat)(e:Int)(z:Int):cY prog 84 [.pointer (some ⟨bl,0,none⟩),k9 z] [.obj bl (.cells [.slice A toks.length c,k9 (k:Nat),k9 e].toArray 108)] [nJ.sl (.slice A toks.length c) toks] (λ(_:Unit)=> .agg #[k9 (atP toks k e),k9 z]) (λ(_:Unit)=>[.obj bl (.cells [.slice A toks.length c,k9 (k:Nat),k9 e].toArray 108)]) (λ_=>[]):=by have hT:=gH;refine j8 func84 ntmps84 ?_;intro β hM;refine g2 ?_;refine j4 bEm λa=>?_;refine g5 ?_;refine bC func118 (at_spec bl A c toks (k) e) rfl rfl (.c1 .nil) ⟨d7,j1⟩ λ_=>?_;refine one ?_;refine ss (j7 (yL _ _)) ?_;refine g4 ?_;exact rs1 () trivial
theorem phraseT_spec(bl:Nat)(A:Option Addr)(c:Nat)(toks:List TokV)(k:Nat)(e:Int)(hk:k<=1000000):cY prog 122 [.pointer (some ⟨bl,0,none⟩),.bool true] [.obj bl (.cells [.slice A toks.length c,k9 (k:Nat),k9 e].toArray 108)] [nJ.sl (.slice A toks.length c) toks] (λ(_:Unit)=>phrV (bM toks k e true)) (λ(_:Unit)=>[.obj bl (.cells [.slice A toks.length c,k9 ((bM toks k e true).next:Nat),k9 e].toArray 108)]) (λ_=>[]):=by
 have hT:=gH;refine j8 func122 ntmps122 ?_;intro β hM;refine g2 ?_;refine j4 oY λn=>?_;refine j4 bEm λm=>?_;refine g5 ?_;refine bC func83 (jS bl A c toks (k) e) rfl rfl (.c2 .nil) ⟨d7,j1⟩ λ_=>?_;refine j4 bBt λl=>?_;refine g6 ?_;refine bC func84 (cR bl A c toks (k) e _) rfl rfl (.c1 .nil) ⟨d7,j1⟩ λ_=>?_;refine j4 bEm λj=>?_;refine g10 ?_;refine inc (k+1) ?_;refine g9 ?_;refine ss (j7 (tC _ _)) ?_;refine j4 oY λi=>?_;refine g20 ?_;refine bC func89 (bKx _ true) rfl rfl .nil j1 λ_=>?_;refine g11 ?_;refine bC func83 (jS bl A c toks ((k+1)) e) rfl rfl (.c1 .nil) ⟨d7,j1⟩ λ_=>?_;refine j4 bBt λg=>?_;refine g9 ?_;refine rE (λf=>?_) λf=>?_
 .refine g4 ?_;refine cF (λhg43=>?_) (λhg43=>?_)
  .have hg43:(bK toks ((k+1))).word=([47]:Bs):=eq_of_beq hg43;refine g20 ?_;refine inc ((k+1)+1) ?_;refine g9 ?_;refine bC func127 (lV _) rfl rfl .nil j1 λ_=>?_;refine g11 ?_;refine lK (λb=>?_) λb=>?_
   .refine g10 ?_;refine cK _ _ [k8,u0,A05,A06] cN o8 (.c0 (.c0 (.c0 (.c0 (.c0 .nil))))) bA.self ?_;refine g4 ?_;refine fK (.c1 (.c1 (.c1 (.c1 (.c1 .nil))))) ⟨d7,j1⟩ ?_;refine g2 ?_;refine fK (.c2 (.c2 (.c2 (.c2 (.c2 .nil))))) ⟨d7,j1⟩ ?_;refine g5 ?_;have a:bM toks k e true=⟨4,(bK toks (k)).at_,(jG (bK toks k).word),((atP toks (k) e),43),((k+1)+1)⟩:=by first|(simp[bM, *];done)|simp_all[bM]
    rw[a];exact rs2 () trivial
   refine g3 ?_;refine bF (t':=false) (aj7) ?_;refine g2 ?_;refine bF (t':=true) rfl ?_;refine g5 ?_;refine cK _ _ [k8,u0,A05,A06] cN o8 (.c0 (.c0 (.c0 (.c0 (.c0 .nil))))) bA.self ?_;refine g4 ?_;refine fK (.c1 (.c1 (.c1 (.c1 (.c1 .nil))))) ⟨d7,j1⟩ ?_;refine g2 ?_;refine fK (.c2 (.c2 (.c2 (.c2 (.c2 .nil))))) ⟨d7,j1⟩ ?_;refine g5 ?_;have a:bM toks k e true=⟨4,(bK toks (k)).at_,(jG (bK toks k).word),((atP toks (k) e),43),((k+1)+1)⟩:=by first|(simp[bM, *];done)|simp_all[bM]
   rw[a];exact rs2 () trivial
  have hg43:(bK toks ((k+1))).word≠([47]:Bs):=λh=>absurd (beq_iff_eq.2 h) ai7;refine g5 ?_;refine cF (λhg48=>?_) (λhg48=>?_)
  .have hg48:(bK toks ((k+1))).word=([92]:Bs):=eq_of_beq hg48;refine g15 ?_;refine inc ((k+1)+1) ?_;refine g9 ?_;refine bC func127 (lV _) rfl rfl .nil j1 λ_=>?_;refine g11 ?_;refine lK (λb=>?_) λb=>?_
   .refine g10 ?_;refine cK _ _ [k8,u0,A05,A06] cN o8 (.c0 (.c0 (.c0 (.c0 (.c0 .nil))))) bA.self ?_;refine g4 ?_;refine fK (.c1 (.c1 (.c1 (.c1 (.c1 .nil))))) ⟨d7,j1⟩ ?_;refine g2 ?_;refine fK (.c2 (.c2 (.c2 (.c2 (.c2 .nil))))) ⟨d7,j1⟩ ?_;refine g5 ?_;have a:bM toks k e true=⟨4,(bK toks (k)).at_,(jG (bK toks k).word),((atP toks (k) e),43),((k+1)+1)⟩:=by first|(simp[bM, *];done)|simp_all[bM]
    rw[a];exact rs2 () trivial
   refine g3 ?_;refine bF (t':=false) (aj8) ?_;refine g2 ?_;refine bF (t':=true) rfl ?_;refine g5 ?_;refine cK _ _ [k8,u0,A05,A06] cN o8 (.c0 (.c0 (.c0 (.c0 (.c0 .nil))))) bA.self ?_;refine g4 ?_;refine fK (.c1 (.c1 (.c1 (.c1 (.c1 .nil))))) ⟨d7,j1⟩ ?_;refine g2 ?_;refine fK (.c2 (.c2 (.c2 (.c2 (.c2 .nil))))) ⟨d7,j1⟩ ?_;refine g5 ?_;have a:bM toks k e true=⟨4,(bK toks (k)).at_,(jG (bK toks k).word),((atP toks (k) e),43),((k+1)+1)⟩:=by first|(simp[bM, *];done)|simp_all[bM]
   rw[a];exact rs2 () trivial
  have hg48:(bK toks ((k+1))).word≠([92]:Bs):=λh=>absurd (beq_iff_eq.2 h) ai8;refine g7 ?_;refine fT (λhc53=>?_) λhc53=>?_
  .have hc53:(bK toks ((k+1))).word=([46]:Bs):=eq_of_beq hc53;refine g7 ?_;refine inc ((k+1)+1) ?_;refine g9 ?_;refine bC func127 (lV _) rfl rfl .nil j1 λ_=>?_;refine g11 ?_;refine lK (λb=>?_) λb=>?_
   .refine g10 ?_;refine cK _ _ [k8,u0,A05,A06] cN o8 (.c0 (.c0 (.c0 (.c0 (.c0 .nil))))) bA.self ?_;refine g4 ?_;refine fK (.c1 (.c1 (.c1 (.c1 (.c1 .nil))))) ⟨d7,j1⟩ ?_;refine g2 ?_;refine fK (.c2 (.c2 (.c2 (.c2 (.c2 .nil))))) ⟨d7,j1⟩ ?_;refine g5 ?_;have a:bM toks k e true=⟨4,(bK toks (k)).at_,(jG (bK toks k).word),((atP toks (k) e),43),((k+1)+1)⟩:=by first|(simp[bM, *];done)|simp_all[bM]
    rw[a];exact rs2 () trivial
   refine g3 ?_;refine bF (t':=true) (aj9) ?_;refine g2 ?_;refine bF (t':=false) rfl ?_;refine g16 ?_;refine bF (t':=false) ((by show((bK toks ((k+1))).word==([47]:Bs))=_;rw[hc53];rfl)) ?_;refine g7 ?_;refine bF (t':=false) ((by show((bK toks ((k+1))).word==([92]:Bs))=_;rw[hc53];rfl)) ?_;refine g18 ?_;refine gJ (λd=>?_) λd=>?_
   .refine bP<|cK _ _ [k8,u0,A05,A06] cN o8 (.c0 (.c0 (.c0 (.c0 (.c0 .nil))))) bA.self ?_;refine g4 ?_;refine fK (.c1 (.c1 (.c1 (.c1 (.c1 .nil))))) ⟨d7,j1⟩ ?_;refine g2 ?_;refine fK (.c2 (.c2 (.c2 (.c2 (.c2 .nil))))) ⟨d7,j1⟩ ?_;refine g4 ?_;have a:bM toks k e true=⟨7,(bK toks (k)).at_,(jG (bK toks k).word),((atP toks (k) e),43),((k+1)+1)⟩:=by first|(simp[bM, *];done)|simp_all[bM]
    rw[a];exact rs2 () trivial
   refine g5 ?_;refine ss (j7 (bAp)) ?_;refine g5 ?_;have a:bM toks k e true=⟨7,(bK toks (k)).at_,(jG (bK toks k).word),(0,0),((k+1)+1)⟩:=by first|(simp[bM, *];done)|simp_all[bM]
   rw[a];exact rs2 () trivial
  have hc53:(bK toks ((k+1))).word≠([46]:Bs):=λh=>absurd (beq_iff_eq.2 h) ai9;refine g10 ?_;refine gJ (λd=>?_) λd=>?_
  .refine bP<|cK _ _ [k8,u0,A05,A06] cN o8 (.c0 (.c0 (.c0 (.c0 (.c0 .nil))))) bA.self ?_;refine g4 ?_;refine fK (.c1 (.c1 (.c1 (.c1 (.c1 .nil))))) ⟨d7,j1⟩ ?_;refine g2 ?_;refine fK (.c2 (.c2 (.c2 (.c2 (.c2 .nil))))) ⟨d7,j1⟩ ?_;refine g4 ?_;have a:bM toks k e true=⟨4,(bK toks (k)).at_,(gA (bK toks k).word true),((atP toks (k) e),43),(k+1)⟩:=by first|(simp[bM, *];done)|simp_all[bM]
   rw[a];exact rs2 () trivial
  refine g5 ?_;refine ss (j7 (bAp)) ?_;refine g5 ?_;have a:bM toks k e true=⟨4,(bK toks (k)).at_,(gA (bK toks k).word true),(0,0),(k+1)⟩:=by first|(simp[bM, *];done)|simp_all[bM]
  rw[a];exact rs2 () trivial
 refine g27 ?_;refine gJ (λd=>?_) λd=>?_
 .refine bP<|cK _ _ [k8,u0,A05,A06] cN o8 (.c0 (.c0 (.c0 (.c0 (.c0 .nil))))) bA.self ?_;refine g4 ?_;refine fK (.c1 (.c1 (.c1 (.c1 (.c1 .nil))))) ⟨d7,j1⟩ ?_;refine g2 ?_;refine fK (.c2 (.c2 (.c2 (.c2 (.c2 .nil))))) ⟨d7,j1⟩ ?_;refine g4 ?_;have a:bM toks k e true=⟨4,(bK toks (k)).at_,(gA (bK toks k).word true),((atP toks (k) e),43),(k+1)⟩:=by first|(simp[bM, *];done)|simp_all[bM]
  rw[a];exact rs2 () trivial
 refine g5 ?_;refine ss (j7 (bAp)) ?_;refine g5 ?_;have a:bM toks k e true=⟨4,(bK toks (k)).at_,(gA (bK toks k).word true),(0,0),(k+1)⟩:=by first|(simp[bM, *];done)|simp_all[bM]
 rw[a];exact rs2 () trivial
theorem phraseF_spec(bl:Nat)(A:Option Addr)(c:Nat)(toks:List TokV)(k:Nat)(e:Int)(hk:k<=1000000):cY prog 122 [.pointer (some ⟨bl,0,none⟩),.bool false] [.obj bl (.cells [.slice A toks.length c,k9 (k:Nat),k9 e].toArray 108)] [nJ.sl (.slice A toks.length c) toks] (λ(_:Unit)=>phrV (bM toks k e false)) (λ(_:Unit)=>[.obj bl (.cells [.slice A toks.length c,k9 ((bM toks k e false).next:Nat),k9 e].toArray 108)]) (λ_=>[]):=by
 have hT:=gH;refine j8 func122 ntmps122 ?_;intro β hM;refine g2 ?_;refine j4 oY λn=>?_;refine j4 bEm λm=>?_;refine g5 ?_;refine bC func83 (jS bl A c toks (k) e) rfl rfl (.c2 .nil) ⟨d7,j1⟩ λ_=>?_;refine j4 bBt λl=>?_;refine g6 ?_;refine bC func84 (cR bl A c toks (k) e _) rfl rfl (.c1 .nil) ⟨d7,j1⟩ λ_=>?_;refine j4 bEm λj=>?_;refine g10 ?_;refine inc (k+1) ?_;refine g9 ?_;refine ss (j7 (tC _ _)) ?_;refine j4 oY λi=>?_;refine g17 ?_;refine bC func89 (bKx _ false) rfl rfl .nil j1 λ_=>?_;refine g11 ?_;refine bC func83 (jS bl A c toks ((k+1)) e) rfl rfl (.c1 .nil) ⟨d7,j1⟩ λ_=>?_;refine j4 bBt λg=>?_;refine g9 ?_;refine rE (λf=>?_) λf=>?_
 .refine g4 ?_;refine cF (λhg43=>?_) (λhg43=>?_)
  .have hg43:(bK toks ((k+1))).word=([47]:Bs):=eq_of_beq hg43;refine g20 ?_;refine inc ((k+1)+1) ?_;refine g9 ?_;refine bC func127 (lV _) rfl rfl .nil j1 λ_=>?_;refine g11 ?_;refine lK (λd=>?_) λd=>?_
   .refine g10 ?_;refine cK _ _ [k8,u0,A05,A06] cN o8 (.c0 (.c0 (.c0 (.c0 (.c0 .nil))))) bA.self ?_;refine g4 ?_;refine fK (.c1 (.c1 (.c1 (.c1 (.c1 .nil))))) ⟨d7,j1⟩ ?_;refine g2 ?_;refine fK (.c2 (.c2 (.c2 (.c2 (.c2 .nil))))) ⟨d7,j1⟩ ?_;refine g5 ?_;have a:bM toks k e false=⟨3,(bK toks (k)).at_,(jG (bK toks k).word),((atP toks (k) e),43),((k+1)+1)⟩:=by first|(simp[bM, *];done)|simp_all[bM]
    rw[a];exact rs2 () trivial
   refine g3 ?_;refine bF (t':=false) (aj7) ?_;refine g2 ?_;refine bF (t':=false) rfl ?_;refine g16 ?_;refine bF (t':=true) ((by show((bK toks ((k+1))).word==([47]:Bs))=_;rw[hg43];rfl)) ?_;refine g18 ?_;refine gJ (λb=>?_) λb=>?_
   .refine bP<|cK _ _ [k8,u0,A05,A06] cN o8 (.c0 (.c0 (.c0 (.c0 (.c0 .nil))))) bA.self ?_;refine g4 ?_;refine fK (.c1 (.c1 (.c1 (.c1 (.c1 .nil))))) ⟨d7,j1⟩ ?_;refine g2 ?_;refine fK (.c2 (.c2 (.c2 (.c2 (.c2 .nil))))) ⟨d7,j1⟩ ?_;refine g4 ?_;have a:bM toks k e false=⟨5,(bK toks (k)).at_,(jG (bK toks k).word),((atP toks (k) e),43),((k+1)+1)⟩:=by first|(simp[bM, *];done)|simp_all[bM]
    rw[a];exact rs2 () trivial
   refine g5 ?_;refine ss (j7 (bAp)) ?_;refine g5 ?_;have a:bM toks k e false=⟨5,(bK toks (k)).at_,(jG (bK toks k).word),(0,0),((k+1)+1)⟩:=by first|(simp[bM, *];done)|simp_all[bM]
   rw[a];exact rs2 () trivial
  have hg43:(bK toks ((k+1))).word≠([47]:Bs):=λh=>absurd (beq_iff_eq.2 h) ai7;refine g5 ?_;refine cF (λhg48=>?_) (λhg48=>?_)
  .have hg48:(bK toks ((k+1))).word=([92]:Bs):=eq_of_beq hg48;refine g15 ?_;refine inc ((k+1)+1) ?_;refine g9 ?_;refine bC func127 (lV _) rfl rfl .nil j1 λ_=>?_;refine g11 ?_;refine lK (λd=>?_) λd=>?_
   .refine g10 ?_;refine cK _ _ [k8,u0,A05,A06] cN o8 (.c0 (.c0 (.c0 (.c0 (.c0 .nil))))) bA.self ?_;refine g4 ?_;refine fK (.c1 (.c1 (.c1 (.c1 (.c1 .nil))))) ⟨d7,j1⟩ ?_;refine g2 ?_;refine fK (.c2 (.c2 (.c2 (.c2 (.c2 .nil))))) ⟨d7,j1⟩ ?_;refine g5 ?_;have a:bM toks k e false=⟨3,(bK toks (k)).at_,(jG (bK toks k).word),((atP toks (k) e),43),((k+1)+1)⟩:=by first|(simp[bM, *];done)|simp_all[bM]
    rw[a];exact rs2 () trivial
   refine g3 ?_;refine bF (t':=false) (aj8) ?_;refine g2 ?_;refine bF (t':=false) rfl ?_;refine g16 ?_;refine bF (t':=false) ((by show((bK toks ((k+1))).word==([47]:Bs))=_;rw[hg48];rfl)) ?_;refine g7 ?_;refine bF (t':=true) ((by show((bK toks ((k+1))).word==([92]:Bs))=_;rw[hg48];rfl)) ?_;refine g18 ?_;refine gJ (λb=>?_) λb=>?_
   .refine bP<|cK _ _ [k8,u0,A05,A06] cN o8 (.c0 (.c0 (.c0 (.c0 (.c0 .nil))))) bA.self ?_;refine g4 ?_;refine fK (.c1 (.c1 (.c1 (.c1 (.c1 .nil))))) ⟨d7,j1⟩ ?_;refine g2 ?_;refine fK (.c2 (.c2 (.c2 (.c2 (.c2 .nil))))) ⟨d7,j1⟩ ?_;refine g4 ?_;have a:bM toks k e false=⟨6,(bK toks (k)).at_,(jG (bK toks k).word),((atP toks (k) e),43),((k+1)+1)⟩:=by first|(simp[bM, *];done)|simp_all[bM]
    rw[a];exact rs2 () trivial
   refine g5 ?_;refine ss (j7 (bAp)) ?_;refine g5 ?_;have a:bM toks k e false=⟨6,(bK toks (k)).at_,(jG (bK toks k).word),(0,0),((k+1)+1)⟩:=by first|(simp[bM, *];done)|simp_all[bM]
   rw[a];exact rs2 () trivial
  have hg48:(bK toks ((k+1))).word≠([92]:Bs):=λh=>absurd (beq_iff_eq.2 h) ai8;refine g7 ?_;refine fT (λhc53=>?_) λhc53=>?_
  .have hc53:(bK toks ((k+1))).word=([46]:Bs):=eq_of_beq hc53;refine g7 ?_;refine inc ((k+1)+1) ?_;refine g9 ?_;refine bC func127 (lV _) rfl rfl .nil j1 λ_=>?_;refine g11 ?_;refine lK (λd=>?_) λd=>?_
   .refine g10 ?_;refine cK _ _ [k8,u0,A05,A06] cN o8 (.c0 (.c0 (.c0 (.c0 (.c0 .nil))))) bA.self ?_;refine g4 ?_;refine fK (.c1 (.c1 (.c1 (.c1 (.c1 .nil))))) ⟨d7,j1⟩ ?_;refine g2 ?_;refine fK (.c2 (.c2 (.c2 (.c2 (.c2 .nil))))) ⟨d7,j1⟩ ?_;refine g5 ?_;have a:bM toks k e false=⟨3,(bK toks (k)).at_,(jG (bK toks k).word),((atP toks (k) e),43),((k+1)+1)⟩:=by first|(simp[bM, *];done)|simp_all[bM]
    rw[a];exact rs2 () trivial
   refine g3 ?_;refine bF (t':=true) (aj9) ?_;refine g2 ?_;refine bF (t':=true) rfl ?_;refine g5 ?_;refine cK _ _ [k8,u0,A05,A06] cN o8 (.c0 (.c0 (.c0 (.c0 (.c0 .nil))))) bA.self ?_;refine g4 ?_;refine fK (.c1 (.c1 (.c1 (.c1 (.c1 .nil))))) ⟨d7,j1⟩ ?_;refine g2 ?_;refine fK (.c2 (.c2 (.c2 (.c2 (.c2 .nil))))) ⟨d7,j1⟩ ?_;refine g5 ?_;have a:bM toks k e false=⟨3,(bK toks (k)).at_,(jG (bK toks k).word),((atP toks (k) e),43),((k+1)+1)⟩:=by first|(simp[bM, *];done)|simp_all[bM]
   rw[a];exact rs2 () trivial
  have hc53:(bK toks ((k+1))).word≠([46]:Bs):=λh=>absurd (beq_iff_eq.2 h) ai9;refine g10 ?_;refine gJ (λb=>?_) λb=>?_
  .refine bP<|cK _ _ [k8,u0,A05,A06] cN o8 (.c0 (.c0 (.c0 (.c0 (.c0 .nil))))) bA.self ?_;refine g4 ?_;refine fK (.c1 (.c1 (.c1 (.c1 (.c1 .nil))))) ⟨d7,j1⟩ ?_;refine g2 ?_;refine fK (.c2 (.c2 (.c2 (.c2 (.c2 .nil))))) ⟨d7,j1⟩ ?_;refine g4 ?_;have a:bM toks k e false=⟨3,(bK toks (k)).at_,(gA (bK toks k).word false),((atP toks (k) e),43),(k+1)⟩:=by first|(simp[bM, *];done)|simp_all[bM]
   rw[a];exact rs2 () trivial
  refine g5 ?_;refine ss (j7 (bAp)) ?_;refine g5 ?_;have a:bM toks k e false=⟨3,(bK toks (k)).at_,(gA (bK toks k).word false),(0,0),(k+1)⟩:=by first|(simp[bM, *];done)|simp_all[bM]
  rw[a];exact rs2 () trivial
 refine g27 ?_;refine gJ (λb=>?_) λb=>?_
 .refine bP<|cK _ _ [k8,u0,A05,A06] cN o8 (.c0 (.c0 (.c0 (.c0 (.c0 .nil))))) bA.self ?_;refine g4 ?_;refine fK (.c1 (.c1 (.c1 (.c1 (.c1 .nil))))) ⟨d7,j1⟩ ?_;refine g2 ?_;refine fK (.c2 (.c2 (.c2 (.c2 (.c2 .nil))))) ⟨d7,j1⟩ ?_;refine g4 ?_;have a:bM toks k e false=⟨3,(bK toks (k)).at_,(gA (bK toks k).word false),((atP toks (k) e),43),(k+1)⟩:=by first|(simp[bM, *];done)|simp_all[bM]
  rw[a];exact rs2 () trivial
 refine g5 ?_;refine ss (j7 (bAp)) ?_;refine g5 ?_;have a:bM toks k e false=⟨3,(bK toks (k)).at_,(gA (bK toks k).word false),(0,0),(k+1)⟩:=by first|(simp[bM, *];done)|simp_all[bM]
 rw[a];exact rs2 () trivial
end
section
open Go.RowKit Go.Proofs.Tryz
abbrev oB:=Option (Nat×ItemV)
def fnV (b4:Nat):oB->Value
 |none=> .nilFunc
 |some x=> .func (.func 123) #[] #[.pointer (some ⟨b4,0,none⟩),.pointer (some ⟨x.1,0,none⟩)]
def fnE (b4:Nat):Flat oB where
 size:=1
 cells:=λx=>[fnV b4 x]
 len:=λ_=>rfl
 one:=λx u hu=>by simp at hu;subst hu;cases x<;>rfl
 pos:=m9
theorem fnInfo: ∃i:TypeInfo,prog.info? 1=some i/\i.zero=some .nilFunc/\i.size=1/\i.bytes=8:=by
 have h:(prog.info? 1).map (λi=>(i.zero,i.size,i.bytes))=some (some .nilFunc,1,8):=m7
 cases hi:prog.info? 1 with
 |none=>simp[hi]at h
 |some i=>simp[hi]at h;exact⟨i,rfl,h.1,h.2.1,h.2.2⟩
section
variable {β : fR} {n : Nat} {Γ : Env} {H : List bL} {F : List Fact} {Q : Exit -> Act -> World -> Prop} {ops : Array Oper} {rest : List Oper} {o : Oper} {d : Nat}
theorem bLc{b4:Nat}{x:Operand}{m:oB}(hw:want ops Γ o=some true)(ho:o.op= .buildSlice 172 1 #[(0,x)])(hd:o.dst=some d)(hn:B2 d n=true)
  (hx:Γ.ev x=some (fnV b4 m)) (k: ∀b,At β n ((d,.slice (some ⟨b,0,none⟩) 1 1)::Γ) (.obj b (.cells ((fnE b4).all [m]).toArray 1)::H) F (wpList prog ops Q rest)):At β n Γ H F (wpList prog ops Q (o::rest)):=by obtain⟨i,hi,a,hs,_⟩:=fnInfo;refine jT hw ho hd hn hx underlying172 hi a m0 m0 ?_ k;rw[hs];cases m<;>kernel_rfl
theorem bKb{b4:Nat}{x y:Operand}{c q:Nat}{v:Value}{A:Option Addr}{xs ys:List oB}{H':List bL}(hH:cU H ((fnE b4).row v 1 xs) H')(hr:dC β H F (fnE b4) A ys)(hg:o.guard=none)
  (ho:o.op= .call {callee:= .builtin .append,args:= #[x,y],argTypes:= #[172,172]}) (hd:o.dst=some d) (hn:B2 d n=true)
  (hx:Γ.ev x=some v) (hy:Γ.ev y=some (.slice A q c)) (hq:q=ys.length) (hl:xs.length+ys.length<=10000000)
  (k: ∀A' cap',At β n ((d,.slice A' (xs++ys).length cap')::Γ) ((fnE b4).row (.slice A' (xs++ys).length cap') 1 (xs++ys)::H') F (wpList prog ops Q rest)):At β n Γ H F (wpList prog ops Q (o::rest)):=by obtain⟨i,hi,a,hs,b⟩:=fnInfo;exact gS hH hr hg ho hd hn underlying172 hi a hs b rfl hx hy hq m0 m9 k
end
def oF (st:List oB):Fact:=Fact.each st λo=>match o with
 |none=>Fact.true
 |some x=>Fact.cells x.1 0 (mM.cells x.2)
def finP:List oB->List ItemV×List oB
 |some x::r=>(x.2::(finP r).1,(finP r).2)
 |none::r=>([],none::r)
 |[]=>([],[])
theorem itemZ:(prog.info? 56).bind (·.zero)=some (.slice none 0 0):=m7
theorem funcZ:(prog.info? 172).bind (·.zero)=some (.slice none 0 0):=m7
theorem bLg{x:oB}{r:List oB}:(x::r).reverse[(r.length+1)-1]?=some x:=by simp
theorem bKu{x:oB}{r:List oB}:(x::r).reverse.take ((r.length+1)-1)=r.reverse:=by simp
theorem mF(x:oB)(r:List oB):(x::r).reverse.length=r.length+1:=by simp
section
variable {F : List Fact} {x : Nat × ItemV} {o : oB} {r : List oB}
theorem todo_head(h:Has F (oF (some x::r))):Has F (Fact.cells x.1 0 (mM.cells x.2)):=λS w k=>h S w k (some x) (E8 ..)
theorem bJj(h:Has F (oF (o::r))):Has F (oF r):=λS w k y hy=>h S w k y (E4 _ hy)
theorem todo_nil:Has F (oF []):=λ_ _ _ y hy=>by simp at hy
theorem todo_none(h:Has F (oF r)):Has F (oF (none::r)):=λS w k y hy=>by
 rcases E2.1 hy with rfl|hy
 .trivial
 .exact h S w k y hy
theorem bVf(hx:Has F (Fact.cells x.1 0 (mM.cells x.2)))(h:Has F (oF r)):Has F (oF (some x::r)):=λS w k y hy=>by
 rcases E2.1 hy with rfl|hy
 .exact hx S w k
 .exact h S w k y hy
end
def tU (p:Phr):ItemV:=⟨p.H,p.at_,p.fn,[],⟨none,0,[]⟩⟩
theorem push_spec(b4 bi:Nat)(C:Option Addr)(e:Nat)(out:List ItemV)(it:ItemV)(ho:out.length<=1000000):cY prog 123 [.pointer (some ⟨b4,0,none⟩),.pointer (some ⟨bi,0,none⟩)] [.obj b4 (.cells [.slice C out.length e].toArray 56),mM.row (.slice C out.length e) 62 out] [Fact.cells bi 0 (mM.cells it)] (λ(_:Option Addr×Nat)=> .tuple #[]) (λ(x:Option Addr×Nat)=>[.obj b4 (.cells [.slice x.1 (out++[it]).length x.2].toArray 56),mM.row (.slice x.1 (out++[it]).length x.2) 62 (out++[it])]) (λ_=>[]):=by have hT:=gH;refine j8 func123 ntmps123 ?_;intro β hM;refine g2 ?_;refine ss (fM hT (knows_fact d7) rfl rfl rfl rfl rfl) ?_;refine bAo (m:=it) rfl rfl rfl rfl rfl λb=>?_;refine bAw kT2 (bT .head rfl) rfl rfl rfl rfl rfl rfl rfl ab1 λa c3=>?_;refine g2 ?_;exact yX (a,c3) rfl (.c0 (.c0 .nil)) j1 (rfl)
theorem qR(b5 b4:Nat)(D:Option Addr)(f:Nat)(st0:List oB)(C:Option Addr)(e:Nat)(out0:List ItemV)(hs:out0.length+st0.length<=100000):cY prog 120 [.pointer (some ⟨b5,0,none⟩)] [.obj b5 (.cells [.slice D st0.reverse.length f].toArray 172),(fnE b4).row (.slice D st0.reverse.length f) 1 st0.reverse,.obj b4 (.cells [.slice C out0.length e].toArray 56),mM.row (.slice C out0.length e) 62 out0] [oF st0] (λ(_:(Option Addr×Nat)×(Option Addr×Nat))=> .tuple #[]) (λ(x:(Option Addr×Nat)×(Option Addr×Nat))=>[.obj b5 (.cells [.slice x.1.1 (finP st0).2.reverse.length x.1.2].toArray 172),(fnE b4).row (.slice x.1.1 (finP st0).2.reverse.length x.1.2) 1 (finP st0).2.reverse,.obj b4 (.cells [.slice x.2.1 (out0++(finP st0).1).length x.2.2].toArray 56),mM.row (.slice x.2.1 (out0++(finP st0).1).length x.2.2) 62 (out0++(finP st0).1)]) (λ_=>[oF (finP st0).2]):=by
 have hT:=gH;refine j8 func120 ntmps120 ?_;intro β hM;refine one ?_;refine cI (ι:=List oB×List ItemV×Option Addr×Nat×Option Addr×Nat) [(0,_)] ⟨rfl,j1⟩ (λ_=>[]) (λ⟨st,out,D,f,C,e⟩=>[.obj b5 (.cells [.slice D st.reverse.length f].toArray 172),(fnE b4).row (.slice D st.reverse.length f) 1 st.reverse,.obj b4 (.cells [.slice C out.length e].toArray 56),mM.row (.slice C out.length e) 62 out]) (λ⟨st,out,D,f,C,e⟩=>[Fact.pure (out0++(finP st0).1=out++(finP st).1/\(finP st0).2=(finP st).2/\out.length+st.length<=100000),oF st]) (λ⟨st,out,D,f,C,e⟩=>st.length) (st0,out0,D,f,C,e) j1 (.c0 (.c0 (.c0 (.c0 .nil)))) ⟨j2 (⟨rfl,rfl,hs⟩),d7,j1⟩ ?_;rintro⟨st,out,D,f,C,e⟩;dsimp only;refine bG d7 λa=>?_;refine g2 ?_
 rcases st with _|⟨_|⟨b,it⟩,r⟩
 .skip
  refine g5 ?_;refine lK (λc=>?_) λc=>?_
  .simp at c
  refine g15 ?_;have h:(finP st0).2=[]:=a.2.1;have d:out0++(finP st0).1=out:=by rw[a.1];simp[finP]
  rw[h,d];exact yX ((D,f),(C,e)) rfl (.c0 (.c0 (.c0 (.c0 .nil)))) ⟨d8,j1⟩ (rfl)
 .have g:r.length<=100000:=by have:=a.2.2;simp at this;omega
  refine g3 ?_;refine bJ (z':=(((r.length+1):Nat):Int)) (congrArg L6 (mF _ r)) ?_;refine g2 ?_;refine lK (λc=>?_) λc=>?_
  .refine g3 ?_;refine bJ (z':=(((r.length+1):Nat):Int)) (congrArg L6 (mF _ r)) ?_;refine one ?_;refine inc ((r.length+1)-1) ?_;refine ss (cC hT (k:=((r.length+1)-1)) (cM kT1) rfl rfl rfl rfl rfl rfl rfl al2) ?_;refine ss (gI bLg 0) ?_;refine ss (sti_nofn underlying1 rfl rfl) ?_;refine g8 ?_;have h:(finP st0).2=(none:oB)::r:=a.2.1;have d:out0++(finP st0).1=out:=by rw[a.1];simp[finP]
   rw[h,d];exact yX ((D,f),(C,e)) rfl (.c0 (.c0 (.c0 (.c0 .nil)))) ⟨d8,j1⟩ (rfl)
  omega
 have g:r.length<=100000:=by have:=a.2.2;simp at this;omega
 have i:out.length<=100000:=by have:=a.2.2;omega
 refine g3 ?_;refine bJ (z':=(((r.length+1):Nat):Int)) (congrArg L6 (mF _ r)) ?_;refine g2 ?_;refine lK (λc=>?_) λc=>?_
 .refine g3 ?_;refine bJ (z':=(((r.length+1):Nat):Int)) (congrArg L6 (mF _ r)) ?_;refine one ?_;refine inc ((r.length+1)-1) ?_;refine ss (cC hT (k:=((r.length+1)-1)) (cM kT1) rfl rfl rfl rfl rfl rfl rfl al2) ?_;refine ss (gI bLg 0) ?_;refine ss (sti_fn underlying1 rfl rfl) ?_;refine g12 ?_;refine bJ (z':=(((r.length+1):Nat):Int)) (congrArg L6 (mF _ r)) ?_;refine one ?_;refine inc ((r.length+1)-1) ?_;refine ss (cC hT (k:=((r.length+1)-1)) (cM kT1) rfl rfl rfl rfl rfl rfl rfl al2) ?_;refine ss (gI bLg 0) ?_;refine iS (cB func123 rfl rfl) (push_spec b4 b _ _ out it m0) rfl rfl rfl rfl rfl rfl rfl (.c2 (.c2 .nil)) ⟨todo_head d8,j1⟩ λ⟨C1,d⟩=>?_;refine g6 ?_;refine bJ (z':=(((r.length+1):Nat):Int)) (congrArg L6 (mF _ r)) ?_;refine one ?_;refine inc ((r.length+1)-1) ?_;refine jA hT (k:=((r.length+1)-1)) kT3 rfl rfl rfl rfl rfl rfl rfl rfl rfl al2 ?_;rw[bKu];refine g4 ?_;refine bB (oF r) (bJj d8) ?_;exact dR (r,_,_,_,_,_) (by dsimp only;simp) j1 ⟨rfl,j1⟩ (.c0 (.c0 (.c0 (.c0 .nil)))) ⟨j2 (⟨by rw[a.1];simp[finP],by rw[a.2.1];rfl,by have:=a.2.2;simp at*;omega⟩),d7,j1⟩ (bA.drop 3)
 omega
theorem qP(bl:Nat)(A:Option Addr)(c:Nat)(toks:List TokV)(k:Nat)(e:Int)(b1 b5 b4:Nat)(D:Option Addr)(f:Nat)(st:List oB)(hk:k<=1000000)(hs:st.length<=100000):cY prog 121 [.bool true,.pointer (some ⟨b1,0,none⟩),.pointer (some ⟨b5,0,none⟩),.pointer (some ⟨b4,0,none⟩)] [.obj bl (.cells [.slice A toks.length c,k9 (k:Nat),k9 e].toArray 108),.obj b1 (.cells [.pointer (some ⟨bl,0,none⟩)].toArray 106),.obj b5 (.cells [.slice D st.reverse.length f].toArray 172),(fnE b4).row (.slice D st.reverse.length f) 1 st.reverse] [nJ.sl (.slice A toks.length c) toks,oF st] (λ(_:(Option Addr×Nat)×Nat)=> .agg #[k9 (bM toks (k) e true).Y.1,k9 (bM toks (k) e true).Y.2]) (λ(x:(Option Addr×Nat)×Nat)=>[.obj bl (.cells [.slice A toks.length c,k9 ((bM toks (k) e true).next:Nat),k9 e].toArray 108),.obj b1 (.cells [.pointer (some ⟨bl,0,none⟩)].toArray 106),.obj b5 (.cells [.slice x.1.1 (some (x.2,(tU (bM toks (k) e true)))::st).reverse.length x.1.2].toArray 172),(fnE b4).row (.slice x.1.1 (some (x.2,(tU (bM toks (k) e true)))::st).reverse.length x.1.2) 1 (some (x.2,(tU (bM toks (k) e true)))::st).reverse]) (λ(x:(Option Addr×Nat)×Nat)=>[oF (some (x.2,(tU (bM toks (k) e true)))::st)]):=by have hT:=gH;refine j8 func121 ntmps121 ?_;intro β hM;refine g2 ?_;refine j4 bEm λb1=>?_;refine g6 ?_;refine bC func122 (phraseT_spec bl A c toks (k) e m0) rfl rfl (.c1 .nil) ⟨d7,j1⟩ λ_=>?_;refine g3 ?_;refine j4 oY λa=>?_;refine j4 bEm λd=>?_;refine g8 ?_;refine bLc (b4:=b4) (m:=(some (a,(tU (bM toks (k) e true))):oB)) rfl rfl rfl rfl rfl λb4=>?_;refine bKb kT7 (bT .head rfl) rfl rfl rfl rfl rfl rfl rfl ag5 λb c6=>?_;rw[<-L1];refine g10 ?_;refine bEk kT5 ?_;exact rs1 ((b,c6),a) ⟨bVf d7 d9,j1⟩
theorem laterF_spec(bl:Nat)(A:Option Addr)(c:Nat)(toks:List TokV)(k:Nat)(e:Int)(b1 b5 b4:Nat)(D:Option Addr)(f:Nat)(st:List oB)(hk:k<=1000000)(hs:st.length<=100000):cY prog 121 [.bool false,.pointer (some ⟨b1,0,none⟩),.pointer (some ⟨b5,0,none⟩),.pointer (some ⟨b4,0,none⟩)] [.obj bl (.cells [.slice A toks.length c,k9 (k:Nat),k9 e].toArray 108),.obj b1 (.cells [.pointer (some ⟨bl,0,none⟩)].toArray 106),.obj b5 (.cells [.slice D st.reverse.length f].toArray 172),(fnE b4).row (.slice D st.reverse.length f) 1 st.reverse] [nJ.sl (.slice A toks.length c) toks,oF st] (λ(_:(Option Addr×Nat)×Nat)=> .agg #[k9 (bM toks (k) e false).Y.1,k9 (bM toks (k) e false).Y.2]) (λ(x:(Option Addr×Nat)×Nat)=>[.obj bl (.cells [.slice A toks.length c,k9 ((bM toks (k) e false).next:Nat),k9 e].toArray 108),.obj b1 (.cells [.pointer (some ⟨bl,0,none⟩)].toArray 106),.obj b5 (.cells [.slice x.1.1 (some (x.2,(tU (bM toks (k) e false)))::st).reverse.length x.1.2].toArray 172),(fnE b4).row (.slice x.1.1 (some (x.2,(tU (bM toks (k) e false)))::st).reverse.length x.1.2) 1 (some (x.2,(tU (bM toks (k) e false)))::st).reverse]) (λ(x:(Option Addr×Nat)×Nat)=>[oF (some (x.2,(tU (bM toks (k) e false)))::st)]):=by have hT:=gH;refine j8 func121 ntmps121 ?_;intro β hM;refine g2 ?_;refine j4 bEm λb1=>?_;refine g6 ?_;refine bC func122 (phraseF_spec bl A c toks (k) e m0) rfl rfl (.c1 .nil) ⟨d7,j1⟩ λ_=>?_;refine g3 ?_;refine j4 oY λa=>?_;refine j4 bEm λd=>?_;refine g8 ?_;refine bLc (b4:=b4) (m:=(some (a,(tU (bM toks (k) e false))):oB)) rfl rfl rfl rfl rfl λb4=>?_;refine bKb kT7 (bT .head rfl) rfl rfl rfl rfl rfl rfl rfl ag5 λb c6=>?_;rw[<-L1];refine g10 ?_;refine bEk kT5 ?_;exact rs1 ((b,c6),a) ⟨bVf d7 d9,j1⟩
end
section
open Go.RowKit Go.Proofs.Tryz
structure fE where
 H:Int
 at_:Int
 fn:Int
 name:Bs
 nums:List Int
 deriving Inhabited,DecidableEq
def ItemV.it(x:ItemV):fE:=⟨x.H,x.at_,x.fn,x.name,x.nums.A⟩
def Phr.it(p:Phr):fE:=⟨p.H,p.at_,p.fn,[],[]⟩
abbrev Stk:=List (Option fE)
def bEj (st:List oB):Stk:=st.map λo=>o.map λx=>x.2.it
def pW:Stk->List fE×Stk
 |some x::r=>(x::(pW r).1,(pW r).2)
 |none::r=>([],none::r)
 |[]=>([],[])
theorem bCn: ∀st:List oB,(finP st).1.map ItemV.it=(pW (bEj st)).1/\bEj (finP st).2=(pW (bEj st)).2
 |[]=>⟨rfl,rfl⟩
 |none::r=>⟨rfl,rfl⟩
 |some x::r=>by obtain⟨h1,h2⟩:=bCn r;exact⟨by simp[finP,pW,bEj]at*;exact h1,h2⟩
def opens:List oB->Nat
 |[]=>0
 |none::r=>opens r+1
 |some _::r=>opens r
theorem zM: ∀st:List oB,(finP st).1.length+(finP st).2.length=st.length
 |[]=>rfl
 |none::r=>by simp[finP]
 |some x::r=>by have:=zM r;simp[finP];omega
theorem fin_open{st:List oB}(h:0<opens st): ∃r,(finP st).2=none::r/\opens r+1=opens st:=by
 induction st with
 |nil=>simp[opens]at h
 |cons o st ih=>
  cases o with
  |none=>exact⟨st,rfl,rfl⟩
  |some x=>exact ih h
section
variable (toks : List TokV) (e : Int)
def iM (k:Nat):List Int:=((toks.drop k).takeWhile λt=>t.kind==2).map (·.n)
def nT (f:Flt):Bool:=rS ⟨f.1,f.2⟩ ⟨0,0⟩
abbrev zY:=List fE×Flt
def bHr (rec:Nat->List fE->Stk->Nat->zY)(o k:Nat)(out:List fE)(st:Stk):zY:=
 if (bK toks k).kind=4 then (if 0<o then ([],(atP toks k e,42))else (out++(pW st).1,(0,0)))
 else if (bK toks k).kind=2\/nH (bK toks k).word=false then ([],(atP toks k e,46))
 else if nT (bM toks k e true).Y then rec (bM toks k e true).next out (some (bM toks k e true).it::st) o else ([],(bM toks k e true).Y)
def vQ (rec:Nat->List fE->Stk->Nat->zY):Nat->Nat->List fE->Stk->zY
 |0,k,out,st=>bHr toks e rec 0 k out st
 |o+1,k,out,st=>if (bK toks k).kind=3/\(bK toks k).word=[41]then vQ rec o (k+1) (out++(pW st).1) (pW st).2.tail else bHr toks e rec (o+1) k out st
def bDk (k:Nat):fE:=⟨1,(bK toks k).at_,0,[],iM toks k⟩
def uT (k:Nat):fE:=⟨2,(bK toks k).at_,0,(bK toks k).word,[]⟩
def oL:Nat->Nat->List fE->Stk->Nat->zY
 |0,_,_,_,_=>([],(0,0))
 |f+1,k,out,st,o=>
  if (bK toks k).kind≠2/\(bK toks k).kind≠4/\nH (bK toks k).word=true then
   if nT (bM toks k e false).Y then oL f (bM toks k e false).next out (some (bM toks k e false).it::st) o else ([],(bM toks k e false).Y)
  else if (bK toks k).kind=3/\(bK toks k).word=[40]then
   if o=32 then ([],(atP toks k e,44))else oL f (k+1) out (none::st) (o+1)
  else if (bK toks k).kind=2 then vQ toks e (oL f) o (k+(iM toks k).length) (out++[bDk toks k]) st
  else if (bK toks k).kind=1/\dQ (bK toks k).word=true then vQ toks e (oL f) o (k+1) (out++[uT toks k]) st
  else if (bK toks k).kind=1 then ([],(atP toks k e,41))else ([],(atP toks k e,42))
def uR (k:Nat):zY:=oL toks e (toks.length+1) k [] [] 0
def bIt (r:zY)(k:Nat)(out:List fE)(st:Stk)(o:Nat):Prop:=k<=toks.length/\ ∃f,toks.length+1<=f+k/\oL toks e f k out st o=r
def bBl (r:zY)(k:Nat)(out:List fE)(st:Stk)(o:Nat):Prop:=k<=toks.length/\ ∃f,toks.length+1<=f+k/\vQ toks e (oL toks e f) o k out st=r
end
theorem kV{toks:List TokV}{k:Nat}(h:(bK toks k).kind≠4):k<toks.length:=by
 rcases Nat.lt_or_ge k toks.length with a|a
 .exact a
 .rw[bFt a]at h;exact absurd rfl h
theorem xP{toks:List TokV}{k:Nat}(h:(bK toks k).kind=2):iM toks k=(bK toks k).n::iM toks (k+1):=by have a:=kV (toks:=toks) (k:=k) (by rw[h];decide);have e:toks[k]?=some toks[k]:=F1 a;rw[uQ e]at h⊢;unfold iM;rw[K2 a,List.takeWhile_cons_of_pos ad7];rfl
theorem nums_end{toks:List TokV}{k:Nat}(h:(bK toks k).kind≠2):iM toks k=[]:=by
 unfold iM
 rcases Nat.lt_or_ge k toks.length with a|a
 .have e:toks[k]?=some toks[k]:=F1 a;rw[uQ e]at h;rw[K2 a,List.takeWhile_cons_of_neg ad7];rfl
 .rw[K3 a];rfl
theorem nums_le(toks:List TokV)(k:Nat):(iM toks k).length<=toks.length-k:=by
 unfold iM;rw[List.length_map];have:=(List.takeWhile_sublist (λt:TokV=>t.kind==2) (l:=toks.drop k)).length_le
 simpa using this
theorem dY(toks:List TokV)(k:Nat)(e:Int)(b:Bool):k+1<=(bM toks k e b).next/\(bM toks k e b).next<=k+2:=by
 unfold bM;split
 .split
  .exact⟨n9,n9⟩
  .exact⟨n9,n9⟩
 .exact⟨n9,n9⟩
theorem bDf{toks:List TokV}{k:Nat}{e:Int}{b:Bool}(h:k<toks.length):(bM toks k e b).next<=toks.length:=by
 unfold bM;split
 .rename_i a;have:=kV (toks:=toks) (k:=k+1) (by rw[a.1];decide);split<;>(simp only;omega)
 .simp only;omega
theorem bracket_verb:nH [40]=false:=m9
theorem name_verb{s:Bs}(h:dQ s=true):nH s=false:=by unfold dQ at h;simp only[J3,Bool.not_eq_true']at h;exact h.1
section
variable {toks : List TokV} {e : Int} {r : zY} {k o : Nat} {out : List fE} {st : Stk}
theorem e_start(h:k<=toks.length):bIt toks e (uR toks e k) k [] [] 0:=⟨h,toks.length+1,m0,rfl⟩
theorem e_verb(h:bIt toks e r k out st o)(h2:(bK toks k).kind≠2)(h4:(bK toks k).kind≠4)(hv:nH (bK toks k).word=true):
  (nT (bM toks k e false).Y=true->bIt toks e r (bM toks k e false).next out (some (bM toks k e false).it::st) o)/\(nT (bM toks k e false).Y=false->r=([],(bM toks k e false).Y)):=by
 obtain⟨b,f,hf,h⟩:=h;have a:=kV h4
 obtain⟨f,rfl⟩: ∃g,f=g+1:=⟨f-1,m0⟩
 rw[oL,if_pos ⟨h2,h4,hv⟩]at h;have:=dY toks k e false;refine⟨λhi=>?_,λhi=>?_⟩
 .rw[if_pos hi]at h;exact⟨bDf a,f,m0,h⟩
 .rw[if_neg ak3]at h;exact h.symm
theorem e_open(h:bIt toks e r k out st o)(h3:(bK toks k).kind=3)(hw:(bK toks k).word=[40]):
  (o≠32->bIt toks e r (k+1) out (none::st) (o+1))/\(o=32->r=([],(atP toks k e,44))):=by
 obtain⟨b,f,hf,h⟩:=h;have a:=kV (toks:=toks) (k:=k) (by rw[h3];decide)
 obtain⟨f,rfl⟩: ∃g,f=g+1:=⟨f-1,m0⟩
 rw[oL,if_neg (by rw[hw,bracket_verb];simp),if_pos ⟨h3,hw⟩]at h;refine⟨λhi=>?_,λhi=>?_⟩
 .rw[if_neg hi]at h;exact⟨a,f,m0,h⟩
 .rw[if_pos hi]at h;exact h.symm
theorem e_num(h:bIt toks e r k out st o)(h2:(bK toks k).kind=2):bBl toks e r (k+(iM toks k).length) (out++[bDk toks k]) st o:=by
 obtain⟨c,f,hf,h⟩:=h;have a:=kV (toks:=toks) (k:=k) (by rw[h2];decide)
 obtain⟨f,rfl⟩: ∃g,f=g+1:=⟨f-1,m0⟩
 rw[oL,if_neg (by rw[h2];simp),if_neg (by rw[h2];simp),if_pos h2]at h;have h1:=nums_le toks k;have b:=xP h2;have h4:1<=(iM toks k).length:=by rw[b];simp
 exact⟨m0,f,m0,h⟩
theorem e_name(h:bIt toks e r k out st o)(h1:(bK toks k).kind=1)(hn:dQ (bK toks k).word=true):bBl toks e r (k+1) (out++[uT toks k]) st o:=by
 obtain⟨b,f,hf,h⟩:=h;have a:=kV (toks:=toks) (k:=k) (by rw[h1];decide)
 obtain⟨f,rfl⟩: ∃g,f=g+1:=⟨f-1,m0⟩
 rw[oL,if_neg (by rw[name_verb hn];simp),if_neg am4,if_neg am4,if_pos ⟨h1,hn⟩]at h;exact⟨m0,f,m0,h⟩
theorem e_word(h:bIt toks e r k out st o)(h1:(bK toks k).kind=1)(hv:nH (bK toks k).word=false)(hn:dQ (bK toks k).word=false):r=([],(atP toks k e,41)):=by
 obtain⟨b,f,hf,h⟩:=h;have a:=kV (toks:=toks) (k:=k) (by rw[h1];decide)
 obtain⟨f,rfl⟩: ∃g,f=g+1:=⟨f-1,m0⟩
 rw[oL,if_neg (by rw[hv];simp),if_neg am4,if_neg am4,if_neg (by rw[hn];simp),if_pos h1]at h;exact h.symm
theorem e_want(h:bIt toks e r k out st o)(h1:(bK toks k).kind≠1)(h2:(bK toks k).kind≠2)(hv:(bK toks k).kind=4\/nH (bK toks k).word=false)(hw:(bK toks k).kind≠3\/(bK toks k).word≠[40]):r=([],(atP toks k e,42)):=by
 obtain⟨a,f,hf,h⟩:=h
 obtain⟨f,rfl⟩: ∃g,f=g+1:=⟨f-1,m0⟩
 rw[oL,if_neg (by rcases hv with hv|hv<;>simp[hv]),if_neg (by rcases hw with hw|hw<;>simp[hw]),if_neg h2,if_neg (by simp[h1]),if_neg h1]at h;exact h.symm
theorem b_close(h:bBl toks e r k out st o)(ho:0<o)(h3:(bK toks k).kind=3)(hw:(bK toks k).word=[41]):bBl toks e r (k+1) (out++(pW st).1) (pW st).2.tail (o-1):=by
 obtain⟨b,f,hf,h⟩:=h;have a:=kV (toks:=toks) (k:=k) (by rw[h3];decide)
 obtain⟨o,rfl⟩: ∃g,o=g+1:=⟨o-1,m0⟩
 rw[vQ,if_pos ⟨h3,hw⟩]at h;exact⟨a,f,m0,h⟩
theorem b_rest(h:bBl toks e r k out st o)(hn:o=0\/(bK toks k).kind≠3\/(bK toks k).word≠[41]):k<=toks.length/\ ∃f,toks.length+1<=f+k/\bHr toks e (oL toks e f) o k out st=r:=by
 obtain⟨c,f,hf,h⟩:=h;refine⟨c,f,hf,?_⟩
 cases o with
 |zero=>exact h
 |succ o=>
  rw[vQ,if_neg (by
   rintro⟨a,b⟩
   rcases hn with hn|hn|hn
   .omega
   .exact hn a
   .exact hn b)]at h
  exact h
theorem r_open(h:bBl toks e r k out st o)(h4:(bK toks k).kind=4)(ho:0<o):r=([],(atP toks k e,42)):=by obtain⟨_,f,_,h⟩:=b_rest h (.inr (.inl (by rw[h4];decide)));rw[bHr,if_pos h4,if_pos ho]at h;exact h.symm
theorem r_end(h:bBl toks e r k out st o)(h4:(bK toks k).kind=4)(ho: ¬0<o):r=(out++(pW st).1,(0,0)):=by obtain⟨_,f,_,h⟩:=b_rest h (.inr (.inl (by rw[h4];decide)));rw[bHr,if_pos h4,if_neg ho]at h;exact h.symm
theorem wM(h:bBl toks e r k out st o)(hn:o=0\/(bK toks k).kind≠3\/(bK toks k).word≠[41])(h4:(bK toks k).kind≠4)(hm:(bK toks k).kind=2\/nH (bK toks k).word=false):r=([],(atP toks k e,46)):=by obtain⟨_,f,_,h⟩:=b_rest h hn;rw[bHr,if_neg h4,if_pos hm]at h;exact h.symm
theorem tM(h:bBl toks e r k out st o)(hn:o=0\/(bK toks k).kind≠3\/(bK toks k).word≠[41])(h4:(bK toks k).kind≠4)(h2:(bK toks k).kind≠2)(hv:nH (bK toks k).word=true):
  (nT (bM toks k e true).Y=true->bIt toks e r (bM toks k e true).next out (some (bM toks k e true).it::st) o)/\(nT (bM toks k e true).Y=false->r=([],(bM toks k e true).Y)):=by
 obtain⟨_,f,hf,h⟩:=b_rest h hn;have a:=kV h4;rw[bHr,if_neg h4,if_neg (by rw[hv];simp[h2])]at h;have:=dY toks k e true;refine⟨λhi=>?_,λhi=>?_⟩
 .rw[if_pos hi]at h;exact⟨bDf a,f,m0,h⟩
 .rw[if_neg ak3]at h;exact h.symm
end
end
section
open Go.RowKit Go.Proofs.Tryz
def bNi (it:ItemV):Fact:=bNh.sl (.slice it.nums.I it.nums.A.length it.nums.cap) it.nums.A
def nN (l:List ItemV):Fact:=Fact.each l bNi
def tnF (st:List oB):Fact:=Fact.each st λo=>match o with
 |none=>Fact.true
 |some x=>bNi x.2
section
variable {F : List Fact} {b : Nat} {it : ItemV} {o : oB} {l : List ItemV} {st : List oB}
theorem tn_none(h:Has F (tnF st)):Has F (tnF (none::st)):=Has.each_cons Has.true h
theorem zN(h:Has F (tnF st))(hx:Has F (bNi it)):Has F (tnF (some (b,it)::st)):=Has.each_cons hx h
theorem bNl(h:Has F (tnF (o::st))):Has F (tnF st):=Has.each_tail h
theorem bOp(h:Has F (nN l))(hx:Has F (bNi it)):Has F (nN (l++[it])):=Has.each_snoc h hx
theorem xQ(hn:Has F (nN l))(h:Has F (tnF st)):Has F (nN (l++(finP st).1)):=by
 induction st generalizing l with
 |nil=>rw[finP,F9];exact hn
 |cons o st ih=>
  cases o with
  |none=>rw[finP,F9];exact hn
  |some x=>
   have:=ih (bOp hn (λS w k=>h S w k (some x) (E8 ..))) (bNl h);rw[List.append_assoc]at this;exact this
theorem bJp(h:Has F (tnF st)):Has F (tnF (finP st).2):=by
 induction st with
 |nil=>exact h
 |cons o st ih=>
  cases o with
  |none=>exact h
  |some x=>exact ih (bNl h)
end
section
variable {toks : List TokV} {e : Int} {r : zY} {k o : Nat} {out : List ItemV} {st s2 : List oB}
theorem b_num{s:Stk}(h:bIt toks e r k (out.map ItemV.it) s o)(h2:(bK toks k).kind=2){j:Nat}{cur:List Int}{C:Option Addr}{c:Nat}(hj:j=k+cur.length)(hc:iM toks k=cur):
  bBl toks e r j ((out++[(⟨1,(bK toks k).at_,0,[],⟨C,c,cur⟩⟩:ItemV)]).map ItemV.it) s o:=by have:=e_num h h2;subst hc;subst hj;rw[L2];exact this
theorem b_name{s:Stk}(h:bIt toks e r k (out.map ItemV.it) s o)(h1:(bK toks k).kind=1)(hn:dQ (bK toks k).word=true):
  bBl toks e r (k+1) ((out++[(⟨2,(bK toks k).at_,0,(bK toks k).word,⟨none,0,[]⟩⟩:ItemV)]).map ItemV.it) s o:=by rw[L2];exact e_name h h1 hn
theorem b_closed(h:bBl toks e r k (out.map ItemV.it) (bEj st) o)(ho:0<o)(h3:(bK toks k).kind=3)(hw:(bK toks k).word=[41])(hs:(finP st).2=none::s2):
  bBl toks e r (k+1) ((out++(finP st).1).map ItemV.it) (bEj s2) (o-1):=by have h1:=b_close h ho h3 hw;rw[<-(bCn st).2,hs]at h1;rw[L2,(bCn st).1];exact h1
theorem bNj(h:bBl toks e r k (out.map ItemV.it) (bEj st) o)(h4:(bK toks k).kind=4)(ho: ¬0<o):r=((out++(finP st).1).map ItemV.it,(0,0)):=by rw[L2,(bCn st).1];exact r_end h h4 ho
end
theorem xS(z0:Int)(z1:Int)(s3:ByteArray):prog.built 62 [(0,k9 z0),(1,k9 z1),(3,.string s3)]=some #[k9 z0,k9 z1,l5 0,.string s3,.slice none 0 0]:=m7
set_option maxHeartbeats 1000000 in
theorem bXn(bl:Nat)(A:Option Addr)(c:Nat)(toks:List TokV)(k0:Nat)(e:Int)(hk:k0<=toks.length)(hl:toks.length<=1000)(hw: ∀k,(bK toks k).word.length<=65536):cY prog 87 [.pointer (some ⟨bl,0,none⟩)] [.obj bl (.cells [.slice A toks.length c,k9 (k0:Nat),k9 e].toArray 108)] [nJ.sl (.slice A toks.length c) toks,jY] (λ(x:Option Addr×Nat×List ItemV×Nat)=> .tuple #[.slice x.1 x.2.2.1.length x.2.1,.agg #[k9 (uR toks e k0).2.1,k9 (uR toks e k0).2.2]]) (λ(x:Option Addr×Nat×List ItemV×Nat)=>[.obj bl (.cells [.slice A toks.length c,k9 (x.2.2.2:Nat),k9 e].toArray 108)]) (λ(x:Option Addr×Nat×List ItemV×Nat)=>[mM.sl (.slice x.1 x.2.2.1.length x.2.1) x.2.2.1,nN x.2.2.1,Fact.pure (x.2.2.1.map ItemV.it=(uR toks e k0).1)]):=by
 have hT:=gH;have K:=e_start (e:=e) hk;generalize uR toks e k0=r at K⊢;refine j8 func87 ntmps87 ?_;intro β hM;refine g2 ?_;refine j6 λJ=>?_;refine one ?_;refine j4 bEm λb2=>?_;refine g4 ?_;refine j4 itemZ λb4=>?_;refine g4 ?_;refine j4 funcZ λv=>?_;refine g20 ?_;refine bQ (t:=62) mM<|bQ (t:=1) (fnE b4)<|bB (nN []) (Has.each_nil)<|bB (tnF []) (Has.each_nil)<|bB (oF []) (todo_nil) ?_;refine cI (ι:=Nat×Nat×List ItemV×List oB×Option Addr×Nat×Option Addr×Nat) [(1,_),(3,_),(4,_),(5,_),(7,_),(8,_)] ⟨rfl,rfl,rfl,rfl,rfl,rfl,j1⟩ (λ⟨k,o,out,st,C,e1,D,f⟩=>[(6,.int .i64 (o:Nat))]) (λ⟨k,o,out,st,C,e1,D,f⟩=>[.obj bl (.cells [.slice A toks.length c,.int .i64 (k:Nat),.int .i64 e].toArray 108),.obj b4 (.cells [.slice C out.length e1].toArray 56),mM.row (.slice C out.length e1) 62 out,.obj v (.cells [.slice D st.reverse.length f].toArray 172),(fnE b4).row (.slice D st.reverse.length f) 1 st.reverse]) (λ⟨k,o,out,st,C,e1,D,f⟩=>[Fact.pure (bIt toks e r k (out.map ItemV.it) (bEj st) o/\opens st=o/\o<=32/\out.length+st.length<=k/\k<=toks.length),oF st,tnF st,nN out]) (λ⟨k,o,out,st,C,e1,D,f⟩=>toks.length-k) (k0,0,[],[],none,0,none,0) ⟨rfl,j1⟩ (.c6 (.c3 (.c1 (.c1 (.c0 .nil))))) ⟨j2 (⟨K,rfl,m0,n9,hk⟩),d7,d8,d9,j1⟩ ?_;rintro⟨k,o,out,st,C,e1,D,f⟩;dsimp only;refine bG d7 λd=>?_;refine g4 ?_;refine bC func83 (jS bl A c toks (k) e) rfl rfl (.c0 .nil) ⟨f4,j1⟩ λ_=>?_;refine j4 bBt λQ=>?_;refine g11 ?_;refine xJ (λhg23=>?_) λhg23=>?_
 .refine g5 ?_;refine xJ (λhg28=>?_) λhg28=>?_
  .refine g2 ?_;refine bC func119 (qT _) rfl rfl .nil j1 λ_=>?_;refine g4 ?_;refine fT (λhc19=>?_) λhc19=>?_
   .refine g4 ?_;refine iS (cB func121 rfl rfl) (laterF_spec bl A c toks (k) e J v b4 _ _ st m0 m0) rfl rfl rfl rfl rfl rfl rfl (.c1 (.c6 (.c3 (.c3 .nil)))) ⟨f4,d8,j1⟩ λ⟨⟨A4,c5⟩,b6⟩=>?_;refine bB (tnF (some (b6,(tU (bM toks (k) e false)))::st)) (zN e6 dV) ?_;refine j4 bEm λb7=>?_;refine g6 ?_;refine ss (j7 (bAp)) ?_;refine ss (gG ⟨(bM toks (k) e false).Y.1,(bM toks (k) e false).Y.2⟩ ⟨0,0⟩ rfl rfl rfl) ?_;refine g2 ?_;refine iK (λB=>?_) λB=>?_
    .refine bP<|cK _ _ [k8,u0,A05] cN o8 (.c0 (.c0 (.c0 (.c0 (.c0 (.c0 (.c0 (.c0 .nil)))))))) bA.self ?_;refine g14 ?_;obtain rfl:=(e_verb d.1 ‹_› ‹_› ‹_›).2 B;exact rs2 (none,0,[],_) ⟨dV,Has.each_nil,j2 rfl,j1⟩
    have he:=(e_verb d.1 ‹_› ‹_› ‹_›).1 B;refine g7 ?_;exact dR ((bM toks (k) e false).next,o,out,(some (b6,(tU (bM toks (k) e false)))::st),_,_,_,_) w8 ⟨rfl,j1⟩ ⟨rfl,rfl,rfl,rfl,rfl,rfl,j1⟩ (.c1 (.c5 (.c5 (.c2 (.c2 (.c3 (.c1 .nil))))))) ⟨j2 (⟨he,d.2.1,d.2.2.1,by have:=dY toks k e false;first|omega|(simp;omega),he.1⟩),d8,d7,e8,j1⟩ (bA.drop 6)
   refine g6 ?_;refine rE (λhg43=>?_) λhg43=>?_
   .refine g7 ?_;refine fT (λu=>?_) λu=>?_
    .have u:(bK toks (k)).word=([40]:Bs):=eq_of_beq u;refine g7 ?_;refine gJ (λM=>?_) λM=>?_
     .refine g3 ?_;refine bC func84 (cR bl A c toks (k) e _) rfl rfl (.c1 .nil) ⟨f4,j1⟩ λ_=>?_;refine g11 ?_;have hr:=(e_open d.1 ‹_› ‹_›).2 m0;subst hr;exact rs2 (none,0,[],_) ⟨dV,Has.each_nil,j2 rfl,j1⟩
     have he:=(e_open d.1 ‹_› ‹_›).1 m0;refine g6 ?_;refine inc (o+1) ?_;refine g10 ?_;refine inc (k+1) ?_;refine g8 ?_;refine bLc (b4:=b4) (m:=(none:oB)) rfl rfl rfl rfl rfl λb8=>?_;refine bKb kT6 (bT .head rfl) rfl rfl rfl rfl rfl rfl rfl ag5 λA9 X=>?_;rw[<-L1];refine bB (oF (none::st)) (todo_none d8)<|bB (tnF (none::st)) (tn_none e6) ?_;refine g8 ?_;exact dR ((k+1),(o+1),out,(none::st),_,_,_,_) w8 ⟨rfl,j1⟩ ⟨rfl,rfl,rfl,rfl,rfl,rfl,j1⟩ (.c3 (.c4 (.c4 (.c0 (.c0 (.c2 (.c2 .nil))))))) ⟨j2 (⟨he,by show opens st+1=_;rw[d.2.1],by dsimp only;omega,by first|omega|(simp;omega),he.1⟩),d8,d7,e8,j1⟩ (bA.drop 6)
    have u:(bK toks (k)).word≠([40]:Bs):=λh=>absurd (beq_iff_eq.2 h) (by rw[show((bK toks (k)).word==([40]:Bs))=false from u];simp);refine g5 ?_;refine bF (t':=false) (by rw[hg43];rfl) ?_;refine g9 ?_;refine bF (t':=false) (by rw[hg43];rfl) ?_;refine g14 ?_;refine bF (t':=false) (by rw[hg43];rfl) ?_;refine g7 ?_;refine bC func84 (cR bl A c toks (k) e _) rfl rfl (.c1 .nil) ⟨f4,j1⟩ λ_=>?_;refine g10 ?_;have hr:=e_want d.1 m0 m0 o5 ab0;subst hr;exact rs2 (none,0,[],_) ⟨dV,Has.each_nil,j2 rfl,j1⟩
   refine g13 ?_;refine bF (t':=false) (beq_eq_false_iff_ne.2 hg23) ?_;refine g10 ?_;refine rE (λz=>?_) λz=>?_
   .refine g2 ?_;refine bC func86 (oS _ (by have:=hw k;omega)) rfl rfl .nil ⟨f5,j1⟩ λ_=>?_;refine g4 ?_;refine fT (λL=>?_) λL=>?_
    .refine bP ?_;have E:=b_name d.1 ‹_› ‹_›;refine g6 ?_;refine ss (j7 (xS _ _ _)) ?_;refine bAo (m:=(⟨2,(bK toks k).at_,0,(bK toks k).word,⟨none,0,[]⟩⟩:ItemV)) rfl rfl rfl rfl rfl λb11=>?_;refine bAw kT4 (bT .head rfl) rfl rfl rfl rfl rfl rfl rfl ab1 λA12 W=>?_;refine bB (nN (out++[(⟨2,(bK toks k).at_,0,(bK toks k).word,⟨none,0,[]⟩⟩:ItemV)])) (bOp e6 dV) ?_;refine g9 ?_;refine inc (k+1) ?_;refine g10 ?_;refine bC func83 (jS bl A c toks ((k+1)) e) rfl rfl (.c0 .nil) ⟨f5,j1⟩ λ_=>?_;refine g4 ?_
     obtain⟨I,O⟩: ∃I,I=k:=⟨_,rfl⟩
     refine cI (ι:=Nat×Nat×List ItemV×List oB×Option Addr×Nat×Option Addr×Nat) [(1,_),(3,_),(4,_),(5,_),(7,_),(8,_),(9,_),(24,_),(25,_),(26,_),(29,_),(30,_),(31,_),(44,_),(45,_),(46,_),(99,_),(100,_),(101,_)] ⟨rfl,rfl,rfl,rfl,rfl,rfl,rfl,rfl,rfl,rfl,rfl,rfl,rfl,rfl,rfl,rfl,rfl,rfl,rfl,j1⟩ (λ⟨k,o,out,st,C,e1,D,f⟩=>[(6,.int .i64 (o:Nat))]) (λ⟨k,o,out,st,C,e1,D,f⟩=>[.obj bl (.cells [.slice A toks.length c,.int .i64 (k:Nat),.int .i64 e].toArray 108),.obj b4 (.cells [.slice C out.length e1].toArray 56),mM.row (.slice C out.length e1) 62 out,.obj v (.cells [.slice D st.reverse.length f].toArray 172),(fnE b4).row (.slice D st.reverse.length f) 1 st.reverse,.obj Q (.cells [.int .i64 (bK toks k).kind,.int .i64 (bK toks k).at_,.string (bs (bK toks k).word),.int .i64 (bK toks k).n].toArray 110)]) (λ⟨k,o,out,st,C,e1,D,f⟩=>[Fact.pure (bBl toks e r k (out.map ItemV.it) (bEj st) o/\opens st=o/\o<=32/\out.length+st.length<=k/\k<=toks.length/\I<k),oF st,tnF st,nN out]) (λ⟨k,o,out,st,C,e1,D,f⟩=>toks.length-k) ((k+1),o,(out++[(⟨2,(bK toks k).at_,0,(bK toks k).word,⟨none,0,[]⟩⟩:ItemV)]),st,_,_,_,_) ⟨rfl,j1⟩ (.c1 (.c1 (.c1 (.c2 (.c2 (.c0 .nil)))))) ⟨j2 (⟨E,d.2.1,d.2.2.1,by first|omega|(simp;omega),E.1,m0⟩),d9,e6,d7,j1⟩ ?_;rintro⟨k,o,out,st,C,e1,D,f⟩;dsimp only;refine bG d7 λa=>?_;refine g6 ?_;refine lK (λw=>?_) λw=>?_
     .refine g5 ?_;refine rE (λhg133=>?_) λhg133=>?_
      .refine g6 ?_;refine fT (λhc137=>?_) λhc137=>?_
       .have hc137:(bK toks k).word=([41]:Bs):=eq_of_beq hc137;refine g7 ?_;refine iS (cB func120 rfl rfl) (qR v b4 _ _ st _ _ out m0) rfl rfl rfl rfl rfl rfl rfl (.c3 (.c3 (.c1 (.c1 .nil)))) ⟨d8,j1⟩ λ⟨⟨D14,f15⟩,⟨C16,e17⟩⟩=>?_;refine bB (nN (out++(finP st).1)) (xQ e7 e6)<|bB (tnF (finP st).2) (bJp e7) ?_;have q:=zM st;obtain⟨s2,y,N⟩:=fin_open (st:=st) m0;have hb2:=b_closed a.1 m0 ‹_› ‹_› y;rw[y]at q⊢;simp only[F5]at q;refine bB (oF s2) (bJj d9)<|bB (tnF s2) (bNl d8) ?_;refine g7 ?_;refine bJ (z':=(((s2.length+1):Nat):Int)) (congrArg L6 (mF _ s2)) ?_;refine one ?_;refine inc ((s2.length+1)-1) ?_;refine jA hT (k:=((s2.length+1)-1)) kT1 rfl rfl rfl rfl rfl rfl rfl rfl rfl al2 ?_;rw[bKu];refine g7 ?_;refine inc (o-1) ?_;refine g9 ?_;refine inc (k+1) ?_;refine g8 ?_;refine bC func83 (jS bl A c toks ((k+1)) e) rfl rfl (.c0 .nil) ⟨Has.of (u8 (u8 mT1)),j1⟩ λ_=>?_;refine g3 ?_;exact dR ((k+1),(o-1),(out++(finP st).1),s2,_,_,_,_) (by have:=hb2.1;dsimp only;omega) ⟨rfl,j1⟩ ⟨rfl,rfl,rfl,rfl,rfl,rfl,rfl,rfl,rfl,rfl,rfl,rfl,rfl,rfl,rfl,rfl,rfl,rfl,rfl,j1⟩ (.c1 (.c3 (.c3 (.c1 (.c1 (.c0 (.c0 (.c0 (.c0 .nil))))))))) ⟨j2 (⟨hb2,by dsimp only;omega,by dsimp only;omega,by first|omega|(simp;omega),hb2.1,by dsimp only;omega⟩),d8,d7,e6,j1⟩ (bA.drop 9)
       have hc137:(bK toks k).word≠([41]:Bs):=λh=>absurd (beq_iff_eq.2 h) aj4;refine g12 ?_;refine bF (t':=false) ak8 ?_;refine g13 ?_;refine bF (t':=false) ak8 ?_;refine g9 ?_;refine bF (t':=false) ak8 ?_;refine g3 ?_;refine bC func119 (qT _) rfl rfl .nil j1 λ_=>?_;refine g5 ?_;refine iK (λg=>?_) λg=>?_
       .refine g3 ?_;refine bC func84 (cR bl A c toks (k) e _) rfl rfl (.c0 .nil) ⟨i7,j1⟩ λ_=>?_;refine g10 ?_;have hr:=wM a.1 p7 m0 ab0;subst hr;exact rs2 (none,0,[],_) ⟨dV,Has.each_nil,j2 rfl,j1⟩
       refine g6 ?_;refine iS (cB func121 rfl rfl) (qP bl A c toks (k) e J v b4 _ _ st m0 m0) rfl rfl rfl rfl rfl rfl rfl (.c0 (.c7 (.c2 (.c2 .nil)))) ⟨i7,d8,j1⟩ λ⟨⟨A18,c19⟩,b20⟩=>?_;refine bB (tnF (some (b20,(tU (bM toks (k) e true)))::st)) (zN e6 dV) ?_;refine j4 bEm λb21=>?_;refine g6 ?_;refine ss (j7 (bAp)) ?_;refine ss (gG ⟨(bM toks (k) e true).Y.1,(bM toks (k) e true).Y.2⟩ ⟨0,0⟩ rfl rfl rfl) ?_;refine g2 ?_;refine iK (λb=>?_) λb=>?_
       .refine bP<|cK _ _ [k8,u0,A05] cN o8 (.c0 (.c0 (.c0 (.c0 (.c0 (.c0 (.c0 (.c0 (.c0 .nil))))))))) bA.self ?_;refine g11 ?_;have hr:=(tM a.1 p7 m0 m0 ‹_›).2 b;subst hr;exact rs2 (none,0,[],_) ⟨dV,Has.each_nil,j2 rfl,j1⟩
       have he:=(tM a.1 p7 m0 m0 ‹_›).1 b;refine g3 ?_;exact dR ((bM toks (k) e true).next,o,out,(some (b20,(tU (bM toks (k) e true)))::st),_,_,_,_) w8 ⟨rfl,j1⟩ ⟨rfl,rfl,rfl,rfl,rfl,rfl,j1⟩ (.c1 (.c4 (.c4 (.c2 (.c2 (.c4 (.c1 .nil))))))) ⟨j2 (⟨he,a.2.1,a.2.2.1,by have:=dY toks k e true;first|omega|(simp;omega),he.1⟩),d8,d7,e8,j1⟩ (bA.drop 11)
      refine g20 ?_;refine rE (λhg160=>?_) λhg160=>?_
      .refine g6 ?_;refine fA (λl=>?_) λl=>?_
       .refine g3 ?_;refine bC func84 (cR bl A c toks (k) e _) rfl rfl (.c0 .nil) ⟨i7,j1⟩ λ_=>?_;refine g10 ?_;have hr:=r_open a.1 ‹_› m0;subst hr;exact rs2 (none,0,[],_) ⟨dV,Has.each_nil,j2 rfl,j1⟩
       refine g5 ?_;refine bF (t':=true) am9 ?_;refine g7 ?_;refine iS (cB func120 rfl rfl) (qR v b4 _ _ st _ _ out m0) rfl rfl rfl rfl rfl rfl rfl (.c3 (.c3 (.c1 (.c1 .nil)))) ⟨d8,j1⟩ λ⟨⟨D22,f23⟩,⟨C24,e25⟩⟩=>?_;refine bB (nN (out++(finP st).1)) (xQ e7 e6)<|bB (tnF (finP st).2) (bJp e7) ?_;have q:=zM st;refine g5 ?_;refine ss (j7 (bAp)) ?_;refine g10 ?_;have hr:=bNj a.1 ‹_› m0;subst hr;refine bS kT4 ?_;exact rs2 (_,_,(out++(finP st).1),_) ⟨d7,d9,j2 rfl,j1⟩
      refine g12 ?_;refine bF (t':=false) (beq_eq_false_iff_ne.2 hg160) ?_;refine g10 ?_;refine rE (λi=>?_) λi=>?_
      .refine g12 ?_;refine bC func84 (cR bl A c toks (k) e _) rfl rfl (.c0 .nil) ⟨i7,j1⟩ λ_=>?_;refine g10 ?_;have hr:=wM a.1 p7 m0 ab0;subst hr;exact rs2 (none,0,[],_) ⟨dV,Has.each_nil,j2 rfl,j1⟩
      refine g2 ?_;refine bC func119 (qT _) rfl rfl .nil j1 λ_=>?_;refine g5 ?_;refine iK (λg=>?_) λg=>?_
      .refine g3 ?_;refine bC func84 (cR bl A c toks (k) e _) rfl rfl (.c0 .nil) ⟨i7,j1⟩ λ_=>?_;refine g10 ?_;have hr:=wM a.1 p7 m0 ab0;subst hr;exact rs2 (none,0,[],_) ⟨dV,Has.each_nil,j2 rfl,j1⟩
      refine g6 ?_;refine iS (cB func121 rfl rfl) (qP bl A c toks (k) e J v b4 _ _ st m0 m0) rfl rfl rfl rfl rfl rfl rfl (.c0 (.c7 (.c2 (.c2 .nil)))) ⟨i7,d8,j1⟩ λ⟨⟨A26,c27⟩,b28⟩=>?_;refine bB (tnF (some (b28,(tU (bM toks (k) e true)))::st)) (zN e6 dV) ?_;refine j4 bEm λb29=>?_;refine g6 ?_;refine ss (j7 (bAp)) ?_;refine ss (gG ⟨(bM toks (k) e true).Y.1,(bM toks (k) e true).Y.2⟩ ⟨0,0⟩ rfl rfl rfl) ?_;refine g2 ?_;refine iK (λb=>?_) λb=>?_
      .refine bP<|cK _ _ [k8,u0,A05] cN o8 (.c0 (.c0 (.c0 (.c0 (.c0 (.c0 (.c0 (.c0 (.c0 .nil))))))))) bA.self ?_;refine g11 ?_;have hr:=(tM a.1 p7 m0 m0 ‹_›).2 b;subst hr;exact rs2 (none,0,[],_) ⟨dV,Has.each_nil,j2 rfl,j1⟩
      have he:=(tM a.1 p7 m0 m0 ‹_›).1 b;refine g3 ?_;exact dR ((bM toks (k) e true).next,o,out,(some (b28,(tU (bM toks (k) e true)))::st),_,_,_,_) w8 ⟨rfl,j1⟩ ⟨rfl,rfl,rfl,rfl,rfl,rfl,j1⟩ (.c1 (.c4 (.c4 (.c2 (.c2 (.c4 (.c1 .nil))))))) ⟨j2 (⟨he,a.2.1,a.2.2.1,by have:=dY toks k e true;first|omega|(simp;omega),he.1⟩),d8,d7,e8,j1⟩ (bA.drop 11)
     refine g25 ?_;refine rE (λhg160=>?_) λhg160=>?_
     .refine g6 ?_;refine fA (λl=>?_) λl=>?_
      .refine g3 ?_;refine bC func84 (cR bl A c toks (k) e _) rfl rfl (.c0 .nil) ⟨i7,j1⟩ λ_=>?_;refine g10 ?_;have hr:=r_open a.1 ‹_› m0;subst hr;exact rs2 (none,0,[],_) ⟨dV,Has.each_nil,j2 rfl,j1⟩
      refine g5 ?_;refine bF (t':=true) am9 ?_;refine g7 ?_;refine iS (cB func120 rfl rfl) (qR v b4 _ _ st _ _ out m0) rfl rfl rfl rfl rfl rfl rfl (.c3 (.c3 (.c1 (.c1 .nil)))) ⟨d8,j1⟩ λ⟨⟨D30,f31⟩,⟨C32,e33⟩⟩=>?_;refine bB (nN (out++(finP st).1)) (xQ e7 e6)<|bB (tnF (finP st).2) (bJp e7) ?_;have q:=zM st;refine g5 ?_;refine ss (j7 (bAp)) ?_;refine g10 ?_;have hr:=bNj a.1 ‹_› m0;subst hr;refine bS kT4 ?_;exact rs2 (_,_,(out++(finP st).1),_) ⟨d7,d9,j2 rfl,j1⟩
     refine g12 ?_;refine bF (t':=false) (beq_eq_false_iff_ne.2 hg160) ?_;refine g10 ?_;refine rE (λi=>?_) λi=>?_
     .refine g12 ?_;refine bC func84 (cR bl A c toks (k) e _) rfl rfl (.c0 .nil) ⟨i7,j1⟩ λ_=>?_;refine g10 ?_;have hr:=wM a.1 p7 m0 ab0;subst hr;exact rs2 (none,0,[],_) ⟨dV,Has.each_nil,j2 rfl,j1⟩
     refine g2 ?_;refine bC func119 (qT _) rfl rfl .nil j1 λ_=>?_;refine g5 ?_;refine iK (λg=>?_) λg=>?_
     .refine g3 ?_;refine bC func84 (cR bl A c toks (k) e _) rfl rfl (.c0 .nil) ⟨i7,j1⟩ λ_=>?_;refine g10 ?_;have hr:=wM a.1 p7 m0 ab0;subst hr;exact rs2 (none,0,[],_) ⟨dV,Has.each_nil,j2 rfl,j1⟩
     refine g6 ?_;refine iS (cB func121 rfl rfl) (qP bl A c toks (k) e J v b4 _ _ st m0 m0) rfl rfl rfl rfl rfl rfl rfl (.c0 (.c7 (.c2 (.c2 .nil)))) ⟨i7,d8,j1⟩ λ⟨⟨A34,c35⟩,b36⟩=>?_;refine bB (tnF (some (b36,(tU (bM toks (k) e true)))::st)) (zN e6 dV) ?_;refine j4 bEm λb37=>?_;refine g6 ?_;refine ss (j7 (bAp)) ?_;refine ss (gG ⟨(bM toks (k) e true).Y.1,(bM toks (k) e true).Y.2⟩ ⟨0,0⟩ rfl rfl rfl) ?_;refine g2 ?_;refine iK (λb=>?_) λb=>?_
     .refine bP<|cK _ _ [k8,u0,A05] cN o8 (.c0 (.c0 (.c0 (.c0 (.c0 (.c0 (.c0 (.c0 (.c0 .nil))))))))) bA.self ?_;refine g11 ?_;have hr:=(tM a.1 p7 m0 m0 ‹_›).2 b;subst hr;exact rs2 (none,0,[],_) ⟨dV,Has.each_nil,j2 rfl,j1⟩
     have he:=(tM a.1 p7 m0 m0 ‹_›).1 b;refine g3 ?_;exact dR ((bM toks (k) e true).next,o,out,(some (b36,(tU (bM toks (k) e true)))::st),_,_,_,_) w8 ⟨rfl,j1⟩ ⟨rfl,rfl,rfl,rfl,rfl,rfl,j1⟩ (.c1 (.c4 (.c4 (.c2 (.c2 (.c4 (.c1 .nil))))))) ⟨j2 (⟨he,a.2.1,a.2.2.1,by have:=dY toks k e true;first|omega|(simp;omega),he.1⟩),d8,d7,e8,j1⟩ (bA.drop 11)
    refine g5 ?_;refine bF (t':=true) (by rw[z];rfl) ?_;refine g7 ?_;refine bC func84 (cR bl A c toks (k) e _) rfl rfl (.c1 .nil) ⟨f4,j1⟩ λ_=>?_;refine g10 ?_;obtain rfl:=e_word d.1 ‹_› ‹_› ‹_›;exact rs2 (none,0,[],_) ⟨dV,Has.each_nil,j2 rfl,j1⟩
   refine g13 ?_;refine bF (t':=false) (beq_eq_false_iff_ne.2 z) ?_;refine g7 ?_;refine bC func84 (cR bl A c toks (k) e _) rfl rfl (.c1 .nil) ⟨f4,j1⟩ λ_=>?_;refine g10 ?_;have hr:=e_want d.1 m0 m0 o5 ab0;subst hr;exact rs2 (none,0,[],_) ⟨dV,Has.each_nil,j2 rfl,j1⟩
  refine g13 ?_;refine bF (t':=false) (by rw[hg28];rfl) ?_;refine g14 ?_;refine bF (t':=false) (by rw[hg28];rfl) ?_;refine g9 ?_;refine bF (t':=false) (by rw[hg28];rfl) ?_;refine g14 ?_;refine bF (t':=false) (by rw[hg28];rfl) ?_;refine g7 ?_;refine bC func84 (cR bl A c toks (k) e _) rfl rfl (.c1 .nil) ⟨f4,j1⟩ λ_=>?_;refine g10 ?_;have hr:=e_want d.1 m0 m0 o5 ab0;subst hr;exact rs2 (none,0,[],_) ⟨dV,Has.each_nil,j2 rfl,j1⟩
 refine g18 ?_;refine bF (t':=false) (by rw[hg23];rfl) ?_;refine g14 ?_;refine bF (t':=true) (by rw[hg23];rfl) ?_;refine g8 ?_;refine ss (j7 (tC _ _)) ?_;refine j4 oY λP=>?_;refine g5 ?_;refine bQ (t:=2) bNh ?_;refine cI (ι:=Nat×List Int×Option Addr×Nat) [(1,_),(3,_),(4,_),(5,_),(6,_),(7,_),(8,_),(9,_),(11,_),(24,_),(25,_),(26,_),(29,_),(30,_),(31,_),(44,_),(45,_),(46,_)] ⟨rfl,rfl,rfl,rfl,rfl,rfl,rfl,rfl,rfl,rfl,rfl,rfl,rfl,rfl,rfl,rfl,rfl,rfl,j1⟩ (λ_=>[]) (λ⟨j,cur,C2,e2⟩=>[.obj bl (.cells [.slice A toks.length c,.int .i64 (j:Nat),.int .i64 e].toArray 108),.obj P (.cells [.int .i64 1,.int .i64 (bK toks k).at_,.int .u8 0,.string (bs []),.slice C2 cur.length e2].toArray 62),bNh.row (.slice C2 cur.length e2) 2 cur]) (λ⟨j,cur,C2,e2⟩=>[Fact.pure (iM toks k=cur++iM toks j/\j=k+cur.length/\j<=toks.length)]) (λ⟨j,cur,C2,e2⟩=>toks.length-j) (k,[],none,0) j1 (.c3 (.c1 (.c0 .nil))) ⟨j2 (⟨rfl,rfl,d.2.2.2.2⟩),j1⟩ ?_;rintro⟨j,cur,C2,e2⟩;dsimp only;refine bG d7 λp=>?_;refine g4 ?_;refine bC func83 (jS bl A c toks (j) e) rfl rfl (.c0 .nil) ⟨f5,j1⟩ λ_=>?_;refine g4 ?_;refine gJ (λs=>?_) λs=>?_
 .refine g4 ?_;refine wB 8 _ _ [k8,u0,u5,A06,A00,(false,5),A17,A01] cN o8 (.c0 (.c0 (.c1 (.c1 (.c1 (.c1 (.c1 (.c1 (.c1 .nil))))))))) bA.self ?_;refine g4 ?_;refine bC func83 (jS bl A c toks (j) e) rfl rfl (.c0 .nil) ⟨f5,j1⟩ λ_=>?_;refine g3 ?_;refine at_one_int (m:=(bK toks (j)).n) rfl rfl rfl rfl rfl λb39=>?_;refine g2 ?_;refine at_app_int kT3 (bT .head rfl) rfl rfl rfl rfl rfl rfl rfl ab1 λA40 V=>?_;refine g13 ?_;refine inc (j+1) ?_;refine g5 ?_;exact dR (j+1,_,_,_) (by have:=kV (toks:=toks) (k:=j) (by rw[s];decide);dsimp only;omega) j1 ⟨rfl,rfl,rfl,rfl,rfl,rfl,rfl,rfl,rfl,rfl,rfl,rfl,rfl,rfl,rfl,rfl,rfl,rfl,j1⟩ (.c0 (.c0 (.c0 (.c1 (.c1 (.c1 (.c1 (.c1 (.c1 (.c1 .nil)))))))))) ⟨j2 (⟨by rw[p.1,xP s];simp,by simp;omega,kV (by rw[s];decide)⟩),j1⟩ (bA.drop 1)
 refine g5 ?_;have G:iM toks k=cur:=by rw[p.1,nums_end s,F9]
 have E:=b_num (C:=C2) (c:=e2) d.1 ‹_› p.2.1 G;have R:1<=cur.length:=by rw[<-G,xP ‹_›];simp
 refine bS kT2 ?_;refine g3 ?_;refine bAo (m:=(⟨1,(bK toks k).at_,0,[],⟨C2,e2,cur⟩⟩:ItemV)) rfl rfl rfl rfl rfl λb42=>?_;refine bAw kT5 (bT .head rfl) rfl rfl rfl rfl rfl rfl rfl ab1 λA43 U=>?_;refine bB (nN (out++[(⟨1,(bK toks k).at_,0,[],⟨C2,e2,cur⟩⟩:ItemV)])) (bOp e8 d7) ?_;refine g8 ?_;refine bC func83 (jS bl A c toks (j) e) rfl rfl (.c3 .nil) ⟨f9,j1⟩ λ_=>?_;refine g4 ?_
 obtain⟨I,O⟩: ∃I,I=k:=⟨_,rfl⟩
 refine cI (ι:=Nat×Nat×List ItemV×List oB×Option Addr×Nat×Option Addr×Nat) [(1,_),(3,_),(4,_),(5,_),(7,_),(8,_),(9,_),(24,_),(25,_),(26,_),(29,_),(30,_),(31,_),(44,_),(45,_),(46,_)] ⟨rfl,rfl,rfl,rfl,rfl,rfl,rfl,rfl,rfl,rfl,rfl,rfl,rfl,rfl,rfl,rfl,j1⟩ (λ⟨k,o,out,st,C,e1,D,f⟩=>[(6,.int .i64 (o:Nat))]) (λ⟨k,o,out,st,C,e1,D,f⟩=>[.obj bl (.cells [.slice A toks.length c,.int .i64 (k:Nat),.int .i64 e].toArray 108),.obj b4 (.cells [.slice C out.length e1].toArray 56),mM.row (.slice C out.length e1) 62 out,.obj v (.cells [.slice D st.reverse.length f].toArray 172),(fnE b4).row (.slice D st.reverse.length f) 1 st.reverse,.obj Q (.cells [.int .i64 (bK toks k).kind,.int .i64 (bK toks k).at_,.string (bs (bK toks k).word),.int .i64 (bK toks k).n].toArray 110)]) (λ⟨k,o,out,st,C,e1,D,f⟩=>[Fact.pure (bBl toks e r k (out.map ItemV.it) (bEj st) o/\opens st=o/\o<=32/\out.length+st.length<=k/\k<=toks.length/\I<k),oF st,tnF st,nN out]) (λ⟨k,o,out,st,C,e1,D,f⟩=>toks.length-k) (j,o,(out++[(⟨1,(bK toks k).at_,0,[],⟨C2,e2,cur⟩⟩:ItemV)]),st,_,_,_,_) ⟨rfl,j1⟩ (.c1 (.c1 (.c1 (.c3 (.c3 (.c0 .nil)))))) ⟨j2 (⟨E,d.2.1,d.2.2.1,by first|omega|(simp;omega),E.1,m0⟩),e7,e8,d7,j1⟩ ?_;rintro⟨k,o,out,st,C,e1,D,f⟩;dsimp only;refine bG d7 λa=>?_;refine g6 ?_;refine lK (λw=>?_) λw=>?_
 .refine g5 ?_;refine rE (λhg133=>?_) λhg133=>?_
  .refine g6 ?_;refine fT (λhc137=>?_) λhc137=>?_
   .have hc137:(bK toks k).word=([41]:Bs):=eq_of_beq hc137;refine g7 ?_;refine iS (cB func120 rfl rfl) (qR v b4 _ _ st _ _ out m0) rfl rfl rfl rfl rfl rfl rfl (.c3 (.c3 (.c1 (.c1 .nil)))) ⟨d8,j1⟩ λ⟨⟨D45,f46⟩,⟨C47,e48⟩⟩=>?_;refine bB (nN (out++(finP st).1)) (xQ e7 e6)<|bB (tnF (finP st).2) (bJp e7) ?_;have q:=zM st;obtain⟨s2,y,N⟩:=fin_open (st:=st) m0;have hb2:=b_closed a.1 m0 ‹_› ‹_› y;rw[y]at q⊢;simp only[F5]at q;refine bB (oF s2) (bJj d9)<|bB (tnF s2) (bNl d8) ?_;refine g7 ?_;refine bJ (z':=(((s2.length+1):Nat):Int)) (congrArg L6 (mF _ s2)) ?_;refine one ?_;refine inc ((s2.length+1)-1) ?_;refine jA hT (k:=((s2.length+1)-1)) kT1 rfl rfl rfl rfl rfl rfl rfl rfl rfl al2 ?_;rw[bKu];refine g7 ?_;refine inc (o-1) ?_;refine g9 ?_;refine inc (k+1) ?_;refine g8 ?_;refine bC func83 (jS bl A c toks ((k+1)) e) rfl rfl (.c0 .nil) ⟨Has.of (u8 (u8 mT3)),j1⟩ λ_=>?_;refine g3 ?_;exact dR ((k+1),(o-1),(out++(finP st).1),s2,_,_,_,_) (by have:=hb2.1;dsimp only;omega) ⟨rfl,j1⟩ ⟨rfl,rfl,rfl,rfl,rfl,rfl,rfl,rfl,rfl,rfl,rfl,rfl,rfl,rfl,rfl,rfl,j1⟩ (.c1 (.c3 (.c3 (.c1 (.c1 (.c0 (.c0 (.c0 (.c0 (.c0 .nil)))))))))) ⟨j2 (⟨hb2,by dsimp only;omega,by dsimp only;omega,by first|omega|(simp;omega),hb2.1,by dsimp only;omega⟩),d8,d7,e6,j1⟩ (bA.drop 9)
   have hc137:(bK toks k).word≠([41]:Bs):=λh=>absurd (beq_iff_eq.2 h) aj4;refine g12 ?_;refine bF (t':=false) ak8 ?_;refine g13 ?_;refine bF (t':=false) ak8 ?_;refine g9 ?_;refine bF (t':=false) ak8 ?_;refine g3 ?_;refine bC func119 (qT _) rfl rfl .nil j1 λ_=>?_;refine g5 ?_;refine iK (λg=>?_) λg=>?_
   .refine g3 ?_;refine bC func84 (cR bl A c toks (k) e _) rfl rfl (.c0 .nil) ⟨Has.of zA,j1⟩ λ_=>?_;refine g10 ?_;have hr:=wM a.1 p7 m0 ab0;subst hr;exact rs2 (none,0,[],_) ⟨dV,Has.each_nil,j2 rfl,j1⟩
   refine g6 ?_;refine iS (cB func121 rfl rfl) (qP bl A c toks (k) e J v b4 _ _ st m0 m0) rfl rfl rfl rfl rfl rfl rfl (.c0 (.cons kT8 (.c2 (.c2 .nil)))) ⟨(Has.of zA),d8,j1⟩ λ⟨⟨A49,c50⟩,b51⟩=>?_;refine bB (tnF (some (b51,(tU (bM toks (k) e true)))::st)) (zN e6 dV) ?_;refine j4 bEm λb52=>?_;refine g6 ?_;refine ss (j7 (bAp)) ?_;refine ss (gG ⟨(bM toks (k) e true).Y.1,(bM toks (k) e true).Y.2⟩ ⟨0,0⟩ rfl rfl rfl) ?_;refine g2 ?_;refine iK (λb=>?_) λb=>?_
   .refine bP<|cK _ _ [k8,u0,A05] cN o8 (.c0 (.c0 (.c0 (.c0 (.c0 (.c0 (.c0 (.c0 (.c0 (.c0 .nil)))))))))) bA.self ?_;refine g11 ?_;have hr:=(tM a.1 p7 m0 m0 ‹_›).2 b;subst hr;exact rs2 (none,0,[],_) ⟨dV,Has.each_nil,j2 rfl,j1⟩
   have he:=(tM a.1 p7 m0 m0 ‹_›).1 b;refine g3 ?_;exact dR ((bM toks (k) e true).next,o,out,(some (b51,(tU (bM toks (k) e true)))::st),_,_,_,_) w8 ⟨rfl,j1⟩ ⟨rfl,rfl,rfl,rfl,rfl,rfl,j1⟩ (.c1 (.c4 (.c4 (.c2 (.c2 (.c5 (.c1 .nil))))))) ⟨j2 (⟨he,a.2.1,a.2.2.1,by have:=dY toks k e true;first|omega|(simp;omega),he.1⟩),d8,d7,e8,j1⟩ (bA.drop 13)
  refine g20 ?_;refine rE (λhg160=>?_) λhg160=>?_
  .refine g6 ?_;refine fA (λl=>?_) λl=>?_
   .refine g3 ?_;refine bC func84 (cR bl A c toks (k) e _) rfl rfl (.c0 .nil) ⟨Has.of zA,j1⟩ λ_=>?_;refine g10 ?_;have hr:=r_open a.1 ‹_› m0;subst hr;exact rs2 (none,0,[],_) ⟨dV,Has.each_nil,j2 rfl,j1⟩
   refine g5 ?_;refine bF (t':=true) am9 ?_;refine g7 ?_;refine iS (cB func120 rfl rfl) (qR v b4 _ _ st _ _ out m0) rfl rfl rfl rfl rfl rfl rfl (.c3 (.c3 (.c1 (.c1 .nil)))) ⟨d8,j1⟩ λ⟨⟨D53,f54⟩,⟨C55,e56⟩⟩=>?_;refine bB (nN (out++(finP st).1)) (xQ e7 e6)<|bB (tnF (finP st).2) (bJp e7) ?_;have q:=zM st;refine g5 ?_;refine ss (j7 (bAp)) ?_;refine g10 ?_;have hr:=bNj a.1 ‹_› m0;subst hr;refine bS kT4 ?_;exact rs2 (_,_,(out++(finP st).1),_) ⟨d7,d9,j2 rfl,j1⟩
  refine g12 ?_;refine bF (t':=false) (beq_eq_false_iff_ne.2 hg160) ?_;refine g10 ?_;refine rE (λi=>?_) λi=>?_
  .refine g12 ?_;refine bC func84 (cR bl A c toks (k) e _) rfl rfl (.c0 .nil) ⟨Has.of zA,j1⟩ λ_=>?_;refine g10 ?_;have hr:=wM a.1 p7 m0 ab0;subst hr;exact rs2 (none,0,[],_) ⟨dV,Has.each_nil,j2 rfl,j1⟩
  refine g2 ?_;refine bC func119 (qT _) rfl rfl .nil j1 λ_=>?_;refine g5 ?_;refine iK (λg=>?_) λg=>?_
  .refine g3 ?_;refine bC func84 (cR bl A c toks (k) e _) rfl rfl (.c0 .nil) ⟨Has.of zA,j1⟩ λ_=>?_;refine g10 ?_;have hr:=wM a.1 p7 m0 ab0;subst hr;exact rs2 (none,0,[],_) ⟨dV,Has.each_nil,j2 rfl,j1⟩
  refine g6 ?_;refine iS (cB func121 rfl rfl) (qP bl A c toks (k) e J v b4 _ _ st m0 m0) rfl rfl rfl rfl rfl rfl rfl (.c0 (.cons kT8 (.c2 (.c2 .nil)))) ⟨(Has.of zA),d8,j1⟩ λ⟨⟨A57,c58⟩,b59⟩=>?_;refine bB (tnF (some (b59,(tU (bM toks (k) e true)))::st)) (zN e6 dV) ?_;refine j4 bEm λZ=>?_;refine g6 ?_;refine ss (j7 (bAp)) ?_;refine ss (gG ⟨(bM toks (k) e true).Y.1,(bM toks (k) e true).Y.2⟩ ⟨0,0⟩ rfl rfl rfl) ?_;refine g2 ?_;refine iK (λb=>?_) λb=>?_
  .refine bP<|cK _ _ [k8,u0,A05] cN o8 (.c0 (.c0 (.c0 (.c0 (.c0 (.c0 (.c0 (.c0 (.c0 (.c0 .nil)))))))))) bA.self ?_;refine g11 ?_;have hr:=(tM a.1 p7 m0 m0 ‹_›).2 b;subst hr;exact rs2 (none,0,[],_) ⟨dV,Has.each_nil,j2 rfl,j1⟩
  have he:=(tM a.1 p7 m0 m0 ‹_›).1 b;refine g3 ?_;exact dR ((bM toks (k) e true).next,o,out,(some (b59,(tU (bM toks (k) e true)))::st),_,_,_,_) w8 ⟨rfl,j1⟩ ⟨rfl,rfl,rfl,rfl,rfl,rfl,j1⟩ (.c1 (.c4 (.c4 (.c2 (.c2 (.c5 (.c1 .nil))))))) ⟨j2 (⟨he,a.2.1,a.2.2.1,by have:=dY toks k e true;first|omega|(simp;omega),he.1⟩),d8,d7,e8,j1⟩ (bA.drop 13)
 refine g25 ?_;refine rE (λhg160=>?_) λhg160=>?_
 .refine g6 ?_;refine fA (λl=>?_) λl=>?_
  .refine g3 ?_;refine bC func84 (cR bl A c toks (k) e _) rfl rfl (.c0 .nil) ⟨Has.of zA,j1⟩ λ_=>?_;refine g10 ?_;have hr:=r_open a.1 ‹_› m0;subst hr;exact rs2 (none,0,[],_) ⟨dV,Has.each_nil,j2 rfl,j1⟩
  refine g5 ?_;refine bF (t':=true) am9 ?_;refine g7 ?_;refine iS (cB func120 rfl rfl) (qR v b4 _ _ st _ _ out m0) rfl rfl rfl rfl rfl rfl rfl (.c3 (.c3 (.c1 (.c1 .nil)))) ⟨d8,j1⟩ λ⟨⟨D61,f62⟩,⟨C63,e64⟩⟩=>?_;refine bB (nN (out++(finP st).1)) (xQ e7 e6)<|bB (tnF (finP st).2) (bJp e7) ?_;have q:=zM st;refine g5 ?_;refine ss (j7 (bAp)) ?_;refine g10 ?_;have hr:=bNj a.1 ‹_› m0;subst hr;refine bS kT4 ?_;exact rs2 (_,_,(out++(finP st).1),_) ⟨d7,d9,j2 rfl,j1⟩
 refine g12 ?_;refine bF (t':=false) (beq_eq_false_iff_ne.2 hg160) ?_;refine g10 ?_;refine rE (λi=>?_) λi=>?_
 .refine g12 ?_;refine bC func84 (cR bl A c toks (k) e _) rfl rfl (.c0 .nil) ⟨Has.of zA,j1⟩ λ_=>?_;refine g10 ?_;have hr:=wM a.1 p7 m0 ab0;subst hr;exact rs2 (none,0,[],_) ⟨dV,Has.each_nil,j2 rfl,j1⟩
 refine g2 ?_;refine bC func119 (qT _) rfl rfl .nil j1 λ_=>?_;refine g5 ?_;refine iK (λg=>?_) λg=>?_
 .refine g3 ?_;refine bC func84 (cR bl A c toks (k) e _) rfl rfl (.c0 .nil) ⟨Has.of zA,j1⟩ λ_=>?_;refine g10 ?_;have hr:=wM a.1 p7 m0 ab0;subst hr;exact rs2 (none,0,[],_) ⟨dV,Has.each_nil,j2 rfl,j1⟩
 refine g6 ?_;refine iS (cB func121 rfl rfl) (qP bl A c toks (k) e J v b4 _ _ st m0 m0) rfl rfl rfl rfl rfl rfl rfl (.c0 (.cons kT8 (.c2 (.c2 .nil)))) ⟨(Has.of zA),d8,j1⟩ λ⟨⟨A65,c66⟩,b67⟩=>?_;refine bB (tnF (some (b67,(tU (bM toks (k) e true)))::st)) (zN e6 dV) ?_;refine j4 bEm λY=>?_;refine g6 ?_;refine ss (j7 (bAp)) ?_;refine ss (gG ⟨(bM toks (k) e true).Y.1,(bM toks (k) e true).Y.2⟩ ⟨0,0⟩ rfl rfl rfl) ?_;refine g2 ?_;refine iK (λb=>?_) λb=>?_
 .refine bP<|cK _ _ [k8,u0,A05] cN o8 (.c0 (.c0 (.c0 (.c0 (.c0 (.c0 (.c0 (.c0 (.c0 (.c0 .nil)))))))))) bA.self ?_;refine g11 ?_;have hr:=(tM a.1 p7 m0 m0 ‹_›).2 b;subst hr;exact rs2 (none,0,[],_) ⟨dV,Has.each_nil,j2 rfl,j1⟩
 have he:=(tM a.1 p7 m0 m0 ‹_›).1 b;refine g3 ?_;exact dR ((bM toks (k) e true).next,o,out,(some (b67,(tU (bM toks (k) e true)))::st),_,_,_,_) w8 ⟨rfl,j1⟩ ⟨rfl,rfl,rfl,rfl,rfl,rfl,j1⟩ (.c1 (.c4 (.c4 (.c2 (.c2 (.c5 (.c1 .nil))))))) ⟨j2 (⟨he,a.2.1,a.2.2.1,by have:=dY toks k e true;first|omega|(simp;omega),he.1⟩),d8,d7,e8,j1⟩ (bA.drop 13)
