/- A part of one proof. -/
import Derived.Test.YtioekpienlhcgaaGreatDoorM1
import Derived.Test.YtioekpienlhcgaaGreatDoorRows
import Derived.Test.YtioekpienlhcgaaGreatDoorShelf
import Derived.Lib.SmallJoins
import Derived.Lib.ItoaLen
set_option maxRecDepth 100000
namespace Go.Proofs.YtioekpienlhcgaaGreatDoor
open _root_.List renaming getElem?_eq_getElem->F1,getElem?_map->K1,length_cons->F5,getElem?_eq_some_iff->F3,drop_eq_getElem_cons->K2,drop_of_length_le->K3,singleton_append->K4,nil_append->K5,mem_cons->E2,length_take->K6,eq_nil_of_length_eq_zero->F7,mem_cons_self->E8,mem_cons_of_mem->E4,mem_append->E3,mem_singleton->K7,drop_drop->K8,take_of_length_le->F6,append_eq_nil_iff->K9,getElem?_eq_none->L0,reverse_cons->L1,append_nil->F9,map_append->L2
open _root_.Nat renaming blt->B2,le_refl->B0,min_eq_left->L3,strongRecOn->L4,cast->L6
open _root_.Bool renaming false_eq_true->J2,eq_iff_iff->L7,and_eq_true->J3
open _root_.UInt8 renaming toNat_inj->L8,ofNat->L9
open Value renaming int->M0,tuple->M1,bool->M2
open Op renaming equalIn->H7,equal->M3
open Sem renaming run_bind->G9
open Result renaming andThen_ok->H6
open _root_.Option renaming bind_some->M4,map_some->J8,map_none->J9
open Lib renaming indexByte->M5,parseUintM->M6,parseIntB->M7,decDigits->M8,trimSpace->M9,replace->N1,itoa->N3,replaceNum->N5
section
open Go.RowKit Go.ChangeShapes Go.WideShapes Go.Proofs.Tryz
def lZ:Flat Bs where
 size:=1
 cells:=λx=>[.string (bs x)]
 len:=λ_=>rfl
 one:=λx u hu=>by simp at hu;subst hu;rfl
 pos:=m6
structure TokV where
 kind:Int
 at_:Int
 word:Bs
 n:Int
 deriving Inhabited
def nR:Flat TokV where
 size:=4
 cells:=λx=>[.int .i64 x.kind,.int .i64 x.at_,.string (bs x.word),.int .i64 x.n]
 len:=λ_=>rfl
 one:=λx u hu=>by
  simp at hu
  rcases hu with rfl|rfl|rfl|rfl<;>rfl
 pos:=m6
structure FltV where
 at_:Int
 code:Int
 deriving Inhabited
structure kP where
 name:Bs
 n:Int
 deriving Inhabited
def bJd:Flat kP where
 size:=2
 cells:=λx=>[.string (bs x.name),.int .i64 x.n]
 len:=λ_=>rfl
 one:=λx u hu=>by
  simp at hu
  rcases hu with rfl|rfl<;>rfl
 pos:=m6
def sideTy:Ty kP:=⟨bJd,λx=>(Fact.pure (x.name.length<=140737488355328)).and ((Fact.pure ((Lit.int .i64 x.n).wf=true)).and (Fact.true))⟩
theorem opens_side{H:Type}{enc:TypeId×Value->H}{w:World}:uA enc prog w 52 bJd.cells sideTy.deep:=λl s x h k=>by
 obtain⟨b,n,_,rfl,a,c,hf⟩:=DataW.trod_struct underlying52 h;have p:prog.cellsOf 52=2:=m0
 rw[p]at a;have i:b.length=2:=c
 match s,a with
 |[c0,c1],_=>
  have h0:DataW.trod enc prog w 0 (λ_=>true) true n 9 (([c0,c1].drop 0).take (prog.cellsOf 9))=b[0]?:=hf 0 _ rfl;have h1:DataW.trod enc prog w 0 (λ_=>true) true n 2 (([c0,c1].drop 1).take (prog.cellsOf 2))=b[1]?:=hf 1 _ rfl;rw[F1 l7]at h0;obtain⟨o,f,r⟩:=(bEc underlying9) _ _ _ h0 (fZ underlying52 k (j:=0) rfl (by rw[K1,F1 l7];rfl))
  have g:[c0]=[.string (bs o)]:=by
   have d:prog.cellsOf 9=1:=m0
   rw[d]at f;exact f
  clear f;simp only[List.cons.injEq,and_true]at g;rw[F1 l7]at h1;obtain⟨m,e,q⟩:=(tE underlying2) _ _ _ h1 (fZ underlying52 k (j:=1) rfl (by rw[K1,F1 l7];rfl))
  have q1:[c1]=[.int .i64 m]:=by
   have d:prog.cellsOf 2=1:=m0
   rw[d]at e;exact e
  clear e;simp only[List.cons.injEq,and_true]at q1;obtain rfl:=g;obtain rfl:=q1;exact⟨⟨o,m⟩,rfl,r,q,i6⟩
structure InputV where
 name:Bs
 at_:Int
 B:(Sl kP)
 deriving Inhabited
def jP:Flat InputV where
 size:=3
 cells:=λx=>[.string (bs x.name),.int .i64 x.at_,.slice x.B.I x.B.A.length x.B.cap]
 len:=λ_=>rfl
 one:=λx u hu=>by
  simp at hu
  rcases hu with rfl|rfl|rfl<;>rfl
 pos:=m6
def bKn:Ty InputV:=⟨jP,λx=>(Fact.pure (x.name.length<=140737488355328)).and ((Fact.pure ((Lit.int .i64 x.at_).wf=true)).and ((((sideTy.slice 24)).deep x.B).and (Fact.true)))⟩
theorem opens_input{H:Type}{enc:TypeId×Value->H}{w:World}:uA enc prog w 50 jP.cells bKn.deep:=λq z x h g=>by
 obtain⟨d,n,_,rfl,a,f,hf⟩:=DataW.trod_struct underlying50 h;have t:prog.cellsOf 50=3:=m0
 rw[t]at a;have p:d.length=3:=f
 match z,a with
 |[c0,c1,c2],_=>
  have h0:DataW.trod enc prog w 0 (λ_=>true) true n 9 (([c0,c1,c2].drop 0).take (prog.cellsOf 9))=d[0]?:=hf 0 _ rfl;have h1:DataW.trod enc prog w 0 (λ_=>true) true n 3 (([c0,c1,c2].drop 1).take (prog.cellsOf 3))=d[1]?:=hf 1 _ rfl;have h2:DataW.trod enc prog w 0 (λ_=>true) true n 48 (([c0,c1,c2].drop 2).take (prog.cellsOf 48))=d[2]?:=hf 2 _ rfl;rw[F1 l7]at h0;obtain⟨s,l,y⟩:=(bEc underlying9) _ _ _ h0 (fZ underlying50 g (j:=0) rfl (by rw[K1,F1 l7];rfl))
  have o:[c0]=[.string (bs s)]:=by
   have c:prog.cellsOf 9=1:=m0
   rw[c]at l;exact l
  clear l;simp only[List.cons.injEq,and_true]at o;rw[F1 l7]at h1;obtain⟨r,k,v⟩:=(tE underlying3) _ _ _ h1 (fZ underlying50 g (j:=1) rfl (by rw[K1,F1 l7];rfl))
  have q1:[c1]=[.int .i64 r]:=by
   have c:prog.cellsOf 3=1:=m0
   rw[c]at k;exact k
  clear k;simp only[List.cons.injEq,and_true]at q1;rw[F1 l7]at h2;obtain⟨e,i,u⟩:=(sM (T:=sideTy) (b:=24) underlying48 m0 m0 opens_side) _ _ _ h2 (fZ underlying50 g (j:=2) rfl (by rw[K1,F1 l7];rfl))
  have m:[c2]=[.slice e.I e.A.length e.cap]:=by
   have c:prog.cellsOf 48=1:=m0
   rw[c]at i;exact i
  clear i;simp only[List.cons.injEq,and_true]at m;obtain rfl:=o;obtain rfl:=q1;obtain rfl:=m;exact⟨⟨s,r,e⟩,rfl,y,v,u,i6⟩
structure ItemV where
 H:Int
 at_:Int
 fn:Int
 name:Bs
 nums:(Sl Int)
 deriving Inhabited
def mU:Flat ItemV where
 size:=5
 cells:=λx=>[.int .i64 x.H,.int .i64 x.at_,.int .u8 x.fn,.string (bs x.name),.slice x.nums.I x.nums.A.length x.nums.cap]
 len:=λ_=>rfl
 one:=λx u hu=>by
  simp at hu
  rcases hu with rfl|rfl|rfl|rfl|rfl<;>rfl
 pos:=m6
def itemTy:Ty ItemV:=⟨mU,λx=>(Fact.pure ((Lit.int .i64 x.H).wf=true)).and ((Fact.pure ((Lit.int .i64 x.at_).wf=true)).and ((Fact.pure ((Lit.int .u8 x.fn).wf=true)).and ((Fact.pure (x.name.length<=140737488355328)).and ((((intTy.slice 8)).deep x.nums).and (Fact.true)))))⟩
theorem opens_item{H:Type}{enc:TypeId×Value->H}{w:World}:uA enc prog w 62 mU.cells itemTy.deep:=λv K x h e=>by
 obtain⟨d,n,_,rfl,c,g,hf⟩:=DataW.trod_struct underlying62 h;have C:prog.cellsOf 62=5:=m0
 rw[C]at c;have t:d.length=5:=g
 match K,c with
 |[c0,c1,c2,c3,c4],_=>
  have h0:DataW.trod enc prog w 0 (λ_=>true) true n 3 (([c0,c1,c2,c3,c4].drop 0).take (prog.cellsOf 3))=d[0]?:=hf 0 _ rfl;have h1:DataW.trod enc prog w 0 (λ_=>true) true n 3 (([c0,c1,c2,c3,c4].drop 1).take (prog.cellsOf 3))=d[1]?:=hf 1 _ rfl;have h2:DataW.trod enc prog w 0 (λ_=>true) true n 59 (([c0,c1,c2,c3,c4].drop 2).take (prog.cellsOf 59))=d[2]?:=hf 2 _ rfl;have u:DataW.trod enc prog w 0 (λ_=>true) true n 9 (([c0,c1,c2,c3,c4].drop 3).take (prog.cellsOf 9))=d[3]?:=hf 3 _ rfl;have h4:DataW.trod enc prog w 0 (λ_=>true) true n 60 (([c0,c1,c2,c3,c4].drop 4).take (prog.cellsOf 60))=d[4]?:=hf 4 _ rfl;rw[F1 l7]at h0;obtain⟨B,o,J⟩:=(tE underlying3) _ _ _ h0 (fZ underlying62 e (j:=0) rfl (by rw[K1,F1 l7];rfl))
  have s:[c0]=[.int .i64 B]:=by
   have a:prog.cellsOf 3=1:=m0
   rw[a]at o;exact o
  clear o;simp only[List.cons.injEq,and_true]at s;rw[F1 l7]at h1;obtain⟨A,m,I⟩:=(tE underlying3) _ _ _ h1 (fZ underlying62 e (j:=1) rfl (by rw[K1,F1 l7];rfl))
  have q1:[c1]=[.int .i64 A]:=by
   have a:prog.cellsOf 3=1:=m0
   rw[a]at m;exact m
  clear m;simp only[List.cons.injEq,and_true]at q1;rw[F1 l7]at h2;obtain⟨z,l,G⟩:=(tE underlying59) _ _ _ h2 (fZ underlying62 e (j:=2) rfl (by rw[K1,F1 l7];rfl))
  have r:[c2]=[.int .u8 z]:=by
   have a:prog.cellsOf 59=1:=m0
   rw[a]at l;exact l
  clear l;simp only[List.cons.injEq,and_true]at r;rw[F1 l7]at u;obtain⟨y,k,E⟩:=(bEc underlying9) _ _ _ u (fZ underlying62 e (j:=3) rfl (by rw[K1,F1 l7];rfl))
  have q:[c3]=[.string (bs y)]:=by
   have a:prog.cellsOf 9=1:=m0
   rw[a]at k;exact k
  clear k;simp only[List.cons.injEq,and_true]at q;rw[F1 l7]at h4;obtain⟨f,i,D⟩:=(sM (T:=intTy) (b:=8) underlying60 m0 m0 (tE underlying2)) _ _ _ h4 (fZ underlying62 e (j:=4) rfl (by rw[K1,F1 l7];rfl))
  have p:[c4]=[.slice f.I f.A.length f.cap]:=by
   have a:prog.cellsOf 60=1:=m0
   rw[a]at i;exact i
  clear i;simp only[List.cons.injEq,and_true]at p;obtain rfl:=s;obtain rfl:=q1;obtain rfl:=r;obtain rfl:=q;obtain rfl:=p;exact⟨⟨B,A,z,y,f⟩,rfl,J,I,G,E,D,i6⟩
structure LineV where
 name:Bs
 at_:Int
 K:(Sl ItemV)
 deriving Inhabited
def nM:Flat LineV where
 size:=3
 cells:=λx=>[.string (bs x.name),.int .i64 x.at_,.slice x.K.I x.K.A.length x.K.cap]
 len:=λ_=>rfl
 one:=λx u hu=>by
  simp at hu
  rcases hu with rfl|rfl|rfl<;>rfl
 pos:=m6
def bQz:Ty LineV:=⟨nM,λx=>(Fact.pure (x.name.length<=140737488355328)).and ((Fact.pure ((Lit.int .i64 x.at_).wf=true)).and ((((itemTy.slice 64)).deep x.K).and (Fact.true)))⟩
theorem opens_line{H:Type}{enc:TypeId×Value->H}{w:World}:uA enc prog w 58 nM.cells bQz.deep:=λq z x h g=>by
 obtain⟨d,n,_,rfl,a,f,hf⟩:=DataW.trod_struct underlying58 h;have t:prog.cellsOf 58=3:=m0
 rw[t]at a;have p:d.length=3:=f
 match z,a with
 |[c0,c1,c2],_=>
  have h0:DataW.trod enc prog w 0 (λ_=>true) true n 9 (([c0,c1,c2].drop 0).take (prog.cellsOf 9))=d[0]?:=hf 0 _ rfl;have h1:DataW.trod enc prog w 0 (λ_=>true) true n 3 (([c0,c1,c2].drop 1).take (prog.cellsOf 3))=d[1]?:=hf 1 _ rfl;have h2:DataW.trod enc prog w 0 (λ_=>true) true n 56 (([c0,c1,c2].drop 2).take (prog.cellsOf 56))=d[2]?:=hf 2 _ rfl;rw[F1 l7]at h0;obtain⟨s,l,y⟩:=(bEc underlying9) _ _ _ h0 (fZ underlying58 g (j:=0) rfl (by rw[K1,F1 l7];rfl))
  have o:[c0]=[.string (bs s)]:=by
   have c:prog.cellsOf 9=1:=m0
   rw[c]at l;exact l
  clear l;simp only[List.cons.injEq,and_true]at o;rw[F1 l7]at h1;obtain⟨r,k,v⟩:=(tE underlying3) _ _ _ h1 (fZ underlying58 g (j:=1) rfl (by rw[K1,F1 l7];rfl))
  have q1:[c1]=[.int .i64 r]:=by
   have c:prog.cellsOf 3=1:=m0
   rw[c]at k;exact k
  clear k;simp only[List.cons.injEq,and_true]at q1;rw[F1 l7]at h2;obtain⟨e,i,u⟩:=(sM (T:=itemTy) (b:=64) underlying56 m0 m0 opens_item) _ _ _ h2 (fZ underlying58 g (j:=2) rfl (by rw[K1,F1 l7];rfl))
  have m:[c2]=[.slice e.I e.A.length e.cap]:=by
   have c:prog.cellsOf 56=1:=m0
   rw[c]at i;exact i
  clear i;simp only[List.cons.injEq,and_true]at m;obtain rfl:=o;obtain rfl:=q1;obtain rfl:=m;exact⟨⟨s,r,e⟩,rfl,y,v,u,i6⟩
structure ProgV where
 C:(Sl InputV)
 G:(Sl LineV)
 deriving Inhabited
def progE:Flat ProgV where
 size:=2
 cells:=λx=>[.slice x.C.I x.C.A.length x.C.cap,.slice x.G.I x.G.A.length x.G.cap]
 len:=λ_=>rfl
 one:=λx u hu=>by
  simp at hu
  rcases hu with rfl|rfl<;>rfl
 pos:=m6
def progTy:Ty ProgV:=⟨progE,λx=>(((bKn.slice 48)).deep x.C).and ((((bQz.slice 48)).deep x.G).and (Fact.true))⟩
def showT:Tab:=[(3,⟨.int .i64,1⟩),(2,⟨.int .i64,1⟩),(5,⟨.int .u8,1⟩),(9,⟨.string,1⟩),(4,⟨.bool,1⟩),(59,⟨.int .u8,1⟩),(28,⟨.int .i64,1⟩),(60,⟨.slice 2,1⟩),(46,⟨.slice 9,1⟩),(110,⟨.struct [(3,0),(3,1),(9,2),(2,3)],4⟩),(103,⟨.slice 110,1⟩),(30,⟨.struct [(3,0),(28,1)],2⟩),(52,⟨.struct [(9,0),(2,1)],2⟩),(48,⟨.slice 52,1⟩),(50,⟨.struct [(9,0),(3,1),(48,2)],3⟩),(22,⟨.slice 50,1⟩),(62,⟨.struct [(3,0),(3,1),(59,2),(9,3),(60,4)],5⟩),(56,⟨.slice 62,1⟩),(58,⟨.struct [(9,0),(3,1),(56,2)],3⟩),(23,⟨.slice 58,1⟩),(25,⟨.struct [(22,0),(23,1)],2⟩),(108,⟨.struct [(103,0),(3,1),(3,2)],3⟩),(106,⟨.other,1⟩),(172,⟨.slice 1,1⟩),(1,⟨.other,1⟩)]
theorem gJ:gA prog showT:=zB.ok
 ⟨⟨by rw[underlying3];rfl,m0⟩,
  ⟨by rw[underlying2];rfl,m0⟩,
  ⟨by rw[underlying5];rfl,m0⟩,
  ⟨by rw[underlying9];rfl,m0⟩,
  ⟨by rw[underlying4];rfl,m0⟩,
  ⟨by rw[underlying59];rfl,m0⟩,
  ⟨by rw[underlying28];rfl,m0⟩,
  ⟨by rw[underlying60];rfl,m0⟩,
  ⟨by rw[underlying46];rfl,m0⟩,
  ⟨by rw[underlying110];rfl,m0⟩,
  ⟨by rw[underlying103];rfl,m0⟩,
  ⟨by rw[underlying30];rfl,m0⟩,
  ⟨by rw[underlying52];rfl,m0⟩,
  ⟨by rw[underlying48];rfl,m0⟩,
  ⟨by rw[underlying50];rfl,m0⟩,
  ⟨by rw[underlying22];rfl,m0⟩,
  ⟨by rw[underlying62];rfl,m0⟩,
  ⟨by rw[underlying56];rfl,m0⟩,
  ⟨by rw[underlying58];rfl,m0⟩,
  ⟨by rw[underlying23];rfl,m0⟩,
  ⟨by rw[underlying25];rfl,m0⟩,
  ⟨by rw[underlying108];rfl,m0⟩,
  ⟨by rw[underlying106];rfl,m0⟩,
  ⟨by rw[underlying172];rfl,m0⟩,
  ⟨by rw[underlying1];rfl,m0⟩,i6⟩
theorem tokInfo: ∃i:TypeInfo,prog.info? 110=some i/\i.zero=some (.agg #[k6 0,k6 0,.string (bs []),k6 0])/\i.size=4/\i.bytes=40:=by
 have h:(prog.info? 110).map (λi=>(i.zero,i.size,i.bytes))=some (some (.agg #[.int .i64 0,.int .i64 0,.string (bs []),.int .i64 0]),4,40):=m0
 cases hi:prog.info? 110 with
 |none=>simp[hi]at h
 |some i=>simp[hi]at h;exact⟨i,rfl,h.1,h.2.1,h.2.2⟩
theorem at_one_tok{β:fS}{n:Nat}{Γ:Env}{H:List bK}{F:List Fact}{Q:Exit->Act->World->Prop}{ops:Array Oper}{rest:List Oper}{o:Oper}{d:Nat}{x:Operand}{m:TokV}(hw:want ops Γ o=some true)(ho:o.op= .buildSlice 103 1 #[(0,x)])(hd:o.dst=some d)(hn:B2 d n=true)
  (hx:Γ.ev x=some (.agg #[k6 m.kind,k6 m.at_,.string (bs m.word),k6 m.n])) (k: ∀b,At β n ((d,.slice (some ⟨b,0,none⟩) 1 1)::Γ) (.obj b (.cells (nR.all [m]).toArray 110)::H) F (wpList prog ops Q rest)):At β n Γ H F (wpList prog ops Q (o::rest)):=by
 obtain⟨i,hi,a,hs,_⟩:=tokInfo;refine kD hw ho hd hn hx underlying103 hi a l7 l7 ?_ k;rw[hs]
 kernel_rfl
theorem at_app_tok{β:fS}{n:Nat}{Γ:Env}{H:List bK}{F:List Fact}{Q:Exit->Act->World->Prop}{ops:Array Oper}{rest:List Oper}{o:Oper}{d:Nat}{x y:Operand}{c q:Nat}{v:Value}{A:Option Addr}{xs ys:List TokV}{H':List bK}(hH:cT H (nR.row v 110 xs) H')(hr:dD β H F nR A ys)(hg:o.guard=none)
  (ho:o.op= .call {callee:= .builtin .append,args:= #[x,y],argTypes:= #[103,103]}) (hd:o.dst=some d) (hn:B2 d n=true)
  (hx:Γ.ev x=some v) (hy:Γ.ev y=some (.slice A q c)) (hq:q=ys.length) (hl:xs.length+ys.length<=3518437208883)
  (k: ∀A' cap',At β n ((d,.slice A' (xs++ys).length cap')::Γ) (nR.row (.slice A' (xs++ys).length cap') 110 (xs++ys)::H') F (wpList prog ops Q rest)):At β n Γ H F (wpList prog ops Q (o::rest)):=by obtain⟨i,hi,a,hs,b⟩:=tokInfo;exact gY hH hr hg ho hd hn underlying103 hi a hs b rfl hx hy hq l7 m6 k
theorem intInfo: ∃i:TypeInfo,prog.info? 2=some i/\i.zero=some (k6 0)/\i.size=1/\i.bytes=8:=by
 have h:(prog.info? 2).map (λi=>(i.zero,i.size,i.bytes))=some (some (.int .i64 0),1,8):=m0
 cases hi:prog.info? 2 with
 |none=>simp[hi]at h
 |some i=>simp[hi]at h;exact⟨i,rfl,h.1,h.2.1,h.2.2⟩
theorem at_one_int{β:fS}{n:Nat}{Γ:Env}{H:List bK}{F:List Fact}{Q:Exit->Act->World->Prop}{ops:Array Oper}{rest:List Oper}{o:Oper}{d:Nat}{x:Operand}{m:Int}(hw:want ops Γ o=some true)(ho:o.op= .buildSlice 60 1 #[(0,x)])(hd:o.dst=some d)(hn:B2 d n=true)
  (hx:Γ.ev x=some (k6 m)) (k: ∀b,At β n ((d,.slice (some ⟨b,0,none⟩) 1 1)::Γ) (.obj b (.cells (bOt.all [m]).toArray 2)::H) F (wpList prog ops Q rest)):At β n Γ H F (wpList prog ops Q (o::rest)):=by
 obtain⟨i,hi,a,hs,_⟩:=intInfo;refine kD hw ho hd hn hx underlying60 hi a l7 l7 ?_ k;rw[hs]
 kernel_rfl
theorem at_app_int{β:fS}{n:Nat}{Γ:Env}{H:List bK}{F:List Fact}{Q:Exit->Act->World->Prop}{ops:Array Oper}{rest:List Oper}{o:Oper}{d:Nat}{x y:Operand}{c q:Nat}{v:Value}{A:Option Addr}{xs ys:List Int}{H':List bK}(hH:cT H (bOt.row v 2 xs) H')(hr:dD β H F bOt A ys)(hg:o.guard=none)
  (ho:o.op= .call {callee:= .builtin .append,args:= #[x,y],argTypes:= #[60,60]}) (hd:o.dst=some d) (hn:B2 d n=true)
  (hx:Γ.ev x=some v) (hy:Γ.ev y=some (.slice A q c)) (hq:q=ys.length) (hl:xs.length+ys.length<=17592186044416)
  (k: ∀A' cap',At β n ((d,.slice A' (xs++ys).length cap')::Γ) (bOt.row (.slice A' (xs++ys).length cap') 2 (xs++ys)::H') F (wpList prog ops Q rest)):At β n Γ H F (wpList prog ops Q (o::rest)):=by obtain⟨i,hi,a,hs,b⟩:=intInfo;exact gY hH hr hg ho hd hn underlying60 hi a hs b rfl hx hy hq l7 m6 k
theorem bPw: ∃i:TypeInfo,prog.info? 9=some i/\i.zero=some (.string (bs []))/\i.size=1/\i.bytes=16:=by
 have h:(prog.info? 9).map (λi=>(i.zero,i.size,i.bytes))=some (some (.string (bs [])),1,16):=m0
 cases hi:prog.info? 9 with
 |none=>simp[hi]at h
 |some i=>simp[hi]at h;exact⟨i,rfl,h.1,h.2.1,h.2.2⟩
theorem lH{β:fS}{n:Nat}{Γ:Env}{H:List bK}{F:List Fact}{Q:Exit->Act->World->Prop}{ops:Array Oper}{rest:List Oper}{o:Oper}{d:Nat}{x:Operand}{m:Bs}(hw:want ops Γ o=some true)(ho:o.op= .buildSlice 46 1 #[(0,x)])(hd:o.dst=some d)(hn:B2 d n=true)
  (hx:Γ.ev x=some (.string (bs m))) (k: ∀b,At β n ((d,.slice (some ⟨b,0,none⟩) 1 1)::Γ) (.obj b (.cells (lZ.all [m]).toArray 9)::H) F (wpList prog ops Q rest)):At β n Γ H F (wpList prog ops Q (o::rest)):=by
 obtain⟨i,hi,a,hs,_⟩:=bPw;refine kD hw ho hd hn hx underlying46 hi a l7 l7 ?_ k;rw[hs]
 kernel_rfl
theorem mR{β:fS}{n:Nat}{Γ:Env}{H:List bK}{F:List Fact}{Q:Exit->Act->World->Prop}{ops:Array Oper}{rest:List Oper}{o:Oper}{d:Nat}{x y:Operand}{c q:Nat}{v:Value}{A:Option Addr}{xs ys:List Bs}{H':List bK}(hH:cT H (lZ.row v 9 xs) H')(hr:dD β H F lZ A ys)(hg:o.guard=none)
  (ho:o.op= .call {callee:= .builtin .append,args:= #[x,y],argTypes:= #[46,46]}) (hd:o.dst=some d) (hn:B2 d n=true)
  (hx:Γ.ev x=some v) (hy:Γ.ev y=some (.slice A q c)) (hq:q=ys.length) (hl:xs.length+ys.length<=8796093022208)
  (k: ∀A' cap',At β n ((d,.slice A' (xs++ys).length cap')::Γ) (lZ.row (.slice A' (xs++ys).length cap') 9 (xs++ys)::H') F (wpList prog ops Q rest)):At β n Γ H F (wpList prog ops Q (o::rest)):=by obtain⟨i,hi,a,hs,b⟩:=bPw;exact gY hH hr hg ho hd hn underlying46 hi a hs b rfl hx hy hq l7 m6 k
theorem sideInfo: ∃i:TypeInfo,prog.info? 52=some i/\i.zero=some (.agg #[.string (bs []),k6 0])/\i.size=2/\i.bytes=24:=by
 have h:(prog.info? 52).map (λi=>(i.zero,i.size,i.bytes))=some (some (.agg #[.string (bs []),.int .i64 0]),2,24):=m0
 cases hi:prog.info? 52 with
 |none=>simp[hi]at h
 |some i=>simp[hi]at h;exact⟨i,rfl,h.1,h.2.1,h.2.2⟩
theorem bNl{β:fS}{n:Nat}{Γ:Env}{H:List bK}{F:List Fact}{Q:Exit->Act->World->Prop}{ops:Array Oper}{rest:List Oper}{o:Oper}{d:Nat}{x:Operand}{m:kP}(hw:want ops Γ o=some true)(ho:o.op= .buildSlice 48 1 #[(0,x)])(hd:o.dst=some d)(hn:B2 d n=true)
  (hx:Γ.ev x=some (.agg #[.string (bs m.name),k6 m.n])) (k: ∀b,At β n ((d,.slice (some ⟨b,0,none⟩) 1 1)::Γ) (.obj b (.cells (bJd.all [m]).toArray 52)::H) F (wpList prog ops Q rest)):At β n Γ H F (wpList prog ops Q (o::rest)):=by
 obtain⟨i,hi,a,hs,_⟩:=sideInfo;refine kD hw ho hd hn hx underlying48 hi a l7 l7 ?_ k;rw[hs]
 kernel_rfl
theorem bNq{β:fS}{n:Nat}{Γ:Env}{H:List bK}{F:List Fact}{Q:Exit->Act->World->Prop}{ops:Array Oper}{rest:List Oper}{o:Oper}{d:Nat}{x y:Operand}{c q:Nat}{v:Value}{A:Option Addr}{xs ys:List kP}{H':List bK}(hH:cT H (bJd.row v 52 xs) H')(hr:dD β H F bJd A ys)(hg:o.guard=none)
  (ho:o.op= .call {callee:= .builtin .append,args:= #[x,y],argTypes:= #[48,48]}) (hd:o.dst=some d) (hn:B2 d n=true)
  (hx:Γ.ev x=some v) (hy:Γ.ev y=some (.slice A q c)) (hq:q=ys.length) (hl:xs.length+ys.length<=5864062014805)
  (k: ∀A' cap',At β n ((d,.slice A' (xs++ys).length cap')::Γ) (bJd.row (.slice A' (xs++ys).length cap') 52 (xs++ys)::H') F (wpList prog ops Q rest)):At β n Γ H F (wpList prog ops Q (o::rest)):=by obtain⟨i,hi,a,hs,b⟩:=sideInfo;exact gY hH hr hg ho hd hn underlying48 hi a hs b rfl hx hy hq l7 m6 k
theorem bZk: ∃i:TypeInfo,prog.info? 50=some i/\i.zero=some (.agg #[.string (bs []),k6 0,.slice none 0 0])/\i.size=3/\i.bytes=48:=by
 have h:(prog.info? 50).map (λi=>(i.zero,i.size,i.bytes))=some (some (.agg #[.string (bs []),.int .i64 0,.slice none 0 0]),3,48):=m0
 cases hi:prog.info? 50 with
 |none=>simp[hi]at h
 |some i=>simp[hi]at h;exact⟨i,rfl,h.1,h.2.1,h.2.2⟩
theorem bJy{β:fS}{n:Nat}{Γ:Env}{H:List bK}{F:List Fact}{Q:Exit->Act->World->Prop}{ops:Array Oper}{rest:List Oper}{o:Oper}{d:Nat}{x:Operand}{m:InputV}(hw:want ops Γ o=some true)(ho:o.op= .buildSlice 22 1 #[(0,x)])(hd:o.dst=some d)(hn:B2 d n=true)
  (hx:Γ.ev x=some (.agg #[.string (bs m.name),k6 m.at_,j8 m.B])) (k: ∀b,At β n ((d,.slice (some ⟨b,0,none⟩) 1 1)::Γ) (.obj b (.cells (jP.all [m]).toArray 50)::H) F (wpList prog ops Q rest)):At β n Γ H F (wpList prog ops Q (o::rest)):=by
 obtain⟨i,hi,a,hs,_⟩:=bZk;refine kD hw ho hd hn hx underlying22 hi a l7 l7 ?_ k;rw[hs]
 kernel_rfl
theorem bKv{β:fS}{n:Nat}{Γ:Env}{H:List bK}{F:List Fact}{Q:Exit->Act->World->Prop}{ops:Array Oper}{rest:List Oper}{o:Oper}{d:Nat}{x y:Operand}{c q:Nat}{v:Value}{A:Option Addr}{xs ys:List InputV}{H':List bK}(hH:cT H (jP.row v 50 xs) H')(hr:dD β H F jP A ys)(hg:o.guard=none)
  (ho:o.op= .call {callee:= .builtin .append,args:= #[x,y],argTypes:= #[22,22]}) (hd:o.dst=some d) (hn:B2 d n=true)
  (hx:Γ.ev x=some v) (hy:Γ.ev y=some (.slice A q c)) (hq:q=ys.length) (hl:xs.length+ys.length<=2932031007402)
  (k: ∀A' cap',At β n ((d,.slice A' (xs++ys).length cap')::Γ) (jP.row (.slice A' (xs++ys).length cap') 50 (xs++ys)::H') F (wpList prog ops Q rest)):At β n Γ H F (wpList prog ops Q (o::rest)):=by obtain⟨i,hi,a,hs,b⟩:=bZk;exact gY hH hr hg ho hd hn underlying22 hi a hs b rfl hx hy hq l7 m6 k
theorem itemInfo: ∃i:TypeInfo,prog.info? 62=some i/\i.zero=some (.agg #[k6 0,k6 0,k7 0,.string (bs []),.slice none 0 0])/\i.size=5/\i.bytes=64:=by
 have h:(prog.info? 62).map (λi=>(i.zero,i.size,i.bytes))=some (some (.agg #[.int .i64 0,.int .i64 0,.int .u8 0,.string (bs []),.slice none 0 0]),5,64):=m0
 cases hi:prog.info? 62 with
 |none=>simp[hi]at h
 |some i=>simp[hi]at h;exact⟨i,rfl,h.1,h.2.1,h.2.2⟩
theorem bCw{β:fS}{n:Nat}{Γ:Env}{H:List bK}{F:List Fact}{Q:Exit->Act->World->Prop}{ops:Array Oper}{rest:List Oper}{o:Oper}{d:Nat}{x:Operand}{m:ItemV}(hw:want ops Γ o=some true)(ho:o.op= .buildSlice 56 1 #[(0,x)])(hd:o.dst=some d)(hn:B2 d n=true)
  (hx:Γ.ev x=some (.agg #[k6 m.H,k6 m.at_,k7 m.fn,.string (bs m.name),j8 m.nums])) (k: ∀b,At β n ((d,.slice (some ⟨b,0,none⟩) 1 1)::Γ) (.obj b (.cells (mU.all [m]).toArray 62)::H) F (wpList prog ops Q rest)):At β n Γ H F (wpList prog ops Q (o::rest)):=by
 obtain⟨i,hi,a,hs,_⟩:=itemInfo;refine kD hw ho hd hn hx underlying56 hi a l7 l7 ?_ k;rw[hs]
 kernel_rfl
theorem bDl{β:fS}{n:Nat}{Γ:Env}{H:List bK}{F:List Fact}{Q:Exit->Act->World->Prop}{ops:Array Oper}{rest:List Oper}{o:Oper}{d:Nat}{x y:Operand}{c q:Nat}{v:Value}{A:Option Addr}{xs ys:List ItemV}{H':List bK}(hH:cT H (mU.row v 62 xs) H')(hr:dD β H F mU A ys)(hg:o.guard=none)
  (ho:o.op= .call {callee:= .builtin .append,args:= #[x,y],argTypes:= #[56,56]}) (hd:o.dst=some d) (hn:B2 d n=true)
  (hx:Γ.ev x=some v) (hy:Γ.ev y=some (.slice A q c)) (hq:q=ys.length) (hl:xs.length+ys.length<=2199023255552)
  (k: ∀A' cap',At β n ((d,.slice A' (xs++ys).length cap')::Γ) (mU.row (.slice A' (xs++ys).length cap') 62 (xs++ys)::H') F (wpList prog ops Q rest)):At β n Γ H F (wpList prog ops Q (o::rest)):=by obtain⟨i,hi,a,hs,b⟩:=itemInfo;exact gY hH hr hg ho hd hn underlying56 hi a hs b rfl hx hy hq l7 m6 k
theorem lineInfo: ∃i:TypeInfo,prog.info? 58=some i/\i.zero=some (.agg #[.string (bs []),k6 0,.slice none 0 0])/\i.size=3/\i.bytes=48:=by
 have h:(prog.info? 58).map (λi=>(i.zero,i.size,i.bytes))=some (some (.agg #[.string (bs []),.int .i64 0,.slice none 0 0]),3,48):=m0
 cases hi:prog.info? 58 with
 |none=>simp[hi]at h
 |some i=>simp[hi]at h;exact⟨i,rfl,h.1,h.2.1,h.2.2⟩
theorem bOn{β:fS}{n:Nat}{Γ:Env}{H:List bK}{F:List Fact}{Q:Exit->Act->World->Prop}{ops:Array Oper}{rest:List Oper}{o:Oper}{d:Nat}{x:Operand}{m:LineV}(hw:want ops Γ o=some true)(ho:o.op= .buildSlice 23 1 #[(0,x)])(hd:o.dst=some d)(hn:B2 d n=true)
  (hx:Γ.ev x=some (.agg #[.string (bs m.name),k6 m.at_,j8 m.K])) (k: ∀b,At β n ((d,.slice (some ⟨b,0,none⟩) 1 1)::Γ) (.obj b (.cells (nM.all [m]).toArray 58)::H) F (wpList prog ops Q rest)):At β n Γ H F (wpList prog ops Q (o::rest)):=by
 obtain⟨i,hi,a,hs,_⟩:=lineInfo;refine kD hw ho hd hn hx underlying23 hi a l7 l7 ?_ k;rw[hs]
 kernel_rfl
theorem bOd{β:fS}{n:Nat}{Γ:Env}{H:List bK}{F:List Fact}{Q:Exit->Act->World->Prop}{ops:Array Oper}{rest:List Oper}{o:Oper}{d:Nat}{x y:Operand}{c q:Nat}{v:Value}{A:Option Addr}{xs ys:List LineV}{H':List bK}(hH:cT H (nM.row v 58 xs) H')(hr:dD β H F nM A ys)(hg:o.guard=none)
  (ho:o.op= .call {callee:= .builtin .append,args:= #[x,y],argTypes:= #[23,23]}) (hd:o.dst=some d) (hn:B2 d n=true)
  (hx:Γ.ev x=some v) (hy:Γ.ev y=some (.slice A q c)) (hq:q=ys.length) (hl:xs.length+ys.length<=2932031007402)
  (k: ∀A' cap',At β n ((d,.slice A' (xs++ys).length cap')::Γ) (nM.row (.slice A' (xs++ys).length cap') 58 (xs++ys)::H') F (wpList prog ops Q rest)):At β n Γ H F (wpList prog ops Q (o::rest)):=by obtain⟨i,hi,a,hs,b⟩:=lineInfo;exact gY hH hr hg ho hd hn underlying23 hi a hs b rfl hx hy hq l7 m6 k
theorem cN:prog.follows .mixedOrders=true:=m0
end
section
open Go.Proofs.Tryz
def lC (b:UInt8):Bool:=decide (97<=(b ||| 32).toNat)&&decide ((b ||| 32).toNat<=122)
def cX (b:UInt8):Bool:=decide (48<=b.toNat)&&decide (b.toNat<=57)
def kU (b:UInt8):Bool:=lC b || cX b
abbrev Tok:=TokV
abbrev Flt:=Int×Int
def runB (p:UInt8->Bool):Bs->Nat
 |[]=>0
 |b::r=>if p b then runB p r+1 else 0
theorem lB(p:UInt8->Bool): ∀s:Bs,runB p s<=s.length
 |[]=>B0 _
 |b::r=>by
  unfold runB;split
  .have:=lB p r;simp;omega
  .simp
def decV:Bs->Nat->Nat
 |[],v=>v
 |b::r,v=>decV r (10*v+(b.toNat-48))
def pW (neg:Bool)(ds:Bs):Option Int:=
 if neg then (if decV ds 0<=9223372036854775808 then some (-(decV ds 0:Int))else none)
 else (if decV ds 0<=9223372036854775807 then some (decV ds 0:Int)else none)
def fR:Bs:=[43,45,42,37,124,61,126,60,62,47,92,46,58,40,41]
def gQ:Bs->Nat
 |[]=>0
 |b::r=>if (b==60 || b==62)&&r.head?==some 61 then 2 else if fR.contains b then 1 else 0
abbrev TokR:=Int×Bs×Int×Nat
def jE (b:UInt8)(r:Bs):Except Int (Option TokR):=
 let ds:=if b==95 then r else b::r
 let k:=runB cX ds
 if k=0 then .ok none else match pW (b==95) (ds.take k)with
  |none=> .error 32
  |some v=> .ok (some (2,[],v,k+if b==95 then 1 else 0))
def fD:Bs->Except Int TokR
 |[]=> .error 31
 |b::r=>
  if b==10 then .ok (4,[],0,1)
  else if lC b then (if 16<runB kU (b::r)then .error 33 else .ok (1,(b::r).take (runB kU (b::r)),0,runB kU (b::r)))
  else match jE b r with
   |.error e=> .error e
   |.ok (some t)=> .ok t
   |.ok none=>if gQ (b::r)=0 then .error 31 else .ok (3,(b::r).take (gQ (b::r)),0,gQ (b::r))
def nG (b:UInt8):Bool:=b==32 || b==9
def lexGo:Nat->Nat->Bs->List Tok->List Tok×Flt
 |0,_,_,out=>(out,(0,0))
 |_+1,_,[],out=>(out,(0,0))
 |f+1,i,b::r,out=>
  if nG b then lexGo f (i+1) r out
  else if b==35 then lexGo f (i+runB (· !=10) (b::r)) ((b::r).drop (runB (· !=10) (b::r))) out
  else match fD (b::r)with
   |.error e=>([],(i,e))
   |.ok (k,wd,v,m)=>lexGo f (i+m) ((b::r).drop m) (out++[⟨k,i,wd,v⟩])
def iD (s:Bs):List Tok×Flt:=if 65536<s.length then ([],(0,30))else lexGo s.length 0 s []
theorem bQs{b:UInt8}{r:Bs}{t:TokR}(h:jE b r= .ok (some t)):1<=t.2.2.2/\t.2.2.2<=r.length+1:=by
 unfold jE at h
 by_cases a:(b==95)=true
 .simp only[a,if_true]at h;have hl:=lB cX r;split at h
  .cases h
  .split at h
   .cases h
   .simp only[Except.ok.injEq,Option.some.injEq]at h;subst h;simp;omega
 .simp only[a,J2,if_false]at h;have hl:=lB cX (b::r);simp only[F5]at hl;split at h
  .cases h
  .split at h
   .cases h
   .simp only[Except.ok.injEq,Option.some.injEq]at h;subst h;simp only;omega
theorem bDc: ∀s:Bs,gQ s<=s.length
 |[]=>B0 _
 |[b]=>by
  have e:(none==some (61:UInt8))=false:=rfl;simp only[gQ,List.head?_nil,e,Bool.and_false,J2,if_false];split<;>simp
 |b::c::r=>by
  simp only[gQ];split
  .simp
  .split
   .simp only[F5];omega
   .omega
theorem vR{s:Bs}{t:TokR}(h:fD s= .ok t):1<=t.2.2.2/\t.2.2.2<=s.length:=by
 cases s with
 |nil=>cases h
 |cons b r=>
  simp only[fD]at h;split at h
  .cases h;simp
  .split at h
   .rename_i a;split at h
    .cases h
    .cases h;have:=lB kU (b::r);refine⟨?_,this⟩;simp only[runB,kU,a,Bool.true_or,if_true];omega
   .split at h
    .cases h
    .rename_i c ht;cases h;exact bQs ht
    .split at h
     .cases h
     .cases h;have:=bDc (b::r);simp only;omega
theorem bKp{p:UInt8->Bool}{b:UInt8}{r:Bs}(h:p b=true):1<=runB p (b::r):=by simp only[runB,h,if_true];omega
theorem bRk{b:UInt8}(h:(b==35)=true):(b !=10)=true:=by
 have:b=35:=by simpa using h
 subst this;decide
theorem wC: ∀(f g i:Nat) (s:Bs) (out:List Tok),s.length<=f->s.length<=g->lexGo f i s out=lexGo g i s out
 |0,0,_,_,_,_,_=>rfl
 |0,g+1,_,[],_,_,_=>rfl
 |f+1,0,_,[],_,_,_=>rfl
 |0,_,_,b::r,_,h,_=>by simp at h
 |_,0,_,b::r,_,_,h=>by simp at h
 |f+1,g+1,_,[],_,_,_=>rfl
 |f+1,g+1,i,b::r,out,h,k=>by
  simp only[F5]at h k;unfold lexGo;split
  .exact wC f g _ _ _ l7 l7
  .split
   .rename_i a;have:1<=runB (· !=10) (b::r):=bKp (bRk a);exact wC f g _ _ _ q9 q9
   .split
    .rfl
    .rename_i ht;have:=(vR ht).1;exact wC f g _ _ _ (by simp at this⊢;omega) (by simp at this⊢;omega)
theorem oP{i:Nat}{b:UInt8}{r:Bs}{out:List Tok}:lexGo (b::r).length i (b::r) out=
  if nG b then lexGo r.length (i+1) r out
  else if b==35 then lexGo ((b::r).drop (runB (· !=10) (b::r))).length (i+runB (· !=10) (b::r)) ((b::r).drop (runB (· !=10) (b::r))) out
  else match fD (b::r)with
   |.error e=>([],(i,e))
   |.ok (k,wd,v,m)=>lexGo ((b::r).drop m).length (i+m) ((b::r).drop m) (out++[⟨k,i,wd,v⟩]):=by
 rw[F5,lexGo];split
 .rfl
 .split
  .rename_i a;have:1<=runB (· !=10) (b::r):=bKp (bRk a);exact wC _ _ _ _ _ q9 m9
  .split
   .rfl
   .rename_i ht;have:=(vR ht).1;exact wC _ _ _ _ _ (by simp at this⊢;omega) m9
end
section
open Go.RowKit Go.Proofs.Tryz
theorem run_more{p:UInt8->Bool}{s:Bs}{i:Nat}{b:UInt8}(hb:s[i]?=some b)(hp:p b=true)(h:runB p s=i+runB p (s.drop i)):runB p s=(i+1)+runB p (s.drop (i+1)):=by obtain⟨hi,hb⟩:=F3.1 hb;rw[K2 hi,hb,runB,if_pos hp]at h;omega
theorem run_end{p:UInt8->Bool}{s:Bs}{i:Nat}(hc:s.length<=i\/ ∃b,s[i]?=some b/\p b=false)(h:runB p s=i+runB p (s.drop i)):runB p s=i:=by
 rcases hc with hc|⟨b,a,c⟩
 .rw[K3 hc]at h
  simpa[runB]using h
 .obtain⟨hi,a⟩:=F3.1 a;rw[K2 hi,a,runB,c]at h
  simpa using h
theorem or32(a:UInt8):IntKind.u8.wrap (((BitVec.ofInt IntKind.u8.bits (a.toNat:Int) ||| BitVec.ofInt IntKind.u8.bits 32).toNat:Nat):Int)=(((a ||| 32).toNat:Nat):Int):=or_u8 a 32
theorem bNi(b:UInt8):cY prog 113 [k7 b.toNat] [] [] (λ(_:Unit)=> .bool (lC b)) (λ_=>[]) (λ_=>[]):=by
 have hT:=gJ;refine j5 func113 ntmps113 ?_;intro β hM;refine g9 ?_;refine bJ (z':=((((b ||| 32):UInt8).toNat:Nat):Int)) (or32 _) ?_;refine g2 ?_;refine bRx (λhg6=>?_) λhg6=>?_
 .refine g2 ?_;refine bJ (z':=((((b ||| 32):UInt8).toNat:Nat):Int)) (or32 _) ?_;refine g6 ?_;exact rs1 () i6 (he:=by congr 1;unfold lC;generalize (b ||| 32).toNat=c at*;rw[L7];simp;omega)
 refine g8 ?_;exact rs1 () i6 (he:=by congr 1;unfold lC;generalize (b ||| 32).toNat=c at*;rw[L7];simp;omega)
theorem bGn(b:UInt8):cY prog 115 [k7 b.toNat] [] [] (λ(_:Unit)=> .bool (cX b)) (λ_=>[]) (λ_=>[]):=by
 have hT:=gJ;refine j5 func115 ntmps115 ?_;intro β hM;refine g10 ?_;refine bRx (λa=>?_) λa=>?_
 .refine g7 ?_;exact rs1 () i6 (he:=by congr 1;unfold cX;rw[L7];simp;omega)
 refine g7 ?_;exact rs1 () i6 (he:=by congr 1;unfold cX;rw[L7];simp;omega)
theorem word_spec(b:UInt8):cY prog 114 [k7 b.toNat] [] [] (λ(_:Unit)=> .bool (kU b)) (λ_=>[]) (λ_=>[]):=by
 have hT:=gJ;refine j5 func114 ntmps114 ?_;intro β hM;refine g8 ?_;refine bD func113 (bNi _) rfl rfl .nil i6 λ_=>?_;refine one ?_;refine cG (λa=>?_) (λa=>?_)
 .refine g7 ?_;exact rs1 () i6 (he:=by simp[kU, *])
 refine one ?_;refine bD func115 (bGn _) rfl rfl .nil i6 λ_=>?_;refine g5 ?_;exact rs1 () i6 (he:=by simp[kU, *])
theorem line_spec(b:UInt8):cY prog 81 [k7 b.toNat] [] [] (λ(_:Unit)=> .bool (b !=10)) (λ_=>[]) (λ_=>[]):=by have hT:=gJ;refine j5 func81 ntmps81 ?_;intro β hM;refine g13 ?_;exact rs1 () i6 (he:=by congr 1;rw[L7];simp[bne_iff_ne,<-L8];omega)
theorem bIo(s:Bs)(hs:s.length<=140737488355328)(f:FuncId)(p:UInt8->Bool)(hcf: ∀(args:Array Value) (w:World),(callFunc f args).run prog w= .ok (.enter f args) w)(hf: ∀b:UInt8,cY prog f [k7 b.toNat] [] [] (λ_:Unit=> .bool (p b)) (λ_=>[]) (λ_=>[])):cY prog 80 [.string (bs s),.func (.func f) #[] #[]] [] [] (λ(_:Unit)=> k6 (runB p s:Nat)) (λ_=>[]) (λ_=>[]):=by
 have hT:=gJ;refine j5 func80 ntmps80 ?_;intro β hM;refine g12 ?_;refine cF (ι:=Nat) [(0,_),(1,_)] ⟨rfl,rfl,i6⟩ (λi=>[(5,.int .i64 (i:Nat))]) (λi=>[]) (λi=>[Fact.pure (i<=s.length/\runB p s=i+runB p (s.drop i))]) (λi=>s.length-i) 0 ⟨rfl,i6⟩ .nil ⟨i7 (⟨l7,m9⟩),i6⟩ ?_;rintro i;refine bF d7 λa=>?_;refine g6 ?_;refine bJ (z':=((s.length:Nat):Int)) rfl ?_;refine g2 ?_;refine lR (λd=>?_) λd=>?_
 .refine g3 ?_;obtain⟨e,hb2⟩:=gx s i;refine ss (fM hT (k:=i) rfl rfl rfl rfl rfl hb2) ?_;refine jA hcf (hf e) rfl rfl rfl rfl rfl rfl rfl .nil i6 λ_=>?_;refine g3 ?_;refine fX (λc=>?_) λc=>?_
  .refine g6 ?_;refine inc (i+1) ?_;refine g4 ?_;exact bk2 (i+1) ⟨i7 (⟨l7,run_more hb2 c a.2⟩),i6⟩
  refine g12 ?_;exact rs1 () i6 (he:=congrArg (λn:Nat=>M0 .i64 (n:Int)) (run_end (.inr ⟨_,hb2,c⟩) a.2).symm)
 refine g21 ?_;exact rs1 () i6 (he:=congrArg (λn:Nat=>M0 .i64 (n:Int)) (run_end (.inl l7) a.2).symm)
end
section
open Go.RowKit Go.Proofs.Tryz
theorem bSt{P:Program}(w:World)(d:Nat)(t:TypeId)(a b:Bs)(ht:P.underlying t=some .string):(H7 (d+1) t (.string (bs a)) (.string (bs b))).run P w= .ok (a==b) w:=by rw[run_equalIn_string w d t _ _ ht];simp[bs]
section
variable {P : Program} {β : fS} {n : Nat} {Γ : Env} {H : List bK} {F : List Fact} {o : Oper} {x : Operand} {t tt : TypeId}
theorem run_eqIf{ms:Array (String×TypeId)}(ht:P.underlying t=some (.interface ms))(w:World)(u:TypeId)(v:Value):(M3 t (.iface u v) .nilIface).run P w= .ok false w/\(M3 t .nilIface .nilIface).run P w= .ok true w:=by
 have h1: ∀d,(H7 (d+1) t (.iface u v) .nilIface).run P w= .ok false w:=λd=>by simp[H7,run_underlying ht]
 have h2: ∀d,(H7 (d+1) t .nilIface .nilIface).run P w= .ok true w:=λd=>by simp[H7,run_underlying ht]
 exact⟨h1 9999,h2 9999⟩
theorem sti_err{ms:Array (String×TypeId)}(ht:P.underlying t=some (.interface ms)){u:TypeId}{v:Value}(ho:o.op= .binOp .neq t x (.const .nilIface) tt)(hx:Γ.ev x=some (.iface u v)):Sti P β n Γ H F o (.bool true):=λc w S f s k=>by
 unfold execOp;have e:c.eval (.const .nilIface)= .nilIface:=rfl;simp only[ho,f.ev hx,e]
 have a:(binOp .neq t (.iface u v) .nilIface).run P w= .ok (.bool true) w:=by simp only[binOp];rw[G9,(run_eqIf ht w u v).1];rfl
 rw[G9,G9];have hg:(eqGuard .neq t x (.const .nilIface) (.iface u v) .nilIface).run P w= .ok () w:=rfl;rw[hg,H6,a];rfl
theorem bYc{ms:Array (String×TypeId)}(ht:P.underlying t=some (.interface ms))(ho:o.op= .binOp .neq t x (.const .nilIface) tt)(hx:Γ.ev x=some .nilIface):Sti P β n Γ H F o (.bool false):=λc w S f s k=>by
 unfold execOp;have e:c.eval (.const .nilIface)= .nilIface:=rfl;simp only[ho,f.ev hx,e]
 have a:(binOp .neq t .nilIface .nilIface).run P w= .ok (.bool false) w:=by simp only[binOp];rw[G9,(run_eqIf ht w 0 .nilIface).2];rfl
 rw[G9,G9]
 have hg:(eqGuard .neq t x (.const .nilIface) .nilIface .nilIface).run P w= .ok () w:=by unfold eqGuard;simp
 rw[hg,H6,a];rfl
end
def nO (x y:FltV):Bool:=((x.at_==y.at_)&&(x.code==y.code))
theorem bBb(d:Nat)(x y:FltV)(w:World):(H7 (d+2) 30 (.agg #[k6 x.at_,k6 x.code]) (.agg #[k6 y.at_,k6 y.code])).run prog w= .ok (nO x y) w:=by
 have c:prog.stoodInHeld 30=false:=m0
 have b: ∀x:FltV,(part 3 #[.int .i64 x.at_,.int .i64 x.code] 0).run prog w= .ok (.int .i64 x.at_) w:=λx=>by kernel_rfl
 have a: ∀x:FltV,(part 28 #[.int .i64 x.at_,.int .i64 x.code] 1).run prog w= .ok (.int .i64 x.code) w:=λx=>by kernel_rfl
 have e:prog.underlying 30=some (.struct (prog.fieldsOf 30)):=m0
 rw[run_equalIn_agg w (d+1) 30 _ _ e c];unfold Program.fieldsOf;rw[underlying30];simp only[Op.eqFields,G9,Sem.run_ite,Sem.run_pure,b,a,H6,run_equalIn_int w d 3 .i64 .i64 _ _ underlying3,run_equalIn_int w d 28 .i64 .i64 _ _ underlying28];unfold nO;cases x.at_==y.at_<;>cases x.code==y.code<;>rfl
theorem fY{β:fS}{n:Nat}{Γ:Env}{H:List bK}{F:List Fact}{o:Oper}{a b:Operand}{tt:TypeId}(x y:FltV)(ho:o.op= .binOp .neq 30 a b tt)(hx:Γ.ev a=some (.agg #[k6 x.at_,k6 x.code]))(hy:Γ.ev b=some (.agg #[k6 y.at_,k6 y.code])):Sti prog β n Γ H F o (.bool (!nO x y)):=λc w S f s k=>by
 have hq:prog.eqGuardType prog.depth 30=false:=m0
 have hg:(eqGuard .neq 30 a b (.agg #[.int .i64 x.at_,.int .i64 x.code]) (.agg #[.int .i64 y.at_,.int .i64 y.code])).run prog w= .ok () w:=by unfold eqGuard;have d:(program:Sem Program).run prog w= .ok prog w:=rfl;simp[d,hq]
 have e:(binOp .neq 30 (.agg #[.int .i64 x.at_,.int .i64 x.code]) (.agg #[.int .i64 y.at_,.int .i64 y.code])).run prog w= .ok (.bool (!nO x y)) w:=by rw[run_neq_struct,bBb 9998 x y w];rfl
 unfold execOp;simp only[ho,f.ev hx,f.ev hy];rw[G9,G9,hg,H6,e];rfl
theorem tZ{β:fS}{n:Nat}{Γ:Env}{H:List bK}{F:List Fact}{o:Oper}{a b:Operand}{tt:TypeId}(x y:FltV)(ho:o.op= .binOp .eql 30 a b tt)(hx:Γ.ev a=some (.agg #[k6 x.at_,k6 x.code]))(hy:Γ.ev b=some (.agg #[k6 y.at_,k6 y.code])):Sti prog β n Γ H F o (.bool (nO x y)):=λc w S f s k=>by
 have hq:prog.eqGuardType prog.depth 30=false:=m0
 have hg:(eqGuard .eql 30 a b (.agg #[.int .i64 x.at_,.int .i64 x.code]) (.agg #[.int .i64 y.at_,.int .i64 y.code])).run prog w= .ok () w:=by unfold eqGuard;have d:(program:Sem Program).run prog w= .ok prog w:=rfl;simp[d,hq]
 have e:(binOp .eql 30 (.agg #[.int .i64 x.at_,.int .i64 x.code]) (.agg #[.int .i64 y.at_,.int .i64 y.code])).run prog w= .ok (.bool (nO x y)) w:=by rw[run_eql_struct,bBb 9998 x y w];rfl
 unfold execOp;simp only[ho,f.ev hx,f.ev hy];rw[G9,G9,hg,H6,e];rfl
def tokEq (x y:TokV):Bool:=((x.kind==y.kind)&&((x.at_==y.at_)&&((x.word==y.word)&&(x.n==y.n))))
theorem bOz(d:Nat)(x y:TokV)(w:World):(H7 (d+2) 110 (.agg #[k6 x.kind,k6 x.at_,.string (bs x.word),k6 x.n]) (.agg #[k6 y.kind,k6 y.at_,.string (bs y.word),k6 y.n])).run prog w= .ok (tokEq x y) w:=by
 have f:prog.stoodInHeld 110=false:=m0
 have e: ∀x:TokV,(part 3 #[.int .i64 x.kind,.int .i64 x.at_,.string (bs x.word),.int .i64 x.n] 0).run prog w= .ok (.int .i64 x.kind) w:=λx=>by kernel_rfl
 have c: ∀x:TokV,(part 3 #[.int .i64 x.kind,.int .i64 x.at_,.string (bs x.word),.int .i64 x.n] 1).run prog w= .ok (.int .i64 x.at_) w:=λx=>by kernel_rfl
 have b: ∀x:TokV,(part 9 #[.int .i64 x.kind,.int .i64 x.at_,.string (bs x.word),.int .i64 x.n] 2).run prog w= .ok (.string (bs x.word)) w:=λx=>by kernel_rfl
 have a: ∀x:TokV,(part 2 #[.int .i64 x.kind,.int .i64 x.at_,.string (bs x.word),.int .i64 x.n] 3).run prog w= .ok (.int .i64 x.n) w:=λx=>by kernel_rfl
 have g:prog.underlying 110=some (.struct (prog.fieldsOf 110)):=m0
 rw[run_equalIn_agg w (d+1) 110 _ _ g f];unfold Program.fieldsOf;rw[underlying110];simp only[Op.eqFields,G9,Sem.run_ite,Sem.run_pure,e,c,b,a,H6,run_equalIn_int w d 3 .i64 .i64 _ _ underlying3,bSt w d 9 _ _ underlying9,run_equalIn_int w d 2 .i64 .i64 _ _ underlying2];unfold tokEq;cases x.kind==y.kind<;>cases x.at_==y.at_<;>cases x.word==y.word<;>cases x.n==y.n<;>rfl
theorem sti_neq_tok{β:fS}{n:Nat}{Γ:Env}{H:List bK}{F:List Fact}{o:Oper}{a b:Operand}{tt:TypeId}(x y:TokV)(ho:o.op= .binOp .neq 110 a b tt)(hx:Γ.ev a=some (.agg #[k6 x.kind,k6 x.at_,.string (bs x.word),k6 x.n]))(hy:Γ.ev b=some (.agg #[k6 y.kind,k6 y.at_,.string (bs y.word),k6 y.n])):Sti prog β n Γ H F o (.bool (!tokEq x y)):=λc w S f s k=>by
 have hq:prog.eqGuardType prog.depth 110=false:=m0
 have hg:(eqGuard .neq 110 a b (.agg #[.int .i64 x.kind,.int .i64 x.at_,.string (bs x.word),.int .i64 x.n]) (.agg #[.int .i64 y.kind,.int .i64 y.at_,.string (bs y.word),.int .i64 y.n])).run prog w= .ok () w:=by unfold eqGuard;have d:(program:Sem Program).run prog w= .ok prog w:=rfl;simp[d,hq]
 have e:(binOp .neq 110 (.agg #[.int .i64 x.kind,.int .i64 x.at_,.string (bs x.word),.int .i64 x.n]) (.agg #[.int .i64 y.kind,.int .i64 y.at_,.string (bs y.word),.int .i64 y.n])).run prog w= .ok (.bool (!tokEq x y)) w:=by rw[run_neq_struct,bOz 9998 x y w];rfl
 unfold execOp;simp only[ho,f.ev hx,f.ev hy];rw[G9,G9,hg,H6,e];rfl
end
section
open Go.RowKit Go.Proofs.Tryz
theorem named0:prog.globalNamed "strings.asciiSpace" =some 1:=m0
theorem named7:prog.globalNamed "internal/strconv.uint64pow10" =some 7:=m0
def kG:Fact where
 p S w:=(S 1/\S 7/\S 0/\S 4)/\Lib.TabIs prog w "strings.asciiSpace" .u8 Lib.asciiSpaceTab/\Lib.TabIs prog w "internal/strconv.uint64pow10" .u64 Lib.pow10Tab/\
  (∃m,w.cell? ⟨0,0,none⟩=some (.int .i64 m))/\ ∃ev,w.cell? ⟨4,0,none⟩=some ev/\(ev= .nilIface\/ ∃te pe,ev= .iface te pe)
 mono:=λ{S S' w w'} hs ha h=>by
  obtain⟨⟨s0,s7,s4,s3⟩,h0,h7,⟨m,h4⟩,ev,h3,he⟩:=h;refine⟨⟨hs _ s0,hs _ s7,hs _ s4,hs _ s3⟩,?_,?_,⟨m,?_⟩,ev,?_,he⟩
  .unfold Lib.TabIs World.var? at*;rw[named0]at*;simp only[M4,ha _ s0]at*;exact h0
  .unfold Lib.TabIs World.var? at*;rw[named7]at*;simp only[M4,ha _ s7]at*;exact h7
  .unfold World.cell? at*;rw[ha _ s4];exact h4
  .unfold World.cell? at*;rw[ha _ s3];exact h3
theorem bEp{P:Program}{f:FuncId}{args:List Value}{Pre:List Fact}{v:Value}(h: ∀S w,All Pre S w->Calls P f args.toArray w λe w'=>e= .returned v/\w'=w):
  cY P f args [] Pre (λ_:Unit=>v) (λ_=>[]) (λ_=>[]):=jW λS w _ k=>(h S w k).mono λe w' ⟨he,a⟩=>⟨he,by rw[a];exact Below.refl _ _⟩
theorem bBr(s p:Bs):cY prog 146 [.string (bs s),.string (bs p)] [] [] (λ_:Unit=> .bool (p.isPrefixOf s)) (λ_=>[]) (λ_=>[]):=
 bEp λ_ w _=>Tryz.strings_HasPrefix (bs s) (bs p) w
theorem bUv(s:Bs)(b:UInt8):cY prog 147 [.string (bs s),k7 b.toNat] [] [] (λ_:Unit=> k6 (M5 s b)) (λ_=>[]) (λ_=>[]):=
 bEp λ_ w _=>by
  have h:=Tryz.strings_IndexByte (bs s) (b.toNat:Int) w;have e:((b.toNat:Int).toNat).toUInt8=b:=by simp
  rw[e]at h;exact h
theorem vA(b:UInt8): ∀l:Bs,(decide ((0:Int)<=M5 l b))=l.contains b/\(M5 l b= -1\/0<=M5 l b)
 |[]=>by simp[M5]
 |c::l=>by
  obtain⟨h1,h2⟩:=vA b l;unfold M5
  by_cases h:(c==b)=true
  .have:b=c:=(by simpa using h:c=b).symm;simp[this]
  .have a: ¬b=c:=λe=>h al9;simp only[h,J2,if_false]
   rcases h2 with h2|h2
   .rw[h2]at h1⊢;simp only[beq_self_eq_true,if_true];simp at h1;refine⟨?_,.inl i6⟩;simp[a,h1]
   .have: ¬M5 l b= -1:=l7
    have g:(M5 l b== -1)=false:=by simp[this]
    rw[g];simp only[J2,if_false];refine⟨?_,.inr l7⟩;have d:l.contains b=true:=by rw[<-h1];simp[h2]
    have f:b∈l:=by simpa using d
    simp[f];omega
theorem decV_ge: ∀(ds:Bs) (acc:Nat),acc<=decV ds acc
 |[],_=>B0 _
 |b::r,acc=>by have:=decV_ge r (10*acc+(b.toNat-48));simp only[decV];omega
theorem bKj: ∀(ds:Bs) (acc:Nat),(∀b∈ds,cX b=true)->acc<=18446744073709551615->M6 18446744073709551615 acc ds=if decV ds acc<=18446744073709551615 then .ok (decV ds acc)else .range
 |[],acc,_,h=>by simp[M6,decV,h]
 |b::r,acc,hd,h=>by
  have a:=hd b m9;simp only[cX,J3,decide_eq_true_eq]at a;have c:=decV_ge r (10*acc+(b.toNat-48));unfold M6 decV;rw[if_pos a];split
  .rw[if_neg l7]
  .split
   .rw[if_neg l7]
   .rw[bKj r _ (λx hx=>hd x af5) l7,show acc*10+(b.toNat-48)=10*acc+(b.toNat-48)from by omega]
theorem bJv{neg:Bool}{ds:Bs}(hne:ds≠[])(hd: ∀b∈ds,cX b=true):M7 64 ((if neg then [45]else [])++ds)=match pW neg ds with
  |some v=> .ok v
  |none=> .range:=by
 have hu:Lib.parseUintB 64 ds=if decV ds 0<=18446744073709551615 then .ok (decV ds 0)else .range:=by unfold Lib.parseUintB;rw[if_neg hne];exact bKj ds 0 hd l7
 cases neg with
 |true=>
  simp only[if_true,K4,M7];have e:((45:UInt8).toNat=43\/(45:UInt8).toNat=45):=m6
  have a:(45:UInt8).toNat=45:=m6
  rw[if_pos e,hu];unfold pW;simp only[if_true]
  by_cases h1:decV ds 0<=18446744073709551615
  .rw[if_pos h1]
   by_cases h2:decV ds 0<=9223372036854775808
   .simp[h2,a]
   .have d:9223372036854775808<decV ds 0:=l7
    simp[a,h2,d]
  .rw[if_neg h1,if_neg l7]
 |false=>
  cases ds with
  |nil=>exact absurd rfl hne
  |cons b r=>
   have c:=hd b m9;simp only[cX,J3,decide_eq_true_eq]at c;simp only[J2,if_false,K5,M7];have e: ¬(b.toNat=43\/b.toNat=45):=l7
   have a: ¬b.toNat=45:=l7
   rw[if_neg e,hu];unfold pW;simp only[J2,if_false]
   by_cases h1:decV (b::r) 0<=18446744073709551615
   .rw[if_pos h1]
    by_cases h2:decV (b::r) 0<=9223372036854775807
    .simp[h2,a];omega
    .simp[a,h2];omega
   .rw[if_neg h1,if_neg l7]
def bMl (neg:Bool):Bs:=if neg then [45]else []
theorem bNg(neg:Bool)(ds:Bs)(hne:ds≠[])(hd: ∀b∈ds,cX b=true)(hl:ds.length<=140737488355328){v:Int}(hv:pW neg ds=some v):
  cY prog 145 [.string (bs (bMl neg++ds)),k6 10,k6 64] [] [] (λ_:Unit=> .tuple #[k6 v,.nilIface]) (λ_=>[]) (λ_=>[]):=
 jW λ_ w _ _=>by
  have a:=bJv (neg:=neg) hne hd;rw[hv]at a;refine(Tryz.strconv_ParseInt_10_at64_ok (bs (bMl neg++ds)) (by rw[mM];unfold bMl;cases neg<;>simp<;>omega) v a w).mono ?_;rintro e c ⟨rfl,h⟩;refine⟨rfl,?_⟩
  rcases h with rfl|⟨t,rfl⟩
  .exact Below.refl _ _
  .exact Joins.below_bytesWorld _ _ _ _ (B0 _)
theorem bCz(neg:Bool)(ds:Bs)(hne:ds≠[])(hd: ∀b∈ds,cX b=true)(hl:ds.length<=140737488355328)(hv:pW neg ds=none):
  cY prog 145 [.string (bs (bMl neg++ds)),k6 10,k6 64] [] [kG] (λx:Int×Nat=> .tuple #[k6 x.1,.iface 261 (.pointer (some ⟨x.2,0,none⟩))]) (λ_=>[]) (λ_=>[]):=λS w s k=>by obtain⟨_,_,_,_,ev,i,he⟩:=k _ (.head _);have f:=bJv (neg:=neg) hne hd;rw[hv]at f;refine(Tryz.strconv_ParseInt_10_at64_range (bs (bMl neg++ds)) (by rw[mM];unfold bMl;cases neg<;>simp<;>omega) f ev w i he).mono ?_;rintro e j ⟨N,rfl,_,_,h⟩;exact⟨(_,N),S,rfl,⟨pU.of_below _ h,λc d=>by simp at d,λc d=>by simp at d,List.Pairwise.nil,λb a=>⟨Nat.lt_of_lt_of_le (s.W b a).1 h.size,.inl a⟩⟩,λg hg=>by simp at hg⟩
end
section
open Go.RowKit Go.Proofs.Tryz
theorem dM{b k:UInt8}(h:(b.toNat:Int)=(k.toNat:Int)):b=k:=L8.1 l7
theorem dL{b k:UInt8}(h:(b.toNat:Int)≠(k.toNat:Int)):b≠k:=λe=>h (by rw[e])
theorem pre2(k b:UInt8)(r:Bs):[k,61].isPrefixOf (b::r)=(b==k&&r.head?==some 61):=by
 cases r with
 |nil=>simp[List.isPrefixOf]
 |cons c r=>
  show((k==b)&&(((61:UInt8)==c)&&true))=(b==k&&(c==61));rw[show(k==b)=(b==k)from BEq.comm,show((61:UInt8)==c)=(c==61)from BEq.comm,Bool.and_true]
section
variable {b : UInt8} {r : Bs}
theorem sign_a(h:([60,61]:Bs).isPrefixOf (b::r)=true):M0 .i64 2=M0 .i64 ((gQ (b::r):Nat):Int):=by rw[pre2]at h;simp only[J3,beq_iff_eq]at h;simp[gQ,h.1,h.2]
theorem sign_b(_:([60,61]:Bs).isPrefixOf (b::r)=false)(h:([62,61]:Bs).isPrefixOf (b::r)=true):M0 .i64 2=M0 .i64 ((gQ (b::r):Nat):Int):=by rw[pre2]at h;simp only[J3,beq_iff_eq]at h;simp[gQ,h.1,h.2]
theorem sign_no(h1:([60,61]:Bs).isPrefixOf (b::r)=false)(h2:([62,61]:Bs).isPrefixOf (b::r)=false):((b==60 || b==62)&&r.head?==some 61)=false:=by rw[pre2]at h1 h2;generalize (b==60)=x at*;generalize (b==62)=y at*;generalize (r.head?==some 61)=z at*;cases x<;>cases y<;>cases z<;>simp_all
theorem sign_c(h1:([60,61]:Bs).isPrefixOf (b::r)=false)(h2:([62,61]:Bs).isPrefixOf (b::r)=false)(h3:(0:Int)<=M5 ([43,45,42,37,124,61,126,60,62,47,92,46,58,40,41]:Bs) b):M0 .i64 1=M0 .i64 ((gQ (b::r):Nat):Int):=by have h4:=(vA b ([43,45,42,37,124,61,126,60,62,47,92,46,58,40,41]:Bs)).1;rw[decide_eq_true h3]at h4;have a:fR.contains b=true:=h4.symm;simp only[gQ,sign_no h1 h2,J2,if_false,a,if_true];rfl
theorem sign_d(h1:([60,61]:Bs).isPrefixOf (b::r)=false)(h2:([62,61]:Bs).isPrefixOf (b::r)=false)(h3:M5 ([43,45,42,37,124,61,126,60,62,47,92,46,58,40,41]:Bs) b<0):M0 .i64 0=M0 .i64 ((gQ (b::r):Nat):Int):=by have h4:=(vA b ([43,45,42,37,124,61,126,60,62,47,92,46,58,40,41]:Bs)).1;rw[decide_eq_false l7]at h4;have a:fR.contains b=false:=h4.symm;simp only[gQ,sign_no h1 h2,J2,if_false,a];rfl
theorem zQ(p:UInt8->Bool): ∀s:Bs,∀b∈s.take (runB p s),p b=true
 |[],_,h=>by simp at h
 |c::s,b,h=>by
  unfold runB at h;split at h
  .rename_i a;rw[List.take_succ_cons,E2]at h
   rcases h with rfl|h
   .exact a
   .exact zQ p s b h
  .simp at h
theorem bPs{s:Bs}{k:Nat}(h:((k:Nat):Int)≠0)(hk:k<=s.length):s.take k≠[]:=λe=>by
 have:(s.take k).length=0:=by rw[e];rfl
 rw[K6]at this;omega
def numV:Except Int (Option TokR)->Value
 |.error e=> .tuple #[.int .i64 0,.int .i64 0,.int .i64 e]
 |.ok none=> .tuple #[.int .i64 0,.int .i64 0,.int .i64 0]
 |.ok (some t)=> .tuple #[.int .i64 t.2.2.1,.int .i64 (t.2.2.2:Nat),.int .i64 0]
theorem num_m0(hb:b=95):jE b r=if runB cX r=0 then .ok none else match pW true (r.take (runB cX r))with
  |none=> .error 32
  |some v=> .ok (some (2,[],v,runB cX r+1)):=by subst hb;rfl
theorem num_p0(hb:b≠95):jE b r=if runB cX (b::r)=0 then .ok none else match pW false ((b::r).take (runB cX (b::r)))with
  |none=> .error 32
  |some v=> .ok (some (2,[],v,runB cX (b::r)+0)):=by
 have:(b==95)=false:=by simp[hb]
 unfold jE;rw[this];rfl
theorem cast0{n:Nat}(h:((n:Nat):Int)=0):n=0:=l7
theorem castn{n:Nat}(h:((n:Nat):Int)≠0):n≠0:=l7
theorem num_mz(hb:b=95)(hk:((runB cX ((b::r).drop 1):Nat):Int)=0):M1 #[k6 0,k6 0,k6 0]=numV (jE b r):=by have hk:runB cX r=0:=cast0 hk;rw[num_m0 hb,if_pos hk];rfl
theorem num_me(hb:b=95)(hk:((runB cX ((b::r).drop 1):Nat):Int)≠0)(hv:pW true (((b::r).drop 1).take (runB cX ((b::r).drop 1)))=none):M1 #[k6 0,k6 0,k6 32]=numV (jE b r):=by have hk: ¬runB cX r=0:=castn hk;have hv:pW true (r.take (runB cX r))=none:=hv;rw[num_m0 hb,if_neg hk,hv];rfl
theorem num_mo{v:Int}(hb:b=95)(hk:((runB cX ((b::r).drop 1):Nat):Int)≠0)(hv:pW true (((b::r).drop 1).take (runB cX ((b::r).drop 1)))=some v):
  M1 #[k6 v,k6 (((runB cX ((b::r).drop 1))+([45]:Bs).length:Nat):Int),k6 0]=numV (jE b r):=by have hk: ¬runB cX r=0:=castn hk;have hv:pW true (r.take (runB cX r))=some v:=hv;rw[num_m0 hb,if_neg hk,hv];rfl
theorem num_pz(hb:b≠95)(hk:((runB cX (b::r):Nat):Int)=0):M1 #[k6 0,k6 0,k6 0]=numV (jE b r):=by rw[num_p0 hb,if_pos (cast0 hk)];rfl
theorem num_pe(hb:b≠95)(hk:((runB cX (b::r):Nat):Int)≠0)(hv:pW false ((b::r).take (runB cX (b::r)))=none):M1 #[k6 0,k6 0,k6 32]=numV (jE b r):=by rw[num_p0 hb,if_neg (castn hk),hv];rfl
theorem num_po{v:Int}(hb:b≠95)(hk:((runB cX (b::r):Nat):Int)≠0)(hv:pW false ((b::r).take (runB cX (b::r)))=some v):
  M1 #[k6 v,k6 (((runB cX (b::r))+([]:Bs).length:Nat):Int),k6 0]=numV (jE b r):=by rw[num_p0 hb,if_neg (castn hk),hv];rfl
theorem bSs{e:Int}(h:jE b r= .error e):e=32:=by
 unfold jE at h
 by_cases a:(b==95)=true
 .simp only[a,if_true]at h;split at h
  .cases h
  .split at h
   .cases h;rfl
   .cases h
 .simp only[a,J2,if_false]at h;split at h
  .cases h
  .split at h
   .cases h;rfl
   .cases h
def bCr:Except Int TokR->Value
 |.error e=> .tuple #[.agg #[.int .i64 (if e=32 then 2 else 0),.int .i64 0,.string (bs []),.int .i64 0],.int .i64 0,.int .i64 e]
 |.ok t=> .tuple #[.agg #[.int .i64 t.1,.int .i64 0,.string (bs t.2.1),.int .i64 t.2.2.1],.int .i64 (t.2.2.2:Nat),.int .i64 0]
section
variable (h1 : b ≠ 10) (h2 : lC b = false)
theorem zY(h:b=10):M1 #[.agg #[k6 4,k6 0,.string (bs []),k6 0],k6 1,k6 0]=bCr (fD (b::r)):=by subst h;rfl
include h1
theorem zL(h2:lC b=true)(h3:((runB kU (b::r):Nat):Int)<=16):M1 #[.agg #[k6 1,k6 0,.string (bs ((b::r).take (runB kU (b::r)))),k6 0],k6 (runB kU (b::r):Nat),k6 0]=bCr (fD (b::r)):=by
 have e:fD (b::r)= .ok (1,(b::r).take (runB kU (b::r)),0,runB kU (b::r)):=by simp only[fD,beq_iff_eq,h1,if_false,h2,if_true];rw[if_neg l7]
 rw[e];rfl
theorem bAh(h2:lC b=true)(h3:(16:Int)<((runB kU (b::r):Nat):Int)):M1 #[.agg #[k6 0,k6 0,.string (bs []),k6 0],k6 0,k6 33]=bCr (fD (b::r)):=by
 have e:fD (b::r)= .error 33:=by simp only[fD,beq_iff_eq,h1,if_false,h2,if_true];rw[if_pos l7]
 rw[e];rfl
include h2
theorem bAk{e:Int}(h:jE b r= .error e)(he:e=32):M1 #[.agg #[k6 2,k6 0,.string (bs []),k6 0],k6 0,k6 e]=bCr (fD (b::r)):=by
 have q:fD (b::r)= .error e:=by simp only[fD,beq_iff_eq,h1,if_false,h2,J2,h]
 rw[q,he];rfl
theorem zP{kk v:Int}{ww:Bs}{m:Nat}(h:jE b r= .ok (some (kk,ww,v,m))):M1 #[.agg #[k6 2,k6 0,.string (bs []),k6 v],k6 (m:Nat),k6 0]=bCr (fD (b::r)):=by
 have q:fD (b::r)= .ok (kk,ww,v,m):=by simp only[fD,beq_iff_eq,h1,if_false,h2,J2,h]
 have a:kk=2/\ww=[]:=by
  unfold jE at h
  by_cases c:(b==95)=true
  .simp only[c,if_true]at h;split at h
   .cases h
   .split at h
    .cases h
    .cases h;exact⟨rfl,rfl⟩
  .simp only[c,J2,if_false]at h;split at h
   .cases h
   .split at h
    .cases h
    .cases h;exact⟨rfl,rfl⟩
 rw[q,a.1,a.2];rfl
theorem zZ(h:jE b r= .ok none)(h3:((gQ (b::r):Nat):Int)=0):M1 #[.agg #[k6 0,k6 0,.string (bs []),k6 0],k6 0,k6 31]=bCr (fD (b::r)):=by
 have e:fD (b::r)= .error 31:=by simp only[fD,beq_iff_eq,h1,if_false,h2,J2,h];rw[if_pos (cast0 h3)]
 rw[e];rfl
theorem bAb(h:jE b r= .ok none)(h3:((gQ (b::r):Nat):Int)≠0):M1 #[.agg #[k6 3,k6 0,.string (bs ((b::r).take (gQ (b::r)))),k6 0],k6 (gQ (b::r):Nat),k6 0]=bCr (fD (b::r)):=by
 have e:fD (b::r)= .ok (3,(b::r).take (gQ (b::r)),0,gQ (b::r)):=by simp only[fD,beq_iff_eq,h1,if_false,h2,J2,h];rw[if_neg (castn h3)]
 rw[e];rfl
end
end
theorem sign_spec(b:UInt8)(r:Bs):cY prog 117 [.string (bs (b::r))] [] [] (λ(_:Unit)=> k6 (gQ (b::r):Nat)) (λ_=>[]) (λ_=>[]):=by
 have hT:=gJ;refine j5 func117 ntmps117 ?_;intro β hM;refine g10 ?_;refine bD func146 (bBr _ ([60,61]:Bs)) rfl rfl .nil i6 λ_=>?_;refine one ?_;refine cG (λhg6=>?_) (λhg6=>?_)
 .refine g15 ?_;exact rs1 () i6 (he:=ac0)
 refine one ?_;refine bD func146 (bBr _ ([62,61]:Bs)) rfl rfl .nil i6 λ_=>?_;refine g4 ?_;refine fX (λhc3=>?_) λhc3=>?_
 .refine g8 ?_;exact rs1 () i6 (he:=ac0)
 refine g3 ?_;refine ss (fM hT (k:=0) rfl rfl rfl rfl rfl rfl) ?_;refine j2 func147 (bUv ([43,45,42,37,124,61,126,60,62,47,92,46,58,40,41]:Bs) b) i6 λ_=>?_;refine g4 ?_;refine bLv (λhc10=>?_) λhc10=>?_
 .refine g8 ?_;exact rs1 () i6 (he:=ac0)
 refine g9 ?_;exact rs1 () i6 (he:=ac0)
theorem bCp(b:UInt8)(r:Bs)(hl:(b::r).length<=65536):cY prog 116 [.string (bs (b::r))] [] [kG] (λ(_:Unit)=>numV (jE b r)) (λ_=>[]) (λ_=>[]):=by
 have hT:=gJ;refine j5 func116 ntmps116 ?_;intro β hM;refine g18 ?_;refine ss (fM hT (k:=0) rfl rfl rfl rfl rfl rfl) ?_;refine g3 ?_;refine fX (λc=>?_) λc=>?_
 .have c:b=95:=dM (k:=95) (eq_of_beq c);refine g2 ?_;refine ss (cAh hT (k:=1) rfl rfl rfl rfl rfl m9) ?_;refine g7 ?_;refine bD func80 (bIo ((b::r).drop 1) ae5 _ cX (bY func115 rfl rfl) bGn) rfl rfl .nil i6 λ_=>?_;refine g5 ?_;have e:runB cX ((b::r).drop 1)<=65536:=Nat.le_trans (lB _ _) ae5;refine g5 ?_;refine gN (λhc19=>?_) λhc19=>?_
  .refine g9 ?_;exact rs3 () i6 (he:=num_mz c hc19)
  have d:=lB cX ((b::r).drop 1);refine g3 ?_
  rcases hv:pW true (((b::r).drop 1).take (runB cX ((b::r).drop 1)))with _|v
  .have a:(((b::r).drop 1).take (runB cX ((b::r).drop 1)))≠[]:=bPs hc19 d;refine g4 ?_;refine ss (bDx hT (k:=(runB cX ((b::r).drop 1))) rfl rfl rfl rfl rfl (lB _ _)) ?_;refine ss (dJ rfl rfl rfl ae5) ?_;refine bD func145 (bCz true (((b::r).drop 1).take (runB cX ((b::r).drop 1))) a (zQ _ _) ae5 hv) rfl rfl .nil ⟨d7,i6⟩ λ⟨z1,N2⟩=>?_;refine g11 ?_;refine ss (sti_err underlying181 rfl rfl) ?_;refine g12 ?_;exact rs3 () i6 (he:=num_me c hc19 hv)
  have a:(((b::r).drop 1).take (runB cX ((b::r).drop 1)))≠[]:=bPs hc19 d;refine g4 ?_;refine ss (bDx hT (k:=(runB cX ((b::r).drop 1))) rfl rfl rfl rfl rfl (lB _ _)) ?_;refine ss (dJ rfl rfl rfl ae5) ?_;refine bD func145 (bNg true (((b::r).drop 1).take (runB cX ((b::r).drop 1))) a (zQ _ _) ae5 hv) rfl rfl .nil i6 λ_=>?_;refine g11 ?_;refine ss (bYc underlying181 rfl rfl) ?_;refine g6 ?_;have f:([45]:Bs).length=1:=rfl;have g:([]:Bs).length=0:=rfl;refine g5 ?_;refine bJ (z':=((([45]:Bs).length:Nat):Int)) rfl ?_;refine one ?_;refine inc ((runB cX ((b::r).drop 1))+([45]:Bs).length) ?_;refine g6 ?_;exact rs3 () i6 (he:=num_mo c hc19 hv)
 have c:b≠95:=dL (k:=95) (beq_eq_false_iff_ne.1 c);refine g5 ?_;refine bD func80 (bIo (b::r) ae5 _ cX (bY func115 rfl rfl) bGn) rfl rfl .nil i6 λ_=>?_;refine g5 ?_;have e:runB cX (b::r)<=65536:=Nat.le_trans (lB _ _) ae5;refine g5 ?_;refine gN (λhc19=>?_) λhc19=>?_
 .refine g9 ?_;exact rs3 () i6 (he:=num_pz c hc19)
 have d:=lB cX (b::r);refine g3 ?_
 rcases hv:pW false ((b::r).take (runB cX (b::r)))with _|v
 .have a:((b::r).take (runB cX (b::r)))≠[]:=bPs hc19 d;refine g4 ?_;refine ss (bDx hT (k:=(runB cX (b::r))) rfl rfl rfl rfl rfl (lB _ _)) ?_;refine ss (dJ rfl rfl rfl ae5) ?_;refine bD func145 (bCz false ((b::r).take (runB cX (b::r))) a (zQ _ _) ae5 hv) rfl rfl .nil ⟨d7,i6⟩ λ⟨z3,N4⟩=>?_;refine g11 ?_;refine ss (sti_err underlying181 rfl rfl) ?_;refine g12 ?_;exact rs3 () i6 (he:=num_pe c hc19 hv)
 have a:((b::r).take (runB cX (b::r)))≠[]:=bPs hc19 d;refine g4 ?_;refine ss (bDx hT (k:=(runB cX (b::r))) rfl rfl rfl rfl rfl (lB _ _)) ?_;refine ss (dJ rfl rfl rfl ae5) ?_;refine bD func145 (bNg false ((b::r).take (runB cX (b::r))) a (zQ _ _) ae5 hv) rfl rfl .nil i6 λ_=>?_;refine g11 ?_;refine ss (bYc underlying181 rfl rfl) ?_;refine g6 ?_;have f:([45]:Bs).length=1:=rfl;have g:([]:Bs).length=0:=rfl;refine g5 ?_;refine bJ (z':=((([]:Bs).length:Nat):Int)) rfl ?_;refine one ?_;refine inc ((runB cX (b::r))+([]:Bs).length) ?_;refine g6 ?_;exact rs3 () i6 (he:=num_po c hc19 hv)
end
section
open Go.RowKit Go.Proofs.Tryz
theorem number_err{e:Int}(b:UInt8)(r:Bs)(hl:(b::r).length<=65536)(h:jE b r= .error e):cY prog 116 [.string (bs (b::r))] [] [kG] (λ_:Unit=> .tuple #[k6 0,k6 0,k6 e]) (λ_=>[]) (λ_=>[]):=by have:=bCp b r hl;rw[h]at this;exact this
theorem number_none(b:UInt8)(r:Bs)(hl:(b::r).length<=65536)(h:jE b r= .ok none):cY prog 116 [.string (bs (b::r))] [] [kG] (λ_:Unit=> .tuple #[k6 0,k6 0,k6 0]) (λ_=>[]) (λ_=>[]):=by have:=bCp b r hl;rw[h]at this;exact this
theorem number_some{kk v:Int}{ww:Bs}{m:Nat}(b:UInt8)(r:Bs)(hl:(b::r).length<=65536)(h:jE b r= .ok (some (kk,ww,v,m))):cY prog 116 [.string (bs (b::r))] [] [kG] (λ_:Unit=> .tuple #[k6 v,k6 (m:Nat),k6 0]) (λ_=>[]) (λ_=>[]):=by have:=bCp b r hl;rw[h]at this;exact this
theorem bDb:(prog.info? 110).bind (·.zero)=some (.agg #[k6 0,k6 0,.string (bs []),k6 0]):=m0
theorem yP(z0:Int):prog.built 110 [(0,k6 z0)]=some #[k6 z0,k6 0,.string (bs []),k6 0]:=m0
theorem sI:prog.built 110 []=some #[k6 0,k6 0,.string (bs []),k6 0]:=m0
theorem qE(z0:Int)(s2:ByteArray):prog.built 110 [(0,k6 z0),(2,.string s2)]=some #[k6 z0,k6 0,.string s2,k6 0]:=m0
theorem qI(z0:Int)(z3:Int):prog.built 110 [(0,k6 z0),(3,k6 z3)]=some #[k6 z0,k6 0,.string (bs []),k6 z3]:=m0
theorem bQi(b:UInt8)(r:Bs)(hl:(b::r).length<=65536):cY prog 82 [.string (bs (b::r))] [] [kG] (λ(_:Unit)=>bCr (fD (b::r))) (λ_=>[]) (λ_=>[]):=by
 have hT:=gJ;refine j5 func82 ntmps82 ?_;intro β hM;refine g2 ?_;refine j1 bDb λh=>?_;refine g8 ?_;refine ss (fM hT (k:=0) rfl rfl rfl rfl rfl rfl) ?_;refine g3 ?_;refine fX (λhc11=>?_) λhc11=>?_
 .have hc11:b=10:=dM (k:=10) (eq_of_beq hc11);refine g2 ?_;refine ss (j3 (yP _)) ?_;refine g7 ?_;exact rs3 () i6 (he:=q8)
 have hc11:b≠10:=dL (k:=10) (beq_eq_false_iff_ne.1 hc11);refine g6 ?_;refine ss (fM hT (k:=0) rfl rfl rfl rfl rfl rfl) ?_;refine bD func113 (bNi _) rfl rfl .nil i6 λ_=>?_;refine g2 ?_;refine fX (λhc15=>?_) λhc15=>?_
 .refine g3 ?_;refine bD func80 (bIo (b::r) l7 _ kU (bY func114 rfl rfl) word_spec) rfl rfl .nil i6 λ_=>?_;refine g10 ?_;refine dP (λhc19=>?_) λhc19=>?_
  .refine g2 ?_;refine ss (j3 (sI)) ?_;refine g8 ?_;exact rs3 () i6 (he:=q8)
  refine g6 ?_;refine ss (bDx hT (k:=(runB kU (b::r))) rfl rfl rfl rfl rfl (lB _ _)) ?_;refine ss (j3 (qE _ _)) ?_;refine g8 ?_;exact rs3 () i6 (he:=q8)
 refine g3 ?_
 rcases hnt:jE b r with e|_|⟨g,f,v,m⟩
 .have he:=bSs hnt;refine g2 ?_;refine j2 func116 (number_err b r hl hnt) ⟨d7,i6⟩ λ_=>?_;refine g14 ?_;refine bC (t':=false) m6 ?_;refine g6 ?_;refine uD (λc=>?_) λc=>?_
  .refine g3 ?_;refine ss (j3 (qI _ _)) ?_;refine g9 ?_;exact rs3 () i6 (he:=q8)
  omega
 .skip
  refine g2 ?_;refine j2 func116 (number_none b r hl hnt) ⟨d7,i6⟩ λ_=>?_;refine g14 ?_;refine bC (t':=false) m6 ?_;refine g3 ?_;refine bC (t':=false) m6 ?_;refine g10 ?_;refine j2 func117 (sign_spec b r) i6 λ_=>?_;refine g9 ?_;refine gN (λhc45=>?_) λhc45=>?_
  .refine g2 ?_;refine ss (j3 (sI)) ?_;refine g7 ?_;exact rs3 () i6 (he:=q8)
  refine g6 ?_;refine ss (bDx hT (k:=(gQ (b::r))) rfl rfl rfl rfl rfl (bDc _)) ?_;refine ss (j3 (qE _ _)) ?_;refine g7 ?_;exact rs3 () i6 (he:=q8)
 have d:=bQs hnt;dsimp only at d;refine g2 ?_;refine j2 func116 (number_some b r hl hnt) ⟨d7,i6⟩ λ_=>?_;refine g15 ?_;refine lR (λa=>?_) λa=>?_
 .refine g9 ?_;refine ss (j3 (qI _ _)) ?_;refine g9 ?_;exact rs3 () i6 (he:=q8)
 omega
theorem token_err{e:Int}(b:UInt8)(r:Bs)(hl:(b::r).length<=65536)(h:fD (b::r)= .error e):cY prog 82 [.string (bs (b::r))] [] [kG] (λ_:Unit=> .tuple #[.agg #[k6 (if e=32 then 2 else 0),k6 0,.string (bs []),k6 0],k6 0,k6 e]) (λ_=>[]) (λ_=>[]):=by have:=bQi b r hl;rw[h]at this;exact this
theorem token_ok{k v:Int}{wd:Bs}{m:Nat}(b:UInt8)(r:Bs)(hl:(b::r).length<=65536)(h:fD (b::r)= .ok (k,wd,v,m)):cY prog 82 [.string (bs (b::r))] [] [kG] (λ_:Unit=> .tuple #[.agg #[k6 k,k6 0,.string (bs wd),k6 v],k6 (m:Nat),k6 0]) (λ_=>[]) (λ_=>[]):=by have:=bQi b r hl;rw[h]at this;exact this
end
section
open Go.RowKit Go.Proofs.Tryz
section
variable {P : Program} {β : fS} {n : Nat} {Γ : Env} {H : List bK} {F : List Fact} {Q : Exit -> Act -> World -> Prop} {K : Act -> World -> Prop} {T : Tab} {α : Type} {E : Flat α}
theorem elem_of{t e:Nat}(hu:P.underlying t=some (.slice e)):P.elem t=e:=by simp[Program.elem,hu]
theorem bXy(hT:gA P T){t e sz:Nat}{ei:TI}(ht:T.get t=some ⟨.slice e,sz⟩)(he:T.get e=some ei){A:Option Addr}{l c k:Nat}(hk:k<=c)(kk:IntKind)(w:World):(Instr.sliceAt t (.slice A l c) none (some (.int kk (k:Nat))) none).run P w= .ok (.slice A k c) w:=by
 obtain⟨d,hu,a⟩:=hT.any ht;cases d<;>simp[TD.of]at a
 subst a;have hel:=elem_of hu;rw[run_sliceAt_slice w t _ _ _ _ am1,run_slice_h w t A l c am1 kk (k:Int) l7 l7,hel,hT.size he];simp only[H6,sliced,Int.toNat_natCast,Nat.zero_mul,Nat.sub_zero]
 congr 2
 split
 .rfl
 .cases A<;>simp[Addr.add]
theorem run_cutFrom(hT:gA P T){t e sz:Nat}{ei:TI}(ht:T.get t=some ⟨.slice e,sz⟩)(he:T.get e=some ei){A:Option Addr}{l c k:Nat}(hk:k<=l)(kk:IntKind)(w:World):(Instr.sliceAt t (.slice A l c) (some (.int kk (k:Nat))) none none).run P w= .ok (.slice (iS A k ei.size c) (l-k) (c-k)) w:=by
 obtain⟨d,hu,a⟩:=hT.any ht;cases d<;>simp[TD.of]at a
 subst a;have hel:=elem_of hu;rw[run_sliceAt_slice w t _ _ _ _ am1,run_slice_l w t A l c am1 kk (k:Int) l7 l7,hel,hT.size he];simp only[H6,sliced,Int.toNat_natCast,iS]
theorem jH{ops:Array Oper}{rest:List Oper}{o:Oper}(hT:gA P T){d t e sz k m cap:Nat}{ei:TI}{x i:Operand}{kk:IntKind}{z:Int}{A:Option Addr}{xs:List α}{H':List bK}(hH:cT H (E.row (.slice A m cap) e xs) H')(hw:want ops Γ o=some true)(ho:o.op= .slice t x none (some i) none)(hd:o.dst=some d)(hn:B2 d n=true)
  (hx:Γ.ev x=some (.slice A m cap)) (hi:Γ.ev i=some (.int kk z)) (ht:T.get t=some ⟨.slice e,sz⟩) (he:T.get e=some ei) (hz:z=(k:Nat)) (hk:k<=xs.length)
  (K:At β n ((d,.slice A (xs.take k).length cap)::Γ) (E.row (.slice A (xs.take k).length cap) e (xs.take k)::H') F (wpList P ops Q rest)):At β n Γ H F (wpList P ops Q (o::rest)):=
 lN hw λa w S f s u=>by
  subst hz;have h:w.ownsRow 0 e E.size (.slice A m cap) xs.length (E.all xs):=s.ok _ hH.mem
  have b:k<=cap/\(xs.take k).length=k/\w.ownsRow 0 e E.size (.slice A (xs.take k).length cap) (xs.take k).length (E.all (xs.take k)):=by
   have hl:(xs.take k).length=k:=by simp;omega
   have j:E.all (xs.take k)=(E.all xs).take (k*E.size):=by have:=E.all_append (xs.take k) (xs.drop k);rw[List.take_append_drop]at this;rw[this,List.take_left' (by rw[E.all_length,hl])]
   rcases h.2 with ⟨c,B⟩|⟨g,q,p,c,h1,h2,C,h4,y,v⟩
   .injection c with c e2 e3
    subst c e3;have:xs=[]:=F7 B;subst this;have l:k=0:=by simpa using hk
    subst l;exact⟨B0 _,hl,⟨by simp[Flat.all],.inl ⟨rfl,rfl⟩⟩⟩
   .injection c with c e2 e3
    subst c e3;refine⟨l7,hl,⟨by rw[E.all_length],.inr ⟨g,cap,p,rfl,h1,h2,l7,h4,y,?_⟩⟩⟩;rw[j,hl,<-v,List.take_take]
    congr 1
    exact(L3 (Nat.mul_le_mul_right _ hk)).symm
  have hr:(execOp a.eval o).run P w= .ok (.value (.slice A (xs.take k).length cap)) w:=by unfold execOp;simp only[ho,f.ev hx,J8,J9,f.ev hi];rw[G9,bXy hT ht he b.1,b.2.1];rfl
  unfold Oper.wp;rw[hr,Oper.upon_value,hd];have s2:=s.perm hH.perm;have r:=s2.swap_row (v':= .slice A (xs.take k).length cap) (w':=w) (pU.refl _ _) (.inl (by cases A<;>rfl)) b.2.2;exact K _ _ S (f.put w6 _) r u
theorem bFo{b:Nat}{cs:List Value}{t:TypeId}{H':List bK}(hH:cT H (.obj b (.cells cs.toArray t)) H')(h:At β n Γ H' (Fact.cells b 0 cs::F) K):At β n Γ H F K:=λa w S f s k=>by
 have s2:=s.perm hH.perm;have l:w.heap[b]?=some (.cells cs.toArray t):=s2.ok _ (E8 ..);have d:=List.pairwise_cons.1 s2.sep;have g:=s2.own _ (E8 ..);have e:All F (λx=>S x\/x=b) w:=All.mono (λ_ h=> .inl h) (λ_ _=>rfl) k;refine h a w (λx=>S x\/x=b) f ⟨s2.kept,λc i=>s2.ok c (E4 _ i),λc i x hx=>?_,d.2,λx hx=>?_⟩ (All.cons ?_ e)
 .obtain⟨h1,h2,o⟩:=s2.own c (E4 _ i) x hx;refine⟨h1,h2,λh=>?_⟩
  rcases h with h|h
  .exact o h
  .subst h;exact d.1 c i _ rfl hx
 .rcases hx with hx|hx
  .exact s2.W x hx
  .subst hx;obtain⟨h1,h2,_⟩:=g _ rfl;exact⟨h1,.inr h2⟩
 .refine⟨.inr rfl,λj u m=>?_⟩;unfold World.cell?;rw[l]
  simpa using m
theorem sti_fn{o:Oper}{x:Operand}{t tt:TypeId}{ps rs:Array TypeId}{vr:Bool}(hu:P.underlying t=some (.func ps rs vr)){fn:Fn}{a b:Array Value}(ho:o.op= .binOp .neq t x (.const .nilFunc) tt)(hx:Γ.ev x=some (.func fn a b)):Sti P β n Γ H F o (.bool true):=λc w S f s k=>by
 unfold execOp;have e:c.eval (.const .nilFunc)= .nilFunc:=rfl;have he: ∀d,(H7 (d+1) t (.func fn a b) .nilFunc).run P w= .ok false w:=λd=>by simp[H7,run_underlying hu]
 have g:(binOp .neq t (.func fn a b) .nilFunc).run P w= .ok (.bool true) w:=by simp only[binOp];rw[G9,show M3 t (.func fn a b) .nilFunc=H7 10000 t (.func fn a b) .nilFunc from rfl,he 9999];rfl
 have hg:(eqGuard .neq t x (.const .nilFunc) (.func fn a b) .nilFunc).run P w= .ok () w:=rfl;simp only[ho,f.ev hx,e];rw[G9,G9,hg,H6,g];rfl
theorem sti_nofn{o:Oper}{x:Operand}{t tt:TypeId}{ps rs:Array TypeId}{vr:Bool}(hu:P.underlying t=some (.func ps rs vr))(ho:o.op= .binOp .neq t x (.const .nilFunc) tt)(hx:Γ.ev x=some .nilFunc):Sti P β n Γ H F o (.bool false):=λc w S f s k=>by
 unfold execOp;have e:c.eval (.const .nilFunc)= .nilFunc:=rfl;have he: ∀d,(H7 (d+1) t .nilFunc .nilFunc).run P w= .ok true w:=λd=>by simp[H7,run_underlying hu]
 have a:(binOp .neq t .nilFunc .nilFunc).run P w= .ok (.bool false) w:=by simp only[binOp];rw[G9,show M3 t .nilFunc .nilFunc=H7 10000 t .nilFunc .nilFunc from rfl,he 9999];rfl
 have hg:(eqGuard .neq t x (.const .nilFunc) .nilFunc .nilFunc).run P w= .ok () w:=rfl;simp only[ho,f.ev hx,e];rw[G9,G9,hg,H6,a];rfl
theorem Has.cons{f g:Fact}{F:List Fact}(h:Has F g):Has (f::F) g:=λS w k=>h S w λx hx=>k x (E4 _ hx)
theorem Has.each_nil{α:Type}{g:α->Fact}{F:List Fact}:Has F (Fact.each [] g):=λ_ _ _ x hx=>by simp at hx
theorem Has.each_cons{α:Type}{g:α->Fact}{F:List Fact}{x:α}{l:List α}(hx:Has F (g x))(hl:Has F (Fact.each l g)):Has F (Fact.each (x::l) g):=λS w k y hy=>by
 rcases E2.1 hy with rfl|hy
 .exact hx S w k
 .exact hl S w k y hy
theorem Has.each_tail{α:Type}{g:α->Fact}{F:List Fact}{x:α}{l:List α}(h:Has F (Fact.each (x::l) g)):Has F (Fact.each l g):=λS w k y hy=>h S w k y (E4 _ hy)
theorem Has.each_snoc{α:Type}{g:α->Fact}{F:List Fact}{x:α}{l:List α}(hl:Has F (Fact.each l g))(hx:Has F (g x)):Has F (Fact.each (l++[x]) g):=λS w k y hy=>by
 rcases E3.1 hy with hy|hy
 .exact hl S w k y hy
 .rw[K7.1 hy];exact hx S w k
theorem iY(hT:gA P T){o:Oper}{t e sz k l cap:Nat}{ei:TI}{x i:Operand}{kk:IntKind}{z:Int}{A:Option Addr}(ho:o.op= .slice t x none (some i) none)(hx:Γ.ev x=some (.slice A l cap))(hi:Γ.ev i=some (.int kk z))
  (ht:T.get t=some ⟨.slice e,sz⟩) (he:T.get e=some ei) (hz:z=(k:Nat)) (hk:k<=cap):Sti P β n Γ H F o (.slice A k cap):=λa w S f s b=>by subst hz;unfold execOp;simp only[ho,f.ev hx,J8,J9,f.ev hi];rw[G9,bXy hT ht he hk];rfl
theorem dV(hT:gA P T){o:Oper}{t e sz k l cap:Nat}{ei:TI}{x i:Operand}{kk:IntKind}{z:Int}{A:Option Addr}(ho:o.op= .slice t x (some i) none none)(hx:Γ.ev x=some (.slice A l cap))(hi:Γ.ev i=some (.int kk z))
  (ht:T.get t=some ⟨.slice e,sz⟩) (he:T.get e=some ei) (hz:z=(k:Nat)) (hk:k<=l):Sti P β n Γ H F o (.slice (iS A k ei.size cap) (l-k) (cap-k)):=λa w S f s b=>by subst hz;unfold execOp;simp only[ho,f.ev hx,J8,J9,f.ev hi];rw[G9,run_cutFrom hT ht he hk];rfl
theorem bBq{A:Option Addr}{l c k:Nat}{xs:List α}(h:Has F (E.sl (.slice A l c) xs))(hk:k<=xs.length):Has F (E.sl (.slice A k c) (xs.take k)):=λS w q=>by
 obtain⟨d,b,e,h⟩:=h S w q;injection e with e1 e2 e3
 subst e1 e3;refine⟨A,c,by rw[K6,L3 hk],λj x a=>?_⟩;rw[List.getElem?_take]at a;split at a
 .exact h j x a
 .cases a
theorem kC{A:Option Addr}{l c k:Nat}{xs:List α}(h:Has F (E.sl (.slice A l c) xs))(hc:l<=c)(hk:k<=xs.length):Has F (E.sl (.slice (iS A k E.size c) (l-k) (c-k)) (xs.drop k)):=λS w q=>by
 obtain⟨r,p,e,h⟩:=h S w q;injection e with e1 e2 e3
 subst e1 e3;refine⟨iS A k E.size c,c-k,by rw[List.length_drop,e2],λj x a=>?_⟩;rw[List.getElem?_drop]at a;obtain⟨b,o,n,q1,g,f,d⟩:=h _ x a;have m:=(F3.1 a).1;refine⟨b,o+k*E.size,n,?_,g,λi u hi=>?_,d⟩
 .unfold iS;rw[if_neg l7,q1];show some ((⟨b,o,none⟩:Addr).add (k*E.size))=_;rw[Addr.add_mid]
 .have:=f i u hi
  have e:o+k*E.size+j*(Enc.flat E.size E.cells).size+i=o+(k+j)*(Enc.flat E.size E.cells).size+i:=by show o+k*E.size+j*E.size+i=o+(k+j)*E.size+i;rw[Nat.add_mul];omega
  rw[e];exact this
theorem fW{A:Option Addr}{t:TypeId}{m cap:Nat}{xs:List α}{H':List bK}(hH:cT H (E.row (.slice A m cap) t xs) H')(h:xs.length<=cap->At β n Γ H F K):At β n Γ H F K:=λa w S f s k=>by
 have b:w.ownsRow 0 t E.size (.slice A m cap) xs.length (E.all xs):=s.ok _ hH.mem;refine h ?_ a w S f s k
 rcases b.2 with ⟨_,j⟩|⟨g,d,e,c,h1,h2,i,_⟩
 .omega
 .injection c with c e2 e3
  subst e3;omega
end
end
section
open Go.RowKit Go.Proofs.Tryz
section
variable {text : Bs} {i : Nat} {b : UInt8} {r : Bs} {out : List TokV}
theorem lex_start(h:text.length<=65536):lexGo (text.drop 0).length 0 (text.drop 0) []=iD text:=by unfold iD;rw[if_neg l7];rfl
theorem lex_long(h:(65536:Int)<((text.length:Nat):Int)):iD text=([],(0,30)):=by unfold iD;rw[if_pos l7]
theorem lex_end(h:text.length<=i)(hi:lexGo (text.drop i).length i (text.drop i) out=iD text):iD text=(out,(0,0)):=by rw[K3 h]at hi;rw[<-hi];rfl
variable (hbr : text.drop i = b :: r) (hi : lexGo (text.drop i).length i (text.drop i) out = iD text)
include hbr hi
theorem bZc(hb:nG b=true):lexGo (text.drop (i+1)).length (i+1) (text.drop (i+1)) out=iD text:=by
 have e:text.drop (i+1)=r:=by rw[<-K8,hbr];rfl
 rw[hbr,oP,if_pos hb]at hi;rw[e];exact hi
theorem lex_note(hb:nG b=false)(hn:(b==35)=true):lexGo (text.drop (i+runB (· !=10) (b::r))).length (i+runB (· !=10) (b::r)) (text.drop (i+runB (· !=10) (b::r))) out=iD text:=by
 have e:text.drop (i+runB (· !=10) (b::r))=(b::r).drop (runB (· !=10) (b::r)):=by rw[<-K8,hbr]
 rw[hbr,oP,hb,if_neg m9,if_pos hn]at hi;rw[e];exact hi
theorem lex_tok{k v:Int}{wd:Bs}{m:Nat}(hb:nG b=false)(hn:(b==35)=false)(ht:fD (b::r)= .ok (k,wd,v,m)):lexGo (text.drop (i+m)).length (i+m) (text.drop (i+m)) (out++[⟨k,i,wd,v⟩])=iD text:=by
 have e:text.drop (i+m)=(b::r).drop m:=by rw[<-K8,hbr]
 rw[hbr,oP,hb,if_neg m9,hn,if_neg m9,ht]at hi;rw[e];exact hi
theorem lex_err{e:Int}(hb:nG b=false)(hn:(b==35)=false)(ht:fD (b::r)= .error e):iD text=([],((i:Int),e)):=by rw[hbr,oP,hb,if_neg m9,hn,if_neg m9,ht]at hi;exact hi.symm
end
theorem bQn{s:Bs}{e:Int}(h:fD s= .error e):e≠0:=by
 cases s with
 |nil=>cases h;decide
 |cons b r=>
  simp only[fD]at h;split at h
  .cases h
  .split at h
   .split at h
    .cases h;decide
    .cases h
   .split at h
    .rename_i a he;cases h;rw[bSs he];decide
    .cases h
    .split at h
     .cases h;decide
     .cases h
theorem dW{α:Type}{E:Flat α}{F:List Fact}:Has F (E.sl (.slice none 0 0) []):=λ_ _ _=>⟨none,0,rfl,λk x a=>by simp at a⟩
theorem bGy:(prog.info? 30).bind (·.zero)=some (.agg #[k6 0,k6 0]):=m0
theorem bBg(z1:Int):prog.built 30 [(1,k6 z1)]=some #[k6 0,k6 z1]:=m0
theorem zF(z0:Int)(z1:Int):prog.built 30 [(0,k6 z0),(1,k6 z1)]=some #[k6 z0,k6 z1]:=m0
theorem bDk:prog.built 30 []=some #[k6 0,k6 0]:=m0
theorem bUm(text:Bs)(hs:text.length<=140737488355328):cY prog 49 [.string (bs text)] [] [kG] (λ(x:Option Addr×Nat)=> .tuple #[.slice x.1 (iD text).1.length x.2,.agg #[k6 (iD text).2.1,k6 (iD text).2.2]]) (λ_=>[]) (λ(x:Option Addr×Nat)=>[nR.sl (.slice x.1 (iD text).1.length x.2) (iD text).1,Fact.pure ((iD text).1.length<=x.2)]):=by
 have hT:=gJ;refine j5 func49 ntmps49 ?_;intro β hM;refine g3 ?_;refine j1 bGy λA=>?_;refine g8 ?_;refine bJ (z':=((text.length:Nat):Int)) rfl ?_;refine g3 ?_;refine dP (λg=>?_) λg=>?_
 .refine g2 ?_;refine ss (j3 (bBg _)) ?_;refine g7 ?_;have he:=lex_long g;rw[he];exact rs2 (none,0) ⟨dW,i7 (B0 0),i6⟩
 refine g8 ?_;refine bQ (t:=110) nR ?_;refine g9 ?_;refine cF (ι:=Nat×List TokV×Option Addr×Nat) [(0,_),(3,_)] ⟨rfl,rfl,i6⟩ (λ⟨i,out,C,e⟩=>[(4,.slice C out.length e),(5,.int .i64 (i:Nat))]) (λ⟨i,out,C,e⟩=>[nR.row (.slice C out.length e) 110 out]) (λ⟨i,out,C,e⟩=>[Fact.pure (i<=text.length/\lexGo (text.drop i).length i (text.drop i) out=iD text/\out.length<=i)]) (λ⟨i,out,C,e⟩=>text.length-i) (0,[],none,0) ⟨rfl,rfl,i6⟩ (.c0 .nil) ⟨i7 (⟨l7,lex_start l7,m9⟩),i6⟩ ?_;rintro⟨i,out,C,e⟩;dsimp only;refine bF d7 λa=>?_;refine g6 ?_;refine bJ (z':=((text.length:Nat):Int)) rfl ?_;refine g3 ?_;refine dP (λj=>?_) λj=>?_
 .refine g7 ?_;refine ss (cAh hT (k:=i) rfl rfl rfl rfl rfl l7) ?_
  obtain⟨b,r,hbr⟩: ∃b r,text.drop i=b::r:=⟨_,_,K2 l7⟩
  have n:(b::r).length<=65536:=by rw[<-hbr];simp;omega
  have s:i+(b::r).length=text.length:=by rw[<-hbr];simp;omega
  refine hZ (congrArg (λl:Bs=>Value.string (bs l)) hbr) ?_;refine g7 ?_;refine ss (fM hT (k:=0) rfl rfl rfl rfl rfl rfl) ?_;refine g9 ?_;refine cG (λc=>?_) (λc=>?_)
  .have c:b=32:=dM (k:=32) (eq_of_beq c);refine g11 ?_;refine inc (i+1) ?_;refine g8 ?_;exact dA (i+1,_,_,_) v8 ⟨rfl,rfl,i6⟩ ⟨rfl,rfl,i6⟩ (.c0 (.c0 .nil)) ⟨i7 (⟨l7,bZc hbr a.2.1 am2,by dsimp only;omega⟩),i6⟩ (bA.drop 1)
  have c:b≠32:=dL (k:=32) (beq_eq_false_iff_ne.1 c);refine g6 ?_;refine fX (λhc24=>?_) λhc24=>?_
  .have hc24:b=9:=dM (k:=9) (eq_of_beq hc24);refine g4 ?_;refine inc (i+1) ?_;refine g8 ?_;exact dA (i+1,_,_,_) v8 ⟨rfl,rfl,i6⟩ ⟨rfl,rfl,i6⟩ (.c0 (.c0 .nil)) ⟨i7 (⟨l7,bZc hbr a.2.1 am2,by dsimp only;omega⟩),i6⟩ (bA.drop 1)
  have hc24:b≠9:=dL (k:=9) (beq_eq_false_iff_ne.1 hc24);refine g7 ?_;refine fX (λd=>?_) λd=>?_
  .have d:b=35:=dM (k:=35) (eq_of_beq d);refine bP ?_;have o:=lB (· !=10) (b::r);refine g3 ?_;refine bD func80 (bIo (b::r) l7 _ (· !=10) (bY func81 rfl rfl) line_spec) rfl rfl .nil i6 λ_=>?_;refine one ?_;refine inc (i+(runB (· !=10) (b::r))) ?_;refine g8 ?_;exact dA (i+runB (· !=10) (b::r),_,_,_) (by dsimp only;have:=bKp (p:=(· !=10)) (b:=b) (r:=r) ag3;omega) ⟨rfl,rfl,i6⟩ ⟨rfl,rfl,i6⟩ (.c0 (.c0 .nil)) ⟨i7 (⟨by have:=lB (· !=10) (b::r);omega,lex_note hbr a.2.1 am2 ag3,by dsimp only;omega⟩),i6⟩ (bA.drop 1)
  have d:b≠35:=dL (k:=35) (beq_eq_false_iff_ne.1 d);refine g4 ?_
  rcases ht:fD (b::r)with e|⟨k,u,v,m⟩
  .skip
   refine g2 ?_;refine j2 func82 (token_err b r n ht) ⟨d8,i6⟩ λ_=>?_;refine g4 ?_;refine j1 bDb λz=>?_;refine g12 ?_;refine uD (λf=>?_) λf=>?_
   .refine g4 ?_;refine ss (j3 (zF _ _)) ?_;refine g11 ?_;have he:=lex_err hbr a.2.1 am2 ag3 ht;rw[he];exact rs2 (none,0) ⟨dW,i7 (B0 0),i6⟩
   exact absurd f (bQn ht)
  have q:=vR ht;dsimp only at q;refine g2 ?_;refine j2 func82 (token_ok b r n ht) ⟨d8,i6⟩ λ_=>?_;refine g4 ?_;refine j1 bDb λy=>?_;refine g10 ?_;refine bC (t':=false) m6 ?_;refine g16 ?_;refine at_one_tok (m:=⟨_,_,_,_⟩) rfl rfl rfl rfl rfl λw=>?_;refine at_app_tok kT2 (bU .head rfl) rfl rfl rfl rfl rfl rfl rfl aa7 λB c6=>?_;refine g7 ?_;refine inc (i+m) ?_;refine g4 ?_;exact dA (i+m,_,_,_) v8 ⟨rfl,rfl,i6⟩ ⟨rfl,rfl,i6⟩ (.c0 (.c2 .nil)) ⟨i7 (⟨l7,lex_tok hbr a.2.1 am2 ag3 ht,by simp;omega⟩),i6⟩ (bA.drop 1)
 refine g8 ?_;refine ss (j3 (bDk)) ?_;refine g6 ?_;have he:iD text=(out,(0,0)):=lex_end l7 a.2.1;rw[he];refine fW kT1 λh=>bR kT1 ?_;exact rs2 (C,e) ⟨d7,i7 h,i6⟩
end
section
open Go.RowKit Go.Sort Go.Proofs.Tryz
def fC (n:Int):Bs:=(if n<0 then [95]else [])++M8 n.natAbs
theorem bEf{k:Nat}(h:k<10):cX (L9 (48+k))=true/\(L9 (48+k)).toNat=48+k:=by
 have e:(L9 (48+k)).toNat=48+k:=by rw[UInt8.toNat_ofNat'];omega
 refine⟨?_,e⟩;unfold cX;rw[e];simp;omega
theorem tM(u:Nat): ∀b∈M8 u,cX b=true:=by
 induction u using L4 with
 |_ u ih=>
  intro b a;rw[M8]at a;split at a
  .rename_i h;rw[K7.1 a];exact(bEf h).1
  .rename_i h
   rcases E3.1 a with a|a
   .exact ih (u/10) l7 b a
   .rw[K7.1 a];exact(bEf (Nat.mod_lt _ l7)).1
theorem uS(u:Nat):M8 u≠[]:=by rw[M8];split<;>simp
theorem bMd(d:UInt8): ∀(a:Bs) (acc:Nat),decV (a++[d]) acc=10*decV a acc+(d.toNat-48)
 |[],acc=>rfl
 |b::a,acc=>by show decV (a++[d]) _=_;rw[bMd d a];rfl
theorem decV_digits(u:Nat):decV (M8 u) 0=u:=by
 induction u using L4 with
 |_ u ih=>
  rw[M8];split
  .rename_i h;show 10*0+((L9 (48+u)).toNat-48)=u;rw[(bEf h).2];omega
  .rename_i h;rw[bMd,ih (u/10) l7,(bEf (Nat.mod_lt _ l7)).2];omega
theorem bTh{p:UInt8->Bool}: ∀s:Bs,(∀b∈s,p b=true)->runB p s=s.length
 |[],_=>rfl
 |b::s,h=>by rw[runB,if_pos (h b m9),bTh s λx hx=>h x af5];rfl
theorem pE{b:UInt8}(h:cX b=true):b≠10/\lC b=false/\b≠95/\b≠45/\b≠35/\nG b=false/\Lib.isSp b=false/\b.toNat<128:=by
 simp only[cX,J3,decide_eq_true_eq]at h;have key: ∀k:Fin 10,(L9 (48+k.val)≠10/\lC (L9 (48+k.val))=false/\L9 (48+k.val)≠95/\L9 (48+k.val)≠45/\L9 (48+k.val)≠35/\nG (L9 (48+k.val))=false/\Lib.isSp (L9 (48+k.val))=false/\(L9 (48+k.val)).toNat<128):=by decide+kernel
 have a:b=L9 (48+(b.toNat-48)):=by rw[show 48+(b.toNat-48)=b.toNat from by omega];simp
 have:=key ⟨b.toNat-48,l7⟩;rw[a];exact this
theorem mI{n:Int}(h0: -9223372036854775808<=n)(h1:n<=9223372036854775807):(fC n).length<=21:=by have h:=Lib.nDigits_le20 n.natAbs l7;have:=Lib.decDigits_length n.natAbs;unfold fC;split<;>simp<;>omega
theorem numTok_spell{n:Int}(h0: -9223372036854775808<=n)(h1:n<=9223372036854775807){b:UInt8}{r:Bs}(h:fC n=b::r):jE b r= .ok (some (2,[],n,(b::r).length)):=by
 unfold fC at h;have f:=tM n.natAbs;have hr:=bTh _ f;have a:=decV_digits n.natAbs;have d:=uS n.natAbs;split at h
 .rename_i hn;simp only[K4,List.cons.injEq]at h;obtain⟨rfl,rfl⟩:=h;have g: ¬(M8 n.natAbs).length=0:=λe=>d (F7 e)
  have c:pW true (M8 n.natAbs)=some n:=by
   unfold pW;rw[a,if_pos rfl,if_pos l7]
   congr 1
   omega
  rw[num_m0 rfl,hr,if_neg g,F6 (B0 _),c];rfl
 .rename_i hn;rw[K5]at h;rw[h]at f hr a;have i:=(pE (f b m9)).2.2.1
  have c:pW false (b::r)=some n:=by
   unfold pW;rw[a];simp only[J2,if_false];rw[if_pos l7]
   congr 1
   omega
  rw[num_p0 i,hr,if_neg m9,F6 (B0 _),c];rfl
theorem bFt{n:Int}{b:UInt8}{r:Bs}(h:fC n=b::r):b=95\/cX b=true:=by
 unfold fC at h;split at h
 .simp only[K4,List.cons.injEq]at h;exact .inl h.1.symm
 .rw[K5]at h;exact .inr (tM n.natAbs b (by rw[h];simp))
theorem bKd{n:Int}(h0: -9223372036854775808<=n)(h1:n<=9223372036854775807):fD (fC n)= .ok (2,[],n,(fC n).length):=by
 cases hs:fC n with
 |nil=>
  unfold fC at hs;exact absurd (K9.1 hs).2 (uS _)
 |cons b r=>
  have hn:=numTok_spell h0 h1 hs
  have a:b≠10/\lC b=false:=by
   rcases bFt hs with rfl|h
   .decide
   .exact⟨(pE h).1,(pE h).2.1⟩
  simp only[fD,beq_iff_eq,a.1,if_false,a.2,J2,hn]
theorem lexP_spell{n:Int}(h0: -9223372036854775808<=n)(h1:n<=9223372036854775807):iD (fC n)=([⟨2,0,[],n⟩],(0,0)):=by
 have hl:=mI h0 h1;have ht:=bKd h0 h1;unfold iD;rw[if_neg l7]
 cases hs:fC n with
 |nil=>
  unfold fC at hs;exact absurd (K9.1 hs).2 (uS _)
 |cons b r=>
  rw[hs]at ht
  have a:nG b=false/\(b==35)=false:=by
   rcases bFt hs with rfl|h
   .decide
   .exact⟨(pE h).2.2.2.2.2.1,by simp[(pE h).2.2.2.2.1]⟩
  rw[oP,a.1,if_neg m9,a.2,if_neg m9,ht];simp only[List.drop_length];rfl
theorem bCy(n:Int): ∀b∈fC n,b.toNat<128/\Lib.isSp b=false/\b≠35:=λb a=>by
 unfold fC at a
 rcases E3.1 a with a|a
 .split at a
  .rw[K7.1 a];decide
  .simp at a
 .have:=pE (tM _ b a);exact⟨this.2.2.2.2.2.2.2,this.2.2.2.2.2.2.1,this.2.2.2.2.1⟩
theorem bCq{p:UInt8->Bool}: ∀l:Bs,(∀b∈l,p b=false)->l.dropWhile p=l
 |[],_=>rfl
 |b::l,h=>by rw[List.dropWhile_cons_of_neg (by simp[h b m9])]
theorem trim_spell(n:Int):M9 (fC n)=fC n:=by have h:=bCy n;unfold M9;rw[bCq _ λb a=>(h b a).2.1,bCq _ λb a=>(h b (List.mem_reverse.1 a)).2.1,List.reverse_reverse]
theorem hash_spell(n:Int):decide (0<=M5 (fC n) 35)=false:=by
 rw[(vA 35 _).1]
 cases h:(fC n).contains 35 with
 |false=>rfl
 |true=>exact absurd rfl (bCy n 35 ad3).2.2
theorem bIz(u:Nat):Lib.count (M8 u) [45]=0:=by rw[Lib.count_one,List.count_eq_zero];exact λh=>(pE (tM u _ h)).2.2.2.1 rfl
theorem replace_itoa(n:Int):N1 (N3 n) [45] [95] 1=fC n:=by
 unfold N1;rw[if_neg m6];unfold N3 fC;split
 .have a:Lib.count (45::M8 n.natAbs) [45]=1:=by rw[Lib.count_cons_eq,bIz]
  have hr:N5 (45::M8 n.natAbs) [45] 1=1:=by unfold N5;rw[a];rfl
  have hi:Lib.index (45::M8 n.natAbs) [45]=((0:Nat):Int):=by rw[Lib.index_one];rfl
  rw[hr,Lib.replaceK_hit _ _ _ _ 0 hi];rfl
 .have hr:N5 (M8 n.toNat) [45] 1=0:=by unfold N5;rw[bIz];rfl
  rw[hr];have:n.toNat=n.natAbs:=l7
  rw[this];rfl
theorem itoa_len{n:Int}(h0: -9223372036854775808<=n)(h1:n<=9223372036854775807):(N3 n).length<=21:=Lib.itoa_length_le n h0 h1
theorem below_grow{w:World}(k:Nat)(os:Array Obj):Below w.heap.size w (grow (w.drewN k) os):=by refine⟨rfl,rfl,rfl,by simp[grow,World.drewN],λi hi=>?_⟩;have:(w.drewN k).heap=w.heap:=rfl;simp only[grow,this,Array.getElem?_append,hi,if_true]
theorem bQy(n:Int)(h0: -9223372036854775808<=n)(h1:n<=9223372036854775807):cY prog 150 [k6 n,k6 10] [] [kG] (λ_:Unit=> .string (bs (N3 n))) (λ_=>[]) (λ_=>[]):=
 jW λ_ w _ k=>by obtain⟨_,_,b,_⟩:=k _ (.head _);refine(Tryz.strconv_FormatInt_10 n h0 h1 w b).mono ?_;rintro e c ⟨rfl,q,a,rfl⟩;exact⟨rfl,below_grow q a⟩
theorem replace_spec(s:Bs)(hs:s.length<=1000):cY prog 149 [.string (bs s),.string (bs [45]),.string (bs [95]),k6 1] [] [kG] (λ_:Unit=> .string (bs (N1 s [45] [95] 1))) (λ_=>[]) (λ_=>[]):=
 jW λ_ w _ k=>by
  obtain⟨_,_,_,⟨m,a⟩,_⟩:=k _ (.head _);have b:=Lib.countB_mul_le (bs [45]) m6 (bs s).size (bs s) (B0 _)
  refine(Tryz.strings_Replace (bs s) (bs [45]) (bs [95]) 1 m w am0 a m6 ?_).mono λe g ⟨he,c⟩=>⟨he,c⟩
  have f:(bs [45]).size=1:=rfl;have d:(bs [95]).size=1:=rfl;rw[f]at b;rw[d,mM]at*;omega
theorem bVk(s:Bs)(hs:s.length<=140737488355328)(ha: ∀b∈s,b.toNat<128):cY prog 151 [.string (bs s)] [] [kG] (λ_:Unit=> .string (bs (M9 s))) (λ_=>[]) (λ_=>[]):=
 jW λ_ w _ k=>by obtain⟨_,h0,_⟩:=k _ (.head _);refine(Tryz.strings_TrimSpace (bs s) w am0 (λj b a=>ha b (j0 a)) h0).mono ?_;rintro e c ⟨rfl,rfl⟩;exact⟨rfl,Joins.below_bytesWorld _ _ _ _ (B0 _)⟩
theorem bWi(s:Bs)(c:UInt8):cY prog 152 [.string (bs s),.string (bs [c])] [] [] (λ_:Unit=> .bool (decide (0<=M5 s c))) (λ_=>[]) (λ_=>[]):=
 bEp λ_ w _=>Tryz.strings_Contains_one (bs s) c w
end
section
open Go.RowKit Go.Proofs.Tryz
theorem bRm(n:Int)(h0: -9223372036854775808<=n)(h1:n<=9223372036854775807):cY prog 49 [.string (bs (fC n))] [] [kG] (λx:Option Addr×Nat=> .tuple #[.slice x.1 1 x.2,.agg #[k6 0,k6 0]]) (λ_=>[]) (λx=>[nR.sl (.slice x.1 1 x.2) [⟨2,0,[],n⟩],Fact.pure (1<=x.2)]):=by have:=bUm (fC n) (by have:=mI h0 h1;omega);rw[lexP_spell h0 h1]at this;exact this
theorem bIx(n:Int)(h0: -9223372036854775808<=n)(h1:n<=9223372036854775807):cY prog 149 [.string (bs (N3 n)),.string (bs [45]),.string (bs [95]),k6 1] [] [kG] (λ_:Unit=> .string (bs (fC n))) (λ_=>[]) (λ_=>[]):=by have:=replace_spec (N3 n) (by have:=itoa_len h0 h1;omega);rw[replace_itoa]at this;exact this
def jK (s:Bs):Int:=
 if s=[43]then 1 else if s=[45]then 2 else if s=[42]then 3 else if s=[37]then 4 else if s=[124]then 5 else if s=[109,105,110]then 6 else if s=[109,97,120]then 7 else if s=[61]then 8 else if s=[126]then 9
 else if s=[60]then 10 else if s=[60,61]then 11 else if s=[62,61]then 12 else if s=[62]then 13 else if s=[97,110,100]then 14 else if s=[111,114]then 15 else if s=[112,111,119]then 17 else if s=[114,104,111]then 37
 else if s=[116,97,107,101]then 38 else if s=[100,114,111,112]then 39 else if s=[99,97,116]then 40 else 0
def oJ (s:Bs):Int:=
 if s=[43]\/s=[45]\/s=[42]\/s=[37]\/s=[124]\/s=[109,105,110]\/s=[109,97,120]then jK s else if s=[126]then 16 else if s=[105,111,116,97]then 32 else if s=[115,104,97,112,101]then 33 else if s=[114,97,118,101,108]then 34
 else if s=[114,101,118]then 35 else if s=[116,117,114,110]then 36 else 0
def nQ (s:Bs):Bool:=oJ s !=0 || jK s !=0
def gF (s:Bs)(t:Bool):Int:=if t then jK s else oJ s
theorem spell_spec(n:Int)(h0: -9223372036854775808<=n)(h1:n<=9223372036854775807):cY prog 128 [.agg #[k6 2,k6 0,.string (bs []),k6 n]] [] [kG] (λ(_:Unit)=> .tuple #[.string (bs (fC n)),.bool true]) (λ_=>[]) (λ_=>[]):=by have hT:=gJ;refine j5 func128 ntmps128 ?_;intro β hM;refine g2 ?_;refine j4 λd=>?_;refine g22 ?_;refine bC (t':=true) m6 ?_;refine g7 ?_;refine j2 func150 (bQy n h0 h1) ⟨d7,i6⟩ λ_=>?_;refine j2 func149 (bIx n h0 h1) ⟨d7,i6⟩ λ_=>?_;refine g7 ?_;refine j2 func49 (bRm n h0 h1) ⟨d7,i6⟩ λ⟨A2,c3⟩=>?_;refine g3 ?_;refine j1 bGy λc=>?_;refine g8 ?_;refine ss (j3 (bDk)) ?_;refine ss (fY ⟨0,0⟩ ⟨0,0⟩ rfl rfl rfl) ?_;refine bC (t':=false) (rfl) ?_;refine g4 ?_;refine bC (t':=false) m6 ?_;refine g4 ?_;refine bJ (z':=(((fC n).length:Nat):Int)) rfl ?_;refine one ?_;refine bC (t':=false) (by have:=mI h0 h1;simp;omega) ?_;refine g14 ?_;refine cL _ _ [j9,u0,u5,u9,A00,u6,A02,A03,A75,A04,A08,A07,A09,A24,A61,A70,A78,A76,A80,(true,19)] cN o0 (.c0 (.c0 .nil)) bA.self ?_;refine one ?_;refine stM rfl (cA hT (k:=0) (bG d7) rfl rfl rfl rfl rfl rfl rfl m9) ?_;refine stM rfl (fP hT (dD.knows (bG d7) (k:=0) (x:=(⟨2,0,[],n⟩:TokV)) rfl 0) rfl rfl rfl rfl rfl) ?_;refine one ?_;refine stM rfl (sti_neq_tok (⟨2,0,[],n⟩:TokV) ⟨2,0,([]:Bs),n⟩ rfl rfl rfl) ?_;refine bC (t':=false) (by simp[tokEq]) ?_;refine g4 ?_;refine j2 func151 (bVk (fC n) (by have:=mI h0 h1;omega) (λb a=>(bCy n b a).1)) ⟨d9,i6⟩ λ_=>?_;refine g2 ?_;refine bC (t':=false) (by rw[trim_spell];simp) ?_;refine g9 ?_;refine bD func152 (bWi _ 35) rfl rfl .nil i6 λ_=>?_;refine one ?_;refine bC (t':=false) (hash_spell n) ?_;refine g14 ?_;exact rs2 () trivial
theorem bIb(n:Int)(h0: -9223372036854775808<=n)(h1:n<=9223372036854775807):cY prog 90 [k6 n] [] [kG] (λ(_:Unit)=> .string (bs (fC n))) (λ_=>[]) (λ_=>[]):=by have hT:=gJ;refine j5 func90 ntmps90 ?_;intro β hM;refine g8 ?_;refine ss (j3 (qI _ _)) ?_;refine j2 func128 (spell_spec n h0 h1) ⟨d7,i6⟩ λ_=>?_;refine g14 ?_;exact rs1 () trivial
theorem lU(s:Bs):cY prog 127 [.string (bs s)] [] [] (λ(_:Unit)=> k7 (jK s)) (λ_=>[]) (λ_=>[]):=by
 have hT:=gJ;refine j5 func127 ntmps127 ?_;intro β hM;refine g18 ?_;refine fX (λm=>?_) λm=>?_
 .have m:s=([43]:Bs):=eq_of_beq m;refine g8 ?_;exact rs1 () i6 (he:=by simp[jK, *])
 have m:s≠([43]:Bs):=λh=>absurd (beq_iff_eq.2 h) (by rw[show(s==([43]:Bs))=false from m];simp);refine g6 ?_;refine fX (λl=>?_) λl=>?_
 .have l:s=([45]:Bs):=eq_of_beq l;refine g8 ?_;exact rs1 () i6 (he:=by simp[jK, *])
 have l:s≠([45]:Bs):=λh=>absurd (beq_iff_eq.2 h) (by rw[show(s==([45]:Bs))=false from l];simp);refine g6 ?_;refine fX (λk=>?_) λk=>?_
 .have k:s=([42]:Bs):=eq_of_beq k;refine g8 ?_;exact rs1 () i6 (he:=by simp[jK, *])
 have k:s≠([42]:Bs):=λh=>absurd (beq_iff_eq.2 h) (by rw[show(s==([42]:Bs))=false from k];simp);refine g6 ?_;refine fX (λhc10=>?_) λhc10=>?_
 .have hc10:s=([37]:Bs):=eq_of_beq hc10;refine g8 ?_;exact rs1 () i6 (he:=by simp[jK, *])
 have hc10:s≠([37]:Bs):=λh=>absurd (beq_iff_eq.2 h) (by rw[show(s==([37]:Bs))=false from hc10];simp);refine g6 ?_;refine fX (λj=>?_) λj=>?_
 .have j:s=([124]:Bs):=eq_of_beq j;refine g8 ?_;exact rs1 () i6 (he:=by simp[jK, *])
 have j:s≠([124]:Bs):=λh=>absurd (beq_iff_eq.2 h) (by rw[show(s==([124]:Bs))=false from j];simp);refine g6 ?_;refine fX (λhc14=>?_) λhc14=>?_
 .have hc14:s=([109,105,110]:Bs):=eq_of_beq hc14;refine g8 ?_;exact rs1 () i6 (he:=by simp[jK, *])
 have hc14:s≠([109,105,110]:Bs):=λh=>absurd (beq_iff_eq.2 h) (by rw[show(s==([109,105,110]:Bs))=false from hc14];simp);refine g6 ?_;refine fX (λi=>?_) λi=>?_
 .have i:s=([109,97,120]:Bs):=eq_of_beq i;refine g8 ?_;exact rs1 () i6 (he:=by simp[jK, *])
 have i:s≠([109,97,120]:Bs):=λh=>absurd (beq_iff_eq.2 h) (by rw[show(s==([109,97,120]:Bs))=false from i];simp);refine g6 ?_;refine fX (λg=>?_) λg=>?_
 .have g:s=([61]:Bs):=eq_of_beq g;refine g8 ?_;exact rs1 () i6 (he:=by simp[jK, *])
 have g:s≠([61]:Bs):=λh=>absurd (beq_iff_eq.2 h) (by rw[show(s==([61]:Bs))=false from g];simp);refine g6 ?_;refine fX (λf=>?_) λf=>?_
 .have f:s=([126]:Bs):=eq_of_beq f;refine g8 ?_;exact rs1 () i6 (he:=by simp[jK, *])
 have f:s≠([126]:Bs):=λh=>absurd (beq_iff_eq.2 h) (by rw[show(s==([126]:Bs))=false from f];simp);refine g6 ?_;refine fX (λe=>?_) λe=>?_
 .have e:s=([60]:Bs):=eq_of_beq e;refine g8 ?_;exact rs1 () i6 (he:=by simp[jK, *])
 have e:s≠([60]:Bs):=λh=>absurd (beq_iff_eq.2 h) (by rw[show(s==([60]:Bs))=false from e];simp);refine g6 ?_;refine fX (λhc24=>?_) λhc24=>?_
 .have hc24:s=([60,61]:Bs):=eq_of_beq hc24;refine g8 ?_;exact rs1 () i6 (he:=by simp[jK, *])
 have hc24:s≠([60,61]:Bs):=λh=>absurd (beq_iff_eq.2 h) al3;refine g6 ?_;refine fX (λhc26=>?_) λhc26=>?_
 .have hc26:s=([62,61]:Bs):=eq_of_beq hc26;refine g8 ?_;exact rs1 () i6 (he:=by simp[jK, *])
 have hc26:s≠([62,61]:Bs):=λh=>absurd (beq_iff_eq.2 h) al4;refine g6 ?_;refine fX (λd=>?_) λd=>?_
 .have d:s=([62]:Bs):=eq_of_beq d;refine g8 ?_;exact rs1 () i6 (he:=by simp[jK, *])
 have d:s≠([62]:Bs):=λh=>absurd (beq_iff_eq.2 h) (by rw[show(s==([62]:Bs))=false from d];simp);refine g6 ?_;refine fX (λhc30=>?_) λhc30=>?_
 .have hc30:s=([97,110,100]:Bs):=eq_of_beq hc30;refine g8 ?_;exact rs1 () i6 (he:=by simp[jK, *])
 have hc30:s≠([97,110,100]:Bs):=λh=>absurd (beq_iff_eq.2 h) ak5;refine g6 ?_;refine fX (λhc32=>?_) λhc32=>?_
 .have hc32:s=([111,114]:Bs):=eq_of_beq hc32;refine g8 ?_;exact rs1 () i6 (he:=by simp[jK, *])
 have hc32:s≠([111,114]:Bs):=λh=>absurd (beq_iff_eq.2 h) ak9;refine g6 ?_;refine fX (λhc34=>?_) λhc34=>?_
 .have hc34:s=([112,111,119]:Bs):=eq_of_beq hc34;refine g8 ?_;exact rs1 () i6 (he:=by simp[jK, *])
 have hc34:s≠([112,111,119]:Bs):=λh=>absurd (beq_iff_eq.2 h) ak3;refine g6 ?_;refine fX (λc=>?_) λc=>?_
 .have c:s=([114,104,111]:Bs):=eq_of_beq c;refine g8 ?_;exact rs1 () i6 (he:=by simp[jK, *])
 have c:s≠([114,104,111]:Bs):=λh=>absurd (beq_iff_eq.2 h) (by rw[show(s==([114,104,111]:Bs))=false from c];simp);refine g6 ?_;refine fX (λb=>?_) λb=>?_
 .have b:s=([116,97,107,101]:Bs):=eq_of_beq b;refine g8 ?_;exact rs1 () i6 (he:=by simp[jK, *])
 have b:s≠([116,97,107,101]:Bs):=λh=>absurd (beq_iff_eq.2 h) (by rw[show(s==([116,97,107,101]:Bs))=false from b];simp);refine g6 ?_;refine fX (λa=>?_) λa=>?_
 .have a:s=([100,114,111,112]:Bs):=eq_of_beq a;refine g8 ?_;exact rs1 () i6 (he:=by simp[jK, *])
 have a:s≠([100,114,111,112]:Bs):=λh=>absurd (beq_iff_eq.2 h) (by rw[show(s==([100,114,111,112]:Bs))=false from a];simp);refine g6 ?_;refine fX (λhc42=>?_) λhc42=>?_
 .have hc42:s=([99,97,116]:Bs):=eq_of_beq hc42;refine g8 ?_;exact rs1 () i6 (he:=by simp[jK, *])
 have hc42:s≠([99,97,116]:Bs):=λh=>absurd (beq_iff_eq.2 h) (by rw[show(s==([99,97,116]:Bs))=false from hc42];simp);refine g9 ?_;exact rs1 () i6 (he:=by simp[jK, *])
theorem one_spec(s:Bs):cY prog 126 [.string (bs s)] [] [] (λ(_:Unit)=> k7 (oJ s)) (λ_=>[]) (λ_=>[]):=by
 have hT:=gJ;refine j5 func126 ntmps126 ?_;intro β hM;refine g19 ?_;refine bX rfl (λq=>?_) (λq=>?_)
 .have r:=q;have q:s=([43]:Bs):=eq_of_beq q;refine g2 ?_;refine cC rfl r ?_;refine g3 ?_;refine j2 func127 (lU s) i6 λ_=>?_;refine g6 ?_;exact rs1 () i6 (he:=aa3)
 have r:=q;have q:s≠([43]:Bs):=λh=>absurd (beq_iff_eq.2 h) (by rw[show(s==([43]:Bs))=false from q];simp);refine g6 ?_;refine bX rfl (λf=>?_) (λf=>?_)
 .have p:=f;have f:s=([45]:Bs):=eq_of_beq f;refine g2 ?_;refine cC rfl p ?_;refine g3 ?_;refine j2 func127 (lU s) i6 λ_=>?_;refine g6 ?_;exact rs1 () i6 (he:=aa3)
 have p:=f;have f:s≠([45]:Bs):=λh=>absurd (beq_iff_eq.2 h) (by rw[show(s==([45]:Bs))=false from f];simp);refine g6 ?_;refine bX rfl (λe=>?_) (λe=>?_)
 .have o:=e;have e:s=([42]:Bs):=eq_of_beq e;refine g2 ?_;refine cC rfl o ?_;refine g3 ?_;refine j2 func127 (lU s) i6 λ_=>?_;refine g6 ?_;exact rs1 () i6 (he:=aa3)
 have o:=e;have e:s≠([42]:Bs):=λh=>absurd (beq_iff_eq.2 h) (by rw[show(s==([42]:Bs))=false from e];simp);refine g6 ?_;refine bX rfl (λd=>?_) (λd=>?_)
 .have n:=d;have d:s=([37]:Bs):=eq_of_beq d;refine g2 ?_;refine cC rfl n ?_;refine g3 ?_;refine j2 func127 (lU s) i6 λ_=>?_;refine g6 ?_;exact rs1 () i6 (he:=aa3)
 have n:=d;have d:s≠([37]:Bs):=λh=>absurd (beq_iff_eq.2 h) (by rw[show(s==([37]:Bs))=false from d];simp);refine g6 ?_;refine bX rfl (λc=>?_) (λc=>?_)
 .have m:=c;have c:s=([124]:Bs):=eq_of_beq c;refine g2 ?_;refine cC rfl m ?_;refine g3 ?_;refine j2 func127 (lU s) i6 λ_=>?_;refine g6 ?_;exact rs1 () i6 (he:=aa3)
 have m:=c;have c:s≠([124]:Bs):=λh=>absurd (beq_iff_eq.2 h) (by rw[show(s==([124]:Bs))=false from c];simp);refine g6 ?_;refine bX rfl (λb=>?_) (λb=>?_)
 .have l:=b;have b:s=([109,105,110]:Bs):=eq_of_beq b;refine g2 ?_;refine cC rfl l ?_;refine g3 ?_;refine j2 func127 (lU s) i6 λ_=>?_;refine g6 ?_;exact rs1 () i6 (he:=aa3)
 have l:=b;have b:s≠([109,105,110]:Bs):=λh=>absurd (beq_iff_eq.2 h) (by rw[show(s==([109,105,110]:Bs))=false from b];simp);refine g5 ?_;refine bX rfl (λa=>?_) (λa=>?_)
 .have t:=a;have a:s=([109,97,120]:Bs):=eq_of_beq a;refine g3 ?_;refine j2 func127 (lU s) i6 λ_=>?_;refine g6 ?_;exact rs1 () i6 (he:=aa3)
 have t:=a;have a:s≠([109,97,120]:Bs):=λh=>absurd (beq_iff_eq.2 h) (by rw[show(s==([109,97,120]:Bs))=false from a];simp);refine g6 ?_;refine bX rfl (λhc14=>?_) (λhc14=>?_)
 .have z:=hc14;have hc14:s=([126]:Bs):=eq_of_beq hc14;refine g8 ?_;exact rs1 () i6 (he:=aa3)
 have z:=hc14;have hc14:s≠([126]:Bs):=λh=>absurd (beq_iff_eq.2 h) (by rw[show(s==([126]:Bs))=false from hc14];simp);refine g6 ?_;refine bX rfl (λk=>?_) (λk=>?_)
 .have y:=k;have k:s=([105,111,116,97]:Bs):=eq_of_beq k;refine g8 ?_;exact rs1 () i6 (he:=aa3)
 have y:=k;have k:s≠([105,111,116,97]:Bs):=λh=>absurd (beq_iff_eq.2 h) (by rw[show(s==([105,111,116,97]:Bs))=false from k];simp);refine g6 ?_;refine bX rfl (λj=>?_) (λj=>?_)
 .have x:=j;have j:s=([115,104,97,112,101]:Bs):=eq_of_beq j;refine g8 ?_;exact rs1 () i6 (he:=aa3)
 have x:=j;have j:s≠([115,104,97,112,101]:Bs):=λh=>absurd (beq_iff_eq.2 h) (by rw[show(s==([115,104,97,112,101]:Bs))=false from j];simp);refine g6 ?_;refine bX rfl (λi=>?_) (λi=>?_)
 .have w:=i;have i:s=([114,97,118,101,108]:Bs):=eq_of_beq i;refine g8 ?_;exact rs1 () i6 (he:=aa3)
 have w:=i;have i:s≠([114,97,118,101,108]:Bs):=λh=>absurd (beq_iff_eq.2 h) (by rw[show(s==([114,97,118,101,108]:Bs))=false from i];simp);refine g6 ?_;refine bX rfl (λg=>?_) (λg=>?_)
 .have v:=g;have g:s=([114,101,118]:Bs):=eq_of_beq g;refine g8 ?_;exact rs1 () i6 (he:=aa3)
 have v:=g;have g:s≠([114,101,118]:Bs):=λh=>absurd (beq_iff_eq.2 h) (by rw[show(s==([114,101,118]:Bs))=false from g];simp);refine g6 ?_;refine bX rfl (λhc24=>?_) (λhc24=>?_)
 .have u:=hc24;have hc24:s=([116,117,114,110]:Bs):=eq_of_beq hc24;refine g8 ?_;exact rs1 () i6 (he:=aa3)
 have u:=hc24;have hc24:s≠([116,117,114,110]:Bs):=λh=>absurd (beq_iff_eq.2 h) (by rw[show(s==([116,117,114,110]:Bs))=false from hc24];simp);refine g9 ?_;exact rs1 () i6 (he:=aa3)
theorem rO(s:Bs):cY prog 119 [.string (bs s)] [] [] (λ(_:Unit)=> .bool (nQ s)) (λ_=>[]) (λ_=>[]):=by
 have hT:=gJ;refine j5 func119 ntmps119 ?_;intro β hM;refine g8 ?_;refine j2 func126 (one_spec s) i6 λ_=>?_;refine g2 ?_;refine yQ (λhg6=>?_) λhg6=>?_
 .refine g8 ?_;exact rs1 () i6 (he:=by simp[nQ, *])
 refine one ?_;refine j2 func127 (lU s) i6 λ_=>?_;refine g6 ?_;exact rs1 () i6 (he:=by simp[nQ, *])
theorem bLm(s:Bs)(t:Bool):cY prog 89 [.string (bs s),.bool t] [] [] (λ(_:Unit)=> .tuple #[k7 (gF s t),.bool (gF s t !=0)]) (λ_=>[]) (λ_=>[]):=by
 have hT:=gJ;refine j5 func89 ntmps89 ?_;intro β hM;refine g9 ?_;refine j2 func126 (one_spec s) i6 λ_=>?_;refine g9 ?_;refine fX (λa=>?_) λa=>?_
 .refine g2 ?_;refine j2 func127 (lU s) i6 λ_=>?_;refine g13 ?_;exact rs2 () i6 (he:=by simp[gF, *])
 refine g12 ?_;exact rs2 () i6 (he:=by simp[gF, *])
end
section
open Go.RowKit Go.Proofs.Tryz
def xJ (s:Bs):Bool:=nO ⟨(iD s).2.1,(iD s).2.2⟩ ⟨0,0⟩&&match (iD s).1 with
 |[t]=>t.kind==1&&t.word==s
 |_=>false
def dQ (s:Bs):Bool:= !(nQ s)&&(!(s==[105,110])&&(!(s==[111,117,116])&&xJ s))
section
variable {s : Bs}
theorem bGx(h:nQ s=true):M2 false= .bool (dQ s):=by simp[dQ,h]
theorem bHk(h:s=[105,110]):M2 false= .bool (dQ s):=by simp[dQ,h]
theorem bGi(h:s=[111,117,116]):M2 false= .bool (dQ s):=by simp[dQ,h]
theorem bGb(h:nO ⟨(iD s).2.1,(iD s).2.2⟩ ⟨0,0⟩=false):M2 false= .bool (dQ s):=by simp[dQ,xJ,h]
theorem bHo(h:(((iD s).1.length:Nat):Int)≠1):M2 false= .bool (dQ s):=by
 unfold dQ xJ;split
 .rename_i t ht;rw[ht]at h;simp at h
 .simp
theorem list_one{α:Type}{l:List α}{x:α}(h:((l.length:Nat):Int)=1)(hx:l[0]?=some x):l=[x]:=by
 match l,h with
 |[a],_=>simp at hx;rw[hx]
 |[],h=>simp at h
 |_::_::_,h=>simp at h;omega
variable (h0 : nQ s = false) (h1 : s ≠ [105, 110]) (h2 : s ≠ [111, 117, 116]) (hf : nO ⟨(iD s).2.1, (iD s).2.2⟩ ⟨0, 0⟩ = true) (hl : (((iD s).1.length : Nat) : Int) = 1) {x : TokV} (hx : (iD s).1[0]? = some x)
include h0 h1 h2 hf hl hx
theorem name_at:dQ s=(x.kind==1&&x.word==s):=by unfold dQ xJ;rw[list_one hl hx,h0,hf,beq_eq_false_iff_ne.2 h1,beq_eq_false_iff_ne.2 h2];simp
theorem bGl(hk:x.kind≠1):M2 false= .bool (dQ s):=by rw[name_at h0 h1 h2 hf hl hx];simp[hk]
theorem bHh(hk:x.kind=1):M2 (x.word==s)= .bool (dQ s):=by rw[name_at h0 h1 h2 hf hl hx];simp[hk]
end
theorem pP(s:Bs)(hs:s.length<=140737488355328):cY prog 86 [.string (bs s)] [] [kG] (λ(_:Unit)=> .bool (dQ s)) (λ_=>[]) (λ_=>[]):=by
 have hT:=gJ;refine j5 func86 ntmps86 ?_;intro β hM;refine g9 ?_;refine j2 func119 (rO s) i6 λ_=>?_;refine one ?_;refine cG (λhg7=>?_) (λhg7=>?_)
 .refine g17 ?_;exact rs1 () i6 (he:=p8)
 refine g4 ?_;refine cG (λhg11=>?_) (λhg11=>?_)
 .have hg11:s=([105,110]:Bs):=eq_of_beq hg11;refine g13 ?_;exact rs1 () i6 (he:=p8)
 have hg11:s≠([105,110]:Bs):=λh=>absurd (beq_iff_eq.2 h) (by rw[show(s==([105,110]:Bs))=false from hg11];simp);refine g5 ?_;refine fX (λhc14=>?_) λhc14=>?_
 .have hc14:s=([111,117,116]:Bs):=eq_of_beq hc14;refine g7 ?_;exact rs1 () i6 (he:=p8)
 have hc14:s≠([111,117,116]:Bs):=λh=>absurd (beq_iff_eq.2 h) (by rw[show(s==([111,117,116]:Bs))=false from hc14];simp);refine g5 ?_;refine j2 func49 (bUm s l7) ⟨d7,i6⟩ λ⟨A1,c2⟩=>?_;refine g3 ?_;refine j1 bGy λb=>?_;refine g7 ?_;refine ss (j3 (bDk)) ?_;refine ss (tZ ⟨(iD s).2.1,(iD s).2.2⟩ ⟨0,0⟩ rfl rfl rfl) ?_;refine one ?_;refine cG (λhg23=>?_) (λhg23=>?_)
 .refine g5 ?_;refine sD (λhg28=>?_) λhg28=>?_
  .refine one ?_;obtain⟨x4,a⟩:=gx ((iD s).1) 0;refine ss (ixs 0) ?_;refine one ?_;refine ss (fG a 0) ?_;refine g3 ?_;refine sD (λhg35=>?_) λhg35=>?_
   .refine one ?_;refine ss (ixs 0) ?_;refine one ?_;refine ss (fG a 2) ?_;refine g7 ?_;exact rs1 () i6 (he:=p8)
   refine g11 ?_;exact rs1 () i6 (he:=p8)
  refine g18 ?_;exact rs1 () i6 (he:=p8)
 refine g23 ?_;exact rs1 () i6 (he:=p8)
end
section
open Go.RowKit Go.Proofs.Tryz
def atP (toks:List TokV)(k:Nat)(e:Int):Int:=match toks[k]? with
 |some t=>t.at_
 |none=>e
def bL (toks:List TokV)(k:Nat):TokV:=match toks[k]? with
 |some t=>t
 |none=>⟨4,0,[],0⟩
def tokV (t:TokV):Value:= .agg #[.int .i64 t.kind,.int .i64 t.at_,.string (bs t.word),.int .i64 t.n]
section
variable {toks : List TokV} {k : Nat} {e : Int}
theorem bKh{t:TokV}(h:toks[k]?=some t):atP toks k e=t.at_:=by unfold atP;rw[h]
theorem bRo(h:toks.length<=k):atP toks k e=e:=by unfold atP;rw[L0 h]
theorem vX{t:TokV}(h:toks[k]?=some t):bL toks k=t:=by unfold bL;rw[h]
theorem bGv(h:toks.length<=k):bL toks k=⟨4,0,[],0⟩:=by unfold bL;rw[L0 h]
end
structure Phr where
 H:Int
 at_:Int
 fn:Int
 Y:Flt
 next:Nat
def bM (toks:List TokV)(k:Nat)(e:Int)(left:Bool):Phr:=
 if (bL toks (k+1)).kind=3/\((bL toks (k+1)).word=[47]\/(bL toks (k+1)).word=[92]\/(bL toks (k+1)).word=[46])then
  if 17<jK (bL toks k).word\/((bL toks (k+1)).word==[46])≠left then ⟨if left then 4 else 3,(bL toks k).at_,jK (bL toks k).word,(atP toks k e,43),k+1+1⟩
  else ⟨if (bL toks (k+1)).word=[47]then 5 else if (bL toks (k+1)).word=[92]then 6 else 7,(bL toks k).at_,jK (bL toks k).word,if jK (bL toks k).word=0 then (atP toks k e,43)else (0,0),k+1+1⟩
 else ⟨if left then 4 else 3,(bL toks k).at_,gF (bL toks k).word left,if gF (bL toks k).word left=0 then (atP toks k e,43)else (0,0),k+1⟩
def phrV (p:Phr):Value:= .tuple #[.agg #[.int .i64 p.H,.int .i64 p.at_,.int .u8 p.fn,.string (bs []),.slice none 0 0],.agg #[.int .i64 p.Y.1,.int .i64 p.Y.2]]
theorem pJ:(prog.info? 62).bind (·.zero)=some (.agg #[k6 0,k6 0,k7 0,.string (bs []),.slice none 0 0]):=m0
theorem tW(z0:Int)(z1:Int):prog.built 62 [(0,k6 z0),(1,k6 z1)]=some #[k6 z0,k6 z1,k7 0,.string (bs []),.slice none 0 0]:=m0
theorem at_spec(bl:Nat)(A:Option Addr)(c:Nat)(toks:List TokV)(k:Nat)(e:Int):cY prog 118 [.pointer (some ⟨bl,0,none⟩)] [.obj bl (.cells [.slice A toks.length c,k6 (k:Nat),k6 e].toArray 108)] [nR.sl (.slice A toks.length c) toks] (λ(_:Unit)=> k6 (atP toks k e)) (λ(_:Unit)=>[.obj bl (.cells [.slice A toks.length c,k6 (k:Nat),k6 e].toArray 108)]) (λ_=>[]):=by
 have hT:=gJ;refine j5 func118 ntmps118 ?_;intro β hM;refine g7 ?_;refine cL _ _ [j9,u0,u5,u9,A00,u6,A02,A01,A03,A04] cN o0 (.c0 .nil) bA.self ?_;refine g12 ?_;refine dP (λb=>?_) λb=>?_
 .refine bP<|cL _ _ [j9,u0,u5,u9,A00,u6,A02,A01,A03,A04,A08,A07] cN o0 (.c0 .nil) bA.self ?_;refine g8 ?_;obtain⟨x1,a⟩:=gx toks k;refine stM rfl (ixs k) ?_;refine one ?_;refine stM rfl (fG a 1) ?_;refine g5 ?_;exact rs1 () i6 (he:=by rw[bKh a])
 refine g12 ?_;exact rs1 () i6 (he:=by rw[bRo l7])
theorem kF(bl:Nat)(A:Option Addr)(c:Nat)(toks:List TokV)(k:Nat)(e:Int):cY prog 83 [.pointer (some ⟨bl,0,none⟩)] [.obj bl (.cells [.slice A toks.length c,k6 (k:Nat),k6 e].toArray 108)] [nR.sl (.slice A toks.length c) toks] (λ(_:Unit)=>tokV (bL toks k)) (λ(_:Unit)=>[.obj bl (.cells [.slice A toks.length c,k6 (k:Nat),k6 e].toArray 108)]) (λ_=>[]):=by
 have hT:=gJ;refine j5 func83 ntmps83 ?_;intro β hM;refine g2 ?_;refine j1 bDb λf=>?_;refine g4 ?_;refine cL _ _ [j9,u0,u5,u9,A00,u6,A02,A01,A03,A04] cN o0 (.c0 (.c0 .nil)) bA.self ?_;refine g12 ?_;refine dP (λb=>?_) λb=>?_
 .refine bP<|cL _ _ [j9,u0,u5,u9,A00,u6,A02,A01,A03,A04,A73] cN o0 (.c1 .nil) bA.self ?_;refine g8 ?_;obtain⟨d,a⟩:=gx toks k;refine stM rfl (ixs k) ?_;refine stM rfl (pF a 0) ?_;refine g2 ?_;refine fJ (.c1 .nil) ⟨d7,i6⟩ ?_;refine g4 ?_;exact rs1 () i6 (he:=by rw[vX a];rfl)
 refine g4 ?_;refine ss (j3 (yP _)) ?_;refine g4 ?_;exact rs1 () i6 (he:=by rw[bGv l7];rfl)
theorem cQ(bl:Nat)(A:Option Addr)(c:Nat)(toks:List TokV)(k:Nat)(e:Int)(z:Int):cY prog 84 [.pointer (some ⟨bl,0,none⟩),k6 z] [.obj bl (.cells [.slice A toks.length c,k6 (k:Nat),k6 e].toArray 108)] [nR.sl (.slice A toks.length c) toks] (λ(_:Unit)=> .agg #[k6 (atP toks k e),k6 z]) (λ(_:Unit)=>[.obj bl (.cells [.slice A toks.length c,k6 (k:Nat),k6 e].toArray 108)]) (λ_=>[]):=by have hT:=gJ;refine j5 func84 ntmps84 ?_;intro β hM;refine g2 ?_;refine j1 bGy λa=>?_;refine g5 ?_;refine bD func118 (at_spec bl A c toks (k) e) rfl rfl (.c1 .nil) ⟨d7,i6⟩ λ_=>?_;refine one ?_;refine ss (j3 (zF _ _)) ?_;refine g4 ?_;exact rs1 () trivial
theorem phraseT_spec(bl:Nat)(A:Option Addr)(c:Nat)(toks:List TokV)(k:Nat)(e:Int)(hk:k<=1000000):cY prog 122 [.pointer (some ⟨bl,0,none⟩),.bool true] [.obj bl (.cells [.slice A toks.length c,k6 (k:Nat),k6 e].toArray 108)] [nR.sl (.slice A toks.length c) toks] (λ(_:Unit)=>phrV (bM toks k e true)) (λ(_:Unit)=>[.obj bl (.cells [.slice A toks.length c,k6 ((bM toks k e true).next:Nat),k6 e].toArray 108)]) (λ_=>[]):=by
 have hT:=gJ;refine j5 func122 ntmps122 ?_;intro β hM;refine g2 ?_;refine j1 pJ λn=>?_;refine j1 bGy λm=>?_;refine g5 ?_;refine bD func83 (kF bl A c toks (k) e) rfl rfl (.c2 .nil) ⟨d7,i6⟩ λ_=>?_;refine j1 bDb λl=>?_;refine g6 ?_;refine bD func84 (cQ bl A c toks (k) e _) rfl rfl (.c1 .nil) ⟨d7,i6⟩ λ_=>?_;refine j1 bGy λj=>?_;refine g10 ?_;refine inc (k+1) ?_;refine g9 ?_;refine ss (j3 (tW _ _)) ?_;refine j1 pJ λi=>?_;refine g20 ?_;refine bD func89 (bLm _ true) rfl rfl .nil i6 λ_=>?_;refine g11 ?_;refine bD func83 (kF bl A c toks ((k+1)) e) rfl rfl (.c1 .nil) ⟨d7,i6⟩ λ_=>?_;refine j1 bDb λg=>?_;refine g9 ?_;refine sD (λf=>?_) λf=>?_
 .refine g4 ?_;refine cG (λhg43=>?_) (λhg43=>?_)
  .have hg43:(bL toks ((k+1))).word=([47]:Bs):=eq_of_beq hg43;refine g20 ?_;refine inc ((k+1)+1) ?_;refine g9 ?_;refine bD func127 (lU _) rfl rfl .nil i6 λ_=>?_;refine g11 ?_;refine lR (λb=>?_) λb=>?_
   .refine g10 ?_;refine cL _ _ [j9,u0,A05,A06] cN o0 (.c0 (.c0 (.c0 (.c0 (.c0 .nil))))) bA.self ?_;refine g4 ?_;refine fJ (.c1 (.c1 (.c1 (.c1 (.c1 .nil))))) ⟨d7,i6⟩ ?_;refine g2 ?_;refine fJ (.c2 (.c2 (.c2 (.c2 (.c2 .nil))))) ⟨d7,i6⟩ ?_;refine g5 ?_;have a:bM toks k e true=⟨4,(bL toks (k)).at_,(jK (bL toks k).word),((atP toks (k) e),43),((k+1)+1)⟩:=by first|(simp[bM, *];done)|simp_all[bM]
    rw[a];exact rs2 () trivial
   refine g3 ?_;refine bC (t':=false) (aj5) ?_;refine g2 ?_;refine bC (t':=true) rfl ?_;refine g5 ?_;refine cL _ _ [j9,u0,A05,A06] cN o0 (.c0 (.c0 (.c0 (.c0 (.c0 .nil))))) bA.self ?_;refine g4 ?_;refine fJ (.c1 (.c1 (.c1 (.c1 (.c1 .nil))))) ⟨d7,i6⟩ ?_;refine g2 ?_;refine fJ (.c2 (.c2 (.c2 (.c2 (.c2 .nil))))) ⟨d7,i6⟩ ?_;refine g5 ?_;have a:bM toks k e true=⟨4,(bL toks (k)).at_,(jK (bL toks k).word),((atP toks (k) e),43),((k+1)+1)⟩:=by first|(simp[bM, *];done)|simp_all[bM]
   rw[a];exact rs2 () trivial
  have hg43:(bL toks ((k+1))).word≠([47]:Bs):=λh=>absurd (beq_iff_eq.2 h) ai5;refine g5 ?_;refine cG (λhg48=>?_) (λhg48=>?_)
  .have hg48:(bL toks ((k+1))).word=([92]:Bs):=eq_of_beq hg48;refine g15 ?_;refine inc ((k+1)+1) ?_;refine g9 ?_;refine bD func127 (lU _) rfl rfl .nil i6 λ_=>?_;refine g11 ?_;refine lR (λb=>?_) λb=>?_
   .refine g10 ?_;refine cL _ _ [j9,u0,A05,A06] cN o0 (.c0 (.c0 (.c0 (.c0 (.c0 .nil))))) bA.self ?_;refine g4 ?_;refine fJ (.c1 (.c1 (.c1 (.c1 (.c1 .nil))))) ⟨d7,i6⟩ ?_;refine g2 ?_;refine fJ (.c2 (.c2 (.c2 (.c2 (.c2 .nil))))) ⟨d7,i6⟩ ?_;refine g5 ?_;have a:bM toks k e true=⟨4,(bL toks (k)).at_,(jK (bL toks k).word),((atP toks (k) e),43),((k+1)+1)⟩:=by first|(simp[bM, *];done)|simp_all[bM]
    rw[a];exact rs2 () trivial
   refine g3 ?_;refine bC (t':=false) (aj6) ?_;refine g2 ?_;refine bC (t':=true) rfl ?_;refine g5 ?_;refine cL _ _ [j9,u0,A05,A06] cN o0 (.c0 (.c0 (.c0 (.c0 (.c0 .nil))))) bA.self ?_;refine g4 ?_;refine fJ (.c1 (.c1 (.c1 (.c1 (.c1 .nil))))) ⟨d7,i6⟩ ?_;refine g2 ?_;refine fJ (.c2 (.c2 (.c2 (.c2 (.c2 .nil))))) ⟨d7,i6⟩ ?_;refine g5 ?_;have a:bM toks k e true=⟨4,(bL toks (k)).at_,(jK (bL toks k).word),((atP toks (k) e),43),((k+1)+1)⟩:=by first|(simp[bM, *];done)|simp_all[bM]
   rw[a];exact rs2 () trivial
  have hg48:(bL toks ((k+1))).word≠([92]:Bs):=λh=>absurd (beq_iff_eq.2 h) ai6;refine g7 ?_;refine fX (λhc53=>?_) λhc53=>?_
  .have hc53:(bL toks ((k+1))).word=([46]:Bs):=eq_of_beq hc53;refine g7 ?_;refine inc ((k+1)+1) ?_;refine g9 ?_;refine bD func127 (lU _) rfl rfl .nil i6 λ_=>?_;refine g11 ?_;refine lR (λb=>?_) λb=>?_
   .refine g10 ?_;refine cL _ _ [j9,u0,A05,A06] cN o0 (.c0 (.c0 (.c0 (.c0 (.c0 .nil))))) bA.self ?_;refine g4 ?_;refine fJ (.c1 (.c1 (.c1 (.c1 (.c1 .nil))))) ⟨d7,i6⟩ ?_;refine g2 ?_;refine fJ (.c2 (.c2 (.c2 (.c2 (.c2 .nil))))) ⟨d7,i6⟩ ?_;refine g5 ?_;have a:bM toks k e true=⟨4,(bL toks (k)).at_,(jK (bL toks k).word),((atP toks (k) e),43),((k+1)+1)⟩:=by first|(simp[bM, *];done)|simp_all[bM]
    rw[a];exact rs2 () trivial
   refine g3 ?_;refine bC (t':=true) (aj7) ?_;refine g2 ?_;refine bC (t':=false) rfl ?_;refine g16 ?_;refine bC (t':=false) ((by show((bL toks ((k+1))).word==([47]:Bs))=_;rw[hc53];rfl)) ?_;refine g7 ?_;refine bC (t':=false) ((by show((bL toks ((k+1))).word==([92]:Bs))=_;rw[hc53];rfl)) ?_;refine g18 ?_;refine gN (λd=>?_) λd=>?_
   .refine bP<|cL _ _ [j9,u0,A05,A06] cN o0 (.c0 (.c0 (.c0 (.c0 (.c0 .nil))))) bA.self ?_;refine g4 ?_;refine fJ (.c1 (.c1 (.c1 (.c1 (.c1 .nil))))) ⟨d7,i6⟩ ?_;refine g2 ?_;refine fJ (.c2 (.c2 (.c2 (.c2 (.c2 .nil))))) ⟨d7,i6⟩ ?_;refine g4 ?_;have a:bM toks k e true=⟨7,(bL toks (k)).at_,(jK (bL toks k).word),((atP toks (k) e),43),((k+1)+1)⟩:=by first|(simp[bM, *];done)|simp_all[bM]
    rw[a];exact rs2 () trivial
   refine g5 ?_;refine ss (j3 (bDk)) ?_;refine g5 ?_;have a:bM toks k e true=⟨7,(bL toks (k)).at_,(jK (bL toks k).word),(0,0),((k+1)+1)⟩:=by first|(simp[bM, *];done)|simp_all[bM]
   rw[a];exact rs2 () trivial
  have hc53:(bL toks ((k+1))).word≠([46]:Bs):=λh=>absurd (beq_iff_eq.2 h) ai7;refine g10 ?_;refine gN (λd=>?_) λd=>?_
  .refine bP<|cL _ _ [j9,u0,A05,A06] cN o0 (.c0 (.c0 (.c0 (.c0 (.c0 .nil))))) bA.self ?_;refine g4 ?_;refine fJ (.c1 (.c1 (.c1 (.c1 (.c1 .nil))))) ⟨d7,i6⟩ ?_;refine g2 ?_;refine fJ (.c2 (.c2 (.c2 (.c2 (.c2 .nil))))) ⟨d7,i6⟩ ?_;refine g4 ?_;have a:bM toks k e true=⟨4,(bL toks (k)).at_,(gF (bL toks k).word true),((atP toks (k) e),43),(k+1)⟩:=by first|(simp[bM, *];done)|simp_all[bM]
   rw[a];exact rs2 () trivial
  refine g5 ?_;refine ss (j3 (bDk)) ?_;refine g5 ?_;have a:bM toks k e true=⟨4,(bL toks (k)).at_,(gF (bL toks k).word true),(0,0),(k+1)⟩:=by first|(simp[bM, *];done)|simp_all[bM]
  rw[a];exact rs2 () trivial
 refine g27 ?_;refine gN (λd=>?_) λd=>?_
 .refine bP<|cL _ _ [j9,u0,A05,A06] cN o0 (.c0 (.c0 (.c0 (.c0 (.c0 .nil))))) bA.self ?_;refine g4 ?_;refine fJ (.c1 (.c1 (.c1 (.c1 (.c1 .nil))))) ⟨d7,i6⟩ ?_;refine g2 ?_;refine fJ (.c2 (.c2 (.c2 (.c2 (.c2 .nil))))) ⟨d7,i6⟩ ?_;refine g4 ?_;have a:bM toks k e true=⟨4,(bL toks (k)).at_,(gF (bL toks k).word true),((atP toks (k) e),43),(k+1)⟩:=by first|(simp[bM, *];done)|simp_all[bM]
  rw[a];exact rs2 () trivial
 refine g5 ?_;refine ss (j3 (bDk)) ?_;refine g5 ?_;have a:bM toks k e true=⟨4,(bL toks (k)).at_,(gF (bL toks k).word true),(0,0),(k+1)⟩:=by first|(simp[bM, *];done)|simp_all[bM]
 rw[a];exact rs2 () trivial
theorem phraseF_spec(bl:Nat)(A:Option Addr)(c:Nat)(toks:List TokV)(k:Nat)(e:Int)(hk:k<=1000000):cY prog 122 [.pointer (some ⟨bl,0,none⟩),.bool false] [.obj bl (.cells [.slice A toks.length c,k6 (k:Nat),k6 e].toArray 108)] [nR.sl (.slice A toks.length c) toks] (λ(_:Unit)=>phrV (bM toks k e false)) (λ(_:Unit)=>[.obj bl (.cells [.slice A toks.length c,k6 ((bM toks k e false).next:Nat),k6 e].toArray 108)]) (λ_=>[]):=by
 have hT:=gJ;refine j5 func122 ntmps122 ?_;intro β hM;refine g2 ?_;refine j1 pJ λn=>?_;refine j1 bGy λm=>?_;refine g5 ?_;refine bD func83 (kF bl A c toks (k) e) rfl rfl (.c2 .nil) ⟨d7,i6⟩ λ_=>?_;refine j1 bDb λl=>?_;refine g6 ?_;refine bD func84 (cQ bl A c toks (k) e _) rfl rfl (.c1 .nil) ⟨d7,i6⟩ λ_=>?_;refine j1 bGy λj=>?_;refine g10 ?_;refine inc (k+1) ?_;refine g9 ?_;refine ss (j3 (tW _ _)) ?_;refine j1 pJ λi=>?_;refine g17 ?_;refine bD func89 (bLm _ false) rfl rfl .nil i6 λ_=>?_;refine g11 ?_;refine bD func83 (kF bl A c toks ((k+1)) e) rfl rfl (.c1 .nil) ⟨d7,i6⟩ λ_=>?_;refine j1 bDb λg=>?_;refine g9 ?_;refine sD (λf=>?_) λf=>?_
 .refine g4 ?_;refine cG (λhg43=>?_) (λhg43=>?_)
  .have hg43:(bL toks ((k+1))).word=([47]:Bs):=eq_of_beq hg43;refine g20 ?_;refine inc ((k+1)+1) ?_;refine g9 ?_;refine bD func127 (lU _) rfl rfl .nil i6 λ_=>?_;refine g11 ?_;refine lR (λd=>?_) λd=>?_
   .refine g10 ?_;refine cL _ _ [j9,u0,A05,A06] cN o0 (.c0 (.c0 (.c0 (.c0 (.c0 .nil))))) bA.self ?_;refine g4 ?_;refine fJ (.c1 (.c1 (.c1 (.c1 (.c1 .nil))))) ⟨d7,i6⟩ ?_;refine g2 ?_;refine fJ (.c2 (.c2 (.c2 (.c2 (.c2 .nil))))) ⟨d7,i6⟩ ?_;refine g5 ?_;have a:bM toks k e false=⟨3,(bL toks (k)).at_,(jK (bL toks k).word),((atP toks (k) e),43),((k+1)+1)⟩:=by first|(simp[bM, *];done)|simp_all[bM]
    rw[a];exact rs2 () trivial
   refine g3 ?_;refine bC (t':=false) (aj5) ?_;refine g2 ?_;refine bC (t':=false) rfl ?_;refine g16 ?_;refine bC (t':=true) ((by show((bL toks ((k+1))).word==([47]:Bs))=_;rw[hg43];rfl)) ?_;refine g18 ?_;refine gN (λb=>?_) λb=>?_
   .refine bP<|cL _ _ [j9,u0,A05,A06] cN o0 (.c0 (.c0 (.c0 (.c0 (.c0 .nil))))) bA.self ?_;refine g4 ?_;refine fJ (.c1 (.c1 (.c1 (.c1 (.c1 .nil))))) ⟨d7,i6⟩ ?_;refine g2 ?_;refine fJ (.c2 (.c2 (.c2 (.c2 (.c2 .nil))))) ⟨d7,i6⟩ ?_;refine g4 ?_;have a:bM toks k e false=⟨5,(bL toks (k)).at_,(jK (bL toks k).word),((atP toks (k) e),43),((k+1)+1)⟩:=by first|(simp[bM, *];done)|simp_all[bM]
    rw[a];exact rs2 () trivial
   refine g5 ?_;refine ss (j3 (bDk)) ?_;refine g5 ?_;have a:bM toks k e false=⟨5,(bL toks (k)).at_,(jK (bL toks k).word),(0,0),((k+1)+1)⟩:=by first|(simp[bM, *];done)|simp_all[bM]
   rw[a];exact rs2 () trivial
  have hg43:(bL toks ((k+1))).word≠([47]:Bs):=λh=>absurd (beq_iff_eq.2 h) ai5;refine g5 ?_;refine cG (λhg48=>?_) (λhg48=>?_)
  .have hg48:(bL toks ((k+1))).word=([92]:Bs):=eq_of_beq hg48;refine g15 ?_;refine inc ((k+1)+1) ?_;refine g9 ?_;refine bD func127 (lU _) rfl rfl .nil i6 λ_=>?_;refine g11 ?_;refine lR (λd=>?_) λd=>?_
   .refine g10 ?_;refine cL _ _ [j9,u0,A05,A06] cN o0 (.c0 (.c0 (.c0 (.c0 (.c0 .nil))))) bA.self ?_;refine g4 ?_;refine fJ (.c1 (.c1 (.c1 (.c1 (.c1 .nil))))) ⟨d7,i6⟩ ?_;refine g2 ?_;refine fJ (.c2 (.c2 (.c2 (.c2 (.c2 .nil))))) ⟨d7,i6⟩ ?_;refine g5 ?_;have a:bM toks k e false=⟨3,(bL toks (k)).at_,(jK (bL toks k).word),((atP toks (k) e),43),((k+1)+1)⟩:=by first|(simp[bM, *];done)|simp_all[bM]
    rw[a];exact rs2 () trivial
   refine g3 ?_;refine bC (t':=false) (aj6) ?_;refine g2 ?_;refine bC (t':=false) rfl ?_;refine g16 ?_;refine bC (t':=false) ((by show((bL toks ((k+1))).word==([47]:Bs))=_;rw[hg48];rfl)) ?_;refine g7 ?_;refine bC (t':=true) ((by show((bL toks ((k+1))).word==([92]:Bs))=_;rw[hg48];rfl)) ?_;refine g18 ?_;refine gN (λb=>?_) λb=>?_
   .refine bP<|cL _ _ [j9,u0,A05,A06] cN o0 (.c0 (.c0 (.c0 (.c0 (.c0 .nil))))) bA.self ?_;refine g4 ?_;refine fJ (.c1 (.c1 (.c1 (.c1 (.c1 .nil))))) ⟨d7,i6⟩ ?_;refine g2 ?_;refine fJ (.c2 (.c2 (.c2 (.c2 (.c2 .nil))))) ⟨d7,i6⟩ ?_;refine g4 ?_;have a:bM toks k e false=⟨6,(bL toks (k)).at_,(jK (bL toks k).word),((atP toks (k) e),43),((k+1)+1)⟩:=by first|(simp[bM, *];done)|simp_all[bM]
    rw[a];exact rs2 () trivial
   refine g5 ?_;refine ss (j3 (bDk)) ?_;refine g5 ?_;have a:bM toks k e false=⟨6,(bL toks (k)).at_,(jK (bL toks k).word),(0,0),((k+1)+1)⟩:=by first|(simp[bM, *];done)|simp_all[bM]
   rw[a];exact rs2 () trivial
  have hg48:(bL toks ((k+1))).word≠([92]:Bs):=λh=>absurd (beq_iff_eq.2 h) ai6;refine g7 ?_;refine fX (λhc53=>?_) λhc53=>?_
  .have hc53:(bL toks ((k+1))).word=([46]:Bs):=eq_of_beq hc53;refine g7 ?_;refine inc ((k+1)+1) ?_;refine g9 ?_;refine bD func127 (lU _) rfl rfl .nil i6 λ_=>?_;refine g11 ?_;refine lR (λd=>?_) λd=>?_
   .refine g10 ?_;refine cL _ _ [j9,u0,A05,A06] cN o0 (.c0 (.c0 (.c0 (.c0 (.c0 .nil))))) bA.self ?_;refine g4 ?_;refine fJ (.c1 (.c1 (.c1 (.c1 (.c1 .nil))))) ⟨d7,i6⟩ ?_;refine g2 ?_;refine fJ (.c2 (.c2 (.c2 (.c2 (.c2 .nil))))) ⟨d7,i6⟩ ?_;refine g5 ?_;have a:bM toks k e false=⟨3,(bL toks (k)).at_,(jK (bL toks k).word),((atP toks (k) e),43),((k+1)+1)⟩:=by first|(simp[bM, *];done)|simp_all[bM]
    rw[a];exact rs2 () trivial
   refine g3 ?_;refine bC (t':=true) (aj7) ?_;refine g2 ?_;refine bC (t':=true) rfl ?_;refine g5 ?_;refine cL _ _ [j9,u0,A05,A06] cN o0 (.c0 (.c0 (.c0 (.c0 (.c0 .nil))))) bA.self ?_;refine g4 ?_;refine fJ (.c1 (.c1 (.c1 (.c1 (.c1 .nil))))) ⟨d7,i6⟩ ?_;refine g2 ?_;refine fJ (.c2 (.c2 (.c2 (.c2 (.c2 .nil))))) ⟨d7,i6⟩ ?_;refine g5 ?_;have a:bM toks k e false=⟨3,(bL toks (k)).at_,(jK (bL toks k).word),((atP toks (k) e),43),((k+1)+1)⟩:=by first|(simp[bM, *];done)|simp_all[bM]
   rw[a];exact rs2 () trivial
  have hc53:(bL toks ((k+1))).word≠([46]:Bs):=λh=>absurd (beq_iff_eq.2 h) ai7;refine g10 ?_;refine gN (λb=>?_) λb=>?_
  .refine bP<|cL _ _ [j9,u0,A05,A06] cN o0 (.c0 (.c0 (.c0 (.c0 (.c0 .nil))))) bA.self ?_;refine g4 ?_;refine fJ (.c1 (.c1 (.c1 (.c1 (.c1 .nil))))) ⟨d7,i6⟩ ?_;refine g2 ?_;refine fJ (.c2 (.c2 (.c2 (.c2 (.c2 .nil))))) ⟨d7,i6⟩ ?_;refine g4 ?_;have a:bM toks k e false=⟨3,(bL toks (k)).at_,(gF (bL toks k).word false),((atP toks (k) e),43),(k+1)⟩:=by first|(simp[bM, *];done)|simp_all[bM]
   rw[a];exact rs2 () trivial
  refine g5 ?_;refine ss (j3 (bDk)) ?_;refine g5 ?_;have a:bM toks k e false=⟨3,(bL toks (k)).at_,(gF (bL toks k).word false),(0,0),(k+1)⟩:=by first|(simp[bM, *];done)|simp_all[bM]
  rw[a];exact rs2 () trivial
 refine g27 ?_;refine gN (λb=>?_) λb=>?_
 .refine bP<|cL _ _ [j9,u0,A05,A06] cN o0 (.c0 (.c0 (.c0 (.c0 (.c0 .nil))))) bA.self ?_;refine g4 ?_;refine fJ (.c1 (.c1 (.c1 (.c1 (.c1 .nil))))) ⟨d7,i6⟩ ?_;refine g2 ?_;refine fJ (.c2 (.c2 (.c2 (.c2 (.c2 .nil))))) ⟨d7,i6⟩ ?_;refine g4 ?_;have a:bM toks k e false=⟨3,(bL toks (k)).at_,(gF (bL toks k).word false),((atP toks (k) e),43),(k+1)⟩:=by first|(simp[bM, *];done)|simp_all[bM]
  rw[a];exact rs2 () trivial
 refine g5 ?_;refine ss (j3 (bDk)) ?_;refine g5 ?_;have a:bM toks k e false=⟨3,(bL toks (k)).at_,(gF (bL toks k).word false),(0,0),(k+1)⟩:=by first|(simp[bM, *];done)|simp_all[bM]
 rw[a];exact rs2 () trivial
end
section
open Go.RowKit Go.Proofs.Tryz
abbrev oS:=Option (Nat×ItemV)
def fnV (b4:Nat):oS->Value
 |none=> .nilFunc
 |some x=> .func (.func 123) #[] #[.pointer (some ⟨b4,0,none⟩),.pointer (some ⟨x.1,0,none⟩)]
def fnE (b4:Nat):Flat oS where
 size:=1
 cells:=λx=>[fnV b4 x]
 len:=λ_=>rfl
 one:=λx u hu=>by simp at hu;subst hu;cases x<;>rfl
 pos:=m6
theorem fnInfo: ∃i:TypeInfo,prog.info? 1=some i/\i.zero=some .nilFunc/\i.size=1/\i.bytes=8:=by
 have h:(prog.info? 1).map (λi=>(i.zero,i.size,i.bytes))=some (some .nilFunc,1,8):=m0
 cases hi:prog.info? 1 with
 |none=>simp[hi]at h
 |some i=>simp[hi]at h;exact⟨i,rfl,h.1,h.2.1,h.2.2⟩
section
variable {β : fS} {n : Nat} {Γ : Env} {H : List bK} {F : List Fact} {Q : Exit -> Act -> World -> Prop} {ops : Array Oper} {rest : List Oper} {o : Oper} {d : Nat}
theorem bLl{b4:Nat}{x:Operand}{m:oS}(hw:want ops Γ o=some true)(ho:o.op= .buildSlice 172 1 #[(0,x)])(hd:o.dst=some d)(hn:B2 d n=true)
  (hx:Γ.ev x=some (fnV b4 m)) (k: ∀b,At β n ((d,.slice (some ⟨b,0,none⟩) 1 1)::Γ) (.obj b (.cells ((fnE b4).all [m]).toArray 1)::H) F (wpList prog ops Q rest)):At β n Γ H F (wpList prog ops Q (o::rest)):=by obtain⟨i,hi,a,hs,_⟩:=fnInfo;refine kD hw ho hd hn hx underlying172 hi a l7 l7 ?_ k;rw[hs];cases m<;>kernel_rfl
theorem bMi{b4:Nat}{x y:Operand}{c q:Nat}{v:Value}{A:Option Addr}{xs ys:List oS}{H':List bK}(hH:cT H ((fnE b4).row v 1 xs) H')(hr:dD β H F (fnE b4) A ys)(hg:o.guard=none)
  (ho:o.op= .call {callee:= .builtin .append,args:= #[x,y],argTypes:= #[172,172]}) (hd:o.dst=some d) (hn:B2 d n=true)
  (hx:Γ.ev x=some v) (hy:Γ.ev y=some (.slice A q c)) (hq:q=ys.length) (hl:xs.length+ys.length<=10000000)
  (k: ∀A' cap',At β n ((d,.slice A' (xs++ys).length cap')::Γ) ((fnE b4).row (.slice A' (xs++ys).length cap') 1 (xs++ys)::H') F (wpList prog ops Q rest)):At β n Γ H F (wpList prog ops Q (o::rest)):=by obtain⟨i,hi,a,hs,b⟩:=fnInfo;exact gY hH hr hg ho hd hn underlying172 hi a hs b rfl hx hy hq l7 m6 k
end
def pB (st:List oS):Fact:=Fact.each st λo=>match o with
 |none=>Fact.true
 |some x=>Fact.cells x.1 0 (mU.cells x.2)
def finP:List oS->List ItemV×List oS
 |some x::r=>(x.2::(finP r).1,(finP r).2)
 |none::r=>([],none::r)
 |[]=>([],[])
theorem itemZ:(prog.info? 56).bind (·.zero)=some (.slice none 0 0):=m0
theorem funcZ:(prog.info? 172).bind (·.zero)=some (.slice none 0 0):=m0
theorem bLc{x:oS}{r:List oS}:(x::r).reverse[(r.length+1)-1]?=some x:=by simp
theorem bLo{x:oS}{r:List oS}:(x::r).reverse.take ((r.length+1)-1)=r.reverse:=by simp
theorem mK(x:oS)(r:List oS):(x::r).reverse.length=r.length+1:=by simp
section
variable {F : List Fact} {x : Nat × ItemV} {o : oS} {r : List oS}
theorem todo_head(h:Has F (pB (some x::r))):Has F (Fact.cells x.1 0 (mU.cells x.2)):=λS w k=>h S w k (some x) (E8 ..)
theorem bMy(h:Has F (pB (o::r))):Has F (pB r):=λS w k y hy=>h S w k y (E4 _ hy)
theorem todo_nil:Has F (pB []):=λ_ _ _ y hy=>by simp at hy
theorem todo_none(h:Has F (pB r)):Has F (pB (none::r)):=λS w k y hy=>by
 rcases E2.1 hy with rfl|hy
 .trivial
 .exact h S w k y hy
theorem bYs(hx:Has F (Fact.cells x.1 0 (mU.cells x.2)))(h:Has F (pB r)):Has F (pB (some x::r)):=λS w k y hy=>by
 rcases E2.1 hy with rfl|hy
 .exact hx S w k
 .exact h S w k y hy
end
def uX (p:Phr):ItemV:=⟨p.H,p.at_,p.fn,[],⟨none,0,[]⟩⟩
theorem push_spec(b4 bi:Nat)(C:Option Addr)(e:Nat)(out:List ItemV)(it:ItemV)(ho:out.length<=1000000):cY prog 123 [.pointer (some ⟨b4,0,none⟩),.pointer (some ⟨bi,0,none⟩)] [.obj b4 (.cells [.slice C out.length e].toArray 56),mU.row (.slice C out.length e) 62 out] [Fact.cells bi 0 (mU.cells it)] (λ(_:Option Addr×Nat)=> .tuple #[]) (λ(x:Option Addr×Nat)=>[.obj b4 (.cells [.slice x.1 (out++[it]).length x.2].toArray 56),mU.row (.slice x.1 (out++[it]).length x.2) 62 (out++[it])]) (λ_=>[]):=by have hT:=gJ;refine j5 func123 ntmps123 ?_;intro β hM;refine g2 ?_;refine ss (fP hT (knows_fact d7) rfl rfl rfl rfl rfl) ?_;refine bCw (m:=it) rfl rfl rfl rfl rfl λb=>?_;refine bDl kT2 (bU .head rfl) rfl rfl rfl rfl rfl rfl rfl aa7 λa c3=>?_;refine g2 ?_;exact bAm (a,c3) rfl (.c0 (.c0 .nil)) i6 (rfl)
theorem rH(b5 b4:Nat)(D:Option Addr)(f:Nat)(st0:List oS)(C:Option Addr)(e:Nat)(out0:List ItemV)(hs:out0.length+st0.length<=100000):cY prog 120 [.pointer (some ⟨b5,0,none⟩)] [.obj b5 (.cells [.slice D st0.reverse.length f].toArray 172),(fnE b4).row (.slice D st0.reverse.length f) 1 st0.reverse,.obj b4 (.cells [.slice C out0.length e].toArray 56),mU.row (.slice C out0.length e) 62 out0] [pB st0] (λ(_:(Option Addr×Nat)×(Option Addr×Nat))=> .tuple #[]) (λ(x:(Option Addr×Nat)×(Option Addr×Nat))=>[.obj b5 (.cells [.slice x.1.1 (finP st0).2.reverse.length x.1.2].toArray 172),(fnE b4).row (.slice x.1.1 (finP st0).2.reverse.length x.1.2) 1 (finP st0).2.reverse,.obj b4 (.cells [.slice x.2.1 (out0++(finP st0).1).length x.2.2].toArray 56),mU.row (.slice x.2.1 (out0++(finP st0).1).length x.2.2) 62 (out0++(finP st0).1)]) (λ_=>[pB (finP st0).2]):=by
 have hT:=gJ;refine j5 func120 ntmps120 ?_;intro β hM;refine one ?_;refine cF (ι:=List oS×List ItemV×Option Addr×Nat×Option Addr×Nat) [(0,_)] ⟨rfl,i6⟩ (λ_=>[]) (λ⟨st,out,D,f,C,e⟩=>[.obj b5 (.cells [.slice D st.reverse.length f].toArray 172),(fnE b4).row (.slice D st.reverse.length f) 1 st.reverse,.obj b4 (.cells [.slice C out.length e].toArray 56),mU.row (.slice C out.length e) 62 out]) (λ⟨st,out,D,f,C,e⟩=>[Fact.pure (out0++(finP st0).1=out++(finP st).1/\(finP st0).2=(finP st).2/\out.length+st.length<=100000),pB st]) (λ⟨st,out,D,f,C,e⟩=>st.length) (st0,out0,D,f,C,e) i6 (.c0 (.c0 (.c0 (.c0 .nil)))) ⟨i7 (⟨rfl,rfl,hs⟩),d7,i6⟩ ?_;rintro⟨st,out,D,f,C,e⟩;dsimp only;refine bF d7 λa=>?_;refine g2 ?_
 rcases st with _|⟨_|⟨b,it⟩,r⟩
 .skip
  refine g5 ?_;refine lR (λc=>?_) λc=>?_
  .simp at c
  refine g15 ?_;have h:(finP st0).2=[]:=a.2.1;have d:out0++(finP st0).1=out:=by rw[a.1];simp[finP]
  rw[h,d];exact bAm ((D,f),(C,e)) rfl (.c0 (.c0 (.c0 (.c0 .nil)))) ⟨d8,i6⟩ (rfl)
 .have g:r.length<=100000:=by have:=a.2.2;simp at this;omega
  refine g3 ?_;refine bJ (z':=(((r.length+1):Nat):Int)) (congrArg L6 (mK _ r)) ?_;refine g2 ?_;refine lR (λc=>?_) λc=>?_
  .refine g3 ?_;refine bJ (z':=(((r.length+1):Nat):Int)) (congrArg L6 (mK _ r)) ?_;refine one ?_;refine inc ((r.length+1)-1) ?_;refine ss (cA hT (k:=((r.length+1)-1)) (cI kT1) rfl rfl rfl rfl rfl rfl rfl al0) ?_;refine ss (fG bLc 0) ?_;refine ss (sti_nofn underlying1 rfl rfl) ?_;refine g8 ?_;have h:(finP st0).2=(none:oS)::r:=a.2.1;have d:out0++(finP st0).1=out:=by rw[a.1];simp[finP]
   rw[h,d];exact bAm ((D,f),(C,e)) rfl (.c0 (.c0 (.c0 (.c0 .nil)))) ⟨d8,i6⟩ (rfl)
  omega
 have g:r.length<=100000:=by have:=a.2.2;simp at this;omega
 have i:out.length<=100000:=by have:=a.2.2;omega
 refine g3 ?_;refine bJ (z':=(((r.length+1):Nat):Int)) (congrArg L6 (mK _ r)) ?_;refine g2 ?_;refine lR (λc=>?_) λc=>?_
 .refine g3 ?_;refine bJ (z':=(((r.length+1):Nat):Int)) (congrArg L6 (mK _ r)) ?_;refine one ?_;refine inc ((r.length+1)-1) ?_;refine ss (cA hT (k:=((r.length+1)-1)) (cI kT1) rfl rfl rfl rfl rfl rfl rfl al0) ?_;refine ss (fG bLc 0) ?_;refine ss (sti_fn underlying1 rfl rfl) ?_;refine g12 ?_;refine bJ (z':=(((r.length+1):Nat):Int)) (congrArg L6 (mK _ r)) ?_;refine one ?_;refine inc ((r.length+1)-1) ?_;refine ss (cA hT (k:=((r.length+1)-1)) (cI kT1) rfl rfl rfl rfl rfl rfl rfl al0) ?_;refine ss (fG bLc 0) ?_;refine jA (bY func123 rfl rfl) (push_spec b4 b _ _ out it l7) rfl rfl rfl rfl rfl rfl rfl (.c2 (.c2 .nil)) ⟨todo_head d8,i6⟩ λ⟨C1,d⟩=>?_;refine g6 ?_;refine bJ (z':=(((r.length+1):Nat):Int)) (congrArg L6 (mK _ r)) ?_;refine one ?_;refine inc ((r.length+1)-1) ?_;refine jH hT (k:=((r.length+1)-1)) kT3 rfl rfl rfl rfl rfl rfl rfl rfl rfl al0 ?_;rw[bLo];refine g4 ?_;refine bB (pB r) (bMy d8) ?_;exact dA (r,_,_,_,_,_) (by dsimp only;simp) i6 ⟨rfl,i6⟩ (.c0 (.c0 (.c0 (.c0 .nil)))) ⟨i7 (⟨by rw[a.1];simp[finP],by rw[a.2.1];rfl,by have:=a.2.2;simp at*;omega⟩),d7,i6⟩ (bA.drop 3)
 omega
theorem rP(bl:Nat)(A:Option Addr)(c:Nat)(toks:List TokV)(k:Nat)(e:Int)(b1 b5 b4:Nat)(D:Option Addr)(f:Nat)(st:List oS)(hk:k<=1000000)(hs:st.length<=100000):cY prog 121 [.bool true,.pointer (some ⟨b1,0,none⟩),.pointer (some ⟨b5,0,none⟩),.pointer (some ⟨b4,0,none⟩)] [.obj bl (.cells [.slice A toks.length c,k6 (k:Nat),k6 e].toArray 108),.obj b1 (.cells [.pointer (some ⟨bl,0,none⟩)].toArray 106),.obj b5 (.cells [.slice D st.reverse.length f].toArray 172),(fnE b4).row (.slice D st.reverse.length f) 1 st.reverse] [nR.sl (.slice A toks.length c) toks,pB st] (λ(_:(Option Addr×Nat)×Nat)=> .agg #[k6 (bM toks (k) e true).Y.1,k6 (bM toks (k) e true).Y.2]) (λ(x:(Option Addr×Nat)×Nat)=>[.obj bl (.cells [.slice A toks.length c,k6 ((bM toks (k) e true).next:Nat),k6 e].toArray 108),.obj b1 (.cells [.pointer (some ⟨bl,0,none⟩)].toArray 106),.obj b5 (.cells [.slice x.1.1 (some (x.2,(uX (bM toks (k) e true)))::st).reverse.length x.1.2].toArray 172),(fnE b4).row (.slice x.1.1 (some (x.2,(uX (bM toks (k) e true)))::st).reverse.length x.1.2) 1 (some (x.2,(uX (bM toks (k) e true)))::st).reverse]) (λ(x:(Option Addr×Nat)×Nat)=>[pB (some (x.2,(uX (bM toks (k) e true)))::st)]):=by have hT:=gJ;refine j5 func121 ntmps121 ?_;intro β hM;refine g2 ?_;refine j1 bGy λb1=>?_;refine g6 ?_;refine bD func122 (phraseT_spec bl A c toks (k) e l7) rfl rfl (.c1 .nil) ⟨d7,i6⟩ λ_=>?_;refine g3 ?_;refine j1 pJ λa=>?_;refine j1 bGy λd=>?_;refine g8 ?_;refine bLl (b4:=b4) (m:=(some (a,(uX (bM toks (k) e true))):oS)) rfl rfl rfl rfl rfl λb4=>?_;refine bMi kT7 (bU .head rfl) rfl rfl rfl rfl rfl rfl rfl ag4 λb c6=>?_;rw[<-L1];refine g10 ?_;refine bFo kT5 ?_;exact rs1 ((b,c6),a) ⟨bYs d7 d9,i6⟩
theorem laterF_spec(bl:Nat)(A:Option Addr)(c:Nat)(toks:List TokV)(k:Nat)(e:Int)(b1 b5 b4:Nat)(D:Option Addr)(f:Nat)(st:List oS)(hk:k<=1000000)(hs:st.length<=100000):cY prog 121 [.bool false,.pointer (some ⟨b1,0,none⟩),.pointer (some ⟨b5,0,none⟩),.pointer (some ⟨b4,0,none⟩)] [.obj bl (.cells [.slice A toks.length c,k6 (k:Nat),k6 e].toArray 108),.obj b1 (.cells [.pointer (some ⟨bl,0,none⟩)].toArray 106),.obj b5 (.cells [.slice D st.reverse.length f].toArray 172),(fnE b4).row (.slice D st.reverse.length f) 1 st.reverse] [nR.sl (.slice A toks.length c) toks,pB st] (λ(_:(Option Addr×Nat)×Nat)=> .agg #[k6 (bM toks (k) e false).Y.1,k6 (bM toks (k) e false).Y.2]) (λ(x:(Option Addr×Nat)×Nat)=>[.obj bl (.cells [.slice A toks.length c,k6 ((bM toks (k) e false).next:Nat),k6 e].toArray 108),.obj b1 (.cells [.pointer (some ⟨bl,0,none⟩)].toArray 106),.obj b5 (.cells [.slice x.1.1 (some (x.2,(uX (bM toks (k) e false)))::st).reverse.length x.1.2].toArray 172),(fnE b4).row (.slice x.1.1 (some (x.2,(uX (bM toks (k) e false)))::st).reverse.length x.1.2) 1 (some (x.2,(uX (bM toks (k) e false)))::st).reverse]) (λ(x:(Option Addr×Nat)×Nat)=>[pB (some (x.2,(uX (bM toks (k) e false)))::st)]):=by have hT:=gJ;refine j5 func121 ntmps121 ?_;intro β hM;refine g2 ?_;refine j1 bGy λb1=>?_;refine g6 ?_;refine bD func122 (phraseF_spec bl A c toks (k) e l7) rfl rfl (.c1 .nil) ⟨d7,i6⟩ λ_=>?_;refine g3 ?_;refine j1 pJ λa=>?_;refine j1 bGy λd=>?_;refine g8 ?_;refine bLl (b4:=b4) (m:=(some (a,(uX (bM toks (k) e false))):oS)) rfl rfl rfl rfl rfl λb4=>?_;refine bMi kT7 (bU .head rfl) rfl rfl rfl rfl rfl rfl rfl ag4 λb c6=>?_;rw[<-L1];refine g10 ?_;refine bFo kT5 ?_;exact rs1 ((b,c6),a) ⟨bYs d7 d9,i6⟩
end
section
open Go.RowKit Go.Proofs.Tryz
structure fF where
 H:Int
 at_:Int
 fn:Int
 name:Bs
 nums:List Int
 deriving Inhabited,DecidableEq
def ItemV.it(x:ItemV):fF:=⟨x.H,x.at_,x.fn,x.name,x.nums.A⟩
def Phr.it(p:Phr):fF:=⟨p.H,p.at_,p.fn,[],[]⟩
abbrev Stk:=List (Option fF)
def bFk (st:List oS):Stk:=st.map λo=>o.map λx=>x.2.it
def qO:Stk->List fF×Stk
 |some x::r=>(x::(qO r).1,(qO r).2)
 |none::r=>([],none::r)
 |[]=>([],[])
theorem bEo: ∀st:List oS,(finP st).1.map ItemV.it=(qO (bFk st)).1/\bFk (finP st).2=(qO (bFk st)).2
 |[]=>⟨rfl,rfl⟩
 |none::r=>⟨rfl,rfl⟩
 |some x::r=>by obtain⟨h1,h2⟩:=bEo r;exact⟨by simp[finP,qO,bFk]at*;exact h1,h2⟩
def opens:List oS->Nat
 |[]=>0
 |none::r=>opens r+1
 |some _::r=>opens r
theorem bAg: ∀st:List oS,(finP st).1.length+(finP st).2.length=st.length
 |[]=>rfl
 |none::r=>by simp[finP]
 |some x::r=>by have:=bAg r;simp[finP];omega
theorem fin_open{st:List oS}(h:0<opens st): ∃r,(finP st).2=none::r/\opens r+1=opens st:=by
 induction st with
 |nil=>simp[opens]at h
 |cons o st ih=>
  cases o with
  |none=>exact⟨st,rfl,rfl⟩
  |some x=>exact ih h
section
variable (toks : List TokV) (e : Int)
def iR (k:Nat):List Int:=((toks.drop k).takeWhile λt=>t.kind==2).map (·.n)
def oG (f:Flt):Bool:=nO ⟨f.1,f.2⟩ ⟨0,0⟩
abbrev bAx:=List fF×Flt
def bHz (rec:Nat->List fF->Stk->Nat->bAx)(o k:Nat)(out:List fF)(st:Stk):bAx:=
 if (bL toks k).kind=4 then (if 0<o then ([],(atP toks k e,42))else (out++(qO st).1,(0,0)))
 else if (bL toks k).kind=2\/nQ (bL toks k).word=false then ([],(atP toks k e,46))
 else if oG (bM toks k e true).Y then rec (bM toks k e true).next out (some (bM toks k e true).it::st) o else ([],(bM toks k e true).Y)
def wY (rec:Nat->List fF->Stk->Nat->bAx):Nat->Nat->List fF->Stk->bAx
 |0,k,out,st=>bHz toks e rec 0 k out st
 |o+1,k,out,st=>if (bL toks k).kind=3/\(bL toks k).word=[41]then wY rec o (k+1) (out++(qO st).1) (qO st).2.tail else bHz toks e rec (o+1) k out st
def bEw (k:Nat):fF:=⟨1,(bL toks k).at_,0,[],iR toks k⟩
def vO (k:Nat):fF:=⟨2,(bL toks k).at_,0,(bL toks k).word,[]⟩
def pG:Nat->Nat->List fF->Stk->Nat->bAx
 |0,_,_,_,_=>([],(0,0))
 |f+1,k,out,st,o=>
  if (bL toks k).kind≠2/\(bL toks k).kind≠4/\nQ (bL toks k).word=true then
   if oG (bM toks k e false).Y then pG f (bM toks k e false).next out (some (bM toks k e false).it::st) o else ([],(bM toks k e false).Y)
  else if (bL toks k).kind=3/\(bL toks k).word=[40]then
   if o=32 then ([],(atP toks k e,44))else pG f (k+1) out (none::st) (o+1)
  else if (bL toks k).kind=2 then wY toks e (pG f) o (k+(iR toks k).length) (out++[bEw toks k]) st
  else if (bL toks k).kind=1/\dQ (bL toks k).word=true then wY toks e (pG f) o (k+1) (out++[vO toks k]) st
  else if (bL toks k).kind=1 then ([],(atP toks k e,41))else ([],(atP toks k e,42))
def wF (k:Nat):bAx:=pG toks e (toks.length+1) k [] [] 0
def bHu (r:bAx)(k:Nat)(out:List fF)(st:Stk)(o:Nat):Prop:=k<=toks.length/\ ∃f,toks.length+1<=f+k/\pG toks e f k out st o=r
def bBy (r:bAx)(k:Nat)(out:List fF)(st:Stk)(o:Nat):Prop:=k<=toks.length/\ ∃f,toks.length+1<=f+k/\wY toks e (pG toks e f) o k out st=r
end
theorem lA{toks:List TokV}{k:Nat}(h:(bL toks k).kind≠4):k<toks.length:=by
 rcases Nat.lt_or_ge k toks.length with a|a
 .exact a
 .rw[bGv a]at h;exact absurd rfl h
theorem yC{toks:List TokV}{k:Nat}(h:(bL toks k).kind=2):iR toks k=(bL toks k).n::iR toks (k+1):=by have a:=lA (toks:=toks) (k:=k) (by rw[h];decide);have e:toks[k]?=some toks[k]:=F1 a;rw[vX e]at h⊢;unfold iR;rw[K2 a,List.takeWhile_cons_of_pos ad3];rfl
theorem nums_end{toks:List TokV}{k:Nat}(h:(bL toks k).kind≠2):iR toks k=[]:=by
 unfold iR
 rcases Nat.lt_or_ge k toks.length with a|a
 .have e:toks[k]?=some toks[k]:=F1 a;rw[vX e]at h;rw[K2 a,List.takeWhile_cons_of_neg ad3];rfl
 .rw[K3 a];rfl
theorem nums_le(toks:List TokV)(k:Nat):(iR toks k).length<=toks.length-k:=by
 unfold iR;rw[List.length_map];have:=(List.takeWhile_sublist (λt:TokV=>t.kind==2) (l:=toks.drop k)).length_le
 simpa using this
theorem fA(toks:List TokV)(k:Nat)(e:Int)(b:Bool):k+1<=(bM toks k e b).next/\(bM toks k e b).next<=k+2:=by
 unfold bM;split
 .split
  .exact⟨m9,m9⟩
  .exact⟨m9,m9⟩
 .exact⟨m9,m9⟩
theorem bEj{toks:List TokV}{k:Nat}{e:Int}{b:Bool}(h:k<toks.length):(bM toks k e b).next<=toks.length:=by
 unfold bM;split
 .rename_i a;have:=lA (toks:=toks) (k:=k+1) (by rw[a.1];decide);split<;>(simp only;omega)
 .simp only;omega
theorem bracket_verb:nQ [40]=false:=m6
theorem name_verb{s:Bs}(h:dQ s=true):nQ s=false:=by unfold dQ at h;simp only[J3,Bool.not_eq_true']at h;exact h.1
section
variable {toks : List TokV} {e : Int} {r : bAx} {k o : Nat} {out : List fF} {st : Stk}
theorem e_start(h:k<=toks.length):bHu toks e (wF toks e k) k [] [] 0:=⟨h,toks.length+1,l7,rfl⟩
theorem e_verb(h:bHu toks e r k out st o)(h2:(bL toks k).kind≠2)(h4:(bL toks k).kind≠4)(hv:nQ (bL toks k).word=true):
  (oG (bM toks k e false).Y=true->bHu toks e r (bM toks k e false).next out (some (bM toks k e false).it::st) o)/\(oG (bM toks k e false).Y=false->r=([],(bM toks k e false).Y)):=by
 obtain⟨b,f,hf,h⟩:=h;have a:=lA h4
 obtain⟨f,rfl⟩: ∃g,f=g+1:=⟨f-1,l7⟩
 rw[pG,if_pos ⟨h2,h4,hv⟩]at h;have:=fA toks k e false;refine⟨λhi=>?_,λhi=>?_⟩
 .rw[if_pos hi]at h;exact⟨bEj a,f,l7,h⟩
 .rw[if_neg ak1]at h;exact h.symm
theorem e_open(h:bHu toks e r k out st o)(h3:(bL toks k).kind=3)(hw:(bL toks k).word=[40]):
  (o≠32->bHu toks e r (k+1) out (none::st) (o+1))/\(o=32->r=([],(atP toks k e,44))):=by
 obtain⟨b,f,hf,h⟩:=h;have a:=lA (toks:=toks) (k:=k) (by rw[h3];decide)
 obtain⟨f,rfl⟩: ∃g,f=g+1:=⟨f-1,l7⟩
 rw[pG,if_neg (by rw[hw,bracket_verb];simp),if_pos ⟨h3,hw⟩]at h;refine⟨λhi=>?_,λhi=>?_⟩
 .rw[if_neg hi]at h;exact⟨a,f,l7,h⟩
 .rw[if_pos hi]at h;exact h.symm
theorem e_num(h:bHu toks e r k out st o)(h2:(bL toks k).kind=2):bBy toks e r (k+(iR toks k).length) (out++[bEw toks k]) st o:=by
 obtain⟨c,f,hf,h⟩:=h;have a:=lA (toks:=toks) (k:=k) (by rw[h2];decide)
 obtain⟨f,rfl⟩: ∃g,f=g+1:=⟨f-1,l7⟩
 rw[pG,if_neg (by rw[h2];simp),if_neg (by rw[h2];simp),if_pos h2]at h;have h1:=nums_le toks k;have b:=yC h2;have h4:1<=(iR toks k).length:=by rw[b];simp
 exact⟨l7,f,l7,h⟩
theorem e_name(h:bHu toks e r k out st o)(h1:(bL toks k).kind=1)(hn:dQ (bL toks k).word=true):bBy toks e r (k+1) (out++[vO toks k]) st o:=by
 obtain⟨b,f,hf,h⟩:=h;have a:=lA (toks:=toks) (k:=k) (by rw[h1];decide)
 obtain⟨f,rfl⟩: ∃g,f=g+1:=⟨f-1,l7⟩
 rw[pG,if_neg (by rw[name_verb hn];simp),if_neg am3,if_neg am3,if_pos ⟨h1,hn⟩]at h;exact⟨l7,f,l7,h⟩
theorem e_word(h:bHu toks e r k out st o)(h1:(bL toks k).kind=1)(hv:nQ (bL toks k).word=false)(hn:dQ (bL toks k).word=false):r=([],(atP toks k e,41)):=by
 obtain⟨b,f,hf,h⟩:=h;have a:=lA (toks:=toks) (k:=k) (by rw[h1];decide)
 obtain⟨f,rfl⟩: ∃g,f=g+1:=⟨f-1,l7⟩
 rw[pG,if_neg (by rw[hv];simp),if_neg am3,if_neg am3,if_neg (by rw[hn];simp),if_pos h1]at h;exact h.symm
theorem e_want(h:bHu toks e r k out st o)(h1:(bL toks k).kind≠1)(h2:(bL toks k).kind≠2)(hv:(bL toks k).kind=4\/nQ (bL toks k).word=false)(hw:(bL toks k).kind≠3\/(bL toks k).word≠[40]):r=([],(atP toks k e,42)):=by
 obtain⟨a,f,hf,h⟩:=h
 obtain⟨f,rfl⟩: ∃g,f=g+1:=⟨f-1,l7⟩
 rw[pG,if_neg (by rcases hv with hv|hv<;>simp[hv]),if_neg (by rcases hw with hw|hw<;>simp[hw]),if_neg h2,if_neg (by simp[h1]),if_neg h1]at h;exact h.symm
theorem b_close(h:bBy toks e r k out st o)(ho:0<o)(h3:(bL toks k).kind=3)(hw:(bL toks k).word=[41]):bBy toks e r (k+1) (out++(qO st).1) (qO st).2.tail (o-1):=by
 obtain⟨b,f,hf,h⟩:=h;have a:=lA (toks:=toks) (k:=k) (by rw[h3];decide)
 obtain⟨o,rfl⟩: ∃g,o=g+1:=⟨o-1,l7⟩
 rw[wY,if_pos ⟨h3,hw⟩]at h;exact⟨a,f,l7,h⟩
theorem b_rest(h:bBy toks e r k out st o)(hn:o=0\/(bL toks k).kind≠3\/(bL toks k).word≠[41]):k<=toks.length/\ ∃f,toks.length+1<=f+k/\bHz toks e (pG toks e f) o k out st=r:=by
 obtain⟨c,f,hf,h⟩:=h;refine⟨c,f,hf,?_⟩
 cases o with
 |zero=>exact h
 |succ o=>
  rw[wY,if_neg (by
   rintro⟨a,b⟩
   rcases hn with hn|hn|hn
   .omega
   .exact hn a
   .exact hn b)]at h
  exact h
theorem r_open(h:bBy toks e r k out st o)(h4:(bL toks k).kind=4)(ho:0<o):r=([],(atP toks k e,42)):=by obtain⟨_,f,_,h⟩:=b_rest h (.inr (.inl (by rw[h4];decide)));rw[bHz,if_pos h4,if_pos ho]at h;exact h.symm
theorem r_end(h:bBy toks e r k out st o)(h4:(bL toks k).kind=4)(ho: ¬0<o):r=(out++(qO st).1,(0,0)):=by obtain⟨_,f,_,h⟩:=b_rest h (.inr (.inl (by rw[h4];decide)));rw[bHz,if_pos h4,if_neg ho]at h;exact h.symm
theorem xY(h:bBy toks e r k out st o)(hn:o=0\/(bL toks k).kind≠3\/(bL toks k).word≠[41])(h4:(bL toks k).kind≠4)(hm:(bL toks k).kind=2\/nQ (bL toks k).word=false):r=([],(atP toks k e,46)):=by obtain⟨_,f,_,h⟩:=b_rest h hn;rw[bHz,if_neg h4,if_pos hm]at h;exact h.symm
theorem uF(h:bBy toks e r k out st o)(hn:o=0\/(bL toks k).kind≠3\/(bL toks k).word≠[41])(h4:(bL toks k).kind≠4)(h2:(bL toks k).kind≠2)(hv:nQ (bL toks k).word=true):
  (oG (bM toks k e true).Y=true->bHu toks e r (bM toks k e true).next out (some (bM toks k e true).it::st) o)/\(oG (bM toks k e true).Y=false->r=([],(bM toks k e true).Y)):=by
 obtain⟨_,f,hf,h⟩:=b_rest h hn;have a:=lA h4;rw[bHz,if_neg h4,if_neg (by rw[hv];simp[h2])]at h;have:=fA toks k e true;refine⟨λhi=>?_,λhi=>?_⟩
 .rw[if_pos hi]at h;exact⟨bEj a,f,l7,h⟩
 .rw[if_neg ak1]at h;exact h.symm
end
end
section
open Go.RowKit Go.Proofs.Tryz
def bOy (it:ItemV):Fact:=bOt.sl (.slice it.nums.I it.nums.A.length it.nums.cap) it.nums.A
def nP (l:List ItemV):Fact:=Fact.each l bOy
def tnF (st:List oS):Fact:=Fact.each st λo=>match o with
 |none=>Fact.true
 |some x=>bOy x.2
section
variable {F : List Fact} {b : Nat} {it : ItemV} {o : oS} {l : List ItemV} {st : List oS}
theorem tn_none(h:Has F (tnF st)):Has F (tnF (none::st)):=Has.each_cons Has.true h
theorem bAc(h:Has F (tnF st))(hx:Has F (bOy it)):Has F (tnF (some (b,it)::st)):=Has.each_cons hx h
theorem bPl(h:Has F (tnF (o::st))):Has F (tnF st):=Has.each_tail h
theorem bUj(h:Has F (nP l))(hx:Has F (bOy it)):Has F (nP (l++[it])):=Has.each_snoc h hx
theorem yT(hn:Has F (nP l))(h:Has F (tnF st)):Has F (nP (l++(finP st).1)):=by
 induction st generalizing l with
 |nil=>rw[finP,F9];exact hn
 |cons o st ih=>
  cases o with
  |none=>rw[finP,F9];exact hn
  |some x=>
   have:=ih (bUj hn (λS w k=>h S w k (some x) (E8 ..))) (bPl h);rw[List.append_assoc]at this;exact this
theorem bLu(h:Has F (tnF st)):Has F (tnF (finP st).2):=by
 induction st with
 |nil=>exact h
 |cons o st ih=>
  cases o with
  |none=>exact h
  |some x=>exact ih (bPl h)
end
section
variable {toks : List TokV} {e : Int} {r : bAx} {k o : Nat} {out : List ItemV} {st s2 : List oS}
theorem b_num{s:Stk}(h:bHu toks e r k (out.map ItemV.it) s o)(h2:(bL toks k).kind=2){j:Nat}{cur:List Int}{C:Option Addr}{c:Nat}(hj:j=k+cur.length)(hc:iR toks k=cur):
  bBy toks e r j ((out++[(⟨1,(bL toks k).at_,0,[],⟨C,c,cur⟩⟩:ItemV)]).map ItemV.it) s o:=by have:=e_num h h2;subst hc;subst hj;rw[L2];exact this
theorem b_name{s:Stk}(h:bHu toks e r k (out.map ItemV.it) s o)(h1:(bL toks k).kind=1)(hn:dQ (bL toks k).word=true):
  bBy toks e r (k+1) ((out++[(⟨2,(bL toks k).at_,0,(bL toks k).word,⟨none,0,[]⟩⟩:ItemV)]).map ItemV.it) s o:=by rw[L2];exact e_name h h1 hn
theorem b_closed(h:bBy toks e r k (out.map ItemV.it) (bFk st) o)(ho:0<o)(h3:(bL toks k).kind=3)(hw:(bL toks k).word=[41])(hs:(finP st).2=none::s2):
  bBy toks e r (k+1) ((out++(finP st).1).map ItemV.it) (bFk s2) (o-1):=by have h1:=b_close h ho h3 hw;rw[<-(bEo st).2,hs]at h1;rw[L2,(bEo st).1];exact h1
theorem bPt(h:bBy toks e r k (out.map ItemV.it) (bFk st) o)(h4:(bL toks k).kind=4)(ho: ¬0<o):r=((out++(finP st).1).map ItemV.it,(0,0)):=by rw[L2,(bEo st).1];exact r_end h h4 ho
end
theorem yS(z0:Int)(z1:Int)(s3:ByteArray):prog.built 62 [(0,k6 z0),(1,k6 z1),(3,.string s3)]=some #[k6 z0,k6 z1,k7 0,.string s3,.slice none 0 0]:=m0
set_option maxHeartbeats 1000000 in
theorem bYk(bl:Nat)(A:Option Addr)(c:Nat)(toks:List TokV)(k0:Nat)(e:Int)(hk:k0<=toks.length)(hl:toks.length<=1000)(hw: ∀k,(bL toks k).word.length<=65536):cY prog 87 [.pointer (some ⟨bl,0,none⟩)] [.obj bl (.cells [.slice A toks.length c,k6 (k0:Nat),k6 e].toArray 108)] [nR.sl (.slice A toks.length c) toks,kG] (λ(x:Option Addr×Nat×List ItemV×Nat)=> .tuple #[.slice x.1 x.2.2.1.length x.2.1,.agg #[k6 (wF toks e k0).2.1,k6 (wF toks e k0).2.2]]) (λ(x:Option Addr×Nat×List ItemV×Nat)=>[.obj bl (.cells [.slice A toks.length c,k6 (x.2.2.2:Nat),k6 e].toArray 108)]) (λ(x:Option Addr×Nat×List ItemV×Nat)=>[mU.sl (.slice x.1 x.2.2.1.length x.2.1) x.2.2.1,nP x.2.2.1,Fact.pure (x.2.2.1.map ItemV.it=(wF toks e k0).1)]):=by
 have hT:=gJ;have K:=e_start (e:=e) hk;generalize wF toks e k0=r at K⊢;refine j5 func87 ntmps87 ?_;intro β hM;refine g2 ?_;refine j4 λJ=>?_;refine one ?_;refine j1 bGy λb2=>?_;refine g4 ?_;refine j1 itemZ λb4=>?_;refine g4 ?_;refine j1 funcZ λv=>?_;refine g20 ?_;refine bQ (t:=62) mU<|bQ (t:=1) (fnE b4)<|bB (nP []) (Has.each_nil)<|bB (tnF []) (Has.each_nil)<|bB (pB []) (todo_nil) ?_;refine cF (ι:=Nat×Nat×List ItemV×List oS×Option Addr×Nat×Option Addr×Nat) [(1,_),(3,_),(4,_),(5,_),(7,_),(8,_)] ⟨rfl,rfl,rfl,rfl,rfl,rfl,i6⟩ (λ⟨k,o,out,st,C,e1,D,f⟩=>[(6,.int .i64 (o:Nat))]) (λ⟨k,o,out,st,C,e1,D,f⟩=>[.obj bl (.cells [.slice A toks.length c,.int .i64 (k:Nat),.int .i64 e].toArray 108),.obj b4 (.cells [.slice C out.length e1].toArray 56),mU.row (.slice C out.length e1) 62 out,.obj v (.cells [.slice D st.reverse.length f].toArray 172),(fnE b4).row (.slice D st.reverse.length f) 1 st.reverse]) (λ⟨k,o,out,st,C,e1,D,f⟩=>[Fact.pure (bHu toks e r k (out.map ItemV.it) (bFk st) o/\opens st=o/\o<=32/\out.length+st.length<=k/\k<=toks.length),pB st,tnF st,nP out]) (λ⟨k,o,out,st,C,e1,D,f⟩=>toks.length-k) (k0,0,[],[],none,0,none,0) ⟨rfl,i6⟩ (.c6 (.c3 (.c1 (.c1 (.c0 .nil))))) ⟨i7 (⟨K,rfl,l7,m9,hk⟩),d7,d8,d9,i6⟩ ?_;rintro⟨k,o,out,st,C,e1,D,f⟩;dsimp only;refine bF d7 λd=>?_;refine g4 ?_;refine bD func83 (kF bl A c toks (k) e) rfl rfl (.c0 .nil) ⟨f3,i6⟩ λ_=>?_;refine j1 bDb λQ=>?_;refine g11 ?_;refine yQ (λhg23=>?_) λhg23=>?_
 .refine g5 ?_;refine yQ (λhg28=>?_) λhg28=>?_
  .refine g2 ?_;refine bD func119 (rO _) rfl rfl .nil i6 λ_=>?_;refine g4 ?_;refine fX (λhc19=>?_) λhc19=>?_
   .refine g4 ?_;refine jA (bY func121 rfl rfl) (laterF_spec bl A c toks (k) e J v b4 _ _ st l7 l7) rfl rfl rfl rfl rfl rfl rfl (.c1 (.c6 (.c3 (.c3 .nil)))) ⟨f3,d8,i6⟩ λ⟨⟨A4,c5⟩,b6⟩=>?_;refine bB (tnF (some (b6,(uX (bM toks (k) e false)))::st)) (bAc e6 dW) ?_;refine j1 bGy λb7=>?_;refine g6 ?_;refine ss (j3 (bDk)) ?_;refine ss (fY ⟨(bM toks (k) e false).Y.1,(bM toks (k) e false).Y.2⟩ ⟨0,0⟩ rfl rfl rfl) ?_;refine g2 ?_;refine iQ (λB=>?_) λB=>?_
    .refine bP<|cL _ _ [j9,u0,A05] cN o0 (.c0 (.c0 (.c0 (.c0 (.c0 (.c0 (.c0 (.c0 .nil)))))))) bA.self ?_;refine g14 ?_;obtain rfl:=(e_verb d.1 ‹_› ‹_› ‹_›).2 B;exact rs2 (none,0,[],_) ⟨dW,Has.each_nil,i7 rfl,i6⟩
    have he:=(e_verb d.1 ‹_› ‹_› ‹_›).1 B;refine g7 ?_;exact dA ((bM toks (k) e false).next,o,out,(some (b6,(uX (bM toks (k) e false)))::st),_,_,_,_) v7 ⟨rfl,i6⟩ ⟨rfl,rfl,rfl,rfl,rfl,rfl,i6⟩ (.c1 (.c5 (.c5 (.c2 (.c2 (.c3 (.c1 .nil))))))) ⟨i7 (⟨he,d.2.1,d.2.2.1,by have:=fA toks k e false;first|omega|(simp;omega),he.1⟩),d8,d7,e8,i6⟩ (bA.drop 6)
   refine g6 ?_;refine sD (λhg43=>?_) λhg43=>?_
   .refine g7 ?_;refine fX (λu=>?_) λu=>?_
    .have u:(bL toks (k)).word=([40]:Bs):=eq_of_beq u;refine g7 ?_;refine gN (λM=>?_) λM=>?_
     .refine g3 ?_;refine bD func84 (cQ bl A c toks (k) e _) rfl rfl (.c1 .nil) ⟨f3,i6⟩ λ_=>?_;refine g11 ?_;have hr:=(e_open d.1 ‹_› ‹_›).2 l7;subst hr;exact rs2 (none,0,[],_) ⟨dW,Has.each_nil,i7 rfl,i6⟩
     have he:=(e_open d.1 ‹_› ‹_›).1 l7;refine g6 ?_;refine inc (o+1) ?_;refine g10 ?_;refine inc (k+1) ?_;refine g8 ?_;refine bLl (b4:=b4) (m:=(none:oS)) rfl rfl rfl rfl rfl λb8=>?_;refine bMi kT6 (bU .head rfl) rfl rfl rfl rfl rfl rfl rfl ag4 λA9 X=>?_;rw[<-L1];refine bB (pB (none::st)) (todo_none d8)<|bB (tnF (none::st)) (tn_none e6) ?_;refine g8 ?_;exact dA ((k+1),(o+1),out,(none::st),_,_,_,_) v7 ⟨rfl,i6⟩ ⟨rfl,rfl,rfl,rfl,rfl,rfl,i6⟩ (.c3 (.c4 (.c4 (.c0 (.c0 (.c2 (.c2 .nil))))))) ⟨i7 (⟨he,by show opens st+1=_;rw[d.2.1],by dsimp only;omega,by first|omega|(simp;omega),he.1⟩),d8,d7,e8,i6⟩ (bA.drop 6)
    have u:(bL toks (k)).word≠([40]:Bs):=λh=>absurd (beq_iff_eq.2 h) (by rw[show((bL toks (k)).word==([40]:Bs))=false from u];simp);refine g5 ?_;refine bC (t':=false) (by rw[hg43];rfl) ?_;refine g9 ?_;refine bC (t':=false) (by rw[hg43];rfl) ?_;refine g14 ?_;refine bC (t':=false) (by rw[hg43];rfl) ?_;refine g7 ?_;refine bD func84 (cQ bl A c toks (k) e _) rfl rfl (.c1 .nil) ⟨f3,i6⟩ λ_=>?_;refine g10 ?_;have hr:=e_want d.1 l7 l7 n7 aa6;subst hr;exact rs2 (none,0,[],_) ⟨dW,Has.each_nil,i7 rfl,i6⟩
   refine g13 ?_;refine bC (t':=false) (beq_eq_false_iff_ne.2 hg23) ?_;refine g10 ?_;refine sD (λz=>?_) λz=>?_
   .refine g2 ?_;refine bD func86 (pP _ (by have:=hw k;omega)) rfl rfl .nil ⟨f5,i6⟩ λ_=>?_;refine g4 ?_;refine fX (λL=>?_) λL=>?_
    .refine bP ?_;have E:=b_name d.1 ‹_› ‹_›;refine g6 ?_;refine ss (j3 (yS _ _ _)) ?_;refine bCw (m:=(⟨2,(bL toks k).at_,0,(bL toks k).word,⟨none,0,[]⟩⟩:ItemV)) rfl rfl rfl rfl rfl λb11=>?_;refine bDl kT4 (bU .head rfl) rfl rfl rfl rfl rfl rfl rfl aa7 λA12 W=>?_;refine bB (nP (out++[(⟨2,(bL toks k).at_,0,(bL toks k).word,⟨none,0,[]⟩⟩:ItemV)])) (bUj e6 dW) ?_;refine g9 ?_;refine inc (k+1) ?_;refine g10 ?_;refine bD func83 (kF bl A c toks ((k+1)) e) rfl rfl (.c0 .nil) ⟨f5,i6⟩ λ_=>?_;refine g4 ?_
     obtain⟨I,O⟩: ∃I,I=k:=⟨_,rfl⟩
     refine cF (ι:=Nat×Nat×List ItemV×List oS×Option Addr×Nat×Option Addr×Nat) [(1,_),(3,_),(4,_),(5,_),(7,_),(8,_),(9,_),(24,_),(25,_),(26,_),(29,_),(30,_),(31,_),(44,_),(45,_),(46,_),(99,_),(100,_),(101,_)] ⟨rfl,rfl,rfl,rfl,rfl,rfl,rfl,rfl,rfl,rfl,rfl,rfl,rfl,rfl,rfl,rfl,rfl,rfl,rfl,i6⟩ (λ⟨k,o,out,st,C,e1,D,f⟩=>[(6,.int .i64 (o:Nat))]) (λ⟨k,o,out,st,C,e1,D,f⟩=>[.obj bl (.cells [.slice A toks.length c,.int .i64 (k:Nat),.int .i64 e].toArray 108),.obj b4 (.cells [.slice C out.length e1].toArray 56),mU.row (.slice C out.length e1) 62 out,.obj v (.cells [.slice D st.reverse.length f].toArray 172),(fnE b4).row (.slice D st.reverse.length f) 1 st.reverse,.obj Q (.cells [.int .i64 (bL toks k).kind,.int .i64 (bL toks k).at_,.string (bs (bL toks k).word),.int .i64 (bL toks k).n].toArray 110)]) (λ⟨k,o,out,st,C,e1,D,f⟩=>[Fact.pure (bBy toks e r k (out.map ItemV.it) (bFk st) o/\opens st=o/\o<=32/\out.length+st.length<=k/\k<=toks.length/\I<k),pB st,tnF st,nP out]) (λ⟨k,o,out,st,C,e1,D,f⟩=>toks.length-k) ((k+1),o,(out++[(⟨2,(bL toks k).at_,0,(bL toks k).word,⟨none,0,[]⟩⟩:ItemV)]),st,_,_,_,_) ⟨rfl,i6⟩ (.c1 (.c1 (.c1 (.c2 (.c2 (.c0 .nil)))))) ⟨i7 (⟨E,d.2.1,d.2.2.1,by first|omega|(simp;omega),E.1,l7⟩),d9,e6,d7,i6⟩ ?_;rintro⟨k,o,out,st,C,e1,D,f⟩;dsimp only;refine bF d7 λa=>?_;refine g6 ?_;refine lR (λw=>?_) λw=>?_
     .refine g5 ?_;refine sD (λhg133=>?_) λhg133=>?_
      .refine g6 ?_;refine fX (λhc137=>?_) λhc137=>?_
       .have hc137:(bL toks k).word=([41]:Bs):=eq_of_beq hc137;refine g7 ?_;refine jA (bY func120 rfl rfl) (rH v b4 _ _ st _ _ out l7) rfl rfl rfl rfl rfl rfl rfl (.c3 (.c3 (.c1 (.c1 .nil)))) ⟨d8,i6⟩ λ⟨⟨D14,f15⟩,⟨C16,e17⟩⟩=>?_;refine bB (nP (out++(finP st).1)) (yT e7 e6)<|bB (tnF (finP st).2) (bLu e7) ?_;have q:=bAg st;obtain⟨s2,y,N⟩:=fin_open (st:=st) l7;have hb2:=b_closed a.1 l7 ‹_› ‹_› y;rw[y]at q⊢;simp only[F5]at q;refine bB (pB s2) (bMy d9)<|bB (tnF s2) (bPl d8) ?_;refine g7 ?_;refine bJ (z':=(((s2.length+1):Nat):Int)) (congrArg L6 (mK _ s2)) ?_;refine one ?_;refine inc ((s2.length+1)-1) ?_;refine jH hT (k:=((s2.length+1)-1)) kT1 rfl rfl rfl rfl rfl rfl rfl rfl rfl al0 ?_;rw[bLo];refine g7 ?_;refine inc (o-1) ?_;refine g9 ?_;refine inc (k+1) ?_;refine g8 ?_;refine bD func83 (kF bl A c toks ((k+1)) e) rfl rfl (.c0 .nil) ⟨Has.of (u8 (u8 mT1)),i6⟩ λ_=>?_;refine g3 ?_;exact dA ((k+1),(o-1),(out++(finP st).1),s2,_,_,_,_) (by have:=hb2.1;dsimp only;omega) ⟨rfl,i6⟩ ⟨rfl,rfl,rfl,rfl,rfl,rfl,rfl,rfl,rfl,rfl,rfl,rfl,rfl,rfl,rfl,rfl,rfl,rfl,rfl,i6⟩ (.c1 (.c3 (.c3 (.c1 (.c1 (.c0 (.c0 (.c0 (.c0 .nil))))))))) ⟨i7 (⟨hb2,by dsimp only;omega,by dsimp only;omega,by first|omega|(simp;omega),hb2.1,by dsimp only;omega⟩),d8,d7,e6,i6⟩ (bA.drop 9)
       have hc137:(bL toks k).word≠([41]:Bs):=λh=>absurd (beq_iff_eq.2 h) aj2;refine g12 ?_;refine bC (t':=false) ak6 ?_;refine g13 ?_;refine bC (t':=false) ak6 ?_;refine g9 ?_;refine bC (t':=false) ak6 ?_;refine g3 ?_;refine bD func119 (rO _) rfl rfl .nil i6 λ_=>?_;refine g5 ?_;refine iQ (λg=>?_) λg=>?_
       .refine g3 ?_;refine bD func84 (cQ bl A c toks (k) e _) rfl rfl (.c0 .nil) ⟨f9,i6⟩ λ_=>?_;refine g10 ?_;have hr:=xY a.1 o7 l7 aa6;subst hr;exact rs2 (none,0,[],_) ⟨dW,Has.each_nil,i7 rfl,i6⟩
       refine g6 ?_;refine jA (bY func121 rfl rfl) (rP bl A c toks (k) e J v b4 _ _ st l7 l7) rfl rfl rfl rfl rfl rfl rfl (.c0 (.c7 (.c2 (.c2 .nil)))) ⟨f9,d8,i6⟩ λ⟨⟨A18,c19⟩,b20⟩=>?_;refine bB (tnF (some (b20,(uX (bM toks (k) e true)))::st)) (bAc e6 dW) ?_;refine j1 bGy λb21=>?_;refine g6 ?_;refine ss (j3 (bDk)) ?_;refine ss (fY ⟨(bM toks (k) e true).Y.1,(bM toks (k) e true).Y.2⟩ ⟨0,0⟩ rfl rfl rfl) ?_;refine g2 ?_;refine iQ (λb=>?_) λb=>?_
       .refine bP<|cL _ _ [j9,u0,A05] cN o0 (.c0 (.c0 (.c0 (.c0 (.c0 (.c0 (.c0 (.c0 (.c0 .nil))))))))) bA.self ?_;refine g11 ?_;have hr:=(uF a.1 o7 l7 l7 ‹_›).2 b;subst hr;exact rs2 (none,0,[],_) ⟨dW,Has.each_nil,i7 rfl,i6⟩
       have he:=(uF a.1 o7 l7 l7 ‹_›).1 b;refine g3 ?_;exact dA ((bM toks (k) e true).next,o,out,(some (b20,(uX (bM toks (k) e true)))::st),_,_,_,_) v7 ⟨rfl,i6⟩ ⟨rfl,rfl,rfl,rfl,rfl,rfl,i6⟩ (.c1 (.c4 (.c4 (.c2 (.c2 (.c4 (.c1 .nil))))))) ⟨i7 (⟨he,a.2.1,a.2.2.1,by have:=fA toks k e true;first|omega|(simp;omega),he.1⟩),d8,d7,e8,i6⟩ (bA.drop 11)
      refine g20 ?_;refine sD (λhg160=>?_) λhg160=>?_
      .refine g6 ?_;refine dP (λl=>?_) λl=>?_
       .refine g3 ?_;refine bD func84 (cQ bl A c toks (k) e _) rfl rfl (.c0 .nil) ⟨f9,i6⟩ λ_=>?_;refine g10 ?_;have hr:=r_open a.1 ‹_› l7;subst hr;exact rs2 (none,0,[],_) ⟨dW,Has.each_nil,i7 rfl,i6⟩
       refine g5 ?_;refine bC (t':=true) am7 ?_;refine g7 ?_;refine jA (bY func120 rfl rfl) (rH v b4 _ _ st _ _ out l7) rfl rfl rfl rfl rfl rfl rfl (.c3 (.c3 (.c1 (.c1 .nil)))) ⟨d8,i6⟩ λ⟨⟨D22,f23⟩,⟨C24,e25⟩⟩=>?_;refine bB (nP (out++(finP st).1)) (yT e7 e6)<|bB (tnF (finP st).2) (bLu e7) ?_;have q:=bAg st;refine g5 ?_;refine ss (j3 (bDk)) ?_;refine g10 ?_;have hr:=bPt a.1 ‹_› l7;subst hr;refine bR kT4 ?_;exact rs2 (_,_,(out++(finP st).1),_) ⟨d7,d9,i7 rfl,i6⟩
      refine g12 ?_;refine bC (t':=false) (beq_eq_false_iff_ne.2 hg160) ?_;refine g10 ?_;refine sD (λi=>?_) λi=>?_
      .refine g12 ?_;refine bD func84 (cQ bl A c toks (k) e _) rfl rfl (.c0 .nil) ⟨f9,i6⟩ λ_=>?_;refine g10 ?_;have hr:=xY a.1 o7 l7 aa6;subst hr;exact rs2 (none,0,[],_) ⟨dW,Has.each_nil,i7 rfl,i6⟩
      refine g2 ?_;refine bD func119 (rO _) rfl rfl .nil i6 λ_=>?_;refine g5 ?_;refine iQ (λg=>?_) λg=>?_
      .refine g3 ?_;refine bD func84 (cQ bl A c toks (k) e _) rfl rfl (.c0 .nil) ⟨f9,i6⟩ λ_=>?_;refine g10 ?_;have hr:=xY a.1 o7 l7 aa6;subst hr;exact rs2 (none,0,[],_) ⟨dW,Has.each_nil,i7 rfl,i6⟩
      refine g6 ?_;refine jA (bY func121 rfl rfl) (rP bl A c toks (k) e J v b4 _ _ st l7 l7) rfl rfl rfl rfl rfl rfl rfl (.c0 (.c7 (.c2 (.c2 .nil)))) ⟨f9,d8,i6⟩ λ⟨⟨A26,c27⟩,b28⟩=>?_;refine bB (tnF (some (b28,(uX (bM toks (k) e true)))::st)) (bAc e6 dW) ?_;refine j1 bGy λb29=>?_;refine g6 ?_;refine ss (j3 (bDk)) ?_;refine ss (fY ⟨(bM toks (k) e true).Y.1,(bM toks (k) e true).Y.2⟩ ⟨0,0⟩ rfl rfl rfl) ?_;refine g2 ?_;refine iQ (λb=>?_) λb=>?_
      .refine bP<|cL _ _ [j9,u0,A05] cN o0 (.c0 (.c0 (.c0 (.c0 (.c0 (.c0 (.c0 (.c0 (.c0 .nil))))))))) bA.self ?_;refine g11 ?_;have hr:=(uF a.1 o7 l7 l7 ‹_›).2 b;subst hr;exact rs2 (none,0,[],_) ⟨dW,Has.each_nil,i7 rfl,i6⟩
      have he:=(uF a.1 o7 l7 l7 ‹_›).1 b;refine g3 ?_;exact dA ((bM toks (k) e true).next,o,out,(some (b28,(uX (bM toks (k) e true)))::st),_,_,_,_) v7 ⟨rfl,i6⟩ ⟨rfl,rfl,rfl,rfl,rfl,rfl,i6⟩ (.c1 (.c4 (.c4 (.c2 (.c2 (.c4 (.c1 .nil))))))) ⟨i7 (⟨he,a.2.1,a.2.2.1,by have:=fA toks k e true;first|omega|(simp;omega),he.1⟩),d8,d7,e8,i6⟩ (bA.drop 11)
     refine g25 ?_;refine sD (λhg160=>?_) λhg160=>?_
     .refine g6 ?_;refine dP (λl=>?_) λl=>?_
      .refine g3 ?_;refine bD func84 (cQ bl A c toks (k) e _) rfl rfl (.c0 .nil) ⟨f9,i6⟩ λ_=>?_;refine g10 ?_;have hr:=r_open a.1 ‹_› l7;subst hr;exact rs2 (none,0,[],_) ⟨dW,Has.each_nil,i7 rfl,i6⟩
      refine g5 ?_;refine bC (t':=true) am7 ?_;refine g7 ?_;refine jA (bY func120 rfl rfl) (rH v b4 _ _ st _ _ out l7) rfl rfl rfl rfl rfl rfl rfl (.c3 (.c3 (.c1 (.c1 .nil)))) ⟨d8,i6⟩ λ⟨⟨D30,f31⟩,⟨C32,e33⟩⟩=>?_;refine bB (nP (out++(finP st).1)) (yT e7 e6)<|bB (tnF (finP st).2) (bLu e7) ?_;have q:=bAg st;refine g5 ?_;refine ss (j3 (bDk)) ?_;refine g10 ?_;have hr:=bPt a.1 ‹_› l7;subst hr;refine bR kT4 ?_;exact rs2 (_,_,(out++(finP st).1),_) ⟨d7,d9,i7 rfl,i6⟩
     refine g12 ?_;refine bC (t':=false) (beq_eq_false_iff_ne.2 hg160) ?_;refine g10 ?_;refine sD (λi=>?_) λi=>?_
     .refine g12 ?_;refine bD func84 (cQ bl A c toks (k) e _) rfl rfl (.c0 .nil) ⟨f9,i6⟩ λ_=>?_;refine g10 ?_;have hr:=xY a.1 o7 l7 aa6;subst hr;exact rs2 (none,0,[],_) ⟨dW,Has.each_nil,i7 rfl,i6⟩
     refine g2 ?_;refine bD func119 (rO _) rfl rfl .nil i6 λ_=>?_;refine g5 ?_;refine iQ (λg=>?_) λg=>?_
     .refine g3 ?_;refine bD func84 (cQ bl A c toks (k) e _) rfl rfl (.c0 .nil) ⟨f9,i6⟩ λ_=>?_;refine g10 ?_;have hr:=xY a.1 o7 l7 aa6;subst hr;exact rs2 (none,0,[],_) ⟨dW,Has.each_nil,i7 rfl,i6⟩
     refine g6 ?_;refine jA (bY func121 rfl rfl) (rP bl A c toks (k) e J v b4 _ _ st l7 l7) rfl rfl rfl rfl rfl rfl rfl (.c0 (.c7 (.c2 (.c2 .nil)))) ⟨f9,d8,i6⟩ λ⟨⟨A34,c35⟩,b36⟩=>?_;refine bB (tnF (some (b36,(uX (bM toks (k) e true)))::st)) (bAc e6 dW) ?_;refine j1 bGy λb37=>?_;refine g6 ?_;refine ss (j3 (bDk)) ?_;refine ss (fY ⟨(bM toks (k) e true).Y.1,(bM toks (k) e true).Y.2⟩ ⟨0,0⟩ rfl rfl rfl) ?_;refine g2 ?_;refine iQ (λb=>?_) λb=>?_
     .refine bP<|cL _ _ [j9,u0,A05] cN o0 (.c0 (.c0 (.c0 (.c0 (.c0 (.c0 (.c0 (.c0 (.c0 .nil))))))))) bA.self ?_;refine g11 ?_;have hr:=(uF a.1 o7 l7 l7 ‹_›).2 b;subst hr;exact rs2 (none,0,[],_) ⟨dW,Has.each_nil,i7 rfl,i6⟩
     have he:=(uF a.1 o7 l7 l7 ‹_›).1 b;refine g3 ?_;exact dA ((bM toks (k) e true).next,o,out,(some (b36,(uX (bM toks (k) e true)))::st),_,_,_,_) v7 ⟨rfl,i6⟩ ⟨rfl,rfl,rfl,rfl,rfl,rfl,i6⟩ (.c1 (.c4 (.c4 (.c2 (.c2 (.c4 (.c1 .nil))))))) ⟨i7 (⟨he,a.2.1,a.2.2.1,by have:=fA toks k e true;first|omega|(simp;omega),he.1⟩),d8,d7,e8,i6⟩ (bA.drop 11)
    refine g5 ?_;refine bC (t':=true) (by rw[z];rfl) ?_;refine g7 ?_;refine bD func84 (cQ bl A c toks (k) e _) rfl rfl (.c1 .nil) ⟨f3,i6⟩ λ_=>?_;refine g10 ?_;obtain rfl:=e_word d.1 ‹_› ‹_› ‹_›;exact rs2 (none,0,[],_) ⟨dW,Has.each_nil,i7 rfl,i6⟩
   refine g13 ?_;refine bC (t':=false) (beq_eq_false_iff_ne.2 z) ?_;refine g7 ?_;refine bD func84 (cQ bl A c toks (k) e _) rfl rfl (.c1 .nil) ⟨f3,i6⟩ λ_=>?_;refine g10 ?_;have hr:=e_want d.1 l7 l7 n7 aa6;subst hr;exact rs2 (none,0,[],_) ⟨dW,Has.each_nil,i7 rfl,i6⟩
  refine g13 ?_;refine bC (t':=false) (by rw[hg28];rfl) ?_;refine g14 ?_;refine bC (t':=false) (by rw[hg28];rfl) ?_;refine g9 ?_;refine bC (t':=false) (by rw[hg28];rfl) ?_;refine g14 ?_;refine bC (t':=false) (by rw[hg28];rfl) ?_;refine g7 ?_;refine bD func84 (cQ bl A c toks (k) e _) rfl rfl (.c1 .nil) ⟨f3,i6⟩ λ_=>?_;refine g10 ?_;have hr:=e_want d.1 l7 l7 n7 aa6;subst hr;exact rs2 (none,0,[],_) ⟨dW,Has.each_nil,i7 rfl,i6⟩
 refine g18 ?_;refine bC (t':=false) (by rw[hg23];rfl) ?_;refine g14 ?_;refine bC (t':=true) (by rw[hg23];rfl) ?_;refine g8 ?_;refine ss (j3 (tW _ _)) ?_;refine j1 pJ λP=>?_;refine g5 ?_;refine bQ (t:=2) bOt ?_;refine cF (ι:=Nat×List Int×Option Addr×Nat) [(1,_),(3,_),(4,_),(5,_),(6,_),(7,_),(8,_),(9,_),(11,_),(24,_),(25,_),(26,_),(29,_),(30,_),(31,_),(44,_),(45,_),(46,_)] ⟨rfl,rfl,rfl,rfl,rfl,rfl,rfl,rfl,rfl,rfl,rfl,rfl,rfl,rfl,rfl,rfl,rfl,rfl,i6⟩ (λ_=>[]) (λ⟨j,cur,C2,e2⟩=>[.obj bl (.cells [.slice A toks.length c,.int .i64 (j:Nat),.int .i64 e].toArray 108),.obj P (.cells [.int .i64 1,.int .i64 (bL toks k).at_,.int .u8 0,.string (bs []),.slice C2 cur.length e2].toArray 62),bOt.row (.slice C2 cur.length e2) 2 cur]) (λ⟨j,cur,C2,e2⟩=>[Fact.pure (iR toks k=cur++iR toks j/\j=k+cur.length/\j<=toks.length)]) (λ⟨j,cur,C2,e2⟩=>toks.length-j) (k,[],none,0) i6 (.c3 (.c1 (.c0 .nil))) ⟨i7 (⟨rfl,rfl,d.2.2.2.2⟩),i6⟩ ?_;rintro⟨j,cur,C2,e2⟩;dsimp only;refine bF d7 λp=>?_;refine g4 ?_;refine bD func83 (kF bl A c toks (j) e) rfl rfl (.c0 .nil) ⟨f5,i6⟩ λ_=>?_;refine g4 ?_;refine gN (λs=>?_) λs=>?_
 .refine g4 ?_;refine wJ 8 _ _ [j9,u0,u5,A06,A00,(false,5),A17,A01] cN o0 (.c0 (.c0 (.c1 (.c1 (.c1 (.c1 (.c1 (.c1 (.c1 .nil))))))))) bA.self ?_;refine g4 ?_;refine bD func83 (kF bl A c toks (j) e) rfl rfl (.c0 .nil) ⟨f5,i6⟩ λ_=>?_;refine g3 ?_;refine at_one_int (m:=(bL toks (j)).n) rfl rfl rfl rfl rfl λb39=>?_;refine g2 ?_;refine at_app_int kT3 (bU .head rfl) rfl rfl rfl rfl rfl rfl rfl aa7 λA40 V=>?_;refine g13 ?_;refine inc (j+1) ?_;refine g5 ?_;exact dA (j+1,_,_,_) (by have:=lA (toks:=toks) (k:=j) (by rw[s];decide);dsimp only;omega) i6 ⟨rfl,rfl,rfl,rfl,rfl,rfl,rfl,rfl,rfl,rfl,rfl,rfl,rfl,rfl,rfl,rfl,rfl,rfl,i6⟩ (.c0 (.c0 (.c0 (.c1 (.c1 (.c1 (.c1 (.c1 (.c1 (.c1 .nil)))))))))) ⟨i7 (⟨by rw[p.1,yC s];simp,by simp;omega,lA (by rw[s];decide)⟩),i6⟩ (bA.drop 1)
 refine g5 ?_;have G:iR toks k=cur:=by rw[p.1,nums_end s,F9]
 have E:=b_num (C:=C2) (c:=e2) d.1 ‹_› p.2.1 G;have R:1<=cur.length:=by rw[<-G,yC ‹_›];simp
 refine bR kT2 ?_;refine g3 ?_;refine bCw (m:=(⟨1,(bL toks k).at_,0,[],⟨C2,e2,cur⟩⟩:ItemV)) rfl rfl rfl rfl rfl λb42=>?_;refine bDl kT5 (bU .head rfl) rfl rfl rfl rfl rfl rfl rfl aa7 λA43 U=>?_;refine bB (nP (out++[(⟨1,(bL toks k).at_,0,[],⟨C2,e2,cur⟩⟩:ItemV)])) (bUj e8 d7) ?_;refine g8 ?_;refine bD func83 (kF bl A c toks (j) e) rfl rfl (.c3 .nil) ⟨f7,i6⟩ λ_=>?_;refine g4 ?_
 obtain⟨I,O⟩: ∃I,I=k:=⟨_,rfl⟩
 refine cF (ι:=Nat×Nat×List ItemV×List oS×Option Addr×Nat×Option Addr×Nat) [(1,_),(3,_),(4,_),(5,_),(7,_),(8,_),(9,_),(24,_),(25,_),(26,_),(29,_),(30,_),(31,_),(44,_),(45,_),(46,_)] ⟨rfl,rfl,rfl,rfl,rfl,rfl,rfl,rfl,rfl,rfl,rfl,rfl,rfl,rfl,rfl,rfl,i6⟩ (λ⟨k,o,out,st,C,e1,D,f⟩=>[(6,.int .i64 (o:Nat))]) (λ⟨k,o,out,st,C,e1,D,f⟩=>[.obj bl (.cells [.slice A toks.length c,.int .i64 (k:Nat),.int .i64 e].toArray 108),.obj b4 (.cells [.slice C out.length e1].toArray 56),mU.row (.slice C out.length e1) 62 out,.obj v (.cells [.slice D st.reverse.length f].toArray 172),(fnE b4).row (.slice D st.reverse.length f) 1 st.reverse,.obj Q (.cells [.int .i64 (bL toks k).kind,.int .i64 (bL toks k).at_,.string (bs (bL toks k).word),.int .i64 (bL toks k).n].toArray 110)]) (λ⟨k,o,out,st,C,e1,D,f⟩=>[Fact.pure (bBy toks e r k (out.map ItemV.it) (bFk st) o/\opens st=o/\o<=32/\out.length+st.length<=k/\k<=toks.length/\I<k),pB st,tnF st,nP out]) (λ⟨k,o,out,st,C,e1,D,f⟩=>toks.length-k) (j,o,(out++[(⟨1,(bL toks k).at_,0,[],⟨C2,e2,cur⟩⟩:ItemV)]),st,_,_,_,_) ⟨rfl,i6⟩ (.c1 (.c1 (.c1 (.c3 (.c3 (.c0 .nil)))))) ⟨i7 (⟨E,d.2.1,d.2.2.1,by first|omega|(simp;omega),E.1,l7⟩),e7,e8,d7,i6⟩ ?_;rintro⟨k,o,out,st,C,e1,D,f⟩;dsimp only;refine bF d7 λa=>?_;refine g6 ?_;refine lR (λw=>?_) λw=>?_
 .refine g5 ?_;refine sD (λhg133=>?_) λhg133=>?_
  .refine g6 ?_;refine fX (λhc137=>?_) λhc137=>?_
   .have hc137:(bL toks k).word=([41]:Bs):=eq_of_beq hc137;refine g7 ?_;refine jA (bY func120 rfl rfl) (rH v b4 _ _ st _ _ out l7) rfl rfl rfl rfl rfl rfl rfl (.c3 (.c3 (.c1 (.c1 .nil)))) ⟨d8,i6⟩ λ⟨⟨D45,f46⟩,⟨C47,e48⟩⟩=>?_;refine bB (nP (out++(finP st).1)) (yT e7 e6)<|bB (tnF (finP st).2) (bLu e7) ?_;have q:=bAg st;obtain⟨s2,y,N⟩:=fin_open (st:=st) l7;have hb2:=b_closed a.1 l7 ‹_› ‹_› y;rw[y]at q⊢;simp only[F5]at q;refine bB (pB s2) (bMy d9)<|bB (tnF s2) (bPl d8) ?_;refine g7 ?_;refine bJ (z':=(((s2.length+1):Nat):Int)) (congrArg L6 (mK _ s2)) ?_;refine one ?_;refine inc ((s2.length+1)-1) ?_;refine jH hT (k:=((s2.length+1)-1)) kT1 rfl rfl rfl rfl rfl rfl rfl rfl rfl al0 ?_;rw[bLo];refine g7 ?_;refine inc (o-1) ?_;refine g9 ?_;refine inc (k+1) ?_;refine g8 ?_;refine bD func83 (kF bl A c toks ((k+1)) e) rfl rfl (.c0 .nil) ⟨Has.of (u8 (u8 mT3)),i6⟩ λ_=>?_;refine g3 ?_;exact dA ((k+1),(o-1),(out++(finP st).1),s2,_,_,_,_) (by have:=hb2.1;dsimp only;omega) ⟨rfl,i6⟩ ⟨rfl,rfl,rfl,rfl,rfl,rfl,rfl,rfl,rfl,rfl,rfl,rfl,rfl,rfl,rfl,rfl,i6⟩ (.c1 (.c3 (.c3 (.c1 (.c1 (.c0 (.c0 (.c0 (.c0 (.c0 .nil)))))))))) ⟨i7 (⟨hb2,by dsimp only;omega,by dsimp only;omega,by first|omega|(simp;omega),hb2.1,by dsimp only;omega⟩),d8,d7,e6,i6⟩ (bA.drop 9)
   have hc137:(bL toks k).word≠([41]:Bs):=λh=>absurd (beq_iff_eq.2 h) aj2;refine g12 ?_;refine bC (t':=false) ak6 ?_;refine g13 ?_;refine bC (t':=false) ak6 ?_;refine g9 ?_;refine bC (t':=false) ak6 ?_;refine g3 ?_;refine bD func119 (rO _) rfl rfl .nil i6 λ_=>?_;refine g5 ?_;refine iQ (λg=>?_) λg=>?_
   .refine g3 ?_;refine bD func84 (cQ bl A c toks (k) e _) rfl rfl (.c0 .nil) ⟨Has.of wH,i6⟩ λ_=>?_;refine g10 ?_;have hr:=xY a.1 o7 l7 aa6;subst hr;exact rs2 (none,0,[],_) ⟨dW,Has.each_nil,i7 rfl,i6⟩
   refine g6 ?_;refine jA (bY func121 rfl rfl) (rP bl A c toks (k) e J v b4 _ _ st l7 l7) rfl rfl rfl rfl rfl rfl rfl (.c0 (.cons kT8 (.c2 (.c2 .nil)))) ⟨(Has.of wH),d8,i6⟩ λ⟨⟨A49,c50⟩,b51⟩=>?_;refine bB (tnF (some (b51,(uX (bM toks (k) e true)))::st)) (bAc e6 dW) ?_;refine j1 bGy λb52=>?_;refine g6 ?_;refine ss (j3 (bDk)) ?_;refine ss (fY ⟨(bM toks (k) e true).Y.1,(bM toks (k) e true).Y.2⟩ ⟨0,0⟩ rfl rfl rfl) ?_;refine g2 ?_;refine iQ (λb=>?_) λb=>?_
   .refine bP<|cL _ _ [j9,u0,A05] cN o0 (.c0 (.c0 (.c0 (.c0 (.c0 (.c0 (.c0 (.c0 (.c0 (.c0 .nil)))))))))) bA.self ?_;refine g11 ?_;have hr:=(uF a.1 o7 l7 l7 ‹_›).2 b;subst hr;exact rs2 (none,0,[],_) ⟨dW,Has.each_nil,i7 rfl,i6⟩
   have he:=(uF a.1 o7 l7 l7 ‹_›).1 b;refine g3 ?_;exact dA ((bM toks (k) e true).next,o,out,(some (b51,(uX (bM toks (k) e true)))::st),_,_,_,_) v7 ⟨rfl,i6⟩ ⟨rfl,rfl,rfl,rfl,rfl,rfl,i6⟩ (.c1 (.c4 (.c4 (.c2 (.c2 (.c5 (.c1 .nil))))))) ⟨i7 (⟨he,a.2.1,a.2.2.1,by have:=fA toks k e true;first|omega|(simp;omega),he.1⟩),d8,d7,e8,i6⟩ (bA.drop 13)
  refine g20 ?_;refine sD (λhg160=>?_) λhg160=>?_
  .refine g6 ?_;refine dP (λl=>?_) λl=>?_
   .refine g3 ?_;refine bD func84 (cQ bl A c toks (k) e _) rfl rfl (.c0 .nil) ⟨Has.of wH,i6⟩ λ_=>?_;refine g10 ?_;have hr:=r_open a.1 ‹_› l7;subst hr;exact rs2 (none,0,[],_) ⟨dW,Has.each_nil,i7 rfl,i6⟩
   refine g5 ?_;refine bC (t':=true) am7 ?_;refine g7 ?_;refine jA (bY func120 rfl rfl) (rH v b4 _ _ st _ _ out l7) rfl rfl rfl rfl rfl rfl rfl (.c3 (.c3 (.c1 (.c1 .nil)))) ⟨d8,i6⟩ λ⟨⟨D53,f54⟩,⟨C55,e56⟩⟩=>?_;refine bB (nP (out++(finP st).1)) (yT e7 e6)<|bB (tnF (finP st).2) (bLu e7) ?_;have q:=bAg st;refine g5 ?_;refine ss (j3 (bDk)) ?_;refine g10 ?_;have hr:=bPt a.1 ‹_› l7;subst hr;refine bR kT4 ?_;exact rs2 (_,_,(out++(finP st).1),_) ⟨d7,d9,i7 rfl,i6⟩
  refine g12 ?_;refine bC (t':=false) (beq_eq_false_iff_ne.2 hg160) ?_;refine g10 ?_;refine sD (λi=>?_) λi=>?_
  .refine g12 ?_;refine bD func84 (cQ bl A c toks (k) e _) rfl rfl (.c0 .nil) ⟨Has.of wH,i6⟩ λ_=>?_;refine g10 ?_;have hr:=xY a.1 o7 l7 aa6;subst hr;exact rs2 (none,0,[],_) ⟨dW,Has.each_nil,i7 rfl,i6⟩
  refine g2 ?_;refine bD func119 (rO _) rfl rfl .nil i6 λ_=>?_;refine g5 ?_;refine iQ (λg=>?_) λg=>?_
  .refine g3 ?_;refine bD func84 (cQ bl A c toks (k) e _) rfl rfl (.c0 .nil) ⟨Has.of wH,i6⟩ λ_=>?_;refine g10 ?_;have hr:=xY a.1 o7 l7 aa6;subst hr;exact rs2 (none,0,[],_) ⟨dW,Has.each_nil,i7 rfl,i6⟩
  refine g6 ?_;refine jA (bY func121 rfl rfl) (rP bl A c toks (k) e J v b4 _ _ st l7 l7) rfl rfl rfl rfl rfl rfl rfl (.c0 (.cons kT8 (.c2 (.c2 .nil)))) ⟨(Has.of wH),d8,i6⟩ λ⟨⟨A57,c58⟩,b59⟩=>?_;refine bB (tnF (some (b59,(uX (bM toks (k) e true)))::st)) (bAc e6 dW) ?_;refine j1 bGy λZ=>?_;refine g6 ?_;refine ss (j3 (bDk)) ?_;refine ss (fY ⟨(bM toks (k) e true).Y.1,(bM toks (k) e true).Y.2⟩ ⟨0,0⟩ rfl rfl rfl) ?_;refine g2 ?_;refine iQ (λb=>?_) λb=>?_
  .refine bP<|cL _ _ [j9,u0,A05] cN o0 (.c0 (.c0 (.c0 (.c0 (.c0 (.c0 (.c0 (.c0 (.c0 (.c0 .nil)))))))))) bA.self ?_;refine g11 ?_;have hr:=(uF a.1 o7 l7 l7 ‹_›).2 b;subst hr;exact rs2 (none,0,[],_) ⟨dW,Has.each_nil,i7 rfl,i6⟩
  have he:=(uF a.1 o7 l7 l7 ‹_›).1 b;refine g3 ?_;exact dA ((bM toks (k) e true).next,o,out,(some (b59,(uX (bM toks (k) e true)))::st),_,_,_,_) v7 ⟨rfl,i6⟩ ⟨rfl,rfl,rfl,rfl,rfl,rfl,i6⟩ (.c1 (.c4 (.c4 (.c2 (.c2 (.c5 (.c1 .nil))))))) ⟨i7 (⟨he,a.2.1,a.2.2.1,by have:=fA toks k e true;first|omega|(simp;omega),he.1⟩),d8,d7,e8,i6⟩ (bA.drop 13)
 refine g25 ?_;refine sD (λhg160=>?_) λhg160=>?_
 .refine g6 ?_;refine dP (λl=>?_) λl=>?_
  .refine g3 ?_;refine bD func84 (cQ bl A c toks (k) e _) rfl rfl (.c0 .nil) ⟨Has.of wH,i6⟩ λ_=>?_;refine g10 ?_;have hr:=r_open a.1 ‹_› l7;subst hr;exact rs2 (none,0,[],_) ⟨dW,Has.each_nil,i7 rfl,i6⟩
  refine g5 ?_;refine bC (t':=true) am7 ?_;refine g7 ?_;refine jA (bY func120 rfl rfl) (rH v b4 _ _ st _ _ out l7) rfl rfl rfl rfl rfl rfl rfl (.c3 (.c3 (.c1 (.c1 .nil)))) ⟨d8,i6⟩ λ⟨⟨D61,f62⟩,⟨C63,e64⟩⟩=>?_;refine bB (nP (out++(finP st).1)) (yT e7 e6)<|bB (tnF (finP st).2) (bLu e7) ?_;have q:=bAg st;refine g5 ?_;refine ss (j3 (bDk)) ?_;refine g10 ?_;have hr:=bPt a.1 ‹_› l7;subst hr;refine bR kT4 ?_;exact rs2 (_,_,(out++(finP st).1),_) ⟨d7,d9,i7 rfl,i6⟩
 refine g12 ?_;refine bC (t':=false) (beq_eq_false_iff_ne.2 hg160) ?_;refine g10 ?_;refine sD (λi=>?_) λi=>?_
 .refine g12 ?_;refine bD func84 (cQ bl A c toks (k) e _) rfl rfl (.c0 .nil) ⟨Has.of wH,i6⟩ λ_=>?_;refine g10 ?_;have hr:=xY a.1 o7 l7 aa6;subst hr;exact rs2 (none,0,[],_) ⟨dW,Has.each_nil,i7 rfl,i6⟩
 refine g2 ?_;refine bD func119 (rO _) rfl rfl .nil i6 λ_=>?_;refine g5 ?_;refine iQ (λg=>?_) λg=>?_
 .refine g3 ?_;refine bD func84 (cQ bl A c toks (k) e _) rfl rfl (.c0 .nil) ⟨Has.of wH,i6⟩ λ_=>?_;refine g10 ?_;have hr:=xY a.1 o7 l7 aa6;subst hr;exact rs2 (none,0,[],_) ⟨dW,Has.each_nil,i7 rfl,i6⟩
 refine g6 ?_;refine jA (bY func121 rfl rfl) (rP bl A c toks (k) e J v b4 _ _ st l7 l7) rfl rfl rfl rfl rfl rfl rfl (.c0 (.cons kT8 (.c2 (.c2 .nil)))) ⟨(Has.of wH),d8,i6⟩ λ⟨⟨A65,c66⟩,b67⟩=>?_;refine bB (tnF (some (b67,(uX (bM toks (k) e true)))::st)) (bAc e6 dW) ?_;refine j1 bGy λY=>?_;refine g6 ?_;refine ss (j3 (bDk)) ?_;refine ss (fY ⟨(bM toks (k) e true).Y.1,(bM toks (k) e true).Y.2⟩ ⟨0,0⟩ rfl rfl rfl) ?_;refine g2 ?_;refine iQ (λb=>?_) λb=>?_
 .refine bP<|cL _ _ [j9,u0,A05] cN o0 (.c0 (.c0 (.c0 (.c0 (.c0 (.c0 (.c0 (.c0 (.c0 (.c0 .nil)))))))))) bA.self ?_;refine g11 ?_;have hr:=(uF a.1 o7 l7 l7 ‹_›).2 b;subst hr;exact rs2 (none,0,[],_) ⟨dW,Has.each_nil,i7 rfl,i6⟩
 have he:=(uF a.1 o7 l7 l7 ‹_›).1 b;refine g3 ?_;exact dA ((bM toks (k) e true).next,o,out,(some (b67,(uX (bM toks (k) e true)))::st),_,_,_,_) v7 ⟨rfl,i6⟩ ⟨rfl,rfl,rfl,rfl,rfl,rfl,i6⟩ (.c1 (.c4 (.c4 (.c2 (.c2 (.c5 (.c1 .nil))))))) ⟨i7 (⟨he,a.2.1,a.2.2.1,by have:=fA toks k e true;first|omega|(simp;omega),he.1⟩),d8,d7,e8,i6⟩ (bA.drop 13)
