/- Texts of one proof, one behind the other: Tys, Txt, LexA, Eq, LexS, LexB, LexC, LexD, Num. -/
import Derived.Test.YtbgdphbebhjpiaaGreatDoorM2
import Derived.Test.YtbgdphbebhjpiaaGreatDoorRows
import Derived.ChangeKeysEq
import Derived.Test.YtbgdphbebhjpiaaGreatDoorShelf
import Derived.Lib.SmallJoins
import Derived.Lib.ItoaLen
import Derived.Lib.ReplaceLaws
namespace Go.Proofs.YtbgdphbebhjpiaaGreatDoor
open Go.RowKit Go.ChangeShapes Go.WideShapes
def lA:Flat Bs where
 size:=1
 cells:=fun x=>[.string (bs x)]
 len:=fun _=>rfl
 one:=fun x u hu=>by simp at hu;subst hu;rfl
 pos:=by decide
structure TokV where
 kind:Int
 at_:Int
 word:Bs
 n:Int
 deriving Inhabited
def kY:Flat TokV where
 size:=4
 cells:=fun x=>[.int .i64 x.kind,.int .i64 x.at_,.string (bs x.word),.int .i64 x.n]
 len:=fun _=>rfl
 one:=fun x u hu=>by
  simp at hu
  rcases hu with rfl | rfl | rfl | rfl<;>rfl
 pos:=by decide
structure FltV where
 at_:Int
 code:Int
 deriving Inhabited
structure jL where
 name:Bs
 n:Int
 deriving Inhabited
def bHt:Flat jL where
 size:=2
 cells:=fun x=>[.string (bs x.name),.int .i64 x.n]
 len:=fun _=>rfl
 one:=fun x u hu=>by
  simp at hu
  rcases hu with rfl | rfl<;>rfl
 pos:=by decide
structure InputV where
 name:Bs
 at_:Int
 sides:(Sl jL)
 deriving Inhabited
def kU:Flat InputV where
 size:=3
 cells:=fun x=>[.string (bs x.name),.int .i64 x.at_,.slice x.sides.addr x.sides.list.length x.sides.cap]
 len:=fun _=>rfl
 one:=fun x u hu=>by
  simp at hu
  rcases hu with rfl | rfl | rfl<;>rfl
 pos:=by decide
structure ItemV where
 how:Int
 at_:Int
 fn:Int
 name:Bs
 nums:(Sl Int)
 deriving Inhabited
def lH:Flat ItemV where
 size:=5
 cells:=fun x=>[.int .i64 x.how,.int .i64 x.at_,.int .u8 x.fn,.string (bs x.name),.slice x.nums.addr x.nums.list.length x.nums.cap]
 len:=fun _=>rfl
 one:=fun x u hu=>by
  simp at hu
  rcases hu with rfl | rfl | rfl | rfl | rfl<;>rfl
 pos:=by decide
structure LineV where
 name:Bs
 at_:Int
 items:(Sl ItemV)
 deriving Inhabited
def pH:Flat LineV where
 size:=3
 cells:=fun x=>[.string (bs x.name),.int .i64 x.at_,.slice x.items.addr x.items.list.length x.items.cap]
 len:=fun _=>rfl
 one:=fun x u hu=>by
  simp at hu
  rcases hu with rfl | rfl | rfl<;>rfl
 pos:=by decide
structure ProgV where
 inputs:(Sl InputV)
 lines:(Sl LineV)
 deriving Inhabited
def showT:Tab:=[(3,⟨.int .i64,1⟩),(2,⟨.int .i64,1⟩),(5,⟨.int .u8,1⟩),(9,⟨.string,1⟩),(4,⟨.bool,1⟩),(50,⟨.int .u8,1⟩),(34,⟨.int .i64,1⟩),(30,⟨.slice 2,1⟩),(27,⟨.slice 9,1⟩),(104,⟨.struct [(3,0),(3,1),(9,2),(2,3)],4⟩),(97,⟨.slice 104,1⟩),(36,⟨.struct [(3,0),(34,1)],2⟩),(63,⟨.struct [(9,0),(2,1)],2⟩),(59,⟨.slice 63,1⟩),(61,⟨.struct [(9,0),(3,1),(59,2)],3⟩),(22,⟨.slice 61,1⟩),(52,⟨.struct [(3,0),(3,1),(50,2),(9,3),(30,4)],5⟩),(47,⟨.slice 52,1⟩),(49,⟨.struct [(9,0),(3,1),(47,2)],3⟩),(23,⟨.slice 49,1⟩),(25,⟨.struct [(22,0),(23,1)],2⟩),(102,⟨.struct [(97,0),(3,1),(3,2)],3⟩),(100,⟨.other,1⟩),(208,⟨.slice 1,1⟩),(1,⟨.other,1⟩)]
theorem fR:gH Tryz.prog showT:=wF.ok
 ⟨⟨by rw [Tryz.underlying3];rfl,by kernel_rfl⟩,
  ⟨by rw [Tryz.underlying2];rfl,by kernel_rfl⟩,
  ⟨by rw [Tryz.underlying5];rfl,by kernel_rfl⟩,
  ⟨by rw [Tryz.underlying9];rfl,by kernel_rfl⟩,
  ⟨by rw [Tryz.underlying4];rfl,by kernel_rfl⟩,
  ⟨by rw [Tryz.underlying50];rfl,by kernel_rfl⟩,
  ⟨by rw [Tryz.underlying34];rfl,by kernel_rfl⟩,
  ⟨by rw [Tryz.underlying30];rfl,by kernel_rfl⟩,
  ⟨by rw [Tryz.underlying27];rfl,by kernel_rfl⟩,
  ⟨by rw [Tryz.underlying104];rfl,by kernel_rfl⟩,
  ⟨by rw [Tryz.underlying97];rfl,by kernel_rfl⟩,
  ⟨by rw [Tryz.underlying36];rfl,by kernel_rfl⟩,
  ⟨by rw [Tryz.underlying63];rfl,by kernel_rfl⟩,
  ⟨by rw [Tryz.underlying59];rfl,by kernel_rfl⟩,
  ⟨by rw [Tryz.underlying61];rfl,by kernel_rfl⟩,
  ⟨by rw [Tryz.underlying22];rfl,by kernel_rfl⟩,
  ⟨by rw [Tryz.underlying52];rfl,by kernel_rfl⟩,
  ⟨by rw [Tryz.underlying47];rfl,by kernel_rfl⟩,
  ⟨by rw [Tryz.underlying49];rfl,by kernel_rfl⟩,
  ⟨by rw [Tryz.underlying23];rfl,by kernel_rfl⟩,
  ⟨by rw [Tryz.underlying25];rfl,by kernel_rfl⟩,
  ⟨by rw [Tryz.underlying102];rfl,by kernel_rfl⟩,
  ⟨by rw [Tryz.underlying100];rfl,by kernel_rfl⟩,
  ⟨by rw [Tryz.underlying208];rfl,by kernel_rfl⟩,
  ⟨by rw [Tryz.underlying1];rfl,by kernel_rfl⟩,trivial⟩
theorem tokInfo: ∃i:TypeInfo,Tryz.prog.info? 104=some i∧i.zero=some (.agg #[.int .i64 0,.int .i64 0,.string (bs []),.int .i64 0])∧i.size=4∧i.bytes=40:=by
 have h:(Tryz.prog.info? 104).map (fun i=>(i.zero,i.size,i.bytes))=some (some (.agg #[.int .i64 0,.int .i64 0,.string (bs []),.int .i64 0]),4,40):=by kernel_rfl
 cases hi:Tryz.prog.info? 104 with
 | none=>simp [hi] at h
 | some i=>simp [hi] at h;exact⟨i,rfl,h.1,h.2.1,h.2.2⟩
theorem at_one_tok{β:fV}{n:Nat}{Γ:Env}{H:List cA}{F:List Fact}{Q:Exit→Act→World→Prop}{ops:Array Oper}{rest:List Oper}{o:Oper}{d:Nat}{x:Operand}{m:TokV}(hw:want ops Γ o=some true)(ho:o.op= .buildSlice 97 1 #[(0,x)])(hd:o.dst=some d)(hn:Nat.blt d n=true)
  (hx:Γ.ev x=some (.agg #[.int .i64 m.kind,.int .i64 m.at_,.string (bs m.word),.int .i64 m.n])) (k: ∀b,At β n ((d,.slice (some ⟨b,0,none⟩) 1 1)::Γ) (.obj b (.cells (kY.all [m]).toArray 104)::H) F (wpList Tryz.prog ops Q rest)):At β n Γ H F (wpList Tryz.prog ops Q (o::rest)):=by
 obtain⟨i,hi,hz,hs,_⟩:=tokInfo;refine jD hw ho hd hn hx Tryz.underlying97 hi hz (by omega) (by omega) ?_ k;rw [hs]
 kernel_rfl
theorem at_app_tok{β:fV}{n:Nat}{Γ:Env}{H:List cA}{F:List Fact}{Q:Exit→Act→World→Prop}{ops:Array Oper}{rest:List Oper}{o:Oper}{d:Nat}{x y:Operand}{c q:Nat}{v:Value}{A:Option Addr}{xs ys:List TokV}{H':List cA}(hH:dK H (kY.row v 104 xs) H')(hr:cN β H F kY A ys)(hg:o.guard=none)
  (ho:o.op= .call {callee:= .builtin .append,args:= #[x,y],argTypes:= #[97,97]}) (hd:o.dst=some d) (hn:Nat.blt d n=true)
  (hx:Γ.ev x=some v) (hy:Γ.ev y=some (.slice A q c)) (hq:q=ys.length) (hl:xs.length+ys.length≤3518437208883)
  (k: ∀A' cap',At β n ((d,.slice A' (xs++ys).length cap')::Γ) (kY.row (.slice A' (xs++ys).length cap') 104 (xs++ys)::H') F (wpList Tryz.prog ops Q rest)):At β n Γ H F (wpList Tryz.prog ops Q (o::rest)):=by
 obtain⟨i,hi,hz,hs,hb⟩:=tokInfo;exact gA hH hr hg ho hd hn Tryz.underlying97 hi hz hs hb rfl hx hy hq (by omega) (by decide) k
theorem intInfo: ∃i:TypeInfo,Tryz.prog.info? 2=some i∧i.zero=some (.int .i64 0)∧i.size=1∧i.bytes=8:=by
 have h:(Tryz.prog.info? 2).map (fun i=>(i.zero,i.size,i.bytes))=some (some (.int .i64 0),1,8):=by kernel_rfl
 cases hi:Tryz.prog.info? 2 with
 | none=>simp [hi] at h
 | some i=>simp [hi] at h;exact⟨i,rfl,h.1,h.2.1,h.2.2⟩
theorem at_one_int{β:fV}{n:Nat}{Γ:Env}{H:List cA}{F:List Fact}{Q:Exit→Act→World→Prop}{ops:Array Oper}{rest:List Oper}{o:Oper}{d:Nat}{x:Operand}{m:Int}(hw:want ops Γ o=some true)(ho:o.op= .buildSlice 30 1 #[(0,x)])(hd:o.dst=some d)(hn:Nat.blt d n=true)
  (hx:Γ.ev x=some (.int .i64 m)) (k: ∀b,At β n ((d,.slice (some ⟨b,0,none⟩) 1 1)::Γ) (.obj b (.cells (bKh.all [m]).toArray 2)::H) F (wpList Tryz.prog ops Q rest)):At β n Γ H F (wpList Tryz.prog ops Q (o::rest)):=by
 obtain⟨i,hi,hz,hs,_⟩:=intInfo;refine jD hw ho hd hn hx Tryz.underlying30 hi hz (by omega) (by omega) ?_ k;rw [hs]
 kernel_rfl
theorem at_app_int{β:fV}{n:Nat}{Γ:Env}{H:List cA}{F:List Fact}{Q:Exit→Act→World→Prop}{ops:Array Oper}{rest:List Oper}{o:Oper}{d:Nat}{x y:Operand}{c q:Nat}{v:Value}{A:Option Addr}{xs ys:List Int}{H':List cA}(hH:dK H (bKh.row v 2 xs) H')(hr:cN β H F bKh A ys)(hg:o.guard=none)
  (ho:o.op= .call {callee:= .builtin .append,args:= #[x,y],argTypes:= #[30,30]}) (hd:o.dst=some d) (hn:Nat.blt d n=true)
  (hx:Γ.ev x=some v) (hy:Γ.ev y=some (.slice A q c)) (hq:q=ys.length) (hl:xs.length+ys.length≤17592186044416)
  (k: ∀A' cap',At β n ((d,.slice A' (xs++ys).length cap')::Γ) (bKh.row (.slice A' (xs++ys).length cap') 2 (xs++ys)::H') F (wpList Tryz.prog ops Q rest)):At β n Γ H F (wpList Tryz.prog ops Q (o::rest)):=by
 obtain⟨i,hi,hz,hs,hb⟩:=intInfo;exact gA hH hr hg ho hd hn Tryz.underlying30 hi hz hs hb rfl hx hy hq (by omega) (by decide) k
theorem strInfo: ∃i:TypeInfo,Tryz.prog.info? 9=some i∧i.zero=some (.string (bs []))∧i.size=1∧i.bytes=16:=by
 have h:(Tryz.prog.info? 9).map (fun i=>(i.zero,i.size,i.bytes))=some (some (.string (bs [])),1,16):=by kernel_rfl
 cases hi:Tryz.prog.info? 9 with
 | none=>simp [hi] at h
 | some i=>simp [hi] at h;exact⟨i,rfl,h.1,h.2.1,h.2.2⟩
theorem jH{β:fV}{n:Nat}{Γ:Env}{H:List cA}{F:List Fact}{Q:Exit→Act→World→Prop}{ops:Array Oper}{rest:List Oper}{o:Oper}{d:Nat}{x:Operand}{m:Bs}(hw:want ops Γ o=some true)(ho:o.op= .buildSlice 27 1 #[(0,x)])(hd:o.dst=some d)(hn:Nat.blt d n=true)
  (hx:Γ.ev x=some (.string (bs m))) (k: ∀b,At β n ((d,.slice (some ⟨b,0,none⟩) 1 1)::Γ) (.obj b (.cells (lA.all [m]).toArray 9)::H) F (wpList Tryz.prog ops Q rest)):At β n Γ H F (wpList Tryz.prog ops Q (o::rest)):=by
 obtain⟨i,hi,hz,hs,_⟩:=strInfo;refine jD hw ho hd hn hx Tryz.underlying27 hi hz (by omega) (by omega) ?_ k;rw [hs]
 kernel_rfl
theorem kT{β:fV}{n:Nat}{Γ:Env}{H:List cA}{F:List Fact}{Q:Exit→Act→World→Prop}{ops:Array Oper}{rest:List Oper}{o:Oper}{d:Nat}{x y:Operand}{c q:Nat}{v:Value}{A:Option Addr}{xs ys:List Bs}{H':List cA}(hH:dK H (lA.row v 9 xs) H')(hr:cN β H F lA A ys)(hg:o.guard=none)
  (ho:o.op= .call {callee:= .builtin .append,args:= #[x,y],argTypes:= #[27,27]}) (hd:o.dst=some d) (hn:Nat.blt d n=true)
  (hx:Γ.ev x=some v) (hy:Γ.ev y=some (.slice A q c)) (hq:q=ys.length) (hl:xs.length+ys.length≤8796093022208)
  (k: ∀A' cap',At β n ((d,.slice A' (xs++ys).length cap')::Γ) (lA.row (.slice A' (xs++ys).length cap') 9 (xs++ys)::H') F (wpList Tryz.prog ops Q rest)):At β n Γ H F (wpList Tryz.prog ops Q (o::rest)):=by
 obtain⟨i,hi,hz,hs,hb⟩:=strInfo;exact gA hH hr hg ho hd hn Tryz.underlying27 hi hz hs hb rfl hx hy hq (by omega) (by decide) k
theorem sideInfo: ∃i:TypeInfo,Tryz.prog.info? 63=some i∧i.zero=some (.agg #[.string (bs []),.int .i64 0])∧i.size=2∧i.bytes=24:=by
 have h:(Tryz.prog.info? 63).map (fun i=>(i.zero,i.size,i.bytes))=some (some (.agg #[.string (bs []),.int .i64 0]),2,24):=by kernel_rfl
 cases hi:Tryz.prog.info? 63 with
 | none=>simp [hi] at h
 | some i=>simp [hi] at h;exact⟨i,rfl,h.1,h.2.1,h.2.2⟩
theorem bDv{β:fV}{n:Nat}{Γ:Env}{H:List cA}{F:List Fact}{Q:Exit→Act→World→Prop}{ops:Array Oper}{rest:List Oper}{o:Oper}{d:Nat}{x:Operand}{m:jL}(hw:want ops Γ o=some true)(ho:o.op= .buildSlice 59 1 #[(0,x)])(hd:o.dst=some d)(hn:Nat.blt d n=true)
  (hx:Γ.ev x=some (.agg #[.string (bs m.name),.int .i64 m.n])) (k: ∀b,At β n ((d,.slice (some ⟨b,0,none⟩) 1 1)::Γ) (.obj b (.cells (bHt.all [m]).toArray 63)::H) F (wpList Tryz.prog ops Q rest)):At β n Γ H F (wpList Tryz.prog ops Q (o::rest)):=by
 obtain⟨i,hi,hz,hs,_⟩:=sideInfo;refine jD hw ho hd hn hx Tryz.underlying59 hi hz (by omega) (by omega) ?_ k;rw [hs]
 kernel_rfl
theorem bDq{β:fV}{n:Nat}{Γ:Env}{H:List cA}{F:List Fact}{Q:Exit→Act→World→Prop}{ops:Array Oper}{rest:List Oper}{o:Oper}{d:Nat}{x y:Operand}{c q:Nat}{v:Value}{A:Option Addr}{xs ys:List jL}{H':List cA}(hH:dK H (bHt.row v 63 xs) H')(hr:cN β H F bHt A ys)(hg:o.guard=none)
  (ho:o.op= .call {callee:= .builtin .append,args:= #[x,y],argTypes:= #[59,59]}) (hd:o.dst=some d) (hn:Nat.blt d n=true)
  (hx:Γ.ev x=some v) (hy:Γ.ev y=some (.slice A q c)) (hq:q=ys.length) (hl:xs.length+ys.length≤5864062014805)
  (k: ∀A' cap',At β n ((d,.slice A' (xs++ys).length cap')::Γ) (bHt.row (.slice A' (xs++ys).length cap') 63 (xs++ys)::H') F (wpList Tryz.prog ops Q rest)):At β n Γ H F (wpList Tryz.prog ops Q (o::rest)):=by
 obtain⟨i,hi,hz,hs,hb⟩:=sideInfo;exact gA hH hr hg ho hd hn Tryz.underlying59 hi hz hs hb rfl hx hy hq (by omega) (by decide) k
theorem bMv: ∃i:TypeInfo,Tryz.prog.info? 61=some i∧i.zero=some (.agg #[.string (bs []),.int .i64 0,.slice none 0 0])∧i.size=3∧i.bytes=48:=by
 have h:(Tryz.prog.info? 61).map (fun i=>(i.zero,i.size,i.bytes))=some (some (.agg #[.string (bs []),.int .i64 0,.slice none 0 0]),3,48):=by kernel_rfl
 cases hi:Tryz.prog.info? 61 with
 | none=>simp [hi] at h
 | some i=>simp [hi] at h;exact⟨i,rfl,h.1,h.2.1,h.2.2⟩
theorem bAx{β:fV}{n:Nat}{Γ:Env}{H:List cA}{F:List Fact}{Q:Exit→Act→World→Prop}{ops:Array Oper}{rest:List Oper}{o:Oper}{d:Nat}{x:Operand}{m:InputV}(hw:want ops Γ o=some true)(ho:o.op= .buildSlice 22 1 #[(0,x)])(hd:o.dst=some d)(hn:Nat.blt d n=true)
  (hx:Γ.ev x=some (.agg #[.string (bs m.name),.int .i64 m.at_,.slice m.sides.addr m.sides.list.length m.sides.cap])) (k: ∀b,At β n ((d,.slice (some ⟨b,0,none⟩) 1 1)::Γ) (.obj b (.cells (kU.all [m]).toArray 61)::H) F (wpList Tryz.prog ops Q rest)):At β n Γ H F (wpList Tryz.prog ops Q (o::rest)):=by
 obtain⟨i,hi,hz,hs,_⟩:=bMv;refine jD hw ho hd hn hx Tryz.underlying22 hi hz (by omega) (by omega) ?_ k;rw [hs]
 kernel_rfl
theorem bAm{β:fV}{n:Nat}{Γ:Env}{H:List cA}{F:List Fact}{Q:Exit→Act→World→Prop}{ops:Array Oper}{rest:List Oper}{o:Oper}{d:Nat}{x y:Operand}{c q:Nat}{v:Value}{A:Option Addr}{xs ys:List InputV}{H':List cA}(hH:dK H (kU.row v 61 xs) H')(hr:cN β H F kU A ys)(hg:o.guard=none)
  (ho:o.op= .call {callee:= .builtin .append,args:= #[x,y],argTypes:= #[22,22]}) (hd:o.dst=some d) (hn:Nat.blt d n=true)
  (hx:Γ.ev x=some v) (hy:Γ.ev y=some (.slice A q c)) (hq:q=ys.length) (hl:xs.length+ys.length≤2932031007402)
  (k: ∀A' cap',At β n ((d,.slice A' (xs++ys).length cap')::Γ) (kU.row (.slice A' (xs++ys).length cap') 61 (xs++ys)::H') F (wpList Tryz.prog ops Q rest)):At β n Γ H F (wpList Tryz.prog ops Q (o::rest)):=by
 obtain⟨i,hi,hz,hs,hb⟩:=bMv;exact gA hH hr hg ho hd hn Tryz.underlying22 hi hz hs hb rfl hx hy hq (by omega) (by decide) k
theorem itemInfo: ∃i:TypeInfo,Tryz.prog.info? 52=some i∧i.zero=some (.agg #[.int .i64 0,.int .i64 0,.int .u8 0,.string (bs []),.slice none 0 0])∧i.size=5∧i.bytes=64:=by
 have h:(Tryz.prog.info? 52).map (fun i=>(i.zero,i.size,i.bytes))=some (some (.agg #[.int .i64 0,.int .i64 0,.int .u8 0,.string (bs []),.slice none 0 0]),5,64):=by kernel_rfl
 cases hi:Tryz.prog.info? 52 with
 | none=>simp [hi] at h
 | some i=>simp [hi] at h;exact⟨i,rfl,h.1,h.2.1,h.2.2⟩
theorem vY{β:fV}{n:Nat}{Γ:Env}{H:List cA}{F:List Fact}{Q:Exit→Act→World→Prop}{ops:Array Oper}{rest:List Oper}{o:Oper}{d:Nat}{x:Operand}{m:ItemV}(hw:want ops Γ o=some true)(ho:o.op= .buildSlice 47 1 #[(0,x)])(hd:o.dst=some d)(hn:Nat.blt d n=true)
  (hx:Γ.ev x=some (.agg #[.int .i64 m.how,.int .i64 m.at_,.int .u8 m.fn,.string (bs m.name),.slice m.nums.addr m.nums.list.length m.nums.cap])) (k: ∀b,At β n ((d,.slice (some ⟨b,0,none⟩) 1 1)::Γ) (.obj b (.cells (lH.all [m]).toArray 52)::H) F (wpList Tryz.prog ops Q rest)):At β n Γ H F (wpList Tryz.prog ops Q (o::rest)):=by
 obtain⟨i,hi,hz,hs,_⟩:=itemInfo;refine jD hw ho hd hn hx Tryz.underlying47 hi hz (by omega) (by omega) ?_ k;rw [hs]
 kernel_rfl
theorem vQ{β:fV}{n:Nat}{Γ:Env}{H:List cA}{F:List Fact}{Q:Exit→Act→World→Prop}{ops:Array Oper}{rest:List Oper}{o:Oper}{d:Nat}{x y:Operand}{c q:Nat}{v:Value}{A:Option Addr}{xs ys:List ItemV}{H':List cA}(hH:dK H (lH.row v 52 xs) H')(hr:cN β H F lH A ys)(hg:o.guard=none)
  (ho:o.op= .call {callee:= .builtin .append,args:= #[x,y],argTypes:= #[47,47]}) (hd:o.dst=some d) (hn:Nat.blt d n=true)
  (hx:Γ.ev x=some v) (hy:Γ.ev y=some (.slice A q c)) (hq:q=ys.length) (hl:xs.length+ys.length≤2199023255552)
  (k: ∀A' cap',At β n ((d,.slice A' (xs++ys).length cap')::Γ) (lH.row (.slice A' (xs++ys).length cap') 52 (xs++ys)::H') F (wpList Tryz.prog ops Q rest)):At β n Γ H F (wpList Tryz.prog ops Q (o::rest)):=by
 obtain⟨i,hi,hz,hs,hb⟩:=itemInfo;exact gA hH hr hg ho hd hn Tryz.underlying47 hi hz hs hb rfl hx hy hq (by omega) (by decide) k
theorem lineInfo: ∃i:TypeInfo,Tryz.prog.info? 49=some i∧i.zero=some (.agg #[.string (bs []),.int .i64 0,.slice none 0 0])∧i.size=3∧i.bytes=48:=by
 have h:(Tryz.prog.info? 49).map (fun i=>(i.zero,i.size,i.bytes))=some (some (.agg #[.string (bs []),.int .i64 0,.slice none 0 0]),3,48):=by kernel_rfl
 cases hi:Tryz.prog.info? 49 with
 | none=>simp [hi] at h
 | some i=>simp [hi] at h;exact⟨i,rfl,h.1,h.2.1,h.2.2⟩
theorem bEd{β:fV}{n:Nat}{Γ:Env}{H:List cA}{F:List Fact}{Q:Exit→Act→World→Prop}{ops:Array Oper}{rest:List Oper}{o:Oper}{d:Nat}{x:Operand}{m:LineV}(hw:want ops Γ o=some true)(ho:o.op= .buildSlice 23 1 #[(0,x)])(hd:o.dst=some d)(hn:Nat.blt d n=true)
  (hx:Γ.ev x=some (.agg #[.string (bs m.name),.int .i64 m.at_,.slice m.items.addr m.items.list.length m.items.cap])) (k: ∀b,At β n ((d,.slice (some ⟨b,0,none⟩) 1 1)::Γ) (.obj b (.cells (pH.all [m]).toArray 49)::H) F (wpList Tryz.prog ops Q rest)):At β n Γ H F (wpList Tryz.prog ops Q (o::rest)):=by
 obtain⟨i,hi,hz,hs,_⟩:=lineInfo;refine jD hw ho hd hn hx Tryz.underlying23 hi hz (by omega) (by omega) ?_ k;rw [hs]
 kernel_rfl
theorem bDs{β:fV}{n:Nat}{Γ:Env}{H:List cA}{F:List Fact}{Q:Exit→Act→World→Prop}{ops:Array Oper}{rest:List Oper}{o:Oper}{d:Nat}{x y:Operand}{c q:Nat}{v:Value}{A:Option Addr}{xs ys:List LineV}{H':List cA}(hH:dK H (pH.row v 49 xs) H')(hr:cN β H F pH A ys)(hg:o.guard=none)
  (ho:o.op= .call {callee:= .builtin .append,args:= #[x,y],argTypes:= #[23,23]}) (hd:o.dst=some d) (hn:Nat.blt d n=true)
  (hx:Γ.ev x=some v) (hy:Γ.ev y=some (.slice A q c)) (hq:q=ys.length) (hl:xs.length+ys.length≤2932031007402)
  (k: ∀A' cap',At β n ((d,.slice A' (xs++ys).length cap')::Γ) (pH.row (.slice A' (xs++ys).length cap') 49 (xs++ys)::H') F (wpList Tryz.prog ops Q rest)):At β n Γ H F (wpList Tryz.prog ops Q (o::rest)):=by
 obtain⟨i,hi,hz,hs,hb⟩:=lineInfo;exact gA hH hr hg ho hd hn Tryz.underlying23 hi hz hs hb rfl hx hy hq (by omega) (by decide) k
theorem dD:Tryz.prog.follows .mixedOrders=true:=by kernel_rfl
end Go.Proofs.YtbgdphbebhjpiaaGreatDoor
namespace Go.Proofs.YtbgdphbebhjpiaaGreatDoor
def lI (b:UInt8):Bool:=decide (97≤(b ||| 32).toNat)&&decide ((b ||| 32).toNat≤122)
def dH (b:UInt8):Bool:=decide (48≤b.toNat)&&decide (b.toNat≤57)
def jQ (b:UInt8):Bool:=lI b || dH b
abbrev Tok:=TokV
abbrev Flt:=Int×Int
def runB (p:UInt8→Bool):Bs→Nat
 | []=>0
 | b::r=>if p b then runB p r+1 else 0
theorem jC(p:UInt8→Bool): ∀s:Bs,runB p s≤s.length
 | []=>Nat.le_refl _
 | b::r=>by
  unfold runB;split
  ·have:=jC p r;simp;omega
  ·simp
def decV:Bs→Nat→Nat
 | [],v=>v
 | b::r,v=>decV r (10*v+(b.toNat-48))
def rM (neg:Bool)(ds:Bs):Option Int:=
 if neg then (if decV ds 0≤9223372036854775808 then some (-(decV ds 0:Int)) else none)
 else (if decV ds 0≤9223372036854775807 then some (decV ds 0:Int) else none)
def signs:Bs:=[43,45,42,37,124,61,126,60,62,47,92,46,58,40,41]
def signP:Bs→Nat
 | []=>0
 | b::r=>if (b==60 || b==62)&&r.head?==some 61 then 2 else if signs.contains b then 1 else 0
abbrev TokR:=Int×Bs×Int×Nat
def gU (b:UInt8)(r:Bs):Except Int (Option TokR):=
 let ds:=if b==95 then r else b::r
 let k:=runB dH ds
 if k=0 then .ok none else match rM (b==95) (ds.take k) with
  | none=> .error 32
  | some v=> .ok (some (2,[],v,k+if b==95 then 1 else 0))
def fL:Bs→Except Int TokR
 | []=> .error 31
 | b::r=>
  if b==10 then .ok (4,[],0,1)
  else if lI b then (if 16<runB jQ (b::r) then .error 33 else .ok (1,(b::r).take (runB jQ (b::r)),0,runB jQ (b::r)))
  else match gU b r with
   | .error e=> .error e
   | .ok (some t)=> .ok t
   | .ok none=>if signP (b::r)=0 then .error 31 else .ok (3,(b::r).take (signP (b::r)),0,signP (b::r))
def iQ (b:UInt8):Bool:=b==32 || b==9
def lexGo:Nat→Nat→Bs→List Tok→List Tok×Flt
 | 0,_,_,out=>(out,(0,0))
 | _+1,_,[],out=>(out,(0,0))
 | f+1,i,b::r,out=>
  if iQ b then lexGo f (i+1) r out
  else if b==35 then lexGo f (i+runB (· !=10) (b::r)) ((b::r).drop (runB (· !=10) (b::r))) out
  else match fL (b::r) with
   | .error e=>([],(i,e))
   | .ok (k,wd,v,m)=>lexGo f (i+m) ((b::r).drop m) (out++[⟨k,i,wd,v⟩])
def lexP (s:Bs):List Tok×Flt:=if 65536<s.length then ([],(0,30)) else lexGo s.length 0 s []
theorem bIt{b:UInt8}{r:Bs}{t:TokR}(h:gU b r= .ok (some t)):1≤t.2.2.2∧t.2.2.2≤r.length+1:=by
 unfold gU at h
 by_cases hb:(b==95)=true
 ·simp only [hb,if_true] at h;have hl:=jC dH r;split at h
  ·cases h
  ·split at h
   ·cases h
   ·simp only [Except.ok.injEq,Option.some.injEq] at h;subst h;simp;omega
 ·simp only [hb,Bool.false_eq_true,if_false] at h;have hl:=jC dH (b::r);simp only [List.length_cons] at hl;split at h
  ·cases h
  ·split at h
   ·cases h
   ·simp only [Except.ok.injEq,Option.some.injEq] at h;subst h;simp only;omega
theorem signP_le: ∀s:Bs,signP s≤s.length
 | []=>Nat.le_refl _
 | [b]=>by
  have e:(none==some (61:UInt8))=false:=rfl;simp only [signP,List.head?_nil,e,Bool.and_false,Bool.false_eq_true,if_false];split<;>simp
 | b::c::r=>by
  simp only [signP];split
  ·simp
  ·split
   ·simp only [List.length_cons];omega
   ·omega
theorem nD{s:Bs}{t:TokR}(h:fL s= .ok t):1≤t.2.2.2∧t.2.2.2≤s.length:=by
 cases s with
 | nil=>cases h
 | cons b r=>
  simp only [fL] at h;split at h
  ·cases h;simp
  ·split at h
   ·rename_i hlt;split at h
    ·cases h
    ·cases h;have:=jC jQ (b::r);refine⟨?_,this⟩;simp only [runB,jQ,hlt,Bool.true_or,if_true];omega
   ·split at h
    ·cases h
    ·rename_i t' ht;cases h;exact bIt ht
    ·split at h
     ·cases h
     ·cases h;have:=signP_le (b::r);simp only;omega
theorem bAd{p:UInt8→Bool}{b:UInt8}{r:Bs}(h:p b=true):1≤runB p (b::r):=by
 simp only [runB,h,if_true];omega
theorem bHo{b:UInt8}(h:(b==35)=true):(b !=10)=true:=by
 have:b=35:=by simpa using h
 subst this;decide
theorem qY: ∀(f g i:Nat) (s:Bs) (out:List Tok),s.length≤f→s.length≤g→lexGo f i s out=lexGo g i s out
 | 0,0,_,_,_,_,_=>rfl
 | 0,g+1,_,[],_,_,_=>rfl
 | f+1,0,_,[],_,_,_=>rfl
 | 0,_,_,b::r,_,h,_=>by simp at h
 | _,0,_,b::r,_,_,h=>by simp at h
 | f+1,g+1,_,[],_,_,_=>rfl
 | f+1,g+1,i,b::r,out,h,k=>by
  simp only [List.length_cons] at h k;unfold lexGo;split
  ·exact qY f g _ _ _ (by omega) (by omega)
  ·split
   ·rename_i h35;have:1≤runB (· !=10) (b::r):=bAd (bHo h35);exact qY f g _ _ _ (by simp;omega) (by simp;omega)
   ·split
    ·rfl
    ·rename_i ht;have:=(nD ht).1;exact qY f g _ _ _ (by simp at this⊢;omega) (by simp at this⊢;omega)
theorem gY{i:Nat}{b:UInt8}{r:Bs}{out:List Tok}:lexGo (b::r).length i (b::r) out=
  if iQ b then lexGo r.length (i+1) r out
  else if b==35 then lexGo ((b::r).drop (runB (· !=10) (b::r))).length (i+runB (· !=10) (b::r)) ((b::r).drop (runB (· !=10) (b::r))) out
  else match fL (b::r) with
   | .error e=>([],(i,e))
   | .ok (k,wd,v,m)=>lexGo ((b::r).drop m).length (i+m) ((b::r).drop m) (out++[⟨k,i,wd,v⟩]):=by
 rw [List.length_cons,lexGo];split
 ·rfl
 ·split
  ·rename_i h35;have:1≤runB (· !=10) (b::r):=bAd (bHo h35);exact qY _ _ _ _ _ (by simp;omega) (by simp)
  ·split
   ·rfl
   ·rename_i ht;have:=(nD ht).1;exact qY _ _ _ _ _ (by simp at this⊢;omega) (by simp)
end Go.Proofs.YtbgdphbebhjpiaaGreatDoor
namespace Go.Proofs.YtbgdphbebhjpiaaGreatDoor
open Go.RowKit
theorem run_more{p:UInt8→Bool}{s:Bs}{i:Nat}{b:UInt8}(hb:s[i]?=some b)(hp:p b=true)(h:runB p s=i+runB p (s.drop i)):runB p s=(i+1)+runB p (s.drop (i+1)):=by
 obtain⟨hi,hb⟩:=List.getElem?_eq_some_iff.1 hb;rw [List.drop_eq_getElem_cons hi,hb,runB,if_pos hp] at h;omega
theorem run_end{p:UInt8→Bool}{s:Bs}{i:Nat}(hc:s.length≤i∨ ∃b,s[i]?=some b∧p b=false)(h:runB p s=i+runB p (s.drop i)):runB p s=i:=by
 rcases hc with hc | ⟨b,hb,hp⟩
 ·rw [List.drop_of_length_le hc] at h
  simpa [runB] using h
 ·obtain⟨hi,hb⟩:=List.getElem?_eq_some_iff.1 hb;rw [List.drop_eq_getElem_cons hi,hb,runB,hp] at h
  simpa using h
theorem or32(a:UInt8):IntKind.u8.wrap (((BitVec.ofInt IntKind.u8.bits (a.toNat:Int) ||| BitVec.ofInt IntKind.u8.bits 32).toNat:Nat):Int)=(((a ||| 32).toNat:Nat):Int):=or_u8 a 32
set_option maxRecDepth 100000 in
theorem bEl(b:UInt8):dX Tryz.prog 129 [.int .u8 b.toNat] [] [] (fun(_:Unit)=> .bool (lI b)) (fun _=>[]) (fun _=>[]):=by
 have hT:=fR;refine cW Tryz.func129 rfl Tryz.ntmps129 rfl ?_;intro β hM;refine sr<|sp hT ?_;refine nn<|sr<|sp2 hT ?_;refine bT (z':=((((b ||| 32):UInt8).toNat:Nat):Int)) (or32 _) ?_;refine sp2 hT ?_;refine cF (fun hg6=>?_) (fun hg6=>?_)
 ·have hg6:=of_decide_eq_true hg6;refine sp2 hT ?_;refine bT (z':=((((b ||| 32):UInt8).toNat:Nat):Int)) (or32 _) ?_;refine sp3 hT ?_;refine nn<|bF ?_;exact bV () rfl (bG rfl) .nil trivial (by congr 1;unfold lI;generalize (b ||| 32).toNat=c at*;rw [Bool.eq_iff_iff];simp;omega)
 have hg6:=Int.not_le.1 (of_decide_eq_false hg6);refine sk3 ?_;refine sp2 hT ?_;refine nn<|bF ?_;exact bV () rfl (bG rfl) .nil trivial (by congr 1;unfold lI;generalize (b ||| 32).toNat=c at*;rw [Bool.eq_iff_iff];simp;omega)
set_option maxRecDepth 100000 in
theorem xU(b:UInt8):dX Tryz.prog 131 [.int .u8 b.toNat] [] [] (fun(_:Unit)=> .bool (dH b)) (fun _=>[]) (fun _=>[]):=by
 have hT:=fR;refine cW Tryz.func131 rfl Tryz.ntmps131 rfl ?_;intro β hM;refine sr<|sp hT ?_;refine nn<|sr<|sp3 hT ?_;refine cF (fun hg5=>?_) (fun hg5=>?_)
 ·have hg5:=of_decide_eq_true hg5;refine sp4 hT ?_;refine nn<|bF ?_;exact bV () rfl (bG rfl) .nil trivial (by congr 1;unfold dH;rw [Bool.eq_iff_iff];simp;omega)
 have hg5:=Int.not_le.1 (of_decide_eq_false hg5);refine sk2 ?_;refine sp2 hT ?_;refine nn<|bF ?_;exact bV () rfl (bG rfl) .nil trivial (by congr 1;unfold dH;rw [Bool.eq_iff_iff];simp;omega)
set_option maxRecDepth 100000 in
theorem word_spec(b:UInt8):dX Tryz.prog 130 [.int .u8 b.toNat] [] [] (fun(_:Unit)=> .bool (jQ b)) (fun _=>[]) (fun _=>[]):=by
 have hT:=fR;refine cW Tryz.func130 rfl Tryz.ntmps130 rfl ?_;intro β hM;refine sr<|sp hT ?_;refine nn<|sr<|sp hT ?_;refine bR Tryz.func129 (bEl _) rfl rfl .nil trivial fun _=>?_;refine sp hT ?_;refine cF (fun hg5=>?_) (fun hg5=>?_)
 ·refine sk2 ?_;refine sp2 hT ?_;refine nn<|bF ?_;exact bV () rfl (bG rfl) .nil trivial (by simp [jQ, *])
 refine sp hT ?_;refine bR Tryz.func131 (xU _) rfl rfl .nil trivial fun _=>?_;refine sp2 hT ?_;refine nn<|bF ?_;exact bV () rfl (bG rfl) .nil trivial (by simp [jQ, *])
set_option maxRecDepth 100000 in
theorem line_spec(b:UInt8):dX Tryz.prog 71 [.int .u8 b.toNat] [] [] (fun(_:Unit)=> .bool (b !=10)) (fun _=>[]) (fun _=>[]):=by
 have hT:=fR;refine cW Tryz.func71 rfl Tryz.ntmps71 rfl ?_;intro β hM;refine sr<|sp hT ?_;refine nn<|sr<|sp3 hT ?_;refine nn<|bF ?_;exact bV () rfl (bG rfl) .nil trivial (by congr 1;rw [Bool.eq_iff_iff];simp [bne_iff_ne,←UInt8.toNat_inj];omega)
set_option maxRecDepth 100000 in
theorem bBc(s:Bs)(hs:s.length≤140737488355328)(f:FuncId)(p:UInt8→Bool)(hcf: ∀(args:Array Value) (w:World),(callFunc f args).run Tryz.prog w= .ok (.enter f args) w)(hf: ∀b:UInt8,dX Tryz.prog f [.int .u8 b.toNat] [] [] (fun _:Unit=> .bool (p b)) (fun _=>[]) (fun _=>[])):dX Tryz.prog 70 [.string (bs s),.func (.func f) #[] #[]] [] [] (fun(_:Unit)=> .int .i64 (runB p s:Nat)) (fun _=>[]) (fun _=>[]):=by
 have hT:=fR;refine cW Tryz.func70 rfl Tryz.ntmps70 rfl ?_;intro β hM;refine sr<|sp hT ?_;refine nn<|sr<|sp hT ?_;refine nn<|bA<|bX<|dG (ι:=Nat) [(0,_),(1,_)] ⟨rfl,rfl,trivial⟩ (fun i=>[(5,.int .i64 (i:Nat))]) (fun i=>[]) (fun i=>[Fact.pure (i≤s.length∧runB p s=i+runB p (s.drop i))]) (fun i=>s.length-i) 0 ⟨rfl,trivial⟩ .nil ⟨Has.pure (⟨by omega,by simp⟩),trivial⟩ ?_;rintro i;refine bS (Has.of mT0) fun hinv2=>?_;refine bA<|sr<|sp3 hT ?_;refine bT (z':=((s.length:Nat):Int)) rfl ?_;refine sp2 hT ?_;refine cF (fun hg10=>?_) (fun hg10=>?_)
 ·have hg10:=of_decide_eq_true hg10;refine sp3 hT ?_
  obtain⟨b1,hb2⟩: ∃b,s[i]?=some b:=⟨_,List.getElem?_eq_getElem (by omega)⟩
  refine ss (oP hT (k:=i) rfl rfl rfl rfl rfl hb2) ?_;refine gP hcf (hf b1) rfl rfl rfl rfl rfl rfl rfl .nil trivial fun _=>?_;refine sp hT ?_;refine nn<|bL rfl (fun hc16=>?_) (fun hc16=>?_)
  ·refine bN<|bC<|bX<|bD<|sp2 hT ?_;refine bT (z':=(((i+1):Nat):Int)) (cP (by omega) (by omega)) ?_;refine sp hT ?_;refine dY<|cD<|bC ?_;exact cO (i+1) (by omega) ⟨rfl,trivial⟩ ⟨rfl,rfl,trivial⟩ .nil ⟨Has.pure (⟨by omega,run_more hb2 hc16 hinv2.2⟩),trivial⟩ (bI.drop 1)
  refine dC<|cM<|cM<|dB<|bC<|sr<|sp2 hT ?_;refine nn<|bF ?_;exact bV () rfl (bG rfl) .nil trivial (congrArg (fun n:Nat=>Value.int .i64 (n:Int)) (run_end (.inr ⟨_,hb2,hc16⟩) hinv2.2).symm)
 have hg10:=Int.not_lt.1 (of_decide_eq_false hg10);refine sk4 ?_;refine sk ?_;refine sp hT ?_;refine nn<|cG rfl rfl ?_;refine dC<|cM<|cM<|dB<|bC<|sr<|sp2 hT ?_;refine nn<|bF ?_;exact bV () rfl (bG rfl) .nil trivial (congrArg (fun n:Nat=>Value.int .i64 (n:Int)) (run_end (.inl (by omega)) hinv2.2).symm)
end Go.Proofs.YtbgdphbebhjpiaaGreatDoor
namespace Go.Proofs.YtbgdphbebhjpiaaGreatDoor
open Go.RowKit
theorem bHf{P:Program}(w:World)(d:Nat)(t:TypeId)(a b:Bs)(ht:P.underlying t=some .string):(Op.equalIn (d+1) t (.string (bs a)) (.string (bs b))).run P w= .ok (a==b) w:=by
 rw [run_equalIn_string w d t _ _ ht];simp [bs]
section
variable {P : Program} {β : fV} {n : Nat} {Γ : Env} {H : List cA} {F : List Fact} {o : Oper} {x : Operand} {t tt : TypeId}
theorem run_eqIf{ms:Array (String×TypeId)}(ht:P.underlying t=some (.interface ms))(w:World)(u:TypeId)(v:Value):(Op.equal t (.iface u v) .nilIface).run P w= .ok false w∧(Op.equal t .nilIface .nilIface).run P w= .ok true w:=by
 have h1: ∀d,(Op.equalIn (d+1) t (.iface u v) .nilIface).run P w= .ok false w:=fun d=>by simp [Op.equalIn,run_underlying ht]
 have h2: ∀d,(Op.equalIn (d+1) t .nilIface .nilIface).run P w= .ok true w:=fun d=>by simp [Op.equalIn,run_underlying ht]
 exact⟨h1 9999,h2 9999⟩
theorem sti_err{ms:Array (String×TypeId)}(ht:P.underlying t=some (.interface ms)){u:TypeId}{v:Value}(ho:o.op= .binOp .neq t x (.const .nilIface) tt)(hx:Γ.ev x=some (.iface u v)):Sti P β n Γ H F o (.bool true):=fun c w S f s k=>by
 unfold execOp;have e:c.eval (.const .nilIface)= .nilIface:=rfl;simp only [ho,f.ev hx,e]
 have hb:(binOp .neq t (.iface u v) .nilIface).run P w= .ok (.bool true) w:=by
  simp only [binOp];rw [Sem.run_bind,(run_eqIf ht w u v).1];rfl
 rw [Sem.run_bind,Sem.run_bind];have hg:(eqGuard .neq t x (.const .nilIface) (.iface u v) .nilIface).run P w= .ok () w:=rfl;rw [hg,Result.andThen_ok,hb];rfl
theorem bLn{ms:Array (String×TypeId)}(ht:P.underlying t=some (.interface ms))(ho:o.op= .binOp .neq t x (.const .nilIface) tt)(hx:Γ.ev x=some .nilIface):Sti P β n Γ H F o (.bool false):=fun c w S f s k=>by
 unfold execOp;have e:c.eval (.const .nilIface)= .nilIface:=rfl;simp only [ho,f.ev hx,e]
 have hb:(binOp .neq t .nilIface .nilIface).run P w= .ok (.bool false) w:=by
  simp only [binOp];rw [Sem.run_bind,(run_eqIf ht w 0 .nilIface).2];rfl
 rw [Sem.run_bind,Sem.run_bind]
 have hg:(eqGuard .neq t x (.const .nilIface) .nilIface .nilIface).run P w= .ok () w:=by
  unfold eqGuard;simp
 rw [hg,Result.andThen_ok,hb];rfl
end
def nQ (x y:FltV):Bool:=((x.at_==y.at_)&&(x.code==y.code))
theorem uP(d:Nat)(x y:FltV)(w:World):(Op.equalIn (d+2) 36 (.agg #[.int .i64 x.at_,.int .i64 x.code]) (.agg #[.int .i64 y.at_,.int .i64 y.code])).run Tryz.prog w= .ok (nQ x y) w:=by
 have hp:Tryz.prog.stoodInHeld 36=false:=by kernel_rfl
 have p0: ∀x:FltV,(part 3 #[.int .i64 x.at_,.int .i64 x.code] 0).run Tryz.prog w= .ok (.int .i64 x.at_) w:=fun x=>by kernel_rfl
 have p1: ∀x:FltV,(part 34 #[.int .i64 x.at_,.int .i64 x.code] 1).run Tryz.prog w= .ok (.int .i64 x.code) w:=fun x=>by kernel_rfl
 have hS:Tryz.prog.underlying 36=some (.struct (Tryz.prog.fieldsOf 36)):=by kernel_rfl
 rw [run_equalIn_agg w (d+1) 36 _ _ hS hp];unfold Program.fieldsOf;rw [Tryz.underlying36];simp only [Op.eqFields,Sem.run_bind,Sem.run_ite,Sem.run_pure,p0,p1,Result.andThen_ok,run_equalIn_int w d 3 .i64 .i64 _ _ Tryz.underlying3,run_equalIn_int w d 34 .i64 .i64 _ _ Tryz.underlying34];unfold nQ;cases x.at_==y.at_<;>cases x.code==y.code<;>rfl
theorem fM{β:fV}{n:Nat}{Γ:Env}{H:List cA}{F:List Fact}{o:Oper}{a b:Operand}{tt:TypeId}(x y:FltV)(ho:o.op= .binOp .neq 36 a b tt)(hx:Γ.ev a=some (.agg #[.int .i64 x.at_,.int .i64 x.code]))(hy:Γ.ev b=some (.agg #[.int .i64 y.at_,.int .i64 y.code])):Sti Tryz.prog β n Γ H F o (.bool (!nQ x y)):=fun c w S f s k=>by
 have hq:Tryz.prog.eqGuardType Tryz.prog.depth 36=false:=by kernel_rfl
 have hg:(eqGuard .neq 36 a b (.agg #[.int .i64 x.at_,.int .i64 x.code]) (.agg #[.int .i64 y.at_,.int .i64 y.code])).run Tryz.prog w= .ok () w:=by
  unfold eqGuard;have hp:(program:Sem Program).run Tryz.prog w= .ok Tryz.prog w:=rfl;simp [hp,hq]
 have hb:(binOp .neq 36 (.agg #[.int .i64 x.at_,.int .i64 x.code]) (.agg #[.int .i64 y.at_,.int .i64 y.code])).run Tryz.prog w= .ok (.bool (!nQ x y)) w:=by
  rw [run_neq_struct,uP 9998 x y w];rfl
 unfold execOp;simp only [ho,f.ev hx,f.ev hy];rw [Sem.run_bind,Sem.run_bind,hg,Result.andThen_ok,hb];rfl
theorem wM{β:fV}{n:Nat}{Γ:Env}{H:List cA}{F:List Fact}{o:Oper}{a b:Operand}{tt:TypeId}(x y:FltV)(ho:o.op= .binOp .eql 36 a b tt)(hx:Γ.ev a=some (.agg #[.int .i64 x.at_,.int .i64 x.code]))(hy:Γ.ev b=some (.agg #[.int .i64 y.at_,.int .i64 y.code])):Sti Tryz.prog β n Γ H F o (.bool (nQ x y)):=fun c w S f s k=>by
 have hq:Tryz.prog.eqGuardType Tryz.prog.depth 36=false:=by kernel_rfl
 have hg:(eqGuard .eql 36 a b (.agg #[.int .i64 x.at_,.int .i64 x.code]) (.agg #[.int .i64 y.at_,.int .i64 y.code])).run Tryz.prog w= .ok () w:=by
  unfold eqGuard;have hp:(program:Sem Program).run Tryz.prog w= .ok Tryz.prog w:=rfl;simp [hp,hq]
 have hb:(binOp .eql 36 (.agg #[.int .i64 x.at_,.int .i64 x.code]) (.agg #[.int .i64 y.at_,.int .i64 y.code])).run Tryz.prog w= .ok (.bool (nQ x y)) w:=by
  rw [run_eql_struct,uP 9998 x y w];rfl
 unfold execOp;simp only [ho,f.ev hx,f.ev hy];rw [Sem.run_bind,Sem.run_bind,hg,Result.andThen_ok,hb];rfl
def tokEq (x y:TokV):Bool:=((x.kind==y.kind)&&((x.at_==y.at_)&&((x.word==y.word)&&(x.n==y.n))))
theorem bEv(d:Nat)(x y:TokV)(w:World):(Op.equalIn (d+2) 104 (.agg #[.int .i64 x.kind,.int .i64 x.at_,.string (bs x.word),.int .i64 x.n]) (.agg #[.int .i64 y.kind,.int .i64 y.at_,.string (bs y.word),.int .i64 y.n])).run Tryz.prog w= .ok (tokEq x y) w:=by
 have hp:Tryz.prog.stoodInHeld 104=false:=by kernel_rfl
 have p0: ∀x:TokV,(part 3 #[.int .i64 x.kind,.int .i64 x.at_,.string (bs x.word),.int .i64 x.n] 0).run Tryz.prog w= .ok (.int .i64 x.kind) w:=fun x=>by kernel_rfl
 have p1: ∀x:TokV,(part 3 #[.int .i64 x.kind,.int .i64 x.at_,.string (bs x.word),.int .i64 x.n] 1).run Tryz.prog w= .ok (.int .i64 x.at_) w:=fun x=>by kernel_rfl
 have p2: ∀x:TokV,(part 9 #[.int .i64 x.kind,.int .i64 x.at_,.string (bs x.word),.int .i64 x.n] 2).run Tryz.prog w= .ok (.string (bs x.word)) w:=fun x=>by kernel_rfl
 have p3: ∀x:TokV,(part 2 #[.int .i64 x.kind,.int .i64 x.at_,.string (bs x.word),.int .i64 x.n] 3).run Tryz.prog w= .ok (.int .i64 x.n) w:=fun x=>by kernel_rfl
 have hS:Tryz.prog.underlying 104=some (.struct (Tryz.prog.fieldsOf 104)):=by kernel_rfl
 rw [run_equalIn_agg w (d+1) 104 _ _ hS hp];unfold Program.fieldsOf;rw [Tryz.underlying104];simp only [Op.eqFields,Sem.run_bind,Sem.run_ite,Sem.run_pure,p0,p1,p2,p3,Result.andThen_ok,run_equalIn_int w d 3 .i64 .i64 _ _ Tryz.underlying3,bHf w d 9 _ _ Tryz.underlying9,run_equalIn_int w d 2 .i64 .i64 _ _ Tryz.underlying2];unfold tokEq;cases x.kind==y.kind<;>cases x.at_==y.at_<;>cases x.word==y.word<;>cases x.n==y.n<;>rfl
theorem sti_neq_tok{β:fV}{n:Nat}{Γ:Env}{H:List cA}{F:List Fact}{o:Oper}{a b:Operand}{tt:TypeId}(x y:TokV)(ho:o.op= .binOp .neq 104 a b tt)(hx:Γ.ev a=some (.agg #[.int .i64 x.kind,.int .i64 x.at_,.string (bs x.word),.int .i64 x.n]))(hy:Γ.ev b=some (.agg #[.int .i64 y.kind,.int .i64 y.at_,.string (bs y.word),.int .i64 y.n])):Sti Tryz.prog β n Γ H F o (.bool (!tokEq x y)):=fun c w S f s k=>by
 have hq:Tryz.prog.eqGuardType Tryz.prog.depth 104=false:=by kernel_rfl
 have hg:(eqGuard .neq 104 a b (.agg #[.int .i64 x.kind,.int .i64 x.at_,.string (bs x.word),.int .i64 x.n]) (.agg #[.int .i64 y.kind,.int .i64 y.at_,.string (bs y.word),.int .i64 y.n])).run Tryz.prog w= .ok () w:=by
  unfold eqGuard;have hp:(program:Sem Program).run Tryz.prog w= .ok Tryz.prog w:=rfl;simp [hp,hq]
 have hb:(binOp .neq 104 (.agg #[.int .i64 x.kind,.int .i64 x.at_,.string (bs x.word),.int .i64 x.n]) (.agg #[.int .i64 y.kind,.int .i64 y.at_,.string (bs y.word),.int .i64 y.n])).run Tryz.prog w= .ok (.bool (!tokEq x y)) w:=by
  rw [run_neq_struct,bEv 9998 x y w];rfl
 unfold execOp;simp only [ho,f.ev hx,f.ev hy];rw [Sem.run_bind,Sem.run_bind,hg,Result.andThen_ok,hb];rfl
end Go.Proofs.YtbgdphbebhjpiaaGreatDoor
namespace Go.Proofs.YtbgdphbebhjpiaaGreatDoor
open Go.RowKit
theorem named0:Tryz.prog.globalNamed "strings.asciiSpace" =some 1:=by kernel_rfl
theorem named7:Tryz.prog.globalNamed "internal/strconv.uint64pow10" =some 7:=by kernel_rfl
def iK:Fact where
 p S w:=(S 1∧S 7∧S 0∧S 4)∧Lib.TabIs Tryz.prog w "strings.asciiSpace" .u8 Lib.asciiSpaceTab∧Lib.TabIs Tryz.prog w "internal/strconv.uint64pow10" .u64 Lib.pow10Tab∧
  (∃m,w.cell? ⟨0,0,none⟩=some (.int .i64 m))∧ ∃ev,w.cell? ⟨4,0,none⟩=some ev∧(ev= .nilIface∨ ∃te pe,ev= .iface te pe)
 mono:=fun{S S' w w'} hs ha h=>by
  obtain⟨⟨s0,s7,s4,s3⟩,h0,h7,⟨m,h4⟩,ev,h3,he⟩:=h;refine⟨⟨hs _ s0,hs _ s7,hs _ s4,hs _ s3⟩,?_,?_,⟨m,?_⟩,ev,?_,he⟩
  ·unfold Lib.TabIs World.var? at*;rw [named0] at*;simp only [Option.bind_some,ha _ s0] at*;exact h0
  ·unfold Lib.TabIs World.var? at*;rw [named7] at*;simp only [Option.bind_some,ha _ s7] at*;exact h7
  ·unfold World.cell? at*;rw [ha _ s4];exact h4
  ·unfold World.cell? at*;rw [ha _ s3];exact h3
theorem xF{P:Program}{f:FuncId}{args:List Value}{Pre:List Fact}{v:Value}(h: ∀S w,All Pre S w→Calls P f args.toArray w fun e w'=>e= .returned v∧w'=w):
  dX P f args [] Pre (fun _:Unit=>v) (fun _=>[]) (fun _=>[]):=kS fun S w _ k=>(h S w k).mono fun e w' ⟨he,hw⟩=>⟨he,by rw [hw];exact Below.refl _ _⟩
theorem vG(s p:Bs):dX Tryz.prog 197 [.string (bs s),.string (bs p)] [] [] (fun _:Unit=> .bool (p.isPrefixOf s)) (fun _=>[]) (fun _=>[]):=
 xF fun _ w _=>Tryz.strings_HasPrefix (bs s) (bs p) w
theorem bGv(s:Bs)(b:UInt8):dX Tryz.prog 198 [.string (bs s),.int .u8 b.toNat] [] [] (fun _:Unit=> .int .i64 (Lib.indexByte s b)) (fun _=>[]) (fun _=>[]):=
 xF fun _ w _=>by
  have h:=Tryz.strings_IndexByte (bs s) (b.toNat:Int) w;have e:((b.toNat:Int).toNat).toUInt8=b:=by simp
  rw [e] at h;exact h
theorem qN(b:UInt8): ∀l:Bs,(decide ((0:Int)≤Lib.indexByte l b))=l.contains b∧(Lib.indexByte l b= -1∨0≤Lib.indexByte l b)
 | []=>by simp [Lib.indexByte]
 | c::l=>by
  obtain⟨h1,h2⟩:=qN b l;unfold Lib.indexByte
  by_cases h:(c==b)=true
  ·have:b=c:=(by simpa using h:c=b).symm;simp [this]
  ·have hne: ¬b=c:=fun e=>h (by simp [e]);simp only [h,Bool.false_eq_true,if_false]
   rcases h2 with h2 | h2
   ·rw [h2] at h1⊢;simp only [beq_self_eq_true,if_true];simp at h1;refine⟨?_,.inl trivial⟩;simp [hne,h1]
   ·have: ¬Lib.indexByte l b= -1:=by omega
    have hb:(Lib.indexByte l b== -1)=false:=by simp [this]
    rw [hb];simp only [Bool.false_eq_true,if_false];refine⟨?_,.inr (by omega)⟩;have h1':l.contains b=true:=by rw [←h1];simp [h2]
    have hm:b∈l:=by simpa using h1'
    simp [hm];omega
theorem decV_ge: ∀(ds:Bs) (acc:Nat),acc≤decV ds acc
 | [],_=>Nat.le_refl _
 | b::r,acc=>by
  have:=decV_ge r (10*acc+(b.toNat-48));simp only [decV];omega
theorem bAy: ∀(ds:Bs) (acc:Nat),(∀b∈ds,dH b=true)→acc≤18446744073709551615→Lib.parseUintM 18446744073709551615 acc ds=if decV ds acc≤18446744073709551615 then .ok (decV ds acc) else .range
 | [],acc,_,h=>by simp [Lib.parseUintM,decV,h]
 | b::r,acc,hd,h=>by
  have hb:=hd b (by simp);simp only [dH,Bool.and_eq_true,decide_eq_true_eq] at hb;have hge:=decV_ge r (10*acc+(b.toNat-48));unfold Lib.parseUintM decV;rw [if_pos hb];split
  ·rw [if_neg (by omega)]
  ·split
   ·rw [if_neg (by omega)]
   ·rw [bAy r _ (fun x hx=>hd x (by simp [hx])) (by omega),show acc*10+(b.toNat-48)=10*acc+(b.toNat-48) from by omega]
theorem bBd{neg:Bool}{ds:Bs}(hne:ds≠[])(hd: ∀b∈ds,dH b=true):Lib.parseIntB 64 ((if neg then [45] else [])++ds)=match rM neg ds with
  | some v=> .ok v
  | none=> .range:=by
 have hu:Lib.parseUintB 64 ds=if decV ds 0≤18446744073709551615 then .ok (decV ds 0) else .range:=by
  unfold Lib.parseUintB;rw [if_neg hne];exact bAy ds 0 hd (by omega)
 cases neg with
 | true=>
  simp only [if_true,List.singleton_append,Lib.parseIntB];have e:((45:UInt8).toNat=43∨(45:UInt8).toNat=45):=by decide
  have e2:(45:UInt8).toNat=45:=by decide
  rw [if_pos e,hu];unfold rM;simp only [if_true]
  by_cases h1:decV ds 0≤18446744073709551615
  ·rw [if_pos h1]
   by_cases h2:decV ds 0≤9223372036854775808
   ·simp [h2,e2]
   ·have h3:9223372036854775808<decV ds 0:=by omega
    simp [e2,h2,h3]
  ·rw [if_neg h1,if_neg (by omega)]
 | false=>
  cases ds with
  | nil=>exact absurd rfl hne
  | cons b r=>
   have hb:=hd b (by simp);simp only [dH,Bool.and_eq_true,decide_eq_true_eq] at hb;simp only [Bool.false_eq_true,if_false,List.nil_append,Lib.parseIntB];have e: ¬(b.toNat=43∨b.toNat=45):=by omega
   have e2: ¬b.toNat=45:=by omega
   rw [if_neg e,hu];unfold rM;simp only [Bool.false_eq_true,if_false]
   by_cases h1:decV (b::r) 0≤18446744073709551615
   ·rw [if_pos h1]
    by_cases h2:decV (b::r) 0≤9223372036854775807
    ·simp [h2,e2];omega
    ·simp [e2,h2];omega
   ·rw [if_neg h1,if_neg (by omega)]
def bCk (neg:Bool):Bs:=if neg then [45] else []
theorem bEk(neg:Bool)(ds:Bs)(hne:ds≠[])(hd: ∀b∈ds,dH b=true)(hl:ds.length≤140737488355328){v:Int}(hv:rM neg ds=some v):
  dX Tryz.prog 196 [.string (bs (bCk neg++ds)),.int .i64 10,.int .i64 64] [] [] (fun _:Unit=> .tuple #[.int .i64 v,.nilIface]) (fun _=>[]) (fun _=>[]):=
 kS fun _ w _ _=>by
  have hp:=bBd (neg:=neg) hne hd;rw [hv] at hp;refine(Tryz.strconv_ParseInt_10_at64_ok (bs (bCk neg++ds)) (by rw [kH];unfold bCk;cases neg<;>simp<;>omega) v hp w).mono ?_;rintro e w' ⟨rfl,h⟩;refine⟨rfl,?_⟩
  rcases h with rfl | ⟨t,rfl⟩
  ·exact Below.refl _ _
  ·exact Joins.below_bytesWorld _ _ _ _ (Nat.le_refl _)
theorem vT(neg:Bool)(ds:Bs)(hne:ds≠[])(hd: ∀b∈ds,dH b=true)(hl:ds.length≤140737488355328)(hv:rM neg ds=none):
  dX Tryz.prog 196 [.string (bs (bCk neg++ds)),.int .i64 10,.int .i64 64] [] [iK] (fun x:Int×Nat=> .tuple #[.int .i64 x.1,.iface 318 (.pointer (some ⟨x.2,0,none⟩))]) (fun _=>[]) (fun _=>[]):=fun S w s k=>by
 obtain⟨_,_,_,_,ev,h3,he⟩:=k _ (.head _);have hp:=bBd (neg:=neg) hne hd;rw [hv] at hp;refine(Tryz.strconv_ParseInt_10_at64_range (bs (bCk neg++ds)) (by rw [kH];unfold bCk;cases neg<;>simp<;>omega) hp ev w h3 he).mono ?_;rintro e w' ⟨N,rfl,_,_,hb⟩;exact⟨(_,N),S,rfl,⟨mX.of_below _ hb,fun c hc=>by simp at hc,fun c hc=>by simp at hc,List.Pairwise.nil,fun b hb'=>⟨Nat.lt_of_lt_of_le (s.zone b hb').1 hb.size,.inl hb'⟩⟩,fun g hg=>by simp at hg⟩
end Go.Proofs.YtbgdphbebhjpiaaGreatDoor
namespace Go.Proofs.YtbgdphbebhjpiaaGreatDoor
open Go.RowKit
theorem bHv{b k:UInt8}(h:(b.toNat:Int)=(k.toNat:Int)):b=k:=UInt8.toNat_inj.1 (by omega)
theorem bIz{b k:UInt8}(h:(b.toNat:Int)≠(k.toNat:Int)):b≠k:=fun e=>h (by rw [e])
theorem pre2(k b:UInt8)(r:Bs):[k,61].isPrefixOf (b::r)=(b==k&&r.head?==some 61):=by
 cases r with
 | nil=>simp [List.isPrefixOf]
 | cons c r=>
  show((k==b)&&(((61:UInt8)==c)&&true))=(b==k&&(c==61));rw [show(k==b)=(b==k) from BEq.comm,show((61:UInt8)==c)=(c==61) from BEq.comm,Bool.and_true]
section
variable {b : UInt8} {r : Bs}
theorem sign_a(h:([60,61]:Bs).isPrefixOf (b::r)=true):Value.int .i64 2=Value.int .i64 ((signP (b::r):Nat):Int):=by
 rw [pre2] at h;simp only [Bool.and_eq_true,beq_iff_eq] at h;simp [signP,h.1,h.2]
theorem sign_b(_:([60,61]:Bs).isPrefixOf (b::r)=false)(h:([62,61]:Bs).isPrefixOf (b::r)=true):Value.int .i64 2=Value.int .i64 ((signP (b::r):Nat):Int):=by
 rw [pre2] at h;simp only [Bool.and_eq_true,beq_iff_eq] at h;simp [signP,h.1,h.2]
theorem sign_no(h1:([60,61]:Bs).isPrefixOf (b::r)=false)(h2:([62,61]:Bs).isPrefixOf (b::r)=false):((b==60 || b==62)&&r.head?==some 61)=false:=by
 rw [pre2] at h1 h2;generalize (b==60)=x at*;generalize (b==62)=y at*;generalize (r.head?==some 61)=z at*;cases x<;>cases y<;>cases z<;>simp_all
theorem sign_c(h1:([60,61]:Bs).isPrefixOf (b::r)=false)(h2:([62,61]:Bs).isPrefixOf (b::r)=false)(h3:(0:Int)≤Lib.indexByte ([43,45,42,37,124,61,126,60,62,47,92,46,58,40,41]:Bs) b):Value.int .i64 1=Value.int .i64 ((signP (b::r):Nat):Int):=by
 have h4:=(qN b ([43,45,42,37,124,61,126,60,62,47,92,46,58,40,41]:Bs)).1;rw [decide_eq_true h3] at h4;have h5:signs.contains b=true:=h4.symm;simp only [signP,sign_no h1 h2,Bool.false_eq_true,if_false,h5,if_true];rfl
theorem sign_d(h1:([60,61]:Bs).isPrefixOf (b::r)=false)(h2:([62,61]:Bs).isPrefixOf (b::r)=false)(h3:Lib.indexByte ([43,45,42,37,124,61,126,60,62,47,92,46,58,40,41]:Bs) b<0):Value.int .i64 0=Value.int .i64 ((signP (b::r):Nat):Int):=by
 have h4:=(qN b ([43,45,42,37,124,61,126,60,62,47,92,46,58,40,41]:Bs)).1;rw [decide_eq_false (by omega)] at h4;have h5:signs.contains b=false:=h4.symm;simp only [signP,sign_no h1 h2,Bool.false_eq_true,if_false,h5];rfl
theorem bBi(p:UInt8→Bool): ∀s:Bs,∀b∈s.take (runB p s),p b=true
 | [],_,h=>by simp at h
 | c::s,b,h=>by
  unfold runB at h;split at h
  ·rename_i hc;rw [List.take_succ_cons,List.mem_cons] at h
   rcases h with rfl | h
   ·exact hc
   ·exact bBi p s b h
  ·simp at h
theorem bFc{s:Bs}{k:Nat}(h:((k:Nat):Int)≠0)(hk:k≤s.length):s.take k≠[]:=fun e=>by
 have:(s.take k).length=0:=by rw [e];rfl
 rw [List.length_take] at this;omega
def numV:Except Int (Option TokR)→Value
 | .error e=> .tuple #[.int .i64 0,.int .i64 0,.int .i64 e]
 | .ok none=> .tuple #[.int .i64 0,.int .i64 0,.int .i64 0]
 | .ok (some t)=> .tuple #[.int .i64 t.2.2.1,.int .i64 (t.2.2.2:Nat),.int .i64 0]
theorem num_m0(hb:b=95):gU b r=if runB dH r=0 then .ok none else match rM true (r.take (runB dH r)) with
  | none=> .error 32
  | some v=> .ok (some (2,[],v,runB dH r+1)):=by
 subst hb;rfl
theorem num_p0(hb:b≠95):gU b r=if runB dH (b::r)=0 then .ok none else match rM false ((b::r).take (runB dH (b::r))) with
  | none=> .error 32
  | some v=> .ok (some (2,[],v,runB dH (b::r)+0)):=by
 have:(b==95)=false:=by simp [hb]
 unfold gU;rw [this];rfl
theorem cast0{n:Nat}(h:((n:Nat):Int)=0):n=0:=by omega
theorem castn{n:Nat}(h:((n:Nat):Int)≠0):n≠0:=by omega
theorem num_mz(hb:b=95)(hk:((runB dH ((b::r).drop 1):Nat):Int)=0):Value.tuple #[.int .i64 0,.int .i64 0,.int .i64 0]=numV (gU b r):=by
 have hk:runB dH r=0:=cast0 hk;rw [num_m0 hb,if_pos hk];rfl
theorem num_me(hb:b=95)(hk:((runB dH ((b::r).drop 1):Nat):Int)≠0)(hv:rM true (((b::r).drop 1).take (runB dH ((b::r).drop 1)))=none):Value.tuple #[.int .i64 0,.int .i64 0,.int .i64 32]=numV (gU b r):=by
 have hk: ¬runB dH r=0:=castn hk;have hv:rM true (r.take (runB dH r))=none:=hv;rw [num_m0 hb,if_neg hk,hv];rfl
theorem num_mo{v:Int}(hb:b=95)(hk:((runB dH ((b::r).drop 1):Nat):Int)≠0)(hv:rM true (((b::r).drop 1).take (runB dH ((b::r).drop 1)))=some v):
  Value.tuple #[.int .i64 v,.int .i64 (((runB dH ((b::r).drop 1))+([45]:Bs).length:Nat):Int),.int .i64 0]=numV (gU b r):=by
 have hk: ¬runB dH r=0:=castn hk;have hv:rM true (r.take (runB dH r))=some v:=hv;rw [num_m0 hb,if_neg hk,hv];rfl
theorem num_pz(hb:b≠95)(hk:((runB dH (b::r):Nat):Int)=0):Value.tuple #[.int .i64 0,.int .i64 0,.int .i64 0]=numV (gU b r):=by
 rw [num_p0 hb,if_pos (cast0 hk)];rfl
theorem num_pe(hb:b≠95)(hk:((runB dH (b::r):Nat):Int)≠0)(hv:rM false ((b::r).take (runB dH (b::r)))=none):Value.tuple #[.int .i64 0,.int .i64 0,.int .i64 32]=numV (gU b r):=by
 rw [num_p0 hb,if_neg (castn hk),hv];rfl
theorem num_po{v:Int}(hb:b≠95)(hk:((runB dH (b::r):Nat):Int)≠0)(hv:rM false ((b::r).take (runB dH (b::r)))=some v):
  Value.tuple #[.int .i64 v,.int .i64 (((runB dH (b::r))+([]:Bs).length:Nat):Int),.int .i64 0]=numV (gU b r):=by
 rw [num_p0 hb,if_neg (castn hk),hv];rfl
theorem bIg{e:Int}(h:gU b r= .error e):e=32:=by
 unfold gU at h
 by_cases hb:(b==95)=true
 ·simp only [hb,if_true] at h;split at h
  ·cases h
  ·split at h
   ·cases h;rfl
   ·cases h
 ·simp only [hb,Bool.false_eq_true,if_false] at h;split at h
  ·cases h
  ·split at h
   ·cases h;rfl
   ·cases h
def vI:Except Int TokR→Value
 | .error e=> .tuple #[.agg #[.int .i64 (if e=32 then 2 else 0),.int .i64 0,.string (bs []),.int .i64 0],.int .i64 0,.int .i64 e]
 | .ok t=> .tuple #[.agg #[.int .i64 t.1,.int .i64 0,.string (bs t.2.1),.int .i64 t.2.2.1],.int .i64 (t.2.2.2:Nat),.int .i64 0]
section
variable (h1 : b ≠ 10) (h2 : lI b = false)
theorem uB(h:b=10):Value.tuple #[.agg #[.int .i64 4,.int .i64 0,.string (bs []),.int .i64 0],.int .i64 1,.int .i64 0]=vI (fL (b::r)):=by
 subst h;rfl
include h1
theorem tK(h2:lI b=true)(h3:((runB jQ (b::r):Nat):Int)≤16):Value.tuple #[.agg #[.int .i64 1,.int .i64 0,.string (bs ((b::r).take (runB jQ (b::r)))),.int .i64 0],.int .i64 (runB jQ (b::r):Nat),.int .i64 0]=vI (fL (b::r)):=by
 have e:fL (b::r)= .ok (1,(b::r).take (runB jQ (b::r)),0,runB jQ (b::r)):=by
  simp only [fL,beq_iff_eq,h1,if_false,h2,if_true];rw [if_neg (by omega)]
 rw [e];rfl
theorem uJ(h2:lI b=true)(h3:(16:Int)<((runB jQ (b::r):Nat):Int)):Value.tuple #[.agg #[.int .i64 0,.int .i64 0,.string (bs []),.int .i64 0],.int .i64 0,.int .i64 33]=vI (fL (b::r)):=by
 have e:fL (b::r)= .error 33:=by
  simp only [fL,beq_iff_eq,h1,if_false,h2,if_true];rw [if_pos (by omega)]
 rw [e];rfl
include h2
theorem tY{e:Int}(h:gU b r= .error e)(he:e=32):Value.tuple #[.agg #[.int .i64 2,.int .i64 0,.string (bs []),.int .i64 0],.int .i64 0,.int .i64 e]=vI (fL (b::r)):=by
 have q:fL (b::r)= .error e:=by
  simp only [fL,beq_iff_eq,h1,if_false,h2,Bool.false_eq_true,h]
 rw [q,he];rfl
theorem tJ{kk v:Int}{ww:Bs}{m:Nat}(h:gU b r= .ok (some (kk,ww,v,m))):Value.tuple #[.agg #[.int .i64 2,.int .i64 0,.string (bs []),.int .i64 v],.int .i64 (m:Nat),.int .i64 0]=vI (fL (b::r)):=by
 have q:fL (b::r)= .ok (kk,ww,v,m):=by
  simp only [fL,beq_iff_eq,h1,if_false,h2,Bool.false_eq_true,h]
 have hk:kk=2∧ww=[]:=by
  unfold gU at h
  by_cases hb:(b==95)=true
  ·simp only [hb,if_true] at h;split at h
   ·cases h
   ·split at h
    ·cases h
    ·cases h;exact⟨rfl,rfl⟩
  ·simp only [hb,Bool.false_eq_true,if_false] at h;split at h
   ·cases h
   ·split at h
    ·cases h
    ·cases h;exact⟨rfl,rfl⟩
 rw [q,hk.1,hk.2];rfl
theorem tH(h:gU b r= .ok none)(h3:((signP (b::r):Nat):Int)=0):Value.tuple #[.agg #[.int .i64 0,.int .i64 0,.string (bs []),.int .i64 0],.int .i64 0,.int .i64 31]=vI (fL (b::r)):=by
 have e:fL (b::r)= .error 31:=by
  simp only [fL,beq_iff_eq,h1,if_false,h2,Bool.false_eq_true,h];rw [if_pos (cast0 h3)]
 rw [e];rfl
theorem tM(h:gU b r= .ok none)(h3:((signP (b::r):Nat):Int)≠0):Value.tuple #[.agg #[.int .i64 3,.int .i64 0,.string (bs ((b::r).take (signP (b::r)))),.int .i64 0],.int .i64 (signP (b::r):Nat),.int .i64 0]=vI (fL (b::r)):=by
 have e:fL (b::r)= .ok (3,(b::r).take (signP (b::r)),0,signP (b::r)):=by
  simp only [fL,beq_iff_eq,h1,if_false,h2,Bool.false_eq_true,h];rw [if_neg (castn h3)]
 rw [e];rfl
end
end
set_option maxRecDepth 100000 in
theorem sign_spec(b:UInt8)(r:Bs):dX Tryz.prog 133 [.string (bs (b::r))] [] [] (fun(_:Unit)=> .int .i64 (signP (b::r):Nat)) (fun _=>[]) (fun _=>[]):=by
 have hT:=fR;refine cW Tryz.func133 rfl Tryz.ntmps133 rfl ?_;intro β hM;refine sr<|sp hT ?_;refine nn<|bA<|bX<|sr<|sp hT ?_;refine bR Tryz.func197 (vG _ ([60,61]:Bs)) rfl rfl .nil trivial fun _=>?_;refine sp hT ?_;refine cF (fun hg6=>?_) (fun hg6=>?_)
 ·refine sk2 ?_;refine sp2 hT ?_;refine nn<|cI rfl rfl ?_;refine sr<|sp hT ?_;refine nn<|bF<|bH<|bB ?_;exact bV () rfl (bG rfl) .nil trivial (by first | exact sign_a hg6 | exact sign_b hg6 hc3 | exact sign_c hg6 hc3 hc10 | exact sign_d hg6 hc3 hc10)
 refine sp hT ?_;refine bR Tryz.func197 (vG _ ([62,61]:Bs)) rfl rfl .nil trivial fun _=>?_;refine sp2 hT ?_;refine nn<|bL rfl (fun hc3=>?_) (fun hc3=>?_)
 ·refine sr<|sp hT ?_;refine nn<|bF<|bH<|bB ?_;exact bV () rfl (bG rfl) .nil trivial (by first | exact sign_a hg6 | exact sign_b hg6 hc3 | exact sign_c hg6 hc3 hc10 | exact sign_d hg6 hc3 hc10)
 refine sr<|sp hT ?_;refine ss (oP hT (k:=0) rfl rfl rfl rfl rfl rfl) ?_;refine bR Tryz.func198 (bGv ([43,45,42,37,124,61,126,60,62,47,92,46,58,40,41]:Bs) b) rfl rfl .nil trivial fun _=>?_;refine sp2 hT ?_;refine nn<|bL rfl (fun hc10=>?_) (fun hc10=>?_)
 ·have hc10:=of_decide_eq_true hc10;refine sr<|sp hT ?_;refine nn<|bF<|bH<|bB ?_;exact bV () rfl (bG rfl) .nil trivial (by first | exact sign_a hg6 | exact sign_b hg6 hc3 | exact sign_c hg6 hc3 hc10 | exact sign_d hg6 hc3 hc10)
 have hc10:=Int.not_le.1 (of_decide_eq_false hc10);refine bN<|cD<|bC<|sr<|sp hT ?_;refine nn<|bF ?_;exact bV () rfl (bG rfl) .nil trivial (by first | exact sign_a hg6 | exact sign_b hg6 hc3 | exact sign_c hg6 hc3 hc10 | exact sign_d hg6 hc3 hc10)
set_option maxRecDepth 100000 in
theorem uZ(b:UInt8)(r:Bs)(hl:(b::r).length≤65536):dX Tryz.prog 132 [.string (bs (b::r))] [] [iK] (fun(_:Unit)=>numV (gU b r)) (fun _=>[]) (fun _=>[]):=by
 have hT:=fR;refine cW Tryz.func132 rfl Tryz.ntmps132 rfl ?_;intro β hM;refine sr<|sp3 hT ?_;refine nn<|sr<|sp3 hT ?_;refine nn<|bA<|sr<|sp hT ?_;refine ss (oP hT (k:=0) rfl rfl rfl rfl rfl rfl) ?_;refine sp hT ?_;refine nn<|bL rfl (fun hc13=>?_) (fun hc13=>?_)
 ·have hc13:b=95:=bHv (k:=95) (eq_of_beq hc13);refine bD<|sp hT ?_;refine ss (bMr hT (k:=1) rfl rfl rfl rfl rfl (by simp)) ?_;refine sp2 hT ?_;refine nn<|sr<|sp hT ?_;refine bR Tryz.func70 (bBc ((b::r).drop 1) (by simp at*;omega) _ dH (cR Tryz.func131 rfl rfl) xU) rfl rfl .nil trivial fun _=>?_;refine sp hT ?_;refine nn<|bA<|bA ?_;have hrl:runB dH ((b::r).drop 1)≤65536:=Nat.le_trans (jC _ _) (by simp at*;omega);refine bD<|sp2 hT ?_;refine nn<|bL rfl (fun hc19=>?_) (fun hc19=>?_)
  ·have hc19:=eq_of_beq hc19;refine sr<|sp3 hT ?_;refine nn<|bF<|bB ?_;exact hO () rfl (bG rfl) (bG rfl) (bG rfl) .nil trivial (num_mz hc13 hc19)
  have hc19:=beq_eq_false_iff_ne.1 hc19;have hrl':=jC dH ((b::r).drop 1);refine bN<|bC<|bA ?_
  rcases hv:rM true (((b::r).drop 1).take (runB dH ((b::r).drop 1))) with _ | v
  ·have num_ne:(((b::r).drop 1).take (runB dH ((b::r).drop 1)))≠[]:=bFc hc19 hrl';refine bD<|sp3 hT ?_;refine ss (wQ hT (k:=(runB dH ((b::r).drop 1))) rfl rfl rfl rfl rfl (jC _ _)) ?_;refine ss (gI rfl rfl rfl (by simp at*;omega)) ?_;refine bR Tryz.func196 (vT true (((b::r).drop 1).take (runB dH ((b::r).drop 1))) num_ne (bBi _ _) (by simp at*;omega) hv) rfl rfl .nil ⟨Has.of mT0,trivial⟩ fun⟨z1,N2⟩=>?_;refine sp4 hT ?_;refine sp hT ?_;refine nn<|bA<|sr<|sp hT ?_;refine ss (sti_err Tryz.underlying253 rfl rfl) ?_;refine nn<|cI rfl rfl ?_;refine sr<|sp3 hT ?_;refine nn<|bF<|bB ?_;exact hO () rfl (bG rfl) (bG rfl) (bG rfl) .nil trivial (num_me hc13 hc19 hv)
  have num_ne:(((b::r).drop 1).take (runB dH ((b::r).drop 1)))≠[]:=bFc hc19 hrl';refine bD<|sp3 hT ?_;refine ss (wQ hT (k:=(runB dH ((b::r).drop 1))) rfl rfl rfl rfl rfl (jC _ _)) ?_;refine ss (gI rfl rfl rfl (by simp at*;omega)) ?_;refine bR Tryz.func196 (bEk true (((b::r).drop 1).take (runB dH ((b::r).drop 1))) num_ne (bBi _ _) (by simp at*;omega) hv) rfl rfl .nil trivial fun _=>?_;refine sp4 hT ?_;refine sp hT ?_;refine nn<|bA<|sr<|sp hT ?_;refine ss (bLn Tryz.underlying253 rfl rfl) ?_;refine nn<|cG rfl rfl ?_;refine bN<|bC<|bA ?_;have hq1:([45]:Bs).length=1:=rfl;have hq0:([]:Bs).length=0:=rfl;refine bD<|sp4 hT ?_;refine bT (z':=((([45]:Bs).length:Nat):Int)) rfl ?_;refine sp hT ?_;refine bT (z':=((((runB dH ((b::r).drop 1))+([45]:Bs).length):Nat):Int)) (cP (by omega) (by omega)) ?_;refine sp3 hT ?_;refine nn<|bF ?_;exact hO () rfl (bG rfl) (bG rfl) (bG rfl) .nil trivial (num_mo hc13 hc19 hv)
 have hc13:b≠95:=bIz (k:=95) (beq_eq_false_iff_ne.1 hc13);refine bN<|bC<|sr<|sp hT ?_;refine bR Tryz.func70 (bBc (b::r) (by simp at*;omega) _ dH (cR Tryz.func131 rfl rfl) xU) rfl rfl .nil trivial fun _=>?_;refine sp hT ?_;refine nn<|bA<|bA ?_;have hrl:runB dH (b::r)≤65536:=Nat.le_trans (jC _ _) (by simp at*;omega);refine bD<|sp2 hT ?_;refine nn<|bL rfl (fun hc19=>?_) (fun hc19=>?_)
 ·have hc19:=eq_of_beq hc19;refine sr<|sp3 hT ?_;refine nn<|bF<|bB ?_;exact hO () rfl (bG rfl) (bG rfl) (bG rfl) .nil trivial (num_pz hc13 hc19)
 have hc19:=beq_eq_false_iff_ne.1 hc19;have hrl':=jC dH (b::r);refine bN<|bC<|bA ?_
 rcases hv:rM false ((b::r).take (runB dH (b::r))) with _ | v
 ·have num_ne:((b::r).take (runB dH (b::r)))≠[]:=bFc hc19 hrl';refine bD<|sp3 hT ?_;refine ss (wQ hT (k:=(runB dH (b::r))) rfl rfl rfl rfl rfl (jC _ _)) ?_;refine ss (gI rfl rfl rfl (by simp at*;omega)) ?_;refine bR Tryz.func196 (vT false ((b::r).take (runB dH (b::r))) num_ne (bBi _ _) (by simp at*;omega) hv) rfl rfl .nil ⟨Has.of mT0,trivial⟩ fun⟨z3,N4⟩=>?_;refine sp4 hT ?_;refine sp hT ?_;refine nn<|bA<|sr<|sp hT ?_;refine ss (sti_err Tryz.underlying253 rfl rfl) ?_;refine nn<|cI rfl rfl ?_;refine sr<|sp3 hT ?_;refine nn<|bF<|bB ?_;exact hO () rfl (bG rfl) (bG rfl) (bG rfl) .nil trivial (num_pe hc13 hc19 hv)
 have num_ne:((b::r).take (runB dH (b::r)))≠[]:=bFc hc19 hrl';refine bD<|sp3 hT ?_;refine ss (wQ hT (k:=(runB dH (b::r))) rfl rfl rfl rfl rfl (jC _ _)) ?_;refine ss (gI rfl rfl rfl (by simp at*;omega)) ?_;refine bR Tryz.func196 (bEk false ((b::r).take (runB dH (b::r))) num_ne (bBi _ _) (by simp at*;omega) hv) rfl rfl .nil trivial fun _=>?_;refine sp4 hT ?_;refine sp hT ?_;refine nn<|bA<|sr<|sp hT ?_;refine ss (bLn Tryz.underlying253 rfl rfl) ?_;refine nn<|cG rfl rfl ?_;refine bN<|bC<|bA ?_;have hq1:([45]:Bs).length=1:=rfl;have hq0:([]:Bs).length=0:=rfl;refine bD<|sp4 hT ?_;refine bT (z':=((([]:Bs).length:Nat):Int)) rfl ?_;refine sp hT ?_;refine bT (z':=((((runB dH (b::r))+([]:Bs).length):Nat):Int)) (cP (by omega) (by omega)) ?_;refine sp3 hT ?_;refine nn<|bF ?_;exact hO () rfl (bG rfl) (bG rfl) (bG rfl) .nil trivial (num_po hc13 hc19 hv)
end Go.Proofs.YtbgdphbebhjpiaaGreatDoor
namespace Go.Proofs.YtbgdphbebhjpiaaGreatDoor
open Go.RowKit
theorem number_err{e:Int}(b:UInt8)(r:Bs)(hl:(b::r).length≤65536)(h:gU b r= .error e):dX Tryz.prog 132 [.string (bs (b::r))] [] [iK] (fun _:Unit=> .tuple #[.int .i64 0,.int .i64 0,.int .i64 e]) (fun _=>[]) (fun _=>[]):=by
 have:=uZ b r hl;rw [h] at this;exact this
theorem number_none(b:UInt8)(r:Bs)(hl:(b::r).length≤65536)(h:gU b r= .ok none):dX Tryz.prog 132 [.string (bs (b::r))] [] [iK] (fun _:Unit=> .tuple #[.int .i64 0,.int .i64 0,.int .i64 0]) (fun _=>[]) (fun _=>[]):=by
 have:=uZ b r hl;rw [h] at this;exact this
theorem number_some{kk v:Int}{ww:Bs}{m:Nat}(b:UInt8)(r:Bs)(hl:(b::r).length≤65536)(h:gU b r= .ok (some (kk,ww,v,m))):dX Tryz.prog 132 [.string (bs (b::r))] [] [iK] (fun _:Unit=> .tuple #[.int .i64 v,.int .i64 (m:Nat),.int .i64 0]) (fun _=>[]) (fun _=>[]):=by
 have:=uZ b r hl;rw [h] at this;exact this
theorem vC:(Tryz.prog.info? 104).bind (·.zero)=some (.agg #[.int .i64 0,.int .i64 0,.string (bs []),.int .i64 0]):=by kernel_rfl
theorem sQ(z0:Int):Tryz.prog.built 104 [(0,.int .i64 z0)]=some #[.int .i64 z0,.int .i64 0,.string (bs []),.int .i64 0]:=by kernel_rfl
theorem nS:Tryz.prog.built 104 []=some #[.int .i64 0,.int .i64 0,.string (bs []),.int .i64 0]:=by kernel_rfl
theorem mV(z0:Int)(s2:ByteArray):Tryz.prog.built 104 [(0,.int .i64 z0),(2,.string s2)]=some #[.int .i64 z0,.int .i64 0,.string s2,.int .i64 0]:=by kernel_rfl
theorem mR(z0:Int)(z3:Int):Tryz.prog.built 104 [(0,.int .i64 z0),(3,.int .i64 z3)]=some #[.int .i64 z0,.int .i64 0,.string (bs []),.int .i64 z3]:=by kernel_rfl
set_option maxRecDepth 100000 in
theorem bGk(b:UInt8)(r:Bs)(hl:(b::r).length≤65536):dX Tryz.prog 72 [.string (bs (b::r))] [] [iK] (fun(_:Unit)=>vI (fL (b::r))) (fun _=>[]) (fun _=>[]):=by
 have hT:=fR;refine cW Tryz.func72 rfl Tryz.ntmps72 rfl ?_;intro β hM;refine sr<|bY rfl rfl rfl rfl vC rfl fun b1=>?_;refine sp2 hT ?_;refine nn<|bA<|sr<|sp hT ?_;refine ss (oP hT (k:=0) rfl rfl rfl rfl rfl rfl) ?_;refine sp hT ?_;refine nn<|bL rfl (fun hc11=>?_) (fun hc11=>?_)
 ·have hc11:b=10:=bHv (k:=10) (eq_of_beq hc11);refine sr<|ss (cC rfl rfl (sQ _)) ?_;refine sto hT .head ?_;refine sp2 hT ?_;refine nn<|bF<|bB ?_;exact hO () rfl (bM hT (bJ .head) rfl rfl rfl rfl) (bG rfl) (bG rfl) .nil trivial (by first | exact uB hc11 | exact uJ hc11 hc15 hc19 | exact tK hc11 hc15 hc19 | exact tY hc11 hc15 hnt he | exact tJ hc11 hc15 hnt | exact tH hc11 hc15 hnt hc45 | exact tM hc11 hc15 hnt hc45)
 have hc11:b≠10:=bIz (k:=10) (beq_eq_false_iff_ne.1 hc11);refine bN<|bC<|bA<|sr<|sp hT ?_;refine ss (oP hT (k:=0) rfl rfl rfl rfl rfl rfl) ?_;refine bR Tryz.func129 (bEl _) rfl rfl .nil trivial fun _=>?_;refine nn<|bL rfl (fun hc15=>?_) (fun hc15=>?_)
 ·refine sr<|sp hT ?_;refine bR Tryz.func70 (bBc (b::r) (by omega) _ jQ (cR Tryz.func130 rfl rfl) word_spec) rfl rfl .nil trivial fun _=>?_;refine sp hT ?_;refine nn<|bA<|sr<|sp2 hT ?_;refine nn<|bL rfl (fun hc19=>?_) (fun hc19=>?_)
  ·have hc19:=of_decide_eq_true hc19;refine sr<|ss (cC rfl rfl (nS)) ?_;refine sto hT .head ?_;refine sp2 hT ?_;refine nn<|bF<|bB<|bB ?_;exact hO () rfl (bM hT (bJ .head) rfl rfl rfl rfl) (bG rfl) (bG rfl) .nil trivial (by first | exact uB hc11 | exact uJ hc11 hc15 hc19 | exact tK hc11 hc15 hc19 | exact tY hc11 hc15 hnt he | exact tJ hc11 hc15 hnt | exact tH hc11 hc15 hnt hc45 | exact tM hc11 hc15 hnt hc45)
  have hc19:=Int.not_lt.1 (of_decide_eq_false hc19);refine bN<|bC<|sr<|sp2 hT ?_;refine ss (wQ hT (k:=(runB jQ (b::r))) rfl rfl rfl rfl rfl (jC _ _)) ?_;refine ss (cC rfl rfl (mV _ _)) ?_;refine sp hT ?_;refine sto hT .head ?_;refine sp2 hT ?_;refine nn<|bF<|bB ?_;exact hO () rfl (bM hT (bJ .head) rfl rfl rfl rfl) (bG rfl) (bG rfl) .nil trivial (by first | exact uB hc11 | exact uJ hc11 hc15 hc19 | exact tK hc11 hc15 hc19 | exact tY hc11 hc15 hnt he | exact tJ hc11 hc15 hnt | exact tH hc11 hc15 hnt hc45 | exact tM hc11 hc15 hnt hc45)
 refine bN<|bC<|bA ?_
 rcases hnt:gU b r with e | _ | ⟨kk,ww,v,m⟩
 ·have he:=bIg hnt;refine bD<|sp hT ?_;refine bR Tryz.func132 (number_err b r hl hnt) rfl rfl .nil ⟨Has.of mT0,trivial⟩ fun _=>?_;refine sp4 hT ?_;refine sp3 hT ?_;refine nn<|bA<|sr<|sp2 hT ?_;refine bZ (t':=false) (by decide) ?_;refine sp4 hT ?_;refine nn<|bL rfl (fun hc37=>?_) (fun hc37=>?_)
  ·have hc37:=bne_iff_ne.1 hc37;refine sr<|sp hT ?_;refine ss (cC rfl rfl (mR _ _)) ?_;refine sp2 hT ?_;refine sto hT .head ?_;refine sp2 hT ?_;refine nn<|bF<|bB ?_;exact hO () rfl (bM hT (bJ .head) rfl rfl rfl rfl) (bG rfl) (bG rfl) .nil trivial (by first | exact uB hc11 | exact uJ hc11 hc15 hc19 | exact tK hc11 hc15 hc19 | exact tY hc11 hc15 hnt he | exact tJ hc11 hc15 hnt | exact tH hc11 hc15 hnt hc45 | exact tM hc11 hc15 hnt hc45)
  have hc37:=bne_eq_false_iff_eq.1 hc37;omega
 ·skip
  refine bD<|sp hT ?_;refine bR Tryz.func132 (number_none b r hl hnt) rfl rfl .nil ⟨Has.of mT0,trivial⟩ fun _=>?_;refine sp4 hT ?_;refine sp3 hT ?_;refine nn<|bA<|sr<|sp2 hT ?_;refine bZ (t':=false) (by decide) ?_;refine sp3 hT ?_;refine bZ (t':=false) (by decide) ?_;refine sp hT ?_;refine nn<|cG rfl rfl ?_;refine bN<|bC<|bA<|sr<|sp hT ?_;refine bR Tryz.func133 (sign_spec b r) rfl rfl .nil trivial fun _=>?_;refine sp hT ?_;refine nn<|sr<|sp2 hT ?_;refine nn<|bL rfl (fun hc45=>?_) (fun hc45=>?_)
  ·have hc45:=eq_of_beq hc45;refine sr<|ss (cC rfl rfl (nS)) ?_;refine sto hT .head ?_;refine sp2 hT ?_;refine nn<|bF<|bB ?_;exact hO () rfl (bM hT (bJ .head) rfl rfl rfl rfl) (bG rfl) (bG rfl) .nil trivial (by first | exact uB hc11 | exact uJ hc11 hc15 hc19 | exact tK hc11 hc15 hc19 | exact tY hc11 hc15 hnt he | exact tJ hc11 hc15 hnt | exact tH hc11 hc15 hnt hc45 | exact tM hc11 hc15 hnt hc45)
  have hc45:=beq_eq_false_iff_ne.1 hc45;refine bN<|bC<|sr<|sp2 hT ?_;refine ss (wQ hT (k:=(signP (b::r))) rfl rfl rfl rfl rfl (signP_le _)) ?_;refine ss (cC rfl rfl (mV _ _)) ?_;refine sp hT ?_;refine sto hT .head ?_;refine sp2 hT ?_;refine nn<|bF ?_;exact hO () rfl (bM hT (bJ .head) rfl rfl rfl rfl) (bG rfl) (bG rfl) .nil trivial (by first | exact uB hc11 | exact uJ hc11 hc15 hc19 | exact tK hc11 hc15 hc19 | exact tY hc11 hc15 hnt he | exact tJ hc11 hc15 hnt | exact tH hc11 hc15 hnt hc45 | exact tM hc11 hc15 hnt hc45)
 have hm:=bIt hnt;dsimp only at hm;refine bD<|sp hT ?_;refine bR Tryz.func132 (number_some b r hl hnt) rfl rfl .nil ⟨Has.of mT0,trivial⟩ fun _=>?_;refine sp4 hT ?_;refine sp3 hT ?_;refine nn<|bA<|sr<|sp3 hT ?_;refine cF (fun hg34=>?_) (fun hg34=>?_)
 ·have hg34:=of_decide_eq_true hg34;refine sk2 ?_;refine sp hT ?_;refine nn<|cI rfl rfl ?_;refine sr<|sp hT ?_;refine ss (cC rfl rfl (mR _ _)) ?_;refine sp2 hT ?_;refine sto hT .head ?_;refine sp2 hT ?_;refine nn<|bF<|bB ?_;exact hO () rfl (bM hT (bJ .head) rfl rfl rfl rfl) (bG rfl) (bG rfl) .nil trivial (by first | exact uB hc11 | exact uJ hc11 hc15 hc19 | exact tK hc11 hc15 hc19 | exact tY hc11 hc15 hnt he | exact tJ hc11 hc15 hnt | exact tH hc11 hc15 hnt hc45 | exact tM hc11 hc15 hnt hc45)
 have hg34:=Int.not_lt.1 (of_decide_eq_false hg34);omega
theorem token_err{e:Int}(b:UInt8)(r:Bs)(hl:(b::r).length≤65536)(h:fL (b::r)= .error e):dX Tryz.prog 72 [.string (bs (b::r))] [] [iK] (fun _:Unit=> .tuple #[.agg #[.int .i64 (if e=32 then 2 else 0),.int .i64 0,.string (bs []),.int .i64 0],.int .i64 0,.int .i64 e]) (fun _=>[]) (fun _=>[]):=by
 have:=bGk b r hl;rw [h] at this;exact this
theorem token_ok{k v:Int}{wd:Bs}{m:Nat}(b:UInt8)(r:Bs)(hl:(b::r).length≤65536)(h:fL (b::r)= .ok (k,wd,v,m)):dX Tryz.prog 72 [.string (bs (b::r))] [] [iK] (fun _:Unit=> .tuple #[.agg #[.int .i64 k,.int .i64 0,.string (bs wd),.int .i64 v],.int .i64 (m:Nat),.int .i64 0]) (fun _=>[]) (fun _=>[]):=by
 have:=bGk b r hl;rw [h] at this;exact this
end Go.Proofs.YtbgdphbebhjpiaaGreatDoor
namespace Go.Proofs.YtbgdphbebhjpiaaGreatDoor
open Go.RowKit
section
variable {text : Bs} {i : Nat} {b : UInt8} {r : Bs} {out : List TokV}
theorem lex_start(h:text.length≤65536):lexGo (text.drop 0).length 0 (text.drop 0) []=lexP text:=by
 unfold lexP;rw [if_neg (by omega)];rfl
theorem lex_long(h:(65536:Int)<((text.length:Nat):Int)):lexP text=([],(0,30)):=by
 unfold lexP;rw [if_pos (by omega)]
theorem lex_end(h:text.length≤i)(hi:lexGo (text.drop i).length i (text.drop i) out=lexP text):lexP text=(out,(0,0)):=by
 rw [List.drop_of_length_le h] at hi;rw [←hi];rfl
variable (hbr : text.drop i = b :: r) (hi : lexGo (text.drop i).length i (text.drop i) out = lexP text)
include hbr hi
theorem bMx(hb:iQ b=true):lexGo (text.drop (i+1)).length (i+1) (text.drop (i+1)) out=lexP text:=by
 have e:text.drop (i+1)=r:=by rw [←List.drop_drop,hbr];rfl
 rw [hbr,gY,if_pos hb] at hi;rw [e];exact hi
theorem lex_note(hb:iQ b=false)(hn:(b==35)=true):lexGo (text.drop (i+runB (· !=10) (b::r))).length (i+runB (· !=10) (b::r)) (text.drop (i+runB (· !=10) (b::r))) out=lexP text:=by
 have e:text.drop (i+runB (· !=10) (b::r))=(b::r).drop (runB (· !=10) (b::r)):=by rw [←List.drop_drop,hbr]
 rw [hbr,gY,hb,if_neg (by simp),if_pos hn] at hi;rw [e];exact hi
theorem lex_tok{k v:Int}{wd:Bs}{m:Nat}(hb:iQ b=false)(hn:(b==35)=false)(ht:fL (b::r)= .ok (k,wd,v,m)):lexGo (text.drop (i+m)).length (i+m) (text.drop (i+m)) (out++[⟨k,i,wd,v⟩])=lexP text:=by
 have e:text.drop (i+m)=(b::r).drop m:=by rw [←List.drop_drop,hbr]
 rw [hbr,gY,hb,if_neg (by simp),hn,if_neg (by simp),ht] at hi;rw [e];exact hi
theorem lex_err{e:Int}(hb:iQ b=false)(hn:(b==35)=false)(ht:fL (b::r)= .error e):lexP text=([],((i:Int),e)):=by
 rw [hbr,gY,hb,if_neg (by simp),hn,if_neg (by simp),ht] at hi;exact hi.symm
end
theorem vF{s:Bs}{e:Int}(h:fL s= .error e):e≠0:=by
 cases s with
 | nil=>cases h;decide
 | cons b r=>
  simp only [fL] at h;split at h
  ·cases h
  ·split at h
   ·split at h
    ·cases h;decide
    ·cases h
   ·split at h
    ·rename_i e' he;cases h;rw [bIg he];decide
    ·cases h
    ·split at h
     ·cases h;decide
     ·cases h
theorem dM{α:Type}{E:Flat α}{F:List Fact}:Has F (E.sl (.slice none 0 0) []):=fun _ _ _=>⟨none,0,rfl,fun k x hk=>by simp at hk⟩
theorem xY:(Tryz.prog.info? 36).bind (·.zero)=some (.agg #[.int .i64 0,.int .i64 0]):=by kernel_rfl
theorem uV(z1:Int):Tryz.prog.built 36 [(1,.int .i64 z1)]=some #[.int .i64 0,.int .i64 z1]:=by kernel_rfl
theorem tI(z0:Int)(z1:Int):Tryz.prog.built 36 [(0,.int .i64 z0),(1,.int .i64 z1)]=some #[.int .i64 z0,.int .i64 z1]:=by kernel_rfl
theorem vZ:Tryz.prog.built 36 []=some #[.int .i64 0,.int .i64 0]:=by kernel_rfl
set_option maxRecDepth 100000 in
theorem bIn(text:Bs)(hs:text.length≤140737488355328):dX Tryz.prog 37 [.string (bs text)] [] [iK] (fun(x:Option Addr×Nat)=> .tuple #[.slice x.1 (lexP text).1.length x.2,.agg #[.int .i64 (lexP text).2.1,.int .i64 (lexP text).2.2]]) (fun _=>[]) (fun(x:Option Addr×Nat)=>[kY.sl (.slice x.1 (lexP text).1.length x.2) (lexP text).1,Fact.pure ((lexP text).1.length≤x.2)]):=by
 have hT:=fR;refine cW Tryz.func37 rfl Tryz.ntmps37 rfl ?_;intro β hM;refine sr<|sp hT ?_;refine bY rfl rfl rfl rfl xY rfl fun b1=>?_;refine nn<|at_scope ?_;refine bA<|sr<|sp2 hT ?_;refine bT (z':=((text.length:Nat):Int)) rfl ?_;refine sp hT ?_;refine nn<|bL rfl (fun hc13=>?_) (fun hc13=>?_)
 ·have hc13:=of_decide_eq_true hc13;refine sr<|ss (cC rfl rfl (uV _)) ?_;refine sp hT ?_;refine sto hT .head ?_;refine nn<|bF<|bB<|r_scope ?_;have he:=lex_long hc13;rw [he];exact bO (none,0) rfl (bG rfl) (bM hT (bJ .head) rfl rfl rfl rfl) .nil ⟨dM,Has.pure (Nat.le_refl 0),trivial⟩ rfl
 have hc13:=Int.not_lt.1 (of_decide_eq_false hc13);refine bN<|bC<|sr<|sp hT ?_;refine nn<|bA<|dR (t:=104) kY ?_;refine bD<|sp hT ?_;refine nn<|bA<|at_label ?_;refine bC<|bA<|bX<|dG (ι:=Nat×List TokV×Option Addr×Nat) [(0,_),(3,_)] ⟨rfl,rfl,trivial⟩ (fun⟨i,out,C,e⟩=>[(4,.slice C out.length e),(5,.int .i64 (i:Nat))]) (fun⟨i,out,C,e⟩=>[kY.row (.slice C out.length e) 104 out]) (fun⟨i,out,C,e⟩=>[Fact.pure (i≤text.length∧lexGo (text.drop i).length i (text.drop i) out=lexP text∧out.length≤i)]) (fun⟨i,out,C,e⟩=>text.length-i) (0,[],none,0) ⟨rfl,rfl,trivial⟩ (.cons .head .nil) ⟨Has.pure (⟨by omega,lex_start (by omega),by simp⟩),trivial⟩ ?_;rintro⟨i,out,C,e⟩;dsimp only;refine bS (Has.of mT0) fun hinv5=>?_;refine bA<|sr<|sp3 hT ?_;refine bT (z':=((text.length:Nat):Int)) rfl ?_;refine sp hT ?_;refine nn<|bL rfl (fun hc18=>?_) (fun hc18=>?_)
 ·have hc18:=of_decide_eq_true hc18;refine bN<|bC<|bX<|sr<|sp2 hT ?_;refine ss (bMr hT (k:=i) rfl rfl rfl rfl rfl (by omega)) ?_
  obtain⟨b,r,hbr⟩: ∃b r,text.drop i=b::r:=⟨_,_,List.drop_eq_getElem_cons (by omega)⟩
  have hbl:(b::r).length≤65536:=by rw [←hbr];simp;omega
  have hbi:i+(b::r).length=text.length:=by rw [←hbr];simp;omega
  refine jN (congrArg (fun l:Bs=>Value.string (bs l)) hbr) ?_;refine sp hT ?_;refine nn<|bA<|sr<|sp hT ?_;refine ss (oP hT (k:=0) rfl rfl rfl rfl rfl rfl) ?_;refine sp hT ?_;refine nn<|bX<|sr<|sp3 hT ?_;refine cF (fun hg27=>?_) (fun hg27=>?_)
  ·have hg27:b=32:=bHv (k:=32) (eq_of_beq hg27);refine sk2 ?_;refine sp2 hT ?_;refine nn<|cI rfl rfl ?_;refine sr<|sp2 hT ?_;refine bT (z':=(((i+1):Nat):Int)) (cP (by omega) (by omega)) ?_;refine sp hT ?_;refine nn<|dC<|bGm rfl ?_;refine cM<|dB<|bC ?_;exact cO (i+1,_,_,_) (by dsimp only;omega) ⟨rfl,rfl,trivial⟩ ⟨rfl,rfl,trivial⟩ (.cons .head (.cons .head .nil)) ⟨Has.pure (⟨by omega,bMx hbr hinv5.2.1 (by simp [iQ, *]),by dsimp only;omega⟩),trivial⟩ (bI.drop 1)
  have hg27:b≠32:=bIz (k:=32) (beq_eq_false_iff_ne.1 hg27);refine sp4 hT ?_;refine nn<|bL rfl (fun hc24=>?_) (fun hc24=>?_)
  ·have hc24:b=9:=bHv (k:=9) (eq_of_beq hc24);refine sr<|sp2 hT ?_;refine bT (z':=(((i+1):Nat):Int)) (cP (by omega) (by omega)) ?_;refine sp hT ?_;refine nn<|dC<|bGm rfl ?_;refine cM<|dB<|bC ?_;exact cO (i+1,_,_,_) (by dsimp only;omega) ⟨rfl,rfl,trivial⟩ ⟨rfl,rfl,trivial⟩ (.cons .head (.cons .head .nil)) ⟨Has.pure (⟨by omega,bMx hbr hinv5.2.1 (by simp [iQ, *]),by dsimp only;omega⟩),trivial⟩ (bI.drop 1)
  have hc24:b≠9:=bIz (k:=9) (beq_eq_false_iff_ne.1 hc24);refine sr<|sp3 hT ?_;refine nn<|bL rfl (fun hc33=>?_) (fun hc33=>?_)
  ·have hc33:b=35:=bHv (k:=35) (eq_of_beq hc33);refine bA ?_;have hnl:=jC (· !=10) (b::r);refine bD<|sp2 hT ?_;refine bR Tryz.func70 (bBc (b::r) (by omega) _ (· !=10) (cR Tryz.func71 rfl rfl) line_spec) rfl rfl .nil trivial fun _=>?_;refine sp hT ?_;refine bT (z':=(((i+(runB (· !=10) (b::r))):Nat):Int)) (cP (by omega) (by omega)) ?_;refine sp hT ?_;refine nn<|dC<|bGm rfl ?_;refine cM<|dB<|bC ?_;exact cO (i+runB (· !=10) (b::r),_,_,_) (by dsimp only;have:=bAd (p:=(· !=10)) (b:=b) (r:=r) (by simp [*]);omega) ⟨rfl,rfl,trivial⟩ ⟨rfl,rfl,trivial⟩ (.cons .head (.cons .head .nil)) ⟨Has.pure (⟨by have:=jC (· !=10) (b::r);omega,lex_note hbr hinv5.2.1 (by simp [iQ, *]) (by simp [*]),by dsimp only;omega⟩),trivial⟩ (bI.drop 1)
  have hc33:b≠35:=bIz (k:=35) (beq_eq_false_iff_ne.1 hc33);refine bN<|cD<|bC<|bA ?_
  rcases ht:fL (b::r) with e | ⟨k,wd,v,m⟩
  ·skip
   refine bD<|sp hT ?_;refine bR Tryz.func72 (token_err b r hbl ht) rfl rfl .nil ⟨Has.of mT1,trivial⟩ fun _=>?_;refine sp4 hT ?_;refine bY rfl rfl rfl rfl vC rfl fun b2=>?_;refine sto hT .head ?_;refine sp2 hT ?_;refine nn<|bA<|sr<|sp2 hT ?_;refine nn<|bL rfl (fun hc47=>?_) (fun hc47=>?_)
   ·have hc47:=bne_iff_ne.1 hc47;refine sr<|sp2 hT ?_;refine ss (cC rfl rfl (tI _ _)) ?_;refine sp hT ?_;refine sto hT kT2 ?_;refine nn<|bF<|bB<|bH<|bB<|bH<|bB<|r_scope ?_;have he:=lex_err hbr hinv5.2.1 (by simp [iQ, *]) (by simp [*]) ht;rw [he];exact bO (none,0) rfl (bG rfl) (bM hT (bJ .head) rfl rfl rfl rfl) .nil ⟨dM,Has.pure (Nat.le_refl 0),trivial⟩ rfl
   have hc47:=bne_eq_false_iff_eq.1 hc47;exact absurd hc47 (vF ht)
  have hm:=nD ht;dsimp only at hm;refine bD<|sp hT ?_;refine bR Tryz.func72 (token_ok b r hbl ht) rfl rfl .nil ⟨Has.of mT1,trivial⟩ fun _=>?_;refine sp4 hT ?_;refine bY rfl rfl rfl rfl vC rfl fun b3=>?_;refine sto hT .head ?_;refine sp2 hT ?_;refine nn<|bA<|sr<|sp2 hT ?_;refine bZ (t':=false) (by decide) ?_;refine nn<|cG rfl rfl ?_;refine bN<|bC<|sr<|sp2 hT ?_;refine sto hT .head ?_;refine nn<|sr<|sp hT ?_;refine ss (ldN hT (bJ .head)) ?_;refine at_one_tok (m:=⟨_,_,_,_⟩) rfl rfl rfl rfl rfl fun b4=>?_;refine at_app_tok kT2 (dF .head rfl) rfl rfl rfl rfl rfl rfl rfl (by simp only [List.length_singleton];omega) fun A5 c6=>?_;refine sp hT ?_;refine nn<|bD<|sp3 hT ?_;refine bT (z':=(((i+m):Nat):Int)) (cP (by omega) (by omega)) ?_;refine sp hT ?_;refine dY<|cD<|bC ?_;exact cO (i+m,_,_,_) (by dsimp only;omega) ⟨rfl,rfl,trivial⟩ ⟨rfl,rfl,trivial⟩ (.cons .head (.cons kT2 .nil)) ⟨Has.pure (⟨by omega,lex_tok hbr hinv5.2.1 (by simp [iQ, *]) (by simp [*]) ht,by simp;omega⟩),trivial⟩ (bI.drop 1)
 have hc18:=Int.not_lt.1 (of_decide_eq_false hc18);refine dC<|cM<|cM<|dB<|bC<|sr<|sp hT ?_;refine ss (cC rfl rfl (vZ)) ?_;refine sp hT ?_;refine sto hT kT1 ?_;refine nn<|bF<|r_scope ?_;have he:lexP text=(out,(0,0)):=lex_end (by omega) hinv5.2.1;rw [he];refine iI kT1 fun hcap=>?_;refine cS kT1 ?_;exact bO (C,e) rfl (bG rfl) (bM hT (bJ .head) rfl rfl rfl rfl) .nil ⟨Has.of mT0,Has.pure hcap,trivial⟩ rfl
end Go.Proofs.YtbgdphbebhjpiaaGreatDoor
namespace Go.Proofs.YtbgdphbebhjpiaaGreatDoor
open Go.RowKit Go.Sort
def fZ (n:Int):Bs:=(if n<0 then [95] else [])++Lib.decDigits n.natAbs
theorem wS{k:Nat}(h:k<10):dH (UInt8.ofNat (48+k))=true∧(UInt8.ofNat (48+k)).toNat=48+k:=by
 have e:(UInt8.ofNat (48+k)).toNat=48+k:=by rw [UInt8.toNat_ofNat'];omega
 refine⟨?_,e⟩;unfold dH;rw [e];simp;omega
theorem pE(u:Nat): ∀b∈Lib.decDigits u,dH b=true:=by
 induction u using Nat.strongRecOn with
 | _ u ih=>
  intro b hb;rw [Lib.decDigits] at hb;split at hb
  ·rename_i h;rw [List.mem_singleton.1 hb];exact(wS h).1
  ·rename_i h
   rcases List.mem_append.1 hb with hb | hb
   ·exact ih (u/10) (by omega) b hb
   ·rw [List.mem_singleton.1 hb];exact(wS (Nat.mod_lt _ (by omega))).1
theorem tX(u:Nat):Lib.decDigits u≠[]:=by
 rw [Lib.decDigits];split<;>simp
theorem bMs(d:UInt8): ∀(a:Bs) (acc:Nat),decV (a++[d]) acc=10*decV a acc+(d.toNat-48)
 | [],acc=>rfl
 | b::a,acc=>by
  show decV (a++[d]) _=_;rw [bMs d a];rfl
theorem decV_digits(u:Nat):decV (Lib.decDigits u) 0=u:=by
 induction u using Nat.strongRecOn with
 | _ u ih=>
  rw [Lib.decDigits];split
  ·rename_i h;show 10*0+((UInt8.ofNat (48+u)).toNat-48)=u;rw [(wS h).2];omega
  ·rename_i h;rw [bMs,ih (u/10) (by omega),(wS (Nat.mod_lt _ (by omega))).2];omega
theorem bIh{p:UInt8→Bool}: ∀s:Bs,(∀b∈s,p b=true)→runB p s=s.length
 | [],_=>rfl
 | b::s,h=>by
  rw [runB,if_pos (h b (by simp)),bIh s fun x hx=>h x (by simp [hx])];rfl
theorem lP{b:UInt8}(h:dH b=true):b≠10∧lI b=false∧b≠95∧b≠45∧b≠35∧iQ b=false∧Lib.isSp b=false∧b.toNat<128:=by
 simp only [dH,Bool.and_eq_true,decide_eq_true_eq] at h;have key: ∀k:Fin 10,(UInt8.ofNat (48+k.val)≠10∧lI (UInt8.ofNat (48+k.val))=false∧UInt8.ofNat (48+k.val)≠95∧UInt8.ofNat (48+k.val)≠45∧UInt8.ofNat (48+k.val)≠35∧iQ (UInt8.ofNat (48+k.val))=false∧Lib.isSp (UInt8.ofNat (48+k.val))=false∧(UInt8.ofNat (48+k.val)).toNat<128):=by decide+kernel
 have hb:b=UInt8.ofNat (48+(b.toNat-48)):=by
  rw [show 48+(b.toNat-48)=b.toNat from by omega];simp
 have:=key ⟨b.toNat-48,by omega⟩;rw [hb];exact this
theorem oV{n:Int}(h0: -9223372036854775808≤n)(h1:n≤9223372036854775807):(fZ n).length≤21:=by
 have h:=Lib.nDigits_le20 n.natAbs (by omega);have:=Lib.decDigits_length n.natAbs;unfold fZ;split<;>simp<;>omega
theorem numTok_spell{n:Int}(h0: -9223372036854775808≤n)(h1:n≤9223372036854775807){b:UInt8}{r:Bs}(h:fZ n=b::r):gU b r= .ok (some (2,[],n,(b::r).length)):=by
 unfold fZ at h;have hd:=pE n.natAbs;have hr:=bIh _ hd;have hv:=decV_digits n.natAbs;have hne:=tX n.natAbs;split at h
 ·rename_i hn;simp only [List.singleton_append,List.cons.injEq] at h;obtain⟨rfl,rfl⟩:=h;have hk: ¬(Lib.decDigits n.natAbs).length=0:=fun e=>hne (List.eq_nil_of_length_eq_zero e)
  have hp:rM true (Lib.decDigits n.natAbs)=some n:=by
   unfold rM;rw [hv,if_pos rfl,if_pos (by omega)]
   congr 1
   omega
  rw [num_m0 rfl,hr,if_neg hk,List.take_of_length_le (Nat.le_refl _),hp];rfl
 ·rename_i hn;rw [List.nil_append] at h;rw [h] at hd hr hv;have hb:=(lP (hd b (by simp))).2.2.1
  have hp:rM false (b::r)=some n:=by
   unfold rM;rw [hv];simp only [Bool.false_eq_true,if_false];rw [if_pos (by omega)]
   congr 1
   omega
  rw [num_p0 hb,hr,if_neg (by simp),List.take_of_length_le (Nat.le_refl _),hp];rfl
theorem bHw{n:Int}{b:UInt8}{r:Bs}(h:fZ n=b::r):b=95∨dH b=true:=by
 unfold fZ at h;split at h
 ·simp only [List.singleton_append,List.cons.injEq] at h;exact .inl h.1.symm
 ·rw [List.nil_append] at h;exact .inr (pE n.natAbs b (by rw [h];simp))
theorem tokenP_spell{n:Int}(h0: -9223372036854775808≤n)(h1:n≤9223372036854775807):fL (fZ n)= .ok (2,[],n,(fZ n).length):=by
 cases hs:fZ n with
 | nil=>
  unfold fZ at hs;exact absurd (List.append_eq_nil_iff.1 hs).2 (tX _)
 | cons b r=>
  have hn:=numTok_spell h0 h1 hs
  have hb:b≠10∧lI b=false:=by
   rcases bHw hs with rfl | h
   ·decide
   ·exact⟨(lP h).1,(lP h).2.1⟩
  simp only [fL,beq_iff_eq,hb.1,if_false,hb.2,Bool.false_eq_true,hn]
theorem lexP_spell{n:Int}(h0: -9223372036854775808≤n)(h1:n≤9223372036854775807):lexP (fZ n)=([⟨2,0,[],n⟩],(0,0)):=by
 have hl:=oV h0 h1;have ht:=tokenP_spell h0 h1;unfold lexP;rw [if_neg (by omega)]
 cases hs:fZ n with
 | nil=>
  unfold fZ at hs;exact absurd (List.append_eq_nil_iff.1 hs).2 (tX _)
 | cons b r=>
  rw [hs] at ht
  have hb:iQ b=false∧(b==35)=false:=by
   rcases bHw hs with rfl | h
   ·decide
   ·exact⟨(lP h).2.2.2.2.2.1,by simp [(lP h).2.2.2.2.1]⟩
  rw [gY,hb.1,if_neg (by simp),hb.2,if_neg (by simp),ht];simp only [List.drop_length];rfl
theorem vL(n:Int): ∀b∈fZ n,b.toNat<128∧Lib.isSp b=false∧b≠35:=fun b hb=>by
 unfold fZ at hb
 rcases List.mem_append.1 hb with hb | hb
 ·split at hb
  ·rw [List.mem_singleton.1 hb];decide
  ·simp at hb
 ·have:=lP (pE _ b hb);exact⟨this.2.2.2.2.2.2.2,this.2.2.2.2.2.2.1,this.2.2.2.2.1⟩
theorem wA{p:UInt8→Bool}: ∀l:Bs,(∀b∈l,p b=false)→l.dropWhile p=l
 | [],_=>rfl
 | b::l,h=>by rw [List.dropWhile_cons_of_neg (by simp [h b (by simp)])]
theorem trim_spell(n:Int):Lib.trimSpace (fZ n)=fZ n:=by
 have h:=vL n;unfold Lib.trimSpace;rw [wA _ fun b hb=>(h b hb).2.1,wA _ fun b hb=>(h b (List.mem_reverse.1 hb)).2.1,List.reverse_reverse]
theorem hash_spell(n:Int):decide (0≤Lib.indexByte (fZ n) 35)=false:=by
 rw [(qN 35 _).1]
 cases h:(fZ n).contains 35 with
 | false=>rfl
 | true=>exact absurd rfl (vL n 35 (by simpa using h)).2.2
theorem bBj(u:Nat):Lib.count (Lib.decDigits u) [45]=0:=by
 rw [Lib.count_one,List.count_eq_zero];exact fun h=>(lP (pE u _ h)).2.2.2.1 rfl
theorem replace_itoa(n:Int):Lib.replace (Lib.itoa n) [45] [95] 1=fZ n:=by
 unfold Lib.replace;rw [if_neg (by decide)];unfold Lib.itoa fZ;split
 ·have hc:Lib.count (45::Lib.decDigits n.natAbs) [45]=1:=by rw [Lib.count_cons_eq,bBj]
  have hr:Lib.replaceNum (45::Lib.decDigits n.natAbs) [45] 1=1:=by
   unfold Lib.replaceNum;rw [hc];rfl
  have hi:Lib.index (45::Lib.decDigits n.natAbs) [45]=((0:Nat):Int):=by
   rw [Lib.index_one];rfl
  rw [hr,Lib.replaceK_hit _ _ _ _ 0 hi];rfl
 ·have hr:Lib.replaceNum (Lib.decDigits n.toNat) [45] 1=0:=by
   unfold Lib.replaceNum;rw [bBj];rfl
  rw [hr];have:n.toNat=n.natAbs:=by omega
  rw [this];rfl
theorem itoa_len{n:Int}(h0: -9223372036854775808≤n)(h1:n≤9223372036854775807):(Lib.itoa n).length≤21:=Lib.itoa_length_le n h0 h1
theorem below_grow{w:World}(k:Nat)(os:Array Obj):Below w.heap.size w (grow (w.drewN k) os):=by
 refine⟨rfl,rfl,rfl,by simp [grow,World.drewN],fun i hi=>?_⟩;have:(w.drewN k).heap=w.heap:=rfl;simp only [grow,this,Array.getElem?_append,hi,if_true]
theorem bIk(n:Int)(h0: -9223372036854775808≤n)(h1:n≤9223372036854775807):dX Tryz.prog 256 [.int .i64 n,.int .i64 10] [] [iK] (fun _:Unit=> .string (bs (Lib.itoa n))) (fun _=>[]) (fun _=>[]):=
 kS fun _ w _ k=>by
  obtain⟨_,_,h7,_⟩:=k _ (.head _);refine(Tryz.strconv_FormatInt_10 n h0 h1 w h7).mono ?_;rintro e w' ⟨rfl,q,os,rfl⟩;exact⟨rfl,below_grow q os⟩
theorem replace_spec(s:Bs)(hs:s.length≤1000):dX Tryz.prog 255 [.string (bs s),.string (bs [45]),.string (bs [95]),.int .i64 1] [] [iK] (fun _:Unit=> .string (bs (Lib.replace s [45] [95] 1))) (fun _=>[]) (fun _=>[]):=
 kS fun _ w _ k=>by
  obtain⟨_,_,_,⟨m,hm⟩,_⟩:=k _ (.head _);have hc:=Lib.countB_mul_le (bs [45]) (by decide) (bs s).size (bs s) (Nat.le_refl _)
  refine(Tryz.strings_Replace (bs s) (bs [45]) (bs [95]) 1 m w (by rw [kH];omega) hm (by decide) ?_).mono fun e w' ⟨he,hb⟩=>⟨he,hb⟩
  have e1:(bs [45]).size=1:=rfl;have e2:(bs [95]).size=1:=rfl;rw [e1] at hc;rw [e2,kH] at*;omega
theorem bGi(s:Bs)(hs:s.length≤140737488355328)(ha: ∀b∈s,b.toNat<128):dX Tryz.prog 257 [.string (bs s)] [] [iK] (fun _:Unit=> .string (bs (Lib.trimSpace s))) (fun _=>[]) (fun _=>[]):=
 kS fun _ w _ k=>by
  obtain⟨_,h0,_⟩:=k _ (.head _);refine(Tryz.strings_TrimSpace (bs s) w (by rw [kH];omega) (fun j b hb=>ha b (List.mem_of_getElem? hb)) h0).mono ?_;rintro e w' ⟨rfl,rfl⟩;exact⟨rfl,Joins.below_bytesWorld _ _ _ _ (Nat.le_refl _)⟩
theorem bKk(s:Bs)(c:UInt8):dX Tryz.prog 258 [.string (bs s),.string (bs [c])] [] [] (fun _:Unit=> .bool (decide (0≤Lib.indexByte s c))) (fun _=>[]) (fun _=>[]):=
 xF fun _ w _=>Tryz.strings_Contains_one (bs s) c w
end Go.Proofs.YtbgdphbebhjpiaaGreatDoor
