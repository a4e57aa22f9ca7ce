/- Texts of one proof, one behind the other: RefG, RefH, TysO, PutP, RefI. -/
import Derived.Test.YtofjmphlpdhohaaGreatDoorM14
import Derived.Test.YtofjmphlpdhohaaGreatDoorM13
import Derived.Test.YtofjmphlpdhohaaGreatDoorM11
namespace Go.Proofs.YtofjmphlpdhohaaGreatDoor
open Go.RowKit
end Go.Proofs.YtofjmphlpdhohaaGreatDoor
namespace Go.Proofs.YtofjmphlpdhohaaGreatDoor
open Go.RowKit Go.ChangeShapes Go.WideShapes
theorem sB: ∃i:TypeInfo,Tryz.prog.info? 45=some i∧i.zero=some (.agg #[.int .i64 0,.int .u8 0,.int .u8 0,.int .u8 0,.int .u8 0,.int .u8 0,.int .u8 0])∧i.size=7∧i.bytes=16:=by
 have h:(Tryz.prog.info? 45).map (fun i=>(i.zero,i.size,i.bytes))=some (some (.agg #[.int .i64 0,.int .u8 0,.int .u8 0,.int .u8 0,.int .u8 0,.int .u8 0,.int .u8 0]),7,16):=by kernel_rfl
 cases hi:Tryz.prog.info? 45 with
 | none=>simp [hi] at h
 | some i=>simp [hi] at h;exact⟨i,rfl,h.1,h.2.1,h.2.2⟩
theorem at_none_mono{β:fB}{n:Nat}{Γ:Env}{H:List bJ}{F:List bI}{Q:Exit→Act→World→Prop}{ops:Array Oper}{rest:List Oper}{o:Oper}{d:Nat}(hw:want ops Γ o=some true)(ho:o.op= .buildSlice 35 0 #[])(hd:o.dst=some d)(hn:Nat.blt d n=true)
  (k: ∀b,At β n ((d,.slice (some ⟨b,0,none⟩) 0 0)::Γ) (dY.row (.slice (some ⟨b,0,none⟩) 0 0) 45 []::H) F (wpList Tryz.prog ops Q rest)):At β n Γ H F (wpList Tryz.prog ops Q (o::rest)):=by
 obtain⟨i,hi,_⟩:=sB;exact bFs dY hw ho hd hn Tryz.underlying35 hi k
theorem at_app_mono{β:fB}{n:Nat}{Γ:Env}{H:List bJ}{F:List bI}{Q:Exit→Act→World→Prop}{ops:Array Oper}{rest:List Oper}{o:Oper}{d:Nat}{x y:Operand}{c q:Nat}{v:Value}{A:Option Addr}{xs ys:List Mono}{H':List bJ}(hH:dD H (dY.row v 45 xs) H')(hr:bV β H F dY A ys)(hg:o.guard=none)
  (ho:o.op= .call {callee:= .builtin .append,args:= #[x,y],argTypes:= #[35,35]}) (hd:o.dst=some d) (hn:Nat.blt d n=true)
  (hx:Γ.ev x=some v) (hy:Γ.ev y=some (.slice A q c)) (hq:q=ys.length) (hl:xs.length+ys.length≤8796093022208)
  (k: ∀A' cap',At β n ((d,.slice A' (xs++ys).length cap')::Γ) (dY.row (.slice A' (xs++ys).length cap') 45 (xs++ys)::H') F (wpList Tryz.prog ops Q rest)):At β n Γ H F (wpList Tryz.prog ops Q (o::rest)):=by
 obtain⟨i,hi,hz,hs,hb⟩:=sB;exact jK hH hr hg ho hd hn Tryz.underlying35 hi hz hs hb rfl hx hy hq (by omega) (by decide) k
end Go.Proofs.YtofjmphlpdhohaaGreatDoor
namespace Go.Proofs.YtofjmphlpdhohaaGreatDoor
open Go.RowKit
section
variable {α : Type} {l st : List α} {t y : α} {i j m : Nat}
theorem each_set{g:α→bI}{F:List bI}{k:Nat}{x:α}(h:Has F (bI.each l g))(hx:Has F (g x)):Has F (bI.each (l.set k x) g):=fun S w q y hy=>by
 rcases List.mem_or_eq_of_mem_set hy with h1 | rfl
 ·exact h S w q y h1
 ·exact hx S w q
end
end Go.Proofs.YtofjmphlpdhohaaGreatDoor
