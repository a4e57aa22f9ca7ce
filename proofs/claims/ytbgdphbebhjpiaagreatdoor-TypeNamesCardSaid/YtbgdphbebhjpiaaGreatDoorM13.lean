/- Texts of one proof, one behind the other: PrimD, PrimE, PrimF. -/
import Derived.Test.YtbgdphbebhjpiaaGreatDoorM12
namespace Go.Proofs.YtbgdphbebhjpiaaGreatDoor
open Go.RowKit
section
variable {P : Program} {β : fV} {n : Nat} {Γ : Env} {H : List cA} {F : List Fact} {Q : Exit → Act → World → Prop} {K : Act → World → Prop}
theorem Perm.last{A B:List cA}:(A++B).Perm (B++A):=List.perm_append_comm
theorem all_set{xs:List (Sl Int)}{x y:Sl Int}{i:Nat}(h:xs[i]?=some x)(h1:y.addr=x.addr)(h2:y.cap=x.cap)(h3:y.list.length=x.list.length):bLf.all (xs.set i y)=bLf.all xs:=by
 have e:bLf.cells y=bLf.cells x:=by
  show [Value.slice y.addr y.list.length y.cap]=[Value.slice x.addr x.list.length x.cap];rw [h1,h2,h3]
 unfold Flat.all;rw [List.flatMap_def,List.flatMap_def,List.map_set,e]
 congr 1
 have hx:(xs.map bLf.cells)[i]?=some (bLf.cells x):=by rw [List.getElem?_map,h];rfl
 obtain⟨hlt,e2⟩:=List.getElem?_eq_some_iff.1 hx;rw [←e2];exact List.set_getElem_self hlt
end
end Go.Proofs.YtbgdphbebhjpiaaGreatDoor
