/- Texts of one proof, one behind the other: TysC, LawC. -/
import Derived.Test.YtbgdphbebhjpiaaGreatDoorM10
import Derived.Test.YtbgdphbebhjpiaaGreatDoorM15
import Derived.Test.YtbgdphbebhjpiaaGreatDoorM14
namespace Go.Proofs.YtbgdphbebhjpiaaGreatDoor
open Go.RowKit Go.ChangeShapes Go.WideShapes
end Go.Proofs.YtbgdphbebhjpiaaGreatDoor
namespace Go.Proofs.YtbgdphbebhjpiaaGreatDoor
open Go.RowKit
end Go.Proofs.YtbgdphbebhjpiaaGreatDoor
