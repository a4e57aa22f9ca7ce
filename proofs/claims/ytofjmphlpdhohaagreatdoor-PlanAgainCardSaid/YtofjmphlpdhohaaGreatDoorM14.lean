/- Texts of one proof, one behind the other: FuB, FuC, FuD, FuE, RefF. -/
import Derived.Test.YtofjmphlpdhohaaGreatDoorM13
namespace Go.Proofs.YtofjmphlpdhohaaGreatDoor
open Go.RowKit
end Go.Proofs.YtofjmphlpdhohaaGreatDoor
