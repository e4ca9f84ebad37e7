/- The walk of the reference's Read where a sign stands. -/
import Derived.Test.YtdhakbghdcfncaaGreatDoorNa
namespace Go.Proofs.YtdhakbghdcfncaaGreatDoor
set_option maxRecDepth 100000
set_option linter.unusedVariables false
set_option linter.unusedSimpArgs false
open Go.RowKit

/- The walk of the reference's Read where none stands. -/

end Go.Proofs.YtdhakbghdcfncaaGreatDoor
