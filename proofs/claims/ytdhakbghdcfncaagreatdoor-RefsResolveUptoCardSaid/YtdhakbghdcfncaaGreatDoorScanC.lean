/- The walk of the document's Tokens. -/
import Derived.Test.YtdhakbghdcfncaaGreatDoorSa
import Derived.Test.YtdhakbghdcfncaaGreatDoorPa
import Derived.Test.YtdhakbghdcfncaaGreatDoorNb
namespace Go.Proofs.YtdhakbghdcfncaaGreatDoor
set_option maxRecDepth 100000
set_option linter.unusedVariables false
set_option linter.unusedSimpArgs false
open Go.RowKit

end Go.Proofs.YtdhakbghdcfncaaGreatDoor
