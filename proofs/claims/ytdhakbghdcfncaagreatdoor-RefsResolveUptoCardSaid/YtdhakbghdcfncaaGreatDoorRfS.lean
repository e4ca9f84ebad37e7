/- RefsKeeps' walk. -/
import Derived.Test.YtdhakbghdcfncaaGreatDoorRfq
import Derived.Test.YtdhakbghdcfncaaGreatDoorEe
import Derived.Test.YtdhakbghdcfncaaGreatDoorCpa
namespace Go.Proofs.YtdhakbghdcfncaaGreatDoor
set_option maxRecDepth 100000
set_option maxHeartbeats 16000000
set_option linter.unusedVariables false
set_option linter.unusedSimpArgs false
open Go.RowKit

end Go.Proofs.YtdhakbghdcfncaaGreatDoor
