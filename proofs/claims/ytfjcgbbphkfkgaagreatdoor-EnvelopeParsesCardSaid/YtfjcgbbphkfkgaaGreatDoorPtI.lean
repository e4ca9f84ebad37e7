/- The walk of point.find. -/
import Derived.Test.YtfjcgbbphkfkgaaGreatDoorPte
namespace Go.Proofs.YtfjcgbbphkfkgaaGreatDoor
set_option maxRecDepth 100000
set_option maxHeartbeats 4000000
set_option linter.unusedVariables false
set_option linter.unusedSimpArgs false
open Go.RowKit

end Go.Proofs.YtfjcgbbphkfkgaaGreatDoor
