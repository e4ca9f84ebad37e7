/- The walk of point.find. -/
import Derived.Test.YtockgemmkjdnkaaGreatDoorPte
set_option maxRecDepth 100000
set_option linter.unusedVariables false
set_option linter.unusedSimpArgs false
namespace Go.Proofs.YtockgemmkjdnkaaGreatDoor
open Go.RowKit

end Go.Proofs.YtockgemmkjdnkaaGreatDoor
