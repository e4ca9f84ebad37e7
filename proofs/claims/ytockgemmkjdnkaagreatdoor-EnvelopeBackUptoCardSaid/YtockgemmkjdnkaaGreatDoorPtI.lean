/- The walk of point.find. -/
import Derived.Test.YtockgemmkjdnkaaGreatDoorPte
namespace Go.Proofs.YtockgemmkjdnkaaGreatDoor
set_option maxRecDepth 100000
set_option linter.unusedVariables false
set_option linter.unusedSimpArgs false
open Go.RowKit

end Go.Proofs.YtockgemmkjdnkaaGreatDoor
