/- The walk of the laws' count. -/
import Derived.Test.YtfjcgbbphkfkgaaGreatDoorRdd
namespace Go.Proofs.YtfjcgbbphkfkgaaGreatDoor
set_option maxRecDepth 100000
set_option linter.unusedVariables false
set_option linter.unusedSimpArgs false
open Go.RowKit

namespace Rd
open JV
end Rd
end Go.Proofs.YtfjcgbbphkfkgaaGreatDoor
