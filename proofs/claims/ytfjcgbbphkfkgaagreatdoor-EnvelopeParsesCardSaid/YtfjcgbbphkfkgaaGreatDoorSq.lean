/- Short words for the steps of a region that draws its order (squeeze.py puts them in). -/
import Derived.Test.YtfjcgbbphkfkgaaGreatDoorKa
import Derived.Deep.RegionHeld
namespace Go.Proofs.YtfjcgbbphkfkgaaGreatDoor
set_option maxRecDepth 100000
set_option linter.unusedVariables false
set_option linter.unusedSimpArgs false
open Go.RowKit

end Go.Proofs.YtfjcgbbphkfkgaaGreatDoor
