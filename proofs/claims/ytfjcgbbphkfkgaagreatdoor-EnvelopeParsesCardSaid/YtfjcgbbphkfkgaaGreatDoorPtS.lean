/- The walk of chapter 08's law of what stays. -/
import Derived.Test.YtfjcgbbphkfkgaaGreatDoorPtj
import Derived.Test.YtfjcgbbphkfkgaaGreatDoorPta
import Derived.Test.YtfjcgbbphkfkgaaGreatDoorReadM
namespace Go.Proofs.YtfjcgbbphkfkgaaGreatDoor
set_option maxRecDepth 100000
set_option maxHeartbeats 1000000
set_option linter.unusedVariables false
set_option linter.unusedSimpArgs false
open Go.RowKit

namespace Pt
def ans (st : Bool) (ps : Option (List (List UInt8))) (v : JV) : JV × Int := match ps with
 | none => (JV.zeroV, 80)
 | some ps => match find st ps v with
  | none => (JV.zeroV, 81)
  | some y => (y, 0)
end Pt
end Go.Proofs.YtfjcgbbphkfkgaaGreatDoor
