/- The walk of the reference's Read where a sign stands. -/
import Derived.Test.YtlmcfhokfiibkaaGreatDoorNa
namespace Go.Proofs.YtlmcfhokfiibkaaGreatDoor
set_option maxRecDepth 100000
set_option linter.unusedVariables false
set_option linter.unusedSimpArgs false
open Go.RowKit

/- The walk of the reference's Read where none stands. -/

end Go.Proofs.YtlmcfhokfiibkaaGreatDoor
