/- The walk of the document's Tokens. -/
import Derived.Test.YtlmcfhokfiibkaaGreatDoorSa
import Derived.Test.YtlmcfhokfiibkaaGreatDoorPa
import Derived.Test.YtlmcfhokfiibkaaGreatDoorNb
namespace Go.Proofs.YtlmcfhokfiibkaaGreatDoor
set_option maxRecDepth 100000
set_option linter.unusedVariables false
set_option linter.unusedSimpArgs false
open Go.RowKit

end Go.Proofs.YtlmcfhokfiibkaaGreatDoor
