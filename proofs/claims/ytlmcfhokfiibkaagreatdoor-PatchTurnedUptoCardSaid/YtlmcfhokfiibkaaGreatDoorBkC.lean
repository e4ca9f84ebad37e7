/- Chapter 15: book.Check. -/
import Derived.Test.YtlmcfhokfiibkaaGreatDoorBkB
import Derived.Test.YtlmcfhokfiibkaaGreatDoorBkA
import Derived.Test.YtlmcfhokfiibkaaGreatDoorTra
namespace Go.Proofs.YtlmcfhokfiibkaaGreatDoor
set_option maxRecDepth 100000
set_option linter.unusedVariables false
set_option linter.unusedSimpArgs false
open Go.RowKit

end Go.Proofs.YtlmcfhokfiibkaaGreatDoor
