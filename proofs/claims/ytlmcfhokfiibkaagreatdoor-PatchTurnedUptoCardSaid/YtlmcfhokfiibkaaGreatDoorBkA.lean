/- Chapter 15: book.may, book.usual. -/
import Derived.Test.YtlmcfhokfiibkaaGreatDoorBka
import Derived.Test.YtlmcfhokfiibkaaGreatDoorPta
namespace Go.Proofs.YtlmcfhokfiibkaaGreatDoor
set_option maxRecDepth 100000
set_option linter.unusedVariables false
set_option linter.unusedSimpArgs false
open Go.RowKit

end Go.Proofs.YtlmcfhokfiibkaaGreatDoor
