/- slices.Sort and slices.Compact at texts that a call made itself. -/
import Derived.Test.YtlmcfhokfiibkaaGreatDoorBka
import Derived.Test.YtlmcfhokfiibkaaGreatDoorPta
import Derived.Sort.OwnSorted
namespace Go.Proofs.YtlmcfhokfiibkaaGreatDoor
set_option maxRecDepth 100000
set_option linter.unusedVariables false
set_option linter.unusedSimpArgs false
open Go.RowKit Go.Sort

end Go.Proofs.YtlmcfhokfiibkaaGreatDoor
