/- The walk of the reference's Read where a sign stands. -/
import Derived.Test.YtfjcgbbphkfkgaaDoorNa
namespace Go.Proofs.YtfjcgbbphkfkgaaDoor
set_option linter.unusedVariables false
set_option linter.unusedSimpArgs false
open Go.RowKit

end Go.Proofs.YtfjcgbbphkfkgaaDoor
/- The walk of the reference's Read where none stands. -/
namespace Go.Proofs.YtfjcgbbphkfkgaaDoor
set_option linter.unusedVariables false
set_option linter.unusedSimpArgs false
open Go.RowKit

end Go.Proofs.YtfjcgbbphkfkgaaDoor
