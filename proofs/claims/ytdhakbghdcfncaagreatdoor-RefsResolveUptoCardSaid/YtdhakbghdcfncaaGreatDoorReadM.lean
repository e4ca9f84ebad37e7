/- The law ReadSorts. -/
import Derived.Test.YtdhakbghdcfncaaGreatDoorReadL
namespace Go.Proofs.YtdhakbghdcfncaaGreatDoor
set_option maxRecDepth 100000
set_option linter.unusedVariables false
set_option linter.unusedSimpArgs false
open Go.RowKit

theorem zeroV_in (w:World) (S:Nat→Prop):InV w S JV.zeroV (.agg #[.int .i64 0,.int .i64 0,.string ⟨#[]⟩,.slice none 0 0,.slice none 0 0]):=
 InV.leaf w S 0 0 [] none none 0 0 (by decide) (by decide) (by decide) (by decide) (by simp)
end Go.Proofs.YtdhakbghdcfncaaGreatDoor
