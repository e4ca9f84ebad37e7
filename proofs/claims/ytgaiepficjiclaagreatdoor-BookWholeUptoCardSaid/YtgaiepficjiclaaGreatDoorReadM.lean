/- The law ReadSorts. -/
import Derived.Test.YtgaiepficjiclaaGreatDoorReadL
namespace Go.Proofs.YtgaiepficjiclaaGreatDoor
set_option maxRecDepth 100000
set_option linter.unusedVariables false
set_option linter.unusedSimpArgs false
open Go.RowKit

theorem zeroV_in (w : World) (S : Nat → Prop) : InV w S JV.zeroV (.agg #[.int .i64 0, .int .i64 0, .string ⟨#[]⟩, .slice none 0 0, .slice none 0 0]) :=
 InV.leaf w S 0 0 [] none none 0 0 (by decide) (by decide) (by decide) (by decide) (by simp)
theorem same_zero (w : World) : Calls Tryz.prog 13 #[.agg #[.int .i64 0, .int .i64 0, .string ⟨#[]⟩, .slice none 0 0, .slice none 0 0], .agg #[.int .i64 0, .int .i64 0, .string ⟨#[]⟩, .slice none 0 0, .slice none 0 0]] w fun e w' => e = .returned (.bool true) ∧ Fr w w' :=
 (same_is JV.zeroV JV.zeroV _ _).call true (by simp) rfl rfl (zeroV_in w _) (zeroV_in w _)

end Go.Proofs.YtgaiepficjiclaaGreatDoor
