/- The walk of nums.digit. -/
import Derived.Test.YtgncdjcbphobmaaKit
import Derived.Test.YtgncdjcbphobmaaNumsP
namespace Go.Proofs.Ytgncdjcbphobmaa
set_option linter.unusedVariables false
set_option linter.unusedSimpArgs false
open Go.RowKit

set_option maxHeartbeats 400000 in
theorem digit_any (n : Int) (w : World) (h : -9 ≤ n) (h' : n ≤ 9) :
    Calls Try.prog 16 #[.int .i64 n] w fun e w' => e = .returned (.int .u8 (48 + n.natAbs)) ∧ w = w' := by
  by_cases hn : n < 0
  all_goals
    go_enter Try.func16, Try.ntmps16
    go_wp2
    go_ret
    exact ⟨ret_int (by omega), rfl⟩

end Go.Proofs.Ytgncdjcbphobmaa
