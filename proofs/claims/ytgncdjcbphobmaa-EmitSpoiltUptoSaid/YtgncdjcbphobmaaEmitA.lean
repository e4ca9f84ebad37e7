/- Walks of emit.bare, right, names. -/
import Derived.Test.YtgncdjcbphobmaaInV
import Derived.Test.YtgncdjcbphobmaaKn
import Derived.Test.YtgncdjcbphobmaaValQ
namespace Go.Proofs.Ytgncdjcbphobmaa
set_option linter.unusedVariables false
set_option linter.unusedSimpArgs false
open Go.RowKit

set_option maxHeartbeats 1000000 in
theorem bare_is (k n : Int) (s : ByteArray) (A A' : Option Addr) (l m c c' : Nat) (w : World) (b : Bool) 
    (hb : Hid (((n == 0 || k == 2 || k == 3) && (s.toList.isEmpty || k == 4) && ((l : Int) == 0 || k == 5) && ((m : Int) == 0 || k == 6)) = b)) :
    Calls Try.prog 18 #[.agg #[.int .i64 k, .int .i64 n, .string s, .slice A l c, .slice A' m c']] w fun e w' => e = .returned (.bool b) ∧ Fr w w' := by
  go_enter Try.func18, Try.ntmps18
  go_wp2_with fail
  all_goals
    go_ret
    refine ⟨ret_bool ?_, (Fr.refl _).alloc _⟩
    rw [← hb.out]
    simp_all
end Go.Proofs.Ytgncdjcbphobmaa
