/- The document's Bad. -/
import Derived.Test.YtgncdjcbphobmaaDoorUb
namespace Go.Proofs.YtgncdjcbphobmaaDoor
set_option linter.unusedVariables false
set_option linter.unusedSimpArgs false
open Go.RowKit

set_option maxHeartbeats 1000000 in
theorem rbad_is (s : ByteArray) (w : World) (hs : s.size ≤ 17592186044415) :
    Calls Tryd.prog 70 #[.string s] w fun e w' => e = .returned (.int .i64 (Utf.bad s.data.toList)) ∧ Fr w w' := by
  go_enter Tryd.func70, Tryd.ntmps70
  go_wp2_with (go_at_call 66; refine (points_is s _ hs).mono ?_; rintro e w' ⟨v, rfl, hps, hf⟩)
  go_ret
  exact ⟨rfl, hf⟩
theorem rbad_at (s : ByteArray) (b : Nat) (w : World) (hs : s.size ≤ 17592186044415) (h : Utf.bad s.data.toList = b) :
    Calls Tryd.prog 70 #[.string s] w fun e w' => e = .returned (.int .i64 b) ∧ Fr w w' := by
  subst h; exact rbad_is s w hs
end Go.Proofs.YtgncdjcbphobmaaDoor
