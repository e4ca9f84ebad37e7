/- The walk of chars.escape. -/
import Derived.Test.YtgncdjcbphobmaaByW
namespace Go.Proofs.Ytgncdjcbphobmaa
set_option linter.unusedVariables false
set_option linter.unusedSimpArgs false
open Go.RowKit

set_option maxHeartbeats 2000000 in
theorem escape_is (c : UInt8) (w : World) :
    Calls Try.prog 21 #[.int .u8 c.toNat] w fun e w' => e = .returned (.int .u8 (Chr.letter c).toNat) ∧ w = w' := by
  by_cases h0 : c = 34
  · subst h0
    go_enter Try.func21, Try.ntmps21
    go_wp2_with fail
    go_ret
    exact ⟨rfl, rfl⟩
  have e0 := u8neq (d := 34) (by omega) h0
  by_cases h1 : c = 92
  · subst h1
    go_enter Try.func21, Try.ntmps21
    go_wp2_with fail
    go_ret
    exact ⟨rfl, rfl⟩
  have e1 := u8neq (d := 92) (by omega) h1
  by_cases h2 : c = 8
  · subst h2
    go_enter Try.func21, Try.ntmps21
    go_wp2_with fail
    go_ret
    exact ⟨rfl, rfl⟩
  have e2 := u8neq (d := 8) (by omega) h2
  by_cases h3 : c = 9
  · subst h3
    go_enter Try.func21, Try.ntmps21
    go_wp2_with fail
    go_ret
    exact ⟨rfl, rfl⟩
  have e3 := u8neq (d := 9) (by omega) h3
  by_cases h4 : c = 10
  · subst h4
    go_enter Try.func21, Try.ntmps21
    go_wp2_with fail
    go_ret
    exact ⟨rfl, rfl⟩
  have e4 := u8neq (d := 10) (by omega) h4
  by_cases h5 : c = 12
  · subst h5
    go_enter Try.func21, Try.ntmps21
    go_wp2_with fail
    go_ret
    exact ⟨rfl, rfl⟩
  have e5 := u8neq (d := 12) (by omega) h5
  by_cases h6 : c = 13
  · subst h6
    go_enter Try.func21, Try.ntmps21
    go_wp2_with fail
    go_ret
    exact ⟨rfl, rfl⟩
  have e6 := u8neq (d := 13) (by omega) h6
  have hr : Hid (Chr.letter c = 0) := by show _ = _; unfold Chr.letter; rw [if_neg h0, if_neg h1, if_neg h2, if_neg h3, if_neg h4, if_neg h5, if_neg h6]
  clear h0 h1 h2 h3 h4 h5 h6
  go_enter Try.func21, Try.ntmps21
  go_wp2_with fail
  go_ret
  exact ⟨by rw [hr.out]; rfl, rfl⟩

end Go.Proofs.Ytgncdjcbphobmaa
