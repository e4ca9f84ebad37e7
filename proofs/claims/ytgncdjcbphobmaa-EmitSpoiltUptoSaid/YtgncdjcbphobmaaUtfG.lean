/- The walk of utf.Bad. -/
import Derived.Test.YtgncdjcbphobmaaUtfB
import Derived.Test.YtgncdjcbphobmaaByW
namespace Go.Proofs.Ytgncdjcbphobmaa
set_option linter.unusedVariables false
set_option linter.unusedSimpArgs false
open Go.RowKit

set_option maxHeartbeats 1000000 in
set_option maxRecDepth 100000 in
theorem bad_is (s : ByteArray) (w : World) (hs : s.size ≤ maxLen) :
    Calls Try.prog 19 #[.string s] w fun e w' => e = .returned (.int .i64 (Utf.bad s.data.toList)) ∧ w = w' := by
  have hsm := Lib.hid hs
  unfold maxLen at hs
  go_enter Try.func19, Try.ntmps19
  go_wp2_with fail
  go_loop [3] (fun j => ∃ k : Nat, k ≤ s.size ∧ j = .int .i64 k ∧ Hid (Utf.bad s.data.toList = k + Utf.bad (s.data.toList.drop k))) (fun j => s.size - (intOf j).toNat)
  case atStart => exact ⟨0, by omega, rfl, by show _ = _; simp⟩
  case round =>
    obtain ⟨k, hk, rfl, he⟩ := hrel
    by_cases hlt : k < s.size
    · obtain ⟨p, n, ho, hle, hp⟩ := one_at hlt
      have HO := Lib.hid ho
      clear ho
      by_cases hn : n = 0
      · subst hn
        have hb := Lib.hid (bad_at_stop HO.out)
        go_wp2_with (go_at_call 22; refine (one_is s k p 0 _ hsm.out hlt HO.out).mono ?_; rintro e w' ⟨rfl, rfl⟩)
        go_ret
        exact ⟨ret_int (by rw [he.out, hb.out]; omega), rfl⟩
      · have hb := Lib.hid (bad_at_step HO.out hn)
        have e0 : ((n : Int) == 0) = false := by rw [beq_eq_false_iff_ne]; omega
        go_wp2_with (go_at_call 22; refine (one_is s k p n _ hsm.out hlt HO.out).mono ?_; rintro e w' ⟨rfl, rfl⟩)
        exact ⟨⟨k + n, hle, by go_num, by show _ = _; rw [he.out, hb.out]; omega⟩, by simp [intOf]; omega⟩
    · have hb : Hid (Utf.bad (s.data.toList.drop k) = 0) := by show _ = _; rw [drop_end hlt]; rfl
      go_wp2_with fail
      go_ret
      exact ⟨ret_int (by rw [he.out, hb.out]; omega), rfl⟩

end Go.Proofs.Ytgncdjcbphobmaa
