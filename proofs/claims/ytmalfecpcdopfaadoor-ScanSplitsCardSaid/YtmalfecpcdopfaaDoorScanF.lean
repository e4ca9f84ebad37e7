/- Walks: scan.part, strings.HasPrefix, the scanner's word. -/
import Derived.Test.YtmalfecpcdopfaaDoorScanE
import Derived.Test.YtmalfecpcdopfaaDoorScanB
namespace Go.Proofs.YtmalfecpcdopfaaDoor
set_option linter.unusedVariables false
set_option linter.unusedSimpArgs false
open Go.RowKit

set_option maxHeartbeats 2000000 in
theorem part_is (c : UInt8) (b : Bool) (w : World) (hb : Scn.part c = b) :
    Calls Tryd.prog 39 #[.int .u8 c.toNat] w fun e w' => e = .returned (.bool b) ∧ w = w' := by
  subst hb
  obtain ⟨n, hn⟩ : ∃ n, c.toNat = n := ⟨_, rfl⟩
  have hy := @part_yes c
  have hz := @part_no c
  rw [hn] at hy hz ⊢
  obtain ⟨p, hp⟩ : ∃ p, Scn.part c = p := ⟨_, rfl⟩
  rw [hp] at hy hz ⊢
  clear hp hn
  by_cases hyes : 97 ≤ n ∧ n ≤ 122 ∨ 65 ≤ n ∧ n ≤ 90 ∨ 48 ≤ n ∧ n ≤ 57 ∨ n = 95
  · obtain rfl := hy hyes
    clear hy hz
    rcases hyes with h | h | h | h
    all_goals
      first
      | (have q1 : decide ((97 : Int) ≤ (n : Int)) = true := decide_eq_true (by omega))
      | (have q1 : decide ((97 : Int) ≤ (n : Int)) = false := decide_eq_false (by omega))
      first
      | (have q2 : decide ((n : Int) ≤ 122) = true := decide_eq_true (by omega))
      | (have q2 : decide ((n : Int) ≤ 122) = false := decide_eq_false (by omega))
      first
      | (have q3 : decide ((65 : Int) ≤ (n : Int)) = true := decide_eq_true (by omega))
      | (have q3 : decide ((65 : Int) ≤ (n : Int)) = false := decide_eq_false (by omega))
      first
      | (have q4 : decide ((n : Int) ≤ 90) = true := decide_eq_true (by omega))
      | (have q4 : decide ((n : Int) ≤ 90) = false := decide_eq_false (by omega))
      first
      | (have q5 : decide ((48 : Int) ≤ (n : Int)) = true := decide_eq_true (by omega))
      | (have q5 : decide ((48 : Int) ≤ (n : Int)) = false := decide_eq_false (by omega))
      first
      | (have q6 : decide ((n : Int) ≤ 57) = true := decide_eq_true (by omega))
      | (have q6 : decide ((n : Int) ≤ 57) = false := decide_eq_false (by omega))
      first
      | (have q7 : ((n : Int) == 95) = true := by rw [beq_iff_eq]; omega)
      | (have q7 : ((n : Int) == 95) = false := by rw [beq_eq_false_iff_ne]; omega)
      clear h
      go_enter Tryd.func39, Tryd.ntmps39
      go_wp2_with fail
      go_ret
      exact ⟨rfl, rfl⟩
  · obtain rfl := hz hyes
    clear hy hz
    rcases (by omega : n < 48 ∨ (57 < n ∧ n < 65) ∨ (90 < n ∧ n < 97 ∧ n ≠ 95) ∨ 122 < n) with h | h | h | h
    all_goals
      clear hyes
      first
      | (have q1 : decide ((97 : Int) ≤ (n : Int)) = true := decide_eq_true (by omega))
      | (have q1 : decide ((97 : Int) ≤ (n : Int)) = false := decide_eq_false (by omega))
      first
      | (have q2 : decide ((n : Int) ≤ 122) = true := decide_eq_true (by omega))
      | (have q2 : decide ((n : Int) ≤ 122) = false := decide_eq_false (by omega))
      first
      | (have q3 : decide ((65 : Int) ≤ (n : Int)) = true := decide_eq_true (by omega))
      | (have q3 : decide ((65 : Int) ≤ (n : Int)) = false := decide_eq_false (by omega))
      first
      | (have q4 : decide ((n : Int) ≤ 90) = true := decide_eq_true (by omega))
      | (have q4 : decide ((n : Int) ≤ 90) = false := decide_eq_false (by omega))
      first
      | (have q5 : decide ((48 : Int) ≤ (n : Int)) = true := decide_eq_true (by omega))
      | (have q5 : decide ((48 : Int) ≤ (n : Int)) = false := decide_eq_false (by omega))
      first
      | (have q6 : decide ((n : Int) ≤ 57) = true := decide_eq_true (by omega))
      | (have q6 : decide ((n : Int) ≤ 57) = false := decide_eq_false (by omega))
      first
      | (have q7 : ((n : Int) == 95) = true := by rw [beq_iff_eq]; omega)
      | (have q7 : ((n : Int) == 95) = false := by rw [beq_eq_false_iff_ne]; omega)
      clear h
      go_enter Tryd.func39, Tryd.ntmps39
      go_wp2_with fail
      go_ret
      exact ⟨rfl, rfl⟩

theorem take_list (a : ByteArray) (n : Nat) : (a.extract 0 n).data.toList = a.data.toList.take n := by rw [extract_list]; simp
set_option maxHeartbeats 1000000 in
theorem prefix_lite (a p : ByteArray) (b : Bool) (w : World) (ha : a.size ≤ maxLen) (hb : decide (a.data.toList.take p.size = p.data.toList) = b) :
    Calls Tryd.prog 47 #[.string a, .string p] w fun e w' => e = .returned (.bool b) ∧ w = w' := by
  unfold maxLen at ha
  by_cases h1 : p.size ≤ a.size
  · have d1 : decide ((p.size : Int) ≤ (a.size : Int)) = true := decide_eq_true (by omega)
    have d2 : decide (a.size < p.size) = false := decide_eq_false (by omega)
    by_cases h2 : a.extract 0 p.size = p
    · have q := bl_eq h2
      obtain rfl : b = true := by rw [← hb]; exact decide_eq_true (by rw [← take_list, h2])
      clear h2 hb
      go_enter Tryd.func47, Tryd.ntmps47
      go_wp2_with fail
      go_ret
      exact ⟨rfl, rfl⟩
    · have q := bl_ne h2
      obtain rfl : b = false := by rw [← hb]; exact decide_eq_false (fun h => h2 (bytes_eq (by rw [take_list, h])))
      clear h2 hb
      go_enter Tryd.func47, Tryd.ntmps47
      go_wp2_with fail
      go_ret
      exact ⟨rfl, rfl⟩
  · have d1 : decide ((p.size : Int) ≤ (a.size : Int)) = false := decide_eq_false (by omega)
    obtain rfl : b = false := by
      rw [← hb]; refine decide_eq_false (fun h => h1 ?_)
      have := congrArg List.length h
      simp at this
      omega
    clear hb
    go_enter Tryd.func47, Tryd.ntmps47
    go_wp2_with fail
    go_ret
    exact ⟨rfl, rfl⟩
theorem prefix_is (a p : ByteArray) (b : Bool) (w : World) (ha : a.size ≤ maxLen) (hb : decide (a.data.toList.take p.size = p.data.toList) = b) :
    Calls Tryd.prog 38 #[.string a, .string p] w fun e w' => e = .returned (.bool b) ∧ w = w' := by
  go_enter Tryd.func38, Tryd.ntmps38
  go_wp2_with (go_at_call 47; refine (prefix_lite a p b _ ha hb).mono ?_; rintro e w' ⟨rfl, rfl⟩)
  go_ret
  exact ⟨rfl, rfl⟩

/-- What the test of a word at a place comes to, by HasPrefix. -/
theorem pre_hp (s : ByteArray) (k n : Nat) (W : List UInt8) (hn : n = W.length) (hk : k ≤ s.size) :
    ((s.data.toList.drop k).take n ≠ W ∧ Scn.pre W (s.data.toList.drop k) = false) ∨
    ((s.data.toList.drop k).take n = W ∧ k + n ≤ s.size ∧ k + n = s.size ∧ Scn.pre W (s.data.toList.drop k) = true) ∨
    ((s.data.toList.drop k).take n = W ∧ ∃ (h : k + n < s.size) (c : UInt8), s[k + n] = c ∧ Scn.pre W (s.data.toList.drop k) = !Scn.part c) := by
  subst hn
  have hx := extract_list s k (k + W.length)
  rw [show k + W.length - k = W.length by omega] at hx
  rcases pre_cases s k W hk with ⟨h1, h2⟩ | ⟨h1, h2, h4⟩ | ⟨h1, h2, h4, h5⟩ | ⟨h2, h1, c, h4, h5⟩
  · left
    refine ⟨fun h => ?_, h2⟩
    have := congrArg List.length h
    simp at this
    omega
  · left
    exact ⟨fun h => h2 (bytes_eq (by rw [hx, h])), h4⟩
  · right; left
    exact ⟨by rw [← hx, h2], h1, h4.symm, h5⟩
  · right; right
    exact ⟨by rw [← hx, h2], h1, c, h4, h5⟩
end Go.Proofs.YtmalfecpcdopfaaDoor
