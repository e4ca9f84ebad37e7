import Derived.Test.YtgncdjcbphobmaaDoorEe
import Derived.Test.YtgncdjcbphobmaaDoorBad1
import Derived.Outline

namespace Go.Proofs.YtgncdjcbphobmaaDoor
set_option linter.unusedVariables false
set_option linter.unusedSimpArgs false
open Go.RowKit
set_option maxHeartbeats 2000000 in
set_option maxRecDepth 100000 in
theorem own_low (k n : Int) (s : ByteArray) (A A' : Option Addr) (l m c c' : Nat) (w : World) (hk : ¬ (1 ≤ k ∧ k ≤ 6)) :
    Calls Tryd.prog 50 #[.agg #[.int .i64 k, .int .i64 n, .string s, .slice A l c, .slice A' m c']] w fun e w' => e = .returned (.bool false) ∧ Fr w w' := by
  have hd : decide (k < 1) = true ∨ (decide (k < 1) = false ∧ decide (6 < k) = true) := by
    by_cases h : k < 1
    · exact .inl (decide_eq_true h)
    · exact .inr ⟨decide_eq_false h, decide_eq_true (by omega)⟩
  rcases hd with h1 | ⟨h1, h2⟩
  all_goals
    go_enter Tryd.func50, Tryd.ntmps50
    go_wp2_with fail
    go_ret
    exact ⟨rfl, (Fr.refl _).alloc _⟩
set_option maxHeartbeats 2000000 in
set_option maxRecDepth 100000 in
theorem own_bare (k n : Int) (s : ByteArray) (A A' : Option Addr) (l m c c' : Nat) (w : World) (h1 : 1 ≤ k) (h6 : k ≤ 6)
    (hb : Hid (((n == 0 || k == 2 || k == 3) && (s.toList.isEmpty || k == 4) && ((l : Int) == 0 || k == 5) && ((m : Int) == 0 || k == 6)) = false)) :
    Calls Tryd.prog 50 #[.agg #[.int .i64 k, .int .i64 n, .string s, .slice A l c, .slice A' m c']] w fun e w' => e = .returned (.bool false) ∧ Fr w w' := by
  have d1 : decide (k < 1) = false := decide_eq_false (by omega)
  have d2 : decide (6 < k) = false := decide_eq_false (by omega)
  rcases (by omega : k = 1 ∨ k = 2 ∨ k = 3 ∨ k = 4 ∨ k = 5 ∨ k = 6) with rfl | rfl | rfl | rfl | rfl | rfl
  all_goals
    go_enter Tryd.func50, Tryd.ntmps50
    go_upto_region 5 with fail
    all_goals first
      | (go_ret; exact ⟨rfl, (Fr.refl _).alloc _⟩)
      | (exfalso; have h9 := hb.out; have h8 : ∀ x : Nat, ¬ 0 < x → x = 0 := (fun x h => by omega); simp_all)
end Go.Proofs.YtgncdjcbphobmaaDoor
