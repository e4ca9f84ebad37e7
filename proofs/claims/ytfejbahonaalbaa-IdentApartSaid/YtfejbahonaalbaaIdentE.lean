/- Walks of the two States. -/
import Derived.Test.YtfejbahonaalbaaIdentD
import Derived.Test.YtfejbahonaalbaaNumsB
namespace Go.Proofs.Ytfejbahonaalbaa
set_option linter.unusedVariables false
set_option linter.unusedSimpArgs false
open Go.RowKit

set_option maxHeartbeats 400000 in
theorem state_no (kind n : Int) (w : World) (h : Idn.may kind n = false) :
    Calls Try.prog 11 #[.int .i64 kind, .int .i64 n] w fun e w' => e = .returned (.string ⟨(Idn.state kind n).toArray⟩) ∧ Fr w w' := by
  have hm : Hid (Idn.state kind n = []) := by show _ = _; unfold Idn.state; rw [h]; rfl
  have H := Lib.hid h
  clear h
  go_enter Try.func11, Try.ntmps11
  go_wp2_with (go_at_call 19; refine (may_is kind n false _ H.out).mono ?_; rintro e w' ⟨rfl, rfl⟩)
  go_ret
  exact ⟨by rw [hm.out]; rfl, Fr.refl _⟩

theorem smal_is {kind : Int} (h : kind = 1 ∨ kind = 2) : smal kind = ((Idn.small kind).toNat : Int) := by
  rcases h with rfl | rfl <;> rfl

set_option maxHeartbeats 1000000 in
theorem state_yes (kind n : Int) (w : World) (h : Idn.may kind n = true) :
    Calls Try.prog 11 #[.int .i64 kind, .int .i64 n] w fun e w' => e = .returned (.string ⟨(Idn.state kind n).toArray⟩) ∧ Fr w w' := by
  have hm : Hid (Idn.state kind n = Idn.small kind :: Nm.put n) := by show _ = _; unfold Idn.state; rw [h]; rfl
  obtain ⟨hk, hn0, hn1⟩ := Idn.may_true h
  obtain ⟨x, hx⟩ : ∃ x : UInt8, Idn.small kind = x := ⟨_, rfl⟩
  have hxl : Hid (smal kind = (x.toNat : Int)) := by show _ = _; rw [smal_is hk, hx]
  obtain ⟨y, hy⟩ : ∃ y, lett kind = y := ⟨_, rfl⟩
  have HY := Lib.hid hy
  have HX := Lib.hid hx
  have H := Lib.hid h
  have hpl := Nm.put_len (n := n) (by omega) (by omega)
  clear h hx hy hk
  go_enter Try.func11, Try.ntmps11
  go_wp2_with (first | (go_at_call 19; refine (may_is kind n true _ H.out).mono ?_; rintro e w' ⟨rfl, rfl⟩) | (go_at_call 20; refine (letter_is kind y (x.toNat : Int) _ HY.out hxl.out).mono ?_; rintro e w' ⟨rfl, rfl⟩))
  go_region_with (go_at_call 22; refine (put_any n _ (by omega) (by omega)).mono ?_; rintro e w1 ⟨rfl, hw1⟩; have hc1 := hw1.cells)
  all_goals
    go_wp2
    go_ret
    refine ⟨ret_bs ?_, by repeat' (first | exact Fr.refl _ | refine Fr.alloc ?_ _ | refine Fr.drew ?_ | refine Fr.trans ?_ hw1)⟩
    rw [hm.out, data_app, HX.out]; simp

set_option maxHeartbeats 1000000 in
theorem rstate_no (kind n : Int) (w : World) (h : Idn.may kind n = false) :
    Calls Try.prog 12 #[.int .i64 kind, .int .i64 n] w fun e w' => e = .returned (.string ⟨(Idn.state kind n).toArray⟩) ∧ Fr w w' := by
  have hm : Hid (Idn.state kind n = []) := by show _ = _; unfold Idn.state; rw [h]; rfl
  rcases may_no h with ⟨h1, h2⟩ | ⟨h1 | ⟨h1, h2⟩, h3 | ⟨h3, h4⟩⟩
  all_goals
    clear h
    go_enter Try.func12, Try.ntmps12
    go_wp2_with fail
    go_ret
    exact ⟨by rw [hm.out]; rfl, Fr.refl _⟩

set_option maxHeartbeats 1000000 in
theorem rstate_yes (kind n : Int) (w : World) (h : Idn.may kind n = true) :
    Calls Try.prog 12 #[.int .i64 kind, .int .i64 n] w fun e w' => e = .returned (.string ⟨(Idn.state kind n).toArray⟩) ∧ Fr w w' := by
  have hm : Hid (Idn.state kind n = Idn.small kind :: Nm.put n) := by show _ = _; unfold Idn.state; rw [h]; rfl
  obtain ⟨hk, hn0, hn1⟩ := Idn.may_true h
  have hpl := Nm.put_len (n := n) (by omega) (by omega)
  clear h
  rcases hk with rfl | rfl
  all_goals
    go_enter Try.func12, Try.ntmps12
    go_wp2_with (go_at_call 23; refine (rput_any n.natAbs n _ (Nat.le_refl _) (by omega) (by omega)).mono ?_; rintro e w1 ⟨rfl, hw1⟩)
    go_ret
    exact ⟨ret_bs (by rw [hm.out, data_app]; rfl), hw1⟩

theorem make_any (kind n : Int) (w : World) :
    Calls Try.prog 9 #[.int .i64 kind, .int .i64 n] w fun e w' => e = .returned (.string ⟨(Idn.makeId kind n).toArray⟩) ∧ Fr w w' := by
  cases h : Idn.may kind n
  · exact make_no kind n w h
  · exact make_yes kind n w h
theorem rmake_any (kind n : Int) (w : World) :
    Calls Try.prog 10 #[.int .i64 kind, .int .i64 n] w fun e w' => e = .returned (.string ⟨(Idn.makeId kind n).toArray⟩) ∧ Fr w w' := by
  cases h : Idn.may kind n
  · exact rmake_no kind n w h
  · exact rmake_yes kind n w h
theorem state_any (kind n : Int) (w : World) :
    Calls Try.prog 11 #[.int .i64 kind, .int .i64 n] w fun e w' => e = .returned (.string ⟨(Idn.state kind n).toArray⟩) ∧ Fr w w' := by
  cases h : Idn.may kind n
  · exact state_no kind n w h
  · exact state_yes kind n w h
theorem rstate_any (kind n : Int) (w : World) :
    Calls Try.prog 12 #[.int .i64 kind, .int .i64 n] w fun e w' => e = .returned (.string ⟨(Idn.state kind n).toArray⟩) ∧ Fr w w' := by
  cases h : Idn.may kind n
  · exact rstate_no kind n w h
  · exact rstate_yes kind n w h

end Go.Proofs.Ytfejbahonaalbaa
