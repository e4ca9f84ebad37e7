/- The walk of the document's way to write a number. -/
import Derived.Test.YtfjcgbbphkfkgaaGreatDoorNa
namespace Go.Proofs.YtfjcgbbphkfkgaaGreatDoor
set_option linter.unusedVariables false
set_option linter.unusedSimpArgs false
open Go.RowKit

set_option maxHeartbeats 400000 in
theorem rput_small (n : Int) (w : World) (h : -10 < n) (h' : n < 10) :
    Calls Tryz.prog 35 #[.int .i64 n] w fun e w' => e = .returned (.string ⟨(Nm.put n).toArray⟩) ∧ Fr w w' := by
  by_cases hn : n < 0
  · go_enter Tryz.func35, Tryz.ntmps35
    go_wp2_with fail
    go_ret
    refine ⟨ret_str ?_, (Fr.refl w).alloc _⟩
    rw [Nm.put, if_pos hn, Nm.putNat_lt (by omega)]
    congr 3
    omega
  · go_enter Tryz.func35, Tryz.ntmps35
    go_wp2_with fail
    go_ret
    refine ⟨ret_str ?_, (Fr.refl w).alloc _⟩
    rw [Nm.put, if_neg (by omega), Nm.putNat_lt (by omega)]
    congr 2
    omega

set_option maxHeartbeats 1000000 in
theorem rput_any (k : Nat) : ∀ (n : Int) (w : World), n.natAbs ≤ k → -9223372036854775808 ≤ n → n ≤ 9223372036854775807 →
    Calls Tryz.prog 35 #[.int .i64 n] w fun e w' => e = .returned (.string ⟨(Nm.put n).toArray⟩) ∧ Fr w w' := by
  induction k with
  | zero => intro n w hk h h'; exact rput_small n w (by omega) (by omega)
  | succ k ih =>
    intro n w hk h h'
    by_cases hs : -10 < n ∧ n < 10
    · exact rput_small n w hs.1 hs.2
    · obtain ⟨b1, b2⟩ := Nm.tmod_bound n
      by_cases hn : n < 0
      · have hn1 : n ≤ -10 := by omega
        have hr : n.tmod 10 ≤ 0 := Nm.tmod_neg hn
        clear hs
        have hr2 : n.tdiv 10 ≤ 0 := Nm.tdiv_neg hn
        have hq := Nm.natAbs_tdiv_ten n
        have HQ := Lib.hid hq
        clear hq
        have hlen := Nm.put_len (n := n.tdiv 10) (by have := HQ.out; omega) (by omega)
        have IH := Lib.hid ih
        clear ih
        have HP := Lib.hid (Nm.put_ge (n := n) (by omega))
        have HT := Lib.hid (Nm.natAbs_tmod_ten n)
        have e1 : IntKind.i64.wrap (n.tdiv 10) = n.tdiv 10 := IntWalk.i64_in _ (by have := HQ.out; omega)
        by_cases hr0 : n.tmod 10 < 0
        · have e2 : IntKind.i64.wrap (48 + -n.tmod 10) = 48 + -n.tmod 10 := IntWalk.i64_in _ (by omega)
          have e3 : IntKind.u8.wrap (48 + -n.tmod 10) = 48 + -n.tmod 10 := IntWalk.u8_in _ (by omega)
          go_enter Tryz.func35, Tryz.ntmps35
          go_wp2_with fail
          go_region_with (go_at_call 35; refine (IH.out (n.tdiv 10) _ (by have := HQ.out; omega) (by have := HQ.out; omega) (by omega)).mono ?_; rintro e w1 ⟨rfl, hw1⟩; have hc1 := hw1.cells)
          all_goals
            go_wp2
            go_ret
            refine ⟨ret_bs ?_, by repeat' (first | exact Fr.refl _ | refine Fr.alloc ?_ _ | refine Fr.drew ?_ | refine Fr.trans ?_ hw1)⟩
            rw [HP.out, data_app]
            have h1 := HT.out
            rw [show (48 + -n.tmod 10).toNat = 48 + n.natAbs % 10 by omega]
        · have e2 : IntKind.i64.wrap (48 + n.tmod 10) = 48 + n.tmod 10 := IntWalk.i64_in _ (by omega)
          have e3 : IntKind.u8.wrap (48 + n.tmod 10) = 48 + n.tmod 10 := IntWalk.u8_in _ (by omega)
          go_enter Tryz.func35, Tryz.ntmps35
          go_wp2_with fail
          go_region_with (go_at_call 35; refine (IH.out (n.tdiv 10) _ (by have := HQ.out; omega) (by have := HQ.out; omega) (by omega)).mono ?_; rintro e w1 ⟨rfl, hw1⟩; have hc1 := hw1.cells)
          all_goals
            go_wp2
            go_ret
            refine ⟨ret_bs ?_, by repeat' (first | exact Fr.refl _ | refine Fr.alloc ?_ _ | refine Fr.drew ?_ | refine Fr.trans ?_ hw1)⟩
            rw [HP.out, data_app]
            have h1 := HT.out
            rw [show (48 + n.tmod 10).toNat = 48 + n.natAbs % 10 by omega]
      · have hn1 : 10 ≤ n := by omega
        have hr : 0 ≤ n % 10 := by omega
        clear hs
        have hq := Nm.natAbs_tdiv_ten n
        have ht := Nm.natAbs_tmod_ten n
        rw [Int.tdiv_eq_ediv_of_nonneg (by omega)] at hq
        rw [Int.tmod_eq_emod_of_nonneg (by omega)] at ht b1 b2
        have hlen := Nm.put_len (n := n / 10) (by omega) (by omega)
        have IH := Lib.hid ih
        clear ih
        have hp := Nm.put_ge (n := n) (by omega)
        rw [Int.tdiv_eq_ediv_of_nonneg (by omega)] at hp
        have HP := Lib.hid hp
        have HT := Lib.hid ht
        have HQ := Lib.hid hq
        clear hp ht hq
        have e1 : IntKind.i64.wrap (n.tdiv 10) = n / 10 := by rw [Int.tdiv_eq_ediv_of_nonneg (by omega)]; exact IntWalk.i64_in _ (by omega)
        have e2 : IntKind.i64.wrap (48 + n % 10) = 48 + n % 10 := IntWalk.i64_in _ (by omega)
        have e3 : IntKind.u8.wrap (48 + n % 10) = 48 + n % 10 := IntWalk.u8_in _ (by omega)
        go_enter Tryz.func35, Tryz.ntmps35
        go_wp2_with fail
        go_region_with (go_at_call 35; refine (IH.out (n / 10) _ (by have := HQ.out; omega) (by omega) (by omega)).mono ?_; rintro e w1 ⟨rfl, hw1⟩; have hc1 := hw1.cells)
        all_goals
          go_wp2
          go_ret
          refine ⟨ret_bs ?_, by repeat' (first | exact Fr.refl _ | refine Fr.alloc ?_ _ | refine Fr.drew ?_ | refine Fr.trans ?_ hw1)⟩
          rw [HP.out, data_app]
          have h1 := HT.out
          rw [show (48 + n % 10).toNat = 48 + n.natAbs % 10 by omega]

end Go.Proofs.YtfjcgbbphkfkgaaGreatDoor
