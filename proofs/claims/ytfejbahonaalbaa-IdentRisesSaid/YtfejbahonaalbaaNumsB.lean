/- Walks of the two ways to write a number. -/
import Derived.Test.YtfejbahonaalbaaNumsA
namespace Go.Proofs.Ytfejbahonaalbaa
set_option linter.unusedVariables false
set_option linter.unusedSimpArgs false
open Go.RowKit

def putCells (m : Nat) (t : List UInt8) : Array Value := ((List.replicate m 0 ++ t).map (fun c : UInt8 => Value.int .u8 c.toNat)).toArray
theorem putCells_zero : putCells 20 [] = #[.int .u8 0, .int .u8 0, .int .u8 0, .int .u8 0, .int .u8 0, .int .u8 0, .int .u8 0, .int .u8 0, .int .u8 0, .int .u8 0, .int .u8 0, .int .u8 0, .int .u8 0, .int .u8 0, .int .u8 0, .int .u8 0, .int .u8 0, .int .u8 0, .int .u8 0, .int .u8 0] := by rfl
theorem putCells_get (m : Nat) (t : List UInt8) : (putCells (m + 1) t)[m]? = some (.int .u8 0) := by
  simp [putCells, List.getElem?_append, List.getElem?_replicate]
theorem putCells_set (m : Nat) (t : List UInt8) (c : UInt8) : (putCells (m + 1) t).setIfInBounds m (.int .u8 c.toNat) = putCells m (c :: t) := by
  simp [putCells, List.set_append, List.replicate_succ', List.set_append_right]

theorem digit_is (c : UInt8) (n : Int) (w : World) (h : -9 ≤ n) (h' : n ≤ 9) (hc : UInt8.ofNat (48 + n.natAbs) = c) :
    Calls Try.prog 27 #[.int .i64 n] w fun e w' => e = .returned (.int .u8 c.toNat) ∧ w = w' := by
  refine (digit_any n w h h').mono ?_
  rintro e w' ⟨rfl, rfl⟩
  refine ⟨ret_int ?_, rfl⟩
  subst hc
  rw [UInt8.toNat_ofNat_of_lt' (by show _ < 256; omega)]
  omega

set_option maxHeartbeats 400000 in
theorem put_any (n : Int) (w : World) (h : -9223372036854775808 ≤ n) (h' : n ≤ 9223372036854775807) :
    Calls Try.prog 22 #[.int .i64 n] w fun e w' => e = .returned (.string ⟨(Nm.put n).toArray⟩) ∧ Fr w w' := by
  have hst := Lib.hid (Nm.PutInv.start n h h')
  go_enter Try.func22, Try.ntmps22
  go_wp2
  go_loopw [4, 5] (fun a v wr => ∃ (m : Nat) (r : Int) (t : List UInt8), a = .int .i64 m ∧ v = .int .i64 r ∧ wr = w.alloc (.cells (putCells m t) 46) ∧ Hid (Nm.PutInv n m r t)) (fun a _ _ => (intOf a).toNat)
  case atStart => exact ⟨20, n, [], rfl, rfl, by rw [putCells_zero], hst⟩
  case round =>
    obtain ⟨m, r, t, rfl, rfl, rfl, hi⟩ := hrel
    have hroom := hi.out.room
    have hlo := hi.out.lo
    have hhi := hi.out.hi
    obtain ⟨m, rfl⟩ : ∃ k, m = k + 1 := ⟨m - 1, by omega⟩
    have hcell : (putCells (m + 1) t)[m]? = some (.int .u8 0) := putCells_get m t
    obtain ⟨b1, b2⟩ := Nm.tmod_bound r
    obtain ⟨c, hc⟩ : ∃ c, UInt8.ofNat (48 + r.natAbs % 10) = c := ⟨_, rfl⟩
    have Hc := Lib.hid hc
    clear hc
    have hlen := hi.out.len
    have hm : m + 1 ≤ 20 := by omega
    clear hlen
    have hset := putCells_set m t c
    have hm1 : (putCells m (c :: t))[m - 1]? = some (.int .u8 0) := by
      obtain ⟨j, rfl⟩ : ∃ j, m = j + 1 := ⟨m - 1, by omega⟩
      exact putCells_get j (c :: t)
    have hconv : ∀ (k : Nat) (l : List UInt8), k + l.length = 20 → k < 20 → ∃ v, v = l ∧ (Instr.sliceAt 46 (.pointer (some ⟨w.heap.size, 0, none⟩)) (some (.int .i64 k)) none none).run Try.prog (w.alloc (.cells (putCells k l) 46)) = .ok (.slice (some ⟨w.heap.size, k, none⟩) v.length v.length) (w.alloc (.cells (putCells k l) 46))
        ∧ (convert 39 9 (.slice (some ⟨w.heap.size, k, none⟩) v.length v.length)).run Try.prog (w.alloc (.cells (putCells k l) 46)) = .ok (.string ⟨l.toArray⟩) (w.alloc (.cells (putCells k l) 46)) := by
      intro k l hk hk2
      refine ⟨l, rfl, ?_, ?_⟩
      · rw [run_sliceAt_from _ 46 5 20 k _ Try.underlying46 (by kernel_rfl) (by kernel_rfl) (by kernel_rfl) hk2]
        rw [show 20 - k = l.length by omega]
      · refine run_convert_row _ _ _ 5 _ _ _ l Try.underlying39 Try.underlying5 Try.underlying9 ?_
        intro j hj
        rw [World.cell?_alloc_new]
        simp [putCells, List.getElem?_append, List.getD, List.getElem?_eq_getElem hj]
    by_cases hz : r.tdiv 10 = 0
    · have Hz : (r.tdiv 10 == 0) = true := by simp [hz]
      have hst := hi.out.stop hz
      have Hst := Lib.hid hst
      have Hzz := Lib.hid hz
      clear hz hst
      by_cases hn : n < 0
      · obtain ⟨m, rfl⟩ : ∃ k, m = k + 1 := ⟨m - 1, by omega⟩
        obtain ⟨v, hv, hc1, hc2⟩ := hconv m (45 :: c :: t) (by have := hi.out.len; simp; omega) (by omega)
        have Hv := Lib.hid hv
        clear hv hconv
        have hset2 : (putCells (m + 1) (c :: t)).setIfInBounds m (.int .u8 45) = putCells m (45 :: c :: t) := putCells_set m (c :: t) 45
        have hcell2 : (putCells (m + 1) (c :: t))[m]? = some (.int .u8 0) := putCells_get m (c :: t)
        clear hm1
        go_wp2_with fail
        refine (digit_is c (r.tmod 10) _ b1 b2 (by rw [Nm.natAbs_tmod_ten]; exact Hc.out)).mono ?_
        rintro e w' ⟨rfl, rfl⟩
        go_wp2
        go_ret
        refine ⟨ret_str ?_, (Fr.refl w).alloc _⟩
        rw [Nm.put, if_pos hn, Hst.out, ← Hc.out]
      · obtain ⟨v, hv, hc1, hc2⟩ := hconv m (c :: t) (by have := hi.out.len; simp; omega) (by omega)
        have Hv := Lib.hid hv
        clear hv hconv
        go_wp2_with fail
        refine (digit_is c (r.tmod 10) _ b1 b2 (by rw [Nm.natAbs_tmod_ten]; exact Hc.out)).mono ?_
        rintro e w' ⟨rfl, rfl⟩
        go_wp2
        go_ret
        refine ⟨ret_str ?_, (Fr.refl w).alloc _⟩
        rw [Nm.put, if_neg (by omega), Hst.out, ← Hc.out]
    · have Hz : (r.tdiv 10 == 0) = false := by simp [hz]
      have hst := hi.out.step hz
      rw [Hc.out] at hst
      have Hst := Lib.hid hst
      clear hz hst hconv
      go_wp2_with fail
      refine (digit_is c (r.tmod 10) _ b1 b2 (by rw [Nm.natAbs_tmod_ten]; exact Hc.out)).mono ?_
      rintro e w' ⟨rfl, rfl⟩
      go_wp2
      exact ⟨⟨m, r.tdiv 10, c :: t, rfl, rfl, rfl, Hst⟩, by simp [intOf]⟩

set_option maxHeartbeats 400000 in
theorem rput_small (n : Int) (w : World) (h : -10 < n) (h' : n < 10) :
    Calls Try.prog 23 #[.int .i64 n] w fun e w' => e = .returned (.string ⟨(Nm.put n).toArray⟩) ∧ Fr w w' := by
  by_cases hn : n < 0
  · go_enter Try.func23, Try.ntmps23
    go_wp2_with fail
    go_ret
    refine ⟨ret_str ?_, (Fr.refl w).alloc _⟩
    rw [Nm.put, if_pos hn, Nm.putNat_lt (by omega)]
    congr 3
    omega
  · go_enter Try.func23, Try.ntmps23
    go_wp2_with fail
    go_ret
    refine ⟨ret_str ?_, (Fr.refl w).alloc _⟩
    rw [Nm.put, if_neg (by omega), Nm.putNat_lt (by omega)]
    congr 2
    omega

set_option maxHeartbeats 1000000 in
theorem rput_any (k : Nat) : ∀ (n : Int) (w : World), n.natAbs ≤ k → -9223372036854775808 ≤ n → n ≤ 9223372036854775807 →
    Calls Try.prog 23 #[.int .i64 n] w fun e w' => e = .returned (.string ⟨(Nm.put n).toArray⟩) ∧ Fr w w' := by
  induction k with
  | zero => intro n w hk h h'; exact rput_small n w (by omega) (by omega)
  | succ k ih =>
    intro n w hk h h'
    by_cases hs : -10 < n ∧ n < 10
    · exact rput_small n w hs.1 hs.2
    · obtain ⟨b1, b2⟩ := Nm.tmod_bound n
      by_cases hn : n < 0
      · have hn1 : n ≤ -10 := by omega
        have hr : n.tmod 10 ≤ 0 := Nm.tmod_neg hn
        clear hs
        have hr2 : n.tdiv 10 ≤ 0 := Nm.tdiv_neg hn
        have hq := Nm.natAbs_tdiv_ten n
        have HQ := Lib.hid hq
        clear hq
        have hlen := Nm.put_len (n := n.tdiv 10) (by have := HQ.out; omega) (by omega)
        have IH := Lib.hid ih
        clear ih
        have HP := Lib.hid (Nm.put_ge (n := n) (by omega))
        have HT := Lib.hid (Nm.natAbs_tmod_ten n)
        have e1 : IntKind.i64.wrap (n.tdiv 10) = n.tdiv 10 := IntWalk.i64_in _ (by have := HQ.out; omega)
        by_cases hr0 : n.tmod 10 < 0
        · have e2 : IntKind.i64.wrap (48 + -n.tmod 10) = 48 + -n.tmod 10 := IntWalk.i64_in _ (by omega)
          have e3 : IntKind.u8.wrap (48 + -n.tmod 10) = 48 + -n.tmod 10 := IntWalk.u8_in _ (by omega)
          go_enter Try.func23, Try.ntmps23
          go_wp2_with fail
          go_region_with (go_at_call 23; refine (IH.out (n.tdiv 10) _ (by have := HQ.out; omega) (by have := HQ.out; omega) (by omega)).mono ?_; rintro e w1 ⟨rfl, hw1⟩; have hc1 := hw1.cells)
          all_goals
            go_wp2
            go_ret
            refine ⟨ret_bs ?_, by repeat' (first | exact Fr.refl _ | refine Fr.alloc ?_ _ | refine Fr.drew ?_ | refine Fr.trans ?_ hw1)⟩
            rw [HP.out, data_app]
            have h1 := HT.out
            rw [show (48 + -n.tmod 10).toNat = 48 + n.natAbs % 10 by omega]
        · have e2 : IntKind.i64.wrap (48 + n.tmod 10) = 48 + n.tmod 10 := IntWalk.i64_in _ (by omega)
          have e3 : IntKind.u8.wrap (48 + n.tmod 10) = 48 + n.tmod 10 := IntWalk.u8_in _ (by omega)
          go_enter Try.func23, Try.ntmps23
          go_wp2_with fail
          go_region_with (go_at_call 23; refine (IH.out (n.tdiv 10) _ (by have := HQ.out; omega) (by have := HQ.out; omega) (by omega)).mono ?_; rintro e w1 ⟨rfl, hw1⟩; have hc1 := hw1.cells)
          all_goals
            go_wp2
            go_ret
            refine ⟨ret_bs ?_, by repeat' (first | exact Fr.refl _ | refine Fr.alloc ?_ _ | refine Fr.drew ?_ | refine Fr.trans ?_ hw1)⟩
            rw [HP.out, data_app]
            have h1 := HT.out
            rw [show (48 + n.tmod 10).toNat = 48 + n.natAbs % 10 by omega]
      · have hn1 : 10 ≤ n := by omega
        have hr : 0 ≤ n % 10 := by omega
        clear hs
        have hq := Nm.natAbs_tdiv_ten n
        have ht := Nm.natAbs_tmod_ten n
        rw [Int.tdiv_eq_ediv_of_nonneg (by omega)] at hq
        rw [Int.tmod_eq_emod_of_nonneg (by omega)] at ht b1 b2
        have hlen := Nm.put_len (n := n / 10) (by omega) (by omega)
        have IH := Lib.hid ih
        clear ih
        have hp := Nm.put_ge (n := n) (by omega)
        rw [Int.tdiv_eq_ediv_of_nonneg (by omega)] at hp
        have HP := Lib.hid hp
        have HT := Lib.hid ht
        have HQ := Lib.hid hq
        clear hp ht hq
        have e1 : IntKind.i64.wrap (n.tdiv 10) = n / 10 := by rw [Int.tdiv_eq_ediv_of_nonneg (by omega)]; exact IntWalk.i64_in _ (by omega)
        have e2 : IntKind.i64.wrap (48 + n % 10) = 48 + n % 10 := IntWalk.i64_in _ (by omega)
        have e3 : IntKind.u8.wrap (48 + n % 10) = 48 + n % 10 := IntWalk.u8_in _ (by omega)
        go_enter Try.func23, Try.ntmps23
        go_wp2_with fail
        go_region_with (go_at_call 23; refine (IH.out (n / 10) _ (by have := HQ.out; omega) (by omega) (by omega)).mono ?_; rintro e w1 ⟨rfl, hw1⟩; have hc1 := hw1.cells)
        all_goals
          go_wp2
          go_ret
          refine ⟨ret_bs ?_, by repeat' (first | exact Fr.refl _ | refine Fr.alloc ?_ _ | refine Fr.drew ?_ | refine Fr.trans ?_ hw1)⟩
          rw [HP.out, data_app]
          have h1 := HT.out
          rw [show (48 + n % 10).toNat = 48 + n.natAbs % 10 by omega]

end Go.Proofs.Ytfejbahonaalbaa
