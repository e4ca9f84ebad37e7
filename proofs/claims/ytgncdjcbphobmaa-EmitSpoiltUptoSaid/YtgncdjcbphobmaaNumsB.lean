/- The walk of nums.Put. -/
import Derived.Test.YtgncdjcbphobmaaNumsAd
namespace Go.Proofs.Ytgncdjcbphobmaa
set_option linter.unusedVariables false
set_option linter.unusedSimpArgs false
open Go.RowKit

def putCells (m : Nat) (t : List UInt8) : Array Value := ((List.replicate m 0 ++ t).map (fun c : UInt8 => Value.int .u8 c.toNat)).toArray
theorem putCells_zero : putCells 20 [] = #[.int .u8 0, .int .u8 0, .int .u8 0, .int .u8 0, .int .u8 0, .int .u8 0, .int .u8 0, .int .u8 0, .int .u8 0, .int .u8 0, .int .u8 0, .int .u8 0, .int .u8 0, .int .u8 0, .int .u8 0, .int .u8 0, .int .u8 0, .int .u8 0, .int .u8 0, .int .u8 0] := by rfl
theorem putCells_get (m : Nat) (t : List UInt8) : (putCells (m + 1) t)[m]? = some (.int .u8 0) := by
  simp [putCells, List.getElem?_append, List.getElem?_replicate]
theorem putCells_set (m : Nat) (t : List UInt8) (c : UInt8) : (putCells (m + 1) t).setIfInBounds m (.int .u8 c.toNat) = putCells m (c :: t) := by
  simp [putCells, List.set_append, List.replicate_succ', List.set_append_right]

theorem digit_is (c : UInt8) (n : Int) (w : World) (h : -9 ≤ n) (h' : n ≤ 9) (hc : UInt8.ofNat (48 + n.natAbs) = c) :
    Calls Try.prog 16 #[.int .i64 n] w fun e w' => e = .returned (.int .u8 c.toNat) ∧ w = w' := by
  refine (digit_any n w h h').mono ?_
  rintro e w' ⟨rfl, rfl⟩
  refine ⟨ret_int ?_, rfl⟩
  subst hc
  rw [UInt8.toNat_ofNat_of_lt' (by show _ < 256; omega)]
  omega

set_option maxHeartbeats 400000 in
set_option maxRecDepth 100000 in
theorem put_any (n : Int) (w : World) (h : -9223372036854775808 ≤ n) (h' : n ≤ 9223372036854775807) :
    Calls Try.prog 13 #[.int .i64 n] w fun e w' => e = .returned (.string ⟨(Nm.put n).toArray⟩) ∧ Fr w w' := by
  have hst := Lib.hid (Nm.PutInv.start n h h')
  go_enter Try.func13, Try.ntmps13
  go_wp2
  go_loopw [4, 5] (fun a v wr => ∃ (m : Nat) (r : Int) (t : List UInt8), a = .int .i64 m ∧ v = .int .i64 r ∧ wr = w.alloc (.cells (putCells m t) 45) ∧ Hid (Nm.PutInv n m r t)) (fun a _ _ => (intOf a).toNat)
  case atStart => exact ⟨20, n, [], rfl, rfl, by rw [putCells_zero], hst⟩
  case round =>
    obtain ⟨m, r, t, rfl, rfl, rfl, hi⟩ := hrel
    have hroom := hi.out.room
    have hlo := hi.out.lo
    have hhi := hi.out.hi
    obtain ⟨m, rfl⟩ : ∃ k, m = k + 1 := ⟨m - 1, by omega⟩
    have hcell : (putCells (m + 1) t)[m]? = some (.int .u8 0) := putCells_get m t
    obtain ⟨b1, b2⟩ := Nm.tmod_bound r
    obtain ⟨c, hc⟩ : ∃ c, UInt8.ofNat (48 + r.natAbs % 10) = c := ⟨_, rfl⟩
    have Hc := Lib.hid hc
    clear hc
    have hlen := hi.out.len
    have hm : m + 1 ≤ 20 := by omega
    clear hlen
    have hset := putCells_set m t c
    have hm1 : (putCells m (c :: t))[m - 1]? = some (.int .u8 0) := by
      obtain ⟨j, rfl⟩ : ∃ j, m = j + 1 := ⟨m - 1, by omega⟩
      exact putCells_get j (c :: t)
    have hconv : ∀ (k : Nat) (l : List UInt8), k + l.length = 20 → k < 20 → ∃ v, v = l ∧ (Instr.sliceAt 45 (.pointer (some ⟨w.heap.size, 0, none⟩)) (some (.int .i64 k)) none none).run Try.prog (w.alloc (.cells (putCells k l) 45)) = .ok (.slice (some ⟨w.heap.size, k, none⟩) v.length v.length) (w.alloc (.cells (putCells k l) 45))
        ∧ (convert 36 9 (.slice (some ⟨w.heap.size, k, none⟩) v.length v.length)).run Try.prog (w.alloc (.cells (putCells k l) 45)) = .ok (.string ⟨l.toArray⟩) (w.alloc (.cells (putCells k l) 45)) := by
      intro k l hk hk2
      refine ⟨l, rfl, ?_, ?_⟩
      · rw [run_sliceAt_from _ 45 5 20 k _ Try.underlying45 (by kernel_rfl) (by kernel_rfl) (by kernel_rfl) hk2]
        rw [show 20 - k = l.length by omega]
      · refine run_convert_row _ _ _ 5 _ _ _ l Try.underlying36 Try.underlying5 Try.underlying9 ?_
        intro j hj
        rw [World.cell?_alloc_new]
        simp [putCells, List.getElem?_append, List.getD, List.getElem?_eq_getElem hj]
    by_cases hz : r.tdiv 10 = 0
    · have Hz : (r.tdiv 10 == 0) = true := by simp [hz]
      have hst := hi.out.stop hz
      have Hst := Lib.hid hst
      have Hzz := Lib.hid hz
      clear hz hst
      by_cases hn : n < 0
      · obtain ⟨m, rfl⟩ : ∃ k, m = k + 1 := ⟨m - 1, by omega⟩
        obtain ⟨v, hv, hc1, hc2⟩ := hconv m (45 :: c :: t) (by have := hi.out.len; simp; omega) (by omega)
        have Hv := Lib.hid hv
        clear hv hconv
        have hset2 : (putCells (m + 1) (c :: t)).setIfInBounds m (.int .u8 45) = putCells m (45 :: c :: t) := putCells_set m (c :: t) 45
        have hcell2 : (putCells (m + 1) (c :: t))[m]? = some (.int .u8 0) := putCells_get m (c :: t)
        clear hm1
        go_wp2_with fail
        refine (digit_is c (r.tmod 10) _ b1 b2 (by rw [Nm.natAbs_tmod_ten]; exact Hc.out)).mono ?_
        rintro e w' ⟨rfl, rfl⟩
        go_wp2
        go_ret
        refine ⟨ret_str ?_, (Fr.refl w).alloc _⟩
        rw [Nm.put, if_pos hn, Hst.out, ← Hc.out]
      · obtain ⟨v, hv, hc1, hc2⟩ := hconv m (c :: t) (by have := hi.out.len; simp; omega) (by omega)
        have Hv := Lib.hid hv
        clear hv hconv
        go_wp2_with fail
        refine (digit_is c (r.tmod 10) _ b1 b2 (by rw [Nm.natAbs_tmod_ten]; exact Hc.out)).mono ?_
        rintro e w' ⟨rfl, rfl⟩
        go_wp2
        go_ret
        refine ⟨ret_str ?_, (Fr.refl w).alloc _⟩
        rw [Nm.put, if_neg (by omega), Hst.out, ← Hc.out]
    · have Hz : (r.tdiv 10 == 0) = false := by simp [hz]
      have hst := hi.out.step hz
      rw [Hc.out] at hst
      have Hst := Lib.hid hst
      clear hz hst hconv
      go_wp2_with fail
      refine (digit_is c (r.tmod 10) _ b1 b2 (by rw [Nm.natAbs_tmod_ten]; exact Hc.out)).mono ?_
      rintro e w' ⟨rfl, rfl⟩
      go_wp2
      exact ⟨⟨m, r.tdiv 10, c :: t, rfl, rfl, rfl, Hst⟩, by simp [intOf]⟩

end Go.Proofs.Ytgncdjcbphobmaa
