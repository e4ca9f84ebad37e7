/- Walks: the document's Is, Bytes. -/
import Derived.Test.YtmalfecpcdopfaaDoorUtfB
import Derived.Test.YtmalfecpcdopfaaDoorSl
namespace Go.Proofs.YtmalfecpcdopfaaDoor
set_option linter.unusedVariables false
set_option linter.unusedSimpArgs false
open Go.RowKit

set_option maxHeartbeats 1000000 in
theorem ris_is (p : Nat) (b : Bool) (w : World) (hb : p < 9223372036854775808) (h : Utf.isPt p = b) :
    Calls Tryd.prog 41 #[.int .i64 p] w fun e w' => e = .returned (.bool b) ∧ w = w' := by
  have d0 : decide ((0 : Int) ≤ (p : Int)) = true := decide_eq_true (by omega)
  have h' : (decide (p ≤ 1114111) && (decide (p < 55296) || decide (57343 < p))) = b := h
  clear h
  by_cases c1 : p ≤ 1114111
  · have d1 : decide ((p : Int) ≤ 1114111) = true := decide_eq_true (by omega)
    by_cases c2 : p < 55296
    · have d2 : decide ((p : Int) < 55296) = true := decide_eq_true (by omega)
      obtain rfl : b = true := by rw [← h']; simp; omega
      clear h'
      go_enter Tryd.func41, Tryd.ntmps41
      go_wp2_with fail
      go_ret
      exact ⟨rfl, rfl⟩
    · have d2 : decide ((p : Int) < 55296) = false := decide_eq_false (by omega)
      by_cases c3 : 57343 < p
      · have d3 : decide ((57343 : Int) < (p : Int)) = true := decide_eq_true (by omega)
        obtain rfl : b = true := by rw [← h']; simp; omega
        clear h'
        go_enter Tryd.func41, Tryd.ntmps41
        go_wp2_with fail
        go_ret
        exact ⟨rfl, rfl⟩
      · have d3 : decide ((57343 : Int) < (p : Int)) = false := decide_eq_false (by omega)
        obtain rfl : b = false := by rw [← h']; simp; omega
        clear h'
        go_enter Tryd.func41, Tryd.ntmps41
        go_wp2_with fail
        go_ret
        exact ⟨rfl, rfl⟩
  · have d1 : decide ((p : Int) ≤ 1114111) = false := decide_eq_false (by omega)
    obtain rfl : b = false := by rw [← h']; simp; omega
    clear h'
    go_enter Tryd.func41, Tryd.ntmps41
    go_wp2_with fail
    go_ret
    exact ⟨rfl, rfl⟩

set_option maxHeartbeats 1000000 in
theorem rbytes_no (p : Nat) (w : World) (hb : p < 9223372036854775808) (h : Utf.isPt p = false) :
    Calls Tryd.prog 28 #[.int .i64 p] w fun e w' => e = .returned (.slice none 0 0) ∧ w = w' := by
  have H := Lib.hid h
  clear h
  go_enter Tryd.func28, Tryd.ntmps28
  go_wp2_with (go_at_call 41; refine (ris_is p false _ hb H.out).mono ?_; rintro e w' ⟨rfl, rfl⟩)
  go_ret
  exact ⟨rfl, rfl⟩

theorem wrap8 {n : Nat} (h : n < 256) : IntKind.u8.wrap (n : Int) = (n : Int) := by rw [IntKind.wrap_u8]; omega
theorem bs_of (w : World) (l : List UInt8) (cs : Array Value) (n m : Nat) (hcs : cs = (bvs l).toArray) (hn : n = l.length) (hm : m = l.length) (hl : l.length ≤ 64) :
    Bs (w.alloc (.cells cs 5)) w.heap.size (.slice (some ⟨w.heap.size, 0, none⟩) n m) l := by
  subst hcs; subst hn; subst hm
  exact Bs.made w l (by unfold maxLen; omega)

set_option maxHeartbeats 1000000 in
set_option maxRecDepth 100000 in
theorem rbytes_is (p : Nat) (w : World) (h : Utf.isPt p = true) :
    Calls Tryd.prog 28 #[.int .i64 p] w fun e w' => ∃ v, e = .returned v ∧ Bs w' w.heap.size v (Utf.bytes p) ∧ Fr w w' := by
  have hp := Utf.isPt_iff.1 h
  have hb : p < 9223372036854775808 := by omega
  have hq : p ≤ 1114111 := hp.1
  have H := Lib.hid h
  clear h hp
  by_cases c0 : p < 128
  · have d0 : decide ((p : Int) < 128) = true := decide_eq_true (by omega)
    have hB : Hid (Utf.bytes p = [UInt8.ofNat (p)]) := by show _ = _; unfold Utf.bytes; rw [if_pos (by omega)]
    have e0 := Lib.hid (Utf.toNat_ofNat (n := p) (by omega))
    go_enter Tryd.func28, Tryd.ntmps28
    go_wp2_with (go_at_call 41; refine (ris_is p true _ hb H.out).mono ?_; rintro e w' ⟨rfl, rfl⟩)
    go_ret
    refine ⟨_, rfl, ?_, by repeat' (first | exact Fr.refl _ | refine Fr.alloc ?_ _ | refine Fr.drew ?_)⟩
    rw [hB.out]
    exact bs_of w _ _ 1 1 (by simp [bvs, e0.out]) rfl rfl (by simp)
  by_cases c1 : p < 2048
  · have d0 : decide ((p : Int) < 128) = false := decide_eq_false (by omega)
    have d1 : decide ((p : Int) < 2048) = true := decide_eq_true (by omega)
    have hB : Hid (Utf.bytes p = [UInt8.ofNat (192 + p / 64), UInt8.ofNat (128 + p % 64)]) := by show _ = _; unfold Utf.bytes; rw [if_neg (by omega), if_pos (by omega)]
    have e0 := Lib.hid (Utf.toNat_ofNat (n := 192 + p / 64) (by omega))
    have e1 := Lib.hid (Utf.toNat_ofNat (n := 128 + p % 64) (by omega))
    go_enter Tryd.func28, Tryd.ntmps28
    go_wp2_with (go_at_call 41; refine (ris_is p true _ hb H.out).mono ?_; rintro e w' ⟨rfl, rfl⟩)
    go_ret
    refine ⟨_, rfl, ?_, by repeat' (first | exact Fr.refl _ | refine Fr.alloc ?_ _ | refine Fr.drew ?_)⟩
    rw [hB.out]
    exact bs_of w _ _ 2 2 (by simp [bvs, e0.out, e1.out]; omega) rfl rfl (by simp)
  by_cases c2 : p < 65536
  · have d0 : decide ((p : Int) < 128) = false := decide_eq_false (by omega)
    have d1 : decide ((p : Int) < 2048) = false := decide_eq_false (by omega)
    have d2 : decide ((p : Int) < 65536) = true := decide_eq_true (by omega)
    have hB : Hid (Utf.bytes p = [UInt8.ofNat (224 + p / 4096), UInt8.ofNat (128 + p / 64 % 64), UInt8.ofNat (128 + p % 64)]) := by show _ = _; unfold Utf.bytes; rw [if_neg (by omega), if_neg (by omega), if_pos (by omega)]
    have e0 := Lib.hid (Utf.toNat_ofNat (n := 224 + p / 4096) (by omega))
    have e1 := Lib.hid (Utf.toNat_ofNat (n := 128 + p / 64 % 64) (by omega))
    have e2 := Lib.hid (Utf.toNat_ofNat (n := 128 + p % 64) (by omega))
    go_enter Tryd.func28, Tryd.ntmps28
    go_wp2_with (go_at_call 41; refine (ris_is p true _ hb H.out).mono ?_; rintro e w' ⟨rfl, rfl⟩)
    go_ret
    refine ⟨_, rfl, ?_, by repeat' (first | exact Fr.refl _ | refine Fr.alloc ?_ _ | refine Fr.drew ?_)⟩
    rw [hB.out]
    exact bs_of w _ _ 3 3 (by simp [bvs, e0.out, e1.out, e2.out]; omega) rfl rfl (by simp)
  have d0 : decide ((p : Int) < 128) = false := decide_eq_false (by omega)
  have d1 : decide ((p : Int) < 2048) = false := decide_eq_false (by omega)
  have d2 : decide ((p : Int) < 65536) = false := decide_eq_false (by omega)
  have hB : Hid (Utf.bytes p = [UInt8.ofNat (240 + p / 262144), UInt8.ofNat (128 + p / 4096 % 64), UInt8.ofNat (128 + p / 64 % 64), UInt8.ofNat (128 + p % 64)]) := by show _ = _; unfold Utf.bytes; rw [if_neg (by omega), if_neg (by omega), if_neg (by omega)]
  have e0 := Lib.hid (Utf.toNat_ofNat (n := 240 + p / 262144) (by omega))
  have e1 := Lib.hid (Utf.toNat_ofNat (n := 128 + p / 4096 % 64) (by omega))
  have e2 := Lib.hid (Utf.toNat_ofNat (n := 128 + p / 64 % 64) (by omega))
  have e3 := Lib.hid (Utf.toNat_ofNat (n := 128 + p % 64) (by omega))
  go_enter Tryd.func28, Tryd.ntmps28
  go_wp2_with (go_at_call 41; refine (ris_is p true _ hb H.out).mono ?_; rintro e w' ⟨rfl, rfl⟩)
  go_ret
  refine ⟨_, rfl, ?_, by repeat' (first | exact Fr.refl _ | refine Fr.alloc ?_ _ | refine Fr.drew ?_)⟩
  rw [hB.out]
  exact bs_of w _ _ 4 4 (by simp [bvs, e0.out, e1.out, e2.out, e3.out]; omega) rfl rfl (by simp)

end Go.Proofs.YtmalfecpcdopfaaDoor
