/- The walk of utf.Put. -/
import Derived.Test.YtmalfecpcdopfaaDoorUtfE
namespace Go.Proofs.YtmalfecpcdopfaaDoor
set_option linter.unusedVariables false
set_option linter.unusedSimpArgs false
open Go.RowKit

theorem i32_and63 (x : Nat) (h : x < 2147483648) : bits BinOp.and IntKind.i32 (x : Int) 63 = ((x % 64 : Nat) : Int) := by
  have := bits_mask .i32 31 (by decide) wraps_i32 6 (by decide) (x : Int) (by omega) (by omega)
  have e : bits BinOp.and IntKind.i32 (x : Int) 63 = (x : Int) % 2 ^ 6 := this
  rw [e]; omega
theorem i32_or_head (h : Int) (r i : Nat) (hi : i ≤ 8) (h0 : 0 ≤ h) (h1 : h < 256) (hm : h % 2 ^ i = 0) (hr : (r : Int) < 2 ^ i) (hr2 : r < 256) : bits BinOp.or IntKind.i32 h (r : Int) = h + r :=
  bits_join .i32 31 (by decide) wraps_i32 i h r h0 hm (by omega) (by omega) hr (by omega)

set_option maxHeartbeats 1000000 in
theorem low_0 (b p : Nat) (w : World) (hp : p ≤ 1114111) (hc : w.cell? ⟨b, 0, none⟩ = some (.int .i32 p)) :
    Calls Tryd.prog 50 #[.int .u64 0, .pointer (some ⟨b, 0, none⟩)] w fun e w' => e = .returned (.int .u8 ((128 + p % 64 : Nat) : Int)) ∧ w = w' := by
  obtain ⟨q, hq⟩ : ∃ q : Nat, p = q := ⟨_, rfl⟩
  have hqi : (p : Int) = (q : Int) := by omega
  have h1 : bits BinOp.and IntKind.i32 (q : Int) 63 = (q : Int) % 64 := by rw [i32_and63 q (by omega)]; omega
  have h2 : bits BinOp.or IntKind.i32 128 ((q : Int) % 64) = 128 + (q : Int) % 64 := by
    have := i32_or_head 128 (q % 64) 6 (by omega) (by omega) (by omega) (by decide) (by omega) (by omega)
    rw [show (q : Int) % 64 = ((q % 64 : Nat) : Int) by omega, this]
  rw [hq]
  clear hq
  go_enter Tryd.func50, Tryd.ntmps50
  go_wp2_with fail
  go_ret
  exact ⟨ret_int (by omega), rfl⟩

set_option maxHeartbeats 1000000 in
theorem low_6 (b p : Nat) (w : World) (hp : p ≤ 1114111) (hc : w.cell? ⟨b, 0, none⟩ = some (.int .i32 p)) :
    Calls Tryd.prog 50 #[.int .u64 6, .pointer (some ⟨b, 0, none⟩)] w fun e w' => e = .returned (.int .u8 ((128 + p / 64 % 64 : Nat) : Int)) ∧ w = w' := by
  obtain ⟨q, hq⟩ : ∃ q : Nat, p / 64 = q := ⟨_, rfl⟩
  have hqi : (p : Int) / 64 = (q : Int) := by omega
  have h1 : bits BinOp.and IntKind.i32 (q : Int) 63 = (q : Int) % 64 := by rw [i32_and63 q (by omega)]; omega
  have h2 : bits BinOp.or IntKind.i32 128 ((q : Int) % 64) = 128 + (q : Int) % 64 := by
    have := i32_or_head 128 (q % 64) 6 (by omega) (by omega) (by omega) (by decide) (by omega) (by omega)
    rw [show (q : Int) % 64 = ((q % 64 : Nat) : Int) by omega, this]
  rw [hq]
  clear hq
  go_enter Tryd.func50, Tryd.ntmps50
  go_wp2_with fail
  go_ret
  exact ⟨ret_int (by omega), rfl⟩

set_option maxHeartbeats 1000000 in
theorem low_12 (b p : Nat) (w : World) (hp : p ≤ 1114111) (hc : w.cell? ⟨b, 0, none⟩ = some (.int .i32 p)) :
    Calls Tryd.prog 50 #[.int .u64 12, .pointer (some ⟨b, 0, none⟩)] w fun e w' => e = .returned (.int .u8 ((128 + p / 4096 % 64 : Nat) : Int)) ∧ w = w' := by
  obtain ⟨q, hq⟩ : ∃ q : Nat, p / 4096 = q := ⟨_, rfl⟩
  have hqi : (p : Int) / 4096 = (q : Int) := by omega
  have h1 : bits BinOp.and IntKind.i32 (q : Int) 63 = (q : Int) % 64 := by rw [i32_and63 q (by omega)]; omega
  have h2 : bits BinOp.or IntKind.i32 128 ((q : Int) % 64) = 128 + (q : Int) % 64 := by
    have := i32_or_head 128 (q % 64) 6 (by omega) (by omega) (by omega) (by decide) (by omega) (by omega)
    rw [show (q : Int) % 64 = ((q % 64 : Nat) : Int) by omega, this]
  rw [hq]
  clear hq
  go_enter Tryd.func50, Tryd.ntmps50
  go_wp2_with fail
  go_ret
  exact ⟨ret_int (by omega), rfl⟩


set_option maxHeartbeats 4000000 in
set_option maxRecDepth 100000 in
theorem put_pt (p : Nat) (w : World) (h : Utf.isPt p = true) :
    Calls Tryd.prog 44 #[.int .i32 p] w fun e w' => e = .returned (.string ⟨(Utf.bytes p).toArray⟩) ∧ Fr w w' := by
  have hp := Utf.isPt_iff.1 h
  have hq : p ≤ 1114111 := hp.1
  have d0 : decide ((p : Int) < 0) = false := decide_eq_false (by omega)
  have d1 : decide ((1114111 : Int) < (p : Int)) = false := decide_eq_false (by omega)
  clear h
  by_cases c1 : p < 128
  · have e1 : decide ((p : Int) < 128) = true := decide_eq_true (by omega)
    have e3 : decide ((55296 : Int) ≤ (p : Int)) = false := decide_eq_false (by omega)
    clear hp
    go_enter Tryd.func44, Tryd.ntmps44
    go_wp2_with fail
    go_ret
    refine ⟨?_, by repeat' (first | exact Fr.refl _ | refine Fr.alloc ?_ _ | refine Fr.drew ?_)⟩
    rw [show Utf.bytes p = [UInt8.ofNat p] by unfold Utf.bytes; rw [if_pos c1]]
    rfl
  have e1 : decide ((p : Int) < 128) = false := decide_eq_false (by omega)
  have hc1 : (w.alloc (.cells #[.int .i32 p] 21)).cell? ⟨w.heap.size, 0, none⟩ = some (.int .i32 p) := by
    rw [World.cell?_alloc_at _ _ _ _ rfl]; rfl
  by_cases c2 : p < 2048
  · have e2 : decide ((p : Int) < 2048) = true := decide_eq_true (by omega)
    have hB : Hid (Utf.bytes p = [UInt8.ofNat (192 + p / 64), UInt8.ofNat (128 + p % 64)]) := by show _ = _; unfold Utf.bytes; rw [if_neg (by omega), if_pos (by omega)]
    have ho : bits BinOp.or IntKind.i32 192 ((p : Int) / 64) = 192 + (p : Int) / 64 := by
      have := i32_or_head 192 (p / 64) 6 (by omega) (by omega) (by omega) (by decide) (by omega) (by omega)
      rw [show (p : Int) / 64 = ((p / 64 : Nat) : Int) by omega, this]
    have hw : IntKind.u8.wrap (192 + (p : Int) / 64) = 192 + (p : Int) / 64 := by rw [IntKind.wrap_u8]; omega
    have t0 : (192 + (p : Int) / 64).toNat = 192 + p / 64 := by omega
    have t1 : (128 + (p : Int) % 64).toNat = 128 + p % 64 := by omega
    have T0 := Lib.hid t0
    have T1 := Lib.hid t1
    clear t0 t1
    have e9 : decide ((55296 : Int) ≤ (p : Int)) = false := decide_eq_false (by omega)
    clear hp
    go_enter Tryd.func44, Tryd.ntmps44
    go_wp2_with fail
    go_region_with (first | (go_at_call_of 50 (Value.int .u64 0); refine (low_0 _ p _ hq (by exact hc1)).mono ?_; rintro e w' ⟨rfl, rfl⟩))
    all_goals (try go_wp2_with fail)
    all_goals
      go_ret
      exact ⟨congrArg (fun x => Ending.returned (Value.string ⟨x⟩)) (by show #[UInt8.ofNat (192 + (p : Int) / 64).toNat, UInt8.ofNat (128 + (p : Int) % 64).toNat] = _; rw [hB.out, T0.out, T1.out]), by repeat' (first | exact Fr.refl _ | refine Fr.alloc ?_ _ | refine Fr.drew ?_)⟩
  by_cases c3 : p < 65536
  · have e2 : decide ((p : Int) < 2048) = false := decide_eq_false (by omega)
    have e3 : decide ((p : Int) < 65536) = true := decide_eq_true (by omega)
    have hB : Hid (Utf.bytes p = [UInt8.ofNat (224 + p / 4096), UInt8.ofNat (128 + p / 64 % 64), UInt8.ofNat (128 + p % 64)]) := by show _ = _; unfold Utf.bytes; rw [if_neg (by omega), if_neg (by omega), if_pos (by omega)]
    have ho : bits BinOp.or IntKind.i32 224 ((p : Int) / 4096) = 224 + (p : Int) / 4096 := by
      have := i32_or_head 224 (p / 4096) 4 (by omega) (by omega) (by omega) (by decide) (by omega) (by omega)
      rw [show (p : Int) / 4096 = ((p / 4096 : Nat) : Int) by omega, this]
    have hw : IntKind.u8.wrap (224 + (p : Int) / 4096) = 224 + (p : Int) / 4096 := by rw [IntKind.wrap_u8]; omega
    have t0 : (224 + (p : Int) / 4096).toNat = 224 + p / 4096 := by omega
    have t1 : (128 + (p : Int) / 64 % 64).toNat = 128 + p / 64 % 64 := by omega
    have t2 : (128 + (p : Int) % 64).toNat = 128 + p % 64 := by omega
    have T0 := Lib.hid t0
    have T1 := Lib.hid t1
    have T2 := Lib.hid t2
    clear t0 t1 t2
    by_cases c9 : p < 55296
    · have e9 : decide ((55296 : Int) ≤ (p : Int)) = false := decide_eq_false (by omega)
      clear hp
      go_enter Tryd.func44, Tryd.ntmps44
      go_wp2_with fail
      go_region_with (first | (go_at_call_of 50 (Value.int .u64 6); refine (low_6 _ p _ hq (by exact hc1)).mono ?_; rintro e w' ⟨rfl, rfl⟩) | (go_at_call_of 50 (Value.int .u64 0); refine (low_0 _ p _ hq (by exact hc1)).mono ?_; rintro e w' ⟨rfl, rfl⟩))
      all_goals (try go_wp2_with fail)
      all_goals
        go_ret
        exact ⟨congrArg (fun x => Ending.returned (Value.string ⟨x⟩)) (by show #[UInt8.ofNat (224 + (p : Int) / 4096).toNat, UInt8.ofNat (128 + (p : Int) / 64 % 64).toNat, UInt8.ofNat (128 + (p : Int) % 64).toNat] = _; rw [hB.out, T0.out, T1.out, T2.out]), by repeat' (first | exact Fr.refl _ | refine Fr.alloc ?_ _ | refine Fr.drew ?_)⟩
    · have e9 : decide ((55296 : Int) ≤ (p : Int)) = true := decide_eq_true (by omega)
      have e10 : decide ((p : Int) ≤ 57343) = false := decide_eq_false (by omega)
      clear hp
      go_enter Tryd.func44, Tryd.ntmps44
      go_wp2_with fail
      go_region_with (first | (go_at_call_of 50 (Value.int .u64 6); refine (low_6 _ p _ hq (by exact hc1)).mono ?_; rintro e w' ⟨rfl, rfl⟩) | (go_at_call_of 50 (Value.int .u64 0); refine (low_0 _ p _ hq (by exact hc1)).mono ?_; rintro e w' ⟨rfl, rfl⟩))
      all_goals (try go_wp2_with fail)
      all_goals
        go_ret
        exact ⟨congrArg (fun x => Ending.returned (Value.string ⟨x⟩)) (by show #[UInt8.ofNat (224 + (p : Int) / 4096).toNat, UInt8.ofNat (128 + (p : Int) / 64 % 64).toNat, UInt8.ofNat (128 + (p : Int) % 64).toNat] = _; rw [hB.out, T0.out, T1.out, T2.out]), by repeat' (first | exact Fr.refl _ | refine Fr.alloc ?_ _ | refine Fr.drew ?_)⟩
  have e2 : decide ((p : Int) < 2048) = false := decide_eq_false (by omega)
  have e3 : decide ((p : Int) < 65536) = false := decide_eq_false (by omega)
  have hB : Hid (Utf.bytes p = [UInt8.ofNat (240 + p / 262144), UInt8.ofNat (128 + p / 4096 % 64), UInt8.ofNat (128 + p / 64 % 64), UInt8.ofNat (128 + p % 64)]) := by show _ = _; unfold Utf.bytes; rw [if_neg (by omega), if_neg (by omega), if_neg (by omega)]
  have ho : bits BinOp.or IntKind.i32 240 ((p : Int) / 262144) = 240 + (p : Int) / 262144 := by
    have := i32_or_head 240 (p / 262144) 3 (by omega) (by omega) (by omega) (by decide) (by omega) (by omega)
    rw [show (p : Int) / 262144 = ((p / 262144 : Nat) : Int) by omega, this]
  have hw : IntKind.u8.wrap (240 + (p : Int) / 262144) = 240 + (p : Int) / 262144 := by rw [IntKind.wrap_u8]; omega
  have t0 : (240 + (p : Int) / 262144).toNat = 240 + p / 262144 := by omega
  have t1 : (128 + (p : Int) / 4096 % 64).toNat = 128 + p / 4096 % 64 := by omega
  have t2 : (128 + (p : Int) / 64 % 64).toNat = 128 + p / 64 % 64 := by omega
  have t3 : (128 + (p : Int) % 64).toNat = 128 + p % 64 := by omega
  have T0 := Lib.hid t0
  have T1 := Lib.hid t1
  have T2 := Lib.hid t2
  have T3 := Lib.hid t3
  clear t0 t1 t2 t3
  have e9 : decide ((55296 : Int) ≤ (p : Int)) = true := decide_eq_true (by omega)
  have e10 : decide ((p : Int) ≤ 57343) = false := decide_eq_false (by omega)
  clear hp
  go_enter Tryd.func44, Tryd.ntmps44
  go_wp2_with fail
  go_region_with (first | (go_at_call_of 50 (Value.int .u64 12); refine (low_12 _ p _ hq (by exact hc1)).mono ?_; rintro e w' ⟨rfl, rfl⟩) | (go_at_call_of 50 (Value.int .u64 6); refine (low_6 _ p _ hq (by exact hc1)).mono ?_; rintro e w' ⟨rfl, rfl⟩) | (go_at_call_of 50 (Value.int .u64 0); refine (low_0 _ p _ hq (by exact hc1)).mono ?_; rintro e w' ⟨rfl, rfl⟩))
  all_goals (try go_wp2_with fail)
  all_goals
    go_ret
    exact ⟨congrArg (fun x => Ending.returned (Value.string ⟨x⟩)) (by show #[UInt8.ofNat (240 + (p : Int) / 262144).toNat, UInt8.ofNat (128 + (p : Int) / 4096 % 64).toNat, UInt8.ofNat (128 + (p : Int) / 64 % 64).toNat, UInt8.ofNat (128 + (p : Int) % 64).toNat] = _; rw [hB.out, T0.out, T1.out, T2.out, T3.out]), by repeat' (first | exact Fr.refl _ | refine Fr.alloc ?_ _ | refine Fr.drew ?_)⟩
/-- The bytes of a point as a text. -/
def ptV (p : Nat) : Value := .string ⟨(Utf.bytes p).toArray⟩

end Go.Proofs.YtmalfecpcdopfaaDoor
