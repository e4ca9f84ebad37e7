/- awake of chapter 3, and the laws on Put, Read and All against the reference. -/
import Derived.Test.YthiolmjamcopmaaNumsG
namespace Go.Proofs.Ythiolmjamcopmaa
set_option linter.unusedVariables false
set_option linter.unusedSimpArgs false
open Go.RowKit

theorem all_some (s : ByteArray) (n : Int) (w : World) (hs : s.size ≤ maxLen) (h : Nm.allNum s.data.toList = some n) :
    Calls Try.prog 13 #[.string s] w fun e w' => e = .returned (.tuple #[.int .i64 n, .bool true]) ∧ Fr w w' := by
  have := all_any s w hs; rw [h] at this; exact this
theorem all_none (s : ByteArray) (w : World) (hs : s.size ≤ maxLen) (h : Nm.allNum s.data.toList = none) :
    Calls Try.prog 13 #[.string s] w fun e w' => e = .returned (.tuple #[.int .i64 0, .bool false]) ∧ Fr w w' := by
  have := all_any s w hs; rw [h] at this; exact this

def putFuel : Nat → Nat → List UInt8
  | 0, _ => []
  | k + 1, n => if n < 10 then [UInt8.ofNat (48 + n)] else putFuel k (n / 10) ++ [UInt8.ofNat (48 + n % 10)]
theorem putFuel_eq : ∀ (k n : Nat), n < 10 ^ (k + 1) → Nm.putNat n = putFuel (k + 1) n
  | 0, n, h => by rw [Nm.putNat_lt (by omega), putFuel, if_pos (by omega)]
  | k + 1, n, h => by
    by_cases h1 : n < 10
    · rw [Nm.putNat_lt h1, putFuel, if_pos h1]
    · rw [Nm.putNat_ge h1, putFuel, if_neg h1, putFuel_eq k (n / 10) (by rw [Nat.pow_succ] at h; omega)]
theorem put_min : Nm.put (-9223372036854775808) = [45, 57, 50, 50, 51, 51, 55, 50, 48, 51, 54, 56, 53, 52, 55, 55, 53, 56, 48, 56] := by
  rw [Nm.put, if_pos (by omega), show (-9223372036854775808 : Int).natAbs = 9223372036854775808 from rfl, putFuel_eq 18 _ (by omega)]
  decide +kernel

set_option maxHeartbeats 400000 in
theorem awake3 (w : World) : Calls Try.prog 8 #[] w fun e w' => e = .returned (.bool true) ∧ Fr w w' := by
  have hp : Hid ((Nm.put (-9223372036854775808) == [45, 57, 50, 50, 51, 51, 55, 50, 48, 51, 54, 56, 53, 52, 55, 55, 53, 56, 48, 56]) = true) := by show _ = _; rw [put_min]; rfl
  go_enter Try.func8, Try.ntmps8
  go_wp2_with fail
  refine (read_is ⟨#[120, 45, 49, 50, 44]⟩ 1 (-12) 4 0 _ (by decide) (by omega) (by omega) (by decide +kernel)).mono ?_
  rintro e w' ⟨rfl, rfl⟩
  go_wp2_with fail
  refine (read_is ⟨#[48, 49]⟩ 0 0 0 30 _ (by decide) (by omega) (by omega) (by decide +kernel)).mono ?_
  rintro e w' ⟨rfl, rfl⟩
  go_wp2_with fail
  refine (read_is ⟨#[57, 48, 48, 55, 49, 57, 57, 50, 53, 52, 55, 52, 48, 57, 57, 50]⟩ 0 0 0 30 _ (by decide) (by omega) (by omega) (by decide +kernel)).mono ?_
  rintro e w' ⟨rfl, rfl⟩
  go_wp2_with fail
  refine (all_some ⟨#[57, 48, 48, 55, 49, 57, 57, 50, 53, 52, 55, 52, 48, 57, 57, 49]⟩ 9007199254740991 _ (by decide) (by rw [← Nm.refAll_eq]; decide +kernel)).mono ?_
  rintro e w1 ⟨rfl, hw1⟩
  have hp2 := hp.out
  go_wp2_with fail
  refine (put_any (-9223372036854775808) _ (by omega) (by omega)).mono ?_
  rintro e w2 ⟨rfl, hw2⟩
  go_wp2_with fail
  go_ret
  exact ⟨rfl, hw1.trans hw2⟩

set_option maxHeartbeats 400000 in
theorem numsPuts_any (n : Int) (w : World) (h : -9223372036854775808 ≤ n) (h' : n ≤ 9223372036854775807) :
    Calls Try.prog 3 #[.int .i64 n] w fun e w' => e = .returned (.bool true) ∧ Below w.heap.size w w' := by
  go_enter Try.func3, Try.ntmps3
  go_wp2_with fail
  refine (awake3 _).mono ?_
  rintro e w1 ⟨rfl, hw1⟩
  go_wp2_with fail
  refine (put_any n _ h h').mono ?_
  rintro e w2 ⟨rfl, hw2⟩
  go_wp2_with fail
  refine (rput_any n.natAbs n _ (Nat.le_refl _) h h').mono ?_
  rintro e w3 ⟨rfl, hw3⟩
  go_wp2_with fail
  go_ret
  exact ⟨ret_bool (by simp), hw1.trans (hw2.trans hw3)⟩

set_option maxHeartbeats 400000 in
theorem numsReads_any (s : ByteArray) (a : Int) (w : World) (hs : s.size ≤ maxLen) (h : -9223372036854775808 ≤ a) (h' : a ≤ 9223372036854775807) :
    Calls Try.prog 4 #[.string s, .int .i64 a] w fun e w' => e = .returned (.bool true) ∧ Below w.heap.size w w' := by
  obtain ⟨n, E, y, hr⟩ : ∃ n E y, Nm.readNum s.data.toList a = (n, E, y) := ⟨_, _, _, rfl⟩
  have HR := Lib.hid hr
  clear hr
  go_enter Try.func4, Try.ntmps4
  go_wp2_with fail
  refine (read_is s a n E y _ hs h h' HR.out).mono ?_
  rintro e w1 ⟨rfl, rfl⟩
  go_wp2_with fail
  refine (rread_is s a n E y _ hs h h' HR.out).mono ?_
  rintro e w1 ⟨rfl, rfl⟩
  go_wp2_with fail
  refine (awake3 _).mono ?_
  rintro e w1 ⟨rfl, hw1⟩
  go_wp2_with fail
  go_ret
  exact ⟨ret_bool (by simp), hw1⟩

set_option maxHeartbeats 400000 in
theorem numsAlls_any (s : ByteArray) (w : World) (hs : s.size ≤ maxLen) :
    Calls Try.prog 5 #[.string s] w fun e w' => e = .returned (.bool true) ∧ Below w.heap.size w w' := by
  obtain ⟨x, hx⟩ : ∃ x, Nm.allNum s.data.toList = x := ⟨_, rfl⟩
  have HX := Lib.hid hx
  clear hx
  have c1 : ∀ w, Calls Try.prog 13 #[.string s] w fun e w' => e = .returned (.tuple #[.int .i64 (x.getD 0), .bool x.isSome]) ∧ Fr w w' := fun w => by
    have := all_any s w hs; rw [HX.out] at this; exact this
  have c2 : ∀ w, Calls Try.prog 14 #[.string s] w fun e w' => e = .returned (.tuple #[.int .i64 (x.getD 0), .bool x.isSome]) ∧ w = w' := fun w => by
    have := rall_any s w hs; rw [HX.out] at this; exact this
  obtain ⟨a, ha⟩ : ∃ a, x.getD 0 = a := ⟨_, rfl⟩
  obtain ⟨b, hb⟩ : ∃ b, x.isSome = b := ⟨_, rfl⟩
  rw [ha, hb] at c1 c2
  have C1 := Lib.hid c1
  have C2 := Lib.hid c2
  clear c1 c2 ha hb
  go_enter Try.func5, Try.ntmps5
  go_wp2_with fail
  refine (C1.out _).mono ?_
  rintro e w1 ⟨rfl, hw1⟩
  go_wp2_with fail
  refine (C2.out _).mono ?_
  rintro e w2 ⟨rfl, rfl⟩
  go_wp2_with fail
  refine (awake3 _).mono ?_
  rintro e w2 ⟨rfl, hw2⟩
  go_wp2_with fail
  go_ret
  exact ⟨ret_bool (by simp), hw1.trans hw2⟩

end Go.Proofs.Ythiolmjamcopmaa
