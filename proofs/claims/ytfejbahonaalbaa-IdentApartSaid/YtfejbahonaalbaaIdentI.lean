/- awake of chapter 10; the laws IdentMakes, IdentSeqs, IdentIds. -/
import Derived.Test.YtfejbahonaalbaaIdentF
import Derived.Test.YtfejbahonaalbaaIdentH
namespace Go.Proofs.Ytfejbahonaalbaa
set_option linter.unusedVariables false
set_option linter.unusedSimpArgs false
open Go.RowKit

theorem seq_some (kind n : Int) (s : ByteArray) (w : World) (hs : s.size ≤ maxLen) (h : seqOf kind s.data.toList = some n) :
    Calls Try.prog 13 #[.int .i64 kind, .string s] w fun e w' => e = .returned (.tuple #[.int .i64 n, .int .i64 0]) ∧ Fr w w' := by
  have := seq_any kind s w hs; rw [h] at this; exact this
theorem seq_none (kind : Int) (s : ByteArray) (w : World) (hs : s.size ≤ maxLen) (h : seqOf kind s.data.toList = none) :
    Calls Try.prog 13 #[.int .i64 kind, .string s] w fun e w' => e = .returned (.tuple #[.int .i64 0, .int .i64 100]) ∧ Fr w w' := by
  have := seq_any kind s w hs; rw [h] at this; exact this
theorem is_id_is (s : ByteArray) (b : Bool) (w : World) (hs : s.size ≤ maxLen) (h : Idn.isId s.data.toList = b) :
    Calls Try.prog 17 #[.string s] w fun e w' => e = .returned (.bool b) ∧ w = w' := by
  subst h; exact is_id_any s w hs
theorem put_seven : Nm.put 7 = [55] := by
  rw [Nm.put, if_neg (by omega)]; exact Nm.putNat_lt (by omega)

set_option maxHeartbeats 1000000 in
theorem awake10 (w : World) : Calls Try.prog 8 #[] w fun e w' => e = .returned (.bool true) ∧ Fr w w' := by
  have hm : Hid ((Idn.makeId 1 35 == [67, 48, 48, 48, 48, 48, 48, 48, 48, 48, 49, 51]) = true) := by show _ = _; decide +kernel
  have hs : Hid ((Idn.state 2 7 == [98, 55]) = true) := by
    show _ = _
    have : Idn.state 2 7 = Idn.small 2 :: Nm.put 7 := rfl
    rw [this, put_seven]; rfl
  go_enter Try.func8, Try.ntmps8
  go_wp2_with fail
  refine (seq_some 2 7 ⟨#[98, 55]⟩ _ (by decide) (by simp only [seqOf, ← Nm.refAll_eq]; decide +kernel)).mono ?_
  rintro e w1 ⟨rfl, hw1⟩
  go_wp2_with fail
  refine (seq_none 2 ⟨#[98, 48, 55]⟩ _ (by decide) (by simp only [seqOf, ← Nm.refAll_eq]; decide +kernel)).mono ?_
  rintro e w2 ⟨rfl, hw2⟩
  go_wp2_with fail
  refine (seq_none 1 ⟨#[98, 55]⟩ _ (by decide) (by simp only [seqOf, ← Nm.refAll_eq]; decide +kernel)).mono ?_
  rintro e w3 ⟨rfl, hw3⟩
  have hm2 := hm.out
  have hs2 := hs.out
  go_wp2_with fail
  refine (make_any 1 35 _).mono ?_
  rintro e w4 ⟨rfl, hw4⟩
  go_wp2_with fail
  refine (state_any 2 7 _).mono ?_
  rintro e w5 ⟨rfl, hw5⟩
  go_wp2_with fail
  refine (is_id_is ⟨#[97, 45, 66, 95, 57]⟩ true _ (by decide) (by decide)).mono ?_
  rintro e w6 ⟨rfl, rfl⟩
  go_wp2_with fail
  refine (is_id_is ⟨#[97, 32, 98]⟩ false _ (by decide) (by decide)).mono ?_
  rintro e w6 ⟨rfl, rfl⟩
  go_wp2_with fail
  go_ret
  exact ⟨rfl, hw1.trans (hw2.trans (hw3.trans (hw4.trans hw5)))⟩

set_option maxHeartbeats 400000 in
theorem identMakes_any (kind n : Int) (w : World) :
    Calls Try.prog 3 #[.int .i64 kind, .int .i64 n] w fun e w' => e = .returned (.bool true) ∧ Below w.heap.size w w' := by
  go_enter Try.func3, Try.ntmps3
  go_wp2_with fail
  refine (awake10 _).mono ?_
  rintro e w1 ⟨rfl, hw1⟩
  go_wp2_with fail
  refine (make_any kind n _).mono ?_
  rintro e w2 ⟨rfl, hw2⟩
  go_wp2_with fail
  refine (rmake_any kind n _).mono ?_
  rintro e w3 ⟨rfl, hw3⟩
  go_wp2_with fail
  refine (state_any kind n _).mono ?_
  rintro e w4 ⟨rfl, hw4⟩
  go_wp2_with fail
  refine (rstate_any kind n _).mono ?_
  rintro e w5 ⟨rfl, hw5⟩
  go_wp2_with fail
  go_ret
  exact ⟨ret_bool (by simp), hw1.trans (hw2.trans (hw3.trans (hw4.trans hw5)))⟩

set_option maxHeartbeats 400000 in
theorem identSeqs_any (kind : Int) (s : ByteArray) (w : World) (hs : s.size ≤ maxLen) :
    Calls Try.prog 4 #[.int .i64 kind, .string s] w fun e w' => e = .returned (.bool true) ∧ Below w.heap.size w w' := by
  obtain ⟨a, b, hab⟩ : ∃ a b, seqV (seqOf kind s.data.toList) = .tuple #[.int .i64 a, .int .i64 b] := ⟨_, _, rfl⟩
  have c1 : ∀ w, Calls Try.prog 13 #[.int .i64 kind, .string s] w fun e w' => e = .returned (.tuple #[.int .i64 a, .int .i64 b]) ∧ Fr w w' := fun w => by have := seq_any kind s w hs; rw [hab] at this; exact this
  have c2 : ∀ w, Calls Try.prog 14 #[.int .i64 kind, .string s] w fun e w' => e = .returned (.tuple #[.int .i64 a, .int .i64 b]) ∧ Fr w w' := fun w => by have := rseq_any kind s w hs; rw [hab] at this; exact this
  have C1 := Lib.hid c1
  have C2 := Lib.hid c2
  clear c1 c2 hab
  go_enter Try.func4, Try.ntmps4
  go_wp2_with fail
  refine (C1.out _).mono ?_
  rintro e w1 ⟨rfl, hw1⟩
  go_wp2_with fail
  refine (C2.out _).mono ?_
  rintro e w2 ⟨rfl, hw2⟩
  go_wp2_with fail
  refine (awake10 _).mono ?_
  rintro e w3 ⟨rfl, hw3⟩
  go_wp2_with fail
  go_ret
  exact ⟨ret_bool (by simp), hw1.trans (hw2.trans hw3)⟩

theorem ris_id_is (s : ByteArray) (b : Bool) (w : World) (hs : s.size ≤ maxLen) (h : Idn.isId s.data.toList = b) :
    Calls Try.prog 18 #[.string s] w fun e w' => e = .returned (.bool b) ∧ w = w' := by
  subst h; exact ris_id_any s w hs

set_option maxHeartbeats 400000 in
theorem identIds_any (s : ByteArray) (w : World) (hs : s.size ≤ maxLen) :
    Calls Try.prog 5 #[.string s] w fun e w' => e = .returned (.bool true) ∧ Below w.heap.size w w' := by
  obtain ⟨a, b, c, hab⟩ : ∃ a b c, numV3 (Idn.numberOf s.data.toList) = .tuple #[.int .i64 a, .int .i64 b, .bool c] := by
    cases Idn.numberOf s.data.toList with
    | none => exact ⟨_, _, _, rfl⟩
    | some x => exact ⟨_, _, _, rfl⟩
  have c1 : ∀ w, Calls Try.prog 15 #[.string s] w fun e w' => e = .returned (.tuple #[.int .i64 a, .int .i64 b, .bool c]) ∧ Fr w w' := fun w => by have := number_any s w hs; rw [hab] at this; exact this
  have c2 : ∀ w, Calls Try.prog 16 #[.string s] w fun e w' => e = .returned (.tuple #[.int .i64 a, .int .i64 b, .bool c]) ∧ Fr w w' := fun w => by have := rnumber_any s w hs; rw [hab] at this; exact this
  obtain ⟨d, hd⟩ : ∃ d, Idn.isId s.data.toList = d := ⟨_, rfl⟩
  have C1 := Lib.hid c1
  have C2 := Lib.hid c2
  have HD := Lib.hid hd
  clear c1 c2 hab hd
  go_enter Try.func5, Try.ntmps5
  go_wp2_with fail
  refine (C1.out _).mono ?_
  rintro e w1 ⟨rfl, hw1⟩
  go_wp2_with fail
  refine (C2.out _).mono ?_
  rintro e w2 ⟨rfl, hw2⟩
  go_wp2_with fail
  refine (awake10 _).mono ?_
  rintro e w3 ⟨rfl, hw3⟩
  go_wp2_with fail
  refine (is_id_is s d _ hs HD.out).mono ?_
  rintro e w4 ⟨rfl, rfl⟩
  go_wp2_with fail
  refine (ris_id_is s d _ hs HD.out).mono ?_
  rintro e w4 ⟨rfl, rfl⟩
  go_wp2_with fail
  go_ret
  exact ⟨ret_bool (by simp), hw1.trans (hw2.trans hw3)⟩

end Go.Proofs.Ytfejbahonaalbaa
