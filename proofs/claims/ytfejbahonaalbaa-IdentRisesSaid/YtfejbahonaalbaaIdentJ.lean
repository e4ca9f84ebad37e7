/- The laws IdentRises, IdentApart: walked. -/
import Derived.Test.YtfejbahonaalbaaIdentI
import Derived.Test.YtfejbahonaalbaaIdentQ
namespace Go.Proofs.Ytfejbahonaalbaa
set_option linter.unusedVariables false
set_option linter.unusedSimpArgs false
open Go.RowKit

theorem makeId_len (kind n : Int) : (Idn.makeId kind n).length ≤ 12 := by
  unfold Idn.makeId
  split
  · simp [Idn.dig_len]
  · simp
theorem state_len {kind n : Int} (h1 : -9223372036854775808 ≤ n) (h2 : n ≤ 9223372036854775807) : (Idn.state kind n).length ≤ 21 := by
  have := Nm.put_len h1 h2
  unfold Idn.state
  split
  · simp; omega
  · simp
theorem size_mk (l : List UInt8) : (⟨l.toArray⟩ : ByteArray).size = l.length := List.size_toArray
theorem number_make (kind n : Int) (w : World) (h : Idn.may kind n = true) :
    Calls Try.prog 15 #[.string ⟨(Idn.makeId kind n).toArray⟩] w fun e w' => e = .returned (.tuple #[.int .i64 kind, .int .i64 n, .bool true]) ∧ Fr w w' := by
  have h1 := number_any ⟨(Idn.makeId kind n).toArray⟩ w (by have := makeId_len kind n; rw [size_mk]; unfold maxLen; omega)
  rw [show (⟨(Idn.makeId kind n).toArray⟩ : ByteArray).data.toList = Idn.makeId kind n by simp, Idn.numberOf_make h] at h1
  exact h1
theorem seqOf_state {kind n : Int} (h : Idn.may kind n = true) : seqOf kind (Idn.state kind n) = some n := by
  obtain ⟨hk, h1, h2⟩ := Idn.may_true h
  have e : Idn.state kind n = Idn.small kind :: Nm.put n := by unfold Idn.state; rw [h]; rfl
  rw [e]
  unfold seqOf
  rw [if_pos hk]
  simp only
  rw [if_pos (trivial : True), Nm.allNum_put, if_pos ⟨by omega, h2⟩]
  simp only
  rw [if_neg (by omega)]
theorem seq_state (kind n : Int) (w : World) (h : Idn.may kind n = true) :
    Calls Try.prog 13 #[.int .i64 kind, .string ⟨(Idn.state kind n).toArray⟩] w fun e w' => e = .returned (.tuple #[.int .i64 n, .int .i64 0]) ∧ Fr w w' := by
  obtain ⟨hk, h1, h2⟩ := Idn.may_true h
  exact seq_some kind n _ w (by have := state_len (kind := kind) (n := n) (by omega) (by omega); rw [size_mk]; unfold maxLen; omega) (by simp; exact seqOf_state h)
theorem seq_other (n : Int) (w : World) (h : Idn.may 1 n = true) :
    Calls Try.prog 13 #[.int .i64 2, .string ⟨(Idn.state 1 n).toArray⟩] w fun e w' => e = .returned (.tuple #[.int .i64 0, .int .i64 100]) ∧ Fr w w' := by
  obtain ⟨hk, h1, h2⟩ := Idn.may_true h
  have e : Idn.state 1 n = 99 :: Nm.put n := by unfold Idn.state; rw [h]; rfl
  exact seq_none 2 _ w (by have := state_len (kind := 1) (n := n) (by omega) (by omega); rw [size_mk]; unfold maxLen; omega) (by
    rw [show (⟨(Idn.state 1 n).toArray⟩ : ByteArray).data.toList = Idn.state 1 n by simp, e]; rfl)
theorem is_id_make (kind n : Int) (w : World) (h : Idn.may kind n = true) :
    Calls Try.prog 17 #[.string ⟨(Idn.makeId kind n).toArray⟩] w fun e w' => e = .returned (.bool true) ∧ w = w' :=
  is_id_is _ true w (by have := makeId_len kind n; rw [size_mk]; unfold maxLen; omega) (by simp; exact Idn.isId_make h)

set_option maxHeartbeats 1000000 in
theorem rises_in (a b : Int) (w : World) (ha0 : 0 ≤ a) (ha1 : a ≤ 9007199254740991) (hb0 : 0 ≤ b) (hb1 : b ≤ 9007199254740991) :
    Calls Try.prog 6 #[.int .i64 a, .int .i64 b] w fun e w' => e = .returned (.bool true) ∧ Below w.heap.size w w' := by
  have ha : Hid (Idn.may 1 a = true) := by show _ = _; simp [Idn.may]; omega
  have hb : Hid (Idn.may 1 b = true) := by show _ = _; simp [Idn.may]; omega
  have hless := Idn.less_make ha.out hb.out
  have heq : (Idn.makeId 1 a == Idn.makeId 1 b) = (a == b) := by rw [Idn.make_inj ha.out hb.out]; rw [Bool.eq_iff_iff]; simp
  go_enter Try.func6, Try.ntmps6
  go_wp2_with fail
  refine (make_any 1 a _).mono ?_
  rintro e w1 ⟨rfl, hw1⟩
  go_wp2_with fail
  refine (make_any 1 b _).mono ?_
  rintro e w2 ⟨rfl, hw2⟩
  go_wp2_with fail
  refine (awake10 _).mono ?_
  rintro e w3 ⟨rfl, hw3⟩
  go_wp2_with fail
  refine (number_make 1 a _ ha.out).mono ?_
  rintro e w4 ⟨rfl, hw4⟩
  go_wp2_with fail
  refine (state_any 1 a _).mono ?_
  rintro e w5 ⟨rfl, hw5⟩
  go_wp2_with fail
  refine (seq_state 1 a _ ha.out).mono ?_
  rintro e w6 ⟨rfl, hw6⟩
  go_wp2_with fail
  refine (is_id_make 1 a _ ha.out).mono ?_
  rintro e w7 ⟨rfl, rfl⟩
  go_wp2_with fail
  go_ret
  exact ⟨ret_bool (by simp), hw1.trans (hw2.trans (hw3.trans (hw4.trans (hw5.trans hw6))))⟩

set_option maxHeartbeats 1000000 in
theorem identRises_any (a b : Int) (w : World) :
    Calls Try.prog 6 #[.int .i64 a, .int .i64 b] w fun e w' => e = .returned (.bool true) ∧ Below w.heap.size w w' := by
  by_cases h : 0 ≤ a ∧ a ≤ 9007199254740991 ∧ 0 ≤ b ∧ b ≤ 9007199254740991
  · exact rises_in a b w h.1 h.2.1 h.2.2.1 h.2.2.2
  · have hc : a < 0 ∨ (0 ≤ a ∧ b < 0) ∨ (0 ≤ a ∧ 0 ≤ b ∧ 9007199254740991 < a) ∨ (0 ≤ a ∧ 0 ≤ b ∧ a ≤ 9007199254740991 ∧ 9007199254740991 < b) := by omega
    clear h
    rcases hc with h | ⟨h, h2⟩ | ⟨h, h2, h3⟩ | ⟨h, h2, h3, h4⟩
    all_goals
      go_enter Try.func6, Try.ntmps6
      go_wp2_with fail
      refine (make_any 1 a _).mono ?_
      rintro e w1 ⟨rfl, hw1⟩
      go_wp2_with fail
      refine (make_any 1 b _).mono ?_
      rintro e w2 ⟨rfl, hw2⟩
      go_wp2_with fail
      refine (awake10 _).mono ?_
      rintro e w3 ⟨rfl, hw3⟩
      go_wp2_with fail
      refine (awake10 _).mono ?_
      rintro e w4 ⟨rfl, hw4⟩
      go_wp2_with fail
      go_ret
      exact ⟨rfl, hw1.trans (hw2.trans (hw3.trans hw4))⟩

theorem makeId_nil {kind n : Int} (h : Idn.may kind n = false) : Idn.makeId kind n = [] := by unfold Idn.makeId; rw [h]; rfl
theorem makeId_ne {kind n : Int} (h : Idn.may kind n = true) : (Idn.makeId kind n).isEmpty = false ∧ (Idn.makeId kind n == []) = false := by
  have e : Idn.makeId kind n = Idn.letter kind :: Idn.dig 11 n.toNat := by unfold Idn.makeId; rw [h]; rfl
  rw [e]; exact ⟨rfl, rfl⟩

set_option maxHeartbeats 1000000 in
theorem apart_in (a b : Int) (w : World) (ha : Hid (Idn.may 1 a = true)) (hb : Hid (Idn.may 2 b = true)) :
    Calls Try.prog 7 #[.int .i64 a, .int .i64 b] w fun e w' => e = .returned (.bool true) ∧ Below w.heap.size w w' := by
  have hx := Idn.make_apart ha.out hb.out
  have hs := Idn.state_apart ha.out hb.out
  obtain ⟨x1, x2⟩ := makeId_ne ha.out
  obtain ⟨y1, y2⟩ := makeId_ne hb.out
  go_enter Try.func7, Try.ntmps7
  go_wp2_with fail
  refine (make_any 1 a _).mono ?_
  rintro e w1 ⟨rfl, hw1⟩
  go_wp2_with fail
  refine (make_any 2 b _).mono ?_
  rintro e w2 ⟨rfl, hw2⟩
  go_wp2_with fail
  refine (state_any 1 a _).mono ?_
  rintro e w3 ⟨rfl, hw3⟩
  go_wp2_with fail
  refine (awake10 _).mono ?_
  rintro e w4 ⟨rfl, hw4⟩
  go_wp2_with fail
  refine (seq_other a _ ha.out).mono ?_
  rintro e w5 ⟨rfl, hw5⟩
  go_wp2_with fail
  refine (number_make 2 b _ hb.out).mono ?_
  rintro e w6 ⟨rfl, hw6⟩
  go_wp2_with fail
  refine (state_any 2 b _).mono ?_
  rintro e w7 ⟨rfl, hw7⟩
  go_wp2_with fail
  go_ret
  exact ⟨ret_bool (by simp), hw1.trans (hw2.trans (hw3.trans (hw4.trans (hw5.trans (hw6.trans hw7)))))⟩

set_option maxHeartbeats 1000000 in
theorem identApart_any (a b : Int) (w : World) :
    Calls Try.prog 7 #[.int .i64 a, .int .i64 b] w fun e w' => e = .returned (.bool true) ∧ Below w.heap.size w w' := by
  cases ha : Idn.may 1 a
  · have hx := makeId_nil ha
    have HA := Lib.hid ha
    clear ha
    go_enter Try.func7, Try.ntmps7
    go_wp2_with fail
    refine (make_any 1 a _).mono ?_
    rintro e w1 ⟨rfl, hw1⟩
    go_wp2_with fail
    refine (make_any 2 b _).mono ?_
    rintro e w2 ⟨rfl, hw2⟩
    go_wp2_with fail
    refine (state_any 1 a _).mono ?_
    rintro e w3 ⟨rfl, hw3⟩
    go_wp2_with fail
    refine (awake10 _).mono ?_
    rintro e w4 ⟨rfl, hw4⟩
    go_wp2_with fail
    refine (awake10 _).mono ?_
    rintro e w5 ⟨rfl, hw5⟩
    go_wp2_with fail
    go_ret
    exact ⟨rfl, hw1.trans (hw2.trans (hw3.trans (hw4.trans hw5)))⟩
  · cases hb : Idn.may 2 b
    · obtain ⟨x1, x2⟩ := makeId_ne ha
      have hx := makeId_nil hb
      have HA := Lib.hid ha
      have HB := Lib.hid hb
      clear ha hb
      go_enter Try.func7, Try.ntmps7
      go_wp2_with fail
      refine (make_any 1 a _).mono ?_
      rintro e w1 ⟨rfl, hw1⟩
      go_wp2_with fail
      refine (make_any 2 b _).mono ?_
      rintro e w2 ⟨rfl, hw2⟩
      go_wp2_with fail
      refine (state_any 1 a _).mono ?_
      rintro e w3 ⟨rfl, hw3⟩
      go_wp2_with fail
      refine (awake10 _).mono ?_
      rintro e w4 ⟨rfl, hw4⟩
      go_wp2_with fail
      refine (awake10 _).mono ?_
      rintro e w5 ⟨rfl, hw5⟩
      go_wp2_with fail
      go_ret
      exact ⟨rfl, hw1.trans (hw2.trans (hw3.trans (hw4.trans hw5)))⟩
    · exact apart_in a b w ha hb

end Go.Proofs.Ytfejbahonaalbaa
