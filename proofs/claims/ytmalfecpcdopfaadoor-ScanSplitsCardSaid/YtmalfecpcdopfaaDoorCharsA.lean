/- Walks of chars' small functions: plain; the document's hex, digit. -/
import Derived.Test.YtmalfecpcdopfaaDoorUtfE
import Derived.Test.YtmalfecpcdopfaaDoorCharsQ
namespace Go.Proofs.YtmalfecpcdopfaaDoor
set_option linter.unusedVariables false
set_option linter.unusedSimpArgs false
open Go.RowKit

theorem u8neq {c : UInt8} {d : Nat} (hd : d < 256) (h : c ≠ UInt8.ofNat d) : ((c.toNat : Int) == (d : Int)) = false := by
  rw [beq_eq_false_iff_ne]
  intro e
  apply h
  have : c.toNat = d := by omega
  rw [← this]; simp

set_option maxHeartbeats 2000000 in
theorem plain_is (c : UInt8) (w : World) :
    Calls Tryd.prog 42 #[.int .u8 c.toNat] w fun e w' => e = .returned (.tuple #[.int .u8 ((Chr.plain c).getD 0).toNat, .bool (Chr.plain c).isSome]) ∧ w = w' := by
  by_cases h0 : c = 34
  · subst h0
    go_enter Tryd.func42, Tryd.ntmps42
    go_wp2_with fail
    go_ret2
    exact ⟨rfl, rfl⟩
  have e0 := u8neq (d := 34) (by omega) h0
  by_cases h1 : c = 92
  · subst h1
    go_enter Tryd.func42, Tryd.ntmps42
    go_wp2_with fail
    go_ret2
    exact ⟨rfl, rfl⟩
  have e1 := u8neq (d := 92) (by omega) h1
  by_cases h2 : c = 47
  · subst h2
    go_enter Tryd.func42, Tryd.ntmps42
    go_wp2_with fail
    go_ret2
    exact ⟨rfl, rfl⟩
  have e2 := u8neq (d := 47) (by omega) h2
  by_cases h3 : c = 98
  · subst h3
    go_enter Tryd.func42, Tryd.ntmps42
    go_wp2_with fail
    go_ret2
    exact ⟨rfl, rfl⟩
  have e3 := u8neq (d := 98) (by omega) h3
  by_cases h4 : c = 102
  · subst h4
    go_enter Tryd.func42, Tryd.ntmps42
    go_wp2_with fail
    go_ret2
    exact ⟨rfl, rfl⟩
  have e4 := u8neq (d := 102) (by omega) h4
  by_cases h5 : c = 110
  · subst h5
    go_enter Tryd.func42, Tryd.ntmps42
    go_wp2_with fail
    go_ret2
    exact ⟨rfl, rfl⟩
  have e5 := u8neq (d := 110) (by omega) h5
  by_cases h6 : c = 114
  · subst h6
    go_enter Tryd.func42, Tryd.ntmps42
    go_wp2_with fail
    go_ret2
    exact ⟨rfl, rfl⟩
  have e6 := u8neq (d := 114) (by omega) h6
  by_cases h7 : c = 116
  · subst h7
    go_enter Tryd.func42, Tryd.ntmps42
    go_wp2_with fail
    go_ret2
    exact ⟨rfl, rfl⟩
  have e7 := u8neq (d := 116) (by omega) h7
  have hr : Hid (Chr.plain c = none) := by show _ = _; unfold Chr.plain; rw [if_neg h0, if_neg h1, if_neg h2, if_neg h3, if_neg h4, if_neg h5, if_neg h6, if_neg h7]
  clear h0 h1 h2 h3 h4 h5 h6 h7
  go_enter Tryd.func42, Tryd.ntmps42
  go_wp2_with fail
  go_ret2
  exact ⟨by rw [hr.out]; rfl, rfl⟩

set_option maxHeartbeats 1000000 in
theorem hex_is (n : Nat) (w : World) (h : n < 16) :
    Calls Tryd.prog 32 #[.int .i64 n] w fun e w' => e = .returned (.int .u8 (Chr.hexd n).toNat) ∧ w = w' := by
  by_cases c1 : n < 10
  · have d1 : decide ((n : Int) < 10) = true := decide_eq_true (by omega)
    have hr : Hid ((Chr.hexd n).toNat = 48 + n) := by show _ = _; unfold Chr.hexd; rw [if_pos c1, Utf.toNat_ofNat (by omega)]
    go_enter Tryd.func32, Tryd.ntmps32
    go_wp2_with fail
    go_ret
    exact ⟨ret_int (by rw [hr.out]; omega), rfl⟩
  · have d1 : decide ((n : Int) < 10) = false := decide_eq_false (by omega)
    have hr : Hid ((Chr.hexd n).toNat = 87 + n) := by show _ = _; unfold Chr.hexd; rw [if_neg c1, Utf.toNat_ofNat (by omega)]
    go_enter Tryd.func32, Tryd.ntmps32
    go_wp2_with fail
    go_ret
    exact ⟨ret_int (by rw [hr.out]; omega), rfl⟩

/-- What the document's digit says. -/
def rdig (c : UInt8) : Int := match Chr.hexv c with | some d => d | none => -1

set_option maxHeartbeats 2000000 in
theorem rdigit_is (c : UInt8) (w : World) :
    Calls Tryd.prog 48 #[.int .u8 c.toNat] w fun e w' => e = .returned (.int .i64 (rdig c)) ∧ w = w' := by
  have hc := c.toNat_lt
  have hcls : c.toNat < 48 ∨ (48 ≤ c.toNat ∧ c.toNat ≤ 57) ∨ (58 ≤ c.toNat ∧ c.toNat ≤ 64) ∨ (65 ≤ c.toNat ∧ c.toNat ≤ 70) ∨ (71 ≤ c.toNat ∧ c.toNat ≤ 96) ∨ (97 ≤ c.toNat ∧ c.toNat ≤ 102) ∨ 103 ≤ c.toNat := by omega
  rcases hcls with h | h | h | h | h | h | h
  · have hr : Hid (rdig c = -1) := by show _ = _; unfold rdig Chr.hexv; rw [if_neg (by omega), if_neg (by omega), if_neg (by omega)]
    have a48 : decide ((48 : Int) ≤ (c.toNat : Int)) = false := decide_eq_false (by omega)
    have a65 : decide ((65 : Int) ≤ (c.toNat : Int)) = false := decide_eq_false (by omega)
    have a97 : decide ((97 : Int) ≤ (c.toNat : Int)) = false := decide_eq_false (by omega)
    have a57 : decide ((c.toNat : Int) ≤ 57) = true := decide_eq_true (by omega)
    have a70 : decide ((c.toNat : Int) ≤ 70) = true := decide_eq_true (by omega)
    have a102 : decide ((c.toNat : Int) ≤ 102) = true := decide_eq_true (by omega)
    go_enter Tryd.func48, Tryd.ntmps48
    go_wp2_with fail
    go_ret
    exact ⟨ret_int (by rw [hr.out]), rfl⟩
  · have hr : Hid (rdig c = ((c.toNat : Int) - 48)) := by show _ = _; unfold rdig Chr.hexv; rw [if_pos (by omega)]; simp only; omega
    have a48 : decide ((48 : Int) ≤ (c.toNat : Int)) = true := decide_eq_true (by omega)
    have a65 : decide ((65 : Int) ≤ (c.toNat : Int)) = false := decide_eq_false (by omega)
    have a97 : decide ((97 : Int) ≤ (c.toNat : Int)) = false := decide_eq_false (by omega)
    have a57 : decide ((c.toNat : Int) ≤ 57) = true := decide_eq_true (by omega)
    have a70 : decide ((c.toNat : Int) ≤ 70) = true := decide_eq_true (by omega)
    have a102 : decide ((c.toNat : Int) ≤ 102) = true := decide_eq_true (by omega)
    go_enter Tryd.func48, Tryd.ntmps48
    go_wp2_with fail
    go_ret
    exact ⟨ret_int (by rw [hr.out]), rfl⟩
  · have hr : Hid (rdig c = -1) := by show _ = _; unfold rdig Chr.hexv; rw [if_neg (by omega), if_neg (by omega), if_neg (by omega)]
    have a48 : decide ((48 : Int) ≤ (c.toNat : Int)) = true := decide_eq_true (by omega)
    have a65 : decide ((65 : Int) ≤ (c.toNat : Int)) = false := decide_eq_false (by omega)
    have a97 : decide ((97 : Int) ≤ (c.toNat : Int)) = false := decide_eq_false (by omega)
    have a57 : decide ((c.toNat : Int) ≤ 57) = false := decide_eq_false (by omega)
    have a70 : decide ((c.toNat : Int) ≤ 70) = true := decide_eq_true (by omega)
    have a102 : decide ((c.toNat : Int) ≤ 102) = true := decide_eq_true (by omega)
    go_enter Tryd.func48, Tryd.ntmps48
    go_wp2_with fail
    go_ret
    exact ⟨ret_int (by rw [hr.out]), rfl⟩
  · have hr : Hid (rdig c = ((c.toNat : Int) - 55)) := by show _ = _; unfold rdig Chr.hexv; rw [if_neg (by omega), if_pos (by omega)]; simp only; omega
    have a48 : decide ((48 : Int) ≤ (c.toNat : Int)) = true := decide_eq_true (by omega)
    have a65 : decide ((65 : Int) ≤ (c.toNat : Int)) = true := decide_eq_true (by omega)
    have a97 : decide ((97 : Int) ≤ (c.toNat : Int)) = false := decide_eq_false (by omega)
    have a57 : decide ((c.toNat : Int) ≤ 57) = false := decide_eq_false (by omega)
    have a70 : decide ((c.toNat : Int) ≤ 70) = true := decide_eq_true (by omega)
    have a102 : decide ((c.toNat : Int) ≤ 102) = true := decide_eq_true (by omega)
    go_enter Tryd.func48, Tryd.ntmps48
    go_wp2_with fail
    go_ret
    exact ⟨ret_int (by rw [hr.out]), rfl⟩
  · have hr : Hid (rdig c = -1) := by show _ = _; unfold rdig Chr.hexv; rw [if_neg (by omega), if_neg (by omega), if_neg (by omega)]
    have a48 : decide ((48 : Int) ≤ (c.toNat : Int)) = true := decide_eq_true (by omega)
    have a65 : decide ((65 : Int) ≤ (c.toNat : Int)) = true := decide_eq_true (by omega)
    have a97 : decide ((97 : Int) ≤ (c.toNat : Int)) = false := decide_eq_false (by omega)
    have a57 : decide ((c.toNat : Int) ≤ 57) = false := decide_eq_false (by omega)
    have a70 : decide ((c.toNat : Int) ≤ 70) = false := decide_eq_false (by omega)
    have a102 : decide ((c.toNat : Int) ≤ 102) = true := decide_eq_true (by omega)
    go_enter Tryd.func48, Tryd.ntmps48
    go_wp2_with fail
    go_ret
    exact ⟨ret_int (by rw [hr.out]), rfl⟩
  · have hr : Hid (rdig c = ((c.toNat : Int) - 87)) := by show _ = _; unfold rdig Chr.hexv; rw [if_neg (by omega), if_neg (by omega), if_pos (by omega)]; simp only; omega
    have a48 : decide ((48 : Int) ≤ (c.toNat : Int)) = true := decide_eq_true (by omega)
    have a65 : decide ((65 : Int) ≤ (c.toNat : Int)) = true := decide_eq_true (by omega)
    have a97 : decide ((97 : Int) ≤ (c.toNat : Int)) = true := decide_eq_true (by omega)
    have a57 : decide ((c.toNat : Int) ≤ 57) = false := decide_eq_false (by omega)
    have a70 : decide ((c.toNat : Int) ≤ 70) = false := decide_eq_false (by omega)
    have a102 : decide ((c.toNat : Int) ≤ 102) = true := decide_eq_true (by omega)
    go_enter Tryd.func48, Tryd.ntmps48
    go_wp2_with fail
    go_ret
    exact ⟨ret_int (by rw [hr.out]), rfl⟩
  · have hr : Hid (rdig c = -1) := by show _ = _; unfold rdig Chr.hexv; rw [if_neg (by omega), if_neg (by omega), if_neg (by omega)]
    have a48 : decide ((48 : Int) ≤ (c.toNat : Int)) = true := decide_eq_true (by omega)
    have a65 : decide ((65 : Int) ≤ (c.toNat : Int)) = true := decide_eq_true (by omega)
    have a97 : decide ((97 : Int) ≤ (c.toNat : Int)) = true := decide_eq_true (by omega)
    have a57 : decide ((c.toNat : Int) ≤ 57) = false := decide_eq_false (by omega)
    have a70 : decide ((c.toNat : Int) ≤ 70) = false := decide_eq_false (by omega)
    have a102 : decide ((c.toNat : Int) ≤ 102) = false := decide_eq_false (by omega)
    go_enter Tryd.func48, Tryd.ntmps48
    go_wp2_with fail
    go_ret
    exact ⟨ret_int (by rw [hr.out]), rfl⟩

end Go.Proofs.YtmalfecpcdopfaaDoor
