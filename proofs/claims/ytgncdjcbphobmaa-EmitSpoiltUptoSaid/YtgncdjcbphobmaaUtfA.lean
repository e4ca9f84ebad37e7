/- Walks of utf's small functions: size, fits. -/
import Derived.Test.YtgncdjcbphobmaaKit
import Derived.Test.YtgncdjcbphobmaaUtfP
import Derived.Laws.BitsLemmas
namespace Go.Proofs.Ytgncdjcbphobmaa
set_option linter.unusedVariables false
set_option linter.unusedSimpArgs false
open Go.RowKit

set_option maxHeartbeats 1000000 in
theorem size_is (a : UInt8) (n p : Nat) (w : World) (h : Utf.sz a = (n, p)) :
    Calls Try.prog 23 #[.int .u8 a.toNat] w fun e w' => e = .returned (.tuple #[.int .i64 n, .int .i32 p]) ∧ w = w' := by
  have ha := a.toNat_lt
  by_cases c0 : a.toNat < 128
  · have hz : Hid ((n, p) = (1, a.toNat)) := by show _ = _; rw [← h]; unfold Utf.sz; rw [if_pos (by omega)]
    have hn := congrArg Prod.fst hz.out
    have hp := congrArg Prod.snd hz.out
    simp only at hn hp
    clear h hz
    subst hn
    subst hp
    have d0 : decide ((a.toNat : Int) < 128) = true := decide_eq_true (by omega)
    have hw : wrap32 (a.toNat : Int) = (a.toNat : Int) := by unfold wrap32; omega
    clear c0 ha
    go_enter Try.func23, Try.ntmps23
    go_wp2_with fail
    go_ret2
    exact ⟨by rw [hw]; rfl, rfl⟩
  by_cases c1 : a.toNat < 194
  · have hz : Hid ((n, p) = (0, 0)) := by show _ = _; rw [← h]; unfold Utf.sz; rw [if_neg (by omega), if_pos (by omega)]
    have hn := congrArg Prod.fst hz.out
    have hp := congrArg Prod.snd hz.out
    simp only at hn hp
    clear h hz
    subst hn
    subst hp
    have d0 : decide ((a.toNat : Int) < 128) = false := decide_eq_false (by omega)
    have d1 : decide ((a.toNat : Int) < 194) = true := decide_eq_true (by omega)
    clear c0 c1 ha
    go_enter Try.func23, Try.ntmps23
    go_wp2_with fail
    go_ret2
    exact ⟨rfl, rfl⟩
  by_cases c2 : a.toNat < 224
  · have hz : Hid ((n, p) = (2, a.toNat % 32)) := by show _ = _; rw [← h]; unfold Utf.sz; rw [if_neg (by omega), if_neg (by omega), if_pos (by omega)]
    have hn := congrArg Prod.fst hz.out
    have hp := congrArg Prod.snd hz.out
    simp only at hn hp
    clear h hz
    subst hn
    subst hp
    have d0 : decide ((a.toNat : Int) < 128) = false := decide_eq_false (by omega)
    have d1 : decide ((a.toNat : Int) < 194) = false := decide_eq_false (by omega)
    have d2 : decide ((a.toNat : Int) < 224) = true := decide_eq_true (by omega)
    have hm : bits .and .u8 (a.toNat : Int) 31 = ((a.toNat % 32 : Nat) : Int) := by rw [u8_and31 _ (by omega) (by omega)]; omega
    clear c0 c1 c2 ha
    go_enter Try.func23, Try.ntmps23
    go_wp2_with fail
    go_ret2
    exact ⟨rfl, rfl⟩
  by_cases c3 : a.toNat < 240
  · have hz : Hid ((n, p) = (3, a.toNat % 16)) := by show _ = _; rw [← h]; unfold Utf.sz; rw [if_neg (by omega), if_neg (by omega), if_neg (by omega), if_pos (by omega)]
    have hn := congrArg Prod.fst hz.out
    have hp := congrArg Prod.snd hz.out
    simp only at hn hp
    clear h hz
    subst hn
    subst hp
    have d0 : decide ((a.toNat : Int) < 128) = false := decide_eq_false (by omega)
    have d1 : decide ((a.toNat : Int) < 194) = false := decide_eq_false (by omega)
    have d2 : decide ((a.toNat : Int) < 224) = false := decide_eq_false (by omega)
    have d3 : decide ((a.toNat : Int) < 240) = true := decide_eq_true (by omega)
    have hm : bits .and .u8 (a.toNat : Int) 15 = ((a.toNat % 16 : Nat) : Int) := by rw [u8_and15 _ (by omega) (by omega)]; omega
    clear c0 c1 c2 c3 ha
    go_enter Try.func23, Try.ntmps23
    go_wp2_with fail
    go_ret2
    exact ⟨rfl, rfl⟩
  by_cases c4 : a.toNat < 245
  · have hz : Hid ((n, p) = (4, a.toNat % 8)) := by show _ = _; rw [← h]; unfold Utf.sz; rw [if_neg (by omega), if_neg (by omega), if_neg (by omega), if_neg (by omega), if_pos (by omega)]
    have hn := congrArg Prod.fst hz.out
    have hp := congrArg Prod.snd hz.out
    simp only at hn hp
    clear h hz
    subst hn
    subst hp
    have d0 : decide ((a.toNat : Int) < 128) = false := decide_eq_false (by omega)
    have d1 : decide ((a.toNat : Int) < 194) = false := decide_eq_false (by omega)
    have d2 : decide ((a.toNat : Int) < 224) = false := decide_eq_false (by omega)
    have d3 : decide ((a.toNat : Int) < 240) = false := decide_eq_false (by omega)
    have d4 : decide ((a.toNat : Int) < 245) = true := decide_eq_true (by omega)
    have hm : bits .and .u8 (a.toNat : Int) 7 = ((a.toNat % 8 : Nat) : Int) := by rw [u8_and7 _ (by omega) (by omega)]; omega
    clear c0 c1 c2 c3 c4 ha
    go_enter Try.func23, Try.ntmps23
    go_wp2_with fail
    go_ret2
    exact ⟨rfl, rfl⟩
  have hz : Hid ((n, p) = (0, 0)) := by show _ = _; rw [← h]; unfold Utf.sz; rw [if_neg (by omega), if_neg (by omega), if_neg (by omega), if_neg (by omega), if_neg (by omega)]
  have hn := congrArg Prod.fst hz.out
  have hp := congrArg Prod.snd hz.out
  simp only at hn hp
  clear h hz
  subst hn
  subst hp
  have d0 : decide ((a.toNat : Int) < 128) = false := decide_eq_false (by omega)
  have d1 : decide ((a.toNat : Int) < 194) = false := decide_eq_false (by omega)
  have d2 : decide ((a.toNat : Int) < 224) = false := decide_eq_false (by omega)
  have d3 : decide ((a.toNat : Int) < 240) = false := decide_eq_false (by omega)
  have d4 : decide ((a.toNat : Int) < 245) = false := decide_eq_false (by omega)
  clear c0 c1 c2 c3 c4 ha
  go_enter Try.func23, Try.ntmps23
  go_wp2_with fail
  go_ret2
  exact ⟨rfl, rfl⟩

set_option maxHeartbeats 1000000 in
theorem fits_is (p n : Nat) (b : Bool) (w : World) (hn : n ≤ 4) (hp : p < 2097152) (h : Utf.fits p n = b) :
    Calls Try.prog 24 #[.int .i32 p, .int .i64 n] w fun e w' => e = .returned (.bool b) ∧ w = w' := by
  by_cases h3 : n = 3
  · subst h3
    have hb : Hid ((decide (2048 ≤ p) && (decide (p < 55296) || decide (57343 < p))) = b) := by show _ = _; rw [← h]; rfl
    clear h
    by_cases c1 : p < 2048
    · obtain rfl : b = false := by rw [← hb.out]; simp; omega
      clear hb
      have d1 : decide ((2048 : Int) ≤ (p : Int)) = false := decide_eq_false (by omega)
      go_enter Try.func24, Try.ntmps24
      go_wp2_with fail
      go_ret
      exact ⟨rfl, rfl⟩
    · have d1 : decide ((2048 : Int) ≤ (p : Int)) = true := decide_eq_true (by omega)
      by_cases c2 : p < 55296
      · obtain rfl : b = true := by rw [← hb.out]; simp; omega
        clear hb
        have d2 : decide ((p : Int) < 55296) = true := decide_eq_true (by omega)
        go_enter Try.func24, Try.ntmps24
        go_wp2_with fail
        go_ret
        exact ⟨rfl, rfl⟩
      · have d2 : decide ((p : Int) < 55296) = false := decide_eq_false (by omega)
        by_cases c3 : 57343 < p
        · obtain rfl : b = true := by rw [← hb.out]; simp; omega
          clear hb
          have d3 : decide ((57343 : Int) < (p : Int)) = true := decide_eq_true (by omega)
          go_enter Try.func24, Try.ntmps24
          go_wp2_with fail
          go_ret
          exact ⟨rfl, rfl⟩
        · obtain rfl : b = false := by rw [← hb.out]; simp; omega
          clear hb
          have d3 : decide ((57343 : Int) < (p : Int)) = false := decide_eq_false (by omega)
          go_enter Try.func24, Try.ntmps24
          go_wp2_with fail
          go_ret
          exact ⟨rfl, rfl⟩
  · by_cases h4 : n = 4
    · subst h4
      have hb : Hid ((decide (65536 ≤ p) && decide (p ≤ 1114111)) = b) := by show _ = _; rw [← h]; rfl
      clear h
      by_cases c1 : p < 65536
      · obtain rfl : b = false := by rw [← hb.out]; simp; omega
        clear hb
        have d1 : decide ((65536 : Int) ≤ (p : Int)) = false := decide_eq_false (by omega)
        go_enter Try.func24, Try.ntmps24
        go_wp2_with fail
        go_ret
        exact ⟨rfl, rfl⟩
      · have d1 : decide ((65536 : Int) ≤ (p : Int)) = true := decide_eq_true (by omega)
        by_cases c2 : p ≤ 1114111
        · obtain rfl : b = true := by rw [← hb.out]; simp; omega
          clear hb
          have d2 : decide ((p : Int) ≤ 1114111) = true := decide_eq_true (by omega)
          go_enter Try.func24, Try.ntmps24
          go_wp2_with fail
          go_ret
          exact ⟨rfl, rfl⟩
        · obtain rfl : b = false := by rw [← hb.out]; simp; omega
          clear hb
          have d2 : decide ((p : Int) ≤ 1114111) = false := decide_eq_false (by omega)
          go_enter Try.func24, Try.ntmps24
          go_wp2_with fail
          go_ret
          exact ⟨rfl, rfl⟩
    · obtain rfl : b = true := by rw [← h]; unfold Utf.fits; rw [if_neg h3, if_neg h4]
      clear h
      have e3 : ((n : Int) == 3) = false := by rw [beq_eq_false_iff_ne]; omega
      have e4 : ((n : Int) == 4) = false := by rw [beq_eq_false_iff_ne]; omega
      clear h3 h4
      go_enter Try.func24, Try.ntmps24
      go_wp2_with fail
      go_ret
      exact ⟨rfl, rfl⟩

end Go.Proofs.Ytgncdjcbphobmaa
