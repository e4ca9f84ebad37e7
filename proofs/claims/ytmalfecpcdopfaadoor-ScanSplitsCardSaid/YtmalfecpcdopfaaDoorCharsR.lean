/- Walks of the document's texts between quotes: Unit, Escape. -/
import Derived.Test.YtmalfecpcdopfaaDoorCharsA
import Derived.Test.YtmalfecpcdopfaaDoorLowP
namespace Go.Proofs.YtmalfecpcdopfaaDoor
set_option linter.unusedVariables false
set_option linter.unusedSimpArgs false
open Go.RowKit

theorem getD_atR {s : ByteArray} {k : Nat} (h : k < s.size) : s.data.toList.getD k 0 = s[k] := by
  have h2 : k < s.data.toList.length := by simpa using h
  rw [List.getD_eq_getElem?_getD, List.getElem?_eq_getElem h2]
  rfl
theorem u8bneR {c : UInt8} {d : Nat} (hd : d < 256) (h : c ≠ UInt8.ofNat d) : ((c.toNat : Int) != (d : Int)) = true := by
  rw [bne, u8neq hd h]; rfl
/-- What the document's Unit says. -/
def runit (v : Option Nat) : Int := v.elim (-1) (fun a => (a : Int))

theorem rdigit_none (c : UInt8) (w : World) (h : Chr.hexv c = none) :
    Calls Tryd.prog 48 #[.int .u8 c.toNat] w fun e w' => e = .returned (.int .i64 (-1)) ∧ w = w' := by
  have := rdigit_is c w
  unfold rdig at this
  rw [h] at this
  exact this
theorem rdigit_some (c : UInt8) (d : Nat) (w : World) (h : Chr.hexv c = some d) :
    Calls Tryd.prog 48 #[.int .u8 c.toNat] w fun e w' => e = .returned (.int .i64 d) ∧ w = w' := by
  have := rdigit_is c w
  unfold rdig at this
  rw [h] at this
  exact this

set_option maxHeartbeats 1000000 in
set_option maxRecDepth 100000 in
theorem runit_short (s : ByteArray) (k : Nat) (w : World) (hs : s.size ≤ maxLen) (hk : k ≤ 9223372036854775000) (h : s.size < k + 6) :
    Calls Tryd.prog 40 #[.string s, .int .i64 k] w fun e w' => e = .returned (.int .i64 (-1)) ∧ w = w' := by
  unfold maxLen at hs
  have d0 : decide ((k : Int) < 0) = false := decide_eq_false (by omega)
  have d1 : decide ((s.size : Int) - (k : Int) < 6) = true := decide_eq_true (by omega)
  go_enter Tryd.func40, Tryd.ntmps40
  go_wp2_with fail
  go_ret
  exact ⟨rfl, rfl⟩
set_option maxHeartbeats 1000000 in
set_option maxRecDepth 100000 in
theorem runit_not (s : ByteArray) (k : Nat) (w : World) (hs : s.size ≤ maxLen) (h : k + 6 ≤ s.size) (hn : s[k] ≠ 92 ∨ s[k + 1] ≠ 117) :
    Calls Tryd.prog 40 #[.string s, .int .i64 k] w fun e w' => e = .returned (.int .i64 (-1)) ∧ w = w' := by
  unfold maxLen at hs
  have d0 : decide ((k : Int) < 0) = false := decide_eq_false (by omega)
  have d1 : decide ((s.size : Int) - (k : Int) < 6) = false := decide_eq_false (by omega)
  obtain ⟨a, ha⟩ : ∃ a, s[k] = a := ⟨_, rfl⟩
  obtain ⟨b, hb⟩ : ∃ b, s[k + 1] = b := ⟨_, rfl⟩
  rw [ha, hb] at hn
  by_cases h1 : a = 92
  · have h2 : b ≠ 117 := by rcases hn with h | h; exact absurd h1 h; exact h
    have e1 : ((a.toNat : Int) != 92) = false := by subst h1; rfl
    have e2 := u8bneR (d := 117) (by omega) h2
    clear hn h1 h2
    go_enter Tryd.func40, Tryd.ntmps40
    go_wp2_with fail
    go_ret
    exact ⟨rfl, rfl⟩
  · have e1 := u8bneR (d := 92) (by omega) h1
    clear hn h1
    go_enter Tryd.func40, Tryd.ntmps40
    go_wp2_with fail
    go_ret
    exact ⟨rfl, rfl⟩

/-- How far the four digits have been read. -/
structure RInv (l : List UInt8) (j n : Nat) : Prop where
  lo : 2 ≤ j
  hi : j ≤ 6
  eq : Chr.hexs 0 (l.take 4) = Chr.hexs n ((l.take 4).drop (j - 2))
  bd : n < 65536
  b2 : j = 2 → n = 0
  b3 : j = 3 → n < 16
  b4 : j = 4 → n < 256
  b5 : j = 5 → n < 4096
theorem RInv.start (l : List UInt8) : RInv l 2 0 := ⟨by omega, by omega, by simp, by omega, by omega, by omega, by omega, by omega⟩
theorem RInv.at_ {l : List UInt8} {j n : Nat} (h : RInv l j n) (hj : j < 6) (hl : 4 ≤ l.length) {c : UInt8} (hc : l.getD (j - 2) 0 = c) : (l.take 4).drop (j - 2) = c :: (l.take 4).drop (j + 1 - 2) := by
  have := h.lo
  rw [Nm.drop_cons (l.take 4) (j - 2) (by simp; omega), show j - 2 + 1 = j + 1 - 2 by omega]
  congr 1
  rw [← hc, List.getElem_take, List.getD_eq_getElem?_getD, List.getElem?_eq_getElem (by omega)]
  rfl
theorem RInv.bad {l : List UInt8} {j n : Nat} (h : RInv l j n) (hj : j < 6) (hl : 4 ≤ l.length) {c : UInt8} (hc : l.getD (j - 2) 0 = c) (hx : Chr.hexv c = none) : Chr.hexs 0 (l.take 4) = none := by
  rw [h.eq, h.at_ hj hl hc]; unfold Chr.hexs; rw [hx]
theorem RInv.step {l : List UInt8} {j n d : Nat} (h : RInv l j n) (hj : j < 6) (hl : 4 ≤ l.length) {c : UInt8} (hc : l.getD (j - 2) 0 = c) (hx : Chr.hexv c = some d) : RInv l (j + 1) (n * 16 + d) := by
  have hd := Chr.hexv_lt hx
  have := h.lo; have := h.b2; have := h.b3; have := h.b4; have := h.b5
  refine ⟨by omega, by omega, ?_, by omega, by omega, by omega, by omega, by omega⟩
  rw [h.eq, h.at_ hj hl hc]
  conv => lhs; unfold Chr.hexs
  rw [hx]
theorem RInv.stop {l : List UInt8} {n : Nat} (h : RInv l 6 n) : Chr.hexs 0 (l.take 4) = some n := by
  rw [h.eq, List.drop_of_length_le (by simp; omega)]; rfl

set_option maxHeartbeats 2000000 in
set_option maxRecDepth 100000 in
theorem runit_yes (s : ByteArray) (k : Nat) (w : World) (hs : s.size ≤ maxLen) (h : k + 6 ≤ s.size) (ha : s[k] = 92) (hb : s[k + 1] = 117) :
    Calls Tryd.prog 40 #[.string s, .int .i64 k] w fun e w' => e = .returned (.int .i64 (runit (Chr.hexs 0 ((s.data.toList.drop (k + 2)).take 4)))) ∧ w = w' := by
  unfold maxLen at hs
  have d0 : decide ((k : Int) < 0) = false := decide_eq_false (by omega)
  have d1 : decide ((s.size : Int) - (k : Int) < 6) = false := decide_eq_false (by omega)
  have hl : 4 ≤ (s.data.toList.drop (k + 2)).length := by simp; omega
  have hat : ∀ j (h2 : 2 ≤ j) (hj : k + j < s.size), (s.data.toList.drop (k + 2)).getD (j - 2) 0 = s[k + j] := by
    intro j h2 hj
    rw [List.getD_eq_getElem?_getD, List.getElem?_drop, ← List.getD_eq_getElem?_getD, show k + 2 + (j - 2) = k + j by omega, getD_atR hj]
  have HI := Lib.hid (RInv.start (s.data.toList.drop (k + 2)))
  have HL := Lib.hid hl
  have HA := Lib.hid hat
  clear hl hat
  go_enter Tryd.func40, Tryd.ntmps40
  go_wp2_with fail
  go_loop [5, 6] (fun v i => ∃ j n : Nat, v = .int .i64 n ∧ i = .int .i64 j ∧ Hid (RInv (s.data.toList.drop (k + 2)) j n)) (fun _ i => 6 - (intOf i).toNat)
  case atStart => exact ⟨2, 0, rfl, rfl, HI⟩
  case round =>
    obtain ⟨j, n, rfl, rfl, hj⟩ := hrel
    have h2 := hj.out.lo
    have h6 := hj.out.hi
    have hnb := hj.out.bd
    by_cases hlt : j < 6
    · have hx : k + j < s.size := by omega
      obtain ⟨c, hc⟩ : ∃ c, s[k + j] = c := ⟨_, rfl⟩
      have hcd := (HA.out j h2 hx).trans hc
      rcases hv : Chr.hexv c with _ | d
      · have hbd := Lib.hid (hj.out.bad hlt HL.out hcd hv)
        have HV := Lib.hid hv
        clear hv hcd hj
        go_wp2_with (go_at_call 48; refine (rdigit_none c _ HV.out).mono ?_; rintro e w' ⟨rfl, rfl⟩)
        go_ret
        exact ⟨by rw [hbd.out]; rfl, rfl⟩
      · have hbd := Lib.hid (hj.out.step hlt HL.out hcd hv)
        have hd := Chr.hexv_lt hv
        have HV := Lib.hid hv
        clear hv hcd hj
        go_wp2_with (go_at_call 48; refine (rdigit_some c d _ HV.out).mono ?_; rintro e w' ⟨rfl, rfl⟩)
        exact ⟨⟨j + 1, n * 16 + d, by go_num, by go_num, hbd⟩, by simp [intOf]; omega⟩
    · obtain rfl : j = 6 := by omega
      have hbd := Lib.hid hj.out.stop
      clear hj
      go_wp2_with fail
      go_ret
      exact ⟨by rw [hbd.out]; rfl, rfl⟩

theorem runit_is (s : ByteArray) (k : Nat) (v : Option Nat) (w : World) (hs : s.size ≤ maxLen) (hk : k ≤ 9223372036854775000) (h : Chr.unitv (s.data.toList.drop k) = v) :
    Calls Tryd.prog 40 #[.string s, .int .i64 k] w fun e w' => e = .returned (.int .i64 (runit v)) ∧ w = w' := by
  subst h
  by_cases h1 : s.size < k + 6
  · rw [Chr.unitv_short (by simpa using h1)]
    exact runit_short s k w hs hk h1
  · have hk1 : k < s.size := by omega
    have hk2 : k + 1 < s.size := by omega
    rw [Chr.unitv_at (by simp; omega), getD_atR hk1, getD_atR hk2]
    by_cases h2 : s[k] = 92 ∧ s[k + 1] = 117
    · rw [if_pos h2]
      exact runit_yes s k w hs (by omega) h2.1 h2.2
    · rw [if_neg h2]
      exact runit_not s k w hs (by omega) (by
        by_cases h3 : s[k] = 92
        · exact .inr fun h4 => h2 ⟨h3, h4⟩
        · exact .inl h3)

end Go.Proofs.YtmalfecpcdopfaaDoor
