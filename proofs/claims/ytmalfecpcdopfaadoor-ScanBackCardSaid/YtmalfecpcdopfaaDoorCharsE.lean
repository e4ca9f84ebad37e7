/- The walk of chars.escaped. -/
import Derived.Test.YtmalfecpcdopfaaDoorCharsC
import Derived.Test.YtmalfecpcdopfaaDoorCharsD
namespace Go.Proofs.YtmalfecpcdopfaaDoor
set_option linter.unusedVariables false
set_option linter.unusedSimpArgs false
open Go.RowKit

/-- What escaped hands back. -/
def escR (o : Option (Nat × Nat)) : Value := .tuple #[.string ⟨(o.elim [] (fun x => Utf.bytes x.1)).toArray⟩, .int .i64 (o.elim 0 (fun x => x.2) : Nat)]

theorem plain_at (c : UInt8) (o : Option UInt8) (w : World) (h : Chr.plain c = o) :
    Calls Tryd.prog 42 #[.int .u8 c.toNat] w fun e w' => e = .returned (.tuple #[.int .u8 (o.getD 0).toNat, .bool o.isSome]) ∧ w = w' := by
  subst h; exact plain_is c w
theorem unit_none (s : ByteArray) (k : Nat) (w : World) (hs : s.size ≤ maxLen) (hk : k ≤ 9223372036854775000) (hT : LowTabs w) (h : Chr.unitv (s.data.toList.drop k) = none) :
    Calls Tryd.prog 43 #[.string s, .int .i64 k] w fun e w' => e = .returned (.tuple #[.int .i32 0, .bool false]) ∧ Fr w w' := unit_is s k none w hs hk hT h
theorem unit_some (s : ByteArray) (k a : Nat) (w : World) (hs : s.size ≤ maxLen) (hk : k ≤ 9223372036854775000) (hT : LowTabs w) (h : Chr.unitv (s.data.toList.drop k) = some a) :
    Calls Tryd.prog 43 #[.string s, .int .i64 k] w fun e w' => e = .returned (.tuple #[.int .i32 a, .bool true]) ∧ Fr w w' := unit_is s k (some a) w hs hk hT h

theorem byte_ofNat (x : UInt8) : UInt8.ofNat x.toNat = x := by simp
theorem escd_short {s : ByteArray} {k : Nat} (h : s.size - k < 2) : Chr.escd (s.data.toList.drop k) = none := by
  unfold Chr.escd
  have e : (s.data.toList.drop k).getD 1 0 = 0 := by
    rw [List.getD_eq_getElem?_getD, List.getElem?_eq_none (by simp; omega)]; rfl
  rw [e, show Chr.plain 0 = none from rfl]
  simp only
  unfold Chr.escu
  rw [Chr.unitv_short (by simp; omega)]
theorem escd_at {s : ByteArray} {k : Nat} {c : UInt8} (h : k + 1 < s.size) (hc : s[k + 1] = c) : Chr.escd (s.data.toList.drop k) = match Chr.plain c with | some p => some (p.toNat, 2) | none => Chr.escu (s.data.toList.drop k) := by
  unfold Chr.escd
  have e : (s.data.toList.drop k).getD 1 0 = c := by
    rw [List.getD_eq_getElem?_getD, List.getElem?_drop, ← List.getD_eq_getElem?_getD, getD_at h, hc]
  rw [e]
  cases Chr.plain c <;> rfl
theorem unit_none6 (s : ByteArray) (k : Nat) (w : World) (hs : s.size ≤ maxLen) (hk : k + 6 ≤ 9223372036854775000) (hT : LowTabs w) (h : Chr.unitv (s.data.toList.drop (k + 6)) = none) :
    Calls Tryd.prog 43 #[.string s, .int .i64 ((k : Int) + 6)] w fun e w' => e = .returned (.tuple #[.int .i32 0, .bool false]) ∧ Fr w w' := by
  rw [show (k : Int) + 6 = ((k + 6 : Nat) : Int) by omega]; exact unit_none s (k + 6) w hs hk hT h
theorem unit_some6 (s : ByteArray) (k a : Nat) (w : World) (hs : s.size ≤ maxLen) (hk : k + 6 ≤ 9223372036854775000) (hT : LowTabs w) (h : Chr.unitv (s.data.toList.drop (k + 6)) = some a) :
    Calls Tryd.prog 43 #[.string s, .int .i64 ((k : Int) + 6)] w fun e w' => e = .returned (.tuple #[.int .i32 a, .bool true]) ∧ Fr w w' := by
  rw [show (k : Int) + 6 = ((k + 6 : Nat) : Int) by omega]; exact unit_some s (k + 6) a w hs hk hT h

set_option maxHeartbeats 4000000 in
set_option maxRecDepth 100000 in
theorem escaped_is (s : ByteArray) (k : Nat) (o : Option (Nat × Nat)) (w : World) (hs : s.size ≤ 9223372036854770000) (hk : k < s.size) (hT : LowTabs w) (h : Chr.escd (s.data.toList.drop k) = o) :
    Calls Tryd.prog 34 #[.string s, .int .i64 k] w fun e w' => e = .returned (escR o) ∧ Fr w w' := by
  have hsm : Hid (s.size ≤ maxLen) := by show _ ≤ _; unfold maxLen; omega
  have HT := Lib.hid hT
  clear hT
  by_cases h2 : s.size - k < 2
  · rw [escd_short h2] at h
    subst h
    have d1 : decide ((s.size : Int) - (k : Int) < 2) = true := decide_eq_true (by omega)
    go_enter Tryd.func34, Tryd.ntmps34
    go_wp2_with fail
    go_ret2
    exact ⟨rfl, Fr.refl _⟩
  have d1 : decide ((s.size : Int) - (k : Int) < 2) = false := decide_eq_false (by omega)
  have hk1 : k + 1 < s.size := by omega
  obtain ⟨c, hc⟩ : ∃ c, s[k + 1] = c := ⟨_, rfl⟩
  rw [escd_at hk1 hc] at h
  rcases hp : Chr.plain c with _ | p
  · rw [hp] at h
    simp only at h
    have HP := Lib.hid hp
    clear hp
    unfold Chr.escu at h
    rcases ha : Chr.unitv (s.data.toList.drop k) with _ | a
    · rw [ha] at h
      simp only at h
      subst h
      have HA := Lib.hid ha
      clear ha
      go_enter Tryd.func34, Tryd.ntmps34
      go_wp2_with (first
        | (go_at_call 42; refine (plain_at c none _ HP.out).mono ?_; rintro e w' ⟨rfl, rfl⟩)
        | (go_at_call 43; refine (unit_none s k _ hsm.out (by omega) HT.out HA.out).mono ?_; rintro e w1 ⟨rfl, hf1⟩))
      go_ret2
      exact ⟨rfl, hf1⟩
    · rw [ha] at h
      simp only at h
      have ha6 := Chr.unitv_lt ha
      have HA := Lib.hid ha
      clear ha
      by_cases hlo : a < 55296
      · rw [if_pos (.inl hlo)] at h
        subst h
        have e1 : decide ((a : Int) < 55296) = true := decide_eq_true (by omega)
        have HPt := Lib.hid (Utf.isPt_iff.2 (⟨by omega, .inl hlo⟩ : a ≤ 1114111 ∧ (a < 55296 ∨ 57343 < a)))
        go_enter Tryd.func34, Tryd.ntmps34
        go_wp2_with (first
          | (go_at_call 42; refine (plain_at c none _ HP.out).mono ?_; rintro e w' ⟨rfl, rfl⟩)
          | (go_at_call 43; refine (unit_some s k a _ hsm.out (by omega) HT.out HA.out).mono ?_; rintro e w1 ⟨rfl, hf1⟩; have HF1 := Lib.hid hf1; clear hf1)
          | (go_at_call 44; refine (put_pt a _ HPt.out).mono ?_; rintro e w2 ⟨rfl, hf2⟩; have HF2 := Lib.hid hf2; clear hf2))
        go_ret2
        exact ⟨rfl, HF1.out.trans HF2.out⟩
      · have e1 : decide ((a : Int) < 55296) = false := decide_eq_false (by omega)
        by_cases hhi : 57343 < a
        · rw [if_pos (.inr hhi)] at h
          subst h
          have e2 : decide ((57343 : Int) < (a : Int)) = true := decide_eq_true (by omega)
          have HPt := Lib.hid (Utf.isPt_iff.2 (⟨by omega, .inr hhi⟩ : a ≤ 1114111 ∧ (a < 55296 ∨ 57343 < a)))
          go_enter Tryd.func34, Tryd.ntmps34
          go_wp2_with (first
            | (go_at_call 42; refine (plain_at c none _ HP.out).mono ?_; rintro e w' ⟨rfl, rfl⟩)
            | (go_at_call 43; refine (unit_some s k a _ hsm.out (by omega) HT.out HA.out).mono ?_; rintro e w1 ⟨rfl, hf1⟩; have HF1 := Lib.hid hf1; clear hf1)
            | (go_at_call 44; refine (put_pt a _ HPt.out).mono ?_; rintro e w2 ⟨rfl, hf2⟩; have HF2 := Lib.hid hf2; clear hf2))
          go_ret2
          exact ⟨rfl, HF1.out.trans HF2.out⟩
        · rw [if_neg (by omega)] at h
          have e2 : decide ((57343 : Int) < (a : Int)) = false := decide_eq_false (by omega)
          rw [List.drop_drop] at h
          rcases hb : Chr.unitv (s.data.toList.drop (k + 6)) with _ | b
          · rw [hb] at h
            simp only at h
            subst h
            have HB := Lib.hid hb
            clear hb
            go_enter Tryd.func34, Tryd.ntmps34
            go_wp2_with (first
              | (go_at_call 42; refine (plain_at c none _ HP.out).mono ?_; rintro e w' ⟨rfl, rfl⟩)
              | (go_at_call 43; have HM := HF1.out; refine (unit_none6 s k _ hsm.out (by omega) (HT.out.keep HM) HB.out).mono ?_; rintro e w2 ⟨rfl, hf2⟩; have HF2 := Lib.hid hf2; clear hf2)
              | (go_at_call 43; refine (unit_some s k a _ hsm.out (by omega) HT.out HA.out).mono ?_; rintro e w1 ⟨rfl, hf1⟩; have HF1 := Lib.hid hf1; clear hf1))
            go_ret2
            exact ⟨rfl, HF1.out.trans HF2.out⟩
          · rw [hb] at h
            simp only at h
            have hb6 := Chr.unitv_lt hb
            have HB := Lib.hid hb
            clear hb
            by_cases hpair : a ≤ 56319 ∧ 56320 ≤ b ∧ b ≤ 57343
            · rw [if_pos hpair] at h
              subst h
              obtain ⟨p1, p2, p3⟩ := hpair
              have f1 : decide ((56319 : Int) < (a : Int)) = false := decide_eq_false (by omega)
              have f2 : decide ((b : Int) < 56320) = false := decide_eq_false (by omega)
              have f3 : decide ((57343 : Int) < (b : Int)) = false := decide_eq_false (by omega)
              obtain ⟨q, hq⟩ : ∃ q, 65536 + (a - 55296) * 1024 + (b - 56320) = q := ⟨_, rfl⟩
              have hqz : (65536 : Int) + ((a : Int) - 55296) * 1024 + ((b : Int) - 56320) = (q : Int) := by omega
              have HPt := Lib.hid (Utf.isPt_iff.2 (⟨by omega, .inr (by omega)⟩ : q ≤ 1114111 ∧ (q < 55296 ∨ 57343 < q)))
              rw [hq]
              clear hq
              go_enter Tryd.func34, Tryd.ntmps34
              go_wp2_with (first
                | (go_at_call 42; refine (plain_at c none _ HP.out).mono ?_; rintro e w' ⟨rfl, rfl⟩)
                | (go_at_call 43; have HM := HF1.out; refine (unit_some6 s k b _ hsm.out (by omega) (HT.out.keep HM) HB.out).mono ?_; rintro e w2 ⟨rfl, hf2⟩; have HF2 := Lib.hid hf2; clear hf2)
                | (go_at_call 43; refine (unit_some s k a _ hsm.out (by omega) HT.out HA.out).mono ?_; rintro e w1 ⟨rfl, hf1⟩; have HF1 := Lib.hid hf1; clear hf1)
                | (go_at_call 44; refine (put_pt q _ HPt.out).mono ?_; rintro e w3 ⟨rfl, hf3⟩; have HF3 := Lib.hid hf3; clear hf3))
              go_ret2
              exact ⟨rfl, (HF1.out.trans HF2.out).trans HF3.out⟩
            · rw [if_neg hpair] at h
              subst h
              have hcs : 56319 < a ∨ (a ≤ 56319 ∧ b < 56320) ∨ (a ≤ 56319 ∧ 56320 ≤ b ∧ 57343 < b) := by omega
              clear hpair
              rcases hcs with g1 | ⟨g1, g2⟩ | ⟨g1, g2, g3⟩
              · have f1 : decide ((56319 : Int) < (a : Int)) = true := decide_eq_true (by omega)
                go_enter Tryd.func34, Tryd.ntmps34
                go_wp2_with (first
                  | (go_at_call 42; refine (plain_at c none _ HP.out).mono ?_; rintro e w' ⟨rfl, rfl⟩)
                  | (go_at_call 43; have HM := HF1.out; refine (unit_some6 s k b _ hsm.out (by omega) (HT.out.keep HM) HB.out).mono ?_; rintro e w2 ⟨rfl, hf2⟩; have HF2 := Lib.hid hf2; clear hf2)
                  | (go_at_call 43; refine (unit_some s k a _ hsm.out (by omega) HT.out HA.out).mono ?_; rintro e w1 ⟨rfl, hf1⟩; have HF1 := Lib.hid hf1; clear hf1))
                go_ret2
                exact ⟨rfl, HF1.out.trans HF2.out⟩
              · have f1 : decide ((56319 : Int) < (a : Int)) = false := decide_eq_false (by omega)
                have f2 : decide ((b : Int) < 56320) = true := decide_eq_true (by omega)
                go_enter Tryd.func34, Tryd.ntmps34
                go_wp2_with (first
                  | (go_at_call 42; refine (plain_at c none _ HP.out).mono ?_; rintro e w' ⟨rfl, rfl⟩)
                  | (go_at_call 43; have HM := HF1.out; refine (unit_some6 s k b _ hsm.out (by omega) (HT.out.keep HM) HB.out).mono ?_; rintro e w2 ⟨rfl, hf2⟩; have HF2 := Lib.hid hf2; clear hf2)
                  | (go_at_call 43; refine (unit_some s k a _ hsm.out (by omega) HT.out HA.out).mono ?_; rintro e w1 ⟨rfl, hf1⟩; have HF1 := Lib.hid hf1; clear hf1))
                go_ret2
                exact ⟨rfl, HF1.out.trans HF2.out⟩
              · have f1 : decide ((56319 : Int) < (a : Int)) = false := decide_eq_false (by omega)
                have f2 : decide ((b : Int) < 56320) = false := decide_eq_false (by omega)
                have f3 : decide ((57343 : Int) < (b : Int)) = true := decide_eq_true (by omega)
                go_enter Tryd.func34, Tryd.ntmps34
                go_wp2_with (first
                  | (go_at_call 42; refine (plain_at c none _ HP.out).mono ?_; rintro e w' ⟨rfl, rfl⟩)
                  | (go_at_call 43; have HM := HF1.out; refine (unit_some6 s k b _ hsm.out (by omega) (HT.out.keep HM) HB.out).mono ?_; rintro e w2 ⟨rfl, hf2⟩; have HF2 := Lib.hid hf2; clear hf2)
                  | (go_at_call 43; refine (unit_some s k a _ hsm.out (by omega) HT.out HA.out).mono ?_; rintro e w1 ⟨rfl, hf1⟩; have HF1 := Lib.hid hf1; clear hf1))
                go_ret2
                exact ⟨rfl, HF1.out.trans HF2.out⟩
  · rw [hp] at h
    simp only at h
    subst h
    have hlt := Chr.plain_lt hp
    have hB : Hid (Utf.bytes p.toNat = [p]) := by show _ = _; unfold Utf.bytes; rw [if_pos hlt, byte_ofNat]
    have HP := Lib.hid hp
    clear hp hlt
    go_enter Tryd.func34, Tryd.ntmps34
    go_wp2_with (go_at_call 42; refine (plain_at c (some p) _ HP.out).mono ?_; rintro e w' ⟨rfl, rfl⟩)
    go_ret2
    refine ⟨?_, by repeat' (first | exact Fr.refl _ | refine Fr.alloc ?_ _ | refine Fr.drew ?_)⟩
    simp only [escR, Option.elim_some]
    rw [hB.out]
    simp

end Go.Proofs.YtmalfecpcdopfaaDoor
