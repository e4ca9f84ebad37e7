/- Walks of the small functions of nums: is, span, value. -/
import Derived.Test.YtmalfecpcdopfaaDoorRows
import Derived.Test.YtmalfecpcdopfaaDoorNumsP
import Derived.Test.YtmalfecpcdopfaaDoorKit
namespace Go.Proofs.YtmalfecpcdopfaaDoor
set_option linter.unusedVariables false
set_option linter.unusedSimpArgs false
open Go.RowKit

set_option maxHeartbeats 400000 in
theorem is_any (c : UInt8) (w : World) :
    Calls Tryd.prog 29 #[.int .u8 c.toNat] w fun e w' => e = .returned (.bool (Nm.isDig c)) ∧ w = w' := by
  go_enter Tryd.func29, Tryd.ntmps29
  go_wp2
  · have h : 48 ≤ (c.toNat : Int) := by assumption
    go_ret; exact ⟨ret_bool (by rw [Bool.eq_iff_iff]; simp [Nm.isDig]; omega), rfl⟩
  · have h : (c.toNat : Int) < 48 := by assumption
    go_ret; exact ⟨ret_bool (by rw [Nm.isDig_lo (by omega)]), rfl⟩

set_option maxHeartbeats 400000 in
theorem span_any (s : ByteArray) (i : Nat) (w : World) (hs : s.size ≤ maxLen) (hi : i ≤ s.size) :
    Calls Tryd.prog 36 #[.string s, .int .i64 i] w fun e w' => e = .returned (.int .i64 ((i + Nm.digLen (s.data.toList.drop i) : Nat) : Int)) ∧ w = w' := by
  unfold maxLen at hs
  go_enter Tryd.func36, Tryd.ntmps36
  go_wp2
  go_loop [1] (fun v => ∃ k : Nat, k ≤ s.size ∧ v = .int .i64 k ∧ i + Nm.digLen (s.data.toList.drop i) = k + Nm.digLen (s.data.toList.drop k)) (fun v => s.size - (intOf v).toNat)
  case atStart => exact ⟨i, hi, rfl, rfl⟩
  case round =>
    obtain ⟨k, hk, rfl, he⟩ := hrel
    have He := Lib.hid he
    clear he
    by_cases hlt : k < s.size
    · have hd := Nm.drop_cons s.data.toList k hlt
      have Hd : Hid (s.data.toList.drop k = s[k] :: s.data.toList.drop (k+1)) := hd
      clear hd
      have Hp : 48 ≤ s[k].toNat → s[k].toNat ≤ 57 → Nm.digLen (s.data.toList.drop k) = Nm.digLen (s.data.toList.drop (k+1)) + 1 := fun a b => by rw [Hd.out, Nm.digLen, if_pos (Nm.isDig_pos a b)]
      have Hn : (s[k].toNat < 48 ∨ 57 < s[k].toNat) → Nm.digLen (s.data.toList.drop k) = 0 := fun a => by
        rw [Hd.out, Nm.digLen, if_neg (by rw [Nm.isDig_iff]; omega)]
      have HP := Lib.hid Hp
      have HN := Lib.hid Hn
      clear Hp Hn
      go_wp2
      · have h1 : 48 ≤ (s[k].toNat : Int) := by assumption
        have h2 : (s[k].toNat : Int) ≤ 57 := by assumption
        have h3 := HP.out (by omega) (by omega)
        have h4 := He.out
        exact ⟨⟨k + 1, by omega, by go_num, by omega⟩, by simp [intOf]; omega⟩
      · have h2 : 57 < (s[k].toNat : Int) := by assumption
        have h3 := HN.out (by omega)
        have h4 := He.out
        go_ret
        exact ⟨ret_int (by omega), rfl⟩
      · have h2 : (s[k].toNat : Int) < 48 := by assumption
        have h3 := HN.out (by omega)
        have h4 := He.out
        go_ret
        exact ⟨ret_int (by omega), rfl⟩
    · go_wp2
      go_ret
      have hkk : k = s.size := by omega
      have h3 : Nm.digLen (s.data.toList.drop k) = 0 := by rw [List.drop_of_length_le (by simp; omega)]; rfl
      have h4 := He.out
      exact ⟨ret_int (by omega), rfl⟩

set_option maxHeartbeats 400000 in
theorem value_any (s : ByteArray) (w : World) (hs : s.size ≤ maxLen) (hd : ∀ k (h : k < s.size), 48 ≤ s[k].toNat ∧ s[k].toNat ≤ 57) :
    Calls Tryd.prog 37 #[.string s] w fun e w' => e = .returned (.tuple #[.int .i64 ((Nm.valFrom 0 s.data.toList).getD 0 : Nat), .bool (Nm.valFrom 0 s.data.toList).isSome]) ∧ w = w' := by
  unfold maxLen at hs
  have HD := Lib.hid hd
  clear hd
  go_enter Tryd.func37, Tryd.ntmps37
  go_wp2
  go_loop [4, 8] (fun v i => ∃ k n : Nat, k ≤ s.size ∧ n ≤ 9007199254740991 ∧ i = .int .i64 k ∧ v = .int .i64 n ∧ Nm.valFrom 0 s.data.toList = Nm.valFrom n (s.data.toList.drop k)) (fun _ i => s.size - (intOf i).toNat)
  case atStart => exact ⟨0, 0, by omega, by omega, rfl, rfl, rfl⟩
  case round =>
    obtain ⟨k, n, hk, hn, rfl, rfl, he⟩ := hrel
    have He := Lib.hid he
    clear he
    by_cases hlt : k < s.size
    · have Hd : Hid (s.data.toList.drop k = s[k] :: s.data.toList.drop (k+1)) := Nm.drop_cons s.data.toList k hlt
      obtain ⟨h1, h2⟩ := HD.out k hlt
      have Hc : Hid (Nm.valFrom n (s.data.toList.drop k) = if n * 10 + (s[k].toNat - 48) > 9007199254740991 then none else Nm.valFrom (n * 10 + (s[k].toNat - 48)) (s.data.toList.drop (k+1))) := by
        show _ = _
        rw [Hd.out, Nm.valFrom]
      go_wp2
      · have h3 : 9007199254740991 < (n : Int) * 10 + (s[k].toNat - 48) := by assumption
        have h4 : Nm.valFrom 0 s.data.toList = none := by rw [He.out, Hc.out, if_pos (by omega)]
        go_ret2
        exact ⟨by rw [h4]; rfl, rfl⟩
      · have h3 : (n : Int) * 10 + (s[k].toNat - 48) ≤ 9007199254740991 := by assumption
        have h4 : Nm.valFrom 0 s.data.toList = Nm.valFrom (n * 10 + (s[k].toNat - 48)) (s.data.toList.drop (k+1)) := by rw [He.out, Hc.out, if_neg (by omega)]
        refine ⟨⟨k + 1, n * 10 + (s[k].toNat - 48), by omega, by omega, by go_num, ?_, h4⟩, by simp [intOf]; omega⟩
        congr 1; omega
    · go_wp2
      go_ret2
      have h4 : Nm.valFrom 0 s.data.toList = some n := by rw [He.out, List.drop_of_length_le (by simp; omega)]; rfl
      exact ⟨by rw [h4]; rfl, rfl⟩

end Go.Proofs.YtmalfecpcdopfaaDoor
