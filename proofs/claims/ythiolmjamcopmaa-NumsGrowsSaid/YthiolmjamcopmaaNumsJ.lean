/- The law NumsGrows, walked. -/
import Derived.Test.YthiolmjamcopmaaNumsH
import Derived.Test.YthiolmjamcopmaaNumsR
namespace Go.Proofs.Ythiolmjamcopmaa
set_option linter.unusedVariables false
set_option linter.unusedSimpArgs false
open Go.RowKit

theorem more_pos {n : Int} {d : Nat} (hd : d < 10) (h : 0 < n) : Nm.more n d = if 900719925474099 < n ∨ (n = 900719925474099 ∧ 1 < d) then none else some (n * 10 + d) := by
  unfold Nm.more
  rw [if_neg (by omega), if_neg (by omega)]
  by_cases h1 : 900719925474099 < n ∨ (n = 900719925474099 ∧ 1 < d)
  · rw [if_pos h1, if_neg (by omega)]
  · rw [if_neg h1, if_pos (by omega)]
theorem more_neg {n : Int} {d : Nat} (hd : d < 10) (h : n < 0) : Nm.more n d = if n < -900719925474099 ∨ (n = -900719925474099 ∧ 1 < d) then none else some (n * 10 - d) := by
  unfold Nm.more
  rw [if_neg (by omega), if_pos h]
  by_cases h1 : n < -900719925474099 ∨ (n = -900719925474099 ∧ 1 < d)
  · rw [if_pos h1, if_neg (by omega)]
  · rw [if_neg h1, if_pos (by omega)]

set_option maxRecDepth 100000 in
set_option maxHeartbeats 2000000 in
theorem grows_none (s : ByteArray) (d : UInt8) (w : World) (hs : s.size ≤ 140737488351232) (hn : Nm.allNum s.data.toList = none) :
    Calls Try.prog 7 #[.string s, .int .u8 d.toNat] w fun e w' => e = .returned (.bool true) ∧ Below w.heap.size w w' := by
  go_enter Try.func7, Try.ntmps7
  go_wp2_with fail
  refine (all_none s _ (by unfold maxLen; omega) hn).mono ?_
  rintro e w1 ⟨rfl, hw1⟩
  go_wp2_with fail
  refine (awake3 _).mono ?_
  rintro e w2 ⟨rfl, hw2⟩
  go_wp2_with fail
  refine (awake3 _).mono ?_
  rintro e w3 ⟨rfl, hw3⟩
  go_wp2_with fail
  go_ret
  exact ⟨rfl, hw1.trans (hw2.trans hw3)⟩

/-- The text with a digit behind. -/
theorem more_text (s : ByteArray) (n : Int) (k : Nat) (c : UInt8) (hk : k < 10) (hn : Nm.allNum s.data.toList = some n) (hc : c.toNat = 48 + k) :
    Nm.allNum (s ++ ⟨#[c]⟩ : ByteArray).data.toList = Nm.more n k := by
  have h := Nm.allNum_more (n := n) k hk
  have hcc : UInt8.ofNat (48 + k) = c := by rw [← hc]; exact UInt8.ofNat_toNat
  rw [hcc] at h
  rw [data_app, (Nm.allNum_some hn).1]
  exact h

set_option maxRecDepth 100000 in
set_option maxHeartbeats 2000000 in
theorem grows_some (s : ByteArray) (d : UInt8) (n : Int) (w : World) (hs : s.size ≤ 140737488351232) (hn : Nm.allNum s.data.toList = some n) :
    Calls Try.prog 7 #[.string s, .int .u8 d.toNat] w fun e w' => e = .returned (.bool true) ∧ Below w.heap.size w w' := by
  obtain ⟨hs0, hb1, hb2⟩ := Nm.allNum_some hn
  clear hs0
  obtain ⟨k, hk⟩ : ∃ k : Nat, (d.toNat : Int) % 10 = k := ⟨d.toNat % 10, by omega⟩
  have hk10 : k < 10 := by omega
  obtain ⟨c, hc⟩ : ∃ c : UInt8, c.toNat = 48 + k := ⟨UInt8.ofNat (48 + k), UInt8.toNat_ofNat_of_lt' (by show _ < 256; omega)⟩
  have hci : (48 : Int) + (k : Int) = (c.toNat : Int) := by omega
  have hmt := Lib.hid (more_text s n k c hk10 hn hc)
  clear hc
  have HN := Lib.hid hn
  clear hn
  have hxs : Hid ((s ++ ⟨#[c]⟩ : ByteArray).size ≤ maxLen) := by show _ ≤ _; unfold maxLen; rw [ByteArray.size_append]; show s.size + 1 ≤ _; omega
  have hsz : ((s.size + 1 : Nat) : Int) ≤ 9223372036854775807 := by omega
  rcases Int.lt_trichotomy n 0 with h0 | h0 | h0
  · have hz : (n == 0) = false := by rw [beq_eq_false_iff_ne]; omega
    by_cases hg : n < -900719925474099
    · skip
      have hm : Hid (Nm.allNum (s ++ ⟨#[c]⟩ : ByteArray).data.toList = none) := by show _ = _; rw [hmt.out]; rw [more_neg hk10 h0, if_pos (.inl hg)]
      go_enter Try.func7, Try.ntmps7
      go_wp2_with fail
      refine (all_some s n _ (by unfold maxLen; omega) HN.out).mono ?_
      rintro e w1 ⟨rfl, hw1⟩
      go_wp2_with fail
      refine (awake3 _).mono ?_
      rintro e w2 ⟨rfl, hw2⟩
      go_wp2_with fail
      refine (all_none _ _ ?hs ?hm).mono ?_
      case hs => exact hxs.out
      case hm => exact hm.out
      rintro e w3 ⟨rfl, hw3⟩
      clear hci hk hmt hm hxs hsz HN
      go_wp2_with fail
      go_ret
      exact ⟨ret_bool (by simp), hw1.trans (hw2.trans (((Fr.refl _).alloc _).trans hw3))⟩
    · by_cases he : n = -900719925474099
      · have heq : (n == -900719925474099) = true := by rw [beq_iff_eq]; exact he
        have HE := Lib.hid he
        clear he
        by_cases hd : 1 < k
        · skip
          have hd' : (1 : Int) < k := by omega
          have hm : Hid (Nm.allNum (s ++ ⟨#[c]⟩ : ByteArray).data.toList = none) := by show _ = _; rw [hmt.out]; rw [more_neg hk10 h0, if_pos (.inr ⟨HE.out, hd⟩)]
          go_enter Try.func7, Try.ntmps7
          go_wp2_with fail
          refine (all_some s n _ (by unfold maxLen; omega) HN.out).mono ?_
          rintro e w1 ⟨rfl, hw1⟩
          go_wp2_with fail
          refine (awake3 _).mono ?_
          rintro e w2 ⟨rfl, hw2⟩
          go_wp2_with fail
          refine (all_none _ _ ?hs ?hm).mono ?_
          case hs => exact hxs.out
          case hm => exact hm.out
          rintro e w3 ⟨rfl, hw3⟩
          clear hci hk hmt hm hxs hsz HN
          go_wp2_with fail
          go_ret
          exact ⟨ret_bool (by simp), hw1.trans (hw2.trans (((Fr.refl _).alloc _).trans hw3))⟩
        · skip
          have hd' : (k : Int) ≤ 1 := by omega
          have hm : Hid (Nm.allNum (s ++ ⟨#[c]⟩ : ByteArray).data.toList = some (n * 10 - k)) := by show _ = _; rw [hmt.out]; rw [more_neg hk10 h0, if_neg (fun h => h.elim hg fun h => hd h.2)]
          go_enter Try.func7, Try.ntmps7
          go_wp2_with fail
          refine (all_some s n _ (by unfold maxLen; omega) HN.out).mono ?_
          rintro e w1 ⟨rfl, hw1⟩
          go_wp2_with fail
          refine (awake3 _).mono ?_
          rintro e w2 ⟨rfl, hw2⟩
          go_wp2_with fail
          refine (all_some _ (n * 10 - k) _ ?hs ?hm).mono ?_
          case hs => exact hxs.out
          case hm => exact hm.out
          rintro e w3 ⟨rfl, hw3⟩
          clear hci hk hmt hm hxs hsz HN
          go_wp2_with fail
          go_ret
          exact ⟨ret_bool (by simp), hw1.trans (hw2.trans (((Fr.refl _).alloc _).trans hw3))⟩
      · have heq : (n == -900719925474099) = false := by rw [beq_eq_false_iff_ne]; exact he
        have hg2 : -900719925474099 ≤ n := by omega
        have HE := Lib.hid he
        clear he
        have hm : Hid (Nm.allNum (s ++ ⟨#[c]⟩ : ByteArray).data.toList = some (n * 10 - k)) := by show _ = _; rw [hmt.out]; rw [more_neg hk10 h0, if_neg (fun h => h.elim hg fun h => HE.out h.1)]
        go_enter Try.func7, Try.ntmps7
        go_wp2_with fail
        refine (all_some s n _ (by unfold maxLen; omega) HN.out).mono ?_
        rintro e w1 ⟨rfl, hw1⟩
        go_wp2_with fail
        refine (awake3 _).mono ?_
        rintro e w2 ⟨rfl, hw2⟩
        go_wp2_with fail
        refine (all_some _ (n * 10 - k) _ ?hs ?hm).mono ?_
        case hs => exact hxs.out
        case hm => exact hm.out
        rintro e w3 ⟨rfl, hw3⟩
        clear hci hk hmt hm hxs hsz HN
        go_wp2_with fail
        go_ret
        exact ⟨ret_bool (by simp), hw1.trans (hw2.trans (((Fr.refl _).alloc _).trans hw3))⟩
  · have hz : (n == 0) = true := by rw [beq_iff_eq]; exact h0
    have H0 := Lib.hid h0
    clear h0
    have hm : Hid (Nm.allNum (s ++ ⟨#[c]⟩ : ByteArray).data.toList = none) := by show _ = _; rw [hmt.out]; exact if_pos H0.out
    go_enter Try.func7, Try.ntmps7
    go_wp2_with fail
    refine (all_some s n _ (by unfold maxLen; omega) HN.out).mono ?_
    rintro e w1 ⟨rfl, hw1⟩
    go_wp2_with fail
    refine (awake3 _).mono ?_
    rintro e w2 ⟨rfl, hw2⟩
    go_wp2_with fail
    refine (all_none _ _ ?hs ?hm).mono ?_
    case hs => exact hxs.out
    case hm => exact hm.out
    rintro e w3 ⟨rfl, hw3⟩
    clear hci hk hmt hm hxs hsz HN
    go_wp2_with fail
    go_ret
    exact ⟨ret_bool (by simp), hw1.trans (hw2.trans (((Fr.refl _).alloc _).trans hw3))⟩
  · have hz : (n == 0) = false := by rw [beq_eq_false_iff_ne]; omega
    have heqn : (n == -900719925474099) = false := by rw [beq_eq_false_iff_ne]; omega
    by_cases hg : 900719925474099 < n
    · skip
      have hm : Hid (Nm.allNum (s ++ ⟨#[c]⟩ : ByteArray).data.toList = none) := by show _ = _; rw [hmt.out]; rw [more_pos hk10 h0, if_pos (.inl hg)]
      go_enter Try.func7, Try.ntmps7
      go_wp2_with fail
      refine (all_some s n _ (by unfold maxLen; omega) HN.out).mono ?_
      rintro e w1 ⟨rfl, hw1⟩
      go_wp2_with fail
      refine (awake3 _).mono ?_
      rintro e w2 ⟨rfl, hw2⟩
      go_wp2_with fail
      refine (all_none _ _ ?hs ?hm).mono ?_
      case hs => exact hxs.out
      case hm => exact hm.out
      rintro e w3 ⟨rfl, hw3⟩
      clear hci hk hmt hm hxs hsz HN
      go_wp2_with fail
      go_ret
      exact ⟨ret_bool (by simp), hw1.trans (hw2.trans (((Fr.refl _).alloc _).trans hw3))⟩
    · by_cases he : n = 900719925474099
      · have heq : (n == 900719925474099) = true := by rw [beq_iff_eq]; exact he
        have HE := Lib.hid he
        clear he
        by_cases hd : 1 < k
        · skip
          have hd' : (1 : Int) < k := by omega
          have hm : Hid (Nm.allNum (s ++ ⟨#[c]⟩ : ByteArray).data.toList = none) := by show _ = _; rw [hmt.out]; rw [more_pos hk10 h0, if_pos (.inr ⟨HE.out, hd⟩)]
          go_enter Try.func7, Try.ntmps7
          go_wp2_with fail
          refine (all_some s n _ (by unfold maxLen; omega) HN.out).mono ?_
          rintro e w1 ⟨rfl, hw1⟩
          go_wp2_with fail
          refine (awake3 _).mono ?_
          rintro e w2 ⟨rfl, hw2⟩
          go_wp2_with fail
          refine (all_none _ _ ?hs ?hm).mono ?_
          case hs => exact hxs.out
          case hm => exact hm.out
          rintro e w3 ⟨rfl, hw3⟩
          clear hci hk hmt hm hxs hsz HN
          go_wp2_with fail
          go_ret
          exact ⟨ret_bool (by simp), hw1.trans (hw2.trans (((Fr.refl _).alloc _).trans hw3))⟩
        · skip
          have hd' : (k : Int) ≤ 1 := by omega
          have hm : Hid (Nm.allNum (s ++ ⟨#[c]⟩ : ByteArray).data.toList = some (n * 10 + k)) := by show _ = _; rw [hmt.out]; rw [more_pos hk10 h0, if_neg (fun h => h.elim hg fun h => hd h.2)]
          go_enter Try.func7, Try.ntmps7
          go_wp2_with fail
          refine (all_some s n _ (by unfold maxLen; omega) HN.out).mono ?_
          rintro e w1 ⟨rfl, hw1⟩
          go_wp2_with fail
          refine (awake3 _).mono ?_
          rintro e w2 ⟨rfl, hw2⟩
          go_wp2_with fail
          refine (all_some _ (n * 10 + k) _ ?hs ?hm).mono ?_
          case hs => exact hxs.out
          case hm => exact hm.out
          rintro e w3 ⟨rfl, hw3⟩
          clear hci hk hmt hm hxs hsz HN
          go_wp2_with fail
          go_ret
          exact ⟨ret_bool (by simp), hw1.trans (hw2.trans (((Fr.refl _).alloc _).trans hw3))⟩
      · have heq : (n == 900719925474099) = false := by rw [beq_eq_false_iff_ne]; exact he
        have hg2 : n ≤ 900719925474099 := by omega
        have HE := Lib.hid he
        clear he
        have hm : Hid (Nm.allNum (s ++ ⟨#[c]⟩ : ByteArray).data.toList = some (n * 10 + k)) := by show _ = _; rw [hmt.out]; rw [more_pos hk10 h0, if_neg (fun h => h.elim hg fun h => HE.out h.1)]
        go_enter Try.func7, Try.ntmps7
        go_wp2_with fail
        refine (all_some s n _ (by unfold maxLen; omega) HN.out).mono ?_
        rintro e w1 ⟨rfl, hw1⟩
        go_wp2_with fail
        refine (awake3 _).mono ?_
        rintro e w2 ⟨rfl, hw2⟩
        go_wp2_with fail
        refine (all_some _ (n * 10 + k) _ ?hs ?hm).mono ?_
        case hs => exact hxs.out
        case hm => exact hm.out
        rintro e w3 ⟨rfl, hw3⟩
        clear hci hk hmt hm hxs hsz HN
        go_wp2_with fail
        go_ret
        exact ⟨ret_bool (by simp), hw1.trans (hw2.trans (((Fr.refl _).alloc _).trans hw3))⟩

theorem numsGrows_any (s : ByteArray) (d : Int) (w : World) (hs : s.size ≤ 140737488351232) (h1 : 0 ≤ d) (h2 : d ≤ 255) :
    Calls Try.prog 7 #[.string s, .int .u8 d] w fun e w' => e = .returned (.bool true) ∧ Below w.heap.size w w' := by
  obtain ⟨c, rfl⟩ : ∃ c : UInt8, d = (c.toNat : Int) := ⟨UInt8.ofNat d.toNat, by rw [UInt8.toNat_ofNat_of_lt' (by show _ < 256; omega)]; omega⟩
  cases hn : Nm.allNum s.data.toList with
  | none => exact grows_none s c w hs hn
  | some n => exact grows_some s c n w hs hn

end Go.Proofs.Ythiolmjamcopmaa
