/- The laws NumsBack and NumsGrows: walked. -/
import Derived.Test.YthiolmjamcopmaaNumsH
import Derived.Test.YthiolmjamcopmaaNumsR
namespace Go.Proofs.Ythiolmjamcopmaa
set_option linter.unusedVariables false
set_option linter.unusedSimpArgs false
open Go.RowKit

theorem all_put_in (n : Int) (w : World) (h1 : -9223372036854775808 ≤ n) (h2 : n ≤ 9223372036854775807) (h : -9007199254740991 ≤ n ∧ n ≤ 9007199254740991) :
    Calls Try.prog 13 #[.string ⟨(Nm.put n).toArray⟩] w fun e w' => e = .returned (.tuple #[.int .i64 n, .bool true]) ∧ Fr w w' :=
  all_some ⟨(Nm.put n).toArray⟩ n w (by have := Nm.put_len h1 h2; unfold maxLen; simp [ByteArray.size]; omega) (by simp [Nm.allNum_put, h])
theorem all_put_out (n : Int) (w : World) (h1 : -9223372036854775808 ≤ n) (h2 : n ≤ 9223372036854775807) (h : ¬ (-9007199254740991 ≤ n ∧ n ≤ 9007199254740991)) :
    Calls Try.prog 13 #[.string ⟨(Nm.put n).toArray⟩] w fun e w' => e = .returned (.tuple #[.int .i64 0, .bool false]) ∧ Fr w w' :=
  all_none ⟨(Nm.put n).toArray⟩ w (by have := Nm.put_len h1 h2; unfold maxLen; simp [ByteArray.size]; omega) (by simp only [Nm.allNum_put]; rw [if_neg h])

set_option maxRecDepth 100000 in
set_option maxHeartbeats 1000000 in
theorem back_in (n : Int) (s : ByteArray) (w : World) (h1 : -9223372036854775808 ≤ n) (h2 : n ≤ 9223372036854775807) (hs : s.size ≤ 140737488351232) (hm1 : -9007199254740991 ≤ n) (hm2 : n ≤ 9007199254740991) :
    Calls Try.prog 6 #[.int .i64 n, .string s] w fun e w' => e = .returned (.bool true) ∧ Below w.heap.size w w' := by
  have hpl := Nm.put_len h1 h2
  have hr : ∀ t, Nm.ends t = true → Nm.readNum (Nm.put n ++ t) 0 = (n, ((Nm.put n).length : Int), 0) := fun t ht => by rw [Nm.readNum_put n t ht, if_pos ⟨hm1, hm2⟩]
  have HR := Lib.hid hr
  clear hr
  have HZ : Hid ((⟨(Nm.put n).toArray⟩ ++ s : ByteArray).size ≤ maxLen) := by show _ ≤ _; unfold maxLen; rw [ByteArray.size_append, show (⟨(Nm.put n).toArray⟩ : ByteArray).size = (Nm.put n).length from List.size_toArray]; omega
  by_cases he : s.data.toList = []
  · obtain rfl : s = ⟨#[]⟩ := bytes_eq (by rw [he])
    have HE : Hid (Nm.readNum ((⟨(Nm.put n).toArray⟩ : ByteArray) ++ ⟨#[]⟩).data.toList 0 = (n, ((Nm.put n).length : Int), 0)) := by show _ = _; rw [data_app]; exact HR.out _ rfl
    clear he
    go_enter Try.func6, Try.ntmps6
    go_wp2_with fail
    refine (put_any n _ h1 h2).mono ?_
    rintro e w1 ⟨rfl, hw1⟩
    go_wp2_with fail
    refine (all_put_in n _ h1 h2 ⟨hm1, hm2⟩).mono ?_
    rintro e w2 ⟨rfl, hw2⟩
    go_wp2_with fail
    refine (awake3 _).mono ?_
    rintro e w3 ⟨rfl, hw3⟩
    go_wp2_with fail
    refine (read_is _ 0 n ((Nm.put n).length : Int) 0 _ ?hz (by omega) (by omega) ?he).mono ?_
    case hz => exact HZ.out
    case he => exact HE.out
    rintro e w4 ⟨rfl, rfl⟩
    go_wp2_with fail
    go_ret
    exact ⟨ret_bool (by simp), hw1.trans (hw2.trans hw3)⟩
  · have hpos : 0 < s.size := by
      rcases Nat.eq_zero_or_pos s.size with h | h
      · exact absurd (List.eq_nil_of_length_eq_zero (by simpa using h)) he
      · exact h
    obtain ⟨c, hc⟩ : ∃ c, s[0] = c := ⟨_, rfl⟩
    obtain ⟨t, ht⟩ : ∃ t, s.data.toList = c :: t := by
      cases hq : s.data.toList with
      | nil => exact absurd hq he
      | cons d t =>
        have h3 := getD_of hpos hc
        rw [hq] at h3
        exact ⟨t, by rw [show c = d from h3.symm]⟩
    have hem : s.toList.isEmpty = false := by rw [ByteArray.toList_eq, ht]; rfl
    have hem2 : (s.toList == []) = false := by rw [ByteArray.toList_eq, ht]; rfl
    have HT := Lib.hid ht
    clear he ht
    by_cases hd : Nm.isDig c = true
    · obtain ⟨d1, d2⟩ := Nm.isDig_iff.1 hd
      clear hd
      go_enter Try.func6, Try.ntmps6
      go_wp2_with fail
      refine (put_any n _ h1 h2).mono ?_
      rintro e w1 ⟨rfl, hw1⟩
      go_wp2_with fail
      refine (all_put_in n _ h1 h2 ⟨hm1, hm2⟩).mono ?_
      rintro e w2 ⟨rfl, hw2⟩
      go_wp2_with fail
      refine (awake3 _).mono ?_
      rintro e w3 ⟨rfl, hw3⟩
      go_wp2_with fail
      go_ret
      exact ⟨rfl, hw1.trans (hw2.trans hw3)⟩
    · have hd2 : (c.toNat : Int) < 48 ∨ (57 : Int) < c.toNat := by rw [Nm.isDig_iff] at hd; omega
      have HD := Lib.hid hd
      clear hd
      by_cases h46 : c = 46
      · have hx : ((c.toNat : Int) == 46) = true := by rw [h46]; rfl
        have hlo : (c.toNat : Int) < 48 := by rw [h46]; decide
        clear hd2 h46
        go_enter Try.func6, Try.ntmps6
        go_wp2_with fail
        refine (put_any n _ h1 h2).mono ?_
        rintro e w1 ⟨rfl, hw1⟩
        go_wp2_with fail
        refine (all_put_in n _ h1 h2 ⟨hm1, hm2⟩).mono ?_
        rintro e w2 ⟨rfl, hw2⟩
        go_wp2_with fail
        refine (awake3 _).mono ?_
        rintro e w3 ⟨rfl, hw3⟩
        go_wp2_with fail
        go_ret
        exact ⟨rfl, hw1.trans (hw2.trans hw3)⟩
      have hx46 : ((c.toNat : Int) == 46) = false := u8ne (d := 46) h46
      by_cases h101 : c = 101
      · have hx : ((c.toNat : Int) == 101) = true := by rw [h101]; rfl
        have hlo : (57 : Int) < c.toNat := by rw [h101]; decide
        clear hd2 h101
        go_enter Try.func6, Try.ntmps6
        go_wp2_with fail
        refine (put_any n _ h1 h2).mono ?_
        rintro e w1 ⟨rfl, hw1⟩
        go_wp2_with fail
        refine (all_put_in n _ h1 h2 ⟨hm1, hm2⟩).mono ?_
        rintro e w2 ⟨rfl, hw2⟩
        go_wp2_with fail
        refine (awake3 _).mono ?_
        rintro e w3 ⟨rfl, hw3⟩
        go_wp2_with fail
        go_ret
        exact ⟨rfl, hw1.trans (hw2.trans hw3)⟩
      have hx101 : ((c.toNat : Int) == 101) = false := u8ne (d := 101) h101
      by_cases h69 : c = 69
      · have hx : ((c.toNat : Int) == 69) = true := by rw [h69]; rfl
        have hlo : (57 : Int) < c.toNat := by rw [h69]; decide
        clear hd2 h69
        go_enter Try.func6, Try.ntmps6
        go_wp2_with fail
        refine (put_any n _ h1 h2).mono ?_
        rintro e w1 ⟨rfl, hw1⟩
        go_wp2_with fail
        refine (all_put_in n _ h1 h2 ⟨hm1, hm2⟩).mono ?_
        rintro e w2 ⟨rfl, hw2⟩
        go_wp2_with fail
        refine (awake3 _).mono ?_
        rintro e w3 ⟨rfl, hw3⟩
        go_wp2_with fail
        go_ret
        exact ⟨rfl, hw1.trans (hw2.trans hw3)⟩
      have hx69 : ((c.toNat : Int) == 69) = false := u8ne (d := 69) h69
      have HE : Hid (Nm.readNum ((⟨(Nm.put n).toArray⟩ : ByteArray) ++ s).data.toList 0 = (n, ((Nm.put n).length : Int), 0)) := by
        show _ = _
        rw [data_app]
        refine HR.out _ ?_
        rw [HT.out]
        simp [Nm.ends, HD.out, h46, h101, h69]
      clear h46 h101 h69
      rcases hd2 with hd2 | hd2
      all_goals
        go_enter Try.func6, Try.ntmps6
        go_wp2_with fail
        refine (put_any n _ h1 h2).mono ?_
        rintro e w1 ⟨rfl, hw1⟩
        go_wp2_with fail
        refine (all_put_in n _ h1 h2 ⟨hm1, hm2⟩).mono ?_
        rintro e w2 ⟨rfl, hw2⟩
        go_wp2_with fail
        refine (awake3 _).mono ?_
        rintro e w3 ⟨rfl, hw3⟩
        go_wp2_with fail
        refine (read_is _ 0 n ((Nm.put n).length : Int) 0 _ ?hz (by omega) (by omega) ?he).mono ?_
        case hz => exact HZ.out
        case he => exact HE.out
        rintro e w4 ⟨rfl, rfl⟩
        go_wp2_with fail
        go_ret
        exact ⟨ret_bool (by simp), hw1.trans (hw2.trans hw3)⟩

set_option maxRecDepth 100000 in
set_option maxHeartbeats 1000000 in
theorem back_lo (n : Int) (s : ByteArray) (w : World) (h1 : -9223372036854775808 ≤ n) (h2 : n ≤ 9223372036854775807) (hs : s.size ≤ 140737488351232) (hm1 : n < -9007199254740991) :
    Calls Try.prog 6 #[.int .i64 n, .string s] w fun e w' => e = .returned (.bool true) ∧ Below w.heap.size w w' := by
  have hpl := Nm.put_len h1 h2
  have hr : ∀ t, Nm.ends t = true → Nm.readNum (Nm.put n ++ t) 0 = (0, 0, 30) := fun t ht => by rw [Nm.readNum_put n t ht, if_neg (by omega)]
  have hno := Lib.hid (show ¬ (-9007199254740991 ≤ n ∧ n ≤ 9007199254740991) by omega)
  have HR := Lib.hid hr
  clear hr
  have HZ : Hid ((⟨(Nm.put n).toArray⟩ ++ s : ByteArray).size ≤ maxLen) := by show _ ≤ _; unfold maxLen; rw [ByteArray.size_append, show (⟨(Nm.put n).toArray⟩ : ByteArray).size = (Nm.put n).length from List.size_toArray]; omega
  by_cases he : s.data.toList = []
  · obtain rfl : s = ⟨#[]⟩ := bytes_eq (by rw [he])
    have HE : Hid (Nm.readNum ((⟨(Nm.put n).toArray⟩ : ByteArray) ++ ⟨#[]⟩).data.toList 0 = (0, 0, 30)) := by show _ = _; rw [data_app]; exact HR.out _ rfl
    clear he
    go_enter Try.func6, Try.ntmps6
    go_wp2_with fail
    refine (put_any n _ h1 h2).mono ?_
    rintro e w1 ⟨rfl, hw1⟩
    go_wp2_with fail
    refine (all_put_out n _ h1 h2 hno.out).mono ?_
    rintro e w2 ⟨rfl, hw2⟩
    go_wp2_with fail
    refine (awake3 _).mono ?_
    rintro e w3 ⟨rfl, hw3⟩
    go_wp2_with fail
    refine (read_is _ 0 0 0 30 _ ?hz (by omega) (by omega) ?he).mono ?_
    case hz => exact HZ.out
    case he => exact HE.out
    rintro e w4 ⟨rfl, rfl⟩
    go_wp2_with fail
    go_ret
    exact ⟨ret_bool (by simp), hw1.trans (hw2.trans hw3)⟩
  · have hpos : 0 < s.size := by
      rcases Nat.eq_zero_or_pos s.size with h | h
      · exact absurd (List.eq_nil_of_length_eq_zero (by simpa using h)) he
      · exact h
    obtain ⟨c, hc⟩ : ∃ c, s[0] = c := ⟨_, rfl⟩
    obtain ⟨t, ht⟩ : ∃ t, s.data.toList = c :: t := by
      cases hq : s.data.toList with
      | nil => exact absurd hq he
      | cons d t =>
        have h3 := getD_of hpos hc
        rw [hq] at h3
        exact ⟨t, by rw [show c = d from h3.symm]⟩
    have hem : s.toList.isEmpty = false := by rw [ByteArray.toList_eq, ht]; rfl
    have hem2 : (s.toList == []) = false := by rw [ByteArray.toList_eq, ht]; rfl
    have HT := Lib.hid ht
    clear he ht
    by_cases hd : Nm.isDig c = true
    · obtain ⟨d1, d2⟩ := Nm.isDig_iff.1 hd
      clear hd
      go_enter Try.func6, Try.ntmps6
      go_wp2_with fail
      refine (put_any n _ h1 h2).mono ?_
      rintro e w1 ⟨rfl, hw1⟩
      go_wp2_with fail
      refine (all_put_out n _ h1 h2 hno.out).mono ?_
      rintro e w2 ⟨rfl, hw2⟩
      go_wp2_with fail
      refine (awake3 _).mono ?_
      rintro e w3 ⟨rfl, hw3⟩
      go_wp2_with fail
      go_ret
      exact ⟨rfl, hw1.trans (hw2.trans hw3)⟩
    · have hd2 : (c.toNat : Int) < 48 ∨ (57 : Int) < c.toNat := by rw [Nm.isDig_iff] at hd; omega
      have HD := Lib.hid hd
      clear hd
      by_cases h46 : c = 46
      · have hx : ((c.toNat : Int) == 46) = true := by rw [h46]; rfl
        have hlo : (c.toNat : Int) < 48 := by rw [h46]; decide
        clear hd2 h46
        go_enter Try.func6, Try.ntmps6
        go_wp2_with fail
        refine (put_any n _ h1 h2).mono ?_
        rintro e w1 ⟨rfl, hw1⟩
        go_wp2_with fail
        refine (all_put_out n _ h1 h2 hno.out).mono ?_
        rintro e w2 ⟨rfl, hw2⟩
        go_wp2_with fail
        refine (awake3 _).mono ?_
        rintro e w3 ⟨rfl, hw3⟩
        go_wp2_with fail
        go_ret
        exact ⟨rfl, hw1.trans (hw2.trans hw3)⟩
      have hx46 : ((c.toNat : Int) == 46) = false := u8ne (d := 46) h46
      by_cases h101 : c = 101
      · have hx : ((c.toNat : Int) == 101) = true := by rw [h101]; rfl
        have hlo : (57 : Int) < c.toNat := by rw [h101]; decide
        clear hd2 h101
        go_enter Try.func6, Try.ntmps6
        go_wp2_with fail
        refine (put_any n _ h1 h2).mono ?_
        rintro e w1 ⟨rfl, hw1⟩
        go_wp2_with fail
        refine (all_put_out n _ h1 h2 hno.out).mono ?_
        rintro e w2 ⟨rfl, hw2⟩
        go_wp2_with fail
        refine (awake3 _).mono ?_
        rintro e w3 ⟨rfl, hw3⟩
        go_wp2_with fail
        go_ret
        exact ⟨rfl, hw1.trans (hw2.trans hw3)⟩
      have hx101 : ((c.toNat : Int) == 101) = false := u8ne (d := 101) h101
      by_cases h69 : c = 69
      · have hx : ((c.toNat : Int) == 69) = true := by rw [h69]; rfl
        have hlo : (57 : Int) < c.toNat := by rw [h69]; decide
        clear hd2 h69
        go_enter Try.func6, Try.ntmps6
        go_wp2_with fail
        refine (put_any n _ h1 h2).mono ?_
        rintro e w1 ⟨rfl, hw1⟩
        go_wp2_with fail
        refine (all_put_out n _ h1 h2 hno.out).mono ?_
        rintro e w2 ⟨rfl, hw2⟩
        go_wp2_with fail
        refine (awake3 _).mono ?_
        rintro e w3 ⟨rfl, hw3⟩
        go_wp2_with fail
        go_ret
        exact ⟨rfl, hw1.trans (hw2.trans hw3)⟩
      have hx69 : ((c.toNat : Int) == 69) = false := u8ne (d := 69) h69
      have HE : Hid (Nm.readNum ((⟨(Nm.put n).toArray⟩ : ByteArray) ++ s).data.toList 0 = (0, 0, 30)) := by
        show _ = _
        rw [data_app]
        refine HR.out _ ?_
        rw [HT.out]
        simp [Nm.ends, HD.out, h46, h101, h69]
      clear h46 h101 h69
      rcases hd2 with hd2 | hd2
      all_goals
        go_enter Try.func6, Try.ntmps6
        go_wp2_with fail
        refine (put_any n _ h1 h2).mono ?_
        rintro e w1 ⟨rfl, hw1⟩
        go_wp2_with fail
        refine (all_put_out n _ h1 h2 hno.out).mono ?_
        rintro e w2 ⟨rfl, hw2⟩
        go_wp2_with fail
        refine (awake3 _).mono ?_
        rintro e w3 ⟨rfl, hw3⟩
        go_wp2_with fail
        refine (read_is _ 0 0 0 30 _ ?hz (by omega) (by omega) ?he).mono ?_
        case hz => exact HZ.out
        case he => exact HE.out
        rintro e w4 ⟨rfl, rfl⟩
        go_wp2_with fail
        go_ret
        exact ⟨ret_bool (by simp), hw1.trans (hw2.trans hw3)⟩

set_option maxRecDepth 100000 in
set_option maxHeartbeats 1000000 in
theorem back_hi (n : Int) (s : ByteArray) (w : World) (h1 : -9223372036854775808 ≤ n) (h2 : n ≤ 9223372036854775807) (hs : s.size ≤ 140737488351232) (hm1 : 9007199254740991 < n) :
    Calls Try.prog 6 #[.int .i64 n, .string s] w fun e w' => e = .returned (.bool true) ∧ Below w.heap.size w w' := by
  have hpl := Nm.put_len h1 h2
  have hr : ∀ t, Nm.ends t = true → Nm.readNum (Nm.put n ++ t) 0 = (0, 0, 30) := fun t ht => by rw [Nm.readNum_put n t ht, if_neg (by omega)]
  have hno := Lib.hid (show ¬ (-9007199254740991 ≤ n ∧ n ≤ 9007199254740991) by omega)
  have HR := Lib.hid hr
  clear hr
  have HZ : Hid ((⟨(Nm.put n).toArray⟩ ++ s : ByteArray).size ≤ maxLen) := by show _ ≤ _; unfold maxLen; rw [ByteArray.size_append, show (⟨(Nm.put n).toArray⟩ : ByteArray).size = (Nm.put n).length from List.size_toArray]; omega
  by_cases he : s.data.toList = []
  · obtain rfl : s = ⟨#[]⟩ := bytes_eq (by rw [he])
    have HE : Hid (Nm.readNum ((⟨(Nm.put n).toArray⟩ : ByteArray) ++ ⟨#[]⟩).data.toList 0 = (0, 0, 30)) := by show _ = _; rw [data_app]; exact HR.out _ rfl
    clear he
    go_enter Try.func6, Try.ntmps6
    go_wp2_with fail
    refine (put_any n _ h1 h2).mono ?_
    rintro e w1 ⟨rfl, hw1⟩
    go_wp2_with fail
    refine (all_put_out n _ h1 h2 hno.out).mono ?_
    rintro e w2 ⟨rfl, hw2⟩
    go_wp2_with fail
    refine (awake3 _).mono ?_
    rintro e w3 ⟨rfl, hw3⟩
    go_wp2_with fail
    refine (read_is _ 0 0 0 30 _ ?hz (by omega) (by omega) ?he).mono ?_
    case hz => exact HZ.out
    case he => exact HE.out
    rintro e w4 ⟨rfl, rfl⟩
    go_wp2_with fail
    go_ret
    exact ⟨ret_bool (by simp), hw1.trans (hw2.trans hw3)⟩
  · have hpos : 0 < s.size := by
      rcases Nat.eq_zero_or_pos s.size with h | h
      · exact absurd (List.eq_nil_of_length_eq_zero (by simpa using h)) he
      · exact h
    obtain ⟨c, hc⟩ : ∃ c, s[0] = c := ⟨_, rfl⟩
    obtain ⟨t, ht⟩ : ∃ t, s.data.toList = c :: t := by
      cases hq : s.data.toList with
      | nil => exact absurd hq he
      | cons d t =>
        have h3 := getD_of hpos hc
        rw [hq] at h3
        exact ⟨t, by rw [show c = d from h3.symm]⟩
    have hem : s.toList.isEmpty = false := by rw [ByteArray.toList_eq, ht]; rfl
    have hem2 : (s.toList == []) = false := by rw [ByteArray.toList_eq, ht]; rfl
    have HT := Lib.hid ht
    clear he ht
    by_cases hd : Nm.isDig c = true
    · obtain ⟨d1, d2⟩ := Nm.isDig_iff.1 hd
      clear hd
      go_enter Try.func6, Try.ntmps6
      go_wp2_with fail
      refine (put_any n _ h1 h2).mono ?_
      rintro e w1 ⟨rfl, hw1⟩
      go_wp2_with fail
      refine (all_put_out n _ h1 h2 hno.out).mono ?_
      rintro e w2 ⟨rfl, hw2⟩
      go_wp2_with fail
      refine (awake3 _).mono ?_
      rintro e w3 ⟨rfl, hw3⟩
      go_wp2_with fail
      go_ret
      exact ⟨rfl, hw1.trans (hw2.trans hw3)⟩
    · have hd2 : (c.toNat : Int) < 48 ∨ (57 : Int) < c.toNat := by rw [Nm.isDig_iff] at hd; omega
      have HD := Lib.hid hd
      clear hd
      by_cases h46 : c = 46
      · have hx : ((c.toNat : Int) == 46) = true := by rw [h46]; rfl
        have hlo : (c.toNat : Int) < 48 := by rw [h46]; decide
        clear hd2 h46
        go_enter Try.func6, Try.ntmps6
        go_wp2_with fail
        refine (put_any n _ h1 h2).mono ?_
        rintro e w1 ⟨rfl, hw1⟩
        go_wp2_with fail
        refine (all_put_out n _ h1 h2 hno.out).mono ?_
        rintro e w2 ⟨rfl, hw2⟩
        go_wp2_with fail
        refine (awake3 _).mono ?_
        rintro e w3 ⟨rfl, hw3⟩
        go_wp2_with fail
        go_ret
        exact ⟨rfl, hw1.trans (hw2.trans hw3)⟩
      have hx46 : ((c.toNat : Int) == 46) = false := u8ne (d := 46) h46
      by_cases h101 : c = 101
      · have hx : ((c.toNat : Int) == 101) = true := by rw [h101]; rfl
        have hlo : (57 : Int) < c.toNat := by rw [h101]; decide
        clear hd2 h101
        go_enter Try.func6, Try.ntmps6
        go_wp2_with fail
        refine (put_any n _ h1 h2).mono ?_
        rintro e w1 ⟨rfl, hw1⟩
        go_wp2_with fail
        refine (all_put_out n _ h1 h2 hno.out).mono ?_
        rintro e w2 ⟨rfl, hw2⟩
        go_wp2_with fail
        refine (awake3 _).mono ?_
        rintro e w3 ⟨rfl, hw3⟩
        go_wp2_with fail
        go_ret
        exact ⟨rfl, hw1.trans (hw2.trans hw3)⟩
      have hx101 : ((c.toNat : Int) == 101) = false := u8ne (d := 101) h101
      by_cases h69 : c = 69
      · have hx : ((c.toNat : Int) == 69) = true := by rw [h69]; rfl
        have hlo : (57 : Int) < c.toNat := by rw [h69]; decide
        clear hd2 h69
        go_enter Try.func6, Try.ntmps6
        go_wp2_with fail
        refine (put_any n _ h1 h2).mono ?_
        rintro e w1 ⟨rfl, hw1⟩
        go_wp2_with fail
        refine (all_put_out n _ h1 h2 hno.out).mono ?_
        rintro e w2 ⟨rfl, hw2⟩
        go_wp2_with fail
        refine (awake3 _).mono ?_
        rintro e w3 ⟨rfl, hw3⟩
        go_wp2_with fail
        go_ret
        exact ⟨rfl, hw1.trans (hw2.trans hw3)⟩
      have hx69 : ((c.toNat : Int) == 69) = false := u8ne (d := 69) h69
      have HE : Hid (Nm.readNum ((⟨(Nm.put n).toArray⟩ : ByteArray) ++ s).data.toList 0 = (0, 0, 30)) := by
        show _ = _
        rw [data_app]
        refine HR.out _ ?_
        rw [HT.out]
        simp [Nm.ends, HD.out, h46, h101, h69]
      clear h46 h101 h69
      rcases hd2 with hd2 | hd2
      all_goals
        go_enter Try.func6, Try.ntmps6
        go_wp2_with fail
        refine (put_any n _ h1 h2).mono ?_
        rintro e w1 ⟨rfl, hw1⟩
        go_wp2_with fail
        refine (all_put_out n _ h1 h2 hno.out).mono ?_
        rintro e w2 ⟨rfl, hw2⟩
        go_wp2_with fail
        refine (awake3 _).mono ?_
        rintro e w3 ⟨rfl, hw3⟩
        go_wp2_with fail
        refine (read_is _ 0 0 0 30 _ ?hz (by omega) (by omega) ?he).mono ?_
        case hz => exact HZ.out
        case he => exact HE.out
        rintro e w4 ⟨rfl, rfl⟩
        go_wp2_with fail
        go_ret
        exact ⟨ret_bool (by simp), hw1.trans (hw2.trans hw3)⟩

theorem numsBack_any (n : Int) (s : ByteArray) (w : World) (h1 : -9223372036854775808 ≤ n) (h2 : n ≤ 9223372036854775807) (hs : s.size ≤ 140737488351232) :
    Calls Try.prog 6 #[.int .i64 n, .string s] w fun e w' => e = .returned (.bool true) ∧ Below w.heap.size w w' := by
  by_cases hl : n < -9007199254740991
  · exact back_lo n s w h1 h2 hs hl
  · by_cases hh : 9007199254740991 < n
    · exact back_hi n s w h1 h2 hs hh
    · exact back_in n s w h1 h2 hs (by omega) (by omega)

end Go.Proofs.Ythiolmjamcopmaa
