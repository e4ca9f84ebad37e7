/- Walks of the laws CharsBegins, CharsBack, CharsQuotes: of texts not too great. -/
import Derived.Test.YtchiapalodgphaaDoorCharsH
import Derived.Test.YtchiapalodgphaaDoorCharsU
namespace Go.Proofs.YtchiapalodgphaaDoor
set_option linter.unusedVariables false
set_option linter.unusedSimpArgs false
open Go.RowKit

set_option maxHeartbeats 1000000 in
theorem rbad_is (s : ByteArray) (w : World) (hs : s.size ≤ 17592186044415) :
    Calls Tryd.prog 23 #[.string s] w fun e w' => e = .returned (.int .i64 (Utf.bad s.data.toList)) ∧ Fr w w' := by
  go_enter Tryd.func23, Tryd.ntmps23
  go_wp2_with (go_at_call 35; refine (points_is s _ hs).mono ?_; rintro e w' ⟨v, rfl, hps, hf⟩)
  go_ret
  exact ⟨rfl, hf⟩
theorem rbad_at (s : ByteArray) (b : Nat) (w : World) (hs : s.size ≤ 17592186044415) (h : Utf.bad s.data.toList = b) :
    Calls Tryd.prog 23 #[.string s] w fun e w' => e = .returned (.int .i64 b) ∧ Fr w w' := by
  subst h; exact rbad_is s w hs

theorem esc_le (x : UInt8) : (Chr.esc x).length ≤ 6 := by
  unfold Chr.esc
  repeat' split
  all_goals simp
theorem quote_len (l : List UInt8) : (Chr.quote l).length ≤ 6 * l.length + 2 := by
  have : ∀ l : List UInt8, (l.flatMap Chr.esc).length ≤ 6 * l.length := by
    intro l
    induction l with
    | nil => simp
    | cons x l ih =>
      have := esc_le x
      rw [List.flatMap_cons, List.length_append, List.length_cons]
      omega
  have := this l
  unfold Chr.quote
  simp only [List.length_cons, List.length_append, List.length_nil]
  omega

set_option maxHeartbeats 2000000 in
set_option maxRecDepth 100000 in
/-- CharsQuotes. -/
theorem quotes_law (s : ByteArray) (w : World) (hs : s.size ≤ 2000000) (hT : LowTabs w) (hP : PtTab w) :
    Calls Tryd.prog 5 #[.string s] w fun e w' => e = .returned (.bool true) ∧ Fr w w' := by
  have HT := Lib.hid hT
  have HP := Lib.hid hP
  clear hT hP
  have hsm : Hid (s.size ≤ maxLen) := by show _ ≤ _; unfold maxLen; omega
  have hs4 : Hid (s.size ≤ 17592186044415) := by show _ ≤ _; omega
  by_cases hb : Utf.bad s.data.toList = s.size
  · have HB := Lib.hid hb
    obtain ⟨Q, hQ⟩ : ∃ Q, Chr.quote s.data.toList = Q := ⟨_, rfl⟩
    have hql : Hid ((Chr.quote s.data.toList).length ≤ 140737488355328) := by
      show _ ≤ _
      have h1 := quote_len s.data.toList
      have h2 : s.data.toList.length = s.size := by simp
      omega
    have hq1 := fun w => quote_yes s w hsm.out HB.out hql.out
    have hq2 := fun w h => rquote_yes s w hs4.out HB.out hql.out h
    rw [hQ] at hq1 hq2
    have HQ1 := Lib.hid hq1
    have HQ2 := Lib.hid hq2
    clear hb hq1 hq2 hQ hql
    go_enter Tryd.func5, Tryd.ntmps5
    go_wp2_with (first
      | (go_at_call 18; refine (HQ1.out _).mono ?_; rintro e w1 ⟨rfl, hf⟩; have HF1 := Lib.hid hf; clear hf)
      | (go_at_call 19; refine (HQ2.out _ (HP.out.keep HF1.out)).mono ?_; rintro e w2 ⟨rfl, hf⟩; have HF2 := Lib.hid (HF1.out.trans hf); clear hf)
      | (go_at_call 20; refine (awake02 _ (HT.out.keep HF2.out)).mono ?_; rintro e w3 ⟨rfl, hf⟩; have HF3 := Lib.hid (HF2.out.trans hf); clear hf))
    go_ret
    exact ⟨rfl, HF3.out⟩
  · have HB : Hid (Utf.bad s.data.toList ≠ s.size) := hb
    clear hb
    go_enter Tryd.func5, Tryd.ntmps5
    go_wp2_with (first
      | (go_at_call 18; refine (quote_no s _ hsm.out HB.out).mono ?_; rintro e w1 ⟨rfl, rfl⟩)
      | (go_at_call 19; refine (rquote_no s _ hs4.out HB.out).mono ?_; rintro e w2 ⟨rfl, hf⟩; have HF2 := Lib.hid hf; clear hf)
      | (go_at_call 20; refine (awake02 _ (HT.out.keep HF2.out)).mono ?_; rintro e w3 ⟨rfl, hf⟩; have HF3 := Lib.hid (HF2.out.trans hf); clear hf))
    go_ret
    exact ⟨rfl, HF3.out⟩

set_option maxHeartbeats 2000000 in
set_option maxRecDepth 100000 in
/-- CharsBack. -/
theorem back_law (h s t : ByteArray) (w : World) (hs : h.size + s.size + t.size ≤ 2000000) (hT : LowTabs w) :
    Calls Tryd.prog 7 #[.string h, .string s, .string t] w fun e w' => e = .returned (.bool true) ∧ Fr w w' := by
  have HT := Lib.hid hT
  clear hT
  have hsm : Hid (s.size ≤ maxLen) := by show _ ≤ _; unfold maxLen; omega
  have hs4 : Hid (s.size ≤ 17592186044415) := by show _ ≤ _; omega
  by_cases hb : Utf.bad s.data.toList = s.size
  · have HB := Lib.hid hb
    obtain ⟨Q, hQ⟩ : ∃ Q, Chr.quote s.data.toList = Q := ⟨_, rfl⟩
    have hQl : Q.length ≤ 12000002 := by
      have h1 := quote_len s.data.toList
      have h2 : s.data.toList.length = s.size := by simp
      rw [hQ] at h1
      omega
    have hql : Hid ((Chr.quote s.data.toList).length ≤ 140737488355328) := by show _ ≤ _; rw [hQ]; omega
    have hq1 := fun w => quote_yes s w hsm.out HB.out hql.out
    have hrd : Hid (Chr.read (h ++ ⟨Q.toArray⟩ ++ t).data.toList (h.size : Nat) = (s.data.toList, (h.size : Int) + Q.length, 0)) := by
      show _ = _
      have h1 := Chr.read_back (h := h.data.toList) (s := s.data.toList) (t := t.data.toList) (by rw [hb]; simp)
      rw [hQ] at h1
      rw [data_app, data_app, List.append_assoc]
      have h2 : h.data.toList.length = h.size := by simp
      rw [h2] at h1
      exact h1
    have hz : Hid ((h ++ ⟨Q.toArray⟩ ++ t).size ≤ 140737488355328) := by
      show _ ≤ _
      have : (ByteArray.mk Q.toArray).size = Q.length := by simp [ByteArray.size]
      rw [ByteArray.size_append, ByteArray.size_append, this]
      omega
    rw [hQ] at hq1
    have HQ1 := Lib.hid hq1
    clear hb hq1 hQ hql
    go_enter Tryd.func7, Tryd.ntmps7
    go_wp2_with (first
      | (go_at_call 18; refine (HQ1.out _).mono ?_; rintro e w1 ⟨rfl, hf⟩; have HF1 := Lib.hid hf; clear hf)
      | (go_at_call 23; refine (rbad_at s s.size _ hs4.out HB.out).mono ?_; rintro e w2 ⟨rfl, hf⟩; have HF2 := Lib.hid (HF1.out.trans hf); clear hf)
      | (go_at_call 20; refine (awake02 _ (HT.out.keep HF2.out)).mono ?_; rintro e w3 ⟨rfl, hf⟩; have HF3 := Lib.hid (HF2.out.trans hf); clear hf))
    refine (cread_at _ (h.size : Nat) s.data.toList ((h.size : Int) + Q.length) 0 _ ?hz (by omega) (by omega) (HT.out.keep HF3.out) ?he).mono ?_
    case hz => exact hz.out
    case he => exact hrd.out
    rintro e w4 ⟨rfl, hf⟩
    have HF4 := Lib.hid (HF3.out.trans hf)
    clear hf
    go_wp2_with fail
    go_ret
    exact ⟨rfl, HF4.out⟩
  · obtain ⟨b, hbb⟩ : ∃ b, Utf.bad s.data.toList = b := ⟨_, rfl⟩
    have HB : Hid (Utf.bad s.data.toList ≠ s.size) := hb
    have HBB := Lib.hid hbb
    have hne : ((b : Int) == (s.size : Int)) = false := by rw [beq_eq_false_iff_ne]; omega
    clear hb hbb
    go_enter Tryd.func7, Tryd.ntmps7
    go_wp2_with (first
      | (go_at_call 18; refine (quote_no s _ hsm.out HB.out).mono ?_; rintro e w1 ⟨rfl, rfl⟩)
      | (go_at_call 23; refine (rbad_at s b _ hs4.out HBB.out).mono ?_; rintro e w2 ⟨rfl, hf⟩; have HF2 := Lib.hid hf; clear hf)
      | (go_at_call 20; refine (awake02 _ (HT.out.keep HF2.out)).mono ?_; rintro e w3 ⟨rfl, hf⟩; have HF3 := Lib.hid (HF2.out.trans hf); clear hf))
    go_ret
    exact ⟨rfl, HF3.out⟩

set_option maxHeartbeats 2000000 in
set_option maxRecDepth 100000 in
theorem begins_bad (s : ByteArray) (a : Int) (t : ByteArray) (T : List UInt8) (n c : Int) (w : World) (hs : s.size ≤ 2000000) (h1 : -9223372036854775808 ≤ a) (h2 : a ≤ 9223372036854775807) (hT : LowTabs w) (h : Chr.read s.data.toList a = (T, n, c)) (hc : c ≠ 0) :
    Calls Tryd.prog 10 #[.string s, .int .i64 a, .string t] w fun e w' => e = .returned (.bool true) ∧ Fr w w' := by
  have HT := Lib.hid hT
  have H := Lib.hid h
  have hne : (c != 0) = true := by rw [bne_iff_ne]; exact hc
  clear hT h hc
  go_enter Tryd.func10, Tryd.ntmps10
  go_wp2_with (first
    | (go_at_call 21; refine (cread_at s a T n c _ (by omega) h1 h2 HT.out H.out).mono ?_; rintro e w1 ⟨rfl, hf⟩; have HF1 := Lib.hid hf; clear hf)
    | (go_at_call 20; have hm := HF2.out; refine (awake02 _ (HT.out.keep hm)).mono ?_; rintro e w3 ⟨rfl, hf⟩; have HF3 := Lib.hid (hm.trans hf); clear hf hm)
    | (go_at_call 20; refine (awake02 _ (HT.out.keep HF1.out)).mono ?_; rintro e w2 ⟨rfl, hf⟩; have HF2 := Lib.hid (HF1.out.trans hf); clear hf))
  go_ret
  exact ⟨rfl, HF3.out⟩

set_option maxHeartbeats 2000000 in
set_option maxRecDepth 100000 in
theorem begins_ok (s : ByteArray) (k m : Nat) (t : ByteArray) (T : List UInt8) (w : World) (hs : s.size + t.size ≤ 2000000) (hT : LowTabs w) (h : Chr.read s.data.toList k = (T, (m : Int), 0)) (hk : k < m) (hm : m ≤ s.size)
    (h2 : Chr.read (s.extract 0 m ++ t).data.toList k = (T, (m : Int), 0)) :
    Calls Tryd.prog 10 #[.string s, .int .i64 k, .string t] w fun e w' => e = .returned (.bool true) ∧ Fr w w' := by
  have HT := Lib.hid hT
  have H := Lib.hid h
  have H2 := Lib.hid h2
  have hz : Hid ((s.extract 0 m ++ t).size ≤ 140737488355328) := by
    show _ ≤ _
    rw [ByteArray.size_append]
    simp
    omega
  have hmz : (m : Int) ≤ (s.size : Int) := by omega
  clear hT h h2
  go_enter Tryd.func10, Tryd.ntmps10
  go_wp2_with (first
    | (go_at_call 20; refine (awake02 _ (HT.out.keep HF1.out)).mono ?_; rintro e w2 ⟨rfl, hf⟩; have HF2 := Lib.hid (HF1.out.trans hf); clear hf)
    | (go_at_call 21; have hm2 := HF2.out; refine (cread_at _ k T m 0 _ ?hz (by omega) (by omega) (HT.out.keep hm2) ?he).mono ?_; rotate_right; rintro e w3 ⟨rfl, hf⟩; have HF3 := Lib.hid (hm2.trans hf); clear hf hm2)
    | (go_at_call 21; refine (cread_at s k T m 0 _ (by omega) (by omega) (by omega) HT.out H.out).mono ?_; rintro e w1 ⟨rfl, hf⟩; have HF1 := Lib.hid hf; clear hf))
  case hz => exact hz.out
  case he => exact H2.out
  go_ret
  exact ⟨rfl, HF3.out⟩

/-- CharsBegins. -/
theorem begins_law (s : ByteArray) (a : Int) (t : ByteArray) (w : World) (hs : s.size + t.size ≤ 2000000) (h1 : -9223372036854775808 ≤ a) (h2 : a ≤ 9223372036854775807) (hT : LowTabs w) :
    Calls Tryd.prog 10 #[.string s, .int .i64 a, .string t] w fun e w' => e = .returned (.bool true) ∧ Fr w w' := by
  rcases h : Chr.read s.data.toList a with ⟨T, n, c⟩
  by_cases hc : c = 0
  · subst hc
    have h0 : (Chr.read s.data.toList a).2.2 = 0 := by rw [h]
    have hr := Chr.read_right h0
    have ht := Chr.read_take t.data.toList h0
    rw [h] at hr ht
    simp only at hr ht
    obtain ⟨r1, r2, r3, r4, r5⟩ := hr
    obtain ⟨k, rfl⟩ : ∃ k : Nat, a = k := ⟨a.toNat, by omega⟩
    obtain ⟨m, rfl⟩ : ∃ m : Nat, n = m := ⟨n.toNat, by omega⟩
    simp only [Int.toNat_natCast] at ht
    have hsz : s.data.toList.length = s.size := by simp
    refine begins_ok s k m t T w hs hT h (by omega) (by omega) ?_
    rw [data_app, extract_list, List.drop_zero, Nat.sub_zero]
    exact ht
  · exact begins_bad s a t T n c w (by omega) h1 h2 hT h hc

end Go.Proofs.YtchiapalodgphaaDoor
