/- Walks of the laws CharsAgain, CharsBegins. -/
import Derived.Test.YtchiapalodgphaaDoorCharsG
import Derived.Test.YtchiapalodgphaaDoorCharsW
namespace Go.Proofs.YtchiapalodgphaaDoor
set_option linter.unusedVariables false
set_option linter.unusedSimpArgs false
open Go.RowKit

theorem quote_at (s : ByteArray) (Q : List UInt8) (w : World) (hs : s.size ≤ 140737488355328) (hb : Utf.bad s.data.toList = s.size) (hq : (Chr.quote s.data.toList).length ≤ 140737488355328) (h : Chr.quote s.data.toList = Q) :
    Calls Tryd.prog 18 #[.string s] w fun e w' => e = .returned (.tuple #[.string ⟨Q.toArray⟩, .bool true]) ∧ Fr w w' := by
  subst h
  exact quote_yes s w (by unfold maxLen; omega) hb hq

set_option maxHeartbeats 2000000 in
set_option maxRecDepth 100000 in
theorem again_bad (s : ByteArray) (a n c : Int) (w : World) (hs : s.size ≤ 140737488355328) (h1 : -9223372036854775808 ≤ a) (h2 : a ≤ 9223372036854775807) (hT : LowTabs w) (h : Chr.read s.data.toList a = ([], n, c)) (hc : c = 10 ∨ c = 20) :
    Calls Tryd.prog 8 #[.string s, .int .i64 a] w fun e w' => e = .returned (.bool true) ∧ Fr w w' := by
  have H := Lib.hid h
  have HT := Lib.hid hT
  clear h hT
  rcases hc with rfl | rfl
  all_goals
    go_enter Tryd.func8, Tryd.ntmps8
    go_wp2_with (first
      | (go_at_call 21; refine (cread_at s a [] n _ _ hs h1 h2 HT.out H.out).mono ?_; rintro e w1 ⟨rfl, hf⟩; have HF1 := Lib.hid hf; clear hf)
      | (go_at_call 20; refine (awake02 _ (HT.out.keep HF1.out)).mono ?_; rintro e w3 ⟨rfl, hf⟩; have HF3 := Lib.hid (HF1.out.trans hf); clear hf))
    go_ret
    exact ⟨rfl, HF3.out⟩

set_option maxHeartbeats 4000000 in
set_option maxRecDepth 100000 in
theorem again_ok (s : ByteArray) (k n : Nat) (T Q : List UInt8) (w : World) (hs : s.size ≤ 140737488351232) (hT : LowTabs w) (h : Chr.read s.data.toList k = (T, (n : Int), 0)) (hk : k < n) (hn : n ≤ s.size)
    (hq : s[n - 1]? = some 34) (hbad : Utf.bad T = T.length) (hTl : T.length ≤ 140737488355328) (hQ : Chr.quote T = Q) (hQl : Q.length ≤ 140737488355328) (h2 : Chr.read Q 0 = (T, (Q.length : Int), 0)) :
    Calls Tryd.prog 8 #[.string s, .int .i64 k] w fun e w' => e = .returned (.bool true) ∧ Fr w w' := by
  have H := Lib.hid h
  have H2 := Lib.hid h2
  have HT := Lib.hid hT
  have hs' : Hid (s.size ≤ 140737488355328) := by show _ ≤ _; omega
  have hTs : Hid ((ByteArray.mk T.toArray).size ≤ 140737488355328) := by show _ ≤ _; simpa [ByteArray.size] using hTl
  have hTb : Hid (Utf.bad (ByteArray.mk T.toArray).data.toList = (ByteArray.mk T.toArray).size) := by show _ = _; simpa [ByteArray.size] using hbad
  have hTq : Hid (Chr.quote (ByteArray.mk T.toArray).data.toList = Q) := by show _ = _; simpa using hQ
  have hTq2 : Hid ((Chr.quote (ByteArray.mk T.toArray).data.toList).length ≤ 140737488355328) := by show _ ≤ _; rw [hTq.out]; exact hQl
  have hQs : Hid ((ByteArray.mk Q.toArray).size ≤ 140737488355328) := by show _ ≤ _; simpa [ByteArray.size] using hQl
  have H2' : Hid (Chr.read (ByteArray.mk Q.toArray).data.toList 0 = (T, (Q.length : Int), 0)) := by show _ = _; simpa using h2
  have hn1 : n - 1 < s.size := by omega
  have hx : s[n - 1] = 34 := by
    have := hq
    rw [getElem?_pos s (n - 1) hn1] at this
    exact Option.some.inj this
  have d1 : decide ((k : Int) < (n : Int)) = true := decide_eq_true (by omega)
  have d2 : decide ((n : Int) ≤ (s.size : Int)) = true := decide_eq_true (by omega)
  have i1 : (0 : Int) ≤ (n : Int) - 1 := by omega
  have i2 : (n : Int) - 1 < (s.size : Int) := by omega
  have i3 : ((n : Int) - 1).toNat = n - 1 := by omega
  clear h h2 hT hq hbad hTl hQ hQl
  go_enter Tryd.func8, Tryd.ntmps8
  go_wp2_with (first
    | (go_at_call 18; refine (quote_at ⟨T.toArray⟩ Q _ hTs.out hTb.out hTq2.out hTq.out).mono ?_; rintro e w4 ⟨rfl, hf⟩; have HF4 := Lib.hid (HF3.out.trans hf); clear hf)
    | (go_at_call 21; have hm := HF4.out; refine (cread_at ⟨Q.toArray⟩ 0 T Q.length 0 _ hQs.out (by omega) (by omega) (HT.out.keep hm) H2'.out).mono ?_; rintro e w5 ⟨rfl, hf⟩; have HF5 := Lib.hid (hm.trans hf); clear hf hm)
    | (go_at_call 21; refine (cread_at s k T n 0 _ hs'.out (by omega) (by omega) HT.out H.out).mono ?_; rintro e w1 ⟨rfl, hf⟩; have HF1 := Lib.hid hf; clear hf)
    | (go_at_call 20; refine (awake02 _ (HT.out.keep HF1.out)).mono ?_; rintro e w3 ⟨rfl, hf⟩; have HF3 := Lib.hid (HF1.out.trans hf); clear hf))
  go_ret
  exact ⟨rfl, HF5.out⟩

/-- CharsAgain. -/
theorem again_law (s : ByteArray) (a : Int) (w : World) (hs : s.size ≤ 140737488351232) (h1 : -9223372036854775808 ≤ a) (h2 : a ≤ 9223372036854775807) (hT : LowTabs w) :
    Calls Tryd.prog 8 #[.string s, .int .i64 a] w fun e w' => e = .returned (.bool true) ∧ Fr w w' := by
  have hcode := Chr.read_code s.data.toList a
  rcases h : Chr.read s.data.toList a with ⟨T, n, c⟩
  by_cases hc : c = 0
  · subst hc
    have h0 : (Chr.read s.data.toList a).2.2 = 0 := by rw [h]
    have hr := Chr.read_right h0
    have hq := Chr.read_quote h0
    rw [h] at hr hq
    simp only at hr hq
    obtain ⟨r1, r2, r3, r4, r5⟩ := hr
    obtain ⟨k, rfl⟩ : ∃ k : Nat, a = k := ⟨a.toNat, by omega⟩
    obtain ⟨m, rfl⟩ : ∃ m : Nat, n = m := ⟨n.toNat, by omega⟩
    simp only [Int.toNat_natCast] at r5
    have hsz : s.data.toList.length = s.size := by simp
    have hQT : T.length ≤ (Chr.quote T).length := by
      unfold Chr.quote
      have : ∀ l : List UInt8, l.length ≤ (l.flatMap Chr.esc).length := by
        intro l
        induction l with
        | nil => simp
        | cons x l ih =>
          rw [List.flatMap_cons, List.length_append, List.length_cons]
          have : 1 ≤ (Chr.esc x).length := by unfold Chr.esc; repeat' split
                                              all_goals simp
          omega
      have := this T
      simp only [List.length_cons, List.length_append, List.length_nil]
      omega
    have hb := Chr.read_back (h := []) (s := T) (t := []) r1
    simp only [List.nil_append, List.append_nil, List.length_nil] at hb
    refine again_ok s k m T (Chr.quote T) w hs hT h (by omega) (by omega) ?_ r1 (by omega) rfl (by omega) ?_
    · have hm1 : m - 1 < s.size := by omega
      rw [getElem?_pos s (m - 1) hm1, ← r5, getD_at hm1]
    · have e : Chr.read (Chr.quote T) ((0 : Nat) : Int) = (T, ((0 : Nat) : Int) + (Chr.quote T).length, 0) := hb
      simpa using e
  · have hc2 : c = 10 ∨ c = 20 := by
      have := hcode.1
      rw [h] at this
      simp only at this
      omega
    have hT0 : T = [] := by
      have := hcode.2
      rw [h] at this
      exact this hc
    subst hT0
    exact again_bad s a n c w (by omega) h1 h2 hT h hc2

end Go.Proofs.YtchiapalodgphaaDoor
