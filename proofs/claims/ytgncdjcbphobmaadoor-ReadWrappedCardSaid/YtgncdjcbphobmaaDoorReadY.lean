/- The law ReadWrapped. -/
import Derived.Test.YtgncdjcbphobmaaDoorReadM
import Derived.Test.YtgncdjcbphobmaaDoorPb
import Derived.Test.YtgncdjcbphobmaaDoorVb
import Derived.Deep.Cut
import Derived.Deep.RegionHeld3
namespace Go.Proofs.YtgncdjcbphobmaaDoor
set_option linter.unusedVariables false
set_option linter.unusedSimpArgs false
open Go.RowKit

theorem list_text (s : ByteArray) : ((⟨#[91]⟩ : ByteArray) ++ s ++ (⟨#[93]⟩ : ByteArray)).data.toList = [91] ++ s.data.toList ++ [93] := by rw [data_app, data_app]
theorem map_text (s : ByteArray) : ((⟨#[123, 34, 107, 34, 58]⟩ : ByteArray) ++ s ++ (⟨#[125]⟩ : ByteArray)).data.toList = [123, 34, 107, 34, 58] ++ s.data.toList ++ [125] := by rw [data_app, data_app]
theorem list_size (s : ByteArray) : ((⟨#[91]⟩ : ByteArray) ++ s ++ (⟨#[93]⟩ : ByteArray)).size = s.size + 2 := by rw [ByteArray.size_append, ByteArray.size_append]; show 1 + s.size + 1 = _; omega
theorem map_size (s : ByteArray) : ((⟨#[123, 34, 107, 34, 58]⟩ : ByteArray) ++ s ++ (⟨#[125]⟩ : ByteArray)).size = s.size + 6 := by rw [ByteArray.size_append, ByteArray.size_append]; show 5 + s.size + 1 = _; omega

set_option maxHeartbeats 2000000 in
set_option maxRecDepth 100000 in
theorem wrapped_bad (s : ByteArray) (w : World) (hT : LowTabs w) (hl : s.size ≤ 60000) (v : JV) (l : List Scn.Tok) (n : Nat) (h : Rd.rdS s.data.toList = .ok v l n) (hb : Rd.nv v = 8192 ∨ Rd.dp v 1 = 16) (a b c : Nat) (hc : c = 51 ∨ c = 53) (h1 : Rd.rdS ([91] ++ s.data.toList ++ [93]) = .bad a c) (h2 : Rd.rdS ([123, 34, 107, 34, 58] ++ s.data.toList ++ [125]) = .bad b c) :
    Calls Tryd.prog 8 #[.string s] w fun e w' => e = .returned (.bool true) ∧ Fr w w' := by
  have hlen : s.data.toList.length = s.size := by simp
  obtain ⟨_, _, hn, hq, hd, hu, _⟩ := Rd.rdS_right h
  have HT := Lib.hid hT
  have H := Lib.hid h
  have HS : Hid (s.size ≤ 9223372036854775807) := by show _ ≤ _; omega
  have HUQ := Lib.hid hu
  have e1 : decide ((60000 : Int) < (s.size : Int)) = false := decide_eq_false (by omega)
  have hs63 : (s.size : Int) ≤ 60000 := by omega
  obtain ⟨m, hm⟩ : ∃ m, Rd.dp v 1 = m := ⟨_, rfl⟩
  have HN : Hid (Rd.nv v = n) := hn.symm
  have HM := Lib.hid hm
  have HQ := Lib.hid hq
  have HD : Hid (m ≤ 16) := by show _ ≤ _; omega
  have HZ1 : Hid (((⟨#[91]⟩ : ByteArray) ++ s ++ (⟨#[93]⟩ : ByteArray)).size ≤ 9223372036854775807) := by show _ ≤ _; rw [list_size]; omega
  have HZ2 : Hid (((⟨#[123, 34, 107, 34, 58]⟩ : ByteArray) ++ s ++ (⟨#[125]⟩ : ByteArray)).size ≤ 9223372036854775807) := by show _ ≤ _; rw [map_size]; omega
  have n1 : 1 + s.size ≤ 9223372036854775806 := by omega
  have n2 : 5 + s.size ≤ 9223372036854775806 := by omega
  have HR1 : Hid (Rd.rdS ((⟨#[91]⟩ : ByteArray) ++ s ++ (⟨#[93]⟩ : ByteArray)).data.toList = .bad a c) := by show _ = _; rw [list_text]; exact h1
  have HR2 : Hid (Rd.rdS ((⟨#[123, 34, 107, 34, 58]⟩ : ByteArray) ++ s ++ (⟨#[125]⟩ : ByteArray)).data.toList = .bad b c) := by show _ = _; rw [map_text]; exact h2
  have hn' : (n = 8192) ∨ (n ≠ 8192 ∧ m = 16) := by omega
  clear hT h hl hlen hn hq hd hu hm h1 h2 hb
  rcases hn' with hn1 | ⟨hn1, rfl⟩
  · have e2 : ((n : Int) == 8192) = true := by rw [beq_iff_eq]; omega
    clear hn1
    rcases hc with hc | hc
    · have e5 : (((c : Nat) : Int) == 53) = false := by rw [beq_eq_false_iff_ne]; omega
      have e6 : (((c : Nat) : Int) == 51) = true := by rw [beq_iff_eq]; omega
      clear hc
      go_enter Tryd.func8, Tryd.ntmps8
      go_wp2_with (first
        | (go_at_call 19; have hm := HF4.out.alloc (.cells #[.int .i64 0, .int .i64 0, .string ⟨#[]⟩, .slice none 0 0, .slice none 0 0] 25); refine (rvalue_b _ b c _ ?hz5 (HT.out.keep hm) ?hp5).mono ?_; (case hz5 => exact HZ2.out); (case hp5 => exact HR2.out); rintro e w5 ⟨rfl, hf⟩; have HF5 := Lib.hid ((hm.trans hf).alloc (.cells #[.int .i64 0, .int .i64 0, .string ⟨#[]⟩, .slice none 0 0, .slice none 0 0] 25)); clear hf hm)
        | (go_at_call 19; have hm := HF3.out; refine (rvalue_b _ a c _ ?hz4 (HT.out.keep hm) ?hp4).mono ?_; (case hz4 => exact HZ1.out); (case hp4 => exact HR1.out); rintro e w4 ⟨rfl, hf⟩; have HF4 := Lib.hid (hm.trans hf); clear hf hm)
        | (go_at_call 23; have hm := HF2.out; refine ((count_is v _ 1 _ HUQ.out HU2.out (by rw [HN.out]; have := HQ.out; omega) (by rw [HM.out]; have := HD.out; omega)).call rfl rfl HN.out HM.out).mono ?_; rintro e w3 ⟨rfl, hf⟩; have HB3 := Lib.hid (HB2.out.keep hf); have HU3 := Lib.hid ((HU2.out.keep (Nat.le_refl _) hf).lo hf.size); have HF3 := Lib.hid (hm.trans hf); clear hf hm)
        | (go_at_call 21; have hm := HF1.out.alloc (.cells #[.int .i64 v.kd, .int .i64 v.nm, .string ⟨v.tx.toArray⟩, .slice B v.ls.length d, .slice B' v.ms.length d'] 25); refine (awake05 _ (HT.out.keep hm)).mono ?_; rintro e w2 ⟨rfl, hf⟩; have hb := (VB.made w1 v B d B' d').keep hf; have HB2 := Lib.hid hb; obtain ⟨_, x0, x1, x2, x3, x4⟩ := hb; have h1 := ((Fr.refl w1).alloc (.cells #[.int .i64 v.kd, .int .i64 v.nm, .string ⟨v.tx.toArray⟩, .slice B v.ls.length d, .slice B' v.ms.length d'] 25)).trans hf; have HU2 := Lib.hid ((HU1.out.keep (Nat.le_refl _) h1).lo h1.size); have HF2 := Lib.hid (hm.trans hf); clear hf hm h1)
        | (go_at_call 19; (fail_if_success (have hm2 := HF1.out)); refine (rvalue_v s v l n v.kd v.nm v.tx v.ls.length v.ms.length ⟨rfl, rfl, rfl, rfl, rfl⟩ _ HS.out HT.out H.out).mono ?_; rintro e w1 ⟨B, d, B', d', rfl, hv, hf⟩; have HU1 := Lib.hid hv.low; have HF1 := Lib.hid hf; clear hf hv))
      go_ret
      exact ⟨rfl, HF5.out⟩
    · have e5 : (((c : Nat) : Int) == 53) = true := by rw [beq_iff_eq]; omega
      clear hc
      go_enter Tryd.func8, Tryd.ntmps8
      go_wp2_with (first
        | (go_at_call 19; have hm := HF4.out.alloc (.cells #[.int .i64 0, .int .i64 0, .string ⟨#[]⟩, .slice none 0 0, .slice none 0 0] 25); refine (rvalue_b _ b c _ ?hz5 (HT.out.keep hm) ?hp5).mono ?_; (case hz5 => exact HZ2.out); (case hp5 => exact HR2.out); rintro e w5 ⟨rfl, hf⟩; have HF5 := Lib.hid ((hm.trans hf).alloc (.cells #[.int .i64 0, .int .i64 0, .string ⟨#[]⟩, .slice none 0 0, .slice none 0 0] 25)); clear hf hm)
        | (go_at_call 19; have hm := HF3.out; refine (rvalue_b _ a c _ ?hz4 (HT.out.keep hm) ?hp4).mono ?_; (case hz4 => exact HZ1.out); (case hp4 => exact HR1.out); rintro e w4 ⟨rfl, hf⟩; have HF4 := Lib.hid (hm.trans hf); clear hf hm)
        | (go_at_call 23; have hm := HF2.out; refine ((count_is v _ 1 _ HUQ.out HU2.out (by rw [HN.out]; have := HQ.out; omega) (by rw [HM.out]; have := HD.out; omega)).call rfl rfl HN.out HM.out).mono ?_; rintro e w3 ⟨rfl, hf⟩; have HB3 := Lib.hid (HB2.out.keep hf); have HU3 := Lib.hid ((HU2.out.keep (Nat.le_refl _) hf).lo hf.size); have HF3 := Lib.hid (hm.trans hf); clear hf hm)
        | (go_at_call 21; have hm := HF1.out.alloc (.cells #[.int .i64 v.kd, .int .i64 v.nm, .string ⟨v.tx.toArray⟩, .slice B v.ls.length d, .slice B' v.ms.length d'] 25); refine (awake05 _ (HT.out.keep hm)).mono ?_; rintro e w2 ⟨rfl, hf⟩; have hb := (VB.made w1 v B d B' d').keep hf; have HB2 := Lib.hid hb; obtain ⟨_, x0, x1, x2, x3, x4⟩ := hb; have h1 := ((Fr.refl w1).alloc (.cells #[.int .i64 v.kd, .int .i64 v.nm, .string ⟨v.tx.toArray⟩, .slice B v.ls.length d, .slice B' v.ms.length d'] 25)).trans hf; have HU2 := Lib.hid ((HU1.out.keep (Nat.le_refl _) h1).lo h1.size); have HF2 := Lib.hid (hm.trans hf); clear hf hm h1)
        | (go_at_call 19; (fail_if_success (have hm2 := HF1.out)); refine (rvalue_v s v l n v.kd v.nm v.tx v.ls.length v.ms.length ⟨rfl, rfl, rfl, rfl, rfl⟩ _ HS.out HT.out H.out).mono ?_; rintro e w1 ⟨B, d, B', d', rfl, hv, hf⟩; have HU1 := Lib.hid hv.low; have HF1 := Lib.hid hf; clear hf hv))
      go_ret
      exact ⟨rfl, HF5.out⟩
  · have e2 : ((n : Int) == 8192) = false := by rw [beq_eq_false_iff_ne]; omega
    clear hn1
    rcases hc with hc | hc
    · have e5 : (((c : Nat) : Int) == 53) = false := by rw [beq_eq_false_iff_ne]; omega
      have e6 : (((c : Nat) : Int) == 51) = true := by rw [beq_iff_eq]; omega
      clear hc
      go_enter Tryd.func8, Tryd.ntmps8
      go_wp2_with (first
        | (go_at_call 19; have hm := HF4.out.alloc (.cells #[.int .i64 0, .int .i64 0, .string ⟨#[]⟩, .slice none 0 0, .slice none 0 0] 25); refine (rvalue_b _ b c _ ?hz5 (HT.out.keep hm) ?hp5).mono ?_; (case hz5 => exact HZ2.out); (case hp5 => exact HR2.out); rintro e w5 ⟨rfl, hf⟩; have HF5 := Lib.hid ((hm.trans hf).alloc (.cells #[.int .i64 0, .int .i64 0, .string ⟨#[]⟩, .slice none 0 0, .slice none 0 0] 25)); clear hf hm)
        | (go_at_call 19; have hm := HF3.out; refine (rvalue_b _ a c _ ?hz4 (HT.out.keep hm) ?hp4).mono ?_; (case hz4 => exact HZ1.out); (case hp4 => exact HR1.out); rintro e w4 ⟨rfl, hf⟩; have HF4 := Lib.hid (hm.trans hf); clear hf hm)
        | (go_at_call 23; have hm := HF2.out; refine ((count_is v _ 1 _ HUQ.out HU2.out (by rw [HN.out]; have := HQ.out; omega) (by rw [HM.out]; have := HD.out; omega)).call rfl rfl HN.out HM.out).mono ?_; rintro e w3 ⟨rfl, hf⟩; have HB3 := Lib.hid (HB2.out.keep hf); have HU3 := Lib.hid ((HU2.out.keep (Nat.le_refl _) hf).lo hf.size); have HF3 := Lib.hid (hm.trans hf); clear hf hm)
        | (go_at_call 21; have hm := HF1.out.alloc (.cells #[.int .i64 v.kd, .int .i64 v.nm, .string ⟨v.tx.toArray⟩, .slice B v.ls.length d, .slice B' v.ms.length d'] 25); refine (awake05 _ (HT.out.keep hm)).mono ?_; rintro e w2 ⟨rfl, hf⟩; have hb := (VB.made w1 v B d B' d').keep hf; have HB2 := Lib.hid hb; obtain ⟨_, x0, x1, x2, x3, x4⟩ := hb; have h1 := ((Fr.refl w1).alloc (.cells #[.int .i64 v.kd, .int .i64 v.nm, .string ⟨v.tx.toArray⟩, .slice B v.ls.length d, .slice B' v.ms.length d'] 25)).trans hf; have HU2 := Lib.hid ((HU1.out.keep (Nat.le_refl _) h1).lo h1.size); have HF2 := Lib.hid (hm.trans hf); clear hf hm h1)
        | (go_at_call 19; (fail_if_success (have hm2 := HF1.out)); refine (rvalue_v s v l n v.kd v.nm v.tx v.ls.length v.ms.length ⟨rfl, rfl, rfl, rfl, rfl⟩ _ HS.out HT.out H.out).mono ?_; rintro e w1 ⟨B, d, B', d', rfl, hv, hf⟩; have HU1 := Lib.hid hv.low; have HF1 := Lib.hid hf; clear hf hv))
      go_ret
      exact ⟨rfl, HF5.out⟩
    · have e5 : (((c : Nat) : Int) == 53) = true := by rw [beq_iff_eq]; omega
      clear hc
      go_enter Tryd.func8, Tryd.ntmps8
      go_wp2_with (first
        | (go_at_call 19; have hm := HF4.out.alloc (.cells #[.int .i64 0, .int .i64 0, .string ⟨#[]⟩, .slice none 0 0, .slice none 0 0] 25); refine (rvalue_b _ b c _ ?hz5 (HT.out.keep hm) ?hp5).mono ?_; (case hz5 => exact HZ2.out); (case hp5 => exact HR2.out); rintro e w5 ⟨rfl, hf⟩; have HF5 := Lib.hid ((hm.trans hf).alloc (.cells #[.int .i64 0, .int .i64 0, .string ⟨#[]⟩, .slice none 0 0, .slice none 0 0] 25)); clear hf hm)
        | (go_at_call 19; have hm := HF3.out; refine (rvalue_b _ a c _ ?hz4 (HT.out.keep hm) ?hp4).mono ?_; (case hz4 => exact HZ1.out); (case hp4 => exact HR1.out); rintro e w4 ⟨rfl, hf⟩; have HF4 := Lib.hid (hm.trans hf); clear hf hm)
        | (go_at_call 23; have hm := HF2.out; refine ((count_is v _ 1 _ HUQ.out HU2.out (by rw [HN.out]; have := HQ.out; omega) (by rw [HM.out]; have := HD.out; omega)).call rfl rfl HN.out HM.out).mono ?_; rintro e w3 ⟨rfl, hf⟩; have HB3 := Lib.hid (HB2.out.keep hf); have HU3 := Lib.hid ((HU2.out.keep (Nat.le_refl _) hf).lo hf.size); have HF3 := Lib.hid (hm.trans hf); clear hf hm)
        | (go_at_call 21; have hm := HF1.out.alloc (.cells #[.int .i64 v.kd, .int .i64 v.nm, .string ⟨v.tx.toArray⟩, .slice B v.ls.length d, .slice B' v.ms.length d'] 25); refine (awake05 _ (HT.out.keep hm)).mono ?_; rintro e w2 ⟨rfl, hf⟩; have hb := (VB.made w1 v B d B' d').keep hf; have HB2 := Lib.hid hb; obtain ⟨_, x0, x1, x2, x3, x4⟩ := hb; have h1 := ((Fr.refl w1).alloc (.cells #[.int .i64 v.kd, .int .i64 v.nm, .string ⟨v.tx.toArray⟩, .slice B v.ls.length d, .slice B' v.ms.length d'] 25)).trans hf; have HU2 := Lib.hid ((HU1.out.keep (Nat.le_refl _) h1).lo h1.size); have HF2 := Lib.hid (hm.trans hf); clear hf hm h1)
        | (go_at_call 19; (fail_if_success (have hm2 := HF1.out)); refine (rvalue_v s v l n v.kd v.nm v.tx v.ls.length v.ms.length ⟨rfl, rfl, rfl, rfl, rfl⟩ _ HS.out HT.out H.out).mono ?_; rintro e w1 ⟨B, d, B', d', rfl, hv, hf⟩; have HU1 := Lib.hid hv.low; have HF1 := Lib.hid hf; clear hf hv))
      go_ret
      exact ⟨rfl, HF5.out⟩

set_option maxHeartbeats 2000000 in
set_option maxRecDepth 100000 in
theorem wrapped_ok (s : ByteArray) (w : World) (hT : LowTabs w) (hl : s.size ≤ 60000) (v : JV) (l : List Scn.Tok) (n : Nat) (h : Rd.rdS s.data.toList = .ok v l n) (hb : Rd.nv v ≠ 8192 ∧ Rd.dp v 1 ≠ 16) (q1 q2 : Nat) (h1 : Rd.rdS ([91] ++ s.data.toList ++ [93]) = .ok (JV.listV [v]) [] q1) (h2 : Rd.rdS ([123, 34, 107, 34, 58] ++ s.data.toList ++ [125]) = .ok (JV.mapV [([107], v)]) [] q2) :
    Calls Tryd.prog 8 #[.string s] w fun e w' => e = .returned (.bool true) ∧ Fr w w' := by
  have hlen : s.data.toList.length = s.size := by simp
  obtain ⟨_, _, hn, hq, hd, hu, _⟩ := Rd.rdS_right h
  have HT := Lib.hid hT
  have H := Lib.hid h
  have HS : Hid (s.size ≤ 9223372036854775807) := by show _ ≤ _; omega
  have HUQ := Lib.hid hu
  have e1 : decide ((60000 : Int) < (s.size : Int)) = false := decide_eq_false (by omega)
  have hs63 : (s.size : Int) ≤ 60000 := by omega
  obtain ⟨m, hm⟩ : ∃ m, Rd.dp v 1 = m := ⟨_, rfl⟩
  have HN : Hid (Rd.nv v = n) := hn.symm
  have HM := Lib.hid hm
  have HQ := Lib.hid hq
  have HD : Hid (m ≤ 16) := by show _ ≤ _; omega
  have HZ1 : Hid (((⟨#[91]⟩ : ByteArray) ++ s ++ (⟨#[93]⟩ : ByteArray)).size ≤ 9223372036854775807) := by show _ ≤ _; rw [list_size]; omega
  have HZ2 : Hid (((⟨#[123, 34, 107, 34, 58]⟩ : ByteArray) ++ s ++ (⟨#[125]⟩ : ByteArray)).size ≤ 9223372036854775807) := by show _ ≤ _; rw [map_size]; omega
  have n1 : 1 + s.size ≤ 9223372036854775806 := by omega
  have n2 : 5 + s.size ≤ 9223372036854775806 := by omega
  have HR1 : Hid (Rd.rdS ((⟨#[91]⟩ : ByteArray) ++ s ++ (⟨#[93]⟩ : ByteArray)).data.toList = .ok (JV.listV [v]) [] q1) := by show _ = _; rw [list_text]; exact h1
  have HR2 : Hid (Rd.rdS ((⟨#[123, 34, 107, 34, 58]⟩ : ByteArray) ++ s ++ (⟨#[125]⟩ : ByteArray)).data.toList = .ok (JV.mapV [([107], v)]) [] q2) := by show _ = _; rw [map_text]; exact h2
  have e2 : ((n : Int) == 8192) = false := by rw [beq_eq_false_iff_ne]; omega
  have e3 : ((m : Int) == 16) = false := by rw [beq_eq_false_iff_ne]; omega
  clear hT h hl hlen hn hq hd hu hm h1 h2 hb
  go_enter Tryd.func8, Tryd.ntmps8
  go_upto_region 6 with (first
    | (go_at_call 19; have hm := HF3.out; refine (rvalue_v _ (JV.listV [v]) [] q1 5 0 [] 1 0 ⟨rfl, rfl, rfl, rfl, rfl⟩ _ ?hz4 (HT.out.keep hm) ?hp4).mono ?_; (case hz4 => exact HZ1.out); (case hp4 => exact HR1.out); rintro e w4 ⟨C, e, C', e', rfl, hv, hf⟩; have ha := (Fr.refl w4).alloc (.cells #[.int .i64 5, .int .i64 0, .string ⟨#[]⟩, .slice C 1 e, .slice C' 0 e'] 25); have HB4 := Lib.hid (HB3.out.keep (hf.trans ha)); have HL4 := Lib.hid ((hv.low.keep (Nat.le_refl _) ha).lo ha.size); have HU4 := Lib.hid ((HU3.out.keep (Nat.le_refl _) (hf.trans ha)).lo (hf.trans ha).size); have HX4 := Lib.hid (Blk.made w4 #[.int .i64 5, .int .i64 0, .string ⟨#[]⟩, .slice C 1 e, .slice C' 0 e'] 25); have HF4 := Lib.hid ((hm.trans hf).alloc (.cells #[.int .i64 5, .int .i64 0, .string ⟨#[]⟩, .slice C 1 e, .slice C' 0 e'] 25)); clear hf hm hv ha)
    | (go_at_call 23; have hm := HF2.out; refine ((count_is v _ 1 _ HUQ.out HU2.out (by rw [HN.out]; have := HQ.out; omega) (by rw [HM.out]; have := HD.out; omega)).call rfl rfl HN.out HM.out).mono ?_; rintro e w3 ⟨rfl, hf⟩; have HB3 := Lib.hid (HB2.out.keep hf); have HU3 := Lib.hid ((HU2.out.keep (Nat.le_refl _) hf).lo hf.size); have HF3 := Lib.hid (hm.trans hf); clear hf hm)
    | (go_at_call 21; have hm := HF1.out.alloc (.cells #[.int .i64 v.kd, .int .i64 v.nm, .string ⟨v.tx.toArray⟩, .slice B v.ls.length d, .slice B' v.ms.length d'] 25); refine (awake05 _ (HT.out.keep hm)).mono ?_; rintro e w2 ⟨rfl, hf⟩; have hb := (VB.made w1 v B d B' d').keep hf; have HB2 := Lib.hid hb; obtain ⟨_, x0, x1, x2, x3, x4⟩ := hb; have h1 := ((Fr.refl w1).alloc (.cells #[.int .i64 v.kd, .int .i64 v.nm, .string ⟨v.tx.toArray⟩, .slice B v.ls.length d, .slice B' v.ms.length d'] 25)).trans hf; have HU2 := Lib.hid ((HU1.out.keep (Nat.le_refl _) h1).lo h1.size); have HF2 := Lib.hid (hm.trans hf); clear hf hm h1)
    | (go_at_call 19; (fail_if_success (have hm2 := HF1.out)); refine (rvalue_v s v l n v.kd v.nm v.tx v.ls.length v.ms.length ⟨rfl, rfl, rfl, rfl, rfl⟩ _ HS.out HT.out H.out).mono ?_; rintro e w1 ⟨B, d, B', d', rfl, hv, hf⟩; have HU1 := Lib.hid hv.low; have HF1 := Lib.hid hf; clear hf hv))
  go_cut [11, 12, 13] from 14 to 112 (fun p x y wc => ∃ (w5 : World) (D : Option Addr) (f : Nat) (D' : Option Addr) (f' : Nat), p = .pointer (some ⟨w5.heap.size, 0, none⟩) ∧ x = .int .i64 0 ∧ y = .int .i64 0 ∧ wc = w5.alloc (.cells #[.int .i64 6, .int .i64 0, .string ⟨#[]⟩, .slice D 0 f, .slice D' 1 f'] 25) ∧
    Hid (VB (w5.alloc (.cells #[.int .i64 6, .int .i64 0, .string ⟨#[]⟩, .slice D 0 f, .slice D' 1 f'] 25)) w1.heap.size v B d B' d' ∧ InV (w5.alloc (.cells #[.int .i64 6, .int .i64 0, .string ⟨#[]⟩, .slice D 0 f, .slice D' 1 f'] 25)) (Lo (w5.alloc (.cells #[.int .i64 6, .int .i64 0, .string ⟨#[]⟩, .slice D 0 f, .slice D' 1 f'] 25)).heap.size) (JV.listV [v]) (vA (JV.listV [v]) C e C' e') ∧ InV (w5.alloc (.cells #[.int .i64 6, .int .i64 0, .string ⟨#[]⟩, .slice D 0 f, .slice D' 1 f'] 25)) (Lo (w5.alloc (.cells #[.int .i64 6, .int .i64 0, .string ⟨#[]⟩, .slice D 0 f, .slice D' 1 f'] 25)).heap.size) (JV.mapV [([107], v)]) (vA (JV.mapV [([107], v)]) D f D' f') ∧ InV (w5.alloc (.cells #[.int .i64 6, .int .i64 0, .string ⟨#[]⟩, .slice D 0 f, .slice D' 1 f'] 25)) (Lo (w5.alloc (.cells #[.int .i64 6, .int .i64 0, .string ⟨#[]⟩, .slice D 0 f, .slice D' 1 f'] 25)).heap.size) v (vA v B d B' d') ∧ Blk (w5.alloc (.cells #[.int .i64 6, .int .i64 0, .string ⟨#[]⟩, .slice D 0 f, .slice D' 1 f'] 25)) w4.heap.size #[.int .i64 5, .int .i64 0, .string ⟨#[]⟩, .slice C 1 e, .slice C' 0 e'] 25 ∧ Blk (w5.alloc (.cells #[.int .i64 6, .int .i64 0, .string ⟨#[]⟩, .slice D 0 f, .slice D' 1 f'] 25)) w5.heap.size #[.int .i64 6, .int .i64 0, .string ⟨#[]⟩, .slice D 0 f, .slice D' 1 f'] 25 ∧ Fr w (w5.alloc (.cells #[.int .i64 6, .int .i64 0, .string ⟨#[]⟩, .slice D 0 f, .slice D' 1 f'] 25))))
  case first =>
    go_wp2_with ((go_at_call 19; have hm := HF4.out; refine (rvalue_v _ (JV.mapV [([107], v)]) [] q2 6 0 [] 0 1 ⟨rfl, rfl, rfl, rfl, rfl⟩ _ ?hz5 (HT.out.keep hm) ?hp5).mono ?_; (case hz5 => exact HZ2.out); (case hp5 => exact HR2.out); rintro e w5 ⟨D, f, D', f', rfl, hv, hf⟩; have ha := (Fr.refl w5).alloc (.cells #[.int .i64 6, .int .i64 0, .string ⟨#[]⟩, .slice D 0 f, .slice D' 1 f'] 25); have HB5 := Lib.hid (HB4.out.keep (hf.trans ha)); have HL5 := Lib.hid ((HL4.out.keep (Nat.le_refl _) (hf.trans ha)).lo (hf.trans ha).size); have HM5 := Lib.hid ((hv.low.keep (Nat.le_refl _) ha).lo ha.size); have HU5 := Lib.hid ((HU4.out.keep (Nat.le_refl _) (hf.trans ha)).lo (hf.trans ha).size); have HX5 := Lib.hid (HX4.out.keep (hf.trans ha)); have HY5 := Lib.hid (Blk.made w5 #[.int .i64 6, .int .i64 0, .string ⟨#[]⟩, .slice D 0 f, .slice D' 1 f'] 25); have HF5 := Lib.hid ((hm.trans hf).alloc (.cells #[.int .i64 6, .int .i64 0, .string ⟨#[]⟩, .slice D 0 f, .slice D' 1 f'] 25)); clear hf hm hv ha))
    go_meet
    exact ⟨w5, D, f, D', f', rfl, rfl, rfl, rfl, Lib.hid ⟨HB5.out, HL5.out, HM5.out, HU5.out, HX5.out, HY5.out, HF5.out⟩⟩
  case rest =>
  obtain ⟨w5, D, f, D', f', rfl, rfl, rfl, rfl, hR⟩ := hcut
  have HB5 := Lib.hid hR.out.1
  have HL5 := Lib.hid hR.out.2.1
  have HM5 := Lib.hid hR.out.2.2.1
  have HU5 := Lib.hid hR.out.2.2.2.1
  have HX5 := Lib.hid hR.out.2.2.2.2.1
  have HY5 := Lib.hid hR.out.2.2.2.2.2.1
  have HF5 := Lib.hid hR.out.2.2.2.2.2.2
  clear hR
  go_wp2_with fail
  have hb5 := HB5.out
  have hx5 := HX5.out
  have hy5 := HY5.out
  obtain ⟨A1, k1, A1', k1', he1, hls, _⟩ := HL5.out.open_
  obtain rfl : C = A1 := by simp [vA] at he1; exact he1.1.1
  obtain ⟨b1, o1, B2, d2, B2', d2', rfl, hb1, hv1, hi1⟩ := hls 0 (by show 0 < 1; omega)
  obtain ⟨A2, k2, A2', k2', he2, _, hms⟩ := HM5.out.open_
  obtain rfl : D' = A2' := by simp [vA] at he2; exact he2.2.1
  obtain ⟨b2, o2, B3, d3, B3', d3', rfl, hb2, _, hn2, hv2, hi2⟩ := hms 0 (by show 0 < 1; omega)
  rw [Nat.zero_mul, Nat.add_zero] at hv1
  rw [Nat.zero_mul, Nat.add_zero] at hv2 hn2
  obtain ⟨_, x0, x1, x2, x3, x4⟩ := hb5
  obtain ⟨p0, p1, p2, p3, p4⟩ := hv1
  obtain ⟨r0, r1, r2, r3, r4⟩ := hv2
  have y3 := hx5.cell 3
  have z4 := hy5.cell 4
  have lx := HB5.out.1
  have ly := hx5.lt
  have lz := hy5.lt
  have HU5' := HU5
  generalize hwz : w5.alloc (.cells #[.int .i64 6, .int .i64 0, .string ⟨#[]⟩, .slice D 0 f, .slice (some ⟨b2, o2, none⟩) 1 f'] 25) = wz at *
  have HI1 := Lib.hid hi1
  have HI2 := Lib.hid hi2
  have HLT : Hid (w1.heap.size < wz.heap.size ∧ w4.heap.size < wz.heap.size ∧ w5.heap.size < wz.heap.size ∧ b1 < wz.heap.size ∧ b2 < wz.heap.size) := ⟨lx, ly, lz, hb1, hb2⟩
  have HVX : Hid (∀ W, Fr wz W → InV W (Lo W.heap.size) v (vA v B d B' d') ∧ InV W (Lo W.heap.size) v (vA v B2 d2 B2' d2') ∧ InV W (Lo W.heap.size) v (vA v B3 d3 B3' d3')) := fun W hW => ⟨(HU5'.out.keep (Nat.le_refl _) hW).lo hW.size, (HI1.out.keep (Nat.le_refl _) hW).lo hW.size, (HI2.out.keep (Nat.le_refl _) hW).lo hW.size⟩
  have HS : Hid ((wz.cell? ⟨w1.heap.size, 0, none⟩ = some (.int .i64 v.kd) ∧ wz.cell? ⟨w1.heap.size, 1, none⟩ = some (.int .i64 v.nm) ∧ wz.cell? ⟨w1.heap.size, 2, none⟩ = some (.string ⟨v.tx.toArray⟩) ∧ wz.cell? ⟨w1.heap.size, 3, none⟩ = some (.slice B v.ls.length d) ∧ wz.cell? ⟨w1.heap.size, 4, none⟩ = some (.slice B' v.ms.length d') ∧ wz.cell? ⟨w4.heap.size, 3, none⟩ = some (.slice (some ⟨b1, o1, none⟩) 1 e) ∧ wz.cell? ⟨w5.heap.size, 4, none⟩ = some (.slice (some ⟨b2, o2, none⟩) 1 f') ∧ wz.cell? ⟨b1, o1, none⟩ = some (.int .i64 v.kd) ∧ wz.cell? ⟨b1, o1 + 1, none⟩ = some (.int .i64 v.nm) ∧ wz.cell? ⟨b1, o1 + 2, none⟩ = some (.string ⟨v.tx.toArray⟩) ∧ wz.cell? ⟨b1, o1 + 3, none⟩ = some (.slice B2 v.ls.length d2) ∧ wz.cell? ⟨b1, o1 + 4, none⟩ = some (.slice B2' v.ms.length d2') ∧ wz.cell? ⟨b2, o2, none⟩ = some (.string ⟨#[107]⟩) ∧ wz.cell? ⟨b2, o2 + 1, none⟩ = some (.int .i64 v.kd) ∧ wz.cell? ⟨b2, o2 + 1 + 1, none⟩ = some (.int .i64 v.nm) ∧ wz.cell? ⟨b2, o2 + 1 + 2, none⟩ = some (.string ⟨v.tx.toArray⟩) ∧ wz.cell? ⟨b2, o2 + 1 + 3, none⟩ = some (.slice B3 v.ls.length d3) ∧ wz.cell? ⟨b2, o2 + 1 + 4, none⟩ = some (.slice B3' v.ms.length d3'))) := ⟨x0, x1, x2, x3, x4, y3, z4, p0, p1, p2, p3, p4, hn2, r0, r1, r2, r3, r4⟩
  have HKP : Hid (∀ W, Fr wz W → (W.cell? ⟨w1.heap.size, 0, none⟩ = some (.int .i64 v.kd) ∧ W.cell? ⟨w1.heap.size, 1, none⟩ = some (.int .i64 v.nm) ∧ W.cell? ⟨w1.heap.size, 2, none⟩ = some (.string ⟨v.tx.toArray⟩) ∧ W.cell? ⟨w1.heap.size, 3, none⟩ = some (.slice B v.ls.length d) ∧ W.cell? ⟨w1.heap.size, 4, none⟩ = some (.slice B' v.ms.length d') ∧ W.cell? ⟨w4.heap.size, 3, none⟩ = some (.slice (some ⟨b1, o1, none⟩) 1 e) ∧ W.cell? ⟨w5.heap.size, 4, none⟩ = some (.slice (some ⟨b2, o2, none⟩) 1 f') ∧ W.cell? ⟨b1, o1, none⟩ = some (.int .i64 v.kd) ∧ W.cell? ⟨b1, o1 + 1, none⟩ = some (.int .i64 v.nm) ∧ W.cell? ⟨b1, o1 + 2, none⟩ = some (.string ⟨v.tx.toArray⟩) ∧ W.cell? ⟨b1, o1 + 3, none⟩ = some (.slice B2 v.ls.length d2) ∧ W.cell? ⟨b1, o1 + 4, none⟩ = some (.slice B2' v.ms.length d2') ∧ W.cell? ⟨b2, o2, none⟩ = some (.string ⟨#[107]⟩) ∧ W.cell? ⟨b2, o2 + 1, none⟩ = some (.int .i64 v.kd) ∧ W.cell? ⟨b2, o2 + 1 + 1, none⟩ = some (.int .i64 v.nm) ∧ W.cell? ⟨b2, o2 + 1 + 2, none⟩ = some (.string ⟨v.tx.toArray⟩) ∧ W.cell? ⟨b2, o2 + 1 + 3, none⟩ = some (.slice B3 v.ls.length d3) ∧ W.cell? ⟨b2, o2 + 1 + 4, none⟩ = some (.slice B3' v.ms.length d3'))) := fun W hW => by
    obtain ⟨l1, l2, l3, l4, l5⟩ := HLT.out
    obtain ⟨s0, s1, s2, s3, s4, s5, s6, s7, s8, s9, s10, s11, s12, s13, s14, s15, s16, s17⟩ := HS.out
    exact ⟨(hW.cell l1).trans s0, (hW.cell l1).trans s1, (hW.cell l1).trans s2, (hW.cell l1).trans s3, (hW.cell l1).trans s4, (hW.cell l2).trans s5, (hW.cell l3).trans s6, (hW.cell l4).trans s7, (hW.cell l4).trans s8, (hW.cell l4).trans s9, (hW.cell l4).trans s10, (hW.cell l4).trans s11, (hW.cell l5).trans s12, (hW.cell l5).trans s13, (hW.cell l5).trans s14, (hW.cell l5).trans s15, (hW.cell l5).trans s16, (hW.cell l5).trans s17⟩
  have CS1 : Hid (∀ W, Fr wz W → Calls Tryd.prog 22 #[.agg #[.int .i64 v.kd, .int .i64 v.nm, .string ⟨v.tx.toArray⟩, .slice B2 v.ls.length d2, .slice B2' v.ms.length d2'], .agg #[.int .i64 v.kd, .int .i64 v.nm, .string ⟨v.tx.toArray⟩, .slice B v.ls.length d, .slice B' v.ms.length d']] W fun e w2 => e = .returned (.bool true) ∧ Fr W w2) := Lib.hid (fun W hW => (same_is v v (vA v B2 d2 B2' d2') (vA v B d B' d')).call true (by simp) rfl rfl (HVX.out W hW).2.1 (HVX.out W hW).1)
  have CS2 : Hid (∀ W, Fr wz W → Calls Tryd.prog 22 #[.agg #[.int .i64 v.kd, .int .i64 v.nm, .string ⟨v.tx.toArray⟩, .slice B3 v.ls.length d3, .slice B3' v.ms.length d3'], .agg #[.int .i64 v.kd, .int .i64 v.nm, .string ⟨v.tx.toArray⟩, .slice B v.ls.length d, .slice B' v.ms.length d']] W fun e w2 => e = .returned (.bool true) ∧ Fr W w2) := Lib.hid (fun W hW => (same_is v v (vA v B3 d3 B3' d3') (vA v B d B' d')).call true (by simp) rfl rfl (HVX.out W hW).2.2 (HVX.out W hW).1)
  clear hi1 hi2 hb1 hb2 lx ly lz hls hms he1 he2 hx5 hy5 HU5' hwz
  go_region_held3 (fun W => (W.cell? ⟨w1.heap.size, 0, none⟩ = some (.int .i64 v.kd) ∧ W.cell? ⟨w1.heap.size, 1, none⟩ = some (.int .i64 v.nm) ∧ W.cell? ⟨w1.heap.size, 2, none⟩ = some (.string ⟨v.tx.toArray⟩) ∧ W.cell? ⟨w1.heap.size, 3, none⟩ = some (.slice B v.ls.length d) ∧ W.cell? ⟨w1.heap.size, 4, none⟩ = some (.slice B' v.ms.length d') ∧ W.cell? ⟨w4.heap.size, 3, none⟩ = some (.slice (some ⟨b1, o1, none⟩) 1 e) ∧ W.cell? ⟨w5.heap.size, 4, none⟩ = some (.slice (some ⟨b2, o2, none⟩) 1 f') ∧ W.cell? ⟨b1, o1, none⟩ = some (.int .i64 v.kd) ∧ W.cell? ⟨b1, o1 + 1, none⟩ = some (.int .i64 v.nm) ∧ W.cell? ⟨b1, o1 + 2, none⟩ = some (.string ⟨v.tx.toArray⟩) ∧ W.cell? ⟨b1, o1 + 3, none⟩ = some (.slice B2 v.ls.length d2) ∧ W.cell? ⟨b1, o1 + 4, none⟩ = some (.slice B2' v.ms.length d2') ∧ W.cell? ⟨b2, o2, none⟩ = some (.string ⟨#[107]⟩) ∧ W.cell? ⟨b2, o2 + 1, none⟩ = some (.int .i64 v.kd) ∧ W.cell? ⟨b2, o2 + 1 + 1, none⟩ = some (.int .i64 v.nm) ∧ W.cell? ⟨b2, o2 + 1 + 2, none⟩ = some (.string ⟨v.tx.toArray⟩) ∧ W.cell? ⟨b2, o2 + 1 + 3, none⟩ = some (.slice B3 v.ls.length d3) ∧ W.cell? ⟨b2, o2 + 1 + 4, none⟩ = some (.slice B3' v.ms.length d3')))
    (first | with_reducible exact HKP.out _ HS2.out.drew | with_reducible exact HKP.out _ HS2.out | with_reducible exact HKP.out _ HS1.out.drew | with_reducible exact HKP.out _ HS1.out | with_reducible exact HKP.out _ (Fr.refl wz).drew | with_reducible exact HKP.out _ (Fr.refl wz))
    (first
      | (go_at_call 22; have hm := HS1.out; (refine (CS2.out _ (by first | with_reducible exact hm | with_reducible exact hm.drew)).mono ?_; rintro e w9 ⟨rfl, hf⟩; have HS2 := Lib.hid (Fr.trans hm (by first | with_reducible exact hf | with_reducible exact (Fr.refl _).drew.trans hf)); clear hf hm))
      | (go_at_call 22; (refine (CS1.out _ (by first | with_reducible exact Fr.refl _ | with_reducible exact (Fr.refl _).drew)).mono ?_; rintro e w8 ⟨rfl, hf⟩; have HS1 := Lib.hid (Fr.trans (Fr.refl wz) (by first | with_reducible exact hf | with_reducible exact (Fr.refl wz).drew.trans hf)); clear hf)))
  go_wp2_with fail
  go_ret
  exact ⟨rfl, HF5.out.trans HS2.out⟩

set_option maxHeartbeats 2000000 in
set_option maxRecDepth 100000 in
theorem wrapped_err (s : ByteArray) (w : World) (hs : s.size ≤ 140737488351232) (hT : LowTabs w) (a c : Nat) (h : Rd.rdS s.data.toList = .bad a c) :
    Calls Tryd.prog 8 #[.string s] w fun e w' => e = .returned (.bool true) ∧ Fr w w' := by
  have hp := Rd.rdS_place h
  have HT := Lib.hid hT
  have H := Lib.hid h
  have HS : Hid (s.size ≤ 9223372036854775807) := by show _ ≤ _; omega
  have hs' : (s.size : Int) ≤ 140737488351232 := by omega
  have e2 : (((c : Nat) : Int) != 0) = true := by rw [bne_iff_ne]; omega
  clear hT h hp hs
  go_enter Tryd.func8, Tryd.ntmps8
  go_wp2_with (first
    | (go_at_call 21; have hm := HF2.out; refine (awake05 _ (HT.out.keep hm)).mono ?_; rintro e w3 ⟨rfl, hf⟩; have HF3 := Lib.hid (hm.trans hf); clear hf hm)
    | (go_at_call 21; have hm := HF1.out.alloc (.cells #[.int .i64 0, .int .i64 0, .string ⟨#[]⟩, .slice none 0 0, .slice none 0 0] 25); refine (awake05 _ (HT.out.keep hm)).mono ?_; rintro e w2 ⟨rfl, hf⟩; have HF2 := Lib.hid (hm.trans hf); clear hf hm)
    | (go_at_call 19; refine (rvalue_b s a c _ HS.out HT.out H.out).mono ?_; rintro e w1 ⟨rfl, hf⟩; have HF1 := Lib.hid hf; clear hf))
  go_ret
  exact ⟨rfl, HF3.out⟩
set_option maxHeartbeats 2000000 in
set_option maxRecDepth 100000 in
theorem wrapped_long (s : ByteArray) (w : World) (hs : s.size ≤ 140737488351232) (hT : LowTabs w) (hl : 60000 < s.size) (v : JV) (l : List Scn.Tok) (n : Nat) (h : Rd.rdS s.data.toList = .ok v l n) :
    Calls Tryd.prog 8 #[.string s] w fun e w' => e = .returned (.bool true) ∧ Fr w w' := by
  have HT := Lib.hid hT
  have H := Lib.hid h
  have HS : Hid (s.size ≤ 9223372036854775807) := by show _ ≤ _; omega
  have hs' : (s.size : Int) ≤ 140737488351232 := by omega
  have e1 : decide ((60000 : Int) < (s.size : Int)) = true := decide_eq_true (by omega)
  clear hT h hs hl
  go_enter Tryd.func8, Tryd.ntmps8
  go_wp2_with (first
    | (go_at_call 21; have hm := HF2.out; refine (awake05 _ (HT.out.keep hm)).mono ?_; rintro e w3 ⟨rfl, hf⟩; have HF3 := Lib.hid (hm.trans hf); clear hf hm)
    | (go_at_call 21; have hm := HF1.out.alloc (.cells #[.int .i64 v.kd, .int .i64 v.nm, .string ⟨v.tx.toArray⟩, .slice B v.ls.length d, .slice B' v.ms.length d'] 25); refine (awake05 _ (HT.out.keep hm)).mono ?_; rintro e w2 ⟨rfl, hf⟩; have hb := (VB.made w1 v B d B' d').keep hf; have HB2 := Lib.hid hb; obtain ⟨_, x0, x1, x2, x3, x4⟩ := hb; have h1 := ((Fr.refl w1).alloc (.cells #[.int .i64 v.kd, .int .i64 v.nm, .string ⟨v.tx.toArray⟩, .slice B v.ls.length d, .slice B' v.ms.length d'] 25)).trans hf; have HU2 := Lib.hid ((HU1.out.keep (Nat.le_refl _) h1).lo h1.size); have HF2 := Lib.hid (hm.trans hf); clear hf hm h1)
    | (go_at_call 19; (fail_if_success (have hm2 := HF1.out)); refine (rvalue_v s v l n v.kd v.nm v.tx v.ls.length v.ms.length ⟨rfl, rfl, rfl, rfl, rfl⟩ _ HS.out HT.out H.out).mono ?_; rintro e w1 ⟨B, d, B', d', rfl, hv, hf⟩; have HU1 := Lib.hid hv.low; have HF1 := Lib.hid hf; clear hf hv))
  go_ret
  exact ⟨rfl, HF3.out⟩
theorem wrapped_is (s : ByteArray) (w : World) (hs : s.size ≤ 140737488351232) (hT : LowTabs w) :
    Calls Tryd.prog 8 #[.string s] w fun e w' => e = .returned (.bool true) ∧ Fr w w' := by
  rcases h : Rd.rdS s.data.toList with _ | ⟨a, c⟩ | ⟨v, l, q⟩
  · exact absurd h (Rd.rdS_out _)
  · exact wrapped_err s w hs hT a c h
  · rcases Nat.lt_or_ge 60000 s.size with hl | hl
    · exact wrapped_long s w hs hT hl v l q h
    · rcases Rd.rdS_wrap (by simpa using hl) h with ⟨hb, c, a, b, hc, h1, h2⟩ | ⟨hb, q1, q2, h1, h2⟩
      · exact wrapped_bad s w hT hl v l q h hb a b c hc h1 h2
      · exact wrapped_ok s w hT hl v l q h hb q1 q2 h1 h2
end Go.Proofs.YtgncdjcbphobmaaDoor
