/- The walk of chapter 08's law of stars: the ways out. -/
import Derived.Test.YtfjcgbbphkfkgaaGreatDoorPtU
import Derived.Test.YtfjcgbbphkfkgaaGreatDoorPtSP
import Derived.Deep.CutRange
namespace Go.Proofs.YtfjcgbbphkfkgaaGreatDoor
set_option linter.unusedVariables false
set_option linter.unusedSimpArgs false
open Go.RowKit

/-- A text's form: nothing, something behind a slash, something else. -/
theorem form3 (s : ByteArray) : s = ⟨#[]⟩ ∨ (∃ c : UInt8, ∃ h : 0 < s.size, s[0] = c ∧ c = 47 ∧ s.toList.isEmpty = false ∧ Pt.pth s.data.toList) ∨ ∃ c : UInt8, ∃ h : 0 < s.size, s[0] = c ∧ c ≠ 47 ∧ s.toList.isEmpty = false := by
  have hz : s.data.toList.length = s.size := by simp
  rcases hd : s.data.toList with _ | ⟨c, r⟩
  · refine .inl ?_
    obtain ⟨d⟩ := s
    have : d.toList = [] := hd
    have : d = #[] := by cases d; simp_all
    rw [this]
  · have h0 : 0 < s.size := by rw [← hz, hd]; simp
    have hc : s[0] = c := by
      have := drop_at h0 (c := s[0]) rfl
      rw [List.drop_zero, hd] at this
      exact (List.cons.inj this).1.symm
    have hne : s.toList.isEmpty = false := by rw [ByteArray.toList_eq, hd]; rfl
    by_cases h47 : c = 47
    · exact .inr (.inl ⟨c, h0, hc, h47, hne, .inr ⟨r, by rw [h47]⟩⟩)
    · exact .inr (.inr ⟨c, h0, hc, h47, hne⟩)
theorem b47 {c : UInt8} : (c = 47 → ((c.toNat : Int) != 47) = false) ∧ (c ≠ 47 → ((c.toNat : Int) != 47) = true) := by
  refine ⟨fun h => by subst h; rfl, fun h => ?_⟩
  rw [bne_iff_ne]; intro x; apply h; apply UInt8.toNat_inj.1; simp only [UInt8.reduceToNat]; omega

set_option maxHeartbeats 4000000 in
set_option maxRecDepth 100000 in
theorem stars_long (v : JV) (A : Option Addr) (c0 : Nat) (A' : Option Addr) (c0' : Nat) (hd tl : ByteArray) (w : World) (hv : InV w (Lo w.heap.size) v (vA v A c0 A' c0')) (hbk : JV.bulk v ≤ 1048576) (hs1 : hd.size ≤ 140737488351232) (hs2 : tl.size ≤ 140737488351232) (hT : LowTabs w) (hM : MxL w) (hlong : ¬ (hd.size ≤ 50 ∧ tl.size ≤ 50)) :
    Calls Tryz.prog 9 #[.agg #[.int .i64 v.kd, .int .i64 v.nm, .string ⟨v.tx.toArray⟩, .slice A v.ls.length c0, .slice A' v.ms.length c0'], .string hd, .string tl] w fun e w' => e = .returned (.bool true) ∧ Fr w w' := by
  have hs1' : (hd.size : Int) ≤ 140737488351232 := by omega
  have hs2' : (tl.size : Int) ≤ 140737488351232 := by omega
  have HT := Lib.hid hT
  have HM := Lib.hid hM
  have hnv := nv_bulk v
  have HBX : Hid (∀ W, Fr (w.alloc (.cells #[.int .i64 v.kd, .int .i64 v.nm, .string ⟨v.tx.toArray⟩, .slice A v.ls.length c0, .slice A' v.ms.length c0'] 29)) W → Blk W w.heap.size #[.int .i64 v.kd, .int .i64 v.nm, .string ⟨v.tx.toArray⟩, .slice A v.ls.length c0, .slice A' v.ms.length c0'] 29) := Lib.hid (fun W hW => (Blk.made w _ _).keep hW)
  have HF0 : Hid (Fr w (w.alloc (.cells #[.int .i64 v.kd, .int .i64 v.nm, .string ⟨v.tx.toArray⟩, .slice A v.ls.length c0, .slice A' v.ms.length c0'] 29))) := (Fr.refl w).alloc _
  have HFW : Hid (∀ n : Int, 0 ≤ n → n ≤ 9000000000000000000 → ∀ W, Fr w W → Calls Tryz.prog 27 #[.agg #[.int .i64 v.kd, .int .i64 v.nm, .string ⟨v.tx.toArray⟩, .slice A v.ls.length c0, .slice A' v.ms.length c0'], .int .i64 n] W fun e w' => (∃ b : Bool, e = .returned (.bool b)) ∧ Fr W w') := Lib.hid (fun n h1 h2 W hW => few7_is v A c0 A' c0' W ((hv.keep (Nat.le_refl _) hW).lo hW.size) (by omega) n h1 h2)
  rcases (show (50 < hd.size) ∨ (hd.size ≤ 50 ∧ 50 < tl.size) by omega) with h1 | ⟨h1, h2⟩
  · have h1' : (hd.size : Int) > 50 := by omega
    clear hv hbk hs1 hs2 hT hM hnv hlong
    go_enter Tryz.func9, Tryz.ntmps9
    go_wp2_with (first
      | (go_at_call 26; have hg := HF0.out.trans HF2.out; refine (awake08 _ (HT.out.keep hg) (HM.out.keep hg)).mono ?_; rintro e w3 ⟨rfl, hf⟩; have HFF := Lib.hid (hg.trans hf); clear hf hg)
      | (go_at_call 27; have hm := HF1.out; refine (HFW.out _ (by omega) (by omega) _ (HF0.out.trans hm)).mono ?_; rintro e w2 ⟨⟨b2, rfl⟩, hf⟩; obtain ⟨⟨kb0, kb1, kb2, kb3, kb4⟩, _⟩ := box5 (HBX.out w2 (hm.trans hf)); have HF2 := Lib.hid (hm.trans hf); clear hf hm; cases b2)
      | (go_at_call 26; refine (awake08 _ (HT.out.keep HF0.out) (HM.out.keep HF0.out)).mono ?_; rintro e w1 ⟨rfl, hf⟩; obtain ⟨⟨ka0, ka1, ka2, ka3, ka4⟩, _⟩ := box5 (HBX.out w1 hf); have HF1 := Lib.hid hf; clear hf))
    all_goals
      go_ret
      exact ⟨rfl, HFF.out⟩
  · have h1' : ¬ (hd.size : Int) > 50 := by omega
    have h2' : (tl.size : Int) > 50 := by omega
    clear hv hbk hs1 hs2 hT hM hnv hlong
    go_enter Tryz.func9, Tryz.ntmps9
    go_wp2_with (first
      | (go_at_call 26; have hg := HF0.out.trans HF2.out; refine (awake08 _ (HT.out.keep hg) (HM.out.keep hg)).mono ?_; rintro e w3 ⟨rfl, hf⟩; have HFF := Lib.hid (hg.trans hf); clear hf hg)
      | (go_at_call 27; have hm := HF1.out; refine (HFW.out _ (by omega) (by omega) _ (HF0.out.trans hm)).mono ?_; rintro e w2 ⟨⟨b2, rfl⟩, hf⟩; obtain ⟨⟨kb0, kb1, kb2, kb3, kb4⟩, _⟩ := box5 (HBX.out w2 (hm.trans hf)); have HF2 := Lib.hid (hm.trans hf); clear hf hm; cases b2)
      | (go_at_call 26; refine (awake08 _ (HT.out.keep HF0.out) (HM.out.keep HF0.out)).mono ?_; rintro e w1 ⟨rfl, hf⟩; obtain ⟨⟨ka0, ka1, ka2, ka3, ka4⟩, _⟩ := box5 (HBX.out w1 hf); have HF1 := Lib.hid hf; clear hf))
    all_goals
      go_ret
      exact ⟨rfl, HFF.out⟩

set_option maxHeartbeats 4000000 in
set_option maxRecDepth 100000 in
theorem stars_out (v : JV) (A : Option Addr) (c0 : Nat) (A' : Option Addr) (c0' : Nat) (hd tl : ByteArray) (w : World) (hv : InV w (Lo w.heap.size) v (vA v A c0 A' c0')) (hbk : JV.bulk v ≤ 1048576) (hs1 : hd.size ≤ 140737488351232) (hs2 : tl.size ≤ 140737488351232) (hT : LowTabs w) (hM : MxL w) (hb1 : hd.size ≤ 50) (hb2 : tl.size ≤ 50) (l : JV) (c1 : Int) (hl : Pt.ans false (Pt.parts hd.data.toList) v = (l, c1)) (hbad : ¬ (c1 = 0 ∧ l.kd = 5 ∧ Pt.pth hd.data.toList ∧ Pt.pth tl.data.toList ∧ (42 : UInt8) ∉ hd.data.toList ∧ (42 : UInt8) ∉ tl.data.toList)) :
    Calls Tryz.prog 9 #[.agg #[.int .i64 v.kd, .int .i64 v.nm, .string ⟨v.tx.toArray⟩, .slice A v.ls.length c0, .slice A' v.ms.length c0'], .string hd, .string tl] w fun e w' => e = .returned (.bool true) ∧ Fr w w' := by
  have hs1' : (hd.size : Int) ≤ 140737488351232 := by omega
  have hs2' : (tl.size : Int) ≤ 140737488351232 := by omega
  have HT := Lib.hid hT
  have HM := Lib.hid hM
  have hnv := nv_bulk v
  have HBX : Hid (∀ W, Fr (w.alloc (.cells #[.int .i64 v.kd, .int .i64 v.nm, .string ⟨v.tx.toArray⟩, .slice A v.ls.length c0, .slice A' v.ms.length c0'] 29)) W → Blk W w.heap.size #[.int .i64 v.kd, .int .i64 v.nm, .string ⟨v.tx.toArray⟩, .slice A v.ls.length c0, .slice A' v.ms.length c0'] 29) := Lib.hid (fun W hW => (Blk.made w _ _).keep hW)
  have HF0 : Hid (Fr w (w.alloc (.cells #[.int .i64 v.kd, .int .i64 v.nm, .string ⟨v.tx.toArray⟩, .slice A v.ls.length c0, .slice A' v.ms.length c0'] 29))) := (Fr.refl w).alloc _
  have HFW : Hid (∀ n : Int, 0 ≤ n → n ≤ 9000000000000000000 → ∀ W, Fr w W → Calls Tryz.prog 27 #[.agg #[.int .i64 v.kd, .int .i64 v.nm, .string ⟨v.tx.toArray⟩, .slice A v.ls.length c0, .slice A' v.ms.length c0'], .int .i64 n] W fun e w' => (∃ b : Bool, e = .returned (.bool b)) ∧ Fr W w') := Lib.hid (fun n h1 h2 W hW => few7_is v A c0 A' c0' W ((hv.keep (Nat.le_refl _) hW).lo hW.size) (by omega) n h1 h2)
  have h1' : ¬ (hd.size : Int) > 50 := by omega
  have h2' : ¬ (tl.size : Int) > 50 := by omega
  have HD1 : Hid (∀ W, Fr w W → Calls Tryz.prog 28 #[.agg #[.int .i64 v.kd, .int .i64 v.nm, .string ⟨v.tx.toArray⟩, .slice A v.ls.length c0, .slice A' v.ms.length c0'], .string hd] W fun e w' => ∃ (P : Option Addr) (r : Nat) (P' : Option Addr) (r' : Nat), e = .returned (.tuple #[.agg #[.int .i64 l.kd, .int .i64 l.nm, .string ⟨l.tx.toArray⟩, .slice P l.ls.length r, .slice P' l.ms.length r'], .int .i64 c1]) ∧ InV w' (Ne w.heap.size W w') l (vA l P r P' r') ∧ Fr W w') :=
    Lib.hid (fun W hW => (pfind_is v A c0 A' c0' hd W w.heap.size hW.size (hv.keep (Nat.le_refl _) hW) (by omega) (by omega) (HM.out.keep hW)).mono fun e w' h => h.ans hW.size hl)
  by_cases hc1 : c1 = 0
  · subst hc1
    by_cases h5 : l.kd = 5
    · have q5 : (l.kd != 5) = false := by rw [bne_eq_false_iff_eq]; exact h5
      rcases form3 hd with rfl | ⟨c, h0, hc, hc47, hne, hp1⟩ | ⟨c, h0, hc, hc47, hne⟩
      · skip
        rcases form3 tl with rfl | ⟨ct, ht0, htc, ht47, htne, hp2⟩ | ⟨ct, ht0, htc, ht47, htne⟩
        · skip
          by_cases hh : (42 : UInt8) ∈ (⟨#[]⟩ : ByteArray).data.toList
          · have HST1 : Hid (∀ W, Calls Tryz.prog 34 #[.string (⟨#[]⟩ : ByteArray)] W fun e w' => e = .returned (.bool true) ∧ Fr W w') := Lib.hid (fun W => star_b (⟨#[]⟩ : ByteArray) W (by omega) true (decide_eq_true hh).symm)
            clear hh hbad h5
            try clear hc47
            try clear ht47
            clear hv hbk hs1 hs2 hT hM hnv hl hb1 hb2
            go_enter Tryz.func9, Tryz.ntmps9
            go_wp2_with (first
              | (go_at_call 34; refine (HST1.out _).mono ?_; rintro e w4 ⟨rfl, hf⟩; have HF4 := Lib.hid (HF3.out.trans hf); have HFF := Lib.hid (HF3.out.trans hf); clear hf)
              | (go_at_call 28; have hm := HF2.out; refine (HD1.out _ (HF0.out.trans hm)).mono ?_; rintro e w3 ⟨P, r, P', r', rfl, hin, hf⟩; have hk := (Fr.refl w3).alloc (.cells #[.int .i64 l.kd, .int .i64 l.nm, .string ⟨l.tx.toArray⟩, .slice P l.ls.length r, .slice P' l.ms.length r'] 29); have HF3 := Lib.hid (HF0.out.trans (hm.trans (hf.trans hk))); have HFF := Lib.hid (HF0.out.trans (hm.trans (hf.trans hk))); clear hin hf hk hm)
              | (go_at_call 26; have hg := HF0.out.trans HF2.out; refine (awake08 _ (HT.out.keep hg) (HM.out.keep hg)).mono ?_; rintro e w3 ⟨rfl, hf⟩; have HFF := Lib.hid (hg.trans hf); clear hf hg)
              | (go_at_call 27; have hm := HF1.out; refine (HFW.out _ (by omega) (by omega) _ (HF0.out.trans hm)).mono ?_; rintro e w2 ⟨⟨b2, rfl⟩, hf⟩; obtain ⟨⟨kb0, kb1, kb2, kb3, kb4⟩, _⟩ := box5 (HBX.out w2 (hm.trans hf)); have HF2 := Lib.hid (hm.trans hf); clear hf hm; cases b2)
              | (go_at_call 26; refine (awake08 _ (HT.out.keep HF0.out) (HM.out.keep HF0.out)).mono ?_; rintro e w1 ⟨rfl, hf⟩; obtain ⟨⟨ka0, ka1, ka2, ka3, ka4⟩, _⟩ := box5 (HBX.out w1 hf); have HF1 := Lib.hid hf; clear hf))
            all_goals
              go_ret
              exact ⟨rfl, HFF.out⟩
          · have ht42 : (42 : UInt8) ∈ (⟨#[]⟩ : ByteArray).data.toList := by
              by_cases ht : (42 : UInt8) ∈ (⟨#[]⟩ : ByteArray).data.toList
              · exact ht
              · refine absurd ⟨rfl, h5, ?_, ?_, hh, ht⟩ hbad
                · first | exact hp1 | exact .inl rfl
                · first | exact hp2 | exact .inl rfl
            have HST1 : Hid (∀ W, Calls Tryz.prog 34 #[.string (⟨#[]⟩ : ByteArray)] W fun e w' => e = .returned (.bool false) ∧ Fr W w') := Lib.hid (fun W => star_b (⟨#[]⟩ : ByteArray) W (by omega) false (decide_eq_false hh).symm)
            have HST2 : Hid (∀ W, Calls Tryz.prog 34 #[.string (⟨#[]⟩ : ByteArray)] W fun e w' => e = .returned (.bool true) ∧ Fr W w') := Lib.hid (fun W => star_b (⟨#[]⟩ : ByteArray) W (by omega) true (decide_eq_true ht42).symm)
            clear hh ht42 hbad h5
            try clear hc47
            try clear ht47
            clear hv hbk hs1 hs2 hT hM hnv hl hb1 hb2
            go_enter Tryz.func9, Tryz.ntmps9
            go_wp2_with (first
              | (go_at_call 34; have hm := HF4.out; refine (HST2.out _).mono ?_; rintro e w5 ⟨rfl, hf⟩; have HFF := Lib.hid (hm.trans hf); clear hf hm)
              | (go_at_call 34; refine (HST1.out _).mono ?_; rintro e w4 ⟨rfl, hf⟩; have HF4 := Lib.hid (HF3.out.trans hf); have HFF := Lib.hid (HF3.out.trans hf); clear hf)
              | (go_at_call 28; have hm := HF2.out; refine (HD1.out _ (HF0.out.trans hm)).mono ?_; rintro e w3 ⟨P, r, P', r', rfl, hin, hf⟩; have hk := (Fr.refl w3).alloc (.cells #[.int .i64 l.kd, .int .i64 l.nm, .string ⟨l.tx.toArray⟩, .slice P l.ls.length r, .slice P' l.ms.length r'] 29); have HF3 := Lib.hid (HF0.out.trans (hm.trans (hf.trans hk))); have HFF := Lib.hid (HF0.out.trans (hm.trans (hf.trans hk))); clear hin hf hk hm)
              | (go_at_call 26; have hg := HF0.out.trans HF2.out; refine (awake08 _ (HT.out.keep hg) (HM.out.keep hg)).mono ?_; rintro e w3 ⟨rfl, hf⟩; have HFF := Lib.hid (hg.trans hf); clear hf hg)
              | (go_at_call 27; have hm := HF1.out; refine (HFW.out _ (by omega) (by omega) _ (HF0.out.trans hm)).mono ?_; rintro e w2 ⟨⟨b2, rfl⟩, hf⟩; obtain ⟨⟨kb0, kb1, kb2, kb3, kb4⟩, _⟩ := box5 (HBX.out w2 (hm.trans hf)); have HF2 := Lib.hid (hm.trans hf); clear hf hm; cases b2)
              | (go_at_call 26; refine (awake08 _ (HT.out.keep HF0.out) (HM.out.keep HF0.out)).mono ?_; rintro e w1 ⟨rfl, hf⟩; obtain ⟨⟨ka0, ka1, ka2, ka3, ka4⟩, _⟩ := box5 (HBX.out w1 hf); have HF1 := Lib.hid hf; clear hf))
            all_goals
              go_ret
              exact ⟨rfl, HFF.out⟩
        · skip
          have b2 := b47.1 ht47
          have ht0' : (0 : Int) < (tl.size : Int) := by omega
          by_cases hh : (42 : UInt8) ∈ (⟨#[]⟩ : ByteArray).data.toList
          · have HST1 : Hid (∀ W, Calls Tryz.prog 34 #[.string (⟨#[]⟩ : ByteArray)] W fun e w' => e = .returned (.bool true) ∧ Fr W w') := Lib.hid (fun W => star_b (⟨#[]⟩ : ByteArray) W (by omega) true (decide_eq_true hh).symm)
            clear hh hbad h5
            try clear hc47
            try clear ht47
            clear hv hbk hs1 hs2 hT hM hnv hl hb1 hb2
            go_enter Tryz.func9, Tryz.ntmps9
            go_wp2_with (first
              | (go_at_call 34; refine (HST1.out _).mono ?_; rintro e w4 ⟨rfl, hf⟩; have HF4 := Lib.hid (HF3.out.trans hf); have HFF := Lib.hid (HF3.out.trans hf); clear hf)
              | (go_at_call 28; have hm := HF2.out; refine (HD1.out _ (HF0.out.trans hm)).mono ?_; rintro e w3 ⟨P, r, P', r', rfl, hin, hf⟩; have hk := (Fr.refl w3).alloc (.cells #[.int .i64 l.kd, .int .i64 l.nm, .string ⟨l.tx.toArray⟩, .slice P l.ls.length r, .slice P' l.ms.length r'] 29); have HF3 := Lib.hid (HF0.out.trans (hm.trans (hf.trans hk))); have HFF := Lib.hid (HF0.out.trans (hm.trans (hf.trans hk))); clear hin hf hk hm)
              | (go_at_call 26; have hg := HF0.out.trans HF2.out; refine (awake08 _ (HT.out.keep hg) (HM.out.keep hg)).mono ?_; rintro e w3 ⟨rfl, hf⟩; have HFF := Lib.hid (hg.trans hf); clear hf hg)
              | (go_at_call 27; have hm := HF1.out; refine (HFW.out _ (by omega) (by omega) _ (HF0.out.trans hm)).mono ?_; rintro e w2 ⟨⟨b2, rfl⟩, hf⟩; obtain ⟨⟨kb0, kb1, kb2, kb3, kb4⟩, _⟩ := box5 (HBX.out w2 (hm.trans hf)); have HF2 := Lib.hid (hm.trans hf); clear hf hm; cases b2)
              | (go_at_call 26; refine (awake08 _ (HT.out.keep HF0.out) (HM.out.keep HF0.out)).mono ?_; rintro e w1 ⟨rfl, hf⟩; obtain ⟨⟨ka0, ka1, ka2, ka3, ka4⟩, _⟩ := box5 (HBX.out w1 hf); have HF1 := Lib.hid hf; clear hf))
            all_goals
              go_ret
              exact ⟨rfl, HFF.out⟩
          · have ht42 : (42 : UInt8) ∈ tl.data.toList := by
              by_cases ht : (42 : UInt8) ∈ tl.data.toList
              · exact ht
              · refine absurd ⟨rfl, h5, ?_, ?_, hh, ht⟩ hbad
                · first | exact hp1 | exact .inl rfl
                · first | exact hp2 | exact .inl rfl
            have HST1 : Hid (∀ W, Calls Tryz.prog 34 #[.string (⟨#[]⟩ : ByteArray)] W fun e w' => e = .returned (.bool false) ∧ Fr W w') := Lib.hid (fun W => star_b (⟨#[]⟩ : ByteArray) W (by omega) false (decide_eq_false hh).symm)
            have HST2 : Hid (∀ W, Calls Tryz.prog 34 #[.string tl] W fun e w' => e = .returned (.bool true) ∧ Fr W w') := Lib.hid (fun W => star_b tl W (by omega) true (decide_eq_true ht42).symm)
            clear hh ht42 hbad h5
            try clear hc47
            try clear ht47
            clear hv hbk hs1 hs2 hT hM hnv hl hb1 hb2
            go_enter Tryz.func9, Tryz.ntmps9
            go_wp2_with (first
              | (go_at_call 34; have hm := HF4.out; refine (HST2.out _).mono ?_; rintro e w5 ⟨rfl, hf⟩; have HFF := Lib.hid (hm.trans hf); clear hf hm)
              | (go_at_call 34; refine (HST1.out _).mono ?_; rintro e w4 ⟨rfl, hf⟩; have HF4 := Lib.hid (HF3.out.trans hf); have HFF := Lib.hid (HF3.out.trans hf); clear hf)
              | (go_at_call 28; have hm := HF2.out; refine (HD1.out _ (HF0.out.trans hm)).mono ?_; rintro e w3 ⟨P, r, P', r', rfl, hin, hf⟩; have hk := (Fr.refl w3).alloc (.cells #[.int .i64 l.kd, .int .i64 l.nm, .string ⟨l.tx.toArray⟩, .slice P l.ls.length r, .slice P' l.ms.length r'] 29); have HF3 := Lib.hid (HF0.out.trans (hm.trans (hf.trans hk))); have HFF := Lib.hid (HF0.out.trans (hm.trans (hf.trans hk))); clear hin hf hk hm)
              | (go_at_call 26; have hg := HF0.out.trans HF2.out; refine (awake08 _ (HT.out.keep hg) (HM.out.keep hg)).mono ?_; rintro e w3 ⟨rfl, hf⟩; have HFF := Lib.hid (hg.trans hf); clear hf hg)
              | (go_at_call 27; have hm := HF1.out; refine (HFW.out _ (by omega) (by omega) _ (HF0.out.trans hm)).mono ?_; rintro e w2 ⟨⟨b2, rfl⟩, hf⟩; obtain ⟨⟨kb0, kb1, kb2, kb3, kb4⟩, _⟩ := box5 (HBX.out w2 (hm.trans hf)); have HF2 := Lib.hid (hm.trans hf); clear hf hm; cases b2)
              | (go_at_call 26; refine (awake08 _ (HT.out.keep HF0.out) (HM.out.keep HF0.out)).mono ?_; rintro e w1 ⟨rfl, hf⟩; obtain ⟨⟨ka0, ka1, ka2, ka3, ka4⟩, _⟩ := box5 (HBX.out w1 hf); have HF1 := Lib.hid hf; clear hf))
            all_goals
              go_ret
              exact ⟨rfl, HFF.out⟩
        · skip
          have b2 := b47.2 ht47
          have ht0' : (0 : Int) < (tl.size : Int) := by omega
          clear hbad ht47 h5
          clear hv hbk hs1 hs2 hT hM hnv hl hb1 hb2
          go_enter Tryz.func9, Tryz.ntmps9
          go_wp2_with (first
            | (go_at_call 28; have hm := HF2.out; refine (HD1.out _ (HF0.out.trans hm)).mono ?_; rintro e w3 ⟨P, r, P', r', rfl, hin, hf⟩; have hk := (Fr.refl w3).alloc (.cells #[.int .i64 l.kd, .int .i64 l.nm, .string ⟨l.tx.toArray⟩, .slice P l.ls.length r, .slice P' l.ms.length r'] 29); have HF3 := Lib.hid (HF0.out.trans (hm.trans (hf.trans hk))); have HFF := Lib.hid (HF0.out.trans (hm.trans (hf.trans hk))); clear hin hf hk hm)
            | (go_at_call 26; have hg := HF0.out.trans HF2.out; refine (awake08 _ (HT.out.keep hg) (HM.out.keep hg)).mono ?_; rintro e w3 ⟨rfl, hf⟩; have HFF := Lib.hid (hg.trans hf); clear hf hg)
            | (go_at_call 27; have hm := HF1.out; refine (HFW.out _ (by omega) (by omega) _ (HF0.out.trans hm)).mono ?_; rintro e w2 ⟨⟨b2, rfl⟩, hf⟩; obtain ⟨⟨kb0, kb1, kb2, kb3, kb4⟩, _⟩ := box5 (HBX.out w2 (hm.trans hf)); have HF2 := Lib.hid (hm.trans hf); clear hf hm; cases b2)
            | (go_at_call 26; refine (awake08 _ (HT.out.keep HF0.out) (HM.out.keep HF0.out)).mono ?_; rintro e w1 ⟨rfl, hf⟩; obtain ⟨⟨ka0, ka1, ka2, ka3, ka4⟩, _⟩ := box5 (HBX.out w1 hf); have HF1 := Lib.hid hf; clear hf))
          all_goals
            go_ret
            exact ⟨rfl, HFF.out⟩
      · skip
        rcases form3 tl with rfl | ⟨ct, ht0, htc, ht47, htne, hp2⟩ | ⟨ct, ht0, htc, ht47, htne⟩
        · skip
          have b1 := b47.1 hc47
          have h0' : (0 : Int) < (hd.size : Int) := by omega
          by_cases hh : (42 : UInt8) ∈ hd.data.toList
          · have HST1 : Hid (∀ W, Calls Tryz.prog 34 #[.string hd] W fun e w' => e = .returned (.bool true) ∧ Fr W w') := Lib.hid (fun W => star_b hd W (by omega) true (decide_eq_true hh).symm)
            clear hh hbad h5
            try clear hc47
            try clear ht47
            clear hv hbk hs1 hs2 hT hM hnv hl hb1 hb2
            go_enter Tryz.func9, Tryz.ntmps9
            go_wp2_with (first
              | (go_at_call 34; refine (HST1.out _).mono ?_; rintro e w4 ⟨rfl, hf⟩; have HF4 := Lib.hid (HF3.out.trans hf); have HFF := Lib.hid (HF3.out.trans hf); clear hf)
              | (go_at_call 28; have hm := HF2.out; refine (HD1.out _ (HF0.out.trans hm)).mono ?_; rintro e w3 ⟨P, r, P', r', rfl, hin, hf⟩; have hk := (Fr.refl w3).alloc (.cells #[.int .i64 l.kd, .int .i64 l.nm, .string ⟨l.tx.toArray⟩, .slice P l.ls.length r, .slice P' l.ms.length r'] 29); have HF3 := Lib.hid (HF0.out.trans (hm.trans (hf.trans hk))); have HFF := Lib.hid (HF0.out.trans (hm.trans (hf.trans hk))); clear hin hf hk hm)
              | (go_at_call 26; have hg := HF0.out.trans HF2.out; refine (awake08 _ (HT.out.keep hg) (HM.out.keep hg)).mono ?_; rintro e w3 ⟨rfl, hf⟩; have HFF := Lib.hid (hg.trans hf); clear hf hg)
              | (go_at_call 27; have hm := HF1.out; refine (HFW.out _ (by omega) (by omega) _ (HF0.out.trans hm)).mono ?_; rintro e w2 ⟨⟨b2, rfl⟩, hf⟩; obtain ⟨⟨kb0, kb1, kb2, kb3, kb4⟩, _⟩ := box5 (HBX.out w2 (hm.trans hf)); have HF2 := Lib.hid (hm.trans hf); clear hf hm; cases b2)
              | (go_at_call 26; refine (awake08 _ (HT.out.keep HF0.out) (HM.out.keep HF0.out)).mono ?_; rintro e w1 ⟨rfl, hf⟩; obtain ⟨⟨ka0, ka1, ka2, ka3, ka4⟩, _⟩ := box5 (HBX.out w1 hf); have HF1 := Lib.hid hf; clear hf))
            all_goals
              go_ret
              exact ⟨rfl, HFF.out⟩
          · have ht42 : (42 : UInt8) ∈ (⟨#[]⟩ : ByteArray).data.toList := by
              by_cases ht : (42 : UInt8) ∈ (⟨#[]⟩ : ByteArray).data.toList
              · exact ht
              · refine absurd ⟨rfl, h5, ?_, ?_, hh, ht⟩ hbad
                · first | exact hp1 | exact .inl rfl
                · first | exact hp2 | exact .inl rfl
            have HST1 : Hid (∀ W, Calls Tryz.prog 34 #[.string hd] W fun e w' => e = .returned (.bool false) ∧ Fr W w') := Lib.hid (fun W => star_b hd W (by omega) false (decide_eq_false hh).symm)
            have HST2 : Hid (∀ W, Calls Tryz.prog 34 #[.string (⟨#[]⟩ : ByteArray)] W fun e w' => e = .returned (.bool true) ∧ Fr W w') := Lib.hid (fun W => star_b (⟨#[]⟩ : ByteArray) W (by omega) true (decide_eq_true ht42).symm)
            clear hh ht42 hbad h5
            try clear hc47
            try clear ht47
            clear hv hbk hs1 hs2 hT hM hnv hl hb1 hb2
            go_enter Tryz.func9, Tryz.ntmps9
            go_wp2_with (first
              | (go_at_call 34; have hm := HF4.out; refine (HST2.out _).mono ?_; rintro e w5 ⟨rfl, hf⟩; have HFF := Lib.hid (hm.trans hf); clear hf hm)
              | (go_at_call 34; refine (HST1.out _).mono ?_; rintro e w4 ⟨rfl, hf⟩; have HF4 := Lib.hid (HF3.out.trans hf); have HFF := Lib.hid (HF3.out.trans hf); clear hf)
              | (go_at_call 28; have hm := HF2.out; refine (HD1.out _ (HF0.out.trans hm)).mono ?_; rintro e w3 ⟨P, r, P', r', rfl, hin, hf⟩; have hk := (Fr.refl w3).alloc (.cells #[.int .i64 l.kd, .int .i64 l.nm, .string ⟨l.tx.toArray⟩, .slice P l.ls.length r, .slice P' l.ms.length r'] 29); have HF3 := Lib.hid (HF0.out.trans (hm.trans (hf.trans hk))); have HFF := Lib.hid (HF0.out.trans (hm.trans (hf.trans hk))); clear hin hf hk hm)
              | (go_at_call 26; have hg := HF0.out.trans HF2.out; refine (awake08 _ (HT.out.keep hg) (HM.out.keep hg)).mono ?_; rintro e w3 ⟨rfl, hf⟩; have HFF := Lib.hid (hg.trans hf); clear hf hg)
              | (go_at_call 27; have hm := HF1.out; refine (HFW.out _ (by omega) (by omega) _ (HF0.out.trans hm)).mono ?_; rintro e w2 ⟨⟨b2, rfl⟩, hf⟩; obtain ⟨⟨kb0, kb1, kb2, kb3, kb4⟩, _⟩ := box5 (HBX.out w2 (hm.trans hf)); have HF2 := Lib.hid (hm.trans hf); clear hf hm; cases b2)
              | (go_at_call 26; refine (awake08 _ (HT.out.keep HF0.out) (HM.out.keep HF0.out)).mono ?_; rintro e w1 ⟨rfl, hf⟩; obtain ⟨⟨ka0, ka1, ka2, ka3, ka4⟩, _⟩ := box5 (HBX.out w1 hf); have HF1 := Lib.hid hf; clear hf))
            all_goals
              go_ret
              exact ⟨rfl, HFF.out⟩
        · skip
          have b1 := b47.1 hc47
          have h0' : (0 : Int) < (hd.size : Int) := by omega
          have b2 := b47.1 ht47
          have ht0' : (0 : Int) < (tl.size : Int) := by omega
          by_cases hh : (42 : UInt8) ∈ hd.data.toList
          · have HST1 : Hid (∀ W, Calls Tryz.prog 34 #[.string hd] W fun e w' => e = .returned (.bool true) ∧ Fr W w') := Lib.hid (fun W => star_b hd W (by omega) true (decide_eq_true hh).symm)
            clear hh hbad h5
            try clear hc47
            try clear ht47
            clear hv hbk hs1 hs2 hT hM hnv hl hb1 hb2
            go_enter Tryz.func9, Tryz.ntmps9
            go_wp2_with (first
              | (go_at_call 34; refine (HST1.out _).mono ?_; rintro e w4 ⟨rfl, hf⟩; have HF4 := Lib.hid (HF3.out.trans hf); have HFF := Lib.hid (HF3.out.trans hf); clear hf)
              | (go_at_call 28; have hm := HF2.out; refine (HD1.out _ (HF0.out.trans hm)).mono ?_; rintro e w3 ⟨P, r, P', r', rfl, hin, hf⟩; have hk := (Fr.refl w3).alloc (.cells #[.int .i64 l.kd, .int .i64 l.nm, .string ⟨l.tx.toArray⟩, .slice P l.ls.length r, .slice P' l.ms.length r'] 29); have HF3 := Lib.hid (HF0.out.trans (hm.trans (hf.trans hk))); have HFF := Lib.hid (HF0.out.trans (hm.trans (hf.trans hk))); clear hin hf hk hm)
              | (go_at_call 26; have hg := HF0.out.trans HF2.out; refine (awake08 _ (HT.out.keep hg) (HM.out.keep hg)).mono ?_; rintro e w3 ⟨rfl, hf⟩; have HFF := Lib.hid (hg.trans hf); clear hf hg)
              | (go_at_call 27; have hm := HF1.out; refine (HFW.out _ (by omega) (by omega) _ (HF0.out.trans hm)).mono ?_; rintro e w2 ⟨⟨b2, rfl⟩, hf⟩; obtain ⟨⟨kb0, kb1, kb2, kb3, kb4⟩, _⟩ := box5 (HBX.out w2 (hm.trans hf)); have HF2 := Lib.hid (hm.trans hf); clear hf hm; cases b2)
              | (go_at_call 26; refine (awake08 _ (HT.out.keep HF0.out) (HM.out.keep HF0.out)).mono ?_; rintro e w1 ⟨rfl, hf⟩; obtain ⟨⟨ka0, ka1, ka2, ka3, ka4⟩, _⟩ := box5 (HBX.out w1 hf); have HF1 := Lib.hid hf; clear hf))
            all_goals
              go_ret
              exact ⟨rfl, HFF.out⟩
          · have ht42 : (42 : UInt8) ∈ tl.data.toList := by
              by_cases ht : (42 : UInt8) ∈ tl.data.toList
              · exact ht
              · refine absurd ⟨rfl, h5, ?_, ?_, hh, ht⟩ hbad
                · first | exact hp1 | exact .inl rfl
                · first | exact hp2 | exact .inl rfl
            have HST1 : Hid (∀ W, Calls Tryz.prog 34 #[.string hd] W fun e w' => e = .returned (.bool false) ∧ Fr W w') := Lib.hid (fun W => star_b hd W (by omega) false (decide_eq_false hh).symm)
            have HST2 : Hid (∀ W, Calls Tryz.prog 34 #[.string tl] W fun e w' => e = .returned (.bool true) ∧ Fr W w') := Lib.hid (fun W => star_b tl W (by omega) true (decide_eq_true ht42).symm)
            clear hh ht42 hbad h5
            try clear hc47
            try clear ht47
            clear hv hbk hs1 hs2 hT hM hnv hl hb1 hb2
            go_enter Tryz.func9, Tryz.ntmps9
            go_wp2_with (first
              | (go_at_call 34; have hm := HF4.out; refine (HST2.out _).mono ?_; rintro e w5 ⟨rfl, hf⟩; have HFF := Lib.hid (hm.trans hf); clear hf hm)
              | (go_at_call 34; refine (HST1.out _).mono ?_; rintro e w4 ⟨rfl, hf⟩; have HF4 := Lib.hid (HF3.out.trans hf); have HFF := Lib.hid (HF3.out.trans hf); clear hf)
              | (go_at_call 28; have hm := HF2.out; refine (HD1.out _ (HF0.out.trans hm)).mono ?_; rintro e w3 ⟨P, r, P', r', rfl, hin, hf⟩; have hk := (Fr.refl w3).alloc (.cells #[.int .i64 l.kd, .int .i64 l.nm, .string ⟨l.tx.toArray⟩, .slice P l.ls.length r, .slice P' l.ms.length r'] 29); have HF3 := Lib.hid (HF0.out.trans (hm.trans (hf.trans hk))); have HFF := Lib.hid (HF0.out.trans (hm.trans (hf.trans hk))); clear hin hf hk hm)
              | (go_at_call 26; have hg := HF0.out.trans HF2.out; refine (awake08 _ (HT.out.keep hg) (HM.out.keep hg)).mono ?_; rintro e w3 ⟨rfl, hf⟩; have HFF := Lib.hid (hg.trans hf); clear hf hg)
              | (go_at_call 27; have hm := HF1.out; refine (HFW.out _ (by omega) (by omega) _ (HF0.out.trans hm)).mono ?_; rintro e w2 ⟨⟨b2, rfl⟩, hf⟩; obtain ⟨⟨kb0, kb1, kb2, kb3, kb4⟩, _⟩ := box5 (HBX.out w2 (hm.trans hf)); have HF2 := Lib.hid (hm.trans hf); clear hf hm; cases b2)
              | (go_at_call 26; refine (awake08 _ (HT.out.keep HF0.out) (HM.out.keep HF0.out)).mono ?_; rintro e w1 ⟨rfl, hf⟩; obtain ⟨⟨ka0, ka1, ka2, ka3, ka4⟩, _⟩ := box5 (HBX.out w1 hf); have HF1 := Lib.hid hf; clear hf))
            all_goals
              go_ret
              exact ⟨rfl, HFF.out⟩
        · skip
          have b1 := b47.1 hc47
          have h0' : (0 : Int) < (hd.size : Int) := by omega
          have b2 := b47.2 ht47
          have ht0' : (0 : Int) < (tl.size : Int) := by omega
          clear hbad ht47 h5
          clear hv hbk hs1 hs2 hT hM hnv hl hb1 hb2
          go_enter Tryz.func9, Tryz.ntmps9
          go_wp2_with (first
            | (go_at_call 28; have hm := HF2.out; refine (HD1.out _ (HF0.out.trans hm)).mono ?_; rintro e w3 ⟨P, r, P', r', rfl, hin, hf⟩; have hk := (Fr.refl w3).alloc (.cells #[.int .i64 l.kd, .int .i64 l.nm, .string ⟨l.tx.toArray⟩, .slice P l.ls.length r, .slice P' l.ms.length r'] 29); have HF3 := Lib.hid (HF0.out.trans (hm.trans (hf.trans hk))); have HFF := Lib.hid (HF0.out.trans (hm.trans (hf.trans hk))); clear hin hf hk hm)
            | (go_at_call 26; have hg := HF0.out.trans HF2.out; refine (awake08 _ (HT.out.keep hg) (HM.out.keep hg)).mono ?_; rintro e w3 ⟨rfl, hf⟩; have HFF := Lib.hid (hg.trans hf); clear hf hg)
            | (go_at_call 27; have hm := HF1.out; refine (HFW.out _ (by omega) (by omega) _ (HF0.out.trans hm)).mono ?_; rintro e w2 ⟨⟨b2, rfl⟩, hf⟩; obtain ⟨⟨kb0, kb1, kb2, kb3, kb4⟩, _⟩ := box5 (HBX.out w2 (hm.trans hf)); have HF2 := Lib.hid (hm.trans hf); clear hf hm; cases b2)
            | (go_at_call 26; refine (awake08 _ (HT.out.keep HF0.out) (HM.out.keep HF0.out)).mono ?_; rintro e w1 ⟨rfl, hf⟩; obtain ⟨⟨ka0, ka1, ka2, ka3, ka4⟩, _⟩ := box5 (HBX.out w1 hf); have HF1 := Lib.hid hf; clear hf))
          all_goals
            go_ret
            exact ⟨rfl, HFF.out⟩
      · have b1 := b47.2 hc47
        have h0' : (0 : Int) < (hd.size : Int) := by omega
        clear hbad hc47 h5
        clear hv hbk hs1 hs2 hT hM hnv hl hb1 hb2
        go_enter Tryz.func9, Tryz.ntmps9
        go_wp2_with (first
          | (go_at_call 28; have hm := HF2.out; refine (HD1.out _ (HF0.out.trans hm)).mono ?_; rintro e w3 ⟨P, r, P', r', rfl, hin, hf⟩; have hk := (Fr.refl w3).alloc (.cells #[.int .i64 l.kd, .int .i64 l.nm, .string ⟨l.tx.toArray⟩, .slice P l.ls.length r, .slice P' l.ms.length r'] 29); have HF3 := Lib.hid (HF0.out.trans (hm.trans (hf.trans hk))); have HFF := Lib.hid (HF0.out.trans (hm.trans (hf.trans hk))); clear hin hf hk hm)
          | (go_at_call 26; have hg := HF0.out.trans HF2.out; refine (awake08 _ (HT.out.keep hg) (HM.out.keep hg)).mono ?_; rintro e w3 ⟨rfl, hf⟩; have HFF := Lib.hid (hg.trans hf); clear hf hg)
          | (go_at_call 27; have hm := HF1.out; refine (HFW.out _ (by omega) (by omega) _ (HF0.out.trans hm)).mono ?_; rintro e w2 ⟨⟨b2, rfl⟩, hf⟩; obtain ⟨⟨kb0, kb1, kb2, kb3, kb4⟩, _⟩ := box5 (HBX.out w2 (hm.trans hf)); have HF2 := Lib.hid (hm.trans hf); clear hf hm; cases b2)
          | (go_at_call 26; refine (awake08 _ (HT.out.keep HF0.out) (HM.out.keep HF0.out)).mono ?_; rintro e w1 ⟨rfl, hf⟩; obtain ⟨⟨ka0, ka1, ka2, ka3, ka4⟩, _⟩ := box5 (HBX.out w1 hf); have HF1 := Lib.hid hf; clear hf))
        all_goals
          go_ret
          exact ⟨rfl, HFF.out⟩
    · have q5 : (l.kd != 5) = true := (ikind h5).2
      clear hbad h5
      clear hv hbk hs1 hs2 hT hM hnv hl hb1 hb2
      go_enter Tryz.func9, Tryz.ntmps9
      go_wp2_with (first
        | (go_at_call 28; have hm := HF2.out; refine (HD1.out _ (HF0.out.trans hm)).mono ?_; rintro e w3 ⟨P, r, P', r', rfl, hin, hf⟩; have hk := (Fr.refl w3).alloc (.cells #[.int .i64 l.kd, .int .i64 l.nm, .string ⟨l.tx.toArray⟩, .slice P l.ls.length r, .slice P' l.ms.length r'] 29); have HF3 := Lib.hid (HF0.out.trans (hm.trans (hf.trans hk))); have HFF := Lib.hid (HF0.out.trans (hm.trans (hf.trans hk))); clear hin hf hk hm)
        | (go_at_call 26; have hg := HF0.out.trans HF2.out; refine (awake08 _ (HT.out.keep hg) (HM.out.keep hg)).mono ?_; rintro e w3 ⟨rfl, hf⟩; have HFF := Lib.hid (hg.trans hf); clear hf hg)
        | (go_at_call 27; have hm := HF1.out; refine (HFW.out _ (by omega) (by omega) _ (HF0.out.trans hm)).mono ?_; rintro e w2 ⟨⟨b2, rfl⟩, hf⟩; obtain ⟨⟨kb0, kb1, kb2, kb3, kb4⟩, _⟩ := box5 (HBX.out w2 (hm.trans hf)); have HF2 := Lib.hid (hm.trans hf); clear hf hm; cases b2)
        | (go_at_call 26; refine (awake08 _ (HT.out.keep HF0.out) (HM.out.keep HF0.out)).mono ?_; rintro e w1 ⟨rfl, hf⟩; obtain ⟨⟨ka0, ka1, ka2, ka3, ka4⟩, _⟩ := box5 (HBX.out w1 hf); have HF1 := Lib.hid hf; clear hf))
      all_goals
        go_ret
        exact ⟨rfl, HFF.out⟩
  · have q1 : (c1 != 0) = true := by rw [bne_iff_ne]; exact hc1
    clear hbad hc1
    clear hv hbk hs1 hs2 hT hM hnv hl hb1 hb2
    go_enter Tryz.func9, Tryz.ntmps9
    go_wp2_with (first
      | (go_at_call 28; have hm := HF2.out; refine (HD1.out _ (HF0.out.trans hm)).mono ?_; rintro e w3 ⟨P, r, P', r', rfl, hin, hf⟩; have hk := (Fr.refl w3).alloc (.cells #[.int .i64 l.kd, .int .i64 l.nm, .string ⟨l.tx.toArray⟩, .slice P l.ls.length r, .slice P' l.ms.length r'] 29); have HF3 := Lib.hid (HF0.out.trans (hm.trans (hf.trans hk))); have HFF := Lib.hid (HF0.out.trans (hm.trans (hf.trans hk))); clear hin hf hk hm)
      | (go_at_call 26; have hg := HF0.out.trans HF2.out; refine (awake08 _ (HT.out.keep hg) (HM.out.keep hg)).mono ?_; rintro e w3 ⟨rfl, hf⟩; have HFF := Lib.hid (hg.trans hf); clear hf hg)
      | (go_at_call 27; have hm := HF1.out; refine (HFW.out _ (by omega) (by omega) _ (HF0.out.trans hm)).mono ?_; rintro e w2 ⟨⟨b2, rfl⟩, hf⟩; obtain ⟨⟨kb0, kb1, kb2, kb3, kb4⟩, _⟩ := box5 (HBX.out w2 (hm.trans hf)); have HF2 := Lib.hid (hm.trans hf); clear hf hm; cases b2)
      | (go_at_call 26; refine (awake08 _ (HT.out.keep HF0.out) (HM.out.keep HF0.out)).mono ?_; rintro e w1 ⟨rfl, hf⟩; obtain ⟨⟨ka0, ka1, ka2, ka3, ka4⟩, _⟩ := box5 (HBX.out w1 hf); have HF1 := Lib.hid hf; clear hf))
    all_goals
      go_ret
      exact ⟨rfl, HFF.out⟩
end Go.Proofs.YtfjcgbbphkfkgaaGreatDoor
