/- The walk of chapter 08's law of what pointers find. -/
import Derived.Test.YtfjcgbbphkfkgaaGreatDoorPtX
import Derived.Test.YtfjcgbbphkfkgaaGreatDoorPtU
namespace Go.Proofs.YtfjcgbbphkfkgaaGreatDoor
set_option linter.unusedVariables false
set_option linter.unusedSimpArgs false
open Go.RowKit

set_option maxHeartbeats 4000000 in
set_option maxRecDepth 100000 in
theorem pfinds_law (v : JV) (A : Option Addr) (c0 : Nat) (A' : Option Addr) (c0' : Nat) (s : ByteArray) (w : World) (hv : InV w (Lo w.heap.size) v (vA v A c0 A' c0')) (hbk : JV.bulk v ≤ 1048576) (hs : s.size ≤ 140737488351232) (hT : LowTabs w) (hM : MxL w) :
    Calls Tryz.prog 7 #[vA v A c0 A' c0', .string s] w fun e w' => e = .returned (.bool true) ∧ Fr w w' := by
  have hs' : (s.size : Int) ≤ 140737488351232 := by omega
  have HT := Lib.hid hT
  have HM := Lib.hid hM
  have hnv := nv_bulk v
  have HBX : Hid (∀ W, Fr (w.alloc (.cells #[.int .i64 v.kd, .int .i64 v.nm, .string ⟨v.tx.toArray⟩, .slice A v.ls.length c0, .slice A' v.ms.length c0'] 29)) W → Blk W w.heap.size #[.int .i64 v.kd, .int .i64 v.nm, .string ⟨v.tx.toArray⟩, .slice A v.ls.length c0, .slice A' v.ms.length c0'] 29) := Lib.hid (fun W hW => (Blk.made w _ _).keep hW)
  have HF0 : Hid (Fr w (w.alloc (.cells #[.int .i64 v.kd, .int .i64 v.nm, .string ⟨v.tx.toArray⟩, .slice A v.ls.length c0, .slice A' v.ms.length c0'] 29))) := (Fr.refl w).alloc _
  have HFW : Hid (∀ n : Int, 0 ≤ n → n ≤ 9000000000000000000 → ∀ W, Fr w W → Calls Tryz.prog 27 #[.agg #[.int .i64 v.kd, .int .i64 v.nm, .string ⟨v.tx.toArray⟩, .slice A v.ls.length c0, .slice A' v.ms.length c0'], .int .i64 n] W fun e w' => (∃ b : Bool, e = .returned (.bool b)) ∧ Fr W w') := Lib.hid (fun n h1 h2 W hW => few7_is v A c0 A' c0' W ((hv.keep (Nat.le_refl _) hW).lo hW.size) (by omega) n h1 h2)
  have HA : Hid (vA v A c0 A' c0' = .agg #[.int .i64 v.kd, .int .i64 v.nm, .string ⟨v.tx.toArray⟩, .slice A v.ls.length c0, .slice A' v.ms.length c0']) := rfl
  rw [HA.out]
  by_cases h200 : s.size ≤ 200
  · have h2 : ¬ ((s.size : Int) > 200) := by omega
    have h3 : decide ((200 : Int) < (s.size : Int)) = false := decide_eq_false (by omega)
    obtain ⟨y1, c1, hy1⟩ : ∃ y c, Pt.ans false (Pt.parts s.data.toList) v = (y, c) := ⟨_, _, rfl⟩
    obtain ⟨y2, c2, hy2⟩ : ∃ y c, Pt.ans true (Pt.parts s.data.toList) v = (y, c) := ⟨_, _, rfl⟩
    have HD1 : Hid (∀ W, Fr w W → Calls Tryz.prog 28 #[.agg #[.int .i64 v.kd, .int .i64 v.nm, .string ⟨v.tx.toArray⟩, .slice A v.ls.length c0, .slice A' v.ms.length c0'], .string s] W fun e w' => ∃ (C : Option Addr) (f : Nat) (C' : Option Addr) (f' : Nat), e = .returned (.tuple #[.agg #[.int .i64 y1.kd, .int .i64 y1.nm, .string ⟨y1.tx.toArray⟩, .slice C y1.ls.length f, .slice C' y1.ms.length f'], .int .i64 c1]) ∧ InV w' (Lo w'.heap.size) y1 (vA y1 C f C' f') ∧ Fr W w') :=
      Lib.hid (fun W hW => (pfind_is v A c0 A' c0' s W w.heap.size hW.size (hv.keep (Nat.le_refl _) hW) (by omega) (by omega) (HM.out.keep hW)).mono fun e w' h => by obtain ⟨C, f, C', f', he, hin, hf⟩ := h.ans hW.size hy1; exact ⟨C, f, C', f', he, Ne.low hin hW.size hf.size, hf⟩)
    have HD2 : Hid (∀ W, Fr w W → Calls Tryz.prog 29 #[.agg #[.int .i64 v.kd, .int .i64 v.nm, .string ⟨v.tx.toArray⟩, .slice A v.ls.length c0, .slice A' v.ms.length c0'], .string s] W fun e w' => ∃ (C : Option Addr) (f : Nat) (C' : Option Addr) (f' : Nat), e = .returned (.tuple #[.agg #[.int .i64 y1.kd, .int .i64 y1.nm, .string ⟨y1.tx.toArray⟩, .slice C y1.ls.length f, .slice C' y1.ms.length f'], .int .i64 c1]) ∧ InV w' (Lo w'.heap.size) y1 (vA y1 C f C' f') ∧ Fr W w') :=
      Lib.hid (fun W hW => (rfind_is v A c0 A' c0' s W w.heap.size hW.size (hv.keep (Nat.le_refl _) hW) (by omega) (by omega)).mono fun e w' h => by obtain ⟨C, f, C', f', he, hin, hf⟩ := h.ans hW.size hy1; exact ⟨C, f, C', f', he, Ne.low hin hW.size hf.size, hf⟩)
    have HD3 : Hid (∀ W, Fr w W → Calls Tryz.prog 30 #[.agg #[.int .i64 v.kd, .int .i64 v.nm, .string ⟨v.tx.toArray⟩, .slice A v.ls.length c0, .slice A' v.ms.length c0'], .string s] W fun e w' => ∃ (C : Option Addr) (f : Nat) (C' : Option Addr) (f' : Nat), e = .returned (.tuple #[.agg #[.int .i64 y2.kd, .int .i64 y2.nm, .string ⟨y2.tx.toArray⟩, .slice C y2.ls.length f, .slice C' y2.ms.length f'], .int .i64 c2]) ∧ InV w' (Lo w'.heap.size) y2 (vA y2 C f C' f') ∧ Fr W w') :=
      Lib.hid (fun W hW => (peach_is v A c0 A' c0' s W w.heap.size hW.size (hv.keep (Nat.le_refl _) hW) (by omega) (by omega) (HM.out.keep hW)).mono fun e w' h => by obtain ⟨C, f, C', f', he, hin, hf⟩ := h.ans hW.size hy2; exact ⟨C, f, C', f', he, Ne.low hin hW.size hf.size, hf⟩)
    have HD4 : Hid (∀ W, Fr w W → Calls Tryz.prog 31 #[.agg #[.int .i64 v.kd, .int .i64 v.nm, .string ⟨v.tx.toArray⟩, .slice A v.ls.length c0, .slice A' v.ms.length c0'], .string s] W fun e w' => ∃ (C : Option Addr) (f : Nat) (C' : Option Addr) (f' : Nat), e = .returned (.tuple #[.agg #[.int .i64 y2.kd, .int .i64 y2.nm, .string ⟨y2.tx.toArray⟩, .slice C y2.ls.length f, .slice C' y2.ms.length f'], .int .i64 c2]) ∧ InV w' (Lo w'.heap.size) y2 (vA y2 C f C' f') ∧ Fr W w') :=
      Lib.hid (fun W hW => (reach_is v A c0 A' c0' s W w.heap.size hW.size (hv.keep (Nat.le_refl _) hW) (by omega) (by omega)).mono fun e w' h => by obtain ⟨C, f, C', f', he, hin, hf⟩ := h.ans hW.size hy2; exact ⟨C, f, C', f', he, Ne.low hin hW.size hf.size, hf⟩)
    have e1 : (c1 == c1) = true := beq_self_eq_true _
    have e2 : (c2 == c2) = true := beq_self_eq_true _
    clear hv hbk hs hT hM hnv hy1 hy2
    go_enter Tryz.func7, Tryz.ntmps7
    go_wp2_with (first
      | (go_at_call 15; have hm := HF7.out; refine ((same_is y2 y2 _ _).call true (by simp) rfl rfl HV3_5.out HV4_5.out).mono ?_; rintro e w8 ⟨rfl, hf⟩; have HFF := Lib.hid (HF0.out.trans (hm.trans hf)); clear hf hm)
      | (go_at_call 15; have hm := HF6.out; refine ((same_is y1 y1 _ _).call true (by simp) rfl rfl HV1_4.out HV2_4.out).mono ?_; rintro e w7 ⟨rfl, hf⟩; have hmk := hm.trans hf; obtain ⟨⟨r30, r31, r32, r33, r34⟩, _⟩ := box5 (HB3_4.out.keep hf); obtain ⟨⟨r40, r41, r42, r43, r44⟩, _⟩ := box5 (HB4_4.out.keep hf); have HV3_5 := Lib.hid ((HV3_4.out.keep (Nat.le_refl _) hf).lo hf.size); have HV4_5 := Lib.hid ((HV4_4.out.keep (Nat.le_refl _) hf).lo hf.size); have HF7 := Lib.hid hmk; clear hf hm hmk)
      | (go_at_call 31; have hm := HF5.out; refine (HD4.out _ (HF0.out.trans hm)).mono ?_; rintro e w6 ⟨C4, f4, C4', f4', rfl, hin, hf⟩; have hk := (Fr.refl w6).alloc (.cells #[.int .i64 y2.kd, .int .i64 y2.nm, .string ⟨y2.tx.toArray⟩, .slice C4 y2.ls.length f4, .slice C4' y2.ms.length f4'] 29); have hfk := hf.trans hk; have hmk := hm.trans hfk; obtain ⟨⟨kf0, kf1, kf2, kf3, kf4⟩, _⟩ := box5 (HBX.out (w6.alloc (.cells #[.int .i64 y2.kd, .int .i64 y2.nm, .string ⟨y2.tx.toArray⟩, .slice C4 y2.ls.length f4, .slice C4' y2.ms.length f4'] 29)) hmk); have HF6 := Lib.hid hmk; have HV4_4 := Lib.hid ((hin.keep (Nat.le_refl _) hk).lo hk.size); have HB4_4 := Lib.hid (Blk.made w6 #[.int .i64 y2.kd, .int .i64 y2.nm, .string ⟨y2.tx.toArray⟩, .slice C4 y2.ls.length f4, .slice C4' y2.ms.length f4'] 29); have HV1_4 := Lib.hid ((HV1_3.out.keep (Nat.le_refl _) hfk).lo hfk.size); have HB1_4 := Lib.hid (HB1_3.out.keep hfk); have HV2_4 := Lib.hid ((HV2_3.out.keep (Nat.le_refl _) hfk).lo hfk.size); have HB2_4 := Lib.hid (HB2_3.out.keep hfk); have HV3_4 := Lib.hid ((HV3_3.out.keep (Nat.le_refl _) hfk).lo hfk.size); have HB3_4 := Lib.hid (HB3_3.out.keep hfk); obtain ⟨⟨q10, q11, q12, q13, q14⟩, _⟩ := box5 HB1_4.out; obtain ⟨⟨q20, q21, q22, q23, q24⟩, _⟩ := box5 HB2_4.out; obtain ⟨⟨q30, q31, q32, q33, q34⟩, _⟩ := box5 HB3_4.out; clear hin hf hk hfk hmk hm)
      | (go_at_call 30; have hm := HF4.out; refine (HD3.out _ (HF0.out.trans hm)).mono ?_; rintro e w5 ⟨C3, f3, C3', f3', rfl, hin, hf⟩; have hk := (Fr.refl w5).alloc (.cells #[.int .i64 y2.kd, .int .i64 y2.nm, .string ⟨y2.tx.toArray⟩, .slice C3 y2.ls.length f3, .slice C3' y2.ms.length f3'] 29); have hfk := hf.trans hk; have hmk := hm.trans hfk; obtain ⟨⟨ke0, ke1, ke2, ke3, ke4⟩, _⟩ := box5 (HBX.out (w5.alloc (.cells #[.int .i64 y2.kd, .int .i64 y2.nm, .string ⟨y2.tx.toArray⟩, .slice C3 y2.ls.length f3, .slice C3' y2.ms.length f3'] 29)) hmk); have HF5 := Lib.hid hmk; have HV3_3 := Lib.hid ((hin.keep (Nat.le_refl _) hk).lo hk.size); have HB3_3 := Lib.hid (Blk.made w5 #[.int .i64 y2.kd, .int .i64 y2.nm, .string ⟨y2.tx.toArray⟩, .slice C3 y2.ls.length f3, .slice C3' y2.ms.length f3'] 29); have HV1_3 := Lib.hid ((HV1_2.out.keep (Nat.le_refl _) hfk).lo hfk.size); have HB1_3 := Lib.hid (HB1_2.out.keep hfk); have HV2_3 := Lib.hid ((HV2_2.out.keep (Nat.le_refl _) hfk).lo hfk.size); have HB2_3 := Lib.hid (HB2_2.out.keep hfk); clear hin hf hk hfk hmk hm)
      | (go_at_call 29; have hm := HF3.out; refine (HD2.out _ (HF0.out.trans hm)).mono ?_; rintro e w4 ⟨C2, f2, C2', f2', rfl, hin, hf⟩; have hk := (Fr.refl w4).alloc (.cells #[.int .i64 y1.kd, .int .i64 y1.nm, .string ⟨y1.tx.toArray⟩, .slice C2 y1.ls.length f2, .slice C2' y1.ms.length f2'] 29); have hfk := hf.trans hk; have hmk := hm.trans hfk; obtain ⟨⟨kd0, kd1, kd2, kd3, kd4⟩, _⟩ := box5 (HBX.out (w4.alloc (.cells #[.int .i64 y1.kd, .int .i64 y1.nm, .string ⟨y1.tx.toArray⟩, .slice C2 y1.ls.length f2, .slice C2' y1.ms.length f2'] 29)) hmk); have HF4 := Lib.hid hmk; have HV2_2 := Lib.hid ((hin.keep (Nat.le_refl _) hk).lo hk.size); have HB2_2 := Lib.hid (Blk.made w4 #[.int .i64 y1.kd, .int .i64 y1.nm, .string ⟨y1.tx.toArray⟩, .slice C2 y1.ls.length f2, .slice C2' y1.ms.length f2'] 29); have HV1_2 := Lib.hid ((HV1_1.out.keep (Nat.le_refl _) hfk).lo hfk.size); have HB1_2 := Lib.hid (HB1_1.out.keep hfk); clear hin hf hk hfk hmk hm)
      | (go_at_call 28; have hm := HF2.out; refine (HD1.out _ (HF0.out.trans hm)).mono ?_; rintro e w3 ⟨C1, f1, C1', f1', rfl, hin, hf⟩; have hk := (Fr.refl w3).alloc (.cells #[.int .i64 y1.kd, .int .i64 y1.nm, .string ⟨y1.tx.toArray⟩, .slice C1 y1.ls.length f1, .slice C1' y1.ms.length f1'] 29); have hfk := hf.trans hk; have hmk := hm.trans hfk; obtain ⟨⟨kc0, kc1, kc2, kc3, kc4⟩, _⟩ := box5 (HBX.out (w3.alloc (.cells #[.int .i64 y1.kd, .int .i64 y1.nm, .string ⟨y1.tx.toArray⟩, .slice C1 y1.ls.length f1, .slice C1' y1.ms.length f1'] 29)) hmk); have HF3 := Lib.hid hmk; have HV1_1 := Lib.hid ((hin.keep (Nat.le_refl _) hk).lo hk.size); have HB1_1 := Lib.hid (Blk.made w3 #[.int .i64 y1.kd, .int .i64 y1.nm, .string ⟨y1.tx.toArray⟩, .slice C1 y1.ls.length f1, .slice C1' y1.ms.length f1'] 29); clear hin hf hk hfk hmk hm)
      | (go_at_call 26; have hg := HF0.out.trans HF2.out; refine (awake08 _ (HT.out.keep hg) (HM.out.keep hg)).mono ?_; rintro e w3 ⟨rfl, hf⟩; have HFF := Lib.hid (hg.trans hf); clear hf hg)
      | (go_at_call 27; have hm := HF1.out; refine (HFW.out _ (by omega) (by omega) _ (HF0.out.trans hm)).mono ?_; rintro e w2 ⟨⟨b2, rfl⟩, hf⟩; obtain ⟨⟨kb0, kb1, kb2, kb3, kb4⟩, _⟩ := box5 (HBX.out w2 (hm.trans hf)); have HF2 := Lib.hid (hm.trans hf); clear hf hm; cases b2)
      | (go_at_call 26; refine (awake08 _ (HT.out.keep HF0.out) (HM.out.keep HF0.out)).mono ?_; rintro e w1 ⟨rfl, hf⟩; obtain ⟨⟨ka0, ka1, ka2, ka3, ka4⟩, _⟩ := box5 (HBX.out w1 hf); have HF1 := Lib.hid hf; clear hf))
    all_goals
      go_ret
      exact ⟨rfl, HFF.out⟩
  · have h2 : (s.size : Int) > 200 := by omega
    have h3 : decide ((200 : Int) < (s.size : Int)) = true := decide_eq_true (by omega)
    clear hv hbk hs hT hM hnv
    go_enter Tryz.func7, Tryz.ntmps7
    go_wp2_with (first
      | (go_at_call 26; have hg := HF0.out.trans HF2.out; refine (awake08 _ (HT.out.keep hg) (HM.out.keep hg)).mono ?_; rintro e w3 ⟨rfl, hf⟩; have HFF := Lib.hid (hg.trans hf); clear hf hg)
      | (go_at_call 27; have hm := HF1.out; refine (HFW.out _ (by omega) (by omega) _ (HF0.out.trans hm)).mono ?_; rintro e w2 ⟨⟨b2, rfl⟩, hf⟩; obtain ⟨⟨kb0, kb1, kb2, kb3, kb4⟩, _⟩ := box5 (HBX.out w2 (hm.trans hf)); have HF2 := Lib.hid (hm.trans hf); clear hf hm; cases b2)
      | (go_at_call 26; refine (awake08 _ (HT.out.keep HF0.out) (HM.out.keep HF0.out)).mono ?_; rintro e w1 ⟨rfl, hf⟩; obtain ⟨⟨ka0, ka1, ka2, ka3, ka4⟩, _⟩ := box5 (HBX.out w1 hf); have HF1 := Lib.hid hf; clear hf))
    all_goals
      go_ret
      exact ⟨rfl, HFF.out⟩
end Go.Proofs.YtfjcgbbphkfkgaaGreatDoor
