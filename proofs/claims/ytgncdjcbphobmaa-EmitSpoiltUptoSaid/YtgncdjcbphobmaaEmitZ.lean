/- The walks of the laws EmitWrapped, EmitUnlike. -/
import Derived.Test.YtgncdjcbphobmaaVb
namespace Go.Proofs.Ytgncdjcbphobmaa
set_option linter.unusedVariables false
set_option linter.unusedSimpArgs false
open Go.RowKit

set_option maxHeartbeats 1500000 in
set_option maxRecDepth 100000 in
theorem wrapped_law (u : JV) (B : Option Addr) (d : Nat) (B' : Option Addr) (d' : Nat) (w : World) (hv : InV w (Lo w.heap.size) u (vA u B d B' d')) (hk : JV.bulk u ≤ 1048576) :
    Calls Try.prog 3 #[vA u B d B' d'] w fun e w' => e = .returned (.bool true) ∧ Fr w w' := by
  rcases hc : JV.chk u 1 0 with ⟨c, q⟩
  rcases hc2 : JV.chk u 2 1 with ⟨c2, q2⟩
  have hw := JV.wrapped_code u
  rw [hc, hc2] at hw
  simp only at hw
  obtain ⟨T, hT⟩ : ∃ T, T = if c = 0 then JV.wrt u else [] := ⟨_, rfl⟩
  obtain ⟨T2, hT2⟩ : ∃ T2, T2 = if c2 = 0 then JV.wrt (JV.listV [u]) else [] := ⟨_, rfl⟩
  obtain ⟨T3, hT3⟩ : ∃ T3, T3 = if c2 = 0 then JV.wrt (JV.mapV [([107], u)]) else [] := ⟨_, rfl⟩
  have hwl : c = 0 ∨ c2 = 0 → (JV.wrt u).length ≤ 8388608 := by
    intro h
    have ha : JV.allB u = true := by
      rcases h with h | h
      · exact (JV.chk_all u 1 0).1 (by rw [hc]; exact h)
      · exact (JV.chk_all u 2 1).1 (by rw [hc2]; exact h)
    have := JV.wrt_len u ha
    omega
  have hl1 : T.length ≤ 140737488355328 := by
    subst hT; split
    · have := hwl (.inl (by assumption)); omega
    · simp
  have hl2 : T2.length ≤ 140737488355328 := by
    subst hT2; split
    · have := hwl (.inr (by assumption)); rw [wrt_list1]; simp; omega
    · simp
  have hl3 : T3.length ≤ 140737488355328 := by
    subst hT3; split
    · have := hwl (.inr (by assumption)); rw [wrt_map1]; simp; omega
    · simp
  have HC := Lib.hid hc
  have HL : Hid (JV.chk (JV.listV [u]) 1 0 = (c2, q2)) := by show _ = _; rw [JV.chk_list1, hc2]
  have HM : Hid (JV.chk (JV.mapV [([107], u)]) 1 0 = (c2, q2)) := by show _ = _; rw [JV.chk_map1, hc2]
  have HT := Lib.hid hT
  have HT2 := Lib.hid hT2
  have HT3 := Lib.hid hT3
  have HV := Lib.hid hv
  have hl15 : T.length ≤ 8388608 := by
    subst hT; split
    · exact hwl (.inl (by assumption))
    · simp
  have hcase : (c2 = 51 ∨ c2 = 53) ∨ (c = c2 ∧ c ≠ 0 ∧ c2 ≠ 51 ∧ c2 ≠ 53) ∨ (c = 0 ∧ c2 = 0) := by omega
  clear hc hc2 hw hT hT2 hT3 hwl hv
  have HA : Hid (vA u B d B' d' = .agg #[.int .i64 u.kd, .int .i64 u.nm, .string ⟨u.tx.toArray⟩, .slice B u.ls.length d, .slice B' u.ms.length d']) := rfl
  have n1 : ¬ (9223372036854775807 < 1 + T.length) := by omega
  rcases hcase with h | ⟨rfl, h0, h1, h2⟩ | ⟨rfl, rfl⟩
  · have t2 : T2 = [] := by rw [HT2.out, if_neg (by omega)]
    have t3 : T3 = [] := by rw [HT3.out, if_neg (by omega)]
    subst t2; subst t3
    have he : (((c2 : Nat) : Int) == 51) = true ∨ ((((c2 : Nat) : Int) == 51) = false ∧ (((c2 : Nat) : Int) == 53) = true) := by
      rcases h with rfl | rfl
      · left; rfl
      · right; exact ⟨rfl, rfl⟩
    have hff : (((c2 : Nat) : Int) != ((c2 : Nat) : Int)) = false := by simp
    clear h
    rcases he with e1 | ⟨e1, e2⟩
    all_goals
      rw [HA.out]
      go_enter Try.func3, Try.ntmps3
      go_wp2_with (first
        | (go_at_call 7; refine (awake06 _).mono ?_; rintro e w4 ⟨rfl, hf⟩; have HF4 := Lib.hid (HF3.out.trans hf); clear hf)
        | (go_at_call 6; have hm := HF2.out; refine (text_is (JV.mapV [([107], u)]) none 0 _ 1 _ c2 q2 [] ((InV.map1 [107] (by simp) ((HV.out.keep (Nat.le_refl _) hm).lo hm.size)).lo (by simp)) HM.out HT3.out hl3).mono ?_; rintro e w3 ⟨rfl, hf⟩; have HF3 := Lib.hid ((hm.alloc _).trans hf); clear hf hm)
        | (go_at_call 6; have hm := HF1.out; refine (text_is (JV.listV [u]) _ 1 none 0 _ c2 q2 [] ((InV.list1 ((HV.out.keep (Nat.le_refl _) hm).lo hm.size)).lo (by simp)) HL.out HT2.out hl2).mono ?_; rintro e w2 ⟨rfl, hf⟩; have hx := (HX1.out.keep ((Fr.refl _).alloc _)).keep hf; obtain ⟨_, z0, z1, z2, z3, z4⟩ := hx; have HF2 := Lib.hid ((hm.alloc _).trans hf); clear hf hm)
        | (go_at_call 6; refine (text_is u B d B' d' _ c q T ((HV.out.keep (Nat.le_refl _) ((Fr.refl w).alloc _)).lo (by simp)) HC.out HT.out hl1).mono ?_; rintro e w1 ⟨rfl, hf⟩; have hx := (VB.made w u B d B' d').keep hf; have HX1 := Lib.hid hx; obtain ⟨_, x0, x1, x2, x3, x4⟩ := hx; have HF1 := Lib.hid (((Fr.refl w).alloc _).trans hf); clear hf))
      go_ret
      exact ⟨rfl, HF4.out⟩
  · have e1 : (((c : Nat) : Int) == 51) = false := by rw [beq_eq_false_iff_ne]; omega
    have e2 : (((c : Nat) : Int) == 53) = false := by rw [beq_eq_false_iff_ne]; omega
    have e3 : (((c : Nat) : Int) != 0) = true := by rw [bne_iff_ne]; omega
    have hff : (((c : Nat) : Int) != ((c : Nat) : Int)) = false := by simp
    have hfe : (((c : Nat) : Int) == ((c : Nat) : Int)) = true := by simp
    rw [HA.out]
    go_enter Try.func3, Try.ntmps3
    go_wp2_with (first
      | (go_at_call 7; refine (awake06 _).mono ?_; rintro e w4 ⟨rfl, hf⟩; have HF4 := Lib.hid (HF3.out.trans hf); clear hf)
      | (go_at_call 6; have hm := HF2.out; refine (text_is (JV.mapV [([107], u)]) none 0 _ 1 _ c q2 T3 ((InV.map1 [107] (by simp) ((HV.out.keep (Nat.le_refl _) hm).lo hm.size)).lo (by simp)) HM.out HT3.out hl3).mono ?_; rintro e w3 ⟨rfl, hf⟩; have HF3 := Lib.hid ((hm.alloc _).trans hf); clear hf hm)
      | (go_at_call 6; have hm := HF1.out; refine (text_is (JV.listV [u]) _ 1 none 0 _ c q2 T2 ((InV.list1 ((HV.out.keep (Nat.le_refl _) hm).lo hm.size)).lo (by simp)) HL.out HT2.out hl2).mono ?_; rintro e w2 ⟨rfl, hf⟩; have hx := (HX1.out.keep ((Fr.refl _).alloc _)).keep hf; obtain ⟨_, z0, z1, z2, z3, z4⟩ := hx; have HF2 := Lib.hid ((hm.alloc _).trans hf); clear hf hm)
      | (go_at_call 6; refine (text_is u B d B' d' _ c q T ((HV.out.keep (Nat.le_refl _) ((Fr.refl w).alloc _)).lo (by simp)) HC.out HT.out hl1).mono ?_; rintro e w1 ⟨rfl, hf⟩; have hx := (VB.made w u B d B' d').keep hf; have HX1 := Lib.hid hx; obtain ⟨_, x0, x1, x2, x3, x4⟩ := hx; have HF1 := Lib.hid (((Fr.refl w).alloc _).trans hf); clear hf))
    go_ret
    exact ⟨rfl, HF4.out⟩
  · have S2 : Hid ((⟨#[91]⟩ : ByteArray) ++ ⟨T.toArray⟩ ++ ⟨#[93]⟩ = ⟨T2.toArray⟩) := by
      refine bytes_eq ?_
      rw [data_app, data_app, HT2.out, if_pos rfl, wrt_list1, HT.out, if_pos rfl] <;> simp
    have S3 : Hid ((⟨#[123, 34, 107, 34, 58]⟩ : ByteArray) ++ ⟨T.toArray⟩ ++ ⟨#[125]⟩ = ⟨T3.toArray⟩) := by
      refine bytes_eq ?_
      rw [data_app, data_app, HT3.out, if_pos rfl, wrt_map1, HT.out, if_pos rfl] <;> simp
    rw [HA.out]
    go_enter Try.func3, Try.ntmps3
    go_wp2_with (first
      | (go_at_call 7; refine (awake06 _).mono ?_; rintro e w4 ⟨rfl, hf⟩; have HF4 := Lib.hid (HF3.out.trans hf); clear hf)
      | (go_at_call 6; have hm := HF2.out; refine (text_bs (JV.mapV [([107], u)]) none 0 _ 1 _ 0 q2 T3 S3.out ((InV.map1 [107] (by simp) ((HV.out.keep (Nat.le_refl _) hm).lo hm.size)).lo (by simp)) HM.out HT3.out hl3).mono ?_; rintro e w3 ⟨rfl, hf⟩; have HF3 := Lib.hid ((hm.alloc _).trans hf); clear hf hm)
      | (go_at_call 6; have hm := HF1.out; refine (text_bs (JV.listV [u]) _ 1 none 0 _ 0 q2 T2 S2.out ((InV.list1 ((HV.out.keep (Nat.le_refl _) hm).lo hm.size)).lo (by simp)) HL.out HT2.out hl2).mono ?_; rintro e w2 ⟨rfl, hf⟩; have hx := (HX1.out.keep ((Fr.refl _).alloc _)).keep hf; obtain ⟨_, z0, z1, z2, z3, z4⟩ := hx; have HF2 := Lib.hid ((hm.alloc _).trans hf); clear hf hm)
      | (go_at_call 6; refine (text_is u B d B' d' _ 0 q T ((HV.out.keep (Nat.le_refl _) ((Fr.refl w).alloc _)).lo (by simp)) HC.out HT.out hl1).mono ?_; rintro e w1 ⟨rfl, hf⟩; have hx := (VB.made w u B d B' d').keep hf; have HX1 := Lib.hid hx; obtain ⟨_, x0, x1, x2, x3, x4⟩ := hx; have HF1 := Lib.hid (((Fr.refl w).alloc _).trans hf); clear hf))
    go_ret
    exact ⟨rfl, HF4.out⟩

set_option maxHeartbeats 1500000 in
set_option maxRecDepth 100000 in
theorem unlike_law (u : JV) (B : Option Addr) (d : Nat) (B' : Option Addr) (d' : Nat) (v : JV) (C : Option Addr) (k : Nat) (C' : Option Addr) (k' : Nat) (w : World) (hu : InV w (Lo w.heap.size) u (vA u B d B' d')) (hv : InV w (Lo w.heap.size) v (vA v C k C' k'))
    (hk : JV.bulk u ≤ 1048576) (hk2 : JV.bulk v ≤ 1048576) :
    Calls Try.prog 5 #[vA u B d B' d', vA v C k C' k'] w fun e w' => e = .returned (.bool true) ∧ Fr w w' := by
  rcases hc : JV.chk u 1 0 with ⟨c, q⟩
  rcases hc2 : JV.chk v 1 0 with ⟨c2, q2⟩
  obtain ⟨T, hT⟩ : ∃ T, T = if c = 0 then JV.wrt u else [] := ⟨_, rfl⟩
  obtain ⟨T2, hT2⟩ : ∃ T2, T2 = if c2 = 0 then JV.wrt v else [] := ⟨_, rfl⟩
  have hl1 : T.length ≤ 140737488355328 := by
    subst hT; split
    · have := JV.wrt_len u ((JV.chk_all u 1 0).1 (by rw [hc]; assumption)); omega
    · simp
  have hl2 : T2.length ≤ 140737488355328 := by
    subst hT2; split
    · have := JV.wrt_len v ((JV.chk_all v 1 0).1 (by rw [hc2]; assumption)); omega
    · simp
  have hin : c = 0 → c2 = 0 → (T = T2 ↔ u = v) := by
    intro h1 h2
    have o1 := (JV.chk_ok u 1 0 (by rw [hc]; exact h1)).1
    have o2 := (JV.chk_ok v 1 0 (by rw [hc2]; exact h2)).1
    rw [hT, hT2, if_pos h1, if_pos h2]
    constructor
    · intro h
      exact (JV.wrt_inj u v [] [] o1 o2 (.inl rfl) (.inl rfl) (by rw [List.append_nil, List.append_nil]; exact h)).1
    · intro h; rw [h]
  have HC := Lib.hid hc
  have HC2 := Lib.hid hc2
  have HT := Lib.hid hT
  have HT2 := Lib.hid hT2
  have HU := Lib.hid hu
  have HV := Lib.hid hv
  have hcase : c ≠ 0 ∨ (c = 0 ∧ c2 ≠ 0) ∨ (c = 0 ∧ c2 = 0) := by omega
  have HIN := Lib.hid hin
  clear hc hc2 hT hT2 hu hv hin
  have HA : Hid (vA u B d B' d' = .agg #[.int .i64 u.kd, .int .i64 u.nm, .string ⟨u.tx.toArray⟩, .slice B u.ls.length d, .slice B' u.ms.length d']) := rfl
  have HA2 : Hid (vA v C k C' k' = .agg #[.int .i64 v.kd, .int .i64 v.nm, .string ⟨v.tx.toArray⟩, .slice C v.ls.length k, .slice C' v.ms.length k']) := rfl
  rw [HA.out, HA2.out]
  rcases hcase with h0 | ⟨rfl, h0⟩ | ⟨rfl, rfl⟩
  · have e3 : (((c : Nat) : Int) != 0) = true := by rw [bne_iff_ne]; omega
    clear h0
    go_enter Try.func5, Try.ntmps5
    go_wp2_with (first
      | (go_at_call 7; have hm := HF3.out; refine (awake06 _).mono ?_; rintro e w4 ⟨rfl, hf⟩; have HF4 := Lib.hid (hm.trans hf); clear hf hm)
      | (go_at_call 7; have hm := HF2.out; refine (awake06 _).mono ?_; rintro e w3 ⟨rfl, hf⟩; have HF3 := Lib.hid (hm.trans hf); clear hf hm)
      | (go_at_call 6; have hm := HF1.out; refine (text_is v C k C' k' _ c2 q2 T2 ((HV.out.keep (Nat.le_refl _) hm).lo hm.size) HC2.out HT2.out hl2).mono ?_; rintro e w2 ⟨rfl, hf⟩; have HX2 := Lib.hid (HX1.out.keep hf); have HY2 := Lib.hid (HY1.out.keep hf); have HF2 := Lib.hid (hm.trans hf); clear hf hm)
      | (go_at_call 6; have hm := ((Fr.refl w).alloc (.cells #[.int .i64 u.kd, .int .i64 u.nm, .string ⟨u.tx.toArray⟩, .slice B u.ls.length d, .slice B' u.ms.length d'] 25)).alloc (.cells #[.int .i64 v.kd, .int .i64 v.nm, .string ⟨v.tx.toArray⟩, .slice C v.ls.length k, .slice C' v.ms.length k'] 25); refine (text_is u B d B' d' _ c q T ((HU.out.keep (Nat.le_refl _) hm).lo hm.size) HC.out HT.out hl1).mono ?_; rintro e w1 ⟨rfl, hf⟩; have hx := ((VB.made w u B d B' d').keep ((Fr.refl _).alloc _)).keep hf; have hy : VB w1 (w.heap.size + 1) v C k C' k' := VB.made2 w _ v C k C' k' hf; have HX1 := Lib.hid hx; have HY1 := Lib.hid hy; obtain ⟨_, x0, x1, x2, x3, x4⟩ := hx; obtain ⟨_, p0, p1, p2, p3, p4⟩ := hy; have HF1 := Lib.hid (hm.trans hf); clear hf hm))
    go_ret
    exact ⟨rfl, HF4.out⟩
  · have e3 : (((c2 : Nat) : Int) != 0) = true := by rw [bne_iff_ne]; omega
    clear h0
    go_enter Try.func5, Try.ntmps5
    go_wp2_with (first
      | (go_at_call 7; have hm := HF3.out; refine (awake06 _).mono ?_; rintro e w4 ⟨rfl, hf⟩; have HF4 := Lib.hid (hm.trans hf); clear hf hm)
      | (go_at_call 7; have hm := HF2.out; refine (awake06 _).mono ?_; rintro e w3 ⟨rfl, hf⟩; have HF3 := Lib.hid (hm.trans hf); clear hf hm)
      | (go_at_call 6; have hm := HF1.out; refine (text_is v C k C' k' _ c2 q2 T2 ((HV.out.keep (Nat.le_refl _) hm).lo hm.size) HC2.out HT2.out hl2).mono ?_; rintro e w2 ⟨rfl, hf⟩; have HX2 := Lib.hid (HX1.out.keep hf); have HY2 := Lib.hid (HY1.out.keep hf); have HF2 := Lib.hid (hm.trans hf); clear hf hm)
      | (go_at_call 6; have hm := ((Fr.refl w).alloc (.cells #[.int .i64 u.kd, .int .i64 u.nm, .string ⟨u.tx.toArray⟩, .slice B u.ls.length d, .slice B' u.ms.length d'] 25)).alloc (.cells #[.int .i64 v.kd, .int .i64 v.nm, .string ⟨v.tx.toArray⟩, .slice C v.ls.length k, .slice C' v.ms.length k'] 25); refine (text_is u B d B' d' _ 0 q T ((HU.out.keep (Nat.le_refl _) hm).lo hm.size) HC.out HT.out hl1).mono ?_; rintro e w1 ⟨rfl, hf⟩; have hx := ((VB.made w u B d B' d').keep ((Fr.refl _).alloc _)).keep hf; have hy : VB w1 (w.heap.size + 1) v C k C' k' := VB.made2 w _ v C k C' k' hf; have HX1 := Lib.hid hx; have HY1 := Lib.hid hy; obtain ⟨_, x0, x1, x2, x3, x4⟩ := hx; obtain ⟨_, p0, p1, p2, p3, p4⟩ := hy; have HF1 := Lib.hid (hm.trans hf); clear hf hm))
    go_ret
    exact ⟨rfl, HF4.out⟩
  · have hb1 := bl_beq T T2
    by_cases huv : u = v
    · have htt := (HIN.out rfl rfl).2 huv
      rw [decide_eq_true htt] at hb1
      have hb2 : (T == T2) = true := by rw [beq_iff_eq]; exact htt
      have hbb : (true = true ↔ u = v) := by simp [huv]
      have HBB := Lib.hid hbb
      clear htt huv hbb
      go_enter Try.func5, Try.ntmps5
      go_wp2_with (first
        | (go_at_call 9; have hm := HF3.out; refine ((same_is u v (vA u B d B' d') (vA v C k C' k')).call true (by simpa using HBB.out) rfl rfl ((HU.out.keep (Nat.le_refl _) hm).lo hm.size) ((HV.out.keep (Nat.le_refl _) hm).lo hm.size)).mono ?_; rintro e w5 ⟨rfl, hf⟩; have HF5 := Lib.hid (hm.trans hf); clear hf hm)
        | (go_at_call 7; have hm := HF2.out; refine (awake06 _).mono ?_; rintro e w3 ⟨rfl, hf⟩; have hx := HX2.out.keep hf; have hy := HY2.out.keep hf; obtain ⟨_, z0, z1, z2, z3, z4⟩ := hx; obtain ⟨_, y0, y1, y2, y3, y4⟩ := hy; have HF3 := Lib.hid (hm.trans hf); clear hf hm)
        | (go_at_call 6; have hm := HF1.out; refine (text_is v C k C' k' _ 0 q2 T2 ((HV.out.keep (Nat.le_refl _) hm).lo hm.size) HC2.out HT2.out hl2).mono ?_; rintro e w2 ⟨rfl, hf⟩; have HX2 := Lib.hid (HX1.out.keep hf); have HY2 := Lib.hid (HY1.out.keep hf); have HF2 := Lib.hid (hm.trans hf); clear hf hm)
        | (go_at_call 6; have hm := ((Fr.refl w).alloc (.cells #[.int .i64 u.kd, .int .i64 u.nm, .string ⟨u.tx.toArray⟩, .slice B u.ls.length d, .slice B' u.ms.length d'] 25)).alloc (.cells #[.int .i64 v.kd, .int .i64 v.nm, .string ⟨v.tx.toArray⟩, .slice C v.ls.length k, .slice C' v.ms.length k'] 25); refine (text_is u B d B' d' _ 0 q T ((HU.out.keep (Nat.le_refl _) hm).lo hm.size) HC.out HT.out hl1).mono ?_; rintro e w1 ⟨rfl, hf⟩; have hx := ((VB.made w u B d B' d').keep ((Fr.refl _).alloc _)).keep hf; have hy : VB w1 (w.heap.size + 1) v C k C' k' := VB.made2 w _ v C k C' k' hf; have HX1 := Lib.hid hx; have HY1 := Lib.hid hy; obtain ⟨_, x0, x1, x2, x3, x4⟩ := hx; obtain ⟨_, p0, p1, p2, p3, p4⟩ := hy; have HF1 := Lib.hid (hm.trans hf); clear hf hm))
      go_ret
      exact ⟨rfl, HF5.out⟩
    · have htt : T ≠ T2 := fun h => huv ((HIN.out rfl rfl).1 h)
      rw [decide_eq_false htt] at hb1
      have hb2 : (T == T2) = false := by rw [beq_eq_false_iff_ne]; exact htt
      have hbb : (false = true ↔ u = v) := by simp [huv]
      have HBB := Lib.hid hbb
      clear htt huv hbb
      go_enter Try.func5, Try.ntmps5
      go_wp2_with (first
        | (go_at_call 9; have hm := HF3.out; refine ((same_is u v (vA u B d B' d') (vA v C k C' k')).call false HBB.out rfl rfl ((HU.out.keep (Nat.le_refl _) hm).lo hm.size) ((HV.out.keep (Nat.le_refl _) hm).lo hm.size)).mono ?_; rintro e w5 ⟨rfl, hf⟩; have HF5 := Lib.hid (hm.trans hf); clear hf hm)
        | (go_at_call 7; have hm := HF2.out; refine (awake06 _).mono ?_; rintro e w3 ⟨rfl, hf⟩; have hx := HX2.out.keep hf; have hy := HY2.out.keep hf; obtain ⟨_, z0, z1, z2, z3, z4⟩ := hx; obtain ⟨_, y0, y1, y2, y3, y4⟩ := hy; have HF3 := Lib.hid (hm.trans hf); clear hf hm)
        | (go_at_call 6; have hm := HF1.out; refine (text_is v C k C' k' _ 0 q2 T2 ((HV.out.keep (Nat.le_refl _) hm).lo hm.size) HC2.out HT2.out hl2).mono ?_; rintro e w2 ⟨rfl, hf⟩; have HX2 := Lib.hid (HX1.out.keep hf); have HY2 := Lib.hid (HY1.out.keep hf); have HF2 := Lib.hid (hm.trans hf); clear hf hm)
        | (go_at_call 6; have hm := ((Fr.refl w).alloc (.cells #[.int .i64 u.kd, .int .i64 u.nm, .string ⟨u.tx.toArray⟩, .slice B u.ls.length d, .slice B' u.ms.length d'] 25)).alloc (.cells #[.int .i64 v.kd, .int .i64 v.nm, .string ⟨v.tx.toArray⟩, .slice C v.ls.length k, .slice C' v.ms.length k'] 25); refine (text_is u B d B' d' _ 0 q T ((HU.out.keep (Nat.le_refl _) hm).lo hm.size) HC.out HT.out hl1).mono ?_; rintro e w1 ⟨rfl, hf⟩; have hx := ((VB.made w u B d B' d').keep ((Fr.refl _).alloc _)).keep hf; have hy : VB w1 (w.heap.size + 1) v C k C' k' := VB.made2 w _ v C k C' k' hf; have HX1 := Lib.hid hx; have HY1 := Lib.hid hy; obtain ⟨_, x0, x1, x2, x3, x4⟩ := hx; obtain ⟨_, p0, p1, p2, p3, p4⟩ := hy; have HF1 := Lib.hid (hm.trans hf); clear hf hm))
      go_ret
      exact ⟨rfl, HF5.out⟩
end Go.Proofs.Ytgncdjcbphobmaa
