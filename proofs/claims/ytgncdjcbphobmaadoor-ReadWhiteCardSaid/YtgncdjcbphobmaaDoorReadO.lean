/- The law ReadWhite. -/
import Derived.Test.YtgncdjcbphobmaaDoorReadM
import Derived.Test.YtgncdjcbphobmaaDoorPb
import Derived.Test.YtgncdjcbphobmaaDoorVb
import Derived.Deep.Cut
namespace Go.Proofs.YtgncdjcbphobmaaDoor
set_option linter.unusedVariables false
set_option linter.unusedSimpArgs false
open Go.RowKit

def ws : List UInt8 := [9, 10, 32, 13, 32, 32, 10, 9, 32]
theorem ws_white (k : Nat) : ∀ c ∈ ws.take k, Scn.white c = true := by
  intro c hc
  have : ∀ c ∈ ws, Scn.white c = true := by decide
  exact this c (List.mem_of_mem_take hc)
set_option maxHeartbeats 2000000 in
set_option maxRecDepth 100000 in
theorem white_long (s : ByteArray) (n : Int) (hn0 : 0 ≤ n) (hn1 : n ≤ 255) (w : World) (hs : s.size ≤ 140737488351232) (hT : LowTabs w) (hl : 60000 < s.size) :
    Calls Tryd.prog 7 #[.string s, .int .u8 n] w fun e w' => e = .returned (.bool true) ∧ Fr w w' := by
  have HT := Lib.hid hT
  have HS : Hid (s.size ≤ 9223372036854775807) := by show _ ≤ _; omega
  have e1 : decide ((60000 : Int) < (s.size : Int)) = true := decide_eq_true (by omega)
  have hs' : (s.size : Int) ≤ 140737488351232 := by omega
  have hr := rvalue_is s w HS.out hT
  have HR : Hid (Calls Tryd.prog 19 #[.string s] w fun e w' => ∃ (k n : Int) (t : ByteArray) (B : Option Addr) (L d : Nat) (B' : Option Addr) (M d' : Nat) (a c : Int), e = .returned (.tuple #[.agg #[.int .i64 k, .int .i64 n, .string t, .slice B L d, .slice B' M d'], .int .i64 a, .int .i64 c]) ∧ Fr w w') := by
    refine hr.mono ?_
    generalize Rd.rdS s.data.toList = r
    intro e w' h
    cases r with
    | out => exact h.elim
    | bad a c => obtain ⟨rfl, hf⟩ := h; exact ⟨_, _, _, _, _, _, _, _, _, _, _, rfl, hf⟩
    | ok v l q =>
      obtain ⟨val, rfl, hi, hf⟩ := h
      obtain ⟨A, c, A', c', rfl, _, _⟩ := hi.open_
      exact ⟨_, _, _, _, _, _, _, _, _, _, _, rfl, hf⟩
  clear hT hs hl hr
  go_enter Tryd.func7, Tryd.ntmps7
  go_wp2_with (first
    | (go_at_call 21; have hm := HF2.out; refine (awake05 _ (HT.out.keep hm)).mono ?_; rintro e w3 ⟨rfl, hf⟩; have HF3 := Lib.hid (hm.trans hf); clear hf hm)
    | (go_at_call 21; have hm := HF1.out.alloc (.cells #[.int .i64 k, .int .i64 m, .string t, .slice B L d, .slice B' M d'] 25); refine (awake05 _ (HT.out.keep hm)).mono ?_; rintro e w2 ⟨rfl, hf⟩; have HF2 := Lib.hid (hm.trans hf); clear hf hm)
    | (go_at_call 19; refine HR.out.mono ?_; rintro e w1 ⟨k, m, t, B, L, d, B', M, d', a, c, rfl, hf⟩; have HF1 := Lib.hid hf; clear hf))
  go_ret
  exact ⟨rfl, HF3.out⟩

/-- White space ahead: the cut's run, the text. -/
theorem ws_cut (k : Nat) (hk : k ≤ 9) : ∃ G : ByteArray, (∀ w, (Instr.slice 9 (.string ⟨#[9, 10, 32, 13, 32, 32, 10, 9, 32]⟩) none (some (.int .i64 (k : Nat))) none).run Tryd.prog w = .ok (.string G) w) ∧ (∀ s : ByteArray, (G ++ s).data.toList = ws.take k ++ s.data.toList) ∧ G.size = k := by
  refine ⟨(⟨#[9, 10, 32, 13, 32, 32, 10, 9, 32]⟩ : ByteArray).extract 0 k, fun w => ?_, fun s => ?_, ?_⟩
  · have := run_slice_string_h (P := Tryd.prog) (w := w) (t := 9) (s := ⟨#[9, 10, 32, 13, 32, 32, 10, 9, 32]⟩) Tryd.underlying9 .i64 (k : Nat) (by omega) (by show (k : Int) ≤ ((9 : Nat) : Int); omega)
    simpa using this
  · rw [data_app]
    simp [ws]
  · rw [ByteArray.size_extract]
    show min k 9 - 0 = k
    omega
set_option maxHeartbeats 2000000 in
set_option maxRecDepth 100000 in
theorem white_bad (s : ByteArray) (n : Int) (hn0 : 0 ≤ n) (hn1 : n ≤ 255) (w : World) (hT : LowTabs w) (hl : s.size ≤ 60000) (a c : Nat) (h : Rd.rdS s.data.toList = .bad a c) :
    Calls Tryd.prog 7 #[.string s, .int .u8 n] w fun e w' => e = .returned (.bool true) ∧ Fr w w' := by
  have hlen : s.data.toList.length = s.size := by simp
  have hp := Rd.rdS_place h
  have HT := Lib.hid hT
  have H := Lib.hid h
  have HS : Hid (s.size ≤ 60000) := hl
  have e1 : decide ((60000 : Int) < (s.size : Int)) = false := decide_eq_false (by omega)
  have e2 : (((c : Nat) : Int) != 0) = true := by rw [bne_iff_ne]; omega
  obtain ⟨k, hk⟩ : ∃ k : Nat, n % 9 = (k : Int) := ⟨(n % 9).toNat, by omega⟩
  have hk9 : k ≤ 8 := by omega
  have hk' : (k : Int) ≤ 8 := by omega
  have ha : (a : Int) ≤ 60000 := by omega
  obtain ⟨G, hG, hGs, hGz⟩ := ws_cut k (by omega)
  have HP : Hid (Rd.rdS (G ++ s).data.toList = .bad (a + k) c) := by
    show _ = _
    rw [hGs, Rd.rdS_white (ws_white k) (by omega) (by simp [ws]; omega), h]
    simp only
    rw [show (ws.take k).length = k by simp [ws]; omega]
  have HG : Hid ((G ++ s).size ≤ 60100) := by show _ ≤ _; rw [ByteArray.size_append]; omega
  have hs63 : (s.size : Int) ≤ 60000 := by omega
  have hg63 : (G.size : Int) ≤ 9 := by omega
  clear hT h hp hl hlen hGs hGz
  go_enter Tryd.func7, Tryd.ntmps7
  go_wp2_with (first
    | (go_at_call 19; have hm := HF2.out; refine (rvalue_b (G ++ s) (a + k) c _ (Nat.le_trans HG.out (by omega)) (HT.out.keep hm) HP.out).mono ?_; rintro e w3 ⟨rfl, hf⟩; have HF3 := Lib.hid (hm.trans hf); clear hf hm)
    | (go_at_call 21; have hm := HF1.out.alloc (.cells #[.int .i64 0, .int .i64 0, .string ⟨#[]⟩, .slice none 0 0, .slice none 0 0] 25); refine (awake05 _ (HT.out.keep hm)).mono ?_; rintro e w2 ⟨rfl, hf⟩; have HF2 := Lib.hid (hm.trans hf); clear hf hm)
    | (go_at_call 19; (fail_if_success (have hm2 := HF1.out)); refine (rvalue_b s a c _ (Nat.le_trans HS.out (by omega)) HT.out H.out).mono ?_; rintro e w1 ⟨rfl, hf⟩; have HF1 := Lib.hid hf; clear hf))
  go_ret
  exact ⟨rfl, HF3.out.alloc _⟩
set_option maxHeartbeats 2000000 in
set_option maxRecDepth 100000 in
theorem white_ok (s : ByteArray) (n : Int) (hn0 : 0 ≤ n) (hn1 : n ≤ 255) (w : World) (hT : LowTabs w) (hl : s.size ≤ 60000) (v : JV) (l : List Scn.Tok) (q : Nat) (h : Rd.rdS s.data.toList = .ok v l q) :
    Calls Tryd.prog 7 #[.string s, .int .u8 n] w fun e w' => e = .returned (.bool true) ∧ Fr w w' := by
  have hlen : s.data.toList.length = s.size := by simp
  have HT := Lib.hid hT
  have H := Lib.hid h
  have HS : Hid (s.size ≤ 60000) := hl
  have e1 : decide ((60000 : Int) < (s.size : Int)) = false := decide_eq_false (by omega)
  obtain ⟨k, hk⟩ : ∃ k : Nat, n % 9 = (k : Int) := ⟨(n % 9).toNat, by omega⟩
  have hk9 : k ≤ 8 := by omega
  have hk' : (k : Int) ≤ 8 := by omega
  obtain ⟨G, hG, hGs, hGz⟩ := ws_cut k (by omega)
  have HP : Hid (Rd.rdS (G ++ s).data.toList = .ok v l q) := by
    show _ = _
    rw [hGs, Rd.rdS_white (ws_white k) (by omega) (by simp [ws]; omega), h]
  have HP2 : Hid (Rd.rdS (G ++ s ++ (⟨#[10]⟩ : ByteArray)).data.toList = .ok v l q) := by
    show _ = _
    rw [data_app]
    have : (G ++ s).data.toList.length = (G ++ s).size := by simp
    exact Rd.rdS_line (by rw [this, ByteArray.size_append]; omega) HP.out
  have HG : Hid ((G ++ s).size ≤ 60100) := by show _ ≤ _; rw [ByteArray.size_append]; omega
  have HG2 : Hid ((G ++ s ++ (⟨#[10]⟩ : ByteArray)).size ≤ 60101) := by
    have h1 := HG.out
    show _ ≤ _; rw [ByteArray.size_append]; show (G ++ s).size + 1 ≤ _; omega
  have hs63 : (s.size : Int) ≤ 60000 := by omega
  have hg63 : (G.size : Int) ≤ 9 := by omega
  have n1 : G.size + s.size ≤ 9223372036854775806 := by omega
  have n2 : ¬ (9223372036854775806 < G.size + s.size) := by omega
  clear hT h hl hlen hGs hGz
  go_enter Tryd.func7, Tryd.ntmps7
  go_upto_region 9 with (first
    | (go_at_call 19; have hm := HF2.out; refine (rvalue_v (G ++ s) v l q v.kd v.nm v.tx v.ls.length v.ms.length ⟨rfl, rfl, rfl, rfl, rfl⟩ _ (Nat.le_trans HG.out (by omega)) (HT.out.keep hm) HP.out).mono ?_; rintro e w3 ⟨C, e, C', e', rfl, hv, hf⟩; have HU3 := Lib.hid ((HU2.out.keep (Nat.le_refl _) hf).lo hf.size); have HW3 := Lib.hid hv.low; have HB3 := Lib.hid (HB2.out.keep hf); have HF3 := Lib.hid (hm.trans hf); clear hf hm hv)
    | (go_at_call 21; have hm := HF1.out.alloc (.cells #[.int .i64 v.kd, .int .i64 v.nm, .string ⟨v.tx.toArray⟩, .slice B v.ls.length d, .slice B' v.ms.length d'] 25); refine (awake05 _ (HT.out.keep hm)).mono ?_; rintro e w2 ⟨rfl, hf⟩; have HB2 := Lib.hid ((VB.made w1 v B d B' d').keep hf); have h1 := ((Fr.refl w1).alloc (.cells #[.int .i64 v.kd, .int .i64 v.nm, .string ⟨v.tx.toArray⟩, .slice B v.ls.length d, .slice B' v.ms.length d'] 25)).trans hf; have HU2 := Lib.hid ((HU1.out.keep (Nat.le_refl _) h1).lo h1.size); have HF2 := Lib.hid (hm.trans hf); clear hf hm h1)
    | (go_at_call 19; (fail_if_success (have hm2 := HF1.out)); refine (rvalue_v s v l q v.kd v.nm v.tx v.ls.length v.ms.length ⟨rfl, rfl, rfl, rfl, rfl⟩ _ (Nat.le_trans HS.out (by omega)) HT.out H.out).mono ?_; rintro e w1 ⟨B, d, B', d', rfl, hv, hf⟩; have HU1 := Lib.hid hv.low; have HF1 := Lib.hid hf; clear hf hv))
  obtain ⟨T, hT⟩ : ∃ T, G ++ s = T := ⟨_, rfl⟩
  rw [hT]
  have HPT : Hid (Rd.rdS (T ++ (⟨#[10]⟩ : ByteArray)).data.toList = .ok v l q) := by show _ = _; rw [← hT]; exact HP2.out
  have HGT : Hid ((T ++ (⟨#[10]⟩ : ByteArray)).size ≤ 9223372036854775807) := by show _ ≤ _; rw [← hT]; exact Nat.le_trans HG2.out (by omega)
  have ht63 : (T.size : Int) ≤ 60100 := by rw [← hT]; have := HG.out; omega
  clear hT hG
  go_wp2_with (first
    | (go_at_call 22; have hm := HF5.out; refine ((same_is v v _ _).call true (by simp) rfl rfl HU5.out HX5.out).mono ?_; rintro e w6 ⟨rfl, hf⟩; have HF6 := Lib.hid (hm.trans hf); clear hf hm)
    | (go_at_call 22; have hm := HF4.out; refine ((same_is v v _ _).call true (by simp) rfl rfl HU4.out HW4.out).mono ?_; rintro e w5 ⟨rfl, hf⟩; have hx := HB4.out.keep hf; obtain ⟨_, x0, x1, x2, x3, x4⟩ := hx; have hy := HD4.out.keep hf; obtain ⟨_, y0, y1, y2, y3, y4⟩ := hy; have HU5 := Lib.hid ((HU4.out.keep (Nat.le_refl _) hf).lo hf.size); have HX5 := Lib.hid ((HX4.out.keep (Nat.le_refl _) hf).lo hf.size); have HF5 := Lib.hid (hm.trans hf); clear hf hm)
    | (go_at_call 19; have hm := HF3.out.alloc (.cells #[.int .i64 v.kd, .int .i64 v.nm, .string ⟨v.tx.toArray⟩, .slice C v.ls.length e, .slice C' v.ms.length e'] 25); refine (rvalue_v (T ++ (⟨#[10]⟩ : ByteArray)) v l q v.kd v.nm v.tx v.ls.length v.ms.length ⟨rfl, rfl, rfl, rfl, rfl⟩ _ HGT.out (HT.out.keep hm) HPT.out).mono ?_; rintro e w4 ⟨D, f, D', f', rfl, hv, hf⟩; have ha := (Fr.refl w4).alloc (.cells #[.int .i64 v.kd, .int .i64 v.nm, .string ⟨v.tx.toArray⟩, .slice D v.ls.length f, .slice D' v.ms.length f'] 25); have h3 := ((Fr.refl w3).alloc (.cells #[.int .i64 v.kd, .int .i64 v.nm, .string ⟨v.tx.toArray⟩, .slice C v.ls.length e, .slice C' v.ms.length e'] 25)).trans (hf.trans ha); have HU4 := Lib.hid ((HU3.out.keep (Nat.le_refl _) h3).lo h3.size); have HW4 := Lib.hid ((HW3.out.keep (Nat.le_refl _) h3).lo h3.size); have HX4 := Lib.hid ((hv.low.keep (Nat.le_refl _) ha).lo ha.size); have HB4 := Lib.hid (HB3.out.keep h3); have hc := ((VB.made w3 v C e C' e').keep (hf.trans ha)); have hd := (VB.made w4 v D f D' f'); have HD4 := Lib.hid hd; obtain ⟨_, b0, b1, b2, b3, b4⟩ := HB4.out; obtain ⟨_, c0, c1, c2, c3, c4⟩ := hc; have HF4 := Lib.hid ((hm.trans hf).alloc (.cells #[.int .i64 v.kd, .int .i64 v.nm, .string ⟨v.tx.toArray⟩, .slice D v.ls.length f, .slice D' v.ms.length f'] 25)); clear hf hm ha h3 hv hd))
  go_ret
  exact ⟨rfl, HF6.out⟩
theorem white_is (s : ByteArray) (n : Int) (hn0 : 0 ≤ n) (hn1 : n ≤ 255) (w : World) (hs : s.size ≤ 140737488351232) (hT : LowTabs w) :
    Calls Tryd.prog 7 #[.string s, .int .u8 n] w fun e w' => e = .returned (.bool true) ∧ Fr w w' := by
  by_cases hl : s.size ≤ 60000
  · rcases h : Rd.rdS s.data.toList with _ | ⟨a, c⟩ | ⟨v, l, q⟩
    · exact absurd h (Rd.rdS_out _)
    · exact white_bad s n hn0 hn1 w hT hl a c h
    · exact white_ok s n hn0 hn1 w hT hl v l q h
  · exact white_long s n hn0 hn1 w hs hT (by omega)
end Go.Proofs.YtgncdjcbphobmaaDoor
