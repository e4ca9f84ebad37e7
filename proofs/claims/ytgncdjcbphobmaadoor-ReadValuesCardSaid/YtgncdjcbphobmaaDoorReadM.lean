/- The law ReadSorts. -/
import Derived.Test.YtgncdjcbphobmaaDoorReadL
namespace Go.Proofs.YtgncdjcbphobmaaDoor
set_option linter.unusedVariables false
set_option linter.unusedSimpArgs false
open Go.RowKit

theorem zeroV_in (w : World) (S : Nat → Prop) : InV w S JV.zeroV (.agg #[.int .i64 0, .int .i64 0, .string ⟨#[]⟩, .slice none 0 0, .slice none 0 0]) :=
  InV.leaf w S 0 0 [] none none 0 0 (by decide) (by decide) (by decide) (by decide) (by simp)
theorem same_zero (w : World) : Calls Tryd.prog 22 #[.agg #[.int .i64 0, .int .i64 0, .string ⟨#[]⟩, .slice none 0 0, .slice none 0 0], .agg #[.int .i64 0, .int .i64 0, .string ⟨#[]⟩, .slice none 0 0, .slice none 0 0]] w fun e w' => e = .returned (.bool true) ∧ Fr w w' :=
  (same_is JV.zeroV JV.zeroV _ _).call true (by simp) rfl rfl (zeroV_in w _) (zeroV_in w _)

set_option maxHeartbeats 2000000 in
set_option maxRecDepth 100000 in
theorem sorts_is (s : ByteArray) (w : World) (hs : s.size ≤ 140737488351232) (hT : LowTabs w) :
    Calls Tryd.prog 6 #[.string s] w fun e w' => e = .returned (.bool true) ∧ Fr w w' := by
  have HT := Lib.hid hT
  have hs' : (s.size : Int) ≤ 140737488351232 := by omega
  have HS : Hid (s.size ≤ 9223372036854775807) := by show _ ≤ _; omega
  have hlen : s.data.toList.length = s.size := by simp
  rcases h : Rd.rdS s.data.toList with _ | ⟨a, c⟩ | ⟨v, l, q⟩
  · exact absurd h (Rd.rdS_out _)
  · have hp := Rd.rdS_place h
    rw [hlen] at hp
    have H := Lib.hid h
    have e1 : (((c : Nat) : Int) != 0) = true := by rw [bne_iff_ne]; omega
    have e2 : decide (0 ≤ (a : Int)) = true := decide_eq_true (by omega)
    have e3 : decide ((a : Int) ≤ (s.size : Int)) = true := decide_eq_true (by omega)
    have e4 : (a : Int) ≤ (s.size : Int) := by omega
    clear hT hs h hlen hp
    go_enter Tryd.func6, Tryd.ntmps6
    go_wp2_with (first
      | (go_at_call 22; have hm := HF2.out; refine (same_zero _).mono ?_; rintro e w3 ⟨rfl, hf⟩; have HF3 := Lib.hid (hm.trans hf); clear hf hm)
      | (go_at_call 21; have hm := HF1.out.alloc (.cells #[.int .i64 0, .int .i64 0, .string ⟨#[]⟩, .slice none 0 0, .slice none 0 0] 25); refine (awake05 _ (HT.out.keep hm)).mono ?_; rintro e w2 ⟨rfl, hf⟩; obtain ⟨⟨x0, x1, x2, x3, x4⟩, _⟩ := box5 ((Blk.made w1 #[.int .i64 0, .int .i64 0, .string ⟨#[]⟩, .slice none 0 0, .slice none 0 0] 25).keep hf); have HF2 := Lib.hid (hm.trans hf); clear hf hm)
      | (go_at_call 19; refine (rvalue_b s a c _ HS.out HT.out H.out).mono ?_; rintro e w1 ⟨rfl, hf⟩; have HF1 := Lib.hid hf; clear hf))
    go_ret
    exact ⟨rfl, HF3.out⟩
  · obtain ⟨hok, hch, rfl, hq, hd, hu, rfl⟩ := Rd.rdS_right h
    have H := Lib.hid h
    have HUQ := Lib.hid hu
    have hpos := Rd.nv_pos v
    obtain ⟨n, hn⟩ : ∃ n, Rd.nv v = n := ⟨_, rfl⟩
    obtain ⟨m, hm⟩ : ∃ n, Rd.dp v 1 = n := ⟨_, rfl⟩
    rw [hn] at hq hpos
    rw [hm] at hd
    have HN := Lib.hid hn
    have HM := Lib.hid hm
    have HQ := Lib.hid hq
    have HD := Lib.hid hd
    have q1 : (1 : Int) ≤ (n : Int) := by omega
    have q2 : (n : Int) ≤ 8192 := by omega
    have q3 : (m : Int) ≤ 16 := by omega
    clear hT hs h hlen hok hch hq hd hu hn hm hpos
    go_enter Tryd.func6, Tryd.ntmps6
    go_wp2_with (first
      | (go_at_call 23; have hm := HF2.out; refine ((count_is v _ 1 _ HUQ.out HV2.out (by rw [HN.out]; have := HQ.out; omega) (by rw [HM.out]; have := HD.out; omega)).call rfl rfl HN.out HM.out).mono ?_; rintro e w3 ⟨rfl, hf⟩; have HF3 := Lib.hid (hm.trans hf); clear hf hm)
      | (go_at_call 21; have hm := HF1.out.alloc (.cells #[.int .i64 v.kd, .int .i64 v.nm, .string ⟨v.tx.toArray⟩, .slice B v.ls.length d, .slice B' v.ms.length d'] 25); refine (awake05 _ (HT.out.keep hm)).mono ?_; rintro e w2 ⟨rfl, hf⟩; obtain ⟨⟨x0, x1, x2, x3, x4⟩, _⟩ := box5 ((Blk.made w1 #[.int .i64 v.kd, .int .i64 v.nm, .string ⟨v.tx.toArray⟩, .slice B v.ls.length d, .slice B' v.ms.length d'] 25).keep hf); have HV2 := Lib.hid ((HV1.out.keep (Nat.le_refl _) (((Fr.refl w1).alloc _).trans hf)).lo (B' := w2.heap.size) (by have := hf.size; simp at this; omega)); have HF2 := Lib.hid (hm.trans hf); clear hf hm)
      | (go_at_call 19; refine (rvalue_v s v [] n v.kd v.nm v.tx v.ls.length v.ms.length ⟨rfl, rfl, rfl, rfl, rfl⟩ _ HS.out HT.out ?hh).mono ?_; (case hh => rw [← HN.out]; exact H.out); rintro e w1 ⟨B, d, B', d', rfl, hv, hf⟩; have HV1 := Lib.hid hv.low; have HF1 := Lib.hid hf; clear hv hf))
    go_ret
    exact ⟨rfl, HF3.out⟩
end Go.Proofs.YtgncdjcbphobmaaDoor
