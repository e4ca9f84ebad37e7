/- The law ReadDeep. -/
import Derived.Test.YtgncdjcbphobmaaDoorReadM
namespace Go.Proofs.YtgncdjcbphobmaaDoor
set_option linter.unusedVariables false
set_option linter.unusedSimpArgs false
open Go.RowKit

namespace Rd
/-- Lists within lists. -/
def deepS : Nat → List UInt8
  | 0 => []
  | k + 1 => 91 :: (deepS k ++ [93])
def deepB (k : Nat) : Bool := match rdS (deepS k) with
  | .out => false
  | .bad a c => if k = 0 then c == 50 else decide (16 < k) && a == 16 && c == 51
  | .ok v _ _ => decide (1 ≤ k) && decide (k ≤ 16) && dp v 1 == k
theorem deep_all : (List.range 40).all deepB = true := by kernel_rfl
theorem deepB_at {k : Nat} (h : k < 40) : deepB k = true := List.all_eq_true.1 deep_all k (List.mem_range.2 h)
theorem deep_0 : rdS (deepS 0) = .bad 0 50 := aw5_4
theorem deep_lo {k : Nat} (h1 : 1 ≤ k) (h2 : k ≤ 16) : ∃ v l q, rdS (deepS k) = .ok v l q ∧ dp v 1 = k := by
  have h := deepB_at (k := k) (by omega)
  unfold deepB at h
  rcases hr : rdS (deepS k) with _ | ⟨a, c⟩ | ⟨v, l, q⟩
  · rw [hr] at h; cases h
  · rw [hr] at h
    simp only at h
    rw [if_neg (by omega)] at h
    simp at h; omega
  · rw [hr] at h
    simp at h
    exact ⟨v, l, q, rfl, h.2⟩
theorem deep_hi {k : Nat} (h1 : 16 < k) (h2 : k < 40) : rdS (deepS k) = .bad 16 51 := by
  have h := deepB_at (k := k) (by omega)
  unfold deepB at h
  rcases hr : rdS (deepS k) with _ | ⟨a, c⟩ | ⟨v, l, q⟩
  · rw [hr] at h; cases h
  · rw [hr] at h
    simp only at h
    rw [if_neg (by omega)] at h
    simp at h
    obtain ⟨⟨_, rfl⟩, rfl⟩ := h
    rfl
  · rw [hr] at h
    simp at h; omega
theorem deepS_len (k : Nat) : (deepS k).length = 2 * k := by
  induction k with
  | zero => rfl
  | succ k ih => simp [deepS, ih]; omega
end Rd
theorem deep_step {D : ByteArray} {i : Nat} (h : D.data.toList = Rd.deepS i) : ((⟨#[91]⟩ : ByteArray) ++ D ++ (⟨#[93]⟩ : ByteArray)).data.toList = Rd.deepS (i + 1) := by
  rw [data_app, data_app, h]
  simp [Rd.deepS]

set_option maxHeartbeats 2000000 in
set_option maxRecDepth 100000 in
theorem deep_is (n : Int) (hn0 : 0 ≤ n) (hn1 : n ≤ 255) (w : World) (hT : LowTabs w) :
    Calls Tryd.prog 9 #[.int .u8 n] w fun e w' => e = .returned (.bool true) ∧ Fr w w' := by
  have HT := Lib.hid hT
  obtain ⟨k, hk⟩ : ∃ k : Nat, n % 40 = (k : Int) := ⟨(n % 40).toNat, by omega⟩
  have hk9 : (k : Int) ≤ 39 := by omega
  clear hT
  go_enter Tryd.func9, Tryd.ntmps9
  go_wp2_with fail
  go_loop [4, 5] (fun sv iv => ∃ (i : Nat) (D : ByteArray), i ≤ k ∧ iv = .int .i64 i ∧ sv = .string D ∧ Hid (D.data.toList = Rd.deepS i)) (fun _ iv => k - (intOf iv).toNat)
  case atStart => exact ⟨0, ⟨#[]⟩, by omega, rfl, rfl, Lib.hid rfl⟩
  case round =>
    obtain ⟨i, D, hi, rfl, rfl, hD⟩ := hrel
    have hz : D.size = 2 * i := by
      have := congrArg List.length hD.out
      rw [Rd.deepS_len] at this
      simpa using this
    have hz' : (D.size : Int) ≤ 80 := by omega
    have HZ : Hid (D.size ≤ 9223372036854775807) := by show _ ≤ _; omega
    clear hz
    by_cases hlt : i < k
    · have hlt' : (i : Int) < (k : Int) := by omega
      go_wp2_with fail
      go_round
      case rel => exact ⟨i + 1, _, by omega, by go_num, rfl, Lib.hid (deep_step hD.out)⟩
      case measure => simp [intOf]; omega
    · obtain rfl : i = k := by omega
      by_cases h0 : i = 0
      · have e0 : ((i : Int) == 0) = true := by rw [beq_iff_eq]; omega
        have e00 : ((i : Int) != 0) = false := by rw [bne_eq_false_iff_eq]; omega
        have HR : Hid (Rd.rdS D.data.toList = .bad 0 50) := by show _ = _; rw [hD.out, h0]; exact Rd.deep_0
        clear h0
        go_wp2_with (first
          | (go_at_call 21; have hm := HF2.out; refine (awake05 _ (HT.out.keep hm)).mono ?_; rintro e w3 ⟨rfl, hf⟩; have HF3 := Lib.hid (hm.trans hf); clear hf hm)
          | (go_at_call 21; have hm := HF1.out.alloc (.cells #[.int .i64 0, .int .i64 0, .string ⟨#[]⟩, .slice none 0 0, .slice none 0 0] 25); refine (awake05 _ (HT.out.keep hm)).mono ?_; rintro e w2 ⟨rfl, hf⟩; have HF2 := Lib.hid (hm.trans hf); clear hf hm)
          | (go_at_call 19; refine (rvalue_b D 0 50 _ HZ.out HT.out HR.out).mono ?_; rintro e w1 ⟨rfl, hf⟩; have HF1 := Lib.hid hf; clear hf))
        go_ret
        exact ⟨rfl, HF3.out⟩
      · have e0 : ((i : Int) == 0) = false := by rw [beq_eq_false_iff_ne]; omega
        have e00 : ((i : Int) != 0) = true := by rw [bne_iff_ne]; omega
        by_cases h16 : i ≤ 16
        · have e1 : decide ((16 : Int) < (i : Int)) = false := decide_eq_false (by omega)
          obtain ⟨v, l, q, hr, hd⟩ := Rd.deep_lo (k := i) (by omega) h16
          obtain ⟨_, _, rfl, hq8, hd16, hu, _⟩ := Rd.rdS_right hr
          have HR : Hid (Rd.rdS D.data.toList = .ok v l (Rd.nv v)) := by show _ = _; rw [hD.out]; exact hr
          have HU := Lib.hid hu
          have HD1 := Lib.hid hd
          have HQ := Lib.hid hq8
          have HI16 := Lib.hid h16
          clear hr hd hq8 hd16 hu h0
          go_wp2_with (first
            | (go_at_call 23; have hm := HF2.out; refine ((count_is v _ 1 _ HU.out HV2.out (by have := HQ.out; omega) (by rw [HD1.out]; have := HI16.out; omega)).call rfl rfl rfl HD1.out).mono ?_; rintro e w3 ⟨rfl, hf⟩; have HF3 := Lib.hid (hm.trans hf); clear hf hm)
            | (go_at_call 21; have hm := HF1.out.alloc (.cells #[.int .i64 v.kd, .int .i64 v.nm, .string ⟨v.tx.toArray⟩, .slice B v.ls.length d, .slice B' v.ms.length d'] 25); refine (awake05 _ (HT.out.keep hm)).mono ?_; rintro e w2 ⟨rfl, hf⟩; obtain ⟨⟨x0, x1, x2, x3, x4⟩, _⟩ := box5 ((Blk.made w1 #[.int .i64 v.kd, .int .i64 v.nm, .string ⟨v.tx.toArray⟩, .slice B v.ls.length d, .slice B' v.ms.length d'] 25).keep hf); have HV2 := Lib.hid ((HV1.out.keep (Nat.le_refl _) (((Fr.refl w1).alloc _).trans hf)).lo (B' := w2.heap.size) (by have := hf.size; simp at this; omega)); have HF2 := Lib.hid (hm.trans hf); clear hf hm)
            | (go_at_call 19; refine (rvalue_v D v l (Rd.nv v) v.kd v.nm v.tx v.ls.length v.ms.length ⟨rfl, rfl, rfl, rfl, rfl⟩ _ HZ.out HT.out HR.out).mono ?_; rintro e w1 ⟨B, d, B', d', rfl, hv, hf⟩; have HV1 := Lib.hid hv.low; have HF1 := Lib.hid hf; clear hv hf))
          go_ret
          exact ⟨rfl, HF3.out⟩
        · have e1 : decide ((16 : Int) < (i : Int)) = true := decide_eq_true (by omega)
          have HR : Hid (Rd.rdS D.data.toList = .bad 16 51) := by show _ = _; rw [hD.out]; exact Rd.deep_hi (by omega) (by omega)
          clear h0 h16
          go_wp2_with (first
            | (go_at_call 21; have hm := HF2.out; refine (awake05 _ (HT.out.keep hm)).mono ?_; rintro e w3 ⟨rfl, hf⟩; have HF3 := Lib.hid (hm.trans hf); clear hf hm)
            | (go_at_call 21; have hm := HF1.out.alloc (.cells #[.int .i64 0, .int .i64 0, .string ⟨#[]⟩, .slice none 0 0, .slice none 0 0] 25); refine (awake05 _ (HT.out.keep hm)).mono ?_; rintro e w2 ⟨rfl, hf⟩; have HF2 := Lib.hid (hm.trans hf); clear hf hm)
            | (go_at_call 19; refine (rvalue_b D 16 51 _ HZ.out HT.out HR.out).mono ?_; rintro e w1 ⟨rfl, hf⟩; have HF1 := Lib.hid hf; clear hf))
          go_ret
          exact ⟨rfl, HF2.out⟩
end Go.Proofs.YtgncdjcbphobmaaDoor
