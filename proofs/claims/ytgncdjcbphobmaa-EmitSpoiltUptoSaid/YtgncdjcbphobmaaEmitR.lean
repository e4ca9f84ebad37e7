/- The walk of the law EmitSpoilt. -/
import Derived.Test.YtgncdjcbphobmaaEmitS
import Derived.Test.YtgncdjcbphobmaaEmitZ
namespace Go.Proofs.Ytgncdjcbphobmaa
set_option linter.unusedVariables false
set_option linter.unusedSimpArgs false
open Go.RowKit

set_option maxHeartbeats 2000000 in
set_option maxRecDepth 100000 in
theorem spoilt_not (k n0 : Int) (s : List UInt8) (l : List JV) (m : List (List UInt8 × JV)) (B : Option Addr) (d : Nat) (B' : Option Addr) (d' : Nat) (N : Int) (w : World) (hv : InV w (Lo w.heap.size) (.mk k n0 s l m) (vA (.mk k n0 s l m) B d B' d')) (hN1 : -9223372036854775808 ≤ N) (hN2 : N ≤ 9223372036854775807)
    (hl63 : l.length ≤ 140737488355328) (hm63 : m.length ≤ 140737488355328) (c q : Nat) (hc : JV.chk (.mk k n0 s l m) 1 0 = (c, q)) (h0 : c ≠ 0) :
    Calls Try.prog 4 #[vA (.mk k n0 s l m) B d B' d', .int .i64 N] w fun e w' => e = .returned (.bool true) ∧ Fr w w' := by
  have HV := Lib.hid hv
  have HC := Lib.hid hc
  have hf0 := hv.facts
  have hn1 : -9223372036854775808 ≤ n0 := hf0.1.1
  have hn2 : n0 ≤ 9223372036854775807 := hf0.1.2
  have HVN : Hid (InV w (Lo w.heap.size) (.mk k N s l m) (vA (.mk k N s l m) B d B' d')) := hv.setN N s hN1 hN2 hf0.2.2.1
  have HVS : Hid (InV w (Lo w.heap.size) (.mk k n0 [255] l m) (vA (.mk k n0 [255] l m) B d B' d')) := hv.setN n0 [255] hn1 hn2 (by simp)
  have HC2 : Hid (JV.chk (.mk k n0 [255] l m) 1 0 = (1, 0)) := chk_bad (spoil_s k n0 l m)
  have HC1 : Hid (k ≠ 2 → k ≠ 3 → N ≠ 0 → JV.chk (.mk k N s l m) 1 0 = (1, 0)) := fun h2 h3 hn => chk_bad (spoil_n k N s l m h2 h3 hn)
  clear hc hf0
  show Calls Try.prog _ #[.agg #[.int .i64 k, .int .i64 n0, .string ⟨s.toArray⟩, .slice B l.length d, .slice B' m.length d'], .int .i64 N] _ _
  have e3 : (((c : Nat) : Int) != 0) = true := by rw [bne_iff_ne]; omega
  clear h0 hv
  go_enter Try.func4, Try.ntmps4
  go_wp2_with (first
    | (go_at_call 7; have hm := HF2.out; refine (awake06 _).mono ?_; rintro e w3 ⟨rfl, hf⟩; have HF3 := Lib.hid (hm.trans hf); clear hf hm)
    | (go_at_call 8; (fail_if_success (have hm2 := HF2.out)); have hm := HF1.out; refine (ccheck_is (JV.mk k n0 s l m) B d B' d' _ c q ((HV.out.keep (Nat.le_refl _) hm).lo hm.size) HC.out).mono ?_; rintro e w2 ⟨rfl, hf⟩; have hx := HX1.out.keep hf; have HX2 := Lib.hid hx; obtain ⟨_, v0, v1, v2, v3, v4⟩ := hx; (try simp only [JV.kd, JV.nm, JV.tx, JV.ls, JV.ms] at v0 v1 v2 v3 v4); have HF2 := Lib.hid (hm.trans hf); clear hf hm)
    | (go_at_call 7; refine (awake06 _).mono ?_; rintro e w1 ⟨rfl, hf⟩; have hx := (VB.made w (JV.mk k n0 s l m) B d B' d').keep hf; have HX1 := Lib.hid hx; obtain ⟨_, x0, x1, x2, x3, x4⟩ := hx; (try simp only [JV.kd, JV.nm, JV.tx, JV.ls, JV.ms] at x0 x1 x2 x3 x4); have HF1 := Lib.hid (((Fr.refl w).alloc _).trans hf); clear hf))
  go_ret
  exact ⟨rfl, HF3.out⟩

set_option maxHeartbeats 2000000 in
set_option maxRecDepth 100000 in
theorem spoilt_few (k n0 : Int) (s : List UInt8) (l : List JV) (m : List (List UInt8 × JV)) (B : Option Addr) (d : Nat) (B' : Option Addr) (d' : Nat) (N : Int) (w : World) (hv : InV w (Lo w.heap.size) (.mk k n0 s l m) (vA (.mk k n0 s l m) B d B' d')) (hN1 : -9223372036854775808 ≤ N) (hN2 : N ≤ 9223372036854775807)
    (hl63 : l.length ≤ 140737488355328) (hm63 : m.length ≤ 140737488355328) (q : Nat) (hc : JV.chk (.mk k n0 s l m) 1 0 = (0, q)) (hz : m.length = 0 ∨ 2000 < m.length) :
    Calls Try.prog 4 #[vA (.mk k n0 s l m) B d B' d', .int .i64 N] w fun e w' => e = .returned (.bool true) ∧ Fr w w' := by
  have HV := Lib.hid hv
  have HC := Lib.hid hc
  have hf0 := hv.facts
  have hn1 : -9223372036854775808 ≤ n0 := hf0.1.1
  have hn2 : n0 ≤ 9223372036854775807 := hf0.1.2
  have HVN : Hid (InV w (Lo w.heap.size) (.mk k N s l m) (vA (.mk k N s l m) B d B' d')) := hv.setN N s hN1 hN2 hf0.2.2.1
  have HVS : Hid (InV w (Lo w.heap.size) (.mk k n0 [255] l m) (vA (.mk k n0 [255] l m) B d B' d')) := hv.setN n0 [255] hn1 hn2 (by simp)
  have HC2 : Hid (JV.chk (.mk k n0 [255] l m) 1 0 = (1, 0)) := chk_bad (spoil_s k n0 l m)
  have HC1 : Hid (k ≠ 2 → k ≠ 3 → N ≠ 0 → JV.chk (.mk k N s l m) 1 0 = (1, 0)) := fun h2 h3 hn => chk_bad (spoil_n k N s l m h2 h3 hn)
  clear hc hf0
  show Calls Try.prog _ #[.agg #[.int .i64 k, .int .i64 n0, .string ⟨s.toArray⟩, .slice B l.length d, .slice B' m.length d'], .int .i64 N] _ _
  have hcase : k = 2 ∨ k = 3 ∨ (k ≠ 2 ∧ k ≠ 3 ∧ N = 0) ∨ (k ≠ 2 ∧ k ≠ 3 ∧ N ≠ 0) := by omega
  clear hv
  rcases hcase with rfl | rfl | ⟨k1, k2, rfl⟩ | ⟨k1, k2, k3⟩
  · rcases hz with hz | hz
    · obtain rfl : m = [] := List.eq_nil_of_length_eq_zero hz
      go_enter Try.func4, Try.ntmps4
      go_wp2_with (first
        | (go_at_call 8; have hm := ((HF2.out.alloc (.cells #[.int .i64 2, .int .i64 N, .string ⟨s.toArray⟩, .slice B l.length d, .slice B' 0 d'] 25)).alloc (.cells #[.int .i64 2, .int .i64 n0, .string ⟨#[255]⟩, .slice B l.length d, .slice B' 0 d'] 25)); refine (ccheck_is (JV.mk 2 n0 [255] l []) B d B' d' _ 1 0 ((HVS.out.keep (Nat.le_refl _) hm).lo hm.size) HC2.out).mono ?_; rintro e w4 ⟨rfl, hf⟩; have hx := ((HX2.out.keep ((Fr.refl _).alloc _)).keep ((Fr.refl _).alloc _)).keep hf; have HX4 := Lib.hid hx; obtain ⟨_, r0, r1, r2, r3, r4⟩ := hx; (try simp only [JV.kd, JV.nm, JV.tx, JV.ls, JV.ms] at r0 r1 r2 r3 r4); have HF4 := Lib.hid (hm.trans hf); clear hf hm)
        | (go_at_call 8; (fail_if_success (have hm2 := HF2.out)); have hm := HF1.out; refine (ccheck_is (JV.mk 2 n0 s l []) B d B' d' _ 0 q ((HV.out.keep (Nat.le_refl _) hm).lo hm.size) HC.out).mono ?_; rintro e w2 ⟨rfl, hf⟩; have hx := HX1.out.keep hf; have HX2 := Lib.hid hx; obtain ⟨_, v0, v1, v2, v3, v4⟩ := hx; (try simp only [JV.kd, JV.nm, JV.tx, JV.ls, JV.ms] at v0 v1 v2 v3 v4); have HF2 := Lib.hid (hm.trans hf); clear hf hm)
        | (go_at_call 7; refine (awake06 _).mono ?_; rintro e w1 ⟨rfl, hf⟩; have hx := (VB.made w (JV.mk 2 n0 s l []) B d B' d').keep hf; have HX1 := Lib.hid hx; obtain ⟨_, x0, x1, x2, x3, x4⟩ := hx; (try simp only [JV.kd, JV.nm, JV.tx, JV.ls, JV.ms] at x0 x1 x2 x3 x4); have HF1 := Lib.hid (((Fr.refl w).alloc _).trans hf); clear hf))
      go_ret
      exact ⟨rfl, HF4.out⟩
    · have z1 : (((m.length : Nat) : Int) == 0) = false := by rw [beq_eq_false_iff_ne]; omega
      have z2 : decide ((2000 : Int) < ((m.length : Nat) : Int)) = true := decide_eq_true (by omega)
      clear hz
      go_enter Try.func4, Try.ntmps4
      go_wp2_with (first
        | (go_at_call 8; have hm := ((HF2.out.alloc (.cells #[.int .i64 2, .int .i64 N, .string ⟨s.toArray⟩, .slice B l.length d, .slice B' m.length d'] 25)).alloc (.cells #[.int .i64 2, .int .i64 n0, .string ⟨#[255]⟩, .slice B l.length d, .slice B' m.length d'] 25)); refine (ccheck_is (JV.mk 2 n0 [255] l m) B d B' d' _ 1 0 ((HVS.out.keep (Nat.le_refl _) hm).lo hm.size) HC2.out).mono ?_; rintro e w4 ⟨rfl, hf⟩; have hx := ((HX2.out.keep ((Fr.refl _).alloc _)).keep ((Fr.refl _).alloc _)).keep hf; have HX4 := Lib.hid hx; obtain ⟨_, r0, r1, r2, r3, r4⟩ := hx; (try simp only [JV.kd, JV.nm, JV.tx, JV.ls, JV.ms] at r0 r1 r2 r3 r4); have HF4 := Lib.hid (hm.trans hf); clear hf hm)
        | (go_at_call 8; (fail_if_success (have hm2 := HF2.out)); have hm := HF1.out; refine (ccheck_is (JV.mk 2 n0 s l m) B d B' d' _ 0 q ((HV.out.keep (Nat.le_refl _) hm).lo hm.size) HC.out).mono ?_; rintro e w2 ⟨rfl, hf⟩; have hx := HX1.out.keep hf; have HX2 := Lib.hid hx; obtain ⟨_, v0, v1, v2, v3, v4⟩ := hx; (try simp only [JV.kd, JV.nm, JV.tx, JV.ls, JV.ms] at v0 v1 v2 v3 v4); have HF2 := Lib.hid (hm.trans hf); clear hf hm)
        | (go_at_call 7; refine (awake06 _).mono ?_; rintro e w1 ⟨rfl, hf⟩; have hx := (VB.made w (JV.mk 2 n0 s l m) B d B' d').keep hf; have HX1 := Lib.hid hx; obtain ⟨_, x0, x1, x2, x3, x4⟩ := hx; (try simp only [JV.kd, JV.nm, JV.tx, JV.ls, JV.ms] at x0 x1 x2 x3 x4); have HF1 := Lib.hid (((Fr.refl w).alloc _).trans hf); clear hf))
      go_ret
      exact ⟨rfl, HF4.out⟩
  · rcases hz with hz | hz
    · obtain rfl : m = [] := List.eq_nil_of_length_eq_zero hz
      go_enter Try.func4, Try.ntmps4
      go_wp2_with (first
        | (go_at_call 8; have hm := ((HF2.out.alloc (.cells #[.int .i64 3, .int .i64 N, .string ⟨s.toArray⟩, .slice B l.length d, .slice B' 0 d'] 25)).alloc (.cells #[.int .i64 3, .int .i64 n0, .string ⟨#[255]⟩, .slice B l.length d, .slice B' 0 d'] 25)); refine (ccheck_is (JV.mk 3 n0 [255] l []) B d B' d' _ 1 0 ((HVS.out.keep (Nat.le_refl _) hm).lo hm.size) HC2.out).mono ?_; rintro e w4 ⟨rfl, hf⟩; have hx := ((HX2.out.keep ((Fr.refl _).alloc _)).keep ((Fr.refl _).alloc _)).keep hf; have HX4 := Lib.hid hx; obtain ⟨_, r0, r1, r2, r3, r4⟩ := hx; (try simp only [JV.kd, JV.nm, JV.tx, JV.ls, JV.ms] at r0 r1 r2 r3 r4); have HF4 := Lib.hid (hm.trans hf); clear hf hm)
        | (go_at_call 8; (fail_if_success (have hm2 := HF2.out)); have hm := HF1.out; refine (ccheck_is (JV.mk 3 n0 s l []) B d B' d' _ 0 q ((HV.out.keep (Nat.le_refl _) hm).lo hm.size) HC.out).mono ?_; rintro e w2 ⟨rfl, hf⟩; have hx := HX1.out.keep hf; have HX2 := Lib.hid hx; obtain ⟨_, v0, v1, v2, v3, v4⟩ := hx; (try simp only [JV.kd, JV.nm, JV.tx, JV.ls, JV.ms] at v0 v1 v2 v3 v4); have HF2 := Lib.hid (hm.trans hf); clear hf hm)
        | (go_at_call 7; refine (awake06 _).mono ?_; rintro e w1 ⟨rfl, hf⟩; have hx := (VB.made w (JV.mk 3 n0 s l []) B d B' d').keep hf; have HX1 := Lib.hid hx; obtain ⟨_, x0, x1, x2, x3, x4⟩ := hx; (try simp only [JV.kd, JV.nm, JV.tx, JV.ls, JV.ms] at x0 x1 x2 x3 x4); have HF1 := Lib.hid (((Fr.refl w).alloc _).trans hf); clear hf))
      go_ret
      exact ⟨rfl, HF4.out⟩
    · have z1 : (((m.length : Nat) : Int) == 0) = false := by rw [beq_eq_false_iff_ne]; omega
      have z2 : decide ((2000 : Int) < ((m.length : Nat) : Int)) = true := decide_eq_true (by omega)
      clear hz
      go_enter Try.func4, Try.ntmps4
      go_wp2_with (first
        | (go_at_call 8; have hm := ((HF2.out.alloc (.cells #[.int .i64 3, .int .i64 N, .string ⟨s.toArray⟩, .slice B l.length d, .slice B' m.length d'] 25)).alloc (.cells #[.int .i64 3, .int .i64 n0, .string ⟨#[255]⟩, .slice B l.length d, .slice B' m.length d'] 25)); refine (ccheck_is (JV.mk 3 n0 [255] l m) B d B' d' _ 1 0 ((HVS.out.keep (Nat.le_refl _) hm).lo hm.size) HC2.out).mono ?_; rintro e w4 ⟨rfl, hf⟩; have hx := ((HX2.out.keep ((Fr.refl _).alloc _)).keep ((Fr.refl _).alloc _)).keep hf; have HX4 := Lib.hid hx; obtain ⟨_, r0, r1, r2, r3, r4⟩ := hx; (try simp only [JV.kd, JV.nm, JV.tx, JV.ls, JV.ms] at r0 r1 r2 r3 r4); have HF4 := Lib.hid (hm.trans hf); clear hf hm)
        | (go_at_call 8; (fail_if_success (have hm2 := HF2.out)); have hm := HF1.out; refine (ccheck_is (JV.mk 3 n0 s l m) B d B' d' _ 0 q ((HV.out.keep (Nat.le_refl _) hm).lo hm.size) HC.out).mono ?_; rintro e w2 ⟨rfl, hf⟩; have hx := HX1.out.keep hf; have HX2 := Lib.hid hx; obtain ⟨_, v0, v1, v2, v3, v4⟩ := hx; (try simp only [JV.kd, JV.nm, JV.tx, JV.ls, JV.ms] at v0 v1 v2 v3 v4); have HF2 := Lib.hid (hm.trans hf); clear hf hm)
        | (go_at_call 7; refine (awake06 _).mono ?_; rintro e w1 ⟨rfl, hf⟩; have hx := (VB.made w (JV.mk 3 n0 s l m) B d B' d').keep hf; have HX1 := Lib.hid hx; obtain ⟨_, x0, x1, x2, x3, x4⟩ := hx; (try simp only [JV.kd, JV.nm, JV.tx, JV.ls, JV.ms] at x0 x1 x2 x3 x4); have HF1 := Lib.hid (((Fr.refl w).alloc _).trans hf); clear hf))
      go_ret
      exact ⟨rfl, HF4.out⟩
  · have q1 : (k == 2) = false := by rw [beq_eq_false_iff_ne]; exact k1
    have q2 : (k == 3) = false := by rw [beq_eq_false_iff_ne]; exact k2
    rcases hz with hz | hz
    · obtain rfl : m = [] := List.eq_nil_of_length_eq_zero hz
      go_enter Try.func4, Try.ntmps4
      go_wp2_with (first
        | (go_at_call 8; have hm := ((HF2.out.alloc (.cells #[.int .i64 k, .int .i64 0, .string ⟨s.toArray⟩, .slice B l.length d, .slice B' 0 d'] 25)).alloc (.cells #[.int .i64 k, .int .i64 n0, .string ⟨#[255]⟩, .slice B l.length d, .slice B' 0 d'] 25)); refine (ccheck_is (JV.mk k n0 [255] l []) B d B' d' _ 1 0 ((HVS.out.keep (Nat.le_refl _) hm).lo hm.size) HC2.out).mono ?_; rintro e w4 ⟨rfl, hf⟩; have hx := ((HX2.out.keep ((Fr.refl _).alloc _)).keep ((Fr.refl _).alloc _)).keep hf; have HX4 := Lib.hid hx; obtain ⟨_, r0, r1, r2, r3, r4⟩ := hx; (try simp only [JV.kd, JV.nm, JV.tx, JV.ls, JV.ms] at r0 r1 r2 r3 r4); have HF4 := Lib.hid (hm.trans hf); clear hf hm)
        | (go_at_call 8; (fail_if_success (have hm2 := HF2.out)); have hm := HF1.out; refine (ccheck_is (JV.mk k n0 s l []) B d B' d' _ 0 q ((HV.out.keep (Nat.le_refl _) hm).lo hm.size) HC.out).mono ?_; rintro e w2 ⟨rfl, hf⟩; have hx := HX1.out.keep hf; have HX2 := Lib.hid hx; obtain ⟨_, v0, v1, v2, v3, v4⟩ := hx; (try simp only [JV.kd, JV.nm, JV.tx, JV.ls, JV.ms] at v0 v1 v2 v3 v4); have HF2 := Lib.hid (hm.trans hf); clear hf hm)
        | (go_at_call 7; refine (awake06 _).mono ?_; rintro e w1 ⟨rfl, hf⟩; have hx := (VB.made w (JV.mk k n0 s l []) B d B' d').keep hf; have HX1 := Lib.hid hx; obtain ⟨_, x0, x1, x2, x3, x4⟩ := hx; (try simp only [JV.kd, JV.nm, JV.tx, JV.ls, JV.ms] at x0 x1 x2 x3 x4); have HF1 := Lib.hid (((Fr.refl w).alloc _).trans hf); clear hf))
      go_ret
      exact ⟨rfl, HF4.out⟩
    · have z1 : (((m.length : Nat) : Int) == 0) = false := by rw [beq_eq_false_iff_ne]; omega
      have z2 : decide ((2000 : Int) < ((m.length : Nat) : Int)) = true := decide_eq_true (by omega)
      clear hz
      go_enter Try.func4, Try.ntmps4
      go_wp2_with (first
        | (go_at_call 8; have hm := ((HF2.out.alloc (.cells #[.int .i64 k, .int .i64 0, .string ⟨s.toArray⟩, .slice B l.length d, .slice B' m.length d'] 25)).alloc (.cells #[.int .i64 k, .int .i64 n0, .string ⟨#[255]⟩, .slice B l.length d, .slice B' m.length d'] 25)); refine (ccheck_is (JV.mk k n0 [255] l m) B d B' d' _ 1 0 ((HVS.out.keep (Nat.le_refl _) hm).lo hm.size) HC2.out).mono ?_; rintro e w4 ⟨rfl, hf⟩; have hx := ((HX2.out.keep ((Fr.refl _).alloc _)).keep ((Fr.refl _).alloc _)).keep hf; have HX4 := Lib.hid hx; obtain ⟨_, r0, r1, r2, r3, r4⟩ := hx; (try simp only [JV.kd, JV.nm, JV.tx, JV.ls, JV.ms] at r0 r1 r2 r3 r4); have HF4 := Lib.hid (hm.trans hf); clear hf hm)
        | (go_at_call 8; (fail_if_success (have hm2 := HF2.out)); have hm := HF1.out; refine (ccheck_is (JV.mk k n0 s l m) B d B' d' _ 0 q ((HV.out.keep (Nat.le_refl _) hm).lo hm.size) HC.out).mono ?_; rintro e w2 ⟨rfl, hf⟩; have hx := HX1.out.keep hf; have HX2 := Lib.hid hx; obtain ⟨_, v0, v1, v2, v3, v4⟩ := hx; (try simp only [JV.kd, JV.nm, JV.tx, JV.ls, JV.ms] at v0 v1 v2 v3 v4); have HF2 := Lib.hid (hm.trans hf); clear hf hm)
        | (go_at_call 7; refine (awake06 _).mono ?_; rintro e w1 ⟨rfl, hf⟩; have hx := (VB.made w (JV.mk k n0 s l m) B d B' d').keep hf; have HX1 := Lib.hid hx; obtain ⟨_, x0, x1, x2, x3, x4⟩ := hx; (try simp only [JV.kd, JV.nm, JV.tx, JV.ls, JV.ms] at x0 x1 x2 x3 x4); have HF1 := Lib.hid (((Fr.refl w).alloc _).trans hf); clear hf))
      go_ret
      exact ⟨rfl, HF4.out⟩
  · have q1 : (k == 2) = false := by rw [beq_eq_false_iff_ne]; exact k1
    have q2 : (k == 3) = false := by rw [beq_eq_false_iff_ne]; exact k2
    have q3 : (N != 0) = true := by rw [bne_iff_ne]; exact k3
    have hk2 : Hid (k ≠ 2) := k1
    have hk3 : Hid (k ≠ 3) := k2
    have hN0 : Hid (N ≠ 0) := k3
    clear k1 k2 k3
    rcases hz with hz | hz
    · obtain rfl : m = [] := List.eq_nil_of_length_eq_zero hz
      go_enter Try.func4, Try.ntmps4
      go_wp2_with (first
        | (go_at_call 8; have hm := HF3.out; refine (ccheck_is (JV.mk k n0 [255] l []) B d B' d' _ 1 0 ((HVS.out.keep (Nat.le_refl _) hm).lo hm.size) HC2.out).mono ?_; rintro e w4 ⟨rfl, hf⟩; have hx := HX3.out.keep hf; have HX4 := Lib.hid hx; obtain ⟨_, r0, r1, r2, r3, r4⟩ := hx; (try simp only [JV.kd, JV.nm, JV.tx, JV.ls, JV.ms] at r0 r1 r2 r3 r4); have HF4 := Lib.hid (hm.trans hf); clear hf hm)
        | (go_at_call 8; have hm := HF2.out; refine (ccheck_is (JV.mk k N s l []) B d B' d' _ 1 0 ((HVN.out.keep (Nat.le_refl _) ((hm.alloc _).alloc _)).lo ((hm.alloc _).alloc _).size) (HC1.out hk2.out hk3.out hN0.out)).mono ?_; rintro e w3 ⟨rfl, hf⟩; have hx := ((HX2.out.keep ((Fr.refl _).alloc _)).keep ((Fr.refl _).alloc _)).keep hf; have HX3 := Lib.hid hx; obtain ⟨_, s0, s1, s2, s3, s4⟩ := hx; (try simp only [JV.kd, JV.nm, JV.tx, JV.ls, JV.ms] at s0 s1 s2 s3 s4); have hy := VB.made2 w2 _ (JV.mk k n0 [255] l []) B d B' d' hf; have HY3 := Lib.hid hy; obtain ⟨_, t0, t1, t2, t3, t4⟩ := hy; (try simp only [JV.kd, JV.nm, JV.tx, JV.ls, JV.ms] at t0 t1 t2 t3 t4); have HF3 := Lib.hid (((hm.alloc _).alloc _).trans hf); clear hf hm)
        | (go_at_call 8; (fail_if_success (have hm2 := HF2.out)); have hm := HF1.out; refine (ccheck_is (JV.mk k n0 s l []) B d B' d' _ 0 q ((HV.out.keep (Nat.le_refl _) hm).lo hm.size) HC.out).mono ?_; rintro e w2 ⟨rfl, hf⟩; have hx := HX1.out.keep hf; have HX2 := Lib.hid hx; obtain ⟨_, v0, v1, v2, v3, v4⟩ := hx; (try simp only [JV.kd, JV.nm, JV.tx, JV.ls, JV.ms] at v0 v1 v2 v3 v4); have HF2 := Lib.hid (hm.trans hf); clear hf hm)
        | (go_at_call 7; refine (awake06 _).mono ?_; rintro e w1 ⟨rfl, hf⟩; have hx := (VB.made w (JV.mk k n0 s l []) B d B' d').keep hf; have HX1 := Lib.hid hx; obtain ⟨_, x0, x1, x2, x3, x4⟩ := hx; (try simp only [JV.kd, JV.nm, JV.tx, JV.ls, JV.ms] at x0 x1 x2 x3 x4); have HF1 := Lib.hid (((Fr.refl w).alloc _).trans hf); clear hf))
      go_ret
      exact ⟨rfl, HF4.out⟩
    · have z1 : (((m.length : Nat) : Int) == 0) = false := by rw [beq_eq_false_iff_ne]; omega
      have z2 : decide ((2000 : Int) < ((m.length : Nat) : Int)) = true := decide_eq_true (by omega)
      clear hz
      go_enter Try.func4, Try.ntmps4
      go_wp2_with (first
        | (go_at_call 8; have hm := HF3.out; refine (ccheck_is (JV.mk k n0 [255] l m) B d B' d' _ 1 0 ((HVS.out.keep (Nat.le_refl _) hm).lo hm.size) HC2.out).mono ?_; rintro e w4 ⟨rfl, hf⟩; have hx := HX3.out.keep hf; have HX4 := Lib.hid hx; obtain ⟨_, r0, r1, r2, r3, r4⟩ := hx; (try simp only [JV.kd, JV.nm, JV.tx, JV.ls, JV.ms] at r0 r1 r2 r3 r4); have HF4 := Lib.hid (hm.trans hf); clear hf hm)
        | (go_at_call 8; have hm := HF2.out; refine (ccheck_is (JV.mk k N s l m) B d B' d' _ 1 0 ((HVN.out.keep (Nat.le_refl _) ((hm.alloc _).alloc _)).lo ((hm.alloc _).alloc _).size) (HC1.out hk2.out hk3.out hN0.out)).mono ?_; rintro e w3 ⟨rfl, hf⟩; have hx := ((HX2.out.keep ((Fr.refl _).alloc _)).keep ((Fr.refl _).alloc _)).keep hf; have HX3 := Lib.hid hx; obtain ⟨_, s0, s1, s2, s3, s4⟩ := hx; (try simp only [JV.kd, JV.nm, JV.tx, JV.ls, JV.ms] at s0 s1 s2 s3 s4); have hy := VB.made2 w2 _ (JV.mk k n0 [255] l m) B d B' d' hf; have HY3 := Lib.hid hy; obtain ⟨_, t0, t1, t2, t3, t4⟩ := hy; (try simp only [JV.kd, JV.nm, JV.tx, JV.ls, JV.ms] at t0 t1 t2 t3 t4); have HF3 := Lib.hid (((hm.alloc _).alloc _).trans hf); clear hf hm)
        | (go_at_call 8; (fail_if_success (have hm2 := HF2.out)); have hm := HF1.out; refine (ccheck_is (JV.mk k n0 s l m) B d B' d' _ 0 q ((HV.out.keep (Nat.le_refl _) hm).lo hm.size) HC.out).mono ?_; rintro e w2 ⟨rfl, hf⟩; have hx := HX1.out.keep hf; have HX2 := Lib.hid hx; obtain ⟨_, v0, v1, v2, v3, v4⟩ := hx; (try simp only [JV.kd, JV.nm, JV.tx, JV.ls, JV.ms] at v0 v1 v2 v3 v4); have HF2 := Lib.hid (hm.trans hf); clear hf hm)
        | (go_at_call 7; refine (awake06 _).mono ?_; rintro e w1 ⟨rfl, hf⟩; have hx := (VB.made w (JV.mk k n0 s l m) B d B' d').keep hf; have HX1 := Lib.hid hx; obtain ⟨_, x0, x1, x2, x3, x4⟩ := hx; (try simp only [JV.kd, JV.nm, JV.tx, JV.ls, JV.ms] at x0 x1 x2 x3 x4); have HF1 := Lib.hid (((Fr.refl w).alloc _).trans hf); clear hf))
      go_ret
      exact ⟨rfl, HF4.out⟩

theorem Mbs.frx2 {w w' : World} {R base : Nat} {v : Value} {xs : List (List UInt8 × Value)} (h : Mbs w base v xs) (hR : R < base) (hf : FrX R w w') : Mbs w' base v xs := by
  refine ⟨⟨h.1.1, ?_⟩, h.2⟩
  rcases h.1.2 with hn | ⟨g, cap, cur, rfl, hb, hg, rest⟩
  · exact .inl hn
  · exact .inr ⟨g, cap, cur, rfl, hb, (hf.blk (Array.getElem?_eq_some_iff.1 hg).1 (by omega)).trans hg, rest⟩
theorem Mbs.fr {a w w' : World} {base : Nat} {v : Value} {xs : List (List UInt8 × Value)} (h : Mbs w base v xs) (hb : a.heap.size ≤ base) (hf : Fr a w) (hg : w.grownBy w' v.ownBlock) : Fr a w' := by
  refine Below.grown hf hg hf.size (fun j hj => ?_)
  rcases h.1.2 with ⟨rfl, _⟩ | ⟨g, cap, cur, rfl, hb2, _⟩
  · cases hj
  · obtain rfl : j = g := (Option.some.inj hj).symm
    omega
theorem spoilt_y {w w8 : World} {base : Nat} {a : Option Addr} {n c : Nat} {xs : List (List UInt8 × Value)} {m : List (List UInt8 × JV)} {x : Value} {p0 : List UInt8 × JV} (h : Mbs w8 base (.slice a n c) (([] ++ xs) ++ [(p0.1, x)]))
    (hl : m.length = xs.length) (hz : m.length ≤ 2000) (hb : base < w8.heap.size ∨ True) (hf : Fr w w8) (he : ∀ i (h1 : i < xs.length) (h2 : i < m.length), xs[i].1 = m[i].1 ∧ m[i].1.length ≤ 140737488355328 ∧ InV w (Lo w.heap.size) m[i].2 xs[i].2)
    (hv0 : InV w (Lo w.heap.size) p0.2 x) (hn : p0.1.length ≤ 140737488355328) :
    n = (m ++ [p0]).length ∧ InV w8 (Lo w8.heap.size) (JV.mapV (m ++ [p0])) (.agg #[.int .i64 6, .int .i64 0, .string ⟨#[]⟩, .slice none 0 0, .slice a n c]) := by
  refine ⟨?_, h.inV (by simp; omega) (by simp; omega) (fun g _ hg => hg) (fun i h1 h2 => ?_)⟩
  · rcases h.form with ⟨_, e2⟩ | ⟨g, cap, e1, _⟩
    · simp at e2
    · injection e1 with _ e3 _
      rw [e3]; simp; omega
  · by_cases hi : i < m.length
    · have hi2 : i < xs.length := by omega
      have e1 : (([] ++ xs) ++ [(p0.1, x)])[i] = xs[i] := by simp [List.getElem_append_left, hi2]
      have e2 : (m ++ [p0])[i] = m[i] := by simp [List.getElem_append_left, hi]
      rw [e1, e2]
      obtain ⟨a1, a2, a3⟩ := he i hi2 hi
      exact ⟨a1, a2, (a3.keep (Nat.le_refl _) hf).lo hf.size⟩
    · obtain rfl : i = m.length := by simp at h2; omega
      have e1 : (([] ++ xs) ++ [(p0.1, x)])[m.length] = (p0.1, x) := by simp [hl]
      have e2 : (m ++ [p0])[m.length] = p0 := by simp
      rw [e1, e2]
      exact ⟨rfl, hn, (hv0.keep (Nat.le_refl _) hf).lo hf.size⟩

theorem mcs_lit (w : World) (nm : List UInt8) (u : JV) (B : Option Addr) (d : Nat) (B' : Option Addr) (d' : Nat) (t : TypeId) : ∀ j x, (mcs [(nm, vA u B d B' d')])[j]? = some x →
    (w.alloc (.cells #[.string ⟨nm.toArray⟩, .int .i64 u.kd, .int .i64 u.nm, .string ⟨u.tx.toArray⟩, .slice B u.ls.length d, .slice B' u.ms.length d'] t)).cell? ⟨w.heap.size, 0 + j, none⟩ = some x := by
  intro j x hx
  rw [World.cell?_alloc_at _ _ _ _ rfl, Nat.zero_add, ← Array.getElem?_toList]
  exact hx

set_option maxHeartbeats 2000000 in
set_option maxRecDepth 100000 in
theorem spoilt_more (k n0 : Int) (s : List UInt8) (l : List JV) (m : List (List UInt8 × JV)) (B : Option Addr) (d : Nat) (B' : Option Addr) (d' : Nat) (N : Int) (w : World) (hv : InV w (Lo w.heap.size) (.mk k n0 s l m) (vA (.mk k n0 s l m) B d B' d')) (hN1 : -9223372036854775808 ≤ N) (hN2 : N ≤ 9223372036854775807)
    (hl63 : l.length ≤ 140737488355328) (hm63 : m.length ≤ 140737488355328) (q : Nat) (hc : JV.chk (.mk k n0 s l m) 1 0 = (0, q)) (hz0 : 0 < m.length) (hz : m.length ≤ 2000) (hms : MsC w (Lo w.heap.size) B' m) :
    Calls Try.prog 4 #[vA (.mk k n0 s l m) B d B' d', .int .i64 N] w fun e w' => e = .returned (.bool true) ∧ Fr w w' := by
  have HV := Lib.hid hv
  have HC := Lib.hid hc
  have hf0 := hv.facts
  have hn1 : -9223372036854775808 ≤ n0 := hf0.1.1
  have hn2 : n0 ≤ 9223372036854775807 := hf0.1.2
  have HVN : Hid (InV w (Lo w.heap.size) (.mk k N s l m) (vA (.mk k N s l m) B d B' d')) := hv.setN N s hN1 hN2 hf0.2.2.1
  have HVS : Hid (InV w (Lo w.heap.size) (.mk k n0 [255] l m) (vA (.mk k n0 [255] l m) B d B' d')) := hv.setN n0 [255] hn1 hn2 (by simp)
  have HC2 : Hid (JV.chk (.mk k n0 [255] l m) 1 0 = (1, 0)) := chk_bad (spoil_s k n0 l m)
  have HC1 : Hid (k ≠ 2 → k ≠ 3 → N ≠ 0 → JV.chk (.mk k N s l m) 1 0 = (1, 0)) := fun h2 h3 hn => chk_bad (spoil_n k N s l m h2 h3 hn)
  clear hc hf0
  show Calls Try.prog _ #[.agg #[.int .i64 k, .int .i64 n0, .string ⟨s.toArray⟩, .slice B l.length d, .slice B' m.length d'], .int .i64 N] _ _
  obtain ⟨bb, oo, C0, e0, C0', e0', rfl, hbb, hnl0, a0, ⟨a1, a2, a3, a4, a5⟩, hiv0⟩ := hms 0 hz0
  obtain ⟨xs, hxl, hx5, hxe, hxc⟩ := hms.row
  rw [Nat.zero_mul, Nat.add_zero] at a0 a1 a2 a3 a4 a5
  obtain ⟨p0, hp0⟩ : ∃ p0, m[0] = p0 := ⟨_, rfl⟩
  rw [hp0] at a0 a1 a2 a3 a4 a5 hnl0 hiv0
  have HP0 := Lib.hid hp0
  have HBB : Hid (bb < w.heap.size) := hbb
  have H5 := Lib.hid hx5
  have HXE := Lib.hid hxe
  have HXC := Lib.hid hxc
  have HXL : Hid (m.length = xs.length) := hxl.symm
  have HIV0 := Lib.hid hiv0
  have HA := Lib.hid (And.intro a0 (And.intro a1 (And.intro a2 (And.intro a3 (And.intro a4 a5)))))
  have HSP := Lib.hid (spoil_m m hz0 hz)
  clear a0 a1 a2 a3 a4 a5 hbb hx5 hxe hxc hms hiv0 hp0
  clear hxl
  have hcase : k = 2 ∨ k = 3 ∨ (k ≠ 2 ∧ k ≠ 3 ∧ N = 0) ∨ (k ≠ 2 ∧ k ≠ 3 ∧ N ≠ 0) := by omega
  clear hv
  have z1 : (((m.length : Nat) : Int) == 0) = false := by rw [beq_eq_false_iff_ne]; omega
  have z2 : decide ((2000 : Int) < ((m.length : Nat) : Int)) = false := decide_eq_false (by omega)
  rcases hcase with rfl | rfl | ⟨k1, k2, rfl⟩ | ⟨k1, k2, k3⟩
  · go_enter Try.func4, Try.ntmps4
    go_wp2_with (first
      | (at_builtin; have hm := HF4.out; refine wpl_mb rfl (.tmp 58) (.tmp 60) rfl (w4.heap.size + 1) (by simp) _ [] rfl (Mbs.none_ _ _) bb oo d' m.length xs rfl HXL.out H5.out (fun j u hu => (((hm.alloc _).cell HBB.out).trans (HXC.out j u hu))) (by have h9 := HXL.out; simp only [List.length_nil, Nat.zero_add]; omega) ?_; intro v5 w5 hm5 hg5 hk5; obtain ⟨a5, n5, c5, rfl⟩ := hm5.is_slice; have hf5 := Mbs.first hg5; have hyb := heap_made w4 #[.int .i64 6, .int .i64 0, .string ⟨#[]⟩, .slice none 0 0, .slice none 0 0] 25; have hyo := hk5.2 _ _ _ _ hyb (by decide); have q0 : w5.cell? ⟨w4.heap.size, 0, none⟩ = some (.int .i64 6) := (by simp only [World.cell?, hyo]; rfl); have qa : w5.cell? ⟨w4.heap.size, 1, none⟩ = some (.int .i64 0) := (by simp only [World.cell?, hyo]; rfl); have qb : w5.cell? ⟨w4.heap.size, 2, none⟩ = some (.string ⟨#[]⟩) := (by simp only [World.cell?, hyo]; rfl); have qc : w5.cell? ⟨w4.heap.size, 3, none⟩ = some (.slice none 0 0) := (by simp only [World.cell?, hyo]; rfl); have q4 : w5.cell? ⟨w4.heap.size, 4, none⟩ = some (.slice none 0 0) := (by simp only [World.cell?, hyo]; rfl); have qz : w5.frozen? ⟨w4.heap.size, 4, none⟩ = false := (by simp only [World.frozen?, hyo]; rfl); have hx5 := (HX4.out.keep ((Fr.refl _).alloc _)).keep hf5; have HX5 := Lib.hid hx5; have HLT := Lib.hid HX4.out.1; obtain ⟨_, u0, u1, u2, u3, u4⟩ := hx5; (try simp only [JV.kd, JV.nm, JV.tx, JV.ls, JV.ms] at u0 u1 u2 u3 u4); have HYO := Lib.hid hyo; have HM5 := Lib.hid hm5; have HF5 := Lib.hid ((hm.alloc _).trans hf5); clear hm5 hg5 hk5 hf5 hm hyo hyb)
      | (go_at_call 8; have hm := ((HF2.out.alloc (.cells #[.int .i64 2, .int .i64 N, .string ⟨s.toArray⟩, .slice B l.length d, .slice (some ⟨bb, oo, none⟩) m.length d'] 25)).alloc (.cells #[.int .i64 2, .int .i64 n0, .string ⟨#[255]⟩, .slice B l.length d, .slice (some ⟨bb, oo, none⟩) m.length d'] 25)); refine (ccheck_is (JV.mk 2 n0 [255] l m) B d (some ⟨bb, oo, none⟩) d' _ 1 0 ((HVS.out.keep (Nat.le_refl _) hm).lo hm.size) HC2.out).mono ?_; rintro e w4 ⟨rfl, hf⟩; have hx := ((HX2.out.keep ((Fr.refl _).alloc _)).keep ((Fr.refl _).alloc _)).keep hf; have HX4 := Lib.hid hx; obtain ⟨_, r0, r1, r2, r3, r4⟩ := hx; (try simp only [JV.kd, JV.nm, JV.tx, JV.ls, JV.ms] at r0 r1 r2 r3 r4); have HF4 := Lib.hid (hm.trans hf); clear hf hm)
      | (go_at_call 8; (fail_if_success (have hm2 := HF2.out)); have hm := HF1.out; refine (ccheck_is (JV.mk 2 n0 s l m) B d (some ⟨bb, oo, none⟩) d' _ 0 q ((HV.out.keep (Nat.le_refl _) hm).lo hm.size) HC.out).mono ?_; rintro e w2 ⟨rfl, hf⟩; have hx := HX1.out.keep hf; have HX2 := Lib.hid hx; obtain ⟨_, v0, v1, v2, v3, v4⟩ := hx; (try simp only [JV.kd, JV.nm, JV.tx, JV.ls, JV.ms] at v0 v1 v2 v3 v4); have HF2 := Lib.hid (hm.trans hf); clear hf hm)
      | (go_at_call 7; refine (awake06 _).mono ?_; rintro e w1 ⟨rfl, hf⟩; have hx := (VB.made w (JV.mk 2 n0 s l m) B d (some ⟨bb, oo, none⟩) d').keep hf; have HX1 := Lib.hid hx; obtain ⟨_, x0, x1, x2, x3, x4⟩ := hx; (try simp only [JV.kd, JV.nm, JV.tx, JV.ls, JV.ms] at x0 x1 x2 x3 x4); have HF1 := Lib.hid (((Fr.refl w).alloc _).trans hf); clear hf))
    obtain ⟨w6, hw6⟩ : ∃ w6, w5.setCell ⟨w4.heap.size, 4, none⟩ (.slice a5 n5 c5) = w6 := ⟨_, rfl⟩
    have hX : FrX w4.heap.size w5 w6 := hw6 ▸ (FrX.refl _ _).setCell rfl _
    have HF6 : Hid (Fr w w6) := HF5.out.frx hX HF4.out.size
    have HM6 : Hid (Mbs w6 (w4.heap.size + 1) (.slice a5 n5 c5) ([] ++ xs)) := HM5.out.frx2 (Nat.lt_succ_self _) hX
    have HYO6 : Hid (w6.heap[w4.heap.size]? = some (.cells #[.int .i64 6, .int .i64 0, .string ⟨#[]⟩, .slice none 0 0, .slice a5 n5 c5] 25 (0, 0))) := Lib.hid (by
      rw [← hw6]; simp [World.setCell, Array.getElem?_modify, HYO.out])
    have b4 : w6.cell? ⟨w4.heap.size, 4, none⟩ = some (.slice a5 n5 c5) := (by simp only [World.cell?, HYO6.out]; rfl)
    have hvx : w6.cell? ⟨w.heap.size, 4, none⟩ = some (.slice (some ⟨bb, oo, none⟩) m.length d') := (hX.cell HX5.out.1 (Nat.ne_of_lt HLT.out)).trans u4
    obtain ⟨g0, g1, g2, g3, g4, g5⟩ := HA.out
    have g0 := (HF6.out.cell HBB.out).trans g0
    have g1 := (HF6.out.cell HBB.out).trans g1
    have g2 := (HF6.out.cell HBB.out).trans g2
    have g3 := (HF6.out.cell HBB.out).trans g3
    have g4 := (HF6.out.cell HBB.out).trans g4
    have g5 := (HF6.out.cell HBB.out).trans g5
    have z3 : decide ((0 : Int) < ((m.length : Nat) : Int)) = true := decide_eq_true (by omega)
    have HLE : Hid (w4.heap.size + 1 ≤ (w6.alloc (.cells #[.string ⟨p0.1.toArray⟩, .int .i64 p0.2.kd, .int .i64 p0.2.nm, .string ⟨p0.2.tx.toArray⟩, .slice C0 p0.2.ls.length e0, .slice C0' p0.2.ms.length e0'] 30)).drew.heap.size) := Lib.hid (Nat.le_trans (Array.getElem?_eq_some_iff.1 HYO6.out).1 (((Fr.refl w6).alloc _).drew).size)
    have HL4 : Hid (w.heap.size ≤ w4.heap.size + 1) := Lib.hid (Nat.le_succ_of_le HF4.out.size)
    have HSZ : Hid ((([] ++ xs).length + 1) * 96 ≤ 140737488355328) := Lib.hid (by have h9 := HXL.out; simp only [List.length_append, List.length_nil, Nat.zero_add]; omega)
    have lt1 : w4.heap.size < w6.heap.size := (Array.getElem?_eq_some_iff.1 HYO6.out).1
    have lt2 : w.heap.size < w6.heap.size := Nat.lt_trans HLT.out lt1
    have lt3 : bb < w6.heap.size := Nat.lt_of_lt_of_le HBB.out HF6.out.size
    rw [hw6]
    clear hw6 hX u0 u1 u2 u3 u4 q0 qa qb qc q4 qz
    go_region_law (go_loud (refine step_mb (by rfl) (.tmp 64) (.tmp 69) (by rfl) (w4.heap.size + 1) HLE.out _ ([] ++ xs) (by rfl) (HM6.out.keep ((Fr.refl _).alloc _).drew) w6.heap.size 0 1 1 [(p0.1, vA p0.2 C0 e0 C0' e0')] (by rfl) (by rfl) (by simp only [List.mem_singleton, forall_eq]; exact five_vA _ _ _ _ _) (mcs_lit w6 p0.1 p0.2 C0 e0 C0' e0' _) HSZ.out ?_; intro v7 w7 hm7 hg7 hk7; obtain ⟨a7, n7, c7, rfl⟩ := hm7.is_slice; have hyo := hk7.2 _ _ _ _ ((Below.block ((Fr.refl w6).alloc _).drew w4.heap.size (Array.getElem?_eq_some_iff.1 HYO6.out).1).trans HYO6.out) (by decide); have HF7 := Lib.hid (Mbs.fr (HM6.out.keep ((Fr.refl _).alloc _).drew) HL4.out (HF6.out.alloc _).drew hg7); have HM7 := Lib.hid hm7; have q4 : w7.cell? ⟨w4.heap.size, 4, none⟩ = some (.slice a5 n5 c5) := (by simp only [World.cell?, hyo]; rfl); have qz : w7.frozen? ⟨w4.heap.size, 4, none⟩ = false := (by simp only [World.frozen?, hyo]; rfl); have HYO7 := Lib.hid hyo; clear hm7 hg7 hk7 hyo))
    all_goals
      obtain ⟨w8, hw8⟩ : ∃ w8, w7.setCell ⟨w4.heap.size, 4, none⟩ (.slice a7 n7 c7) = w8 := ⟨_, rfl⟩
      have hX : FrX w4.heap.size w7 w8 := hw8 ▸ (FrX.refl _ _).setCell rfl _
      have HF8 : Hid (Fr w w8) := HF7.out.frx hX HF4.out.size
      have hm8 : Mbs w8 (w4.heap.size + 1) (.slice a7 n7 c7) (([] ++ xs) ++ [(p0.1, vA p0.2 C0 e0 C0' e0')]) := HM7.out.frx2 (Nat.lt_succ_self _) hX
      have HYO8 : Hid (w8.heap[w4.heap.size]? = some (.cells #[.int .i64 6, .int .i64 0, .string ⟨#[]⟩, .slice none 0 0, .slice a7 n7 c7] 25 (0, 0))) := Lib.hid (by
        rw [← hw8]; simp [World.setCell, Array.getElem?_modify, HYO7.out])
      obtain ⟨hny, hvy⟩ := spoilt_y hm8 HXL.out (by omega) (.inr trivial) HF8.out HXE.out HIV0.out hnl0
      have b0 : w8.cell? ⟨w4.heap.size, 0, none⟩ = some (.int .i64 6) := (by simp only [World.cell?, HYO8.out]; rfl)
      have b1 : w8.cell? ⟨w4.heap.size, 1, none⟩ = some (.int .i64 0) := (by simp only [World.cell?, HYO8.out]; rfl)
      have b2 : w8.cell? ⟨w4.heap.size, 2, none⟩ = some (.string ⟨#[]⟩) := (by simp only [World.cell?, HYO8.out]; rfl)
      have b3 : w8.cell? ⟨w4.heap.size, 3, none⟩ = some (.slice none 0 0) := (by simp only [World.cell?, HYO8.out]; rfl)
      have b4 : w8.cell? ⟨w4.heap.size, 4, none⟩ = some (.slice a7 n7 c7) := (by simp only [World.cell?, HYO8.out]; rfl)
      rw [hw8]
      have hcy : JV.chk (JV.mapV (m ++ [p0])) 1 0 = (1, 0) := chk_bad (by have h9 := HSP.out; rw [HP0.out] at h9; exact h9)
      have HVY := Lib.hid hvy
      have HCY := Lib.hid hcy
      have HNY := Lib.hid hny
      clear hw8 hX hm8 hvy hcy hny
      go_wp2_with (go_at_call 8; obtain rfl := HNY.out; refine (ccheck_is (JV.mapV (m ++ [p0])) none 0 a7 c7 _ 1 0 HVY.out HCY.out).mono ?_; rintro e w9 ⟨rfl, hf⟩; have HF9 := Lib.hid (HF8.out.trans hf); clear hf)
      go_ret
      exact ⟨rfl, HF9.out⟩
  · go_enter Try.func4, Try.ntmps4
    go_wp2_with (first
      | (at_builtin; have hm := HF4.out; refine wpl_mb rfl (.tmp 58) (.tmp 60) rfl (w4.heap.size + 1) (by simp) _ [] rfl (Mbs.none_ _ _) bb oo d' m.length xs rfl HXL.out H5.out (fun j u hu => (((hm.alloc _).cell HBB.out).trans (HXC.out j u hu))) (by have h9 := HXL.out; simp only [List.length_nil, Nat.zero_add]; omega) ?_; intro v5 w5 hm5 hg5 hk5; obtain ⟨a5, n5, c5, rfl⟩ := hm5.is_slice; have hf5 := Mbs.first hg5; have hyb := heap_made w4 #[.int .i64 6, .int .i64 0, .string ⟨#[]⟩, .slice none 0 0, .slice none 0 0] 25; have hyo := hk5.2 _ _ _ _ hyb (by decide); have q0 : w5.cell? ⟨w4.heap.size, 0, none⟩ = some (.int .i64 6) := (by simp only [World.cell?, hyo]; rfl); have qa : w5.cell? ⟨w4.heap.size, 1, none⟩ = some (.int .i64 0) := (by simp only [World.cell?, hyo]; rfl); have qb : w5.cell? ⟨w4.heap.size, 2, none⟩ = some (.string ⟨#[]⟩) := (by simp only [World.cell?, hyo]; rfl); have qc : w5.cell? ⟨w4.heap.size, 3, none⟩ = some (.slice none 0 0) := (by simp only [World.cell?, hyo]; rfl); have q4 : w5.cell? ⟨w4.heap.size, 4, none⟩ = some (.slice none 0 0) := (by simp only [World.cell?, hyo]; rfl); have qz : w5.frozen? ⟨w4.heap.size, 4, none⟩ = false := (by simp only [World.frozen?, hyo]; rfl); have hx5 := (HX4.out.keep ((Fr.refl _).alloc _)).keep hf5; have HX5 := Lib.hid hx5; have HLT := Lib.hid HX4.out.1; obtain ⟨_, u0, u1, u2, u3, u4⟩ := hx5; (try simp only [JV.kd, JV.nm, JV.tx, JV.ls, JV.ms] at u0 u1 u2 u3 u4); have HYO := Lib.hid hyo; have HM5 := Lib.hid hm5; have HF5 := Lib.hid ((hm.alloc _).trans hf5); clear hm5 hg5 hk5 hf5 hm hyo hyb)
      | (go_at_call 8; have hm := ((HF2.out.alloc (.cells #[.int .i64 3, .int .i64 N, .string ⟨s.toArray⟩, .slice B l.length d, .slice (some ⟨bb, oo, none⟩) m.length d'] 25)).alloc (.cells #[.int .i64 3, .int .i64 n0, .string ⟨#[255]⟩, .slice B l.length d, .slice (some ⟨bb, oo, none⟩) m.length d'] 25)); refine (ccheck_is (JV.mk 3 n0 [255] l m) B d (some ⟨bb, oo, none⟩) d' _ 1 0 ((HVS.out.keep (Nat.le_refl _) hm).lo hm.size) HC2.out).mono ?_; rintro e w4 ⟨rfl, hf⟩; have hx := ((HX2.out.keep ((Fr.refl _).alloc _)).keep ((Fr.refl _).alloc _)).keep hf; have HX4 := Lib.hid hx; obtain ⟨_, r0, r1, r2, r3, r4⟩ := hx; (try simp only [JV.kd, JV.nm, JV.tx, JV.ls, JV.ms] at r0 r1 r2 r3 r4); have HF4 := Lib.hid (hm.trans hf); clear hf hm)
      | (go_at_call 8; (fail_if_success (have hm2 := HF2.out)); have hm := HF1.out; refine (ccheck_is (JV.mk 3 n0 s l m) B d (some ⟨bb, oo, none⟩) d' _ 0 q ((HV.out.keep (Nat.le_refl _) hm).lo hm.size) HC.out).mono ?_; rintro e w2 ⟨rfl, hf⟩; have hx := HX1.out.keep hf; have HX2 := Lib.hid hx; obtain ⟨_, v0, v1, v2, v3, v4⟩ := hx; (try simp only [JV.kd, JV.nm, JV.tx, JV.ls, JV.ms] at v0 v1 v2 v3 v4); have HF2 := Lib.hid (hm.trans hf); clear hf hm)
      | (go_at_call 7; refine (awake06 _).mono ?_; rintro e w1 ⟨rfl, hf⟩; have hx := (VB.made w (JV.mk 3 n0 s l m) B d (some ⟨bb, oo, none⟩) d').keep hf; have HX1 := Lib.hid hx; obtain ⟨_, x0, x1, x2, x3, x4⟩ := hx; (try simp only [JV.kd, JV.nm, JV.tx, JV.ls, JV.ms] at x0 x1 x2 x3 x4); have HF1 := Lib.hid (((Fr.refl w).alloc _).trans hf); clear hf))
    obtain ⟨w6, hw6⟩ : ∃ w6, w5.setCell ⟨w4.heap.size, 4, none⟩ (.slice a5 n5 c5) = w6 := ⟨_, rfl⟩
    have hX : FrX w4.heap.size w5 w6 := hw6 ▸ (FrX.refl _ _).setCell rfl _
    have HF6 : Hid (Fr w w6) := HF5.out.frx hX HF4.out.size
    have HM6 : Hid (Mbs w6 (w4.heap.size + 1) (.slice a5 n5 c5) ([] ++ xs)) := HM5.out.frx2 (Nat.lt_succ_self _) hX
    have HYO6 : Hid (w6.heap[w4.heap.size]? = some (.cells #[.int .i64 6, .int .i64 0, .string ⟨#[]⟩, .slice none 0 0, .slice a5 n5 c5] 25 (0, 0))) := Lib.hid (by
      rw [← hw6]; simp [World.setCell, Array.getElem?_modify, HYO.out])
    have b4 : w6.cell? ⟨w4.heap.size, 4, none⟩ = some (.slice a5 n5 c5) := (by simp only [World.cell?, HYO6.out]; rfl)
    have hvx : w6.cell? ⟨w.heap.size, 4, none⟩ = some (.slice (some ⟨bb, oo, none⟩) m.length d') := (hX.cell HX5.out.1 (Nat.ne_of_lt HLT.out)).trans u4
    obtain ⟨g0, g1, g2, g3, g4, g5⟩ := HA.out
    have g0 := (HF6.out.cell HBB.out).trans g0
    have g1 := (HF6.out.cell HBB.out).trans g1
    have g2 := (HF6.out.cell HBB.out).trans g2
    have g3 := (HF6.out.cell HBB.out).trans g3
    have g4 := (HF6.out.cell HBB.out).trans g4
    have g5 := (HF6.out.cell HBB.out).trans g5
    have z3 : decide ((0 : Int) < ((m.length : Nat) : Int)) = true := decide_eq_true (by omega)
    have HLE : Hid (w4.heap.size + 1 ≤ (w6.alloc (.cells #[.string ⟨p0.1.toArray⟩, .int .i64 p0.2.kd, .int .i64 p0.2.nm, .string ⟨p0.2.tx.toArray⟩, .slice C0 p0.2.ls.length e0, .slice C0' p0.2.ms.length e0'] 30)).drew.heap.size) := Lib.hid (Nat.le_trans (Array.getElem?_eq_some_iff.1 HYO6.out).1 (((Fr.refl w6).alloc _).drew).size)
    have HL4 : Hid (w.heap.size ≤ w4.heap.size + 1) := Lib.hid (Nat.le_succ_of_le HF4.out.size)
    have HSZ : Hid ((([] ++ xs).length + 1) * 96 ≤ 140737488355328) := Lib.hid (by have h9 := HXL.out; simp only [List.length_append, List.length_nil, Nat.zero_add]; omega)
    have lt1 : w4.heap.size < w6.heap.size := (Array.getElem?_eq_some_iff.1 HYO6.out).1
    have lt2 : w.heap.size < w6.heap.size := Nat.lt_trans HLT.out lt1
    have lt3 : bb < w6.heap.size := Nat.lt_of_lt_of_le HBB.out HF6.out.size
    rw [hw6]
    clear hw6 hX u0 u1 u2 u3 u4 q0 qa qb qc q4 qz
    go_region_law (go_loud (refine step_mb (by rfl) (.tmp 64) (.tmp 69) (by rfl) (w4.heap.size + 1) HLE.out _ ([] ++ xs) (by rfl) (HM6.out.keep ((Fr.refl _).alloc _).drew) w6.heap.size 0 1 1 [(p0.1, vA p0.2 C0 e0 C0' e0')] (by rfl) (by rfl) (by simp only [List.mem_singleton, forall_eq]; exact five_vA _ _ _ _ _) (mcs_lit w6 p0.1 p0.2 C0 e0 C0' e0' _) HSZ.out ?_; intro v7 w7 hm7 hg7 hk7; obtain ⟨a7, n7, c7, rfl⟩ := hm7.is_slice; have hyo := hk7.2 _ _ _ _ ((Below.block ((Fr.refl w6).alloc _).drew w4.heap.size (Array.getElem?_eq_some_iff.1 HYO6.out).1).trans HYO6.out) (by decide); have HF7 := Lib.hid (Mbs.fr (HM6.out.keep ((Fr.refl _).alloc _).drew) HL4.out (HF6.out.alloc _).drew hg7); have HM7 := Lib.hid hm7; have q4 : w7.cell? ⟨w4.heap.size, 4, none⟩ = some (.slice a5 n5 c5) := (by simp only [World.cell?, hyo]; rfl); have qz : w7.frozen? ⟨w4.heap.size, 4, none⟩ = false := (by simp only [World.frozen?, hyo]; rfl); have HYO7 := Lib.hid hyo; clear hm7 hg7 hk7 hyo))
    all_goals
      obtain ⟨w8, hw8⟩ : ∃ w8, w7.setCell ⟨w4.heap.size, 4, none⟩ (.slice a7 n7 c7) = w8 := ⟨_, rfl⟩
      have hX : FrX w4.heap.size w7 w8 := hw8 ▸ (FrX.refl _ _).setCell rfl _
      have HF8 : Hid (Fr w w8) := HF7.out.frx hX HF4.out.size
      have hm8 : Mbs w8 (w4.heap.size + 1) (.slice a7 n7 c7) (([] ++ xs) ++ [(p0.1, vA p0.2 C0 e0 C0' e0')]) := HM7.out.frx2 (Nat.lt_succ_self _) hX
      have HYO8 : Hid (w8.heap[w4.heap.size]? = some (.cells #[.int .i64 6, .int .i64 0, .string ⟨#[]⟩, .slice none 0 0, .slice a7 n7 c7] 25 (0, 0))) := Lib.hid (by
        rw [← hw8]; simp [World.setCell, Array.getElem?_modify, HYO7.out])
      obtain ⟨hny, hvy⟩ := spoilt_y hm8 HXL.out (by omega) (.inr trivial) HF8.out HXE.out HIV0.out hnl0
      have b0 : w8.cell? ⟨w4.heap.size, 0, none⟩ = some (.int .i64 6) := (by simp only [World.cell?, HYO8.out]; rfl)
      have b1 : w8.cell? ⟨w4.heap.size, 1, none⟩ = some (.int .i64 0) := (by simp only [World.cell?, HYO8.out]; rfl)
      have b2 : w8.cell? ⟨w4.heap.size, 2, none⟩ = some (.string ⟨#[]⟩) := (by simp only [World.cell?, HYO8.out]; rfl)
      have b3 : w8.cell? ⟨w4.heap.size, 3, none⟩ = some (.slice none 0 0) := (by simp only [World.cell?, HYO8.out]; rfl)
      have b4 : w8.cell? ⟨w4.heap.size, 4, none⟩ = some (.slice a7 n7 c7) := (by simp only [World.cell?, HYO8.out]; rfl)
      rw [hw8]
      have hcy : JV.chk (JV.mapV (m ++ [p0])) 1 0 = (1, 0) := chk_bad (by have h9 := HSP.out; rw [HP0.out] at h9; exact h9)
      have HVY := Lib.hid hvy
      have HCY := Lib.hid hcy
      have HNY := Lib.hid hny
      clear hw8 hX hm8 hvy hcy hny
      go_wp2_with (go_at_call 8; obtain rfl := HNY.out; refine (ccheck_is (JV.mapV (m ++ [p0])) none 0 a7 c7 _ 1 0 HVY.out HCY.out).mono ?_; rintro e w9 ⟨rfl, hf⟩; have HF9 := Lib.hid (HF8.out.trans hf); clear hf)
      go_ret
      exact ⟨rfl, HF9.out⟩
  · have q1 : (k == 2) = false := by rw [beq_eq_false_iff_ne]; exact k1
    have q2 : (k == 3) = false := by rw [beq_eq_false_iff_ne]; exact k2
    go_enter Try.func4, Try.ntmps4
    go_wp2_with (first
      | (at_builtin; have hm := HF4.out; refine wpl_mb rfl (.tmp 58) (.tmp 60) rfl (w4.heap.size + 1) (by simp) _ [] rfl (Mbs.none_ _ _) bb oo d' m.length xs rfl HXL.out H5.out (fun j u hu => (((hm.alloc _).cell HBB.out).trans (HXC.out j u hu))) (by have h9 := HXL.out; simp only [List.length_nil, Nat.zero_add]; omega) ?_; intro v5 w5 hm5 hg5 hk5; obtain ⟨a5, n5, c5, rfl⟩ := hm5.is_slice; have hf5 := Mbs.first hg5; have hyb := heap_made w4 #[.int .i64 6, .int .i64 0, .string ⟨#[]⟩, .slice none 0 0, .slice none 0 0] 25; have hyo := hk5.2 _ _ _ _ hyb (by decide); have q0 : w5.cell? ⟨w4.heap.size, 0, none⟩ = some (.int .i64 6) := (by simp only [World.cell?, hyo]; rfl); have qa : w5.cell? ⟨w4.heap.size, 1, none⟩ = some (.int .i64 0) := (by simp only [World.cell?, hyo]; rfl); have qb : w5.cell? ⟨w4.heap.size, 2, none⟩ = some (.string ⟨#[]⟩) := (by simp only [World.cell?, hyo]; rfl); have qc : w5.cell? ⟨w4.heap.size, 3, none⟩ = some (.slice none 0 0) := (by simp only [World.cell?, hyo]; rfl); have q4 : w5.cell? ⟨w4.heap.size, 4, none⟩ = some (.slice none 0 0) := (by simp only [World.cell?, hyo]; rfl); have qz : w5.frozen? ⟨w4.heap.size, 4, none⟩ = false := (by simp only [World.frozen?, hyo]; rfl); have hx5 := (HX4.out.keep ((Fr.refl _).alloc _)).keep hf5; have HX5 := Lib.hid hx5; have HLT := Lib.hid HX4.out.1; obtain ⟨_, u0, u1, u2, u3, u4⟩ := hx5; (try simp only [JV.kd, JV.nm, JV.tx, JV.ls, JV.ms] at u0 u1 u2 u3 u4); have HYO := Lib.hid hyo; have HM5 := Lib.hid hm5; have HF5 := Lib.hid ((hm.alloc _).trans hf5); clear hm5 hg5 hk5 hf5 hm hyo hyb)
      | (go_at_call 8; have hm := ((HF2.out.alloc (.cells #[.int .i64 k, .int .i64 0, .string ⟨s.toArray⟩, .slice B l.length d, .slice (some ⟨bb, oo, none⟩) m.length d'] 25)).alloc (.cells #[.int .i64 k, .int .i64 n0, .string ⟨#[255]⟩, .slice B l.length d, .slice (some ⟨bb, oo, none⟩) m.length d'] 25)); refine (ccheck_is (JV.mk k n0 [255] l m) B d (some ⟨bb, oo, none⟩) d' _ 1 0 ((HVS.out.keep (Nat.le_refl _) hm).lo hm.size) HC2.out).mono ?_; rintro e w4 ⟨rfl, hf⟩; have hx := ((HX2.out.keep ((Fr.refl _).alloc _)).keep ((Fr.refl _).alloc _)).keep hf; have HX4 := Lib.hid hx; obtain ⟨_, r0, r1, r2, r3, r4⟩ := hx; (try simp only [JV.kd, JV.nm, JV.tx, JV.ls, JV.ms] at r0 r1 r2 r3 r4); have HF4 := Lib.hid (hm.trans hf); clear hf hm)
      | (go_at_call 8; (fail_if_success (have hm2 := HF2.out)); have hm := HF1.out; refine (ccheck_is (JV.mk k n0 s l m) B d (some ⟨bb, oo, none⟩) d' _ 0 q ((HV.out.keep (Nat.le_refl _) hm).lo hm.size) HC.out).mono ?_; rintro e w2 ⟨rfl, hf⟩; have hx := HX1.out.keep hf; have HX2 := Lib.hid hx; obtain ⟨_, v0, v1, v2, v3, v4⟩ := hx; (try simp only [JV.kd, JV.nm, JV.tx, JV.ls, JV.ms] at v0 v1 v2 v3 v4); have HF2 := Lib.hid (hm.trans hf); clear hf hm)
      | (go_at_call 7; refine (awake06 _).mono ?_; rintro e w1 ⟨rfl, hf⟩; have hx := (VB.made w (JV.mk k n0 s l m) B d (some ⟨bb, oo, none⟩) d').keep hf; have HX1 := Lib.hid hx; obtain ⟨_, x0, x1, x2, x3, x4⟩ := hx; (try simp only [JV.kd, JV.nm, JV.tx, JV.ls, JV.ms] at x0 x1 x2 x3 x4); have HF1 := Lib.hid (((Fr.refl w).alloc _).trans hf); clear hf))
    obtain ⟨w6, hw6⟩ : ∃ w6, w5.setCell ⟨w4.heap.size, 4, none⟩ (.slice a5 n5 c5) = w6 := ⟨_, rfl⟩
    have hX : FrX w4.heap.size w5 w6 := hw6 ▸ (FrX.refl _ _).setCell rfl _
    have HF6 : Hid (Fr w w6) := HF5.out.frx hX HF4.out.size
    have HM6 : Hid (Mbs w6 (w4.heap.size + 1) (.slice a5 n5 c5) ([] ++ xs)) := HM5.out.frx2 (Nat.lt_succ_self _) hX
    have HYO6 : Hid (w6.heap[w4.heap.size]? = some (.cells #[.int .i64 6, .int .i64 0, .string ⟨#[]⟩, .slice none 0 0, .slice a5 n5 c5] 25 (0, 0))) := Lib.hid (by
      rw [← hw6]; simp [World.setCell, Array.getElem?_modify, HYO.out])
    have b4 : w6.cell? ⟨w4.heap.size, 4, none⟩ = some (.slice a5 n5 c5) := (by simp only [World.cell?, HYO6.out]; rfl)
    have hvx : w6.cell? ⟨w.heap.size, 4, none⟩ = some (.slice (some ⟨bb, oo, none⟩) m.length d') := (hX.cell HX5.out.1 (Nat.ne_of_lt HLT.out)).trans u4
    obtain ⟨g0, g1, g2, g3, g4, g5⟩ := HA.out
    have g0 := (HF6.out.cell HBB.out).trans g0
    have g1 := (HF6.out.cell HBB.out).trans g1
    have g2 := (HF6.out.cell HBB.out).trans g2
    have g3 := (HF6.out.cell HBB.out).trans g3
    have g4 := (HF6.out.cell HBB.out).trans g4
    have g5 := (HF6.out.cell HBB.out).trans g5
    have z3 : decide ((0 : Int) < ((m.length : Nat) : Int)) = true := decide_eq_true (by omega)
    have HLE : Hid (w4.heap.size + 1 ≤ (w6.alloc (.cells #[.string ⟨p0.1.toArray⟩, .int .i64 p0.2.kd, .int .i64 p0.2.nm, .string ⟨p0.2.tx.toArray⟩, .slice C0 p0.2.ls.length e0, .slice C0' p0.2.ms.length e0'] 30)).drew.heap.size) := Lib.hid (Nat.le_trans (Array.getElem?_eq_some_iff.1 HYO6.out).1 (((Fr.refl w6).alloc _).drew).size)
    have HL4 : Hid (w.heap.size ≤ w4.heap.size + 1) := Lib.hid (Nat.le_succ_of_le HF4.out.size)
    have HSZ : Hid ((([] ++ xs).length + 1) * 96 ≤ 140737488355328) := Lib.hid (by have h9 := HXL.out; simp only [List.length_append, List.length_nil, Nat.zero_add]; omega)
    have lt1 : w4.heap.size < w6.heap.size := (Array.getElem?_eq_some_iff.1 HYO6.out).1
    have lt2 : w.heap.size < w6.heap.size := Nat.lt_trans HLT.out lt1
    have lt3 : bb < w6.heap.size := Nat.lt_of_lt_of_le HBB.out HF6.out.size
    rw [hw6]
    clear hw6 hX u0 u1 u2 u3 u4 q0 qa qb qc q4 qz
    go_region_law (go_loud (refine step_mb (by rfl) (.tmp 64) (.tmp 69) (by rfl) (w4.heap.size + 1) HLE.out _ ([] ++ xs) (by rfl) (HM6.out.keep ((Fr.refl _).alloc _).drew) w6.heap.size 0 1 1 [(p0.1, vA p0.2 C0 e0 C0' e0')] (by rfl) (by rfl) (by simp only [List.mem_singleton, forall_eq]; exact five_vA _ _ _ _ _) (mcs_lit w6 p0.1 p0.2 C0 e0 C0' e0' _) HSZ.out ?_; intro v7 w7 hm7 hg7 hk7; obtain ⟨a7, n7, c7, rfl⟩ := hm7.is_slice; have hyo := hk7.2 _ _ _ _ ((Below.block ((Fr.refl w6).alloc _).drew w4.heap.size (Array.getElem?_eq_some_iff.1 HYO6.out).1).trans HYO6.out) (by decide); have HF7 := Lib.hid (Mbs.fr (HM6.out.keep ((Fr.refl _).alloc _).drew) HL4.out (HF6.out.alloc _).drew hg7); have HM7 := Lib.hid hm7; have q4 : w7.cell? ⟨w4.heap.size, 4, none⟩ = some (.slice a5 n5 c5) := (by simp only [World.cell?, hyo]; rfl); have qz : w7.frozen? ⟨w4.heap.size, 4, none⟩ = false := (by simp only [World.frozen?, hyo]; rfl); have HYO7 := Lib.hid hyo; clear hm7 hg7 hk7 hyo))
    all_goals
      obtain ⟨w8, hw8⟩ : ∃ w8, w7.setCell ⟨w4.heap.size, 4, none⟩ (.slice a7 n7 c7) = w8 := ⟨_, rfl⟩
      have hX : FrX w4.heap.size w7 w8 := hw8 ▸ (FrX.refl _ _).setCell rfl _
      have HF8 : Hid (Fr w w8) := HF7.out.frx hX HF4.out.size
      have hm8 : Mbs w8 (w4.heap.size + 1) (.slice a7 n7 c7) (([] ++ xs) ++ [(p0.1, vA p0.2 C0 e0 C0' e0')]) := HM7.out.frx2 (Nat.lt_succ_self _) hX
      have HYO8 : Hid (w8.heap[w4.heap.size]? = some (.cells #[.int .i64 6, .int .i64 0, .string ⟨#[]⟩, .slice none 0 0, .slice a7 n7 c7] 25 (0, 0))) := Lib.hid (by
        rw [← hw8]; simp [World.setCell, Array.getElem?_modify, HYO7.out])
      obtain ⟨hny, hvy⟩ := spoilt_y hm8 HXL.out (by omega) (.inr trivial) HF8.out HXE.out HIV0.out hnl0
      have b0 : w8.cell? ⟨w4.heap.size, 0, none⟩ = some (.int .i64 6) := (by simp only [World.cell?, HYO8.out]; rfl)
      have b1 : w8.cell? ⟨w4.heap.size, 1, none⟩ = some (.int .i64 0) := (by simp only [World.cell?, HYO8.out]; rfl)
      have b2 : w8.cell? ⟨w4.heap.size, 2, none⟩ = some (.string ⟨#[]⟩) := (by simp only [World.cell?, HYO8.out]; rfl)
      have b3 : w8.cell? ⟨w4.heap.size, 3, none⟩ = some (.slice none 0 0) := (by simp only [World.cell?, HYO8.out]; rfl)
      have b4 : w8.cell? ⟨w4.heap.size, 4, none⟩ = some (.slice a7 n7 c7) := (by simp only [World.cell?, HYO8.out]; rfl)
      rw [hw8]
      have hcy : JV.chk (JV.mapV (m ++ [p0])) 1 0 = (1, 0) := chk_bad (by have h9 := HSP.out; rw [HP0.out] at h9; exact h9)
      have HVY := Lib.hid hvy
      have HCY := Lib.hid hcy
      have HNY := Lib.hid hny
      clear hw8 hX hm8 hvy hcy hny
      go_wp2_with (go_at_call 8; obtain rfl := HNY.out; refine (ccheck_is (JV.mapV (m ++ [p0])) none 0 a7 c7 _ 1 0 HVY.out HCY.out).mono ?_; rintro e w9 ⟨rfl, hf⟩; have HF9 := Lib.hid (HF8.out.trans hf); clear hf)
      go_ret
      exact ⟨rfl, HF9.out⟩
  · have q1 : (k == 2) = false := by rw [beq_eq_false_iff_ne]; exact k1
    have q2 : (k == 3) = false := by rw [beq_eq_false_iff_ne]; exact k2
    have q3 : (N != 0) = true := by rw [bne_iff_ne]; exact k3
    have hk2 : Hid (k ≠ 2) := k1
    have hk3 : Hid (k ≠ 3) := k2
    have hN0 : Hid (N ≠ 0) := k3
    clear k1 k2 k3
    go_enter Try.func4, Try.ntmps4
    go_wp2_with (first
      | (at_builtin; have hm := HF4.out; refine wpl_mb rfl (.tmp 58) (.tmp 60) rfl (w4.heap.size + 1) (by simp) _ [] rfl (Mbs.none_ _ _) bb oo d' m.length xs rfl HXL.out H5.out (fun j u hu => (((hm.alloc _).cell HBB.out).trans (HXC.out j u hu))) (by have h9 := HXL.out; simp only [List.length_nil, Nat.zero_add]; omega) ?_; intro v5 w5 hm5 hg5 hk5; obtain ⟨a5, n5, c5, rfl⟩ := hm5.is_slice; have hf5 := Mbs.first hg5; have hyb := heap_made w4 #[.int .i64 6, .int .i64 0, .string ⟨#[]⟩, .slice none 0 0, .slice none 0 0] 25; have hyo := hk5.2 _ _ _ _ hyb (by decide); have q0 : w5.cell? ⟨w4.heap.size, 0, none⟩ = some (.int .i64 6) := (by simp only [World.cell?, hyo]; rfl); have qa : w5.cell? ⟨w4.heap.size, 1, none⟩ = some (.int .i64 0) := (by simp only [World.cell?, hyo]; rfl); have qb : w5.cell? ⟨w4.heap.size, 2, none⟩ = some (.string ⟨#[]⟩) := (by simp only [World.cell?, hyo]; rfl); have qc : w5.cell? ⟨w4.heap.size, 3, none⟩ = some (.slice none 0 0) := (by simp only [World.cell?, hyo]; rfl); have q4 : w5.cell? ⟨w4.heap.size, 4, none⟩ = some (.slice none 0 0) := (by simp only [World.cell?, hyo]; rfl); have qz : w5.frozen? ⟨w4.heap.size, 4, none⟩ = false := (by simp only [World.frozen?, hyo]; rfl); have hx5 := (HX4.out.keep ((Fr.refl _).alloc _)).keep hf5; have HX5 := Lib.hid hx5; have HLT := Lib.hid HX4.out.1; obtain ⟨_, u0, u1, u2, u3, u4⟩ := hx5; (try simp only [JV.kd, JV.nm, JV.tx, JV.ls, JV.ms] at u0 u1 u2 u3 u4); have HYO := Lib.hid hyo; have HM5 := Lib.hid hm5; have HF5 := Lib.hid ((hm.alloc _).trans hf5); clear hm5 hg5 hk5 hf5 hm hyo hyb)
      | (go_at_call 8; have hm := HF3.out; refine (ccheck_is (JV.mk k n0 [255] l m) B d (some ⟨bb, oo, none⟩) d' _ 1 0 ((HVS.out.keep (Nat.le_refl _) hm).lo hm.size) HC2.out).mono ?_; rintro e w4 ⟨rfl, hf⟩; have hx := HX3.out.keep hf; have HX4 := Lib.hid hx; obtain ⟨_, r0, r1, r2, r3, r4⟩ := hx; (try simp only [JV.kd, JV.nm, JV.tx, JV.ls, JV.ms] at r0 r1 r2 r3 r4); have HF4 := Lib.hid (hm.trans hf); clear hf hm)
      | (go_at_call 8; have hm := HF2.out; refine (ccheck_is (JV.mk k N s l m) B d (some ⟨bb, oo, none⟩) d' _ 1 0 ((HVN.out.keep (Nat.le_refl _) ((hm.alloc _).alloc _)).lo ((hm.alloc _).alloc _).size) (HC1.out hk2.out hk3.out hN0.out)).mono ?_; rintro e w3 ⟨rfl, hf⟩; have hx := ((HX2.out.keep ((Fr.refl _).alloc _)).keep ((Fr.refl _).alloc _)).keep hf; have HX3 := Lib.hid hx; obtain ⟨_, s0, s1, s2, s3, s4⟩ := hx; (try simp only [JV.kd, JV.nm, JV.tx, JV.ls, JV.ms] at s0 s1 s2 s3 s4); have hy := VB.made2 w2 _ (JV.mk k n0 [255] l m) B d (some ⟨bb, oo, none⟩) d' hf; have HY3 := Lib.hid hy; obtain ⟨_, t0, t1, t2, t3, t4⟩ := hy; (try simp only [JV.kd, JV.nm, JV.tx, JV.ls, JV.ms] at t0 t1 t2 t3 t4); have HF3 := Lib.hid (((hm.alloc _).alloc _).trans hf); clear hf hm)
      | (go_at_call 8; (fail_if_success (have hm2 := HF2.out)); have hm := HF1.out; refine (ccheck_is (JV.mk k n0 s l m) B d (some ⟨bb, oo, none⟩) d' _ 0 q ((HV.out.keep (Nat.le_refl _) hm).lo hm.size) HC.out).mono ?_; rintro e w2 ⟨rfl, hf⟩; have hx := HX1.out.keep hf; have HX2 := Lib.hid hx; obtain ⟨_, v0, v1, v2, v3, v4⟩ := hx; (try simp only [JV.kd, JV.nm, JV.tx, JV.ls, JV.ms] at v0 v1 v2 v3 v4); have HF2 := Lib.hid (hm.trans hf); clear hf hm)
      | (go_at_call 7; refine (awake06 _).mono ?_; rintro e w1 ⟨rfl, hf⟩; have hx := (VB.made w (JV.mk k n0 s l m) B d (some ⟨bb, oo, none⟩) d').keep hf; have HX1 := Lib.hid hx; obtain ⟨_, x0, x1, x2, x3, x4⟩ := hx; (try simp only [JV.kd, JV.nm, JV.tx, JV.ls, JV.ms] at x0 x1 x2 x3 x4); have HF1 := Lib.hid (((Fr.refl w).alloc _).trans hf); clear hf))
    obtain ⟨w6, hw6⟩ : ∃ w6, w5.setCell ⟨w4.heap.size, 4, none⟩ (.slice a5 n5 c5) = w6 := ⟨_, rfl⟩
    have hX : FrX w4.heap.size w5 w6 := hw6 ▸ (FrX.refl _ _).setCell rfl _
    have HF6 : Hid (Fr w w6) := HF5.out.frx hX HF4.out.size
    have HM6 : Hid (Mbs w6 (w4.heap.size + 1) (.slice a5 n5 c5) ([] ++ xs)) := HM5.out.frx2 (Nat.lt_succ_self _) hX
    have HYO6 : Hid (w6.heap[w4.heap.size]? = some (.cells #[.int .i64 6, .int .i64 0, .string ⟨#[]⟩, .slice none 0 0, .slice a5 n5 c5] 25 (0, 0))) := Lib.hid (by
      rw [← hw6]; simp [World.setCell, Array.getElem?_modify, HYO.out])
    have b4 : w6.cell? ⟨w4.heap.size, 4, none⟩ = some (.slice a5 n5 c5) := (by simp only [World.cell?, HYO6.out]; rfl)
    have hvx : w6.cell? ⟨w.heap.size, 4, none⟩ = some (.slice (some ⟨bb, oo, none⟩) m.length d') := (hX.cell HX5.out.1 (Nat.ne_of_lt HLT.out)).trans u4
    obtain ⟨g0, g1, g2, g3, g4, g5⟩ := HA.out
    have g0 := (HF6.out.cell HBB.out).trans g0
    have g1 := (HF6.out.cell HBB.out).trans g1
    have g2 := (HF6.out.cell HBB.out).trans g2
    have g3 := (HF6.out.cell HBB.out).trans g3
    have g4 := (HF6.out.cell HBB.out).trans g4
    have g5 := (HF6.out.cell HBB.out).trans g5
    have z3 : decide ((0 : Int) < ((m.length : Nat) : Int)) = true := decide_eq_true (by omega)
    have HLE : Hid (w4.heap.size + 1 ≤ (w6.alloc (.cells #[.string ⟨p0.1.toArray⟩, .int .i64 p0.2.kd, .int .i64 p0.2.nm, .string ⟨p0.2.tx.toArray⟩, .slice C0 p0.2.ls.length e0, .slice C0' p0.2.ms.length e0'] 30)).drew.heap.size) := Lib.hid (Nat.le_trans (Array.getElem?_eq_some_iff.1 HYO6.out).1 (((Fr.refl w6).alloc _).drew).size)
    have HL4 : Hid (w.heap.size ≤ w4.heap.size + 1) := Lib.hid (Nat.le_succ_of_le HF4.out.size)
    have HSZ : Hid ((([] ++ xs).length + 1) * 96 ≤ 140737488355328) := Lib.hid (by have h9 := HXL.out; simp only [List.length_append, List.length_nil, Nat.zero_add]; omega)
    have lt1 : w4.heap.size < w6.heap.size := (Array.getElem?_eq_some_iff.1 HYO6.out).1
    have lt2 : w.heap.size < w6.heap.size := Nat.lt_trans HLT.out lt1
    have lt3 : bb < w6.heap.size := Nat.lt_of_lt_of_le HBB.out HF6.out.size
    rw [hw6]
    clear hw6 hX u0 u1 u2 u3 u4 q0 qa qb qc q4 qz
    go_region_law (go_loud (refine step_mb (by rfl) (.tmp 64) (.tmp 69) (by rfl) (w4.heap.size + 1) HLE.out _ ([] ++ xs) (by rfl) (HM6.out.keep ((Fr.refl _).alloc _).drew) w6.heap.size 0 1 1 [(p0.1, vA p0.2 C0 e0 C0' e0')] (by rfl) (by rfl) (by simp only [List.mem_singleton, forall_eq]; exact five_vA _ _ _ _ _) (mcs_lit w6 p0.1 p0.2 C0 e0 C0' e0' _) HSZ.out ?_; intro v7 w7 hm7 hg7 hk7; obtain ⟨a7, n7, c7, rfl⟩ := hm7.is_slice; have hyo := hk7.2 _ _ _ _ ((Below.block ((Fr.refl w6).alloc _).drew w4.heap.size (Array.getElem?_eq_some_iff.1 HYO6.out).1).trans HYO6.out) (by decide); have HF7 := Lib.hid (Mbs.fr (HM6.out.keep ((Fr.refl _).alloc _).drew) HL4.out (HF6.out.alloc _).drew hg7); have HM7 := Lib.hid hm7; have q4 : w7.cell? ⟨w4.heap.size, 4, none⟩ = some (.slice a5 n5 c5) := (by simp only [World.cell?, hyo]; rfl); have qz : w7.frozen? ⟨w4.heap.size, 4, none⟩ = false := (by simp only [World.frozen?, hyo]; rfl); have HYO7 := Lib.hid hyo; clear hm7 hg7 hk7 hyo))
    all_goals
      obtain ⟨w8, hw8⟩ : ∃ w8, w7.setCell ⟨w4.heap.size, 4, none⟩ (.slice a7 n7 c7) = w8 := ⟨_, rfl⟩
      have hX : FrX w4.heap.size w7 w8 := hw8 ▸ (FrX.refl _ _).setCell rfl _
      have HF8 : Hid (Fr w w8) := HF7.out.frx hX HF4.out.size
      have hm8 : Mbs w8 (w4.heap.size + 1) (.slice a7 n7 c7) (([] ++ xs) ++ [(p0.1, vA p0.2 C0 e0 C0' e0')]) := HM7.out.frx2 (Nat.lt_succ_self _) hX
      have HYO8 : Hid (w8.heap[w4.heap.size]? = some (.cells #[.int .i64 6, .int .i64 0, .string ⟨#[]⟩, .slice none 0 0, .slice a7 n7 c7] 25 (0, 0))) := Lib.hid (by
        rw [← hw8]; simp [World.setCell, Array.getElem?_modify, HYO7.out])
      obtain ⟨hny, hvy⟩ := spoilt_y hm8 HXL.out (by omega) (.inr trivial) HF8.out HXE.out HIV0.out hnl0
      have b0 : w8.cell? ⟨w4.heap.size, 0, none⟩ = some (.int .i64 6) := (by simp only [World.cell?, HYO8.out]; rfl)
      have b1 : w8.cell? ⟨w4.heap.size, 1, none⟩ = some (.int .i64 0) := (by simp only [World.cell?, HYO8.out]; rfl)
      have b2 : w8.cell? ⟨w4.heap.size, 2, none⟩ = some (.string ⟨#[]⟩) := (by simp only [World.cell?, HYO8.out]; rfl)
      have b3 : w8.cell? ⟨w4.heap.size, 3, none⟩ = some (.slice none 0 0) := (by simp only [World.cell?, HYO8.out]; rfl)
      have b4 : w8.cell? ⟨w4.heap.size, 4, none⟩ = some (.slice a7 n7 c7) := (by simp only [World.cell?, HYO8.out]; rfl)
      rw [hw8]
      have hcy : JV.chk (JV.mapV (m ++ [p0])) 1 0 = (1, 0) := chk_bad (by have h9 := HSP.out; rw [HP0.out] at h9; exact h9)
      have HVY := Lib.hid hvy
      have HCY := Lib.hid hcy
      have HNY := Lib.hid hny
      clear hw8 hX hm8 hvy hcy hny
      go_wp2_with (go_at_call 8; obtain rfl := HNY.out; refine (ccheck_is (JV.mapV (m ++ [p0])) none 0 a7 c7 _ 1 0 HVY.out HCY.out).mono ?_; rintro e w9 ⟨rfl, hf⟩; have HF9 := Lib.hid (HF8.out.trans hf); clear hf)
      go_ret
      exact ⟨rfl, HF9.out⟩

theorem spoilt_law (u : JV) (B : Option Addr) (d : Nat) (B' : Option Addr) (d' : Nat) (N : Int) (w : World) (hv : InV w (Lo w.heap.size) u (vA u B d B' d')) (hN1 : -9223372036854775808 ≤ N) (hN2 : N ≤ 9223372036854775807) :
    Calls Try.prog 4 #[vA u B d B' d', .int .i64 N] w fun e w' => e = .returned (.bool true) ∧ Fr w w' := by
  obtain ⟨A, c, A', c', hx, _, hms⟩ := hv.open_
  obtain ⟨k, n0, s, l, m⟩ := u
  obtain ⟨_, _, _, _, e4⟩ := five hx
  injection e4 with e1 _ e3
  have hms : MsC w (Lo w.heap.size) B' m := by rw [e1]; exact hms
  have hf := hv.facts
  have hl63 : l.length ≤ 140737488355328 := hf.2.2.2.1
  have hm63 : m.length ≤ 140737488355328 := hf.2.2.2.2
  rcases hc : JV.chk (.mk k n0 s l m) 1 0 with ⟨cc, q⟩
  rcases Nat.eq_zero_or_pos cc with h0 | h0
  · subst h0
    by_cases hz : 0 < m.length ∧ m.length ≤ 2000
    · exact spoilt_more k n0 s l m B d B' d' N w hv hN1 hN2 hl63 hm63 q hc hz.1 hz.2 hms
    · exact spoilt_few k n0 s l m B d B' d' N w hv hN1 hN2 hl63 hm63 q hc (by omega)
  · exact spoilt_not k n0 s l m B d B' d' N w hv hN1 hN2 hl63 hm63 cc q hc (by omega)
end Go.Proofs.Ytgncdjcbphobmaa
