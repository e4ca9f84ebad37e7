/- The walk of emit.right: what is not bare. -/
import Derived.Test.YtgncdjcbphobmaaEmitC
import Derived.Deep.RegionHeld3
namespace Go.Proofs.Ytgncdjcbphobmaa
set_option linter.unusedVariables false
set_option linter.unusedSimpArgs false
open Go.RowKit

set_option maxHeartbeats 2000000 in
set_option maxRecDepth 100000 in
theorem right_bare (u : JV) (B : Option Addr) (d : Nat) (B' : Option Addr) (d' : Nat) (w : World) (h : InV w (Lo w.heap.size) u (vA u B d B' d')) (hk : 1 ≤ u.kd ∧ u.kd ≤ 6) (hb : JV.bareB u = false) :
    Calls Try.prog 15 #[vA u B d B' d'] w fun e w' => e = .returned (.bool (JV.rightB u)) ∧ Fr w w' := by
  obtain ⟨⟨hn1, hn2⟩, ⟨hk1, hk2⟩, hs, hl, hm⟩ := h.facts
  obtain ⟨A, c, A', c', hx, hlc, hmc⟩ := h.open_
  obtain ⟨_, _, _, x3, x4⟩ := five hx
  simp only [Value.slice.injEq] at x3 x4
  obtain ⟨rfl, _, rfl⟩ := x3
  obtain ⟨rfl, _, rfl⟩ := x4
  clear hx
  have HR := Lib.hid (right_eq u)
  have HM := Lib.hid hmc
  clear hmc hlc h
  obtain ⟨K, hK⟩ : ∃ K, u.kd = K := ⟨_, rfl⟩
  obtain ⟨N, hN⟩ : ∃ N, u.nm = N := ⟨_, rfl⟩
  have hv : vA u B d B' d' = .agg #[.int .i64 K, .int .i64 N, .string ⟨u.tx.toArray⟩, .slice B u.ls.length d, .slice B' u.ms.length d'] := by rw [← hK, ← hN]; rfl
  have HK := Lib.hid hK
  have HN := Lib.hid hN
  have HV := Lib.hid hv
  rw [hK] at hk
  obtain ⟨hk, hk6⟩ := hk
  have d1 : decide (K < 1) = false := decide_eq_false (by omega)
  have d6 : decide (6 < K) = false := decide_eq_false (by omega)
  have HBB := Lib.hid hb
  have hr : Hid (JV.rightB u = false) := by show _ = _; rw [HR.out, hb, Bool.and_false]; rfl
  rw [hv]
  clear hb hv hK hN
  go_enter Try.func15, Try.ntmps15
  go_wp2_with fail
  first | (go_region_with (go_at_call 18; rw [← HV.out]; refine (bare_at u B d B' d' _ false HBB.out).mono ?_; rintro e w1 ⟨rfl, hw1⟩; have hc1 := hw1.cells; have HW1 := Lib.hid hw1; clear hw1)) | fail "region"
  all_goals
    go_wp2_with fail
    go_ret
    exact ⟨by rw [hr.out]; rfl, (((Fr.refl _).alloc _).drew).trans HW1.out⟩

end Go.Proofs.Ytgncdjcbphobmaa
