/- The walk of emit.right. -/
import Derived.Test.YtgncdjcbphobmaaEmitB
import Derived.Deep.RegionHeld3
namespace Go.Proofs.Ytgncdjcbphobmaa
set_option linter.unusedVariables false
set_option linter.unusedSimpArgs false
open Go.RowKit

theorem toList_mk (l : List UInt8) : (⟨l.toArray⟩ : ByteArray).toList.isEmpty = (l.length == 0) := by
  rw [ByteArray.toList_eq]
  cases l <;> simp
theorem bare_at (u : JV) (B : Option Addr) (d : Nat) (B' : Option Addr) (d' : Nat) (w : World) (b : Bool) (hb : JV.bareB u = b) :
    Calls Try.prog 18 #[vA u B d B' d'] w fun e w' => e = .returned (.bool b) ∧ Fr w w' := by
  refine bare_is _ _ _ _ _ _ _ _ _ w b ?_
  show _ = _
  subst hb
  rw [toList_mk]
  cases u with
  | mk k n s l m =>
    have e : ∀ x : Nat, ((x : Int) == 0) = (x == 0) := by
      intro x
      rw [Bool.eq_iff_iff, beq_iff_eq, beq_iff_eq]; omega
    rw [e, e]
    rfl
/-- What right asks behind bare and Bad. -/
def rightK (u : JV) : Bool :=
  if u.kd = 2 then (u.nm == 0 || u.nm == 1) else if u.kd = 3 then decide (-9007199254740991 ≤ u.nm) && decide (u.nm ≤ 9007199254740991) else if u.kd = 6 then decide (8192 < u.ms.length) || JV.namesB u.ms else true
theorem right_eq (u : JV) : JV.rightB u = (decide (1 ≤ u.kd) && decide (u.kd ≤ 6) && JV.bareB u && (Utf.bad u.tx == u.tx.length) && rightK u) := by cases u; rfl

set_option maxHeartbeats 2000000 in
set_option maxRecDepth 100000 in
theorem right_low (u : JV) (B : Option Addr) (d : Nat) (B' : Option Addr) (d' : Nat) (w : World) (h : InV w (Lo w.heap.size) u (vA u B d B' d')) (hk : ¬ (1 ≤ u.kd ∧ u.kd ≤ 6)) :
    Calls Try.prog 15 #[vA u B d B' d'] w fun e w' => e = .returned (.bool (JV.rightB u)) ∧ Fr w w' := by
  obtain ⟨⟨hn1, hn2⟩, ⟨hk1, hk2⟩, hs, hl, hm⟩ := h.facts
  obtain ⟨A, c, A', c', hx, hlc, hmc⟩ := h.open_
  obtain ⟨_, _, _, x3, x4⟩ := five hx
  simp only [Value.slice.injEq] at x3 x4
  obtain ⟨rfl, _, rfl⟩ := x3
  obtain ⟨rfl, _, rfl⟩ := x4
  clear hx
  have HR := Lib.hid (right_eq u)
  have HM := Lib.hid hmc
  clear hmc hlc h
  obtain ⟨K, hK⟩ : ∃ K, u.kd = K := ⟨_, rfl⟩
  obtain ⟨N, hN⟩ : ∃ N, u.nm = N := ⟨_, rfl⟩
  have hv : vA u B d B' d' = .agg #[.int .i64 K, .int .i64 N, .string ⟨u.tx.toArray⟩, .slice B u.ls.length d, .slice B' u.ms.length d'] := by rw [← hK, ← hN]; rfl
  have hr : Hid (JV.rightB u = false) := by
    show _ = _
    rw [HR.out]
    by_cases h1 : 1 ≤ u.kd
    · rw [decide_eq_false (show ¬ u.kd ≤ 6 from fun h => hk ⟨h1, h⟩), Bool.and_false]; rfl
    · rw [decide_eq_false h1]; rfl
  rw [hK] at hk
  rw [hv]
  clear hK hN hv
  have hd : decide (K < 1) = true ∨ (decide (K < 1) = false ∧ decide (6 < K) = true) := by
    by_cases h : K < 1
    · exact .inl (decide_eq_true h)
    · exact .inr ⟨decide_eq_false h, decide_eq_true (by omega)⟩
  clear hk
  rcases hd with h1 | ⟨h1, h2⟩
  all_goals
    go_enter Try.func15, Try.ntmps15
    go_wp2_with fail
    go_quiet (fail)
    go_wp2_with fail
    go_ret
    exact ⟨by rw [hr.out]; rfl, ((Fr.refl _).alloc _).drewN _⟩

end Go.Proofs.Ytgncdjcbphobmaa
