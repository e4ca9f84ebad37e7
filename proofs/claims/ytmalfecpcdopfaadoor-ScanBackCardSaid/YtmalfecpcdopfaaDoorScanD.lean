/- Walks: the document's Tokens, whatever text; Same, where it answers yes. -/
import Derived.Test.YtmalfecpcdopfaaDoorScanC
namespace Go.Proofs.YtmalfecpcdopfaaDoor
set_option linter.unusedVariables false
set_option linter.unusedSimpArgs false
open Go.RowKit

theorem rtokens_is (s : ByteArray) (w : World) (hs : s.size ≤ 9223372036854775807) (hT : PtTab w) :
    Calls Tryd.prog 9 #[.string s] w fun e w' => ∃ v, e = .returned (.tuple #[v, .int .i64 ((Scn.tokens s.data.toList).2.1 : Nat), .int .i64 ((Scn.tokens s.data.toList).2.2 : Nat)]) ∧ Tks w' w.heap.size v (Scn.tokens s.data.toList).1 ∧ Fr w w' := by
  have hl : s.data.toList.length = s.size := by simp
  by_cases h : s.size ≤ 65536
  · rw [Scn.tokens_short (by rw [hl]; omega)]
    exact rtokens_in s w h hT
  · rw [Scn.tokens_long (by rw [hl]; omega)]
    have d0 : decide ((65536 : Int) < (s.size : Int)) = true := decide_eq_true (by omega)
    clear hl hT
    go_enter Tryd.func9, Tryd.ntmps9
    go_wp2_with fail
    go_ret3
    exact ⟨_, rfl, Tks.none_ _ _, Fr.refl _⟩

/-- The same tokens (p: at the same places, too). -/
def alike (p : Bool) (ts us : List Scn.Tok) : Prop := ts.length = us.length ∧ ∀ (i : Nat) (h : i < ts.length) (h2 : i < us.length), ts[i].kind = us[i].kind ∧ ts[i].n = us[i].n ∧ ts[i].s = us[i].s ∧ (p = true → ts[i].at_ = us[i].at_)

set_option maxHeartbeats 4000000 in
set_option maxRecDepth 100000 in
theorem rsame_some (p : Bool) (ts us : List Scn.Tok) (g1 g2 c1 c2 : Nat) (w : World) (ha : alike p ts us) (hl : ts.length ≤ 140737488355328) (hg1 : g1 < w.heap.size) (hg2 : g2 < w.heap.size)
    (h1 : ∀ i (hi : i < ts.length), w.cell? ⟨g1, i * 4, none⟩ = some (.int .i64 (ts[i].kind : Nat)) ∧ w.cell? ⟨g1, i * 4 + 1, none⟩ = some (.int .i64 ts[i].n) ∧ w.cell? ⟨g1, i * 4 + 2, none⟩ = some (.string ⟨ts[i].s.toArray⟩) ∧ w.cell? ⟨g1, i * 4 + 3, none⟩ = some (.int .i64 (ts[i].at_ : Nat)))
    (h2 : ∀ i (hi : i < us.length), w.cell? ⟨g2, i * 4, none⟩ = some (.int .i64 (us[i].kind : Nat)) ∧ w.cell? ⟨g2, i * 4 + 1, none⟩ = some (.int .i64 us[i].n) ∧ w.cell? ⟨g2, i * 4 + 2, none⟩ = some (.string ⟨us[i].s.toArray⟩) ∧ w.cell? ⟨g2, i * 4 + 3, none⟩ = some (.int .i64 (us[i].at_ : Nat))) :
    Calls Tryd.prog 11 #[.slice (some ⟨g1, 0, none⟩) ts.length c1, .slice (some ⟨g2, 0, none⟩) us.length c2, .bool p] w fun e w' => e = .returned (.bool true) ∧ ∃ q, w' = w.drewN q := by
  have hL := ha.1
  rw [← hL]
  obtain ⟨n, hn⟩ : ∃ n, ts.length = n := ⟨_, rfl⟩
  have hall : Hid (∀ i, i < n → ∃ (k at1 at2 : Nat) (m : Int) (s : List UInt8), (p = true → at1 = at2) ∧
      w.cell? ⟨g1, i * 4, none⟩ = some (.int .i64 (k : Nat)) ∧ w.cell? ⟨g1, i * 4 + 1, none⟩ = some (.int .i64 m) ∧ w.cell? ⟨g1, i * 4 + 2, none⟩ = some (.string ⟨s.toArray⟩) ∧ w.cell? ⟨g1, i * 4 + 3, none⟩ = some (.int .i64 (at1 : Nat)) ∧
      w.cell? ⟨g2, i * 4, none⟩ = some (.int .i64 (k : Nat)) ∧ w.cell? ⟨g2, i * 4 + 1, none⟩ = some (.int .i64 m) ∧ w.cell? ⟨g2, i * 4 + 2, none⟩ = some (.string ⟨s.toArray⟩) ∧ w.cell? ⟨g2, i * 4 + 3, none⟩ = some (.int .i64 (at2 : Nat))) := by
    intro i hi
    have hi1 : i < ts.length := by omega
    have hi2 : i < us.length := by omega
    obtain ⟨e1, e2, e3, e4⟩ := ha.2 i hi1 hi2
    obtain ⟨a0, a1, a2, a3⟩ := h1 i hi1
    obtain ⟨b0, b1, b2, b3⟩ := h2 i hi2
    rw [← e1] at b0
    rw [← e2] at b1
    rw [← e3] at b2
    exact ⟨_, _, _, _, _, e4, a0, a1, a2, a3, b0, b1, b2, b3⟩
  rw [hn] at hl ⊢
  clear h1 h2 ha hL hn
  go_enter Tryd.func11, Tryd.ntmps11
  go_wp2_with fail
  go_loopw [7] (fun j wr => ∃ (i : Nat), i ≤ n ∧ j = .int .i64 i ∧ ∃ q, wr = w.drewN q) (fun j _ => n - (intOf j).toNat)
  case atStart => exact ⟨0, by omega, rfl, 0, rfl⟩
  case round =>
    obtain ⟨i, hi, rfl, q, rfl⟩ := hrel
    by_cases hlt : i < n
    · obtain ⟨k, at1, at2, m, s, hat, a0, a1, a2, a3, b0, b1, b2, b3⟩ := hall.out i hlt
      have i1 : (0 : Int) ≤ (i : Int) := by omega
      have i2 : (i : Int) < (n : Int) := by omega
      have d1 : decide (n ≤ i) = false := decide_eq_false (by omega)
      rcases p with _ | _
      · clear hat
        go_wp2_with fail
        go_quiet (fail)
        go_wp2_with fail
        exact ⟨⟨i + 1, by omega, by go_num, _, rfl⟩, by simp [intOf]; omega⟩
      · obtain rfl := hat rfl
        go_wp2_with fail
        go_quiet (fail)
        go_wp2_with fail
        exact ⟨⟨i + 1, by omega, by go_num, _, rfl⟩, by simp [intOf]; omega⟩
    · obtain rfl : i = n := by omega
      clear hlt hi
      go_wp2_with fail
      go_ret
      exact ⟨rfl, q, rfl⟩

set_option maxHeartbeats 400000 in
theorem rsame_zero (p : Bool) (a1 a2 : Option Addr) (c1 c2 : Nat) (w : World) :
    Calls Tryd.prog 11 #[.slice a1 0 c1, .slice a2 0 c2, .bool p] w fun e w' => e = .returned (.bool true) ∧ ∃ q, w' = w.drewN q := by
  go_enter Tryd.func11, Tryd.ntmps11
  go_wp2_with fail
  refine wp_loop_rounds 1 ?_
  rw [rounds_succ]
  go_wp2_with fail
  go_ret
  exact ⟨rfl, 0, rfl⟩

/-- Same, of lists that are alike. -/
theorem rsame_yes (p : Bool) (ts us : List Scn.Tok) (b1 b2 : Nat) (v1 v2 : Value) (w : World) (ha : alike p ts us) (h1 : Tks w b1 v1 ts) (h2 : Tks w b2 v2 us) (hl : ts.length ≤ 140737488355328) :
    Calls Tryd.prog 11 #[v1, v2, .bool p] w fun e w' => e = .returned (.bool true) ∧ Fr w w' := by
  have fin : Calls Tryd.prog 11 #[v1, v2, .bool p] w fun e w' => e = .returned (.bool true) ∧ ∃ q, w' = w.drewN q := by
    rcases h1.form with ⟨rfl, rfl⟩ | ⟨g1, c1, rfl, hb1, hg1, hc1⟩
    · have : us = [] := by have := ha.1; exact List.eq_nil_of_length_eq_zero (by simpa using this.symm)
      subst this
      rcases h2.form with ⟨rfl, _⟩ | ⟨g2, c2, rfl, hb2, hg2, hc2⟩
      · exact rsame_zero p _ _ _ _ w
      · exact rsame_zero p _ _ _ _ w
    · rcases h2.form with ⟨rfl, rfl⟩ | ⟨g2, c2, rfl, hb2, hg2, hc2⟩
      · have : ts = [] := by have := ha.1; exact List.eq_nil_of_length_eq_zero (by simpa using this)
        subst this
        exact rsame_zero p _ _ _ _ w
      · exact rsame_some p ts us g1 g2 c1 c2 w ha hl hg1 hg2 hc1 hc2
  refine fin.mono ?_
  rintro e w' ⟨rfl, q, rfl⟩
  exact ⟨rfl, (Fr.refl w).drewN q⟩
end Go.Proofs.YtmalfecpcdopfaaDoor
