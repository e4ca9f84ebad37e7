/- Plain laws of tokens. -/
import Derived.Test.YtgncdjcbphobmaaScanP
import Derived.Test.YtgncdjcbphobmaaCharsQ
namespace Go.Proofs.Ytgncdjcbphobmaa.Scn
set_option linter.unusedVariables false
set_option linter.unusedSimpArgs false

theorem tokAt_err {l : List UInt8} {k e p : Nat} (hk : k < l.length) (h : tokAt l k = .err e p) : p ≤ l.length ∧ e ≠ 0 := by
  unfold tokAt at h
  simp only at h
  split at h
  · rename_i h34
    split at h
    · cases h
    · rename_i h0
      simp only [TR.err.injEq] at h
      obtain ⟨rfl, rfl⟩ := h
      have hr := Chr.rd_all _ (l.drop (k + 1)) (Nat.le_refl _)
      have e := Chr.read_in hk h34
      rw [e] at h0 ⊢
      simp only at h0 ⊢
      rw [List.length_drop] at hr
      refine ⟨by omega, by omega⟩
  split at h
  · split at h
    · cases h
    · rename_i h0
      simp only [TR.err.injEq] at h
      obtain ⟨rfl, rfl⟩ := h
      have := readNum_code l k
      refine ⟨by omega, by omega⟩
  split at h
  · cases h
  split at h
  · simp only [TR.err.injEq] at h
    obtain ⟨rfl, rfl⟩ := h
    exact ⟨by omega, by omega⟩
  · cases h

/-- Where tokens begin. -/
theorem tk_ok : ∀ (n : Nat) (l : List UInt8) (k : Nat), l.length ≤ k + n → (tk l k).2.2 = 0 → (tk l k).2.1 = 0 ∧ (∀ t ∈ (tk l k).1, k ≤ t.at_ ∧ t.at_ < l.length ∧ white (l.getD t.at_ 0) = false) ∧ (tk l k).1.Pairwise (fun a b => a.at_ < b.at_)
  | n, l, k, hn, h => by
    by_cases h1 : l.length ≤ k
    · rw [tk_end h1]; simp
    by_cases h2 : white (l.getD k 0) = true
    · rw [tk_white (by omega) h2] at h ⊢
      cases n with
      | zero => omega
      | succ n =>
        obtain ⟨a, b, c⟩ := tk_ok n l (k + 1) (by omega) h
        refine ⟨a, fun t ht => ?_, c⟩
        have := b t ht
        exact ⟨by omega, this.2⟩
    have h2' : white (l.getD k 0) = false := by simpa using h2
    rcases ht : tokAt l k with ⟨e, p⟩ | ⟨t, m⟩
    · have := tokAt_err (by omega) ht
      rw [tk_err (by omega) h2' ht] at h
      exact absurd h this.2
    · have hm := tokAt_next (by omega) ht
      rw [tk_tok (by omega) h2' ht] at h ⊢
      cases n with
      | zero => omega
      | succ n =>
        by_cases h3 : (tk l m).2.2 = 0
        · rw [if_pos h3] at h ⊢
          obtain ⟨a, b, c⟩ := tk_ok n l m (by omega) h3
          refine ⟨rfl, ?_, ?_⟩
          · intro u hu
            rcases List.mem_cons.1 hu with rfl | hu
            · rw [hm.2.2]; exact ⟨by omega, by omega, h2'⟩
            · have := b u hu
              exact ⟨by omega, this.2⟩
          · refine List.pairwise_cons.2 ⟨fun u hu => ?_, c⟩
            have := b u hu
            omega
        · rw [if_neg h3] at h
          exact absurd h h3
theorem tk_bad : ∀ (n : Nat) (l : List UInt8) (k : Nat), l.length ≤ k + n → (tk l k).2.2 ≠ 0 → (tk l k).1 = [] ∧ (tk l k).2.1 ≤ l.length
  | n, l, k, hn, h => by
    by_cases h1 : l.length ≤ k
    · rw [tk_end h1]; simp
    by_cases h2 : white (l.getD k 0) = true
    · rw [tk_white (by omega) h2] at h ⊢
      cases n with
      | zero => omega
      | succ n => exact tk_bad n l (k + 1) (by omega) h
    have h2' : white (l.getD k 0) = false := by simpa using h2
    rcases ht : tokAt l k with ⟨e, p⟩ | ⟨t, m⟩
    · have := tokAt_err (by omega) ht
      rw [tk_err (by omega) h2' ht]
      exact ⟨rfl, this.1⟩
    · have hm := tokAt_next (by omega) ht
      rw [tk_tok (by omega) h2' ht] at h ⊢
      cases n with
      | zero => omega
      | succ n =>
        by_cases h3 : (tk l m).2.2 = 0
        · rw [if_pos h3] at h; simp at h
        · rw [if_neg h3]
          have := tk_bad n l m (by omega) h3
          exact ⟨rfl, this.2⟩

end Go.Proofs.Ytgncdjcbphobmaa.Scn
