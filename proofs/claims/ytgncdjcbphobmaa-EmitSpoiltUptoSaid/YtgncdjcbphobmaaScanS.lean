/- A token is told by its own bytes and by white space behind them. -/
import Derived.Test.YtgncdjcbphobmaaScanR
namespace Go.Proofs.Ytgncdjcbphobmaa.Scn
set_option linter.unusedVariables false
set_option linter.unusedSimpArgs false

theorem white_cases {g : UInt8} (h : white g = true) : g = 32 ∨ g = 9 ∨ g = 10 ∨ g = 13 := by
  simp [white] at h
  rcases h with ((h | h) | h) | h <;> simp [h]
theorem white_num {g : UInt8} (h : white g = true) : Nm.isDig g = false ∧ g ≠ 46 ∧ g ≠ 101 ∧ g ≠ 69 ∧ part g = false := by
  rcases white_cases h with rfl | rfl | rfl | rfl <;> exact ⟨by decide, by decide, by decide, by decide, by decide⟩
theorem white_word {g : UInt8} (h : white g = true) : g ∉ wTrue ∧ g ∉ wFalse ∧ g ∉ wNull := by
  rcases white_cases h with rfl | rfl | rfl | rfl <;> exact ⟨by decide, by decide, by decide⟩
theorem getD_app {l u : List UInt8} {k : Nat} (h : k < l.length) : (l ++ u).getD k 0 = l.getD k 0 := by
  rw [List.getD_eq_getElem?_getD, List.getElem?_append_left h, List.getD_eq_getElem?_getD]
theorem digLen_app {g : UInt8} (hg : Nm.isDig g = false) (u : List UInt8) : ∀ x : List UInt8, Nm.digLen (x ++ g :: u) = Nm.digLen x
  | [] => by simp [Nm.digLen, hg]
  | c :: x => by
    simp only [List.cons_append, Nm.digLen]
    rw [digLen_app hg u x]
theorem drop_app {l u : List UInt8} {k : Nat} (h : k ≤ l.length) : (l ++ u).drop k = l.drop k ++ u := by
  rw [List.drop_append, show k - l.length = 0 by omega, List.drop_zero]
theorem readNum_local {l u : List UInt8} {k : Nat} {g : UInt8} (hg : white g = true) (hk : k < l.length) (h : (Nm.readNum l k).2.2 = 0) : Nm.readNum (l ++ g :: u) k = Nm.readNum l k := by
  obtain ⟨g1, g2, g3, g4, _⟩ := white_num hg
  obtain ⟨f, hf⟩ : ∃ f, f = if l.getD k 0 = 45 then k + 1 else k := ⟨_, rfl⟩
  obtain ⟨E, hE⟩ : ∃ E, f + Nm.digLen (l.drop f) = E := ⟨_, rfl⟩
  have hfl : f ≤ l.length := by subst hf; split <;> omega
  have hd := Nm.digLen_le (l.drop f)
  simp only [List.length_drop] at hd
  have hf' : f = if (l ++ g :: u).getD k 0 = 45 then k + 1 else k := by rw [getD_app hk]; exact hf
  have hE' : f + Nm.digLen ((l ++ g :: u).drop f) = E := by rw [drop_app hfl, digLen_app g1]; exact hE
  by_cases hb : E = f ∨ (l.getD f 0 = 48 ∧ 1 < E - f) ∨ (E < l.length ∧ (l.getD E 0 = 46 ∨ l.getD E 0 = 101 ∨ l.getD E 0 = 69))
  · rw [Nm.readNum_bad hk hf hE hb] at h; simp at h
  · have hEf : E ≠ f := fun e => hb (.inl e)
    have hft : ((l ++ g :: u).drop f).take (E - f) = (l.drop f).take (E - f) := by
      rw [drop_app hfl, List.take_append_of_le_length (by simp; omega)]
    rw [Nm.readNum_good hk hf hE hb, Nm.readNum_good (by simp; omega) hf' hE' (by
      rw [getD_app (show f < l.length by omega)]
      intro h
      apply hb
      rcases h with h | h | h
      · exact .inl h
      · exact .inr (.inl h)
      · right; right
        by_cases hEl : E < l.length
        · rw [getD_app hEl] at h
          exact ⟨hEl, h.2⟩
        · exfalso
          have e : (l ++ g :: u).getD E 0 = g := by
            rw [show E = l.length by omega]
            simp [List.getD_eq_getElem?_getD]
          rw [e] at h
          rcases h.2 with h | h | h
          · exact g2 h
          · exact g3 h
          · exact g4 h), hft, getD_app hk]
theorem pre_local {w d u : List UInt8} {g : UInt8} (hg : part g = false) (hw : g ∉ w) : pre w (d ++ g :: u) = pre w d := by
  unfold pre
  by_cases h1 : w.length ≤ d.length
  · rw [List.take_append_of_le_length h1]
    by_cases h2 : d.length = w.length
    · have e : (d ++ g :: u).getD w.length 0 = g := by rw [← h2]; simp [List.getD_eq_getElem?_getD]
      rw [e, hg, h2]
      simp
    · rw [getD_app (show w.length < d.length by omega)]
      have a1 : ((d ++ g :: u).length == w.length) = false := by rw [beq_eq_false_iff_ne]; simp; omega
      have a2 : (d.length == w.length) = false := by rw [beq_eq_false_iff_ne]; omega
      rw [a1, a2]
  · have b1 : (d.take w.length == w) = false := by
      rw [beq_eq_false_iff_ne]
      intro e
      have := congrArg List.length e
      simp at this
      omega
    have b2 : ((d ++ g :: u).take w.length == w) = false := by
      rw [beq_eq_false_iff_ne]
      intro e
      apply hw
      rw [← e, List.take_append, List.mem_append]
      right
      obtain ⟨m, hm⟩ : ∃ m, w.length - d.length = m + 1 := ⟨w.length - d.length - 1, by omega⟩
      rw [hm, List.take_succ_cons]
      exact List.mem_cons_self
    rw [b1, b2]; rfl
theorem wordLen_local {d u : List UInt8} {g : UInt8} (hg : white g = true) : wordLen (d ++ g :: u) = wordLen d := by
  obtain ⟨_, _, _, _, hp⟩ := white_num hg
  obtain ⟨h1, h2, h3⟩ := white_word hg
  unfold wordLen
  rw [pre_local hp h1, pre_local hp h2, pre_local hp h3]
theorem read_local {l v : List UInt8} {k : Nat} (h : (Chr.read l k).2.2 = 0) : Chr.read (l ++ v) k = Chr.read l k := by
  have hr := Chr.read_right h
  have e : l ++ v = l.take (Chr.read l k).2.1.toNat ++ (l.drop (Chr.read l k).2.1.toNat ++ v) := by
    rw [← List.append_assoc, List.take_append_drop]
  rw [e, Chr.read_take _ h]
theorem tokAt_local {l u : List UInt8} {k n : Nat} {g : UInt8} {t : Tok} (hg : white g = true) (hk : k < l.length) (h : tokAt l k = .tok t n) : tokAt (l ++ g :: u) k = .tok t n := by
  have h0 := h
  unfold tokAt at h ⊢
  simp only at h ⊢
  rw [getD_app hk]
  by_cases h34 : l.getD k 0 = 34
  · rw [if_pos h34] at h ⊢
    by_cases hc : (Chr.read l k).2.2 = 0
    · rw [read_local hc]; exact h
    · rw [if_neg hc] at h; cases h
  rw [if_neg h34] at h ⊢
  by_cases hd : l.getD k 0 = 45 ∨ (48 ≤ (l.getD k 0).toNat ∧ (l.getD k 0).toNat ≤ 57)
  · rw [if_pos hd] at h ⊢
    by_cases hc : (Nm.readNum l k).2.2 = 0
    · rw [readNum_local hg hk hc]; exact h
    · rw [if_neg hc] at h; cases h
  rw [if_neg hd] at h ⊢
  by_cases hm : mark (l.getD k 0) = true
  · rw [if_pos hm] at h ⊢; exact h
  rw [if_neg hm] at h ⊢
  rw [drop_app (by omega), wordLen_local hg]
  by_cases hw : wordLen (l.drop k) = 0
  · rw [if_pos hw] at h; cases h
  · rw [if_neg hw] at h ⊢
    rw [← h, List.take_append_of_le_length (wordLen_le _).1]
/-- Behind tokens and white space the scan goes on. -/
theorem tk_local {l u : List UInt8} {g : UInt8} (hg : white g = true) : ∀ (n k : Nat), l.length ≤ k + n → k ≤ l.length → (tk l k).2.2 = 0 →
    tk (l ++ g :: u) k = if (tk (l ++ g :: u) l.length).2.2 = 0 then ((tk l k).1 ++ (tk (l ++ g :: u) l.length).1, 0, 0) else ([], (tk (l ++ g :: u) l.length).2)
  | n, k, hn, hkl, h => by
    by_cases h1 : l.length ≤ k
    · obtain rfl : k = l.length := by omega
      rw [tk_end h1]
      split
      · rename_i h2
        have h3 := tk_ok (l ++ g :: u).length (l ++ g :: u) l.length (by omega) h2
        rw [List.nil_append]
        apply Prod.ext
        · rfl
        · exact Prod.ext h3.1 h2
      · rename_i h2
        have h3 := tk_bad (l ++ g :: u).length (l ++ g :: u) l.length (by omega) h2
        apply Prod.ext
        · exact h3.1
        · rfl
    have hlen : k < (l ++ g :: u).length := by simp; omega
    by_cases h2 : white (l.getD k 0) = true
    · rw [tk_white (by omega) h2] at h ⊢
      rw [tk_white hlen (by rw [getD_app (by omega)]; exact h2)]
      cases n with
      | zero => omega
      | succ n => exact tk_local hg n (k + 1) (by omega) (by omega) h
    have h2' : white (l.getD k 0) = false := by simpa using h2
    rcases ht : tokAt l k with ⟨e, q⟩ | ⟨t, m⟩
    · have := tokAt_err (by omega) ht
      rw [tk_err (by omega) h2' ht] at h
      exact absurd h this.2
    · have hm := tokAt_next (by omega) ht
      have hl := tokAt_local (u := u) hg (by omega) ht
      rw [tk_tok (by omega) h2' ht] at h ⊢
      rw [tk_tok hlen (by rw [getD_app (by omega)]; exact h2') hl]
      cases n with
      | zero => omega
      | succ n =>
        by_cases h3 : (tk l m).2.2 = 0
        · rw [if_pos h3]
          rw [tk_local hg n m (by omega) (by omega) h3]
          by_cases h4 : (tk (l ++ g :: u) l.length).2.2 = 0
          · rw [if_pos h4, if_pos h4]; simp
          · rw [if_neg h4, if_neg h4]
            simp only
            rw [if_neg h4]
        · rw [if_neg h3] at h
          exact absurd h h3

/-- Of two texts with white space between them. -/
theorem tk_split {s t : List UInt8} {g : UInt8} (hg : white g = true) (h : (tk s 0).2.2 = 0) :
    tk (s ++ g :: t) 0 = if (tk t 0).2.2 = 0 then ((tk s 0).1 ++ (tk t 0).1.map (shTok (s.length + 1)), 0, 0) else ([], (tk t 0).2.1 + (s.length + 1), (tk t 0).2.2) := by
  have h1 := tk_local (u := t) hg s.length 0 (by omega) (by omega) h
  have h2 : tk (s ++ g :: t) s.length = tk (s ++ g :: t) (s.length + 1) := by
    apply tk_white
    · simp
    · have e : (s ++ g :: t).getD s.length 0 = g := by simp [List.getD_eq_getElem?_getD]
      rw [e]; exact hg
  have h3 := tk_sh (p := s ++ [g]) t.length t 0 (by omega)
  have e1 : s ++ [g] ++ t = s ++ g :: t := by simp
  have e2 : (s ++ [g]).length = s.length + 1 := by simp
  rw [e1, e2, Nat.add_zero] at h3
  rw [h1, h2, h3]
  simp only
  by_cases h4 : (tk t 0).2.2 = 0
  · rw [if_pos h4, if_pos h4]
  · rw [if_neg h4, if_neg h4, if_neg h4]

end Go.Proofs.Ytgncdjcbphobmaa.Scn
