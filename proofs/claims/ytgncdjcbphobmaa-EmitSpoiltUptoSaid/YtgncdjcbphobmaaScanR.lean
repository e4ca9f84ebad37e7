/- Tokens further on: what stands ahead of a text moves its tokens. -/
import Derived.Test.YtgncdjcbphobmaaScanQ
namespace Go.Proofs.Ytgncdjcbphobmaa.Scn
set_option linter.unusedVariables false
set_option linter.unusedSimpArgs false

def shTok (m : Nat) (t : Tok) : Tok := { t with at_ := t.at_ + m }
def shTR (m : Nat) : TR → TR
  | .err e q => .err e (q + m)
  | .tok t n => .tok (shTok m t) (n + m)
theorem getD_sh (p l : List UInt8) (k : Nat) : (p ++ l).getD (p.length + k) 0 = l.getD k 0 := by
  rw [List.getD_eq_getElem?_getD, List.getElem?_append_right (by omega), List.getD_eq_getElem?_getD]
  congr 2
  omega
theorem drop_sh (p l : List UInt8) (k : Nat) : (p ++ l).drop (p.length + k) = l.drop k := by
  rw [List.drop_append, List.drop_of_length_le (by omega), List.nil_append]
  congr 1
  omega
theorem read_sh {p l : List UInt8} {k : Nat} (hk : k < l.length) (h : l.getD k 0 = 34) : Chr.read (p ++ l) ((p.length + k : Nat) : Int) = ((Chr.read l k).1, (Chr.read l k).2.1 + p.length, (Chr.read l k).2.2) := by
  rw [Chr.read_in (by simp; omega) (by rw [getD_sh]; exact h), Chr.read_in hk h, show p.length + k + 1 = p.length + (k + 1) by omega, drop_sh]
  simp only [Prod.mk.injEq, true_and, and_true]
  omega
theorem readNum_sh {p l : List UInt8} {k : Nat} (hk : k < l.length) : Nm.readNum (p ++ l) ((p.length + k : Nat) : Int) = ((Nm.readNum l k).1, (Nm.readNum l k).2.1 + p.length, (Nm.readNum l k).2.2) := by
  obtain ⟨f, hf⟩ : ∃ f, f = if l.getD k 0 = 45 then k + 1 else k := ⟨_, rfl⟩
  obtain ⟨E, hE⟩ : ∃ E, f + Nm.digLen (l.drop f) = E := ⟨_, rfl⟩
  have hf' : p.length + f = if (p ++ l).getD (p.length + k) 0 = 45 then p.length + k + 1 else p.length + k := by
    rw [getD_sh, hf]; split <;> omega
  have hE' : (p.length + f) + Nm.digLen ((p ++ l).drop (p.length + f)) = p.length + E := by rw [drop_sh]; omega
  by_cases hb : E = f ∨ (l.getD f 0 = 48 ∧ 1 < E - f) ∨ (E < l.length ∧ (l.getD E 0 = 46 ∨ l.getD E 0 = 101 ∨ l.getD E 0 = 69))
  · rw [Nm.readNum_bad hk hf hE hb, Nm.readNum_bad (by simp; omega) hf' hE' (by
      rw [getD_sh, getD_sh]
      rcases hb with h | h | h
      · left; omega
      · right; left; exact ⟨h.1, by omega⟩
      · right; right; exact ⟨by simp; omega, h.2⟩)]
    simp only [Prod.mk.injEq, true_and, and_true]
    omega
  · rw [Nm.readNum_good hk hf hE hb, Nm.readNum_good (by simp; omega) hf' hE' (by
      rw [getD_sh, getD_sh]
      intro h
      apply hb
      rcases h with h | h | h
      · left; omega
      · right; left; exact ⟨h.1, by omega⟩
      · right; right; exact ⟨by have := h.1; simp at this; omega, h.2⟩), drop_sh, getD_sh, show p.length + E - (p.length + f) = E - f by omega]
    cases Nm.valFrom 0 ((l.drop f).take (E - f)) with
    | none => simp only [Prod.mk.injEq, true_and, and_true]; omega
    | some n => simp only [Prod.mk.injEq, true_and, and_true]; omega
theorem tokAt_sh {p l : List UInt8} {k : Nat} (hk : k < l.length) : tokAt (p ++ l) (p.length + k) = shTR p.length (tokAt l k) := by
  unfold tokAt
  simp only
  rw [getD_sh]
  by_cases h34 : l.getD k 0 = 34
  · rw [if_pos h34, if_pos h34, read_sh hk h34]
    have h1 := Chr.read_in hk h34
    have hn : 0 ≤ (Chr.read l k).2.1 := by rw [h1]; simp only; omega
    simp only
    split
    · simp only [shTR, shTok, TR.tok.injEq, Tok.mk.injEq, true_and]
      omega
    · simp only [shTR, TR.err.injEq, true_and]
      omega
  rw [if_neg h34, if_neg h34]
  by_cases hd : l.getD k 0 = 45 ∨ (48 ≤ (l.getD k 0).toNat ∧ (l.getD k 0).toNat ≤ 57)
  · rw [if_pos hd, if_pos hd, readNum_sh hk]
    have hn : 0 ≤ (Nm.readNum l k).2.1 := by
      rcases readNum_code l k with h | h
      · have := readNum_next hk h; omega
      · omega
    simp only
    split
    · simp only [shTR, shTok, TR.tok.injEq, Tok.mk.injEq, true_and]
      omega
    · simp only [shTR, TR.err.injEq, true_and]
      omega
  rw [if_neg hd, if_neg hd]
  by_cases hm : mark (l.getD k 0) = true
  · rw [if_pos hm, if_pos hm]
    simp only [shTR, shTok, TR.tok.injEq, Tok.mk.injEq, true_and]
    omega
  rw [if_neg hm, if_neg hm, drop_sh]
  split
  · simp only [shTR, TR.err.injEq, true_and]
    omega
  · simp only [shTR, shTok, TR.tok.injEq, Tok.mk.injEq, true_and]
    omega
theorem tk_sh {p : List UInt8} : ∀ (n : Nat) (l : List UInt8) (k : Nat), l.length ≤ k + n → tk (p ++ l) (p.length + k) = ((tk l k).1.map (shTok p.length), if (tk l k).2.2 = 0 then 0 else (tk l k).2.1 + p.length, (tk l k).2.2)
  | n, l, k, hn => by
    by_cases h1 : l.length ≤ k
    · rw [tk_end h1, tk_end (by simp; omega)]; rfl
    have hlen : p.length + k < (p ++ l).length := by simp; omega
    by_cases h2 : white (l.getD k 0) = true
    · rw [tk_white (by omega) h2, tk_white hlen (by rw [getD_sh]; exact h2)]
      cases n with
      | zero => omega
      | succ n => exact tk_sh n l (k + 1) (by omega)
    have h2' : white (l.getD k 0) = false := by simpa using h2
    have h3 : white ((p ++ l).getD (p.length + k) 0) = false := by rw [getD_sh]; exact h2'
    have hs := tokAt_sh (p := p) (l := l) (k := k) (by omega)
    rcases ht : tokAt l k with ⟨e, q⟩ | ⟨t, m⟩
    · rw [ht] at hs
      have := tokAt_err (by omega) ht
      rw [tk_err (by omega) h2' ht, tk_err hlen h3 hs]
      simp only [List.map_nil]
      rw [if_neg this.2]
    · rw [ht] at hs
      have hm := tokAt_next (by omega) ht
      have hs' : tokAt (p ++ l) (p.length + k) = .tok (shTok p.length t) (p.length + m) := by rw [hs]; simp only [shTR, TR.tok.injEq, true_and]; omega
      rw [tk_tok (by omega) h2' ht, tk_tok hlen h3 hs']
      cases n with
      | zero => omega
      | succ n =>
        rw [tk_sh n l m (by omega)]
        simp only
        by_cases h4 : (tk l m).2.2 = 0
        · rw [if_pos h4, if_pos h4]; simp
        · rw [if_neg h4, if_neg h4]
          rw [if_neg h4]
          simp [h4]

end Go.Proofs.Ytgncdjcbphobmaa.Scn
