/- Plain mathematics of tokens: no program in sight. -/
import Derived.Test.YtgncdjcbphobmaaCharsP
namespace Go.Proofs.Ytgncdjcbphobmaa.Scn
set_option linter.unusedVariables false
set_option linter.unusedSimpArgs false

structure Tok where
  kind : Nat
  n : Int
  s : List UInt8
  at_ : Nat

def white (c : UInt8) : Bool := c == 32 || c == 9 || c == 10 || c == 13
def part (c : UInt8) : Bool := (decide (97 ≤ c.toNat) && decide (c.toNat ≤ 122)) || (decide (65 ≤ c.toNat) && decide (c.toNat ≤ 90)) || (decide (48 ≤ c.toNat) && decide (c.toNat ≤ 57)) || c == 95
def mark (c : UInt8) : Bool := c == 123 || c == 125 || c == 91 || c == 93 || c == 58 || c == 44
/-- Does a word stand there, and nothing that goes on with it? -/
def pre (w d : List UInt8) : Bool := d.take w.length == w && (d.length == w.length || !part (d.getD w.length 0))
def wTrue : List UInt8 := [116, 114, 117, 101]
def wFalse : List UInt8 := [102, 97, 108, 115, 101]
def wNull : List UInt8 := [110, 117, 108, 108]
def wordLen (d : List UInt8) : Nat := if pre wTrue d then 4 else if pre wFalse d then 5 else if pre wNull d then 4 else 0

inductive TR
  | err : Nat → Nat → TR
  | tok : Tok → Nat → TR

/-- The token that begins at a place. -/
def tokAt (l : List UInt8) (k : Nat) : TR :=
  let c := l.getD k 0
  if c = 34 then (let r := Chr.read l k; if r.2.2 = 0 then .tok ⟨4, 0, r.1, k⟩ r.2.1.toNat else .err r.2.2.toNat r.2.1.toNat)
  else if c = 45 ∨ (48 ≤ c.toNat ∧ c.toNat ≤ 57) then (let r := Nm.readNum l k; if r.2.2 = 0 then .tok ⟨3, r.1, [], k⟩ r.2.1.toNat else .err r.2.2.toNat r.2.1.toNat)
  else if mark c then .tok ⟨1, 0, [c], k⟩ (k + 1)
  else if wordLen (l.drop k) = 0 then .err 40 k
  else .tok ⟨2, 0, (l.drop k).take (wordLen (l.drop k)), k⟩ (k + wordLen (l.drop k))

def toks : Nat → List UInt8 → Nat → List Tok × Nat × Nat
  | 0, _, _ => ([], 0, 0)
  | f + 1, l, k =>
    if l.length ≤ k then ([], 0, 0)
    else if white (l.getD k 0) then toks f l (k + 1)
    else match tokAt l k with
      | .err e p => ([], p, e)
      | .tok t n => if (toks f l n).2.2 = 0 then (t :: (toks f l n).1, 0, 0) else ([], (toks f l n).2)
def tokens (l : List UInt8) : List Tok × Nat × Nat := if 65536 < l.length then ([], 0, 2) else toks (l.length + 1) l 0

theorem pre_len {w d : List UInt8} (h : pre w d = true) : w.length ≤ d.length := by
  simp only [pre, Bool.and_eq_true, beq_iff_eq] at h
  have := congrArg List.length h.1
  simp at this
  omega
theorem wordLen_le (d : List UInt8) : wordLen d ≤ d.length ∧ wordLen d ≤ 5 := by
  unfold wordLen
  split
  · rename_i h; have := pre_len h; simp [wTrue] at this; omega
  split
  · rename_i h; have := pre_len h; simp [wFalse] at this; omega
  split
  · rename_i h; have := pre_len h; simp [wNull] at this; omega
  · omega

theorem readNum_code (l : List UInt8) (a : Int) : (Nm.readNum l a).2.2 = 0 ∨ ((Nm.readNum l a).2.2 = 30 ∧ (Nm.readNum l a).2.1 = a) := by
  by_cases ho : a < 0 ∨ (l.length : Int) ≤ a
  · rw [Nm.readNum_out ho]; right; exact ⟨rfl, rfl⟩
  obtain ⟨k, rfl⟩ : ∃ k : Nat, a = k := ⟨a.toNat, by omega⟩
  have hk : k < l.length := by omega
  obtain ⟨f, hf⟩ : ∃ f, f = if l.getD k 0 = 45 then k + 1 else k := ⟨_, rfl⟩
  obtain ⟨E, hE⟩ : ∃ E, f + Nm.digLen (l.drop f) = E := ⟨_, rfl⟩
  by_cases hb : E = f ∨ (l.getD f 0 = 48 ∧ 1 < E - f) ∨ (E < l.length ∧ (l.getD E 0 = 46 ∨ l.getD E 0 = 101 ∨ l.getD E 0 = 69))
  · rw [Nm.readNum_bad hk hf hE hb]; right; exact ⟨rfl, rfl⟩
  · rw [Nm.readNum_good hk hf hE hb]
    cases hv : Nm.valFrom 0 ((l.drop f).take (E - f)) with
    | none => right; exact ⟨rfl, rfl⟩
    | some n => left; rfl
theorem readNum_next {l : List UInt8} {k : Nat} (hk : k < l.length) (h : (Nm.readNum l k).2.2 = 0) : (k : Int) < (Nm.readNum l k).2.1 ∧ (Nm.readNum l k).2.1 ≤ l.length := by
  obtain ⟨f, hf⟩ : ∃ f, f = if l.getD k 0 = 45 then k + 1 else k := ⟨_, rfl⟩
  obtain ⟨E, hE⟩ : ∃ E, f + Nm.digLen (l.drop f) = E := ⟨_, rfl⟩
  have hd := Nm.digLen_le (l.drop f)
  have hfk : k ≤ f ∧ f ≤ k + 1 := by subst hf; split <;> omega
  simp only [List.length_drop] at hd
  by_cases hb : E = f ∨ (l.getD f 0 = 48 ∧ 1 < E - f) ∨ (E < l.length ∧ (l.getD E 0 = 46 ∨ l.getD E 0 = 101 ∨ l.getD E 0 = 69))
  · rw [Nm.readNum_bad hk hf hE hb] at h; simp at h
  · rw [Nm.readNum_good hk hf hE hb] at h ⊢
    cases hv : Nm.valFrom 0 ((l.drop f).take (E - f)) with
    | none => rw [hv] at h; simp at h
    | some n =>
      have : E ≠ f := fun e => hb (.inl e)
      simp only
      omega

theorem tokAt_next {l : List UInt8} {k n : Nat} {t : Tok} (hk : k < l.length) (h : tokAt l k = .tok t n) : k < n ∧ n ≤ l.length ∧ t.at_ = k := by
  unfold tokAt at h
  simp only at h
  split at h
  · split at h
    · rename_i h0
      simp only [TR.tok.injEq] at h
      obtain ⟨rfl, rfl⟩ := h
      have hr := Chr.rd_all _ (l.drop (k + 1)) (Nat.le_refl _)
      rename_i h34 
      have e := Chr.read_in hk h34
      rw [e] at h0 ⊢
      simp only at h0 ⊢
      rw [List.length_drop] at hr
      refine ⟨by omega, by omega, ?_⟩
      trivial
    · cases h
  split at h
  · split at h
    · rename_i h0
      simp only [TR.tok.injEq] at h
      obtain ⟨rfl, rfl⟩ := h
      have := readNum_next hk h0
      exact ⟨by omega, by omega, rfl⟩
    · cases h
  split at h
  · simp only [TR.tok.injEq] at h
    obtain ⟨rfl, rfl⟩ := h
    exact ⟨by omega, by omega, rfl⟩
  split at h
  · cases h
  · simp only [TR.tok.injEq] at h
    obtain ⟨rfl, rfl⟩ := h
    have := wordLen_le (l.drop k)
    simp only [List.length_drop] at this
    exact ⟨by omega, by omega, rfl⟩

theorem toks_more : ∀ (f g : Nat) (l : List UInt8) (k : Nat), l.length < k + f → l.length < k + g → toks f l k = toks g l k
  | 0, 0, l, k, _, _ => rfl
  | 0, g + 1, l, k, h, _ => by unfold toks; rw [if_pos (by omega)]
  | f + 1, 0, l, k, _, h => by conv => lhs; unfold toks; rw [if_pos (by omega)]
                               rfl
  | f + 1, g + 1, l, k, h, h' => by
    unfold toks
    by_cases h1 : l.length ≤ k
    · rw [if_pos h1, if_pos h1]
    rw [if_neg h1, if_neg h1]
    by_cases h2 : white (l.getD k 0) = true
    · rw [if_pos h2, if_pos h2]
      exact toks_more f g l (k + 1) (by omega) (by omega)
    rw [if_neg h2, if_neg h2]
    rcases ht : tokAt l k with ⟨e, p⟩ | ⟨t, n⟩
    · rfl
    · have := tokAt_next (by omega) ht
      simp only
      rw [toks_more f g l n (by omega) (by omega)]
/-- The tokens from a place on. -/
def tk (l : List UInt8) (k : Nat) : List Tok × Nat × Nat := toks (l.length + 1) l k
theorem tk_end {l : List UInt8} {k : Nat} (h : l.length ≤ k) : tk l k = ([], 0, 0) := by unfold tk toks; rw [if_pos h]
theorem tk_white {l : List UInt8} {k : Nat} (h : k < l.length) (hw : white (l.getD k 0) = true) : tk l k = tk l (k + 1) := by
  conv => lhs; unfold tk toks
  rw [if_neg (by omega), if_pos hw]
  exact toks_more _ _ l (k + 1) (by omega) (by omega)
theorem tk_err {l : List UInt8} {k e p : Nat} (h : k < l.length) (hw : white (l.getD k 0) = false) (ht : tokAt l k = .err e p) : tk l k = ([], p, e) := by
  unfold tk toks
  rw [if_neg (by omega), if_neg (by rw [hw]; simp), ht]
theorem tk_tok {l : List UInt8} {k n : Nat} {t : Tok} (h : k < l.length) (hw : white (l.getD k 0) = false) (ht : tokAt l k = .tok t n) : tk l k = if (tk l n).2.2 = 0 then (t :: (tk l n).1, 0, 0) else ([], (tk l n).2) := by
  have h1 := tokAt_next h ht
  conv => lhs; unfold tk toks
  rw [if_neg (by omega), if_neg (by rw [hw]; simp), ht]
  simp only
  rw [toks_more l.length (l.length + 1) l n (by omega) (by omega)]
  rfl

end Go.Proofs.Ytgncdjcbphobmaa.Scn
