/- Plain laws of numbers in digits: what is written is read again; All; a digit more. -/
import Derived.Test.YtgncdjcbphobmaaNumsP
namespace Go.Proofs.Ytgncdjcbphobmaa.Nm
set_option linter.unusedVariables false
set_option linter.unusedSimpArgs false

theorem u8_lt (c : UInt8) : c.toNat < 256 := c.toNat_lt
theorem toNat_dig {d : Nat} (h : d < 10) : (UInt8.ofNat (48 + d)).toNat = 48 + d := UInt8.toNat_ofNat_of_lt' (by show _ < 256; omega)
theorem ofNat_dig {c : UInt8} (h : isDig c = true) : UInt8.ofNat (48 + (c.toNat - 48)) = c := by
  have h1 := isDig_iff.1 h
  rw [show 48 + (c.toNat - 48) = c.toNat by omega, UInt8.ofNat_toNat]

theorem putNat_ne (n : Nat) : putNat n ≠ [] := by
  by_cases h : n < 10
  · rw [putNat_lt h]; simp
  · rw [putNat_ge h]; simp

theorem putNat_dig (n : Nat) : ∀ c ∈ putNat n, isDig c = true := by
  induction n using Nat.strongRecOn with
  | ind n ih =>
    by_cases h : n < 10
    · rw [putNat_lt h]
      intro c hc
      rw [List.mem_singleton] at hc
      subst hc
      rw [isDig_iff, toNat_dig h]; omega
    · rw [putNat_ge h]
      intro c hc
      rw [List.mem_append, List.mem_singleton] at hc
      rcases hc with hc | rfl
      · exact ih (n / 10) (by omega) c hc
      · rw [isDig_iff, toNat_dig (by omega)]; omega

theorem putNat_head (n : Nat) (h : 1 ≤ n) : (putNat n).getD 0 0 ≠ 48 := by
  induction n using Nat.strongRecOn with
  | ind n ih =>
    by_cases h1 : n < 10
    · rw [putNat_lt h1]
      intro e
      have e2 : UInt8.ofNat (48 + n) = 48 := e
      have : (UInt8.ofNat (48 + n)).toNat = 48 := by rw [e2]; rfl
      rw [toNat_dig h1] at this
      omega
    · rw [putNat_ge h1]
      have h2 := ih (n / 10) (by omega) (by omega)
      have h3 := putNat_ne (n / 10)
      cases hq : putNat (n / 10) with
      | nil => exact absurd hq h3
      | cons c l => rw [hq] at h2; simpa using h2

theorem valFrom_app (a b : List UInt8) : ∀ n, valFrom n (a ++ b) = (valFrom n a).bind fun m => valFrom m b := by
  induction a with
  | nil => intro n; rfl
  | cons c a ih =>
    intro n
    rw [List.cons_append, valFrom, valFrom]
    split
    · rfl
    · exact ih _

theorem valFrom_putNat (n : Nat) : valFrom 0 (putNat n) = if n > 9007199254740991 then none else some n := by
  induction n using Nat.strongRecOn with
  | ind n ih =>
    by_cases h : n < 10
    · rw [putNat_lt h, valFrom, toNat_dig h, if_neg (by omega), if_neg (by omega)]
      simp [valFrom]
    · rw [putNat_ge h, valFrom_app, ih (n / 10) (by omega)]
      by_cases h1 : n / 10 > 9007199254740991
      · rw [if_pos h1, if_pos (by omega)]; rfl
      · rw [if_neg h1]
        simp only [Option.bind_some]
        rw [valFrom, toNat_dig (by omega), show n / 10 * 10 + (48 + n % 10 - 48) = n by omega]
        rfl

theorem digLen_all {a : List UInt8} (h : ∀ c ∈ a, isDig c = true) (b : List UInt8) : digLen (a ++ b) = a.length + digLen b := by
  induction a with
  | nil => simp
  | cons c a ih =>
    rw [List.cons_append, digLen, if_pos (h c (by simp)), ih (fun d hd => h d (by simp [hd]))]
    simp; omega

/-- What digits without a needless nought say is written as they are. -/
theorem putNat_val (D : List UInt8) : ∀ (k : Nat), D.length ≤ k → (∀ c ∈ D, isDig c = true) → D ≠ [] → D.getD 0 0 ≠ 48 → ∀ m, valFrom 0 D = some m → putNat m = D ∧ 1 ≤ m
  | 0, hk, _, hn, _, m, _ => absurd (List.eq_nil_of_length_eq_zero (by omega)) hn
  | k + 1, hk, hd, hn, hh, m, hv => by
    rcases List.eq_nil_or_concat D with rfl | ⟨A, c, rfl⟩
    · exact absurd rfl hn
    · simp only [List.concat_eq_append] at *
      have hc := hd c (by simp)
      have hc2 := isDig_iff.1 hc
      rw [valFrom_app] at hv
      by_cases hA : A = []
      · subst hA
        have hv2 : valFrom 0 [c] = some m := hv
        rw [valFrom] at hv2
        split at hv2
        · cases hv2
        · simp [valFrom] at hv2
          subst hv2
          have h48 : c ≠ 48 := by simpa using hh
          have h2 : c.toNat ≠ 48 := fun e => h48 (UInt8.toNat_inj.1 e)
          rw [putNat_lt (by omega), ofNat_dig hc]
          exact ⟨rfl, by omega⟩
      · have hh2 : A.getD 0 0 ≠ 48 := by
          cases A with
          | nil => exact absurd rfl hA
          | cons a A => simpa using hh
        cases hq : valFrom 0 A with
        | none => rw [hq] at hv; cases hv
        | some q =>
          obtain ⟨h1, h2⟩ := putNat_val A k (by simp at hk; omega) (fun d hd' => hd d (by simp [hd'])) hA hh2 q hq
          rw [hq] at hv
          simp only [Option.bind_some] at hv
          rw [valFrom] at hv
          split at hv
          · cases hv
          · simp [valFrom] at hv
            subst hv
            rw [putNat_ge (by omega), show (q * 10 + (c.toNat - 48)) / 10 = q by omega, show (q * 10 + (c.toNat - 48)) % 10 = c.toNat - 48 by omega, h1, ofNat_dig hc]
            exact ⟨rfl, by omega⟩

/-- The number whose digits a text is. -/
def allNum (l : List UInt8) : Option Int :=
  if (readNum l 0).2.2 = 0 ∧ (readNum l 0).2.1 = l.length ∧ put (readNum l 0).1 = l then some (readNum l 0).1 else none
def refAll (l : List UInt8) : Option Int :=
  if (readNum l 0).2.2 = 0 ∧ (readNum l 0).2.1 = l.length ∧ l ≠ [45, 48] then some (readNum l 0).1 else none

/-- How a number that was read came to be. -/
theorem readNum_ok {l : List UInt8} {k : Nat} (h : (readNum l k).2.2 = 0) :
    ∃ f E n, k < l.length ∧ (f = if l.getD k 0 = 45 then k + 1 else k) ∧ f + digLen (l.drop f) = E ∧
      ¬ (E = f ∨ (l.getD f 0 = 48 ∧ 1 < E - f) ∨ (E < l.length ∧ (l.getD E 0 = 46 ∨ l.getD E 0 = 101 ∨ l.getD E 0 = 69))) ∧
      valFrom 0 ((l.drop f).take (E - f)) = some n ∧ readNum l k = (if l.getD k 0 = 45 then -(n : Int) else n, (E : Int), 0) := by
  by_cases hk : k < l.length
  · obtain ⟨f, hf⟩ : ∃ f, f = if l.getD k 0 = 45 then k + 1 else k := ⟨_, rfl⟩
    obtain ⟨E, hE⟩ : ∃ E, f + digLen (l.drop f) = E := ⟨_, rfl⟩
    by_cases hb : E = f ∨ (l.getD f 0 = 48 ∧ 1 < E - f) ∨ (E < l.length ∧ (l.getD E 0 = 46 ∨ l.getD E 0 = 101 ∨ l.getD E 0 = 69))
    · rw [readNum_bad hk hf hE hb] at h; cases h
    · have hg := readNum_good hk hf hE hb
      cases hv : valFrom 0 ((l.drop f).take (E - f)) with
      | none => rw [hg, hv] at h; cases h
      | some n => exact ⟨f, E, n, hk, hf, hE, hb, hv, by rw [hg, hv]⟩
  · rw [readNum_out (by omega)] at h; cases h

theorem readNum_cases (l : List UInt8) (a : Int) : (readNum l a).2.2 = 0 ∨ readNum l a = (0, a, 30) := by
  by_cases ha : a < 0 ∨ (l.length : Int) ≤ a
  · right; exact readNum_out ha
  · obtain ⟨k, rfl⟩ : ∃ k : Nat, a = k := ⟨a.toNat, by omega⟩
    have hk : k < l.length := by omega
    obtain ⟨f, hf⟩ : ∃ f, f = if l.getD k 0 = 45 then k + 1 else k := ⟨_, rfl⟩
    obtain ⟨E, hE⟩ : ∃ E, f + digLen (l.drop f) = E := ⟨_, rfl⟩
    by_cases hb : E = f ∨ (l.getD f 0 = 48 ∧ 1 < E - f) ∨ (E < l.length ∧ (l.getD E 0 = 46 ∨ l.getD E 0 = 101 ∨ l.getD E 0 = 69))
    · right; exact readNum_bad hk hf hE hb
    · have hg := readNum_good hk hf hE hb
      cases hv : valFrom 0 ((l.drop f).take (E - f)) with
      | none => right; rw [hg, hv]
      | some n => left; rw [hg, hv]

theorem valFrom_le : ∀ (l : List UInt8) (n m : Nat), n ≤ 9007199254740991 → valFrom n l = some m → m ≤ 9007199254740991
  | [], n, m, h, e => by simp [valFrom] at e; omega
  | c :: l, n, m, h, e => by
    unfold valFrom at e
    split at e
    · simp at e
    · exact valFrom_le l _ m (by omega) e

theorem readNum_bounds (l : List UInt8) (a : Int) : -9007199254740991 ≤ (readNum l a).1 ∧ (readNum l a).1 ≤ 9007199254740991 := by
  rcases readNum_cases l a with h | h
  · by_cases ha : 0 ≤ a
    · obtain ⟨k, rfl⟩ : ∃ k : Nat, a = k := ⟨a.toNat, by omega⟩
      obtain ⟨f, E, n, _, _, _, _, hv, e⟩ := readNum_ok h
      have := valFrom_le _ 0 n (by omega) hv
      rw [e]
      simp only
      split <;> omega
    · rw [readNum_out (.inl (by omega))]; simp
  · rw [h]; simp

theorem refAll_eq (l : List UInt8) : refAll l = allNum l := by
  unfold refAll allNum
  by_cases h1 : (readNum l 0).2.2 = 0 ∧ (readNum l 0).2.1 = l.length
  · have h2 : l ≠ [45, 48] ↔ put (readNum l 0).1 = l := by
      obtain ⟨h1, h3⟩ := h1
      obtain ⟨f, E, n, hk, hf, hE, hb, hv, e⟩ := readNum_ok (k := 0) h1
      have e' : readNum l 0 = (if l.getD 0 0 = 45 then -(n : Int) else n, (E : Int), 0) := e
      rw [e'] at h3 ⊢
      have hEl : E = l.length := by
        have h3' : (E : Int) = l.length := h3
        omega
      have hD : (l.drop f).take (E - f) = l.drop f := by rw [List.take_of_length_le (by simp; omega)]
      rw [hD] at hv
      have hfl : f < l.length := by
        rcases Nat.lt_or_ge f l.length with h | h
        · exact h
        · exfalso; apply hb; left
          have : digLen (l.drop f) = 0 := by rw [List.drop_of_length_le h]; rfl
          omega
      have hDd : ∀ c ∈ l.drop f, isDig c = true := by
        have h4 := digLen_take (l.drop f)
        rwa [show digLen (l.drop f) = E - f by omega, hD] at h4
      have hDn : l.drop f ≠ [] := by
        intro h; have := congrArg List.length h; simp at this; omega
      have hDh : (l.drop f).getD 0 0 = l.getD f 0 := by simp [List.getD_eq_getElem?_getD, List.getElem?_drop]
      simp only
      -- whether the digits begin with a nought
      by_cases h48 : l.getD f 0 = 48
      · have hlen : E - f = 1 := by
          have h7 : E - f ≤ 1 := Nat.le_of_not_lt fun x => hb (.inr (.inl ⟨h48, x⟩))
          omega
        have hD1 : l.drop f = [48] := by
          have h5 : (l.drop f).length = 1 := by simp; omega
          match hq : l.drop f, h5 with
          | [x], _ => rw [hq] at hDh; have hDh' : x = l.getD f 0 := hDh; rw [hDh', h48]
        have hn0 : n = 0 := by rw [hD1] at hv; simp [valFrom] at hv; omega
        subst hn0
        by_cases h45 : l.getD 0 0 = 45
        · rw [if_pos h45] at hf ⊢
          subst hf
          have hl : l = [45, 48] := by
            cases l with
            | nil => simp at hfl
            | cons a t => simp at hD1 h45; rw [h45, hD1]
          rw [hl]
          simp [put, putNat_lt]
        · rw [if_neg h45] at hf ⊢
          subst hf
          have hl : l = [48] := by simpa using hD1
          rw [hl]
          simp [put, putNat_lt]
      · obtain ⟨h5, h6⟩ := putNat_val (l.drop f) _ (Nat.le_refl _) hDd hDn (by rw [hDh]; exact h48) n hv
        by_cases h45 : l.getD 0 0 = 45
        · rw [if_pos h45] at hf ⊢
          subst hf
          have hl : l = 45 :: l.drop 1 := by
            cases l with
            | nil => simp at hfl
            | cons a t => simp at h45; simp [h45]
          constructor
          · intro _
            rw [put, if_pos (by omega), show (-(n : Int)).natAbs = n by omega, h5]
            exact hl.symm
          · intro _ h7
            rw [h7] at h48
            simp at h48
        · rw [if_neg h45] at hf ⊢
          subst hf
          constructor
          · intro _
            rw [put, if_neg (by omega), show ((n : Int)).natAbs = n by omega, h5]
            rfl
          · intro _ h7
            rw [h7] at h45
            simp at h45
    obtain ⟨h1, h3⟩ := h1
    simp only [h1, h3, h2, true_and]
  · rw [if_neg (fun h => h1 ⟨h.1, h.2.1⟩), if_neg (fun h => h1 ⟨h.1, h.2.1⟩)]

end Go.Proofs.Ytgncdjcbphobmaa.Nm
