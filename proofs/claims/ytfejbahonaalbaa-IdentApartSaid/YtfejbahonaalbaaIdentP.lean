/- Plain mathematics of ids and states: no program in sight. -/
import Derived.Test.YtfejbahonaalbaaNumsR
namespace Go.Proofs.Ytfejbahonaalbaa.Idn
set_option linter.unusedVariables false
set_option linter.unusedSimpArgs false
open Nm

/-- May a byte stand in an id? -/
def okc (c : UInt8) : Bool := (decide (97 ≤ c.toNat) && decide (c.toNat ≤ 122)) || (decide (65 ≤ c.toNat) && decide (c.toNat ≤ 90)) || (decide (48 ≤ c.toNat) && decide (c.toNat ≤ 57)) || decide (c.toNat = 45) || decide (c.toNat = 95)
theorem okc_true {c : UInt8} (h : okc c = true) : (97 ≤ c.toNat ∧ c.toNat ≤ 122) ∨ (65 ≤ c.toNat ∧ c.toNat ≤ 90) ∨ (48 ≤ c.toNat ∧ c.toNat ≤ 57) ∨ c.toNat = 45 ∨ c.toNat = 95 := by
  simp [okc] at h; omega
theorem okc_false {c : UInt8} (h : okc c = false) : c.toNat < 45 ∨ (45 < c.toNat ∧ c.toNat < 48) ∨ (57 < c.toNat ∧ c.toNat < 65) ∨ (90 < c.toNat ∧ c.toNat < 95) ∨ c.toNat = 96 ∨ 122 < c.toNat := by
  simp [okc] at h; omega
def isId (l : List UInt8) : Bool := decide (1 ≤ l.length) && decide (l.length ≤ 255) && l.all okc

/-- A digit to the base 32. -/
def d32 (n : Nat) : UInt8 := if n < 10 then UInt8.ofNat (48 + n) else UInt8.ofNat (87 + n)
def v32 (c : UInt8) : Option Nat := if 48 ≤ c.toNat ∧ c.toNat ≤ 57 then some (c.toNat - 48) else if 97 ≤ c.toNat ∧ c.toNat ≤ 118 then some (c.toNat - 87) else none
theorem d32_toNat {n : Nat} (h : n < 32) : (d32 n).toNat = if n < 10 then 48 + n else 87 + n := by
  unfold d32
  split
  · exact UInt8.toNat_ofNat_of_lt' (by show _ < 256; omega)
  · exact UInt8.toNat_ofNat_of_lt' (by show _ < 256; omega)
theorem v32_d32 {n : Nat} (h : n < 32) : v32 (d32 n) = some n := by
  have e := d32_toNat h
  unfold v32
  rw [e]
  by_cases h1 : n < 10
  · rw [if_pos h1, if_pos (by omega)]; simp
  · rw [if_neg h1, if_neg (by omega), if_pos (by omega)]; simp
theorem v32_lt {c : UInt8} {d : Nat} (h : v32 c = some d) : d < 32 ∧ d32 d = c := by
  unfold v32 at h
  split at h
  · rename_i h1
    cases h
    refine ⟨by omega, ?_⟩
    apply UInt8.toNat_inj.1
    rw [d32_toNat (by omega), if_pos (by omega)]; omega
  · split at h
    · rename_i h1 h2
      cases h
      refine ⟨by omega, ?_⟩
      apply UInt8.toNat_inj.1
      rw [d32_toNat (by omega), if_neg (by omega)]; omega
    · cases h

/-- The lowest k digits of a number, the highest first. -/
def dig : Nat → Nat → List UInt8
  | 0, _ => []
  | k + 1, n => dig k (n / 32) ++ [d32 (n % 32)]
theorem dig_len (k n : Nat) : (dig k n).length = k := by
  induction k generalizing n with
  | zero => rfl
  | succ k ih => simp [dig, ih]
/-- The value of digits. -/
def valD : Nat → List UInt8 → Option Nat
  | n, [] => some n
  | n, c :: l => match v32 c with | none => none | some d => valD (n * 32 + d) l
theorem valD_app (a b : List UInt8) : ∀ n, valD n (a ++ b) = (valD n a).bind fun m => valD m b := by
  induction a with
  | nil => intro n; rfl
  | cons c a ih =>
    intro n
    rw [List.cons_append, valD, valD]
    cases v32 c with
    | none => rfl
    | some d => exact ih _
theorem valD_dig (k : Nat) : ∀ n, n < 32 ^ k → valD 0 (dig k n) = some n := by
  induction k with
  | zero => intro n h; simp at h; subst h; rfl
  | succ k ih =>
    intro n h
    rw [dig, valD_app, ih (n / 32) (by rw [Nat.pow_succ] at h; omega)]
    simp only [Option.bind_some]
    rw [valD, v32_d32 (by omega)]
    simp only [valD]
    congr 1
    omega
theorem dig_valD (l : List UInt8) : ∀ (k : Nat), l.length = k → ∀ n, valD 0 l = some n → dig k n = l ∧ n < 32 ^ k := by
  intro k
  induction k generalizing l with
  | zero =>
    intro h n hv
    have := List.eq_nil_of_length_eq_zero h
    subst this
    simp [valD] at hv
    subst hv
    exact ⟨rfl, by simp⟩
  | succ k ih =>
    intro h n hv
    rcases List.eq_nil_or_concat l with rfl | ⟨A, c, rfl⟩
    · simp at h
    · simp only [List.concat_eq_append] at *
      rw [valD_app] at hv
      cases hq : valD 0 A with
      | none => rw [hq] at hv; cases hv
      | some q =>
        rw [hq] at hv
        simp only [Option.bind_some] at hv
        obtain ⟨h1, h2⟩ := ih A (by simpa using h) q hq
        rw [valD] at hv
        cases hc : v32 c with
        | none => rw [hc] at hv; cases hv
        | some d =>
          rw [hc] at hv
          simp only [valD] at hv
          cases hv
          obtain ⟨h3, h4⟩ := v32_lt hc
          refine ⟨?_, ?_⟩
          · rw [dig, show (q * 32 + d) / 32 = q by omega, show (q * 32 + d) % 32 = d by omega, h1, h4]
          · rw [Nat.pow_succ]; omega

/-- Whether a kind and a number have an id. -/
def may (kind n : Int) : Bool := (decide (kind = 1) || decide (kind = 2)) && decide (0 ≤ n) && decide (n ≤ 9007199254740991)
theorem may_true {kind n : Int} (h : may kind n = true) : (kind = 1 ∨ kind = 2) ∧ 0 ≤ n ∧ n ≤ 9007199254740991 := by
  simp [may] at h; omega
theorem may_false {kind n : Int} (h : may kind n = false) : (kind ≠ 1 ∧ kind ≠ 2) ∨ n < 0 ∨ 9007199254740991 < n := by
  simp [may] at h; omega
def letter (kind : Int) : UInt8 := if kind = 1 then 67 else 66
def small (kind : Int) : UInt8 := if kind = 1 then 99 else 98
def makeId (kind n : Int) : List UInt8 := if may kind n then letter kind :: dig 11 n.toNat else []
def state (kind n : Int) : List UInt8 := if may kind n then small kind :: put n else []

/-- The kind and the number whose id a text is. -/
def numberOf (l : List UInt8) : Option (Int × Int) :=
  match l with
  | [] => none
  | c :: t => if t.length = 11 then (match valD 0 t with
      | none => none
      | some n => if n ≤ 9007199254740991 then (if c = 67 then some (1, n) else if c = 66 then some (2, n) else none) else none) else none

theorem numberOf_make {kind n : Int} (h : may kind n = true) : numberOf (makeId kind n) = some (kind, n) := by
  obtain ⟨h1, h2, h3⟩ := may_true h
  have h4 : valD 0 (dig 11 n.toNat) = some n.toNat := valD_dig 11 _ (by simp; omega)
  unfold makeId numberOf
  rw [if_pos h]
  simp only [dig_len, h4, if_true]
  rw [if_pos (by omega)]
  rcases h1 with rfl | rfl
  · rw [if_pos (show letter 1 = 67 from rfl), show ((n.toNat : Nat) : Int) = n by omega]
  · rw [if_neg (show ¬ letter 2 = 67 by decide), if_pos (show letter 2 = 66 from rfl), show ((n.toNat : Nat) : Int) = n by omega]

theorem make_numberOf {l : List UInt8} {kind n : Int} (h : numberOf l = some (kind, n)) : makeId kind n = l ∧ may kind n = true := by
  unfold numberOf at h
  split at h
  · cases h
  · rename_i c t
    split at h
    · rename_i hl
      cases hv : valD 0 t with
      | none => rw [hv] at h; cases h
      | some m =>
        rw [hv] at h
        simp only at h
        obtain ⟨h1, h2⟩ := dig_valD t 11 hl m hv
        split at h
        · rename_i hm
          split at h
          · rename_i hc
            cases h
            have hk : may 1 (m : Int) = true := by simp [may]; omega
            exact ⟨by unfold makeId; rw [if_pos hk, show ((m : Int)).toNat = m by omega, h1, hc]; rfl, hk⟩
          · split at h
            · rename_i hc
              cases h
              have hk : may 2 (m : Int) = true := by simp [may]; omega
              exact ⟨by unfold makeId; rw [if_pos hk, show ((m : Int)).toNat = m by omega, h1, hc]; rfl, hk⟩
            · cases h
        · cases h
    · cases h

theorem numberOf_len {l : List UInt8} (h : l.length ≠ 12) : numberOf l = none := by
  unfold numberOf
  split
  · rfl
  · rename_i c t
    rw [if_neg (fun e => h (by simp [e]))]
theorem numberOf_bad {l : List UInt8} (h : valD 0 (l.drop 1) = none) : numberOf l = none := by
  unfold numberOf
  split
  · rfl
  · rename_i c t
    have h2 : valD 0 t = none := h
    rw [h2]
    split <;> rfl
theorem numberOf_at {l : List UInt8} {n : Nat} (h : valD 0 (l.drop 1) = some n) : numberOf l = none ∨ numberOf l = some (1, (n : Int)) ∨ numberOf l = some (2, (n : Int)) := by
  unfold numberOf
  split
  · left; rfl
  · rename_i c t
    have h2 : valD 0 t = some n := h
    rw [h2]
    split
    · simp only
      split
      · split
        · right; left; rfl
        · split
          · right; right; rfl
          · left; rfl
      · left; rfl
    · left; rfl
theorem make_eq {l : List UInt8} {k n : Int} (h : makeId k n = l) (hl : l ≠ []) : numberOf l = some (k, n) := by
  cases hm : may k n
  · unfold makeId at h
    rw [hm] at h
    exact absurd h.symm hl
  · rw [← h]; exact numberOf_make hm

end Go.Proofs.Ytfejbahonaalbaa.Idn
