/- Plain mathematics of numbers in digits: no program in sight. -/
namespace Go.Proofs.Ytgncdjcbphobmaa.Nm
set_option linter.unusedVariables false
set_option linter.unusedSimpArgs false

def isDig (c : UInt8) : Bool := decide (48 ≤ c.toNat) && decide (c.toNat ≤ 57)
theorem isDig_pos {c : UInt8} (h : 48 ≤ c.toNat) (h' : c.toNat ≤ 57) : isDig c = true := by simp [isDig, h, h']
theorem isDig_lo {c : UInt8} (h : c.toNat < 48) : isDig c = false := by simp [isDig]; omega
theorem isDig_hi {c : UInt8} (h : 57 < c.toNat) : isDig c = false := by simp [isDig]; omega
theorem isDig_iff {c : UInt8} : isDig c = true ↔ 48 ≤ c.toNat ∧ c.toNat ≤ 57 := by simp [isDig]

/-- How many digits a text begins with. -/
def digLen : List UInt8 → Nat
  | [] => 0
  | c :: l => if isDig c then digLen l + 1 else 0
theorem digLen_le (l : List UInt8) : digLen l ≤ l.length := by
  induction l with
  | nil => simp [digLen]
  | cons c l ih => unfold digLen; split <;> simp <;> omega

/-- The value of digits, from a value on; none: it is too great. -/
def valFrom (n : Nat) : List UInt8 → Option Nat
  | [] => some n
  | c :: l => if n * 10 + (c.toNat - 48) > 9007199254740991 then none else valFrom (n * 10 + (c.toNat - 48)) l

theorem drop_cons (l : List UInt8) (k : Nat) (h : k < l.length) : l.drop k = l[k] :: l.drop (k + 1) := by
  rw [List.drop_eq_getElem_cons h]

/-- The digits of a number without a sign. -/
def putNat (n : Nat) : List UInt8 := if n < 10 then [UInt8.ofNat (48 + n)] else putNat (n / 10) ++ [UInt8.ofNat (48 + n % 10)]
theorem putNat_lt {n : Nat} (h : n < 10) : putNat n = [UInt8.ofNat (48 + n)] := by rw [putNat, if_pos h]
theorem putNat_ge {n : Nat} (h : ¬ n < 10) : putNat n = putNat (n / 10) ++ [UInt8.ofNat (48 + n % 10)] := by rw [putNat, if_neg h]
/-- The digits of a number. -/
def put (n : Int) : List UInt8 := if n < 0 then 45 :: putNat n.natAbs else putNat n.natAbs

structure PutInv (n : Int) (m : Nat) (r : Int) (t : List UInt8) : Prop where
  len : m + t.length = 20
  lo : -9223372036854775808 ≤ r
  hi : r ≤ 9223372036854775807
  sign : (n < 0 → r ≤ 0) ∧ (0 ≤ n → 0 ≤ r)
  bound : r.natAbs * 10 ^ t.length ≤ 9223372036854775808
  one : t = [] ∨ 1 ≤ r.natAbs
  eq : putNat n.natAbs = putNat r.natAbs ++ t

theorem PutInv.start (n : Int) (h : -9223372036854775808 ≤ n) (h' : n ≤ 9223372036854775807) : PutInv n 20 n [] :=
  ⟨rfl, h, h', ⟨fun h => by omega, fun h => h⟩, by simp; omega, .inl rfl, by simp⟩

theorem PutInv.room {n : Int} {m : Nat} {r : Int} {t : List UInt8} (h : PutInv n m r t) : 2 ≤ m := by
  have h1 := h.len
  have h2 := h.bound
  by_cases hm : 2 ≤ m
  · exact hm
  · exfalso
    have hl : 19 ≤ t.length := by omega
    have h3 : 1 ≤ r.natAbs := by
      rcases h.one with e | e
      · subst e; simp at hl
      · exact e
    have h4 : 10 ^ 19 ≤ 10 ^ t.length := Nat.pow_le_pow_right (by omega) hl
    have h5 : 1 * 10 ^ t.length ≤ r.natAbs * 10 ^ t.length := Nat.mul_le_mul_right _ h3
    omega

theorem natAbs_tdiv_ten (r : Int) : (r.tdiv 10).natAbs = r.natAbs / 10 := by
  rw [Int.natAbs_tdiv]; rfl
theorem natAbs_tmod_ten (r : Int) : (r.tmod 10).natAbs = r.natAbs % 10 := by
  rw [Int.natAbs_tmod]; rfl

theorem PutInv.step {n : Int} {m : Nat} {r : Int} {t : List UInt8} (h : PutInv n (m + 1) r t) (hr : r.tdiv 10 ≠ 0) :
    PutInv n m (r.tdiv 10) (UInt8.ofNat (48 + r.natAbs % 10) :: t) := by
  have hd := natAbs_tdiv_ten r
  have h1 : 1 ≤ (r.tdiv 10).natAbs := by omega
  have hlo := h.lo
  have hhi := h.hi
  refine ⟨by have := h.len; simp; omega, by omega, by omega, ?_, ?_, .inr h1, ?_⟩
  · refine ⟨fun e => ?_, fun e => ?_⟩
    · have := h.sign.1 e
      have h3 := Int.tdiv_nonneg (a := -r) (b := 10) (by omega) (by omega)
      rw [Int.neg_tdiv] at h3
      omega
    · have := h.sign.2 e
      exact Int.tdiv_nonneg this (by omega)
  · have hb := h.bound
    rw [hd, List.length_cons, Nat.pow_succ, Nat.mul_comm (10 ^ t.length) 10, ← Nat.mul_assoc]
    exact Nat.le_trans (Nat.mul_le_mul_right _ (Nat.div_mul_le_self _ _)) hb
  · rw [h.eq, hd, putNat_ge (n := r.natAbs) (by omega)]
    simp

theorem PutInv.stop {n : Int} {m : Nat} {r : Int} {t : List UInt8} (h : PutInv n (m + 1) r t) (hr : r.tdiv 10 = 0) :
    putNat n.natAbs = UInt8.ofNat (48 + r.natAbs % 10) :: t := by
  have hd := natAbs_tdiv_ten r
  have h1 : r.natAbs < 10 := by omega
  rw [h.eq, putNat_lt h1, Nat.mod_eq_of_lt h1]
  rfl

theorem tmod_bound (r : Int) : -9 ≤ r.tmod 10 ∧ r.tmod 10 ≤ 9 := by
  have := natAbs_tmod_ten r
  omega

theorem tmod_neg {n : Int} (h : n < 0) : n.tmod 10 ≤ 0 := by
  have h1 := Int.neg_tmod (a := -n) (b := 10)
  have h2 := Int.tmod_nonneg (b := 10) (a := -n) (by omega)
  rw [Int.neg_neg] at h1
  omega

theorem tdiv_neg {n : Int} (h : n < 0) : n.tdiv 10 ≤ 0 := by
  have h3 := Int.tdiv_nonneg (a := -n) (b := 10) (by omega) (by omega)
  rw [Int.neg_tdiv] at h3
  omega

theorem putNat_len : ∀ (k n : Nat), n < 10 ^ (k + 1) → (putNat n).length ≤ k + 1
  | 0, n, h => by rw [putNat_lt (by omega)]; simp
  | k + 1, n, h => by
    by_cases h1 : n < 10
    · rw [putNat_lt h1]; simp
    · have h2 := putNat_len k (n / 10) (by rw [Nat.pow_succ] at h; omega)
      rw [putNat_ge h1]; simp; omega

theorem put_len {n : Int} (h : -9223372036854775808 ≤ n) (h' : n ≤ 9223372036854775807) : (put n).length ≤ 20 := by
  have h1 := putNat_len 18 n.natAbs (by omega)
  unfold put
  split <;> simp <;> omega

theorem put_ge {n : Int} (h : 10 ≤ n.natAbs) : put n = put (n.tdiv 10) ++ [UInt8.ofNat (48 + n.natAbs % 10)] := by
  have hq := natAbs_tdiv_ten n
  unfold put
  by_cases hn : n < 0
  · have h2 := tdiv_neg hn
    rw [if_pos hn, if_pos (by omega), hq, putNat_ge (n := n.natAbs) (by omega)]; rfl
  · have h2 := Int.tdiv_nonneg (a := n) (b := 10) (by omega) (by omega)
    rw [if_neg hn, if_neg (by omega), hq, putNat_ge (n := n.natAbs) (by omega)]

/-- What is read of a number at a place: the number, where it ends, why not. -/
def readNum (l : List UInt8) (a : Int) : Int × Int × Int :=
  if a < 0 ∨ (l.length : Int) ≤ a then (0, a, 30) else
  let k := a.toNat
  let f := if l.getD k 0 = 45 then k + 1 else k
  let E := f + digLen (l.drop f)
  if E = f ∨ (l.getD f 0 = 48 ∧ 1 < E - f) ∨ (E < l.length ∧ (l.getD E 0 = 46 ∨ l.getD E 0 = 101 ∨ l.getD E 0 = 69)) then (0, a, 30) else
  match valFrom 0 ((l.drop f).take (E - f)) with
  | none => (0, a, 30)
  | some n => (if l.getD k 0 = 45 then -(n : Int) else n, E, 0)

theorem readNum_out {l : List UInt8} {a : Int} (h : a < 0 ∨ (l.length : Int) ≤ a) : readNum l a = (0, a, 30) := by
  unfold readNum; rw [if_pos h]
/-- From where digits begin, and where they end: bad. -/
theorem readNum_bad {l : List UInt8} {k f E : Nat} (hk : k < l.length) (hf : f = if l.getD k 0 = 45 then k + 1 else k) (hE : f + digLen (l.drop f) = E)
    (h : E = f ∨ (l.getD f 0 = 48 ∧ 1 < E - f) ∨ (E < l.length ∧ (l.getD E 0 = 46 ∨ l.getD E 0 = 101 ∨ l.getD E 0 = 69))) : readNum l k = (0, (k : Int), 30) := by
  unfold readNum
  rw [if_neg (by omega)]
  simp only [Int.toNat_natCast]
  rw [← hf, hE, if_pos h]
theorem readNum_good {l : List UInt8} {k f E : Nat} (hk : k < l.length) (hf : f = if l.getD k 0 = 45 then k + 1 else k) (hE : f + digLen (l.drop f) = E)
    (h : ¬ (E = f ∨ (l.getD f 0 = 48 ∧ 1 < E - f) ∨ (E < l.length ∧ (l.getD E 0 = 46 ∨ l.getD E 0 = 101 ∨ l.getD E 0 = 69)))) :
    readNum l k = match valFrom 0 ((l.drop f).take (E - f)) with
      | none => (0, (k : Int), 30)
      | some n => (if l.getD k 0 = 45 then -(n : Int) else n, E, 0) := by
  unfold readNum
  rw [if_neg (by omega)]
  simp only [Int.toNat_natCast]
  rw [← hf, hE, if_neg h]

theorem digLen_take (l : List UInt8) : ∀ c ∈ l.take (digLen l), isDig c = true := by
  induction l with
  | nil => simp
  | cons c l ih =>
    unfold digLen
    split
    · intro d hd
      simp at hd
      rcases hd with rfl | hd
      · assumption
      · exact ih d hd
    · simp

theorem readNum_none {l : List UInt8} {k f E : Nat} (hk : k < l.length) (hf : f = if l.getD k 0 = 45 then k + 1 else k) (hE : f + digLen (l.drop f) = E)
    (h : valFrom 0 ((l.drop f).take (E - f)) = none) : readNum l k = (0, (k : Int), 30) := by
  by_cases hb : E = f ∨ (l.getD f 0 = 48 ∧ 1 < E - f) ∨ (E < l.length ∧ (l.getD E 0 = 46 ∨ l.getD E 0 = 101 ∨ l.getD E 0 = 69))
  · exact readNum_bad hk hf hE hb
  · rw [readNum_good hk hf hE hb, h]

/-- How far the reference has read. -/
structure RefInv (D : List UInt8) (n : Nat) (g : Bool) (rest : List UInt8) : Prop where
  le : n ≤ 9007199254740999
  eq : valFrom 0 D = if g then none else if n > 9007199254740991 then none else valFrom n rest

theorem RefInv.start (D : List UInt8) : RefInv D 0 false D := ⟨by omega, by simp⟩
theorem RefInv.stay {D : List UInt8} {n : Nat} {c : UInt8} {l : List UInt8} (h : RefInv D n true (c :: l)) : RefInv D n true l := ⟨h.le, by rw [h.eq]; simp⟩
theorem RefInv.great {D : List UInt8} {n : Nat} {c : UInt8} {l : List UInt8} (h : RefInv D n false (c :: l)) (hn : 900719925474099 < n) : RefInv D n true l := by
  refine ⟨h.le, ?_⟩
  rw [h.eq]
  by_cases h1 : n > 9007199254740991
  · simp [h1]
  · simp only [Bool.false_eq_true, if_false, if_neg h1, if_true]
    rw [valFrom, if_pos (by omega)]
theorem RefInv.step {D : List UInt8} {n : Nat} {c : UInt8} {l : List UInt8} (h : RefInv D n false (c :: l)) (hn : n ≤ 900719925474099) (hc : isDig c = true) :
    RefInv D (n * 10 + (c.toNat - 48)) false l := by
  have h1 := isDig_iff.1 hc
  refine ⟨by omega, ?_⟩
  rw [h.eq]
  simp only [Bool.false_eq_true, if_false]
  rw [if_neg (by omega), valFrom]
theorem RefInv.done_true {D : List UInt8} {n : Nat} {l : List UInt8} (h : RefInv D n true l) : valFrom 0 D = none := by rw [h.eq]; simp
theorem RefInv.done_big {D : List UInt8} {n : Nat} {g : Bool} {l : List UInt8} (h : RefInv D n g l) (hn : 9007199254740991 < n) : valFrom 0 D = none := by rw [h.eq]; simp [hn]
theorem RefInv.done {D : List UInt8} {n : Nat} (h : RefInv D n false []) (hn : n ≤ 9007199254740991) : valFrom 0 D = some n := by
  rw [h.eq]; simp only [Bool.false_eq_true, if_false]; rw [if_neg (by omega)]; rfl

theorem take_dig {l : List UInt8} {j E : Nat} (hj : j < l.length) (hE : E = j + digLen (l.drop j)) (hd : isDig l[j] = true) :
    (l.drop j).take (E - j) = l[j] :: (l.drop (j + 1)).take (E - (j + 1)) ∧ E = j + 1 + digLen (l.drop (j + 1)) := by
  have h1 := drop_cons l j hj
  have h2 : digLen (l.drop j) = digLen (l.drop (j + 1)) + 1 := by rw [h1, digLen, if_pos hd]
  refine ⟨?_, by omega⟩
  rw [h1, show E - j = (E - (j + 1)) + 1 by omega, List.take_succ_cons]
theorem take_non {l : List UInt8} {j E : Nat} (hE : E = j + digLen (l.drop j)) (hd : ∀ h : j < l.length, isDig l[j] = false) :
    E = j ∧ (l.drop j).take (E - j) = [] := by
  have : digLen (l.drop j) = 0 := by
    by_cases hj : j < l.length
    · rw [drop_cons l j hj, digLen, if_neg (by simp [hd hj])]
    · rw [List.drop_of_length_le (by omega)]; rfl
  refine ⟨by omega, ?_⟩
  rw [show E - j = 0 by omega]; rfl

end Go.Proofs.Ytgncdjcbphobmaa.Nm
