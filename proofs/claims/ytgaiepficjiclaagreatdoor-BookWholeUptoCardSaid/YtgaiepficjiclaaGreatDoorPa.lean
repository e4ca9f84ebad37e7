/- Plain mathematics of numbers in digits: no program in sight. -/

namespace Go.Proofs.YtgaiepficjiclaaGreatDoor.Nm
set_option maxRecDepth 100000
set_option linter.unusedVariables false
set_option linter.unusedSimpArgs false

def isDig (c : UInt8) : Bool := decide (48 ≤ c.toNat) && decide (c.toNat ≤ 57)
theorem isDig_pos {c : UInt8} (h : 48 ≤ c.toNat) (h' : c.toNat ≤ 57) : isDig c = true := by simp [isDig, h, h']
theorem isDig_lo {c : UInt8} (h : c.toNat < 48) : isDig c = false := by simp [isDig]; omega
theorem isDig_hi {c : UInt8} (h : 57 < c.toNat) : isDig c = false := by simp [isDig]; omega
theorem isDig_iff {c : UInt8} : isDig c = true ↔ 48 ≤ c.toNat ∧ c.toNat ≤ 57 := by simp [isDig]

def digLen : List UInt8 → Nat
 | [] => 0
 | c :: l => if isDig c then digLen l + 1 else 0
theorem digLen_le (l : List UInt8) : digLen l ≤ l.length := by
 induction l with
 | nil => simp [digLen]
 | cons c l ih => unfold digLen; split <;> simp <;> omega

def valFrom (n : Nat) : List UInt8 → Option Nat
 | [] => some n
 | c :: l => if n * 10 + (c.toNat - 48) > 9007199254740991 then none else valFrom (n * 10 + (c.toNat - 48)) l

theorem drop_cons (l : List UInt8) (k : Nat) (h : k < l.length) : l.drop k = l[k] :: l.drop (k + 1) := by
 rw [List.drop_eq_getElem_cons h]

def putNat (n : Nat) : List UInt8 := if n < 10 then [UInt8.ofNat (48 + n)] else putNat (n / 10) ++ [UInt8.ofNat (48 + n % 10)]
theorem putNat_lt {n : Nat} (h : n < 10) : putNat n = [UInt8.ofNat (48 + n)] := by rw [putNat, if_pos h]
theorem putNat_ge {n : Nat} (h : ¬ n < 10) : putNat n = putNat (n / 10) ++ [UInt8.ofNat (48 + n % 10)] := by rw [putNat, if_neg h]
def put (n : Int) : List UInt8 := if n < 0 then 45 :: putNat n.natAbs else putNat n.natAbs

structure PutInv (n : Int) (m : Nat) (r : Int) (t : List UInt8) : Prop where
 len : m + t.length = 20
 lo : -9223372036854775808 ≤ r
 hi : r ≤ 9223372036854775807
 sign : (n < 0 → r ≤ 0) ∧ (0 ≤ n → 0 ≤ r)
 bound : r.natAbs * 10 ^ t.length ≤ 9223372036854775808
 one : t = [] ∨ 1 ≤ r.natAbs
 eq : putNat n.natAbs = putNat r.natAbs ++ t

theorem PutInv.start (n : Int) (h : -9223372036854775808 ≤ n) (h' : n ≤ 9223372036854775807) : PutInv n 20 n [] :=
 ⟨rfl, h, h', ⟨fun h => by omega, fun h => h⟩, by simp; omega, .inl rfl, by simp⟩

theorem PutInv.room {n : Int} {m : Nat} {r : Int} {t : List UInt8} (h : PutInv n m r t) : 2 ≤ m := by
 have h1 := h.len
 have h2 := h.bound
 by_cases hm : 2 ≤ m
 ·exact hm
 ·exfalso
  have hl : 19 ≤ t.length := by omega
  have h3 : 1 ≤ r.natAbs := by
   rcases h.one with e | e
   ·subst e; simp at hl
   ·exact e
  have h4 : 10 ^ 19 ≤ 10 ^ t.length := Nat.pow_le_pow_right (by omega) hl
  have h5 : 1 * 10 ^ t.length ≤ r.natAbs * 10 ^ t.length := Nat.mul_le_mul_right _ h3
  omega

theorem natAbs_tdiv_ten (r : Int) : (r.tdiv 10).natAbs = r.natAbs / 10 := by
 rw [Int.natAbs_tdiv]; rfl
theorem natAbs_tmod_ten (r : Int) : (r.tmod 10).natAbs = r.natAbs % 10 := by
 rw [Int.natAbs_tmod]; rfl

theorem PutInv.step {n : Int} {m : Nat} {r : Int} {t : List UInt8} (h : PutInv n (m + 1) r t) (hr : r.tdiv 10 ≠ 0) :
  PutInv n m (r.tdiv 10) (UInt8.ofNat (48 + r.natAbs % 10) :: t) := by
 have hd := natAbs_tdiv_ten r
 have h1 : 1 ≤ (r.tdiv 10).natAbs := by omega
 have hlo := h.lo
 have hhi := h.hi
 refine ⟨by have := h.len; simp; omega, by omega, by omega, ?_, ?_, .inr h1, ?_⟩
 ·refine ⟨fun e => ?_, fun e => ?_⟩
  ·have := h.sign.1 e
   have h3 := Int.tdiv_nonneg (a := -r) (b := 10) (by omega) (by omega)
   rw [Int.neg_tdiv] at h3
   omega
  ·have := h.sign.2 e
   exact Int.tdiv_nonneg this (by omega)
 ·have hb := h.bound
  rw [hd, List.length_cons, Nat.pow_succ, Nat.mul_comm (10 ^ t.length) 10, ← Nat.mul_assoc]
  exact Nat.le_trans (Nat.mul_le_mul_right _ (Nat.div_mul_le_self _ _)) hb
 ·rw [h.eq, hd, putNat_ge (n := r.natAbs) (by omega)]
  simp

theorem PutInv.stop {n : Int} {m : Nat} {r : Int} {t : List UInt8} (h : PutInv n (m + 1) r t) (hr : r.tdiv 10 = 0) :
  putNat n.natAbs = UInt8.ofNat (48 + r.natAbs % 10) :: t := by
 have hd := natAbs_tdiv_ten r
 have h1 : r.natAbs < 10 := by omega
 rw [h.eq, putNat_lt h1, Nat.mod_eq_of_lt h1]
 rfl

theorem tmod_bound (r : Int) : -9 ≤ r.tmod 10 ∧ r.tmod 10 ≤ 9 := by
 have := natAbs_tmod_ten r
 omega

theorem tmod_neg {n : Int} (h : n < 0) : n.tmod 10 ≤ 0 := by
 have h1 := Int.neg_tmod (a := -n) (b := 10)
 have h2 := Int.tmod_nonneg (b := 10) (a := -n) (by omega)
 rw [Int.neg_neg] at h1
 omega

theorem tdiv_neg {n : Int} (h : n < 0) : n.tdiv 10 ≤ 0 := by
 have h3 := Int.tdiv_nonneg (a := -n) (b := 10) (by omega) (by omega)
 rw [Int.neg_tdiv] at h3
 omega

theorem putNat_len : ∀ (k n : Nat), n < 10 ^ (k + 1) → (putNat n).length ≤ k + 1
 | 0, n, h => by rw [putNat_lt (by omega)]; simp
 | k + 1, n, h => by
  by_cases h1 : n < 10
  ·rw [putNat_lt h1]; simp
  ·have h2 := putNat_len k (n / 10) (by rw [Nat.pow_succ] at h; omega)
   rw [putNat_ge h1]; simp; omega

theorem put_len {n : Int} (h : -9223372036854775808 ≤ n) (h' : n ≤ 9223372036854775807) : (put n).length ≤ 20 := by
 have h1 := putNat_len 18 n.natAbs (by omega)
 unfold put
 split <;> simp <;> omega

theorem put_ge {n : Int} (h : 10 ≤ n.natAbs) : put n = put (n.tdiv 10) ++ [UInt8.ofNat (48 + n.natAbs % 10)] := by
 have hq := natAbs_tdiv_ten n
 unfold put
 by_cases hn : n < 0
 ·have h2 := tdiv_neg hn
  rw [if_pos hn, if_pos (by omega), hq, putNat_ge (n := n.natAbs) (by omega)]; rfl
 ·have h2 := Int.tdiv_nonneg (a := n) (b := 10) (by omega) (by omega)
  rw [if_neg hn, if_neg (by omega), hq, putNat_ge (n := n.natAbs) (by omega)]

def readNum (l : List UInt8) (a : Int) : Int × Int × Int :=
 if a < 0 ∨ (l.length : Int) ≤ a then (0, a, 30) else
 let k := a.toNat
 let f := if l.getD k 0 = 45 then k + 1 else k
 let E := f + digLen (l.drop f)
 if E = f ∨ (l.getD f 0 = 48 ∧ 1 < E - f) ∨ (E < l.length ∧ (l.getD E 0 = 46 ∨ l.getD E 0 = 101 ∨ l.getD E 0 = 69)) then (0, a, 30) else
 match valFrom 0 ((l.drop f).take (E - f)) with
 | none => (0, a, 30)
 | some n => (if l.getD k 0 = 45 then -(n : Int) else n, E, 0)

theorem readNum_out {l : List UInt8} {a : Int} (h : a < 0 ∨ (l.length : Int) ≤ a) : readNum l a = (0, a, 30) := by
 unfold readNum; rw [if_pos h]
theorem readNum_bad {l : List UInt8} {k f E : Nat} (hk : k < l.length) (hf : f = if l.getD k 0 = 45 then k + 1 else k) (hE : f + digLen (l.drop f) = E)
  (h : E = f ∨ (l.getD f 0 = 48 ∧ 1 < E - f) ∨ (E < l.length ∧ (l.getD E 0 = 46 ∨ l.getD E 0 = 101 ∨ l.getD E 0 = 69))) : readNum l k = (0, (k : Int), 30) := by
 unfold readNum
 rw [if_neg (by omega)]
 simp only [Int.toNat_natCast]
 rw [← hf, hE, if_pos h]
theorem readNum_good {l : List UInt8} {k f E : Nat} (hk : k < l.length) (hf : f = if l.getD k 0 = 45 then k + 1 else k) (hE : f + digLen (l.drop f) = E)
  (h : ¬ (E = f ∨ (l.getD f 0 = 48 ∧ 1 < E - f) ∨ (E < l.length ∧ (l.getD E 0 = 46 ∨ l.getD E 0 = 101 ∨ l.getD E 0 = 69)))) :
  readNum l k = match valFrom 0 ((l.drop f).take (E - f)) with
   | none => (0, (k : Int), 30)
   | some n => (if l.getD k 0 = 45 then -(n : Int) else n, E, 0) := by
 unfold readNum
 rw [if_neg (by omega)]
 simp only [Int.toNat_natCast]
 rw [← hf, hE, if_neg h]

theorem digLen_take (l : List UInt8) : ∀ c ∈ l.take (digLen l), isDig c = true := by
 induction l with
 | nil => simp
 | cons c l ih =>
  unfold digLen
  split
  ·intro d hd
   simp at hd
   rcases hd with rfl | hd
   ·assumption
   ·exact ih d hd
  ·simp

theorem readNum_none {l : List UInt8} {k f E : Nat} (hk : k < l.length) (hf : f = if l.getD k 0 = 45 then k + 1 else k) (hE : f + digLen (l.drop f) = E)
  (h : valFrom 0 ((l.drop f).take (E - f)) = none) : readNum l k = (0, (k : Int), 30) := by
 by_cases hb : E = f ∨ (l.getD f 0 = 48 ∧ 1 < E - f) ∨ (E < l.length ∧ (l.getD E 0 = 46 ∨ l.getD E 0 = 101 ∨ l.getD E 0 = 69))
 ·exact readNum_bad hk hf hE hb
 ·rw [readNum_good hk hf hE hb, h]

structure RefInv (D : List UInt8) (n : Nat) (g : Bool) (rest : List UInt8) : Prop where
 le : n ≤ 9007199254740999
 eq : valFrom 0 D = if g then none else if n > 9007199254740991 then none else valFrom n rest

theorem RefInv.start (D : List UInt8) : RefInv D 0 false D := ⟨by omega, by simp⟩
theorem RefInv.stay {D : List UInt8} {n : Nat} {c : UInt8} {l : List UInt8} (h : RefInv D n true (c :: l)) : RefInv D n true l := ⟨h.le, by rw [h.eq]; simp⟩
theorem RefInv.great {D : List UInt8} {n : Nat} {c : UInt8} {l : List UInt8} (h : RefInv D n false (c :: l)) (hn : 900719925474099 < n) : RefInv D n true l := by
 refine ⟨h.le, ?_⟩
 rw [h.eq]
 by_cases h1 : n > 9007199254740991
 ·simp [h1]
 ·simp only [Bool.false_eq_true, if_false, if_neg h1, if_true]
  rw [valFrom, if_pos (by omega)]
theorem RefInv.step {D : List UInt8} {n : Nat} {c : UInt8} {l : List UInt8} (h : RefInv D n false (c :: l)) (hn : n ≤ 900719925474099) (hc : isDig c = true) :
  RefInv D (n * 10 + (c.toNat - 48)) false l := by
 have h1 := isDig_iff.1 hc
 refine ⟨by omega, ?_⟩
 rw [h.eq]
 simp only [Bool.false_eq_true, if_false]
 rw [if_neg (by omega), valFrom]
theorem RefInv.done_true {D : List UInt8} {n : Nat} {l : List UInt8} (h : RefInv D n true l) : valFrom 0 D = none := by rw [h.eq]; simp
theorem RefInv.done_big {D : List UInt8} {n : Nat} {g : Bool} {l : List UInt8} (h : RefInv D n g l) (hn : 9007199254740991 < n) : valFrom 0 D = none := by rw [h.eq]; simp [hn]
theorem RefInv.done {D : List UInt8} {n : Nat} (h : RefInv D n false []) (hn : n ≤ 9007199254740991) : valFrom 0 D = some n := by
 rw [h.eq]; simp only [Bool.false_eq_true, if_false]; rw [if_neg (by omega)]; rfl

theorem take_dig {l : List UInt8} {j E : Nat} (hj : j < l.length) (hE : E = j + digLen (l.drop j)) (hd : isDig l[j] = true) :
  (l.drop j).take (E - j) = l[j] :: (l.drop (j + 1)).take (E - (j + 1)) ∧ E = j + 1 + digLen (l.drop (j + 1)) := by
 have h1 := drop_cons l j hj
 have h2 : digLen (l.drop j) = digLen (l.drop (j + 1)) + 1 := by rw [h1, digLen, if_pos hd]
 refine ⟨?_, by omega⟩
 rw [h1, show E - j = (E - (j + 1)) + 1 by omega, List.take_succ_cons]
theorem take_non {l : List UInt8} {j E : Nat} (hE : E = j + digLen (l.drop j)) (hd : ∀ h : j < l.length, isDig l[j] = false) :
  E = j ∧ (l.drop j).take (E - j) = [] := by
 have : digLen (l.drop j) = 0 := by
  by_cases hj : j < l.length
  ·rw [drop_cons l j hj, digLen, if_neg (by simp [hd hj])]
  ·rw [List.drop_of_length_le (by omega)]; rfl
 refine ⟨by omega, ?_⟩
 rw [show E - j = 0 by omega]; rfl

end Go.Proofs.YtgaiepficjiclaaGreatDoor.Nm
/- Plain laws of numbers in digits: what is written is read again; All; a digit more. -/
namespace Go.Proofs.YtgaiepficjiclaaGreatDoor.Nm
set_option linter.unusedVariables false
set_option linter.unusedSimpArgs false

theorem u8_lt (c : UInt8) : c.toNat < 256 := c.toNat_lt
theorem toNat_dig {d : Nat} (h : d < 10) : (UInt8.ofNat (48 + d)).toNat = 48 + d := UInt8.toNat_ofNat_of_lt' (by show _ < 256; omega)
theorem ofNat_dig {c : UInt8} (h : isDig c = true) : UInt8.ofNat (48 + (c.toNat - 48)) = c := by
 have h1 := isDig_iff.1 h
 rw [show 48 + (c.toNat - 48) = c.toNat by omega, UInt8.ofNat_toNat]

theorem putNat_ne (n : Nat) : putNat n ≠ [] := by
 by_cases h : n < 10
 ·rw [putNat_lt h]; simp
 ·rw [putNat_ge h]; simp

theorem putNat_dig (n : Nat) : ∀ c ∈ putNat n, isDig c = true := by
 induction n using Nat.strongRecOn with
 | ind n ih =>
  by_cases h : n < 10
  ·rw [putNat_lt h]
   intro c hc
   rw [List.mem_singleton] at hc
   subst hc
   rw [isDig_iff, toNat_dig h]; omega
  ·rw [putNat_ge h]
   intro c hc
   rw [List.mem_append, List.mem_singleton] at hc
   rcases hc with hc | rfl
   ·exact ih (n / 10) (by omega) c hc
   ·rw [isDig_iff, toNat_dig (by omega)]; omega

theorem putNat_head (n : Nat) (h : 1 ≤ n) : (putNat n).getD 0 0 ≠ 48 := by
 induction n using Nat.strongRecOn with
 | ind n ih =>
  by_cases h1 : n < 10
  ·rw [putNat_lt h1]
   intro e
   have e2 : UInt8.ofNat (48 + n) = 48 := e
   have : (UInt8.ofNat (48 + n)).toNat = 48 := by rw [e2]; rfl
   rw [toNat_dig h1] at this
   omega
  ·rw [putNat_ge h1]
   have h2 := ih (n / 10) (by omega) (by omega)
   have h3 := putNat_ne (n / 10)
   cases hq : putNat (n / 10) with
   | nil => exact absurd hq h3
   | cons c l => rw [hq] at h2; simpa using h2

theorem valFrom_app (a b : List UInt8) : ∀ n, valFrom n (a ++ b) = (valFrom n a).bind fun m => valFrom m b := by
 induction a with
 | nil => intro n; rfl
 | cons c a ih =>
  intro n
  rw [List.cons_append, valFrom, valFrom]
  split
  ·rfl
  ·exact ih _

theorem valFrom_putNat (n : Nat) : valFrom 0 (putNat n) = if n > 9007199254740991 then none else some n := by
 induction n using Nat.strongRecOn with
 | ind n ih =>
  by_cases h : n < 10
  ·rw [putNat_lt h, valFrom, toNat_dig h, if_neg (by omega), if_neg (by omega)]
   simp [valFrom]
  ·rw [putNat_ge h, valFrom_app, ih (n / 10) (by omega)]
   by_cases h1 : n / 10 > 9007199254740991
   ·rw [if_pos h1, if_pos (by omega)]; rfl
   ·rw [if_neg h1]
    simp only [Option.bind_some]
    rw [valFrom, toNat_dig (by omega), show n / 10 * 10 + (48 + n % 10 - 48) = n by omega]
    rfl

theorem digLen_all {a : List UInt8} (h : ∀ c ∈ a, isDig c = true) (b : List UInt8) : digLen (a ++ b) = a.length + digLen b := by
 induction a with
 | nil => simp
 | cons c a ih =>
  rw [List.cons_append, digLen, if_pos (h c (by simp)), ih (fun d hd => h d (by simp [hd]))]
  simp; omega

theorem putNat_val (D : List UInt8) : ∀ (k : Nat), D.length ≤ k → (∀ c ∈ D, isDig c = true) → D ≠ [] → D.getD 0 0 ≠ 48 → ∀ m, valFrom 0 D = some m → putNat m = D ∧ 1 ≤ m
 | 0, hk, _, hn, _, m, _ => absurd (List.eq_nil_of_length_eq_zero (by omega)) hn
 | k + 1, hk, hd, hn, hh, m, hv => by
  rcases List.eq_nil_or_concat D with rfl | ⟨A, c, rfl⟩
  ·exact absurd rfl hn
  ·simp only [List.concat_eq_append] at *
   have hc := hd c (by simp)
   have hc2 := isDig_iff.1 hc
   rw [valFrom_app] at hv
   by_cases hA : A = []
   ·subst hA
    have hv2 : valFrom 0 [c] = some m := hv
    rw [valFrom] at hv2
    split at hv2
    ·cases hv2
    ·simp [valFrom] at hv2
     subst hv2
     have h48 : c ≠ 48 := by simpa using hh
     have h2 : c.toNat ≠ 48 := fun e => h48 (UInt8.toNat_inj.1 e)
     rw [putNat_lt (by omega), ofNat_dig hc]
     exact ⟨rfl, by omega⟩
   ·have hh2 : A.getD 0 0 ≠ 48 := by
     cases A with
     | nil => exact absurd rfl hA
     | cons a A => simpa using hh
    cases hq : valFrom 0 A with
    | none => rw [hq] at hv; cases hv
    | some q =>
     obtain ⟨h1, h2⟩ := putNat_val A k (by simp at hk; omega) (fun d hd' => hd d (by simp [hd'])) hA hh2 q hq
     rw [hq] at hv
     simp only [Option.bind_some] at hv
     rw [valFrom] at hv
     split at hv
     ·cases hv
     ·simp [valFrom] at hv
      subst hv
      rw [putNat_ge (by omega), show (q * 10 + (c.toNat - 48)) / 10 = q by omega, show (q * 10 + (c.toNat - 48)) % 10 = c.toNat - 48 by omega, h1, ofNat_dig hc]
      exact ⟨rfl, by omega⟩

def allNum (l : List UInt8) : Option Int :=
 if (readNum l 0).2.2 = 0 ∧ (readNum l 0).2.1 = l.length ∧ put (readNum l 0).1 = l then some (readNum l 0).1 else none
def refAll (l : List UInt8) : Option Int :=
 if (readNum l 0).2.2 = 0 ∧ (readNum l 0).2.1 = l.length ∧ l ≠ [45, 48] then some (readNum l 0).1 else none

theorem readNum_ok {l : List UInt8} {k : Nat} (h : (readNum l k).2.2 = 0) :
  ∃ f E n, k < l.length ∧ (f = if l.getD k 0 = 45 then k + 1 else k) ∧ f + digLen (l.drop f) = E ∧
   ¬ (E = f ∨ (l.getD f 0 = 48 ∧ 1 < E - f) ∨ (E < l.length ∧ (l.getD E 0 = 46 ∨ l.getD E 0 = 101 ∨ l.getD E 0 = 69))) ∧
   valFrom 0 ((l.drop f).take (E - f)) = some n ∧ readNum l k = (if l.getD k 0 = 45 then -(n : Int) else n, (E : Int), 0) := by
 by_cases hk : k < l.length
 ·obtain ⟨f, hf⟩ : ∃ f, f = if l.getD k 0 = 45 then k + 1 else k := ⟨_, rfl⟩
  obtain ⟨E, hE⟩ : ∃ E, f + digLen (l.drop f) = E := ⟨_, rfl⟩
  by_cases hb : E = f ∨ (l.getD f 0 = 48 ∧ 1 < E - f) ∨ (E < l.length ∧ (l.getD E 0 = 46 ∨ l.getD E 0 = 101 ∨ l.getD E 0 = 69))
  ·rw [readNum_bad hk hf hE hb] at h; cases h
  ·have hg := readNum_good hk hf hE hb
   cases hv : valFrom 0 ((l.drop f).take (E - f)) with
   | none => rw [hg, hv] at h; cases h
   | some n => exact ⟨f, E, n, hk, hf, hE, hb, hv, by rw [hg, hv]⟩
 ·rw [readNum_out (by omega)] at h; cases h

theorem readNum_cases (l : List UInt8) (a : Int) : (readNum l a).2.2 = 0 ∨ readNum l a = (0, a, 30) := by
 by_cases ha : a < 0 ∨ (l.length : Int) ≤ a
 ·right; exact readNum_out ha
 ·obtain ⟨k, rfl⟩ : ∃ k : Nat, a = k := ⟨a.toNat, by omega⟩
  have hk : k < l.length := by omega
  obtain ⟨f, hf⟩ : ∃ f, f = if l.getD k 0 = 45 then k + 1 else k := ⟨_, rfl⟩
  obtain ⟨E, hE⟩ : ∃ E, f + digLen (l.drop f) = E := ⟨_, rfl⟩
  by_cases hb : E = f ∨ (l.getD f 0 = 48 ∧ 1 < E - f) ∨ (E < l.length ∧ (l.getD E 0 = 46 ∨ l.getD E 0 = 101 ∨ l.getD E 0 = 69))
  ·right; exact readNum_bad hk hf hE hb
  ·have hg := readNum_good hk hf hE hb
   cases hv : valFrom 0 ((l.drop f).take (E - f)) with
   | none => right; rw [hg, hv]
   | some n => left; rw [hg, hv]

theorem valFrom_le : ∀ (l : List UInt8) (n m : Nat), n ≤ 9007199254740991 → valFrom n l = some m → m ≤ 9007199254740991
 | [], n, m, h, e => by simp [valFrom] at e; omega
 | c :: l, n, m, h, e => by
  unfold valFrom at e
  split at e
  ·simp at e
  ·exact valFrom_le l _ m (by omega) e

theorem readNum_bounds (l : List UInt8) (a : Int) : -9007199254740991 ≤ (readNum l a).1 ∧ (readNum l a).1 ≤ 9007199254740991 := by
 rcases readNum_cases l a with h | h
 ·by_cases ha : 0 ≤ a
  ·obtain ⟨k, rfl⟩ : ∃ k : Nat, a = k := ⟨a.toNat, by omega⟩
   obtain ⟨f, E, n, _, _, _, _, hv, e⟩ := readNum_ok h
   have := valFrom_le _ 0 n (by omega) hv
   rw [e]
   simp only
   split <;> omega
  ·rw [readNum_out (.inl (by omega))]; simp
 ·rw [h]; simp

theorem refAll_eq (l : List UInt8) : refAll l = allNum l := by
 unfold refAll allNum
 by_cases h1 : (readNum l 0).2.2 = 0 ∧ (readNum l 0).2.1 = l.length
 ·have h2 : l ≠ [45, 48] ↔ put (readNum l 0).1 = l := by
   obtain ⟨h1, h3⟩ := h1
   obtain ⟨f, E, n, hk, hf, hE, hb, hv, e⟩ := readNum_ok (k := 0) h1
   have e' : readNum l 0 = (if l.getD 0 0 = 45 then -(n : Int) else n, (E : Int), 0) := e
   rw [e'] at h3 ⊢
   have hEl : E = l.length := by
    have h3' : (E : Int) = l.length := h3
    omega
   have hD : (l.drop f).take (E - f) = l.drop f := by rw [List.take_of_length_le (by simp; omega)]
   rw [hD] at hv
   have hfl : f < l.length := by
    rcases Nat.lt_or_ge f l.length with h | h
    ·exact h
    ·exfalso; apply hb; left
     have : digLen (l.drop f) = 0 := by rw [List.drop_of_length_le h]; rfl
     omega
   have hDd : ∀ c ∈ l.drop f, isDig c = true := by
    have h4 := digLen_take (l.drop f)
    rwa [show digLen (l.drop f) = E - f by omega, hD] at h4
   have hDn : l.drop f ≠ [] := by
    intro h; have := congrArg List.length h; simp at this; omega
   have hDh : (l.drop f).getD 0 0 = l.getD f 0 := by simp [List.getD_eq_getElem?_getD, List.getElem?_drop]
   simp only
   -- whether the digits begin with a nought
   by_cases h48 : l.getD f 0 = 48
   ·have hlen : E - f = 1 := by
     have h7 : E - f ≤ 1 := Nat.le_of_not_lt fun x => hb (.inr (.inl ⟨h48, x⟩))
     omega
    have hD1 : l.drop f = [48] := by
     have h5 : (l.drop f).length = 1 := by simp; omega
     match hq : l.drop f, h5 with
     | [x], _ => rw [hq] at hDh; have hDh' : x = l.getD f 0 := hDh; rw [hDh', h48]
    have hn0 : n = 0 := by rw [hD1] at hv; simp [valFrom] at hv; omega
    subst hn0
    by_cases h45 : l.getD 0 0 = 45
    ·rw [if_pos h45] at hf ⊢
     subst hf
     have hl : l = [45, 48] := by
      cases l with
      | nil => simp at hfl
      | cons a t => simp at hD1 h45; rw [h45, hD1]
     rw [hl]
     simp [put, putNat_lt]
    ·rw [if_neg h45] at hf ⊢
     subst hf
     have hl : l = [48] := by simpa using hD1
     rw [hl]
     simp [put, putNat_lt]
   ·obtain ⟨h5, h6⟩ := putNat_val (l.drop f) _ (Nat.le_refl _) hDd hDn (by rw [hDh]; exact h48) n hv
    by_cases h45 : l.getD 0 0 = 45
    ·rw [if_pos h45] at hf ⊢
     subst hf
     have hl : l = 45 :: l.drop 1 := by
      cases l with
      | nil => simp at hfl
      | cons a t => simp at h45; simp [h45]
     constructor
     ·intro _
      rw [put, if_pos (by omega), show (-(n : Int)).natAbs = n by omega, h5]
      exact hl.symm
     ·intro _ h7
      rw [h7] at h48
      simp at h48
    ·rw [if_neg h45] at hf ⊢
     subst hf
     constructor
     ·intro _
      rw [put, if_neg (by omega), show ((n : Int)).natAbs = n by omega, h5]
      rfl
     ·intro _ h7
      rw [h7] at h45
      simp at h45
  obtain ⟨h1, h3⟩ := h1
  simp only [h1, h3, h2, true_and]
 ·rw [if_neg (fun h => h1 ⟨h.1, h.2.1⟩), if_neg (fun h => h1 ⟨h.1, h.2.1⟩)]

end Go.Proofs.YtgaiepficjiclaaGreatDoor.Nm
/- Plain laws: a number that is written is read as it was; a digit more. -/
namespace Go.Proofs.YtgaiepficjiclaaGreatDoor.Nm
set_option linter.unusedVariables false
set_option linter.unusedSimpArgs false

def ends : List UInt8 → Bool
 | [] => true
 | c :: _ => !(isDig c || c == 46 || c == 101 || c == 69)

theorem ends_digLen {t : List UInt8} (h : ends t = true) : digLen t = 0 := by
 cases t with
 | nil => rfl
 | cons c t => simp [ends] at h; simp [digLen, h]
theorem ends_getD {t : List UInt8} (h : ends t = true) (hn : t ≠ []) : ¬ (t.getD 0 0 = 46 ∨ t.getD 0 0 = 101 ∨ t.getD 0 0 = 69) := by
 cases t with
 | nil => exact absurd rfl hn
 | cons c t => simp [ends] at h; simp [h]

theorem getD_app_right (a b : List UInt8) (h : b ≠ [] ∨ True) : (a ++ b).getD a.length 0 = b.getD 0 0 := by
 simp [List.getD_eq_getElem?_getD, List.getElem?_append_right]

theorem readNum_digits (m : Nat) (t : List UInt8) (ht : ends t = true) (pre : List UInt8) (hpre : pre = [] ∨ (pre = [45] ∧ 1 ≤ m)) :
  readNum (pre ++ putNat m ++ t) 0 = if m > 9007199254740991 then (0, 0, 30) else (if pre = [] then (m : Int) else -(m : Int), ((pre ++ putNat m).length : Int), 0) := by
 have hne := putNat_ne m
 have hdig := putNat_dig m
 have hlen : 0 < (putNat m).length := by
  cases h : putNat m with
  | nil => exact absurd h hne
  | cons c l => simp
 have h0 : (putNat m).getD 0 0 ≠ 45 := by
  cases h : putNat m with
  | nil => exact absurd h hne
  | cons c l =>
   have := isDig_iff.1 (hdig c (by rw [h]; simp))
   intro e
   have e2 : c = 45 := e
   rw [e2] at this
   simp at this
 have hk : 0 < (pre ++ putNat m ++ t).length := by simp; omega
 have hf : pre.length = if (pre ++ putNat m ++ t).getD 0 0 = 45 then 0 + 1 else 0 := by
  rcases hpre with rfl | ⟨rfl, _⟩
  ·have : ([] ++ putNat m ++ t).getD 0 0 = (putNat m).getD 0 0 := by
    cases h : putNat m with
    | nil => exact absurd h hne
    | cons c l => rfl
   rw [this, if_neg h0]; rfl
  ·rfl
 have hdrop : (pre ++ putNat m ++ t).drop pre.length = putNat m ++ t := by rw [List.append_assoc, List.drop_left]
 have hE : pre.length + digLen ((pre ++ putNat m ++ t).drop pre.length) = (pre ++ putNat m).length := by
  rw [hdrop, digLen_all hdig, ends_digLen ht]; simp
 have htake : ((pre ++ putNat m ++ t).drop pre.length).take ((pre ++ putNat m).length - pre.length) = putNat m := by
  rw [hdrop, show (pre ++ putNat m).length - pre.length = (putNat m).length by simp, List.take_left]
 have hgd : (pre ++ putNat m ++ t).getD pre.length 0 = (putNat m).getD 0 0 := by
  rw [List.append_assoc, getD_app_right _ _ (.inr trivial)]
  cases h : putNat m with
  | nil => exact absurd h hne
  | cons c l => rfl
 have hg := readNum_good (l := pre ++ putNat m ++ t) (k := 0) hk hf hE (by
  rintro (h | ⟨h, h2⟩ | ⟨h, h2⟩)
  ·simp at h; exact hne h
  ·rw [hgd] at h
   by_cases h1 : 1 ≤ m
   ·exact putNat_head m h1 h
   ·have : m = 0 := by omega
    subst this
    have e : putNat 0 = [UInt8.ofNat (48 + 0)] := putNat_lt (by omega)
    simp [e] at h2
  ·have htn : t ≠ [] := by intro e; subst e; simp at h
   rw [getD_app_right _ _ (.inr trivial)] at h2
   exact ends_getD ht htn h2)
 have hg' : readNum (pre ++ putNat m ++ t) 0 = _ := hg
 rw [hg', htake, valFrom_putNat]
 by_cases hm : m > 9007199254740991
 ·rw [if_pos hm, if_pos hm]; rfl
 ·rw [if_neg hm, if_neg hm]
  rcases hpre with rfl | ⟨rfl, _⟩
  ·have : ([] ++ putNat m ++ t).getD 0 0 ≠ 45 := by
    intro e; rw [e, if_pos rfl] at hf; simp at hf
   simp only [if_neg this]
   rfl
  ·rfl

theorem readNum_put (n : Int) (t : List UInt8) (ht : ends t = true) :
  readNum (put n ++ t) 0 = if -9007199254740991 ≤ n ∧ n ≤ 9007199254740991 then (n, ((put n).length : Int), 0) else (0, 0, 30) := by
 unfold put
 by_cases hn : n < 0
 ·rw [if_pos hn]
  have h := readNum_digits n.natAbs t ht [45] (.inr ⟨rfl, by omega⟩)
  have h' : readNum (45 :: putNat n.natAbs ++ t) 0 = _ := h
  rw [h']
  by_cases hm : n.natAbs > 9007199254740991
  ·rw [if_pos hm, if_neg (by omega)]
  ·rw [if_neg hm, if_neg (List.cons_ne_nil _ _), if_pos ⟨by omega, by omega⟩, show -(n.natAbs : Int) = n by omega]; rfl
 ·rw [if_neg hn]
  have h := readNum_digits n.natAbs t ht [] (.inl rfl)
  have h' : readNum (putNat n.natAbs ++ t) 0 = _ := h
  rw [h']
  by_cases hm : n.natAbs > 9007199254740991
  ·rw [if_pos hm, if_neg (by omega)]
  ·rw [if_neg hm, if_pos (show ([] : List UInt8) = [] from rfl), if_pos ⟨by omega, by omega⟩, show (n.natAbs : Int) = n by omega]; rfl

theorem allNum_put (n : Int) : allNum (put n) = if -9007199254740991 ≤ n ∧ n ≤ 9007199254740991 then some n else none := by
 have h := readNum_put n [] rfl
 rw [List.append_nil] at h
 unfold allNum
 rw [h]
 by_cases hm : -9007199254740991 ≤ n ∧ n ≤ 9007199254740991
 ·rw [if_pos hm, if_pos hm]
  exact if_pos ⟨rfl, rfl, rfl⟩
 ·rw [if_neg hm, if_neg hm]
  exact if_neg (fun h => absurd h.1 (by decide))

theorem allNum_some {l : List UInt8} {n : Int} (h : allNum l = some n) : l = put n ∧ -9007199254740991 ≤ n ∧ n ≤ 9007199254740991 := by
 have hb := readNum_bounds l 0
 unfold allNum at h
 split at h
 ·rename_i h1
  have h2 : (readNum l 0).1 = n := Option.some.inj h
  rw [h2] at hb h1
  exact ⟨h1.2.2.symm, hb⟩
 ·cases h

def more (n : Int) (d : Nat) : Option Int :=
 if n = 0 then none
 else if n < 0 then (if -9007199254740991 ≤ n * 10 - d then some (n * 10 - d) else none)
 else (if n * 10 + d ≤ 9007199254740991 then some (n * 10 + d) else none)

theorem allNum_more {n : Int} (d : Nat) (hd : d < 10) : allNum (put n ++ [UInt8.ofNat (48 + d)]) = more n d := by
 unfold more
 by_cases h0 : n = 0
 ·subst h0
  rw [if_pos rfl]
  have hp : put 0 = [48] := by unfold put; rw [if_neg (by omega)]; exact putNat_lt (by omega)
  rw [hp]
  have hdg : isDig (UInt8.ofNat (48 + d)) = true := by rw [isDig_iff, toNat_dig hd]; omega
  have hr : readNum ([48] ++ [UInt8.ofNat (48 + d)]) 0 = (0, 0, 30) := by
   have hdl : digLen [48, UInt8.ofNat (48 + d)] = 2 := by
    rw [digLen, if_pos (by decide), digLen, if_pos hdg]; rfl
   exact readNum_bad (l := [48, UInt8.ofNat (48 + d)]) (k := 0) (f := 0) (E := 2) (by simp) (by simp) (by rw [List.drop_zero, hdl]) (.inr (.inl ⟨rfl, by omega⟩))
  unfold allNum
  rw [hr]
  rfl
 ·rw [if_neg h0]
  by_cases hn : n < 0
  ·rw [if_pos hn]
   have hp : put n ++ [UInt8.ofNat (48 + d)] = put (n * 10 - d) := by
    have h1 : (n * 10 - d).natAbs = n.natAbs * 10 + d := by omega
    rw [put_ge (n := n * 10 - d) (by omega), h1, show (n.natAbs * 10 + d) % 10 = d by omega]
    congr 2
    have h2 : (n * 10 - d).tdiv 10 = -((-(n * 10 - d)).tdiv 10) := by rw [Int.neg_tdiv]; omega
    rw [h2, Int.tdiv_eq_ediv_of_nonneg (by omega)]
    omega
   rw [hp, allNum_put]
   by_cases hm : -9007199254740991 ≤ n * 10 - d
   ·rw [if_pos ⟨hm, by omega⟩, if_pos hm]
   ·rw [if_neg (fun h => hm h.1), if_neg hm]
  ·rw [if_neg hn]
   have hp : put n ++ [UInt8.ofNat (48 + d)] = put (n * 10 + d) := by
    have h1 : (n * 10 + d).natAbs = n.natAbs * 10 + d := by omega
    rw [put_ge (n := n * 10 + d) (by omega), h1, show (n.natAbs * 10 + d) % 10 = d by omega]
    congr 2
    rw [Int.tdiv_eq_ediv_of_nonneg (by omega)]
    omega
   rw [hp, allNum_put]
   by_cases hm : n * 10 + d ≤ 9007199254740991
   ·rw [if_pos ⟨by omega, hm⟩, if_pos hm]
   ·rw [if_neg (fun h => hm h.2), if_neg hm]

end Go.Proofs.YtgaiepficjiclaaGreatDoor.Nm
/- Plain mathematics of points and their bytes: no program in sight. -/
namespace Go.Proofs.YtgaiepficjiclaaGreatDoor.Utf
set_option linter.unusedVariables false
set_option linter.unusedSimpArgs false

def isPt (p : Nat) : Bool := decide (p ≤ 1114111) && (decide (p < 55296) || decide (57343 < p))
theorem isPt_iff {p : Nat} : isPt p = true ↔ p ≤ 1114111 ∧ (p < 55296 ∨ 57343 < p) := by simp [isPt]
def bytes (p : Nat) : List UInt8 :=
 if p < 128 then [UInt8.ofNat p]
 else if p < 2048 then [UInt8.ofNat (192 + p / 64), UInt8.ofNat (128 + p % 64)]
 else if p < 65536 then [UInt8.ofNat (224 + p / 4096), UInt8.ofNat (128 + p / 64 % 64), UInt8.ofNat (128 + p % 64)]
 else [UInt8.ofNat (240 + p / 262144), UInt8.ofNat (128 + p / 4096 % 64), UInt8.ofNat (128 + p / 64 % 64), UInt8.ofNat (128 + p % 64)]
def bytesO (p : Nat) : List UInt8 := if isPt p then bytes p else []

def cont (c : UInt8) : Bool := decide (128 ≤ c.toNat) && decide (c.toNat ≤ 191)
theorem cont_iff {c : UInt8} : cont c = true ↔ 128 ≤ c.toNat ∧ c.toNat ≤ 191 := by simp [cont]

def sz (a : UInt8) : Nat × Nat :=
 if a.toNat < 128 then (1, a.toNat) else if a.toNat < 194 then (0, 0) else if a.toNat < 224 then (2, a.toNat % 32)
 else if a.toNat < 240 then (3, a.toNat % 16) else if a.toNat < 245 then (4, a.toNat % 8) else (0, 0)
theorem sz_bound (a : UInt8) : (sz a).1 ≤ 4 ∧ ((sz a).1 = 4 → (sz a).2 < 8) ∧ ((sz a).1 = 3 → (sz a).2 < 16) ∧ ((sz a).1 = 2 → (sz a).2 < 32) ∧ ((sz a).1 ≤ 1 → (sz a).2 < 128) := by
 unfold sz; have := a.toNat_lt
 repeat' split
 all_goals simp; try omega

def tailv (p : Nat) : List UInt8 → Nat → Option Nat
 | _, 0 => some p
 | [], _ + 1 => none
 | b :: l, k + 1 => if cont b then tailv (p * 64 + b.toNat % 64) l k else none
theorem tailv_zero (p : Nat) (l : List UInt8) : tailv p l 0 = some p := by cases l <;> rfl

def fits (p n : Nat) : Bool :=
 if n = 3 then decide (2048 ≤ p) && (decide (p < 55296) || decide (57343 < p)) else if n = 4 then decide (65536 ≤ p) && decide (p ≤ 1114111) else true

def one : List UInt8 → Nat × Nat
 | [] => (0, 0)
 | a :: r =>
  if (sz a).1 = 0 ∨ r.length + 1 < (sz a).1 then (0, 0) else
  match tailv (sz a).2 r ((sz a).1 - 1) with
  | none => (0, 0)
  | some p => if fits p (sz a).1 then (p, (sz a).1) else (0, 0)

theorem toNat_ofNat {n : Nat} (h : n < 256) : (UInt8.ofNat n).toNat = n := by simp [UInt8.toNat_ofNat']; omega
theorem ofNat_eq {n : Nat} {c : UInt8} (h : n = c.toNat) : UInt8.ofNat n = c := by subst h; simp

theorem one_bytes {p : Nat} (h : isPt p = true) (t : List UInt8) : one (bytes p ++ t) = (p, (bytes p).length) := by
 have h := isPt_iff.1 h
 unfold bytes
 split
 ·have e1 := toNat_ofNat (n := p) (by omega)
  have hs : sz (UInt8.ofNat p) = (1, p) := by
   unfold sz; rw [e1, if_pos (by omega)]
  simp only [List.cons_append, List.nil_append, one, hs, tailv_zero]
  rw [if_neg (by simp)]
  simp [fits, tailv_zero]
 split
 ·have e1 := toNat_ofNat (n := 192 + p / 64) (by omega)
  have e2 := toNat_ofNat (n := 128 + p % 64) (by omega)
  have hs : sz (UInt8.ofNat (192 + p / 64)) = (2, p / 64) := by
   unfold sz; rw [e1, if_neg (by omega), if_neg (by omega), if_pos (by omega)]; congr 1; omega
  have hc : cont (UInt8.ofNat (128 + p % 64)) = true := cont_iff.2 (by omega)
  simp only [List.cons_append, List.nil_append, one, hs, tailv, hc, if_true, e2, tailv_zero]
  rw [if_neg (by simp), show p / 64 * 64 + (128 + p % 64) % 64 = p by omega]
  simp [fits]
 split
 ·have e1 := toNat_ofNat (n := 224 + p / 4096) (by omega)
  have e2 := toNat_ofNat (n := 128 + p / 64 % 64) (by omega)
  have e3 := toNat_ofNat (n := 128 + p % 64) (by omega)
  have hs : sz (UInt8.ofNat (224 + p / 4096)) = (3, p / 4096) := by
   unfold sz; rw [e1, if_neg (by omega), if_neg (by omega), if_neg (by omega), if_pos (by omega)]; congr 1; omega
  have hc : cont (UInt8.ofNat (128 + p % 64)) = true := cont_iff.2 (by omega)
  have hc2 : cont (UInt8.ofNat (128 + p / 64 % 64)) = true := cont_iff.2 (by omega)
  simp only [List.cons_append, List.nil_append, one, hs, tailv, hc, hc2, if_true, e2, e3, tailv_zero]
  rw [if_neg (by simp), show (p / 4096 * 64 + (128 + p / 64 % 64) % 64) * 64 + (128 + p % 64) % 64 = p by omega]
  simp [fits]
  omega
 ·have e1 := toNat_ofNat (n := 240 + p / 262144) (by omega)
  have e2 := toNat_ofNat (n := 128 + p / 4096 % 64) (by omega)
  have e3 := toNat_ofNat (n := 128 + p / 64 % 64) (by omega)
  have e4 := toNat_ofNat (n := 128 + p % 64) (by omega)
  have hs : sz (UInt8.ofNat (240 + p / 262144)) = (4, p / 262144) := by
   unfold sz; rw [e1, if_neg (by omega), if_neg (by omega), if_neg (by omega), if_neg (by omega), if_pos (by omega)]; congr 1; omega
  have hc : cont (UInt8.ofNat (128 + p % 64)) = true := cont_iff.2 (by omega)
  have hc2 : cont (UInt8.ofNat (128 + p / 64 % 64)) = true := cont_iff.2 (by omega)
  have hc3 : cont (UInt8.ofNat (128 + p / 4096 % 64)) = true := cont_iff.2 (by omega)
  simp only [List.cons_append, List.nil_append, one, hs, tailv, hc, hc2, hc3, if_true, e2, e3, e4, tailv_zero]
  rw [if_neg (by simp), show ((p / 262144 * 64 + (128 + p / 4096 % 64) % 64) * 64 + (128 + p / 64 % 64) % 64) * 64 + (128 + p % 64) % 64 = p by omega]
  simp [fits]
  omega

theorem bytes_pos (p : Nat) : 1 ≤ (bytes p).length := by
 unfold bytes
 repeat' split
 all_goals simp
theorem bytes_le (p : Nat) : (bytes p).length ≤ 4 := by
 unfold bytes
 repeat' split
 all_goals simp
theorem one_cons (a : UInt8) (r : List UInt8) : one (a :: r) = if (sz a).1 = 0 ∨ r.length + 1 < (sz a).1 then (0, 0) else
  match tailv (sz a).2 r ((sz a).1 - 1) with
  | none => (0, 0)
  | some p => if fits p (sz a).1 then (p, (sz a).1) else (0, 0) := rfl

theorem tailv_some {p q : Nat} : ∀ {l : List UInt8} {k : Nat}, tailv p l k = some q → k ≤ l.length := by
 intro l k
 induction k generalizing p l with
 | zero => simp
 | succ k ih =>
  cases l with
  | nil => simp [tailv]
  | cons b l =>
   simp only [tailv]
   split
   ·intro h; have := ih h; simp; omega
   ·simp

theorem one_sound {l : List UInt8} {p n : Nat} (h : one l = (p, n)) (hn : n ≠ 0) : isPt p = true ∧ n = (bytes p).length ∧ l = bytes p ++ l.drop n := by
 rcases l with _ | ⟨a, r⟩
 ·simp [one] at h; omega
 have ha := a.toNat_lt
 rw [one_cons] at h
 by_cases h0 : (sz a).1 = 0 ∨ r.length + 1 < (sz a).1
 ·rw [if_pos h0] at h; simp at h; omega
 rw [if_neg h0] at h
 rcases ht : tailv (sz a).2 r ((sz a).1 - 1) with _ | q
 ·rw [ht] at h; simp at h; omega
 rw [ht] at h
 simp only at h
 by_cases hf : fits q (sz a).1 = true
 case neg => rw [if_neg hf] at h; simp at h; omega
 rw [if_pos hf] at h
 simp at h
 obtain ⟨rfl, hn'⟩ := h
 unfold sz at *
 by_cases c1 : a.toNat < 128
 ·simp only [if_pos c1] at *
  rw [show 1 - 1 = 0 from rfl, tailv_zero] at ht
  obtain rfl : a.toNat = q := by simpa using ht
  subst hn'
  refine ⟨isPt_iff.2 (by omega), by simp [bytes, c1], ?_⟩
  simp [bytes, c1]
 simp only [if_neg c1] at *
 by_cases c2 : a.toNat < 194
 ·simp only [if_pos c2] at *; omega
 simp only [if_neg c2] at *
 by_cases c3 : a.toNat < 224
 ·simp only [if_pos c3] at *
  rcases r with _ | ⟨b, r⟩
  ·simp at h0
  have hb := b.toNat_lt
  simp only [tailv, tailv_zero] at ht
  by_cases hc : cont b = true
  case neg => rw [if_neg hc] at ht; simp at ht
  rw [if_pos hc] at ht
  have hc := cont_iff.1 hc
  simp at ht
  subst hn'
  have e : bytes q = [a, b] := by
   unfold bytes
   rw [if_neg (by omega), if_pos (by omega), ofNat_eq (c := a) (by omega), ofNat_eq (c := b) (by omega)]
  rw [e]
  exact ⟨isPt_iff.2 (by omega), rfl, rfl⟩
 simp only [if_neg c3] at *
 by_cases c4 : a.toNat < 240
 ·simp only [if_pos c4] at *
  rcases r with _ | ⟨b, _ | ⟨c, r⟩⟩
  ·simp at h0
  ·simp at h0
  have hb := b.toNat_lt
  have hcc := c.toNat_lt
  simp only [tailv, tailv_zero] at ht
  by_cases hc : cont b = true
  case neg => rw [if_neg hc] at ht; simp at ht
  by_cases hd : cont c = true
  case neg => rw [if_pos hc, if_neg hd] at ht; simp at ht
  rw [if_pos hc, if_pos hd] at ht
  have hc := cont_iff.1 hc
  have hd := cont_iff.1 hd
  simp at ht
  simp [fits] at hf
  subst hn'
  have e : bytes q = [a, b, c] := by
   unfold bytes
   rw [if_neg (by omega), if_neg (by omega), if_pos (by omega), ofNat_eq (c := a) (by omega), ofNat_eq (c := b) (by omega), ofNat_eq (c := c) (by omega)]
  rw [e]
  exact ⟨isPt_iff.2 (by omega), rfl, rfl⟩
 simp only [if_neg c4] at *
 by_cases c5 : a.toNat < 245
 ·simp only [if_pos c5] at *
  rcases r with _ | ⟨b, _ | ⟨c, _ | ⟨d, r⟩⟩⟩
  ·simp at h0
  ·simp at h0
  ·simp at h0
  have hb := b.toNat_lt
  have hcc := c.toNat_lt
  have hdd := d.toNat_lt
  simp only [tailv, tailv_zero] at ht
  by_cases hc : cont b = true
  case neg => rw [if_neg hc] at ht; simp at ht
  by_cases hd : cont c = true
  case neg => rw [if_pos hc, if_neg hd] at ht; simp at ht
  by_cases he : cont d = true
  case neg => rw [if_pos hc, if_pos hd, if_neg he] at ht; simp at ht
  rw [if_pos hc, if_pos hd, if_pos he] at ht
  have hc := cont_iff.1 hc
  have hd := cont_iff.1 hd
  have he := cont_iff.1 he
  simp at ht
  simp [fits] at hf
  subst hn'
  have e : bytes q = [a, b, c, d] := by
   unfold bytes
   rw [if_neg (by omega), if_neg (by omega), if_neg (by omega), ofNat_eq (c := a) (by omega), ofNat_eq (c := b) (by omega), ofNat_eq (c := c) (by omega), ofNat_eq (c := d) (by omega)]
  rw [e]
  exact ⟨isPt_iff.2 (by omega), rfl, rfl⟩
 ·simp only [if_neg c5] at *; omega

theorem one_sound' {l : List UInt8} (h : (one l).2 ≠ 0) : isPt (one l).1 = true ∧ (one l).2 = (bytes (one l).1).length ∧ l = bytes (one l).1 ++ l.drop (one l).2 :=
 one_sound (p := (one l).1) (n := (one l).2) rfl h

theorem one_len {l : List UInt8} : (one l).2 ≤ l.length ∧ (one l).2 ≤ 4 := by
 by_cases h : (one l).2 = 0
 ·omega
 ·have h1 := one_sound' h
  have h2 := congrArg List.length h1.2.2
  have h3 := bytes_le (one l).1
  simp only [List.length_append, List.length_drop] at h2
  omega
theorem one_zero {l : List UInt8} (h : (one l).2 = 0) : one l = (0, 0) := by
 rcases l with _ | ⟨a, r⟩
 ·rfl
 rw [one_cons] at h ⊢
 by_cases h0 : (sz a).1 = 0 ∨ r.length + 1 < (sz a).1
 ·rw [if_pos h0]
 ·rw [if_neg h0] at h ⊢
  rcases ht : tailv (sz a).2 r ((sz a).1 - 1) with _ | q
  ·rfl
  ·rw [ht] at h
   simp only at h ⊢
   split
   ·rename_i hf; rw [if_pos hf] at h; simp at h; omega
   ·rfl
theorem one_bound (l : List UInt8) : (one l).1 ≤ 1114111 := by
 by_cases h : (one l).2 = 0
 ·rw [one_zero h]; simp
 ·have h1 := one_sound' h
  have := isPt_iff.1 h1.1
  omega

def rn (a : UInt8) : Nat := if 240 ≤ a.toNat then 4 else if 224 ≤ a.toNat then 3 else if 192 ≤ a.toNat then 2 else 1
def rp (a : UInt8) : Nat := if 240 ≤ a.toNat then a.toNat - 240 else if 224 ≤ a.toNat then a.toNat - 224 else if 192 ≤ a.toNat then a.toNat - 192 else a.toNat
def rtail (p : Nat) : List UInt8 → Nat → Nat
 | _, 0 => p
 | [], _ + 1 => p
 | b :: l, k + 1 => rtail (p * 64 + b.toNat % 64) l k
theorem rtail_zero (p : Nat) (l : List UInt8) : rtail p l 0 = p := by cases l <;> rfl

theorem r_bytes {p : Nat} (h : isPt p = true) (t : List UInt8) : ∃ a r, bytes p ++ t = a :: r ∧ rn a = (bytes p).length ∧ rtail (rp a) r (rn a - 1) = p := by
 have h := isPt_iff.1 h
 unfold bytes
 split
 ·have e1 := toNat_ofNat (n := p) (by omega)
  refine ⟨UInt8.ofNat p, t, rfl, ?_, ?_⟩
  ·unfold rn; rw [e1, if_neg (by omega), if_neg (by omega), if_neg (by omega)]; rfl
  ·unfold rn rp; rw [e1, if_neg (by omega), if_neg (by omega), if_neg (by omega), if_neg (by omega), if_neg (by omega), if_neg (by omega)]; simp [rtail]
 split
 ·have e1 := toNat_ofNat (n := 192 + p / 64) (by omega)
  have e2 := toNat_ofNat (n := 128 + p % 64) (by omega)
  refine ⟨UInt8.ofNat (192 + p / 64), UInt8.ofNat (128 + p % 64) :: t, rfl, ?_, ?_⟩
  ·unfold rn; rw [e1, if_neg (by omega), if_neg (by omega), if_pos (by omega)]; rfl
  ·unfold rn rp; rw [e1, if_neg (by omega), if_neg (by omega), if_pos (by omega), if_neg (by omega), if_neg (by omega), if_pos (by omega)]
   simp only [Nat.add_one_sub_one, Nat.reduceSub, List.cons_append, List.nil_append, rtail, e2, rtail_zero]
   omega
 split
 ·have e1 := toNat_ofNat (n := 224 + p / 4096) (by omega)
  have e2 := toNat_ofNat (n := 128 + p / 64 % 64) (by omega)
  have e3 := toNat_ofNat (n := 128 + p % 64) (by omega)
  refine ⟨UInt8.ofNat (224 + p / 4096), UInt8.ofNat (128 + p / 64 % 64) :: UInt8.ofNat (128 + p % 64) :: t, rfl, ?_, ?_⟩
  ·unfold rn; rw [e1, if_neg (by omega), if_pos (by omega)]; rfl
  ·unfold rn rp; rw [e1, if_neg (by omega), if_pos (by omega), if_neg (by omega), if_pos (by omega)]
   simp only [List.cons_append, List.nil_append, rtail, e2, e3, rtail_zero]
   omega
 ·have e1 := toNat_ofNat (n := 240 + p / 262144) (by omega)
  have e2 := toNat_ofNat (n := 128 + p / 4096 % 64) (by omega)
  have e3 := toNat_ofNat (n := 128 + p / 64 % 64) (by omega)
  have e4 := toNat_ofNat (n := 128 + p % 64) (by omega)
  refine ⟨UInt8.ofNat (240 + p / 262144), UInt8.ofNat (128 + p / 4096 % 64) :: UInt8.ofNat (128 + p / 64 % 64) :: UInt8.ofNat (128 + p % 64) :: t, rfl, ?_, ?_⟩
  ·unfold rn; rw [e1, if_pos (by omega)]; rfl
  ·unfold rn rp; rw [e1, if_pos (by omega), if_pos (by omega)]
   simp only [List.cons_append, List.nil_append, rtail, e2, e3, e4, rtail_zero]
   omega

theorem ref_short {a : UInt8} {r : List UInt8} (h : r.length + 1 < rn a) : one (a :: r) = (0, 0) := by
 apply one_zero
 by_cases h0 : (one (a :: r)).2 = 0
 ·exact h0
 exfalso
 have h1 := one_sound' h0
 obtain ⟨a', r', e1, e2, e3⟩ := r_bytes h1.1 ((a :: r).drop (one (a :: r)).2)
 rw [← h1.2.2] at e1
 obtain ⟨rfl, rfl⟩ := List.cons.inj e1
 have h4 := one_len (l := a :: r)
 simp only [List.length_cons] at h4
 omega
theorem ref_yes {a : UInt8} {r : List UInt8} {p : Nat} (h : rtail (rp a) r (rn a - 1) = p) (hb : bytesO p = (a :: r).take (rn a)) : one (a :: r) = (p, rn a) := by
 have hn : 1 ≤ rn a := by
  unfold rn
  repeat' split
  all_goals omega
 unfold bytesO at hb
 by_cases hp : isPt p = true
 ·rw [if_pos hp] at hb
  have h1 := one_bytes hp ((a :: r).drop (rn a))
  obtain ⟨a', r', e1, e2, e3⟩ := r_bytes hp ((a :: r).drop (rn a))
  have e4 : bytes p ++ (a :: r).drop (rn a) = a :: r := by rw [hb, List.take_append_drop]
  rw [e4] at h1 e1
  obtain ⟨rfl, rfl⟩ := List.cons.inj e1
  rw [h1, e2]
 ·rw [if_neg hp] at hb
  exfalso
  have := congrArg List.length hb
  simp at this
  omega
theorem ref_no {a : UInt8} {r : List UInt8} {p : Nat} (h : rtail (rp a) r (rn a - 1) = p) (hb : bytesO p ≠ (a :: r).take (rn a)) : one (a :: r) = (0, 0) := by
 apply one_zero
 by_cases h0 : (one (a :: r)).2 = 0
 ·exact h0
 exfalso
 have h1 := one_sound' h0
 obtain ⟨a', r', e1, e2, e3⟩ := r_bytes h1.1 ((a :: r).drop (one (a :: r)).2)
 rw [← h1.2.2] at e1
 obtain ⟨rfl, rfl⟩ := List.cons.inj e1
 rw [e3] at h
 subst h
 apply hb
 unfold bytesO
 rw [if_pos h1.1, e2]
 have h5 := h1.2.2
 generalize bytes (one (a :: r)).1 = B at h5 ⊢
 generalize (a :: r).drop (one (a :: r)).2 = D at h5
 rw [h5, List.take_left]

def badF : Nat → List UInt8 → Nat
 | 0, _ => 0
 | k + 1, l => if (one l).2 = 0 then 0 else (one l).2 + badF k (l.drop (one l).2)
def bad (l : List UInt8) : Nat := badF l.length l
def ptsF : Nat → List UInt8 → List Nat
 | 0, _ => []
 | k + 1, l => if (one l).2 = 0 then [] else (one l).1 :: ptsF k (l.drop (one l).2)
def pts (l : List UInt8) : List Nat := ptsF l.length l
theorem one_nil : one [] = (0, 0) := rfl
theorem badF_more : ∀ (k m : Nat) (l : List UInt8), l.length ≤ k → l.length ≤ m → badF k l = badF m l
 | 0, 0, l, h, h' => rfl
 | 0, m + 1, l, h, h' => by obtain rfl : l = [] := List.eq_nil_of_length_eq_zero (by omega); simp [badF, one_nil]
 | k + 1, 0, l, h, h' => by obtain rfl : l = [] := List.eq_nil_of_length_eq_zero (by omega); simp [badF, one_nil]
 | k + 1, m + 1, l, h, h' => by
  unfold badF
  split
  ·rfl
  ·rw [badF_more k m (l.drop (one l).2) (by simp; omega) (by simp; omega)]
theorem ptsF_more : ∀ (k m : Nat) (l : List UInt8), l.length ≤ k → l.length ≤ m → ptsF k l = ptsF m l
 | 0, 0, l, h, h' => rfl
 | 0, m + 1, l, h, h' => by obtain rfl : l = [] := List.eq_nil_of_length_eq_zero (by omega); simp [ptsF, one_nil]
 | k + 1, 0, l, h, h' => by obtain rfl : l = [] := List.eq_nil_of_length_eq_zero (by omega); simp [ptsF, one_nil]
 | k + 1, m + 1, l, h, h' => by
  unfold ptsF
  split
  ·rfl
  ·rw [ptsF_more k m (l.drop (one l).2) (by simp; omega) (by simp; omega)]
theorem bad_stop {l : List UInt8} (h : (one l).2 = 0) : bad l = 0 := by
 unfold bad
 cases hl : l.length with
 | zero => rfl
 | succ k => unfold badF; rw [if_pos h]
theorem bad_step {l : List UInt8} (h : (one l).2 ≠ 0) : bad l = (one l).2 + bad (l.drop (one l).2) := by
 have h1 := one_len (l := l)
 unfold bad
 cases hl : l.length with
 | zero => omega
 | succ k =>
  conv => lhs; unfold badF
  rw [if_neg h, badF_more k _ (l.drop (one l).2) (by simp; omega) (Nat.le_refl _)]
theorem pts_stop {l : List UInt8} (h : (one l).2 = 0) : pts l = [] := by
 unfold pts
 cases hl : l.length with
 | zero => rfl
 | succ k => unfold ptsF; rw [if_pos h]
theorem pts_step {l : List UInt8} (h : (one l).2 ≠ 0) : pts l = (one l).1 :: pts (l.drop (one l).2) := by
 have h1 := one_len (l := l)
 unfold pts
 cases hl : l.length with
 | zero => omega
 | succ k =>
  conv => lhs; unfold ptsF
  rw [if_neg h, ptsF_more k _ (l.drop (one l).2) (by simp; omega) (Nat.le_refl _)]
theorem bad_le (l : List UInt8) : bad l ≤ l.length := by
 unfold bad
 have : ∀ (k : Nat) (l : List UInt8), badF k l ≤ l.length := by
  intro k
  induction k with
  | zero => intro l; simp [badF]
  | succ k ih =>
   intro l
   unfold badF
   split
   ·omega
   ·have h1 := ih (l.drop (one l).2)
    have h2 := one_len (l := l)
    simp at h1
    omega
 exact this _ _
theorem bad_nil : bad [] = 0 := rfl
theorem pts_nil : pts [] = [] := rfl

theorem pts_sound : ∀ (n : Nat) (l : List UInt8), l.length ≤ n → bad l = l.length → l = (pts l).flatMap bytes ∧ ∀ p ∈ pts l, isPt p = true
 | 0, l, h, hb => by obtain rfl : l = [] := List.eq_nil_of_length_eq_zero (by omega); simp [pts_nil]
 | n + 1, l, h, hb => by
  by_cases h0 : (one l).2 = 0
  ·have h1 := bad_stop h0
   obtain rfl : l = [] := List.eq_nil_of_length_eq_zero (by omega)
   simp [pts_nil]
  ·have h1 := one_sound' h0
   have h2 := bad_step h0
   have h3 := one_len (l := l)
   have h4 := pts_sound n (l.drop (one l).2) (by simp; omega) (by simp; omega)
   rw [pts_step h0]
   refine ⟨?_, ?_⟩
   ·rw [List.flatMap_cons, ← h4.1, ← h1.2.2]
   ·intro p hp
    rcases List.mem_cons.1 hp with rfl | hp
    ·exact h1.1
    ·exact h4.2 p hp
theorem pts_complete : ∀ (ps : List Nat) (t : List UInt8), (∀ p ∈ ps, isPt p = true) → pts (ps.flatMap bytes ++ t) = ps ++ pts t ∧ bad (ps.flatMap bytes ++ t) = (ps.flatMap bytes).length + bad t
 | [], t, h => by simp
 | p :: ps, t, h => by
  have h1 := one_bytes (h p (by simp)) (ps.flatMap bytes ++ t)
  have h2 := bytes_pos p
  have h3 := pts_complete ps t (fun q hq => h q (by simp [hq]))
  rw [List.flatMap_cons, List.append_assoc]
  have h4 : (one (bytes p ++ (ps.flatMap bytes ++ t))).2 ≠ 0 := by rw [h1]; simp; intro e; rw [e] at h2; simp at h2
  rw [pts_step h4, bad_step h4, h1]
  simp only [List.drop_left, h3.1, h3.2, List.length_append, List.cons_append]
  exact ⟨trivial, by omega⟩

end Go.Proofs.YtgaiepficjiclaaGreatDoor.Utf
/- Plain mathematics of texts between quotes: no program in sight. -/
namespace Go.Proofs.YtgaiepficjiclaaGreatDoor.Chr
set_option linter.unusedVariables false
set_option linter.unusedSimpArgs false
open Utf

def letter (c : UInt8) : UInt8 := if c = 34 then 34 else if c = 92 then 92 else if c = 8 then 98 else if c = 9 then 116 else if c = 10 then 110 else if c = 12 then 102 else if c = 13 then 114 else 0
def hexd (n : Nat) : UInt8 := if n < 10 then UInt8.ofNat (48 + n) else UInt8.ofNat (87 + n)
def esc (c : UInt8) : List UInt8 := if letter c ≠ 0 then [92, letter c] else if c.toNat < 32 then [92, 117, 48, 48, hexd (c.toNat / 16), hexd (c.toNat % 16)] else [c]
def quote (l : List UInt8) : List UInt8 := 34 :: (l.flatMap esc ++ [34])
def quoteO (l : List UInt8) : List UInt8 × Bool := if bad l = l.length then (quote l, true) else ([], false)

def plain (c : UInt8) : Option UInt8 := if c = 34 then some 34 else if c = 92 then some 92 else if c = 47 then some 47 else if c = 98 then some 8 else if c = 102 then some 12 else if c = 110 then some 10 else if c = 114 then some 13 else if c = 116 then some 9 else none
def hexv (c : UInt8) : Option Nat := if 48 ≤ c.toNat ∧ c.toNat ≤ 57 then some (c.toNat - 48) else if 65 ≤ c.toNat ∧ c.toNat ≤ 70 then some (c.toNat - 55) else if 97 ≤ c.toNat ∧ c.toNat ≤ 102 then some (c.toNat - 87) else none
def hexs (n : Nat) : List UInt8 → Option Nat
 | [] => some n
 | c :: l => match hexv c with | some d => hexs (n * 16 + d) l | none => none
def unitv : List UInt8 → Option Nat
 | a :: b :: d0 :: d1 :: d2 :: d3 :: _ => if a = 92 ∧ b = 117 then hexs 0 [d0, d1, d2, d3] else none
 | _ => none
theorem hexv_lt {c : UInt8} {d : Nat} (h : hexv c = some d) : d < 16 := by
 unfold hexv at h; repeat' split at h
 all_goals simp at h; try omega
theorem hexs_lt : ∀ {l : List UInt8} {n a : Nat}, hexs n l = some a → a < (n + 1) * 16 ^ l.length
 | [], n, a, h => by simp [hexs] at h; simp; omega
 | c :: l, n, a, h => by
  unfold hexs at h
  rcases hc : hexv c with _ | d
  ·rw [hc] at h; simp at h
  ·rw [hc] at h
   have h1 := hexs_lt h
   have h2 := hexv_lt hc
   have h3 : (n * 16 + d + 1) * 16 ^ l.length ≤ ((n + 1) * 16) * 16 ^ l.length := Nat.mul_le_mul_right _ (by omega)
   rw [List.length_cons, Nat.pow_succ, Nat.mul_comm (16 ^ l.length) 16, ← Nat.mul_assoc]
   omega
theorem unitv_lt {l : List UInt8} {a : Nat} (h : unitv l = some a) : a < 65536 := by
 unfold unitv at h
 split at h
 ·split at h
  ·have := hexs_lt h; simpa using this
  ·cases h
 ·cases h
theorem unitv_len {l : List UInt8} {a : Nat} (h : unitv l = some a) : 6 ≤ l.length := by
 unfold unitv at h
 split at h
 ·simp
 ·cases h
def escu (l : List UInt8) : Option (Nat × Nat) :=
 match unitv l with
 | none => none
 | some a => if a < 55296 ∨ 57343 < a then some (a, 6) else
  match unitv (l.drop 6) with
  | none => none
  | some b => if a ≤ 56319 ∧ 56320 ≤ b ∧ b ≤ 57343 then some (65536 + (a - 55296) * 1024 + (b - 56320), 12) else none
def escd (l : List UInt8) : Option (Nat × Nat) :=
 match plain (l.getD 1 0) with
 | some p => some (p.toNat, 2)
 | none => escu l
theorem plain_lt {c p : UInt8} (h : plain c = some p) : p.toNat < 128 := by
 unfold plain at h; repeat' split at h
 all_goals simp at h
 all_goals subst h; decide
theorem escu_pt {l : List UInt8} {p n : Nat} (h : escu l = some (p, n)) : isPt p = true ∧ (n = 6 ∨ n = 12) ∧ n ≤ l.length := by
 unfold escu at h
 rcases ha : unitv l with _ | a
 ·rw [ha] at h; cases h
 rw [ha] at h
 have h1 := unitv_lt ha
 have h2 := unitv_len ha
 simp only at h
 split at h
 ·simp at h; obtain ⟨rfl, rfl⟩ := h; exact ⟨isPt_iff.2 (by omega), .inl rfl, h2⟩
 ·rcases hb : unitv (l.drop 6) with _ | b
  ·rw [hb] at h; cases h
  rw [hb] at h
  have h3 := unitv_lt hb
  have h4 := unitv_len hb
  simp only at h
  split at h
  ·simp at h; obtain ⟨rfl, rfl⟩ := h; simp at h4; exact ⟨isPt_iff.2 (by omega), .inr rfl, by omega⟩
  ·cases h
theorem escd_pt {l : List UInt8} {p n : Nat} (h : escd l = some (p, n)) : isPt p = true ∧ 2 ≤ n ∧ n ≤ l.length ∧ n ≤ 12 := by
 unfold escd at h
 rcases hp : plain (l.getD 1 0) with _ | c
 ·rw [hp] at h
  have := escu_pt h
  exact ⟨this.1, by omega, by omega, by omega⟩
 ·rw [hp] at h
  simp at h
  obtain ⟨rfl, rfl⟩ := h
  have := plain_lt hp
  refine ⟨isPt_iff.2 (by omega), by omega, ?_, by omega⟩
  rcases l with _ | ⟨x, _ | ⟨y, l⟩⟩
  ·simp [plain] at hp
  ·simp [plain] at hp
  ·simp

inductive Tok
 | fin : Tok
 | bad : Nat → Tok
 | pc : Nat → Nat → Tok

def tok : List UInt8 → Tok
 | [] => .bad 20
 | c :: r => if c = 34 then .fin else if c.toNat < 32 then .bad 20 else
  if c = 92 then (match escd (c :: r) with | none => .bad 20 | some (p, n) => .pc p n) else
  if (one (c :: r)).2 = 0 then .bad 10 else .pc (one (c :: r)).1 (one (c :: r)).2
theorem tok_cons (c : UInt8) (r : List UInt8) : tok (c :: r) = if c = 34 then .fin else if c.toNat < 32 then .bad 20 else
  if c = 92 then (match escd (c :: r) with | none => .bad 20 | some (p, n) => .pc p n) else
  if (one (c :: r)).2 = 0 then .bad 10 else .pc (one (c :: r)).1 (one (c :: r)).2 := rfl
theorem tok_pc {l : List UInt8} {p n : Nat} (h : tok l = .pc p n) : isPt p = true ∧ 1 ≤ n ∧ n ≤ l.length ∧ n ≤ 12 := by
 rcases l with _ | ⟨c, r⟩
 ·simp [tok] at h
 rw [tok_cons] at h
 split at h
 ·cases h
 split at h
 ·cases h
 split at h
 ·rcases he : escd (c :: r) with _ | ⟨q, m⟩
  ·rw [he] at h; cases h
  ·rw [he] at h
   simp only [Tok.pc.injEq] at h
   obtain ⟨rfl, rfl⟩ := h
   have := escd_pt he
   exact ⟨this.1, by omega, this.2.2.1, this.2.2.2⟩
 split at h
 ·cases h
 ·rename_i h0
  simp only [Tok.pc.injEq] at h
  obtain ⟨rfl, rfl⟩ := h
  have h1 := one_sound (l := c :: r) (p := (one (c :: r)).1) rfl h0
  have h2 := one_len (l := c :: r)
  exact ⟨h1.1, by omega, h2.1, by omega⟩
theorem tok_bad {l : List UInt8} {e : Nat} (h : tok l = .bad e) : e = 20 ∨ (e = 10 ∧ l ≠ []) := by
 rcases l with _ | ⟨c, r⟩
 ·simp [tok] at h; omega
 rw [tok_cons] at h
 split at h
 ·cases h
 split at h
 ·cases h; omega
 split at h
 ·rcases he : escd (c :: r) with _ | ⟨q, m⟩
  ·rw [he] at h; cases h; omega
  ·rw [he] at h; cases h
 split at h
 ·cases h; exact .inr ⟨rfl, by simp⟩
 ·cases h

def rdF : Nat → List UInt8 → List Nat × Nat × Nat
 | 0, _ => ([], 0, 20)
 | k + 1, l => match tok l with
  | .fin => ([], 1, 0)
  | .bad e => ([], 0, e)
  | .pc p n => (p :: (rdF k (l.drop n)).1, n + (rdF k (l.drop n)).2.1, (rdF k (l.drop n)).2.2)
def rd (l : List UInt8) : List Nat × Nat × Nat := rdF (l.length + 1) l
theorem rdF_more : ∀ (k m : Nat) (l : List UInt8), l.length < k → l.length < m → rdF k l = rdF m l
 | 0, _, l, h, _ => by omega
 | _, 0, l, _, h => by omega
 | k + 1, m + 1, l, h, h' => by
  unfold rdF
  rcases ht : tok l with _ | e | ⟨p, n⟩
  ·rfl
  ·rfl
  ·have := tok_pc ht
   simp only
   rw [rdF_more k m (l.drop n) (by simp; omega) (by simp; omega)]
theorem rd_fin {l : List UInt8} (h : tok l = .fin) : rd l = ([], 1, 0) := by unfold rd rdF; rw [h]
theorem rd_bad {l : List UInt8} {e : Nat} (h : tok l = .bad e) : rd l = ([], 0, e) := by unfold rd rdF; rw [h]
theorem rd_pc {l : List UInt8} {p n : Nat} (h : tok l = .pc p n) : rd l = (p :: (rd (l.drop n)).1, n + (rd (l.drop n)).2.1, (rd (l.drop n)).2.2) := by
 have h1 := tok_pc h
 conv => lhs; unfold rd rdF
 rw [h]
 simp only
 rw [rdF_more l.length ((l.drop n).length + 1) (l.drop n) (by simp; omega) (by omega)]
 rfl
theorem rd_nil : rd [] = ([], 0, 20) := rfl

theorem tok_cut {l : List UInt8} : tok l = .fin → ∃ r, l = 34 :: r := by
 rcases l with _ | ⟨c, r⟩
 ·simp [tok]
 ·rw [tok_cons]
  split
  ·rename_i h; subst h; intro _; exact ⟨r, rfl⟩
  ·repeat' split
   all_goals intro h; cases h

theorem rd_all : ∀ (n : Nat) (l : List UInt8), l.length ≤ n → (∀ p ∈ (rd l).1, isPt p = true) ∧ (rd l).2.1 ≤ l.length ∧ ((rd l).2.2 = 0 ∨ (rd l).2.2 = 10 ∨ (rd l).2.2 = 20) ∧ ((rd l).2.2 = 0 → 1 ≤ (rd l).2.1 ∧ l.getD ((rd l).2.1 - 1) 0 = 34) ∧ ((rd l).1.flatMap bytes).length ≤ 4 * (rd l).2.1 ∧ ((rd l).2.2 = 10 → (rd l).2.1 < l.length)
 | n, l, hn => by
  rcases ht : tok l with _ | e | ⟨p, m⟩
  ·obtain ⟨r, rfl⟩ := tok_cut ht
   rw [rd_fin ht]; simp
  ·rw [rd_bad ht]
   have := tok_bad ht
   refine ⟨by simp, by simp, by simp; omega, by simp; omega, by simp, ?_⟩
   intro h
   simp at h
   rcases this with h1 | ⟨_, h1⟩
   ·omega
   ·exact List.length_pos_iff.2 h1
  ·have h1 := tok_pc ht
   rw [rd_pc ht]
   cases n with
   | zero => omega
   | succ n =>
    have h2 := rd_all n (l.drop m) (by simp; omega)
    obtain ⟨a, b, c, d, f, g⟩ := h2
    rw [List.length_drop] at b g
    have hb4 := bytes_le p
    refine ⟨?_, by simp only; omega, c, ?_, ?_, ?_⟩
    ·intro q hq
     rcases List.mem_cons.1 hq with rfl | hq
     ·exact h1.1
     ·exact a q hq
    ·intro h0
     have d := d h0
     refine ⟨by simp only; omega, ?_⟩
     have e := d.2
     simp only [List.getD_eq_getElem?_getD, List.getElem?_drop] at e ⊢
     rw [← e]
     congr 2
     omega
    ·simp only [List.flatMap_cons, List.length_append]
     omega
    ·intro h0; have := g h0; simp only; omega

def read (l : List UInt8) (a : Int) : List UInt8 × Int × Int :=
 if a < 0 ∨ (l.length : Int) ≤ a ∨ l.getD a.toNat 0 ≠ 34 then ([], a, 20) else
 (if (rd (l.drop (a.toNat + 1))).2.2 = 0 then (rd (l.drop (a.toNat + 1))).1.flatMap bytes else [], a + 1 + (rd (l.drop (a.toNat + 1))).2.1, (((rd (l.drop (a.toNat + 1))).2.2 : Nat) : Int))
theorem read_out {l : List UInt8} {a : Int} (h : a < 0 ∨ (l.length : Int) ≤ a ∨ l.getD a.toNat 0 ≠ 34) : read l a = ([], a, 20) := by unfold read; rw [if_pos h]
theorem read_in {l : List UInt8} {k : Nat} (hk : k < l.length) (h : l.getD k 0 = 34) :
  read l k = (if (rd (l.drop (k + 1))).2.2 = 0 then (rd (l.drop (k + 1))).1.flatMap bytes else [], (k : Int) + 1 + (rd (l.drop (k + 1))).2.1, (((rd (l.drop (k + 1))).2.2 : Nat) : Int)) := by
 unfold read
 rw [if_neg (by simp only [Int.toNat_natCast]; intro e; rcases e with e | e | e <;> first | omega | exact e h)]
 simp only [Int.toNat_natCast]

end Go.Proofs.YtgaiepficjiclaaGreatDoor.Chr
/- Plain laws of texts between quotes. -/
namespace Go.Proofs.YtgaiepficjiclaaGreatDoor.Chr
set_option linter.unusedVariables false
set_option linter.unusedSimpArgs false
open Utf

def escP (p : Nat) : List UInt8 :=
 if letter (UInt8.ofNat p) ≠ 0 ∧ p < 128 then [92, letter (UInt8.ofNat p)] else if p < 32 then [92, 117, 48, 48, hexd (p / 16), hexd (p % 16)] else bytes p

theorem letter_lt {c : UInt8} (h : letter c ≠ 0) : c.toNat < 128 := by
 unfold letter at h
 repeat' split at h
 all_goals first | (subst c; decide) | exact absurd rfl h
theorem esc_high {c : UInt8} (h : 128 ≤ c.toNat) : esc c = [c] := by
 unfold esc
 rw [if_neg (fun e => by have := letter_lt e; omega), if_neg (by omega)]
theorem flat_high : ∀ {l : List UInt8}, (∀ c ∈ l, 128 ≤ c.toNat) → l.flatMap esc = l
 | [], _ => rfl
 | c :: l, h => by rw [List.flatMap_cons, esc_high (h c (by simp)), flat_high (fun d hd => h d (by simp [hd]))]; rfl
theorem bytes_high {p : Nat} (h : isPt p = true) (h' : 128 ≤ p) : ∀ c ∈ bytes p, 128 ≤ c.toNat := by
 have h := isPt_iff.1 h
 unfold bytes
 rw [if_neg (by omega)]
 split
 ·intro c hc
  simp only [List.mem_cons, List.not_mem_nil, or_false] at hc
  rcases hc with rfl | rfl <;> rw [toNat_ofNat (by omega)] <;> omega
 split
 ·intro c hc
  simp only [List.mem_cons, List.not_mem_nil, or_false] at hc
  rcases hc with rfl | rfl | rfl <;> rw [toNat_ofNat (by omega)] <;> omega
 ·intro c hc
  simp only [List.mem_cons, List.not_mem_nil, or_false] at hc
  rcases hc with rfl | rfl | rfl | rfl <;> rw [toNat_ofNat (by omega)] <;> omega
theorem esc_bytes {p : Nat} (h : isPt p = true) : (bytes p).flatMap esc = escP p := by
 by_cases h1 : p < 128
 ·have e : bytes p = [UInt8.ofNat p] := by unfold bytes; rw [if_pos h1]
  have e2 := toNat_ofNat (n := p) (by omega)
  rw [e]
  simp only [List.flatMap_cons, List.flatMap_nil, List.append_nil]
  unfold esc escP
  rw [e2, e]
  by_cases h2 : letter (UInt8.ofNat p) ≠ 0
  ·rw [if_pos h2, if_pos ⟨h2, h1⟩]
  ·rw [if_neg h2]
   conv => rhs; rw [if_neg (fun x => h2 x.1)]
 ·rw [flat_high (bytes_high h (by omega))]
  unfold escP
  rw [if_neg (by omega), if_neg (by omega)]
theorem quote_pts {l : List UInt8} (h : bad l = l.length) : l.flatMap esc = (pts l).flatMap escP := by
 have h1 := pts_sound _ l (Nat.le_refl _) h
 conv => lhs; rw [h1.1]
 have : ∀ (ps : List Nat), (∀ p ∈ ps, isPt p = true) → (ps.flatMap bytes).flatMap esc = ps.flatMap escP := by
  intro ps
  induction ps with
  | nil => simp
  | cons p ps ih =>
   intro h
   rw [List.flatMap_cons, List.flatMap_append, List.flatMap_cons, esc_bytes (h p (by simp)), ih (fun q hq => h q (by simp [hq]))]
 exact this _ h1.2

theorem low_all : ∀ p : Fin 128, ∀ t : List UInt8, letter (UInt8.ofNat p) ≠ 0 → plain (letter (UInt8.ofNat p)) = some (UInt8.ofNat p) := by
 have h : ∀ p : Fin 128, letter (UInt8.ofNat p) ≠ 0 → plain (letter (UInt8.ofNat p)) = some (UInt8.ofNat p) := by decide +kernel
 exact fun p _ => h p
theorem low_hex : ∀ p : Fin 32, hexs 0 [48, 48, hexd (p / 16), hexd (p % 16)] = some p.val := by decide +kernel

theorem tok_escP {p : Nat} (h : isPt p = true) (t : List UInt8) : tok (escP p ++ t) = .pc p (escP p).length := by
 have hp := isPt_iff.1 h
 unfold escP
 by_cases h1 : letter (UInt8.ofNat p) ≠ 0 ∧ p < 128
 ·rw [if_pos h1]
  have h2 := low_all ⟨p, h1.2⟩ [] h1.1
  simp only at h2
  simp only [List.cons_append, List.nil_append]
  rw [tok_cons]
  rw [if_neg (by decide), if_neg (by decide), if_pos rfl]
  unfold escd
  rw [show List.getD (92 :: letter (UInt8.ofNat p) :: t) 1 0 = letter (UInt8.ofNat p) from rfl, h2]
  simp only [toNat_ofNat (n := p) (by omega)]
  rfl
 rw [if_neg h1]
 by_cases h2 : p < 32
 ·rw [if_pos h2]
  simp only [List.cons_append, List.nil_append]
  rw [tok_cons]
  rw [if_neg (by decide), if_neg (by decide), if_pos rfl]
  unfold escd
  rw [show List.getD (92 :: 117 :: 48 :: 48 :: hexd (p / 16) :: hexd (p % 16) :: t) 1 0 = 117 from rfl, show plain 117 = none from rfl]
  simp only
  unfold escu
  have h3 : unitv (92 :: 117 :: 48 :: 48 :: hexd (p / 16) :: hexd (p % 16) :: t) = some p := by
   exact low_hex ⟨p, h2⟩
  rw [h3]
  simp only
  rw [if_pos (by omega)]
  rfl
 rw [if_neg h2]
 have h3 := one_bytes h t
 have h4 := bytes_pos p
 obtain ⟨c, r, hc, hlo⟩ : ∃ c r, bytes p ++ t = c :: r ∧ (c = UInt8.ofNat p ∧ p < 128 ∨ 128 ≤ c.toNat) := by
  rcases hb : bytes p with _ | ⟨c, r⟩
  ·rw [hb] at h4; simp at h4
  ·refine ⟨c, r ++ t, rfl, ?_⟩
   by_cases h5 : p < 128
   ·left
    unfold bytes at hb
    rw [if_pos h5] at hb
    exact ⟨(List.cons.inj hb).1.symm, h5⟩
   ·right
    exact bytes_high h (by omega) c (by rw [hb]; simp)
 rw [hc] at h3 ⊢
 have e34 : c ≠ 34 := by
  intro e
  rcases hlo with ⟨e2, h5⟩ | h5
  ·apply h1; refine ⟨?_, h5⟩; rw [← e2, e]; decide
  ·subst e; simp at h5
 have e92 : c ≠ 92 := by
  intro e
  rcases hlo with ⟨e2, h5⟩ | h5
  ·apply h1; refine ⟨?_, h5⟩; rw [← e2, e]; decide
  ·subst e; simp at h5
 have e32 : ¬ c.toNat < 32 := by
  rcases hlo with ⟨e2, h5⟩ | h5
  ·rw [e2, toNat_ofNat (by omega)]; exact h2
  ·omega
 rw [tok_cons]
 rw [if_neg e34, if_neg e32, if_neg e92, h3, if_neg (by show ¬ (bytes p).length = 0; omega)]

theorem rd_back : ∀ (ps : List Nat) (t : List UInt8), (∀ p ∈ ps, isPt p = true) → rd (ps.flatMap escP ++ 34 :: t) = (ps, (ps.flatMap escP).length + 1, 0)
 | [], t, h => by rw [List.flatMap_nil, List.nil_append, rd_fin (by simp [tok])]; rfl
 | p :: ps, t, h => by
  rw [List.flatMap_cons, List.append_assoc, rd_pc (tok_escP (h p (by simp)) _), List.drop_left, rd_back ps t (fun q hq => h q (by simp [hq]))]
  simp only [List.length_append, Prod.mk.injEq, true_and, and_true]
  omega

theorem read_back {h s t : List UInt8} (hs : bad s = s.length) : read (h ++ (quote s ++ t)) (h.length : Nat) = (s, (h.length : Int) + (quote s).length, 0) := by
 have e1 : (h ++ (quote s ++ t)).getD h.length 0 = 34 := by simp [quote, List.getD_eq_getElem?_getD]
 have e2 : (h ++ (quote s ++ t)).drop (h.length + 1) = (pts s).flatMap escP ++ 34 :: t := by
  rw [List.drop_append, List.drop_of_length_le (by omega), show h.length + 1 - h.length = 1 by omega]
  simp [quote, quote_pts hs]
 have h1 := pts_sound _ s (Nat.le_refl _) hs
 rw [read_in (by simp [quote]) e1, e2, rd_back _ _ h1.2]
 simp only [if_true]
 rw [← h1.1]
 simp only [quote, quote_pts hs, List.length_cons, List.length_append, List.length_nil, Prod.mk.injEq, true_and, and_true]
 omega

theorem read_right {l : List UInt8} {a : Int} (h : (read l a).2.2 = 0) : bad (read l a).1 = (read l a).1.length ∧ 0 ≤ a ∧ a < (read l a).2.1 ∧ (read l a).2.1 ≤ l.length ∧ l.getD ((read l a).2.1.toNat - 1) 0 = 34 := by
 unfold read at *
 split at h
 ·simp at h
 rename_i hc
 rw [if_neg hc]
 have h0 : ¬ a < 0 := fun e => hc (.inl e)
 have h1 : ¬ (l.length : Int) ≤ a := fun e => hc (.inr (.inl e))
 obtain ⟨k, rfl⟩ : ∃ k : Nat, a = k := ⟨a.toNat, by omega⟩
 simp only [Int.toNat_natCast] at *
 have h : (rd (l.drop (k + 1))).2.2 = 0 := by omega
 have h2 := rd_all _ (l.drop (k + 1)) (Nat.le_refl _)
 obtain ⟨a1, a2, a3, a4, a5, a6⟩ := h2
 have a4 := a4 h
 rw [List.length_drop] at a2
 rw [if_pos h]
 have h3 := pts_complete _ [] a1
 simp only [List.append_nil, bad_nil, Nat.add_zero] at h3
 refine ⟨h3.2, by omega, by omega, by omega, ?_⟩
 have e := a4.2
 simp only [List.getD_eq_getElem?_getD, List.getElem?_drop] at e ⊢
 rw [← e]
 congr 2
 omega
theorem read_code (l : List UInt8) (a : Int) : ((read l a).2.2 = 0 ∨ (read l a).2.2 = 10 ∨ (read l a).2.2 = 20) ∧ ((read l a).2.2 ≠ 0 → (read l a).1 = []) := by
 unfold read
 split
 ·simp
 ·have h2 := rd_all _ (l.drop (a.toNat + 1)) (Nat.le_refl _)
  obtain ⟨a1, a2, a3, a4, a5, a6⟩ := h2
  simp only
  refine ⟨by omega, ?_⟩
  intro h
  rw [if_neg (by omega)]

theorem one_cut {l : List UInt8} (h : (one l).2 ≠ 0) (m : Nat) (hm : (one l).2 ≤ m) (t : List UInt8) : one (l.take m ++ t) = one l := by
 have h1 := one_sound' h
 have h2 := one_bytes h1.1 (((l.drop (one l).2).take (m - (one l).2)) ++ t)
 have e : l.take m ++ t = bytes (one l).1 ++ ((l.drop (one l).2).take (m - (one l).2) ++ t) := by
  conv => lhs; rw [h1.2.2]
  rw [List.take_append, List.append_assoc, ← h1.2.1, List.take_of_length_le (by omega)]
 rw [e, h2, ← h1.2.1]
theorem unitv_cut {l : List UInt8} {a : Nat} (h : unitv l = some a) (m : Nat) (hm : 6 ≤ m) (t : List UInt8) : unitv (l.take m ++ t) = some a := by
 unfold unitv at h
 split at h
 ·rename_i a b d0 d1 d2 d3 r
  obtain ⟨m, rfl⟩ : ∃ k, m = k + 6 := ⟨m - 6, by omega⟩
  simp only [List.take_succ_cons, List.cons_append]
  unfold unitv
  exact h
 ·cases h
theorem tok_take {l : List UInt8} {p n : Nat} (h : tok l = .pc p n) (m : Nat) (hm : n ≤ m) (t : List UInt8) : tok (l.take m ++ t) = .pc p n := by
 have h0 := tok_pc h
 rcases l with _ | ⟨c, r⟩
 ·simp [tok] at h
 obtain ⟨m, rfl⟩ : ∃ k, m = k + 1 := ⟨m - 1, by omega⟩
 have e : (c :: r).take (m + 1) ++ t = c :: (r.take m ++ t) := rfl
 rw [tok_cons] at h
 split at h
 ·cases h
 rename_i c1
 split at h
 ·cases h
 rename_i c2
 split at h
 ·rename_i c3
  rw [e]
  rw [tok_cons]
  rw [if_neg c1, if_neg c2, if_pos c3, ← e]
  rcases he : escd (c :: r) with _ | ⟨q, k⟩
  ·rw [he] at h; cases h
  rw [he] at h
  simp only [Tok.pc.injEq] at h
  obtain ⟨rfl, rfl⟩ := h
  have hg : ((c :: r).take (m + 1) ++ t).getD 1 0 = (c :: r).getD 1 0 := by
   rcases r with _ | ⟨d, r⟩
   ·simp at h0; have := escd_pt he; simp at this; omega
   ·have := escd_pt he
    obtain ⟨m', rfl⟩ : ∃ k, m = k + 1 := ⟨m - 1, by omega⟩
    rfl
  have : escd ((c :: r).take (m + 1) ++ t) = some (q, k) := by
   unfold escd at he ⊢
   rw [hg]
   rcases hp : plain ((c :: r).getD 1 0) with _ | x
   ·rw [hp] at he
    simp only at he ⊢
    unfold escu at he ⊢
    rcases ha : unitv (c :: r) with _ | a
    ·rw [ha] at he; cases he
    rw [ha] at he
    simp only at he
    have h6 : 6 ≤ m + 1 := by
     split at he
     ·simp at he; omega
     ·rcases hb : unitv ((c :: r).drop 6) with _ | b
      ·rw [hb] at he; cases he
      ·rw [hb] at he; simp only at he; split at he
       ·simp at he; omega
       ·cases he
    rw [unitv_cut ha _ h6]
    simp only
    split at he
    ·rename_i c4; rw [if_pos c4]; exact he
    ·rename_i c4
     rw [if_neg c4]
     rcases hb : unitv ((c :: r).drop 6) with _ | b
     ·rw [hb] at he; cases he
     rw [hb] at he
     simp only at he
     have h12 : 12 ≤ m + 1 := by
      split at he
      ·simp at he; omega
      ·cases he
     have e6 : ((c :: r).take (m + 1) ++ t).drop 6 = ((c :: r).drop 6).take (m + 1 - 6) ++ t := by
      have hl := unitv_len ha
      rw [List.drop_append, List.drop_take]
      congr 1
      rw [List.length_take, show 6 - min (m + 1) (c :: r).length = 0 by omega]
      rfl
     rw [e6, unitv_cut hb _ (by omega)]
     exact he
   ·rw [hp] at he
    exact he
  rw [this]
 ·rename_i c3
  split at h
  ·cases h
  rename_i c4
  simp only [Tok.pc.injEq] at h
  obtain ⟨rfl, rfl⟩ := h
  have := one_cut c4 (m + 1) hm t
  rw [e] at this ⊢
  rw [tok_cons]
  rw [if_neg c1, if_neg c2, if_neg c3, this, if_neg c4]

theorem rd_take : ∀ (k : Nat) (l t : List UInt8), l.length ≤ k → (rd l).2.2 = 0 → rd (l.take (rd l).2.1 ++ t) = rd l
 | k, l, t, hk, h => by
  rcases ht : tok l with _ | e | ⟨p, n⟩
  ·obtain ⟨r, rfl⟩ := tok_cut ht
   rw [rd_fin ht]
   exact rd_fin (by simp [tok])
  ·rw [rd_bad ht] at h
   have := tok_bad ht
   simp at h
   omega
  ·have h1 := tok_pc ht
   cases k with
   | zero => omega
   | succ k =>
    rw [rd_pc ht] at h
    have ih := rd_take k (l.drop n) t (by simp; omega) h
    have h2 := rd_all _ (l.drop n) (Nat.le_refl _)
    rw [List.length_drop] at h2
    rw [rd_pc (l := l.take (rd l).2.1 ++ t) (tok_take ht _ (by rw [rd_pc ht]; simp only; omega) t)]
    have e : ((l.take (rd l).2.1 ++ t).drop n) = (l.drop n).take (rd (l.drop n)).2.1 ++ t := by
     rw [rd_pc ht]
     rw [List.drop_append, List.drop_take, List.length_take]
     simp only
     rw [show n - min (n + (rd (l.drop n)).2.1) l.length = 0 by omega, show n + (rd (l.drop n)).2.1 - n = (rd (l.drop n)).2.1 by omega]
     rfl
    rw [e, ih, ← rd_pc ht]

theorem read_take {l : List UInt8} {a : Int} (t : List UInt8) (h : (read l a).2.2 = 0) : read (l.take (read l a).2.1.toNat ++ t) a = read l a := by
 have hr := read_right h
 unfold read at h
 split at h
 ·simp at h
 rename_i hc
 have h0 : ¬ a < 0 := fun e => hc (.inl e)
 have h1 : ¬ (l.length : Int) ≤ a := fun e => hc (.inr (.inl e))
 obtain ⟨k, rfl⟩ : ∃ k : Nat, a = k := ⟨a.toNat, by omega⟩
 simp only [Int.toNat_natCast] at *
 have h34 : l.getD k 0 = 34 := Classical.byContradiction fun e => hc (.inr (.inr e))
 have h : (rd (l.drop (k + 1))).2.2 = 0 := by omega
 have h2 := rd_all _ (l.drop (k + 1)) (Nat.le_refl _)
 obtain ⟨a1, a2, a3, a4, a5, a6⟩ := h2
 have a4 := a4 h
 rw [List.length_drop] at a2
 have e1 : (read l k).2.1.toNat = k + 1 + (rd (l.drop (k + 1))).2.1 := by
  rw [read_in (by omega) h34]; simp only; omega
 rw [e1]
 have e2 : (l.take (k + 1 + (rd (l.drop (k + 1))).2.1) ++ t).drop (k + 1) = (l.drop (k + 1)).take (rd (l.drop (k + 1))).2.1 ++ t := by
  rw [List.drop_append, List.drop_take, List.length_take, show k + 1 - min (k + 1 + (rd (l.drop (k + 1))).2.1) l.length = 0 by omega, show k + 1 + (rd (l.drop (k + 1))).2.1 - (k + 1) = (rd (l.drop (k + 1))).2.1 by omega]
  rfl
 have e3 : (l.take (k + 1 + (rd (l.drop (k + 1))).2.1) ++ t).getD k 0 = 34 := by
  rw [← h34]
  simp only [List.getD_eq_getElem?_getD]
  rw [List.getElem?_append_left (by rw [List.length_take]; omega), List.getElem?_take_of_lt (by omega)]
 rw [read_in (l := l.take (k + 1 + (rd (l.drop (k + 1))).2.1) ++ t) (by rw [List.length_append, List.length_take]; omega) e3, e2, rd_take _ _ t (Nat.le_refl _) h, read_in (by omega) h34]

end Go.Proofs.YtgaiepficjiclaaGreatDoor.Chr
/- What is read is quoted again in no more bytes. -/
namespace Go.Proofs.YtgaiepficjiclaaGreatDoor.Chr
set_option linter.unusedVariables false
set_option linter.unusedSimpArgs false
open Utf

theorem plain_len : ∀ i : Fin 256, ((plain (UInt8.ofNat i.val)).all fun x => decide ((escP x.toNat).length ≤ 2)) = true := by decide +kernel
theorem plain_len' {c x : UInt8} (h : plain c = some x) : (escP x.toNat).length ≤ 2 := by
 have h1 := plain_len ⟨c.toNat, c.toNat_lt⟩
 simp only [UInt8.ofNat_toNat, h, Option.all_some, decide_eq_true_eq] at h1
 exact h1
theorem escP_le (p : Nat) : (escP p).length ≤ 6 := by
 unfold escP
 have := bytes_le p
 split
 ·simp
 split
 ·simp
 ·omega
theorem letter_low : ∀ i : Fin 128, 32 ≤ i.val → i.val ≠ 34 → i.val ≠ 92 → letter (UInt8.ofNat i.val) = 0 := by decide +kernel
theorem escP_len {l : List UInt8} {p n : Nat} (h : tok l = .pc p n) : (escP p).length ≤ n := by
 rcases l with _ | ⟨c, r⟩
 ·simp [tok] at h
 rw [tok_cons] at h
 split at h
 ·cases h
 rename_i h34
 split at h
 ·cases h
 rename_i h32
 split at h
 ·rcases he : escd (c :: r) with _ | ⟨q, m⟩
  ·rw [he] at h; cases h
  ·rw [he] at h
   simp only [Tok.pc.injEq] at h
   obtain ⟨rfl, rfl⟩ := h
   unfold escd at he
   rcases hp : plain ((c :: r).getD 1 0) with _ | x
   ·rw [hp] at he
    have h1 := escu_pt he
    have h2 := escP_le q
    omega
   ·rw [hp] at he
    simp at he
    obtain ⟨rfl, rfl⟩ := he
    exact plain_len' hp
 rename_i h92
 split at h
 ·cases h
 ·rename_i h0
  simp only [Tok.pc.injEq] at h
  obtain ⟨rfl, rfl⟩ := h
  have h1 := one_sound' h0
  have hpt := isPt_iff.1 h1.1
  generalize (one (c :: r)).1 = p at h1 hpt ⊢
  generalize (one (c :: r)).2 = n at h1 ⊢
  have hb : escP p = bytes p := by
   unfold escP
   by_cases hp : p < 128
   ·have e : bytes p = [UInt8.ofNat p] := by unfold bytes; rw [if_pos hp]
    have hc := h1.2.2
    rw [e] at hc
    have hc1 : c = UInt8.ofNat p := (List.cons.inj hc).1
    have hcn : c.toNat = p := by rw [hc1]; exact toNat_ofNat (by omega)
    rw [if_neg, if_neg (by omega)]
    intro hx
    apply hx.1
    exact letter_low ⟨p, hp⟩ (by simp only; omega) (by
     simp only
     intro e2
     apply h34
     rw [hc1, e2]; rfl) (by
     simp only
     intro e2
     apply h92
     rw [hc1, e2]; rfl)
   ·rw [if_neg (fun x => hp x.2), if_neg (by omega)]
  rw [hb]
  omega
theorem rd_escP : ∀ (k : Nat) (l : List UInt8), l.length ≤ k → (rd l).2.2 = 0 → ((rd l).1.flatMap escP).length + 1 ≤ (rd l).2.1
 | k, l, hk, h => by
  rcases ht : tok l with _ | e | ⟨p, n⟩
  ·rw [rd_fin ht]; simp
  ·rw [rd_bad ht] at h
   have := tok_bad ht
   simp at h
   omega
  ·have h1 := tok_pc ht
   have h2 := escP_len ht
   cases k with
   | zero => omega
   | succ k =>
    rw [rd_pc ht] at h ⊢
    have ih := rd_escP k (l.drop n) (by simp; omega) h
    simp only [List.flatMap_cons, List.length_append]
    omega
theorem read_quote {l : List UInt8} {a : Int} (h : (read l a).2.2 = 0) : (quote (read l a).1).length ≤ l.length := by
 unfold read at *
 split at h
 ·simp at h
 rename_i hc
 rw [if_neg hc]
 have h0 : ¬ a < 0 := fun e => hc (.inl e)
 have h1 : ¬ (l.length : Int) ≤ a := fun e => hc (.inr (.inl e))
 obtain ⟨k, rfl⟩ : ∃ k : Nat, a = k := ⟨a.toNat, by omega⟩
 simp only [Int.toNat_natCast] at *
 have h : (rd (l.drop (k + 1))).2.2 = 0 := by omega
 have h2 := rd_all _ (l.drop (k + 1)) (Nat.le_refl _)
 obtain ⟨a1, a2, a3, a4, a5, a6⟩ := h2
 have h3 := pts_complete _ [] a1
 simp only [List.append_nil, bad_nil, Nat.add_zero, pts_nil] at h3
 have h4 := rd_escP _ (l.drop (k + 1)) (Nat.le_refl _) h
 rw [List.length_drop] at a2
 rw [if_pos h]
 unfold quote
 rw [quote_pts h3.2, h3.1]
 simp only [List.length_cons, List.length_append, List.length_nil]
 omega

end Go.Proofs.YtgaiepficjiclaaGreatDoor.Chr
/- Plain mathematics of tokens: no program in sight. -/
namespace Go.Proofs.YtgaiepficjiclaaGreatDoor.Scn
set_option linter.unusedVariables false
set_option linter.unusedSimpArgs false

structure Tok where
 kind : Nat
 n : Int
 s : List UInt8
 at_ : Nat

def white (c : UInt8) : Bool := c == 32 || c == 9 || c == 10 || c == 13
def part (c : UInt8) : Bool := (decide (97 ≤ c.toNat) && decide (c.toNat ≤ 122)) || (decide (65 ≤ c.toNat) && decide (c.toNat ≤ 90)) || (decide (48 ≤ c.toNat) && decide (c.toNat ≤ 57)) || c == 95
def mark (c : UInt8) : Bool := c == 123 || c == 125 || c == 91 || c == 93 || c == 58 || c == 44
def pre (w d : List UInt8) : Bool := d.take w.length == w && (d.length == w.length || !part (d.getD w.length 0))
def wTrue : List UInt8 := [116, 114, 117, 101]
def wFalse : List UInt8 := [102, 97, 108, 115, 101]
def wNull : List UInt8 := [110, 117, 108, 108]
def wordLen (d : List UInt8) : Nat := if pre wTrue d then 4 else if pre wFalse d then 5 else if pre wNull d then 4 else 0

inductive TR
 | err : Nat → Nat → TR
 | tok : Tok → Nat → TR

def tokAt (l : List UInt8) (k : Nat) : TR :=
 let c := l.getD k 0
 if c = 34 then (let r := Chr.read l k; if r.2.2 = 0 then .tok ⟨4, 0, r.1, k⟩ r.2.1.toNat else .err r.2.2.toNat r.2.1.toNat)
 else if c = 45 ∨ (48 ≤ c.toNat ∧ c.toNat ≤ 57) then (let r := Nm.readNum l k; if r.2.2 = 0 then .tok ⟨3, r.1, [], k⟩ r.2.1.toNat else .err r.2.2.toNat r.2.1.toNat)
 else if mark c then .tok ⟨1, 0, [c], k⟩ (k + 1)
 else if wordLen (l.drop k) = 0 then .err 40 k
 else .tok ⟨2, 0, (l.drop k).take (wordLen (l.drop k)), k⟩ (k + wordLen (l.drop k))

def toks : Nat → List UInt8 → Nat → List Tok × Nat × Nat
 | 0, _, _ => ([], 0, 0)
 | f + 1, l, k =>
  if l.length ≤ k then ([], 0, 0)
  else if white (l.getD k 0) then toks f l (k + 1)
  else match tokAt l k with
   | .err e p => ([], p, e)
   | .tok t n => if (toks f l n).2.2 = 0 then (t :: (toks f l n).1, 0, 0) else ([], (toks f l n).2)
def tokens (l : List UInt8) : List Tok × Nat × Nat := if 65536 < l.length then ([], 0, 2) else toks (l.length + 1) l 0

theorem pre_len {w d : List UInt8} (h : pre w d = true) : w.length ≤ d.length := by
 simp only [pre, Bool.and_eq_true, beq_iff_eq] at h
 have := congrArg List.length h.1
 simp at this
 omega
theorem wordLen_le (d : List UInt8) : wordLen d ≤ d.length ∧ wordLen d ≤ 5 := by
 unfold wordLen
 split
 ·rename_i h; have := pre_len h; simp [wTrue] at this; omega
 split
 ·rename_i h; have := pre_len h; simp [wFalse] at this; omega
 split
 ·rename_i h; have := pre_len h; simp [wNull] at this; omega
 ·omega

theorem readNum_code (l : List UInt8) (a : Int) : (Nm.readNum l a).2.2 = 0 ∨ ((Nm.readNum l a).2.2 = 30 ∧ (Nm.readNum l a).2.1 = a) := by
 by_cases ho : a < 0 ∨ (l.length : Int) ≤ a
 ·rw [Nm.readNum_out ho]; right; exact ⟨rfl, rfl⟩
 obtain ⟨k, rfl⟩ : ∃ k : Nat, a = k := ⟨a.toNat, by omega⟩
 have hk : k < l.length := by omega
 obtain ⟨f, hf⟩ : ∃ f, f = if l.getD k 0 = 45 then k + 1 else k := ⟨_, rfl⟩
 obtain ⟨E, hE⟩ : ∃ E, f + Nm.digLen (l.drop f) = E := ⟨_, rfl⟩
 by_cases hb : E = f ∨ (l.getD f 0 = 48 ∧ 1 < E - f) ∨ (E < l.length ∧ (l.getD E 0 = 46 ∨ l.getD E 0 = 101 ∨ l.getD E 0 = 69))
 ·rw [Nm.readNum_bad hk hf hE hb]; right; exact ⟨rfl, rfl⟩
 ·rw [Nm.readNum_good hk hf hE hb]
  cases hv : Nm.valFrom 0 ((l.drop f).take (E - f)) with
  | none => right; exact ⟨rfl, rfl⟩
  | some n => left; rfl
theorem readNum_next {l : List UInt8} {k : Nat} (hk : k < l.length) (h : (Nm.readNum l k).2.2 = 0) : (k : Int) < (Nm.readNum l k).2.1 ∧ (Nm.readNum l k).2.1 ≤ l.length := by
 obtain ⟨f, hf⟩ : ∃ f, f = if l.getD k 0 = 45 then k + 1 else k := ⟨_, rfl⟩
 obtain ⟨E, hE⟩ : ∃ E, f + Nm.digLen (l.drop f) = E := ⟨_, rfl⟩
 have hd := Nm.digLen_le (l.drop f)
 have hfk : k ≤ f ∧ f ≤ k + 1 := by subst hf; split <;> omega
 simp only [List.length_drop] at hd
 by_cases hb : E = f ∨ (l.getD f 0 = 48 ∧ 1 < E - f) ∨ (E < l.length ∧ (l.getD E 0 = 46 ∨ l.getD E 0 = 101 ∨ l.getD E 0 = 69))
 ·rw [Nm.readNum_bad hk hf hE hb] at h; simp at h
 ·rw [Nm.readNum_good hk hf hE hb] at h ⊢
  cases hv : Nm.valFrom 0 ((l.drop f).take (E - f)) with
  | none => rw [hv] at h; simp at h
  | some n =>
   have : E ≠ f := fun e => hb (.inl e)
   simp only
   omega

theorem tokAt_next {l : List UInt8} {k n : Nat} {t : Tok} (hk : k < l.length) (h : tokAt l k = .tok t n) : k < n ∧ n ≤ l.length ∧ t.at_ = k := by
 unfold tokAt at h
 simp only at h
 split at h
 ·split at h
  ·rename_i h0
   simp only [TR.tok.injEq] at h
   obtain ⟨rfl, rfl⟩ := h
   have hr := Chr.rd_all _ (l.drop (k + 1)) (Nat.le_refl _)
   rename_i h34 
   have e := Chr.read_in hk h34
   rw [e] at h0 ⊢
   simp only at h0 ⊢
   rw [List.length_drop] at hr
   refine ⟨by omega, by omega, ?_⟩
   trivial
  ·cases h
 split at h
 ·split at h
  ·rename_i h0
   simp only [TR.tok.injEq] at h
   obtain ⟨rfl, rfl⟩ := h
   have := readNum_next hk h0
   exact ⟨by omega, by omega, rfl⟩
  ·cases h
 split at h
 ·simp only [TR.tok.injEq] at h
  obtain ⟨rfl, rfl⟩ := h
  exact ⟨by omega, by omega, rfl⟩
 split at h
 ·cases h
 ·simp only [TR.tok.injEq] at h
  obtain ⟨rfl, rfl⟩ := h
  have := wordLen_le (l.drop k)
  simp only [List.length_drop] at this
  exact ⟨by omega, by omega, rfl⟩

theorem toks_more : ∀ (f g : Nat) (l : List UInt8) (k : Nat), l.length < k + f → l.length < k + g → toks f l k = toks g l k
 | 0, 0, l, k, _, _ => rfl
 | 0, g + 1, l, k, h, _ => by unfold toks; rw [if_pos (by omega)]
 | f + 1, 0, l, k, _, h => by
  conv => lhs; unfold toks; rw [if_pos (by omega)]
  rfl
 | f + 1, g + 1, l, k, h, h' => by
  unfold toks
  by_cases h1 : l.length ≤ k
  ·rw [if_pos h1, if_pos h1]
  rw [if_neg h1, if_neg h1]
  by_cases h2 : white (l.getD k 0) = true
  ·rw [if_pos h2, if_pos h2]
   exact toks_more f g l (k + 1) (by omega) (by omega)
  rw [if_neg h2, if_neg h2]
  rcases ht : tokAt l k with ⟨e, p⟩ | ⟨t, n⟩
  ·rfl
  ·have := tokAt_next (by omega) ht
   simp only
   rw [toks_more f g l n (by omega) (by omega)]
def tk (l : List UInt8) (k : Nat) : List Tok × Nat × Nat := toks (l.length + 1) l k
theorem tk_end {l : List UInt8} {k : Nat} (h : l.length ≤ k) : tk l k = ([], 0, 0) := by unfold tk toks; rw [if_pos h]
theorem tk_white {l : List UInt8} {k : Nat} (h : k < l.length) (hw : white (l.getD k 0) = true) : tk l k = tk l (k + 1) := by
 conv => lhs; unfold tk toks
 rw [if_neg (by omega), if_pos hw]
 exact toks_more _ _ l (k + 1) (by omega) (by omega)
theorem tk_err {l : List UInt8} {k e p : Nat} (h : k < l.length) (hw : white (l.getD k 0) = false) (ht : tokAt l k = .err e p) : tk l k = ([], p, e) := by
 unfold tk toks
 rw [if_neg (by omega), if_neg (by rw [hw]; simp), ht]
theorem tk_tok {l : List UInt8} {k n : Nat} {t : Tok} (h : k < l.length) (hw : white (l.getD k 0) = false) (ht : tokAt l k = .tok t n) : tk l k = if (tk l n).2.2 = 0 then (t :: (tk l n).1, 0, 0) else ([], (tk l n).2) := by
 have h1 := tokAt_next h ht
 conv => lhs; unfold tk toks
 rw [if_neg (by omega), if_neg (by rw [hw]; simp), ht]
 simp only
 rw [toks_more l.length (l.length + 1) l n (by omega) (by omega)]
 rfl

end Go.Proofs.YtgaiepficjiclaaGreatDoor.Scn
/- Plain laws of tokens. -/
namespace Go.Proofs.YtgaiepficjiclaaGreatDoor.Scn
set_option linter.unusedVariables false
set_option linter.unusedSimpArgs false

theorem tokAt_err {l : List UInt8} {k e p : Nat} (hk : k < l.length) (h : tokAt l k = .err e p) : p ≤ l.length ∧ e ≠ 0 := by
 unfold tokAt at h
 simp only at h
 split at h
 ·rename_i h34
  split at h
  ·cases h
  ·rename_i h0
   simp only [TR.err.injEq] at h
   obtain ⟨rfl, rfl⟩ := h
   have hr := Chr.rd_all _ (l.drop (k + 1)) (Nat.le_refl _)
   have e := Chr.read_in hk h34
   rw [e] at h0 ⊢
   simp only at h0 ⊢
   rw [List.length_drop] at hr
   refine ⟨by omega, by omega⟩
 split at h
 ·split at h
  ·cases h
  ·rename_i h0
   simp only [TR.err.injEq] at h
   obtain ⟨rfl, rfl⟩ := h
   have := readNum_code l k
   refine ⟨by omega, by omega⟩
 split at h
 ·cases h
 split at h
 ·simp only [TR.err.injEq] at h
  obtain ⟨rfl, rfl⟩ := h
  exact ⟨by omega, by omega⟩
 ·cases h

theorem tk_ok : ∀ (n : Nat) (l : List UInt8) (k : Nat), l.length ≤ k + n → (tk l k).2.2 = 0 → (tk l k).2.1 = 0 ∧ (∀ t ∈ (tk l k).1, k ≤ t.at_ ∧ t.at_ < l.length ∧ white (l.getD t.at_ 0) = false) ∧ (tk l k).1.Pairwise (fun a b => a.at_ < b.at_)
 | n, l, k, hn, h => by
  by_cases h1 : l.length ≤ k
  ·rw [tk_end h1]; simp
  by_cases h2 : white (l.getD k 0) = true
  ·rw [tk_white (by omega) h2] at h ⊢
   cases n with
   | zero => omega
   | succ n =>
    obtain ⟨a, b, c⟩ := tk_ok n l (k + 1) (by omega) h
    refine ⟨a, fun t ht => ?_, c⟩
    have := b t ht
    exact ⟨by omega, this.2⟩
  have h2' : white (l.getD k 0) = false := by simpa using h2
  rcases ht : tokAt l k with ⟨e, p⟩ | ⟨t, m⟩
  ·have := tokAt_err (by omega) ht
   rw [tk_err (by omega) h2' ht] at h
   exact absurd h this.2
  ·have hm := tokAt_next (by omega) ht
   rw [tk_tok (by omega) h2' ht] at h ⊢
   cases n with
   | zero => omega
   | succ n =>
    by_cases h3 : (tk l m).2.2 = 0
    ·rw [if_pos h3] at h ⊢
     obtain ⟨a, b, c⟩ := tk_ok n l m (by omega) h3
     refine ⟨rfl, ?_, ?_⟩
     ·intro u hu
      rcases List.mem_cons.1 hu with rfl | hu
      ·rw [hm.2.2]; exact ⟨by omega, by omega, h2'⟩
      ·have := b u hu
       exact ⟨by omega, this.2⟩
     ·refine List.pairwise_cons.2 ⟨fun u hu => ?_, c⟩
      have := b u hu
      omega
    ·rw [if_neg h3] at h
     exact absurd h h3
theorem tk_bad : ∀ (n : Nat) (l : List UInt8) (k : Nat), l.length ≤ k + n → (tk l k).2.2 ≠ 0 → (tk l k).1 = [] ∧ (tk l k).2.1 ≤ l.length
 | n, l, k, hn, h => by
  by_cases h1 : l.length ≤ k
  ·rw [tk_end h1]; simp
  by_cases h2 : white (l.getD k 0) = true
  ·rw [tk_white (by omega) h2] at h ⊢
   cases n with
   | zero => omega
   | succ n => exact tk_bad n l (k + 1) (by omega) h
  have h2' : white (l.getD k 0) = false := by simpa using h2
  rcases ht : tokAt l k with ⟨e, p⟩ | ⟨t, m⟩
  ·have := tokAt_err (by omega) ht
   rw [tk_err (by omega) h2' ht]
   exact ⟨rfl, this.1⟩
  ·have hm := tokAt_next (by omega) ht
   rw [tk_tok (by omega) h2' ht] at h ⊢
   cases n with
   | zero => omega
   | succ n =>
    by_cases h3 : (tk l m).2.2 = 0
    ·rw [if_pos h3] at h; simp at h
    ·rw [if_neg h3]
     have := tk_bad n l m (by omega) h3
     exact ⟨rfl, this.2⟩

end Go.Proofs.YtgaiepficjiclaaGreatDoor.Scn
/- Tokens further on: what stands ahead of a text moves its tokens. -/
namespace Go.Proofs.YtgaiepficjiclaaGreatDoor.Scn
set_option linter.unusedVariables false
set_option linter.unusedSimpArgs false

def shTok (m : Nat) (t : Tok) : Tok := { t with at_ := t.at_ + m }
def shTR (m : Nat) : TR → TR
 | .err e q => .err e (q + m)
 | .tok t n => .tok (shTok m t) (n + m)
theorem getD_sh (p l : List UInt8) (k : Nat) : (p ++ l).getD (p.length + k) 0 = l.getD k 0 := by
 rw [List.getD_eq_getElem?_getD, List.getElem?_append_right (by omega), List.getD_eq_getElem?_getD]
 congr 2
 omega
theorem drop_sh (p l : List UInt8) (k : Nat) : (p ++ l).drop (p.length + k) = l.drop k := by
 rw [List.drop_append, List.drop_of_length_le (by omega), List.nil_append]
 congr 1
 omega
theorem read_sh {p l : List UInt8} {k : Nat} (hk : k < l.length) (h : l.getD k 0 = 34) : Chr.read (p ++ l) ((p.length + k : Nat) : Int) = ((Chr.read l k).1, (Chr.read l k).2.1 + p.length, (Chr.read l k).2.2) := by
 rw [Chr.read_in (by simp; omega) (by rw [getD_sh]; exact h), Chr.read_in hk h, show p.length + k + 1 = p.length + (k + 1) by omega, drop_sh]
 simp only [Prod.mk.injEq, true_and, and_true]
 omega
theorem readNum_sh {p l : List UInt8} {k : Nat} (hk : k < l.length) : Nm.readNum (p ++ l) ((p.length + k : Nat) : Int) = ((Nm.readNum l k).1, (Nm.readNum l k).2.1 + p.length, (Nm.readNum l k).2.2) := by
 obtain ⟨f, hf⟩ : ∃ f, f = if l.getD k 0 = 45 then k + 1 else k := ⟨_, rfl⟩
 obtain ⟨E, hE⟩ : ∃ E, f + Nm.digLen (l.drop f) = E := ⟨_, rfl⟩
 have hf' : p.length + f = if (p ++ l).getD (p.length + k) 0 = 45 then p.length + k + 1 else p.length + k := by
  rw [getD_sh, hf]; split <;> omega
 have hE' : (p.length + f) + Nm.digLen ((p ++ l).drop (p.length + f)) = p.length + E := by rw [drop_sh]; omega
 by_cases hb : E = f ∨ (l.getD f 0 = 48 ∧ 1 < E - f) ∨ (E < l.length ∧ (l.getD E 0 = 46 ∨ l.getD E 0 = 101 ∨ l.getD E 0 = 69))
 ·rw [Nm.readNum_bad hk hf hE hb, Nm.readNum_bad (by simp; omega) hf' hE' (by
   rw [getD_sh, getD_sh]
   rcases hb with h | h | h
   ·left; omega
   ·right; left; exact ⟨h.1, by omega⟩
   ·right; right; exact ⟨by simp; omega, h.2⟩)]
  simp only [Prod.mk.injEq, true_and, and_true]
  omega
 ·rw [Nm.readNum_good hk hf hE hb, Nm.readNum_good (by simp; omega) hf' hE' (by
   rw [getD_sh, getD_sh]
   intro h
   apply hb
   rcases h with h | h | h
   ·left; omega
   ·right; left; exact ⟨h.1, by omega⟩
   ·right; right; exact ⟨by have := h.1; simp at this; omega, h.2⟩), drop_sh, getD_sh, show p.length + E - (p.length + f) = E - f by omega]
  cases Nm.valFrom 0 ((l.drop f).take (E - f)) with
  | none => simp only [Prod.mk.injEq, true_and, and_true]; omega
  | some n => simp only [Prod.mk.injEq, true_and, and_true]; omega
theorem tokAt_sh {p l : List UInt8} {k : Nat} (hk : k < l.length) : tokAt (p ++ l) (p.length + k) = shTR p.length (tokAt l k) := by
 unfold tokAt
 simp only
 rw [getD_sh]
 by_cases h34 : l.getD k 0 = 34
 ·rw [if_pos h34, if_pos h34, read_sh hk h34]
  have h1 := Chr.read_in hk h34
  have hn : 0 ≤ (Chr.read l k).2.1 := by rw [h1]; simp only; omega
  simp only
  split
  ·simp only [shTR, shTok, TR.tok.injEq, Tok.mk.injEq, true_and]
   omega
  ·simp only [shTR, TR.err.injEq, true_and]
   omega
 rw [if_neg h34, if_neg h34]
 by_cases hd : l.getD k 0 = 45 ∨ (48 ≤ (l.getD k 0).toNat ∧ (l.getD k 0).toNat ≤ 57)
 ·rw [if_pos hd, if_pos hd, readNum_sh hk]
  have hn : 0 ≤ (Nm.readNum l k).2.1 := by
   rcases readNum_code l k with h | h
   ·have := readNum_next hk h; omega
   ·omega
  simp only
  split
  ·simp only [shTR, shTok, TR.tok.injEq, Tok.mk.injEq, true_and]
   omega
  ·simp only [shTR, TR.err.injEq, true_and]
   omega
 rw [if_neg hd, if_neg hd]
 by_cases hm : mark (l.getD k 0) = true
 ·rw [if_pos hm, if_pos hm]
  simp only [shTR, shTok, TR.tok.injEq, Tok.mk.injEq, true_and]
  omega
 rw [if_neg hm, if_neg hm, drop_sh]
 split
 ·simp only [shTR, TR.err.injEq, true_and]
  omega
 ·simp only [shTR, shTok, TR.tok.injEq, Tok.mk.injEq, true_and]
  omega
theorem tk_sh {p : List UInt8} : ∀ (n : Nat) (l : List UInt8) (k : Nat), l.length ≤ k + n → tk (p ++ l) (p.length + k) = ((tk l k).1.map (shTok p.length), if (tk l k).2.2 = 0 then 0 else (tk l k).2.1 + p.length, (tk l k).2.2)
 | n, l, k, hn => by
  by_cases h1 : l.length ≤ k
  ·rw [tk_end h1, tk_end (by simp; omega)]; rfl
  have hlen : p.length + k < (p ++ l).length := by simp; omega
  by_cases h2 : white (l.getD k 0) = true
  ·rw [tk_white (by omega) h2, tk_white hlen (by rw [getD_sh]; exact h2)]
   cases n with
   | zero => omega
   | succ n => exact tk_sh n l (k + 1) (by omega)
  have h2' : white (l.getD k 0) = false := by simpa using h2
  have h3 : white ((p ++ l).getD (p.length + k) 0) = false := by rw [getD_sh]; exact h2'
  have hs := tokAt_sh (p := p) (l := l) (k := k) (by omega)
  rcases ht : tokAt l k with ⟨e, q⟩ | ⟨t, m⟩
  ·rw [ht] at hs
   have := tokAt_err (by omega) ht
   rw [tk_err (by omega) h2' ht, tk_err hlen h3 hs]
   simp only [List.map_nil]
   rw [if_neg this.2]
  ·rw [ht] at hs
   have hm := tokAt_next (by omega) ht
   have hs' : tokAt (p ++ l) (p.length + k) = .tok (shTok p.length t) (p.length + m) := by rw [hs]; simp only [shTR, TR.tok.injEq, true_and]; omega
   rw [tk_tok (by omega) h2' ht, tk_tok hlen h3 hs']
   cases n with
   | zero => omega
   | succ n =>
    rw [tk_sh n l m (by omega)]
    simp only
    by_cases h4 : (tk l m).2.2 = 0
    ·rw [if_pos h4, if_pos h4]; simp
    ·rw [if_neg h4, if_neg h4]
     rw [if_neg h4]
     simp [h4]

end Go.Proofs.YtgaiepficjiclaaGreatDoor.Scn
/- A token is told by its own bytes and by white space behind them. -/
namespace Go.Proofs.YtgaiepficjiclaaGreatDoor.Scn
set_option linter.unusedVariables false
set_option linter.unusedSimpArgs false

theorem white_cases {g : UInt8} (h : white g = true) : g = 32 ∨ g = 9 ∨ g = 10 ∨ g = 13 := by
 simp [white] at h
 rcases h with ((h | h) | h) | h <;> simp [h]
theorem white_num {g : UInt8} (h : white g = true) : Nm.isDig g = false ∧ g ≠ 46 ∧ g ≠ 101 ∧ g ≠ 69 ∧ part g = false := by
 rcases white_cases h with rfl | rfl | rfl | rfl <;> exact ⟨by decide, by decide, by decide, by decide, by decide⟩
theorem white_word {g : UInt8} (h : white g = true) : g ∉ wTrue ∧ g ∉ wFalse ∧ g ∉ wNull := by
 rcases white_cases h with rfl | rfl | rfl | rfl <;> exact ⟨by decide, by decide, by decide⟩
theorem getD_app {l u : List UInt8} {k : Nat} (h : k < l.length) : (l ++ u).getD k 0 = l.getD k 0 := by
 rw [List.getD_eq_getElem?_getD, List.getElem?_append_left h, List.getD_eq_getElem?_getD]
theorem digLen_app {g : UInt8} (hg : Nm.isDig g = false) (u : List UInt8) : ∀ x : List UInt8, Nm.digLen (x ++ g :: u) = Nm.digLen x
 | [] => by simp [Nm.digLen, hg]
 | c :: x => by
  simp only [List.cons_append, Nm.digLen]
  rw [digLen_app hg u x]
theorem drop_app {l u : List UInt8} {k : Nat} (h : k ≤ l.length) : (l ++ u).drop k = l.drop k ++ u := by
 rw [List.drop_append, show k - l.length = 0 by omega, List.drop_zero]
theorem readNum_local {l u : List UInt8} {k : Nat} {g : UInt8} (hg : white g = true) (hk : k < l.length) (h : (Nm.readNum l k).2.2 = 0) : Nm.readNum (l ++ g :: u) k = Nm.readNum l k := by
 obtain ⟨g1, g2, g3, g4, _⟩ := white_num hg
 obtain ⟨f, hf⟩ : ∃ f, f = if l.getD k 0 = 45 then k + 1 else k := ⟨_, rfl⟩
 obtain ⟨E, hE⟩ : ∃ E, f + Nm.digLen (l.drop f) = E := ⟨_, rfl⟩
 have hfl : f ≤ l.length := by subst hf; split <;> omega
 have hd := Nm.digLen_le (l.drop f)
 simp only [List.length_drop] at hd
 have hf' : f = if (l ++ g :: u).getD k 0 = 45 then k + 1 else k := by rw [getD_app hk]; exact hf
 have hE' : f + Nm.digLen ((l ++ g :: u).drop f) = E := by rw [drop_app hfl, digLen_app g1]; exact hE
 by_cases hb : E = f ∨ (l.getD f 0 = 48 ∧ 1 < E - f) ∨ (E < l.length ∧ (l.getD E 0 = 46 ∨ l.getD E 0 = 101 ∨ l.getD E 0 = 69))
 ·rw [Nm.readNum_bad hk hf hE hb] at h; simp at h
 ·have hEf : E ≠ f := fun e => hb (.inl e)
  have hft : ((l ++ g :: u).drop f).take (E - f) = (l.drop f).take (E - f) := by
   rw [drop_app hfl, List.take_append_of_le_length (by simp; omega)]
  rw [Nm.readNum_good hk hf hE hb, Nm.readNum_good (by simp; omega) hf' hE' (by
   rw [getD_app (show f < l.length by omega)]
   intro h
   apply hb
   rcases h with h | h | h
   ·exact .inl h
   ·exact .inr (.inl h)
   ·right; right
    by_cases hEl : E < l.length
    ·rw [getD_app hEl] at h
     exact ⟨hEl, h.2⟩
    ·exfalso
     have e : (l ++ g :: u).getD E 0 = g := by
      rw [show E = l.length by omega]
      simp [List.getD_eq_getElem?_getD]
     rw [e] at h
     rcases h.2 with h | h | h
     ·exact g2 h
     ·exact g3 h
     ·exact g4 h), hft, getD_app hk]
theorem pre_local {w d u : List UInt8} {g : UInt8} (hg : part g = false) (hw : g ∉ w) : pre w (d ++ g :: u) = pre w d := by
 unfold pre
 by_cases h1 : w.length ≤ d.length
 ·rw [List.take_append_of_le_length h1]
  by_cases h2 : d.length = w.length
  ·have e : (d ++ g :: u).getD w.length 0 = g := by rw [← h2]; simp [List.getD_eq_getElem?_getD]
   rw [e, hg, h2]
   simp
  ·rw [getD_app (show w.length < d.length by omega)]
   have a1 : ((d ++ g :: u).length == w.length) = false := by rw [beq_eq_false_iff_ne]; simp; omega
   have a2 : (d.length == w.length) = false := by rw [beq_eq_false_iff_ne]; omega
   rw [a1, a2]
 ·have b1 : (d.take w.length == w) = false := by
   rw [beq_eq_false_iff_ne]
   intro e
   have := congrArg List.length e
   simp at this
   omega
  have b2 : ((d ++ g :: u).take w.length == w) = false := by
   rw [beq_eq_false_iff_ne]
   intro e
   apply hw
   rw [← e, List.take_append, List.mem_append]
   right
   obtain ⟨m, hm⟩ : ∃ m, w.length - d.length = m + 1 := ⟨w.length - d.length - 1, by omega⟩
   rw [hm, List.take_succ_cons]
   exact List.mem_cons_self
  rw [b1, b2]; rfl
theorem wordLen_local {d u : List UInt8} {g : UInt8} (hg : white g = true) : wordLen (d ++ g :: u) = wordLen d := by
 obtain ⟨_, _, _, _, hp⟩ := white_num hg
 obtain ⟨h1, h2, h3⟩ := white_word hg
 unfold wordLen
 rw [pre_local hp h1, pre_local hp h2, pre_local hp h3]
theorem read_local {l v : List UInt8} {k : Nat} (h : (Chr.read l k).2.2 = 0) : Chr.read (l ++ v) k = Chr.read l k := by
 have hr := Chr.read_right h
 have e : l ++ v = l.take (Chr.read l k).2.1.toNat ++ (l.drop (Chr.read l k).2.1.toNat ++ v) := by
  rw [← List.append_assoc, List.take_append_drop]
 rw [e, Chr.read_take _ h]
theorem tokAt_local {l u : List UInt8} {k n : Nat} {g : UInt8} {t : Tok} (hg : white g = true) (hk : k < l.length) (h : tokAt l k = .tok t n) : tokAt (l ++ g :: u) k = .tok t n := by
 have h0 := h
 unfold tokAt at h ⊢
 simp only at h ⊢
 rw [getD_app hk]
 by_cases h34 : l.getD k 0 = 34
 ·rw [if_pos h34] at h ⊢
  by_cases hc : (Chr.read l k).2.2 = 0
  ·rw [read_local hc]; exact h
  ·rw [if_neg hc] at h; cases h
 rw [if_neg h34] at h ⊢
 by_cases hd : l.getD k 0 = 45 ∨ (48 ≤ (l.getD k 0).toNat ∧ (l.getD k 0).toNat ≤ 57)
 ·rw [if_pos hd] at h ⊢
  by_cases hc : (Nm.readNum l k).2.2 = 0
  ·rw [readNum_local hg hk hc]; exact h
  ·rw [if_neg hc] at h; cases h
 rw [if_neg hd] at h ⊢
 by_cases hm : mark (l.getD k 0) = true
 ·rw [if_pos hm] at h ⊢; exact h
 rw [if_neg hm] at h ⊢
 rw [drop_app (by omega), wordLen_local hg]
 by_cases hw : wordLen (l.drop k) = 0
 ·rw [if_pos hw] at h; cases h
 ·rw [if_neg hw] at h ⊢
  rw [← h, List.take_append_of_le_length (wordLen_le _).1]
theorem tk_local {l u : List UInt8} {g : UInt8} (hg : white g = true) : ∀ (n k : Nat), l.length ≤ k + n → k ≤ l.length → (tk l k).2.2 = 0 →
  tk (l ++ g :: u) k = if (tk (l ++ g :: u) l.length).2.2 = 0 then ((tk l k).1 ++ (tk (l ++ g :: u) l.length).1, 0, 0) else ([], (tk (l ++ g :: u) l.length).2)
 | n, k, hn, hkl, h => by
  by_cases h1 : l.length ≤ k
  ·obtain rfl : k = l.length := by omega
   rw [tk_end h1]
   split
   ·rename_i h2
    have h3 := tk_ok (l ++ g :: u).length (l ++ g :: u) l.length (by omega) h2
    rw [List.nil_append]
    apply Prod.ext
    ·rfl
    ·exact Prod.ext h3.1 h2
   ·rename_i h2
    have h3 := tk_bad (l ++ g :: u).length (l ++ g :: u) l.length (by omega) h2
    apply Prod.ext
    ·exact h3.1
    ·rfl
  have hlen : k < (l ++ g :: u).length := by simp; omega
  by_cases h2 : white (l.getD k 0) = true
  ·rw [tk_white (by omega) h2] at h ⊢
   rw [tk_white hlen (by rw [getD_app (by omega)]; exact h2)]
   cases n with
   | zero => omega
   | succ n => exact tk_local hg n (k + 1) (by omega) (by omega) h
  have h2' : white (l.getD k 0) = false := by simpa using h2
  rcases ht : tokAt l k with ⟨e, q⟩ | ⟨t, m⟩
  ·have := tokAt_err (by omega) ht
   rw [tk_err (by omega) h2' ht] at h
   exact absurd h this.2
  ·have hm := tokAt_next (by omega) ht
   have hl := tokAt_local (u := u) hg (by omega) ht
   rw [tk_tok (by omega) h2' ht] at h ⊢
   rw [tk_tok hlen (by rw [getD_app (by omega)]; exact h2') hl]
   cases n with
   | zero => omega
   | succ n =>
    by_cases h3 : (tk l m).2.2 = 0
    ·rw [if_pos h3]
     rw [tk_local hg n m (by omega) (by omega) h3]
     by_cases h4 : (tk (l ++ g :: u) l.length).2.2 = 0
     ·rw [if_pos h4, if_pos h4]; simp
     ·rw [if_neg h4, if_neg h4]
      simp only
      rw [if_neg h4]
    ·rw [if_neg h3] at h
     exact absurd h h3

theorem tk_split {s t : List UInt8} {g : UInt8} (hg : white g = true) (h : (tk s 0).2.2 = 0) :
  tk (s ++ g :: t) 0 = if (tk t 0).2.2 = 0 then ((tk s 0).1 ++ (tk t 0).1.map (shTok (s.length + 1)), 0, 0) else ([], (tk t 0).2.1 + (s.length + 1), (tk t 0).2.2) := by
 have h1 := tk_local (u := t) hg s.length 0 (by omega) (by omega) h
 have h2 : tk (s ++ g :: t) s.length = tk (s ++ g :: t) (s.length + 1) := by
  apply tk_white
  ·simp
  ·have e : (s ++ g :: t).getD s.length 0 = g := by simp [List.getD_eq_getElem?_getD]
   rw [e]; exact hg
 have h3 := tk_sh (p := s ++ [g]) t.length t 0 (by omega)
 have e1 : s ++ [g] ++ t = s ++ g :: t := by simp
 have e2 : (s ++ [g]).length = s.length + 1 := by simp
 rw [e1, e2, Nat.add_zero] at h3
 rw [h1, h2, h3]
 simp only
 by_cases h4 : (tk t 0).2.2 = 0
 ·rw [if_pos h4, if_pos h4]
 ·rw [if_neg h4, if_neg h4, if_neg h4]

end Go.Proofs.YtgaiepficjiclaaGreatDoor.Scn
/- Tokens that are written with white space between them are scanned as they were. -/
namespace Go.Proofs.YtgaiepficjiclaaGreatDoor.Scn
set_option linter.unusedVariables false
set_option linter.unusedSimpArgs false

def wr (t : Tok) : List UInt8 := if t.kind = 3 then Nm.put t.n else if t.kind = 4 then (Chr.quoteO t.s).1 else t.s
inductive Good : Tok → Prop
 | mark (c : UInt8) (a : Nat) : Scn.mark c = true → Good ⟨1, 0, [c], a⟩
 | word (w : List UInt8) (a : Nat) : w = wTrue ∨ w = wFalse ∨ w = wNull → Good ⟨2, 0, w, a⟩
 | num (n : Int) (a : Nat) : -9007199254740991 ≤ n → n ≤ 9007199254740991 → Good ⟨3, n, [], a⟩
 | text (s : List UInt8) (a : Nat) : Utf.bad s = s.length → Good ⟨4, 0, s, a⟩
theorem wordLen_take {d : List UInt8} (h : wordLen d ≠ 0) : d.take (wordLen d) = wTrue ∨ d.take (wordLen d) = wFalse ∨ d.take (wordLen d) = wNull := by
 unfold wordLen at *
 by_cases h1 : pre wTrue d = true
 ·rw [if_pos h1]; left
  simp only [pre, Bool.and_eq_true, beq_iff_eq] at h1; exact h1.1
 rw [if_neg h1] at h ⊢
 by_cases h2 : pre wFalse d = true
 ·rw [if_pos h2]; right; left
  simp only [pre, Bool.and_eq_true, beq_iff_eq] at h2; exact h2.1
 rw [if_neg h2] at h ⊢
 by_cases h3 : pre wNull d = true
 ·rw [if_pos h3]; right; right
  simp only [pre, Bool.and_eq_true, beq_iff_eq] at h3; exact h3.1
 rw [if_neg h3] at h
 exact absurd rfl h
theorem tokAt_good {l : List UInt8} {k n : Nat} {t : Tok} (h : tokAt l k = .tok t n) : Good t := by
 unfold tokAt at h
 simp only at h
 split at h
 ·split at h
  ·rename_i h0
   simp only [TR.tok.injEq] at h
   rw [← h.1]
   exact .text _ _ (Chr.read_right h0).1
  ·cases h
 split at h
 ·split at h
  ·simp only [TR.tok.injEq] at h
   rw [← h.1]
   have := Nm.readNum_bounds l k
   exact .num _ _ this.1 this.2
  ·cases h
 split at h
 ·rename_i hm
  simp only [TR.tok.injEq] at h
  rw [← h.1]
  exact .mark _ _ hm
 split at h
 ·cases h
 ·rename_i hw
  simp only [TR.tok.injEq] at h
  rw [← h.1]
  exact .word _ _ (wordLen_take hw)
theorem tk_good : ∀ (n : Nat) (l : List UInt8) (k : Nat), l.length ≤ k + n → ∀ t ∈ (tk l k).1, Good t
 | n, l, k, hn, t, ht => by
  by_cases h1 : l.length ≤ k
  ·rw [tk_end h1] at ht; simp at ht
  by_cases h2 : white (l.getD k 0) = true
  ·rw [tk_white (by omega) h2] at ht
   cases n with
   | zero => omega
   | succ n => exact tk_good n l (k + 1) (by omega) t ht
  have h2' : white (l.getD k 0) = false := by simpa using h2
  rcases he : tokAt l k with ⟨e, q⟩ | ⟨u, m⟩
  ·rw [tk_err (by omega) h2' he] at ht; simp at ht
  ·have hm := tokAt_next (by omega) he
   rw [tk_tok (by omega) h2' he] at ht
   cases n with
   | zero => omega
   | succ n =>
    split at ht
    ·rcases List.mem_cons.1 ht with rfl | ht
     ·exact tokAt_good he
     ·exact tk_good n l m (by omega) t ht
    ·simp at ht

theorem mark_cases {c : UInt8} (h : mark c = true) : c = 123 ∨ c = 125 ∨ c = 91 ∨ c = 93 ∨ c = 58 ∨ c = 44 := by
 simp [mark] at h
 rcases h with ((((h | h) | h) | h) | h) | h <;> simp [h]
theorem put_head (n : Int) : ∃ c r, Nm.put n = c :: r ∧ (c = 45 ∨ (48 ≤ c.toNat ∧ c.toNat ≤ 57)) := by
 unfold Nm.put
 split
 ·exact ⟨45, _, rfl, .inl rfl⟩
 ·have h1 := Nm.putNat_ne n.natAbs
  have h2 := Nm.putNat_dig n.natAbs
  cases hp : Nm.putNat n.natAbs with
  | nil => exact absurd hp h1
  | cons c r =>
   rw [hp] at h2
   exact ⟨c, r, rfl, .inr (Nm.isDig_iff.1 (h2 c (by simp)))⟩
theorem back_one {t : Tok} (h : Good t) {g : UInt8} (hg : white g = true) (u : List UInt8) :
  white ((wr t ++ g :: u).getD 0 0) = false ∧ tokAt (wr t ++ g :: u) 0 = .tok { t with at_ := 0 } (wr t).length := by
 cases h with
 | mark c a hm =>
  have e : wr ⟨1, 0, [c], a⟩ = [c] := rfl
  rw [e]
  have e0 : ([c] ++ g :: u).getD 0 0 = c := rfl
  rcases mark_cases hm with rfl | rfl | rfl | rfl | rfl | rfl <;> exact ⟨rfl, rfl⟩
 | word w a hw =>
  have e : wr ⟨2, 0, w, a⟩ = w := rfl
  rw [e]
  have hl : ∀ d : List UInt8, wordLen (d ++ g :: u) = wordLen d := fun d => wordLen_local hg
  unfold tokAt
  simp only [List.drop_zero]
  rw [hl]
  rcases hw with rfl | rfl | rfl <;> exact ⟨rfl, rfl⟩
 | num n a h1 h2 =>
  have e : wr ⟨3, n, [], a⟩ = Nm.put n := rfl
  rw [e]
  obtain ⟨c, r, hp, hc⟩ := put_head n
  obtain ⟨g1, g2, g3, g4, _⟩ := white_num hg
  have he : Nm.ends (g :: u) = true := by
   simp only [Nm.ends]
   simp [g1, g2, g3, g4]
  have hr := Nm.readNum_put n (g :: u) he
  rw [if_pos ⟨h1, h2⟩] at hr
  have e0 : (Nm.put n ++ g :: u).getD 0 0 = c := by rw [hp]; rfl
  have hwc : white c = false := by
   rcases hc with rfl | hc
   ·rfl
   ·simp only [white, Bool.or_eq_false_iff, beq_eq_false_iff_ne]
    refine ⟨⟨⟨?_, ?_⟩, ?_⟩, ?_⟩ <;> (intro e; subst e; simp at hc)
  have h34 : c ≠ 34 := by
   rcases hc with rfl | hc
   ·decide
   ·intro e; subst e; simp at hc
  refine ⟨by rw [e0]; exact hwc, ?_⟩
  unfold tokAt
  simp only
  rw [e0, if_neg h34, if_pos hc]
  have hr' : Nm.readNum (Nm.put n ++ g :: u) ((0 : Nat) : Int) = (n, ((Nm.put n).length : Int), 0) := hr
  rw [hr']
  simp
 | text s a hs =>
  have e : wr ⟨4, 0, s, a⟩ = Chr.quote s := by unfold wr Chr.quoteO; simp [hs]
  rw [e]
  have hr := Chr.read_back (h := []) (s := s) (t := g :: u) hs
  simp only [List.nil_append, List.length_nil] at hr
  have e0 : (Chr.quote s ++ g :: u).getD 0 0 = 34 := rfl
  refine ⟨by rw [e0]; rfl, ?_⟩
  unfold tokAt
  simp only
  rw [e0, if_pos rfl, hr]
  simp
def core (t : Tok) : Nat × Int × List UInt8 := (t.kind, t.n, t.s)
theorem core_sh (m : Nat) (ts : List Tok) : (ts.map (shTok m)).map core = ts.map core := by
 rw [List.map_map]; rfl
theorem white_skip {gap : List UInt8} (hg : ∀ c ∈ gap, white c = true) (p u : List UInt8) : ∀ (j : Nat), j ≤ gap.length → tk (p ++ gap ++ u) (p.length + j) = tk (p ++ gap ++ u) (p.length + gap.length)
 | j, hj => by
  by_cases h : j = gap.length
  ·subst h; rfl
  ·have hlt : j < gap.length := by omega
   have e : (p ++ gap ++ u).getD (p.length + j) 0 = gap[j] := by
    rw [List.append_assoc, getD_sh, getD_app hlt, List.getD_eq_getElem?_getD, List.getElem?_eq_getElem hlt]; rfl
   rw [tk_white (by simp; omega) (by rw [e]; exact hg _ (List.getElem_mem _)), show p.length + j + 1 = p.length + (j + 1) by omega]
   exact white_skip hg p u (j + 1) (by omega)
termination_by j => gap.length - j
theorem back_all {gap : List UInt8} (hg : ∀ c ∈ gap, white c = true) (hne : gap ≠ []) : ∀ (ts : List Tok), (∀ t ∈ ts, Good t) →
  ∃ us, tk (ts.flatMap fun t => wr t ++ gap) 0 = (us, 0, 0) ∧ us.map core = ts.map core
 | [], _ => ⟨[], by simp [tk_end], rfl⟩
 | t :: ts, h => by
  obtain ⟨us, h1, h2⟩ := back_all hg hne ts (fun u hu => h u (by simp [hu]))
  obtain ⟨g, gr, rfl⟩ : ∃ g gr, gap = g :: gr := by
   cases gap with
   | nil => exact absurd rfl hne
   | cons g gr => exact ⟨g, gr, rfl⟩
  obtain ⟨W, hW⟩ : ∃ W, (ts.flatMap fun t => wr t ++ g :: gr) = W := ⟨_, rfl⟩
  rw [hW] at h1
  have hb := back_one (h t (by simp)) (hg g (by simp)) (gr ++ W)
  have e : ((t :: ts).flatMap fun t => wr t ++ g :: gr) = wr t ++ (g :: gr) ++ W := by rw [List.flatMap_cons, hW]
  have e' : wr t ++ g :: (gr ++ W) = wr t ++ (g :: gr) ++ W := by simp
  rw [e'] at hb
  have hs := white_skip hg (wr t) W 0 (by omega)
  rw [Nat.add_zero] at hs
  have hsh := tk_sh (p := wr t ++ (g :: gr)) W.length W 0 (by omega)
  rw [h1, Nat.add_zero, List.length_append] at hsh
  simp only [if_true] at hsh
  refine ⟨{ t with at_ := 0 } :: us.map (shTok ((wr t).length + (g :: gr).length)), ?_, ?_⟩
  ·rw [e, tk_tok (by simp; omega) hb.1 hb.2, hs, hsh]
   rfl
  ·rw [List.map_cons, core_sh, h2, List.map_cons]; rfl

end Go.Proofs.YtgaiepficjiclaaGreatDoor.Scn
/- Tokens: what stands at a place, case by case; how the list grows. No program in sight. -/
namespace Go.Proofs.YtgaiepficjiclaaGreatDoor.Scn
set_option linter.unusedVariables false
set_option linter.unusedSimpArgs false

theorem tokAt_text {l : List UInt8} {k : Nat} (hk : k < l.length) (h : l.getD k 0 = 34) :
  (∃ (d : List UInt8) (n : Nat), Chr.read l k = (d, (n : Int), 0) ∧ tokAt l k = .tok ⟨4, 0, d, k⟩ n) ∨
  (∃ (n e : Nat), (e = 10 ∨ e = 20) ∧ n ≤ l.length ∧ Chr.read l k = ([], (n : Int), (e : Int)) ∧ tokAt l k = .err e n) := by
 have e0 := Chr.read_code l (k : Int)
 have hr := Chr.rd_all _ (l.drop (k + 1)) (Nat.le_refl _)
 have e := Chr.read_in hk h
 have hpos : 0 ≤ (Chr.read l k).2.1 ∧ (Chr.read l k).2.1 ≤ l.length := by
  rw [e]
  simp only
  rw [List.length_drop] at hr
  omega
 obtain ⟨n, hn⟩ : ∃ n : Nat, (Chr.read l k).2.1 = n := ⟨(Chr.read l k).2.1.toNat, by omega⟩
 have ht : tokAt l k = if (Chr.read l k).2.2 = 0 then .tok ⟨4, 0, (Chr.read l k).1, k⟩ (Chr.read l k).2.1.toNat else .err (Chr.read l k).2.2.toNat (Chr.read l k).2.1.toNat := by
  unfold tokAt; simp only; rw [if_pos h]
 rcases e0.1 with e1 | e1 | e1
 ·left
  refine ⟨(Chr.read l k).1, n, ?_, ?_⟩
  ·rw [← hn, ← e1]
  ·rw [ht, if_pos e1, hn]; rfl
 ·right
  have e2 := e0.2 (by omega)
  refine ⟨n, 10, .inl rfl, by omega, ?_, ?_⟩
  ·rw [← hn, show ((10 : Nat) : Int) = (Chr.read l k).2.2 by rw [e1]; rfl, ← e2]
  ·rw [ht, if_neg (by omega), hn, e1]; rfl
 ·right
  have e2 := e0.2 (by omega)
  refine ⟨n, 20, .inr rfl, by omega, ?_, ?_⟩
  ·rw [← hn, show ((20 : Nat) : Int) = (Chr.read l k).2.2 by rw [e1]; rfl, ← e2]
  ·rw [ht, if_neg (by omega), hn, e1]; rfl
theorem tokAt_num {l : List UInt8} {k : Nat} (hk : k < l.length) (h : l.getD k 0 = 45 ∨ (48 ≤ (l.getD k 0).toNat ∧ (l.getD k 0).toNat ≤ 57)) :
  (∃ (v : Int) (n : Nat), Nm.readNum l k = (v, (n : Int), 0) ∧ tokAt l k = .tok ⟨3, v, [], k⟩ n) ∨
  (∃ v : Int, Nm.readNum l k = (v, (k : Int), 30) ∧ tokAt l k = .err 30 k) := by
 have h34 : l.getD k 0 ≠ 34 := by
  rintro h2; rw [h2] at h; rcases h with h | h
  ·cases h
  ·have : ((34 : UInt8)).toNat = 34 := rfl
   omega
 have ht : tokAt l k = if (Nm.readNum l k).2.2 = 0 then .tok ⟨3, (Nm.readNum l k).1, [], k⟩ (Nm.readNum l k).2.1.toNat else .err (Nm.readNum l k).2.2.toNat (Nm.readNum l k).2.1.toNat := by
  unfold tokAt; simp only; rw [if_neg h34, if_pos h]
 rcases readNum_code l (k : Int) with e | ⟨e, e2⟩
 ·left
  have hn := readNum_next hk e
  obtain ⟨n, hn2⟩ : ∃ n : Nat, (Nm.readNum l k).2.1 = n := ⟨(Nm.readNum l k).2.1.toNat, by omega⟩
  refine ⟨(Nm.readNum l k).1, n, ?_, ?_⟩
  ·rw [← hn2, ← e]
  ·rw [ht, if_pos e, hn2]; rfl
 ·right
  refine ⟨(Nm.readNum l k).1, ?_, ?_⟩
  ·exact Prod.ext rfl (Prod.ext e2 e)
  ·rw [ht, if_neg (by omega), e, e2]; rfl
theorem tokAt_mark {l : List UInt8} {k : Nat} (h : mark (l.getD k 0) = true) : tokAt l k = .tok ⟨1, 0, [l.getD k 0], k⟩ (k + 1) := by
 unfold tokAt
 simp only
 have hc := mark_cases h
 rw [if_neg (by rcases hc with h | h | h | h | h | h <;> rw [h] <;> decide), if_neg (by rcases hc with h | h | h | h | h | h <;> rw [h] <;> decide), if_pos h]
theorem tokAt_word {l : List UInt8} {k : Nat} (h34 : l.getD k 0 ≠ 34) (hn : ¬ (l.getD k 0 = 45 ∨ (48 ≤ (l.getD k 0).toNat ∧ (l.getD k 0).toNat ≤ 57))) (hm : mark (l.getD k 0) = false) (h : wordLen (l.drop k) ≠ 0) :
  tokAt l k = .tok ⟨2, 0, (l.drop k).take (wordLen (l.drop k)), k⟩ (k + wordLen (l.drop k)) := by
 unfold tokAt
 simp only
 rw [if_neg h34, if_neg hn, if_neg (by rw [hm]; simp), if_neg h]
theorem tokAt_none {l : List UInt8} {k : Nat} (h34 : l.getD k 0 ≠ 34) (hn : ¬ (l.getD k 0 = 45 ∨ (48 ≤ (l.getD k 0).toNat ∧ (l.getD k 0).toNat ≤ 57))) (hm : mark (l.getD k 0) = false) (h : wordLen (l.drop k) = 0) :
  tokAt l k = .err 40 k := by
 unfold tokAt
 simp only
 rw [if_neg h34, if_neg hn, if_neg (by rw [hm]; simp), if_pos h]

structure TkInv (l : List UInt8) (i : Nat) (ts : List Tok) : Prop where
 hi : i ≤ l.length
 len : ts.length ≤ i
 eq : tk l 0 = if (tk l i).2.2 = 0 then (ts ++ (tk l i).1, 0, 0) else ([], (tk l i).2)
theorem TkInv.start (l : List UInt8) : TkInv l 0 [] := by
 refine ⟨by omega, by simp, ?_⟩
 by_cases h : (tk l 0).2.2 = 0
 ·rw [if_pos h]
  have := (tk_ok _ l 0 (Nat.le_add_left _ _) h).1
  rw [List.nil_append]
  exact Prod.ext rfl (Prod.ext this h)
 ·rw [if_neg h]
  have := (tk_bad _ l 0 (Nat.le_add_left _ _) h).1
  exact Prod.ext this rfl
theorem TkInv.white {l : List UInt8} {i : Nat} {ts : List Tok} (h : TkInv l i ts) (hi : i < l.length) (hw : Scn.white (l.getD i 0) = true) : TkInv l (i + 1) ts := by
 refine ⟨by omega, by have := h.len; omega, ?_⟩
 rw [h.eq, tk_white hi hw]
theorem TkInv.tok {l : List UInt8} {i n : Nat} {ts : List Tok} {t : Tok} (h : TkInv l i ts) (hi : i < l.length) (hw : Scn.white (l.getD i 0) = false) (ht : tokAt l i = .tok t n) : TkInv l n (ts ++ [t]) ∧ i < n := by
 have hn := tokAt_next hi ht
 refine ⟨⟨hn.2.1, by have := h.len; simp; omega, ?_⟩, hn.1⟩
 rw [h.eq, tk_tok hi hw ht]
 by_cases h0 : (tk l n).2.2 = 0
 ·rw [if_pos h0, if_pos h0]; simp
 ·rw [if_neg h0, if_neg h0]; simp [h0]
theorem TkInv.err {l : List UInt8} {i p e : Nat} {ts : List Tok} (h : TkInv l i ts) (hi : i < l.length) (hw : Scn.white (l.getD i 0) = false) (ht : tokAt l i = .err e p) : tk l 0 = ([], p, e) := by
 have := tokAt_err hi ht
 rw [h.eq, tk_err hi hw ht]
 rw [if_neg (by exact this.2)]
theorem TkInv.stop {l : List UInt8} {i : Nat} {ts : List Tok} (h : TkInv l i ts) (hi : l.length ≤ i) : tk l 0 = (ts, 0, 0) := by
 rw [h.eq, tk_end hi]; simp
theorem tokens_long {l : List UInt8} (h : 65536 < l.length) : tokens l = ([], 0, 2) := by unfold tokens; rw [if_pos h]
theorem tokens_short {l : List UInt8} (h : ¬ 65536 < l.length) : tokens l = tk l 0 := by unfold tokens; rw [if_neg h]; rfl
theorem tk_len : ∀ (n : Nat) (l : List UInt8) (k : Nat), l.length ≤ k + n → (tk l k).1.length ≤ l.length - k
 | n, l, k, hn => by
  by_cases h1 : l.length ≤ k
  ·rw [tk_end h1]; simp
  cases n with
  | zero => omega
  | succ n =>
   by_cases h2 : Scn.white (l.getD k 0) = true
   ·rw [tk_white (by omega) h2]
    have := tk_len n l (k + 1) (by omega)
    omega
   have h2' : Scn.white (l.getD k 0) = false := by simpa using h2
   rcases ht : tokAt l k with ⟨e, p⟩ | ⟨t, m⟩
   ·rw [tk_err (by omega) h2' ht]; simp
   ·have hm := tokAt_next (by omega) ht
    rw [tk_tok (by omega) h2' ht]
    have := tk_len n l m (by omega)
    split
    ·simp only [List.length_cons]; omega
    ·simp
theorem tokens_len (l : List UInt8) : (tokens l).1.length ≤ l.length := by
 by_cases h : 65536 < l.length
 ·rw [tokens_long h]; simp
 ·rw [tokens_short h]
  have := tk_len l.length l 0 (by omega)
  omega
end Go.Proofs.YtgaiepficjiclaaGreatDoor.Scn
/- Plain mathematics of values and their texts: no program in sight. -/
namespace Go.Proofs.YtgaiepficjiclaaGreatDoor
set_option linter.unusedVariables false
set_option linter.unusedSimpArgs false

inductive JV where
 | mk (k n : Int) (s : List UInt8) (l : List JV) (m : List (List UInt8 × JV))
namespace JV
def kd : JV → Int | .mk k _ _ _ _ => k
def nm : JV → Int | .mk _ n _ _ _ => n
def tx : JV → List UInt8 | .mk _ _ s _ _ => s
def ls : JV → List JV | .mk _ _ _ l _ => l
def ms : JV → List (List UInt8 × JV) | .mk _ _ _ _ m => m
theorem ind {P : JV → Prop} (h : ∀ k n s l m, (∀ v ∈ l, P v) → (∀ p ∈ m, P p.2) → P (.mk k n s l m)) (v : JV) : P v := by
 refine JV.rec (motive_1 := P) (motive_2 := fun l => ∀ v ∈ l, P v) (motive_3 := fun m => ∀ p ∈ m, P p.2) (motive_4 := fun p => P p.2) ?_ ?_ ?_ ?_ ?_ ?_ v
 ·intro k n s l m h1 h2; exact h k n s l m h1 h2
 ·intro v hv; cases hv
 ·intro v l h1 h2 u hu
  rcases List.mem_cons.1 hu with rfl | hu
  ·exact h1
  ·exact h2 u hu
 ·intro v hv; cases hv
 ·intro v l h1 h2 u hu
  rcases List.mem_cons.1 hu with rfl | hu
  ·exact h1
  ·exact h2 u hu
 ·intro s v h; exact h

def nullV : JV := .mk 1 0 [] [] []
def zeroV : JV := .mk 0 0 [] [] []
def boolV (n : Int) : JV := .mk 2 n [] [] []
def intV (n : Int) : JV := .mk 3 n [] [] []
def textV (s : List UInt8) : JV := .mk 4 0 s [] []
def listV (l : List JV) : JV := .mk 5 0 [] l []
def mapV (m : List (List UInt8 × JV)) : JV := .mk 6 0 [] [] m

def tNull : List UInt8 := [110, 117, 108, 108]
def tTrue : List UInt8 := [116, 114, 117, 101]
def tFalse : List UInt8 := [102, 97, 108, 115, 101]
def q (s : List UInt8) : List UInt8 := (Chr.quoteO s).1
mutual
def wrt : JV → List UInt8
 | .mk k n s l m => if k = 1 then tNull else if k = 2 then (if n = 1 then tTrue else tFalse) else if k = 3 then Nm.put n else if k = 4 then q s else if k = 5 then 91 :: (wrtL l true ++ [93]) else 123 :: (wrtM m true ++ [125])
termination_by structural v => v
def wrtL : List JV → Bool → List UInt8
 | [], _ => []
 | v :: l, b => (if b then [] else [44]) ++ wrt v ++ wrtL l false
termination_by structural v => v
def wrtM : List (List UInt8 × JV) → Bool → List UInt8
 | [], _ => []
 | p :: m, b => (if b then [] else [44]) ++ wrtP p ++ wrtM m false
termination_by structural v => v
def wrtP : List UInt8 × JV → List UInt8
 | (s, v) => q s ++ 58 :: wrt v
termination_by structural v => v
end

def namesB (m : List (List UInt8 × JV)) : Bool := (m.all fun p => Utf.bad p.1 == p.1.length) && decide (m.map (·.1)).Nodup
def bareB : JV → Bool
 | .mk k n s l m => (n == 0 || k == 2 || k == 3) && (s.length == 0 || k == 4) && (l.length == 0 || k == 5) && (m.length == 0 || k == 6)
def rightB : JV → Bool
 | .mk k n s l m =>
 decide (1 ≤ k) && decide (k ≤ 6) && bareB (.mk k n s l m) && (Utf.bad s == s.length) &&
 (if k = 2 then (n == 0 || n == 1) else if k = 3 then decide (-9007199254740991 ≤ n) && decide (n ≤ 9007199254740991) else if k = 6 then decide (8192 < m.length) || namesB m else true)
mutual
def chk : JV → Nat → Nat → Nat × Nat
 | .mk k n s l m, d, p =>
  if 16 < d then (51, p) else if 8192 ≤ p then (53, p) else if rightB (.mk k n s l m) = false then (1, p)
  else (let r := chkL l (d + 1) (p + 1); if r.1 ≠ 0 then r else chkM m (d + 1) r.2)
termination_by structural v => v
def chkL : List JV → Nat → Nat → Nat × Nat
 | [], _, p => (0, p)
 | v :: l, d, p => let r := chk v d p; if r.1 ≠ 0 then r else chkL l d r.2
termination_by structural v => v
def chkM : List (List UInt8 × JV) → Nat → Nat → Nat × Nat
 | [], _, p => (0, p)
 | x :: m, d, p => let r := chkP x d p; if r.1 ≠ 0 then r else chkM m d r.2
termination_by structural v => v
def chkP : List UInt8 × JV → Nat → Nat → Nat × Nat
 | (_, v), d, p => chk v d p
termination_by structural v => v
end
mutual
def allB : JV → Bool
 | .mk k n s l m => allL l && allM m && rightB (.mk k n s l m)
termination_by structural v => v
def allL : List JV → Bool
 | [] => true
 | v :: l => allB v && allL l
termination_by structural v => v
def allM : List (List UInt8 × JV) → Bool
 | [] => true
 | x :: m => allP x && allM m
termination_by structural v => v
def allP : List UInt8 × JV → Bool
 | (_, v) => allB v
termination_by structural v => v
end
mutual
def bulk : JV → Nat
 | .mk k n s l m => 3 + s.length + bulkL l + bulkM m
termination_by structural v => v
def bulkL : List JV → Nat
 | [] => 0
 | v :: l => bulk v + bulkL l
termination_by structural v => v
def bulkM : List (List UInt8 × JV) → Nat
 | [] => 0
 | x :: m => bulkP x + bulkM m
termination_by structural v => v
def bulkP : List UInt8 × JV → Nat
 | (s, v) => 1 + s.length + bulk v
termination_by structural v => v
end

theorem bulk_pos (v : JV) : 3 ≤ bulk v := by cases v; unfold bulk; omega
theorem q_len (s : List UInt8) : (q s).length ≤ 6 * s.length + 2 := by
 unfold q Chr.quoteO
 split
 ·simp only
  unfold Chr.quote
  have : ∀ l : List UInt8, (l.flatMap Chr.esc).length ≤ 6 * l.length := by
   intro l
   induction l with
   | nil => simp
   | cons x l ih =>
    rw [List.flatMap_cons, List.length_append, List.length_cons]
    have : (Chr.esc x).length ≤ 6 := by unfold Chr.esc; (repeat' split); all_goals simp
    omega
  have := this s
  simp only [List.length_cons, List.length_append, List.length_nil]
  omega
 ·simp
end JV
end Go.Proofs.YtgaiepficjiclaaGreatDoor
/- Plain laws of values: which are right; how long their texts are. -/
namespace Go.Proofs.YtgaiepficjiclaaGreatDoor.JV
set_option linter.unusedVariables false
set_option linter.unusedSimpArgs false

theorem chk_mk (k n : Int) (s : List UInt8) (l : List JV) (m : List (List UInt8 × JV)) (d p : Nat) : chk (.mk k n s l m) d p =
  if 16 < d then (51, p) else if 8192 ≤ p then (53, p) else if rightB (.mk k n s l m) = false then (1, p)
  else if (chkL l (d + 1) (p + 1)).1 ≠ 0 then chkL l (d + 1) (p + 1) else chkM m (d + 1) (chkL l (d + 1) (p + 1)).2 := by
 conv => lhs; unfold chk
theorem chkL_nil (d p : Nat) : chkL [] d p = (0, p) := by unfold chkL; rfl
theorem chkM_nil (d p : Nat) : chkM [] d p = (0, p) := by unfold chkM; rfl
theorem chkL_cons (v : JV) (l : List JV) (d p : Nat) : chkL (v :: l) d p = if (chk v d p).1 ≠ 0 then chk v d p else chkL l d (chk v d p).2 := by
 conv => lhs; unfold chkL
theorem chkM_cons (x : List UInt8 × JV) (m : List (List UInt8 × JV)) (d p : Nat) : chkM (x :: m) d p = if (chk x.2 d p).1 ≠ 0 then chk x.2 d p else chkM m d (chk x.2 d p).2 := by
 conv => lhs; unfold chkM
 unfold chkP
 rfl
theorem all_mk (k n : Int) (s : List UInt8) (l : List JV) (m : List (List UInt8 × JV)) : allB (.mk k n s l m) = (allL l && allM m && rightB (.mk k n s l m)) := by conv => lhs; unfold allB
theorem allL_all : ∀ l : List JV, allL l = l.all allB
 | [] => by unfold allL; rfl
 | v :: l => by unfold allL; rw [allL_all l]; rfl
theorem allM_all : ∀ m : List (List UInt8 × JV), allM m = m.all fun x => allB x.2
 | [] => by unfold allM; rfl
 | x :: m => by unfold allM allP; rw [allM_all m]; rfl
theorem all_iff (v : JV) : allB v = true ↔ rightB v = true ∧ (∀ u ∈ v.ls, allB u = true) ∧ ∀ x ∈ v.ms, allB x.2 = true := by
 cases v with
 | mk k n s l m =>
  rw [all_mk, allL_all, allM_all]
  simp only [Bool.and_eq_true, List.all_eq_true, ls, ms]
  constructor
  ·rintro ⟨⟨a, b⟩, c⟩; exact ⟨c, a, b⟩
  ·rintro ⟨c, a, b⟩; exact ⟨⟨a, b⟩, c⟩
theorem chk_code (v : JV) : ∀ d p, (chk v d p).1 = 0 ∨ (chk v d p).1 = 1 ∨ (chk v d p).1 = 51 ∨ (chk v d p).1 = 53 := by
 induction v using JV.ind with
 | h k n s l m ihl ihm =>
  intro d p
  have hL : ∀ (l : List JV) (d p : Nat), (∀ v ∈ l, ∀ d p, (chk v d p).1 = 0 ∨ (chk v d p).1 = 1 ∨ (chk v d p).1 = 51 ∨ (chk v d p).1 = 53) → (chkL l d p).1 = 0 ∨ (chkL l d p).1 = 1 ∨ (chkL l d p).1 = 51 ∨ (chkL l d p).1 = 53 := by
   intro l
   induction l with
   | nil => intro d p _; rw [chkL_nil]; exact .inl rfl
   | cons v l ih =>
    intro d p h
    rw [chkL_cons]
    split
    ·exact h v (by simp) d p
    ·exact ih d _ (fun u hu => h u (by simp [hu]))
  have hM : ∀ (l : List (List UInt8 × JV)) (d p : Nat), (∀ v ∈ l, ∀ d p, (chk v.2 d p).1 = 0 ∨ (chk v.2 d p).1 = 1 ∨ (chk v.2 d p).1 = 51 ∨ (chk v.2 d p).1 = 53) → (chkM l d p).1 = 0 ∨ (chkM l d p).1 = 1 ∨ (chkM l d p).1 = 51 ∨ (chkM l d p).1 = 53 := by
   intro l
   induction l with
   | nil => intro d p _; rw [chkM_nil]; exact .inl rfl
   | cons v l ih =>
    intro d p h
    rw [chkM_cons]
    split
    ·exact h v (by simp) d p
    ·exact ih d _ (fun u hu => h u (by simp [hu]))
  rw [chk_mk]
  split
  ·simp
  split
  ·simp
  split
  ·simp
  split
  ·exact hL l _ _ ihl
  ·exact hM m _ _ ihm

theorem chk_shift (v : JV) : ∀ d p, ∃ x p', chk v (d + 1) (p + 1) = (x, p' + 1) ∧ ((x = 51 ∨ x = 53) ∨ chk v d p = (x, p')) := by
 induction v using JV.ind with
 | h k n s l m ihl ihm =>
  intro d p
  have hL : ∀ (l : List JV) (d p : Nat), (∀ v ∈ l, ∀ d p, ∃ x p', chk v (d + 1) (p + 1) = (x, p' + 1) ∧ ((x = 51 ∨ x = 53) ∨ chk v d p = (x, p'))) → ∃ x p', chkL l (d + 1) (p + 1) = (x, p' + 1) ∧ ((x = 51 ∨ x = 53) ∨ chkL l d p = (x, p')) := by
   intro l
   induction l with
   | nil => intro d p _; exact ⟨0, p, by rw [chkL_nil], .inr (by rw [chkL_nil])⟩
   | cons v l ih =>
    intro d p h
    obtain ⟨x, p', h1, h2⟩ := h v (by simp) d p
    rw [chkL_cons, chkL_cons, h1]
    by_cases hx : x = 0
    ·subst hx
     simp only [ne_eq, not_true_eq_false, if_false]
     rcases h2 with h2 | h2
     ·omega
     ·rw [h2]
      simp only [ne_eq, not_true_eq_false, if_false]
      exact ih d p' (fun u hu => h u (by simp [hu]))
    ·simp only [ne_eq, hx, not_false_eq_true, if_true]
     refine ⟨x, p', rfl, ?_⟩
     rcases h2 with h2 | h2
     ·exact .inl h2
     ·right; rw [h2]; simp [hx]
  have hM : ∀ (l : List (List UInt8 × JV)) (d p : Nat), (∀ v ∈ l, ∀ d p, ∃ x p', chk v.2 (d + 1) (p + 1) = (x, p' + 1) ∧ ((x = 51 ∨ x = 53) ∨ chk v.2 d p = (x, p'))) → ∃ x p', chkM l (d + 1) (p + 1) = (x, p' + 1) ∧ ((x = 51 ∨ x = 53) ∨ chkM l d p = (x, p')) := by
   intro l
   induction l with
   | nil => intro d p _; exact ⟨0, p, by rw [chkM_nil], .inr (by rw [chkM_nil])⟩
   | cons v l ih =>
    intro d p h
    obtain ⟨x, p', h1, h2⟩ := h v (by simp) d p
    rw [chkM_cons, chkM_cons, h1]
    by_cases hx : x = 0
    ·subst hx
     simp only [ne_eq, not_true_eq_false, if_false]
     rcases h2 with h2 | h2
     ·omega
     ·rw [h2]
      simp only [ne_eq, not_true_eq_false, if_false]
      exact ih d p' (fun u hu => h u (by simp [hu]))
    ·simp only [ne_eq, hx, not_false_eq_true, if_true]
     refine ⟨x, p', rfl, ?_⟩
     rcases h2 with h2 | h2
     ·exact .inl h2
     ·right; rw [h2]; simp [hx]
  rw [chk_mk, chk_mk]
  by_cases h16 : 16 < d + 1
  ·rw [if_pos h16]; exact ⟨51, p, rfl, .inl (.inl rfl)⟩
  rw [if_neg h16, if_neg (show ¬ 16 < d by omega)]
  by_cases hp : 8192 ≤ p + 1
  ·rw [if_pos hp]; exact ⟨53, p, rfl, .inl (.inr rfl)⟩
  rw [if_neg hp, if_neg (show ¬ 8192 ≤ p by omega)]
  by_cases hr : rightB (.mk k n s l m) = false
  ·rw [if_pos hr, if_pos hr]; exact ⟨1, p, rfl, .inr rfl⟩
  rw [if_neg hr, if_neg hr]
  obtain ⟨x, p', h1, h2⟩ := hL l (d + 1) (p + 1) ihl
  rw [h1]
  by_cases hx : x = 0
  ·subst hx
   simp only [ne_eq, not_true_eq_false, if_false]
   rcases h2 with h2 | h2
   ·omega
   ·rw [h2]
    simp only [ne_eq, not_true_eq_false, if_false]
    exact hM m (d + 1) p' ihm
  ·simp only [ne_eq, hx, not_false_eq_true, if_true]
   refine ⟨x, p', rfl, ?_⟩
   rcases h2 with h2 | h2
   ·exact .inl h2
   ·right; rw [h2]; simp [hx]

theorem right_list (v : JV) : rightB (listV [v]) = true := by simp [rightB, listV, kd, nm, tx, ms, bareB]; decide
theorem right_map1 (v : JV) : rightB (mapV [([107], v)]) = true := by
 simp [rightB, mapV, kd, nm, tx, ms, bareB, namesB]; decide +kernel
theorem chk_list1 (v : JV) : chk (listV [v]) 1 0 = chk v 2 1 := by
 unfold listV
 rw [chk_mk, if_neg (by omega), if_neg (by omega), if_neg (by have := right_list v; unfold listV at this; rw [this]; simp), chkL_cons, chkL_nil, chkM_nil]
 rcases h : chk v (1 + 1) (0 + 1) with ⟨x, p⟩
 by_cases hx : x = 0
 ·subst hx; simp
 ·simp [hx]
theorem chk_map1 (v : JV) : chk (mapV [([107], v)]) 1 0 = chk v 2 1 := by
 unfold mapV
 rw [chk_mk, if_neg (by omega), if_neg (by omega), if_neg (by have := right_map1 v; unfold mapV at this; rw [this]; simp), chkL_nil, chkM_cons, chkM_nil]
 simp only [ne_eq, not_true_eq_false, if_false]
 rcases h : chk v (1 + 1) (0 + 1) with ⟨x, p⟩
 by_cases hx : x = 0
 ·subst hx; simp
 ·simp [hx]
theorem wrapped_code (v : JV) : (chk v 2 1).1 = 51 ∨ (chk v 2 1).1 = 53 ∨ (chk v 1 0).1 = (chk v 2 1).1 := by
 obtain ⟨x, p, h1, h2⟩ := chk_shift v 1 0
 rw [show 2 = 1 + 1 by rfl, show (1 : Nat) = 0 + 1 by rfl] at *
 rw [h1]
 rcases h2 with (h2 | h2) | h2
 ·exact .inl h2
 ·exact .inr (.inl h2)
 ·right; right; rw [h2]

theorem chk_right {v : JV} {d p : Nat} (h : (chk v d p).1 = 0) : rightB v = true := by
 cases v with
 | mk k n s l m =>
  rw [chk_mk] at h
  split at h
  ·cases h
  split at h
  ·cases h
  split at h
  ·cases h
  ·rename_i hr; simpa using hr
theorem chk_wrong {v : JV} (h : rightB v = false) : (chk v 1 0).1 = 1 := by
 cases v with
 | mk k n s l m => rw [chk_mk, if_neg (by omega), if_neg (by omega), if_pos h]

theorem chk_all (v : JV) : ∀ d p, ((chk v d p).1 = 0 → allB v = true) ∧ ((chk v d p).1 = 1 → allB v = false) := by
 induction v using JV.ind with
 | h k n s l m ihl ihm =>
  intro d p
  have hL : ∀ (l : List JV) (d p : Nat), (∀ v ∈ l, ∀ d p, ((chk v d p).1 = 0 → allB v = true) ∧ ((chk v d p).1 = 1 → allB v = false)) → ((chkL l d p).1 = 0 → allL l = true) ∧ ((chkL l d p).1 = 1 → allL l = false) := by
   intro l
   induction l with
   | nil => intro d p _; rw [chkL_nil, allL_all]; simp
   | cons v l ih =>
    intro d p h
    rw [chkL_cons, allL_all]
    have hv := h v (by simp) d p
    have hi := ih d (chk v d p).2 (fun u hu => h u (by simp [hu]))
    rw [allL_all] at hi
    by_cases h0 : (chk v d p).1 = 0
    ·rw [if_neg (by simp [h0])]
     rw [List.all_cons, hv.1 h0, Bool.true_and]
     exact hi
    ·rw [if_pos h0, List.all_cons]
     exact ⟨fun h => absurd h h0, fun h => by rw [hv.2 h]; rfl⟩
  have hM : ∀ (l : List (List UInt8 × JV)) (d p : Nat), (∀ v ∈ l, ∀ d p, ((chk v.2 d p).1 = 0 → allB v.2 = true) ∧ ((chk v.2 d p).1 = 1 → allB v.2 = false)) → ((chkM l d p).1 = 0 → allM l = true) ∧ ((chkM l d p).1 = 1 → allM l = false) := by
   intro l
   induction l with
   | nil => intro d p _; rw [chkM_nil, allM_all]; simp
   | cons v l ih =>
    intro d p h
    rw [chkM_cons, allM_all]
    have hv := h v (by simp) d p
    have hi := ih d (chk v.2 d p).2 (fun u hu => h u (by simp [hu]))
    rw [allM_all] at hi
    by_cases h0 : (chk v.2 d p).1 = 0
    ·rw [if_neg (by simp [h0])]
     rw [List.all_cons, hv.1 h0, Bool.true_and]
     exact hi
    ·rw [if_pos h0, List.all_cons]
     exact ⟨fun h => absurd h h0, fun h => by rw [hv.2 h]; rfl⟩
  rw [chk_mk, all_mk]
  split
  ·simp
  split
  ·simp
  split
  ·rename_i hr; rw [hr]; simp
  ·rename_i hr
   have hr' : rightB (.mk k n s l m) = true := by simpa using hr
   rw [hr', Bool.and_true]
   have h1 := hL l (d + 1) (p + 1) ihl
   have h2 := hM m (d + 1) (chkL l (d + 1) (p + 1)).2 ihm
   by_cases h0 : (chkL l (d + 1) (p + 1)).1 = 0
   ·rw [if_neg (by simp [h0]), h1.1 h0, Bool.true_and]; exact h2
   ·rw [if_pos h0]
    exact ⟨fun h => absurd h h0, fun h => by rw [h1.2 h]; rfl⟩

theorem bulk_mk (k n : Int) (s : List UInt8) (l : List JV) (m : List (List UInt8 × JV)) : bulk (.mk k n s l m) = 3 + s.length + bulkL l + bulkM m := by conv => lhs; unfold bulk
theorem bulkL_cons (v : JV) (l : List JV) : bulkL (v :: l) = bulk v + bulkL l := by conv => lhs; unfold bulkL
theorem bulkM_cons (x : List UInt8 × JV) (m : List (List UInt8 × JV)) : bulkM (x :: m) = 1 + x.1.length + bulk x.2 + bulkM m := by conv => lhs; unfold bulkM bulkP
theorem bulkL_mem {v : JV} : ∀ {l : List JV}, v ∈ l → bulk v + l.length ≤ bulkL l + 1
 | [], h => by cases h
 | u :: l, h => by
  have := bulk_pos u
  rw [bulkL_cons]
  have hl : ∀ l : List JV, l.length ≤ bulkL l := by
   intro l
   induction l with
   | nil => simp
   | cons v l ih => rw [bulkL_cons]; have := bulk_pos v; simp; omega
  rcases List.mem_cons.1 h with rfl | h
  ·have := hl l; simp; omega
  ·have := bulkL_mem h; simp; omega
theorem bulkL_len (l : List JV) : l.length * 3 ≤ bulkL l := by
 induction l with
 | nil => simp
 | cons v l ih => rw [bulkL_cons]; have := bulk_pos v; simp; omega
theorem bulkM_len (l : List (List UInt8 × JV)) : l.length * 4 ≤ bulkM l := by
 induction l with
 | nil => simp
 | cons v l ih => rw [bulkM_cons]; have := bulk_pos v.2; simp; omega
theorem bulkM_mem {x : List UInt8 × JV} : ∀ {l : List (List UInt8 × JV)}, x ∈ l → bulk x.2 + x.1.length + 1 ≤ bulkM l
 | [], h => by cases h
 | u :: l, h => by
  rw [bulkM_cons]
  rcases List.mem_cons.1 h with rfl | h
  ·omega
  ·have := bulkM_mem h; omega

theorem putNat_len2 : ∀ (k n : Nat), n < 10 ^ k → 0 < k → (Nm.putNat n).length ≤ k
 | 0, n, h, h0 => by omega
 | k + 1, n, h, _ => by
  unfold Nm.putNat
  split
  ·simp
  ·rename_i h10
   have hk : 0 < k := by
    rcases Nat.eq_zero_or_pos k with h0 | h0
    ·subst h0; omega
    ·exact h0
   have := putNat_len2 k (n / 10) (by rw [Nat.pow_succ] at h; omega) hk
   rw [List.length_append]
   simp only [List.length_cons, List.length_nil]
   omega
theorem put_len2 (n : Int) (h : -9007199254740991 ≤ n) (h2 : n ≤ 9007199254740991) : (Nm.put n).length ≤ 17 := by
 unfold Nm.put
 have h0 : (10 : Nat) ^ 16 = 10000000000000000 := by decide
 split
 ·have := putNat_len2 16 n.natAbs (by omega) (by omega)
  simp only [List.length_cons]
  omega
 ·have := putNat_len2 16 n.natAbs (by omega) (by omega)
  omega
theorem wrt_mk (k n : Int) (s : List UInt8) (l : List JV) (m : List (List UInt8 × JV)) : wrt (.mk k n s l m) = if k = 1 then tNull else if k = 2 then (if n = 1 then tTrue else tFalse) else if k = 3 then Nm.put n else if k = 4 then q s else if k = 5 then 91 :: (wrtL l true ++ [93]) else 123 :: (wrtM m true ++ [125]) := by conv => lhs; unfold wrt
theorem wrtL_nil (b : Bool) : wrtL [] b = [] := by unfold wrtL; rfl
theorem wrtM_nil (b : Bool) : wrtM [] b = [] := by unfold wrtM; rfl
theorem wrtL_cons (v : JV) (l : List JV) (b : Bool) : wrtL (v :: l) b = (if b then [] else [44]) ++ wrt v ++ wrtL l false := by conv => lhs; unfold wrtL
theorem wrtM_cons (x : List UInt8 × JV) (m : List (List UInt8 × JV)) (b : Bool) : wrtM (x :: m) b = (if b then [] else [44]) ++ (q x.1 ++ 58 :: wrt x.2) ++ wrtM m false := by conv => lhs; unfold wrtM wrtP
theorem right_num {k n : Int} {s : List UInt8} {l : List JV} {m : List (List UInt8 × JV)} (h : rightB (.mk k n s l m) = true) (hk : k = 3) : -9007199254740991 ≤ n ∧ n ≤ 9007199254740991 := by
 subst hk
 simp only [rightB, kd, nm, Bool.and_eq_true] at h
 have := h.2
 simp only [if_neg (show ¬ (3 : Int) = 2 by decide), if_true, Bool.and_eq_true, decide_eq_true_eq] at this
 exact this
theorem wrt_len (v : JV) : allB v = true → (wrt v).length + 2 ≤ 8 * bulk v := by
 induction v using JV.ind with
 | h k n s l m ihl ihm =>
  intro h
  rw [all_mk, allL_all, allM_all, Bool.and_eq_true, Bool.and_eq_true, List.all_eq_true, List.all_eq_true] at h
  obtain ⟨⟨hl, hm⟩, hr⟩ := h
  rw [bulk_mk, wrt_mk]
  split
  ·simp only [tNull, List.length_cons, List.length_nil]; omega
  split
  ·split
   ·simp only [tTrue, List.length_cons, List.length_nil]; omega
   ·simp only [tFalse, List.length_cons, List.length_nil]; omega
  split
  ·rename_i hk
   have h3 := right_num hr hk
   have := put_len2 n h3.1 h3.2
   omega
  split
  ·have := q_len s; omega
  split
  ·have hL : ∀ (l : List JV) (b : Bool), (∀ v ∈ l, (wrt v).length + 2 ≤ 8 * bulk v) → (wrtL l b).length ≤ 8 * bulkL l := by
    intro l
    induction l with
    | nil => intro b _; rw [wrtL_nil]; simp
    | cons v l ih =>
     intro b h
     have h1 := h v (by simp)
     have h2 := ih false (fun u hu => h u (by simp [hu]))
     rw [wrtL_cons, bulkL_cons, List.length_append, List.length_append]
     have : (if b then ([] : List UInt8) else [44]).length ≤ 1 := by split <;> simp
     omega
   have := hL l true (fun v hv => ihl v hv (hl v hv))
   simp only [List.length_cons, List.length_append, List.length_nil]
   omega
  ·have hM : ∀ (l : List (List UInt8 × JV)) (b : Bool), (∀ v ∈ l, (wrt v.2).length + 2 ≤ 8 * bulk v.2) → (wrtM l b).length ≤ 8 * bulkM l := by
    intro l
    induction l with
    | nil => intro b _; rw [wrtM_nil]; simp
    | cons v l ih =>
     intro b h
     have h1 := h v (by simp)
     have h2 := ih false (fun u hu => h u (by simp [hu]))
     have h3 := q_len v.1
     rw [wrtM_cons, bulkM_cons, List.length_append, List.length_append, List.length_append, List.length_cons]
     have : (if b then ([] : List UInt8) else [44]).length ≤ 1 := by split <;> simp
     omega
   have := hM m true (fun v hv => ihm v hv (hm v hv))
   simp only [List.length_cons, List.length_append, List.length_nil]
   omega
end Go.Proofs.YtgaiepficjiclaaGreatDoor.JV
/- Plain laws of values: right forms; unlike values have unlike texts. -/
namespace Go.Proofs.YtgaiepficjiclaaGreatDoor.JV
set_option linter.unusedVariables false
set_option linter.unusedSimpArgs false

mutual
def okB : JV → Bool
 | .mk k n s l m => okL l && okM m && (rightB (.mk k n s l m) && (!(k == 6) || namesB m))
termination_by structural v => v
def okL : List JV → Bool
 | [] => true
 | v :: l => okB v && okL l
termination_by structural v => v
def okM : List (List UInt8 × JV) → Bool
 | [] => true
 | x :: m => okP x && okM m
termination_by structural v => v
def okP : List UInt8 × JV → Bool
 | (_, v) => okB v
termination_by structural v => v
end
theorem ok_mk (k n : Int) (s : List UInt8) (l : List JV) (m : List (List UInt8 × JV)) : okB (.mk k n s l m) = (okL l && okM m && (rightB (.mk k n s l m) && (!(k == 6) || namesB m))) := by conv => lhs; unfold okB
theorem okL_all : ∀ l : List JV, okL l = l.all okB
 | [] => by unfold okL; rfl
 | v :: l => by unfold okL; rw [okL_all l]; rfl
theorem okM_all : ∀ m : List (List UInt8 × JV), okM m = m.all fun x => okB x.2
 | [] => by unfold okM; rfl
 | x :: m => by unfold okM okP; rw [okM_all m]; rfl
theorem ok_iff (v : JV) : okB v = true ↔ rightB v = true ∧ (v.kd = 6 → namesB v.ms = true) ∧ (∀ u ∈ v.ls, okB u = true) ∧ ∀ x ∈ v.ms, okB x.2 = true := by
 cases v with
 | mk k n s l m =>
  rw [ok_mk, okL_all, okM_all]
  simp only [Bool.and_eq_true, List.all_eq_true, ls, ms, kd, Bool.or_eq_true, Bool.not_eq_true', beq_eq_false_iff_ne]
  constructor
  ·rintro ⟨⟨a, b⟩, c, d⟩; exact ⟨c, fun hk => d.resolve_left (fun h => h hk), a, b⟩
  ·rintro ⟨c, d, a, b⟩
   refine ⟨⟨a, b⟩, c, ?_⟩
   by_cases hk : k = 6
   ·exact .inr (d hk)
   ·exact .inl hk
theorem ok_all {v : JV} (h : okB v = true) : allB v = true := by
 induction v using JV.ind with
 | h k n s l m ihl ihm =>
  obtain ⟨a, b, c, d⟩ := (ok_iff _).1 h
  exact (all_iff _).2 ⟨a, fun u hu => ihl u hu (c u hu), fun x hx => ihm x hx (d x hx)⟩
theorem chk_ok (v : JV) : ∀ d p, (chk v d p).1 = 0 → okB v = true ∧ p < (chk v d p).2 ∧ (chk v d p).2 ≤ 8192 := by
 induction v using JV.ind with
 | h k n s l m ihl ihm =>
  intro d p
  have hL : ∀ (l : List JV) (d p : Nat), (∀ v ∈ l, ∀ d p, (chk v d p).1 = 0 → okB v = true ∧ p < (chk v d p).2 ∧ (chk v d p).2 ≤ 8192) → (chkL l d p).1 = 0 → okL l = true ∧ p + l.length ≤ (chkL l d p).2 ∧ (p ≤ 8192 → (chkL l d p).2 ≤ 8192) := by
   intro l
   induction l with
   | nil => intro d p _ _; rw [chkL_nil, okL_all]; simp
   | cons v l ih =>
    intro d p h h0
    rw [chkL_cons] at h0 ⊢
    rw [okL_all]
    by_cases hv0 : (chk v d p).1 = 0
    ·rw [if_neg (by simp [hv0])] at h0 ⊢
     have hv := h v (by simp) d p hv0
     have hi := ih d (chk v d p).2 (fun u hu => h u (by simp [hu])) h0
     rw [okL_all] at hi
     refine ⟨?_, by simp only [List.length_cons]; omega, fun _ => hi.2.2 hv.2.2⟩
     rw [List.all_cons, hv.1, hi.1]; rfl
    ·rw [if_pos hv0] at h0; exact absurd h0 hv0
  have hM : ∀ (l : List (List UInt8 × JV)) (d p : Nat), (∀ v ∈ l, ∀ d p, (chk v.2 d p).1 = 0 → okB v.2 = true ∧ p < (chk v.2 d p).2 ∧ (chk v.2 d p).2 ≤ 8192) → (chkM l d p).1 = 0 → okM l = true ∧ p + l.length ≤ (chkM l d p).2 ∧ (p ≤ 8192 → (chkM l d p).2 ≤ 8192) := by
   intro l
   induction l with
   | nil => intro d p _ _; rw [chkM_nil, okM_all]; simp
   | cons v l ih =>
    intro d p h h0
    rw [chkM_cons] at h0 ⊢
    rw [okM_all]
    by_cases hv0 : (chk v.2 d p).1 = 0
    ·rw [if_neg (by simp [hv0])] at h0 ⊢
     have hv := h v (by simp) d p hv0
     have hi := ih d (chk v.2 d p).2 (fun u hu => h u (by simp [hu])) h0
     rw [okM_all] at hi
     refine ⟨?_, by simp only [List.length_cons]; omega, fun _ => hi.2.2 hv.2.2⟩
     rw [List.all_cons, hv.1, hi.1]; rfl
    ·rw [if_pos hv0] at h0; exact absurd h0 hv0
  intro h
  rw [chk_mk] at h ⊢
  by_cases h1 : 16 < d
  ·rw [if_pos h1] at h; cases h
  rw [if_neg h1] at h ⊢
  by_cases h2 : 8192 ≤ p
  ·rw [if_pos h2] at h; cases h
  rw [if_neg h2] at h ⊢
  by_cases h3 : rightB (.mk k n s l m) = false
  ·rw [if_pos h3] at h; cases h
  rw [if_neg h3] at h ⊢
  by_cases h4 : (chkL l (d + 1) (p + 1)).1 = 0
  ·rw [if_neg (by simp [h4])] at h ⊢
   have a := hL l (d + 1) (p + 1) ihl h4
   have b := hM m (d + 1) (chkL l (d + 1) (p + 1)).2 ihm h
   have a3 := a.2.2 (by omega)
   have b3 := b.2.2 a3
   refine ⟨?_, by omega, b3⟩
   have hr : rightB (.mk k n s l m) = true := by simpa using h3
   rw [ok_mk, a.1, b.1, hr]
   simp only [Bool.true_and, Bool.or_eq_true, Bool.not_eq_true', beq_eq_false_iff_ne]
   by_cases hk : k = 6
   ·right
    simp only [rightB, kd, ms, Bool.and_eq_true] at hr
    have h5 := hr.2
    subst hk
    simp only [if_neg (show ¬ (6 : Int) = 2 by decide), if_neg (show ¬ (6 : Int) = 3 by decide), if_true, Bool.or_eq_true, decide_eq_true_eq] at h5
    rcases h5 with h5 | h5
    ·omega
    ·exact h5
   ·exact .inl hk
  ·rw [if_pos h4] at h; exact absurd h h4

theorem right_form {v : JV} (h : rightB v = true) : v = nullV ∨ (∃ n : Int, (n = 0 ∨ n = 1) ∧ v = boolV n) ∨ (∃ n : Int, -9007199254740991 ≤ n ∧ n ≤ 9007199254740991 ∧ v = intV n) ∨ (∃ s, Utf.bad s = s.length ∧ v = textV s) ∨ (∃ l, v = listV l) ∨ ∃ m, v = mapV m := by
 cases v with
 | mk k n s l m =>
  simp only [rightB, kd, nm, tx, ms, bareB, Bool.and_eq_true, Bool.or_eq_true, beq_iff_eq, decide_eq_true_eq, List.length_eq_zero_iff] at h
  obtain ⟨⟨⟨⟨h1, h2⟩, ⟨⟨hn, hs⟩, hl⟩, hm⟩, hu⟩, hx⟩ := h
  rcases (by omega : k = 1 ∨ k = 2 ∨ k = 3 ∨ k = 4 ∨ k = 5 ∨ k = 6) with rfl | rfl | rfl | rfl | rfl | rfl
  ·left
   have e1 : n = 0 := by omega
   have e2 : s = [] := by rcases hs with h | h; exact h; omega
   have e3 : l = [] := by rcases hl with h | h; exact h; omega
   have e4 : m = [] := by rcases hm with h | h; exact h; omega
   subst e1; subst e2; subst e3; subst e4; rfl
  ·right; left
   have e2 : s = [] := by rcases hs with h | h; exact h; omega
   have e3 : l = [] := by rcases hl with h | h; exact h; omega
   have e4 : m = [] := by rcases hm with h | h; exact h; omega
   subst e2; subst e3; subst e4
   simp only [if_true, Bool.or_eq_true, beq_iff_eq] at hx
   exact ⟨n, hx, rfl⟩
  ·right; right; left
   have e2 : s = [] := by rcases hs with h | h; exact h; omega
   have e3 : l = [] := by rcases hl with h | h; exact h; omega
   have e4 : m = [] := by rcases hm with h | h; exact h; omega
   subst e2; subst e3; subst e4
   simp only [if_neg (show ¬ (3 : Int) = 2 by decide), if_true, Bool.and_eq_true, decide_eq_true_eq] at hx
   exact ⟨n, hx.1, hx.2, rfl⟩
  ·right; right; right; left
   have e1 : n = 0 := by omega
   have e3 : l = [] := by rcases hl with h | h; exact h; omega
   have e4 : m = [] := by rcases hm with h | h; exact h; omega
   subst e1; subst e3; subst e4
   exact ⟨s, hu, rfl⟩
  ·right; right; right; right; left
   have e1 : n = 0 := by omega
   have e2 : s = [] := by rcases hs with h | h; exact h; omega
   have e4 : m = [] := by rcases hm with h | h; exact h; omega
   subst e1; subst e2; subst e4
   exact ⟨l, rfl⟩
  ·right; right; right; right; right
   have e1 : n = 0 := by omega
   have e2 : s = [] := by rcases hs with h | h; exact h; omega
   have e3 : l = [] := by rcases hl with h | h; exact h; omega
   subst e1; subst e2; subst e3
   exact ⟨m, rfl⟩
theorem q_right {s : List UInt8} (h : Utf.bad s = s.length) : q s = Chr.quote s := by unfold q Chr.quoteO; rw [if_pos h]

def headB : JV → UInt8 → Prop
 | .mk k n _ _ _, c => (k = 1 ∧ c = 110) ∨ (k = 2 ∧ n = 1 ∧ c = 116) ∨ (k = 2 ∧ n ≠ 1 ∧ c = 102) ∨ (k = 3 ∧ (c = 45 ∨ (48 ≤ c.toNat ∧ c.toNat ≤ 57))) ∨ (k = 4 ∧ c = 34) ∨ (k = 5 ∧ c = 91) ∨ (k = 6 ∧ c = 123)
theorem wrt_head {v : JV} (h : rightB v = true) : ∃ c r, wrt v = c :: r ∧ headB v c := by
 rcases right_form h with rfl | ⟨n, hn, rfl⟩ | ⟨n, h1, h2, rfl⟩ | ⟨s, hs, rfl⟩ | ⟨l, rfl⟩ | ⟨m, rfl⟩
 ·exact ⟨110, _, rfl, by simp [nullV, headB]⟩
 ·rcases hn with rfl | rfl
  ·exact ⟨102, [97, 108, 115, 101], by unfold boolV; rw [wrt_mk]; rfl, by simp [boolV, headB]⟩
  ·exact ⟨116, [114, 117, 101], by unfold boolV; rw [wrt_mk]; rfl, by simp [boolV, headB]⟩
 ·obtain ⟨c, r, h3, h4⟩ := Scn.put_head n
  exact ⟨c, r, by unfold intV; rw [wrt_mk]; simpa using h3, by simp [intV, headB]; exact h4⟩
 ·exact ⟨34, _, by unfold textV; rw [wrt_mk, q_right hs]; unfold Chr.quote; simp; rfl, by simp [textV, headB]⟩
 ·exact ⟨91, wrtL l true ++ [93], by unfold listV; rw [wrt_mk]; simp, by simp [listV, headB]⟩
 ·exact ⟨123, wrtM m true ++ [125], by unfold mapV; rw [wrt_mk]; simp, by simp [mapV, headB]⟩
theorem head_kd {u v : JV} {c : UInt8} (h : headB u c) (h' : headB v c) : u.kd = v.kd := by
 cases u with
 | mk k n s l m =>
  cases v with
  | mk k' n' s' l' m' =>
   simp only [headB, kd] at h h' ⊢
   rcases h with ⟨rfl, rfl⟩ | ⟨rfl, _, rfl⟩ | ⟨rfl, _, rfl⟩ | ⟨rfl, h⟩ | ⟨rfl, rfl⟩ | ⟨rfl, rfl⟩ | ⟨rfl, rfl⟩ <;>
   rcases h' with ⟨rfl, h2⟩ | ⟨rfl, _, h2⟩ | ⟨rfl, _, h2⟩ | ⟨rfl, h2⟩ | ⟨rfl, h2⟩ | ⟨rfl, h2⟩ | ⟨rfl, h2⟩ <;> (try rfl) <;> exfalso <;> (try subst h2) <;> (try revert h2) <;> (try revert h) <;> decide
theorem head_not {v : JV} {c : UInt8} (h : headB v c) : c ≠ 93 ∧ c ≠ 125 ∧ c ≠ 44 ∧ c ≠ 58 ∧ Scn.white c = false := by
 cases v with
 | mk k n s l m =>
  simp only [headB] at h
  rcases h with ⟨_, rfl⟩ | ⟨_, _, rfl⟩ | ⟨_, _, rfl⟩ | ⟨_, h⟩ | ⟨_, rfl⟩ | ⟨_, rfl⟩ | ⟨_, rfl⟩
  any_goals decide
  have hw : ∀ d : UInt8, (d = 45 ∨ 48 ≤ d.toNat ∧ d.toNat ≤ 57) → d ≠ 93 ∧ d ≠ 125 ∧ d ≠ 44 ∧ d ≠ 58 ∧ Scn.white d = false := by
   intro d
   have : ∀ n : Fin 256, ((UInt8.ofFin n) = 45 ∨ 48 ≤ (UInt8.ofFin n).toNat ∧ (UInt8.ofFin n).toNat ≤ 57) → (UInt8.ofFin n) ≠ 93 ∧ (UInt8.ofFin n) ≠ 125 ∧ (UInt8.ofFin n) ≠ 44 ∧ (UInt8.ofFin n) ≠ 58 ∧ Scn.white (UInt8.ofFin n) = false := by decide +kernel
   exact this d.toFin
  exact hw c h
def Dl (t : List UInt8) : Prop := t = [] ∨ ∃ c r, t = c :: r ∧ (c = 44 ∨ c = 93 ∨ c = 125)
theorem Dl.ends {t : List UInt8} (h : Dl t) : Nm.ends t = true := by
 rcases h with rfl | ⟨c, r, rfl, h⟩
 ·rfl
 ·rcases h with rfl | rfl | rfl <;> rfl
theorem quote_inj {s s' t t' : List UInt8} (h : Utf.bad s = s.length) (h' : Utf.bad s' = s'.length) (e : Chr.quote s ++ t = Chr.quote s' ++ t') : s = s' ∧ t = t' := by
 have h1 := Chr.read_back (h := []) (t := t) h
 have h2 := Chr.read_back (h := []) (t := t') h'
 rw [e, h2] at h1
 simp only [Prod.mk.injEq] at h1
 obtain ⟨rfl, _⟩ := h1
 exact ⟨rfl, List.append_cancel_left e⟩
theorem put_inj {n n' : Int} {t t' : List UInt8} (h : Dl t) (h' : Dl t') (b1 : -9007199254740991 ≤ n) (b2 : n ≤ 9007199254740991) (b1' : -9007199254740991 ≤ n') (b2' : n' ≤ 9007199254740991) (e : Nm.put n ++ t = Nm.put n' ++ t') : n = n' ∧ t = t' := by
 have h1 := Nm.readNum_put n t h.ends
 have h2 := Nm.readNum_put n' t' h'.ends
 rw [if_pos ⟨b1, b2⟩] at h1
 rw [if_pos ⟨b1', b2'⟩] at h2
 rw [e, h2] at h1
 simp only [Prod.mk.injEq] at h1
 obtain ⟨rfl, _⟩ := h1
 exact ⟨rfl, List.append_cancel_left e⟩
theorem wrt_inj (u : JV) : ∀ (v : JV) (t t' : List UInt8), okB u = true → okB v = true → Dl t → Dl t' → wrt u ++ t = wrt v ++ t' → u = v ∧ t = t' := by
 induction u using JV.ind with
 | h k n s l m ihl ihm =>
  intro v t t' hu hv ht ht' he
  have hur := ((ok_iff _).1 hu).1
  have hvr := ((ok_iff _).1 hv).1
  have hkd : (JV.mk k n s l m).kd = v.kd := by
   obtain ⟨c, r, h1, h2⟩ := wrt_head hur
   obtain ⟨c', r', h1', h2'⟩ := wrt_head hvr
   rw [h1, h1', List.cons_append, List.cons_append, List.cons.injEq] at he
   obtain ⟨rfl, _⟩ := he
   exact head_kd h2 h2'
  have hL : ∀ (l l' : List JV) (b : Bool) (t t' : List UInt8), (∀ u ∈ l, ∀ (v : JV) (t t' : List UInt8), okB u = true → okB v = true → Dl t → Dl t' → wrt u ++ t = wrt v ++ t' → u = v ∧ t = t') → (∀ u ∈ l, okB u = true) → (∀ u ∈ l', okB u = true) →
    wrtL l b ++ 93 :: t = wrtL l' b ++ 93 :: t' → l = l' ∧ t = t' := by
   intro l
   induction l with
   | nil =>
    intro l' b t t' _ _ hok' he
    cases l' with
    | nil => rw [wrtL_nil, List.nil_append, List.nil_append, List.cons.injEq] at he; exact ⟨rfl, he.2⟩
    | cons v l' =>
     exfalso
     rw [wrtL_nil, wrtL_cons] at he
     obtain ⟨c, r, h1, h2⟩ := wrt_head ((ok_iff _).1 (hok' v (by simp))).1
     have hc := head_not h2
     rw [h1] at he
     cases b with
     | true => simp at he; exact hc.1 he.1.symm
     | false => simp at he
   | cons u l ih =>
    intro l' b t t' hi hok hok' he
    cases l' with
    | nil =>
     exfalso
     rw [wrtL_nil, wrtL_cons] at he
     obtain ⟨c, r, h1, h2⟩ := wrt_head ((ok_iff _).1 (hok u (by simp))).1
     have hc := head_not h2
     rw [h1] at he
     cases b with
     | true => simp at he; exact hc.1 he.1
     | false => simp at he
    | cons v l' =>
     rw [wrtL_cons, wrtL_cons] at he
     have he2 : wrt u ++ (wrtL l false ++ 93 :: t) = wrt v ++ (wrtL l' false ++ 93 :: t') := by
      cases b with
      | true => simpa using he
      | false => simpa using he
     have hd : ∀ (l : List JV) (t : List UInt8), Dl (wrtL l false ++ 93 :: t) := by
      intro l t
      cases l with
      | nil => rw [wrtL_nil]; exact .inr ⟨93, t, rfl, .inr (.inl rfl)⟩
      | cons v l => rw [wrtL_cons]; exact .inr ⟨44, wrt v ++ wrtL l false ++ 93 :: t, by simp, .inl rfl⟩
     obtain ⟨rfl, h2⟩ := hi u (by simp) v _ _ (hok u (by simp)) (hok' v (by simp)) (hd l t) (hd l' t') he2
     obtain ⟨rfl, h3⟩ := ih l' false t t' (fun u hu => hi u (by simp [hu])) (fun u hu => hok u (by simp [hu])) (fun u hu => hok' u (by simp [hu])) h2
     exact ⟨rfl, h3⟩
  have hM : ∀ (l l' : List (List UInt8 × JV)) (b : Bool) (t t' : List UInt8), (∀ u ∈ l, ∀ (v : JV) (t t' : List UInt8), okB u.2 = true → okB v = true → Dl t → Dl t' → wrt u.2 ++ t = wrt v ++ t' → u.2 = v ∧ t = t') → (∀ u ∈ l, okB u.2 = true ∧ Utf.bad u.1 = u.1.length) → (∀ u ∈ l', okB u.2 = true ∧ Utf.bad u.1 = u.1.length) →
    wrtM l b ++ 125 :: t = wrtM l' b ++ 125 :: t' → l = l' ∧ t = t' := by
   intro l
   induction l with
   | nil =>
    intro l' b t t' _ _ hok' he
    cases l' with
    | nil => rw [wrtM_nil, List.nil_append, List.nil_append, List.cons.injEq] at he; exact ⟨rfl, he.2⟩
    | cons v l' =>
     exfalso
     rw [wrtM_nil, wrtM_cons, q_right (hok' v (by simp)).2] at he
     unfold Chr.quote at he
     cases b with
     | true => simp at he
     | false => simp at he
   | cons u l ih =>
    intro l' b t t' hi hok hok' he
    cases l' with
    | nil =>
     exfalso
     rw [wrtM_nil, wrtM_cons, q_right (hok u (by simp)).2] at he
     unfold Chr.quote at he
     cases b with
     | true => simp at he
     | false => simp at he
    | cons v l' =>
     rw [wrtM_cons, wrtM_cons, q_right (hok u (by simp)).2, q_right (hok' v (by simp)).2] at he
     have he2 : Chr.quote u.1 ++ (58 :: (wrt u.2 ++ (wrtM l false ++ 125 :: t))) = Chr.quote v.1 ++ (58 :: (wrt v.2 ++ (wrtM l' false ++ 125 :: t'))) := by
      cases b with
      | true => simpa using he
      | false => simpa using he
     have hd : ∀ (l : List (List UInt8 × JV)) (t : List UInt8), Dl (wrtM l false ++ 125 :: t) := by
      intro l t
      cases l with
      | nil => rw [wrtM_nil]; exact .inr ⟨125, t, rfl, .inr (.inr rfl)⟩
      | cons v l => rw [wrtM_cons]; exact .inr ⟨44, (q v.1 ++ 58 :: wrt v.2) ++ wrtM l false ++ 125 :: t, by simp, .inl rfl⟩
     obtain ⟨h4, h5⟩ := quote_inj (hok u (by simp)).2 (hok' v (by simp)).2 he2
     rw [List.cons.injEq] at h5
     obtain ⟨h1, h2⟩ := hi u (by simp) v.2 _ _ (hok u (by simp)).1 (hok' v (by simp)).1 (hd l t) (hd l' t') h5.2
     obtain ⟨rfl, h3⟩ := ih l' false t t' (fun u hu => hi u (by simp [hu])) (fun u hu => hok u (by simp [hu])) (fun u hu => hok' u (by simp [hu])) h2
     exact ⟨by rw [Prod.ext h4 h1], h3⟩
  have hokl := ((ok_iff _).1 hu).2.2.1
  have hokm := ((ok_iff _).1 hu).2.2.2
  have hnm := ((ok_iff _).1 hu).2.1
  have hokl' := ((ok_iff _).1 hv).2.2.1
  have hokm' := ((ok_iff _).1 hv).2.2.2
  have hnm' := ((ok_iff _).1 hv).2.1
  have names : ∀ m : List (List UInt8 × JV), namesB m = true → ∀ x ∈ m, Utf.bad x.1 = x.1.length := by
   intro m h x hx
   simp only [namesB, Bool.and_eq_true, List.all_eq_true, beq_iff_eq] at h
   exact h.1 x hx
  rcases right_form hur with e | ⟨x, hx, e⟩ | ⟨x, h1, h2, e⟩ | ⟨x, hs, e⟩ | ⟨x, e⟩ | ⟨x, e⟩ <;>
  rcases right_form hvr with rfl | ⟨y, hy, rfl⟩ | ⟨y, h1', h2', rfl⟩ | ⟨y, hs', rfl⟩ | ⟨y, rfl⟩ | ⟨y, rfl⟩ <;>
  (try (exfalso; rw [e] at hkd; simp [kd, nullV, boolV, intV, textV, listV, mapV] at hkd; done)) <;> rw [e] at he hnm hokl hokm ⊢
  ·exact ⟨rfl, List.append_cancel_left he⟩
  ·rcases hx with rfl | rfl <;> rcases hy with rfl | rfl
   ·exact ⟨rfl, List.append_cancel_left he⟩
   ·exfalso; unfold boolV at he; rw [wrt_mk, wrt_mk] at he; simp [tTrue, tFalse] at he
   ·exfalso; unfold boolV at he; rw [wrt_mk, wrt_mk] at he; simp [tTrue, tFalse] at he
   ·exact ⟨rfl, List.append_cancel_left he⟩
  ·unfold intV at he; rw [wrt_mk, wrt_mk] at he
   simp only [if_neg (show ¬ (3 : Int) = 1 by decide), if_neg (show ¬ (3 : Int) = 2 by decide), if_true] at he
   obtain ⟨rfl, h⟩ := put_inj ht ht' h1 h2 h1' h2' he
   exact ⟨rfl, h⟩
  ·unfold textV at he; rw [wrt_mk, wrt_mk, q_right hs, q_right hs'] at he
   simp only [if_neg (show ¬ (4 : Int) = 1 by decide), if_neg (show ¬ (4 : Int) = 2 by decide), if_neg (show ¬ (4 : Int) = 3 by decide), if_true] at he
   obtain ⟨rfl, h⟩ := quote_inj hs hs' he
   exact ⟨rfl, h⟩
  ·unfold listV at e
   cases e
   unfold listV at he; rw [wrt_mk, wrt_mk] at he
   simp only [if_neg (show ¬ (5 : Int) = 1 by decide), if_neg (show ¬ (5 : Int) = 2 by decide), if_neg (show ¬ (5 : Int) = 3 by decide), if_neg (show ¬ (5 : Int) = 4 by decide), if_true, List.cons_append, List.append_assoc, List.cons.injEq, true_and, List.singleton_append, List.nil_append] at he
   obtain ⟨rfl, h⟩ := hL _ y true t t' ihl hokl hokl' he
   exact ⟨rfl, h⟩
  ·unfold mapV at e
   cases e
   unfold mapV at he; rw [wrt_mk, wrt_mk] at he
   simp only [if_neg (show ¬ (6 : Int) = 1 by decide), if_neg (show ¬ (6 : Int) = 2 by decide), if_neg (show ¬ (6 : Int) = 3 by decide), if_neg (show ¬ (6 : Int) = 4 by decide), if_neg (show ¬ (6 : Int) = 5 by decide), List.cons_append, List.append_assoc, List.cons.injEq, true_and, List.singleton_append, List.nil_append] at he
   obtain ⟨rfl, h⟩ := hM _ y true t t' ihm (fun u hu => ⟨hokm u hu, names _ (hnm rfl) u hu⟩) (fun u hu => ⟨hokm' u hu, names _ (hnm' rfl) u hu⟩) he
   exact ⟨rfl, h⟩
end Go.Proofs.YtgaiepficjiclaaGreatDoor.JV
/- Plain: tokens are no longer than the text. -/
namespace Go.Proofs.YtgaiepficjiclaaGreatDoor.Scn
set_option linter.unusedVariables false
set_option linter.unusedSimpArgs false

theorem tokAt_size {l : List UInt8} {k n : Nat} {t : Tok} (h : tokAt l k = .tok t n) : (wr t).length ≤ l.length + 17 ∧ t.s.length ≤ l.length + 17 := by
 have hg := tokAt_good h
 unfold tokAt at h
 simp only at h
 split at h
 ·split at h
  ·rename_i h0
   simp only [TR.tok.injEq] at h
   rw [← h.1]
   have hr := Chr.read_right h0
   have hq := Chr.read_quote h0
   have hQT : ((Chr.read l k).1).length ≤ (Chr.quote (Chr.read l k).1).length := by
    unfold Chr.quote
    have : ∀ l : List UInt8, l.length ≤ (l.flatMap Chr.esc).length := by
     intro l
     induction l with
     | nil => simp
     | cons x l ih =>
      rw [List.flatMap_cons, List.length_append, List.length_cons]
      have : 1 ≤ (Chr.esc x).length := by unfold Chr.esc; (repeat' split); all_goals simp
      omega
    have := this (Chr.read l k).1
    simp only [List.length_cons, List.length_append, List.length_nil]
    omega
   unfold wr Chr.quoteO
   simp only [hr.1, if_true]
   simp only [if_neg (show ¬ (4 : Nat) = 3 by omega)]
   omega
  ·cases h
 split at h
 ·split at h
  ·simp only [TR.tok.injEq] at h
   rw [← h.1]
   have hb := Nm.readNum_bounds l k
   have := JV.put_len2 _ hb.1 hb.2
   unfold wr
   simp only [if_true, List.length_nil]
   omega
  ·cases h
 split at h
 ·simp only [TR.tok.injEq] at h
  rw [← h.1]
  unfold wr
  simp
 split at h
 ·cases h
 ·simp only [TR.tok.injEq] at h
  rw [← h.1]
  unfold wr
  simp only [if_neg (show ¬ (2 : Nat) = 3 by omega), if_neg (show ¬ (2 : Nat) = 4 by omega), List.length_take, List.length_drop]
  omega
theorem tk_size : ∀ (n : Nat) (l : List UInt8) (k : Nat), l.length ≤ k + n → ∀ t ∈ (tk l k).1, (wr t).length ≤ l.length + 17 ∧ t.s.length ≤ l.length + 17
 | n, l, k, hn, t, ht => by
  by_cases h1 : l.length ≤ k
  ·rw [tk_end h1] at ht; simp at ht
  cases n with
  | zero => omega
  | succ n =>
   by_cases h2 : Scn.white (l.getD k 0) = true
   ·rw [tk_white (by omega) h2] at ht
    exact tk_size n l (k + 1) (by omega) t ht
   have h2' : Scn.white (l.getD k 0) = false := by simpa using h2
   rcases hh : tokAt l k with ⟨e, p⟩ | ⟨u, m⟩
   ·rw [tk_err (by omega) h2' hh] at ht; simp at ht
   ·have hm := tokAt_next (by omega) hh
    rw [tk_tok (by omega) h2' hh] at ht
    by_cases h3 : (tk l m).2.2 = 0
    ·rw [if_pos h3] at ht
     rcases List.mem_cons.1 ht with rfl | ht
     ·exact tokAt_size hh
     ·exact tk_size n l m (by omega) t ht
    ·rw [if_neg h3] at ht; simp at ht
end Go.Proofs.YtgaiepficjiclaaGreatDoor.Scn
