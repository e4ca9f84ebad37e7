/- Plain laws: a number that is written is read as it was; a digit more. -/
import Derived.Test.YtgncdjcbphobmaaNumsQ
namespace Go.Proofs.Ytgncdjcbphobmaa.Nm
set_option linter.unusedVariables false
set_option linter.unusedSimpArgs false

/-- What may stand behind a number. -/
def ends : List UInt8 → Bool
  | [] => true
  | c :: _ => !(isDig c || c == 46 || c == 101 || c == 69)

theorem ends_digLen {t : List UInt8} (h : ends t = true) : digLen t = 0 := by
  cases t with
  | nil => rfl
  | cons c t => simp [ends] at h; simp [digLen, h]
theorem ends_getD {t : List UInt8} (h : ends t = true) (hn : t ≠ []) : ¬ (t.getD 0 0 = 46 ∨ t.getD 0 0 = 101 ∨ t.getD 0 0 = 69) := by
  cases t with
  | nil => exact absurd rfl hn
  | cons c t => simp [ends] at h; simp [h]

theorem getD_app_right (a b : List UInt8) (h : b ≠ [] ∨ True) : (a ++ b).getD a.length 0 = b.getD 0 0 := by
  simp [List.getD_eq_getElem?_getD, List.getElem?_append_right]

theorem readNum_digits (m : Nat) (t : List UInt8) (ht : ends t = true) (pre : List UInt8) (hpre : pre = [] ∨ (pre = [45] ∧ 1 ≤ m)) :
    readNum (pre ++ putNat m ++ t) 0 = if m > 9007199254740991 then (0, 0, 30) else (if pre = [] then (m : Int) else -(m : Int), ((pre ++ putNat m).length : Int), 0) := by
  have hne := putNat_ne m
  have hdig := putNat_dig m
  have hlen : 0 < (putNat m).length := by
    cases h : putNat m with
    | nil => exact absurd h hne
    | cons c l => simp
  have h0 : (putNat m).getD 0 0 ≠ 45 := by
    cases h : putNat m with
    | nil => exact absurd h hne
    | cons c l =>
      have := isDig_iff.1 (hdig c (by rw [h]; simp))
      intro e
      have e2 : c = 45 := e
      rw [e2] at this
      simp at this
  have hk : 0 < (pre ++ putNat m ++ t).length := by simp; omega
  have hf : pre.length = if (pre ++ putNat m ++ t).getD 0 0 = 45 then 0 + 1 else 0 := by
    rcases hpre with rfl | ⟨rfl, _⟩
    · have : ([] ++ putNat m ++ t).getD 0 0 = (putNat m).getD 0 0 := by
        cases h : putNat m with
        | nil => exact absurd h hne
        | cons c l => rfl
      rw [this, if_neg h0]; rfl
    · rfl
  have hdrop : (pre ++ putNat m ++ t).drop pre.length = putNat m ++ t := by rw [List.append_assoc, List.drop_left]
  have hE : pre.length + digLen ((pre ++ putNat m ++ t).drop pre.length) = (pre ++ putNat m).length := by
    rw [hdrop, digLen_all hdig, ends_digLen ht]; simp
  have htake : ((pre ++ putNat m ++ t).drop pre.length).take ((pre ++ putNat m).length - pre.length) = putNat m := by
    rw [hdrop, show (pre ++ putNat m).length - pre.length = (putNat m).length by simp, List.take_left]
  have hgd : (pre ++ putNat m ++ t).getD pre.length 0 = (putNat m).getD 0 0 := by
    rw [List.append_assoc, getD_app_right _ _ (.inr trivial)]
    cases h : putNat m with
    | nil => exact absurd h hne
    | cons c l => rfl
  have hg := readNum_good (l := pre ++ putNat m ++ t) (k := 0) hk hf hE (by
    rintro (h | ⟨h, h2⟩ | ⟨h, h2⟩)
    · simp at h; exact hne h
    · rw [hgd] at h
      by_cases h1 : 1 ≤ m
      · exact putNat_head m h1 h
      · have : m = 0 := by omega
        subst this
        have e : putNat 0 = [UInt8.ofNat (48 + 0)] := putNat_lt (by omega)
        simp [e] at h2
    · have htn : t ≠ [] := by intro e; subst e; simp at h
      rw [getD_app_right _ _ (.inr trivial)] at h2
      exact ends_getD ht htn h2)
  have hg' : readNum (pre ++ putNat m ++ t) 0 = _ := hg
  rw [hg', htake, valFrom_putNat]
  by_cases hm : m > 9007199254740991
  · rw [if_pos hm, if_pos hm]; rfl
  · rw [if_neg hm, if_neg hm]
    rcases hpre with rfl | ⟨rfl, _⟩
    · have : ([] ++ putNat m ++ t).getD 0 0 ≠ 45 := by
        intro e; rw [e, if_pos rfl] at hf; simp at hf
      simp only [if_neg this]
      rfl
    · rfl

theorem readNum_put (n : Int) (t : List UInt8) (ht : ends t = true) :
    readNum (put n ++ t) 0 = if -9007199254740991 ≤ n ∧ n ≤ 9007199254740991 then (n, ((put n).length : Int), 0) else (0, 0, 30) := by
  unfold put
  by_cases hn : n < 0
  · rw [if_pos hn]
    have h := readNum_digits n.natAbs t ht [45] (.inr ⟨rfl, by omega⟩)
    have h' : readNum (45 :: putNat n.natAbs ++ t) 0 = _ := h
    rw [h']
    by_cases hm : n.natAbs > 9007199254740991
    · rw [if_pos hm, if_neg (by omega)]
    · rw [if_neg hm, if_neg (List.cons_ne_nil _ _), if_pos ⟨by omega, by omega⟩, show -(n.natAbs : Int) = n by omega]; rfl
  · rw [if_neg hn]
    have h := readNum_digits n.natAbs t ht [] (.inl rfl)
    have h' : readNum (putNat n.natAbs ++ t) 0 = _ := h
    rw [h']
    by_cases hm : n.natAbs > 9007199254740991
    · rw [if_pos hm, if_neg (by omega)]
    · rw [if_neg hm, if_pos (show ([] : List UInt8) = [] from rfl), if_pos ⟨by omega, by omega⟩, show (n.natAbs : Int) = n by omega]; rfl

theorem allNum_put (n : Int) : allNum (put n) = if -9007199254740991 ≤ n ∧ n ≤ 9007199254740991 then some n else none := by
  have h := readNum_put n [] rfl
  rw [List.append_nil] at h
  unfold allNum
  rw [h]
  by_cases hm : -9007199254740991 ≤ n ∧ n ≤ 9007199254740991
  · rw [if_pos hm, if_pos hm]
    exact if_pos ⟨rfl, rfl, rfl⟩
  · rw [if_neg hm, if_neg hm]
    exact if_neg (fun h => absurd h.1 (by decide))

theorem allNum_some {l : List UInt8} {n : Int} (h : allNum l = some n) : l = put n ∧ -9007199254740991 ≤ n ∧ n ≤ 9007199254740991 := by
  have hb := readNum_bounds l 0
  unfold allNum at h
  split at h
  · rename_i h1
    have h2 : (readNum l 0).1 = n := Option.some.inj h
    rw [h2] at hb h1
    exact ⟨h1.2.2.symm, hb⟩
  · cases h

/-- A digit behind a number. -/
def more (n : Int) (d : Nat) : Option Int :=
  if n = 0 then none
  else if n < 0 then (if -9007199254740991 ≤ n * 10 - d then some (n * 10 - d) else none)
  else (if n * 10 + d ≤ 9007199254740991 then some (n * 10 + d) else none)

theorem allNum_more {n : Int} (d : Nat) (hd : d < 10) : allNum (put n ++ [UInt8.ofNat (48 + d)]) = more n d := by
  unfold more
  by_cases h0 : n = 0
  · subst h0
    rw [if_pos rfl]
    have hp : put 0 = [48] := by unfold put; rw [if_neg (by omega)]; exact putNat_lt (by omega)
    rw [hp]
    have hdg : isDig (UInt8.ofNat (48 + d)) = true := by rw [isDig_iff, toNat_dig hd]; omega
    have hr : readNum ([48] ++ [UInt8.ofNat (48 + d)]) 0 = (0, 0, 30) := by
      have hdl : digLen [48, UInt8.ofNat (48 + d)] = 2 := by
        rw [digLen, if_pos (by decide), digLen, if_pos hdg]; rfl
      exact readNum_bad (l := [48, UInt8.ofNat (48 + d)]) (k := 0) (f := 0) (E := 2) (by simp) (by simp) (by rw [List.drop_zero, hdl]) (.inr (.inl ⟨rfl, by omega⟩))
    unfold allNum
    rw [hr]
    rfl
  · rw [if_neg h0]
    by_cases hn : n < 0
    · rw [if_pos hn]
      have hp : put n ++ [UInt8.ofNat (48 + d)] = put (n * 10 - d) := by
        have h1 : (n * 10 - d).natAbs = n.natAbs * 10 + d := by omega
        rw [put_ge (n := n * 10 - d) (by omega), h1, show (n.natAbs * 10 + d) % 10 = d by omega]
        congr 2
        have h2 : (n * 10 - d).tdiv 10 = -((-(n * 10 - d)).tdiv 10) := by rw [Int.neg_tdiv]; omega
        rw [h2, Int.tdiv_eq_ediv_of_nonneg (by omega)]
        omega
      rw [hp, allNum_put]
      by_cases hm : -9007199254740991 ≤ n * 10 - d
      · rw [if_pos ⟨hm, by omega⟩, if_pos hm]
      · rw [if_neg (fun h => hm h.1), if_neg hm]
    · rw [if_neg hn]
      have hp : put n ++ [UInt8.ofNat (48 + d)] = put (n * 10 + d) := by
        have h1 : (n * 10 + d).natAbs = n.natAbs * 10 + d := by omega
        rw [put_ge (n := n * 10 + d) (by omega), h1, show (n.natAbs * 10 + d) % 10 = d by omega]
        congr 2
        rw [Int.tdiv_eq_ediv_of_nonneg (by omega)]
        omega
      rw [hp, allNum_put]
      by_cases hm : n * 10 + d ≤ 9007199254740991
      · rw [if_pos ⟨by omega, hm⟩, if_pos hm]
      · rw [if_neg (fun h => hm h.2), if_neg hm]

end Go.Proofs.Ytgncdjcbphobmaa.Nm
