/- Plain: texts that rise; what is sorted and made compact is what is put in one by one. -/
import Derived.Test.YtgaiepficjiclaaGreatDoorKa
import Derived.Lib.SlicesCompact
namespace Go.Proofs.YtgaiepficjiclaaGreatDoor
set_option maxRecDepth 100000
set_option linter.unusedVariables false
set_option linter.unusedSimpArgs false
open Go.RowKit

namespace Srt
abbrev Tx := List UInt8
theorem lt_of {a b : Tx} (h : a ≤ b) (k : a ≠ b) : a < b := by
 rcases Decidable.em (a < b) with h1 | h1
 ·exact h1
 ·exact absurd (List.le_antisymm h (List.not_lt.1 h1)) k
theorem tri (a b : Tx) : a < b ∨ a = b ∨ b < a := by
 by_cases e : a = b
 ·exact .inr (.inl e)
 ·rcases List.le_total a b with h | h
  ·exact .inl (lt_of h e)
  ·exact .inr (.inr (lt_of h (fun k => e k.symm)))
def Rises (l : List Tx) : Prop := l.Pairwise (· < ·)
theorem rises_eq : ∀ {a b : List Tx}, Rises a → Rises b → (∀ x, x ∈ a ↔ x ∈ b) → a = b
 | [], [], _, _, _ => rfl
 | [], y :: b, _, _, h => absurd ((h y).2 List.mem_cons_self) (by simp)
 | x :: a, [], _, _, h => absurd ((h x).1 List.mem_cons_self) (by simp)
 | x :: a, y :: b, ha, hb, h => by
  obtain ⟨h1, h2⟩ := List.pairwise_cons.1 ha
  obtain ⟨h3, h4⟩ := List.pairwise_cons.1 hb
  have e : x = y := by
   rcases List.mem_cons.1 ((h x).1 List.mem_cons_self) with e | e
   ·exact e
   ·rcases List.mem_cons.1 ((h y).2 List.mem_cons_self) with f | f
    ·exact f.symm
    ·exact absurd (List.lt_trans (h3 x e) (h1 y f)) (List.lt_irrefl y)
  subst e
  refine congrArg (x :: ·) (rises_eq h2 h4 (fun z => ⟨fun hz => ?_, fun hz => ?_⟩))
  ·rcases List.mem_cons.1 ((h z).1 (List.mem_cons_of_mem _ hz)) with f | f
   ·subst f; exact absurd (h1 z hz) (List.lt_irrefl z)
   ·exact f
  ·rcases List.mem_cons.1 ((h z).2 (List.mem_cons_of_mem _ hz)) with f | f
   ·subst f; exact absurd (h3 z hz) (List.lt_irrefl z)
   ·exact f
def put (l : List Tx) (s : Tx) : List Tx := l.filter (fun x => decide (x < s)) ++ [s] ++ l.filter (fun x => decide (s < x))
theorem put_mem (l : List Tx) (s x : Tx) : x ∈ put l s ↔ x = s ∨ x ∈ l := by
 unfold put
 simp only [List.mem_append, List.mem_filter, List.mem_singleton, decide_eq_true_eq]
 constructor
 ·rintro ((h | h) | h)
  ·exact .inr h.1
  ·exact .inl h
  ·exact .inr h.1
 ·rintro (h | h)
  ·exact .inl (.inr h)
  ·rcases tri x s with k | k | k
   ·exact .inl (.inl ⟨h, k⟩)
   ·exact .inl (.inr k)
   ·exact .inr ⟨h, k⟩
theorem put_rises {l : List Tx} (h : Rises l) (s : Tx) : Rises (put l s) := by
 unfold put Rises
 rw [List.append_assoc, List.pairwise_append]
 refine ⟨h.filter _, ?_, ?_⟩
 ·rw [List.singleton_append, List.pairwise_cons]
  exact ⟨fun y hy => by simpa using (List.mem_filter.1 hy).2, h.filter _⟩
 ·intro a ha b hb
  have h1 : a < s := by simpa using (List.mem_filter.1 ha).2
  rcases List.mem_append.1 hb with hb | hb
  ·obtain rfl : b = s := by simpa using hb
   exact h1
  ·have h2 : s < b := by simpa using (List.mem_filter.1 hb).2
   exact List.lt_trans h1 h2
def puts (l : List Tx) : List Tx := l.foldl put []
theorem puts_app (l : List Tx) (s : Tx) : puts (l ++ [s]) = put (puts l) s := by unfold puts; rw [List.foldl_append]; rfl
theorem foldl_spec : ∀ (l acc : List Tx), Rises acc → Rises (l.foldl put acc) ∧ ∀ x, x ∈ l.foldl put acc ↔ x ∈ acc ∨ x ∈ l
 | [], acc, h => ⟨h, fun x => by simp⟩
 | s :: l, acc, h => by
  obtain ⟨h1, h2⟩ := foldl_spec l (put acc s) (put_rises h s)
  refine ⟨h1, fun x => ?_⟩
  rw [List.foldl_cons, h2 x, put_mem, List.mem_cons]
  constructor
  ·rintro ((h | h) | h)
   ·exact .inr (.inl h)
   ·exact .inl h
   ·exact .inr (.inr h)
  ·rintro (h | h | h)
   ·exact .inl (.inr h)
   ·exact .inl (.inl h)
   ·exact .inr h
theorem puts_rises (l : List Tx) : Rises (puts l) := (foldl_spec l [] List.Pairwise.nil).1
theorem puts_mem (l : List Tx) (x : Tx) : x ∈ puts l ↔ x ∈ l := by
 have := (foldl_spec l [] List.Pairwise.nil).2 x
 unfold puts
 rw [this]
 simp
theorem puts_nil {l : List Tx} : puts l = [] ↔ l = [] := by
 constructor
 ·intro h
  cases l with
  | nil => rfl
  | cons s l => exact absurd ((puts_mem (s :: l) s).2 List.mem_cons_self) (by rw [h]; simp)
 ·rintro rfl; rfl
theorem cu_spec (d : Array Tx) (hs : ∀ i j, i ≤ j → j < d.size → d[i]! ≤ d[j]!) : ∀ m, m ≤ d.size → Rises (Lib.compactUpTo d m) ∧ (∀ x ∈ Lib.compactUpTo d m, ∃ j, j < m ∧ x = d[j]!) ∧ ∀ j, j < m → d[j]! ∈ Lib.compactUpTo d m
 | 0, _ => by
  refine ⟨?_, ?_, fun j h => absurd h (by omega)⟩
  ·simp [Lib.compactUpTo, Rises]
  ·simp [Lib.compactUpTo]
 | m + 1, hm => by
  obtain ⟨h1, h2, h3⟩ := cu_spec d hs m (by omega)
  rw [Lib.compactUpTo_succ]
  by_cases hk : Lib.keeps d m = true
  ·rw [if_pos hk]
   refine ⟨?_, ?_, ?_⟩
   ·unfold Rises
    rw [List.pairwise_append]
    refine ⟨h1, List.pairwise_singleton _ _, fun a ha b hb => ?_⟩
    obtain rfl : b = d[m]! := by simpa using hb
    obtain ⟨j, hj, rfl⟩ := h2 a ha
    unfold Lib.keeps at hk
    have hk := of_decide_eq_true hk
    rcases hk with hk | hk
    ·omega
    ·have a1 := hs j (m - 1) (by omega) (by omega)
     have a2 := hs (m - 1) m (by omega) (by omega)
     refine lt_of (List.le_trans a1 a2) (fun e => hk ?_)
     rw [e] at a1
     exact List.le_antisymm a1 a2
   ·intro x hx
    rcases List.mem_append.1 hx with hx | hx
    ·obtain ⟨j, hj, e⟩ := h2 x hx; exact ⟨j, by omega, e⟩
    ·exact ⟨m, by omega, by simpa using hx⟩
   ·intro j hj
    by_cases e : j = m
    ·subst e; exact List.mem_append.2 (.inr (by simp))
    ·exact List.mem_append.2 (.inl (h3 j (by omega)))
  ·rw [if_neg hk, List.append_nil]
   refine ⟨h1, fun x hx => by obtain ⟨j, hj, e⟩ := h2 x hx; exact ⟨j, by omega, e⟩, fun j hj => ?_⟩
   by_cases e : j = m
   ·subst e
    unfold Lib.keeps at hk
    have hk : ¬ (j = 0 ∨ d[j]! ≠ d[j - 1]!) := fun h => hk (decide_eq_true h)
    have hj0 : j ≠ 0 := fun h => hk (.inl h)
    have he : d[j]! = d[j - 1]! := Classical.not_not.1 (fun h => hk (.inr h))
    rw [he]
    exact h3 (j - 1) (by omega)
   ·exact h3 j (by omega)
theorem compact_sorted {l : List Tx} (h : l.Pairwise (· ≤ ·)) : Rises (Lib.compact l) ∧ ∀ x, x ∈ Lib.compact l ↔ x ∈ l := by
 have hs : ∀ i j, i ≤ j → j < l.toArray.size → l.toArray[i]! ≤ l.toArray[j]! := fun i j hij hj => by
  have hj' : j < l.length := by simpa using hj
  have e1 : l.toArray[i]! = l[i] := by simp [show i < l.length by omega]
  have e2 : l.toArray[j]! = l[j] := by simp [hj']
  rw [e1, e2]
  by_cases e : i = j
  ·subst e; exact List.le_refl _
  ·exact List.pairwise_iff_getElem.1 h i j (by omega) hj' (by omega)
 obtain ⟨h1, h2, h3⟩ := cu_spec l.toArray hs l.length (by simp)
 refine ⟨h1, fun x => ⟨fun hx => ?_, fun hx => ?_⟩⟩
 ·obtain ⟨j, hj, rfl⟩ := h2 x hx
  have e2 : l.toArray[j]! = l[j] := by simp [hj]
  rw [e2]; exact List.getElem_mem hj
 ·obtain ⟨j, hj, rfl⟩ := List.getElem_of_mem hx
  have e2 : l.toArray[j]! = l[j] := by simp [hj]
  have := h3 j hj
  rw [e2] at this
  exact this
theorem sorted_puts (l : List Tx) : Lib.compact (l.mergeSort fun x y => decide (x ≤ y)) = puts l := by
 have hp : (l.mergeSort fun x y => decide (x ≤ y)).Pairwise (fun a b => decide (a ≤ b) = true) := by
  refine List.pairwise_mergeSort (fun a b c h1 h2 => ?_) (fun a b => ?_) l
  ·exact decide_eq_true (List.le_trans (of_decide_eq_true h1) (of_decide_eq_true h2))
  ·rcases List.le_total a b with h | h
   ·simp [h]
   ·simp [h]
 have hs : (l.mergeSort fun x y => decide (x ≤ y)).Pairwise (· ≤ ·) := hp.imp (fun h => of_decide_eq_true h)
 obtain ⟨h1, h2⟩ := compact_sorted hs
 refine rises_eq h1 (puts_rises l) (fun x => ?_)
 rw [h2, puts_mem]
 exact List.mem_mergeSort
end Srt
end Go.Proofs.YtgaiepficjiclaaGreatDoor
