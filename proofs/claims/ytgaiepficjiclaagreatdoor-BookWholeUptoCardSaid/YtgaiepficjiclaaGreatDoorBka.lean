/- Plain: texts that rise; what is sorted and made compact is what is put in one by one. -/
import Derived.Test.YtgaiepficjiclaaGreatDoorKa
import Derived.Lib.SlicesCompact
import Derived.Test.YtgaiepficjiclaaGreatDoorTra
namespace Go.Proofs.YtgaiepficjiclaaGreatDoor
set_option maxRecDepth 100000
set_option linter.unusedVariables false
set_option linter.unusedSimpArgs false
open Go.RowKit

namespace Srt
abbrev Tx := List UInt8
theorem lt_of {a b : Tx} (h : a ≤ b) (k : a ≠ b) : a < b := by
 rcases Decidable.em (a < b) with h1 | h1
 ·exact h1
 ·exact absurd (List.le_antisymm h (List.not_lt.1 h1)) k
theorem tri (a b : Tx) : a < b ∨ a = b ∨ b < a := by
 by_cases e : a = b
 ·exact .inr (.inl e)
 ·rcases List.le_total a b with h | h
  ·exact .inl (lt_of h e)
  ·exact .inr (.inr (lt_of h (fun k => e k.symm)))
def Rises (l : List Tx) : Prop := l.Pairwise (· < ·)
theorem rises_eq : ∀ {a b : List Tx}, Rises a → Rises b → (∀ x, x ∈ a ↔ x ∈ b) → a = b
 | [], [], _, _, _ => rfl
 | [], y :: b, _, _, h => absurd ((h y).2 List.mem_cons_self) (by simp)
 | x :: a, [], _, _, h => absurd ((h x).1 List.mem_cons_self) (by simp)
 | x :: a, y :: b, ha, hb, h => by
  obtain ⟨h1, h2⟩ := List.pairwise_cons.1 ha
  obtain ⟨h3, h4⟩ := List.pairwise_cons.1 hb
  have e : x = y := by
   rcases List.mem_cons.1 ((h x).1 List.mem_cons_self) with e | e
   ·exact e
   ·rcases List.mem_cons.1 ((h y).2 List.mem_cons_self) with f | f
    ·exact f.symm
    ·exact absurd (List.lt_trans (h3 x e) (h1 y f)) (List.lt_irrefl y)
  subst e
  refine congrArg (x :: ·) (rises_eq h2 h4 (fun z => ⟨fun hz => ?_, fun hz => ?_⟩))
  ·rcases List.mem_cons.1 ((h z).1 (List.mem_cons_of_mem _ hz)) with f | f
   ·subst f; exact absurd (h1 z hz) (List.lt_irrefl z)
   ·exact f
  ·rcases List.mem_cons.1 ((h z).2 (List.mem_cons_of_mem _ hz)) with f | f
   ·subst f; exact absurd (h3 z hz) (List.lt_irrefl z)
   ·exact f
def put (l : List Tx) (s : Tx) : List Tx := l.filter (fun x => decide (x < s)) ++ [s] ++ l.filter (fun x => decide (s < x))
theorem put_mem (l : List Tx) (s x : Tx) : x ∈ put l s ↔ x = s ∨ x ∈ l := by
 unfold put
 simp only [List.mem_append, List.mem_filter, List.mem_singleton, decide_eq_true_eq]
 constructor
 ·rintro ((h | h) | h)
  ·exact .inr h.1
  ·exact .inl h
  ·exact .inr h.1
 ·rintro (h | h)
  ·exact .inl (.inr h)
  ·rcases tri x s with k | k | k
   ·exact .inl (.inl ⟨h, k⟩)
   ·exact .inl (.inr k)
   ·exact .inr ⟨h, k⟩
theorem put_rises {l : List Tx} (h : Rises l) (s : Tx) : Rises (put l s) := by
 unfold put Rises
 rw [List.append_assoc, List.pairwise_append]
 refine ⟨h.filter _, ?_, ?_⟩
 ·rw [List.singleton_append, List.pairwise_cons]
  exact ⟨fun y hy => by simpa using (List.mem_filter.1 hy).2, h.filter _⟩
 ·intro a ha b hb
  have h1 : a < s := by simpa using (List.mem_filter.1 ha).2
  rcases List.mem_append.1 hb with hb | hb
  ·obtain rfl : b = s := by simpa using hb
   exact h1
  ·have h2 : s < b := by simpa using (List.mem_filter.1 hb).2
   exact List.lt_trans h1 h2
def puts (l : List Tx) : List Tx := l.foldl put []
theorem puts_app (l : List Tx) (s : Tx) : puts (l ++ [s]) = put (puts l) s := by unfold puts; rw [List.foldl_append]; rfl
theorem foldl_spec : ∀ (l acc : List Tx), Rises acc → Rises (l.foldl put acc) ∧ ∀ x, x ∈ l.foldl put acc ↔ x ∈ acc ∨ x ∈ l
 | [], acc, h => ⟨h, fun x => by simp⟩
 | s :: l, acc, h => by
  obtain ⟨h1, h2⟩ := foldl_spec l (put acc s) (put_rises h s)
  refine ⟨h1, fun x => ?_⟩
  rw [List.foldl_cons, h2 x, put_mem, List.mem_cons]
  constructor
  ·rintro ((h | h) | h)
   ·exact .inr (.inl h)
   ·exact .inl h
   ·exact .inr (.inr h)
  ·rintro (h | h | h)
   ·exact .inl (.inr h)
   ·exact .inl (.inl h)
   ·exact .inr h
theorem puts_rises (l : List Tx) : Rises (puts l) := (foldl_spec l [] List.Pairwise.nil).1
theorem puts_mem (l : List Tx) (x : Tx) : x ∈ puts l ↔ x ∈ l := by
 have := (foldl_spec l [] List.Pairwise.nil).2 x
 unfold puts
 rw [this]
 simp
theorem puts_nil {l : List Tx} : puts l = [] ↔ l = [] := by
 constructor
 ·intro h
  cases l with
  | nil => rfl
  | cons s l => exact absurd ((puts_mem (s :: l) s).2 List.mem_cons_self) (by rw [h]; simp)
 ·rintro rfl; rfl
theorem cu_spec (d : Array Tx) (hs : ∀ i j, i ≤ j → j < d.size → d[i]! ≤ d[j]!) : ∀ m, m ≤ d.size → Rises (Lib.compactUpTo d m) ∧ (∀ x ∈ Lib.compactUpTo d m, ∃ j, j < m ∧ x = d[j]!) ∧ ∀ j, j < m → d[j]! ∈ Lib.compactUpTo d m
 | 0, _ => by
  refine ⟨?_, ?_, fun j h => absurd h (by omega)⟩
  ·simp [Lib.compactUpTo, Rises]
  ·simp [Lib.compactUpTo]
 | m + 1, hm => by
  obtain ⟨h1, h2, h3⟩ := cu_spec d hs m (by omega)
  rw [Lib.compactUpTo_succ]
  by_cases hk : Lib.keeps d m = true
  ·rw [if_pos hk]
   refine ⟨?_, ?_, ?_⟩
   ·unfold Rises
    rw [List.pairwise_append]
    refine ⟨h1, List.pairwise_singleton _ _, fun a ha b hb => ?_⟩
    obtain rfl : b = d[m]! := by simpa using hb
    obtain ⟨j, hj, rfl⟩ := h2 a ha
    unfold Lib.keeps at hk
    have hk := of_decide_eq_true hk
    rcases hk with hk | hk
    ·omega
    ·have a1 := hs j (m - 1) (by omega) (by omega)
     have a2 := hs (m - 1) m (by omega) (by omega)
     refine lt_of (List.le_trans a1 a2) (fun e => hk ?_)
     rw [e] at a1
     exact List.le_antisymm a1 a2
   ·intro x hx
    rcases List.mem_append.1 hx with hx | hx
    ·obtain ⟨j, hj, e⟩ := h2 x hx; exact ⟨j, by omega, e⟩
    ·exact ⟨m, by omega, by simpa using hx⟩
   ·intro j hj
    by_cases e : j = m
    ·subst e; exact List.mem_append.2 (.inr (by simp))
    ·exact List.mem_append.2 (.inl (h3 j (by omega)))
  ·rw [if_neg hk, List.append_nil]
   refine ⟨h1, fun x hx => by obtain ⟨j, hj, e⟩ := h2 x hx; exact ⟨j, by omega, e⟩, fun j hj => ?_⟩
   by_cases e : j = m
   ·subst e
    unfold Lib.keeps at hk
    have hk : ¬ (j = 0 ∨ d[j]! ≠ d[j - 1]!) := fun h => hk (decide_eq_true h)
    have hj0 : j ≠ 0 := fun h => hk (.inl h)
    have he : d[j]! = d[j - 1]! := Classical.not_not.1 (fun h => hk (.inr h))
    rw [he]
    exact h3 (j - 1) (by omega)
   ·exact h3 j (by omega)
theorem compact_sorted {l : List Tx} (h : l.Pairwise (· ≤ ·)) : Rises (Lib.compact l) ∧ ∀ x, x ∈ Lib.compact l ↔ x ∈ l := by
 have hs : ∀ i j, i ≤ j → j < l.toArray.size → l.toArray[i]! ≤ l.toArray[j]! := fun i j hij hj => by
  have hj' : j < l.length := by simpa using hj
  have e1 : l.toArray[i]! = l[i] := by simp [show i < l.length by omega]
  have e2 : l.toArray[j]! = l[j] := by simp [hj']
  rw [e1, e2]
  by_cases e : i = j
  ·subst e; exact List.le_refl _
  ·exact List.pairwise_iff_getElem.1 h i j (by omega) hj' (by omega)
 obtain ⟨h1, h2, h3⟩ := cu_spec l.toArray hs l.length (by simp)
 refine ⟨h1, fun x => ⟨fun hx => ?_, fun hx => ?_⟩⟩
 ·obtain ⟨j, hj, rfl⟩ := h2 x hx
  have e2 : l.toArray[j]! = l[j] := by simp [hj]
  rw [e2]; exact List.getElem_mem hj
 ·obtain ⟨j, hj, rfl⟩ := List.getElem_of_mem hx
  have e2 : l.toArray[j]! = l[j] := by simp [hj]
  have := h3 j hj
  rw [e2] at this
  exact this
theorem sorted_puts (l : List Tx) : Lib.compact (l.mergeSort fun x y => decide (x ≤ y)) = puts l := by
 have hp : (l.mergeSort fun x y => decide (x ≤ y)).Pairwise (fun a b => decide (a ≤ b) = true) := by
  refine List.pairwise_mergeSort (fun a b c h1 h2 => ?_) (fun a b => ?_) l
  ·exact decide_eq_true (List.le_trans (of_decide_eq_true h1) (of_decide_eq_true h2))
  ·rcases List.le_total a b with h | h
   ·simp [h]
   ·simp [h]
 have hs : (l.mergeSort fun x y => decide (x ≤ y)).Pairwise (· ≤ ·) := hp.imp (fun h => of_decide_eq_true h)
 obtain ⟨h1, h2⟩ := compact_sorted hs
 refine rises_eq h1 (puts_rises l) (fun x => ?_)
 rw [h2, puts_mem]
 exact List.mem_mergeSort
end Srt
/- Chapter 15, plain: what keeps an address book from being right; its whole form. -/

namespace Bk
open Pt Srt
def nDesc : List UInt8 := [100, 101, 115, 99, 114, 105, 112, 116, 105, 111, 110]
def nSub : List UInt8 := [105, 115, 83, 117, 98, 115, 99, 114, 105, 98, 101, 100]
def nName : List UInt8 := [110, 97, 109, 101]
def nSort : List UInt8 := [115, 111, 114, 116, 79, 114, 100, 101, 114]
def may (s : List UInt8) (x : JV) : Bool :=
 if s = nDesc then x.kd == 1 || (x.kd == 4 && decide (x.tx.length ≤ 1024))
 else if s = nSub then x.kd == 2
 else if s = nName then x.kd == 4 && (decide (1 ≤ x.tx.length) && decide (x.tx.length ≤ 255))
 else if s = nSort then x.kd == 3 && (decide (0 ≤ x.nm) && decide (x.nm ≤ 2147483647))
 else false
def badM (m : List (List UInt8 × JV)) : List (List UInt8) := (m.filter fun p => !may p.1 p.2).map (·.1)
def names (v : JV) : List (List UInt8) := (if v.kd = 6 then badM v.ms else []) ++ (if (Pt.get v nName).isSome then [] else [nName])
def wrong (v : JV) : List (List UInt8) := puts (names v)
def usual (s : List UInt8) : JV := if s = nSub then .mk 2 1 [] [] [] else if s = nSort then .mk 3 0 [] [] [] else .mk 1 0 [] [] []
def val (v : JV) (s : List UInt8) : JV := (Pt.get v s).getD (usual s)
def wholeM (v : JV) : List (List UInt8 × JV) := [(nDesc, val v nDesc), (nSub, val v nSub), (nName, val v nName), (nSort, val v nSort)]
def whole (v : JV) : JV := if wrong v = [] then JV.mapV (wholeM v) else JV.zeroV

theorem badM_nil {m : List (List UInt8 × JV)} : badM m = [] ↔ ∀ p ∈ m, may p.1 p.2 = true := by
 unfold badM
 rw [List.map_eq_nil_iff, List.filter_eq_nil_iff]
 constructor
 ·intro h p hp; have := h p hp; simpa using this
 ·intro h p hp; simp [h p hp]
theorem wrong_nil {v : JV} : wrong v = [] ↔ v.kd = 6 ∧ (∀ p ∈ v.ms, may p.1 p.2 = true) ∧ ∃ x, Pt.get v nName = some x := by
 unfold wrong
 rw [puts_nil]
 unfold names
 rw [List.append_eq_nil_iff]
 constructor
 ·rintro ⟨h1, h2⟩
  have hs : (Pt.get v nName).isSome = true := by
   cases h : (Pt.get v nName).isSome with
   | true => rfl
   | false => rw [h] at h2; simp at h2
  obtain ⟨x, hx⟩ := Option.isSome_iff_exists.1 hs
  have h6 : v.kd = 6 := by
   by_cases h : v.kd = 6
   ·exact h
   ·unfold Pt.get at hx; rw [if_neg h] at hx; cases hx
  rw [if_pos h6] at h1
  exact ⟨h6, badM_nil.1 h1, x, hx⟩
 ·rintro ⟨h6, hm, x, hx⟩
  rw [if_pos h6, hx]
  exact ⟨badM_nil.2 hm, rfl⟩
theorem get_mem {v x : JV} {s : List UInt8} (h : Pt.get v s = some x) : v.kd = 6 ∧ (s, x) ∈ v.ms := by
 unfold Pt.get at h
 split at h
 ·rename_i h6; exact ⟨h6, getM_mem h⟩
 ·cases h
theorem may_usual {s : List UInt8} (h : s = nDesc ∨ s = nSub ∨ s = nSort) : may s (usual s) = true := by
 rcases h with rfl | rfl | rfl <;> decide
theorem may_val {v : JV} (hv : wrong v = []) {s : List UInt8} (h : s = nDesc ∨ s = nSub ∨ s = nName ∨ s = nSort) : may s (val v s) = true := by
 obtain ⟨_, hm, x, hx⟩ := wrong_nil.1 hv
 unfold val
 cases hg : Pt.get v s with
 | some y => exact hm _ (get_mem hg).2
 | none =>
  show may s (usual s) = true
  refine may_usual ?_
  rcases h with h | h | h | h
  ·exact .inl h
  ·exact .inr (.inl h)
  ·rw [h] at hg; rw [hg] at hx; cases hx
  ·exact .inr (.inr h)
theorem get_whole (v : JV) : Pt.get (JV.mapV (wholeM v)) nDesc = some (val v nDesc) ∧ Pt.get (JV.mapV (wholeM v)) nSub = some (val v nSub) ∧ Pt.get (JV.mapV (wholeM v)) nName = some (val v nName) ∧ Pt.get (JV.mapV (wholeM v)) nSort = some (val v nSort) := by
 have h1 : nDesc ≠ nSub := by decide
 have h2 : nDesc ≠ nName := by decide
 have h3 : nDesc ≠ nSort := by decide
 have h4 : nSub ≠ nName := by decide
 have h5 : nSub ≠ nSort := by decide
 have h6 : nName ≠ nSort := by decide
 refine ⟨?_, ?_, ?_, ?_⟩ <;> simp [Pt.get, wholeM, getM, JV.mapV, JV.kd, JV.ms, h1, h2, h3, h4, h5, h6]
theorem whole_right {v : JV} (hv : wrong v = []) : wrong (JV.mapV (wholeM v)) = [] := by
 refine wrong_nil.2 ⟨rfl, fun p hp => ?_, _, (get_whole v).2.2.1⟩
 have hp : p ∈ wholeM v := hp
 unfold wholeM at hp
 simp only [List.mem_cons, List.not_mem_nil, or_false] at hp
 rcases hp with rfl | rfl | rfl | rfl
 ·exact may_val hv (.inl rfl)
 ·exact may_val hv (.inr (.inl rfl))
 ·exact may_val hv (.inr (.inr (.inl rfl)))
 ·exact may_val hv (.inr (.inr (.inr rfl)))
theorem whole_again (v : JV) : wholeM (JV.mapV (wholeM v)) = wholeM v := by
 obtain ⟨h1, h2, h3, h4⟩ := get_whole v
 have k : ∀ s x, Pt.get (JV.mapV (wholeM v)) s = some x → val (JV.mapV (wholeM v)) s = x := fun s x h => by unfold val; rw [h]; rfl
 show [(nDesc, val (JV.mapV (wholeM v)) nDesc), (nSub, val (JV.mapV (wholeM v)) nSub), (nName, val (JV.mapV (wholeM v)) nName), (nSort, val (JV.mapV (wholeM v)) nSort)] = _
 rw [k _ _ h1, k _ _ h2, k _ _ h3, k _ _ h4]; rfl
theorem get_withM : ∀ (m : List (List UInt8 × JV)) (s : List UInt8) (x : JV) (k : List UInt8), getM (withM m s x) k = if k = s then some x else getM m k
 | [], s, x, k => by
  show (if s = k then some x else none) = if k = s then some x else none
  by_cases h : k = s
  ·subst h; rfl
  ·rw [if_neg (fun e => h e.symm), if_neg h]
 | p :: m, s, x, k => by
  unfold withM
  by_cases hp : p.1 = s
  ·rw [if_pos hp]
   unfold getM
   by_cases h : k = s
   ·subst h; simp
   ·rw [if_neg (fun e => h e.symm), if_neg h, if_neg (fun e => h (e.symm.trans hp))]
  ·rw [if_neg hp]
   unfold getM
   by_cases h : p.1 = k
   ·rw [if_pos h, if_pos h, if_neg (fun e => hp (h.trans e))]
   ·rw [if_neg h, if_neg h, get_withM m s x k]
theorem bad_withM : ∀ (m : List (List UInt8 × JV)) (s : List UInt8) (x : JV), (∀ p ∈ m, may p.1 p.2 = true) → badM (withM m s x) = if may s x then [] else [s]
 | [], s, x, _ => by
  show ([(s, x)].filter fun p => !may p.1 p.2).map (·.1) = _
  cases hx : may s x
  ·rw [List.filter_cons_of_pos (by simp [hx])]; rfl
  ·rw [List.filter_cons_of_neg (by simp [hx])]; rfl
 | p :: m, s, x, h => by
  have hp := h p List.mem_cons_self
  have hm : ∀ q ∈ m, may q.1 q.2 = true := fun q hq => h q (List.mem_cons_of_mem _ hq)
  unfold withM
  by_cases e : p.1 = s
  ·rw [if_pos e]
   have := badM_nil.2 hm
   unfold badM at this ⊢
   cases hx : may s x
   ·simp [hx] at this ⊢; exact this
   ·simp [hx] at this ⊢; exact this
  ·rw [if_neg e]
   have ih := bad_withM m s x hm
   unfold badM at ih ⊢
   simp [hp] at ih ⊢
   exact ih
theorem wrong_with {v : JV} (hv : wrong v = []) (s : List UInt8) (x : JV) : wrong (JV.mapV (withM v.ms s x)) = if may s x then [] else [s] := by
 obtain ⟨h6, hm, y, hy⟩ := wrong_nil.1 hv
 have hb := bad_withM v.ms s x hm
 have hg : (Pt.get (JV.mapV (withM v.ms s x)) nName).isSome = true := by
  have e : Pt.get (JV.mapV (withM v.ms s x)) nName = getM (withM v.ms s x) nName := rfl
  rw [e, get_withM]
  by_cases h : nName = s
  ·rw [if_pos h]; rfl
  ·rw [if_neg h]
   unfold Pt.get at hy
   rw [if_pos h6] at hy
   rw [hy]; rfl
 unfold wrong names
 rw [hg]
 have e : (JV.mapV (withM v.ms s x)).kd = 6 := rfl
 rw [if_pos e]
 show puts (badM (withM v.ms s x) ++ (if true = true then [] else [nName])) = _
 rw [hb, if_pos rfl, List.append_nil]
 cases may s x
 ·rfl
 ·rfl
def woM (m : List (List UInt8 × JV)) (s : List UInt8) : List (List UInt8 × JV) := m.filter fun p => decide (p.1 ≠ s)
theorem get_woM (m : List (List UInt8 × JV)) (s k : List UInt8) : getM (woM m s) k = if k = s then none else getM m k := by
 induction m with
 | nil => unfold woM getM; simp
 | cons p m ih =>
  unfold woM at ih ⊢
  by_cases e : p.1 = s
  ·rw [List.filter_cons_of_neg (by simp [e]), ih]
   by_cases h : k = s
   ·rw [if_pos h, if_pos h]
   ·rw [if_neg h, if_neg h]
    conv => rhs; unfold getM
    rw [if_neg (fun f => h (f.symm.trans e))]
  ·rw [List.filter_cons_of_pos (by simp [e])]
   conv => lhs; unfold getM
   conv => rhs; rw [show getM (p :: m) k = if p.1 = k then some p.2 else getM m k from rfl]
   by_cases f : p.1 = k
   ·rw [if_pos f, if_pos f, if_neg (fun g => e (f.trans g))]
   ·rw [if_neg f, if_neg f, ih]
theorem wrong_wo {v : JV} (hv : wrong v = []) (s : List UInt8) : wrong (JV.mapV (woM v.ms s)) = if s = nName then [nName] else [] := by
 obtain ⟨h6, hm, y, hy⟩ := wrong_nil.1 hv
 have hb : badM (woM v.ms s) = [] := badM_nil.2 (fun p hp => hm p (List.mem_filter.1 hp).1)
 have hg : Pt.get (JV.mapV (woM v.ms s)) nName = if nName = s then none else some y := by
  have e : Pt.get (JV.mapV (woM v.ms s)) nName = getM (woM v.ms s) nName := rfl
  rw [e, get_woM]
  unfold Pt.get at hy
  rw [if_pos h6] at hy
  rw [hy]
 unfold wrong names
 rw [hg]
 have e : (JV.mapV (woM v.ms s)).kd = 6 := rfl
 rw [if_pos e]
 show puts (badM (woM v.ms s) ++ _) = _
 rw [hb, List.nil_append]
 by_cases h : s = nName
 ·subst h; rw [if_pos rfl, if_pos rfl]; rfl
 ·have h2 : ¬ nName = s := fun e => h e.symm
  rw [if_neg h, if_neg h2]; rfl
theorem val_wo (v : JV) {s : List UInt8} (k : List UInt8) : Pt.get (JV.mapV (woM v.ms s)) k = if k = s then none else getM v.ms k := get_woM v.ms s k
end Bk
end Go.Proofs.YtgaiepficjiclaaGreatDoor
