/- Chapter 15, plain: what keeps an address book from being right; its whole form. -/
import Derived.Test.YtgaiepficjiclaaGreatDoorSrtP
import Derived.Test.YtgaiepficjiclaaGreatDoorTra
namespace Go.Proofs.YtgaiepficjiclaaGreatDoor
set_option maxRecDepth 100000
set_option linter.unusedVariables false
set_option linter.unusedSimpArgs false
open Go.RowKit

namespace Bk
open Pt Srt
def nDesc : List UInt8 := [100, 101, 115, 99, 114, 105, 112, 116, 105, 111, 110]
def nSub : List UInt8 := [105, 115, 83, 117, 98, 115, 99, 114, 105, 98, 101, 100]
def nName : List UInt8 := [110, 97, 109, 101]
def nSort : List UInt8 := [115, 111, 114, 116, 79, 114, 100, 101, 114]
def may (s : List UInt8) (x : JV) : Bool :=
 if s = nDesc then x.kd == 1 || (x.kd == 4 && decide (x.tx.length ≤ 1024))
 else if s = nSub then x.kd == 2
 else if s = nName then x.kd == 4 && (decide (1 ≤ x.tx.length) && decide (x.tx.length ≤ 255))
 else if s = nSort then x.kd == 3 && (decide (0 ≤ x.nm) && decide (x.nm ≤ 2147483647))
 else false
def badM (m : List (List UInt8 × JV)) : List (List UInt8) := (m.filter fun p => !may p.1 p.2).map (·.1)
def names (v : JV) : List (List UInt8) := (if v.kd = 6 then badM v.ms else []) ++ (if (Pt.get v nName).isSome then [] else [nName])
def wrong (v : JV) : List (List UInt8) := puts (names v)
def usual (s : List UInt8) : JV := if s = nSub then .mk 2 1 [] [] [] else if s = nSort then .mk 3 0 [] [] [] else .mk 1 0 [] [] []
def val (v : JV) (s : List UInt8) : JV := (Pt.get v s).getD (usual s)
def wholeM (v : JV) : List (List UInt8 × JV) := [(nDesc, val v nDesc), (nSub, val v nSub), (nName, val v nName), (nSort, val v nSort)]
def whole (v : JV) : JV := if wrong v = [] then JV.mapV (wholeM v) else JV.zeroV

theorem badM_nil {m : List (List UInt8 × JV)} : badM m = [] ↔ ∀ p ∈ m, may p.1 p.2 = true := by
 unfold badM
 rw [List.map_eq_nil_iff, List.filter_eq_nil_iff]
 constructor
 ·intro h p hp; have := h p hp; simpa using this
 ·intro h p hp; simp [h p hp]
theorem wrong_nil {v : JV} : wrong v = [] ↔ v.kd = 6 ∧ (∀ p ∈ v.ms, may p.1 p.2 = true) ∧ ∃ x, Pt.get v nName = some x := by
 unfold wrong
 rw [puts_nil]
 unfold names
 rw [List.append_eq_nil_iff]
 constructor
 ·rintro ⟨h1, h2⟩
  have hs : (Pt.get v nName).isSome = true := by
   cases h : (Pt.get v nName).isSome with
   | true => rfl
   | false => rw [h] at h2; simp at h2
  obtain ⟨x, hx⟩ := Option.isSome_iff_exists.1 hs
  have h6 : v.kd = 6 := by
   by_cases h : v.kd = 6
   ·exact h
   ·unfold Pt.get at hx; rw [if_neg h] at hx; cases hx
  rw [if_pos h6] at h1
  exact ⟨h6, badM_nil.1 h1, x, hx⟩
 ·rintro ⟨h6, hm, x, hx⟩
  rw [if_pos h6, hx]
  exact ⟨badM_nil.2 hm, rfl⟩
theorem get_mem {v x : JV} {s : List UInt8} (h : Pt.get v s = some x) : v.kd = 6 ∧ (s, x) ∈ v.ms := by
 unfold Pt.get at h
 split at h
 ·rename_i h6; exact ⟨h6, getM_mem h⟩
 ·cases h
theorem may_usual {s : List UInt8} (h : s = nDesc ∨ s = nSub ∨ s = nSort) : may s (usual s) = true := by
 rcases h with rfl | rfl | rfl <;> decide
theorem may_val {v : JV} (hv : wrong v = []) {s : List UInt8} (h : s = nDesc ∨ s = nSub ∨ s = nName ∨ s = nSort) : may s (val v s) = true := by
 obtain ⟨_, hm, x, hx⟩ := wrong_nil.1 hv
 unfold val
 cases hg : Pt.get v s with
 | some y => exact hm _ (get_mem hg).2
 | none =>
  show may s (usual s) = true
  refine may_usual ?_
  rcases h with h | h | h | h
  ·exact .inl h
  ·exact .inr (.inl h)
  ·rw [h] at hg; rw [hg] at hx; cases hx
  ·exact .inr (.inr h)
theorem get_whole (v : JV) : Pt.get (JV.mapV (wholeM v)) nDesc = some (val v nDesc) ∧ Pt.get (JV.mapV (wholeM v)) nSub = some (val v nSub) ∧ Pt.get (JV.mapV (wholeM v)) nName = some (val v nName) ∧ Pt.get (JV.mapV (wholeM v)) nSort = some (val v nSort) := by
 have h1 : nDesc ≠ nSub := by decide
 have h2 : nDesc ≠ nName := by decide
 have h3 : nDesc ≠ nSort := by decide
 have h4 : nSub ≠ nName := by decide
 have h5 : nSub ≠ nSort := by decide
 have h6 : nName ≠ nSort := by decide
 refine ⟨?_, ?_, ?_, ?_⟩ <;> simp [Pt.get, wholeM, getM, JV.mapV, JV.kd, JV.ms, h1, h2, h3, h4, h5, h6]
theorem whole_right {v : JV} (hv : wrong v = []) : wrong (JV.mapV (wholeM v)) = [] := by
 refine wrong_nil.2 ⟨rfl, fun p hp => ?_, _, (get_whole v).2.2.1⟩
 have hp : p ∈ wholeM v := hp
 unfold wholeM at hp
 simp only [List.mem_cons, List.not_mem_nil, or_false] at hp
 rcases hp with rfl | rfl | rfl | rfl
 ·exact may_val hv (.inl rfl)
 ·exact may_val hv (.inr (.inl rfl))
 ·exact may_val hv (.inr (.inr (.inl rfl)))
 ·exact may_val hv (.inr (.inr (.inr rfl)))
theorem whole_again (v : JV) : wholeM (JV.mapV (wholeM v)) = wholeM v := by
 obtain ⟨h1, h2, h3, h4⟩ := get_whole v
 have k : ∀ s x, Pt.get (JV.mapV (wholeM v)) s = some x → val (JV.mapV (wholeM v)) s = x := fun s x h => by unfold val; rw [h]; rfl
 show [(nDesc, val (JV.mapV (wholeM v)) nDesc), (nSub, val (JV.mapV (wholeM v)) nSub), (nName, val (JV.mapV (wholeM v)) nName), (nSort, val (JV.mapV (wholeM v)) nSort)] = _
 rw [k _ _ h1, k _ _ h2, k _ _ h3, k _ _ h4]; rfl
theorem get_withM : ∀ (m : List (List UInt8 × JV)) (s : List UInt8) (x : JV) (k : List UInt8), getM (withM m s x) k = if k = s then some x else getM m k
 | [], s, x, k => by
  show (if s = k then some x else none) = if k = s then some x else none
  by_cases h : k = s
  ·subst h; rfl
  ·rw [if_neg (fun e => h e.symm), if_neg h]
 | p :: m, s, x, k => by
  unfold withM
  by_cases hp : p.1 = s
  ·rw [if_pos hp]
   unfold getM
   by_cases h : k = s
   ·subst h; simp
   ·rw [if_neg (fun e => h e.symm), if_neg h, if_neg (fun e => h (e.symm.trans hp))]
  ·rw [if_neg hp]
   unfold getM
   by_cases h : p.1 = k
   ·rw [if_pos h, if_pos h, if_neg (fun e => hp (h.trans e))]
   ·rw [if_neg h, if_neg h, get_withM m s x k]
theorem bad_withM : ∀ (m : List (List UInt8 × JV)) (s : List UInt8) (x : JV), (∀ p ∈ m, may p.1 p.2 = true) → badM (withM m s x) = if may s x then [] else [s]
 | [], s, x, _ => by
  show ([(s, x)].filter fun p => !may p.1 p.2).map (·.1) = _
  cases hx : may s x
  ·rw [List.filter_cons_of_pos (by simp [hx])]; rfl
  ·rw [List.filter_cons_of_neg (by simp [hx])]; rfl
 | p :: m, s, x, h => by
  have hp := h p List.mem_cons_self
  have hm : ∀ q ∈ m, may q.1 q.2 = true := fun q hq => h q (List.mem_cons_of_mem _ hq)
  unfold withM
  by_cases e : p.1 = s
  ·rw [if_pos e]
   have := badM_nil.2 hm
   unfold badM at this ⊢
   cases hx : may s x
   ·simp [hx] at this ⊢; exact this
   ·simp [hx] at this ⊢; exact this
  ·rw [if_neg e]
   have ih := bad_withM m s x hm
   unfold badM at ih ⊢
   simp [hp] at ih ⊢
   exact ih
theorem wrong_with {v : JV} (hv : wrong v = []) (s : List UInt8) (x : JV) : wrong (JV.mapV (withM v.ms s x)) = if may s x then [] else [s] := by
 obtain ⟨h6, hm, y, hy⟩ := wrong_nil.1 hv
 have hb := bad_withM v.ms s x hm
 have hg : (Pt.get (JV.mapV (withM v.ms s x)) nName).isSome = true := by
  have e : Pt.get (JV.mapV (withM v.ms s x)) nName = getM (withM v.ms s x) nName := rfl
  rw [e, get_withM]
  by_cases h : nName = s
  ·rw [if_pos h]; rfl
  ·rw [if_neg h]
   unfold Pt.get at hy
   rw [if_pos h6] at hy
   rw [hy]; rfl
 unfold wrong names
 rw [hg]
 have e : (JV.mapV (withM v.ms s x)).kd = 6 := rfl
 rw [if_pos e]
 show puts (badM (withM v.ms s x) ++ (if true = true then [] else [nName])) = _
 rw [hb, if_pos rfl, List.append_nil]
 cases may s x
 ·rfl
 ·rfl
def woM (m : List (List UInt8 × JV)) (s : List UInt8) : List (List UInt8 × JV) := m.filter fun p => decide (p.1 ≠ s)
theorem get_woM (m : List (List UInt8 × JV)) (s k : List UInt8) : getM (woM m s) k = if k = s then none else getM m k := by
 induction m with
 | nil => unfold woM getM; simp
 | cons p m ih =>
  unfold woM at ih ⊢
  by_cases e : p.1 = s
  ·rw [List.filter_cons_of_neg (by simp [e]), ih]
   by_cases h : k = s
   ·rw [if_pos h, if_pos h]
   ·rw [if_neg h, if_neg h]
    conv => rhs; unfold getM
    rw [if_neg (fun f => h (f.symm.trans e))]
  ·rw [List.filter_cons_of_pos (by simp [e])]
   conv => lhs; unfold getM
   conv => rhs; rw [show getM (p :: m) k = if p.1 = k then some p.2 else getM m k from rfl]
   by_cases f : p.1 = k
   ·rw [if_pos f, if_pos f, if_neg (fun g => e (f.trans g))]
   ·rw [if_neg f, if_neg f, ih]
theorem wrong_wo {v : JV} (hv : wrong v = []) (s : List UInt8) : wrong (JV.mapV (woM v.ms s)) = if s = nName then [nName] else [] := by
 obtain ⟨h6, hm, y, hy⟩ := wrong_nil.1 hv
 have hb : badM (woM v.ms s) = [] := badM_nil.2 (fun p hp => hm p (List.mem_filter.1 hp).1)
 have hg : Pt.get (JV.mapV (woM v.ms s)) nName = if nName = s then none else some y := by
  have e : Pt.get (JV.mapV (woM v.ms s)) nName = getM (woM v.ms s) nName := rfl
  rw [e, get_woM]
  unfold Pt.get at hy
  rw [if_pos h6] at hy
  rw [hy]
 unfold wrong names
 rw [hg]
 have e : (JV.mapV (woM v.ms s)).kd = 6 := rfl
 rw [if_pos e]
 show puts (badM (woM v.ms s) ++ _) = _
 rw [hb, List.nil_append]
 by_cases h : s = nName
 ·subst h; rw [if_pos rfl, if_pos rfl]; rfl
 ·have h2 : ¬ nName = s := fun e => h e.symm
  rw [if_neg h, if_neg h2]; rfl
theorem val_wo (v : JV) {s : List UInt8} (k : List UInt8) : Pt.get (JV.mapV (woM v.ms s)) k = if k = s then none else getM v.ms k := get_woM v.ms s k
end Bk
end Go.Proofs.YtgaiepficjiclaaGreatDoor
