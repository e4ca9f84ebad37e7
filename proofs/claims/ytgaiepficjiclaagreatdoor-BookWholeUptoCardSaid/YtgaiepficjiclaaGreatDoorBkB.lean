/- slices.Sort and slices.Compact at texts that a call made itself. -/
import Derived.Test.YtgaiepficjiclaaGreatDoorBka
import Derived.Test.YtgaiepficjiclaaGreatDoorPta
import Derived.Sort.OwnSorted
namespace Go.Proofs.YtgaiepficjiclaaGreatDoor
set_option maxRecDepth 100000
set_option linter.unusedVariables false
set_option linter.unusedSimpArgs false
open Go.RowKit Go.Sort

theorem svs_enc (l : List (List UInt8)) : svs l = l.map encStr := rfl
theorem sort_ss (v : Value) (l : List (List UInt8)) (base : Nat) (w : World) (h : Ssl w base v l) (hl : l.length < 4611686018427387904) :
  Calls Tryz.prog 27 #[v] w fun e w' => e = .returned (.tuple #[]) ∧ Ssl w' base v (l.mergeSort fun x y => decide (x ≤ y)) ∧ w.grownBy w' v.ownBlock := by
 unfold Ssl Row at h ⊢
 rw [svs_len, svs_enc] at h
 rcases h.2 with ⟨rfl, hn⟩ | ⟨g, cap, cur, rfl, hbase, hb, h1, h2, h3, h4⟩
 ·have hn' : l = [] := by simpa using hn
  subst hn'
  refine (Tryz.slices_Sort_string_none none 0 w).mono ?_
  rintro e w' ⟨rfl, rfl⟩
  exact ⟨rfl, by simpa [svs] using World.ownsRow_nil _ base _ 1, World.grownBy.refl _ _⟩
 ·have h4' : cur.toList.take l.length = l.map encStr := by simpa using h4
  refine (Tryz.slices_Sort_string g 0 cap l w (holds_of_block hb h4') (Array.getElem?_eq_some_iff.1 hb).1 hl).mono ?_
  rintro e w' ⟨rfl, n, os, rfl⟩
  refine ⟨rfl, ?_, grownBy_sorted _⟩
  rw [svs_len, svs_enc, List.length_mergeSort]
  exact ownsRow_sorted (by simp) hbase hb h1 h2 h3
theorem compact_ss (v : Value) (l : List (List UInt8)) (base : Nat) (w : World) (h : Ssl w base v l) (hl : l.length ≤ 9223372036854775807) :
  Calls Tryz.prog 28 #[v] w fun e w' => (∃ A c, e = .returned (.slice A (Lib.compact l).length c) ∧ PsC w' A (Lib.compact l)) ∧ w.grownBy w' v.ownBlock := by
 unfold Ssl Row at h
 rw [svs_len, svs_enc] at h
 rcases h.2 with ⟨rfl, hn⟩ | ⟨g, cap, cur, rfl, hbase, hb, h1, h2, h3, h4⟩
 ·have hn' : l = [] := by simpa using hn
  subst hn'
  refine (Tryz.slices_Compact_string_empty none 0 w).mono ?_
  rintro e w' ⟨rfl, rfl⟩
  exact ⟨⟨none, 0, rfl, fun h => absurd rfl h⟩, World.grownBy.refl _ _⟩
 ·have h4' : cur.toList.take l.length = l.map encStr := by simpa using h4
  have hH := holds_of_block hb h4'
  have hgl := (Array.getElem?_eq_some_iff.1 hb).1
  refine (Tryz.slices_Compact_string g 0 cap l w hH hl h1).mono ?_
  rintro e w' ⟨rfl, q, rfl⟩
  have hcl : (Lib.compact l).length ≤ l.length := by
   unfold Lib.compact Lib.compactUpTo
   rw [List.length_map]
   exact Nat.le_trans (List.length_filter_le _ _) (by simp)
  have hH2 := holds_putRow encStr (Sort.ahead w q) g 0 l.toArray (Lib.compact l ++ List.replicate (l.length - (Lib.compact l).length) []).toArray (holds_ahead encStr w q g 0 l.toArray hH) (by simp; omega)
  refine ⟨⟨_, _, rfl, fun _ => ⟨g, 0, rfl, by simpa [putRow, mapBlock, Sort.ahead] using hgl, fun i hi => ?_⟩⟩, ?_⟩
  ·have := (hH2 i (by simp; omega)).1
   rw [this]
   simp [encStr, List.getElem_append_left hi, List.getElem?_append_left hi, List.getElem?_eq_getElem hi]
  ·have := grownBy_sorted (w := w) (g := g) (n := q) (os := #[]) (Lib.compact l ++ List.replicate (l.length - (Lib.compact l).length) []).toArray
   rwa [grow_empty] at this
end Go.Proofs.YtgaiepficjiclaaGreatDoor
