/- The walk of the laws' count. -/
import Derived.Test.YtgaiepficjiclaaGreatDoorRdd
namespace Go.Proofs.YtgaiepficjiclaaGreatDoor
set_option maxRecDepth 100000
set_option linter.unusedVariables false
set_option linter.unusedSimpArgs false
open Go.RowKit

namespace Rd
open JV
theorem nvL_take {l : List JV} {i : Nat} (h : i < l.length) : nvL (l.take (i + 1)) = nvL (l.take i) + nv l[i] := by
 rw [List.take_succ_eq_append_getElem h, nvL_app, nvL_cons, nvL_nil]; rfl
theorem nvM_take {l : List (List UInt8 × JV)} {i : Nat} (h : i < l.length) : nvM (l.take (i + 1)) = nvM (l.take i) + nv l[i].2 := by
 rw [List.take_succ_eq_append_getElem h, nvM_app, nvM_cons, nvM_nil]; rfl
theorem dpL_app (a b : List JV) (d : Nat) : dpL (a ++ b) d = max (dpL a d) (dpL b d) := by
 induction a with
 | nil => rw [List.nil_append, dpL_nil]; omega
 | cons v a ih => rw [List.cons_append, dpL_cons, dpL_cons, ih]; omega
theorem dpM_app (a b : List (List UInt8 × JV)) (d : Nat) : dpM (a ++ b) d = max (dpM a d) (dpM b d) := by
 induction a with
 | nil => rw [List.nil_append, dpM_nil]; omega
 | cons v a ih => rw [List.cons_append, dpM_cons, dpM_cons, ih]; omega
theorem dpL_take {l : List JV} {i d : Nat} (h : i < l.length) : dpL (l.take (i + 1)) d = max (dpL (l.take i) d) (dp l[i] d) := by
 rw [List.take_succ_eq_append_getElem h, dpL_app, dpL_cons, dpL_nil]; omega
theorem dpM_take {l : List (List UInt8 × JV)} {i d : Nat} (h : i < l.length) : dpM (l.take (i + 1)) d = max (dpM (l.take i) d) (dp l[i].2 d) := by
 rw [List.take_succ_eq_append_getElem h, dpM_app, dpM_cons, dpM_nil]; omega
theorem nvL_take_le (l : List JV) (i : Nat) : nvL (l.take i) ≤ nvL l := by
 have : nvL l = nvL (l.take i) + nvL (l.drop i) := by rw [← nvL_app, List.take_append_drop]
 omega
theorem nvM_take_le (l : List (List UInt8 × JV)) (i : Nat) : nvM (l.take i) ≤ nvM l := by
 have : nvM l = nvM (l.take i) + nvM (l.drop i) := by rw [← nvM_app, List.take_append_drop]
 omega
theorem dpL_take_le (l : List JV) (i d : Nat) : dpL (l.take i) d ≤ dpL l d := by
 have : dpL l d = max (dpL (l.take i) d) (dpL (l.drop i) d) := by rw [← dpL_app, List.take_append_drop]
 omega
theorem dpM_take_le (l : List (List UInt8 × JV)) (i d : Nat) : dpM (l.take i) d ≤ dpM l d := by
 have : dpM l d = max (dpM (l.take i) d) (dpM (l.drop i) d) := by rw [← dpM_app, List.take_append_drop]
 omega
theorem nvL_mem {v : JV} {l : List JV} (h : v ∈ l) : nv v ≤ nvL l := by
 induction l with
 | nil => simp at h
 | cons u l ih =>
  rw [nvL_cons]
  rcases List.mem_cons.1 h with rfl | h
  ·omega
  ·have := ih h; omega
theorem nvM_mem {v : List UInt8 × JV} {l : List (List UInt8 × JV)} (h : v ∈ l) : nv v.2 ≤ nvM l := by
 induction l with
 | nil => simp at h
 | cons u l ih =>
  rw [nvM_cons]
  rcases List.mem_cons.1 h with rfl | h
  ·omega
  ·have := ih h; omega
end Rd
theorem ret_two {a b c d : Int} (h : a = c) (h2 : b = d) : Ending.returned (.tuple #[.int .i64 a, .int .i64 b]) = .returned (.tuple #[.int .i64 c, .int .i64 d]) := by rw [h, h2]
end Go.Proofs.YtgaiepficjiclaaGreatDoor
