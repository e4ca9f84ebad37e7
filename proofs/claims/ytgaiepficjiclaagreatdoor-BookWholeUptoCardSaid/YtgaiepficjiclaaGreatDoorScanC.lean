/- The walk of the document's Tokens. -/
import Derived.Test.YtgaiepficjiclaaGreatDoorSa
import Derived.Test.YtgaiepficjiclaaGreatDoorPa
import Derived.Test.YtgaiepficjiclaaGreatDoorNb
namespace Go.Proofs.YtgaiepficjiclaaGreatDoor
set_option maxRecDepth 100000
set_option linter.unusedVariables false
set_option linter.unusedSimpArgs false
open Go.RowKit

theorem fr_box {w wr w1 : World} {o : Obj} (h : Fr w wr) (h1 : Fr (wr.alloc o) w1) (j : Nat) (u : Value) : Fr w (w1.setCell ⟨wr.heap.size, j, none⟩ u) := ((h.alloc o).trans h1).setCell h.size u
theorem tks_box {wr w1 : World} {o : Obj} {b : Nat} {v : Value} {ts : List Scn.Tok} (h : Tks wr b v ts) (h1 : Fr (wr.alloc o) w1) (j : Nat) (u : Value) : Tks (w1.setCell ⟨wr.heap.size, j, none⟩ u) b v ts :=
 h.keep ((((Fr.refl wr).alloc o).trans h1).setCell (Nat.le_refl _) u)
theorem fr_alloc_in {wr w1 : World} {o : Obj} (h1 : Fr (wr.alloc o) w1) : w1.frozen? ⟨wr.heap.size, 0, none⟩ = false → True := fun _ => trivial
theorem box_frozen {wr w1 : World} {cs : Array Value} {e : TypeId} (h1 : Fr (wr.alloc (.cells cs e)) w1) (j : Nat) : w1.frozen? ⟨wr.heap.size, j, none⟩ = false := by
 rw [h1.frozen (by simp)]
 simp

theorem box_two {wr w1 w2 : World} {a b c d u : Value} {e : TypeId} (h1 : Fr (wr.alloc (.cells #[a, b, c, d] e)) w1) (h2 : Fr (w1.setCell ⟨wr.heap.size, 0, none⟩ u) w2) :
  w2.frozen? ⟨wr.heap.size, 2, none⟩ = false ∧ w2.cell? ⟨wr.heap.size, 0, none⟩ = some u ∧ w2.cell? ⟨wr.heap.size, 1, none⟩ = some b ∧ w2.cell? ⟨wr.heap.size, 2, none⟩ = some c ∧ w2.cell? ⟨wr.heap.size, 3, none⟩ = some d := by
 have hs : wr.heap.size < (w1.setCell ⟨wr.heap.size, 0, none⟩ u).heap.size := by have := h1.size; simp at this ⊢; omega
 have hc : ∀ j, w1.cell? ⟨wr.heap.size, j, none⟩ = #[a, b, c, d][j]? := fun j => by
  rw [h1.cell (by simp), World.cell?_alloc_at _ _ _ _ rfl]
 have e0 : w1.cell? ⟨wr.heap.size, 0, none⟩ = some a := hc 0
 refine ⟨?_, ?_, ?_, ?_, ?_⟩
 ·rw [h2.frozen hs, World.frozen?_setCell]; exact box_frozen h1 2
 ·rw [h2.cell hs, World.cell?_setCell_same _ _ _ e0]
 ·rw [h2.cell hs, World.cell?_setCell_other _ _ _ _ (by simp), hc]; rfl
 ·rw [h2.cell hs, World.cell?_setCell_other _ _ _ _ (by simp), hc]; rfl
 ·rw [h2.cell hs, World.cell?_setCell_other _ _ _ _ (by simp), hc]; rfl
theorem fr_box2 {w wr w1 w2 : World} {o : Obj} {u : Value} (h : Fr w wr) (h1 : Fr (wr.alloc o) w1) (h2 : Fr (w1.setCell ⟨wr.heap.size, 0, none⟩ u) w2) (j : Nat) (v : Value) : Fr w (w2.setCell ⟨wr.heap.size, j, none⟩ v) :=
 ((fr_box h h1 0 u).trans h2).setCell h.size v
theorem tks_box2 {wr w1 w2 : World} {o : Obj} {u : Value} {b : Nat} {v : Value} {ts : List Scn.Tok} (h : Tks wr b v ts) (h1 : Fr (wr.alloc o) w1) (h2 : Fr (w1.setCell ⟨wr.heap.size, 0, none⟩ u) w2) (j : Nat) (x : Value) : Tks (w2.setCell ⟨wr.heap.size, j, none⟩ x) b v ts :=
 h.keep (fr_box2 (Fr.refl wr) h1 h2 j x)

end Go.Proofs.YtgaiepficjiclaaGreatDoor
