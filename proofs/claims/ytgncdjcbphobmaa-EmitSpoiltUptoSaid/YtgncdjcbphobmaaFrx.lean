/- What was there stays as it was, but for one block. -/
import Derived.Test.YtgncdjcbphobmaaInV
import Derived.Test.YtgncdjcbphobmaaKn
namespace Go.Proofs.Ytgncdjcbphobmaa
set_option linter.unusedVariables false
set_option linter.unusedSimpArgs false
open Go.RowKit

/-- All blocks but C stay as they were. -/
def FrX (C : Nat) (w w' : World) : Prop := w.grownBy w' (some C)
theorem FrX.refl (C : Nat) (w : World) : FrX C w w := World.grownBy.refl w _
theorem FrX.trans {C : Nat} {a b c : World} (h : FrX C a b) (k : FrX C b c) : FrX C a c := World.grownBy.trans h k
theorem FrX.size {C : Nat} {w w' : World} (h : FrX C w w') : w.heap.size ≤ w'.heap.size := World.grownBy.size h
theorem FrX.alloc {C : Nat} {a w : World} (h : FrX C a w) (o : Obj) : FrX C a (w.alloc o) := h.trans (World.grownBy_alloc w o _)
theorem FrX.drewN {C : Nat} {a w : World} (h : FrX C a w) (n : Nat) : FrX C a (w.drewN n) :=
  h.trans ⟨rfl, rfl, rfl, Nat.le_refl _, fun _ _ _ => rfl⟩
theorem FrX.drew {C : Nat} {a w : World} (h : FrX C a w) : FrX C a w.drew :=
  h.trans ⟨rfl, rfl, rfl, Nat.le_refl _, fun _ _ _ => rfl⟩
theorem FrX.of {C : Nat} {w w' : World} (h : Fr w w') : FrX C w w' := ⟨h.os, h.tape, h.output, Below.size h, fun k hk _ => Below.block h k hk⟩
theorem FrX.fr {C : Nat} {a w w' : World} (h : FrX C a w) (k : Fr w w') : FrX C a w' := h.trans (FrX.of k)
theorem FrX.setCell {C : Nat} {a w : World} (h : FrX C a w) {p : Addr} (hp : p.block = C) (u : Value) : FrX C a (w.setCell p u) :=
  h.trans ⟨rfl, rfl, rfl, by simp [World.setCell], fun k hk hne => Below.heap_setCell _ _ _ _ (fun e => hne (by rw [e, hp]))⟩
theorem FrX.blk {C : Nat} {w w' : World} (h : FrX C w w') {b : Nat} (hb : b < w.heap.size) (hne : b ≠ C) : w'.heap[b]? = w.heap[b]? := World.grownBy.block h b hb (fun e => hne (Option.some.inj e))
theorem FrX.cell {C : Nat} {w w' : World} (h : FrX C w w') {b o : Nat} (hb : b < w.heap.size) (hne : b ≠ C) : w'.cell? ⟨b, o, none⟩ = w.cell? ⟨b, o, none⟩ := by
  unfold World.cell?; rw [h.blk hb hne]
theorem FrX.frozen {C : Nat} {w w' : World} (h : FrX C w w') {b o : Nat} (hb : b < w.heap.size) (hne : b ≠ C) : w'.frozen? ⟨b, o, none⟩ = w.frozen? ⟨b, o, none⟩ := by
  unfold World.frozen?; rw [h.blk hb hne]
/-- Above the heap that was. -/
theorem Fr.frx {C : Nat} {a w w' : World} (h : Fr a w) (k : FrX C w w') (hC : a.heap.size ≤ C) : Fr a w' :=
  Below.grown h k h.size (fun j hj => by have := Option.some.inj hj; omega)
theorem FrX.below {C : Nat} {w w' : World} (h : FrX C w w') (hC : C ≤ w.heap.size) : Below C w w' :=
  ⟨World.grownBy.os h, World.grownBy.tape h, World.grownBy.output h, h.size, fun k hk => h.blk (Nat.lt_of_lt_of_le hk hC) (by omega)⟩
theorem InV.frx {C : Nat} {w w' : World} {v : JV} {x : Value} (h : InV w (Lo C) v x) (hC : C ≤ w.heap.size) (hf : FrX C w w') : InV w' (Lo C) v x := h.blw (hf.below hC)
theorem LsC.frx {C : Nat} {w w' : World} {A : Option Addr} {l : List JV} (h : LsC w (Lo C) A l) (hC : C ≤ w.heap.size) (hf : FrX C w w') : LsC w' (Lo C) A l := h.blw (hf.below hC)
theorem MsC.frx {C : Nat} {w w' : World} {A : Option Addr} {m : List (List UInt8 × JV)} (h : MsC w (Lo C) A m) (hC : C ≤ w.heap.size) (hf : FrX C w w') : MsC w' (Lo C) A m := h.blw (hf.below hC)
/-- A counter. -/
def Cnt (w : World) (C : Nat) (p : Nat) : Prop := C < w.heap.size ∧ w.cell? ⟨C, 0, none⟩ = some (.int .i64 (p : Nat)) ∧ w.frozen? ⟨C, 0, none⟩ = false
theorem Cnt.keep {w w' : World} {C p : Nat} (h : Cnt w C p) (hf : Fr w w') : Cnt w' C p := ⟨Nat.lt_of_lt_of_le h.1 hf.size, by rw [hf.cell h.1]; exact h.2.1, by rw [hf.frozen h.1]; exact h.2.2⟩
end Go.Proofs.Ytgncdjcbphobmaa
