/- The walk of chapter 08's law of what stays. -/
import Derived.Test.YtgaiepficjiclaaGreatDoorPtj
import Derived.Test.YtgaiepficjiclaaGreatDoorPta
import Derived.Test.YtgaiepficjiclaaGreatDoorReadM
namespace Go.Proofs.YtgaiepficjiclaaGreatDoor
set_option maxRecDepth 100000
set_option linter.unusedVariables false
set_option linter.unusedSimpArgs false
open Go.RowKit

namespace Pt
def ans (st : Bool) (ps : Option (List (List UInt8))) (v : JV) : JV × Int := match ps with
 | none => (JV.zeroV, 80)
 | some ps => match find st ps v with
  | none => (JV.zeroV, 81)
  | some y => (y, 0)
theorem ans_same {s : List UInt8} (v : JV) (h : (42 : UInt8) ∉ s) : ans true (parts s) v = ans false (parts s) v := by
 cases hp : parts s with
 | none => rfl
 | some ps => unfold ans; simp only [find_nostar ps v (parts_star hp h)]
end Pt
theorem LdP.ans {Z : Nat} {w w' : World} {ps : Option (List (List UInt8))} {st : Bool} {v : JV} {e : Ending} (h : LdP Z w ps st v e w') (hZ : Z ≤ w.heap.size) {y : JV} {c : Int} (hy : Pt.ans st ps v = (y, c)) :
  ∃ (C : Option Addr) (f : Nat) (C' : Option Addr) (f' : Nat), e = .returned (.tuple #[.agg #[.int .i64 y.kd, .int .i64 y.nm, .string ⟨y.tx.toArray⟩, .slice C y.ls.length f, .slice C' y.ms.length f'], .int .i64 c]) ∧ InV w' (Ne Z w w') y (vA y C f C' f') ∧ Fr w w' := by
 cases ps with
 | none =>
  obtain ⟨rfl, rfl⟩ : JV.zeroV = y ∧ (80 : Int) = c := by simpa [Pt.ans] using hy
  exact ⟨none, 0, none, 0, h.1, zeroV_in w' _, h.2⟩
 | some ps =>
  have h : FdP Z w (Pt.find st ps v) e w' := h
  cases hf : Pt.find st ps v with
  | none =>
   rw [hf] at h
   obtain ⟨rfl, rfl⟩ : JV.zeroV = y ∧ (81 : Int) = c := by simpa [Pt.ans, hf] using hy
   exact ⟨none, 0, none, 0, h.1, zeroV_in w' _, h.2⟩
  | some x =>
   rw [hf] at h
   obtain ⟨rfl, rfl⟩ : x = y ∧ (0 : Int) = c := by simpa [Pt.ans, hf] using hy
   exact h
theorem Ne.low {Z : Nat} {w w' : World} {y : JV} {x : Value} (h : InV w' (Ne Z w w') y x) (hZ : Z ≤ w.heap.size) (hs : w.heap.size ≤ w'.heap.size) : InV w' (Lo w'.heap.size) y x :=
 h.more (fun b hb => by rcases hb with hb | hb <;> (show b < _) <;> omega)
theorem nv_bulk (v : JV) : Rd.nv v ≤ JV.bulk v := by
 induction v using JV.ind with
 | h k n s l m ihl ihm =>
  have hL : ∀ l : List JV, (∀ v ∈ l, Rd.nv v ≤ JV.bulk v) → Rd.nvL l ≤ JV.bulkL l := by
   intro l
   induction l with
   | nil => intro _; rw [Rd.nvL_nil]; exact Nat.zero_le _
   | cons v l ih =>
    intro h
    rw [Rd.nvL_cons, JV.bulkL_cons]
    have := h v List.mem_cons_self
    have := ih (fun u hu => h u (List.mem_cons_of_mem _ hu))
    omega
  have hM : ∀ m : List (List UInt8 × JV), (∀ p ∈ m, Rd.nv p.2 ≤ JV.bulk p.2) → Rd.nvM m ≤ JV.bulkM m := by
   intro l
   induction l with
   | nil => intro _; rw [Rd.nvM_nil]; exact Nat.zero_le _
   | cons v l ih =>
    intro h
    rw [Rd.nvM_cons, JV.bulkM_cons]
    have := h v List.mem_cons_self
    have := ih (fun u hu => h u (List.mem_cons_of_mem _ hu))
    omega
  have h1 := hL l ihl
  have h2 := hM m ihm
  rw [Rd.nv_mk, JV.bulk_mk]
  omega

end Go.Proofs.YtgaiepficjiclaaGreatDoor
