/- Values in boxes of their own; Text, told of its bytes. -/
import Derived.Test.YtgncdjcbphobmaaDoorEe
import Derived.Test.YtgncdjcbphobmaaDoorSameV
namespace Go.Proofs.YtgncdjcbphobmaaDoor
set_option linter.unusedVariables false
set_option linter.unusedSimpArgs false
open Go.RowKit

/-- A value lies in a block of its own. -/
def VB (w : World) (X : Nat) (u : JV) (B : Option Addr) (d : Nat) (B' : Option Addr) (d' : Nat) : Prop :=
  X < w.heap.size ∧ w.cell? ⟨X, 0, none⟩ = some (.int .i64 u.kd) ∧ w.cell? ⟨X, 1, none⟩ = some (.int .i64 u.nm) ∧ w.cell? ⟨X, 2, none⟩ = some (.string ⟨u.tx.toArray⟩) ∧ w.cell? ⟨X, 3, none⟩ = some (.slice B u.ls.length d) ∧ w.cell? ⟨X, 4, none⟩ = some (.slice B' u.ms.length d')
theorem VB.made (w : World) (u : JV) (B : Option Addr) (d : Nat) (B' : Option Addr) (d' : Nat) : VB (w.alloc (.cells #[.int .i64 u.kd, .int .i64 u.nm, .string ⟨u.tx.toArray⟩, .slice B u.ls.length d, .slice B' u.ms.length d'] 25)) w.heap.size u B d B' d' := by
  refine ⟨by simp, ?_, ?_, ?_, ?_, ?_⟩ <;> (rw [World.cell?_alloc_at _ _ _ _ rfl]; rfl)
theorem VB.made2 (w : World) (o : Obj) (u : JV) (B : Option Addr) (d : Nat) (B' : Option Addr) (d' : Nat) {w' : World} (hf : Fr ((w.alloc o).alloc (.cells #[.int .i64 u.kd, .int .i64 u.nm, .string ⟨u.tx.toArray⟩, .slice B u.ls.length d, .slice B' u.ms.length d'] 25)) w') : VB w' (w.heap.size + 1) u B d B' d' := by
  have h := (VB.made (w.alloc o) u B d B' d')
  obtain ⟨h0, h1, h2, h3, h4, h5⟩ := h
  have e : (w.alloc o).heap.size = w.heap.size + 1 := by simp
  rw [e] at h0 h1 h2 h3 h4 h5
  exact ⟨Nat.lt_of_lt_of_le h0 hf.size, (hf.cell h0).trans h1, (hf.cell h0).trans h2, (hf.cell h0).trans h3, (hf.cell h0).trans h4, (hf.cell h0).trans h5⟩
theorem VB.keep {w w' : World} {X : Nat} {u : JV} {B : Option Addr} {d : Nat} {B' : Option Addr} {d' : Nat} (h : VB w X u B d B' d') (hf : Fr w w') : VB w' X u B d B' d' := by
  obtain ⟨h0, h1, h2, h3, h4, h5⟩ := h
  exact ⟨Nat.lt_of_lt_of_le h0 hf.size, (hf.cell h0).trans h1, (hf.cell h0).trans h2, (hf.cell h0).trans h3, (hf.cell h0).trans h4, (hf.cell h0).trans h5⟩
def cellsV (u : JV) (B : Option Addr) (d : Nat) (B' : Option Addr) (d' : Nat) : Array Value := #[.int .i64 u.kd, .int .i64 u.nm, .string ⟨u.tx.toArray⟩, .slice B u.ls.length d, .slice B' u.ms.length d']
theorem InV.list1 {wz : World} {u : JV} {B : Option Addr} {d : Nat} {B' : Option Addr} {d' : Nat} (h : InV wz (Lo wz.heap.size) u (vA u B d B' d')) :
    InV (wz.alloc (.cells #[.int .i64 u.kd, .int .i64 u.nm, .string ⟨u.tx.toArray⟩, .slice B u.ls.length d, .slice B' u.ms.length d'] 25)) (Lo (wz.heap.size + 1)) (JV.listV [u]) (vA (JV.listV [u]) (some ⟨wz.heap.size, 0, none⟩) 1 none 0) := by
  refine InV.ofList (l := [u]) (by simp [Lo]) (by simp) (fun i hi => ?_)
  obtain rfl : i = 0 := by simp at hi; omega
  refine ⟨.int .i64 u.kd, .int .i64 u.nm, .string ⟨u.tx.toArray⟩, .slice B u.ls.length d, .slice B' u.ms.length d', ?_, ?_, ?_, ?_, ?_, ?_⟩
  iterate 5
    · rw [World.cell?_alloc_at _ _ _ _ rfl]; rfl
  exact (h.keep (Nat.le_refl _) ((Fr.refl wz).alloc _)).lo (by omega)
theorem InV.map1 {wz : World} {u : JV} {B : Option Addr} {d : Nat} {B' : Option Addr} {d' : Nat} (nm : List UInt8) (hn : nm.length ≤ 140737488355328) (h : InV wz (Lo wz.heap.size) u (vA u B d B' d')) :
    InV (wz.alloc (.cells #[.string ⟨nm.toArray⟩, .int .i64 u.kd, .int .i64 u.nm, .string ⟨u.tx.toArray⟩, .slice B u.ls.length d, .slice B' u.ms.length d'] 48)) (Lo (wz.heap.size + 1)) (JV.mapV [(nm, u)]) (vA (JV.mapV [(nm, u)]) none 0 (some ⟨wz.heap.size, 0, none⟩) 1) := by
  refine InV.ofMap (l := [(nm, u)]) (by simp [Lo]) (by simp) (fun i hi => ?_)
  obtain rfl : i = 0 := by simp at hi; omega
  refine ⟨hn, .int .i64 u.kd, .int .i64 u.nm, .string ⟨u.tx.toArray⟩, .slice B u.ls.length d, .slice B' u.ms.length d', ?_, ?_, ?_, ?_, ?_, ?_, ?_⟩
  iterate 6
    · rw [World.cell?_alloc_at _ _ _ _ rfl]; rfl
  exact (h.keep (Nat.le_refl _) ((Fr.refl wz).alloc _)).lo (by omega)
theorem wrt_list1 (u : JV) : JV.wrt (JV.listV [u]) = 91 :: (JV.wrt u ++ [93]) := by
  unfold JV.listV; rw [JV.wrt_mk, JV.wrtL_cons, JV.wrtL_nil]; simp
theorem wrt_map1 (u : JV) : JV.wrt (JV.mapV [([107], u)]) = [123, 34, 107, 34, 58] ++ JV.wrt u ++ [125] := by
  have hq : JV.q [107] = [34, 107, 34] := by kernel_rfl
  unfold JV.mapV; rw [JV.wrt_mk, JV.wrtM_cons, JV.wrtM_nil, hq]; simp

theorem text_bs (u : JV) (B : Option Addr) (d : Nat) (B' : Option Addr) (d' : Nat) (w : World) (c q : Nat) (T : List UInt8) {S : ByteArray} (hS : S = ⟨T.toArray⟩) (hv : InV w (Lo w.heap.size) u (vA u B d B' d')) (hc : JV.chk u 1 0 = (c, q)) (hT : T = if c = 0 then JV.wrt u else []) (h63 : T.length ≤ 140737488355328) :
    Calls Tryd.prog 15 #[vA u B d B' d'] w fun e w' => e = .returned (.tuple #[.string S, .int .i64 (c : Nat)]) ∧ Fr w w' := by
  subst hS; exact text_is u B d B' d' w c q T hv hc hT h63
end Go.Proofs.YtgncdjcbphobmaaDoor
