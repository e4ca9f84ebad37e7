/- slices.Clone at values. -/
import Derived.Test.YtgaiepficjiclaaGreatDoorCpA
import Derived.Lib.SliceRun
namespace Go.Proofs.YtgaiepficjiclaaGreatDoor
set_option maxRecDepth 100000
set_option maxHeartbeats 1000000
set_option linter.unusedVariables false
set_option linter.unusedSimpArgs false
open Go.RowKit

theorem Cp.nvM_len : ∀ m : List (List UInt8 × JV), m.length ≤ Rd.nvM m
 | [] => by simp
 | p :: m => by rw [Rd.nvM_cons, List.length_cons]; have := Cp.nvM_len m; have := Rd.nv_pos p.2; omega
theorem vsb_frC {w a b : World} {Z K : Nat} {v : Value} {l : List JV} (hf : Fr w a) (hv : VsB a Z K v l) (hK : w.heap.size ≤ K) (hg : a.grownBy b v.ownBlock) : Fr w b :=
 Below.grown hf hg hf.size (fun k hk => by have := (hv.own_lt hk).1; omega)
theorem VsB.empty (w : World) {Z : Nat} (hZ : Z ≤ w.heap.size) : VsB (w.alloc (.cells #[] 25)) Z w.heap.size (.slice (some ⟨w.heap.size, 0, none⟩) 0 0) [] :=
 ⟨⟨hZ, by simp⟩, [], ⟨World.ownsRow_lit (base := w.heap.size) (size := 5) (e := 25) w #[] 0 (Nat.le_refl _) (by unfold maxLen; omega) (by simp), by simp⟩, rfl, fun i h => absurd h (by simp)⟩
theorem clone_v_is (l : List JV) (A : Option Addr) (c : Nat) (w : World) (Z : Nat) (hZ : Z ≤ w.heap.size) (h : LsC w (Lo Z) A l) (hl : l.length * 80 ≤ 140737488355328) :
  Calls Tryz.prog 48 #[.slice A l.length c] w fun e w' => ∃ v', e = .returned v' ∧ VsB w' Z w.heap.size v' l ∧ Fr w w' := by
 have hl' : (l.length : Int) ≤ 140737488355328 := by omega
 cases A with
 | none =>
  have hm : l = [] := by
   cases l with
   | nil => rfl
   | cons p m => obtain ⟨_, _, _, _, _, _, he, _⟩ := h 0 (by simp); cases he
  subst hm
  have hq := fun W => Lib.run_eql_slice_nil (P := Tryz.prog) W 22 25 none 0 c 0 0 Tryz.underlying22
  clear h
  go_enter Tryz.func48, Tryz.ntmps48
  go_wp2_with fail
  go_ret
  exact ⟨_, rfl, VsB.none_ w ⟨hZ, Nat.le_refl _⟩, Fr.refl w⟩
 | some ad =>
  have hk : (0 + l.length) * 80 ≤ 140737488355328 := by omega
  have HE : Hid (VsB (w.alloc (.cells #[] 25)) Z w.heap.size (.slice (some ⟨w.heap.size, 0, none⟩) 0 0) []) := VsB.empty w hZ
  have HC : Hid (LsC (w.alloc (.cells #[] 25)) (InB Z w.heap.size (w.alloc (.cells #[] 25)) (.slice (some ⟨w.heap.size, 0, none⟩) 0 0)) (some ad) l) := (h.keep hZ ((Fr.refl w).alloc _)).map (fun b hb => .inl hb) (fun _ _ _ => rfl)
  have hq := fun W => Lib.run_eql_slice_nil (P := Tryz.prog) W 22 25 (some ad) l.length c 0 0 Tryz.underlying22
  clear h
  go_enter Tryz.func48, Tryz.ntmps48
  go_wp2_with (at_builtin; refine wpl_vB rfl (.tmp 5) (.tmp 6) rfl Z w.heap.size _ [] rfl HE.out (some ad) c l.length l rfl rfl HC.out (by simpa using hk) ?_; intro v4 w4 hv4 hg4; have hv4 : VsB w4 Z w.heap.size v4 l := hv4; obtain ⟨a4, c4, rfl⟩ := hv4.is_slice; have HF4 := Lib.hid (vsb_frC ((Fr.refl w).alloc _) HE.out (Nat.le_refl _) hg4); have HV4 := Lib.hid hv4; clear hv4 hg4)
  go_ret
  exact ⟨_, rfl, HV4.out, HF4.out⟩
end Go.Proofs.YtgaiepficjiclaaGreatDoor
