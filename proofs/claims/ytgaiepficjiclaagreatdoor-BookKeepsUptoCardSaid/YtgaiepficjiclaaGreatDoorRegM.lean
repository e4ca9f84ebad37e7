/- As RegL, where number x and all that lie behind it may break the condition. -/
import Derived.Test.YtgaiepficjiclaaGreatDoorKa
namespace Go.Proofs.YtgaiepficjiclaaGreatDoor
set_option maxRecDepth 100000
set_option linter.unusedVariables false
set_option linter.unusedSimpArgs false
open Go.RowKit

variable {P : Program} {md : Region.Mode} {ops : Array Oper} {Q : Exit → Act → World → Prop} {S : World → Prop}
theorem OrdM.first {i x : Nat} {ms : List Nat} {oi : Oper} {v : Value} (hi : ops[i]? = some oi) (hyx : (List.range ops.size).all (fun y => decide (y ≤ x) || waitsOn ops md y x) = true)
  (hsel : ∀ (j : Nat) (o : Oper) cs b, ops[j]? = some o → o.op ≠ .select cs b) (hQ : ∀ c a w, Q (.panic c) (a.put oi.dst v) w → Q (.panic c) a w) (n : Nat) :
  ∀ (l : Array Bool) (a : Act) (w : World), (∀ j oj, ops[j]? = some oj → j ≠ i → l.getD j true = false → (∀ e ∈ oj.after, Region.binds md e = true → e.on ≠ i) → oi.apart ops oj = true) →
   i ∈ Region.ready md ops l → waitsBy ops md l x i ms = true → l.getD x true = false → YieldsIf P ops S oi v a → S w → OrdL P md ops Q S (fun j => decide (x ≤ j)) n (l.setIfInBounds i true) (a.put oi.dst v) w → OrdL P md ops Q S (fun j => decide (x ≤ j)) (n + 1) l a w := by
 have open_ : ∀ (l : Array Bool) (j : Nat), j ∈ Region.ready md ops l → l.getD j true = false := fun l j hr => (mem_ready.1 hr).1
 induction n with
 | zero =>
  intro l a w hfree hr hch hx0 hy hS H
  refine ⟨fun h => absurd hr (by rw [h]; simp), fun j hj => ?_⟩
  by_cases hji : j = i
  ·subst hji
   exact hy.wpOp hi hS ⟨fun _ => hS, H⟩
  ·have h0 := ready_mono hj hji
   rw [H.1] at h0
   cases h0
 | succ n ih =>
  intro l a w hfree hr hch hx0 hy hS H
  refine ⟨fun h => absurd hr (by rw [h]; simp), fun j hj => ?_⟩
  by_cases hji : j = i
  ·subst hji
   exact hy.wpOp hi hS ⟨fun _ => hS, H⟩
  ·obtain ⟨_, oj, hoj, hall⟩ := mem_ready.1 hj
   have hun := open_ l i hr
   have hapart : ∀ e ∈ oj.after, Region.binds md e = true → e.on ≠ i := fun e he hb heq => by
    have h1 := hall e he hb
    rw [heq] at h1
    rcases Nat.lt_or_ge i l.size with h2 | h2
    ·simp [h2] at h1 hun; rw [hun] at h1; cases h1
    ·simp [Array.getElem?_eq_none h2] at h1
   obtain ⟨hjx, hch2⟩ := waitsBy.step ms i hch hun hj
   have hjE : decide (x ≤ j) = false := by
    rw [decide_eq_false_iff_not]
    intro hle
    have h1 := List.all_eq_true.1 hyx j (List.mem_range.2 (Array.getElem?_eq_some_iff.1 hoj).1)
    rw [Bool.or_eq_true, decide_eq_true_iff] at h1
    rcases h1 with h1 | h1
    ·exact hjx (Nat.le_antisymm h1 hle)
    ·have := waitsOn_ready h1 hj
     rw [hx0] at this; cases this
   refine wpOp_mono (fun a' w' k => ⟨fun _ => k.2.1 hjE, ih (l.setIfInBounds j true) a' w' (fun k2 ok h1 h2 h3 h4 => ?_) (ready_mono hr (Ne.symm hji)) (hch2 hji) (by rw [getD_set_ne true hjx]; exact hx0) k.1 (k.2.1 hjE) ?_⟩) (wpOp_putIf hoj (hfree j oj hoj hji (open_ l j hj) hapart) (fun cs b => hsel i oi cs b hi) (fun cs b => hsel j oj cs b hoj) hQ hy (H.2 j (ready_mono hj hji)))
   ·refine hfree k2 ok h1 h2 ?_ h4
    by_cases e : j = k2
    ·subst e; exact open_ l j hj
    ·rw [getD_set_ne true e] at h3; exact h3
   ·rw [Array.setIfInBounds_comm _ _ hji]
    exact k.2.2
theorem mq (i : Nat) (ms : List Nat) {oi : Oper} {v : Value} {n x : Nat} {l : Array Bool} {a : Act} {w : World} (hi : ops[i]? = some oi) (hS : S w)
  (h : OrdL P md ops Q S (fun j => decide (x ≤ j)) n (l.setIfInBounds i true) (a.put oi.dst v) w) (hy : Region.wanted oi (yielded ops a.tmps) = true ∧ ∀ w, S w → (execOp a.eval oi).run P w = .ok (.value v) w := by exact ⟨by rfl, by intro w' hSw; (try dsimp only at hSw); go_simp; try with_reducible rfl⟩) (hs : Region.noSelect ops = true := by kernel_rfl) (hf : Region.free md ops l i = true := by kernel_rfl) (hr : (Region.ready md ops l).contains i = true := by kernel_rfl) (hch : waitsBy ops md l x i ms = true := by kernel_rfl) (hyx : (List.range ops.size).all (fun y => decide (y ≤ x) || waitsOn ops md y x) = true := by kernel_rfl) (hx0 : l.getD x true = false := by kernel_rfl)
  (hQ : ∀ c a w, Q (.panic c) (a.put oi.dst v) w → Q (.panic c) a w := by exact fun _ _ _ h => h) : OrdL P md ops Q S (fun j => decide (x ≤ j)) (n + 1) l a w :=
 OrdM.first hi hyx (Region.noSelect_spec hs) hQ n l a w (Region.free_spec hi hf) (by simpa using hr) hch hx0 (Or.inl hy) hS h
theorem OrdM.begin {id x : Nat} {a : Act} {w : World} (S : World → Prop) (hm : P.follows .mixedOrders = true) (hS : S w.drew)
  (h : S w.drew → OrdL P .any ops Q S (fun j => decide (x ≤ j)) ops.size (Array.replicate ops.size false) a w.drew) : (Code.region id ops true).wp P Q a w :=
 wp_region_any hm (OrdL.any _ _ _ _ (h hS))
theorem OrdM.one {i x n : Nat} {oi : Oper} {l : Array Bool} {a : Act} {w : World} (hi : ops[i]? = some oi) (hr : Region.ready md ops l = [i])
  (h : ∀ K' : Act → World → Prop, Shut (∀ a w, S w → (S w → OrdL P md ops Q S (fun j => decide (x ≤ j)) n (l.setIfInBounds i true) a w) → K' a w) → if Region.wanted oi (yielded ops a.tmps) = true then Oper.wp P oi a w K' Q else K' (a.put oi.dst undef) w) :
  OrdL P md ops Q S (fun j => decide (x ≤ j)) (n + 1) l a w := by
 refine ⟨fun e => absurd (hr.symm.trans e) (by simp), fun j hj => ?_⟩
 rw [hr] at hj
 obtain rfl : j = i := by simpa using hj
 exact wpOp_step hi (fun K' hK => h K' (fun a w hS hW => hK a w ⟨fun _ => hS, hW hS⟩))
theorem OrdM.ex {x n : Nat} (i : Nat) {oi : Oper} {l : Array Bool} {a : Act} {w : World} (hi : ops[i]? = some oi) (hx : decide (x ≤ i) = true) (hr : Region.ready md ops l = [i])
  (h : ∀ K' : Act → World → Prop, Shut (∀ a w, OrdL P md ops Q S (fun j => decide (x ≤ j)) n (l.setIfInBounds i true) a w → K' a w) → if Region.wanted oi (yielded ops a.tmps) = true then Oper.wp P oi a w K' Q else K' (a.put oi.dst undef) w) :
  OrdL P md ops Q S (fun j => decide (x ≤ j)) (n + 1) l a w := by
 refine ⟨fun e => absurd (hr.symm.trans e) (by simp), fun j hj => ?_⟩
 rw [hr] at hj
 obtain rfl : j = i := by simpa using hj
 exact wpOp_step hi (fun K' hK => h K' (fun a w hW => hK a w ⟨fun e => absurd (hx.symm.trans e) (by simp), hW⟩))
theorem OrdM.last {x n : Nat} (i : Nat) {oi : Oper} {l : Array Bool} {a : Act} {w : World} (hi : ops[i]? = some oi) (hx : decide (x ≤ i) = true) (hr : Region.ready md ops l = [i]) (hr2 : Region.ready md ops (l.setIfInBounds i true) = [])
  (h : ∀ K' : Act → World → Prop, Shut (∀ a w, Q .normal a w → K' a w) → if Region.wanted oi (yielded ops a.tmps) = true then Oper.wp P oi a w K' Q else K' (a.put oi.dst undef) w) :
  OrdL P md ops Q S (fun j => decide (x ≤ j)) (n + 1) l a w := by
 refine ⟨fun e => absurd (hr.symm.trans e) (by simp), fun j hj => ?_⟩
 rw [hr] at hj
 obtain rfl : j = i := by simpa using hj
 refine wpOp_step hi (fun K' hK => h K' (fun a w hQ => hK a w ⟨fun e => absurd (hx.symm.trans e) (by simp), ?_⟩))
 cases n with
 | zero => exact ⟨hr2, hQ⟩
 | succ n => exact ⟨fun _ => hQ, by rw [hr2]; simp⟩
end Go.Proofs.YtgaiepficjiclaaGreatDoor
