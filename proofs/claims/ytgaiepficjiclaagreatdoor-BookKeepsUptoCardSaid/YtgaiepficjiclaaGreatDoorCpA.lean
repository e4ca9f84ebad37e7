/- The memory of tree.Copy: a list of values, a list of members, of which the first ones were copied. -/
import Derived.Test.YtgaiepficjiclaaGreatDoorTra
namespace Go.Proofs.YtgaiepficjiclaaGreatDoor
set_option maxRecDepth 100000
set_option linter.unusedVariables false
set_option linter.unusedSimpArgs false
open Go.RowKit

def st5g (w : World) (g o : Nat) (u0 u1 u2 u3 u4 : Value) : World := ((((w.setCell ⟨g, o, none⟩ u0).setCell ⟨g, o + 1, none⟩ u1).setCell ⟨g, o + 2, none⟩ u2).setCell ⟨g, o + 3, none⟩ u3).setCell ⟨g, o + 4, none⟩ u4
theorem st5g_frx (w : World) (g o : Nat) (u0 u1 u2 u3 u4 : Value) : FrX g w (st5g w g o u0 u1 u2 u3 u4) := (((((FrX.refl g w).setCell rfl _).setCell rfl _).setCell rfl _).setCell rfl _).setCell rfl _
theorem st5g_blk {w : World} {g o : Nat} {cur : Array Value} {T : TypeId} (h : Blk w g cur T) (u0 u1 u2 u3 u4 : Value) : ∃ cur', Blk (st5g w g o u0 u1 u2 u3 u4) g cur' T ∧ cur'.size = cur.size :=
 ⟨_, ((((h.set o u0).set (o + 1) u1).set (o + 2) u2).set (o + 3) u3).set (o + 4) u4, by simp⟩
theorem st5g_size (w : World) (g o : Nat) (u0 u1 u2 u3 u4 : Value) : (st5g w g o u0 u1 u2 u3 u4).heap.size = w.heap.size := by simp [st5g, World.setCell]
structure CpI (W : World) (g : Nat) (l : List JV) (S O : Nat → Prop) (i : Nat) : Prop where
 blk : ∃ cur, Blk W g cur 25 ∧ l.length * 5 ≤ cur.size
 at_ : ∀ k (h : k < l.length), ∃ C f C' f', VC W g (k * 5) l[k] C f C' f' ∧ InV W (if k < i then S else O) l[k] (vA l[k] C f C' f')
structure CqI (W : World) (g : Nat) (m : List (List UInt8 × JV)) (S O : Nat → Prop) (i : Nat) : Prop where
 blk : ∃ cur, Blk W g cur 37 ∧ m.length * 6 ≤ cur.size
 at_ : ∀ k (h : k < m.length), ∃ C f C' f', m[k].1.length ≤ 140737488355328 ∧ W.cell? ⟨g, k * 6, none⟩ = some (.string ⟨m[k].1.toArray⟩) ∧ VC W g (k * 6 + 1) m[k].2 C f C' f' ∧ InV W (if k < i then S else O) m[k].2 (vA m[k].2 C f C' f')
theorem ite_lt {S O : Nat → Prop} {w : World} {P : Prop} [Decidable P] (hS : ∀ b, S b → b < w.heap.size) (hO : ∀ b, O b → b < w.heap.size) : ∀ b, (if P then S else O) b → b < w.heap.size := fun b hb => by
 split at hb
 ·exact hS b hb
 ·exact hO b hb
theorem ite_ne {S O : Nat → Prop} {g : Nat} {P : Prop} [Decidable P] (hS : ∀ b, S b → b ≠ g) (hO : ∀ b, O b → b ≠ g) : ∀ b, (if P then S else O) b → b ≠ g := fun b hb => by
 split at hb
 ·exact hS b hb
 ·exact hO b hb
theorem CpI.keep {W W' : World} {g : Nat} {l : List JV} {S O : Nat → Prop} {i : Nat} (h : CpI W g l S O i) (hf : Fr W W') (hS : ∀ b, S b → b < W.heap.size) (hO : ∀ b, O b → b < W.heap.size) : CpI W' g l S O i := by
 obtain ⟨cur, hb, hz⟩ := h.blk
 refine ⟨⟨cur, hb.keep hf, hz⟩, fun k hk => ?_⟩
 obtain ⟨C, f, C', f', h1, h2⟩ := h.at_ k hk
 exact ⟨C, f, C', f', h1.keep (fun j => hf.cell hb.lt), h2.map (fun _ h => h) (fun b o hb => hf.cell (ite_lt hS hO b hb))⟩
theorem CqI.keep {W W' : World} {g : Nat} {m : List (List UInt8 × JV)} {S O : Nat → Prop} {i : Nat} (h : CqI W g m S O i) (hf : Fr W W') (hS : ∀ b, S b → b < W.heap.size) (hO : ∀ b, O b → b < W.heap.size) : CqI W' g m S O i := by
 obtain ⟨cur, hb, hz⟩ := h.blk
 refine ⟨⟨cur, hb.keep hf, hz⟩, fun k hk => ?_⟩
 obtain ⟨C, f, C', f', h0, h00, h1, h2⟩ := h.at_ k hk
 exact ⟨C, f, C', f', h0, (hf.cell hb.lt).trans h00, h1.keep (fun j => hf.cell hb.lt), h2.map (fun _ h => h) (fun b o hb => hf.cell (ite_lt hS hO b hb))⟩
theorem CpI.frx {W W' : World} {g X : Nat} {l : List JV} {S O : Nat → Prop} {i : Nat} (h : CpI W g l S O i) (hf : FrX X W W') (hg : g ≠ X) (hS : ∀ b, S b → b < W.heap.size) (hO : ∀ b, O b → b < W.heap.size) (hS2 : ∀ b, S b → b ≠ X) (hO2 : ∀ b, O b → b ≠ X) : CpI W' g l S O i := by
 obtain ⟨cur, hb, hz⟩ := h.blk
 refine ⟨⟨cur, hb.frx hf hg, hz⟩, fun k hk => ?_⟩
 obtain ⟨C, f, C', f', h1, h2⟩ := h.at_ k hk
 exact ⟨C, f, C', f', h1.keep (fun j => hf.cell hb.lt hg), h2.map (fun _ h => h) (fun b o hb => hf.cell (ite_lt hS hO b hb) (ite_ne hS2 hO2 b hb))⟩
theorem CqI.frx {W W' : World} {g X : Nat} {m : List (List UInt8 × JV)} {S O : Nat → Prop} {i : Nat} (h : CqI W g m S O i) (hf : FrX X W W') (hg : g ≠ X) (hS : ∀ b, S b → b < W.heap.size) (hO : ∀ b, O b → b < W.heap.size) (hS2 : ∀ b, S b → b ≠ X) (hO2 : ∀ b, O b → b ≠ X) : CqI W' g m S O i := by
 obtain ⟨cur, hb, hz⟩ := h.blk
 refine ⟨⟨cur, hb.frx hf hg, hz⟩, fun k hk => ?_⟩
 obtain ⟨C, f, C', f', h0, h00, h1, h2⟩ := h.at_ k hk
 exact ⟨C, f, C', f', h0, (hf.cell hb.lt hg).trans h00, h1.keep (fun j => hf.cell hb.lt hg), h2.map (fun _ h => h) (fun b o hb => hf.cell (ite_lt hS hO b hb) (ite_ne hS2 hO2 b hb))⟩
theorem CpI.more {W : World} {g : Nat} {l : List JV} {S S' O : Nat → Prop} {i : Nat} (h : CpI W g l S O i) (hS : ∀ b, S b → S' b) : CpI W g l S' O i := ⟨h.blk, fun k hk => by
 obtain ⟨C, f, C', f', h1, h2⟩ := h.at_ k hk
 exact ⟨C, f, C', f', h1, h2.more (fun b hb => by split at hb <;> split <;> first | exact hS b hb | exact hb | (exfalso; omega))⟩⟩
theorem CqI.more {W : World} {g : Nat} {m : List (List UInt8 × JV)} {S S' O : Nat → Prop} {i : Nat} (h : CqI W g m S O i) (hS : ∀ b, S b → S' b) : CqI W g m S' O i := ⟨h.blk, fun k hk => by
 obtain ⟨C, f, C', f', h0, h00, h1, h2⟩ := h.at_ k hk
 exact ⟨C, f, C', f', h0, h00, h1, h2.more (fun b hb => by split at hb <;> split <;> first | exact hS b hb | exact hb | (exfalso; omega))⟩⟩
theorem CpI.step {W : World} {g : Nat} {l : List JV} {S O : Nat → Prop} {i : Nat} (h : CpI W g l S O i) (hi : i < l.length) (hS : ∀ b, S b → b ≠ g) (hO : ∀ b, O b → b ≠ g) {C : Option Addr} {f : Nat} {C' : Option Addr} {f' : Nat} (hx : InV W S l[i] (vA l[i] C f C' f')) :
  CpI (st5g W g (i * 5) (.int .i64 l[i].kd) (.int .i64 l[i].nm) (.string ⟨l[i].tx.toArray⟩) (.slice C l[i].ls.length f) (.slice C' l[i].ms.length f')) g l S O (i + 1) := by
 obtain ⟨cur, hb, hz⟩ := h.blk
 have hat := put5g_at W g (i * 5) (.int .i64 l[i].kd) (.int .i64 l[i].nm) (.string ⟨l[i].tx.toArray⟩) (.slice C l[i].ls.length f) (.slice C' l[i].ms.length f') (fun j hj => ⟨_, (hb.cell (i * 5 + j)).trans (Array.getElem?_eq_getElem (by omega))⟩)
 have hot := put5g_other W g (i * 5) (.int .i64 l[i].kd) (.int .i64 l[i].nm) (.string ⟨l[i].tx.toArray⟩) (.slice C l[i].ls.length f) (.slice C' l[i].ms.length f')
 obtain ⟨cur', hb', hz'⟩ := st5g_blk (o := i * 5) hb (.int .i64 l[i].kd) (.int .i64 l[i].nm) (.string ⟨l[i].tx.toArray⟩) (.slice C l[i].ls.length f) (.slice C' l[i].ms.length f')
 unfold st5g at hb' ⊢
 generalize (((((W.setCell ⟨g, i * 5, none⟩ (.int .i64 l[i].kd)).setCell ⟨g, i * 5 + 1, none⟩ (.int .i64 l[i].nm)).setCell ⟨g, i * 5 + 2, none⟩ (.string ⟨l[i].tx.toArray⟩)).setCell ⟨g, i * 5 + 3, none⟩ (.slice C l[i].ls.length f)).setCell ⟨g, i * 5 + 4, none⟩ (.slice C' l[i].ms.length f')) = W9 at hat hot hb' ⊢
 have hne : ∀ b o, b ≠ g → W9.cell? ⟨b, o, none⟩ = W.cell? ⟨b, o, none⟩ := fun b o hb => hot _ (fun j _ e => by injection e with e _ _; exact hb e.symm)
 refine ⟨⟨cur', hb', by omega⟩, fun k hk => ?_⟩
 by_cases e : k = i
 ·subst e
  rw [if_pos (by omega)]
  exact ⟨C, f, C', f', ⟨hat.1, hat.2.1, hat.2.2.1, hat.2.2.2.1, hat.2.2.2.2⟩, hx.map (fun _ h => h) (fun b o hb => hne b o (hS b hb))⟩
 ·obtain ⟨D, d, D', d', h1, h2⟩ := h.at_ k hk
  have hcell : ∀ j, j < 5 → W9.cell? ⟨g, k * 5 + j, none⟩ = W.cell? ⟨g, k * 5 + j, none⟩ := fun j hj => hot _ (fun j' hj' e => by injection e; omega)
  have hs : (if k < i + 1 then S else O) = (if k < i then S else O) := by
   by_cases hki : k < i
   ·rw [if_pos hki, if_pos (by omega)]
   ·rw [if_neg hki, if_neg (by omega)]
  rw [hs]
  exact ⟨D, d, D', d', ⟨(hcell 0 (by omega)).trans h1.1, (hcell 1 (by omega)).trans h1.2.1, (hcell 2 (by omega)).trans h1.2.2.1, (hcell 3 (by omega)).trans h1.2.2.2.1, (hcell 4 (by omega)).trans h1.2.2.2.2⟩, h2.map (fun _ h => h) (fun b o hb => hne b o (ite_ne hS hO b hb))⟩
theorem CqI.step {W : World} {g : Nat} {m : List (List UInt8 × JV)} {S O : Nat → Prop} {i : Nat} (h : CqI W g m S O i) (hi : i < m.length) (hS : ∀ b, S b → b ≠ g) (hO : ∀ b, O b → b ≠ g) {C : Option Addr} {f : Nat} {C' : Option Addr} {f' : Nat} (hx : InV W S m[i].2 (vA m[i].2 C f C' f')) :
  CqI (st5g W g (i * 6 + 1) (.int .i64 m[i].2.kd) (.int .i64 m[i].2.nm) (.string ⟨m[i].2.tx.toArray⟩) (.slice C m[i].2.ls.length f) (.slice C' m[i].2.ms.length f')) g m S O (i + 1) := by
 obtain ⟨cur, hb, hz⟩ := h.blk
 have hat := put5g_at W g (i * 6 + 1) (.int .i64 m[i].2.kd) (.int .i64 m[i].2.nm) (.string ⟨m[i].2.tx.toArray⟩) (.slice C m[i].2.ls.length f) (.slice C' m[i].2.ms.length f') (fun j hj => ⟨_, (hb.cell (i * 6 + 1 + j)).trans (Array.getElem?_eq_getElem (by omega))⟩)
 have hot := put5g_other W g (i * 6 + 1) (.int .i64 m[i].2.kd) (.int .i64 m[i].2.nm) (.string ⟨m[i].2.tx.toArray⟩) (.slice C m[i].2.ls.length f) (.slice C' m[i].2.ms.length f')
 obtain ⟨cur', hb', hz'⟩ := st5g_blk (o := i * 6 + 1) hb (.int .i64 m[i].2.kd) (.int .i64 m[i].2.nm) (.string ⟨m[i].2.tx.toArray⟩) (.slice C m[i].2.ls.length f) (.slice C' m[i].2.ms.length f')
 unfold st5g at hb' ⊢
 generalize (((((W.setCell ⟨g, i * 6 + 1, none⟩ (.int .i64 m[i].2.kd)).setCell ⟨g, i * 6 + 1 + 1, none⟩ (.int .i64 m[i].2.nm)).setCell ⟨g, i * 6 + 1 + 2, none⟩ (.string ⟨m[i].2.tx.toArray⟩)).setCell ⟨g, i * 6 + 1 + 3, none⟩ (.slice C m[i].2.ls.length f)).setCell ⟨g, i * 6 + 1 + 4, none⟩ (.slice C' m[i].2.ms.length f')) = W9 at hat hot hb' ⊢
 have hne : ∀ b o, b ≠ g → W9.cell? ⟨b, o, none⟩ = W.cell? ⟨b, o, none⟩ := fun b o hb => hot _ (fun j _ e => by injection e with e _ _; exact hb e.symm)
 have hnm : ∀ k, W9.cell? ⟨g, k * 6, none⟩ = W.cell? ⟨g, k * 6, none⟩ := fun k => hot _ (fun j' hj' e => by injection e; omega)
 refine ⟨⟨cur', hb', by omega⟩, fun k hk => ?_⟩
 by_cases e : k = i
 ·subst e
  rw [if_pos (by omega)]
  obtain ⟨D, d, D', d', h0, h00, _, _⟩ := h.at_ k hk
  exact ⟨C, f, C', f', h0, (hnm k).trans h00, ⟨hat.1, hat.2.1, hat.2.2.1, hat.2.2.2.1, hat.2.2.2.2⟩, hx.map (fun _ h => h) (fun b o hb => hne b o (hS b hb))⟩
 ·obtain ⟨D, d, D', d', h0, h00, h1, h2⟩ := h.at_ k hk
  have hcell : ∀ j, j < 5 → W9.cell? ⟨g, k * 6 + 1 + j, none⟩ = W.cell? ⟨g, k * 6 + 1 + j, none⟩ := fun j hj => hot _ (fun j' hj' e => by injection e; omega)
  have hs : (if k < i + 1 then S else O) = (if k < i then S else O) := by
   by_cases hki : k < i
   ·rw [if_pos hki, if_pos (by omega)]
   ·rw [if_neg hki, if_neg (by omega)]
  rw [hs]
  exact ⟨D, d, D', d', h0, (hnm k).trans h00, ⟨(hcell 0 (by omega)).trans h1.1, (hcell 1 (by omega)).trans h1.2.1, (hcell 2 (by omega)).trans h1.2.2.1, (hcell 3 (by omega)).trans h1.2.2.2.1, (hcell 4 (by omega)).trans h1.2.2.2.2⟩, h2.map (fun _ h => h) (fun b o hb => hne b o (ite_ne hS hO b hb))⟩
theorem VsB.cp {w : World} {Z K n c : Nat} {A : Option Addr} {l : List JV} (h : VsB w Z K (.slice A n c) l) (h0 : 0 < l.length) (S : Nat → Prop) : ∃ (g : Nat) (O : Nat → Prop), A = some ⟨g, 0, none⟩ ∧ K ≤ g ∧ (∀ b, O b → b < w.heap.size ∧ b ≠ g ∧ (b < Z ∨ K ≤ b)) ∧ CpI w g l S O 0 := by
 obtain ⟨hK, xs, hvb, hlen, hin⟩ := id h
 obtain ⟨_, ⟨_, hn⟩ | ⟨g, cap, cur, hv, hb, hg, hc, hm, hs, ht⟩⟩ := hvb.1
 ·omega
 ·injection hv with e1 _ _
  refine ⟨g, InB Z K w (.slice A n c), e1, hb, fun b hb2 => ?_, ⟨cur, hg, by rw [hs, ← hlen]; exact Nat.mul_le_mul_right _ hc⟩, fun k hk => ?_⟩
  ·have h1 := InB.ok hK hvb hb2
   exact ⟨h1.1, fun e => h1.2 (by rw [e1, e]; rfl), by rcases hb2 with hb2 | hb2; exact .inl hb2; exact .inr hb2.1⟩
  have hx : k < xs.length := by omega
  have hv2 := hin k hx hk
  obtain ⟨C, f, C', f', e⟩ := hv2.shape
  have hat : ∀ j u, j < 5 → (xs[k].cells.toList)[j]? = some u → w.cell? ⟨g, k * 5 + j, none⟩ = some u := fun j u hj hu => by
   have hm2 := vcs_at hvb.2 hx hj
   rw [hu] at hm2
   rw [cell_of_row w g _ cur _ (0, 0) hg]
   rw [← ht, List.getElem?_take] at hm2
   split at hm2
   ·first | exact hm2 | (rw [Array.getElem?_toList] at hm2; exact hm2) | simpa using hm2
   ·cases hm2
  rw [e] at hat hv2
  rw [if_neg (by omega)]
  exact ⟨C, f, C', f', ⟨hat 0 _ (by omega) rfl, hat 1 _ (by omega) rfl, hat 2 _ (by omega) rfl, hat 3 _ (by omega) rfl, hat 4 _ (by omega) rfl⟩, hv2⟩
theorem MsB.cq {w : World} {Z K n c : Nat} {A : Option Addr} {m : List (List UInt8 × JV)} (h : MsB w Z K (.slice A n c) m) (h0 : 0 < m.length) (S : Nat → Prop) : ∃ g, A = some ⟨g, 0, none⟩ ∧ K ≤ g ∧ CqI w g m S (Lo Z) 0 := by
 obtain ⟨_, xs, hvb, hlen, hin⟩ := id h
 obtain ⟨_, ⟨_, hn⟩ | ⟨g, cap, cur, hv, hb, hg, hc, hm, hs, ht⟩⟩ := hvb.1
 ·omega
 ·injection hv with e1 _ _
  refine ⟨g, e1, hb, ⟨cur, hg, by rw [hs, ← hlen]; exact Nat.mul_le_mul_right _ hc⟩, fun k hk => ?_⟩
  have hx : k < xs.length := by omega
  obtain ⟨e0, hnl, hv2⟩ := hin k hx hk
  obtain ⟨C, f, C', f', e⟩ := hv2.shape
  have hat : ∀ j u, j < 6 → (Value.string ⟨xs[k].1.toArray⟩ :: xs[k].2.cells.toList)[j]? = some u → w.cell? ⟨g, k * 6 + j, none⟩ = some u := fun j u hj hu => by
   have hm2 := mcs_at hvb.2 hx hj
   rw [hu] at hm2
   rw [cell_of_row w g _ cur _ (0, 0) hg]
   rw [← ht, List.getElem?_take] at hm2
   split at hm2
   ·first | exact hm2 | (rw [Array.getElem?_toList] at hm2; exact hm2) | simpa using hm2
   ·cases hm2
  rw [e] at hat hv2
  rw [if_neg (by omega)]
  have a0 := hat 0 _ (by omega) rfl
  rw [e0] at a0
  exact ⟨C, f, C', f', hnl, a0, ⟨hat 1 _ (by omega) rfl, hat 2 _ (by omega) rfl, hat 3 _ (by omega) rfl, hat 4 _ (by omega) rfl, hat 5 _ (by omega) rfl⟩, hv2⟩
theorem CpI.lsC {W : World} {g : Nat} {l : List JV} {S O S' : Nat → Prop} (h : CpI W g l S O l.length) (hg : S' g) (hS : ∀ b, S b → S' b) : LsC W S' (some ⟨g, 0, none⟩) l := fun i hi => by
 obtain ⟨C, f, C', f', h1, h2⟩ := h.at_ i hi
 rw [if_pos hi] at h2
 exact ⟨g, 0, C, f, C', f', rfl, hg, by rw [Nat.zero_add]; exact h1, h2.more hS⟩
theorem CqI.msC {W : World} {g : Nat} {m : List (List UInt8 × JV)} {S O S' : Nat → Prop} (h : CqI W g m S O m.length) (hg : S' g) (hS : ∀ b, S b → S' b) : MsC W S' (some ⟨g, 0, none⟩) m := fun i hi => by
 obtain ⟨C, f, C', f', h0, h00, h1, h2⟩ := h.at_ i hi
 rw [if_pos hi] at h2
 exact ⟨g, 0, C, f, C', f', rfl, hg, h0, by rw [Nat.zero_add]; exact h00, by rw [Nat.zero_add]; exact h1, h2.more hS⟩
theorem InV.both {W : World} {S : Nat → Prop} {l : List JV} {m : List (List UInt8 × JV)} {A : Option Addr} {c : Nat} {A' : Option Addr} {c' : Nat} (hl : LsC W S A l) (hm : MsC W S A' m) (l63 : l.length ≤ 140737488355328) (m63 : m.length ≤ 140737488355328) (k n : Int) (s : List UInt8)
  (hn1 : -9223372036854775808 ≤ n) (hn2 : n ≤ 9223372036854775807) (hk1 : -9223372036854775808 ≤ k) (hk2 : k ≤ 9223372036854775807) (hs : s.length ≤ 140737488355328) :
  InV W S (.mk k n s l m) (.agg #[.int .i64 k, .int .i64 n, .string ⟨s.toArray⟩, .slice A l.length c, .slice A' m.length c']) := by
 refine InV.mk k n s l m A A' c c' (fun i j => match A with | some a => (W.cell? ⟨a.block, a.off + i * 5 + j, none⟩).getD (.int .i64 0) | none => .int .i64 0) (fun i j => match A' with | some a => (W.cell? ⟨a.block, a.off + i * 6 + j, none⟩).getD (.int .i64 0) | none => .int .i64 0) hn1 hn2 hk1 hk2 hs l63 m63 (fun i hi => ?_) (fun h0 => ?_) (fun i hi => ?_) (fun h0 => ?_)
 ·obtain ⟨b, o, B, d, B', d', rfl, hb, ⟨c1, c2, c3, c4, c5⟩, hv⟩ := hl i hi
  simp only [Nat.add_zero, c1, c2, c3, c4, c5, Option.getD_some]
  exact hv
 ·obtain ⟨b, o, B, d, B', d', rfl, hb, _⟩ := hl 0 h0
  refine ⟨b, o, rfl, hb, fun i j hi hj => ?_⟩
  obtain ⟨b2, o2, B, d, B', d', he, _, ⟨c1, c2, c3, c4, c5⟩, _⟩ := hl i hi
  injection he with he; injection he with e1 e2 _
  subst e1; subst e2
  rcases (by omega : j = 0 ∨ j = 1 ∨ j = 2 ∨ j = 3 ∨ j = 4) with rfl | rfl | rfl | rfl | rfl
  ·simp only [Nat.add_zero, c1, Option.getD_some]
  ·simp only [c2, Option.getD_some]
  ·simp only [c3, Option.getD_some]
  ·simp only [c4, Option.getD_some]
  ·simp only [c5, Option.getD_some]
 ·obtain ⟨b, o, B, d, B', d', rfl, hb, _, _, ⟨c1, c2, c3, c4, c5⟩, hv⟩ := hm i hi
  simp only [Nat.add_assoc] at c1 c2 c3 c4 c5 ⊢
  simp only [c1, c2, c3, c4, c5, Option.getD_some]
  exact hv
 ·obtain ⟨b, o, B, d, B', d', rfl, hb, _⟩ := hm 0 h0
  refine ⟨b, o, rfl, hb, fun i hi => ?_⟩
  obtain ⟨b2, o2, B, d, B', d', he, _, hnl, c0, ⟨c1, c2, c3, c4, c5⟩, _⟩ := hm i hi
  injection he with he; injection he with e1 e2 _
  subst e1; subst e2
  refine ⟨by simp only [Nat.add_zero, c0, Option.getD_some], hnl, fun j hj => ?_⟩
  simp only [Nat.add_assoc] at c0 c1 c2 c3 c4 c5 ⊢
  rcases (by omega : j = 0 ∨ j = 1 ∨ j = 2 ∨ j = 3 ∨ j = 4 ∨ j = 5) with rfl | rfl | rfl | rfl | rfl | rfl
  ·simp only [Nat.add_zero, c0, Option.getD_some]
  ·simp only [c1, Option.getD_some]
  ·simp only [c2, Option.getD_some]
  ·simp only [c3, Option.getD_some]
  ·simp only [c4, Option.getD_some]
  ·simp only [c5, Option.getD_some]
end Go.Proofs.YtgaiepficjiclaaGreatDoor
