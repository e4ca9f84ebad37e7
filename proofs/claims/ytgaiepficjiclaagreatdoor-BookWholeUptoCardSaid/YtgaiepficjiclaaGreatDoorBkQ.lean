/- Chapter 15: BookWhole's walk. -/
import Derived.Test.YtgaiepficjiclaaGreatDoorBkM
import Derived.Deep.CutRange
namespace Go.Proofs.YtgaiepficjiclaaGreatDoor
set_option maxRecDepth 100000
set_option maxHeartbeats 8000000
set_option linter.unusedVariables false
set_option linter.unusedSimpArgs false
open Go.RowKit

def nms : List (List UInt8) := [Bk.nDesc, Bk.nSub, Bk.nName, Bk.nSort]
theorem Bk.whole_at (v : JV) : ∀ (i : Nat) (nm : List UInt8) (u : JV), (Bk.wholeM v)[i]? = some (nm, u) → nms[i]? = some nm ∧ u = Bk.val v nm
 | 0, nm, u, h => by injection h with h; injection h with h1 h2; subst h1; exact ⟨rfl, h2.symm⟩
 | 1, nm, u, h => by injection h with h; injection h with h1 h2; subst h1; exact ⟨rfl, h2.symm⟩
 | 2, nm, u, h => by injection h with h; injection h with h1 h2; subst h1; exact ⟨rfl, h2.symm⟩
 | 3, nm, u, h => by injection h with h; injection h with h1 h2; subst h1; exact ⟨rfl, h2.symm⟩
 | i + 4, nm, u, h => by cases h
theorem nms_less : ∀ (k : Nat) (np nm : List UInt8), nms[k]? = some np → nms[k + 1]? = some nm → Op.bytesLess np nm = true
 | 0, _, _, h1, h2 => by injection h1 with h1; injection h2 with h2; subst h1; subst h2; rfl
 | 1, _, _, h1, h2 => by injection h1 with h1; injection h2 with h2; subst h1; subst h2; rfl
 | 2, _, _, h1, h2 => by injection h1 with h1; injection h2 with h2; subst h1; subst h2; rfl
 | k + 3, _, _, h1, h2 => by cases h2
theorem bkw_law (v : JV) (A : Option Addr) (c0 : Nat) (A' : Option Addr) (c0' : Nat) (w : World) (hv : InV w (Lo w.heap.size) v (vA v A c0 A' c0')) (hbk : JV.bulk v ≤ 1048576) (hT : LowTabs w) :
  Calls Tryz.prog 4 #[vA v A c0 A' c0'] w fun e w' => e = .returned (.bool true) ∧ Fr w w' := by
 have HT := Lib.hid hT
 have HVV := Lib.hid hv
 have HA : Hid (vA v A c0 A' c0' = .agg #[.int .i64 v.kd, .int .i64 v.nm, .string ⟨v.tx.toArray⟩, .slice A v.ls.length c0, .slice A' v.ms.length c0']) := rfl
 have hnv := nv_bulk v
 have hml := Cp.nvM_len v.ms
 have hne := Pt.nv_eq v
 have hml2 : v.ms.length ≤ 1048575 := by omega
 have hkv : ∀ W, Fr w W → InV W (Lo W.heap.size) v (vA v A c0 A' c0') := fun W hW => (hv.keep (Nat.le_refl _) hW).lo hW.size
 have HFW : Hid (∀ W, Fr w W → Calls Tryz.prog 9 #[.agg #[.int .i64 v.kd, .int .i64 v.nm, .string ⟨v.tx.toArray⟩, .slice A v.ls.length c0, .slice A' v.ms.length c0'], .int .i64 1500] W fun e w' => (∃ b : Bool, e = .returned (.bool b)) ∧ Fr W w') := Lib.hid (fun W hW => few7_is v A c0 A' c0' W (hkv W hW) (by omega) 1500 (by decide) (by decide))
 obtain ⟨n, hn⟩ : ∃ n, (Bk.wrong v).length = n := ⟨_, rfl⟩
 have HCK : Hid (∀ W, Fr w W → Calls Tryz.prog 11 #[.agg #[.int .i64 v.kd, .int .i64 v.nm, .string ⟨v.tx.toArray⟩, .slice A v.ls.length c0, .slice A' v.ms.length c0']] W fun e w' => (∃ E c, e = .returned (.slice E n c)) ∧ Fr W w') := Lib.hid (fun W hW => by
  refine (bkcheck_is v A c0 A' c0' W W.heap.size (Nat.le_refl _) (hkv W hW) (by omega)).mono ?_
  rintro e w' ⟨⟨E, c, rfl, _⟩, hf⟩
  exact ⟨⟨E, c, by rw [hn]⟩, hf⟩)
 rw [HA.out]
 by_cases hw : Bk.wrong v = []
 ·have hn0 : n = 0 := by rw [← hn, hw]; rfl
  subst hn0
  have hwr := Bk.whole_right hw
  have hag := Bk.whole_again v
  have hna := Bk.whole_at v
  have hwnv : ∀ m : List (List UInt8 × JV), Rd.nv (JV.mapV m) = 1 + Rd.nvM m := fun m => by have := Pt.nv_eq (JV.mapV m); have h3 : Rd.nvL (JV.mapV m).ls = 0 := rfl; have h4 : Rd.nvM (JV.mapV m).ms = Rd.nvM m := rfl; omega
  obtain ⟨wm, hwm⟩ : ∃ wm, Bk.wholeM v = wm := ⟨_, rfl⟩
  have hwl : wm.length = 4 := by rw [← hwm]; rfl
  have HWV : Hid (∀ W, Fr w W → Calls Tryz.prog 14 #[.agg #[.int .i64 v.kd, .int .i64 v.nm, .string ⟨v.tx.toArray⟩, .slice A v.ls.length c0, .slice A' v.ms.length c0']] W fun e w' => (∃ E g, e = .returned (.agg #[.int .i64 6, .int .i64 0, .string ⟨#[]⟩, .slice none 0 0, (.slice E 4 g)]) ∧ InV w' (Lo w'.heap.size) (JV.mapV wm) (.agg #[.int .i64 6, .int .i64 0, .string ⟨#[]⟩, .slice none 0 0, (.slice E 4 g)])) ∧ Fr W w') := Lib.hid (fun W hW => by
   rw [← hwm]
   exact (bkwhole_yes v A c0 A' c0' W W.heap.size (Nat.le_refl _) (hkv W hW) (by omega) hw).mono (by rintro e w' ⟨⟨E, c, rfl, hi, _⟩, hf⟩; exact ⟨⟨E, c, rfl, hi.more (fun b hb => hb.2)⟩, hf⟩))
  have hvn : ∀ s, Rd.nv (Bk.val (JV.mapV wm) s) ≤ 1048576 := fun s => by
   unfold Bk.val
   cases hg : Pt.get (JV.mapV wm) s with
   | none => show Rd.nv (Bk.usual s) ≤ _; unfold Bk.usual; split; decide; split <;> decide
   | some y =>
    show Rd.nv y ≤ _
    have hm : (s, y) ∈ wm := (Bk.get_mem hg).2
    obtain ⟨i, hi, he⟩ := List.mem_iff_getElem.1 hm
    subst hwm
    rw [(hna i s y ((List.getElem?_eq_getElem hi).trans (congrArg some he))).2]
    exact Bk.val_nv (by omega)
  rw [hwm] at hwr hag hna
  have HWW : Hid (∀ (W : World) (E : Option Addr) (g : Nat), InV W (Lo W.heap.size) (JV.mapV wm) (.agg #[.int .i64 6, .int .i64 0, .string ⟨#[]⟩, .slice none 0 0, (.slice E 4 g)]) → Calls Tryz.prog 14 #[.agg #[.int .i64 6, .int .i64 0, .string ⟨#[]⟩, .slice none 0 0, (.slice E 4 g)]] W fun e w' => (∃ E g, e = .returned (.agg #[.int .i64 6, .int .i64 0, .string ⟨#[]⟩, .slice none 0 0, (.slice E 4 g)]) ∧ InV w' (Lo w'.heap.size) (JV.mapV wm) (.agg #[.int .i64 6, .int .i64 0, .string ⟨#[]⟩, .slice none 0 0, (.slice E 4 g)])) ∧ Fr W w') := Lib.hid (fun W E g h => by
   have k := bkwhole_yes2 (JV.mapV wm) none 0 E g W W.heap.size (Nat.le_refl _) (by show InV _ _ _ (.agg #[_, _, _, _, .slice E wm.length g]); rw [hwl]; exact h) (by show wm.length ≤ _; omega) hvn hwr
   rw [hag] at k
   have e : (JV.mapV wm).ms.length = 4 := hwl
   rw [e] at k
   exact k.mono (by rintro e w' ⟨⟨E, c, rfl, hi, _⟩, hf⟩; exact ⟨⟨E, c, rfl, hi.more (fun b hb => hb.2)⟩, hf⟩))
  have HCW : Hid (∀ (W : World) (E : Option Addr) (g : Nat), InV W (Lo W.heap.size) (JV.mapV wm) (.agg #[.int .i64 6, .int .i64 0, .string ⟨#[]⟩, .slice none 0 0, (.slice E 4 g)]) → Calls Tryz.prog 11 #[.agg #[.int .i64 6, .int .i64 0, .string ⟨#[]⟩, .slice none 0 0, (.slice E 4 g)]] W fun e w' => (∃ E c, e = .returned (.slice E 0 c)) ∧ Fr W w') := Lib.hid (fun W E g h => by
   have k := bkcheck_is (JV.mapV wm) none 0 E g W W.heap.size (Nat.le_refl _) (by show InV _ _ _ (.agg #[_, _, _, _, .slice E wm.length g]); rw [hwl]; exact h) (by show wm.length ≤ _; omega)
   rw [hwr] at k
   have e : (JV.mapV wm).ms.length = 4 := hwl
   rw [e] at k
   exact k.mono (by rintro e w' ⟨⟨E, c, rfl, _⟩, hf⟩; exact ⟨⟨E, c, rfl⟩, hf⟩))
  have HNV : Hid (∀ (i : Nat) (nm : List UInt8) (u : JV), wm[i]? = some (nm, u) → nms[i]? = some nm ∧ u = Bk.val v nm) := Lib.hid hna
  have HWM : Hid (wm.length = 4) := Lib.hid hwl
  clear hv hbk hT hnv hml hne hkv hn hw hwr hag hna hwnv hwm hwl hvn
  go_enter Tryz.func4, Tryz.ntmps4
  go_upto_region 1 with fail
  have hb1 := Blk.made w #[.int .i64 v.kd, .int .i64 v.nm, .string ⟨v.tx.toArray⟩, .slice A v.ls.length c0, .slice A' v.ms.length c0'] 25
  have hf0 : Fr w (w.alloc (.cells #[.int .i64 v.kd, .int .i64 v.nm, .string ⟨v.tx.toArray⟩, .slice A v.ls.length c0, .slice A' v.ms.length c0'] 25)) := (Fr.refl w).alloc _
  generalize (w.alloc (.cells #[.int .i64 v.kd, .int .i64 v.nm, .string ⟨v.tx.toArray⟩, .slice A v.ls.length c0, .slice A' v.ms.length c0'] 25)) = W0 at hb1 hf0 ⊢
  obtain ⟨X1, hX1⟩ : ∃ X, w.heap.size = X := ⟨_, rfl⟩
  have HX1 := Lib.hid hX1
  rw [hX1] at hb1 ⊢
  clear hX1
  have HB1 := Lib.hid hb1
  have HF0 := Lib.hid hf0
  clear hb1 hf0
  go_upto_region 3 with (first
   | (go_at_call 11; have hq := HF1.out; refine (HCK.out _ (HF0.out.trans hq)).mono ?_; rintro e w3 ⟨⟨E3, e3, rfl⟩, hf⟩; obtain ⟨⟨y0, y1, y2, y3, y4⟩, _⟩ := box5 (HB1.out.keep (hq.trans hf)); have HF3 := Lib.hid (hq.trans hf); clear hf hq)
   | (go_at_call 9; have hq := HFa.out; refine (HFW.out _ (HF0.out.trans hq)).mono ?_; rintro e w1 ⟨⟨b1, rfl⟩, hf⟩; obtain ⟨⟨y0, y1, y2, y3, y4⟩, _⟩ := box5 (HB1.out.keep (hq.trans hf)); have HF1 := Lib.hid (hq.trans hf); clear hf hq; cases b1)
   | (go_at_call 8; refine (awake15 _ (HT.out.keep HF0.out)).mono ?_; rintro e wa ⟨rfl, hf⟩; obtain ⟨⟨y0, y1, y2, y3, y4⟩, _⟩ := box5 (HB1.out.keep hf); have HFa := Lib.hid hf; clear hf))
  ·go_wp2_with (go_at_call 8; have hq := HF1.out; refine (awake15 _ (HT.out.keep (HF0.out.trans hq))).mono ?_; rintro e w9 ⟨rfl, hf⟩; have HF9 := Lib.hid ((HF0.out.trans hq).trans hf); clear hf hq)
   go_ret
   exact ⟨rfl, HF9.out⟩
  go_upto_region 4 with (go_at_call 14; refine (HWV.out _ (HF0.out.trans HF3.out)).mono ?_; rintro e w4 ⟨⟨E, g, rfl, hi⟩, hf⟩; have HI := Lib.hid hi; have HF4 := Lib.hid (HF3.out.trans hf); clear hi hf)
  clear y0 y1 y2 y3 y4
  have hb3 := Blk.made w4 #[.int .i64 6, .int .i64 0, .string ⟨#[]⟩, .slice none 0 0, (.slice E 4 g)] 25
  have hf4 : Fr W0 (w4.alloc (.cells #[.int .i64 6, .int .i64 0, .string ⟨#[]⟩, .slice none 0 0, (.slice E 4 g)] 25)) := HF4.out.alloc _
  have hi4 : InV (w4.alloc (.cells #[.int .i64 6, .int .i64 0, .string ⟨#[]⟩, .slice none 0 0, (.slice E 4 g)] 25)) (Lo (w4.alloc (.cells #[.int .i64 6, .int .i64 0, .string ⟨#[]⟩, .slice none 0 0, (.slice E 4 g)] 25)).heap.size) (JV.mapV wm) (.agg #[.int .i64 6, .int .i64 0, .string ⟨#[]⟩, .slice none 0 0, (.slice E 4 g)]) := (HI.out.keep (Nat.le_refl _) ((Fr.refl w4).alloc _)).lo ((Fr.refl w4).alloc _).size
  generalize (w4.alloc (.cells #[.int .i64 6, .int .i64 0, .string ⟨#[]⟩, .slice none 0 0, (.slice E 4 g)] 25)) = W4 at hb3 hf4 hi4 ⊢
  generalize w4.heap.size = X3 at hb3 ⊢
  obtain ⟨bE, oE, rfl⟩ : ∃ b o, E = some ⟨b, o, none⟩ := by
   obtain ⟨Q, q, Q', q', he, _, hms⟩ := hi4.open_
   have hA : E = Q' := by obtain ⟨_, _, _, _, e4⟩ := five he; injection e4
   subst hA
   obtain ⟨b, o, _, _, _, _, hbo, _⟩ := hms 0 (by show 0 < wm.length; rw [HWM.out]; omega)
   exact ⟨b, o, hbo⟩
  have HMS : Hid (MsC W4 (Lo W4.heap.size) (some ⟨bE, oE, none⟩) wm) := Lib.hid (by
   obtain ⟨Q, q, Q', q', he, _, hms⟩ := hi4.open_
   have hA : some ⟨bE, oE, none⟩ = Q' := by obtain ⟨_, _, _, _, e4⟩ := five he; injection e4
   subst hA; exact hms)
  have HB3 := Lib.hid hb3
  have HFa4 := Lib.hid hf4
  have HIK : Hid (∀ W, Fr W4 W → InV W (Lo W.heap.size) (JV.mapV wm) (.agg #[.int .i64 6, .int .i64 0, .string ⟨#[]⟩, .slice none 0 0, (.slice (some ⟨bE, oE, none⟩) 4 g)])) := Lib.hid (fun W hW => (hi4.keep (Nat.le_refl _) hW).lo hW.size)
  have HS4 : Hid (∀ W, Fr W4 W → W.cell? ⟨X3, 0, none⟩ = some (.int .i64 6) ∧ W.cell? ⟨X3, 1, none⟩ = some (.int .i64 0) ∧ W.cell? ⟨X3, 2, none⟩ = some (.string ⟨#[]⟩) ∧ W.cell? ⟨X3, 3, none⟩ = some (.slice none 0 0) ∧ W.cell? ⟨X3, 4, none⟩ = some (.slice (some ⟨bE, oE, none⟩) 4 g)) := Lib.hid (fun W hW => by
   have a := HB3.out.keep hW
   exact ⟨a.cell 0, a.cell 1, a.cell 2, a.cell 3, a.cell 4⟩)
  clear hb3 hf4 hi4 HI HF4 HF3 HFa HF1 HWV
  go_upto_region 4 with fail
  refine wp_region_held_drew (S := (fun W => W.cell? ⟨X3, 0, none⟩ = some (.int .i64 6) ∧ W.cell? ⟨X3, 1, none⟩ = some (.int .i64 0) ∧ W.cell? ⟨X3, 2, none⟩ = some (.string ⟨#[]⟩) ∧ W.cell? ⟨X3, 3, none⟩ = some (.slice none 0 0) ∧ W.cell? ⟨X3, 4, none⟩ = some (.slice (some ⟨bE, oE, none⟩) 4 g))) (by kernel_rfl) ?_ (fun hHeld => ?_)
  ·exact HS4.out _ (Fr.refl _).drew
  refine tk (i := 0) (v := ?_) rfl ⟨by rfl, ?_⟩ hHeld ?_
  rotate_left
  ·(intro w' hSw; (try dsimp only at hSw); go_simp; try with_reducible rfl)
  try simp only [Act.put, fl]
  refine wpAnyH_ready (rs := [1]) (by kernel_rfl) (by simp) ?_
  refine AllReadyH.cons rfl (fun K hK => ?_) AllReadyH.nil
  go_simp
  (go_at_call 11; refine (HCW.out _ _ _ (HIK.out _ (Fr.refl W4).drew)).mono ?_; rintro e w5 ⟨⟨E5, e5, rfl⟩, hf⟩; have HG5 : Hid (Fr W4 w5) := Lib.hid ((Fr.refl W4).drew.trans hf); clear hf)
  try (refine hK.out _ _ ?_ (fun hHeld2 => ?_))
  ·exact HS4.out _ HG5.out
  clear hK K
  try simp only [Act.put, fl]
  refine tk (i := 2) (v := ?_) rfl ⟨by rfl, ?_⟩ hHeld2 ?_
  rotate_left
  ·(intro w' hSw; (try dsimp only at hSw); go_simp; try with_reducible rfl)
  try simp only [Act.put, fl]
  refine tk (i := 3) (v := ?_) rfl ⟨by rfl, ?_⟩ hHeld2 ?_
  rotate_left
  ·(intro w' hSw; (try dsimp only at hSw); go_simp; try with_reducible rfl)
  try simp only [Act.put, fl]
  refine tk (i := 4) (v := ?_) rfl ⟨by rfl, ?_⟩ hHeld2 ?_
  rotate_left
  ·(intro w' hSw; (try dsimp only at hSw); go_simp; try with_reducible rfl)
  try simp only [Act.put, fl]
  refine tk (i := 5) (v := ?_) rfl ⟨by rfl, ?_⟩ hHeld2 ?_
  rotate_left
  ·(intro w' hSw; (try dsimp only at hSw); go_simp; try with_reducible rfl)
  try simp only [Act.put, fl]
  refine tk (i := 6) (v := ?_) rfl ⟨by rfl, ?_⟩ hHeld2 ?_
  rotate_left
  ·(intro w' hSw; (try dsimp only at hSw); go_simp; try with_reducible rfl)
  try simp only [Act.put, fl]
  refine tk (i := 7) (v := ?_) rfl ⟨by rfl, ?_⟩ hHeld2 ?_
  rotate_left
  ·(intro w' hSw; (try dsimp only at hSw); go_simp; try with_reducible rfl)
  try simp only [Act.put, fl]
  refine tk (i := 8) (v := ?_) rfl ⟨by rfl, ?_⟩ hHeld2 ?_
  rotate_left
  ·(intro w' hSw; (try dsimp only at hSw); go_simp; try with_reducible rfl)
  try simp only [Act.put, fl]
  refine tk (i := 9) (v := ?_) rfl ⟨by rfl, ?_⟩ hHeld2 ?_
  rotate_left
  ·(intro w' hSw; (try dsimp only at hSw); go_simp; try with_reducible rfl)
  try simp only [Act.put, fl]
  refine tk (i := 10) (v := ?_) rfl ⟨by rfl, ?_⟩ hHeld2 ?_
  rotate_left
  ·(intro w' hSw; (try dsimp only at hSw); go_simp; try with_reducible rfl)
  try simp only [Act.put, fl]
  refine tk (i := 11) (v := ?_) rfl ⟨by rfl, ?_⟩ hHeld2 ?_
  rotate_left
  ·(intro w' hSw; (try dsimp only at hSw); go_simp; try with_reducible rfl)
  try simp only [Act.put, fl]
  refine tk (i := 13) (v := ?_) rfl ⟨by rfl, ?_⟩ hHeld2 ?_
  rotate_left
  ·(intro w' hSw; (try dsimp only at hSw); go_simp; try with_reducible rfl)
  try simp only [Act.put, fl]
  refine wpAnyH_ready (rs := [12]) (by kernel_rfl) (by simp) ?_
  refine AllReadyH.cons rfl (fun K hK => ?_) AllReadyH.nil
  go_simp
  (go_at_call 14; refine (HWW.out _ _ _ (HIK.out _ HG5.out)).mono ?_; rintro e w6 ⟨⟨E6, e6, rfl, hi⟩, hf⟩; have HI6 := Lib.hid hi; have HG6 := Lib.hid (HG5.out.trans hf); clear hi hf)
  try (refine hK.out _ _ ?_ (fun hHeld2 => ?_))
  ·exact HS4.out _ HG6.out
  clear hK K
  try simp only [Act.put, fl]
  refine wpAnyH_ready (rs := [14]) (by kernel_rfl) (by simp) ?_
  refine AllReadyH.cons rfl (fun K hK => ?_) AllReadyH.nil
  go_simp
  (go_at_call 13; refine ((same_is (JV.mapV wm) (JV.mapV wm) _ _).call true (by simp) ?sx1 ?sx2 HI6.out (HIK.out _ HG6.out)).mono ?_; (case sx1 => rfl); (case sx2 => rfl); rintro e w7 ⟨rfl, hf⟩; have HG7 := Lib.hid (HG6.out.trans hf); clear hf)
  try (refine hK.out _ _ ?_ (fun hHeld2 => ?_))
  ·exact HS4.out _ HG7.out
  clear hK K
  try simp only [Act.put, fl]
  refine tk (i := 15) (v := ?_) rfl ⟨by rfl, ?_⟩ hHeld2 ?_
  rotate_left
  ·(intro w' hSw; (try dsimp only at hSw); go_simp; try with_reducible rfl)
  try simp only [Act.put, fl]
  refine tk (i := 16) (v := ?_) rfl ⟨by rfl, ?_⟩ hHeld2 ?_
  rotate_left
  ·(intro w' hSw; (try dsimp only at hSw); go_simp; try with_reducible rfl)
  try simp only [Act.put, fl]
  refine wpAnyH_done (by kernel_rfl) ?_ _
  clear hHeld hHeld2
  obtain ⟨W5, hW5⟩ : ∃ W, W = w7 := ⟨_, rfl⟩
  subst hW5
  have HB1R0 := Lib.hid (HB1.out.keep (HFa4.out.trans HG7.out))
  have HB3R0 := Lib.hid (HB3.out.keep HG7.out)
  have HF5 : Hid (Fr w W5) := Lib.hid ((HF0.out.trans HFa4.out).trans HG7.out)
  have HMS5 : Hid (MsC W5 (Lo W5.heap.size) (some ⟨bE, oE, none⟩) wm) := Lib.hid ((HMS.out.keep (Nat.le_refl _) HG7.out).map (fun b hb => Nat.lt_of_lt_of_le hb HG7.out.size) (fun _ _ _ => rfl))
  clear HMS HI6 HG5 HG6 HG7 HS4 HIK HFa4 HB1 HB3 HWW HCW HCK HFW
  go_wp2_with fail
  go_loopw [4] (fun j wr => ∃ (i : Nat), i ≤ 4 ∧ j = .int .i64 i ∧ Hid (Fr W5 wr)) (fun j _ => 4 - (intOf j).toNat)
  case atStart => exact ⟨0, by omega, rfl, Lib.hid (Fr.refl _)⟩
  case round =>
   obtain ⟨i, hi, hj, hF⟩ := hrel
   have HWF : Hid (Fr w wr) := Lib.hid (HF5.out.trans hF.out)
   have HWZ : Hid (∀ W, Fr wr W → w.heap.size ≤ W.heap.size) := Lib.hid (fun W hW => (HWF.out.trans hW).size)
   have HWR : Hid (w.heap.size ≤ wr.heap.size) := Lib.hid HWF.out.size
   have HB1R := Lib.hid (HB1R0.out.keep hF.out)
   have HB3R := Lib.hid (HB3R0.out.keep hF.out)
   rcases i with _ | k
   ·obtain rfl : u4 = .int .i64 0 := hj
    have hi1 : 0 < 4 := by omega
    obtain ⟨b, o, P, p, P', p', hbo, hb, hnl, m0, ⟨m1, m2, m3, m4, m5⟩, hui⟩ := (HMS5.out.keep (Nat.le_refl _) hF.out) (0) (by rw [HWM.out]; omega)
    have hbo2 : bE = b ∧ oE = o := by injection hbo with hbo; injection hbo with h1 h2 _; exact ⟨h1, h2⟩
    obtain ⟨rfl, rfl⟩ := hbo2
    obtain ⟨nm, u, hpu⟩ : ∃ nm u, wm[0]'(by rw [HWM.out]; omega) = (nm, u) := ⟨_, _, rfl⟩
    rw [hpu] at m0 m1 m2 m3 m4 m5 hui
    have hnmi := HNV.out (0) nm u ((List.getElem?_eq_getElem _).trans (congrArg some hpu))
    have HMC : Hid (wr.cell? ⟨bE, oE, none⟩ = some (.string ⟨nm.toArray⟩) ∧ wr.cell? ⟨bE, oE + 1, none⟩ = some (.int .i64 u.kd) ∧ wr.cell? ⟨bE, oE + 1 + 1, none⟩ = some (.int .i64 u.nm) ∧ wr.cell? ⟨bE, oE + 1 + 2, none⟩ = some (.string ⟨u.tx.toArray⟩) ∧ wr.cell? ⟨bE, oE + 1 + 3, none⟩ = some (.slice P u.ls.length p) ∧ wr.cell? ⟨bE, oE + 1 + 4, none⟩ = some (.slice P' u.ms.length p')) := Lib.hid ⟨m0, m1, m2, m3, m4, m5⟩
    have HUI : Hid (InV wr (Lo wr.heap.size) u (vA u P p P' p')) := Lib.hid (hui.more (fun b hb => Nat.lt_of_lt_of_le hb hF.out.size))
    have HBE : Hid (bE < wr.heap.size) := Lib.hid (Nat.lt_of_lt_of_le hb hF.out.size)
    obtain ⟨r, bb, hrb, hge⟩ : ∃ (r : JV) (bb : Bool), ((bb = true ∧ r = u) ∨ (bb = false ∧ r = JV.zeroV)) ∧ ((bb = true ∧ Pt.get v nm = some r) ∨ (bb = false ∧ Pt.get v nm = none ∧ r = JV.zeroV)) := by
     cases hg : Pt.get v nm with
     | none => exact ⟨_, _, .inr ⟨rfl, rfl⟩, .inr ⟨rfl, rfl, rfl⟩⟩
     | some y => exact ⟨y, _, .inl ⟨rfl, by rw [hnmi.2, Bk.val_some hg.symm]⟩, .inl ⟨rfl, rfl⟩⟩
    have HGT : Hid (∀ W, Fr wr W → Calls Tryz.prog 16 #[.agg #[.int .i64 v.kd, .int .i64 v.nm, .string ⟨v.tx.toArray⟩, .slice A v.ls.length c0, .slice A' v.ms.length c0'], .string ⟨nm.toArray⟩] W fun e w' => ∃ (C : Option Addr) (f : Nat) (C' : Option Addr) (f' : Nat), e = .returned (.tuple #[.agg #[.int .i64 r.kd, .int .i64 r.nm, .string ⟨r.tx.toArray⟩, .slice C r.ls.length f, .slice C' r.ms.length f'], .bool bb]) ∧ InV w' (Lo w.heap.size) r (vA r C f C' f') ∧ Fr W w') := Lib.hid (fun W hW => by
     have h := get_is v A c0 A' c0' nm W w.heap.size (HWZ.out W hW) (HVV.out.keep (Nat.le_refl _) (HWF.out.trans hW))
     rcases hge with ⟨rfl, hg⟩ | ⟨rfl, hg, rfl⟩
     ·rw [hg] at h; exact h
     ·rw [hg] at h; exact h.mono (fun e w' k => ⟨none, 0, none, 0, k.1, zeroV_in _ _, k.2⟩))
    have HRB := Lib.hid hrb
    clear m0 m1 m2 m3 m4 m5 hui hbo hb hnl hpu hnmi hrb hge
    go_upto_region 9 with fail
    have HSW : Hid (∀ W, Fr wr W → W.cell? ⟨X1, 0, none⟩ = some (.int .i64 v.kd) ∧ W.cell? ⟨X1, 1, none⟩ = some (.int .i64 v.nm) ∧ W.cell? ⟨X1, 2, none⟩ = some (.string ⟨v.tx.toArray⟩) ∧ W.cell? ⟨X1, 3, none⟩ = some (.slice A v.ls.length c0) ∧ W.cell? ⟨X1, 4, none⟩ = some (.slice A' v.ms.length c0') ∧ W.cell? ⟨X3, 4, none⟩ = some (.slice (some ⟨bE, oE, none⟩) 4 g) ∧ W.cell? ⟨bE, oE, none⟩ = some (.string ⟨nm.toArray⟩)) := Lib.hid (fun W hW => by
     have a := HB1R.out.keep hW
     have b := HB3R.out.keep hW
     exact ⟨a.cell 0, a.cell 1, a.cell 2, a.cell 3, a.cell 4, b.cell 4, (hW.cell HBE.out).trans HMC.out.1⟩)
    go_cut [5, 6] from 45 to 55 (fun p q wx => ∃ (X7 : Nat) (C : Option Addr) (f : Nat) (C' : Option Addr) (f' : Nat), p = .pointer (some ⟨X7, 0, none⟩) ∧ q = .bool bb ∧ Hid (wr.heap.size ≤ X7) ∧ Hid (Blk wx X7 #[.int .i64 r.kd, .int .i64 r.nm, .string ⟨r.tx.toArray⟩, .slice C r.ls.length f, .slice C' r.ms.length f'] 25) ∧ Hid (InV wx (Lo wx.heap.size) r (vA r C f C' f')) ∧ Hid (Fr wr wx))
    case first =>
     refine wp_region_held_drew (S := (fun W => W.cell? ⟨X1, 0, none⟩ = some (.int .i64 v.kd) ∧ W.cell? ⟨X1, 1, none⟩ = some (.int .i64 v.nm) ∧ W.cell? ⟨X1, 2, none⟩ = some (.string ⟨v.tx.toArray⟩) ∧ W.cell? ⟨X1, 3, none⟩ = some (.slice A v.ls.length c0) ∧ W.cell? ⟨X1, 4, none⟩ = some (.slice A' v.ms.length c0') ∧ W.cell? ⟨X3, 4, none⟩ = some (.slice (some ⟨bE, oE, none⟩) 4 g) ∧ W.cell? ⟨bE, oE, none⟩ = some (.string ⟨nm.toArray⟩))) (by kernel_rfl) ?_ (fun hHeld => ?_)
     ·exact HSW.out _ (Fr.refl _).drew
     refine tk (i := 0) (v := ?_) rfl ⟨by rfl, ?_⟩ hHeld ?_
     rotate_left
     ·(intro w' hSw; (try dsimp only at hSw); go_simp; try with_reducible rfl)
     try simp only [Act.put, fl]
     refine tk (i := 1) (v := ?_) rfl ⟨by rfl, ?_⟩ hHeld ?_
     rotate_left
     ·(intro w' hSw; (try dsimp only at hSw); go_simp; try with_reducible rfl)
     try simp only [Act.put, fl]
     refine tk (i := 2) (v := ?_) rfl ⟨by rfl, ?_⟩ hHeld ?_
     rotate_left
     ·(intro w' hSw; (try dsimp only at hSw); go_simp; try with_reducible rfl)
     try simp only [Act.put, fl]
     refine tk (i := 3) (v := ?_) rfl ⟨by rfl, ?_⟩ hHeld ?_
     rotate_left
     ·(intro w' hSw; (try dsimp only at hSw); go_simp; try with_reducible rfl)
     try simp only [Act.put, fl]
     refine tk (i := 4) (v := ?_) rfl ⟨by rfl, ?_⟩ hHeld ?_
     rotate_left
     ·(intro w' hSw; (try dsimp only at hSw); go_simp; try with_reducible rfl)
     try simp only [Act.put, fl]
     refine tk (i := 5) (v := ?_) rfl ⟨by rfl, ?_⟩ hHeld ?_
     rotate_left
     ·(intro w' hSw; (try dsimp only at hSw); go_simp; try with_reducible rfl)
     try simp only [Act.put, fl]
     refine tk (i := 6) (v := ?_) rfl ⟨by rfl, ?_⟩ hHeld ?_
     rotate_left
     ·(intro w' hSw; (try dsimp only at hSw); go_simp; try with_reducible rfl)
     try simp only [Act.put, fl]
     refine wpAnyH_ready (rs := [7, 11]) (by kernel_rfl) (by simp) ?_
     refine AllReadyH.cons rfl (fun K hK => ?_) (AllReadyH.cons rfl (fun K hK => ?_) AllReadyH.nil)
     ·go_simp
      (go_at_call 16; refine (HGT.out _ (Fr.refl wr).drew).mono ?_; rintro e w1 ⟨C, f, C', f', rfl, hi, hf⟩; have HI := Lib.hid hi; clear hi; have HF1 : Hid (Fr wr w1) := Lib.hid ((Fr.refl wr).drew.trans hf); clear hf)
      refine hK.out _ _ (HSW.out _ HF1.out) (fun hH2 => ?_)
      clear hK K
      try simp only [Act.put, fl]
      refine tk (i := 8) (v := ?_) rfl ⟨by rfl, ?_⟩ hH2 ?_
      rotate_left
      ·(intro w' hSw; (try dsimp only at hSw); go_simp; try with_reducible rfl)
      try simp only [Act.put, fl]
      refine tk (i := 9) (v := ?_) rfl ⟨by rfl, ?_⟩ hH2 ?_
      rotate_left
      ·(intro w' hSw; (try dsimp only at hSw); go_simp; try with_reducible rfl)
      try simp only [Act.put, fl]
      refine tk (i := 10) (v := ?_) rfl ⟨by rfl, ?_⟩ hH2 ?_
      rotate_left
      ·(intro w' hSw; (try dsimp only at hSw); go_simp; try with_reducible rfl)
      try simp only [Act.put, fl]
      refine wpAnyH_ready (rs := [11]) (by kernel_rfl) (by simp) ?_
      refine AllReadyH.cons rfl (fun K hK => ?_) AllReadyH.nil
      go_simp
      refine hK.out _ _ (HSW.out _ (HF1.out.alloc _)) (fun hH3 => ?_)
      clear hK K
      try simp only [Act.put, fl]
      have HB7 : Hid (Blk (w1.alloc (.cells #[.int .i64 0, .int .i64 0, .string ⟨#[]⟩, .slice none 0 0, .slice none 0 0] 25)) w1.heap.size #[.int .i64 0, .int .i64 0, .string ⟨#[]⟩, .slice none 0 0, .slice none 0 0] 25) := Lib.hid (Blk.made w1 _ _)
      have HF7 : Hid (Fr wr (w1.alloc (.cells #[.int .i64 0, .int .i64 0, .string ⟨#[]⟩, .slice none 0 0, .slice none 0 0] 25))) := Lib.hid (HF1.out.alloc _)
      have HX7 : Hid (wr.heap.size ≤ w1.heap.size) := Lib.hid HF1.out.size
      have HH7 : Hid (Fr w1 (w1.alloc (.cells #[.int .i64 0, .int .i64 0, .string ⟨#[]⟩, .slice none 0 0, .slice none 0 0] 25))) := Lib.hid ((Fr.refl w1).alloc _)
      generalize (w1.alloc (.cells #[.int .i64 0, .int .i64 0, .string ⟨#[]⟩, .slice none 0 0, .slice none 0 0] 25)) = W7 at HB7 HF7 HH7 ⊢
      generalize w1.heap.size = X7 at HB7 HX7 ⊢
      obtain ⟨⟨z0, z1, z2, z3, z4⟩, zf0, zf1, zf2, zf3, zf4⟩ := box5 HB7.out
      refine wpAnyH_ready (rs := [12]) (by kernel_rfl) (by simp) ?_
      refine AllReadyH.cons rfl (fun K hK => ?_) AllReadyH.nil
      go_simp
      refine hK.out _ _ (HSW.out _ (st5_fr HF7.out HX7.out _ _ _ _ _)) (fun hH5 => ?_)
      clear hK K
      try simp only [Act.put, fl]
      refine tk (i := 13) (v := ?_) rfl ⟨by rfl, ?_⟩ hH5 ?_
      rotate_left
      ·(intro w' hSw; (try dsimp only at hSw); go_simp; try with_reducible rfl)
      try simp only [Act.put, fl]
      refine wpAnyH_done (by kernel_rfl) ?_ _
      have hb9 : Blk (((((W7.setCell ⟨X7, 0, none⟩ (.int .i64 r.kd)).setCell ⟨X7, 1, none⟩ (.int .i64 r.nm)).setCell ⟨X7, 2, none⟩ (.string ⟨r.tx.toArray⟩)).setCell ⟨X7, 3, none⟩ (.slice C r.ls.length f)).setCell ⟨X7, 4, none⟩ (.slice C' r.ms.length f')) X7 #[.int .i64 r.kd, .int .i64 r.nm, .string ⟨r.tx.toArray⟩, .slice C r.ls.length f, .slice C' r.ms.length f'] 25 := set5 HB7.out
      have hf9 : Fr wr (((((W7.setCell ⟨X7, 0, none⟩ (.int .i64 r.kd)).setCell ⟨X7, 1, none⟩ (.int .i64 r.nm)).setCell ⟨X7, 2, none⟩ (.string ⟨r.tx.toArray⟩)).setCell ⟨X7, 3, none⟩ (.slice C r.ls.length f)).setCell ⟨X7, 4, none⟩ (.slice C' r.ms.length f')) := st5_fr HF7.out HX7.out _ _ _ _ _
      have hi9 : InV (((((W7.setCell ⟨X7, 0, none⟩ (.int .i64 r.kd)).setCell ⟨X7, 1, none⟩ (.int .i64 r.nm)).setCell ⟨X7, 2, none⟩ (.string ⟨r.tx.toArray⟩)).setCell ⟨X7, 3, none⟩ (.slice C r.ls.length f)).setCell ⟨X7, 4, none⟩ (.slice C' r.ms.length f')) (Lo (((((W7.setCell ⟨X7, 0, none⟩ (.int .i64 r.kd)).setCell ⟨X7, 1, none⟩ (.int .i64 r.nm)).setCell ⟨X7, 2, none⟩ (.string ⟨r.tx.toArray⟩)).setCell ⟨X7, 3, none⟩ (.slice C r.ls.length f)).setCell ⟨X7, 4, none⟩ (.slice C' r.ms.length f')).heap.size) r (vA r C f C' f') := (((HI.out.keep (HWZ.out _ HF1.out) HH7.out).map (fun b hb => hb) (fun b o hb => (st5_frx W7 X7 _ _ _ _ _).cell (Nat.lt_of_lt_of_le hb (HWZ.out _ HF7.out)) (by have : b < w.heap.size := hb; have := HWR.out; have := HX7.out; omega)))).more (fun b hb => Nat.lt_of_lt_of_le hb (HWZ.out _ hf9))
      clear z0 z1 z2 z3 z4 zf0 zf1 zf2 zf3 zf4
      generalize (((((W7.setCell ⟨X7, 0, none⟩ (.int .i64 r.kd)).setCell ⟨X7, 1, none⟩ (.int .i64 r.nm)).setCell ⟨X7, 2, none⟩ (.string ⟨r.tx.toArray⟩)).setCell ⟨X7, 3, none⟩ (.slice C r.ls.length f)).setCell ⟨X7, 4, none⟩ (.slice C' r.ms.length f')) = W9 at hb9 hf9 hi9 ⊢
      have HB9 := Lib.hid hb9
      have HF9 := Lib.hid hf9
      have HI9 := Lib.hid hi9
      clear hb9 hf9 hi9
      repeat (first | go_skip | go_step)
      go_meet
      exact ⟨X7, C, f, C', f', rfl, rfl, HX7, HB9, HI9, HF9⟩
     ·go_simp
      refine hK.out _ _ (HSW.out _ ((Fr.refl wr).drew.alloc _)) (fun hH2 => ?_)
      clear hK K
      try simp only [Act.put, fl]
      refine wpAnyH_ready (rs := [7]) (by kernel_rfl) (by simp) ?_
      refine AllReadyH.cons rfl (fun K hK => ?_) AllReadyH.nil
      go_simp
      (go_at_call 16; refine (HGT.out _ ((Fr.refl wr).drew.alloc _)).mono ?_; rintro e w1 ⟨C, f, C', f', rfl, hi, hf⟩; have HI := Lib.hid hi; clear hi; have HF7 : Hid (Fr wr w1) := Lib.hid (((Fr.refl wr).drew.alloc _).trans hf); have HB7 : Hid (Blk w1 wr.heap.size #[.int .i64 0, .int .i64 0, .string ⟨#[]⟩, .slice none 0 0, .slice none 0 0] 25) := Lib.hid ((Blk.made wr.drew _ _).keep hf); have HX7 : Hid (wr.heap.size ≤ wr.heap.size) := Lib.hid (Nat.le_refl _); have HH7 : Hid (Fr w1 w1) := Lib.hid (Fr.refl w1); clear hf)
      refine hK.out _ _ (HSW.out _ HF7.out) (fun hH3 => ?_)
      clear hK K
      try simp only [Act.put, fl]
      refine tk (i := 8) (v := ?_) rfl ⟨by rfl, ?_⟩ hH3 ?_
      rotate_left
      ·(intro w' hSw; (try dsimp only at hSw); go_simp; try with_reducible rfl)
      try simp only [Act.put, fl]
      refine tk (i := 9) (v := ?_) rfl ⟨by rfl, ?_⟩ hH3 ?_
      rotate_left
      ·(intro w' hSw; (try dsimp only at hSw); go_simp; try with_reducible rfl)
      try simp only [Act.put, fl]
      refine tk (i := 10) (v := ?_) rfl ⟨by rfl, ?_⟩ hH3 ?_
      rotate_left
      ·(intro w' hSw; (try dsimp only at hSw); go_simp; try with_reducible rfl)
      try simp only [Act.put, fl]
      obtain ⟨⟨z0, z1, z2, z3, z4⟩, zf0, zf1, zf2, zf3, zf4⟩ := box5 HB7.out
      refine wpAnyH_ready (rs := [12]) (by kernel_rfl) (by simp) ?_
      refine AllReadyH.cons rfl (fun K hK => ?_) AllReadyH.nil
      go_simp
      refine hK.out _ _ (HSW.out _ (st5_fr HF7.out HX7.out _ _ _ _ _)) (fun hH5 => ?_)
      clear hK K
      try simp only [Act.put, fl]
      refine tk (i := 13) (v := ?_) rfl ⟨by rfl, ?_⟩ hH5 ?_
      rotate_left
      ·(intro w' hSw; (try dsimp only at hSw); go_simp; try with_reducible rfl)
      try simp only [Act.put, fl]
      refine wpAnyH_done (by kernel_rfl) ?_ _
      have hb9 : Blk (((((w1.setCell ⟨wr.heap.size, 0, none⟩ (.int .i64 r.kd)).setCell ⟨wr.heap.size, 1, none⟩ (.int .i64 r.nm)).setCell ⟨wr.heap.size, 2, none⟩ (.string ⟨r.tx.toArray⟩)).setCell ⟨wr.heap.size, 3, none⟩ (.slice C r.ls.length f)).setCell ⟨wr.heap.size, 4, none⟩ (.slice C' r.ms.length f')) wr.heap.size #[.int .i64 r.kd, .int .i64 r.nm, .string ⟨r.tx.toArray⟩, .slice C r.ls.length f, .slice C' r.ms.length f'] 25 := set5 HB7.out
      have hf9 : Fr wr (((((w1.setCell ⟨wr.heap.size, 0, none⟩ (.int .i64 r.kd)).setCell ⟨wr.heap.size, 1, none⟩ (.int .i64 r.nm)).setCell ⟨wr.heap.size, 2, none⟩ (.string ⟨r.tx.toArray⟩)).setCell ⟨wr.heap.size, 3, none⟩ (.slice C r.ls.length f)).setCell ⟨wr.heap.size, 4, none⟩ (.slice C' r.ms.length f')) := st5_fr HF7.out HX7.out _ _ _ _ _
      have hi9 : InV (((((w1.setCell ⟨wr.heap.size, 0, none⟩ (.int .i64 r.kd)).setCell ⟨wr.heap.size, 1, none⟩ (.int .i64 r.nm)).setCell ⟨wr.heap.size, 2, none⟩ (.string ⟨r.tx.toArray⟩)).setCell ⟨wr.heap.size, 3, none⟩ (.slice C r.ls.length f)).setCell ⟨wr.heap.size, 4, none⟩ (.slice C' r.ms.length f')) (Lo (((((w1.setCell ⟨wr.heap.size, 0, none⟩ (.int .i64 r.kd)).setCell ⟨wr.heap.size, 1, none⟩ (.int .i64 r.nm)).setCell ⟨wr.heap.size, 2, none⟩ (.string ⟨r.tx.toArray⟩)).setCell ⟨wr.heap.size, 3, none⟩ (.slice C r.ls.length f)).setCell ⟨wr.heap.size, 4, none⟩ (.slice C' r.ms.length f')).heap.size) r (vA r C f C' f') := (((HI.out.keep (HWZ.out _ HF7.out) HH7.out).map (fun b hb => hb) (fun b o hb => (st5_frx w1 wr.heap.size _ _ _ _ _).cell (Nat.lt_of_lt_of_le hb (HWZ.out _ HF7.out)) (by have : b < w.heap.size := hb; have := HWR.out; have := HX7.out; omega)))).more (fun b hb => Nat.lt_of_lt_of_le hb (HWZ.out _ hf9))
      clear z0 z1 z2 z3 z4 zf0 zf1 zf2 zf3 zf4
      generalize (((((w1.setCell ⟨wr.heap.size, 0, none⟩ (.int .i64 r.kd)).setCell ⟨wr.heap.size, 1, none⟩ (.int .i64 r.nm)).setCell ⟨wr.heap.size, 2, none⟩ (.string ⟨r.tx.toArray⟩)).setCell ⟨wr.heap.size, 3, none⟩ (.slice C r.ls.length f)).setCell ⟨wr.heap.size, 4, none⟩ (.slice C' r.ms.length f')) = W9 at hb9 hf9 hi9 ⊢
      have HB9 := Lib.hid hb9
      have HF9 := Lib.hid hf9
      have HI9 := Lib.hid hi9
      clear hb9 hf9 hi9
      repeat (first | go_skip | go_step)
      go_meet
      exact ⟨wr.heap.size, C, f, C', f', rfl, rfl, HX7, HB9, HI9, HF9⟩
    obtain ⟨X7, C, f, C', f', rfl, rfl, hX7, hB9, hI9, hF9⟩ := hcut
    obtain ⟨W9, hW9⟩ : ∃ W, W = wc := ⟨wc, rfl⟩
    subst hW9
    have HSX : Hid (∀ W, Fr W9 W → W.cell? ⟨X3, 4, none⟩ = some (.slice (some ⟨bE, oE, none⟩) 4 g) ∧ W.cell? ⟨bE, oE, none⟩ = some (.string ⟨nm.toArray⟩) ∧ W.cell? ⟨bE, oE + 1, none⟩ = some (.int .i64 u.kd) ∧ W.cell? ⟨bE, oE + 1 + 1, none⟩ = some (.int .i64 u.nm) ∧ W.cell? ⟨bE, oE + 1 + 2, none⟩ = some (.string ⟨u.tx.toArray⟩) ∧ W.cell? ⟨bE, oE + 1 + 3, none⟩ = some (.slice P u.ls.length p) ∧ W.cell? ⟨bE, oE + 1 + 4, none⟩ = some (.slice P' u.ms.length p') ∧ W.cell? ⟨X7, 0, none⟩ = some (.int .i64 r.kd) ∧ W.cell? ⟨X7, 1, none⟩ = some (.int .i64 r.nm) ∧ W.cell? ⟨X7, 2, none⟩ = some (.string ⟨r.tx.toArray⟩) ∧ W.cell? ⟨X7, 3, none⟩ = some (.slice C r.ls.length f) ∧ W.cell? ⟨X7, 4, none⟩ = some (.slice C' r.ms.length f')) := Lib.hid (fun W hW => by
     have a := HB3R.out.keep (hF9.out.trans hW)
     have b := hB9.out.keep hW
     have k : ∀ o, W.cell? ⟨bE, o, none⟩ = wr.cell? ⟨bE, o, none⟩ := fun o => (hF9.out.trans hW).cell HBE.out
     exact ⟨a.cell 4, (k _).trans HMC.out.1, (k _).trans HMC.out.2.1, (k _).trans HMC.out.2.2.1, (k _).trans HMC.out.2.2.2.1, (k _).trans HMC.out.2.2.2.2.1, (k _).trans HMC.out.2.2.2.2.2, b.cell 0, b.cell 1, b.cell 2, b.cell 3, b.cell 4⟩)
    cases bb
    ·go_upto_region 10 with fail
     refine wp_region_held_drew (S := (fun W => W.cell? ⟨X3, 4, none⟩ = some (.slice (some ⟨bE, oE, none⟩) 4 g) ∧ W.cell? ⟨bE, oE, none⟩ = some (.string ⟨nm.toArray⟩) ∧ W.cell? ⟨bE, oE + 1, none⟩ = some (.int .i64 u.kd) ∧ W.cell? ⟨bE, oE + 1 + 1, none⟩ = some (.int .i64 u.nm) ∧ W.cell? ⟨bE, oE + 1 + 2, none⟩ = some (.string ⟨u.tx.toArray⟩) ∧ W.cell? ⟨bE, oE + 1 + 3, none⟩ = some (.slice P u.ls.length p) ∧ W.cell? ⟨bE, oE + 1 + 4, none⟩ = some (.slice P' u.ms.length p') ∧ W.cell? ⟨X7, 0, none⟩ = some (.int .i64 r.kd) ∧ W.cell? ⟨X7, 1, none⟩ = some (.int .i64 r.nm) ∧ W.cell? ⟨X7, 2, none⟩ = some (.string ⟨r.tx.toArray⟩) ∧ W.cell? ⟨X7, 3, none⟩ = some (.slice C r.ls.length f) ∧ W.cell? ⟨X7, 4, none⟩ = some (.slice C' r.ms.length f'))) (by kernel_rfl) ?_ (fun hHeld => ?_)
     ·exact HSX.out _ (Fr.refl _).drew
     refine tk (i := 0) (v := ?_) rfl ⟨by rfl, ?_⟩ hHeld ?_
     rotate_left
     ·(intro w' hSw; (try dsimp only at hSw); go_simp; try with_reducible rfl)
     try simp only [Act.put, fl]
     refine tk (i := 1) (v := ?_) rfl ⟨by rfl, ?_⟩ hHeld ?_
     rotate_left
     ·(intro w' hSw; (try dsimp only at hSw); go_simp; try with_reducible rfl)
     try simp only [Act.put, fl]
     refine tk (i := 2) (v := ?_) rfl ⟨by rfl, ?_⟩ hHeld ?_
     rotate_left
     ·(intro w' hSw; (try dsimp only at hSw); go_simp; try with_reducible rfl)
     try simp only [Act.put, fl]
     refine wpAnyH_take (i := 3) (v := undef) rfl (by kernel_rfl) (by kernel_rfl) (by kernel_rfl) (fun _ _ _ h => h) (Or.inr ⟨by rfl, rfl⟩) hHeld ?_
     try simp only [Act.put, fl]
     refine wpAnyH_take (i := 4) (v := undef) rfl (by kernel_rfl) (by kernel_rfl) (by kernel_rfl) (fun _ _ _ h => h) (Or.inr ⟨by rfl, rfl⟩) hHeld ?_
     try simp only [Act.put, fl]
     refine wpAnyH_take (i := 5) (v := undef) rfl (by kernel_rfl) (by kernel_rfl) (by kernel_rfl) (fun _ _ _ h => h) (Or.inr ⟨by rfl, rfl⟩) hHeld ?_
     try simp only [Act.put, fl]
     refine wpAnyH_take (i := 6) (v := undef) rfl (by kernel_rfl) (by kernel_rfl) (by kernel_rfl) (fun _ _ _ h => h) (Or.inr ⟨by rfl, rfl⟩) hHeld ?_
     try simp only [Act.put, fl]
     refine wpAnyH_take (i := 7) (v := undef) rfl (by kernel_rfl) (by kernel_rfl) (by kernel_rfl) (fun _ _ _ h => h) (Or.inr ⟨by rfl, rfl⟩) hHeld ?_
     try simp only [Act.put, fl]
     refine wpAnyH_take (i := 8) (v := undef) rfl (by kernel_rfl) (by kernel_rfl) (by kernel_rfl) (fun _ _ _ h => h) (Or.inr ⟨by rfl, rfl⟩) hHeld ?_
     try simp only [Act.put, fl]
     refine wpAnyH_take (i := 9) (v := undef) rfl (by kernel_rfl) (by kernel_rfl) (by kernel_rfl) (fun _ _ _ h => h) (Or.inr ⟨by rfl, rfl⟩) hHeld ?_
     try simp only [Act.put, fl]
     refine wpAnyH_take (i := 10) (v := undef) rfl (by kernel_rfl) (by kernel_rfl) (by kernel_rfl) (fun _ _ _ h => h) (Or.inr ⟨by rfl, rfl⟩) hHeld ?_
     try simp only [Act.put, fl]
     refine wpAnyH_take (i := 11) (v := undef) rfl (by kernel_rfl) (by kernel_rfl) (by kernel_rfl) (fun _ _ _ h => h) (Or.inr ⟨by rfl, rfl⟩) hHeld ?_
     try simp only [Act.put, fl]
     refine wpAnyH_take (i := 12) (v := undef) rfl (by kernel_rfl) (by kernel_rfl) (by kernel_rfl) (fun _ _ _ h => h) (Or.inr ⟨by rfl, rfl⟩) hHeld ?_
     try simp only [Act.put, fl]
     refine wpAnyH_take (i := 13) (v := undef) rfl (by kernel_rfl) (by kernel_rfl) (by kernel_rfl) (fun _ _ _ h => h) (Or.inr ⟨by rfl, rfl⟩) hHeld ?_
     try simp only [Act.put, fl]
     refine wpAnyH_take (i := 14) (v := undef) rfl (by kernel_rfl) (by kernel_rfl) (by kernel_rfl) (fun _ _ _ h => h) (Or.inr ⟨by rfl, rfl⟩) hHeld ?_
     try simp only [Act.put, fl]
     refine wpAnyH_take (i := 15) (v := undef) rfl (by kernel_rfl) (by kernel_rfl) (by kernel_rfl) (fun _ _ _ h => h) (Or.inr ⟨by rfl, rfl⟩) hHeld ?_
     try simp only [Act.put, fl]
     refine wpAnyH_take (i := 16) (v := undef) rfl (by kernel_rfl) (by kernel_rfl) (by kernel_rfl) (fun _ _ _ h => h) (Or.inr ⟨by rfl, rfl⟩) hHeld ?_
     try simp only [Act.put, fl]
     refine tk (i := 17) (v := ?_) rfl ⟨by rfl, ?_⟩ hHeld ?_
     rotate_left
     ·(intro w' hSw; (try dsimp only at hSw); go_simp; try with_reducible rfl)
     try simp only [Act.put, fl]
     refine tk (i := 18) (v := ?_) rfl ⟨by rfl, ?_⟩ hHeld ?_
     rotate_left
     ·(intro w' hSw; (try dsimp only at hSw); go_simp; try with_reducible rfl)
     try simp only [Act.put, fl]
     refine tk (i := 19) (v := ?_) rfl ⟨by rfl, ?_⟩ hHeld ?_
     rotate_left
     ·(intro w' hSw; (try dsimp only at hSw); go_simp; try with_reducible rfl)
     try simp only [Act.put, fl]
     refine tk (i := 20) (v := ?_) rfl ⟨by rfl, ?_⟩ hHeld ?_
     rotate_left
     ·(intro w' hSw; (try dsimp only at hSw); go_simp; try with_reducible rfl)
     try simp only [Act.put, fl]
     refine wpAnyH_take (i := 21) (v := undef) rfl (by kernel_rfl) (by kernel_rfl) (by kernel_rfl) (fun _ _ _ h => h) (Or.inr ⟨by rfl, rfl⟩) hHeld ?_
     try simp only [Act.put, fl]
     refine wpAnyH_take (i := 22) (v := undef) rfl (by kernel_rfl) (by kernel_rfl) (by kernel_rfl) (fun _ _ _ h => h) (Or.inr ⟨by rfl, rfl⟩) hHeld ?_
     try simp only [Act.put, fl]
     refine wpAnyH_take (i := 23) (v := undef) rfl (by kernel_rfl) (by kernel_rfl) (by kernel_rfl) (fun _ _ _ h => h) (Or.inr ⟨by rfl, rfl⟩) hHeld ?_
     try simp only [Act.put, fl]
     refine wpAnyH_take (i := 24) (v := undef) rfl (by kernel_rfl) (by kernel_rfl) (by kernel_rfl) (fun _ _ _ h => h) (Or.inr ⟨by rfl, rfl⟩) hHeld ?_
     try simp only [Act.put, fl]
     refine wpAnyH_take (i := 25) (v := undef) rfl (by kernel_rfl) (by kernel_rfl) (by kernel_rfl) (fun _ _ _ h => h) (Or.inr ⟨by rfl, rfl⟩) hHeld ?_
     try simp only [Act.put, fl]
     refine wpAnyH_take (i := 26) (v := undef) rfl (by kernel_rfl) (by kernel_rfl) (by kernel_rfl) (fun _ _ _ h => h) (Or.inr ⟨by rfl, rfl⟩) hHeld ?_
     try simp only [Act.put, fl]
     refine wpAnyH_take (i := 27) (v := undef) rfl (by kernel_rfl) (by kernel_rfl) (by kernel_rfl) (fun _ _ _ h => h) (Or.inr ⟨by rfl, rfl⟩) hHeld ?_
     try simp only [Act.put, fl]
     refine wpAnyH_take (i := 28) (v := undef) rfl (by kernel_rfl) (by kernel_rfl) (by kernel_rfl) (fun _ _ _ h => h) (Or.inr ⟨by rfl, rfl⟩) hHeld ?_
     try simp only [Act.put, fl]
     refine wpAnyH_take (i := 29) (v := undef) rfl (by kernel_rfl) (by kernel_rfl) (by kernel_rfl) (fun _ _ _ h => h) (Or.inr ⟨by rfl, rfl⟩) hHeld ?_
     try simp only [Act.put, fl]
     refine tk (i := 30) (v := ?_) rfl ⟨by rfl, ?_⟩ hHeld ?_
     rotate_left
     ·(intro w' hSw; (try dsimp only at hSw); go_simp; try with_reducible rfl)
     try simp only [Act.put, fl]
     refine tk (i := 31) (v := ?_) rfl ⟨by rfl, ?_⟩ hHeld ?_
     rotate_left
     ·(intro w' hSw; (try dsimp only at hSw); go_simp; try with_reducible rfl)
     try simp only [Act.put, fl]
     refine wpAnyH_done (by kernel_rfl) ?_ _
     go_wp2_with fail
     exact ⟨⟨0 + 1, by omega, by go_num, Lib.hid (hF.out.trans (hF9.out.drew))⟩, by simp [intOf] <;> omega⟩
    ·have hru : r = u := by rcases HRB.out with ⟨_, h⟩ | ⟨h, _⟩; exact h; cases h
     have HJK : Hid (∀ W, Fr W9 W → InV W (Lo W.heap.size) u (vA u C f C' f')) := Lib.hid (fun W hW => by rw [← hru]; exact (hI9.out.keep (Nat.le_refl _) hW).lo hW.size)
     have HUK : Hid (∀ W, Fr W9 W → InV W (Lo W.heap.size) u (vA u P p P' p')) := Lib.hid (fun W hW => (HUI.out.keep (Nat.le_refl _) (hF9.out.trans hW)).lo (hF9.out.trans hW).size)
     rw [hru] at HSX
     clear hru
     go_upto_region 10 with fail
     refine wp_region_held_drew (S := (fun W => W.cell? ⟨X3, 4, none⟩ = some (.slice (some ⟨bE, oE, none⟩) 4 g) ∧ W.cell? ⟨bE, oE, none⟩ = some (.string ⟨nm.toArray⟩) ∧ W.cell? ⟨bE, oE + 1, none⟩ = some (.int .i64 u.kd) ∧ W.cell? ⟨bE, oE + 1 + 1, none⟩ = some (.int .i64 u.nm) ∧ W.cell? ⟨bE, oE + 1 + 2, none⟩ = some (.string ⟨u.tx.toArray⟩) ∧ W.cell? ⟨bE, oE + 1 + 3, none⟩ = some (.slice P u.ls.length p) ∧ W.cell? ⟨bE, oE + 1 + 4, none⟩ = some (.slice P' u.ms.length p') ∧ W.cell? ⟨X7, 0, none⟩ = some (.int .i64 u.kd) ∧ W.cell? ⟨X7, 1, none⟩ = some (.int .i64 u.nm) ∧ W.cell? ⟨X7, 2, none⟩ = some (.string ⟨u.tx.toArray⟩) ∧ W.cell? ⟨X7, 3, none⟩ = some (.slice C u.ls.length f) ∧ W.cell? ⟨X7, 4, none⟩ = some (.slice C' u.ms.length f'))) (by kernel_rfl) ?_ (fun hHeld => ?_)
     ·exact HSX.out _ (Fr.refl _).drew
     refine tk (i := 0) (v := ?_) rfl ⟨by rfl, ?_⟩ hHeld ?_
     rotate_left
     ·(intro w' hSw; (try dsimp only at hSw); go_simp; try with_reducible rfl)
     try simp only [Act.put, fl]
     refine tk (i := 1) (v := ?_) rfl ⟨by rfl, ?_⟩ hHeld ?_
     rotate_left
     ·(intro w' hSw; (try dsimp only at hSw); go_simp; try with_reducible rfl)
     try simp only [Act.put, fl]
     refine tk (i := 2) (v := ?_) rfl ⟨by rfl, ?_⟩ hHeld ?_
     rotate_left
     ·(intro w' hSw; (try dsimp only at hSw); go_simp; try with_reducible rfl)
     try simp only [Act.put, fl]
     refine wpAnyH_take (i := 3) (v := undef) rfl (by kernel_rfl) (by kernel_rfl) (by kernel_rfl) (fun _ _ _ h => h) (Or.inr ⟨by rfl, rfl⟩) hHeld ?_
     try simp only [Act.put, fl]
     refine wpAnyH_take (i := 4) (v := undef) rfl (by kernel_rfl) (by kernel_rfl) (by kernel_rfl) (fun _ _ _ h => h) (Or.inr ⟨by rfl, rfl⟩) hHeld ?_
     try simp only [Act.put, fl]
     refine wpAnyH_take (i := 5) (v := undef) rfl (by kernel_rfl) (by kernel_rfl) (by kernel_rfl) (fun _ _ _ h => h) (Or.inr ⟨by rfl, rfl⟩) hHeld ?_
     try simp only [Act.put, fl]
     refine wpAnyH_take (i := 6) (v := undef) rfl (by kernel_rfl) (by kernel_rfl) (by kernel_rfl) (fun _ _ _ h => h) (Or.inr ⟨by rfl, rfl⟩) hHeld ?_
     try simp only [Act.put, fl]
     refine wpAnyH_take (i := 7) (v := undef) rfl (by kernel_rfl) (by kernel_rfl) (by kernel_rfl) (fun _ _ _ h => h) (Or.inr ⟨by rfl, rfl⟩) hHeld ?_
     try simp only [Act.put, fl]
     refine wpAnyH_take (i := 8) (v := undef) rfl (by kernel_rfl) (by kernel_rfl) (by kernel_rfl) (fun _ _ _ h => h) (Or.inr ⟨by rfl, rfl⟩) hHeld ?_
     try simp only [Act.put, fl]
     refine wpAnyH_take (i := 9) (v := undef) rfl (by kernel_rfl) (by kernel_rfl) (by kernel_rfl) (fun _ _ _ h => h) (Or.inr ⟨by rfl, rfl⟩) hHeld ?_
     try simp only [Act.put, fl]
     refine wpAnyH_take (i := 10) (v := undef) rfl (by kernel_rfl) (by kernel_rfl) (by kernel_rfl) (fun _ _ _ h => h) (Or.inr ⟨by rfl, rfl⟩) hHeld ?_
     try simp only [Act.put, fl]
     refine wpAnyH_take (i := 11) (v := undef) rfl (by kernel_rfl) (by kernel_rfl) (by kernel_rfl) (fun _ _ _ h => h) (Or.inr ⟨by rfl, rfl⟩) hHeld ?_
     try simp only [Act.put, fl]
     refine wpAnyH_take (i := 12) (v := undef) rfl (by kernel_rfl) (by kernel_rfl) (by kernel_rfl) (fun _ _ _ h => h) (Or.inr ⟨by rfl, rfl⟩) hHeld ?_
     try simp only [Act.put, fl]
     refine wpAnyH_take (i := 13) (v := undef) rfl (by kernel_rfl) (by kernel_rfl) (by kernel_rfl) (fun _ _ _ h => h) (Or.inr ⟨by rfl, rfl⟩) hHeld ?_
     try simp only [Act.put, fl]
     refine wpAnyH_take (i := 14) (v := undef) rfl (by kernel_rfl) (by kernel_rfl) (by kernel_rfl) (fun _ _ _ h => h) (Or.inr ⟨by rfl, rfl⟩) hHeld ?_
     try simp only [Act.put, fl]
     refine wpAnyH_take (i := 15) (v := undef) rfl (by kernel_rfl) (by kernel_rfl) (by kernel_rfl) (fun _ _ _ h => h) (Or.inr ⟨by rfl, rfl⟩) hHeld ?_
     try simp only [Act.put, fl]
     refine wpAnyH_take (i := 16) (v := undef) rfl (by kernel_rfl) (by kernel_rfl) (by kernel_rfl) (fun _ _ _ h => h) (Or.inr ⟨by rfl, rfl⟩) hHeld ?_
     try simp only [Act.put, fl]
     refine tk (i := 17) (v := ?_) rfl ⟨by rfl, ?_⟩ hHeld ?_
     rotate_left
     ·(intro w' hSw; (try dsimp only at hSw); go_simp; try with_reducible rfl)
     try simp only [Act.put, fl]
     refine tk (i := 18) (v := ?_) rfl ⟨by rfl, ?_⟩ hHeld ?_
     rotate_left
     ·(intro w' hSw; (try dsimp only at hSw); go_simp; try with_reducible rfl)
     try simp only [Act.put, fl]
     refine tk (i := 19) (v := ?_) rfl ⟨by rfl, ?_⟩ hHeld ?_
     rotate_left
     ·(intro w' hSw; (try dsimp only at hSw); go_simp; try with_reducible rfl)
     try simp only [Act.put, fl]
     refine tk (i := 20) (v := ?_) rfl ⟨by rfl, ?_⟩ hHeld ?_
     rotate_left
     ·(intro w' hSw; (try dsimp only at hSw); go_simp; try with_reducible rfl)
     try simp only [Act.put, fl]
     refine tk (i := 21) (v := ?_) rfl ⟨by rfl, ?_⟩ hHeld ?_
     rotate_left
     ·(intro w' hSw; (try dsimp only at hSw); go_simp; try with_reducible rfl)
     try simp only [Act.put, fl]
     refine tk (i := 22) (v := ?_) rfl ⟨by rfl, ?_⟩ hHeld ?_
     rotate_left
     ·(intro w' hSw; (try dsimp only at hSw); go_simp; try with_reducible rfl)
     try simp only [Act.put, fl]
     refine tk (i := 23) (v := ?_) rfl ⟨by rfl, ?_⟩ hHeld ?_
     rotate_left
     ·(intro w' hSw; (try dsimp only at hSw); go_simp; try with_reducible rfl)
     try simp only [Act.put, fl]
     refine tk (i := 24) (v := ?_) rfl ⟨by rfl, ?_⟩ hHeld ?_
     rotate_left
     ·(intro w' hSw; (try dsimp only at hSw); go_simp; try with_reducible rfl)
     try simp only [Act.put, fl]
     refine tk (i := 25) (v := ?_) rfl ⟨by rfl, ?_⟩ hHeld ?_
     rotate_left
     ·(intro w' hSw; (try dsimp only at hSw); go_simp; try with_reducible rfl)
     try simp only [Act.put, fl]
     refine tk (i := 26) (v := ?_) rfl ⟨by rfl, ?_⟩ hHeld ?_
     rotate_left
     ·(intro w' hSw; (try dsimp only at hSw); go_simp; try with_reducible rfl)
     try simp only [Act.put, fl]
     refine tk (i := 27) (v := ?_) rfl ⟨by rfl, ?_⟩ hHeld ?_
     rotate_left
     ·(intro w' hSw; (try dsimp only at hSw); go_simp; try with_reducible rfl)
     try simp only [Act.put, fl]
     refine wpAnyH_ready (rs := [28]) (by kernel_rfl) (by simp) ?_
     refine AllReadyH.cons rfl (fun K hK => ?_) AllReadyH.nil
     go_simp
     (go_at_call 13; refine ((same_is u u _ _).call true (by simp) ?sx1 ?sx2 (HJK.out _ (Fr.refl W9).drew) (HUK.out _ (Fr.refl W9).drew)).mono ?_; (case sx1 => rfl); (case sx2 => rfl); rintro e w8 ⟨rfl, hf⟩; have HG8 : Hid (Fr W9 w8) := Lib.hid ((Fr.refl W9).drew.trans hf); clear hf)
     try (refine hK.out _ _ ?_ (fun hHeld2 => ?_))
     ·exact HSX.out _ HG8.out
     clear hK K
     try simp only [Act.put, fl]
     refine tk (i := 29) (v := ?_) rfl ⟨by rfl, ?_⟩ hHeld2 ?_
     rotate_left
     ·(intro w' hSw; (try dsimp only at hSw); go_simp; try with_reducible rfl)
     try simp only [Act.put, fl]
     refine tk (i := 30) (v := ?_) rfl ⟨by rfl, ?_⟩ hHeld2 ?_
     rotate_left
     ·(intro w' hSw; (try dsimp only at hSw); go_simp; try with_reducible rfl)
     try simp only [Act.put, fl]
     refine tk (i := 31) (v := ?_) rfl ⟨by rfl, ?_⟩ hHeld2 ?_
     rotate_left
     ·(intro w' hSw; (try dsimp only at hSw); go_simp; try with_reducible rfl)
     try simp only [Act.put, fl]
     refine wpAnyH_done (by kernel_rfl) ?_ _
     go_wp2_with fail
     exact ⟨⟨0 + 1, by omega, by go_num, Lib.hid (hF.out.trans (hF9.out.trans HG8.out))⟩, by simp [intOf] <;> omega⟩
   ·by_cases h3 : k = 3
    ·subst h3
     obtain rfl : u4 = .int .i64 4 := hj
     go_wp2_with fail
     go_ret
     exact ⟨rfl, HWF.out⟩
    ·obtain rfl : u4 = .int .i64 ((k : Int) + 1) := hj
     have hk3 : k + 1 < 4 := by omega
     have hk3' : (k : Int) + 1 < 4 := by omega
     have hk4' : (k : Int) < 4 := by omega
     have hk0' : (0 : Int) < (k : Int) + 1 := by omega
     have hk9' : (0 : Int) ≤ (k : Int) + 1 := by omega
     have hk8' : (0 : Int) ≤ (k : Int) := by omega
     have wk : IntKind.i64.wrap (k : Int) = (k : Int) := by rw [IntKind.wrap_i64]; omega
     obtain ⟨b, o, P, p, P', p', hbo, hb, hnl, m0, ⟨m1, m2, m3, m4, m5⟩, hui⟩ := (HMS5.out.keep (Nat.le_refl _) hF.out) (k + 1) (by rw [HWM.out]; omega)
     have hbo2 : bE = b ∧ oE = o := by injection hbo with hbo; injection hbo with h1 h2 _; exact ⟨h1, h2⟩
     obtain ⟨rfl, rfl⟩ := hbo2
     obtain ⟨nm, u, hpu⟩ : ∃ nm u, wm[k + 1]'(by rw [HWM.out]; omega) = (nm, u) := ⟨_, _, rfl⟩
     rw [hpu] at m0 m1 m2 m3 m4 m5 hui
     have hnmi := HNV.out (k + 1) nm u ((List.getElem?_eq_getElem _).trans (congrArg some hpu))
     have HMC : Hid (wr.cell? ⟨bE, oE + (k + 1) * 6, none⟩ = some (.string ⟨nm.toArray⟩) ∧ wr.cell? ⟨bE, oE + (k + 1) * 6 + 1, none⟩ = some (.int .i64 u.kd) ∧ wr.cell? ⟨bE, oE + (k + 1) * 6 + 1 + 1, none⟩ = some (.int .i64 u.nm) ∧ wr.cell? ⟨bE, oE + (k + 1) * 6 + 1 + 2, none⟩ = some (.string ⟨u.tx.toArray⟩) ∧ wr.cell? ⟨bE, oE + (k + 1) * 6 + 1 + 3, none⟩ = some (.slice P u.ls.length p) ∧ wr.cell? ⟨bE, oE + (k + 1) * 6 + 1 + 4, none⟩ = some (.slice P' u.ms.length p')) := Lib.hid ⟨m0, m1, m2, m3, m4, m5⟩
     have HUI : Hid (InV wr (Lo wr.heap.size) u (vA u P p P' p')) := Lib.hid (hui.more (fun b hb => Nat.lt_of_lt_of_le hb hF.out.size))
     have HBE : Hid (bE < wr.heap.size) := Lib.hid (Nat.lt_of_lt_of_le hb hF.out.size)
     obtain ⟨r, bb, hrb, hge⟩ : ∃ (r : JV) (bb : Bool), ((bb = true ∧ r = u) ∨ (bb = false ∧ r = JV.zeroV)) ∧ ((bb = true ∧ Pt.get v nm = some r) ∨ (bb = false ∧ Pt.get v nm = none ∧ r = JV.zeroV)) := by
      cases hg : Pt.get v nm with
      | none => exact ⟨_, _, .inr ⟨rfl, rfl⟩, .inr ⟨rfl, rfl, rfl⟩⟩
      | some y => exact ⟨y, _, .inl ⟨rfl, by rw [hnmi.2, Bk.val_some hg.symm]⟩, .inl ⟨rfl, rfl⟩⟩
     have HGT : Hid (∀ W, Fr wr W → Calls Tryz.prog 16 #[.agg #[.int .i64 v.kd, .int .i64 v.nm, .string ⟨v.tx.toArray⟩, .slice A v.ls.length c0, .slice A' v.ms.length c0'], .string ⟨nm.toArray⟩] W fun e w' => ∃ (C : Option Addr) (f : Nat) (C' : Option Addr) (f' : Nat), e = .returned (.tuple #[.agg #[.int .i64 r.kd, .int .i64 r.nm, .string ⟨r.tx.toArray⟩, .slice C r.ls.length f, .slice C' r.ms.length f'], .bool bb]) ∧ InV w' (Lo w.heap.size) r (vA r C f C' f') ∧ Fr W w') := Lib.hid (fun W hW => by
      have h := get_is v A c0 A' c0' nm W w.heap.size (HWZ.out W hW) (HVV.out.keep (Nat.le_refl _) (HWF.out.trans hW))
      rcases hge with ⟨rfl, hg⟩ | ⟨rfl, hg, rfl⟩
      ·rw [hg] at h; exact h
      ·rw [hg] at h; exact h.mono (fun e w' k => ⟨none, 0, none, 0, k.1, zeroV_in _ _, k.2⟩))
     have HRB := Lib.hid hrb
     obtain ⟨b7, o7, _, _, _, _, hbo7, _, _, m7, _⟩ := (HMS5.out.keep (Nat.le_refl _) hF.out) k (by rw [HWM.out]; omega)
     have hbo8 : bE = b7 ∧ oE = o7 := by injection hbo7 with hbo7; injection hbo7 with h1 h2 _; exact ⟨h1, h2⟩
     obtain ⟨rfl, rfl⟩ := hbo8
     obtain ⟨np, up, hpp⟩ : ∃ np up, wm[k]'(by rw [HWM.out]; omega) = (np, up) := ⟨_, _, rfl⟩
     rw [hpp] at m7
     have HPC := Lib.hid m7
     have hless := nms_less k np nm (HNV.out k np up ((List.getElem?_eq_getElem _).trans (congrArg some hpp))).1 hnmi.1
     clear m7 hpp hbo7
     clear m0 m1 m2 m3 m4 m5 hui hbo hb hnl hpu hnmi hrb hge
     go_upto_region 9 with fail
     have HSW : Hid (∀ W, Fr wr W → W.cell? ⟨X1, 0, none⟩ = some (.int .i64 v.kd) ∧ W.cell? ⟨X1, 1, none⟩ = some (.int .i64 v.nm) ∧ W.cell? ⟨X1, 2, none⟩ = some (.string ⟨v.tx.toArray⟩) ∧ W.cell? ⟨X1, 3, none⟩ = some (.slice A v.ls.length c0) ∧ W.cell? ⟨X1, 4, none⟩ = some (.slice A' v.ms.length c0') ∧ W.cell? ⟨X3, 4, none⟩ = some (.slice (some ⟨bE, oE, none⟩) 4 g) ∧ W.cell? ⟨bE, oE + (k + 1) * 6, none⟩ = some (.string ⟨nm.toArray⟩)) := Lib.hid (fun W hW => by
      have a := HB1R.out.keep hW
      have b := HB3R.out.keep hW
      exact ⟨a.cell 0, a.cell 1, a.cell 2, a.cell 3, a.cell 4, b.cell 4, (hW.cell HBE.out).trans HMC.out.1⟩)
     go_cut [5, 6] from 45 to 55 (fun p q wx => ∃ (X7 : Nat) (C : Option Addr) (f : Nat) (C' : Option Addr) (f' : Nat), p = .pointer (some ⟨X7, 0, none⟩) ∧ q = .bool bb ∧ Hid (wr.heap.size ≤ X7) ∧ Hid (Blk wx X7 #[.int .i64 r.kd, .int .i64 r.nm, .string ⟨r.tx.toArray⟩, .slice C r.ls.length f, .slice C' r.ms.length f'] 25) ∧ Hid (InV wx (Lo wx.heap.size) r (vA r C f C' f')) ∧ Hid (Fr wr wx))
     case first =>
      refine wp_region_held_drew (S := (fun W => W.cell? ⟨X1, 0, none⟩ = some (.int .i64 v.kd) ∧ W.cell? ⟨X1, 1, none⟩ = some (.int .i64 v.nm) ∧ W.cell? ⟨X1, 2, none⟩ = some (.string ⟨v.tx.toArray⟩) ∧ W.cell? ⟨X1, 3, none⟩ = some (.slice A v.ls.length c0) ∧ W.cell? ⟨X1, 4, none⟩ = some (.slice A' v.ms.length c0') ∧ W.cell? ⟨X3, 4, none⟩ = some (.slice (some ⟨bE, oE, none⟩) 4 g) ∧ W.cell? ⟨bE, oE + (k + 1) * 6, none⟩ = some (.string ⟨nm.toArray⟩))) (by kernel_rfl) ?_ (fun hHeld => ?_)
      ·exact HSW.out _ (Fr.refl _).drew
      refine tk (i := 0) (v := ?_) rfl ⟨by rfl, ?_⟩ hHeld ?_
      rotate_left
      ·(intro w' hSw; (try dsimp only at hSw); go_simp; try with_reducible rfl)
      try simp only [Act.put, fl]
      refine tk (i := 1) (v := ?_) rfl ⟨by rfl, ?_⟩ hHeld ?_
      rotate_left
      ·(intro w' hSw; (try dsimp only at hSw); go_simp; try with_reducible rfl)
      try simp only [Act.put, fl]
      refine tk (i := 2) (v := ?_) rfl ⟨by rfl, ?_⟩ hHeld ?_
      rotate_left
      ·(intro w' hSw; (try dsimp only at hSw); go_simp; try with_reducible rfl)
      try simp only [Act.put, fl]
      refine tk (i := 3) (v := ?_) rfl ⟨by rfl, ?_⟩ hHeld ?_
      rotate_left
      ·(intro w' hSw; (try dsimp only at hSw); go_simp; try with_reducible rfl)
      try simp only [Act.put, fl]
      refine tk (i := 4) (v := ?_) rfl ⟨by rfl, ?_⟩ hHeld ?_
      rotate_left
      ·(intro w' hSw; (try dsimp only at hSw); go_simp; try with_reducible rfl)
      try simp only [Act.put, fl]
      refine tk (i := 5) (v := ?_) rfl ⟨by rfl, ?_⟩ hHeld ?_
      rotate_left
      ·(intro w' hSw; (try dsimp only at hSw); go_simp; try with_reducible rfl)
      try simp only [Act.put, fl]
      refine tk (i := 6) (v := ?_) rfl ⟨by rfl, ?_⟩ hHeld ?_
      rotate_left
      ·(intro w' hSw; (try dsimp only at hSw); go_simp; try with_reducible rfl)
      try simp only [Act.put, fl]
      refine wpAnyH_ready (rs := [7, 11]) (by kernel_rfl) (by simp) ?_
      refine AllReadyH.cons rfl (fun K hK => ?_) (AllReadyH.cons rfl (fun K hK => ?_) AllReadyH.nil)
      ·go_simp
       (go_at_call 16; refine (HGT.out _ (Fr.refl wr).drew).mono ?_; rintro e w1 ⟨C, f, C', f', rfl, hi, hf⟩; have HI := Lib.hid hi; clear hi; have HF1 : Hid (Fr wr w1) := Lib.hid ((Fr.refl wr).drew.trans hf); clear hf)
       refine hK.out _ _ (HSW.out _ HF1.out) (fun hH2 => ?_)
       clear hK K
       try simp only [Act.put, fl]
       refine tk (i := 8) (v := ?_) rfl ⟨by rfl, ?_⟩ hH2 ?_
       rotate_left
       ·(intro w' hSw; (try dsimp only at hSw); go_simp; try with_reducible rfl)
       try simp only [Act.put, fl]
       refine tk (i := 9) (v := ?_) rfl ⟨by rfl, ?_⟩ hH2 ?_
       rotate_left
       ·(intro w' hSw; (try dsimp only at hSw); go_simp; try with_reducible rfl)
       try simp only [Act.put, fl]
       refine tk (i := 10) (v := ?_) rfl ⟨by rfl, ?_⟩ hH2 ?_
       rotate_left
       ·(intro w' hSw; (try dsimp only at hSw); go_simp; try with_reducible rfl)
       try simp only [Act.put, fl]
       refine wpAnyH_ready (rs := [11]) (by kernel_rfl) (by simp) ?_
       refine AllReadyH.cons rfl (fun K hK => ?_) AllReadyH.nil
       go_simp
       refine hK.out _ _ (HSW.out _ (HF1.out.alloc _)) (fun hH3 => ?_)
       clear hK K
       try simp only [Act.put, fl]
       have HB7 : Hid (Blk (w1.alloc (.cells #[.int .i64 0, .int .i64 0, .string ⟨#[]⟩, .slice none 0 0, .slice none 0 0] 25)) w1.heap.size #[.int .i64 0, .int .i64 0, .string ⟨#[]⟩, .slice none 0 0, .slice none 0 0] 25) := Lib.hid (Blk.made w1 _ _)
       have HF7 : Hid (Fr wr (w1.alloc (.cells #[.int .i64 0, .int .i64 0, .string ⟨#[]⟩, .slice none 0 0, .slice none 0 0] 25))) := Lib.hid (HF1.out.alloc _)
       have HX7 : Hid (wr.heap.size ≤ w1.heap.size) := Lib.hid HF1.out.size
       have HH7 : Hid (Fr w1 (w1.alloc (.cells #[.int .i64 0, .int .i64 0, .string ⟨#[]⟩, .slice none 0 0, .slice none 0 0] 25))) := Lib.hid ((Fr.refl w1).alloc _)
       generalize (w1.alloc (.cells #[.int .i64 0, .int .i64 0, .string ⟨#[]⟩, .slice none 0 0, .slice none 0 0] 25)) = W7 at HB7 HF7 HH7 ⊢
       generalize w1.heap.size = X7 at HB7 HX7 ⊢
       obtain ⟨⟨z0, z1, z2, z3, z4⟩, zf0, zf1, zf2, zf3, zf4⟩ := box5 HB7.out
       refine wpAnyH_ready (rs := [12]) (by kernel_rfl) (by simp) ?_
       refine AllReadyH.cons rfl (fun K hK => ?_) AllReadyH.nil
       go_simp
       refine hK.out _ _ (HSW.out _ (st5_fr HF7.out HX7.out _ _ _ _ _)) (fun hH5 => ?_)
       clear hK K
       try simp only [Act.put, fl]
       refine tk (i := 13) (v := ?_) rfl ⟨by rfl, ?_⟩ hH5 ?_
       rotate_left
       ·(intro w' hSw; (try dsimp only at hSw); go_simp; try with_reducible rfl)
       try simp only [Act.put, fl]
       refine wpAnyH_done (by kernel_rfl) ?_ _
       have hb9 : Blk (((((W7.setCell ⟨X7, 0, none⟩ (.int .i64 r.kd)).setCell ⟨X7, 1, none⟩ (.int .i64 r.nm)).setCell ⟨X7, 2, none⟩ (.string ⟨r.tx.toArray⟩)).setCell ⟨X7, 3, none⟩ (.slice C r.ls.length f)).setCell ⟨X7, 4, none⟩ (.slice C' r.ms.length f')) X7 #[.int .i64 r.kd, .int .i64 r.nm, .string ⟨r.tx.toArray⟩, .slice C r.ls.length f, .slice C' r.ms.length f'] 25 := set5 HB7.out
       have hf9 : Fr wr (((((W7.setCell ⟨X7, 0, none⟩ (.int .i64 r.kd)).setCell ⟨X7, 1, none⟩ (.int .i64 r.nm)).setCell ⟨X7, 2, none⟩ (.string ⟨r.tx.toArray⟩)).setCell ⟨X7, 3, none⟩ (.slice C r.ls.length f)).setCell ⟨X7, 4, none⟩ (.slice C' r.ms.length f')) := st5_fr HF7.out HX7.out _ _ _ _ _
       have hi9 : InV (((((W7.setCell ⟨X7, 0, none⟩ (.int .i64 r.kd)).setCell ⟨X7, 1, none⟩ (.int .i64 r.nm)).setCell ⟨X7, 2, none⟩ (.string ⟨r.tx.toArray⟩)).setCell ⟨X7, 3, none⟩ (.slice C r.ls.length f)).setCell ⟨X7, 4, none⟩ (.slice C' r.ms.length f')) (Lo (((((W7.setCell ⟨X7, 0, none⟩ (.int .i64 r.kd)).setCell ⟨X7, 1, none⟩ (.int .i64 r.nm)).setCell ⟨X7, 2, none⟩ (.string ⟨r.tx.toArray⟩)).setCell ⟨X7, 3, none⟩ (.slice C r.ls.length f)).setCell ⟨X7, 4, none⟩ (.slice C' r.ms.length f')).heap.size) r (vA r C f C' f') := (((HI.out.keep (HWZ.out _ HF1.out) HH7.out).map (fun b hb => hb) (fun b o hb => (st5_frx W7 X7 _ _ _ _ _).cell (Nat.lt_of_lt_of_le hb (HWZ.out _ HF7.out)) (by have : b < w.heap.size := hb; have := HWR.out; have := HX7.out; omega)))).more (fun b hb => Nat.lt_of_lt_of_le hb (HWZ.out _ hf9))
       clear z0 z1 z2 z3 z4 zf0 zf1 zf2 zf3 zf4
       generalize (((((W7.setCell ⟨X7, 0, none⟩ (.int .i64 r.kd)).setCell ⟨X7, 1, none⟩ (.int .i64 r.nm)).setCell ⟨X7, 2, none⟩ (.string ⟨r.tx.toArray⟩)).setCell ⟨X7, 3, none⟩ (.slice C r.ls.length f)).setCell ⟨X7, 4, none⟩ (.slice C' r.ms.length f')) = W9 at hb9 hf9 hi9 ⊢
       have HB9 := Lib.hid hb9
       have HF9 := Lib.hid hf9
       have HI9 := Lib.hid hi9
       clear hb9 hf9 hi9
       repeat (first | go_skip | go_step)
       go_meet
       exact ⟨X7, C, f, C', f', rfl, rfl, HX7, HB9, HI9, HF9⟩
      ·go_simp
       refine hK.out _ _ (HSW.out _ ((Fr.refl wr).drew.alloc _)) (fun hH2 => ?_)
       clear hK K
       try simp only [Act.put, fl]
       refine wpAnyH_ready (rs := [7]) (by kernel_rfl) (by simp) ?_
       refine AllReadyH.cons rfl (fun K hK => ?_) AllReadyH.nil
       go_simp
       (go_at_call 16; refine (HGT.out _ ((Fr.refl wr).drew.alloc _)).mono ?_; rintro e w1 ⟨C, f, C', f', rfl, hi, hf⟩; have HI := Lib.hid hi; clear hi; have HF7 : Hid (Fr wr w1) := Lib.hid (((Fr.refl wr).drew.alloc _).trans hf); have HB7 : Hid (Blk w1 wr.heap.size #[.int .i64 0, .int .i64 0, .string ⟨#[]⟩, .slice none 0 0, .slice none 0 0] 25) := Lib.hid ((Blk.made wr.drew _ _).keep hf); have HX7 : Hid (wr.heap.size ≤ wr.heap.size) := Lib.hid (Nat.le_refl _); have HH7 : Hid (Fr w1 w1) := Lib.hid (Fr.refl w1); clear hf)
       refine hK.out _ _ (HSW.out _ HF7.out) (fun hH3 => ?_)
       clear hK K
       try simp only [Act.put, fl]
       refine tk (i := 8) (v := ?_) rfl ⟨by rfl, ?_⟩ hH3 ?_
       rotate_left
       ·(intro w' hSw; (try dsimp only at hSw); go_simp; try with_reducible rfl)
       try simp only [Act.put, fl]
       refine tk (i := 9) (v := ?_) rfl ⟨by rfl, ?_⟩ hH3 ?_
       rotate_left
       ·(intro w' hSw; (try dsimp only at hSw); go_simp; try with_reducible rfl)
       try simp only [Act.put, fl]
       refine tk (i := 10) (v := ?_) rfl ⟨by rfl, ?_⟩ hH3 ?_
       rotate_left
       ·(intro w' hSw; (try dsimp only at hSw); go_simp; try with_reducible rfl)
       try simp only [Act.put, fl]
       obtain ⟨⟨z0, z1, z2, z3, z4⟩, zf0, zf1, zf2, zf3, zf4⟩ := box5 HB7.out
       refine wpAnyH_ready (rs := [12]) (by kernel_rfl) (by simp) ?_
       refine AllReadyH.cons rfl (fun K hK => ?_) AllReadyH.nil
       go_simp
       refine hK.out _ _ (HSW.out _ (st5_fr HF7.out HX7.out _ _ _ _ _)) (fun hH5 => ?_)
       clear hK K
       try simp only [Act.put, fl]
       refine tk (i := 13) (v := ?_) rfl ⟨by rfl, ?_⟩ hH5 ?_
       rotate_left
       ·(intro w' hSw; (try dsimp only at hSw); go_simp; try with_reducible rfl)
       try simp only [Act.put, fl]
       refine wpAnyH_done (by kernel_rfl) ?_ _
       have hb9 : Blk (((((w1.setCell ⟨wr.heap.size, 0, none⟩ (.int .i64 r.kd)).setCell ⟨wr.heap.size, 1, none⟩ (.int .i64 r.nm)).setCell ⟨wr.heap.size, 2, none⟩ (.string ⟨r.tx.toArray⟩)).setCell ⟨wr.heap.size, 3, none⟩ (.slice C r.ls.length f)).setCell ⟨wr.heap.size, 4, none⟩ (.slice C' r.ms.length f')) wr.heap.size #[.int .i64 r.kd, .int .i64 r.nm, .string ⟨r.tx.toArray⟩, .slice C r.ls.length f, .slice C' r.ms.length f'] 25 := set5 HB7.out
       have hf9 : Fr wr (((((w1.setCell ⟨wr.heap.size, 0, none⟩ (.int .i64 r.kd)).setCell ⟨wr.heap.size, 1, none⟩ (.int .i64 r.nm)).setCell ⟨wr.heap.size, 2, none⟩ (.string ⟨r.tx.toArray⟩)).setCell ⟨wr.heap.size, 3, none⟩ (.slice C r.ls.length f)).setCell ⟨wr.heap.size, 4, none⟩ (.slice C' r.ms.length f')) := st5_fr HF7.out HX7.out _ _ _ _ _
       have hi9 : InV (((((w1.setCell ⟨wr.heap.size, 0, none⟩ (.int .i64 r.kd)).setCell ⟨wr.heap.size, 1, none⟩ (.int .i64 r.nm)).setCell ⟨wr.heap.size, 2, none⟩ (.string ⟨r.tx.toArray⟩)).setCell ⟨wr.heap.size, 3, none⟩ (.slice C r.ls.length f)).setCell ⟨wr.heap.size, 4, none⟩ (.slice C' r.ms.length f')) (Lo (((((w1.setCell ⟨wr.heap.size, 0, none⟩ (.int .i64 r.kd)).setCell ⟨wr.heap.size, 1, none⟩ (.int .i64 r.nm)).setCell ⟨wr.heap.size, 2, none⟩ (.string ⟨r.tx.toArray⟩)).setCell ⟨wr.heap.size, 3, none⟩ (.slice C r.ls.length f)).setCell ⟨wr.heap.size, 4, none⟩ (.slice C' r.ms.length f')).heap.size) r (vA r C f C' f') := (((HI.out.keep (HWZ.out _ HF7.out) HH7.out).map (fun b hb => hb) (fun b o hb => (st5_frx w1 wr.heap.size _ _ _ _ _).cell (Nat.lt_of_lt_of_le hb (HWZ.out _ HF7.out)) (by have : b < w.heap.size := hb; have := HWR.out; have := HX7.out; omega)))).more (fun b hb => Nat.lt_of_lt_of_le hb (HWZ.out _ hf9))
       clear z0 z1 z2 z3 z4 zf0 zf1 zf2 zf3 zf4
       generalize (((((w1.setCell ⟨wr.heap.size, 0, none⟩ (.int .i64 r.kd)).setCell ⟨wr.heap.size, 1, none⟩ (.int .i64 r.nm)).setCell ⟨wr.heap.size, 2, none⟩ (.string ⟨r.tx.toArray⟩)).setCell ⟨wr.heap.size, 3, none⟩ (.slice C r.ls.length f)).setCell ⟨wr.heap.size, 4, none⟩ (.slice C' r.ms.length f')) = W9 at hb9 hf9 hi9 ⊢
       have HB9 := Lib.hid hb9
       have HF9 := Lib.hid hf9
       have HI9 := Lib.hid hi9
       clear hb9 hf9 hi9
       repeat (first | go_skip | go_step)
       go_meet
       exact ⟨wr.heap.size, C, f, C', f', rfl, rfl, HX7, HB9, HI9, HF9⟩
     obtain ⟨X7, C, f, C', f', rfl, rfl, hX7, hB9, hI9, hF9⟩ := hcut
     obtain ⟨W9, hW9⟩ : ∃ W, W = wc := ⟨wc, rfl⟩
     subst hW9
     have HSX : Hid (∀ W, Fr W9 W → W.cell? ⟨X3, 4, none⟩ = some (.slice (some ⟨bE, oE, none⟩) 4 g) ∧ W.cell? ⟨bE, oE + (k + 1) * 6, none⟩ = some (.string ⟨nm.toArray⟩) ∧ W.cell? ⟨bE, oE + (k + 1) * 6 + 1, none⟩ = some (.int .i64 u.kd) ∧ W.cell? ⟨bE, oE + (k + 1) * 6 + 1 + 1, none⟩ = some (.int .i64 u.nm) ∧ W.cell? ⟨bE, oE + (k + 1) * 6 + 1 + 2, none⟩ = some (.string ⟨u.tx.toArray⟩) ∧ W.cell? ⟨bE, oE + (k + 1) * 6 + 1 + 3, none⟩ = some (.slice P u.ls.length p) ∧ W.cell? ⟨bE, oE + (k + 1) * 6 + 1 + 4, none⟩ = some (.slice P' u.ms.length p') ∧ W.cell? ⟨bE, oE + k * 6, none⟩ = some (.string ⟨np.toArray⟩) ∧ W.cell? ⟨X7, 0, none⟩ = some (.int .i64 r.kd) ∧ W.cell? ⟨X7, 1, none⟩ = some (.int .i64 r.nm) ∧ W.cell? ⟨X7, 2, none⟩ = some (.string ⟨r.tx.toArray⟩) ∧ W.cell? ⟨X7, 3, none⟩ = some (.slice C r.ls.length f) ∧ W.cell? ⟨X7, 4, none⟩ = some (.slice C' r.ms.length f')) := Lib.hid (fun W hW => by
      have a := HB3R.out.keep (hF9.out.trans hW)
      have b := hB9.out.keep hW
      have k : ∀ o, W.cell? ⟨bE, o, none⟩ = wr.cell? ⟨bE, o, none⟩ := fun o => (hF9.out.trans hW).cell HBE.out
      exact ⟨a.cell 4, (k _).trans HMC.out.1, (k _).trans HMC.out.2.1, (k _).trans HMC.out.2.2.1, (k _).trans HMC.out.2.2.2.1, (k _).trans HMC.out.2.2.2.2.1, (k _).trans HMC.out.2.2.2.2.2, (k _).trans HPC.out, b.cell 0, b.cell 1, b.cell 2, b.cell 3, b.cell 4⟩)
     cases bb
     ·go_upto_region 10 with fail
      refine wp_region_held_drew (S := (fun W => W.cell? ⟨X3, 4, none⟩ = some (.slice (some ⟨bE, oE, none⟩) 4 g) ∧ W.cell? ⟨bE, oE + (k + 1) * 6, none⟩ = some (.string ⟨nm.toArray⟩) ∧ W.cell? ⟨bE, oE + (k + 1) * 6 + 1, none⟩ = some (.int .i64 u.kd) ∧ W.cell? ⟨bE, oE + (k + 1) * 6 + 1 + 1, none⟩ = some (.int .i64 u.nm) ∧ W.cell? ⟨bE, oE + (k + 1) * 6 + 1 + 2, none⟩ = some (.string ⟨u.tx.toArray⟩) ∧ W.cell? ⟨bE, oE + (k + 1) * 6 + 1 + 3, none⟩ = some (.slice P u.ls.length p) ∧ W.cell? ⟨bE, oE + (k + 1) * 6 + 1 + 4, none⟩ = some (.slice P' u.ms.length p') ∧ W.cell? ⟨bE, oE + k * 6, none⟩ = some (.string ⟨np.toArray⟩) ∧ W.cell? ⟨X7, 0, none⟩ = some (.int .i64 r.kd) ∧ W.cell? ⟨X7, 1, none⟩ = some (.int .i64 r.nm) ∧ W.cell? ⟨X7, 2, none⟩ = some (.string ⟨r.tx.toArray⟩) ∧ W.cell? ⟨X7, 3, none⟩ = some (.slice C r.ls.length f) ∧ W.cell? ⟨X7, 4, none⟩ = some (.slice C' r.ms.length f'))) (by kernel_rfl) ?_ (fun hHeld => ?_)
      ·exact HSX.out _ (Fr.refl _).drew
      refine tk (i := 0) (v := ?_) rfl ⟨by rfl, ?_⟩ hHeld ?_
      rotate_left
      ·(intro w' hSw; (try dsimp only at hSw); go_simp; try with_reducible rfl)
      try simp only [Act.put, fl]
      refine tk (i := 1) (v := ?_) rfl ⟨by rfl, ?_⟩ hHeld ?_
      rotate_left
      ·(intro w' hSw; (try dsimp only at hSw); go_simp; try with_reducible rfl)
      try simp only [Act.put, fl]
      refine tk (i := 2) (v := ?_) rfl ⟨by rfl, ?_⟩ hHeld ?_
      rotate_left
      ·(intro w' hSw; (try dsimp only at hSw); go_simp; try with_reducible rfl)
      try simp only [Act.put, fl]
      refine tk (i := 3) (v := ?_) rfl ⟨by rfl, ?_⟩ hHeld ?_
      rotate_left
      ·(intro w' hSw; (try dsimp only at hSw); go_simp; try with_reducible rfl)
      try simp only [Act.put, fl]
      refine tk (i := 4) (v := ?_) rfl ⟨by rfl, ?_⟩ hHeld ?_
      rotate_left
      ·(intro w' hSw; (try dsimp only at hSw); go_simp; try with_reducible rfl)
      try simp only [Act.put, fl]
      refine tk (i := 5) (v := ?_) rfl ⟨by rfl, ?_⟩ hHeld ?_
      rotate_left
      ·(intro w' hSw; (try dsimp only at hSw); go_simp; try with_reducible rfl)
      try simp only [Act.put, fl]
      refine tk (i := 6) (v := ?_) rfl ⟨by rfl, ?_⟩ hHeld ?_
      rotate_left
      ·(intro w' hSw; (try dsimp only at hSw); go_simp; try with_reducible rfl)
      try simp only [Act.put, fl]
      refine tk (i := 7) (v := ?_) rfl ⟨by rfl, ?_⟩ hHeld ?_
      rotate_left
      ·(intro w' hSw; (try dsimp only at hSw); go_simp; try with_reducible rfl)
      try simp only [Act.put, fl]
      refine tk (i := 8) (v := ?_) rfl ⟨by rfl, ?_⟩ hHeld ?_
      rotate_left
      ·(intro w' hSw; (try dsimp only at hSw); go_simp; try with_reducible rfl)
      try simp only [Act.put, fl]
      refine tk (i := 9) (v := ?_) rfl ⟨by rfl, ?_⟩ hHeld ?_
      rotate_left
      ·(intro w' hSw; (try dsimp only at hSw); go_simp; try with_reducible rfl)
      try simp only [Act.put, fl]
      refine tk (i := 10) (v := ?_) rfl ⟨by rfl, ?_⟩ hHeld ?_
      rotate_left
      ·(intro w' hSw; (try dsimp only at hSw); go_simp; try with_reducible rfl)
      try simp only [Act.put, fl]
      refine tk (i := 11) (v := ?_) rfl ⟨by rfl, ?_⟩ hHeld ?_
      rotate_left
      ·(intro w' hSw; (try dsimp only at hSw); go_simp; try with_reducible rfl)
      try simp only [Act.put, fl]
      refine tk (i := 12) (v := ?_) rfl ⟨by rfl, ?_⟩ hHeld ?_
      rotate_left
      ·(intro w' hSw; (try dsimp only at hSw); go_simp; try with_reducible rfl)
      try simp only [Act.put, fl]
      refine tk (i := 13) (v := ?_) rfl ⟨by rfl, ?_⟩ hHeld ?_
      rotate_left
      ·(intro w' hSw; (try dsimp only at hSw); go_simp; try with_reducible rfl)
      try simp only [Act.put, fl]
      refine tk (i := 14) (v := ?_) rfl ⟨by rfl, ?_⟩ hHeld ?_
      rotate_left
      ·(intro w' hSw; (try dsimp only at hSw); go_simp; try with_reducible rfl)
      try simp only [Act.put, fl]
      refine tk (i := 15) (v := ?_) rfl ⟨by rfl, ?_⟩ hHeld ?_
      rotate_left
      ·(intro w' hSw; (try dsimp only at hSw); go_simp; try with_reducible rfl)
      try simp only [Act.put, fl]
      refine tk (i := 16) (v := ?_) rfl ⟨by rfl, ?_⟩ hHeld ?_
      rotate_left
      ·(intro w' hSw; (try dsimp only at hSw); go_simp; try with_reducible rfl)
      try simp only [Act.put, fl]
      refine tk (i := 17) (v := ?_) rfl ⟨by rfl, ?_⟩ hHeld ?_
      rotate_left
      ·(intro w' hSw; (try dsimp only at hSw); go_simp; try with_reducible rfl)
      try simp only [Act.put, fl]
      refine tk (i := 18) (v := ?_) rfl ⟨by rfl, ?_⟩ hHeld ?_
      rotate_left
      ·(intro w' hSw; (try dsimp only at hSw); go_simp; try with_reducible rfl)
      try simp only [Act.put, fl]
      refine tk (i := 19) (v := ?_) rfl ⟨by rfl, ?_⟩ hHeld ?_
      rotate_left
      ·(intro w' hSw; (try dsimp only at hSw); go_simp; try with_reducible rfl)
      try simp only [Act.put, fl]
      refine tk (i := 20) (v := ?_) rfl ⟨by rfl, ?_⟩ hHeld ?_
      rotate_left
      ·(intro w' hSw; (try dsimp only at hSw); go_simp; try with_reducible rfl)
      try simp only [Act.put, fl]
      refine wpAnyH_take (i := 21) (v := undef) rfl (by kernel_rfl) (by kernel_rfl) (by kernel_rfl) (fun _ _ _ h => h) (Or.inr ⟨by rfl, rfl⟩) hHeld ?_
      try simp only [Act.put, fl]
      refine wpAnyH_take (i := 22) (v := undef) rfl (by kernel_rfl) (by kernel_rfl) (by kernel_rfl) (fun _ _ _ h => h) (Or.inr ⟨by rfl, rfl⟩) hHeld ?_
      try simp only [Act.put, fl]
      refine wpAnyH_take (i := 23) (v := undef) rfl (by kernel_rfl) (by kernel_rfl) (by kernel_rfl) (fun _ _ _ h => h) (Or.inr ⟨by rfl, rfl⟩) hHeld ?_
      try simp only [Act.put, fl]
      refine wpAnyH_take (i := 24) (v := undef) rfl (by kernel_rfl) (by kernel_rfl) (by kernel_rfl) (fun _ _ _ h => h) (Or.inr ⟨by rfl, rfl⟩) hHeld ?_
      try simp only [Act.put, fl]
      refine wpAnyH_take (i := 25) (v := undef) rfl (by kernel_rfl) (by kernel_rfl) (by kernel_rfl) (fun _ _ _ h => h) (Or.inr ⟨by rfl, rfl⟩) hHeld ?_
      try simp only [Act.put, fl]
      refine wpAnyH_take (i := 26) (v := undef) rfl (by kernel_rfl) (by kernel_rfl) (by kernel_rfl) (fun _ _ _ h => h) (Or.inr ⟨by rfl, rfl⟩) hHeld ?_
      try simp only [Act.put, fl]
      refine wpAnyH_take (i := 27) (v := undef) rfl (by kernel_rfl) (by kernel_rfl) (by kernel_rfl) (fun _ _ _ h => h) (Or.inr ⟨by rfl, rfl⟩) hHeld ?_
      try simp only [Act.put, fl]
      refine wpAnyH_take (i := 28) (v := undef) rfl (by kernel_rfl) (by kernel_rfl) (by kernel_rfl) (fun _ _ _ h => h) (Or.inr ⟨by rfl, rfl⟩) hHeld ?_
      try simp only [Act.put, fl]
      refine wpAnyH_take (i := 29) (v := undef) rfl (by kernel_rfl) (by kernel_rfl) (by kernel_rfl) (fun _ _ _ h => h) (Or.inr ⟨by rfl, rfl⟩) hHeld ?_
      try simp only [Act.put, fl]
      refine tk (i := 30) (v := ?_) rfl ⟨by rfl, ?_⟩ hHeld ?_
      rotate_left
      ·(intro w' hSw; (try dsimp only at hSw); go_simp; try with_reducible rfl)
      try simp only [Act.put, fl]
      refine tk (i := 31) (v := ?_) rfl ⟨by rfl, ?_⟩ hHeld ?_
      rotate_left
      ·(intro w' hSw; (try dsimp only at hSw); go_simp; try with_reducible rfl)
      try simp only [Act.put, fl]
      refine wpAnyH_done (by kernel_rfl) ?_ _
      go_wp2_with fail
      exact ⟨⟨k + 1 + 1, by omega, by go_num, Lib.hid (hF.out.trans (hF9.out.drew))⟩, by simp [intOf] <;> omega⟩
     ·have hru : r = u := by rcases HRB.out with ⟨_, h⟩ | ⟨h, _⟩; exact h; cases h
      have HJK : Hid (∀ W, Fr W9 W → InV W (Lo W.heap.size) u (vA u C f C' f')) := Lib.hid (fun W hW => by rw [← hru]; exact (hI9.out.keep (Nat.le_refl _) hW).lo hW.size)
      have HUK : Hid (∀ W, Fr W9 W → InV W (Lo W.heap.size) u (vA u P p P' p')) := Lib.hid (fun W hW => (HUI.out.keep (Nat.le_refl _) (hF9.out.trans hW)).lo (hF9.out.trans hW).size)
      rw [hru] at HSX
      clear hru
      go_upto_region 10 with fail
      refine wp_region_held_drew (S := (fun W => W.cell? ⟨X3, 4, none⟩ = some (.slice (some ⟨bE, oE, none⟩) 4 g) ∧ W.cell? ⟨bE, oE + (k + 1) * 6, none⟩ = some (.string ⟨nm.toArray⟩) ∧ W.cell? ⟨bE, oE + (k + 1) * 6 + 1, none⟩ = some (.int .i64 u.kd) ∧ W.cell? ⟨bE, oE + (k + 1) * 6 + 1 + 1, none⟩ = some (.int .i64 u.nm) ∧ W.cell? ⟨bE, oE + (k + 1) * 6 + 1 + 2, none⟩ = some (.string ⟨u.tx.toArray⟩) ∧ W.cell? ⟨bE, oE + (k + 1) * 6 + 1 + 3, none⟩ = some (.slice P u.ls.length p) ∧ W.cell? ⟨bE, oE + (k + 1) * 6 + 1 + 4, none⟩ = some (.slice P' u.ms.length p') ∧ W.cell? ⟨bE, oE + k * 6, none⟩ = some (.string ⟨np.toArray⟩) ∧ W.cell? ⟨X7, 0, none⟩ = some (.int .i64 u.kd) ∧ W.cell? ⟨X7, 1, none⟩ = some (.int .i64 u.nm) ∧ W.cell? ⟨X7, 2, none⟩ = some (.string ⟨u.tx.toArray⟩) ∧ W.cell? ⟨X7, 3, none⟩ = some (.slice C u.ls.length f) ∧ W.cell? ⟨X7, 4, none⟩ = some (.slice C' u.ms.length f'))) (by kernel_rfl) ?_ (fun hHeld => ?_)
      ·exact HSX.out _ (Fr.refl _).drew
      refine tk (i := 0) (v := ?_) rfl ⟨by rfl, ?_⟩ hHeld ?_
      rotate_left
      ·(intro w' hSw; (try dsimp only at hSw); go_simp; try with_reducible rfl)
      try simp only [Act.put, fl]
      refine tk (i := 1) (v := ?_) rfl ⟨by rfl, ?_⟩ hHeld ?_
      rotate_left
      ·(intro w' hSw; (try dsimp only at hSw); go_simp; try with_reducible rfl)
      try simp only [Act.put, fl]
      refine tk (i := 2) (v := ?_) rfl ⟨by rfl, ?_⟩ hHeld ?_
      rotate_left
      ·(intro w' hSw; (try dsimp only at hSw); go_simp; try with_reducible rfl)
      try simp only [Act.put, fl]
      refine tk (i := 3) (v := ?_) rfl ⟨by rfl, ?_⟩ hHeld ?_
      rotate_left
      ·(intro w' hSw; (try dsimp only at hSw); go_simp; try with_reducible rfl)
      try simp only [Act.put, fl]
      refine tk (i := 4) (v := ?_) rfl ⟨by rfl, ?_⟩ hHeld ?_
      rotate_left
      ·(intro w' hSw; (try dsimp only at hSw); go_simp; try with_reducible rfl)
      try simp only [Act.put, fl]
      refine tk (i := 5) (v := ?_) rfl ⟨by rfl, ?_⟩ hHeld ?_
      rotate_left
      ·(intro w' hSw; (try dsimp only at hSw); go_simp; try with_reducible rfl)
      try simp only [Act.put, fl]
      refine tk (i := 6) (v := ?_) rfl ⟨by rfl, ?_⟩ hHeld ?_
      rotate_left
      ·(intro w' hSw; (try dsimp only at hSw); go_simp; try with_reducible rfl)
      try simp only [Act.put, fl]
      refine tk (i := 7) (v := ?_) rfl ⟨by rfl, ?_⟩ hHeld ?_
      rotate_left
      ·(intro w' hSw; (try dsimp only at hSw); go_simp; try with_reducible rfl)
      try simp only [Act.put, fl]
      refine tk (i := 8) (v := ?_) rfl ⟨by rfl, ?_⟩ hHeld ?_
      rotate_left
      ·(intro w' hSw; (try dsimp only at hSw); go_simp; try with_reducible rfl)
      try simp only [Act.put, fl]
      refine tk (i := 9) (v := ?_) rfl ⟨by rfl, ?_⟩ hHeld ?_
      rotate_left
      ·(intro w' hSw; (try dsimp only at hSw); go_simp; try with_reducible rfl)
      try simp only [Act.put, fl]
      refine tk (i := 10) (v := ?_) rfl ⟨by rfl, ?_⟩ hHeld ?_
      rotate_left
      ·(intro w' hSw; (try dsimp only at hSw); go_simp; try with_reducible rfl)
      try simp only [Act.put, fl]
      refine tk (i := 11) (v := ?_) rfl ⟨by rfl, ?_⟩ hHeld ?_
      rotate_left
      ·(intro w' hSw; (try dsimp only at hSw); go_simp; try with_reducible rfl)
      try simp only [Act.put, fl]
      refine tk (i := 12) (v := ?_) rfl ⟨by rfl, ?_⟩ hHeld ?_
      rotate_left
      ·(intro w' hSw; (try dsimp only at hSw); go_simp; try with_reducible rfl)
      try simp only [Act.put, fl]
      refine tk (i := 13) (v := ?_) rfl ⟨by rfl, ?_⟩ hHeld ?_
      rotate_left
      ·(intro w' hSw; (try dsimp only at hSw); go_simp; try with_reducible rfl)
      try simp only [Act.put, fl]
      refine tk (i := 14) (v := ?_) rfl ⟨by rfl, ?_⟩ hHeld ?_
      rotate_left
      ·(intro w' hSw; (try dsimp only at hSw); go_simp; try with_reducible rfl)
      try simp only [Act.put, fl]
      refine tk (i := 15) (v := ?_) rfl ⟨by rfl, ?_⟩ hHeld ?_
      rotate_left
      ·(intro w' hSw; (try dsimp only at hSw); go_simp; try with_reducible rfl)
      try simp only [Act.put, fl]
      refine tk (i := 16) (v := ?_) rfl ⟨by rfl, ?_⟩ hHeld ?_
      rotate_left
      ·(intro w' hSw; (try dsimp only at hSw); go_simp; try with_reducible rfl)
      try simp only [Act.put, fl]
      refine tk (i := 17) (v := ?_) rfl ⟨by rfl, ?_⟩ hHeld ?_
      rotate_left
      ·(intro w' hSw; (try dsimp only at hSw); go_simp; try with_reducible rfl)
      try simp only [Act.put, fl]
      refine tk (i := 18) (v := ?_) rfl ⟨by rfl, ?_⟩ hHeld ?_
      rotate_left
      ·(intro w' hSw; (try dsimp only at hSw); go_simp; try with_reducible rfl)
      try simp only [Act.put, fl]
      refine tk (i := 19) (v := ?_) rfl ⟨by rfl, ?_⟩ hHeld ?_
      rotate_left
      ·(intro w' hSw; (try dsimp only at hSw); go_simp; try with_reducible rfl)
      try simp only [Act.put, fl]
      refine tk (i := 20) (v := ?_) rfl ⟨by rfl, ?_⟩ hHeld ?_
      rotate_left
      ·(intro w' hSw; (try dsimp only at hSw); go_simp; try with_reducible rfl)
      try simp only [Act.put, fl]
      refine tk (i := 21) (v := ?_) rfl ⟨by rfl, ?_⟩ hHeld ?_
      rotate_left
      ·(intro w' hSw; (try dsimp only at hSw); go_simp; try with_reducible rfl)
      try simp only [Act.put, fl]
      refine tk (i := 22) (v := ?_) rfl ⟨by rfl, ?_⟩ hHeld ?_
      rotate_left
      ·(intro w' hSw; (try dsimp only at hSw); go_simp; try with_reducible rfl)
      try simp only [Act.put, fl]
      refine tk (i := 23) (v := ?_) rfl ⟨by rfl, ?_⟩ hHeld ?_
      rotate_left
      ·(intro w' hSw; (try dsimp only at hSw); go_simp; try with_reducible rfl)
      try simp only [Act.put, fl]
      refine tk (i := 24) (v := ?_) rfl ⟨by rfl, ?_⟩ hHeld ?_
      rotate_left
      ·(intro w' hSw; (try dsimp only at hSw); go_simp; try with_reducible rfl)
      try simp only [Act.put, fl]
      refine tk (i := 25) (v := ?_) rfl ⟨by rfl, ?_⟩ hHeld ?_
      rotate_left
      ·(intro w' hSw; (try dsimp only at hSw); go_simp; try with_reducible rfl)
      try simp only [Act.put, fl]
      refine tk (i := 26) (v := ?_) rfl ⟨by rfl, ?_⟩ hHeld ?_
      rotate_left
      ·(intro w' hSw; (try dsimp only at hSw); go_simp; try with_reducible rfl)
      try simp only [Act.put, fl]
      refine tk (i := 27) (v := ?_) rfl ⟨by rfl, ?_⟩ hHeld ?_
      rotate_left
      ·(intro w' hSw; (try dsimp only at hSw); go_simp; try with_reducible rfl)
      try simp only [Act.put, fl]
      refine wpAnyH_ready (rs := [28]) (by kernel_rfl) (by simp) ?_
      refine AllReadyH.cons rfl (fun K hK => ?_) AllReadyH.nil
      go_simp
      (go_at_call 13; refine ((same_is u u _ _).call true (by simp) ?sx1 ?sx2 (HJK.out _ (Fr.refl W9).drew) (HUK.out _ (Fr.refl W9).drew)).mono ?_; (case sx1 => rfl); (case sx2 => rfl); rintro e w8 ⟨rfl, hf⟩; have HG8 : Hid (Fr W9 w8) := Lib.hid ((Fr.refl W9).drew.trans hf); clear hf)
      try (refine hK.out _ _ ?_ (fun hHeld2 => ?_))
      ·exact HSX.out _ HG8.out
      clear hK K
      try simp only [Act.put, fl]
      refine tk (i := 29) (v := ?_) rfl ⟨by rfl, ?_⟩ hHeld2 ?_
      rotate_left
      ·(intro w' hSw; (try dsimp only at hSw); go_simp; try with_reducible rfl)
      try simp only [Act.put, fl]
      refine tk (i := 30) (v := ?_) rfl ⟨by rfl, ?_⟩ hHeld2 ?_
      rotate_left
      ·(intro w' hSw; (try dsimp only at hSw); go_simp; try with_reducible rfl)
      try simp only [Act.put, fl]
      refine tk (i := 31) (v := ?_) rfl ⟨by rfl, ?_⟩ hHeld2 ?_
      rotate_left
      ·(intro w' hSw; (try dsimp only at hSw); go_simp; try with_reducible rfl)
      try simp only [Act.put, fl]
      refine wpAnyH_done (by kernel_rfl) ?_ _
      go_wp2_with fail
      exact ⟨⟨k + 1 + 1, by omega, by go_num, Lib.hid (hF.out.trans (hF9.out.trans HG8.out))⟩, by simp [intOf] <;> omega⟩
 ·have hn0 : 0 < n := by rw [← hn]; exact List.length_pos_iff.2 hw
  have hn0' : (0 : Int) < (n : Int) := by omega
  clear hv hbk hT hnv hml hne hkv hn hw
  go_enter Tryz.func4, Tryz.ntmps4
  go_upto_region 1 with fail
  have hb1 := Blk.made w #[.int .i64 v.kd, .int .i64 v.nm, .string ⟨v.tx.toArray⟩, .slice A v.ls.length c0, .slice A' v.ms.length c0'] 25
  have hf0 : Fr w (w.alloc (.cells #[.int .i64 v.kd, .int .i64 v.nm, .string ⟨v.tx.toArray⟩, .slice A v.ls.length c0, .slice A' v.ms.length c0'] 25)) := (Fr.refl w).alloc _
  generalize (w.alloc (.cells #[.int .i64 v.kd, .int .i64 v.nm, .string ⟨v.tx.toArray⟩, .slice A v.ls.length c0, .slice A' v.ms.length c0'] 25)) = W0 at hb1 hf0 ⊢
  obtain ⟨X1, hX1⟩ : ∃ X, w.heap.size = X := ⟨_, rfl⟩
  rw [hX1] at hb1 ⊢
  clear hX1
  have HB1 := Lib.hid hb1
  have HF0 := Lib.hid hf0
  clear hb1 hf0
  go_wp2_with (first
   | (go_at_call 8; have hq := HF3.out; refine (awake15 _ (HT.out.keep (HF0.out.trans hq))).mono ?_; rintro e w9 ⟨rfl, hf⟩; have HF9 := Lib.hid ((HF0.out.trans hq).trans hf); clear hf hq)
   | (go_at_call 11; have hq := HF1.out; refine (HCK.out _ (HF0.out.trans hq)).mono ?_; rintro e w3 ⟨⟨E3, e3, rfl⟩, hf⟩; obtain ⟨⟨y0, y1, y2, y3, y4⟩, _⟩ := box5 (HB1.out.keep (hq.trans hf)); have HF3 := Lib.hid (hq.trans hf); clear hf hq)
   | (go_at_call 8; have hq := HF1.out; refine (awake15 _ (HT.out.keep (HF0.out.trans hq))).mono ?_; rintro e w9 ⟨rfl, hf⟩; have HF9 := Lib.hid ((HF0.out.trans hq).trans hf); clear hf hq)
   | (go_at_call 9; have hq := HFa.out; refine (HFW.out _ (HF0.out.trans hq)).mono ?_; rintro e w1 ⟨⟨b1, rfl⟩, hf⟩; obtain ⟨⟨y0, y1, y2, y3, y4⟩, _⟩ := box5 (HB1.out.keep (hq.trans hf)); have HF1 := Lib.hid (hq.trans hf); clear hf hq; cases b1)
   | (go_at_call 8; refine (awake15 _ (HT.out.keep HF0.out)).mono ?_; rintro e wa ⟨rfl, hf⟩; obtain ⟨⟨y0, y1, y2, y3, y4⟩, _⟩ := box5 (HB1.out.keep hf); have HFa := Lib.hid hf; clear hf))
  all_goals (go_ret; exact ⟨rfl, HF9.out⟩)
end Go.Proofs.YtgaiepficjiclaaGreatDoor
