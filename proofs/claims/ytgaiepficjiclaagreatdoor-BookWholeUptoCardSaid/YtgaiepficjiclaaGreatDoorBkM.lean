/- Chapter 15: BookChecks' walk. -/
import Derived.Test.YtgaiepficjiclaaGreatDoorBkK
import Derived.Test.YtgaiepficjiclaaGreatDoorBkJ
namespace Go.Proofs.YtgaiepficjiclaaGreatDoor
set_option maxRecDepth 100000
set_option maxHeartbeats 4000000
set_option linter.unusedVariables false
set_option linter.unusedSimpArgs false
open Go.RowKit

theorem Srt.puts_len (l : List (List UInt8)) : (Srt.puts l).length ≤ l.length := by
 have h : ∀ (n : Nat), n ≤ l.length → (Srt.puts (l.take n)).length ≤ n := by
  intro n
  induction n with
  | zero => intro _; simp [Srt.puts]
  | succ n ih =>
   intro hn
   rw [List.take_succ_eq_append_getElem (by omega), Srt.puts_app]
   have := Srt.put_len (Srt.puts (l.take n)) l[n]
   have := ih (by omega)
   omega
 have := h l.length (Nat.le_refl _)
 rwa [List.take_length] at this
theorem bkwhole_w (v : JV) (A : Option Addr) (c0 : Nat) (A' : Option Addr) (c0' : Nat) (w : World) (hv : InV w (Lo w.heap.size) v (vA v A c0 A' c0')) (hn : Rd.nv v ≤ 1048576) (x : JV) (hx : Bk.whole v = x) :
  Calls Tryz.prog 14 #[.agg #[.int .i64 v.kd, .int .i64 v.nm, .string ⟨v.tx.toArray⟩, .slice A v.ls.length c0, .slice A' v.ms.length c0']] w fun e w' => (∃ D c, e = .returned (.agg #[.int .i64 x.kd, .int .i64 x.nm, .string ⟨x.tx.toArray⟩, .slice none x.ls.length 0, .slice D x.ms.length c]) ∧ InV w' (Lo w'.heap.size) x (vA x none 0 D c)) ∧ Fr w w' := by
 subst hx
 unfold Bk.whole
 by_cases hw : Bk.wrong v = []
 ·rw [if_pos hw]
  exact (bkwhole_yes v A c0 A' c0' w w.heap.size (Nat.le_refl _) hv hn hw).mono (by rintro e w' ⟨⟨D, c, rfl, hi, _⟩, hf⟩; exact ⟨⟨D, c, rfl, hi.more (fun b hb => hb.2)⟩, hf⟩)
 ·rw [if_neg hw]
  exact (bkwhole_no v A c0 A' c0' w w.heap.size (Nat.le_refl _) hv hn hw).mono (by rintro e w' ⟨rfl, hf⟩; exact ⟨⟨none, 0, rfl, zeroV_in _ _⟩, hf⟩)
theorem rwhole_w (v : JV) (A : Option Addr) (c0 : Nat) (A' : Option Addr) (c0' : Nat) (w : World) (hv : InV w (Lo w.heap.size) v (vA v A c0 A' c0')) (hn : Rd.nv v ≤ 1048576) (x : JV) (hx : Bk.whole v = x) :
  Calls Tryz.prog 15 #[.agg #[.int .i64 v.kd, .int .i64 v.nm, .string ⟨v.tx.toArray⟩, .slice A v.ls.length c0, .slice A' v.ms.length c0']] w fun e w' => (∃ D c, e = .returned (.agg #[.int .i64 x.kd, .int .i64 x.nm, .string ⟨x.tx.toArray⟩, .slice none x.ls.length 0, .slice D x.ms.length c]) ∧ InV w' (Lo w'.heap.size) x (vA x none 0 D c)) ∧ Fr w w' := by
 subst hx
 unfold Bk.whole
 by_cases hw : Bk.wrong v = []
 ·rw [if_pos hw]
  exact (rwhole15_yes v A c0 A' c0' w w.heap.size (Nat.le_refl _) hv hn hw).mono (by rintro e w' ⟨⟨D, c, rfl, hi⟩, hf⟩; exact ⟨⟨D, c, rfl, hi⟩, hf⟩)
 ·rw [if_neg hw]
  exact (rwhole15_no v A c0 A' c0' w w.heap.size (Nat.le_refl _) hv hn hw).mono (by rintro e w' ⟨rfl, hf⟩; exact ⟨⟨none, 0, rfl, zeroV_in _ _⟩, hf⟩)
theorem bkchecks_law (v : JV) (A : Option Addr) (c0 : Nat) (A' : Option Addr) (c0' : Nat) (w : World) (hv : InV w (Lo w.heap.size) v (vA v A c0 A' c0')) (hbk : JV.bulk v ≤ 1048576) (hT : LowTabs w) :
  Calls Tryz.prog 3 #[vA v A c0 A' c0'] w fun e w' => e = .returned (.bool true) ∧ Fr w w' := by
 have HT := Lib.hid hT
 have HA : Hid (vA v A c0 A' c0' = .agg #[.int .i64 v.kd, .int .i64 v.nm, .string ⟨v.tx.toArray⟩, .slice A v.ls.length c0, .slice A' v.ms.length c0']) := rfl
 have hnv := nv_bulk v
 have hml := Cp.nvM_len v.ms
 have hne := Pt.nv_eq v
 have hkv : ∀ W, Fr w W → InV W (Lo W.heap.size) v (vA v A c0 A' c0') := fun W hW => (hv.keep (Nat.le_refl _) hW).lo hW.size
 obtain ⟨wl, hwl⟩ : ∃ wl, Bk.wrong v = wl := ⟨_, rfl⟩
 obtain ⟨x, hx⟩ : ∃ x, Bk.whole v = x := ⟨_, rfl⟩
 have hwn : wl.length ≤ 1048577 := by
  rw [← hwl]
  exact Nat.le_trans (Srt.puts_len _) (by unfold Bk.names; rw [List.length_append]; have := Bk.badM_len v.ms; split <;> split <;> simp only [List.length_nil, List.length_singleton] <;> omega)
 have HFW : Hid (∀ W, Fr w W → Calls Tryz.prog 9 #[.agg #[.int .i64 v.kd, .int .i64 v.nm, .string ⟨v.tx.toArray⟩, .slice A v.ls.length c0, .slice A' v.ms.length c0'], .int .i64 1500] W fun e w' => (∃ b : Bool, e = .returned (.bool b)) ∧ Fr W w') := Lib.hid (fun W hW => few7_is v A c0 A' c0' W (hkv W hW) (by omega) 1500 (by decide) (by decide))
 have HCK : Hid (∀ W, Fr w W → Calls Tryz.prog 11 #[.agg #[.int .i64 v.kd, .int .i64 v.nm, .string ⟨v.tx.toArray⟩, .slice A v.ls.length c0, .slice A' v.ms.length c0']] W fun e w' => (∃ D c, e = .returned (.slice D wl.length c) ∧ PsC w' D wl) ∧ Fr W w') := Lib.hid (fun W hW => by rw [← hwl]; exact bkcheck_is v A c0 A' c0' W W.heap.size (Nat.le_refl _) (hkv W hW) (by omega))
 have HRC : Hid (∀ W, Fr w W → Calls Tryz.prog 12 #[.agg #[.int .i64 v.kd, .int .i64 v.nm, .string ⟨v.tx.toArray⟩, .slice A v.ls.length c0, .slice A' v.ms.length c0']] W fun e w' => (∃ D c, e = .returned (.slice D wl.length c) ∧ PsC w' D wl) ∧ Fr W w') := Lib.hid (fun W hW => by rw [← hwl]; exact rcheck15_is v A c0 A' c0' W W.heap.size (Nat.le_refl _) (hkv W hW) (by omega))
 have HSP : Hid (∀ (W : World) (D E : Option Addr) (c d : Nat), PsC W D wl → PsC W E wl → Calls Tryz.prog 10 #[.slice D wl.length c, .slice E wl.length d] W fun e w' => e = .returned (.bool true) ∧ Fr W w') := Lib.hid (fun W D E c d h1 h2 => sameparts_is wl D E c d W h1 h2 (by omega))
 have HBW : Hid (∀ W, Fr w W → Calls Tryz.prog 14 #[.agg #[.int .i64 v.kd, .int .i64 v.nm, .string ⟨v.tx.toArray⟩, .slice A v.ls.length c0, .slice A' v.ms.length c0']] W fun e w' => (∃ D c, e = .returned (.agg #[.int .i64 x.kd, .int .i64 x.nm, .string ⟨x.tx.toArray⟩, .slice none x.ls.length 0, .slice D x.ms.length c]) ∧ InV w' (Lo w'.heap.size) x (vA x none 0 D c)) ∧ Fr W w') := Lib.hid (fun W hW => bkwhole_w v A c0 A' c0' W (hkv W hW) (by omega) x hx)
 have HRW : Hid (∀ W, Fr w W → Calls Tryz.prog 15 #[.agg #[.int .i64 v.kd, .int .i64 v.nm, .string ⟨v.tx.toArray⟩, .slice A v.ls.length c0, .slice A' v.ms.length c0']] W fun e w' => (∃ D c, e = .returned (.agg #[.int .i64 x.kd, .int .i64 x.nm, .string ⟨x.tx.toArray⟩, .slice none x.ls.length 0, .slice D x.ms.length c]) ∧ InV w' (Lo w'.heap.size) x (vA x none 0 D c)) ∧ Fr W w') := Lib.hid (fun W hW => rwhole_w v A c0 A' c0' W (hkv W hW) (by omega) x hx)
 rw [HA.out]
 clear hv hbk hT hnv hml hne hkv hwl hx hwn
 go_enter Tryz.func3, Tryz.ntmps3
 go_upto_region 1 with fail
 have hb0 := Blk.made w #[.int .i64 v.kd, .int .i64 v.nm, .string ⟨v.tx.toArray⟩, .slice A v.ls.length c0, .slice A' v.ms.length c0'] 25
 have hf0 : Fr w (w.alloc (.cells #[.int .i64 v.kd, .int .i64 v.nm, .string ⟨v.tx.toArray⟩, .slice A v.ls.length c0, .slice A' v.ms.length c0'] 25)) := (Fr.refl w).alloc _
 generalize (w.alloc (.cells #[.int .i64 v.kd, .int .i64 v.nm, .string ⟨v.tx.toArray⟩, .slice A v.ls.length c0, .slice A' v.ms.length c0'] 25)) = W0 at hb0 hf0 ⊢
 obtain ⟨X1, hX1⟩ : ∃ X, w.heap.size = X := ⟨_, rfl⟩
 rw [hX1] at hb0 ⊢
 clear hX1
 have HB0 := Lib.hid hb0
 have HF0 := Lib.hid hf0
 have HSW : Hid (∀ W, Fr W0 W → W.cell? ⟨X1, 0, none⟩ = some (.int .i64 v.kd) ∧ W.cell? ⟨X1, 1, none⟩ = some (.int .i64 v.nm) ∧ W.cell? ⟨X1, 2, none⟩ = some (.string ⟨v.tx.toArray⟩) ∧ W.cell? ⟨X1, 3, none⟩ = some (.slice A v.ls.length c0) ∧ W.cell? ⟨X1, 4, none⟩ = some (.slice A' v.ms.length c0')) := Lib.hid (fun W hW => by
  have a := HB0.out.keep hW
  exact ⟨a.cell 0, a.cell 1, a.cell 2, a.cell 3, a.cell 4⟩)
 clear hb0 hf0
 go_upto_region 3 with (first
  | (go_at_call 8; have hq := HF1.out; refine (awake15 _ (HT.out.keep (HF0.out.trans hq))).mono ?_; rintro e w9 ⟨rfl, hf⟩; have HF9 := Lib.hid ((HF0.out.trans hq).trans hf); clear hf hq)
  | (go_at_call 9; have hq := HFa.out; refine (HFW.out _ (HF0.out.trans hq)).mono ?_; rintro e w1 ⟨⟨bb, rfl⟩, hf⟩; have HF1 := Lib.hid (hq.trans hf); clear hf hq; cases bb)
  | (go_at_call 8; refine (awake15 _ (HT.out.keep HF0.out)).mono ?_; rintro e wa ⟨rfl, hf⟩; obtain ⟨⟨y0, y1, y2, y3, y4⟩, _⟩ := box5 (HB0.out.keep hf); have HFa := Lib.hid hf; clear hf))
 ·go_wp2_with (go_at_call 8; have hq := HF1.out; refine (awake15 _ (HT.out.keep (HF0.out.trans hq))).mono ?_; rintro e w9 ⟨rfl, hf⟩; have HF9 := Lib.hid ((HF0.out.trans hq).trans hf); clear hf hq)
  go_ret
  exact ⟨rfl, HF9.out⟩
 clear y0 y1 y2 y3 y4
 refine wp_region_held_drew (S := (fun W => W.cell? ⟨X1, 0, none⟩ = some (.int .i64 v.kd) ∧ W.cell? ⟨X1, 1, none⟩ = some (.int .i64 v.nm) ∧ W.cell? ⟨X1, 2, none⟩ = some (.string ⟨v.tx.toArray⟩) ∧ W.cell? ⟨X1, 3, none⟩ = some (.slice A v.ls.length c0) ∧ W.cell? ⟨X1, 4, none⟩ = some (.slice A' v.ms.length c0'))) (by kernel_rfl) ?_ (fun hHeld => ?_)
 ·exact HSW.out _ HF1.out.drew
 refine tk (i := 0) (v := ?_) rfl ⟨by rfl, ?_⟩ hHeld ?_
 rotate_left
 ·(intro w' hSw; (try dsimp only at hSw); go_simp; try with_reducible rfl)
 try simp only [Act.put, fl]
 refine tk (i := 2) (v := ?_) rfl ⟨by rfl, ?_⟩ hHeld ?_
 rotate_left
 ·(intro w' hSw; (try dsimp only at hSw); go_simp; try with_reducible rfl)
 try simp only [Act.put, fl]
 refine wpAnyH_ready (rs := [1]) (by kernel_rfl) (by simp) ?_
 refine AllReadyH.cons rfl (fun K hK => ?_) AllReadyH.nil
 go_simp
 (go_at_call 11; refine (HCK.out _ (HF0.out.trans HF1.out.drew)).mono ?_; rintro e w2 ⟨⟨D2, c2, rfl, hp⟩, hf⟩; have HP2 := Lib.hid hp; have HF2 := Lib.hid (HF1.out.drew.trans hf); clear hp hf)
 try (refine hK.out _ _ ?_ (fun hHeld2 => ?_))
 ·exact HSW.out _ HF2.out
 clear hK K
 try simp only [Act.put, fl]
 refine wpAnyH_ready (rs := [3]) (by kernel_rfl) (by simp) ?_
 refine AllReadyH.cons rfl (fun K hK => ?_) AllReadyH.nil
 go_simp
 (go_at_call 12; refine (HRC.out _ (HF0.out.trans HF2.out)).mono ?_; rintro e w3 ⟨⟨D3, c3, rfl, hp⟩, hf⟩; have HP3 := Lib.hid hp; have HP23 := Lib.hid (HP2.out.keep hf); have HF3 := Lib.hid (HF2.out.trans hf); clear hp hf)
 try (refine hK.out _ _ ?_ (fun hHeld2 => ?_))
 ·exact HSW.out _ HF3.out
 clear hK K
 try simp only [Act.put, fl]
 refine wpAnyH_ready (rs := [4]) (by kernel_rfl) (by simp) ?_
 refine AllReadyH.cons rfl (fun K hK => ?_) AllReadyH.nil
 go_simp
 (go_at_call 10; refine (HSP.out _ _ _ _ _ HP23.out HP3.out).mono ?_; rintro e w4 ⟨rfl, hf⟩; have HF4 := Lib.hid (HF3.out.trans hf); clear hf)
 try (refine hK.out _ _ ?_ (fun hHeld2 => ?_))
 ·exact HSW.out _ HF4.out
 clear hK K
 try simp only [Act.put, fl]
 refine tk (i := 5) (v := ?_) rfl ⟨by rfl, ?_⟩ hHeld2 ?_
 rotate_left
 ·(intro w' hSw; (try dsimp only at hSw); go_simp; try with_reducible rfl)
 try simp only [Act.put, fl]
 refine tk (i := 6) (v := ?_) rfl ⟨by rfl, ?_⟩ hHeld2 ?_
 rotate_left
 ·(intro w' hSw; (try dsimp only at hSw); go_simp; try with_reducible rfl)
 try simp only [Act.put, fl]
 refine tk (i := 8) (v := ?_) rfl ⟨by rfl, ?_⟩ hHeld2 ?_
 rotate_left
 ·(intro w' hSw; (try dsimp only at hSw); go_simp; try with_reducible rfl)
 try simp only [Act.put, fl]
 refine wpAnyH_ready (rs := [7]) (by kernel_rfl) (by simp) ?_
 refine AllReadyH.cons rfl (fun K hK => ?_) AllReadyH.nil
 go_simp
 (go_at_call 14; refine (HBW.out _ (HF0.out.trans HF4.out)).mono ?_; rintro e w5 ⟨⟨D5, c5, rfl, hi⟩, hf⟩; have HI5 := Lib.hid hi; have HF5 := Lib.hid (HF4.out.trans hf); clear hi hf)
 try (refine hK.out _ _ ?_ (fun hHeld2 => ?_))
 ·exact HSW.out _ HF5.out
 clear hK K
 try simp only [Act.put, fl]
 refine wpAnyH_ready (rs := [9]) (by kernel_rfl) (by simp) ?_
 refine AllReadyH.cons rfl (fun K hK => ?_) AllReadyH.nil
 go_simp
 (go_at_call 15; refine (HRW.out _ (HF0.out.trans HF5.out)).mono ?_; rintro e w6 ⟨⟨D6, c6, rfl, hi⟩, hf⟩; have HI6 := Lib.hid hi; have HI56 := Lib.hid ((HI5.out.keep (Nat.le_refl _) hf).lo hf.size); have HF6 := Lib.hid (HF5.out.trans hf); clear hi hf)
 try (refine hK.out _ _ ?_ (fun hHeld2 => ?_))
 ·exact HSW.out _ HF6.out
 clear hK K
 try simp only [Act.put, fl]
 refine wpAnyH_ready (rs := [10]) (by kernel_rfl) (by simp) ?_
 refine AllReadyH.cons rfl (fun K hK => ?_) AllReadyH.nil
 go_simp
 (go_at_call 13; refine ((same_is x x _ _).call true (by simp) rfl rfl HI56.out HI6.out).mono ?_; rintro e w7 ⟨rfl, hf⟩; have HF7 := Lib.hid (HF6.out.trans hf); clear hf)
 try (refine hK.out _ _ ?_ (fun hHeld2 => ?_))
 ·exact HSW.out _ HF7.out
 clear hK K
 try simp only [Act.put, fl]
 refine tk (i := 11) (v := ?_) rfl ⟨by rfl, ?_⟩ hHeld2 ?_
 rotate_left
 ·(intro w' hSw; (try dsimp only at hSw); go_simp; try with_reducible rfl)
 try simp only [Act.put, fl]
 refine tk (i := 12) (v := ?_) rfl ⟨by rfl, ?_⟩ hHeld2 ?_
 rotate_left
 ·(intro w' hSw; (try dsimp only at hSw); go_simp; try with_reducible rfl)
 try simp only [Act.put, fl]
 refine wpAnyH_done (by kernel_rfl) ?_ _
 go_wp2_with fail
 go_ret
 exact ⟨rfl, HF0.out.trans HF7.out⟩
end Go.Proofs.YtgaiepficjiclaaGreatDoor
