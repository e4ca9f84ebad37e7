/- Chapter 15: BookKeeps' walk. -/
import Derived.Test.YtgaiepficjiclaaGreatDoorBkI
import Derived.Test.YtgaiepficjiclaaGreatDoorPtt
namespace Go.Proofs.YtgaiepficjiclaaGreatDoor
set_option maxRecDepth 100000
set_option maxHeartbeats 4000000
set_option linter.unusedVariables false
set_option linter.unusedSimpArgs false
open Go.RowKit

theorem bkwhole_any (v : JV) (A : Option Addr) (c0 : Nat) (A' : Option Addr) (c0' : Nat) (w : World) (hv : InV w (Lo w.heap.size) v (vA v A c0 A' c0')) (hn : Rd.nv v ≤ 1048576) :
  Calls Tryz.prog 14 #[.agg #[.int .i64 v.kd, .int .i64 v.nm, .string ⟨v.tx.toArray⟩, .slice A v.ls.length c0, .slice A' v.ms.length c0']] w fun e w' => (∃ (k : Int) (D : Option Addr) (n c g : Nat), e = .returned (.agg #[.int .i64 k, .int .i64 0, .string ⟨#[]⟩, .slice none 0 0, .slice D n c]) ∧ n ≤ 4 ∧ (w.heap.size ≤ g ∧ g ≠ w'.heap.size ∧ g ≤ w'.heap.size + 1) ∧ (0 < n → D = some ⟨g, 0, none⟩ ∧ ∃ cur, Blk w' g cur 37 ∧ 24 ≤ cur.size)) ∧ Fr w w' := by
 by_cases hw : Bk.wrong v = []
 ·refine (bkwhole_yes v A c0 A' c0' w w.heap.size (Nat.le_refl _) hv hn hw).mono ?_
  rintro e w' ⟨⟨D, c, rfl, _, g, cur, hD, hg, hb, hc⟩, hf⟩
  have hl := hb.lt
  exact ⟨⟨6, D, 4, c, g, rfl, Nat.le_refl _, ⟨hg, by omega, by omega⟩, fun _ => ⟨hD, cur, hb, hc⟩⟩, hf⟩
 ·refine (bkwhole_no v A c0 A' c0' w w.heap.size (Nat.le_refl _) hv hn hw).mono ?_
  rintro e w' ⟨rfl, hf⟩
  have hs := hf.size
  exact ⟨⟨0, none, 0, 0, w'.heap.size + 1, rfl, by omega, ⟨by omega, by omega, Nat.le_refl _⟩, fun h => absurd h (by omega)⟩, hf⟩
theorem bkkeeps_law (v : JV) (A : Option Addr) (c0 : Nat) (A' : Option Addr) (c0' : Nat) (w : World) (hv : InV w (Lo w.heap.size) v (vA v A c0 A' c0')) (hbk : JV.bulk v ≤ 1048576) (hT : LowTabs w) :
  Calls Tryz.prog 5 #[vA v A c0 A' c0'] w fun e w' => e = .returned (.bool true) ∧ Fr w w' := by
 have HT := Lib.hid hT
 have HA : Hid (vA v A c0 A' c0' = .agg #[.int .i64 v.kd, .int .i64 v.nm, .string ⟨v.tx.toArray⟩, .slice A v.ls.length c0, .slice A' v.ms.length c0']) := rfl
 have hnv := nv_bulk v
 have hkv : ∀ W, Fr w W → InV W (Lo W.heap.size) v (vA v A c0 A' c0') := fun W hW => (hv.keep (Nat.le_refl _) hW).lo hW.size
 rcases hc : JV.chk v 1 0 with ⟨c, q⟩
 have HC : Hid (∀ W, Fr w W → Calls Tryz.prog 17 #[.agg #[.int .i64 v.kd, .int .i64 v.nm, .string ⟨v.tx.toArray⟩, .slice A v.ls.length c0, .slice A' v.ms.length c0']] W fun e w' => e = .returned (.int .i64 (c : Nat)) ∧ Fr W w') := Lib.hid (fun W hW => ccheck_is v A c0 A' c0' W c q (hkv W hW) hc)
 have HBW : Hid (∀ W, Fr w W → Calls Tryz.prog 14 #[.agg #[.int .i64 v.kd, .int .i64 v.nm, .string ⟨v.tx.toArray⟩, .slice A v.ls.length c0, .slice A' v.ms.length c0']] W fun e w' => (∃ (k : Int) (D : Option Addr) (n c g : Nat), e = .returned (.agg #[.int .i64 k, .int .i64 0, .string ⟨#[]⟩, .slice none 0 0, .slice D n c]) ∧ n ≤ 4 ∧ (W.heap.size ≤ g ∧ g ≠ w'.heap.size ∧ g ≤ w'.heap.size + 1) ∧ (0 < n → D = some ⟨g, 0, none⟩ ∧ ∃ cur, Blk w' g cur 37 ∧ 24 ≤ cur.size)) ∧ Fr W w') := Lib.hid (fun W hW => bkwhole_any v A c0 A' c0' W (hkv W hW) (by omega))
 rw [HA.out]
 by_cases h0 : c = 0
 ·subst h0
  have hl := JV.wrt_len v (JV.ok_all (JV.chk_ok v 1 0 (by rw [hc])).1)
  obtain ⟨TT, hTT⟩ : ∃ TT, JV.wrt v = TT := ⟨_, rfl⟩
  have HX : Hid (∀ W, Fr w W → Calls Tryz.prog 18 #[.agg #[.int .i64 v.kd, .int .i64 v.nm, .string ⟨v.tx.toArray⟩, .slice A v.ls.length c0, .slice A' v.ms.length c0']] W fun e w' => e = .returned (.tuple #[.string ⟨TT.toArray⟩, .int .i64 0]) ∧ Fr W w') := Lib.hid (fun W hW => text_is v A c0 A' c0' W 0 q TT (hkv W hW) hc (by rw [if_pos rfl]; exact hTT.symm) (by rw [← hTT]; omega))
  clear hv hbk hT hnv hkv hc hl hTT
  go_enter Tryz.func5, Tryz.ntmps5
  go_upto_region 1 with fail
  have hb0 := Blk.made w #[.int .i64 v.kd, .int .i64 v.nm, .string ⟨v.tx.toArray⟩, .slice A v.ls.length c0, .slice A' v.ms.length c0'] 25
  have hf0 : Fr w (w.alloc (.cells #[.int .i64 v.kd, .int .i64 v.nm, .string ⟨v.tx.toArray⟩, .slice A v.ls.length c0, .slice A' v.ms.length c0'] 25)) := (Fr.refl w).alloc _
  generalize (w.alloc (.cells #[.int .i64 v.kd, .int .i64 v.nm, .string ⟨v.tx.toArray⟩, .slice A v.ls.length c0, .slice A' v.ms.length c0'] 25)) = W0 at hb0 hf0 ⊢
  obtain ⟨X1, hX1⟩ : ∃ X, w.heap.size = X := ⟨_, rfl⟩
  have HX1 := Lib.hid hX1
  rw [hX1] at hb0 ⊢
  clear hX1
  have HB0 := Lib.hid hb0
  have HF0 := Lib.hid hf0
  clear hb0 hf0
  go_upto_region 4 with (first
   | (go_at_call 18; have hq := HF2.out; refine (HX.out _ (HF0.out.trans hq)).mono ?_; rintro e w3 ⟨rfl, hf⟩; obtain ⟨⟨r0, r1, r2, r3, r4⟩, _⟩ := box5 (HB0.out.keep (hq.trans hf)); have HF3 := Lib.hid (hq.trans hf); clear hf hq)
   | (go_at_call 17; have hq := HF1.out; refine (HC.out _ (HF0.out.trans hq)).mono ?_; rintro e w2 ⟨rfl, hf⟩; obtain ⟨⟨p0, p1, p2, p3, p4⟩, _⟩ := box5 (HB0.out.keep (hq.trans hf)); have HF2 := Lib.hid (hq.trans hf); clear hf hq)
   | (go_at_call 8; refine (awake15 _ (HT.out.keep HF0.out)).mono ?_; rintro e w1 ⟨rfl, hf⟩; obtain ⟨⟨y0, y1, y2, y3, y4⟩, _⟩ := box5 (HB0.out.keep hf); have HF1 := Lib.hid hf; clear hf))
  clear y0 y1 y2 y3 y4 p0 p1 p2 p3 p4
  go_upto_region 5 with (go_at_call 14; refine (HBW.out _ (HF0.out.trans HF3.out)).mono ?_; rintro e w4 ⟨⟨k, D, n, cn, g, rfl, hn, hg, hD⟩, hf⟩; have HF4 := Lib.hid hf; have HN := Lib.hid hn; have HGG := Lib.hid hg; have HD := Lib.hid hD; clear hf hn hg hD)
  have hb5 := Blk.made w4 #[.int .i64 k, .int .i64 0, .string ⟨#[]⟩, .slice none 0 0, .slice D n cn] 25
  have hf5 : Fr w4 (w4.alloc (.cells #[.int .i64 k, .int .i64 0, .string ⟨#[]⟩, .slice none 0 0, .slice D n cn] 25)) := (Fr.refl w4).alloc _
  have hs5 : (w4.alloc (.cells #[.int .i64 k, .int .i64 0, .string ⟨#[]⟩, .slice none 0 0, .slice D n cn] 25)).heap.size = w4.heap.size + 1 := Array.size_push _
  have hD5 : 0 < n → D = some ⟨g, 0, none⟩ ∧ ∃ cur, Blk (w4.alloc (.cells #[.int .i64 k, .int .i64 0, .string ⟨#[]⟩, .slice none 0 0, .slice D n cn] 25)) g cur 37 ∧ 24 ≤ cur.size := fun h => by
   obtain ⟨h1, cur, h2, h3⟩ := HD.out h
   exact ⟨h1, cur, h2.keep hf5, h3⟩
  have hfx : Fr W0 (w4.alloc (.cells #[.int .i64 k, .int .i64 0, .string ⟨#[]⟩, .slice none 0 0, .slice D n cn] 25)) := (HF3.out.trans HF4.out).trans hf5
  have hgg := HGG.out
  have hg3 := HF3.out.size
  generalize (w4.alloc (.cells #[.int .i64 k, .int .i64 0, .string ⟨#[]⟩, .slice none 0 0, .slice D n cn] 25)) = W5 at hb5 hs5 hD5 hfx ⊢
  have HGX : Hid (W0.heap.size ≤ g ∧ g ≠ w4.heap.size ∧ g ≤ W5.heap.size) := Lib.hid ⟨by omega, hgg.2.1, by omega⟩
  generalize w4.heap.size = X5 at hb5 HGX ⊢
  have HB5 := Lib.hid hb5
  have HD5 := Lib.hid hD5
  have HFX := Lib.hid hfx
  clear hb5 hf5 hs5 hD5 hfx hgg hg3 HF4 HGG HD r0 r1 r2 r3 r4
  go_wp2_with fail
  go_loopw [6] (fun j wr => ∃ (i : Nat), i ≤ n ∧ j = .int .i64 i ∧ Hid (FrX g W5 wr) ∧ Hid (0 < n → ∃ cur, Blk wr g cur 37 ∧ 24 ≤ cur.size)) (fun j _ => n - (intOf j).toNat)
  case atStart => exact ⟨0, by omega, rfl, Lib.hid (FrX.refl g W5), Lib.hid (fun h => (HD5.out h).2)⟩
  case round =>
   obtain ⟨i, hi, rfl, hX, hC⟩ := hrel
   have hn4 := HN.out
   have hb5 := HB5.out.frx hX.out (fun e => HGX.out.2.1 e.symm)
   obtain ⟨⟨z0, z1, z2, z3, z4⟩, _⟩ := box5 hb5
   have hn' : (n : Int) ≤ 4 := by omega
   by_cases hlt : i < n
   ·have hlt' : (i : Int) < (n : Int) := by omega
    obtain ⟨hDg, _⟩ := HD5.out (by omega)
    subst hDg
    obtain ⟨cur, hcur, hcs⟩ := hC.out (by omega)
    have q0 := hcur.cell (i * 6)
    rw [Array.getElem?_eq_getElem (by omega)] at q0
    have qf := hcur.free (i * 6)
    have hnx := hcur.set (i * 6) (.string ⟨#[115, 112, 111, 105, 108, 116]⟩)
    have HNX : Hid (∃ c, Blk (wr.setCell ⟨g, i * 6, none⟩ (.string ⟨#[115, 112, 111, 105, 108, 116]⟩)) g c 37 ∧ 24 ≤ c.size) := Lib.hid ⟨_, hnx, by simpa using hcs⟩
    clear hnx hb5 hcur
    go_wp2_with fail
    exact ⟨⟨i + 1, by omega, by go_num, Lib.hid (hX.out.setCell rfl _), Lib.hid (fun _ => HNX.out)⟩, by simp [intOf]; omega⟩
   ·obtain rfl : i = n := by omega
    have hfr : Fr W0 wr := Fr.thenY HFX.out HGX.out.1 HGX.out.2.2 hX.out
    obtain ⟨⟨r0, r1, r2, r3, r4⟩, _⟩ := box5 (HB0.out.keep hfr)
    have HFR := Lib.hid (HF0.out.trans hfr)
    clear hb5 hfr
    go_wp2_with (go_at_call 18; refine (HX.out _ HFR.out).mono ?_; rintro e w6 ⟨rfl, hf⟩; have HF6 := Lib.hid (HFR.out.trans hf); clear hf)
    go_ret
    exact ⟨by simp, HF6.out⟩
 ·have hc0 : ((c : Int) != 0) = true := by rw [bne_iff_ne]; omega
  clear hv hbk hT hnv hkv hc
  go_enter Tryz.func5, Tryz.ntmps5
  go_upto_region 1 with fail
  have hb0 := Blk.made w #[.int .i64 v.kd, .int .i64 v.nm, .string ⟨v.tx.toArray⟩, .slice A v.ls.length c0, .slice A' v.ms.length c0'] 25
  have hf0 : Fr w (w.alloc (.cells #[.int .i64 v.kd, .int .i64 v.nm, .string ⟨v.tx.toArray⟩, .slice A v.ls.length c0, .slice A' v.ms.length c0'] 25)) := (Fr.refl w).alloc _
  generalize (w.alloc (.cells #[.int .i64 v.kd, .int .i64 v.nm, .string ⟨v.tx.toArray⟩, .slice A v.ls.length c0, .slice A' v.ms.length c0'] 25)) = W0 at hb0 hf0 ⊢
  obtain ⟨X1, hX1⟩ : ∃ X, w.heap.size = X := ⟨_, rfl⟩
  rw [hX1] at hb0 ⊢
  clear hX1
  have HB0 := Lib.hid hb0
  have HF0 := Lib.hid hf0
  clear hb0 hf0
  go_wp2_with (first
   | (go_at_call 8; have hq := HF2.out; refine (awake15 _ (HT.out.keep (HF0.out.trans hq))).mono ?_; rintro e w9 ⟨rfl, hf⟩; have HF9 := Lib.hid ((HF0.out.trans hq).trans hf); clear hf hq)
   | (go_at_call 17; have hq := HF1.out; refine (HC.out _ (HF0.out.trans hq)).mono ?_; rintro e w2 ⟨rfl, hf⟩; have HF2 := Lib.hid (hq.trans hf); clear hf hq)
   | (go_at_call 8; refine (awake15 _ (HT.out.keep HF0.out)).mono ?_; rintro e w1 ⟨rfl, hf⟩; obtain ⟨⟨y0, y1, y2, y3, y4⟩, _⟩ := box5 (HB0.out.keep hf); have HF1 := Lib.hid hf; clear hf))
  go_ret
  exact ⟨rfl, HF9.out⟩
end Go.Proofs.YtgaiepficjiclaaGreatDoor
