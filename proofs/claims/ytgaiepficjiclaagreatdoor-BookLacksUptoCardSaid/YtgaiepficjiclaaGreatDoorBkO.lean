/- Chapter 15: BookLacks' walk. -/
import Derived.Test.YtgaiepficjiclaaGreatDoorBkE
import Derived.Test.YtgaiepficjiclaaGreatDoorBkM
namespace Go.Proofs.YtgaiepficjiclaaGreatDoor
set_option maxRecDepth 100000
set_option maxHeartbeats 8000000
set_option linter.unusedVariables false
set_option linter.unusedSimpArgs false
open Go.RowKit

theorem Bk.wo_nv : ∀ (m : List (List UInt8 × JV)) (s : List UInt8), Rd.nvM (Bk.woM m s) ≤ Rd.nvM m
 | [], s => Nat.le_refl _
 | p :: m, s => by
  have ih := Bk.wo_nv m s
  unfold Bk.woM at ih ⊢
  rw [Rd.nvM_cons]
  by_cases h : p.1 = s
  ·rw [List.filter_cons_of_neg (by simp [h])]; omega
  ·rw [List.filter_cons_of_pos (by simp [h]), Rd.nvM_cons]; omega
theorem bklacks_law (v : JV) (A : Option Addr) (c0 : Nat) (A' : Option Addr) (c0' : Nat) (S : ByteArray) (w : World) (hv : InV w (Lo w.heap.size) v (vA v A c0 A' c0')) (hbk : JV.bulk v ≤ 1048576) (hT : LowTabs w) :
  Calls Tryz.prog 7 #[vA v A c0 A' c0', .string S] w fun e w' => e = .returned (.bool true) ∧ Fr w w' := by
 obtain ⟨s, rfl⟩ : ∃ s : List UInt8, S = ⟨s.toArray⟩ := ⟨S.data.toList, by cases S; simp⟩
 have HT := Lib.hid hT
 have HA : Hid (vA v A c0 A' c0' = .agg #[.int .i64 v.kd, .int .i64 v.nm, .string ⟨v.tx.toArray⟩, .slice A v.ls.length c0, .slice A' v.ms.length c0']) := rfl
 have hnv := nv_bulk v
 have hml := Cp.nvM_len v.ms
 have hne := Pt.nv_eq v
 have hml2 : v.ms.length ≤ 1048575 := by omega
 have hkv : ∀ W, Fr w W → InV W (Lo W.heap.size) v (vA v A c0 A' c0') := fun W hW => (hv.keep (Nat.le_refl _) hW).lo hW.size
 have HFW : Hid (∀ W, Fr w W → Calls Tryz.prog 9 #[.agg #[.int .i64 v.kd, .int .i64 v.nm, .string ⟨v.tx.toArray⟩, .slice A v.ls.length c0, .slice A' v.ms.length c0'], .int .i64 1500] W fun e w' => (∃ b : Bool, e = .returned (.bool b)) ∧ Fr W w') := Lib.hid (fun W hW => few7_is v A c0 A' c0' W (hkv W hW) (by omega) 1500 (by decide) (by decide))
 obtain ⟨n, hn⟩ : ∃ n, (Bk.wrong v).length = n := ⟨_, rfl⟩
 have HCK : Hid (∀ W, Fr w W → Calls Tryz.prog 11 #[.agg #[.int .i64 v.kd, .int .i64 v.nm, .string ⟨v.tx.toArray⟩, .slice A v.ls.length c0, .slice A' v.ms.length c0']] W fun e w' => (∃ E c, e = .returned (.slice E n c)) ∧ Fr W w') := Lib.hid (fun W hW => by
  refine (bkcheck_is v A c0 A' c0' W W.heap.size (Nat.le_refl _) (hkv W hW) (by omega)).mono ?_
  rintro e w' ⟨⟨E, c, rfl, _⟩, hf⟩
  exact ⟨⟨E, c, by rw [hn]⟩, hf⟩)
 rw [HA.out]
 by_cases hw : Bk.wrong v = []
 ·have hn0 : n = 0 := by rw [← hn, hw]; rfl
  subst hn0
  have h6 : v.kd = 6 := (Bk.wrong_nil.1 hw).1
  obtain ⟨l, hl⟩ : ∃ l, Bk.woM v.ms s = l := ⟨_, rfl⟩
  have hll := Bk.wo_len v.ms s
  have hnl : Rd.nv (JV.mapV l) ≤ 1048576 := by
   have h1 := Bk.wo_nv v.ms s
   have h2 := Pt.nv_eq (JV.mapV l)
   have h3 : Rd.nvL (JV.mapV l).ls = 0 := rfl
   have h4 : Rd.nvM (JV.mapV l).ms = Rd.nvM l := rfl
   rw [hl] at h1
   omega
  have hwo := Bk.wrong_wo hw s
  rw [hl] at hll hwo
  have HWO : Hid (∀ W, Fr w W → Calls Tryz.prog 21 #[.agg #[.int .i64 v.kd, .int .i64 v.nm, .string ⟨v.tx.toArray⟩, .slice A v.ls.length c0, .slice A' v.ms.length c0'], .string ⟨s.toArray⟩] W fun e w' => (∃ (E : Option Addr) (g : Nat), e = .returned (.agg #[.int .i64 6, .int .i64 0, .string ⟨#[]⟩, .slice none 0 0, (.slice E l.length g)]) ∧ InV w' (Lo w'.heap.size) (JV.mapV l) (.agg #[.int .i64 6, .int .i64 0, .string ⟨#[]⟩, .slice none 0 0, (.slice E l.length g)])) ∧ Fr W w') := Lib.hid (fun W hW => by
   have h := without_is v A c0 A' c0' s W W.heap.size (Nat.le_refl _) (hkv W hW) (by omega)
   rw [if_pos h6, hl] at h
   refine h.mono ?_
   rintro e w' ⟨⟨E, g, rfl, hi⟩, hf⟩
   refine ⟨⟨E, g, rfl, ?_⟩, hf⟩
   exact InV.both (l := []) (A := none) (c := 0) (fun i h => absurd h (by simp)) (hi.map (fun b hb => by have := hf.size; rcases hb with hb | hb; (show b < _; omega); exact hb.2) (fun _ _ _ => rfl)) (by simp) (by omega) 6 0 [] (by decide) (by decide) (by decide) (by decide) (by simp))
  clear hv hbk hT hnv hml hne hkv hn hw h6
  go_enter Tryz.func7, Tryz.ntmps7
  go_upto_region 1 with fail
  have hb3 := Blk.made w #[.int .i64 v.kd, .int .i64 v.nm, .string ⟨v.tx.toArray⟩, .slice A v.ls.length c0, .slice A' v.ms.length c0'] 25
  have hf0 : Fr w (w.alloc (.cells #[.int .i64 v.kd, .int .i64 v.nm, .string ⟨v.tx.toArray⟩, .slice A v.ls.length c0, .slice A' v.ms.length c0'] 25)) := (Fr.refl w).alloc _
  generalize (w.alloc (.cells #[.int .i64 v.kd, .int .i64 v.nm, .string ⟨v.tx.toArray⟩, .slice A v.ls.length c0, .slice A' v.ms.length c0'] 25)) = W0 at hb3 hf0 ⊢
  obtain ⟨X3, hX3⟩ : ∃ X, w.heap.size = X := ⟨_, rfl⟩
  rw [hX3] at hb3 ⊢
  clear hX3
  have HB3 := Lib.hid hb3
  have HF0 := Lib.hid hf0
  clear hb3 hf0
  go_upto_region 3 with (first
   | (go_at_call 11; have hq := HF1.out; refine (HCK.out _ (HF0.out.trans hq)).mono ?_; rintro e w3 ⟨⟨E3, e3, rfl⟩, hf⟩; obtain ⟨⟨y0, y1, y2, y3, y4⟩, _⟩ := box5 (HB3.out.keep (hq.trans hf)); have HF3 := Lib.hid (hq.trans hf); clear hf hq)
   | (go_at_call 9; have hq := HFa.out; refine (HFW.out _ (HF0.out.trans hq)).mono ?_; rintro e w1 ⟨⟨b1, rfl⟩, hf⟩; obtain ⟨⟨y0, y1, y2, y3, y4⟩, _⟩ := box5 (HB3.out.keep (hq.trans hf)); have HF1 := Lib.hid (hq.trans hf); clear hf hq; cases b1)
   | (go_at_call 8; refine (awake15 _ (HT.out.keep HF0.out)).mono ?_; rintro e wa ⟨rfl, hf⟩; obtain ⟨⟨y0, y1, y2, y3, y4⟩, _⟩ := box5 (HB3.out.keep hf); have HFa := Lib.hid hf; clear hf))
  ·go_wp2_with (go_at_call 8; have hq := HF1.out; refine (awake15 _ (HT.out.keep (HF0.out.trans hq))).mono ?_; rintro e w9 ⟨rfl, hf⟩; have HF9 := Lib.hid ((HF0.out.trans hq).trans hf); clear hf hq)
   go_ret
   exact ⟨rfl, HF9.out⟩
  go_upto_region 4 with (go_at_call 21; refine (HWO.out _ (HF0.out.trans HF3.out)).mono ?_; rintro e w5 ⟨⟨E, g, rfl, hi⟩, hf⟩; have HI := Lib.hid hi; have HF4 := Lib.hid ((HF0.out.trans HF3.out).trans hf); clear hi hf)
  clear y0 y1 y2 y3 y4
  have hb5 := Blk.made w5 #[.int .i64 6, .int .i64 0, .string ⟨#[]⟩, .slice none 0 0, (.slice E l.length g)] 25
  have hf5 : Fr w (w5.alloc (.cells #[.int .i64 6, .int .i64 0, .string ⟨#[]⟩, .slice none 0 0, (.slice E l.length g)] 25)) := HF4.out.alloc _
  have hi5 : InV (w5.alloc (.cells #[.int .i64 6, .int .i64 0, .string ⟨#[]⟩, .slice none 0 0, (.slice E l.length g)] 25)) (Lo (w5.alloc (.cells #[.int .i64 6, .int .i64 0, .string ⟨#[]⟩, .slice none 0 0, (.slice E l.length g)] 25)).heap.size) (JV.mapV l) (.agg #[.int .i64 6, .int .i64 0, .string ⟨#[]⟩, .slice none 0 0, (.slice E l.length g)]) := (HI.out.keep (Nat.le_refl _) ((Fr.refl w5).alloc _)).lo ((Fr.refl w5).alloc _).size
  generalize (w5.alloc (.cells #[.int .i64 6, .int .i64 0, .string ⟨#[]⟩, .slice none 0 0, (.slice E l.length g)] 25)) = W5 at hb5 hf5 hi5 ⊢
  generalize w5.heap.size = X5 at hb5 ⊢
  obtain ⟨⟨z0, z1, z2, z3, z4⟩, _⟩ := box5 hb5
  have HB5 := Lib.hid hb5
  have HF5 := Lib.hid hf5
  have HI5 := Lib.hid hi5
  have HI5K : Hid (∀ W, Fr W5 W → InV W (Lo W.heap.size) (JV.mapV l) (.agg #[.int .i64 6, .int .i64 0, .string ⟨#[]⟩, .slice none 0 0, (.slice E l.length g)])) := Lib.hid (fun W hW => (HI5.out.keep (Nat.le_refl _) hW).lo hW.size)
  clear hb5 hf5 hi5 HI HF4 HF3 HFa HF1
  by_cases hsnName : s = Bk.nName
  ·have qnDesc : (s == ([100, 101, 115, 99, 114, 105, 112, 116, 105, 111, 110] : List UInt8)) = false := by rw [hsnName]; rfl
   have rnDesc : (s != ([100, 101, 115, 99, 114, 105, 112, 116, 105, 111, 110] : List UInt8)) = true := by rw [bne, qnDesc]; rfl
   have qnSub : (s == ([105, 115, 83, 117, 98, 115, 99, 114, 105, 98, 101, 100] : List UInt8)) = false := by rw [hsnName]; rfl
   have rnSub : (s != ([105, 115, 83, 117, 98, 115, 99, 114, 105, 98, 101, 100] : List UInt8)) = true := by rw [bne, qnSub]; rfl
   have qnName : (s == ([110, 97, 109, 101] : List UInt8)) = true := by rw [hsnName]; rfl
   have rnName : (s != ([110, 97, 109, 101] : List UInt8)) = false := by rw [bne, qnName]; rfl
   have qnSort : (s == ([115, 111, 114, 116, 79, 114, 100, 101, 114] : List UInt8)) = false := by rw [hsnName]; rfl
   have rnSort : (s != ([115, 111, 114, 116, 79, 114, 100, 101, 114] : List UInt8)) = true := by rw [bne, qnSort]; rfl
   have hwr : Bk.wrong (JV.mapV l) = [Bk.nName] := by rw [hwo, if_pos hsnName]
   have HCL : Hid (∀ (W : World) (E : Option Addr) (g : Nat), InV W (Lo W.heap.size) (JV.mapV l) (.agg #[.int .i64 6, .int .i64 0, .string ⟨#[]⟩, .slice none 0 0, (.slice E l.length g)]) → Calls Tryz.prog 11 #[.agg #[.int .i64 6, .int .i64 0, .string ⟨#[]⟩, .slice none 0 0, (.slice E l.length g)]] W fun e w' => (∃ E c, e = .returned (.slice E 1 c) ∧ PsC w' E [Bk.nName]) ∧ Fr W w') := Lib.hid (fun W E g h => by
    have k := bkcheck_is (JV.mapV l) none 0 E g W W.heap.size (Nat.le_refl _) h (by show l.length ≤ _; omega)
    rw [hwr] at k
    exact k)
   have HWH : Hid (∀ (W : World) (E : Option Addr) (g : Nat), InV W (Lo W.heap.size) (JV.mapV l) (.agg #[.int .i64 6, .int .i64 0, .string ⟨#[]⟩, .slice none 0 0, (.slice E l.length g)]) → Calls Tryz.prog 14 #[.agg #[.int .i64 6, .int .i64 0, .string ⟨#[]⟩, .slice none 0 0, (.slice E l.length g)]] W fun e w' => e = .returned (.agg #[.int .i64 0, .int .i64 0, .string ⟨#[]⟩, .slice none 0 0, .slice none 0 0]) ∧ Fr W w') := Lib.hid (fun W E g h => bkwhole_no (JV.mapV l) none 0 E g W W.heap.size (Nat.le_refl _) h hnl (by rw [hwr]; simp))
   have HSP : Hid (∀ (W : World) (E : Option Addr) (c b : Nat), PsC W E [Bk.nName] → PsC W (some ⟨b, 0, none⟩) [Bk.nName] → Calls Tryz.prog 10 #[.slice E 1 c, .slice (some ⟨b, 0, none⟩) 1 1] W fun e w' => e = .returned (.bool true) ∧ Fr W w') := Lib.hid (fun W E c b h1 h2 => sameparts_is [Bk.nName] E (some ⟨b, 0, none⟩) c 1 W h1 h2 (by simp))
   clear hwo hnl hwr hsnName hll
   go_wp2_with (first
    | (go_at_call 13; have hq := HG9.out; refine (same_zero _).mono ?_; rintro e w10 ⟨rfl, hf⟩; have HGA := Lib.hid (hq.trans hf); clear hf hq)
    | (go_at_call 14; have hq := HG8.out; refine (HWH.out _ _ _ (HI5K.out _ hq)).mono ?_; rintro e w9 ⟨rfl, hf⟩; have HG9 := Lib.hid (hq.trans hf); clear hf hq)
    | (go_at_call 10; have hq := HG7.out; refine (HSP.out _ _ _ _ (HP7.out.keep ((Fr.refl _).alloc _)) ?hlit).mono ?_; (case hlit => exact fun _ => ⟨_, 0, rfl, by simp, fun i hi => by rw [(Blk.made _ _ _).cell]; obtain rfl : i = 0 := (by simp at hi; omega); rfl⟩); rintro e w8 ⟨rfl, hf⟩; have HG8 := Lib.hid ((hq.alloc _).trans hf); obtain ⟨⟨p0, p1, p2, p3, p4⟩, _⟩ := box5 (HB5.out.keep HG8.out); clear hq hf)
    | (go_at_call 11; refine (HCL.out _ _ _ HI5.out).mono ?_; rintro e w7 ⟨⟨E7, e7, rfl, hp⟩, hf⟩; have HP7 := Lib.hid hp; have HG7 := Lib.hid hf; clear hp hf))
   go_ret
   exact ⟨rfl, HF5.out.trans HGA.out⟩
  by_cases hsnSort : s = Bk.nSort
  ·clear hsnName
   have qnDesc : (s == ([100, 101, 115, 99, 114, 105, 112, 116, 105, 111, 110] : List UInt8)) = false := by rw [hsnSort]; rfl
   have rnDesc : (s != ([100, 101, 115, 99, 114, 105, 112, 116, 105, 111, 110] : List UInt8)) = true := by rw [bne, qnDesc]; rfl
   have qnSub : (s == ([105, 115, 83, 117, 98, 115, 99, 114, 105, 98, 101, 100] : List UInt8)) = false := by rw [hsnSort]; rfl
   have rnSub : (s != ([105, 115, 83, 117, 98, 115, 99, 114, 105, 98, 101, 100] : List UInt8)) = true := by rw [bne, qnSub]; rfl
   have qnName : (s == ([110, 97, 109, 101] : List UInt8)) = false := by rw [hsnSort]; rfl
   have rnName : (s != ([110, 97, 109, 101] : List UInt8)) = true := by rw [bne, qnName]; rfl
   have qnSort : (s == ([115, 111, 114, 116, 79, 114, 100, 101, 114] : List UInt8)) = true := by rw [hsnSort]; rfl
   have rnSort : (s != ([115, 111, 114, 116, 79, 114, 100, 101, 114] : List UInt8)) = false := by rw [bne, qnSort]; rfl
   have hwr : Bk.wrong (JV.mapV l) = [] := by rw [hwo, if_neg (by rw [hsnSort]; decide)]
   obtain ⟨wm, hwm⟩ : ∃ wm, Bk.wholeM (JV.mapV l) = wm := ⟨_, rfl⟩
   have hwmn : wm.length = 4 := by rw [← hwm]; rfl
   have HWH : Hid (∀ (W : World) (E : Option Addr) (g : Nat), InV W (Lo W.heap.size) (JV.mapV l) (.agg #[.int .i64 6, .int .i64 0, .string ⟨#[]⟩, .slice none 0 0, (.slice E l.length g)]) → Calls Tryz.prog 14 #[.agg #[.int .i64 6, .int .i64 0, .string ⟨#[]⟩, .slice none 0 0, (.slice E l.length g)]] W fun e w' => (∃ E c, e = .returned (.agg #[.int .i64 6, .int .i64 0, .string ⟨#[]⟩, .slice none 0 0, (.slice E 4 c)]) ∧ InV w' (Lo w'.heap.size) (JV.mapV wm) (.agg #[.int .i64 6, .int .i64 0, .string ⟨#[]⟩, .slice none 0 0, (.slice E 4 c)])) ∧ Fr W w') := Lib.hid (fun W E g h => by
    rw [← hwm]
    exact (bkwhole_yes (JV.mapV l) none 0 E g W W.heap.size (Nat.le_refl _) h hnl hwr).mono (by rintro e w' ⟨⟨E, c, rfl, hi, _⟩, hf⟩; exact ⟨⟨E, c, rfl, hi.more (fun b hb => hb.2)⟩, hf⟩))
   have hge : Pt.get (JV.mapV wm) s = some (.mk 3 0 [] [] []) := by
    rw [← hwm, hsnSort, (Bk.get_whole (JV.mapV l)).2.2.2]
    unfold Bk.val
    rw [← hl, Bk.val_wo v Bk.nSort, if_pos hsnSort.symm]; rfl
   have HGE : Hid (∀ (W : World) (E : Option Addr) (c : Nat), InV W (Lo W.heap.size) (JV.mapV wm) (.agg #[.int .i64 6, .int .i64 0, .string ⟨#[]⟩, .slice none 0 0, (.slice E 4 c)]) → Calls Tryz.prog 16 #[.agg #[.int .i64 6, .int .i64 0, .string ⟨#[]⟩, .slice none 0 0, (.slice E 4 c)], .string ⟨s.toArray⟩] W fun e w' => ∃ (C : Option Addr) (f : Nat) (C' : Option Addr) (f' : Nat), e = .returned (.tuple #[.agg #[.int .i64 3, .int .i64 0, .string ⟨#[]⟩, .slice C 0 f, .slice C' 0 f'], .bool true]) ∧ Fr W w') := Lib.hid (fun W E c h => by
    have k := get_is (JV.mapV wm) none 0 E c s W W.heap.size (Nat.le_refl _) (by show InV _ _ _ (.agg #[_, _, _, _, .slice E wm.length c]); rw [hwmn]; exact h)
    rw [hge] at k
    have e : (JV.mapV wm).ms.length = 4 := hwmn
    rw [e] at k
    exact k.mono (fun e w' ⟨C, f, C', f', h1, _, h3⟩ => ⟨C, f, C', f', h1, h3⟩))
   clear hwo hnl hwr hwm hwmn hge hll hl hsnSort
   go_wp2_with (first
    | (go_at_call 16; have hq := HG6.out; refine (HGE.out _ _ _ HI6.out).mono ?_; rintro e w7 ⟨C, f, C', f', rfl, hf⟩; have HG7 := Lib.hid (hq.trans hf); obtain ⟨⟨p0, p1, p2, p3, p4⟩, _⟩ := box5 (HB5.out.keep (HG7.out.alloc (.cells #[.int .i64 3, .int .i64 0, .string ⟨#[]⟩, .slice C 0 f, .slice C' 0 f'] 25))); clear hf hq)
    | (go_at_call 14; refine (HWH.out _ _ _ HI5.out).mono ?_; rintro e w6 ⟨⟨E6, e6, rfl, hi⟩, hf⟩; have HI6 := Lib.hid hi; have HG6 := Lib.hid hf; clear hi hf))
   go_ret
   exact ⟨rfl, HF5.out.trans (HG7.out.alloc _)⟩
  by_cases hsnSub : s = Bk.nSub
  ·clear hsnName hsnSort
   have qnDesc : (s == ([100, 101, 115, 99, 114, 105, 112, 116, 105, 111, 110] : List UInt8)) = false := by rw [hsnSub]; rfl
   have rnDesc : (s != ([100, 101, 115, 99, 114, 105, 112, 116, 105, 111, 110] : List UInt8)) = true := by rw [bne, qnDesc]; rfl
   have qnSub : (s == ([105, 115, 83, 117, 98, 115, 99, 114, 105, 98, 101, 100] : List UInt8)) = true := by rw [hsnSub]; rfl
   have rnSub : (s != ([105, 115, 83, 117, 98, 115, 99, 114, 105, 98, 101, 100] : List UInt8)) = false := by rw [bne, qnSub]; rfl
   have qnName : (s == ([110, 97, 109, 101] : List UInt8)) = false := by rw [hsnSub]; rfl
   have rnName : (s != ([110, 97, 109, 101] : List UInt8)) = true := by rw [bne, qnName]; rfl
   have qnSort : (s == ([115, 111, 114, 116, 79, 114, 100, 101, 114] : List UInt8)) = false := by rw [hsnSub]; rfl
   have rnSort : (s != ([115, 111, 114, 116, 79, 114, 100, 101, 114] : List UInt8)) = true := by rw [bne, qnSort]; rfl
   have hwr : Bk.wrong (JV.mapV l) = [] := by rw [hwo, if_neg (by rw [hsnSub]; decide)]
   obtain ⟨wm, hwm⟩ : ∃ wm, Bk.wholeM (JV.mapV l) = wm := ⟨_, rfl⟩
   have hwmn : wm.length = 4 := by rw [← hwm]; rfl
   have HWH : Hid (∀ (W : World) (E : Option Addr) (g : Nat), InV W (Lo W.heap.size) (JV.mapV l) (.agg #[.int .i64 6, .int .i64 0, .string ⟨#[]⟩, .slice none 0 0, (.slice E l.length g)]) → Calls Tryz.prog 14 #[.agg #[.int .i64 6, .int .i64 0, .string ⟨#[]⟩, .slice none 0 0, (.slice E l.length g)]] W fun e w' => (∃ E c, e = .returned (.agg #[.int .i64 6, .int .i64 0, .string ⟨#[]⟩, .slice none 0 0, (.slice E 4 c)]) ∧ InV w' (Lo w'.heap.size) (JV.mapV wm) (.agg #[.int .i64 6, .int .i64 0, .string ⟨#[]⟩, .slice none 0 0, (.slice E 4 c)])) ∧ Fr W w') := Lib.hid (fun W E g h => by
    rw [← hwm]
    exact (bkwhole_yes (JV.mapV l) none 0 E g W W.heap.size (Nat.le_refl _) h hnl hwr).mono (by rintro e w' ⟨⟨E, c, rfl, hi, _⟩, hf⟩; exact ⟨⟨E, c, rfl, hi.more (fun b hb => hb.2)⟩, hf⟩))
   have hge : Pt.get (JV.mapV wm) s = some (.mk 2 1 [] [] []) := by
    rw [← hwm, hsnSub, (Bk.get_whole (JV.mapV l)).2.1]
    unfold Bk.val
    rw [← hl, Bk.val_wo v Bk.nSub, if_pos hsnSub.symm]; rfl
   have HGE : Hid (∀ (W : World) (E : Option Addr) (c : Nat), InV W (Lo W.heap.size) (JV.mapV wm) (.agg #[.int .i64 6, .int .i64 0, .string ⟨#[]⟩, .slice none 0 0, (.slice E 4 c)]) → Calls Tryz.prog 16 #[.agg #[.int .i64 6, .int .i64 0, .string ⟨#[]⟩, .slice none 0 0, (.slice E 4 c)], .string ⟨s.toArray⟩] W fun e w' => ∃ (C : Option Addr) (f : Nat) (C' : Option Addr) (f' : Nat), e = .returned (.tuple #[.agg #[.int .i64 2, .int .i64 1, .string ⟨#[]⟩, .slice C 0 f, .slice C' 0 f'], .bool true]) ∧ Fr W w') := Lib.hid (fun W E c h => by
    have k := get_is (JV.mapV wm) none 0 E c s W W.heap.size (Nat.le_refl _) (by show InV _ _ _ (.agg #[_, _, _, _, .slice E wm.length c]); rw [hwmn]; exact h)
    rw [hge] at k
    have e : (JV.mapV wm).ms.length = 4 := hwmn
    rw [e] at k
    exact k.mono (fun e w' ⟨C, f, C', f', h1, _, h3⟩ => ⟨C, f, C', f', h1, h3⟩))
   clear hwo hnl hwr hwm hwmn hge hll hl hsnSub
   go_wp2_with (first
    | (go_at_call 16; have hq := HG6.out; refine (HGE.out _ _ _ HI6.out).mono ?_; rintro e w7 ⟨C, f, C', f', rfl, hf⟩; have HG7 := Lib.hid (hq.trans hf); obtain ⟨⟨p0, p1, p2, p3, p4⟩, _⟩ := box5 (HB5.out.keep (HG7.out.alloc (.cells #[.int .i64 2, .int .i64 1, .string ⟨#[]⟩, .slice C 0 f, .slice C' 0 f'] 25))); clear hf hq)
    | (go_at_call 14; refine (HWH.out _ _ _ HI5.out).mono ?_; rintro e w6 ⟨⟨E6, e6, rfl, hi⟩, hf⟩; have HI6 := Lib.hid hi; have HG6 := Lib.hid hf; clear hi hf))
   go_ret
   exact ⟨rfl, HF5.out.trans (HG7.out.alloc _)⟩
  by_cases hsnDesc : s = Bk.nDesc
  ·clear hsnName hsnSort hsnSub
   have qnDesc : (s == ([100, 101, 115, 99, 114, 105, 112, 116, 105, 111, 110] : List UInt8)) = true := by rw [hsnDesc]; rfl
   have rnDesc : (s != ([100, 101, 115, 99, 114, 105, 112, 116, 105, 111, 110] : List UInt8)) = false := by rw [bne, qnDesc]; rfl
   have qnSub : (s == ([105, 115, 83, 117, 98, 115, 99, 114, 105, 98, 101, 100] : List UInt8)) = false := by rw [hsnDesc]; rfl
   have rnSub : (s != ([105, 115, 83, 117, 98, 115, 99, 114, 105, 98, 101, 100] : List UInt8)) = true := by rw [bne, qnSub]; rfl
   have qnName : (s == ([110, 97, 109, 101] : List UInt8)) = false := by rw [hsnDesc]; rfl
   have rnName : (s != ([110, 97, 109, 101] : List UInt8)) = true := by rw [bne, qnName]; rfl
   have qnSort : (s == ([115, 111, 114, 116, 79, 114, 100, 101, 114] : List UInt8)) = false := by rw [hsnDesc]; rfl
   have rnSort : (s != ([115, 111, 114, 116, 79, 114, 100, 101, 114] : List UInt8)) = true := by rw [bne, qnSort]; rfl
   have hwr : Bk.wrong (JV.mapV l) = [] := by rw [hwo, if_neg (by rw [hsnDesc]; decide)]
   obtain ⟨wm, hwm⟩ : ∃ wm, Bk.wholeM (JV.mapV l) = wm := ⟨_, rfl⟩
   have hwmn : wm.length = 4 := by rw [← hwm]; rfl
   have HWH : Hid (∀ (W : World) (E : Option Addr) (g : Nat), InV W (Lo W.heap.size) (JV.mapV l) (.agg #[.int .i64 6, .int .i64 0, .string ⟨#[]⟩, .slice none 0 0, (.slice E l.length g)]) → Calls Tryz.prog 14 #[.agg #[.int .i64 6, .int .i64 0, .string ⟨#[]⟩, .slice none 0 0, (.slice E l.length g)]] W fun e w' => (∃ E c, e = .returned (.agg #[.int .i64 6, .int .i64 0, .string ⟨#[]⟩, .slice none 0 0, (.slice E 4 c)]) ∧ InV w' (Lo w'.heap.size) (JV.mapV wm) (.agg #[.int .i64 6, .int .i64 0, .string ⟨#[]⟩, .slice none 0 0, (.slice E 4 c)])) ∧ Fr W w') := Lib.hid (fun W E g h => by
    rw [← hwm]
    exact (bkwhole_yes (JV.mapV l) none 0 E g W W.heap.size (Nat.le_refl _) h hnl hwr).mono (by rintro e w' ⟨⟨E, c, rfl, hi, _⟩, hf⟩; exact ⟨⟨E, c, rfl, hi.more (fun b hb => hb.2)⟩, hf⟩))
   have hge : Pt.get (JV.mapV wm) s = some (.mk 1 0 [] [] []) := by
    rw [← hwm, hsnDesc, (Bk.get_whole (JV.mapV l)).1]
    unfold Bk.val
    rw [← hl, Bk.val_wo v Bk.nDesc, if_pos hsnDesc.symm]; rfl
   have HGE : Hid (∀ (W : World) (E : Option Addr) (c : Nat), InV W (Lo W.heap.size) (JV.mapV wm) (.agg #[.int .i64 6, .int .i64 0, .string ⟨#[]⟩, .slice none 0 0, (.slice E 4 c)]) → Calls Tryz.prog 16 #[.agg #[.int .i64 6, .int .i64 0, .string ⟨#[]⟩, .slice none 0 0, (.slice E 4 c)], .string ⟨s.toArray⟩] W fun e w' => ∃ (C : Option Addr) (f : Nat) (C' : Option Addr) (f' : Nat), e = .returned (.tuple #[.agg #[.int .i64 1, .int .i64 0, .string ⟨#[]⟩, .slice C 0 f, .slice C' 0 f'], .bool true]) ∧ Fr W w') := Lib.hid (fun W E c h => by
    have k := get_is (JV.mapV wm) none 0 E c s W W.heap.size (Nat.le_refl _) (by show InV _ _ _ (.agg #[_, _, _, _, .slice E wm.length c]); rw [hwmn]; exact h)
    rw [hge] at k
    have e : (JV.mapV wm).ms.length = 4 := hwmn
    rw [e] at k
    exact k.mono (fun e w' ⟨C, f, C', f', h1, _, h3⟩ => ⟨C, f, C', f', h1, h3⟩))
   have HCL : Hid (∀ (W : World) (E : Option Addr) (g : Nat), InV W (Lo W.heap.size) (JV.mapV l) (.agg #[.int .i64 6, .int .i64 0, .string ⟨#[]⟩, .slice none 0 0, (.slice E l.length g)]) → Calls Tryz.prog 11 #[.agg #[.int .i64 6, .int .i64 0, .string ⟨#[]⟩, .slice none 0 0, (.slice E l.length g)]] W fun e w' => (∃ E c, e = .returned (.slice E 0 c) ∧ PsC w' E []) ∧ Fr W w') := Lib.hid (fun W E g h => by
    have k := bkcheck_is (JV.mapV l) none 0 E g W W.heap.size (Nat.le_refl _) h (by show l.length ≤ _; omega)
    rw [hwr] at k
    exact k)
   clear hwo hnl hwr hwm hwmn hge hll hl hsnDesc
   go_wp2_with (first
    | (go_at_call 11; have hq := HG7.out; refine (HCL.out _ _ _ (HI5K.out _ (hq.alloc (.cells #[.int .i64 1, .int .i64 0, .string ⟨#[]⟩, .slice C 0 f, .slice C' 0 f'] 25)))).mono ?_; rintro e w8 ⟨⟨E8, e8, rfl, _⟩, hf⟩; obtain ⟨⟨q0, q1, q2, q3, q4⟩, _⟩ := box5 ((Blk.made w7 #[.int .i64 1, .int .i64 0, .string ⟨#[]⟩, .slice C 0 f, .slice C' 0 f'] 25).keep hf); have HG8 := Lib.hid ((hq.alloc (.cells #[.int .i64 1, .int .i64 0, .string ⟨#[]⟩, .slice C 0 f, .slice C' 0 f'] 25)).trans hf); clear hf hq)
    | (go_at_call 16; have hq := HG6.out; refine (HGE.out _ _ _ HI6.out).mono ?_; rintro e w7 ⟨C, f, C', f', rfl, hf⟩; have HG7 := Lib.hid (hq.trans hf); obtain ⟨⟨p0, p1, p2, p3, p4⟩, _⟩ := box5 (HB5.out.keep (HG7.out.alloc (.cells #[.int .i64 1, .int .i64 0, .string ⟨#[]⟩, .slice C 0 f, .slice C' 0 f'] 25))); clear hf hq)
    | (go_at_call 14; refine (HWH.out _ _ _ HI5.out).mono ?_; rintro e w6 ⟨⟨E6, e6, rfl, hi⟩, hf⟩; have HI6 := Lib.hid hi; have HG6 := Lib.hid hf; clear hi hf))
   go_ret
   exact ⟨rfl, HF5.out.trans HG8.out⟩
  have qnDesc : (s == ([100, 101, 115, 99, 114, 105, 112, 116, 105, 111, 110] : List UInt8)) = false := beq_eq_false_iff_ne.2 hsnDesc
  have rnDesc : (s != ([100, 101, 115, 99, 114, 105, 112, 116, 105, 111, 110] : List UInt8)) = true := by rw [bne, qnDesc]; rfl
  have qnSub : (s == ([105, 115, 83, 117, 98, 115, 99, 114, 105, 98, 101, 100] : List UInt8)) = false := beq_eq_false_iff_ne.2 hsnSub
  have rnSub : (s != ([105, 115, 83, 117, 98, 115, 99, 114, 105, 98, 101, 100] : List UInt8)) = true := by rw [bne, qnSub]; rfl
  have qnName : (s == ([110, 97, 109, 101] : List UInt8)) = false := beq_eq_false_iff_ne.2 hsnName
  have rnName : (s != ([110, 97, 109, 101] : List UInt8)) = true := by rw [bne, qnName]; rfl
  have qnSort : (s == ([115, 111, 114, 116, 79, 114, 100, 101, 114] : List UInt8)) = false := beq_eq_false_iff_ne.2 hsnSort
  have rnSort : (s != ([115, 111, 114, 116, 79, 114, 100, 101, 114] : List UInt8)) = true := by rw [bne, qnSort]; rfl
  have hwr : Bk.wrong (JV.mapV l) = [] := by rw [hwo, if_neg hsnName]
  obtain ⟨wm, hwm⟩ : ∃ wm, Bk.wholeM (JV.mapV l) = wm := ⟨_, rfl⟩
  have hwmn : wm.length = 4 := by rw [← hwm]; rfl
  have HWH : Hid (∀ (W : World) (E : Option Addr) (g : Nat), InV W (Lo W.heap.size) (JV.mapV l) (.agg #[.int .i64 6, .int .i64 0, .string ⟨#[]⟩, .slice none 0 0, (.slice E l.length g)]) → Calls Tryz.prog 14 #[.agg #[.int .i64 6, .int .i64 0, .string ⟨#[]⟩, .slice none 0 0, (.slice E l.length g)]] W fun e w' => (∃ E c, e = .returned (.agg #[.int .i64 6, .int .i64 0, .string ⟨#[]⟩, .slice none 0 0, (.slice E 4 c)]) ∧ InV w' (Lo w'.heap.size) (JV.mapV wm) (.agg #[.int .i64 6, .int .i64 0, .string ⟨#[]⟩, .slice none 0 0, (.slice E 4 c)])) ∧ Fr W w') := Lib.hid (fun W E g h => by
   rw [← hwm]
   exact (bkwhole_yes (JV.mapV l) none 0 E g W W.heap.size (Nat.le_refl _) h hnl hwr).mono (by rintro e w' ⟨⟨E, c, rfl, hi, _⟩, hf⟩; exact ⟨⟨E, c, rfl, hi.more (fun b hb => hb.2)⟩, hf⟩))
  have hge : Pt.get (JV.mapV wm) s = none := by
   rw [← hwm]
   have a1 : ¬ Bk.nDesc = s := fun e => hsnDesc e.symm
   have a2 : ¬ Bk.nSub = s := fun e => hsnSub e.symm
   have a3 : ¬ Bk.nName = s := fun e => hsnName e.symm
   have a4 : ¬ Bk.nSort = s := fun e => hsnSort e.symm
   simp [Pt.get, Bk.wholeM, Pt.getM, JV.mapV, JV.kd, JV.ms, a1, a2, a3, a4]
  have HGE : Hid (∀ (W : World) (E : Option Addr) (c : Nat), InV W (Lo W.heap.size) (JV.mapV wm) (.agg #[.int .i64 6, .int .i64 0, .string ⟨#[]⟩, .slice none 0 0, (.slice E 4 c)]) → Calls Tryz.prog 16 #[.agg #[.int .i64 6, .int .i64 0, .string ⟨#[]⟩, .slice none 0 0, (.slice E 4 c)], .string ⟨s.toArray⟩] W fun e w' => e = .returned (.tuple #[.agg #[.int .i64 0, .int .i64 0, .string ⟨#[]⟩, .slice none 0 0, .slice none 0 0], .bool false]) ∧ Fr W w') := Lib.hid (fun W E c h => by
   have k := get_is (JV.mapV wm) none 0 E c s W W.heap.size (Nat.le_refl _) (by show InV _ _ _ (.agg #[_, _, _, _, .slice E wm.length c]); rw [hwmn]; exact h)
   rw [hge] at k
   have e : (JV.mapV wm).ms.length = 4 := hwmn
   rw [e] at k
   exact k)
  have HCL : Hid (∀ (W : World) (E : Option Addr) (g : Nat), InV W (Lo W.heap.size) (JV.mapV l) (.agg #[.int .i64 6, .int .i64 0, .string ⟨#[]⟩, .slice none 0 0, (.slice E l.length g)]) → Calls Tryz.prog 11 #[.agg #[.int .i64 6, .int .i64 0, .string ⟨#[]⟩, .slice none 0 0, (.slice E l.length g)]] W fun e w' => (∃ E c, e = .returned (.slice E 0 c) ∧ PsC w' E []) ∧ Fr W w') := Lib.hid (fun W E g h => by
   have k := bkcheck_is (JV.mapV l) none 0 E g W W.heap.size (Nat.le_refl _) h (by show l.length ≤ _; omega)
   rw [hwr] at k
   exact k)
  clear hwo hnl hwr hwm hwmn hge hll hl hsnDesc hsnSub hsnName hsnSort
  go_wp2_with (first
   | (go_at_call 11; have hq := HG7.out; refine (HCL.out _ _ _ (HI5K.out _ (hq.alloc (.cells #[.int .i64 0, .int .i64 0, .string ⟨#[]⟩, .slice none 0 0, .slice none 0 0] 25)))).mono ?_; rintro e w8 ⟨⟨E8, e8, rfl, _⟩, hf⟩; obtain ⟨⟨q0, q1, q2, q3, q4⟩, _⟩ := box5 ((Blk.made w7 #[.int .i64 0, .int .i64 0, .string ⟨#[]⟩, .slice none 0 0, .slice none 0 0] 25).keep hf); have HG8 := Lib.hid ((hq.alloc (.cells #[.int .i64 0, .int .i64 0, .string ⟨#[]⟩, .slice none 0 0, .slice none 0 0] 25)).trans hf); clear hf hq)
   | (go_at_call 16; have hq := HG6.out; refine (HGE.out _ _ _ HI6.out).mono ?_; rintro e w7 ⟨rfl, hf⟩; have HG7 := Lib.hid (hq.trans hf); obtain ⟨⟨p0, p1, p2, p3, p4⟩, _⟩ := box5 (HB5.out.keep (HG7.out.alloc (.cells #[.int .i64 0, .int .i64 0, .string ⟨#[]⟩, .slice none 0 0, .slice none 0 0] 25))); clear hf hq)
   | (go_at_call 14; refine (HWH.out _ _ _ HI5.out).mono ?_; rintro e w6 ⟨⟨E6, e6, rfl, hi⟩, hf⟩; have HI6 := Lib.hid hi; have HG6 := Lib.hid hf; clear hi hf))
  go_ret
  exact ⟨rfl, HF5.out.trans HG8.out⟩
 ·have hn0 : 0 < n := by rw [← hn]; exact List.length_pos_iff.2 hw
  have hn0' : (0 : Int) < (n : Int) := by omega
  clear hv hbk hT hnv hml hne hkv hn hw
  go_enter Tryz.func7, Tryz.ntmps7
  go_upto_region 1 with fail
  have hb3 := Blk.made w #[.int .i64 v.kd, .int .i64 v.nm, .string ⟨v.tx.toArray⟩, .slice A v.ls.length c0, .slice A' v.ms.length c0'] 25
  have hf0 : Fr w (w.alloc (.cells #[.int .i64 v.kd, .int .i64 v.nm, .string ⟨v.tx.toArray⟩, .slice A v.ls.length c0, .slice A' v.ms.length c0'] 25)) := (Fr.refl w).alloc _
  generalize (w.alloc (.cells #[.int .i64 v.kd, .int .i64 v.nm, .string ⟨v.tx.toArray⟩, .slice A v.ls.length c0, .slice A' v.ms.length c0'] 25)) = W0 at hb3 hf0 ⊢
  obtain ⟨X3, hX3⟩ : ∃ X, w.heap.size = X := ⟨_, rfl⟩
  rw [hX3] at hb3 ⊢
  clear hX3
  have HB3 := Lib.hid hb3
  have HF0 := Lib.hid hf0
  clear hb3 hf0
  go_wp2_with (first
   | (go_at_call 8; have hq := HF3.out; refine (awake15 _ (HT.out.keep (HF0.out.trans hq))).mono ?_; rintro e w9 ⟨rfl, hf⟩; have HF9 := Lib.hid ((HF0.out.trans hq).trans hf); clear hf hq)
   | (go_at_call 11; have hq := HF1.out; refine (HCK.out _ (HF0.out.trans hq)).mono ?_; rintro e w3 ⟨⟨E3, e3, rfl⟩, hf⟩; obtain ⟨⟨y0, y1, y2, y3, y4⟩, _⟩ := box5 (HB3.out.keep (hq.trans hf)); have HF3 := Lib.hid (hq.trans hf); clear hf hq)
   | (go_at_call 8; have hq := HF1.out; refine (awake15 _ (HT.out.keep (HF0.out.trans hq))).mono ?_; rintro e w9 ⟨rfl, hf⟩; have HF9 := Lib.hid ((HF0.out.trans hq).trans hf); clear hf hq)
   | (go_at_call 9; have hq := HFa.out; refine (HFW.out _ (HF0.out.trans hq)).mono ?_; rintro e w1 ⟨⟨b1, rfl⟩, hf⟩; obtain ⟨⟨y0, y1, y2, y3, y4⟩, _⟩ := box5 (HB3.out.keep (hq.trans hf)); have HF1 := Lib.hid (hq.trans hf); clear hf hq; cases b1)
   | (go_at_call 8; refine (awake15 _ (HT.out.keep HF0.out)).mono ?_; rintro e wa ⟨rfl, hf⟩; obtain ⟨⟨y0, y1, y2, y3, y4⟩, _⟩ := box5 (HB3.out.keep hf); have HFa := Lib.hid hf; clear hf))
  all_goals (go_ret; exact ⟨rfl, HF9.out⟩)
end Go.Proofs.YtgaiepficjiclaaGreatDoor
