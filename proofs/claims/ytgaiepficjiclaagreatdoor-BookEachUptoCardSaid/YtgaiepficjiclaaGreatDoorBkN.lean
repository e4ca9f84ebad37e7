/- Chapter 15: BookEach's walk. -/
import Derived.Test.YtgaiepficjiclaaGreatDoorBkM
namespace Go.Proofs.YtgaiepficjiclaaGreatDoor
set_option maxRecDepth 100000
set_option maxHeartbeats 4000000
set_option linter.unusedVariables false
set_option linter.unusedSimpArgs false
open Go.RowKit

theorem Pt.withM_len : ∀ (m : List (List UInt8 × JV)) (s : List UInt8) (x : JV), (Pt.withM m s x).length ≤ m.length + 1
 | [], s, x => Nat.le_refl _
 | p :: m, s, x => by
  unfold Pt.withM
  split
  ·simp only [List.length_cons]; omega
  ·have := Pt.withM_len m s x
   simp only [List.length_cons]; omega
theorem bkeach_law (v x : JV) (A : Option Addr) (c0 : Nat) (A' : Option Addr) (c0' : Nat) (D : Option Addr) (d0 : Nat) (D' : Option Addr) (d0' : Nat) (S : ByteArray) (w : World) (hv : InV w (Lo w.heap.size) v (vA v A c0 A' c0')) (hx : InV w (Lo w.heap.size) x (vA x D d0 D' d0')) (hbk : JV.bulk v ≤ 1048576) (hbx : JV.bulk x ≤ 1048576) (hS : S.size ≤ 140737488351232) (hT : LowTabs w) :
  Calls Tryz.prog 6 #[vA v A c0 A' c0', .string S, vA x D d0 D' d0'] w fun e w' => e = .returned (.bool true) ∧ Fr w w' := by
 obtain ⟨s, rfl⟩ : ∃ s : List UInt8, S = ⟨s.toArray⟩ := ⟨S.data.toList, by cases S; simp⟩
 have hs : s.length ≤ 140737488351232 := by simpa [ByteArray.size] using hS
 have HT := Lib.hid hT
 have HA : Hid (vA v A c0 A' c0' = .agg #[.int .i64 v.kd, .int .i64 v.nm, .string ⟨v.tx.toArray⟩, .slice A v.ls.length c0, .slice A' v.ms.length c0']) := rfl
 have HAX : Hid (vA x D d0 D' d0' = .agg #[.int .i64 x.kd, .int .i64 x.nm, .string ⟨x.tx.toArray⟩, .slice D x.ls.length d0, .slice D' x.ms.length d0']) := rfl
 have hnv := nv_bulk v
 have hnx := nv_bulk x
 have hml := Cp.nvM_len v.ms
 have hne := Pt.nv_eq v
 have hml2 : v.ms.length ≤ 1048575 := by omega
 have hml3 : (v.ms.length : Int) ≤ 1048575 := by omega
 have hkv : ∀ W, Fr w W → InV W (Lo W.heap.size) v (vA v A c0 A' c0') := fun W hW => (hv.keep (Nat.le_refl _) hW).lo hW.size
 have hkx : ∀ W, Fr w W → InV W (Lo W.heap.size) x (vA x D d0 D' d0') := fun W hW => (hx.keep (Nat.le_refl _) hW).lo hW.size
 have HFW : Hid (∀ W, Fr w W → Calls Tryz.prog 9 #[.agg #[.int .i64 v.kd, .int .i64 v.nm, .string ⟨v.tx.toArray⟩, .slice A v.ls.length c0, .slice A' v.ms.length c0'], .int .i64 1500] W fun e w' => (∃ b : Bool, e = .returned (.bool b)) ∧ Fr W w') := Lib.hid (fun W hW => few7_is v A c0 A' c0' W (hkv W hW) (by omega) 1500 (by decide) (by decide))
 have HFX : Hid (∀ W, Fr w W → Calls Tryz.prog 9 #[.agg #[.int .i64 x.kd, .int .i64 x.nm, .string ⟨x.tx.toArray⟩, .slice D x.ls.length d0, .slice D' x.ms.length d0'], .int .i64 500] W fun e w' => (∃ b : Bool, e = .returned (.bool b)) ∧ Fr W w') := Lib.hid (fun W hW => few7_is x D d0 D' d0' W (hkx W hW) (by omega) 500 (by decide) (by decide))
 obtain ⟨n, hn⟩ : ∃ n, (Bk.wrong v).length = n := ⟨_, rfl⟩
 have HCK : Hid (∀ W, Fr w W → Calls Tryz.prog 11 #[.agg #[.int .i64 v.kd, .int .i64 v.nm, .string ⟨v.tx.toArray⟩, .slice A v.ls.length c0, .slice A' v.ms.length c0']] W fun e w' => (∃ E c, e = .returned (.slice E n c)) ∧ Fr W w') := Lib.hid (fun W hW => by
  refine (bkcheck_is v A c0 A' c0' W W.heap.size (Nat.le_refl _) (hkv W hW) (by omega)).mono ?_
  rintro e w' ⟨⟨E, c, rfl, _⟩, hf⟩
  exact ⟨⟨E, c, by rw [hn]⟩, hf⟩)
 rw [HA.out, HAX.out]
 by_cases hw : Bk.wrong v = []
 ·have hn0 : n = 0 := by rw [← hn, hw]; rfl
  subst hn0
  have h6 : v.kd = 6 := (Bk.wrong_nil.1 hw).1
  obtain ⟨l, hl⟩ : ∃ l, Pt.withM v.ms s x = l := ⟨_, rfl⟩
  have hll := Pt.withM_len v.ms s x
  rw [hl] at hll
  obtain ⟨wl, hwl⟩ : ∃ wl, Bk.wrong (JV.mapV l) = wl := ⟨_, rfl⟩
  have hww := Bk.wrong_with hw s x
  rw [hl, hwl] at hww
  have HWI : Hid (∀ W, Fr w W → Calls Tryz.prog 19 #[.agg #[.int .i64 v.kd, .int .i64 v.nm, .string ⟨v.tx.toArray⟩, .slice A v.ls.length c0, .slice A' v.ms.length c0'], .string ⟨s.toArray⟩, .agg #[.int .i64 x.kd, .int .i64 x.nm, .string ⟨x.tx.toArray⟩, .slice D x.ls.length d0, .slice D' x.ms.length d0']] W fun e w' => (∃ (E : Option Addr) (g : Nat), e = .returned (.agg #[.int .i64 6, .int .i64 0, .string ⟨#[]⟩, .slice none 0 0, (.slice E l.length g)]) ∧ InV w' (Lo w'.heap.size) (JV.mapV l) (.agg #[.int .i64 6, .int .i64 0, .string ⟨#[]⟩, .slice none 0 0, (.slice E l.length g)])) ∧ Fr W w') := Lib.hid (fun W hW => by
   have h := twith_is v x A c0 A' c0' D d0 D' d0' s W W.heap.size (Nat.le_refl _) (hkv W hW) (hkx W hW) (by omega) (by omega)
   rw [if_pos h6, hl] at h
   refine h.mono ?_
   rintro e w' ⟨E, g, rfl, hi, hf⟩
   exact ⟨⟨E, g, rfl, Ne.low hi (Nat.le_refl _) hf.size⟩, hf⟩)
  have HCL : Hid (∀ (W : World) (E : Option Addr) (g : Nat), InV W (Lo W.heap.size) (JV.mapV l) (.agg #[.int .i64 6, .int .i64 0, .string ⟨#[]⟩, .slice none 0 0, (.slice E l.length g)]) → Calls Tryz.prog 11 #[.agg #[.int .i64 6, .int .i64 0, .string ⟨#[]⟩, .slice none 0 0, (.slice E l.length g)]] W fun e w' => (∃ E c, e = .returned (.slice E wl.length c) ∧ PsC w' E wl) ∧ Fr W w') := Lib.hid (fun W E g h => by
   rw [← hwl]
   exact bkcheck_is (JV.mapV l) none 0 E g W W.heap.size (Nat.le_refl _) h (by show l.length ≤ _; omega))
  obtain ⟨mb, hmb⟩ : ∃ b, Bk.may s x = b := ⟨_, rfl⟩
  have HMY : Hid (∀ W, Calls Tryz.prog 20 #[.string ⟨s.toArray⟩, .agg #[.int .i64 x.kd, .int .i64 x.nm, .string ⟨x.tx.toArray⟩, .slice D x.ls.length d0, .slice D' x.ms.length d0']] W fun e w' => e = .returned (.bool mb) ∧ Fr W w') := Lib.hid (fun W => by rw [← hmb]; exact rmay_is s x D d0 D' d0' W hx.facts.2.2.1)
  have HMS : Hid (∀ W, Fr w W → MsC W (Lo w.heap.size) A' v.ms) := Lib.hid (fun W hW => by
   obtain ⟨E, e, E', e', he, _, hms⟩ := (hv.keep (Nat.le_refl _) hW).open_
   have hA : A' = E' := by obtain ⟨_, _, _, _, e4⟩ := five he; injection e4
   subst hA; exact hms)
  rw [hmb] at hww
  have HWW := Lib.hid hww
  have HSP : Hid (∀ (W : World) (E : Option Addr) (c b : Nat), PsC W E [s] → PsC W (some ⟨b, 0, none⟩) [s] → Calls Tryz.prog 10 #[.slice E 1 c, .slice (some ⟨b, 0, none⟩) 1 1] W fun e w' => e = .returned (.bool true) ∧ Fr W w') := Lib.hid (fun W E c b h1 h2 => sameparts_is [s] E (some ⟨b, 0, none⟩) c 1 W h1 h2 (by simp))
  clear hv hx hbk hbx hS hT hnv hnx hml hne hkv hkx hn hw h6 hl hwl hww hmb hll
  go_enter Tryz.func6, Tryz.ntmps6
  go_upto_region 1 with fail
  have hb3 : Blk ((w.alloc (.cells #[.int .i64 v.kd, .int .i64 v.nm, .string ⟨v.tx.toArray⟩, .slice A v.ls.length c0, .slice A' v.ms.length c0'] 25)).alloc (.cells #[.int .i64 x.kd, .int .i64 x.nm, .string ⟨x.tx.toArray⟩, .slice D x.ls.length d0, .slice D' x.ms.length d0'] 25)) w.heap.size #[.int .i64 v.kd, .int .i64 v.nm, .string ⟨v.tx.toArray⟩, .slice A v.ls.length c0, .slice A' v.ms.length c0'] 25 := (Blk.made w _ _).keep ((Fr.refl _).alloc _)
  have hb5 : Blk ((w.alloc (.cells #[.int .i64 v.kd, .int .i64 v.nm, .string ⟨v.tx.toArray⟩, .slice A v.ls.length c0, .slice A' v.ms.length c0'] 25)).alloc (.cells #[.int .i64 x.kd, .int .i64 x.nm, .string ⟨x.tx.toArray⟩, .slice D x.ls.length d0, .slice D' x.ms.length d0'] 25)) (w.heap.size + 1) #[.int .i64 x.kd, .int .i64 x.nm, .string ⟨x.tx.toArray⟩, .slice D x.ls.length d0, .slice D' x.ms.length d0'] 25 := boxz (Blk.made (w.alloc _) _ _)
  have hf0 : Fr w ((w.alloc (.cells #[.int .i64 v.kd, .int .i64 v.nm, .string ⟨v.tx.toArray⟩, .slice A v.ls.length c0, .slice A' v.ms.length c0'] 25)).alloc (.cells #[.int .i64 x.kd, .int .i64 x.nm, .string ⟨x.tx.toArray⟩, .slice D x.ls.length d0, .slice D' x.ms.length d0'] 25)) := ((Fr.refl w).alloc _).alloc _
  generalize ((w.alloc (.cells #[.int .i64 v.kd, .int .i64 v.nm, .string ⟨v.tx.toArray⟩, .slice A v.ls.length c0, .slice A' v.ms.length c0'] 25)).alloc (.cells #[.int .i64 x.kd, .int .i64 x.nm, .string ⟨x.tx.toArray⟩, .slice D x.ls.length d0, .slice D' x.ms.length d0'] 25)) = W0 at hb3 hb5 hf0 ⊢
  generalize w.heap.size + 1 = X5 at hb5 ⊢
  obtain ⟨X3, hX3⟩ : ∃ X, w.heap.size = X := ⟨_, rfl⟩
  have HX3 := Lib.hid hX3
  rw [hX3] at hb3 ⊢
  clear hX3
  have HB3 := Lib.hid hb3
  have HB5 := Lib.hid hb5
  have HF0 := Lib.hid hf0
  clear hb3 hb5 hf0
  go_upto_region 3 with (first
   | (go_at_call 11; have hq := HF2.out; refine (HCK.out _ (HF0.out.trans hq)).mono ?_; rintro e w3 ⟨⟨E3, e3, rfl⟩, hf⟩; obtain ⟨⟨y0, y1, y2, y3, y4⟩, _⟩ := box5 (HB3.out.keep (hq.trans hf)); obtain ⟨⟨z0, z1, z2, z3, z4⟩, _⟩ := box5 (HB5.out.keep (hq.trans hf)); have HF3 := Lib.hid (hq.trans hf); clear hf hq)
   | (go_at_call 9; have hq := HF1.out; refine (HFX.out _ (HF0.out.trans hq)).mono ?_; rintro e w2 ⟨⟨b2, rfl⟩, hf⟩; obtain ⟨⟨y0, y1, y2, y3, y4⟩, _⟩ := box5 (HB3.out.keep (hq.trans hf)); obtain ⟨⟨z0, z1, z2, z3, z4⟩, _⟩ := box5 (HB5.out.keep (hq.trans hf)); have HF2 := Lib.hid (hq.trans hf); clear hf hq; cases b2)
   | (go_at_call 9; have hq := HFa.out; refine (HFW.out _ (HF0.out.trans hq)).mono ?_; rintro e w1 ⟨⟨b1, rfl⟩, hf⟩; obtain ⟨⟨y0, y1, y2, y3, y4⟩, _⟩ := box5 (HB3.out.keep (hq.trans hf)); obtain ⟨⟨z0, z1, z2, z3, z4⟩, _⟩ := box5 (HB5.out.keep (hq.trans hf)); have HF1 := Lib.hid (hq.trans hf); clear hf hq; cases b1)
   | (go_at_call 8; refine (awake15 _ (HT.out.keep HF0.out)).mono ?_; rintro e wa ⟨rfl, hf⟩; obtain ⟨⟨y0, y1, y2, y3, y4⟩, _⟩ := box5 (HB3.out.keep hf); obtain ⟨⟨z0, z1, z2, z3, z4⟩, _⟩ := box5 (HB5.out.keep hf); have HFa := Lib.hid hf; clear hf))
  ·go_wp2_with (go_at_call 8; have hq := HF1.out; refine (awake15 _ (HT.out.keep (HF0.out.trans hq))).mono ?_; rintro e w9 ⟨rfl, hf⟩; have HF9 := Lib.hid ((HF0.out.trans hq).trans hf); clear hf hq)
   go_ret
   exact ⟨rfl, HF9.out⟩
  ·go_wp2_with (go_at_call 8; have hq := HF2.out; refine (awake15 _ (HT.out.keep (HF0.out.trans hq))).mono ?_; rintro e w9 ⟨rfl, hf⟩; have HF9 := Lib.hid ((HF0.out.trans hq).trans hf); clear hf hq)
   go_ret
   exact ⟨rfl, HF9.out⟩
  clear y0 y1 y2 y3 y4 z0 z1 z2 z3 z4
  obtain ⟨W4, hW4⟩ : ∃ W, W = w3 := ⟨_, rfl⟩
  subst hW4
  go_upto_region 5 with fail
  go_wp2_with fail
  go_loopw [7, 8] (fun k j wr => ∃ (i n : Nat), i ≤ v.ms.length ∧ n ≤ i ∧ k = .int .i64 n ∧ j = .int .i64 i ∧ Hid (Fr W4 wr)) (fun _ j _ => v.ms.length - (intOf j).toNat)
  case atStart => exact ⟨0, 0, by omega, by omega, rfl, rfl, Lib.hid (Fr.refl _)⟩
  case round =>
   obtain ⟨i, n, hi, hni, rfl, rfl, hF⟩ := hrel
   obtain ⟨⟨y0, y1, y2, y3, y4⟩, _⟩ := box5 (HB3.out.keep (HF3.out.trans hF.out))
   obtain ⟨⟨z0, z1, z2, z3, z4⟩, _⟩ := box5 (HB5.out.keep (HF3.out.trans hF.out))
   by_cases hlt : i < v.ms.length
   ·have hlt' : (i : Int) < (v.ms.length : Int) := by omega
    obtain ⟨b, o, C, e, C', e', rfl, hb, hnl, c0', ⟨c1, c2, c3, c4, c5⟩, _⟩ := HMS.out _ ((HF0.out.trans HF3.out).trans hF.out) i hlt
    obtain ⟨nt, hnt⟩ : ∃ nt, v.ms[i].1 = nt := ⟨_, rfl⟩
    rw [hnt] at c0'
    clear hnt hnl hb
    obtain ⟨cb, hcb⟩ : ∃ cb, decide (nt = s) = cb := ⟨_, rfl⟩
    have hcmp : ((⟨nt.toArray⟩ : ByteArray).toList == (⟨s.toArray⟩ : ByteArray).toList) = cb := by rw [bl_beq']; exact hcb
    have hcmp2 : (nt == s) = cb := by rw [← hcb, Bool.eq_iff_iff]; simp
    clear hcb
    cases cb
    ·go_wp2_with fail
     exact ⟨⟨i + 1, n, by omega, by omega, rfl, by go_num, hF⟩, by simp [intOf]; omega⟩
    ·go_wp2_with fail
     exact ⟨⟨i + 1, n + 1, by omega, by omega, by go_num, by go_num, hF⟩, by simp [intOf]; omega⟩
   ·obtain rfl : i = v.ms.length := by omega
    by_cases hn1 : 1 < n
    ·have hn1' : (1 : Int) < (n : Int) := by omega
     go_wp2_with fail
     go_ret
     exact ⟨rfl, (HF0.out.trans HF3.out).trans hF.out⟩
    ·have hn1' : ¬ (1 : Int) < (n : Int) := by omega
     have HFR := Lib.hid ((HF0.out.trans HF3.out).trans hF.out)
     cases mb
     ·have hwl : wl = [s] := HWW.out
      subst hwl
      go_wp2_with (first
       | (go_at_call 10; have hq := HG3.out; refine (HSP.out _ _ _ _ (HP2.out.keep (HGP.out.alloc _)) ?hlit).mono ?_; (case hlit => exact fun _ => ⟨_, 0, rfl, by simp, fun i hi => by rw [(Blk.made _ _ _).cell]; obtain rfl : i = 0 := (by simp at hi; omega); rfl⟩); rintro e w8 ⟨rfl, hf⟩; have HG4 := Lib.hid ((hq.alloc _).trans hf); clear hq hf)
       | (go_at_call 20; have hq := HG2.out; refine (HMY.out _).mono ?_; rintro e w7 ⟨rfl, hf⟩; have HGP := Lib.hid hf; have HG3 := Lib.hid (hq.trans hf); clear hf hq)
       | (go_at_call 11; have hq := HG1.out; refine (HCL.out _ _ _ HI1.out).mono ?_; rintro e w6 ⟨⟨E6, e6, rfl, hp⟩, hf⟩; obtain ⟨⟨y0, y1, y2, y3, y4⟩, _⟩ := box5 (HB3.out.keep ((HF3.out.trans hF.out).trans (HGr.out.trans hf))); obtain ⟨⟨z0, z1, z2, z3, z4⟩, _⟩ := box5 (HB5.out.keep ((HF3.out.trans hF.out).trans (HGr.out.trans hf))); have HP2 := Lib.hid hp; have HG2 := Lib.hid (hq.trans hf); clear hp hf hq)
       | (go_at_call 19; refine (HWI.out _ HFR.out).mono ?_; rintro e w5 ⟨⟨E5, e5, rfl, hi⟩, hf⟩; have HI1 := Lib.hid hi; have HGr := Lib.hid hf; have HG1 := Lib.hid (HFR.out.trans hf); clear hi hf))
      go_ret
      exact ⟨rfl, HG4.out⟩
     ·have hwl : wl = [] := HWW.out
      subst hwl
      go_wp2_with (first
       | (go_at_call 20; have hq := HG2.out; refine (HMY.out _).mono ?_; rintro e w7 ⟨rfl, hf⟩; have HG3 := Lib.hid (hq.trans hf); clear hf hq)
       | (go_at_call 11; have hq := HG1.out; refine (HCL.out _ _ _ HI1.out).mono ?_; rintro e w6 ⟨⟨E6, e6, rfl, hp⟩, hf⟩; obtain ⟨⟨y0, y1, y2, y3, y4⟩, _⟩ := box5 (HB3.out.keep ((HF3.out.trans hF.out).trans (HGr.out.trans hf))); obtain ⟨⟨z0, z1, z2, z3, z4⟩, _⟩ := box5 (HB5.out.keep ((HF3.out.trans hF.out).trans (HGr.out.trans hf))); have HG2 := Lib.hid (hq.trans hf); clear hp hf hq)
       | (go_at_call 19; refine (HWI.out _ HFR.out).mono ?_; rintro e w5 ⟨⟨E5, e5, rfl, hi⟩, hf⟩; have HI1 := Lib.hid hi; have HGr := Lib.hid hf; have HG1 := Lib.hid (HFR.out.trans hf); clear hi hf))
      go_ret
      exact ⟨rfl, HG3.out⟩
 ·have hn0 : 0 < n := by rw [← hn]; exact List.length_pos_iff.2 hw
  have hn0' : (0 : Int) < (n : Int) := by omega
  clear hv hx hbk hbx hS hT hnv hnx hml hne hkv hkx hn hw
  go_enter Tryz.func6, Tryz.ntmps6
  go_upto_region 1 with fail
  have hb3 : Blk ((w.alloc (.cells #[.int .i64 v.kd, .int .i64 v.nm, .string ⟨v.tx.toArray⟩, .slice A v.ls.length c0, .slice A' v.ms.length c0'] 25)).alloc (.cells #[.int .i64 x.kd, .int .i64 x.nm, .string ⟨x.tx.toArray⟩, .slice D x.ls.length d0, .slice D' x.ms.length d0'] 25)) w.heap.size #[.int .i64 v.kd, .int .i64 v.nm, .string ⟨v.tx.toArray⟩, .slice A v.ls.length c0, .slice A' v.ms.length c0'] 25 := (Blk.made w _ _).keep ((Fr.refl _).alloc _)
  have hb5 : Blk ((w.alloc (.cells #[.int .i64 v.kd, .int .i64 v.nm, .string ⟨v.tx.toArray⟩, .slice A v.ls.length c0, .slice A' v.ms.length c0'] 25)).alloc (.cells #[.int .i64 x.kd, .int .i64 x.nm, .string ⟨x.tx.toArray⟩, .slice D x.ls.length d0, .slice D' x.ms.length d0'] 25)) (w.heap.size + 1) #[.int .i64 x.kd, .int .i64 x.nm, .string ⟨x.tx.toArray⟩, .slice D x.ls.length d0, .slice D' x.ms.length d0'] 25 := boxz (Blk.made (w.alloc _) _ _)
  have hf0 : Fr w ((w.alloc (.cells #[.int .i64 v.kd, .int .i64 v.nm, .string ⟨v.tx.toArray⟩, .slice A v.ls.length c0, .slice A' v.ms.length c0'] 25)).alloc (.cells #[.int .i64 x.kd, .int .i64 x.nm, .string ⟨x.tx.toArray⟩, .slice D x.ls.length d0, .slice D' x.ms.length d0'] 25)) := ((Fr.refl w).alloc _).alloc _
  generalize ((w.alloc (.cells #[.int .i64 v.kd, .int .i64 v.nm, .string ⟨v.tx.toArray⟩, .slice A v.ls.length c0, .slice A' v.ms.length c0'] 25)).alloc (.cells #[.int .i64 x.kd, .int .i64 x.nm, .string ⟨x.tx.toArray⟩, .slice D x.ls.length d0, .slice D' x.ms.length d0'] 25)) = W0 at hb3 hb5 hf0 ⊢
  generalize w.heap.size + 1 = X5 at hb5 ⊢
  obtain ⟨X3, hX3⟩ : ∃ X, w.heap.size = X := ⟨_, rfl⟩
  rw [hX3] at hb3 ⊢
  clear hX3
  have HB3 := Lib.hid hb3
  have HB5 := Lib.hid hb5
  have HF0 := Lib.hid hf0
  clear hb3 hb5 hf0
  go_wp2_with (first
   | (go_at_call 8; have hq := HF3.out; refine (awake15 _ (HT.out.keep (HF0.out.trans hq))).mono ?_; rintro e w9 ⟨rfl, hf⟩; have HF9 := Lib.hid ((HF0.out.trans hq).trans hf); clear hf hq)
   | (go_at_call 11; have hq := HF2.out; refine (HCK.out _ (HF0.out.trans hq)).mono ?_; rintro e w3 ⟨⟨E3, e3, rfl⟩, hf⟩; obtain ⟨⟨y0, y1, y2, y3, y4⟩, _⟩ := box5 (HB3.out.keep (hq.trans hf)); obtain ⟨⟨z0, z1, z2, z3, z4⟩, _⟩ := box5 (HB5.out.keep (hq.trans hf)); have HF3 := Lib.hid (hq.trans hf); clear hf hq)
   | (go_at_call 8; have hq := HF2.out; refine (awake15 _ (HT.out.keep (HF0.out.trans hq))).mono ?_; rintro e w9 ⟨rfl, hf⟩; have HF9 := Lib.hid ((HF0.out.trans hq).trans hf); clear hf hq)
   | (go_at_call 9; have hq := HF1.out; refine (HFX.out _ (HF0.out.trans hq)).mono ?_; rintro e w2 ⟨⟨b2, rfl⟩, hf⟩; obtain ⟨⟨y0, y1, y2, y3, y4⟩, _⟩ := box5 (HB3.out.keep (hq.trans hf)); obtain ⟨⟨z0, z1, z2, z3, z4⟩, _⟩ := box5 (HB5.out.keep (hq.trans hf)); have HF2 := Lib.hid (hq.trans hf); clear hf hq; cases b2)
   | (go_at_call 8; have hq := HF1.out; refine (awake15 _ (HT.out.keep (HF0.out.trans hq))).mono ?_; rintro e w9 ⟨rfl, hf⟩; have HF9 := Lib.hid ((HF0.out.trans hq).trans hf); clear hf hq)
   | (go_at_call 9; have hq := HFa.out; refine (HFW.out _ (HF0.out.trans hq)).mono ?_; rintro e w1 ⟨⟨b1, rfl⟩, hf⟩; obtain ⟨⟨y0, y1, y2, y3, y4⟩, _⟩ := box5 (HB3.out.keep (hq.trans hf)); obtain ⟨⟨z0, z1, z2, z3, z4⟩, _⟩ := box5 (HB5.out.keep (hq.trans hf)); have HF1 := Lib.hid (hq.trans hf); clear hf hq; cases b1)
   | (go_at_call 8; refine (awake15 _ (HT.out.keep HF0.out)).mono ?_; rintro e wa ⟨rfl, hf⟩; obtain ⟨⟨y0, y1, y2, y3, y4⟩, _⟩ := box5 (HB3.out.keep hf); obtain ⟨⟨z0, z1, z2, z3, z4⟩, _⟩ := box5 (HB5.out.keep hf); have HFa := Lib.hid hf; clear hf))
  all_goals (go_ret; exact ⟨rfl, HF9.out⟩)
end Go.Proofs.YtgaiepficjiclaaGreatDoor
