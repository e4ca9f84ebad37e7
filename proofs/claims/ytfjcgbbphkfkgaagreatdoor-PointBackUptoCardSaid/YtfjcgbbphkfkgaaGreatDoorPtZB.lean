/- The walk of chapter 08's law of the way back. -/
import Derived.Test.YtfjcgbbphkfkgaaGreatDoorPtZ
namespace Go.Proofs.YtfjcgbbphkfkgaaGreatDoor
set_option linter.unusedVariables false
set_option linter.unusedSimpArgs false
open Go.RowKit

set_option maxHeartbeats 2000000 in
set_option maxRecDepth 100000 in
theorem pback_law (v : JV) (A : Option Addr) (c0 : Nat) (A' : Option Addr) (c0' : Nat) (w : World) (hv : InV w (Lo w.heap.size) v (vA v A c0 A' c0')) (hbk : JV.bulk v ≤ 1048576) (hT : LowTabs w) (hM : MxL w) :
    Calls Tryz.prog 8 #[vA v A c0 A' c0'] w fun e w' => e = .returned (.bool true) ∧ Fr w w' := by
  have HT := Lib.hid hT
  have HM := Lib.hid hM
  have hnv := nv_bulk v
  have HBX : Hid (∀ W, Fr (w.alloc (.cells #[.int .i64 v.kd, .int .i64 v.nm, .string ⟨v.tx.toArray⟩, .slice A v.ls.length c0, .slice A' v.ms.length c0'] 29)) W → Blk W w.heap.size #[.int .i64 v.kd, .int .i64 v.nm, .string ⟨v.tx.toArray⟩, .slice A v.ls.length c0, .slice A' v.ms.length c0'] 29) := Lib.hid (fun W hW => (Blk.made w _ _).keep hW)
  have HF0 : Hid (Fr w (w.alloc (.cells #[.int .i64 v.kd, .int .i64 v.nm, .string ⟨v.tx.toArray⟩, .slice A v.ls.length c0, .slice A' v.ms.length c0'] 29))) := (Fr.refl w).alloc _
  have HFW : Hid (∀ n : Int, 0 ≤ n → n ≤ 9000000000000000000 → ∀ W, Fr w W → Calls Tryz.prog 27 #[.agg #[.int .i64 v.kd, .int .i64 v.nm, .string ⟨v.tx.toArray⟩, .slice A v.ls.length c0, .slice A' v.ms.length c0'], .int .i64 n] W fun e w' => (∃ b : Bool, e = .returned (.bool b)) ∧ Fr W w') := Lib.hid (fun n h1 h2 W hW => few7_is v A c0 A' c0' W ((hv.keep (Nat.le_refl _) hW).lo hW.size) (by omega) n h1 h2)
  have HA : Hid (vA v A c0 A' c0' = .agg #[.int .i64 v.kd, .int .i64 v.nm, .string ⟨v.tx.toArray⟩, .slice A v.ls.length c0, .slice A' v.ms.length c0']) := rfl
  rcases hc : JV.chk v 1 0 with ⟨c, q⟩
  have HC : Hid (∀ W, Fr w W → Calls Tryz.prog 32 #[.agg #[.int .i64 v.kd, .int .i64 v.nm, .string ⟨v.tx.toArray⟩, .slice A v.ls.length c0, .slice A' v.ms.length c0']] W fun e w' => e = .returned (.int .i64 (c : Nat)) ∧ Fr W w') := Lib.hid (fun W hW => ccheck_is v A c0 A' c0' W c q ((hv.keep (Nat.le_refl _) hW).lo hW.size) hc)
  rw [HA.out]
  by_cases h0 : c = 0
  · subst h0
    have hok := (JV.chk_ok v 1 0 (by rw [hc])).1
    have HBK : Hid (∀ W, Fr w W → Calls Tryz.prog 33 #[.agg #[.int .i64 v.kd, .int .i64 v.nm, .string ⟨v.tx.toArray⟩, .slice A v.ls.length c0, .slice A' v.ms.length c0'], .slice none 0 0, .agg #[.int .i64 v.kd, .int .i64 v.nm, .string ⟨v.tx.toArray⟩, .slice A v.ls.length c0, .slice A' v.ms.length c0']] W fun e w' => e = .returned (.bool true) ∧ Fr W w') := Lib.hid (fun W hW => by
      have hvw := (hv.keep (Nat.le_refl _) hW).lo hW.size
      exact back_is v v [] none 0 A c0 A' c0' A c0 A' c0' W hvw hvw (fun h => absurd rfl h) rfl hok hbk (by show 0 + _ ≤ _; omega) (hM.keep hW))
    clear hv hbk hT hM hnv hc hok
    go_enter Tryz.func8, Tryz.ntmps8
    go_wp2_with (first
      | (go_at_call 33; have hg := HF0.out.trans HF3.out; refine (HBK.out _ hg).mono ?_; rintro e w9 ⟨rfl, hf⟩; have HFF := Lib.hid (hg.trans hf); clear hf hg)
      | (go_at_call 26; have hg := HF0.out.trans HF3.out; refine (awake08 _ (HT.out.keep hg) (HM.out.keep hg)).mono ?_; rintro e w9 ⟨rfl, hf⟩; have HFF := Lib.hid (hg.trans hf); clear hf hg)
      | (go_at_call 27; have hm := HF2.out; refine (HFW.out _ (by omega) (by omega) _ (HF0.out.trans hm)).mono ?_; rintro e w3 ⟨⟨b3, rfl⟩, hf⟩; obtain ⟨⟨kc0, kc1, kc2, kc3, kc4⟩, _⟩ := box5 (HBX.out w3 (hm.trans hf)); have HF3 := Lib.hid (hm.trans hf); clear hf hm; cases b3)
      | (go_at_call 32; have hm := HF1.out; refine (HC.out _ (HF0.out.trans hm)).mono ?_; rintro e w2 ⟨rfl, hf⟩; obtain ⟨⟨kb0, kb1, kb2, kb3, kb4⟩, _⟩ := box5 (HBX.out w2 (hm.trans hf)); have HF2 := Lib.hid (hm.trans hf); clear hf hm)
      | (go_at_call 26; refine (awake08 _ (HT.out.keep HF0.out) (HM.out.keep HF0.out)).mono ?_; rintro e w1 ⟨rfl, hf⟩; obtain ⟨⟨ka0, ka1, ka2, ka3, ka4⟩, _⟩ := box5 (HBX.out w1 hf); have HF1 := Lib.hid hf; clear hf))
    all_goals
      go_ret
      exact ⟨rfl, HFF.out⟩
  · have hne : ((c : Int) != 0) = true := by rw [bne_iff_ne]; omega
    clear hv hbk hT hM hnv hc
    go_enter Tryz.func8, Tryz.ntmps8
    go_wp2_with (first
      | (go_at_call 26; have hg := HF0.out.trans HF2.out; refine (awake08 _ (HT.out.keep hg) (HM.out.keep hg)).mono ?_; rintro e w9 ⟨rfl, hf⟩; have HFF := Lib.hid (hg.trans hf); clear hf hg)
      | (go_at_call 32; have hm := HF1.out; refine (HC.out _ (HF0.out.trans hm)).mono ?_; rintro e w2 ⟨rfl, hf⟩; obtain ⟨⟨kb0, kb1, kb2, kb3, kb4⟩, _⟩ := box5 (HBX.out w2 (hm.trans hf)); have HF2 := Lib.hid (hm.trans hf); clear hf hm)
      | (go_at_call 26; refine (awake08 _ (HT.out.keep HF0.out) (HM.out.keep HF0.out)).mono ?_; rintro e w1 ⟨rfl, hf⟩; obtain ⟨⟨ka0, ka1, ka2, ka3, ka4⟩, _⟩ := box5 (HBX.out w1 hf); have HF1 := Lib.hid hf; clear hf))
    all_goals
      go_ret
      exact ⟨rfl, HFF.out⟩
end Go.Proofs.YtfjcgbbphkfkgaaGreatDoor
