/- The document's Check and Text; the law EmitKeeps. -/
import Derived.Test.YtgncdjcbphobmaaDoorEmitOd
namespace Go.Proofs.YtgncdjcbphobmaaDoor
set_option linter.unusedVariables false
set_option linter.unusedSimpArgs false
open Go.RowKit

set_option maxRecDepth 100000 in
theorem rcheck_is (v : JV) (A : Option Addr) (c0 : Nat) (A' : Option Addr) (c0' : Nat) (w : World) (hv : InV w (Lo w.heap.size) v (vA v A c0 A' c0')) (hbk : JV.bulk v ≤ 1100000) (c q : Nat) (h : JV.chk v 1 0 = (c, q)) :
    Calls Tryd.prog 27 #[vA v A c0 A' c0'] w fun e w' => e = .returned (.int .i64 (c : Nat)) ∧ Fr w w' := by
  have HV := Lib.hid hv
  have HBK := Lib.hid hbk
  have HC := Lib.hid h
  clear hv hbk h
  show Calls Tryd.prog _ #[.agg #[.int .i64 v.kd, .int .i64 v.nm, .string ⟨v.tx.toArray⟩, .slice A v.ls.length c0, .slice A' v.ms.length c0']] _ _
  go_enter Tryd.func27, Tryd.ntmps27
  go_wp2_with (go_at_call 44; refine ((rwalk_is v (vA v A c0 A' c0') 1 0 _ ((HV.out.keep (Nat.le_refl _) ((Fr.refl w).alloc _)).lo (by simp)) HBK.out (by omega) (by omega)).call rfl rfl rfl HC.out).mono ?_; rintro e w1 ⟨rfl, hf⟩; have HF1 := Lib.hid (((Fr.refl w).alloc _).trans hf); clear hf)
  go_ret
  exact ⟨rfl, HF1.out⟩
set_option maxRecDepth 100000 in
theorem rtext_is (v : JV) (A : Option Addr) (c0 : Nat) (A' : Option Addr) (c0' : Nat) (w : World) (hv : InV w (Lo w.heap.size) v (vA v A c0 A' c0')) (hbk : JV.bulk v ≤ 1100000) (hP : PtTab w) (hc : (JV.chk v 1 0).1 = 0) :
    Calls Tryd.prog 14 #[vA v A c0 A' c0'] w fun e w' => e = .returned (.tuple #[.string ⟨(JV.wrt v).toArray⟩, .int .i64 0]) ∧ Fr w w' := by
  have HV := Lib.hid hv
  have HBK := Lib.hid hbk
  have HP := Lib.hid hP
  obtain ⟨q, hq⟩ : ∃ q, JV.chk v 1 0 = (0, q) := ⟨_, Prod.ext hc rfl⟩
  have HOK := Lib.hid (JV.chk_ok v 1 0 hc).1
  have hl := JV.wrt_len v (JV.ok_all HOK.out)
  have HL : Hid ((JV.wrt v).length ≤ 140737488355328) := by show _ ≤ _; omega
  have HC := Lib.hid hq
  clear hv hbk hP hc hq hl
  show Calls Tryd.prog _ #[.agg #[.int .i64 v.kd, .int .i64 v.nm, .string ⟨v.tx.toArray⟩, .slice A v.ls.length c0, .slice A' v.ms.length c0']] _ _
  go_enter Tryd.func14, Tryd.ntmps14
  go_wp2_with (first
    | (go_at_call 28; refine ((rwrite_is v HOK.out (vA v A c0 A' c0')).call w rfl HF1.out (Bs.none_ _ _) (HV.out.keep (Nat.le_refl _) HF1.out) (by simpa using HL.out) (JV.ok_all HOK.out) HBK.out HP.out).mono ?_; rintro e w2 ⟨v2, rfl, hb2, hf2, _⟩; have hcv := hb2.conv; have HF2 := Lib.hid hf2; clear hb2 hf2)
    | (go_at_call 27; refine (rcheck_is v A c0 A' c0' _ ((HV.out.keep (Nat.le_refl _) ((Fr.refl w).alloc _)).lo (by simp)) HBK.out 0 q HC.out).mono ?_; rintro e w1 ⟨rfl, hf⟩; have hbx := (Blk.made w #[.int .i64 v.kd, .int .i64 v.nm, .string ⟨v.tx.toArray⟩, .slice A v.ls.length c0, .slice A' v.ms.length c0'] 25).keep hf; have ky0 : w1.cell? ⟨w.heap.size, 0, none⟩ = some (.int .i64 v.kd) := hbx.cell 0; have ky1 : w1.cell? ⟨w.heap.size, 1, none⟩ = some (.int .i64 v.nm) := hbx.cell 1; have ky2 : w1.cell? ⟨w.heap.size, 2, none⟩ = some (.string ⟨v.tx.toArray⟩) := hbx.cell 2; have ky3 : w1.cell? ⟨w.heap.size, 3, none⟩ = some (.slice A v.ls.length c0) := hbx.cell 3; have ky4 : w1.cell? ⟨w.heap.size, 4, none⟩ = some (.slice A' v.ms.length c0') := hbx.cell 4; have HF1 := Lib.hid (((Fr.refl w).alloc _).trans hf); clear hf hbx))
  go_ret2
  exact ⟨rfl, HF2.out⟩

theorem rtext_at (v : JV) (A : Option Addr) (c0 : Nat) (A' : Option Addr) (c0' : Nat) (T : List UInt8) (w : World) (hT : JV.wrt v = T) (hv : InV w (Lo w.heap.size) v (vA v A c0 A' c0')) (hbk : JV.bulk v ≤ 1100000) (hP : PtTab w) (hc : (JV.chk v 1 0).1 = 0) :
    Calls Tryd.prog 14 #[.agg #[.int .i64 v.kd, .int .i64 v.nm, .string ⟨v.tx.toArray⟩, .slice A v.ls.length c0, .slice A' v.ms.length c0']] w fun e w' => e = .returned (.tuple #[.string ⟨T.toArray⟩, .int .i64 0]) ∧ Fr w w' := by
  subst hT; exact rtext_is v A c0 A' c0' w hv hbk hP hc
set_option maxHeartbeats 1000000 in
set_option maxRecDepth 100000 in
/-- EmitKeeps. -/
theorem keeps_law (v : JV) (A : Option Addr) (c0 : Nat) (A' : Option Addr) (c0' : Nat) (w : World) (hv : InV w (Lo w.heap.size) v (vA v A c0 A' c0')) (hbk : JV.bulk v ≤ 1100000) (hP : PtTab w) :
    Calls Tryd.prog 3 #[vA v A c0 A' c0'] w fun e w' => e = .returned (.bool true) ∧ Fr w w' := by
  have HV := Lib.hid hv
  have HBK := Lib.hid hbk
  have HP := Lib.hid hP
  have HKV : Hid (∀ W, Fr w W → InV W (Lo W.heap.size) v (vA v A c0 A' c0')) := Lib.hid (fun W hW => (hv.keep (Nat.le_refl _) hW).lo hW.size)
  have HBX : Hid (∀ W, Fr (w.alloc (.cells #[.int .i64 v.kd, .int .i64 v.nm, .string ⟨v.tx.toArray⟩, .slice A v.ls.length c0, .slice A' v.ms.length c0'] 25)) W → Blk W w.heap.size #[.int .i64 v.kd, .int .i64 v.nm, .string ⟨v.tx.toArray⟩, .slice A v.ls.length c0, .slice A' v.ms.length c0'] 25) := Lib.hid (fun W hW => (Blk.made w _ _).keep hW)
  have HA : Hid (vA v A c0 A' c0' = .agg #[.int .i64 v.kd, .int .i64 v.nm, .string ⟨v.tx.toArray⟩, .slice A v.ls.length c0, .slice A' v.ms.length c0']) := rfl
  rcases hc : JV.chk v 1 0 with ⟨c, q⟩
  have HC := Lib.hid hc
  rw [HA.out]
  by_cases h0 : c = 0
  · subst h0
    have hl := JV.wrt_len v (JV.ok_all (JV.chk_ok v 1 0 (by rw [hc])).1)
    have HL : Hid ((JV.wrt v).length ≤ 140737488355328) := by show _ ≤ _; omega
    obtain ⟨T, hT⟩ : ∃ T, JV.wrt v = T := ⟨_, rfl⟩
    rw [hT] at HL
    have HT := Lib.hid hT
    clear hv hbk hP hc hl hT
    go_enter Tryd.func3, Tryd.ntmps3
    go_wp2_with (first
      | (go_at_call 14; have hm := HF4.out; refine (rtext_at v A c0 A' c0' T _ HT.out (HKV.out _ (((Fr.refl w).alloc _).trans hm)) HBK.out (HP.out.keep (((Fr.refl w).alloc _).trans hm)) (by rw [HC.out])).mono ?_; rintro e w5 ⟨rfl, hf⟩; have HF5 := Lib.hid (hm.trans hf); clear hf hm)
      | (go_at_call 15; have hm := HF3.out; refine (text_is v A c0 A' c0' _ 0 q T (HKV.out _ (((Fr.refl w).alloc _).trans hm)) HC.out (by rw [if_pos rfl]; exact HT.out.symm) HL.out).mono ?_; rintro e w4 ⟨rfl, hf⟩; have hbx := HBX.out w4 (hm.trans hf); have kd0 : w4.cell? ⟨w.heap.size, 0, none⟩ = some (.int .i64 v.kd) := hbx.cell 0; have kd1 : w4.cell? ⟨w.heap.size, 1, none⟩ = some (.int .i64 v.nm) := hbx.cell 1; have kd2 : w4.cell? ⟨w.heap.size, 2, none⟩ = some (.string ⟨v.tx.toArray⟩) := hbx.cell 2; have kd3 : w4.cell? ⟨w.heap.size, 3, none⟩ = some (.slice A v.ls.length c0) := hbx.cell 3; have kd4 : w4.cell? ⟨w.heap.size, 4, none⟩ = some (.slice A' v.ms.length c0') := hbx.cell 4; have HF4 := Lib.hid (hm.trans hf); clear hf hm hbx)
      | (go_at_call 14; have hm := HF2.out; refine (rtext_at v A c0 A' c0' T _ HT.out (HKV.out _ (((Fr.refl w).alloc _).trans hm)) HBK.out (HP.out.keep (((Fr.refl w).alloc _).trans hm)) (by rw [HC.out])).mono ?_; rintro e w3 ⟨rfl, hf⟩; have hbx := HBX.out w3 (hm.trans hf); have kc0 : w3.cell? ⟨w.heap.size, 0, none⟩ = some (.int .i64 v.kd) := hbx.cell 0; have kc1 : w3.cell? ⟨w.heap.size, 1, none⟩ = some (.int .i64 v.nm) := hbx.cell 1; have kc2 : w3.cell? ⟨w.heap.size, 2, none⟩ = some (.string ⟨v.tx.toArray⟩) := hbx.cell 2; have kc3 : w3.cell? ⟨w.heap.size, 3, none⟩ = some (.slice A v.ls.length c0) := hbx.cell 3; have kc4 : w3.cell? ⟨w.heap.size, 4, none⟩ = some (.slice A' v.ms.length c0') := hbx.cell 4; have HF3 := Lib.hid (hm.trans hf); clear hf hm hbx)
      | (go_at_call 13; have hm := HF1.out; refine (ccheck_is v A c0 A' c0' _ 0 q (HKV.out _ (((Fr.refl w).alloc _).trans hm)) HC.out).mono ?_; rintro e w2 ⟨rfl, hf⟩; have hbx := HBX.out w2 (hm.trans hf); have kb0 : w2.cell? ⟨w.heap.size, 0, none⟩ = some (.int .i64 v.kd) := hbx.cell 0; have kb1 : w2.cell? ⟨w.heap.size, 1, none⟩ = some (.int .i64 v.nm) := hbx.cell 1; have kb2 : w2.cell? ⟨w.heap.size, 2, none⟩ = some (.string ⟨v.tx.toArray⟩) := hbx.cell 2; have kb3 : w2.cell? ⟨w.heap.size, 3, none⟩ = some (.slice A v.ls.length c0) := hbx.cell 3; have kb4 : w2.cell? ⟨w.heap.size, 4, none⟩ = some (.slice A' v.ms.length c0') := hbx.cell 4; have HF2 := Lib.hid (hm.trans hf); clear hf hm hbx)
      | (go_at_call 12; refine (awake06 _).mono ?_; rintro e w1 ⟨rfl, hf⟩; have hbx := HBX.out w1 hf; have ka0 : w1.cell? ⟨w.heap.size, 0, none⟩ = some (.int .i64 v.kd) := hbx.cell 0; have ka1 : w1.cell? ⟨w.heap.size, 1, none⟩ = some (.int .i64 v.nm) := hbx.cell 1; have ka2 : w1.cell? ⟨w.heap.size, 2, none⟩ = some (.string ⟨v.tx.toArray⟩) := hbx.cell 2; have ka3 : w1.cell? ⟨w.heap.size, 3, none⟩ = some (.slice A v.ls.length c0) := hbx.cell 3; have ka4 : w1.cell? ⟨w.heap.size, 4, none⟩ = some (.slice A' v.ms.length c0') := hbx.cell 4; have HF1 := Lib.hid hf; clear hf hbx))
    go_ret
    exact ⟨rfl, ((Fr.refl w).alloc _).trans HF5.out⟩
  · have hne : ((c : Int) != 0) = true := by rw [bne_iff_ne]; omega
    clear hv hbk hP hc
    go_enter Tryd.func3, Tryd.ntmps3
    go_wp2_with (first
      | (go_at_call 12; have hm := HF2.out; refine (awake06 _).mono ?_; rintro e w3 ⟨rfl, hf⟩; have HF3 := Lib.hid (hm.trans hf); clear hf hm)
      | (go_at_call 13; have hm := HF1.out; refine (ccheck_is v A c0 A' c0' _ c q (HKV.out _ (((Fr.refl w).alloc _).trans hm)) HC.out).mono ?_; rintro e w2 ⟨rfl, hf⟩; have HF2 := Lib.hid (hm.trans hf); clear hf hm)
      | (go_at_call 12; refine (awake06 _).mono ?_; rintro e w1 ⟨rfl, hf⟩; have hbx := HBX.out w1 hf; have ka0 : w1.cell? ⟨w.heap.size, 0, none⟩ = some (.int .i64 v.kd) := hbx.cell 0; have ka1 : w1.cell? ⟨w.heap.size, 1, none⟩ = some (.int .i64 v.nm) := hbx.cell 1; have ka2 : w1.cell? ⟨w.heap.size, 2, none⟩ = some (.string ⟨v.tx.toArray⟩) := hbx.cell 2; have ka3 : w1.cell? ⟨w.heap.size, 3, none⟩ = some (.slice A v.ls.length c0) := hbx.cell 3; have ka4 : w1.cell? ⟨w.heap.size, 4, none⟩ = some (.slice A' v.ms.length c0') := hbx.cell 4; have HF1 := Lib.hid hf; clear hf hbx))
    go_ret
    exact ⟨rfl, ((Fr.refl w).alloc _).trans HF3.out⟩
end Go.Proofs.YtgncdjcbphobmaaDoor
