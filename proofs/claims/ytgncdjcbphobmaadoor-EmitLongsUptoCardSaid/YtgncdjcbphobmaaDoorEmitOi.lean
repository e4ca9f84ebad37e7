/- The walk of emit.all. -/
import Derived.Test.YtgncdjcbphobmaaDoorEmitOh
namespace Go.Proofs.YtgncdjcbphobmaaDoor
set_option linter.unusedVariables false
set_option linter.unusedSimpArgs false
open Go.RowKit

theorem enames_at (m : List (List UInt8 × JV)) (A' : Option Addr) (c M : Nat) (w : World) (hM : m.length = M) (hm : MsC w (Lo w.heap.size) A' m) (hl : m.length ≤ 140737488355327) :
    Calls Tryd.prog 49 #[.slice A' M c] w fun e w' => e = .returned (.bool (JV.namesB m)) ∧ Fr w w' := by
  subst hM; exact names_is m A' c w hm hl

theorem eallL_no {k n : Int} {s : List UInt8} {l : List JV} {m : List (List UInt8 × JV)} (h : JV.okL l = false) : JV.okB (.mk k n s l m) = false := by rw [JV.ok_mk, h]; simp
theorem eallM_no {k n : Int} {s : List UInt8} {l : List JV} {m : List (List UInt8 × JV)} (h : JV.okM m = false) : JV.okB (.mk k n s l m) = false := by rw [JV.ok_mk, h]; simp
/-- What all answers. -/
def EallAt (v : JV) (x : Value) (w : World) : Prop := Calls Tryd.prog 30 #[x] w fun e w' => e = .returned (.bool (JV.okB v)) ∧ Fr w w'
theorem EallAt.call {v : JV} {x x' : Value} {w : World} (h : EallAt v x w) (b : Bool) (hx : x' = x) (hr : JV.okB v = b) : Calls Tryd.prog 30 #[x'] w fun e w' => e = .returned (.bool b) ∧ Fr w w' := by
  subst hx; subst hr; exact h

set_option maxHeartbeats 4000000 in
set_option maxRecDepth 100000 in
theorem eall_is (v : JV) : ∀ (x : Value) (w : World), InV w (Lo w.heap.size) v x → JV.bulk v ≤ 1100000 → EallAt v x w := by
  induction v using JV.ind with
  | h k n s l m ihl ihm =>
    intro x w hv hbk
    obtain ⟨A, c0, A', c0', rfl, hls, hms⟩ := hv.open_
    obtain ⟨_, _, _, hl63, hm63⟩ := hv.facts
    have hl63 : l.length ≤ 140737488355328 := hl63
    have hm63 : m.length ≤ 140737488355328 := hm63
    have HV := Lib.hid hv
    have HBK := Lib.hid hbk
    rw [JV.bulk_mk] at hbk
    have HBL : Hid (∀ u ∈ l, JV.bulk u ≤ 1100000) := Lib.hid (fun u hu => by
      have := JV.bulkL_mem hu; have : l.length ≠ 0 := fun e => by simp [List.length_eq_zero_iff.1 e] at hu
      omega)
    have HBM : Hid (∀ u ∈ m, JV.bulk u.2 ≤ 1100000) := Lib.hid (fun u hu => by have := JV.bulkM_mem hu; omega)
    have HML : Hid (m.length ≤ 1100000) := by have := JV.bulkM_len m; show _ ≤ _; omega
    show Calls Tryd.prog _ #[.agg #[.int .i64 k, .int .i64 n, .string ⟨s.toArray⟩, .slice A l.length c0, .slice A' m.length c0']] _ _
    have HLS : Hid (LsC w (Lo w.heap.size) A l) := hls
    have HMS : Hid (MsC w (Lo w.heap.size) A' m) := hms
    have HIHL := Lib.hid ihl
    have HIHM := Lib.hid ihm
    have hl63' : (l.length : Int) ≤ 140737488355328 := by omega
    have hm63' : (m.length : Int) ≤ 140737488355328 := by omega
    have hwv : Hid (∀ W, Fr w W → InV W (Lo W.heap.size) (.mk k n s l m) (vA (.mk k n s l m) A c0 A' c0') ∧ MsC W (Lo W.heap.size) A' m) := Lib.hid (fun W hW => ⟨(HV.out.keep (Nat.le_refl _) hW).lo hW.size, (HMS.out.keep (Nat.le_refl _) hW).map (fun b hb => Nat.lt_of_lt_of_le hb hW.size) (fun _ _ _ => rfl)⟩)
    obtain ⟨S, hS⟩ : ∃ S, (⟨s.toArray⟩ : ByteArray) = S := ⟨_, rfl⟩
    obtain ⟨L, hL⟩ : ∃ L, l.length = L := ⟨_, rfl⟩
    obtain ⟨M, hM⟩ : ∃ M, m.length = M := ⟨_, rfl⟩
    have hva : vA (.mk k n s l m) A c0 A' c0' = .agg #[.int .i64 k, .int .i64 n, .string S, .slice A L c0, .slice A' M c0'] := by rw [← hS, ← hL, ← hM]; rfl
    have HVA := Lib.hid hva
    rw [hL] at hl63'
    rw [hM] at hm63'
    rw [hS, hL, hM]
    have HL := Lib.hid hL
    have HM := Lib.hid hM
    have HB1 := Lib.hid (Blk.made w #[.int .i64 k, .int .i64 n, .string S, .slice A L c0, .slice A' M c0'] 25)
    have HW1 := Lib.hid ((Fr.refl w).alloc (.cells #[.int .i64 k, .int .i64 n, .string S, .slice A L c0, .slice A' M c0'] 25))
    clear hv hbk hls hms ihl ihm hS hL hM hva hl63 hm63
    go_enter Tryd.func30, Tryd.ntmps30
    go_wp2_with fail

    go_loopw [10] (fun j wr => ∃ i : Nat, i ≤ L ∧ j = .int .i64 i ∧ Hid (JV.okL l = JV.okL (l.drop i)) ∧ Hid (Fr (w.alloc (.cells #[.int .i64 k, .int .i64 n, .string S, .slice A L c0, .slice A' M c0'] 25)) wr)) (fun j _ => L - (intOf j).toNat)
    case atStart => exact ⟨0, by omega, rfl, Lib.hid rfl, Lib.hid (Fr.refl _)⟩
    case round =>
      obtain ⟨i, hi, rfl, hC, hR⟩ := hrel
      have HWR : Hid (Fr w wr) := Lib.hid (HW1.out.trans hR.out)
      by_cases h : i < L
      · have hil : i < l.length := by have := HL.out; omega
        obtain ⟨b, o, B, dd, B', dd', rfl, hb, ⟨e1, e2, e3, e4, e5⟩, hiv⟩ := (HLS.out.keep (Nat.le_refl _) HWR.out) i hil
        have hcl := okL_at hil
        have hih := HIHL.out l[i] (List.getElem_mem hil)
        have hbu := HBL.out l[i] (List.getElem_mem hil)
        obtain ⟨u, hu⟩ : ∃ u, l[i] = u := ⟨_, rfl⟩
        rw [hu] at e1 e2 e3 e4 e5 hiv hcl hih hbu
        clear hu
        have HIV : ∀ ob, Hid (InV (wr.alloc ob) (Lo (wr.alloc ob).heap.size) u (vA u B dd B' dd')) := fun ob => Lib.hid (((hiv.lo HWR.out.size).keep (Nat.le_refl _) ((Fr.refl wr).alloc ob)).lo (by simp))
        have HIH := Lib.hid hih
        have HBU := Lib.hid hbu
        have h' : (i : Int) < (L : Int) := by omega
        cases hck : JV.okB u with
        | false =>
          rw [hck] at hcl
          have HN : Hid (JV.okL l = false) := by show _ = _; rw [hC.out, hcl]; rfl
          have HCK := Lib.hid hck
          clear hck hcl hih hiv hbu
          go_wp2_with (go_at_call 30; refine ((HIH.out _ _ (HIV _).out HBU.out).call false rfl HCK.out).mono ?_; rintro e w2 ⟨rfl, hf⟩; have HF2 := Lib.hid ((hR.out.alloc _).trans hf); clear hf)
          go_ret
          exact ⟨by rw [eallL_no HN.out]; rfl, HW1.out.trans HF2.out⟩
        | true =>
          rw [hck] at hcl
          have HCK := Lib.hid hck
          have HCL := Lib.hid hcl
          clear hck hcl hih hiv hbu
          go_wp2_with (go_at_call 30; refine ((HIH.out _ _ (HIV _).out HBU.out).call true rfl HCK.out).mono ?_; rintro e w2 ⟨rfl, hf⟩; have HF2 := Lib.hid ((hR.out.alloc _).trans hf); clear hf)
          refine ⟨⟨i + 1, by omega, by go_num, Lib.hid ?_, HF2⟩, by simp [intOf]; omega⟩
          rw [hC.out, HCL.out]; rfl
      · obtain rfl : L = i := by omega
        have HTL : Hid (JV.okL l = true) := by show _ = _; rw [hC.out, ← HL.out, List.drop_length]; rw [JV.okL_all]; rfl
        have u4 := (HB1.out.keep hR.out).cell 4
        go_wp2_with fail
        go_loopw [21] (fun j wr => ∃ i : Nat, i ≤ M ∧ j = .int .i64 i ∧ Hid (JV.okM m = JV.okM (m.drop i)) ∧ Hid (Fr (w.alloc (.cells #[.int .i64 k, .int .i64 n, .string S, .slice A L c0, .slice A' M c0'] 25)) wr)) (fun j _ => M - (intOf j).toNat)
        case atStart => exact ⟨0, by omega, rfl, Lib.hid rfl, hR⟩
        case round =>
          obtain ⟨i, hi, rfl, hC, hR⟩ := hrel
          have HWR : Hid (Fr w wr) := Lib.hid (HW1.out.trans hR.out)
          by_cases h : i < M
          · have hil : i < m.length := by have := HM.out; omega
            obtain ⟨b, o, B, dd, B', dd', rfl, hb, hnl, e0, ⟨e1, e2, e3, e4, e5⟩, hiv⟩ := (HMS.out.keep (Nat.le_refl _) HWR.out) i hil
            have hcl := okM_at hil
            have hih := HIHM.out m[i] (List.getElem_mem hil)
            have hbu := HBM.out m[i] (List.getElem_mem hil)
            obtain ⟨u, hu⟩ : ∃ u, m[i] = u := ⟨_, rfl⟩
            rw [hu] at e0 e1 e2 e3 e4 e5 hiv hcl hih hbu
            obtain ⟨nm, u⟩ := u
            simp only at e0 e1 e2 e3 e4 e5 hiv hcl hih hbu
            clear hu
            have HIV : ∀ ob, Hid (InV (wr.alloc ob) (Lo (wr.alloc ob).heap.size) u (vA u B dd B' dd')) := fun ob => Lib.hid (((hiv.lo HWR.out.size).keep (Nat.le_refl _) ((Fr.refl wr).alloc ob)).lo (by simp))
            have HIH := Lib.hid hih
            have HBU := Lib.hid hbu
            have h' : (i : Int) < (M : Int) := by omega
            cases hck : JV.okB u with
            | false =>
              rw [hck] at hcl
              have HN : Hid (JV.okM m = false) := by show _ = _; rw [hC.out, hcl]; rfl
              have HCK := Lib.hid hck
              clear hck hcl hih hiv hbu hnl
              go_wp2_with (go_at_call 30; refine ((HIH.out _ _ (HIV _).out HBU.out).call false rfl HCK.out).mono ?_; rintro e w2 ⟨rfl, hf⟩; have HF2 := Lib.hid ((hR.out.alloc _).trans hf); clear hf)
              go_ret
              exact ⟨by rw [eallM_no HN.out]; rfl, HW1.out.trans HF2.out⟩
            | true =>
              rw [hck] at hcl
              have HCK := Lib.hid hck
              have HCL := Lib.hid hcl
              clear hck hcl hih hiv hbu hnl
              go_wp2_with (go_at_call 30; refine ((HIH.out _ _ (HIV _).out HBU.out).call true rfl HCK.out).mono ?_; rintro e w2 ⟨rfl, hf⟩; have HF2 := Lib.hid ((hR.out.alloc _).trans hf); clear hf)
              refine ⟨⟨i + 1, by omega, by go_num, Lib.hid ?_, HF2⟩, by simp [intOf]; omega⟩
              rw [hC.out, HCL.out]; rfl
          · obtain rfl : M = i := by omega
            have HTM : Hid (JV.okM m = true) := by show _ = _; rw [hC.out, ← HM.out, List.drop_length]; rw [JV.okM_all]; rfl
            obtain ⟨y0, y1, y2, y3, y4⟩ := cells5 (HB1.out.keep hR.out)
            obtain ⟨r, hr⟩ : ∃ r, JV.rightB (.mk k n s l m) = r := ⟨_, rfl⟩
            have HR := Lib.hid hr
            have HRes : Hid (JV.okB (.mk k n s l m) = (r && (!(k == 6) || JV.namesB m))) := by show _ = _; rw [JV.ok_mk, HTL.out, HTM.out, hr]; rfl
            clear hr
            have HCR : Hid (∀ W, Fr w W → Calls Tryd.prog 43 #[.agg #[.int .i64 k, .int .i64 n, .string S, .slice A L c0, .slice A' M c0']] W fun e w' => e = .returned (.bool r) ∧ Fr W w') := Lib.hid (fun W hW => by rw [← HVA.out]; exact right_at (.mk k n s l m) A c0 A' c0' _ r (hwv.out _ hW).1 HR.out)
            cases r with
            | false =>
              go_wp2_with (go_at_call 43; refine (HCR.out _ HWR.out).mono ?_; rintro e w2 ⟨rfl, hf⟩; have HF2 := Lib.hid (HWR.out.trans hf); clear hf)
              go_ret
              exact ⟨by rw [HRes.out]; rfl, HF2.out⟩
            | true =>
              have HAR := Lib.hid (fun (w2 : World) (hf : Fr wr w2) => (HB1.out.keep hR.out).keep hf)
              by_cases h6 : k = 6
              · subst h6
                go_wp2_with (first
                  | (go_at_call 49; have hm := HF2.out; refine (enames_at m A' c0' M _ HM.out (hwv.out _ hm).2 (by have := HML.out; omega)).mono ?_; rintro e w3 ⟨rfl, hf⟩; have HF3 := Lib.hid (hm.trans hf); clear hf hm)
                  | (go_at_call 43; refine (HCR.out _ HWR.out).mono ?_; rintro e w2 ⟨rfl, hf⟩; have hbx := HAR.out w2 hf; have z0 : w2.cell? ⟨w.heap.size, 0, none⟩ = some (.int .i64 6) := hbx.cell 0; have z4 : w2.cell? ⟨w.heap.size, 4, none⟩ = some (.slice A' M c0') := hbx.cell 4; have HF2 := Lib.hid (HWR.out.trans hf); clear hf hbx))
                go_ret
                exact ⟨by rw [HRes.out]; rfl, HF3.out⟩
              · have h6' : (k != 6) = true := by rw [bne_iff_ne]; exact h6
                have h6b : (k == 6) = false := by rw [beq_eq_false_iff_ne]; exact h6
                go_wp2_with (go_at_call 43; refine (HCR.out _ HWR.out).mono ?_; rintro e w2 ⟨rfl, hf⟩; have hbx := HAR.out w2 hf; have z0 : w2.cell? ⟨w.heap.size, 0, none⟩ = some (.int .i64 k) := hbx.cell 0; have z4 : w2.cell? ⟨w.heap.size, 4, none⟩ = some (.slice A' M c0') := hbx.cell 4; have HF2 := Lib.hid (HWR.out.trans hf); clear hf hbx)
                go_ret
                exact ⟨by rw [HRes.out, h6b]; rfl, HF2.out⟩
end Go.Proofs.YtgncdjcbphobmaaDoor
