/- The walks of all, and of Long. -/
import Derived.Test.YtgncdjcbphobmaaDoorEmitOg
namespace Go.Proofs.YtgncdjcbphobmaaDoor
set_option linter.unusedVariables false
set_option linter.unusedSimpArgs false
open Go.RowKit

theorem cells5 {w : World} {X : Nat} {a b c d e : Value} {T : TypeId} (h : Blk w X #[a, b, c, d, e] T) : w.cell? ⟨X, 0, none⟩ = some a ∧ w.cell? ⟨X, 1, none⟩ = some b ∧ w.cell? ⟨X, 2, none⟩ = some c ∧ w.cell? ⟨X, 3, none⟩ = some d ∧ w.cell? ⟨X, 4, none⟩ = some e := ⟨h.cell 0, h.cell 1, h.cell 2, h.cell 3, h.cell 4⟩
theorem okL_at {l : List JV} {i : Nat} (h : i < l.length) : JV.okL (l.drop i) = (JV.okB l[i] && JV.okL (l.drop (i + 1))) := by
  rw [List.drop_eq_getElem_cons h, JV.okL_all, JV.okL_all]; rfl
theorem okM_at {l : List (List UInt8 × JV)} {i : Nat} (h : i < l.length) : JV.okM (l.drop i) = (JV.okB l[i].2 && JV.okM (l.drop (i + 1))) := by
  rw [List.drop_eq_getElem_cons h, JV.okM_all, JV.okM_all]; rfl
theorem allL_at {l : List JV} {i : Nat} (h : i < l.length) : JV.allL (l.drop i) = (JV.allB l[i] && JV.allL (l.drop (i + 1))) := by
  rw [List.drop_eq_getElem_cons h, JV.allL_all, JV.allL_all]; rfl
theorem allM_at {l : List (List UInt8 × JV)} {i : Nat} (h : i < l.length) : JV.allM (l.drop i) = (JV.allB l[i].2 && JV.allM (l.drop (i + 1))) := by
  rw [List.drop_eq_getElem_cons h, JV.allM_all, JV.allM_all]; rfl

theorem rallL_no {k n : Int} {s : List UInt8} {l : List JV} {m : List (List UInt8 × JV)} (h : JV.allL l = false) : JV.allB (.mk k n s l m) = false := by rw [JV.all_mk, h]; simp
theorem rallM_no {k n : Int} {s : List UInt8} {l : List JV} {m : List (List UInt8 × JV)} (h : JV.allM m = false) : JV.allB (.mk k n s l m) = false := by rw [JV.all_mk, h]; simp
/-- What all answers. -/
def RallAt (v : JV) (x : Value) (w : World) : Prop := Calls Tryd.prog 31 #[x] w fun e w' => e = .returned (.bool (JV.allB v)) ∧ Fr w w'
theorem RallAt.call {v : JV} {x x' : Value} {w : World} (h : RallAt v x w) (b : Bool) (hx : x' = x) (hr : JV.allB v = b) : Calls Tryd.prog 31 #[x'] w fun e w' => e = .returned (.bool b) ∧ Fr w w' := by
  subst hx; subst hr; exact h

set_option maxHeartbeats 4000000 in
set_option maxRecDepth 100000 in
theorem rall_is (v : JV) : ∀ (x : Value) (w : World), InV w (Lo w.heap.size) v x → JV.bulk v ≤ 1100000 → RallAt v x w := by
  induction v using JV.ind with
  | h k n s l m ihl ihm =>
    intro x w hv hbk
    obtain ⟨A, c0, A', c0', rfl, hls, hms⟩ := hv.open_
    obtain ⟨_, _, _, hl63, hm63⟩ := hv.facts
    have hl63 : l.length ≤ 140737488355328 := hl63
    have hm63 : m.length ≤ 140737488355328 := hm63
    have HV := Lib.hid hv
    have HBK := Lib.hid hbk
    rw [JV.bulk_mk] at hbk
    have HBL : Hid (∀ u ∈ l, JV.bulk u ≤ 1100000) := Lib.hid (fun u hu => by
      have := JV.bulkL_mem hu; have : l.length ≠ 0 := fun e => by simp [List.length_eq_zero_iff.1 e] at hu
      omega)
    have HBM : Hid (∀ u ∈ m, JV.bulk u.2 ≤ 1100000) := Lib.hid (fun u hu => by have := JV.bulkM_mem hu; omega)
    have HML : Hid (m.length ≤ 1100000) := by have := JV.bulkM_len m; show _ ≤ _; omega
    show Calls Tryd.prog _ #[.agg #[.int .i64 k, .int .i64 n, .string ⟨s.toArray⟩, .slice A l.length c0, .slice A' m.length c0']] _ _
    have HLS : Hid (LsC w (Lo w.heap.size) A l) := hls
    have HMS : Hid (MsC w (Lo w.heap.size) A' m) := hms
    have HIHL := Lib.hid ihl
    have HIHM := Lib.hid ihm
    have hl63' : (l.length : Int) ≤ 140737488355328 := by omega
    have hm63' : (m.length : Int) ≤ 140737488355328 := by omega
    have hwv : Hid (∀ W, Fr w W → InV W (Lo W.heap.size) (.mk k n s l m) (vA (.mk k n s l m) A c0 A' c0') ∧ MsC W (Lo W.heap.size) A' m) := Lib.hid (fun W hW => ⟨(HV.out.keep (Nat.le_refl _) hW).lo hW.size, (HMS.out.keep (Nat.le_refl _) hW).map (fun b hb => Nat.lt_of_lt_of_le hb hW.size) (fun _ _ _ => rfl)⟩)
    obtain ⟨S, hS⟩ : ∃ S, (⟨s.toArray⟩ : ByteArray) = S := ⟨_, rfl⟩
    obtain ⟨L, hL⟩ : ∃ L, l.length = L := ⟨_, rfl⟩
    obtain ⟨M, hM⟩ : ∃ M, m.length = M := ⟨_, rfl⟩
    have hva : vA (.mk k n s l m) A c0 A' c0' = .agg #[.int .i64 k, .int .i64 n, .string S, .slice A L c0, .slice A' M c0'] := by rw [← hS, ← hL, ← hM]; rfl
    have HVA := Lib.hid hva
    rw [hL] at hl63'
    rw [hM] at hm63'
    rw [hS, hL, hM]
    have HL := Lib.hid hL
    have HM := Lib.hid hM
    have HB1 := Lib.hid (Blk.made w #[.int .i64 k, .int .i64 n, .string S, .slice A L c0, .slice A' M c0'] 25)
    have HW1 := Lib.hid ((Fr.refl w).alloc (.cells #[.int .i64 k, .int .i64 n, .string S, .slice A L c0, .slice A' M c0'] 25))
    clear hv hbk hls hms ihl ihm hS hL hM hva hl63 hm63
    go_enter Tryd.func31, Tryd.ntmps31
    go_wp2_with fail

    go_loopw [3] (fun j wr => ∃ i : Nat, i ≤ L ∧ j = .int .i64 i ∧ Hid (JV.allL l = JV.allL (l.drop i)) ∧ Hid (Fr (w.alloc (.cells #[.int .i64 k, .int .i64 n, .string S, .slice A L c0, .slice A' M c0'] 25)) wr)) (fun j _ => L - (intOf j).toNat)
    case atStart => exact ⟨0, by omega, rfl, Lib.hid rfl, Lib.hid (Fr.refl _)⟩
    case round =>
      obtain ⟨i, hi, rfl, hC, hR⟩ := hrel
      have u3 := (HB1.out.keep hR.out).cell 3
      have HWR : Hid (Fr w wr) := Lib.hid (HW1.out.trans hR.out)
      by_cases h : i < L
      · have hil : i < l.length := by have := HL.out; omega
        obtain ⟨b, o, B, dd, B', dd', rfl, hb, ⟨e1, e2, e3, e4, e5⟩, hiv⟩ := (HLS.out.keep (Nat.le_refl _) HWR.out) i hil
        have hcl := allL_at hil
        have hih := HIHL.out l[i] (List.getElem_mem hil)
        have hbu := HBL.out l[i] (List.getElem_mem hil)
        obtain ⟨u, hu⟩ : ∃ u, l[i] = u := ⟨_, rfl⟩
        rw [hu] at e1 e2 e3 e4 e5 hiv hcl hih hbu
        clear hu
        have HIV : Hid (InV wr (Lo wr.heap.size) u (vA u B dd B' dd')) := Lib.hid (hiv.lo HWR.out.size)
        have HIH := Lib.hid hih
        have HBU := Lib.hid hbu
        have h' : (i : Int) < (L : Int) := by omega
        cases hck : JV.allB u with
        | false =>
          rw [hck] at hcl
          have HN : Hid (JV.allL l = false) := by show _ = _; rw [hC.out, hcl]; rfl
          have HCK := Lib.hid hck
          clear hck hcl hih hiv hbu
          go_wp2_with (go_at_call 31; refine ((HIH.out _ _ HIV.out HBU.out).call false rfl HCK.out).mono ?_; rintro e w2 ⟨rfl, hf⟩; have HF2 := Lib.hid (hR.out.trans hf); clear hf)
          go_ret
          exact ⟨by rw [rallL_no HN.out]; rfl, HW1.out.trans HF2.out⟩
        | true =>
          rw [hck] at hcl
          have HCK := Lib.hid hck
          have HCL := Lib.hid hcl
          clear hck hcl hih hiv hbu
          go_wp2_with (go_at_call 31; refine ((HIH.out _ _ HIV.out HBU.out).call true rfl HCK.out).mono ?_; rintro e w2 ⟨rfl, hf⟩; have HF2 := Lib.hid (hR.out.trans hf); clear hf)
          refine ⟨⟨i + 1, by omega, by go_num, Lib.hid ?_, HF2⟩, by simp [intOf]; omega⟩
          rw [hC.out, HCL.out]; rfl
      · obtain rfl : L = i := by omega
        have HTL : Hid (JV.allL l = true) := by show _ = _; rw [hC.out, ← HL.out, List.drop_length]; rw [JV.allL_all]; rfl
        go_wp2_with fail
        go_loopw [4] (fun j wr => ∃ i : Nat, i ≤ M ∧ j = .int .i64 i ∧ Hid (JV.allM m = JV.allM (m.drop i)) ∧ Hid (Fr (w.alloc (.cells #[.int .i64 k, .int .i64 n, .string S, .slice A L c0, .slice A' M c0'] 25)) wr)) (fun j _ => M - (intOf j).toNat)
        case atStart => exact ⟨0, by omega, rfl, Lib.hid rfl, hR⟩
        case round =>
          obtain ⟨i, hi, rfl, hC, hR⟩ := hrel
          have u4 := (HB1.out.keep hR.out).cell 4
          have HWR : Hid (Fr w wr) := Lib.hid (HW1.out.trans hR.out)
          by_cases h : i < M
          · have hil : i < m.length := by have := HM.out; omega
            obtain ⟨b, o, B, dd, B', dd', rfl, hb, hnl, e0, ⟨e1, e2, e3, e4, e5⟩, hiv⟩ := (HMS.out.keep (Nat.le_refl _) HWR.out) i hil
            have hcl := allM_at hil
            have hih := HIHM.out m[i] (List.getElem_mem hil)
            have hbu := HBM.out m[i] (List.getElem_mem hil)
            obtain ⟨u, hu⟩ : ∃ u, m[i] = u := ⟨_, rfl⟩
            rw [hu] at e0 e1 e2 e3 e4 e5 hiv hcl hih hbu
            obtain ⟨nm, u⟩ := u
            simp only at e0 e1 e2 e3 e4 e5 hiv hcl hih hbu
            clear hu
            have HIV : Hid (InV wr (Lo wr.heap.size) u (vA u B dd B' dd')) := Lib.hid (hiv.lo HWR.out.size)
            have HIH := Lib.hid hih
            have HBU := Lib.hid hbu
            have h' : (i : Int) < (M : Int) := by omega
            cases hck : JV.allB u with
            | false =>
              rw [hck] at hcl
              have HN : Hid (JV.allM m = false) := by show _ = _; rw [hC.out, hcl]; rfl
              have HCK := Lib.hid hck
              clear hck hcl hih hiv hbu hnl
              go_wp2_with (go_at_call 31; refine ((HIH.out _ _ HIV.out HBU.out).call false rfl HCK.out).mono ?_; rintro e w2 ⟨rfl, hf⟩; have HF2 := Lib.hid (hR.out.trans hf); clear hf)
              go_ret
              exact ⟨by rw [rallM_no HN.out]; rfl, HW1.out.trans HF2.out⟩
            | true =>
              rw [hck] at hcl
              have HCK := Lib.hid hck
              have HCL := Lib.hid hcl
              clear hck hcl hih hiv hbu hnl
              go_wp2_with (go_at_call 31; refine ((HIH.out _ _ HIV.out HBU.out).call true rfl HCK.out).mono ?_; rintro e w2 ⟨rfl, hf⟩; have HF2 := Lib.hid (hR.out.trans hf); clear hf)
              refine ⟨⟨i + 1, by omega, by go_num, Lib.hid ?_, HF2⟩, by simp [intOf]; omega⟩
              rw [hC.out, HCL.out]; rfl
          · obtain rfl : M = i := by omega
            have HTM : Hid (JV.allM m = true) := by show _ = _; rw [hC.out, ← HM.out, List.drop_length]; rw [JV.allM_all]; rfl
            obtain ⟨y0, y1, y2, y3, y4⟩ := cells5 (HB1.out.keep hR.out)
            obtain ⟨r, hr⟩ : ∃ r, JV.rightB (.mk k n s l m) = r := ⟨_, rfl⟩
            have HR := Lib.hid hr
            have HRes : Hid (JV.allB (.mk k n s l m) = r) := by show _ = _; rw [JV.all_mk, HTL.out, HTM.out, hr]; rfl
            clear hr
            go_wp2_with (go_at_call 50; rw [← HVA.out]; refine (own_is (.mk k n s l m) A c0 A' c0' _ (hwv.out _ HWR.out).1 HBK.out r HR.out).mono ?_; rintro e w2 ⟨rfl, hf⟩; have HF2 := Lib.hid (HWR.out.trans hf); clear hf)
            go_ret
            exact ⟨by rw [HRes.out]; rfl, HF2.out⟩
end Go.Proofs.YtgncdjcbphobmaaDoor
