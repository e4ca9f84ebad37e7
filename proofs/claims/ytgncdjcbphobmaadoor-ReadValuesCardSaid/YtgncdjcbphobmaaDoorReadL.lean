/- The walk of the laws' count. -/
import Derived.Test.YtgncdjcbphobmaaDoorRdd
namespace Go.Proofs.YtgncdjcbphobmaaDoor
set_option linter.unusedVariables false
set_option linter.unusedSimpArgs false
open Go.RowKit

namespace Rd
open JV
theorem nvL_take {l : List JV} {i : Nat} (h : i < l.length) : nvL (l.take (i + 1)) = nvL (l.take i) + nv l[i] := by
  rw [List.take_succ_eq_append_getElem h, nvL_app, nvL_cons, nvL_nil]; rfl
theorem nvM_take {l : List (List UInt8 × JV)} {i : Nat} (h : i < l.length) : nvM (l.take (i + 1)) = nvM (l.take i) + nv l[i].2 := by
  rw [List.take_succ_eq_append_getElem h, nvM_app, nvM_cons, nvM_nil]; rfl
theorem dpL_app (a b : List JV) (d : Nat) : dpL (a ++ b) d = max (dpL a d) (dpL b d) := by
  induction a with
  | nil => rw [List.nil_append, dpL_nil]; omega
  | cons v a ih => rw [List.cons_append, dpL_cons, dpL_cons, ih]; omega
theorem dpM_app (a b : List (List UInt8 × JV)) (d : Nat) : dpM (a ++ b) d = max (dpM a d) (dpM b d) := by
  induction a with
  | nil => rw [List.nil_append, dpM_nil]; omega
  | cons v a ih => rw [List.cons_append, dpM_cons, dpM_cons, ih]; omega
theorem dpL_take {l : List JV} {i d : Nat} (h : i < l.length) : dpL (l.take (i + 1)) d = max (dpL (l.take i) d) (dp l[i] d) := by
  rw [List.take_succ_eq_append_getElem h, dpL_app, dpL_cons, dpL_nil]; omega
theorem dpM_take {l : List (List UInt8 × JV)} {i d : Nat} (h : i < l.length) : dpM (l.take (i + 1)) d = max (dpM (l.take i) d) (dp l[i].2 d) := by
  rw [List.take_succ_eq_append_getElem h, dpM_app, dpM_cons, dpM_nil]; omega
theorem nvL_take_le (l : List JV) (i : Nat) : nvL (l.take i) ≤ nvL l := by
  have : nvL l = nvL (l.take i) + nvL (l.drop i) := by rw [← nvL_app, List.take_append_drop]
  omega
theorem nvM_take_le (l : List (List UInt8 × JV)) (i : Nat) : nvM (l.take i) ≤ nvM l := by
  have : nvM l = nvM (l.take i) + nvM (l.drop i) := by rw [← nvM_app, List.take_append_drop]
  omega
theorem dpL_take_le (l : List JV) (i d : Nat) : dpL (l.take i) d ≤ dpL l d := by
  have : dpL l d = max (dpL (l.take i) d) (dpL (l.drop i) d) := by rw [← dpL_app, List.take_append_drop]
  omega
theorem dpM_take_le (l : List (List UInt8 × JV)) (i d : Nat) : dpM (l.take i) d ≤ dpM l d := by
  have : dpM l d = max (dpM (l.take i) d) (dpM (l.drop i) d) := by rw [← dpM_app, List.take_append_drop]
  omega
theorem nvL_mem {v : JV} {l : List JV} (h : v ∈ l) : nv v ≤ nvL l := by
  induction l with
  | nil => simp at h
  | cons u l ih =>
    rw [nvL_cons]
    rcases List.mem_cons.1 h with rfl | h
    · omega
    · have := ih h; omega
theorem nvM_mem {v : List UInt8 × JV} {l : List (List UInt8 × JV)} (h : v ∈ l) : nv v.2 ≤ nvM l := by
  induction l with
  | nil => simp at h
  | cons u l ih =>
    rw [nvM_cons]
    rcases List.mem_cons.1 h with rfl | h
    · omega
    · have := ih h; omega
end Rd
theorem ret_two {a b c d : Int} (h : a = c) (h2 : b = d) : Ending.returned (.tuple #[.int .i64 a, .int .i64 b]) = .returned (.tuple #[.int .i64 c, .int .i64 d]) := by rw [h, h2]
/-- What count does. -/
def CtAt (v : JV) (x : Value) (d : Nat) (w : World) : Prop := Calls Tryd.prog 23 #[x, .int .i64 (d : Nat)] w fun e w' => e = .returned (.tuple #[.int .i64 (Rd.nv v : Nat), .int .i64 (Rd.dp v d : Nat)]) ∧ Fr w w'
theorem CtAt.call {v : JV} {x x' : Value} {d : Nat} {w : World} (h : CtAt v x d w) {z : Int} (hx : x' = x) (hz : z = ((d : Nat) : Int)) {n m : Nat} (hn : Rd.nv v = n) (hm : Rd.dp v d = m) :
    Calls Tryd.prog 23 #[x', .int .i64 z] w fun e w' => e = .returned (.tuple #[.int .i64 (n : Nat), .int .i64 (m : Nat)]) ∧ Fr w w' := by
  subst hx; subst hz; subst hn; subst hm; exact h

set_option maxHeartbeats 4000000 in
set_option maxRecDepth 100000 in
theorem count_is (v : JV) : ∀ (x : Value) (d : Nat) (w : World), Rd.uq v = true → InV w (Lo w.heap.size) v x → Rd.nv v ≤ 100000 → Rd.dp v d ≤ 100000 → CtAt v x d w := by
  induction v using JV.ind with
  | h k n s l m ihl ihm =>
    intro x d w hu hv hn hd
    obtain ⟨A, c0, A', c0', rfl, hls, hms⟩ := hv.open_
    obtain ⟨_, _, _, hl63, hm63⟩ := hv.facts
    have hl63 : l.length ≤ 140737488355328 := hl63
    have hm63 : m.length ≤ 140737488355328 := hm63
    rw [Rd.uq_mk, Rd.uqL_all, Rd.uqM_all] at hu
    simp only [Bool.and_eq_true, List.all_eq_true, decide_eq_true_eq] at hu
    have HU := Lib.hid hu
    have hnd := List.pairwise_iff_getElem.1 hu.2
    have HND := Lib.hid hnd
    rw [Rd.nv_mk] at hn
    rw [Rd.dp_mk] at hd
    unfold CtAt
    rw [Rd.nv_mk, Rd.dp_mk]
    have HN := Lib.hid hn
    have HD := Lib.hid hd
    have HLS := Lib.hid hls
    have HMS := Lib.hid hms
    have HIHL := Lib.hid ihl
    have HIHM := Lib.hid ihm
    have hd1 : (d : Int) ≤ 100000 := by omega
    have hl63' : (l.length : Int) ≤ 140737488355328 := by omega
    have hm63' : (m.length : Int) ≤ 140737488355328 := by omega
    obtain ⟨L, hL⟩ : ∃ L, l.length = L := ⟨_, rfl⟩
    obtain ⟨M, hM⟩ : ∃ M, m.length = M := ⟨_, rfl⟩
    rw [hL] at hl63'
    rw [hM] at hm63'
    have HL := Lib.hid hL
    have HM := Lib.hid hM
    show Calls Tryd.prog _ #[.agg #[.int .i64 k, .int .i64 n, .string ⟨s.toArray⟩, .slice A l.length c0, .slice A' m.length c0'], _] _ _
    rw [hL, hM]
    have hgo : ∀ wr : World, Hid (Fr (w.alloc (.cells #[.int .i64 k, .int .i64 n, .string ⟨s.toArray⟩, .slice A L c0, .slice A' M c0'] 25)) wr) → wr.cell? ⟨w.heap.size, 3, none⟩ = some (.slice A L c0) ∧ wr.cell? ⟨w.heap.size, 4, none⟩ = some (.slice A' M c0') := fun wr hf =>
      ⟨((Blk.made w #[.int .i64 k, .int .i64 n, .string ⟨s.toArray⟩, .slice A L c0, .slice A' M c0'] 25).keep hf.out).cell 3, ((Blk.made w #[.int .i64 k, .int .i64 n, .string ⟨s.toArray⟩, .slice A L c0, .slice A' M c0'] 25).keep hf.out).cell 4⟩
    have HGO := Lib.hid hgo
    clear hu hnd hls hms ihl ihm hl63 hm63 hL hM hn hd hv hgo
    go_enter Tryd.func23, Tryd.ntmps23
    go_wp2_with fail
    go_loopw [6, 7, 8] (fun a b j wr => ∃ (i : Nat), i ≤ L ∧ j = .int .i64 i ∧ a = .int .i64 ((1 + Rd.nvL (l.take i) : Nat) : Int) ∧ b = .int .i64 ((max d (Rd.dpL (l.take i) (d + 1)) : Nat) : Int) ∧ Hid (Fr (w.alloc (.cells #[.int .i64 k, .int .i64 n, .string ⟨s.toArray⟩, .slice A L c0, .slice A' M c0'] 25)) wr)) (fun _ _ j _ => L - (intOf j).toNat)
    case atStart => exact ⟨0, by omega, rfl, by rw [List.take_zero, Rd.nvL_nil]; rfl, by rw [List.take_zero, Rd.dpL_nil]; simp, Lib.hid (Fr.refl _)⟩
    case round =>
      obtain ⟨i, hi, rfl, rfl, rfl, hF⟩ := hrel
      obtain ⟨y3, y4⟩ := HGO.out wr hF
      by_cases h : i < L
      · have hil : i < l.length := by have := HL.out; omega
        obtain ⟨b, o, B, dd, B', dd', rfl, hb, ⟨e1, e2, e3, e4, e5⟩, hiv⟩ := (show LsC wr (Lo w.heap.size) A l from HLS.out.keep (Nat.le_refl _) (((Fr.refl w).alloc _).trans hF.out)) i hil
        have hih := HIHL.out l[i] (List.getElem_mem hil)
        have hnt := Rd.nvL_take hil
        have hdt := Rd.dpL_take (d := d + 1) hil
        have hnm := Rd.nvL_mem (List.getElem_mem hil)
        have hdm := Rd.dpL_mem (d := d + 1) (List.getElem_mem hil)
        have hun := HU.out.1.1 l[i] (List.getElem_mem hil)
        have hpos := Rd.nv_pos l[i]
        have hnl := Rd.nvL_take_le l i
        have hdl := Rd.dpL_take_le l i (d + 1)
        obtain ⟨u, hu⟩ : ∃ u, l[i] = u := ⟨_, rfl⟩
        rw [hu] at e1 e2 e3 e4 e5 hiv hih hnt hdt hnm hdm hun hpos
        clear hu
        have HCT : Hid (CtAt u (vA u B dd B' dd') (d + 1) wr) := hih _ _ _ hun (hiv.lo (Nat.le_trans (by simp) (Fr.size hF.out))) (by have := HN.out; omega) (by have := HD.out; omega)
        obtain ⟨n1, hn1⟩ : ∃ n1, Rd.nv u = n1 := ⟨_, rfl⟩
        obtain ⟨d1, hd1'⟩ : ∃ d1, Rd.dp u (d + 1) = d1 := ⟨_, rfl⟩
        obtain ⟨N0, hN0⟩ : ∃ n1, Rd.nvL (l.take i) = n1 := ⟨_, rfl⟩
        obtain ⟨D0, hD0⟩ : ∃ n1, Rd.dpL (l.take i) (d + 1) = n1 := ⟨_, rfl⟩
        rw [hn1] at hnt hnm hpos
        rw [hd1'] at hdt hdm
        rw [hN0] at hnt hnl ⊢
        rw [hD0] at hdt hdl ⊢
        have q1 : (N0 : Int) ≤ 100000 := by have := HN.out; omega
        have q2 : (n1 : Int) ≤ 100000 := by have := HN.out; omega
        have q3 : ((n1 : Int) == 0) = false := by rw [beq_eq_false_iff_ne]; omega
        have q4 : (D0 : Int) ≤ 100000 := by have := HD.out; omega
        have q5 : (d1 : Int) ≤ 100000 := by have := HD.out; omega
        have HNT := Lib.hid hnt
        have HDT := Lib.hid hdt
        have HN1 := Lib.hid hn1
        have HD1 := Lib.hid hd1'
        have h' : (i : Int) < (L : Int) := by omega
        clear hih hnt hdt hnm hdm hun hpos hnl hdl hn1 hd1' hN0 hD0 hiv
        go_wp2_with (go_at_call 23; refine (HCT.out.call rfl (by omega) HN1.out HD1.out).mono ?_; rintro e w2 ⟨rfl, hf⟩; have HF2 := Lib.hid (Fr.trans hF.out hf); clear hf)
        exact ⟨⟨i + 1, by omega, by go_num, congrArg (Value.int .i64) (by rw [HNT.out]; omega), congrArg (Value.int .i64) (by rw [HDT.out]; omega), HF2⟩, by simp [intOf]; omega⟩
      · obtain rfl : L = i := by omega
        have et : l.take L = l := by rw [← HL.out]; exact List.take_length
        rw [et]
        obtain ⟨N0, hN0⟩ : ∃ n1, Rd.nvL l = n1 := ⟨_, rfl⟩
        obtain ⟨D0, hD0⟩ : ∃ n1, Rd.dpL l (d + 1) = n1 := ⟨_, rfl⟩
        rw [hN0, hD0]
        have q1 : (N0 : Int) ≤ 100000 := by have := HN.out; omega
        have q4 : (D0 : Int) ≤ 100000 := by have := HD.out; omega
        have HN0 := Lib.hid hN0
        have HD0 := Lib.hid hD0
        clear et hN0 hD0
        go_wp2_with fail
        go_loopw [6, 7, 11] (fun a b j wr => ∃ (i : Nat), i ≤ M ∧ j = .int .i64 i ∧ a = .int .i64 ((1 + N0 + Rd.nvM (m.take i) : Nat) : Int) ∧ b = .int .i64 ((max (max d D0) (Rd.dpM (m.take i) (d + 1)) : Nat) : Int) ∧ Hid (Fr (w.alloc (.cells #[.int .i64 k, .int .i64 n, .string ⟨s.toArray⟩, .slice A L c0, .slice A' M c0'] 25)) wr)) (fun _ _ j _ => M - (intOf j).toNat)
        case atStart => exact ⟨0, by omega, rfl, by rw [List.take_zero, Rd.nvM_nil]; rfl, by rw [List.take_zero, Rd.dpM_nil]; simp, hF⟩
        case round =>
          obtain ⟨i, hi, rfl, rfl, rfl, hF⟩ := hrel
          obtain ⟨y3, y4⟩ := HGO.out wr hF
          by_cases h : i < M
          · have hil : i < m.length := by have := HM.out; omega
            have hmsw := (show MsC wr (Lo w.heap.size) A' m from HMS.out.keep (Nat.le_refl _) (((Fr.refl w).alloc _).trans hF.out))
            obtain ⟨b, o, B, dd, B', dd', rfl, hb, hnl, e0, ⟨e1, e2, e3, e4, e5⟩, hiv⟩ := hmsw i hil
            have hih := HIHM.out m[i] (List.getElem_mem hil)
            have hnt := Rd.nvM_take hil
            have hdt := Rd.dpM_take (d := d + 1) hil
            have hnm := Rd.nvM_mem (List.getElem_mem hil)
            have hdm := Rd.dpM_mem (d := d + 1) (List.getElem_mem hil)
            have hun := HU.out.1.2 m[i] (List.getElem_mem hil)
            have hpos := Rd.nv_pos m[i].2
            have hnl' := Rd.nvM_take_le m i
            have hdl := Rd.dpM_take_le m i (d + 1)
            have hdif : ∀ j (hj : j < i), m[j].1 ≠ m[i].1 := fun j hj => by
              have := HND.out j i (by simp; omega) (by simpa using hil) hj
              simpa using this
            have hnmj : ∀ j (hj : j < m.length), wr.cell? ⟨b, o + j * 6, none⟩ = some (.string ⟨m[j].1.toArray⟩) := fun j hj => by
              obtain ⟨b', o', _, _, _, _, he, _, _, h0, _⟩ := hmsw j hj
              simp only [Option.some.injEq, Addr.mk.injEq, and_true] at he
              obtain ⟨rfl, rfl⟩ := he
              exact h0
            have HNMJ := Lib.hid hnmj
            obtain ⟨u, hu⟩ : ∃ u, m[i] = u := ⟨_, rfl⟩
            rw [hu] at e0 e1 e2 e3 e4 e5 hiv hih hnt hdt hnm hdm hun hpos hdif
            obtain ⟨nm, u⟩ := u
            simp only at e0 e1 e2 e3 e4 e5 hiv hih hnt hdt hnm hdm hun hpos hdif
            clear hu
            have HDIF := Lib.hid hdif
            have HIV := Lib.hid hiv
            have HIHU := Lib.hid hih
            have HUN := Lib.hid hun
            obtain ⟨n1, hn1⟩ : ∃ n1, Rd.nv u = n1 := ⟨_, rfl⟩
            obtain ⟨d1, hd1'⟩ : ∃ d1, Rd.dp u (d + 1) = d1 := ⟨_, rfl⟩
            obtain ⟨N1, hN1⟩ : ∃ n1, Rd.nvM (m.take i) = n1 := ⟨_, rfl⟩
            obtain ⟨D1, hD1⟩ : ∃ n1, Rd.dpM (m.take i) (d + 1) = n1 := ⟨_, rfl⟩
            rw [hn1] at hnt hnm hpos
            rw [hd1'] at hdt hdm
            rw [hN1] at hnt hnl' ⊢
            rw [hD1] at hdt hdl ⊢
            have q2 : (n1 : Int) ≤ 100000 := by have := HN.out; omega
            have q3 : ((n1 : Int) == 0) = false := by rw [beq_eq_false_iff_ne]; omega
            have q5 : (d1 : Int) ≤ 100000 := by have := HD.out; omega
            have q6 : (N1 : Int) ≤ 100000 := by have := HN.out; omega
            have q7 : (D1 : Int) ≤ 100000 := by have := HD.out; omega
            have HNT := Lib.hid hnt
            have HDT := Lib.hid hdt
            have HN1 := Lib.hid hn1
            have HD1 := Lib.hid hd1'
            have h' : (i : Int) < (M : Int) := by omega
            have HNU : Hid (Rd.nv u ≤ 100000 ∧ Rd.dp u (d + 1) ≤ 100000) := by have := HN.out; have := HD.out; show _ ∧ _; omega
            clear hih hnt hdt hnm hdm hun hpos hnl' hdl hn1 hd1' hN1 hD1 hiv hmsw hdif hnmj
            go_wp2_with fail
            obtain ⟨wo, rfl⟩ : ∃ wo : World, wo = wr := ⟨_, rfl⟩
            go_loopw [12] (fun j wr => ∃ (t : Nat), t ≤ i ∧ j = .int .i64 t ∧ Hid (Fr wo wr)) (fun j _ => i - (intOf j).toNat)
            case atStart => exact ⟨0, by omega, rfl, Lib.hid (Fr.refl _)⟩
            case round =>
              obtain ⟨t, ht, rfl, hT⟩ := hrel
              obtain ⟨z3, z4⟩ := HGO.out wr (Lib.hid (Fr.trans hF.out hT.out))
              have hbw : b < wo.heap.size := Nat.lt_of_lt_of_le hb (Nat.le_trans (by simp) (Fr.size hF.out))
              by_cases hti : t < i
              · have htl : t < m.length := by have := HM.out; omega
                have k0 := (hT.out.cell hbw).trans (HNMJ.out t htl)
                have k1 := (hT.out.cell hbw).trans e0
                have hdf := HDIF.out t hti
                obtain ⟨nt, hnt⟩ : ∃ nt, m[t].1 = nt := ⟨_, rfl⟩
                rw [hnt] at k0 hdf
                have hcmp : ((⟨nt.toArray⟩ : ByteArray).toList == (⟨nm.toArray⟩ : ByteArray).toList) = false := by rw [bl_beq]; exact decide_eq_false hdf
                have hcmp2 : (nt == nm) = false := by rw [beq_eq_false_iff_ne]; exact hdf
                have hti' : (t : Int) < (i : Int) := by omega
                have htM : (t : Int) < (M : Int) := by omega
                clear hdf hnt
                go_wp2_with fail
                go_quiet (fail)
                go_wp2_with fail
                exact ⟨⟨t + 1, by omega, by go_num, Lib.hid (Fr.drewN hT.out _)⟩, by simp [intOf]; omega⟩
              · obtain rfl : t = i := by omega
                have g0 := (hT.out.cell hbw).trans e0
                have g1 := (hT.out.cell hbw).trans e1
                have g2 := (hT.out.cell hbw).trans e2
                have g3 := (hT.out.cell hbw).trans e3
                have g4 := (hT.out.cell hbw).trans e4
                have g5 := (hT.out.cell hbw).trans e5
                have HCT : Hid (CtAt u (vA u B dd B' dd') (d + 1) wr) := HIHU.out _ _ _ HUN.out ((HIV.out.keep (Nat.le_trans (by simp) (Fr.size hF.out)) hT.out).lo (Nat.le_trans (Nat.le_trans (by simp) (Fr.size hF.out)) (Fr.size hT.out))) HNU.out.1 HNU.out.2
                go_wp2_with (go_at_call 23; refine (HCT.out.call rfl (by omega) HN1.out HD1.out).mono ?_; rintro e w2 ⟨rfl, hf⟩; have HF2 := Lib.hid (Fr.trans (Fr.trans hF.out hT.out) hf); clear hf)
                exact ⟨⟨t + 1, by omega, by go_num, congrArg (Value.int .i64) (by rw [HNT.out]; omega), congrArg (Value.int .i64) (by rw [HDT.out]; omega), HF2⟩, by simp [intOf]; omega⟩
          · obtain rfl : M = i := by omega
            have et : m.take M = m := by rw [← HM.out]; exact List.take_length
            rw [et]
            go_wp2_with fail
            go_ret2
            exact ⟨ret_two (by rw [HN0.out]) (by rw [HD0.out]; omega), (((Fr.refl w).alloc _).trans hF.out)⟩
end Go.Proofs.YtgncdjcbphobmaaDoor
