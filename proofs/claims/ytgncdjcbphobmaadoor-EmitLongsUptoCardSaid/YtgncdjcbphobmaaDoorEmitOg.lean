/- The walks of few, of all, and of Long. -/
import Derived.Test.YtgncdjcbphobmaaDoorEmitOe
import Derived.Test.YtgncdjcbphobmaaDoorEmitOf
namespace Go.Proofs.YtgncdjcbphobmaaDoor
set_option linter.unusedVariables false
set_option linter.unusedSimpArgs false
open Go.RowKit

theorem fewL_at {l : List JV} {i a d q : Nat} (h : i < l.length) : JV.fewL (l.drop i) a d q = match JV.fewV l[i] (a - q) d with | none => none | some k => JV.fewL (l.drop (i + 1)) a d (q + k) := by
  rw [List.drop_eq_getElem_cons h, JV.fewL_cons]
  cases JV.fewV l[i] (a - q) d <;> rfl
theorem fewM_at {l : List (List UInt8 × JV)} {i a d q : Nat} (h : i < l.length) : JV.fewM (l.drop i) a d q = match JV.fewV l[i].2 (a - q) d with | none => none | some k => JV.fewM (l.drop (i + 1)) a d (q + k) := by
  rw [List.drop_eq_getElem_cons h, JV.fewM_cons]
  cases JV.fewV l[i].2 (a - q) d <;> rfl
/-- What few answers. -/
def FwP (r : Option Nat) : Value := .tuple #[.int .i64 ((r.getD 0 : Nat) : Int), .bool r.isSome]
def FwAt (v : JV) (x : Value) (a d : Nat) (w : World) : Prop := Calls Tryd.prog 16 #[x, .int .i64 (a : Nat), .int .i64 (d : Nat)] w fun e w' => e = .returned (FwP (JV.fewV v a d)) ∧ Fr w w'
theorem FwAt.no {v : JV} {x x' : Value} {a d : Nat} {w : World} (h : FwAt v x a d w) {z y : Int} (hx : x' = x) (hy : y = ((a : Nat) : Int)) (hz : z = ((d : Nat) : Int)) (hr : JV.fewV v a d = none) :
    Calls Tryd.prog 16 #[x', .int .i64 y, .int .i64 z] w fun e w' => e = .returned (.tuple #[.int .i64 0, .bool false]) ∧ Fr w w' := by
  subst hx; subst hz; subst hy
  have h' : Calls Tryd.prog 16 #[x', .int .i64 (a : Nat), .int .i64 (d : Nat)] w fun e w' => e = .returned (FwP (JV.fewV v a d)) ∧ Fr w w' := h
  rw [hr] at h'; exact h'
theorem FwAt.yes {v : JV} {x x' : Value} {a d : Nat} {w : World} (h : FwAt v x a d w) {z y : Int} {k : Nat} (hx : x' = x) (hy : y = ((a : Nat) : Int)) (hz : z = ((d : Nat) : Int)) (hr : JV.fewV v a d = some k) :
    Calls Tryd.prog 16 #[x', .int .i64 y, .int .i64 z] w fun e w' => e = .returned (.tuple #[.int .i64 (k : Nat), .bool true]) ∧ Fr w w' := by
  subst hx; subst hz; subst hy
  have h' : Calls Tryd.prog 16 #[x', .int .i64 (a : Nat), .int .i64 (d : Nat)] w fun e w' => e = .returned (FwP (JV.fewV v a d)) ∧ Fr w w' := h
  rw [hr] at h'; exact h'

set_option maxHeartbeats 2000000 in
set_option maxRecDepth 100000 in
theorem few_out (k n : Int) (S : ByteArray) (A : Option Addr) (L c0 : Nat) (A' : Option Addr) (M c0' : Nat) (a d : Nat) (w : World) (ha : a ≤ 3000) (hd : d ≤ 100) (ho : a < 1 ∨ d < 1 ∨ a < L ∨ a < M) :
    Calls Tryd.prog 16 #[.agg #[.int .i64 k, .int .i64 n, .string S, .slice A L c0, .slice A' M c0'], .int .i64 (a : Nat), .int .i64 (d : Nat)] w fun e w' => e = .returned (.tuple #[.int .i64 0, .bool false]) ∧ Fr w w' := by
  by_cases h1 : a < 1
  · have d1 : decide ((a : Int) < 1) = true := decide_eq_true (by omega)
    clear ho
    go_enter Tryd.func16, Tryd.ntmps16
    go_wp2_with fail
    go_ret2
    exact ⟨rfl, (Fr.refl _).alloc _⟩
  have d1 : decide ((a : Int) < 1) = false := decide_eq_false (by omega)
  by_cases h2 : d < 1
  · have d2 : decide ((d : Int) < 1) = true := decide_eq_true (by omega)
    clear ho
    go_enter Tryd.func16, Tryd.ntmps16
    go_wp2_with fail
    go_ret2
    exact ⟨rfl, (Fr.refl _).alloc _⟩
  have d2 : decide ((d : Int) < 1) = false := decide_eq_false (by omega)
  by_cases h3 : a < L
  · have d3 : decide (a < L) = true := decide_eq_true (by omega)
    clear ho
    go_enter Tryd.func16, Tryd.ntmps16
    go_wp2_with fail
    go_ret2
    exact ⟨rfl, (Fr.refl _).alloc _⟩
  have d3 : decide (a < L) = false := decide_eq_false (by omega)
  have h4 : a < M := by omega
  have d4 : decide (a < M) = true := decide_eq_true (by omega)
  clear ho
  go_enter Tryd.func16, Tryd.ntmps16
  go_wp2_with fail
  go_ret2
  exact ⟨rfl, (Fr.refl _).alloc _⟩

set_option maxHeartbeats 4000000 in
set_option maxRecDepth 100000 in
theorem few_is (v : JV) : ∀ (x : Value) (a d : Nat) (w : World), InV w (Lo w.heap.size) v x → a ≤ 3000 → d ≤ 100 → FwAt v x a d w := by
  induction v using JV.ind with
  | h k n s l m ihl ihm =>
    intro x a d w hv ha hd
    obtain ⟨A, c0, A', c0', rfl, hls, hms⟩ := hv.open_
    show Calls Tryd.prog _ #[.agg #[.int .i64 k, .int .i64 n, .string ⟨s.toArray⟩, .slice A l.length c0, .slice A' m.length c0'], _, _] _ _
    obtain ⟨r, hr⟩ : ∃ r, JV.fewV (.mk k n s l m) a d = r := ⟨_, rfl⟩
    rw [hr]
    rw [JV.fewV_mk] at hr
    by_cases ho : a < 1 ∨ d < 1 ∨ a < l.length ∨ a < m.length
    · rw [if_pos ho] at hr
      subst hr
      exact few_out k n _ A _ c0 A' _ c0' a d w ha hd ho
    rw [if_neg ho] at hr
    have hls : LsC w (Lo w.heap.size) A l := hls
    have hms : MsC w (Lo w.heap.size) A' m := hms
    have d1 : decide ((a : Int) < 1) = false := decide_eq_false (by omega)
    have d2 : decide ((d : Int) < 1) = false := decide_eq_false (by omega)
    have d3 : decide (a < l.length) = false := decide_eq_false (by omega)
    have d4 : decide (a < m.length) = false := decide_eq_false (by omega)
    have HLS := Lib.hid hls
    have HMS := Lib.hid hms
    have HIHL := Lib.hid ihl
    have HIHM := Lib.hid ihm
    obtain ⟨S, hS⟩ : ∃ S, (⟨s.toArray⟩ : ByteArray) = S := ⟨_, rfl⟩
    obtain ⟨L, hL⟩ : ∃ L, l.length = L := ⟨_, rfl⟩
    obtain ⟨M, hM⟩ : ∃ M, m.length = M := ⟨_, rfl⟩
    rw [hL] at ho d3
    rw [hM] at ho d4
    rw [hS, hL, hM]
    have HL := Lib.hid hL
    have HM := Lib.hid hM
    have HR := Lib.hid hr
    have HO : Hid (1 ≤ a ∧ 1 ≤ d ∧ L ≤ a ∧ M ≤ a) := by show _ ∧ _; omega
    have ha2 : (a : Int) ≤ 3000 := by omega
    have hd2 : (d : Int) ≤ 100 := by omega
    have hd3 : (1 : Int) ≤ (d : Int) := by have := HO.out; omega
    clear hv hls hms ihl ihm ho hS hL hM hr
    go_enter Tryd.func16, Tryd.ntmps16
    go_wp2_with fail
    have HB1 := Lib.hid (Blk.made w #[.int .i64 k, .int .i64 n, .string S, .slice A L c0, .slice A' M c0'] 25)
    have HW1 := Lib.hid ((Fr.refl w).alloc (.cells #[.int .i64 k, .int .i64 n, .string S, .slice A L c0, .slice A' M c0'] 25))
    go_loopw [8, 9, 10, 11] (fun n1 j k1 o1 wr => ∃ (i q : Nat), i ≤ L ∧ n1 = .int .i64 q ∧ j = .int .i64 i ∧ 1 ≤ q ∧ q ≤ a ∧ Hid (JV.fewL l a (d - 1) 1 = JV.fewL (l.drop i) a (d - 1) q) ∧ Hid (Fr (w.alloc (.cells #[.int .i64 k, .int .i64 n, .string S, .slice A L c0, .slice A' M c0'] 25)) wr)) (fun _ j _ _ _ => L - (intOf j).toNat)
    case atStart => exact ⟨0, 1, by omega, rfl, rfl, by omega, HO.out.1, Lib.hid rfl, Lib.hid (Fr.refl _)⟩
    case round =>
      obtain ⟨i, q, hi, rfl, rfl, hq1, hq2, hC, hR⟩ := hrel
      have u3 := (HB1.out.keep hR.out).cell 3
      have HWR : Hid (Fr w wr) := Lib.hid (HW1.out.trans hR.out)
      have hq2' : (q : Int) ≤ (a : Int) := by omega
      by_cases h : i < L
      · have hil : i < l.length := by have := HL.out; omega
        obtain ⟨b, o, B, dd, B', dd', rfl, hb, ⟨e1, e2, e3, e4, e5⟩, hiv⟩ := (HLS.out.keep (Nat.le_refl _) HWR.out) i hil
        have hcl := fewL_at (a := a) (d := d - 1) (q := q) hil
        have hih := HIHL.out l[i] (List.getElem_mem hil)
        obtain ⟨u, hu⟩ : ∃ u, l[i] = u := ⟨_, rfl⟩
        rw [hu] at e1 e2 e3 e4 e5 hiv hcl hih
        clear hu
        have HIV : Hid (InV wr (Lo wr.heap.size) u (vA u B dd B' dd')) := Lib.hid (hiv.lo HWR.out.size)
        have HIH := Lib.hid hih
        have h' : (i : Int) < (L : Int) := by omega
        have hl' : (L : Int) ≤ 3000 := by have := HO.out; omega
        cases hck : JV.fewV u (a - q) (d - 1) with
        | none =>
          rw [hck] at hcl
          have HN : Hid (r = none) := by
            have := HR.out
            rw [hC.out, hcl] at this; exact this.symm
          have HCK := Lib.hid hck
          clear hck hcl hih hiv
          go_wp2_with (go_at_call 16; refine ((HIH.out _ (a - q) (d - 1) _ HIV.out (by omega) (by omega)).no rfl (by omega) (by omega) HCK.out).mono ?_; rintro e w2 ⟨rfl, hf⟩; have HF2 := Lib.hid (HWR.out.trans hf); clear hf)
          go_ret2
          exact ⟨by rw [HN.out]; rfl, HF2.out⟩
        | some j =>
          rw [hck] at hcl
          have hjl := JV.few_le u _ _ _ hck
          have HCK := Lib.hid hck
          have HCL := Lib.hid hcl
          have hj1 : (j : Int) ≤ (a : Int) := by omega
          clear hck hcl hih hiv
          go_wp2_with (go_at_call 16; refine ((HIH.out _ (a - q) (d - 1) _ HIV.out (by omega) (by omega)).yes rfl (by omega) (by omega) HCK.out).mono ?_; rintro e w2 ⟨rfl, hf⟩; have HF2 := Lib.hid (hR.out.trans hf); clear hf)
          refine ⟨⟨i + 1, q + j, by omega, by go_num, by go_num, by omega, by omega, Lib.hid ?_, HF2⟩, by simp [intOf]; omega⟩
          rw [hC.out, HCL.out]
      · obtain rfl : L = i := by omega
        have HQ : Hid (JV.fewL l a (d - 1) 1 = some q) := by
          show _ = _
          rw [hC.out, ← HL.out, List.drop_length, JV.fewL_nil]
        have HR2 : Hid (r = JV.fewM m a (d - 1) q) := by
          have := HR.out
          rw [HQ.out] at this; exact this.symm
        go_wp2_with fail
        go_loopw [8, 12, 13, 14] (fun n1 j k1 o1 wr => ∃ (i q : Nat), i ≤ M ∧ n1 = .int .i64 q ∧ j = .int .i64 i ∧ 1 ≤ q ∧ q ≤ a ∧ Hid (r = JV.fewM (m.drop i) a (d - 1) q) ∧ Hid (Fr (w.alloc (.cells #[.int .i64 k, .int .i64 n, .string S, .slice A L c0, .slice A' M c0'] 25)) wr)) (fun _ j _ _ _ => M - (intOf j).toNat)
        case atStart => exact ⟨0, q, by omega, rfl, rfl, hq1, hq2, HR2, hR⟩
        case round =>
          obtain ⟨i, q, hi, rfl, rfl, hq1, hq2, hC, hR⟩ := hrel
          have u4 := (HB1.out.keep hR.out).cell 4
          have HWR : Hid (Fr w wr) := Lib.hid (HW1.out.trans hR.out)
          have hq2' : (q : Int) ≤ (a : Int) := by omega
          by_cases h : i < M
          · have hil : i < m.length := by have := HM.out; omega
            obtain ⟨b, o, B, dd, B', dd', rfl, hb, hnl, e0, ⟨e1, e2, e3, e4, e5⟩, hiv⟩ := (HMS.out.keep (Nat.le_refl _) HWR.out) i hil
            have hcl := fewM_at (a := a) (d := d - 1) (q := q) hil
            have hih := HIHM.out m[i] (List.getElem_mem hil)
            obtain ⟨u, hu⟩ : ∃ u, m[i] = u := ⟨_, rfl⟩
            rw [hu] at e0 e1 e2 e3 e4 e5 hiv hcl hih
            obtain ⟨nm, u⟩ := u
            simp only at e0 e1 e2 e3 e4 e5 hiv hcl hih
            clear hu
            have HIV : Hid (InV wr (Lo wr.heap.size) u (vA u B dd B' dd')) := Lib.hid (hiv.lo HWR.out.size)
            have HIH := Lib.hid hih
            have h' : (i : Int) < (M : Int) := by omega
            have hl' : (M : Int) ≤ 3000 := by have := HO.out; omega
            cases hck : JV.fewV u (a - q) (d - 1) with
            | none =>
              rw [hck] at hcl
              have HN : Hid (r = none) := by
                have := hC.out
                rw [hcl] at this; exact this
              have HCK := Lib.hid hck
              clear hck hcl hih hiv hnl
              go_wp2_with (go_at_call 16; refine ((HIH.out _ (a - q) (d - 1) _ HIV.out (by omega) (by omega)).no rfl (by omega) (by omega) HCK.out).mono ?_; rintro e w2 ⟨rfl, hf⟩; have HF2 := Lib.hid (HWR.out.trans hf); clear hf)
              go_ret2
              exact ⟨by rw [HN.out]; rfl, HF2.out⟩
            | some j =>
              rw [hck] at hcl
              have hjl := JV.few_le u _ _ _ hck
              have HCK := Lib.hid hck
              have HCL := Lib.hid hcl
              have hj1 : (j : Int) ≤ (a : Int) := by omega
              clear hck hcl hih hiv hnl
              go_wp2_with (go_at_call 16; refine ((HIH.out _ (a - q) (d - 1) _ HIV.out (by omega) (by omega)).yes rfl (by omega) (by omega) HCK.out).mono ?_; rintro e w2 ⟨rfl, hf⟩; have HF2 := Lib.hid (hR.out.trans hf); clear hf)
              refine ⟨⟨i + 1, q + j, by omega, by go_num, by go_num, by omega, by omega, Lib.hid ?_, HF2⟩, by simp [intOf]; omega⟩
              rw [hC.out, HCL.out]
          · obtain rfl : M = i := by omega
            have HN : Hid (r = some q) := by
              show _ = _
              rw [hC.out, ← HM.out, List.drop_length, JV.fewM_nil]
            go_wp2_with fail
            go_ret2
            exact ⟨by rw [HN.out]; rfl, HWR.out⟩
end Go.Proofs.YtgncdjcbphobmaaDoor
