/- The law ReadKeeps. -/
import Derived.Test.YtgncdjcbphobmaaDoorReadM
namespace Go.Proofs.YtgncdjcbphobmaaDoor
set_option linter.unusedVariables false
set_option linter.unusedSimpArgs false
open Go.RowKit

/-- Cells that lie there. -/
def Has (w : World) (A : Option Addr) (n sz f : Nat) : Prop := ∀ b o, A = some ⟨b, o, none⟩ → ∀ k, k < n → ∃ u, w.cell? ⟨b, o + k * sz + f, none⟩ = some u
theorem has_set {w : World} {p q : Addr} {v : Value} (h : ∃ u, w.cell? q = some u) : ∃ u, (w.setCell p v).cell? q = some u := by
  obtain ⟨u, hu⟩ := h
  by_cases e : p = q
  · subst e; exact ⟨v, World.cell?_setCell_same _ _ _ hu⟩
  · exact ⟨u, by rw [World.cell?_setCell_other _ _ _ _ e]; exact hu⟩
theorem Has.set {w : World} {A : Option Addr} {n sz f : Nat} (h : Has w A n sz f) (p : Addr) (v : Value) : Has (w.setCell p v) A n sz f := fun b o e k hk => has_set (h b o e k hk)
/-- Only blocks below Z changed: those of two slices. -/
structure Kp (w0 w wr : World) (Z : Nat) (B B' : Option Addr) (L M : Nat) : Prop where
  keep : ∀ k, Z ≤ k → k < w.heap.size → wr.heap[k]? = w.heap[k]?
  size : wr.heap.size = w.heap.size
  fr : Fr w0 wr
  h1 : Has wr B L 5 2
  h2 : Has wr B' M 6 0
  s1 : 0 < L → Sft wr B
  s2 : 0 < M → Sft wr B'
theorem Kp.set {w0 w wr : World} {Z : Nat} {B B' : Option Addr} {L M : Nat} (h : Kp w0 w wr Z B B' L M) {b : Nat} (h0 : w0.heap.size ≤ b) (hZ : b < Z) (j : Nat) (u : Value) : Kp w0 w (wr.setCell ⟨b, j, none⟩ u) Z B B' L M :=
  ⟨fun k hk hk2 => (Below.heap_setCell _ _ _ _ (by show k ≠ b; omega)).trans (h.keep k hk hk2), by have := h.size; simpa [World.setCell] using this, h.fr.setCell h0 _, h.h1.set _ _, h.h2.set _ _, fun hl => (h.s1 hl).set _ _, fun hl => (h.s2 hl).set _ _⟩
theorem Kp.blk {w0 w wr : World} {Z : Nat} {B B' : Option Addr} {L M : Nat} (h : Kp w0 w wr Z B B' L M) {X : Nat} {cs : Array Value} {T : TypeId} (hb : Blk w X cs T) (hX : Z ≤ X) : Blk wr X cs T := (h.keep X hX hb.lt).trans hb
theorem tok_zero {s : List UInt8} {ts : List Scn.Tok} {p x : Nat} {v : JV} {l : List Scn.Tok} {q : Nat} (h : Scn.tokens s = (ts, p, x)) (hr : Rd.rdS s = .ok v l q) : x = 0 := by
  rw [Rd.rdS_def s h] at hr
  split at hr
  · assumption
  · cases hr
theorem tok_bad {s : List UInt8} {ts : List Scn.Tok} {p x a c : Nat} (h : Scn.tokens s = (ts, p, x)) (hr : Rd.rdS s = .bad a c) : x = 0 ∨ x = c := by
  rw [Rd.rdS_def s h] at hr
  split at hr
  · exact .inl ‹_›
  · injection hr with _ h2; exact .inr h2

set_option maxHeartbeats 2000000 in
set_option maxRecDepth 100000 in
theorem keeps_bad (s : ByteArray) (ts : List Scn.Tok) (p x a c : Nat) (w : World) (hs : s.size ≤ 140737488351232) (hT : LowTabs w) (hP : PtTab w) (h : Scn.tokens s.data.toList = (ts, p, x)) (hr : Rd.rdS s.data.toList = .bad a c) :
    Calls Tryd.prog 10 #[.string s] w fun e w' => e = .returned (.bool true) ∧ Fr w w' := by
  have HT := Lib.hid hT
  have HP := Lib.hid hP
  have hs' : (s.size : Int) ≤ 140737488351232 := by omega
  have HS : Hid (s.size ≤ 9223372036854775807) := by show _ ≤ _; omega
  have hx := tok_bad h hr
  have HK := Lib.hid h
  have HR := Lib.hid hr
  have n1 : ((x : Int) != 0) = true ∧ ((c : Int) != (x : Int)) = false ∨ ((x : Int) != 0) = false := by
    rcases hx with rfl | rfl
    · exact .inr (by simp)
    · by_cases h0 : x = 0
      · subst h0; exact .inr (by simp)
      · exact .inl ⟨by rw [bne_iff_ne]; omega, by simp⟩
  have n2 : decide ((0 : Int) ≤ (ts.length : Int)) = true := decide_eq_true (by omega)
  clear hT hP hs h hr hx
  rcases n1 with ⟨n1, n3⟩ | n1
  all_goals
    go_enter Tryd.func10, Tryd.ntmps10
    go_wp2_with (first
      | (go_at_call 21; have hm := HF3.out.alloc (.cells #[.int .i64 0, .int .i64 0, .string ⟨#[]⟩, .slice none 0 0, .slice none 0 0] 25); refine (awake05 _ (HT.out.keep hm)).mono ?_; rintro e w4 ⟨rfl, hf⟩; have HF4 := Lib.hid (hm.trans hf); have hz := (HZ3.out.keep ((Fr.refl _).alloc _)).keep hf; have HZ4 := Lib.hid hz; have HY4 := Lib.hid ((Blk.made w3 #[.int .i64 0, .int .i64 0, .string ⟨#[]⟩, .slice none 0 0, .slice none 0 0] 25).keep hf); clear hf hm hz)
      | (go_at_call 19; have hm := HF2.out.alloc (.cells #[.int .i64 0, .int .i64 0, .string ⟨#[]⟩, .slice none 0 0, .slice none 0 0] 25); refine (rvalue_b s a c _ HS.out (HT.out.keep hm) HR.out).mono ?_; rintro e w3 ⟨rfl, hf⟩; have HF3 := Lib.hid (hm.trans hf); have HZ3 := Lib.hid ((Blk.made w2 #[.int .i64 0, .int .i64 0, .string ⟨#[]⟩, .slice none 0 0, .slice none 0 0] 25).keep hf); clear hf hm)
      | (go_at_call 19; have hm := HF1.out; refine (rvalue_b s a c _ HS.out (HT.out.keep hm) HR.out).mono ?_; rintro e w2 ⟨rfl, hf⟩; have HF2 := Lib.hid (hm.trans hf); clear hf hm)
      | (go_at_call 24; refine (rtokens_at s ts p x _ HS.out HP.out HK.out).mono ?_; rintro e w1 ⟨v, rfl, htk, hf⟩; obtain ⟨A, cc, rfl, _, _⟩ := htk.tv (Nat.le_refl _); have HF1 := Lib.hid hf; clear hf htk))
    go_loopw [12] (fun j wr => j = .int .i64 0 ∧ Hid (Fr w4 wr)) (fun _ _ => 0)
    case atStart => exact ⟨rfl, Lib.hid (Fr.refl _)⟩
    case round =>
      obtain ⟨rfl, hR⟩ := hrel
      have u3 := (HZ4.out.keep hR.out).cell 3
      go_wp2_with fail
      go_loopw [13] (fun j ws => j = .int .i64 0 ∧ Hid (Fr w4 ws)) (fun _ _ => 0)
      case atStart => exact ⟨rfl, Lib.hid hR.out⟩
      case round =>
        obtain ⟨rfl, hS⟩ := hrel
        have u4 := (HZ4.out.keep hS.out).cell 4
        go_wp2_with (first
          | (go_at_call 22; have hm := HF5.out.alloc (.cells #[.int .i64 0, .int .i64 0, .string ⟨#[]⟩, .slice none 0 0, .slice none 0 0] 25); refine (same_zero _).mono ?_; rintro e w6 ⟨rfl, hf⟩; have HF6 := Lib.hid (hm.trans hf); clear hf hm)
          | (go_at_call 19; have hm := HF4.out.trans hS.out; refine (rvalue_b s a c _ HS.out (HT.out.keep hm) HR.out).mono ?_; rintro e w5 ⟨rfl, hf⟩; have HF5 := Lib.hid (hm.trans hf); have hy := (HY4.out.keep hS.out).keep hf; have y0 : ∀ ob, (w5.alloc ob).cell? ⟨w3.heap.size, 0, none⟩ = some (.int .i64 0) := fun ob => (hy.keep ((Fr.refl _).alloc ob)).cell 0; have y1 : ∀ ob, (w5.alloc ob).cell? ⟨w3.heap.size, 1, none⟩ = some (.int .i64 0) := fun ob => (hy.keep ((Fr.refl _).alloc ob)).cell 1; have y2 : ∀ ob, (w5.alloc ob).cell? ⟨w3.heap.size, 2, none⟩ = some (.string ⟨#[]⟩) := fun ob => (hy.keep ((Fr.refl _).alloc ob)).cell 2; have y3 : ∀ ob, (w5.alloc ob).cell? ⟨w3.heap.size, 3, none⟩ = some (.slice none 0 0) := fun ob => (hy.keep ((Fr.refl _).alloc ob)).cell 3; have y4 : ∀ ob, (w5.alloc ob).cell? ⟨w3.heap.size, 4, none⟩ = some (.slice none 0 0) := fun ob => (hy.keep ((Fr.refl _).alloc ob)).cell 4; clear hf hm hy))
        go_ret
        exact ⟨rfl, HF6.out⟩

set_option maxHeartbeats 2000000 in
set_option maxRecDepth 100000 in
theorem keeps_ok (s : ByteArray) (ts : List Scn.Tok) (p : Nat) (v : JV) (l : List Scn.Tok) (q : Nat) (w : World) (hs : s.size ≤ 140737488351232) (hT : LowTabs w) (hP : PtTab w) (h : Scn.tokens s.data.toList = (ts, p, 0)) (hr : Rd.rdS s.data.toList = .ok v l q) :
    Calls Tryd.prog 10 #[.string s] w fun e w' => e = .returned (.bool true) ∧ Fr w w' := by
  have HT := Lib.hid hT
  have HP := Lib.hid hP
  have hs' : (s.size : Int) ≤ 140737488351232 := by omega
  have HS : Hid (s.size ≤ 9223372036854775807) := by show _ ≤ _; omega
  have HK := Lib.hid h
  have HR := Lib.hid hr
  have n2 : decide ((0 : Int) ≤ (ts.length : Int)) = true := decide_eq_true (by omega)
  obtain ⟨L, hL⟩ : ∃ L, v.ls.length = L := ⟨_, rfl⟩
  obtain ⟨M, hM⟩ : ∃ M, v.ms.length = M := ⟨_, rfl⟩
  have HL := Lib.hid hL
  have HM := Lib.hid hM
  have HVA : ∀ B d B' d', Hid (vA v B d B' d' = .agg #[.int .i64 v.kd, .int .i64 v.nm, .string ⟨v.tx.toArray⟩, .slice B L d, .slice B' M d']) := by
    intro B d B' d'
    show vA v B d B' d' = _
    unfold vA; rw [hL, hM]
  clear hT hP hs h hr hL hM
  go_enter Tryd.func10, Tryd.ntmps10
  go_wp2_with (first
    | (go_at_call 21; have hm := HF3.out.alloc (.cells #[.int .i64 v.kd, .int .i64 v.nm, .string ⟨v.tx.toArray⟩, .slice B2 L d2, .slice B2' M d2'] 25); refine (awake05 _ (HT.out.keep hm)).mono ?_; rintro e w4 ⟨rfl, hf⟩; have HF4 := Lib.hid (hm.trans hf); have HB4 := Lib.hid ((HB3.out.keep ((Fr.refl _).alloc _)).keep hf); have HY4 := Lib.hid ((Blk.made w3 #[.int .i64 v.kd, .int .i64 v.nm, .string ⟨v.tx.toArray⟩, .slice B2 L d2, .slice B2' M d2'] 25).keep hf); have HG4 := Lib.hid (((Fr.refl w3).alloc (.cells #[.int .i64 v.kd, .int .i64 v.nm, .string ⟨v.tx.toArray⟩, .slice B2 L d2, .slice B2' M d2'] 25)).trans hf); clear hf hm)
    | (go_at_call 19; have hm := HF2.out.alloc (.cells #[.int .i64 v.kd, .int .i64 v.nm, .string ⟨v.tx.toArray⟩, .slice B L d, .slice B' M d'] 25); refine (rvalue_v s v l q v.kd v.nm v.tx L M ⟨rfl, rfl, rfl, HL.out, HM.out⟩ _ HS.out (HT.out.keep hm) HR.out).mono ?_; rintro e w3 ⟨B2, d2, B2', d2', rfl, hv3, hf⟩; have HF3 := Lib.hid (hm.trans hf); have HG3 := Lib.hid (((Fr.refl w2).alloc (.cells #[.int .i64 v.kd, .int .i64 v.nm, .string ⟨v.tx.toArray⟩, .slice B L d, .slice B' M d'] 25)).trans hf); have HLT3 : Hid (w2.heap.size < w3.heap.size) := (by have := hf.size; simp only [World.size_alloc] at this; show _ < _; omega); have HV3 := Lib.hid hv3; have HB3 := Lib.hid ((Blk.made w2 #[.int .i64 v.kd, .int .i64 v.nm, .string ⟨v.tx.toArray⟩, .slice B L d, .slice B' M d'] 25).keep hf); clear hf hm hv3)
    | (go_at_call 19; have hm := HF1.out; refine (rvalue_f s v l q v.kd v.nm v.tx L M ⟨rfl, rfl, rfl, HL.out, HM.out⟩ _ HS.out (HT.out.keep hm) HR.out).mono ?_; rintro e w2 ⟨B, d, B', d', rfl, hv2, hs1, hs2, hf⟩; have HF2 := Lib.hid (hm.trans hf); have HV2 := Lib.hid hv2; have HS1 := Lib.hid hs1; have HS2 := Lib.hid hs2; clear hf hm hv2 hs1 hs2)
    | (go_at_call 24; refine (rtokens_at s ts p 0 _ HS.out HP.out HK.out).mono ?_; rintro e w1 ⟨vt, rfl, htk, hf⟩; obtain ⟨A, cc, rfl, _, _⟩ := htk.tv (Nat.le_refl _); have HF1 := Lib.hid hf; clear hf htk))
  have HLS : Hid (LsC w2 (Be w1.heap.size w2.heap.size) B v.ls ∧ MsC w2 (Be w1.heap.size w2.heap.size) B' v.ms) := by
    obtain ⟨A1, c1, A1', c1', e1, h1, h2⟩ := HV2.out.open_
    obtain ⟨_, _, _, x3, x4⟩ := five e1
    simp only [Value.slice.injEq] at x3 x4
    obtain ⟨rfl, _, rfl⟩ := x3
    obtain ⟨rfl, _, rfl⟩ := x4
    exact ⟨h1, h2⟩
  have HG24 : Hid (Fr w2 w4) := HG3.out.trans HG4.out
  obtain ⟨_, _, _, hlb, hmb⟩ := HV2.out.facts
  rw [HL.out] at hlb
  rw [HM.out] at hmb
  have hlb' : (L : Int) ≤ 140737488355328 := by omega
  have hmb' : (M : Int) ≤ 140737488355328 := by omega
  have HWL : Hid (w.heap.size ≤ w1.heap.size) := HF1.out.size
  have HKP : Hid (Kp w w4 w4 w2.heap.size B B' L M) := by
    refine ⟨fun _ _ _ => rfl, rfl, HF4.out, fun b o e k hk => ?_, fun b o e k hk => ?_, fun hl b o e j => ?_, fun hl b o e j => ?_⟩
    · obtain ⟨b', o', _, _, _, _, e', hb, ⟨_, _, c2, _, _⟩, _⟩ := HLS.out.1 k (by rw [HL.out]; exact hk)
      rw [e] at e'
      simp only [Option.some.injEq, Addr.mk.injEq, and_true] at e'
      obtain ⟨rfl, rfl⟩ := e'
      exact ⟨_, (HG24.out.cell hb.2).trans c2⟩
    · obtain ⟨b', o', _, _, _, _, e', hb, _, c0, _⟩ := HLS.out.2 k (by rw [HM.out]; exact hk)
      rw [e] at e'
      simp only [Option.some.injEq, Addr.mk.injEq, and_true] at e'
      obtain ⟨rfl, rfl⟩ := e'
      exact ⟨_, (HG24.out.cell hb.2).trans c0⟩
    · obtain ⟨b', o', _, _, _, _, e', hb, _, _⟩ := HLS.out.1 0 (by rw [HL.out]; exact hl)
      rw [e] at e'
      simp only [Option.some.injEq, Addr.mk.injEq, and_true] at e'
      obtain ⟨rfl, rfl⟩ := e'
      exact (HG24.out.frozen hb.2).trans (HS1.out b o e j)
    · obtain ⟨b', o', _, _, _, _, e', hb, _, _⟩ := HLS.out.2 0 (by rw [HM.out]; exact hl)
      rw [e] at e'
      simp only [Option.some.injEq, Addr.mk.injEq, and_true] at e'
      obtain ⟨rfl, rfl⟩ := e'
      exact (HG24.out.frozen hb.2).trans (HS2.out b o e j)
  go_loopw [12] (fun j wr => ∃ i : Nat, i ≤ L ∧ j = .int .i64 i ∧ Hid (Kp w w4 wr w2.heap.size B B' L M)) (fun j _ => L - (intOf j).toNat)
  case atStart => exact ⟨0, by omega, rfl, HKP⟩
  case round =>
    obtain ⟨i, hi, rfl, hI⟩ := hrel
    have u3 : wr.cell? ⟨w2.heap.size, 3, none⟩ = some (.slice B L d) := (hI.out.blk HB4.out (Nat.le_refl _)).cell 3
    by_cases h : i < L
    · obtain ⟨b, o, _, _, _, _, rfl, hb, _, _⟩ := HLS.out.1 i (by rw [HL.out]; exact h)
      obtain ⟨x, hx⟩ := hI.out.h1 b o rfl i h
      have hz := hI.out.s1 (by omega) b o rfl (o + i * 5 + 2)
      have hb1 : w.heap.size ≤ b := by have := HWL.out; have := hb.1; omega
      have hb2 := hb.2
      have h' : (i : Int) < (L : Int) := by omega
      have hne : ¬ b = w2.heap.size := by omega
      clear hb
      go_wp2_with fail
      exact ⟨⟨i + 1, by omega, by go_num, Lib.hid (hI.out.set hb1 hb2 _ _)⟩, by simp [intOf]; omega⟩
    · obtain rfl : L = i := by omega
      go_wp2_with fail
      go_loopw [13] (fun j ws => ∃ k : Nat, k ≤ M ∧ j = .int .i64 k ∧ Hid (Kp w w4 ws w2.heap.size B B' L M)) (fun j _ => M - (intOf j).toNat)
      case atStart => exact ⟨0, by omega, rfl, hI⟩
      case round =>
        obtain ⟨k, hk, rfl, hJ⟩ := hrel
        have u4 : wr.cell? ⟨w2.heap.size, 4, none⟩ = some (.slice B' M d') := (hJ.out.blk HB4.out (Nat.le_refl _)).cell 4
        by_cases h2 : k < M
        · obtain ⟨b, o, _, _, _, _, rfl, hb, _, _⟩ := HLS.out.2 k (by rw [HM.out]; exact h2)
          obtain ⟨x, hx⟩ := hJ.out.h2 b o rfl k h2
          have hz := hJ.out.s2 (by omega) b o rfl (o + k * 6)
          have hb1 : w.heap.size ≤ b := by have := HWL.out; have := hb.1; omega
          have hb2 := hb.2
          have h' : (k : Int) < (M : Int) := by omega
          have hne : ¬ b = w2.heap.size := by omega
          rw [Nat.add_zero] at hx
          clear hb
          go_wp2_with fail
          exact ⟨⟨k + 1, by omega, by go_num, Lib.hid (hJ.out.set hb1 hb2 _ _)⟩, by simp [intOf]; omega⟩
        · obtain rfl : M = k := by omega
          have HV3s : Hid (InV wr (Be (w2.heap.size + 1) w3.heap.size) v (vA v B2 d2 B2' d2')) := by
            refine (HV3.out.more (S' := Be (w2.heap.size + 1) w3.heap.size) (fun b hb => ⟨by have := hb.1; simpa using this, hb.2⟩)).map (fun _ h => h) (fun b o hb => ?_)
            have e1 : wr.cell? ⟨b, o, none⟩ = w4.cell? ⟨b, o, none⟩ := by
              unfold World.cell?
              rw [hJ.out.keep b (by have := hb.1; omega) (Nat.lt_of_lt_of_le hb.2 HG4.out.size)]
            rw [e1]
            exact HG4.out.cell hb.2
          have HZS : Hid (w3.heap.size ≤ wr.heap.size) := by
            show _ ≤ _
            rw [hJ.out.size]; exact HG4.out.size
          go_wp2_with (first
            | (go_at_call 22; have hm := HF5.out.alloc (.cells #[.int .i64 v.kd, .int .i64 v.nm, .string ⟨v.tx.toArray⟩, .slice B5 L d5, .slice B5' M d5'] 25); refine ((same_is v v (vA v B5 d5 B5' d5') (vA v B2 d2 B2' d2')).call true (by simp) (HVA5.out).symm (HVA2.out).symm ((HV5.out.low.keep (Nat.le_refl _) ((Fr.refl _).alloc _)).lo (by simp)) (HV35.out.lo (by simp))).mono ?_; rintro e w6 ⟨rfl, hf⟩; have HF6 := Lib.hid (hm.trans hf); clear hf hm)
            | (go_at_call 19; have hm := hJ.out.fr; refine (rvalue_v s v l q v.kd v.nm v.tx L M ⟨rfl, rfl, rfl, HL.out, HM.out⟩ _ HS.out (HT.out.keep hm) HR.out).mono ?_; rintro e w5 ⟨B5, d5, B5', d5', rfl, hv5, hf⟩; have HF5 := Lib.hid (hm.trans hf); have HV5 := Lib.hid hv5; have hy := ((hJ.out.blk HY4.out (Nat.le_of_lt HLT3.out))).keep hf; have HVA5 := HVA B5 d5 B5' d5'; have HVA2 := HVA B2 d2 B2' d2'; have HV35 : Hid (InV (w5.alloc (.cells #[.int .i64 v.kd, .int .i64 v.nm, .string ⟨v.tx.toArray⟩, .slice B5 L d5, .slice B5' M d5'] 25)) (Lo w5.heap.size) v (vA v B2 d2 B2' d2')) := Lib.hid (((HV3s.out.more (S' := Lo wr.heap.size) (fun b hb => Nat.lt_of_lt_of_le hb.2 HZS.out)).keep (Nat.le_refl _) (hf.alloc _)).lo hf.size); have y0 : ∀ ob, (w5.alloc ob).cell? ⟨w3.heap.size, 0, none⟩ = some (.int .i64 v.kd) := fun ob => (hy.keep ((Fr.refl _).alloc ob)).cell 0; have y1 : ∀ ob, (w5.alloc ob).cell? ⟨w3.heap.size, 1, none⟩ = some (.int .i64 v.nm) := fun ob => (hy.keep ((Fr.refl _).alloc ob)).cell 1; have y2 : ∀ ob, (w5.alloc ob).cell? ⟨w3.heap.size, 2, none⟩ = some (.string ⟨v.tx.toArray⟩) := fun ob => (hy.keep ((Fr.refl _).alloc ob)).cell 2; have y3 : ∀ ob, (w5.alloc ob).cell? ⟨w3.heap.size, 3, none⟩ = some (.slice B2 L d2) := fun ob => (hy.keep ((Fr.refl _).alloc ob)).cell 3; have y4 : ∀ ob, (w5.alloc ob).cell? ⟨w3.heap.size, 4, none⟩ = some (.slice B2' M d2') := fun ob => (hy.keep ((Fr.refl _).alloc ob)).cell 4; clear hf hm hy hv5))
          go_ret
          exact ⟨rfl, HF6.out⟩
theorem keeps_is (s : ByteArray) (w : World) (hs : s.size ≤ 140737488351232) (hT : LowTabs w) (hP : PtTab w) :
    Calls Tryd.prog 10 #[.string s] w fun e w' => e = .returned (.bool true) ∧ Fr w w' := by
  rcases h : Scn.tokens s.data.toList with ⟨ts, p, x⟩
  rcases hr : Rd.rdS s.data.toList with _ | ⟨a, c⟩ | ⟨v, l, q⟩
  · exact absurd hr (Rd.rdS_out _)
  · exact keeps_bad s ts p x a c w hs hT hP h hr
  · obtain rfl := tok_zero h hr
    exact keeps_ok s ts p v l q w hs hT hP h hr
end Go.Proofs.YtgncdjcbphobmaaDoor
