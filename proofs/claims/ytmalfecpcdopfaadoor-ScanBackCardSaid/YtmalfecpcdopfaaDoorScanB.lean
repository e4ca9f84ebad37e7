/- The walk of the document's word. -/
import Derived.Test.YtmalfecpcdopfaaDoorScanA
namespace Go.Proofs.YtmalfecpcdopfaaDoor
set_option linter.unusedVariables false
set_option linter.unusedSimpArgs false
open Go.RowKit

def wdV (i : Nat) : ByteArray := ⟨(wdAt i).toArray⟩
theorem wdV_size (i : Nat) : (wdV i).size = (wdAt i).length := by simp [wdV, ByteArray.size]
theorem bl_ne {a b : ByteArray} (h : a ≠ b) : (a.toList == b.toList) = false := by
  rw [beq_eq_false_iff_ne]; intro h2; exact h (bytes_eq (by rw [← ByteArray.toList_eq, ← ByteArray.toList_eq]; exact h2))
theorem bl_eq {a b : ByteArray} (h : a = b) : (a.toList == b.toList) = true := by rw [h]; simp

set_option maxHeartbeats 4000000 in
theorem rword_is (s : ByteArray) (k : Nat) (w : World) (hs : s.size ≤ maxLen) (hk : k ≤ s.size) :
    Calls Tryd.prog 18 #[.string s, .int .i64 k] w fun e w' => e = .returned (.int .i64 (Scn.wordLen (s.data.toList.drop k) : Nat)) ∧ Fr w w' := by
  unfold maxLen at hs
  go_enter Tryd.func18, Tryd.ntmps18
  go_wp2_with fail
  go_loopw [6] (fun j wr => ∃ i : Nat, i ≤ 3 ∧ j = .int .i64 i ∧ Hid (∀ q, q < 3 → wr.cell? ⟨w.heap.size, q, none⟩ = some (.string (wdV q))) ∧ Hid (Fr w wr) ∧ Hid (∀ q, q < i → Scn.pre (wdAt q) (s.data.toList.drop k) = false)) (fun j _ => 3 - (intOf j).toNat)
  case atStart =>
    refine ⟨0, by omega, rfl, Lib.hid ?_, Lib.hid ((Fr.refl _).alloc _), Lib.hid (fun q hq => absurd hq (by omega))⟩
    intro q hq
    rw [World.cell?_alloc_at _ _ _ _ rfl]
    rcases (by omega : q = 0 ∨ q = 1 ∨ q = 2) with rfl | rfl | rfl <;> rfl
  case round =>
    obtain ⟨i, hi, rfl, hc, hfr, hno⟩ := hrel
    by_cases h3 : i < 3
    · have hcell := hc.out i h3
      have h3' : (i : Int) < 3 := by omega
      obtain ⟨n, hn⟩ : ∃ n, (wdV i).size = n := ⟨_, rfl⟩
      have hnl := wdV_size i
      rw [hn] at hnl
      have hnb := wd_len i
      rw [← hnl] at hnb
      have hp := pre_cases s k (wdAt i) hk
      rw [← hnl] at hp
      have HN := Lib.hid hnl
      clear hnl
      obtain ⟨W, hW⟩ : ∃ W, wdV i = W := ⟨_, rfl⟩
      rw [hW] at hcell hn
      have hp' : ∀ a : ByteArray, a = ⟨(wdAt i).toArray⟩ ↔ a = W := fun a => by rw [← hW]; rfl
      simp only [ne_eq, hp'] at hp
      clear hp' hW
      have hnext : Scn.pre (wdAt i) (s.data.toList.drop k) = false → Hid (∀ q, q < i + 1 → Scn.pre (wdAt q) (s.data.toList.drop k) = false) := by
        intro h2 q hq
        by_cases hqi : q < i
        · exact hno.out q hqi
        · obtain rfl : q = i := by omega
          exact h2
      have hfin : Scn.pre (wdAt i) (s.data.toList.drop k) = true → Hid (Scn.wordLen (s.data.toList.drop k) = n) := by
        intro h2
        show _ = _
        rw [word_at h3 hno.out h2, HN.out]
      rcases hp with ⟨h1, h2⟩ | ⟨h1, h2, h4⟩ | ⟨h1, h2, h4, h5⟩ | ⟨h2, h1, c, h4, h5⟩
      · have q1 : decide ((n : Int) ≤ (s.size : Int) - (k : Int)) = false := decide_eq_false (by omega)
        have hno' := hnext h2
        clear h1 h2 hnext hfin
        go_wp2_with fail
        go_quiet (fail)
        go_wp2_with fail
        exact ⟨⟨i + 1, by omega, by go_num, Lib.hid (fun q hq => hc.out q hq), Lib.hid (hfr.out.drewN _), hno'⟩, by simp [intOf]; omega⟩
      · have q1 : decide ((n : Int) ≤ (s.size : Int) - (k : Int)) = true := decide_eq_true (by omega)
        have q2 := bl_ne h2
        have hno' := hnext h4
        clear h2 h4 hnext hfin
        go_wp2_with fail
        go_quiet (fail)
        go_wp2_with fail
        exact ⟨⟨i + 1, by omega, by go_num, Lib.hid (fun q hq => hc.out q hq), Lib.hid (hfr.out.drewN _), hno'⟩, by simp [intOf]; omega⟩
      · have q1 : decide ((n : Int) ≤ (s.size : Int) - (k : Int)) = true := decide_eq_true (by omega)
        have q2 := bl_eq h2
        have q3 : ((s.size : Int) - (k : Int) == (n : Int)) = true := by rw [beq_iff_eq]; omega
        have hr := hfin h5
        clear h2 h4 hnext hfin
        go_wp2_with fail
        go_quiet (fail)
        go_wp2_with fail
        go_ret
        exact ⟨by rw [hr.out]; rfl, hfr.out.drewN _⟩
      · have q1 : decide ((n : Int) ≤ (s.size : Int) - (k : Int)) = true := decide_eq_true (by omega)
        have q2 := bl_eq h2
        have q3 : ((s.size : Int) - (k : Int) == (n : Int)) = false := by rw [beq_eq_false_iff_ne]; omega
        have q4 : decide (s.size ≤ k + n) = false := decide_eq_false (by omega)
        have w1 : IntKind.i64.wrap ((s.size : Int) - (k : Int)) = (s.size : Int) - (k : Int) := by rw [IntKind.wrap_i64]; omega
        have w2 : IntKind.i64.wrap ((k : Int) + (n : Int)) = (k : Int) + (n : Int) := by rw [IntKind.wrap_i64]; omega
        have b1 : (k : Int) + (n : Int) ≤ (s.size : Int) := by omega
        have b2 : (k : Int) ≤ (k : Int) + (n : Int) := by omega
        have b3 : (0 : Int) ≤ (k : Int) + (n : Int) := by omega
        have b4 : (k : Int) + (n : Int) < (s.size : Int) := by omega
        obtain ⟨b, hb⟩ : ∃ b, Scn.part c = b := ⟨_, rfl⟩
        rw [hb] at h5
        have HB := Lib.hid hb
        clear h2 hb
        rcases b with _ | _
        · have hr := hfin h5
          clear hnext hfin
          go_wp2_with fail
          go_quiet ((go_at_call 30; exact Calls.quiet_of_same ((rpart_is c false _ HB.out).mono fun _ _ h => ⟨h.1, h.2.symm⟩)))
          go_wp2_with fail
          go_ret
          exact ⟨by rw [hr.out]; rfl, hfr.out.drewN _⟩
        · have hno' := hnext h5
          clear hnext hfin
          go_wp2_with fail
          go_quiet ((go_at_call 30; exact Calls.quiet_of_same ((rpart_is c true _ HB.out).mono fun _ _ h => ⟨h.1, h.2.symm⟩)))
          go_wp2_with fail
          exact ⟨⟨i + 1, by omega, by go_num, Lib.hid (fun q hq => hc.out q hq), Lib.hid (hfr.out.drewN _), hno'⟩, by simp [intOf]; omega⟩
    · obtain rfl : i = 3 := by omega
      have hr := Lib.hid (word_none hno.out)
      go_wp2_with fail
      go_ret
      exact ⟨by rw [hr.out]; rfl, hfr.out⟩
end Go.Proofs.YtmalfecpcdopfaaDoor
