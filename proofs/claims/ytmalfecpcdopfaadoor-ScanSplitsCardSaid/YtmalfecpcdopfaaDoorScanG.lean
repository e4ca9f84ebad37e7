/- The walk of the scanner's word. -/
import Derived.Test.YtmalfecpcdopfaaDoorScanF
namespace Go.Proofs.YtmalfecpcdopfaaDoor
set_option linter.unusedVariables false
set_option linter.unusedSimpArgs false
open Go.RowKit

set_option maxHeartbeats 4000000 in
set_option maxRecDepth 100000 in
theorem sword_is (B k : Nat) (s : ByteArray) (v : Value) (ts : List Scn.Tok) (w : World) (h : Sc B s k v ts w) (hs : s.size ≤ 65536) (hk : k < s.size) (h63 : (ts.length + 1) * 40 ≤ 140737488355328) :
    Calls Tryd.prog 25 #[.pointer (some ⟨B, 0, none⟩)] w fun e w' => ∃ b, e = .returned (.bool b) ∧ Below B w w' ∧
      (b = true → Scn.wordLen (s.data.toList.drop k) ≠ 0 ∧ ∃ v', Sc B s (k + Scn.wordLen (s.data.toList.drop k)) v' (ts ++ [⟨2, 0, (s.data.toList.drop k).take (Scn.wordLen (s.data.toList.drop k)), k⟩]) w') ∧
      (b = false → Scn.wordLen (s.data.toList.drop k) = 0 ∧ Sc B s k v ts w') := by
  have hlt := h.lt
  have HS := Lib.hid h
  clear h
  go_enter Tryd.func25, Tryd.ntmps25
  go_wp2_with fail
  go_loopw [8] (fun j wr => ∃ i : Nat, i ≤ 3 ∧ j = .int .i64 i ∧ Hid (∀ q, q < 3 → wr.cell? ⟨w.heap.size, q, none⟩ = some (.string (wdV q))) ∧ Hid (Fr w wr) ∧ Hid (∀ q, q < i → Scn.pre (wdAt q) (s.data.toList.drop k) = false)) (fun j _ => 3 - (intOf j).toNat)
  case atStart =>
    refine ⟨0, by omega, rfl, Lib.hid ?_, Lib.hid ((Fr.refl _).alloc _), Lib.hid (fun q hq => absurd hq (by omega))⟩
    intro q hq
    rw [World.cell?_alloc_at _ _ _ _ rfl]
    rcases (by omega : q = 0 ∨ q = 1 ∨ q = 2) with rfl | rfl | rfl <;> rfl
  case round =>
    obtain ⟨i, hi, rfl, hc, hfr, hno⟩ := hrel
    by_cases h3 : i < 3
    · have hcell := hc.out i h3
      have h3' : (i : Int) < 3 := by omega
      have h30 : (0 : Int) ≤ (i : Int) := by omega
      obtain ⟨n, hn⟩ : ∃ n, (wdV i).size = n := ⟨_, rfl⟩
      have hnl := wdV_size i
      rw [hn] at hnl
      have hnb := wd_len i
      rw [← hnl] at hnb
      have hp := pre_hp s k n (wdAt i) hnl (by omega)
      have HSr := Lib.hid (HS.out.keep hfr.out)
      have c0 := HSr.out.c0
      have c1 := HSr.out.c1
      have hpx : (wdV i).data.toList = wdAt i := rfl
      have hxl : (s.extract k s.size).data.toList = s.data.toList.drop k := by rw [extract_list, List.take_of_length_le (by simp)]
      have hxs : Hid ((s.extract k s.size).size ≤ maxLen) := by show _ ≤ _; unfold maxLen; simp; omega
      obtain ⟨W, hW⟩ : ∃ W, wdV i = W := ⟨_, rfl⟩
      rw [hW] at hcell hn hpx
      have hnext : Scn.pre (wdAt i) (s.data.toList.drop k) = false → Hid (∀ q, q < i + 1 → Scn.pre (wdAt q) (s.data.toList.drop k) = false) := by
        intro h2 q hq
        by_cases hqi : q < i
        · exact hno.out q hqi
        · obtain rfl : q = i := by omega
          exact h2
      have hfin : Scn.pre (wdAt i) (s.data.toList.drop k) = true → Hid (Scn.wordLen (s.data.toList.drop k) = n) := by
        intro h2
        show _ = _
        rw [word_at h3 hno.out h2, hnl]
      have hyes : (s.data.toList.drop k).take n = wdAt i → Hid (decide ((s.extract k s.size).data.toList.take W.size = W.data.toList) = true) := by
        intro h2; show _ = _; refine decide_eq_true ?_; rw [hxl, hn, hpx, h2]
      have hnot : (s.data.toList.drop k).take n ≠ wdAt i → Hid (decide ((s.extract k s.size).data.toList.take W.size = W.data.toList) = false) := by
        intro h2; show _ = _; refine decide_eq_false ?_; rw [hxl, hn, hpx]; exact h2
      have hWd : (s.data.toList.drop k).take n = wdAt i → W = ⟨((s.data.toList.drop k).take n).toArray⟩ := by
        intro h2; apply bytes_eq; rw [hpx, h2]
      clear hxl hpx hW hnl
      have w2 : IntKind.i64.wrap ((k : Int) + (n : Int)) = (k : Int) + (n : Int) := by rw [IntKind.wrap_i64]; omega
      have b1 : (k : Int) ≤ (s.size : Int) := by omega
      have b2 : (0 : Int) ≤ (k : Int) := by omega
      rcases hp with ⟨h1, h2⟩ | ⟨h1, h2, h4, h5⟩ | ⟨h1, h2, c, h4, h5⟩
      · have HP := hnot h1
        have hno' := hnext h2
        clear h1 h2 hnext hfin hyes hnot hWd
        go_wp2_with fail
        go_quiet ((go_at_call 38; exact Calls.quiet_of_same ((prefix_is (s.extract k s.size) W false _ hxs.out HP.out).mono fun _ _ h => ⟨h.1, h.2.symm⟩)))
        go_wp2_with fail
        exact ⟨⟨i + 1, by omega, by go_num, Lib.hid (fun q hq => hc.out q hq), Lib.hid (hfr.out.drewN _), hno'⟩, by simp [intOf]; omega⟩
      · have HP := hyes h1
        have hr := hfin h5
        have hwd := Lib.hid (hWd h1)
        have q3 : ((k : Int) + (n : Int) == (s.size : Int)) = true := by rw [beq_iff_eq]; omega
        clear h1 h2 h4 h5 hnext hfin hyes hnot hWd
        go_wp2_with fail
        go_quiet ((go_at_call 38; exact Calls.quiet_of_same ((prefix_is (s.extract k s.size) W true _ hxs.out HP.out).mono fun _ _ h => ⟨h.1, h.2.symm⟩)))
        go_wp2_with (go_at_call 23; refine (lay_at B k (k + n) 2 _ _ _ 0 s _ ((s.data.toList.drop k).take n) v ts _ (HSr.out.drewN _) h63 (by omega) (by rfl) (by rfl) hwd.out).mono ?_; rintro e w3 ⟨rfl, ⟨v', hsc'⟩, hb3⟩; have HSC := Lib.hid hsc'; have HB3 := Lib.hid hb3; clear hsc' hb3)
        go_ret
        refine ⟨true, rfl, Below.trans (Below.mono (hfr.out.drewN _) (Nat.le_of_lt hlt)) HB3.out, fun _ => ⟨by rw [hr.out]; omega, v', ?_⟩, fun h => by cases h⟩
        rw [hr.out]; exact HSC.out
      · have HP := hyes h1
        have hwd := Lib.hid (hWd h1)
        have q3 : ((k : Int) + (n : Int) == (s.size : Int)) = false := by rw [beq_eq_false_iff_ne]; omega
        have q4 : decide (s.size ≤ k + n) = false := decide_eq_false (by omega)
        have b3 : (0 : Int) ≤ (k : Int) + (n : Int) := by omega
        have b4 : (k : Int) + (n : Int) < (s.size : Int) := by omega
        obtain ⟨b, hb⟩ : ∃ b, Scn.part c = b := ⟨_, rfl⟩
        rw [hb] at h5
        have HBP := Lib.hid hb
        clear h1 hb hyes hnot hWd
        rcases b with _ | _
        · have hr := hfin h5
          clear hnext hfin h5
          go_wp2_with fail
          go_quiet ((first
            | (go_at_call 38; exact Calls.quiet_of_same ((prefix_is (s.extract k s.size) W true _ hxs.out HP.out).mono fun _ _ h => ⟨h.1, h.2.symm⟩))
            | (go_at_call 39; exact Calls.quiet_of_same ((part_is c false _ HBP.out).mono fun _ _ h => ⟨h.1, h.2.symm⟩))))
          go_wp2_with (go_at_call 23; refine (lay_at B k (k + n) 2 _ _ _ 0 s _ ((s.data.toList.drop k).take n) v ts _ (HSr.out.drewN _) h63 (by omega) (by rfl) (by rfl) hwd.out).mono ?_; rintro e w3 ⟨rfl, ⟨v', hsc'⟩, hb3⟩; have HSC := Lib.hid hsc'; have HB3 := Lib.hid hb3; clear hsc' hb3)
          go_ret
          refine ⟨true, rfl, Below.trans (Below.mono (hfr.out.drewN _) (Nat.le_of_lt hlt)) HB3.out, fun _ => ⟨by rw [hr.out]; omega, v', ?_⟩, fun h => by cases h⟩
          rw [hr.out]; exact HSC.out
        · have hno' := hnext h5
          clear hnext hfin h5
          go_wp2_with fail
          go_quiet ((first
            | (go_at_call 38; exact Calls.quiet_of_same ((prefix_is (s.extract k s.size) W true _ hxs.out HP.out).mono fun _ _ h => ⟨h.1, h.2.symm⟩))
            | (go_at_call 39; exact Calls.quiet_of_same ((part_is c true _ HBP.out).mono fun _ _ h => ⟨h.1, h.2.symm⟩))))
          go_wp2_with fail
          exact ⟨⟨i + 1, by omega, by go_num, Lib.hid (fun q hq => hc.out q hq), Lib.hid (hfr.out.drewN _), hno'⟩, by simp [intOf]; omega⟩
    · obtain rfl : i = 3 := by omega
      have hr := Lib.hid (word_none hno.out)
      go_wp2_with fail
      go_ret
      exact ⟨false, rfl, Below.mono hfr.out (Nat.le_of_lt hlt), (fun h => nomatch h), fun _ => ⟨hr.out, HS.out.keep hfr.out⟩⟩
end Go.Proofs.YtmalfecpcdopfaaDoor
