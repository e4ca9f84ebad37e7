/- The walk of the document's Escape. -/
import Derived.Test.YtmalfecpcdopfaaDoorCharsR
namespace Go.Proofs.YtmalfecpcdopfaaDoor
set_option linter.unusedVariables false
set_option linter.unusedSimpArgs false
open Go.RowKit

def ltAt (j : Nat) : UInt8 := ([34, 92, 47, 98, 102, 110, 114, 116] : List UInt8).getD j 0
def ptAt (j : Nat) : Nat := ([34, 92, 47, 8, 12, 10, 13, 9] : List Nat).getD j 0
theorem Fr.drewN {a w : World} (h : Fr a w) (n : Nat) : Fr a (w.drewN n) := by
  have h' : Below a.heap.size a w := h
  exact ⟨h'.os, h'.tape, h'.output, h'.size, h'.block⟩
/-- The document's table of points. -/
def PtTab (w : World) : Prop := ∀ j, j < 8 → w.cell? ⟨0, j, none⟩ = some (.int .i64 (ptAt j))
theorem PtTab.keep {w w' : World} (h : PtTab w) (hf : Fr w w') : PtTab w' := by
  intro j hj
  have h0 := h j hj
  rw [hf.cell (World.block_lt_of_cell? w _ h0)]
  exact h0
theorem lt_plain : ∀ j : Fin 8, Chr.plain (ltAt j) = some (UInt8.ofNat (ptAt j)) ∧ (UInt8.ofNat (ptAt j)).toNat = ptAt j := by decide +kernel
theorem lt_idx : ∀ j : Fin 8, (⟨#[34, 92, 47, 98, 102, 110, 114, 116]⟩ : ByteArray)[j.val]'(by show _ < 8; exact j.isLt) = ltAt j.val := by decide +kernel
theorem plain_none {c : UInt8} (h : ∀ m, m < 8 → ltAt m ≠ c) : Chr.plain c = none := by
  unfold Chr.plain
  rw [if_neg (fun e => h 0 (by omega) e.symm), if_neg (fun e => h 1 (by omega) e.symm), if_neg (fun e => h 2 (by omega) e.symm), if_neg (fun e => h 3 (by omega) e.symm), if_neg (fun e => h 4 (by omega) e.symm), if_neg (fun e => h 5 (by omega) e.symm), if_neg (fun e => h 6 (by omega) e.symm), if_neg (fun e => h 7 (by omega) e.symm)]
theorem runit_none (s : ByteArray) (k : Nat) (w : World) (hs : s.size ≤ maxLen) (hk : k ≤ 9223372036854775000) (h : Chr.unitv (s.data.toList.drop k) = none) :
    Calls Tryd.prog 40 #[.string s, .int .i64 k] w fun e w' => e = .returned (.int .i64 (-1)) ∧ w = w' := runit_is s k none w hs hk h
theorem runit_some (s : ByteArray) (k a : Nat) (w : World) (hs : s.size ≤ maxLen) (hk : k ≤ 9223372036854775000) (h : Chr.unitv (s.data.toList.drop k) = some a) :
    Calls Tryd.prog 40 #[.string s, .int .i64 k] w fun e w' => e = .returned (.int .i64 a) ∧ w = w' := runit_is s k (some a) w hs hk h
theorem runit_none6 (s : ByteArray) (k : Nat) (w : World) (hs : s.size ≤ maxLen) (hk : k + 6 ≤ 9223372036854775000) (h : Chr.unitv (s.data.toList.drop (k + 6)) = none) :
    Calls Tryd.prog 40 #[.string s, .int .i64 ((k : Int) + 6)] w fun e w' => e = .returned (.int .i64 (-1)) ∧ w = w' := by
  rw [show (k : Int) + 6 = ((k + 6 : Nat) : Int) by omega]; exact runit_none s (k + 6) w hs hk h
theorem runit_some6 (s : ByteArray) (k a : Nat) (w : World) (hs : s.size ≤ maxLen) (hk : k + 6 ≤ 9223372036854775000) (h : Chr.unitv (s.data.toList.drop (k + 6)) = some a) :
    Calls Tryd.prog 40 #[.string s, .int .i64 ((k : Int) + 6)] w fun e w' => e = .returned (.int .i64 a) ∧ w = w' := by
  rw [show (k : Int) + 6 = ((k + 6 : Nat) : Int) by omega]; exact runit_some s (k + 6) a w hs hk h

/-- What Escape hands back. -/
def rescR (o : Option (Nat × Nat)) : Value := .tuple #[.int .i64 (o.elim 0 (fun x => x.1) : Nat), .int .i64 (o.elim 0 (fun x => x.2) : Nat)]
theorem escd_shortR {s : ByteArray} {k : Nat} (h : s.size - k < 2) : Chr.escd (s.data.toList.drop k) = none ∧ Chr.unitv (s.data.toList.drop k) = none := by
  have hu : Chr.unitv (s.data.toList.drop k) = none := Chr.unitv_short (by simp; omega)
  refine ⟨?_, hu⟩
  unfold Chr.escd
  have e : (s.data.toList.drop k).getD 1 0 = 0 := by
    rw [List.getD_eq_getElem?_getD, List.getElem?_eq_none (by simp; omega)]; rfl
  rw [e, show Chr.plain 0 = none from rfl]
  simp only
  unfold Chr.escu
  rw [hu]
theorem escd_atR {s : ByteArray} {k : Nat} {c : UInt8} (h : k + 1 < s.size) (hc : s[k + 1] = c) : Chr.escd (s.data.toList.drop k) = match Chr.plain c with | some p => some (p.toNat, 2) | none => Chr.escu (s.data.toList.drop k) := by
  unfold Chr.escd
  have e : (s.data.toList.drop k).getD 1 0 = c := by
    rw [List.getD_eq_getElem?_getD, List.getElem?_drop, ← List.getD_eq_getElem?_getD, getD_atR h, hc]
  rw [e]
  cases Chr.plain c <;> rfl

set_option maxHeartbeats 1000000 in
set_option maxRecDepth 100000 in
theorem resc_short (s : ByteArray) (k : Nat) (w : World) (hs : s.size ≤ 9223372036854770000) (hk : k < s.size) (h2 : s.size - k < 2) :
    Calls Tryd.prog 26 #[.string s, .int .i64 k] w fun e w' => e = .returned (rescR none) ∧ w = w' := by
  have hsm : Hid (s.size ≤ maxLen) := by show _ ≤ _; unfold maxLen; omega
  have hu := Lib.hid (escd_shortR h2).2
  have d1 : decide ((2 : Int) ≤ (s.size : Int) - (k : Int)) = false := decide_eq_false (by omega)
  go_enter Tryd.func26, Tryd.ntmps26
  go_wp2_with (go_at_call 40; refine (runit_none s k _ hsm.out (by omega) hu.out).mono ?_; rintro e w' ⟨rfl, rfl⟩)
  go_ret2
  exact ⟨rfl, rfl⟩

set_option maxHeartbeats 4000000 in
set_option maxRecDepth 100000 in
theorem resc_is (s : ByteArray) (k : Nat) (o : Option (Nat × Nat)) (w : World) (hs : s.size ≤ 9223372036854770000) (hk : k < s.size) (hT : PtTab w) (h : Chr.escd (s.data.toList.drop k) = o) :
    Calls Tryd.prog 26 #[.string s, .int .i64 k] w fun e w' => e = .returned (rescR o) ∧ Fr w w' := by
  by_cases h2 : s.size - k < 2
  · rw [(escd_shortR h2).1] at h
    subst h
    refine (resc_short s k w hs hk h2).mono ?_
    rintro e w' ⟨rfl, rfl⟩
    exact ⟨rfl, Fr.refl _⟩
  have hsm : Hid (s.size ≤ maxLen) := by show _ ≤ _; unfold maxLen; omega
  have HT := Lib.hid hT
  clear hT
  have d1 : decide ((2 : Int) ≤ (s.size : Int) - (k : Int)) = true := decide_eq_true (by omega)
  have hk1 : k + 1 < s.size := by omega
  obtain ⟨c, hc⟩ : ∃ c, s[k + 1] = c := ⟨_, rfl⟩
  rw [escd_atR hk1 hc] at h
  have H := Lib.hid h
  clear h
  go_enter Tryd.func26, Tryd.ntmps26
  go_wp2_with fail
  go_loopw [6] (fun i wr => ∃ j : Nat, j ≤ 8 ∧ i = .int .i64 j ∧ Hid (∀ m, m < j → ltAt m ≠ c) ∧ Hid (Fr w wr)) (fun i _ => 8 - (intOf i).toNat)
  case atStart => exact ⟨0, by omega, rfl, by show ∀ m, m < 0 → _; intro m hm; omega, Lib.hid (Fr.refl _)⟩
  case round =>
    obtain ⟨j, hj, rfl, hall, hfr⟩ := hrel
    by_cases hlt : j < 8
    · have hk1z : (k : Int) + 1 < (s.size : Int) := by omega
      have hwr : IntKind.i64.wrap ((k : Int) + 1) = (k : Int) + 1 := by rw [IntKind.wrap_i64]; omega
      obtain ⟨x, hx⟩ : ∃ x, (⟨#[34, 92, 47, 98, 102, 110, 114, 116]⟩ : ByteArray)[j]'(by show j < 8; exact hlt) = x := ⟨_, rfl⟩
      have hxl : ltAt j = x := (lt_idx ⟨j, hlt⟩).symm.trans hx
      have hcell := HT.out.keep hfr.out j hlt
      have hjz : (j : Int) < 8 := by omega
      by_cases hcx : c = x
      · have hpl := lt_plain ⟨j, hlt⟩
        simp only at hpl
        rw [hxl, ← hcx] at hpl
        have H' := H.out
        rw [hpl.1] at H'
        simp only at H'
        rw [hpl.2] at H'
        subst H'
        subst hcx
        clear hpl hall hxl H
        go_wp2_with fail
        go_quiet (fail)
        go_wp2_with fail
        go_ret2
        exact ⟨rfl, hfr.out.drewN _⟩
      · have hne : ((c.toNat : Int) == (x.toNat : Int)) = false := by
          rw [beq_eq_false_iff_ne]; intro e; exact hcx (UInt8.toNat_inj.1 (by omega))
        have hnx : Hid (∀ m, m < j + 1 → ltAt m ≠ c) := by
          show ∀ m, m < j + 1 → ltAt m ≠ c
          intro m hm
          by_cases e : m = j
          · subst e; rw [hxl]; exact fun e => hcx e.symm
          · exact hall.out m (by omega)
        clear hall hxl hcx
        go_wp2_with fail
        go_quiet (fail)
        go_wp2_with fail
        exact ⟨⟨j + 1, by omega, by go_num, hnx, Lib.hid (hfr.out.drewN _)⟩, by simp [intOf]; omega⟩
    · obtain rfl : j = 8 := by omega
      have hpl := plain_none hall.out
      have h := H.out
      rw [hpl] at h
      simp only at h
      clear hall hpl H
      unfold Chr.escu at h
      rcases ha : Chr.unitv (s.data.toList.drop k) with _ | a
      · rw [ha] at h
        simp only at h
        subst h
        have HA := Lib.hid ha
        clear ha
        go_wp2_with (go_at_call 40; refine (runit_none s k _ hsm.out (by omega) HA.out).mono ?_; rintro e w' ⟨rfl, rfl⟩)
        go_ret2
        exact ⟨rfl, hfr.out⟩
      · rw [ha] at h
        simp only at h
        have ha6 := Chr.unitv_lt ha
        have HA := Lib.hid ha
        clear ha
        by_cases hpt : a < 55296 ∨ 57343 < a
        · rw [if_pos hpt] at h
          subst h
          have HPt := Lib.hid (Utf.isPt_iff.2 (⟨by omega, hpt⟩ : a ≤ 1114111 ∧ (a < 55296 ∨ 57343 < a)))
          clear hpt
          go_wp2_with (first
            | (go_at_call 40; refine (runit_some s k a _ hsm.out (by omega) HA.out).mono ?_; rintro e w' ⟨rfl, rfl⟩; have MK := Lib.hid trivial)
            | (go_at_call 41; refine (ris_is a true _ (by omega) HPt.out).mono ?_; rintro e w' ⟨rfl, rfl⟩))
          go_ret2
          exact ⟨rfl, hfr.out⟩
        · rw [if_neg hpt] at h
          have HPt : Hid (Utf.isPt a = false) := by
            show _ = _
            rw [← Bool.not_eq_true, Utf.isPt_iff]; omega
          rw [List.drop_drop] at h
          rcases hb : Chr.unitv (s.data.toList.drop (k + 6)) with _ | b
          · rw [hb] at h
            simp only at h
            subst h
            have HB := Lib.hid hb
            clear hb hpt
            by_cases g1 : a ≤ 56319
            · have f1 : decide ((a : Int) ≤ 56319) = true := decide_eq_true (by omega)
              go_wp2_with (first
                | (go_at_call 40; have HM := MK.out; refine (runit_none6 s k _ hsm.out (by omega) HB.out).mono ?_; rintro e w' ⟨rfl, rfl⟩)
                | (go_at_call 40; refine (runit_some s k a _ hsm.out (by omega) HA.out).mono ?_; rintro e w' ⟨rfl, rfl⟩; have MK := Lib.hid trivial)
                | (go_at_call 41; refine (ris_is a false _ (by omega) HPt.out).mono ?_; rintro e w' ⟨rfl, rfl⟩))
              go_ret2
              exact ⟨rfl, hfr.out⟩
            · have f1 : decide ((a : Int) ≤ 56319) = false := decide_eq_false (by omega)
              go_wp2_with (first
                | (go_at_call 40; have HM := MK.out; refine (runit_none6 s k _ hsm.out (by omega) HB.out).mono ?_; rintro e w' ⟨rfl, rfl⟩)
                | (go_at_call 40; refine (runit_some s k a _ hsm.out (by omega) HA.out).mono ?_; rintro e w' ⟨rfl, rfl⟩; have MK := Lib.hid trivial)
                | (go_at_call 41; refine (ris_is a false _ (by omega) HPt.out).mono ?_; rintro e w' ⟨rfl, rfl⟩))
              go_ret2
              exact ⟨rfl, hfr.out⟩
          · rw [hb] at h
            simp only at h
            have hb6 := Chr.unitv_lt hb
            have HB := Lib.hid hb
            clear hb
            by_cases hpair : a ≤ 56319 ∧ 56320 ≤ b ∧ b ≤ 57343
            · rw [if_pos hpair] at h
              obtain ⟨p1, p2, p3⟩ := hpair
              obtain ⟨q, hq⟩ : ∃ q, 65536 + (a - 55296) * 1024 + (b - 56320) = q := ⟨_, rfl⟩
              have hqz : (65536 : Int) + ((a : Int) - 55296) * 1024 + ((b : Int) - 56320) = (q : Int) := by omega
              rw [hq] at h
              subst h
              clear hq
              have f1 : decide ((a : Int) ≤ 56319) = true := decide_eq_true (by omega)
              have f2 : decide ((56320 : Int) ≤ (b : Int)) = true := decide_eq_true (by omega)
              have f3 : decide ((b : Int) ≤ 57343) = true := decide_eq_true (by omega)
              go_wp2_with (first
                | (go_at_call 40; have HM := MK.out; refine (runit_some6 s k b _ hsm.out (by omega) HB.out).mono ?_; rintro e w' ⟨rfl, rfl⟩)
                | (go_at_call 40; refine (runit_some s k a _ hsm.out (by omega) HA.out).mono ?_; rintro e w' ⟨rfl, rfl⟩; have MK := Lib.hid trivial)
                | (go_at_call 41; refine (ris_is a false _ (by omega) HPt.out).mono ?_; rintro e w' ⟨rfl, rfl⟩))
              go_ret2
              exact ⟨rfl, hfr.out⟩
            · rw [if_neg hpair] at h
              subst h
              have hcs : 56319 < a ∨ (a ≤ 56319 ∧ b < 56320) ∨ (a ≤ 56319 ∧ 56320 ≤ b ∧ 57343 < b) := by omega
              clear hpair
              rcases hcs with g1 | ⟨g1, g2⟩ | ⟨g1, g2, g3⟩
              · have f1 : decide ((a : Int) ≤ 56319) = false := decide_eq_false (by omega)
                go_wp2_with (first
                  | (go_at_call 40; have HM := MK.out; refine (runit_some6 s k b _ hsm.out (by omega) HB.out).mono ?_; rintro e w' ⟨rfl, rfl⟩)
                  | (go_at_call 40; refine (runit_some s k a _ hsm.out (by omega) HA.out).mono ?_; rintro e w' ⟨rfl, rfl⟩; have MK := Lib.hid trivial)
                  | (go_at_call 41; refine (ris_is a false _ (by omega) HPt.out).mono ?_; rintro e w' ⟨rfl, rfl⟩))
                go_ret2
                exact ⟨rfl, hfr.out⟩
              · have f1 : decide ((a : Int) ≤ 56319) = true := decide_eq_true (by omega)
                have f2 : decide ((56320 : Int) ≤ (b : Int)) = false := decide_eq_false (by omega)
                go_wp2_with (first
                  | (go_at_call 40; have HM := MK.out; refine (runit_some6 s k b _ hsm.out (by omega) HB.out).mono ?_; rintro e w' ⟨rfl, rfl⟩)
                  | (go_at_call 40; refine (runit_some s k a _ hsm.out (by omega) HA.out).mono ?_; rintro e w' ⟨rfl, rfl⟩; have MK := Lib.hid trivial)
                  | (go_at_call 41; refine (ris_is a false _ (by omega) HPt.out).mono ?_; rintro e w' ⟨rfl, rfl⟩))
                go_ret2
                exact ⟨rfl, hfr.out⟩
              · have f1 : decide ((a : Int) ≤ 56319) = true := decide_eq_true (by omega)
                have f2 : decide ((56320 : Int) ≤ (b : Int)) = true := decide_eq_true (by omega)
                have f3 : decide ((b : Int) ≤ 57343) = false := decide_eq_false (by omega)
                go_wp2_with (first
                  | (go_at_call 40; have HM := MK.out; refine (runit_some6 s k b _ hsm.out (by omega) HB.out).mono ?_; rintro e w' ⟨rfl, rfl⟩)
                  | (go_at_call 40; refine (runit_some s k a _ hsm.out (by omega) HA.out).mono ?_; rintro e w' ⟨rfl, rfl⟩; have MK := Lib.hid trivial)
                  | (go_at_call 41; refine (ris_is a false _ (by omega) HPt.out).mono ?_; rintro e w' ⟨rfl, rfl⟩))
                go_ret2
                exact ⟨rfl, hfr.out⟩

end Go.Proofs.YtmalfecpcdopfaaDoor
