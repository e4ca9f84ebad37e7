/- The walk of the scanner's one: signs, words; whatever begins there. -/
import Derived.Test.YtmalfecpcdopfaaDoorScanH
import Derived.Test.YtmalfecpcdopfaaDoorSt
namespace Go.Proofs.YtmalfecpcdopfaaDoor
set_option linter.unusedVariables false
set_option linter.unusedSimpArgs false
open Go.RowKit

theorem idx_at (c : UInt8) (z : Int) (w : World) (h : Lib.indexByte [123, 125, 91, 93, 58, 44] c = z) :
    Calls Tryd.prog 14 #[.string ⟨#[123, 125, 91, 93, 58, 44]⟩, .int .u8 c.toNat] w fun e w' => e = .returned (.int .i64 z) ∧ w = w' := by
  subst h
  refine (Tryd.strings_IndexByte ⟨#[123, 125, 91, 93, 58, 44]⟩ (c.toNat : Int) w).mono ?_
  rintro e w' ⟨rfl, rfl⟩
  refine ⟨?_, rfl⟩
  have h2 : ((c.toNat : Int).toNat.toUInt8) = c := by simp
  rw [h2]

set_option maxHeartbeats 4000000 in
set_option maxRecDepth 100000 in
theorem one_rest (B k : Nat) (s : ByteArray) (v : Value) (ts : List Scn.Tok) (w : World) (h : Sc B s k v ts w) (hs : s.size ≤ 65536) (hk : k < s.size) (h63 : (ts.length + 1) * 40 ≤ 140737488355328) (q34 : s[k] ≠ 34) (qn : ¬ (s[k] = 45 ∨ (48 ≤ s[k].toNat ∧ s[k].toNat ≤ 57))) :
    Calls Tryd.prog 15 #[.pointer (some ⟨B, 0, none⟩)] w (OneP B s k ts w) := by
  have hlt := h.lt
  have c0 := h.c0
  have c1 := h.c1
  have f1 := h.fz 1
  have HS := Lib.hid h
  clear h
  have hl : s.data.toList.length = s.size := by simp
  have HL := Lib.hid hl
  clear hl
  obtain ⟨c, hcc⟩ : ∃ c, s[k] = c := ⟨_, rfl⟩
  have hcd := Lib.hid (getD_of hk hcc)
  have hll : Hid (k < s.data.toList.length) := by show _ < _; rw [HL.out]; exact hk
  have b2 : (0 : Int) ≤ (k : Int) := by omega
  have b4 : (k : Int) < (s.size : Int) := by omega
  rw [hcc] at q34 qn
  have e34 : ((c.toNat : Int) == 34) = false := u8q (d := 34) (by omega) q34
  have e45 : ((c.toNat : Int) == 45) = false := u8q (d := 45) (by omega) (fun h => qn (.inl h))
  have Q34 : Hid (s.data.toList.getD k 0 ≠ 34) := by show _ ≠ _; rw [hcd.out]; exact q34
  have QN : Hid (¬ (s.data.toList.getD k 0 = 45 ∨ (48 ≤ (s.data.toList.getD k 0).toNat ∧ (s.data.toList.getD k 0).toNat ≤ 57))) := by show ¬ _; rw [hcd.out]; exact qn
  have hr48 : decide ((48 : Int) ≤ (c.toNat : Int)) = false ∨ (decide ((48 : Int) ≤ (c.toNat : Int)) = true ∧ decide ((c.toNat : Int) ≤ 57) = false) := by
    rcases (by omega : c.toNat < 48 ∨ (48 ≤ c.toNat ∧ 57 < c.toNat)) with h | h
    · left; exact decide_eq_false (by omega)
    · right; exact ⟨decide_eq_true (by omega), decide_eq_false (by omega)⟩
  clear q34 qn
  obtain ⟨z, hz⟩ : ∃ z, Lib.indexByte [123, 125, 91, 93, 58, 44] c = z := ⟨_, rfl⟩
  have hm := mark_idx c
  rw [hz] at hm
  have HZ := Lib.hid hz
  clear hz
  by_cases qm : Scn.mark c = true
  · have ht := Scn.tokAt_mark (by rw [hcd.out]; exact qm)
    rw [hcd.out] at ht
    have HTK := Lib.hid ht
    have hx : Hid ((s.extract k (k + 1)).data.toList = [c]) := by
      show _ = _
      rw [extract_list, show k + 1 - k = 1 by omega, List.drop_eq_getElem_cons hll.out]
      simp only [List.take_succ_cons, List.take_zero]
      rw [← hcd.out, List.getD_eq_getElem?_getD, List.getElem?_eq_getElem hll.out]; rfl
    have hx2 : Hid (s.extract k (k + 1) = ⟨[c].toArray⟩) := bytes_eq (by rw [hx.out])
    have d0 : decide (0 ≤ z) = true := by rw [← hm]; exact qm
    clear ht hm qm
    have w2 : IntKind.i64.wrap ((k : Int) + 1) = (k : Int) + 1 := by rw [IntKind.wrap_i64]; omega
    have b5 : (k : Int) ≤ (k : Int) + 1 := by omega
    have b6 : (k : Int) + 1 ≤ (s.size : Int) := by omega
    have b7 : ((k : Int) + 1).toNat = k + 1 := by omega
    rcases hr48 with hr48 | ⟨hr48, hr57⟩
    all_goals
      go_enter Tryd.func15, Tryd.ntmps15
      go_wp2_with fail
      go_quiet (fail)
      go_wp2_with (go_at_call 14; refine (idx_at c z _ HZ.out).mono ?_; rintro e w' ⟨rfl, rfl⟩)
      refine wp_region_tail 21 (by kernel_rfl) (by kernel_rfl) ?_
      simp only [List.take_succ_cons, List.take_zero, List.drop_succ_cons, List.drop_zero]
      repeat still_step
      refine wpStill_nil ?_
      go_wp2_with (go_at_call 23; refine (lay_at B k (k + 1) 1 _ _ _ 0 s _ [c] v ts _ (HS.out.keep (Fr.drew ((Fr.refl w).drewN _))) h63 (by omega) (by rfl) (by rfl) hx2.out).mono ?_; rintro e w3 ⟨rfl, hsc', hb3⟩; have HSC := Lib.hid hsc'; have HB3 := Lib.hid hb3; clear hsc' hb3)
      go_ret
      exact OneP.tok HTK.out HSC.out (Below.trans (Below.mono (Fr.drew ((Fr.refl w).drewN _)) (Nat.le_of_lt hlt)) HB3.out)
  have HM : Hid (Scn.mark (s.data.toList.getD k 0) = false) := by show _ = _; rw [hcd.out]; simpa using qm
  have d0 : decide (0 ≤ z) = false := by rw [← hm]; simpa using qm
  clear hm qm
  rcases hr48 with hr48 | ⟨hr48, hr57⟩
  all_goals
    go_enter Tryd.func15, Tryd.ntmps15
    go_wp2_with fail
    go_quiet (fail)
    go_wp2_with (first
      | (go_at_call 14; refine (idx_at c z _ HZ.out).mono ?_; rintro e w' ⟨rfl, rfl⟩)
      | (go_at_call 25; refine (sword_is B k s v ts _ (HS.out.drewN _) hs hk h63).mono ?_; rintro e w3 ⟨b, rfl, hb3, hy, hn⟩; have HY := Lib.hid hy; have HN := Lib.hid hn; have HB := Lib.hid hb3; clear hy hn hb3))
    · rename_i hb
      obtain rfl : b = false := by simpa using hb
      go_ret
      have hx := HN.out rfl
      exact OneP.err (x := 40) (Scn.tokAt_none Q34.out QN.out HM.out hx.1) (by omega) ⟨_, hx.2⟩ (Below.trans (Below.mono ((Fr.refl w).drewN _) (Nat.le_of_lt hlt)) HB.out)
    · rename_i hb
      obtain rfl : b = true := by simpa using hb
      go_ret
      have hx := HY.out rfl
      exact OneP.tok (Scn.tokAt_word Q34.out QN.out HM.out hx.1) hx.2 (Below.trans (Below.mono ((Fr.refl w).drewN _) (Nat.le_of_lt hlt)) HB.out)

theorem scone_is (B k : Nat) (s : ByteArray) (v : Value) (ts : List Scn.Tok) (w : World) (h : Sc B s k v ts w) (hs : s.size ≤ 65536) (hk : k < s.size) (h63 : (ts.length + 1) * 40 ≤ 140737488355328) (hT : LowTabs w) :
    Calls Tryd.prog 15 #[.pointer (some ⟨B, 0, none⟩)] w (OneP B s k ts w) := by
  by_cases q34 : s[k] = 34
  · exact one_text B k s v ts w h hs hk h63 hT q34
  by_cases qn : s[k] = 45 ∨ (48 ≤ s[k].toNat ∧ s[k].toNat ≤ 57)
  · exact one_num B k s v ts w h hs hk h63 q34 qn
  · exact one_rest B k s v ts w h hs hk h63 q34 qn
end Go.Proofs.YtmalfecpcdopfaaDoor
