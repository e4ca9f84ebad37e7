/- The walk of the scanner's one. -/
import Derived.Test.YtmalfecpcdopfaaDoorScanG
import Derived.Test.YtmalfecpcdopfaaDoorCharsF
import Derived.Test.YtmalfecpcdopfaaDoorNumsD
import Derived.Test.YtmalfecpcdopfaaDoorShelf
namespace Go.Proofs.YtmalfecpcdopfaaDoor
set_option linter.unusedVariables false
set_option linter.unusedSimpArgs false
open Go.RowKit

theorem cread_tx (s : ByteArray) (i : Nat) (w : World) (d : List UInt8) (n e : Nat) (hs : s.size ≤ 65536) (hi : i < s.size) (hT : LowTabs w) (hr : Chr.read s.data.toList i = (d, (n : Int), (e : Int))) :
    Calls Tryd.prog 22 #[.string s, .int .i64 i] w fun x w' => x = .returned (.tuple #[.string ⟨d.toArray⟩, .int .i64 n, .int .i64 e]) ∧ Fr w w' := by
  refine (cread_is s i w (by omega) (by omega) (by omega) hT).mono ?_
  rintro x w' ⟨rfl, hf⟩
  exact ⟨by rw [hr]; rfl, hf⟩
theorem nread_tx (s : ByteArray) (i : Nat) (w : World) (v : Int) (n e : Nat) (hs : s.size ≤ 65536) (hi : i < s.size) (hr : Nm.readNum s.data.toList i = (v, (n : Int), (e : Int))) :
    Calls Tryd.prog 24 #[.string s, .int .i64 i] w fun x w' => x = .returned (.tuple #[.int .i64 v, .int .i64 n, .int .i64 e]) ∧ w = w' := by
  refine (read_any s i w (by unfold maxLen; omega) (by omega) (by omega)).mono ?_
  rintro x w' ⟨rfl, hf⟩
  exact ⟨by rw [hr]; rfl, hf⟩
/-- Is a byte among the signs? -/
theorem mark_idx (c : UInt8) : Scn.mark c = decide (0 ≤ Lib.indexByte [123, 125, 91, 93, 58, 44] c) := by
  have h : ∀ n : Fin 256, Scn.mark (UInt8.ofFin n) = decide (0 ≤ Lib.indexByte [123, 125, 91, 93, 58, 44] (UInt8.ofFin n)) := by decide +kernel
  exact h c.toFin

/-- What one leaves. -/
def OneP (B : Nat) (s : ByteArray) (k : Nat) (ts : List Scn.Tok) (w : World) (e : Ending) (w' : World) : Prop :=
  match Scn.tokAt s.data.toList k with
  | .err x p => e = .returned (.int .i64 x) ∧ x ≠ 0 ∧ (∃ v', Sc B s p v' ts w') ∧ Below B w w'
  | .tok t n => e = .returned (.int .i64 0) ∧ (∃ v', Sc B s n v' (ts ++ [t]) w') ∧ Below B w w'

theorem OneP.tok {B k n : Nat} {s : ByteArray} {ts : List Scn.Tok} {t : Scn.Tok} {w w' : World} (h : Scn.tokAt s.data.toList k = .tok t n) (hs : ∃ v', Sc B s n v' (ts ++ [t]) w') (hb : Below B w w') : OneP B s k ts w (.returned (.int .i64 0)) w' := by
  unfold OneP; rw [h]; exact ⟨rfl, hs, hb⟩
theorem OneP.err {B k p x : Nat} {s : ByteArray} {ts : List Scn.Tok} {w w' : World} (h : Scn.tokAt s.data.toList k = .err x p) (hx : x ≠ 0) (hs : ∃ v', Sc B s p v' ts w') (hb : Below B w w') : OneP B s k ts w (.returned (.int .i64 x)) w' := by
  unfold OneP; rw [h]; exact ⟨rfl, hx, hs, hb⟩
/-- The scanner goes on. -/
theorem Sc.move {B k n : Nat} {s : ByteArray} {v : Value} {ts : List Scn.Tok} {w w1 : World} (h : Sc B s k v ts w) (h1 : Fr w w1) :
    Sc B s n v ts (w1.setCell ⟨B, 1, none⟩ (.int .i64 n)) ∧ Below B w (w1.setCell ⟨B, 1, none⟩ (.int .i64 n)) := by
  have h2 := h.keep h1
  refine ⟨⟨by simpa using h2.lt, ?_, ?_, ?_, fun j => ?_, tks_below h2.tks 1⟩, Below.setCell (Below.mono h1 (Nat.le_of_lt h.lt)) (p := ⟨B, 1, none⟩) (Nat.le_refl _) _⟩
  · rw [World.cell?_setCell_other _ _ _ _ (by simp)]; exact h2.c0
  · rw [World.cell?_setCell_same _ _ _ h2.c1]
  · rw [World.cell?_setCell_other _ _ _ _ (by simp)]; exact h2.c2
  · rw [World.frozen?_setCell]; exact h2.fz j

set_option maxHeartbeats 4000000 in
set_option maxRecDepth 100000 in
theorem one_text (B k : Nat) (s : ByteArray) (v : Value) (ts : List Scn.Tok) (w : World) (h : Sc B s k v ts w) (hs : s.size ≤ 65536) (hk : k < s.size) (h63 : (ts.length + 1) * 40 ≤ 140737488355328) (hT : LowTabs w) (q34 : s[k] = 34) :
    Calls Tryd.prog 15 #[.pointer (some ⟨B, 0, none⟩)] w (OneP B s k ts w) := by
  have hlt := h.lt
  have c0 := h.c0
  have c1 := h.c1
  have f1 := h.fz 1
  have HS := Lib.hid h
  clear h
  have hl : s.data.toList.length = s.size := by simp
  have HL := Lib.hid hl
  clear hl
  obtain ⟨c, hcc⟩ : ∃ c, s[k] = c := ⟨_, rfl⟩
  have hcd := Lib.hid (getD_of hk hcc)
  have hll : Hid (k < s.data.toList.length) := by show _ < _; rw [HL.out]; exact hk
  have b2 : (0 : Int) ≤ (k : Int) := by omega
  have b4 : (k : Int) < (s.size : Int) := by omega
  have HT := Lib.hid hT
  clear hT
  rw [hcc] at q34
  have e34 : ((c.toNat : Int) == 34) = true := by rw [q34]; rfl
  have Q34 := Lib.hid q34
  clear q34
  rcases Scn.tokAt_text hll.out (by rw [hcd.out]; exact Q34.out) with ⟨d, n, hr, ht⟩ | ⟨n, e, he, hn, hr, ht⟩
  · have HR := Lib.hid hr
    have HTK := Lib.hid ht
    clear hr ht
    go_enter Tryd.func15, Tryd.ntmps15
    go_wp2_with fail
    go_quiet (fail)
    go_wp2_with fail
    go_region_with (go_at_call 22; refine (cread_tx s k _ d n 0 hs hk (HT.out.keep (((Fr.refl w).drewN _).drew)) HR.out).mono ?_; rintro e w1 ⟨rfl, hf1⟩; have hc1 := hf1.cells; have HF1 := Lib.hid (((Fr.refl w).drewN _).drew.trans hf1); clear hf1)
    all_goals
      go_wp2_with (go_at_call 23; refine (lay_at B k n 4 _ _ _ 0 s _ d v ts _ (HS.out.keep HF1.out) h63 (by rfl) (by rfl) (by rfl) (by rfl)).mono ?_; rintro e w3 ⟨rfl, hsc', hb3⟩; have HSC := Lib.hid hsc'; have HB3 := Lib.hid hb3; clear hsc' hb3)
      go_ret
      exact OneP.tok HTK.out HSC.out (Below.trans (Below.mono HF1.out (Nat.le_of_lt hlt)) HB3.out)
  · have HR := Lib.hid hr
    have HTK := Lib.hid ht
    have hne : ((e : Int) != 0) = true := by rw [bne_iff_ne]; omega
    have he0 : e ≠ 0 := by omega
    clear hr ht he hn
    go_enter Tryd.func15, Tryd.ntmps15
    go_wp2_with fail
    go_quiet (fail)
    go_wp2_with fail
    go_region_with (go_at_call 22; refine (cread_tx s k _ [] n e hs hk (HT.out.keep (((Fr.refl w).drewN _).drew)) HR.out).mono ?_; rintro e w1 ⟨rfl, hf1⟩; have HF1 := Lib.hid (((Fr.refl w).drewN _).drew.trans hf1); have g1 := (HS.out.keep HF1.out).c1; have z1 := (HS.out.keep HF1.out).fz 1; clear hf1)
    all_goals
      go_wp2_with fail
      go_ret
      have hx := HS.out.move (n := n) HF1.out
      exact OneP.err HTK.out he0 ⟨_, hx.1⟩ hx.2

set_option maxHeartbeats 4000000 in
set_option maxRecDepth 100000 in
theorem one_num (B k : Nat) (s : ByteArray) (v : Value) (ts : List Scn.Tok) (w : World) (h : Sc B s k v ts w) (hs : s.size ≤ 65536) (hk : k < s.size) (h63 : (ts.length + 1) * 40 ≤ 140737488355328) (q34 : s[k] ≠ 34) (qn : s[k] = 45 ∨ (48 ≤ s[k].toNat ∧ s[k].toNat ≤ 57)) :
    Calls Tryd.prog 15 #[.pointer (some ⟨B, 0, none⟩)] w (OneP B s k ts w) := by
  have hlt := h.lt
  have c0 := h.c0
  have c1 := h.c1
  have f1 := h.fz 1
  have HS := Lib.hid h
  clear h
  have hl : s.data.toList.length = s.size := by simp
  have HL := Lib.hid hl
  clear hl
  obtain ⟨c, hcc⟩ : ∃ c, s[k] = c := ⟨_, rfl⟩
  have hcd := Lib.hid (getD_of hk hcc)
  have hll : Hid (k < s.data.toList.length) := by show _ < _; rw [HL.out]; exact hk
  have b2 : (0 : Int) ≤ (k : Int) := by omega
  have b4 : (k : Int) < (s.size : Int) := by omega
  rw [hcc] at q34 qn
  have e34 : ((c.toNat : Int) == 34) = false := u8q (d := 34) (by omega) q34
  have hf : (((c.toNat : Int) == 45) = true) ∨ (((c.toNat : Int) == 45) = false ∧ decide ((48 : Int) ≤ (c.toNat : Int)) = true ∧ decide ((c.toNat : Int) ≤ 57) = true) := by
    by_cases h : c = 45
    · left; rw [h]; rfl
    · right
      have := qn.resolve_left h
      exact ⟨u8q (d := 45) (by omega) h, decide_eq_true (by omega), decide_eq_true (by omega)⟩
  have ht0 := Scn.tokAt_num hll.out (by rw [hcd.out]; exact qn)
  clear q34 qn
  rcases ht0 with ⟨x, n, hr, ht⟩ | ⟨x, hr, ht⟩
  · have HR := Lib.hid hr
    have HTK := Lib.hid ht
    clear hr ht
    rcases hf with hf | ⟨hf, hf2, hf3⟩
    all_goals
      go_enter Tryd.func15, Tryd.ntmps15
      go_wp2_with fail
      go_quiet (fail)
      go_wp2_with fail
      go_region_with (go_at_call 24; refine (nread_tx s k _ x n 0 hs hk HR.out).mono ?_; rintro e w1 ⟨rfl, rfl⟩)
      all_goals
        go_wp2_with (go_at_call 23; refine (lay_at B k n 3 _ _ _ x s _ [] v ts _ (HS.out.keep (Fr.drew ((Fr.refl w).drewN _))) h63 (by rfl) (by rfl) (by rfl) (by rfl)).mono ?_; rintro e w3 ⟨rfl, hsc', hb3⟩; have HSC := Lib.hid hsc'; have HB3 := Lib.hid hb3; clear hsc' hb3)
        go_ret
        exact OneP.tok HTK.out HSC.out (Below.trans (Below.mono (Fr.drew ((Fr.refl w).drewN _)) (Nat.le_of_lt hlt)) HB3.out)
  · have HR := Lib.hid hr
    have HTK := Lib.hid ht
    clear hr ht
    rcases hf with hf | ⟨hf, hf2, hf3⟩
    all_goals
      go_enter Tryd.func15, Tryd.ntmps15
      go_wp2_with fail
      go_quiet (fail)
      go_wp2_with fail
      go_region_with (go_at_call 24; refine (nread_tx s k _ x k 30 hs hk HR.out).mono ?_; rintro e w1 ⟨rfl, rfl⟩)
      all_goals
        go_wp2_with fail
        go_ret
        exact OneP.err (x := 30) HTK.out (by omega) ⟨_, HS.out.keep (Fr.drew ((Fr.refl w).drewN _))⟩ (Below.mono (Fr.drew ((Fr.refl w).drewN _)) (Nat.le_of_lt hlt))

end Go.Proofs.YtmalfecpcdopfaaDoor
