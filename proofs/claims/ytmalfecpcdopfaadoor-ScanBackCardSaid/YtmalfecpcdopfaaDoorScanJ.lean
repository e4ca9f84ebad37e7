/- The walk of scan.Tokens. -/
import Derived.Test.YtmalfecpcdopfaaDoorScanI
namespace Go.Proofs.YtmalfecpcdopfaaDoor
set_option linter.unusedVariables false
set_option linter.unusedSimpArgs false
open Go.RowKit

theorem white_idx (c : UInt8) : Scn.white c = decide (0 ≤ Lib.indexByte [32, 9, 10, 13] c) := by
  have h : ∀ n : Fin 256, Scn.white (UInt8.ofFin n) = decide (0 ≤ Lib.indexByte [32, 9, 10, 13] (UInt8.ofFin n)) := by decide +kernel
  exact h c.toFin
theorem idx_white (c : UInt8) (z : Int) (w : World) (h : Lib.indexByte [32, 9, 10, 13] c = z) :
    Calls Tryd.prog 14 #[.string ⟨#[32, 9, 10, 13]⟩, .int .u8 c.toNat] w fun e w' => e = .returned (.int .i64 z) ∧ w = w' := by
  subst h
  refine (Tryd.strings_IndexByte ⟨#[32, 9, 10, 13]⟩ (c.toNat : Int) w).mono ?_
  rintro e w' ⟨rfl, rfl⟩
  refine ⟨?_, rfl⟩
  have h2 : ((c.toNat : Int).toNat.toUInt8) = c := by simp
  rw [h2]

/-- What Tokens leaves. -/
def TokP (s : ByteArray) (w : World) (e : Ending) (w' : World) : Prop :=
  ∃ v, e = .returned (.tuple #[v, .int .i64 ((Scn.tokens s.data.toList).2.1 : Nat), .int .i64 ((Scn.tokens s.data.toList).2.2 : Nat)]) ∧ Tks w' w.heap.size v (Scn.tokens s.data.toList).1 ∧ Fr w w'
theorem TokP.mk {s : ByteArray} {w w' : World} {v : Value} {ts : List Scn.Tok} {p x : Nat} (hs : s.size ≤ 65536) (h : Scn.tk s.data.toList 0 = (ts, p, x)) (ht : Tks w' w.heap.size v ts) (hf : Fr w w') :
    TokP s w (.returned (.tuple #[v, .int .i64 (p : Nat), .int .i64 (x : Nat)])) w' := by
  have hl : s.data.toList.length = s.size := by simp
  unfold TokP
  rw [Scn.tokens_short (by rw [hl]; omega), h]
  exact ⟨v, rfl, ht, hf⟩
theorem tokens_in_long (s : ByteArray) (w : World) (h : 65536 < s.size) (hs : s.size ≤ 9223372036854775807) : Calls Tryd.prog 8 #[.string s] w (TokP s w) := by
  have hl : s.data.toList.length = s.size := by simp
  have ht := Lib.hid (Scn.tokens_long (l := s.data.toList) (by rw [hl]; omega))
  have d0 : decide ((65536 : Int) < (s.size : Int)) = true := decide_eq_true (by omega)
  clear hl h
  go_enter Tryd.func8, Tryd.ntmps8
  go_wp2_with fail
  go_ret3
  unfold TokP
  rw [ht.out]
  exact ⟨_, rfl, Tks.none_ _ _, Fr.refl _⟩

set_option maxHeartbeats 4000000 in
set_option maxRecDepth 100000 in
theorem tokens_in (s : ByteArray) (w : World) (hs : s.size ≤ 65536) (hT : LowTabs w) : Calls Tryd.prog 8 #[.string s] w (TokP s w) := by
  have HT := Lib.hid hT
  clear hT
  have hl : s.data.toList.length = s.size := by simp
  have HL := Lib.hid hl
  clear hl
  have d0 : decide ((65536 : Int) < (s.size : Int)) = false := decide_eq_false (by omega)
  go_enter Tryd.func8, Tryd.ntmps8
  go_wp2_with fail
  go_loopg [] s.size (fun m wr => ∃ (i : Nat) (v : Value) (ts : List Scn.Tok), i ≤ s.size ∧ m = s.size - i ∧ Hid (Scn.TkInv s.data.toList i ts) ∧ Hid (Sc w.heap.size s i v ts wr) ∧ Hid (Fr w wr))
  case atStart =>
    refine ⟨0, .slice none 0 0, [], by omega, by omega, Lib.hid (Scn.TkInv.start _), Lib.hid ⟨by simp, ?_, ?_, ?_, fun j => by simp, Tks.none_ _ _⟩, Lib.hid ((Fr.refl w).alloc _)⟩
    · rw [World.cell?_alloc_at _ _ _ _ rfl]; rfl
    · rw [World.cell?_alloc_at _ _ _ _ rfl]; rfl
    · rw [World.cell?_alloc_at _ _ _ _ rfl]; rfl
  case round =>
    obtain ⟨i, v, ts, hi, rfl, hinv, hsc, hfr⟩ := hrel
    have c1 := hsc.out.c1
    have c2 := hsc.out.c2
    have f1 := hsc.out.fz 1
    by_cases hlt : i < s.size
    · obtain ⟨c, hcc⟩ : ∃ c, s[i] = c := ⟨_, rfl⟩
      have hcd := Lib.hid (getD_of hlt hcc)
      have hll : Hid (i < s.data.toList.length) := by show _ < _; rw [HL.out]; exact hlt
      have hlen : Hid ((ts.length + 1) * 40 ≤ 140737488355328) := by
        have := hinv.out.len
        show _ ≤ _
        omega
      have b2 : (0 : Int) ≤ (i : Int) := by omega
      have b4 : (i : Int) < (s.size : Int) := by omega
      obtain ⟨z, hz⟩ : ∃ z, Lib.indexByte [32, 9, 10, 13] c = z := ⟨_, rfl⟩
      have hm := white_idx c
      rw [hz] at hm
      have HZ := Lib.hid hz
      clear hz
      by_cases hw : Scn.white c = true
      · have hnx := Lib.hid (hinv.out.white hll.out (by rw [hcd.out]; exact hw))
        have dz : decide (0 ≤ z) = true := by rw [← hm]; exact hw
        clear hw hinv hm
        go_wp2_with (go_at_call 14; refine (idx_white c z _ HZ.out).mono ?_; rintro e w' ⟨rfl, rfl⟩)
        have hmv := hsc.out.move (n := i + 1) (Fr.refl _)
        go_roundg (s.size - (i + 1))
        case rel => exact ⟨i + 1, v, ts, by omega, rfl, hnx, Lib.hid hmv.1, Lib.hid (Below.trans hfr.out (Below.mono hmv.2 (Nat.le_refl _)))⟩
        case measure => omega
      · have hw2 : Scn.white c = false := by simpa using hw
        have dz : decide (0 ≤ z) = false := by rw [← hm]; exact hw2
        have hwd : Hid (Scn.white (s.data.toList.getD i 0) = false) := by show _ = _; rw [hcd.out]; exact hw2
        clear hw hw2 hm
        rcases ht : Scn.tokAt s.data.toList i with ⟨x, p⟩ | ⟨t, n⟩
        · have hr := Lib.hid (hinv.out.err hll.out hwd.out ht)
          have HTK := Lib.hid ht
          clear ht hinv
          go_wp2_with (first
            | (go_at_call 14; refine (idx_white c z _ HZ.out).mono ?_; rintro e w' ⟨rfl, rfl⟩)
            | (go_at_call 15; refine (scone_is w.heap.size i s v ts _ hsc.out hs hlt hlen.out (HT.out.keep hfr.out)).mono ?_; rintro e w3 hp; unfold OneP at hp; rw [HTK.out] at hp; obtain ⟨rfl, hx, ⟨v', hs'⟩, hb⟩ := hp; have g1 := hs'.c1; have hxx : ((x : Int) != 0) = true := (by rw [bne_iff_ne]; omega); have HS' := Lib.hid hs'; have HB := Lib.hid hb; clear hs' hb hx))
          go_quiet (fail)
          go_wp2_with fail
          go_ret3
          exact TokP.mk hs hr.out (Tks.none_ _ _) ((show Fr w _ from Below.trans hfr.out (Below.mono HB.out (Nat.le_refl _))).drewN _)
        · have hnx := Lib.hid (hinv.out.tok hll.out hwd.out ht)
          have HTK := Lib.hid ht
          clear ht hinv
          go_wp2_with (first
            | (go_at_call 14; refine (idx_white c z _ HZ.out).mono ?_; rintro e w' ⟨rfl, rfl⟩)
            | (go_at_call 15; refine (scone_is w.heap.size i s v ts _ hsc.out hs hlt hlen.out (HT.out.keep hfr.out)).mono ?_; rintro e w3 hp; unfold OneP at hp; rw [HTK.out] at hp; obtain ⟨rfl, ⟨v', hs'⟩, hb⟩ := hp; have HS' := Lib.hid hs'; have HB := Lib.hid hb; clear hs' hb))
          have hn := hnx.out.1.hi
          rw [HL.out] at hn
          have hn2 := hnx.out.2
          go_roundg (s.size - n)
          case rel => exact ⟨n, v', ts ++ [t], hn, rfl, Lib.hid hnx.out.1, HS', Lib.hid (Below.trans hfr.out (Below.mono HB.out (Nat.le_refl _)))⟩
          case measure => omega
    · have hr0 := Lib.hid (hinv.out.stop (by rw [HL.out]; omega))
      obtain rfl : i = s.size := by omega
      clear hinv
      go_wp2_with fail
      go_ret3
      exact TokP.mk hs hr0.out (hsc.out.tks.mono (Nat.le_succ _)) hfr.out
theorem stokens_is (s : ByteArray) (w : World) (hs : s.size ≤ 9223372036854775807) (hT : LowTabs w) : Calls Tryd.prog 8 #[.string s] w (TokP s w) := by
  by_cases h : s.size ≤ 65536
  · exact tokens_in s w h hT
  · exact tokens_in_long s w (by omega) hs
end Go.Proofs.YtmalfecpcdopfaaDoor
