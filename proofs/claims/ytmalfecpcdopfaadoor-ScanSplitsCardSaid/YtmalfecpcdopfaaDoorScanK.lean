/- Walks of the laws of scan: awake, ScanReads. -/
import Derived.Test.YtmalfecpcdopfaaDoorScanJ
import Derived.Test.YtmalfecpcdopfaaDoorScanD
namespace Go.Proofs.YtmalfecpcdopfaaDoor
set_option linter.unusedVariables false
set_option linter.unusedSimpArgs false
open Go.RowKit

theorem tokens_at (s : ByteArray) (ts : List Scn.Tok) (p x : Nat) (w : World) (hs : s.size ≤ 9223372036854775807) (hT : LowTabs w) (h : Scn.tokens s.data.toList = (ts, p, x)) :
    Calls Tryd.prog 8 #[.string s] w fun e w' => ∃ v, e = .returned (.tuple #[v, .int .i64 (p : Nat), .int .i64 (x : Nat)]) ∧ Tks w' w.heap.size v ts ∧ Fr w w' := by
  refine (stokens_is s w hs hT).mono ?_
  rintro e w' ⟨v, he, ht, hf⟩
  rw [h] at he ht
  exact ⟨v, he, ht, hf⟩
theorem rtokens_at (s : ByteArray) (ts : List Scn.Tok) (p x : Nat) (w : World) (hs : s.size ≤ 9223372036854775807) (hT : PtTab w) (h : Scn.tokens s.data.toList = (ts, p, x)) :
    Calls Tryd.prog 9 #[.string s] w fun e w' => ∃ v, e = .returned (.tuple #[v, .int .i64 (p : Nat), .int .i64 (x : Nat)]) ∧ Tks w' w.heap.size v ts ∧ Fr w w' := by
  refine (rtokens_is s w hs hT).mono ?_
  rintro e w' ⟨v, he, ht, hf⟩
  rw [h] at he ht
  exact ⟨v, he, ht, hf⟩

/-- What the test of awake reads. -/
def AwC (w : World) (g : Nat) : Prop := g < w.heap.size ∧
    (w.cell? ⟨g, 4, none⟩ = some (.int .i64 4) ∧ w.cell? ⟨g, 5, none⟩ = some (.int .i64 0) ∧ w.cell? ⟨g, 6, none⟩ = some (.string ⟨#[97]⟩) ∧ w.cell? ⟨g, 7, none⟩ = some (.int .i64 1)) ∧
    (w.cell? ⟨g, 12, none⟩ = some (.int .i64 3) ∧ w.cell? ⟨g, 13, none⟩ = some (.int .i64 (-1)) ∧ w.cell? ⟨g, 14, none⟩ = some (.string ⟨#[]⟩) ∧ w.cell? ⟨g, 15, none⟩ = some (.int .i64 5))
theorem AwC.keep {w w' : World} {g : Nat} (h : AwC w g) (hf : Fr w w') : AwC w' g := by
  obtain ⟨hg, ⟨a0, a1, a2, a3⟩, ⟨b0, b1, b2, b3⟩⟩ := h
  refine ⟨Nat.lt_of_lt_of_le hg hf.size, ⟨?_, ?_, ?_, ?_⟩, ⟨?_, ?_, ?_, ?_⟩⟩ <;> rw [hf.cell hg] <;> assumption
theorem aw4_1 (w : World) (hT : LowTabs w) : Calls Tryd.prog 8 #[.string ⟨#[123, 34, 97, 34, 58, 45, 49, 125]⟩] w fun e w' => ∃ g c, e = .returned (.tuple #[.slice (some ⟨g, 0, none⟩) 5 c, .int .i64 0, .int .i64 0]) ∧ AwC w' g ∧ Fr w w' := by
  refine (tokens_at ⟨#[123, 34, 97, 34, 58, 45, 49, 125]⟩ [⟨1, 0, [123], 0⟩, ⟨4, 0, [97], 1⟩, ⟨1, 0, [58], 4⟩, ⟨3, -1, [], 5⟩, ⟨1, 0, [125], 7⟩] 0 0 w (by decide) hT (by kernel_rfl)).mono ?_
  rintro e w' ⟨v, rfl, ht, hf⟩
  rcases ht.form with ⟨rfl, hn⟩ | ⟨g, c, rfl, hb, hg, hc⟩
  · cases hn
  · exact ⟨g, c, rfl, ⟨hg, hc 1 (by simp), hc 3 (by simp)⟩, hf⟩
theorem aw4_2 (w : World) (hT : LowTabs w) : Calls Tryd.prog 8 #[.string ⟨#[110, 117, 108, 108, 115]⟩] w fun e w' => ∃ v, e = .returned (.tuple #[v, .int .i64 0, .int .i64 40]) ∧ Fr w w' := by
  refine (tokens_at ⟨#[110, 117, 108, 108, 115]⟩ [] 0 40 w (by decide) hT (by kernel_rfl)).mono ?_
  rintro e w' ⟨v, rfl, ht, hf⟩
  exact ⟨v, rfl, hf⟩
theorem aw4_3 (w : World) (hT : LowTabs w) : Calls Tryd.prog 8 #[.string ⟨#[91, 49, 46, 53, 93]⟩] w fun e w' => ∃ v, e = .returned (.tuple #[v, .int .i64 1, .int .i64 30]) ∧ Fr w w' := by
  refine (tokens_at ⟨#[91, 49, 46, 53, 93]⟩ [] 1 30 w (by decide) hT (by kernel_rfl)).mono ?_
  rintro e w' ⟨v, rfl, ht, hf⟩
  exact ⟨v, rfl, hf⟩

set_option maxHeartbeats 4000000 in
set_option maxRecDepth 100000 in
theorem awake04 (w : World) (hT : LowTabs w) : Calls Tryd.prog 10 #[] w fun e w' => e = .returned (.bool true) ∧ Fr w w' := by
  have HT := Lib.hid hT
  clear hT
  go_enter Tryd.func10, Tryd.ntmps10
  go_wp2_with (first
    | (go_at_call 8; have hm := HF2.out; refine (aw4_3 _ (HT.out.keep hm)).mono ?_; rintro e w3 ⟨v3, rfl, hf⟩; obtain ⟨hg, ⟨a0, a1, a2, a3⟩, ⟨b0, b1, b2, b3⟩⟩ := HA2.out.keep hf; have HF3 := Lib.hid (hm.trans hf); clear hf hm)
    | (go_at_call 8; have hm := HF1.out; refine (aw4_2 _ (HT.out.keep hm)).mono ?_; rintro e w2 ⟨v2, rfl, hf⟩; have HA2 := Lib.hid (HA1.out.keep hf); have HF2 := Lib.hid (hm.trans hf); clear hf hm)
    | (go_at_call 8; refine (aw4_1 _ HT.out).mono ?_; rintro e w1 ⟨g, c, rfl, ha, hf⟩; have HF1 := Lib.hid hf; have HA1 := Lib.hid ha; clear hf ha))
  go_ret
  exact ⟨rfl, HF3.out⟩
theorem alike_refl (p : Bool) (ts : List Scn.Tok) : alike p ts ts := ⟨rfl, fun i h h2 => ⟨rfl, rfl, rfl, fun _ => rfl⟩⟩

set_option maxHeartbeats 4000000 in
set_option maxRecDepth 100000 in
theorem scanreads_law (s : ByteArray) (w : World) (hs : s.size ≤ 140737488355328) (hT : LowTabs w) (hP : PtTab w) :
    Calls Tryd.prog 3 #[.string s] w fun e w' => e = .returned (.bool true) ∧ Fr w w' := by
  rcases h : Scn.tokens s.data.toList with ⟨ts, p, x⟩
  have hlen : Hid (ts.length ≤ 140737488355328) := by
    have := Scn.tokens_len s.data.toList
    rw [h] at this
    show _ ≤ _
    simp at this
    omega
  have H := Lib.hid h
  have HT := Lib.hid hT
  have HP := Lib.hid hP
  clear h hT hP
  go_enter Tryd.func3, Tryd.ntmps3
  go_wp2_with (first
    | (go_at_call 8; refine (tokens_at s ts p x _ (by omega) HT.out H.out).mono ?_; rintro e w1 ⟨v1, rfl, ht, hf⟩; have HF1 := Lib.hid hf; have HV1 := Lib.hid ht; clear hf ht)
    | (go_at_call 9; refine (rtokens_at s ts p x _ (by omega) (HP.out.keep HF1.out) H.out).mono ?_; rintro e w2 ⟨v2, rfl, ht, hf⟩; have HV2 := Lib.hid ht; have HV1' := Lib.hid (HV1.out.keep hf); have HF2 := Lib.hid (HF1.out.trans hf); clear hf ht)
    | (go_at_call 10; refine (awake04 _ (HT.out.keep HF2.out)).mono ?_; rintro e w3 ⟨rfl, hf⟩; have HV12 := Lib.hid (HV1'.out.keep hf); have HV22 := Lib.hid (HV2.out.keep hf); have HF3 := Lib.hid (HF2.out.trans hf); clear hf)
    | (go_at_call 11; refine (rsame_yes true ts ts _ _ _ _ _ (alike_refl _ _) HV12.out HV22.out hlen.out).mono ?_; rintro e w4 ⟨rfl, hf⟩; have HF4 := Lib.hid (HF3.out.trans hf); clear hf))
  go_ret
  exact ⟨rfl, HF4.out⟩
end Go.Proofs.YtmalfecpcdopfaaDoor
