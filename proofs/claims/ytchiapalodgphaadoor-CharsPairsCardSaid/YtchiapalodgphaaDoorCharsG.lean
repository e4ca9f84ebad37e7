/- Walks of the laws of chars: awake, CharsReads. -/
import Derived.Test.YtchiapalodgphaaDoorCharsF
import Derived.Test.YtchiapalodgphaaDoorCharsT
import Derived.Test.YtchiapalodgphaaDoorCharsB
namespace Go.Proofs.YtchiapalodgphaaDoor
set_option linter.unusedVariables false
set_option linter.unusedSimpArgs false
open Go.RowKit

theorem cread_at (s : ByteArray) (a : Int) (T : List UInt8) (n c : Int) (w : World) (hs : s.size ≤ 140737488355328) (h1 : -9223372036854775808 ≤ a) (h2 : a ≤ 9223372036854775807) (hT : LowTabs w) (h : Chr.read s.data.toList a = (T, n, c)) :
    Calls Tryd.prog 21 #[.string s, .int .i64 a] w fun e w' => e = .returned (.tuple #[.string ⟨T.toArray⟩, .int .i64 n, .int .i64 c]) ∧ Fr w w' := by
  have := cread_is s a w hs h1 h2 hT
  rw [h] at this
  exact this
theorem rtread_at (s : ByteArray) (a : Int) (T : List UInt8) (n c : Int) (w : World) (hs : s.size ≤ 140737488355328) (h1 : -9223372036854775808 ≤ a) (h2 : a ≤ 9223372036854775807) (hT : PtTab w) (h : Chr.read s.data.toList a = (T, n, c)) :
    Calls Tryd.prog 22 #[.string s, .int .i64 a] w fun e w' => e = .returned (.tuple #[.string ⟨T.toArray⟩, .int .i64 n, .int .i64 c]) ∧ Fr w w' := by
  have := rtread_is s a w hs h1 h2 hT
  rw [h] at this
  exact this

theorem aw_q (w : World) : Calls Tryd.prog 18 #[.string ⟨#[97, 34, 10]⟩] w fun e w' => e = .returned (.tuple #[.string ⟨#[34, 97, 92, 34, 92, 110, 34]⟩, .bool true]) ∧ Fr w w' := by
  have h := quote_yes ⟨#[97, 34, 10]⟩ w (by unfold maxLen; decide) (by decide +kernel) (by decide +kernel)
  have e : Chr.quote (ByteArray.mk #[97, 34, 10]).data.toList = [34, 97, 92, 34, 92, 110, 34] := by decide +kernel
  rw [e] at h
  exact h
theorem aw_1 (w : World) (hT : LowTabs w) : Calls Tryd.prog 21 #[.string ⟨#[120, 34, 92, 117, 48, 48, 101, 57, 34, 121]⟩, .int .i64 1] w fun e w' => e = .returned (.tuple #[.string ⟨#[195, 169]⟩, .int .i64 9, .int .i64 0]) ∧ Fr w w' :=
  cread_at ⟨#[120, 34, 92, 117, 48, 48, 101, 57, 34, 121]⟩ 1 [195, 169] 9 0 w (by decide) (by decide) (by decide) hT (by decide +kernel)
theorem aw_2 (w : World) (hT : LowTabs w) : Calls Tryd.prog 21 #[.string ⟨#[34, 92, 117, 100, 56, 51, 100, 92, 117, 100, 101, 48, 48, 34]⟩, .int .i64 0] w fun e w' => e = .returned (.tuple #[.string ⟨#[240, 159, 152, 128]⟩, .int .i64 14, .int .i64 0]) ∧ Fr w w' :=
  cread_at ⟨#[34, 92, 117, 100, 56, 51, 100, 92, 117, 100, 101, 48, 48, 34]⟩ 0 [240, 159, 152, 128] 14 0 w (by decide) (by decide) (by decide) hT (by decide +kernel)
theorem aw_3 (w : World) (hT : LowTabs w) : Calls Tryd.prog 21 #[.string ⟨#[34, 92, 117, 100, 56, 51, 100, 34]⟩, .int .i64 0] w fun e w' => e = .returned (.tuple #[.string ⟨#[]⟩, .int .i64 1, .int .i64 20]) ∧ Fr w w' :=
  cread_at ⟨#[34, 92, 117, 100, 56, 51, 100, 34]⟩ 0 [] 1 20 w (by decide) (by decide) (by decide) hT (by decide +kernel)

set_option maxHeartbeats 2000000 in
set_option maxRecDepth 100000 in
theorem awake02 (w : World) (hT : LowTabs w) : Calls Tryd.prog 20 #[] w fun e w' => e = .returned (.bool true) ∧ Fr w w' := by
  have HT := Lib.hid hT
  clear hT
  go_enter Tryd.func20, Tryd.ntmps20
  go_wp2_with (first
    | (go_at_call 18; refine (aw_q _).mono ?_; rintro e w1 ⟨rfl, hf⟩; have HF1 := Lib.hid hf; clear hf)
    | (go_at_call 21; have hm := HF3.out; refine (aw_3 _ (HT.out.keep hm)).mono ?_; rintro e w4 ⟨rfl, hf⟩; have HF4 := Lib.hid (hm.trans hf); clear hf hm)
    | (go_at_call 21; have hm := HF2.out; refine (aw_2 _ (HT.out.keep hm)).mono ?_; rintro e w3 ⟨rfl, hf⟩; have HF3 := Lib.hid (hm.trans hf); clear hf hm)
    | (go_at_call 21; have hm := HF1.out; refine (aw_1 _ (HT.out.keep hm)).mono ?_; rintro e w2 ⟨rfl, hf⟩; have HF2 := Lib.hid (hm.trans hf); clear hf hm))
  go_ret
  exact ⟨rfl, HF4.out⟩

set_option maxHeartbeats 2000000 in
set_option maxRecDepth 100000 in
/-- CharsReads. -/
theorem reads_law (s : ByteArray) (a : Int) (w : World) (hs : s.size ≤ 140737488355328) (h1 : -9223372036854775808 ≤ a) (h2 : a ≤ 9223372036854775807) (hT : LowTabs w) (hP : PtTab w) :
    Calls Tryd.prog 6 #[.string s, .int .i64 a] w fun e w' => e = .returned (.bool true) ∧ Fr w w' := by
  rcases h : Chr.read s.data.toList a with ⟨T, n, c⟩
  have H := Lib.hid h
  have HT := Lib.hid hT
  have HP := Lib.hid hP
  clear h hT hP
  go_enter Tryd.func6, Tryd.ntmps6
  go_wp2_with (first
    | (go_at_call 21; refine (cread_at s a T n c _ hs h1 h2 HT.out H.out).mono ?_; rintro e w1 ⟨rfl, hf⟩; have HF1 := Lib.hid hf; clear hf)
    | (go_at_call 22; refine (rtread_at s a T n c _ hs h1 h2 (HP.out.keep HF1.out) H.out).mono ?_; rintro e w2 ⟨rfl, hf⟩; have HF2 := Lib.hid (HF1.out.trans hf); clear hf)
    | (go_at_call 20; refine (awake02 _ (HT.out.keep HF2.out)).mono ?_; rintro e w3 ⟨rfl, hf⟩; have HF3 := Lib.hid (HF2.out.trans hf); clear hf))
  go_ret
  exact ⟨rfl, HF3.out⟩

end Go.Proofs.YtchiapalodgphaaDoor
