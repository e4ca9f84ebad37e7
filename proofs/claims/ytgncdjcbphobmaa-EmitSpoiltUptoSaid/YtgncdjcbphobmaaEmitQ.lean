/- The walk of emit.quote. -/
import Derived.Test.YtgncdjcbphobmaaCharsB
import Derived.Test.YtgncdjcbphobmaaValQ
import Derived.Test.YtgncdjcbphobmaaKt
namespace Go.Proofs.Ytgncdjcbphobmaa
set_option linter.unusedVariables false
set_option linter.unusedSimpArgs false
open Go.RowKit

theorem quote_any (s Q : List UInt8) (w : World) (hs : s.length ≤ 140737488355328) (hq : Q.length ≤ 140737488355328) (h : JV.q s = Q) :
    Calls Try.prog 17 #[.string ⟨s.toArray⟩] w fun e w' => ∃ b, e = .returned (.tuple #[.string ⟨Q.toArray⟩, .bool b]) ∧ Fr w w' := by
  subst h
  have hl : s.length = (⟨s.toArray⟩ : ByteArray).size := by show _ = s.toArray.size; simp
  have hm : (⟨s.toArray⟩ : ByteArray).size ≤ maxLen := by rw [← hl]; unfold maxLen; omega
  unfold JV.q Chr.quoteO at hq ⊢
  split at hq
  · rename_i hb
    rw [if_pos hb]
    refine (quote_yes ⟨s.toArray⟩ w hm (by rw [← hl]; simpa using hb) (by simpa using hq)).mono ?_
    rintro e w' ⟨rfl, hf⟩
    exact ⟨true, rfl, hf⟩
  · rename_i hb
    rw [if_neg hb]
    refine (quote_no ⟨s.toArray⟩ w hm (by rw [← hl]; simpa using hb)).mono ?_
    rintro e w' ⟨rfl, rfl⟩
    exact ⟨false, rfl, Fr.refl _⟩

set_option maxHeartbeats 1000000 in
theorem equote_is (w0 : World) (s : List UInt8) (v : Value) (l : List UInt8) (w : World) (hfr : Fr w0 w) (hown : Bs w w0.heap.size v l) (hs : s.length ≤ 140737488355328) (h63 : l.length + (JV.q s).length ≤ 140737488355328) :
    Calls Try.prog 14 #[v, .string ⟨s.toArray⟩] w fun e w' => ∃ v', e = .returned v' ∧ Bs w' w0.heap.size v' (l ++ JV.q s) ∧ Fr w0 w' ∧ Kt w w' ∧ w.grownBy w' v.ownBlock := by
  obtain ⟨Q, hQ⟩ : ∃ Q, JV.q s = Q := ⟨_, rfl⟩
  rw [hQ] at h63 ⊢
  have HQ := Lib.hid hQ
  have HF := Lib.hid hfr
  have HO := Lib.hid hown
  clear hQ hfr hown
  go_enter Try.func14, Try.ntmps14
  go_wp2_with (first
    | (go_at_call 17; refine (quote_any s Q _ hs (by omega) HQ.out).mono ?_; rintro e w1 ⟨b, rfl, hw1⟩; have HF1 := Lib.hid (HF.out.trans hw1); have HO1 := Lib.hid (HO.out.keep hw1); have HK1 := Lib.hid (Kt.of hw1); have HG1 := Lib.hid (hw1.grows v.ownBlock); clear hw1)
    | (at_builtin; refine wpl_bt_k rfl (.tmp 12) (.tmp 13) (by rfl) w0 HF1.out v l (by rfl) HO1.out ⟨Q.toArray⟩ (by rfl) (by show _ + Q.toArray.size ≤ _; simpa using h63) ?_; intro v' w3 hb3 hf3 hk3 hg3; have HG3 := Lib.hid (World.grownBy.trans HG1.out hg3); have HB3 := Lib.hid hb3; have HF3 := Lib.hid hf3; have HK3 := Lib.hid (HK1.out.trans hk3); clear hb3 hf3 hk3 hg3))
  go_ret
  exact ⟨_, rfl, by simpa using HB3.out, HF3.out, HK3.out, HG3.out⟩
end Go.Proofs.Ytgncdjcbphobmaa
