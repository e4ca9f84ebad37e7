/- Plain laws of bytes at a place. -/
import Derived.Test.YtgncdjcbphobmaaKit
import Derived.Test.YtgncdjcbphobmaaUtfP
import Derived.Test.YtgncdjcbphobmaaCharsQ
namespace Go.Proofs.Ytgncdjcbphobmaa
set_option linter.unusedVariables false
set_option linter.unusedSimpArgs false
open Go.RowKit

theorem one_at {s : ByteArray} {k : Nat} (hk : k < s.size) : ∃ p n, Utf.one (s.data.toList.drop k) = (p, n) ∧ k + n ≤ s.size ∧ p ≤ 1114111 := by
  refine ⟨(Utf.one (s.data.toList.drop k)).1, (Utf.one (s.data.toList.drop k)).2, rfl, ?_, Utf.one_bound _⟩
  have := (Utf.one_len (l := s.data.toList.drop k)).1
  simp at this
  omega
theorem bad_at_stop {s : ByteArray} {k p : Nat} (h : Utf.one (s.data.toList.drop k) = (p, 0)) : Utf.bad (s.data.toList.drop k) = 0 := Utf.bad_stop (by rw [h])
theorem bad_at_step {s : ByteArray} {k p n : Nat} (h : Utf.one (s.data.toList.drop k) = (p, n)) (hn : n ≠ 0) : Utf.bad (s.data.toList.drop k) = n + Utf.bad (s.data.toList.drop (k + n)) := by
  rw [Utf.bad_step (by rw [h]; exact hn), h, List.drop_drop]
theorem pts_at_stop {s : ByteArray} {k p : Nat} (h : Utf.one (s.data.toList.drop k) = (p, 0)) : Utf.pts (s.data.toList.drop k) = [] := Utf.pts_stop (by rw [h])
theorem pts_at_step {s : ByteArray} {k p n : Nat} (h : Utf.one (s.data.toList.drop k) = (p, n)) (hn : n ≠ 0) : Utf.pts (s.data.toList.drop k) = p :: Utf.pts (s.data.toList.drop (k + n)) := by
  rw [Utf.pts_step (by rw [h]; exact hn), h, List.drop_drop]
theorem drop_end {s : ByteArray} {k : Nat} (h : ¬ k < s.size) : s.data.toList.drop k = [] := List.drop_of_length_le (by simp; omega)

theorem u8neq {c : UInt8} {d : Nat} (hd : d < 256) (h : c ≠ UInt8.ofNat d) : ((c.toNat : Int) == (d : Int)) = false := by
  rw [beq_eq_false_iff_ne]
  intro e
  apply h
  have : c.toNat = d := by omega
  rw [← this]; simp


end Go.Proofs.Ytgncdjcbphobmaa
