/- Plain laws of spoilt values. -/
import Derived.Test.YtgncdjcbphobmaaRowM
namespace Go.Proofs.Ytgncdjcbphobmaa
set_option linter.unusedVariables false
set_option linter.unusedSimpArgs false
open Go.RowKit

theorem InV.setN {w : World} {S : Nat → Prop} {k n : Int} {s : List UInt8} {l : List JV} {m : List (List UInt8 × JV)} {B : Option Addr} {d : Nat} {B' : Option Addr} {d' : Nat} (h : InV w S (.mk k n s l m) (vA (.mk k n s l m) B d B' d')) (n' : Int) (s' : List UInt8)
    (b1 : -9223372036854775808 ≤ n') (b2 : n' ≤ 9223372036854775807) (hs' : s'.length ≤ 140737488355328) : InV w S (.mk k n' s' l m) (vA (.mk k n' s' l m) B d B' d') := by
  generalize hx : vA (.mk k n s l m) B d B' d' = x at h
  cases h with
  | mk _ _ _ _ _ A A' c c' E F hn1 hn2 hk1 hk2 hs hl63 hm63 hl cl hm cm =>
    obtain ⟨_, _, _, x3, x4⟩ := five hx
    simp only [Value.slice.injEq] at x3 x4
    obtain ⟨rfl, _, rfl⟩ := x3
    obtain ⟨rfl, _, rfl⟩ := x4
    exact InV.mk k n' s' l m B B' d d' E F b1 b2 hk1 hk2 hs' hl63 hm63 hl cl hm cm
theorem chk_bad {v : JV} (h : JV.rightB v = false) : JV.chk v 1 0 = (1, 0) := by
  cases v with
  | mk k n s l m => rw [JV.chk_mk, if_neg (by omega), if_neg (by omega), if_pos h]
theorem spoil_n (k n : Int) (s : List UInt8) (l : List JV) (m : List (List UInt8 × JV)) (h2 : k ≠ 2) (h3 : k ≠ 3) (hn : n ≠ 0) : JV.rightB (.mk k n s l m) = false := by
  have e : (n == 0 || k == 2 || k == 3) = false := by simp [h2, h3, hn]
  simp only [JV.rightB, JV.bareB, e, Bool.false_and, Bool.and_false]
theorem spoil_s (k n : Int) (l : List JV) (m : List (List UInt8 × JV)) : JV.rightB (.mk k n [255] l m) = false := by
  have e : (Utf.bad [255] == ([255] : List UInt8).length) = false := by decide +kernel
  simp only [JV.rightB, e, Bool.false_and, Bool.and_false]
theorem spoil_m (m : List (List UInt8 × JV)) (h : 0 < m.length) (hl : m.length ≤ 2000) : JV.rightB (JV.mapV (m ++ [m[0]])) = false := by
  have e : JV.namesB (m ++ [m[0]]) = false := by
    cases hb : JV.namesB (m ++ [m[0]]) with
    | false => rfl
    | true =>
      simp only [JV.namesB, Bool.and_eq_true, decide_eq_true_eq] at hb
      have := hb.2
      rw [List.map_append, List.nodup_append] at this
      exact absurd rfl (this.2.2 _ (List.mem_map.2 ⟨m[0], List.getElem_mem h, rfl⟩) _ (by simp))
  have e2 : decide (8192 < (m ++ [m[0]]).length) = false := by rw [decide_eq_false_iff_not]; simp; omega
  simp only [JV.rightB, JV.mapV, e, e2]
  simp
end Go.Proofs.Ytgncdjcbphobmaa
