/- A set of names: a map[string]bool that a call made. -/
import Derived.Test.YtgncdjcbphobmaaKit
import Derived.Maps.Own
import Derived.Maps.OwnOps
import Derived.Maps.Views
import Derived.Maps.Keyed
import Derived.StringKeys
namespace Go.Proofs.Ytgncdjcbphobmaa
set_option linter.unusedVariables false
set_option linter.unusedSimpArgs false
open Go.RowKit

/-- Block b holds the names ks, at most n stores ago. -/
def Known (w : World) (b n : Nat) (ks : List (List UInt8)) : Prop :=
  ∃ D : DataW Unit, w.ownsMap Try.prog 9 (plainElem Try.prog 4) b n D ∧ Maps.IsMap D ∧ ∀ s : List UInt8, D.atKey (.string s) (.lit (.bool false)) = .lit (.bool (decide (s ∈ ks)))
theorem keyedS : Maps.Keyed Try.prog 9 := Maps.string_keyed Try.underlying9
theorem Known.made (w : World) : Known (w.alloc (.map #[] 0)) w.heap.size 0 [] :=
  ⟨.map [], World.ownsMap_made w _ _ _, ⟨[], rfl⟩, fun s => by simp [DataW.atKey]⟩
theorem Known.lt {w : World} {b n : Nat} {ks : List (List UInt8)} (h : Known w b n ks) : b < w.heap.size := by
  obtain ⟨D, h1, _⟩ := h; exact h1.lt
theorem Known.keep {w w' : World} {b n : Nat} {ks : List (List UInt8)} (h : Known w b n ks) (hf : Fr w w') : Known w' b n ks := by
  obtain ⟨D, ⟨es, clock, hb, F, hs, hD⟩, h2, h3⟩ := h
  exact ⟨D, ⟨es, clock, (Below.block hf b (Array.getElem?_eq_some_iff.1 hb).1).trans hb, F, hs, hD⟩, h2, h3⟩
set_option maxRecDepth 100000 in
theorem Known.run {w : World} {b n : Nat} {ks : List (List UInt8)} (h : Known w b n ks) (s : List UInt8) (hs : s.length ≤ 140737488355328) :
    (Instr.lookup 55 (.map (some b)) (.string ⟨s.toArray⟩) false).run Try.prog w = .ok (.bool (decide (s ∈ ks))) w := by
  obtain ⟨D, h1, h2, h3⟩ := h
  have hz : (zeroValue 4).run Try.prog w = .ok (.bool false) w := by
    have hi : (Try.prog.info? 4).bind (·.zero) = some (.bool false) := by kernel_rfl
    simp only [zeroValue]
    cases h : Try.prog.info? 4 with
    | none => rw [h] at hi; cases hi
    | some i =>
      rw [h] at hi
      simp at hi
      simp [typeInfo, h, hi]
  have hkey : keyOf Try.prog 9 (.string ⟨s.toArray⟩) = some (.string s) := by
    have := WideMaps.keyOf_string_mk (P := Try.prog) Try.underlying9 (s := ⟨s.toArray⟩) (by show s.toArray.size ≤ _; rw [List.size_toArray]; unfold maxLen; omega)
    simpa using this
  obtain ⟨v, ps, hrun, hv⟩ := h1.lookup (t := 55) (e := 4) keyedS Try.underlying55 hz (plainElem_bool Try.underlying4 false) hkey
  rw [h3] at hv
  rw [hrun]
  unfold plainElem at hv
  rw [Try.underlying4] at hv
  cases v with
  | bool x => simp at hv; rw [hv.1]
  | _ => simp at hv
set_option maxRecDepth 100000 in
/-- 'known[s] = true' at the operation. -/
theorem wpl_know {ops : Array Oper} {rest : List Oper} {o : Oper} {a : Act} {w : World} {Q : Exit → Act → World → Prop}
    (hg : o.guard = none) (m x v : Operand) (hop : o.op = Op.mapUpdate 55 m x v)
    (b n : Nat) (ks : List (List UInt8)) (hm : a.eval m = .map (some b)) (hown : Known w b n ks) (hn : n < 140737488355328) (s : List UInt8) (hs : s.length ≤ 140737488355328) (hx : a.eval x = .string ⟨s.toArray⟩) (hv : a.eval v = .bool true)
    (hK : ∀ w', Known w' b (n + 1) (s :: ks) → w.grownBy w' (some b) → wpList Try.prog ops Q rest (a.put o.dst undef) w') : wpList Try.prog ops Q (o :: rest) a w := by
  obtain ⟨D, h1, h2, h3⟩ := hown
  have hkey : keyOf Try.prog 9 (.string ⟨s.toArray⟩) = some (.string s) := by
    have := WideMaps.keyOf_string_mk (P := Try.prog) Try.underlying9 (s := ⟨s.toArray⟩) (by show s.toArray.size ≤ _; rw [List.size_toArray]; unfold maxLen; omega)
    simpa using this
  refine wpList_mapUpdate_own w hg m x v 55 hop 9 4 keyedS Try.underlying55 _ b n D hm h1 (by unfold maxLen; omega) _ _ (.string s) hx hv hkey (.lit (.bool true)) [] (plainElem_bool Try.underlying4 true) ?_
  intro w' h4 h5
  refine hK w' ⟨_, h4, h2.put _ _, fun t => ?_⟩ h5
  by_cases e : t = s
  · subst e
    rw [Maps.atKey_put_same h2 (keyedS.key hkey)]
    simp
  · rw [Maps.atKey_put_other (fun h => e (by injection h))]
    rw [h3]
    simp [e]
theorem Fr.grown {w0 w w' : World} {b : Nat} (h : Fr w0 w) (hg : w.grownBy w' (some b)) (hb : w0.heap.size ≤ b) : Fr w0 w' :=
  Below.grown h hg h.size (fun k hk => by have := Option.some.inj hk; omega)
end Go.Proofs.Ytgncdjcbphobmaa
