/- An argument that is a slice of texts: opened. -/
import Derived.Test.YtfjcgbbphkfkgaaGreatDoorOpenV
import Derived.Test.YtfjcgbbphkfkgaaGreatDoorPta
import Derived.Deep.Strs
namespace Go.Proofs.YtfjcgbbphkfkgaaGreatDoor
set_option maxRecDepth 100000
set_option linter.unusedVariables false
set_option linter.unusedSimpArgs false
open Go.ChangeShapes Go.WideShapes Go.Deep Go.RowKit

/-- Letters and texts. -/
def Pt.bulkS : List (List UInt8) → Nat
  | [] => 0
  | q :: r => q.length + 1 + Pt.bulkS r
theorem Pt.esc_le (s : List UInt8) : (Pt.esc s).length ≤ 2 * s.length := by
  induction s with
  | nil => simp [Pt.esc]
  | cons c r ih =>
    unfold Pt.esc
    rw [List.length_append, List.length_cons]
    have : (if c = 126 then [126, 48] else if c = 47 then [126, 49] else [c] : List UInt8).length ≤ 2 := by
      split
      · simp
      · split <;> simp
    omega
theorem Pt.text_le (l : List (List UInt8)) : (Pt.text l).length ≤ 2 * Pt.bulkS l := by
  induction l with
  | nil => simp [Pt.text]
  | cons q r ih =>
    have := Pt.esc_le q
    simp only [Pt.text, Pt.bulkS, List.length_cons, List.length_append]
    omega
theorem Pt.bulkS_len (l : List (List UInt8)) : l.length ≤ Pt.bulkS l := by
  induction l with
  | nil => simp
  | cons q r ih => simp only [Pt.bulkS, List.length_cons]; omega
theorem Pt.bulkS_mem {q : List UInt8} : ∀ {l : List (List UInt8)}, q ∈ l → q.length ≤ Pt.bulkS l
  | [], h => by cases h
  | e :: l, h => by
    rw [Pt.bulkS]
    rcases List.mem_cons.1 h with rfl | h
    · omega
    · have := Pt.bulkS_mem h; omega

section
variable {H : Type} {enc : TypeId × Value → H} {W : World}
theorem bulkAll_strs (S : List (List UInt8)) : Rows.uptoBulkAll (S.map fun q => (.lit (.string q) : DataW H)) = Pt.bulkS S := by
  induction S with
  | nil => simp [Rows.uptoBulkAll, Pt.bulkS]
  | cons q r ih => simp only [List.map_cons, Rows.uptoBulkAll, Rows.uptoBulk, Pt.bulkS, ih]
/-- An argument that is a slice of texts. -/
theorem open_ss {r : Reach} {b0 : Nat} {v : Value} {d : DataW H} {p : List MemPlace} (hK : Rows.uptoBulk d ≤ 1048576) (hv : Value.okWide Tryz.prog W r b0 22 v) (h : DataW.Trod enc Tryz.prog W 0 (fun _ => true) true 22 v d p) :
    ∃ A ps c, v = .slice A ps.length c ∧ PsC W A ps ∧ Pt.bulkS ps ≤ 1048576 := by
  obtain ⟨a, len, cap, rfl⟩ := okWide_slice Tryz.underlying22 hv
  obtain ⟨fuel, hf⟩ := h
  have hf : DataW.trod enc Tryz.prog W 0 (fun _ => true) true fuel 22 [.slice a len cap] = some (d, p) := by simpa [Value.cells] using hf
  rcases open_strs Tryz.underlying22 Tryz.underlying9 (by kernel_rfl) hf with ⟨h0, _⟩ | ⟨a', len', cap', m, Sx, hcs, _, hl, hcap, hm, hx, hi⟩
  · simp only [List.cons.injEq, Value.slice.injEq, and_true] at h0
    obtain ⟨rfl, rfl, rfl⟩ := h0
    exact ⟨none, [], 0, rfl, fun h => absurd rfl h, by simp [Pt.bulkS]⟩
  · simp only [List.cons.injEq, Value.slice.injEq, and_true] at hcs
    obtain ⟨rfl, rfl, rfl⟩ := hcs
    simp only [Prod.mk.injEq] at hx
    have hlm : len ≤ m := by rw [hm]; split <;> omega
    refine ⟨some a', (List.range len).map fun i => (Sx i).data.toList, cap, by simp, ?_, ?_⟩
    · intro hne
      have h0 : 0 < len := by
        rcases Nat.eq_zero_or_pos len with h | h
        · subst h; exact absurd rfl hne
        · exact h
      have hc0 := (hi 0 (by omega)).1
      obtain ⟨b, o, sp⟩ := a'
      have e0 : (Addr.mk b o sp).add 0 = ⟨b, o, sp⟩ := by simp [Addr.add]
      rw [e0] at hc0
      have hsp : sp = none := cell_spot hc0
      subst hsp
      refine ⟨b, o, rfl, ?_, fun i hil => ?_⟩
      · rcases Nat.lt_or_ge b W.heap.size with h | h
        · exact h
        · simp [World.cell?, Array.getElem?_eq_none h] at hc0
      · have hil' : i < len := by simpa using hil
        have := (hi i (by omega)).1
        rw [addr_add] at this
        rw [this]
        simp
    · rw [hx.1, Rows.uptoBulk] at hK
      have e : ((List.range len).map fun i => (.lit (.string (Sx i).data.toList) : DataW H)) = ((List.range len).map fun i => (Sx i).data.toList).map fun q => .lit (.string q) := by
        rw [List.map_map]; rfl
      rw [e, bulkAll_strs] at hK
      omega
end
end Go.Proofs.YtfjcgbbphkfkgaaGreatDoor
