/- Walks of the document's texts between quotes: Unit, Escape. -/
import Derived.Test.YtgaiepficjiclaaGreatDoorUb
import Derived.Test.YtgaiepficjiclaaGreatDoorLowP
import Derived.Test.YtgaiepficjiclaaGreatDoorUa
namespace Go.Proofs.YtgaiepficjiclaaGreatDoor
set_option maxRecDepth 100000
set_option linter.unusedVariables false
set_option linter.unusedSimpArgs false
open Go.RowKit

theorem getD_atR {s : ByteArray} {k : Nat} (h : k < s.size) : s.data.toList.getD k 0 = s[k] := by
 have h2 : k < s.data.toList.length := by simpa using h
 rw [List.getD_eq_getElem?_getD, List.getElem?_eq_getElem h2]
 rfl
theorem u8bneR {c : UInt8} {d : Nat} (hd : d < 256) (h : c ≠ UInt8.ofNat d) : ((c.toNat : Int) != (d : Int)) = true := by
 rw [bne, u8neq hd h]; rfl
def runit (v : Option Nat) : Int := v.elim (-1) (fun a => (a : Int))

structure RInv (l : List UInt8) (j n : Nat) : Prop where
 lo : 2 ≤ j
 hi : j ≤ 6
 eq : Chr.hexs 0 (l.take 4) = Chr.hexs n ((l.take 4).drop (j - 2))
 bd : n < 65536
 b2 : j = 2 → n = 0
 b3 : j = 3 → n < 16
 b4 : j = 4 → n < 256
 b5 : j = 5 → n < 4096
theorem RInv.start (l : List UInt8) : RInv l 2 0 := ⟨by omega, by omega, by simp, by omega, by omega, by omega, by omega, by omega⟩
theorem RInv.at_ {l : List UInt8} {j n : Nat} (h : RInv l j n) (hj : j < 6) (hl : 4 ≤ l.length) {c : UInt8} (hc : l.getD (j - 2) 0 = c) : (l.take 4).drop (j - 2) = c :: (l.take 4).drop (j + 1 - 2) := by
 have := h.lo
 rw [Nm.drop_cons (l.take 4) (j - 2) (by simp; omega), show j - 2 + 1 = j + 1 - 2 by omega]
 congr 1
 rw [← hc, List.getElem_take, List.getD_eq_getElem?_getD, List.getElem?_eq_getElem (by omega)]
 rfl
theorem RInv.bad {l : List UInt8} {j n : Nat} (h : RInv l j n) (hj : j < 6) (hl : 4 ≤ l.length) {c : UInt8} (hc : l.getD (j - 2) 0 = c) (hx : Chr.hexv c = none) : Chr.hexs 0 (l.take 4) = none := by
 rw [h.eq, h.at_ hj hl hc]; unfold Chr.hexs; rw [hx]
theorem RInv.step {l : List UInt8} {j n d : Nat} (h : RInv l j n) (hj : j < 6) (hl : 4 ≤ l.length) {c : UInt8} (hc : l.getD (j - 2) 0 = c) (hx : Chr.hexv c = some d) : RInv l (j + 1) (n * 16 + d) := by
 have hd := Chr.hexv_lt hx
 have := h.lo; have := h.b2; have := h.b3; have := h.b4; have := h.b5
 refine ⟨by omega, by omega, ?_, by omega, by omega, by omega, by omega, by omega⟩
 rw [h.eq, h.at_ hj hl hc]
 conv => lhs; unfold Chr.hexs
 rw [hx]
theorem RInv.stop {l : List UInt8} {n : Nat} (h : RInv l 6 n) : Chr.hexs 0 (l.take 4) = some n := by
 rw [h.eq, List.drop_of_length_le (by simp; omega)]; rfl

/- The walk of the document's Escape. -/

def ltAt (j : Nat) : UInt8 := ([34, 92, 47, 98, 102, 110, 114, 116] : List UInt8).getD j 0
def ptAt (j : Nat) : Nat := ([34, 92, 47, 8, 12, 10, 13, 9] : List Nat).getD j 0
theorem lt_plain : ∀ j : Fin 8, Chr.plain (ltAt j) = some (UInt8.ofNat (ptAt j)) ∧ (UInt8.ofNat (ptAt j)).toNat = ptAt j := by decide +kernel
theorem lt_idx : ∀ j : Fin 8, (⟨#[34, 92, 47, 98, 102, 110, 114, 116]⟩ : ByteArray)[j.val]'(by show _ < 8; exact j.isLt) = ltAt j.val := by decide +kernel
theorem plain_none {c : UInt8} (h : ∀ m, m < 8 → ltAt m ≠ c) : Chr.plain c = none := by
 unfold Chr.plain
 rw [if_neg (fun e => h 0 (by omega) e.symm), if_neg (fun e => h 1 (by omega) e.symm), if_neg (fun e => h 2 (by omega) e.symm), if_neg (fun e => h 3 (by omega) e.symm), if_neg (fun e => h 4 (by omega) e.symm), if_neg (fun e => h 5 (by omega) e.symm), if_neg (fun e => h 6 (by omega) e.symm), if_neg (fun e => h 7 (by omega) e.symm)]
def rescR (o : Option (Nat × Nat)) : Value := .tuple #[.int .i64 (o.elim 0 (fun x => x.1) : Nat), .int .i64 (o.elim 0 (fun x => x.2) : Nat)]
theorem escd_shortR {s : ByteArray} {k : Nat} (h : s.size - k < 2) : Chr.escd (s.data.toList.drop k) = none ∧ Chr.unitv (s.data.toList.drop k) = none := by
 have hu : Chr.unitv (s.data.toList.drop k) = none := Chr.unitv_short (by simp; omega)
 refine ⟨?_, hu⟩
 unfold Chr.escd
 have e : (s.data.toList.drop k).getD 1 0 = 0 := by
  rw [List.getD_eq_getElem?_getD, List.getElem?_eq_none (by simp; omega)]; rfl
 rw [e, show Chr.plain 0 = none from rfl]
 simp only
 unfold Chr.escu
 rw [hu]
theorem escd_atR {s : ByteArray} {k : Nat} {c : UInt8} (h : k + 1 < s.size) (hc : s[k + 1] = c) : Chr.escd (s.data.toList.drop k) = match Chr.plain c with | some p => some (p.toNat, 2) | none => Chr.escu (s.data.toList.drop k) := by
 unfold Chr.escd
 have e : (s.data.toList.drop k).getD 1 0 = c := by
  rw [List.getD_eq_getElem?_getD, List.getElem?_drop, ← List.getD_eq_getElem?_getD, getD_atR h, hc]
 rw [e]
 cases Chr.plain c <;> rfl

/- The walk of the document's Read. -/

end Go.Proofs.YtgaiepficjiclaaGreatDoor
