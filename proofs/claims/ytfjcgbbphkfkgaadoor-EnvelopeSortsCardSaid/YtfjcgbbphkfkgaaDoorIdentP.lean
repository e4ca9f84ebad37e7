/- Plain mathematics of ids and states: no program in sight. -/
import Derived.Test.YtfjcgbbphkfkgaaDoorPa
namespace Go.Proofs.YtfjcgbbphkfkgaaDoor.Idn
set_option linter.unusedVariables false
set_option linter.unusedSimpArgs false
open Nm

/-- May a byte stand in an id? -/
def okc (c : UInt8) : Bool := (decide (97 ≤ c.toNat) && decide (c.toNat ≤ 122)) || (decide (65 ≤ c.toNat) && decide (c.toNat ≤ 90)) || (decide (48 ≤ c.toNat) && decide (c.toNat ≤ 57)) || decide (c.toNat = 45) || decide (c.toNat = 95)
theorem okc_true {c : UInt8} (h : okc c = true) : (97 ≤ c.toNat ∧ c.toNat ≤ 122) ∨ (65 ≤ c.toNat ∧ c.toNat ≤ 90) ∨ (48 ≤ c.toNat ∧ c.toNat ≤ 57) ∨ c.toNat = 45 ∨ c.toNat = 95 := by
  simp [okc] at h; omega
theorem okc_false {c : UInt8} (h : okc c = false) : c.toNat < 45 ∨ (45 < c.toNat ∧ c.toNat < 48) ∨ (57 < c.toNat ∧ c.toNat < 65) ∨ (90 < c.toNat ∧ c.toNat < 95) ∨ c.toNat = 96 ∨ 122 < c.toNat := by
  simp [okc] at h; omega
def isId (l : List UInt8) : Bool := decide (1 ≤ l.length) && decide (l.length ≤ 255) && l.all okc

/-- A digit to the base 32. -/
def d32 (n : Nat) : UInt8 := if n < 10 then UInt8.ofNat (48 + n) else UInt8.ofNat (87 + n)
def v32 (c : UInt8) : Option Nat := if 48 ≤ c.toNat ∧ c.toNat ≤ 57 then some (c.toNat - 48) else if 97 ≤ c.toNat ∧ c.toNat ≤ 118 then some (c.toNat - 87) else none
/-- The lowest k digits of a number, the highest first. -/
def dig : Nat → Nat → List UInt8
  | 0, _ => []
  | k + 1, n => dig k (n / 32) ++ [d32 (n % 32)]
/-- The value of digits. -/
def valD : Nat → List UInt8 → Option Nat
  | n, [] => some n
  | n, c :: l => match v32 c with | none => none | some d => valD (n * 32 + d) l
/-- Whether a kind and a number have an id. -/
def may (kind n : Int) : Bool := (decide (kind = 1) || decide (kind = 2)) && decide (0 ≤ n) && decide (n ≤ 9007199254740991)
def letter (kind : Int) : UInt8 := if kind = 1 then 67 else 66
def small (kind : Int) : UInt8 := if kind = 1 then 99 else 98
def makeId (kind n : Int) : List UInt8 := if may kind n then letter kind :: dig 11 n.toNat else []
def state (kind n : Int) : List UInt8 := if may kind n then small kind :: put n else []

/-- The kind and the number whose id a text is. -/
def numberOf (l : List UInt8) : Option (Int × Int) :=
  match l with
  | [] => none
  | c :: t => if t.length = 11 then (match valD 0 t with
      | none => none
      | some n => if n ≤ 9007199254740991 then (if c = 67 then some (1, n) else if c = 66 then some (2, n) else none) else none) else none

end Go.Proofs.YtfjcgbbphkfkgaaDoor.Idn
