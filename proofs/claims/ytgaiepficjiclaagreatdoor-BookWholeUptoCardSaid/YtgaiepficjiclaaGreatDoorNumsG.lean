/- The walks of the two Alls. -/
import Derived.Test.YtgaiepficjiclaaGreatDoorKa
import Derived.Test.YtgaiepficjiclaaGreatDoorNumsD
import Derived.Test.YtgaiepficjiclaaGreatDoorNb
import Derived.Test.YtgaiepficjiclaaGreatDoorPa
namespace Go.Proofs.YtgaiepficjiclaaGreatDoor
set_option maxRecDepth 100000
set_option linter.unusedVariables false
set_option linter.unusedSimpArgs false
open Go.RowKit

theorem read_is (s : ByteArray) (a n e y : Int) (w : World) (hs : s.size ≤ maxLen) (h1 : -9223372036854775808 ≤ a) (h2 : a ≤ 9223372036854775807) (h : Nm.readNum s.data.toList a = (n, e, y)) :
  Calls Tryz.prog 78 #[.string s, .int .i64 a] w fun x w' => x = .returned (.tuple #[.int .i64 n, .int .i64 e, .int .i64 y]) ∧ w = w' := by
 have := read_any s a w hs h1 h2; rw [h] at this; exact this
def optV (x : Option Int) : Value := .tuple #[.int .i64 (x.getD 0), .bool x.isSome]

def putFuel : Nat → Nat → List UInt8
 | 0, _ => []
 | k + 1, n => if n < 10 then [UInt8.ofNat (48 + n)] else putFuel k (n / 10) ++ [UInt8.ofNat (48 + n % 10)]
theorem putFuel_eq : ∀ (k n : Nat), n < 10 ^ (k + 1) → Nm.putNat n = putFuel (k + 1) n
 | 0, n, h => by rw [Nm.putNat_lt (by omega), putFuel, if_pos (by omega)]
 | k + 1, n, h => by
  by_cases h1 : n < 10
  ·rw [Nm.putNat_lt h1, putFuel, if_pos h1]
  ·rw [Nm.putNat_ge h1, putFuel, if_neg h1, putFuel_eq k (n / 10) (by rw [Nat.pow_succ] at h; omega)]
theorem put_min : Nm.put (-9223372036854775808) = [45, 57, 50, 50, 51, 51, 55, 50, 48, 51, 54, 56, 53, 52, 55, 55, 53, 56, 48, 56] := by
 rw [Nm.put, if_pos (by omega), show (-9223372036854775808 : Int).natAbs = 9223372036854775808 from rfl, putFuel_eq 18 _ (by omega)]
 decide +kernel

end Go.Proofs.YtgaiepficjiclaaGreatDoor
