/- An argument that is a slice of texts: opened. -/
import Derived.Test.YtlmcfhokfiibkaaGreatDoorOpenV
import Derived.Test.YtlmcfhokfiibkaaGreatDoorPta
import Derived.Deep.Strs
namespace Go.Proofs.YtlmcfhokfiibkaaGreatDoor
set_option maxRecDepth 100000
set_option maxRecDepth 100000
set_option linter.unusedVariables false
set_option linter.unusedSimpArgs false
open Go.ChangeShapes Go.WideShapes Go.Deep Go.RowKit

def Pt.bulkS:List (List UInt8)→Nat
 | []=>0
 | q::r=>q.length+1+Pt.bulkS r
theorem Pt.esc_le (s:List UInt8):(Pt.esc s).length≤2*s.length:=by
 induction s with
 | nil=>simp [Pt.esc]
 | cons c r ih=>
  unfold Pt.esc
  rw [List.length_append,List.length_cons]
  have:(if c=126 then [126,48] else if c=47 then [126,49] else [c]:List UInt8).length≤2:=by
   split
   ·simp
   ·split <;> simp
  omega
section
variable {H:Type} {enc:TypeId × Value→H} {W:World}
end
end Go.Proofs.YtlmcfhokfiibkaaGreatDoor
