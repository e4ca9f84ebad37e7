/- The walks of point.lead, Find, Each. -/
import Derived.Test.YtockgemmkjdnkaaGreatDoorPtI
import Derived.Test.YtockgemmkjdnkaaGreatDoorRdd
import Derived.Test.YtockgemmkjdnkaaGreatDoorEe
set_option maxRecDepth 100000
set_option linter.unusedVariables false
set_option linter.unusedSimpArgs false
namespace Go.Proofs.YtockgemmkjdnkaaGreatDoor
open Go.RowKit

namespace Pt
end Pt
def LdP (Z:Nat) (w:World) (ps:Option (List (List UInt8))) (st:Bool) (v:JV):Ending->World->Prop:=match ps with
 | none=>λe w'=>e=.returned (.tuple #[.agg #[.int .i64 0,.int .i64 0,.string ⟨#[]⟩,.slice none 0 0,.slice none 0 0],.int .i64 80])/\Fr w w'
 | some ps=>FdP Z w (Pt.find st ps v)
/- The walks of point.Find and point.Each. -/

/- What chapter 08's awake sees. -/

def aw8y:JV:=JV.listV [JV.intV 1,JV.intV 2,JV.intV 3]
def aw8:JV:=JV.mapV [([97],JV.listV [JV.mapV [([98],JV.intV 1)],JV.mapV [([98],JV.listV [JV.intV 2,JV.intV 3])]])]
/- The walk of chapter 08's law of the parts. -/

/- The walk of chapter 08's law of the texts. -/

/- The walk of chapter 08's hasStar. -/

end Go.Proofs.YtockgemmkjdnkaaGreatDoor
