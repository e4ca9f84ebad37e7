/- The walks of the two Alls. -/
import Derived.Test.YtlmcfhokfiibkaaGreatDoorKa
import Derived.Test.YtlmcfhokfiibkaaGreatDoorNumsD
import Derived.Test.YtlmcfhokfiibkaaGreatDoorNb
import Derived.Test.YtlmcfhokfiibkaaGreatDoorPa
namespace Go.Proofs.YtlmcfhokfiibkaaGreatDoor
set_option maxRecDepth 100000
set_option maxHeartbeats 400000
set_option linter.unusedVariables false
set_option linter.unusedSimpArgs false
open Go.RowKit

def optV (x:Option Int):Value:=.tuple #[.int .i64 (x.getD 0),.bool x.isSome]

def putFuel:Nat→Nat→List UInt8
 | 0,_=>[]
 | k+1,n=>if n<10 then [UInt8.ofNat (48+n)] else putFuel k (n / 10)++[UInt8.ofNat (48+n % 10)]
end Go.Proofs.YtlmcfhokfiibkaaGreatDoor
