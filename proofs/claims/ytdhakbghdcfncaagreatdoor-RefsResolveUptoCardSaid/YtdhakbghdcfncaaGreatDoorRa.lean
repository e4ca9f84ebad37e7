/- Walks of the document's texts between quotes: Unit, Escape. -/
import Derived.Test.YtdhakbghdcfncaaGreatDoorUb
import Derived.Test.YtdhakbghdcfncaaGreatDoorLowP
import Derived.Test.YtdhakbghdcfncaaGreatDoorUa
namespace Go.Proofs.YtdhakbghdcfncaaGreatDoor
set_option maxRecDepth 100000
set_option linter.unusedVariables false
set_option linter.unusedSimpArgs false
open Go.RowKit

def runit (v:Option Nat):Int:=v.elim (-1) (fun a=>(a:Int))

structure RInv (l:List UInt8) (j n:Nat):Prop where
 lo:2≤j
 hi:j≤6
 eq:Chr.hexs 0 (l.take 4)=Chr.hexs n ((l.take 4).drop (j - 2))
 bd:n<65536
 b2:j=2→n=0
 b3:j=3→n<16
 b4:j=4→n<256
 b5:j=5→n<4096
/- The walk of the document's Escape. -/

def ltAt (j:Nat):UInt8:=([34,92,47,98,102,110,114,116]:List UInt8).getD j 0
def ptAt (j:Nat):Nat:=([34,92,47,8,12,10,13,9]:List Nat).getD j 0
def rescR (o:Option (Nat × Nat)):Value:=.tuple #[.int .i64 (o.elim 0 (fun x=>x.1):Nat),.int .i64 (o.elim 0 (fun x=>x.2):Nat)]
/- The walk of the document's Read. -/

end Go.Proofs.YtdhakbghdcfncaaGreatDoor
