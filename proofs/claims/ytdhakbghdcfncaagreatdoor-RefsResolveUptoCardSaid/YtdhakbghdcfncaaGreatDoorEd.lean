/- The walk of emit.quote. -/
import Derived.Test.YtdhakbghdcfncaaGreatDoorUa
import Derived.Test.YtdhakbghdcfncaaGreatDoorPa
import Derived.Test.YtdhakbghdcfncaaGreatDoorKa
import Derived.Deep.RegionLaw
import Derived.Deep.RegionHeld3
namespace Go.Proofs.YtdhakbghdcfncaaGreatDoor
set_option maxRecDepth 100000
set_option linter.unusedVariables false
set_option linter.unusedSimpArgs false
open Go.RowKit

/- The walk of emit.write. -/

def WrI (w0 w wr:World) (o:Value) (T rest:List UInt8):Prop:=∃ l',Bs wr w0.heap.size o l'∧Fr w0 wr∧Kt w wr∧l'++rest=T
/- The walk of emit.write: maps. -/

def MBox (w:World) (Y:Nat) (nm:List UInt8) (u:JV) (B:Option Addr) (d:Nat) (B':Option Addr) (d':Nat):Prop:=
 w.heap[Y]? = some (.cells #[.string ⟨nm.toArray⟩,.int .i64 u.kd,.int .i64 u.nm,.string ⟨u.tx.toArray⟩,.slice B u.ls.length d,.slice B' u.ms.length d'] 39 (0,0))
def MCells (w:World) (Y:Nat) (nm:List UInt8) (u:JV) (B:Option Addr) (d:Nat) (B':Option Addr) (d':Nat):Prop:=
 w.cell? ⟨Y,0,none⟩=some (.string ⟨nm.toArray⟩)∧w.cell? ⟨Y,1,none⟩=some (.int .i64 u.kd)∧w.cell? ⟨Y,2,none⟩=some (.int .i64 u.nm)∧w.cell? ⟨Y,3,none⟩=some (.string ⟨u.tx.toArray⟩)∧w.cell? ⟨Y,4,none⟩=some (.slice B u.ls.length d)∧w.cell? ⟨Y,5,none⟩=some (.slice B' u.ms.length d')
end Go.Proofs.YtdhakbghdcfncaaGreatDoor
