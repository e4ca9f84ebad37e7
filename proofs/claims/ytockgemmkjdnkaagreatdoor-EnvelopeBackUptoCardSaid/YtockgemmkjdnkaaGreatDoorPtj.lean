/- The walks of point.lead, Find, Each. -/
import Derived.Test.YtockgemmkjdnkaaGreatDoorPtI
import Derived.Test.YtockgemmkjdnkaaGreatDoorRdd
import Derived.Test.YtockgemmkjdnkaaGreatDoorEe
namespace Go.Proofs.YtockgemmkjdnkaaGreatDoor
set_option maxRecDepth 100000
set_option linter.unusedVariables false
set_option linter.unusedSimpArgs false
open Go.RowKit

namespace Pt
end Pt
def LdP (Z:Nat) (w:World) (ps:Option (List (List UInt8))) (st:Bool) (v:JV):Ending→World→Prop:=match ps with
 | none=>fun e w'=>e=.returned (.tuple #[.agg #[.int .i64 0,.int .i64 0,.string ⟨#[]⟩,.slice none 0 0,.slice none 0 0],.int .i64 80])∧Fr w w'
 | some ps=>FdP Z w (Pt.find st ps v)
theorem LdP.form {Z:Nat} {w w':World} {ps:Option (List (List UInt8))} {st:Bool} {v:JV} {x:Ending} (h:LdP Z w ps st v x w'):∃ (k n:Int) (s:ByteArray) (A:Option Addr) (a1 b:Nat) (A':Option Addr) (a' b':Nat) (c:Int),x=.returned (.tuple #[.agg #[.int .i64 k,.int .i64 n,.string s,.slice A a1 b,.slice A' a' b'],.int .i64 c]):=by
 cases ps with
 | none=>obtain ⟨hx,_⟩:=h;exact ⟨_,_,_,_,_,_,_,_,_,_,hx⟩
 | some ps=>exact FdP.form h
theorem LdP.fr {Z:Nat} {w w':World} {ps:Option (List (List UInt8))} {st:Bool} {v:JV} {x:Ending} (h:LdP Z w ps st v x w'):Fr w w':=by
 cases ps with
 | none=>exact h.2
 | some ps=>exact FdP.fr h
/- The walks of point.Find and point.Each. -/

/- What chapter 08's awake sees. -/

def aw8y:JV:=JV.listV [JV.intV 1,JV.intV 2,JV.intV 3]
def aw8:JV:=JV.mapV [([97],JV.listV [JV.mapV [([98],JV.intV 1)],JV.mapV [([98],JV.listV [JV.intV 2,JV.intV 3])]])]
/- The walk of chapter 08's law of the parts. -/

/- The walk of chapter 08's law of the texts. -/

/- The walk of chapter 08's hasStar. -/

end Go.Proofs.YtockgemmkjdnkaaGreatDoor
