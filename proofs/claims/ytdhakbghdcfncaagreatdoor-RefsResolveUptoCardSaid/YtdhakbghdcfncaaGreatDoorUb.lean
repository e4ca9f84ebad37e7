/- The walk of the document's One. -/
import Derived.Test.YtdhakbghdcfncaaGreatDoorUa
import Derived.Test.YtdhakbghdcfncaaGreatDoorPa
namespace Go.Proofs.YtdhakbghdcfncaaGreatDoor
set_option maxRecDepth 100000
set_option maxHeartbeats 2000000
set_option linter.unusedVariables false
set_option linter.unusedSimpArgs false
open Go.RowKit

structure ROneInv (s:ByteArray) (k n0 p0 i q:Nat):Prop where
 lo:1≤i
 hi:i≤n0
 eq:Utf.rtail p0 (s.data.toList.drop (k+1)) (n0 - 1)=Utf.rtail q (s.data.toList.drop (k+i)) (n0 - i)
 b1:i=1→q<256
 b2:i=2→q<16384
 b3:i=3→q<1048576
 b4:i=4→q<67108864
theorem extract_list (s:ByteArray) (i j:Nat):(s.extract i j).data.toList=(s.data.toList.drop i).take (j - i):=by simp [ByteArray.data_extract]

/- The walk of the document's One: of three and four bytes. -/

/- Walks: the document's One, Points. -/

def pvs (l:List Nat):List Value:=l.map fun (p:Nat)=>.int .i64 p
def Ps (w:World) (base:Nat) (v:Value) (l:List Nat):Prop:=Row w base 2 v (pvs l)
/- Walks of chars' small functions: plain; the document's hex, digit. -/

theorem plain_is (c:UInt8) (w:World):
  Calls Tryz.prog 115 #[.int .u8 c.toNat] w fun e w'=>e=.returned (.tuple #[.int .u8 ((Chr.plain c).getD 0).toNat,.bool (Chr.plain c).isSome])∧w=w':=by
 by_cases h0:c=34
 ·subst h0
  go_enter Tryz.func115,Tryz.ntmps115
  go_wp2_with fail
  go_ret2
  exact ⟨rfl,rfl⟩
 have e0:=u8neq (d:=34) (by omega) h0
 by_cases h1:c=92
 ·subst h1
  go_enter Tryz.func115,Tryz.ntmps115
  go_wp2_with fail
  go_ret2
  exact ⟨rfl,rfl⟩
 have e1:=u8neq (d:=92) (by omega) h1
 by_cases h2:c=47
 ·subst h2
  go_enter Tryz.func115,Tryz.ntmps115
  go_wp2_with fail
  go_ret2
  exact ⟨rfl,rfl⟩
 have e2:=u8neq (d:=47) (by omega) h2
 by_cases h3:c=98
 ·subst h3
  go_enter Tryz.func115,Tryz.ntmps115
  go_wp2_with fail
  go_ret2
  exact ⟨rfl,rfl⟩
 have e3:=u8neq (d:=98) (by omega) h3
 by_cases h4:c=102
 ·subst h4
  go_enter Tryz.func115,Tryz.ntmps115
  go_wp2_with fail
  go_ret2
  exact ⟨rfl,rfl⟩
 have e4:=u8neq (d:=102) (by omega) h4
 by_cases h5:c=110
 ·subst h5
  go_enter Tryz.func115,Tryz.ntmps115
  go_wp2_with fail
  go_ret2
  exact ⟨rfl,rfl⟩
 have e5:=u8neq (d:=110) (by omega) h5
 by_cases h6:c=114
 ·subst h6
  go_enter Tryz.func115,Tryz.ntmps115
  go_wp2_with fail
  go_ret2
  exact ⟨rfl,rfl⟩
 have e6:=u8neq (d:=114) (by omega) h6
 by_cases h7:c=116
 ·subst h7
  go_enter Tryz.func115,Tryz.ntmps115
  go_wp2_with fail
  go_ret2
  exact ⟨rfl,rfl⟩
 have e7:=u8neq (d:=116) (by omega) h7
 have hr:Hid (Chr.plain c=none):=by show _=_;unfold Chr.plain;rw [if_neg h0,if_neg h1,if_neg h2,if_neg h3,if_neg h4,if_neg h5,if_neg h6,if_neg h7]
 clear h0 h1 h2 h3 h4 h5 h6 h7
 go_enter Tryz.func115,Tryz.ntmps115
 go_wp2_with fail
 go_ret2
 exact ⟨by rw [hr.out];rfl,rfl⟩

def rdig (c:UInt8):Int:=match Chr.hexv c with | some d=>d | none=>-1

end Go.Proofs.YtdhakbghdcfncaaGreatDoor
