/- The walks of the two Alls. -/
import Derived.Test.YtdhakbghdcfncaaGreatDoorKa
import Derived.Test.YtdhakbghdcfncaaGreatDoorNumsD
import Derived.Test.YtdhakbghdcfncaaGreatDoorNb
import Derived.Test.YtdhakbghdcfncaaGreatDoorPa
namespace Go.Proofs.YtdhakbghdcfncaaGreatDoor
set_option maxRecDepth 100000
set_option maxHeartbeats 400000
set_option linter.unusedVariables false
set_option linter.unusedSimpArgs false
open Go.RowKit

theorem read_is (s:ByteArray) (a n e y:Int) (w:World) (hs:s.size≤maxLen) (h1:-9223372036854775808≤a) (h2:a≤9223372036854775807) (h:Nm.readNum s.data.toList a=(n,e,y)):
  Calls Tryz.prog 90 #[.string s,.int .i64 a] w fun x w'=>x=.returned (.tuple #[.int .i64 n,.int .i64 e,.int .i64 y])∧w=w':=by
 have:=read_any s a w hs h1 h2;rw [h] at this;exact this
def optV (x:Option Int):Value:=.tuple #[.int .i64 (x.getD 0),.bool x.isSome]

theorem all_any (s:ByteArray) (w:World) (hs:s.size≤maxLen):
  Calls Tryz.prog 101 #[.string s] w fun e w'=>e=.returned (optV (Nm.allNum s.data.toList))∧Fr w w':=by
 have hsm:=Lib.hid hs
 unfold maxLen at hs
 obtain ⟨n,E,y,hr⟩:∃ n E y,Nm.readNum s.data.toList 0=(n,E,y):=⟨_,_,_,rfl⟩
 have hb:=Nm.readNum_bounds s.data.toList 0
 have hd:Hid (Nm.allNum s.data.toList=if y=0∧E=s.data.toList.length∧Nm.put n=s.data.toList then some n else none):=by
  show _=_
  unfold Nm.allNum;rw [hr]
 rw [hr] at hb
 obtain ⟨hb1,hb2⟩:-9007199254740991≤n∧n≤9007199254740991:=hb
 have HR:=Lib.hid hr
 clear hr
 have hl:s.data.toList.length=s.size:=by simp
 by_cases hy:y=0
 ·subst hy
  by_cases hE:E=s.data.toList.length
  ·have hE2:(E != (s.size:Int))=false:=by rw [hE,hl];simp
   by_cases hp:Nm.put n=s.data.toList
   ·have hp2:(Nm.put n == s.toList)=true:=by rw [ByteArray.toList_eq,hp];simp
    have HD:Hid (Nm.allNum s.data.toList=some n):=by show _=_;rw [hd.out,if_pos ⟨rfl,hE,hp⟩]
    clear hd hp hE hl
    go_enter Tryz.func101,Tryz.ntmps101
    go_wp2_with (first | (go_at_call 90;refine (read_is s 0 n E 0 _ hsm.out (by omega) (by omega) HR.out).mono ?_;rintro e w' ⟨rfl,rfl⟩) | (go_at_call 114;refine (put_any n _ (by omega) (by omega)).mono ?_;rintro e w1 ⟨rfl,hw1⟩))
    go_ret2
    exact ⟨by rw [HD.out];rfl,hw1⟩
   ·have hp2:(Nm.put n == s.toList)=false:=by rw [ByteArray.toList_eq,beq_eq_false_iff_ne];exact hp
    have HD:Hid (Nm.allNum s.data.toList=none):=by show _=_;rw [hd.out,if_neg (fun h=>hp h.2.2)]
    clear hd hp hE hl
    go_enter Tryz.func101,Tryz.ntmps101
    go_wp2_with (first | (go_at_call 90;refine (read_is s 0 n E 0 _ hsm.out (by omega) (by omega) HR.out).mono ?_;rintro e w' ⟨rfl,rfl⟩) | (go_at_call 114;refine (put_any n _ (by omega) (by omega)).mono ?_;rintro e w1 ⟨rfl,hw1⟩))
    go_ret2
    exact ⟨by rw [HD.out];rfl,hw1⟩
  ·have hE2:(E != (s.size:Int))=true:=by rw [bne_iff_ne,← hl];exact hE
   have HD:Hid (Nm.allNum s.data.toList=none):=by show _=_;rw [hd.out,if_neg (fun h=>hE h.2.1)]
   clear hd hE hl
   go_enter Tryz.func101,Tryz.ntmps101
   go_wp2_with (go_at_call 90;refine (read_is s 0 n E 0 _ hsm.out (by omega) (by omega) HR.out).mono ?_;rintro e w' ⟨rfl,rfl⟩)
   go_ret2
   exact ⟨by rw [HD.out];rfl,Fr.refl _⟩
 ·have hy2:(y != 0)=true:=by rw [bne_iff_ne];exact hy
  have HD:Hid (Nm.allNum s.data.toList=none):=by show _=_;rw [hd.out,if_neg (fun h=>hy h.1)]
  clear hd hy hl
  go_enter Tryz.func101,Tryz.ntmps101
  go_wp2_with (go_at_call 90;refine (read_is s 0 n E y _ hsm.out (by omega) (by omega) HR.out).mono ?_;rintro e w' ⟨rfl,rfl⟩)
  go_ret2
  exact ⟨by rw [HD.out];rfl,Fr.refl _⟩

theorem all_some (s:ByteArray) (n:Int) (w:World) (hs:s.size≤maxLen) (h:Nm.allNum s.data.toList=some n):
  Calls Tryz.prog 101 #[.string s] w fun e w'=>e=.returned (.tuple #[.int .i64 n,.bool true])∧Fr w w':=by
 have:=all_any s w hs;rw [h] at this;exact this
theorem all_none (s:ByteArray) (w:World) (hs:s.size≤maxLen) (h:Nm.allNum s.data.toList=none):
  Calls Tryz.prog 101 #[.string s] w fun e w'=>e=.returned (.tuple #[.int .i64 0,.bool false])∧Fr w w':=by
 have:=all_any s w hs;rw [h] at this;exact this

def putFuel:Nat→Nat→List UInt8
 | 0,_=>[]
 | k+1,n=>if n<10 then [UInt8.ofNat (48+n)] else putFuel k (n / 10)++[UInt8.ofNat (48+n % 10)]
end Go.Proofs.YtdhakbghdcfncaaGreatDoor
