/- Plain mathematics of ids and states: no program in sight. -/
import Derived.Test.YtdhakbghdcfncaaGreatDoorPa
import Derived.Test.YtdhakbghdcfncaaGreatDoorKa
namespace Go.Proofs.YtdhakbghdcfncaaGreatDoor.Idn
set_option maxRecDepth 100000
set_option maxHeartbeats 1000000
set_option linter.unusedVariables false
set_option linter.unusedSimpArgs false
open Nm

def okc (c:UInt8):Bool:=(decide (97≤c.toNat) && decide (c.toNat≤122)) || (decide (65≤c.toNat) && decide (c.toNat≤90)) || (decide (48≤c.toNat) && decide (c.toNat≤57)) || decide (c.toNat=45) || decide (c.toNat=95)
theorem okc_true {c:UInt8} (h:okc c=true):(97≤c.toNat∧c.toNat≤122)∨(65≤c.toNat∧c.toNat≤90)∨(48≤c.toNat∧c.toNat≤57)∨c.toNat=45∨c.toNat=95:=by
 simp [okc] at h;omega
theorem okc_false {c:UInt8} (h:okc c=false):c.toNat<45∨(45<c.toNat∧c.toNat<48)∨(57<c.toNat∧c.toNat<65)∨(90<c.toNat∧c.toNat<95)∨c.toNat=96∨122<c.toNat:=by
 simp [okc] at h;omega
def isId (l:List UInt8):Bool:=decide (1≤l.length) && decide (l.length≤255) && l.all okc

def d32 (n:Nat):UInt8:=if n<10 then UInt8.ofNat (48+n) else UInt8.ofNat (87+n)
def v32 (c:UInt8):Option Nat:=if 48≤c.toNat∧c.toNat≤57 then some (c.toNat - 48) else if 97≤c.toNat∧c.toNat≤118 then some (c.toNat - 87) else none
def dig:Nat→Nat→List UInt8
 | 0,_=>[]
 | k+1,n=>dig k (n / 32)++[d32 (n % 32)]
def valD:Nat→List UInt8→Option Nat
 | n,[]=>some n
 | n,c::l=>match v32 c with | none=>none | some d=>valD (n*32+d) l
def may (kind n:Int):Bool:=(decide (kind=1) || decide (kind=2)) && decide (0≤n) && decide (n≤9007199254740991)
def letter (kind:Int):UInt8:=if kind=1 then 67 else 66
def small (kind:Int):UInt8:=if kind=1 then 99 else 98
def makeId (kind n:Int):List UInt8:=if may kind n then letter kind::dig 11 n.toNat else []
def state (kind n:Int):List UInt8:=if may kind n then small kind::put n else []

def numberOf (l:List UInt8):Option (Int × Int):=
 match l with
 | []=>none
 | c::t=>if t.length=11 then (match valD 0 t with
   | none=>none
   | some n=>if n≤9007199254740991 then (if c=67 then some (1,n) else if c=66 then some (2,n) else none) else none) else none

end Go.Proofs.YtdhakbghdcfncaaGreatDoor.Idn
/- Walks of ident's small functions: Is, letter, may, and the reference's Is and digit. -/
namespace Go.Proofs.YtdhakbghdcfncaaGreatDoor
set_option linter.unusedVariables false
set_option linter.unusedSimpArgs false
open Go.RowKit

theorem okc_cases (c:UInt8):(Idn.okc c=true∧((97≤(c.toNat:Int)∧(c.toNat:Int)≤122)∨(65≤(c.toNat:Int)∧(c.toNat:Int)≤90)∨(48≤(c.toNat:Int)∧(c.toNat:Int)≤57)∨(c.toNat:Int)=45∨(c.toNat:Int)=95))
  ∨ (Idn.okc c=false∧((c.toNat:Int)<45∨(45<(c.toNat:Int)∧(c.toNat:Int)<48)∨(57<(c.toNat:Int)∧(c.toNat:Int)<65)∨(90<(c.toNat:Int)∧(c.toNat:Int)<95)∨(c.toNat:Int)=96∨122<(c.toNat:Int))):=by
 cases h:Idn.okc c
 ·right;refine ⟨rfl,?_⟩;have:=Idn.okc_false h;omega
 ·left;refine ⟨rfl,?_⟩;have:=Idn.okc_true h;omega

theorem all_drop (l:List UInt8) (k:Nat) (h:k<l.length):(l.drop k).all Idn.okc=(Idn.okc l[k] && (l.drop (k+1)).all Idn.okc):=by
 rw [Nm.drop_cons l k h,List.all_cons]

theorem is_id_any (s:ByteArray) (w:World) (hs:s.size≤maxLen):
  Calls Tryz.prog 54 #[.string s] w fun e w'=>e=.returned (.bool (Idn.isId s.data.toList))∧w=w':=by
 unfold maxLen at hs
 have hl:s.data.toList.length=s.size:=by simp
 by_cases h1:s.size<1
 ·have hr:Hid (Idn.isId s.data.toList=false):=by show _=_;simp [Idn.isId,hl];omega
  clear hl
  go_enter Tryz.func54,Tryz.ntmps54
  go_wp2
  go_ret
  exact ⟨by rw [hr.out];rfl,rfl⟩
 ·by_cases h2:255<s.size
  ·have hr:Hid (Idn.isId s.data.toList=false):=by show _=_;simp [Idn.isId,hl];omega
   clear hl
   go_enter Tryz.func54,Tryz.ntmps54
   go_wp2
   go_ret
   exact ⟨by rw [hr.out];rfl,rfl⟩
  ·have hr:Hid (Idn.isId s.data.toList=(s.data.toList.drop 0).all Idn.okc):=by
    show _=_
    rw [List.drop_zero]
    unfold Idn.isId
    rw [hl,decide_eq_true (by omega:1≤s.size),decide_eq_true (by omega:s.size≤255)]
    rfl
   clear hl
   have h1':1≤s.size:=by omega
   have h2':s.size≤255:=by omega
   have hd1:decide ((s.size:Int)<1)=false:=decide_eq_false (by omega)
   have hd2:decide ((255:Int)<(s.size:Int))=false:=decide_eq_false (by omega)
   clear h1 h2
   go_enter Tryz.func54,Tryz.ntmps54
   go_wp2
   go_loop [15] (fun i=>∃ k:Nat,k≤s.size∧i=.int .i64 k∧Hid ((s.data.toList.drop 0).all Idn.okc=(s.data.toList.drop k).all Idn.okc)) (fun i=>s.size - (intOf i).toNat)
   case atStart=>exact ⟨0,by omega,rfl,rfl⟩
   case round=>
    obtain ⟨k,hk,rfl,he⟩:=hrel
    by_cases hlt:k<s.size
    ·obtain ⟨c,hc⟩:∃ c,s[k]=c:=⟨_,rfl⟩
     have hda:Hid ((s.data.toList.drop k).all Idn.okc=(Idn.okc c && (s.data.toList.drop (k+1)).all Idn.okc)):=by
      show _=_
      rw [all_drop _ k (by simpa using hlt),← hc];rfl
     rcases okc_cases c with ⟨ho,hcs⟩ | ⟨ho,hcs⟩
     ·have hn:Hid ((s.data.toList.drop 0).all Idn.okc=(s.data.toList.drop (k+1)).all Idn.okc):=by show _=_;rw [he.out,hda.out,ho];rfl
      clear ho hda he
      rcases hcs with ⟨h1,h2⟩ | ⟨h1,h2⟩ | ⟨h1,h2⟩ | h1 | h1
      ·go_wp2
       exact ⟨⟨k+1,by omega,by go_num,hn⟩,by simp [intOf];omega⟩
      ·go_wp2
       exact ⟨⟨k+1,by omega,by go_num,hn⟩,by simp [intOf];omega⟩
      ·go_wp2
       exact ⟨⟨k+1,by omega,by go_num,hn⟩,by simp [intOf];omega⟩
      ·have hx:((c.toNat:Int) == 45)=true:=by rw [beq_iff_eq];exact h1
       have ha:(c.toNat:Int)<48:=by omega
       clear h1
       go_wp2
       exact ⟨⟨k+1,by omega,by go_num,hn⟩,by simp [intOf];omega⟩
      ·have hx:((c.toNat:Int) == 95)=true:=by rw [beq_iff_eq];exact h1
       have hx2:((c.toNat:Int) == 45)=false:=by rw [beq_eq_false_iff_ne];omega
       have ha:(90:Int)<c.toNat:=by omega
       have hb:(c.toNat:Int)<97:=by omega
       clear h1
       go_wp2
       exact ⟨⟨k+1,by omega,by go_num,hn⟩,by simp [intOf];omega⟩
     ·have hn:Hid (Idn.isId s.data.toList=false):=by show _=_;rw [hr.out,he.out,hda.out,ho];rfl
      have hx:((c.toNat:Int) == 45)=false:=by rw [beq_eq_false_iff_ne];omega
      have hx2:((c.toNat:Int) == 95)=false:=by rw [beq_eq_false_iff_ne];omega
      clear ho hda he
      rcases hcs with h1 | ⟨h1,h2⟩ | ⟨h1,h2⟩ | ⟨h1,h2⟩ | h1 | h1
      ·skip
       go_wp2
       go_ret
       exact ⟨by rw [hn.out];rfl,rfl⟩
      ·skip
       go_wp2
       go_ret
       exact ⟨by rw [hn.out];rfl,rfl⟩
      ·skip
       have d57:decide ((c.toNat:Int)≤57)=false:=decide_eq_false (by omega)
       go_wp2
       go_ret
       exact ⟨by rw [hn.out];rfl,rfl⟩
      ·skip
       have d57:decide ((c.toNat:Int)≤57)=false:=decide_eq_false (by omega)
       have d90:decide ((c.toNat:Int)≤90)=false:=decide_eq_false (by omega)
       go_wp2
       go_ret
       exact ⟨by rw [hn.out];rfl,rfl⟩
      ·have ha:(90:Int)<c.toNat:=by omega
       have hb:(c.toNat:Int)<97:=by omega
       have d57:decide ((c.toNat:Int)≤57)=false:=decide_eq_false (by omega)
       have d90:decide ((c.toNat:Int)≤90)=false:=decide_eq_false (by omega)
       clear h1
       go_wp2
       go_ret
       exact ⟨by rw [hn.out];rfl,rfl⟩
      ·skip
       have d57:decide ((c.toNat:Int)≤57)=false:=decide_eq_false (by omega)
       have d90:decide ((c.toNat:Int)≤90)=false:=decide_eq_false (by omega)
       have d122:decide ((c.toNat:Int)≤122)=false:=decide_eq_false (by omega)
       go_wp2
       go_ret
       exact ⟨by rw [hn.out];rfl,rfl⟩
    ·have hn:Hid (Idn.isId s.data.toList=true):=by show _=_;rw [hr.out,he.out,List.drop_of_length_le (by simp;omega)];rfl
     go_wp2
     go_ret
     exact ⟨by rw [hn.out];rfl,rfl⟩

/- Walks: the reference's Is and digit; letter, may. -/

def lett (kind:Int):Int:=if kind=1 then 67 else if kind=2 then 66 else 0
def smal (kind:Int):Int:=if kind=1 then 99 else if kind=2 then 98 else 0

end Go.Proofs.YtdhakbghdcfncaaGreatDoor
