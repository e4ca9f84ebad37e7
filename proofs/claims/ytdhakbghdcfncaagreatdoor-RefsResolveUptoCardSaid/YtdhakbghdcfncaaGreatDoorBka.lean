/- Plain: texts that rise; what is sorted and made compact is what is put in one by one. -/
import Derived.Test.YtdhakbghdcfncaaGreatDoorKa
import Derived.Lib.SlicesCompact
import Derived.Test.YtdhakbghdcfncaaGreatDoorTra
namespace Go.Proofs.YtdhakbghdcfncaaGreatDoor
set_option maxRecDepth 100000
set_option linter.unusedVariables false
set_option linter.unusedSimpArgs false
open Go.RowKit

namespace Srt
abbrev Tx:=List UInt8
def Rises (l:List Tx):Prop:=l.Pairwise (· < ·)
def put (l:List Tx) (s:Tx):List Tx:=l.filter (fun x=>decide (x<s))++[s]++l.filter (fun x=>decide (s<x))
def puts (l:List Tx):List Tx:=l.foldl put []
end Srt
/- Chapter 15, plain: what keeps an address book from being right; its whole form. -/

namespace Bk
open Pt Srt
def nDesc:List UInt8:=[100,101,115,99,114,105,112,116,105,111,110]
def nSub:List UInt8:=[105,115,83,117,98,115,99,114,105,98,101,100]
def nName:List UInt8:=[110,97,109,101]
def nSort:List UInt8:=[115,111,114,116,79,114,100,101,114]
def may (s:List UInt8) (x:JV):Bool:=
 if s=nDesc then x.kd == 1 || (x.kd == 4 && decide (x.tx.length≤1024))
 else if s=nSub then x.kd == 2
 else if s=nName then x.kd == 4 && (decide (1≤x.tx.length) && decide (x.tx.length≤255))
 else if s=nSort then x.kd == 3 && (decide (0≤x.nm) && decide (x.nm≤2147483647))
 else false
def badM (m:List (List UInt8 × JV)):List (List UInt8):=(m.filter fun p=>!may p.1 p.2).map (·.1)
def names (v:JV):List (List UInt8):=(if v.kd=6 then badM v.ms else [])++(if (Pt.get v nName).isSome then [] else [nName])
def wrong (v:JV):List (List UInt8):=puts (names v)
def usual (s:List UInt8):JV:=if s=nSub then .mk 2 1 [] [] [] else if s=nSort then .mk 3 0 [] [] [] else .mk 1 0 [] [] []
def val (v:JV) (s:List UInt8):JV:=(Pt.get v s).getD (usual s)
def wholeM (v:JV):List (List UInt8 × JV):=[(nDesc,val v nDesc),(nSub,val v nSub),(nName,val v nName),(nSort,val v nSort)]
def whole (v:JV):JV:=if wrong v=[] then JV.mapV (wholeM v) else JV.zeroV

def woM (m:List (List UInt8 × JV)) (s:List UInt8):List (List UInt8 × JV):=m.filter fun p=>decide (p.1≠s)
end Bk
end Go.Proofs.YtdhakbghdcfncaaGreatDoor
