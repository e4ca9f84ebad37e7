/- Plain mathematics of pointers: no program in sight. -/
import Derived.Test.YtockgemmkjdnkaaGreatDoorPa
import Derived.Lib.SplitLaws
import Derived.Test.YtockgemmkjdnkaaGreatDoorPb
import Derived.Test.YtockgemmkjdnkaaGreatDoorKa
import Derived.Test.YtockgemmkjdnkaaGreatDoorShelf
import Derived.Laws.IdiomStrings
set_option maxRecDepth 100000
set_option linter.unusedVariables false
set_option linter.unusedSimpArgs false
namespace Go.Proofs.YtockgemmkjdnkaaGreatDoor.Pt
open JV

def plain:List UInt8->Option (List UInt8)
 | []=>some []
 | [c]=>if c=126 then none else some [c]
 | c::d::r=>if c=126 then (if d=48 then (plain r).map (126 :: ·) else if d=49 then (plain r).map (47 :: ·) else none) else (plain (d::r)).map (c :: ·)
def esc:List UInt8->List UInt8
 | []=>[]
 | c::r=>(if c=126 then [126,48] else if c=47 then [126,49] else [c])++esc r
def cut:List UInt8->List (List UInt8)
 | []=>[[]]
 | c::r=>if c=47 then []::cut r else match cut r with
  | []=>[[c]]
  | h::t=>(c::h)::t
def allP:List (List UInt8)->Option (List (List UInt8))
 | []=>some []
 | s::l=>(plain s).bind λp=>(allP l).map (p :: ·)
def parts:List UInt8->Option (List (List UInt8))
 | []=>some []
 | c::r=>if c=47 then allP (cut r) else none
def text:List (List UInt8)->List UInt8
 | []=>[]
 | p::ps=>47::(esc p++text ps)

def go (acc:List (List UInt8)) (cur:List UInt8):List UInt8->Option (List (List UInt8))
 | []=>some (acc++[cur])
 | [c]=>if c=47 then some (acc++[cur]++[[]]) else if c=126 then none else some (acc++[cur++[c]])
 | c::d::r=>if c=47 then go (acc++[cur]) [] (d::r) else if c=126 then (if d=48 then go acc (cur++[126]) r else if d=49 then go acc (cur++[47]) r else none) else go acc (cur++[c]) (d::r)
def join (acc:List (List UInt8)) (cur:List UInt8):List (List UInt8)->Option (List (List UInt8))
 | []=>none
 | h::t=>(plain h).bind λp=>(allP t).map λq=>acc++(cur++p)::q
end Go.Proofs.YtockgemmkjdnkaaGreatDoor.Pt
/- Plain mathematics of pointers: what they lead to. -/
namespace Go.Proofs.YtockgemmkjdnkaaGreatDoor.Pt
open JV

def getM:List (List UInt8 × JV)->List UInt8->Option JV
 | [],_=>none
 | p::m,s=>if p.1=s then some p.2 else getM m s
def get (v:JV) (s:List UInt8):Option JV:=if v.kd=6 then getM v.ms s else none
def num (s:List UInt8) (L:Nat):Option Nat:=match Nm.allNum s with
 | some n=>if 0<=n/\n<(L:Nat) then some n.toNat else none
 | none=>none
def step (v:JV) (s:List UInt8):Option JV:=if v.kd=5 then (match num s v.ls.length with | some i=>v.ls[i]? | none=>none) else get v s
def flat (y:JV):List JV:=if y.kd=5 then y.ls else [y]
def gather (f:JV->Option JV):List JV->Option (List JV)
 | []=>some []
 | x::l=>(f x).bind λy=>(gather f l).map (flat y ++ ·)
def find (st:Bool):List (List UInt8)->JV->Option JV
 | [],v=>some v
 | p::ps,v=>if st=true/\p=[42]/\v.kd=5 then (gather (find st ps) v.ls).map listV else (step v p).bind (find st ps)
theorem getM_mem:∀ {m:List (List UInt8 × JV)} {s:List UInt8} {x:JV},getM m s=some x->(s,x)∈m
 | [],s,x,h=>by cases h
 | p::m,s,x,h=>by
  unfold getM at h;split at h
  ·rename_i hp;subst hp;obtain rfl:=Option.some.inj h;exact List.mem_cons_self
  ·exact List.mem_cons_of_mem _ (getM_mem h)
theorem nvM_mem {p:List UInt8 × JV}:∀ {m:List (List UInt8 × JV)},p∈m->Rd.nv p.2<=Rd.nvM m
 | [],h=>by cases h
 | y::l,h=>by
  rw [Rd.nvM_cons];rcases List.mem_cons.1 h with rfl | h
  ·omega
  ·have:=nvM_mem h;omega
theorem nv_eq (v:JV):Rd.nv v=1+Rd.nvL v.ls+Rd.nvM v.ms:=by cases v;exact Rd.nv_mk _ _ _ _ _
theorem nvL_len:∀ l:List JV,l.length<=Rd.nvL l
 | []=>by simp
 | v::l=>by rw [Rd.nvL_cons,List.length_cons];have:=nvL_len l;have:=Rd.nv_pos v;omega
end Go.Proofs.YtockgemmkjdnkaaGreatDoor.Pt
/- Plain: where no part holds a star, both lead to the same. -/
namespace Go.Proofs.YtockgemmkjdnkaaGreatDoor.Pt

end Go.Proofs.YtockgemmkjdnkaaGreatDoor.Pt
/- The walk of point.plain. -/
namespace Go.Proofs.YtockgemmkjdnkaaGreatDoor
open Go.RowKit

structure PlI (s:ByteArray) (R:Option (List UInt8)) (k:Nat) (l:List UInt8):Prop where
 eq:R=(Pt.plain (s.data.toList.drop k)).map (l ++ ·)
 len:l.length<=k
def PlP (w:World):Option (List UInt8)->Ending->World->Prop
 | none,e,w'=>e=.returned (.tuple #[.string ⟨#[]⟩,.bool false])/\Fr w w'
 | some t,e,w'=>e=.returned (.tuple #[.string ⟨t.toArray⟩,.bool true])/\Fr w w'

/- The walk of point.Parts. -/

theorem el_st:El 22 9 (.string ByteArray.empty) 16:=⟨Tryz.underlying22,by kernel_rfl,rfl⟩
def svs (l:List (List UInt8)):List Value:=l.map λs=>.string ⟨s.toArray⟩
theorem svs_len (l:List (List UInt8)):(svs l).length=l.length:=by simp [svs]
theorem svs_app (a b:List (List UInt8)):svs (a++b)=svs a++svs b:=by simp [svs]
theorem svs_one (l:List (List UInt8)):∀ u∈svs l,u.oneCell'=true:=by
 intro u hu;simp only [svs,List.mem_map] at hu;obtain ⟨c,_,rfl⟩:=hu;rfl
def Ssl (w:World) (base:Nat) (v:Value) (l:List (List UInt8)):Prop:=Row w base 9 v (svs l)
theorem Ssl.none_ (w:World) (base:Nat):Ssl w base (.slice none 0 0) []:=Row.none_ w base _
theorem Ssl.keep {w w':World} {base:Nat} {v:Value} {l:List (List UInt8)} (h:Ssl w base v l) (hf:Fr w w'):Ssl w' base v l:=Row.keep h hf
def PsC (w:World) (A:Option Addr) (l:List (List UInt8)):Prop:=l≠[] -> ∃ b o,A=some ⟨b,o,none⟩/\b<w.heap.size /\ ∀ i (h:i<l.length),w.cell? ⟨b,o+i,none⟩=some (.string ⟨l[i].toArray⟩)
theorem PsC.keep {w w':World} {A:Option Addr} {l:List (List UInt8)} (h:PsC w A l) (hf:Fr w w'):PsC w' A l:=by
 intro hne;obtain ⟨b,o,hA,hb,hc⟩:=h hne;exact ⟨b,o,hA,lL hb hf.size,λi hi=>(hf.cell hb).trans (hc i hi)⟩
theorem Ssl.shows {w:World} {base:Nat} {v:Value} {l:List (List UInt8)} (h:Ssl w base v l):∃ A c,v=.slice A l.length c/\PsC w A l:=by
 rcases Row.form h with ⟨rfl,he⟩ | ⟨g,cap,rfl,hb,hlt,_,_,hcells⟩
 ·have:l=[]:=by simpa [svs] using he
  subst this;exact ⟨none,0,rfl,λh=>absurd rfl h⟩
 ·refine ⟨some ⟨g,0,none⟩,cap,by rw [svs_len],λ_=>⟨g,0,rfl,hlt,λi hi=>?_⟩⟩;have:=hcells i (.string ⟨l[i].toArray⟩) (by simp [svs,List.getElem?_eq_getElem hi]);rw [Nat.zero_add];exact this

def MxL (w:World):Prop:=∃ m:Int,w.cell? ⟨1,0,none⟩=some (.int .i64 m)
namespace Pt
end Pt
structure PsI (qs:List (List UInt8)) (R:Option (List (List UInt8))) (i:Nat) (acc:List (List UInt8)):Prop where
 eq:R=(Pt.allP (qs.drop i)).map (acc ++ ·)
 len:acc.length=i
def PtsP (w:World):Option (List (List UInt8))->Ending->World->Prop
 | none,e,w'=>e=.returned (.tuple #[.slice none 0 0,.int .i64 80])/\Fr w w'
 | some ps,e,w'=>∃ v,e=.returned (.tuple #[v,.int .i64 0])/\Ssl w' w.heap.size v ps/\Fr w w'

/- The walk of point.Text. -/

def Aside (W wr:World) (X:Nat) (v:Value):Prop:=wr.heap[X]? = W.heap[X]? /\ v.ownBlock≠some X/\X<W.heap.size/\W.heap.size<=wr.heap.size
/- The walks of the document's Parts, Text, SameParts. -/

theorem bl_beq' (a b:List UInt8):((⟨a.toArray⟩:ByteArray).toList == (⟨b.toArray⟩:ByteArray).toList)=decide (a=b):=by
 rw [ByteArray.toList_eq,ByteArray.toList_eq,Bool.eq_iff_iff];simp

structure RpI (s:ByteArray) (R:Option (List (List UInt8))) (k:Nat) (acc:List (List UInt8)) (cur:List UInt8):Prop where
 eq:(k=0/\acc=[]/\cur=[]/\R=Pt.go [] [] (s.data.toList.drop 1))\/(1<=k/\R=Pt.go acc cur (s.data.toList.drop k))
 l1:acc.length<=k
 l2:cur.length<=k
end Go.Proofs.YtockgemmkjdnkaaGreatDoor
