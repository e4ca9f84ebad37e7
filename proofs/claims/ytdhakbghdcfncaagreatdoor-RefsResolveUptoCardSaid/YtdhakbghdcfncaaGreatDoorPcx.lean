/- tree.Without: slices.DeleteFunc at members. -/
import Derived.Test.YtdhakbghdcfncaaGreatDoorCpa
import Derived.Test.YtdhakbghdcfncaaGreatDoorBka
import Derived.Laws.IdiomCopy
import Derived.Test.YtdhakbghdcfncaaGreatDoorTra
namespace Go.Proofs.YtdhakbghdcfncaaGreatDoor
set_option maxRecDepth 100000
set_option maxHeartbeats 2000000
set_option linter.unusedVariables false
set_option linter.unusedSimpArgs false
open Go.RowKit

def MemC (W:World) (g o:Nat) (p:List UInt8 × JV) (O:Nat→Prop):Prop:=∃ C f C' f',p.1.length≤140737488355328∧W.cell? ⟨g,o,none⟩=some (.string ⟨p.1.toArray⟩)∧VC W g (o+1) p.2 C f C' f'∧InV W O p.2 (vA p.2 C f C' f')
def st6g (w:World) (g o:Nat) (u0 u1 u2 u3 u4 u5:Value):World:=(((((w.setCell ⟨g,o,none⟩ u0).setCell ⟨g,o+1,none⟩ u1).setCell ⟨g,o+2,none⟩ u2).setCell ⟨g,o+3,none⟩ u3).setCell ⟨g,o+4,none⟩ u4).setCell ⟨g,o+5,none⟩ u5
structure DfI (W:World) (g:Nat) (m kp:List (List UInt8 × JV)) (O:Nat→Prop) (i:Nat):Prop where
 blk:∃ cur,Blk W g cur 39∧m.length*6≤cur.size
 kept:∀ k (h:k<kp.length),MemC W g (k*6) kp[k] O
 rest:∀ k (h:k<m.length),i≤k→MemC W g (k*6) m[k] O
def z6:List Value:=[.string ⟨#[]⟩,.int .i64 0,.int .i64 0,.string ⟨#[]⟩,.slice none 0 0,.slice none 0 0]
def zs6:Nat→List Value
 | 0=>[]
 | n+1=>z6++zs6 n
theorem boxz2 {w:World} {o1 o2:Obj} {cs:Array Value} {T:TypeId} (h:Blk (((w.alloc o1).alloc o2).alloc (.cells cs T)) ((w.alloc o1).alloc o2).heap.size cs T):Blk (((w.alloc o1).alloc o2).alloc (.cells cs T)) (w.heap.size+1+1) cs T:=by
 have e:((w.alloc o1).alloc o2).heap.size=w.heap.size+1+1:=(show ((w.alloc o1).alloc o2).heap.size=(w.alloc o1).heap.size+1 from Array.size_push _).trans (congrArg (· + 1) (show (w.alloc o1).heap.size=w.heap.size+1 from Array.size_push _))
 rwa [e] at h
/- Slices of members whose contents lie in S; tree.With and the document's With over a set S. -/

def MgS (w:World) (S:Nat→Prop) (K:Nat) (v:Value) (m:List (List UInt8 × JV)):Prop:=((∀ b,S b→b<K)∧K≤w.heap.size) ∧ ∃ xs:List (List UInt8 × Value),Mbs w K v xs∧xs.length=m.length ∧ ∀ i (h1:i<xs.length) (h2:i<m.length),xs[i].1=m[i].1∧m[i].1.length≤140737488355328∧InV w (S) m[i].2 xs[i].2
def NeS (S:Nat→Prop) (w w':World):Nat→Prop:=fun b=>S b∨(w.heap.size≤b∧b<w'.heap.size)
structure GS (S:Nat→Prop) (W0 wr:World) (v:Value) (acc:List (List UInt8 × JV)):Prop where
 vs:MgS wr S (W0.heap.size+1) v acc
 bx:Blk wr W0.heap.size #[.int .i64 6,.int .i64 0,.string ⟨#[]⟩,.slice none 0 0,v] 25
 fr:Fr W0 wr
/- tree.Get, tree.Without, told of a set of blocks. -/

def OpS (B:Nat→Prop) (w:World):Option JV→Ending→World→Prop
 | none,e,w'=>e=.returned (.tuple #[.agg #[.int .i64 0,.int .i64 0,.string ⟨#[]⟩,.slice none 0 0,.slice none 0 0],.bool false])∧Fr w w'
 | some y,e,w'=>∃ (C:Option Addr) (f:Nat) (C':Option Addr) (f':Nat),e=.returned (.tuple #[.agg #[.int .i64 y.kd,.int .i64 y.nm,.string ⟨y.tx.toArray⟩,.slice C y.ls.length f,.slice C' y.ms.length f'],.bool true])∧InV w' B y (vA y C f C' f')∧Fr w w'

end Go.Proofs.YtdhakbghdcfncaaGreatDoor
