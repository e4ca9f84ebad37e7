/- Chapter 24: RefsResolve, its two halves joined. -/
import Derived.Test.YtdhakbghdcfncaaGreatDoorRfY
import Derived.Test.YtdhakbghdcfncaaGreatDoorRfq
namespace Go.Proofs.YtdhakbghdcfncaaGreatDoor
set_option maxRecDepth 100000
set_option linter.unusedVariables false
set_option linter.unusedSimpArgs false
open Go.RowKit

theorem cs_cap {H:Type} {enc:TypeId × Value→H} {W:World} {A:Option Addr} {n c:Nat} {d:DataW H} {p:List MemPlace} (h:DataW.Trod enc Tryz.prog W 0 (fun _=>true) true 36 (.slice A n c) d p):n≤c:=by
 obtain ⟨fuel,hf⟩:=h
 have hf:DataW.trod enc Tryz.prog W 0 (fun _=>true) true fuel 36 [.slice A n c]=some (d,p):=by simpa [Value.cells] using hf
 rcases Go.Deep.open_slice Tryz.underlying36 hf with ⟨h0,_⟩ | ⟨a,len,cap,m',n',D,Pl,hcs,_,hl,_⟩
 ·simp only [List.cons.injEq,Value.slice.injEq,and_true] at h0
  omega
 ·simp only [List.cons.injEq,Value.slice.injEq,and_true] at hcs
  omega
theorem refsresolve_law (v:JV) (B:Option Addr) (d:Nat) (B':Option Addr) (d':Nat) (l:List CallV) (A:Option Addr) (c:Nat) (n:Int) (h0:0≤n) (h255:n≤255) (PB NB:ByteArray) (hnb:NB.data.toList.length≤1048576) (w:World) (hv:InV w (Lo w.heap.size) v (vA v B d B' d')) (hbv:JV.bulk v≤1048576) (hcs:CsR w A l) (hbc:Pt.bulkC l≤1048576) (hT:LowTabs w) (hS:SpTab w) (hM:MxL w) (hlc:l.length≤c):
  Calls Tryz.prog 6 #[vA v B d B' d',.slice A l.length c,.int .u8 n,.string PB,.string NB] w fun e w'=>e=.returned (.bool true)∧Fr w w':=by
 obtain ⟨m,rfl⟩:=Int.eq_ofNat_of_zero_le h0
 obtain ⟨hl,hn⟩:=rfcalls hbc
 obtain ⟨ck,cq,hck⟩:∃ a b,JV.chk v 1 0=(a,b):=⟨_,_,rfl⟩
 by_cases h1:ck=0
 ·by_cases h2:100<PB.size
  ·exact refres_bad v B d B' d' l A c m PB NB w hv hbv hcs hl hn hT hS hM ck cq hck (.inr (.inl ⟨h1,h2⟩))
  ·by_cases h3:l.length=0
   ·exact refres_bad v B d B' d' l A c m PB NB w hv hbv hcs hl hn hT hS hM ck cq hck (.inr (.inr ⟨h1,by omega,h3⟩))
   ·subst h1
    obtain ⟨pt,rfl⟩:∃ s:List UInt8,PB=⟨s.toArray⟩:=⟨PB.data.toList,by cases PB;simp⟩
    obtain ⟨nm,rfl⟩:∃ s:List UInt8,NB=⟨s.toArray⟩:=⟨NB.data.toList,by cases NB;simp⟩
    rw [ba_size] at h2
    exact refres_good v B d B' d' l A c m (by omega) pt nm w hv hbv hcs hl (fun q hq=>by have:=Pt.bulkC_mem hq;exact ⟨by omega,by omega,by omega,by omega⟩) hT hS hM cq hck (by omega) (by simpa using hnb) (by omega) hlc
 ·exact refres_bad v B d B' d' l A c m PB NB w hv hbv hcs hl hn hT hS hM ck cq hck (.inl h1)
end Go.Proofs.YtdhakbghdcfncaaGreatDoor
