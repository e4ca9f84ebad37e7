/- Arguments that are slices of calls, of members: opened. -/
import Derived.Test.YtdhakbghdcfncaaGreatDoorOpenV
import Derived.Test.YtdhakbghdcfncaaGreatDoorRff
import Derived.Test.YtdhakbghdcfncaaGreatDoorRfm
import Derived.Deep.CutRange
import Derived.Test.YtdhakbghdcfncaaGreatDoorRow
namespace Go.Proofs.YtdhakbghdcfncaaGreatDoor
set_option maxRecDepth 100000
set_option maxRecDepth 100000
set_option maxHeartbeats 16000000
set_option linter.unusedVariables false
set_option linter.unusedSimpArgs false
open Go.ChangeShapes Go.WideShapes Go.Deep Go.RowKit

def Pt.bulkC:List CallV→Nat
 | []=>0
 | c::r=>3+c.1.1.length+JV.bulk c.1.2+c.2.length+Pt.bulkC r
theorem Pt.bulkC_app (a b:List CallV):Pt.bulkC (a++b)=Pt.bulkC a+Pt.bulkC b:=by
 induction a with
 | nil=>simp [Pt.bulkC]
 | cons d a ih=>simp only [List.cons_append,Pt.bulkC,ih];omega
theorem Pt.bulkC_len (l:List CallV):l.length≤Pt.bulkC l:=by
 induction l with
 | nil=>simp
 | cons q r ih=>simp only [Pt.bulkC,List.length_cons];omega
theorem Pt.bulkC_mem {q:CallV}:∀ {l:List CallV},q∈l→q.1.1.length+JV.bulk q.1.2+q.2.length≤Pt.bulkC l
 | [],h=>by cases h
 | e::l,h=>by
  rw [Pt.bulkC]
  rcases List.mem_cons.1 h with rfl | h
  ·omega
  ·have:=Pt.bulkC_mem h;omega
section
variable {H:Type} {enc:TypeId × Value→H} {W:World}
theorem pick_c {P:Nat→CallV→Prop} {D:Nat→DataW H}:∀ n,(∀ i,i<n → ∃ u,P i u∧Pt.bulkC [u]≤Rows.uptoBulk (D i)) →
  ∃ l:List CallV,l.length=n∧(∀ i (h:i<l.length),P i l[i])∧Pt.bulkC l≤Rows.uptoBulkAll ((List.range n).map D)
 | 0,_=>⟨[],rfl,fun i h=>absurd h (by simp),by simp [Pt.bulkC]⟩
 | n+1,h=>by
  obtain ⟨l,h1,h2,h3⟩:=pick_c n (fun i hi=>h i (by omega))
  obtain ⟨u,hu,hb⟩:=h n (by omega)
  refine ⟨l++[u],by simp [h1],fun i hi=>?_,?_⟩
  ·by_cases hil:i<l.length
   ·rw [List.getElem_append_left hil];exact h2 i hil
   ·have:i=l.length:=by simp at hi;omega
    subst this
    simp only [List.getElem_concat_length]
    rw [h1];exact hu
  ·rw [Pt.bulkC_app,List.range_succ,List.map_append,bulkAll_app]
   simp only [List.map_cons,List.map_nil,Rows.uptoBulkAll]
   omega
theorem five_of {S:Nat→Prop} {u:JV} {e0 e1 e2 e3 e4:Value} (h:InV W S u (.agg #[e0,e1,e2,e3,e4])):∃ C f C' f',e0=.int .i64 u.kd∧e1=.int .i64 u.nm∧e2=.string ⟨u.tx.toArray⟩∧e3=.slice C u.ls.length f∧e4=.slice C' u.ms.length f'∧InV W S u (vA u C f C' f'):=by
 obtain ⟨C,f,C',f',hX⟩:=h.shape
 obtain ⟨rfl,rfl,rfl,rfl,rfl⟩:=five hX
 exact ⟨C,f,C',f',rfl,rfl,rfl,rfl,rfl,h⟩
theorem open_cs_aux (fuel:Nat) (c4:Value) (y4:DataW H × List MemPlace) (hb:Rows.uptoBulk y4.1≤1048576) (g4:DataW.trod enc Tryz.prog W 0 (fun _=>true) true fuel 36 [c4]=some y4):
  ∃ A l c,c4=.slice A l.length c∧CsR W A l∧Pt.bulkC l≤Rows.uptoBulk y4.1:=by
 have o2:Tryz.prog.cellsOf 9=1:=by kernel_rfl
 have o5:Tryz.prog.cellsOf 25=5:=by kernel_rfl
 have o7:Tryz.prog.cellsOf 47=7:=by kernel_rfl
 rcases open_slice Tryz.underlying36 g4 with ⟨h0,rfl⟩ | ⟨a,len,cap,m',n',D,Pl,hcs,_,hl,hcap,hm',rfl,hi⟩
 ·exact ⟨none,[],0,by simpa using h0,fun i h=>absurd h (by simp),by simp [Pt.bulkC]⟩
 ·simp only [Rows.uptoBulk] at hb
  obtain ⟨l,h1,h2,h3⟩:=pick_c (P:=fun i u=>∃ e1 e2 e3 e4 e5:Value,W.cells? 0 (a.add (i*7)) 7=some [.string ⟨u.1.1.toArray⟩,e1,e2,e3,e4,e5,.string ⟨u.2.toArray⟩]∧InV W (Lo W.heap.size) u.1.2 (.agg #[e1,e2,e3,e4,e5])) (D:=D) len (fun i hil=>by
   obtain ⟨cs',hc,ht⟩:=hi i (by rw [hm'];split <;> omega)
   rw [o7] at hc
   have hmem:Rows.uptoBulk (D i)≤Rows.uptoBulkAll ((List.range len).map D):=bulkAll_mem (List.mem_map.2 ⟨i,List.mem_range.2 hil,rfl⟩)
   obtain ⟨zs,n2,_,hz,hzl,hzs,hzg⟩:=DataW.trod_struct Tryz.underlying47 ht
   rw [o7] at hzl
   match cs',hzl with
   | [e0,e1,e2,e3,e4,e5,e6],_=>
   match zs,hzs with
   | [z0,z1,z2],_=>
    simp only [Prod.mk.injEq] at hz
    have q0:DataW.trod enc Tryz.prog W 0 (fun _=>true) true n2 9 [e0]=some z0:=by simpa [o2] using hzg 0 _ rfl
    have q1:DataW.trod enc Tryz.prog W 0 (fun _=>true) true n2 25 [e1,e2,e3,e4,e5]=some z1:=by simpa [o5] using hzg 1 _ rfl
    have q2:DataW.trod enc Tryz.prog W 0 (fun _=>true) true n2 9 [e6]=some z2:=by simpa [o2] using hzg 2 _ rfl
    obtain ⟨nm,hnm,rfl,wn⟩:=DataW.trod_string Tryz.underlying9 q0
    obtain ⟨id,hid,rfl,wi⟩:=DataW.trod_string Tryz.underlying9 q2
    obtain rfl:e0=.string nm:=by simpa using hnm
    obtain rfl:e6=.string id:=by simpa using hid
    have hD:Rows.uptoBulk (D i)=1+(nm.data.toList.length+1)+Rows.uptoBulk z1.1+(id.data.toList.length+1):=by
     rw [hz.1]
     simp only [List.map_cons,List.map_nil,Rows.uptoBulk,Rows.uptoBulkAll]
     omega
    obtain ⟨u,hu,hb2⟩:=open_v_aux _ n2 _ z1 (by omega) (Nat.le_refl _) q1
    refine ⟨((nm.data.toList,u),id.data.toList),⟨e1,e2,e3,e4,e5,by simpa using hc,hu⟩,?_⟩
    show 3+nm.data.toList.length+JV.bulk u+id.data.toList.length+0≤_
    omega)
  subst h1
  refine ⟨some a,l,cap,by simpa using hcs,fun i hil=>?_,?_⟩
  ·obtain ⟨_,_,_,_,_,hc0,_⟩:=h2 0 (by omega)
   obtain ⟨hsp,hlt,_,_⟩:=cells_at hc0 (by omega)
   obtain ⟨e1,e2,e3,e4,e5,hc,hu⟩:=h2 i hil
   obtain ⟨_,_,hl5,hcell⟩:=cells_at hc (by omega)
   obtain ⟨C,f,C',f',rfl,rfl,rfl,rfl,rfl,hu⟩:=five_of hu
   have hsp:=hsp rfl
   obtain ⟨b,o,sp⟩:=a
   simp only at hsp
   subst hsp
   exact ⟨b,o,C,f,C',f',rfl,hlt,hcell 0 (by omega),⟨hcell 1 (by omega),hcell 2 (by omega),hcell 3 (by omega),hcell 4 (by omega),hcell 5 (by omega)⟩,hcell 6 (by omega),hu⟩
  ·show _≤Rows.uptoBulk (DataW.slice _ _)
   simp only [Rows.uptoBulk]
   omega
theorem open_cs {r:Reach} {b0:Nat} {v:Value} {d:DataW H} {p:List MemPlace} (hK:Rows.uptoBulk d≤1048576) (hv:Value.okWide Tryz.prog W r b0 36 v) (h:DataW.Trod enc Tryz.prog W 0 (fun _=>true) true 36 v d p):
  ∃ A l c,v=.slice A l.length c∧CsR W A l∧Pt.bulkC l≤1048576:=by
 obtain ⟨a,len,cap,rfl⟩:=okWide_slice Tryz.underlying36 hv
 obtain ⟨fuel,hf⟩:=h
 have hf:DataW.trod enc Tryz.prog W 0 (fun _=>true) true fuel 36 [.slice a len cap]=some (d,p):=by simpa [Value.cells] using hf
 obtain ⟨A,m,c,e,h1,h2⟩:=open_cs_aux fuel _ (d,p) hK hf
 have h2:Pt.bulkC m≤Rows.uptoBulk d:=h2
 exact ⟨A,m,c,e,h1,by omega⟩
end
/- RefsTwice's walk. -/

theorem CsZ.lo {w:World} {Z Z':Nat} {A:Option Addr} {l:List CallV} (h:CsZ w Z A l) (hZ:Z≤Z'):CsZ w Z' A l:=fun i hi=>by
 obtain ⟨b,o,C,f,C',f',hA,hb,h0,h1,h2,h3⟩:=h i hi
 exact ⟨b,o,C,f,C',f',hA,Nat.lt_of_lt_of_le hb hZ,h0,h1,h2,h3.lo hZ⟩
theorem ba_head (c:UInt8) (r:List UInt8):(⟨(c::r).toArray⟩:ByteArray)[0]? = some c:=by
 rw [getElem?_pos _ 0 (by show 0<(c::r).toArray.size;simp)];rfl
theorem ba_size (s:List UInt8):(⟨s.toArray⟩:ByteArray).size=s.length:=by show s.toArray.size=_;simp
theorem ba_app (s:List UInt8):(⟨#[35]⟩:ByteArray)++⟨s.toArray⟩=⟨(35::s).toArray⟩:=by
 apply ByteArray.ext;simp [ByteArray.data_append]
namespace Rf
theorem twin (nm:Tx):(∃ r,nm=35::35::r)∨(nm=[35])∨(∃ c r,nm=35::c::r∧c≠35)∨(nm=[])∨(∃ c r,nm=c::r∧c≠35):=by
 cases nm with
 | nil=>exact .inr (.inr (.inr (.inl rfl)))
 | cons c r=>
  by_cases hc:c=35
  ·subst hc
   cases r with
   | nil=>exact .inr (.inl rfl)
   | cons e r=>
    by_cases he:e=35
    ·subst he;exact .inl ⟨r,rfl⟩
    ·exact .inr (.inr (.inl ⟨e,r,rfl,he⟩))
  ·exact .inr (.inr (.inr (.inr ⟨c,r,rfl,hc⟩)))
end Rf
/- Chapter 24: the table of white space; RefsTwice. -/

theorem sp_of {W:World} (h:Lib.VarReads Tryz.prog W "strings.asciiSpace" Rows.laid_strings_asciiSpace):SpTab W:=by
 rw [show (Rows.laid_strings_asciiSpace:DataW Unit)=Lib.tabData .u8 Lib.asciiSpaceTab from rfl] at h
 obtain ⟨g,t,cs,fuel,p,hg,hty,hvar,hd⟩:=h
 have e1:Tryz.prog.globalNamed "strings.asciiSpace" = some 0:=by kernel_rfl
 have e2:(Tryz.prog.globals[(0:Nat)]?).map (·.type)=some 95:=by kernel_rfl
 have c1:Tryz.prog.cellsOf 5=1:=by kernel_rfl
 have c2:Tryz.prog.cellsOf 95=256:=by kernel_rfl
 obtain rfl:=Option.some.inj (e1.symm.trans hg)
 obtain rfl:=Option.some.inj (e2.symm.trans hty)
 unfold SpTab Lib.TabIs
 rw [hvar,← Lib.cells_of_tab Tryz.underlying95 Tryz.underlying5 c1 c2 hd]
theorem rfcalls {l:List CallV} (h:Pt.bulkC l≤1048576):l.length≤1048576 ∧ ∀ q∈l,JV.bulk q.1.2≤1048576:=
 ⟨Nat.le_trans (Pt.bulkC_len l) h,fun q hq=>by have:=Pt.bulkC_mem hq;omega⟩
end Go.Proofs.YtdhakbghdcfncaaGreatDoor
