/- An argument that is a slice of numbers: opened. -/
import Derived.Test.YtlmcfhokfiibkaaGreatDoorOpenV
import Derived.Test.YtlmcfhokfiibkaaGreatDoorPta
import Derived.ChangeSlices
namespace Go.Proofs.YtlmcfhokfiibkaaGreatDoor
set_option maxRecDepth 100000
set_option maxRecDepth 100000
set_option linter.unusedVariables false
set_option linter.unusedSimpArgs false
open Go.ChangeShapes Go.WideShapes Go.Deep Go.RowKit

def IsC (w:World) (A:Option Addr) (l:List Int):Prop:=l≠[] → ∃ b o,A=some ⟨b,o,none⟩∧b<w.heap.size ∧ ∀ i (h:i<l.length),w.cell? ⟨b,o+i,none⟩=some (.int .i64 l[i])
section
variable {H:Type} {enc:TypeId × Value→H} {W:World}
theorem bulkAll_lits:∀ l:List Int,Rows.uptoBulkAll (lits (H:=H) .i64 l)=l.length
 | []=>by simp [lits,Rows.uptoBulkAll]
 | x::l=>by
  have:=bulkAll_lits l
  simp only [lits,List.map_cons,Rows.uptoBulkAll,Rows.uptoBulk,List.length_cons] at this ⊢
  omega
theorem open_is {r:Reach} {b0:Nat} {v:Value} {d:DataW H} {p:List MemPlace} (hK:Rows.uptoBulk d≤1048576) (hv:Value.okWide Tryz.prog W r b0 33 v) (h:DataW.Trod enc Tryz.prog W 0 (fun _=>true) true 33 v d p):
  ∃ A ps c,v=.slice A ps.length c∧IsC W A ps∧((ps.length≤1048576) ∧ ∀ n∈ps,-9223372036854775808≤n∧n≤9223372036854775807):=by
 obtain ⟨a,len,cap,rfl⟩:=okWide_slice Tryz.underlying33 hv
 obtain ⟨fuel,hf⟩:=h
 have hf:DataW.trod enc Tryz.prog W 0 (fun _=>true) true fuel 33 [.slice a len cap]=some (d,p):=by simpa [Value.cells] using hf
 rcases open_ints Tryz.underlying33 Tryz.underlying3 (by kernel_rfl) hf with ⟨h0,_⟩ | ⟨a',len',cap',zs,hcs,_,hl,hcap,hm,hx,hi,hw⟩
 ·simp only [List.cons.injEq,Value.slice.injEq,and_true] at h0
  obtain ⟨rfl,rfl,rfl⟩:=h0
  exact ⟨none,[],0,rfl,fun h=>absurd rfl h,by simp⟩
 ·simp only [List.cons.injEq,Value.slice.injEq,and_true] at hcs
  obtain ⟨rfl,rfl,rfl⟩:=hcs
  simp only [Prod.mk.injEq] at hx
  have hlm:len≤zs.length:=by rw [hm];split <;> omega
  have hlz:(zs.take len).length=len:=by rw [List.length_take];omega
  refine ⟨some a',zs.take len,cap,by rw [hlz],?_,?_,?_⟩
  ·intro hne
   have h0:0<len:=by
    rcases Nat.eq_zero_or_pos len with h | h
    ·subst h;exact absurd (by simp) hne
    ·exact h
   have hc0:=hi 0 (by omega)
   obtain ⟨b,o,sp⟩:=a'
   have e0:(Addr.mk b o sp).add 0=⟨b,o,sp⟩:=by simp [Addr.add]
   rw [e0] at hc0
   have hsp:sp=none:=cell_spot hc0
   subst hsp
   refine ⟨b,o,rfl,?_,fun i hil=>?_⟩
   ·rcases Nat.lt_or_ge b W.heap.size with h | h
    ·exact h
    ·simp [World.cell?,Array.getElem?_eq_none h] at hc0
   ·have hil':i<zs.length:=by omega
    have:=hi i hil'
    rw [addr_add] at this
    rw [this,List.getElem_take,List.getD_eq_getElem?_getD,List.getElem?_eq_getElem hil']
    rfl
  ·rw [hlz]
   rw [hx.1,Rows.uptoBulk,bulkAll_lits] at hK
   omega
  ·intro n hn
   have:=hw n (List.mem_of_mem_take hn)
   exact bounds_i64 this
end
end Go.Proofs.YtlmcfhokfiibkaaGreatDoor
