/- The walk of chars.unit. -/
import Derived.Test.YtdhakbghdcfncaaGreatDoorUb
import Derived.Test.YtdhakbghdcfncaaGreatDoorLowP
import Derived.Test.YtdhakbghdcfncaaGreatDoorShelf
import Derived.Laws.IdiomStrings
namespace Go.Proofs.YtdhakbghdcfncaaGreatDoor
set_option maxRecDepth 100000
set_option maxHeartbeats 2000000
set_option linter.unusedVariables false
set_option linter.unusedSimpArgs false
open Go.RowKit

theorem getD_at {s:ByteArray} {k:Nat} (h:k<s.size):s.data.toList.getD k 0=s[k]:=by
 have h2:k<s.data.toList.length:=by simpa using h
 rw [List.getD_eq_getElem?_getD,List.getElem?_eq_getElem h2]
 rfl
structure LowTabs (w:World):Prop where
 case_:Lib.CaseVar 5 Lib.caseA w
 u8:Lib.Utf8Tabs 3 4 w

theorem lower_is (s:ByteArray) (L:List UInt8) (w:World) (hs:s.size≤64) (hT:LowTabs w) (h:Lib.toLowerD s.data.toList=L):
  Calls Tryz.prog 122 #[.string s] w fun e w'=>e=.returned (.string ⟨L.toArray⟩)∧Fr w w':=by
 subst h
 exact Tryz.strings_ToLower_any s w (by omega) hT.case_ hT.u8
theorem idx_is (c:UInt8) (z:Int) (w:World) (h:(Chr.lhex c).elim (-1) (fun d=>(d:Int))=z):
  Calls Tryz.prog 68 #[.string ⟨#[48,49,50,51,52,53,54,55,56,57,97,98,99,100,101,102]⟩,.int .u8 c.toNat] w fun e w'=>e=.returned (.int .i64 z)∧w=w':=by
 refine (Tryz.strings_IndexByte ⟨#[48,49,50,51,52,53,54,55,56,57,97,98,99,100,101,102]⟩ (c.toNat:Int) w).mono ?_
 rintro e w' ⟨rfl,rfl⟩
 refine ⟨ret_int ?_,rfl⟩
 rw [← h,← Chr.idx_dig]
 simp
theorem u8bne {c:UInt8} {d:Nat} (hd:d<256) (h:c≠UInt8.ofNat d):((c.toNat:Int) != (d:Int))=true:=by
 rw [bne,u8neq hd h];rfl
theorem or_join4 (n d:Nat) (hn:n<4096) (hd:d<16):bits BinOp.or IntKind.i32 ((n:Int)*16) (d:Int)=((n*16+d:Nat):Int):=by
 have h:=bits_join .i32 31 (by decide) wraps_i32 4 ((n:Int)*16) (d:Int) (by omega) (by omega) (by omega) (by omega) (by omega) (by omega)
 rw [h];omega
theorem bytesRow_cell (w:World) (l:List UInt8) (cap j:Nat) (t:TypeId) (fz:Nat × Nat) (hj:j<l.length):(w.alloc (.cells (bytesRow ⟨l.toArray⟩ cap) t fz)).cell? ⟨w.heap.size,j,none⟩=some (.int .u8 l[j].toNat):=by
 rw [cell_of_row _ w.heap.size j _ t fz (heap_alloc_new w _)]
 simp [bytesRow,Array.getElem?_append,hj]

theorem unit_short (s:ByteArray) (k:Nat) (w:World) (hs:s.size≤maxLen) (hk:k≤9223372036854775000) (h:s.size<k+6):
  Calls Tryz.prog 116 #[.string s,.int .i64 k] w fun e w'=>e=.returned (.tuple #[.int .i32 0,.bool false])∧w=w':=by
 unfold maxLen at hs
 have d1:decide ((s.size:Int) - (k:Int)<6)=true:=decide_eq_true (by omega)
 go_enter Tryz.func116,Tryz.ntmps116
 go_wp2_with fail
 go_ret2
 exact ⟨rfl,rfl⟩
theorem unit_not (s:ByteArray) (k:Nat) (w:World) (hs:s.size≤maxLen) (h:k+6≤s.size) (hn:s[k]≠92∨s[k+1]≠117):
  Calls Tryz.prog 116 #[.string s,.int .i64 k] w fun e w'=>e=.returned (.tuple #[.int .i32 0,.bool false])∧w=w':=by
 unfold maxLen at hs
 have d1:decide ((s.size:Int) - (k:Int)<6)=false:=decide_eq_false (by omega)
 obtain ⟨a,ha⟩:∃ a,s[k]=a:=⟨_,rfl⟩
 obtain ⟨b,hb⟩:∃ b,s[k+1]=b:=⟨_,rfl⟩
 rw [ha,hb] at hn
 by_cases h1:a=92
 ·have h2:b≠117:=by rcases hn with h | h;exact absurd h1 h;exact h
  have e1:((a.toNat:Int) != 92)=false:=by subst h1;rfl
  have e2:=u8bne (d:=117) (by omega) h2
  clear hn h1 h2
  go_enter Tryz.func116,Tryz.ntmps116
  go_wp2_with fail
  go_ret2
  exact ⟨rfl,rfl⟩
 ·have e1:=u8bne (d:=92) (by omega) h1
  clear hn h1
  go_enter Tryz.func116,Tryz.ntmps116
  go_wp2_with fail
  go_ret2
  exact ⟨rfl,rfl⟩

def unitR (v:Option Nat):Value:=.tuple #[.int .i32 (v.getD 0:Nat),.bool v.isSome]

theorem unit_yes (s:ByteArray) (k:Nat) (w:World) (hs:s.size≤maxLen) (h:k+6≤s.size) (ha:s[k]=92) (hb:s[k+1]=117) (hT:LowTabs w):
  Calls Tryz.prog 116 #[.string s,.int .i64 k] w fun e w'=>e=.returned (unitR (Chr.hexs 0 ((s.data.toList.drop (k+2)).take 4)))∧Fr w w':=by
 unfold maxLen at hs
 have d1:decide ((s.size:Int) - (k:Int)<6)=false:=decide_eq_false (by omega)
 have hx:(s.extract (k+2) (k+6)).data.toList=(s.data.toList.drop (k+2)).take 4:=by rw [extract_list,show k+6 - (k+2)=4 by omega]
 have hxs:(s.extract (k+2) (k+6)).size≤64:=by simp;omega
 obtain ⟨L,hL⟩:∃ L,Lib.toLowerD (s.extract (k+2) (k+6)).data.toList=L:=⟨_,rfl⟩
 have hR:Chr.hexs 0 ((s.data.toList.drop (k+2)).take 4)=Chr.lhexs 0 L:=by rw [← hL,Chr.lhexs_lower,hx]
 have hrun:Chr.lrun L≤4:=by
  have:=Chr.lrun_lower _ (s.extract (k+2) (k+6)).data.toList (Nat.le_refl _)
  rw [hL,hx] at this
  simp at this
  omega
 have HR:=Lib.hid hR
 have HL:=Lib.hid hL
 have HX:=Lib.hid hxs
 have HT:=Lib.hid hT
 have HI:=Lib.hid (Chr.LInv.start hrun)
 clear hR hL hxs hx hrun hT
 have hcv:=fun w s=>run_bytes_of_string (P:=Tryz.prog) w 9 154 5 s Tryz.underlying9 Tryz.underlying154 Tryz.underlying5
 go_enter Tryz.func116,Tryz.ntmps116
 go_wp2_with (go_at_call 122;refine (lower_is (s.extract (k+2) (k+6)) L _ HX.out HT.out HL.out).mono ?_;rintro e w1 ⟨rfl,hf1⟩;have HF:=Lib.hid hf1;clear hf1)
 have hcells:∀ j (hj:j<L.length),(w1.alloc (Obj.cells (bytesRow { data:=L.toArray } (grownCap w1 L.length 0 5)) 5 ((bytesRow { data:=L.toArray } (grownCap w1 L.length 0 5)).size,(bytesRow { data:=L.toArray } (grownCap w1 L.length 0 5)).size+1))).drew.cell? ⟨w1.heap.size,j,none⟩=some (.int .u8 L[j].toNat):=fun j hj=>bytesRow_cell w1 L _ j _ _ hj
 have hfr2:Fr w (w1.alloc (Obj.cells (bytesRow { data:=L.toArray } (grownCap w1 L.length 0 5)) 5 ((bytesRow { data:=L.toArray } (grownCap w1 L.length 0 5)).size,(bytesRow { data:=L.toArray } (grownCap w1 L.length 0 5)).size+1))).drew:=(HF.out.alloc _).drew
 generalize (w1.alloc (Obj.cells (bytesRow { data:=L.toArray } (grownCap w1 L.length 0 5)) 5 ((bytesRow { data:=L.toArray } (grownCap w1 L.length 0 5)).size,(bytesRow { data:=L.toArray } (grownCap w1 L.length 0 5)).size+1))).drew=W2 at hcells hfr2 ⊢
 generalize grownCap w1 L.length 0 5=cap
 generalize w1.heap.size=g at hcells ⊢
 have HC:=Lib.hid hcells
 have HF2:=Lib.hid hfr2
 clear hcells hfr2 hcv
 go_loop [6,37] (fun v i=>∃ j n:Nat,v=.int .i32 n∧i=.int .i64 j∧Hid (Chr.LInv L j n)) (fun _ i=>L.length - (intOf i).toNat)
 case atStart=>exact ⟨0,0,rfl,rfl,HI⟩
 case round=>
  obtain ⟨j,n,rfl,rfl,hj⟩:=hrel
  by_cases hlt:j<L.length
  ·obtain ⟨c,hc⟩:∃ c,L[j]=c:=⟨_,rfl⟩
   have hcell:W2.cell? ⟨g,j,none⟩=some (.int .u8 c.toNat):=by rw [HC.out j hlt,hc]
   have hltz:(j:Int)<(L.length:Int):=by omega
   have hj4:j≤4:=by have:=hj.out.run;omega
   rcases hx:Chr.lhex c with _ | d
   ·have hb:=Lib.hid (hj.out.bad hlt (by rw [hc];exact hx))
    have HX2:=Lib.hid hx
    clear hx hj
    go_wp2_with (go_at_call 68;refine (idx_is c (-1) _ (by rw [HX2.out];rfl)).mono ?_;rintro e w' ⟨rfl,rfl⟩)
    go_ret2
    exact ⟨by rw [HR.out,hb.out];rfl,HF2.out⟩
   ·have hb:=Lib.hid (hj.out.step hlt (by rw [hc];exact hx))
    obtain ⟨hn,hd⟩:=hj.out.small hlt (by rw [hc];exact hx)
    have HX2:=Lib.hid hx
    have hor:=or_join4 n d hn hd
    clear hx hj
    go_wp2_with (go_at_call 68;refine (idx_is c d _ (by rw [HX2.out];rfl)).mono ?_;rintro e w' ⟨rfl,rfl⟩)
    exact ⟨⟨j+1,n*16+d,by go_num,by go_num,hb⟩,by simp [intOf];omega⟩
  ·have hb:=Lib.hid (hj.out.stop hlt)
   have hgez:¬ (j:Int)<(L.length:Int):=by omega
   go_wp2_with fail
   go_ret2
   exact ⟨by rw [HR.out,hb.out];rfl,HF2.out⟩

theorem LowTabs.keep {w w':World} (h:LowTabs w) (hf:Fr w w'):LowTabs w':=
 ⟨Lib.CaseVar_below h.case_ hf,Utf8Tabs_below h.u8 hf⟩

theorem unit_is (s:ByteArray) (k:Nat) (v:Option Nat) (w:World) (hs:s.size≤maxLen) (hk:k≤9223372036854775000) (hT:LowTabs w) (h:Chr.unitv (s.data.toList.drop k)=v):
  Calls Tryz.prog 116 #[.string s,.int .i64 k] w fun e w'=>e=.returned (unitR v)∧Fr w w':=by
 subst h
 by_cases h1:s.size<k+6
 ·rw [Chr.unitv_short (by simpa using h1)]
  refine (unit_short s k w hs hk h1).mono ?_
  rintro e w' ⟨rfl,rfl⟩
  exact ⟨rfl,Fr.refl _⟩
 ·have hk1:k<s.size:=by omega
  have hk2:k+1<s.size:=by omega
  rw [Chr.unitv_at (by simp;omega),getD_at hk1,getD_at hk2]
  by_cases h2:s[k]=92∧s[k+1]=117
  ·rw [if_pos h2]
   exact unit_yes s k w hs (by omega) h2.1 h2.2 hT
  ·rw [if_neg h2]
   refine (unit_not s k w hs (by omega) (by
    by_cases h3:s[k]=92
    ·exact .inr fun h4=>h2 ⟨h3,h4⟩
    ·exact .inl h3)).mono ?_
   rintro e w' ⟨rfl,rfl⟩
   exact ⟨rfl,Fr.refl _⟩

end Go.Proofs.YtdhakbghdcfncaaGreatDoor
