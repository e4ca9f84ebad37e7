/- Walks of emit.bare, right, names. -/
import Derived.Test.YtdhakbghdcfncaaGreatDoorKa
import Derived.Test.YtdhakbghdcfncaaGreatDoorPa
import Derived.Test.YtdhakbghdcfncaaGreatDoorUa
import Derived.Deep.RegionHeld3
namespace Go.Proofs.YtdhakbghdcfncaaGreatDoor
set_option maxRecDepth 100000
set_option maxHeartbeats 4000000
set_option linter.unusedVariables false
set_option linter.unusedSimpArgs false
open Go.RowKit

theorem bare_is (k n:Int) (s:ByteArray) (A A':Option Addr) (l m c c':Nat) (w:World) (b:Bool) 
  (hb:Hid (((n == 0 || k == 2 || k == 3) && (s.toList.isEmpty || k == 4) && ((l:Int) == 0 || k == 5) && ((m:Int) == 0 || k == 6))=b)):
  Calls Tryz.prog 80 #[.agg #[.int .i64 k,.int .i64 n,.string s,.slice A l c,.slice A' m c']] w fun e w'=>e=.returned (.bool b)∧Fr w w':=by
 go_enter Tryz.func80,Tryz.ntmps80
 go_wp2_with fail
 all_goals
  go_ret
  refine ⟨ret_bool ?_,(Fr.refl _).alloc _⟩
  rw [← hb.out]
  simp_all
/- The walk of emit.names. -/

def NmOk (m:List (List UInt8 × JV)) (i:Nat) (ks:List (List UInt8)):Prop:=(∀ s,s∈ks↔s∈(m.take i).map (·.1))∧JV.namesB (m.take i)=true

theorem bad_at (s:List UInt8) (b:Nat) (w:World) (hs:s.length≤140737488355328) (h:Utf.bad s=b):
  Calls Tryz.prog 81 #[.string ⟨s.toArray⟩] w fun e w'=>e=.returned (.int .i64 b)∧w=w':=by
 subst h
 exact bad_is ⟨s.toArray⟩ w (by unfold maxLen;show s.toArray.size≤_;simp;omega)
theorem names_take {m:List (List UInt8 × JV)} {i:Nat} (h:i<m.length):JV.namesB (m.take (i+1))=true↔JV.namesB (m.take i)=true∧Utf.bad m[i].1=m[i].1.length∧m[i].1 ∉ (m.take i).map (·.1):=by
 rw [List.take_add_one,List.getElem?_eq_getElem h,Option.toList_some]
 simp only [JV.namesB,Bool.and_eq_true,List.all_append,List.map_append,List.nodup_append,decide_eq_true_eq,List.all_cons,List.all_nil,Bool.and_true,beq_iff_eq,List.map_cons,List.map_nil]
 constructor
 ·rintro ⟨⟨h1,h2⟩,h3,h4,h5⟩
  exact ⟨⟨h1,h3⟩,h2,fun hm=>h5 _ hm _ (by simp) rfl⟩
 ·rintro ⟨⟨h1,h3⟩,h2,h5⟩
  exact ⟨⟨h1,h2⟩,h3,by simp,fun a ha b hb=>by simp at hb;subst hb;intro e;subst e;exact h5 ha⟩
theorem names_mono {m:List (List UInt8 × JV)} {i:Nat} (h:JV.namesB m=true):JV.namesB (m.take i)=true:=by
 simp only [JV.namesB,Bool.and_eq_true,decide_eq_true_eq,List.all_eq_true] at h ⊢
 refine ⟨fun x hx=>h.1 x (List.mem_of_mem_take hx),?_⟩
 rw [List.map_take]
 exact h.2.sublist (List.take_sublist _ _)
theorem names_bad {m:List (List UInt8 × JV)} {i:Nat} {ks:List (List UInt8)} (h:i<m.length) (ho:NmOk m i ks) (hb:Utf.bad m[i].1≠m[i].1.length):JV.namesB m=false:=by
 cases e:JV.namesB m with
 | false=>rfl
 | true=>exact absurd ((names_take h).1 (names_mono e)).2.1 hb
theorem names_twice {m:List (List UInt8 × JV)} {i:Nat} {ks:List (List UInt8)} (h:i<m.length) (ho:NmOk m i ks) (hb:m[i].1∈ks):JV.namesB m=false:=by
 cases e:JV.namesB m with
 | false=>rfl
 | true=>exact absurd ((ho.1 _).1 hb) ((names_take h).1 (names_mono e)).2.2
theorem NmOk.next {m:List (List UInt8 × JV)} {i:Nat} {ks:List (List UInt8)} (h:i<m.length) (ho:NmOk m i ks) (hb:Utf.bad m[i].1=m[i].1.length) (hk:m[i].1 ∉ ks):NmOk m (i+1) (m[i].1::ks):=by
 refine ⟨fun s=>?_,(names_take h).2 ⟨ho.2,hb,fun hx=>hk ((ho.1 _).2 hx)⟩⟩
 rw [List.take_add_one,List.getElem?_eq_getElem h,Option.toList_some,List.map_append,List.mem_append,List.mem_cons,ho.1]
 simp [or_comm]

theorem names_is (m:List (List UInt8 × JV)) (A':Option Addr) (c:Nat) (w:World) (hm:MsC w (Lo w.heap.size) A' m) (hl:m.length≤140737488355327):
  Calls Tryz.prog 82 #[.slice A' m.length c] w fun e w'=>e=.returned (.bool (JV.namesB m))∧Fr w w':=by
 have HM:=Lib.hid hm
 clear hm
 have hmm:=@run_makeMap Tryz.prog
 go_enter Tryz.func82,Tryz.ntmps82
 go_wp2_with fail
 go_loopw [9] (fun j wr=>∃ i:Nat,i≤m.length∧j=.int .i64 i∧Hid (∃ ks,Known wr w.heap.size i ks∧NmOk m i ks)∧Hid (Fr w wr)) (fun j _=>m.length - (intOf j).toNat)
 case atStart=>
  refine ⟨0,by omega,rfl,Lib.hid ⟨[],Known.made w,?_⟩,Lib.hid ((Fr.refl _).alloc _)⟩
  simp [NmOk,JV.namesB]
 case round=>
  obtain ⟨i,hi,rfl,hk,hfr⟩:=hrel
  obtain ⟨ks,hkn,hok⟩:=hk.out
  by_cases h:i<m.length
  ·obtain ⟨b,o,B,d,B',d',rfl,hb,hnl,c0,⟨c1,c2,c3,c4,c5⟩,_⟩:=(HM.out.keep (Nat.le_refl _) hfr.out) i h
   obtain ⟨nm,hnm⟩:∃ nm,m[i].1=nm:=⟨_,rfl⟩
   rw [hnm] at c0 hnl
   have h':(i:Int)<(m.length:Int):=by omega
   have HK:=Lib.hid hkn
   have HO:=Lib.hid hok
   clear hkn hok
   have hlk:∀ ob n,(Instr.lookup 102 (.map (some w.heap.size)) (.string ⟨nm.toArray⟩) false).run Tryz.prog ((wr.alloc ob).drewN n)=.ok (.bool (decide (nm∈ks))) ((wr.alloc ob).drewN n):=
    fun ob n=>(HK.out.keep (((Fr.refl wr).alloc ob).drewN n)).run nm hnl
   obtain ⟨inb,hin⟩:∃ inb,decide (nm∈ks)=inb:=⟨_,rfl⟩
   rw [hin] at hlk
   rcases inb with _ | _
   ·have hbl:=Utf.bad_le nm
    have HKM:=Lib.hid (fun ob n=>HK.out.keep (((Fr.refl wr).alloc ob).drewN n))
    obtain ⟨bd,hbd⟩:∃ bd,Utf.bad nm=bd:=⟨_,rfl⟩
    rw [hbd] at hbl
    have HB:=Lib.hid hbd
    clear hbd
    by_cases hq:bd=nm.length
    ·have hne:((bd:Int) != (nm.length:Int))=false:=by rw [bne_eq_false_iff_eq];omega
     go_wp2_with fail
     go_quiet ((go_at_call 81;exact Calls.quiet_of_same ((bad_at nm bd _ hnl HB.out).mono fun _ _ h=>⟨h.1,h.2.symm⟩)))
     go_wp2_with (refine wpl_know (by rfl) (.tmp 26) (.tmp 28) (.const (.bool true)) (by rfl) w.heap.size i ks (by rfl) (HKM.out _ _) (by omega) nm hnl (by rfl) (by rfl) ?_;intro w3 hk3 hg3;have HK3:=Lib.hid hk3;have HG3:=Lib.hid hg3;clear hk3 hg3)
     have hnx:NmOk m (i+1) (nm::ks):=by rw [← hnm];exact HO.out.next h (by rw [hnm,HB.out];exact hq) (by rw [hnm];exact of_decide_eq_false hin)
     exact ⟨⟨i+1,by omega,by go_num,Lib.hid ⟨_,HK3.out,hnx⟩,Lib.hid (Fr.grown ((hfr.out.alloc _).drewN _) HG3.out (Nat.le_refl _))⟩,by simp [intOf];omega⟩
    ·have hne:((bd:Int) != (nm.length:Int))=true:=by rw [bne_iff_ne];omega
     have hr:Hid (JV.namesB m=false):=names_bad h HO.out (by rw [hnm,HB.out];exact hq)
     go_wp2_with fail
     go_quiet ((go_at_call 81;exact Calls.quiet_of_same ((bad_at nm bd _ hnl HB.out).mono fun _ _ h=>⟨h.1,h.2.symm⟩)))
     go_wp2_with fail
     go_ret
     exact ⟨by rw [hr.out];rfl,(hfr.out.alloc _).drewN _⟩
   ·have hr:Hid (JV.namesB m=false):=names_twice h HO.out (by rw [hnm];exact of_decide_eq_true hin)
    go_wp2_with fail
    go_quiet (fail)
    go_wp2_with fail
    go_ret
    exact ⟨by rw [hr.out];rfl,(hfr.out.alloc _).drewN _⟩
  ·obtain rfl:i=m.length:=by omega
   have hr:Hid (JV.namesB m=true):=by show _=_;have:=hok.2;rwa [List.take_length] at this
   go_wp2_with fail
   go_ret
   exact ⟨by rw [hr.out];rfl,hfr.out⟩
/- The walk of emit.right. -/

theorem toList_mk (l:List UInt8):(⟨l.toArray⟩:ByteArray).toList.isEmpty=(l.length == 0):=by
 rw [ByteArray.toList_eq]
 cases l <;> simp
theorem bare_at (u:JV) (B:Option Addr) (d:Nat) (B':Option Addr) (d':Nat) (w:World) (b:Bool) (hb:JV.bareB u=b):
  Calls Tryz.prog 80 #[vA u B d B' d'] w fun e w'=>e=.returned (.bool b)∧Fr w w':=by
 refine bare_is _ _ _ _ _ _ _ _ _ w b ?_
 show _=_
 subst hb
 rw [toList_mk]
 cases u with
 | mk k n s l m=>
  have e:∀ x:Nat,((x:Int) == 0)=(x == 0):=by
   intro x
   rw [Bool.eq_iff_iff,beq_iff_eq,beq_iff_eq];omega
  rw [e,e]
  rfl
def rightK (u:JV):Bool:=
 if u.kd=2 then (u.nm == 0 || u.nm == 1) else if u.kd=3 then decide (-9007199254740991≤u.nm) && decide (u.nm≤9007199254740991) else if u.kd=6 then decide (8192<u.ms.length) || JV.namesB u.ms else true
theorem right_eq (u:JV):JV.rightB u=(decide (1≤u.kd) && decide (u.kd≤6) && JV.bareB u && (Utf.bad u.tx == u.tx.length) && rightK u):=by cases u;rfl

theorem right_low (u:JV) (B:Option Addr) (d:Nat) (B':Option Addr) (d':Nat) (w:World) (h:InV w (Lo w.heap.size) u (vA u B d B' d')) (hk:¬ (1≤u.kd∧u.kd≤6)):
  Calls Tryz.prog 65 #[vA u B d B' d'] w fun e w'=>e=.returned (.bool (JV.rightB u))∧Fr w w':=by
 obtain ⟨⟨hn1,hn2⟩,⟨hk1,hk2⟩,hs,hl,hm⟩:=h.facts
 obtain ⟨A,c,A',c',hx,hlc,hmc⟩:=h.open_
 obtain ⟨_,_,_,x3,x4⟩:=five hx
 simp only [Value.slice.injEq] at x3 x4
 obtain ⟨rfl,_,rfl⟩:=x3
 obtain ⟨rfl,_,rfl⟩:=x4
 clear hx
 have HR:=Lib.hid (right_eq u)
 have HM:=Lib.hid hmc
 clear hmc hlc h
 obtain ⟨K,hK⟩:∃ K,u.kd=K:=⟨_,rfl⟩
 obtain ⟨N,hN⟩:∃ N,u.nm=N:=⟨_,rfl⟩
 have hv:vA u B d B' d'=.agg #[.int .i64 K,.int .i64 N,.string ⟨u.tx.toArray⟩,.slice B u.ls.length d,.slice B' u.ms.length d']:=by rw [← hK,← hN];rfl
 have hr:Hid (JV.rightB u=false):=by
  show _=_
  rw [HR.out]
  by_cases h1:1≤u.kd
  ·rw [decide_eq_false (show ¬ u.kd≤6 from fun h=>hk ⟨h1,h⟩),Bool.and_false];rfl
  ·rw [decide_eq_false h1];rfl
 rw [hK] at hk
 rw [hv]
 clear hK hN hv
 have hd:decide (K<1)=true∨(decide (K<1)=false∧decide (6<K)=true):=by
  by_cases h:K<1
  ·exact .inl (decide_eq_true h)
  ·exact .inr ⟨decide_eq_false h,decide_eq_true (by omega)⟩
 clear hk
 rcases hd with h1 | ⟨h1,h2⟩
 all_goals
  go_enter Tryz.func65,Tryz.ntmps65
  go_wp2_with fail
  go_quiet (fail)
  go_wp2_with fail
  go_ret
  exact ⟨by rw [hr.out];rfl,((Fr.refl _).alloc _).drewN _⟩

end Go.Proofs.YtdhakbghdcfncaaGreatDoor
