/- The document's Get, told of a set of blocks. -/
import Derived.Test.YtlmcfhokfiibkaaGreatDoorPtt
import Derived.Test.YtlmcfhokfiibkaaGreatDoorPcx
namespace Go.Proofs.YtlmcfhokfiibkaaGreatDoor
set_option maxRecDepth 100000
set_option maxHeartbeats 2000000
set_option linter.unusedVariables false
set_option linter.unusedSimpArgs false
open Go.RowKit

theorem get7S_is (v:JV) (B:Option Addr) (d:Nat) (B':Option Addr) (d':Nat) (s:List UInt8) (w:World) (O:Nat→Prop) (hO:∀ b,O b→b<w.heap.size) (h:InV w O v (vA v B d B' d')):
  Calls Tryz.prog 38 #[.agg #[.int .i64 v.kd,.int .i64 v.nm,.string ⟨v.tx.toArray⟩,.slice B v.ls.length d,.slice B' v.ms.length d'],.string ⟨s.toArray⟩] w (OpS O w (Pt.get v s)):=by
 obtain ⟨A,c,A',c',he,_,hms⟩:=h.open_
 have hA:B'=A':=by obtain ⟨_,_,_,_,e4⟩:=five he;injection e4
 subst hA
 have hM:=h.facts.2.2.2.2
 have hM':(v.ms.length:Int)≤140737488355328:=by omega
 have HMS:Hid (∀ W,Fr w W→MsC W O B' v.ms):=fun W hW=>hms.keepS hO hW
 have HOO:=Lib.hid hO
 have HB0:Hid (Blk ((w.alloc (.cells #[.int .i64 v.kd,.int .i64 v.nm,.string ⟨v.tx.toArray⟩,.slice B v.ls.length d,.slice B' v.ms.length d'] 25)).alloc (.cells #[.int .i64 0,.int .i64 0,.string ⟨#[]⟩,.slice none 0 0,.slice none 0 0] 25)) w.heap.size #[.int .i64 v.kd,.int .i64 v.nm,.string ⟨v.tx.toArray⟩,.slice B v.ls.length d,.slice B' v.ms.length d'] 25):=(Blk.made w _ _).keep ((Fr.refl _).alloc _)
 have HZ0:Hid (Blk ((w.alloc (.cells #[.int .i64 v.kd,.int .i64 v.nm,.string ⟨v.tx.toArray⟩,.slice B v.ls.length d,.slice B' v.ms.length d'] 25)).alloc (.cells #[.int .i64 0,.int .i64 0,.string ⟨#[]⟩,.slice none 0 0,.slice none 0 0] 25)) (w.heap.size+1) #[.int .i64 0,.int .i64 0,.string ⟨#[]⟩,.slice none 0 0,.slice none 0 0] 25):=boxz (Blk.made (w.alloc _) _ _)
 have HF0:Hid (Fr w ((w.alloc (.cells #[.int .i64 v.kd,.int .i64 v.nm,.string ⟨v.tx.toArray⟩,.slice B v.ls.length d,.slice B' v.ms.length d'] 25)).alloc (.cells #[.int .i64 0,.int .i64 0,.string ⟨#[]⟩,.slice none 0 0,.slice none 0 0] 25))):=((Fr.refl w).alloc _).alloc _
 clear h he hms hO
 by_cases h6:v.kd=6
 ·have q6:(v.kd == 6)=true:=by rw [beq_iff_eq];exact h6
  rw [show Pt.get v s=Pt.getM v.ms s from by unfold Pt.get;exact if_pos h6]
  clear h6
  go_enter Tryz.func38,Tryz.ntmps38
  go_wp2_with fail
  go_loopw [6] (fun j wr=>∃ i:Nat,i≤v.ms.length∧j=.int .i64 i∧Hid (∀ y (hy:y<v.ms.length),y<i→v.ms[y].1≠s)∧Hid (Blk wr w.heap.size #[.int .i64 v.kd,.int .i64 v.nm,.string ⟨v.tx.toArray⟩,.slice B v.ls.length d,.slice B' v.ms.length d'] 25)∧Hid (Blk wr (w.heap.size+1) #[.int .i64 0,.int .i64 0,.string ⟨#[]⟩,.slice none 0 0,.slice none 0 0] 25)∧Hid (Fr w wr)) (fun j _=>v.ms.length - (intOf j).toNat)
  case atStart=>exact ⟨0,by omega,rfl,Lib.hid (fun y _ h=>absurd h (by omega)),HB0,HZ0,HF0⟩
  case round=>
   obtain ⟨i,hi,rfl,hD,hB,hZz,hF⟩:=hrel
   obtain ⟨⟨x0,x1,x2,x3,x4⟩,_⟩:=box5 hB.out
   obtain ⟨⟨y0,y1,y2,y3,y4⟩,g0,g1,g2,g3,g4⟩:=box5 hZz.out
   by_cases hlt:i<v.ms.length
   ·have hlt':(i:Int)<(v.ms.length:Int):=by omega
    obtain ⟨b,o,C,e,C',e',rfl,hb,hnl,c0,⟨c1,c2,c3,c4,c5⟩,hiv⟩:=HMS.out _ hF.out i hlt
    obtain ⟨nt,hnt⟩:∃ nt,v.ms[i].1=nt:=⟨_,rfl⟩
    rw [hnt] at c0 hnl
    have HNT:=Lib.hid hnt
    clear hnt
    by_cases hc:nt=s
    ·have hres:=Pt.getM_hit hlt hD.out (HNT.out.trans hc)
     obtain ⟨u,hu⟩:∃ u,v.ms[i].2=u:=⟨_,rfl⟩
     rw [hu] at c1 c2 c3 c4 c5 hiv hres
     rw [hres]
     have HV:=Lib.hid hiv
     subst hc
     have hcmp:((⟨nt.toArray⟩:ByteArray).toList == (⟨nt.toArray⟩:ByteArray).toList)=true:=beq_self_eq_true _
     clear hiv hres hu
     go_wp2_with fail
     refine bodyPost_ret (results_cs (by rfl) rfl _ (w.heap.size+1) (by rfl) (by rfl) _ _ _ _ _ (set5 hZz.out)) rfl ?_
     have hfin:=hF.out.put5 (X:=w.heap.size+1) (Nat.le_succ _) (.int .i64 u.kd) (.int .i64 u.nm) (.string ⟨u.tx.toArray⟩) (.slice C u.ls.length e) (.slice C' u.ms.length e')
     refine ⟨C,e,C',e',rfl,HV.out.map (fun _ h=>h) (fun b o hb=>?_),hfin⟩
     have hb:=HOO.out b hb
     rw [hfin.cell (by omega),hF.out.cell (by omega)]
    ·have hcmp:((⟨nt.toArray⟩:ByteArray).toList == (⟨s.toArray⟩:ByteArray).toList)=false:=by rw [bl_beq'];exact decide_eq_false hc
     have hcmp2:(nt == s)=false:=by rw [beq_eq_false_iff_ne];exact hc
     have HCN:=Lib.hid hc
     clear hc
     go_wp2_with fail
     exact ⟨⟨i+1,by omega,by go_num,Lib.hid (fun y hy hyt=>by
      by_cases e:y=i
      ·subst e;rw [HNT.out];exact HCN.out
      ·exact hD.out y hy (by omega)),hB,hZz,hF⟩,by simp [intOf];omega⟩
   ·have hnone:Hid (Pt.getM v.ms s=none):=Pt.getM_none (fun y hy=>hD.out y hy (by omega))
    go_wp2_with fail
    refine bodyPost_ret (results_cs (by rfl) rfl _ (w.heap.size+1) (by rfl) (by rfl) _ _ _ _ _ (set5 hZz.out)) rfl ?_
    show OpS O w (Pt.getM v.ms s) _ _
    rw [hnone.out]
    exact ⟨rfl,hF.out.put5 (X:=w.heap.size+1) (Nat.le_succ _) _ _ _ _ _⟩
 ·have q6:(v.kd == 6)=false:=(ikind h6).1
  rw [show Pt.get v s=none from by unfold Pt.get;exact if_neg h6]
  clear h6
  go_enter Tryz.func38,Tryz.ntmps38
  go_wp2_with fail
  go_loopw [6] (fun j wr=>j=.int .i64 0∧Hid (Blk wr w.heap.size #[.int .i64 v.kd,.int .i64 v.nm,.string ⟨v.tx.toArray⟩,.slice B v.ls.length d,.slice B' v.ms.length d'] 25)∧Hid (Blk wr (w.heap.size+1) #[.int .i64 0,.int .i64 0,.string ⟨#[]⟩,.slice none 0 0,.slice none 0 0] 25)∧Hid (Fr w wr)) (fun _ _=>0)
  case atStart=>exact ⟨rfl,HB0,HZ0,HF0⟩
  case round=>
   obtain ⟨rfl,hB,hZz,hF⟩:=hrel
   obtain ⟨⟨x0,x1,x2,x3,x4⟩,_⟩:=box5 hB.out
   obtain ⟨⟨y0,y1,y2,y3,y4⟩,g0,g1,g2,g3,g4⟩:=box5 hZz.out
   have alt:(0:Int)<(v.ms.length:Int) ∨ ¬ (0:Int)<(v.ms.length:Int):=by omega
   rcases alt with h0 | h0
   all_goals
    go_wp2_with fail
    refine bodyPost_ret (results_cs (by rfl) rfl _ (w.heap.size+1) (by rfl) (by rfl) _ _ _ _ _ (set5 hZz.out)) rfl ?_
    exact ⟨rfl,hF.out.put5 (X:=w.heap.size+1) (Nat.le_succ _) _ _ _ _ _⟩
end Go.Proofs.YtlmcfhokfiibkaaGreatDoor
