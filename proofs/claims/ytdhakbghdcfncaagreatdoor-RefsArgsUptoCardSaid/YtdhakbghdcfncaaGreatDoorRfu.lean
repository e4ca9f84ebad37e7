/- The document's Get. -/
import Derived.Test.YtdhakbghdcfncaaGreatDoorRfq
import Derived.Test.YtdhakbghdcfncaaGreatDoorPtt
import Derived.Test.YtdhakbghdcfncaaGreatDoorRft
import Derived.Test.YtdhakbghdcfncaaGreatDoorRfm
import Derived.Test.YtdhakbghdcfncaaGreatDoorSameV
namespace Go.Proofs.YtdhakbghdcfncaaGreatDoor
set_option maxRecDepth 100000
set_option maxHeartbeats 16000000
set_option linter.unusedVariables false
set_option linter.unusedSimpArgs false
open Go.RowKit

namespace Pt
theorem getM_hit7 {m:List (List UInt8 × JV)} {s:List UInt8} {i:Nat} (hi:i<m.length) (h:∀ y (hy:y<m.length),y<i→m[y].1≠s) (h2:m[i].1=s):getM m s=some m[i].2:=by
 obtain ⟨_,h4⟩:=(@placeM_get m s).2 i (placeM_hit hi h h2)
 exact h4
theorem getM_none7 {m:List (List UInt8 × JV)} {s:List UInt8} (h:∀ y (hy:y<m.length),m[y].1≠s):getM m s=none:=(@placeM_get m s).1 (placeM_none h)
end Pt

theorem get7r_is (v:JV) (B:Option Addr) (d:Nat) (B':Option Addr) (d':Nat) (s:List UInt8) (w:World) (Z:Nat) (hZ:Z≤w.heap.size) (h:InV w (Lo Z) v (vA v B d B' d')):
  Calls Tryz.prog 33 #[.agg #[.int .i64 v.kd,.int .i64 v.nm,.string ⟨v.tx.toArray⟩,.slice B v.ls.length d,.slice B' v.ms.length d'],.string ⟨s.toArray⟩] w (OpP Z w (Pt.get v s)):=by
 obtain ⟨A,c,A',c',he,_,hms⟩:=h.open_
 have hA:B'=A':=by obtain ⟨_,_,_,_,e4⟩:=five he;injection e4
 subst hA
 have hM:=h.facts.2.2.2.2
 have hM':(v.ms.length:Int)≤140737488355328:=by omega
 have HMS:Hid (∀ W,Fr w W→MsC W (Lo Z) B' v.ms):=fun W hW=>hms.keep hZ hW
 have HB0:Hid (Blk ((w.alloc (.cells #[.int .i64 v.kd,.int .i64 v.nm,.string ⟨v.tx.toArray⟩,.slice B v.ls.length d,.slice B' v.ms.length d'] 25)).alloc (.cells #[.int .i64 0,.int .i64 0,.string ⟨#[]⟩,.slice none 0 0,.slice none 0 0] 25)) w.heap.size #[.int .i64 v.kd,.int .i64 v.nm,.string ⟨v.tx.toArray⟩,.slice B v.ls.length d,.slice B' v.ms.length d'] 25):=(Blk.made w _ _).keep ((Fr.refl _).alloc _)
 have HZ0:Hid (Blk ((w.alloc (.cells #[.int .i64 v.kd,.int .i64 v.nm,.string ⟨v.tx.toArray⟩,.slice B v.ls.length d,.slice B' v.ms.length d'] 25)).alloc (.cells #[.int .i64 0,.int .i64 0,.string ⟨#[]⟩,.slice none 0 0,.slice none 0 0] 25)) (w.heap.size+1) #[.int .i64 0,.int .i64 0,.string ⟨#[]⟩,.slice none 0 0,.slice none 0 0] 25):=boxz (Blk.made (w.alloc _) _ _)
 have HF0:Hid (Fr w ((w.alloc (.cells #[.int .i64 v.kd,.int .i64 v.nm,.string ⟨v.tx.toArray⟩,.slice B v.ls.length d,.slice B' v.ms.length d'] 25)).alloc (.cells #[.int .i64 0,.int .i64 0,.string ⟨#[]⟩,.slice none 0 0,.slice none 0 0] 25))):=((Fr.refl w).alloc _).alloc _
 clear h he hms
 by_cases h6:v.kd=6
 ·have q6:(v.kd == 6)=true:=by rw [beq_iff_eq];exact h6
  rw [show Pt.get v s=Pt.getM v.ms s from by unfold Pt.get;exact if_pos h6]
  clear h6
  go_enter Tryz.func33,Tryz.ntmps33
  go_wp2_with fail
  go_loopw [6] (fun j wr=>∃ i:Nat,i≤v.ms.length∧j=.int .i64 i∧Hid (∀ y (hy:y<v.ms.length),y<i→v.ms[y].1≠s)∧Hid (Blk wr w.heap.size #[.int .i64 v.kd,.int .i64 v.nm,.string ⟨v.tx.toArray⟩,.slice B v.ls.length d,.slice B' v.ms.length d'] 25)∧Hid (Blk wr (w.heap.size+1) #[.int .i64 0,.int .i64 0,.string ⟨#[]⟩,.slice none 0 0,.slice none 0 0] 25)∧Hid (Fr w wr)) (fun j _=>v.ms.length - (intOf j).toNat)
  case atStart=>exact ⟨0,by omega,rfl,Lib.hid (fun y _ h=>absurd h (by omega)),HB0,HZ0,HF0⟩
  case round=>
   obtain ⟨i,hi,rfl,hD,hB,hZz,hF⟩:=hrel
   obtain ⟨⟨x0,x1,x2,x3,x4⟩,_⟩:=box5 hB.out
   obtain ⟨⟨y0,y1,y2,y3,y4⟩,g0,g1,g2,g3,g4⟩:=box5 hZz.out
   by_cases hlt:i<v.ms.length
   ·have hlt':(i:Int)<(v.ms.length:Int):=by omega
    obtain ⟨b,o,C,e,C',e',rfl,hb,hnl,c0,⟨c1,c2,c3,c4,c5⟩,hiv⟩:=HMS.out _ hF.out i hlt
    obtain ⟨nt,hnt⟩:∃ nt,v.ms[i].1=nt:=⟨_,rfl⟩
    rw [hnt] at c0 hnl
    have HNT:=Lib.hid hnt
    clear hnt
    by_cases hc:nt=s
    ·have hres:=Pt.getM_hit7 hlt hD.out (HNT.out.trans hc)
     obtain ⟨u,hu⟩:∃ u,v.ms[i].2=u:=⟨_,rfl⟩
     rw [hu] at c1 c2 c3 c4 c5 hiv hres
     rw [hres]
     have HV:=Lib.hid hiv
     subst hc
     have hcmp:((⟨nt.toArray⟩:ByteArray).toList == (⟨nt.toArray⟩:ByteArray).toList)=true:=beq_self_eq_true _
     clear hiv hres hu
     go_wp2_with fail
     refine bodyPost_ret (results_cs (by rfl) rfl _ (w.heap.size+1) (by rfl) (by rfl) _ _ _ _ _ (set5 hZz.out)) rfl ?_
     have hfin:=hF.out.put5 (X:=w.heap.size+1) (Nat.le_succ _) (.int .i64 u.kd) (.int .i64 u.nm) (.string ⟨u.tx.toArray⟩) (.slice C u.ls.length e) (.slice C' u.ms.length e')
     refine ⟨C,e,C',e',rfl,HV.out.map (fun _ h=>h) (fun b o hb=>?_),hfin⟩
     have hb:b<Z:=hb
     rw [hfin.cell (by omega),hF.out.cell (by omega)]
    ·have hcmp:((⟨nt.toArray⟩:ByteArray).toList == (⟨s.toArray⟩:ByteArray).toList)=false:=by rw [bl_beq'];exact decide_eq_false hc
     have hcmp2:(nt == s)=false:=by rw [beq_eq_false_iff_ne];exact hc
     have HCN:=Lib.hid hc
     clear hc
     go_wp2_with fail
     exact ⟨⟨i+1,by omega,by go_num,Lib.hid (fun y hy hyt=>by
      by_cases e:y=i
      ·subst e;rw [HNT.out];exact HCN.out
      ·exact hD.out y hy (by omega)),hB,hZz,hF⟩,by simp [intOf];omega⟩
   ·have hnone:Hid (Pt.getM v.ms s=none):=Pt.getM_none7 (fun y hy=>hD.out y hy (by omega))
    go_wp2_with fail
    refine bodyPost_ret (results_cs (by rfl) rfl _ (w.heap.size+1) (by rfl) (by rfl) _ _ _ _ _ (set5 hZz.out)) rfl ?_
    show OpP Z w (Pt.getM v.ms s) _ _
    rw [hnone.out]
    exact ⟨rfl,hF.out.put5 (X:=w.heap.size+1) (Nat.le_succ _) _ _ _ _ _⟩
 ·have q6:(v.kd == 6)=false:=(ikind h6).1
  rw [show Pt.get v s=none from by unfold Pt.get;exact if_neg h6]
  clear h6
  go_enter Tryz.func33,Tryz.ntmps33
  go_wp2_with fail
  go_loopw [6] (fun j wr=>j=.int .i64 0∧Hid (Blk wr w.heap.size #[.int .i64 v.kd,.int .i64 v.nm,.string ⟨v.tx.toArray⟩,.slice B v.ls.length d,.slice B' v.ms.length d'] 25)∧Hid (Blk wr (w.heap.size+1) #[.int .i64 0,.int .i64 0,.string ⟨#[]⟩,.slice none 0 0,.slice none 0 0] 25)∧Hid (Fr w wr)) (fun _ _=>0)
  case atStart=>exact ⟨rfl,HB0,HZ0,HF0⟩
  case round=>
   obtain ⟨rfl,hB,hZz,hF⟩:=hrel
   obtain ⟨⟨x0,x1,x2,x3,x4⟩,_⟩:=box5 hB.out
   obtain ⟨⟨y0,y1,y2,y3,y4⟩,g0,g1,g2,g3,g4⟩:=box5 hZz.out
   have alt:(0:Int)<(v.ms.length:Int) ∨ ¬ (0:Int)<(v.ms.length:Int):=by omega
   rcases alt with h0 | h0
   all_goals
    go_wp2_with fail
    refine bodyPost_ret (results_cs (by rfl) rfl _ (w.heap.size+1) (by rfl) (by rfl) _ _ _ _ _ (set5 hZz.out)) rfl ?_
    exact ⟨rfl,hF.out.put5 (X:=w.heap.size+1) (Nat.le_succ _) _ _ _ _ _⟩
/- The walk of the document's Args. -/

theorem refargs_is (s:List UInt8) (ks:List Rf.Kind) (hk:KsOk s ks) (hsp:Rf.spl [] s=ks.map Rf.wordOf) (v:JV) (B:Option Addr) (d:Nat) (B':Option Addr) (d':Nat) (w:World) (Z:Nat) (hZ:Z≤w.heap.size) (h:InV w (Lo Z) v (vA v B d B' d')) (hbv:JV.bulk v≤1048576):
  Calls Tryz.prog 11 #[.agg #[.int .i64 v.kd,.int .i64 v.nm,.string ⟨v.tx.toArray⟩,.slice B v.ls.length d,.slice B' v.ms.length d'],.string ⟨s.toArray⟩] w fun e w'=>ArP (Rf.args v ks) e w'∧Fr w w':=by
 have hf0:Fr w (w.alloc (.cells #[.int .i64 v.kd,.int .i64 v.nm,.string ⟨v.tx.toArray⟩,.slice B v.ls.length d,.slice B' v.ms.length d'] 25)):=(Fr.refl w).alloc _
 have hx0:Blk (w.alloc (.cells #[.int .i64 v.kd,.int .i64 v.nm,.string ⟨v.tx.toArray⟩,.slice B v.ls.length d,.slice B' v.ms.length d'] 25)) w.heap.size #[.int .i64 v.kd,.int .i64 v.nm,.string ⟨v.tx.toArray⟩,.slice B v.ls.length d,.slice B' v.ms.length d'] 25:=Blk.made w _ _
 have hbe:=Rf.bulk_eq v
 have hml:=Rf.bigM_len v.ms
 by_cases h6:v.kd=6
 ·have q6:(v.kd != 6)=false:=by rw [h6];rfl
  have HSPL:Hid (∀ W,Fr w W→Calls Tryz.prog 32 #[.string ⟨s.toArray⟩,.int .u8 32] W fun e w'=>(∃ A c,e=.returned (.slice A ks.length c)∧(∀ i (h:i<ks.length),∃ b o,A=some ⟨b,o,none⟩∧b<w'.heap.size∧w'.cell? ⟨b,o+i,none⟩=some (.string ⟨(Rf.wordOf ks[i]).toArray⟩)))∧Fr W w'):=Lib.hid (fun W hW=>(rsplit_is s W hk.len).mono (by
   rw [hsp,List.length_map]
   rintro e w' ⟨⟨A,c,rfl,hp⟩,hf⟩
   refine ⟨⟨A,c,rfl,fun i hi=>?_⟩,hf⟩
   obtain ⟨b,o,hA,hb,hcs⟩:=hp (by intro e;have:=congrArg List.length e;simp at this;rw [this] at hi;simp at hi)
   have:=hcs i (by simpa using hi)
   rw [List.getElem_map] at this
   exact ⟨b,o,hA,hb,this⟩))
  have HGE:Hid (∀ (nm:List UInt8) W,Fr w W→Calls Tryz.prog 33 #[.agg #[.int .i64 v.kd,.int .i64 v.nm,.string ⟨v.tx.toArray⟩,.slice B v.ls.length d,.slice B' v.ms.length d'],.string ⟨nm.toArray⟩] W (OpP Z W (Pt.get v nm))):=Lib.hid (fun nm W hW=>get7r_is v B d B' d' nm W Z (Nat.le_trans hZ hW.size) (h.keep hZ hW))
  have HLE:Hid (∀ k∈ks,k.2∈Rf.letters∧k.1.length≤200):=Lib.hid (fun k hkk=>⟨hk.letters k hkk,hk.short k hkk⟩)
  have hkf:=hk.few
  have hkf':(ks.length:Int)≤100:=by omega
  have hml':(v.ms.length:Int)≤1048576:=by omega
  have HZ:=Lib.hid hZ
  have HBV:=Lib.hid hbv
  have HK6:=Lib.hid h6
  clear h hk hZ hbv hbe h6 hsp
  go_enter Tryz.func11,Tryz.ntmps11
  go_upto_region 1 with fail
  generalize (w.alloc (.cells #[.int .i64 v.kd,.int .i64 v.nm,.string ⟨v.tx.toArray⟩,.slice B v.ls.length d,.slice B' v.ms.length d'] 25))=W1 at hf0 hx0 ⊢
  generalize w.heap.size=X2 at hx0 ⊢
  have HF0:=Lib.hid hf0
  have HX0:=Lib.hid hx0
  obtain ⟨⟨x0,x1,x2,x3,x4⟩,_⟩:=box5 hx0
  clear hf0 hx0
  go_upto_region 7 with (go_at_call 32;refine (HSPL.out _ HF0.out).mono ?_;rintro e w5 ⟨⟨A19,c19,rfl,hwd⟩,hf⟩;have HWD:=Lib.hid hwd;have HF5:=Lib.hid hf;clear hwd hf)
  clear x0 x1 x2 x3 x4
  obtain ⟨W4,hW4⟩:∃ W,W=w5:=⟨_,rfl⟩
  subst hW4
  have HX4:=Lib.hid (HX0.out.keep HF5.out)
  have HF4:Hid (Fr w W4):=Lib.hid (HF0.out.trans HF5.out)
  obtain ⟨K,hKe⟩:∃ K,W4.heap.size=K:=⟨_,rfl⟩
  have HKK:Hid (W4.heap.size≤K):=Lib.hid (Nat.le_of_eq hKe)
  have HVN:Hid (VsB W4 Z K (.slice none 0 0) []):=Lib.hid (VsB.none_ W4 (by rw [← hKe];exact ⟨Nat.le_trans HZ.out HF4.out.size,Nat.le_refl _⟩))
  clear hKe
  go_loopw [6,7,9,10,12] (fun a6 a7 j a10 a12 wr=>∃ (i n:Nat) (acc:List JV) (vs:Value),i≤ks.length∧n≤i∧a6=vs∧a7=.int .i64 n∧j=.int .i64 i∧acc.length=i∧Hid (VsB wr Z K vs acc)∧Hid (Rf.hits v (ks.take i)=n)∧Hid (Rf.mays v (ks.take i)=true)∧Hid (acc=(ks.take i).map fun k=>Rf.argv v k.1)∧Hid (Fr W4 wr)) (fun _ _ j _ _ _=>ks.length - (intOf j).toNat)
  case atStart=>exact ⟨0,0,[],_,by omega,by omega,rfl,rfl,rfl,rfl,HVN,Lib.hid rfl,Lib.hid rfl,Lib.hid rfl,Lib.hid (Fr.refl W4)⟩
  case round=>
   obtain ⟨i,n,acc,vs,hi,hni,rfl,rfl,rfl,hal,hV,hN,hM,hA,hF⟩:=hrel
   obtain ⟨sa,sc,hvs⟩:=hV.out.is_slice
   subst hvs
   have HFW:Hid (Fr w wr):=Lib.hid (HF4.out.trans hF.out)
   have HZR:Hid (Z≤wr.heap.size):=Lib.hid (Nat.le_trans HZ.out HFW.out.size)
   by_cases hlt:i<ks.length
   ·rw [hal]
    have HAL:=Lib.hid hal
    clear hal
    have hlt':(i:Int)<(ks.length:Int):=by omega
    have h0i:(0:Int)≤(i:Int):=by omega
    obtain ⟨b,o,rfl,hbw,hwc⟩:=HWD.out i hlt
    have hwc2:=(hF.out.cell hbw).trans hwc
    have hle:=HLE.out _ (List.getElem_mem hlt)
    obtain ⟨nm,c,hki⟩:∃ nm c,ks[i]=(nm,c):=⟨_,_,rfl⟩
    rw [hki] at hwc2 hle
    obtain ⟨m,hm⟩:∃ m,nm.length=m:=⟨_,rfl⟩
    obtain ⟨WD,hWD⟩:∃ x:ByteArray,(⟨(Rf.wordOf (nm,c)).toArray⟩:ByteArray)=x:=⟨_,rfl⟩
    rw [hWD] at hwc2
    have hwl:(Rf.wordOf (nm,c)).length=m+2:=by unfold Rf.wordOf;simp;omega
    have hws:WD.size=m+2:=by rw [← hWD,ba_size,hwl]
    have hm200:m≤200:=by have h2:nm.length≤200:=hle.2;omega
    have hw1:IntKind.i64.wrap ((WD.size:Int) - 2)=(m:Int):=by rw [IntKind.wrap_i64];omega
    have hw2:(WD.size:Int) - 2=(m:Int):=by omega
    have hw3:IntKind.i64.wrap ((m:Int)+1)=(m:Int)+1:=by rw [IntKind.wrap_i64];omega
    have hw4:(m:Int)+1<(WD.size:Int):=by omega
    have hw5:(m:Int)≤(WD.size:Int):=by omega
    have hw6:m+1<WD.size:=by omega
    have hw7:(0:Int)≤(m:Int)+1:=by omega
    have hm3:(m:Int)≤200:=by omega
    have hex:WD.extract 0 m=⟨nm.toArray⟩:=by
     rw [← hWD,ba_cut]
     congr 1
     rw [List.drop_zero,Nat.sub_zero]
     unfold Rf.wordOf
     rw [← hm,List.take_left]
    have hwat:WD[m+1]=c:=by
     subst hWD
     have h2:(Rf.wordOf (nm,c))[m+1]? = some c:=by
      unfold Rf.wordOf
      rw [List.getElem?_append_right (show nm.length≤m+1 by rw [hm];omega),hm,show m+1 - m=1 by omega];rfl
     have h3:(Rf.wordOf (nm,c))[m+1]'(by rw [hwl];omega)=c:=by
      rw [List.getElem?_eq_getElem (by rw [hwl];omega)] at h2
      exact Option.some.inj h2
     exact h3
    have HWC:=Lib.hid hwc2
    have HBW:Hid (b<wr.heap.size):=Lib.hid (Nat.lt_of_lt_of_le hbw hF.out.size)
    have HKI:=Lib.hid hki
    have HCL:=Lib.hid hle.1
    have hxr:=HX4.out.keep hF.out
    have HXR:=Lib.hid hxr
    obtain ⟨r,bb,hrb⟩:∃ (r:JV) (bb:Bool),((bb=true∧Pt.get v nm=some r)∨(bb=false∧Pt.get v nm=none∧r=JV.zeroV)):=by
     cases hg:Pt.get v nm with
     | none=>exact ⟨_,_,.inr ⟨rfl,rfl,rfl⟩⟩
     | some y=>exact ⟨y,_,.inl ⟨rfl,rfl⟩⟩
    have HGE2:Hid (∀ W,Fr wr W→Calls Tryz.prog 33 #[.agg #[.int .i64 v.kd,.int .i64 v.nm,.string ⟨v.tx.toArray⟩,.slice B v.ls.length d,.slice B' v.ms.length d'],.string ⟨nm.toArray⟩] W fun e w'=>∃ (C:Option Addr) (f:Nat) (C':Option Addr) (f':Nat),e=.returned (.tuple #[.agg #[.int .i64 r.kd,.int .i64 r.nm,.string ⟨r.tx.toArray⟩,.slice C r.ls.length f,.slice C' r.ms.length f'],.bool bb])∧InV w' (Lo Z) r (vA r C f C' f')∧Fr W w'):=Lib.hid (fun W hW=>by
     have h:=HGE.out nm W (HFW.out.trans hW)
     rcases hrb with ⟨rfl,hg⟩ | ⟨rfl,hg,rfl⟩
     ·rw [hg] at h;exact h
     ·rw [hg] at h;exact h.mono (fun e w' k=>⟨none,0,none,0,k.1,zeroV_in _ _,k.2⟩))
    have HRB:=Lib.hid hrb
    have HSW:Hid (∀ W,Fr wr W→W.cell? ⟨X2,0,none⟩=some (.int .i64 v.kd)∧W.cell? ⟨X2,1,none⟩=some (.int .i64 v.nm)∧W.cell? ⟨X2,2,none⟩=some (.string ⟨v.tx.toArray⟩)∧W.cell? ⟨X2,3,none⟩=some (.slice B v.ls.length d)∧W.cell? ⟨X2,4,none⟩=some (.slice B' v.ms.length d')∧W.cell? ⟨b,o+i,none⟩=some (.string WD)):=Lib.hid (fun W hW=>by
     have a:=HXR.out.keep hW
     exact ⟨a.cell 0,a.cell 1,a.cell 2,a.cell 3,a.cell 4,(hW.cell HBW.out).trans HWC.out⟩)
    clear hki hle hbw hwc hxr hrb hWD hwl hm hws
    go_upto_region 10 with fail
    clear hwc2
    go_cut [11,12] from 30 to 41 (fun q1 q2 wx=>∃ (X7:Nat) (C:Option Addr) (f:Nat) (C':Option Addr) (f':Nat),q1=.pointer (some ⟨X7,0,none⟩)∧q2=.bool bb∧Hid (wr.heap.size≤X7)∧Hid (Blk wx X7 #[.int .i64 r.kd,.int .i64 r.nm,.string ⟨r.tx.toArray⟩,.slice C r.ls.length f,.slice C' r.ms.length f'] 25)∧Hid (InV wx (Lo Z) r (vA r C f C' f'))∧Hid (Fr wr wx))
    case first=>
     refine wp_region_held_drew (S:=(fun W=>W.cell? ⟨X2,0,none⟩=some (.int .i64 v.kd)∧W.cell? ⟨X2,1,none⟩=some (.int .i64 v.nm)∧W.cell? ⟨X2,2,none⟩=some (.string ⟨v.tx.toArray⟩)∧W.cell? ⟨X2,3,none⟩=some (.slice B v.ls.length d)∧W.cell? ⟨X2,4,none⟩=some (.slice B' v.ms.length d')∧W.cell? ⟨b,o+i,none⟩=some (.string WD))) (by kernel_rfl) ?_ (fun hHeld=>?_)
     ·exact HSW.out _ (Fr.refl _).drew
     refine tk (i:=0) (v:=?_) rfl ⟨by rfl,?_⟩ hHeld ?_
     rotate_left
     ·(intro w' hSw;(try dsimp only at hSw);go_simp;try with_reducible rfl)
     try simp only [Act.put,fl]
     refine tk (i:=1) (v:=?_) rfl ⟨by rfl,?_⟩ hHeld ?_
     rotate_left
     ·(intro w' hSw;(try dsimp only at hSw);go_simp;try with_reducible rfl)
     try simp only [Act.put,fl]
     refine tk (i:=2) (v:=?_) rfl ⟨by rfl,?_⟩ hHeld ?_
     rotate_left
     ·(intro w' hSw;(try dsimp only at hSw);go_simp;try with_reducible rfl)
     try simp only [Act.put,fl]
     refine tk (i:=3) (v:=?_) rfl ⟨by rfl,?_⟩ hHeld ?_
     rotate_left
     ·(intro w' hSw;(try dsimp only at hSw);go_simp;try with_reducible rfl)
     try simp only [Act.put,fl]
     refine tk (i:=4) (v:=?_) rfl ⟨by rfl,?_⟩ hHeld ?_
     rotate_left
     ·(intro w' hSw;(try dsimp only at hSw);go_simp;try with_reducible rfl)
     try simp only [Act.put,fl]
     refine tk (i:=5) (v:=?_) rfl ⟨by rfl,?_⟩ hHeld ?_
     rotate_left
     ·(intro w' hSw;(try dsimp only at hSw);go_simp;try with_reducible rfl)
     try simp only [Act.put,fl]
     refine tk (i:=6) (v:=?_) rfl ⟨by rfl,?_⟩ hHeld ?_
     rotate_left
     ·(intro w' hSw;(try dsimp only at hSw);go_simp;try with_reducible rfl)
     try simp only [Act.put,fl]
     refine wpAnyH_ready (rs:=[7,11]) (by kernel_rfl) (by simp) ?_
     refine AllReadyH.cons rfl (fun K hK=>?_) (AllReadyH.cons rfl (fun K hK=>?_) AllReadyH.nil)
     ·go_simp
      (go_at_call 33;refine (HGE2.out _ (Fr.refl wr).drew).mono ?_;rintro e w1 ⟨C,f,C',f',rfl,hi,hf⟩;have HI:=Lib.hid hi;clear hi;have HF1:Hid (Fr wr w1):=Lib.hid ((Fr.refl wr).drew.trans hf);clear hf)
      refine hK.out _ _ (HSW.out _ HF1.out) (fun hH2=>?_)
      clear hK K
      try simp only [Act.put,fl]
      refine tk (i:=8) (v:=?_) rfl ⟨by rfl,?_⟩ hH2 ?_
      rotate_left
      ·(intro w' hSw;(try dsimp only at hSw);go_simp;try with_reducible rfl)
      try simp only [Act.put,fl]
      refine tk (i:=9) (v:=?_) rfl ⟨by rfl,?_⟩ hH2 ?_
      rotate_left
      ·(intro w' hSw;(try dsimp only at hSw);go_simp;try with_reducible rfl)
      try simp only [Act.put,fl]
      refine tk (i:=10) (v:=?_) rfl ⟨by rfl,?_⟩ hH2 ?_
      rotate_left
      ·(intro w' hSw;(try dsimp only at hSw);go_simp;try with_reducible rfl)
      try simp only [Act.put,fl]
      refine wpAnyH_ready (rs:=[11]) (by kernel_rfl) (by simp) ?_
      refine AllReadyH.cons rfl (fun K hK=>?_) AllReadyH.nil
      go_simp
      refine hK.out _ _ (HSW.out _ (HF1.out.alloc _)) (fun hH3=>?_)
      clear hK K
      try simp only [Act.put,fl]
      have hb7:Blk (w1.alloc (.cells #[.int .i64 0,.int .i64 0,.string ⟨#[]⟩,.slice none 0 0,.slice none 0 0] 25)) w1.heap.size #[.int .i64 0,.int .i64 0,.string ⟨#[]⟩,.slice none 0 0,.slice none 0 0] 25:=Blk.made w1 _ _
      have hf7:Fr wr (w1.alloc (.cells #[.int .i64 0,.int .i64 0,.string ⟨#[]⟩,.slice none 0 0,.slice none 0 0] 25)):=HF1.out.alloc _
      have HX7:Hid (wr.heap.size≤w1.heap.size):=Lib.hid HF1.out.size
      have hi7:InV (w1.alloc (.cells #[.int .i64 0,.int .i64 0,.string ⟨#[]⟩,.slice none 0 0,.slice none 0 0] 25)) (Lo Z) r (vA r C f C' f'):=HI.out.keep (Nat.le_trans HZR.out HX7.out) ((Fr.refl w1).alloc _)
      generalize (w1.alloc (.cells #[.int .i64 0,.int .i64 0,.string ⟨#[]⟩,.slice none 0 0,.slice none 0 0] 25))=W7 at hb7 hf7 hi7 ⊢
      generalize w1.heap.size=X7 at hb7 HX7 ⊢
      have HB7:=Lib.hid hb7
      have HF7:=Lib.hid hf7
      have HI7:=Lib.hid hi7
      clear hb7 hf7 hi7
      obtain ⟨⟨z0,z1,z2,z3,z4⟩,zf0,zf1,zf2,zf3,zf4⟩:=box5 HB7.out
      refine wpAnyH_ready (rs:=[12]) (by kernel_rfl) (by simp) ?_
      refine AllReadyH.cons rfl (fun K hK=>?_) AllReadyH.nil
      go_simp
      refine hK.out _ _ (HSW.out _ (st5_fr HF7.out HX7.out _ _ _ _ _)) (fun hH5=>?_)
      clear hK K
      try simp only [Act.put,fl]
      refine tk (i:=13) (v:=?_) rfl ⟨by rfl,?_⟩ hH5 ?_
      rotate_left
      ·(intro w' hSw;(try dsimp only at hSw);go_simp;try with_reducible rfl)
      try simp only [Act.put,fl]
      refine wpAnyH_done (by kernel_rfl) ?_ _
      have hb9:Blk (((((W7.setCell ⟨X7,0,none⟩ (.int .i64 r.kd)).setCell ⟨X7,1,none⟩ (.int .i64 r.nm)).setCell ⟨X7,2,none⟩ (.string ⟨r.tx.toArray⟩)).setCell ⟨X7,3,none⟩ (.slice C r.ls.length f)).setCell ⟨X7,4,none⟩ (.slice C' r.ms.length f')) X7 #[.int .i64 r.kd,.int .i64 r.nm,.string ⟨r.tx.toArray⟩,.slice C r.ls.length f,.slice C' r.ms.length f'] 25:=set5 HB7.out
      have hf9:Fr wr (((((W7.setCell ⟨X7,0,none⟩ (.int .i64 r.kd)).setCell ⟨X7,1,none⟩ (.int .i64 r.nm)).setCell ⟨X7,2,none⟩ (.string ⟨r.tx.toArray⟩)).setCell ⟨X7,3,none⟩ (.slice C r.ls.length f)).setCell ⟨X7,4,none⟩ (.slice C' r.ms.length f')):=st5_fr HF7.out HX7.out _ _ _ _ _
      have hi9:InV (((((W7.setCell ⟨X7,0,none⟩ (.int .i64 r.kd)).setCell ⟨X7,1,none⟩ (.int .i64 r.nm)).setCell ⟨X7,2,none⟩ (.string ⟨r.tx.toArray⟩)).setCell ⟨X7,3,none⟩ (.slice C r.ls.length f)).setCell ⟨X7,4,none⟩ (.slice C' r.ms.length f')) (Lo Z) r (vA r C f C' f'):=HI7.out.map (fun b hb=>hb) (fun b o hb=>(st5_frx W7 X7 _ _ _ _ _).cell (Nat.lt_of_lt_of_le hb (Nat.le_trans HZR.out HF7.out.size)) (fun e=>by subst e;exact absurd hb (Nat.not_lt.2 (Nat.le_trans HZR.out HX7.out))))
      clear z0 z1 z2 z3 z4 zf0 zf1 zf2 zf3 zf4
      generalize (((((W7.setCell ⟨X7,0,none⟩ (.int .i64 r.kd)).setCell ⟨X7,1,none⟩ (.int .i64 r.nm)).setCell ⟨X7,2,none⟩ (.string ⟨r.tx.toArray⟩)).setCell ⟨X7,3,none⟩ (.slice C r.ls.length f)).setCell ⟨X7,4,none⟩ (.slice C' r.ms.length f'))=W9 at hb9 hf9 hi9 ⊢
      have HB9:=Lib.hid hb9
      have HF9:=Lib.hid hf9
      have HI9:=Lib.hid hi9
      clear hb9 hf9 hi9
      repeat (first | go_skip | go_step)
      go_meet
      exact ⟨X7,C,f,C',f',rfl,rfl,HX7,HB9,HI9,HF9⟩
     ·go_simp
      refine hK.out _ _ (HSW.out _ ((Fr.refl wr).drew.alloc _)) (fun hH2=>?_)
      clear hK K
      try simp only [Act.put,fl]
      refine wpAnyH_ready (rs:=[7]) (by kernel_rfl) (by simp) ?_
      refine AllReadyH.cons rfl (fun K hK=>?_) AllReadyH.nil
      go_simp
      (go_at_call 33;refine (HGE2.out _ ((Fr.refl wr).drew.alloc _)).mono ?_;rintro e w1 ⟨C,f,C',f',rfl,hi,hf⟩;have HF7:Hid (Fr wr w1):=Lib.hid (((Fr.refl wr).drew.alloc _).trans hf);have HI7:=Lib.hid hi;have HB7:Hid (Blk w1 wr.heap.size #[.int .i64 0,.int .i64 0,.string ⟨#[]⟩,.slice none 0 0,.slice none 0 0] 25):=Lib.hid ((Blk.made wr.drew _ _).keep hf);have HX7:Hid (wr.heap.size≤wr.heap.size):=Lib.hid (Nat.le_refl _);clear hf hi)
      refine hK.out _ _ (HSW.out _ HF7.out) (fun hH3=>?_)
      clear hK K
      try simp only [Act.put,fl]
      refine tk (i:=8) (v:=?_) rfl ⟨by rfl,?_⟩ hH3 ?_
      rotate_left
      ·(intro w' hSw;(try dsimp only at hSw);go_simp;try with_reducible rfl)
      try simp only [Act.put,fl]
      refine tk (i:=9) (v:=?_) rfl ⟨by rfl,?_⟩ hH3 ?_
      rotate_left
      ·(intro w' hSw;(try dsimp only at hSw);go_simp;try with_reducible rfl)
      try simp only [Act.put,fl]
      refine tk (i:=10) (v:=?_) rfl ⟨by rfl,?_⟩ hH3 ?_
      rotate_left
      ·(intro w' hSw;(try dsimp only at hSw);go_simp;try with_reducible rfl)
      try simp only [Act.put,fl]
      obtain ⟨⟨z0,z1,z2,z3,z4⟩,zf0,zf1,zf2,zf3,zf4⟩:=box5 HB7.out
      refine wpAnyH_ready (rs:=[12]) (by kernel_rfl) (by simp) ?_
      refine AllReadyH.cons rfl (fun K hK=>?_) AllReadyH.nil
      go_simp
      refine hK.out _ _ (HSW.out _ (st5_fr HF7.out HX7.out _ _ _ _ _)) (fun hH5=>?_)
      clear hK K
      try simp only [Act.put,fl]
      refine tk (i:=13) (v:=?_) rfl ⟨by rfl,?_⟩ hH5 ?_
      rotate_left
      ·(intro w' hSw;(try dsimp only at hSw);go_simp;try with_reducible rfl)
      try simp only [Act.put,fl]
      refine wpAnyH_done (by kernel_rfl) ?_ _
      have hb9:Blk (((((w1.setCell ⟨wr.heap.size,0,none⟩ (.int .i64 r.kd)).setCell ⟨wr.heap.size,1,none⟩ (.int .i64 r.nm)).setCell ⟨wr.heap.size,2,none⟩ (.string ⟨r.tx.toArray⟩)).setCell ⟨wr.heap.size,3,none⟩ (.slice C r.ls.length f)).setCell ⟨wr.heap.size,4,none⟩ (.slice C' r.ms.length f')) wr.heap.size #[.int .i64 r.kd,.int .i64 r.nm,.string ⟨r.tx.toArray⟩,.slice C r.ls.length f,.slice C' r.ms.length f'] 25:=set5 HB7.out
      have hf9:Fr wr (((((w1.setCell ⟨wr.heap.size,0,none⟩ (.int .i64 r.kd)).setCell ⟨wr.heap.size,1,none⟩ (.int .i64 r.nm)).setCell ⟨wr.heap.size,2,none⟩ (.string ⟨r.tx.toArray⟩)).setCell ⟨wr.heap.size,3,none⟩ (.slice C r.ls.length f)).setCell ⟨wr.heap.size,4,none⟩ (.slice C' r.ms.length f')):=st5_fr HF7.out HX7.out _ _ _ _ _
      have hi9:InV (((((w1.setCell ⟨wr.heap.size,0,none⟩ (.int .i64 r.kd)).setCell ⟨wr.heap.size,1,none⟩ (.int .i64 r.nm)).setCell ⟨wr.heap.size,2,none⟩ (.string ⟨r.tx.toArray⟩)).setCell ⟨wr.heap.size,3,none⟩ (.slice C r.ls.length f)).setCell ⟨wr.heap.size,4,none⟩ (.slice C' r.ms.length f')) (Lo Z) r (vA r C f C' f'):=HI7.out.map (fun b hb=>hb) (fun b o hb=>(st5_frx w1 wr.heap.size _ _ _ _ _).cell (Nat.lt_of_lt_of_le hb (Nat.le_trans HZR.out HF7.out.size)) (fun e=>by subst e;exact absurd hb (Nat.not_lt.2 (Nat.le_trans HZR.out HX7.out))))
      clear z0 z1 z2 z3 z4 zf0 zf1 zf2 zf3 zf4
      generalize (((((w1.setCell ⟨wr.heap.size,0,none⟩ (.int .i64 r.kd)).setCell ⟨wr.heap.size,1,none⟩ (.int .i64 r.nm)).setCell ⟨wr.heap.size,2,none⟩ (.string ⟨r.tx.toArray⟩)).setCell ⟨wr.heap.size,3,none⟩ (.slice C r.ls.length f)).setCell ⟨wr.heap.size,4,none⟩ (.slice C' r.ms.length f'))=W9 at hb9 hf9 hi9 ⊢
      have HB9:=Lib.hid hb9
      have HF9:=Lib.hid hf9
      have HI9:=Lib.hid hi9
      clear hb9 hf9 hi9
      repeat (first | go_skip | go_step)
      go_meet
      exact ⟨wr.heap.size,C,f,C',f',rfl,rfl,HX7,HB9,HI9,HF9⟩
    obtain ⟨X7,C,f,C',f',rfl,rfl,hX7,hB9,hI9,hF9⟩:=hcut
    obtain ⟨W9,hW9⟩:∃ W,W=wc:=⟨wc,rfl⟩
    subst hW9
    clear HSW HGE2
    cases bb
    ·have HGT:Hid (Pt.get v nm=none∧r=JV.zeroV):=Lib.hid (by rcases HRB.out with ⟨h,_⟩ | ⟨_,h⟩;cases h;exact h)
     have HN2:Hid (Rf.hits v (ks.take i)+(if (Pt.get v nm).isSome then 1 else 0)=n):=Lib.hid (by rw [HGT.out.1,hN.out];rfl)
     obtain ⟨a,ha⟩:∃ a,Rf.nullV=a:=⟨_,rfl⟩
     have HAV:Hid (Rf.argv v nm=a):=Lib.hid (by unfold Rf.argv;rw [HGT.out.1,← ha];rfl)
     have HAB:Hid (JV.bulk a≤1048576):=Lib.hid (by rw [← ha];decide)
     have HAE:=Lib.hid ha
     obtain ⟨⟨x0,x1,x2,x3,x4⟩,xf0,xf1,xf2,xf3,xf4⟩:=box5 hB9.out
     go_upto_region 14 with fail
     have hb13:Blk (st5 W9 X7 (.int .i64 1) (.int .i64 0) (.string ⟨#[]⟩) (.slice none 0 0) (.slice none 0 0)) X7 #[.int .i64 1,.int .i64 0,.string ⟨#[]⟩,.slice none 0 0,.slice none 0 0] 25:=set5 hB9.out
     have hf13:Fr wr (st5 W9 X7 (.int .i64 1) (.int .i64 0) (.string ⟨#[]⟩) (.slice none 0 0) (.slice none 0 0)):=st5_fr hF9.out hX7.out _ _ _ _ _
     unfold st5 at hb13 hf13
     clear x0 x1 x2 x3 x4 xf0 xf1 xf2 xf3 xf4
     generalize (((((W9.setCell ⟨X7,0,none⟩ (.int .i64 1)).setCell ⟨X7,1,none⟩ (.int .i64 0)).setCell ⟨X7,2,none⟩ (.string ⟨#[]⟩)).setCell ⟨X7,3,none⟩ (.slice none 0 0)).setCell ⟨X7,4,none⟩ (.slice none 0 0))=W13 at hb13 hf13 ⊢
     obtain ⟨X13,hX13⟩:∃ X,X7=X:=⟨_,rfl⟩
     rw [hX13] at hb13 ⊢
     clear hX13
     have HF13:=Lib.hid hf13
     have HZ13:Hid (Z≤W13.heap.size):=Lib.hid (Nat.le_trans HZ.out (HFW.out.trans hf13).size)
     clear hI9 hB9
     obtain ⟨C,f,C',f',hb13'⟩:∃ (C:Option Addr) (f:Nat) (C':Option Addr) (f':Nat),Hid (C=none∧f=0∧C'=none∧f'=0):=⟨none,0,none,0,Lib.hid ⟨rfl,rfl,rfl,rfl⟩⟩
     have HB13:Hid (Blk W13 X13 #[.int .i64 a.kd,.int .i64 a.nm,.string ⟨a.tx.toArray⟩,.slice C a.ls.length f,.slice C' a.ms.length f'] 25):=Lib.hid (by obtain ⟨rfl,rfl,rfl,rfl⟩:=hb13'.out;rw [← HAE.out];exact hb13)
     have HIA:Hid (InV W13 (Lo Z) a (vA a C f C' f')):=Lib.hid (by obtain ⟨rfl,rfl,rfl,rfl⟩:=hb13'.out;rw [← HAE.out];exact nullV_in _ _)
     clear hb13 hf13 HAE ha
     have HSV:Hid (∀ W,Fr W13 W→W.cell? ⟨X13,0,none⟩=some (.int .i64 a.kd)∧W.cell? ⟨X13,1,none⟩=some (.int .i64 a.nm)∧W.cell? ⟨X13,2,none⟩=some (.string ⟨a.tx.toArray⟩)∧W.cell? ⟨X13,3,none⟩=some (.slice C a.ls.length f)∧W.cell? ⟨X13,4,none⟩=some (.slice C' a.ms.length f')∧W.cell? ⟨b,o+i,none⟩=some (.string WD)):=Lib.hid (fun W hW=>by
      have b2:=HB13.out.keep hW
      exact ⟨b2.cell 0,b2.cell 1,b2.cell 2,b2.cell 3,b2.cell 4,((HF13.out.trans hW).cell HBW.out).trans HWC.out⟩)
     obtain ⟨mb,hmb⟩:∃ b,Rf.may c a=b:=⟨_,rfl⟩
     have HMY:Hid (∀ W,Fr W13 W→Calls Tryz.prog 34 #[.int .u8 (c.toNat:Nat),.agg #[.int .i64 a.kd,.int .i64 a.nm,.string ⟨a.tx.toArray⟩,.slice C a.ls.length f,.slice C' a.ms.length f']] W fun e w'=>e=.returned (.bool mb)∧Fr W w'):=Lib.hid (fun W hW=>by
      rw [← hmb]
      exact rmay24_is c HCL.out a C f C' f' W ((HIA.out.keep HZ13.out hW).more (fun b hb=>Nat.lt_of_lt_of_le hb (Nat.le_trans HZ13.out hW.size))) HAB.out)
     have HMB:=Lib.hid hmb
     clear hmb
     cases mb
     ·have HR:Hid (Rf.args v ks=none):=Lib.hid (Rf.args_may (Rf.mays_no v ks i hlt (by rw [HKI.out,HAV.out];exact HMB.out)))
      refine wp_region_held_drew (S:=(fun W=>W.cell? ⟨X13,0,none⟩=some (.int .i64 a.kd)∧W.cell? ⟨X13,1,none⟩=some (.int .i64 a.nm)∧W.cell? ⟨X13,2,none⟩=some (.string ⟨a.tx.toArray⟩)∧W.cell? ⟨X13,3,none⟩=some (.slice C a.ls.length f)∧W.cell? ⟨X13,4,none⟩=some (.slice C' a.ms.length f')∧W.cell? ⟨b,o+i,none⟩=some (.string WD))) (by kernel_rfl) ?_ (fun hHeld=>?_)
      ·exact HSV.out _ (Fr.refl _).drew
      refine tk (i:=0) (v:=?_) rfl ⟨by rfl,?_⟩ hHeld ?_
      rotate_left
      ·(intro w' hSw;(try dsimp only at hSw);go_simp;try with_reducible rfl)
      try simp only [Act.put,fl]
      refine tk (i:=1) (v:=?_) rfl ⟨by rfl,?_⟩ hHeld ?_
      rotate_left
      ·(intro w' hSw;(try dsimp only at hSw);go_simp;try with_reducible rfl)
      try simp only [Act.put,fl]
      refine tk (i:=2) (v:=?_) rfl ⟨by rfl,?_⟩ hHeld ?_
      rotate_left
      ·(intro w' hSw;(try dsimp only at hSw);go_simp;try with_reducible rfl)
      try simp only [Act.put,fl]
      refine tk (i:=3) (v:=?_) rfl ⟨by rfl,?_⟩ hHeld ?_
      rotate_left
      ·(intro w' hSw;(try dsimp only at hSw);go_simp;try with_reducible rfl)
      try simp only [Act.put,fl]
      refine tk (i:=4) (v:=?_) rfl ⟨by rfl,?_⟩ hHeld ?_
      rotate_left
      ·(intro w' hSw;(try dsimp only at hSw);go_simp;try with_reducible rfl)
      try simp only [Act.put,fl]
      refine tk (i:=5) (v:=?_) rfl ⟨by rfl,?_⟩ hHeld ?_
      rotate_left
      ·(intro w' hSw;(try dsimp only at hSw);go_simp;try with_reducible rfl)
      try simp only [Act.put,fl]
      refine tk (i:=6) (v:=?_) rfl ⟨by rfl,?_⟩ hHeld ?_
      rotate_left
      ·(intro w' hSw;(try dsimp only at hSw);go_simp;try with_reducible rfl)
      try simp only [Act.put,fl]
      refine tk (i:=7) (v:=?_) rfl ⟨by rfl,?_⟩ hHeld ?_
      rotate_left
      ·(intro w' hSw;(try dsimp only at hSw);go_simp;try with_reducible rfl)
      try simp only [Act.put,fl]
      refine wpAnyH_ready (rs:=[8]) (by kernel_rfl) (by simp) ?_
      refine AllReadyH.cons rfl (fun K hK=>?_) AllReadyH.nil
      go_simp
      (go_at_call 34;refine (HMY.out _ (Fr.refl W13).drew).mono ?_;rintro e w14 ⟨rfl,hf⟩;have HG14:Hid (Fr W13 w14):=Lib.hid ((Fr.refl W13).drew.trans hf);clear hf)
      try (refine hK.out _ _ ?_ (fun hHeld2=>?_))
      ·exact HSV.out _ HG14.out
      clear hK K
      try simp only [Act.put,fl]
      refine tk (i:=9) (v:=?_) rfl ⟨by rfl,?_⟩ hHeld2 ?_
      rotate_left
      ·(intro w' hSw;(try dsimp only at hSw);go_simp;try with_reducible rfl)
      try simp only [Act.put,fl]
      refine wpAnyH_done (by kernel_rfl) ?_ _
      clear hHeld hHeld2
      repeat (first | go_skip | go_step)
      go_ret2
      rw [HR.out]
      exact ⟨rfl,(HFW.out.trans HF13.out).trans HG14.out⟩
     ·skip
      refine wp_region_held_drew (S:=(fun W=>W.cell? ⟨X13,0,none⟩=some (.int .i64 a.kd)∧W.cell? ⟨X13,1,none⟩=some (.int .i64 a.nm)∧W.cell? ⟨X13,2,none⟩=some (.string ⟨a.tx.toArray⟩)∧W.cell? ⟨X13,3,none⟩=some (.slice C a.ls.length f)∧W.cell? ⟨X13,4,none⟩=some (.slice C' a.ms.length f')∧W.cell? ⟨b,o+i,none⟩=some (.string WD))) (by kernel_rfl) ?_ (fun hHeld=>?_)
      ·exact HSV.out _ (Fr.refl _).drew
      refine tk (i:=0) (v:=?_) rfl ⟨by rfl,?_⟩ hHeld ?_
      rotate_left
      ·(intro w' hSw;(try dsimp only at hSw);go_simp;try with_reducible rfl)
      try simp only [Act.put,fl]
      refine tk (i:=1) (v:=?_) rfl ⟨by rfl,?_⟩ hHeld ?_
      rotate_left
      ·(intro w' hSw;(try dsimp only at hSw);go_simp;try with_reducible rfl)
      try simp only [Act.put,fl]
      refine tk (i:=2) (v:=?_) rfl ⟨by rfl,?_⟩ hHeld ?_
      rotate_left
      ·(intro w' hSw;(try dsimp only at hSw);go_simp;try with_reducible rfl)
      try simp only [Act.put,fl]
      refine tk (i:=3) (v:=?_) rfl ⟨by rfl,?_⟩ hHeld ?_
      rotate_left
      ·(intro w' hSw;(try dsimp only at hSw);go_simp;try with_reducible rfl)
      try simp only [Act.put,fl]
      refine tk (i:=4) (v:=?_) rfl ⟨by rfl,?_⟩ hHeld ?_
      rotate_left
      ·(intro w' hSw;(try dsimp only at hSw);go_simp;try with_reducible rfl)
      try simp only [Act.put,fl]
      refine tk (i:=5) (v:=?_) rfl ⟨by rfl,?_⟩ hHeld ?_
      rotate_left
      ·(intro w' hSw;(try dsimp only at hSw);go_simp;try with_reducible rfl)
      try simp only [Act.put,fl]
      refine tk (i:=6) (v:=?_) rfl ⟨by rfl,?_⟩ hHeld ?_
      rotate_left
      ·(intro w' hSw;(try dsimp only at hSw);go_simp;try with_reducible rfl)
      try simp only [Act.put,fl]
      refine tk (i:=7) (v:=?_) rfl ⟨by rfl,?_⟩ hHeld ?_
      rotate_left
      ·(intro w' hSw;(try dsimp only at hSw);go_simp;try with_reducible rfl)
      try simp only [Act.put,fl]
      refine wpAnyH_ready (rs:=[8]) (by kernel_rfl) (by simp) ?_
      refine AllReadyH.cons rfl (fun K hK=>?_) AllReadyH.nil
      go_simp
      (go_at_call 34;refine (HMY.out _ (Fr.refl W13).drew).mono ?_;rintro e w14 ⟨rfl,hf⟩;have HG14:Hid (Fr W13 w14):=Lib.hid ((Fr.refl W13).drew.trans hf);clear hf)
      try (refine hK.out _ _ ?_ (fun hHeld2=>?_))
      ·exact HSV.out _ HG14.out
      clear hK K
      try simp only [Act.put,fl]
      refine tk (i:=9) (v:=?_) rfl ⟨by rfl,?_⟩ hHeld2 ?_
      rotate_left
      ·(intro w' hSw;(try dsimp only at hSw);go_simp;try with_reducible rfl)
      try simp only [Act.put,fl]
      refine wpAnyH_done (by kernel_rfl) ?_ _
      obtain ⟨W15,hW15⟩:∃ W,W=w14:=⟨_,rfl⟩
      subst hW15
      obtain ⟨⟨x0,x1,x2,x3,x4⟩,_⟩:=box5 (HB13.out.keep HG14.out)
      have HVS:Hid (VsB W15 Z K (.slice sa i sc) acc):=Lib.hid (by rw [← HAL.out];exact hV.out.keep (HF13.out.trans HG14.out))
      have HIA2:Hid (InV W15 (InB Z K W15 (.slice sa i sc)) a (vA a C f C' f')):=Lib.hid ((HIA.out.keep HZ13.out HG14.out).more (fun b hb=>.inl hb))
      have hk63:(acc.length+1)*80≤140737488355328:=by have:=HAL.out;omega
      clear hHeld hHeld2
      go_wp2_with (at_builtin;refine wpl_vB_lit rfl (.tmp 55) (.tmp 57) rfl Z K _ acc rfl HVS.out a C f C' f' rfl HIA2.out rfl (by simp) hk63 ?_;intro v4 w4 hv4 hg4;obtain ⟨a4,c4,rfl⟩:=hv4.is_slice2 (n:=1) rfl;have HV4:=Lib.hid hv4;have HF4:Hid (Fr W4 w4):=Lib.hid (vsb_frC (((hF.out.trans HF13.out).trans HG14.out).alloc _) (HVS.out.keep ((Fr.refl _).alloc _)) HKK.out hg4);clear hv4 hg4)
      exact ⟨⟨i+1,n,acc++[a],_,by omega,by omega,rfl,rfl,by go_num,by simp;exact HAL.out,HV4,Lib.hid (by rw [Rf.hits_take v ks i hlt,HKI.out,HN2.out]),Lib.hid (by rw [Rf.mays_take v ks i hlt,hM.out,HKI.out,HAV.out];exact HMB.out),Lib.hid (by rw [Rf.take_one ks i hlt,List.map_append,hA.out,HKI.out];show _=_++[Rf.argv v nm];rw [HAV.out]),HF4⟩,by simp [intOf];omega⟩
    ·have HGT:Hid (Pt.get v nm=some r):=Lib.hid (by rcases HRB.out with ⟨_,h⟩ | ⟨h,_⟩;exact h;cases h)
     have HN2:Hid (Rf.hits v (ks.take i)+(if (Pt.get v nm).isSome then 1 else 0)=n+1):=Lib.hid (by rw [HGT.out,hN.out];rfl)
     have HAV:Hid (Rf.argv v nm=r):=Lib.hid (by unfold Rf.argv;rw [HGT.out];rfl)
     have HAB:Hid (JV.bulk r≤1048576):=Lib.hid (by rw [← HAV.out];exact Rf.argv_big HBV.out (by decide))
     obtain ⟨W13,hW13⟩:∃ W,W=W9:=⟨_,rfl⟩
     subst hW13
     obtain ⟨X13,hX13⟩:∃ X,X=X7:=⟨_,rfl⟩
     subst hX13
     have HF13:=hF9
     have HB13:=hB9
     have HIA:=hI9
     have HZ13:Hid (Z≤W13.heap.size):=Lib.hid (Nat.le_trans HZ.out (HFW.out.trans HF13.out).size)
     go_upto_region 14 with fail
     have HSV:Hid (∀ W,Fr W13 W→W.cell? ⟨X13,0,none⟩=some (.int .i64 r.kd)∧W.cell? ⟨X13,1,none⟩=some (.int .i64 r.nm)∧W.cell? ⟨X13,2,none⟩=some (.string ⟨r.tx.toArray⟩)∧W.cell? ⟨X13,3,none⟩=some (.slice C r.ls.length f)∧W.cell? ⟨X13,4,none⟩=some (.slice C' r.ms.length f')∧W.cell? ⟨b,o+i,none⟩=some (.string WD)):=Lib.hid (fun W hW=>by
      have b2:=HB13.out.keep hW
      exact ⟨b2.cell 0,b2.cell 1,b2.cell 2,b2.cell 3,b2.cell 4,((HF13.out.trans hW).cell HBW.out).trans HWC.out⟩)
     obtain ⟨mb,hmb⟩:∃ b,Rf.may c r=b:=⟨_,rfl⟩
     have HMY:Hid (∀ W,Fr W13 W→Calls Tryz.prog 34 #[.int .u8 (c.toNat:Nat),.agg #[.int .i64 r.kd,.int .i64 r.nm,.string ⟨r.tx.toArray⟩,.slice C r.ls.length f,.slice C' r.ms.length f']] W fun e w'=>e=.returned (.bool mb)∧Fr W w'):=Lib.hid (fun W hW=>by
      rw [← hmb]
      exact rmay24_is c HCL.out r C f C' f' W ((HIA.out.keep HZ13.out hW).more (fun b hb=>Nat.lt_of_lt_of_le hb (Nat.le_trans HZ13.out hW.size))) HAB.out)
     have HMB:=Lib.hid hmb
     clear hmb
     cases mb
     ·have HR:Hid (Rf.args v ks=none):=Lib.hid (Rf.args_may (Rf.mays_no v ks i hlt (by rw [HKI.out,HAV.out];exact HMB.out)))
      refine wp_region_held_drew (S:=(fun W=>W.cell? ⟨X13,0,none⟩=some (.int .i64 r.kd)∧W.cell? ⟨X13,1,none⟩=some (.int .i64 r.nm)∧W.cell? ⟨X13,2,none⟩=some (.string ⟨r.tx.toArray⟩)∧W.cell? ⟨X13,3,none⟩=some (.slice C r.ls.length f)∧W.cell? ⟨X13,4,none⟩=some (.slice C' r.ms.length f')∧W.cell? ⟨b,o+i,none⟩=some (.string WD))) (by kernel_rfl) ?_ (fun hHeld=>?_)
      ·exact HSV.out _ (Fr.refl _).drew
      refine tk (i:=0) (v:=?_) rfl ⟨by rfl,?_⟩ hHeld ?_
      rotate_left
      ·(intro w' hSw;(try dsimp only at hSw);go_simp;try with_reducible rfl)
      try simp only [Act.put,fl]
      refine tk (i:=1) (v:=?_) rfl ⟨by rfl,?_⟩ hHeld ?_
      rotate_left
      ·(intro w' hSw;(try dsimp only at hSw);go_simp;try with_reducible rfl)
      try simp only [Act.put,fl]
      refine tk (i:=2) (v:=?_) rfl ⟨by rfl,?_⟩ hHeld ?_
      rotate_left
      ·(intro w' hSw;(try dsimp only at hSw);go_simp;try with_reducible rfl)
      try simp only [Act.put,fl]
      refine tk (i:=3) (v:=?_) rfl ⟨by rfl,?_⟩ hHeld ?_
      rotate_left
      ·(intro w' hSw;(try dsimp only at hSw);go_simp;try with_reducible rfl)
      try simp only [Act.put,fl]
      refine tk (i:=4) (v:=?_) rfl ⟨by rfl,?_⟩ hHeld ?_
      rotate_left
      ·(intro w' hSw;(try dsimp only at hSw);go_simp;try with_reducible rfl)
      try simp only [Act.put,fl]
      refine tk (i:=5) (v:=?_) rfl ⟨by rfl,?_⟩ hHeld ?_
      rotate_left
      ·(intro w' hSw;(try dsimp only at hSw);go_simp;try with_reducible rfl)
      try simp only [Act.put,fl]
      refine tk (i:=6) (v:=?_) rfl ⟨by rfl,?_⟩ hHeld ?_
      rotate_left
      ·(intro w' hSw;(try dsimp only at hSw);go_simp;try with_reducible rfl)
      try simp only [Act.put,fl]
      refine tk (i:=7) (v:=?_) rfl ⟨by rfl,?_⟩ hHeld ?_
      rotate_left
      ·(intro w' hSw;(try dsimp only at hSw);go_simp;try with_reducible rfl)
      try simp only [Act.put,fl]
      refine wpAnyH_ready (rs:=[8]) (by kernel_rfl) (by simp) ?_
      refine AllReadyH.cons rfl (fun K hK=>?_) AllReadyH.nil
      go_simp
      (go_at_call 34;refine (HMY.out _ (Fr.refl W13).drew).mono ?_;rintro e w14 ⟨rfl,hf⟩;have HG14:Hid (Fr W13 w14):=Lib.hid ((Fr.refl W13).drew.trans hf);clear hf)
      try (refine hK.out _ _ ?_ (fun hHeld2=>?_))
      ·exact HSV.out _ HG14.out
      clear hK K
      try simp only [Act.put,fl]
      refine tk (i:=9) (v:=?_) rfl ⟨by rfl,?_⟩ hHeld2 ?_
      rotate_left
      ·(intro w' hSw;(try dsimp only at hSw);go_simp;try with_reducible rfl)
      try simp only [Act.put,fl]
      refine wpAnyH_done (by kernel_rfl) ?_ _
      clear hHeld hHeld2
      repeat (first | go_skip | go_step)
      go_ret2
      rw [HR.out]
      exact ⟨rfl,(HFW.out.trans HF13.out).trans HG14.out⟩
     ·skip
      refine wp_region_held_drew (S:=(fun W=>W.cell? ⟨X13,0,none⟩=some (.int .i64 r.kd)∧W.cell? ⟨X13,1,none⟩=some (.int .i64 r.nm)∧W.cell? ⟨X13,2,none⟩=some (.string ⟨r.tx.toArray⟩)∧W.cell? ⟨X13,3,none⟩=some (.slice C r.ls.length f)∧W.cell? ⟨X13,4,none⟩=some (.slice C' r.ms.length f')∧W.cell? ⟨b,o+i,none⟩=some (.string WD))) (by kernel_rfl) ?_ (fun hHeld=>?_)
      ·exact HSV.out _ (Fr.refl _).drew
      refine tk (i:=0) (v:=?_) rfl ⟨by rfl,?_⟩ hHeld ?_
      rotate_left
      ·(intro w' hSw;(try dsimp only at hSw);go_simp;try with_reducible rfl)
      try simp only [Act.put,fl]
      refine tk (i:=1) (v:=?_) rfl ⟨by rfl,?_⟩ hHeld ?_
      rotate_left
      ·(intro w' hSw;(try dsimp only at hSw);go_simp;try with_reducible rfl)
      try simp only [Act.put,fl]
      refine tk (i:=2) (v:=?_) rfl ⟨by rfl,?_⟩ hHeld ?_
      rotate_left
      ·(intro w' hSw;(try dsimp only at hSw);go_simp;try with_reducible rfl)
      try simp only [Act.put,fl]
      refine tk (i:=3) (v:=?_) rfl ⟨by rfl,?_⟩ hHeld ?_
      rotate_left
      ·(intro w' hSw;(try dsimp only at hSw);go_simp;try with_reducible rfl)
      try simp only [Act.put,fl]
      refine tk (i:=4) (v:=?_) rfl ⟨by rfl,?_⟩ hHeld ?_
      rotate_left
      ·(intro w' hSw;(try dsimp only at hSw);go_simp;try with_reducible rfl)
      try simp only [Act.put,fl]
      refine tk (i:=5) (v:=?_) rfl ⟨by rfl,?_⟩ hHeld ?_
      rotate_left
      ·(intro w' hSw;(try dsimp only at hSw);go_simp;try with_reducible rfl)
      try simp only [Act.put,fl]
      refine tk (i:=6) (v:=?_) rfl ⟨by rfl,?_⟩ hHeld ?_
      rotate_left
      ·(intro w' hSw;(try dsimp only at hSw);go_simp;try with_reducible rfl)
      try simp only [Act.put,fl]
      refine tk (i:=7) (v:=?_) rfl ⟨by rfl,?_⟩ hHeld ?_
      rotate_left
      ·(intro w' hSw;(try dsimp only at hSw);go_simp;try with_reducible rfl)
      try simp only [Act.put,fl]
      refine wpAnyH_ready (rs:=[8]) (by kernel_rfl) (by simp) ?_
      refine AllReadyH.cons rfl (fun K hK=>?_) AllReadyH.nil
      go_simp
      (go_at_call 34;refine (HMY.out _ (Fr.refl W13).drew).mono ?_;rintro e w14 ⟨rfl,hf⟩;have HG14:Hid (Fr W13 w14):=Lib.hid ((Fr.refl W13).drew.trans hf);clear hf)
      try (refine hK.out _ _ ?_ (fun hHeld2=>?_))
      ·exact HSV.out _ HG14.out
      clear hK K
      try simp only [Act.put,fl]
      refine tk (i:=9) (v:=?_) rfl ⟨by rfl,?_⟩ hHeld2 ?_
      rotate_left
      ·(intro w' hSw;(try dsimp only at hSw);go_simp;try with_reducible rfl)
      try simp only [Act.put,fl]
      refine wpAnyH_done (by kernel_rfl) ?_ _
      obtain ⟨W15,hW15⟩:∃ W,W=w14:=⟨_,rfl⟩
      subst hW15
      obtain ⟨⟨x0,x1,x2,x3,x4⟩,_⟩:=box5 (HB13.out.keep HG14.out)
      have HVS:Hid (VsB W15 Z K (.slice sa i sc) acc):=Lib.hid (by rw [← HAL.out];exact hV.out.keep (HF13.out.trans HG14.out))
      have HIA2:Hid (InV W15 (InB Z K W15 (.slice sa i sc)) r (vA r C f C' f')):=Lib.hid ((HIA.out.keep HZ13.out HG14.out).more (fun b hb=>.inl hb))
      have hk63:(acc.length+1)*80≤140737488355328:=by have:=HAL.out;omega
      clear hHeld hHeld2
      go_wp2_with (at_builtin;refine wpl_vB_lit rfl (.tmp 55) (.tmp 57) rfl Z K _ acc rfl HVS.out r C f C' f' rfl HIA2.out rfl (by simp) hk63 ?_;intro v4 w4 hv4 hg4;obtain ⟨a4,c4,rfl⟩:=hv4.is_slice2 (n:=1) rfl;have HV4:=Lib.hid hv4;have HF4:Hid (Fr W4 w4):=Lib.hid (vsb_frC (((hF.out.trans HF13.out).trans HG14.out).alloc _) (HVS.out.keep ((Fr.refl _).alloc _)) HKK.out hg4);clear hv4 hg4)
      exact ⟨⟨i+1,n+1,acc++[r],_,by omega,by omega,rfl,rfl,by go_num,by simp;exact HAL.out,HV4,Lib.hid (by rw [Rf.hits_take v ks i hlt,HKI.out,HN2.out]),Lib.hid (by rw [Rf.mays_take v ks i hlt,hM.out,HKI.out,HAV.out];exact HMB.out),Lib.hid (by rw [Rf.take_one ks i hlt,List.map_append,hA.out,HKI.out];show _=_++[Rf.argv v nm];rw [HAV.out]),HF4⟩,by simp [intOf];omega⟩
   ·obtain rfl:i=ks.length:=by omega
    have HNH:=Lib.hid (show Rf.hits v ks=n by have:=hN.out;rwa [List.take_length] at this)
    have HMH:=Lib.hid (show Rf.mays v ks=true by have:=hM.out;rwa [List.take_length] at this)
    have HAH:=Lib.hid (show acc=ks.map (fun k=>Rf.argv v k.1) by have:=hA.out;rwa [List.take_length] at this)
    obtain ⟨⟨x0,x1,x2,x3,x4⟩,_⟩:=box5 (HX4.out.keep hF.out)
    by_cases hnm:n=v.ms.length
    ·have e1:((n:Int) != (v.ms.length:Int))=false:=by rw [hnm];simp
     have HR:Hid (Rf.args v ks=some acc):=Lib.hid (by rw [Rf.args_ok HK6.out HMH.out (HNH.out.trans hnm),HAH.out])
     have HVZ:=hV
     clear hnm
     go_wp2_with fail
     go_ret2
     rw [HR.out]
     exact ⟨⟨sa,sc,rfl,VsB.lsC (K:=K) HVZ.out (by omega)⟩,HFW.out⟩
    ·have e1:((n:Int) != (v.ms.length:Int))=true:=by rw [bne_iff_ne];omega
     have HR:Hid (Rf.args v ks=none):=Lib.hid (Rf.args_hits (by rw [HNH.out];exact hnm))
     clear hnm
     go_wp2_with fail
     go_ret2
     rw [HR.out]
     exact ⟨rfl,HFW.out⟩
 ·have q6:(v.kd != 6)=true:=by rw [bne_iff_ne];exact h6
  have HR:Hid (Rf.args v ks=none):=Lib.hid (Rf.args_kd h6)
  obtain ⟨⟨x0,x1,x2,x3,x4⟩,_⟩:=box5 hx0
  have HF0:=Lib.hid hf0
  clear hx0 hf0 h6 h hk
  go_enter Tryz.func11,Tryz.ntmps11
  go_wp2_with fail
  go_ret2
  rw [HR.out]
  exact ⟨rfl,HF0.out⟩
/- RefsArgs' walk. -/

theorem refsargs_law (v:JV) (B:Option Addr) (d:Nat) (B':Option Addr) (d':Nat) (n0:Int) (hn0:0≤n0) (hn255:n0≤255) (w:World) (hv:InV w (Lo w.heap.size) v (vA v B d B' d')) (hbv:JV.bulk v≤1048576) (hT:LowTabs w) (hS:SpTab w) (hM:MxL w):
  Calls Tryz.prog 3 #[vA v B d B' d',.int .u8 n0] w fun e w'=>e=.returned (.bool true)∧Fr w w':=by
 obtain ⟨n,rfl⟩:=Int.eq_ofNat_of_zero_le hn0
 show Calls Tryz.prog 3 #[.agg #[.int .i64 v.kd,.int .i64 v.nm,.string ⟨v.tx.toArray⟩,.slice B v.ls.length d,.slice B' v.ms.length d'],.int .u8 (n:Nat)] w _
 have HT:=Lib.hid hT
 have HS:=Lib.hid hS
 have HM:=Lib.hid hM
 have HKV:Hid (∀ W,Fr w W→InV W (Lo W.heap.size) v (vA v B d B' d')):=Lib.hid (fun W hW=>(hv.keep (Nat.le_refl _) hW).lo hW.size)
 have HFW:Hid (∀ W,Fr w W→Calls Tryz.prog 8 #[.agg #[.int .i64 v.kd,.int .i64 v.nm,.string ⟨v.tx.toArray⟩,.slice B v.ls.length d,.slice B' v.ms.length d'],.int .i64 1000] W fun e w'=>(∃ b:Bool,e=.returned (.bool b))∧Fr W w'):=Lib.hid (fun W hW=>few7_is v B d B' d' W (HKV.out W hW) (Nat.le_trans (Rf.nv_big v) hbv) 1000 (by decide) (by decide))
 obtain ⟨s,ks,hks,hsp,hkn⟩:∃ s ks,KsOk s ks∧Rf.spl [] s=ks.map Rf.wordOf ∧ ∀ W,Calls Tryz.prog 10 #[.int .u8 (n:Nat)] W fun e w'=>e=.returned (.string ⟨s.toArray⟩)∧Fr W w':=⟨_,_,(kind6_ok (n % 6)).1,(kind6_ok (n % 6)).2,fun W=>kinds_is n (by omega) W⟩
 have HKI:=Lib.hid hkn
 have HA1:Hid (∀ W,Fr w W→Calls Tryz.prog 9 #[.agg #[.int .i64 v.kd,.int .i64 v.nm,.string ⟨v.tx.toArray⟩,.slice B v.ls.length d,.slice B' v.ms.length d'],.string ⟨s.toArray⟩] W fun e w'=>ArP (Rf.args v ks) e w'∧Fr W w'):=Lib.hid (fun W hW=>rargs_is s ks hks v B d B' d' W W.heap.size (Nat.le_refl _) (HKV.out W hW) hbv (hM.keep hW) (hS.keep hW))
 have HA2:Hid (∀ W,Fr w W→Calls Tryz.prog 11 #[.agg #[.int .i64 v.kd,.int .i64 v.nm,.string ⟨v.tx.toArray⟩,.slice B v.ls.length d,.slice B' v.ms.length d'],.string ⟨s.toArray⟩] W fun e w'=>ArP (Rf.args v ks) e w'∧Fr W w'):=Lib.hid (fun W hW=>refargs_is s ks hks hsp v B d B' d' W W.heap.size (Nat.le_refl _) (HKV.out W hW) hbv)
 obtain ⟨r,hr⟩:∃ r,Rf.args v ks=r:=⟨_,rfl⟩
 rw [hr] at HA1 HA2
 have HLN:Hid (∀ L,r=some L→L.length≤100):=Lib.hid (fun L h=>by
  rw [h] at hr
  unfold Rf.args at hr
  split at hr
  ·have:=Option.some.inj hr
   rw [← this,List.length_map];exact hks.few
  ·cases hr)
 clear hv hbv hT hS hM hks hsp hkn hr
 go_enter Tryz.func3,Tryz.ntmps3
 go_upto_region 1 with fail
 have hx0:Blk (w.alloc (.cells #[.int .i64 v.kd,.int .i64 v.nm,.string ⟨v.tx.toArray⟩,.slice B v.ls.length d,.slice B' v.ms.length d'] 25)) w.heap.size #[.int .i64 v.kd,.int .i64 v.nm,.string ⟨v.tx.toArray⟩,.slice B v.ls.length d,.slice B' v.ms.length d'] 25:=Blk.made w _ _
 have hf0:Fr w (w.alloc (.cells #[.int .i64 v.kd,.int .i64 v.nm,.string ⟨v.tx.toArray⟩,.slice B v.ls.length d,.slice B' v.ms.length d'] 25)):=(Fr.refl w).alloc _
 generalize (w.alloc (.cells #[.int .i64 v.kd,.int .i64 v.nm,.string ⟨v.tx.toArray⟩,.slice B v.ls.length d,.slice B' v.ms.length d'] 25))=W0 at hx0 hf0 ⊢
 obtain ⟨X2,hX2⟩:∃ X,w.heap.size=X:=⟨_,rfl⟩
 have HX2:=Lib.hid hX2
 rw [hX2] at hx0 ⊢
 clear hX2
 obtain ⟨⟨x0,x1,x2,x3,x4⟩,_⟩:=box5 hx0
 have HX0:=Lib.hid hx0
 have HF0:=Lib.hid hf0
 clear hx0 hf0
 go_upto_region 3 with (first
  | (go_at_call 8;have hq:=HFa.out;refine (HFW.out _ (HF0.out.trans hq)).mono ?_;rintro e w1 ⟨⟨b1,rfl⟩,hf⟩;clear y0 y1 y2 y3 y4;obtain ⟨⟨y0,y1,y2,y3,y4⟩,_⟩:=box5 (HX0.out.keep (hq.trans hf));have HF1:=Lib.hid (hq.trans hf);clear hf hq;cases b1)
  | (go_at_call 7;refine (awake24 _ (HT.out.keep HF0.out) (HS.out.keep HF0.out) (HM.out.keep HF0.out)).mono ?_;rintro e wa ⟨rfl,hf⟩;obtain ⟨⟨y0,y1,y2,y3,y4⟩,_⟩:=box5 (HX0.out.keep hf);have HFa:=Lib.hid hf;clear hf))
 ·go_wp2_with (go_at_call 7;have hq:=HF1.out;refine (awake24 _ (HT.out.keep (HF0.out.trans hq)) (HS.out.keep (HF0.out.trans hq)) (HM.out.keep (HF0.out.trans hq))).mono ?_;rintro e w9 ⟨rfl,hf⟩;have HF9:=Lib.hid ((HF0.out.trans hq).trans hf);clear hf hq)
  go_ret
  exact ⟨rfl,HF9.out⟩
 clear x0 x1 x2 x3 x4 y0 y1 y2 y3 y4
 obtain ⟨W1,hW1⟩:∃ W,W=w1:=⟨_,rfl⟩
 subst hW1
 have HFW1:Hid (Fr w W1):=Lib.hid (HF0.out.trans HF1.out)
 have HX1:=Lib.hid (HX0.out.keep HF1.out)
 have HSX:Hid (∀ W,Fr W1 W→W.cell? ⟨X2,0,none⟩=some (.int .i64 v.kd)∧W.cell? ⟨X2,1,none⟩=some (.int .i64 v.nm)∧W.cell? ⟨X2,2,none⟩=some (.string ⟨v.tx.toArray⟩)∧W.cell? ⟨X2,3,none⟩=some (.slice B v.ls.length d)∧W.cell? ⟨X2,4,none⟩=some (.slice B' v.ms.length d')):=Lib.hid (fun W hW=>by
  have a:=HX1.out.keep hW
  exact ⟨a.cell 0,a.cell 1,a.cell 2,a.cell 3,a.cell 4⟩)
 have HB1:Hid (∀ W,Fr W1 W→Calls Tryz.prog 9 #[.agg #[.int .i64 v.kd,.int .i64 v.nm,.string ⟨v.tx.toArray⟩,.slice B v.ls.length d,.slice B' v.ms.length d'],.string ⟨s.toArray⟩] W fun e w'=>ArP r e w'∧Fr W w'):=Lib.hid (fun W hW=>HA1.out W (HFW1.out.trans hW))
 have HB2:Hid (∀ W,Fr W1 W→Calls Tryz.prog 11 #[.agg #[.int .i64 v.kd,.int .i64 v.nm,.string ⟨v.tx.toArray⟩,.slice B v.ls.length d,.slice B' v.ms.length d'],.string ⟨s.toArray⟩] W fun e w'=>ArP r e w'∧Fr W w'):=Lib.hid (fun W hW=>HA2.out W (HFW1.out.trans hW))
 clear HA1 HA2 HFa HF1 HX0 HF0 HFW
 cases r with
 | none=>
  have HA1:Hid (∀ W,Fr W1 W→Calls Tryz.prog 9 #[.agg #[.int .i64 v.kd,.int .i64 v.nm,.string ⟨v.tx.toArray⟩,.slice B v.ls.length d,.slice B' v.ms.length d'],.string ⟨s.toArray⟩] W fun e w'=>e=.returned (.tuple #[.slice none 0 0,.int .i64 1])∧Fr W w'):=HB1
  have HA2:Hid (∀ W,Fr W1 W→Calls Tryz.prog 11 #[.agg #[.int .i64 v.kd,.int .i64 v.nm,.string ⟨v.tx.toArray⟩,.slice B v.ls.length d,.slice B' v.ms.length d'],.string ⟨s.toArray⟩] W fun e w'=>e=.returned (.tuple #[.slice none 0 0,.int .i64 1])∧Fr W w'):=HB2
  clear HB1 HB2
  refine wp_region_held_drew (S:=(fun W=>W.cell? ⟨X2,0,none⟩=some (.int .i64 v.kd)∧W.cell? ⟨X2,1,none⟩=some (.int .i64 v.nm)∧W.cell? ⟨X2,2,none⟩=some (.string ⟨v.tx.toArray⟩)∧W.cell? ⟨X2,3,none⟩=some (.slice B v.ls.length d)∧W.cell? ⟨X2,4,none⟩=some (.slice B' v.ms.length d'))) (by kernel_rfl) ?_ (fun hHeld=>?_)
  ·exact HSX.out _ ((Fr.refl W1).drew)
  refine tk (i:=0) (v:=?_) rfl ⟨by rfl,?_⟩ hHeld ?_
  rotate_left
  ·(intro w' hSw;(try dsimp only at hSw);go_simp;try with_reducible rfl)
  try simp only [Act.put,fl]
  refine tk (i:=1) (v:=?_) rfl ⟨by rfl,?_⟩ hHeld ?_
  rotate_left
  ·(intro w' hSw;(try dsimp only at hSw);go_simp;try with_reducible rfl)
  try simp only [Act.put,fl]
  refine wpAnyH_ready (rs:=[2]) (by kernel_rfl) (by simp) ?_
  refine AllReadyH.cons rfl (fun K hK=>?_) AllReadyH.nil
  go_simp
  (go_at_call 10;refine (HKI.out _).mono ?_;rintro e wk3 ⟨rfl,hf⟩;have HK3:Hid (Fr W1 wk3):=Lib.hid (((Fr.refl W1).drew).trans hf);clear hf)
  try (refine hK.out _ _ ?_ (fun hHeld2=>?_))
  ·exact HSX.out _ HK3.out
  clear hK K
  try simp only [Act.put,fl]
  refine wpAnyH_ready (rs:=[3]) (by kernel_rfl) (by simp) ?_
  refine AllReadyH.cons rfl (fun K hK=>?_) AllReadyH.nil
  go_simp
  (go_at_call 9;refine (HA1.out _ HK3.out).mono ?_;rintro e wa3 ⟨rfl,hf⟩;have HA3:Hid (Fr W1 wa3):=Lib.hid (HK3.out.trans hf);clear hf)
  try (refine hK.out _ _ ?_ (fun hHeld2=>?_))
  ·exact HSX.out _ HA3.out
  clear hK K
  try simp only [Act.put,fl]
  refine tk (i:=4) (v:=?_) rfl ⟨by rfl,?_⟩ hHeld2 ?_
  rotate_left
  ·(intro w' hSw;(try dsimp only at hSw);go_simp;try with_reducible rfl)
  try simp only [Act.put,fl]
  refine tk (i:=5) (v:=?_) rfl ⟨by rfl,?_⟩ hHeld2 ?_
  rotate_left
  ·(intro w' hSw;(try dsimp only at hSw);go_simp;try with_reducible rfl)
  try simp only [Act.put,fl]
  refine tk (i:=6) (v:=?_) rfl ⟨by rfl,?_⟩ hHeld2 ?_
  rotate_left
  ·(intro w' hSw;(try dsimp only at hSw);go_simp;try with_reducible rfl)
  try simp only [Act.put,fl]
  refine tk (i:=7) (v:=?_) rfl ⟨by rfl,?_⟩ hHeld2 ?_
  rotate_left
  ·(intro w' hSw;(try dsimp only at hSw);go_simp;try with_reducible rfl)
  try simp only [Act.put,fl]
  refine tk (i:=8) (v:=?_) rfl ⟨by rfl,?_⟩ hHeld2 ?_
  rotate_left
  ·(intro w' hSw;(try dsimp only at hSw);go_simp;try with_reducible rfl)
  try simp only [Act.put,fl]
  refine wpAnyH_done (by kernel_rfl) ?_ _
  clear hHeld hHeld2
  go_upto_region 4 with fail
  refine wp_region_held_drew (S:=(fun W=>W.cell? ⟨X2,0,none⟩=some (.int .i64 v.kd)∧W.cell? ⟨X2,1,none⟩=some (.int .i64 v.nm)∧W.cell? ⟨X2,2,none⟩=some (.string ⟨v.tx.toArray⟩)∧W.cell? ⟨X2,3,none⟩=some (.slice B v.ls.length d)∧W.cell? ⟨X2,4,none⟩=some (.slice B' v.ms.length d'))) (by kernel_rfl) ?_ (fun hHeld=>?_)
  ·exact HSX.out _ ((HA3.out).drew)
  refine tk (i:=0) (v:=?_) rfl ⟨by rfl,?_⟩ hHeld ?_
  rotate_left
  ·(intro w' hSw;(try dsimp only at hSw);go_simp;try with_reducible rfl)
  try simp only [Act.put,fl]
  refine tk (i:=1) (v:=?_) rfl ⟨by rfl,?_⟩ hHeld ?_
  rotate_left
  ·(intro w' hSw;(try dsimp only at hSw);go_simp;try with_reducible rfl)
  try simp only [Act.put,fl]
  refine wpAnyH_ready (rs:=[2]) (by kernel_rfl) (by simp) ?_
  refine AllReadyH.cons rfl (fun K hK=>?_) AllReadyH.nil
  go_simp
  (go_at_call 10;refine (HKI.out _).mono ?_;rintro e wk4 ⟨rfl,hf⟩;have HK4:Hid (Fr W1 wk4):=Lib.hid (((HA3.out).drew).trans hf);clear hf)
  try (refine hK.out _ _ ?_ (fun hHeld2=>?_))
  ·exact HSX.out _ HK4.out
  clear hK K
  try simp only [Act.put,fl]
  refine wpAnyH_ready (rs:=[3]) (by kernel_rfl) (by simp) ?_
  refine AllReadyH.cons rfl (fun K hK=>?_) AllReadyH.nil
  go_simp
  (go_at_call 11;refine (HA2.out _ HK4.out).mono ?_;rintro e wa4 ⟨rfl,hf⟩;have HA4:Hid (Fr W1 wa4):=Lib.hid (HK4.out.trans hf);clear hf)
  try (refine hK.out _ _ ?_ (fun hHeld2=>?_))
  ·exact HSX.out _ HA4.out
  clear hK K
  try simp only [Act.put,fl]
  refine tk (i:=4) (v:=?_) rfl ⟨by rfl,?_⟩ hHeld2 ?_
  rotate_left
  ·(intro w' hSw;(try dsimp only at hSw);go_simp;try with_reducible rfl)
  try simp only [Act.put,fl]
  refine tk (i:=5) (v:=?_) rfl ⟨by rfl,?_⟩ hHeld2 ?_
  rotate_left
  ·(intro w' hSw;(try dsimp only at hSw);go_simp;try with_reducible rfl)
  try simp only [Act.put,fl]
  refine tk (i:=6) (v:=?_) rfl ⟨by rfl,?_⟩ hHeld2 ?_
  rotate_left
  ·(intro w' hSw;(try dsimp only at hSw);go_simp;try with_reducible rfl)
  try simp only [Act.put,fl]
  refine tk (i:=7) (v:=?_) rfl ⟨by rfl,?_⟩ hHeld2 ?_
  rotate_left
  ·(intro w' hSw;(try dsimp only at hSw);go_simp;try with_reducible rfl)
  try simp only [Act.put,fl]
  refine tk (i:=8) (v:=?_) rfl ⟨by rfl,?_⟩ hHeld2 ?_
  rotate_left
  ·(intro w' hSw;(try dsimp only at hSw);go_simp;try with_reducible rfl)
  try simp only [Act.put,fl]
  refine wpAnyH_done (by kernel_rfl) ?_ _
  clear hHeld hHeld2
  go_upto_region 8 with fail
  go_loopw [9] (fun j wr=>j=.int .i64 0∧Hid (Fr wa4 wr)) (fun _ _=>0)
  case atStart=>exact ⟨rfl,Lib.hid (Fr.refl _)⟩
  case round=>
   obtain ⟨rfl,hF⟩:=hrel
   go_wp2_with fail
   go_ret
   exact ⟨rfl,(HFW1.out.trans HA4.out).trans hF.out⟩
 | some L=>
  obtain ⟨N,hN⟩:∃ N,L.length=N:=⟨_,rfl⟩
  have hN100:N≤100:=by rw [← hN];exact HLN.out L rfl
  have hN':(N:Int)≤100:=by omega
  have HA1:Hid (∀ W,Fr W1 W→Calls Tryz.prog 9 #[.agg #[.int .i64 v.kd,.int .i64 v.nm,.string ⟨v.tx.toArray⟩,.slice B v.ls.length d,.slice B' v.ms.length d'],.string ⟨s.toArray⟩] W fun e w'=>(∃ A c,e=.returned (.tuple #[.slice A N c,.int .i64 0])∧LsC w' (Lo w'.heap.size) A L)∧Fr W w'):=Lib.hid (by rw [← hN];exact HB1.out)
  have HA2:Hid (∀ W,Fr W1 W→Calls Tryz.prog 11 #[.agg #[.int .i64 v.kd,.int .i64 v.nm,.string ⟨v.tx.toArray⟩,.slice B v.ls.length d,.slice B' v.ms.length d'],.string ⟨s.toArray⟩] W fun e w'=>(∃ A c,e=.returned (.tuple #[.slice A N c,.int .i64 0])∧LsC w' (Lo w'.heap.size) A L)∧Fr W w'):=Lib.hid (by rw [← hN];exact HB2.out)
  have HN:=Lib.hid hN
  clear HB1 HB2 hN HLN
  refine wp_region_held_drew (S:=(fun W=>W.cell? ⟨X2,0,none⟩=some (.int .i64 v.kd)∧W.cell? ⟨X2,1,none⟩=some (.int .i64 v.nm)∧W.cell? ⟨X2,2,none⟩=some (.string ⟨v.tx.toArray⟩)∧W.cell? ⟨X2,3,none⟩=some (.slice B v.ls.length d)∧W.cell? ⟨X2,4,none⟩=some (.slice B' v.ms.length d'))) (by kernel_rfl) ?_ (fun hHeld=>?_)
  ·exact HSX.out _ ((Fr.refl W1).drew)
  refine tk (i:=0) (v:=?_) rfl ⟨by rfl,?_⟩ hHeld ?_
  rotate_left
  ·(intro w' hSw;(try dsimp only at hSw);go_simp;try with_reducible rfl)
  try simp only [Act.put,fl]
  refine tk (i:=1) (v:=?_) rfl ⟨by rfl,?_⟩ hHeld ?_
  rotate_left
  ·(intro w' hSw;(try dsimp only at hSw);go_simp;try with_reducible rfl)
  try simp only [Act.put,fl]
  refine wpAnyH_ready (rs:=[2]) (by kernel_rfl) (by simp) ?_
  refine AllReadyH.cons rfl (fun K hK=>?_) AllReadyH.nil
  go_simp
  (go_at_call 10;refine (HKI.out _).mono ?_;rintro e wk3 ⟨rfl,hf⟩;have HK3:Hid (Fr W1 wk3):=Lib.hid (((Fr.refl W1).drew).trans hf);clear hf)
  try (refine hK.out _ _ ?_ (fun hHeld2=>?_))
  ·exact HSX.out _ HK3.out
  clear hK K
  try simp only [Act.put,fl]
  refine wpAnyH_ready (rs:=[3]) (by kernel_rfl) (by simp) ?_
  refine AllReadyH.cons rfl (fun K hK=>?_) AllReadyH.nil
  go_simp
  (go_at_call 9;refine (HA1.out _ HK3.out).mono ?_;rintro e wa3 ⟨⟨E1,c1,rfl,hl⟩,hf⟩;have HL1:=Lib.hid hl;have HA3:Hid (Fr W1 wa3):=Lib.hid (HK3.out.trans hf);clear hf hl)
  try (refine hK.out _ _ ?_ (fun hHeld2=>?_))
  ·exact HSX.out _ HA3.out
  clear hK K
  try simp only [Act.put,fl]
  refine tk (i:=4) (v:=?_) rfl ⟨by rfl,?_⟩ hHeld2 ?_
  rotate_left
  ·(intro w' hSw;(try dsimp only at hSw);go_simp;try with_reducible rfl)
  try simp only [Act.put,fl]
  refine tk (i:=5) (v:=?_) rfl ⟨by rfl,?_⟩ hHeld2 ?_
  rotate_left
  ·(intro w' hSw;(try dsimp only at hSw);go_simp;try with_reducible rfl)
  try simp only [Act.put,fl]
  refine tk (i:=6) (v:=?_) rfl ⟨by rfl,?_⟩ hHeld2 ?_
  rotate_left
  ·(intro w' hSw;(try dsimp only at hSw);go_simp;try with_reducible rfl)
  try simp only [Act.put,fl]
  refine tk (i:=7) (v:=?_) rfl ⟨by rfl,?_⟩ hHeld2 ?_
  rotate_left
  ·(intro w' hSw;(try dsimp only at hSw);go_simp;try with_reducible rfl)
  try simp only [Act.put,fl]
  refine tk (i:=8) (v:=?_) rfl ⟨by rfl,?_⟩ hHeld2 ?_
  rotate_left
  ·(intro w' hSw;(try dsimp only at hSw);go_simp;try with_reducible rfl)
  try simp only [Act.put,fl]
  refine wpAnyH_done (by kernel_rfl) ?_ _
  clear hHeld hHeld2
  go_upto_region 4 with fail
  refine wp_region_held_drew (S:=(fun W=>W.cell? ⟨X2,0,none⟩=some (.int .i64 v.kd)∧W.cell? ⟨X2,1,none⟩=some (.int .i64 v.nm)∧W.cell? ⟨X2,2,none⟩=some (.string ⟨v.tx.toArray⟩)∧W.cell? ⟨X2,3,none⟩=some (.slice B v.ls.length d)∧W.cell? ⟨X2,4,none⟩=some (.slice B' v.ms.length d'))) (by kernel_rfl) ?_ (fun hHeld=>?_)
  ·exact HSX.out _ ((HA3.out).drew)
  refine tk (i:=0) (v:=?_) rfl ⟨by rfl,?_⟩ hHeld ?_
  rotate_left
  ·(intro w' hSw;(try dsimp only at hSw);go_simp;try with_reducible rfl)
  try simp only [Act.put,fl]
  refine tk (i:=1) (v:=?_) rfl ⟨by rfl,?_⟩ hHeld ?_
  rotate_left
  ·(intro w' hSw;(try dsimp only at hSw);go_simp;try with_reducible rfl)
  try simp only [Act.put,fl]
  refine wpAnyH_ready (rs:=[2]) (by kernel_rfl) (by simp) ?_
  refine AllReadyH.cons rfl (fun K hK=>?_) AllReadyH.nil
  go_simp
  (go_at_call 10;refine (HKI.out _).mono ?_;rintro e wk4 ⟨rfl,hf⟩;have HK34:Hid (Fr wa3 wk4):=Lib.hid (((Fr.refl wa3).drew).trans hf);have HK4:Hid (Fr W1 wk4):=Lib.hid (((HA3.out).drew).trans hf);clear hf)
  try (refine hK.out _ _ ?_ (fun hHeld2=>?_))
  ·exact HSX.out _ HK4.out
  clear hK K
  try simp only [Act.put,fl]
  refine wpAnyH_ready (rs:=[3]) (by kernel_rfl) (by simp) ?_
  refine AllReadyH.cons rfl (fun K hK=>?_) AllReadyH.nil
  go_simp
  (go_at_call 11;refine (HA2.out _ HK4.out).mono ?_;rintro e wa4 ⟨⟨E2,c2,rfl,hl⟩,hf⟩;have HL2:=Lib.hid hl;have HA34:Hid (Fr wa3 wa4):=Lib.hid (HK34.out.trans hf);have HA4:Hid (Fr W1 wa4):=Lib.hid (HK4.out.trans hf);clear hf hl)
  try (refine hK.out _ _ ?_ (fun hHeld2=>?_))
  ·exact HSX.out _ HA4.out
  clear hK K
  try simp only [Act.put,fl]
  refine tk (i:=4) (v:=?_) rfl ⟨by rfl,?_⟩ hHeld2 ?_
  rotate_left
  ·(intro w' hSw;(try dsimp only at hSw);go_simp;try with_reducible rfl)
  try simp only [Act.put,fl]
  refine tk (i:=5) (v:=?_) rfl ⟨by rfl,?_⟩ hHeld2 ?_
  rotate_left
  ·(intro w' hSw;(try dsimp only at hSw);go_simp;try with_reducible rfl)
  try simp only [Act.put,fl]
  refine tk (i:=6) (v:=?_) rfl ⟨by rfl,?_⟩ hHeld2 ?_
  rotate_left
  ·(intro w' hSw;(try dsimp only at hSw);go_simp;try with_reducible rfl)
  try simp only [Act.put,fl]
  refine tk (i:=7) (v:=?_) rfl ⟨by rfl,?_⟩ hHeld2 ?_
  rotate_left
  ·(intro w' hSw;(try dsimp only at hSw);go_simp;try with_reducible rfl)
  try simp only [Act.put,fl]
  refine tk (i:=8) (v:=?_) rfl ⟨by rfl,?_⟩ hHeld2 ?_
  rotate_left
  ·(intro w' hSw;(try dsimp only at hSw);go_simp;try with_reducible rfl)
  try simp only [Act.put,fl]
  refine wpAnyH_done (by kernel_rfl) ?_ _
  clear hHeld hHeld2
  have HLA:Hid (LsC wa4 (Lo wa4.heap.size) E1 L):=Lib.hid ((HL1.out.keep (Nat.le_refl _) HA34.out).map (fun b hb=>Nat.lt_of_lt_of_le hb HA34.out.size) (fun _ _ _=>rfl))
  go_upto_region 8 with fail
  go_loopw [9] (fun j wr=>∃ i:Nat,i≤N∧j=.int .i64 i∧Hid (Fr wa4 wr)) (fun j _=>N - (intOf j).toNat)
  case atStart=>exact ⟨0,by omega,rfl,Lib.hid (Fr.refl _)⟩
  case round=>
   obtain ⟨i,hi,rfl,hF⟩:=hrel
   by_cases hlt:i<N
   ·have hlt':(i:Int)<(N:Int):=by omega
    have h0i:(0:Int)≤(i:Int):=by omega
    have hlL:i<L.length:=by rw [HN.out];exact hlt
    obtain ⟨b1,o1,Pb1,pb1,Qb1,qb1,rfl,hb1,⟨k1,k2,k3,k4,k5⟩,hi1⟩:=(HLA.out.keep (Nat.le_refl _) hF.out) i hlL
    obtain ⟨b2,o2,Pb2,pb2,Qb2,qb2,rfl,hb2,⟨j1,j2,j3,j4,j5⟩,hi2⟩:=(HL2.out.keep (Nat.le_refl _) hF.out) i hlL
    obtain ⟨x,hx⟩:∃ q,L[i]=q:=⟨_,rfl⟩
    rw [hx] at k1 k2 k3 k4 k5 hi1 j1 j2 j3 j4 j5 hi2
    have hbb1:=Nat.lt_of_lt_of_le hb1 hF.out.size
    have hbb2:=Nat.lt_of_lt_of_le hb2 hF.out.size
    have hs:=hF.out.size
    have HSE:Hid (∀ W,Fr wr W→W.cell? ⟨b1,o1+i*5,none⟩=some (.int .i64 x.kd)∧W.cell? ⟨b1,o1+i*5+1,none⟩=some (.int .i64 x.nm)∧W.cell? ⟨b1,o1+i*5+2,none⟩=some (.string ⟨x.tx.toArray⟩)∧W.cell? ⟨b1,o1+i*5+3,none⟩=some (.slice Pb1 x.ls.length pb1)∧W.cell? ⟨b1,o1+i*5+4,none⟩=some (.slice Qb1 x.ms.length qb1)∧W.cell? ⟨b2,o2+i*5,none⟩=some (.int .i64 x.kd)∧W.cell? ⟨b2,o2+i*5+1,none⟩=some (.int .i64 x.nm)∧W.cell? ⟨b2,o2+i*5+2,none⟩=some (.string ⟨x.tx.toArray⟩)∧W.cell? ⟨b2,o2+i*5+3,none⟩=some (.slice Pb2 x.ls.length pb2)∧W.cell? ⟨b2,o2+i*5+4,none⟩=some (.slice Qb2 x.ms.length qb2)):=Lib.hid (fun W hW=>by
     have e1:∀ o,W.cell? ⟨b1,o,none⟩=wr.cell? ⟨b1,o,none⟩:=fun o=>hW.cell hbb1
     have e2:∀ o,W.cell? ⟨b2,o,none⟩=wr.cell? ⟨b2,o,none⟩:=fun o=>hW.cell hbb2
     exact ⟨(e1 _).trans k1,(e1 _).trans k2,(e1 _).trans k3,(e1 _).trans k4,(e1 _).trans k5,(e2 _).trans j1,(e2 _).trans j2,(e2 _).trans j3,(e2 _).trans j4,(e2 _).trans j5⟩)
    have HSM:Hid (∀ W,Fr wr W→Calls Tryz.prog 12 #[.agg #[.int .i64 x.kd,.int .i64 x.nm,.string ⟨x.tx.toArray⟩,.slice Pb1 x.ls.length pb1,.slice Qb1 x.ms.length qb1],.agg #[.int .i64 x.kd,.int .i64 x.nm,.string ⟨x.tx.toArray⟩,.slice Pb2 x.ls.length pb2,.slice Qb2 x.ms.length qb2]] W fun e w'=>e=.returned (.bool true)∧Fr W w'):=Lib.hid (fun W hW=>by
     refine ((same_is x x _ _).call true (by simp) ?sx1 ?sx2 ((hi1.keep hs hW).lo (Nat.le_trans hs hW.size)) ((hi2.keep hs hW).lo (Nat.le_trans hs hW.size))).mono ?_
     ·rfl
     ·rfl
     ·exact fun e w' h=>h)
    clear k1 k2 k3 k4 k5 hi1 j1 j2 j3 j4 j5 hi2 hx hb1 hb2 hbb1 hbb2 hs
    go_upto_region 10 with fail
    refine wp_region_held_drew (S:=(fun W=>W.cell? ⟨b1,o1+i*5,none⟩=some (.int .i64 x.kd)∧W.cell? ⟨b1,o1+i*5+1,none⟩=some (.int .i64 x.nm)∧W.cell? ⟨b1,o1+i*5+2,none⟩=some (.string ⟨x.tx.toArray⟩)∧W.cell? ⟨b1,o1+i*5+3,none⟩=some (.slice Pb1 x.ls.length pb1)∧W.cell? ⟨b1,o1+i*5+4,none⟩=some (.slice Qb1 x.ms.length qb1)∧W.cell? ⟨b2,o2+i*5,none⟩=some (.int .i64 x.kd)∧W.cell? ⟨b2,o2+i*5+1,none⟩=some (.int .i64 x.nm)∧W.cell? ⟨b2,o2+i*5+2,none⟩=some (.string ⟨x.tx.toArray⟩)∧W.cell? ⟨b2,o2+i*5+3,none⟩=some (.slice Pb2 x.ls.length pb2)∧W.cell? ⟨b2,o2+i*5+4,none⟩=some (.slice Qb2 x.ms.length qb2))) (by kernel_rfl) ?_ (fun hHeld=>?_)
    ·exact HSE.out _ (Fr.refl _).drew
    refine tk (i:=0) (v:=?_) rfl ⟨by rfl,?_⟩ hHeld ?_
    rotate_left
    ·(intro w' hSw;(try dsimp only at hSw);go_simp;try with_reducible rfl)
    try simp only [Act.put,fl]
    refine tk (i:=1) (v:=?_) rfl ⟨by rfl,?_⟩ hHeld ?_
    rotate_left
    ·(intro w' hSw;(try dsimp only at hSw);go_simp;try with_reducible rfl)
    try simp only [Act.put,fl]
    refine tk (i:=2) (v:=?_) rfl ⟨by rfl,?_⟩ hHeld ?_
    rotate_left
    ·(intro w' hSw;(try dsimp only at hSw);go_simp;try with_reducible rfl)
    try simp only [Act.put,fl]
    refine tk (i:=3) (v:=?_) rfl ⟨by rfl,?_⟩ hHeld ?_
    rotate_left
    ·(intro w' hSw;(try dsimp only at hSw);go_simp;try with_reducible rfl)
    try simp only [Act.put,fl]
    refine tk (i:=4) (v:=?_) rfl ⟨by rfl,?_⟩ hHeld ?_
    rotate_left
    ·(intro w' hSw;(try dsimp only at hSw);go_simp;try with_reducible rfl)
    try simp only [Act.put,fl]
    refine tk (i:=5) (v:=?_) rfl ⟨by rfl,?_⟩ hHeld ?_
    rotate_left
    ·(intro w' hSw;(try dsimp only at hSw);go_simp;try with_reducible rfl)
    try simp only [Act.put,fl]
    refine tk (i:=6) (v:=?_) rfl ⟨by rfl,?_⟩ hHeld ?_
    rotate_left
    ·(intro w' hSw;(try dsimp only at hSw);go_simp;try with_reducible rfl)
    try simp only [Act.put,fl]
    refine tk (i:=7) (v:=?_) rfl ⟨by rfl,?_⟩ hHeld ?_
    rotate_left
    ·(intro w' hSw;(try dsimp only at hSw);go_simp;try with_reducible rfl)
    try simp only [Act.put,fl]
    refine wpAnyH_ready (rs:=[8]) (by kernel_rfl) (by simp) ?_
    refine AllReadyH.cons rfl (fun K hK=>?_) AllReadyH.nil
    go_simp
    (go_at_call 12;refine (HSM.out _ (Fr.refl wr).drew).mono ?_;rintro e w9 ⟨rfl,hf⟩;have HF9:Hid (Fr wr w9):=Lib.hid ((Fr.refl wr).drew.trans hf);clear hf)
    try (refine hK.out _ _ ?_ (fun hHeld2=>?_))
    ·exact HSE.out _ HF9.out
    clear hK K
    try simp only [Act.put,fl]
    refine tk (i:=9) (v:=?_) rfl ⟨by rfl,?_⟩ hHeld2 ?_
    rotate_left
    ·(intro w' hSw;(try dsimp only at hSw);go_simp;try with_reducible rfl)
    try simp only [Act.put,fl]
    refine wpAnyH_done (by kernel_rfl) ?_ _
    clear hHeld hHeld2
    go_wp2_with fail
    exact ⟨⟨i+1,by omega,by go_num,Lib.hid (hF.out.trans HF9.out)⟩,by simp [intOf];omega⟩
   ·obtain rfl:i=N:=by omega
    go_wp2_with fail
    go_ret
    exact ⟨rfl,(HFW1.out.trans HA4.out).trans hF.out⟩
end Go.Proofs.YtdhakbghdcfncaaGreatDoor
