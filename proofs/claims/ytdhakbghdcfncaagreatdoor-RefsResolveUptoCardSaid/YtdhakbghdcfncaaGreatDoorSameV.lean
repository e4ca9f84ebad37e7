/- The walk of the document's Same: of values. -/
import Derived.Test.YtdhakbghdcfncaaGreatDoorKa
import Derived.Test.YtdhakbghdcfncaaGreatDoorPa
namespace Go.Proofs.YtdhakbghdcfncaaGreatDoor
set_option maxRecDepth 100000
set_option maxHeartbeats 1500000
set_option linter.unusedVariables false
set_option linter.unusedSimpArgs false
open Go.RowKit

def SmAt (u v:JV) (x y:Value):Prop:=∀ w:World,InV w (Lo w.heap.size) u x→InV w (Lo w.heap.size) v y →
 Calls Tryz.prog 12 #[x,y] w fun e w'=>∃ b,e=.returned (.bool b)∧(b=true↔u=v)∧Fr w w'
theorem SmAt.call {u v:JV} {x y x' y':Value} {w:World} (h:SmAt u v x y) (b:Bool) (hb:b=true↔u=v) (ex:x'=x) (ey:y'=y) (hx:InV w (Lo w.heap.size) u x) (hy:InV w (Lo w.heap.size) v y):
  Calls Tryz.prog 12 #[x',y'] w fun e w'=>e=.returned (.bool b)∧Fr w w':=by
 subst ex;subst ey
 refine (h w hx hy).mono ?_
 rintro e w' ⟨b',rfl,hb',hf⟩
 have:b'=b:=by rw [Bool.eq_iff_iff,hb',hb]
 rw [this]
 exact ⟨rfl,hf⟩
theorem bl_beq (a b:List UInt8):((⟨a.toArray⟩:ByteArray).toList == (⟨b.toArray⟩:ByteArray).toList)=decide (a=b):=by
 rw [ByteArray.toList_eq,ByteArray.toList_eq]
 show (a.toArray.toList == b.toArray.toList)=_
 simp
 rw [Bool.eq_iff_iff];simp
theorem jv_eq {k n:Int} {s:List UInt8} {l:List JV} {m:List (List UInt8 × JV)} {v:JV}:JV.mk k n s l m=v↔k=v.kd∧n=v.nm∧s=v.tx∧l=v.ls∧m=v.ms:=by
 cases v;simp [JV.kd,JV.nm,JV.tx,JV.ls,JV.ms]

theorem same_out (k n:Int) (s:List UInt8) (L M:Nat) (A:Option Addr) (c:Nat) (A':Option Addr) (c':Nat) (k2 n2:Int) (s2:List UInt8) (L2 M2:Nat) (B:Option Addr) (d:Nat) (B':Option Addr) (d':Nat) (w:World)
  (h:¬ (k=k2∧n=n2∧s=s2∧L=L2∧M=M2)):
  Calls Tryz.prog 12 #[.agg #[.int .i64 k,.int .i64 n,.string ⟨s.toArray⟩,.slice A L c,.slice A' M c'],.agg #[.int .i64 k2,.int .i64 n2,.string ⟨s2.toArray⟩,.slice B L2 d,.slice B' M2 d']] w fun e w'=>e=.returned (.bool false)∧Fr w w':=by
 have hs:=bl_beq s s2
 by_cases h1:¬ (k=k2)
 ·have e1:(k != k2)=true:=by rw [bne_iff_ne];exact h1
  go_enter Tryz.func12,Tryz.ntmps12
  go_wp2_with fail
  go_ret
  exact ⟨rfl,((Fr.refl w).alloc _).alloc _⟩
 have h1:k=k2:=Classical.not_not.1 h1
 have e1:(k != k2)=false:=by rw [bne_eq_false_iff_eq];exact h1
 by_cases h2:¬ (n=n2)
 ·have e2:(n != n2)=true:=by rw [bne_iff_ne];exact h2
  clear h1
  go_enter Tryz.func12,Tryz.ntmps12
  go_wp2_with fail
  go_ret
  exact ⟨rfl,((Fr.refl w).alloc _).alloc _⟩
 have h2:n=n2:=Classical.not_not.1 h2
 have e2:(n != n2)=false:=by rw [bne_eq_false_iff_eq];exact h2
 by_cases h3:¬ (s=s2)
 ·rw [decide_eq_false h3] at hs
  clear h1 h2
  go_enter Tryz.func12,Tryz.ntmps12
  go_wp2_with fail
  go_ret
  exact ⟨rfl,((Fr.refl w).alloc _).alloc _⟩
 have h3:s=s2:=Classical.not_not.1 h3
 rw [decide_eq_true h3] at hs
 by_cases h4:¬ (L=L2)
 ·have e4:((L:Int) != (L2:Int))=true:=by rw [bne_iff_ne];omega
  clear h1 h2 h3
  go_enter Tryz.func12,Tryz.ntmps12
  go_wp2_with fail
  go_ret
  exact ⟨rfl,((Fr.refl w).alloc _).alloc _⟩
 have h4:L=L2:=Classical.not_not.1 h4
 have e4:((L:Int) != (L2:Int))=false:=by rw [bne_eq_false_iff_eq];omega
 have h5:M≠M2:=fun h5=>h ⟨h1,h2,h3,h4,h5⟩
 have e5:((M:Int) != (M2:Int))=true:=by rw [bne_iff_ne];omega
 clear h1 h2 h3 h4 h5 h
 go_enter Tryz.func12,Tryz.ntmps12
 go_wp2_with fail
 go_ret
 exact ⟨rfl,((Fr.refl w).alloc _).alloc _⟩

def SmI (w wr:World) (o1 o2:Obj) (R:Prop):Prop:=Fr ((w.alloc o1).alloc o2) wr∧R
theorem drop_eq {α:Type} {l m:List α} {i:Nat} (h:i<l.length) (h2:i<m.length):l.drop i=m.drop i↔l[i]=m[i]∧l.drop (i+1)=m.drop (i+1):=by
 rw [List.drop_eq_getElem_cons h,List.drop_eq_getElem_cons h2,List.cons.injEq]

theorem same_is (u:JV):∀ (v:JV) (x y:Value),SmAt u v x y:=by
 induction u using JV.ind with
 | h k n s l m ihl ihm=>
  intro v x y w hx hy
  obtain ⟨_,_,hs,hl63,hm63⟩:=hx.facts
  have hl63:l.length≤140737488355328:=hl63
  have hm63:m.length≤140737488355328:=hm63
  obtain ⟨A,c,A',c',rfl,hls,hms⟩:=hx.open_
  obtain ⟨B,d,B',d',rfl,hls2,hms2⟩:=hy.open_
  have hls:LsC w (Lo w.heap.size) A l:=hls
  have hms:MsC w (Lo w.heap.size) A' m:=hms
  show Calls Tryz.prog _ #[.agg #[.int .i64 k,.int .i64 n,.string ⟨s.toArray⟩,.slice A l.length c,.slice A' m.length c'],.agg #[.int .i64 v.kd,.int .i64 v.nm,.string ⟨v.tx.toArray⟩,.slice B v.ls.length d,.slice B' v.ms.length d']] _ _
  by_cases ho:¬ (k=v.kd∧n=v.nm∧s=v.tx∧l.length=v.ls.length∧m.length=v.ms.length)
  ·refine (same_out _ _ _ _ _ _ _ _ _ _ _ _ _ _ _ _ _ _ w ho).mono ?_
   rintro e w' ⟨rfl,hf⟩
   refine ⟨false,rfl,⟨fun h=>(by cases h),fun h=>absurd ?_ ho⟩,hf⟩
   obtain ⟨h1,h2,h3,h4,h5⟩:=jv_eq.1 h
   exact ⟨h1,h2,h3,by rw [h4],by rw [h5]⟩
  obtain ⟨h1,h2,h3,h4,h5⟩:=Classical.not_not.1 ho
  have HE:Hid (JV.mk k n s l m=v↔l=v.ls∧m=v.ms):=by
   show _↔_
   rw [jv_eq]
   exact ⟨fun h=>h.2.2.2,fun h=>⟨h1,h2,h3,h⟩⟩
  have e1:(k != v.kd)=false:=by rw [bne_eq_false_iff_eq];exact h1
  have e2:(n != v.nm)=false:=by rw [bne_eq_false_iff_eq];exact h2
  have hbs:=bl_beq s v.tx
  rw [decide_eq_true h3] at hbs
  have hbs2:(s == v.tx)=true:=by rw [beq_iff_eq];exact h3
  rw [← h4,← h5]
  obtain ⟨L,hL⟩:∃ L,l.length=L:=⟨_,rfl⟩
  obtain ⟨M,hM⟩:∃ M,m.length=M:=⟨_,rfl⟩
  rw [hL,hM]
  rw [hL] at hl63 h4
  rw [hM] at hm63 h5
  have e4:((L:Int) != (L:Int))=false:=by simp
  have e5:((M:Int) != (M:Int))=false:=by simp
  have HL:=Lib.hid hL
  have HM:=Lib.hid hM
  have HL2:=Lib.hid h4.symm
  have HM2:=Lib.hid h5.symm
  have HLS:=Lib.hid hls
  have HMS:=Lib.hid hms
  have HLS2:=Lib.hid hls2
  have HMS2:=Lib.hid hms2
  have HIL:=Lib.hid ihl
  have HIM:=Lib.hid ihm
  clear h1 h2 h3 h4 h5 hL hM hls hms hls2 hms2 hx hy ihl ihm hs
  go_enter Tryz.func12,Tryz.ntmps12
  go_wp2_with fail
  go_loopw [5] (fun j wr=>∃ i:Nat,i≤L∧j=.int .i64 i∧Hid (Fr ((w.alloc (.cells #[.int .i64 k,.int .i64 n,.string ⟨s.toArray⟩,.slice A L c,.slice A' M c'] 25)).alloc (.cells #[.int .i64 v.kd,.int .i64 v.nm,.string ⟨v.tx.toArray⟩,.slice B L d,.slice B' M d'] 25)) wr)∧Hid (l=v.ls↔l.drop i=v.ls.drop i)) (fun j _=>L - (intOf j).toNat)
  case atStart=>exact ⟨0,by omega,rfl,Lib.hid (Fr.refl _),Lib.hid (by simp)⟩
  case round=>
   obtain ⟨i,hi,rfl,hF,hR⟩:=hrel
   have x1:wr.cell? ⟨w.heap.size,3,none⟩=some (.slice A L c):=by rw [hF.out.cell (by simp;omega),World.cell?_alloc_lt _ _ _ (by simp),World.cell?_alloc_at _ _ _ _ (by simp)];rfl
   have x2:wr.cell? ⟨w.heap.size+1,3,none⟩=some (.slice B L d):=by rw [hF.out.cell (by simp),World.cell?_alloc_at _ _ _ _ (by simp)];rfl
   have x3:wr.cell? ⟨w.heap.size,4,none⟩=some (.slice A' M c'):=by rw [hF.out.cell (by simp;omega),World.cell?_alloc_lt _ _ _ (by simp),World.cell?_alloc_at _ _ _ _ (by simp)];rfl
   have x4:wr.cell? ⟨w.heap.size+1,4,none⟩=some (.slice B' M d'):=by rw [hF.out.cell (by simp),World.cell?_alloc_at _ _ _ _ (by simp)];rfl
   have HFw:Hid (Fr w wr):=(((Fr.refl w).alloc _).alloc _).trans hF.out
   by_cases h:i<L
   ·have hil:i<l.length:=by have:=HL.out;omega
    have hil2:i<v.ls.length:=by have:=HL2.out;omega
    obtain ⟨b,o,C,q,C',q',rfl,hb,⟨e11,e12,e13,e14,e15⟩,hiv⟩:=(HLS.out.keep (Nat.le_refl _) HFw.out) i hil
    obtain ⟨b2,o2,C2,p,C2',p',rfl,hb2,⟨f1,f2,f3,f4,f5⟩,hiv2⟩:=(HLS2.out.keep (Nat.le_refl _) HFw.out) i hil2
    have hdr:=drop_eq hil hil2
    have hih:=HIL.out l[i] (List.getElem_mem hil) v.ls[i]
    obtain ⟨u1,hu1⟩:∃ u1,l[i]=u1:=⟨_,rfl⟩
    obtain ⟨v1,hv1⟩:∃ v1,v.ls[i]=v1:=⟨_,rfl⟩
    rw [hu1] at e11 e12 e13 e14 e15 hiv hih hdr
    rw [hv1] at f1 f2 f3 f4 f5 hiv2 hih hdr
    have HDR:=Lib.hid hdr
    have HIU:=Lib.hid hih
    have HX:Hid (InV wr.drew (Lo wr.drew.heap.size) u1 (vA u1 C q C' q')):=(hiv.lo HFw.out.size).keep (Nat.le_refl _) (Fr.refl wr).drew
    have HY:Hid (InV wr.drew (Lo wr.drew.heap.size) v1 (vA v1 C2 p C2' p')):=(hiv2.lo HFw.out.size).keep (Nat.le_refl _) (Fr.refl wr).drew
    have h':(i:Int)<(L:Int):=by omega
    have h'':(0:Int)≤(i:Int):=by omega
    clear hu1 hv1 hiv hiv2 hih hdr
    by_cases huv:u1=v1
    ·have HUV:=Lib.hid huv
     clear huv
     go_wp2_with fail
     refine wp_region_tail 10 (by kernel_rfl) (by kernel_rfl) ?_
     simp only [List.take_succ_cons,List.take_zero,List.drop_succ_cons,List.drop_zero]
     repeat still_step
     refine wpStill_nil ?_
     go_wp2_with (go_at_call 12;refine ((HIU.out (vA u1 C q C' q') (vA v1 C2 p C2' p')).call true (by simp [HUV.out]) rfl rfl HX.out HY.out).mono ?_;rintro e w2 ⟨rfl,hf2⟩;have HF2:=Lib.hid hf2;clear hf2)
     refine ⟨⟨i+1,by omega,by go_num,Lib.hid ((hF.out.drew).trans HF2.out),Lib.hid ?_⟩,by simp [intOf];omega⟩
     rw [hR.out,HDR.out]
     simp [HUV.out]
    ·have HUV:=Lib.hid huv
     have HNE:Hid (JV.mk k n s l m≠v):=by
      intro h
      have:=(HE.out.1 h).1
      exact HUV.out (HDR.out.1 (hR.out.1 this)).1
     clear huv
     go_wp2_with fail
     refine wp_region_tail 10 (by kernel_rfl) (by kernel_rfl) ?_
     simp only [List.take_succ_cons,List.take_zero,List.drop_succ_cons,List.drop_zero]
     repeat still_step
     refine wpStill_nil ?_
     go_wp2_with (go_at_call 12;refine ((HIU.out (vA u1 C q C' q') (vA v1 C2 p C2' p')).call false (by simp [HUV.out]) rfl rfl HX.out HY.out).mono ?_;rintro e w2 ⟨rfl,hf2⟩;have HF2:=Lib.hid hf2;clear hf2)
     go_ret
     exact ⟨false,rfl,by simp [HNE.out],(HFw.out.drew).trans HF2.out⟩
   ·obtain rfl:i=L:=by omega
    have HLV:Hid (l=v.ls):=by
     refine hR.out.2 ?_
     rw [List.drop_of_length_le (by have:=HL.out;omega),List.drop_of_length_le (by have:=HL2.out;omega)]
    go_wp2_with fail
    clear x1 x2 x3 x4
    have HF0:=Lib.hid hF.out
    clear hF HFw
    go_loopw [6] (fun j wr=>∃ i3:Nat,i3≤M∧j=.int .i64 i3∧Hid (Fr ((w.alloc (.cells #[.int .i64 k,.int .i64 n,.string ⟨s.toArray⟩,.slice A i c,.slice A' M c'] 25)).alloc (.cells #[.int .i64 v.kd,.int .i64 v.nm,.string ⟨v.tx.toArray⟩,.slice B i d,.slice B' M d'] 25)) wr)∧Hid (m=v.ms↔m.drop i3=v.ms.drop i3)) (fun j _=>M - (intOf j).toNat)
    case atStart=>exact ⟨0,by omega,rfl,HF0,Lib.hid (by simp)⟩
    case round=>
     obtain ⟨i,hi,rfl,hF,hR⟩:=hrel
     have x3:wr.cell? ⟨w.heap.size,4,none⟩=some (.slice A' M c'):=by rw [hF.out.cell (by simp;omega),World.cell?_alloc_lt _ _ _ (by simp),World.cell?_alloc_at _ _ _ _ (by simp)];rfl
     have x4:wr.cell? ⟨w.heap.size+1,4,none⟩=some (.slice B' M d'):=by rw [hF.out.cell (by simp),World.cell?_alloc_at _ _ _ _ (by simp)];rfl
     have HFw:Hid (Fr w wr):=(((Fr.refl w).alloc _).alloc _).trans hF.out
     by_cases h:i<M
     ·have hil:i<m.length:=by have:=HM.out;omega
      have hil2:i<v.ms.length:=by have:=HM2.out;omega
      obtain ⟨b,o,C,q,C',q',rfl,hb,hnl,e10,⟨e11,e12,e13,e14,e15⟩,hiv⟩:=(HMS.out.keep (Nat.le_refl _) HFw.out) i hil
      obtain ⟨b2,o2,C2,p,C2',p',rfl,hb2,hnl2,f0,⟨f1,f2,f3,f4,f5⟩,hiv2⟩:=(HMS2.out.keep (Nat.le_refl _) HFw.out) i hil2
      have hdr:=drop_eq hil hil2
      have hih:=HIM.out m[i] (List.getElem_mem hil) v.ms[i].2
      obtain ⟨u1,hu1⟩:∃ u1,m[i]=u1:=⟨_,rfl⟩
      obtain ⟨v1,hv1⟩:∃ v1,v.ms[i]=v1:=⟨_,rfl⟩
      rw [hu1] at e10 e11 e12 e13 e14 e15 hiv hih hdr
      rw [hv1] at f0 f1 f2 f3 f4 f5 hiv2 hih hdr
      obtain ⟨nm,u1⟩:=u1
      obtain ⟨nm2,v1⟩:=v1
      simp only at e10 e11 e12 e13 e14 e15 hiv hih hdr f0 f1 f2 f3 f4 f5 hiv2
      rw [Prod.mk.injEq] at hdr
      have HDR:=Lib.hid hdr
      have HIU:=Lib.hid hih
      have HX:Hid (InV wr.drew (Lo wr.drew.heap.size) u1 (vA u1 C q C' q')):=(hiv.lo HFw.out.size).keep (Nat.le_refl _) (Fr.refl wr).drew
      have HY:Hid (InV wr.drew (Lo wr.drew.heap.size) v1 (vA v1 C2 p C2' p')):=(hiv2.lo HFw.out.size).keep (Nat.le_refl _) (Fr.refl wr).drew
      have h':(i:Int)<(M:Int):=by omega
      have h'':(0:Int)≤(i:Int):=by omega
      clear hu1 hv1 hiv hiv2 hih hdr
      by_cases hnn:nm=nm2
      ·have hbn:(nm == nm2)=true:=by rw [beq_iff_eq];exact hnn
       have hbn2:=bl_beq nm nm2
       rw [decide_eq_true hnn] at hbn2
       have HNN:=Lib.hid hnn
       clear hnn
       by_cases huv:u1=v1
       ·have HUV:=Lib.hid huv
        clear huv
        go_wp2_with fail
        refine wp_region_tail 26 (by kernel_rfl) (by kernel_rfl) ?_
        simp only [List.take_succ_cons,List.take_zero,List.drop_succ_cons,List.drop_zero]
        repeat still_step
        refine wpStill_nil ?_
        go_wp2_with (go_at_call 12;refine ((HIU.out (vA u1 C q C' q') (vA v1 C2 p C2' p')).call true (by simp [HUV.out]) rfl rfl HX.out HY.out).mono ?_;rintro e w2 ⟨rfl,hf2⟩;have HF2:=Lib.hid hf2;clear hf2)
        refine ⟨⟨i+1,by omega,by go_num,Lib.hid ((hF.out.drew).trans HF2.out),Lib.hid ?_⟩,by simp [intOf];omega⟩
        rw [hR.out,HDR.out]
        simp [HUV.out,HNN.out]
       ·have HUV:=Lib.hid huv
        have HNE:Hid (JV.mk k n s l m≠v):=by
         intro h
         have:=(HE.out.1 h).2
         exact HUV.out (HDR.out.1 (hR.out.1 this)).1.2
        clear huv
        go_wp2_with fail
        refine wp_region_tail 26 (by kernel_rfl) (by kernel_rfl) ?_
        simp only [List.take_succ_cons,List.take_zero,List.drop_succ_cons,List.drop_zero]
        repeat still_step
        refine wpStill_nil ?_
        go_wp2_with (go_at_call 12;refine ((HIU.out (vA u1 C q C' q') (vA v1 C2 p C2' p')).call false (by simp [HUV.out]) rfl rfl HX.out HY.out).mono ?_;rintro e w2 ⟨rfl,hf2⟩;have HF2:=Lib.hid hf2;clear hf2)
        go_ret
        exact ⟨false,rfl,by simp [HNE.out],(HFw.out.drew).trans HF2.out⟩
      ·have hbn:(nm == nm2)=false:=by rw [beq_eq_false_iff_ne];exact hnn
       have hbn2:=bl_beq nm nm2
       rw [decide_eq_false hnn] at hbn2
       have HNN:=Lib.hid hnn
       have HNE:Hid (JV.mk k n s l m≠v):=by
        intro h
        have:=(HE.out.1 h).2
        exact HNN.out (HDR.out.1 (hR.out.1 this)).1.1
       clear hnn
       go_wp2_with fail
       go_quiet (fail)
       go_wp2_with fail
       go_ret
       exact ⟨false,rfl,by simp [HNE.out],HFw.out.drewN _⟩
     ·obtain rfl:i=M:=by omega
      have HMV:Hid (m=v.ms):=by
       refine hR.out.2 ?_
       rw [List.drop_of_length_le (by have:=HM.out;omega),List.drop_of_length_le (by have:=HM2.out;omega)]
      go_wp2_with fail
      go_ret
      exact ⟨true,rfl,⟨fun _=>HE.out.2 ⟨HLV.out,HMV.out⟩,fun _=>rfl⟩,HFw.out⟩
end Go.Proofs.YtdhakbghdcfncaaGreatDoor
