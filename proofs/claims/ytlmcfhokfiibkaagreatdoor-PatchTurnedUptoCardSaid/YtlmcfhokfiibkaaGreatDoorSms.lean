/- Two values that are the same but for the order of members (the document's Same of chapter 07). -/
import Derived.Test.YtlmcfhokfiibkaaGreatDoorSameV
import Derived.Test.YtlmcfhokfiibkaaGreatDoorPta
import Derived.Test.YtlmcfhokfiibkaaGreatDoorReadF
import Derived.Test.YtlmcfhokfiibkaaGreatDoorKa
import Derived.Deep.RegionHeld
import Derived.Test.YtlmcfhokfiibkaaGreatDoorBkC
import Derived.Test.YtlmcfhokfiibkaaGreatDoorPtt
import Derived.Test.YtlmcfhokfiibkaaGreatDoorBkA
namespace Go.Proofs.YtlmcfhokfiibkaaGreatDoor
set_option maxRecDepth 100000
set_option maxHeartbeats 4000000
set_option linter.unusedVariables false
set_option linter.unusedSimpArgs false
open Go.RowKit

inductive S7:JV→JV→Prop
 | mk (k n:Int) (s:List UInt8) (l l2:List JV) (m m2:List (List UInt8 × JV)) (f:Nat→JV) (hl:l.length=l2.length) (hm:m.length=m2.length) (h1:∀ i (h:i<l.length) (h2:i<l2.length),S7 l[i] l2[i]) (h2:∀ i (h:i<m.length),Pt.getM m2 m[i].1=some (f i)) (h3:∀ i (h:i<m.length),S7 m[i].2 (f i)):S7 (.mk k n s l m) (.mk k n s l2 m2)
theorem getM_first:∀ {m:List (List UInt8 × JV)} {s:List UInt8} {y:JV},Pt.getM m s=some y → ∃ a,∃ h:a<m.length,m[a].1=s∧m[a].2=y ∧ ∀ b (h:b<m.length),b<a→m[b].1≠s
 | [],s,y,h=>by cases h
 | p::m,s,y,h=>by
  unfold Pt.getM at h
  by_cases e:p.1=s
  ·rw [if_pos e] at h
   exact ⟨0,by simp,e,by injection h,fun b _ hb=>absurd hb (by omega)⟩
  ·rw [if_neg e] at h
   obtain ⟨a,ha,h1,h2,h3⟩:=getM_first h
   refine ⟨a+1,by simp;omega,by simpa using h1,by simpa using h2,fun b hb hba=>?_⟩
   cases b with
   | zero=>exact e
   | succ b=>simpa using h3 b (by simpa using hb) (by omega)
theorem getM_nodup:∀ {m:List (List UInt8 × JV)},(m.map (·.1)).Nodup → ∀ i (h:i<m.length),Pt.getM m m[i].1=some m[i].2
 | p::m,h,0,_=>by unfold Pt.getM;rw [if_pos (show p.1=(p::m)[0].1 from rfl)];rfl
 | p::m,h,i+1,hi=>by
  rw [List.map_cons,List.nodup_cons] at h
  have hi':i<m.length:=by simpa using hi
  have:p.1≠m[i].1:=fun e=>h.1 (by rw [e];exact List.mem_map.2 ⟨_,List.getElem_mem hi',rfl⟩)
  unfold Pt.getM
  rw [List.getElem_cons_succ,if_neg this]
  exact getM_nodup h.2 i hi'
theorem ok_nodup {v:JV} (h:JV.okB v=true):(v.ms.map (·.1)).Nodup∧(v.kd≠6→v.ms=[]):=by
 obtain ⟨h1,h2,_,_⟩:=(JV.ok_iff v).1 h
 have h3:v.kd≠6→v.ms=[]:=fun h6=>by
  rcases JV.right_form h1 with rfl | ⟨_,_,rfl⟩ | ⟨_,_,_,rfl⟩ | ⟨_,_,rfl⟩ | ⟨_,rfl⟩ | ⟨_,rfl⟩
  all_goals first | rfl | exact absurd rfl h6
 refine ⟨?_,h3⟩
 by_cases h6:v.kd=6
 ·have:=h2 h6
  unfold JV.namesB at this
  simp only [Bool.and_eq_true,decide_eq_true_eq] at this
  exact this.2
 ·rw [h3 h6];exact List.nodup_nil
theorem S7.self (v:JV) (h:JV.okB v=true):S7 v v:=by
 revert h
 refine JV.ind (P:=fun v=>JV.okB v=true→S7 v v) (fun k n s l m hl hm h=>?_) v
 obtain ⟨_,_,h3,h4⟩:=(JV.ok_iff _).1 h
 have hn:(m.map (·.1)).Nodup:=(ok_nodup h).1
 exact .mk k n s l l m m (fun i=>if h:i<m.length then m[i].2 else JV.zeroV) rfl rfl (fun i hi _=>hl _ (List.getElem_mem hi) (h3 _ (List.getElem_mem hi))) (fun i hi=>by rw [getM_nodup hn i hi,dif_pos hi]) (fun i hi=>by rw [dif_pos hi];exact hm _ (List.getElem_mem hi) (h4 _ (List.getElem_mem hi)))
theorem S7.zero:S7 JV.zeroV JV.zeroV:=.mk 0 0 [] [] [] [] [] (fun _=>JV.zeroV) rfl rfl (fun i h _=>absurd h (by simp)) (fun i h=>absurd h (by simp)) (fun i h=>absurd h (by simp))
/- The walk of the document's other Same (chapter 07). -/

theorem same7_is {u v:JV} (h:S7 u v):∀ (x y:Value) (w:World),InV w (Lo w.heap.size) u x→InV w (Lo w.heap.size) v y→Calls Tryz.prog 18 #[x,y] w fun e w'=>e=.returned (.bool true)∧Fr w w':=by
 induction h with
 | mk k n s l l2 m m2 f hl hm _ h2 _ ih1 ih3=>
  intro x y w hx hy
  obtain ⟨_,_,_,hl63,hm63⟩:=hx.facts
  have hl63:l.length≤140737488355328:=hl63
  have hm63:m.length≤140737488355328:=hm63
  obtain ⟨A,c,A',c',rfl,hls,hms⟩:=hx.open_
  obtain ⟨B,d,B',d',rfl,hls2,hms2⟩:=hy.open_
  have hls:LsC w (Lo w.heap.size) A l:=hls
  have hms:MsC w (Lo w.heap.size) A' m:=hms
  have hls2:LsC w (Lo w.heap.size) B l2:=hls2
  have hms2:MsC w (Lo w.heap.size) B' m2:=hms2
  show Calls Tryz.prog _ #[.agg #[.int .i64 k,.int .i64 n,.string ⟨s.toArray⟩,.slice A l.length c,.slice A' m.length c'],.agg #[.int .i64 k,.int .i64 n,.string ⟨s.toArray⟩,.slice B l2.length d,.slice B' m2.length d']] _ _
  rw [← hl,← hm]
  have e1:(k != k)=false:=by simp
  have e2:(n != n)=false:=by simp
  have hbs:=bl_beq s s
  rw [decide_eq_true rfl] at hbs
  have hbs2:(s == s)=true:=by simp
  obtain ⟨L,hL⟩:∃ L,l.length=L:=⟨_,rfl⟩
  obtain ⟨M,hM⟩:∃ M,m.length=M:=⟨_,rfl⟩
  rw [hL,hM]
  rw [hL] at hl63 hl
  rw [hM] at hm63 hm
  have e4:((L:Int) != (L:Int))=false:=by simp
  have e5:((M:Int) != (M:Int))=false:=by simp
  have HL:=Lib.hid hL
  have HM:=Lib.hid hM
  have HL2:=Lib.hid hl.symm
  have HM2:=Lib.hid hm.symm
  have HLS:=Lib.hid hls
  have HMS:=Lib.hid hms
  have HLS2:=Lib.hid hls2
  have HMS2:=Lib.hid hms2
  have HI1:=Lib.hid ih1
  have HI3:=Lib.hid ih3
  have HG2:=Lib.hid h2
  have hM63':(M:Int)≤140737488355328:=by omega
  clear hL hM hls hms hls2 hms2 hx hy ih1 ih3 h2 hl hm
  go_enter Tryz.func18,Tryz.ntmps18
  go_upto_region 1 with fail
  have hb1:Blk ((w.alloc (.cells #[.int .i64 k,.int .i64 n,.string ⟨s.toArray⟩,.slice A L c,.slice A' M c'] 25)).alloc (.cells #[.int .i64 k,.int .i64 n,.string ⟨s.toArray⟩,.slice B L d,.slice B' M d'] 25)) w.heap.size #[.int .i64 k,.int .i64 n,.string ⟨s.toArray⟩,.slice A L c,.slice A' M c'] 25:=(Blk.made w _ _).keep ((Fr.refl _).alloc _)
  have hb2:Blk ((w.alloc (.cells #[.int .i64 k,.int .i64 n,.string ⟨s.toArray⟩,.slice A L c,.slice A' M c'] 25)).alloc (.cells #[.int .i64 k,.int .i64 n,.string ⟨s.toArray⟩,.slice B L d,.slice B' M d'] 25)) (w.heap.size+1) #[.int .i64 k,.int .i64 n,.string ⟨s.toArray⟩,.slice B L d,.slice B' M d'] 25:=boxz (Blk.made (w.alloc _) _ _)
  have hf0:Fr w ((w.alloc (.cells #[.int .i64 k,.int .i64 n,.string ⟨s.toArray⟩,.slice A L c,.slice A' M c'] 25)).alloc (.cells #[.int .i64 k,.int .i64 n,.string ⟨s.toArray⟩,.slice B L d,.slice B' M d'] 25)):=((Fr.refl w).alloc _).alloc _
  generalize ((w.alloc (.cells #[.int .i64 k,.int .i64 n,.string ⟨s.toArray⟩,.slice A L c,.slice A' M c'] 25)).alloc (.cells #[.int .i64 k,.int .i64 n,.string ⟨s.toArray⟩,.slice B L d,.slice B' M d'] 25))=W0 at hb1 hb2 hf0 ⊢
  generalize w.heap.size+1=X2 at hb2 ⊢
  obtain ⟨X1,hX1⟩:∃ X,w.heap.size=X:=⟨_,rfl⟩
  rw [hX1] at hb1 ⊢
  clear hX1
  have HB1:=Lib.hid hb1
  have HB2:=Lib.hid hb2
  have HF0:=Lib.hid hf0
  obtain ⟨⟨y0,y1,y2,y3,y4⟩,_⟩:=box5 hb1
  obtain ⟨⟨z0,z1,z2,z3,z4⟩,_⟩:=box5 hb2
  clear hb1 hb2 hf0
  go_wp2_with fail
  clear y0 y1 y2 y3 y4 z0 z1 z2 z3 z4
  go_loopw [5] (fun j wr=>∃ i:Nat,i≤L∧j=.int .i64 i∧Hid (Fr W0 wr)) (fun j _=>L - (intOf j).toNat)
  case atStart=>exact ⟨0,by omega,rfl,Lib.hid (Fr.refl _)⟩
  case round=>
   obtain ⟨i,hi,rfl,hF⟩:=hrel
   obtain ⟨⟨y0,y1,y2,y3,y4⟩,_⟩:=box5 (HB1.out.keep hF.out)
   obtain ⟨⟨z0,z1,z2,z3,z4⟩,_⟩:=box5 (HB2.out.keep hF.out)
   have HFw:Hid (Fr w wr):=Lib.hid (HF0.out.trans hF.out)
   by_cases h:i<L
   ·have hil:i<l.length:=by have:=HL.out;omega
    have hil2:i<l2.length:=by have:=HL2.out;omega
    obtain ⟨b,o,C,q,C',q',rfl,hb,⟨e11,e12,e13,e14,e15⟩,hiv⟩:=(HLS.out.keep (Nat.le_refl _) HFw.out) i hil
    obtain ⟨b2,o2,C2,p,C2',p',rfl,hb2,⟨f1,f2,f3,f4,f5⟩,hiv2⟩:=(HLS2.out.keep (Nat.le_refl _) HFw.out) i hil2
    have hih:=HI1.out i hil hil2
    obtain ⟨u1,hu1⟩:∃ u1,l[i]=u1:=⟨_,rfl⟩
    obtain ⟨v1,hv1⟩:∃ v1,l2[i]=v1:=⟨_,rfl⟩
    rw [hu1] at e11 e12 e13 e14 e15 hiv
    rw [hv1] at f1 f2 f3 f4 f5 hiv2
    rw [hu1,hv1] at hih
    have HIU:=Lib.hid hih
    have HX:Hid (InV wr.drew (Lo wr.drew.heap.size) u1 (vA u1 C q C' q')):=(hiv.lo HFw.out.size).keep (Nat.le_refl _) (Fr.refl wr).drew
    have HY:Hid (InV wr.drew (Lo wr.drew.heap.size) v1 (vA v1 C2 p C2' p')):=(hiv2.lo HFw.out.size).keep (Nat.le_refl _) (Fr.refl wr).drew
    have h':(i:Int)<(L:Int):=by omega
    have h'':(0:Int)≤(i:Int):=by omega
    clear hu1 hv1 hiv hiv2 hih hb hb2
    go_wp2_with fail
    refine wp_region_tail 10 (by kernel_rfl) (by kernel_rfl) ?_
    simp only [List.take_succ_cons,List.take_zero,List.drop_succ_cons,List.drop_zero]
    repeat still_step
    refine wpStill_nil ?_
    go_wp2_with (go_at_call 18;refine (HIU.out (vA u1 C q C' q') (vA v1 C2 p C2' p') _ HX.out HY.out).mono ?_;rintro e w2 ⟨rfl,hf2⟩;have HF2:=Lib.hid hf2;clear hf2)
    exact ⟨⟨i+1,by omega,by go_num,Lib.hid ((hF.out.drew).trans HF2.out)⟩,by simp [intOf];omega⟩
   ·obtain rfl:i=L:=by omega
    go_wp2_with fail
    clear y0 y1 y2 y3 y4 z0 z1 z2 z3 z4
    have HF0r:=Lib.hid hF.out
    clear hF HFw
    go_loopw [6] (fun j wr=>∃ i3:Nat,i3≤M∧j=.int .i64 i3∧Hid (Fr W0 wr)) (fun j _=>M - (intOf j).toNat)
    case atStart=>exact ⟨0,by omega,rfl,HF0r⟩
    case round=>
     obtain ⟨i,hi,rfl,hF⟩:=hrel
     obtain ⟨⟨y0,y1,y2,y3,y4⟩,_⟩:=box5 (HB1.out.keep hF.out)
     obtain ⟨⟨z0,z1,z2,z3,z4⟩,_⟩:=box5 (HB2.out.keep hF.out)
     by_cases h:i<M
     ·have hil:i<m.length:=by have:=HM.out;omega
      obtain ⟨a,ha,ha1,ha2,ha3⟩:=getM_first (HG2.out i hil)
      have haM:a<M:=by have:=HM2.out;omega
      have HA3:=Lib.hid ha3
      have h':(i:Int)<(M:Int):=by omega
      have h'':(0:Int)≤(i:Int):=by omega
      obtain ⟨nm,hnm⟩:∃ nm,m[i].1=nm:=⟨_,rfl⟩
      have HNM:=Lib.hid hnm
      have HA1:=Lib.hid ha1
      have HA2:=Lib.hid ha2
      have hF1:=hF.out
      clear ha3 ha1 ha2 hnm
      obtain ⟨Wr,hWr⟩:∃ W,W=wr:=⟨wr,rfl⟩
      subst hWr
      go_wp2_with fail
      clear y0 y1 y2 y3 y4 z0 z1 z2 z3 z4 hF1
      go_loopw [7,8] (fun t j wr=>∃ (z kk:Int),-1≤kk∧kk<M∧t=.int .i64 z∧j=.int .i64 kk∧Hid (kk<a→z=a)∧Hid (Fr Wr wr)) (fun _ j _=>(intOf j+1).toNat)
      case atStart=>exact ⟨-1,(M:Int) - 1,by omega,by omega,rfl,by go_num,Lib.hid (fun h=>by omega),Lib.hid (Fr.refl _)⟩
      case round=>
       obtain ⟨z,kk,hk1,hk2,rfl,rfl,hZ,hF2⟩:=hrel
       have HFw:Hid (Fr w wr):=Lib.hid ((HF0.out.trans hF.out).trans hF2.out)
       obtain ⟨⟨y0,y1,y2,y3,y4⟩,_⟩:=box5 (HB1.out.keep (hF.out.trans hF2.out))
       obtain ⟨⟨z0,z1,z2,z3,z4⟩,_⟩:=box5 (HB2.out.keep (hF.out.trans hF2.out))
       by_cases hkn:0≤kk
       ·obtain ⟨k9,rfl⟩:∃ k9:Nat,kk=k9:=⟨kk.toNat,by omega⟩
        have hk9:k9<m2.length:=by have:=HM2.out;omega
        obtain ⟨b,o,C,q,C',q',rfl,hb,hnl,e10,_,_⟩:=(HMS.out.keep (Nat.le_refl _) HFw.out) i hil
        obtain ⟨b2,o2,C2,p,C2',p',rfl,hb2,hnl2,f0,_,_⟩:=(HMS2.out.keep (Nat.le_refl _) HFw.out) k9 hk9
        rw [HNM.out] at e10
        obtain ⟨nm2,hnm2⟩:∃ nm2,m2[k9].1=nm2:=⟨_,rfl⟩
        rw [hnm2] at f0
        have hbn2:=bl_beq nm2 nm
        have HNM2:=Lib.hid hnm2
        have hwr:IntKind.i64.wrap ((k9:Int) - 1)=(k9:Int) - 1:=by rw [IntKind.wrap_i64];omega
        clear hnm2 hnl hnl2 hb hb2
        by_cases hnn:nm2=nm
        ·rw [decide_eq_true hnn] at hbn2
         have hbn:(nm2 == nm)=true:=by simp [hnn]
         have HNN:=Lib.hid hnn
         clear hnn
         go_wp2_with fail
         go_quiet (fail)
         go_wp2_with fail
         exact ⟨⟨k9,(k9:Int) - 1,by omega,by omega,rfl,by go_num,Lib.hid (fun hh=>by
          by_cases hka:k9<a
          ·exact absurd (HNM2.out.trans (HNN.out.trans HNM.out.symm)) (HA3.out k9 hk9 hka)
          ·omega),Lib.hid (hF2.out.trans ((Fr.refl _).drewN _))⟩,by simp [intOf] <;> omega⟩
        ·rw [decide_eq_false hnn] at hbn2
         have hbn:(nm2 == nm)=false:=by simp [hnn]
         have HNN:=Lib.hid hnn
         clear hnn
         go_wp2_with fail
         go_quiet (fail)
         go_wp2_with fail
         exact ⟨⟨z,(k9:Int) - 1,by omega,by omega,rfl,by go_num,Lib.hid (fun hh=>by
          by_cases hka:(k9:Int)<a
          ·exact hZ.out hka
          ·have hka:k9=a:=by omega
           subst hka
           exact absurd (HNM2.out.symm.trans (HA1.out.trans HNM.out)) HNN.out),Lib.hid (hF2.out.trans ((Fr.refl _).drewN _))⟩,by simp [intOf] <;> omega⟩
       ·obtain rfl:kk = -1:=by omega
        obtain rfl:(a:Int)=z:=(hZ.out (by omega)).symm
        obtain ⟨b,o,C,q,C',q',rfl,hb,hnl,e10,⟨e11,e12,e13,e14,e15⟩,hiv⟩:=(HMS.out.keep (Nat.le_refl _) HFw.out) i hil
        obtain ⟨b2,o2,C2,p,C2',p',rfl,hb2,hnl2,f0,⟨f1,f2,f3,f4,f5⟩,hiv2⟩:=(HMS2.out.keep (Nat.le_refl _) HFw.out) a ha
        have hih:=HI3.out i hil
        rw [← HA2.out] at hih
        obtain ⟨u1,hu1⟩:∃ u1,m[i].2=u1:=⟨_,rfl⟩
        obtain ⟨v1,hv1⟩:∃ v1,m2[a].2=v1:=⟨_,rfl⟩
        rw [hu1] at e11 e12 e13 e14 e15 hiv
        rw [hv1] at f1 f2 f3 f4 f5 hiv2
        rw [hu1,hv1] at hih
        have HX:Hid (InV wr (Lo wr.heap.size) u1 (vA u1 C q C' q')):=hiv.lo HFw.out.size
        have HY:Hid (InV wr (Lo wr.heap.size) v1 (vA v1 C2 p C2' p')):=hiv2.lo HFw.out.size
        have HCS:Hid (∀ W,Fr wr W→Calls Tryz.prog 18 #[.agg #[.int .i64 u1.kd,.int .i64 u1.nm,.string ⟨u1.tx.toArray⟩,.slice C u1.ls.length q,.slice C' u1.ms.length q'],.agg #[.int .i64 v1.kd,.int .i64 v1.nm,.string ⟨v1.tx.toArray⟩,.slice C2 v1.ls.length p,.slice C2' v1.ms.length p']] W fun e w'=>e=.returned (.bool true)∧Fr W w'):=Lib.hid (fun W hW=>hih _ _ W ((HX.out.keep (Nat.le_refl _) hW).lo hW.size) ((HY.out.keep (Nat.le_refl _) hW).lo hW.size))
        have HSV:Hid (∀ W,Fr wr W→W.cell? ⟨X1,4,none⟩=some (.slice (some ⟨b,o,none⟩) M c')∧W.cell? ⟨X2,4,none⟩=some (.slice (some ⟨b2,o2,none⟩) M d')∧W.cell? ⟨b,o+i*6+1,none⟩=some (.int .i64 u1.kd)∧W.cell? ⟨b,o+i*6+1+1,none⟩=some (.int .i64 u1.nm)∧W.cell? ⟨b,o+i*6+1+2,none⟩=some (.string ⟨u1.tx.toArray⟩)∧W.cell? ⟨b,o+i*6+1+3,none⟩=some (.slice C u1.ls.length q)∧W.cell? ⟨b,o+i*6+1+4,none⟩=some (.slice C' u1.ms.length q')∧W.cell? ⟨b2,o2+a*6+1,none⟩=some (.int .i64 v1.kd)∧W.cell? ⟨b2,o2+a*6+1+1,none⟩=some (.int .i64 v1.nm)∧W.cell? ⟨b2,o2+a*6+1+2,none⟩=some (.string ⟨v1.tx.toArray⟩)∧W.cell? ⟨b2,o2+a*6+1+3,none⟩=some (.slice C2 v1.ls.length p)∧W.cell? ⟨b2,o2+a*6+1+4,none⟩=some (.slice C2' v1.ms.length p')):=Lib.hid (fun W hW=>by
         have g1:=HB1.out.keep ((hF.out.trans hF2.out).trans hW)
         have g2:=HB2.out.keep ((hF.out.trans hF2.out).trans hW)
         have hb':=Nat.lt_of_lt_of_le hb HFw.out.size
         have hb2':=Nat.lt_of_lt_of_le hb2 HFw.out.size
         exact ⟨g1.cell 4,g2.cell 4,(hW.cell hb').trans e11,(hW.cell hb').trans e12,(hW.cell hb').trans e13,(hW.cell hb').trans e14,(hW.cell hb').trans e15,(hW.cell hb2').trans f1,(hW.cell hb2').trans f2,(hW.cell hb2').trans f3,(hW.cell hb2').trans f4,(hW.cell hb2').trans f5⟩)
        have ha':(a:Int)<(M:Int):=by omega
        have ha0:¬ ((a:Int)<0):=by omega
        have ha00:decide ((a:Int)<0)=false:=decide_eq_false ha0
        have ha'':(0:Int)≤(a:Int):=by omega
        clear hu1 hv1 hiv hiv2 hih hb hb2 hnl hnl2 e10 f0 e11 e12 e13 e14 e15 f1 f2 f3 f4 f5
        go_upto_region 17 with fail
        clear y0 y1 y2 y3 y4 z0 z1 z2 z3 z4
        refine wp_region_held_drew (S:=(fun W=>W.cell? ⟨X1,4,none⟩=some (.slice (some ⟨b,o,none⟩) M c')∧W.cell? ⟨X2,4,none⟩=some (.slice (some ⟨b2,o2,none⟩) M d')∧W.cell? ⟨b,o+i*6+1,none⟩=some (.int .i64 u1.kd)∧W.cell? ⟨b,o+i*6+1+1,none⟩=some (.int .i64 u1.nm)∧W.cell? ⟨b,o+i*6+1+2,none⟩=some (.string ⟨u1.tx.toArray⟩)∧W.cell? ⟨b,o+i*6+1+3,none⟩=some (.slice C u1.ls.length q)∧W.cell? ⟨b,o+i*6+1+4,none⟩=some (.slice C' u1.ms.length q')∧W.cell? ⟨b2,o2+a*6+1,none⟩=some (.int .i64 v1.kd)∧W.cell? ⟨b2,o2+a*6+1+1,none⟩=some (.int .i64 v1.nm)∧W.cell? ⟨b2,o2+a*6+1+2,none⟩=some (.string ⟨v1.tx.toArray⟩)∧W.cell? ⟨b2,o2+a*6+1+3,none⟩=some (.slice C2 v1.ls.length p)∧W.cell? ⟨b2,o2+a*6+1+4,none⟩=some (.slice C2' v1.ms.length p'))) (by kernel_rfl) ?_ (fun hHeld=>?_)
        ·exact HSV.out _ (Fr.refl _).drew
        refine tk (i:=0) (v:=?_) rfl ⟨by rfl,?_⟩ hHeld ?_
        rotate_left
        ·(intro w' hSw;(try dsimp only at hSw);go_simp;try with_reducible rfl)
        try simp only [Act.put,fl]
        refine tk (i:=1) (v:=?_) rfl ⟨by rfl,?_⟩ hHeld ?_
        rotate_left
        ·(intro w' hSw;(try dsimp only at hSw);go_simp;try with_reducible rfl)
        try simp only [Act.put,fl]
        refine tk (i:=2) (v:=?_) rfl ⟨by rfl,?_⟩ hHeld ?_
        rotate_left
        ·(intro w' hSw;(try dsimp only at hSw);go_simp;try with_reducible rfl)
        try simp only [Act.put,fl]
        refine tk (i:=3) (v:=?_) rfl ⟨by rfl,?_⟩ hHeld ?_
        rotate_left
        ·(intro w' hSw;(try dsimp only at hSw);go_simp;try with_reducible rfl)
        try simp only [Act.put,fl]
        refine tk (i:=4) (v:=?_) rfl ⟨by rfl,?_⟩ hHeld ?_
        rotate_left
        ·(intro w' hSw;(try dsimp only at hSw);go_simp;try with_reducible rfl)
        try simp only [Act.put,fl]
        refine tk (i:=5) (v:=?_) rfl ⟨by rfl,?_⟩ hHeld ?_
        rotate_left
        ·(intro w' hSw;(try dsimp only at hSw);go_simp;try with_reducible rfl)
        try simp only [Act.put,fl]
        refine tk (i:=6) (v:=?_) rfl ⟨by rfl,?_⟩ hHeld ?_
        rotate_left
        ·(intro w' hSw;(try dsimp only at hSw);go_simp;try with_reducible rfl)
        try simp only [Act.put,fl]
        refine tk (i:=7) (v:=?_) rfl ⟨by rfl,?_⟩ hHeld ?_
        rotate_left
        ·(intro w' hSw;(try dsimp only at hSw);go_simp;try with_reducible rfl)
        try simp only [Act.put,fl]
        refine tk (i:=8) (v:=?_) rfl ⟨by rfl,?_⟩ hHeld ?_
        rotate_left
        ·(intro w' hSw;(try dsimp only at hSw);go_simp;try with_reducible rfl)
        try simp only [Act.put,fl]
        refine tk (i:=9) (v:=?_) rfl ⟨by rfl,?_⟩ hHeld ?_
        rotate_left
        ·(intro w' hSw;(try dsimp only at hSw);go_simp;try with_reducible rfl)
        try simp only [Act.put,fl]
        refine tk (i:=10) (v:=?_) rfl ⟨by rfl,?_⟩ hHeld ?_
        rotate_left
        ·(intro w' hSw;(try dsimp only at hSw);go_simp;try with_reducible rfl)
        try simp only [Act.put,fl]
        refine tk (i:=11) (v:=?_) rfl ⟨by rfl,?_⟩ hHeld ?_
        rotate_left
        ·(intro w' hSw;(try dsimp only at hSw);go_simp;try with_reducible rfl)
        try simp only [Act.put,fl]
        refine tk (i:=12) (v:=?_) rfl ⟨by rfl,?_⟩ hHeld ?_
        rotate_left
        ·(intro w' hSw;(try dsimp only at hSw);go_simp;try with_reducible rfl)
        try simp only [Act.put,fl]
        refine tk (i:=13) (v:=?_) rfl ⟨by rfl,?_⟩ hHeld ?_
        rotate_left
        ·(intro w' hSw;(try dsimp only at hSw);go_simp;try with_reducible rfl)
        try simp only [Act.put,fl]
        refine tk (i:=14) (v:=?_) rfl ⟨by rfl,?_⟩ hHeld ?_
        rotate_left
        ·(intro w' hSw;(try dsimp only at hSw);go_simp;try with_reducible rfl)
        try simp only [Act.put,fl]
        refine wpAnyH_ready (rs:=[15]) (by kernel_rfl) (by simp) ?_
        refine AllReadyH.cons rfl (fun K hK=>?_) AllReadyH.nil
        go_simp
        (go_at_call 18;refine (HCS.out _ (Fr.refl wr).drew).mono ?_;rintro e w8 ⟨rfl,hf⟩;have HF8:Hid (Fr wr w8):=Lib.hid ((Fr.refl wr).drew.trans hf);clear hf)
        try (refine hK.out _ _ ?_ (fun hHeld2=>?_))
        ·exact HSV.out _ HF8.out
        clear hK K
        try simp only [Act.put,fl]
        refine tk (i:=16) (v:=?_) rfl ⟨by rfl,?_⟩ hHeld2 ?_
        rotate_left
        ·(intro w' hSw;(try dsimp only at hSw);go_simp;try with_reducible rfl)
        try simp only [Act.put,fl]
        refine tk (i:=17) (v:=?_) rfl ⟨by rfl,?_⟩ hHeld2 ?_
        rotate_left
        ·(intro w' hSw;(try dsimp only at hSw);go_simp;try with_reducible rfl)
        try simp only [Act.put,fl]
        refine wpAnyH_done (by kernel_rfl) ?_ _
        clear hHeld hHeld2
        go_wp2_with fail
        exact ⟨⟨i+1,by omega,by go_num,Lib.hid ((hF.out.trans hF2.out).trans HF8.out)⟩,by simp [intOf];omega⟩
     ·obtain rfl:i=M:=by omega
      go_wp2_with fail
      go_ret
      exact ⟨rfl,HF0.out.trans hF.out⟩
/- Chapter 15: the document's Has, Put. -/

theorem has7_is (v:JV) (B:Option Addr) (d:Nat) (B':Option Addr) (d':Nat) (s:List UInt8) (w:World) (Z:Nat) (hZ:Z≤w.heap.size) (h:InV w (Lo Z) v (vA v B d B' d')):
  Calls Tryz.prog 21 #[.agg #[.int .i64 v.kd,.int .i64 v.nm,.string ⟨v.tx.toArray⟩,.slice B v.ls.length d,.slice B' v.ms.length d'],.string ⟨s.toArray⟩] w fun e w'=>e=.returned (.bool (Pt.get v s).isSome)∧Fr w w':=by
 have hal:=(Fr.refl w).alloc (.cells #[.int .i64 v.kd,.int .i64 v.nm,.string ⟨v.tx.toArray⟩,.slice B v.ls.length d,.slice B' v.ms.length d'] 25)
 have HG:Hid (Calls Tryz.prog 38 #[.agg #[.int .i64 v.kd,.int .i64 v.nm,.string ⟨v.tx.toArray⟩,.slice B v.ls.length d,.slice B' v.ms.length d'],.string ⟨s.toArray⟩] (w.alloc (.cells #[.int .i64 v.kd,.int .i64 v.nm,.string ⟨v.tx.toArray⟩,.slice B v.ls.length d,.slice B' v.ms.length d'] 25)) (OpP Z (w.alloc (.cells #[.int .i64 v.kd,.int .i64 v.nm,.string ⟨v.tx.toArray⟩,.slice B v.ls.length d,.slice B' v.ms.length d'] 25)) (Pt.get v s))):=Lib.hid (get7_is v B d B' d' s _ Z (Nat.le_trans hZ hal.size) (h.keep hZ hal))
 clear h
 cases hg:Pt.get v s with
 | none=>
  rw [hg] at HG
  go_enter Tryz.func21,Tryz.ntmps21
  go_wp2_with (go_at_call 38;refine HG.out.mono ?_;rintro e w1 ⟨rfl,hf⟩;have HF:=Lib.hid (hal.trans hf);clear hf)
  go_ret
  exact ⟨rfl,HF.out.alloc _⟩
 | some y=>
  rw [hg] at HG
  go_enter Tryz.func21,Tryz.ntmps21
  go_wp2_with (go_at_call 38;refine HG.out.mono ?_;rintro e w1 ⟨C,f,C',f',rfl,_,hf⟩;have HF:=Lib.hid (hal.trans hf);clear hf)
  go_ret
  exact ⟨rfl,HF.out.alloc _⟩
/- Chapter 15: the document's May. -/

/- Chapter 15: the document's Check. -/

end Go.Proofs.YtlmcfhokfiibkaaGreatDoor
