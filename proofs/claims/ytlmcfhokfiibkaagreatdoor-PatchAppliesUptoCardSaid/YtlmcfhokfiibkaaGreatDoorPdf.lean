/- Chapter 09: the document's begins. -/
import Derived.Test.YtlmcfhokfiibkaaGreatDoorPcr
import Derived.Test.YtlmcfhokfiibkaaGreatDoorPaN
import Derived.Test.YtlmcfhokfiibkaaGreatDoorPca
namespace Go.Proofs.YtlmcfhokfiibkaaGreatDoor
set_option maxRecDepth 100000
set_option maxHeartbeats 4000000
set_option linter.unusedVariables false
set_option linter.unusedSimpArgs false
open Go.RowKit

theorem Pc.begins_of {a b:List (List UInt8)} (hl:a.length≤b.length) (h:∀ i (h1:i<a.length) (h2:i<b.length),a[i]=b[i]):Pc.begins a b=true:=by
 rw [Pc.begins_iff,List.prefix_iff_eq_take]
 refine List.ext_getElem (by rw [List.length_take];omega) (fun i h1 h2=>?_)
 rw [List.getElem_take]
 exact h i h1 (by omega)
theorem Pc.begins_not {a b:List (List UInt8)} {i:Nat} (h1:i<a.length) (h2:i<b.length) (h:a[i]≠b[i]):Pc.begins a b=false:=by
 cases hb:Pc.begins a b with
 | false=>rfl
 | true=>
  have hp:=Pc.begins_iff.1 hb
  exact absurd (List.IsPrefix.getElem hp h1) h
theorem Pc.begins_long {a b:List (List UInt8)} (h:b.length<a.length):Pc.begins a b=false:=by
 cases hb:Pc.begins a b with
 | false=>rfl
 | true=>have:=(Pc.begins_iff.1 hb).length_le;omega
theorem rbegins_is (a b:List (List UInt8)) (A B:Option Addr) (c d:Nat) (w:World) (ha:PsC w A a) (hb:PsC w B b) (hla:a.length≤140737488351232) (hlb:b.length≤140737488351232):
  Calls Tryz.prog 32 #[.slice A a.length c,.slice B b.length d] w fun e w'=>e=.returned (.bool (Pc.begins a b))∧Fr w w':=by
 have HP:=Lib.hid ha
 have HQ:=Lib.hid hb
 obtain ⟨r,hr⟩:∃ r,Pc.begins a b=r:=⟨_,rfl⟩
 have HR:=Lib.hid hr
 rw [hr]
 have hla':(a.length:Int)≤140737488351232:=by omega
 have hlb':(b.length:Int)≤140737488351232:=by omega
 clear ha hb hr
 by_cases hl:a.length≤b.length
 ·have q:¬ (b.length:Int)<(a.length:Int):=by omega
  go_enter Tryz.func32,Tryz.ntmps32
  go_wp2_with fail
  go_loopw [5] (fun j wr=>∃ (i:Nat),i≤a.length∧j=.int .i64 i∧Hid (∀ k (h1:k<a.length) (h2:k<b.length),k<i→a[k]=b[k])∧Hid (Fr w wr)) (fun j _=>a.length - (intOf j).toNat)
  case atStart=>exact ⟨0,by omega,rfl,Lib.hid (fun k _ _ h=>absurd h (by omega)),Lib.hid (Fr.refl w)⟩
  case round=>
   obtain ⟨i,hi,rfl,hO,hF⟩:=hrel
   by_cases hlt:i<a.length
   ·have hlt':(i:Int)<(a.length:Int):=by omega
    have hlb2:i<b.length:=by omega
    have hlb3:(i:Int)<(b.length:Int):=by omega
    obtain ⟨b1,o1,rfl,hb1,hc1⟩:=HP.out (fun e=>by rw [e] at hlt;simp at hlt)
    obtain ⟨b2,o2,rfl,hb2,hc2⟩:=HQ.out (fun e=>by rw [e] at hlb2;simp at hlb2)
    have m1:=(hF.out.cell hb1).trans (hc1 i hlt)
    have m2:=(hF.out.cell hb2).trans (hc2 i hlb2)
    obtain ⟨s,hs⟩:∃ s,a[i]=s:=⟨_,rfl⟩
    obtain ⟨t,ht⟩:∃ t,b[i]=t:=⟨_,rfl⟩
    rw [hs] at m1
    rw [ht] at m2
    have HS:=Lib.hid hs
    have HTT:=Lib.hid ht
    by_cases he:s=t
    ·have h2:((⟨s.toArray⟩:ByteArray).toList == (⟨t.toArray⟩:ByteArray).toList)=true:=by rw [bl_beq'];simp [he]
     have h3:((⟨s.toArray⟩:ByteArray).toList != (⟨t.toArray⟩:ByteArray).toList)=false:=by rw [bne,h2];rfl
     have h4:(s != t)=false:=by simp [he]
     have h5:(s == t)=true:=by simp [he]
     have HE:=Lib.hid he
     clear hs ht he hc1 hc2 hb1 hb2
     go_wp2_with fail
     go_quiet (fail)
     go_wp2_with fail
     exact ⟨⟨i+1,by omega,by go_num,Lib.hid (fun k h1 h2 hk=>by
      by_cases e:k=i
      ·subst e;rw [HS.out,HTT.out];exact HE.out
      ·exact hO.out k h1 h2 (by omega)),Lib.hid (hF.out.drewN _)⟩,by simp [intOf];omega⟩
    ·have h2:((⟨s.toArray⟩:ByteArray).toList == (⟨t.toArray⟩:ByteArray).toList)=false:=by rw [bl_beq'];simp [he]
     have h3:((⟨s.toArray⟩:ByteArray).toList != (⟨t.toArray⟩:ByteArray).toList)=true:=by rw [bne,h2];rfl
     have h4:(s != t)=true:=by simp [he]
     have h5:(s == t)=false:=by simp [he]
     have hrf:Hid (r=false):=Lib.hid (by rw [← HR.out];exact Pc.begins_not hlt hlb2 (by rw [hs,ht];exact he))
     clear hs ht he hc1 hc2 hb1 hb2
     go_wp2_with fail
     go_quiet (fail)
     go_wp2_with fail
     go_ret
     exact ⟨by rw [hrf.out];rfl,hF.out.drewN _⟩
   ·obtain rfl:i=a.length:=by omega
    have hrt:Hid (r=true):=Lib.hid (by rw [← HR.out];exact Pc.begins_of hl (fun k h1 h2=>hO.out k h1 h2 h1))
    go_wp2_with fail
    go_ret
    exact ⟨by rw [hrt.out];rfl,hF.out⟩
 ·have q:(b.length:Int)<(a.length:Int):=by omega
  have hrf:Hid (r=false):=Lib.hid (by rw [← HR.out];exact Pc.begins_long (by omega))
  go_enter Tryz.func32,Tryz.ntmps32
  go_wp2_with fail
  go_ret
  exact ⟨by rw [hrf.out];rfl,Fr.refl w⟩
/- Chapter 09: the document's Fits. -/

namespace Pc
theorem fitsP_v {v p:JV} (h:v.kd≠6):fitsP v p=false:=by
 unfold fitsP
 cases chg p with
 | none=>rfl
 | some l=>show (v.kd == 6 && _)=false;rw [show (v.kd == 6)=false from by simp [h]];rfl
theorem fitsP_p {v p:JV} (h:¬ (p.kd=6∧p.ms.length≤400)):fitsP v p=false:=by
 unfold fitsP chg
 rw [if_neg h]
theorem fitsP_none {v p:JV} {i:Nat} (hi:i<p.ms.length) (h:Pt.parts (47::p.ms[i].1)=none):fitsP v p=false:=by
 have hc:chg p=none:=by
  unfold chg
  rw [chgM_none hi h]
  split <;> rfl
 unfold fitsP
 rw [hc]
theorem fitsP_some {v p:JV} (h:fitsP v p=true):∃ l,chg p=some l∧fits v l=true:=by
 unfold fitsP at h
 cases hc:chg p with
 | none=>rw [hc] at h;cases h
 | some l=>rw [hc] at h;exact ⟨l,rfl,h⟩
theorem fitsP_leads {v p:JV} {i:Nat} (hi:i<p.ms.length) {m:List Tx} (h:Pt.parts (47::p.ms[i].1)=some m) (hl:leads v m=false):fitsP v p=false:=by
 cases hf:fitsP v p with
 | false=>rfl
 | true=>
  obtain ⟨l,hc,hf⟩:=fitsP_some hf
  have hll:=chgM_len (chg_some hc).2.2
  have hil:i<l.length:=by omega
  have hg:=chgM_get (chg_some hc).2.2 i hi hil
  rw [h] at hg
  have h1:l[i].1=m:=by injection hg.1 with h;exact h.symm
  have:=(fits_all hf).2.2 l[i] (List.getElem_mem _)
  rw [h1,hl] at this;cases this
theorem fitsP_off {v p:JV} {i k:Nat} (hi:i<p.ms.length) (hk:k<p.ms.length) (hne:i≠k) {a b:List Tx} (ha:Pt.parts (47::p.ms[i].1)=some a) (hb:Pt.parts (47::p.ms[k].1)=some b) (h:begins a b=true):fitsP v p=false:=by
 cases hf:fitsP v p with
 | false=>rfl
 | true=>
  obtain ⟨l,hc,hf⟩:=fitsP_some hf
  have hll:=chgM_len (chg_some hc).2.2
  have hil:i<l.length:=by omega
  have hkl:k<l.length:=by omega
  have hgi:=chgM_get (chg_some hc).2.2 i hi (by omega)
  have hgk:=chgM_get (chg_some hc).2.2 k hk (by omega)
  rw [ha] at hgi
  rw [hb] at hgk
  have h1:a=l[i].1:=by injection hgi.1
  have h2:b=l[k].1:=by injection hgk.1
  rw [h1,h2] at h
  have h3:=apart_not (l:=l) (by omega) (by omega) hne h
  unfold fits at hf
  rw [h3] at hf
  simp at hf
theorem chgM_ex:∀ {m:List (Tx × JV)},(∀ i (h:i<m.length),∃ ps,Pt.parts (47::m[i].1)=some ps) → ∃ l,chgM m=some l
 | [],_=>⟨[],rfl⟩
 | p::m,h=>by
  obtain ⟨ps,hps⟩:=h 0 (by simp)
  obtain ⟨l,hl⟩:=chgM_ex (m:=m) (fun i hi=>by
   have h1:=h (i+1) (by simpa using hi)
   rwa [List.getElem_cons_succ] at h1)
  simp only [List.getElem_cons_zero] at hps
  unfold chgM
  rw [hps,hl]
  exact ⟨_,rfl⟩
theorem fitsP_all {v p:JV} {L:List (List Tx)} (h6:v.kd=6) (h6p:p.kd=6) (h4:p.ms.length≤400) (hl:L.length=p.ms.length) (hg:∀ i (h1:i<p.ms.length) (h2:i<L.length),Pt.parts (47::p.ms[i].1)=some L[i]∧leads v L[i]=true) (ho:∀ i (h1:i<L.length) k (h2:k<L.length),k<i→begins L[k] L[i]=false∧begins L[i] L[k]=false):fitsP v p=true:=by
 obtain ⟨l,hcm⟩:=chgM_ex (m:=p.ms) (fun i hi=>⟨_,(hg i hi (by omega)).1⟩)
 have hc:chg p=some l:=by unfold chg;rw [if_pos ⟨h6p,h4⟩,hcm]
 have hll:=chgM_len hcm
 have he:∀ i (h1:i<l.length) (h2:i<L.length),l[i].1=L[i]:=fun i h1 h2=>by
  have a:=chgM_get hcm i (by omega) h1
  rw [(hg i (by omega) h2).1] at a
  injection a.1 with a;exact a.symm
 unfold fitsP
 rw [hc]
 show fits v l=true
 unfold fits
 simp only [Bool.and_eq_true,beq_iff_eq,List.all_eq_true]
 refine ⟨h6,apart_of (fun i hi k hk hne=>?_),fun c hc=>?_⟩
 ·rw [he i hi (by omega),he k hk (by omega)]
  rcases Nat.lt_or_gt_of_ne hne with h | h
  ·exact (ho k (by omega) i (by omega) h).1
  ·exact (ho i (by omega) k (by omega) h).2
 ·obtain ⟨i,hi,rfl⟩:=List.mem_iff_getElem.1 hc
  rw [he i hi (by omega)]
  exact (hg i (by omega) (by omega)).2
end Pc
theorem el_ssl:El 61 44 (.slice none 0 0) 24:=⟨Tryz.underlying61,by kernel_rfl,rfl⟩
def PL (w:World) (base:Nat) (v:Value) (xs:List Value) (L:List (List (List UInt8))):Prop:=Row w base 44 v xs∧xs.length=L.length ∧ ∀ i (h1:i<xs.length) (h2:i<L.length),Ssl w 0 xs[i] L[i]
theorem PL.keep {w w':World} {base:Nat} {v:Value} {xs:List Value} {L:List (List (List UInt8))} (h:PL w base v xs L) (hf:Fr w w'):PL w' base v xs L:=⟨h.1.keep hf,h.2.1,fun i h1 h2=>Row.keep (h.2.2 i h1 h2) hf⟩
theorem Ssl.grown {w w':World} {b1 b2:Nat} {v x:Value} {xs:List Value} {l:List (List UInt8)} (h:Ssl w b1 x l) (hv:Row w b2 44 v xs) (hg:w.grownBy w' v.ownBlock):Ssl w' b1 x l:=by
 unfold Ssl Row World.ownsRow at h ⊢
 refine ⟨h.1,?_⟩
 rcases h.2 with hn | ⟨g,cap,cur,rfl,hb,hgc,rest⟩
 ·exact .inl hn
 ·refine .inr ⟨g,cap,cur,rfl,hb,?_,rest⟩
  rw [hg.block g (Array.getElem?_eq_some_iff.1 hgc).1 (fun e=>?_)]
  ·exact hgc
  ·rcases hv.2 with ⟨rfl,_⟩ | ⟨g2,cap2,cur2,rfl,_,hgc2,_⟩
   ·cases e
   ·have e2:g2=g:=(Option.some.inj e).symm
    subst e2
    rw [hgc] at hgc2
    injection hgc2 with h2
    injection h2 with _ h3 _
    exact absurd h3 (by decide)
theorem PL.app {w w':World} {base:Nat} {v v' x:Value} {xs:List Value} {L:List (List (List UInt8))} {m:List (List UInt8)} (h:PL w base v xs L) (hx:Ssl w 0 x m) (h2:Row w' base 44 v' (xs++[x])) (hg:w.grownBy w' v.ownBlock):PL w' base v' (xs++[x]) (L++[m]):=by
 refine ⟨h2,by simp [h.2.1],fun i h3 h4=>?_⟩
 by_cases hi:i<xs.length
 ·rw [List.getElem_append_left hi,List.getElem_append_left (by have:=h.2.1;omega)]
  exact (h.2.2 i hi _).grown h.1 hg
 ·have h5:i=xs.length:=by simp at h3;omega
  subst h5
  rw [List.getElem_append_right (Nat.le_refl _),List.getElem_append_right (by rw [h.2.1];exact Nat.le_refl _)]
  simp only [h.2.1,Nat.sub_self,List.getElem_cons_zero]
  exact hx.grown h.1 hg
theorem PL.is_slice {w:World} {base:Nat} {v:Value} {xs:List Value} {L:List (List (List UInt8))} (h:PL w base v xs L):∃ A c,v=.slice A L.length c:=by
 rcases Row.form h.1 with ⟨rfl,he⟩ | ⟨g,cap,rfl,_⟩
 ·have:L=[]:=List.eq_nil_of_length_eq_zero (by have:=h.2.1;rw [he] at this;simpa using this.symm)
  subst this
  exact ⟨none,0,rfl⟩
 ·exact ⟨_,_,by rw [h.2.1]⟩
theorem PL.at_ {w:World} {base n c:Nat} {A:Option Addr} {xs:List Value} {L:List (List (List UInt8))} (h:PL w base (.slice A n c) xs L) {k:Nat} (hk:k<L.length):∃ g P q,A=some ⟨g,0,none⟩∧g<w.heap.size∧w.cell? ⟨g,k,none⟩=some (.slice P L[k].length q)∧PsC w P L[k]:=by
 have hx:k<xs.length:=by have:=h.2.1;omega
 obtain ⟨P,q,he,hp⟩:=(h.2.2 k hx hk).shows
 rcases Row.form h.1 with ⟨_,he2⟩ | ⟨g,cap,e,_,hlt,_,_,hcells⟩
 ·rw [he2] at hx;simp at hx
 ·injection e with e1 _ _
  exact ⟨g,P,q,e1,hlt,by rw [hcells k xs[k] (List.getElem?_eq_getElem hx),he],hp⟩
theorem PtsP.some2 {w w':World} {ps:List (List UInt8)} {e:Ending} (h:PtsP w (some ps) e w'):(∃ P c,e=.returned (.tuple #[.slice P ps.length c,.int .i64 0])∧PsC w' P ps∧Ssl w' 0 (.slice P ps.length c) ps∧ps.length≤c∧c≤9223372036854775807)∧Fr w w':=by
 obtain ⟨v,rfl,hs,hf⟩:=h
 obtain ⟨P,c,rfl,hp⟩:=hs.shows
 have hc:=Ssl.caps hs
 exact ⟨⟨P,c,rfl,hp,Row.mono hs (Nat.zero_le _),hc.1,hc.2⟩,hf⟩
theorem rfits_is (v p:JV) (B:Option Addr) (d:Nat) (B':Option Addr) (d':Nat) (C:Option Addr) (f:Nat) (C':Option Addr) (f':Nat) (w:World) (hv:InV w (Lo w.heap.size) v (vA v B d B' d')) (hp:InV w (Lo w.heap.size) p (vA p C f C' f')) (hbk:JV.bulk p≤1048576) (hM:MxL w):
  Calls Tryz.prog 15 #[.agg #[.int .i64 v.kd,.int .i64 v.nm,.string ⟨v.tx.toArray⟩,.slice B v.ls.length d,.slice B' v.ms.length d'],.agg #[.int .i64 p.kd,.int .i64 p.nm,.string ⟨p.tx.toArray⟩,.slice C p.ls.length f,.slice C' p.ms.length f']] w fun e w'=>e=.returned (.bool (Pc.fitsP v p))∧Fr w w':=by
 obtain ⟨r,hr⟩:∃ r,Pc.fitsP v p=r:=⟨_,rfl⟩
 have HR:=Lib.hid hr
 rw [hr]
 clear hr
 by_cases h6:v.kd=6
 rotate_left
 ·have hrf:Hid (r=false):=Lib.hid (by rw [← HR.out];exact Pc.fitsP_v h6)
  obtain ⟨_,q6⟩:=ikind h6
  clear h6
  clear hv hp hM hbk
  go_enter Tryz.func15,Tryz.ntmps15
  go_upto_region 1 with fail
  have hb1:Blk ((w.alloc (.cells #[.int .i64 v.kd,.int .i64 v.nm,.string ⟨v.tx.toArray⟩,.slice B v.ls.length d,.slice B' v.ms.length d'] 25)).alloc (.cells #[.int .i64 p.kd,.int .i64 p.nm,.string ⟨p.tx.toArray⟩,.slice C p.ls.length f,.slice C' p.ms.length f'] 25)) w.heap.size #[.int .i64 v.kd,.int .i64 v.nm,.string ⟨v.tx.toArray⟩,.slice B v.ls.length d,.slice B' v.ms.length d'] 25:=(Blk.made w _ _).keep ((Fr.refl _).alloc _)
  have hb2:Blk ((w.alloc (.cells #[.int .i64 v.kd,.int .i64 v.nm,.string ⟨v.tx.toArray⟩,.slice B v.ls.length d,.slice B' v.ms.length d'] 25)).alloc (.cells #[.int .i64 p.kd,.int .i64 p.nm,.string ⟨p.tx.toArray⟩,.slice C p.ls.length f,.slice C' p.ms.length f'] 25)) (w.heap.size+1) #[.int .i64 p.kd,.int .i64 p.nm,.string ⟨p.tx.toArray⟩,.slice C p.ls.length f,.slice C' p.ms.length f'] 25:=boxz (Blk.made (w.alloc _) _ _)
  have hf0:Fr w ((w.alloc (.cells #[.int .i64 v.kd,.int .i64 v.nm,.string ⟨v.tx.toArray⟩,.slice B v.ls.length d,.slice B' v.ms.length d'] 25)).alloc (.cells #[.int .i64 p.kd,.int .i64 p.nm,.string ⟨p.tx.toArray⟩,.slice C p.ls.length f,.slice C' p.ms.length f'] 25)):=((Fr.refl w).alloc _).alloc _
  generalize ((w.alloc (.cells #[.int .i64 v.kd,.int .i64 v.nm,.string ⟨v.tx.toArray⟩,.slice B v.ls.length d,.slice B' v.ms.length d'] 25)).alloc (.cells #[.int .i64 p.kd,.int .i64 p.nm,.string ⟨p.tx.toArray⟩,.slice C p.ls.length f,.slice C' p.ms.length f'] 25))=W0 at hb1 hb2 hf0 ⊢
  generalize w.heap.size+1=X2 at hb2 ⊢
  obtain ⟨X1,hX1⟩:∃ X,w.heap.size=X:=⟨_,rfl⟩
  rw [hX1] at hb1 ⊢
  clear hX1
  have HB1:=Lib.hid hb1
  have HB2:=Lib.hid hb2
  have HF0:=Lib.hid hf0
  obtain ⟨⟨y0,y1,y2,y3,y4⟩,_⟩:=box5 hb1
  obtain ⟨⟨z0,z1,z2,z3,z4⟩,_⟩:=box5 hb2
  clear hb1 hb2 hf0
  go_wp2_with fail
  go_ret
  exact ⟨by rw [hrf.out];rfl,HF0.out⟩
 have q6:(v.kd != 6)=false:=by rw [h6];rfl
 by_cases h6p:p.kd=6
 rotate_left
 ·have hrf:Hid (r=false):=Lib.hid (by rw [← HR.out];exact Pc.fitsP_p (fun h=>h6p h.1))
  obtain ⟨_,q7⟩:=ikind h6p
  clear h6 h6p
  clear hv hp hM hbk
  go_enter Tryz.func15,Tryz.ntmps15
  go_upto_region 1 with fail
  have hb1:Blk ((w.alloc (.cells #[.int .i64 v.kd,.int .i64 v.nm,.string ⟨v.tx.toArray⟩,.slice B v.ls.length d,.slice B' v.ms.length d'] 25)).alloc (.cells #[.int .i64 p.kd,.int .i64 p.nm,.string ⟨p.tx.toArray⟩,.slice C p.ls.length f,.slice C' p.ms.length f'] 25)) w.heap.size #[.int .i64 v.kd,.int .i64 v.nm,.string ⟨v.tx.toArray⟩,.slice B v.ls.length d,.slice B' v.ms.length d'] 25:=(Blk.made w _ _).keep ((Fr.refl _).alloc _)
  have hb2:Blk ((w.alloc (.cells #[.int .i64 v.kd,.int .i64 v.nm,.string ⟨v.tx.toArray⟩,.slice B v.ls.length d,.slice B' v.ms.length d'] 25)).alloc (.cells #[.int .i64 p.kd,.int .i64 p.nm,.string ⟨p.tx.toArray⟩,.slice C p.ls.length f,.slice C' p.ms.length f'] 25)) (w.heap.size+1) #[.int .i64 p.kd,.int .i64 p.nm,.string ⟨p.tx.toArray⟩,.slice C p.ls.length f,.slice C' p.ms.length f'] 25:=boxz (Blk.made (w.alloc _) _ _)
  have hf0:Fr w ((w.alloc (.cells #[.int .i64 v.kd,.int .i64 v.nm,.string ⟨v.tx.toArray⟩,.slice B v.ls.length d,.slice B' v.ms.length d'] 25)).alloc (.cells #[.int .i64 p.kd,.int .i64 p.nm,.string ⟨p.tx.toArray⟩,.slice C p.ls.length f,.slice C' p.ms.length f'] 25)):=((Fr.refl w).alloc _).alloc _
  generalize ((w.alloc (.cells #[.int .i64 v.kd,.int .i64 v.nm,.string ⟨v.tx.toArray⟩,.slice B v.ls.length d,.slice B' v.ms.length d'] 25)).alloc (.cells #[.int .i64 p.kd,.int .i64 p.nm,.string ⟨p.tx.toArray⟩,.slice C p.ls.length f,.slice C' p.ms.length f'] 25))=W0 at hb1 hb2 hf0 ⊢
  generalize w.heap.size+1=X2 at hb2 ⊢
  obtain ⟨X1,hX1⟩:∃ X,w.heap.size=X:=⟨_,rfl⟩
  rw [hX1] at hb1 ⊢
  clear hX1
  have HB1:=Lib.hid hb1
  have HB2:=Lib.hid hb2
  have HF0:=Lib.hid hf0
  obtain ⟨⟨y0,y1,y2,y3,y4⟩,_⟩:=box5 hb1
  obtain ⟨⟨z0,z1,z2,z3,z4⟩,_⟩:=box5 hb2
  clear hb1 hb2 hf0
  go_wp2_with fail
  go_ret
  exact ⟨by rw [hrf.out];rfl,HF0.out⟩
 have q7:(p.kd != 6)=false:=by rw [h6p];rfl
 by_cases h4:p.ms.length≤400
 rotate_left
 ·have hrf:Hid (r=false):=Lib.hid (by rw [← HR.out];exact Pc.fitsP_p (fun h=>h4 h.2))
  have q4:(400:Int)<(p.ms.length:Int):=by omega
  clear h6 h6p h4
  clear hv hp hM hbk
  go_enter Tryz.func15,Tryz.ntmps15
  go_upto_region 1 with fail
  have hb1:Blk ((w.alloc (.cells #[.int .i64 v.kd,.int .i64 v.nm,.string ⟨v.tx.toArray⟩,.slice B v.ls.length d,.slice B' v.ms.length d'] 25)).alloc (.cells #[.int .i64 p.kd,.int .i64 p.nm,.string ⟨p.tx.toArray⟩,.slice C p.ls.length f,.slice C' p.ms.length f'] 25)) w.heap.size #[.int .i64 v.kd,.int .i64 v.nm,.string ⟨v.tx.toArray⟩,.slice B v.ls.length d,.slice B' v.ms.length d'] 25:=(Blk.made w _ _).keep ((Fr.refl _).alloc _)
  have hb2:Blk ((w.alloc (.cells #[.int .i64 v.kd,.int .i64 v.nm,.string ⟨v.tx.toArray⟩,.slice B v.ls.length d,.slice B' v.ms.length d'] 25)).alloc (.cells #[.int .i64 p.kd,.int .i64 p.nm,.string ⟨p.tx.toArray⟩,.slice C p.ls.length f,.slice C' p.ms.length f'] 25)) (w.heap.size+1) #[.int .i64 p.kd,.int .i64 p.nm,.string ⟨p.tx.toArray⟩,.slice C p.ls.length f,.slice C' p.ms.length f'] 25:=boxz (Blk.made (w.alloc _) _ _)
  have hf0:Fr w ((w.alloc (.cells #[.int .i64 v.kd,.int .i64 v.nm,.string ⟨v.tx.toArray⟩,.slice B v.ls.length d,.slice B' v.ms.length d'] 25)).alloc (.cells #[.int .i64 p.kd,.int .i64 p.nm,.string ⟨p.tx.toArray⟩,.slice C p.ls.length f,.slice C' p.ms.length f'] 25)):=((Fr.refl w).alloc _).alloc _
  generalize ((w.alloc (.cells #[.int .i64 v.kd,.int .i64 v.nm,.string ⟨v.tx.toArray⟩,.slice B v.ls.length d,.slice B' v.ms.length d'] 25)).alloc (.cells #[.int .i64 p.kd,.int .i64 p.nm,.string ⟨p.tx.toArray⟩,.slice C p.ls.length f,.slice C' p.ms.length f'] 25))=W0 at hb1 hb2 hf0 ⊢
  generalize w.heap.size+1=X2 at hb2 ⊢
  obtain ⟨X1,hX1⟩:∃ X,w.heap.size=X:=⟨_,rfl⟩
  rw [hX1] at hb1 ⊢
  clear hX1
  have HB1:=Lib.hid hb1
  have HB2:=Lib.hid hb2
  have HF0:=Lib.hid hf0
  obtain ⟨⟨y0,y1,y2,y3,y4⟩,_⟩:=box5 hb1
  obtain ⟨⟨z0,z1,z2,z3,z4⟩,_⟩:=box5 hb2
  clear hb1 hb2 hf0
  go_wp2_with fail
  go_ret
  exact ⟨by rw [hrf.out];rfl,HF0.out⟩
 have q4:¬ (400:Int)<(p.ms.length:Int):=by omega
 have H4:Hid (v.kd=6∧p.kd=6∧p.ms.length≤400):=Lib.hid ⟨h6,h6p,h4⟩
 have hl':(p.ms.length:Int)≤400:=by omega
 have HNM:Hid (∀ y∈p.ms,7+y.1.length≤1048576):=Lib.hid (fun y hy=>by have:=(Pc.bulk_mem hy).1;omega)
 have HKV:Hid (∀ W,Fr w W→InV W (Lo W.heap.size) v (vA v B d B' d')):=Lib.hid (fun W hW=>(hv.keep (Nat.le_refl _) hW).lo hW.size)
 obtain ⟨E9,c9,E9',c9',hvA,_,hms⟩:=hp.open_
 have hE9:C'=E9':=by
  simp only [vA,Value.agg.injEq] at hvA
  have h4:=congrArg (fun q:Array Value=>q.getD 4 undef) hvA
  simp at h4
  exact h4.1
 subst hE9
 have HMS:=Lib.hid hms
 clear hv hp hM hbk hvA hms h6 h6p h4
 go_enter Tryz.func15,Tryz.ntmps15
 go_upto_region 1 with fail
 have hb1:Blk ((w.alloc (.cells #[.int .i64 v.kd,.int .i64 v.nm,.string ⟨v.tx.toArray⟩,.slice B v.ls.length d,.slice B' v.ms.length d'] 25)).alloc (.cells #[.int .i64 p.kd,.int .i64 p.nm,.string ⟨p.tx.toArray⟩,.slice C p.ls.length f,.slice C' p.ms.length f'] 25)) w.heap.size #[.int .i64 v.kd,.int .i64 v.nm,.string ⟨v.tx.toArray⟩,.slice B v.ls.length d,.slice B' v.ms.length d'] 25:=(Blk.made w _ _).keep ((Fr.refl _).alloc _)
 have hb2:Blk ((w.alloc (.cells #[.int .i64 v.kd,.int .i64 v.nm,.string ⟨v.tx.toArray⟩,.slice B v.ls.length d,.slice B' v.ms.length d'] 25)).alloc (.cells #[.int .i64 p.kd,.int .i64 p.nm,.string ⟨p.tx.toArray⟩,.slice C p.ls.length f,.slice C' p.ms.length f'] 25)) (w.heap.size+1) #[.int .i64 p.kd,.int .i64 p.nm,.string ⟨p.tx.toArray⟩,.slice C p.ls.length f,.slice C' p.ms.length f'] 25:=boxz (Blk.made (w.alloc _) _ _)
 have hf0:Fr w ((w.alloc (.cells #[.int .i64 v.kd,.int .i64 v.nm,.string ⟨v.tx.toArray⟩,.slice B v.ls.length d,.slice B' v.ms.length d'] 25)).alloc (.cells #[.int .i64 p.kd,.int .i64 p.nm,.string ⟨p.tx.toArray⟩,.slice C p.ls.length f,.slice C' p.ms.length f'] 25)):=((Fr.refl w).alloc _).alloc _
 generalize ((w.alloc (.cells #[.int .i64 v.kd,.int .i64 v.nm,.string ⟨v.tx.toArray⟩,.slice B v.ls.length d,.slice B' v.ms.length d'] 25)).alloc (.cells #[.int .i64 p.kd,.int .i64 p.nm,.string ⟨p.tx.toArray⟩,.slice C p.ls.length f,.slice C' p.ms.length f'] 25))=W0 at hb1 hb2 hf0 ⊢
 generalize w.heap.size+1=X2 at hb2 ⊢
 obtain ⟨X1,hX1⟩:∃ X,w.heap.size=X:=⟨_,rfl⟩
 rw [hX1] at hb1 ⊢
 clear hX1
 have HB1:=Lib.hid hb1
 have HB2:=Lib.hid hb2
 have HF0:=Lib.hid hf0
 obtain ⟨⟨y0,y1,y2,y3,y4⟩,_⟩:=box5 hb1
 obtain ⟨⟨z0,z1,z2,z3,z4⟩,_⟩:=box5 hb2
 clear hb1 hb2 hf0
 go_wp2_with fail
 clear y0 y1 y2 y3 y4 z0 z1 z2 z3 z4
 go_loopw [5,6] (fun av j wr=>∃ (i:Nat) (vv:Value) (xs:List Value) (L:List (List (List UInt8))),vv=av∧i≤p.ms.length∧j=.int .i64 i∧L.length=i∧Hid (PL wr W0.heap.size vv xs L)∧Hid (∀ a (h1:a<p.ms.length) (h2:a<L.length),Pt.parts (47::p.ms[a].1)=some L[a]∧Pc.leads v L[a]=true)∧Hid (∀ a (h1:a<L.length) b (h2:b<L.length),b<a→Pc.begins L[b] L[a]=false∧Pc.begins L[a] L[b]=false)∧Hid (Fr W0 wr)) (fun _ j _=>p.ms.length - (intOf j).toNat)
 case atStart=>exact ⟨0,_,[],[],rfl,by omega,rfl,rfl,Lib.hid ⟨Row.none_ _ _ _,rfl,fun i h _=>absurd h (by simp)⟩,Lib.hid (fun a _ h=>absurd h (by simp)),Lib.hid (fun a h=>absurd h (by simp)),Lib.hid (Fr.refl _)⟩
 case round=>
  obtain ⟨i,vv,xs,L,rfl,hi,rfl,hLl,hP,hG,hO,hF⟩:=hrel
  have HFr:Hid (Fr w wr):=Lib.hid (HF0.out.trans hF.out)
  obtain ⟨⟨z0,z1,z2,z3,z4⟩,_⟩:=box5 (HB2.out.keep hF.out)
  by_cases hlt:i<p.ms.length
  ·have hlt':(i:Int)<(p.ms.length:Int):=by omega
   obtain ⟨bm,om,G,k,G',k',rfl,hbm,_,m0,_,_⟩:=(HMS.out.keep (Nat.le_refl _) HFr.out) i hlt
   have hnl:=HNM.out _ (List.getElem_mem hlt)
   have hRN:Pt.parts (47::p.ms[i].1)=none→r=false:=fun h=>by rw [← HR.out];exact Pc.fitsP_none hlt h
   have hRL:∀ m,Pt.parts (47::p.ms[i].1)=some m→Pc.leads v m=false→r=false:=fun m h h2=>by rw [← HR.out];exact Pc.fitsP_leads hlt h h2
   have hRO:∀ m,Pt.parts (47::p.ms[i].1)=some m → ∀ k (h:k<L.length),(Pc.begins L[k] m=true∨Pc.begins m L[k]=true)→r=false:=fun m hm k hk h=>by
    rw [← HR.out]
    have hkp:k<p.ms.length:=by omega
    rcases h with h | h
    ·exact Pc.fitsP_off hkp hlt (by omega) (hG.out k hkp hk).1 hm h
    ·exact Pc.fitsP_off hlt hkp (by omega) hm (hG.out k hkp hk).1 h
   have hGN:∀ m,Pt.parts (47::p.ms[i].1)=some m→Pc.leads v m=true → ∀ a (h1:a<p.ms.length) (h2:a<(L++[m]).length),Pt.parts (47::p.ms[a].1)=some (L++[m])[a]∧Pc.leads v (L++[m])[a]=true:=fun m hm hl a h1 h2=>by
    by_cases ha:a<L.length
    ·rw [List.getElem_append_left ha];exact hG.out a h1 ha
    ·have:a=i:=by simp at h2;omega
     subst this
     rw [List.getElem_append_right (by omega)]
     simp only [hLl,Nat.sub_self,List.getElem_cons_zero]
     exact ⟨hm,hl⟩
   obtain ⟨nm,hnm⟩:∃ nm,p.ms[i].1=nm:=⟨_,rfl⟩
   rw [hnm] at m0 hnl hRN hRL hRO hGN
   have HPP:Hid (∀ W S,S=(⟨#[47]⟩:ByteArray)++⟨nm.toArray⟩→Calls Tryz.prog 29 #[.string S] W (PtsP W (Pt.parts (47::nm)))):=Lib.hid (fun W S hS=>by
    have hd:S.data.toList=47::nm:=by rw [hS];simp [ByteArray.data_append]
    have hz:S.size<4294967281:=by
     have:S.size=S.data.toList.length:=by simp
     rw [this,hd];simp;omega
    have:=rparts_is S W hz
    rwa [hd] at this)
   have hzz:¬ 9223372036854775807<1+nm.length:=by omega
   have hpl:=fun m (h:Pt.parts (47::nm)=some m)=>Pt.parts_len h
   have hNL:=Lib.hid hnl
   have HLT:=Lib.hid hlt
   clear hnl hbm hnm
   cases hpp:Pt.parts (47::nm) with
   | none=>
    rw [hpp] at HPP
    have hrf:Hid (r=false):=Lib.hid (hRN hpp)
    clear hRN hRL hRO hGN hpl hpp
    go_wp2_with (go_at_call 29;refine (HPP.out _ _ rfl).mono ?_;rintro e w7 ⟨rfl,hf⟩;have HF7:=Lib.hid (HFr.out.trans hf);clear hf)
    go_ret
    exact ⟨by rw [hrf.out];rfl,HF7.out⟩
   | some m=>
    rw [hpp] at HPP
    have hml:=(hpl m hpp).1
    have hml2:m.length≤1048577:=by have:=hNL.out;simp only [List.length_cons] at hml;omega
    have hmne:=Pc.parts_ne hpp
    have hRL2:=hRL m hpp
    have hRO2:=hRO m hpp
    have hGN2:=hGN m hpp
    obtain ⟨bl,hbl⟩:∃ bl,Pc.leads v m=bl:=⟨_,rfl⟩
    have HTH:Hid (∀ W P q,Fr w W→PsC W P m→m.length≤q→q≤9223372036854775807→Calls Tryz.prog 31 #[.agg #[.int .i64 v.kd,.int .i64 v.nm,.string ⟨v.tx.toArray⟩,.slice B v.ls.length d,.slice B' v.ms.length d'],.slice P m.length q] W fun e w'=>e=.returned (.bool bl)∧Fr W w'):=Lib.hid (fun W P q hW hP h1 h2=>by
     have:=rthr_is m hmne v B d B' d' P q W (HKV.out W hW) hP h1 h2 hml2
     rw [hbl] at this
     exact this)
    have HRL:=Lib.hid hRL2
    have HRO:=Lib.hid hRO2
    have HGN:=Lib.hid hGN2
    have HBL:=Lib.hid hbl
    have HML:=Lib.hid hml2
    clear hRN hRL hRO hGN hpl hpp hml hmne hRL2 hRO2 hGN2 hbl
    go_upto_region 8 with (go_at_call 29;refine (HPP.out _ _ rfl).mono ?_;intro e w7 hh;obtain ⟨⟨P7,c7,rfl,hps,hss,hca,hcb⟩,hf⟩:=PtsP.some2 hh;have HPS:=Lib.hid hps;have HSS:=Lib.hid hss;have HCC:=Lib.hid (And.intro hca hcb);have HF7:=Lib.hid hf;clear hf hh hps hss hca hcb)
    clear z0 z1 z2 z3 z4 m0
    obtain ⟨⟨y0,y1,y2,y3,y4⟩,_⟩:=box5 (HB1.out.keep (hF.out.trans HF7.out))
    cases bl
    ·have hrf:Hid (r=false):=Lib.hid (HRL.out HBL.out)
     go_wp2_with (go_at_call 31;refine (HTH.out _ _ _ (HFr.out.trans HF7.out) HPS.out HCC.out.1 HCC.out.2).mono ?_;rintro e w8 ⟨rfl,hf⟩;have HF8:=Lib.hid hf;clear hf)
     go_ret
     exact ⟨by rw [hrf.out];rfl,(HFr.out.trans HF7.out).trans HF8.out⟩
    ·obtain ⟨A5,c5,he5⟩:=hP.out.is_slice
     rw [hLl] at he5
     subst he5
     go_upto_region 10 with (go_at_call 31;refine (HTH.out _ _ _ (HFr.out.trans HF7.out) HPS.out HCC.out.1 HCC.out.2).mono ?_;rintro e w8 ⟨rfl,hf⟩;have HF8:=Lib.hid (HF7.out.trans hf);have HPS8:=Lib.hid (HPS.out.keep hf);have HSS8:=Lib.hid (Row.keep HSS.out hf);clear hf)
     clear y0 y1 y2 y3 y4
     obtain ⟨W8,hW8⟩:∃ W,W=w8:=⟨w8,rfl⟩
     subst hW8
     have hi':(i:Int)≤400:=by omega
     have HLL:=Lib.hid hLl
     have HP8:=Lib.hid (hP.out.keep HF8.out)
     go_wp2_with fail
     go_loopw [9] (fun j wr2=>∃ (k:Nat),k≤i∧j=.int .i64 k∧Hid (∀ a (h:a<L.length),a<k→Pc.begins L[a] m=false∧Pc.begins m L[a]=false)∧Hid (Fr W8 wr2)) (fun j _=>i - (intOf j).toNat)
     case atStart=>exact ⟨0,by omega,rfl,Lib.hid (fun a _ h=>absurd h (by omega)),Lib.hid (Fr.refl _)⟩
     case round=>
      obtain ⟨k2,hk2,rfl,hB2,hF9⟩:=hrel
      by_cases hlk:k2<i
      ·have hlk':(k2:Int)<(i:Int):=by omega
       have hkL:k2<L.length:=by have:=HLL.out;omega
       obtain ⟨g,P9,q9,rfl,hg,mk,hps9⟩:=(HP8.out.keep hF9.out).at_ hkL
       have hl9:L[k2].length≤1048577:=by
        have h1:=(hG.out k2 (by have:=HLT.out;omega) hkL).1
        have h2:=(Pt.parts_len h1).1
        have h3:=HNM.out _ (List.getElem_mem (show k2<p.ms.length by have:=HLT.out;omega))
        simp only [List.length_cons] at h2
        omega
       have hro:=HRO.out k2 hkL
       obtain ⟨lk,hlk2⟩:∃ lk,L[k2]=lk:=⟨_,rfl⟩
       rw [hlk2] at mk hps9 hl9 hro
       obtain ⟨b1,hb1⟩:∃ b1,Pc.begins lk m=b1:=⟨_,rfl⟩
       obtain ⟨b2,hb2⟩:∃ b2,Pc.begins m lk=b2:=⟨_,rfl⟩
       have HPS9:=Lib.hid hps9
       have hl9':(lk.length:Int)≤1048577:=by omega
       have HBG1:Hid (∀ W,Fr wr W→Calls Tryz.prog 32 #[.slice P9 lk.length q9,.slice P7 m.length c7] W fun e w'=>e=.returned (.bool b1)∧Fr W w'):=Lib.hid (fun W hW=>by
        rw [← hb1]
        exact rbegins_is lk m P9 P7 q9 c7 W (HPS9.out.keep hW) (HPS8.out.keep (hF9.out.trans hW)) (by omega) (by have:=HML.out;omega))
       have HBG2:Hid (∀ W,Fr wr W→Calls Tryz.prog 32 #[.slice P7 m.length c7,.slice P9 lk.length q9] W fun e w'=>e=.returned (.bool b2)∧Fr W w'):=Lib.hid (fun W hW=>by
        rw [← hb2]
        exact rbegins_is m lk P7 P9 c7 q9 W (HPS8.out.keep (hF9.out.trans hW)) (HPS9.out.keep hW) (by have:=HML.out;omega) (by omega))
       have HK2:=Lib.hid hlk2
       have HB1q:=Lib.hid hb1
       have HB2q:=Lib.hid hb2
       have HROq:=Lib.hid hro
       have HCK:Hid (∀ W,Fr wr W→W.cell? ⟨g,k2,none⟩=some (.slice P9 lk.length q9)):=Lib.hid (fun W hW=>(hW.cell hg).trans mk)
       clear hps9 hro hlk2 hb1 hb2 hg
       cases b1
       ·cases b2
        ·go_wp2_with (first
          | (go_at_call 32;have hq:=HF10.out;refine (HBG2.out _ hq).mono ?_;rintro e w11 ⟨rfl,hf⟩;have HF11:=Lib.hid (hq.trans hf);clear hf hq)
          | (go_at_call 32;refine (HBG1.out _ (Fr.refl _)).mono ?_;rintro e w10 ⟨rfl,hf⟩;have mk2:=HCK.out _ hf;have HF10:=Lib.hid hf;clear hf))
         exact ⟨⟨k2+1,by omega,by go_num,Lib.hid (fun a ha hak=>by
          by_cases e:a=k2
          ·subst e;rw [HK2.out];exact ⟨HB1q.out,HB2q.out⟩
          ·exact hB2.out a ha (by omega)),Lib.hid (hF9.out.trans HF11.out)⟩,by simp [intOf];omega⟩
        ·have hrf:Hid (r=false):=Lib.hid (HROq.out (.inr HB2q.out))
         go_wp2_with (first
          | (go_at_call 32;have hq:=HF10.out;refine (HBG2.out _ hq).mono ?_;rintro e w11 ⟨rfl,hf⟩;have HF11:=Lib.hid (hq.trans hf);clear hf hq)
          | (go_at_call 32;refine (HBG1.out _ (Fr.refl _)).mono ?_;rintro e w10 ⟨rfl,hf⟩;have mk2:=HCK.out _ hf;have HF10:=Lib.hid hf;clear hf))
         go_ret
         exact ⟨by rw [hrf.out];rfl,((HFr.out.trans HF8.out).trans hF9.out).trans HF11.out⟩
       ·have hrf:Hid (r=false):=Lib.hid (HROq.out (.inl HB1q.out))
        go_wp2_with (go_at_call 32;refine (HBG1.out _ (Fr.refl _)).mono ?_;rintro e w10 ⟨rfl,hf⟩;have HF10:=Lib.hid hf;clear hf)
        go_ret
        exact ⟨by rw [hrf.out];rfl,((HFr.out.trans HF8.out).trans hF9.out).trans HF10.out⟩
      ·obtain rfl:k2=i:=by omega
       have HROW:=Lib.hid (HP8.out.keep hF9.out)
       have HSS9:=Lib.hid (Row.keep HSS8.out hF9.out)
       have hxl:xs.length≤400:=by have:=hP.out.2.1;have:=HLL.out;omega
       go_wp2_with (at_builtin;refine wpl_app el_ssl rfl (.tmp 70) (.tmp 72) rfl W0 (((hF.out.trans HF8.out).trans hF9.out).alloc _) _ xs rfl (HROW.out.keep ((Fr.refl _).alloc _)).1 wr.heap.size _ [.slice P7 m.length c7] rfl (Row.made wr _ _ (by unfold maxLen;simp)) (fun u hu=>by rw [List.mem_singleton.1 hu];rfl) (by simp;omega) (by simp;omega) ?_;intro v4 w4 hv4 hf4 hg4;have HP4:Hid (PL w4 W0.heap.size v4 (xs++[.slice P7 m.length c7]) (L++[m])):=Lib.hid ((HROW.out.keep ((Fr.refl _).alloc _)).app (Row.keep HSS9.out ((Fr.refl _).alloc _)) hv4 hg4);have HF4:=Lib.hid hf4;clear hv4 hf4 hg4)
       exact ⟨⟨k2+1,_,_,L++[m],rfl,by have:=HLT.out;omega,by go_num,by simp [HLL.out],HP4,Lib.hid (HGN.out HBL.out),Lib.hid (fun a h1 b h2 hba=>by
        have hLe:=HLL.out
        have ha2:a<L.length+1:=by simpa using h1
        by_cases ha:a<L.length
        ·rw [List.getElem_append_left ha,List.getElem_append_left (by omega)]
         exact hO.out a ha b (by omega) hba
        ·have e:a=L.length:=by omega
         subst e
         rw [List.getElem_append_right (Nat.le_refl _),List.getElem_append_left (by omega)]
         simp only [Nat.sub_self,List.getElem_cons_zero]
         exact hB2.out b (by omega) (by omega)),HF4⟩,by simp [intOf];have:=HLT.out;omega⟩
  ·obtain rfl:i=p.ms.length:=by omega
   have hrt:Hid (r=true):=Lib.hid (by rw [← HR.out];exact Pc.fitsP_all H4.out.1 H4.out.2.1 H4.out.2.2 hLl hG.out hO.out)
   go_wp2_with fail
   go_ret
   exact ⟨by rw [hrt.out];rfl,HFr.out⟩
end Go.Proofs.YtlmcfhokfiibkaaGreatDoor
