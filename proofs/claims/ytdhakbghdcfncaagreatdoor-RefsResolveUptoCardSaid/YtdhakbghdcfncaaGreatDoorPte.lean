/- The walks of tree.place, tree.Get, point.step. -/
import Derived.Test.YtdhakbghdcfncaaGreatDoorPta
import Derived.Test.YtdhakbghdcfncaaGreatDoorNumsG
import Derived.Test.YtdhakbghdcfncaaGreatDoorReadF
import Derived.Test.YtdhakbghdcfncaaGreatDoorEe
namespace Go.Proofs.YtdhakbghdcfncaaGreatDoor
set_option maxRecDepth 100000
set_option maxHeartbeats 2000000
set_option linter.unusedVariables false
set_option linter.unusedSimpArgs false
open Go.RowKit

theorem Fr.put5 {a w:World} (h:Fr a w) {X:Nat} (hX:a.heap.size≤X) (u0 u1 u2 u3 u4:Value):
  Fr a (((((w.setCell ⟨X,0,none⟩ u0).setCell ⟨X,1,none⟩ u1).setCell ⟨X,2,none⟩ u2).setCell ⟨X,3,none⟩ u3).setCell ⟨X,4,none⟩ u4):=
 ((((h.setCell (p:=⟨X,0,none⟩) hX _).setCell (p:=⟨X,1,none⟩) hX _).setCell (p:=⟨X,2,none⟩) hX _).setCell (p:=⟨X,3,none⟩) hX _).setCell (p:=⟨X,4,none⟩) hX _
theorem results_cs {fn:Func} {p q:Tmp} {ty:TypeId} (hf:fn.results=#[.cell p ty,.tmp q]) (hT:ty=25) (w:World) (X:Nat) {tmps:Array Value} {x:Value} (h2:tmps.getD p undef=.pointer (some ⟨X,0,none⟩)) (h3:tmps.getD q undef=x)
  (v0 v1 v2 v3 v4:Value) (hV:Blk w X #[v0,v1,v2,v3,v4] 25):
  (results fn tmps).run Tryz.prog w=.ok (.tuple #[.agg #[v0,v1,v2,v3,v4],x]) w:=by
 subst hT
 have a0:=hV.cell 0
 have a1:=hV.cell 1
 have a2:=hV.cell 2
 have a3:=hV.cell 3
 have a4:=hV.cell 4
 simp at h2 h3 a0 a1 a2 a3 a4
 simp [results,hf,h2,h3,go_sem,a0,a1,a2,a3,a4]
namespace Pt
def placeM:List (List UInt8 × JV)→List UInt8→Option Nat
 | [],_=>none
 | p::m,s=>if p.1=s then some 0 else (placeM m s).map (· + 1)
theorem placeM_hit:∀ {m:List (List UInt8 × JV)} {s:List UInt8} {i:Nat} (hi:i<m.length),(∀ y (hy:y<m.length),y<i→m[y].1≠s)→m[i].1=s→placeM m s=some i
 | p::m,s,0,hi,_,h=>by unfold placeM;rw [if_pos (show p.1=s from h)]
 | p::m,s,i+1,hi,hn,h=>by
  unfold placeM
  rw [if_neg (show ¬ p.1=s from hn 0 (by simp) (by omega)),placeM_hit (i:=i) (by simpa using hi) (fun y hy hyi=>by have:=hn (y+1) (by simpa using hy) (by omega);simpa using this) (by simpa using h)]
  rfl
theorem placeM_none:∀ {m:List (List UInt8 × JV)} {s:List UInt8},(∀ y (hy:y<m.length),m[y].1≠s)→placeM m s=none
 | [],s,_=>rfl
 | p::m,s,h=>by
  unfold placeM
  rw [if_neg (show ¬ p.1=s from h 0 (by simp)),placeM_none (fun y hy=>by have:=h (y+1) (by simpa using hy);simpa using this)]
  rfl
theorem placeM_get:∀ {m:List (List UInt8 × JV)} {s:List UInt8},(placeM m s=none→getM m s=none) ∧ ∀ i,placeM m s=some i → ∃ h:i<m.length,getM m s=some m[i].2
 | [],s=>⟨fun _=>rfl,fun i h=>by cases h⟩
 | p::m,s=>by
  have ih:=@placeM_get m s
  unfold placeM getM
  by_cases hps:p.1=s
  ·rw [if_pos hps,if_pos hps]
   refine ⟨fun h=>(by cases h),fun i h=>?_⟩
   obtain rfl:=Option.some.inj h
   exact ⟨by simp,rfl⟩
  ·rw [if_neg hps,if_neg hps]
   refine ⟨fun h=>ih.1 (by simpa using h),fun i h=>?_⟩
   cases hp:placeM m s with
   | none=>rw [hp] at h;cases h
   | some k=>
    rw [hp] at h
    obtain rfl:=Option.some.inj h
    obtain ⟨hk,hg⟩:=ih.2 k hp
    exact ⟨by simpa using hk,by simpa using hg⟩
def placeI (v:JV) (s:List UInt8):Int:=if v.kd=6 then (match placeM v.ms s with | some i=>(i:Nat) | none=>-1) else -1
end Pt
theorem ikind {k:Int} {c:Int} (h:k≠c):(k == c)=false∧(k != c)=true:=⟨by rw [beq_eq_false_iff_ne];exact h,by rw [bne_iff_ne];exact h⟩

theorem place_is (v:JV) (B:Option Addr) (d:Nat) (B':Option Addr) (d':Nat) (s:List UInt8) (w:World) (h:InV w (Lo w.heap.size) v (vA v B d B' d')):
  Calls Tryz.prog 42 #[.agg #[.int .i64 v.kd,.int .i64 v.nm,.string ⟨v.tx.toArray⟩,.slice B v.ls.length d,.slice B' v.ms.length d'],.string ⟨s.toArray⟩] w fun e w'=>e=.returned (.int .i64 (Pt.placeI v s))∧Fr w w':=by
 obtain ⟨A,c,A',c',he,_,hms⟩:=h.open_
 have hA:B'=A':=by obtain ⟨_,_,_,_,e4⟩:=five he;injection e4
 subst hA
 have hM:=h.facts.2.2.2.2
 obtain ⟨k,n,t,l,m⟩:=v
 simp only [JV.kd,JV.nm,JV.tx,JV.ls,JV.ms] at hms hM ⊢
 have HMS:Hid (MsC w (Lo w.heap.size) B' m):=hms
 have hM':(m.length:Int)≤140737488355328:=by omega
 clear h he hms
 by_cases h6:k=6
 ·subst h6
  rw [show Pt.placeI (.mk 6 n t l m) s=(match Pt.placeM m s with | some i=>((i:Nat):Int) | none=>-1) from by unfold Pt.placeI;exact if_pos rfl]
  obtain ⟨r,hr⟩:∃ r:Int,(match Pt.placeM m s with | some i=>((i:Nat):Int) | none=>-1)=r:=⟨_,rfl⟩
  rw [hr]
  have HR:=Lib.hid hr
  clear hr
  go_enter Tryz.func42,Tryz.ntmps42
  go_wp2_with fail
  go_loopw [13] (fun j wr=>∃ i:Nat,i≤m.length∧j=.int .i64 i∧Hid (∀ y (hy:y<m.length),y<i→m[y].1≠s)∧Hid (Fr w wr)) (fun j _=>m.length - (intOf j).toNat)
  case atStart=>exact ⟨0,by omega,rfl,Lib.hid (fun y _ h=>absurd h (by omega)),Lib.hid ((Fr.refl w).alloc _)⟩
  case round=>
   obtain ⟨i,hi,rfl,hD,hfr⟩:=hrel
   by_cases hlt:i<m.length
   ·have hlt':(i:Int)<(m.length:Int):=by omega
    obtain ⟨b,o,C,e,C',e',rfl,hb,hnl,c0,⟨c1,c2,c3,c4,c5⟩,_⟩:=(HMS.out.keep (Nat.le_refl _) hfr.out) i hlt
    obtain ⟨nt,hnt⟩:∃ nt,m[i].1=nt:=⟨_,rfl⟩
    rw [hnt] at c0 hnl
    have HNT:=Lib.hid hnt
    clear hnt
    by_cases hc:nt=s
    ·have hres:Hid ((i:Int)=r):=by
      show _=_
      rw [← HR.out,Pt.placeM_hit hlt hD.out (HNT.out.trans hc)]
     subst hc
     have hcmp:((⟨nt.toArray⟩:ByteArray).toList == (⟨nt.toArray⟩:ByteArray).toList)=true:=beq_self_eq_true _
     go_wp2_with fail
     go_ret
     exact ⟨by rw [hres.out];rfl,hfr.out.alloc _⟩
    ·have hcmp:((⟨nt.toArray⟩:ByteArray).toList == (⟨s.toArray⟩:ByteArray).toList)=false:=by rw [bl_beq'];exact decide_eq_false hc
     have hcmp2:(nt == s)=false:=by rw [beq_eq_false_iff_ne];exact hc
     have HCN:=Lib.hid hc
     clear hc
     go_wp2_with fail
     exact ⟨⟨i+1,by omega,by go_num,Lib.hid (fun y hy hyt=>by
      by_cases e:y=i
      ·subst e;rw [HNT.out];exact HCN.out
      ·exact hD.out y hy (by omega)),Lib.hid (hfr.out.alloc _)⟩,by simp [intOf];omega⟩
   ·have hres:Hid ((-1:Int)=r):=by
     show _=_
     rw [← HR.out,Pt.placeM_none (fun y hy=>hD.out y hy (by omega))]
    go_wp2_with fail
    go_ret
    exact ⟨by rw [← hres.out];rfl,hfr.out⟩
 ·rw [show Pt.placeI (.mk k n t l m) s = -1 from by unfold Pt.placeI;exact if_neg h6]
  obtain ⟨b1,b2⟩:=ikind h6
  go_enter Tryz.func42,Tryz.ntmps42
  go_wp2_with fail
  go_ret
  exact ⟨rfl,(Fr.refl w).alloc _⟩

def OpP (B:Nat) (w:World):Option JV→Ending→World→Prop
 | none,e,w'=>e=.returned (.tuple #[.agg #[.int .i64 0,.int .i64 0,.string ⟨#[]⟩,.slice none 0 0,.slice none 0 0],.bool false])∧Fr w w'
 | some y,e,w'=>∃ (C:Option Addr) (f:Nat) (C':Option Addr) (f':Nat),e=.returned (.tuple #[.agg #[.int .i64 y.kd,.int .i64 y.nm,.string ⟨y.tx.toArray⟩,.slice C y.ls.length f,.slice C' y.ms.length f'],.bool true])∧InV w' (Lo B) y (vA y C f C' f')∧Fr w w'

theorem get_is (v:JV) (B:Option Addr) (d:Nat) (B':Option Addr) (d':Nat) (s:List UInt8) (w:World) (Z:Nat) (hZ:Z≤w.heap.size) (h:InV w (Lo Z) v (vA v B d B' d')):
  Calls Tryz.prog 30 #[.agg #[.int .i64 v.kd,.int .i64 v.nm,.string ⟨v.tx.toArray⟩,.slice B v.ls.length d,.slice B' v.ms.length d'],.string ⟨s.toArray⟩] w (OpP Z w (Pt.get v s)):=by
 have H:=Lib.hid h
 obtain ⟨A,c,A',c',he,_,hms⟩:=h.open_
 have hA:B'=A':=by obtain ⟨_,_,_,_,e4⟩:=five he;injection e4
 subst hA
 have hM:=h.facts.2.2.2.2
 have HMS:=Lib.hid hms
 have hM':(v.ms.length:Int)≤140737488355328:=by omega
 have HC:Hid (∀ W,Fr w W→Calls Tryz.prog 42 #[.agg #[.int .i64 v.kd,.int .i64 v.nm,.string ⟨v.tx.toArray⟩,.slice B v.ls.length d,.slice B' v.ms.length d'],.string ⟨s.toArray⟩] W fun e w'=>e=.returned (.int .i64 (Pt.placeI v s))∧Fr W w'):=Lib.hid (fun W hW=>place_is v B d B' d' s W ((H.out.keep hZ hW).lo (Nat.le_trans hZ hW.size)))
 clear h he hms
 obtain ⟨r,hr⟩:∃ r,Pt.placeI v s=r:=⟨_,rfl⟩
 rw [hr] at HC
 have hget:(r = -1∧Pt.get v s=none) ∨ ∃ i:Nat,r=(i:Nat) ∧ ∃ hi:i<v.ms.length,Pt.get v s=some v.ms[i].2:=by
  rw [← hr]
  unfold Pt.placeI Pt.get
  split
  ·have hp:=@Pt.placeM_get v.ms s
   cases hq:Pt.placeM v.ms s with
   | none=>exact .inl ⟨rfl,hp.1 hq⟩
   | some i=>exact .inr ⟨i,rfl,hp.2 i hq⟩
  ·exact .inl ⟨rfl,rfl⟩
 clear hr
 rcases hget with ⟨rfl,hg⟩ | ⟨i,rfl,hi,hg⟩
 ·rw [hg]
  clear hg
  go_enter Tryz.func30,Tryz.ntmps30
  go_wp2_with (go_at_call 42;refine (HC.out _ (((Fr.refl w).alloc _).alloc _)).mono ?_;rintro e w1 ⟨rfl,hf⟩;have hb:=(boxz (Blk.made (w.alloc (.cells #[.int .i64 v.kd,.int .i64 v.nm,.string ⟨v.tx.toArray⟩,.slice B v.ls.length d,.slice B' v.ms.length d'] 25)) #[.int .i64 0,.int .i64 0,.string ⟨#[]⟩,.slice none 0 0,.slice none 0 0] 25)).keep hf;obtain ⟨⟨x0,x1,x2,x3,x4⟩,g0,g1,g2,g3,g4⟩:=box5 hb;have HB1:=Lib.hid hb;have HF1:=Lib.hid ((((Fr.refl w).alloc (.cells #[.int .i64 v.kd,.int .i64 v.nm,.string ⟨v.tx.toArray⟩,.slice B v.ls.length d,.slice B' v.ms.length d'] 25)).alloc (.cells #[.int .i64 0,.int .i64 0,.string ⟨#[]⟩,.slice none 0 0,.slice none 0 0] 25)).trans hf);clear hf hb)
  refine bodyPost_ret (results_cs (by rfl) rfl _ (w.heap.size+1) (by rfl) (by rfl) _ _ _ _ _ (set5 HB1.out)) rfl ?_
  have hX:∀ j,w.heap.size≤(Addr.mk (w.heap.size+1) j none).block:=fun j=>Nat.le_succ _
  exact ⟨rfl,((((HF1.out.setCell (hX 0) _).setCell (hX 1) _).setCell (hX 2) _).setCell (hX 3) _).setCell (hX 4) _⟩
 ·rw [hg]
  have hi':(i:Int)<(v.ms.length:Int):=by omega
  clear hg
  obtain ⟨b,o,C,e,C',e',rfl,hb,hnl,c0,⟨c1,c2,c3,c4,c5⟩,hv⟩:=HMS.out i hi
  obtain ⟨u,hu⟩:∃ u,v.ms[i].2=u:=⟨_,rfl⟩
  rw [hu] at c1 c2 c3 c4 c5 hv ⊢
  have HV:=Lib.hid hv
  have HBB:Hid (b<w.heap.size):=Nat.lt_of_lt_of_le hb hZ
  have HC5:Hid (w.cell? ⟨b,o+i*6+1,none⟩=some (.int .i64 u.kd)∧w.cell? ⟨b,o+i*6+1+1,none⟩=some (.int .i64 u.nm)∧w.cell? ⟨b,o+i*6+1+2,none⟩=some (.string ⟨u.tx.toArray⟩)∧w.cell? ⟨b,o+i*6+1+3,none⟩=some (.slice C u.ls.length e)∧w.cell? ⟨b,o+i*6+1+4,none⟩=some (.slice C' u.ms.length e')):=⟨c1,c2,c3,c4,c5⟩
  clear hv hu c0 c1 c2 c3 c4 c5
  go_enter Tryz.func30,Tryz.ntmps30
  go_wp2_with (go_at_call 42;refine (HC.out _ (((Fr.refl w).alloc _).alloc _)).mono ?_;rintro e w1 ⟨rfl,hf⟩;have hb:=(boxz (Blk.made (w.alloc (.cells #[.int .i64 v.kd,.int .i64 v.nm,.string ⟨v.tx.toArray⟩,.slice B v.ls.length d,.slice (some ⟨b,o,none⟩) v.ms.length d'] 25)) #[.int .i64 0,.int .i64 0,.string ⟨#[]⟩,.slice none 0 0,.slice none 0 0] 25)).keep hf;obtain ⟨⟨x0,x1,x2,x3,x4⟩,g0,g1,g2,g3,g4⟩:=box5 hb;have hb2:=((Blk.made w #[.int .i64 v.kd,.int .i64 v.nm,.string ⟨v.tx.toArray⟩,.slice B v.ls.length d,.slice (some ⟨b,o,none⟩) v.ms.length d'] 25).keep ((Fr.refl _).alloc _)).keep hf;obtain ⟨⟨y0,y1,y2,y3,y4⟩,_⟩:=box5 hb2;have HB1:=Lib.hid hb;have hf1:=(((Fr.refl w).alloc (.cells #[.int .i64 v.kd,.int .i64 v.nm,.string ⟨v.tx.toArray⟩,.slice B v.ls.length d,.slice (some ⟨b,o,none⟩) v.ms.length d'] 25)).alloc (.cells #[.int .i64 0,.int .i64 0,.string ⟨#[]⟩,.slice none 0 0,.slice none 0 0] 25)).trans hf;obtain ⟨c1,c2,c3,c4,c5⟩:=HC5.out;have e1:=(hf1.cell HBB.out).trans c1;have e2:=(hf1.cell HBB.out).trans c2;have e3:=(hf1.cell HBB.out).trans c3;have e4:=(hf1.cell HBB.out).trans c4;have e5:=(hf1.cell HBB.out).trans c5;have HF1:=Lib.hid hf1;clear hf hb hb2 hf1 c1 c2 c3 c4 c5)
  refine bodyPost_ret (results_cs (by rfl) rfl _ (w.heap.size+1) (by rfl) (by rfl) _ _ _ _ _ (set5 HB1.out)) rfl ?_
  have hX:∀ j,w.heap.size≤(Addr.mk (w.heap.size+1) j none).block:=fun j=>Nat.le_succ _
  have hfin:=((((HF1.out.setCell (hX 0) (.int .i64 u.kd)).setCell (hX 1) (.int .i64 u.nm)).setCell (hX 2) (.string ⟨u.tx.toArray⟩)).setCell (hX 3) (.slice C u.ls.length e)).setCell (hX 4) (.slice C' u.ms.length e')
  exact ⟨C,e,C',e',rfl,HV.out.keep hZ hfin,hfin⟩
/- The walk of point.step; lists of values that a call collects out of what came in and of new memory. -/

theorem OpP.form {B:Nat} {w w':World} {r:Option JV} {x:Ending} (h:OpP B w r x w'):∃ (k n:Int) (s:ByteArray) (A:Option Addr) (a1 b:Nat) (A':Option Addr) (a' b':Nat) (t:Bool),x=.returned (.tuple #[.agg #[.int .i64 k,.int .i64 n,.string s,.slice A a1 b,.slice A' a' b'],.bool t]):=by
 cases r with
 | none=>obtain ⟨hx,_⟩:=h;exact ⟨_,_,_,_,_,_,_,_,_,_,hx⟩
 | some y=>obtain ⟨C,f,C',f',hx,_⟩:=h;exact ⟨_,_,_,_,_,_,_,_,_,_,hx⟩
theorem OpP.fr {B:Nat} {w w':World} {r:Option JV} {x:Ending} (h:OpP B w r x w'):Fr w w':=by
 cases r with
 | none=>exact h.2
 | some y=>obtain ⟨_,_,_,_,_,_,hf⟩:=h;exact hf
theorem OpP.lift {B:Nat} {w W0 w':World} {r:Option JV} {x:Ending} (h:OpP B W0 r x w') (hF:Fr w W0) (hB:B≤w.heap.size) {X:Nat} (hX:w.heap.size≤X) (u0 u1 u2 u3 u4:Value):
  OpP B w r x (((((w'.setCell ⟨X,0,none⟩ u0).setCell ⟨X,1,none⟩ u1).setCell ⟨X,2,none⟩ u2).setCell ⟨X,3,none⟩ u3).setCell ⟨X,4,none⟩ u4):=by
 have hfr:=h.fr
 have hfin:=((((((hF.trans hfr).setCell (p:=⟨X,0,none⟩) hX u0).setCell (p:=⟨X,1,none⟩) hX u1).setCell (p:=⟨X,2,none⟩) hX u2).setCell (p:=⟨X,3,none⟩) hX u3).setCell (p:=⟨X,4,none⟩) hX u4)
 cases r with
 | none=>exact ⟨h.1,hfin⟩
 | some y=>
  obtain ⟨C,f,C',f',hx,hin,_⟩:=h
  refine ⟨C,f,C',f',hx,hin.map (fun _ h=>h) (fun b o hb=>?_),hfin⟩
  have hb:b<B:=hb
  rw [hfin.cell (by omega),(hF.trans hfr).cell (by omega)]

theorem step_is (v:JV) (B:Option Addr) (d:Nat) (B':Option Addr) (d':Nat) (s:List UInt8) (w:World) (Z:Nat) (hZ:Z≤w.heap.size) (h:InV w (Lo Z) v (vA v B d B' d')) (hs:s.length≤9223372036854775807):
  Calls Tryz.prog 86 #[.agg #[.int .i64 v.kd,.int .i64 v.nm,.string ⟨v.tx.toArray⟩,.slice B v.ls.length d,.slice B' v.ms.length d'],.string ⟨s.toArray⟩] w (OpP Z w (Pt.step v s)):=by
 have H:=Lib.hid h
 by_cases h5:v.kd=5
 ·rw [show Pt.step v s=(match Pt.num s v.ls.length with | some i=>v.ls[i]? | none=>none) from by unfold Pt.step;exact if_pos h5]
  obtain ⟨A,c,A',c',he,hls,_⟩:=h.open_
  have hA:B=A:=by obtain ⟨_,_,_,e3,_⟩:=five he;injection e3
  subst hA
  have hL:=h.facts.2.2.2.1
  have hL':(v.ls.length:Int)≤140737488355328:=by omega
  have HLS:=Lib.hid hls
  have hsz:(⟨s.toArray⟩:ByteArray).size≤maxLen:=by
   show s.toArray.size≤_;rw [List.size_toArray];unfold maxLen;exact hs
  have q5:(v.kd != 5)=false:=by rw [bne_eq_false_iff_eq];exact h5
  clear he hls h h5
  have hX:∀ j,w.heap.size≤(Addr.mk (w.heap.size+1) j none).block:=fun j=>Nat.le_succ _
  rcases hn:Nm.allNum s with _ | n
  ·have hr:Pt.num s v.ls.length=none:=by unfold Pt.num;rw [hn]
   rw [hr]
   have HN:Hid (Nm.allNum (⟨s.toArray⟩:ByteArray).data.toList=none):=hn
   clear hn hr
   go_enter Tryz.func86,Tryz.ntmps86
   go_wp2_with (go_at_call 101;refine (all_none ⟨s.toArray⟩ _ hsz HN.out).mono ?_;rintro e w1 ⟨rfl,hf⟩;have hb:=(boxz (Blk.made (w.alloc (.cells #[.int .i64 v.kd,.int .i64 v.nm,.string ⟨v.tx.toArray⟩,.slice B v.ls.length d,.slice B' v.ms.length d'] 25)) #[.int .i64 0,.int .i64 0,.string ⟨#[]⟩,.slice none 0 0,.slice none 0 0] 25)).keep hf;obtain ⟨⟨x0,x1,x2,x3,x4⟩,g0,g1,g2,g3,g4⟩:=box5 hb;have HB1:=Lib.hid hb;have HF1:=Lib.hid ((((Fr.refl w).alloc (.cells #[.int .i64 v.kd,.int .i64 v.nm,.string ⟨v.tx.toArray⟩,.slice B v.ls.length d,.slice B' v.ms.length d'] 25)).alloc (.cells #[.int .i64 0,.int .i64 0,.string ⟨#[]⟩,.slice none 0 0,.slice none 0 0] 25)).trans hf);clear hf hb)
   refine bodyPost_ret (results_cs (by rfl) rfl _ (w.heap.size+1) (by rfl) (by rfl) _ _ _ _ _ (set5 HB1.out)) rfl ?_
   exact ⟨rfl,((((HF1.out.setCell (hX 0) _).setCell (hX 1) _).setCell (hX 2) _).setCell (hX 3) _).setCell (hX 4) _⟩
  ·have HN:Hid (Nm.allNum (⟨s.toArray⟩:ByteArray).data.toList=some n):=hn
   by_cases hin:0≤n∧n<(v.ls.length:Nat)
   ·obtain ⟨i,rfl⟩:∃ i:Nat,n=(i:Nat):=⟨n.toNat,by omega⟩
    have hi:i<v.ls.length:=by omega
    have hr:Pt.num s v.ls.length=some i:=by unfold Pt.num;rw [hn];simp only;rw [if_pos hin];simp
    rw [hr]
    simp only
    rw [List.getElem?_eq_getElem hi]
    have hi':(i:Int)<(v.ls.length:Int):=by omega
    have k1:decide ((i:Int)<0)=false:=decide_eq_false (by omega)
    have k2:decide ((v.ls.length:Int)≤(i:Int))=false:=decide_eq_false (by omega)
    have k3:decide (v.ls.length≤i)=false:=decide_eq_false (by omega)
    obtain ⟨b,o,C,e,C',e',rfl,hb,⟨c1,c2,c3,c4,c5⟩,hv⟩:=HLS.out i hi
    obtain ⟨u,hu⟩:∃ u,v.ls[i]=u:=⟨_,rfl⟩
    rw [hu] at c1 c2 c3 c4 c5 hv ⊢
    have HV:=Lib.hid hv
    have HBB:Hid (b<w.heap.size):=Nat.lt_of_lt_of_le hb hZ
    have HC5:Hid (w.cell? ⟨b,o+i*5,none⟩=some (.int .i64 u.kd)∧w.cell? ⟨b,o+i*5+1,none⟩=some (.int .i64 u.nm)∧w.cell? ⟨b,o+i*5+2,none⟩=some (.string ⟨u.tx.toArray⟩)∧w.cell? ⟨b,o+i*5+3,none⟩=some (.slice C u.ls.length e)∧w.cell? ⟨b,o+i*5+4,none⟩=some (.slice C' u.ms.length e')):=⟨c1,c2,c3,c4,c5⟩
    clear hn hr hin hv hu c1 c2 c3 c4 c5
    go_enter Tryz.func86,Tryz.ntmps86
    go_wp2_with (go_at_call 101;refine (all_some ⟨s.toArray⟩ _ _ hsz HN.out).mono ?_;rintro e w1 ⟨rfl,hf⟩;have hb:=(boxz (Blk.made (w.alloc (.cells #[.int .i64 v.kd,.int .i64 v.nm,.string ⟨v.tx.toArray⟩,.slice (some ⟨b,o,none⟩) v.ls.length d,.slice B' v.ms.length d'] 25)) #[.int .i64 0,.int .i64 0,.string ⟨#[]⟩,.slice none 0 0,.slice none 0 0] 25)).keep hf;obtain ⟨⟨x0,x1,x2,x3,x4⟩,g0,g1,g2,g3,g4⟩:=box5 hb;have hb2:=((Blk.made w #[.int .i64 v.kd,.int .i64 v.nm,.string ⟨v.tx.toArray⟩,.slice (some ⟨b,o,none⟩) v.ls.length d,.slice B' v.ms.length d'] 25).keep ((Fr.refl _).alloc _)).keep hf;obtain ⟨⟨y0,y1,y2,y3,y4⟩,_⟩:=box5 hb2;have HB1:=Lib.hid hb;have hf1:=(((Fr.refl w).alloc (.cells #[.int .i64 v.kd,.int .i64 v.nm,.string ⟨v.tx.toArray⟩,.slice (some ⟨b,o,none⟩) v.ls.length d,.slice B' v.ms.length d'] 25)).alloc (.cells #[.int .i64 0,.int .i64 0,.string ⟨#[]⟩,.slice none 0 0,.slice none 0 0] 25)).trans hf;obtain ⟨c1,c2,c3,c4,c5⟩:=HC5.out;have e1:=(hf1.cell HBB.out).trans c1;have e2:=(hf1.cell HBB.out).trans c2;have e3:=(hf1.cell HBB.out).trans c3;have e4:=(hf1.cell HBB.out).trans c4;have e5:=(hf1.cell HBB.out).trans c5;have HF1:=Lib.hid hf1;clear hf hb hb2 hf1 c1 c2 c3 c4 c5)
    refine bodyPost_ret (results_cs (by rfl) rfl _ (w.heap.size+1) (by rfl) (by rfl) _ _ _ _ _ (set5 HB1.out)) rfl ?_
    have hfin:=HF1.out.put5 (X:=w.heap.size+1) (Nat.le_succ _) (.int .i64 u.kd) (.int .i64 u.nm) (.string ⟨u.tx.toArray⟩) (.slice C u.ls.length e) (.slice C' u.ms.length e')
    exact ⟨C,e,C',e',rfl,HV.out.keep hZ hfin,hfin⟩
   ·have hr:Pt.num s v.ls.length=none:=by unfold Pt.num;rw [hn];simp only;rw [if_neg hin]
    rw [hr]
    have k1:∃ t1 t2:Bool,decide (n<0)=t1∧decide ((v.ls.length:Int)≤n)=t2∧(t1 || t2)=true:=by
     refine ⟨_,_,rfl,rfl,?_⟩
     rw [Bool.or_eq_true,decide_eq_true_iff,decide_eq_true_iff];omega
    obtain ⟨t1,t2,k1,k2,k3⟩:=k1
    clear hn hr hin
    rcases t1 with _ | _
    ·obtain rfl:t2=true:=by simpa using k3
     go_enter Tryz.func86,Tryz.ntmps86
     go_wp2_with (go_at_call 101;refine (all_some ⟨s.toArray⟩ _ _ hsz HN.out).mono ?_;rintro e w1 ⟨rfl,hf⟩;have hb2:=((Blk.made w #[.int .i64 v.kd,.int .i64 v.nm,.string ⟨v.tx.toArray⟩,.slice B v.ls.length d,.slice B' v.ms.length d'] 25).keep ((Fr.refl _).alloc _)).keep hf;obtain ⟨⟨y0,y1,y2,y3,y4⟩,_⟩:=box5 hb2;have hb:=(boxz (Blk.made (w.alloc (.cells #[.int .i64 v.kd,.int .i64 v.nm,.string ⟨v.tx.toArray⟩,.slice B v.ls.length d,.slice B' v.ms.length d'] 25)) #[.int .i64 0,.int .i64 0,.string ⟨#[]⟩,.slice none 0 0,.slice none 0 0] 25)).keep hf;obtain ⟨⟨x0,x1,x2,x3,x4⟩,g0,g1,g2,g3,g4⟩:=box5 hb;have HB1:=Lib.hid hb;have HF1:=Lib.hid ((((Fr.refl w).alloc (.cells #[.int .i64 v.kd,.int .i64 v.nm,.string ⟨v.tx.toArray⟩,.slice B v.ls.length d,.slice B' v.ms.length d'] 25)).alloc (.cells #[.int .i64 0,.int .i64 0,.string ⟨#[]⟩,.slice none 0 0,.slice none 0 0] 25)).trans hf);clear hf hb hb2)
     refine bodyPost_ret (results_cs (by rfl) rfl _ (w.heap.size+1) (by rfl) (by rfl) _ _ _ _ _ (set5 HB1.out)) rfl ?_
     exact ⟨rfl,((((HF1.out.setCell (hX 0) _).setCell (hX 1) _).setCell (hX 2) _).setCell (hX 3) _).setCell (hX 4) _⟩
    ·go_enter Tryz.func86,Tryz.ntmps86
     go_wp2_with (go_at_call 101;refine (all_some ⟨s.toArray⟩ _ _ hsz HN.out).mono ?_;rintro e w1 ⟨rfl,hf⟩;have hb:=(boxz (Blk.made (w.alloc (.cells #[.int .i64 v.kd,.int .i64 v.nm,.string ⟨v.tx.toArray⟩,.slice B v.ls.length d,.slice B' v.ms.length d'] 25)) #[.int .i64 0,.int .i64 0,.string ⟨#[]⟩,.slice none 0 0,.slice none 0 0] 25)).keep hf;obtain ⟨⟨x0,x1,x2,x3,x4⟩,g0,g1,g2,g3,g4⟩:=box5 hb;have HB1:=Lib.hid hb;have HF1:=Lib.hid ((((Fr.refl w).alloc (.cells #[.int .i64 v.kd,.int .i64 v.nm,.string ⟨v.tx.toArray⟩,.slice B v.ls.length d,.slice B' v.ms.length d'] 25)).alloc (.cells #[.int .i64 0,.int .i64 0,.string ⟨#[]⟩,.slice none 0 0,.slice none 0 0] 25)).trans hf);clear hf hb)
     refine bodyPost_ret (results_cs (by rfl) rfl _ (w.heap.size+1) (by rfl) (by rfl) _ _ _ _ _ (set5 HB1.out)) rfl ?_
     exact ⟨rfl,((((HF1.out.setCell (hX 0) _).setCell (hX 1) _).setCell (hX 2) _).setCell (hX 3) _).setCell (hX 4) _⟩
 ·rw [show Pt.step v s=Pt.get v s from by unfold Pt.step;exact if_neg h5]
  obtain ⟨q5,q6⟩:=ikind h5
  have HC:Hid (∀ W,Fr w W→Calls Tryz.prog 30 #[.agg #[.int .i64 v.kd,.int .i64 v.nm,.string ⟨v.tx.toArray⟩,.slice B v.ls.length d,.slice B' v.ms.length d'],.string ⟨s.toArray⟩] W (OpP Z W (Pt.get v s))):=Lib.hid (fun W hW=>get_is v B d B' d' s W Z (Nat.le_trans hZ hW.size) (H.out.keep hZ hW))
  obtain ⟨r,hr⟩:∃ r,Pt.get v s=r:=⟨_,rfl⟩
  rw [hr] at HC ⊢
  clear hr h h5
  go_enter Tryz.func86,Tryz.ntmps86
  go_wp2_with (go_at_call 30;refine (HC.out _ (((Fr.refl w).alloc _).alloc _)).mono ?_;intro x w1 h1;obtain ⟨k3,n3,s3,A3,a3,b3,A3',a3',b3',t3,rfl⟩:=h1.form;have hb:=(boxz (Blk.made (w.alloc (.cells #[.int .i64 v.kd,.int .i64 v.nm,.string ⟨v.tx.toArray⟩,.slice B v.ls.length d,.slice B' v.ms.length d'] 25)) #[.int .i64 0,.int .i64 0,.string ⟨#[]⟩,.slice none 0 0,.slice none 0 0] 25)).keep h1.fr;obtain ⟨⟨x0,x1,x2,x3,x4⟩,g0,g1,g2,g3,g4⟩:=box5 hb;have HB1:=Lib.hid hb;have H1:=Lib.hid h1;clear h1 hb)
  refine bodyPost_ret (results_cs (by rfl) rfl _ (w.heap.size+1) (by rfl) (by rfl) _ _ _ _ _ (set5 HB1.out)) rfl ?_
  exact H1.out.lift (((Fr.refl w).alloc _).alloc _) hZ (Nat.le_succ _) _ _ _ _ _
/- Lists of values that a call collects: out of what came in, and of new memory. -/

def InB (Z K:Nat) (w:World) (v:Value):Nat→Prop:=fun b=>b<Z∨(K≤b∧b<w.heap.size∧v.ownBlock≠some b)
def VsB (w:World) (Z K:Nat) (v:Value) (l:List JV):Prop:=(Z≤K∧K≤w.heap.size) ∧ ∃ xs:List Value,Vbs w K v xs∧xs.length=l.length ∧ ∀ i (h1:i<xs.length) (h2:i<l.length),InV w (InB Z K w v) l[i] xs[i]
theorem InB.ok {Z K:Nat} {w:World} {v:Value} (hK:Z≤K∧K≤w.heap.size) {xs:List Value} (h:Vbs w K v xs) {b:Nat} (hb:InB Z K w v b):b<w.heap.size∧v.ownBlock≠some b:=by
 rcases hb with hb | hb
 ·exact ⟨by omega,fun e=>by have:=(h.own_lt e).1;omega⟩
 ·exact hb.2
theorem VsB.none_ (w:World) {Z K:Nat} (h:Z≤K∧K≤w.heap.size):VsB w Z K (.slice none 0 0) []:=⟨h,[],Vbs.none_ w K,rfl,fun i h=>absurd h (by simp)⟩
theorem InB.grow {Z K:Nat} {w w':World} {v:Value} (h:w.heap.size≤w'.heap.size):∀ b,InB Z K w v b→InB Z K w' v b:=fun b hb=>hb.imp id (fun hb=>⟨hb.1,Nat.lt_of_lt_of_le hb.2.1 h,hb.2.2⟩)
theorem VsB.keep {w w':World} {Z K:Nat} {v:Value} {l:List JV} (h:VsB w Z K v l) (hf:Fr w w'):VsB w' Z K v l:=by
 obtain ⟨h0,xs,h1,h2,h3⟩:=h
 exact ⟨⟨h0.1,Nat.le_trans h0.2 hf.size⟩,xs,h1.keep hf,h2,fun i a b=>(h3 i a b).map (InB.grow hf.size) (fun b o hs=>hf.cell (InB.ok h0 h1 hs).1)⟩
theorem VsB.frx {w w':World} {X Z K:Nat} {v:Value} {l:List JV} (h:VsB w Z K v l) (hZ:Z≤X) (hX:X<K) (hf:FrX X w w'):VsB w' Z K v l:=by
 obtain ⟨h0,xs,h1,h2,h3⟩:=h
 refine ⟨⟨h0.1,Nat.le_trans h0.2 hf.size⟩,xs,h1.frx hX hf,h2,fun i a b=>(h3 i a b).map (InB.grow hf.size) (fun b o hs=>hf.cell (InB.ok h0 h1 hs).1 (fun e=>?_))⟩
 subst e
 rcases hs with hs | hs <;> omega
theorem VsB.is_slice {w:World} {Z K:Nat} {v:Value} {l:List JV} (h:VsB w Z K v l):∃ a c,v=.slice a l.length c:=by
 obtain ⟨_,xs,h1,h2,_⟩:=h
 rcases h1.form with ⟨rfl,rfl⟩ | ⟨g,cap,rfl,_⟩
 ·exact ⟨none,0,by rw [← h2];rfl⟩
 ·exact ⟨_,_,by rw [h2]⟩
theorem VsB.is_slice2 {w:World} {Z K:Nat} {v:Value} {l us:List JV} (h:VsB w Z K v (l++us)) {n:Nat} (hn:us.length=n):∃ a c,v=.slice a (l.length+n) c:=by
 obtain ⟨a,c,e⟩:=h.is_slice;exact ⟨a,c,by rw [e,List.length_append,hn]⟩
theorem VsB.own_lt {w:World} {Z K:Nat} {v:Value} {l:List JV} (h:VsB w Z K v l) {k:Nat} (hk:v.ownBlock=some k):K≤k∧k<w.heap.size:=by
 obtain ⟨_,xs,h1,_⟩:=h;exact h1.own_lt hk
theorem VsB.inV {w:World} {Z K:Nat} {v:Value} {l:List JV} (h:VsB w Z K v l) (h63:l.length≤140737488355328):InV w (fun b=>b<Z∨(K≤b∧b<w.heap.size)) (JV.listV l) (.agg #[.int .i64 5,.int .i64 0,.string ⟨#[]⟩,v,.slice none 0 0]):=by
 obtain ⟨h0,xs,h1,h2,h3⟩:=h
 exact h1.inV h2 h63 (fun g hg hl=>.inr ⟨hg,hl⟩) (fun i a b=>(h3 i a b).more (fun b hb=>hb.imp id (fun hb=>⟨hb.1,hb.2.1⟩)))
theorem InB.behind {Z K:Nat} {w w':World} {v v':Value} (hK:Z≤K∧K≤w.heap.size) {xs:List Value} (h:Vbs w K v xs) (hs:w.heap.size≤w'.heap.size) (h6:v'.ownBlock=v.ownBlock∨v'.ownBlock=some w.heap.size):∀ b,InB Z K w v b→InB Z K w' v' b:=fun b hb=>by
 rcases hb with hb | hb
 ·exact .inl hb
 ·refine .inr ⟨hb.1,Nat.lt_of_lt_of_le hb.2.1 hs,fun e=>?_⟩
  rcases h6 with h6 | h6
  ·exact hb.2.2 (h6.symm.trans e)
  ·rw [h6] at e
   have:=Option.some.inj e
   have:=hb.2.1;omega
theorem run_append_owned_empty {w:World} (base:Nat) (t ty e:TypeId) (i:TypeInfo) (size:Nat) (ht:Tryz.prog.underlying t=some (.slice e)) (hi:Tryz.prog.info? e=some i)
  (v:Value) (n:Nat) (xs:List Value) (hown:w.ownsRow base e size v n xs) (c:Nat):
  (Builtin.append_ #[t,t] ty #[v,.slice none 0 c]).run Tryz.prog w=.ok v w:=by
 rcases hown.2 with ⟨rfl,rfl⟩ | ⟨g,cap,cur,rfl,_,_,hnc,_⟩
 ·simp [Builtin.append_,run_underlying ht,sizeOf,typeInfo,hi,Builtin.lenOf,Builtin.firstCells]
 ·simp [Builtin.append_,run_underlying ht,sizeOf,typeInfo,hi,Builtin.lenOf,Builtin.firstCells,hnc,storeCells]
theorem LsC.row {w:World} {S:Nat→Prop} {A:Option Addr} {l:List JV} (h:LsC w S A l) (hne:l≠[]):
  ∃ b o,A=some ⟨b,o,none⟩ ∧ ∃ xs:List Value,xs.length=l.length∧(∀ p∈xs,Five p)∧(∀ i (h1:i<xs.length) (h2:i<l.length),InV w S l[i] xs[i]) ∧ ∀ j u,(vcs xs)[j]? = some u→w.cell? ⟨b,o+j,none⟩=some u:=by
 obtain ⟨b,o,_,_,_,_,rfl,_,_,_⟩:=h 0 (by cases l with | nil=>exact absurd rfl hne | cons _ _=>simp)
 obtain ⟨xs,h1,h2⟩:=pick_any (P:=fun i (x:Value)=>∃ h:i<l.length,InV w S l[i] x∧Five x ∧ ∀ j,j<5→w.cell? ⟨b,o+i*5+j,none⟩=(x.cells.toList)[j]?) l.length (fun i hi=>by
  obtain ⟨b2,o2,B,d,B',d',he,hS,⟨c1,c2,c3,c4,c5⟩,hv⟩:=h i hi
  simp only [Option.some.injEq,Addr.mk.injEq,and_true] at he
  obtain ⟨rfl,rfl⟩:=he
  refine ⟨vA l[i] B d B' d',hi,hv,five_vA _ _ _ _ _,fun j hj=>?_⟩
  rcases (by omega:j=0∨j=1∨j=2∨j=3∨j=4) with rfl | rfl | rfl | rfl | rfl
  ·exact c1
  ·exact c2
  ·exact c3
  ·exact c4
  ·exact c5)
 have h5:∀ p∈xs,Five p:=by
  intro p hp
  obtain ⟨i,hi,rfl⟩:=List.mem_iff_getElem.1 hp
  obtain ⟨_,_,hf,_⟩:=h2 i hi
  exact hf
 refine ⟨b,o,rfl,xs,h1,h5,fun i a c=>(h2 i a).2.1,fun j u hu=>?_⟩
 have hjl:j<xs.length*5:=by
  have:=(List.getElem?_eq_some_iff.1 hu).1
  rw [vcs_len h5] at this;exact this
 have hi:j / 5<xs.length:=by omega
 have hjm:j % 5<5:=Nat.mod_lt _ (by omega)
 have e:j=j / 5*5+j % 5:=by omega
 have hu':=hu
 rw [e,vcs_at h5 hi hjm] at hu'
 obtain ⟨_,_,_,hc⟩:=h2 (j / 5) hi
 rw [e,← Nat.add_assoc,hc _ hjm];exact hu'
theorem run_vB {w:World} (ty:TypeId) (Z K:Nat) (v:Value) (l:List JV) (hown:VsB w Z K v l) (A:Option Addr) (c:Nat) (us:List JV) (hA:LsC w (InB Z K w v) A us) (h63:(l.length+us.length)*80≤140737488355328):
  ∃ v' w',(Builtin.append_ #[22,22] ty #[v,.slice A us.length c]).run Tryz.prog w=.ok v' w'∧VsB w' Z K v' (l++us)∧w.grownBy w' v.ownBlock∧(v'.ownBlock=v.ownBlock∨v'.ownBlock=some w.heap.size):=by
 obtain ⟨h0,xs,hvb,hlen,hin⟩:=hown
 obtain ⟨i,hi,hz,hsz,hby⟩:=info_parts vb_info
 have key:∀ (ad:Addr) (news:List Value) (hln:news.length=us.length) (h5:∀ p∈news,Five p) (hu:∀ i (h1:i<news.length) (h2:i<us.length),InV w (InB Z K w v) us[i] news[i])
   (hcells:∀ j u,(vcs news)[j]? = some u→w.cell? (ad.add j)=some u),
   ∃ v' w',(Builtin.append_ #[22,22] ty #[v,.slice (some ad) us.length c]).run Tryz.prog w=.ok v' w'∧VsB w' Z K v' (l++us)∧w.grownBy w' v.ownBlock∧(v'.ownBlock=v.ownBlock∨v'.ownBlock=some w.heap.size):=by
  intro ad news hln h5 hu hcells
  obtain ⟨v',w',hr,h3,h4,_,h6⟩:=run_append_own_at (P:=Tryz.prog) w K 22 ty 25 i _ 5 80 Tryz.underlying22 hi hz hsz hby rfl (by omega) v _ (vcs xs) hvb.1 ad us.length c (vcs news) (by rw [← hln];exact vcs_len h5) hcells (vcs_one h5) (by unfold maxLen;omega) (by omega) h0.2
  have hS:=InB.behind (Z:=Z) h0 hvb h4.size h6
  have hC:∀ b o,InB Z K w v b→w'.cell? ⟨b,o,none⟩=w.cell? ⟨b,o,none⟩:=fun b o hb=>by
   have hk:=InB.ok h0 hvb hb
   unfold World.cell?;rw [h4.block b hk.1 (fun e=>hk.2 e.symm)]
  refine ⟨v',w',hr,⟨⟨h0.1,Nat.le_trans h0.2 h4.size⟩,xs++news,⟨?_,?_⟩,by simp [hlen,hln],fun i a b=>?_⟩,h4,h6⟩
  ·rw [vcs_app,List.length_append,hln];exact h3
  ·intro p hp
   rcases List.mem_append.1 hp with hp | hp
   ·exact hvb.2 p hp
   ·exact h5 p hp
  ·by_cases hil:i<l.length
   ·rw [List.getElem_append_left hil,List.getElem_append_left (by omega)]
    exact (hin i (by omega) hil).map hS hC
   ·rw [List.getElem_append_right (by omega),List.getElem_append_right (by omega)]
    have e:i - xs.length=i - l.length:=by omega
    simp only [e]
    exact (hu _ (by simp at a;omega) (by simp at b;omega)).map hS hC
 by_cases hne:us=[]
 ·subst hne
  cases A with
  | none=>
   refine ⟨v,w,run_append_owned_empty K _ ty _ i 5 Tryz.underlying22 hi v _ (vcs xs) hvb.1 c,by rw [List.append_nil];exact ⟨h0,xs,hvb,hlen,hin⟩,⟨rfl,rfl,rfl,Nat.le_refl _,fun _ _ _=>rfl⟩,.inl rfl⟩
  | some ad=>exact key ad [] rfl (by simp) (fun i h=>absurd h (by simp)) (fun j u hu=>by simp [vcs] at hu)
 ·obtain ⟨b,o,rfl,news,hln,h5,hu,hcells⟩:=hA.row hne
  refine key ⟨b,o,none⟩ news hln h5 hu (fun j u hu=>?_)
  rw [show (Addr.mk b o none).add j=⟨b,o+j,none⟩ by
   by_cases h0:j=0
   ·subst h0;simp [Addr.add]
   ·simp [Addr.add,h0]]
  exact hcells j u hu
theorem wpl_vB {ops:Array Oper} {rest:List Oper} {o:Oper} {a:Act} {w:World} {Q:Exit→Act→World→Prop}
  (hgd:o.guard=none) (s x:Operand) (ho:o.op=.call { callee:=.builtin .append,args:=#[s,x],argTypes:=#[22,22] })
  (Z K:Nat) (v:Value) (l:List JV) (hs:a.eval s=v) (hown:VsB w Z K v l) (A:Option Addr) (c n:Nat) (us:List JV) (hx:a.eval x=.slice A n c) (hn:n=us.length) (hA:LsC w (InB Z K w v) A us) (h63:(l.length+us.length)*80≤140737488355328)
  (h:∀ v' w',VsB w' Z K v' (l++us)→w.grownBy w' v.ownBlock→wpList Tryz.prog ops Q rest (a.put o.dst v') w'):
  wpList Tryz.prog ops Q (o::rest) a w:=by
 subst hn
 refine wpList_plain hgd fun K2 hK=>?_
 obtain ⟨v',w',hr,h3,h4,h6⟩:=run_vB (w:=w) o.type Z K v l hown A c us hA h63
 unfold Oper.wp execOp
 simp only [ho,resolve,invoke,builtin,Sem.run_bind,Sem.run_pure,Result.andThen_ok,List.map_toArray,List.map_cons,List.map_nil,hs,hx,hr]
 exact hK _ _ (h v' w' h3 h4)
theorem wpl_vB_lit {ops:Array Oper} {rest:List Oper} {o:Oper} {a:Act} {w:World} {Q:Exit→Act→World→Prop} {cs:Array Value} {ad:Addr}
  (hgd:o.guard=none) (s x:Operand) (ho:o.op=.call { callee:=.builtin .append,args:=#[s,x],argTypes:=#[22,22] })
  (Z K:Nat) (v:Value) (l:List JV) (hs:a.eval s=v) (hown:VsB w Z K v l) (u:JV) (C:Option Addr) (f:Nat) (C':Option Addr) (f':Nat) (hcs:Value.agg cs=vA u C f C' f') (hu:InV w (InB Z K w v) u (vA u C f C' f')) (hx:a.eval x=.slice (some ad) 1 1) (had:ad=⟨w.heap.size,0,none⟩) (h63:(l.length+1)*80≤140737488355328)
  (h:∀ v' w',VsB w' Z K v' (l++[u])→(w.alloc (.cells cs 25)).grownBy w' v.ownBlock→wpList Tryz.prog ops Q rest (a.put o.dst v') w'):
  wpList Tryz.prog ops Q (o::rest) a (w.alloc (.cells cs 25)):=by
 subst had
 have hal:=(Fr.refl w).alloc (.cells cs 25)
 obtain ⟨h0,xs,hvb,_⟩:=id hown
 refine wpl_vB hgd s x ho Z K v l hs (hown.keep hal) (some ⟨w.heap.size,0,none⟩) 1 1 [u] hx rfl ?_ h63 h
 intro i hi
 obtain rfl:i=0:=by simp at hi;omega
 have hcs2:cs=#[.int .i64 u.kd,.int .i64 u.nm,.string ⟨u.tx.toArray⟩,.slice C u.ls.length f,.slice C' u.ms.length f']:=Value.agg.inj hcs
 have hb:=Blk.made w cs 25
 rw [hcs2] at hb
 rw [← hcs2] at hb
 refine ⟨w.heap.size,0,C,f,C',f',rfl,.inr ⟨h0.2,by simp,fun e=>by have:=(hvb.own_lt e).2;omega⟩,⟨?_,?_,?_,?_,?_⟩,hu.map (InB.grow (by simp)) (fun b o hb=>hal.cell (InB.ok h0 hvb hb).1)⟩
 ·have:=hb.cell 0;rw [hcs2] at this ⊢;exact this
 ·have:=hb.cell 1;rw [hcs2] at this ⊢;exact this
 ·have:=hb.cell 2;rw [hcs2] at this ⊢;exact this
 ·have:=hb.cell 3;rw [hcs2] at this ⊢;exact this
 ·have:=hb.cell 4;rw [hcs2] at this ⊢;exact this
/- The walks of point.all, point.find. -/

def Ne (Z:Nat) (w w':World):Nat→Prop:=fun b=>b<Z∨(w.heap.size≤b∧b<w'.heap.size)
def FdP (Z:Nat) (w:World):Option JV→Ending→World→Prop
 | none,e,w'=>e=.returned (.tuple #[.agg #[.int .i64 0,.int .i64 0,.string ⟨#[]⟩,.slice none 0 0,.slice none 0 0],.int .i64 81])∧Fr w w'
 | some y,e,w'=>∃ (C:Option Addr) (f:Nat) (C':Option Addr) (f':Nat),e=.returned (.tuple #[.agg #[.int .i64 y.kd,.int .i64 y.nm,.string ⟨y.tx.toArray⟩,.slice C y.ls.length f,.slice C' y.ms.length f'],.int .i64 0])∧InV w' (Ne Z w w') y (vA y C f C' f')∧Fr w w'
theorem FdP.form {Z:Nat} {w w':World} {r:Option JV} {x:Ending} (h:FdP Z w r x w'):∃ (k n:Int) (s:ByteArray) (A:Option Addr) (a1 b:Nat) (A':Option Addr) (a' b':Nat) (c:Int),x=.returned (.tuple #[.agg #[.int .i64 k,.int .i64 n,.string s,.slice A a1 b,.slice A' a' b'],.int .i64 c]):=by
 cases r with
 | none=>obtain ⟨hx,_⟩:=h;exact ⟨_,_,_,_,_,_,_,_,_,_,hx⟩
 | some y=>obtain ⟨C,f,C',f',hx,_⟩:=h;exact ⟨_,_,_,_,_,_,_,_,_,_,hx⟩
theorem FdP.fr {Z:Nat} {w w':World} {r:Option JV} {x:Ending} (h:FdP Z w r x w'):Fr w w':=by
 cases r with
 | none=>exact h.2
 | some y=>obtain ⟨_,_,_,_,_,_,hf⟩:=h;exact hf
theorem FdP.lift {Z:Nat} {w W0 w':World} {r:Option JV} {x:Ending} (h:FdP Z W0 r x w') (hF:Fr w W0) (hZ:Z≤w.heap.size) {X:Nat} (hX:w.heap.size≤X) (hX2:X<W0.heap.size) (u0 u1 u2 u3 u4:Value):
  FdP Z w r x (((((w'.setCell ⟨X,0,none⟩ u0).setCell ⟨X,1,none⟩ u1).setCell ⟨X,2,none⟩ u2).setCell ⟨X,3,none⟩ u3).setCell ⟨X,4,none⟩ u4):=by
 have hfr:=h.fr
 have hfin:=(hF.trans hfr).put5 hX u0 u1 u2 u3 u4
 have hs:(((((w'.setCell ⟨X,0,none⟩ u0).setCell ⟨X,1,none⟩ u1).setCell ⟨X,2,none⟩ u2).setCell ⟨X,3,none⟩ u3).setCell ⟨X,4,none⟩ u4).heap.size=w'.heap.size:=by simp [World.setCell]
 cases r with
 | none=>exact ⟨h.1,hfin⟩
 | some y=>
  obtain ⟨C,f,C',f',hx,hin,_⟩:=h
  refine ⟨C,f,C',f',hx,hin.map (fun b hb=>?_) (fun b o hb=>?_),hfin⟩
  ·rcases hb with hb | hb
   ·exact .inl hb
   ·exact .inr ⟨by have:=hF.size;omega,by rw [hs];exact hb.2⟩
  ·have hne:b≠X:=by rcases hb with hb | hb <;> omega
   unfold World.cell?
   rw [Below.heap_setCell _ _ _ _ hne,Below.heap_setCell _ _ _ _ hne,Below.heap_setCell _ _ _ _ hne,Below.heap_setCell _ _ _ _ hne,Below.heap_setCell _ _ _ _ hne]
def FindAt (st:Bool) (ps:List (List UInt8)):Prop:=∀ (v:JV) (B:Option Addr) (d:Nat) (B':Option Addr) (d':Nat) (A:Option Addr) (c:Nat) (w:World) (Z:Nat),Z≤w.heap.size→InV w (Lo Z) v (vA v B d B' d')→Rd.nv v≤1048576→PsC w A ps→ps.length≤c→c≤9223372036854775807→(∀ q∈ps,q.length≤9223372036854775807) →
 Calls Tryz.prog 67 #[.agg #[.int .i64 v.kd,.int .i64 v.nm,.string ⟨v.tx.toArray⟩,.slice B v.ls.length d,.slice B' v.ms.length d'],.slice A ps.length c,.bool st] w (FdP Z w (Pt.find st ps v))
structure GB (Z:Nat) (w wr:World) (v:Value) (acc:List JV):Prop where
 vs:VsB wr Z (w.heap.size+2) v acc
 bx:Blk wr (w.heap.size+1) #[.int .i64 5,.int .i64 0,.string ⟨#[]⟩,v,.slice none 0 0] 25
 bz:Blk wr w.heap.size #[.int .i64 0,.int .i64 0,.string ⟨#[]⟩,.slice none 0 0,.slice none 0 0] 25
 fr:Fr w wr
theorem GB.keep {Z:Nat} {w wr w':World} {v:Value} {acc:List JV} (h:GB Z w wr v acc) (hf:Fr wr w'):GB Z w w' v acc:=⟨h.vs.keep hf,h.bx.keep hf,h.bz.keep hf,h.fr.trans hf⟩
theorem GB.app {Z:Nat} {w w3 w4:World} {v v4:Value} {acc new:List JV} (h:GB Z w w3 v acc) (hZ:Z≤w.heap.size) (hv:VsB w4 Z (w.heap.size+2) v4 (acc++new)) (hg:w3.grownBy w4 v.ownBlock):
  GB Z w (w4.setCell ⟨w.heap.size+1,3,none⟩ v4) v4 (acc++new):=by
 have hne:∀ k,k<w.heap.size+2→v.ownBlock≠some k:=fun k hk e=>by have:=(h.vs.own_lt e).1;omega
 have hY:Blk w4 (w.heap.size+1) _ _:=(hg.block _ h.bx.lt (fun e=>hne _ (by omega) e.symm)).trans h.bx
 have hX:Blk w4 w.heap.size _ _:=(hg.block _ h.bz.lt (fun e=>hne _ (by omega) e.symm)).trans h.bz
 refine ⟨hv.frx (X:=w.heap.size+1) (by omega) (by omega) ((FrX.refl _ _).setCell rfl _),hY.set 3 _,hX.other (by show w.heap.size+1≠w.heap.size;omega) _,?_⟩
 exact (Below.grown h.fr hg h.fr.size (fun k hk=>by have:=(h.vs.own_lt hk).1;omega):Fr w w4).setCell (p:=⟨w.heap.size+1,3,none⟩) (Nat.le_succ _) _

theorem all_is (ps:List (List UInt8)) (hF:FindAt true ps) (l:List JV) (A:Option Addr) (c:Nat) (P:Option Addr) (pc:Nat) (w:World) (Z:Nat) (hZ:Z≤w.heap.size) (hl:LsC w (Lo Z) A l) (hn:Rd.nvL l≤1048576) (hp:PsC w P ps) (hpc:ps.length≤pc) (hpc2:pc≤9223372036854775807) (hpq:∀ q∈ps,q.length≤9223372036854775807):
  Calls Tryz.prog 85 #[.slice A l.length c,.slice P ps.length pc] w (FdP Z w ((Pt.gather (Pt.find true ps) l).map JV.listV)):=by
 have hlen:=Pt.nvL_len l
 have hl':(l.length:Int)≤1048576:=by omega
 obtain ⟨r,hr⟩:∃ r,Pt.gather (Pt.find true ps) l=r:=⟨_,rfl⟩
 rw [hr]
 have HR:=Lib.hid hr
 have HLS:=Lib.hid hl
 have HPS:=Lib.hid hp
 have HN:=Lib.hid hn
 have HF:=Lib.hid hF
 have hG0:Hid (GB Z w ((w.alloc (.cells #[.int .i64 0,.int .i64 0,.string ⟨#[]⟩,.slice none 0 0,.slice none 0 0] 25)).alloc (.cells #[.int .i64 5,.int .i64 0,.string ⟨#[]⟩,.slice none 0 0,.slice none 0 0] 25)) (.slice none 0 0) []):=
  ⟨VsB.none_ _ ⟨by omega,by simp⟩,boxz (Blk.made (w.alloc _) _ _),(Blk.made w _ _).keep ((Fr.refl _).alloc _),((Fr.refl w).alloc _).alloc _⟩
 have HPQ:=Lib.hid hpq
 clear hr hl hp hn hF hlen hpq
 go_enter Tryz.func85,Tryz.ntmps85
 go_wp2_with fail
 go_loopw [14] (fun j wr=>∃ (i:Nat) (v:Value) (acc:List JV),i≤l.length∧j=.int .i64 i∧Hid (GB Z w wr v acc)∧Hid (r=(Pt.gather (Pt.find true ps) (l.drop i)).map (acc ++ ·))∧Hid (acc.length+Rd.nvL (l.drop i)≤1048576)) (fun j _=>l.length - (intOf j).toNat)
 case atStart=>exact ⟨0,_,[],by omega,rfl,hG0,Lib.hid (by rw [List.drop_zero,HR.out];cases r <;> simp),Lib.hid (by rw [List.drop_zero];have:=HN.out;simp;omega)⟩
 case round=>
  obtain ⟨i,v,acc,hi,rfl,hG,hI,hcnt⟩:=hrel
  obtain ⟨sa,sc,rfl⟩:=hG.out.vs.is_slice
  obtain ⟨⟨y0,y1,y2,y3,y4⟩,g0,g1,g2,g3,g4⟩:=box5 hG.out.bx
  by_cases hlt:i<l.length
  ·have hlt':(i:Int)<(l.length:Int):=by omega
   obtain ⟨b,o,C,e,C',e',rfl,hb,⟨c1,c2,c3,c4,c5⟩,hv⟩:=(HLS.out.keep hZ hG.out.fr) i hlt
   have hnx:=hI.out
   have hc2:=hcnt.out
   rw [List.drop_eq_getElem_cons hlt] at hnx hc2
   obtain ⟨u,hu⟩:∃ u,l[i]=u:=⟨_,rfl⟩
   rw [hu] at c1 c2 c3 c4 c5 hv hnx hc2
   rw [Rd.nvL_cons] at hc2
   rw [Pt.gather_cons] at hnx
   clear hu
   have hZr:Z≤wr.heap.size:=Nat.le_trans hZ hG.out.fr.size
   have hKr:w.heap.size+2≤wr.heap.size:=hG.out.bx.lt
   have HC:Hid (Calls Tryz.prog 67 #[.agg #[.int .i64 u.kd,.int .i64 u.nm,.string ⟨u.tx.toArray⟩,.slice C u.ls.length e,.slice C' u.ms.length e'],.slice P ps.length pc,.bool true] (wr.alloc (.cells #[.int .i64 u.kd,.int .i64 u.nm,.string ⟨u.tx.toArray⟩,.slice C u.ls.length e,.slice C' u.ms.length e'] 25)) (FdP Z (wr.alloc (.cells #[.int .i64 u.kd,.int .i64 u.nm,.string ⟨u.tx.toArray⟩,.slice C u.ls.length e,.slice C' u.ms.length e'] 25)) (Pt.find true ps u))):=
    Lib.hid (HF.out u C e C' e' P pc _ Z (Nat.le_trans hZr (by simp)) (hv.keep hZr ((Fr.refl wr).alloc _)) (by omega) (HPS.out.keep (hG.out.fr.alloc _)) hpc hpc2 HPQ.out)
   have hlenY:∀ y,Pt.find true ps u=some y→(Pt.flat y).length≤Rd.nv u:=fun y hy=>Pt.find_len true ps u y hy
   rcases hq:Pt.find true ps u with _ | y
   ·rw [hq] at hnx HC
    obtain rfl:r=none:=hnx
    clear hq hlenY hv hc2
    go_wp2_with (go_at_call 67;refine HC.out.mono ?_;rintro e w2 ⟨rfl,hf⟩;have hg2:=hG.out.keep ((((Fr.refl wr).alloc (.cells #[.int .i64 u.kd,.int .i64 u.nm,.string ⟨u.tx.toArray⟩,.slice C u.ls.length e,.slice C' u.ms.length e'] 25)).trans hf).alloc (.cells #[.int .i64 0,.int .i64 0,.string ⟨#[]⟩,.slice none 0 0,.slice none 0 0] 25));obtain ⟨⟨x0,x1,x2,x3,x4⟩,h0,h1,h2,h3,h4⟩:=box5 hg2.bz;have HG2:=Lib.hid hg2;clear hf hg2)
    refine bodyPost_ret (results_cs (by rfl) rfl _ w.heap.size (by rfl) (by rfl) _ _ _ _ _ (set5 HG2.out.bz)) rfl ?_
    exact ⟨rfl,HG2.out.fr.put5 (Nat.le_refl _) _ _ _ _ _⟩
   ·rw [hq] at hnx HC
    have hly:=hlenY y hq
    clear hq hlenY hv
    have hnx2:Hid (r=(Pt.gather (Pt.find true ps) (l.drop (i+1))).map ((acc++Pt.flat y) ++ ·)):=by
     show _=_
     rw [hnx]
     show Option.map _ (Option.map _ _)=_
     cases Pt.gather (Pt.find true ps) (l.drop (i+1)) <;> simp
    have hcnt2:Hid ((acc++Pt.flat y).length+Rd.nvL (l.drop (i+1))≤1048576):=by
     show _≤_
     rw [List.length_append];omega
    by_cases hk:y.kd=5
    ·have hfl:Pt.flat y=y.ls:=by unfold Pt.flat;exact if_pos hk
     rw [hfl] at hnx2 hcnt2 hly
     have q5:(y.kd == 5)=true:=by rw [beq_iff_eq];exact hk
     clear hk hfl
     have hk63:(acc.length+y.ls.length)*80≤140737488355328:=by omega
     go_wp2_with (first
      | (at_builtin;refine wpl_vB rfl (.tmp 32) (.tmp 34) rfl Z (w.heap.size+2) _ acc rfl HG3.out.vs D g y.ls.length y.ls rfl rfl HL3.out hk63 ?_;intro v4 w4 hv4 hg4;obtain ⟨a4,c4,rfl⟩:=hv4.is_slice2 (n:=y.ls.length) rfl;have hg5:=HG3.out.app hZ hv4 hg4;have HG5:=Lib.hid hg5;have hne4:∀ k,k<w.heap.size+2→(Value.slice sa acc.length sc).ownBlock≠some k:=(fun k hk e=>by have:=(HG3.out.vs.own_lt e).1;omega);have hy4:Blk w4 (w.heap.size+1) _ _:=(hg4.block _ HG3.out.bx.lt (fun e=>hne4 _ (by omega) e.symm)).trans HG3.out.bx;have z3:=hy4.cell 3;have zf:=hy4.free 3;clear hv4 hg4 hg5 hy4 hne4)
      | (go_at_call 67;refine HC.out.mono ?_;rintro e w2 ⟨D,g,D',g',rfl,hin,hf⟩;have ha:=(Fr.refl w2).alloc (.cells #[.int .i64 y.kd,.int .i64 y.nm,.string ⟨y.tx.toArray⟩,.slice D y.ls.length g,.slice D' y.ms.length g'] 25);have hw2:wr.heap.size<w2.heap.size:=Nat.lt_of_lt_of_le (by simp) hf.size;have hg3:=hG.out.keep ((((Fr.refl wr).alloc (.cells #[.int .i64 u.kd,.int .i64 u.nm,.string ⟨u.tx.toArray⟩,.slice C u.ls.length e,.slice C' u.ms.length e'] 25)).trans hf).trans ha);obtain ⟨⟨p0,p1,p2,p3,p4⟩,f0,f1,f2,f3,f4⟩:=box5 hg3.bx;have hin3:InV (w2.alloc (.cells #[.int .i64 y.kd,.int .i64 y.nm,.string ⟨y.tx.toArray⟩,.slice D y.ls.length g,.slice D' y.ms.length g'] 25)) (InB Z (w.heap.size+2) (w2.alloc (.cells #[.int .i64 y.kd,.int .i64 y.nm,.string ⟨y.tx.toArray⟩,.slice D y.ls.length g,.slice D' y.ms.length g'] 25)) (.slice sa acc.length sc)) y (vA y D g D' g'):=(hin.map (fun b hb=>(by rcases hb with hb | hb;exact .inl hb;exact .inr ⟨by have:=hb.1;simp at this;omega,Nat.lt_of_lt_of_le hb.2 ha.size,fun e=>by have:=(hG.out.vs.own_lt e).2;have:=hb.1;simp at this;omega⟩)) (fun b o hb=>ha.cell (by rcases hb with hb | hb;omega;exact hb.2)));obtain ⟨D1,g1',D1',g2',he1,hls1,_⟩:=hin3.open_;have hD:D=D1:=(by obtain ⟨_,_,_,e3,_⟩:=five he1;injection e3);subst hD;have HL3:=Lib.hid hls1;have HG3:=Lib.hid hg3;clear hf ha hg3 hin hin3 hls1 he1))
     go_wp2_with fail
     exact ⟨⟨i+1,_,acc++y.ls,by omega,by go_num,HG5,hnx2,hcnt2⟩,by simp [intOf];omega⟩
    ·have hfl:Pt.flat y=[y]:=by unfold Pt.flat;exact if_neg hk
     rw [hfl] at hnx2 hcnt2 hly
     obtain ⟨q5,_⟩:=ikind hk
     clear hk hfl
     have hk63:(acc.length+1)*80≤140737488355328:=by have:=hcnt2.out;simp at this;omega
     go_wp2_with (first
      | (at_builtin;refine wpl_vB_lit rfl (.tmp 38) (.tmp 40) rfl Z (w.heap.size+2) _ acc rfl HG3.out.vs y D g D' g' rfl HU3.out rfl (by simp) hk63 ?_;intro v4 w4 hv4 hg4;obtain ⟨a4,c4,rfl⟩:=hv4.is_slice2 (n:=1) rfl;have hga:=HG3.out.keep ((Fr.refl _).alloc (.cells #[.int .i64 y.kd,.int .i64 y.nm,.string ⟨y.tx.toArray⟩,.slice D y.ls.length g,.slice D' y.ms.length g'] 25));have hg5:=hga.app hZ hv4 hg4;have HG5:=Lib.hid hg5;have hne4:∀ k,k<w.heap.size+2→(Value.slice sa acc.length sc).ownBlock≠some k:=(fun k hk e=>by have:=(HG3.out.vs.own_lt e).1;omega);have hy4:Blk w4 (w.heap.size+1) _ _:=(hg4.block _ hga.bx.lt (fun e=>hne4 _ (by omega) e.symm)).trans hga.bx;have z3:=hy4.cell 3;have zf:=hy4.free 3;clear hv4 hg4 hg5 hy4 hne4 hga)
      | (go_at_call 67;refine HC.out.mono ?_;rintro e w2 ⟨D,g,D',g',rfl,hin,hf⟩;have ha:=(Fr.refl w2).alloc (.cells #[.int .i64 y.kd,.int .i64 y.nm,.string ⟨y.tx.toArray⟩,.slice D y.ls.length g,.slice D' y.ms.length g'] 25);have hw2:wr.heap.size<w2.heap.size:=Nat.lt_of_lt_of_le (by simp) hf.size;have hg3:=hG.out.keep ((((Fr.refl wr).alloc (.cells #[.int .i64 u.kd,.int .i64 u.nm,.string ⟨u.tx.toArray⟩,.slice C u.ls.length e,.slice C' u.ms.length e'] 25)).trans hf).trans ha);obtain ⟨⟨p0,p1,p2,p3,p4⟩,f0,f1,f2,f3,f4⟩:=box5 hg3.bx;have hin3:InV (w2.alloc (.cells #[.int .i64 y.kd,.int .i64 y.nm,.string ⟨y.tx.toArray⟩,.slice D y.ls.length g,.slice D' y.ms.length g'] 25)) (InB Z (w.heap.size+2) (w2.alloc (.cells #[.int .i64 y.kd,.int .i64 y.nm,.string ⟨y.tx.toArray⟩,.slice D y.ls.length g,.slice D' y.ms.length g'] 25)) (.slice sa acc.length sc)) y (vA y D g D' g'):=(hin.map (fun b hb=>(by rcases hb with hb | hb;exact .inl hb;exact .inr ⟨by have:=hb.1;simp at this;omega,Nat.lt_of_lt_of_le hb.2 ha.size,fun e=>by have:=(hG.out.vs.own_lt e).2;have:=hb.1;simp at this;omega⟩)) (fun b o hb=>ha.cell (by rcases hb with hb | hb;omega;exact hb.2)));have HU3:=Lib.hid hin3;have HG3:=Lib.hid hg3;clear hf ha hg3 hin hin3))
     go_wp2_with fail
     exact ⟨⟨i+1,_,acc++[y],by omega,by go_num,HG5,hnx2,hcnt2⟩,by simp [intOf];omega⟩
  ·obtain rfl:i=l.length:=by omega
   have hres:=hI.out
   rw [List.drop_length,Pt.gather_nil] at hres
   obtain rfl:r=some acc:=by rw [hres];simp
   clear hres
   obtain ⟨⟨x0,x1,x2,x3,x4⟩,h0,h1,h2,h3,h4⟩:=box5 hG.out.bz
   go_wp2_with fail
   have hc9:=hcnt.out
   refine bodyPost_ret (results_cs (by rfl) rfl _ w.heap.size (by rfl) (by rfl) _ _ _ _ _ (set5 hG.out.bz)) rfl ?_
   have hfin:=hG.out.fr.put5 (X:=w.heap.size) (Nat.le_refl _) (.int .i64 5) (.int .i64 0) (.string ⟨#[]⟩) (.slice sa acc.length sc) (.slice none 0 0)
   have hs:(((((wr.setCell ⟨w.heap.size,0,none⟩ (.int .i64 5)).setCell ⟨w.heap.size,1,none⟩ (.int .i64 0)).setCell ⟨w.heap.size,2,none⟩ (.string ⟨#[]⟩)).setCell ⟨w.heap.size,3,none⟩ (.slice sa acc.length sc)).setCell ⟨w.heap.size,4,none⟩ (.slice none 0 0)).heap.size=wr.heap.size:=by simp [World.setCell]
   refine ⟨sa,sc,none,0,rfl,(hG.out.vs.inV (by omega)).map (fun b hb=>?_) (fun b o hb=>?_),hfin⟩
   ·rcases hb with hb | hb
    ·exact .inl hb
    ·exact .inr ⟨by omega,by rw [hs];exact hb.2⟩
   ·have hne:b≠w.heap.size:=by rcases hb with hb | hb <;> omega
    unfold World.cell?
    rw [Below.heap_setCell _ _ _ _ hne,Below.heap_setCell _ _ _ _ hne,Below.heap_setCell _ _ _ _ hne,Below.heap_setCell _ _ _ _ hne,Below.heap_setCell _ _ _ _ hne]
end Go.Proofs.YtdhakbghdcfncaaGreatDoor
