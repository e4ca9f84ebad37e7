/- Chapter 09: PatchKeeps' walk. -/
import Derived.Test.YtlmcfhokfiibkaaGreatDoorPaK
import Derived.Test.YtlmcfhokfiibkaaGreatDoorPaU
import Derived.Test.YtlmcfhokfiibkaaGreatDoorWrL
namespace Go.Proofs.YtlmcfhokfiibkaaGreatDoor
set_option maxRecDepth 100000
set_option maxHeartbeats 8000000
set_option linter.unusedVariables false
set_option linter.unusedSimpArgs false
open Go.RowKit

structure KpI (X g:Nat) (W0 W:World) (m:List (List UInt8 × JV)) (S:Nat→Prop) (cs:Array Value):Prop where
 box:Blk W X cs 25
 own:∃ cur,Blk W g cur 38∧m.length*6≤cur.size
 vals:∀ k,k<m.length → ∀ j,j<5→W.cell? ⟨g,k*6+1+j,none⟩=W0.cell? ⟨g,k*6+1+j,none⟩
 soft:∀ b,S b → ∃ cur0 T0 cur T1,Blk W0 b cur0 T0∧Blk W b cur T1∧cur0.size≤cur.size
theorem KpI.room {X g:Nat} {W0 W:World} {m:List (List UInt8 × JV)} {S:Nat→Prop} {cs:Array Value} (h:KpI X g W0 W m S cs) {b o:Nat} (hb:S b) (he:∃ v,W0.cell? ⟨b,o,none⟩=some v):∃ cur,(∃ T1,Blk W b cur T1)∧o<cur.size:=by
 obtain ⟨cur0,T0,cur,T1,h0,h1,h2⟩:=h.soft b hb
 obtain ⟨v,hv⟩:=he
 rw [h0.cell] at hv
 have:=(Array.getElem?_eq_some_iff.1 hv).1
 exact ⟨cur,⟨T1,h1⟩,by omega⟩
theorem KpI.put {X g:Nat} {W0 W:World} {m:List (List UInt8 × JV)} {S:Nat→Prop} {cs:Array Value} (h:KpI X g W0 W m S cs) {b:Nat} (hb:S b) (hX:∀ b,S b→b≠X) (hg:∀ b,S b→b≠g) (o:Nat) (v:Value):KpI X g W0 (W.setCell ⟨b,o,none⟩ v) m S cs:=by
 refine ⟨h.box.other (hX b hb) v,?_,fun k hk j hj=>?_,fun b2 hb2=>?_⟩
 ·obtain ⟨cur,h1,h2⟩:=h.own
  exact ⟨cur,h1.other (hg b hb) v,h2⟩
 ·rw [World.cell?_setCell_other _ _ _ _ (fun e=>by injection e with e _ _;exact hg b hb e)]
  exact h.vals k hk j hj
 ·obtain ⟨cur0,T0,cur,T1,h0,h1,h2⟩:=h.soft b2 hb2
  by_cases e:b=b2
  ·subst e
   exact ⟨cur0,T0,_,T1,h0,h1.set o v,by simpa using h2⟩
  ·exact ⟨cur0,T0,cur,T1,h0,h1.other e v,h2⟩
theorem KpI.name {X g:Nat} {W0 W:World} {m:List (List UInt8 × JV)} {S:Nat→Prop} {cs:Array Value} (h:KpI X g W0 W m S cs) {i:Nat} (hi:i<m.length) (hg:∀ b,S b→b≠g) (hX:g≠X) (v:Value):KpI X g W0 (W.setCell ⟨g,i*6,none⟩ v) m S cs:=by
 refine ⟨h.box.other hX v,?_,fun k hk j hj=>?_,fun b2 hb2=>?_⟩
 ·obtain ⟨cur,h1,h2⟩:=h.own
  exact ⟨_,h1.set (i*6) v,by simpa using h2⟩
 ·rw [World.cell?_setCell_other _ _ _ _ (fun e=>by injection e with _ e _;omega)]
  exact h.vals k hk j hj
 ·obtain ⟨cur0,T0,cur,T1,h0,h1,h2⟩:=h.soft b2 hb2
  exact ⟨cur0,T0,cur,T1,h0,h1.other (fun e=>hg b2 hb2 e.symm) v,h2⟩
theorem patkeeps_law (v p:JV) (A:Option Addr) (c0:Nat) (A':Option Addr) (c0':Nat) (C:Option Addr) (f:Nat) (C':Option Addr) (f':Nat) (w:World) (hv:InV w (Lo w.heap.size) v (vA v A c0 A' c0')) (hp:InV w (Lo w.heap.size) p (vA p C f C' f')) (hb:JV.bulk v≤1048576) (hbp:JV.bulk p≤1048576) (hT:LowTabs w) (hM:MxL w):
  Calls Tryz.prog 6 #[vA v A c0 A' c0',vA p C f C' f'] w fun e w'=>e=.returned (.bool true)∧Fr w w':=by

 have HT:=Lib.hid hT
 have HM:=Lib.hid hM
 have HA:Hid (vA v A c0 A' c0'=.agg #[.int .i64 v.kd,.int .i64 v.nm,.string ⟨v.tx.toArray⟩,.slice A v.ls.length c0,.slice A' v.ms.length c0']):=rfl
 have HAP:Hid (vA p C f C' f'=.agg #[.int .i64 p.kd,.int .i64 p.nm,.string ⟨p.tx.toArray⟩,.slice C p.ls.length f,.slice C' p.ms.length f']):=rfl
 have n1:=Pc.nv3 v
 have n2:=Pc.nv3 p
 have hkv:∀ W,Fr w W→InV W (Lo W.heap.size) v (vA v A c0 A' c0'):=fun W hW=>(hv.keep (Nat.le_refl _) hW).lo hW.size
 have hkp:∀ W,Fr w W→InV W (Lo W.heap.size) p (vA p C f C' f'):=fun W hW=>(hp.keep (Nat.le_refl _) hW).lo hW.size
 have HAW:Hid (∀ W,Fr w W→Calls Tryz.prog 9 #[] W fun e w'=>e=.returned (.bool true)∧Fr W w'):=Lib.hid (fun W hW=>awake09 W (HT.out.keep hW) (HM.out.keep hW))
 have HFW:Hid (∀ W,Fr w W→Calls Tryz.prog 10 #[.agg #[.int .i64 v.kd,.int .i64 v.nm,.string ⟨v.tx.toArray⟩,.slice A v.ls.length c0,.slice A' v.ms.length c0'],.agg #[.int .i64 p.kd,.int .i64 p.nm,.string ⟨p.tx.toArray⟩,.slice C p.ls.length f,.slice C' p.ms.length f']] W fun e w'=>(∃ b:Bool,e=.returned (.bool b))∧Fr W w'):=Lib.hid (fun W hW=>few09_is v p A c0 A' c0' C f C' f' W (hkv W hW) (hkp W hW) (by omega) (by omega))
 rcases hc1:JV.chk v 1 0 with ⟨k1,q1⟩
 rcases hc2:JV.chk p 1 0 with ⟨k2,q2⟩
 have HC1:Hid (∀ W,Fr w W→Calls Tryz.prog 16 #[.agg #[.int .i64 v.kd,.int .i64 v.nm,.string ⟨v.tx.toArray⟩,.slice A v.ls.length c0,.slice A' v.ms.length c0']] W fun e w'=>e=.returned (.int .i64 (k1:Nat))∧Fr W w'):=Lib.hid (fun W hW=>ccheck_is v A c0 A' c0' W k1 q1 (hkv W hW) hc1)
 have HC2:Hid (∀ W,Fr w W→Calls Tryz.prog 16 #[.agg #[.int .i64 p.kd,.int .i64 p.nm,.string ⟨p.tx.toArray⟩,.slice C p.ls.length f,.slice C' p.ms.length f']] W fun e w'=>e=.returned (.int .i64 (k2:Nat))∧Fr W w'):=Lib.hid (fun W hW=>ccheck_is p C f C' f' W k2 q2 (hkp W hW) hc2)

 by_cases h1:k1=0
 rotate_left

 ·have e1:((k1:Int) != 0)=true:=by rw [bne_iff_ne];omega
  clear hv hp hb hbp hT hM n1 n2 hkv hkp hc1 hc2
  rw [HA.out,HAP.out]
  go_enter Tryz.func6,Tryz.ntmps6
  go_upto_region 1 with fail
  have hb1:Blk ((w.alloc (.cells #[.int .i64 v.kd,.int .i64 v.nm,.string ⟨v.tx.toArray⟩,.slice A v.ls.length c0,.slice A' v.ms.length c0'] 25)).alloc (.cells #[.int .i64 p.kd,.int .i64 p.nm,.string ⟨p.tx.toArray⟩,.slice C p.ls.length f,.slice C' p.ms.length f'] 25)) w.heap.size #[.int .i64 v.kd,.int .i64 v.nm,.string ⟨v.tx.toArray⟩,.slice A v.ls.length c0,.slice A' v.ms.length c0'] 25:=(Blk.made w _ _).keep ((Fr.refl _).alloc _)
  have hb2:Blk ((w.alloc (.cells #[.int .i64 v.kd,.int .i64 v.nm,.string ⟨v.tx.toArray⟩,.slice A v.ls.length c0,.slice A' v.ms.length c0'] 25)).alloc (.cells #[.int .i64 p.kd,.int .i64 p.nm,.string ⟨p.tx.toArray⟩,.slice C p.ls.length f,.slice C' p.ms.length f'] 25)) (w.heap.size+1) #[.int .i64 p.kd,.int .i64 p.nm,.string ⟨p.tx.toArray⟩,.slice C p.ls.length f,.slice C' p.ms.length f'] 25:=boxz (Blk.made (w.alloc _) _ _)
  have hf0:Fr w ((w.alloc (.cells #[.int .i64 v.kd,.int .i64 v.nm,.string ⟨v.tx.toArray⟩,.slice A v.ls.length c0,.slice A' v.ms.length c0'] 25)).alloc (.cells #[.int .i64 p.kd,.int .i64 p.nm,.string ⟨p.tx.toArray⟩,.slice C p.ls.length f,.slice C' p.ms.length f'] 25)):=((Fr.refl w).alloc _).alloc _
  generalize ((w.alloc (.cells #[.int .i64 v.kd,.int .i64 v.nm,.string ⟨v.tx.toArray⟩,.slice A v.ls.length c0,.slice A' v.ms.length c0'] 25)).alloc (.cells #[.int .i64 p.kd,.int .i64 p.nm,.string ⟨p.tx.toArray⟩,.slice C p.ls.length f,.slice C' p.ms.length f'] 25))=W0 at hb1 hb2 hf0 ⊢
  generalize w.heap.size+1=X2 at hb2 ⊢
  obtain ⟨X1,hX1⟩:∃ X,w.heap.size=X:=⟨_,rfl⟩
  rw [hX1] at hb1 ⊢
  clear hX1
  have HB1:=Lib.hid hb1
  have HB2:=Lib.hid hb2
  have HF0:=Lib.hid hf0
  clear hb1 hb2 hf0
  go_wp2_with (first
   | (go_at_call 9;have hq:=HF3.out;refine (HAW.out _ (HF0.out.trans hq)).mono ?_;rintro e w9 ⟨rfl,hf⟩;have HF9:=Lib.hid ((HF0.out.trans hq).trans hf);clear hf hq)
   | (go_at_call 16;have hq:=HF2.out;refine (HC1.out _ (HF0.out.trans hq)).mono ?_;rintro e w3 ⟨rfl,hf⟩;obtain ⟨⟨r0,r1,r2,r3,r4⟩,_⟩:=box5 (HB2.out.keep (hq.trans hf));have HF3:=Lib.hid (hq.trans hf);clear hf hq)
   | (go_at_call 9;have hq:=HF2.out;refine (HAW.out _ (HF0.out.trans hq)).mono ?_;rintro e w9 ⟨rfl,hf⟩;have HF9:=Lib.hid ((HF0.out.trans hq).trans hf);clear hf hq)
   | (go_at_call 10;have hq:=HF1.out;refine (HFW.out _ (HF0.out.trans hq)).mono ?_;rintro e w2 ⟨⟨b,rfl⟩,hf⟩;obtain ⟨⟨q0,q1,q2,q3,q4⟩,_⟩:=box5 (HB1.out.keep (hq.trans hf));have HF2:=Lib.hid (hq.trans hf);clear hf hq;cases b)
   | (go_at_call 9;refine (HAW.out _ HF0.out).mono ?_;rintro e w1 ⟨rfl,hf⟩;obtain ⟨⟨y0,y1,y2,y3,y4⟩,_⟩:=box5 (HB1.out.keep hf);obtain ⟨⟨z0,z1,z2,z3,z4⟩,_⟩:=box5 (HB2.out.keep hf);have HF1:=Lib.hid hf;clear hf))
  all_goals go_ret
  all_goals exact ⟨rfl,HF9.out⟩

 by_cases h2:k2=0
 rotate_left

 ·have e2:((k2:Int) != 0)=true:=by rw [bne_iff_ne];omega
  subst h1
  clear hv hp hb hbp hT hM n1 n2 hkv hkp hc1 hc2
  rw [HA.out,HAP.out]
  go_enter Tryz.func6,Tryz.ntmps6
  go_upto_region 1 with fail
  have hb1:Blk ((w.alloc (.cells #[.int .i64 v.kd,.int .i64 v.nm,.string ⟨v.tx.toArray⟩,.slice A v.ls.length c0,.slice A' v.ms.length c0'] 25)).alloc (.cells #[.int .i64 p.kd,.int .i64 p.nm,.string ⟨p.tx.toArray⟩,.slice C p.ls.length f,.slice C' p.ms.length f'] 25)) w.heap.size #[.int .i64 v.kd,.int .i64 v.nm,.string ⟨v.tx.toArray⟩,.slice A v.ls.length c0,.slice A' v.ms.length c0'] 25:=(Blk.made w _ _).keep ((Fr.refl _).alloc _)
  have hb2:Blk ((w.alloc (.cells #[.int .i64 v.kd,.int .i64 v.nm,.string ⟨v.tx.toArray⟩,.slice A v.ls.length c0,.slice A' v.ms.length c0'] 25)).alloc (.cells #[.int .i64 p.kd,.int .i64 p.nm,.string ⟨p.tx.toArray⟩,.slice C p.ls.length f,.slice C' p.ms.length f'] 25)) (w.heap.size+1) #[.int .i64 p.kd,.int .i64 p.nm,.string ⟨p.tx.toArray⟩,.slice C p.ls.length f,.slice C' p.ms.length f'] 25:=boxz (Blk.made (w.alloc _) _ _)
  have hf0:Fr w ((w.alloc (.cells #[.int .i64 v.kd,.int .i64 v.nm,.string ⟨v.tx.toArray⟩,.slice A v.ls.length c0,.slice A' v.ms.length c0'] 25)).alloc (.cells #[.int .i64 p.kd,.int .i64 p.nm,.string ⟨p.tx.toArray⟩,.slice C p.ls.length f,.slice C' p.ms.length f'] 25)):=((Fr.refl w).alloc _).alloc _
  generalize ((w.alloc (.cells #[.int .i64 v.kd,.int .i64 v.nm,.string ⟨v.tx.toArray⟩,.slice A v.ls.length c0,.slice A' v.ms.length c0'] 25)).alloc (.cells #[.int .i64 p.kd,.int .i64 p.nm,.string ⟨p.tx.toArray⟩,.slice C p.ls.length f,.slice C' p.ms.length f'] 25))=W0 at hb1 hb2 hf0 ⊢
  generalize w.heap.size+1=X2 at hb2 ⊢
  obtain ⟨X1,hX1⟩:∃ X,w.heap.size=X:=⟨_,rfl⟩
  rw [hX1] at hb1 ⊢
  clear hX1
  have HB1:=Lib.hid hb1
  have HB2:=Lib.hid hb2
  have HF0:=Lib.hid hf0
  clear hb1 hb2 hf0
  go_wp2_with (first
   | (go_at_call 9;have hq:=HF4.out;refine (HAW.out _ (HF0.out.trans hq)).mono ?_;rintro e w9 ⟨rfl,hf⟩;have HF9:=Lib.hid ((HF0.out.trans hq).trans hf);clear hf hq)
   | (go_at_call 16;have hq:=HF3.out;refine (HC2.out _ (HF0.out.trans hq)).mono ?_;rintro e w4 ⟨rfl,hf⟩;have HF4:=Lib.hid (hq.trans hf);clear hf hq)
   | (go_at_call 16;have hq:=HF2.out;refine (HC1.out _ (HF0.out.trans hq)).mono ?_;rintro e w3 ⟨rfl,hf⟩;obtain ⟨⟨r0,r1,r2,r3,r4⟩,_⟩:=box5 (HB2.out.keep (hq.trans hf));have HF3:=Lib.hid (hq.trans hf);clear hf hq)
   | (go_at_call 9;have hq:=HF2.out;refine (HAW.out _ (HF0.out.trans hq)).mono ?_;rintro e w9 ⟨rfl,hf⟩;have HF9:=Lib.hid ((HF0.out.trans hq).trans hf);clear hf hq)
   | (go_at_call 10;have hq:=HF1.out;refine (HFW.out _ (HF0.out.trans hq)).mono ?_;rintro e w2 ⟨⟨b,rfl⟩,hf⟩;obtain ⟨⟨q0,q1,q2,q3,q4⟩,_⟩:=box5 (HB1.out.keep (hq.trans hf));have HF2:=Lib.hid (hq.trans hf);clear hf hq;cases b)
   | (go_at_call 9;refine (HAW.out _ HF0.out).mono ?_;rintro e w1 ⟨rfl,hf⟩;obtain ⟨⟨y0,y1,y2,y3,y4⟩,_⟩:=box5 (HB1.out.keep hf);obtain ⟨⟨z0,z1,z2,z3,z4⟩,_⟩:=box5 (HB2.out.keep hf);have HF1:=Lib.hid hf;clear hf))
  all_goals go_ret
  all_goals exact ⟨rfl,HF9.out⟩

 subst h1
 subst h2
 have hlv:=JV.okw_len v (JV.chk_ok v 1 0 (by rw [hc1])).1
 have hlp:=JV.okw_len p (JV.chk_ok p 1 0 (by rw [hc2])).1
 obtain ⟨TV,hTV⟩:∃ TV,JV.wrt v=TV:=⟨_,rfl⟩
 obtain ⟨TP,hTP⟩:∃ TP,JV.wrt p=TP:=⟨_,rfl⟩
 have HTV:Hid (∀ W,Fr w W→Calls Tryz.prog 19 #[.agg #[.int .i64 v.kd,.int .i64 v.nm,.string ⟨v.tx.toArray⟩,.slice A v.ls.length c0,.slice A' v.ms.length c0']] W fun e w'=>e=.returned (.tuple #[.string ⟨TV.toArray⟩,.int .i64 0])∧Fr W w'):=Lib.hid (fun W hW=>text_is v A c0 A' c0' W 0 q1 TV (hkv W hW) hc1 (by rw [if_pos rfl];exact hTV.symm) (by rw [← hTV];omega))
 have HTP:Hid (∀ W,Fr w W→Calls Tryz.prog 19 #[.agg #[.int .i64 p.kd,.int .i64 p.nm,.string ⟨p.tx.toArray⟩,.slice C p.ls.length f,.slice C' p.ms.length f']] W fun e w'=>e=.returned (.tuple #[.string ⟨TP.toArray⟩,.int .i64 0])∧Fr W w'):=Lib.hid (fun W hW=>text_is p C f C' f' W 0 q2 TP (hkp W hW) hc2 (by rw [if_pos rfl];exact hTP.symm) (by rw [← hTP];omega))
 have HAP1:Hid (∀ W,Fr w W→Calls Tryz.prog 11 #[.agg #[.int .i64 v.kd,.int .i64 v.nm,.string ⟨v.tx.toArray⟩,.slice A v.ls.length c0,.slice A' v.ms.length c0'],.agg #[.int .i64 p.kd,.int .i64 p.nm,.string ⟨p.tx.toArray⟩,.slice C p.ls.length f,.slice C' p.ms.length f']] W (ApS W (Pc.apply v p))):=Lib.hid (fun W hW=>papplyS_g v p A c0 A' c0' C f C' f' W (hkv W hW) (hkp W hW) (fun x hx=>by have:=(Pc.bulk_mem hx).1;omega) (fun l hc=>Pc.likes hc hbp) (hM.keep hW) (fun l hc hf k=>by
  have h1:=Pc.fits_nv hc hf k
  omega))
 have hap:∃ r,Pc.apply v p=r:=⟨_,rfl⟩
 obtain ⟨r,hr⟩:=hap
 rw [hr] at HAP1
 clear hv hp hb hbp hT hM n1 n2 hkv hkp hc1 hc2 hlv hlp hTV hTP hr
 rw [HA.out,HAP.out]
 cases r with
 | none=>
  go_enter Tryz.func6,Tryz.ntmps6
  go_upto_region 1 with fail
  have hb1:Blk ((w.alloc (.cells #[.int .i64 v.kd,.int .i64 v.nm,.string ⟨v.tx.toArray⟩,.slice A v.ls.length c0,.slice A' v.ms.length c0'] 25)).alloc (.cells #[.int .i64 p.kd,.int .i64 p.nm,.string ⟨p.tx.toArray⟩,.slice C p.ls.length f,.slice C' p.ms.length f'] 25)) w.heap.size #[.int .i64 v.kd,.int .i64 v.nm,.string ⟨v.tx.toArray⟩,.slice A v.ls.length c0,.slice A' v.ms.length c0'] 25:=(Blk.made w _ _).keep ((Fr.refl _).alloc _)
  have hb2:Blk ((w.alloc (.cells #[.int .i64 v.kd,.int .i64 v.nm,.string ⟨v.tx.toArray⟩,.slice A v.ls.length c0,.slice A' v.ms.length c0'] 25)).alloc (.cells #[.int .i64 p.kd,.int .i64 p.nm,.string ⟨p.tx.toArray⟩,.slice C p.ls.length f,.slice C' p.ms.length f'] 25)) (w.heap.size+1) #[.int .i64 p.kd,.int .i64 p.nm,.string ⟨p.tx.toArray⟩,.slice C p.ls.length f,.slice C' p.ms.length f'] 25:=boxz (Blk.made (w.alloc _) _ _)
  have hf0:Fr w ((w.alloc (.cells #[.int .i64 v.kd,.int .i64 v.nm,.string ⟨v.tx.toArray⟩,.slice A v.ls.length c0,.slice A' v.ms.length c0'] 25)).alloc (.cells #[.int .i64 p.kd,.int .i64 p.nm,.string ⟨p.tx.toArray⟩,.slice C p.ls.length f,.slice C' p.ms.length f'] 25)):=((Fr.refl w).alloc _).alloc _
  generalize ((w.alloc (.cells #[.int .i64 v.kd,.int .i64 v.nm,.string ⟨v.tx.toArray⟩,.slice A v.ls.length c0,.slice A' v.ms.length c0'] 25)).alloc (.cells #[.int .i64 p.kd,.int .i64 p.nm,.string ⟨p.tx.toArray⟩,.slice C p.ls.length f,.slice C' p.ms.length f'] 25))=W0 at hb1 hb2 hf0 ⊢
  generalize w.heap.size+1=X2 at hb2 ⊢
  obtain ⟨X1,hX1⟩:∃ X,w.heap.size=X:=⟨_,rfl⟩
  rw [hX1] at hb1 ⊢
  clear hX1
  have HB1:=Lib.hid hb1
  have HB2:=Lib.hid hb2
  have HF0:=Lib.hid hf0
  clear hb1 hb2 hf0
  go_upto_region 3 with (first
   | (go_at_call 16;have hq:=HF3.out;refine (HC2.out _ (HF0.out.trans hq)).mono ?_;rintro e w4 ⟨rfl,hf⟩;have HF4:=Lib.hid (hq.trans hf);clear hf hq)
   | (go_at_call 16;have hq:=HF2.out;refine (HC1.out _ (HF0.out.trans hq)).mono ?_;rintro e w3 ⟨rfl,hf⟩;obtain ⟨⟨r0,r1,r2,r3,r4⟩,_⟩:=box5 (HB2.out.keep (hq.trans hf));have HF3:=Lib.hid (hq.trans hf);clear hf hq)
   | (go_at_call 10;have hq:=HF1.out;refine (HFW.out _ (HF0.out.trans hq)).mono ?_;rintro e w2 ⟨⟨b,rfl⟩,hf⟩;obtain ⟨⟨q0,q1,q2,q3,q4⟩,_⟩:=box5 (HB1.out.keep (hq.trans hf));have HF2:=Lib.hid (hq.trans hf);clear hf hq;cases b)
   | (go_at_call 9;refine (HAW.out _ HF0.out).mono ?_;rintro e w1 ⟨rfl,hf⟩;obtain ⟨⟨y0,y1,y2,y3,y4⟩,_⟩:=box5 (HB1.out.keep hf);obtain ⟨⟨z0,z1,z2,z3,z4⟩,_⟩:=box5 (HB2.out.keep hf);have HF1:=Lib.hid hf;clear hf))
  ·go_wp2_with (go_at_call 9;have hq:=HF2.out;refine (HAW.out _ (HF0.out.trans hq)).mono ?_;rintro e w9 ⟨rfl,hf⟩;have HF9:=Lib.hid ((HF0.out.trans hq).trans hf);clear hf hq)
   go_ret
   exact ⟨rfl,HF9.out⟩
  clear y0 y1 y2 y3 y4 z0 z1 z2 z3 z4 q0 q1 q2 q3 q4 r0 r1 r2 r3 r4
  obtain ⟨⟨y0,y1,y2,y3,y4⟩,_⟩:=box5 (HB1.out.keep HF4.out)
  go_upto_region 4 with (go_at_call 19;refine (HTV.out _ (HF0.out.trans HF4.out)).mono ?_;rintro e w5 ⟨rfl,hf⟩;have HF5:=Lib.hid (HF4.out.trans hf);clear hf)
  clear y0 y1 y2 y3 y4
  obtain ⟨⟨z0,z1,z2,z3,z4⟩,_⟩:=box5 (HB2.out.keep HF5.out)
  go_upto_region 5 with (go_at_call 19;refine (HTP.out _ (HF0.out.trans HF5.out)).mono ?_;rintro e w6 ⟨rfl,hf⟩;have HF6:=Lib.hid (HF5.out.trans hf);clear hf)
  clear z0 z1 z2 z3 z4
  obtain ⟨⟨y0,y1,y2,y3,y4⟩,_⟩:=box5 (HB1.out.keep HF6.out)
  obtain ⟨⟨z0,z1,z2,z3,z4⟩,_⟩:=box5 (HB2.out.keep HF6.out)
  go_upto_region 6 with (go_at_call 11;refine (HAP1.out _ (HF0.out.trans HF6.out)).mono ?_;intro e w7 hh;obtain ⟨rfl,hf⟩:=hh;have HF7:=Lib.hid hf;clear hf)
  have hb9:=Blk.made w7 #[.int .i64 0,.int .i64 0,.string ⟨#[]⟩,.slice none 0 0,.slice none 0 0] 25
  have hk9:Fr w7 (w7.alloc (.cells #[.int .i64 0,.int .i64 0,.string ⟨#[]⟩,.slice none 0 0,.slice none 0 0] 25)):=(Fr.refl w7).alloc _
  generalize (w7.alloc (.cells #[.int .i64 0,.int .i64 0,.string ⟨#[]⟩,.slice none 0 0,.slice none 0 0] 25))=W9 at hb9 hk9 ⊢
  generalize w7.heap.size=X9 at hb9 ⊢
  have HF09:Hid (Fr W0 W9):=Lib.hid ((HF6.out.trans HF7.out).trans hk9)
  have HB9:=Lib.hid hb9
  obtain ⟨⟨x0,x1,x2,x3,x4⟩,_⟩:=box5 hb9
  clear hb9 hk9 y0 y1 y2 y3 y4 z0 z1 z2 z3 z4
  go_wp2_with fail
  clear x0 x1 x2 x3 x4
  go_loopw [11] (fun j wr=>j=.int .i64 0∧Hid (Fr W9 wr)) (fun _ _=>0)
  case atStart=>exact ⟨rfl,Lib.hid (Fr.refl _)⟩
  case round=>
   obtain ⟨rfl,hF⟩:=hrel
   obtain ⟨⟨x0,x1,x2,x3,x4⟩,_⟩:=box5 (HB9.out.keep hF.out)
   have HE:=Lib.hid (HF09.out.trans hF.out)
   go_upto_region 18 with fail
   clear x0 x1 x2 x3 x4
   obtain ⟨⟨y0,y1,y2,y3,y4⟩,_⟩:=box5 (HB1.out.keep HE.out)
   go_upto_region 19 with (go_at_call 19;refine (HTV.out _ (HF0.out.trans HE.out)).mono ?_;rintro e w18 ⟨rfl,hf⟩;have HE2:=Lib.hid (HE.out.trans hf);clear hf)
   clear y0 y1 y2 y3 y4
   obtain ⟨⟨z0,z1,z2,z3,z4⟩,_⟩:=box5 (HB2.out.keep HE2.out)
   go_wp2_with (go_at_call 19;refine (HTP.out _ (HF0.out.trans HE2.out)).mono ?_;rintro e w19 ⟨rfl,hf⟩;have HE3:=Lib.hid (HE2.out.trans hf);clear hf)
   go_ret
   exact ⟨rfl,HF0.out.trans HE3.out⟩
 | some x=>
  go_enter Tryz.func6,Tryz.ntmps6
  go_upto_region 1 with fail
  have hb1:Blk ((w.alloc (.cells #[.int .i64 v.kd,.int .i64 v.nm,.string ⟨v.tx.toArray⟩,.slice A v.ls.length c0,.slice A' v.ms.length c0'] 25)).alloc (.cells #[.int .i64 p.kd,.int .i64 p.nm,.string ⟨p.tx.toArray⟩,.slice C p.ls.length f,.slice C' p.ms.length f'] 25)) w.heap.size #[.int .i64 v.kd,.int .i64 v.nm,.string ⟨v.tx.toArray⟩,.slice A v.ls.length c0,.slice A' v.ms.length c0'] 25:=(Blk.made w _ _).keep ((Fr.refl _).alloc _)
  have hb2:Blk ((w.alloc (.cells #[.int .i64 v.kd,.int .i64 v.nm,.string ⟨v.tx.toArray⟩,.slice A v.ls.length c0,.slice A' v.ms.length c0'] 25)).alloc (.cells #[.int .i64 p.kd,.int .i64 p.nm,.string ⟨p.tx.toArray⟩,.slice C p.ls.length f,.slice C' p.ms.length f'] 25)) (w.heap.size+1) #[.int .i64 p.kd,.int .i64 p.nm,.string ⟨p.tx.toArray⟩,.slice C p.ls.length f,.slice C' p.ms.length f'] 25:=boxz (Blk.made (w.alloc _) _ _)
  have hf0:Fr w ((w.alloc (.cells #[.int .i64 v.kd,.int .i64 v.nm,.string ⟨v.tx.toArray⟩,.slice A v.ls.length c0,.slice A' v.ms.length c0'] 25)).alloc (.cells #[.int .i64 p.kd,.int .i64 p.nm,.string ⟨p.tx.toArray⟩,.slice C p.ls.length f,.slice C' p.ms.length f'] 25)):=((Fr.refl w).alloc _).alloc _
  generalize ((w.alloc (.cells #[.int .i64 v.kd,.int .i64 v.nm,.string ⟨v.tx.toArray⟩,.slice A v.ls.length c0,.slice A' v.ms.length c0'] 25)).alloc (.cells #[.int .i64 p.kd,.int .i64 p.nm,.string ⟨p.tx.toArray⟩,.slice C p.ls.length f,.slice C' p.ms.length f'] 25))=W0 at hb1 hb2 hf0 ⊢
  generalize w.heap.size+1=X2 at hb2 ⊢
  obtain ⟨X1,hX1⟩:∃ X,w.heap.size=X:=⟨_,rfl⟩
  rw [hX1] at hb1 ⊢
  clear hX1
  have HB1:=Lib.hid hb1
  have HB2:=Lib.hid hb2
  have HF0:=Lib.hid hf0
  clear hb1 hb2 hf0
  go_upto_region 3 with (first
   | (go_at_call 16;have hq:=HF3.out;refine (HC2.out _ (HF0.out.trans hq)).mono ?_;rintro e w4 ⟨rfl,hf⟩;have HF4:=Lib.hid (hq.trans hf);clear hf hq)
   | (go_at_call 16;have hq:=HF2.out;refine (HC1.out _ (HF0.out.trans hq)).mono ?_;rintro e w3 ⟨rfl,hf⟩;obtain ⟨⟨r0,r1,r2,r3,r4⟩,_⟩:=box5 (HB2.out.keep (hq.trans hf));have HF3:=Lib.hid (hq.trans hf);clear hf hq)
   | (go_at_call 10;have hq:=HF1.out;refine (HFW.out _ (HF0.out.trans hq)).mono ?_;rintro e w2 ⟨⟨b,rfl⟩,hf⟩;obtain ⟨⟨q0,q1,q2,q3,q4⟩,_⟩:=box5 (HB1.out.keep (hq.trans hf));have HF2:=Lib.hid (hq.trans hf);clear hf hq;cases b)
   | (go_at_call 9;refine (HAW.out _ HF0.out).mono ?_;rintro e w1 ⟨rfl,hf⟩;obtain ⟨⟨y0,y1,y2,y3,y4⟩,_⟩:=box5 (HB1.out.keep hf);obtain ⟨⟨z0,z1,z2,z3,z4⟩,_⟩:=box5 (HB2.out.keep hf);have HF1:=Lib.hid hf;clear hf))
  ·go_wp2_with (go_at_call 9;have hq:=HF2.out;refine (HAW.out _ (HF0.out.trans hq)).mono ?_;rintro e w9 ⟨rfl,hf⟩;have HF9:=Lib.hid ((HF0.out.trans hq).trans hf);clear hf hq)
   go_ret
   exact ⟨rfl,HF9.out⟩
  clear y0 y1 y2 y3 y4 z0 z1 z2 z3 z4 q0 q1 q2 q3 q4 r0 r1 r2 r3 r4
  obtain ⟨⟨y0,y1,y2,y3,y4⟩,_⟩:=box5 (HB1.out.keep HF4.out)
  go_upto_region 4 with (go_at_call 19;refine (HTV.out _ (HF0.out.trans HF4.out)).mono ?_;rintro e w5 ⟨rfl,hf⟩;have HF5:=Lib.hid (HF4.out.trans hf);clear hf)
  clear y0 y1 y2 y3 y4
  obtain ⟨⟨z0,z1,z2,z3,z4⟩,_⟩:=box5 (HB2.out.keep HF5.out)
  go_upto_region 5 with (go_at_call 19;refine (HTP.out _ (HF0.out.trans HF5.out)).mono ?_;rintro e w6 ⟨rfl,hf⟩;have HF6:=Lib.hid (HF5.out.trans hf);clear hf)
  clear z0 z1 z2 z3 z4
  obtain ⟨⟨y0,y1,y2,y3,y4⟩,_⟩:=box5 (HB1.out.keep HF6.out)
  obtain ⟨⟨z0,z1,z2,z3,z4⟩,_⟩:=box5 (HB2.out.keep HF6.out)
  go_upto_region 6 with (go_at_call 11;refine (HAP1.out _ (HF0.out.trans HF6.out)).mono ?_;intro e w7 hh;obtain ⟨⟨D,d,D',d',rfl,hi,ho⟩,hf⟩:=hh;have HI7:=Lib.hid hi;have HO7:=Lib.hid ho;have HF7:=Lib.hid hf;clear hi ho hf)
  obtain ⟨M,hM⟩:∃ M,x.ms.length=M:=⟨_,rfl⟩
  rcases Nat.eq_zero_or_pos M with h0 | h0
  ·rw [hM,h0]
   clear hM h0 HI7 HO7
   have hb9:=Blk.made w7 #[.int .i64 x.kd,.int .i64 x.nm,.string ⟨x.tx.toArray⟩,.slice D x.ls.length d,.slice D' 0 d'] 25
   have hk9:Fr w7 (w7.alloc (.cells #[.int .i64 x.kd,.int .i64 x.nm,.string ⟨x.tx.toArray⟩,.slice D x.ls.length d,.slice D' 0 d'] 25)):=(Fr.refl w7).alloc _
   generalize (w7.alloc (.cells #[.int .i64 x.kd,.int .i64 x.nm,.string ⟨x.tx.toArray⟩,.slice D x.ls.length d,.slice D' 0 d'] 25))=W9 at hb9 hk9 ⊢
   generalize w7.heap.size=X9 at hb9 ⊢
   have HF09:Hid (Fr W0 W9):=Lib.hid ((HF6.out.trans HF7.out).trans hk9)
   have HB9:=Lib.hid hb9
   obtain ⟨⟨x0,x1,x2,x3,x4⟩,_⟩:=box5 hb9
   clear hb9 hk9 y0 y1 y2 y3 y4 z0 z1 z2 z3 z4
   go_wp2_with fail
   clear x0 x1 x2 x3 x4
   go_loopw [11] (fun j wr=>j=.int .i64 0∧Hid (Fr W9 wr)) (fun _ _=>0)
   case atStart=>exact ⟨rfl,Lib.hid (Fr.refl _)⟩
   case round=>
    obtain ⟨rfl,hF⟩:=hrel
    obtain ⟨⟨x0,x1,x2,x3,x4⟩,_⟩:=box5 (HB9.out.keep hF.out)
    have HE:=Lib.hid (HF09.out.trans hF.out)
    go_upto_region 18 with fail
    clear x0 x1 x2 x3 x4
    obtain ⟨⟨y0,y1,y2,y3,y4⟩,_⟩:=box5 (HB1.out.keep HE.out)
    go_upto_region 19 with (go_at_call 19;refine (HTV.out _ (HF0.out.trans HE.out)).mono ?_;rintro e w18 ⟨rfl,hf⟩;have HE2:=Lib.hid (HE.out.trans hf);clear hf)
    clear y0 y1 y2 y3 y4
    obtain ⟨⟨z0,z1,z2,z3,z4⟩,_⟩:=box5 (HB2.out.keep HE2.out)
    go_wp2_with (go_at_call 19;refine (HTP.out _ (HF0.out.trans HE2.out)).mono ?_;rintro e w19 ⟨rfl,hf⟩;have HE3:=Lib.hid (HE2.out.trans hf);clear hf)
    go_ret
    exact ⟨rfl,HF0.out.trans HE3.out⟩
  ·obtain ⟨g,rfl,hg1,hq⟩:=HO7.out (by omega)
   have hxf:=HI7.out.facts
   rw [hM]
   have hq0:=hq
   obtain ⟨WA,hWA⟩:∃ W,W=w6:=⟨_,rfl⟩
   rw [← hWA] at hg1 hq hq0 HF7 HF6
   have hb9:=Blk.made w7 #[.int .i64 x.kd,.int .i64 x.nm,.string ⟨x.tx.toArray⟩,.slice D x.ls.length d,.slice (some ⟨g,0,none⟩) M d'] 25
   have hk9:Fr w7 (w7.alloc (.cells #[.int .i64 x.kd,.int .i64 x.nm,.string ⟨x.tx.toArray⟩,.slice D x.ls.length d,.slice (some ⟨g,0,none⟩) M d'] 25)):=(Fr.refl w7).alloc _
   have hX9:∀ b,SB WA.heap.size w7 b→b≠w7.heap.size:=fun b hb e=>by have:=hb.1.2;omega
   have hgl:g<w7.heap.size:=by obtain ⟨cur,hcur,_⟩:=hq.blk;exact hcur.lt
   obtain ⟨S,hS⟩:∃ S:Nat→Prop,S=fun b=>SB WA.heap.size w7 b∧b≠g:=⟨_,rfl⟩
   rw [← hS] at hq
   have hq4:=hq.keep hk9 (fun b hb=>by rw [hS] at hb;exact hb.1.1.2) (fun b hb=>hb.elim)
   have hsf:∀ b,S b → ∃ cur0 T0 cur T1,Blk (w7.alloc (.cells #[.int .i64 x.kd,.int .i64 x.nm,.string ⟨x.tx.toArray⟩,.slice D x.ls.length d,.slice (some ⟨g,0,none⟩) M d'] 25)) b cur0 T0∧Blk (w7.alloc (.cells #[.int .i64 x.kd,.int .i64 x.nm,.string ⟨x.tx.toArray⟩,.slice D x.ls.length d,.slice (some ⟨g,0,none⟩) M d'] 25)) b cur T1∧cur0.size≤cur.size:=fun b hb=>by
    rw [hS] at hb
    obtain ⟨cur,T1,hcur⟩:=hb.1.2
    exact ⟨cur,T1,cur,T1,hcur.keep hk9,hcur.keep hk9,Nat.le_refl _⟩
   have HSW:Hid (∀ b,S b→WA.heap.size≤b):=Lib.hid (fun b hb=>by rw [hS] at hb;exact hb.1.1.1)
   have HSg:Hid (∀ b,S b→b≠g):=Lib.hid (fun b hb=>by rw [hS] at hb;exact hb.2)
   have hSX:∀ b,S b→b≠w7.heap.size:=fun b hb=>by rw [hS] at hb;exact hX9 b hb.1
   generalize (w7.alloc (.cells #[.int .i64 x.kd,.int .i64 x.nm,.string ⟨x.tx.toArray⟩,.slice D x.ls.length d,.slice (some ⟨g,0,none⟩) M d'] 25))=W4 at hb9 hk9 hq4 hsf ⊢
   have hgX:g≠w7.heap.size:=by omega
   generalize w7.heap.size=X9 at hb9 hgX hSX ⊢
   have HSX:=Lib.hid hSX
   have HGX:=Lib.hid hgX
   have HG1:Hid (WA.heap.size≤g):=Lib.hid hg1
   have HFA4:Hid (Fr WA W4):=Lib.hid (HF7.out.trans hk9)
   have HKP:Hid (KpI X9 g W4 W4 x.ms S #[.int .i64 x.kd,.int .i64 x.nm,.string ⟨x.tx.toArray⟩,.slice D x.ls.length d,.slice (some ⟨g,0,none⟩) M d']):=Lib.hid ⟨hb9,hq4.blk,fun _ _ _ _=>rfl,hsf⟩
   have HCQ4:=Lib.hid hq4
   have HMM:=Lib.hid hM
   have hM63:(M:Int)≤140737488355328:=by have:=hxf.2.2.2.2;omega
   obtain ⟨⟨x0,x1,x2,x3,x4⟩,_⟩:=box5 hb9
   clear hb9 hk9 hq hq0 hq4 hsf hSX hgX hg1 hM hX9 hgl hS hWA hxf HI7 HO7 y0 y1 y2 y3 y4 z0 z1 z2 z3 z4
   go_wp2_with fail
   clear x0 x1 x2 x3 x4
   go_loopw [11] (fun j wr=>∃ (i:Nat),i≤M∧j=.int .i64 i∧Hid (Fr WA wr)∧Hid (KpI X9 g W4 wr x.ms S #[.int .i64 x.kd,.int .i64 x.nm,.string ⟨x.tx.toArray⟩,.slice D x.ls.length d,.slice (some ⟨g,0,none⟩) M d'])) (fun j _=>M - (intOf j).toNat)
   case atStart=>exact ⟨0,by omega,rfl,HFA4,HKP⟩
   case round=>
    obtain ⟨i,hi,rfl,hF,hK⟩:=hrel
    have x4:=hK.out.box.cell 4
    by_cases hlt:i<M
    ·have hlt':(i:Int)<(M:Int):=by omega
     have HIM:Hid (i<x.ms.length):=Lib.hid (by rw [HMM.out];exact hlt)
     obtain ⟨C9,f9,C9',f9',_,_,⟨_,_,_,v3,v4⟩,hin⟩:=HCQ4.out.at_ i HIM.out
     rw [if_pos HIM.out] at hin
     obtain ⟨u,hu⟩:∃ u,(x.ms[i]'HIM.out).2=u:=⟨_,rfl⟩
     rw [hu] at v3 v4 hin
     obtain ⟨_,_,_,hl63,hm63⟩:=hin.facts
     obtain ⟨E9,e9,E9',e9',hvA,hls,hms⟩:=hin.open_
     have hE:C9=E9∧C9'=E9':=by
      simp only [vA,Value.agg.injEq] at hvA
      have h3:=congrArg (fun q:Array Value=>q.getD 3 undef) hvA
      have h4:=congrArg (fun q:Array Value=>q.getD 4 undef) hvA
      simp at h3 h4
      exact ⟨h3.1,h4.1⟩
     obtain ⟨rfl,rfl⟩:=hE
     have HV3:=Lib.hid v3
     have HV4:=Lib.hid v4
     have HMSu:Hid (∀ k,k<u.ms.length → ∃ b o,C9'=some ⟨b,o,none⟩∧S b ∧ ∃ v,W4.cell? ⟨b,o+k*6,none⟩=some v):=Lib.hid (fun k hk=>by
      obtain ⟨b,o,_,_,_,_,e,hb,_,h0,_⟩:=hms k hk
      exact ⟨b,o,e,hb,_,h0⟩)
     have HLSu:Hid (∀ k,k<u.ls.length → ∃ b o,C9=some ⟨b,o,none⟩∧S b ∧ ∃ v,W4.cell? ⟨b,o+k*5+4,none⟩=some v):=Lib.hid (fun k hk=>by
      obtain ⟨b,o,_,_,_,_,e,hb,h0,_⟩:=hls k hk
      exact ⟨b,o,e,hb,_,h0.2.2.2.2⟩)
     have hl63':(u.ls.length:Int)≤140737488355328:=by omega
     have hm63':(u.ms.length:Int)≤140737488355328:=by omega
     have hFo:=hF
     have hKo:=hK
     clear v3 v4 hin hvA hls hms hl63 hm63 hu
     go_wp2_with fail
     clear x4 hF hK
     go_loopw [12] (fun j wr=>∃ (k:Nat),k≤u.ms.length∧j=.int .i64 k∧Hid (Fr WA wr)∧Hid (KpI X9 g W4 wr x.ms S #[.int .i64 x.kd,.int .i64 x.nm,.string ⟨x.tx.toArray⟩,.slice D x.ls.length d,.slice (some ⟨g,0,none⟩) M d'])) (fun j _=>u.ms.length - (intOf j).toNat)
     case atStart=>exact ⟨0,by omega,rfl,hFo,hKo⟩
     case round=>
      obtain ⟨k,hk,rfl,hF2,hK2⟩:=hrel
      have x4:=hK2.out.box.cell 4
      have s5:wr.cell? ⟨g,i*6+1+4,none⟩=some (.slice C9' u.ms.length f9'):=(hK2.out.vals i HIM.out 4 (by omega)).trans HV4.out
      by_cases hk2:k<u.ms.length
      ·have hk2':(k:Int)<(u.ms.length:Int):=by omega
       obtain ⟨b,o,rfl,hSb,hex⟩:=HMSu.out k hk2
       obtain ⟨cur,⟨T1,hcur⟩,hsz⟩:=hK2.out.room hSb hex
       have hbW:WA.heap.size≤b:=HSW.out b hSb
       have e0:∃ v,wr.cell? ⟨b,o+k*6,none⟩=some v:=⟨_,(hcur.cell _).trans (Array.getElem?_eq_getElem (by omega))⟩
       obtain ⟨m0,hm0⟩:=e0
       have hf0:=hcur.free (o+k*6)
       clear hex
       go_wp2_with fail
       exact ⟨⟨k+1,by omega,by go_num,Lib.hid (hF2.out.setCell (p:=⟨b,o+k*6,none⟩) hbW (.string ⟨#[115,112,111,105,108,116]⟩)),Lib.hid (hK2.out.put hSb HSX.out HSg.out (o+k*6) (.string ⟨#[115,112,111,105,108,116]⟩))⟩,by simp [intOf];omega⟩
      ·obtain rfl:k=u.ms.length:=by omega
       have hF3:=hF2
       have hK3:=hK2
       go_wp2_with fail
       clear s5 x4 hF2 hK2
       go_loopw [13] (fun j wr=>∃ (k:Nat),k≤u.ls.length∧j=.int .i64 k∧Hid (Fr WA wr)∧Hid (KpI X9 g W4 wr x.ms S #[.int .i64 x.kd,.int .i64 x.nm,.string ⟨x.tx.toArray⟩,.slice D x.ls.length d,.slice (some ⟨g,0,none⟩) M d'])) (fun j _=>u.ls.length - (intOf j).toNat)
       case atStart=>exact ⟨0,by omega,rfl,hF3,hK3⟩
       case round=>
        obtain ⟨k,hk,rfl,hF2,hK2⟩:=hrel
        have x4:=hK2.out.box.cell 4
        have s5:wr.cell? ⟨g,i*6+1+3,none⟩=some (.slice C9 u.ls.length f9):=(hK2.out.vals i HIM.out 3 (by omega)).trans HV3.out
        by_cases hk2:k<u.ls.length
        ·have hk2':(k:Int)<(u.ls.length:Int):=by omega
         obtain ⟨b,o,rfl,hSb,hex⟩:=HLSu.out k hk2
         obtain ⟨cur,⟨T1,hcur⟩,hsz⟩:=hK2.out.room hSb hex
         have hbW:WA.heap.size≤b:=HSW.out b hSb
         have e0:∃ v,wr.cell? ⟨b,o+k*5,none⟩=some v:=⟨_,(hcur.cell _).trans (Array.getElem?_eq_getElem (by omega))⟩
         obtain ⟨m0,hm0⟩:=e0
         have hf0:=hcur.free (o+k*5)
         have e1:∃ v,wr.cell? ⟨b,o+k*5+1,none⟩=some v:=⟨_,(hcur.cell _).trans (Array.getElem?_eq_getElem (by omega))⟩
         obtain ⟨m1,hm1⟩:=e1
         have hf1:=hcur.free (o+k*5+1)
         have e2:∃ v,wr.cell? ⟨b,o+k*5+2,none⟩=some v:=⟨_,(hcur.cell _).trans (Array.getElem?_eq_getElem (by omega))⟩
         obtain ⟨m2,hm2⟩:=e2
         have hf2:=hcur.free (o+k*5+2)
         have e3:∃ v,wr.cell? ⟨b,o+k*5+3,none⟩=some v:=⟨_,(hcur.cell _).trans (Array.getElem?_eq_getElem (by omega))⟩
         obtain ⟨m3,hm3⟩:=e3
         have hf3:=hcur.free (o+k*5+3)
         have e4:∃ v,wr.cell? ⟨b,o+k*5+4,none⟩=some v:=⟨_,(hcur.cell _).trans (Array.getElem?_eq_getElem (by omega))⟩
         obtain ⟨m4,hm4⟩:=e4
         have hf4:=hcur.free (o+k*5+4)
         clear hex
         go_wp2_with fail
         exact ⟨⟨k+1,by omega,by go_num,Lib.hid (((((hF2.out.setCell (p:=⟨b,o+k*5,none⟩) hbW (.int .i64 0)).setCell (p:=⟨b,o+k*5+1,none⟩) hbW (.int .i64 0)).setCell (p:=⟨b,o+k*5+2,none⟩) hbW (.string ⟨#[]⟩)).setCell (p:=⟨b,o+k*5+3,none⟩) hbW (.slice none 0 0)).setCell (p:=⟨b,o+k*5+4,none⟩) hbW (.slice none 0 0)),Lib.hid (((((hK2.out.put hSb HSX.out HSg.out (o+k*5) (.int .i64 0)).put hSb HSX.out HSg.out (o+k*5+1) (.int .i64 0)).put hSb HSX.out HSg.out (o+k*5+2) (.string ⟨#[]⟩)).put hSb HSX.out HSg.out (o+k*5+3) (.slice none 0 0)).put hSb HSX.out HSg.out (o+k*5+4) (.slice none 0 0))⟩,by simp [intOf];omega⟩
        ·obtain rfl:k=u.ls.length:=by omega
         have HF3:=hF2
         have HK3:=hK2
         have xg:=HG1.out
         obtain ⟨curg,hcg,hszg⟩:=hK2.out.own
         have e0:∃ v,wr.cell? ⟨g,i*6,none⟩=some v:=⟨_,(hcg.cell _).trans (Array.getElem?_eq_getElem (by have:=HIM.out;omega))⟩
         obtain ⟨m0,hm0⟩:=e0
         have hf0:=hcg.free (i*6)
         clear hcg hszg
         go_wp2_with fail
         exact ⟨⟨i+1,by omega,by go_num,Lib.hid (HF3.out.setCell (p:=⟨g,i*6,none⟩) xg (.string ⟨#[115,112,111,105,108,116]⟩)),Lib.hid (HK3.out.name HIM.out HSg.out HGX.out (.string ⟨#[115,112,111,105,108,116]⟩))⟩,by simp [intOf];omega⟩
    ·obtain rfl:i=M:=by omega
     have HE:Hid (Fr W0 wr):=Lib.hid (HF6.out.trans hF.out)
     go_upto_region 18 with fail
     clear x4
     obtain ⟨⟨y0,y1,y2,y3,y4⟩,_⟩:=box5 (HB1.out.keep HE.out)
     go_upto_region 19 with (go_at_call 19;refine (HTV.out _ (HF0.out.trans HE.out)).mono ?_;rintro e w18 ⟨rfl,hf⟩;have HE2:=Lib.hid (HE.out.trans hf);clear hf)
     clear y0 y1 y2 y3 y4
     obtain ⟨⟨z0,z1,z2,z3,z4⟩,_⟩:=box5 (HB2.out.keep HE2.out)
     go_wp2_with (go_at_call 19;refine (HTP.out _ (HF0.out.trans HE2.out)).mono ?_;rintro e w19 ⟨rfl,hf⟩;have HE3:=Lib.hid (HE2.out.trans hf);clear hf)
     go_ret
     exact ⟨rfl,HF0.out.trans HE3.out⟩
end Go.Proofs.YtlmcfhokfiibkaaGreatDoor
