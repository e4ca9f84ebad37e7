/- Chapter 09: PatchTwice' walk. -/
import Derived.Test.YtlmcfhokfiibkaaGreatDoorPcr
import Derived.Test.YtlmcfhokfiibkaaGreatDoorSameV
namespace Go.Proofs.YtlmcfhokfiibkaaGreatDoor
set_option maxRecDepth 100000
set_option maxHeartbeats 4000000
set_option linter.unusedVariables false
set_option linter.unusedSimpArgs false
open Go.RowKit

theorem papply_x (v p:JV) (A:Option Addr) (c0:Nat) (A':Option Addr) (c0':Nat) (C:Option Addr) (f:Nat) (C':Option Addr) (f':Nat) (w:World) (hv:InV w (Lo w.heap.size) v (vA v A c0 A' c0')) (hp:InV w (Lo w.heap.size) p (vA p C f C' f')) (hn:Rd.nv v+Rd.nv p≤1048576) (hbp:JV.bulk p≤1048576) (hM:MxL w):
  Calls Tryz.prog 11 #[.agg #[.int .i64 v.kd,.int .i64 v.nm,.string ⟨v.tx.toArray⟩,.slice A v.ls.length c0,.slice A' v.ms.length c0'],.agg #[.int .i64 p.kd,.int .i64 p.nm,.string ⟨p.tx.toArray⟩,.slice C p.ls.length f,.slice C' p.ms.length f']] w (ApP w (Pc.apply v p)):=
 papply_is v p A c0 A' c0' C f C' f' w hv hp hbp hM (fun l hc hf k=>by
  have h1:=Pc.fits_nv hc hf k
  omega)
theorem ApP.some_ {w w':World} {x:JV} {e:Ending} (h:ApP w (some x) e w'):(∃ (D1:Option Addr) (g1:Nat) (D1':Option Addr) (g1':Nat),e=.returned (.tuple #[.agg #[.int .i64 x.kd,.int .i64 x.nm,.string ⟨x.tx.toArray⟩,.slice D1 x.ls.length g1,.slice D1' x.ms.length g1'],.int .i64 0])∧InV w' (Lo w'.heap.size) x (vA x D1 g1 D1' g1'))∧Fr w w':=by
 obtain ⟨⟨D1,g1,D1',g1',rfl,hi⟩,hf⟩:=h
 exact ⟨⟨D1,g1,D1',g1',rfl,hi.more (fun b hb=>hb.2)⟩,hf⟩
theorem same_self (x:JV) (D1:Option Addr) (g1:Nat) (D1':Option Addr) (g1':Nat) (D2:Option Addr) (g2:Nat) (D2':Option Addr) (g2':Nat) (W:World) (h1:InV W (Lo W.heap.size) x (vA x D1 g1 D1' g1')) (h2:InV W (Lo W.heap.size) x (vA x D2 g2 D2' g2')):
  Calls Tryz.prog 13 #[.agg #[.int .i64 x.kd,.int .i64 x.nm,.string ⟨x.tx.toArray⟩,.slice D1 x.ls.length g1,.slice D1' x.ms.length g1'],.agg #[.int .i64 x.kd,.int .i64 x.nm,.string ⟨x.tx.toArray⟩,.slice D2 x.ls.length g2,.slice D2' x.ms.length g2']] W fun e w'=>e=.returned (.bool true)∧Fr W w':=
 (same_is x x (vA x D1 g1 D1' g1') (vA x D2 g2 D2' g2')).call true (by simp) rfl rfl h1 h2
theorem ptwice_law (v p:JV) (A:Option Addr) (c0:Nat) (A':Option Addr) (c0':Nat) (C:Option Addr) (f:Nat) (C':Option Addr) (f':Nat) (w:World) (hv:InV w (Lo w.heap.size) v (vA v A c0 A' c0')) (hp:InV w (Lo w.heap.size) p (vA p C f C' f')) (hb:JV.bulk v≤1048576) (hbp:JV.bulk p≤1048576) (hT:LowTabs w) (hM:MxL w):
  Calls Tryz.prog 5 #[vA v A c0 A' c0',vA p C f C' f'] w fun e w'=>e=.returned (.bool true)∧Fr w w':=by

 have HT:=Lib.hid hT
 have HM:=Lib.hid hM
 have HA:Hid (vA v A c0 A' c0'=.agg #[.int .i64 v.kd,.int .i64 v.nm,.string ⟨v.tx.toArray⟩,.slice A v.ls.length c0,.slice A' v.ms.length c0']):=rfl
 have HAP:Hid (vA p C f C' f'=.agg #[.int .i64 p.kd,.int .i64 p.nm,.string ⟨p.tx.toArray⟩,.slice C p.ls.length f,.slice C' p.ms.length f']):=rfl
 have n1:=Pc.nv3 v
 have n2:=Pc.nv3 p
 have hkv:∀ W,Fr w W→InV W (Lo W.heap.size) v (vA v A c0 A' c0'):=fun W hW=>(hv.keep (Nat.le_refl _) hW).lo hW.size
 have hkp:∀ W,Fr w W→InV W (Lo W.heap.size) p (vA p C f C' f'):=fun W hW=>(hp.keep (Nat.le_refl _) hW).lo hW.size
 have HAW:Hid (∀ W,Fr w W→Calls Tryz.prog 9 #[] W fun e w'=>e=.returned (.bool true)∧Fr W w'):=Lib.hid (fun W hW=>awake09 W (HT.out.keep hW) (HM.out.keep hW))
 have HFW:Hid (∀ W,Fr w W→Calls Tryz.prog 10 #[.agg #[.int .i64 v.kd,.int .i64 v.nm,.string ⟨v.tx.toArray⟩,.slice A v.ls.length c0,.slice A' v.ms.length c0'],.agg #[.int .i64 p.kd,.int .i64 p.nm,.string ⟨p.tx.toArray⟩,.slice C p.ls.length f,.slice C' p.ms.length f']] W fun e w'=>(∃ b:Bool,e=.returned (.bool b))∧Fr W w'):=Lib.hid (fun W hW=>few09_is v p A c0 A' c0' C f C' f' W (hkv W hW) (hkp W hW) (by omega) (by omega))
 rcases hc1:JV.chk v 1 0 with ⟨k1,q1⟩
 rcases hc2:JV.chk p 1 0 with ⟨k2,q2⟩
 have HC1:Hid (∀ W,Fr w W→Calls Tryz.prog 16 #[.agg #[.int .i64 v.kd,.int .i64 v.nm,.string ⟨v.tx.toArray⟩,.slice A v.ls.length c0,.slice A' v.ms.length c0']] W fun e w'=>e=.returned (.int .i64 (k1:Nat))∧Fr W w'):=Lib.hid (fun W hW=>ccheck_is v A c0 A' c0' W k1 q1 (hkv W hW) hc1)
 have HC2:Hid (∀ W,Fr w W→Calls Tryz.prog 16 #[.agg #[.int .i64 p.kd,.int .i64 p.nm,.string ⟨p.tx.toArray⟩,.slice C p.ls.length f,.slice C' p.ms.length f']] W fun e w'=>e=.returned (.int .i64 (k2:Nat))∧Fr W w'):=Lib.hid (fun W hW=>ccheck_is p C f C' f' W k2 q2 (hkp W hW) hc2)

 by_cases h1:k1=0
 rotate_left

 ·have e1:((k1:Int) != 0)=true:=by rw [bne_iff_ne];omega
  clear hv hp hb hbp hT hM n1 n2 hkv hkp hc1 hc2
  rw [HA.out,HAP.out]
  go_enter Tryz.func5,Tryz.ntmps5
  go_upto_region 1 with fail
  have hb1:Blk ((w.alloc (.cells #[.int .i64 v.kd,.int .i64 v.nm,.string ⟨v.tx.toArray⟩,.slice A v.ls.length c0,.slice A' v.ms.length c0'] 25)).alloc (.cells #[.int .i64 p.kd,.int .i64 p.nm,.string ⟨p.tx.toArray⟩,.slice C p.ls.length f,.slice C' p.ms.length f'] 25)) w.heap.size #[.int .i64 v.kd,.int .i64 v.nm,.string ⟨v.tx.toArray⟩,.slice A v.ls.length c0,.slice A' v.ms.length c0'] 25:=(Blk.made w _ _).keep ((Fr.refl _).alloc _)
  have hb2:Blk ((w.alloc (.cells #[.int .i64 v.kd,.int .i64 v.nm,.string ⟨v.tx.toArray⟩,.slice A v.ls.length c0,.slice A' v.ms.length c0'] 25)).alloc (.cells #[.int .i64 p.kd,.int .i64 p.nm,.string ⟨p.tx.toArray⟩,.slice C p.ls.length f,.slice C' p.ms.length f'] 25)) (w.heap.size+1) #[.int .i64 p.kd,.int .i64 p.nm,.string ⟨p.tx.toArray⟩,.slice C p.ls.length f,.slice C' p.ms.length f'] 25:=boxz (Blk.made (w.alloc _) _ _)
  have hf0:Fr w ((w.alloc (.cells #[.int .i64 v.kd,.int .i64 v.nm,.string ⟨v.tx.toArray⟩,.slice A v.ls.length c0,.slice A' v.ms.length c0'] 25)).alloc (.cells #[.int .i64 p.kd,.int .i64 p.nm,.string ⟨p.tx.toArray⟩,.slice C p.ls.length f,.slice C' p.ms.length f'] 25)):=((Fr.refl w).alloc _).alloc _
  generalize ((w.alloc (.cells #[.int .i64 v.kd,.int .i64 v.nm,.string ⟨v.tx.toArray⟩,.slice A v.ls.length c0,.slice A' v.ms.length c0'] 25)).alloc (.cells #[.int .i64 p.kd,.int .i64 p.nm,.string ⟨p.tx.toArray⟩,.slice C p.ls.length f,.slice C' p.ms.length f'] 25))=W0 at hb1 hb2 hf0 ⊢
  generalize w.heap.size+1=X2 at hb2 ⊢
  obtain ⟨X1,hX1⟩:∃ X,w.heap.size=X:=⟨_,rfl⟩
  rw [hX1] at hb1 ⊢
  clear hX1
  have HB1:=Lib.hid hb1
  have HB2:=Lib.hid hb2
  have HF0:=Lib.hid hf0
  clear hb1 hb2 hf0
  go_wp2_with (first
   | (go_at_call 9;have hq:=HF3.out;refine (HAW.out _ (HF0.out.trans hq)).mono ?_;rintro e w9 ⟨rfl,hf⟩;have HF9:=Lib.hid ((HF0.out.trans hq).trans hf);clear hf hq)
   | (go_at_call 16;have hq:=HF2.out;refine (HC1.out _ (HF0.out.trans hq)).mono ?_;rintro e w3 ⟨rfl,hf⟩;obtain ⟨⟨r0,r1,r2,r3,r4⟩,_⟩:=box5 (HB2.out.keep (hq.trans hf));have HF3:=Lib.hid (hq.trans hf);clear hf hq)
   | (go_at_call 9;have hq:=HF2.out;refine (HAW.out _ (HF0.out.trans hq)).mono ?_;rintro e w9 ⟨rfl,hf⟩;have HF9:=Lib.hid ((HF0.out.trans hq).trans hf);clear hf hq)
   | (go_at_call 10;have hq:=HF1.out;refine (HFW.out _ (HF0.out.trans hq)).mono ?_;rintro e w2 ⟨⟨b,rfl⟩,hf⟩;obtain ⟨⟨q0,q1,q2,q3,q4⟩,_⟩:=box5 (HB1.out.keep (hq.trans hf));have HF2:=Lib.hid (hq.trans hf);clear hf hq;cases b)
   | (go_at_call 9;refine (HAW.out _ HF0.out).mono ?_;rintro e w1 ⟨rfl,hf⟩;obtain ⟨⟨y0,y1,y2,y3,y4⟩,_⟩:=box5 (HB1.out.keep hf);obtain ⟨⟨z0,z1,z2,z3,z4⟩,_⟩:=box5 (HB2.out.keep hf);have HF1:=Lib.hid hf;clear hf))
  all_goals go_ret
  all_goals exact ⟨rfl,HF9.out⟩

 by_cases h2:k2=0
 rotate_left

 ·have e2:((k2:Int) != 0)=true:=by rw [bne_iff_ne];omega
  subst h1
  clear hv hp hb hbp hT hM n1 n2 hkv hkp hc1 hc2
  rw [HA.out,HAP.out]
  go_enter Tryz.func5,Tryz.ntmps5
  go_upto_region 1 with fail
  have hb1:Blk ((w.alloc (.cells #[.int .i64 v.kd,.int .i64 v.nm,.string ⟨v.tx.toArray⟩,.slice A v.ls.length c0,.slice A' v.ms.length c0'] 25)).alloc (.cells #[.int .i64 p.kd,.int .i64 p.nm,.string ⟨p.tx.toArray⟩,.slice C p.ls.length f,.slice C' p.ms.length f'] 25)) w.heap.size #[.int .i64 v.kd,.int .i64 v.nm,.string ⟨v.tx.toArray⟩,.slice A v.ls.length c0,.slice A' v.ms.length c0'] 25:=(Blk.made w _ _).keep ((Fr.refl _).alloc _)
  have hb2:Blk ((w.alloc (.cells #[.int .i64 v.kd,.int .i64 v.nm,.string ⟨v.tx.toArray⟩,.slice A v.ls.length c0,.slice A' v.ms.length c0'] 25)).alloc (.cells #[.int .i64 p.kd,.int .i64 p.nm,.string ⟨p.tx.toArray⟩,.slice C p.ls.length f,.slice C' p.ms.length f'] 25)) (w.heap.size+1) #[.int .i64 p.kd,.int .i64 p.nm,.string ⟨p.tx.toArray⟩,.slice C p.ls.length f,.slice C' p.ms.length f'] 25:=boxz (Blk.made (w.alloc _) _ _)
  have hf0:Fr w ((w.alloc (.cells #[.int .i64 v.kd,.int .i64 v.nm,.string ⟨v.tx.toArray⟩,.slice A v.ls.length c0,.slice A' v.ms.length c0'] 25)).alloc (.cells #[.int .i64 p.kd,.int .i64 p.nm,.string ⟨p.tx.toArray⟩,.slice C p.ls.length f,.slice C' p.ms.length f'] 25)):=((Fr.refl w).alloc _).alloc _
  generalize ((w.alloc (.cells #[.int .i64 v.kd,.int .i64 v.nm,.string ⟨v.tx.toArray⟩,.slice A v.ls.length c0,.slice A' v.ms.length c0'] 25)).alloc (.cells #[.int .i64 p.kd,.int .i64 p.nm,.string ⟨p.tx.toArray⟩,.slice C p.ls.length f,.slice C' p.ms.length f'] 25))=W0 at hb1 hb2 hf0 ⊢
  generalize w.heap.size+1=X2 at hb2 ⊢
  obtain ⟨X1,hX1⟩:∃ X,w.heap.size=X:=⟨_,rfl⟩
  rw [hX1] at hb1 ⊢
  clear hX1
  have HB1:=Lib.hid hb1
  have HB2:=Lib.hid hb2
  have HF0:=Lib.hid hf0
  clear hb1 hb2 hf0
  go_wp2_with (first
   | (go_at_call 9;have hq:=HF4.out;refine (HAW.out _ (HF0.out.trans hq)).mono ?_;rintro e w9 ⟨rfl,hf⟩;have HF9:=Lib.hid ((HF0.out.trans hq).trans hf);clear hf hq)
   | (go_at_call 16;have hq:=HF3.out;refine (HC2.out _ (HF0.out.trans hq)).mono ?_;rintro e w4 ⟨rfl,hf⟩;have HF4:=Lib.hid (hq.trans hf);clear hf hq)
   | (go_at_call 16;have hq:=HF2.out;refine (HC1.out _ (HF0.out.trans hq)).mono ?_;rintro e w3 ⟨rfl,hf⟩;obtain ⟨⟨r0,r1,r2,r3,r4⟩,_⟩:=box5 (HB2.out.keep (hq.trans hf));have HF3:=Lib.hid (hq.trans hf);clear hf hq)
   | (go_at_call 9;have hq:=HF2.out;refine (HAW.out _ (HF0.out.trans hq)).mono ?_;rintro e w9 ⟨rfl,hf⟩;have HF9:=Lib.hid ((HF0.out.trans hq).trans hf);clear hf hq)
   | (go_at_call 10;have hq:=HF1.out;refine (HFW.out _ (HF0.out.trans hq)).mono ?_;rintro e w2 ⟨⟨b,rfl⟩,hf⟩;obtain ⟨⟨q0,q1,q2,q3,q4⟩,_⟩:=box5 (HB1.out.keep (hq.trans hf));have HF2:=Lib.hid (hq.trans hf);clear hf hq;cases b)
   | (go_at_call 9;refine (HAW.out _ HF0.out).mono ?_;rintro e w1 ⟨rfl,hf⟩;obtain ⟨⟨y0,y1,y2,y3,y4⟩,_⟩:=box5 (HB1.out.keep hf);obtain ⟨⟨z0,z1,z2,z3,z4⟩,_⟩:=box5 (HB2.out.keep hf);have HF1:=Lib.hid hf;clear hf))
  all_goals go_ret
  all_goals exact ⟨rfl,HF9.out⟩

 subst h1
 subst h2
 cases hap:Pc.apply v p with
 | none=>
  have HA1:Hid (∀ W,Fr w W→Calls Tryz.prog 11 #[.agg #[.int .i64 v.kd,.int .i64 v.nm,.string ⟨v.tx.toArray⟩,.slice A v.ls.length c0,.slice A' v.ms.length c0'],.agg #[.int .i64 p.kd,.int .i64 p.nm,.string ⟨p.tx.toArray⟩,.slice C p.ls.length f,.slice C' p.ms.length f']] W fun e w'=>e=.returned (.tuple #[.agg #[.int .i64 0,.int .i64 0,.string ⟨#[]⟩,.slice none 0 0,.slice none 0 0],.int .i64 90])∧Fr W w'):=Lib.hid (fun W hW=>by
   have:=papply_x v p A c0 A' c0' C f C' f' W (hkv W hW) (hkp W hW) (by omega) hbp (hM.keep hW)
   rw [hap] at this
   exact this)
  have HSM:Hid (∀ W,Calls Tryz.prog 13 #[.agg #[.int .i64 0,.int .i64 0,.string ⟨#[]⟩,.slice none 0 0,.slice none 0 0],.agg #[.int .i64 0,.int .i64 0,.string ⟨#[]⟩,.slice none 0 0,.slice none 0 0]] W fun e w'=>e=.returned (.bool true)∧Fr W w'):=Lib.hid (fun W=>same_self JV.zeroV none 0 none 0 none 0 none 0 W (zeroV_in _ _) (zeroV_in _ _))
  clear hv hp hb hbp hT hM n1 n2 hkv hkp hc1 hc2 hap
  rw [HA.out,HAP.out]
  go_enter Tryz.func5,Tryz.ntmps5
  go_upto_region 1 with fail
  have hb1:Blk ((w.alloc (.cells #[.int .i64 v.kd,.int .i64 v.nm,.string ⟨v.tx.toArray⟩,.slice A v.ls.length c0,.slice A' v.ms.length c0'] 25)).alloc (.cells #[.int .i64 p.kd,.int .i64 p.nm,.string ⟨p.tx.toArray⟩,.slice C p.ls.length f,.slice C' p.ms.length f'] 25)) w.heap.size #[.int .i64 v.kd,.int .i64 v.nm,.string ⟨v.tx.toArray⟩,.slice A v.ls.length c0,.slice A' v.ms.length c0'] 25:=(Blk.made w _ _).keep ((Fr.refl _).alloc _)
  have hb2:Blk ((w.alloc (.cells #[.int .i64 v.kd,.int .i64 v.nm,.string ⟨v.tx.toArray⟩,.slice A v.ls.length c0,.slice A' v.ms.length c0'] 25)).alloc (.cells #[.int .i64 p.kd,.int .i64 p.nm,.string ⟨p.tx.toArray⟩,.slice C p.ls.length f,.slice C' p.ms.length f'] 25)) (w.heap.size+1) #[.int .i64 p.kd,.int .i64 p.nm,.string ⟨p.tx.toArray⟩,.slice C p.ls.length f,.slice C' p.ms.length f'] 25:=boxz (Blk.made (w.alloc _) _ _)
  have hf0:Fr w ((w.alloc (.cells #[.int .i64 v.kd,.int .i64 v.nm,.string ⟨v.tx.toArray⟩,.slice A v.ls.length c0,.slice A' v.ms.length c0'] 25)).alloc (.cells #[.int .i64 p.kd,.int .i64 p.nm,.string ⟨p.tx.toArray⟩,.slice C p.ls.length f,.slice C' p.ms.length f'] 25)):=((Fr.refl w).alloc _).alloc _
  generalize ((w.alloc (.cells #[.int .i64 v.kd,.int .i64 v.nm,.string ⟨v.tx.toArray⟩,.slice A v.ls.length c0,.slice A' v.ms.length c0'] 25)).alloc (.cells #[.int .i64 p.kd,.int .i64 p.nm,.string ⟨p.tx.toArray⟩,.slice C p.ls.length f,.slice C' p.ms.length f'] 25))=W0 at hb1 hb2 hf0 ⊢
  generalize w.heap.size+1=X2 at hb2 ⊢
  obtain ⟨X1,hX1⟩:∃ X,w.heap.size=X:=⟨_,rfl⟩
  rw [hX1] at hb1 ⊢
  clear hX1
  have HB1:=Lib.hid hb1
  have HB2:=Lib.hid hb2
  have HF0:=Lib.hid hf0
  clear hb1 hb2 hf0

  go_upto_region 3 with (first
   | (go_at_call 16;have hq:=HF3.out;refine (HC2.out _ (HF0.out.trans hq)).mono ?_;rintro e w4 ⟨rfl,hf⟩;have HF4:=Lib.hid (hq.trans hf);clear hf hq)
   | (go_at_call 16;have hq:=HF2.out;refine (HC1.out _ (HF0.out.trans hq)).mono ?_;rintro e w3 ⟨rfl,hf⟩;obtain ⟨⟨r0,r1,r2,r3,r4⟩,_⟩:=box5 (HB2.out.keep (hq.trans hf));have HF3:=Lib.hid (hq.trans hf);clear hf hq)
   | (go_at_call 10;have hq:=HF1.out;refine (HFW.out _ (HF0.out.trans hq)).mono ?_;rintro e w2 ⟨⟨b,rfl⟩,hf⟩;obtain ⟨⟨q0,q1,q2,q3,q4⟩,_⟩:=box5 (HB1.out.keep (hq.trans hf));have HF2:=Lib.hid (hq.trans hf);clear hf hq;cases b)
   | (go_at_call 9;refine (HAW.out _ HF0.out).mono ?_;rintro e w1 ⟨rfl,hf⟩;obtain ⟨⟨y0,y1,y2,y3,y4⟩,_⟩:=box5 (HB1.out.keep hf);obtain ⟨⟨z0,z1,z2,z3,z4⟩,_⟩:=box5 (HB2.out.keep hf);have HF1:=Lib.hid hf;clear hf))
  ·go_wp2_with (go_at_call 9;have hq:=HF2.out;refine (HAW.out _ (HF0.out.trans hq)).mono ?_;rintro e w9 ⟨rfl,hf⟩;have HF9:=Lib.hid ((HF0.out.trans hq).trans hf);clear hf hq)
   go_ret
   exact ⟨rfl,HF9.out⟩
  clear y0 y1 y2 y3 y4 z0 z1 z2 z3 z4 q0 q1 q2 q3 q4 r0 r1 r2 r3 r4
  obtain ⟨⟨y0,y1,y2,y3,y4⟩,_⟩:=box5 (HB1.out.keep HF4.out)
  obtain ⟨⟨z0,z1,z2,z3,z4⟩,_⟩:=box5 (HB2.out.keep HF4.out)
  go_upto_region 4 with (go_at_call 11;refine (HA1.out _ (HF0.out.trans HF4.out)).mono ?_;rintro e w5 ⟨rfl,hf⟩;have HF5:=Lib.hid ((HF0.out.trans HF4.out).trans hf);clear hf)
  clear y0 y1 y2 y3 y4 z0 z1 z2 z3 z4
  have hb5:=Blk.made w5 #[.int .i64 0,.int .i64 0,.string ⟨#[]⟩,.slice none 0 0,.slice none 0 0] 25
  have hk5:Fr w5 (w5.alloc (.cells #[.int .i64 0,.int .i64 0,.string ⟨#[]⟩,.slice none 0 0,.slice none 0 0] 25)):=(Fr.refl w5).alloc _
  generalize (w5.alloc (.cells #[.int .i64 0,.int .i64 0,.string ⟨#[]⟩,.slice none 0 0,.slice none 0 0] 25))=W5 at hb5 hk5 ⊢
  generalize w5.heap.size=X5 at hb5 ⊢
  have HFZ:=Lib.hid (HF5.out.trans hk5)
  obtain ⟨⟨y0,y1,y2,y3,y4⟩,_⟩:=box5 hb5
  clear hb5 hk5
  go_wp2_with (go_at_call 13;refine (HSM.out _).mono ?_;rintro e w6 ⟨rfl,hf⟩;have HF6:=Lib.hid (HFZ.out.trans hf);clear hf)
  go_ret
  exact ⟨rfl,HF6.out⟩
 | some x=>
  have hxx:=Pc.apply_twice hap
  have hxn:=Pc.apply_nv hap
  have HA1:Hid (∀ W,Fr w W→Calls Tryz.prog 11 #[.agg #[.int .i64 v.kd,.int .i64 v.nm,.string ⟨v.tx.toArray⟩,.slice A v.ls.length c0,.slice A' v.ms.length c0'],.agg #[.int .i64 p.kd,.int .i64 p.nm,.string ⟨p.tx.toArray⟩,.slice C p.ls.length f,.slice C' p.ms.length f']] W fun e w'=>(∃ (D1:Option Addr) (g1:Nat) (D1':Option Addr) (g1':Nat),e=.returned (.tuple #[.agg #[.int .i64 x.kd,.int .i64 x.nm,.string ⟨x.tx.toArray⟩,.slice D1 x.ls.length g1,.slice D1' x.ms.length g1'],.int .i64 0])∧InV w' (Lo w'.heap.size) x (vA x D1 g1 D1' g1'))∧Fr W w'):=Lib.hid (fun W hW=>by
   have:=papply_x v p A c0 A' c0' C f C' f' W (hkv W hW) (hkp W hW) (by omega) hbp (hM.keep hW)
   rw [hap] at this
   exact this.mono (fun e w' h=>h.some_))
  have HA2:Hid (∀ W (D2:Option Addr) (g2:Nat) (D2':Option Addr) (g2':Nat),Fr w W→InV W (Lo W.heap.size) x (vA x D2 g2 D2' g2')→Calls Tryz.prog 11 #[.agg #[.int .i64 x.kd,.int .i64 x.nm,.string ⟨x.tx.toArray⟩,.slice D2 x.ls.length g2,.slice D2' x.ms.length g2'],.agg #[.int .i64 p.kd,.int .i64 p.nm,.string ⟨p.tx.toArray⟩,.slice C p.ls.length f,.slice C' p.ms.length f']] W fun e w'=>(∃ (D1:Option Addr) (g1:Nat) (D1':Option Addr) (g1':Nat),e=.returned (.tuple #[.agg #[.int .i64 x.kd,.int .i64 x.nm,.string ⟨x.tx.toArray⟩,.slice D1 x.ls.length g1,.slice D1' x.ms.length g1'],.int .i64 0])∧InV w' (Lo w'.heap.size) x (vA x D1 g1 D1' g1'))∧Fr W w'):=Lib.hid (fun W D2 g2 D2' g2' hW hi=>by
   have:=papply_x x p D2 g2 D2' g2' C f C' f' W hi (hkp W hW) (by omega) hbp (hM.keep hW)
   rw [hxx] at this
   exact this.mono (fun e w' h=>h.some_))
  have HSM:Hid (∀ W (D1:Option Addr) (g1:Nat) (D1':Option Addr) (g1':Nat) (D2:Option Addr) (g2:Nat) (D2':Option Addr) (g2':Nat),InV W (Lo W.heap.size) x (vA x D1 g1 D1' g1')→InV W (Lo W.heap.size) x (vA x D2 g2 D2' g2')→Calls Tryz.prog 13 #[.agg #[.int .i64 x.kd,.int .i64 x.nm,.string ⟨x.tx.toArray⟩,.slice D1 x.ls.length g1,.slice D1' x.ms.length g1'],.agg #[.int .i64 x.kd,.int .i64 x.nm,.string ⟨x.tx.toArray⟩,.slice D2 x.ls.length g2,.slice D2' x.ms.length g2']] W fun e w'=>e=.returned (.bool true)∧Fr W w'):=Lib.hid (fun W D1 g1 D1' g1' D2 g2 D2' g2' h1 h2=>same_self x D1 g1 D1' g1' D2 g2 D2' g2' W h1 h2)
  clear hv hp hb hbp hT hM n1 n2 hkv hkp hc1 hc2 hap hxx hxn
  rw [HA.out,HAP.out]
  go_enter Tryz.func5,Tryz.ntmps5
  go_upto_region 1 with fail
  have hb1:Blk ((w.alloc (.cells #[.int .i64 v.kd,.int .i64 v.nm,.string ⟨v.tx.toArray⟩,.slice A v.ls.length c0,.slice A' v.ms.length c0'] 25)).alloc (.cells #[.int .i64 p.kd,.int .i64 p.nm,.string ⟨p.tx.toArray⟩,.slice C p.ls.length f,.slice C' p.ms.length f'] 25)) w.heap.size #[.int .i64 v.kd,.int .i64 v.nm,.string ⟨v.tx.toArray⟩,.slice A v.ls.length c0,.slice A' v.ms.length c0'] 25:=(Blk.made w _ _).keep ((Fr.refl _).alloc _)
  have hb2:Blk ((w.alloc (.cells #[.int .i64 v.kd,.int .i64 v.nm,.string ⟨v.tx.toArray⟩,.slice A v.ls.length c0,.slice A' v.ms.length c0'] 25)).alloc (.cells #[.int .i64 p.kd,.int .i64 p.nm,.string ⟨p.tx.toArray⟩,.slice C p.ls.length f,.slice C' p.ms.length f'] 25)) (w.heap.size+1) #[.int .i64 p.kd,.int .i64 p.nm,.string ⟨p.tx.toArray⟩,.slice C p.ls.length f,.slice C' p.ms.length f'] 25:=boxz (Blk.made (w.alloc _) _ _)
  have hf0:Fr w ((w.alloc (.cells #[.int .i64 v.kd,.int .i64 v.nm,.string ⟨v.tx.toArray⟩,.slice A v.ls.length c0,.slice A' v.ms.length c0'] 25)).alloc (.cells #[.int .i64 p.kd,.int .i64 p.nm,.string ⟨p.tx.toArray⟩,.slice C p.ls.length f,.slice C' p.ms.length f'] 25)):=((Fr.refl w).alloc _).alloc _
  generalize ((w.alloc (.cells #[.int .i64 v.kd,.int .i64 v.nm,.string ⟨v.tx.toArray⟩,.slice A v.ls.length c0,.slice A' v.ms.length c0'] 25)).alloc (.cells #[.int .i64 p.kd,.int .i64 p.nm,.string ⟨p.tx.toArray⟩,.slice C p.ls.length f,.slice C' p.ms.length f'] 25))=W0 at hb1 hb2 hf0 ⊢
  generalize w.heap.size+1=X2 at hb2 ⊢
  obtain ⟨X1,hX1⟩:∃ X,w.heap.size=X:=⟨_,rfl⟩
  rw [hX1] at hb1 ⊢
  clear hX1
  have HB1:=Lib.hid hb1
  have HB2:=Lib.hid hb2
  have HF0:=Lib.hid hf0
  clear hb1 hb2 hf0

  go_upto_region 3 with (first
   | (go_at_call 16;have hq:=HF3.out;refine (HC2.out _ (HF0.out.trans hq)).mono ?_;rintro e w4 ⟨rfl,hf⟩;have HF4:=Lib.hid (hq.trans hf);clear hf hq)
   | (go_at_call 16;have hq:=HF2.out;refine (HC1.out _ (HF0.out.trans hq)).mono ?_;rintro e w3 ⟨rfl,hf⟩;obtain ⟨⟨r0,r1,r2,r3,r4⟩,_⟩:=box5 (HB2.out.keep (hq.trans hf));have HF3:=Lib.hid (hq.trans hf);clear hf hq)
   | (go_at_call 10;have hq:=HF1.out;refine (HFW.out _ (HF0.out.trans hq)).mono ?_;rintro e w2 ⟨⟨b,rfl⟩,hf⟩;obtain ⟨⟨q0,q1,q2,q3,q4⟩,_⟩:=box5 (HB1.out.keep (hq.trans hf));have HF2:=Lib.hid (hq.trans hf);clear hf hq;cases b)
   | (go_at_call 9;refine (HAW.out _ HF0.out).mono ?_;rintro e w1 ⟨rfl,hf⟩;obtain ⟨⟨y0,y1,y2,y3,y4⟩,_⟩:=box5 (HB1.out.keep hf);obtain ⟨⟨z0,z1,z2,z3,z4⟩,_⟩:=box5 (HB2.out.keep hf);have HF1:=Lib.hid hf;clear hf))
  ·go_wp2_with (go_at_call 9;have hq:=HF2.out;refine (HAW.out _ (HF0.out.trans hq)).mono ?_;rintro e w9 ⟨rfl,hf⟩;have HF9:=Lib.hid ((HF0.out.trans hq).trans hf);clear hf hq)
   go_ret
   exact ⟨rfl,HF9.out⟩
  clear y0 y1 y2 y3 y4 z0 z1 z2 z3 z4 q0 q1 q2 q3 q4 r0 r1 r2 r3 r4
  obtain ⟨⟨y0,y1,y2,y3,y4⟩,_⟩:=box5 (HB1.out.keep HF4.out)
  obtain ⟨⟨z0,z1,z2,z3,z4⟩,_⟩:=box5 (HB2.out.keep HF4.out)
  go_upto_region 4 with (go_at_call 11;refine (HA1.out _ (HF0.out.trans HF4.out)).mono ?_;rintro e w5 ⟨⟨D1,g1,D1',g1',rfl,hi⟩,hf⟩;have HI5:=Lib.hid hi;have HF5:=Lib.hid (HF4.out.trans hf);clear hi hf)
  clear y0 y1 y2 y3 y4 z0 z1 z2 z3 z4
  have hb5:=Blk.made w5 #[.int .i64 x.kd,.int .i64 x.nm,.string ⟨x.tx.toArray⟩,.slice D1 x.ls.length g1,.slice D1' x.ms.length g1'] 25
  have hk5:Fr w5 (w5.alloc (.cells #[.int .i64 x.kd,.int .i64 x.nm,.string ⟨x.tx.toArray⟩,.slice D1 x.ls.length g1,.slice D1' x.ms.length g1'] 25)):=(Fr.refl w5).alloc _
  generalize (w5.alloc (.cells #[.int .i64 x.kd,.int .i64 x.nm,.string ⟨x.tx.toArray⟩,.slice D1 x.ls.length g1,.slice D1' x.ms.length g1'] 25))=W5 at hb5 hk5 ⊢
  generalize w5.heap.size=X5 at hb5 ⊢
  have HF05:Hid (Fr W0 W5):=Lib.hid (HF5.out.trans hk5)
  have HI05:Hid (InV W5 (Lo W5.heap.size) x (vA x D1 g1 D1' g1')):=Lib.hid ((HI5.out.keep (Nat.le_refl _) hk5).lo hk5.size)
  have HB5:=Lib.hid hb5
  obtain ⟨⟨y0,y1,y2,y3,y4⟩,_⟩:=box5 hb5
  obtain ⟨⟨z0,z1,z2,z3,z4⟩,_⟩:=box5 (HB2.out.keep HF05.out)
  clear hb5 hk5
  go_upto_region 7 with (go_at_call 11;refine (HA2.out _ D1 g1 D1' g1' (HF0.out.trans HF05.out) HI05.out).mono ?_;rintro e w6 ⟨⟨D2,g2,D2',g2',rfl,hi⟩,hf⟩;have HI6:=Lib.hid hi;have HF6:=Lib.hid hf;clear hi hf)
  clear y0 y1 y2 y3 y4 z0 z1 z2 z3 z4
  have hb7:=Blk.made w6 #[.int .i64 x.kd,.int .i64 x.nm,.string ⟨x.tx.toArray⟩,.slice D2 x.ls.length g2,.slice D2' x.ms.length g2'] 25
  have hk7:Fr w6 (w6.alloc (.cells #[.int .i64 x.kd,.int .i64 x.nm,.string ⟨x.tx.toArray⟩,.slice D2 x.ls.length g2,.slice D2' x.ms.length g2'] 25)):=(Fr.refl w6).alloc _
  generalize (w6.alloc (.cells #[.int .i64 x.kd,.int .i64 x.nm,.string ⟨x.tx.toArray⟩,.slice D2 x.ls.length g2,.slice D2' x.ms.length g2'] 25))=W7 at hb7 hk7 ⊢
  generalize w6.heap.size=X7 at hb7 ⊢
  have HF57:Hid (Fr W5 W7):=Lib.hid (HF6.out.trans hk7)
  have HI7:Hid (InV W7 (Lo W7.heap.size) x (vA x D2 g2 D2' g2')):=Lib.hid ((HI6.out.keep (Nat.le_refl _) hk7).lo hk7.size)
  have HI57:Hid (InV W7 (Lo W7.heap.size) x (vA x D1 g1 D1' g1')):=Lib.hid ((HI05.out.keep (Nat.le_refl _) HF57.out).lo HF57.out.size)
  obtain ⟨⟨y0,y1,y2,y3,y4⟩,_⟩:=box5 (HB5.out.keep HF57.out)
  obtain ⟨⟨z0,z1,z2,z3,z4⟩,_⟩:=box5 hb7
  clear hb7 hk7
  go_wp2_with (go_at_call 13;refine (HSM.out _ D1 g1 D1' g1' D2 g2 D2' g2' HI57.out HI7.out).mono ?_;rintro e w8 ⟨rfl,hf⟩;have HF8:=Lib.hid hf;clear hf)
  go_ret
  exact ⟨rfl,((HF0.out.trans HF05.out).trans HF57.out).trans HF8.out⟩
end Go.Proofs.YtlmcfhokfiibkaaGreatDoor
