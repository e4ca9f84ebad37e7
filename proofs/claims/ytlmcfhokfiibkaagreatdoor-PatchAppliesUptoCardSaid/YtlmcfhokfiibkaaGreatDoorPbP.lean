/- Chapter 09: PatchApplies' walk. -/
import Derived.Test.YtlmcfhokfiibkaaGreatDoorPaAp
import Derived.Test.YtlmcfhokfiibkaaGreatDoorPaU
namespace Go.Proofs.YtlmcfhokfiibkaaGreatDoor
set_option maxRecDepth 100000
set_option maxHeartbeats 8000000
set_option linter.unusedVariables false
set_option linter.unusedSimpArgs false
open Go.RowKit

theorem papplies_law (v p:JV) (A:Option Addr) (c0:Nat) (A':Option Addr) (c0':Nat) (C:Option Addr) (f:Nat) (C':Option Addr) (f':Nat) (w:World) (hv:InV w (Lo w.heap.size) v (vA v A c0 A' c0')) (hp:InV w (Lo w.heap.size) p (vA p C f C' f')) (hb:JV.bulk v≤1048576) (hbp:JV.bulk p≤1048576) (hT:LowTabs w) (hM:MxL w):
  Calls Tryz.prog 3 #[vA v A c0 A' c0',vA p C f C' f'] w fun e w'=>e=.returned (.bool true)∧Fr w w':=by
 have HT:=Lib.hid hT
 have HM:=Lib.hid hM
 have HA:Hid (vA v A c0 A' c0'=.agg #[.int .i64 v.kd,.int .i64 v.nm,.string ⟨v.tx.toArray⟩,.slice A v.ls.length c0,.slice A' v.ms.length c0']):=rfl
 have HAP:Hid (vA p C f C' f'=.agg #[.int .i64 p.kd,.int .i64 p.nm,.string ⟨p.tx.toArray⟩,.slice C p.ls.length f,.slice C' p.ms.length f']):=rfl
 have n1:=Pc.nv3 v
 have n2:=Pc.nv3 p
 have hkv:∀ W,Fr w W→InV W (Lo W.heap.size) v (vA v A c0 A' c0'):=fun W hW=>(hv.keep (Nat.le_refl _) hW).lo hW.size
 have hkp:∀ W,Fr w W→InV W (Lo W.heap.size) p (vA p C f C' f'):=fun W hW=>(hp.keep (Nat.le_refl _) hW).lo hW.size
 have HAW:Hid (∀ W,Fr w W→Calls Tryz.prog 9 #[] W fun e w'=>e=.returned (.bool true)∧Fr W w'):=Lib.hid (fun W hW=>awake09 W (HT.out.keep hW) (HM.out.keep hW))
 have HFW:Hid (∀ W,Fr w W→Calls Tryz.prog 10 #[.agg #[.int .i64 v.kd,.int .i64 v.nm,.string ⟨v.tx.toArray⟩,.slice A v.ls.length c0,.slice A' v.ms.length c0'],.agg #[.int .i64 p.kd,.int .i64 p.nm,.string ⟨p.tx.toArray⟩,.slice C p.ls.length f,.slice C' p.ms.length f']] W fun e w'=>(∃ b:Bool,e=.returned (.bool b))∧Fr W w'):=Lib.hid (fun W hW=>few09_is v p A c0 A' c0' C f C' f' W (hkv W hW) (hkp W hW) (by omega) (by omega))
 have HA10:Hid (∀ W,Fr w W→Calls Tryz.prog 11 #[.agg #[.int .i64 v.kd,.int .i64 v.nm,.string ⟨v.tx.toArray⟩,.slice A v.ls.length c0,.slice A' v.ms.length c0'],.agg #[.int .i64 p.kd,.int .i64 p.nm,.string ⟨p.tx.toArray⟩,.slice C p.ls.length f,.slice C' p.ms.length f']] W (ApP W (Pc.apply v p))):=Lib.hid (fun W hW=>papply_x v p A c0 A' c0' C f C' f' W (hkv W hW) (hkp W hW) (by omega) hbp (hM.keep hW))
 have HA20:Hid (∀ W,Fr w W→Calls Tryz.prog 12 #[.agg #[.int .i64 v.kd,.int .i64 v.nm,.string ⟨v.tx.toArray⟩,.slice A v.ls.length c0,.slice A' v.ms.length c0'],.agg #[.int .i64 p.kd,.int .i64 p.nm,.string ⟨p.tx.toArray⟩,.slice C p.ls.length f,.slice C' p.ms.length f']] W (ApR W (Pc.apply v p))):=Lib.hid (fun W hW=>rapply_is v p A c0 A' c0' C f C' f' W (hkv W hW) (hkp W hW) hbp (hM.keep hW) (fun l hc hf k=>by
  have h1:=Pc.fits_nv hc hf k
  omega))
 obtain ⟨fp,hfp⟩:∃ fp,Pc.fitsP v p=fp:=⟨_,rfl⟩
 have HFS:Hid (∀ W,Fr w W→Calls Tryz.prog 14 #[.agg #[.int .i64 v.kd,.int .i64 v.nm,.string ⟨v.tx.toArray⟩,.slice A v.ls.length c0,.slice A' v.ms.length c0'],.agg #[.int .i64 p.kd,.int .i64 p.nm,.string ⟨p.tx.toArray⟩,.slice C p.ls.length f,.slice C' p.ms.length f']] W fun e w'=>e=.returned (.bool fp)∧Fr W w'):=Lib.hid (fun W hW=>by rw [← hfp];exact pFits_is v p A c0 A' c0' C f C' f' W (hkv W hW) (hkp W hW) hbp (hM.keep hW))
 have HRF:Hid (∀ W,Fr w W→Calls Tryz.prog 15 #[.agg #[.int .i64 v.kd,.int .i64 v.nm,.string ⟨v.tx.toArray⟩,.slice A v.ls.length c0,.slice A' v.ms.length c0'],.agg #[.int .i64 p.kd,.int .i64 p.nm,.string ⟨p.tx.toArray⟩,.slice C p.ls.length f,.slice C' p.ms.length f']] W fun e w'=>e=.returned (.bool fp)∧Fr W w'):=Lib.hid (fun W hW=>by rw [← hfp];exact rfits_is v p A c0 A' c0' C f C' f' W (hkv W hW) (hkp W hW) hbp (hM.keep hW))
 rcases Pc.apply_fits v p with ⟨hf1,hap⟩ | ⟨l,hf1,_,_,hap⟩
 ·have hf2:fp=false:=hfp.symm.trans hf1
  subst hf2
  have HA1:Hid (∀ W,Fr w W→Calls Tryz.prog 11 #[.agg #[.int .i64 v.kd,.int .i64 v.nm,.string ⟨v.tx.toArray⟩,.slice A v.ls.length c0,.slice A' v.ms.length c0'],.agg #[.int .i64 p.kd,.int .i64 p.nm,.string ⟨p.tx.toArray⟩,.slice C p.ls.length f,.slice C' p.ms.length f']] W fun e w'=>e=.returned (.tuple #[.agg #[.int .i64 0,.int .i64 0,.string ⟨#[]⟩,.slice none 0 0,.slice none 0 0],.int .i64 90])∧Fr W w'):=Lib.hid (fun W hW=>by have:=HA10.out W hW;rw [hap] at this;exact this)
  have HA2:Hid (∀ W,Fr w W→Calls Tryz.prog 12 #[.agg #[.int .i64 v.kd,.int .i64 v.nm,.string ⟨v.tx.toArray⟩,.slice A v.ls.length c0,.slice A' v.ms.length c0'],.agg #[.int .i64 p.kd,.int .i64 p.nm,.string ⟨p.tx.toArray⟩,.slice C p.ls.length f,.slice C' p.ms.length f']] W fun e w'=>e=.returned (.tuple #[.agg #[.int .i64 0,.int .i64 0,.string ⟨#[]⟩,.slice none 0 0,.slice none 0 0],.int .i64 90])∧Fr W w'):=Lib.hid (fun W hW=>by have:=HA20.out W hW;rw [hap] at this;exact this)
  have HSM:Hid (∀ W,Calls Tryz.prog 13 #[.agg #[.int .i64 0,.int .i64 0,.string ⟨#[]⟩,.slice none 0 0,.slice none 0 0],.agg #[.int .i64 0,.int .i64 0,.string ⟨#[]⟩,.slice none 0 0,.slice none 0 0]] W fun e w'=>e=.returned (.bool true)∧Fr W w'):=Lib.hid (fun W=>same_self JV.zeroV none 0 none 0 none 0 none 0 W (zeroV_in _ _) (zeroV_in _ _))
  clear hv hp hb hbp hT hM n1 n2 hkv hkp hfp hf1 hap HA10 HA20
  rw [HA.out,HAP.out]
  go_enter Tryz.func3,Tryz.ntmps3
  go_upto_region 1 with fail
  have hb1:Blk ((w.alloc (.cells #[.int .i64 v.kd,.int .i64 v.nm,.string ⟨v.tx.toArray⟩,.slice A v.ls.length c0,.slice A' v.ms.length c0'] 25)).alloc (.cells #[.int .i64 p.kd,.int .i64 p.nm,.string ⟨p.tx.toArray⟩,.slice C p.ls.length f,.slice C' p.ms.length f'] 25)) w.heap.size #[.int .i64 v.kd,.int .i64 v.nm,.string ⟨v.tx.toArray⟩,.slice A v.ls.length c0,.slice A' v.ms.length c0'] 25:=(Blk.made w _ _).keep ((Fr.refl _).alloc _)
  have hb2:Blk ((w.alloc (.cells #[.int .i64 v.kd,.int .i64 v.nm,.string ⟨v.tx.toArray⟩,.slice A v.ls.length c0,.slice A' v.ms.length c0'] 25)).alloc (.cells #[.int .i64 p.kd,.int .i64 p.nm,.string ⟨p.tx.toArray⟩,.slice C p.ls.length f,.slice C' p.ms.length f'] 25)) (w.heap.size+1) #[.int .i64 p.kd,.int .i64 p.nm,.string ⟨p.tx.toArray⟩,.slice C p.ls.length f,.slice C' p.ms.length f'] 25:=boxz (Blk.made (w.alloc _) _ _)
  have hf0:Fr w ((w.alloc (.cells #[.int .i64 v.kd,.int .i64 v.nm,.string ⟨v.tx.toArray⟩,.slice A v.ls.length c0,.slice A' v.ms.length c0'] 25)).alloc (.cells #[.int .i64 p.kd,.int .i64 p.nm,.string ⟨p.tx.toArray⟩,.slice C p.ls.length f,.slice C' p.ms.length f'] 25)):=((Fr.refl w).alloc _).alloc _
  generalize ((w.alloc (.cells #[.int .i64 v.kd,.int .i64 v.nm,.string ⟨v.tx.toArray⟩,.slice A v.ls.length c0,.slice A' v.ms.length c0'] 25)).alloc (.cells #[.int .i64 p.kd,.int .i64 p.nm,.string ⟨p.tx.toArray⟩,.slice C p.ls.length f,.slice C' p.ms.length f'] 25))=W0 at hb1 hb2 hf0 ⊢
  generalize w.heap.size+1=X2 at hb2 ⊢
  obtain ⟨X1,hX1⟩:∃ X,w.heap.size=X:=⟨_,rfl⟩
  rw [hX1] at hb1 ⊢
  clear hX1
  have HB1:=Lib.hid hb1
  have HB2:=Lib.hid hb2
  have HF0:=Lib.hid hf0
  clear hb1 hb2 hf0
  go_upto_region 3 with (first
   | (go_at_call 10;have hq:=HF1.out;refine (HFW.out _ (HF0.out.trans hq)).mono ?_;rintro e w2 ⟨⟨b,rfl⟩,hf⟩;obtain ⟨⟨q0,q1,q2,q3,q4⟩,_⟩:=box5 (HB1.out.keep (hq.trans hf));have HF2:=Lib.hid (hq.trans hf);clear hf hq;cases b)
   | (go_at_call 9;refine (HAW.out _ HF0.out).mono ?_;rintro e w1 ⟨rfl,hf⟩;obtain ⟨⟨y0,y1,y2,y3,y4⟩,_⟩:=box5 (HB1.out.keep hf);obtain ⟨⟨z0,z1,z2,z3,z4⟩,_⟩:=box5 (HB2.out.keep hf);have HF1:=Lib.hid hf;clear hf))
  ·go_wp2_with (go_at_call 9;have hq:=HF2.out;refine (HAW.out _ (HF0.out.trans hq)).mono ?_;rintro e w9 ⟨rfl,hf⟩;have HF9:=Lib.hid ((HF0.out.trans hq).trans hf);clear hf hq)
   go_ret
   exact ⟨rfl,HF9.out⟩
  clear y0 y1 y2 y3 y4 z0 z1 z2 z3 z4 q0 q1 q2 q3 q4
  obtain ⟨⟨y0,y1,y2,y3,y4⟩,_⟩:=box5 (HB1.out.keep HF2.out)
  obtain ⟨⟨z0,z1,z2,z3,z4⟩,_⟩:=box5 (HB2.out.keep HF2.out)
  go_upto_region 4 with (go_at_call 11;refine (HA1.out _ (HF0.out.trans HF2.out)).mono ?_;rintro e w5 ⟨rfl,hf⟩;have HF5:=Lib.hid (HF2.out.trans hf);clear hf)
  clear y0 y1 y2 y3 y4 z0 z1 z2 z3 z4
  have hb5:=Blk.made w5 #[.int .i64 0,.int .i64 0,.string ⟨#[]⟩,.slice none 0 0,.slice none 0 0] 25
  have hk5:Fr w5 (w5.alloc (.cells #[.int .i64 0,.int .i64 0,.string ⟨#[]⟩,.slice none 0 0,.slice none 0 0] 25)):=(Fr.refl w5).alloc _
  generalize (w5.alloc (.cells #[.int .i64 0,.int .i64 0,.string ⟨#[]⟩,.slice none 0 0,.slice none 0 0] 25))=Wa at hb5 hk5 ⊢
  generalize w5.heap.size=Xa at hb5 ⊢
  have HFa:Hid (Fr W0 Wa):=Lib.hid (HF5.out.trans hk5)
  have HBa0:=Lib.hid hb5
  obtain ⟨⟨y0,y1,y2,y3,y4⟩,_⟩:=box5 (HB1.out.keep HFa.out)
  obtain ⟨⟨z0,z1,z2,z3,z4⟩,_⟩:=box5 (HB2.out.keep HFa.out)
  clear hb5 hk5
  go_upto_region 5 with (go_at_call 12;refine (HA2.out _ (HF0.out.trans HFa.out)).mono ?_;rintro e w6 ⟨rfl,hf⟩;have HF6:=Lib.hid hf;clear hf)
  clear y0 y1 y2 y3 y4 z0 z1 z2 z3 z4
  have hb6:=Blk.made w6 #[.int .i64 0,.int .i64 0,.string ⟨#[]⟩,.slice none 0 0,.slice none 0 0] 25
  have hk6:Fr w6 (w6.alloc (.cells #[.int .i64 0,.int .i64 0,.string ⟨#[]⟩,.slice none 0 0,.slice none 0 0] 25)):=(Fr.refl w6).alloc _
  generalize (w6.alloc (.cells #[.int .i64 0,.int .i64 0,.string ⟨#[]⟩,.slice none 0 0,.slice none 0 0] 25))=Wb at hb6 hk6 ⊢
  generalize w6.heap.size=Xb at hb6 ⊢
  have HFab:Hid (Fr Wa Wb):=Lib.hid (HF6.out.trans hk6)
  have HFb:Hid (Fr w Wb):=Lib.hid ((HF0.out.trans HFa.out).trans HFab.out)
  have HBa:=Lib.hid (HBa0.out.keep HFab.out)
  have HBb:=Lib.hid hb6
  have HB1b:=Lib.hid (HB1.out.keep (HFa.out.trans HFab.out))
  have HB2b:=Lib.hid (HB2.out.keep (HFa.out.trans HFab.out))
  clear hb6 hk6
  have HS5:Hid (∀ W,Fr Wb W→W.cell? ⟨Xa,0,none⟩=some (.int .i64 0)∧W.cell? ⟨Xa,1,none⟩=some (.int .i64 0)∧W.cell? ⟨Xa,2,none⟩=some (.string ⟨#[]⟩)∧W.cell? ⟨Xa,3,none⟩=some (.slice none 0 0)∧W.cell? ⟨Xa,4,none⟩=some (.slice none 0 0)∧W.cell? ⟨Xb,0,none⟩=some (.int .i64 0)∧W.cell? ⟨Xb,1,none⟩=some (.int .i64 0)∧W.cell? ⟨Xb,2,none⟩=some (.string ⟨#[]⟩)∧W.cell? ⟨Xb,3,none⟩=some (.slice none 0 0)∧W.cell? ⟨Xb,4,none⟩=some (.slice none 0 0)∧W.cell? ⟨X1,0,none⟩=some (.int .i64 v.kd)∧W.cell? ⟨X1,1,none⟩=some (.int .i64 v.nm)∧W.cell? ⟨X1,2,none⟩=some (.string ⟨v.tx.toArray⟩)∧W.cell? ⟨X1,3,none⟩=some (.slice A v.ls.length c0)∧W.cell? ⟨X1,4,none⟩=some (.slice A' v.ms.length c0')∧W.cell? ⟨X2,0,none⟩=some (.int .i64 p.kd)∧W.cell? ⟨X2,1,none⟩=some (.int .i64 p.nm)∧W.cell? ⟨X2,2,none⟩=some (.string ⟨p.tx.toArray⟩)∧W.cell? ⟨X2,3,none⟩=some (.slice C p.ls.length f)∧W.cell? ⟨X2,4,none⟩=some (.slice C' p.ms.length f')):=Lib.hid (fun W hW=>by
   have a:=HBa.out.keep hW
   have b:=HBb.out.keep hW
   have c:=HB1b.out.keep hW
   have d:=HB2b.out.keep hW
   exact ⟨a.cell 0,a.cell 1,a.cell 2,a.cell 3,a.cell 4,b.cell 0,b.cell 1,b.cell 2,b.cell 3,b.cell 4,c.cell 0,c.cell 1,c.cell 2,c.cell 3,c.cell 4,d.cell 0,d.cell 1,d.cell 2,d.cell 3,d.cell 4⟩)
  go_upto_region 5 with fail
  refine wp_region_held_drew (S:=(fun W=>W.cell? ⟨Xa,0,none⟩=some (.int .i64 0)∧W.cell? ⟨Xa,1,none⟩=some (.int .i64 0)∧W.cell? ⟨Xa,2,none⟩=some (.string ⟨#[]⟩)∧W.cell? ⟨Xa,3,none⟩=some (.slice none 0 0)∧W.cell? ⟨Xa,4,none⟩=some (.slice none 0 0)∧W.cell? ⟨Xb,0,none⟩=some (.int .i64 0)∧W.cell? ⟨Xb,1,none⟩=some (.int .i64 0)∧W.cell? ⟨Xb,2,none⟩=some (.string ⟨#[]⟩)∧W.cell? ⟨Xb,3,none⟩=some (.slice none 0 0)∧W.cell? ⟨Xb,4,none⟩=some (.slice none 0 0)∧W.cell? ⟨X1,0,none⟩=some (.int .i64 v.kd)∧W.cell? ⟨X1,1,none⟩=some (.int .i64 v.nm)∧W.cell? ⟨X1,2,none⟩=some (.string ⟨v.tx.toArray⟩)∧W.cell? ⟨X1,3,none⟩=some (.slice A v.ls.length c0)∧W.cell? ⟨X1,4,none⟩=some (.slice A' v.ms.length c0')∧W.cell? ⟨X2,0,none⟩=some (.int .i64 p.kd)∧W.cell? ⟨X2,1,none⟩=some (.int .i64 p.nm)∧W.cell? ⟨X2,2,none⟩=some (.string ⟨p.tx.toArray⟩)∧W.cell? ⟨X2,3,none⟩=some (.slice C p.ls.length f)∧W.cell? ⟨X2,4,none⟩=some (.slice C' p.ms.length f'))) (by kernel_rfl) ?_ (fun hHeld=>?_)
  ·exact HS5.out _ (Fr.refl _).drew
  refine tk (i:=0) (v:=?_) rfl ⟨by rfl,?_⟩ hHeld ?_
  rotate_left
  ·(intro w' hSw;(try dsimp only at hSw);go_simp;try with_reducible rfl)
  try simp only [Act.put,fl]
  refine tk (i:=1) (v:=?_) rfl ⟨by rfl,?_⟩ hHeld ?_
  rotate_left
  ·(intro w' hSw;(try dsimp only at hSw);go_simp;try with_reducible rfl)
  try simp only [Act.put,fl]
  refine tk (i:=2) (v:=?_) rfl ⟨by rfl,?_⟩ hHeld ?_
  rotate_left
  ·(intro w' hSw;(try dsimp only at hSw);go_simp;try with_reducible rfl)
  try simp only [Act.put,fl]
  refine tk (i:=3) (v:=?_) rfl ⟨by rfl,?_⟩ hHeld ?_
  rotate_left
  ·(intro w' hSw;(try dsimp only at hSw);go_simp;try with_reducible rfl)
  try simp only [Act.put,fl]
  refine tk (i:=4) (v:=?_) rfl ⟨by rfl,?_⟩ hHeld ?_
  rotate_left
  ·(intro w' hSw;(try dsimp only at hSw);go_simp;try with_reducible rfl)
  try simp only [Act.put,fl]
  refine tk (i:=5) (v:=?_) rfl ⟨by rfl,?_⟩ hHeld ?_
  rotate_left
  ·(intro w' hSw;(try dsimp only at hSw);go_simp;try with_reducible rfl)
  try simp only [Act.put,fl]
  refine wpAnyH_ready (rs:=[6]) (by kernel_rfl) (by simp) ?_
  refine AllReadyH.cons rfl (fun K hK=>?_) AllReadyH.nil
  go_simp
  (go_at_call 13;refine (HSM.out _).mono ?_;rintro en w8 ⟨rfl,hf⟩;have HF8:Hid (Fr Wb w8):=Lib.hid ((Fr.refl Wb).drew.trans hf);clear hf)
  refine hK.out _ _ (HS5.out _ HF8.out) (fun hH2=>?_)
  clear hK K
  try simp only [Act.put,fl]
  refine tk (i:=7) (v:=?_) rfl ⟨by rfl,?_⟩ hH2 ?_
  rotate_left
  ·(intro w' hSw;(try dsimp only at hSw);go_simp;try with_reducible rfl)
  try simp only [Act.put,fl]
  refine tk (i:=8) (v:=?_) rfl ⟨by rfl,?_⟩ hH2 ?_
  rotate_left
  ·(intro w' hSw;(try dsimp only at hSw);go_simp;try with_reducible rfl)
  try simp only [Act.put,fl]
  refine tk (i:=9) (v:=?_) rfl ⟨by rfl,?_⟩ hH2 ?_
  rotate_left
  ·(intro w' hSw;(try dsimp only at hSw);go_simp;try with_reducible rfl)
  try simp only [Act.put,fl]
  refine tk (i:=10) (v:=?_) rfl ⟨by rfl,?_⟩ hH2 ?_
  rotate_left
  ·(intro w' hSw;(try dsimp only at hSw);go_simp;try with_reducible rfl)
  try simp only [Act.put,fl]
  refine tk (i:=12) (v:=?_) rfl ⟨by rfl,?_⟩ hH2 ?_
  rotate_left
  ·(intro w' hSw;(try dsimp only at hSw);go_simp;try with_reducible rfl)
  try simp only [Act.put,fl]
  refine tk (i:=13) (v:=?_) rfl ⟨by rfl,?_⟩ hH2 ?_
  rotate_left
  ·(intro w' hSw;(try dsimp only at hSw);go_simp;try with_reducible rfl)
  try simp only [Act.put,fl]
  refine wpAnyH_ready (rs:=[11]) (by kernel_rfl) (by simp) ?_
  refine AllReadyH.cons rfl (fun K hK=>?_) AllReadyH.nil
  go_simp
  (go_at_call 14;refine (HFS.out _ ((HFb.out).trans HF8.out)).mono ?_;rintro en w9 ⟨rfl,hf⟩;have HF9:Hid (Fr Wb w9):=Lib.hid (Fr.trans HF8.out hf);clear hf)
  refine hK.out _ _ (HS5.out _ HF9.out) (fun hH3=>?_)
  clear hK K
  try simp only [Act.put,fl]
  refine wpAnyH_ready (rs:=[14]) (by kernel_rfl) (by simp) ?_
  refine AllReadyH.cons rfl (fun K hK=>?_) AllReadyH.nil
  go_simp
  (go_at_call 15;refine (HRF.out _ ((HFb.out).trans HF9.out)).mono ?_;rintro en w10 ⟨rfl,hf⟩;have HF10:Hid (Fr Wb w10):=Lib.hid (Fr.trans HF9.out hf);clear hf)
  refine hK.out _ _ (HS5.out _ HF10.out) (fun hH4=>?_)
  clear hK K
  try simp only [Act.put,fl]
  refine tk (i:=15) (v:=?_) rfl ⟨by rfl,?_⟩ hH4 ?_
  rotate_left
  ·(intro w' hSw;(try dsimp only at hSw);go_simp;try with_reducible rfl)
  try simp only [Act.put,fl]
  refine tk (i:=16) (v:=?_) rfl ⟨by rfl,?_⟩ hH4 ?_
  rotate_left
  ·(intro w' hSw;(try dsimp only at hSw);go_simp;try with_reducible rfl)
  try simp only [Act.put,fl]
  refine tk (i:=17) (v:=?_) rfl ⟨by rfl,?_⟩ hH4 ?_
  rotate_left
  ·(intro w' hSw;(try dsimp only at hSw);go_simp;try with_reducible rfl)
  try simp only [Act.put,fl]
  refine tk (i:=18) (v:=?_) rfl ⟨by rfl,?_⟩ hH4 ?_
  rotate_left
  ·(intro w' hSw;(try dsimp only at hSw);go_simp;try with_reducible rfl)
  try simp only [Act.put,fl]
  refine tk (i:=19) (v:=?_) rfl ⟨by rfl,?_⟩ hH4 ?_
  rotate_left
  ·(intro w' hSw;(try dsimp only at hSw);go_simp;try with_reducible rfl)
  try simp only [Act.put,fl]
  refine tk (i:=21) (v:=?_) rfl ⟨by rfl,?_⟩ hH4 ?_
  rotate_left
  ·(intro w' hSw;(try dsimp only at hSw);go_simp;try with_reducible rfl)
  try simp only [Act.put,fl]
  refine tk (i:=22) (v:=?_) rfl ⟨by rfl,?_⟩ hH4 ?_
  rotate_left
  ·(intro w' hSw;(try dsimp only at hSw);go_simp;try with_reducible rfl)
  try simp only [Act.put,fl]
  refine wpAnyH_ready (rs:=[20]) (by kernel_rfl) (by simp) ?_
  refine AllReadyH.cons rfl (fun K hK=>?_) AllReadyH.nil
  go_simp
  (go_at_call 14;refine (HFS.out _ ((HFb.out).trans HF10.out)).mono ?_;rintro en w11 ⟨rfl,hf⟩;have HF11:Hid (Fr Wb w11):=Lib.hid (Fr.trans HF10.out hf);clear hf)
  refine hK.out _ _ (HS5.out _ HF11.out) (fun hH5=>?_)
  clear hK K
  try simp only [Act.put,fl]
  refine tk (i:=23) (v:=?_) rfl ⟨by rfl,?_⟩ hH5 ?_
  rotate_left
  ·(intro w' hSw;(try dsimp only at hSw);go_simp;try with_reducible rfl)
  try simp only [Act.put,fl]
  refine tk (i:=24) (v:=?_) rfl ⟨by rfl,?_⟩ hH5 ?_
  rotate_left
  ·(intro w' hSw;(try dsimp only at hSw);go_simp;try with_reducible rfl)
  try simp only [Act.put,fl]
  refine tk (i:=25) (v:=?_) rfl ⟨by rfl,?_⟩ hH5 ?_
  rotate_left
  ·(intro w' hSw;(try dsimp only at hSw);go_simp;try with_reducible rfl)
  try simp only [Act.put,fl]
  refine wpAnyH_done (by kernel_rfl) ?_ _
  clear hHeld hH2 hH3 hH4 hH5
  go_wp2_with fail
  go_ret
  exact ⟨rfl,HFb.out.trans HF11.out⟩
 ·have hf2:fp=true:=hfp.symm.trans hf1
  subst hf2
  obtain ⟨x,hx⟩:∃ x,Pc.putL v l=x:=⟨_,rfl⟩
  rw [hx] at hap
  have HA1:Hid (∀ W,Fr w W→Calls Tryz.prog 11 #[.agg #[.int .i64 v.kd,.int .i64 v.nm,.string ⟨v.tx.toArray⟩,.slice A v.ls.length c0,.slice A' v.ms.length c0'],.agg #[.int .i64 p.kd,.int .i64 p.nm,.string ⟨p.tx.toArray⟩,.slice C p.ls.length f,.slice C' p.ms.length f']] W fun e w'=>(∃ (D1:Option Addr) (g1:Nat) (D1':Option Addr) (g1':Nat),e=.returned (.tuple #[.agg #[.int .i64 x.kd,.int .i64 x.nm,.string ⟨x.tx.toArray⟩,.slice D1 x.ls.length g1,.slice D1' x.ms.length g1'],.int .i64 0])∧InV w' (Lo w'.heap.size) x (vA x D1 g1 D1' g1'))∧Fr W w'):=Lib.hid (fun W hW=>by have:=HA10.out W hW;rw [hap] at this;exact this.mono (fun e w' h=>h.some_))
  have HA2:Hid (∀ W,Fr w W→Calls Tryz.prog 12 #[.agg #[.int .i64 v.kd,.int .i64 v.nm,.string ⟨v.tx.toArray⟩,.slice A v.ls.length c0,.slice A' v.ms.length c0'],.agg #[.int .i64 p.kd,.int .i64 p.nm,.string ⟨p.tx.toArray⟩,.slice C p.ls.length f,.slice C' p.ms.length f']] W fun e w'=>(∃ (D1:Option Addr) (g1:Nat) (D1':Option Addr) (g1':Nat),e=.returned (.tuple #[.agg #[.int .i64 x.kd,.int .i64 x.nm,.string ⟨x.tx.toArray⟩,.slice D1 x.ls.length g1,.slice D1' x.ms.length g1'],.int .i64 0])∧InV w' (Lo w'.heap.size) x (vA x D1 g1 D1' g1'))∧Fr W w'):=Lib.hid (fun W hW=>by have:=HA20.out W hW;rw [hap] at this;exact this)
  have HSM:Hid (∀ W (D1:Option Addr) (g1:Nat) (D1':Option Addr) (g1':Nat) (D2:Option Addr) (g2:Nat) (D2':Option Addr) (g2':Nat),InV W (Lo W.heap.size) x (vA x D1 g1 D1' g1')→InV W (Lo W.heap.size) x (vA x D2 g2 D2' g2')→Calls Tryz.prog 13 #[.agg #[.int .i64 x.kd,.int .i64 x.nm,.string ⟨x.tx.toArray⟩,.slice D1 x.ls.length g1,.slice D1' x.ms.length g1'],.agg #[.int .i64 x.kd,.int .i64 x.nm,.string ⟨x.tx.toArray⟩,.slice D2 x.ls.length g2,.slice D2' x.ms.length g2']] W fun e w'=>e=.returned (.bool true)∧Fr W w'):=Lib.hid (fun W D1 g1 D1' g1' D2 g2 D2' g2' h1 h2=>same_self x D1 g1 D1' g1' D2 g2 D2' g2' W h1 h2)
  clear hv hp hb hbp hT hM n1 n2 hkv hkp hfp hf1 hap hx HA10 HA20
  rw [HA.out,HAP.out]
  go_enter Tryz.func3,Tryz.ntmps3
  go_upto_region 1 with fail
  have hb1:Blk ((w.alloc (.cells #[.int .i64 v.kd,.int .i64 v.nm,.string ⟨v.tx.toArray⟩,.slice A v.ls.length c0,.slice A' v.ms.length c0'] 25)).alloc (.cells #[.int .i64 p.kd,.int .i64 p.nm,.string ⟨p.tx.toArray⟩,.slice C p.ls.length f,.slice C' p.ms.length f'] 25)) w.heap.size #[.int .i64 v.kd,.int .i64 v.nm,.string ⟨v.tx.toArray⟩,.slice A v.ls.length c0,.slice A' v.ms.length c0'] 25:=(Blk.made w _ _).keep ((Fr.refl _).alloc _)
  have hb2:Blk ((w.alloc (.cells #[.int .i64 v.kd,.int .i64 v.nm,.string ⟨v.tx.toArray⟩,.slice A v.ls.length c0,.slice A' v.ms.length c0'] 25)).alloc (.cells #[.int .i64 p.kd,.int .i64 p.nm,.string ⟨p.tx.toArray⟩,.slice C p.ls.length f,.slice C' p.ms.length f'] 25)) (w.heap.size+1) #[.int .i64 p.kd,.int .i64 p.nm,.string ⟨p.tx.toArray⟩,.slice C p.ls.length f,.slice C' p.ms.length f'] 25:=boxz (Blk.made (w.alloc _) _ _)
  have hf0:Fr w ((w.alloc (.cells #[.int .i64 v.kd,.int .i64 v.nm,.string ⟨v.tx.toArray⟩,.slice A v.ls.length c0,.slice A' v.ms.length c0'] 25)).alloc (.cells #[.int .i64 p.kd,.int .i64 p.nm,.string ⟨p.tx.toArray⟩,.slice C p.ls.length f,.slice C' p.ms.length f'] 25)):=((Fr.refl w).alloc _).alloc _
  generalize ((w.alloc (.cells #[.int .i64 v.kd,.int .i64 v.nm,.string ⟨v.tx.toArray⟩,.slice A v.ls.length c0,.slice A' v.ms.length c0'] 25)).alloc (.cells #[.int .i64 p.kd,.int .i64 p.nm,.string ⟨p.tx.toArray⟩,.slice C p.ls.length f,.slice C' p.ms.length f'] 25))=W0 at hb1 hb2 hf0 ⊢
  generalize w.heap.size+1=X2 at hb2 ⊢
  obtain ⟨X1,hX1⟩:∃ X,w.heap.size=X:=⟨_,rfl⟩
  rw [hX1] at hb1 ⊢
  clear hX1
  have HB1:=Lib.hid hb1
  have HB2:=Lib.hid hb2
  have HF0:=Lib.hid hf0
  clear hb1 hb2 hf0
  go_upto_region 3 with (first
   | (go_at_call 10;have hq:=HF1.out;refine (HFW.out _ (HF0.out.trans hq)).mono ?_;rintro e w2 ⟨⟨b,rfl⟩,hf⟩;obtain ⟨⟨q0,q1,q2,q3,q4⟩,_⟩:=box5 (HB1.out.keep (hq.trans hf));have HF2:=Lib.hid (hq.trans hf);clear hf hq;cases b)
   | (go_at_call 9;refine (HAW.out _ HF0.out).mono ?_;rintro e w1 ⟨rfl,hf⟩;obtain ⟨⟨y0,y1,y2,y3,y4⟩,_⟩:=box5 (HB1.out.keep hf);obtain ⟨⟨z0,z1,z2,z3,z4⟩,_⟩:=box5 (HB2.out.keep hf);have HF1:=Lib.hid hf;clear hf))
  ·go_wp2_with (go_at_call 9;have hq:=HF2.out;refine (HAW.out _ (HF0.out.trans hq)).mono ?_;rintro e w9 ⟨rfl,hf⟩;have HF9:=Lib.hid ((HF0.out.trans hq).trans hf);clear hf hq)
   go_ret
   exact ⟨rfl,HF9.out⟩
  clear y0 y1 y2 y3 y4 z0 z1 z2 z3 z4 q0 q1 q2 q3 q4
  obtain ⟨⟨y0,y1,y2,y3,y4⟩,_⟩:=box5 (HB1.out.keep HF2.out)
  obtain ⟨⟨z0,z1,z2,z3,z4⟩,_⟩:=box5 (HB2.out.keep HF2.out)
  go_upto_region 4 with (go_at_call 11;refine (HA1.out _ (HF0.out.trans HF2.out)).mono ?_;rintro e w5 ⟨⟨D1,g1,D1',g1',rfl,hi⟩,hf⟩;have HI5:=Lib.hid hi;clear hi;have HF5:=Lib.hid (HF2.out.trans hf);clear hf)
  clear y0 y1 y2 y3 y4 z0 z1 z2 z3 z4
  have hb5:=Blk.made w5 #[.int .i64 x.kd,.int .i64 x.nm,.string ⟨x.tx.toArray⟩,.slice D1 x.ls.length g1,.slice D1' x.ms.length g1'] 25
  have hk5:Fr w5 (w5.alloc (.cells #[.int .i64 x.kd,.int .i64 x.nm,.string ⟨x.tx.toArray⟩,.slice D1 x.ls.length g1,.slice D1' x.ms.length g1'] 25)):=(Fr.refl w5).alloc _
  generalize (w5.alloc (.cells #[.int .i64 x.kd,.int .i64 x.nm,.string ⟨x.tx.toArray⟩,.slice D1 x.ls.length g1,.slice D1' x.ms.length g1'] 25))=Wa at hb5 hk5 ⊢
  generalize w5.heap.size=Xa at hb5 ⊢
  have HFa:Hid (Fr W0 Wa):=Lib.hid (HF5.out.trans hk5)
  have HIa:Hid (InV Wa (Lo Wa.heap.size) x (vA x D1 g1 D1' g1')):=Lib.hid ((HI5.out.keep (Nat.le_refl _) hk5).lo hk5.size)
  have HBa0:=Lib.hid hb5
  obtain ⟨⟨y0,y1,y2,y3,y4⟩,_⟩:=box5 (HB1.out.keep HFa.out)
  obtain ⟨⟨z0,z1,z2,z3,z4⟩,_⟩:=box5 (HB2.out.keep HFa.out)
  clear hb5 hk5
  go_upto_region 5 with (go_at_call 12;refine (HA2.out _ (HF0.out.trans HFa.out)).mono ?_;rintro e w6 ⟨⟨D2,g2,D2',g2',rfl,hi⟩,hf⟩;have HI6:=Lib.hid hi;clear hi;have HF6:=Lib.hid hf;clear hf)
  clear y0 y1 y2 y3 y4 z0 z1 z2 z3 z4
  have hb6:=Blk.made w6 #[.int .i64 x.kd,.int .i64 x.nm,.string ⟨x.tx.toArray⟩,.slice D2 x.ls.length g2,.slice D2' x.ms.length g2'] 25
  have hk6:Fr w6 (w6.alloc (.cells #[.int .i64 x.kd,.int .i64 x.nm,.string ⟨x.tx.toArray⟩,.slice D2 x.ls.length g2,.slice D2' x.ms.length g2'] 25)):=(Fr.refl w6).alloc _
  generalize (w6.alloc (.cells #[.int .i64 x.kd,.int .i64 x.nm,.string ⟨x.tx.toArray⟩,.slice D2 x.ls.length g2,.slice D2' x.ms.length g2'] 25))=Wb at hb6 hk6 ⊢
  generalize w6.heap.size=Xb at hb6 ⊢
  have HFab:Hid (Fr Wa Wb):=Lib.hid (HF6.out.trans hk6)
  have HFb:Hid (Fr w Wb):=Lib.hid ((HF0.out.trans HFa.out).trans HFab.out)
  have HBa:=Lib.hid (HBa0.out.keep HFab.out)
  have HBb:=Lib.hid hb6
  have HB1b:=Lib.hid (HB1.out.keep (HFa.out.trans HFab.out))
  have HB2b:=Lib.hid (HB2.out.keep (HFa.out.trans HFab.out))
  have HIb1:Hid (InV Wb.drew (Lo Wb.drew.heap.size) x (vA x D1 g1 D1' g1')):=Lib.hid ((HIa.out.keep (Nat.le_refl _) (HFab.out.drew)).lo HFab.out.drew.size)
  have HIb2:Hid (InV Wb.drew (Lo Wb.drew.heap.size) x (vA x D2 g2 D2' g2')):=Lib.hid ((HI6.out.keep (Nat.le_refl _) hk6.drew).lo hk6.drew.size)
  clear hb6 hk6
  have HS5:Hid (∀ W,Fr Wb W→W.cell? ⟨Xa,0,none⟩=some (.int .i64 x.kd)∧W.cell? ⟨Xa,1,none⟩=some (.int .i64 x.nm)∧W.cell? ⟨Xa,2,none⟩=some (.string ⟨x.tx.toArray⟩)∧W.cell? ⟨Xa,3,none⟩=some (.slice D1 x.ls.length g1)∧W.cell? ⟨Xa,4,none⟩=some (.slice D1' x.ms.length g1')∧W.cell? ⟨Xb,0,none⟩=some (.int .i64 x.kd)∧W.cell? ⟨Xb,1,none⟩=some (.int .i64 x.nm)∧W.cell? ⟨Xb,2,none⟩=some (.string ⟨x.tx.toArray⟩)∧W.cell? ⟨Xb,3,none⟩=some (.slice D2 x.ls.length g2)∧W.cell? ⟨Xb,4,none⟩=some (.slice D2' x.ms.length g2')∧W.cell? ⟨X1,0,none⟩=some (.int .i64 v.kd)∧W.cell? ⟨X1,1,none⟩=some (.int .i64 v.nm)∧W.cell? ⟨X1,2,none⟩=some (.string ⟨v.tx.toArray⟩)∧W.cell? ⟨X1,3,none⟩=some (.slice A v.ls.length c0)∧W.cell? ⟨X1,4,none⟩=some (.slice A' v.ms.length c0')∧W.cell? ⟨X2,0,none⟩=some (.int .i64 p.kd)∧W.cell? ⟨X2,1,none⟩=some (.int .i64 p.nm)∧W.cell? ⟨X2,2,none⟩=some (.string ⟨p.tx.toArray⟩)∧W.cell? ⟨X2,3,none⟩=some (.slice C p.ls.length f)∧W.cell? ⟨X2,4,none⟩=some (.slice C' p.ms.length f')):=Lib.hid (fun W hW=>by
   have a:=HBa.out.keep hW
   have b:=HBb.out.keep hW
   have c:=HB1b.out.keep hW
   have d:=HB2b.out.keep hW
   exact ⟨a.cell 0,a.cell 1,a.cell 2,a.cell 3,a.cell 4,b.cell 0,b.cell 1,b.cell 2,b.cell 3,b.cell 4,c.cell 0,c.cell 1,c.cell 2,c.cell 3,c.cell 4,d.cell 0,d.cell 1,d.cell 2,d.cell 3,d.cell 4⟩)
  go_upto_region 5 with fail
  refine wp_region_held_drew (S:=(fun W=>W.cell? ⟨Xa,0,none⟩=some (.int .i64 x.kd)∧W.cell? ⟨Xa,1,none⟩=some (.int .i64 x.nm)∧W.cell? ⟨Xa,2,none⟩=some (.string ⟨x.tx.toArray⟩)∧W.cell? ⟨Xa,3,none⟩=some (.slice D1 x.ls.length g1)∧W.cell? ⟨Xa,4,none⟩=some (.slice D1' x.ms.length g1')∧W.cell? ⟨Xb,0,none⟩=some (.int .i64 x.kd)∧W.cell? ⟨Xb,1,none⟩=some (.int .i64 x.nm)∧W.cell? ⟨Xb,2,none⟩=some (.string ⟨x.tx.toArray⟩)∧W.cell? ⟨Xb,3,none⟩=some (.slice D2 x.ls.length g2)∧W.cell? ⟨Xb,4,none⟩=some (.slice D2' x.ms.length g2')∧W.cell? ⟨X1,0,none⟩=some (.int .i64 v.kd)∧W.cell? ⟨X1,1,none⟩=some (.int .i64 v.nm)∧W.cell? ⟨X1,2,none⟩=some (.string ⟨v.tx.toArray⟩)∧W.cell? ⟨X1,3,none⟩=some (.slice A v.ls.length c0)∧W.cell? ⟨X1,4,none⟩=some (.slice A' v.ms.length c0')∧W.cell? ⟨X2,0,none⟩=some (.int .i64 p.kd)∧W.cell? ⟨X2,1,none⟩=some (.int .i64 p.nm)∧W.cell? ⟨X2,2,none⟩=some (.string ⟨p.tx.toArray⟩)∧W.cell? ⟨X2,3,none⟩=some (.slice C p.ls.length f)∧W.cell? ⟨X2,4,none⟩=some (.slice C' p.ms.length f'))) (by kernel_rfl) ?_ (fun hHeld=>?_)
  ·exact HS5.out _ (Fr.refl _).drew
  refine tk (i:=0) (v:=?_) rfl ⟨by rfl,?_⟩ hHeld ?_
  rotate_left
  ·(intro w' hSw;(try dsimp only at hSw);go_simp;try with_reducible rfl)
  try simp only [Act.put,fl]
  refine tk (i:=1) (v:=?_) rfl ⟨by rfl,?_⟩ hHeld ?_
  rotate_left
  ·(intro w' hSw;(try dsimp only at hSw);go_simp;try with_reducible rfl)
  try simp only [Act.put,fl]
  refine tk (i:=2) (v:=?_) rfl ⟨by rfl,?_⟩ hHeld ?_
  rotate_left
  ·(intro w' hSw;(try dsimp only at hSw);go_simp;try with_reducible rfl)
  try simp only [Act.put,fl]
  refine tk (i:=3) (v:=?_) rfl ⟨by rfl,?_⟩ hHeld ?_
  rotate_left
  ·(intro w' hSw;(try dsimp only at hSw);go_simp;try with_reducible rfl)
  try simp only [Act.put,fl]
  refine tk (i:=4) (v:=?_) rfl ⟨by rfl,?_⟩ hHeld ?_
  rotate_left
  ·(intro w' hSw;(try dsimp only at hSw);go_simp;try with_reducible rfl)
  try simp only [Act.put,fl]
  refine tk (i:=5) (v:=?_) rfl ⟨by rfl,?_⟩ hHeld ?_
  rotate_left
  ·(intro w' hSw;(try dsimp only at hSw);go_simp;try with_reducible rfl)
  try simp only [Act.put,fl]
  refine wpAnyH_ready (rs:=[6]) (by kernel_rfl) (by simp) ?_
  refine AllReadyH.cons rfl (fun K hK=>?_) AllReadyH.nil
  go_simp
  (go_at_call 13;refine (HSM.out _ D1 g1 D1' g1' D2 g2 D2' g2' HIb1.out HIb2.out).mono ?_;rintro en w8 ⟨rfl,hf⟩;have HF8:Hid (Fr Wb w8):=Lib.hid ((Fr.refl Wb).drew.trans hf);clear hf)
  refine hK.out _ _ (HS5.out _ HF8.out) (fun hH2=>?_)
  clear hK K
  try simp only [Act.put,fl]
  refine tk (i:=7) (v:=?_) rfl ⟨by rfl,?_⟩ hH2 ?_
  rotate_left
  ·(intro w' hSw;(try dsimp only at hSw);go_simp;try with_reducible rfl)
  try simp only [Act.put,fl]
  refine tk (i:=8) (v:=?_) rfl ⟨by rfl,?_⟩ hH2 ?_
  rotate_left
  ·(intro w' hSw;(try dsimp only at hSw);go_simp;try with_reducible rfl)
  try simp only [Act.put,fl]
  refine tk (i:=9) (v:=?_) rfl ⟨by rfl,?_⟩ hH2 ?_
  rotate_left
  ·(intro w' hSw;(try dsimp only at hSw);go_simp;try with_reducible rfl)
  try simp only [Act.put,fl]
  refine tk (i:=10) (v:=?_) rfl ⟨by rfl,?_⟩ hH2 ?_
  rotate_left
  ·(intro w' hSw;(try dsimp only at hSw);go_simp;try with_reducible rfl)
  try simp only [Act.put,fl]
  refine tk (i:=12) (v:=?_) rfl ⟨by rfl,?_⟩ hH2 ?_
  rotate_left
  ·(intro w' hSw;(try dsimp only at hSw);go_simp;try with_reducible rfl)
  try simp only [Act.put,fl]
  refine tk (i:=13) (v:=?_) rfl ⟨by rfl,?_⟩ hH2 ?_
  rotate_left
  ·(intro w' hSw;(try dsimp only at hSw);go_simp;try with_reducible rfl)
  try simp only [Act.put,fl]
  refine wpAnyH_ready (rs:=[11]) (by kernel_rfl) (by simp) ?_
  refine AllReadyH.cons rfl (fun K hK=>?_) AllReadyH.nil
  go_simp
  (go_at_call 14;refine (HFS.out _ ((HFb.out).trans HF8.out)).mono ?_;rintro en w9 ⟨rfl,hf⟩;have HF9:Hid (Fr Wb w9):=Lib.hid (Fr.trans HF8.out hf);clear hf)
  refine hK.out _ _ (HS5.out _ HF9.out) (fun hH3=>?_)
  clear hK K
  try simp only [Act.put,fl]
  refine wpAnyH_ready (rs:=[14]) (by kernel_rfl) (by simp) ?_
  refine AllReadyH.cons rfl (fun K hK=>?_) AllReadyH.nil
  go_simp
  (go_at_call 15;refine (HRF.out _ ((HFb.out).trans HF9.out)).mono ?_;rintro en w10 ⟨rfl,hf⟩;have HF10:Hid (Fr Wb w10):=Lib.hid (Fr.trans HF9.out hf);clear hf)
  refine hK.out _ _ (HS5.out _ HF10.out) (fun hH4=>?_)
  clear hK K
  try simp only [Act.put,fl]
  refine tk (i:=15) (v:=?_) rfl ⟨by rfl,?_⟩ hH4 ?_
  rotate_left
  ·(intro w' hSw;(try dsimp only at hSw);go_simp;try with_reducible rfl)
  try simp only [Act.put,fl]
  refine tk (i:=16) (v:=?_) rfl ⟨by rfl,?_⟩ hH4 ?_
  rotate_left
  ·(intro w' hSw;(try dsimp only at hSw);go_simp;try with_reducible rfl)
  try simp only [Act.put,fl]
  refine tk (i:=17) (v:=?_) rfl ⟨by rfl,?_⟩ hH4 ?_
  rotate_left
  ·(intro w' hSw;(try dsimp only at hSw);go_simp;try with_reducible rfl)
  try simp only [Act.put,fl]
  refine tk (i:=18) (v:=?_) rfl ⟨by rfl,?_⟩ hH4 ?_
  rotate_left
  ·(intro w' hSw;(try dsimp only at hSw);go_simp;try with_reducible rfl)
  try simp only [Act.put,fl]
  refine tk (i:=19) (v:=?_) rfl ⟨by rfl,?_⟩ hH4 ?_
  rotate_left
  ·(intro w' hSw;(try dsimp only at hSw);go_simp;try with_reducible rfl)
  try simp only [Act.put,fl]
  refine tk (i:=21) (v:=?_) rfl ⟨by rfl,?_⟩ hH4 ?_
  rotate_left
  ·(intro w' hSw;(try dsimp only at hSw);go_simp;try with_reducible rfl)
  try simp only [Act.put,fl]
  refine tk (i:=22) (v:=?_) rfl ⟨by rfl,?_⟩ hH4 ?_
  rotate_left
  ·(intro w' hSw;(try dsimp only at hSw);go_simp;try with_reducible rfl)
  try simp only [Act.put,fl]
  refine wpAnyH_ready (rs:=[20]) (by kernel_rfl) (by simp) ?_
  refine AllReadyH.cons rfl (fun K hK=>?_) AllReadyH.nil
  go_simp
  (go_at_call 14;refine (HFS.out _ ((HFb.out).trans HF10.out)).mono ?_;rintro en w11 ⟨rfl,hf⟩;have HF11:Hid (Fr Wb w11):=Lib.hid (Fr.trans HF10.out hf);clear hf)
  refine hK.out _ _ (HS5.out _ HF11.out) (fun hH5=>?_)
  clear hK K
  try simp only [Act.put,fl]
  refine tk (i:=23) (v:=?_) rfl ⟨by rfl,?_⟩ hH5 ?_
  rotate_left
  ·(intro w' hSw;(try dsimp only at hSw);go_simp;try with_reducible rfl)
  try simp only [Act.put,fl]
  refine tk (i:=24) (v:=?_) rfl ⟨by rfl,?_⟩ hH5 ?_
  rotate_left
  ·(intro w' hSw;(try dsimp only at hSw);go_simp;try with_reducible rfl)
  try simp only [Act.put,fl]
  refine tk (i:=25) (v:=?_) rfl ⟨by rfl,?_⟩ hH5 ?_
  rotate_left
  ·(intro w' hSw;(try dsimp only at hSw);go_simp;try with_reducible rfl)
  try simp only [Act.put,fl]
  refine wpAnyH_done (by kernel_rfl) ?_ _
  clear hHeld hH2 hH3 hH4 hH5
  go_wp2_with fail
  go_ret
  exact ⟨rfl,HFb.out.trans HF11.out⟩
end Go.Proofs.YtlmcfhokfiibkaaGreatDoor
