/- Chapter 09: PatchTurned's walk. -/
import Derived.Test.YtlmcfhokfiibkaaGreatDoorPaU
import Derived.Test.YtlmcfhokfiibkaaGreatDoorPcy
import Derived.Test.YtlmcfhokfiibkaaGreatDoorSms
import Derived.Test.YtlmcfhokfiibkaaGreatDoorCpa
import Derived.Test.YtlmcfhokfiibkaaGreatDoorOpenI
namespace Go.Proofs.YtlmcfhokfiibkaaGreatDoor
set_option maxRecDepth 100000
set_option maxHeartbeats 8000000
set_option linter.unusedVariables false
set_option linter.unusedSimpArgs false
open Go.RowKit

theorem Pc.nvM_perm {m m2:List (List UInt8 × JV)} (h:m.Perm m2):Rd.nvM m=Rd.nvM m2:=by
 induction h with
 | nil=>rfl
 | cons x _ ih=>rw [Rd.nvM_cons,Rd.nvM_cons,ih]
 | swap x y l=>rw [Rd.nvM_cons,Rd.nvM_cons,Rd.nvM_cons,Rd.nvM_cons];omega
 | trans _ _ h1 h2=>rw [h1,h2]
theorem Pc.bulkM_perm {m m2:List (List UInt8 × JV)} (h:m.Perm m2):JV.bulkM m=JV.bulkM m2:=by
 induction h with
 | nil=>rfl
 | cons x _ ih=>rw [JV.bulkM_cons,JV.bulkM_cons,ih]
 | swap x y l=>rw [JV.bulkM_cons,JV.bulkM_cons,JV.bulkM_cons,JV.bulkM_cons];omega
 | trans _ _ h1 h2=>rw [h1,h2]
theorem pturned_law (v p:JV) (A:Option Addr) (c0:Nat) (A':Option Addr) (c0':Nat) (C:Option Addr) (f:Nat) (C':Option Addr) (f':Nat) (w:World) (hv:InV w (Lo w.heap.size) v (vA v A c0 A' c0')) (hp:InV w (Lo w.heap.size) p (vA p C f C' f')) (hb:JV.bulk v≤1048576) (hbp:JV.bulk p≤1048576) (hT:LowTabs w) (hM:MxL w) (ord:List Int) (OA:Option Addr) (oc:Nat) (ho:IsC w OA ord) (hol:ord.length≤1048576) (hob:∀ n∈ord,-9223372036854775808≤n∧n≤9223372036854775807):
  Calls Tryz.prog 4 #[vA v A c0 A' c0',vA p C f C' f',.slice OA ord.length oc] w fun e w'=>e=.returned (.bool true)∧Fr w w':=by

 have HT:=Lib.hid hT
 have HM:=Lib.hid hM
 have HA:Hid (vA v A c0 A' c0'=.agg #[.int .i64 v.kd,.int .i64 v.nm,.string ⟨v.tx.toArray⟩,.slice A v.ls.length c0,.slice A' v.ms.length c0']):=rfl
 have HAP:Hid (vA p C f C' f'=.agg #[.int .i64 p.kd,.int .i64 p.nm,.string ⟨p.tx.toArray⟩,.slice C p.ls.length f,.slice C' p.ms.length f']):=rfl
 have n1:=Pc.nv3 v
 have n2:=Pc.nv3 p
 have hkv:∀ W,Fr w W→InV W (Lo W.heap.size) v (vA v A c0 A' c0'):=fun W hW=>(hv.keep (Nat.le_refl _) hW).lo hW.size
 have hkp:∀ W,Fr w W→InV W (Lo W.heap.size) p (vA p C f C' f'):=fun W hW=>(hp.keep (Nat.le_refl _) hW).lo hW.size
 have HAW:Hid (∀ W,Fr w W→Calls Tryz.prog 9 #[] W fun e w'=>e=.returned (.bool true)∧Fr W w'):=Lib.hid (fun W hW=>awake09 W (HT.out.keep hW) (HM.out.keep hW))
 have HFW:Hid (∀ W,Fr w W→Calls Tryz.prog 10 #[.agg #[.int .i64 v.kd,.int .i64 v.nm,.string ⟨v.tx.toArray⟩,.slice A v.ls.length c0,.slice A' v.ms.length c0'],.agg #[.int .i64 p.kd,.int .i64 p.nm,.string ⟨p.tx.toArray⟩,.slice C p.ls.length f,.slice C' p.ms.length f']] W fun e w'=>(∃ b:Bool,e=.returned (.bool b))∧Fr W w'):=Lib.hid (fun W hW=>few09_is v p A c0 A' c0' C f C' f' W (hkv W hW) (hkp W hW) (by omega) (by omega))
 rcases hc1:JV.chk v 1 0 with ⟨k1,q1⟩
 rcases hc2:JV.chk p 1 0 with ⟨k2,q2⟩
 have HC1:Hid (∀ W,Fr w W→Calls Tryz.prog 16 #[.agg #[.int .i64 v.kd,.int .i64 v.nm,.string ⟨v.tx.toArray⟩,.slice A v.ls.length c0,.slice A' v.ms.length c0']] W fun e w'=>e=.returned (.int .i64 (k1:Nat))∧Fr W w'):=Lib.hid (fun W hW=>ccheck_is v A c0 A' c0' W k1 q1 (hkv W hW) hc1)
 have HC2:Hid (∀ W,Fr w W→Calls Tryz.prog 16 #[.agg #[.int .i64 p.kd,.int .i64 p.nm,.string ⟨p.tx.toArray⟩,.slice C p.ls.length f,.slice C' p.ms.length f']] W fun e w'=>e=.returned (.int .i64 (k2:Nat))∧Fr W w'):=Lib.hid (fun W hW=>ccheck_is p C f C' f' W k2 q2 (hkp W hW) hc2)

 have HO:=Lib.hid ho
 have HOB:=Lib.hid hob
 have hol':(ord.length:Int)≤1048576:=by omega
 clear ho hob
 by_cases h1:k1=0
 rotate_left

 ·have e1:((k1:Int) != 0)=true:=by rw [bne_iff_ne];omega
  clear hv hp hb hbp hT hM n1 n2 hkv hkp hc1 hc2
  rw [HA.out,HAP.out]
  go_enter Tryz.func4,Tryz.ntmps4
  go_upto_region 1 with fail
  have hb1:Blk ((w.alloc (.cells #[.int .i64 v.kd,.int .i64 v.nm,.string ⟨v.tx.toArray⟩,.slice A v.ls.length c0,.slice A' v.ms.length c0'] 25)).alloc (.cells #[.int .i64 p.kd,.int .i64 p.nm,.string ⟨p.tx.toArray⟩,.slice C p.ls.length f,.slice C' p.ms.length f'] 25)) w.heap.size #[.int .i64 v.kd,.int .i64 v.nm,.string ⟨v.tx.toArray⟩,.slice A v.ls.length c0,.slice A' v.ms.length c0'] 25:=(Blk.made w _ _).keep ((Fr.refl _).alloc _)
  have hb2:Blk ((w.alloc (.cells #[.int .i64 v.kd,.int .i64 v.nm,.string ⟨v.tx.toArray⟩,.slice A v.ls.length c0,.slice A' v.ms.length c0'] 25)).alloc (.cells #[.int .i64 p.kd,.int .i64 p.nm,.string ⟨p.tx.toArray⟩,.slice C p.ls.length f,.slice C' p.ms.length f'] 25)) (w.heap.size+1) #[.int .i64 p.kd,.int .i64 p.nm,.string ⟨p.tx.toArray⟩,.slice C p.ls.length f,.slice C' p.ms.length f'] 25:=boxz (Blk.made (w.alloc _) _ _)
  have hf0:Fr w ((w.alloc (.cells #[.int .i64 v.kd,.int .i64 v.nm,.string ⟨v.tx.toArray⟩,.slice A v.ls.length c0,.slice A' v.ms.length c0'] 25)).alloc (.cells #[.int .i64 p.kd,.int .i64 p.nm,.string ⟨p.tx.toArray⟩,.slice C p.ls.length f,.slice C' p.ms.length f'] 25)):=((Fr.refl w).alloc _).alloc _
  generalize ((w.alloc (.cells #[.int .i64 v.kd,.int .i64 v.nm,.string ⟨v.tx.toArray⟩,.slice A v.ls.length c0,.slice A' v.ms.length c0'] 25)).alloc (.cells #[.int .i64 p.kd,.int .i64 p.nm,.string ⟨p.tx.toArray⟩,.slice C p.ls.length f,.slice C' p.ms.length f'] 25))=W0 at hb1 hb2 hf0 ⊢
  generalize w.heap.size+1=X2 at hb2 ⊢
  obtain ⟨X1,hX1⟩:∃ X,w.heap.size=X:=⟨_,rfl⟩
  rw [hX1] at hb1 ⊢
  clear hX1
  have HB1:=Lib.hid hb1
  have HB2:=Lib.hid hb2
  have HF0:=Lib.hid hf0
  clear hb1 hb2 hf0
  go_wp2_with (first
   | (go_at_call 9;have hq:=HF3.out;refine (HAW.out _ (HF0.out.trans hq)).mono ?_;rintro e w9 ⟨rfl,hf⟩;have HF9:=Lib.hid ((HF0.out.trans hq).trans hf);clear hf hq)
   | (go_at_call 16;have hq:=HF2.out;refine (HC1.out _ (HF0.out.trans hq)).mono ?_;rintro e w3 ⟨rfl,hf⟩;obtain ⟨⟨r0,r1,r2,r3,r4⟩,_⟩:=box5 (HB2.out.keep (hq.trans hf));have HF3:=Lib.hid (hq.trans hf);clear hf hq)
   | (go_at_call 9;have hq:=HF2.out;refine (HAW.out _ (HF0.out.trans hq)).mono ?_;rintro e w9 ⟨rfl,hf⟩;have HF9:=Lib.hid ((HF0.out.trans hq).trans hf);clear hf hq)
   | (go_at_call 10;have hq:=HF1.out;refine (HFW.out _ (HF0.out.trans hq)).mono ?_;rintro e w2 ⟨⟨b,rfl⟩,hf⟩;obtain ⟨⟨q0,q1,q2,q3,q4⟩,_⟩:=box5 (HB1.out.keep (hq.trans hf));have HF2:=Lib.hid (hq.trans hf);clear hf hq;cases b)
   | (go_at_call 9;refine (HAW.out _ HF0.out).mono ?_;rintro e w1 ⟨rfl,hf⟩;obtain ⟨⟨y0,y1,y2,y3,y4⟩,_⟩:=box5 (HB1.out.keep hf);obtain ⟨⟨z0,z1,z2,z3,z4⟩,_⟩:=box5 (HB2.out.keep hf);have HF1:=Lib.hid hf;clear hf))
  all_goals go_ret
  all_goals exact ⟨rfl,HF9.out⟩

 by_cases h2:k2=0
 rotate_left

 ·have e2:((k2:Int) != 0)=true:=by rw [bne_iff_ne];omega
  subst h1
  clear hv hp hb hbp hT hM n1 n2 hkv hkp hc1 hc2
  rw [HA.out,HAP.out]
  go_enter Tryz.func4,Tryz.ntmps4
  go_upto_region 1 with fail
  have hb1:Blk ((w.alloc (.cells #[.int .i64 v.kd,.int .i64 v.nm,.string ⟨v.tx.toArray⟩,.slice A v.ls.length c0,.slice A' v.ms.length c0'] 25)).alloc (.cells #[.int .i64 p.kd,.int .i64 p.nm,.string ⟨p.tx.toArray⟩,.slice C p.ls.length f,.slice C' p.ms.length f'] 25)) w.heap.size #[.int .i64 v.kd,.int .i64 v.nm,.string ⟨v.tx.toArray⟩,.slice A v.ls.length c0,.slice A' v.ms.length c0'] 25:=(Blk.made w _ _).keep ((Fr.refl _).alloc _)
  have hb2:Blk ((w.alloc (.cells #[.int .i64 v.kd,.int .i64 v.nm,.string ⟨v.tx.toArray⟩,.slice A v.ls.length c0,.slice A' v.ms.length c0'] 25)).alloc (.cells #[.int .i64 p.kd,.int .i64 p.nm,.string ⟨p.tx.toArray⟩,.slice C p.ls.length f,.slice C' p.ms.length f'] 25)) (w.heap.size+1) #[.int .i64 p.kd,.int .i64 p.nm,.string ⟨p.tx.toArray⟩,.slice C p.ls.length f,.slice C' p.ms.length f'] 25:=boxz (Blk.made (w.alloc _) _ _)
  have hf0:Fr w ((w.alloc (.cells #[.int .i64 v.kd,.int .i64 v.nm,.string ⟨v.tx.toArray⟩,.slice A v.ls.length c0,.slice A' v.ms.length c0'] 25)).alloc (.cells #[.int .i64 p.kd,.int .i64 p.nm,.string ⟨p.tx.toArray⟩,.slice C p.ls.length f,.slice C' p.ms.length f'] 25)):=((Fr.refl w).alloc _).alloc _
  generalize ((w.alloc (.cells #[.int .i64 v.kd,.int .i64 v.nm,.string ⟨v.tx.toArray⟩,.slice A v.ls.length c0,.slice A' v.ms.length c0'] 25)).alloc (.cells #[.int .i64 p.kd,.int .i64 p.nm,.string ⟨p.tx.toArray⟩,.slice C p.ls.length f,.slice C' p.ms.length f'] 25))=W0 at hb1 hb2 hf0 ⊢
  generalize w.heap.size+1=X2 at hb2 ⊢
  obtain ⟨X1,hX1⟩:∃ X,w.heap.size=X:=⟨_,rfl⟩
  rw [hX1] at hb1 ⊢
  clear hX1
  have HB1:=Lib.hid hb1
  have HB2:=Lib.hid hb2
  have HF0:=Lib.hid hf0
  clear hb1 hb2 hf0
  go_wp2_with (first
   | (go_at_call 9;have hq:=HF4.out;refine (HAW.out _ (HF0.out.trans hq)).mono ?_;rintro e w9 ⟨rfl,hf⟩;have HF9:=Lib.hid ((HF0.out.trans hq).trans hf);clear hf hq)
   | (go_at_call 16;have hq:=HF3.out;refine (HC2.out _ (HF0.out.trans hq)).mono ?_;rintro e w4 ⟨rfl,hf⟩;have HF4:=Lib.hid (hq.trans hf);clear hf hq)
   | (go_at_call 16;have hq:=HF2.out;refine (HC1.out _ (HF0.out.trans hq)).mono ?_;rintro e w3 ⟨rfl,hf⟩;obtain ⟨⟨r0,r1,r2,r3,r4⟩,_⟩:=box5 (HB2.out.keep (hq.trans hf));have HF3:=Lib.hid (hq.trans hf);clear hf hq)
   | (go_at_call 9;have hq:=HF2.out;refine (HAW.out _ (HF0.out.trans hq)).mono ?_;rintro e w9 ⟨rfl,hf⟩;have HF9:=Lib.hid ((HF0.out.trans hq).trans hf);clear hf hq)
   | (go_at_call 10;have hq:=HF1.out;refine (HFW.out _ (HF0.out.trans hq)).mono ?_;rintro e w2 ⟨⟨b,rfl⟩,hf⟩;obtain ⟨⟨q0,q1,q2,q3,q4⟩,_⟩:=box5 (HB1.out.keep (hq.trans hf));have HF2:=Lib.hid (hq.trans hf);clear hf hq;cases b)
   | (go_at_call 9;refine (HAW.out _ HF0.out).mono ?_;rintro e w1 ⟨rfl,hf⟩;obtain ⟨⟨y0,y1,y2,y3,y4⟩,_⟩:=box5 (HB1.out.keep hf);obtain ⟨⟨z0,z1,z2,z3,z4⟩,_⟩:=box5 (HB2.out.keep hf);have HF1:=Lib.hid hf;clear hf))
  all_goals go_ret
  all_goals exact ⟨rfl,HF9.out⟩

 subst h1
 subst h2
 by_cases h4:ord.length≤400
 rotate_left
 ·have e4:(400:Int)<(ord.length:Int):=by omega
  clear hv hp hb hbp hT hM n1 n2 hkv hkp hc1 hc2
  rw [HA.out,HAP.out]
  go_enter Tryz.func4,Tryz.ntmps4
  go_upto_region 1 with fail
  have hb1:Blk ((w.alloc (.cells #[.int .i64 v.kd,.int .i64 v.nm,.string ⟨v.tx.toArray⟩,.slice A v.ls.length c0,.slice A' v.ms.length c0'] 25)).alloc (.cells #[.int .i64 p.kd,.int .i64 p.nm,.string ⟨p.tx.toArray⟩,.slice C p.ls.length f,.slice C' p.ms.length f'] 25)) w.heap.size #[.int .i64 v.kd,.int .i64 v.nm,.string ⟨v.tx.toArray⟩,.slice A v.ls.length c0,.slice A' v.ms.length c0'] 25:=(Blk.made w _ _).keep ((Fr.refl _).alloc _)
  have hb2:Blk ((w.alloc (.cells #[.int .i64 v.kd,.int .i64 v.nm,.string ⟨v.tx.toArray⟩,.slice A v.ls.length c0,.slice A' v.ms.length c0'] 25)).alloc (.cells #[.int .i64 p.kd,.int .i64 p.nm,.string ⟨p.tx.toArray⟩,.slice C p.ls.length f,.slice C' p.ms.length f'] 25)) (w.heap.size+1) #[.int .i64 p.kd,.int .i64 p.nm,.string ⟨p.tx.toArray⟩,.slice C p.ls.length f,.slice C' p.ms.length f'] 25:=boxz (Blk.made (w.alloc _) _ _)
  have hf0:Fr w ((w.alloc (.cells #[.int .i64 v.kd,.int .i64 v.nm,.string ⟨v.tx.toArray⟩,.slice A v.ls.length c0,.slice A' v.ms.length c0'] 25)).alloc (.cells #[.int .i64 p.kd,.int .i64 p.nm,.string ⟨p.tx.toArray⟩,.slice C p.ls.length f,.slice C' p.ms.length f'] 25)):=((Fr.refl w).alloc _).alloc _
  generalize ((w.alloc (.cells #[.int .i64 v.kd,.int .i64 v.nm,.string ⟨v.tx.toArray⟩,.slice A v.ls.length c0,.slice A' v.ms.length c0'] 25)).alloc (.cells #[.int .i64 p.kd,.int .i64 p.nm,.string ⟨p.tx.toArray⟩,.slice C p.ls.length f,.slice C' p.ms.length f'] 25))=W0 at hb1 hb2 hf0 ⊢
  generalize w.heap.size+1=X2 at hb2 ⊢
  obtain ⟨X1,hX1⟩:∃ X,w.heap.size=X:=⟨_,rfl⟩
  rw [hX1] at hb1 ⊢
  clear hX1
  have HB1:=Lib.hid hb1
  have HB2:=Lib.hid hb2
  have HF0:=Lib.hid hf0
  clear hb1 hb2 hf0
  go_wp2_with (first
   | (go_at_call 9;have hq:=HF4.out;refine (HAW.out _ (HF0.out.trans hq)).mono ?_;rintro e w9 ⟨rfl,hf⟩;have HF9:=Lib.hid ((HF0.out.trans hq).trans hf);clear hf hq)
   | (go_at_call 16;have hq:=HF3.out;refine (HC2.out _ (HF0.out.trans hq)).mono ?_;rintro e w4 ⟨rfl,hf⟩;have HF4:=Lib.hid (hq.trans hf);clear hf hq)
   | (go_at_call 16;have hq:=HF2.out;refine (HC1.out _ (HF0.out.trans hq)).mono ?_;rintro e w3 ⟨rfl,hf⟩;obtain ⟨⟨r0,r1,r2,r3,r4⟩,_⟩:=box5 (HB2.out.keep (hq.trans hf));have HF3:=Lib.hid (hq.trans hf);clear hf hq)
   | (go_at_call 9;have hq:=HF2.out;refine (HAW.out _ (HF0.out.trans hq)).mono ?_;rintro e w9 ⟨rfl,hf⟩;have HF9:=Lib.hid ((HF0.out.trans hq).trans hf);clear hf hq)
   | (go_at_call 10;have hq:=HF1.out;refine (HFW.out _ (HF0.out.trans hq)).mono ?_;rintro e w2 ⟨⟨b,rfl⟩,hf⟩;obtain ⟨⟨q0,q1,q2,q3,q4⟩,_⟩:=box5 (HB1.out.keep (hq.trans hf));have HF2:=Lib.hid (hq.trans hf);clear hf hq;cases b)
   | (go_at_call 9;refine (HAW.out _ HF0.out).mono ?_;rintro e w1 ⟨rfl,hf⟩;obtain ⟨⟨y0,y1,y2,y3,y4⟩,_⟩:=box5 (HB1.out.keep hf);obtain ⟨⟨z0,z1,z2,z3,z4⟩,_⟩:=box5 (HB2.out.keep hf);have HF1:=Lib.hid hf;clear hf))
  all_goals go_ret
  all_goals exact ⟨rfl,HF9.out⟩
 have e4:¬ (400:Int)<(ord.length:Int):=by omega
 have hov:JV.okB v=true:=(JV.chk_ok v 1 0 (by rw [hc1])).1
 have hop:JV.okB p=true:=(JV.chk_ok p 1 0 (by rw [hc2])).1
 have HAT:Hid (∀ m,m.Perm p.ms→(Pc.apply v p=none∧Pc.apply v (.mk p.kd p.nm p.tx p.ls m)=none) ∨ ∃ x y,Pc.apply v p=some x∧Pc.apply v (.mk p.kd p.nm p.tx p.ls m)=some y∧S7 x y):=Lib.hid (fun m hm=>Pc.apply_turned (p:=p) (q:=.mk p.kd p.nm p.tx p.ls m) rfl hm.symm hov hop)
 have HPE:Hid (0<p.ms.length→p.ls=[]):=Lib.hid (fun h=>by
  rcases JV.right_form ((JV.ok_iff p).1 hop).1 with rfl | ⟨_,_,rfl⟩ | ⟨_,_,_,rfl⟩ | ⟨_,_,rfl⟩ | ⟨_,rfl⟩ | ⟨_,rfl⟩
  all_goals first | rfl | exact absurd h (by simp [JV.nullV,JV.boolV,JV.intV,JV.textV,JV.listV,JV.ms]))
 have HPF:Hid ((-9223372036854775808≤p.nm∧p.nm≤9223372036854775807)∧(-9223372036854775808≤p.kd∧p.kd≤9223372036854775807)∧p.tx.length≤140737488355328):=Lib.hid (by obtain ⟨a,b,c,_,_⟩:=hp.facts;exact ⟨a,b,c⟩)
 have HP1:Hid (∀ W,Fr w W→Calls Tryz.prog 11 #[.agg #[.int .i64 v.kd,.int .i64 v.nm,.string ⟨v.tx.toArray⟩,.slice A v.ls.length c0,.slice A' v.ms.length c0'],.agg #[.int .i64 p.kd,.int .i64 p.nm,.string ⟨p.tx.toArray⟩,.slice C p.ls.length f,.slice C' p.ms.length f']] W (ApP W (Pc.apply v p))):=Lib.hid (fun W hW=>papply_x v p A c0 A' c0' C f C' f' W (hkv W hW) (hkp W hW) (by omega) hbp (hM.keep hW))
 have HP3:Hid (∀ W,Fr w W→Calls Tryz.prog 11 #[.agg #[.int .i64 v.kd,.int .i64 v.nm,.string ⟨v.tx.toArray⟩,.slice A v.ls.length c0,.slice A' v.ms.length c0'],.agg #[.int .i64 6,.int .i64 0,.string ⟨#[]⟩,.slice none 0 0,.slice none 0 0]] W (ApP W (if v.kd=6 then some v else none))):=Lib.hid (fun W hW=>by
  have he:Rd.nv (JV.mapV [])=1:=by show Rd.nv (.mk 6 0 [] [] [])=1;rw [Rd.nv_mk,Rd.nvL_nil,Rd.nvM_nil]
  have:=papply_x v (JV.mapV []) A c0 A' c0' none 0 none 0 W (hkv W hW) (InV.leaf _ _ 6 0 [] none none 0 0 (by decide) (by decide) (by decide) (by decide) (by simp)) (by omega) (by decide) (hM.keep hW)
  rw [Pc.apply_empty] at this
  exact this)
 have HPX:Hid (∀ (m:List (List UInt8 × JV)) (G:Option Addr) (k:Nat) (G':Option Addr) (k':Nat) W,Fr w W→m.Perm p.ms→InV W (Lo W.heap.size) (.mk p.kd p.nm p.tx p.ls m) (vA (.mk p.kd p.nm p.tx p.ls m) G k G' k')→Calls Tryz.prog 11 #[.agg #[.int .i64 v.kd,.int .i64 v.nm,.string ⟨v.tx.toArray⟩,.slice A v.ls.length c0,.slice A' v.ms.length c0'],.agg #[.int .i64 p.kd,.int .i64 p.nm,.string ⟨p.tx.toArray⟩,.slice G p.ls.length k,.slice G' p.ms.length k']] W (ApP W (Pc.apply v (.mk p.kd p.nm p.tx p.ls m)))):=Lib.hid (fun m G k G' k' W hW hm hi=>by
  have e1:Rd.nv (.mk p.kd p.nm p.tx p.ls m)=Rd.nv p:=by rw [Rd.nv_mk,Pt.nv_eq p,Pc.nvM_perm hm]
  have e2:JV.bulk (.mk p.kd p.nm p.tx p.ls m)=JV.bulk p:=by
   have e3:JV.bulk (.mk p.kd p.nm p.tx p.ls p.ms)=JV.bulk p:=by cases p;rfl
   rw [← e3,JV.bulk_mk,JV.bulk_mk,Pc.bulkM_perm hm]
  have:=papply_x v (.mk p.kd p.nm p.tx p.ls m) A c0 A' c0' G k G' k' W (hkv W hW) hi (by omega) (by omega) (hM.keep hW)
  have hml:(JV.mk p.kd p.nm p.tx p.ls m).ms.length=p.ms.length:=hm.length_eq
  rw [hml] at this
  exact this)
 have HCP:Hid (∀ W,Fr w W→Calls Tryz.prog 17 #[.agg #[.int .i64 p.kd,.int .i64 p.nm,.string ⟨p.tx.toArray⟩,.slice C p.ls.length f,.slice C' p.ms.length f']] W fun e w'=>(∃ (G:Option Addr) (k:Nat) (G':Option Addr) (k':Nat),e=.returned (.agg #[.int .i64 p.kd,.int .i64 p.nm,.string ⟨p.tx.toArray⟩,.slice G p.ls.length k,.slice G' p.ms.length k'])∧InV w' (Be W.heap.size w'.heap.size) p (vA p G k G' k')∧(0<p.ms.length → ∃ g,G'=some ⟨g,0,none⟩∧W.heap.size≤g∧CqI w' g p.ms (fun b=>Be W.heap.size w'.heap.size b∧b≠g) (Lo W.heap.size) p.ms.length))∧Fr W w'):=Lib.hid (fun W hW=>copyq_is p _ W (hkp W hW) (by omega))
 have HKV:=Lib.hid hkv
 have hml':(p.ms.length:Int)≤1048576:=by have:=Cp.nvM_len p.ms;have:=Pt.nv_eq p;omega
 have hkd:v.kd=6 ∨ ¬ v.kd=6:=by omega
 have HSC:Hid (∀ x,Pc.apply v p=some x→v.kd=6):=Lib.hid (fun x hx=>by obtain ⟨l,_,hf,_⟩:=Pc.apply_some hx;exact (Pc.fits_all hf).1)
 clear hv hp hb hbp hT hM n1 n2 hkv hkp hc1 hc2 hov hop
 rw [HA.out,HAP.out]
 go_enter Tryz.func4,Tryz.ntmps4
 go_upto_region 1 with fail
 have hb1:Blk ((w.alloc (.cells #[.int .i64 v.kd,.int .i64 v.nm,.string ⟨v.tx.toArray⟩,.slice A v.ls.length c0,.slice A' v.ms.length c0'] 25)).alloc (.cells #[.int .i64 p.kd,.int .i64 p.nm,.string ⟨p.tx.toArray⟩,.slice C p.ls.length f,.slice C' p.ms.length f'] 25)) w.heap.size #[.int .i64 v.kd,.int .i64 v.nm,.string ⟨v.tx.toArray⟩,.slice A v.ls.length c0,.slice A' v.ms.length c0'] 25:=(Blk.made w _ _).keep ((Fr.refl _).alloc _)
 have hb2:Blk ((w.alloc (.cells #[.int .i64 v.kd,.int .i64 v.nm,.string ⟨v.tx.toArray⟩,.slice A v.ls.length c0,.slice A' v.ms.length c0'] 25)).alloc (.cells #[.int .i64 p.kd,.int .i64 p.nm,.string ⟨p.tx.toArray⟩,.slice C p.ls.length f,.slice C' p.ms.length f'] 25)) (w.heap.size+1) #[.int .i64 p.kd,.int .i64 p.nm,.string ⟨p.tx.toArray⟩,.slice C p.ls.length f,.slice C' p.ms.length f'] 25:=boxz (Blk.made (w.alloc _) _ _)
 have hf0:Fr w ((w.alloc (.cells #[.int .i64 v.kd,.int .i64 v.nm,.string ⟨v.tx.toArray⟩,.slice A v.ls.length c0,.slice A' v.ms.length c0'] 25)).alloc (.cells #[.int .i64 p.kd,.int .i64 p.nm,.string ⟨p.tx.toArray⟩,.slice C p.ls.length f,.slice C' p.ms.length f'] 25)):=((Fr.refl w).alloc _).alloc _
 generalize ((w.alloc (.cells #[.int .i64 v.kd,.int .i64 v.nm,.string ⟨v.tx.toArray⟩,.slice A v.ls.length c0,.slice A' v.ms.length c0'] 25)).alloc (.cells #[.int .i64 p.kd,.int .i64 p.nm,.string ⟨p.tx.toArray⟩,.slice C p.ls.length f,.slice C' p.ms.length f'] 25))=W0 at hb1 hb2 hf0 ⊢
 generalize w.heap.size+1=X2 at hb2 ⊢
 obtain ⟨X1,hX1⟩:∃ X,w.heap.size=X:=⟨_,rfl⟩
 rw [hX1] at hb1 ⊢
 clear hX1
 have HB1:=Lib.hid hb1
 have HB2:=Lib.hid hb2
 have HF0:=Lib.hid hf0
 clear hb1 hb2 hf0
 go_upto_region 3 with (first
  | (go_at_call 16;have hq:=HF3.out;refine (HC2.out _ (HF0.out.trans hq)).mono ?_;rintro e w4 ⟨rfl,hf⟩;have HF4:=Lib.hid (hq.trans hf);clear hf hq)
  | (go_at_call 16;have hq:=HF2.out;refine (HC1.out _ (HF0.out.trans hq)).mono ?_;rintro e w3 ⟨rfl,hf⟩;obtain ⟨⟨r0,r1,r2,r3,r4⟩,_⟩:=box5 (HB2.out.keep (hq.trans hf));have HF3:=Lib.hid (hq.trans hf);clear hf hq)
  | (go_at_call 10;have hq:=HF1.out;refine (HFW.out _ (HF0.out.trans hq)).mono ?_;rintro e w2 ⟨⟨b,rfl⟩,hf⟩;obtain ⟨⟨q0,q1,q2,q3,q4⟩,_⟩:=box5 (HB1.out.keep (hq.trans hf));have HF2:=Lib.hid (hq.trans hf);clear hf hq;cases b)
  | (go_at_call 9;refine (HAW.out _ HF0.out).mono ?_;rintro e w1 ⟨rfl,hf⟩;obtain ⟨⟨y0,y1,y2,y3,y4⟩,_⟩:=box5 (HB1.out.keep hf);obtain ⟨⟨z0,z1,z2,z3,z4⟩,_⟩:=box5 (HB2.out.keep hf);have HF1:=Lib.hid hf;clear hf))
 ·go_wp2_with (go_at_call 9;have hq:=HF2.out;refine (HAW.out _ (HF0.out.trans hq)).mono ?_;rintro e w9 ⟨rfl,hf⟩;have HF9:=Lib.hid ((HF0.out.trans hq).trans hf);clear hf hq)
  go_ret
  exact ⟨rfl,HF9.out⟩
 clear y0 y1 y2 y3 y4 z0 z1 z2 z3 z4 q0 q1 q2 q3 q4 r0 r1 r2 r3 r4
 obtain ⟨⟨z0,z1,z2,z3,z4⟩,_⟩:=box5 (HB2.out.keep HF4.out)
 go_upto_region 4 with (go_at_call 17;refine (HCP.out _ (HF0.out.trans HF4.out)).mono ?_;rintro e w5 ⟨⟨G,k,G',k',rfl,hi,hq⟩,hf⟩;have HI5:=Lib.hid hi;have HQ5:=Lib.hid hq;have HF5:=Lib.hid hf;clear hi hq hf)
 clear z0 z1 z2 z3 z4
 have hb7:=Blk.made w5 #[.int .i64 p.kd,.int .i64 p.nm,.string ⟨p.tx.toArray⟩,.slice G p.ls.length k,.slice G' p.ms.length k'] 25
 have hk7:Fr w5 (w5.alloc (.cells #[.int .i64 p.kd,.int .i64 p.nm,.string ⟨p.tx.toArray⟩,.slice G p.ls.length k,.slice G' p.ms.length k'] 25)):=(Fr.refl w5).alloc _
 generalize (w5.alloc (.cells #[.int .i64 p.kd,.int .i64 p.nm,.string ⟨p.tx.toArray⟩,.slice G p.ls.length k,.slice G' p.ms.length k'] 25))=W4 at hb7 hk7 ⊢
 obtain ⟨X7,hX7⟩:∃ X,w5.heap.size=X:=⟨_,rfl⟩
 rw [hX7] at hb7 ⊢
 obtain ⟨M,hM⟩:∃ M,p.ms.length=M:=⟨_,rfl⟩
 have HM:=Lib.hid hM
 have HXX:Hid (w.heap.size≤w4.heap.size∧(X1<w4.heap.size∧X2<w4.heap.size)∧w4.heap.size≤X7∧X7<W4.heap.size):=Lib.hid ⟨(HF0.out.trans HF4.out).size,by have:=HB1.out.lt;have:=HB2.out.lt;have:=HF4.out.size;omega,by rw [← hX7];exact HF5.out.size,hb7.lt⟩
 obtain ⟨g,S,O,hg1,hg2,hg3⟩:∃ (g:Nat) (S O:Nat→Prop),(w4.heap.size≤g∧g≤W4.heap.size∧g≠X7∧(¬ 0<M→g=W4.heap.size))∧((∀ b,S b→b<X7∧b≠g)∧(∀ b,O b→b<w4.heap.size))∧Hid (0<M→G'=some ⟨g,0,none⟩∧CqI W4 g p.ms S O M):=by
  by_cases h0:0<p.ms.length
  ·obtain ⟨g,hg,hle,hq⟩:=HQ5.out h0
   obtain ⟨cur,hcur,_⟩:=hq.blk
   have hlt:=hcur.lt
   have hxx:=HXX.out
   refine ⟨g,(fun b=>Be w4.heap.size w5.heap.size b∧b≠g),Lo w4.heap.size,⟨hle,by omega,by omega,fun h=>absurd h0 (by omega)⟩,⟨fun b hb=>⟨by rw [← hX7];exact hb.1.2,hb.2⟩,fun b hb=>hb⟩,Lib.hid (fun _=>⟨hg,?_⟩)⟩
   rw [← hM]
   exact hq.keep hk7 (fun b hb=>hb.1.2) (fun b hb=>by have h:b<w4.heap.size:=hb;omega)
  ·exact ⟨W4.heap.size,fun _=>False,fun _=>False,⟨by have:=HXX.out;omega,Nat.le_refl _,by have:=HXX.out;omega,fun _=>rfl⟩,⟨fun _ h=>h.elim,fun _ h=>h.elim⟩,Lib.hid (fun h=>absurd h (by omega))⟩
 have HG1:=Lib.hid hg1
 have HG2:=Lib.hid hg2
 have HF04:Hid (Fr W0 W4):=Lib.hid ((HF4.out.trans HF5.out).trans hk7)
 have HI4:Hid (InV W4 (fun b=>w4.heap.size≤b∧b<X7) p (vA p G k G' k')):=Lib.hid (by rw [← hX7];exact HI5.out.map (fun b hb=>hb) (fun b o hb=>hk7.cell hb.2))
 rw [hM] at hb7 ⊢ hml'
 have HB7:=Lib.hid hb7
 obtain ⟨⟨z0,z1,z2,z3,z4⟩,_⟩:=box5 hb7
 clear hb7 hk7 hX7 hg1 hg2 HQ5 HI5 hM
 go_wp2_with fail
 clear z0 z1 z2 z3 z4
 go_loopw [8] (fun j wr=>∃ (i:Nat) (m:List (List UInt8 × JV)),i≤ord.length∧j=.int .i64 i∧Hid (m.Perm p.ms)∧Hid (FrX g W4 wr)∧Hid (0<M→CqI wr g m S O M)) (fun j _=>ord.length - (intOf j).toNat)
 case atStart=>exact ⟨0,p.ms,by omega,rfl,Lib.hid (.refl _),Lib.hid (FrX.refl g W4),Lib.hid (fun h=>(hg3.out h).2)⟩
 case round=>
  obtain ⟨i,m,hi,rfl,hP,hX,hC⟩:=hrel
  have hxx:=HXX.out
  have hgg:=HG1.out
  have hb7:=HB7.out.frx hX.out (by omega)
  obtain ⟨⟨z0,z1,z2,z3,z4⟩,_⟩:=box5 hb7
  have hfr:Fr w wr:=Fr.thenY (HF0.out.trans HF04.out) (by omega) hgg.2.1 hX.out
  have HFR:=Lib.hid hfr
  have HB7R:=Lib.hid hb7
  clear hxx hgg hb7 hfr
  by_cases hcond:i<ord.length∧0<M
  ·obtain ⟨hlt,hM0⟩:=hcond
   have hlt':(i:Int)<(ord.length:Int):=by omega
   have hM0':(0:Int)<(M:Int):=by omega
   have hMne:¬ (M:Int)=0:=by omega
   obtain ⟨rfl,_⟩:=hg3.out hM0
   obtain ⟨ob,oo,rfl,hob,hoc⟩:=HO.out (fun e=>by rw [e] at hlt;simp at hlt)
   have ocell:=(HFR.out.cell hob).trans (hoc i hlt)
   obtain ⟨n,hn⟩:∃ n,ord[i]=n:=⟨_,rfl⟩
   have hnb:=HOB.out _ (List.getElem_mem hlt)
   rw [hn] at ocell hnb
   obtain ⟨a,ha⟩:∃ a,i % M=a:=⟨_,rfl⟩
   have haM0:a<M:=by rw [← ha];exact Nat.mod_lt _ hM0
   have hae:(i:Int) % (M:Int)=(a:Int):=by rw [← ha];exact (Int.natCast_emod i M).symm
   obtain ⟨nu,hnu⟩:∃ nu:Nat,IntKind.u64.wrap n=(nu:Int):=⟨(n % 18446744073709551616).toNat,by rw [IntKind.wrap_u64];omega⟩
   have hmu:IntKind.u64.wrap (M:Int)=(M:Int):=by rw [IntKind.wrap_u64];omega
   obtain ⟨b,hb⟩:∃ b,nu % M=b:=⟨_,rfl⟩
   have hbM0:b<M:=by rw [← hb];exact Nat.mod_lt _ hM0
   have hbe:(nu:Int) % (M:Int)=(b:Int):=by rw [← hb];exact (Int.natCast_emod nu M).symm
   have hbt:(nu:Int).tmod (M:Int)=(b:Int):=by rw [← hb];rfl
   have hMn:¬ M=0:=by omega
   have hbw:IntKind.i64.wrap (b:Int)=(b:Int):=by rw [IntKind.wrap_i64];omega
   have haM':(a:Int)<(M:Int):=by omega
   have hbM':(b:Int)<(M:Int):=by omega
   have ha0':(0:Int)≤(a:Int):=by omega
   have hb0':(0:Int)≤(b:Int):=by omega
   have hml:m.length=M:=by rw [hP.out.length_eq];exact HM.out
   have haM:a<m.length:=by omega
   have hbM:b<m.length:=by omega
   have hcq:=hC.out hM0
   obtain ⟨Ca,fa,Da,ga,hna,a00,⟨a1,a2,a3,a4,a5⟩,hia⟩:=hcq.at_ a haM
   obtain ⟨Cb,fb,Db,gb,hnb2,b00,⟨b1,b2,b3,b4,b5⟩,hib⟩:=hcq.at_ b hbM
   rw [if_pos haM0] at hia
   rw [if_pos hbM0] at hib
   obtain ⟨pa,hpa⟩:∃ q,m[a]=q:=⟨_,rfl⟩
   obtain ⟨pb,hpb⟩:∃ q,m[b]=q:=⟨_,rfl⟩
   have hperm:((m.set a pb).set b pa).Perm m:=by rw [← hpa,← hpb];exact List.set_set_perm haM hbM
   rw [hpa] at hna a00 a1 a2 a3 a4 a5 hia
   rw [hpb] at hnb2 b00 b1 b2 b3 b4 b5 hib
   obtain ⟨na,ua⟩:=pa
   obtain ⟨nb,ub⟩:=pb
   simp only at hna a00 a1 a2 a3 a4 a5 hia hnb2 b00 b1 b2 b3 b4 b5 hib
   have HPM:=Lib.hid hperm
   have HCQ:=Lib.hid hcq
   have HML:Hid (m.length≤M):=Lib.hid (by omega)
   have HML2:Hid ((m.set a (nb,ub)).length≤M∧b<(m.set a (nb,ub)).length):=Lib.hid (by rw [List.length_set];omega)
   have HNA:=Lib.hid hna
   have HNB:=Lib.hid hnb2
   have HIA:=Lib.hid hia
   have HIB:=Lib.hid hib
   have hxsz:=hX.out.size
   have HSlt:Hid (∀ b,S b→b<wr.heap.size):=Lib.hid (fun b hb=>by have:=(HG2.out.1 b hb).1;have:=HXX.out;omega)
   have HOlt:Hid (∀ b,O b→b<wr.heap.size):=Lib.hid (fun b hb=>by have:=HG2.out.2 b hb;have:=HXX.out;omega)
   have HSne:Hid (∀ b,S b→b≠g):=Lib.hid (fun b hb=>(HG2.out.1 b hb).2)
   have hgl:g<wr.heap.size:=by obtain ⟨cur,hcur,_⟩:=hcq.blk;exact hcur.lt
   have HS9:Hid (∀ W,Fr wr W→W.cell? ⟨X7,4,none⟩=some (.slice (some ⟨g,0,none⟩) M k')∧(W.cell? ⟨g,a*6,none⟩=some (.string ⟨na.toArray⟩)∧W.cell? ⟨g,a*6+1,none⟩=some (.int .i64 ua.kd)∧W.cell? ⟨g,a*6+2,none⟩=some (.int .i64 ua.nm)∧W.cell? ⟨g,a*6+3,none⟩=some (.string ⟨ua.tx.toArray⟩)∧W.cell? ⟨g,a*6+4,none⟩=some (.slice Ca ua.ls.length fa)∧W.cell? ⟨g,a*6+5,none⟩=some (.slice Da ua.ms.length ga))∧W.cell? ⟨g,b*6,none⟩=some (.string ⟨nb.toArray⟩)∧W.cell? ⟨g,b*6+1,none⟩=some (.int .i64 ub.kd)∧W.cell? ⟨g,b*6+2,none⟩=some (.int .i64 ub.nm)∧W.cell? ⟨g,b*6+3,none⟩=some (.string ⟨ub.tx.toArray⟩)∧W.cell? ⟨g,b*6+4,none⟩=some (.slice Cb ub.ls.length fb)∧W.cell? ⟨g,b*6+5,none⟩=some (.slice Db ub.ms.length gb)):=Lib.hid (fun W hW=>by
    have hk:∀ o,W.cell? ⟨g,o,none⟩=wr.cell? ⟨g,o,none⟩:=fun o=>hW.cell hgl
    exact ⟨(HB7R.out.keep hW).cell 4,⟨(hk _).trans a00,(hk _).trans a1,(hk _).trans a2,(hk _).trans a3,(hk _).trans a4,(hk _).trans a5⟩,(hk _).trans b00,(hk _).trans b1,(hk _).trans b2,(hk _).trans b3,(hk _).trans b4,(hk _).trans b5⟩)
   have HS8:Hid (∀ W,Fr wr W→W.cell? ⟨ob,oo+i,none⟩=some (.int .i64 n)∧W.cell? ⟨X7,4,none⟩=some (.slice (some ⟨g,0,none⟩) M k')):=Lib.hid (fun W hW=>⟨(hW.cell (Nat.lt_of_lt_of_le hob HFR.out.size)).trans ocell,(HB7R.out.keep hW).cell 4⟩)
   clear hob hoc hn ha hb hml hcq hna a00 a1 a2 a3 a4 a5 hia hnb2 b00 b1 b2 b3 b4 b5 hib hpa hpb hperm hxsz hgl ocell hnb hC
   go_upto_region 8 with fail
   clear z0 z1 z2 z3 z4
   refine wp_region_held_drew (S:=(fun W=>W.cell? ⟨ob,oo+i,none⟩=some (.int .i64 n)∧W.cell? ⟨X7,4,none⟩=some (.slice (some ⟨g,0,none⟩) M k'))) (by kernel_rfl) ?_ (fun hHeld=>?_)
   ·exact HS8.out _ (Fr.refl _).drew
   refine tk (i:=0) (v:=?_) rfl ⟨by rfl,?_⟩ hHeld ?_
   rotate_left
   ·(intro w' hSw;(try dsimp only at hSw);go_simp;try with_reducible rfl)
   try simp only [Act.put,fl]
   refine tk (i:=1) (v:=?_) rfl ⟨by rfl,?_⟩ hHeld ?_
   rotate_left
   ·(intro w' hSw;(try dsimp only at hSw);go_simp;try with_reducible rfl)
   try simp only [Act.put,fl]
   refine tk (i:=2) (v:=?_) rfl ⟨by rfl,?_⟩ hHeld ?_
   rotate_left
   ·(intro w' hSw;(try dsimp only at hSw);go_simp;try with_reducible rfl)
   try simp only [Act.put,fl]
   refine tk (i:=3) (v:=?_) rfl ⟨by rfl,?_⟩ hHeld ?_
   rotate_left
   ·(intro w' hSw;(try dsimp only at hSw);go_simp;try with_reducible rfl)
   try simp only [Act.put,fl]
   refine tk (i:=4) (v:=?_) rfl ⟨by rfl,?_⟩ hHeld ?_
   rotate_left
   ·(intro w' hSw;(try dsimp only at hSw);go_simp;try with_reducible rfl)
   try simp only [Act.put,fl]
   refine tk (i:=5) (v:=?_) rfl ⟨by rfl,?_⟩ hHeld ?_
   rotate_left
   ·(intro w' hSw;(try dsimp only at hSw);go_simp;try with_reducible rfl)
   try simp only [Act.put,fl]
   refine tk (i:=6) (v:=?_) rfl ⟨by rfl,?_⟩ hHeld ?_
   rotate_left
   ·(intro w' hSw;(try dsimp only at hSw);go_simp;try with_reducible rfl)
   try simp only [Act.put,fl]
   refine tk (i:=7) (v:=?_) rfl ⟨by rfl,?_⟩ hHeld ?_
   rotate_left
   ·(intro w' hSw;(try dsimp only at hSw);go_simp;try with_reducible rfl)
   try simp only [Act.put,fl]
   refine tk (i:=8) (v:=?_) rfl ⟨by rfl,?_⟩ hHeld ?_
   rotate_left
   ·(intro w' hSw;(try dsimp only at hSw);go_simp;try with_reducible rfl)
   try simp only [Act.put,fl]
   refine tk (i:=9) (v:=?_) rfl ⟨by rfl,?_⟩ hHeld ?_
   rotate_left
   ·(intro w' hSw;(try dsimp only at hSw);go_simp;try with_reducible rfl)
   try simp only [Act.put,fl]
   refine tk (i:=10) (v:=?_) rfl ⟨by rfl,?_⟩ hHeld ?_
   rotate_left
   ·(intro w' hSw;(try dsimp only at hSw);go_simp;try with_reducible rfl)
   try simp only [Act.put,fl]
   refine tk (i:=11) (v:=?_) rfl ⟨by rfl,?_⟩ hHeld ?_
   rotate_left
   ·(intro w' hSw;(try dsimp only at hSw);go_simp;try with_reducible rfl)
   try simp only [Act.put,fl]
   refine wpAnyH_done (by kernel_rfl) ?_ _
   clear hHeld
   have hdr:Fr wr wr.drew:=(Fr.refl wr).drew
   generalize wr.drew=Wd at hdr ⊢
   have HDR:=Lib.hid hdr
   clear hdr
   go_upto_region 9 with fail
   refine wp_region_held_drew (S:=(fun W=>W.cell? ⟨X7,4,none⟩=some (.slice (some ⟨g,0,none⟩) M k'))) (by kernel_rfl) ?_ (fun hHeld=>?_)
   ·exact (HB7R.out.keep HDR.out.drew).cell 4
   have hde:=HDR.out.drew
   generalize Wd.drew=We at hde hHeld ⊢
   have HDE:=Lib.hid hde
   clear hde
   have HX7e:Hid (We.cell? ⟨X7,4,none⟩=some (.slice (some ⟨g,0,none⟩) M k')):=Lib.hid ((HB7R.out.keep HDE.out).cell 4)
   have HCQe:=Lib.hid (HCQ.out.keep HDE.out HSlt.out HOlt.out)
   refine tk (i:=0) (v:=?_) rfl ⟨by rfl,?_⟩ hHeld ?_
   rotate_left
   ·(intro w' hSw;(try dsimp only at hSw);go_simp;try with_reducible rfl)
   try simp only [Act.put,fl]
   refine tk (i:=1) (v:=?_) rfl ⟨by rfl,?_⟩ hHeld ?_
   rotate_left
   ·(intro w' hSw;(try dsimp only at hSw);go_simp;try with_reducible rfl)
   try simp only [Act.put,fl]
   refine tk (i:=2) (v:=?_) rfl ⟨by rfl,?_⟩ hHeld ?_
   rotate_left
   ·(intro w' hSw;(try dsimp only at hSw);go_simp;try with_reducible rfl)
   try simp only [Act.put,fl]
   refine tk (i:=3) (v:=?_) rfl ⟨by rfl,?_⟩ hHeld ?_
   rotate_left
   ·(intro w' hSw;(try dsimp only at hSw);go_simp;try with_reducible rfl)
   try simp only [Act.put,fl]
   refine tk (i:=4) (v:=?_) rfl ⟨by rfl,?_⟩ hHeld ?_
   rotate_left
   ·(intro w' hSw;(try dsimp only at hSw);go_simp;try with_reducible rfl)
   try simp only [Act.put,fl]
   refine tk (i:=5) (v:=?_) rfl ⟨by rfl,?_⟩ hHeld ?_
   rotate_left
   ·(intro w' hSw;(try dsimp only at hSw);go_simp;try with_reducible rfl)
   try simp only [Act.put,fl]
   refine tk (i:=6) (v:=?_) rfl ⟨by rfl,?_⟩ hHeld ?_
   rotate_left
   ·(intro w' hSw;(try dsimp only at hSw);go_simp;try with_reducible rfl)
   try simp only [Act.put,fl]
   refine tk (i:=7) (v:=?_) rfl ⟨by rfl,?_⟩ hHeld ?_
   rotate_left
   ·(intro w' hSw;(try dsimp only at hSw);go_simp;try with_reducible rfl)
   try simp only [Act.put,fl]
   refine tk (i:=8) (v:=?_) rfl ⟨by rfl,?_⟩ hHeld ?_
   rotate_left
   ·(intro w' hSw;(try dsimp only at hSw);go_simp;try with_reducible rfl)
   try simp only [Act.put,fl]
   refine tk (i:=9) (v:=?_) rfl ⟨by rfl,?_⟩ hHeld ?_
   rotate_left
   ·(intro w' hSw;(try dsimp only at hSw);go_simp;try with_reducible rfl)
   try simp only [Act.put,fl]
   refine tk (i:=11) (v:=?_) rfl ⟨by rfl,?_⟩ hHeld ?_
   rotate_left
   ·(intro w' hSw;(try dsimp only at hSw);go_simp;try with_reducible rfl)
   try simp only [Act.put,fl]
   refine tk (i:=12) (v:=?_) rfl ⟨by rfl,?_⟩ hHeld ?_
   rotate_left
   ·(intro w' hSw;(try dsimp only at hSw);go_simp;try with_reducible rfl)
   try simp only [Act.put,fl]
   refine tk (i:=13) (v:=?_) rfl ⟨by rfl,?_⟩ hHeld ?_
   rotate_left
   ·(intro w' hSw;(try dsimp only at hSw);go_simp;try with_reducible rfl)
   try simp only [Act.put,fl]
   refine tk (i:=14) (v:=?_) rfl ⟨by rfl,?_⟩ hHeld ?_
   rotate_left
   ·(intro w' hSw;(try dsimp only at hSw);go_simp;try with_reducible rfl)
   try simp only [Act.put,fl]
   obtain ⟨_,⟨ea0,ea1,ea2,ea3,ea4,ea5⟩,eb0,eb1,eb2,eb3,eb4,eb5⟩:=HS9.out _ HDE.out
   obtain ⟨cur9,hk9,hz9⟩:=HCQe.out.blk
   have hf0:=hk9.free (a*6)
   have hf1:=hk9.free (a*6+1)
   have hf2:=hk9.free (a*6+2)
   have hf3:=hk9.free (a*6+3)
   have hf4:=hk9.free (a*6+4)
   have hf5:=hk9.free (a*6+5)
   clear hk9 hz9
   refine wpAnyH_ready (rs:=[10,15]) (by kernel_rfl) (by simp) ?_
   refine AllReadyH.cons rfl (fun K hK=>?_) (AllReadyH.cons rfl (fun K hK=>?_) AllReadyH.nil)
   ·go_simp
    refine hK.out _ _ HX7e.out (fun hH2=>?_)
    clear hK K
    try simp only [Act.put,fl]
    refine wpAnyH_ready (rs:=[15]) (by kernel_rfl) (by simp) ?_
    refine AllReadyH.cons rfl (fun K hK=>?_) AllReadyH.nil
    go_simp
    refine hK.out _ _ (HX7e.out) (fun hH3=>?_)
    clear hK K
    try simp only [Act.put,fl]
    refine wpAnyH_ready (rs:=[16]) (by kernel_rfl) (by simp) ?_
    refine AllReadyH.cons rfl (fun K hK=>?_) AllReadyH.nil
    go_simp
    refine hK.out _ _ (HX7e.out) (fun hH4=>?_)
    clear hK K
    try simp only [Act.put,fl]
    have hq1:CqI ((((((We.setCell ⟨g,a*6,none⟩ (.string ⟨nb.toArray⟩)).setCell ⟨g,a*6+1,none⟩ (.int .i64 ub.kd)).setCell ⟨g,a*6+2,none⟩ (.int .i64 ub.nm)).setCell ⟨g,a*6+3,none⟩ (.string ⟨ub.tx.toArray⟩)).setCell ⟨g,a*6+4,none⟩ (.slice Cb ub.ls.length fb)).setCell ⟨g,a*6+5,none⟩ (.slice Db ub.ms.length gb)) g (m.set a (nb,ub)) S O M:=HCQe.out.put HML.out haM HSne.out HNB.out (HIB.out.map (fun _ h=>h) (fun b o hb=>HDE.out.cell (HSlt.out b hb)))
    have hx1:FrX g We ((((((We.setCell ⟨g,a*6,none⟩ (.string ⟨nb.toArray⟩)).setCell ⟨g,a*6+1,none⟩ (.int .i64 ub.kd)).setCell ⟨g,a*6+2,none⟩ (.int .i64 ub.nm)).setCell ⟨g,a*6+3,none⟩ (.string ⟨ub.tx.toArray⟩)).setCell ⟨g,a*6+4,none⟩ (.slice Cb ub.ls.length fb)).setCell ⟨g,a*6+5,none⟩ (.slice Db ub.ms.length gb)):=st6q_frx We g (a*6) _ _ _ _ _ _
    have hx7:(((((((We.setCell ⟨g,a*6,none⟩ (.string ⟨nb.toArray⟩)).setCell ⟨g,a*6+1,none⟩ (.int .i64 ub.kd)).setCell ⟨g,a*6+2,none⟩ (.int .i64 ub.nm)).setCell ⟨g,a*6+3,none⟩ (.string ⟨ub.tx.toArray⟩)).setCell ⟨g,a*6+4,none⟩ (.slice Cb ub.ls.length fb)).setCell ⟨g,a*6+5,none⟩ (.slice Db ub.ms.length gb))).cell? ⟨X7,4,none⟩=some (.slice (some ⟨g,0,none⟩) M k'):=((HB7R.out.keep HDE.out).frx hx1 (fun e=>HG1.out.2.2.1 e.symm)).cell 4
    refine wpAnyH_ready (rs:=[17]) (by kernel_rfl) (by simp) ?_
    refine AllReadyH.cons rfl (fun K hK=>?_) AllReadyH.nil
    go_simp
    refine hK.out _ _ (hx7) (fun hH5=>?_)
    clear hK K
    try simp only [Act.put,fl]
    clear ea0 ea1 ea2 ea3 ea4 ea5 eb0 eb1 eb2 eb3 eb4 eb5 hf0 hf1 hf2 hf3 hf4 hf5 hHeld hH2 hH3 hH4
    generalize ((((((We.setCell ⟨g,a*6,none⟩ (.string ⟨nb.toArray⟩)).setCell ⟨g,a*6+1,none⟩ (.int .i64 ub.kd)).setCell ⟨g,a*6+2,none⟩ (.int .i64 ub.nm)).setCell ⟨g,a*6+3,none⟩ (.string ⟨ub.tx.toArray⟩)).setCell ⟨g,a*6+4,none⟩ (.slice Cb ub.ls.length fb)).setCell ⟨g,a*6+5,none⟩ (.slice Db ub.ms.length gb))=W1 at hq1 hx1 hx7 hH5 ⊢
    refine wpAnyH_ready (rs:=[18]) (by kernel_rfl) (by simp) ?_
    refine AllReadyH.cons rfl (fun K hK=>?_) AllReadyH.nil
    go_simp
    refine hK.out _ _ (hx7) (fun hH6=>?_)
    clear hK K
    try simp only [Act.put,fl]
    obtain ⟨cur9,hk9,hz9⟩:=hq1.blk
    have q0:∃ v,W1.cell? ⟨g,b*6,none⟩=some v:=⟨_,(hk9.cell _).trans (Array.getElem?_eq_getElem (by have:=HML2.out;omega))⟩
    have q1:∃ v,W1.cell? ⟨g,b*6+1,none⟩=some v:=⟨_,(hk9.cell _).trans (Array.getElem?_eq_getElem (by have:=HML2.out;omega))⟩
    have q2:∃ v,W1.cell? ⟨g,b*6+2,none⟩=some v:=⟨_,(hk9.cell _).trans (Array.getElem?_eq_getElem (by have:=HML2.out;omega))⟩
    have q3:∃ v,W1.cell? ⟨g,b*6+3,none⟩=some v:=⟨_,(hk9.cell _).trans (Array.getElem?_eq_getElem (by have:=HML2.out;omega))⟩
    have q4:∃ v,W1.cell? ⟨g,b*6+4,none⟩=some v:=⟨_,(hk9.cell _).trans (Array.getElem?_eq_getElem (by have:=HML2.out;omega))⟩
    have q5:∃ v,W1.cell? ⟨g,b*6+5,none⟩=some v:=⟨_,(hk9.cell _).trans (Array.getElem?_eq_getElem (by have:=HML2.out;omega))⟩
    obtain ⟨mm0,hm0⟩:=q0
    obtain ⟨mm1,hm1⟩:=q1
    obtain ⟨mm2,hm2⟩:=q2
    obtain ⟨mm3,hm3⟩:=q3
    obtain ⟨mm4,hm4⟩:=q4
    obtain ⟨mm5,hm5⟩:=q5
    have hf0:=hk9.free (b*6)
    have hf1:=hk9.free (b*6+1)
    have hf2:=hk9.free (b*6+2)
    have hf3:=hk9.free (b*6+3)
    have hf4:=hk9.free (b*6+4)
    have hf5:=hk9.free (b*6+5)
    have hx2:FrX g W1 ((((((W1.setCell ⟨g,b*6,none⟩ (.string ⟨na.toArray⟩)).setCell ⟨g,b*6+1,none⟩ (.int .i64 ua.kd)).setCell ⟨g,b*6+2,none⟩ (.int .i64 ua.nm)).setCell ⟨g,b*6+3,none⟩ (.string ⟨ua.tx.toArray⟩)).setCell ⟨g,b*6+4,none⟩ (.slice Ca ua.ls.length fa)).setCell ⟨g,b*6+5,none⟩ (.slice Da ua.ms.length ga)):=st6q_frx W1 g (b*6) _ _ _ _ _ _
    have hb7w:=((HB7R.out.keep HDE.out).frx hx1 (fun e=>HG1.out.2.2.1 e.symm)).frx hx2 (fun e=>HG1.out.2.2.1 e.symm)
    refine wpAnyH_ready (rs:=[19]) (by kernel_rfl) (by simp) ?_
    refine AllReadyH.cons rfl (fun K hK=>?_) AllReadyH.nil
    go_simp
    refine hK.out _ _ (hb7w.cell 4) (fun hH7=>?_)
    clear hK K
    try simp only [Act.put,fl]
    have hq2:=hq1.put HML2.out.1 HML2.out.2 HSne.out HNA.out (HIA.out.map (w':=W1) (fun _ h=>h) (fun b o hb=>(hx1.cell (Nat.lt_of_lt_of_le (HSlt.out b hb) HDE.out.size) (HSne.out b hb)).trans (HDE.out.cell (HSlt.out b hb))))
    refine wpAnyH_done (by kernel_rfl) ?_ _
    clear hm0 hm1 hm2 hm3 hm4 hm5 hf0 hf1 hf2 hf3 hf4 hf5 hk9 hz9 hH5 hH6 hH7
    go_wp2_with fail
    exact ⟨⟨i+1,_,by omega,by go_num,Lib.hid (HPM.out.trans hP.out),Lib.hid ((hX.out.fr HDE.out).trans (hx1.trans hx2)),Lib.hid (fun _=>hq2)⟩,by simp [intOf];omega⟩
   ·go_simp
    refine hK.out _ _ HX7e.out (fun hH2=>?_)
    clear hK K
    try simp only [Act.put,fl]
    refine wpAnyH_ready (rs:=[10]) (by kernel_rfl) (by simp) ?_
    refine AllReadyH.cons rfl (fun K hK=>?_) AllReadyH.nil
    go_simp
    refine hK.out _ _ (HX7e.out) (fun hH3=>?_)
    clear hK K
    try simp only [Act.put,fl]
    refine wpAnyH_ready (rs:=[16]) (by kernel_rfl) (by simp) ?_
    refine AllReadyH.cons rfl (fun K hK=>?_) AllReadyH.nil
    go_simp
    refine hK.out _ _ (HX7e.out) (fun hH4=>?_)
    clear hK K
    try simp only [Act.put,fl]
    have hq1:CqI ((((((We.setCell ⟨g,a*6,none⟩ (.string ⟨nb.toArray⟩)).setCell ⟨g,a*6+1,none⟩ (.int .i64 ub.kd)).setCell ⟨g,a*6+2,none⟩ (.int .i64 ub.nm)).setCell ⟨g,a*6+3,none⟩ (.string ⟨ub.tx.toArray⟩)).setCell ⟨g,a*6+4,none⟩ (.slice Cb ub.ls.length fb)).setCell ⟨g,a*6+5,none⟩ (.slice Db ub.ms.length gb)) g (m.set a (nb,ub)) S O M:=HCQe.out.put HML.out haM HSne.out HNB.out (HIB.out.map (fun _ h=>h) (fun b o hb=>HDE.out.cell (HSlt.out b hb)))
    have hx1:FrX g We ((((((We.setCell ⟨g,a*6,none⟩ (.string ⟨nb.toArray⟩)).setCell ⟨g,a*6+1,none⟩ (.int .i64 ub.kd)).setCell ⟨g,a*6+2,none⟩ (.int .i64 ub.nm)).setCell ⟨g,a*6+3,none⟩ (.string ⟨ub.tx.toArray⟩)).setCell ⟨g,a*6+4,none⟩ (.slice Cb ub.ls.length fb)).setCell ⟨g,a*6+5,none⟩ (.slice Db ub.ms.length gb)):=st6q_frx We g (a*6) _ _ _ _ _ _
    have hx7:(((((((We.setCell ⟨g,a*6,none⟩ (.string ⟨nb.toArray⟩)).setCell ⟨g,a*6+1,none⟩ (.int .i64 ub.kd)).setCell ⟨g,a*6+2,none⟩ (.int .i64 ub.nm)).setCell ⟨g,a*6+3,none⟩ (.string ⟨ub.tx.toArray⟩)).setCell ⟨g,a*6+4,none⟩ (.slice Cb ub.ls.length fb)).setCell ⟨g,a*6+5,none⟩ (.slice Db ub.ms.length gb))).cell? ⟨X7,4,none⟩=some (.slice (some ⟨g,0,none⟩) M k'):=((HB7R.out.keep HDE.out).frx hx1 (fun e=>HG1.out.2.2.1 e.symm)).cell 4
    refine wpAnyH_ready (rs:=[17]) (by kernel_rfl) (by simp) ?_
    refine AllReadyH.cons rfl (fun K hK=>?_) AllReadyH.nil
    go_simp
    refine hK.out _ _ (hx7) (fun hH5=>?_)
    clear hK K
    try simp only [Act.put,fl]
    clear ea0 ea1 ea2 ea3 ea4 ea5 eb0 eb1 eb2 eb3 eb4 eb5 hf0 hf1 hf2 hf3 hf4 hf5 hHeld hH2 hH3 hH4
    generalize ((((((We.setCell ⟨g,a*6,none⟩ (.string ⟨nb.toArray⟩)).setCell ⟨g,a*6+1,none⟩ (.int .i64 ub.kd)).setCell ⟨g,a*6+2,none⟩ (.int .i64 ub.nm)).setCell ⟨g,a*6+3,none⟩ (.string ⟨ub.tx.toArray⟩)).setCell ⟨g,a*6+4,none⟩ (.slice Cb ub.ls.length fb)).setCell ⟨g,a*6+5,none⟩ (.slice Db ub.ms.length gb))=W1 at hq1 hx1 hx7 hH5 ⊢
    refine wpAnyH_ready (rs:=[18]) (by kernel_rfl) (by simp) ?_
    refine AllReadyH.cons rfl (fun K hK=>?_) AllReadyH.nil
    go_simp
    refine hK.out _ _ (hx7) (fun hH6=>?_)
    clear hK K
    try simp only [Act.put,fl]
    obtain ⟨cur9,hk9,hz9⟩:=hq1.blk
    have q0:∃ v,W1.cell? ⟨g,b*6,none⟩=some v:=⟨_,(hk9.cell _).trans (Array.getElem?_eq_getElem (by have:=HML2.out;omega))⟩
    have q1:∃ v,W1.cell? ⟨g,b*6+1,none⟩=some v:=⟨_,(hk9.cell _).trans (Array.getElem?_eq_getElem (by have:=HML2.out;omega))⟩
    have q2:∃ v,W1.cell? ⟨g,b*6+2,none⟩=some v:=⟨_,(hk9.cell _).trans (Array.getElem?_eq_getElem (by have:=HML2.out;omega))⟩
    have q3:∃ v,W1.cell? ⟨g,b*6+3,none⟩=some v:=⟨_,(hk9.cell _).trans (Array.getElem?_eq_getElem (by have:=HML2.out;omega))⟩
    have q4:∃ v,W1.cell? ⟨g,b*6+4,none⟩=some v:=⟨_,(hk9.cell _).trans (Array.getElem?_eq_getElem (by have:=HML2.out;omega))⟩
    have q5:∃ v,W1.cell? ⟨g,b*6+5,none⟩=some v:=⟨_,(hk9.cell _).trans (Array.getElem?_eq_getElem (by have:=HML2.out;omega))⟩
    obtain ⟨mm0,hm0⟩:=q0
    obtain ⟨mm1,hm1⟩:=q1
    obtain ⟨mm2,hm2⟩:=q2
    obtain ⟨mm3,hm3⟩:=q3
    obtain ⟨mm4,hm4⟩:=q4
    obtain ⟨mm5,hm5⟩:=q5
    have hf0:=hk9.free (b*6)
    have hf1:=hk9.free (b*6+1)
    have hf2:=hk9.free (b*6+2)
    have hf3:=hk9.free (b*6+3)
    have hf4:=hk9.free (b*6+4)
    have hf5:=hk9.free (b*6+5)
    have hx2:FrX g W1 ((((((W1.setCell ⟨g,b*6,none⟩ (.string ⟨na.toArray⟩)).setCell ⟨g,b*6+1,none⟩ (.int .i64 ua.kd)).setCell ⟨g,b*6+2,none⟩ (.int .i64 ua.nm)).setCell ⟨g,b*6+3,none⟩ (.string ⟨ua.tx.toArray⟩)).setCell ⟨g,b*6+4,none⟩ (.slice Ca ua.ls.length fa)).setCell ⟨g,b*6+5,none⟩ (.slice Da ua.ms.length ga)):=st6q_frx W1 g (b*6) _ _ _ _ _ _
    have hb7w:=((HB7R.out.keep HDE.out).frx hx1 (fun e=>HG1.out.2.2.1 e.symm)).frx hx2 (fun e=>HG1.out.2.2.1 e.symm)
    refine wpAnyH_ready (rs:=[19]) (by kernel_rfl) (by simp) ?_
    refine AllReadyH.cons rfl (fun K hK=>?_) AllReadyH.nil
    go_simp
    refine hK.out _ _ (hb7w.cell 4) (fun hH7=>?_)
    clear hK K
    try simp only [Act.put,fl]
    have hq2:=hq1.put HML2.out.1 HML2.out.2 HSne.out HNA.out (HIA.out.map (w':=W1) (fun _ h=>h) (fun b o hb=>(hx1.cell (Nat.lt_of_lt_of_le (HSlt.out b hb) HDE.out.size) (HSne.out b hb)).trans (HDE.out.cell (HSlt.out b hb))))
    refine wpAnyH_done (by kernel_rfl) ?_ _
    clear hm0 hm1 hm2 hm3 hm4 hm5 hf0 hf1 hf2 hf3 hf4 hf5 hk9 hz9 hH5 hH6 hH7
    go_wp2_with fail
    exact ⟨⟨i+1,_,by omega,by go_num,Lib.hid (HPM.out.trans hP.out),Lib.hid ((hX.out.fr HDE.out).trans (hx1.trans hx2)),Lib.hid (fun _=>hq2)⟩,by simp [intOf];omega⟩
  ·have hml:m.length=M:=by rw [hP.out.length_eq];exact HM.out
   have HQ:Hid (∀ W,Fr wr W→InV W (Lo W.heap.size) (.mk p.kd p.nm p.tx p.ls m) (vA (.mk p.kd p.nm p.tx p.ls m) G k G' k')):=Lib.hid (fun W hW=>by
    have h0:InV wr (Lo wr.heap.size) (.mk p.kd p.nm p.tx p.ls m) (vA (.mk p.kd p.nm p.tx p.ls m) G k G' k'):=by
     by_cases h0:0<M
     ·have hls:p.ls=[]:=HPE.out (by rw [HM.out];exact h0)
      have hcq:=hC.out h0
      rw [← hml] at hcq
      obtain ⟨cur,hcur,_⟩:=hcq.blk
      have hgl:=hcur.lt
      obtain ⟨hG,_⟩:=hg3.out h0
      have hxsz:=hX.out.size
      have hmm:MsC wr (Lo wr.heap.size) G' m:=by
       rw [hG]
       exact hcq.msC hgl (fun b hb=>by have:=(HG2.out.1 b hb).1;have:=HXX.out;show b<_;omega)
      obtain ⟨⟨n1,n2⟩,⟨k1,k2⟩,t1⟩:=HPF.out
      exact InV.both (A:=G) (c:=k) (A':=G') (c':=k') (fun i hi=>absurd hi (by rw [hls];simp)) hmm (by rw [hls];simp) (by omega) p.kd p.nm p.tx n1 n2 k1 k2 t1
     ·have hm0:m=[]:=List.eq_nil_of_length_eq_zero (by omega)
      have hp0:p.ms=[]:=List.eq_nil_of_length_eq_zero (by have:=HM.out;omega)
      have hpe:JV.mk p.kd p.nm p.tx p.ls m=p:=by rw [hm0,← hp0];cases p;rfl
      rw [hpe]
      have hb:=hX.out.below (by have:=HG1.out;omega)
      rw [HG1.out.2.2.2 h0] at hb
      have hfx:Fr W4 wr:=hb
      exact (HI4.out.map (fun b hb=>hb) (fun b o hb=>hfx.cell (Nat.lt_trans hb.2 HXX.out.2.2.2))).more (fun b hb=>Nat.lt_of_lt_of_le (Nat.lt_trans hb.2 HXX.out.2.2.2) hfx.size)
    exact (h0.keep (Nat.le_refl _) hW).lo hW.size)
   have HP2:Hid (∀ W,Fr wr W→Calls Tryz.prog 11 #[.agg #[.int .i64 v.kd,.int .i64 v.nm,.string ⟨v.tx.toArray⟩,.slice A v.ls.length c0,.slice A' v.ms.length c0'],.agg #[.int .i64 p.kd,.int .i64 p.nm,.string ⟨p.tx.toArray⟩,.slice G p.ls.length k,.slice G' M k']] W (ApP W (Pc.apply v (.mk p.kd p.nm p.tx p.ls m)))):=Lib.hid (fun W hW=>by
    have:=HPX.out m G k G' k' W (HFR.out.trans hW) hP.out (HQ.out W hW)
    rw [HM.out] at this
    exact this)
   have hgg:=HG1.out
   have hxx:=HXX.out
   have HB1R:Hid (Blk wr X1 #[.int .i64 v.kd,.int .i64 v.nm,.string ⟨v.tx.toArray⟩,.slice A v.ls.length c0,.slice A' v.ms.length c0'] 25):=Lib.hid ((HB1.out.keep HF04.out).frx hX.out (by omega))
   have HB2R:Hid (Blk wr X2 #[.int .i64 p.kd,.int .i64 p.nm,.string ⟨p.tx.toArray⟩,.slice C p.ls.length f,.slice C' p.ms.length f'] 25):=Lib.hid ((HB2.out.keep HF04.out).frx hX.out (by omega))
   have hat:=HAT.out m hP.out
   clear hgg hxx hC hX hml
   rcases (by omega:¬ i<ord.length∨(i<ord.length ∧ ¬ 0<M)) with hend | ⟨hend1,hend2⟩
   ·have hlt':¬ (i:Int)<(ord.length:Int):=by omega
    clear hcond hend hi
    rcases hat with ⟨h1x,h2x⟩ | ⟨x,y,h1x,h2x,h7⟩
    ·rcases hkd with h6 | h6
     ·have q6:(v.kd == 6)=true:=by rw [h6];rfl
      have h3x:(if v.kd=6 then some v else none)=some v:=if_pos h6
      clear h6
      go_upto_region 10 with fail
      clear z0 z1 z2 z3 z4
      have HA1:Hid (∀ W,Fr wr W→Calls Tryz.prog 11 #[.agg #[.int .i64 v.kd,.int .i64 v.nm,.string ⟨v.tx.toArray⟩,.slice A v.ls.length c0,.slice A' v.ms.length c0'],.agg #[.int .i64 p.kd,.int .i64 p.nm,.string ⟨p.tx.toArray⟩,.slice C p.ls.length f,.slice C' p.ms.length f']] W fun e w'=>e=.returned (.tuple #[.agg #[.int .i64 0,.int .i64 0,.string ⟨#[]⟩,.slice none 0 0,.slice none 0 0],.int .i64 90])∧Fr W w'):=Lib.hid (fun W hW=>by
       have:=HP1.out W (HFR.out.trans hW)
       rw [h1x] at this
       exact this)
      have HA2:Hid (∀ W,Fr wr W→Calls Tryz.prog 11 #[.agg #[.int .i64 v.kd,.int .i64 v.nm,.string ⟨v.tx.toArray⟩,.slice A v.ls.length c0,.slice A' v.ms.length c0'],.agg #[.int .i64 p.kd,.int .i64 p.nm,.string ⟨p.tx.toArray⟩,.slice G p.ls.length k,.slice G' M k']] W fun e w'=>e=.returned (.tuple #[.agg #[.int .i64 0,.int .i64 0,.string ⟨#[]⟩,.slice none 0 0,.slice none 0 0],.int .i64 90])∧Fr W w'):=Lib.hid (fun W hW=>by
       have:=HP2.out W hW
       rw [h2x] at this
       exact this)
      have HA3:Hid (∀ W,Fr wr W→Calls Tryz.prog 11 #[.agg #[.int .i64 v.kd,.int .i64 v.nm,.string ⟨v.tx.toArray⟩,.slice A v.ls.length c0,.slice A' v.ms.length c0'],.agg #[.int .i64 6,.int .i64 0,.string ⟨#[]⟩,.slice none 0 0,.slice none 0 0]] W fun e w'=>(∃ (D1:Option Addr) (g1:Nat) (D1':Option Addr) (g1':Nat),e=.returned (.tuple #[.agg #[.int .i64 v.kd,.int .i64 v.nm,.string ⟨v.tx.toArray⟩,.slice D1 v.ls.length g1,.slice D1' v.ms.length g1'],.int .i64 0])∧InV w' (Lo w'.heap.size) v (vA v D1 g1 D1' g1'))∧Fr W w'):=Lib.hid (fun W hW=>by
       have:=HP3.out W (HFR.out.trans hW)
       rw [h3x] at this
       exact this.mono (fun e w' h=>h.some_))
      have HS7:Hid (∀ W,Calls Tryz.prog 18 #[.agg #[.int .i64 0,.int .i64 0,.string ⟨#[]⟩,.slice none 0 0,.slice none 0 0],.agg #[.int .i64 0,.int .i64 0,.string ⟨#[]⟩,.slice none 0 0,.slice none 0 0]] W fun e w'=>e=.returned (.bool true)∧Fr W w'):=Lib.hid (fun W=>same7_is S7.zero _ _ W (zeroV_in _ _) (zeroV_in _ _))
      have HS5:Hid (∀ W H h H' h',Fr w W→InV W (Lo W.heap.size) v (vA v H h H' h')→Calls Tryz.prog 13 #[.agg #[.int .i64 v.kd,.int .i64 v.nm,.string ⟨v.tx.toArray⟩,.slice A v.ls.length c0,.slice A' v.ms.length c0'],.agg #[.int .i64 v.kd,.int .i64 v.nm,.string ⟨v.tx.toArray⟩,.slice H v.ls.length h,.slice H' v.ms.length h']] W fun e w'=>e=.returned (.bool true)∧Fr W w'):=Lib.hid (fun W H h H' h' hW a=>same_self v A c0 A' c0' H h H' h' W (HKV.out W hW) a)
      clear h1x h2x h3x
      obtain ⟨⟨y0,y1,y2,y3,y4⟩,_⟩:=box5 HB1R.out
      obtain ⟨⟨z0,z1,z2,z3,z4⟩,_⟩:=box5 HB2R.out
      go_upto_region 11 with (go_at_call 11;refine (HA1.out _ (Fr.refl _)).mono ?_;rintro e w10 ⟨rfl,hf⟩;have HF10:=Lib.hid hf;clear hf)
      clear y0 y1 y2 y3 y4 z0 z1 z2 z3 z4
      have hbN:=Blk.made w10 #[.int .i64 0,.int .i64 0,.string ⟨#[]⟩,.slice none 0 0,.slice none 0 0] 25
      have hkN:Fr w10 (w10.alloc (.cells #[.int .i64 0,.int .i64 0,.string ⟨#[]⟩,.slice none 0 0,.slice none 0 0] 25)):=(Fr.refl w10).alloc _
      generalize (w10.alloc (.cells #[.int .i64 0,.int .i64 0,.string ⟨#[]⟩,.slice none 0 0,.slice none 0 0] 25))=W10 at hbN hkN ⊢
      generalize w10.heap.size=X10 at hbN ⊢
      have HG10:Hid (Fr wr W10):=Lib.hid (HF10.out.trans hkN)
      have HB10:=Lib.hid hbN
      clear hbN hkN
      obtain ⟨⟨y0,y1,y2,y3,y4⟩,_⟩:=box5 (HB1R.out.keep HG10.out)
      obtain ⟨⟨z0,z1,z2,z3,z4⟩,_⟩:=box5 (HB7R.out.keep HG10.out)
      go_upto_region 12 with (go_at_call 11;refine (HA2.out _ HG10.out).mono ?_;rintro e w11 ⟨rfl,hf⟩;have HF11:=Lib.hid hf;clear hf)
      clear y0 y1 y2 y3 y4 z0 z1 z2 z3 z4
      have hbN:=Blk.made w11 #[.int .i64 0,.int .i64 0,.string ⟨#[]⟩,.slice none 0 0,.slice none 0 0] 25
      have hkN:Fr w11 (w11.alloc (.cells #[.int .i64 0,.int .i64 0,.string ⟨#[]⟩,.slice none 0 0,.slice none 0 0] 25)):=(Fr.refl w11).alloc _
      generalize (w11.alloc (.cells #[.int .i64 0,.int .i64 0,.string ⟨#[]⟩,.slice none 0 0,.slice none 0 0] 25))=W11 at hbN hkN ⊢
      generalize w11.heap.size=X11 at hbN ⊢
      have HG11:Hid (Fr W10 W11):=Lib.hid (HF11.out.trans hkN)
      have HB11:=Lib.hid hbN
      clear hbN hkN
      obtain ⟨⟨y0,y1,y2,y3,y4⟩,_⟩:=box5 (HB1R.out.keep (HG10.out.trans HG11.out))
      have z0:=True.intro
      have z1:=True.intro
      have z2:=True.intro
      have z3:=True.intro
      have z4:=True.intro
      go_upto_region 13 with (go_at_call 11;refine (HA3.out _ (HG10.out.trans HG11.out)).mono ?_;rintro e w12 ⟨⟨H,h,H',h',rfl,hi⟩,hf⟩;have HIx:=Lib.hid hi;clear hi;have HF12:=Lib.hid hf;clear hf)
      clear y0 y1 y2 y3 y4 z0 z1 z2 z3 z4
      have hbN:=Blk.made w12 #[.int .i64 v.kd,.int .i64 v.nm,.string ⟨v.tx.toArray⟩,.slice H v.ls.length h,.slice H' v.ms.length h'] 25
      have hkN:Fr w12 (w12.alloc (.cells #[.int .i64 v.kd,.int .i64 v.nm,.string ⟨v.tx.toArray⟩,.slice H v.ls.length h,.slice H' v.ms.length h'] 25)):=(Fr.refl w12).alloc _
      generalize (w12.alloc (.cells #[.int .i64 v.kd,.int .i64 v.nm,.string ⟨v.tx.toArray⟩,.slice H v.ls.length h,.slice H' v.ms.length h'] 25))=W12 at hbN hkN ⊢
      generalize w12.heap.size=X12 at hbN ⊢
      have HG12:Hid (Fr W11 W12):=Lib.hid (HF12.out.trans hkN)
      have HB12:=Lib.hid hbN
      have HI12:Hid (InV W12 (Lo W12.heap.size) v (vA v H h H' h')):=Lib.hid ((HIx.out.keep (Nat.le_refl _) hkN).lo hkN.size)
      clear HIx
      clear hbN hkN
      have HG:=Lib.hid ((HG10.out.trans HG11.out).trans HG12.out)
      obtain ⟨⟨y0,y1,y2,y3,y4⟩,_⟩:=box5 (HB1R.out.keep HG.out)
      obtain ⟨⟨x0,x1,x2,x3,x4⟩,_⟩:=box5 (HB10.out.keep (HG11.out.trans HG12.out))
      obtain ⟨⟨u0,u1,u2,u3,u4⟩,_⟩:=box5 (HB11.out.keep HG12.out)
      go_wp2_with (first | (go_at_call 13;have hq:=HF13.out;refine (HS5.out _ H h H' h' ((HFR.out.trans HG.out).trans hq) ((HI12.out.keep (Nat.le_refl _) hq).lo hq.size)).mono ?_;rintro e w14 ⟨rfl,hf⟩;have HF14:=Lib.hid (hq.trans hf);clear hf hq) | (go_at_call 18;refine (HS7.out _).mono ?_;rintro e w13 ⟨rfl,hf⟩;obtain ⟨⟨p0,p1,p2,p3,p4⟩,_⟩:=box5 (HB1R.out.keep (HG.out.trans hf));obtain ⟨⟨r0,r1,r2,r3,r4⟩,_⟩:=box5 (HB12.out.keep hf);have HF13:=Lib.hid hf;clear hf))
      go_ret
      exact ⟨rfl,(HFR.out.trans HG.out).trans HF14.out⟩
     ·have q6:(v.kd == 6)=false:=(ikind h6).1
      have h3x:(if v.kd=6 then some v else none)=none:=if_neg h6
      clear h6
      go_upto_region 10 with fail
      clear z0 z1 z2 z3 z4
      have HA1:Hid (∀ W,Fr wr W→Calls Tryz.prog 11 #[.agg #[.int .i64 v.kd,.int .i64 v.nm,.string ⟨v.tx.toArray⟩,.slice A v.ls.length c0,.slice A' v.ms.length c0'],.agg #[.int .i64 p.kd,.int .i64 p.nm,.string ⟨p.tx.toArray⟩,.slice C p.ls.length f,.slice C' p.ms.length f']] W fun e w'=>e=.returned (.tuple #[.agg #[.int .i64 0,.int .i64 0,.string ⟨#[]⟩,.slice none 0 0,.slice none 0 0],.int .i64 90])∧Fr W w'):=Lib.hid (fun W hW=>by
       have:=HP1.out W (HFR.out.trans hW)
       rw [h1x] at this
       exact this)
      have HA2:Hid (∀ W,Fr wr W→Calls Tryz.prog 11 #[.agg #[.int .i64 v.kd,.int .i64 v.nm,.string ⟨v.tx.toArray⟩,.slice A v.ls.length c0,.slice A' v.ms.length c0'],.agg #[.int .i64 p.kd,.int .i64 p.nm,.string ⟨p.tx.toArray⟩,.slice G p.ls.length k,.slice G' M k']] W fun e w'=>e=.returned (.tuple #[.agg #[.int .i64 0,.int .i64 0,.string ⟨#[]⟩,.slice none 0 0,.slice none 0 0],.int .i64 90])∧Fr W w'):=Lib.hid (fun W hW=>by
       have:=HP2.out W hW
       rw [h2x] at this
       exact this)
      have HA3:Hid (∀ W,Fr wr W→Calls Tryz.prog 11 #[.agg #[.int .i64 v.kd,.int .i64 v.nm,.string ⟨v.tx.toArray⟩,.slice A v.ls.length c0,.slice A' v.ms.length c0'],.agg #[.int .i64 6,.int .i64 0,.string ⟨#[]⟩,.slice none 0 0,.slice none 0 0]] W fun e w'=>e=.returned (.tuple #[.agg #[.int .i64 0,.int .i64 0,.string ⟨#[]⟩,.slice none 0 0,.slice none 0 0],.int .i64 90])∧Fr W w'):=Lib.hid (fun W hW=>by
       have:=HP3.out W (HFR.out.trans hW)
       rw [h3x] at this
       exact this)
      have HS7:Hid (∀ W,Calls Tryz.prog 18 #[.agg #[.int .i64 0,.int .i64 0,.string ⟨#[]⟩,.slice none 0 0,.slice none 0 0],.agg #[.int .i64 0,.int .i64 0,.string ⟨#[]⟩,.slice none 0 0,.slice none 0 0]] W fun e w'=>e=.returned (.bool true)∧Fr W w'):=Lib.hid (fun W=>same7_is S7.zero _ _ W (zeroV_in _ _) (zeroV_in _ _))
      clear h1x h2x h3x
      obtain ⟨⟨y0,y1,y2,y3,y4⟩,_⟩:=box5 HB1R.out
      obtain ⟨⟨z0,z1,z2,z3,z4⟩,_⟩:=box5 HB2R.out
      go_upto_region 11 with (go_at_call 11;refine (HA1.out _ (Fr.refl _)).mono ?_;rintro e w10 ⟨rfl,hf⟩;have HF10:=Lib.hid hf;clear hf)
      clear y0 y1 y2 y3 y4 z0 z1 z2 z3 z4
      have hbN:=Blk.made w10 #[.int .i64 0,.int .i64 0,.string ⟨#[]⟩,.slice none 0 0,.slice none 0 0] 25
      have hkN:Fr w10 (w10.alloc (.cells #[.int .i64 0,.int .i64 0,.string ⟨#[]⟩,.slice none 0 0,.slice none 0 0] 25)):=(Fr.refl w10).alloc _
      generalize (w10.alloc (.cells #[.int .i64 0,.int .i64 0,.string ⟨#[]⟩,.slice none 0 0,.slice none 0 0] 25))=W10 at hbN hkN ⊢
      generalize w10.heap.size=X10 at hbN ⊢
      have HG10:Hid (Fr wr W10):=Lib.hid (HF10.out.trans hkN)
      have HB10:=Lib.hid hbN
      clear hbN hkN
      obtain ⟨⟨y0,y1,y2,y3,y4⟩,_⟩:=box5 (HB1R.out.keep HG10.out)
      obtain ⟨⟨z0,z1,z2,z3,z4⟩,_⟩:=box5 (HB7R.out.keep HG10.out)
      go_upto_region 12 with (go_at_call 11;refine (HA2.out _ HG10.out).mono ?_;rintro e w11 ⟨rfl,hf⟩;have HF11:=Lib.hid hf;clear hf)
      clear y0 y1 y2 y3 y4 z0 z1 z2 z3 z4
      have hbN:=Blk.made w11 #[.int .i64 0,.int .i64 0,.string ⟨#[]⟩,.slice none 0 0,.slice none 0 0] 25
      have hkN:Fr w11 (w11.alloc (.cells #[.int .i64 0,.int .i64 0,.string ⟨#[]⟩,.slice none 0 0,.slice none 0 0] 25)):=(Fr.refl w11).alloc _
      generalize (w11.alloc (.cells #[.int .i64 0,.int .i64 0,.string ⟨#[]⟩,.slice none 0 0,.slice none 0 0] 25))=W11 at hbN hkN ⊢
      generalize w11.heap.size=X11 at hbN ⊢
      have HG11:Hid (Fr W10 W11):=Lib.hid (HF11.out.trans hkN)
      have HB11:=Lib.hid hbN
      clear hbN hkN
      obtain ⟨⟨y0,y1,y2,y3,y4⟩,_⟩:=box5 (HB1R.out.keep (HG10.out.trans HG11.out))
      have z0:=True.intro
      have z1:=True.intro
      have z2:=True.intro
      have z3:=True.intro
      have z4:=True.intro
      go_upto_region 13 with (go_at_call 11;refine (HA3.out _ (HG10.out.trans HG11.out)).mono ?_;rintro e w12 ⟨rfl,hf⟩;have HF12:=Lib.hid hf;clear hf)
      clear y0 y1 y2 y3 y4 z0 z1 z2 z3 z4
      have hbN:=Blk.made w12 #[.int .i64 0,.int .i64 0,.string ⟨#[]⟩,.slice none 0 0,.slice none 0 0] 25
      have hkN:Fr w12 (w12.alloc (.cells #[.int .i64 0,.int .i64 0,.string ⟨#[]⟩,.slice none 0 0,.slice none 0 0] 25)):=(Fr.refl w12).alloc _
      generalize (w12.alloc (.cells #[.int .i64 0,.int .i64 0,.string ⟨#[]⟩,.slice none 0 0,.slice none 0 0] 25))=W12 at hbN hkN ⊢
      generalize w12.heap.size=X12 at hbN ⊢
      have HG12:Hid (Fr W11 W12):=Lib.hid (HF12.out.trans hkN)
      have HB12:=Lib.hid hbN
      clear hbN hkN
      have HG:=Lib.hid ((HG10.out.trans HG11.out).trans HG12.out)
      obtain ⟨⟨y0,y1,y2,y3,y4⟩,_⟩:=box5 (HB1R.out.keep HG.out)
      obtain ⟨⟨x0,x1,x2,x3,x4⟩,_⟩:=box5 (HB10.out.keep (HG11.out.trans HG12.out))
      obtain ⟨⟨u0,u1,u2,u3,u4⟩,_⟩:=box5 (HB11.out.keep HG12.out)
      go_wp2_with (go_at_call 18;refine (HS7.out _).mono ?_;rintro e w13 ⟨rfl,hf⟩;obtain ⟨⟨p0,p1,p2,p3,p4⟩,_⟩:=box5 (HB1R.out.keep (HG.out.trans hf));obtain ⟨⟨r0,r1,r2,r3,r4⟩,_⟩:=box5 (HB12.out.keep hf);have HF13:=Lib.hid hf;clear hf)
      go_ret
      exact ⟨rfl,(HFR.out.trans HG.out).trans HF13.out⟩
    ·have h6:=HSC.out x h1x
     have q6:(v.kd == 6)=true:=by rw [h6];rfl
     have h3x:(if v.kd=6 then some v else none)=some v:=if_pos h6
     clear h6 hkd
     go_upto_region 10 with fail
     clear z0 z1 z2 z3 z4
     have HA1:Hid (∀ W,Fr wr W→Calls Tryz.prog 11 #[.agg #[.int .i64 v.kd,.int .i64 v.nm,.string ⟨v.tx.toArray⟩,.slice A v.ls.length c0,.slice A' v.ms.length c0'],.agg #[.int .i64 p.kd,.int .i64 p.nm,.string ⟨p.tx.toArray⟩,.slice C p.ls.length f,.slice C' p.ms.length f']] W fun e w'=>(∃ (D1:Option Addr) (g1:Nat) (D1':Option Addr) (g1':Nat),e=.returned (.tuple #[.agg #[.int .i64 x.kd,.int .i64 x.nm,.string ⟨x.tx.toArray⟩,.slice D1 x.ls.length g1,.slice D1' x.ms.length g1'],.int .i64 0])∧InV w' (Lo w'.heap.size) x (vA x D1 g1 D1' g1'))∧Fr W w'):=Lib.hid (fun W hW=>by
      have:=HP1.out W (HFR.out.trans hW)
      rw [h1x] at this
      exact this.mono (fun e w' h=>h.some_))
     have HA2:Hid (∀ W,Fr wr W→Calls Tryz.prog 11 #[.agg #[.int .i64 v.kd,.int .i64 v.nm,.string ⟨v.tx.toArray⟩,.slice A v.ls.length c0,.slice A' v.ms.length c0'],.agg #[.int .i64 p.kd,.int .i64 p.nm,.string ⟨p.tx.toArray⟩,.slice G p.ls.length k,.slice G' M k']] W fun e w'=>(∃ (D1:Option Addr) (g1:Nat) (D1':Option Addr) (g1':Nat),e=.returned (.tuple #[.agg #[.int .i64 y.kd,.int .i64 y.nm,.string ⟨y.tx.toArray⟩,.slice D1 y.ls.length g1,.slice D1' y.ms.length g1'],.int .i64 0])∧InV w' (Lo w'.heap.size) y (vA y D1 g1 D1' g1'))∧Fr W w'):=Lib.hid (fun W hW=>by
      have:=HP2.out W hW
      rw [h2x] at this
      exact this.mono (fun e w' h=>h.some_))
     have HA3:Hid (∀ W,Fr wr W→Calls Tryz.prog 11 #[.agg #[.int .i64 v.kd,.int .i64 v.nm,.string ⟨v.tx.toArray⟩,.slice A v.ls.length c0,.slice A' v.ms.length c0'],.agg #[.int .i64 6,.int .i64 0,.string ⟨#[]⟩,.slice none 0 0,.slice none 0 0]] W fun e w'=>(∃ (D1:Option Addr) (g1:Nat) (D1':Option Addr) (g1':Nat),e=.returned (.tuple #[.agg #[.int .i64 v.kd,.int .i64 v.nm,.string ⟨v.tx.toArray⟩,.slice D1 v.ls.length g1,.slice D1' v.ms.length g1'],.int .i64 0])∧InV w' (Lo w'.heap.size) v (vA v D1 g1 D1' g1'))∧Fr W w'):=Lib.hid (fun W hW=>by
      have:=HP3.out W (HFR.out.trans hW)
      rw [h3x] at this
      exact this.mono (fun e w' h=>h.some_))
     have HS7:Hid (∀ W D1 g1 D1' g1' E1 e1 E1' e1',InV W (Lo W.heap.size) x (vA x D1 g1 D1' g1')→InV W (Lo W.heap.size) y (vA y E1 e1 E1' e1')→Calls Tryz.prog 18 #[.agg #[.int .i64 x.kd,.int .i64 x.nm,.string ⟨x.tx.toArray⟩,.slice D1 x.ls.length g1,.slice D1' x.ms.length g1'],.agg #[.int .i64 y.kd,.int .i64 y.nm,.string ⟨y.tx.toArray⟩,.slice E1 y.ls.length e1,.slice E1' y.ms.length e1']] W fun e w'=>e=.returned (.bool true)∧Fr W w'):=Lib.hid (fun W D1 g1 D1' g1' E1 e1 E1' e1' a b=>same7_is h7 _ _ W a b)
     have HS5:Hid (∀ W H h H' h',Fr w W→InV W (Lo W.heap.size) v (vA v H h H' h')→Calls Tryz.prog 13 #[.agg #[.int .i64 v.kd,.int .i64 v.nm,.string ⟨v.tx.toArray⟩,.slice A v.ls.length c0,.slice A' v.ms.length c0'],.agg #[.int .i64 v.kd,.int .i64 v.nm,.string ⟨v.tx.toArray⟩,.slice H v.ls.length h,.slice H' v.ms.length h']] W fun e w'=>e=.returned (.bool true)∧Fr W w'):=Lib.hid (fun W H h H' h' hW a=>same_self v A c0 A' c0' H h H' h' W (HKV.out W hW) a)
     clear h1x h2x h3x h7
     obtain ⟨⟨y0,y1,y2,y3,y4⟩,_⟩:=box5 HB1R.out
     obtain ⟨⟨z0,z1,z2,z3,z4⟩,_⟩:=box5 HB2R.out
     go_upto_region 11 with (go_at_call 11;refine (HA1.out _ (Fr.refl _)).mono ?_;rintro e w10 ⟨⟨D1,g1,D1',g1',rfl,hi⟩,hf⟩;have HIx:=Lib.hid hi;clear hi;have HF10:=Lib.hid hf;clear hf)
     clear y0 y1 y2 y3 y4 z0 z1 z2 z3 z4
     have hbN:=Blk.made w10 #[.int .i64 x.kd,.int .i64 x.nm,.string ⟨x.tx.toArray⟩,.slice D1 x.ls.length g1,.slice D1' x.ms.length g1'] 25
     have hkN:Fr w10 (w10.alloc (.cells #[.int .i64 x.kd,.int .i64 x.nm,.string ⟨x.tx.toArray⟩,.slice D1 x.ls.length g1,.slice D1' x.ms.length g1'] 25)):=(Fr.refl w10).alloc _
     generalize (w10.alloc (.cells #[.int .i64 x.kd,.int .i64 x.nm,.string ⟨x.tx.toArray⟩,.slice D1 x.ls.length g1,.slice D1' x.ms.length g1'] 25))=W10 at hbN hkN ⊢
     generalize w10.heap.size=X10 at hbN ⊢
     have HG10:Hid (Fr wr W10):=Lib.hid (HF10.out.trans hkN)
     have HB10:=Lib.hid hbN
     have HI10:Hid (InV W10 (Lo W10.heap.size) x (vA x D1 g1 D1' g1')):=Lib.hid ((HIx.out.keep (Nat.le_refl _) hkN).lo hkN.size)
     clear HIx
     clear hbN hkN
     obtain ⟨⟨y0,y1,y2,y3,y4⟩,_⟩:=box5 (HB1R.out.keep HG10.out)
     obtain ⟨⟨z0,z1,z2,z3,z4⟩,_⟩:=box5 (HB7R.out.keep HG10.out)
     go_upto_region 12 with (go_at_call 11;refine (HA2.out _ HG10.out).mono ?_;rintro e w11 ⟨⟨E1,e1,E1',e1',rfl,hi⟩,hf⟩;have HIx:=Lib.hid hi;clear hi;have HF11:=Lib.hid hf;clear hf)
     clear y0 y1 y2 y3 y4 z0 z1 z2 z3 z4
     have hbN:=Blk.made w11 #[.int .i64 y.kd,.int .i64 y.nm,.string ⟨y.tx.toArray⟩,.slice E1 y.ls.length e1,.slice E1' y.ms.length e1'] 25
     have hkN:Fr w11 (w11.alloc (.cells #[.int .i64 y.kd,.int .i64 y.nm,.string ⟨y.tx.toArray⟩,.slice E1 y.ls.length e1,.slice E1' y.ms.length e1'] 25)):=(Fr.refl w11).alloc _
     generalize (w11.alloc (.cells #[.int .i64 y.kd,.int .i64 y.nm,.string ⟨y.tx.toArray⟩,.slice E1 y.ls.length e1,.slice E1' y.ms.length e1'] 25))=W11 at hbN hkN ⊢
     generalize w11.heap.size=X11 at hbN ⊢
     have HG11:Hid (Fr W10 W11):=Lib.hid (HF11.out.trans hkN)
     have HB11:=Lib.hid hbN
     have HI11:Hid (InV W11 (Lo W11.heap.size) y (vA y E1 e1 E1' e1')):=Lib.hid ((HIx.out.keep (Nat.le_refl _) hkN).lo hkN.size)
     clear HIx
     clear hbN hkN
     obtain ⟨⟨y0,y1,y2,y3,y4⟩,_⟩:=box5 (HB1R.out.keep (HG10.out.trans HG11.out))
     have z0:=True.intro
     have z1:=True.intro
     have z2:=True.intro
     have z3:=True.intro
     have z4:=True.intro
     go_upto_region 13 with (go_at_call 11;refine (HA3.out _ (HG10.out.trans HG11.out)).mono ?_;rintro e w12 ⟨⟨H,h,H',h',rfl,hi⟩,hf⟩;have HIx:=Lib.hid hi;clear hi;have HF12:=Lib.hid hf;clear hf)
     clear y0 y1 y2 y3 y4 z0 z1 z2 z3 z4
     have hbN:=Blk.made w12 #[.int .i64 v.kd,.int .i64 v.nm,.string ⟨v.tx.toArray⟩,.slice H v.ls.length h,.slice H' v.ms.length h'] 25
     have hkN:Fr w12 (w12.alloc (.cells #[.int .i64 v.kd,.int .i64 v.nm,.string ⟨v.tx.toArray⟩,.slice H v.ls.length h,.slice H' v.ms.length h'] 25)):=(Fr.refl w12).alloc _
     generalize (w12.alloc (.cells #[.int .i64 v.kd,.int .i64 v.nm,.string ⟨v.tx.toArray⟩,.slice H v.ls.length h,.slice H' v.ms.length h'] 25))=W12 at hbN hkN ⊢
     generalize w12.heap.size=X12 at hbN ⊢
     have HG12:Hid (Fr W11 W12):=Lib.hid (HF12.out.trans hkN)
     have HB12:=Lib.hid hbN
     have HI12:Hid (InV W12 (Lo W12.heap.size) v (vA v H h H' h')):=Lib.hid ((HIx.out.keep (Nat.le_refl _) hkN).lo hkN.size)
     clear HIx
     clear hbN hkN
     have HG:=Lib.hid ((HG10.out.trans HG11.out).trans HG12.out)
     obtain ⟨⟨y0,y1,y2,y3,y4⟩,_⟩:=box5 (HB1R.out.keep HG.out)
     obtain ⟨⟨x0,x1,x2,x3,x4⟩,_⟩:=box5 (HB10.out.keep (HG11.out.trans HG12.out))
     obtain ⟨⟨u0,u1,u2,u3,u4⟩,_⟩:=box5 (HB11.out.keep HG12.out)
     go_wp2_with (first | (go_at_call 13;have hq:=HF13.out;refine (HS5.out _ H h H' h' ((HFR.out.trans HG.out).trans hq) ((HI12.out.keep (Nat.le_refl _) hq).lo hq.size)).mono ?_;rintro e w14 ⟨rfl,hf⟩;have HF14:=Lib.hid (hq.trans hf);clear hf hq) | (go_at_call 18;refine (HS7.out _ D1 g1 D1' g1' E1 e1 E1' e1' ((HI10.out.keep (Nat.le_refl _) (HG11.out.trans HG12.out)).lo (HG11.out.trans HG12.out).size) ((HI11.out.keep (Nat.le_refl _) HG12.out).lo HG12.out.size)).mono ?_;rintro e w13 ⟨rfl,hf⟩;obtain ⟨⟨p0,p1,p2,p3,p4⟩,_⟩:=box5 (HB1R.out.keep (HG.out.trans hf));obtain ⟨⟨r0,r1,r2,r3,r4⟩,_⟩:=box5 (HB12.out.keep hf);have HF13:=Lib.hid hf;clear hf))
     go_ret
     exact ⟨rfl,(HFR.out.trans HG.out).trans HF14.out⟩
   ·have hlt':(i:Int)<(ord.length:Int):=by omega
    have hM0':¬ (0:Int)<(M:Int):=by omega
    clear hcond hend1 hend2 hi
    rcases hat with ⟨h1x,h2x⟩ | ⟨x,y,h1x,h2x,h7⟩
    ·rcases hkd with h6 | h6
     ·have q6:(v.kd == 6)=true:=by rw [h6];rfl
      have h3x:(if v.kd=6 then some v else none)=some v:=if_pos h6
      clear h6
      go_upto_region 10 with fail
      clear z0 z1 z2 z3 z4
      have HA1:Hid (∀ W,Fr wr W→Calls Tryz.prog 11 #[.agg #[.int .i64 v.kd,.int .i64 v.nm,.string ⟨v.tx.toArray⟩,.slice A v.ls.length c0,.slice A' v.ms.length c0'],.agg #[.int .i64 p.kd,.int .i64 p.nm,.string ⟨p.tx.toArray⟩,.slice C p.ls.length f,.slice C' p.ms.length f']] W fun e w'=>e=.returned (.tuple #[.agg #[.int .i64 0,.int .i64 0,.string ⟨#[]⟩,.slice none 0 0,.slice none 0 0],.int .i64 90])∧Fr W w'):=Lib.hid (fun W hW=>by
       have:=HP1.out W (HFR.out.trans hW)
       rw [h1x] at this
       exact this)
      have HA2:Hid (∀ W,Fr wr W→Calls Tryz.prog 11 #[.agg #[.int .i64 v.kd,.int .i64 v.nm,.string ⟨v.tx.toArray⟩,.slice A v.ls.length c0,.slice A' v.ms.length c0'],.agg #[.int .i64 p.kd,.int .i64 p.nm,.string ⟨p.tx.toArray⟩,.slice G p.ls.length k,.slice G' M k']] W fun e w'=>e=.returned (.tuple #[.agg #[.int .i64 0,.int .i64 0,.string ⟨#[]⟩,.slice none 0 0,.slice none 0 0],.int .i64 90])∧Fr W w'):=Lib.hid (fun W hW=>by
       have:=HP2.out W hW
       rw [h2x] at this
       exact this)
      have HA3:Hid (∀ W,Fr wr W→Calls Tryz.prog 11 #[.agg #[.int .i64 v.kd,.int .i64 v.nm,.string ⟨v.tx.toArray⟩,.slice A v.ls.length c0,.slice A' v.ms.length c0'],.agg #[.int .i64 6,.int .i64 0,.string ⟨#[]⟩,.slice none 0 0,.slice none 0 0]] W fun e w'=>(∃ (D1:Option Addr) (g1:Nat) (D1':Option Addr) (g1':Nat),e=.returned (.tuple #[.agg #[.int .i64 v.kd,.int .i64 v.nm,.string ⟨v.tx.toArray⟩,.slice D1 v.ls.length g1,.slice D1' v.ms.length g1'],.int .i64 0])∧InV w' (Lo w'.heap.size) v (vA v D1 g1 D1' g1'))∧Fr W w'):=Lib.hid (fun W hW=>by
       have:=HP3.out W (HFR.out.trans hW)
       rw [h3x] at this
       exact this.mono (fun e w' h=>h.some_))
      have HS7:Hid (∀ W,Calls Tryz.prog 18 #[.agg #[.int .i64 0,.int .i64 0,.string ⟨#[]⟩,.slice none 0 0,.slice none 0 0],.agg #[.int .i64 0,.int .i64 0,.string ⟨#[]⟩,.slice none 0 0,.slice none 0 0]] W fun e w'=>e=.returned (.bool true)∧Fr W w'):=Lib.hid (fun W=>same7_is S7.zero _ _ W (zeroV_in _ _) (zeroV_in _ _))
      have HS5:Hid (∀ W H h H' h',Fr w W→InV W (Lo W.heap.size) v (vA v H h H' h')→Calls Tryz.prog 13 #[.agg #[.int .i64 v.kd,.int .i64 v.nm,.string ⟨v.tx.toArray⟩,.slice A v.ls.length c0,.slice A' v.ms.length c0'],.agg #[.int .i64 v.kd,.int .i64 v.nm,.string ⟨v.tx.toArray⟩,.slice H v.ls.length h,.slice H' v.ms.length h']] W fun e w'=>e=.returned (.bool true)∧Fr W w'):=Lib.hid (fun W H h H' h' hW a=>same_self v A c0 A' c0' H h H' h' W (HKV.out W hW) a)
      clear h1x h2x h3x
      obtain ⟨⟨y0,y1,y2,y3,y4⟩,_⟩:=box5 HB1R.out
      obtain ⟨⟨z0,z1,z2,z3,z4⟩,_⟩:=box5 HB2R.out
      go_upto_region 11 with (go_at_call 11;refine (HA1.out _ (Fr.refl _)).mono ?_;rintro e w10 ⟨rfl,hf⟩;have HF10:=Lib.hid hf;clear hf)
      clear y0 y1 y2 y3 y4 z0 z1 z2 z3 z4
      have hbN:=Blk.made w10 #[.int .i64 0,.int .i64 0,.string ⟨#[]⟩,.slice none 0 0,.slice none 0 0] 25
      have hkN:Fr w10 (w10.alloc (.cells #[.int .i64 0,.int .i64 0,.string ⟨#[]⟩,.slice none 0 0,.slice none 0 0] 25)):=(Fr.refl w10).alloc _
      generalize (w10.alloc (.cells #[.int .i64 0,.int .i64 0,.string ⟨#[]⟩,.slice none 0 0,.slice none 0 0] 25))=W10 at hbN hkN ⊢
      generalize w10.heap.size=X10 at hbN ⊢
      have HG10:Hid (Fr wr W10):=Lib.hid (HF10.out.trans hkN)
      have HB10:=Lib.hid hbN
      clear hbN hkN
      obtain ⟨⟨y0,y1,y2,y3,y4⟩,_⟩:=box5 (HB1R.out.keep HG10.out)
      obtain ⟨⟨z0,z1,z2,z3,z4⟩,_⟩:=box5 (HB7R.out.keep HG10.out)
      go_upto_region 12 with (go_at_call 11;refine (HA2.out _ HG10.out).mono ?_;rintro e w11 ⟨rfl,hf⟩;have HF11:=Lib.hid hf;clear hf)
      clear y0 y1 y2 y3 y4 z0 z1 z2 z3 z4
      have hbN:=Blk.made w11 #[.int .i64 0,.int .i64 0,.string ⟨#[]⟩,.slice none 0 0,.slice none 0 0] 25
      have hkN:Fr w11 (w11.alloc (.cells #[.int .i64 0,.int .i64 0,.string ⟨#[]⟩,.slice none 0 0,.slice none 0 0] 25)):=(Fr.refl w11).alloc _
      generalize (w11.alloc (.cells #[.int .i64 0,.int .i64 0,.string ⟨#[]⟩,.slice none 0 0,.slice none 0 0] 25))=W11 at hbN hkN ⊢
      generalize w11.heap.size=X11 at hbN ⊢
      have HG11:Hid (Fr W10 W11):=Lib.hid (HF11.out.trans hkN)
      have HB11:=Lib.hid hbN
      clear hbN hkN
      obtain ⟨⟨y0,y1,y2,y3,y4⟩,_⟩:=box5 (HB1R.out.keep (HG10.out.trans HG11.out))
      have z0:=True.intro
      have z1:=True.intro
      have z2:=True.intro
      have z3:=True.intro
      have z4:=True.intro
      go_upto_region 13 with (go_at_call 11;refine (HA3.out _ (HG10.out.trans HG11.out)).mono ?_;rintro e w12 ⟨⟨H,h,H',h',rfl,hi⟩,hf⟩;have HIx:=Lib.hid hi;clear hi;have HF12:=Lib.hid hf;clear hf)
      clear y0 y1 y2 y3 y4 z0 z1 z2 z3 z4
      have hbN:=Blk.made w12 #[.int .i64 v.kd,.int .i64 v.nm,.string ⟨v.tx.toArray⟩,.slice H v.ls.length h,.slice H' v.ms.length h'] 25
      have hkN:Fr w12 (w12.alloc (.cells #[.int .i64 v.kd,.int .i64 v.nm,.string ⟨v.tx.toArray⟩,.slice H v.ls.length h,.slice H' v.ms.length h'] 25)):=(Fr.refl w12).alloc _
      generalize (w12.alloc (.cells #[.int .i64 v.kd,.int .i64 v.nm,.string ⟨v.tx.toArray⟩,.slice H v.ls.length h,.slice H' v.ms.length h'] 25))=W12 at hbN hkN ⊢
      generalize w12.heap.size=X12 at hbN ⊢
      have HG12:Hid (Fr W11 W12):=Lib.hid (HF12.out.trans hkN)
      have HB12:=Lib.hid hbN
      have HI12:Hid (InV W12 (Lo W12.heap.size) v (vA v H h H' h')):=Lib.hid ((HIx.out.keep (Nat.le_refl _) hkN).lo hkN.size)
      clear HIx
      clear hbN hkN
      have HG:=Lib.hid ((HG10.out.trans HG11.out).trans HG12.out)
      obtain ⟨⟨y0,y1,y2,y3,y4⟩,_⟩:=box5 (HB1R.out.keep HG.out)
      obtain ⟨⟨x0,x1,x2,x3,x4⟩,_⟩:=box5 (HB10.out.keep (HG11.out.trans HG12.out))
      obtain ⟨⟨u0,u1,u2,u3,u4⟩,_⟩:=box5 (HB11.out.keep HG12.out)
      go_wp2_with (first | (go_at_call 13;have hq:=HF13.out;refine (HS5.out _ H h H' h' ((HFR.out.trans HG.out).trans hq) ((HI12.out.keep (Nat.le_refl _) hq).lo hq.size)).mono ?_;rintro e w14 ⟨rfl,hf⟩;have HF14:=Lib.hid (hq.trans hf);clear hf hq) | (go_at_call 18;refine (HS7.out _).mono ?_;rintro e w13 ⟨rfl,hf⟩;obtain ⟨⟨p0,p1,p2,p3,p4⟩,_⟩:=box5 (HB1R.out.keep (HG.out.trans hf));obtain ⟨⟨r0,r1,r2,r3,r4⟩,_⟩:=box5 (HB12.out.keep hf);have HF13:=Lib.hid hf;clear hf))
      go_ret
      exact ⟨rfl,(HFR.out.trans HG.out).trans HF14.out⟩
     ·have q6:(v.kd == 6)=false:=(ikind h6).1
      have h3x:(if v.kd=6 then some v else none)=none:=if_neg h6
      clear h6
      go_upto_region 10 with fail
      clear z0 z1 z2 z3 z4
      have HA1:Hid (∀ W,Fr wr W→Calls Tryz.prog 11 #[.agg #[.int .i64 v.kd,.int .i64 v.nm,.string ⟨v.tx.toArray⟩,.slice A v.ls.length c0,.slice A' v.ms.length c0'],.agg #[.int .i64 p.kd,.int .i64 p.nm,.string ⟨p.tx.toArray⟩,.slice C p.ls.length f,.slice C' p.ms.length f']] W fun e w'=>e=.returned (.tuple #[.agg #[.int .i64 0,.int .i64 0,.string ⟨#[]⟩,.slice none 0 0,.slice none 0 0],.int .i64 90])∧Fr W w'):=Lib.hid (fun W hW=>by
       have:=HP1.out W (HFR.out.trans hW)
       rw [h1x] at this
       exact this)
      have HA2:Hid (∀ W,Fr wr W→Calls Tryz.prog 11 #[.agg #[.int .i64 v.kd,.int .i64 v.nm,.string ⟨v.tx.toArray⟩,.slice A v.ls.length c0,.slice A' v.ms.length c0'],.agg #[.int .i64 p.kd,.int .i64 p.nm,.string ⟨p.tx.toArray⟩,.slice G p.ls.length k,.slice G' M k']] W fun e w'=>e=.returned (.tuple #[.agg #[.int .i64 0,.int .i64 0,.string ⟨#[]⟩,.slice none 0 0,.slice none 0 0],.int .i64 90])∧Fr W w'):=Lib.hid (fun W hW=>by
       have:=HP2.out W hW
       rw [h2x] at this
       exact this)
      have HA3:Hid (∀ W,Fr wr W→Calls Tryz.prog 11 #[.agg #[.int .i64 v.kd,.int .i64 v.nm,.string ⟨v.tx.toArray⟩,.slice A v.ls.length c0,.slice A' v.ms.length c0'],.agg #[.int .i64 6,.int .i64 0,.string ⟨#[]⟩,.slice none 0 0,.slice none 0 0]] W fun e w'=>e=.returned (.tuple #[.agg #[.int .i64 0,.int .i64 0,.string ⟨#[]⟩,.slice none 0 0,.slice none 0 0],.int .i64 90])∧Fr W w'):=Lib.hid (fun W hW=>by
       have:=HP3.out W (HFR.out.trans hW)
       rw [h3x] at this
       exact this)
      have HS7:Hid (∀ W,Calls Tryz.prog 18 #[.agg #[.int .i64 0,.int .i64 0,.string ⟨#[]⟩,.slice none 0 0,.slice none 0 0],.agg #[.int .i64 0,.int .i64 0,.string ⟨#[]⟩,.slice none 0 0,.slice none 0 0]] W fun e w'=>e=.returned (.bool true)∧Fr W w'):=Lib.hid (fun W=>same7_is S7.zero _ _ W (zeroV_in _ _) (zeroV_in _ _))
      clear h1x h2x h3x
      obtain ⟨⟨y0,y1,y2,y3,y4⟩,_⟩:=box5 HB1R.out
      obtain ⟨⟨z0,z1,z2,z3,z4⟩,_⟩:=box5 HB2R.out
      go_upto_region 11 with (go_at_call 11;refine (HA1.out _ (Fr.refl _)).mono ?_;rintro e w10 ⟨rfl,hf⟩;have HF10:=Lib.hid hf;clear hf)
      clear y0 y1 y2 y3 y4 z0 z1 z2 z3 z4
      have hbN:=Blk.made w10 #[.int .i64 0,.int .i64 0,.string ⟨#[]⟩,.slice none 0 0,.slice none 0 0] 25
      have hkN:Fr w10 (w10.alloc (.cells #[.int .i64 0,.int .i64 0,.string ⟨#[]⟩,.slice none 0 0,.slice none 0 0] 25)):=(Fr.refl w10).alloc _
      generalize (w10.alloc (.cells #[.int .i64 0,.int .i64 0,.string ⟨#[]⟩,.slice none 0 0,.slice none 0 0] 25))=W10 at hbN hkN ⊢
      generalize w10.heap.size=X10 at hbN ⊢
      have HG10:Hid (Fr wr W10):=Lib.hid (HF10.out.trans hkN)
      have HB10:=Lib.hid hbN
      clear hbN hkN
      obtain ⟨⟨y0,y1,y2,y3,y4⟩,_⟩:=box5 (HB1R.out.keep HG10.out)
      obtain ⟨⟨z0,z1,z2,z3,z4⟩,_⟩:=box5 (HB7R.out.keep HG10.out)
      go_upto_region 12 with (go_at_call 11;refine (HA2.out _ HG10.out).mono ?_;rintro e w11 ⟨rfl,hf⟩;have HF11:=Lib.hid hf;clear hf)
      clear y0 y1 y2 y3 y4 z0 z1 z2 z3 z4
      have hbN:=Blk.made w11 #[.int .i64 0,.int .i64 0,.string ⟨#[]⟩,.slice none 0 0,.slice none 0 0] 25
      have hkN:Fr w11 (w11.alloc (.cells #[.int .i64 0,.int .i64 0,.string ⟨#[]⟩,.slice none 0 0,.slice none 0 0] 25)):=(Fr.refl w11).alloc _
      generalize (w11.alloc (.cells #[.int .i64 0,.int .i64 0,.string ⟨#[]⟩,.slice none 0 0,.slice none 0 0] 25))=W11 at hbN hkN ⊢
      generalize w11.heap.size=X11 at hbN ⊢
      have HG11:Hid (Fr W10 W11):=Lib.hid (HF11.out.trans hkN)
      have HB11:=Lib.hid hbN
      clear hbN hkN
      obtain ⟨⟨y0,y1,y2,y3,y4⟩,_⟩:=box5 (HB1R.out.keep (HG10.out.trans HG11.out))
      have z0:=True.intro
      have z1:=True.intro
      have z2:=True.intro
      have z3:=True.intro
      have z4:=True.intro
      go_upto_region 13 with (go_at_call 11;refine (HA3.out _ (HG10.out.trans HG11.out)).mono ?_;rintro e w12 ⟨rfl,hf⟩;have HF12:=Lib.hid hf;clear hf)
      clear y0 y1 y2 y3 y4 z0 z1 z2 z3 z4
      have hbN:=Blk.made w12 #[.int .i64 0,.int .i64 0,.string ⟨#[]⟩,.slice none 0 0,.slice none 0 0] 25
      have hkN:Fr w12 (w12.alloc (.cells #[.int .i64 0,.int .i64 0,.string ⟨#[]⟩,.slice none 0 0,.slice none 0 0] 25)):=(Fr.refl w12).alloc _
      generalize (w12.alloc (.cells #[.int .i64 0,.int .i64 0,.string ⟨#[]⟩,.slice none 0 0,.slice none 0 0] 25))=W12 at hbN hkN ⊢
      generalize w12.heap.size=X12 at hbN ⊢
      have HG12:Hid (Fr W11 W12):=Lib.hid (HF12.out.trans hkN)
      have HB12:=Lib.hid hbN
      clear hbN hkN
      have HG:=Lib.hid ((HG10.out.trans HG11.out).trans HG12.out)
      obtain ⟨⟨y0,y1,y2,y3,y4⟩,_⟩:=box5 (HB1R.out.keep HG.out)
      obtain ⟨⟨x0,x1,x2,x3,x4⟩,_⟩:=box5 (HB10.out.keep (HG11.out.trans HG12.out))
      obtain ⟨⟨u0,u1,u2,u3,u4⟩,_⟩:=box5 (HB11.out.keep HG12.out)
      go_wp2_with (go_at_call 18;refine (HS7.out _).mono ?_;rintro e w13 ⟨rfl,hf⟩;obtain ⟨⟨p0,p1,p2,p3,p4⟩,_⟩:=box5 (HB1R.out.keep (HG.out.trans hf));obtain ⟨⟨r0,r1,r2,r3,r4⟩,_⟩:=box5 (HB12.out.keep hf);have HF13:=Lib.hid hf;clear hf)
      go_ret
      exact ⟨rfl,(HFR.out.trans HG.out).trans HF13.out⟩
    ·have h6:=HSC.out x h1x
     have q6:(v.kd == 6)=true:=by rw [h6];rfl
     have h3x:(if v.kd=6 then some v else none)=some v:=if_pos h6
     clear h6 hkd
     go_upto_region 10 with fail
     clear z0 z1 z2 z3 z4
     have HA1:Hid (∀ W,Fr wr W→Calls Tryz.prog 11 #[.agg #[.int .i64 v.kd,.int .i64 v.nm,.string ⟨v.tx.toArray⟩,.slice A v.ls.length c0,.slice A' v.ms.length c0'],.agg #[.int .i64 p.kd,.int .i64 p.nm,.string ⟨p.tx.toArray⟩,.slice C p.ls.length f,.slice C' p.ms.length f']] W fun e w'=>(∃ (D1:Option Addr) (g1:Nat) (D1':Option Addr) (g1':Nat),e=.returned (.tuple #[.agg #[.int .i64 x.kd,.int .i64 x.nm,.string ⟨x.tx.toArray⟩,.slice D1 x.ls.length g1,.slice D1' x.ms.length g1'],.int .i64 0])∧InV w' (Lo w'.heap.size) x (vA x D1 g1 D1' g1'))∧Fr W w'):=Lib.hid (fun W hW=>by
      have:=HP1.out W (HFR.out.trans hW)
      rw [h1x] at this
      exact this.mono (fun e w' h=>h.some_))
     have HA2:Hid (∀ W,Fr wr W→Calls Tryz.prog 11 #[.agg #[.int .i64 v.kd,.int .i64 v.nm,.string ⟨v.tx.toArray⟩,.slice A v.ls.length c0,.slice A' v.ms.length c0'],.agg #[.int .i64 p.kd,.int .i64 p.nm,.string ⟨p.tx.toArray⟩,.slice G p.ls.length k,.slice G' M k']] W fun e w'=>(∃ (D1:Option Addr) (g1:Nat) (D1':Option Addr) (g1':Nat),e=.returned (.tuple #[.agg #[.int .i64 y.kd,.int .i64 y.nm,.string ⟨y.tx.toArray⟩,.slice D1 y.ls.length g1,.slice D1' y.ms.length g1'],.int .i64 0])∧InV w' (Lo w'.heap.size) y (vA y D1 g1 D1' g1'))∧Fr W w'):=Lib.hid (fun W hW=>by
      have:=HP2.out W hW
      rw [h2x] at this
      exact this.mono (fun e w' h=>h.some_))
     have HA3:Hid (∀ W,Fr wr W→Calls Tryz.prog 11 #[.agg #[.int .i64 v.kd,.int .i64 v.nm,.string ⟨v.tx.toArray⟩,.slice A v.ls.length c0,.slice A' v.ms.length c0'],.agg #[.int .i64 6,.int .i64 0,.string ⟨#[]⟩,.slice none 0 0,.slice none 0 0]] W fun e w'=>(∃ (D1:Option Addr) (g1:Nat) (D1':Option Addr) (g1':Nat),e=.returned (.tuple #[.agg #[.int .i64 v.kd,.int .i64 v.nm,.string ⟨v.tx.toArray⟩,.slice D1 v.ls.length g1,.slice D1' v.ms.length g1'],.int .i64 0])∧InV w' (Lo w'.heap.size) v (vA v D1 g1 D1' g1'))∧Fr W w'):=Lib.hid (fun W hW=>by
      have:=HP3.out W (HFR.out.trans hW)
      rw [h3x] at this
      exact this.mono (fun e w' h=>h.some_))
     have HS7:Hid (∀ W D1 g1 D1' g1' E1 e1 E1' e1',InV W (Lo W.heap.size) x (vA x D1 g1 D1' g1')→InV W (Lo W.heap.size) y (vA y E1 e1 E1' e1')→Calls Tryz.prog 18 #[.agg #[.int .i64 x.kd,.int .i64 x.nm,.string ⟨x.tx.toArray⟩,.slice D1 x.ls.length g1,.slice D1' x.ms.length g1'],.agg #[.int .i64 y.kd,.int .i64 y.nm,.string ⟨y.tx.toArray⟩,.slice E1 y.ls.length e1,.slice E1' y.ms.length e1']] W fun e w'=>e=.returned (.bool true)∧Fr W w'):=Lib.hid (fun W D1 g1 D1' g1' E1 e1 E1' e1' a b=>same7_is h7 _ _ W a b)
     have HS5:Hid (∀ W H h H' h',Fr w W→InV W (Lo W.heap.size) v (vA v H h H' h')→Calls Tryz.prog 13 #[.agg #[.int .i64 v.kd,.int .i64 v.nm,.string ⟨v.tx.toArray⟩,.slice A v.ls.length c0,.slice A' v.ms.length c0'],.agg #[.int .i64 v.kd,.int .i64 v.nm,.string ⟨v.tx.toArray⟩,.slice H v.ls.length h,.slice H' v.ms.length h']] W fun e w'=>e=.returned (.bool true)∧Fr W w'):=Lib.hid (fun W H h H' h' hW a=>same_self v A c0 A' c0' H h H' h' W (HKV.out W hW) a)
     clear h1x h2x h3x h7
     obtain ⟨⟨y0,y1,y2,y3,y4⟩,_⟩:=box5 HB1R.out
     obtain ⟨⟨z0,z1,z2,z3,z4⟩,_⟩:=box5 HB2R.out
     go_upto_region 11 with (go_at_call 11;refine (HA1.out _ (Fr.refl _)).mono ?_;rintro e w10 ⟨⟨D1,g1,D1',g1',rfl,hi⟩,hf⟩;have HIx:=Lib.hid hi;clear hi;have HF10:=Lib.hid hf;clear hf)
     clear y0 y1 y2 y3 y4 z0 z1 z2 z3 z4
     have hbN:=Blk.made w10 #[.int .i64 x.kd,.int .i64 x.nm,.string ⟨x.tx.toArray⟩,.slice D1 x.ls.length g1,.slice D1' x.ms.length g1'] 25
     have hkN:Fr w10 (w10.alloc (.cells #[.int .i64 x.kd,.int .i64 x.nm,.string ⟨x.tx.toArray⟩,.slice D1 x.ls.length g1,.slice D1' x.ms.length g1'] 25)):=(Fr.refl w10).alloc _
     generalize (w10.alloc (.cells #[.int .i64 x.kd,.int .i64 x.nm,.string ⟨x.tx.toArray⟩,.slice D1 x.ls.length g1,.slice D1' x.ms.length g1'] 25))=W10 at hbN hkN ⊢
     generalize w10.heap.size=X10 at hbN ⊢
     have HG10:Hid (Fr wr W10):=Lib.hid (HF10.out.trans hkN)
     have HB10:=Lib.hid hbN
     have HI10:Hid (InV W10 (Lo W10.heap.size) x (vA x D1 g1 D1' g1')):=Lib.hid ((HIx.out.keep (Nat.le_refl _) hkN).lo hkN.size)
     clear HIx
     clear hbN hkN
     obtain ⟨⟨y0,y1,y2,y3,y4⟩,_⟩:=box5 (HB1R.out.keep HG10.out)
     obtain ⟨⟨z0,z1,z2,z3,z4⟩,_⟩:=box5 (HB7R.out.keep HG10.out)
     go_upto_region 12 with (go_at_call 11;refine (HA2.out _ HG10.out).mono ?_;rintro e w11 ⟨⟨E1,e1,E1',e1',rfl,hi⟩,hf⟩;have HIx:=Lib.hid hi;clear hi;have HF11:=Lib.hid hf;clear hf)
     clear y0 y1 y2 y3 y4 z0 z1 z2 z3 z4
     have hbN:=Blk.made w11 #[.int .i64 y.kd,.int .i64 y.nm,.string ⟨y.tx.toArray⟩,.slice E1 y.ls.length e1,.slice E1' y.ms.length e1'] 25
     have hkN:Fr w11 (w11.alloc (.cells #[.int .i64 y.kd,.int .i64 y.nm,.string ⟨y.tx.toArray⟩,.slice E1 y.ls.length e1,.slice E1' y.ms.length e1'] 25)):=(Fr.refl w11).alloc _
     generalize (w11.alloc (.cells #[.int .i64 y.kd,.int .i64 y.nm,.string ⟨y.tx.toArray⟩,.slice E1 y.ls.length e1,.slice E1' y.ms.length e1'] 25))=W11 at hbN hkN ⊢
     generalize w11.heap.size=X11 at hbN ⊢
     have HG11:Hid (Fr W10 W11):=Lib.hid (HF11.out.trans hkN)
     have HB11:=Lib.hid hbN
     have HI11:Hid (InV W11 (Lo W11.heap.size) y (vA y E1 e1 E1' e1')):=Lib.hid ((HIx.out.keep (Nat.le_refl _) hkN).lo hkN.size)
     clear HIx
     clear hbN hkN
     obtain ⟨⟨y0,y1,y2,y3,y4⟩,_⟩:=box5 (HB1R.out.keep (HG10.out.trans HG11.out))
     have z0:=True.intro
     have z1:=True.intro
     have z2:=True.intro
     have z3:=True.intro
     have z4:=True.intro
     go_upto_region 13 with (go_at_call 11;refine (HA3.out _ (HG10.out.trans HG11.out)).mono ?_;rintro e w12 ⟨⟨H,h,H',h',rfl,hi⟩,hf⟩;have HIx:=Lib.hid hi;clear hi;have HF12:=Lib.hid hf;clear hf)
     clear y0 y1 y2 y3 y4 z0 z1 z2 z3 z4
     have hbN:=Blk.made w12 #[.int .i64 v.kd,.int .i64 v.nm,.string ⟨v.tx.toArray⟩,.slice H v.ls.length h,.slice H' v.ms.length h'] 25
     have hkN:Fr w12 (w12.alloc (.cells #[.int .i64 v.kd,.int .i64 v.nm,.string ⟨v.tx.toArray⟩,.slice H v.ls.length h,.slice H' v.ms.length h'] 25)):=(Fr.refl w12).alloc _
     generalize (w12.alloc (.cells #[.int .i64 v.kd,.int .i64 v.nm,.string ⟨v.tx.toArray⟩,.slice H v.ls.length h,.slice H' v.ms.length h'] 25))=W12 at hbN hkN ⊢
     generalize w12.heap.size=X12 at hbN ⊢
     have HG12:Hid (Fr W11 W12):=Lib.hid (HF12.out.trans hkN)
     have HB12:=Lib.hid hbN
     have HI12:Hid (InV W12 (Lo W12.heap.size) v (vA v H h H' h')):=Lib.hid ((HIx.out.keep (Nat.le_refl _) hkN).lo hkN.size)
     clear HIx
     clear hbN hkN
     have HG:=Lib.hid ((HG10.out.trans HG11.out).trans HG12.out)
     obtain ⟨⟨y0,y1,y2,y3,y4⟩,_⟩:=box5 (HB1R.out.keep HG.out)
     obtain ⟨⟨x0,x1,x2,x3,x4⟩,_⟩:=box5 (HB10.out.keep (HG11.out.trans HG12.out))
     obtain ⟨⟨u0,u1,u2,u3,u4⟩,_⟩:=box5 (HB11.out.keep HG12.out)
     go_wp2_with (first | (go_at_call 13;have hq:=HF13.out;refine (HS5.out _ H h H' h' ((HFR.out.trans HG.out).trans hq) ((HI12.out.keep (Nat.le_refl _) hq).lo hq.size)).mono ?_;rintro e w14 ⟨rfl,hf⟩;have HF14:=Lib.hid (hq.trans hf);clear hf hq) | (go_at_call 18;refine (HS7.out _ D1 g1 D1' g1' E1 e1 E1' e1' ((HI10.out.keep (Nat.le_refl _) (HG11.out.trans HG12.out)).lo (HG11.out.trans HG12.out).size) ((HI11.out.keep (Nat.le_refl _) HG12.out).lo HG12.out.size)).mono ?_;rintro e w13 ⟨rfl,hf⟩;obtain ⟨⟨p0,p1,p2,p3,p4⟩,_⟩:=box5 (HB1R.out.keep (HG.out.trans hf));obtain ⟨⟨r0,r1,r2,r3,r4⟩,_⟩:=box5 (HB12.out.keep hf);have HF13:=Lib.hid hf;clear hf))
     go_ret
     exact ⟨rfl,(HFR.out.trans HG.out).trans HF14.out⟩
end Go.Proofs.YtlmcfhokfiibkaaGreatDoor
